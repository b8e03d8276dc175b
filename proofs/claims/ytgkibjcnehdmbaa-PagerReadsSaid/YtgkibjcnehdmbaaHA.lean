/- Contracts of the functions of the disk, the space and the pager, and of the law. The conditions stand in each theorem. -/
import Derived.Test.YtgkibjcnehdmbaaProg
import Derived.Below
import Derived.Deep.Draws
import Derived.Deep.AppendLies
import Derived.Maps.AppendAt
import Derived.OwnWalk
import Derived.Laws.BytesArg
import Derived.Laws.MakeOwn
import Derived.Laws.OwnMore
import Derived.Deep.OwnRows
import Derived.Tactics
import Derived.Laws.Slices
import Derived.WalkKit
import Derived.KernelRfl
import Derived.RowKit3
import Derived.Deep.LoopGhost
import Derived.Deep.QuietTactic
import Derived.BigQuiet
import Derived.WideLaws
import Derived.Deep.DeepCutAuto
import Derived.Deep.CutBlock
import Derived.Deep.RegionHeld3
import Derived.Laws.Rows
import Derived.ArgAppend
import Derived.Laws.IdiomCopy
import Derived.OrdersHeld
import Derived.Laws.BitsLemmas
import Derived.RowKit
import Derived.Deep.WholeRow
import Derived.StillTailTactics
import Derived.Outline
import Derived.Lib.IndexMore
import Derived.Maps.Own
import Derived.Test.YtgkibjcnehdmbaaWWords
import Derived.Lib.Builder
import Derived.Deep.MidRow
import Derived.Laws.CopyOwn
import Derived.Deep.RegionLaw
import Derived.Maps.OwnSet
import Derived.Maps.OwnOps
namespace Go.Proofs.Ytgkibjcnehdmbaa.G
section
open Go.RowKit Go.Proofs.YtgkibjcnehdmbaaW.PrintWords Go.Proofs.YtgkibjcnehdmbaaW.PrintLast Go.Proofs.YtgkibjcnehdmbaaW.PrintMore
set_option linter.unusedVariables false
set_option linter.unusedSimpArgs false
/-- What a call leaves alone: all blocks that stood, but those of G. -/
structure Fr (G : Nat → Prop) (w w' : World) : Prop where
  os : w'.os = w.os
  tape : w'.tape = w.tape
  output : w'.output = w.output
  size : w.heap.size ≤ w'.heap.size
  block : ∀ k, k < w.heap.size → ¬ G k → w'.heap[k]? = w.heap[k]?
section
variable {G G1 : Nat → Prop} {w w1 w2 : World}
theorem Fr.refl (G : Nat → Prop) (w : World) : Fr G w w := ⟨rfl, rfl, rfl, Nat.le_refl _, fun _ _ _ => rfl⟩
theorem Fr.then_ (h : Fr G w w1) (k : Fr G1 w1 w2) (hs : ∀ i, G1 i → G i ∨ w.heap.size ≤ i) : Fr G w w2 :=
  ⟨k.os.trans h.os, k.tape.trans h.tape, k.output.trans h.output, Nat.le_trans h.size k.size, fun i hi hn => (k.block i (Nat.lt_of_lt_of_le hi h.size) (fun hg => (hs i hg).elim hn (by omega))).trans (h.block i hi hn)⟩
theorem Fr.trans (h : Fr G w w1) (k : Fr G w1 w2) : Fr G w w2 := h.then_ k fun _ h => Or.inl h
theorem Fr.of_below (h : Below w.heap.size w w1) : Fr G w w1 := ⟨h.os, h.tape, h.output, h.size, fun i hi _ => h.block i hi⟩
theorem Fr.below (h : Fr G w w1) (k : Below w1.heap.size w1 w2) : Fr G w w2 := h.trans (Fr.of_below k)
theorem Fr.drewN (h : Fr G w w1) (n : Nat) : Fr G w (w1.drewN n) := ⟨h.os, h.tape, h.output, h.size, h.block⟩
theorem Fr.drew (h : Fr G w w1) : Fr G w w1.drew := ⟨h.os, h.tape, h.output, h.size, h.block⟩
theorem Fr.alloc (h : Fr G w w1) (o : Obj) : Fr G w (w1.alloc o) := h.below ((Below.refl _ _).alloc (Nat.le_refl _) o)
theorem Fr.setCell (h : Fr G w w1) {p : Addr} (hp : G p.block ∨ w.heap.size ≤ p.block) (v : Value) : Fr G w (w1.setCell p v) :=
  ⟨h.os, h.tape, h.output, by simpa [World.setCell] using h.size, fun i hi hn => (Below.heap_setCell _ _ _ _ (fun e => by subst e; exact hp.elim hn (by omega))).trans (h.block i hi hn)⟩
theorem Fr.own {g : Nat} (h : Fr (· = g) w w1) (j : Nat) (v : Value) : Fr (· = g) w (w1.setCell ⟨g, j, none⟩ v) := h.setCell (p := ⟨g, j, none⟩) (Or.inl rfl) v
theorem Fr.to_below {B : Nat} {w0 : World} (h : Below B w0 w) (k : Fr G w w1) (hB : B ≤ w.heap.size) (hg : ∀ i, G i → B ≤ i) : Below B w0 w1 :=
  ⟨k.os.trans h.os, k.tape.trans h.tape, k.output.trans h.output, Nat.le_trans h.size k.size, fun i hi => (k.block i (by omega) (fun e => by have := hg i e; omega)).trans (h.block i hi)⟩
theorem Fr.keepBut {g : Nat} (h : Fr (· = g) w w1) : KeepBut w w1 g none := ⟨h.size, fun i hi hn _ => h.block i hi hn⟩
end
theorem Below.drN {B : Nat} {w w1 : World} (h : Below B w w1) (n : Nat) : Below B w (w1.drewN n) := ⟨h.os, h.tape, h.output, h.size, h.block⟩
section
variable {w w' w0 : World} {B : Nat} {o : Obj} {c : Array Value} {e : TypeId}
/-- A block of cells, whole. -/
def BL (w : World) (B : Nat) (c : Array Value) (e : TypeId) : Prop := w.heap[B]? = some (.cells c e (0, 0))
theorem BL.new (w : World) (c : Array Value) (e : TypeId) : BL (w.alloc (.cells c e)) w.heap.size c e := by simpa [BL] using heap_alloc_last w (.cells c e)
theorem BL.lt (h : BL w B c e) : B < w.heap.size := (Array.getElem?_eq_some_iff.1 h).1
theorem BL.keep (h : BL w B c e) (hb : Below w.heap.size w w') : BL w' B c e := (hb.block B h.lt).trans h
theorem BL.fr {G : Nat → Prop} (h : BL w B c e) (hb : Fr G w w') (hg : ¬ G B) : BL w' B c e := (hb.block B h.lt hg).trans h
theorem BL.drN (h : BL w B c e) (n : Nat) : BL (w.drewN n) B c e := h
theorem BL.dr (h : BL w B c e) : BL w.drew B c e := h
theorem BL.far (h : BL w B c e) (a : Addr) (u : Value) (hg : B ≠ a.block) : BL (w.setCell a u) B c e := (Below.heap_setCell _ _ _ _ hg).trans h
theorem BL.cell (h : BL w B c e) (j : Nat) : w.cell? ⟨B, j, none⟩ = c[j]? := Lib.cell_of_heap h j
theorem BL.free (h : BL w B c e) (j : Nat) : w.frozen? ⟨B, j, none⟩ = false := Lib.frozen_of_heap h j
theorem BL.set (h : BL w B c e) (j : Nat) (u : Value) : BL (w.setCell ⟨B, j, none⟩ u) B (c.setIfInBounds j u) e := by
  unfold BL at *
  simp [World.setCell, Array.getElem?_modify, h]
end
theorem Below.dr {B : Nat} {w w1 : World} (h : Below B w w1) : Below B w w1.drew := ⟨h.os, h.tape, h.output, h.size, h.block⟩
/-- A disk's own block. -/
def DB (w : World) (g : Nat) (N S P : Value) (fu : Bool) (lf : Int) (of : Bool) : Prop := BL w g #[N, S, P, .bool fu, .int .i64 lf, .bool of] 94
section
variable {w w' : World} {g : Nat} {N S P : Value} {fu of : Bool} {lf : Int}
theorem DB.all (h : DB w g N S P fu lf of) : w.cell? ⟨g, 0, none⟩ = some N ∧ w.cell? ⟨g, 1, none⟩ = some S ∧ w.cell? ⟨g, 2, none⟩ = some P ∧ w.cell? ⟨g, 3, none⟩ = some (.bool fu) ∧ w.cell? ⟨g, 4, none⟩ = some (.int .i64 lf) ∧ w.cell? ⟨g, 5, none⟩ = some (.bool of) ∧ (∀ j, w.frozen? ⟨g, j, none⟩ = false) :=
  ⟨BL.cell h 0, BL.cell h 1, BL.cell h 2, BL.cell h 3, BL.cell h 4, BL.cell h 5, BL.free h⟩
end
set_option maxHeartbeats 1000000 in
theorem disk_Blocks.calls (g : Nat) (A : Option Addr) (n c : Nat) (S P : Value) (fu of : Bool) (lf : Int) (w : World) (h : DB w g (.slice A n c) S P fu lf of) :
    Calls Try.prog 52 #[.pointer (some ⟨g, 0, none⟩)] w fun e w' => e = .returned (.int .i64 n) ∧ w = w' := by
  obtain ⟨h0, h1, h2, h3, h4, h5, hf⟩ := h.all
  clear h
  go_enter Try.func52, Try.ntmps52
  go_wp2
  go_ret
  exact ⟨rfl, rfl⟩
theorem disk_Blocks.nil (w : World) :
    Calls Try.prog 52 #[.pointer none] w fun e w' => e = .returned (.int .i64 0) ∧ w = w' := by
  go_enter Try.func52, Try.ntmps52
  go_wp2
  go_ret
  exact ⟨rfl, rfl⟩
set_option maxHeartbeats 1000000 in
theorem disk_has.calls (g : Nat) (A : Option Addr) (n c : Nat) (S P : Value) (fu of : Bool) (lf : Int) (i : Int) (w : World) (h : DB w g (.slice A n c) S P fu lf of) :
    Calls Try.prog 50 #[.pointer (some ⟨g, 0, none⟩), .int .i64 i] w fun e w' => e = .returned (.bool (decide (0 ≤ i) && decide (i < (n : Int)))) ∧ w = w' := by
  by_cases h0 : 0 ≤ i
  · have d0 : decide (0 ≤ i) = true := decide_eq_true h0
    have d1 : decide (i ≥ 0) = true := decide_eq_true h0
    have H := Aside0.mk h
    clear h
    go_enter Try.func50, Try.ntmps50
    go_wp2_with fail
    refine (disk_Blocks.calls g A n c S P fu of lf _ H.out).mono ?_
    rintro e w' ⟨rfl, rfl⟩
    go_wp2
    go_ret
    exact ⟨by simp [h0], rfl⟩
  · have d0 : decide (0 ≤ i) = false := decide_eq_false h0
    have d1 : decide (i ≥ 0) = false := decide_eq_false h0
    clear h
    go_enter Try.func50, Try.ntmps50
    go_wp2
    go_ret
    exact ⟨by simp [h0], rfl⟩
theorem DB.left {w : World} {g : Nat} {N S P : Value} {fu of : Bool} {lf : Int} (h : DB w g N S P fu lf of) (x : Int) : DB (w.setCell ⟨g, 4, none⟩ (.int .i64 x)) g N S P fu x of := BL.set h 4 _
theorem DB.offed {w : World} {g : Nat} {N S P : Value} {fu of : Bool} {lf : Int} (h : DB w g N S P fu lf of) (x : Bool) : DB (w.setCell ⟨g, 5, none⟩ (.bool x)) g N S P fu lf x := BL.set h 5 _
def PowOn (w : World) (g : Nat) (N S P : Value) (fu : Bool) (lf : Int) (e : Ending) (w' : World) : Prop := e = .returned (.bool true) ∧ DB w' g N S P fu (wrap64 (lf - 1)) false ∧ Fr (· = g) w w'
def PowOff (w : World) (g : Nat) (N S P : Value) (fu : Bool) (lf : Int) (e : Ending) (w' : World) : Prop := e = .returned (.bool false) ∧ DB w' g N S P fu lf true ∧ Fr (· = g) w w'
set_option maxHeartbeats 1000000 in
theorem disk_power.on (g : Nat) (N S P : Value) (fu : Bool) (lf : Int) (w : World) (h : DB w g N S P fu lf false) (hp : (fu && lf == 0) = false) :
    Calls Try.prog 51 #[.pointer (some ⟨g, 0, none⟩)] w (PowOn w g N S P fu lf) := by
  obtain ⟨h0, h1, h2, h3, h4, h5, hf⟩ := h.all
  have H := Aside0.mk h
  have hf3 := hf 4
  obtain ⟨y, hy⟩ : ∃ y, wrap64 (lf - 1) = y := ⟨_, rfl⟩
  have hyw : IntKind.i64.wrap (lf - 1) = y := (i64_w _).trans hy
  have HY := Aside0.mk hy
  clear h hf hy
  cases fu with
  | true =>
    have e1 : (lf == 0) = false := by simpa using hp
    clear hp
    go_enter Try.func51, Try.ntmps51
    go_wp2
    go_ret
    exact ⟨rfl, by rw [HY.out]; exact H.out.left y, (Fr.refl _ w).own 4 _⟩
  | false =>
    clear hp
    go_enter Try.func51, Try.ntmps51
    go_wp2
    go_ret
    exact ⟨rfl, by rw [HY.out]; exact H.out.left y, (Fr.refl _ w).own 4 _⟩
set_option maxHeartbeats 1000000 in
theorem disk_power.off (g : Nat) (N S P : Value) (fu of : Bool) (lf : Int) (w : World) (h : DB w g N S P fu lf of) (hp : (of || (fu && lf == 0)) = true) :
    Calls Try.prog 51 #[.pointer (some ⟨g, 0, none⟩)] w (PowOff w g N S P fu lf) := by
  obtain ⟨h0, h1, h2, h3, h4, h5, hf⟩ := h.all
  have H := Aside0.mk h
  have hf5 := hf 5
  clear h hf
  cases fu with
  | true =>
    cases hl : (lf == 0) with
    | true =>
      obtain rfl : lf = 0 := by simpa using hl
      clear hl hp
      have H5 := H.out.offed true
      have c5 : (w.setCell ⟨g, 5, none⟩ (.bool true)).cell? ⟨g, 5, none⟩ = some (.bool true) := BL.cell H5 5
      have HH := Aside0.mk H5
      clear H5
      go_enter Try.func51, Try.ntmps51
      go_wp2
      go_ret
      exact ⟨rfl, HH.out, (Fr.refl _ w).own 5 _⟩
    | false =>
      obtain rfl : of = true := by simpa [hl] using hp
      clear hp
      go_enter Try.func51, Try.ntmps51
      go_wp2
      go_ret
      exact ⟨rfl, H.out, Fr.refl _ w⟩
  | false =>
    obtain rfl : of = true := by simpa using hp
    clear hp
    go_enter Try.func51, Try.ntmps51
    go_wp2
    go_ret
    exact ⟨rfl, H.out, Fr.refl _ w⟩
theorem block_info : (Try.prog.info? 106).map (fun i => (i.zero, i.size, i.bytes)) = some (some (.agg (Array.replicate 256 (.int .u8 0))), 256, 256) := by kernel_rfl
/-- The cells of so many blocks of zeros. -/
def zc (n : Nat) : Array Value := madeCells (Value.agg (Array.replicate 256 (.int .u8 0))).cells (n * 256)
theorem mk_blocks (n : Nat) (h : n ≤ 4096) (w : World) : (Instr.makeSlice 91 (.int .i64 n) (.int .i64 n)).run Try.prog w = .ok (.slice (some ⟨w.heap.size, 0, none⟩) n n) (w.alloc (.cells (zc n) 106)) := by
  obtain ⟨i, hi, hm⟩ := Option.map_eq_some_iff.1 block_info
  simp only [Prod.mk.injEq] at hm
  have := run_makeSlice (P := Try.prog) (w := w) 91 106 i _ Try.underlying91 hi hm.1 .i64 .i64 n n (by omega) (by omega) (by rw [hm.2.1]; simp; omega) (by rw [hm.2.2]; omega) (by omega)
  rw [this, hm.2.1]
  simp [zc]
def NewP (w : World) (n : Nat) (e : Ending) (w' : World) : Prop := ∃ g N S : Nat, e = .returned (.tuple #[.pointer (some ⟨g, 0, none⟩), .int .i64 0]) ∧ DB w' g (.slice (some ⟨N, 0, none⟩) n n) (.slice (some ⟨S, 0, none⟩) n n) (.slice none 0 0) false 0 false ∧ BL w' N (zc n) 106 ∧ BL w' S (zc n) 106 ∧ N ≠ S ∧ N ≠ g ∧ S ≠ g ∧ w.heap.size ≤ g ∧ w.heap.size ≤ N ∧ w.heap.size ≤ S ∧ Below w.heap.size w w'
theorem al {w : World} (o : Obj) : Below w.heap.size w (w.alloc o) := (Below.refl _ _).alloc (Nat.le_refl _) o
theorem al_size (w : World) (o : Obj) : (w.alloc o).heap.size = w.heap.size + 1 := by show (w.heap.push _).size = _; exact Array.size_push _
set_option maxHeartbeats 2000000 in
set_option maxRecDepth 100000 in
theorem disk_New.calls (n : Nat) (w : World) (h1 : 1 ≤ n) (h2 : n ≤ 4096) :
    Calls Try.prog 8 #[.int .i64 n] w (NewP w n) := by
  have b1 : decide ((n : Int) < 1) = false := by simp; omega
  have b2 : decide ((n : Int) > 4096) = false := by simp; omega
  have hmk := mk_blocks n h2
  go_enter Try.func8, Try.ntmps8
  go_wp2_with fail
  go_region
  · go_wp2
    have n1 := BL.new w (zc n) 106
    have n2 := BL.new (w.alloc (.cells (zc n) 106)) (zc n) 106
    have n3 := BL.new ((w.alloc (.cells (zc n) 106)).alloc (.cells (zc n) 106)) #[.slice (some ⟨w.heap.size, 0, none⟩) n n, .slice (some ⟨w.heap.size + 1, 0, none⟩) n n, .slice none 0 0, .bool false, .int .i64 0, .bool false] 94
    rw [al_size] at n2
    rw [al_size, al_size] at n3
    refine bodyPost_ret (v := .tuple #[.pointer (some ⟨w.heap.size + 1 + 1, 0, none⟩), .int .i64 0]) (by simp [results, Try.results8, go_sem]) rfl ⟨w.heap.size + 1 + 1, w.heap.size, w.heap.size + 1, rfl, n3, ((n1.keep (al _)).keep (al _)).dr, (n2.keep (al _)).dr, by omega, by omega, by omega, by omega, Nat.le_refl _, by omega, ?_⟩
    exact Below.dr (below_step (below_step (al _) (al _)) (al _))
  · go_wp2
    have n1 := BL.new w (zc n) 106
    have n2 := BL.new (w.alloc (.cells (zc n) 106)) (zc n) 106
    have n3 := BL.new ((w.alloc (.cells (zc n) 106)).alloc (.cells (zc n) 106)) #[.slice (some ⟨w.heap.size + 1, 0, none⟩) n n, .slice (some ⟨w.heap.size, 0, none⟩) n n, .slice none 0 0, .bool false, .int .i64 0, .bool false] 94
    rw [al_size] at n2
    rw [al_size, al_size] at n3
    refine bodyPost_ret (v := .tuple #[.pointer (some ⟨w.heap.size + 1 + 1, 0, none⟩), .int .i64 0]) (by simp [results, Try.results8, go_sem]) rfl ⟨w.heap.size + 1 + 1, w.heap.size + 1, w.heap.size, rfl, n3, (n2.keep (al _)).dr, ((n1.keep (al _)).keep (al _)).dr, by omega, by omega, by omega, by omega, by omega, Nat.le_refl _, ?_⟩
    exact Below.dr (below_step (below_step (al _) (al _)) (al _))
/-- Bytes as cells. -/
def cl (l : List UInt8) : List Value := l.map fun b => Value.int .u8 (b.toNat : Int)
def BC (w : World) (N : Nat) (l : List UInt8) (e : TypeId) : Prop := BL w N (cl l).toArray e
/-- The bytes of block i. -/
def nthB (l : List UInt8) (i : Nat) : List UInt8 := (l.drop (i * 256)).take 256
theorem cl_len (l : List UInt8) : (cl l).length = l.length := by simp [cl]
theorem cl_one (l : List UInt8) : (cl l).toArray.all (·.oneCell') = true := by
  rw [Array.all_eq_true_iff_forall_mem]
  intro v hv
  simp [cl] at hv
  obtain ⟨b, _, rfl⟩ := hv
  rfl
theorem range_nth {w : World} {N : Nat} {l : List UInt8} {e : TypeId} (h : BC w N l e) (i : Nat) : w.rangeAt N (i * 256) (cl (nthB l i)) := by
  intro j v hj
  unfold nthB cl at hj
  rw [List.getElem?_map, List.getElem?_take] at hj
  split at hj
  · rw [BL.cell h]
    rw [List.getElem?_drop] at hj
    simpa [cl] using hj
  · cases hj
theorem nthB_len {l : List UInt8} {n i : Nat} (h : l.length = n * 256) (hi : i < n) : (nthB l i).length = 256 := by
  unfold nthB
  rw [List.length_take, List.length_drop, h]
  have : (i + 1) * 256 ≤ n * 256 := Nat.mul_le_mul_right _ hi
  omega
theorem zeros_block : Try.zeroCells106.size = 256 := by kernel_rfl
def ReadP (w : World) (l : List UInt8) (e : Ending) (w' : World) : Prop := ∃ B : Nat, e = .returned (.tuple #[.slice (some ⟨B, 0, none⟩) 256 256, .int .i64 0]) ∧ w.heap.size ≤ B ∧ BC w' B l 106 ∧ Below w.heap.size w w'
set_option maxHeartbeats 2000000 in
set_option maxRecDepth 100000 in
theorem disk_Read.calls (g N : Nat) (n : Nat) (l : List UInt8) (S P : Value) (fu : Bool) (lf : Int) (i : Nat) (w : World) (h : DB w g (.slice (some ⟨N, 0, none⟩) n n) S P fu lf false) (hN : BC w N l 106) (hc : l.length = n * 256) (hi : i < n) :
    Calls Try.prog 53 #[.pointer (some ⟨g, 0, none⟩), .int .i64 i] w (ReadP w (nthB l i)) := by
  obtain ⟨h0, h1, h2, h3, h4, h5, hf⟩ := h.all
  have H := Aside0.mk h
  have k0 : (0 : Int) ≤ (i : Int) := by omega
  have k1 : (i : Int) < (n : Int) := by omega
  obtain ⟨b, hb⟩ : ∃ b, nthB l i = b := ⟨_, rfl⟩
  have hlen : b.length = 256 := by rw [← hb]; exact nthB_len hc hi
  have HRG := Aside0.mk (hb ▸ range_nth hN i)
  have HI : Aside0 ((Try.prog.info? 106).map (·.size) = some (cl b).length) := ⟨by rw [cl_len, hlen]; kernel_rfl⟩
  have hst : ∀ W : World, Sem.run Try.prog (storeCells ⟨W.heap.size, 0, none⟩ (cl b)) (W.alloc (.cells Try.zeroCells106 106)) = .ok () (W.alloc (.cells (cl b).toArray 106)) := fun W => by
    have := run_storeCells_new (P := Try.prog) W 106 Try.zeroCells106 (cl b).toArray (by rw [List.size_toArray, cl_len, hlen]; kernel_rfl) (by rw [zeros_block, List.size_toArray, cl_len, hlen]) (cl_one b)
    simpa using this
  have hcl : (cl b).length = 256 := (cl_len b).trans hlen
  rw [hb]
  clear h hf hN hb hlen
  go_enter Try.func53, Try.ntmps53
  go_wp2_with fail
  refine (disk_has.calls g _ n n S P fu false lf i _ H.out).mono ?_
  rintro e w' ⟨rfl, rfl⟩
  go_wp2_with fail
  refine wp_load_mid 106 _ rfl N (i * 256) rfl (cl b) _ HRG.out Try.underlying106 rfl HI.out ?_
  go_wp2_with fail
  exact bodyPost_ret (v := .tuple #[.slice (some ⟨w.heap.size, 0, none⟩) 256 256, .int .i64 0]) (by simp [results, Try.results53, go_sem]) rfl ⟨w.heap.size, rfl, Nat.le_refl _, BL.new w _ _, al _⟩
/-- A slice's bytes, where they lie. -/
def SB (w : World) (B o : Nat) (l : List UInt8) : Prop := w.rangeAt B o (cl l)
theorem SB.at {w : World} {B o : Nat} {l : List UInt8} (h : SB w B o l) (j : Nat) (hj : j < l.length) : w.cell? ⟨B, o + j, none⟩ = some (.int .u8 ((l[j]).toNat : Int)) := by
  refine h j _ ?_
  unfold cl
  rw [List.getElem?_map, List.getElem?_eq_getElem hj]; rfl
theorem SB.of {w : World} {B : Nat} {l : List UInt8} {e : TypeId} (h : BC w B l e) (o m : Nat) : SB w B o ((l.drop o).take m) := by
  intro j v hj
  unfold cl at hj
  rw [List.getElem?_map, List.getElem?_take] at hj
  split at hj
  · rw [BL.cell h]
    rw [List.getElem?_drop] at hj
    simpa [cl] using hj
  · cases hj
theorem SB.keep {w w' : World} {B o : Nat} {l : List UInt8} (h : SB w B o l) (hl : B < w.heap.size) (hb : Below w.heap.size w w') : SB w' B o l := by
  intro j v hj
  rw [hb.cell (p := ⟨B, o + j, none⟩) hl]
  exact h j v hj
/-- A number, a byte further. -/
def numStep (n : Int) (c : UInt8) : Int := Go.bits .or .u64 (IntKind.u64.wrap (n * 256)) (IntKind.u64.wrap (c.toNat : Int))
set_option maxHeartbeats 2000000 in
set_option maxRecDepth 100000 in
theorem pager_number.calls (B o cp : Nat) (l : List UInt8) (w : World) (h : SB w B o l) (hl : l.length ≤ 1000000) :
    Calls Try.prog 85 #[.slice (some ⟨B, o, none⟩) l.length cp] w fun e w' => e = .returned (.int .u64 (l.foldl numStep 0)) ∧ w = w' := by
  have H := Aside0.mk h
  clear h
  go_enter Try.func85, Try.ntmps85
  go_wp2
  go_loopg [8, 3] l.length (fun kq v8 v3 wr => ∃ j : Nat, v8 = .int .i64 j ∧ v3 = .int .u64 ((l.take j).foldl numStep 0) ∧ Aside0 (kq + j = l.length) ∧ w = wr)
  case atStart => exact ⟨0, rfl, rfl, ⟨by omega⟩, rfl⟩
  case round =>
    obtain ⟨j, rfl, rfl, HJ, rfl⟩ := hrel
    obtain ⟨n, hn⟩ : ∃ n : Int, (l.take j).foldl numStep 0 = n := ⟨_, rfl⟩
    rw [hn]
    have HN := Aside0.mk hn
    clear hn
    by_cases hj : j < l.length
    · have hc := H.out.at j hj
      obtain ⟨c, hcc⟩ : ∃ c, l[j] = c := ⟨_, rfl⟩
      rw [hcc] at hc
      have k1 : (j : Int) < (l.length : Int) := by omega
      have HC := Aside0.mk hcc
      clear hcc
      go_wp2
      go_roundg (l.length - (j + 1))
      case measure => have := HJ.out; omega
      case rel =>
        refine ⟨j + 1, rfl, ?_, ⟨by omega⟩, rfl⟩
        rw [List.take_add_one, List.getElem?_eq_getElem hj, List.foldl_append, HN.out]
        have := HC.out
        simp [numStep, this]
    · have k1 : ¬ (j : Int) < (l.length : Int) := by omega
      have hjl : l.take j = l := List.take_of_length_le (by omega)
      rw [hjl] at HN
      go_wp2
      go_ret
      exact ⟨by rw [HN.out]; rfl, rfl⟩

/-- What a number lays into a row of bytes, the highest first. -/
def putB (m : Nat) (n : Nat) : List UInt8 := (List.range m).map fun j => UInt8.ofNat (n / 256 ^ (m - 1 - j) % 256)
/-- A round of the sum: one bit. -/
def crcBit (s : Int) : Int := if (Go.bits .and .u32 s 1 != 0) = true then Go.bits .xor .u32 (s / 2) 3988292384 else s / 2
def crcBits : Nat → Int → Int
  | 0, s => s
  | n + 1, s => crcBit (crcBits n s)
def crcByte (s : Int) (c : UInt8) : Int := crcBits 8 (Go.bits .xor .u32 s ((c.toNat : Int) % 4294967296))
def crc0 : Int := Go.bits .xor .u32 IntKind.u32.max 0
def crcL (l : List UInt8) : Int := Go.bits .xor .u32 IntKind.u32.max (l.foldl crcByte crc0)
set_option maxHeartbeats 2000000 in
set_option maxRecDepth 100000 in
theorem crc_More.calls (B o cp : Nat) (l : List UInt8) (w : World) (h : SB w B o l) (hl : l.length ≤ 1000000) :
    Calls Try.prog 101 #[.int .u32 0, .slice (some ⟨B, o, none⟩) l.length cp] w fun e w' => e = .returned (.int .u32 (crcL l)) ∧ w = w' := by
  have H := Aside0.mk h
  have hsg : IntKind.u32.signed = false := rfl
  clear h
  go_enter Try.func101, Try.ntmps101
  go_wp2
  clear hsg
  go_loopg [0, 12] l.length (fun kq v0 v12 wr => ∃ j : Nat, v12 = .int .i64 j ∧ v0 = .int .u32 ((l.take j).foldl crcByte crc0) ∧ Aside0 (kq + j = l.length) ∧ w = wr)
  case atStart => exact ⟨0, rfl, rfl, ⟨by omega⟩, rfl⟩
  case round =>
    obtain ⟨j, rfl, rfl, HJ, rfl⟩ := hrel
    obtain ⟨n, hn⟩ : ∃ n : Int, (l.take j).foldl crcByte crc0 = n := ⟨_, rfl⟩
    rw [hn]
    have HN := Aside0.mk hn
    clear hn
    by_cases hj : j < l.length
    · have hc := H.out.at j hj
      obtain ⟨c, hcc⟩ : ∃ c, l[j] = c := ⟨_, rfl⟩
      rw [hcc] at hc
      have k1 : (j : Int) < (l.length : Int) := by omega
      have HC := Aside0.mk hcc
      clear hcc
      go_wp2
      obtain ⟨s0, hs0⟩ : ∃ s0 : Int, Go.bits .xor .u32 n ((c.toNat : Int) % 4294967296) = s0 := ⟨_, rfl⟩
      rw [hs0]
      have HS := Aside0.mk hs0
      clear hs0
      go_loopg [0, 20] 8 (fun kq v0 v20 wr => ∃ i : Nat, v20 = .int .i64 i ∧ v0 = .int .u32 (crcBits i s0) ∧ Aside0 (kq + i = 8) ∧ w = wr)
      case atStart => exact ⟨0, rfl, rfl, ⟨rfl⟩, rfl⟩
      case round =>
        obtain ⟨i, rfl, rfl, HI, rfl⟩ := hrel
        obtain ⟨m, hm⟩ : ∃ m : Int, crcBits i s0 = m := ⟨_, rfl⟩
        rw [hm]
        have HM := Aside0.mk hm
        clear hm
        by_cases hi : i < 8
        · have k2 : (i : Int) < 8 := by omega
          obtain ⟨b, hb⟩ : ∃ b : Bool, (Go.bits .and .u32 m 1 != 0) = b := ⟨_, rfl⟩
          cases b <;> go_wp2
          · go_roundg (8 - (i + 1))
            case measure => have := HI.out; omega
            case rel =>
              refine ⟨i + 1, rfl, ?_, ⟨by omega⟩, rfl⟩
              rw [crcBits, HM.out, crcBit, if_neg (by rw [hb]; decide)]
          · go_roundg (8 - (i + 1))
            case measure => have := HI.out; omega
            case rel =>
              refine ⟨i + 1, rfl, ?_, ⟨by omega⟩, rfl⟩
              rw [crcBits, HM.out, crcBit, if_pos hb]
        · have k2 : ¬ (i : Int) < 8 := by omega
          have hi8 : i = 8 := by have := HI.out; omega
          go_wp2
          go_roundg (l.length - (j + 1))
          case measure => have := HJ.out; omega
          case rel =>
            refine ⟨j + 1, rfl, ?_, ⟨by omega⟩, rfl⟩
            rw [List.take_add_one, List.getElem?_eq_getElem hj, List.foldl_append, HN.out]
            have h1 := HC.out
            have h2 := HM.out
            have h3 := HS.out
            subst hi8
            simp only [Option.toList_some, List.foldl_cons, List.foldl_nil, h1, crcByte, h3, h2]
    · have k1 : ¬ (j : Int) < (l.length : Int) := by omega
      have hjl : l.take j = l := List.take_of_length_le (by omega)
      rw [hjl] at HN
      go_wp2
      go_ret
      exact ⟨by rw [crcL, HN.out]; rfl, rfl⟩
/-- A number, so many bytes further down. -/
def sh8 : Nat → Int → Int
  | 0, n => n
  | i + 1, n => sh8 i n / 256
/-- What put has laid behind so many rounds. -/
def putC (c : Array Value) (o m : Nat) (n : Int) : Nat → Array Value
  | 0 => c
  | i + 1 => (putC c o m n i).setIfInBounds (o + (m - 1 - i)) (.int .u8 (sh8 i n % 256))
theorem putC_size (c : Array Value) (o m : Nat) (n : Int) (i : Nat) : (putC c o m n i).size = c.size := by
  induction i with
  | zero => rfl
  | succ i ih => rw [putC, Array.size_setIfInBounds, ih]
def PutP (w : World) (B : Nat) (c : Array Value) (e : TypeId) (o m : Nat) (n : Int) (en : Ending) (w' : World) : Prop := en = .returned (.tuple #[]) ∧ BL w' B (putC c o m n m) e ∧ Fr (· = B) w w'
set_option maxHeartbeats 2000000 in
set_option maxRecDepth 100000 in
theorem pager_put.calls (B o m cp : Nat) (n : Int) (c : Array Value) (e : TypeId) (w : World) (h : BL w B c e) (hm : o + m ≤ c.size) (hl : m ≤ 1000) :
    Calls Try.prog 90 #[.slice (some ⟨B, o, none⟩) m cp, .int .u64 n] w (PutP w B c e o m n) := by
  have H := Aside0.mk h
  have hsg : IntKind.u64.signed = false := rfl
  clear h
  go_enter Try.func90, Try.ntmps90
  go_wp2
  clear hsg
  go_loopg [7, 1] m (fun kq v7 v1 wr => ∃ j : Nat, v7 = .int .i64 j ∧ v1 = .int .u64 (sh8 j n) ∧ Aside0 (kq + j = m) ∧ Aside0 (BL wr B (putC c o m n j) e) ∧ Aside0 (Fr (· = B) w wr))
  case atStart => exact ⟨0, rfl, rfl, ⟨by omega⟩, H, ⟨Fr.refl _ _⟩⟩
  case round =>
    obtain ⟨j, rfl, rfl, HJ, HB, HF⟩ := hrel
    obtain ⟨s, hs⟩ : ∃ s : Int, sh8 j n = s := ⟨_, rfl⟩
    rw [hs]
    have HN := Aside0.mk hs
    clear hs
    by_cases hj : j < m
    · obtain ⟨x, hx⟩ : ∃ x, (putC c o m n j)[o + (m - 1 - j)]? = some x := ⟨_, Array.getElem?_eq_getElem (by rw [putC_size]; omega)⟩
      have hc := (BL.cell HB.out (o + (m - 1 - j))).trans hx
      have hf := BL.free HB.out (o + (m - 1 - j))
      have k1 : (j : Int) < (m : Int) := by omega
      have HX := Aside0.mk hx
      clear hx
      go_wp2
      go_roundg (m - (j + 1))
      case measure => have := HJ.out; omega
      case rel =>
        refine ⟨j + 1, rfl, ?_, ⟨by omega⟩, ⟨?_⟩, ⟨HF.out.own _ _⟩⟩
        · rw [sh8, HN.out]
        · rw [putC, HN.out]; exact HB.out.set _ _
    · have k1 : ¬ (j : Int) < (m : Int) := by omega
      have e1 : j = m := by have := HJ.out; omega
      go_wp2
      exact bodyPost_ret (v := .tuple #[]) (by simp [results, Try.results90, go_sem]) rfl ⟨rfl, e1 ▸ HB.out, HF.out⟩
/-- What a head's block holds. -/
theorem BL.range {w : World} {B : Nat} {c : Array Value} {e : TypeId} (h : BL w B c e) (o : Nat) (l : List UInt8) (hl : (c.toList.drop o).take l.length = cl l) : SB w B o l := by
  intro j v hj
  rw [BL.cell h]
  rw [← hl, List.getElem?_take] at hj
  split at hj
  · rw [List.getElem?_drop] at hj
    simpa using hj
  · cases hj
theorem crc_Sum.calls (B o cp : Nat) (l : List UInt8) (w : World) (h : SB w B o l) (hl : l.length ≤ 1000000) :
    Calls Try.prog 91 #[.slice (some ⟨B, o, none⟩) l.length cp] w fun e w' => e = .returned (.int .u32 (crcL l)) ∧ w = w' := by
  have H := Aside0.mk h
  clear h
  go_enter Try.func91, Try.ntmps91
  go_wp2_with fail
  refine (crc_More.calls B o cp l _ H.out hl).mono ?_
  rintro e w' ⟨rfl, rfl⟩
  go_wp2
  go_ret
  exact ⟨rfl, rfl⟩
/-- A number's lowest byte. -/
def bV (x : Int) : UInt8 := UInt8.ofNat (x % 256).toNat
theorem bV_int (x : Int) : ((bV x).toNat : Int) = x % 256 := by
  unfold bV
  have h : (x % 256).toNat < 256 := by omega
  rw [UInt8.toNat_ofNat_of_lt' (by show _ < 256; exact h)]
  omega
/-- put, over bytes. -/
def putL (l : List UInt8) (o m : Nat) (n : Int) : Nat → List UInt8
  | 0 => l
  | i + 1 => (putL l o m n i).set (o + (m - 1 - i)) (bV (sh8 i n))
theorem putL_len (l : List UInt8) (o m : Nat) (n : Int) (i : Nat) : (putL l o m n i).length = l.length := by
  induction i with
  | zero => rfl
  | succ i ih => rw [putL, List.length_set, ih]
theorem putC_cl (l : List UInt8) (o m : Nat) (n : Int) (i : Nat) : putC (cl l).toArray o m n i = (cl (putL l o m n i)).toArray := by
  induction i with
  | zero => rfl
  | succ i ih =>
    rw [putC, ih, putL, List.setIfInBounds_toArray]
    congr 1
    unfold cl
    rw [List.map_set, bV_int]
def PutB (w : World) (B : Nat) (l : List UInt8) (e : TypeId) (o m : Nat) (n : Int) (en : Ending) (w' : World) : Prop := en = .returned (.tuple #[]) ∧ BC w' B (putL l o m n m) e ∧ Fr (· = B) w w'
theorem pager_put.bytes (B o m cp : Nat) (n : Int) (l : List UInt8) (e : TypeId) (w : World) (h : BC w B l e) (hm : o + m ≤ l.length) (hl : m ≤ 1000) :
    Calls Try.prog 90 #[.slice (some ⟨B, o, none⟩) m cp, .int .u64 n] w (PutB w B l e o m n) := by
  refine (pager_put.calls B o m cp n _ e w h (by rw [List.size_toArray, cl_len]; exact hm) hl).mono ?_
  rintro en w' ⟨h1, h2, h3⟩
  exact ⟨h1, by rw [putC_cl] at h2; exact h2, h3⟩
theorem byte_info : (Try.prog.info? 5).map (fun i => (i.zero, i.size, i.bytes)) = some (some (.int .u8 0), 1, 1) := by kernel_rfl
theorem made_bytes (n : Nat) : madeCells (Value.int .u8 0).cells n = (cl (List.replicate n 0)).toArray := by
  apply Array.toList_inj.1
  show (madeCells #[_] n).toList = _
  rw [toList_madeCells_one]
  simp [cl]
theorem mk_bytes (n : Nat) (h : n ≤ 100000) (w : World) : (Instr.makeSlice 38 (.int .i64 n) (.int .i64 n)).run Try.prog w = .ok (.slice (some ⟨w.heap.size, 0, none⟩) n n) (w.alloc (.cells (cl (List.replicate n 0)).toArray 5)) := by
  obtain ⟨i, hi, hm⟩ := Option.map_eq_some_iff.1 byte_info
  simp only [Prod.mk.injEq] at hm
  have := run_makeSlice (P := Try.prog) (w := w) 38 5 i _ Try.underlying38 hi hm.1 .i64 .i64 n n (by omega) (by omega) (by rw [hm.2.1]; simp; omega) (by rw [hm.2.2]; omega) (by omega)
  rw [this, hm.2.1]
  simp only [Int.toNat_natCast, Nat.mul_one, made_bytes]
def headA (g r e : Int) : List UInt8 := putL (putL (putL (List.replicate 256 0) 0 8 g 8) 8 8 (IntKind.u64.wrap (IntKind.i64.wrap (r + 1))) 8) 16 8 e 8
def headL (g r e : Int) : List UInt8 := putL (headA g r e) 60 4 (IntKind.u64.wrap (crcL ((headA g r e).take 60))) 4
/-- Between two puts of a head. -/
structure HW (w : World) (g r e : Int) (l : List UInt8) (W : World) : Prop where
  s : BL W w.heap.size #[.int .u64 g, .int .i64 r, .int .u64 e] 111
  b : BC W (w.heap.size + 1) l 5
  o : Below w.heap.size w W
theorem HW.dr {w W : World} {g r e : Int} {l : List UInt8} (h : HW w g r e l W) : HW w g r e l W.drew := ⟨h.s.dr, h.b.dr, Below.dr h.o⟩
theorem HW.put {w W W' : World} {g r e : Int} {l l' : List UInt8} (h : HW w g r e l W) (hb : BC W' (w.heap.size + 1) l' 5) (hf : Fr (· = w.heap.size + 1) W W') : HW w g r e l' W' :=
  ⟨h.s.fr hf (by omega), hb, hf.to_below h.o h.o.size (by intro i hi; omega)⟩
def HeadP (w : World) (g r e : Int) (en : Ending) (w' : World) : Prop := ∃ N : Nat, en = .returned (.slice (some ⟨N, 0, none⟩) 256 256) ∧ BC w' N (headL g r e) 5 ∧ w.heap.size ≤ N ∧ Below w.heap.size w w'
set_option maxHeartbeats 400000 in
set_option maxRecDepth 100000 in
theorem pager_head.calls (g r e : Int) (w : World) :
    Calls Try.prog 66 #[.agg #[.int .u64 g, .int .i64 r, .int .u64 e]] w (HeadP w g r e) := by
  have hmk : ∀ W : World, (Instr.makeSlice 38 (.int .i64 256) (.int .i64 256)).run Try.prog W = .ok (.slice (some ⟨W.heap.size, 0, none⟩) 256 256) (W.alloc (.cells (cl (List.replicate 256 0)).toArray 5)) := mk_bytes 256 (by omega)
  have hlr0 : (List.replicate 256 (0 : UInt8)).length = 256 := List.length_replicate
  obtain ⟨l0, hl0⟩ : ∃ l : List UInt8, List.replicate 256 0 = l := ⟨_, rfl⟩
  rw [hl0] at hmk hlr0
  have HL0 := Aside0.mk hl0
  clear hl0
  go_enter Try.func66, Try.ntmps66
  go_wp2_with fail
  have n1 := BL.new w #[Value.int IntKind.u64 g, Value.int IntKind.i64 r, Value.int IntKind.u64 e] 111
  have n2 := BL.new (w.alloc (.cells #[Value.int IntKind.u64 g, Value.int IntKind.i64 r, Value.int IntKind.u64 e] 111)) (cl l0).toArray 5
  have hb : Below w.heap.size w ((w.alloc (.cells #[Value.int IntKind.u64 g, Value.int IntKind.i64 r, Value.int IntKind.u64 e] 111)).alloc (.cells (cl l0).toArray 5)) := below_step (al _) (al _)
  rw [al_size] at n2
  obtain ⟨W0, hW0⟩ : ∃ W : World, (w.alloc (.cells #[Value.int IntKind.u64 g, Value.int IntKind.i64 r, Value.int IntKind.u64 e] 111)).alloc (.cells (cl l0).toArray 5) = W := ⟨_, rfl⟩
  have hw0 : HW w g r e l0 W0 := by rw [← hW0]; exact ⟨n1.keep (al _), n2, hb⟩
  rw [hW0]
  clear hW0 n1 n2 hb
  have H0 := Aside0.mk hw0.dr
  have c0 := hw0.dr.s.cell 0
  clear hw0
  go_still_tail 4, (by kernel_rfl)
  change wpList _ _ _ _ _ W0.drew
  go_wp2_with fail
  refine (pager_put.bytes (w.heap.size + 1) 0 8 _ g l0 5 _ H0.out.b (by rw [hlr0]; omega) (by omega)).mono ?_
  rintro en W1 ⟨rfl, hb, hf⟩
  have hw1 := H0.out.put hb hf
  have hlr1 := (putL_len l0 0 8 (g) 8).trans hlr0
  clear hb hf
  obtain ⟨l1, hl1⟩ : ∃ l : List UInt8, putL l0 0 8 (g) 8 = l := ⟨_, rfl⟩
  rw [hl1] at hw1 hlr1
  have HL1 := Aside0.mk hl1
  clear hl1
  go_wp2_with fail
  have H1 := Aside0.mk hw1.dr
  have c1 := hw1.dr.s.cell 1
  clear hw1
  go_still_tail 6, (by kernel_rfl)
  change wpList _ _ _ _ _ W1.drew
  obtain ⟨x, hx⟩ : ∃ x : Int, IntKind.u64.wrap (IntKind.i64.wrap (r + 1)) = x := ⟨_, rfl⟩
  rw [hx]
  have HX := Aside0.mk hx
  clear hx
  go_wp2_with fail
  refine (pager_put.bytes (w.heap.size + 1) 8 8 _ x l1 5 _ H1.out.b (by rw [hlr1]; omega) (by omega)).mono ?_
  rintro en W2 ⟨rfl, hb, hf⟩
  have hw2 := H1.out.put hb hf
  have hlr2 := (putL_len l1 8 8 x 8).trans hlr1
  clear hb hf
  obtain ⟨l2, hl2⟩ : ∃ l : List UInt8, putL l1 8 8 x 8 = l := ⟨_, rfl⟩
  rw [hl2] at hw2 hlr2
  have HL2 := Aside0.mk hl2
  clear hl2
  go_wp2_with fail
  have H2 := Aside0.mk hw2.dr
  have c2 := hw2.dr.s.cell 2
  clear hw2
  go_still_tail 4, (by kernel_rfl)
  change wpList _ _ _ _ _ W2.drew
  go_wp2_with fail
  refine (pager_put.bytes (w.heap.size + 1) 16 8 _ e l2 5 _ H2.out.b (by rw [hlr2]; omega) (by omega)).mono ?_
  rintro en W3 ⟨rfl, hb, hf⟩
  have hw3 := H2.out.put hb hf
  have hlr3 := (putL_len l2 16 8 (e) 8).trans hlr2
  clear hb hf
  obtain ⟨l3, hl3⟩ : ∃ l : List UInt8, putL l2 16 8 (e) 8 = l := ⟨_, rfl⟩
  rw [hl3] at hw3 hlr3
  have HL3 := Aside0.mk hl3
  clear hl3
  go_wp2_with fail
  have H3 := Aside0.mk hw3
  have hS : ∀ W, BC W (w.heap.size + 1) l3 5 → SB W (w.heap.size + 1) 0 (l3.take 60) := fun W h => by simpa using SB.of h 0 60
  have ht : (l3.take 60).length = 60 := by rw [List.length_take, hlr3]; rfl
  obtain ⟨z, hz⟩ : ∃ z : Int, crcL (l3.take 60) = z := ⟨_, rfl⟩
  have hcrc : ∀ W, BC W (w.heap.size + 1) l3 5 → Calls Try.prog 91 #[.slice (some ⟨w.heap.size + 1, 0, none⟩) 60 256] W fun e w' => e = .returned (.int .u32 z) ∧ W = w' := fun W h => by
    have := crc_Sum.calls (w.heap.size + 1) 0 256 (l3.take 60) W (hS W h) (by omega)
    rw [ht, hz] at this
    exact this
  have HC := Aside0.mk hcrc
  clear hw3 hS hcrc
  have HZZ := Aside0.mk hz
  clear hz
  go_cut [] (fun wz => Aside0 (HW w g r e (putL l3 60 4 (IntKind.u64.wrap z) 4) wz))
  case first =>
    go_region_with (first | (go_at_call 91; refine (HC.out _ H3.out.dr.b).mono ?_; rintro e1 w2 ⟨rfl, rfl⟩) | (go_at_call 90; refine (pager_put.bytes (w.heap.size + 1) 60 4 _ _ l3 5 _ H3.out.dr.b (by rw [hlr3]; omega) (by omega)).mono ?_; rintro e1 w2 ⟨rfl, hb, hf⟩; have HZ := Aside0.mk (H3.out.dr.put hb hf); clear hb hf))
    all_goals
      go_wp2_with fail
      go_meet
      exact HZ
  case rest =>
    have hfin : putL l3 60 4 (IntKind.u64.wrap z) 4 = headL g r e := by
      unfold headL headA
      rw [HL0.out, HL1.out, HX.out, HL2.out, HL3.out, HZZ.out]
    go_wp2
    go_ret
    exact ⟨w.heap.size + 1, rfl, hfin ▸ hcut.out.b, by omega, hcut.out.o⟩
set_option maxHeartbeats 1000000 in
set_option maxRecDepth 100000 in
theorem pager_Generation.nil (w : World) :
    Calls Try.prog 16 #[.pointer none] w fun e w' => e = .returned (.int .u64 0) ∧ w = w' := by
  go_enter Try.func16, Try.ntmps16
  go_wp2
  go_ret
  exact ⟨rfl, rfl⟩
set_option maxHeartbeats 1000000 in
set_option maxRecDepth 100000 in
theorem pager_Root.nil (w : World) :
    Calls Try.prog 17 #[.pointer none] w fun e w' => e = .returned (.int .i64 (-1)) ∧ w = w' := by
  go_enter Try.func17, Try.ntmps17
  go_wp2
  go_ret
  exact ⟨rfl, rfl⟩
set_option maxHeartbeats 1000000 in
set_option maxRecDepth 100000 in
theorem pager_Epoch.nil (w : World) :
    Calls Try.prog 18 #[.pointer none] w fun e w' => e = .returned (.int .u64 0) ∧ w = w' := by
  go_enter Try.func18, Try.ntmps18
  go_wp2
  go_ret
  exact ⟨rfl, rfl⟩
set_option maxHeartbeats 1000000 in
set_option maxRecDepth 100000 in
theorem pager_Pages.nil (w : World) :
    Calls Try.prog 19 #[.pointer none] w fun e w' => e = .returned (.int .i64 0) ∧ w = w' := by
  go_enter Try.func19, Try.ntmps19
  go_wp2
  go_ret
  exact ⟨rfl, rfl⟩
set_option maxHeartbeats 1000000 in
set_option maxRecDepth 100000 in
theorem pager_Free.nil (w : World) :
    Calls Try.prog 20 #[.pointer none] w fun e w' => e = .returned (.int .i64 0) ∧ w = w' := by
  go_enter Try.func20, Try.ntmps20
  go_wp2
  go_ret
  exact ⟨rfl, rfl⟩
set_option maxHeartbeats 1000000 in
set_option maxRecDepth 100000 in
theorem pager_Read.nil (i : Int) (w : World) :
    Calls Try.prog 25 #[.pointer none, .int .i64 i] w fun e w' => e = .returned (.tuple #[.slice none 0 0, .int .i64 1]) ∧ w = w' := by
  go_enter Try.func25, Try.ntmps25
  go_wp2
  exact bodyPost_ret (v := .tuple #[.slice none 0 0, .int .i64 1]) (by simp [results, Try.results25, go_sem]) rfl ⟨rfl, rfl⟩
set_option maxHeartbeats 1000000 in
set_option maxRecDepth 100000 in
theorem pager_Take.nil (w : World) :
    Calls Try.prog 28 #[.pointer none] w fun e w' => e = .returned (.tuple #[.int .i64 0, .int .i64 1]) ∧ w = w' := by
  go_enter Try.func28, Try.ntmps28
  go_wp2
  exact bodyPost_ret (v := .tuple #[.int .i64 0, .int .i64 1]) (by simp [results, Try.results28, go_sem]) rfl ⟨rfl, rfl⟩
set_option maxHeartbeats 1000000 in
set_option maxRecDepth 100000 in
theorem pager_Write.nil (i : Int) (v : Value) (w : World) :
    Calls Try.prog 26 #[.pointer none, .int .i64 i, v] w fun e w' => e = .returned (.int .i64 1) ∧ w = w' := by
  go_enter Try.func26, Try.ntmps26
  go_wp2
  go_ret
  exact ⟨rfl, rfl⟩
set_option maxHeartbeats 1000000 in
set_option maxRecDepth 100000 in
theorem pager_Drop.nil (i : Int) (w : World) :
    Calls Try.prog 30 #[.pointer none, .int .i64 i] w fun e w' => e = .returned (.int .i64 1) ∧ w = w' := by
  go_enter Try.func30, Try.ntmps30
  go_wp2
  go_ret
  exact ⟨rfl, rfl⟩
set_option maxHeartbeats 1000000 in
set_option maxRecDepth 100000 in
theorem pager_Commit.nil (i k : Int) (w : World) :
    Calls Try.prog 24 #[.pointer none, .int .i64 i, .int .u64 k] w fun e w' => e = .returned (.int .i64 1) ∧ w = w' := by
  go_enter Try.func24, Try.ntmps24
  go_wp2
  go_ret
  exact ⟨rfl, rfl⟩
set_option maxHeartbeats 1000000 in
set_option maxRecDepth 100000 in
theorem pager_Use.nil (A : Option Addr) (m c : Nat) (w : World) :
    Calls Try.prog 31 #[.pointer none, .slice A m c] w fun e w' => e = .returned (.int .i64 1) ∧ w = w' := by
  go_enter Try.func31, Try.ntmps31
  go_wp2
  go_ret
  exact ⟨rfl, rfl⟩
set_option maxHeartbeats 1000000 in
set_option maxRecDepth 100000 in
theorem pager_Undo.nil (w : World) :
    Calls Try.prog 29 #[.pointer none] w fun e w' => e = .returned (.tuple #[]) ∧ w = w' := by
  go_enter Try.func29, Try.ntmps29
  go_wp2
  exact bodyPost_ret (v := .tuple #[]) (by simp [results, Try.results29, go_sem]) rfl ⟨rfl, rfl⟩
set_option maxHeartbeats 1000000 in
set_option maxRecDepth 100000 in
theorem pager_Open.nil (w : World) :
    Calls Try.prog 13 #[.pointer none, .int .i64 0, .int .i64 3] w fun e w' => e = .returned (.tuple #[.pointer none, .int .i64 1]) ∧ w = w' := by
  go_enter Try.func13, Try.ntmps13
  go_wp2_with fail
  refine (disk_Blocks.nil _).mono ?_
  rintro e1 w1 ⟨rfl, rfl⟩
  go_wp2
  exact bodyPost_ret (v := .tuple #[.pointer none, .int .i64 1]) (by simp [results, Try.results13, go_sem]) rfl ⟨rfl, rfl⟩
theorem SB.dn {w : World} {B o : Nat} {l : List UInt8} (h : SB w B o l) (n : Nat) : SB (w.drewN n) B o l := h
set_option maxHeartbeats 2000000 in
set_option maxRecDepth 100000 in
theorem slices_Equal.calls (A oa ca B ob cb : Nat) (k l : List UInt8) (w : World) (hk : SB w A oa k) (hl : SB w B ob l) (hkl : k.length ≤ 1000000) (hll : l.length ≤ 1000000) :
    Calls Try.prog 86 #[.slice (some ⟨A, oa, none⟩) k.length ca, .slice (some ⟨B, ob, none⟩) l.length cb] w fun e w' => e = .returned (.bool (decide (k = l))) ∧ ∃ n, w' = w.drewN n := by
  have HK := Aside0.mk hk
  have HL := Aside0.mk hl
  clear hk hl
  by_cases hne : k.length = l.length
  · rw [← hne]
    have HNE := Aside0.mk hne
    clear hne
    go_enter Try.func86, Try.ntmps86
    go_wp2
    go_loopg [13, 5] k.length (fun kq v13 v5 wr => ∃ j : Nat, v13 = .int .i64 j ∧ Aside0 (kq + j = k.length) ∧ Aside0 (k.take j = l.take j) ∧ ∃ n, wr = w.drewN n)
    case atStart => exact ⟨0, rfl, ⟨by omega⟩, ⟨rfl⟩, 0, rfl⟩
    case round =>
      obtain ⟨j, rfl, HJ, HT, n, rfl⟩ := hrel
      by_cases hj : j < k.length
      · have hj2 : j < l.length := by have := HNE.out; omega
        have hc := HK.out.at j hj
        have hd := HL.out.at j hj2
        obtain ⟨c, hcc⟩ : ∃ c, k[j] = c := ⟨_, rfl⟩
        obtain ⟨d, hdd⟩ : ∃ d, l[j] = d := ⟨_, rfl⟩
        rw [hcc] at hc
        rw [hdd] at hd
        have HC := Aside0.mk hcc
        have HD := Aside0.mk hdd
        clear hcc hdd
        have k1 : (j : Int) < (k.length : Int) := by omega
        by_cases he : c = d
        · subst he
          go_wp2_with fail
          go_quiet (fail)
          go_wp2
          go_roundg (k.length - (j + 1))
          case measure => have := HJ.out; omega
          case rel =>
            refine ⟨j + 1, rfl, ⟨by omega⟩, ⟨?_⟩, _, rfl⟩
            rw [List.take_add_one, List.take_add_one, List.getElem?_eq_getElem hj, List.getElem?_eq_getElem hj2, HT.out, HC.out, HD.out]
        · have he2 : ¬ (c.toNat : Int) = (d.toNat : Int) := fun h => he (UInt8.toNat_inj.1 (by omega))
          go_wp2_with fail
          go_quiet (fail)
          go_wp2
          have hkn : k ≠ l := fun h => he (by have h1 := HC.out; have h2 := HD.out; subst h; rw [← h1, ← h2])
          go_ret
          exact ⟨by rw [decide_eq_false hkn]; rfl, _, World.drewN_drewN _ _ _⟩
      · have k1 : ¬ (j : Int) < (k.length : Int) := by omega
        have hkl2 : k = l := by
          have h := HT.out
          rw [List.take_of_length_le (by omega), List.take_of_length_le (by have := HNE.out; omega)] at h
          exact h
        have HKL := Aside0.mk hkl2
        clear hkl2
        go_wp2
        go_ret
        exact ⟨by rw [decide_eq_true HKL.out]; rfl, _, rfl⟩
  · have hkn : k ≠ l := fun h => hne (by rw [h])
    have k1 : ¬ (k.length : Int) = (l.length : Int) := by omega
    go_enter Try.func86, Try.ntmps86
    go_wp2
    go_ret
    exact ⟨by rw [decide_eq_false hkn]; rfl, 0, rfl⟩
/-- A space's own block. -/
def SPB (w : World) (s : Nat) (T F : Value) : Prop := BL w s #[T, F] 143
/-- Bools as cells. -/
def bl (l : List Bool) : Array Value := (l.map Value.bool).toArray
theorem SPB.all {w : World} {s : Nat} {T F : Value} (h : SPB w s T F) : w.cell? ⟨s, 0, none⟩ = some T ∧ w.cell? ⟨s, 1, none⟩ = some F ∧ (∀ j, w.frozen? ⟨s, j, none⟩ = false) := ⟨BL.cell h 0, BL.cell h 1, BL.free h⟩
theorem bl_at (l : List Bool) (j : Nat) (h : j < l.length) : (bl l)[j]? = some (.bool l[j]) := by
  unfold bl
  rw [List.getElem?_toArray, List.getElem?_map, List.getElem?_eq_getElem h]; rfl
set_option maxHeartbeats 1000000 in
set_option maxRecDepth 100000 in
theorem space_Free.calls (s : Nat) (T : Value) (A : Option Addr) (n c : Nat) (w : World) (h : SPB w s T (.slice A n c)) :
    Calls Try.prog 60 #[.pointer (some ⟨s, 0, none⟩)] w fun e w' => e = .returned (.int .i64 n) ∧ w = w' := by
  obtain ⟨h0, h1, hf⟩ := h.all
  clear h
  go_enter Try.func60, Try.ntmps60
  go_wp2
  go_ret
  exact ⟨rfl, rfl⟩
set_option maxHeartbeats 1000000 in
set_option maxRecDepth 100000 in
theorem space_Free.nil (w : World) :
    Calls Try.prog 60 #[.pointer none] w fun e w' => e = .returned (.int .i64 0) ∧ w = w' := by
  go_enter Try.func60, Try.ntmps60
  go_wp2
  go_ret
  exact ⟨rfl, rfl⟩
/-- Is number i taken? -/
def takenAt (l : List Bool) (i : Int) : Bool := decide (0 ≤ i) && l.getD i.toNat false
set_option maxHeartbeats 1000000 in
set_option maxRecDepth 100000 in
theorem space_Taken.in_ (s TB : Nat) (F : Value) (l : List Bool) (c i : Nat) (w : World) (h : SPB w s (.slice (some ⟨TB, 0, none⟩) l.length c) F) (ht : BL w TB (bl l) 4) (hi : i < l.length) (hl : l.length ≤ 100000) :
    Calls Try.prog 62 #[.pointer (some ⟨s, 0, none⟩), .int .i64 i] w fun e w' => e = .returned (.bool l[i]) ∧ w = w' := by
  obtain ⟨h0, h1, hf⟩ := h.all
  have hc := (BL.cell ht i).trans (bl_at l i hi)
  obtain ⟨b, hb⟩ : ∃ b, l[i] = b := ⟨_, rfl⟩
  rw [hb] at hc
  rw [hb]
  have k0 : (0 : Int) ≤ (i : Int) := by omega
  have k1 : (i : Int) < (l.length : Int) := by omega
  clear h ht hb
  go_enter Try.func62, Try.ntmps62
  go_wp2
  go_ret
  exact ⟨rfl, rfl⟩
set_option maxHeartbeats 1000000 in
set_option maxRecDepth 100000 in
theorem space_Taken.out_ (s : Nat) (A : Option Addr) (F : Value) (n c : Nat) (i : Int) (w : World) (h : SPB w s (.slice A n c) F) (hi : ¬ (0 ≤ i ∧ i < (n : Int))) :
    Calls Try.prog 62 #[.pointer (some ⟨s, 0, none⟩), .int .i64 i] w fun e w' => e = .returned (.bool false) ∧ w = w' := by
  obtain ⟨h0, h1, hf⟩ := h.all
  clear h
  by_cases k0 : 0 ≤ i
  · have k1 : ¬ i < (n : Int) := fun h => hi ⟨k0, h⟩
    have d0 : decide (0 ≤ i) = true := decide_eq_true k0
    have d1 : decide (i < (n : Int)) = false := decide_eq_false k1
    go_enter Try.func62, Try.ntmps62
    go_wp2
    go_ret
    exact ⟨rfl, rfl⟩
  · have d0 : decide (0 ≤ i) = false := decide_eq_false k0
    go_enter Try.func62, Try.ntmps62
    go_wp2
    go_ret
    exact ⟨rfl, rfl⟩
/-- The reference's block behind so many rounds. -/
def blkL (l : List UInt8) : Nat → List UInt8
  | 0 => List.replicate 256 0
  | j + 1 => (blkL l j).set j (l.getD (j % l.length) 0)
theorem blkL_len (l : List UInt8) (j : Nat) : (blkL l j).length = 256 := by
  induction j with
  | zero => exact List.length_replicate
  | succ j ih => rw [blkL, List.length_set, ih]
theorem BC.at {w : World} {N : Nat} {l : List UInt8} {e : TypeId} (h : BC w N l e) (j : Nat) (hj : j < l.length) : w.cell? ⟨N, j, none⟩ = some (.int .u8 ((l[j]).toNat : Int)) := by
  have := (SB.of h 0 l.length).at j (by simpa using hj)
  simpa using this
theorem BC.set {w : World} {N : Nat} {l : List UInt8} {e : TypeId} (h : BC w N l e) (j : Nat) (c : UInt8) : BC (w.setCell ⟨N, j, none⟩ (.int .u8 (c.toNat : Int))) N (l.set j c) e := by
  have := BL.set h j (.int .u8 (c.toNat : Int))
  unfold BC
  rw [List.setIfInBounds_toArray] at this
  unfold cl at *
  rw [List.map_set]
  exact this
def BlockP (w : World) (l : List UInt8) (en : Ending) (w' : World) : Prop := ∃ N : Nat, en = .returned (.slice (some ⟨N, 0, none⟩) 256 256) ∧ BC w' N (blkL l 256) 5 ∧ w.heap.size ≤ N ∧ Below w.heap.size w w'
set_option maxHeartbeats 2000000 in
set_option maxRecDepth 100000 in
theorem ref_Block.calls (B o cp : Nat) (l : List UInt8) (w : World) (h : SB w B o l) (hB : B < w.heap.size) (hl : 0 < l.length) (hl2 : l.length ≤ 100000) :
    Calls Try.prog 27 #[.slice (some ⟨B, o, none⟩) l.length cp] w (BlockP w l) := by
  have H := Aside0.mk h
  have hmk : ∀ W : World, (Instr.makeSlice 38 (.int .i64 256) (.int .i64 256)).run Try.prog W = .ok (.slice (some ⟨W.heap.size, 0, none⟩) 256 256) (W.alloc (.cells (cl (List.replicate 256 0)).toArray 5)) := mk_bytes 256 (by omega)
  obtain ⟨l0, hl0⟩ : ∃ l : List UInt8, List.replicate 256 0 = l := ⟨_, rfl⟩
  rw [hl0] at hmk
  have HL0 := Aside0.mk hl0
  have k0 : (0 : Int) < (l.length : Int) := by omega
  clear hl0 h
  go_enter Try.func27, Try.ntmps27
  go_wp2
  have n1 : BC (w.alloc (.cells (cl l0).toArray 5)) w.heap.size (blkL l 0) 5 := by rw [blkL, HL0.out]; exact BL.new _ _ _
  have N1 := Aside0.mk n1
  have O1 := Aside0.mk (al _ : Below w.heap.size w (w.alloc (.cells (cl l0).toArray 5)))
  clear n1 hmk
  go_loopg [4] 256 (fun kq v4 wr => ∃ j : Nat, v4 = .int .i64 j ∧ Aside0 (kq + j = 256) ∧ Aside0 (BC wr w.heap.size (blkL l j) 5) ∧ Aside0 (Below w.heap.size w wr))
  case atStart => exact ⟨0, rfl, ⟨by omega⟩, N1, O1⟩
  case round =>
    obtain ⟨j, rfl, HJ, HB, HO⟩ := hrel
    by_cases hj : j < 256
    · have hm : j % l.length < l.length := Nat.mod_lt _ hl
      have hc := (H.out.keep hB HO.out).at (j % l.length) hm
      have hd := BC.at HB.out j (by rw [blkL_len]; exact hj)
      have hf := BL.free HB.out j
      obtain ⟨c, hcc⟩ : ∃ c, l[j % l.length] = c := ⟨_, rfl⟩
      rw [hcc] at hc
      have HC := Aside0.mk hcc
      clear hcc
      have k1 : (j : Int) < 256 := by omega
      go_wp2
      go_roundg (256 - (j + 1))
      case measure => have := HJ.out; omega
      case rel =>
        refine ⟨j + 1, rfl, ⟨by omega⟩, ⟨?_⟩, ⟨?_⟩⟩
        · rw [blkL]
          have hg : l.getD (j % l.length) 0 = c := by rw [List.getD_eq_getElem?_getD, List.getElem?_eq_getElem hm, HC.out]; rfl
          rw [hg]
          exact HB.out.set j c
        · exact ((Fr.refl (· = w.heap.size) wr).own j _).to_below HO.out HO.out.size (fun i h => by omega)
    · have k1 : ¬ (j : Int) < 256 := by omega
      have e1 : j = 256 := by have := HJ.out; omega
      have HE := Aside0.mk e1
      clear e1
      go_wp2
      go_ret
      exact ⟨w.heap.size, rfl, HE.out ▸ HB.out, Nat.le_refl _, HO.out⟩
/-- A slice's whole numbers, where they lie. -/
def IL (w : World) (B o : Nat) (l : List Int) : Prop := w.rangeAt B o (l.map (Value.int .i64))
theorem IL.at {w : World} {B o : Nat} {l : List Int} (h : IL w B o l) (j : Nat) (hj : j < l.length) : w.cell? ⟨B, o + j, none⟩ = some (.int .i64 l[j]) := by
  refine h j _ ?_
  rw [List.getElem?_map, List.getElem?_eq_getElem hj]; rfl
set_option maxHeartbeats 1000000 in
set_option maxRecDepth 100000 in
theorem slices_Contains.nil (x : Int) (w : World) :
    Calls Try.prog 63 #[.slice none 0 0, .int .i64 x] w fun e w' => e = .returned (.bool false) ∧ w = w' := by
  have hidx : ∀ W : World, Calls Try.prog 88 #[.slice none 0 0, .int .i64 x] W fun e w' => e = .returned (.int .i64 (-1)) ∧ W = w' := fun W => by
    go_enter Try.func88, Try.ntmps88
    go_wp2
    go_loopg [8, 5] 1 (fun kq v8 v5 wr => v8 = .int .i64 0 ∧ W = wr)
    case atStart => exact ⟨rfl, rfl⟩
    case round =>
      obtain ⟨rfl, rfl⟩ := hrel
      go_wp2
      go_ret
      exact ⟨rfl, rfl⟩
  have HX := Aside0.mk hidx
  clear hidx
  go_enter Try.func63, Try.ntmps63
  go_wp2_with fail
  refine (HX.out _).mono ?_
  rintro e1 w1 ⟨rfl, rfl⟩
  go_wp2
  go_ret
  exact ⟨rfl, rfl⟩
set_option maxHeartbeats 1000000 in
set_option maxRecDepth 100000 in
theorem slices_Index.calls (B o cp : Nat) (l : List Int) (x : Int) (w : World) (h : IL w B o l) (hl : l.length ≤ 100000) :
    Calls Try.prog 88 #[.slice (some ⟨B, o, none⟩) l.length cp, .int .i64 x] w fun e w' => (∃ r : Int, e = .returned (.int .i64 r) ∧ (0 ≤ r ↔ x ∈ l)) ∧ w = w' := by
  have H := Aside0.mk h
  clear h
  go_enter Try.func88, Try.ntmps88
  go_wp2
  go_loopg [8, 5] l.length (fun kq v8 v5 wr => ∃ j : Nat, v8 = .int .i64 j ∧ Aside0 (kq + j = l.length) ∧ Aside0 (x ∉ l.take j) ∧ w = wr)
  case atStart => exact ⟨0, rfl, ⟨by omega⟩, ⟨by simp⟩, rfl⟩
  case round =>
    obtain ⟨j, rfl, HJ, HN, rfl⟩ := hrel
    by_cases hj : j < l.length
    · have hc := H.out.at j hj
      obtain ⟨c, hcc⟩ : ∃ c, l[j] = c := ⟨_, rfl⟩
      rw [hcc] at hc
      have HC := Aside0.mk hcc
      clear hcc
      have k1 : (j : Int) < (l.length : Int) := by omega
      by_cases he : x = c
      · subst he
        go_wp2
        go_ret
        exact ⟨⟨(j : Int), rfl, ⟨fun _ => HC.out ▸ List.getElem_mem hj, fun _ => by omega⟩⟩, rfl⟩
      · go_wp2
        go_roundg (l.length - (j + 1))
        case measure => have := HJ.out; omega
        case rel =>
          refine ⟨j + 1, rfl, ⟨by omega⟩, ⟨?_⟩, rfl⟩
          rw [List.take_add_one, List.getElem?_eq_getElem hj, HC.out]
          intro hm
          rcases List.mem_append.1 hm with hm | hm
          · exact HN.out hm
          · exact he (by simpa using hm)
    · have k1 : ¬ (j : Int) < (l.length : Int) := by omega
      have hn : x ∉ l := by have := HN.out; rwa [List.take_of_length_le (by omega)] at this
      have HX := Aside0.mk hn
      clear hn
      go_wp2
      go_ret
      exact ⟨⟨-1, rfl, ⟨fun h => absurd h (by omega), fun h => absurd h HX.out⟩⟩, rfl⟩
theorem slices_Contains.calls (B o cp : Nat) (l : List Int) (x : Int) (w : World) (h : IL w B o l) (hl : l.length ≤ 100000) :
    Calls Try.prog 63 #[.slice (some ⟨B, o, none⟩) l.length cp, .int .i64 x] w fun e w' => e = .returned (.bool (decide (x ∈ l))) ∧ w = w' := by
  have H := Aside0.mk h
  clear h
  go_enter Try.func63, Try.ntmps63
  go_wp2_with fail
  refine (slices_Index.calls B o cp l x _ H.out hl).mono ?_
  rintro e1 w1 ⟨⟨r, rfl, hr⟩, rfl⟩
  have HR := Aside0.mk hr
  clear hr
  go_wp2
  go_ret
  exact ⟨by simp [HR.out], rfl⟩
theorem int_info : (Try.prog.info? 3).map (fun i => (i.zero, i.size, i.bytes)) = some (some (.int .i64 0), 1, 8) := by kernel_rfl
/-- The free numbers among the first j. -/
def freeL (l : List Bool) (j : Nat) : List Int := ((List.range j).filter (fun i => !(l.getD i false))).map (fun i : Nat => (i : Int))
theorem freeL_len (l : List Bool) (j : Nat) : (freeL l j).length ≤ j := by
  unfold freeL
  rw [List.length_map]
  exact Nat.le_trans (List.length_filter_le _ _) (by simp)
theorem freeL_taken (l : List Bool) (j : Nat) (h : l.getD j false = true) : freeL l (j + 1) = freeL l j := by
  simp only [freeL, List.range_succ, List.filter_append, List.filter_cons, List.filter_nil, h]; simp
theorem freeL_free (l : List Bool) (j : Nat) (h : l.getD j false = false) : freeL l (j + 1) = freeL l j ++ [(j : Int)] := by
  simp only [freeL, List.range_succ, List.filter_append, List.filter_cons, List.filter_nil, h]; simp
theorem fill_kept {w wr w9 : World} {s : Nat} {T F : Value} {n : Nat} {xs : List Value} {o : Obj} (hs : SPB wr s T F) (ho : wr.ownsRow w.heap.size 3 1 F n xs) (hsl : s < w.heap.size) (hz : w.heap.size ≤ wr.heap.size) (hg : (wr.alloc o).grownBy w9 F.ownBlock) : SPB w9 s T F := by
  refine (hg.block s (by rw [al_size]; omega) ?_).trans (hs.keep (al o))
  intro h
  have := ho.lt s h.symm
  omega
theorem fill_fr {w wr w9 : World} {s : Nat} {F : Value} {n : Nat} {xs : List Value} {o : Obj} (hf : Fr (· = s) w wr) (ho : wr.ownsRow w.heap.size 3 1 F n xs) (hg : (wr.alloc o).grownBy w9 F.ownBlock) : Fr (· = s) w w9 := by
  have ha : Fr (· = s) w (wr.alloc o) := hf.alloc o
  refine ⟨hg.os.trans ha.os, hg.tape.trans ha.tape, hg.output.trans ha.output, Nat.le_trans ha.size hg.size, fun k hk hn => (hg.block k (Nat.lt_of_lt_of_le hk ha.size) ?_).trans (ha.block k hk hn)⟩
  intro h
  have := ho.lt k h.symm
  omega
def FillP (w : World) (s TB : Nat) (c : Nat) (l : List Bool) (en : Ending) (w' : World) : Prop := en = .returned (.tuple #[]) ∧ ∃ F : Value, SPB w' s (.slice (some ⟨TB, 0, none⟩) l.length c) F ∧ w'.ownsRow w.heap.size 3 1 F (freeL l l.length).length ((freeL l l.length).map (Value.int .i64)) ∧ Fr (· = s) w w'
set_option maxHeartbeats 2000000 in
set_option maxRecDepth 100000 in
theorem space_fill.calls (s TB c : Nat) (T0 F0 : Value) (l : List Bool) (w : World) (h : SPB w s T0 F0) (ht : BL w TB (bl l) 4) (hne : TB ≠ s) (hl : l.length ≤ 4096) :
    Calls Try.prog 87 #[.pointer (some ⟨s, 0, none⟩), .slice (some ⟨TB, 0, none⟩) l.length c] w (FillP w s TB c l) := by
  obtain ⟨i3, hi3, hm3⟩ := Option.map_eq_some_iff.1 int_info
  simp only [Prod.mk.injEq] at hm3
  obtain ⟨h0, h1, hf⟩ := h.all
  have f0 := hf 0
  have f1 := hf 1
  have H := Aside0.mk h
  have HT := Aside0.mk ht
  have hsl : s < w.heap.size := h.lt
  have HI := Aside0.mk hi3
  have HM := Aside0.mk hm3
  clear h ht hf hi3 hm3
  go_enter Try.func87, Try.ntmps87
  go_wp2
  have hs1 : SPB ((w.setCell ⟨s, 0, none⟩ (.slice (some ⟨TB, 0, none⟩) l.length c)).setCell ⟨s, 1, none⟩ (.slice none 0 0)) s (.slice (some ⟨TB, 0, none⟩) l.length c) (.slice none 0 0) := BL.set (BL.set H.out 0 _) 1 _
  have S1 := Aside0.mk hs1
  have F1 := Aside0.mk (((Fr.refl (· = s) w).own 0 (.slice (some ⟨TB, 0, none⟩) l.length c)).own 1 (.slice none 0 0))
  clear hs1 h0 h1 f0 f1
  go_loopg [15, 4, 5] l.length (fun kq v15 v4 v5 wr => ∃ (j : Nat) (F : Value), v15 = .int .i64 j ∧ Aside0 (kq + j = l.length) ∧ Aside0 (SPB wr s (.slice (some ⟨TB, 0, none⟩) l.length c) F) ∧ Aside0 (wr.ownsRow w.heap.size 3 1 F (freeL l j).length ((freeL l j).map (Value.int .i64))) ∧ Aside0 (Fr (· = s) w wr))
  case atStart => exact ⟨0, .slice none 0 0, rfl, ⟨by omega⟩, S1, ⟨World.ownsRow_nil _ _ _ _⟩, F1⟩
  case round =>
    obtain ⟨j, F, rfl, HJ, HS, HO, HF⟩ := hrel
    by_cases hj : j < l.length
    · have htb := HT.out.fr HF.out hne
      have hc := (BL.cell htb j).trans (bl_at l j hj)
      have k1 : (j : Int) < (l.length : Int) := by omega
      obtain ⟨b, hb⟩ : ∃ b, l[j] = b := ⟨_, rfl⟩
      rw [hb] at hc
      have hgd : l.getD j false = b := by rw [List.getD_eq_getElem?_getD, List.getElem?_eq_getElem hj, hb]; rfl
      have HG := Aside0.mk hgd
      have h1 := HS.out.all.2.1
      have f1 := HS.out.all.2.2 1
      clear hb hgd htb
      cases b with
      | true =>
        go_wp2
        go_roundg (l.length - (j + 1))
        case measure => have := HJ.out; omega
        case rel =>
          refine ⟨j + 1, F, rfl, ⟨by omega⟩, HS, ⟨?_⟩, HF⟩
          rw [freeL_taken l j HG.out]
          exact HO.out
      | false =>
        have HOA := Aside0.mk (HO.out.alloc (.cells #[Value.int .i64 (j : Int)] 3))
        have HN := Aside0.mk (BL.new wr #[Value.int .i64 (j : Int)] 3)
        have hfl := freeL_len l j
        have HFL := Aside0.mk hfl
        clear hfl
        go_wp2_with (first
          | (at_builtin; (refine wpList_append_lies _ rfl (.tmp 26) (.tmp 28) 141 rfl w.heap.size 3 i3 (.int .i64 0) 1 8 Try.underlying141 HI.out HM.out.1 HM.out.2.1 HM.out.2.2 rfl (by decide) F (freeL l j).length _ rfl HOA.out ⟨wr.heap.size, 0, none⟩ 1 1 [.int .i64 (j : Int)] rfl rfl ?hn ?h1 (by decide) ?h63 ?hby ?hbase _ rfl ?_)); go_loud (case hn => (intro k u hk; cases k with | zero => (simp at hk; subst hk; exact (BL.cell HN.out 0).trans rfl) | succ k => simp at hk)); go_loud (case h1 => (intro u hu; simp at hu; subst hu; rfl)); go_loud (case h63 => (have := HFL.out; simp [maxLen]; omega)); go_loud (case hby => (have := HFL.out; omega)); go_loud (case hbase => (rw [al_size]; have := HF.out.size; omega)); intro g cap w9 ho9 hg9 hgg hgl; have hsp := fill_kept HS.out HO.out hsl HF.out.size hg9; have x1 := hsp.all.2.1; have x2 := hsp.all.2.2 1; have HSP := Aside0.mk hsp; have HO9 := Aside0.mk ho9; have HF9 := Aside0.mk (fill_fr HF.out HO.out hg9); clear hsp ho9 hg9 hgg h1 f1)
        go_roundg (l.length - (j + 1))
        case measure => have := HJ.out; omega
        case rel =>
          refine ⟨j + 1, .slice (some ⟨g, 0, none⟩) ((freeL l j).length + 1) cap, rfl, ⟨by omega⟩, ⟨BL.set HSP.out 1 _⟩, ⟨?_⟩, ⟨HF9.out.own _ _⟩⟩
          rw [freeL_free l j HG.out, List.length_append, List.length_singleton, List.map_append]
          exact ownsRow_setCell_below HO9.out (by exact hsl) _
    · have k1 : ¬ (j : Int) < (l.length : Int) := by omega
      have e1 : j = l.length := by have := HJ.out; omega
      have HE := Aside0.mk e1
      clear e1
      go_wp2
      exact bodyPost_ret (v := .tuple #[]) (by simp [results, Try.results87, go_sem]) rfl ⟨rfl, F, HS.out, HE.out ▸ HO.out, HF.out⟩
theorem bool_info : (Try.prog.info? 4).map (fun i => (i.zero, i.size, i.bytes)) = some (some (.bool false), 1, 1) := by kernel_rfl
theorem made_bools (n : Nat) : madeCells (Value.bool false).cells n = bl (List.replicate n false) := by
  apply Array.toList_inj.1
  show (madeCells #[_] n).toList = _
  rw [toList_madeCells_one]
  simp [bl]
theorem mk_bools (n : Nat) (h : n ≤ 4096) (w : World) : (Instr.makeSlice 45 (.int .i64 n) (.int .i64 n)).run Try.prog w = .ok (.slice (some ⟨w.heap.size, 0, none⟩) n n) (w.alloc (.cells (bl (List.replicate n false)) 4)) := by
  obtain ⟨i, hi, hm⟩ := Option.map_eq_some_iff.1 bool_info
  simp only [Prod.mk.injEq] at hm
  have := run_makeSlice (P := Try.prog) (w := w) 45 4 i _ Try.underlying45 hi hm.1 .i64 .i64 n n (by omega) (by omega) (by rw [hm.2.1]; simp; omega) (by rw [hm.2.2]; omega) (by omega)
  rw [this, hm.2.1]
  simp only [Int.toNat_natCast, Nat.mul_one, made_bools]
def SpNewP (w : World) (n : Nat) (en : Ending) (w' : World) : Prop := ∃ (s TB : Nat) (F : Value), en = .returned (.tuple #[.pointer (some ⟨s, 0, none⟩), .int .i64 0]) ∧ SPB w' s (.slice (some ⟨TB, 0, none⟩) n n) F ∧ BL w' TB (bl (List.replicate n false)) 4 ∧ w'.ownsRow (w.heap.size + 2) 3 1 F (freeL (List.replicate n false) n).length ((freeL (List.replicate n false) n).map (Value.int .i64)) ∧ w.heap.size ≤ s ∧ s < w.heap.size + 2 ∧ w.heap.size ≤ TB ∧ TB < w.heap.size + 2 ∧ TB ≠ s ∧ Below w.heap.size w w'
set_option maxHeartbeats 2000000 in
set_option maxRecDepth 100000 in
theorem space_New.calls (n : Nat) (w : World) (h1 : 1 ≤ n) (h2 : n ≤ 4096) :
    Calls Try.prog 55 #[.int .i64 n] w (SpNewP w n) := by
  have b1 : decide ((n : Int) < 1) = false := by simp; omega
  have b2 : decide ((n : Int) > 4096) = false := by simp; omega
  have hmk := mk_bools n h2
  obtain ⟨l, hl⟩ : ∃ l, List.replicate n false = l := ⟨_, rfl⟩
  have hln : l.length = n := by rw [← hl]; exact List.length_replicate
  rw [hl] at hmk
  unfold SpNewP
  rw [hl]
  clear hl
  go_enter Try.func55, Try.ntmps55
  go_wp2_with fail
  have n1 : SPB (w.alloc (.cells #[.slice none 0 0, .slice none 0 0] 143)) w.heap.size (.slice none 0 0) (.slice none 0 0) := BL.new w _ _
  have n2 := BL.new (w.alloc (.cells #[.slice none 0 0, .slice none 0 0] 143)) (bl l) 4
  rw [al_size] at n2
  have hb : Below w.heap.size w ((w.alloc (.cells #[.slice none 0 0, .slice none 0 0] 143)).alloc (.cells (bl l) 4)) := below_step (al _) (al _)
  have n1' : SPB ((w.alloc (.cells #[.slice none 0 0, .slice none 0 0] 143)).alloc (.cells (bl l) 4)) w.heap.size (.slice none 0 0) (.slice none 0 0) := BL.keep n1 (al _)
  have hfill := space_fill.calls w.heap.size (w.heap.size + 1) n (.slice none 0 0) (.slice none 0 0) l _ n1' n2 (by omega) (by omega)
  rw [hln] at hfill
  refine hfill.mono ?_
  rintro e1 w1 ⟨rfl, F, hs, ho, hf⟩
  rw [al_size, al_size] at ho
  rw [hln] at hs ho
  have hT : BL w1 (w.heap.size + 1) (bl l) 4 := n2.fr hf (by omega)
  have hB : Below w.heap.size w w1 := hf.to_below hb hb.size (fun i h => by omega)
  clear n1 n2 n1' hfill
  go_wp2
  exact bodyPost_ret (v := .tuple #[.pointer (some ⟨w.heap.size, 0, none⟩), .int .i64 0]) (by simp [results, Try.results55, go_sem]) rfl ⟨w.heap.size, w.heap.size + 1, F, rfl, hs, hT, ho, by omega, by omega, by omega, by omega, by omega, hB⟩
set_option maxHeartbeats 1000000 in
set_option maxRecDepth 100000 in
theorem least_Len.calls (A : Option Addr) (n c : Nat) (w : World) :
    Calls Try.prog 121 #[.slice A n c] w fun e w' => e = .returned (.int .i64 n) ∧ w = w' := by
  go_enter Try.func121, Try.ntmps121
  go_wp2
  go_ret
  exact ⟨rfl, rfl⟩
set_option maxHeartbeats 1000000 in
set_option maxRecDepth 100000 in
theorem least_Less.calls (B o c : Nat) (l : List Int) (i j : Nat) (hi : i < l.length) (hj : j < l.length) (hl : l.length ≤ 100000) (w : World) (h : IL w B o l) :
    Calls Try.prog 122 #[.slice (some ⟨B, o, none⟩) l.length c, .int .i64 i, .int .i64 j] w fun e w' => e = .returned (.bool (decide (l[i] < l[j]))) ∧ ∃ n, w' = w.drewN n := by
  have hc := h.at i hi
  have hd := h.at j hj
  obtain ⟨x, hx⟩ : ∃ x, l[i] = x := ⟨_, rfl⟩
  obtain ⟨y, hy⟩ : ∃ y, l[j] = y := ⟨_, rfl⟩
  rw [hx] at hc
  rw [hy] at hd
  rw [hx, hy]
  clear hx hy h
  have k1 : (i : Int) < (l.length : Int) := by omega
  have k2 : (j : Int) < (l.length : Int) := by omega
  go_enter Try.func122, Try.ntmps122
  go_wp2_with fail
  go_quiet (fail)
  go_wp2
  go_ret
  exact ⟨rfl, _, rfl⟩
set_option maxHeartbeats 1000000 in
set_option maxRecDepth 100000 in
theorem least_Pop.calls (s k B o c n : Nat) (l : List Int) (hn : l.length = n + 1) (hl : n ≤ 100000) (hcp : n + 1 ≤ c) (w : World) (h0 : w.cell? ⟨s, k, none⟩ = some (.slice (some ⟨B, o, none⟩) (n + 1 : Nat) c)) (hf : w.frozen? ⟨s, k, none⟩ = false) (h : IL w B o l) :
    Calls Try.prog 124 #[.pointer (some ⟨s, k, none⟩)] w fun e w' => e = .returned (.iface 3 (.int .i64 (l[n]'(by omega)))) ∧ w' = w.setCell ⟨s, k, none⟩ (.slice (some ⟨B, o, none⟩) n c) := by
  have hc := h.at n (by omega)
  obtain ⟨x, hx⟩ : ∃ x, (l[n]'(by omega)) = x := ⟨_, rfl⟩
  rw [hx] at hc
  rw [hx]
  clear hx h
  have k2 : (n : Int) < ((n + 1 : Nat) : Int) := by omega
  go_enter Try.func124, Try.ntmps124
  go_wp2
  go_ret
  exact ⟨rfl, rfl⟩
def SwapP (w : World) (B : Nat) (c : Array Value) (e : TypeId) (i j : Nat) (x y : Int) (en : Ending) (w' : World) : Prop := en = .returned (.tuple #[]) ∧ BL w' B ((c.setIfInBounds i (.int .i64 y)).setIfInBounds j (.int .i64 x)) e ∧ Fr (· = B) w w'
set_option maxHeartbeats 2000000 in
set_option maxRecDepth 100000 in
theorem least_Swap.calls (B n cp i j : Nat) (c : Array Value) (e : TypeId) (x y : Int) (hi : i < n) (hj : j < n) (hn : n ≤ 100000) (hij : i ≠ j) (w : World) (h : BL w B c e) (hx : c[i]? = some (.int .i64 x)) (hy : c[j]? = some (.int .i64 y)) :
    Calls Try.prog 123 #[.slice (some ⟨B, 0, none⟩) n cp, .int .i64 i, .int .i64 j] w (SwapP w B c e i j x y) := by
  have hc := (BL.cell h i).trans hx
  have hd := (BL.cell h j).trans hy
  have f1 := BL.free h i
  have f2 := BL.free h j
  have H := Aside0.mk h
  have k1 : (i : Int) < (n : Int) := by omega
  have k2 : (j : Int) < (n : Int) := by omega
  have hji : ¬ j = i := fun h => hij h.symm
  clear h hx hy
  go_enter Try.func123, Try.ntmps123
  go_wp2_with fail
  go_region
  all_goals
    go_end0
    exact ⟨rfl, (BL.set (BL.set H.out i _) j _).dr, (((Fr.refl (· = B) w).own i _).own j _).drew⟩
set_option maxHeartbeats 2000000 in
set_option maxRecDepth 100000 in
theorem least_Swap.same (B n cp i : Nat) (c : Array Value) (e : TypeId) (x : Int) (hi : i < n) (hn : n ≤ 100000) (w : World) (h : BL w B c e) (hx : c[i]? = some (.int .i64 x)) :
    Calls Try.prog 123 #[.slice (some ⟨B, 0, none⟩) n cp, .int .i64 i, .int .i64 i] w (SwapP w B c e i i x x) := by
  have hc := (BL.cell h i).trans hx
  have f1 := BL.free h i
  have H := Aside0.mk h
  have k1 : (i : Int) < (n : Int) := by omega
  clear h hx
  go_enter Try.func123, Try.ntmps123
  go_wp2_with fail
  go_region
  all_goals
    go_end0
    exact ⟨rfl, (BL.set (BL.set H.out i _) i _).dr, (((Fr.refl (· = B) w).own i _).own i _).drew⟩
set_option maxHeartbeats 1000000 in
theorem disk_Flush1.calls (i : Int) (w : World) :
    Calls Try.prog 100 #[.int .i64 i] w fun e w' => e = .returned (.bool true) ∧ w = w' := by
  go_enter Try.func100, Try.ntmps100
  go_wp2
  go_ret
  exact ⟨rfl, rfl⟩
theorem disk_Flush_nil.calls (w : World) :
    Calls Try.prog 89 #[.pointer none] w fun e w' => e = .returned (.int .i64 1) ∧ w = w' := by
  go_enter Try.func89, Try.ntmps89
  go_wp2
  go_ret
  exact ⟨rfl, rfl⟩
/-- The numbers that a block tells. -/
def toldN (l : List UInt8) (o : Nat) : Int := ((l.drop o).take 8).foldl numStep 0
def TS (w : World) (p : Nat) (g r e : Int) : Prop := BL w p #[.int .u64 g, .int .i64 r, .int .u64 e] 111
theorem number_at (N o : Nat) (cp : Nat) (l : List UInt8) (w : World) (h : BC w N l 5 ∨ BC w N l 106) (ho : o + 8 ≤ l.length) :
    Calls Try.prog 85 #[.slice (some ⟨N, o, none⟩) 8 cp] w fun e w' => e = .returned (.int .u64 (toldN l o)) ∧ w = w' := by
  have hs : SB w N o ((l.drop o).take 8) := h.elim (fun h => SB.of h o 8) (fun h => SB.of h o 8)
  have hl : ((l.drop o).take 8).length = 8 := by rw [List.length_take, List.length_drop]; omega
  have := pager_number.calls N o cp _ w hs (by omega)
  rw [hl] at this
  exact this
def ToldP (w : World) (g r e : Int) (b : Bool) (en : Ending) (w' : World) : Prop := en = .returned (.tuple #[.agg #[.int .u64 g, .int .i64 r, .int .u64 e], .bool b]) ∧ Below w.heap.size w w'
/-- A block that the call made has been laid anew. -/
theorem BL.three {w : World} {B : Nat} {a b c : Value} {e : TypeId} (h : BL w B #[a, b, c] e) (x y z : Value) : BL (((w.setCell ⟨B, 0, none⟩ x).setCell ⟨B, 1, none⟩ y).setCell ⟨B, 2, none⟩ z) B #[x, y, z] e := by
  have := ((h.set 0 x).set 1 y).set 2 z
  simpa using this
theorem below_three {B : Nat} {w w1 : World} (h : Below B w w1) (k : Nat) (hk : B ≤ k) (x y z : Value) : Below B w (((w1.setCell ⟨k, 0, none⟩ x).setCell ⟨k, 1, none⟩ y).setCell ⟨k, 2, none⟩ z) :=
  ((h.setCell hk x).setCell hk y).setCell hk z
set_option maxHeartbeats 4000000 in
set_option maxRecDepth 100000 in
theorem pager_told.calls (N : Nat) (l : List UInt8) (n pages : Nat) (g r e : Int) (w : World) (h : BC w N l 106) (hl : l.length = 256)
    (hg : toldN l 0 = g) (hr : toldN l 8 = r) (he : toldN l 16 = e) (h0 : 0 ≤ r) (hp : r ≤ (pages : Int)) (hpl : pages ≤ 4096) (hnl : n < 2) (b : Bool) (hw : (decide (g > 0) && (g % 2 == (n : Int)) && decide ((headL g (r - 1) e).take 64 = l.take 64)) = b) :
    Calls Try.prog 54 #[.slice (some ⟨N, 0, none⟩) 256 256, .int .i64 n, .int .i64 pages] w (ToldP w g (r - 1) e b) := by
  have H := Aside0.mk h
  have hN := h.lt
  have n0 : ∀ W, BC W N l 106 → Calls Try.prog 85 #[.slice (some ⟨N, 0, none⟩) 8 256] W fun e' w' => e' = .returned (.int .u64 g) ∧ W = w' := fun W h => hg ▸ number_at N 0 256 l W (Or.inr h) (by omega)
  have n8 : ∀ W, BC W N l 106 → Calls Try.prog 85 #[.slice (some ⟨N, 8, none⟩) 8 248] W fun e' w' => e' = .returned (.int .u64 r) ∧ W = w' := fun W h => hr ▸ number_at N 8 248 l W (Or.inr h) (by omega)
  have n16 : ∀ W, BC W N l 106 → Calls Try.prog 85 #[.slice (some ⟨N, 16, none⟩) 8 240] W fun e' w' => e' = .returned (.int .u64 e) ∧ W = w' := fun W h => he ▸ number_at N 16 240 l W (Or.inr h) (by omega)
  have M0 := Aside0.mk n0
  have M8 := Aside0.mk n8
  have M16 := Aside0.mk n16
  have HW' := Aside0.mk hw
  clear n0 n8 n16 h hg hr he hw
  go_enter Try.func54, Try.ntmps54
  go_wp2_with fail
  refine (M8.out _ (H.out.keep (al _))).mono ?_
  rintro e1 w1 ⟨rfl, rfl⟩
  go_wp2_with fail
  obtain ⟨W1, hW1⟩ : ∃ W : World, w.alloc (Obj.cells #[Value.int IntKind.u64 0, Value.int IntKind.i64 0, Value.int IntKind.u64 0] 111) = W := ⟨_, rfl⟩
  have HS1 := Aside0.mk (hW1 ▸ BL.new w #[Value.int IntKind.u64 0, Value.int IntKind.i64 0, Value.int IntKind.u64 0] 111)
  have HB1 := Aside0.mk (hW1 ▸ H.out.keep (al _) : BC W1 N l 106)
  have HO1 := Aside0.mk (hW1 ▸ al _ : Below w.heap.size w W1)
  rw [hW1]
  clear hW1
  go_cut [9] (fun v9 wz => ∃ q : Nat, v9 = .pointer (some ⟨q, 0, none⟩) ∧ Aside0 (TS wz q g (r - 1) e) ∧ Aside0 (Below W1.heap.size W1 wz) ∧ Aside0 (W1.heap.size ≤ q))
  case first =>
    go_region_with (first
      | (go_at_call 85; (with_reducible refine (M0.out _ ?_).mono ?_); (first | exact HB1.out.dr | exact HB1.out.dr.keep (al _) | exact (HB1.out.keep (al _)).dr); rintro e1 w2 ⟨rfl, rfl⟩)
      | (go_at_call 85; (with_reducible refine (M16.out _ ?_).mono ?_); (first | exact HB1.out.dr | exact HB1.out.dr.keep (al _) | exact (HB1.out.keep (al _)).dr); rintro e1 w2 ⟨rfl, rfl⟩))
    all_goals
      go_wp2_with fail
      go_meet
      have hx : IntKind.i64.wrap (IntKind.i64.wrap r - 1) = r - 1 := by
        rw [i64_w, i64_w]; unfold wrap64; omega
      rw [hx]
      exact ⟨W1.heap.size, rfl, ⟨(BL.new W1 _ 111).dr⟩, ⟨Below.dr (al _)⟩, ⟨Nat.le_refl _⟩⟩
  case rest =>
    obtain ⟨q, rfl, HQ, HO2, HQL⟩ := hcut
    have q0 := HQ.out.cell 0
    have q1 := HQ.out.cell 1
    have q2 := HQ.out.cell 2
    simp only [List.getElem?_toArray, List.getElem?_cons_zero, List.getElem?_cons_succ] at q0 q1 q2
    have hs : TS wc w.heap.size 0 0 0 := HS1.out.keep HO2.out
    have s0 := hs.cell 0
    have s1 := hs.cell 1
    have s2 := hs.cell 2
    simp only [List.getElem?_toArray, List.getElem?_cons_zero, List.getElem?_cons_succ] at s0 s1 s2
    have f0 := BL.free hs 0
    have f1 := BL.free hs 1
    have f2 := BL.free hs 2
    have hsq : ¬ w.heap.size = q := by have := HS1.out.lt; have := HQL.out; omega
    have hqs : ¬ q = w.heap.size := fun h => hsq h.symm
    have HS := Aside0.mk hs
    have HB := Aside0.mk (HB1.out.keep HO2.out)
    have HO := Aside0.mk (below_step HO1.out HO2.out)
    clear hs
    by_cases hbb : (decide (g > 0) && (g % 2 == (n : Int))) = true
    · have hb2 : decide ((headL g (r - 1) e).take 64 = l.take 64) = b := by have := HW'.out; rw [hbb, Bool.true_and] at this; exact this
      have hgg : 0 < g := by
        by_cases hg : 0 < g
        · exact hg
        · simp [hg] at hbb
      have d2 : (g % 2 == (n : Int)) = true := by simpa [hgg] using hbb
      clear hbb
      have HW2 := Aside0.mk hb2
      clear hb2
      go_upto_region 5 with fail
      go_cut [10] (fun v10 wz => v10 = .bool true ∧ wz = wc)
      case first =>
        have d1 : decide (0 < g) = true := decide_eq_true hgg
        go_wp2_with fail
        go_meet
        exact ⟨rfl, rfl⟩
      case rest =>
        obtain ⟨rfl, rfl⟩ := hcut
        clear d2 hgg
        have hlen : (headL g (r - 1) e).length = 256 := by unfold headL headA; rw [putL_len, putL_len, putL_len, putL_len, List.length_replicate]
        obtain ⟨hL, hhL⟩ : ∃ x, headL g (r - 1) e = x := ⟨_, rfl⟩
        have hhd : ∀ W : World, Calls Try.prog 66 #[.agg #[.int .u64 g, .int .i64 (r - 1), .int .u64 e]] W fun en w' => ∃ N' : Nat, en = .returned (.slice (some ⟨N', 0, none⟩) 256 256) ∧ BC w' N' hL 5 ∧ W.heap.size ≤ N' ∧ Below W.heap.size W w' := fun W => hhL ▸ pager_head.calls g (r - 1) e W
        have heq : ∀ (W : World) (N' : Nat), BC W N' hL 5 → BC W N l 106 → Calls Try.prog 86 #[.slice (some ⟨N', 0, none⟩) 64 256, .slice (some ⟨N, 0, none⟩) 64 256] W fun en w' => en = .returned (.bool b) ∧ ∃ n, w' = W.drewN n := fun W N' h1 h2 => by
          have t1 : (hL.take 64).length = 64 := by rw [List.length_take, ← hhL, hlen]; rfl
          have t2 : (l.take 64).length = 64 := by rw [List.length_take, hl]; rfl
          have := slices_Equal.calls N' 0 256 N 0 256 (hL.take 64) (l.take 64) W (by simpa using SB.of h1 0 64) (by simpa using SB.of h2 0 64) (by omega) (by omega)
          rw [t1, t2] at this
          refine this.mono ?_
          rintro en w' ⟨rfl, h⟩
          exact ⟨by rw [← HW2.out, hhL], h⟩
        have HHD := Aside0.mk hhd
        have HEQ := Aside0.mk heq
        clear hhd heq hhL hlen HW2
        go_upto_region 6 with fail
        go_cut [7] (fun v7 wz => v7 = .bool b ∧ Aside0 (BL wz w.heap.size #[.int .u64 g, .int .i64 (r - 1), .int .u64 e] 111) ∧ Aside0 (Below w.heap.size w wz))
        case first =>
          have HQ3 := Aside0.mk (show BL wc q #[.int .u64 g, .int .i64 (r - 1), .int .u64 e] 111 from HQ.out)
          have HS3 := Aside0.mk (show BL wc w.heap.size #[.int .u64 0, .int .i64 0, .int .u64 0] 111 from HS.out)
          go_region_with (first
            | (go_at_call 66; (with_reducible refine (HHD.out _).mono ?_); rintro e1 w2 ⟨N', rfl, hn, hge, hbl⟩; (have HN := Aside0.mk hn); (have HB2 := Aside0.mk (HB.out.dr.keep hbl)); (have HS2 := Aside0.mk (HS3.out.dr.keep hbl)); (have HO2' := Aside0.mk (below_step (Below.dr HO.out) hbl)); (have z0 := BL.free HS2.out 0); (have z1 := BL.free HS2.out 1); (have z2 := BL.free HS2.out 2); (have y0 := BL.cell HS2.out 0); (have y1 := BL.cell HS2.out 1); (have y2 := BL.cell HS2.out 2); (have HQ2 := Aside0.mk (HQ3.out.dr.keep hbl)); (have x0 := BL.cell HQ2.out 0); (have x1 := BL.cell HQ2.out 1); (have x2 := BL.cell HQ2.out 2); (simp only [List.getElem?_toArray, List.getElem?_cons_zero, List.getElem?_cons_succ] at y0 y1 y2 x0 x1 x2); clear hn hbl hge)
            | (go_at_call 86; (with_reducible refine (HEQ.out _ _ ?_ ?_).mono ?_); (exact HN.out); (exact HB2.out); rintro e1 w3 ⟨rfl, n3, rfl⟩))
          all_goals
            go_wp2_with fail
            go_meet
            exact ⟨rfl, ⟨BL.three (HS2.out.drN n3) _ _ _⟩, ⟨below_three (Below.drN HO2'.out n3) _ (Nat.le_refl _) _ _ _⟩⟩
        case rest =>
          obtain ⟨rfl, HF, HFO⟩ := hcut
          go_wp2_with fail
          have c0 := HF.out.cell 0
          have c1 := HF.out.cell 1
          have c2 := HF.out.cell 2
          simp only [List.getElem?_toArray, List.getElem?_cons_zero, List.getElem?_cons_succ] at c0 c1 c2
          exact bodyPost_ret (v := .tuple #[.agg #[.int .u64 g, .int .i64 (r - 1), .int .u64 e], .bool b]) (by simp [results, Try.results54, go_sem, c0, c1, c2]) rfl ⟨rfl, HFO.out⟩
    · have hbb2 : (decide (g > 0) && (g % 2 == (n : Int))) = false := by simpa using hbb
      have hb2 : false = b := by have := HW'.out; rw [hbb2, Bool.false_and] at this; exact this
      subst hb2
      go_upto_region 5 with fail
      go_cut [10] (fun v10 wz => v10 = .bool false ∧ wz = wc)
      case first =>
        by_cases hg : 0 < g
        · have d1 : decide (0 < g) = true := decide_eq_true hg
          have d2 : (g % 2 == (n : Int)) = false := by simpa [hg] using hbb2
          go_wp2_with fail
          go_meet
          exact ⟨rfl, rfl⟩
        · have d1 : decide (0 < g) = false := decide_eq_false hg
          go_wp2_with fail
          go_meet
          exact ⟨rfl, rfl⟩
      case rest =>
        obtain ⟨rfl, rfl⟩ := hcut
        go_wp2_with fail
        go_region
        go_wp2_with fail
        have hfin := BL.three HS.out (.int .u64 g) (.int .i64 (r - 1)) (.int .u64 e)
        have c0 := hfin.cell 0
        have c1 := hfin.cell 1
        have c2 := hfin.cell 2
        simp only [List.getElem?_toArray, List.getElem?_cons_zero, List.getElem?_cons_succ] at c0 c1 c2
        exact bodyPost_ret (v := .tuple #[.agg #[.int .u64 g, .int .i64 (r - 1), .int .u64 e], .bool false]) (by simp [results, Try.results54, go_sem, c0, c1, c2]) rfl ⟨rfl, Below.dr (below_three HO.out _ (Nat.le_refl _) _ _ _)⟩
theorem Fr.weak {G G1 : Nat → Prop} {w w1 : World} (h : Fr G w w1) (hs : ∀ i, G i → G1 i ∨ w.heap.size ≤ i) : Fr G1 w w1 :=
  ⟨h.os, h.tape, h.output, h.size, fun i hi hn => h.block i hi fun hg => (hs i hg).elim hn (by omega)⟩
theorem Fr.row {G : Nat → Prop} {w w1 : World} (h : Fr G w w1) {g : Nat} (hg : G g ∨ w.heap.size ≤ g) (cs : Array Value) : Fr G w (w1.setRow g cs) :=
  ⟨h.os, h.tape, h.output, by simpa [World.setRow] using h.size, fun i hi hn => (setRow_other w1 g i cs (fun e => by subst e; exact hg.elim hn (by omega))).trans (h.block i hi hn)⟩
/-- What is laid over a row from a place on. -/
def lay (l : List UInt8) (o : Nat) (k : List UInt8) : List UInt8 := l.take o ++ (k ++ l.drop (o + k.length))
theorem lay_len (l : List UInt8) (o : Nat) (k : List UInt8) (h : o + k.length ≤ l.length) : (lay l o k).length = l.length := by
  unfold lay
  rw [List.length_append, List.length_append, List.length_take, List.length_drop]
  omega
theorem cl_oneCell (l : List UInt8) : ∀ v ∈ cl l, v.oneCell' = true := by
  intro v hv
  simp [cl] at hv
  obtain ⟨b, _, rfl⟩ := hv
  rfl
theorem run_copy_bl {P : Program} {w : World} (dT sT ty : TypeId) (elem : TypeId) (hu : P.underlying dT = some (.slice elem)) (hsz : (P.info? elem).map (·.size) = some 1)
    (g off dLen dCap : Nat) (ad : Addr) (sLen sCap : Nat) (cur : Array Value) (t : TypeId) (hg : BL w g cur t) (cs : List Value) (hn : cs.length = Nat.min sLen dLen)
    (hsrc : ∀ j v, cs[j]? = some v → w.cell? (ad.add j) = some v) (hfit : off + cs.length ≤ cur.size) (h1 : ∀ v ∈ cs, v.oneCell' = true) :
    ∃ w', Sem.run P (Builtin.copy_ #[dT, sT] ty #[.slice (some ⟨g, off, none⟩) dLen dCap, .slice (some ad) sLen sCap]) w = .ok (goInt cs.length) w' ∧ BL w' g (cur.toList.take off ++ (cs ++ cur.toList.drop (off + cs.length))).toArray t ∧ Fr (· = g) w w' :=
  ⟨_, run_copy_row (P := P) w dT sT ty elem g off dLen dCap ad sLen sCap cur t cs hu hsz hg hn hsrc hfit h1, by rw [← List.append_assoc]; exact setRow_heap w g _ _ t _ hg, (Fr.refl (· = g) w).row (Or.inl rfl) _⟩
section
variable {P : Program} {w : World} {ops : Array Oper} {o : Oper} {a : Act} {Q : Exit → Act → World → Prop}
theorem wp_copy_bl {K : Act → World → Prop} (d s : Operand) (dT sT : TypeId)
    (ho : o.op = .call { callee := .builtin .copy, args := #[d, s], argTypes := #[dT, sT] }) (elem : TypeId) (hu : P.underlying dT = some (.slice elem)) (hsz : (P.info? elem).map (·.size) = some 1)
    (g off dLen dCap : Nat) (ad : Addr) (sLen sCap : Nat) (hd : a.eval d = .slice (some ⟨g, off, none⟩) dLen dCap) (hs : a.eval s = .slice (some ad) sLen sCap)
    (cur : Array Value) (t : TypeId) (hg : BL w g cur t) (cs : List Value) (hn : cs.length = Nat.min sLen dLen)
    (hsrc : ∀ j v, cs[j]? = some v → w.cell? (ad.add j) = some v) (hfit : off + cs.length ≤ cur.size) (h1 : ∀ v ∈ cs, v.oneCell' = true)
    (h : ∀ w', Aside0 (BL w' g (cur.toList.take off ++ (cs ++ cur.toList.drop (off + cs.length))).toArray t) → Aside0 (Fr (· = g) w w') → K (a.put o.dst (goInt cs.length)) w') : Oper.wp P o a w K Q := by
  have hrun := run_copy_row (P := P) w dT sT o.type elem g off dLen dCap ad sLen sCap cur t cs hu hsz hg hn hsrc hfit h1
  unfold Oper.wp
  simp [execOp, ho, resolve, invoke, builtin, hd, hs, hrun, Result.andThen]
  exact h _ ⟨setRow_heap w g _ _ t _ hg⟩ ⟨(Fr.refl (· = g) w).row (Or.inl rfl) _⟩
theorem wpList_copy_bl {rest : List Oper} (hgd : o.guard = none) (d s : Operand) (dT sT : TypeId)
    (ho : o.op = .call { callee := .builtin .copy, args := #[d, s], argTypes := #[dT, sT] }) (elem : TypeId) (hu : P.underlying dT = some (.slice elem)) (hsz : (P.info? elem).map (·.size) = some 1)
    (g off dLen dCap : Nat) (ad : Addr) (sLen sCap : Nat) (hd : a.eval d = .slice (some ⟨g, off, none⟩) dLen dCap) (hs : a.eval s = .slice (some ad) sLen sCap)
    (cur : Array Value) (t : TypeId) (hg : BL w g cur t) (cs : List Value) (hn : cs.length = Nat.min sLen dLen)
    (hsrc : ∀ j v, cs[j]? = some v → w.cell? (ad.add j) = some v) (hfit : off + cs.length ≤ cur.size) (h1 : ∀ v ∈ cs, v.oneCell' = true)
    (h : ∀ w', Aside0 (BL w' g (cur.toList.take off ++ (cs ++ cur.toList.drop (off + cs.length))).toArray t) → Aside0 (Fr (· = g) w w') → wpList P ops Q rest (a.put o.dst (goInt cs.length)) w') :
    wpList P ops Q (o :: rest) a w :=
  wpList_plain hgd fun _ hK => wp_copy_bl d s dT sT ho elem hu hsz g off dLen dCap ad sLen sCap hd hs cur t hg cs hn hsrc hfit h1 fun w' x y => hK _ _ (h w' x y)
theorem step_copy_bl {K : Act → World → Prop} {E : Prop} (hgd : o.guard = none) (d s : Operand) (dT sT : TypeId)
    (ho : o.op = .call { callee := .builtin .copy, args := #[d, s], argTypes := #[dT, sT] }) (elem : TypeId) (hu : P.underlying dT = some (.slice elem)) (hsz : (P.info? elem).map (·.size) = some 1)
    (g off dLen dCap : Nat) (ad : Addr) (sLen sCap : Nat) (hd : a.eval d = .slice (some ⟨g, off, none⟩) dLen dCap) (hs : a.eval s = .slice (some ad) sLen sCap)
    (cur : Array Value) (t : TypeId) (hg : BL w g cur t) (cs : List Value) (hn : cs.length = Nat.min sLen dLen)
    (hsrc : ∀ j v, cs[j]? = some v → w.cell? (ad.add j) = some v) (hfit : off + cs.length ≤ cur.size) (h1 : ∀ v ∈ cs, v.oneCell' = true)
    (h : ∀ w', Aside0 (BL w' g (cur.toList.take off ++ (cs ++ cur.toList.drop (off + cs.length))).toArray t) → Aside0 (Fr (· = g) w w') → K (a.put o.dst (goInt cs.length)) w') :
    if Region.wanted o (yielded ops a.tmps) = true then Oper.wp P o a w K Q else E := by
  have hw : Region.wanted o (yielded ops a.tmps) = true := by simp [Region.wanted, hgd]
  rw [if_pos hw]
  exact wp_copy_bl d s dT sT ho elem hu hsz g off dLen dCap ad sLen sCap hd hs cur t hg cs hn hsrc hfit h1 h
end
/-- The cells of a row over which bytes were laid. -/
theorem lay_cells (l : List UInt8) (o : Nat) (k : List UInt8) : ((cl l).toArray.toList.take o ++ (cl k ++ (cl l).toArray.toList.drop (o + (cl k).length))).toArray = (cl (lay l o k)).toArray := by
  congr 1
  rw [cl_len]
  simp [cl, lay]
theorem SB.src {w : World} {B o : Nat} {l : List UInt8} (h : SB w B o l) : ∀ j v, (cl l)[j]? = some v → w.cell? ((⟨B, o, none⟩ : Addr).add j) = some v := fun j v hv => by
  rw [Addr.add_mid]
  exact h j v hv
/-- A piece, as cells. -/
def pieceC (p : Nat × Nat × List UInt8) : List Value := Value.int .i64 (p.1 : Int) :: Value.int .i64 (p.2.1 : Int) :: cl p.2.2
theorem pieceC_len (p : Nat × Nat × List UInt8) : (pieceC p).length = p.2.2.length + 2 := by simp [pieceC, cl_len]
theorem pieceC_one (p : Nat × Nat × List UInt8) : ∀ v ∈ pieceC p, v.oneCell' = true := by
  intro v hv
  simp only [pieceC, List.mem_cons] at hv
  rcases hv with rfl | rfl | hv
  · rfl
  · rfl
  · exact cl_oneCell _ v hv
theorem piece_info : (Try.prog.info? 109).map (fun i => (i.zero, i.size, i.bytes)) = some (some (.agg ((#[.int .i64 0, .int .i64 0] : Array Value) ++ Array.replicate 64 (.int .u8 0))), 66, 80) := by kernel_rfl
/-- A disk, whole. -/
structure Dk (w : World) (g N S n : Nat) (now safe : List UInt8) (ps : List (Nat × Nat × List UInt8)) (P : Value) (fu : Bool) (lf : Int) (of : Bool) : Prop where
  d : DB w g (.slice (some ⟨N, 0, none⟩) n n) (.slice (some ⟨S, 0, none⟩) n n) P fu lf of
  bn : BC w N now 106
  bs : BC w S safe 106
  ln : now.length = n * 256
  ls : safe.length = n * 256
  lp : ∀ p ∈ ps, p.2.2.length = 64 ∧ p.1 < n ∧ p.2.1 + 64 ≤ 256
  ow : w.ownsRow 0 109 66 P ps.length (ps.flatMap pieceC)
  ns : N ≠ S
  ng : N ≠ g
  sg : S ≠ g
  pf : ∀ k, P.ownBlock = some k → k ≠ g ∧ k ≠ N ∧ k ≠ S
/-- The disk's blocks. -/
def DkF (g N S : Nat) (P : Value) (k : Nat) : Prop := k = g ∨ k = N ∨ k = S ∨ P.ownBlock = some k
theorem ownsRow_block {w w' : World} {base : Nat} {e : TypeId} {size n : Nat} {v : Value} {xs : List Value} (h : w.ownsRow base e size v n xs) (hb : ∀ k, v.ownBlock = some k → w'.heap[k]? = w.heap[k]?) : w'.ownsRow base e size v n xs := by
  refine ⟨h.1, ?_⟩
  rcases h.2 with h0 | ⟨g, cap, cur, rfl, hb0, hg, hr⟩
  · exact Or.inl h0
  · exact Or.inr ⟨g, cap, cur, rfl, hb0, (hb g rfl).trans hg, hr⟩
theorem Dk.fr {w w' : World} {g N S n : Nat} {now safe : List UInt8} {ps : List (Nat × Nat × List UInt8)} {P : Value} {fu : Bool} {lf : Int} {of : Bool} {G : Nat → Prop} (h : Dk w g N S n now safe ps P fu lf of) (hf : Fr G w w') (hg : ∀ k, DkF g N S P k → ¬ G k) : Dk w' g N S n now safe ps P fu lf of :=
  { h with
    d := BL.fr h.d hf (hg g (Or.inl rfl))
    bn := BL.fr h.bn hf (hg N (Or.inr (Or.inl rfl)))
    bs := BL.fr h.bs hf (hg S (Or.inr (Or.inr (Or.inl rfl))))
    ow := ownsRow_block h.ow fun k hk => hf.block k (h.ow.lt k hk).2 (hg k (Or.inr (Or.inr (Or.inr hk)))) }
theorem Dk.lt {w : World} {g N S n : Nat} {now safe : List UInt8} {ps : List (Nat × Nat × List UInt8)} {P : Value} {fu : Bool} {lf : Int} {of : Bool} (h : Dk w g N S n now safe ps P fu lf of) (k : Nat) (hk : DkF g N S P k) : k < w.heap.size := by
  rcases hk with rfl | rfl | rfl | hk
  · exact BL.lt h.d
  · exact BL.lt h.bn
  · exact BL.lt h.bs
  · exact (h.ow.lt k hk).2
theorem wpStill_load_mid {P : Program} {w : World} {ops : Array Oper} {rest : List Oper} {op : Oper} {a : Act} {Q : Act → Prop} (hw : Region.wanted op (yielded ops a.tmps) = true) (ty : TypeId) (x : Operand) (ho : op.op = .load ty x)
    (b o : Nat) (hx : a.eval x = .pointer (some ⟨b, o, none⟩)) (cs : List Value) (d : TypeDesc) (hc : w.rangeAt b o cs)
    (hu : P.underlying ty = some d) (hd : d.isRow = true) (hi : (P.info? ty).map (·.size) = some cs.length)
    (h : wpStill P ops w Q rest (a.put op.dst (.agg cs.toArray))) : wpStill P ops w Q (op :: rest) a := by
  refine wpStill_step (fun K hK => ?_)
  rw [if_pos hw]
  unfold Oper.still execOp
  simp only [ho, hx, Instr.loadAt, Instr.sureAddr, Sem.run_bind, Sem.run_pure, Result.andThen_ok, run_loadVar_mid w b o ty cs d hc hu hd hi]
  exact ⟨rfl, hK _ h⟩
theorem BL.rng {w : World} {B : Nat} {l : List Value} {e : TypeId} (h : BL w B l.toArray e) : w.rangeAt B 0 l := fun k v hv => by
  rw [Nat.zero_add]
  exact (BL.cell h k).trans (by simpa using hv)
theorem fold_set (l : List Value) : ∀ (k : Nat) (cs : Array Value), k + l.length = cs.size → ((l.zipIdx k).foldl (fun cs (x : Value × Nat) => cs.setIfInBounds (0 + x.2) x.1) cs).toList = cs.toList.take k ++ l := by
  induction l with
  | nil =>
    intro k cs h
    rw [List.zipIdx_nil, List.foldl_nil, List.append_nil, List.take_of_length_le (by rw [Array.length_toList]; simp at h; omega)]
  | cons x t ih =>
    intro k cs h
    rw [List.length_cons] at h
    rw [List.zipIdx_cons, List.foldl_cons, ih (k + 1) _ (by rw [Array.size_setIfInBounds]; omega), Array.toList_setIfInBounds, Nat.zero_add]
    have hk : k < cs.toList.length := by rw [Array.length_toList]; omega
    rw [List.take_add_one, List.take_set_of_le (Nat.le_refl k), List.getElem?_set_self hk, List.append_assoc]
    rfl
theorem fill_one (p : List Value) (z : Array Value) (n : Nat) (hp : p.length = n) (hz : z.size = n) : Instr.fill (fun i => some (i * n, n)) z [(0, .agg p.toArray)] = some p.toArray := by
  have hc : (Value.agg p.toArray).cells = p.toArray := rfl
  have h1 : ¬ ((Value.agg p.toArray).cells.size ≠ n ∨ 0 + (Value.agg p.toArray).cells.size > z.size) := by rw [hc, List.size_toArray]; omega
  simp only [Instr.fill, Nat.zero_mul]
  rw [if_neg (by simpa using h1), hc]
  congr 1
  apply Array.toList_inj.1
  have := fold_set p 0 z (by omega)
  rw [List.take_zero, List.nil_append] at this
  rw [← Array.foldl_toList, Array.toList_zipIdx]
  exact this
theorem run_one_piece (W : World) (p : List Value) (hp : p.length = 66) : Sem.run Try.prog (Instr.buildSlice 92 1 #[(0, .agg p.toArray)]) W = .ok (.slice (some ⟨W.heap.size, 0, none⟩) 1 1) (W.alloc (.cells p.toArray 109)) := by
  obtain ⟨i, hi, hm⟩ := Option.map_eq_some_iff.1 piece_info
  simp only [Prod.mk.injEq] at hm
  have hs : (sizeOf 109).run Try.prog W = .ok 66 W := by
    rw [run_sizeOf W hi, show Try.prog.cellsOf 109 = 66 from by kernel_rfl]
  have hz : (zeroValue 109).run Try.prog W = .ok (.agg ((#[.int .i64 0, .int .i64 0] : Array Value) ++ Array.replicate 64 (.int .u8 0))) W := by
    simp [zeroValue, typeInfo, Sem.run_bind, hi, hm.1]
  have hf := fill_one p ((Array.range (1 * 66)).map fun k => ((Value.agg ((#[.int .i64 0, .int .i64 0] : Array Value) ++ Array.replicate 64 (.int .u8 0))).cells)[k % ((Value.agg ((#[.int .i64 0, .int .i64 0] : Array Value) ++ Array.replicate 64 (.int .u8 0))).cells).size]!) 66 hp (by rw [Array.size_map, Array.size_range])
  unfold Instr.buildSlice
  simp only [Sem.run_bind, run_underlying Try.underlying92, Result.andThen_ok, hs]
  rw [if_neg (by decide), if_neg (by decide)]
  simp only [Sem.run_bind, Sem.run_pure, Result.andThen_ok, hz, hf]
  simp [newRow, newObj, Sem.run_bind]
  rfl
theorem wpList_one_piece {w : World} {ops : Array Oper} {rest : List Oper} {o : Oper} {a : Act} {Q : Exit → Act → World → Prop} (hgd : o.guard = none) (x : Operand) (ho : o.op = .buildSlice 92 1 #[(0, x)])
    (p : List Value) (hp : p.length = 66) (hx : a.eval x = .agg p.toArray)
    (h : wpList Try.prog ops Q rest (a.put o.dst (.slice (some ⟨w.heap.size, 0, none⟩) 1 1)) (w.alloc (.cells p.toArray 109))) : wpList Try.prog ops Q (o :: rest) a w := by
  refine wpList_plain hgd fun K hK => ?_
  have hrun := run_one_piece w p hp
  unfold Oper.wp execOp
  simp only [ho, List.map_toArray, List.map_cons, List.map_nil, hx, Sem.run_bind, hrun, Sem.run_pure, Result.andThen_ok]
  exact hK _ _ h
theorem wp_one_piece {w : World} {o : Oper} {a : Act} {K : Act → World → Prop} {Q : Exit → Act → World → Prop} (x : Operand) (ho : o.op = .buildSlice 92 1 #[(0, x)])
    (p : List Value) (hp : p.length = 66) (hx : a.eval x = .agg p.toArray)
    (h : K (a.put o.dst (.slice (some ⟨w.heap.size, 0, none⟩) 1 1)) (w.alloc (.cells p.toArray 109))) : Oper.wp Try.prog o a w K Q := by
  have hrun := run_one_piece w p hp
  unfold Oper.wp execOp
  simp only [ho, List.map_toArray, List.map_cons, List.map_nil, hx, Sem.run_bind, hrun, Sem.run_pure, Result.andThen_ok]
  exact h
theorem BL.src0 {w : World} {B : Nat} {l : List Value} {e : TypeId} (h : BL w B l.toArray e) : ∀ j v, l[j]? = some v → w.cell? ((⟨B, 0, none⟩ : Addr).add j) = some v := fun j v hv => by
  rw [Addr.add_mid]
  exact BL.rng h j v hv
theorem Dk.append {w w9 : World} {g N S n : Nat} {now safe : List UInt8} {ps : List (Nat × Nat × List UInt8)} {P : Value} {fu : Bool} {lf : Int} {of : Bool} (h : Dk w g N S n now safe ps P fu lf of) (o : Obj) (hg : (w.drew.alloc o).grownBy w9 P.ownBlock) (k cap : Nat) (p : Nat × Nat × List UInt8) (hp : p.2.2.length = 64 ∧ p.1 < n ∧ p.2.1 + 64 ≤ 256)
    (ho : w9.ownsRow 0 109 66 (.slice (some ⟨k, 0, none⟩) (ps.length + 1) cap) (ps.length + 1) (ps.flatMap pieceC ++ pieceC p)) (hk : P.ownBlock = some k ∨ k = (w.drew.alloc o).heap.size) :
    Dk (w9.setCell ⟨g, 2, none⟩ (.slice (some ⟨k, 0, none⟩) (ps.length + 1) cap)) g N S n now safe (ps ++ [p]) (.slice (some ⟨k, 0, none⟩) (ps.length + 1) cap) fu lf of ∧ Fr (DkF g N S P) w (w9.setCell ⟨g, 2, none⟩ (.slice (some ⟨k, 0, none⟩) (ps.length + 1) cap)) ∧ ((Value.slice (some ⟨k, 0, none⟩) (ps.length + 1) cap).ownBlock = P.ownBlock ∨ ∃ q, (Value.slice (some ⟨k, 0, none⟩) (ps.length + 1) cap).ownBlock = some q ∧ w.heap.size ≤ q) := by
  have hsz : (w.drew.alloc o).heap.size = w.heap.size + 1 := al_size _ _
  have hfa : Fr (fun q => P.ownBlock = some q) w (w.drew.alloc o) := (Fr.refl _ w).drew.alloc o
  have hf9 : Fr (fun q => P.ownBlock = some q) w w9 := ⟨hg.os.trans hfa.os, hg.tape.trans hfa.tape, hg.output.trans hfa.output, Nat.le_trans hfa.size hg.size, fun q hq hn => (hg.block q (by omega) (fun e => hn e.symm)).trans (hfa.block q hq hn)⟩
  have hgl := h.lt g (Or.inl rfl)
  have hNl := h.lt N (Or.inr (Or.inl rfl))
  have hSl := h.lt S (Or.inr (Or.inr (Or.inl rfl)))
  have hkne : k ≠ g ∧ k ≠ N ∧ k ≠ S := by
    rcases hk with hk | hk
    · exact h.pf k hk
    · omega
  refine ⟨⟨?_, ?_, ?_, h.ln, h.ls, ?_, ?_, h.ns, h.ng, h.sg, ?_⟩, ?_, ?_⟩
  · exact BL.set (BL.fr h.d hf9 (fun e => (h.pf g e).1 rfl)) 2 _
  · exact (BL.fr h.bn hf9 (fun e => (h.pf N e).2.1 rfl)).far _ _ h.ng
  · exact (BL.fr h.bs hf9 (fun e => (h.pf S e).2.2 rfl)).far _ _ h.sg
  · intro q hq
    rcases List.mem_append.1 hq with hq | hq
    · exact h.lp q hq
    · rw [List.mem_singleton] at hq; subst hq; exact hp
  · rw [List.length_append, List.length_singleton, List.flatMap_append, List.flatMap_singleton]
    refine ownsRow_block ho fun q hq => ?_
    have : k = q := by simpa [Value.ownBlock] using hq
    exact Below.heap_setCell _ _ _ _ (by show q ≠ g; omega)
  · intro q hq
    have : k = q := by simpa [Value.ownBlock] using hq
    subst this
    exact hkne
  · exact (hf9.weak (G1 := DkF g N S P) (fun q hq => Or.inl (Or.inr (Or.inr (Or.inr hq))))).setCell (p := ⟨g, 2, none⟩) (Or.inl (Or.inl rfl)) _
  · rcases hk with hk | hk
    · exact Or.inl hk.symm
    · exact Or.inr ⟨k, rfl, by omega⟩
theorem Dk.grown_cell {w w9 : World} {g N S n : Nat} {now safe : List UInt8} {ps : List (Nat × Nat × List UInt8)} {P : Value} {fu : Bool} {lf : Int} {of : Bool} (h : Dk w g N S n now safe ps P fu lf of) (o : Obj) (hg : (w.drew.alloc o).grownBy w9 P.ownBlock) : w9.cell? ⟨g, 2, none⟩ = some P ∧ w9.frozen? ⟨g, 2, none⟩ = false := by
  have hgl := h.lt g (Or.inl rfl)
  have e : w9.heap[g]? = w.heap[g]? := (hg.block g (by rw [al_size]; exact Nat.lt_succ_of_lt hgl) (fun e => (h.pf g e.symm).1 rfl)).trans ((al (w := w.drew) o).block g hgl)
  exact ⟨(World.cell?_of_block (a := ⟨g, 2, none⟩) e).trans h.d.all.2.2.1, (World.frozen?_of_block (a := ⟨g, 2, none⟩) e).trans (h.d.all.2.2.2.2.2.2 2)⟩
/-- The pieces of a block that is written. -/
def pcs (i : Nat) (b : List UInt8) (j : Nat) : List (Nat × Nat × List UInt8) := (List.range j).map fun k => (i, k * 64, (b.drop (k * 64)).take 64)
theorem pcs_succ (i : Nat) (b : List UInt8) (j : Nat) : pcs i b (j + 1) = pcs i b j ++ [(i, j * 64, (b.drop (j * 64)).take 64)] := by
  simp [pcs, List.range_succ]
theorem pcs_len (i : Nat) (b : List UInt8) (j : Nat) : (pcs i b j).length = j := by simp [pcs]
theorem SB.fr {w w' : World} {B o : Nat} {l : List UInt8} {G : Nat → Prop} (h : SB w B o l) (hl : B < w.heap.size) (hf : Fr G w w') (hg : ¬ G B) : SB w' B o l := by
  intro j v hj
  rw [World.cell?_of_block (a := ⟨B, o + j, none⟩) (hf.block B hl hg)]
  exact h j v hj
theorem SB.sub {w : World} {B o : Nat} {l : List UInt8} (h : SB w B o l) (k m : Nat) : SB w B (o + k) ((l.drop k).take m) := by
  intro j v hj
  unfold cl at hj
  rw [List.getElem?_map, List.getElem?_take] at hj
  split at hj
  · rw [Nat.add_assoc]
    refine h (k + j) v ?_
    rw [List.getElem?_drop] at hj
    unfold cl
    rw [List.getElem?_map]
    exact hj
  · cases hj
theorem u8_size : (Try.prog.info? 5).map (·.size) = some 1 := by kernel_rfl
theorem zero_piece : Try.zeroCells109 = (pieceC (0, 0, List.replicate 64 0)).toArray := by kernel_rfl
theorem piece_set (x y : Nat) : ((Try.zeroCells109.toList.set 0 (Value.int .i64 (x : Int))).set 1 (Value.int .i64 (y : Int))) = pieceC (x, y, List.replicate 64 0) := by
  rw [zero_piece]
  simp [pieceC]
theorem piece_new (W : World) (p : Nat × Nat × List UInt8) (hp : p.2.2.length = 64) : Sem.run Try.prog (storeCells ⟨W.heap.size, 0, none⟩ (pieceC p)) (W.alloc (.cells Try.zeroCells109 109)) = .ok () (W.alloc (.cells (pieceC p).toArray 109)) := by
  have := run_storeCells_new (P := Try.prog) W 109 Try.zeroCells109 (pieceC p).toArray (by rw [List.size_toArray, pieceC_len, hp]; kernel_rfl) (by rw [zero_piece, List.size_toArray, List.size_toArray, pieceC_len, pieceC_len, hp, List.length_replicate]) (by
    rw [Array.all_eq_true_iff_forall_mem]
    intro v hv
    exact pieceC_one p v (by simpa using hv))
  simpa using this
theorem Fr.trans_dk {w wr w3 w9 : World} {g N S n : Nat} {P P' : Value} {now safe : List UInt8} {ps : List (Nat × Nat × List UInt8)} {fu : Bool} {lf : Int} {of : Bool} (h : Fr (DkF g N S P) w wr) (h3 : Fr (· = wr.heap.size) wr w3) (h9 : Fr (DkF g N S P') w3 w9) (_ : Dk wr g N S n now safe ps P' fu lf of) (hp : P'.ownBlock = P.ownBlock ∨ ∃ k, P'.ownBlock = some k ∧ w.heap.size ≤ k) : Fr (DkF g N S P) w w9 := by
  have h1 : Fr (DkF g N S P) w w3 := h.then_ h3 (fun k hk => Or.inr (by have := h.size; omega))
  refine h1.then_ h9 (fun k hk => ?_)
  rcases hk with hk | hk | hk | hk
  · exact Or.inl (Or.inl hk)
  · exact Or.inl (Or.inr (Or.inl hk))
  · exact Or.inl (Or.inr (Or.inr (Or.inl hk)))
  · rcases hp with hp | ⟨q, hq, hl⟩
    · exact Or.inl (Or.inr (Or.inr (Or.inr (hp ▸ hk))))
    · rw [hq] at hk
      exact Or.inr (by have : q = k := Option.some.inj hk; omega)
theorem own_step {G G' : Nat → Prop} {w wr w3 : World} {P P' P2 : Value} (hp : P'.ownBlock = P.ownBlock ∨ ∃ k, P'.ownBlock = some k ∧ w.heap.size ≤ k) (h2 : P2.ownBlock = P'.ownBlock ∨ ∃ k, P2.ownBlock = some k ∧ w3.heap.size ≤ k) (h : Fr G w wr) (h3 : Fr G' wr w3) : P2.ownBlock = P.ownBlock ∨ ∃ k, P2.ownBlock = some k ∧ w.heap.size ≤ k := by
  rcases h2 with h2 | ⟨k, hk, hl⟩
  · rw [h2]; exact hp
  · exact Or.inr ⟨k, hk, by have := h.size; have := h3.size; omega⟩
def WriteP (w : World) (g N S n : Nat) (now safe : List UInt8) (ps : List (Nat × Nat × List UInt8)) (P : Value) (fu : Bool) (lf : Int) (i : Nat) (b : List UInt8) (en : Ending) (w' : World) : Prop :=
  en = .returned (.int .i64 0) ∧ ∃ P', Dk w' g N S n (lay now (i * 256) b) safe (ps ++ pcs i b 4) P' fu (wrap64 (lf - 1)) false ∧ Fr (DkF g N S P) w w' ∧ (P'.ownBlock = P.ownBlock ∨ ∃ k, P'.ownBlock = some k ∧ w.heap.size ≤ k)
set_option maxHeartbeats 4000000 in
set_option maxRecDepth 100000 in
theorem disk_Write.calls (g N S n : Nat) (now safe : List UInt8) (ps : List (Nat × Nat × List UInt8)) (P : Value) (fu : Bool) (lf : Int) (i : Nat) (B o cp : Nat) (b : List UInt8) (w : World) (h : Dk w g N S n now safe ps P fu lf false) (hp : (fu && lf == 0) = false) (hb : SB w B o b) (hbl : b.length = 256) (hB : ¬ DkF g N S P B) (hBl : B < w.heap.size) (hi : i < n) (hn : n ≤ 4096) (hcp : 256 ≤ cp) (hps : ps.length ≤ 100000) :
    Calls Try.prog 12 #[.pointer (some ⟨g, 0, none⟩), .int .i64 i, .slice (some ⟨B, o, none⟩) 256 cp] w (WriteP w g N S n now safe ps P fu lf i b) := by
  have HI := Aside0.mk piece_info
  have k0 : (0 : Int) ≤ (i : Int) := by omega
  have k1 : (i : Int) < (n : Int) := by omega
  have dk : (decide (0 ≤ (i : Int)) && decide ((i : Int) < (n : Int))) = true := by simp [k0, k1]
  have H := Aside0.mk h
  have HB := Aside0.mk hb
  have HP := Aside0.mk hp
  have HBL := Aside0.mk hbl
  have HBF := Aside0.mk hB
  have HPS := Aside0.mk hps
  clear h hb hp hbl hB hps
  go_enter Try.func12, Try.ntmps12
  go_wp2_with fail
  refine (disk_has.calls g _ n n _ P fu false lf i _ H.out.d).mono ?_
  rw [dk]
  rintro e w1 ⟨rfl, rfl⟩
  go_wp2_with fail
  refine (disk_power.on g _ _ P fu lf _ H.out.d HP.out).mono ?_
  rintro e w1 ⟨rfl, hd1, hf1⟩
  have F1 := Aside0.mk hf1
  have D1 := Aside0.mk hd1
  have n1 := hd1.all.1
  have hbn := BL.fr H.out.bn hf1 H.out.ng
  have hsb := SB.fr HB.out hBl hf1 (fun e => HBF.out (Or.inl e))
  have hli : i * 256 + 256 ≤ now.length := by rw [H.out.ln]; have : (i + 1) * 256 ≤ n * 256 := Nat.mul_le_mul_right _ hi; omega
  have HBN := Aside0.mk hbn
  have HSB := Aside0.mk hsb
  have HLI := Aside0.mk hli
  clear hd1 hf1 hbn hsb hli
  go_wp2_with fail
  obtain ⟨w2, hrun, hb2, hf2⟩ := run_copy_bl (P := Try.prog) 38 38 3 5 Try.underlying38 u8_size N (i * 256) 256 256 ⟨B, o, none⟩ 256 cp _ _ HBN.out (cl b) (by rw [cl_len, HBL.out]; rfl) HSB.out.src (by rw [cl_len, HBL.out, List.size_toArray, cl_len]; exact HLI.out) (cl_oneCell b)
  rw [hrun]
  rw [lay_cells] at hb2
  have hdk : Dk w2 g N S n (lay now (i * 256) b) safe ps P fu (wrap64 (lf - 1)) false :=
    { H.out with
      d := BL.fr D1.out hf2 (fun e => H.out.ng e.symm)
      bn := hb2
      bs := (BL.fr H.out.bs F1.out H.out.sg).fr hf2 (fun e => H.out.ns e.symm)
      ln := (lay_len _ _ _ (by rw [HBL.out]; exact HLI.out)).trans H.out.ln
      ow := ownsRow_block H.out.ow fun k hk => (hf2.block k (Nat.lt_of_lt_of_le (H.out.ow.lt k hk).2 F1.out.size) (H.out.pf k hk).2.1).trans (F1.out.block k (H.out.ow.lt k hk).2 (H.out.pf k hk).1) }
  have hfr : Fr (DkF g N S P) w w2 := (F1.out.weak (fun k hk => Or.inl (Or.inl hk))).then_ hf2 (fun k hk => Or.inl (Or.inr (Or.inl hk)))
  have HFR := Aside0.mk hfr
  have HDK := Aside0.mk hdk
  have hcl : (cl b).length = 256 := (cl_len b).trans HBL.out
  rw [hcl]
  clear hdk hfr hrun hb2 hf2 n1 hcl
  obtain ⟨nw, hnw⟩ : ∃ x, lay now (i * 256) b = x := ⟨_, rfl⟩
  obtain ⟨lf2, hlf⟩ : ∃ x, wrap64 (lf - 1) = x := ⟨_, rfl⟩
  rw [hnw, hlf] at HDK
  have HNW := Aside0.mk hnw
  have HLF := Aside0.mk hlf
  clear hnw hlf
  go_wp2_with fail
  go_loopg [32] 4 (fun kq v32 wr => ∃ (j : Nat) (P' : Value), v32 = .int .i64 j ∧ Aside0 (kq + j = 4) ∧ Aside0 (Dk wr g N S n nw safe (ps ++ pcs i b j) P' fu lf2 false) ∧ Aside0 (Fr (DkF g N S P) w wr) ∧ Aside0 (P'.ownBlock = P.ownBlock ∨ ∃ k, P'.ownBlock = some k ∧ w.heap.size ≤ k))
  case atStart => exact ⟨0, P, rfl, ⟨rfl⟩, ⟨by simpa [pcs] using HDK.out⟩, HFR, ⟨Or.inl rfl⟩⟩
  case round =>
    obtain ⟨j, P', rfl, HJ, HD, HF, HPB⟩ := hrel
    by_cases hj : j < 4
    · have k2 : (j : Int) < 4 := by omega
      have hql : (ps ++ pcs i b j).length ≤ 100004 := by rw [List.length_append, pcs_len]; have := HPS.out; omega
      obtain ⟨q, hq⟩ : ∃ x, ps ++ pcs i b j = x := ⟨_, rfl⟩
      rw [hq] at HD hql
      have HQ := Aside0.mk hq
      have HQL := Aside0.mk hql
      clear hq hql
      have hz : (List.replicate 64 (0 : UInt8)).length = 64 := List.length_replicate
      obtain ⟨z, hzz⟩ : ∃ x, List.replicate 64 (0 : UInt8) = x := ⟨_, rfl⟩
      have hps1 : ((Try.zeroCells109.toList.set 0 (Value.int .i64 (i : Int))).set 1 (Value.int .i64 ((j : Int) * 64))) = pieceC (i, j * 64, z) := by
        have := piece_set i (j * 64)
        rw [hzz] at this
        exact this
      have hnw := piece_new wr (i, j * 64, z) (by rw [← hzz]; exact hz)
      rw [hzz] at hz
      clear hzz
      go_wp2_with fail
      have hbl1 := BL.new wr (pieceC (i, j * 64, z)).toArray 109
      have hal : Below wr.heap.size wr (wr.alloc (.cells (pieceC (i, j * 64, z)).toArray 109)) := al _
      obtain ⟨W, hW⟩ : ∃ W : World, wr.alloc (.cells (pieceC (i, j * 64, z)).toArray 109) = W := ⟨_, rfl⟩
      rw [hW] at hbl1 hal ⊢
      have HBL1 := Aside0.mk hbl1
      have HAL := Aside0.mk hal
      have c1 := hbl1.cell 1
      simp only [pieceC, List.getElem?_toArray, List.getElem?_cons_zero, List.getElem?_cons_succ] at c1
      clear hps1 hnw hW hbl1 hal
      have k3 : (j : Int) * 64 ≤ 256 := by omega
      have k4 : (0 : Int) ≤ (j : Int) * 64 := by omega
      have hs4 : SB W B (o + j * 64) ((b.drop (j * 64)).take 64) := by
        have h1 := (SB.fr HB.out hBl HF.out HBF.out)
        have hl : B < wr.heap.size := Nat.lt_of_lt_of_le hBl HF.out.size
        exact (SB.keep h1 hl HAL.out).sub (j * 64) 64
      have HS4 := Aside0.mk hs4
      have hl4 : ((b.drop (j * 64)).take 64).length = 64 := by rw [List.length_take, List.length_drop, HBL.out]; omega
      have HL4 := Aside0.mk hl4
      have HMN : Aside0 ((cl ((b.drop (j * 64)).take 64)).length = Nat.min (256 - j * 64) 64) := ⟨by rw [cl_len, HL4.out]; exact (Nat.min_eq_right (by omega)).symm⟩
      have HFT : Aside0 (2 + (cl ((b.drop (j * 64)).take 64)).length ≤ (pieceC (i, j * 64, z)).toArray.size) := ⟨by rw [cl_len, HL4.out, List.size_toArray, pieceC_len]; show _ ≤ z.length + 2; omega⟩
      have htn : ((j : Int) * 64).toNat = j * 64 := by omega
      have hcn : ¬ cp = j * 64 := by omega
      clear hs4 hl4
      go_region_law (first
        | (go_loud (refine step_copy_bl rfl (.tmp 40) (.tmp 44) 38 38 rfl 5 Try.underlying38 u8_size wr.heap.size 2 64 64 ⟨B, o + j * 64, none⟩ (256 - j * 64) (cp - j * 64) rfl rfl _ _ HBL1.out.dr (cl ((b.drop (j * 64)).take 64)) HMN.out (SB.src HS4.out) HFT.out (cl_oneCell _) ?_); intro w3 HC3 HF3))
      have h3 : BL w3 wr.heap.size (pieceC (i, j * 64, (b.drop (j * 64)).take 64)).toArray 109 := by
        have := HC3.out
        rw [cl_len, HL4.out] at this
        have e : ((pieceC (i, j * 64, z)).toArray.toList.take 2 ++ (cl ((b.drop (j * 64)).take 64) ++ (pieceC (i, j * 64, z)).toArray.toList.drop (2 + 64))) = pieceC (i, j * 64, (b.drop (j * 64)).take 64) := by
          have hd : (pieceC (i, j * 64, z)).toArray.toList.drop (2 + 64) = [] := List.drop_eq_nil_of_le (by show (pieceC (i, j * 64, z)).length ≤ _; rw [pieceC_len]; show z.length + 2 ≤ _; omega)
          rw [hd]
          simp [pieceC]
        rwa [e] at this
      obtain ⟨p, hpe⟩ : ∃ x, (i, j * 64, (b.drop (j * 64)).take 64) = x := ⟨_, rfl⟩
      have hpl : p.2.2.length = 64 := by rw [← hpe]; exact HL4.out
      rw [hpe] at h3
      have hfw : Fr (· = wr.heap.size) wr w3 := ((Fr.refl _ wr).below HAL.out).drew.trans HF3.out
      have hd3 : Dk w3 g N S n nw safe (q) P' fu lf2 false := HD.out.fr hfw (fun k hk e => by have := HD.out.lt k hk; omega)
      have HPE := Aside0.mk hpe
      have HD3 := Aside0.mk hd3
      have H3 := Aside0.mk h3
      have HFW := Aside0.mk hfw
      have g2 := hd3.d.all.2.2.1
      have gf := hd3.d.all.2.2.2.2.2.2 2
      clear hpe h3 hfw hd3
      have hpz : wr.heap.size ≠ g := by have := HD.out.lt g (Or.inl rfl); omega
      have HRG := Aside0.mk (show (World.drew w3).rangeAt wr.heap.size 0 (pieceC p) from BL.rng H3.out.dr)
      have hisz : (Try.prog.info? 109).map (·.size) = some (pieceC p).length := by rw [pieceC_len, hpl]; kernel_rfl
      have HSZ := Aside0.mk hisz
      clear hisz
      obtain ⟨i9, hi9, hm9⟩ := Option.map_eq_some_iff.1 HI.out
      simp only [Prod.mk.injEq] at hm9
      have HI9 := Aside0.mk hi9
      have HM := Aside0.mk hm9
      have HOA := Aside0.mk ((show (World.drew w3).ownsRow 0 109 66 P' q.length (q.flatMap pieceC) from ownsRow_block HD3.out.ow (fun _ _ => rfl)).alloc (.cells (pieceC p).toArray 109))
      have HNW3 := Aside0.mk (BL.new (World.drew w3) (pieceC p).toArray 109)
      have HMX : Aside0 (q.length + 1 ≤ maxLen) := ⟨by have := HQL.out; simp [maxLen]; omega⟩
      have HBY : Aside0 ((q.length + 1) * 80 ≤ 140737488355328) := ⟨by have := HQL.out; omega⟩
      have HPP : Aside0 (p.2.2.length = 64 ∧ p.1 < n ∧ p.2.1 + 64 ≤ 256) := ⟨by rw [← HPE.out]; exact ⟨HL4.out, hi, by show j * 64 + 64 ≤ 256; omega⟩⟩
      clear hi9 hm9
      have g2a : (w3.alloc (.cells (pieceC p).toArray 109)).cell? ⟨g, 2, none⟩ = some P' := BL.cell (BL.keep HD3.out.d (al _)) 2
      go_upto_region 11 with fail
      refine wp_region_any (by kernel_rfl) ?_
      change wpAny _ _ _ _ _ _ _ (World.drew _)
      refine wpAny_take (i := 0) (v := (.pointer (some ⟨g, 0, none⟩))) rfl (by kernel_rfl) (by kernel_rfl) (by kernel_rfl) (fun _ _ _ h => h) (Or.inl ⟨by rfl, fun w => by go_simp⟩) ?_
      simp only [Act.put, List.setIfInBounds_toArray, List.set_cons_zero, List.set_cons_succ]
      refine wpAny_take (i := 1) (v := (.pointer (some ⟨g, 0, none⟩))) rfl (by kernel_rfl) (by kernel_rfl) (by kernel_rfl) (fun _ _ _ h => h) (Or.inl ⟨by rfl, fun w => by go_simp⟩) ?_
      simp only [Act.put, List.setIfInBounds_toArray, List.set_cons_zero, List.set_cons_succ]
      refine wpAny_take (i := 2) (v := (.pointer (some ⟨g, 0, none⟩))) rfl (by kernel_rfl) (by kernel_rfl) (by kernel_rfl) (fun _ _ _ h => h) (Or.inl ⟨by rfl, fun w => by go_simp⟩) ?_
      simp only [Act.put, List.setIfInBounds_toArray, List.set_cons_zero, List.set_cons_succ]
      refine wpAny_take (i := 3) (v := (.pointer (some ⟨g, 2, none⟩))) rfl (by kernel_rfl) (by kernel_rfl) (by kernel_rfl) (fun _ _ _ h => h) (Or.inl ⟨by rfl, fun w => by go_simp⟩) ?_
      simp only [Act.put, List.setIfInBounds_toArray, List.set_cons_zero, List.set_cons_succ]
      refine wpAny_ready (rs := [4, 5]) (by kernel_rfl) (by simp) (AllReady.cons rfl (fun K hK => ?_) (AllReady.cons rfl (fun K hK => ?_) AllReady.nil))
      all_goals simp only [List.getElem_toArray, List.getElem_cons_succ, List.getElem_cons_zero]
      rotate_left
      · rw [if_pos (by rfl)]
        refine wp_load_mid 109 (.tmp 8) rfl wr.heap.size 0 rfl (pieceC p) _ HRG.out Try.underlying109 rfl HSZ.out ?_
        refine hK _ _ ?_
        clear hK K
        simp only [Act.put, List.setIfInBounds_toArray, List.set_cons_zero, List.set_cons_succ]
        refine wpAny_ready (rs := [4, 6]) (by kernel_rfl) (by simp) (AllReady.cons rfl (fun K hK => ?_) (AllReady.cons rfl (fun K hK => ?_) AllReady.nil))
        all_goals simp only [List.getElem_toArray, List.getElem_cons_succ, List.getElem_cons_zero]
        · go_simp
          refine hK _ _ ?_
          clear hK K
          refine wpAny_ready (rs := [6]) (by kernel_rfl) (by simp) (AllReady.cons rfl (fun K hK => ?_) AllReady.nil)
          simp only [List.getElem_toArray, List.getElem_cons_succ, List.getElem_cons_zero]
          rw [if_pos (by rfl)]
          refine wp_one_piece (.tmp 51) rfl (pieceC p) (by rw [pieceC_len, hpl]) rfl ?_
          refine hK _ _ ?_
          clear hK K
          simp only [Act.put, List.setIfInBounds_toArray, List.set_cons_zero, List.set_cons_succ]
          refine wpAny_ready (rs := [7]) (by kernel_rfl) (by simp) (AllReady.cons rfl (fun K hK => ?_) AllReady.nil)
          simp only [List.getElem_toArray, List.getElem_cons_succ, List.getElem_cons_zero]
          rw [if_pos (by rfl)]
          refine wp_append_lies _ (.tmp 50) (.tmp 52) 92 rfl 0 109 i9 _ 66 80 Try.underlying92 HI9.out HM.out.1 HM.out.2.1 HM.out.2.2 (by kernel_rfl) (by decide) P' q.length _ rfl HOA.out ⟨w3.heap.size, 0, none⟩ 1 1 (pieceC p) rfl (by rw [pieceC_len, hpl]) HNW3.out.src0 (pieceC_one p) (by decide) HMX.out HBY.out (Nat.zero_le _) _ rfl ?_
          intro g9 cap9 w9 ho9 hg9 hgg hgl
          refine hK _ _ ?_
          clear hK K
          simp only [Act.put, List.setIfInBounds_toArray, List.set_cons_zero, List.set_cons_succ]
          obtain ⟨hx2, hx3⟩ := HD3.out.grown_cell _ hg9
          obtain ⟨hdk9, hfr9, hown9⟩ := HD3.out.append _ hg9 g9 cap9 p HPP.out ho9 hgg
          have HDK9 := Aside0.mk hdk9
          have HFR9 := Aside0.mk hfr9
          have HOW9 := Aside0.mk hown9
          clear ho9 hg9 hgg hdk9 hfr9 hown9
          refine wpAny_take (i := 8) (v := (.pointer (some ⟨g, 0, none⟩))) rfl (by kernel_rfl) (by kernel_rfl) (by kernel_rfl) (fun _ _ _ h => h) (Or.inl ⟨by rfl, fun w => by go_simp⟩) ?_
          simp only [Act.put, List.setIfInBounds_toArray, List.set_cons_zero, List.set_cons_succ]
          refine wpAny_take (i := 9) (v := (.pointer (some ⟨g, 2, none⟩))) rfl (by kernel_rfl) (by kernel_rfl) (by kernel_rfl) (fun _ _ _ h => h) (Or.inl ⟨by rfl, fun w => by go_simp⟩) ?_
          simp only [Act.put, List.setIfInBounds_toArray, List.set_cons_zero, List.set_cons_succ]
          refine wpAny_ready (rs := [10]) (by kernel_rfl) (by simp) (AllReady.cons rfl (fun K hK => ?_) AllReady.nil)
          simp only [List.getElem_toArray, List.getElem_cons_succ, List.getElem_cons_zero]
          go_simp
          refine hK _ _ ?_
          clear hK K
          refine wpAny_done (by kernel_rfl) ?_ _
          clear hx2 hx3
          go_wp2_with fail
          go_roundg (4 - (j + 1))
          case measure => have := HJ.out; omega
          case rel =>
            refine ⟨j + 1, .slice (some ⟨g9, 0, none⟩) (q.length + 1) cap9, rfl, ⟨by omega⟩, ⟨?_⟩, ⟨?_⟩, ⟨?_⟩⟩
            · rw [pcs_succ, ← List.append_assoc, HPE.out, HQ.out]; exact HDK9.out
            · exact (HF.out.trans_dk HFW.out HFR9.out HD.out HPB.out)
            · exact own_step HPB.out HOW9.out HF.out HFW.out
        · rw [if_pos (by rfl)]
          refine wp_one_piece (.tmp 51) rfl (pieceC p) (by rw [pieceC_len, hpl]) rfl ?_
          refine hK _ _ ?_
          clear hK K
          simp only [Act.put, List.setIfInBounds_toArray, List.set_cons_zero, List.set_cons_succ]
          refine wpAny_ready (rs := [4]) (by kernel_rfl) (by simp) (AllReady.cons rfl (fun K hK => ?_) AllReady.nil)
          simp only [List.getElem_toArray, List.getElem_cons_succ, List.getElem_cons_zero]
          go_simp
          refine hK _ _ ?_
          clear hK K
          refine wpAny_ready (rs := [7]) (by kernel_rfl) (by simp) (AllReady.cons rfl (fun K hK => ?_) AllReady.nil)
          simp only [List.getElem_toArray, List.getElem_cons_succ, List.getElem_cons_zero]
          rw [if_pos (by rfl)]
          refine wp_append_lies _ (.tmp 50) (.tmp 52) 92 rfl 0 109 i9 _ 66 80 Try.underlying92 HI9.out HM.out.1 HM.out.2.1 HM.out.2.2 (by kernel_rfl) (by decide) P' q.length _ rfl HOA.out ⟨w3.heap.size, 0, none⟩ 1 1 (pieceC p) rfl (by rw [pieceC_len, hpl]) HNW3.out.src0 (pieceC_one p) (by decide) HMX.out HBY.out (Nat.zero_le _) _ rfl ?_
          intro g9 cap9 w9 ho9 hg9 hgg hgl
          refine hK _ _ ?_
          clear hK K
          simp only [Act.put, List.setIfInBounds_toArray, List.set_cons_zero, List.set_cons_succ]
          obtain ⟨hx2, hx3⟩ := HD3.out.grown_cell _ hg9
          obtain ⟨hdk9, hfr9, hown9⟩ := HD3.out.append _ hg9 g9 cap9 p HPP.out ho9 hgg
          have HDK9 := Aside0.mk hdk9
          have HFR9 := Aside0.mk hfr9
          have HOW9 := Aside0.mk hown9
          clear ho9 hg9 hgg hdk9 hfr9 hown9
          refine wpAny_take (i := 8) (v := (.pointer (some ⟨g, 0, none⟩))) rfl (by kernel_rfl) (by kernel_rfl) (by kernel_rfl) (fun _ _ _ h => h) (Or.inl ⟨by rfl, fun w => by go_simp⟩) ?_
          simp only [Act.put, List.setIfInBounds_toArray, List.set_cons_zero, List.set_cons_succ]
          refine wpAny_take (i := 9) (v := (.pointer (some ⟨g, 2, none⟩))) rfl (by kernel_rfl) (by kernel_rfl) (by kernel_rfl) (fun _ _ _ h => h) (Or.inl ⟨by rfl, fun w => by go_simp⟩) ?_
          simp only [Act.put, List.setIfInBounds_toArray, List.set_cons_zero, List.set_cons_succ]
          refine wpAny_ready (rs := [10]) (by kernel_rfl) (by simp) (AllReady.cons rfl (fun K hK => ?_) AllReady.nil)
          simp only [List.getElem_toArray, List.getElem_cons_succ, List.getElem_cons_zero]
          go_simp
          refine hK _ _ ?_
          clear hK K
          refine wpAny_done (by kernel_rfl) ?_ _
          clear hx2 hx3
          go_wp2_with fail
          go_roundg (4 - (j + 1))
          case measure => have := HJ.out; omega
          case rel =>
            refine ⟨j + 1, .slice (some ⟨g9, 0, none⟩) (q.length + 1) cap9, rfl, ⟨by omega⟩, ⟨?_⟩, ⟨?_⟩, ⟨?_⟩⟩
            · rw [pcs_succ, ← List.append_assoc, HPE.out, HQ.out]; exact HDK9.out
            · exact (HF.out.trans_dk HFW.out HFR9.out HD.out HPB.out)
            · exact own_step HPB.out HOW9.out HF.out HFW.out
      · go_simp
        refine hK _ _ ?_
        clear hK K
        refine wpAny_ready (rs := [5]) (by kernel_rfl) (by simp) (AllReady.cons rfl (fun K hK => ?_) AllReady.nil)
        simp only [List.getElem_toArray, List.getElem_cons_succ, List.getElem_cons_zero]
        rw [if_pos (by rfl)]
        refine wp_load_mid 109 (.tmp 8) rfl wr.heap.size 0 rfl (pieceC p) _ HRG.out Try.underlying109 rfl HSZ.out ?_
        refine hK _ _ ?_
        clear hK K
        simp only [Act.put, List.setIfInBounds_toArray, List.set_cons_zero, List.set_cons_succ]
        refine wpAny_ready (rs := [6]) (by kernel_rfl) (by simp) (AllReady.cons rfl (fun K hK => ?_) AllReady.nil)
        simp only [List.getElem_toArray, List.getElem_cons_succ, List.getElem_cons_zero]
        rw [if_pos (by rfl)]
        refine wp_one_piece (.tmp 51) rfl (pieceC p) (by rw [pieceC_len, hpl]) rfl ?_
        refine hK _ _ ?_
        clear hK K
        simp only [Act.put, List.setIfInBounds_toArray, List.set_cons_zero, List.set_cons_succ]
        refine wpAny_ready (rs := [7]) (by kernel_rfl) (by simp) (AllReady.cons rfl (fun K hK => ?_) AllReady.nil)
        simp only [List.getElem_toArray, List.getElem_cons_succ, List.getElem_cons_zero]
        rw [if_pos (by rfl)]
        refine wp_append_lies _ (.tmp 50) (.tmp 52) 92 rfl 0 109 i9 _ 66 80 Try.underlying92 HI9.out HM.out.1 HM.out.2.1 HM.out.2.2 (by kernel_rfl) (by decide) P' q.length _ rfl HOA.out ⟨w3.heap.size, 0, none⟩ 1 1 (pieceC p) rfl (by rw [pieceC_len, hpl]) HNW3.out.src0 (pieceC_one p) (by decide) HMX.out HBY.out (Nat.zero_le _) _ rfl ?_
        intro g9 cap9 w9 ho9 hg9 hgg hgl
        refine hK _ _ ?_
        clear hK K
        simp only [Act.put, List.setIfInBounds_toArray, List.set_cons_zero, List.set_cons_succ]
        obtain ⟨hx2, hx3⟩ := HD3.out.grown_cell _ hg9
        obtain ⟨hdk9, hfr9, hown9⟩ := HD3.out.append _ hg9 g9 cap9 p HPP.out ho9 hgg
        have HDK9 := Aside0.mk hdk9
        have HFR9 := Aside0.mk hfr9
        have HOW9 := Aside0.mk hown9
        clear ho9 hg9 hgg hdk9 hfr9 hown9
        refine wpAny_take (i := 8) (v := (.pointer (some ⟨g, 0, none⟩))) rfl (by kernel_rfl) (by kernel_rfl) (by kernel_rfl) (fun _ _ _ h => h) (Or.inl ⟨by rfl, fun w => by go_simp⟩) ?_
        simp only [Act.put, List.setIfInBounds_toArray, List.set_cons_zero, List.set_cons_succ]
        refine wpAny_take (i := 9) (v := (.pointer (some ⟨g, 2, none⟩))) rfl (by kernel_rfl) (by kernel_rfl) (by kernel_rfl) (fun _ _ _ h => h) (Or.inl ⟨by rfl, fun w => by go_simp⟩) ?_
        simp only [Act.put, List.setIfInBounds_toArray, List.set_cons_zero, List.set_cons_succ]
        refine wpAny_ready (rs := [10]) (by kernel_rfl) (by simp) (AllReady.cons rfl (fun K hK => ?_) AllReady.nil)
        simp only [List.getElem_toArray, List.getElem_cons_succ, List.getElem_cons_zero]
        go_simp
        refine hK _ _ ?_
        clear hK K
        refine wpAny_done (by kernel_rfl) ?_ _
        clear hx2 hx3
        go_wp2_with fail
        go_roundg (4 - (j + 1))
        case measure => have := HJ.out; omega
        case rel =>
          refine ⟨j + 1, .slice (some ⟨g9, 0, none⟩) (q.length + 1) cap9, rfl, ⟨by omega⟩, ⟨?_⟩, ⟨?_⟩, ⟨?_⟩⟩
          · rw [pcs_succ, ← List.append_assoc, HPE.out, HQ.out]; exact HDK9.out
          · exact (HF.out.trans_dk HFW.out HFR9.out HD.out HPB.out)
          · exact own_step HPB.out HOW9.out HF.out HFW.out
    · have k2 : ¬ (j : Int) < 4 := by omega
      have e1 : j = 4 := by have := HJ.out; omega
      have HE := Aside0.mk e1
      clear e1
      go_wp2
      exact bodyPost_ret (v := .int .i64 0) (by simp [results, Try.results12, go_sem]) rfl ⟨rfl, P', by rw [HNW.out, HLF.out]; exact HE.out ▸ HD.out, HF.out, HPB.out⟩
/-- A piece, laid over the blocks. -/
def layP (s : List UInt8) (p : Nat × Nat × List UInt8) : List UInt8 := lay s (p.1 * 256 + p.2.1) p.2.2
def safeL (s : List UInt8) (ps : List (Nat × Nat × List UInt8)) : List UInt8 := ps.foldl layP s
def backP (s now : List UInt8) (p : Nat × Nat × List UInt8) : List UInt8 := lay now (p.1 * 256) (nthB s p.1)
def nowL (s now : List UInt8) (ps : List (Nat × Nat × List UInt8)) : List UInt8 := ps.foldl (backP s) now
theorem safeL_len (ps : List (Nat × Nat × List UInt8)) (n : Nat) : ∀ (s : List UInt8), s.length = n * 256 → (∀ p ∈ ps, p.2.2.length = 64 ∧ p.1 < n ∧ p.2.1 + 64 ≤ 256) → (safeL s ps).length = n * 256 := by
  induction ps with
  | nil => intro s h _; exact h
  | cons p t ih =>
    intro s h hp
    obtain ⟨h1, h2, h3⟩ := hp p (List.mem_cons_self ..)
    have : (p.1 + 1) * 256 ≤ n * 256 := Nat.mul_le_mul_right _ h2
    exact ih _ ((lay_len _ _ _ (by omega)).trans h) fun q hq => hp q (List.mem_cons_of_mem _ hq)
theorem nowL_len (s : List UInt8) (n : Nat) (hs : s.length = n * 256) (ps : List (Nat × Nat × List UInt8)) : ∀ (now : List UInt8), now.length = n * 256 → (∀ p ∈ ps, p.2.2.length = 64 ∧ p.1 < n ∧ p.2.1 + 64 ≤ 256) → (nowL s now ps).length = n * 256 := by
  induction ps with
  | nil => intro now h _; exact h
  | cons p t ih =>
    intro now h hp
    obtain ⟨h1, h2, h3⟩ := hp p (List.mem_cons_self ..)
    have : (p.1 + 1) * 256 ≤ n * 256 := Nat.mul_le_mul_right _ h2
    exact ih _ ((lay_len _ _ _ (by rw [nthB_len hs h2]; omega)).trans h) fun q hq => hp q (List.mem_cons_of_mem _ hq)
theorem flat_at (ps : List (Nat × Nat × List UInt8)) (hp : ∀ p ∈ ps, p.2.2.length = 64) : ∀ (j : Nat) (hj : j < ps.length), ((ps.flatMap pieceC).drop (j * 66)).take 66 = pieceC ps[j] := by
  induction ps with
  | nil => intro j hj; cases hj
  | cons p t ih =>
    intro j hj
    have h66 : (pieceC p).length = 66 := by rw [pieceC_len, hp p (List.mem_cons_self ..)]
    rw [List.flatMap_cons]
    cases j with
    | zero =>
      rw [Nat.zero_mul, List.drop_zero, List.take_append_of_le_length (by omega), List.take_of_length_le (by omega)]; rfl
    | succ j =>
      have h0 : (pieceC p).drop 66 = [] := List.drop_eq_nil_of_le (by omega)
      rw [Nat.succ_mul, Nat.add_comm, ← List.drop_drop, List.drop_append_of_le_length (by omega), h0, List.nil_append]
      exact ih (fun q hq => hp q (List.mem_cons_of_mem _ hq)) j (by simpa using hj)
/-- Where a piece lies. -/
theorem Dk.piece {w : World} {g N S n : Nat} {now safe : List UInt8} {ps : List (Nat × Nat × List UInt8)} {P : Value} {fu : Bool} {lf : Int} {of : Bool} (h : Dk w g N S n now safe ps P fu lf of) (hne : 0 < ps.length) :
    ∃ k cap, P = .slice (some ⟨k, 0, none⟩) ps.length cap ∧ ps.length ≤ cap ∧ k < w.heap.size ∧ k ≠ g ∧ k ≠ N ∧ k ≠ S ∧ ∀ (w' : World), w'.heap[k]? = w.heap[k]? → ∀ (j : Nat) (hj : j < ps.length), w'.rangeAt k (j * 66) (pieceC ps[j]) := by
  rcases h.ow.2 with ⟨_, h0⟩ | ⟨k, cap, cur, rfl, _, hk, hn, hm, hsz, hx⟩
  · omega
  · obtain ⟨a1, a2, a3⟩ := h.pf k rfl
    refine ⟨k, cap, rfl, hn, (h.ow.lt k rfl).2, a1, a2, a3, fun w' hw j hj i v hv => ?_⟩
    have hb : BL w' k cur 109 := hw.trans hk
    rw [BL.cell hb]
    have hf := flat_at ps (fun p hp => (h.lp p hp).1) j hj
    rw [← hf, List.getElem?_take] at hv
    split at hv
    · rename_i hi
      rw [List.getElem?_drop, ← hx, List.getElem?_take] at hv
      split at hv
      · simpa using hv
      · cases hv
    · cases hv
theorem Dk.nilP {w : World} {g N S n : Nat} {now safe : List UInt8} {P : Value} {fu : Bool} {lf : Int} {of : Bool} (h : Dk w g N S n now safe [] P fu lf of) : ∃ A c, P = .slice A 0 c := by
  rcases h.ow.2 with ⟨rfl, _⟩ | ⟨k, cap, cur, rfl, _⟩
  · exact ⟨_, _, rfl⟩
  · exact ⟨_, _, rfl⟩
theorem Dk.lenP {w : World} {g N S n : Nat} {now safe : List UInt8} {ps : List (Nat × Nat × List UInt8)} {P : Value} {fu : Bool} {lf : Int} {of : Bool} (h : Dk w g N S n now safe ps P fu lf of) : ∃ A c, P = .slice A ps.length c := by
  rcases h.ow.2 with ⟨rfl, h0⟩ | ⟨k, cap, cur, rfl, _⟩
  · exact ⟨_, _, by rw [h0]⟩
  · exact ⟨_, _, rfl⟩
theorem lay_cons (l : List UInt8) (o : Nat) (c : UInt8) (r : List UInt8) (h : o < l.length) : lay (l.set o c) (o + 1) r = lay l o (c :: r) := by
  unfold lay
  rw [List.take_add_one, List.take_set_of_le (Nat.le_refl o), List.getElem?_set_self h, List.drop_set_of_lt (by omega), List.length_cons]
  simp only [Option.toList_some, List.append_assoc, List.cons_append, List.nil_append]
  rw [show o + (r.length + 1) = o + 1 + r.length by omega]
theorem BC.setCells {N : Nat} {e : TypeId} (k : List UInt8) : ∀ (w : World) (o : Nat) (l : List UInt8), BC w N l e → o + k.length ≤ l.length → BC (w.setCells N o (cl k)) N (lay l o k) e ∧ Fr (· = N) w (w.setCells N o (cl k)) := by
  induction k with
  | nil =>
    intro w o l h ho
    have : lay l o [] = l := by unfold lay; simp
    rw [this]
    exact ⟨h, Fr.refl _ _⟩
  | cons c r ih =>
    intro w o l h ho
    rw [List.length_cons] at ho
    obtain ⟨h1, h2⟩ := ih (w.setCell ⟨N, o, none⟩ (.int .u8 (c.toNat : Int))) (o + 1) (l.set o c) (BC.set h o c) (by rw [List.length_set]; omega)
    rw [lay_cons _ _ _ _ (by omega)] at h1
    exact ⟨h1, ((Fr.refl (· = N) w).own o _).trans h2⟩
theorem BC.there {w : World} {N : Nat} {l : List UInt8} {e : TypeId} (h : BC w N l e) (o m : Nat) (hm : o + m ≤ l.length) : w.there N o m := fun j hj => by
  rw [BL.free h]
  refine ⟨?_, rfl⟩
  rw [BC.at h (o + j) (by omega)]; rfl
def SettleP (w : World) (g N S n : Nat) (now safe : List UInt8) (ps : List (Nat × Nat × List UInt8)) (P : Value) (fu : Bool) (lf : Int) (of : Bool) (en : Ending) (w' : World) : Prop :=
  en = .returned (.tuple #[]) ∧ Dk w' g N S n (nowL (safeL safe ps) now ps) (safeL safe ps) [] (.slice none 0 0) fu lf of ∧ Fr (DkF g N S P) w w'
set_option maxHeartbeats 4000000 in
set_option maxRecDepth 100000 in
theorem disk_settle.all (g N S n : Nat) (now safe : List UInt8) (ps : List (Nat × Nat × List UInt8)) (P : Value) (fu : Bool) (lf : Int) (of : Bool) (w : World) (h : Dk w g N S n now safe ps P fu lf of) (hn : n ≤ 4096) (hps : ps.length ≤ 100000) :
    Calls Try.prog 74 #[.pointer (some ⟨g, 0, none⟩), .func (.func 100) #[] #[]] w (SettleP w g N S n now safe ps P fu lf of) := by
  obtain ⟨A, c, hP⟩ := h.lenP
  have H := Aside0.mk h
  have HPS := Aside0.mk hps
  have g2 := h.d.all.2.2.1
  rw [hP] at g2
  have HP := Aside0.mk hP
  clear h hps hP
  go_enter Try.func74, Try.ntmps74
  go_wp2_with fail
  go_loopg [13] ps.length (fun kq v13 wr => ∃ (j : Nat) (s : List UInt8), v13 = .int .i64 j ∧ Aside0 (kq + j = ps.length) ∧ Aside0 (s = safeL safe (ps.take j)) ∧ Aside0 (Dk wr g N S n now s ps P fu lf of) ∧ Aside0 (Fr (· = S) w wr))
  case atStart => exact ⟨0, safe, rfl, ⟨by omega⟩, ⟨rfl⟩, H, ⟨Fr.refl _ _⟩⟩
  case round =>
    obtain ⟨j, s, rfl, HJ, HS, HD, HF⟩ := hrel
    have hpb := HPS.out
    by_cases hj : j < ps.length
    · have k2 : (j : Int) < (ps.length : Int) := by omega
      obtain ⟨k, cap, hPk, hcap, hkl, hkg, hkN, hkS, hpc⟩ := HD.out.piece (by omega)
      rw [HP.out] at hPk
      injection hPk with hA _ hc
      subst hA
      subst hc
      have hrg := hpc wr rfl j hj
      obtain ⟨hl64, hbn, hat⟩ := HD.out.lp ps[j] (List.getElem_mem hj)
      obtain ⟨p, hp⟩ : ∃ x, ps[j] = x := ⟨_, rfl⟩
      rw [hp] at hrg hl64 hbn hat
      have HRG := Aside0.mk hrg
      have HPE := Aside0.mk hp
      have hsz : (Try.prog.info? 109).map (·.size) = some (pieceC p).length := by rw [pieceC_len, hl64]; kernel_rfl
      have HSZ := Aside0.mk hsz
      clear hrg hp hsz hpc
      have hnw := piece_new wr p hl64
      have h66 : (pieceC p).length = 66 := by rw [pieceC_len, hl64]
      have hbl1 := BL.new wr (pieceC p).toArray 109
      have hal : Below wr.heap.size wr (wr.alloc (.cells (pieceC p).toArray 109)) := al _
      obtain ⟨W, hW⟩ : ∃ W : World, wr.alloc (.cells (pieceC p).toArray 109) = W := ⟨_, rfl⟩
      rw [hW] at hbl1 hal hnw
      have HBL1 := Aside0.mk hbl1
      have HAL := Aside0.mk hal
      have c0 := hbl1.cell 0
      have c1 := hbl1.cell 1
      simp only [pieceC, List.getElem?_toArray, List.getElem?_cons_zero, List.getElem?_cons_succ] at c0 c1
      have hDW : Dk W g N S n now s ps P fu lf of := HD.out.fr (Fr.of_below (G := fun _ => False) hal) (fun _ _ h => h)
      have HDW := Aside0.mk hDW
      have g1 := hDW.d.all.2.1
      have hpn : wr.heap.size ≠ g := by have := HD.out.lt g (Or.inl rfl); omega
      clear hbl1 hal hDW
      go_wp2_with (first | (refine wpList_load_mid rfl 109 (.tmp 16) rfl k (j * 66) rfl (pieceC p) _ HRG.out Try.underlying109 rfl HSZ.out ?_) | (go_at_call 100; refine (disk_Flush1.calls _ _).mono ?_; rintro e1 w2 ⟨rfl, rfl⟩))
      have kb1 : (p.1 : Int) < (n : Int) := by omega
      have kb2 : (p.2.1 : Int) ≤ 256 := by omega
      have kb3 : ¬ 256 = p.2.1 := by omega
      go_still_tail 12, (by kernel_rfl)
      change wpList _ _ _ _ _ W.drew
      go_wp2_with fail
      have hsl := HD.out.ls
      have hsb : (p.1 + 1) * 256 ≤ n * 256 := Nat.mul_le_mul_right _ hbn
      have hsr : ∀ i v, (cl p.2.2)[i]? = some v → (World.drew W).cell? ((⟨wr.heap.size, 2, none⟩ : Addr).add i) = some v := fun i v hv => by
        rw [Addr.add_mid]
        refine (BL.cell HBL1.out.dr (2 + i)).trans ?_
        rw [Nat.add_comm, List.getElem?_toArray]
        exact hv
      obtain ⟨w3, hrun, hb3, hf3⟩ := run_copy_bl (P := Try.prog) 38 38 3 5 Try.underlying38 u8_size S (p.1 * 256 + p.2.1) (256 - p.2.1) (256 - p.2.1) ⟨wr.heap.size, 2, none⟩ 64 64 _ _ HDW.out.bs.dr (cl p.2.2) (by rw [cl_len, hl64]; exact (Nat.min_eq_left (by omega)).symm) hsr (by rw [cl_len, hl64, List.size_toArray, cl_len]; omega) (cl_oneCell p.2.2)
      rw [hrun]
      rw [lay_cells] at hb3
      have hfw : Fr (· = S) w w3 := ((HF.out.below HAL.out).drew).trans hf3
      have hd3 : Dk w3 g N S n now (layP s p) ps P fu lf of :=
        { HDW.out with
          d := BL.fr HDW.out.d.dr hf3 (fun e => HDW.out.sg e.symm)
          bn := BL.fr HDW.out.bn.dr hf3 HDW.out.ns
          bs := hb3
          ls := (lay_len _ _ _ (by omega)).trans HD.out.ls
          ow := ownsRow_block HDW.out.ow fun q hq => hf3.block q (HDW.out.ow.lt q hq).2 (HDW.out.pf q hq).2.2 }
      have HD3 := Aside0.mk hd3
      have HF3 := Aside0.mk hfw
      clear hrun hb3 hf3 hd3 hfw hsr hsb
      go_wp2_with fail
      go_roundg (ps.length - (j + 1))
      case measure => have := HJ.out; omega
      case rel =>
        refine ⟨j + 1, layP s p, rfl, ⟨by omega⟩, ⟨?_⟩, HD3, HF3⟩
        rw [List.take_add_one, List.getElem?_eq_getElem hj, HPE.out, safeL, List.foldl_append]
        show layP s p = layP (safeL safe (ps.take j)) p
        rw [HS.out]
    · have k2 : ¬ (j : Int) < (ps.length : Int) := by omega
      have g2 := HD.out.d.all.2.2.1
      rw [HP.out] at g2
      go_wp2_with fail
      have e1 : j = ps.length := by have := HJ.out; omega
      have hss : s = safeL safe ps := by rw [HS.out, e1, List.take_length]
      have HSS := Aside0.mk hss
      clear e1 hss
      go_loopg [40] ps.length (fun kq v40 wr => ∃ (i : Nat) (nw : List UInt8), v40 = .int .i64 i ∧ Aside0 (kq + i = ps.length) ∧ Aside0 (nw = nowL s now (ps.take i)) ∧ Aside0 (Dk wr g N S n nw s ps P fu lf of) ∧ Aside0 (Fr (DkF g N S P) w wr))
      case atStart => exact ⟨0, now, rfl, ⟨by omega⟩, ⟨rfl⟩, HD, ⟨HF.out.weak (fun q hq => Or.inl (Or.inr (Or.inr (Or.inl hq))))⟩⟩
      case round =>
        obtain ⟨i, nw, rfl, HJ2, HNW, HD2, HF2⟩ := hrel
        by_cases hi : i < ps.length
        · have k3 : (i : Int) < (ps.length : Int) := by omega
          obtain ⟨k, cap, hPk, hcap, hkl, hkg, hkN, hkS, hpc⟩ := HD2.out.piece (by omega)
          rw [HP.out] at hPk
          injection hPk with hA _ hc
          subst hA
          subst hc
          have hrg := hpc wr rfl i hi
          obtain ⟨hl64, hbn, hat⟩ := HD2.out.lp ps[i] (List.getElem_mem hi)
          obtain ⟨p, hp⟩ : ∃ x, ps[i] = x := ⟨_, rfl⟩
          rw [hp] at hrg hl64 hbn hat
          have HRG := Aside0.mk hrg
          have HPE := Aside0.mk hp
          have hsz : (Try.prog.info? 109).map (·.size) = some (pieceC p).length := by rw [pieceC_len, hl64]; kernel_rfl
          have HSZ := Aside0.mk hsz
          clear hrg hp hsz hpc
          have hnw := piece_new wr p hl64
          have h66 : (pieceC p).length = 66 := by rw [pieceC_len, hl64]
          have hbl1 := BL.new wr (pieceC p).toArray 109
          have hal : Below wr.heap.size wr (wr.alloc (.cells (pieceC p).toArray 109)) := al _
          obtain ⟨W, hW⟩ : ∃ W : World, wr.alloc (.cells (pieceC p).toArray 109) = W := ⟨_, rfl⟩
          rw [hW] at hbl1 hal hnw
          have HBL1 := Aside0.mk hbl1
          have HAL := Aside0.mk hal
          have c0 := hbl1.cell 0
          simp only [pieceC, List.getElem?_toArray, List.getElem?_cons_zero] at c0
          have hDW : Dk W g N S n nw s ps P fu lf of := HD2.out.fr (Fr.of_below (G := fun _ => False) hal) (fun _ _ h => h)
          have HDW := Aside0.mk hDW
          have g0 := hDW.d.all.1
          have g1 := hDW.d.all.2.1
          clear hbl1 hal hDW
          have kb1 : (p.1 : Int) < (n : Int) := by omega
          have hn256 : (cl (nthB s p.1)).length = 256 := (cl_len _).trans (nthB_len HD2.out.ls hbn)
          have HR2 := Aside0.mk (show (World.drew W).rangeAt S (p.1 * 256) (cl (nthB s p.1)) from range_nth HDW.out.bs.dr p.1)
          have HI2 : Aside0 ((Try.prog.info? 106).map (·.size) = some (cl (nthB s p.1)).length) := ⟨by rw [hn256]; kernel_rfl⟩
          have HN2 := Aside0.mk hn256
          clear hn256
          go_wp2_with (first | (refine wpList_load_mid rfl 109 (.tmp 42) rfl k (i * 66) rfl (pieceC p) _ HRG.out Try.underlying109 rfl HSZ.out ?_))
          refine wp_region_still_tail 15 (by kernel_rfl) (by kernel_rfl) ?_
          simp only [List.take_succ_cons, List.take_zero, List.drop_succ_cons, List.drop_zero]
          change wpStill _ _ (World.drew W) _ _ _
          iterate 13 still_step
          refine wpStill_load_mid rfl 106 (.tmp 56) rfl S (p.1 * 256) rfl (cl (nthB s p.1)) _ HR2.out Try.underlying106 rfl HI2.out ?_
          still_step
          refine wpStill_nil ?_
          change wpList _ _ _ _ _ (World.drew W)
          have hsb : (p.1 + 1) * 256 ≤ n * 256 := Nat.mul_le_mul_right _ hbn
          refine wpList_store_mid rfl 106 (.tmp 58) (.tmp 57) rfl N (p.1 * 256) (cl (nthB s p.1)).toArray rfl rfl (by rw [List.size_toArray, HN2.out]; exact BC.there (BL.dr HDW.out.bn) _ _ (by have := HD2.out.ln; omega)) (by rw [List.size_toArray]; exact HI2.out) (all_oneCell_toArray (cl_oneCell _)) ?_
          obtain ⟨hb3, hf3⟩ := BC.setCells (nthB s p.1) (World.drew W) (p.1 * 256) nw HDW.out.bn.dr (by rw [nthB_len HD2.out.ls hbn]; have := HD2.out.ln; omega)
          obtain ⟨w3, hw3⟩ : ∃ x, (World.drew W).setCells N (p.1 * 256) (cl (nthB s p.1)).toArray.toList = x := ⟨_, rfl⟩
          rw [hw3]
          rw [show (World.drew W).setCells N (p.1 * 256) (cl (nthB s p.1)) = w3 from hw3] at hb3 hf3
          have hfw : Fr (DkF g N S P) w w3 := ((HF2.out.below HAL.out).drew).trans (hf3.weak (fun q hq => Or.inl (Or.inr (Or.inl hq))))
          have hd3 : Dk w3 g N S n (backP s nw p) s ps P fu lf of :=
            { HDW.out with
              d := BL.fr HDW.out.d.dr hf3 (fun e => HDW.out.ng e.symm)
              bn := hb3
              bs := BL.fr HDW.out.bs.dr hf3 (fun e => HDW.out.ns e.symm)
              ln := (lay_len _ _ _ (by rw [nthB_len HD2.out.ls hbn]; have := HD2.out.ln; omega)).trans HD2.out.ln
              ow := ownsRow_block HDW.out.ow fun q hq => hf3.block q (HDW.out.ow.lt q hq).2 (HDW.out.pf q hq).2.1 }
          have HD3 := Aside0.mk hd3
          have HF3 := Aside0.mk hfw
          clear hw3 hb3 hf3 hd3 hfw hsb
          go_wp2_with fail
          go_roundg (ps.length - (i + 1))
          case measure => have := HJ2.out; omega
          case rel =>
            refine ⟨i + 1, backP s nw p, rfl, ⟨by omega⟩, ⟨?_⟩, HD3, HF3⟩
            rw [List.take_add_one, List.getElem?_eq_getElem hi, HPE.out, nowL, List.foldl_append]
            show backP s nw p = backP s (nowL s now (ps.take i)) p
            rw [HNW.out]
        · have k3 : ¬ (i : Int) < (ps.length : Int) := by omega
          have g2' := HD2.out.d.all.2.2.1
          have gf := HD2.out.d.all.2.2.2.2.2.2 2
          have e2 : i = ps.length := by have := HJ2.out; omega
          have hd4 : Dk (wr.setCell ⟨g, 2, none⟩ (.slice none 0 0)) g N S n nw s [] (.slice none 0 0) fu lf of :=
            { HD2.out with
              d := BL.set HD2.out.d 2 _
              bn := BL.far HD2.out.bn _ _ HD2.out.ng
              bs := BL.far HD2.out.bs _ _ HD2.out.sg
              lp := by intro p hp; cases hp
              ow := World.ownsRow_nil _ _ _ _
              pf := by intro k hk; cases hk }
          have hn4 : nw = nowL s now ps := by rw [HNW.out, e2, List.take_length]
          have HN4 := Aside0.mk hn4
          have HD4 := Aside0.mk hd4
          have HF4 := Aside0.mk (HF2.out.setCell (p := ⟨g, 2, none⟩) (Or.inl (Or.inl rfl)) (.slice none 0 0))
          clear e2 hd4 hn4
          go_wp2_with fail
          exact bodyPost_ret (v := .tuple #[]) (by simp [results, Try.results74, go_sem]) rfl ⟨rfl, by have := HD4.out; rw [HN4.out, HSS.out] at this; exact this, HF4.out⟩
theorem Dk.power {w w' : World} {g N S n : Nat} {now safe : List UInt8} {ps : List (Nat × Nat × List UInt8)} {P : Value} {fu fu' : Bool} {lf lf' : Int} {of of' : Bool} (h : Dk w g N S n now safe ps P fu lf of) (hf : Fr (· = g) w w') (hd : DB w' g (.slice (some ⟨N, 0, none⟩) n n) (.slice (some ⟨S, 0, none⟩) n n) P fu' lf' of') : Dk w' g N S n now safe ps P fu' lf' of' :=
  { h with
    d := hd
    bn := BL.fr h.bn hf h.ng
    bs := BL.fr h.bs hf h.sg
    ow := ownsRow_block h.ow fun k hk => hf.block k (h.ow.lt k hk).2 (h.pf k hk).1 }
def FlushP (w : World) (g N S n : Nat) (now safe : List UInt8) (ps : List (Nat × Nat × List UInt8)) (P : Value) (fu : Bool) (lf : Int) (en : Ending) (w' : World) : Prop :=
  en = .returned (.int .i64 0) ∧ Dk w' g N S n (nowL (safeL safe ps) now ps) (safeL safe ps) [] (.slice none 0 0) fu (wrap64 (lf - 1)) false ∧ Fr (DkF g N S P) w w'
set_option maxHeartbeats 1000000 in
theorem disk_Flush.calls (g N S n : Nat) (now safe : List UInt8) (ps : List (Nat × Nat × List UInt8)) (P : Value) (fu : Bool) (lf : Int) (w : World) (h : Dk w g N S n now safe ps P fu lf false) (hp : (fu && lf == 0) = false) (hn : n ≤ 4096) (hps : ps.length ≤ 100000) :
    Calls Try.prog 89 #[.pointer (some ⟨g, 0, none⟩)] w (FlushP w g N S n now safe ps P fu lf) := by
  have H := Aside0.mk h
  have HP := Aside0.mk hp
  have HPS := Aside0.mk hps
  clear h hp hps
  go_enter Try.func89, Try.ntmps89
  go_wp2_with fail
  refine (disk_power.on g _ _ P fu lf _ H.out.d HP.out).mono ?_
  rintro e w1 ⟨rfl, hd1, hf1⟩
  have hk := H.out.power hf1 hd1
  have HK := Aside0.mk hk
  have F1 := Aside0.mk hf1
  clear hk hd1 hf1
  go_wp2_with fail
  refine (disk_settle.all g N S n now safe ps P fu _ false _ HK.out hn HPS.out).mono ?_
  rintro e w2 ⟨rfl, hd2, hf2⟩
  have HD2 := Aside0.mk hd2
  have F2 := Aside0.mk ((F1.out.weak (fun k hk => Or.inl (Or.inl hk))).trans hf2)
  clear hd2 hf2
  go_wp2
  go_ret
  exact ⟨rfl, HD2.out, F2.out⟩
def swapL (l : List Int) (i j : Nat) : List Int := (l.set i (l.getD j 0)).set j (l.getD i 0)
theorem swapL_len (l : List Int) (i j : Nat) : (swapL l i j).length = l.length := by unfold swapL; rw [List.length_set, List.length_set]
/-- heap.down, over a list. -/
def downL : Nat → List Int → Nat → Nat → List Int
  | 0, l, _, _ => l
  | f + 1, l, i, n => if n ≤ 2 * i + 1 then l else
      let j := if 2 * i + 2 < n ∧ l.getD (2 * i + 2) 0 < l.getD (2 * i + 1) 0 then 2 * i + 2 else 2 * i + 1
      if l.getD j 0 < l.getD i 0 then downL f (swapL l i j) j n else l
theorem downL_len (f : Nat) : ∀ (l : List Int) (i n : Nat), (downL f l i n).length = l.length := by
  induction f with
  | zero => intro l i n; rfl
  | succ f ih =>
    intro l i n
    unfold downL
    split
    · rfl
    · dsimp only
      split <;> split <;> first | rw [ih, swapL_len] | rfl
def HL (C : Array Value) (l : List Int) : Prop := ∀ j, j < l.length → C[j]? = some (.int .i64 (l.getD j 0))
theorem HL.swap {C : Array Value} {l : List Int} (h : HL C l) (i j : Nat) (hi : i < l.length) (hj : j < l.length) : HL ((C.setIfInBounds i (.int .i64 (l.getD j 0))).setIfInBounds j (.int .i64 (l.getD i 0))) (swapL l i j) := by
  intro k hk
  rw [swapL_len] at hk
  have hC : ∀ k, k < l.length → k < C.size := fun k hk => (Array.getElem?_eq_some_iff.1 (h k hk)).1
  rw [Array.getElem?_setIfInBounds]
  unfold swapL
  rw [List.getD_eq_getElem?_getD (i := k), List.getElem?_set]
  by_cases e : j = k
  · subst e
    rw [if_pos rfl, if_pos (by rw [Array.size_setIfInBounds]; exact hC _ hj), if_pos rfl, if_pos (by rw [List.length_set]; exact hj)]; rfl
  · rw [if_neg e, if_neg e, Array.getElem?_setIfInBounds, List.getElem?_set]
    by_cases e2 : i = k
    · subst e2
      rw [if_pos rfl, if_pos (hC _ hi), if_pos rfl, if_pos hi]; rfl
    · rw [if_neg e2, if_neg e2, h k hk, List.getD_eq_getElem?_getD]
theorem HL.il {w : World} {B : Nat} {C : Array Value} {l : List Int} (hb : BL w B C 3) (h : HL C l) : IL w B 0 l := by
  intro k v hk
  rw [Nat.zero_add, BL.cell hb]
  rw [List.getElem?_map] at hk
  obtain ⟨x, hx, rfl⟩ := Option.map_eq_some_iff.1 hk
  rw [h k (List.getElem?_eq_some_iff.1 hx).1, List.getD_eq_getElem?_getD, hx]; rfl
/-- The heap where it lies: the free numbers' slice in a cell, its row elsewhere. -/
structure HP (w : World) (s k B n c : Nat) (C : Array Value) (l : List Int) : Prop where
  sc : w.cell? ⟨s, k, none⟩ = some (.slice (some ⟨B, 0, none⟩) n c)
  sf : w.frozen? ⟨s, k, none⟩ = false
  b : BL w B C 3
  h : HL C l
  ln : l.length = n
  ne : B ≠ s
  sl : s < w.heap.size
theorem HP.fr {w w' : World} {s k B n c : Nat} {C C' : Array Value} {l l' : List Int} (h : HP w s k B n c C l) (hf : Fr (· = B) w w') (hb : BL w' B C' 3) (hl : HL C' l') (hn : l'.length = l.length) : HP w' s k B n c C' l' :=
  ⟨(World.cell?_of_block (a := ⟨s, k, none⟩) (hf.block s h.sl (fun e => h.ne e.symm))).trans h.sc, (World.frozen?_of_block (a := ⟨s, k, none⟩) (hf.block s h.sl (fun e => h.ne e.symm))).trans h.sf, hb, hl, hn.trans h.ln, h.ne, Nat.lt_of_lt_of_le h.sl hf.size⟩
def hv (s k : Nat) : Value := .iface 147 (.pointer (some ⟨s, k, none⟩))
theorem load_least (W : World) (a : Addr) (v : Value) (h : W.cell? a = some v) : Sem.run Try.prog (loadVar 141 a) W = .ok v W := by
  go_simp
theorem meth_Len (W : World) (a : Addr) (v : Value) (h : W.cell? a = some v) : Sem.run Try.prog (method 280 147 (.pointer (some a)) "Len") W = .ok (121, v) W := by
  have h1 : Sem.run Try.prog (method 280 147 (.pointer (some a)) "Len") W = Sem.run Try.prog (loadVar 141 a >>= fun v => pure (121, v)) W := by kernel_rfl
  rw [h1, Sem.run_bind, load_least W a v h]; rfl
theorem meth_Less (W : World) (a : Addr) (v : Value) (h : W.cell? a = some v) : Sem.run Try.prog (method 280 147 (.pointer (some a)) "Less") W = .ok (122, v) W := by
  have h1 : Sem.run Try.prog (method 280 147 (.pointer (some a)) "Less") W = Sem.run Try.prog (loadVar 141 a >>= fun v => pure (122, v)) W := by kernel_rfl
  rw [h1, Sem.run_bind, load_least W a v h]; rfl
theorem meth_Swap (W : World) (a : Addr) (v : Value) (h : W.cell? a = some v) : Sem.run Try.prog (method 280 147 (.pointer (some a)) "Swap") W = .ok (123, v) W := by
  have h1 : Sem.run Try.prog (method 280 147 (.pointer (some a)) "Swap") W = Sem.run Try.prog (loadVar 141 a >>= fun v => pure (123, v)) W := by kernel_rfl
  rw [h1, Sem.run_bind, load_least W a v h]; rfl
theorem meth_Pop (W : World) (a : Addr) : Sem.run Try.prog (method 280 147 (.pointer (some a)) "Pop") W = .ok (124, .pointer (some a)) W := by kernel_rfl
def DownP (w : World) (B : Nat) (C : Array Value) (l : List Int) (n : Nat) (en : Ending) (w' : World) : Prop :=
  ∃ (b : Bool) (C' : Array Value), en = .returned (.bool b) ∧ BL w' B C' 3 ∧ HL C' (downL n l 0 n) ∧ C'.size = C.size ∧ Fr (· = B) w w'
theorem downL_stop (f : Nat) (l : List Int) (i n : Nat) (h : n ≤ 2 * i + 1) : downL f l i n = l := by
  cases f with
  | zero => rfl
  | succ f => unfold downL; rw [if_pos h]
theorem downL_step (f : Nat) (l : List Int) (i n j : Nat) (h : ¬ n ≤ 2 * i + 1) (hj : (if 2 * i + 2 < n ∧ l.getD (2 * i + 2) 0 < l.getD (2 * i + 1) 0 then 2 * i + 2 else 2 * i + 1) = j) : downL (f + 1) l i n = if l.getD j 0 < l.getD i 0 then downL f (swapL l i j) j n else l := by
  rw [downL, if_neg h]
  dsimp only
  rw [hj]
theorem HP.dn {w : World} {s k B n c : Nat} {C : Array Value} {l : List Int} (h : HP w s k B n c C l) (m : Nat) : HP (w.drewN m) s k B n c C l := ⟨h.sc, h.sf, h.b, h.h, h.ln, h.ne, h.sl⟩
theorem HP.less {w : World} {s k B n c : Nat} {C : Array Value} {l : List Int} (h : HP w s k B n c C l) (i j : Nat) (hi : i < n) (hj : j < n) (hn : n ≤ 100000) (a b : Int) (ha : a = (i : Int)) (hb : b = (j : Int)) :
    Calls Try.prog 122 #[.slice (some ⟨B, 0, none⟩) n c, .int .i64 a, .int .i64 b] w fun e w' => e = .returned (.bool (decide (l.getD i 0 < l.getD j 0))) ∧ ∃ n, w' = w.drewN n := by
  subst ha hb
  have hln := h.ln
  subst hln
  have := least_Less.calls B 0 c l i j hi hj hn w (HL.il h.b h.h)
  rw [List.getD_eq_getElem?_getD, List.getD_eq_getElem?_getD, List.getElem?_eq_getElem hi, List.getElem?_eq_getElem hj]
  exact this
theorem HP.swap {w : World} {s k B n c : Nat} {C : Array Value} {l : List Int} (h : HP w s k B n c C l) (i j : Nat) (hi : i < n) (hj : j < n) (hij : i ≠ j) (hn : n ≤ 100000) (b : Int) (hb : b = (j : Int)) :
    Calls Try.prog 123 #[.slice (some ⟨B, 0, none⟩) n c, .int .i64 i, .int .i64 b] w fun e w' => e = .returned (.tuple #[]) ∧ ∃ C', HP w' s k B n c C' (swapL l i j) ∧ C'.size = C.size ∧ Fr (· = B) w w' := by
  subst hb
  refine (least_Swap.calls B n c i j C 3 (l.getD i 0) (l.getD j 0) hi hj hn hij w h.b (h.h i (by rw [h.ln]; exact hi)) (h.h j (by rw [h.ln]; exact hj))).mono ?_
  rintro e w' ⟨rfl, hb, hf⟩
  exact ⟨rfl, _, h.fr hf hb (h.h.swap i j (by rw [h.ln]; exact hi) (by rw [h.ln]; exact hj)) (swapL_len _ _ _), by rw [Array.size_setIfInBounds, Array.size_setIfInBounds], hf⟩
set_option maxHeartbeats 4000000 in
set_option maxRecDepth 100000 in
theorem heap_down.calls (s k B m c n : Nat) (C : Array Value) (l : List Int) (w : World) (h : HP w s k B m c C l) (hnm : n ≤ m) (hm : m ≤ 100000) :
    Calls Try.prog 103 #[hv s k, .int .i64 0, .int .i64 n] w (DownP w B C l n) := by
  have H := Aside0.mk h
  clear h
  unfold hv
  go_enter Try.func103, Try.ntmps103
  go_wp2_with fail
  go_loopg [7] n (fun kq v7 wr => ∃ (i : Nat) (l' : List Int) (C' : Array Value), v7 = .int .i64 i ∧ Aside0 (i ≤ n) ∧ Aside0 (n ≤ i + kq) ∧ Aside0 (downL kq l' i n = downL n l 0 n) ∧ Aside0 (HP wr s k B m c C' l') ∧ Aside0 (C'.size = C.size) ∧ Aside0 (Fr (· = B) w wr))
  case atStart => exact ⟨0, l, C, rfl, ⟨by omega⟩, ⟨by omega⟩, ⟨rfl⟩, H, ⟨rfl⟩, ⟨Fr.refl _ _⟩⟩
  case round =>
    obtain ⟨i, l', C', rfl, HI, HK, HR, HH, HC, HF⟩ := hrel
    have hin := HI.out
    have sc := HH.out.sc
    by_cases h1 : n ≤ 2 * i + 1
    · have k1 : (n : Int) ≤ 2 * (i : Int) + 1 := by omega
      have k2 : (2 * (i : Int) + 1 ≥ (n : Int)) := by omega
      have hfin : l' = downL n l 0 n := by have := HR.out; rw [downL_stop _ _ _ _ h1] at this; exact this
      have HFIN := Aside0.mk hfin
      clear hfin
      go_wp2_with fail
      go_ret
      exact ⟨_, C', rfl, HH.out.b, HFIN.out ▸ HH.out.h, HC.out, HF.out⟩
    · have k1 : ¬ (n : Int) ≤ 2 * (i : Int) + 1 := by omega
      obtain ⟨f, hf⟩ : ∃ f, gk = f + 1 := ⟨gk - 1, by have := HK.out; omega⟩
      have hRf := HR.out
      rw [hf] at hRf
      have HG := Aside0.mk hf
      clear hf
      by_cases h2 : 2 * i + 2 < n
      · have k2 : 2 * (i : Int) + 1 + 1 < (n : Int) := by omega
        have hm2 := meth_Less wr ⟨s, k, none⟩ _ sc
        go_wp2_with fail
        refine (HH.out.less (2 * i + 2) (2 * i + 1) (by omega) (by omega) hm (2 * (i : Int) + 1 + 1) (2 * (i : Int) + 1) (by omega) (by omega)).mono ?_
        rintro e w2 ⟨rfl, n2, hw2⟩
        have HX : Aside0 (HP w2 s k B m c C' l') := ⟨hw2 ▸ HH.out.dn n2⟩
        have FX : Aside0 (Fr (· = B) w w2) := ⟨hw2 ▸ HF.out.drewN n2⟩
        clear hw2
        have hm3 := meth_Less _ ⟨s, k, none⟩ _ HX.out.sc
        by_cases h3 : l'.getD (2 * i + 2) 0 < l'.getD (2 * i + 1) 0
        · rw [decide_eq_true h3]
          have hj : (if 2 * i + 2 < n ∧ l'.getD (2 * i + 2) 0 < l'.getD (2 * i + 1) 0 then 2 * i + 2 else 2 * i + 1) = 2 * i + 2 := if_pos ⟨h2, h3⟩
          have hst := downL_step f l' i n (2 * i + 2) h1 hj
          rw [hRf] at hst
          have HST := Aside0.mk hst
          clear hst hj
          go_wp2_with fail
          refine ((HX.out).less (2 * i + 2) i (by omega) (by omega) hm (2 * (i : Int) + 1 + 1) (i : Int) (by omega) rfl).mono ?_
          rintro e w3 ⟨rfl, n3, hw3⟩
          have HX3 : Aside0 (HP w3 s k B m c C' l') := ⟨hw3 ▸ HX.out.dn n3⟩
          have FX3 : Aside0 (Fr (· = B) w w3) := ⟨hw3 ▸ FX.out.drewN n3⟩
          clear hw3
          by_cases h4 : l'.getD (2 * i + 2) 0 < l'.getD i 0
          · have d4 : decide (l'.getD (2 * i + 2) 0 < l'.getD i 0) = true := decide_eq_true h4
            rw [d4]
            have hfin : downL f (swapL l' i (2 * i + 2)) (2 * i + 2) n = downL n l 0 n := by have := HST.out; rw [if_pos h4] at this; exact this.symm
            have HFIN := Aside0.mk hfin
            clear d4 h4 hfin
            have hm4 := meth_Swap _ ⟨s, k, none⟩ _ HX3.out.sc
            go_wp2_with fail
            refine ((HX3.out).swap i (2 * i + 2) (by omega) (by omega) (by omega) hm (2 * (i : Int) + 1 + 1) (by omega)).mono ?_
            rintro e w4 ⟨rfl, C4, hh4, hc4, hf4⟩
            have HH4 := Aside0.mk hh4
            have HC4 := Aside0.mk (hc4.trans HC.out)
            have HF4 := Aside0.mk (FX3.out.trans hf4)
            clear hh4 hc4 hf4
            go_wp2_with fail
            go_roundg f
            case measure => have := HG.out; omega
            case rel => exact ⟨2 * i + 2, swapL l' i (2 * i + 2), C4, congrArg (Value.int .i64) (by omega), ⟨by omega⟩, ⟨by have := HK.out; have := HG.out; omega⟩, HFIN, HH4, HC4, HF4⟩
          · have d4 : decide (l'.getD (2 * i + 2) 0 < l'.getD i 0) = false := decide_eq_false h4
            rw [d4]
            have hfin : l' = downL n l 0 n := by have := HST.out; rw [if_neg h4] at this; exact this.symm
            have HFIN := Aside0.mk hfin
            clear d4 h4 hfin
            go_wp2_with fail
            go_ret
            exact ⟨_, C', rfl, HX3.out.b, HFIN.out ▸ HX3.out.h, HC.out, FX3.out⟩
        · rw [decide_eq_false h3]
          have hj : (if 2 * i + 2 < n ∧ l'.getD (2 * i + 2) 0 < l'.getD (2 * i + 1) 0 then 2 * i + 2 else 2 * i + 1) = 2 * i + 1 := if_neg (fun h => h3 h.2)
          have hst := downL_step f l' i n (2 * i + 1) h1 hj
          rw [hRf] at hst
          have HST := Aside0.mk hst
          clear hst hj
          go_wp2_with fail
          refine ((HX.out).less (2 * i + 1) i (by omega) (by omega) hm (2 * (i : Int) + 1) (i : Int) (by omega) rfl).mono ?_
          rintro e w3 ⟨rfl, n3, hw3⟩
          have HX3 : Aside0 (HP w3 s k B m c C' l') := ⟨hw3 ▸ HX.out.dn n3⟩
          have FX3 : Aside0 (Fr (· = B) w w3) := ⟨hw3 ▸ FX.out.drewN n3⟩
          clear hw3
          by_cases h4 : l'.getD (2 * i + 1) 0 < l'.getD i 0
          · have d4 : decide (l'.getD (2 * i + 1) 0 < l'.getD i 0) = true := decide_eq_true h4
            rw [d4]
            have hfin : downL f (swapL l' i (2 * i + 1)) (2 * i + 1) n = downL n l 0 n := by have := HST.out; rw [if_pos h4] at this; exact this.symm
            have HFIN := Aside0.mk hfin
            clear d4 h4 hfin
            have hm4 := meth_Swap _ ⟨s, k, none⟩ _ HX3.out.sc
            go_wp2_with fail
            refine ((HX3.out).swap i (2 * i + 1) (by omega) (by omega) (by omega) hm (2 * (i : Int) + 1) (by omega)).mono ?_
            rintro e w4 ⟨rfl, C4, hh4, hc4, hf4⟩
            have HH4 := Aside0.mk hh4
            have HC4 := Aside0.mk (hc4.trans HC.out)
            have HF4 := Aside0.mk (FX3.out.trans hf4)
            clear hh4 hc4 hf4
            go_wp2_with fail
            go_roundg f
            case measure => have := HG.out; omega
            case rel => exact ⟨2 * i + 1, swapL l' i (2 * i + 1), C4, congrArg (Value.int .i64) (by omega), ⟨by omega⟩, ⟨by have := HK.out; have := HG.out; omega⟩, HFIN, HH4, HC4, HF4⟩
          · have d4 : decide (l'.getD (2 * i + 1) 0 < l'.getD i 0) = false := decide_eq_false h4
            rw [d4]
            have hfin : l' = downL n l 0 n := by have := HST.out; rw [if_neg h4] at this; exact this.symm
            have HFIN := Aside0.mk hfin
            clear d4 h4 hfin
            go_wp2_with fail
            go_ret
            exact ⟨_, C', rfl, HX3.out.b, HFIN.out ▸ HX3.out.h, HC.out, FX3.out⟩
      · have k2 : ¬ 2 * (i : Int) + 1 + 1 < (n : Int) := by omega
        have HX := HH
        have FX := HF
        have hm3 := meth_Less _ ⟨s, k, none⟩ _ HX.out.sc
        have hj : (if 2 * i + 2 < n ∧ l'.getD (2 * i + 2) 0 < l'.getD (2 * i + 1) 0 then 2 * i + 2 else 2 * i + 1) = 2 * i + 1 := if_neg (fun h => h2 h.1)
        have hst := downL_step f l' i n (2 * i + 1) h1 hj
        rw [hRf] at hst
        have HST := Aside0.mk hst
        clear hst hj
        go_wp2_with fail
        refine ((HX.out).less (2 * i + 1) i (by omega) (by omega) hm (2 * (i : Int) + 1) (i : Int) (by omega) rfl).mono ?_
        rintro e w3 ⟨rfl, n3, hw3⟩
        have HX3 : Aside0 (HP w3 s k B m c C' l') := ⟨hw3 ▸ HX.out.dn n3⟩
        have FX3 : Aside0 (Fr (· = B) w w3) := ⟨hw3 ▸ FX.out.drewN n3⟩
        clear hw3
        by_cases h4 : l'.getD (2 * i + 1) 0 < l'.getD i 0
        · have d4 : decide (l'.getD (2 * i + 1) 0 < l'.getD i 0) = true := decide_eq_true h4
          rw [d4]
          have hfin : downL f (swapL l' i (2 * i + 1)) (2 * i + 1) n = downL n l 0 n := by have := HST.out; rw [if_pos h4] at this; exact this.symm
          have HFIN := Aside0.mk hfin
          clear d4 h4 hfin
          have hm4 := meth_Swap _ ⟨s, k, none⟩ _ HX3.out.sc
          go_wp2_with fail
          refine ((HX3.out).swap i (2 * i + 1) (by omega) (by omega) (by omega) hm (2 * (i : Int) + 1) (by omega)).mono ?_
          rintro e w4 ⟨rfl, C4, hh4, hc4, hf4⟩
          have HH4 := Aside0.mk hh4
          have HC4 := Aside0.mk (hc4.trans HC.out)
          have HF4 := Aside0.mk (FX3.out.trans hf4)
          clear hh4 hc4 hf4
          go_wp2_with fail
          go_roundg f
          case measure => have := HG.out; omega
          case rel => exact ⟨2 * i + 1, swapL l' i (2 * i + 1), C4, congrArg (Value.int .i64) (by omega), ⟨by omega⟩, ⟨by have := HK.out; have := HG.out; omega⟩, HFIN, HH4, HC4, HF4⟩
        · have d4 : decide (l'.getD (2 * i + 1) 0 < l'.getD i 0) = false := decide_eq_false h4
          rw [d4]
          have hfin : l' = downL n l 0 n := by have := HST.out; rw [if_neg h4] at this; exact this.symm
          have HFIN := Aside0.mk hfin
          clear d4 h4 hfin
          go_wp2_with fail
          go_ret
          exact ⟨_, C', rfl, HX3.out.b, HFIN.out ▸ HX3.out.h, HC.out, FX3.out⟩
theorem HP.swap0 {w : World} {s k B n c : Nat} {C : Array Value} {l : List Int} (h : HP w s k B n c C l) (hi : 0 < n) (hn : n ≤ 100000) :
    Calls Try.prog 123 #[.slice (some ⟨B, 0, none⟩) n c, .int .i64 0, .int .i64 0] w fun e w' => e = .returned (.tuple #[]) ∧ ∃ C', HP w' s k B n c C' (swapL l 0 0) ∧ C'.size = C.size ∧ Fr (· = B) w w' := by
  have hl : 0 < l.length := by rw [h.ln]; exact hi
  refine (least_Swap.same B n c 0 C 3 (l.getD 0 0) hi hn w h.b (h.h 0 hl)).mono ?_
  rintro e w' ⟨rfl, hb, hf⟩
  exact ⟨rfl, _, h.fr hf hb (h.h.swap 0 0 hl hl) (swapL_len _ _ _), by rw [Array.size_setIfInBounds, Array.size_setIfInBounds], hf⟩
def popL (l : List Int) (n : Nat) : List Int := downL n (swapL l 0 n) 0 n
def PopP (w : World) (s k B n c : Nat) (C : Array Value) (l : List Int) (en : Ending) (w' : World) : Prop :=
  ∃ (C' : Array Value) (w3 : World), en = .returned (.iface 3 (.int .i64 ((popL l n).getD n 0))) ∧ w' = w3.setCell ⟨s, k, none⟩ (.slice (some ⟨B, 0, none⟩) n c) ∧ BL w3 B C' 3 ∧ HL C' (popL l n) ∧ C'.size = C.size ∧ Fr (· = B) w w3
set_option maxHeartbeats 4000000 in
set_option maxRecDepth 100000 in
theorem heap_Pop.calls (s k B n c : Nat) (C : Array Value) (l : List Int) (w : World) (h : HP w s k B (n + 1) c C l) (hn : n + 1 ≤ 100000) (hc : n + 1 ≤ c) :
    Calls Try.prog 93 #[hv s k] w (PopP w s k B n c C l) := by
  have H := Aside0.mk h
  have hm1 := meth_Len w ⟨s, k, none⟩ _ h.sc
  have hm2 := meth_Swap w ⟨s, k, none⟩ _ h.sc
  have hsw : ∃ P : Prop, P = (0 = n) := ⟨_, rfl⟩
  clear h hsw
  have hswap : Calls Try.prog 123 #[.slice (some ⟨B, 0, none⟩) (n + 1) c, .int .i64 0, .int .i64 (n : Int)] w fun e w' => e = .returned (.tuple #[]) ∧ ∃ C', HP w' s k B (n + 1) c C' (swapL l 0 n) ∧ C'.size = C.size ∧ Fr (· = B) w w' := by
    by_cases h0 : n = 0
    · subst h0
      exact H.out.swap0 (by omega) hn
    · exact H.out.swap 0 n (by omega) (by omega) (by omega) hn n rfl
  have HSW := Aside0.mk hswap
  clear hswap
  unfold hv
  go_enter Try.func93, Try.ntmps93
  go_wp2_with fail
  refine (least_Len.calls (some ⟨B, 0, none⟩) (n + 1) c _).mono ?_
  rintro e w1 ⟨rfl, rfl⟩
  go_wp2_with fail
  trace_state
  refine (HSW.out).mono ?_
  rintro e w2 ⟨rfl, C2, hh2, hc2, hf2⟩
  have HH2 := Aside0.mk hh2
  have HC2 := Aside0.mk hc2
  have HF2 := Aside0.mk hf2
  clear hh2 hc2 hf2 hm1 hm2
  go_wp2_with fail
  refine ((heap_down.calls s k B (n + 1) c n C2 _ _ HH2.out (by omega) hn)).mono ?_
  rintro e w3 ⟨b, C3, rfl, hb3, hl3, hc3, hf3⟩
  have hh3 : HP w3 s k B (n + 1) c C3 (popL l n) := HH2.out.fr hf3 hb3 hl3 (downL_len _ _ _ _)
  have HH3 := Aside0.mk hh3
  have HC3 := Aside0.mk (hc3.trans HC2.out)
  have HF3 := Aside0.mk (HF2.out.trans hf3)
  have hm4 := meth_Pop w3 ⟨s, k, none⟩
  clear hh3 hb3 hl3 hc3 hf3
  go_wp2_with fail
  refine (least_Pop.calls s k B 0 c n (popL l n) HH3.out.ln (by omega) hc _ HH3.out.sc HH3.out.sf (HL.il HH3.out.b HH3.out.h)).mono ?_
  rintro e w4 ⟨rfl, hw4⟩
  have hx : (popL l n)[n]'(by rw [HH3.out.ln]; omega) = (popL l n).getD n 0 := by rw [List.getD_eq_getElem?_getD, List.getElem?_eq_getElem (by rw [HH3.out.ln]; omega)]; rfl
  rw [hx]
  have HW4 := Aside0.mk hw4
  clear hw4 hx
  go_wp2
  go_ret
  exact ⟨C3, w3, rfl, HW4.out, HH3.out.b, HH3.out.h, HC3.out, HF3.out⟩
theorem getD_mem (l : List Int) (i : Nat) (h : i < l.length) : l.getD i 0 ∈ l := by
  rw [List.getD_eq_getElem?_getD, List.getElem?_eq_getElem h]
  exact List.getElem_mem h
theorem swapL_mem (l : List Int) (i j : Nat) (hi : i < l.length) (hj : j < l.length) (x : Int) (h : x ∈ swapL l i j) : x ∈ l := by
  unfold swapL at h
  rcases List.mem_or_eq_of_mem_set h with h | h
  · rcases List.mem_or_eq_of_mem_set h with h | h
    · exact h
    · rw [h]; exact getD_mem l j hj
  · rw [h]; exact getD_mem l i hi
theorem downL_mem (f : Nat) : ∀ (l : List Int) (i n : Nat), n ≤ l.length → i < l.length → ∀ x, x ∈ downL f l i n → x ∈ l := by
  induction f with
  | zero => intro l i n _ _ x h; exact h
  | succ f ih =>
    intro l i n hn hi x h
    unfold downL at h
    split at h
    · exact h
    · dsimp only at h
      obtain ⟨j, hj⟩ : ∃ j, (if 2 * i + 2 < n ∧ l.getD (2 * i + 2) 0 < l.getD (2 * i + 1) 0 then 2 * i + 2 else 2 * i + 1) = j := ⟨_, rfl⟩
      have hjn : j < n := by
        rw [← hj]
        split
        · rename_i hc; exact hc.1
        · omega
      rw [hj] at h
      split at h
      · exact swapL_mem l i j hi (by omega) x (ih _ _ _ (by rw [swapL_len]; exact hn) (by rw [swapL_len]; omega) x h)
      · exact h
theorem popL_len (l : List Int) (n : Nat) : (popL l n).length = l.length := by unfold popL; rw [downL_len, swapL_len]
theorem popL_mem (l : List Int) (n : Nat) (hn : l.length = n + 1) (x : Int) (h : x ∈ popL l n) : x ∈ l := by
  unfold popL at h
  exact swapL_mem l 0 n (by omega) (by omega) x (downL_mem n _ 0 n (by rw [swapL_len]; omega) (by rw [swapL_len]; omega) x h)
/-- A space, whole. -/
structure Sp (w : World) (s TB n c : Nat) (T : List Bool) (F : Value) (fl : List Int) : Prop where
  d : SPB w s (.slice (some ⟨TB, 0, none⟩) n c) F
  t : BL w TB (bl T) 4
  lt : T.length = n
  nl : n ≤ 4096
  ow : w.ownsRow 0 3 1 F fl.length (fl.map (Value.int .i64))
  rg : ∀ x ∈ fl, ∃ i : Nat, x = (i : Int) ∧ i < n
  fn : fl.length ≤ 4096
  ne : TB ≠ s
  pf : ∀ k, F.ownBlock = some k → k ≠ s ∧ k ≠ TB
def SpF (s TB : Nat) (F : Value) (k : Nat) : Prop := k = s ∨ k = TB ∨ F.ownBlock = some k
theorem Sp.fr {w w' : World} {s TB n c : Nat} {T : List Bool} {F : Value} {fl : List Int} {G : Nat → Prop} (h : Sp w s TB n c T F fl) (hf : Fr G w w') (hg : ∀ k, SpF s TB F k → ¬ G k) : Sp w' s TB n c T F fl :=
  { h with
    d := BL.fr h.d hf (hg s (Or.inl rfl))
    t := BL.fr h.t hf (hg TB (Or.inr (Or.inl rfl)))
    ow := ownsRow_block h.ow fun k hk => hf.block k (h.ow.lt k hk).2 (hg k (Or.inr (Or.inr hk))) }
theorem Sp.lt' {w : World} {s TB n c : Nat} {T : List Bool} {F : Value} {fl : List Int} (h : Sp w s TB n c T F fl) (k : Nat) (hk : SpF s TB F k) : k < w.heap.size := by
  rcases hk with rfl | rfl | hk
  · exact BL.lt h.d
  · exact BL.lt h.t
  · exact (h.ow.lt k hk).2
/-- The free numbers as a heap that lies. -/
theorem Sp.hp {w : World} {s TB n c : Nat} {T : List Bool} {F : Value} {fl : List Int} (h : Sp w s TB n c T F fl) (m : Nat) (hm : fl.length = m + 1) :
    ∃ (B cap : Nat) (C : Array Value), F = .slice (some ⟨B, 0, none⟩) (m + 1) cap ∧ m + 1 ≤ cap ∧ cap ≤ maxLen ∧ C.size = cap ∧ HP w s 1 B (m + 1) cap C fl := by
  rcases h.ow.2 with ⟨_, h0⟩ | ⟨B, cap, cur, rfl, _, hb, hn, hmx, hsz, hx⟩
  · omega
  · rw [hm] at hn hx
    refine ⟨B, cap, cur, by rw [hm], hn, hmx, by omega, ?_⟩
    refine ⟨by rw [← hm]; exact h.d.all.2.1, h.d.all.2.2 1, hb, ?_, hm, (h.pf B rfl).1, BL.lt h.d⟩
    intro j hj
    have : (cur.toList.take ((m + 1) * 1))[j]? = (fl.map (Value.int .i64))[j]? := by rw [hx]
    rw [List.getElem?_take, if_pos (by omega), List.getElem?_map, List.getElem?_eq_getElem hj] at this
    rw [List.getD_eq_getElem?_getD, List.getElem?_eq_getElem hj]
    simpa using this
theorem bl_set (T : List Bool) (i : Nat) (b : Bool) : (bl T).setIfInBounds i (.bool b) = bl (T.set i b) := by
  unfold bl
  rw [List.setIfInBounds_toArray, List.map_set]
theorem HL.take {C : Array Value} {l : List Int} (h : HL C l) (m : Nat) (hm : m ≤ l.length) : C.toList.take (m * 1) = (l.take m).map (Value.int .i64) := by
  rw [Nat.mul_one]
  apply List.ext_getElem?
  intro j
  rw [List.getElem?_take, List.getElem?_map, List.getElem?_take]
  split
  · rename_i hj
    have h1 := h j (by omega)
    rw [List.getD_eq_getElem?_getD, List.getElem?_eq_getElem (by omega)] at h1
    rw [show l[j]? = some (l[j]'(by omega)) from List.getElem?_eq_getElem (by omega)]
    simpa using h1
  · rfl
theorem assert_int (W : World) (x : Int) : Sem.run Try.prog (Instr.typeAssert (.iface 3 (.int .i64 x)) 20 3 false) W = .ok (.int .i64 x) W := by kernel_rfl
def TakeP (w : World) (s TB n c : Nat) (T : List Bool) (F : Value) (fl : List Int) (m : Nat) (en : Ending) (w' : World) : Prop :=
  ∃ (i : Nat) (F' : Value), (popL fl m).getD m 0 = (i : Int) ∧ i < n ∧ en = .returned (.tuple #[.int .i64 (i : Int), .int .i64 0]) ∧ Sp w' s TB n c (T.set i true) F' ((popL fl m).take m) ∧ F'.ownBlock = F.ownBlock ∧ Fr (SpF s TB F) w w'
set_option maxHeartbeats 4000000 in
set_option maxRecDepth 100000 in
theorem space_Take.calls (s TB n c : Nat) (T : List Bool) (F : Value) (fl : List Int) (m : Nat) (w : World) (h : Sp w s TB n c T F fl) (hm : fl.length = m + 1) :
    Calls Try.prog 69 #[.pointer (some ⟨s, 0, none⟩)] w (TakeP w s TB n c T F fl m) := by
  obtain ⟨B, cap, C, rfl, hcap, hmx, hsz, hhp⟩ := h.hp m hm
  have hmn := h.fn
  have hnl := h.nl
  have hBT : B ≠ TB := (h.pf B rfl).2
  have hBs : B ≠ s := (h.pf B rfl).1
  obtain ⟨i, hi, hin⟩ := h.rg _ (popL_mem fl m hm _ (getD_mem _ m (by rw [popL_len]; omega)))
  have H := Aside0.mk h
  have HHP := Aside0.mk hhp
  have HI := Aside0.mk hi
  have HM := Aside0.mk hm
  clear h hhp hi
  have k0 : ¬ ((m : Int) + 1 = 0) := by omega
  have k1 : (i : Int) < (n : Int) := by omega
  go_enter Try.func69, Try.ntmps69
  go_wp2_with fail
  refine (space_Free.calls s _ (some ⟨B, 0, none⟩) (m + 1) cap _ H.out.d).mono ?_
  rintro e w1 ⟨rfl, rfl⟩
  go_wp2_with fail
  refine (heap_Pop.calls s 1 B m cap C fl _ HHP.out (by omega) hcap).mono ?_
  rintro e w2 ⟨C3, w3, rfl, hw2, hb3, hl3, hc3, hf3⟩
  rw [HI.out]
  have hs2 : SPB w2 s (.slice (some ⟨TB, 0, none⟩) n c) (.slice (some ⟨B, 0, none⟩) m cap) := by rw [hw2]; exact BL.set (BL.fr H.out.d hf3 (fun e => hBs e.symm)) 1 _
  have ht2 : BL w2 TB (bl T) 4 := by rw [hw2]; exact (BL.fr H.out.t hf3 (fun e => hBT e.symm)).far _ _ H.out.ne
  have hb2 : BL w2 B C3 3 := by rw [hw2]; exact hb3.far _ _ hBs
  have hf2 : Fr (SpF s TB (.slice (some ⟨B, 0, none⟩) (m + 1) cap)) w w2 := by rw [hw2]; exact (hf3.weak (G1 := SpF s TB (.slice (some ⟨B, 0, none⟩) (m + 1) cap)) (fun q hq => Or.inl (Or.inr (Or.inr (by rw [hq]; rfl))))).setCell (p := ⟨s, 1, none⟩) (Or.inl (Or.inl rfl)) _
  have t0 := hs2.all.1
  have hti : i < T.length := by rw [H.out.lt]; exact hin
  have ti := (BL.cell ht2 i).trans (bl_at T i hti)
  have tf := BL.free ht2 i
  obtain ⟨tv, htv⟩ : ∃ x, T[i] = x := ⟨_, rfl⟩
  rw [htv] at ti
  have hfin : Sp (w2.setCell ⟨TB, i, none⟩ (.bool true)) s TB n c (T.set i true) (.slice (some ⟨B, 0, none⟩) m cap) ((popL fl m).take m) :=
    { d := hs2.far _ _ (fun e => H.out.ne e.symm)
      t := by have := BL.set ht2 i (.bool true); rw [bl_set] at this; exact this
      lt := by rw [List.length_set]; exact H.out.lt
      nl := hnl
      ow := by
        have hlm : ((popL fl m).take m).length = m := by rw [List.length_take, popL_len]; omega
        refine ⟨by rw [List.length_map, Nat.mul_one], Or.inr ⟨B, cap, C3, by rw [hlm], Nat.zero_le _, hb2.far _ _ hBT, by omega, hmx, by omega, ?_⟩⟩
        rw [hlm]
        exact hl3.take m (by rw [popL_len]; omega)
      rg := fun x hx => H.out.rg x (popL_mem fl m HM.out x (List.mem_of_mem_take hx))
      fn := by rw [List.length_take, popL_len]; omega
      ne := H.out.ne
      pf := fun k hk => by have : B = k := Option.some.inj hk; subst this; exact ⟨hBs, hBT⟩ }
  have HFIN := Aside0.mk hfin
  have HFF := Aside0.mk (hf2.setCell (p := ⟨TB, i, none⟩) (Or.inl (Or.inr (Or.inl rfl))) (.bool true))
  clear hfin hs2 ht2 hb2 hf2 hw2 hb3 hl3 hc3 hf3 htv hti
  have hta := assert_int w2 (i : Int)
  go_wp2_with fail
  exact bodyPost_ret (v := .tuple #[.int .i64 (i : Int), .int .i64 0]) (by simp [results, Try.results69, go_sem]) rfl ⟨i, _, HI.out, hin, rfl, HFIN.out, rfl, HFF.out⟩
theorem law3 : Maps.Keyed Try.prog 3 := Maps.int_keyed Try.underlying3
theorem zero3 (w : World) : (zeroValue 3).run Try.prog w = .ok (.int .i64 0) w := by kernel_rfl
/-- A map of numbers, of which only what is in it is of account. -/
def FM (w : World) (M m : Nat) (f : Int → Bool) : Prop := ∃ D : DataW Unit, w.ownsMap Try.prog 3 (plainElem Try.prog 3) M m D ∧ ∀ x : Int, (Lit.int .i64 x).wf = true → Maps.has D (.int .i64 x) = f x
theorem FM.made (w : World) : FM (w.alloc (.map #[] 0)) w.heap.size 0 fun _ => false :=
  ⟨.map [], World.ownsMap_made _ _ _ _, fun _ _ => rfl⟩
theorem FM.lt {w : World} {M m : Nat} {f : Int → Bool} (h : FM w M m f) : M < w.heap.size := by
  obtain ⟨D, h, _⟩ := h; exact h.lt
theorem FM.block {w w' : World} {M m : Nat} {f : Int → Bool} (h : FM w M m f) (hb : w'.heap[M]? = w.heap[M]?) : FM w' M m f := by
  obtain ⟨D, ⟨es, cl, h1, h2⟩, h3⟩ := h
  exact ⟨D, ⟨es, cl, hb.trans h1, h2⟩, h3⟩
theorem FM.fr {w w' : World} {M m : Nat} {f : Int → Bool} {G : Nat → Prop} (h : FM w M m f) (hf : Fr G w w') (hg : ¬ G M) : FM w' M m f := h.block (hf.block M h.lt hg)
/-- A pager's own block. -/
def PB (w : World) (p : Nat) (g r e : Int) (d : Nat) (fi np : Int) (s : Nat) (mv dr : Value) (br : Bool) : Prop :=
  BL w p #[.int .u64 g, .int .i64 r, .int .u64 e, .pointer (some ⟨d, 0, none⟩), .int .i64 fi, .int .i64 np, .pointer (some ⟨s, 0, none⟩), mv, dr, .bool br] 115
section
variable {w : World} {p : Nat} {g r e : Int} {d : Nat} {fi np : Int} {s : Nat} {mv dr : Value} {br : Bool}
theorem PB.all (h : PB w p g r e d fi np s mv dr br) : w.cell? ⟨p, 0, none⟩ = some (.int .u64 g) ∧ w.cell? ⟨p, 1, none⟩ = some (.int .i64 r) ∧ w.cell? ⟨p, 2, none⟩ = some (.int .u64 e) ∧ w.cell? ⟨p, 3, none⟩ = some (.pointer (some ⟨d, 0, none⟩)) ∧ w.cell? ⟨p, 4, none⟩ = some (.int .i64 fi) ∧ w.cell? ⟨p, 5, none⟩ = some (.int .i64 np) ∧ w.cell? ⟨p, 6, none⟩ = some (.pointer (some ⟨s, 0, none⟩)) ∧ w.cell? ⟨p, 7, none⟩ = some mv ∧ w.cell? ⟨p, 8, none⟩ = some dr ∧ w.cell? ⟨p, 9, none⟩ = some (.bool br) :=
  ⟨BL.cell h 0, BL.cell h 1, BL.cell h 2, BL.cell h 3, BL.cell h 4, BL.cell h 5, BL.cell h 6, BL.cell h 7, BL.cell h 8, BL.cell h 9⟩
end
def SetP (w : World) (p : Nat) (g r e : Int) (d : Nat) (fi np : Int) (s : Nat) (br : Bool) (en : Ending) (w' : World) : Prop :=
  en = .returned (.tuple #[]) ∧ ∃ M : Nat, PB w' p g r e d fi np s (.map (some M)) (.slice none 0 0) br ∧ FM w' M 0 (fun _ => false) ∧ w.heap.size ≤ M ∧ Fr (· = p) w w'
set_option maxHeartbeats 1000000 in
theorem pager_settle.calls (w : World) (p : Nat) (g r e : Int) (d : Nat) (fi np : Int) (s : Nat) (mv dr : Value) (br : Bool) (h : PB w p g r e d fi np s mv dr br) :
    Calls Try.prog 56 #[.pointer (some ⟨p, 0, none⟩)] w (SetP w p g r e d fi np s br) := by
  have hmm := @run_makeMap Try.prog
  have hlt := BL.lt h
  have f7 := BL.free h 7
  have f8 := BL.free h 8
  have c7 := h.all.2.2.2.2.2.2.2.1
  have c8 := h.all.2.2.2.2.2.2.2.2.1
  obtain ⟨w8, hw8⟩ : ∃ x, (w.setCell ⟨p, 7, none⟩ (.map (some w.heap.size))).setCell ⟨p, 8, none⟩ (.slice none 0 0) = x := ⟨_, rfl⟩
  have hsz : w8.heap.size = w.heap.size := by rw [← hw8]; simp [World.setCell]
  have hf8 : Fr (· = p) w w8 := hw8 ▸ ((Fr.refl (· = p) w).own 7 _).own 8 _
  have h2 : PB w8 p g r e d fi np s (.map (some w.heap.size)) (.slice none 0 0) br := hw8 ▸ BL.set (BL.set h 7 _) 8 _
  have HM := Aside0.mk (hsz ▸ FM.made w8)
  have H2 := Aside0.mk (show PB (w8.alloc (.map #[] 0)) p g r e d fi np s (.map (some w.heap.size)) (.slice none 0 0) br from BL.keep h2 (al _))
  have HF := Aside0.mk (hf8.alloc (.map #[] 0))
  have HW := Aside0.mk hw8
  clear h h2 hf8 hw8 hsz
  go_enter Try.func56, Try.ntmps56
  go_wp2_with fail
  rw [HW.out]
  exact bodyPost_ret (v := .tuple #[]) (by simp [results, Try.results56, go_sem]) rfl ⟨rfl, w.heap.size, H2.out, HM.out, Nat.le_refl _, HF.out⟩
set_option maxHeartbeats 1000000 in
theorem pager_isFresh.calls (w : World) (p : Nat) (g r e : Int) (d : Nat) (fi np : Int) (s : Nat) (M m : Nat) (f : Int → Bool) (dr : Value) (br : Bool) (h : PB w p g r e d fi np s (.map (some M)) dr br) (hm : FM w M m f) (x : Int) (hx : (Lit.int .i64 x).wf = true) :
    Calls Try.prog 68 #[.pointer (some ⟨p, 0, none⟩), .int .i64 x] w fun en w' => en = .returned (.bool (f x)) ∧ w = w' := by
  obtain ⟨D, hown, hhas⟩ := hm
  have c7 := h.all.2.2.2.2.2.2.2.1
  have hfx := hhas x hx
  have HO := Aside0.mk hown
  have HF := Aside0.mk hfx
  have HX := Aside0.mk hx
  clear h hown hhas hfx hx
  go_enter Try.func68, Try.ntmps68
  go_wp2_with (first | (at_lookup; refine wpList_lookup_own_ok_int _ rfl _ _ 113 rfl 3 3 .i64 law3 Try.underlying113 Try.underlying3 (zero3 _) M m D rfl HO.out _ _ rfl (Maps.keyOf_int_mk Try.underlying3 HX.out) ?_; intro c hat hwc; clear hat hwc; rw [HF.out]))
  go_ret
  exact ⟨rfl, rfl⟩
/-- What a live pager is made of. -/
structure PV where
  p : Nat
  M : Nat
  m : Nat
  f : Int → Bool
  g : Int
  r : Int
  e : Int
  fi : Nat
  dr : Value
  br : Bool
  d : Nat
  N : Nat
  S : Nat
  n : Nat
  now : List UInt8
  safe : List UInt8
  ps : List (Nat × Nat × List UInt8)
  P : Value
  fu : Bool
  lf : Int
  off : Bool
  s : Nat
  TB : Nat
  np : Nat
  c : Nat
  T : List Bool
  F : Value
  fl : List Int
/-- A live pager, whole: its own block, its map, its disk, its space. -/
structure PS (w : World) (v : PV) : Prop where
  pb : PB w v.p v.g v.r v.e v.d v.fi v.np v.s (.map (some v.M)) v.dr v.br
  fm : FM w v.M v.m v.f
  dk : Dk w v.d v.N v.S v.n v.now v.safe v.ps v.P v.fu v.lf v.off
  sp : Sp w v.s v.TB v.np v.c v.T v.F v.fl
  pm : v.p ≠ v.M
  dx : ∀ k, DkF v.d v.N v.S v.P k → k ≠ v.p ∧ k ≠ v.M ∧ ¬ SpF v.s v.TB v.F k
  sx : ∀ k, SpF v.s v.TB v.F k → k ≠ v.p ∧ k ≠ v.M
  nb : v.n ≤ 4096
  rg : v.fi + 2 + v.np ≤ v.n
/-- Its blocks. -/
def PF (v : PV) (k : Nat) : Prop := k = v.p ∨ k = v.M ∨ DkF v.d v.N v.S v.P k ∨ SpF v.s v.TB v.F k
theorem PS.lt {w : World} {v : PV} (h : PS w v) (k : Nat) (hk : PF v k) : k < w.heap.size := by
  rcases hk with rfl | rfl | hk | hk
  · exact BL.lt h.pb
  · exact h.fm.lt
  · exact h.dk.lt k hk
  · exact h.sp.lt' k hk
theorem PS.fr {w w' : World} {v : PV} {G : Nat → Prop} (h : PS w v) (hf : Fr G w w') (hg : ∀ k, PF v k → ¬ G k) : PS w' v :=
  { h with
    pb := BL.fr h.pb hf (hg _ (Or.inl rfl))
    fm := h.fm.fr hf (hg _ (Or.inr (Or.inl rfl)))
    dk := h.dk.fr hf (fun k hk => hg k (Or.inr (Or.inr (Or.inl hk))))
    sp := h.sp.fr hf (fun k hk => hg k (Or.inr (Or.inr (Or.inr hk)))) }
theorem wf64 (x : Int) (h : -9223372036854775808 ≤ x ∧ x ≤ 9223372036854775807) : (Lit.int .i64 x).wf = true := WalkArith.wf_i64 h
theorem FM.put {w w' : World} {M m : Nat} {D : DataW Unit} {f : Int → Bool} {i : Int} (hhas : ∀ x : Int, (Lit.int .i64 x).wf = true → Maps.has D (.int .i64 x) = f x) (hown : w.ownsMap Try.prog 3 (plainElem Try.prog 3) M m D) (hw : w'.ownsMap Try.prog 3 (plainElem Try.prog 3) M (m + 1) (D.put (.int .i64 i) (.lit (.int .i64 i)))) (hi : (Lit.int .i64 i).wf = true) : FM w' M (m + 1) (fun x => x == i || f x) := by
  refine ⟨_, hw, fun x hx => ?_⟩
  by_cases e : x = i
  · subst e
    rw [Maps.has_put_same hown.isMap (by exact trivial)]
    simp
  · rw [Maps.has_put_other (by intro h; injection h; contradiction), hhas x hx]
    simp [e]
theorem Fr.of_grown {w w' : World} {row : Option Nat} (h : w.grownBy w' row) : Fr (fun q => row = some q) w w' :=
  ⟨h.os, h.tape, h.output, h.size, fun k hk hn => h.block k hk (fun e => hn e.symm)⟩
def PTakeP (w : World) (v : PV) (m : Nat) (en : Ending) (w' : World) : Prop :=
  ∃ (i : Nat) (F' : Value), (popL v.fl m).getD m 0 = (i : Int) ∧ i < v.np ∧ en = .returned (.tuple #[.int .i64 (i : Int), .int .i64 0]) ∧ PS w' { v with m := v.m + 1, f := fun x => x == (i : Int) || v.f x, T := v.T.set i true, F := F', fl := (popL v.fl m).take m } ∧ F'.ownBlock = v.F.ownBlock ∧ Fr (PF v) w w'
set_option maxHeartbeats 4000000 in
set_option maxRecDepth 100000 in
theorem pager_Take.calls (w : World) (v : PV) (h : PS w v) (m : Nat) (hm : v.fl.length = m + 1) (hmm : v.m ≤ 100000) :
    Calls Try.prog 28 #[.pointer (some ⟨v.p, 0, none⟩)] w (PTakeP w v m) := by
  have c6 := h.pb.all.2.2.2.2.2.2.1
  have H := Aside0.mk h
  have HMM := Aside0.mk hmm
  clear h hmm
  go_enter Try.func28, Try.ntmps28
  go_wp2_with fail
  refine (space_Take.calls v.s v.TB v.np v.c v.T v.F v.fl m _ H.out.sp hm).mono ?_
  rintro en w1 ⟨i, F', hi, hin, rfl, hsp, hF, hf1⟩
  have hpb := BL.fr H.out.pb hf1 (fun e => (H.out.sx _ e).1 rfl)
  have hfm := H.out.fm.fr hf1 (fun e => (H.out.sx _ e).2 rfl)
  have hdk := H.out.dk.fr hf1 (fun k hk => (H.out.dx k hk).2.2)
  have c7 := (show PB w1 _ _ _ _ _ _ _ _ _ _ _ from hpb).all.2.2.2.2.2.2.2.1
  have hnp := H.out.sp.nl
  obtain ⟨D, hown, hhas⟩ := hfm
  have hwf := wf64 (i : Int) (by omega)
  have HI := Aside0.mk hi
  have HSP := Aside0.mk hsp
  have HFF := Aside0.mk hF
  have HF1 := Aside0.mk hf1
  have HPB := Aside0.mk hpb
  have HDK := Aside0.mk hdk
  have HOW := Aside0.mk hown
  have HHS := Aside0.mk hhas
  have HWF := Aside0.mk hwf
  clear hi hsp hF hf1 hpb hdk hown hhas hwf
  go_wp2_with (first | (at_mapUpdate; refine wpList_mapUpdate_own _ rfl _ _ _ 113 rfl 3 3 law3 Try.underlying113 _ v.M v.m D rfl HOW.out (by have := HMM.out; unfold maxLen; omega) _ _ _ rfl rfl (Maps.keyOf_int_mk Try.underlying3 HWF.out) _ [] (plainElem_int Try.underlying3 HWF.out) ?_; intro w2 hown2 hgr2; have HO2 := Aside0.mk hown2; have HG2 := Aside0.mk hgr2; clear hown2 hgr2))
  have hf2 : Fr (fun q => some v.M = some q) w1 w2 := Fr.of_grown HG2.out
  have hMk : ∀ k, k ≠ v.M → ¬ (some v.M = some k) := fun k hk e => hk (Option.some.inj e).symm
  have hFq : ∀ k, SpF v.s v.TB F' k → SpF v.s v.TB v.F k := fun k hk => by
    rcases hk with hk | hk | hk
    · exact Or.inl hk
    · exact Or.inr (Or.inl hk)
    · exact Or.inr (Or.inr (HFF.out ▸ hk))
  have hps : PS w2 { v with m := v.m + 1, f := fun x => x == (i : Int) || v.f x, T := v.T.set i true, F := F', fl := (popL v.fl m).take m } :=
    { pb := BL.fr HPB.out hf2 (hMk _ H.out.pm)
      fm := FM.put HHS.out HOW.out HO2.out HWF.out
      dk := HDK.out.fr hf2 (fun k hk => hMk _ (H.out.dx k hk).2.1)
      sp := HSP.out.fr hf2 (fun k hk => hMk _ (H.out.sx k (hFq k hk)).2)
      pm := H.out.pm
      dx := fun k hk => ⟨(H.out.dx k hk).1, (H.out.dx k hk).2.1, fun e => (H.out.dx k hk).2.2 (hFq k e)⟩
      sx := fun k hk => H.out.sx k (hFq k hk)
      nb := H.out.nb
      rg := H.out.rg }
  have HPS := Aside0.mk hps
  have HFR := Aside0.mk ((HF1.out.weak (G1 := PF v) (fun k hk => Or.inl (Or.inr (Or.inr (Or.inr hk))))).trans (hf2.weak (G1 := PF v) (fun k hk => Or.inl (Or.inr (Or.inl (Option.some.inj hk).symm)))))
  clear hps hf2 hMk hFq
  go_wp2_with fail
  exact bodyPost_ret (v := .tuple #[.int .i64 (i : Int), .int .i64 0]) (by simp [results, Try.results28, go_sem]) rfl ⟨i, F', HI.out, hin, rfl, HPS.out, HFF.out, HFR.out⟩
/-- A row that a disk's pieces may lie in behind a call. -/
def OwnB (w : World) (P P' : Value) : Prop := P'.ownBlock = P.ownBlock ∨ (∃ k, P'.ownBlock = some k ∧ w.heap.size ≤ k) ∨ P'.ownBlock = none
theorem PS.disk {w w1 : World} {v : PV} {now safe : List UInt8} {ps : List (Nat × Nat × List UInt8)} {P : Value} {fu : Bool} {lf : Int} {off : Bool} (h : PS w v) (hf : Fr (DkF v.d v.N v.S v.P) w w1) (hd : Dk w1 v.d v.N v.S v.n now safe ps P fu lf off) (hp : OwnB w v.P P) :
    PS w1 { v with now := now, safe := safe, ps := ps, P := P, fu := fu, lf := lf, off := off } :=
  { pb := BL.fr h.pb hf (fun e => (h.dx _ e).1 rfl)
    fm := h.fm.fr hf (fun e => (h.dx _ e).2.1 rfl)
    dk := hd
    sp := h.sp.fr hf (fun k hk e => (h.dx k e).2.2 hk)
    pm := h.pm
    dx := fun k hk => by
      rcases hk with hk | hk | hk | hk
      · exact h.dx k (Or.inl hk)
      · exact h.dx k (Or.inr (Or.inl hk))
      · exact h.dx k (Or.inr (Or.inr (Or.inl hk)))
      · rcases hp with hp | ⟨q, hq, hl⟩ | hp
        · exact h.dx k (Or.inr (Or.inr (Or.inr (hp ▸ hk))))
        · have hk' : P.ownBlock = some k := hk
          rw [hq] at hk'
          have hqk : q = k := Option.some.inj hk'
          subst hqk
          have h1 := h.lt v.p (Or.inl rfl)
          have h2 := h.lt v.M (Or.inr (Or.inl rfl))
          show q ≠ v.p ∧ q ≠ v.M ∧ ¬ SpF v.s v.TB v.F q
          exact ⟨by omega, by omega, fun e => by have := h.sp.lt' q e; omega⟩
        · have hk' : P.ownBlock = some k := hk
          rw [hp] at hk'; cases hk'
    sx := h.sx
    nb := h.nb
    rg := h.rg }
theorem PS.brk {w : World} {v : PV} (h : PS w v) (b : Bool) : PS (w.setCell ⟨v.p, 9, none⟩ (.bool b)) { v with br := b } :=
  have hf : Fr (· = v.p) w (w.setCell ⟨v.p, 9, none⟩ (.bool b)) := (Fr.refl (· = v.p) w).own 9 _
  { pb := BL.set h.pb 9 _
    fm := h.fm.fr hf (fun e => h.pm e.symm)
    dk := h.dk.fr hf (fun k hk => (h.dx k hk).1)
    sp := h.sp.fr hf (fun k hk => (h.sx k hk).1)
    pm := h.pm
    dx := h.dx
    sx := h.sx
    nb := h.nb
    rg := h.rg }
theorem PS.dr {w : World} {v : PV} (h : PS w v) : PS w.drew v := h.fr (Fr.refl (fun _ => False) w).drew (fun _ _ e => e)
def PWriteP (w : World) (v : PV) (j : Nat) (b : List UInt8) (en : Ending) (w' : World) : Prop :=
  en = .returned (.int .i64 0) ∧ ∃ P', PS w' { v with br := false, now := lay v.now (j * 256) b, ps := v.ps ++ pcs j b 4, P := P', lf := wrap64 (v.lf - 1), off := false } ∧ OwnB w v.P P' ∧ Fr (PF v) w w'
set_option maxHeartbeats 4000000 in
set_option maxRecDepth 100000 in
theorem pager_write.calls (w : World) (v : PV) (h : PS w v) (ho : v.off = false) (hp : (v.fu && v.lf == 0) = false) (n : Nat) (hn : n < v.np + 2) (B o cp : Nat) (b : List UInt8) (hb : SB w B o b) (hbl : b.length = 256) (hB : ¬ PF v B) (hBl : B < w.heap.size) (hcp : 256 ≤ cp) (hps : v.ps.length ≤ 100000) :
    Calls Try.prog 65 #[.pointer (some ⟨v.p, 0, none⟩), .int .i64 n, .slice (some ⟨B, o, none⟩) 256 cp] w (PWriteP w v (v.fi + n) b) := by
  have c3 := h.pb.all.2.2.2.1
  have c4 := h.pb.all.2.2.2.2.1
  have hrg := h.rg
  have hnb := h.nb
  have hdk := h.dk
  rw [ho] at hdk
  have hjn : v.fi + n < v.n := by omega
  have hDB : ¬ DkF v.d v.N v.S v.P B := fun e => hB (Or.inr (Or.inr (Or.inl e)))
  have hw := disk_Write.calls v.d v.N v.S v.n v.now v.safe v.ps v.P v.fu v.lf (v.fi + n) B o cp b w.drew (hdk.fr (Fr.refl (fun _ => False) w).drew (fun _ _ e => e)) hp hb hbl hDB hBl hjn hnb hcp hps
  rw [show ((v.fi + n : Nat) : Int) = (v.fi : Int) + (n : Int) from by omega] at hw
  have HW := Aside0.mk hw
  have H := Aside0.mk h
  have HB' := Aside0.mk hB
  clear h hb hB hdk hDB hw hps hbl hp ho
  go_enter Try.func65, Try.ntmps65
  go_wp2_with fail
  go_still_tail 11, (by kernel_rfl)
  change wpList _ _ _ _ _ (World.drew w)
  go_wp2_with fail
  refine HW.out.mono ?_
  rintro en w1 ⟨rfl, P', hd1, hf1, hP⟩
  have hP' : OwnB w v.P P' := hP.elim Or.inl (fun ⟨k, hk, hl⟩ => Or.inr (Or.inl ⟨k, hk, hl⟩))
  have hps1 := H.out.dr.disk hf1 hd1 hP'
  have hps2 := hps1.brk false
  have c9 := (show PB w1 _ _ _ _ _ _ _ _ _ _ _ from hps1.pb).all.2.2.2.2.2.2.2.2.2
  have f9 := BL.free hps1.pb 9
  have HP2 := Aside0.mk hps2
  have HOW := Aside0.mk hP'
  have HF2 := Aside0.mk ((((Fr.refl (PF v) w).drew).trans (hf1.weak (fun k hk => Or.inl (Or.inr (Or.inr (Or.inl hk)))))).setCell (p := ⟨v.p, 9, none⟩) (Or.inl (Or.inl rfl)) (.bool false))
  clear hps1 hps2 hd1 hf1 hP hP'
  go_wp2_with fail
  go_ret
  exact ⟨rfl, P', HP2.out, HOW.out, HF2.out⟩
def PFlushP (w : World) (v : PV) (en : Ending) (w' : World) : Prop :=
  en = .returned (.int .i64 0) ∧ PS w' { v with br := false, now := nowL (safeL v.safe v.ps) v.now v.ps, safe := safeL v.safe v.ps, ps := [], P := .slice none 0 0, lf := wrap64 (v.lf - 1), off := false } ∧ Fr (PF v) w w'
set_option maxHeartbeats 4000000 in
set_option maxRecDepth 100000 in
theorem pager_flush.calls (w : World) (v : PV) (h : PS w v) (ho : v.off = false) (hp : (v.fu && v.lf == 0) = false) (hps : v.ps.length ≤ 100000) :
    Calls Try.prog 64 #[.pointer (some ⟨v.p, 0, none⟩)] w (PFlushP w v) := by
  have c3 := h.pb.all.2.2.2.1
  have hdk := h.dk
  rw [ho] at hdk
  have HW := Aside0.mk (disk_Flush.calls v.d v.N v.S v.n v.now v.safe v.ps v.P v.fu v.lf w hdk hp h.nb hps)
  have H := Aside0.mk h
  clear h hdk hps hp ho
  go_enter Try.func64, Try.ntmps64
  go_wp2_with fail
  refine HW.out.mono ?_
  rintro en w1 ⟨rfl, hd1, hf1⟩
  have hps1 := H.out.disk hf1 hd1 (Or.inr (Or.inr rfl))
  have hps2 := hps1.brk false
  have c9 := (show PB w1 _ _ _ _ _ _ _ _ _ _ _ from hps1.pb).all.2.2.2.2.2.2.2.2.2
  have f9 := BL.free hps1.pb 9
  have HP2 := Aside0.mk hps2
  have HF2 := Aside0.mk ((hf1.weak (G1 := PF v) (fun k hk => Or.inl (Or.inr (Or.inr (Or.inl hk))))).setCell (p := ⟨v.p, 9, none⟩) (Or.inl (Or.inl rfl)) (.bool false))
  clear hps1 hps2 hd1 hf1
  go_wp2_with fail
  go_ret
  exact ⟨rfl, HP2.out, HF2.out⟩
def PV.wrote (v : PV) (j : Nat) (b : List UInt8) (P' : Value) : PV := { v with br := false, now := lay v.now (j * 256) b, ps := v.ps ++ pcs j b 4, P := P', lf := wrap64 (v.lf - 1), off := false }
def PV.flushed (v : PV) : PV := { v with br := false, now := nowL (safeL v.safe v.ps) v.now v.ps, safe := safeL v.safe v.ps, ps := [], P := .slice none 0 0, lf := wrap64 (v.lf - 1), off := false }
def PV.stated (v : PV) (g r e : Int) : PV := { v with g := g, r := r, e := e }
def PV.settled (v : PV) (M : Nat) : PV := { v with M := M, m := 0, f := fun _ => false, dr := .slice none 0 0 }
set_option maxHeartbeats 4000000 in
set_option maxRecDepth 100000 in
theorem pager_Write.calls (w : World) (v : PV) (h : PS w v) (ho : v.off = false) (hbr : v.br = false) (hp : (v.fu && v.lf == 0) = false) (i : Nat) (hi : i < v.np) (hf : v.f i = true) (B o cp : Nat) (b : List UInt8) (hb : SB w B o b) (hbl : b.length = 256) (hB : ¬ PF v B) (hBl : B < w.heap.size) (hcp : 256 ≤ cp) (hps : v.ps.length ≤ 100000) :
    Calls Try.prog 26 #[.pointer (some ⟨v.p, 0, none⟩), .int .i64 i, .slice (some ⟨B, o, none⟩) 256 cp] w (PWriteP w v (v.fi + (2 + i)) b) := by
  have hnp := h.sp.nl
  have c9 := h.pb.all.2.2.2.2.2.2.2.2.2
  rw [hbr] at c9
  have hfr := pager_isFresh.calls w v.p v.g v.r v.e v.d v.fi v.np v.s v.M v.m v.f v.dr v.br h.pb h.fm i (wf64 _ (by omega))
  rw [hf] at hfr
  have hw := pager_write.calls w v h ho hp (2 + i) (by omega) B o cp b hb hbl hB hBl hcp hps
  rw [show ((2 + i : Nat) : Int) = 2 + (i : Int) from by omega] at hw
  have HFR := Aside0.mk hfr
  have HW := Aside0.mk hw
  clear h ho hbr hp hf hb hbl hB hps hfr hw
  go_enter Try.func26, Try.ntmps26
  go_wp2_with fail
  refine HFR.out.mono ?_
  rintro en w1 ⟨rfl, rfl⟩
  go_wp2_with fail
  refine HW.out.mono ?_
  rintro en w1 ⟨rfl, hr⟩
  have HR := Aside0.mk hr
  clear hr
  go_wp2_with fail
  go_ret
  exact ⟨rfl, HR.out⟩
set_option maxHeartbeats 1000000 in
theorem pager_Generation.calls (w : World) (v : PV) (h : PS w v) : Calls Try.prog 16 #[.pointer (some ⟨v.p, 0, none⟩)] w fun en w' => en = .returned (.int .u64 v.g) ∧ w = w' := by
  have c0 := h.pb.all.1
  clear h
  go_enter Try.func16, Try.ntmps16
  go_wp2
  go_ret
  exact ⟨rfl, rfl⟩
set_option maxHeartbeats 1000000 in
theorem pager_Root.calls (w : World) (v : PV) (h : PS w v) : Calls Try.prog 17 #[.pointer (some ⟨v.p, 0, none⟩)] w fun en w' => en = .returned (.int .i64 v.r) ∧ w = w' := by
  have c0 := h.pb.all.2.1
  clear h
  go_enter Try.func17, Try.ntmps17
  go_wp2
  go_ret
  exact ⟨rfl, rfl⟩
set_option maxHeartbeats 1000000 in
theorem pager_Epoch.calls (w : World) (v : PV) (h : PS w v) : Calls Try.prog 18 #[.pointer (some ⟨v.p, 0, none⟩)] w fun en w' => en = .returned (.int .u64 v.e) ∧ w = w' := by
  have c0 := h.pb.all.2.2.1
  clear h
  go_enter Try.func18, Try.ntmps18
  go_wp2
  go_ret
  exact ⟨rfl, rfl⟩
set_option maxHeartbeats 1000000 in
theorem pager_Pages.calls (w : World) (v : PV) (h : PS w v) : Calls Try.prog 19 #[.pointer (some ⟨v.p, 0, none⟩)] w fun en w' => en = .returned (.int .i64 v.np) ∧ w = w' := by
  have c0 := h.pb.all.2.2.2.2.2.1
  clear h
  go_enter Try.func19, Try.ntmps19
  go_wp2
  go_ret
  exact ⟨rfl, rfl⟩
theorem ownsRow_form {w : World} {base : Nat} {e : TypeId} {size n : Nat} {v : Value} {xs : List Value} (h : w.ownsRow base e size v n xs) : ∃ A c, v = .slice A n c := by
  rcases h.2 with ⟨rfl, rfl⟩ | ⟨g, cap, cur, rfl, _⟩
  · exact ⟨_, _, rfl⟩
  · exact ⟨_, _, rfl⟩
set_option maxHeartbeats 1000000 in
theorem pager_Free.calls (w : World) (v : PV) (h : PS w v) : Calls Try.prog 20 #[.pointer (some ⟨v.p, 0, none⟩)] w fun en w' => en = .returned (.int .i64 v.fl.length) ∧ w = w' := by
  have c6 := h.pb.all.2.2.2.2.2.2.1
  obtain ⟨A, c, hF⟩ := ownsRow_form h.sp.ow
  have hd := h.sp.d
  rw [hF] at hd
  have HD := Aside0.mk hd
  clear h hd hF
  go_enter Try.func20, Try.ntmps20
  go_wp2_with fail
  refine (space_Free.calls v.s _ A v.fl.length c _ HD.out).mono ?_
  rintro en w1 ⟨rfl, rfl⟩
  go_wp2
  go_ret
  exact ⟨rfl, rfl⟩
theorem PS.state {w w' : World} {v : PV} (h : PS w v) (g r e : Int) (hf : Fr (· = v.p) w w') (hb : PB w' v.p g r e v.d v.fi v.np v.s (.map (some v.M)) v.dr v.br) : PS w' (v.stated g r e) :=
  { pb := hb
    fm := h.fm.fr hf (fun e => h.pm e.symm)
    dk := h.dk.fr hf (fun k hk => (h.dx k hk).1)
    sp := h.sp.fr hf (fun k hk => (h.sx k hk).1)
    pm := h.pm
    dx := h.dx
    sx := h.sx
    nb := h.nb
    rg := h.rg }
theorem PS.settled {w w' : World} {v : PV} (h : PS w v) (M : Nat) (hf : Fr (· = v.p) w w') (hm : w.heap.size ≤ M) (hfm : FM w' M 0 fun _ => false) (hb : PB w' v.p v.g v.r v.e v.d v.fi v.np v.s (.map (some M)) (.slice none 0 0) v.br) : PS w' (v.settled M) :=
  { pb := hb
    fm := hfm
    dk := h.dk.fr hf (fun k hk => (h.dx k hk).1)
    sp := h.sp.fr hf (fun k hk => (h.sx k hk).1)
    pm := by have := h.lt v.p (Or.inl rfl); show v.p ≠ M; omega
    dx := fun k hk => ⟨(h.dx k hk).1, by have := h.dk.lt k hk; show k ≠ M; omega, (h.dx k hk).2.2⟩
    sx := fun k hk => ⟨(h.sx k hk).1, by have := h.sp.lt' k hk; show k ≠ M; omega⟩
    nb := h.nb
    rg := h.rg }
/-- What a commit makes of a pager. -/
def PV.done (v : PV) (r e : Int) (P' : Value) (M : Nat) : PV := ((((v.flushed).wrote (v.fi + ((v.g + 1) % 2).toNat) (headL (v.g + 1) r e) P').flushed).stated (v.g + 1) r e).settled M
def CommitP (w : World) (v : PV) (r e : Int) (en : Ending) (w' : World) : Prop :=
  en = .returned (.int .i64 0) ∧ ∃ (P' : Value) (M : Nat), PS w' (v.done r e P' M) ∧ w.heap.size ≤ M ∧ Fr (PF v) w w'
set_option maxHeartbeats 4000000 in
set_option maxRecDepth 100000 in
theorem pager_Commit.plain (w : World) (v : PV) (h : PS w v) (ho : v.off = false) (hbr : v.br = false) (hfu : v.fu = false) (hdr : v.dr = .slice none 0 0) (r : Nat) (e : Int) (hr : r < v.np) (hT : v.T.getD r false = true) (he : v.e ≤ e) (he0 : 0 ≤ e) (he1 : e < 18446744073709551616) (hg0 : 0 ≤ v.g) (hg1 : v.g < 18446744073709551615) (hps : v.ps.length ≤ 90000) :
    Calls Try.prog 24 #[.pointer (some ⟨v.p, 0, none⟩), .int .i64 r, .int .u64 e] w (CommitP w v r e) := by
  have hnp := h.sp.nl
  have H := Aside0.mk h
  have c0 := h.pb.all.1
  have c2 := h.pb.all.2.2.1
  have c6 := h.pb.all.2.2.2.2.2.2.1
  have c8 := h.pb.all.2.2.2.2.2.2.2.2.1
  have c9 := h.pb.all.2.2.2.2.2.2.2.2.2
  rw [hdr] at c8
  rw [hbr] at c9
  have hrT : r < v.T.length := by rw [h.sp.lt]; exact hr
  have hTr : v.T[r] = true := by rw [List.getD_eq_getElem?_getD, List.getElem?_eq_getElem hrT] at hT; exact hT
  have htk := space_Taken.in_ v.s v.TB v.F v.T v.c r w (by rw [h.sp.lt]; exact h.sp.d) h.sp.t hrT (by rw [h.sp.lt]; omega)
  have k1 : decide (e < v.e) = false := decide_eq_false (by omega)
  have k2 : ((r : Int) != -1) = true := by simp
  have hw1 : IntKind.u64.wrap (v.g + 1) = v.g + 1 := by rw [IntKind.wrap_u64]; omega
  have k3 : ((v.g + 1) == 0) = false := by simp; omega
  rw [hTr] at htk
  have HTK := Aside0.mk htk
  have hfl := pager_flush.calls
  clear h hT hTr htk hfl hrT
  go_enter Try.func24, Try.ntmps24
  go_wp2_with fail
  refine HTK.out.mono ?_
  rintro en w1 ⟨rfl, rfl⟩
  go_wp2_with fail
  refine (slices_Contains.nil (r : Int) _).mono ?_
  rintro en w1 ⟨rfl, rfl⟩
  go_wp2_with fail
  have hbl1 := BL.new w #[Value.int IntKind.u64 (v.g + 1), Value.int IntKind.i64 (r : Int), Value.int IntKind.u64 e] 111
  have hps1 : PS (w.alloc (Obj.cells #[Value.int IntKind.u64 (v.g + 1), Value.int IntKind.i64 (r : Int), Value.int IntKind.u64 e] 111)) v := H.out.fr (Fr.of_below (G := fun _ => False) (al _)) (fun _ _ e => e)
  obtain ⟨W1, hW1⟩ : ∃ x, w.alloc (Obj.cells #[Value.int IntKind.u64 (v.g + 1), Value.int IntKind.i64 (r : Int), Value.int IntKind.u64 e] 111) = x := ⟨_, rfl⟩
  have hal : Below w.heap.size w W1 := hW1 ▸ al _
  rw [hW1] at hbl1 hps1 ⊢
  have hqF : ¬ PF v w.heap.size := fun e => by have := H.out.lt _ e; omega
  refine (pager_flush.calls W1 v hps1 ho (by rw [hfu]; rfl) (by omega)).mono ?_
  rintro en w2 ⟨rfl, hs2, hf2⟩
  have hbl2 := BL.fr hbl1 hf2 hqF
  have hF2 : Fr (PF v) w w2 := (Fr.of_below hal).trans hf2
  have c2' := BL.cell hbl2 0
  have c3' := BL.cell hbl2 1
  have c4' := BL.cell hbl2 2
  simp only [List.getElem?_toArray, List.getElem?_cons_zero, List.getElem?_cons_succ] at c2' c3' c4'
  have S2 := Aside0.mk (show PS w2 v.flushed from hs2)
  have B2 := Aside0.mk hbl2
  have F2 := Aside0.mk hF2
  have QF := Aside0.mk hqF
  clear hs2 hf2 hbl2 hF2 hW1 hbl1 hps1 hal hqF
  go_wp2_with fail
  obtain ⟨n, hn⟩ : ∃ n : Nat, ((v.g + 1) % 2).toNat = n := ⟨_, rfl⟩
  have hn2 : n < 2 := by omega
  have hni : (v.g + 1) % 2 = (n : Int) := by omega
  have HN := Aside0.mk hn
  have hlen : (headL (v.g + 1) r e).length = 256 := by unfold headL headA; rw [putL_len, putL_len, putL_len, putL_len, List.length_replicate]
  have hhd : ∀ W : World, Calls Try.prog 66 #[.agg #[.int .u64 (v.g + 1), .int .i64 (r : Int), .int .u64 e]] W (HeadP W (v.g + 1) r e) := fun W => pager_head.calls _ _ _ W
  unfold HeadP at hhd
  obtain ⟨hL, hhL⟩ : ∃ x, headL (v.g + 1) r e = x := ⟨_, rfl⟩
  rw [hhL] at hhd hlen
  have HHD := Aside0.mk hhd
  have HHL := Aside0.mk hhL
  have hmod : IntKind.i64.wrap ((v.g + 1).tmod 2) = (n : Int) := by
    rw [Int.tmod_eq_emod_of_nonneg (by omega), hni, i64_w]; unfold wrap64; omega
  have hwr : ∀ (W : World) (N' : Nat), PS W v.flushed → BC W N' hL 5 → w2.heap.size ≤ N' → Calls Try.prog 65 #[.pointer (some ⟨v.p, 0, none⟩), .int .i64 (IntKind.i64.wrap ((v.g + 1).tmod 2)), .slice (some ⟨N', 0, none⟩) 256 256] W fun en w' => en = .returned (.int .i64 0) ∧ ∃ P', PS w' (v.flushed.wrote (v.fi + n) hL P') ∧ OwnB W v.flushed.P P' ∧ Fr (PF v.flushed) W w' := fun W N' h1 h2 h3 => by
    rw [hmod]
    have hBF : ¬ PF v.flushed N' := fun e => by have := S2.out.lt N' e; omega
    have := pager_write.calls W v.flushed h1 rfl (by show (v.fu && _) = false; rw [hfu]; rfl) n (by show n < v.np + 2; omega) N' 0 256 hL (by simpa [List.take_of_length_le (Nat.le_of_eq hlen)] using SB.of h2 0 256) hlen hBF (BL.lt h2) (by omega) (by show (0 : Nat) ≤ _; omega)
    exact this
  have hPF : ∀ k, PF v.flushed k → PF v k := fun k hk => by
    rcases hk with hk | hk | hk | hk
    · exact Or.inl hk
    · exact Or.inr (Or.inl hk)
    · rcases hk with hk | hk | hk | hk
      · exact Or.inr (Or.inr (Or.inl (Or.inl hk)))
      · exact Or.inr (Or.inr (Or.inl (Or.inr (Or.inl hk))))
      · exact Or.inr (Or.inr (Or.inl (Or.inr (Or.inr (Or.inl hk)))))
      · cases hk
    · exact Or.inr (Or.inr (Or.inr hk))
  have HWR := Aside0.mk hwr
  have HPF := Aside0.mk hPF
  clear hhd hhL hn hwr hPF hmod hni hn2
  go_cut [9] (fun v9 wx => v9 = .int .i64 0 ∧ ∃ P', Aside0 (PS wx (v.flushed.wrote (v.fi + n) hL P')) ∧ Aside0 (BL wx w.heap.size #[Value.int IntKind.u64 (v.g + 1), Value.int IntKind.i64 (r : Int), Value.int IntKind.u64 e] 111) ∧ Aside0 (Fr (PF v) w wx) ∧ Aside0 (P'.ownBlock = none ∨ ∃ k, P'.ownBlock = some k ∧ w.heap.size < k))
  case first =>
    go_region_with (first
      | (go_at_call 66; (with_reducible refine (HHD.out _).mono ?_); rintro e1 w3 ⟨N', rfl, hn', hge, hbl⟩; (have HN' := Aside0.mk hn'); (have B3 := Aside0.mk (B2.out.dr.keep hbl)); (have S3 := Aside0.mk (S2.out.dr.fr (Fr.of_below (G := fun _ => False) hbl) (fun _ _ e => e))); (have F3 := Aside0.mk ((F2.out.drew).below hbl)); (have HGE : Aside0 (w2.heap.size ≤ N') := ⟨hge⟩); (have x0 := BL.cell B3.out 0); (have x1 := BL.cell B3.out 1); (have x2 := BL.cell B3.out 2); (simp only [List.getElem?_toArray, List.getElem?_cons_zero, List.getElem?_cons_succ] at x0 x1 x2); clear hn' hbl hge)
      | (go_at_call 65; (with_reducible refine (HWR.out _ _ S3.out HN'.out HGE.out).mono ?_); rintro e1 w4 ⟨rfl, P', hs4, hown, hf4⟩; (have S4 := Aside0.mk hs4); (have F4 := Aside0.mk (F3.out.trans (hf4.weak (fun k hk => Or.inl (HPF.out k hk))))); (have B4 := Aside0.mk (BL.fr B3.out hf4 (fun e => QF.out (HPF.out _ e)))); (have OW := Aside0.mk hown); clear hs4 hown hf4))
    all_goals
      have hOW : P'.ownBlock = none ∨ ∃ k, P'.ownBlock = some k ∧ w.heap.size < k := by
        rcases OW.out with h | ⟨k, hk, hl⟩ | h
        · exact Or.inl h
        · exact Or.inr ⟨k, hk, by have := BL.lt B3.out; omega⟩
        · exact Or.inl h
      have HOW := Aside0.mk hOW
      clear hOW
      go_wp2_with fail
      go_meet
      exact ⟨rfl, P', S4, B4, F4, HOW⟩
  case rest =>
    obtain ⟨rfl, P', S4, B4, F4, OW⟩ := hcut
    obtain ⟨v2, hv2⟩ : ∃ x, v.flushed.wrote (v.fi + n) hL P' = x := ⟨_, rfl⟩
    have hPF2 : ∀ k, PF v2 k → PF v k ∨ w.heap.size < k := fun k hk => by
      subst hv2
      rcases hk with hk | hk | hk | hk
      · exact Or.inl (Or.inl hk)
      · exact Or.inl (Or.inr (Or.inl hk))
      · rcases hk with hk | hk | hk | hk
        · exact Or.inl (Or.inr (Or.inr (Or.inl (Or.inl hk))))
        · exact Or.inl (Or.inr (Or.inr (Or.inl (Or.inr (Or.inl hk)))))
        · exact Or.inl (Or.inr (Or.inr (Or.inl (Or.inr (Or.inr (Or.inl hk))))))
        · have hk' : P'.ownBlock = some k := hk
          rcases OW.out with h | ⟨q, hq, hl⟩
          · rw [h] at hk'; cases hk'
          · rw [hq] at hk'
            have : q = k := Option.some.inj hk'
            exact Or.inr (by omega)
      · exact Or.inl (Or.inr (Or.inr (Or.inr hk)))
    have hS4 := S4.out
    rw [hv2] at hS4
    have e1 : v2.p = v.p ∧ v2.off = false ∧ v2.fu = v.fu ∧ v2.ps.length = 4 ∧ v2.dr = v.dr ∧ v2.br = false := by subst hv2; exact ⟨rfl, rfl, rfl, rfl, rfl, rfl⟩
    obtain ⟨e1, e2, e3, e4, e5, e6⟩ := e1
    have hfl := pager_flush.calls wc v2 hS4 e2 (by rw [e3, hfu]; rfl) (by omega)
    rw [e1] at hfl
    have HV2 := Aside0.mk hv2
    have HFL := Aside0.mk hfl
    have HPF2 := Aside0.mk hPF2
    have hqF2 : ¬ PF v2 w.heap.size := fun e => by
      rcases hPF2 _ e with h | h
      · exact QF.out h
      · omega
    have QF2 := Aside0.mk hqF2
    clear hqF2
    clear hfl hPF2 hS4 hv2
    go_wp2_with fail
    refine HFL.out.mono ?_
    rintro en w5 ⟨rfl, hs5, hf5⟩
    have hb5 := BL.fr B4.out hf5 QF2.out
    have q0 := BL.cell hb5 0
    have q1 := BL.cell hb5 1
    have q2 := BL.cell hb5 2
    simp only [List.getElem?_toArray, List.getElem?_cons_zero, List.getElem?_cons_succ] at q0 q1 q2
    obtain ⟨v3, hv3⟩ : ∃ x, v2.flushed = x := ⟨_, rfl⟩
    have hs5' : PS w5 v3 := hv3 ▸ hs5
    have e3p : v3.p = v.p ∧ v3.dr = v.dr := by subst hv3; exact ⟨e1, e5⟩
    obtain ⟨e3p, e3d⟩ := e3p
    have hpb := hs5'.pb
    rw [e3p] at hpb
    have p0 := hpb.all.1
    have p1 := hpb.all.2.1
    have p2 := hpb.all.2.2.1
    have p8 := hpb.all.2.2.2.2.2.2.2.2.1
    rw [e3d, hdr] at p8
    have pf0 := BL.free hpb 0
    have pf1 := BL.free hpb 1
    have pf2 := BL.free hpb 2
    have hset := BL.set (BL.set (BL.set hpb 0 (.int .u64 (v.g + 1))) 1 (.int .i64 (r : Int))) 2 (.int .u64 e)
    have hf6 : Fr (PF v2) wc w5 := hf5
    have hqp : ¬ w.heap.size = v.p := fun e => QF.out (Or.inl e)
    have hpq : ¬ v.p = w.heap.size := fun e => hqp e.symm
    have hF5 : Fr (PF v) w w5 := F4.out.then_ hf5 (fun k hk => (HPF2.out k hk).imp id (fun h => by omega))
    have HV3 := Aside0.mk hv3
    have S5 := Aside0.mk hs5'
    have E3 := Aside0.mk e3p
    have HSET := Aside0.mk hset
    have F5 := Aside0.mk hF5
    clear hs5 hs5' hpb hset hf6 hf5 hb5 hF5 hv3 e3p e3d e1 e2 e3 e4 e5 e6
    go_wp2_with fail
    obtain ⟨w6, hw6⟩ : ∃ x, ((w5.setCell ⟨v.p, 0, none⟩ (.int .u64 (v.g + 1))).setCell ⟨v.p, 1, none⟩ (.int .i64 (r : Int))).setCell ⟨v.p, 2, none⟩ (.int .u64 e) = x := ⟨_, rfl⟩
    have hf56 : Fr (· = v.p) w5 w6 := hw6 ▸ (((Fr.refl (· = v.p) w5).own 0 _).own 1 _).own 2 _
    have hb6 : PB w6 v3.p (v.g + 1) r e v3.d v3.fi v3.np v3.s (.map (some v3.M)) v3.dr v3.br := by
      rw [E3.out, ← hw6]; exact HSET.out
    have hs6 : PS w6 (v3.stated (v.g + 1) r e) := S5.out.state (v.g + 1) r e (by rw [E3.out]; exact hf56) hb6
    rw [hw6]
    have hst := pager_settle.calls w6 v3.p _ _ _ _ _ _ _ _ _ _ hb6
    rw [E3.out] at hst
    have HST := Aside0.mk hst
    have S6 := Aside0.mk hs6
    have F6 := Aside0.mk (F5.out.trans (hf56.weak (fun k hk => Or.inl (Or.inl hk))))
    clear hst hs6 hb6 hf56 hw6
    go_loopg [91] 1 (fun kq v91 wr => v91 = .int .i64 0 ∧ w6 = wr)
    case atStart => exact ⟨rfl, rfl⟩
    case round =>
      obtain ⟨rfl, rfl⟩ := hrel
      go_wp2_with fail
      refine HST.out.mono ?_
      rintro en w7 ⟨rfl, M, hb7, hm7, hM, hf7⟩
      have hs7 : PS w7 ((v3.stated (v.g + 1) r e).settled M) := S6.out.settled M (by show Fr (· = v3.p) w6 w7; rw [E3.out]; exact hf7) hM hm7 (by show PB w7 v3.p _ _ _ _ _ _ _ _ _ _; rw [E3.out]; exact hb7)
      have hv : (v3.stated (v.g + 1) r e).settled M = v.done r e P' M := by
        rw [← HV3.out, ← HV2.out, ← HHL.out, ← HN.out]; rfl
      have S7 := Aside0.mk (hv ▸ hs7)
      have F7 := Aside0.mk (F6.out.trans (hf7.weak (fun k hk => Or.inl (Or.inl hk))))
      have HMM : Aside0 (w.heap.size ≤ M) := ⟨Nat.le_trans F6.out.size hM⟩
      clear hs7 hv hb7 hm7 hf7 hM
      go_wp2_with fail
      go_ret
      exact ⟨rfl, P', M, S7.out, HMM.out, F7.out⟩
theorem ownsRow_base {w : World} {b b' : Nat} {e : TypeId} {size n : Nat} {v : Value} {xs : List Value} (h : w.ownsRow b e size v n xs) (hb : b' ≤ b) : w.ownsRow b' e size v n xs := by
  refine ⟨h.1, ?_⟩
  rcases h.2 with h0 | ⟨g, cap, cur, rfl, hb0, hr⟩
  · exact Or.inl h0
  · exact Or.inr ⟨g, cap, cur, rfl, Nat.le_trans hb hb0, hr⟩
theorem freeL_rg (l : List Bool) (j : Nat) : ∀ x ∈ freeL l j, ∃ i : Nat, x = (i : Int) ∧ i < j := by
  intro x hx
  unfold freeL at hx
  obtain ⟨i, hi, rfl⟩ := List.mem_map.1 hx
  exact ⟨i, rfl, List.mem_range.1 (List.mem_filter.1 hi).1⟩
theorem sp_new {w w' : World} {n : Nat} {s TB : Nat} {F : Value} (hn : n ≤ 4096) (h1 : SPB w' s (.slice (some ⟨TB, 0, none⟩) n n) F) (h2 : BL w' TB (bl (List.replicate n false)) 4) (h3 : w'.ownsRow (w.heap.size + 2) 3 1 F (freeL (List.replicate n false) n).length ((freeL (List.replicate n false) n).map (Value.int .i64))) (hs : s < w.heap.size + 2) (hT : TB < w.heap.size + 2) (hne : TB ≠ s) : Sp w' s TB n n (List.replicate n false) F (freeL (List.replicate n false) n) :=
  { d := h1
    t := h2
    lt := List.length_replicate
    nl := hn
    ow := ownsRow_base h3 (Nat.zero_le _)
    rg := freeL_rg _ _
    fn := Nat.le_trans (freeL_len _ _) hn
    ne := hne
    pf := fun k hk => by have := (h3.lt k hk).1; omega }
/-- What a block tells a pager that is opened. -/
def stepO (np : Nat) (l : List UInt8) (n : Nat) (st : Int × Int × Int) : Int × Int × Int :=
  if (decide (toldN l 0 > 0) && (toldN l 0 % 2 == (n : Int)) && decide ((headL (toldN l 0) (toldN l 8 - 1) (toldN l 16)).take 64 = l.take 64)) && decide (toldN l 0 > st.1) then (toldN l 0, toldN l 8 - 1, toldN l 16) else st
def foldO (now : List UInt8) (fi np : Nat) : Nat → Int × Int × Int
  | 0 => (0, -1, 1)
  | i + 1 => stepO np (nthB now (fi + i)) i (foldO now fi np i)
def obC (g r e : Int) (d fi np : Nat) : Array Value := #[.int .u64 g, .int .i64 r, .int .u64 e, .pointer (some ⟨d, 0, none⟩), .int .i64 (fi : Int), .int .i64 (np : Int), .pointer none, .map none, .slice none 0 0, .bool false]
def OpenP (w : World) (d N S n : Nat) (now safe : List UInt8) (ps : List (Nat × Nat × List UInt8)) (P : Value) (fu : Bool) (lf : Int) (fi np : Nat) (st : Int × Int × Int) (en : Ending) (w' : World) : Prop :=
  ∃ (v : PV), en = .returned (.tuple #[.pointer (some ⟨v.p, 0, none⟩), .int .i64 0]) ∧ PS w' v ∧ Below w.heap.size w w' ∧ v.m = 0 ∧ v.f = (fun _ => false) ∧ (v.g, v.r, v.e) = st ∧ v.fi = fi ∧ v.dr = .slice none 0 0 ∧ v.br = false ∧ v.d = d ∧ v.N = N ∧ v.S = S ∧ v.n = n ∧ v.now = now ∧ v.safe = safe ∧ v.ps = ps ∧ v.P = P ∧ v.fu = fu ∧ v.lf = lf ∧ v.off = false ∧ v.np = np ∧ v.T = List.replicate np false ∧ v.fl = freeL (List.replicate np false) np ∧ ∀ k, (k = v.p ∨ k = v.M ∨ SpF v.s v.TB v.F k) → w.heap.size ≤ k
set_option maxHeartbeats 4000000 in
set_option maxRecDepth 100000 in
theorem pager_Open.calls (w : World) (d N S n : Nat) (now safe : List UInt8) (ps : List (Nat × Nat × List UInt8)) (P : Value) (fu : Bool) (lf : Int) (fi np : Nat) (h : Dk w d N S n now safe ps P fu lf false) (hn : n ≤ 4096) (hnp : 1 ≤ np) (hrg : fi + 2 + np ≤ n)
    (hbd : ∀ i, i < 2 → 0 ≤ toldN (nthB now (fi + i)) 8 ∧ toldN (nthB now (fi + i)) 8 ≤ (np : Int)) :
    Calls Try.prog 13 #[.pointer (some ⟨d, 0, none⟩), .int .i64 fi, .int .i64 (np + 2 : Nat)] w (OpenP w d N S n now safe ps P fu lf fi np (foldO now fi np 2)) := by
  have H := Aside0.mk h
  have k1 : decide ((fi : Int) < 0) = false := decide_eq_false (by omega)
  have k2 : decide (((np + 2 : Nat) : Int) < 3) = false := decide_eq_false (by omega)
  have k3 : decide (((np + 2 : Nat) : Int) > (n : Int)) = false := decide_eq_false (by omega)
  have k4 : decide ((fi : Int) > (n : Int) - ((np + 2 : Nat) : Int)) = false := decide_eq_false (by omega)
  clear h
  go_enter Try.func13, Try.ntmps13
  go_wp2_with fail
  refine (disk_Blocks.calls d (some ⟨N, 0, none⟩) n n _ P fu false lf _ H.out.d).mono ?_
  rintro en w1 ⟨rfl, rfl⟩
  go_wp2_with fail
  have hnb := hnp
  have hb0 := BL.new w (obC 0 (-1) 1 d fi np) 115
  have ho0 : Below w.heap.size w (w.alloc (.cells (obC 0 (-1) 1 d fi np) 115)) := al _
  have HBD := Aside0.mk hbd
  have HB0 := Aside0.mk hb0
  have HO0 := Aside0.mk ho0
  clear hb0 ho0 hbd
  go_loopg [42] 2 (fun kq v42 wr => ∃ (i : Nat) (g r e : Int), v42 = .int .i64 i ∧ Aside0 (kq + i = 2) ∧ Aside0 ((g, r, e) = foldO now fi np i) ∧ Aside0 (BL wr w.heap.size (obC g r e d fi np) 115) ∧ Aside0 (Below w.heap.size w wr))
  case atStart => exact ⟨0, 0, -1, 1, rfl, ⟨rfl⟩, ⟨rfl⟩, HB0, HO0⟩
  case round =>
    obtain ⟨i, g, r, e, rfl, HJ, HST, HB, HO⟩ := hrel
    by_cases hi : i < 2
    · have k5 : (i : Int) < 2 := by omega
      obtain ⟨hr0, hr1⟩ := HBD.out i hi
      have hrd := disk_Read.calls d N n now (.slice (some ⟨S, 0, none⟩) n n) P fu lf (fi + i) wr (BL.keep H.out.d HO.out) (BL.keep H.out.bn HO.out) H.out.ln (by omega)
      rw [show ((fi + i : Nat) : Int) = (fi : Int) + (i : Int) from by omega] at hrd
      have hln := nthB_len H.out.ln (show fi + i < n by omega)
      obtain ⟨l, hl⟩ : ∃ x, nthB now (fi + i) = x := ⟨_, rfl⟩
      rw [hl] at hrd hln hr0 hr1
      have HRD := Aside0.mk hrd
      have HL := Aside0.mk hl
      clear hrd hl
      go_wp2_with fail
      refine HRD.out.mono ?_
      rintro en w2 ⟨B, rfl, hBz, hBC, hbl2⟩
      have hB2 := HB.out.keep hbl2
      have c5 := hB2.cell 5
      simp only [obC, List.getElem?_toArray, List.getElem?_cons_zero, List.getElem?_cons_succ] at c5
      obtain ⟨g', hg'⟩ : ∃ x, toldN l 0 = x := ⟨_, rfl⟩
      obtain ⟨r', hr'⟩ : ∃ x, toldN l 8 = x := ⟨_, rfl⟩
      obtain ⟨e', he'⟩ : ∃ x, toldN l 16 = x := ⟨_, rfl⟩
      rw [hr'] at hr0 hr1
      obtain ⟨b, hb⟩ : ∃ b, (decide (g' > 0) && (g' % 2 == (i : Int)) && decide ((headL g' (r' - 1) e').take 64 = l.take 64)) = b := ⟨_, rfl⟩
      have htd := pager_told.calls B l i np g' r' e' w2 hBC hln hg' hr' he' hr0 hr1 (by omega) hi b hb
      have HTD := Aside0.mk htd
      have HB2 := Aside0.mk hB2
      have HO2 := Aside0.mk (below_step HO.out hbl2)
      have HGRE : Aside0 (toldN l 0 = g' ∧ toldN l 8 = r' ∧ toldN l 16 = e') := ⟨hg', hr', he'⟩
      have HBB := Aside0.mk hb
      clear htd hB2 hbl2 hBC hg' hr' he' hb
      go_wp2_with fail
      refine HTD.out.mono ?_
      rintro en w3 ⟨rfl, hbl3⟩
      have hB3 := HB2.out.keep hbl3
      have hq := BL.new w3 #[Value.int IntKind.u64 g', Value.int IntKind.i64 (r' - 1), Value.int IntKind.u64 e'] 111
      have hB4 := hB3.keep (al (Obj.cells #[Value.int IntKind.u64 g', Value.int IntKind.i64 (r' - 1), Value.int IntKind.u64 e'] 111))
      have hO4 := below_step (below_step HO2.out hbl3) (al (Obj.cells #[Value.int IntKind.u64 g', Value.int IntKind.i64 (r' - 1), Value.int IntKind.u64 e'] 111))
      obtain ⟨w4, hw4⟩ : ∃ x, w3.alloc (Obj.cells #[Value.int IntKind.u64 g', Value.int IntKind.i64 (r' - 1), Value.int IntKind.u64 e'] 111) = x := ⟨_, rfl⟩
      have hpq : w.heap.size < w3.heap.size := BL.lt hB3
      have HW4 := Aside0.mk hw4
      rw [hw4] at hq hB4 hO4
      have HB4 := Aside0.mk hB4
      have HQ := Aside0.mk hq
      have HO4 := Aside0.mk hO4
      clear hB3 hq hB4 hO4 hw4 hbl3
      go_wp2_with fail
      rw [HW4.out]
      have q0 := HQ.out.cell 0
      have q1 := HQ.out.cell 1
      have q2 := HQ.out.cell 2
      have p0 := HB4.out.cell 0
      have p1 := HB4.out.cell 1
      have p2 := HB4.out.cell 2
      have pf0 := BL.free HB4.out 0
      have pf1 := BL.free HB4.out 1
      have pf2 := BL.free HB4.out 2
      simp only [obC, List.getElem?_toArray, List.getElem?_cons_zero, List.getElem?_cons_succ] at q0 q1 q2 p0 p1 p2
      have hne1 : ¬ w3.heap.size = w.heap.size := by omega
      have hne2 : ¬ w.heap.size = w3.heap.size := by omega
      cases b with
      | true =>
        by_cases hgt : g < g'
        · have d1 : decide (g < g') = true := decide_eq_true hgt
          have d2 : decide (g' > g) = true := decide_eq_true hgt
          go_quiet (fail)
          go_wp2_with fail
          go_roundg (2 - (i + 1))
          case measure => have := HJ.out; omega
          case rel => exact ⟨i + 1, g', r' - 1, e', rfl, ⟨by have := HJ.out; omega⟩, ⟨by rw [foldO, HL.out, ← HST.out, stepO, HGRE.out.1, HGRE.out.2.1, HGRE.out.2.2, HBB.out]; show _ = if (true && decide (g' > g)) = true then _ else _; rw [d2]; rfl⟩, ⟨BL.set (BL.set (BL.set (HB4.out.drN _) 0 _) 1 _) 2 _⟩, ⟨below_three (Below.drN HO4.out _) _ (Nat.le_refl _) _ _ _⟩⟩
        · have d1 : decide (g < g') = false := decide_eq_false hgt
          have d2 : decide (g' > g) = false := decide_eq_false hgt
          go_quiet (fail)
          go_wp2_with fail
          go_roundg (2 - (i + 1))
          case measure => have := HJ.out; omega
          case rel => exact ⟨i + 1, g, r, e, rfl, ⟨by have := HJ.out; omega⟩, ⟨by rw [foldO, HL.out, ← HST.out, stepO, HGRE.out.1, HGRE.out.2.1, HGRE.out.2.2, HBB.out]; show _ = if (true && decide (g' > g)) = true then _ else _; rw [d2]; rfl⟩, ⟨HB4.out.drN _⟩, ⟨Below.drN HO4.out _⟩⟩
      | false =>
        go_quiet (fail)
        go_wp2_with fail
        go_roundg (2 - (i + 1))
        case measure => have := HJ.out; omega
        case rel => exact ⟨i + 1, g, r, e, rfl, ⟨by have := HJ.out; omega⟩, ⟨by rw [foldO, HL.out, ← HST.out, stepO, HGRE.out.1, HGRE.out.2.1, HGRE.out.2.2, HBB.out]; rfl⟩, ⟨HB4.out.drN _⟩, ⟨Below.drN HO4.out _⟩⟩
    · have k5 : ¬ (i : Int) < 2 := by omega
      have e2 : i = 2 := by have := HJ.out; omega
      have hst : (g, r, e) = foldO now fi np 2 := by rw [← e2]; exact HST.out
      have HS2 := Aside0.mk hst
      have c5 := HB.out.cell 5
      simp only [obC, List.getElem?_toArray, List.getElem?_cons_zero, List.getElem?_cons_succ] at c5
      clear e2 hst
      go_wp2_with fail
      refine (space_New.calls np _ hnb (by omega)).mono ?_
      rintro en w2 ⟨s, TB, F, rfl, hs, hT, ho, hs1, hs2, hT1, hT2, hne, hbl2⟩
      have hB2 := HB.out.keep hbl2
      have c6 := hB2.cell 6
      have f6 := BL.free hB2 6
      simp only [obC, List.getElem?_toArray, List.getElem?_cons_zero, List.getElem?_cons_succ] at c6
      have HSP := Aside0.mk (sp_new (w := wr) (by omega) hs hT ho hs2 hT2 hne)
      have HB2 := Aside0.mk hB2
      have HO2 := Aside0.mk (below_step HO.out hbl2)
      have HZ : Aside0 (w.heap.size < wr.heap.size ∧ wr.heap.size ≤ s ∧ wr.heap.size ≤ TB) := ⟨BL.lt HB.out, hs1, hT1⟩
      have HFB : Aside0 (∀ k, F.ownBlock = some k → wr.heap.size ≤ k) := ⟨fun k hk => by have := (ho.lt k hk).1; omega⟩
      clear hs hT ho hs1 hs2 hT1 hT2 hne hbl2 hB2
      go_wp2_with fail
      have hpb3 : PB (w2.setCell ⟨w.heap.size, 6, none⟩ (.pointer (some ⟨s, 0, none⟩))) w.heap.size g r e d fi np s (.map none) (.slice none 0 0) false := BL.set HB2.out 6 _
      have hf3 : Fr (· = w.heap.size) w2 (w2.setCell ⟨w.heap.size, 6, none⟩ (.pointer (some ⟨s, 0, none⟩))) := (Fr.refl (· = w.heap.size) w2).own 6 _
      obtain ⟨w3, hw3⟩ : ∃ x, w2.setCell ⟨w.heap.size, 6, none⟩ (.pointer (some ⟨s, 0, none⟩)) = x := ⟨_, rfl⟩
      rw [hw3] at hpb3 hf3 ⊢
      have HF3 := Aside0.mk hf3
      clear hw3 hf3
      refine (pager_settle.calls w3 w.heap.size g r e d fi np s _ _ false hpb3).mono ?_
      rintro en w4 ⟨rfl, M, hpb4, hfm4, hM, hf4⟩
      have hF34 := HF3.out.trans hf4
      have hz := HZ.out
      have hSk : ∀ k, SpF s TB F k → wr.heap.size ≤ k := fun k hk => by
        rcases hk with hk | hk | hk
        · omega
        · omega
        · exact HFB.out k hk
      have hMs : w2.heap.size ≤ M := Nat.le_trans HF3.out.size hM
      have hDl : ∀ k, DkF d N S P k → k < w.heap.size := fun k hk => H.out.lt k hk
      have hO4 : Below w.heap.size w w4 := Fr.to_below HO2.out hF34 HO2.out.size (fun q hq => by omega)
      have hps : PS w4 { p := w.heap.size, M := M, m := 0, f := fun _ => false, g := g, r := r, e := e, fi := fi, dr := .slice none 0 0, br := false, d := d, N := N, S := S, n := n, now := now, safe := safe, ps := ps, P := P, fu := fu, lf := lf, off := false, s := s, TB := TB, np := np, c := np, T := List.replicate np false, F := F, fl := freeL (List.replicate np false) np } :=
        { pb := hpb4
          fm := hfm4
          dk := H.out.fr (Fr.of_below (G := fun _ => False) hO4) (fun _ _ e => e)
          sp := HSP.out.fr hF34 (fun k hk e => by have := hSk k hk; omega)
          pm := by show w.heap.size ≠ M; have := HO2.out.size; have := BL.lt HB2.out; omega
          dx := fun k hk => by
            have := hDl k hk
            show k ≠ w.heap.size ∧ k ≠ M ∧ ¬ SpF s TB F k
            have := HO2.out.size
            exact ⟨by omega, by omega, fun e => by have := hSk k e; omega⟩
          sx := fun k hk => by
            have := hSk k hk
            have := HSP.out.lt' k hk
            show k ≠ w.heap.size ∧ k ≠ M
            exact ⟨by omega, by omega⟩
          nb := hn
          rg := hrg }
      have HKB : Aside0 (∀ k, (k = w.heap.size ∨ k = M ∨ SpF s TB F k) → w.heap.size ≤ k) := ⟨fun k hk => by
        rcases hk with hk | hk | hk
        · omega
        · have := HO2.out.size; omega
        · have := hSk k hk; omega⟩
      have HPS := Aside0.mk hps
      have HO4 := Aside0.mk hO4
      clear hps hO4 hDl hMs hSk hz hF34 hpb4 hfm4 hM hf4 hpb3
      go_wp2_with fail
      exact bodyPost_ret (v := .tuple #[.pointer (some ⟨w.heap.size, 0, none⟩), .int .i64 0]) (by simp [results, Try.results13, go_sem]) rfl ⟨_, rfl, HPS.out, HO4.out, rfl, rfl, HS2.out, rfl, rfl, rfl, rfl, rfl, rfl, rfl, rfl, rfl, rfl, rfl, rfl, rfl, rfl, rfl, rfl, rfl, HKB.out⟩
/-- space.Only, over lists. -/
def onlyL : List Bool → List Int → Option (List Bool)
  | T, [] => some T
  | T, x :: r => if 0 ≤ x ∧ x < (T.length : Int) ∧ T.getD x.toNat false = false then onlyL (T.set x.toNat true) r else none
theorem onlyL_cons (T : List Bool) (x : Int) (r : List Int) : onlyL T (x :: r) = if 0 ≤ x ∧ x < (T.length : Int) ∧ T.getD x.toNat false = false then onlyL (T.set x.toNat true) r else none := rfl
theorem onlyL_len (l : List Int) : ∀ (T T' : List Bool), onlyL T l = some T' → T'.length = T.length := by
  induction l with
  | nil => intro T T' h; cases h; rfl
  | cons x r ih =>
    intro T T' h
    unfold onlyL at h
    split at h
    · rw [ih _ _ h, List.length_set]
    · cases h
def OnlyP (w : World) (s n : Nat) (R : Option (List Bool)) (en : Ending) (w' : World) : Prop :=
  match R with
  | some T' => ∃ (TB' : Nat) (F' : Value), en = .returned (.int .i64 0) ∧ Sp w' s TB' n n T' F' (freeL T' n) ∧ Fr (· = s) w w' ∧ w.heap.size ≤ TB' ∧ ∀ k, F'.ownBlock = some k → w.heap.size ≤ k
  | none => en = .returned (.int .i64 1) ∧ Below w.heap.size w w'
set_option maxHeartbeats 4000000 in
set_option maxRecDepth 100000 in
theorem space_Only.calls (s TB n c : Nat) (T : List Bool) (F : Value) (fl : List Int) (B o cp : Nat) (l : List Int) (w : World) (h : Sp w s TB n c T F fl) (hl : IL w B o l) (hll : l.length ≤ 100000) (hB : B < w.heap.size) :
    Calls Try.prog 70 #[.pointer (some ⟨s, 0, none⟩), .slice (some ⟨B, o, none⟩) l.length cp] w (OnlyP w s n (onlyL (List.replicate n false) l)) := by
  have hnl := h.nl
  have c0 := h.d.all.1
  have hmk := mk_bools n hnl
  have H := Aside0.mk h
  have HL := Aside0.mk hl
  obtain ⟨T0, hT0⟩ : ∃ x, List.replicate n false = x := ⟨_, rfl⟩
  rw [hT0] at hmk ⊢
  have hT0l : T0.length = n := by rw [← hT0, List.length_replicate]
  have hbn := BL.new w (bl T0) 4
  have hal : Below w.heap.size w (w.alloc (.cells (bl T0) 4)) := al _
  have HBN := Aside0.mk hbn
  have HAL := Aside0.mk hal
  have HT0 := Aside0.mk hT0l
  clear h hl hT0 hbn hal hT0l
  go_enter Try.func70, Try.ntmps70
  go_wp2_with fail
  go_loopg [18] l.length (fun kq v18 wr => ∃ (j : Nat) (T1 : List Bool), v18 = .int .i64 j ∧ Aside0 (kq + j = l.length) ∧ Aside0 (onlyL T0 l = onlyL T1 (l.drop j)) ∧ Aside0 (T1.length = n) ∧ Aside0 (BL wr w.heap.size (bl T1) 4) ∧ Aside0 (Below w.heap.size w wr))
  case atStart => exact ⟨0, T0, rfl, ⟨by omega⟩, ⟨rfl⟩, HT0, HBN, HAL⟩
  case round =>
    obtain ⟨j, T1, rfl, HJ, HR, HT1, HB1, HO⟩ := hrel
    by_cases hj : j < l.length
    · have k1 : (j : Int) < (l.length : Int) := by omega
      have hil : IL wr B o l := fun k v hk => by rw [HO.out.cell (p := ⟨B, o + k, none⟩) hB]; exact HL.out k v hk
      have hc := hil.at j hj
      obtain ⟨x, hx⟩ : ∃ x, l[j] = x := ⟨_, rfl⟩
      rw [hx] at hc
      have hdr : l.drop j = x :: l.drop (j + 1) := by rw [List.drop_eq_getElem_cons hj, hx]
      have hR := HR.out
      rw [hdr, onlyL_cons] at hR
      have HRR := Aside0.mk hR
      clear hil hx hdr hR
      by_cases h1 : 0 ≤ x
      · by_cases h2 : x < (n : Int)
        · obtain ⟨i, rfl⟩ : ∃ i : Nat, x = (i : Int) := ⟨x.toNat, by omega⟩
          have hti : i < T1.length := by rw [HT1.out]; omega
          have ti := (BL.cell HB1.out i).trans (bl_at T1 i hti)
          have tf := BL.free HB1.out i
          obtain ⟨b, hb⟩ : ∃ x, T1[i] = x := ⟨_, rfl⟩
          rw [hb] at ti
          have hgd : T1.getD i false = b := by rw [List.getD_eq_getElem?_getD, List.getElem?_eq_getElem hti, hb]; rfl
          have HGD := Aside0.mk hgd
          have d1 : decide ((i : Int) < 0) = false := decide_eq_false (by omega)
          have d2 : decide ((i : Int) ≥ (n : Int)) = false := decide_eq_false (by omega)
          clear hgd hb hti
          cases b with
          | true =>
            have hno : onlyL T0 l = none := by rw [HRR.out, if_neg (fun h => by have := h.2.2; rw [show (i : Int).toNat = i from by omega, HGD.out] at this; cases this)]
            have HNO := Aside0.mk hno
            clear hno
            go_wp2_with fail
            go_ret
            rw [HNO.out]
            exact ⟨rfl, HO.out⟩
          | false =>
            have hyes : onlyL T0 l = onlyL (T1.set i true) (l.drop (j + 1)) := by
              rw [HRR.out, if_pos ⟨h1, by rw [HT1.out]; exact h2, HGD.out⟩]; rfl
            have HY := Aside0.mk hyes
            clear hyes
            go_wp2_with fail
            go_roundg (l.length - (j + 1))
            case measure => have := HJ.out; omega
            case rel => exact ⟨j + 1, T1.set i true, rfl, ⟨by omega⟩, HY, ⟨by rw [List.length_set]; exact HT1.out⟩, ⟨by have := BL.set HB1.out i (.bool true); rw [bl_set] at this; exact this⟩, ⟨HO.out.setCell (Nat.le_refl _) _⟩⟩
        · have d1 : decide (x < 0) = false := decide_eq_false (by omega)
          have d2 : decide (x ≥ (n : Int)) = true := decide_eq_true (by omega)
          have hno : onlyL T0 l = none := by rw [HRR.out, if_neg (fun h => h2 (by have := h.2.1; rw [HT1.out] at this; exact this))]
          have HNO := Aside0.mk hno
          clear hno
          go_wp2_with fail
          go_ret
          rw [HNO.out]
          exact ⟨rfl, HO.out⟩
      · have d1 : decide (x < 0) = true := decide_eq_true (by omega)
        have hno : onlyL T0 l = none := by rw [HRR.out, if_neg (fun h => h1 h.1)]
        have HNO := Aside0.mk hno
        clear hno
        go_wp2_with fail
        go_ret
        rw [HNO.out]
        exact ⟨rfl, HO.out⟩
    · have k1 : ¬ (j : Int) < (l.length : Int) := by omega
      have hfin : onlyL T0 l = some T1 := by rw [HR.out, List.drop_eq_nil_of_le (by omega)]; rfl
      have hs : SPB wr s (.slice (some ⟨TB, 0, none⟩) n c) F := BL.keep H.out.d HO.out
      have hsl := H.out.lt' s (Or.inl rfl)
      have hfi := space_fill.calls s w.heap.size n _ F T1 wr hs HB1.out (by omega) (by rw [HT1.out]; exact hnl)
      rw [HT1.out] at hfi
      have HFI := Aside0.mk hfi
      have HFN := Aside0.mk hfin
      clear hfin hs hfi
      go_wp2_with fail
      refine HFI.out.mono ?_
      rintro en w2 ⟨rfl, F2, hs2, ho2, hf2⟩
      rw [HT1.out] at hs2 ho2
      have hsw := HO.out.size
      have hsp : Sp w2 s w.heap.size n n T1 F2 (freeL T1 n) :=
        { d := hs2
          t := BL.fr HB1.out hf2 (by omega)
          lt := HT1.out
          nl := hnl
          ow := ownsRow_base ho2 (Nat.zero_le _)
          rg := freeL_rg _ _
          fn := Nat.le_trans (freeL_len _ _) hnl
          ne := by omega
          pf := fun k hk => by have := (ho2.lt k hk).1; have := BL.lt HB1.out; omega }
      have HSP := Aside0.mk hsp
      have HF2 := Aside0.mk ((Fr.of_below (G := (· = s)) HO.out).trans hf2)
      have HFB : Aside0 (∀ k, F2.ownBlock = some k → w.heap.size ≤ k) := ⟨fun k hk => by have := (ho2.lt k hk).1; omega⟩
      clear hsp hs2 ho2 hf2
      go_wp2_with fail
      go_ret
      rw [HFN.out]
      exact ⟨_, F2, rfl, HSP.out, HF2.out, Nat.le_refl _, HFB.out⟩
def UseP (w : World) (v : PV) (R : Option (List Bool)) (en : Ending) (w' : World) : Prop :=
  match R with
  | some T' => ∃ (M TB' : Nat) (F' : Value), en = .returned (.int .i64 0) ∧ PS w' { v with M := M, m := 0, f := fun _ => false, dr := .slice none 0 0, TB := TB', c := v.np, T := T', F := F', fl := freeL T' v.np } ∧ Fr (PF v) w w' ∧ w.heap.size ≤ TB' ∧ w.heap.size ≤ M ∧ ∀ k, F'.ownBlock = some k → w.heap.size ≤ k
  | none => en = .returned (.int .i64 1) ∧ Below w.heap.size w w'
set_option maxHeartbeats 4000000 in
set_option maxRecDepth 100000 in
theorem pager_Use.some_ (w : World) (v : PV) (h : PS w v) (B o cp : Nat) (l : List Int) (hl : IL w B o l) (hll : l.length ≤ 100000) (hB : B < w.heap.size) (T' : List Bool) (hT : onlyL (List.replicate v.np false) l = some T') :
    Calls Try.prog 31 #[.pointer (some ⟨v.p, 0, none⟩), .slice (some ⟨B, o, none⟩) l.length cp] w (UseP w v (some T')) := by
  have c6 := h.pb.all.2.2.2.2.2.2.1
  have ho := space_Only.calls v.s v.TB v.np v.c v.T v.F v.fl B o cp l w h.sp hl hll hB
  rw [hT] at ho
  have H := Aside0.mk h
  have HOn := Aside0.mk ho
  clear h hl hT ho
  go_enter Try.func31, Try.ntmps31
  go_wp2_with fail
  refine HOn.out.mono ?_
  rintro en w1 ⟨TB', F', rfl, hsp, hf1, hTB, hFB⟩
  have hsl := H.out.sx v.s (Or.inl rfl)
  have hpb := BL.fr H.out.pb hf1 (fun e => hsl.1 e.symm)
  have HSP := Aside0.mk hsp
  have HF1 := Aside0.mk hf1
  have HPB := Aside0.mk hpb
  have HTB : Aside0 (w.heap.size ≤ TB' ∧ ∀ k, F'.ownBlock = some k → w.heap.size ≤ k) := ⟨hTB, hFB⟩
  clear hsp hf1 hpb hTB hFB hsl
  go_wp2_with fail
  refine (pager_settle.calls w1 v.p _ _ _ _ _ _ _ _ _ _ HPB.out).mono ?_
  rintro en w2 ⟨rfl, M, hb2, hm2, hM, hf2⟩
  have hsz := HF1.out.size
  have hSk : ∀ k, SpF v.s TB' F' k → k = v.s ∨ w.heap.size ≤ k := fun k hk => by
    rcases hk with hk | hk | hk
    · exact Or.inl hk
    · exact Or.inr (by have := HTB.out.1; omega)
    · exact Or.inr (HTB.out.2 k hk)
  have hpl := H.out.lt v.p (Or.inl rfl)
  have hps : PS w2 { v with M := M, m := 0, f := fun _ => false, dr := .slice none 0 0, TB := TB', c := v.np, T := T', F := F', fl := freeL T' v.np } :=
    { pb := hb2
      fm := hm2
      dk := (H.out.dk.fr HF1.out (fun k hk e => (H.out.dx k hk).2.2 (Or.inl e))).fr hf2 (fun k hk => (H.out.dx k hk).1)
      sp := HSP.out.fr hf2 (fun k hk e => by
        rcases hSk k hk with h | h
        · exact (H.out.sx v.s (Or.inl rfl)).1 (h.symm.trans e)
        · omega)
      pm := by show v.p ≠ M; omega
      dx := fun k hk => by
        have hkl := H.out.dk.lt k hk
        show k ≠ v.p ∧ k ≠ M ∧ ¬ SpF v.s TB' F' k
        refine ⟨(H.out.dx k hk).1, by omega, fun e => ?_⟩
        rcases hSk k e with h | h
        · exact (H.out.dx k hk).2.2 (Or.inl h)
        · omega
      sx := fun k hk => by
        have hkl := HSP.out.lt' k hk
        show k ≠ v.p ∧ k ≠ M
        refine ⟨?_, by omega⟩
        rcases hSk k hk with h | h
        · rw [h]; exact (H.out.sx v.s (Or.inl rfl)).1
        · omega
      nb := H.out.nb
      rg := H.out.rg }
  have HPS := Aside0.mk hps
  have HFF := Aside0.mk ((HF1.out.weak (G1 := PF v) (fun k hk => Or.inl (Or.inr (Or.inr (Or.inr (Or.inl hk)))))).trans (hf2.weak (G1 := PF v) (fun k hk => Or.inl (Or.inl hk))))
  have HMM : Aside0 (w.heap.size ≤ M) := ⟨by omega⟩
  clear hps hSk hb2 hm2 hf2 hM
  go_wp2_with fail
  go_ret
  exact ⟨M, TB', F', rfl, HPS.out, HFF.out, HTB.out.1, HMM.out, HTB.out.2⟩
theorem rep_get (m : Nat) (hm : 0 < m) (v : Value) (j : Nat) : (Array.replicate m v)[j % m]! = v := by
  have h : j % m < m := Nat.mod_lt _ hm
  rw [getElem!_pos (Array.replicate m v) (j % m) (by simpa using h), Array.getElem_replicate]
theorem made_rep (m : Nat) (hm : 0 < m) (v : Value) (k : Nat) : (madeCells (Array.replicate m v) k).toList = List.replicate k v := by
  apply List.ext_getElem?
  intro j
  unfold madeCells
  rw [Array.toList_map, Array.toList_range, List.getElem?_map, Array.size_replicate, List.getElem?_replicate]
  by_cases hj : j < k
  · rw [List.getElem?_range hj, if_pos hj, Option.map_some, rep_get m hm v j]
  · rw [List.getElem?_eq_none (by simpa using hj), if_neg hj, Option.map_none]
theorem zc_cl (n : Nat) : zc n = (cl (List.replicate (n * 256) 0)).toArray := by
  apply Array.toList_inj.1
  have hc : ∀ a : Array Value, (Value.agg a).cells = a := fun _ => rfl
  unfold zc cl
  rw [hc, made_rep 256 (by decide), List.map_replicate]
  rfl
/-- The pager that made makes. -/
structure PV0 (v : PV) : Prop where
  m : v.m = 0
  f : v.f = fun _ => false
  st : (v.g, v.r, v.e) = (0, -1, 1)
  fi : v.fi = 1
  dr : v.dr = .slice none 0 0
  br : v.br = false
  n : v.n = 15
  now : v.now = List.replicate 3840 0
  safe : v.safe = List.replicate 3840 0
  ps : v.ps = []
  P : v.P = .slice none 0 0
  fu : v.fu = false
  lf : v.lf = 0
  off : v.off = false
  np : v.np = 12
  T : v.T = List.replicate 12 false
  fl : v.fl = freeL (List.replicate 12 false) 12
def MadeP (w : World) (en : Ending) (w' : World) : Prop := ∃ v : PV, en = .returned (.tuple #[.pointer (some ⟨v.d, 0, none⟩), .pointer (some ⟨v.p, 0, none⟩), .bool true]) ∧ PS w' v ∧ PV0 v ∧ Below w.heap.size w w' ∧ ∀ k, PF v k → w.heap.size ≤ k
theorem fold0 : foldO (List.replicate 3840 0) 1 12 2 = (0, -1, 1) := by kernel_rfl
theorem told0 (i : Nat) (hi : i < 2) : toldN (nthB (List.replicate 3840 0) (1 + i)) 8 = 0 := by
  rcases (show i = 0 ∨ i = 1 by omega) with h | h
  · rw [h]; clear h hi; kernel_rfl
  · rw [h]; clear h hi; kernel_rfl
set_option maxHeartbeats 4000000 in
set_option maxRecDepth 100000 in
theorem made_calls (w : World) : Calls Try.prog 21 #[] w (MadeP w) := by
  go_enter Try.func21, Try.ntmps21
  go_wp2_with fail
  refine (disk_New.calls 15 _ (by omega) (by omega)).mono ?_
  rintro en w1 ⟨g, N, S, rfl, hd, hN, hS, hNS, hNg, hSg, hgl, hNl, hSl, hbl⟩
  rw [zc_cl] at hN hS
  have hdk : Dk w1 g N S 15 (List.replicate 3840 0) (List.replicate 3840 0) [] (.slice none 0 0) false 0 false :=
    { d := hd
      bn := hN
      bs := hS
      ln := List.length_replicate
      ls := List.length_replicate
      lp := by intro p hp; cases hp
      ow := World.ownsRow_nil _ _ _ _
      ns := hNS
      ng := hNg
      sg := hSg
      pf := by intro k hk; cases hk }
  have HDK := Aside0.mk hdk
  have HZ : Aside0 (w.heap.size ≤ g ∧ w.heap.size ≤ N ∧ w.heap.size ≤ S) := ⟨hgl, hNl, hSl⟩
  have HO := Aside0.mk hbl
  clear hdk hd hN hS hbl hgl hNl hSl
  go_wp2_with fail
  refine (pager_Open.calls w1 g N S 15 _ _ _ _ false 0 1 12 HDK.out (by omega) (by omega) (by omega) (fun i hi => by rw [told0 i hi]; omega)).mono ?_
  rintro en w2 ⟨v, rfl, hps, hO2, vm, vf, vst, vfi, vdr, vbr, vd, vN, vS, vn, vnow, vsafe, vps, vP, vfu, vlf, voff, vnp, vT, vfl, hkb⟩
  rw [fold0] at vst
  have hv : PV0 v := ⟨vm, vf, vst, vfi, vdr, vbr, vn, vnow, vsafe, vps, vP, vfu, vlf, voff, vnp, vT, vfl⟩
  have HV := Aside0.mk hv
  have HPS := Aside0.mk hps
  have HO2 := Aside0.mk (below_step HO.out hO2)
  have HVD := Aside0.mk vd
  have HKB : Aside0 (∀ k, PF v k → w.heap.size ≤ k) := ⟨fun k hk => by
    have hz := HZ.out
    have := HO.out.size
    rcases hk with hk | hk | hk | hk
    · have := hkb k (Or.inl hk); omega
    · have := hkb k (Or.inr (Or.inl hk)); omega
    · rw [vd, vN, vS, vP] at hk
      rcases hk with hk | hk | hk | hk
      · omega
      · omega
      · omega
      · cases hk
    · have := hkb k (Or.inr (Or.inr hk)); omega⟩
  clear hv hps hO2 vm vf vst vfi vdr vbr vd vN vS vn vnow vsafe vps vP vfu vlf voff vnp vT vfl hkb
  go_wp2_with fail
  exact bodyPost_ret (v := .tuple #[.pointer (some ⟨g, 0, none⟩), .pointer (some ⟨v.p, 0, none⟩), .bool true]) (by simp [results, Try.results21, go_sem]) rfl ⟨v, by rw [HVD.out], HPS.out, HV.out, HO2.out, HKB.out⟩
def al2 : List UInt8 := lay (List.replicate 3840 0) ((1 + (2 + 0)) * 256) (blkL [5] 256)
def alp2 : List (Nat × Nat × List UInt8) := [] ++ pcs (1 + (2 + 0)) (blkL [5] 256) 4
def als3 : List UInt8 := safeL (List.replicate 3840 0) alp2
def al3 : List UInt8 := nowL als3 al2 alp2
def al4 : List UInt8 := lay al3 ((1 + ((0 + 1 : Int) % 2).toNat) * 256) (headL (0 + 1) ((0 : Nat) : Int) 2)
def alp4 : List (Nat × Nat × List UInt8) := [] ++ pcs (1 + ((0 + 1 : Int) % 2).toNat) (headL (0 + 1) ((0 : Nat) : Int) 2) 4
def al5 : List UInt8 := nowL (safeL als3 alp4) al4 alp4
theorem al5_1 : toldN (nthB al5 1) 8 = 0 := by kernel_rfl
theorem al5_2 : toldN (nthB al5 2) 8 = 1 := by kernel_rfl
theorem al5_fold : foldO al5 1 12 2 = (1, 0, 2) := by kernel_rfl
theorem pop0 : (popL (freeL (List.replicate 12 false) 12) 11).getD 11 0 = 0 := by kernel_rfl
theorem only0 : onlyL (List.replicate 12 false) [0] = some ((List.replicate 12 false).set 0 true) := by kernel_rfl
theorem free11 : (freeL ((List.replicate 12 false).set 0 true) 12).length = 11 := by kernel_rfl
end
end Go.Proofs.Ytgkibjcnehdmbaa.G
