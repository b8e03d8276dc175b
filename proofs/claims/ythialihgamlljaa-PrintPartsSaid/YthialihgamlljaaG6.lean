-- laid by a program of this session's (wip/tools/myprint.py) over the translation
import Derived.Test.YthialihgamlljaaG0
import Derived.Test.YthialihgamlljaaG3
import Derived.Test.YthialihgamlljaaG5
namespace Go.Proofs.Ythialihgamlljaa.G
open Go.RowKit Go.Proofs.YthialihgamlljaaW.PrintWords Go.Proofs.YthialihgamlljaaW.PrintLast Go.Proofs.YthialihgamlljaaW.PrintMore
attribute [local go_sem] max2_int min2_int max_two min_two max_three min_three max_four min_four   -- for this text's walks alone
set_option linter.unusedVariables false
set_option linter.unusedSimpArgs false

/-! HAND print_Fragment: function 16 -/
/-- The attributes of a tag, written. -/
def print_Fragment.attrs : List S45 → Option ByteArray
  | [] => some (⟨#[]⟩ : ByteArray)
  | a :: r => (print_Escape.f a.f1 true).bind fun e => (print_Fragment.attrs r).bind fun t => some ((⟨#[32]⟩ : ByteArray) ++ a.f0 ++ (⟨#[61, 34]⟩ : ByteArray) ++ e ++ (⟨#[34]⟩ : ByteArray) ++ t)
/-- A node, written; 'sub': how lists within it are. -/
def print_Fragment.one (sub : Bool → List S43 → Option ByteArray) (k : Nat) (raw : Bool) (n : S43) : Option ByteArray :=
  if n.f0 = 2 then (if raw = true then some n.f4 else print_Escape.f n.f4 false)
  else if n.f0 = 3 then some ((⟨#[60, 33, 45, 45]⟩ : ByteArray) ++ n.f4 ++ (⟨#[45, 45, 62]⟩ : ByteArray))
  else if n.f0 = 1 then
    (print_Fragment.attrs n.f3).bind fun t =>
      if n.f1 = 0 then
        (kind_Is.f k 1 n.f2).bind fun v =>
          if v = true then some ((⟨#[60]⟩ : ByteArray) ++ n.f2 ++ t ++ (⟨#[62]⟩ : ByteArray))
          else (kind_Is.f k 2 n.f2).bind fun rw => (sub (rw || n.f2.toList == ([112, 108, 97, 105, 110, 116, 101, 120, 116] : List UInt8)) n.f5).bind fun u =>
            some ((⟨#[60]⟩ : ByteArray) ++ n.f2 ++ t ++ (⟨#[62]⟩ : ByteArray) ++ u ++ ((⟨#[60, 47]⟩ : ByteArray) ++ n.f2 ++ (⟨#[62]⟩ : ByteArray)))
      else (sub false n.f5).bind fun u => some ((⟨#[60]⟩ : ByteArray) ++ n.f2 ++ t ++ (⟨#[62]⟩ : ByteArray) ++ u ++ ((⟨#[60, 47]⟩ : ByteArray) ++ n.f2 ++ (⟨#[62]⟩ : ByteArray)))
  else some (⟨#[]⟩ : ByteArray)
def print_Fragment.nodes : Nat → Bool → List S43 → Option ByteArray
  | 0, _, _ => none
  | _ + 1, _, [] => some (⟨#[]⟩ : ByteArray)
  | k + 1, raw, n :: r => if r.length ≤ 1000000000000 then (print_Fragment.one (print_Fragment.nodes k) k raw n).bind fun a => (print_Fragment.nodes k raw r).bind fun b => some (a ++ b) else none
def print_Fragment.f (k : Nat) (l0 : List S43) : Option ByteArray := (print_Fragment.nodes k false l0).bind fun r => if r.size ≤ 1000000000000 then some r else none
theorem print_Fragment.one_mono {s s' : Bool → List S43 → Option ByteArray} (hs : ∀ b l, LeO (s b l) (s' b l)) (k : Nat) (raw : Bool) (n : S43) : LeO (print_Fragment.one s k raw n) (print_Fragment.one s' (k + 1) raw n) := by
  unfold print_Fragment.one
  repeat' first
    | (with_reducible exact hs _ _)
    | (with_reducible exact kind_Is.mono _ _ _)
    | (with_reducible exact LeO.refl _)
    | (with_reducible refine LeO.ite ?_ ?_)
    | (with_reducible refine LeO.bind ?_ (fun _ => ?_))
theorem print_Fragment.nodes_mono : ∀ k raw l, LeO (print_Fragment.nodes k raw l) (print_Fragment.nodes (k + 1) raw l)
  | 0, _, _ => LeO.none _
  | k + 1, raw, [] => by simp only [print_Fragment.nodes]; exact LeO.refl _
  | k + 1, raw, n :: r => by
    simp only [print_Fragment.nodes]
    exact LeO.ite (LeO.bind (print_Fragment.one_mono (fun b l => print_Fragment.nodes_mono k b l) k raw n) (fun _ => LeO.bind (print_Fragment.nodes_mono k raw r) (fun _ => LeO.refl _))) (LeO.none _)
theorem print_Fragment.mono (a0 : List S43) (k : Nat) : LeO (print_Fragment.f k a0) (print_Fragment.f (k + 1) a0) :=
  LeO.bind (print_Fragment.nodes_mono k false a0) (fun _ => LeO.refl _)

/-- What a method has written into the printer at block g. -/
def print_Fragment.Pr (B g : Nat) (raw : Bool) (out : ByteArray) (w w' : World) : Prop :=
  BX.BX 52 [.bool raw] B g (Lib.byteCells out.data.toList) w' ∧ Below B w w' ∧ Lib.OthersKept 5 (some g) w w'
theorem print_Fragment.fits (raw : Bool) : BX.Fits 52 [.bool raw] := ⟨by kernel_rfl, by decide⟩
theorem print_Fragment.cells (a b : ByteArray) : Lib.byteCells a.data.toList ++ Lib.strCells b = Lib.byteCells (a ++ b).data.toList := by
  simp [Lib.byteCells, Lib.strCells]
theorem print_Fragment.ws (B g : Nat) (raw : Bool) (out s : ByteArray) (w : World) (h : BX.BX 52 [.bool raw] B g (Lib.byteCells out.data.toList) w) (hlen : out.size + s.size ≤ 1000000000000) (hB : B ≤ w.heap.size) :
    Calls Try.prog 32 #[.pointer (some ⟨g, 0, none⟩), .string s] w fun e w' => e = .returned (.tuple #[.int .i64 s.size, .nilIface]) ∧ print_Fragment.Pr B g raw (out ++ s) w w' := by
  refine (BX.writeString 52 [.bool raw] (print_Fragment.fits raw) B g _ s w h ?_ hB).mono ?_
  · rw [Lib.byteCells_length]; have : out.data.toList.length = out.size := by simp
    omega
  · rintro e w' ⟨rfl, hu, hb, ho⟩
    exact ⟨rfl, print_Fragment.cells out s ▸ hu.bx, hb, ho⟩
theorem print_Fragment.lt {B g : Nat} {raw : Bool} {bs : List Value} {w : World} (h : BX.BX 52 [.bool raw] B g bs w) : g < w.heap.size := by
  obtain ⟨_, p, v, _, hb, _, _⟩ := h
  exact BX.lt_of hb
theorem print_Fragment.rawCell {B g : Nat} {raw : Bool} {bs : List Value} {w : World} (h : BX.BX 52 [.bool raw] B g bs w) : w.cell? ⟨g, 2, none⟩ = some (.bool raw) := by
  obtain ⟨_, p, v, _, hb, _, _⟩ := h
  rw [Lib.cell_of_heap hb]; rfl
theorem print_Fragment.Pr.trans {B g : Nat} {raw raw' : Bool} {out out' : ByteArray} {w w' w'' : World} (h : print_Fragment.Pr B g raw out w w') (k : print_Fragment.Pr B g raw' out' w' w'') : print_Fragment.Pr B g raw' out' w w'' :=
  ⟨k.1, h.2.1.trans k.2.1, h.2.2.trans k.2.2⟩
theorem print_Fragment.Pr.alloc {B g : Nat} {raw : Bool} {bs : List Value} {w : World} (h : BX.BX 52 [.bool raw] B g bs w) (o : Obj) : BX.BX 52 [.bool raw] B g bs (w.alloc o) :=
  h.later ((Below.refl w.heap.size w).alloc (Nat.le_refl _) o)

theorem print_Fragment.Pr.block {B g : Nat} {raw : Bool} {out : ByteArray} {w w' : World} (h : print_Fragment.Pr B g raw out w w') {nb : Nat} {cs : Array Value} {T : TypeId} {fz : Nat × Nat} (hb : w.heap[nb]? = some (.cells cs T fz)) (hT : T ≠ 5) (hne : nb ≠ g) : w'.heap[nb]? = some (.cells cs T fz) :=
  h.2.2 nb _ hb (fun e => hne (Option.some.inj e)) (fun c fz' e => hT (by cases e; rfl))

theorem print_Fragment.bx_drew {B g : Nat} {raw : Bool} {bs : List Value} {w : World} (h : BX.BX 52 [.bool raw] B g bs w) : BX.BX 52 [.bool raw] B g bs w.drew := h
theorem print_Fragment.Pr.boxed {B g : Nat} {raw : Bool} {out : ByteArray} {w w1 : World} {o : Obj} (hp : print_Fragment.Pr B g raw out (w.alloc o).drew w1) (hB : B ≤ w.heap.size) : print_Fragment.Pr B g raw out w w1 :=
  ⟨hp.1, (Below.drew ((Below.refl B w).alloc hB o)).trans hp.2.1, (((Lib.OthersKept.refl 5 (some g) w).alloc o).drew).trans hp.2.2⟩
theorem print_Fragment.Pr.drewn {B g : Nat} {raw : Bool} {out : ByteArray} {w w1 : World} (hp : print_Fragment.Pr B g raw out w.drew w1) : print_Fragment.Pr B g raw out w w1 := ⟨hp.1, (Below.drew (Below.refl B w)).trans hp.2.1, (Lib.OthersKept.refl 5 (some g) w).drew.trans hp.2.2⟩
theorem print_Fragment.Pr.later {B g : Nat} {raw : Bool} {out : ByteArray} {w w1 w2 : World} (hb : Below w.heap.size w w1) (hB : B ≤ w.heap.size) (hp : print_Fragment.Pr B g raw out w1 w2) : print_Fragment.Pr B g raw out w w2 :=
  ⟨hp.1, (hb.mono hB).trans hp.2.1, Lib.OthersKept.trans (fun k o hk _ _ => (hb.block k (Array.getElem?_eq_some_iff.1 hk).1).trans hk) hp.2.2⟩

/-- A node, as a value. -/
def print_Fragment.cellsOf (n : S43) (A3 : Option Addr) (c3 : Nat) (A5 : Option Addr) (c5 : Nat) : Array Value := #[.int .i64 n.f0, .int .i64 n.f1, .string n.f2, .slice A3 n.f3.length c3, .string n.f4, .slice A5 n.f5.length c5]
theorem print_Fragment.boxCell {B g : Nat} {raw : Bool} {out : ByteArray} {w w1 : World} {cs : Array Value} (hp : print_Fragment.Pr B g raw out (w.alloc (.cells cs 43)).drew w1) (hg : g < w.heap.size) (j : Nat) : w1.cell? ⟨w.heap.size, j, none⟩ = cs[j]? :=
  Lib.cell_of_heap (hp.block (nb := w.heap.size) (cs := cs) (T := 43) (fz := (0, 0)) (heap_alloc_last w _) (by decide) (by omega)) j

set_option maxHeartbeats 4000000 in
set_option maxRecDepth 100000 in
theorem print_Fragment.text_raw (B g : Nat) (out : ByteArray) (n : S43) (A3 : Option Addr) (c3 : Nat) (A5 : Option Addr) (c5 : Nat) (w : World) (h : BX.BX 52 [.bool true] B g (Lib.byteCells out.data.toList) w) (hB : B ≤ w.heap.size) (hs : out.size + n.f4.size ≤ 1000000000000) :
    Calls Try.prog 62 #[.pointer (some ⟨g, 0, none⟩), .agg #[.int .i64 n.f0, .int .i64 n.f1, .string n.f2, .slice A3 n.f3.length c3, .string n.f4, .slice A5 n.f5.length c5]] w fun e w' => e = .returned (.tuple #[]) ∧ print_Fragment.Pr B g true (out ++ n.f4) w w' := by
  have hg := print_Fragment.lt h
  have c2 := print_Fragment.rawCell h
  have HX := Aside0.mk (print_Fragment.bx_drew (print_Fragment.Pr.alloc h (.cells #[.int .i64 n.f0, .int .i64 n.f1, .string n.f2, .slice A3 n.f3.length c3, .string n.f4, .slice A5 n.f5.length c5] 43)))
  have ea := World.new_ne w ⟨g, 2, none⟩ c2
  have HS := Aside0.mk hs
  have HB := Aside0.mk hB
  have HBW : Aside0 (B ≤ (w.alloc (.cells #[.int .i64 n.f0, .int .i64 n.f1, .string n.f2, .slice A3 n.f3.length c3, .string n.f4, .slice A5 n.f5.length c5] 43)).drew.heap.size) := ⟨by simp; omega⟩
  have HG := Aside0.mk hg
  clear h hs hB
  go_enter Try.func62, Try.ntmps62
  go_wp2
  go_region_held3 (fun w' => w'.cell? ⟨w.heap.size, 4, none⟩ = some (.string n.f4)) (first | exact hk | go_keep)
    (first | (go_at_call 32; refine (print_Fragment.ws B g true out n.f4 _ HX.out HS.out HBW.out).mono ?_; rintro e w1 ⟨rfl, hp⟩; have hk := print_Fragment.boxCell hp HG.out 4))
  all_goals (go_wp2; first | go_end0 | refine bodyPost_ret (v := .tuple #[]) (by simp [results, Try.results62, go_sem]) rfl ?_; exact ⟨rfl, hp.boxed HB.out⟩)

set_option maxHeartbeats 4000000 in
set_option maxRecDepth 100000 in
theorem print_Fragment.text_esc (B g : Nat) (out : ByteArray) (n : S43) (A3 : Option Addr) (c3 : Nat) (A5 : Option Addr) (c5 : Nat) (t : ByteArray) (ht : print_Escape.f n.f4 false = some t) (w : World) (h : BX.BX 52 [.bool false] B g (Lib.byteCells out.data.toList) w) (hB : B ≤ w.heap.size) (hs : out.size + t.size ≤ 1000000000000) :
    Calls Try.prog 62 #[.pointer (some ⟨g, 0, none⟩), .agg #[.int .i64 n.f0, .int .i64 n.f1, .string n.f2, .slice A3 n.f3.length c3, .string n.f4, .slice A5 n.f5.length c5]] w fun e w' => e = .returned (.tuple #[]) ∧ print_Fragment.Pr B g false (out ++ t) w w' := by
  have HT := Aside0.mk ht
  clear ht
  have hg := print_Fragment.lt h
  have c2 := print_Fragment.rawCell h
  have HX := Aside0.mk (print_Fragment.bx_drew (print_Fragment.Pr.alloc h (.cells #[.int .i64 n.f0, .int .i64 n.f1, .string n.f2, .slice A3 n.f3.length c3, .string n.f4, .slice A5 n.f5.length c5] 43)))
  have ea := World.new_ne w ⟨g, 2, none⟩ c2
  have HS := Aside0.mk hs
  have HB := Aside0.mk hB
  have HBW : Aside0 (B ≤ (w.alloc (.cells #[.int .i64 n.f0, .int .i64 n.f1, .string n.f2, .slice A3 n.f3.length c3, .string n.f4, .slice A5 n.f5.length c5] 43)).drew.heap.size) := ⟨by simp; omega⟩
  have HG := Aside0.mk hg
  clear h hs hB
  go_enter Try.func62, Try.ntmps62
  go_wp2
  go_region_held3 (fun w' => w'.cell? ⟨w.heap.size, 4, none⟩ = some (.string n.f4)) (first | exact hk | exact hk2 | go_keep)
    (first
      | (go_at_call 18; refine (print_Escape.calls n.f4 false t _ HT.out).mono ?_; rintro e w1 ⟨rfl, hb⟩; have hk := (hb.cell (p := ⟨w.heap.size, 4, none⟩) (by simp)).trans (show _ = some (.string n.f4) from Lib.cell_of_heap (heap_alloc_last w _) 4))
      | (go_at_call 32; refine (print_Fragment.ws B g false out t _ (HX.out.later hb) HS.out (Nat.le_trans HBW.out hb.size)).mono ?_; rintro e w2 ⟨rfl, hp⟩; have hk2 := print_Fragment.boxCell (print_Fragment.Pr.later hb HBW.out hp) HG.out 4))
  all_goals (go_wp2; go_end0; exact ⟨rfl, (print_Fragment.Pr.later hb HBW.out hp).boxed HB.out⟩)

set_option maxHeartbeats 4000000 in
set_option maxRecDepth 100000 in
theorem print_Fragment.comment_ok (B g : Nat) (out : ByteArray) (n : S43) (A3 : Option Addr) (c3 : Nat) (A5 : Option Addr) (c5 : Nat) (raw : Bool) (w : World) (h : BX.BX 52 [.bool raw] B g (Lib.byteCells out.data.toList) w) (hB : B ≤ w.heap.size) (hs : out.size + ((⟨#[60, 33, 45, 45]⟩ : ByteArray) ++ n.f4 ++ (⟨#[45, 45, 62]⟩ : ByteArray)).size ≤ 1000000000000) :
    Calls Try.prog 63 #[.pointer (some ⟨g, 0, none⟩), .agg #[.int .i64 n.f0, .int .i64 n.f1, .string n.f2, .slice A3 n.f3.length c3, .string n.f4, .slice A5 n.f5.length c5]] w fun e w' => e = .returned (.tuple #[]) ∧ print_Fragment.Pr B g raw (out ++ ((⟨#[60, 33, 45, 45]⟩ : ByteArray) ++ n.f4 ++ (⟨#[45, 45, 62]⟩ : ByteArray))) w w' := by
  have hs1 : n.f4.size ≤ 1000000000000 := by simp only [ByteArray.size_append] at hs; omega
  have l1 : (4 + n.f4.size ≤ 9223372036854775807) = True := eq_true (by omega)
  have l2 : (4 + n.f4.size + 3 ≤ 9223372036854775807) = True := eq_true (by omega)
  have l3 : (9223372036854775807 < 4 + n.f4.size) = False := eq_false (by omega)
  have l4 : (9223372036854775807 < 4 + n.f4.size + 3) = False := eq_false (by omega)
  clear hs1
  have hg := print_Fragment.lt h
  have c2 := print_Fragment.rawCell h
  have HX := Aside0.mk (print_Fragment.bx_drew (print_Fragment.Pr.alloc h (.cells #[.int .i64 n.f0, .int .i64 n.f1, .string n.f2, .slice A3 n.f3.length c3, .string n.f4, .slice A5 n.f5.length c5] 43)))
  have ea := World.new_ne w ⟨g, 2, none⟩ c2
  have HS := Aside0.mk hs
  have HB := Aside0.mk hB
  have HBW : Aside0 (B ≤ (w.alloc (.cells #[.int .i64 n.f0, .int .i64 n.f1, .string n.f2, .slice A3 n.f3.length c3, .string n.f4, .slice A5 n.f5.length c5] 43)).drew.heap.size) := ⟨by simp; omega⟩
  have HG := Aside0.mk hg
  clear h hs hB
  go_enter Try.func63, Try.ntmps63
  go_wp2
  go_region_held3 (fun w' => w'.cell? ⟨w.heap.size, 4, none⟩ = some (.string n.f4)) (first | exact hk | go_keep)
    (first | (go_at_call 32; refine (print_Fragment.ws B g raw out _ _ HX.out HS.out HBW.out).mono ?_; rintro e w1 ⟨rfl, hp⟩; have hk := print_Fragment.boxCell hp HG.out 4))
  all_goals (go_wp2; go_end0; exact ⟨rfl, hp.boxed HB.out⟩)

/-- What an element's walk holds: what was written, and the node's own block. -/
def print_Fragment.St (B g : Nat) (raw : Bool) (out : ByteArray) (cs : Array Value) (w wr : World) : Prop :=
  print_Fragment.Pr B g raw out w wr ∧ g < w.heap.size ∧ B ≤ w.heap.size ∧ wr.heap[w.heap.size]? = some (.cells cs 43 (0, 0))
theorem print_Fragment.St.step {B g : Nat} {raw raw' : Bool} {out out' : ByteArray} {cs : Array Value} {w wr w2 : World} (h : print_Fragment.St B g raw out cs w wr) (hp : print_Fragment.Pr B g raw' out' wr w2) : print_Fragment.St B g raw' out' cs w w2 :=
  ⟨h.1.trans hp, h.2.1, h.2.2.1, hp.block h.2.2.2 (by decide) (by have := h.2.1; omega)⟩
theorem print_Fragment.St.bx {B g : Nat} {raw : Bool} {out : ByteArray} {cs : Array Value} {w wr : World} (h : print_Fragment.St B g raw out cs w wr) : BX.BX 52 [.bool raw] B g (Lib.byteCells out.data.toList) wr := h.1.1
theorem print_Fragment.St.le {B g : Nat} {raw : Bool} {out : ByteArray} {cs : Array Value} {w wr : World} (h : print_Fragment.St B g raw out cs w wr) : B ≤ wr.heap.size := Nat.le_trans h.2.2.1 h.1.2.1.size
theorem print_Fragment.St.later {B g : Nat} {raw : Bool} {out : ByteArray} {cs : Array Value} {w wr w2 : World} (h : print_Fragment.St B g raw out cs w wr) (hb : Below wr.heap.size wr w2) : print_Fragment.St B g raw out cs w w2 :=
  h.step ⟨h.bx.later hb, hb.mono h.le, fun k o hk _ _ => (hb.block k (Array.getElem?_eq_some_iff.1 hk).1).trans hk⟩
theorem print_Fragment.St.alloc {B g : Nat} {raw : Bool} {out : ByteArray} {cs : Array Value} {w wr : World} (h : print_Fragment.St B g raw out cs w wr) (o : Obj) : print_Fragment.St B g raw out cs w (wr.alloc o) :=
  h.later ((Below.refl _ _).alloc (Nat.le_refl _) o)
theorem print_Fragment.St.drew {B g : Nat} {raw : Bool} {out : ByteArray} {cs : Array Value} {w wr : World} (h : print_Fragment.St B g raw out cs w wr) : print_Fragment.St B g raw out cs w wr.drew :=
  h.later (Below.drew (Below.refl _ _))
theorem print_Fragment.St.cell {B g : Nat} {raw : Bool} {out : ByteArray} {cs : Array Value} {w wr : World} (h : print_Fragment.St B g raw out cs w wr) (j : Nat) : wr.cell? ⟨w.heap.size, j, none⟩ = cs[j]? := Lib.cell_of_heap h.2.2.2 j
theorem print_Fragment.St.start {B g : Nat} {raw : Bool} {out : ByteArray} {cs : Array Value} {w : World} (h : BX.BX 52 [.bool raw] B g (Lib.byteCells out.data.toList) w) (hB : B ≤ w.heap.size) : print_Fragment.St B g raw out cs w (w.alloc (.cells cs 43)) :=
  ⟨⟨print_Fragment.Pr.alloc h _, (Below.refl B w).alloc hB _, (Lib.OthersKept.refl 5 (some g) w).alloc _⟩, print_Fragment.lt h, hB, heap_alloc_last w _⟩
theorem print_Fragment.setRaw {B g : Nat} {raw : Bool} {out : ByteArray} {w : World} (h : BX.BX 52 [.bool raw] B g (Lib.byteCells out.data.toList) w) (b : Bool) : print_Fragment.Pr B g b out w (w.setCell ⟨g, 2, none⟩ (.bool b)) := by
  obtain ⟨hB, p, v, hp, hb, ho, hn⟩ := h
  refine ⟨⟨hB, p, v, hp, ?_, ?_, hn⟩, (Below.refl B w).setCell (p := ⟨g, 2, none⟩) hB _, (Lib.OthersKept.refl 5 (some g) w).setCell ⟨g, 2, none⟩ rfl _⟩
  · simp [World.setCell, Array.getElem?_modify, hb]
  · exact ho.kept (row := some g) ⟨rfl, rfl, rfl, by simp [World.setCell], fun k _ hk => Below.heap_setCell _ _ _ _ (fun e => hk (by simp [e]))⟩ (Or.inr hn)
theorem print_Fragment.free {B g : Nat} {raw : Bool} {bs : List Value} {w : World} (h : BX.BX 52 [.bool raw] B g bs w) : w.frozen? ⟨g, 2, none⟩ = false := by
  obtain ⟨_, p, v, _, hb, _, _⟩ := h
  exact Lib.frozen_of_heap hb 2

/-- The attributes from one on: what is written already, and what is still to come. -/
def print_Fragment.Left (l : List S45) (i : Nat) (o whole : ByteArray) : Prop := i ≤ l.length ∧ ∃ r, print_Fragment.attrs (l.drop i) = some r ∧ o ++ r = whole
theorem print_Fragment.ba_assoc (a b c : ByteArray) : a ++ b ++ c = a ++ (b ++ c) := by
  apply Go.WideShapes.bytes_inj; simp
theorem print_Fragment.ba_nil (a : ByteArray) : a ++ (⟨#[]⟩ : ByteArray) = a := by
  apply Go.WideShapes.bytes_inj; simp
theorem print_Fragment.Left.next {l : List S45} {i : Nat} {o whole : ByteArray} (h : print_Fragment.Left l i o whole) (hi : i < l.length) :
    ∃ e, print_Escape.f (rd_T45 l i).f1 true = some e ∧ print_Fragment.Left l (i + 1) (o ++ ((⟨#[32]⟩ : ByteArray) ++ (rd_T45 l i).f0 ++ (⟨#[61, 34]⟩ : ByteArray) ++ e ++ (⟨#[34]⟩ : ByteArray))) whole := by
  obtain ⟨_, r, hr, hw⟩ := h
  have hx : rd_T45 l i = l[i] := by simp [rd_T45, List.getD, hi]
  rw [List.drop_eq_getElem_cons hi, print_Fragment.attrs, ← hx] at hr
  obtain ⟨e, he, hr⟩ := Option.bind_eq_some_iff.1 hr
  obtain ⟨t, ht, hr⟩ := Option.bind_eq_some_iff.1 hr
  obtain rfl := Option.some.inj hr
  exact ⟨e, he, hi, t, ht, by rw [← hw, print_Fragment.ba_assoc]⟩
theorem print_Fragment.Left.size {l : List S45} {i : Nat} {o whole : ByteArray} (h : print_Fragment.Left l i o whole) : o.size ≤ whole.size := by
  obtain ⟨_, r, _, hw⟩ := h
  rw [← hw, ByteArray.size_append]; omega
theorem print_Fragment.Left.done {l : List S45} {i : Nat} {o whole : ByteArray} (h : print_Fragment.Left l i o whole) (hi : ¬ i < l.length) : o = whole := by
  obtain ⟨h1, r, hr, hw⟩ := h
  rw [List.drop_of_length_le (by omega), print_Fragment.attrs] at hr
  obtain rfl := Option.some.inj hr
  rw [← hw, print_Fragment.ba_nil]

theorem print_Fragment.attrs_len : ∀ (l : List S45) (t : ByteArray), print_Fragment.attrs l = some t → l.length ≤ t.size
  | [], _, _ => Nat.zero_le _
  | a :: r, t, h => by
    rw [print_Fragment.attrs] at h
    obtain ⟨e, _, h⟩ := Option.bind_eq_some_iff.1 h
    obtain ⟨t2, h2, h⟩ := Option.bind_eq_some_iff.1 h
    obtain rfl := Option.some.inj h
    have := print_Fragment.attrs_len r t2 h2
    simp only [ByteArray.size_append, List.length_cons, show (⟨#[32]⟩ : ByteArray).size = 1 from rfl]
    omega

def print_Fragment.NodesOk (k : Nat) : Prop := ∀ (W0 : World) (raw : Bool) (l : List S43) (t : ByteArray) (A : Option Addr) (c g : Nat) (out : ByteArray) (w : World),
  print_Fragment.nodes k raw l = some t → Kd.C k43 W0 A l.length l → l.length ≤ c → Below W0.heap.size W0 w → BX.BX 52 [.bool raw] W0.heap.size g (Lib.byteCells out.data.toList) w → out.size + t.size ≤ 1000000000000 →
  Calls Try.prog 29 #[.pointer (some ⟨g, 0, none⟩), .slice A l.length c] w fun e w' => e = .returned (.tuple #[]) ∧ print_Fragment.Pr W0.heap.size g raw (out ++ t) w w'

set_option maxHeartbeats 8000000 in
set_option maxRecDepth 100000 in
theorem print_Fragment.element_ok (k : Nat) (ih : print_Fragment.NodesOk k) (W0 : World) (g : Nat) (raw : Bool) (out : ByteArray) (n : S43) (A3 : Option Addr) (c3 : Nat) (A5 : Option Addr) (c5 : Nat) (t : ByteArray) (hn : n.f0 = 1) (ht : print_Fragment.one (print_Fragment.nodes k) k raw n = some t) (w : World)
    (hr3 : Kd.C k45 W0 A3 n.f3.length n.f3) (hc3 : n.f3.length ≤ c3) (hr5 : Kd.C k43 W0 A5 n.f5.length n.f5) (hc5 : n.f5.length ≤ c5) (hb0 : Below W0.heap.size W0 w)
    (h : BX.BX 52 [.bool raw] W0.heap.size g (Lib.byteCells out.data.toList) w) (hs : out.size + t.size ≤ 1000000000000) :
    Calls Try.prog 64 #[.pointer (some ⟨g, 0, none⟩), .agg #[.int .i64 n.f0, .int .i64 n.f1, .string n.f2, .slice A3 n.f3.length c3, .string n.f4, .slice A5 n.f5.length c5]] w fun e w' => e = .returned (.tuple #[]) ∧ print_Fragment.Pr W0.heap.size g raw (out ++ t) w w' := by
  unfold print_Fragment.one at ht
  rw [if_neg (by omega), if_neg (by omega), if_pos hn] at ht
  obtain ⟨at1, hat, ht⟩ := Option.bind_eq_some_iff.1 ht
  have hsz : out.size + (1 + n.f2.size) + at1.size + 1 ≤ out.size + t.size := by
    by_cases c : n.f1 = 0
    · rw [if_pos c] at ht
      obtain ⟨v, _, ht⟩ := Option.bind_eq_some_iff.1 ht
      cases v with
      | true =>
        rw [if_pos rfl] at ht
        obtain rfl := Option.some.inj ht
        simp only [ByteArray.size_append, show (⟨#[60]⟩ : ByteArray).size = 1 from rfl, show (⟨#[62]⟩ : ByteArray).size = 1 from rfl]; omega
      | false =>
        rw [if_neg Bool.false_ne_true] at ht
        obtain ⟨rw1, _, ht⟩ := Option.bind_eq_some_iff.1 ht
        obtain ⟨u, _, ht⟩ := Option.bind_eq_some_iff.1 ht
        obtain rfl := Option.some.inj ht
        simp only [ByteArray.size_append, show (⟨#[60]⟩ : ByteArray).size = 1 from rfl, show (⟨#[62]⟩ : ByteArray).size = 1 from rfl]; omega
    · rw [if_neg c] at ht
      obtain ⟨u, _, ht⟩ := Option.bind_eq_some_iff.1 ht
      obtain rfl := Option.some.inj ht
      simp only [ByteArray.size_append, show (⟨#[60]⟩ : ByteArray).size = 1 from rfl, show (⟨#[62]⟩ : ByteArray).size = 1 from rfl]; omega
  have hL : print_Fragment.Left n.f3 0 (out ++ ((⟨#[60]⟩ : ByteArray) ++ n.f2)) (out ++ ((⟨#[60]⟩ : ByteArray) ++ n.f2) ++ at1) := ⟨Nat.zero_le _, at1, hat, rfl⟩
  have hB : W0.heap.size ≤ w.heap.size := hb0.size
  have HST := Aside0.mk (print_Fragment.St.drew (print_Fragment.St.start (cs := #[.int .i64 n.f0, .int .i64 n.f1, .string n.f2, .slice A3 n.f3.length c3, .string n.f4, .slice A5 n.f5.length c5]) h hB))
  have hal := print_Fragment.attrs_len _ _ hat
  have HAL : Aside0 (n.f3.length ≤ 1000000000000) := ⟨by omega⟩
  have HL := Aside0.mk hL
  have HSZ := Aside0.mk hsz
  have HS := Aside0.mk hs
  have HT := Aside0.mk ht
  have HB0 := Aside0.mk hb0
  have HR3 := Aside0.mk hr3
  have HR5 := Aside0.mk hr5
  have HC5 := Aside0.mk hc5
  have HN := Aside0.mk hn
  have hl1 : 1 + n.f2.size ≤ 9223372036854775807 := by omega
  have l1 : (1 + n.f2.size ≤ 9223372036854775807) = True := eq_true hl1
  have l2 : (9223372036854775807 < 1 + n.f2.size) = False := eq_false (by omega)
  clear hal hL hsz hs ht hb0 hr3 hr5 hc5 h hB hat hl1 hn
  go_enter Try.func64, Try.ntmps64
  go_wp2
  go_region_held3 (fun w' => w'.cell? ⟨w.heap.size, 2, none⟩ = some (.string n.f2)) (first | exact hk | go_keep)
    (first | (go_at_call 32; refine (print_Fragment.ws W0.heap.size g raw out ((⟨#[60]⟩ : ByteArray) ++ n.f2) _ HST.out.bx (by have := HSZ.out; have := HS.out; simp only [ByteArray.size_append, show (⟨#[60]⟩ : ByteArray).size = 1 from rfl]; omega) HST.out.le).mono ?_; rintro e w1 ⟨rfl, hp⟩; have HS1 := Aside0.mk (HST.out.step hp); have hk := HS1.out.cell 2))
  clear hk hp
  have k3 := HS1.out.cell 3
  go_wp2
  go_loopg [18] n.f3.length (fun kq v18 wr => ∃ (i : Nat) (o : ByteArray), v18 = .int .i64 i ∧ Aside0 (kq + i = n.f3.length) ∧ Aside0 (print_Fragment.Left n.f3 i o (out ++ ((⟨#[60]⟩ : ByteArray) ++ n.f2) ++ at1)) ∧ Aside0 (print_Fragment.St W0.heap.size g raw o #[.int .i64 n.f0, .int .i64 n.f1, .string n.f2, .slice A3 n.f3.length c3, .string n.f4, .slice A5 n.f5.length c5] w wr))
  case atStart => exact ⟨0, _, rfl, ⟨rfl⟩, HL, HS1⟩
  case round =>
    clear HS1 HL k3
    obtain ⟨i, o, rfl, HK, HL, HS2⟩ := hrel
    by_cases hlt : i < n.f3.length
    · obtain ⟨e, he, hnext⟩ := HL.out.next hlt
      have hsz2 := hnext.size
      have hnl := hnext
      have HE := Aside0.mk he
      have HNX := Aside0.mk hnext
      have HLT := Aside0.mk hlt
      have hfit : o.size + ((⟨#[32]⟩ : ByteArray) ++ (rd_T45 n.f3 i).f0 ++ (⟨#[61, 34]⟩ : ByteArray) ++ e ++ (⟨#[34]⟩ : ByteArray)).size ≤ 1000000000000 := by
        have h1 := HSZ.out
        have h2 := HS.out
        rw [ByteArray.size_append] at hsz2
        simp only [ByteArray.size_append, show (⟨#[60]⟩ : ByteArray).size = 1 from rfl] at hsz2 h1 h2 ⊢
        omega
      have hfit2 : 1 + (rd_T45 n.f3 i).f0.size + 2 + e.size + 1 ≤ 1000000000000 := by
        simp only [ByteArray.size_append, show (⟨#[32]⟩ : ByteArray).size = 1 from rfl, show (⟨#[61, 34]⟩ : ByteArray).size = 2 from rfl, show (⟨#[34]⟩ : ByteArray).size = 1 from rfl] at hfit
        omega
      have m1 : (1 + (rd_T45 n.f3 i).f0.size ≤ 9223372036854775807) = True := eq_true (by omega)
      have m2 : (1 + (rd_T45 n.f3 i).f0.size + 2 ≤ 9223372036854775807) = True := eq_true (by omega)
      have m3 : (1 + (rd_T45 n.f3 i).f0.size + 2 + e.size ≤ 9223372036854775807) = True := eq_true (by omega)
      have m4 : (1 + (rd_T45 n.f3 i).f0.size + 2 + e.size + 1 ≤ 9223372036854775807) = True := eq_true (by omega)
      have n1 : (9223372036854775807 < 1 + (rd_T45 n.f3 i).f0.size) = False := eq_false (by omega)
      have n2 : (9223372036854775807 < 1 + (rd_T45 n.f3 i).f0.size + 2) = False := eq_false (by omega)
      have n3 : (9223372036854775807 < 1 + (rd_T45 n.f3 i).f0.size + 2 + e.size) = False := eq_false (by omega)
      have n4 : (9223372036854775807 < 1 + (rd_T45 n.f3 i).f0.size + 2 + e.size + 1) = False := eq_false (by omega)
      have HF := Aside0.mk hfit
      obtain ⟨ad, ead, hx0, hx1⟩ := at_T45 HR3.out (i : Int) (by omega) (by omega)
      have hbw := HB0.out.trans HS2.out.1.2.1
      replace hx0 := (hbw.cell (World.block_lt_of_cell? W0 _ hx0)).trans hx0
      replace hx1 := (hbw.cell (World.block_lt_of_cell? W0 _ hx1)).trans hx1
      simp only [Int.toNat_natCast] at hx0 hx1
      subst ead
      have p0 : (0 : Int) ≤ (i : Int) := by omega
      have p1 : (i : Int) < (n.f3.length : Int) := by omega
      have p2 : (i : Int) + 1 ≤ 1000000000001 := by have := HAL.out; omega
      have HS3 := Aside0.mk (HS2.out.alloc (.cells #[.string (rd_T45 n.f3 i).f0, .string (rd_T45 n.f3 i).f1] 45)).drew
      clear he hnext hsz2 hnl hfit hfit2 hbw HL
      go_wp2
      go_region_held3 (fun w' => w'.cell? ⟨wr.heap.size, 0, none⟩ = some (.string (rd_T45 n.f3 i).f0) ∧ w'.cell? ⟨wr.heap.size, 1, none⟩ = some (.string (rd_T45 n.f3 i).f1)) (first | exact ⟨hk0, hk1⟩ | exact ⟨hj0, hj1⟩ | go_keep)
        (first
          | (go_at_call 18; refine (print_Escape.calls _ true e _ HE.out).mono ?_; rintro e9 w1 ⟨rfl, hb⟩; have HS4 := Aside0.mk (HS3.out.later hb); have hk0 := (hb.cell (p := ⟨wr.heap.size, 0, none⟩) (by simp)).trans (show _ = some (.string (rd_T45 n.f3 i).f0) from Lib.cell_of_heap (heap_alloc_last wr _) 0); have hk1 := (hb.cell (p := ⟨wr.heap.size, 1, none⟩) (by simp)).trans (show _ = some (.string (rd_T45 n.f3 i).f1) from Lib.cell_of_heap (heap_alloc_last wr _) 1); have hbk := (hb.block wr.heap.size (by simp)).trans (heap_alloc_last wr _))
          | (go_at_call 32; refine (print_Fragment.ws W0.heap.size g raw o _ _ HS4.out.bx HF.out HS4.out.le).mono ?_; rintro e9 w2 ⟨rfl, hp⟩; have HS5 := Aside0.mk (HS4.out.step hp); have hgn : wr.heap.size ≠ g := (by have := HS2.out.2.1; have := HS2.out.1.2.1.size; omega); have hj0 := Lib.cell_of_heap (hp.block hbk (by decide) hgn) 0; have hj1 := Lib.cell_of_heap (hp.block hbk (by decide) hgn) 1))
      clear hj0 hj1 hk0 hk1 hbk hp hb
      go_wp2
      go_roundg (n.f3.length - (i + 1))
      case measure => have := HK.out; have := HLT.out; omega
      case rel => exact ⟨i + 1, _, by go_num, ⟨by have := HK.out; have := HLT.out; omega⟩, HNX, HS5⟩
    · have hdone := HL.out.done hlt
      subst hdone
      have hlt' : ¬ (i : Int) < (n.f3.length : Int) := by omega
      clear HL hlt HK
      have hw1 : (out ++ ((⟨#[60]⟩ : ByteArray) ++ n.f2) ++ at1).size + (⟨#[62]⟩ : ByteArray).size ≤ 1000000000000 := by
        have h1 := HSZ.out
        have h2 := HS.out
        simp only [ByteArray.size_append, show (⟨#[60]⟩ : ByteArray).size = 1 from rfl, show (⟨#[62]⟩ : ByteArray).size = 1 from rfl]
        omega
      have HSW := Aside0.mk hw1
      clear hw1
      have ht := HT.out
      by_cases c : n.f1 = 0
      · rw [if_pos c] at ht
        obtain ⟨v, hv, ht⟩ := Option.bind_eq_some_iff.1 ht
        have HV := Aside0.mk hv
        have c1 : (n.f1 == 0) = true := beq_iff_eq.mpr c
        clear hv c
        cases v with
        | true =>
          rw [if_pos rfl] at ht
          have ht2 := Option.some.inj ht
          have HE := Aside0.mk ht2
          clear ht ht2 HT
          go_wp2_with (first
            | (go_at_call 32; refine (print_Fragment.ws W0.heap.size g raw (out ++ ((⟨#[60]⟩ : ByteArray) ++ n.f2) ++ at1) (⟨#[62]⟩ : ByteArray) _ HS2.out.bx HSW.out HS2.out.le).mono ?_; rintro e9 w1 ⟨rfl, hp⟩; have HS3 := Aside0.mk (HS2.out.step hp); have k1 := (show _ = some (Value.int .i64 n.f1) from HS3.out.cell 1); have k2 := (show _ = some (Value.string n.f2) from HS3.out.cell 2); have kr := print_Fragment.rawCell HS3.out.bx; have kf := print_Fragment.free HS3.out.bx; clear hp)
            | (go_at_call 71; refine (kind_Is.calls k 1 n.f2 true _ HV.out).mono ?_; rintro e9 w4 ⟨rfl, hb⟩; have HS4 := Aside0.mk (HS3.out.later hb); have k2 := (show _ = some (Value.string n.f2) from HS4.out.cell 2); have kr := print_Fragment.rawCell HS4.out.bx; have kf := print_Fragment.free HS4.out.bx; clear hb))
          refine bodyPost_ret (v := .tuple #[]) (by simp [results, Try.results64, go_sem]) rfl ?_
          exact ⟨rfl, by rw [← HE.out]; have := HS4.out.1; simpa only [print_Fragment.ba_assoc] using this⟩
        | false =>
          rw [if_neg Bool.false_ne_true] at ht
          obtain ⟨rw1, hrw, ht⟩ := Option.bind_eq_some_iff.1 ht
          obtain ⟨u, hu, ht⟩ := Option.bind_eq_some_iff.1 ht
          have ht2 := Option.some.inj ht
          have HE := Aside0.mk ht2
          have HRW := Aside0.mk hrw
          have HU := Aside0.mk hu
          clear ht ht2 hrw hu HT
          have hsu : ((out ++ ((⟨#[60]⟩ : ByteArray) ++ n.f2) ++ at1) ++ (⟨#[62]⟩ : ByteArray)).size + u.size ≤ 1000000000000 ∧ ((out ++ ((⟨#[60]⟩ : ByteArray) ++ n.f2) ++ at1) ++ (⟨#[62]⟩ : ByteArray) ++ u).size + ((⟨#[60, 47]⟩ : ByteArray) ++ n.f2 ++ (⟨#[62]⟩ : ByteArray)).size ≤ 1000000000000 ∧ 2 + n.f2.size + 1 ≤ 1000000000000 := by
            have h2 := HS.out
            rw [← HE.out] at h2
            simp only [ByteArray.size_append, show (⟨#[60]⟩ : ByteArray).size = 1 from rfl, show (⟨#[62]⟩ : ByteArray).size = 1 from rfl, show (⟨#[60, 47]⟩ : ByteArray).size = 2 from rfl] at h2 ⊢
            omega
          have HSU := Aside0.mk hsu.1
          have HSE := Aside0.mk hsu.2.1
          have e1 : (2 + n.f2.size ≤ 9223372036854775807) = True := eq_true (by omega)
          have e2 : (2 + n.f2.size + 1 ≤ 9223372036854775807) = True := eq_true (by omega)
          have e3 : (9223372036854775807 < 2 + n.f2.size) = False := eq_false (by omega)
          have e4 : (9223372036854775807 < 2 + n.f2.size + 1) = False := eq_false (by omega)
          clear hsu
          cases rw1 with
          | true =>
            simp only [Bool.true_or] at HU
            go_upto_region 12 with (first
              | (go_at_call 32; refine (print_Fragment.ws W0.heap.size g raw (out ++ ((⟨#[60]⟩ : ByteArray) ++ n.f2) ++ at1) (⟨#[62]⟩ : ByteArray) _ HS2.out.bx HSW.out HS2.out.le).mono ?_; rintro e9 w1 ⟨rfl, hp⟩; have HS3 := Aside0.mk (HS2.out.step hp); have k1 := (show _ = some (Value.int .i64 n.f1) from HS3.out.cell 1); have k2 := (show _ = some (Value.string n.f2) from HS3.out.cell 2); have kr := print_Fragment.rawCell HS3.out.bx; have kf := print_Fragment.free HS3.out.bx; clear hp)
              | (go_at_call 71; (with_reducible refine (kind_Is.calls k 1 n.f2 false _ HV.out).mono ?_); rintro e9 w4 ⟨rfl, hb⟩; have HS4 := Aside0.mk (HS3.out.later hb); have k2 := (show _ = some (Value.string n.f2) from HS4.out.cell 2); have kr := print_Fragment.rawCell HS4.out.bx; have kf := print_Fragment.free HS4.out.bx; clear hb)
              | (go_at_call 71; (with_reducible refine (kind_Is.calls k 2 n.f2 true _ HRW.out).mono ?_); rintro e9 w5 ⟨rfl, hb⟩; have HS5 := Aside0.mk (HS4.out.later hb); have k2 := (show _ = some (Value.string n.f2) from HS5.out.cell 2); have kr := print_Fragment.rawCell HS5.out.bx; have kf := print_Fragment.free HS5.out.bx; clear hb))
            have HS6 := Aside0.mk (HS5.out.step (print_Fragment.setRaw HS5.out.bx true))
            clear kf kr
            have k5 := (show _ = some (Value.slice A5 n.f5.length c5) from HS6.out.cell 5)
            go_wp2_with (first | (go_at_call 29; refine (ih W0 true n.f5 u A5 c5 g ((out ++ ((⟨#[60]⟩ : ByteArray) ++ n.f2) ++ at1) ++ (⟨#[62]⟩ : ByteArray)) _ HU.out HR5.out HC5.out (HB0.out.trans HS6.out.1.2.1) HS6.out.bx HSU.out).mono ?_; rintro e9 w7 ⟨rfl, hp⟩; have HS7 := Aside0.mk (HS6.out.step hp); have kf := print_Fragment.free HS7.out.bx; have kr := print_Fragment.rawCell HS7.out.bx; clear hp))
            clear kf kr k5 k2
            have HS8 := Aside0.mk (HS7.out.step (print_Fragment.setRaw HS7.out.bx raw))
            have HS9 := Aside0.mk HS8.out.drew
            have k2 := (show _ = some (Value.string n.f2) from HS8.out.cell 2)
            go_region_held3 (fun w' => w'.cell? ⟨w.heap.size, 2, none⟩ = some (.string n.f2)) (first | exact hk | go_keep)
              (first | (go_at_call 32; refine (print_Fragment.ws W0.heap.size g raw ((out ++ ((⟨#[60]⟩ : ByteArray) ++ n.f2) ++ at1) ++ (⟨#[62]⟩ : ByteArray) ++ u) ((⟨#[60, 47]⟩ : ByteArray) ++ n.f2 ++ (⟨#[62]⟩ : ByteArray)) _ HS9.out.bx HSE.out HS9.out.le).mono ?_; rintro e9 w8 ⟨rfl, hp⟩; have HS10 := Aside0.mk (HS9.out.step hp); have hk := HS10.out.cell 2))
            clear hk hp
            go_wp2
            go_end0
            exact ⟨rfl, by rw [← HE.out]; have := HS10.out.1; simpa only [print_Fragment.ba_assoc] using this⟩
          | false =>
            simp only [Bool.false_or] at HU
            obtain ⟨b, hpl⟩ : ∃ b, (n.f2.toList == ([112, 108, 97, 105, 110, 116, 101, 120, 116] : List UInt8)) = b := ⟨_, rfl⟩
            rw [hpl] at HU
            go_upto_region 12 with (first
              | (go_at_call 32; refine (print_Fragment.ws W0.heap.size g raw (out ++ ((⟨#[60]⟩ : ByteArray) ++ n.f2) ++ at1) (⟨#[62]⟩ : ByteArray) _ HS2.out.bx HSW.out HS2.out.le).mono ?_; rintro e9 w1 ⟨rfl, hp⟩; have HS3 := Aside0.mk (HS2.out.step hp); have k1 := (show _ = some (Value.int .i64 n.f1) from HS3.out.cell 1); have k2 := (show _ = some (Value.string n.f2) from HS3.out.cell 2); have kr := print_Fragment.rawCell HS3.out.bx; have kf := print_Fragment.free HS3.out.bx; clear hp)
              | (go_at_call 71; (with_reducible refine (kind_Is.calls k 1 n.f2 false _ HV.out).mono ?_); rintro e9 w4 ⟨rfl, hb⟩; have HS4 := Aside0.mk (HS3.out.later hb); have k2 := (show _ = some (Value.string n.f2) from HS4.out.cell 2); have kr := print_Fragment.rawCell HS4.out.bx; have kf := print_Fragment.free HS4.out.bx; clear hb)
              | (go_at_call 71; (with_reducible refine (kind_Is.calls k 2 n.f2 false _ HRW.out).mono ?_); rintro e9 w5 ⟨rfl, hb⟩; have HS5 := Aside0.mk (HS4.out.later hb); have k2 := (show _ = some (Value.string n.f2) from HS5.out.cell 2); have kr := print_Fragment.rawCell HS5.out.bx; have kf := print_Fragment.free HS5.out.bx; clear hb))
            have HS6 := Aside0.mk (HS5.out.step (print_Fragment.setRaw HS5.out.bx b))
            clear kf kr
            have k5 := (show _ = some (Value.slice A5 n.f5.length c5) from HS6.out.cell 5)
            go_wp2_with (first | (go_at_call 29; refine (ih W0 b n.f5 u A5 c5 g ((out ++ ((⟨#[60]⟩ : ByteArray) ++ n.f2) ++ at1) ++ (⟨#[62]⟩ : ByteArray)) _ HU.out HR5.out HC5.out (HB0.out.trans HS6.out.1.2.1) HS6.out.bx HSU.out).mono ?_; rintro e9 w7 ⟨rfl, hp⟩; have HS7 := Aside0.mk (HS6.out.step hp); have kf := print_Fragment.free HS7.out.bx; have kr := print_Fragment.rawCell HS7.out.bx; clear hp))
            clear kf kr k5 k2
            have HS8 := Aside0.mk (HS7.out.step (print_Fragment.setRaw HS7.out.bx raw))
            have HS9 := Aside0.mk HS8.out.drew
            have k2 := (show _ = some (Value.string n.f2) from HS8.out.cell 2)
            go_region_held3 (fun w' => w'.cell? ⟨w.heap.size, 2, none⟩ = some (.string n.f2)) (first | exact hk | go_keep)
              (first | (go_at_call 32; refine (print_Fragment.ws W0.heap.size g raw ((out ++ ((⟨#[60]⟩ : ByteArray) ++ n.f2) ++ at1) ++ (⟨#[62]⟩ : ByteArray) ++ u) ((⟨#[60, 47]⟩ : ByteArray) ++ n.f2 ++ (⟨#[62]⟩ : ByteArray)) _ HS9.out.bx HSE.out HS9.out.le).mono ?_; rintro e9 w8 ⟨rfl, hp⟩; have HS10 := Aside0.mk (HS9.out.step hp); have hk := HS10.out.cell 2))
            clear hk hp
            go_wp2
            go_end0
            exact ⟨rfl, by rw [← HE.out]; have := HS10.out.1; simpa only [print_Fragment.ba_assoc] using this⟩
      · rw [if_neg c] at ht
        obtain ⟨u, hu, ht⟩ := Option.bind_eq_some_iff.1 ht
        have ht2 := Option.some.inj ht
        have HE := Aside0.mk ht2
        have HU := Aside0.mk hu
        have c1 : (n.f1 == 0) = false := beq_eq_false_iff_ne.mpr c
        clear ht ht2 hu HT c
        have hsu : ((out ++ ((⟨#[60]⟩ : ByteArray) ++ n.f2) ++ at1) ++ (⟨#[62]⟩ : ByteArray)).size + u.size ≤ 1000000000000 ∧ ((out ++ ((⟨#[60]⟩ : ByteArray) ++ n.f2) ++ at1) ++ (⟨#[62]⟩ : ByteArray) ++ u).size + ((⟨#[60, 47]⟩ : ByteArray) ++ n.f2 ++ (⟨#[62]⟩ : ByteArray)).size ≤ 1000000000000 ∧ 2 + n.f2.size + 1 ≤ 1000000000000 := by
          have h2 := HS.out
          rw [← HE.out] at h2
          simp only [ByteArray.size_append, show (⟨#[60]⟩ : ByteArray).size = 1 from rfl, show (⟨#[62]⟩ : ByteArray).size = 1 from rfl, show (⟨#[60, 47]⟩ : ByteArray).size = 2 from rfl] at h2 ⊢
          omega
        have HSU := Aside0.mk hsu.1
        have HSE := Aside0.mk hsu.2.1
        have e1 : (2 + n.f2.size ≤ 9223372036854775807) = True := eq_true (by omega)
        have e2 : (2 + n.f2.size + 1 ≤ 9223372036854775807) = True := eq_true (by omega)
        have e3 : (9223372036854775807 < 2 + n.f2.size) = False := eq_false (by omega)
        have e4 : (9223372036854775807 < 2 + n.f2.size + 1) = False := eq_false (by omega)
        clear hsu
        go_upto_region 12 with (first
          | (go_at_call 32; refine (print_Fragment.ws W0.heap.size g raw (out ++ ((⟨#[60]⟩ : ByteArray) ++ n.f2) ++ at1) (⟨#[62]⟩ : ByteArray) _ HS2.out.bx HSW.out HS2.out.le).mono ?_; rintro e9 w1 ⟨rfl, hp⟩; have HS3 := Aside0.mk (HS2.out.step hp); have k1 := (show _ = some (Value.int .i64 n.f1) from HS3.out.cell 1); have k2 := (show _ = some (Value.string n.f2) from HS3.out.cell 2); have kr := print_Fragment.rawCell HS3.out.bx; have kf := print_Fragment.free HS3.out.bx; clear hp))
        have HS6 := Aside0.mk (HS3.out.step (print_Fragment.setRaw HS3.out.bx false))
        clear kf kr
        have k5 := (show _ = some (Value.slice A5 n.f5.length c5) from HS6.out.cell 5)
        go_wp2_with (first | (go_at_call 29; refine (ih W0 false n.f5 u A5 c5 g ((out ++ ((⟨#[60]⟩ : ByteArray) ++ n.f2) ++ at1) ++ (⟨#[62]⟩ : ByteArray)) _ HU.out HR5.out HC5.out (HB0.out.trans HS6.out.1.2.1) HS6.out.bx HSU.out).mono ?_; rintro e9 w7 ⟨rfl, hp⟩; have HS7 := Aside0.mk (HS6.out.step hp); have kf := print_Fragment.free HS7.out.bx; have kr := print_Fragment.rawCell HS7.out.bx; clear hp))
        clear kf kr k5 k2
        have HS8 := Aside0.mk (HS7.out.step (print_Fragment.setRaw HS7.out.bx raw))
        have HS9 := Aside0.mk HS8.out.drew
        have k2 := (show _ = some (Value.string n.f2) from HS8.out.cell 2)
        go_region_held3 (fun w' => w'.cell? ⟨w.heap.size, 2, none⟩ = some (.string n.f2)) (first | exact hk | go_keep)
          (first | (go_at_call 32; refine (print_Fragment.ws W0.heap.size g raw ((out ++ ((⟨#[60]⟩ : ByteArray) ++ n.f2) ++ at1) ++ (⟨#[62]⟩ : ByteArray) ++ u) ((⟨#[60, 47]⟩ : ByteArray) ++ n.f2 ++ (⟨#[62]⟩ : ByteArray)) _ HS9.out.bx HSE.out HS9.out.le).mono ?_; rintro e9 w8 ⟨rfl, hp⟩; have HS10 := Aside0.mk (HS9.out.step hp); have hk := HS10.out.cell 2))
        clear hk hp
        go_wp2
        go_end0
        exact ⟨rfl, by rw [← HE.out]; have := HS10.out.1; simpa only [print_Fragment.ba_assoc] using this⟩

set_option maxHeartbeats 4000000 in
set_option maxRecDepth 100000 in
theorem print_Fragment.nothing_ok (B g : Nat) (raw : Bool) (out : ByteArray) (n : S43) (A3 : Option Addr) (c3 : Nat) (A5 : Option Addr) (c5 : Nat) (w : World) (h : BX.BX 52 [.bool raw] B g (Lib.byteCells out.data.toList) w) (hB : B ≤ w.heap.size) :
    Calls Try.prog 65 #[.pointer (some ⟨g, 0, none⟩), .agg #[.int .i64 n.f0, .int .i64 n.f1, .string n.f2, .slice A3 n.f3.length c3, .string n.f4, .slice A5 n.f5.length c5]] w fun e w' => e = .returned (.tuple #[]) ∧ print_Fragment.Pr B g raw (out ++ (⟨#[]⟩ : ByteArray)) w w' := by
  have HP := Aside0.mk (print_Fragment.St.start (cs := #[.int .i64 n.f0, .int .i64 n.f1, .string n.f2, .slice A3 n.f3.length c3, .string n.f4, .slice A5 n.f5.length c5]) h hB).1
  clear h hB
  go_enter Try.func65, Try.ntmps65
  go_wp2
  go_end0
  exact ⟨rfl, by rw [print_Fragment.ba_nil]; exact HP.out⟩

def print_Fragment.fnOf (x : Int) : Nat := if x = 2 then 62 else if x = 3 then 63 else if x = 1 then 64 else 65
set_option maxHeartbeats 4000000 in
set_option maxRecDepth 100000 in
theorem print_Fragment.writer_ok (x : Int) (f : Nat) (hf : print_Fragment.fnOf x = f) (w : World) : Calls Try.prog 51 #[.int .i64 x] w fun e w' => e = .returned (.func (.func f) #[] #[]) ∧ w = w' := by
  subst hf
  unfold print_Fragment.fnOf
  by_cases c2 : x = 2
  · have b2 : (x == 2) = true := beq_iff_eq.mpr c2
    rw [if_pos c2]
    clear c2
    go_enter Try.func51, Try.ntmps51
    go_wp2
    go_ret
    exact ⟨rfl, rfl⟩
  · have b2 : (x == 2) = false := beq_eq_false_iff_ne.mpr c2
    rw [if_neg c2]
    by_cases c3 : x = 3
    · have b3 : (x == 3) = true := beq_iff_eq.mpr c3
      rw [if_pos c3]
      clear c2 c3
      go_enter Try.func51, Try.ntmps51
      go_wp2
      go_ret
      exact ⟨rfl, rfl⟩
    · have b3 : (x == 3) = false := beq_eq_false_iff_ne.mpr c3
      rw [if_neg c3]
      by_cases c1 : x = 1
      · have b1 : (x == 1) = true := beq_iff_eq.mpr c1
        rw [if_pos c1]
        clear c1 c2 c3
        go_enter Try.func51, Try.ntmps51
        go_wp2
        go_ret
        exact ⟨rfl, rfl⟩
      · have b1 : (x == 1) = false := beq_eq_false_iff_ne.mpr c1
        rw [if_neg c1]
        clear c1 c2 c3
        go_enter Try.func51, Try.ntmps51
        go_wp2
        go_ret
        exact ⟨rfl, rfl⟩
theorem print_Fragment.text_ok (B g : Nat) (raw : Bool) (out : ByteArray) (n : S43) (A3 : Option Addr) (c3 : Nat) (A5 : Option Addr) (c5 : Nat) (t : ByteArray) (ht : (if raw = true then some n.f4 else print_Escape.f n.f4 false) = some t) (w : World) (h : BX.BX 52 [.bool raw] B g (Lib.byteCells out.data.toList) w) (hB : B ≤ w.heap.size) (hs : out.size + t.size ≤ 1000000000000) :
    Calls Try.prog 62 #[.pointer (some ⟨g, 0, none⟩), .agg #[.int .i64 n.f0, .int .i64 n.f1, .string n.f2, .slice A3 n.f3.length c3, .string n.f4, .slice A5 n.f5.length c5]] w fun e w' => e = .returned (.tuple #[]) ∧ print_Fragment.Pr B g raw (out ++ t) w w' := by
  cases raw with
  | true =>
    rw [if_pos rfl] at ht
    obtain rfl := Option.some.inj ht
    exact print_Fragment.text_raw B g out n A3 c3 A5 c5 w h hB hs
  | false =>
    rw [if_neg Bool.false_ne_true] at ht
    exact print_Fragment.text_esc B g out n A3 c3 A5 c5 t ht w h hB hs
/-- A node is written by the method of its kind. -/
theorem print_Fragment.one_ok (k : Nat) (ih : print_Fragment.NodesOk k) (W0 : World) (g : Nat) (raw : Bool) (out : ByteArray) (n : S43) (A3 : Option Addr) (c3 : Nat) (A5 : Option Addr) (c5 : Nat) (t : ByteArray) (ht : print_Fragment.one (print_Fragment.nodes k) k raw n = some t) (w : World)
    (hr3 : Kd.C k45 W0 A3 n.f3.length n.f3) (hc3 : n.f3.length ≤ c3) (hr5 : Kd.C k43 W0 A5 n.f5.length n.f5) (hc5 : n.f5.length ≤ c5) (hb0 : Below W0.heap.size W0 w)
    (h : BX.BX 52 [.bool raw] W0.heap.size g (Lib.byteCells out.data.toList) w) (hs : out.size + t.size ≤ 1000000000000) (f : Nat) (hf : print_Fragment.fnOf n.f0 = f) :
    Calls Try.prog f #[.pointer (some ⟨g, 0, none⟩), .agg #[.int .i64 n.f0, .int .i64 n.f1, .string n.f2, .slice A3 n.f3.length c3, .string n.f4, .slice A5 n.f5.length c5]] w fun e w' => e = .returned (.tuple #[]) ∧ print_Fragment.Pr W0.heap.size g raw (out ++ t) w w' := by
  subst hf
  unfold print_Fragment.fnOf
  by_cases c2 : n.f0 = 2
  · rw [if_pos c2]
    unfold print_Fragment.one at ht
    rw [if_pos c2] at ht
    exact print_Fragment.text_ok _ g raw out n A3 c3 A5 c5 t ht w h hb0.size hs
  · rw [if_neg c2]
    by_cases c3' : n.f0 = 3
    · rw [if_pos c3']
      unfold print_Fragment.one at ht
      rw [if_neg c2, if_pos c3'] at ht
      obtain rfl := Option.some.inj ht
      exact print_Fragment.comment_ok _ g out n A3 c3 A5 c5 raw w h hb0.size hs
    · rw [if_neg c3']
      by_cases c1 : n.f0 = 1
      · rw [if_pos c1]
        exact print_Fragment.element_ok k ih W0 g raw out n A3 c3 A5 c5 t c1 ht w hr3 hc3 hr5 hc5 hb0 h hs
      · rw [if_neg c1]
        unfold print_Fragment.one at ht
        rw [if_neg c2, if_neg c3', if_neg c1] at ht
        obtain rfl := Option.some.inj ht
        exact print_Fragment.nothing_ok _ g raw out n A3 c3 A5 c5 w h hb0.size

def print_Fragment.LeftN (k : Nat) (raw : Bool) (l : List S43) (i : Nat) (o whole : ByteArray) : Prop := i ≤ l.length ∧ ∃ r, print_Fragment.nodes k raw (l.drop i) = some r ∧ o ++ r = whole
theorem print_Fragment.LeftN.next {k : Nat} {raw : Bool} {l : List S43} {i : Nat} {o whole : ByteArray} (h : print_Fragment.LeftN (k + 1) raw l i o whole) (hi : i < l.length) :
    ∃ a, print_Fragment.one (print_Fragment.nodes k) k raw (rd_T43 l i) = some a ∧ print_Fragment.LeftN k raw l (i + 1) (o ++ a) whole ∧ (o ++ a).size ≤ whole.size ∧ l.length ≤ i + 1 + 1000000000000 := by
  obtain ⟨_, r, hr, hw⟩ := h
  have hx : rd_T43 l i = l[i] := by simp [rd_T43, List.getD, hi]
  rw [List.drop_eq_getElem_cons hi, print_Fragment.nodes, ← hx] at hr
  by_cases hl : (l.drop (i + 1)).length ≤ 1000000000000
  · rw [if_pos hl] at hr
    obtain ⟨a, ha, hr⟩ := Option.bind_eq_some_iff.1 hr
    obtain ⟨b, hb, hr⟩ := Option.bind_eq_some_iff.1 hr
    obtain rfl := Option.some.inj hr
    refine ⟨a, ha, ⟨hi, b, hb, by rw [← hw, print_Fragment.ba_assoc]⟩, ?_, ?_⟩
    · rw [← hw]; simp only [ByteArray.size_append]; omega
    · simp only [List.length_drop] at hl; omega
  · rw [if_neg hl] at hr; cases hr
theorem print_Fragment.LeftN.done {k : Nat} {raw : Bool} {l : List S43} {i : Nat} {o whole : ByteArray} (h : print_Fragment.LeftN k raw l i o whole) (hi : ¬ i < l.length) : o = whole := by
  obtain ⟨h1, r, hr, hw⟩ := h
  rw [List.drop_of_length_le (by omega)] at hr
  cases k with
  | zero => simp [print_Fragment.nodes] at hr
  | succ k =>
    rw [print_Fragment.nodes] at hr
    obtain rfl := Option.some.inj hr
    rw [← hw, print_Fragment.ba_nil]

theorem print_Fragment.nodes_len {k : Nat} {raw : Bool} {l : List S43} {t : ByteArray} (h : print_Fragment.nodes k raw l = some t) : l.length ≤ 1000000000001 := by
  cases k with
  | zero => simp [print_Fragment.nodes] at h
  | succ k =>
    cases l with
    | nil => simp
    | cons n r =>
      rw [print_Fragment.nodes] at h
      by_cases hl : r.length ≤ 1000000000000
      · simp; omega
      · rw [if_neg hl] at h; cases h
set_option maxHeartbeats 8000000 in
set_option maxRecDepth 100000 in
theorem print_Fragment.nodes_ok (k : Nat) : print_Fragment.NodesOk k := by
  induction k using Nat.strongRecOn with
  | _ k IH =>
    intro W0 raw l t A c g out w ht hr hc hb0 h hs
    have HL : Aside0 (print_Fragment.LeftN k raw l 0 out (out ++ t)) := ⟨⟨Nat.zero_le _, t, by simpa using ht, rfl⟩⟩
    have HS : Aside0 ((out ++ t).size ≤ 1000000000000) := ⟨by rw [ByteArray.size_append]; exact hs⟩
    have HP : Aside0 (print_Fragment.Pr W0.heap.size g raw out w w) := ⟨⟨h, Below.refl _ _, Lib.OthersKept.refl _ _ _⟩⟩
    have HLEN := Aside0.mk (print_Fragment.nodes_len ht)
    have HR := Aside0.mk hr
    have HC := Aside0.mk hc
    have HB0 := Aside0.mk hb0
    have HI := Aside0.mk IH
    clear ht hr hc hb0 h hs IH
    go_enter Try.func29, Try.ntmps29
    go_wp2
    go_loopg [8] k (fun kq v8 wr => ∃ (i : Nat) (o : ByteArray), v8 = .int .i64 i ∧ Aside0 (kq ≤ k) ∧ Aside0 (print_Fragment.LeftN kq raw l i o (out ++ t)) ∧ Aside0 (print_Fragment.Pr W0.heap.size g raw o w wr))
    case atStart => exact ⟨0, out, rfl, ⟨Nat.le_refl _⟩, HL, HP⟩
    case round =>
      clear HL HP
      obtain ⟨i, o, rfl, HK, HL, HP⟩ := hrel
      by_cases hlt : i < l.length
      · cases gk with
        | zero => obtain ⟨_, r, hr, _⟩ := HL.out; simp [print_Fragment.nodes] at hr
        | succ m =>
          obtain ⟨a, ha, hnext, hsz, hlen⟩ := HL.out.next hlt
          have HA := Aside0.mk ha
          have HNX := Aside0.mk hnext
          have HSZ : Aside0 (o.size + a.size ≤ 1000000000000) := ⟨by have := HS.out; rw [ByteArray.size_append] at hsz; omega⟩
          have HLT := Aside0.mk hlt
          obtain ⟨f, hf⟩ : ∃ f, print_Fragment.fnOf (rd_T43 l i).f0 = f := ⟨_, rfl⟩
          have HF := Aside0.mk hf
          have p0 : (0 : Int) ≤ (i : Int) := by omega
          have p1 : (i : Int) < (l.length : Int) := by omega
          obtain ⟨ad, A3, c3, A5, c5, ead, hx0, hx1, hx2, hx3, hx4, hx5, hl3, hi3, hl5, hi5⟩ := at_T43 HR.out (i : Int) p0 p1
          have hbw := HB0.out.trans HP.out.2.1
          replace hx0 := (hbw.cell (World.block_lt_of_cell? W0 _ hx0)).trans hx0
          replace hx1 := (hbw.cell (World.block_lt_of_cell? W0 _ hx1)).trans hx1
          replace hx2 := (hbw.cell (World.block_lt_of_cell? W0 _ hx2)).trans hx2
          replace hx3 := (hbw.cell (World.block_lt_of_cell? W0 _ hx3)).trans hx3
          replace hx4 := (hbw.cell (World.block_lt_of_cell? W0 _ hx4)).trans hx4
          replace hx5 := (hbw.cell (World.block_lt_of_cell? W0 _ hx5)).trans hx5
          simp only [Int.toNat_natCast] at hx0 hx1 hx2 hx3 hx4 hx5
          have HI3 := Aside0.mk hi3
          have HI5 := Aside0.mk hi5
          have HL3 := Aside0.mk hl3
          have HL5 := Aside0.mk hl5
          have p2 : (i : Int) + 1 ≤ 1000000000002 := by have := HLEN.out; omega
          subst ead
          clear ha hnext hsz hlen hlt hf hbw hi3 hi5 hl3 hl5 HL
          have HB1 : Aside0 (BX.BX 52 [.bool raw] W0.heap.size g (Lib.byteCells o.data.toList) (wr.alloc (.cells #[.int .i64 (rd_T43 l i).f0, .int .i64 (rd_T43 l i).f1, .string (rd_T43 l i).f2, .slice A3 (rd_T43 l i).f3.length c3, .string (rd_T43 l i).f4, .slice A5 (rd_T43 l i).f5.length c5] 43)).drew) := ⟨print_Fragment.bx_drew (print_Fragment.Pr.alloc HP.out.1 _)⟩
          have HB2 : Aside0 (Below W0.heap.size W0 (wr.alloc (.cells #[.int .i64 (rd_T43 l i).f0, .int .i64 (rd_T43 l i).f1, .string (rd_T43 l i).f2, .slice A3 (rd_T43 l i).f3.length c3, .string (rd_T43 l i).f4, .slice A5 (rd_T43 l i).f5.length c5] 43)).drew) := ⟨Below.drew (Below.alloc (HB0.out.trans HP.out.2.1) (HB0.out.trans HP.out.2.1).size _)⟩
          have HGN : Aside0 (wr.heap.size ≠ g) := ⟨by have := print_Fragment.lt HP.out.1; omega⟩
          have hff : f = 62 ∨ f = 63 ∨ f = 64 ∨ f = 65 := by
            have h := HF.out
            rw [← h]; unfold print_Fragment.fnOf
            (repeat' split) <;> simp
          go_wp2
          rcases hff with rfl | rfl | rfl | rfl
          all_goals
           go_region_held3 (fun w' => w'.cell? ⟨wr.heap.size, 0, none⟩ = some (.int .i64 (rd_T43 l i).f0) ∧ w'.cell? ⟨wr.heap.size, 1, none⟩ = some (.int .i64 (rd_T43 l i).f1) ∧ w'.cell? ⟨wr.heap.size, 2, none⟩ = some (.string (rd_T43 l i).f2) ∧ w'.cell? ⟨wr.heap.size, 3, none⟩ = some (.slice A3 (rd_T43 l i).f3.length c3) ∧ w'.cell? ⟨wr.heap.size, 4, none⟩ = some (.string (rd_T43 l i).f4) ∧ w'.cell? ⟨wr.heap.size, 5, none⟩ = some (.slice A5 (rd_T43 l i).f5.length c5)) (first | exact ⟨Lib.cell_of_heap hk 0, Lib.cell_of_heap hk 1, Lib.cell_of_heap hk 2, Lib.cell_of_heap hk 3, Lib.cell_of_heap hk 4, Lib.cell_of_heap hk 5⟩ | go_keep)
            (first
              | (go_at_call 51; (with_reducible refine (print_Fragment.writer_ok _ _ HF.out _).mono ?_); rintro e9 w1 ⟨rfl, rfl⟩)
              | ((first | go_at_call 62 | go_at_call 63 | go_at_call 64 | go_at_call 65); refine (print_Fragment.one_ok m (HI.out m (by have := HK.out; omega)) W0 g raw o (rd_T43 l i) A3 c3 A5 c5 a HA.out _ HI3.out HL3.out HI5.out HL5.out HB2.out HB1.out HSZ.out _ HF.out).mono ?_; rintro e9 w2 ⟨rfl, hp⟩; have hk := hp.block (nb := wr.heap.size) (heap_alloc_last wr _) (by decide) HGN.out))
           go_wp2
           have hpb := Aside0.mk (print_Fragment.Pr.boxed hp (HB0.out.trans HP.out.2.1).size)
           clear hk hp
           go_roundg m
           case measure => omega
           case rel => exact ⟨i + 1, _, by go_num, ⟨by have := HK.out; omega⟩, HNX, ⟨HP.out.trans hpb.out⟩⟩
      · have hd := HL.out.done hlt
        subst hd
        have hlt2 : ¬ (i : Int) < (l.length : Int) := by omega
        clear hlt HL
        go_wp2
        go_end0
        exact ⟨rfl, HP.out⟩

set_option maxHeartbeats 4000000 in
set_option maxRecDepth 100000 in
theorem print_Fragment.calls (k : Nat) (A0 : Option Addr) (c0 : Nat) (l0 : List S43) (r : ByteArray) (w : World) (hr0 : Kd.C k43 w A0 l0.length l0) (hc0 : l0.length ≤ c0) (h : print_Fragment.f k l0 = some r) :
    Calls Try.prog 16 #[.slice A0 l0.length c0] w fun e w' => e = .returned (.string r) ∧ Below w.heap.size w w' := by
  unfold print_Fragment.f at h
  obtain ⟨t, ht, h⟩ := Option.bind_eq_some_iff.1 h
  by_cases hs : t.size ≤ 1000000000000
  · rw [if_pos hs] at h
    obtain rfl := Option.some.inj h
    have HT := Aside0.mk ht
    have HR := Aside0.mk hr0
    have HC := Aside0.mk hc0
    have HS : Aside0 ((⟨#[]⟩ : ByteArray).size + t.size ≤ 1000000000000) := ⟨by rw [show (⟨#[]⟩ : ByteArray).size = 0 from rfl]; omega⟩
    have HX : Aside0 (BX.BX 52 [.bool false] w.heap.size w.heap.size (Lib.byteCells (⟨#[]⟩ : ByteArray).data.toList) (w.alloc (.cells #[.pointer none, .slice none 0 0, .bool false] 52))) := ⟨BX.BX.fresh⟩
    have HB := Aside0.mk ((Below.refl w.heap.size w).alloc (Nat.le_refl _) (.cells #[.pointer none, .slice none 0 0, .bool false] 52))
    clear h ht hr0 hc0 hs
    go_enter Try.func16, Try.ntmps16
    go_wp2_with (first
      | (go_at_call 29; refine (print_Fragment.nodes_ok k w false l0 t A0 c0 w.heap.size (⟨#[]⟩ : ByteArray) _ HT.out HR.out HC.out HB.out HX.out HS.out).mono ?_; rintro e w1 ⟨rfl, hp⟩; have HP := Aside0.mk hp; clear hp)
      | (go_at_call 30; refine (BX.string 52 [.bool false] w.heap.size w.heap.size _ _ HP.out.1 (Nat.le_trans HB.out.size HP.out.2.1.size)).mono ?_; rintro e w2 ⟨rfl, hb⟩))
    go_ret
    exact ⟨rfl, (HB.out.trans HP.out.2.1).trans hb⟩
  · rw [if_neg hs] at h; cases h

end Go.Proofs.Ythialihgamlljaa.G
