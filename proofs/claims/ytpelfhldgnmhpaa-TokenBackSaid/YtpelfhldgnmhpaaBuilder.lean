/- A strings.Builder at the head of a block (its own variable, or a struct's first field): copyCheck, WriteString, WriteByte and String, each by its contract, over this seat's translation. Condition: what the builder holds takes at most 2^47 bytes. -/
import Derived.Test.YtpelfhldgnmhpaaProg
import Derived.Shelf.Strings.BuilderK
import Derived.Lib.FrozenHead2
import Derived.Lib.OthersKept
import Derived.WalkKit
import Derived.KernelRfl
import Derived.RowKit
set_option linter.unusedVariables false
set_option linter.unusedSimpArgs false
namespace Go.Proofs.Ytpelfhldgnmhpaa.BX
open Go.RowKit
set_option autoImplicit false

/-- The builder at the head of block b (of type T; behind it the cells R) holds bs. -/
def BX (T : TypeId) (R : List Value) (B b : Nat) (bs : List Value) (w : World) : Prop :=
  B ≤ b ∧ ∃ p v, (p = .pointer none ∨ p = .pointer (some ⟨b, 0, none⟩)) ∧ w.heap[b]? = some (.cells (p :: v :: R).toArray T (0, 0)) ∧ w.ownsRowF B 5 1 v bs.length bs ∧ v.ownBlock ≠ some b

def Used (T : TypeId) (R : List Value) (B b : Nat) (bs : List Value) (w : World) : Prop :=
  B ≤ b ∧ ∃ v, w.heap[b]? = some (.cells (.pointer (some ⟨b, 0, none⟩) :: v :: R).toArray T (0, 0)) ∧ w.ownsRowF B 5 1 v bs.length bs ∧ v.ownBlock ≠ some b

theorem Used.bx {T : TypeId} {R : List Value} {B b : Nat} {bs : List Value} {w : World} (h : Used T R B b bs w) : BX T R B b bs w := by
  obtain ⟨hB, v, hb, ho, hn⟩ := h
  exact ⟨hB, _, v, .inr rfl, hb, ho, hn⟩

theorem BX.fresh {T : TypeId} {R : List Value} {w : World} : BX T R w.heap.size w.heap.size [] (w.alloc (.cells (.pointer none :: .slice none 0 0 :: R).toArray T)) :=
  ⟨Nat.le_refl _, _, .slice none 0 0, .inl rfl, heap_alloc_new w _, ⟨by simp, .inl ⟨rfl, rfl⟩⟩, by simp [Value.ownBlock]⟩

/-- The block's type is a builder's, or a struct's that begins with one. -/
structure Fits (T : TypeId) (R : List Value) : Prop where
  lies : liesAt Try.prog Try.prog.depth T ((R.length + 2) / Try.prog.cellsOf T) 0 61 1 = true
  ne : T ≠ 5

theorem lt_of {T : TypeId} {cs : Array Value} {fz : Nat × Nat} {b : Nat} {w : World} (h : w.heap[b]? = some (.cells cs T fz)) : b < w.heap.size := by
  rcases Nat.lt_or_ge b w.heap.size with h' | h'
  · exact h'
  · simp [Array.getElem?_eq_none h'] at h

/-- What lay stands: the builder is as it was. -/
theorem BX.later {T : TypeId} {R : List Value} {B b : Nat} {bs : List Value} {w w' : World} (h : BX T R B b bs w) (hb : Below w.heap.size w w') : BX T R B b bs w' := by
  obtain ⟨hB, p, v, hp, hbk, ho, hn⟩ := h
  refine ⟨hB, p, v, hp, (hb.block b (lt_of hbk)).trans hbk, ho.kept (row := none) ⟨hb.os, hb.tape, hb.output, hb.size, fun i hi _ => hb.block i hi⟩ (by cases v.ownBlock <;> simp), hn⟩
theorem infoB : (Try.prog.info? 61).map (fun i => i.size) = some 2 := by kernel_rfl
theorem infoByte : (Try.prog.info? 5).map (fun i => (i.zero, i.size, i.bytes)) = some (some (.int .u8 0), 1, 1) := by kernel_rfl

set_option maxHeartbeats 1000000 in
set_option maxRecDepth 100000 in
theorem copyCheck_fresh (T : TypeId) (n b : Nat) (hn : 2 ≤ n) (hl : liesAt Try.prog Try.prog.depth T (n / Try.prog.cellsOf T) 0 61 1 = true) (w : World) (h0 : w.cell? ⟨b, 0, none⟩ = some (.pointer none)) (hsh : w.shape? b = some (T, n)) (hfz : w.frozen? ⟨b, 0, none⟩ = false) :
    Calls Try.prog 61 #[.pointer (some ⟨b, 0, none⟩)] w fun e w' => e = .returned (.tuple #[]) ∧ w' = w.setCell ⟨b, 0, none⟩ (.pointer (some ⟨b, 0, none⟩)) := by
  obtain ⟨j, hj, hjs⟩ := Option.map_eq_some_iff.1 infoB
  go_enter Try.func61, Try.ntmps61
  go_wp2
  rw [Lib.run_to_unsafe w ⟨b, 0, none⟩ Try.underlying58 Try.underlying87 hj (by rw [hjs]; decide) hsh (show 0 < n by omega)]
  simp only [Result.andThen]
  rw [Oper.upon_value]
  go_wp2
  rw [run_callFunc_extern Try.func81 (by kernel_rfl) (by kernel_rfl) (by kernel_rfl) (e := Extern.AbiNoEscape.same) (by kernel_rfl)]
  rw [Lib.run_noEscape]
  simp only [Result.andThen]
  rw [Oper.upon_value]
  go_wp2
  rw [Lib.run_from_unsafe w ⟨b, 0, none⟩ Try.underlying87 Try.underlying58 hj hsh hl]
  simp only [Result.andThen]
  rw [Oper.upon_value]
  go_wp2
  go_end0
  exact ⟨rfl, rfl⟩

set_option maxHeartbeats 1000000 in
set_option maxRecDepth 100000 in
theorem copyCheck_used (b : Nat) (w : World) (h0 : w.cell? ⟨b, 0, none⟩ = some (.pointer (some ⟨b, 0, none⟩))) :
    Calls Try.prog 61 #[.pointer (some ⟨b, 0, none⟩)] w fun e w' => e = .returned (.tuple #[]) ∧ w' = w := by
  obtain ⟨j, hj, hjs⟩ := Option.map_eq_some_iff.1 infoB
  have hq := Lib.run_neq_ptr_same w ⟨b, 0, none⟩ Try.underlying58 hj
  go_enter Try.func61, Try.ntmps61
  go_wp2
  go_end0
  exact ⟨rfl, rfl⟩

theorem copyCheck (T : TypeId) (R : List Value) (F : Fits T R) (B b : Nat) (bs : List Value) (w : World) (h : BX T R B b bs w) :
    Calls Try.prog 61 #[.pointer (some ⟨b, 0, none⟩)] w fun e w' => e = .returned (.tuple #[]) ∧ Used T R B b bs w' ∧ Below B w w' ∧ Lib.OthersKept 5 (some b) w w' := by
  obtain ⟨hB, p, v, hp, hb, ho, hn⟩ := h
  have c0 : w.cell? ⟨b, 0, none⟩ = some p := by rw [Lib.cell_of_heap hb]; rfl
  rcases hp with rfl | rfl
  · refine (copyCheck_fresh T (R.length + 2) b (by omega) F.lies w c0 (by simp [World.shape?, hb]) (Lib.frozen_of_heap hb 0)).mono ?_
    rintro e w' ⟨rfl, rfl⟩
    refine ⟨rfl, ⟨hB, v, ?_, ?_, hn⟩, (Below.refl B w).setCell (p := ⟨b, 0, none⟩) hB _, (Lib.OthersKept.refl _ _ w).setCell ⟨b, 0, none⟩ rfl _⟩
    · simp [World.setCell, Array.getElem?_modify, hb]
    · exact ho.kept (row := some b) ⟨rfl, rfl, rfl, by simp [World.setCell], fun k _ hk => Below.heap_setCell _ _ _ _ (fun e => hk (by simp [e]))⟩ (Or.inr hn)
  · refine (copyCheck_used b w c0).mono ?_
    rintro e w' ⟨rfl, rfl⟩
    exact ⟨rfl, ⟨hB, v, hb, ho, hn⟩, Below.refl B _, Lib.OthersKept.refl _ _ _⟩

theorem Used.put {T : TypeId} {R : List Value} {B b : Nat} {v v' : Value} {bs' : List Value} {w : World} (hT : T ≠ 5) (hB : B ≤ b) (hb : w.heap[b]? = some (.cells (.pointer (some ⟨b, 0, none⟩) :: v :: R).toArray T (0, 0))) (hown : w.ownsRowF B 5 1 v' bs'.length bs') :
    Used T R B b bs' (w.setCell ⟨b, 1, none⟩ v') := by
  have hne := Lib.ownBlock_neF hown hb hT
  refine ⟨hB, v', ?_, ?_, hne⟩
  · simp [World.setCell, Array.getElem?_modify, hb]
  · exact hown.kept (row := some b) ⟨rfl, rfl, rfl, by simp [World.setCell], fun k _ hk => Below.heap_setCell _ _ _ _ (fun e => hk (by simp [e]))⟩ (Or.inr hne)

set_option maxHeartbeats 2000000 in
set_option maxRecDepth 100000 in
theorem writeString (T : TypeId) (R : List Value) (F : Fits T R) (B b : Nat) (bs : List Value) (s : ByteArray) (w : World) (h : BX T R B b bs w) (hlen : bs.length + s.size ≤ 140737488355328) (hBw : B ≤ w.heap.size) :
    Calls Try.prog 34 #[.pointer (some ⟨b, 0, none⟩), .string s] w fun e w' => e = .returned (.tuple #[.int .i64 s.size, .nilIface]) ∧ Used T R B b (bs ++ Lib.strCells s) w' ∧ Below B w w' ∧ Lib.OthersKept 5 (some b) w w' := by
  obtain ⟨i0, hi, hz0, hz1, hz2⟩ := info_parts infoByte
  go_enter Try.func34, Try.ntmps34
  go_wp2_with (go_at_call 61; refine (copyCheck T R F B b bs _ h).mono ?_)
  rintro e w1 ⟨rfl, h1, hb1, hk1⟩
  obtain ⟨hB, v, hbk, hown, hne⟩ := h1
  have c0 : w1.cell? ⟨b, 0, none⟩ = some (.pointer (some ⟨b, 0, none⟩)) := by rw [Lib.cell_of_heap hbk]; rfl
  have c1 : w1.cell? ⟨b, 1, none⟩ = some v := by rw [Lib.cell_of_heap hbk]; rfl
  go_wp2_with (at_builtin; refine Lib.wpList_append_own_stringF _ rfl _ _ 59 9 rfl B 5 i0 Try.underlying59 Try.underlying9 hi hz0 hz1 hz2 _ _ _ rfl hown s rfl ?c3 ?c4 ?c5 ?_)
  case c3 => unfold maxLen; omega
  case c4 => omega
  case c5 => have := hb1.size; omega
  intro v' w2 hown' hgrow _
  have hlt : b < w1.heap.size := lt_of hbk
  have hb2 : w2.heap[b]? = some (.cells (.pointer (some ⟨b, 0, none⟩) :: v :: R).toArray T (0, 0)) := by
    rw [hgrow.block b hlt (fun e => hne e.symm)]
    exact hbk
  have d0 : w2.cell? ⟨b, 0, none⟩ = some (.pointer (some ⟨b, 0, none⟩)) := by rw [Lib.cell_of_heap hb2]; rfl
  have d1 : w2.cell? ⟨b, 1, none⟩ = some v := by rw [Lib.cell_of_heap hb2]; rfl
  have f1 : w2.frozen? ⟨b, 1, none⟩ = false := Lib.frozen_of_heap hb2 1
  obtain ⟨ao, n', cap, rfl⟩ : ∃ ao n' cap, v' = .slice ao n' cap := by
    rcases hown'.2 with ⟨hv, _⟩ | ⟨g, cap, cur, fz, hv, _⟩
    · exact ⟨_, _, _, hv⟩
    · exact ⟨_, _, _, hv⟩
  go_wp2
  go_ret2
  refine ⟨rfl, ?_, ?_, (hk1.grown hgrow (Lib.ownsRowF_kind hown)).setCell ⟨b, 1, none⟩ rfl _⟩
  · exact Used.put F.ne hB hb2 (bs' := bs ++ Lib.strCells s) (by simpa [Lib.strCells_length] using hown')
  · exact (hb1.grown hgrow (by have := hb1.size; omega) (fun k hk => (hown.lt k hk).1)).setCell (p := ⟨b, 1, none⟩) hB _

/-- What the shelf's words ask of String's closure. -/
def ren : Go.Shelf.Ren := ⟨fun | 169 => 35 | n => n, fun | 70 => 58 | 9 => 9 | 0 => 0 | 72 => 61 | 37 => 59 | 127 => 79 | 3 => 3 | 5 => 5 | n => n, fun | n => n⟩
theorem lays : Go.Proofs.Lays.n169 Try.prog ren := {
  mixed := by kernel_rfl
  f169 := Try.func35.trans (congrArg some (by kernel_rfl))
  t0 := Try.underlying0
  a0 := Try.isAgg0
  z0 := Try.sizeOf0
  v0 := Try.zeroValue0
  t3 := Try.underlying3
  a3 := Try.isAgg3
  z3 := Try.sizeOf3
  v3 := Try.zeroValue3
  t9 := Try.underlying9
  a9 := Try.isAgg9
  z9 := Try.sizeOf9
  v9 := Try.zeroValue9
  t37 := Try.underlying59
  a37 := Try.isAgg59
  z37 := Try.sizeOf59
  v37 := Try.zeroValue59
  t70 := Try.underlying58
  a70 := Try.isAgg58
  z70 := Try.sizeOf58
  v70 := Try.zeroValue58
  t72 := Try.underlying61
  a72 := Try.isAgg61
  z72 := Try.sizeOf61
  v72 := Try.zeroValue61
  t127 := Try.underlying79
  a127 := Try.isAgg79
  z127 := Try.sizeOf79
  v127 := Try.zeroValue79 }
theorem extra : Builder.Extra Try.prog ren := {
  sizeBuilder := by kernel_rfl
  liesBuilder := by kernel_rfl
  t5 := Try.underlying5
  a5 := Try.isAgg5
  z5 := Try.sizeOf5
  v5 := Try.zeroValue5
  infoByte := by kernel_rfl
  cellsByte := by kernel_rfl
  sizeByte := by kernel_rfl
  neB5 := by decide }
theorem unsafeString_none (W : World) (q : Option Addr) : (Builtin.unsafeString_ #[79, 3] 9 #[.pointer q, .int .i64 0]).run Try.prog W = .ok (.string .empty) W := Any.unsafeString_none lays extra W q

set_option maxHeartbeats 2000000 in
set_option maxRecDepth 100000 in
theorem string_nil (b : Nat) (B : Nat) (cs : Array Value) (T : TypeId) (w : World) (hbk : w.heap[b]? = some (.cells cs T (0, 0))) (h1 : cs[1]? = some (.slice none 0 0)) :
    Calls Try.prog 35 #[.pointer (some ⟨b, 0, none⟩)] w fun e w' => e = .returned (.string ⟨#[]⟩) ∧ Below B w w' := by
  have hUS := unsafeString_none
  have c1 : w.drew.cell? ⟨b, 1, none⟩ = some (.slice none 0 0) := by
    have : w.drew.heap[b]? = some (.cells cs T (0, 0)) := hbk
    rw [Lib.cell_of_heap this]; exact h1
  have hSD : (Builtin.unsafeSliceData_ #[59] 79 #[.slice none 0 0]).run Try.prog w.drew = .ok (.pointer none) w.drew := rfl
  clear h1 hbk
  go_enter Try.func35, Try.ntmps35
  go_wp2
  go_region
  all_goals (go_wp2; go_ret; exact ⟨rfl, Below.drew (Below.refl B w)⟩)

set_option maxHeartbeats 2000000 in
set_option maxRecDepth 100000 in
theorem string_noroom (b g : Nat) (B : Nat) (cs cur : Array Value) (T : TypeId) (w : World) (hBw : B ≤ w.heap.size) (hbk : w.heap[b]? = some (.cells cs T (0, 0))) (h1 : cs[1]? = some (.slice (some ⟨g, 0, none⟩) 0 0)) (fz : Nat × Nat) (hg : w.heap[g]? = some (.cells cur 5 fz)) :
    Calls Try.prog 35 #[.pointer (some ⟨b, 0, none⟩)] w fun e w' => e = .returned (.string ⟨#[]⟩) ∧ Below B w w' := by
  have hUS := unsafeString_none
  have hlt : b < w.heap.size := lt_of hbk
  have c1 : w.drew.cell? ⟨b, 1, none⟩ = some (.slice (some ⟨g, 0, none⟩) 0 0) := by
    have : w.drew.heap[b]? = some (.cells cs T (0, 0)) := hbk
    rw [Lib.cell_of_heap this]; exact h1
  have hSD : (Builtin.unsafeSliceData_ #[59] 79 #[.slice (some ⟨g, 0, none⟩) 0 0]).run Try.prog w.drew = .ok (.pointer (some ⟨w.drew.heap.size, 0, none⟩)) (w.drew.alloc (.view ⟨g, 0, none⟩ 5)) :=
    Lib.run_unsafeSliceData_zero w.drew _ _ 5 Try.underlying79 ⟨g, 0, none⟩ 0 (5, cur.size) (by have hg' : w.drew.heap[g]? = some (.cells cur 5 fz) := hg; simp [World.shape?, hg'])
  have c2 : (w.drew.alloc (.view ⟨g, 0, none⟩ 5)).cell? ⟨b, 1, none⟩ = some (.slice (some ⟨g, 0, none⟩) 0 0) := by
    have : (w.drew.alloc (.view ⟨g, 0, none⟩ 5)).heap[b]? = _ := (Lib.alloc_old w.drew _ b hlt).trans hbk
    rw [Lib.cell_of_heap this]; exact h1
  have c3 : (w.alloc (.view ⟨g, 0, none⟩ 5)).drew.cell? ⟨b, 1, none⟩ = some (.slice (some ⟨g, 0, none⟩) 0 0) := c2
  have c0 : w.cell? ⟨b, 1, none⟩ = some (.slice (some ⟨g, 0, none⟩) 0 0) := c1
  clear h1 hbk hg
  go_enter Try.func35, Try.ntmps35
  go_wp2
  go_region
  all_goals (go_wp2; go_ret; exact ⟨rfl, (Below.drew (Below.refl B w)).alloc hBw _⟩)

set_option maxHeartbeats 2000000 in
set_option maxRecDepth 100000 in
theorem string_room (b g cap : Nat) (B : Nat) (hc0 : cap ≠ 0) (cs : Array Value) (T : TypeId) (w : World) (hbk : w.heap[b]? = some (.cells cs T (0, 0))) (h1 : cs[1]? = some (.slice (some ⟨g, 0, none⟩) 0 cap)) :
    Calls Try.prog 35 #[.pointer (some ⟨b, 0, none⟩)] w fun e w' => e = .returned (.string ⟨#[]⟩) ∧ Below B w w' := by
  have hUS := unsafeString_none
  have c1 : w.drew.cell? ⟨b, 1, none⟩ = some (.slice (some ⟨g, 0, none⟩) 0 cap) := by
    have : w.drew.heap[b]? = some (.cells cs T (0, 0)) := hbk
    rw [Lib.cell_of_heap this]; exact h1
  have hSD : (Builtin.unsafeSliceData_ #[59] 79 #[.slice (some ⟨g, 0, none⟩) 0 cap]).run Try.prog w.drew = .ok (.pointer (some ⟨g, 0, none⟩)) w.drew :=
    Lib.run_unsafeSliceData_row _ _ _ _ _ _ hc0
  clear hc0 h1 hbk
  go_enter Try.func35, Try.ntmps35
  go_wp2
  go_region
  all_goals (go_wp2; go_ret; exact ⟨rfl, Below.drew (Below.refl B w)⟩)

set_option maxHeartbeats 2000000 in
set_option maxRecDepth 100000 in
theorem string_some (b g cap : Nat) (B : Nat) (hbg : B ≤ g) (l : List UInt8) (h0 : l ≠ []) (cs cur : Array Value) (T : TypeId) (w : World) (hbk : w.heap[b]? = some (.cells cs T (0, 0))) (h1 : cs[1]? = some (.slice (some ⟨g, 0, none⟩) l.length cap)) (fz : Nat × Nat) (hg : w.heap[g]? = some (.cells cur 5 fz)) (hnc : l.length ≤ cap) (hcm : cap ≤ maxLen) (hcs : cur.size = cap * 1) (hown : w.ownsRowF B 5 1 (.slice (some ⟨g, 0, none⟩) l.length cap) l.length (Lib.byteCells l)) :
    Calls Try.prog 35 #[.pointer (some ⟨b, 0, none⟩)] w fun e w' => e = .returned (.string ⟨l.toArray⟩) ∧ Below B w w' := by
  have hl0 : l.length ≠ 0 := by simpa using h0
  have c1 : w.drew.cell? ⟨b, 1, none⟩ = some (.slice (some ⟨g, 0, none⟩) l.length cap) := by
    have : w.drew.heap[b]? = some (.cells cs T (0, 0)) := hbk
    rw [Lib.cell_of_heap this]; exact h1
  have hSD : (Builtin.unsafeSliceData_ #[59] 79 #[.slice (some ⟨g, 0, none⟩) l.length cap]).run Try.prog w.drew = .ok (.pointer (some ⟨g, 0, none⟩)) w.drew :=
    Lib.run_unsafeSliceData_row _ _ _ _ _ _ (by omega)
  have hUS : (Builtin.unsafeString_ #[79, 3] 9 #[.pointer (some ⟨g, 0, none⟩), .int .i64 l.length]).run Try.prog w.drew = .ok (.string ⟨l.toArray⟩) (w.drew.freeze ⟨g, 0, none⟩ l.length) := by
    refine Lib.run_unsafeString_row w.drew 79 3 9 5 Try.underlying79 extra.cellsByte g cur.size (by have hg' : w.drew.heap[g]? = some (.cells cur 5 fz) := hg; simp [World.shape?, hg']) l h0 (by omega) (by unfold maxLen at hcm; omega) ?_
    intro j x hx
    have := hown.cells (g := g) rfl j (.int .u8 x.toNat) (by simp [Lib.byteCells, hx])
    exact this
  clear hown hg h1 hbk hl0 h0 hnc hcm hcs
  go_enter Try.func35, Try.ntmps35
  go_wp2
  go_region
  all_goals (go_wp2; go_ret; exact ⟨rfl, Lib.below_freeze (Below.drew (Below.refl B w)) (p := ⟨g, 0, none⟩) hbg _⟩)

/-- String: what the builder holds. -/
theorem string (T : TypeId) (R : List Value) (B b : Nat) (l : List UInt8) (w : World) (h : BX T R B b (Lib.byteCells l) w) (hBw : B ≤ w.heap.size) :
    Calls Try.prog 35 #[.pointer (some ⟨b, 0, none⟩)] w fun e w' => e = .returned (.string ⟨l.toArray⟩) ∧ Below B w w' := by
  obtain ⟨hB, p, v, _, hbk, hown, hne⟩ := h
  rw [Lib.byteCells_length] at hown
  have hown' := hown
  rcases hown.2 with ⟨rfl, hz⟩ | ⟨g, cap, cur, fz, rfl, hbg, hg, hfz, hnc, hcm, hcs, htake⟩
  · obtain rfl : l = [] := List.eq_nil_of_length_eq_zero hz
    exact string_nil b B _ T w hbk rfl
  · cases l with
    | nil =>
      by_cases hc0 : cap = 0
      · subst hc0
        exact string_noroom b g B _ cur T w hBw hbk rfl fz hg
      · exact string_room b g cap B hc0 _ T w hbk rfl
    | cons x r => exact string_some b g cap B hbg (x :: r) (by simp) _ cur T w hbk rfl fz hg hnc hcm hcs hown'

end Go.Proofs.Ytpelfhldgnmhpaa.BX
