-- laid by programs of this session's (wip/tools/myprint.py, linear.py, merge.py) over the translation, and by hand
import Derived.Test.YtpelfhldgnmhpaaProg
import Derived.Below
import Derived.Deep.Draws
import Derived.Deep.AppendLies
import Derived.Maps.AppendAt
import Derived.OwnWalk
import Derived.Laws.BytesArg
import Derived.Laws.MakeOwn
import Derived.Laws.OwnMore
import Derived.Deep.OwnRows
import Derived.Tactics
import Derived.Lib.ConvBytes
import Derived.Laws.Slices
import Derived.WalkKit
import Derived.KernelRfl
import Derived.RowKit3
import Derived.Deep.LoopGhost
import Derived.Deep.QuietTactic
import Derived.BigQuiet
import Derived.WideLaws
import Derived.Deep.DeepCutAuto
import Derived.Deep.CutBlock
import Derived.Deep.RegionHeld3
import Derived.Laws.Rows
import Derived.Lib.AppendStr
import Derived.ArgAppend
import Derived.Laws.IdiomCopy
import Derived.OrdersHeld
import Derived.Laws.BitsLemmas
import Derived.RowKit
import Derived.Laws.Runes
import Derived.Test.YtpelfhldgnmhpaaBuilder
import Derived.Test.YtpelfhldgnmhpaaS
import Derived.Deep.WholeRow
import Derived.StillTailTactics
import Derived.Outline
import Derived.Laws.IdiomStrings
import Derived.Lib.IndexLaws
import Derived.Lib.IndexMore
import Derived.Test.YtpelfhldgnmhpaaWWords
namespace Go.Proofs.Ytpelfhldgnmhpaa.G
section
open Go.RowKit Go.Proofs.YtpelfhldgnmhpaaW.PrintWords Go.Proofs.YtpelfhldgnmhpaaW.PrintLast Go.Proofs.YtpelfhldgnmhpaaW.PrintMore
attribute [local go_sem] max2_int min2_int max_two min_two max_three min_three max_four min_four
set_option linter.unusedVariables false
set_option linter.unusedSimpArgs false
def errW : Option Int → Value
  | none => .nilIface
  | some c => .iface 0 (.int .i64 c)
theorem errW_none : errW none = .nilIface := rfl
theorem errW_some (c : Int) : errW (some c) = .iface 0 (.int .i64 c) := rfl
theorem info3 : (Try.prog.info? 3).map (fun i => (i.zero, i.size, i.bytes)) = some (some (.int .i64 0), 1, 8) := by kernel_rfl
theorem info5 : (Try.prog.info? 5).map (fun i => (i.zero, i.size, i.bytes)) = some (some (.int .u8 0), 1, 1) := by kernel_rfl
theorem info9 : (Try.prog.info? 9).map (fun i => (i.zero, i.size, i.bytes)) = some (some (.string ⟨#[]⟩), 1, 16) := by kernel_rfl
theorem info29 : (Try.prog.info? 29).map (fun i => (i.zero, i.size, i.bytes)) = some (some (.agg #[(.int .i64 0), (.string ⟨#[]⟩), (.slice none 0 0), (.bool false), (.string ⟨#[]⟩)]), 5, 72) := by kernel_rfl
theorem info41 : (Try.prog.info? 41).map (fun i => (i.zero, i.size, i.bytes)) = some (some (.agg #[(.string ⟨#[]⟩), (.string ⟨#[]⟩)]), 2, 32) := by kernel_rfl
-- the values' own types
/-! #### struct type 41 -/
structure S41 where
  f0 : ByteArray
  f1 : ByteArray
def z41 : S41 := ⟨(⟨#[]⟩ : ByteArray), (⟨#[]⟩ : ByteArray)⟩
def k41 : Kd S41 := Kd.iso (Kd.pair Kd.string Kd.string) (fun x : S41 => (x.f0, x.f1))
theorem k41_open {w : World} {x : S41} {cs : List Value} (h : k41.K w x cs) : cs = [.string x.f0, .string x.f1] := by
 obtain ⟨_, _, rfl, rfl, rfl⟩ := h
 exact rfl
theorem k41_openM {w : World} {base : Nat} {ok : Nat → Prop} {x : S41} {cs : List Value} (h : k41.M w base ok x cs) : cs = [.string x.f0, .string x.f1] := by
 obtain ⟨_, _, rfl, rfl, rfl⟩ := h
 exact rfl
theorem k41_mk (w : World) (x : S41)  : k41.K w x [.string x.f0, .string x.f1] := ⟨[.string x.f0], [.string x.f1], rfl, rfl, rfl⟩
theorem k41_mkM (w : World) (base : Nat) (ok : Nat → Prop) (x : S41)  : k41.M w base ok x [.string x.f0, .string x.f1] := ⟨[.string x.f0], [.string x.f1], rfl, rfl, rfl⟩
def rd_T41 (xs : List S41) (i : Int) : S41 := xs.getD i.toNat z41
theorem at_T41 {w : World} {A : Option Addr} {n : Nat} {xs : List S41} (h : Kd.C k41 w A n xs) (i : Int) (h0 : 0 ≤ i) (h1 : i < n) : ∃ ad , A = some ad ∧ w.cell? (ad.add (i.toNat * 2)) = some (.string (rd_T41 xs i).f0) ∧ w.cell? ⟨(ad.add (i.toNat * 2)).block, (ad.add (i.toNat * 2)).off + 1, none⟩ = some (.string (rd_T41 xs i).f1) := by
 obtain ⟨ad, c, e, _, hK, hc0⟩ := Kd.C_get h z41 i h0 h1
 have hc : ∀ j u, c[j]? = some u → w.cell? (ad.add (i.toNat * 2 + j)) = some u := hc0
 obtain rfl := k41_open hK
 exact ⟨ad, e, hc 0 _ rfl, by rw [← add_field _ _ 1 (by omega)]; exact hc 1 _ rfl⟩
def rd_L5 (xs : List (List S41)) (i : Int) : (List S41) := xs.getD i.toNat ([] : List S41)
theorem at_L5 {w : World} {A : Option Addr} {n : Nat} {xs : List (List S41)} (h : Kd.C (Kd.slice 41 k41) w A n xs) (i : Int) (h0 : 0 ≤ i) (h1 : i < n) : ∃ ad A0 c0, A = some ad ∧ w.cell? (ad.add i.toNat) = some (.slice A0 (rd_L5 xs i).length c0) ∧ (rd_L5 xs i).length ≤ c0 ∧ k41.C w A0 (rd_L5 xs i).length (rd_L5 xs i) := by
 obtain ⟨ad, c, e, _, hK, hc0⟩ := Kd.C_get h ([] : List S41) i h0 h1
 have hc : ∀ j u, c[j]? = some u → w.cell? (ad.add (i.toNat * 1 + j)) = some u := hc0
 obtain ⟨A0, c0, rfl, l0, g0⟩ := hK
 exact ⟨ad, A0, c0, e, by have hq := hc 0 _ rfl; rwa [Nat.mul_one, Nat.add_zero] at hq, l0, g0⟩
/-! #### struct type 29 -/
structure S29 where
  f0 : Int
  f1 : ByteArray
  f2 : (List S41)
  f3 : Bool
  f4 : ByteArray
def z29 : S29 := ⟨(0 : Int), (⟨#[]⟩ : ByteArray), ([] : List S41), false, (⟨#[]⟩ : ByteArray)⟩
def k29 : Kd S29 := Kd.iso (Kd.pair (Kd.int .i64) (Kd.pair Kd.string (Kd.pair (Kd.slice 41 k41) (Kd.pair Kd.bool Kd.string)))) (fun x : S29 => (x.f0, x.f1, x.f2, x.f3, x.f4))
theorem k29_open {w : World} {x : S29} {cs : List Value} (h : k29.K w x cs) : ∃ A2 c2, cs = [.int .i64 x.f0, .string x.f1, .slice A2 x.f2.length c2, .bool x.f3, .string x.f4] ∧ x.f2.length ≤ c2 ∧ k41.C w A2 x.f2.length x.f2 := by
 obtain ⟨_, _, rfl, rfl, ⟨_, _, rfl, rfl, ⟨_, _, rfl, ⟨A2, c2, rfl, l2, g2⟩, ⟨_, _, rfl, rfl, rfl⟩⟩⟩⟩ := h
 exact ⟨A2, c2, rfl, l2, g2⟩
theorem k29_openM {w : World} {base : Nat} {ok : Nat → Prop} {x : S29} {cs : List Value} (h : k29.M w base ok x cs) : ∃ v2, cs = [.int .i64 x.f0, .string x.f1, v2, .bool x.f3, .string x.f4] ∧ k41.R 41 w base ok v2 x.f2 := by
 obtain ⟨_, _, rfl, rfl, ⟨_, _, rfl, rfl, ⟨_, _, rfl, ⟨v2, rfl, g2⟩, ⟨_, _, rfl, rfl, rfl⟩⟩⟩⟩ := h
 exact ⟨v2, rfl, g2⟩
theorem k29_mk (w : World) (x : S29) {A2 : Option Addr} {c2 : Nat} (l2 : x.f2.length ≤ c2) (g2 : k41.C w A2 x.f2.length x.f2) : k29.K w x [.int .i64 x.f0, .string x.f1, .slice A2 x.f2.length c2, .bool x.f3, .string x.f4] := ⟨[.int .i64 x.f0], [.string x.f1, .slice A2 x.f2.length c2, .bool x.f3, .string x.f4], rfl, rfl, ⟨[.string x.f1], [.slice A2 x.f2.length c2, .bool x.f3, .string x.f4], rfl, rfl, ⟨[.slice A2 x.f2.length c2], [.bool x.f3, .string x.f4], rfl, ⟨A2, c2, rfl, l2, g2⟩, ⟨[.bool x.f3], [.string x.f4], rfl, rfl, rfl⟩⟩⟩⟩
theorem k29_mkM (w : World) (base : Nat) (ok : Nat → Prop) (x : S29) {v2 : Value} (g2 : k41.R 41 w base ok v2 x.f2) : k29.M w base ok x [.int .i64 x.f0, .string x.f1, v2, .bool x.f3, .string x.f4] := ⟨[.int .i64 x.f0], [.string x.f1, v2, .bool x.f3, .string x.f4], rfl, rfl, ⟨[.string x.f1], [v2, .bool x.f3, .string x.f4], rfl, rfl, ⟨[v2], [.bool x.f3, .string x.f4], rfl, ⟨v2, rfl, g2⟩, ⟨[.bool x.f3], [.string x.f4], rfl, rfl, rfl⟩⟩⟩⟩
def rd_T29 (xs : List S29) (i : Int) : S29 := xs.getD i.toNat z29
theorem at_T29 {w : World} {A : Option Addr} {n : Nat} {xs : List S29} (h : Kd.C k29 w A n xs) (i : Int) (h0 : 0 ≤ i) (h1 : i < n) : ∃ ad A2 c2, A = some ad ∧ w.cell? (ad.add (i.toNat * 5)) = some (.int .i64 (rd_T29 xs i).f0) ∧ w.cell? ⟨(ad.add (i.toNat * 5)).block, (ad.add (i.toNat * 5)).off + 1, none⟩ = some (.string (rd_T29 xs i).f1) ∧ w.cell? ⟨(ad.add (i.toNat * 5)).block, (ad.add (i.toNat * 5)).off + 2, none⟩ = some (.slice A2 (rd_T29 xs i).f2.length c2) ∧ w.cell? ⟨(ad.add (i.toNat * 5)).block, (ad.add (i.toNat * 5)).off + 3, none⟩ = some (.bool (rd_T29 xs i).f3) ∧ w.cell? ⟨(ad.add (i.toNat * 5)).block, (ad.add (i.toNat * 5)).off + 4, none⟩ = some (.string (rd_T29 xs i).f4) ∧ (rd_T29 xs i).f2.length ≤ c2 ∧ k41.C w A2 (rd_T29 xs i).f2.length (rd_T29 xs i).f2 := by
 obtain ⟨ad, c, e, _, hK, hc0⟩ := Kd.C_get h z29 i h0 h1
 have hc : ∀ j u, c[j]? = some u → w.cell? (ad.add (i.toNat * 5 + j)) = some u := hc0
 obtain ⟨A2, c2, rfl, l2, g2⟩ := k29_open hK
 exact ⟨ad, A2, c2, e, hc 0 _ rfl, by rw [← add_field _ _ 1 (by omega)]; exact hc 1 _ rfl, by rw [← add_field _ _ 2 (by omega)]; exact hc 2 _ rfl, by rw [← add_field _ _ 3 (by omega)]; exact hc 3 _ rfl, by rw [← add_field _ _ 4 (by omega)]; exact hc 4 _ rfl, l2, g2⟩
/-! #### struct type 97 -/
structure S97 where
  f0 : ByteArray
  f1 : Int
  f2 : Bool
def z97 : S97 := ⟨(⟨#[]⟩ : ByteArray), (0 : Int), false⟩
def k97 : Kd S97 := Kd.iso (Kd.pair Kd.string (Kd.pair (Kd.int .i64) Kd.bool)) (fun x : S97 => (x.f0, x.f1, x.f2))
theorem k97_open {w : World} {x : S97} {cs : List Value} (h : k97.K w x cs) : cs = [.string x.f0, .int .i64 x.f1, .bool x.f2] := by
 obtain ⟨_, _, rfl, rfl, ⟨_, _, rfl, rfl, rfl⟩⟩ := h
 exact rfl
theorem k97_openM {w : World} {base : Nat} {ok : Nat → Prop} {x : S97} {cs : List Value} (h : k97.M w base ok x cs) : cs = [.string x.f0, .int .i64 x.f1, .bool x.f2] := by
 obtain ⟨_, _, rfl, rfl, ⟨_, _, rfl, rfl, rfl⟩⟩ := h
 exact rfl
theorem k97_mk (w : World) (x : S97)  : k97.K w x [.string x.f0, .int .i64 x.f1, .bool x.f2] := ⟨[.string x.f0], [.int .i64 x.f1, .bool x.f2], rfl, rfl, ⟨[.int .i64 x.f1], [.bool x.f2], rfl, rfl, rfl⟩⟩
theorem k97_mkM (w : World) (base : Nat) (ok : Nat → Prop) (x : S97)  : k97.M w base ok x [.string x.f0, .int .i64 x.f1, .bool x.f2] := ⟨[.string x.f0], [.int .i64 x.f1, .bool x.f2], rfl, rfl, ⟨[.int .i64 x.f1], [.bool x.f2], rfl, rfl, rfl⟩⟩
def rd_T97 (xs : List S97) (i : Int) : S97 := xs.getD i.toNat z97
theorem at_T97 {w : World} {A : Option Addr} {n : Nat} {xs : List S97} (h : Kd.C k97 w A n xs) (i : Int) (h0 : 0 ≤ i) (h1 : i < n) : ∃ ad , A = some ad ∧ w.cell? (ad.add (i.toNat * 3)) = some (.string (rd_T97 xs i).f0) ∧ w.cell? ⟨(ad.add (i.toNat * 3)).block, (ad.add (i.toNat * 3)).off + 1, none⟩ = some (.int .i64 (rd_T97 xs i).f1) ∧ w.cell? ⟨(ad.add (i.toNat * 3)).block, (ad.add (i.toNat * 3)).off + 2, none⟩ = some (.bool (rd_T97 xs i).f2) := by
 obtain ⟨ad, c, e, _, hK, hc0⟩ := Kd.C_get h z97 i h0 h1
 have hc : ∀ j u, c[j]? = some u → w.cell? (ad.add (i.toNat * 3 + j)) = some u := hc0
 obtain rfl := k97_open hK
 exact ⟨ad, e, hc 0 _ rfl, by rw [← add_field _ _ 1 (by omega)]; exact hc 1 _ rfl, by rw [← add_field _ _ 2 (by omega)]; exact hc 2 _ rfl⟩
def rd_L8 (xs : List (List S97)) (i : Int) : (List S97) := xs.getD i.toNat ([] : List S97)
theorem at_L8 {w : World} {A : Option Addr} {n : Nat} {xs : List (List S97)} (h : Kd.C (Kd.slice 97 k97) w A n xs) (i : Int) (h0 : 0 ≤ i) (h1 : i < n) : ∃ ad A0 c0, A = some ad ∧ w.cell? (ad.add i.toNat) = some (.slice A0 (rd_L8 xs i).length c0) ∧ (rd_L8 xs i).length ≤ c0 ∧ k97.C w A0 (rd_L8 xs i).length (rd_L8 xs i) := by
 obtain ⟨ad, c, e, _, hK, hc0⟩ := Kd.C_get h ([] : List S97) i h0 h1
 have hc : ∀ j u, c[j]? = some u → w.cell? (ad.add (i.toNat * 1 + j)) = some u := hc0
 obtain ⟨A0, c0, rfl, l0, g0⟩ := hK
 exact ⟨ad, A0, c0, e, by have hq := hc 0 _ rfl; rwa [Nat.mul_one, Nat.add_zero] at hq, l0, g0⟩
theorem eqA41 (d : Nat) (w : World) (x0 y0 : ByteArray) (x1 y1 : ByteArray) :
    (Op.equalIn (d + 2) 41 (.agg #[.string x0, .string x1]) (.agg #[.string y0, .string y1])).run Try.prog w = .ok (x0.toList == y0.toList && (x1.toList == y1.toList)) w := by
 refine eqA_of Try.underlying41 (by kernel_rfl) ?_
 refine eqf_cons (by rfl) (by go_simp; rfl) (by go_simp; rfl) (by go_simp) ?_
 exact eqf_last (by rfl) (by go_simp; rfl) (by go_simp; rfl) (by go_simp)
/-- A state of type 48 at block g of W; what its slices lead to came in by w0. -/
def IsS48 (w0 W : World) (g : Nat) (f0 : ByteArray) (f1 : Int) : Prop := W.heap[g]? = some (.cells #[.string f0, .int .i64 f1] 48 (0, 0)) ∧ w0.heap.size ≤ g
theorem IsS48.grown {w0 W : World} {g : Nat} {f0 : ByteArray} {f1 : Int} {W1 : World} {row : Option Nat} (h : IsS48 w0 W g f0 f1) (hw : W.grownBy W1 row) (hne : some g ≠ row) : IsS48 w0 W1 g f0 f1 := by
 obtain ⟨hb, hg⟩ := h
 exact ⟨blk_grown hb hw hne, hg⟩
theorem IsS48.own_neN {w0 W : World} {g : Nat} {f0 : ByteArray} {f1 : Int} {α : Type} {d : Kd α} {e : Nat} {base : Nat} {ok : Nat → Prop} {v : Value} {xs : List α} (h : IsS48 w0 W g f0 f1) (ho : Kd.N d e W base ok v xs) (ht : e ≠ 48) : some g ≠ v.ownBlock := by
 obtain ⟨hb, hg⟩ := h
 exact Kd.N_ne ho hb ht
theorem IsS48.fresh {w0 W : World} {g : Nat} {f0 : ByteArray} {f1 : Int} (h : IsS48 w0 W g f0 f1) : ∀ k, W.heap.size ≤ k → k ≠ g := by
 obtain ⟨hb, hg⟩ := h
 exact Kd.freshB hb
theorem IsS48.kept {w0 W : World} {g : Nat} {f0 : ByteArray} {f1 : Int} {W1 : World} {S : Nat → Prop} (h : IsS48 w0 W g f0 f1) (hk : Kept W W1 S) (hne : ¬ S g) : IsS48 w0 W1 g f0 f1 := by
 obtain ⟨hb, hg⟩ := h
 exact ⟨blk_kept hb hk hne, hg⟩
theorem IsS48.below {w0 W : World} {g : Nat} {f0 : ByteArray} {f1 : Int} {W1 : World} (h : IsS48 w0 W g f0 f1) (hw : Below W.heap.size W W1) : IsS48 w0 W1 g f0 f1 := h.grown (grown_of_below hw none) (by simp)
theorem IsS48.alloc {w0 W : World} {g : Nat} {f0 : ByteArray} {f1 : Int} (h : IsS48 w0 W g f0 f1) (o : Obj) : IsS48 w0 (W.alloc o) g f0 f1 := h.below (below_alloc (Below.refl _ _) o)
theorem IsS48.drewN {w0 W : World} {g : Nat} {f0 : ByteArray} {f1 : Int} (h : IsS48 w0 W g f0 f1) (m : Nat) : IsS48 w0 (W.drewN m) g f0 f1 := h
theorem IsS48.drew {w0 W : World} {g : Nat} {f0 : ByteArray} {f1 : Int} (h : IsS48 w0 W g f0 f1) : IsS48 w0 W.drew g f0 f1 := h
theorem IsS48.at_ {w0 W : World} {g : Nat} {f0 : ByteArray} {f1 : Int} {w' : World} {m : Nat} (hq : W.drewN m = w') (h : IsS48 w0 W g f0 f1) : IsS48 w0 w' g f0 f1 := by subst hq; exact IsS48.drewN h m
theorem IsS48.apart {w0 W : World} {g : Nat} {f0 : ByteArray} {f1 : Int} {α : Type} {d : Kd α} {e : Nat} {base : Nat} {ok : Nat → Prop} {v : Value} {xs : List α} (h : IsS48 w0 W g f0 f1) (ho : d.R e W base ok v xs) (ht : ∀ q, q ∈ e :: d.E → q ≠ 48) : d.R e W base (fun k => ok k ∧ k ≠ g) v xs := by
 obtain ⟨hb, hg⟩ := h
 exact Kd.R_types ho hb ht
theorem IsS48.own_ne {w0 W : World} {g : Nat} {f0 : ByteArray} {f1 : Int} {α : Type} {d : Kd α} {e : Nat} {base : Nat} {ok : Nat → Prop} {v : Value} {xs : List α} (h : IsS48 w0 W g f0 f1) (ho : d.R e W base ok v xs) (ht : e ≠ 48) : some g ≠ v.ownBlock := by
 obtain ⟨hb, hg⟩ := h
 exact Kd.R_ne ho hb ht
theorem IsS48.apartQ {w0 W : World} {g : Nat} {f0 : ByteArray} {f1 : Int} {α : Type} {d : Kd α} {e : Nat} {base : Nat} {ok : Nat → Prop} {v : Value} {xs : List α} (h : IsS48 w0 W g f0 f1) (ho : d.Q e W base ok v xs) (ht : ∀ q, q ∈ e :: d.E → q ≠ 48) : d.Q e W base (fun k => ok k ∧ k ≠ g) v xs := by
 obtain ⟨hb, hg⟩ := h
 exact Kd.Q_types ho hb ht
theorem IsS48.own_neQ {w0 W : World} {g : Nat} {f0 : ByteArray} {f1 : Int} {α : Type} {d : Kd α} {e : Nat} {base : Nat} {ok : Nat → Prop} {v : Value} {xs : List α} (h : IsS48 w0 W g f0 f1) (ho : d.Q e W base ok v xs) (ht : e ≠ 48) : some g ≠ v.ownBlock := by
 obtain ⟨hb, hg⟩ := h
 exact Kd.Q_ne ho hb ht
theorem IsS48.apartS {w0 W : World} {g : Nat} {f0 : ByteArray} {f1 : Int} {α : Type} {d : Kd α} {e : Nat} {base : Nat} {ok : Nat → Prop} {v : Value} {xs : List α} (h : IsS48 w0 W g f0 f1) (ho : d.S e W base ok v xs) (ht : ∀ q, q ∈ e :: d.E → q ≠ 48) : d.S e W base (fun k => ok k ∧ k ≠ g) v xs := by
 obtain ⟨hb, hg⟩ := h
 exact Kd.S_types ho hb ht
theorem IsS48.own_neS {w0 W : World} {g : Nat} {f0 : ByteArray} {f1 : Int} {α : Type} {d : Kd α} {e : Nat} {base : Nat} {ok : Nat → Prop} {v : Value} {xs : List α} (h : IsS48 w0 W g f0 f1) (ho : d.S e W base ok v xs) (ht : e ≠ 48) : some g ≠ v.ownBlock := by
 obtain ⟨hb, hg⟩ := h
 exact Kd.S_ne ho hb ht
theorem IsS48.lt {w0 W : World} {g : Nat} {f0 : ByteArray} {f1 : Int} (h : IsS48 w0 W g f0 f1) : g < W.heap.size := by
 obtain ⟨hb, hg⟩ := h
 exact blk_lt hb
theorem IsS48.ge {w0 W : World} {g : Nat} {f0 : ByteArray} {f1 : Int} (h : IsS48 w0 W g f0 f1) : w0.heap.size ≤ g := by
 obtain ⟨hb, hg⟩ := h
 exact hg
theorem IsS48.ne_blk {w0 W : World} {g : Nat} {f0 : ByteArray} {f1 : Int} {a : Nat} {cs : Array Value} {t : TypeId} {fr : Nat × Nat} (h : IsS48 w0 W g f0 f1) (hb2 : W.heap[a]? = some (.cells cs t fr)) (ht : t ≠ 48) : g ≠ a := by
 obtain ⟨hb, hg⟩ := h
 rintro rfl
 rw [hb] at hb2
 injection hb2 with hb2
 injection hb2 with _ ht2
 exact ht ht2.symm
theorem IsS48.far {w0 W : World} {g : Nat} {f0 : ByteArray} {f1 : Int} {p : Addr} (h : IsS48 w0 W g f0 f1) (hne : g ≠ p.block) (u : Value) : IsS48 w0 (W.setCell p u) g f0 f1 := by
 obtain ⟨hb, hg⟩ := h
 exact ⟨blk_far hb hne u, hg⟩
theorem cellS48_0 {W : World} {g : Nat} {f0 : ByteArray} {f1 : Int} (h : W.heap[g]? = some (.cells #[.string f0, .int .i64 f1] 48 (0, 0))) : W.cell? ⟨g, 0, none⟩ = some (.string f0) := (blk_cell h 0).trans rfl
theorem IsS48.set_0 {w0 W : World} {g : Nat} {f0 : ByteArray} {f1 : Int} (h : IsS48 w0 W g f0 f1) (x : ByteArray) : IsS48 w0 (W.setCell ⟨g, 0, none⟩ (.string x)) g x f1 := by
 obtain ⟨hb, hg⟩ := h
 exact ⟨by simpa using blk_set hb 0 (.string x), hg⟩
theorem cellS48_1 {W : World} {g : Nat} {f0 : ByteArray} {f1 : Int} (h : W.heap[g]? = some (.cells #[.string f0, .int .i64 f1] 48 (0, 0))) : W.cell? ⟨g, 1, none⟩ = some (.int .i64 f1) := (blk_cell h 1).trans rfl
theorem IsS48.set_1 {w0 W : World} {g : Nat} {f0 : ByteArray} {f1 : Int} (h : IsS48 w0 W g f0 f1) (x : Int) : IsS48 w0 (W.setCell ⟨g, 1, none⟩ (.int .i64 x)) g f0 x := by
 obtain ⟨hb, hg⟩ := h
 exact ⟨by simpa using blk_set hb 1 (.int .i64 x), hg⟩
theorem IsS48.new (w0 W : World) (f0 : ByteArray) (f1 : Int) (hB : Below w0.heap.size w0 W) : IsS48 w0 (W.alloc (.cells #[.string f0, .int .i64 f1] 48)) W.heap.size f0 f1 := ⟨by simpa using heap_alloc_new W _, hB.size⟩
/-! ### token_reader_done: function 29 -/
def token_reader_done.f (s0_0 : ByteArray) (s0_1 : Int) : Option (Bool × ByteArray × Int) := some (decide (s0_1 ≥ (s0_0.size : Int)), s0_0, s0_1)
set_option maxHeartbeats 8000000 in
set_option maxRecDepth 100000 in
theorem token_reader_done.calls (g : Nat) (s0_0 : ByteArray) (s0_1 : Int) (r1 : Bool) (r2 : ByteArray) (r3 : Int) (w0 w : World) (hI : IsS48 w0 w g s0_0 s0_1) (hB : Below w0.heap.size w0 w) (h : token_reader_done.f s0_0 s0_1 = some (r1, r2, r3)) :
    Calls Try.prog 29 #[.pointer (some ⟨g, 0, none⟩)] w fun e w' => e = .returned (.bool r1) ∧ IsS48 w0 w' g r2 r3 ∧ Below w0.heap.size w0 w' ∧ KeepBut w w' g none := by
 have HI0 := Aside0.mk hI
 have HK := Aside0.mk (KeepBut.refl w g none)
 have HL := Aside0.mk hB.size
 clear hI
 have HW0 := Aside0.mk hB.size
 have HB := Aside0.mk hB
 clear hB
 have H : (some (decide (s0_1 ≥ (s0_0.size : Int)), s0_0, s0_1)) = some (r1, r2, r3) := h
 clear h
 simp only [Option.some.injEq, Prod.mk.injEq] at H
 obtain ⟨rfl, rfl, rfl⟩ := H
 obtain ⟨HGz2, hgz2⟩ := HI0.out
 have hcz2_0 := cellS48_0 HGz2
 have hcz2_1 := cellS48_1 HGz2
 have hfz2_0 := blk_frozen HGz2 0
 have hfz2_1 := blk_frozen HGz2 1
 clear HGz2 hgz2
 go_enter Try.func29, Try.ntmps29
 go_wp2
 repeat (go_quiet (fail); try go_wp2)
 go_ret
 exact ⟨by first | rfl | (simp [errW_none, errW_some] <;> rfl) | (simp [*, errW_none, errW_some] <;> rfl), by repeat (first | (with_reducible first | exact HI0.out | apply IsS48.alloc | apply IsS48.drewN | apply IsS48.drew | apply IsS48.set_0 | apply IsS48.set_1) | exact HI0.out), by repeat (first | (with_reducible first | exact HB.out | apply below_alloc | apply pw_below_drewN | apply below_drew1 | refine below_set ?_ (IsS48.ge HI0.out)) | exact HB.out), by repeat (first | (with_reducible first | exact HK.out | apply KeepBut.set_ | apply keep_drewN | apply keep_drew | apply keep_alloc) | exact HK.out)⟩
/-! ### stringslite_HasPrefix: function 86 -/
def stringslite_HasPrefix.f (a0 : ByteArray) (a1 : ByteArray) : Option (Bool) := if (a0.size : Int) ≥ (a1.size : Int) then (if 0 ≤ (a1.size : Int) then (if (a1.size : Int) ≤ (a0.size : Int) then (some ((a0.extract 0 ((a1.size : Int) : Int).toNat).toList == a1.toList)) else (none)) else (none)) else (some false)
set_option maxHeartbeats 8000000 in
set_option maxRecDepth 100000 in
theorem stringslite_HasPrefix.calls (a0 : ByteArray) (a1 : ByteArray) (r : Bool) (w : World) (h : stringslite_HasPrefix.f a0 a1 = some r) :
    Calls Try.prog 86 #[.string a0, .string a1] w fun e w' => e = .returned (.bool r) ∧ Drawn0 w w' := by
 have H : (if (a0.size : Int) ≥ (a1.size : Int) then (if 0 ≤ (a1.size : Int) then (if (a1.size : Int) ≤ (a0.size : Int) then (some ((a0.extract 0 ((a1.size : Int) : Int).toNat).toList == a1.toList)) else (none)) else (none)) else (some false)) = some r := h
 clear h
 by_cases c3 : (a0.size : Int) ≥ (a1.size : Int)
 ·
  rw [if_pos c3] at H
  have c3b0 : decide ((a1.size : Int) ≤ (a0.size : Int)) = true := decide_eq_true c3
  have c3b1 : decide (a1.size ≤ a0.size) = true := decide_eq_true (Int.ofNat_le.mp c3)
  clear c3
  by_cases c4 : 0 ≤ (a1.size : Int)
  ·
   rw [if_pos c4] at H
   have c4b0 := eq_true c4
   have c4b1 : decide (0 ≤ (a1.size : Int)) = true := decide_eq_true c4
   clear c4
   by_cases c5 : (a1.size : Int) ≤ (a0.size : Int)
   ·
    rw [if_pos c5] at H
    have c5b0 := eq_true c5
    have c5b1 : decide ((a1.size : Int) ≤ (a0.size : Int)) = true := decide_eq_true c5
    clear c5
    obtain rfl := Option.some.inj H
    go_enter Try.func86, Try.ntmps86
    go_wp2
    go_ret
    exact ⟨by first | rfl | (simp; done) | (simp [*]; done), by repeat (first | exact Drawn0.refl _ | apply Drawn0.step)⟩
   ·
    rw [if_neg c5] at H
    exact absurd H (by simp)
  ·
   rw [if_neg c4] at H
   exact absurd H (by simp)
 ·
  rw [if_neg c3] at H
  have c3b0 : decide ((a1.size : Int) ≤ (a0.size : Int)) = false := decide_eq_false c3
  have c3b1 : decide (a1.size ≤ a0.size) = false := decide_eq_false (fun h => c3 (Int.ofNat_le.mpr h))
  clear c3
  obtain rfl := Option.some.inj H
  go_enter Try.func86, Try.ntmps86
  go_wp2
  go_ret
  exact ⟨by first | rfl | (simp; done) | (simp [*]; done), by repeat (first | exact Drawn0.refl _ | apply Drawn0.step)⟩
/-! ### stringslite_CutPrefix: function 75 -/
def stringslite_CutPrefix.f (a0 : ByteArray) (a1 : ByteArray) : Option (ByteArray × Bool) := (stringslite_HasPrefix.f a0 a1).bind fun t101 => (if t101 = true then (if 0 ≤ (a1.size : Int) then (if (a1.size : Int) ≤ (a0.size : Int) then (some (a0.extract ((a1.size : Int) : Int).toNat a0.size, true)) else (none)) else (none)) else (some (a0, false)))
set_option maxHeartbeats 8000000 in
set_option maxRecDepth 100000 in
theorem stringslite_CutPrefix.calls (a0 : ByteArray) (a1 : ByteArray) (r1 : ByteArray) (r2 : Bool) (w : World) (h : stringslite_CutPrefix.f a0 a1 = some (r1, r2)) :
    Calls Try.prog 75 #[.string a0, .string a1] w fun e w' => e = .returned (.tuple #[.string r1, .bool r2]) ∧ Drawn0 w w' := by
 have H : ((stringslite_HasPrefix.f a0 a1).bind fun t101 => (if t101 = true then (if 0 ≤ (a1.size : Int) then (if (a1.size : Int) ≤ (a0.size : Int) then (some (a0.extract ((a1.size : Int) : Int).toNat a0.size, true)) else (none)) else (none)) else (some (a0, false)))) = some (r1, r2) := h
 clear h
 replace H := Option.bind_eq_some_iff.mp H
 obtain ⟨t101, A30, H⟩ := H
 try dsimp only at H
 have A3 := Aside0.mk A30
 clear A30
 go_enter Try.func75, Try.ntmps75
 go_wp2_with fail
 (with_reducible refine (stringslite_HasPrefix.calls a0 a1 t101 _ A3.out).mono ?_)
 rintro e w' ⟨rfl, ⟨nd, rfl⟩⟩
 by_cases c4 : t101 = true
 ·
  subst c4
  replace H := (if_pos rfl).symm.trans H
  by_cases c5 : 0 ≤ (a1.size : Int)
  ·
   rw [if_pos c5] at H
   have c5b0 := eq_true c5
   have c5b1 : decide (0 ≤ (a1.size : Int)) = true := decide_eq_true c5
   clear c5
   by_cases c6 : (a1.size : Int) ≤ (a0.size : Int)
   ·
    rw [if_pos c6] at H
    have c6b0 := eq_true c6
    have c6b1 : decide ((a1.size : Int) ≤ (a0.size : Int)) = true := decide_eq_true c6
    clear c6
    simp only [Option.some.injEq, Prod.mk.injEq] at H
    obtain ⟨rfl, rfl⟩ := H
    go_wp2
    go_ret2
    exact ⟨by first | rfl | (simp; done) | (simp [*]; done), by repeat (first | exact Drawn0.refl _ | apply Drawn0.step)⟩
   ·
    rw [if_neg c6] at H
    exact absurd H (by simp)
  ·
   rw [if_neg c5] at H
   exact absurd H (by simp)
 ·
  replace c4 := Bool.eq_false_iff.mpr c4
  subst c4
  replace H := (if_neg Bool.false_ne_true).symm.trans H
  simp only [Option.some.injEq, Prod.mk.injEq] at H
  obtain ⟨rfl, rfl⟩ := H
  go_wp2
  go_ret2
  exact ⟨by first | rfl | (simp; done) | (simp [*]; done), by repeat (first | exact Drawn0.refl _ | apply Drawn0.step)⟩
/-! ### strings_CutPrefix: function 54 -/
def strings_CutPrefix.f (a0 : ByteArray) (a1 : ByteArray) : Option (ByteArray × Bool) := (stringslite_CutPrefix.f a0 a1).bind fun bt102 => (some (bt102.1, bt102.2))
set_option maxHeartbeats 8000000 in
set_option maxRecDepth 100000 in
theorem strings_CutPrefix.calls (a0 : ByteArray) (a1 : ByteArray) (r1 : ByteArray) (r2 : Bool) (w : World) (h : strings_CutPrefix.f a0 a1 = some (r1, r2)) :
    Calls Try.prog 54 #[.string a0, .string a1] w fun e w' => e = .returned (.tuple #[.string r1, .bool r2]) ∧ Drawn0 w w' := by
 have H : ((stringslite_CutPrefix.f a0 a1).bind fun bt102 => (some (bt102.1, bt102.2))) = some (r1, r2) := h
 clear h
 replace H := Option.bind_eq_some_iff.mp H
 obtain ⟨⟨t102, t103⟩, A30, H⟩ := H
 try dsimp only at H
 have A3 := Aside0.mk A30
 clear A30
 go_enter Try.func54, Try.ntmps54
 go_wp2_with fail
 (with_reducible refine (stringslite_CutPrefix.calls a0 a1 t102 t103 _ A3.out).mono ?_)
 rintro e w' ⟨rfl, ⟨nd, rfl⟩⟩
 simp only [Option.some.injEq, Prod.mk.injEq] at H
 obtain ⟨rfl, rfl⟩ := H
 go_wp2
 go_ret2
 exact ⟨by first | rfl | (simp; done) | (simp [*]; done), by repeat (first | exact Drawn0.refl _ | apply Drawn0.step)⟩
/-! HAND kind_Lower: function 55 -/
/-- A byte as a small letter. -/
def kind_Lower.c (c : UInt8) : UInt8 := if 65 ≤ c.toNat ∧ c.toNat ≤ 90 then c ||| 32 else c
def kind_Lower.l (l : List UInt8) : List UInt8 := l.map kind_Lower.c
def kind_Lower.low (s : ByteArray) : ByteArray := ⟨(kind_Lower.l s.data.toList).toArray⟩
def kind_Lower.f (s : ByteArray) : Option ByteArray := if s.size ≤ 1000000000000 then some (kind_Lower.low s) else none
/-- Block B's first cells are these bytes. -/
def LB (w : World) (B : Nat) (l : List UInt8) : Prop := ∃ (C : Array Value) (fz : Nat × Nat), w.heap[B]? = some (.cells C 5 fz) ∧ l.length ≤ fz.1 ∧ l.length ≤ C.size ∧ ∀ j (hj : j < l.length), C[j]? = some (.int .u8 (l[j].toNat : Int))
theorem LB.cell {w : World} {B : Nat} {l : List UInt8} (h : LB w B l) (j : Nat) (hj : j < l.length) : w.cell? ⟨B, j, none⟩ = some (.int .u8 (l[j].toNat : Int)) := by
 obtain ⟨C, fz, hb, _, _, hc⟩ := h
 rw [Lib.cell_of_heap hb j, hc j hj]
theorem LB.free {w : World} {B : Nat} {l : List UInt8} (h : LB w B l) (j : Nat) (hj : j < l.length) : w.frozen? ⟨B, j, none⟩ = false := by
 obtain ⟨C, fz, hb, h1, _, hc⟩ := h
 unfold World.frozen?
 rw [hb]
 simp; omega
theorem LB.set {w : World} {B : Nat} {l : List UInt8} (h : LB w B l) (j : Nat) (c : UInt8) : LB (w.setCell ⟨B, j, none⟩ (.int .u8 (c.toNat : Int))) B (l.set j c) := by
 obtain ⟨C, fz, hb, h1, h2, hc⟩ := h
 refine ⟨C.setIfInBounds j (.int .u8 (c.toNat : Int)), fz, by simp [World.setCell, Array.getElem?_modify, hb], by simpa using h1, by simpa using h2, ?_⟩
 intro k hk
 rw [List.length_set] at hk
 rw [Array.getElem?_setIfInBounds, List.getElem_set]
 by_cases e : j = k
 ·
  subst e
  rw [if_pos rfl, if_pos rfl, if_pos (by omega)]
 ·
  rw [if_neg e, if_neg e, hc k hk]
theorem kind_Lower.up {c : UInt8} (h0 : 65 ≤ c.toNat) (h1 : c.toNat ≤ 90) : Go.bits .or .u8 (c.toNat : Int) 32 = ((kind_Lower.c c).toNat : Int) := by
 have : ∀ n : Fin 256, 65 ≤ n.val → n.val ≤ 90 → Go.bits .or .u8 ((UInt8.ofNat n.val).toNat : Int) 32 = ((kind_Lower.c (UInt8.ofNat n.val)).toNat : Int) := by decide +kernel
 have h := this ⟨c.toNat, c.toNat_lt⟩ h0 h1
 simpa using h
theorem kind_Lower.step (l : List UInt8) (k : Nat) (hk : k < l.length) : ((kind_Lower.l (l.take k)) ++ l.drop k).set k (kind_Lower.c l[k]) = kind_Lower.l (l.take (k + 1)) ++ l.drop (k + 1) := by
 have hl : (kind_Lower.l (l.take k)).length = k := by simp [kind_Lower.l]; omega
 rw [List.set_append_right _ _ (by omega), hl, Nat.sub_self, List.drop_eq_getElem_cons hk, List.set_cons_zero, List.take_succ_eq_append_getElem hk]
 simp only [kind_Lower.l, List.map_append, List.map_cons, List.map_nil, List.append_assoc, List.cons_append, List.nil_append]
theorem kind_Lower.same (l : List UInt8) (k : Nat) (hk : k < l.length) (h : kind_Lower.c l[k] = l[k]) : (kind_Lower.l (l.take k)) ++ l.drop k = kind_Lower.l (l.take (k + 1)) ++ l.drop (k + 1) := by
 rw [← kind_Lower.step l k hk, h]
 have hl : (kind_Lower.l (l.take k)).length = k := by simp [kind_Lower.l]; omega
 rw [List.set_append_right _ _ (by omega), hl, Nat.sub_self, List.drop_eq_getElem_cons hk, List.set_cons_zero]
set_option maxHeartbeats 2000000 in
set_option maxRecDepth 100000 in
theorem kind_Lower.any (s : ByteArray) (w : World) (hs : s.size ≤ 1000000000000) :
    Calls Try.prog 55 #[.string s] w fun e w' => e = .returned (.string (kind_Lower.low s)) ∧ Below w.heap.size w w' := by
 have hcv := Lib.run_convert_string_bytes (P := Try.prog) w 9 59 5 s Try.underlying9 Try.underlying59 Try.underlying5
 obtain ⟨W1, hW1⟩ : ∃ W, Lib.bytesWorld w 5 s = W := ⟨_, rfl⟩
 obtain ⟨cap, hcap⟩ : ∃ n, grownCap w s.size 0 5 = n := ⟨_, rfl⟩
 rw [hW1, hcap] at hcv
 have HB : Aside0 (Below w.heap.size w W1) := ⟨by
   subst hW1
   refine ⟨?_, ?_, ?_, by rw [Lib.bytesWorld_size]; omega, fun k hk => Lib.bytesWorld_at_old w _ s k hk⟩ <;> (unfold Lib.bytesWorld World.freeze; split <;> rfl)⟩
 have HL : Aside0 (LB W1 w.heap.size s.data.toList) := ⟨by
   subst hW1
   refine ⟨_, _, Lib.bytesWorld_at_new w _ s, ?_, ?_, ?_⟩
   · simp [Lib.bytesCells]
   · simp [Lib.bytesCells]
   · intro j hj
     have hj' : j < s.data.size := by simpa using hj
     have hj2 : j < s.size := hj'
     simp [Lib.bytesCells, Array.getElem?_append, hj', hj2]⟩
 obtain ⟨b0, hb0⟩ : ∃ b, w.heap.size = b := ⟨_, rfl⟩
 have HWB := Aside0.mk hb0
 rw [hb0] at HL hcv
 clear hW1 hcap hb0
 go_enter Try.func55, Try.ntmps55
 go_wp2
 clear hcv
 go_loopw [10] (fun v10 wr => ∃ k : Nat, k ≤ s.size ∧ v10 = .int .i64 k ∧ Aside0 (LB wr b0 (kind_Lower.l (s.data.toList.take k) ++ s.data.toList.drop k)) ∧ Aside0 (Below w.heap.size w wr)) (fun v10 _ => s.size - (intOf v10).toNat)
 case atStart => exact ⟨0, Nat.zero_le _, rfl, by simpa [kind_Lower.l] using HL, HB⟩
 case round =>
  clear HL HB
  obtain ⟨k, hk, rfl, HL, HB⟩ := hrel
  have hlen : (kind_Lower.l (s.data.toList.take k) ++ s.data.toList.drop k).length = s.size := by simp [kind_Lower.l]; omega
  by_cases hlt : k < s.size
  ·
   have hkd : k < s.data.toList.length := by simpa using hlt
   have hx : (kind_Lower.l (s.data.toList.take k) ++ s.data.toList.drop k)[k]'(by omega) = s.data.toList[k] := by
    rw [List.getElem_append_right (by simp [kind_Lower.l]; omega)]
    simp [kind_Lower.l, Nat.min_eq_left hk]
   have hcell := HL.out.cell k (by omega)
   rw [hx] at hcell
   have hfree := HL.out.free k (by omega)
   obtain ⟨c, hc⟩ : ∃ c, s.data.toList[k] = c := ⟨_, rfl⟩
   have hst := kind_Lower.step s.data.toList k hkd
   have hsm := kind_Lower.same s.data.toList k hkd
   rw [hc] at hcell hst hsm
   have HST := Aside0.mk hst
   have HSM := Aside0.mk hsm
   have hk0 : (0 : Int) ≤ (k : Int) := by omega
   have hk1 : (k : Int) < (s.size : Int) := by omega
   have hk9 : (k : Int) ≤ 1000000000000 := by omega
   clear hst hsm hx hc hlen hkd
   by_cases h0 : 65 ≤ c.toNat
   ·
    by_cases h1 : c.toNat ≤ 90
    ·
     have g0 : decide ((c.toNat : Int) ≥ 65) = true := by simp; omega
     have g1 : decide ((c.toNat : Int) ≤ 90) = true := by simp; omega
     have hor := kind_Lower.up h0 h1
     have HOR := Aside0.mk hor
     go_wp2
     go_roundw
     case rel => exact ⟨k + 1, by omega, by go_num, ⟨by have := HL.out.set k (kind_Lower.c c); rw [HST.out] at this; exact this⟩, ⟨HB.out.setCell (by rw [HWB.out]; exact Nat.le_refl _) _⟩⟩
     case measure => simp [intOf]; omega
    ·
     have g0 : decide ((c.toNat : Int) ≥ 65) = true := by simp; omega
     have g1 : decide ((c.toNat : Int) ≤ 90) = false := by simp; omega
     have hq : kind_Lower.c c = c := by unfold kind_Lower.c; rw [if_neg (by omega)]
     have HQ := Aside0.mk (HSM.out hq)
     clear hq
     go_wp2
     go_roundw
     case rel => exact ⟨k + 1, by omega, by go_num, ⟨by rw [← HQ.out]; exact HL.out⟩, HB⟩
     case measure => simp [intOf]; omega
   ·
    have g0 : decide ((c.toNat : Int) ≥ 65) = false := by simp; omega
    have hq : kind_Lower.c c = c := by unfold kind_Lower.c; rw [if_neg (by omega)]
    have HQ := Aside0.mk (HSM.out hq)
    clear hq
    go_wp2
    go_roundw
    case rel => exact ⟨k + 1, by omega, by go_num, ⟨by rw [← HQ.out]; exact HL.out⟩, HB⟩
    case measure => simp [intOf]; omega
  ·
   obtain rfl : k = s.size := by omega
   have e : kind_Lower.l (s.data.toList.take s.size) ++ s.data.toList.drop s.size = kind_Lower.l s.data.toList := by
    rw [List.take_of_length_le (by simp), List.drop_of_length_le (by simp), List.append_nil]
   have hL := HL.out
   rw [e] at hL
   have hbk := run_convert_bytes_back (P := Try.prog) wr 59 9 5 ⟨b0, 0, none⟩ cap (kind_Lower.l s.data.toList) Try.underlying59 Try.underlying5 Try.underlying9 (fun j hj => by
     have := hL.cell j hj
     have e : (Addr.add ⟨b0, 0, none⟩ j : Addr) = ⟨b0, j, none⟩ := by unfold Addr.add; split <;> simp_all
     rw [e]; exact this)
   have hl2 : (kind_Lower.l s.data.toList).length = s.size := by simp [kind_Lower.l]
   rw [hl2] at hbk
   clear hL hl2 e hlen HL
   go_wp2
   go_ret
   exact ⟨rfl, HB.out⟩
-- NOT PRINTED: function 80 (bytealg_IndexByteString)
-- NOT PRINTED: function 60 (stringslite_IndexByte)
/-! HAND strings_IndexByte: function 33 -/
def strings_IndexByte.f (a0 : ByteArray) (a1 : Int) : Option Int := some (Lib.indexByte a0.data.toList a1.toNat.toUInt8)
theorem strings_IndexByte.calls (a0 : ByteArray) (a1 : Int) (r : Int) (w : World) (h : strings_IndexByte.f a0 a1 = some r) :
    Calls Try.prog 33 #[.string a0, .int .u8 a1] w fun e w' => e = .returned (.int .i64 r) ∧ Drawn0 w w' := by
 obtain rfl := Option.some.inj h
 refine (Try.strings_IndexByte a0 a1 w).mono ?_
 rintro e w' ⟨rfl, rfl⟩
 exact ⟨rfl, Drawn0.refl _⟩
/-! ### kind_Space: function 76 -/
def kind_Space.f (a0 : Int) : Option (Bool) := if a0 = 9 then (some true) else (if a0 = 10 then (some true) else (if a0 = 12 then (some true) else (if a0 = 13 then (some true) else (if a0 = 32 then (some true) else (some false)))))
set_option maxHeartbeats 8000000 in
set_option maxRecDepth 100000 in
theorem kind_Space.calls (a0 : Int) (r : Bool) (w : World) (h : kind_Space.f a0 = some r) :
    Calls Try.prog 76 #[.int .u8 a0] w fun e w' => e = .returned (.bool r) ∧ Drawn0 w w' := by
 have H : (if a0 = 9 then (some true) else (if a0 = 10 then (some true) else (if a0 = 12 then (some true) else (if a0 = 13 then (some true) else (if a0 = 32 then (some true) else (some false)))))) = some r := h
 clear h
 by_cases c2 : a0 = 9
 ·
  rw [if_pos c2] at H
  have c2b0 : (a0 == 9) = true := beq_iff_eq.mpr c2
  have c2b1 : (a0 != 9) = false := bne_eq_false_iff_eq.mpr c2
  clear c2
  obtain rfl := Option.some.inj H
  go_enter Try.func76, Try.ntmps76
  go_wp2
  go_ret
  exact ⟨by first | rfl | (simp; done) | (simp [*]; done), by repeat (first | exact Drawn0.refl _ | apply Drawn0.step)⟩
 ·
  rw [if_neg c2] at H
  have c2b0 : (a0 == 9) = false := beq_eq_false_iff_ne.mpr c2
  have c2b1 : (a0 != 9) = true := bne_iff_ne.mpr c2
  by_cases c3 : a0 = 10
  ·
   rw [if_pos c3] at H
   have c3b0 : (a0 == 10) = true := beq_iff_eq.mpr c3
   have c3b1 : (a0 != 10) = false := bne_eq_false_iff_eq.mpr c3
   clear c3
   obtain rfl := Option.some.inj H
   go_enter Try.func76, Try.ntmps76
   go_wp2
   go_ret
   exact ⟨by first | rfl | (simp; done) | (simp [*]; done), by repeat (first | exact Drawn0.refl _ | apply Drawn0.step)⟩
  ·
   rw [if_neg c3] at H
   have c3b0 : (a0 == 10) = false := beq_eq_false_iff_ne.mpr c3
   have c3b1 : (a0 != 10) = true := bne_iff_ne.mpr c3
   by_cases c4 : a0 = 12
   ·
    rw [if_pos c4] at H
    have c4b0 : (a0 == 12) = true := beq_iff_eq.mpr c4
    have c4b1 : (a0 != 12) = false := bne_eq_false_iff_eq.mpr c4
    clear c4
    obtain rfl := Option.some.inj H
    go_enter Try.func76, Try.ntmps76
    go_wp2
    go_ret
    exact ⟨by first | rfl | (simp; done) | (simp [*]; done), by repeat (first | exact Drawn0.refl _ | apply Drawn0.step)⟩
   ·
    rw [if_neg c4] at H
    have c4b0 : (a0 == 12) = false := beq_eq_false_iff_ne.mpr c4
    have c4b1 : (a0 != 12) = true := bne_iff_ne.mpr c4
    by_cases c5 : a0 = 13
    ·
     rw [if_pos c5] at H
     have c5b0 : (a0 == 13) = true := beq_iff_eq.mpr c5
     have c5b1 : (a0 != 13) = false := bne_eq_false_iff_eq.mpr c5
     clear c5
     obtain rfl := Option.some.inj H
     go_enter Try.func76, Try.ntmps76
     go_wp2
     go_ret
     exact ⟨by first | rfl | (simp; done) | (simp [*]; done), by repeat (first | exact Drawn0.refl _ | apply Drawn0.step)⟩
    ·
     rw [if_neg c5] at H
     have c5b0 : (a0 == 13) = false := beq_eq_false_iff_ne.mpr c5
     have c5b1 : (a0 != 13) = true := bne_iff_ne.mpr c5
     by_cases c6 : a0 = 32
     ·
      rw [if_pos c6] at H
      have c6b0 : (a0 == 32) = true := beq_iff_eq.mpr c6
      have c6b1 : (a0 != 32) = false := bne_eq_false_iff_eq.mpr c6
      clear c6
      obtain rfl := Option.some.inj H
      go_enter Try.func76, Try.ntmps76
      go_wp2
      go_ret
      exact ⟨by first | rfl | (simp; done) | (simp [*]; done), by repeat (first | exact Drawn0.refl _ | apply Drawn0.step)⟩
     ·
      rw [if_neg c6] at H
      have c6b0 : (a0 == 32) = false := beq_eq_false_iff_ne.mpr c6
      have c6b1 : (a0 != 32) = true := bne_iff_ne.mpr c6
      obtain rfl := Option.some.inj H
      go_enter Try.func76, Try.ntmps76
      go_wp2
      go_ret
      exact ⟨by first | rfl | (simp; done) | (simp [*]; done), by repeat (first | exact Drawn0.refl _ | apply Drawn0.step)⟩
/-! ### token_ends_is: function 56 -/
def token_ends_is.f (a0 : ByteArray) (a1 : Int) : Option (Bool) := (kind_Space.f a1).bind fun t104 => (if t104 = true then (some true) else ((strings_IndexByte.f a0 a1).bind fun t105 => (some (decide (t105 ≥ 0)))))
set_option maxHeartbeats 8000000 in
set_option maxRecDepth 100000 in
theorem token_ends_is.calls (a0 : ByteArray) (a1 : Int) (r : Bool) (w : World) (h : token_ends_is.f a0 a1 = some r) :
    Calls Try.prog 56 #[.string a0, .int .u8 a1] w fun e w' => e = .returned (.bool r) ∧ Drawn0 w w' := by
 have H : ((kind_Space.f a1).bind fun t104 => (if t104 = true then (some true) else ((strings_IndexByte.f a0 a1).bind fun t105 => (some (decide (t105 ≥ 0)))))) = some r := h
 clear h
 replace H := Option.bind_eq_some_iff.mp H
 obtain ⟨t104, A30, H⟩ := H
 try dsimp only at H
 have A3 := Aside0.mk A30
 clear A30
 go_enter Try.func56, Try.ntmps56
 go_wp2_with fail
 (with_reducible refine (kind_Space.calls a1 t104 _ A3.out).mono ?_)
 rintro e w' ⟨rfl, ⟨nd, rfl⟩⟩
 by_cases c4 : t104 = true
 ·
  subst c4
  replace H := (if_pos rfl).symm.trans H
  obtain rfl := Option.some.inj H
  go_wp2
  go_ret
  exact ⟨by first | rfl | (simp; done) | (simp [*]; done), by repeat (first | exact Drawn0.refl _ | apply Drawn0.step)⟩
 ·
  replace c4 := Bool.eq_false_iff.mpr c4
  subst c4
  replace H := (if_neg Bool.false_ne_true).symm.trans H
  replace H := Option.bind_eq_some_iff.mp H
  obtain ⟨t105, A50, H⟩ := H
  try dsimp only at H
  have A5 := Aside0.mk A50
  clear A50
  go_wp2_with fail
  (with_reducible refine (strings_IndexByte.calls a0 a1 t105 _ A5.out).mono ?_)
  rintro e w' ⟨rfl, ⟨nd, rfl⟩⟩
  obtain rfl := Option.some.inj H
  go_wp2
  go_ret
  exact ⟨by first | rfl | (simp; done) | (simp [*]; done), by repeat (first | exact Drawn0.refl _ | apply Drawn0.step)⟩
-- NOT PRINTED: function 30 (token_closes)
/-! ### token_reader_rest: function 31 -/
def token_reader_rest.f (s0_0 : ByteArray) (s0_1 : Int) : Option (ByteArray × ByteArray × Int) := if 0 ≤ s0_1 then (if s0_1 ≤ (s0_0.size : Int) then (some (s0_0.extract (s0_1 : Int).toNat s0_0.size, s0_0, s0_1)) else (none)) else (none)
set_option maxHeartbeats 8000000 in
set_option maxRecDepth 100000 in
theorem token_reader_rest.calls (g : Nat) (s0_0 : ByteArray) (s0_1 : Int) (r1 : ByteArray) (r2 : ByteArray) (r3 : Int) (w0 w : World) (hI : IsS48 w0 w g s0_0 s0_1) (hB : Below w0.heap.size w0 w) (h : token_reader_rest.f s0_0 s0_1 = some (r1, r2, r3)) :
    Calls Try.prog 31 #[.pointer (some ⟨g, 0, none⟩)] w fun e w' => e = .returned (.string r1) ∧ IsS48 w0 w' g r2 r3 ∧ Below w0.heap.size w0 w' ∧ KeepBut w w' g none := by
 have HI0 := Aside0.mk hI
 have HK := Aside0.mk (KeepBut.refl w g none)
 have HL := Aside0.mk hB.size
 clear hI
 have HW0 := Aside0.mk hB.size
 have HB := Aside0.mk hB
 clear hB
 have H : (if 0 ≤ s0_1 then (if s0_1 ≤ (s0_0.size : Int) then (some (s0_0.extract (s0_1 : Int).toNat s0_0.size, s0_0, s0_1)) else (none)) else (none)) = some (r1, r2, r3) := h
 clear h
 by_cases c2 : 0 ≤ s0_1
 ·
  rw [if_pos c2] at H
  have c2b0 := eq_true c2
  have c2b1 : decide (0 ≤ s0_1) = true := decide_eq_true c2
  clear c2
  by_cases c3 : s0_1 ≤ (s0_0.size : Int)
  ·
   rw [if_pos c3] at H
   have c3b0 := eq_true c3
   have c3b1 : decide (s0_1 ≤ (s0_0.size : Int)) = true := decide_eq_true c3
   clear c3
   simp only [Option.some.injEq, Prod.mk.injEq] at H
   obtain ⟨rfl, rfl, rfl⟩ := H
   obtain ⟨HGz4, hgz4⟩ := HI0.out
   have hcz4_0 := cellS48_0 HGz4
   have hcz4_1 := cellS48_1 HGz4
   have hfz4_0 := blk_frozen HGz4 0
   have hfz4_1 := blk_frozen HGz4 1
   clear HGz4 hgz4
   go_enter Try.func31, Try.ntmps31
   go_wp2
   repeat (go_quiet (fail); try go_wp2)
   go_ret
   exact ⟨by first | rfl | (simp [errW_none, errW_some] <;> rfl) | (simp [*, errW_none, errW_some] <;> rfl), by repeat (first | (with_reducible first | exact HI0.out | apply IsS48.alloc | apply IsS48.drewN | apply IsS48.drew | apply IsS48.set_0 | apply IsS48.set_1) | exact HI0.out), by repeat (first | (with_reducible first | exact HB.out | apply below_alloc | apply pw_below_drewN | apply below_drew1 | refine below_set ?_ (IsS48.ge HI0.out)) | exact HB.out), by repeat (first | (with_reducible first | exact HK.out | apply KeepBut.set_ | apply keep_drewN | apply keep_drew | apply keep_alloc) | exact HK.out)⟩
  ·
   rw [if_neg c3] at H
   exact absurd H (by simp)
 ·
  rw [if_neg c2] at H
  exact absurd H (by simp)
/-! ### token_Get: function 16 -/
def token_Get.l0 : Nat → ByteArray → List (S41) → Int → Int → Option (ByteArray × Bool)
  | 0, _, _, _, _ => none
  | k + 1, x1, x8, x9, x10 => if x10 < x9 then (if 0 ≤ x10 then (if x10 < (x8.length : Int) then (if ((rd_T41 x8 x10).f0).toList = x1.toList then (some ((rd_T41 x8 x10).f1, true)) else (token_Get.l0 k x1 x8 x9 (wrap64 (x10 + 1)))) else (none)) else (none)) else (some ((⟨#[]⟩ : ByteArray), false))
def token_Get.f (k : Nat) (l0 : List (S41)) (a1 : ByteArray) : Option (ByteArray × Bool) := token_Get.l0 k a1 l0 (l0.length : Int) 0
theorem token_Get.mono_l : ∀ k, (∀ y0 y1 y2 y3, LeO (token_Get.l0 k y0 y1 y2 y3) (token_Get.l0 (k + 1) y0 y1 y2 y3))
  | 0 => fun _ _ _ _ r h => by simp [token_Get.l0] at h
  | k + 1 => by
    have ih0 := token_Get.mono_l k
    · intro y0 y1 y2 y3
      unfold token_Get.l0
      repeat' first
      | (with_reducible exact ih0 _ _ _ _)
      | (with_reducible exact LeO.refl _)
      | (with_reducible exact LeO.none _)
      | (with_reducible refine LeO.ite ?_ ?_)
      | (with_reducible refine LeO.bind ?_ (fun _ => ?_))
      | exact ih0 _ _ _ _
      | exact LeO.none _
      | refine LeO.ite ?_ ?_
      | refine LeO.bind ?_ (fun _ => ?_)
theorem token_Get.mono : ∀ a0 a1 k, LeO (token_Get.f k a0 a1) (token_Get.f (k + 1) a0 a1) := by
 intro a0 a1 k
 have ih0 := token_Get.mono_l k
 unfold token_Get.f
 repeat' first
     | (with_reducible exact ih0 _ _ _ _)
     | (with_reducible exact LeO.refl _)
     | (with_reducible exact LeO.none _)
     | (with_reducible refine LeO.ite ?_ ?_)
     | (with_reducible refine LeO.bind ?_ (fun _ => ?_))
     | exact ih0 _ _ _ _
     | exact LeO.none _
     | refine LeO.ite ?_ ?_
     | refine LeO.bind ?_ (fun _ => ?_)
set_option maxHeartbeats 8000000 in
set_option maxRecDepth 100000 in
theorem token_Get.calls (k : Nat) (A0 : Option Addr) (c0 : Nat) (l0 : List (S41)) (a1 : ByteArray) (r1 : ByteArray) (r2 : Bool) (w : World) (hr0 : Kd.C k41 w A0 l0.length l0) (hc0 : l0.length ≤ c0) (h : token_Get.f k l0 a1 = some (r1, r2)) :
    Calls Try.prog 16 #[.slice A0 l0.length c0, .string a1] w fun e w' => e = .returned (.tuple #[.string r1, .bool r2]) ∧ Below w.heap.size w w' := by
 have hu41 := Try.underlying41
 have HR0 := Aside0.mk hr0
 have HC0 := Aside0.mk hc0
 clear hr0 hc0
 have HB := Aside0.mk (Below.refl w.heap.size w)
 have H : (token_Get.l0 k a1 l0 (l0.length : Int) 0) = some (r1, r2) := h
 clear h
 have H' := Aside0.mk H
 clear H
 go_enter Try.func16, Try.ntmps16
 go_wp2
 go_loopg [10] k (fun kq v10 w' => ∃ (x10_1 : Int), v10 = .int .i64 x10_1 ∧ Aside0 (token_Get.l0 kq a1 l0 (l0.length : Int) x10_1 = some (r1, r2)) ∧ Aside0 (kq ≤ k) ∧ Aside0 (Below w.heap.size w w'))
 case atStart => exact ⟨(0), (by first | rfl | (simp; done) | (simp [*]; done)), H', ⟨Nat.le_refl _⟩, ⟨by repeat (first | (with_reducible first | exact HB.out | apply below_alloc | apply pw_below_drewN | apply below_drew1) | exact HB.out)⟩⟩
 case round =>
  clear H'
  try clear c1
  try clear p2
  obtain ⟨x10_1, rfl, HA, HK1, HB⟩ := hrel
  cases gk with
  | zero => exact absurd HA.out (by simp [token_Get.l0])
  | succ k1 =>
   have H := HA.out
   clear HA
   simp only [token_Get.l0] at H
   by_cases c3 : x10_1 < (l0.length : Int)
   ·
    rw [if_pos c3] at H
    have c3b0 : decide (x10_1 < (l0.length : Int)) = true := decide_eq_true c3
    clear c3
    by_cases c4 : 0 ≤ x10_1
    ·
     rw [if_pos c4] at H
     have c4b0 : decide (0 ≤ x10_1) = true := decide_eq_true c4
     clear c4
     by_cases c5 : x10_1 < (l0.length : Int)
     ·
      rw [if_pos c5] at H
      have c5b0 : decide (x10_1 < (l0.length : Int)) = true := decide_eq_true c5
      clear c5
      by_cases c6 : ((rd_T41 l0 x10_1).f0).toList = a1.toList
      ·
       rw [if_pos c6] at H
       have c6b0 : (((rd_T41 l0 x10_1).f0).toList == a1.toList) = true := beq_iff_eq.mpr c6
       have c6b1 : (((rd_T41 l0 x10_1).f0).toList != a1.toList) = false := bne_eq_false_iff_eq.mpr c6
       clear c6
       simp only [Option.some.injEq, Prod.mk.injEq] at H
       obtain ⟨rfl, rfl⟩ := H
       have p108 : 0 ≤ (x10_1 : Int) := of_decide_eq_true (by first | (with_reducible assumption) | assumption)
       have q108 : x10_1 < (l0.length : Int) := of_decide_eq_true (by first | (with_reducible assumption) | assumption)
       obtain ⟨ad108, e108, hx108_0, hx108_1⟩ := at_T41 HR0.out x10_1 p108 q108
       cases e108
       replace hx108_0 := (HB.out.cell (World.block_lt_of_cell? w _ hx108_0)).trans hx108_0
       replace hx108_1 := (HB.out.cell (World.block_lt_of_cell? w _ hx108_1)).trans hx108_1
       replace p108 := eq_true p108
       replace q108 := eq_true q108
       go_wp2_with (first | ((with_reducible refine gate_dst (N := 7) rfl ?_); refine box_event ?hg (N := 7) ?hd (cs := #[.string (⟨#[]⟩ : ByteArray), .string (⟨#[]⟩ : ByteArray)]) (t := 41) ?hr ?_; (case hd => rfl); (case hg => rfl); (case hr => first | (go_simp; done) | (go_simp; rfl)); intro gb109 hg w7 hbox hb; have n0_ := Aside0.mk (below_step (by repeat (first | (with_reducible first | exact HB.out | apply below_alloc | apply pw_below_drewN | apply below_drew1) | exact HB.out)) hb); have n1_ := Aside0.mk (hbox); have n2_ := Aside0.mk ((by rw [hg]; exact (below_size (by repeat (first | (with_reducible first | exact HB.out | apply below_alloc | apply pw_below_drewN | apply below_drew1) | exact HB.out))) : w.heap.size ≤ gb109)); have n3_ := Aside0.mk ((by rw [hg]; exact (below_size (by repeat (first | (with_reducible first | exact HB.out | apply below_alloc | apply pw_below_drewN | apply below_drew1) | exact HB.out))) : w.heap.size ≤ gb109)); clear HB; have HB := n0_; have BK109 := n1_; have GW109 := n2_; have GE109 := n3_; clear n0_ n1_ n2_ n3_; clear hb hbox hg; have hcz8_0 : w7.cell? ⟨gb109, 0, none⟩ = some (.string (⟨#[]⟩ : ByteArray)) := (blk_cell BK109.out 0).trans rfl; have hcz8_1 : w7.cell? ⟨gb109, 1, none⟩ = some (.string (⟨#[]⟩ : ByteArray)) := (blk_cell BK109.out 1).trans rfl; have hfz8_0 := blk_frozen BK109.out 0; have hfz8_1 := blk_frozen BK109.out 1))
       go_ret2
       exact ⟨by first | rfl | (simp [errW_none, errW_some] <;> rfl) | (simp [*, errW_none, errW_some] <;> rfl), by repeat (first | (with_reducible first | exact HB.out | apply below_alloc | apply pw_below_drewN | apply below_drew1 | refine below_set ?_ GE109.out) | exact HB.out)⟩
      ·
       rw [if_neg c6] at H
       have c6b0 : (((rd_T41 l0 x10_1).f0).toList == a1.toList) = false := beq_eq_false_iff_ne.mpr c6
       have c6b1 : (((rd_T41 l0 x10_1).f0).toList != a1.toList) = true := bne_iff_ne.mpr c6
       have H' := Aside0.mk H
       clear H
       have p108 : 0 ≤ (x10_1 : Int) := of_decide_eq_true (by first | (with_reducible assumption) | assumption)
       have q108 : x10_1 < (l0.length : Int) := of_decide_eq_true (by first | (with_reducible assumption) | assumption)
       obtain ⟨ad108, e108, hx108_0, hx108_1⟩ := at_T41 HR0.out x10_1 p108 q108
       cases e108
       replace hx108_0 := (HB.out.cell (World.block_lt_of_cell? w _ hx108_0)).trans hx108_0
       replace hx108_1 := (HB.out.cell (World.block_lt_of_cell? w _ hx108_1)).trans hx108_1
       replace p108 := eq_true p108
       replace q108 := eq_true q108
       go_wp2_with (first | ((with_reducible refine gate_dst (N := 7) rfl ?_); refine box_event ?hg (N := 7) ?hd (cs := #[.string (⟨#[]⟩ : ByteArray), .string (⟨#[]⟩ : ByteArray)]) (t := 41) ?hr ?_; (case hd => rfl); (case hg => rfl); (case hr => first | (go_simp; done) | (go_simp; rfl)); intro gb109 hg w9 hbox hb; have n0_ := Aside0.mk (below_step (by repeat (first | (with_reducible first | exact HB.out | apply below_alloc | apply pw_below_drewN | apply below_drew1) | exact HB.out)) hb); have n1_ := Aside0.mk (hbox); have n2_ := Aside0.mk ((by rw [hg]; exact (below_size (by repeat (first | (with_reducible first | exact HB.out | apply below_alloc | apply pw_below_drewN | apply below_drew1) | exact HB.out))) : w.heap.size ≤ gb109)); have n3_ := Aside0.mk ((by rw [hg]; exact (below_size (by repeat (first | (with_reducible first | exact HB.out | apply below_alloc | apply pw_below_drewN | apply below_drew1) | exact HB.out))) : w.heap.size ≤ gb109)); clear HB; have HB := n0_; have BK109 := n1_; have GW109 := n2_; have GE109 := n3_; clear n0_ n1_ n2_ n3_; clear hb hbox hg; have hcz10_0 : w9.cell? ⟨gb109, 0, none⟩ = some (.string (⟨#[]⟩ : ByteArray)) := (blk_cell BK109.out 0).trans rfl; have hcz10_1 : w9.cell? ⟨gb109, 1, none⟩ = some (.string (⟨#[]⟩ : ByteArray)) := (blk_cell BK109.out 1).trans rfl; have hfz10_0 := blk_frozen BK109.out 0; have hfz10_1 := blk_frozen BK109.out 1))
       go_roundg k1
       case measure => have := HK1.out; omega
       case rel => exact ⟨(wrap64 (x10_1 + 1)), (by first | rfl | (simp; done) | (simp [*]; done)), H', ⟨by have := HK1.out; omega⟩, ⟨by repeat (first | (with_reducible first | exact HB.out | apply below_alloc | apply pw_below_drewN | apply below_drew1 | refine below_set ?_ GE109.out) | exact HB.out)⟩⟩
     ·
      rw [if_neg c5] at H
      exact absurd H (by simp)
    ·
     rw [if_neg c4] at H
     exact absurd H (by simp)
   ·
    rw [if_neg c3] at H
    have c3b0 : decide (x10_1 < (l0.length : Int)) = false := decide_eq_false c3
    clear c3
    simp only [Option.some.injEq, Prod.mk.injEq] at H
    obtain ⟨rfl, rfl⟩ := H
    go_wp2
    go_ret2
    exact ⟨by first | rfl | (simp [errW_none, errW_some] <;> rfl) | (simp [*, errW_none, errW_some] <;> rfl), by repeat (first | (with_reducible first | exact HB.out | apply below_alloc | apply pw_below_drewN | apply below_drew1) | exact HB.out)⟩
/-! ### strings_HasPrefix: function 65 -/
def strings_HasPrefix.f (a0 : ByteArray) (a1 : ByteArray) : Option (Bool) := (stringslite_HasPrefix.f a0 a1).bind fun t110 => (some t110)
set_option maxHeartbeats 8000000 in
set_option maxRecDepth 100000 in
theorem strings_HasPrefix.calls (a0 : ByteArray) (a1 : ByteArray) (r : Bool) (w : World) (h : strings_HasPrefix.f a0 a1 = some r) :
    Calls Try.prog 65 #[.string a0, .string a1] w fun e w' => e = .returned (.bool r) ∧ Drawn0 w w' := by
 have H : ((stringslite_HasPrefix.f a0 a1).bind fun t110 => (some t110)) = some r := h
 clear h
 replace H := Option.bind_eq_some_iff.mp H
 obtain ⟨t110, A30, H⟩ := H
 try dsimp only at H
 have A3 := Aside0.mk A30
 clear A30
 go_enter Try.func65, Try.ntmps65
 go_wp2_with fail
 (with_reducible refine (stringslite_HasPrefix.calls a0 a1 t110 _ A3.out).mono ?_)
 rintro e w' ⟨rfl, ⟨nd, rfl⟩⟩
 obtain rfl := Option.some.inj H
 go_wp2
 go_ret
 exact ⟨by first | rfl | (simp; done) | (simp [*]; done), by repeat (first | exact Drawn0.refl _ | apply Drawn0.step)⟩
/-! ### token_reader_past: function 39 -/
def token_reader_past.f (s0_0 : ByteArray) (s0_1 : Int) (a1 : ByteArray) : Option (Bool × ByteArray × Int) := (token_reader_rest.f s0_0 s0_1).bind fun bt111 => ((strings_HasPrefix.f bt111.1 a1).bind fun t114 => (if t114 = true then (some (true, bt111.2.1, wrap64 (bt111.2.2 + (a1.size : Int)))) else (some (false, bt111.2.1, bt111.2.2))))
set_option maxHeartbeats 8000000 in
set_option maxRecDepth 100000 in
theorem token_reader_past.calls (g : Nat) (s0_0 : ByteArray) (s0_1 : Int) (a1 : ByteArray) (r1 : Bool) (r2 : ByteArray) (r3 : Int) (w0 w : World) (hI : IsS48 w0 w g s0_0 s0_1) (hB : Below w0.heap.size w0 w) (h : token_reader_past.f s0_0 s0_1 a1 = some (r1, r2, r3)) :
    Calls Try.prog 39 #[.pointer (some ⟨g, 0, none⟩), .string a1] w fun e w' => e = .returned (.bool r1) ∧ IsS48 w0 w' g r2 r3 ∧ Below w0.heap.size w0 w' ∧ KeepBut w w' g none := by
 have HI0 := Aside0.mk hI
 have HK := Aside0.mk (KeepBut.refl w g none)
 have HL := Aside0.mk hB.size
 clear hI
 have HW0 := Aside0.mk hB.size
 have HB := Aside0.mk hB
 clear hB
 have H : ((token_reader_rest.f s0_0 s0_1).bind fun bt111 => ((strings_HasPrefix.f bt111.1 a1).bind fun t114 => (if t114 = true then (some (true, bt111.2.1, wrap64 (bt111.2.2 + (a1.size : Int)))) else (some (false, bt111.2.1, bt111.2.2))))) = some (r1, r2, r3) := h
 clear h
 replace H := Option.bind_eq_some_iff.mp H
 obtain ⟨⟨t111, t112, t113⟩, A30, H⟩ := H
 replace H : ((strings_HasPrefix.f t111 a1).bind fun t114 => (if t114 = true then (some (true, t112, wrap64 (t113 + (a1.size : Int)))) else (some (false, t112, t113)))) = some (r1, r2, r3) := H
 have A3 := Aside0.mk A30
 clear A30
 replace H := Option.bind_eq_some_iff.mp H
 obtain ⟨t114, A40, H⟩ := H
 replace H : (if t114 = true then (some (true, t112, wrap64 (t113 + (a1.size : Int)))) else (some (false, t112, t113))) = some (r1, r2, r3) := H
 have A4 := Aside0.mk A40
 clear A40
 by_cases c5 : t114 = true
 ·
  subst c5
  have H1 : (some (true, t112, wrap64 (t113 + (a1.size : Int)))) = some (r1, r2, r3) := by rw [if_pos rfl] at H; exact H
  clear H
  have H := H1
  clear H1
  simp only [Option.some.injEq, Prod.mk.injEq] at H
  obtain ⟨rfl, rfl, rfl⟩ := H
  go_enter Try.func39, Try.ntmps39
  go_wp2_with (first | ((with_reducible refine gate_callee (f := 31) rfl ?_); refine goesL_ (some 6) rfl rfl Try.func31 (by kernel_rfl) rfl #[.pointer (some ⟨g, 0, none⟩)] rfl (by (try simp only [List.map_toArray, List.map_cons, List.map_nil]); first | done | rfl | (simp only [List.length_drop, List.length_take]; rfl)) ?_; (with_reducible refine (token_reader_rest.calls g s0_0 s0_1 t111 t112 t113 w0 _ ?side1 ?side2 A3.out).mono ?_); (case side1 => repeat (first | (with_reducible first | exact HI0.out | apply IsS48.alloc | apply IsS48.drewN | apply IsS48.drew | apply IsS48.set_0 | apply IsS48.set_1) | exact HI0.out)); (case side2 => repeat (first | (with_reducible first | exact HB.out | apply below_alloc | apply pw_below_drewN | apply below_drew1 | refine below_set ?_ (IsS48.ge HI0.out)) | exact HB.out)); rintro e w6 ⟨rfl, hi, hb, hk⟩; refine ⟨_, rfl, ?_⟩; have n0_ := Aside0.mk (KeepBut.trans (by repeat (first | (with_reducible first | exact HK.out | apply KeepBut.set_ | apply keep_drewN | apply keep_drew | apply keep_alloc) | exact HK.out)) hk (.inl rfl)); have n1_ := Aside0.mk (hb); have n2_ := Aside0.mk (hi); clear HK; clear HB; clear HI0; have HK := n0_; have HB := n1_; have HI0 := n2_; clear n0_ n1_ n2_; (try clear hb); (try clear hb2); (try clear hk); (try clear hi)) | ((with_reducible refine gate_callee (f := 65) rfl ?_); refine goesL_ (some 8) rfl rfl Try.func65 (by kernel_rfl) rfl #[.string t111, .string a1] rfl (by (try simp only [List.map_toArray, List.map_cons, List.map_nil]); first | done | rfl | (simp only [List.length_drop, List.length_take]; rfl)) ?_; (with_reducible refine (strings_HasPrefix.calls t111 a1 true _ A4.out).mono ?_); rintro e w' ⟨rfl, ⟨nd, rfl⟩⟩; refine ⟨_, rfl, ?_⟩; (try (rw [drewN_self w6]; generalize hq_ : World.drewN w6 _ = w6; have n0_ : Aside0 (IsS48 w0 w6 g t112 t113) := ⟨by rw [← hq_]; exact (by repeat (first | (with_reducible first | exact HI0.out | apply IsS48.alloc | apply IsS48.drewN | apply IsS48.drew | apply IsS48.set_0 | apply IsS48.set_1) | exact HI0.out))⟩; have n1_ : Aside0 (KeepBut w w6 g none) := ⟨by rw [← hq_]; exact (by repeat (first | (with_reducible first | exact HK.out | apply KeepBut.set_ | apply keep_drewN | apply keep_drew | apply keep_alloc) | exact HK.out))⟩; have n2_ : Aside0 (Below w0.heap.size w0 w6) := ⟨by rw [← hq_]; exact (by repeat (first | (with_reducible first | exact HB.out | apply below_alloc | apply pw_below_drewN | apply below_drew1 | refine below_set ?_ (IsS48.ge HI0.out)) | exact HB.out))⟩; clear HI0 HK HB hq_; have HI0 := n0_; have HK := n1_; have HB := n2_; clear n0_ n1_ n2_)); obtain ⟨HGz7, hgz7⟩ := HI0.out; have hcz7_0 := cellS48_0 HGz7; have hcz7_1 := cellS48_1 HGz7; have hfz7_0 := blk_frozen HGz7 0; have hfz7_1 := blk_frozen HGz7 1; clear HGz7 hgz7))
  go_ret
  exact ⟨by first | rfl | (simp [errW_none, errW_some] <;> rfl) | (simp [*, errW_none, errW_some] <;> rfl), by repeat (first | (with_reducible first | exact HI0.out | apply IsS48.alloc | apply IsS48.drewN | apply IsS48.drew | apply IsS48.set_0 | apply IsS48.set_1) | exact HI0.out), by repeat (first | (with_reducible first | exact HB.out | apply below_alloc | apply pw_below_drewN | apply below_drew1 | refine below_set ?_ (IsS48.ge HI0.out)) | exact HB.out), by repeat (first | (with_reducible first | exact HK.out | apply KeepBut.set_ | apply keep_drewN | apply keep_drew | apply keep_alloc) | exact HK.out)⟩
 ·
  replace c5 := Bool.eq_false_iff.mpr c5
  subst c5
  have H1 : (some (false, t112, t113)) = some (r1, r2, r3) := by rw [if_neg (show ¬ (false = true) by decide)] at H; exact H
  clear H
  have H := H1
  clear H1
  simp only [Option.some.injEq, Prod.mk.injEq] at H
  obtain ⟨rfl, rfl, rfl⟩ := H
  go_enter Try.func39, Try.ntmps39
  go_wp2_with (first | ((with_reducible refine gate_callee (f := 31) rfl ?_); refine goesL_ (some 6) rfl rfl Try.func31 (by kernel_rfl) rfl #[.pointer (some ⟨g, 0, none⟩)] rfl (by (try simp only [List.map_toArray, List.map_cons, List.map_nil]); first | done | rfl | (simp only [List.length_drop, List.length_take]; rfl)) ?_; (with_reducible refine (token_reader_rest.calls g s0_0 s0_1 t111 t112 t113 w0 _ ?side1 ?side2 A3.out).mono ?_); (case side1 => repeat (first | (with_reducible first | exact HI0.out | apply IsS48.alloc | apply IsS48.drewN | apply IsS48.drew | apply IsS48.set_0 | apply IsS48.set_1) | exact HI0.out)); (case side2 => repeat (first | (with_reducible first | exact HB.out | apply below_alloc | apply pw_below_drewN | apply below_drew1 | refine below_set ?_ (IsS48.ge HI0.out)) | exact HB.out)); rintro e w8 ⟨rfl, hi, hb, hk⟩; refine ⟨_, rfl, ?_⟩; have n0_ := Aside0.mk (KeepBut.trans (by repeat (first | (with_reducible first | exact HK.out | apply KeepBut.set_ | apply keep_drewN | apply keep_drew | apply keep_alloc) | exact HK.out)) hk (.inl rfl)); have n1_ := Aside0.mk (hb); have n2_ := Aside0.mk (hi); clear HK; clear HB; clear HI0; have HK := n0_; have HB := n1_; have HI0 := n2_; clear n0_ n1_ n2_; (try clear hb); (try clear hb2); (try clear hk); (try clear hi)) | ((with_reducible refine gate_callee (f := 65) rfl ?_); refine goesL_ (some 8) rfl rfl Try.func65 (by kernel_rfl) rfl #[.string t111, .string a1] rfl (by (try simp only [List.map_toArray, List.map_cons, List.map_nil]); first | done | rfl | (simp only [List.length_drop, List.length_take]; rfl)) ?_; (with_reducible refine (strings_HasPrefix.calls t111 a1 false _ A4.out).mono ?_); rintro e w' ⟨rfl, ⟨nd, rfl⟩⟩; refine ⟨_, rfl, ?_⟩))
  go_ret
  exact ⟨by first | rfl | (simp [errW_none, errW_some] <;> rfl) | (simp [*, errW_none, errW_some] <;> rfl), by repeat (first | (with_reducible first | exact HI0.out | apply IsS48.alloc | apply IsS48.drewN | apply IsS48.drew | apply IsS48.set_0 | apply IsS48.set_1) | exact HI0.out), by repeat (first | (with_reducible first | exact HB.out | apply below_alloc | apply pw_below_drewN | apply below_drew1 | refine below_set ?_ (IsS48.ge HI0.out)) | exact HB.out), by repeat (first | (with_reducible first | exact HK.out | apply KeepBut.set_ | apply keep_drewN | apply keep_drew | apply keep_alloc) | exact HK.out)⟩
-- NOT PRINTED: function 77 (token_reader_gap_1)
/-! ### token_notSpace: function 78 -/
def token_notSpace.f (a0 : Int) : Option (Bool) := (kind_Space.f a0).bind fun t115 => (some (!t115))
set_option maxHeartbeats 8000000 in
set_option maxRecDepth 100000 in
theorem token_notSpace.calls (a0 : Int) (r : Bool) (w : World) (h : token_notSpace.f a0 = some r) :
    Calls Try.prog 78 #[.int .u8 a0] w fun e w' => e = .returned (.bool r) ∧ Drawn0 w w' := by
 have H : ((kind_Space.f a0).bind fun t115 => (some (!t115))) = some r := h
 clear h
 replace H := Option.bind_eq_some_iff.mp H
 obtain ⟨t115, A20, H⟩ := H
 try dsimp only at H
 have A2 := Aside0.mk A20
 clear A20
 go_enter Try.func78, Try.ntmps78
 go_wp2_with fail
 (with_reducible refine (kind_Space.calls a0 t115 _ A2.out).mono ?_)
 rintro e w' ⟨rfl, ⟨nd, rfl⟩⟩
 obtain rfl := Option.some.inj H
 go_wp2
 go_ret
 exact ⟨by first | rfl | (simp; done) | (simp [*]; done), by repeat (first | exact Drawn0.refl _ | apply Drawn0.step)⟩
/-! HAND token_reader_until: function 57 -/
/-- A reader's block. -/
def RD (w : World) (g : Nat) (s : ByteArray) (i : Int) : Prop := w.heap[g]? = some (.cells #[.string s, .int .i64 i] 48 (0, 0))
theorem RD.lt {w : World} {g : Nat} {s : ByteArray} {i : Int} (h : RD w g s i) : g < w.heap.size := (Array.getElem?_eq_some_iff.1 h).1
theorem RD.c0 {w : World} {g : Nat} {s : ByteArray} {i : Int} (h : RD w g s i) : w.cell? ⟨g, 0, none⟩ = some (.string s) := Lib.cell_of_heap h 0
theorem RD.c1 {w : World} {g : Nat} {s : ByteArray} {i : Int} (h : RD w g s i) : w.cell? ⟨g, 1, none⟩ = some (.int .i64 i) := Lib.cell_of_heap h 1
theorem RD.f {w : World} {g : Nat} {s : ByteArray} {i : Int} (h : RD w g s i) (j : Nat) : w.frozen? ⟨g, j, none⟩ = false := Lib.frozen_of_heap h j
theorem RD.set {w : World} {g : Nat} {s : ByteArray} {i : Int} (h : RD w g s i) (j : Int) : RD (w.setCell ⟨g, 1, none⟩ (.int .i64 j)) g s j := by
 unfold RD at *
 simp [World.setCell, Array.getElem?_modify, h]
theorem RD.keep {w w' : World} {g : Nat} {s : ByteArray} {i : Int} (h : RD w g s i) (hb : Below w.heap.size w w') : RD w' g s i := (hb.block g h.lt).trans h
/-- What a call leaves alone: all blocks that stood, but those of G. -/
structure Fr (G : Nat → Prop) (w w' : World) : Prop where
  os : w'.os = w.os
  tape : w'.tape = w.tape
  output : w'.output = w.output
  size : w.heap.size ≤ w'.heap.size
  block : ∀ k, k < w.heap.size → ¬ G k → w'.heap[k]? = w.heap[k]?
section
variable {G G1 : Nat → Prop} {w w1 w2 : World}
theorem Fr.refl (G : Nat → Prop) (w : World) : Fr G w w := ⟨rfl, rfl, rfl, Nat.le_refl _, fun _ _ _ => rfl⟩
theorem Fr.then_ (h : Fr G w w1) (k : Fr G1 w1 w2) (hs : ∀ i, G1 i → G i ∨ w.heap.size ≤ i) : Fr G w w2 :=
  ⟨k.os.trans h.os, k.tape.trans h.tape, k.output.trans h.output, Nat.le_trans h.size k.size, fun i hi hn => (k.block i (Nat.lt_of_lt_of_le hi h.size) (fun hg => (hs i hg).elim hn (by omega))).trans (h.block i hi hn)⟩
theorem Fr.trans (h : Fr G w w1) (k : Fr G w1 w2) : Fr G w w2 := h.then_ k fun _ h => Or.inl h
theorem Fr.of_below (h : Below w.heap.size w w1) : Fr G w w1 := ⟨h.os, h.tape, h.output, h.size, fun i hi _ => h.block i hi⟩
theorem Fr.below (h : Fr G w w1) (k : Below w1.heap.size w1 w2) : Fr G w w2 := h.trans (Fr.of_below k)
theorem Fr.drewN (h : Fr G w w1) (n : Nat) : Fr G w (w1.drewN n) := ⟨h.os, h.tape, h.output, h.size, h.block⟩
theorem Fr.drew (h : Fr G w w1) : Fr G w w1.drew := ⟨h.os, h.tape, h.output, h.size, h.block⟩
theorem Fr.alloc (h : Fr G w w1) (o : Obj) : Fr G w (w1.alloc o) := h.below ((Below.refl _ _).alloc (Nat.le_refl _) o)
theorem Fr.setCell (h : Fr G w w1) {p : Addr} (hp : G p.block ∨ w.heap.size ≤ p.block) (v : Value) : Fr G w (w1.setCell p v) :=
  ⟨h.os, h.tape, h.output, by simpa [World.setCell] using h.size, fun i hi hn => (Below.heap_setCell _ _ _ _ (fun e => by subst e; exact hp.elim hn (by omega))).trans (h.block i hi hn)⟩
theorem Fr.own {g : Nat} (h : Fr (· = g) w w1) (j : Nat) (v : Value) : Fr (· = g) w (w1.setCell ⟨g, j, none⟩ v) := h.setCell (p := ⟨g, j, none⟩) (Or.inl rfl) v
theorem Fr.to_below {B : Nat} {w0 : World} (h : Below B w0 w) (k : Fr G w w1) (hB : B ≤ w.heap.size) (hg : ∀ i, G i → B ≤ i) : Below B w0 w1 :=
  ⟨k.os.trans h.os, k.tape.trans h.tape, k.output.trans h.output, Nat.le_trans h.size k.size, fun i hi => (k.block i (by omega) (fun e => by have := hg i e; omega)).trans (h.block i hi)⟩
theorem Fr.keepBut {g : Nat} (h : Fr (· = g) w w1) : KeepBut w w1 g none := ⟨h.size, fun i hi hn _ => h.block i hi hn⟩
end
theorem RD.fr {w w' : World} {g : Nat} {s : ByteArray} {i : Int} {G : Nat → Prop} (h : RD w g s i) (hb : Fr G w w') (hg : ¬ G g) : RD w' g s i := (hb.block g h.lt hg).trans h
theorem RD.al {w : World} {g : Nat} {s : ByteArray} {i : Int} (h : RD w g s i) (o : Obj) : RD (w.alloc o) g s i := h.keep ((Below.refl _ _).alloc (Nat.le_refl _) _)
theorem RD.drN {w : World} {g : Nat} {s : ByteArray} {i : Int} (h : RD w g s i) (n : Nat) : RD (w.drewN n) g s i := h
theorem RD.dr {w : World} {g : Nat} {s : ByteArray} {i : Int} (h : RD w g s i) : RD w.drew g s i := h
theorem Below.drN {B : Nat} {w w1 : World} (h : Below B w w1) (n : Nat) : Below B w (w1.drewN n) := ⟨h.os, h.tape, h.output, h.size, h.block⟩
def token_until.sp (c : UInt8) : Bool := c == 9 || c == 10 || c == 12 || c == 13 || c == 32
theorem token_until.sp_ok (c : UInt8) : kind_Space.f (c.toNat : Int) = some (token_until.sp c) := by
 have : ∀ n : Fin 256, kind_Space.f ((UInt8.ofNat n.val).toNat : Int) = some (token_until.sp (UInt8.ofNat n.val)) := by decide +kernel
 have h := this ⟨c.toNat, c.toNat_lt⟩
 simpa using h
/-- How many bytes stand ahead of one that ends them. -/
def token_until.len (p : UInt8 → Bool) (l : List UInt8) : Nat := (l.takeWhile fun c => !p c).length
theorem token_until.len_le (p : UInt8 → Bool) (l : List UInt8) : token_until.len p l ≤ l.length := (List.takeWhile_prefix _).length_le
theorem token_until.len_stop (p : UInt8 → Bool) (s : ByteArray) (j : Nat) (h : j < s.size) (hp : p s[j] = true) : token_until.len p (s.data.toList.drop j) = 0 := by
 have h' : j < s.data.toList.length := by simpa using h
 have e : s.data.toList[j] = s[j] := rfl
 unfold token_until.len
 rw [List.drop_eq_getElem_cons h', e, List.takeWhile_cons, hp]; rfl
theorem token_until.len_go (p : UInt8 → Bool) (s : ByteArray) (j : Nat) (h : j < s.size) (hp : p s[j] = false) : token_until.len p (s.data.toList.drop j) = token_until.len p (s.data.toList.drop (j + 1)) + 1 := by
 have h' : j < s.data.toList.length := by simpa using h
 have e : s.data.toList[j] = s[j] := rfl
 unfold token_until.len
 rw [List.drop_eq_getElem_cons h', e, List.takeWhile_cons, hp]; rfl
theorem token_until.len_end (p : UInt8 → Bool) (s : ByteArray) (j : Nat) (h : ¬ j < s.size) : token_until.len p (s.data.toList.drop j) = 0 := by
 have h' : s.data.toList.length ≤ j := by simpa using h
 rw [List.drop_of_length_le h']; rfl
/-- Where the next byte that ends them stands, or the end. -/
def token_until.to (p : UInt8 → Bool) (s : ByteArray) (i : Nat) : Nat := i + token_until.len p (s.data.toList.drop i)
theorem token_until.to_le (p : UInt8 → Bool) (s : ByteArray) (i : Nat) (h : i ≤ s.size) : i ≤ token_until.to p s i ∧ token_until.to p s i ≤ s.size := by
 have := token_until.len_le p (s.data.toList.drop i)
 have e : (s.data.toList.drop i).length = s.size - i := by simp
 unfold token_until.to
 omega
theorem token_reader.done_any (g : Nat) (s : ByteArray) (j : Int) (b : Bool) (hb : decide (j ≥ (s.size : Int)) = b) (w : World) (h : RD w g s j) :
    Calls Try.prog 29 #[.pointer (some ⟨g, 0, none⟩)] w fun e w' => e = .returned (.bool b) ∧ ∃ n, w' = w.drewN n := by
 subst hb
 have c0 := h.c0
 have c1 := h.c1
 clear h
 go_enter Try.func29, Try.ntmps29
 go_wp2
 go_quiet (fail)
 go_wp2
 go_ret
 exact ⟨rfl, _, rfl⟩
def token_until.pN (c : UInt8) : Bool := !(token_until.sp c)
def token_until.pG (c : UInt8) : Bool := c != 47 && !(token_until.sp c)
def token_until.pE (t : ByteArray) (c : UInt8) : Bool := token_until.sp c || t.data.toList.contains c
theorem token_until.oneN (c : UInt8) (w : World) : Calls Try.prog 78 #[.int .u8 (c.toNat : Int)] w fun e w' => e = .returned (.bool (token_until.pN c)) ∧ ∃ n, w' = w.drewN n := by
 refine (token_notSpace.calls (c.toNat : Int) (token_until.pN c) w ?_).mono ?_
 ·
  have : ∀ n : Fin 256, token_notSpace.f ((UInt8.ofNat n.val).toNat : Int) = some (token_until.pN (UInt8.ofNat n.val)) := by decide +kernel
  have h := this ⟨c.toNat, c.toNat_lt⟩
  simpa using h
 ·
  rintro e w' ⟨rfl, n, h⟩; exact ⟨rfl, n, h⟩
set_option maxRecDepth 100000 in
theorem token_until.oneG (c : UInt8) (w : World) : Calls Try.prog 77 #[.int .u8 (c.toNat : Int)] w fun e w' => e = .returned (.bool (token_until.pG c)) ∧ ∃ n, w' = w.drewN n := by
 by_cases h : c = 47
 ·
  subst h
  go_enter Try.func77, Try.ntmps77
  go_wp2
  go_ret
  exact ⟨rfl, 0, rfl⟩
 ·
  have hb : ((c.toNat : Int) != 47) = true := by
   rw [bne_iff_ne]
   exact fun e => h (UInt8.toNat_inj.1 (by have : ((47 : UInt8).toNat : Int) = 47 := rfl; omega))
  have hp : token_until.pG c = !(token_until.sp c) := by
   unfold token_until.pG
   have : (c != 47) = true := by simpa using h
   rw [this, Bool.true_and]
  rw [hp]
  clear hp h
  go_enter Try.func77, Try.ntmps77
  go_wp2_with (first | (go_at_call 76; refine (kind_Space.calls (c.toNat : Int) (token_until.sp c) _ (token_until.sp_ok c)).mono ?_; rintro e w1 ⟨rfl, ⟨n1, rfl⟩⟩))
  go_ret
  exact ⟨rfl, n1, rfl⟩
theorem token_until.index (t : List UInt8) (c : UInt8) : decide (Lib.indexByte t c ≥ 0) = t.contains c := by
 rw [Bool.eq_iff_iff, decide_eq_true_iff, List.contains_iff_mem]
 constructor
 ·
  intro h
  obtain ⟨o, ho⟩ : ∃ o : Nat, Lib.indexByte t c = o := ⟨(Lib.indexByte t c).toNat, by omega⟩
  exact List.mem_of_getElem? (Lib.indexByte_some ho).1
 ·
  intro h
  have hge := Lib.indexByte_ge t c
  by_cases hn : Lib.indexByte t c = -1
  ·
   obtain ⟨k, hk⟩ := List.mem_iff_getElem?.1 h
   exact absurd hk (Lib.indexByte_none hn k)
  ·
   omega
theorem token_until.oneE (t : ByteArray) (c : UInt8) (w : World) : Calls Try.prog 56 #[.string t, .int .u8 (c.toNat : Int)] w fun e w' => e = .returned (.bool (token_until.pE t c)) ∧ ∃ n, w' = w.drewN n := by
 refine (token_ends_is.calls t (c.toNat : Int) (token_until.pE t c) w ?_).mono ?_
 ·
  unfold token_ends_is.f token_until.pE
  rw [token_until.sp_ok, Option.bind_some]
  cases token_until.sp c with
  | true => rw [if_pos rfl]; rfl
  | false =>
   rw [if_neg (by simp)]
   unfold strings_IndexByte.f
   rw [Option.bind_some, Bool.false_or, ← token_until.index]
   have e : (c.toNat : Int).toNat.toUInt8 = c := by simp
   rw [e]
 ·
  rintro e w' ⟨rfl, n, h⟩; exact ⟨rfl, n, h⟩
set_option maxHeartbeats 1000000 in
set_option maxRecDepth 100000 in
theorem token_reader.untilN (g : Nat) (s : ByteArray) (i : Nat) (w : World) (h : RD w g s i) (hi : i ≤ s.size) (hs : s.size ≤ 1000000000000) :
    Calls Try.prog 57 #[.pointer (some ⟨g, 0, none⟩), .func (.func 78) #[] #[]] w fun e w' => e = .returned (.string (s.extract i (token_until.to token_until.pN s i))) ∧ RD w' g s ((token_until.to token_until.pN s i : Nat) : Int) ∧ Fr (· = g) w w' := by
 have HS := Aside0.mk h
 have q1 := h.c1
 clear h
 go_enter Try.func57, Try.ntmps57
 go_wp2
 go_loopg [] (s.size - i) (fun kq wr => ∃ (j : Nat), Aside0 (i ≤ j ∧ j ≤ s.size ∧ kq + j = s.size ∧ token_until.to token_until.pN s j = token_until.to token_until.pN s i) ∧ Aside0 (RD wr g s j) ∧ Aside0 (Fr (· = g) w wr))
 case atStart => exact ⟨i, ⟨Nat.le_refl _, hi, by omega, rfl⟩, HS, ⟨Fr.refl _ w⟩⟩
 case round =>
  clear HS q1
  obtain ⟨j, HJ, HR, HK⟩ := hrel
  have HD := Aside0.mk HR.out
  have c0 := HR.out.c0
  have c1 := HR.out.c1
  have f1 := HR.out.f 1
  have hij : (i : Int) ≤ (j : Int) := by have := HJ.out; omega
  have hjs : (j : Int) ≤ (s.size : Int) := by have := HJ.out; omega
  have hi0 : (0 : Int) ≤ (i : Int) := by omega
  have hj9 : (j : Int) ≤ 1000000000000 := by omega
  by_cases hlt : j < s.size
  ·
   have hb : decide ((j : Int) ≥ (s.size : Int)) = false := by simp; omega
   have hj0 : (0 : Int) ≤ j := by omega
   have hj1 : (j : Int) < s.size := by omega
   cases hp : token_until.pN s[j] with
   | true =>
    have h1 : ∀ wx, Calls Try.prog 78 #[.int .u8 (s[j].toNat : Int)] wx fun e w' => e = .returned (.bool true) ∧ ∃ n, w' = wx.drewN n := fun wx => by
      have := token_until.oneN s[j] wx
      rw [hp] at this; exact this
    have HP := Aside0.mk hp
    clear hp
    go_wp2
    go_quiet (first | (go_at_call 29; exact Calls.quiet_of (token_reader.done_any g s j false hb _ HD.out)) | (go_at_call 78; exact Calls.quiet_of (h1 _)))
    go_wp2
    go_quiet (fail)
    go_wp2
    go_ret
    have hn : token_until.to token_until.pN s i = j := by
     have hz := token_until.len_stop _ s j hlt HP.out
     rw [← HJ.out.2.2.2]; unfold token_until.to; omega
    rw [hn]
    exact ⟨rfl, HR.out, (HK.out.drewN _).drewN _⟩
   | false =>
    have h1 : ∀ wx, Calls Try.prog 78 #[.int .u8 (s[j].toNat : Int)] wx fun e w' => e = .returned (.bool false) ∧ ∃ n, w' = wx.drewN n := fun wx => by
      have := token_until.oneN s[j] wx
      rw [hp] at this; exact this
    have HP := Aside0.mk hp
    clear hp
    go_wp2
    go_quiet (first | (go_at_call 29; exact Calls.quiet_of (token_reader.done_any g s j false hb _ HD.out)) | (go_at_call 78; exact Calls.quiet_of (h1 _)))
    go_wp2
    go_roundg (s.size - (j + 1))
    case measure => have := HJ.out; omega
    case rel =>
     refine ⟨j + 1, ⟨by have := HJ.out; omega, hlt, by omega, ?_⟩, ⟨HR.out.set _⟩, ⟨(HK.out.setCell (p := ⟨g, 1, none⟩) (Or.inl rfl) _).drewN _⟩⟩
     have hg := token_until.len_go _ s j hlt HP.out
     rw [← HJ.out.2.2.2]; unfold token_until.to; omega
  ·
   have hb : decide ((j : Int) ≥ (s.size : Int)) = true := by simp; omega
   go_wp2
   go_quiet (first | (go_at_call 29; exact Calls.quiet_of (token_reader.done_any g s j true hb _ HD.out)))
   go_wp2
   go_quiet (fail)
   go_wp2
   go_ret
   have hn : token_until.to token_until.pN s i = j := by
    have hz := token_until.len_end token_until.pN s j hlt
    rw [← HJ.out.2.2.2]; unfold token_until.to; omega
   rw [hn]
   exact ⟨rfl, HR.out, (HK.out.drewN _).drewN _⟩
set_option maxHeartbeats 1000000 in
set_option maxRecDepth 100000 in
theorem token_reader.untilG (g : Nat) (s : ByteArray) (i : Nat) (w : World) (h : RD w g s i) (hi : i ≤ s.size) (hs : s.size ≤ 1000000000000) :
    Calls Try.prog 57 #[.pointer (some ⟨g, 0, none⟩), .func (.func 77) #[] #[]] w fun e w' => e = .returned (.string (s.extract i (token_until.to token_until.pG s i))) ∧ RD w' g s ((token_until.to token_until.pG s i : Nat) : Int) ∧ Fr (· = g) w w' := by
 have HS := Aside0.mk h
 have q1 := h.c1
 clear h
 go_enter Try.func57, Try.ntmps57
 go_wp2
 go_loopg [] (s.size - i) (fun kq wr => ∃ (j : Nat), Aside0 (i ≤ j ∧ j ≤ s.size ∧ kq + j = s.size ∧ token_until.to token_until.pG s j = token_until.to token_until.pG s i) ∧ Aside0 (RD wr g s j) ∧ Aside0 (Fr (· = g) w wr))
 case atStart => exact ⟨i, ⟨Nat.le_refl _, hi, by omega, rfl⟩, HS, ⟨Fr.refl _ w⟩⟩
 case round =>
  clear HS q1
  obtain ⟨j, HJ, HR, HK⟩ := hrel
  have HD := Aside0.mk HR.out
  have c0 := HR.out.c0
  have c1 := HR.out.c1
  have f1 := HR.out.f 1
  have hij : (i : Int) ≤ (j : Int) := by have := HJ.out; omega
  have hjs : (j : Int) ≤ (s.size : Int) := by have := HJ.out; omega
  have hi0 : (0 : Int) ≤ (i : Int) := by omega
  have hj9 : (j : Int) ≤ 1000000000000 := by omega
  by_cases hlt : j < s.size
  ·
   have hb : decide ((j : Int) ≥ (s.size : Int)) = false := by simp; omega
   have hj0 : (0 : Int) ≤ j := by omega
   have hj1 : (j : Int) < s.size := by omega
   cases hp : token_until.pG s[j] with
   | true =>
    have h1 : ∀ wx, Calls Try.prog 77 #[.int .u8 (s[j].toNat : Int)] wx fun e w' => e = .returned (.bool true) ∧ ∃ n, w' = wx.drewN n := fun wx => by
      have := token_until.oneG s[j] wx
      rw [hp] at this; exact this
    have HP := Aside0.mk hp
    clear hp
    go_wp2
    go_quiet (first | (go_at_call 29; exact Calls.quiet_of (token_reader.done_any g s j false hb _ HD.out)) | (go_at_call 77; exact Calls.quiet_of (h1 _)))
    go_wp2
    go_quiet (fail)
    go_wp2
    go_ret
    have hn : token_until.to token_until.pG s i = j := by
     have hz := token_until.len_stop _ s j hlt HP.out
     rw [← HJ.out.2.2.2]; unfold token_until.to; omega
    rw [hn]
    exact ⟨rfl, HR.out, (HK.out.drewN _).drewN _⟩
   | false =>
    have h1 : ∀ wx, Calls Try.prog 77 #[.int .u8 (s[j].toNat : Int)] wx fun e w' => e = .returned (.bool false) ∧ ∃ n, w' = wx.drewN n := fun wx => by
      have := token_until.oneG s[j] wx
      rw [hp] at this; exact this
    have HP := Aside0.mk hp
    clear hp
    go_wp2
    go_quiet (first | (go_at_call 29; exact Calls.quiet_of (token_reader.done_any g s j false hb _ HD.out)) | (go_at_call 77; exact Calls.quiet_of (h1 _)))
    go_wp2
    go_roundg (s.size - (j + 1))
    case measure => have := HJ.out; omega
    case rel =>
     refine ⟨j + 1, ⟨by have := HJ.out; omega, hlt, by omega, ?_⟩, ⟨HR.out.set _⟩, ⟨(HK.out.setCell (p := ⟨g, 1, none⟩) (Or.inl rfl) _).drewN _⟩⟩
     have hg := token_until.len_go _ s j hlt HP.out
     rw [← HJ.out.2.2.2]; unfold token_until.to; omega
  ·
   have hb : decide ((j : Int) ≥ (s.size : Int)) = true := by simp; omega
   go_wp2
   go_quiet (first | (go_at_call 29; exact Calls.quiet_of (token_reader.done_any g s j true hb _ HD.out)))
   go_wp2
   go_quiet (fail)
   go_wp2
   go_ret
   have hn : token_until.to token_until.pG s i = j := by
    have hz := token_until.len_end token_until.pG s j hlt
    rw [← HJ.out.2.2.2]; unfold token_until.to; omega
   rw [hn]
   exact ⟨rfl, HR.out, (HK.out.drewN _).drewN _⟩
set_option maxHeartbeats 1000000 in
set_option maxRecDepth 100000 in
theorem token_reader.untilE (g : Nat) (s : ByteArray) (i : Nat) (t : ByteArray) (w : World) (h : RD w g s i) (hi : i ≤ s.size) (hs : s.size ≤ 1000000000000) :
    Calls Try.prog 57 #[.pointer (some ⟨g, 0, none⟩), .func (.func 56) #[.string t] #[]] w fun e w' => e = .returned (.string (s.extract i (token_until.to (token_until.pE t) s i))) ∧ RD w' g s ((token_until.to (token_until.pE t) s i : Nat) : Int) ∧ Fr (· = g) w w' := by
 have HS := Aside0.mk h
 have q1 := h.c1
 clear h
 go_enter Try.func57, Try.ntmps57
 go_wp2
 go_loopg [] (s.size - i) (fun kq wr => ∃ (j : Nat), Aside0 (i ≤ j ∧ j ≤ s.size ∧ kq + j = s.size ∧ token_until.to (token_until.pE t) s j = token_until.to (token_until.pE t) s i) ∧ Aside0 (RD wr g s j) ∧ Aside0 (Fr (· = g) w wr))
 case atStart => exact ⟨i, ⟨Nat.le_refl _, hi, by omega, rfl⟩, HS, ⟨Fr.refl _ w⟩⟩
 case round =>
  clear HS q1
  obtain ⟨j, HJ, HR, HK⟩ := hrel
  have HD := Aside0.mk HR.out
  have c0 := HR.out.c0
  have c1 := HR.out.c1
  have f1 := HR.out.f 1
  have hij : (i : Int) ≤ (j : Int) := by have := HJ.out; omega
  have hjs : (j : Int) ≤ (s.size : Int) := by have := HJ.out; omega
  have hi0 : (0 : Int) ≤ (i : Int) := by omega
  have hj9 : (j : Int) ≤ 1000000000000 := by omega
  by_cases hlt : j < s.size
  ·
   have hb : decide ((j : Int) ≥ (s.size : Int)) = false := by simp; omega
   have hj0 : (0 : Int) ≤ j := by omega
   have hj1 : (j : Int) < s.size := by omega
   cases hp : (token_until.pE t) s[j] with
   | true =>
    have h1 : ∀ wx, Calls Try.prog 56 #[.string t, .int .u8 (s[j].toNat : Int)] wx fun e w' => e = .returned (.bool true) ∧ ∃ n, w' = wx.drewN n := fun wx => by
      have := token_until.oneE t s[j] wx
      rw [hp] at this; exact this
    have HP := Aside0.mk hp
    clear hp
    go_wp2
    go_quiet (first | (go_at_call 29; exact Calls.quiet_of (token_reader.done_any g s j false hb _ HD.out)) | (go_at_call 56; exact Calls.quiet_of (h1 _)))
    go_wp2
    go_quiet (fail)
    go_wp2
    go_ret
    have hn : token_until.to (token_until.pE t) s i = j := by
     have hz := token_until.len_stop _ s j hlt HP.out
     rw [← HJ.out.2.2.2]; unfold token_until.to; omega
    rw [hn]
    exact ⟨rfl, HR.out, (HK.out.drewN _).drewN _⟩
   | false =>
    have h1 : ∀ wx, Calls Try.prog 56 #[.string t, .int .u8 (s[j].toNat : Int)] wx fun e w' => e = .returned (.bool false) ∧ ∃ n, w' = wx.drewN n := fun wx => by
      have := token_until.oneE t s[j] wx
      rw [hp] at this; exact this
    have HP := Aside0.mk hp
    clear hp
    go_wp2
    go_quiet (first | (go_at_call 29; exact Calls.quiet_of (token_reader.done_any g s j false hb _ HD.out)) | (go_at_call 56; exact Calls.quiet_of (h1 _)))
    go_wp2
    go_roundg (s.size - (j + 1))
    case measure => have := HJ.out; omega
    case rel =>
     refine ⟨j + 1, ⟨by have := HJ.out; omega, hlt, by omega, ?_⟩, ⟨HR.out.set _⟩, ⟨(HK.out.setCell (p := ⟨g, 1, none⟩) (Or.inl rfl) _).drewN _⟩⟩
     have hg := token_until.len_go _ s j hlt HP.out
     rw [← HJ.out.2.2.2]; unfold token_until.to; omega
  ·
   have hb : decide ((j : Int) ≥ (s.size : Int)) = true := by simp; omega
   go_wp2
   go_quiet (first | (go_at_call 29; exact Calls.quiet_of (token_reader.done_any g s j true hb _ HD.out)))
   go_wp2
   go_quiet (fail)
   go_wp2
   go_ret
   have hn : token_until.to (token_until.pE t) s i = j := by
    have hz := token_until.len_end (token_until.pE t) s j hlt
    rw [← HJ.out.2.2.2]; unfold token_until.to; omega
   rw [hn]
   exact ⟨rfl, HR.out, (HK.out.drewN _).drewN _⟩
-- NOT PRINTED: function 58 (token_reader_gap)
-- NOT PRINTED: function 81 (abi_NoEscape)
-- NOT PRINTED: function 61 (strings_Builder_copyCheck)
-- NOT PRINTED: function 34 (strings_Builder_WriteString)
-- NOT PRINTED: function 35 (strings_Builder_String)
/-! ### kind_Figure: function 85 -/
def kind_Figure.f (a0 : Int) : Option (Bool) := some (decide (((a0 - 48) % 256) < 10))
set_option maxHeartbeats 8000000 in
set_option maxRecDepth 100000 in
theorem kind_Figure.calls (a0 : Int) (r : Bool) (w : World) (h : kind_Figure.f a0 = some r) :
    Calls Try.prog 85 #[.int .u8 a0] w fun e w' => e = .returned (.bool r) ∧ Drawn0 w w' := by
 have H : (some (decide (((a0 - 48) % 256) < 10))) = some r := h
 clear h
 obtain rfl := Option.some.inj H
 go_enter Try.func85, Try.ntmps85
 go_wp2
 go_ret
 exact ⟨by first | rfl | (simp; done) | (simp [*]; done), by repeat (first | exact Drawn0.refl _ | apply Drawn0.step)⟩
/-! ### charref_hex: function 82 -/
def charref_hex.f (a0 : Int) : Option (Int × Bool) := (kind_Figure.f a0).bind fun t116 => (if t116 = true then (some ((a0 - 48) % 256, true)) else (if (Go.bits .or .u8 a0 32) ≥ 97 then (some ((((Go.bits .or .u8 a0 32) - 97) % 256) + 10, decide ((Go.bits .or .u8 a0 32) ≤ 102))) else (some ((((Go.bits .or .u8 a0 32) - 97) % 256) + 10, false))))
set_option maxHeartbeats 8000000 in
set_option maxRecDepth 100000 in
theorem charref_hex.calls (a0 : Int) (r1 : Int) (r2 : Bool) (w : World) (h : charref_hex.f a0 = some (r1, r2)) :
    Calls Try.prog 82 #[.int .u8 a0] w fun e w' => e = .returned (.tuple #[.int .i64 r1, .bool r2]) ∧ Drawn0 w w' := by
 have H : ((kind_Figure.f a0).bind fun t116 => (if t116 = true then (some ((a0 - 48) % 256, true)) else (if (Go.bits .or .u8 a0 32) ≥ 97 then (some ((((Go.bits .or .u8 a0 32) - 97) % 256) + 10, decide ((Go.bits .or .u8 a0 32) ≤ 102))) else (some ((((Go.bits .or .u8 a0 32) - 97) % 256) + 10, false))))) = some (r1, r2) := h
 clear h
 replace H := Option.bind_eq_some_iff.mp H
 obtain ⟨t116, A20, H⟩ := H
 try dsimp only at H
 have A2 := Aside0.mk A20
 clear A20
 go_enter Try.func82, Try.ntmps82
 go_wp2_with fail
 (with_reducible refine (kind_Figure.calls a0 t116 _ A2.out).mono ?_)
 rintro e w' ⟨rfl, ⟨nd, rfl⟩⟩
 by_cases c3 : t116 = true
 ·
  subst c3
  replace H := (if_pos rfl).symm.trans H
  simp only [Option.some.injEq, Prod.mk.injEq] at H
  obtain ⟨rfl, rfl⟩ := H
  go_wp2
  go_ret2
  exact ⟨by first | rfl | (simp; done) | (simp [*]; done), by repeat (first | exact Drawn0.refl _ | apply Drawn0.step)⟩
 ·
  replace c3 := Bool.eq_false_iff.mpr c3
  subst c3
  replace H := (if_neg Bool.false_ne_true).symm.trans H
  by_cases c4 : (Go.bits .or .u8 a0 32) ≥ 97
  ·
   rw [if_pos c4] at H
   have c4b0 : decide (97 ≤ (Go.bits .or .u8 a0 32)) = true := decide_eq_true c4
   clear c4
   simp only [Option.some.injEq, Prod.mk.injEq] at H
   obtain ⟨rfl, rfl⟩ := H
   go_wp2
   go_ret2
   exact ⟨by first | rfl | (simp; done) | (simp [*]; done), by repeat (first | exact Drawn0.refl _ | apply Drawn0.step)⟩
  ·
   rw [if_neg c4] at H
   have c4b0 : decide (97 ≤ (Go.bits .or .u8 a0 32)) = false := decide_eq_false c4
   clear c4
   simp only [Option.some.injEq, Prod.mk.injEq] at H
   obtain ⟨rfl, rfl⟩ := H
   go_wp2
   go_ret2
   exact ⟨by first | rfl | (simp; done) | (simp [*]; done), by repeat (first | exact Drawn0.refl _ | apply Drawn0.step)⟩
/-! ### utf8_ValidRune: function 93 -/
def utf8_ValidRune.j0 : Nat → Int → Bool → Option (Bool)
  | 0, _, _ => none
  | k + 1, x0, x3 => if x3 = true then (some true) else (if 57343 < x0 then (if x0 ≤ 1114111 then (some true) else (some false)) else (some false))
def utf8_ValidRune.f (k : Nat) (a0 : Int) : Option (Bool) := if 0 ≤ a0 then (utf8_ValidRune.j0 k a0 (decide (a0 < 55296))) else (utf8_ValidRune.j0 k a0 false)
theorem utf8_ValidRune.mono_l : ∀ k, (∀ y0 y1, LeO (utf8_ValidRune.j0 k y0 y1) (utf8_ValidRune.j0 (k + 1) y0 y1))
  | 0 => fun _ _ r h => by simp [utf8_ValidRune.j0] at h
  | k + 1 => by
    have ih0 := utf8_ValidRune.mono_l k
    · intro y0 y1
      unfold utf8_ValidRune.j0
      repeat' first
      | (with_reducible exact ih0 _ _)
      | (with_reducible exact LeO.refl _)
      | (with_reducible exact LeO.none _)
      | (with_reducible refine LeO.ite ?_ ?_)
      | (with_reducible refine LeO.bind ?_ (fun _ => ?_))
      | exact ih0 _ _
      | exact LeO.none _
      | refine LeO.ite ?_ ?_
      | refine LeO.bind ?_ (fun _ => ?_)
theorem utf8_ValidRune.mono : ∀ a0 k, LeO (utf8_ValidRune.f k a0) (utf8_ValidRune.f (k + 1) a0) := by
 intro a0 k
 have ih0 := utf8_ValidRune.mono_l k
 unfold utf8_ValidRune.f
 repeat' first
     | (with_reducible exact ih0 _ _)
     | (with_reducible exact LeO.refl _)
     | (with_reducible exact LeO.none _)
     | (with_reducible refine LeO.ite ?_ ?_)
     | (with_reducible refine LeO.bind ?_ (fun _ => ?_))
     | exact ih0 _ _
     | exact LeO.none _
     | refine LeO.ite ?_ ?_
     | refine LeO.bind ?_ (fun _ => ?_)
set_option maxHeartbeats 8000000 in
set_option maxRecDepth 100000 in
theorem utf8_ValidRune.calls (k : Nat) (a0 : Int) (r : Bool) (w : World) (h : utf8_ValidRune.f k a0 = some r) :
    Calls Try.prog 93 #[.int .i32 a0] w fun e w' => e = .returned (.bool r) ∧ Drawn0 w w' := by
 have H : (if 0 ≤ a0 then (utf8_ValidRune.j0 k a0 (decide (a0 < 55296))) else (utf8_ValidRune.j0 k a0 false)) = some r := h
 clear h
 have HC2 := Aside0.mk H
 clear H
 go_enter Try.func93, Try.ntmps93
 go_upto_region 1 with (fail)
 go_cut [3] (fun v3 wc => ∃ (kq : Nat) (x3_1 : Bool), v3 = .bool x3_1 ∧ Aside0 (utf8_ValidRune.j0 kq a0 x3_1 = some r) ∧ Aside0 (kq ≤ k) ∧ Drawn0 w wc)
 case first =>
  have H := HC2.out
  clear HC2
  by_cases c3 : 0 ≤ a0
  ·
   rw [if_pos c3] at H
   have c3b0 : decide (0 ≤ a0) = true := decide_eq_true c3
   clear c3
   (first | rw [c3b0] | (simp only [i64_w, i32_w]; rw [c3b0]) | skip)
   have H' := Aside0.mk H
   clear H
   go_wp2
   go_meet
   case rel => exact ⟨_, (decide (a0 < 55296)), (by first | rfl | (simp; done) | (simp [*]; done)), H', ⟨by first | omega | exact Nat.le_refl _⟩, by repeat (first | exact Drawn0.refl _ | apply Drawn0.step)⟩
  ·
   rw [if_neg c3] at H
   have c3b0 : decide (0 ≤ a0) = false := decide_eq_false c3
   clear c3
   (first | rw [c3b0] | (simp only [i64_w, i32_w]; rw [c3b0]) | skip)
   have H' := Aside0.mk H
   clear H
   go_wp2
   go_meet
   case rel => exact ⟨_, (false), (by first | rfl | (simp; done) | (simp [*]; done)), H', ⟨by first | omega | exact Nat.le_refl _⟩, by repeat (first | exact Drawn0.refl _ | apply Drawn0.step)⟩
 case rest =>
  clear HC2
  try clear p2
  try clear c3
  try clear c3b0
  obtain ⟨kq, x3_1, rfl, HA, HJ1, ⟨mc1, rfl⟩⟩ := hcut
  cases kq with
  | zero => exact absurd HA.out (by simp [utf8_ValidRune.j0])
  | succ kj1 =>
   have H := HA.out
   clear HA
   simp only [utf8_ValidRune.j0] at H
   by_cases c4 : x3_1 = true
   ·
    subst c4
    replace H := (if_pos rfl).symm.trans H
    obtain rfl := Option.some.inj H
    go_wp2
    go_ret
    exact ⟨by first | rfl | (simp; done) | (simp [*]; done), by repeat (first | exact Drawn0.refl _ | apply Drawn0.step)⟩
   ·
    replace c4 := Bool.eq_false_iff.mpr c4
    subst c4
    replace H := (if_neg Bool.false_ne_true).symm.trans H
    by_cases c5 : 57343 < a0
    ·
     rw [if_pos c5] at H
     have c5b0 : decide (57343 < a0) = true := decide_eq_true c5
     clear c5
     by_cases c6 : a0 ≤ 1114111
     ·
      rw [if_pos c6] at H
      have c6b0 : decide (a0 ≤ 1114111) = true := decide_eq_true c6
      clear c6
      obtain rfl := Option.some.inj H
      go_wp2
      go_ret
      exact ⟨by first | rfl | (simp; done) | (simp [*]; done), by repeat (first | exact Drawn0.refl _ | apply Drawn0.step)⟩
     ·
      rw [if_neg c6] at H
      have c6b0 : decide (a0 ≤ 1114111) = false := decide_eq_false c6
      clear c6
      obtain rfl := Option.some.inj H
      go_wp2
      go_ret
      exact ⟨by first | rfl | (simp; done) | (simp [*]; done), by repeat (first | exact Drawn0.refl _ | apply Drawn0.step)⟩
    ·
     rw [if_neg c5] at H
     have c5b0 : decide (57343 < a0) = false := decide_eq_false c5
     clear c5
     obtain rfl := Option.some.inj H
     go_wp2
     go_ret
     exact ⟨by first | rfl | (simp; done) | (simp [*]; done), by repeat (first | exact Drawn0.refl _ | apply Drawn0.step)⟩
/-! HAND charref_Number: function 83 -/
def charref_Number.tab : List Int := [8364, 129, 8218, 402, 8222, 8230, 8224, 8225, 710, 8240, 352, 8249, 338, 141, 381, 143, 144, 8216, 8217, 8220, 8221, 8226, 8211, 8212, 732, 8482, 353, 8250, 339, 157, 382, 376]
def charref_Number.f (a0 : Int) : Option ByteArray :=
  if a0 ≤ 0 ∨ 1114111 < a0 ∨ (55296 ≤ a0 ∧ a0 ≤ 57343) then some ⟨#[239, 191, 189]⟩
  else if 128 ≤ a0 ∧ a0 < 160 then some (Utf8.encode (charref_Number.tab.getD (a0 - 128).toNat 0))
  else some (Utf8.encode a0)
theorem charref_Number.valid (a0 : Int) (w : World) (h0 : 0 < a0) (h1 : a0 ≤ 1114111) (hs : ¬ (55296 ≤ a0 ∧ a0 ≤ 57343)) :
    Calls Try.prog 93 #[.int .i32 a0] w fun e w' => e = .returned (.bool true) ∧ Drawn0 w w' :=
  utf8_ValidRune.calls 1 a0 true w (by
    unfold utf8_ValidRune.f
    rw [if_pos (by omega)]
    by_cases h : a0 < 55296
    · simp [utf8_ValidRune.j0, h]
    · have h2 : 57343 < a0 := by omega
      simp [utf8_ValidRune.j0, h, h1, h2])
theorem charref_Number.invalid (a0 : Int) (w : World) (hs : 55296 ≤ a0 ∧ a0 ≤ 57343) :
    Calls Try.prog 93 #[.int .i32 a0] w fun e w' => e = .returned (.bool false) ∧ Drawn0 w w' :=
  utf8_ValidRune.calls 1 a0 false w (by
    unfold utf8_ValidRune.f
    rw [if_pos (by omega)]
    have h : ¬ a0 < 55296 := by omega
    have h2 : ¬ 57343 < a0 := by omega
    simp [utf8_ValidRune.j0, h, h2])
def charref_Number.cells : Array Value := #[.int .i32 8364, .int .i32 129, .int .i32 8218, .int .i32 402, .int .i32 8222, .int .i32 8230, .int .i32 8224, .int .i32 8225, .int .i32 710, .int .i32 8240, .int .i32 352, .int .i32 8249, .int .i32 338, .int .i32 141, .int .i32 381, .int .i32 143, .int .i32 144, .int .i32 8216, .int .i32 8217, .int .i32 8220, .int .i32 8221, .int .i32 8226, .int .i32 8211, .int .i32 8212, .int .i32 732, .int .i32 8482, .int .i32 353, .int .i32 8250, .int .i32 339, .int .i32 157, .int .i32 382, .int .i32 376]
def charref_Number.zeros : Array Value := #[.int .i32 0, .int .i32 0, .int .i32 0, .int .i32 0, .int .i32 0, .int .i32 0, .int .i32 0, .int .i32 0, .int .i32 0, .int .i32 0, .int .i32 0, .int .i32 0, .int .i32 0, .int .i32 0, .int .i32 0, .int .i32 0, .int .i32 0, .int .i32 0, .int .i32 0, .int .i32 0, .int .i32 0, .int .i32 0, .int .i32 0, .int .i32 0, .int .i32 0, .int .i32 0, .int .i32 0, .int .i32 0, .int .i32 0, .int .i32 0, .int .i32 0, .int .i32 0]
theorem charref_Number.store_wp (w : World) (K : Act → World → Prop) (Q : Exit → Act → World → Prop) (o : Oper) (a : Act) (ho : o.op = .store 98 (.tmp 3) (.tmp 4)) (h3 : a.eval (.tmp 3) = .pointer (some ⟨w.heap.size, 0, none⟩)) (h4 : a.eval (.tmp 4) = .agg charref_Number.cells) (h : K (a.put o.dst undef) (w.alloc (.cells charref_Number.cells 98))) : o.wp Try.prog a (w.alloc (.cells charref_Number.zeros 98)) K Q := by
 unfold Oper.wp execOp
 simp only [ho, h3, h4, run_storeAt_new (P := Try.prog) w 98 charref_Number.zeros charref_Number.cells (by kernel_rfl) rfl (by kernel_rfl), Sem.run_bind, Sem.run_pure, Result.andThen_ok]
 exact h
theorem charref_Number.cell (w : World) (j : Nat) (hj : j < 32) : (w.alloc (.cells charref_Number.cells 98)).cell? ⟨w.heap.size, j, none⟩ = some (.int .i32 (charref_Number.tab.getD j 0)) := by
 rw [cell_of_row _ _ _ _ _ _ (heap_alloc_last w _)]
 have : ∀ j, j < 32 → charref_Number.cells[j]? = some (.int .i32 (charref_Number.tab.getD j 0)) := by
  intro j hj
  match j, hj with
  | 0, _ => rfl
  | 1, _ => rfl
  | 2, _ => rfl
  | 3, _ => rfl
  | 4, _ => rfl
  | 5, _ => rfl
  | 6, _ => rfl
  | 7, _ => rfl
  | 8, _ => rfl
  | 9, _ => rfl
  | 10, _ => rfl
  | 11, _ => rfl
  | 12, _ => rfl
  | 13, _ => rfl
  | 14, _ => rfl
  | 15, _ => rfl
  | 16, _ => rfl
  | 17, _ => rfl
  | 18, _ => rfl
  | 19, _ => rfl
  | 20, _ => rfl
  | 21, _ => rfl
  | 22, _ => rfl
  | 23, _ => rfl
  | 24, _ => rfl
  | 25, _ => rfl
  | 26, _ => rfl
  | 27, _ => rfl
  | 28, _ => rfl
  | 29, _ => rfl
  | 30, _ => rfl
  | 31, _ => rfl
  | n + 32, h => omega
 exact this j hj
set_option maxHeartbeats 4000000 in
set_option maxRecDepth 100000 in
theorem charref_Number.calls (a0 : Int) (r : ByteArray) (w : World) (h : charref_Number.f a0 = some r) :
    Calls Try.prog 83 #[.int .i64 a0] w fun e w' => e = .returned (.string r) ∧ Below w.heap.size w w' := by
 unfold charref_Number.f at h
 have HB : Aside0 (Below w.heap.size w (w.alloc (.cells charref_Number.cells 98))) := ⟨(Below.refl _ _).alloc (Nat.le_refl _) _⟩
 by_cases c0 : a0 ≤ 0
 ·
  rw [if_pos (.inl c0)] at h
  obtain rfl := Option.some.inj h
  clear h
  go_enter Try.func83, Try.ntmps83
  go_upto_region 1 with (fail)
  go_wp2_with (first
    | ((with_reducible refine gate_dst (N := 4) rfl ?_); refine Kd.event_run rfl (v := .agg charref_Number.cells) (w1 := w) ?hr ?_; (case hr => kernel_rfl))
    | ((with_reducible refine gate_dst (N := 3) rfl ?_); refine Kd.event_run rfl (v := .pointer (some ⟨w.heap.size, 0, none⟩)) (w1 := w.alloc (.cells charref_Number.zeros 98)) ?hr ?_; (case hr => kernel_rfl); refine wpList_plain rfl (fun K_ hK_ => charref_Number.store_wp w K_ _ _ _ rfl rfl rfl (hK_ _ _ (wpList_nil ?_)))))
  go_wp2
  go_ret
  exact ⟨rfl, HB.out⟩
 ·
  by_cases c1 : 1114111 < a0
  ·
   rw [if_pos (.inr (.inl c1))] at h
   obtain rfl := Option.some.inj h
   clear h
   go_enter Try.func83, Try.ntmps83
   go_upto_region 1 with (fail)
   go_wp2_with (first
     | ((with_reducible refine gate_dst (N := 4) rfl ?_); refine Kd.event_run rfl (v := .agg charref_Number.cells) (w1 := w) ?hr ?_; (case hr => kernel_rfl))
     | ((with_reducible refine gate_dst (N := 3) rfl ?_); refine Kd.event_run rfl (v := .pointer (some ⟨w.heap.size, 0, none⟩)) (w1 := w.alloc (.cells charref_Number.zeros 98)) ?hr ?_; (case hr => kernel_rfl); refine wpList_plain rfl (fun K_ hK_ => charref_Number.store_wp w K_ _ _ _ rfl rfl rfl (hK_ _ _ (wpList_nil ?_)))))
   go_wp2
   go_ret
   exact ⟨rfl, HB.out⟩
  ·
   have c0' : 0 < a0 := by omega
   have c1' : a0 ≤ 1114111 := by omega
   by_cases c2 : 55296 ≤ a0 ∧ a0 ≤ 57343
   ·
    rw [if_pos (.inr (.inr c2))] at h
    obtain rfl := Option.some.inj h
    have c3 : (128 : Int) ≤ a0 := by omega
    clear h
    go_enter Try.func83, Try.ntmps83
    go_upto_region 1 with (fail)
    go_wp2_with (first
      | ((with_reducible refine gate_dst (N := 4) rfl ?_); refine Kd.event_run rfl (v := .agg charref_Number.cells) (w1 := w) ?hr ?_; (case hr => kernel_rfl))
      | ((with_reducible refine gate_dst (N := 3) rfl ?_); refine Kd.event_run rfl (v := .pointer (some ⟨w.heap.size, 0, none⟩)) (w1 := w.alloc (.cells charref_Number.zeros 98)) ?hr ?_; (case hr => kernel_rfl); refine wpList_plain rfl (fun K_ hK_ => charref_Number.store_wp w K_ _ _ _ rfl rfl rfl (hK_ _ _ (wpList_nil ?_)))))
    go_wp2_with (go_at_call 93; refine (charref_Number.invalid a0 _ c2).mono ?_; rintro e w1 ⟨rfl, ⟨n1, rfl⟩⟩)
    go_ret
    exact ⟨rfl, pw_below_drewN HB.out _⟩
   ·
    rw [if_neg (by omega)] at h
    by_cases c4 : 128 ≤ a0 ∧ a0 < 160
    ·
     rw [if_pos c4] at h
     obtain rfl := Option.some.inj h
     clear h
     have c5 : 128 ≤ a0 := c4.1
     have c6 : a0 < 160 := c4.2
     have HC := Aside0.mk (charref_Number.cell w (a0 - 128).toNat (by omega))
     go_enter Try.func83, Try.ntmps83
     go_upto_region 1 with (fail)
     go_wp2_with (first
       | ((with_reducible refine gate_dst (N := 4) rfl ?_); refine Kd.event_run rfl (v := .agg charref_Number.cells) (w1 := w) ?hr ?_; (case hr => kernel_rfl))
       | ((with_reducible refine gate_dst (N := 3) rfl ?_); refine Kd.event_run rfl (v := .pointer (some ⟨w.heap.size, 0, none⟩)) (w1 := w.alloc (.cells charref_Number.zeros 98)) ?hr ?_; (case hr => kernel_rfl); refine wpList_plain rfl (fun K_ hK_ => charref_Number.store_wp w K_ _ _ _ rfl rfl rfl (hK_ _ _ (wpList_nil ?_)))))
     go_wp2_with (go_at_call 93; refine (charref_Number.valid a0 _ c0' c1' c2).mono ?_; rintro e w1 ⟨rfl, ⟨n1, rfl⟩⟩; have hcell := HC.out)
     go_ret
     exact ⟨rfl, pw_below_drewN HB.out _⟩
    ·
     rw [if_neg c4] at h
     obtain rfl := Option.some.inj h
     clear h
     by_cases c5 : 128 ≤ a0
     ·
      have c6 : 160 ≤ a0 := by omega
      go_enter Try.func83, Try.ntmps83
      go_upto_region 1 with (fail)
      go_wp2_with (first
        | ((with_reducible refine gate_dst (N := 4) rfl ?_); refine Kd.event_run rfl (v := .agg charref_Number.cells) (w1 := w) ?hr ?_; (case hr => kernel_rfl))
        | ((with_reducible refine gate_dst (N := 3) rfl ?_); refine Kd.event_run rfl (v := .pointer (some ⟨w.heap.size, 0, none⟩)) (w1 := w.alloc (.cells charref_Number.zeros 98)) ?hr ?_; (case hr => kernel_rfl); refine wpList_plain rfl (fun K_ hK_ => charref_Number.store_wp w K_ _ _ _ rfl rfl rfl (hK_ _ _ (wpList_nil ?_)))))
      go_wp2_with (go_at_call 93; refine (charref_Number.valid a0 _ c0' c1' c2).mono ?_; rintro e w1 ⟨rfl, ⟨n1, rfl⟩⟩)
      go_ret
      exact ⟨rfl, pw_below_drewN HB.out _⟩
     ·
      have c6 : a0 < 128 := by omega
      go_enter Try.func83, Try.ntmps83
      go_upto_region 1 with (fail)
      go_wp2_with (first
        | ((with_reducible refine gate_dst (N := 4) rfl ?_); refine Kd.event_run rfl (v := .agg charref_Number.cells) (w1 := w) ?hr ?_; (case hr => kernel_rfl))
        | ((with_reducible refine gate_dst (N := 3) rfl ?_); refine Kd.event_run rfl (v := .pointer (some ⟨w.heap.size, 0, none⟩)) (w1 := w.alloc (.cells charref_Number.zeros 98)) ?hr ?_; (case hr => kernel_rfl); refine wpList_plain rfl (fun K_ hK_ => charref_Number.store_wp w K_ _ _ _ rfl rfl rfl (hK_ _ _ (wpList_nil ?_)))))
      go_wp2_with (go_at_call 93; refine (charref_Number.valid a0 _ c0' c1' c2).mono ?_; rintro e w1 ⟨rfl, ⟨n1, rfl⟩⟩)
      go_ret
      exact ⟨rfl, pw_below_drewN HB.out _⟩
/-! ### charref_byNumber: function 62 -/
mutual
def charref_byNumber.j0 : Nat → ByteArray → Int → Int → Bool → Option (ByteArray × Int)
  | 0, _, _, _, _ => none
  | k + 1, x0, x4, x5, x17 => if x17 = true then (charref_byNumber.j1 k x0 1 16) else (charref_byNumber.j1 k x0 x4 x5)
def charref_byNumber.j1 : Nat → ByteArray → Int → Int → Option (ByteArray × Int)
  | 0, _, _, _ => none
  | k + 1, x0, x4, x5 => charref_byNumber.l0 k x0 x4 x5 0 x4
def charref_byNumber.j3 : Nat → ByteArray → Int → Int → Int → Option (ByteArray × Int)
  | 0, _, _, _, _ => none
  | k + 1, x0, x4, x6, x7 => if x4 = x7 then (some ((⟨#[]⟩ : ByteArray), 0)) else (if 0 ≤ x4 then (if x4 ≤ (x0.size : Int) then ((strings_HasPrefix.f (x0.extract (x4 : Int).toNat x0.size) (⟨#[59]⟩ : ByteArray)).bind fun t119 => (if t119 = true then ((charref_Number.f x6).bind fun t120 => (some (t120, wrap64 (x4 + 1)))) else ((charref_Number.f x6).bind fun t121 => (some (t121, x4))))) else (none)) else (none))
def charref_byNumber.l0 : Nat → ByteArray → Int → Int → Int → Int → Option (ByteArray × Int)
  | 0, _, _, _, _, _ => none
  | k + 1, x0, x4, x5, x6, x7 => if x4 < (x0.size : Int) then (if 0 ≤ x4 then ((charref_hex.f (bt x0 x4)).bind fun bt117 => (if bt117.2 = true then (if bt117.1 ≥ x5 then (charref_byNumber.j3 k x0 x4 x6 x7) else (charref_byNumber.l0 k x0 (wrap64 (x4 + 1)) x5 (mn (wrap64 ((wrap64 (x6 * x5)) + bt117.1)) 1114112) x7)) else (charref_byNumber.j3 k x0 x4 x6 x7))) else (none)) else (charref_byNumber.j3 k x0 x4 x6 x7)
end
def charref_byNumber.f (k : Nat) (a0 : ByteArray) : Option (ByteArray × Int) := if a0.toList = ([] : List UInt8) then (charref_byNumber.j0 k a0 0 10 false) else (if 0 < (a0.size : Int) then (charref_byNumber.j0 k a0 0 10 ((Go.bits .or .u8 (bt a0 0) 32) == 120)) else (none))
theorem charref_byNumber.mono_l : ∀ k, (∀ y0 y1 y2 y3, LeO (charref_byNumber.j0 k y0 y1 y2 y3) (charref_byNumber.j0 (k + 1) y0 y1 y2 y3)) ∧ (∀ y0 y1 y2, LeO (charref_byNumber.j1 k y0 y1 y2) (charref_byNumber.j1 (k + 1) y0 y1 y2)) ∧ (∀ y0 y1 y2 y3, LeO (charref_byNumber.j3 k y0 y1 y2 y3) (charref_byNumber.j3 (k + 1) y0 y1 y2 y3)) ∧ (∀ y0 y1 y2 y3 y4, LeO (charref_byNumber.l0 k y0 y1 y2 y3 y4) (charref_byNumber.l0 (k + 1) y0 y1 y2 y3 y4))
  | 0 => ⟨fun _ _ _ _ r h => by simp [charref_byNumber.j0] at h, fun _ _ _ r h => by simp [charref_byNumber.j1] at h, fun _ _ _ _ r h => by simp [charref_byNumber.j3] at h, fun _ _ _ _ _ r h => by simp [charref_byNumber.l0] at h⟩
  | k + 1 => by
    obtain ⟨ih0, ih1, ih2, ih3⟩ := charref_byNumber.mono_l k
    refine ⟨?_, ?_, ?_, ?_⟩
    · intro y0 y1 y2 y3
      unfold charref_byNumber.j0
      repeat' first
      | (with_reducible exact ih0 _ _ _ _)
      | (with_reducible exact ih1 _ _ _)
      | (with_reducible exact ih2 _ _ _ _)
      | (with_reducible exact ih3 _ _ _ _ _)
      | (with_reducible exact LeO.refl _)
      | (with_reducible exact LeO.none _)
      | (with_reducible refine LeO.ite ?_ ?_)
      | (with_reducible refine LeO.bind ?_ (fun _ => ?_))
      | exact ih0 _ _ _ _
      | exact ih1 _ _ _
      | exact ih2 _ _ _ _
      | exact ih3 _ _ _ _ _
      | exact LeO.none _
      | refine LeO.ite ?_ ?_
      | refine LeO.bind ?_ (fun _ => ?_)
    · intro y0 y1 y2
      unfold charref_byNumber.j1
      repeat' first
      | (with_reducible exact ih0 _ _ _ _)
      | (with_reducible exact ih1 _ _ _)
      | (with_reducible exact ih2 _ _ _ _)
      | (with_reducible exact ih3 _ _ _ _ _)
      | (with_reducible exact LeO.refl _)
      | (with_reducible exact LeO.none _)
      | (with_reducible refine LeO.ite ?_ ?_)
      | (with_reducible refine LeO.bind ?_ (fun _ => ?_))
      | exact ih0 _ _ _ _
      | exact ih1 _ _ _
      | exact ih2 _ _ _ _
      | exact ih3 _ _ _ _ _
      | exact LeO.none _
      | refine LeO.ite ?_ ?_
      | refine LeO.bind ?_ (fun _ => ?_)
    · intro y0 y1 y2 y3
      unfold charref_byNumber.j3
      repeat' first
      | (with_reducible exact ih0 _ _ _ _)
      | (with_reducible exact ih1 _ _ _)
      | (with_reducible exact ih2 _ _ _ _)
      | (with_reducible exact ih3 _ _ _ _ _)
      | (with_reducible exact LeO.refl _)
      | (with_reducible exact LeO.none _)
      | (with_reducible refine LeO.ite ?_ ?_)
      | (with_reducible refine LeO.bind ?_ (fun _ => ?_))
      | exact ih0 _ _ _ _
      | exact ih1 _ _ _
      | exact ih2 _ _ _ _
      | exact ih3 _ _ _ _ _
      | exact LeO.none _
      | refine LeO.ite ?_ ?_
      | refine LeO.bind ?_ (fun _ => ?_)
    · intro y0 y1 y2 y3 y4
      unfold charref_byNumber.l0
      repeat' first
      | (with_reducible exact ih0 _ _ _ _)
      | (with_reducible exact ih1 _ _ _)
      | (with_reducible exact ih2 _ _ _ _)
      | (with_reducible exact ih3 _ _ _ _ _)
      | (with_reducible exact LeO.refl _)
      | (with_reducible exact LeO.none _)
      | (with_reducible refine LeO.ite ?_ ?_)
      | (with_reducible refine LeO.bind ?_ (fun _ => ?_))
      | exact ih0 _ _ _ _
      | exact ih1 _ _ _
      | exact ih2 _ _ _ _
      | exact ih3 _ _ _ _ _
      | exact LeO.none _
      | refine LeO.ite ?_ ?_
      | refine LeO.bind ?_ (fun _ => ?_)
theorem charref_byNumber.mono : ∀ a0 k, LeO (charref_byNumber.f k a0) (charref_byNumber.f (k + 1) a0) := by
 intro a0 k
 obtain ⟨ih0, ih1, ih2, ih3⟩ := charref_byNumber.mono_l k
 unfold charref_byNumber.f
 repeat' first
     | (with_reducible exact ih0 _ _ _ _)
     | (with_reducible exact ih1 _ _ _)
     | (with_reducible exact ih2 _ _ _ _)
     | (with_reducible exact ih3 _ _ _ _ _)
     | (with_reducible exact LeO.refl _)
     | (with_reducible exact LeO.none _)
     | (with_reducible refine LeO.ite ?_ ?_)
     | (with_reducible refine LeO.bind ?_ (fun _ => ?_))
     | exact ih0 _ _ _ _
     | exact ih1 _ _ _
     | exact ih2 _ _ _ _
     | exact ih3 _ _ _ _ _
     | exact LeO.none _
     | refine LeO.ite ?_ ?_
     | refine LeO.bind ?_ (fun _ => ?_)
set_option maxHeartbeats 8000000 in
set_option maxRecDepth 100000 in
theorem charref_byNumber.calls (k : Nat) (a0 : ByteArray) (r1 : ByteArray) (r2 : Int) (w : World) (h : charref_byNumber.f k a0 = some (r1, r2)) :
    Calls Try.prog 62 #[.string a0] w fun e w' => e = .returned (.tuple #[.string r1, .int .i64 r2]) ∧ Below w.heap.size w w' := by
 have HB := Aside0.mk (Below.refl w.heap.size w)
 have H : (if a0.toList = ([] : List UInt8) then (charref_byNumber.j0 k a0 0 10 false) else (if 0 < (a0.size : Int) then (charref_byNumber.j0 k a0 0 10 ((Go.bits .or .u8 (bt a0 0) 32) == 120)) else (none))) = some (r1, r2) := h
 clear h
 have HC2 := Aside0.mk H
 clear H
 go_enter Try.func62, Try.ntmps62
 go_upto_region 2 with (fail)
 go_cut [17] (fun v17 wc => ∃ (kq : Nat) (x17_1 : Bool), v17 = .bool x17_1 ∧ Aside0 (charref_byNumber.j0 kq a0 0 10 x17_1 = some (r1, r2)) ∧ Aside0 (kq ≤ k) ∧ Aside0 (Below w.heap.size w wc))
 case first =>
  have H := HC2.out
  clear HC2
  by_cases c3 : a0.toList = ([] : List UInt8)
  ·
   rw [if_pos c3] at H
   have c3b0 : (a0.toList == ([] : List UInt8)) = true := beq_iff_eq.mpr c3
   have c3b1 : (a0.toList != ([] : List UInt8)) = false := bne_eq_false_iff_eq.mpr c3
   clear c3
   (first | rw [c3b0] | (simp only [i64_w, i32_w]; rw [c3b0]) | skip)
   have H' := Aside0.mk H
   clear H
   go_wp2
   go_meet
   case rel => exact ⟨_, (false), (by first | rfl | (simp; done) | (simp [*]; done)), H', ⟨by first | omega | exact Nat.le_refl _⟩, ⟨by repeat (first | (with_reducible first | exact HB.out | apply below_alloc | apply pw_below_drewN | apply below_drew1) | exact HB.out)⟩⟩
  ·
   rw [if_neg c3] at H
   have c3b0 : (a0.toList == ([] : List UInt8)) = false := beq_eq_false_iff_ne.mpr c3
   have c3b1 : (a0.toList != ([] : List UInt8)) = true := bne_iff_ne.mpr c3
   (first | rw [c3b0] | (simp only [i64_w, i32_w]; rw [c3b0]) | skip)
   by_cases c4 : 0 < (a0.size : Int)
   ·
    rw [if_pos c4] at H
    have c4b0 : decide (0 < (a0.size : Int)) = true := decide_eq_true c4
    have c4b1 : decide (0 < a0.size) = true := decide_eq_true (by omega)
    clear c4
    have H' := Aside0.mk H
    clear H
    have p5 : 0 ≤ (0 : Int) := (by omega)
    have q5 : 0 < a0.size := (by have : (0 : Int) < (a0.size : Int) := of_decide_eq_true (by first | (with_reducible assumption) | assumption); omega)
    have hx5 : ∀ h : 0 < a0.size, ((a0[0]'h).toNat : Int) = bt a0 0 := bt_at a0 0
    clear p5
    have qi5 : (0 < (a0.size : Int)) = True := eq_true (of_decide_eq_true (by first | (with_reducible assumption) | assumption))
    replace q5 := eq_true q5
    go_wp2
    go_meet
    case rel => exact ⟨_, (((Go.bits .or .u8 (bt a0 0) 32) == 120)), (by first | rfl | (simp; done) | (simp [*]; done)), H', ⟨by first | omega | exact Nat.le_refl _⟩, ⟨by repeat (first | (with_reducible first | exact HB.out | apply below_alloc | apply pw_below_drewN | apply below_drew1) | exact HB.out)⟩⟩
   ·
    rw [if_neg c4] at H
    exact absurd H (by simp)
 case rest =>
  clear HC2
  try clear p2
  try clear c3
  try clear c3b0
  try clear c3b1
  try clear c4
  try clear c4b0
  try clear c4b1
  try clear p5
  try clear q5
  try clear hx5
  try clear qi5
  try clear p5
  try clear q5
  obtain ⟨kq, x17_1, rfl, HA, HJ1, HB⟩ := hcut
  cases kq with
  | zero => exact absurd HA.out (by simp [charref_byNumber.j0])
  | succ kj1 =>
   have H := HA.out
   clear HA
   simp only [charref_byNumber.j0] at H
   have HC6 := Aside0.mk H
   clear H
   go_upto_if 17 with (fail)
   go_cut [4, 5] (fun v4 v5 wc => ∃ (kq : Nat) (x4_5 : Int) (x5_5 : Int), v4 = .int .i64 x4_5 ∧ v5 = .int .i64 x5_5 ∧ Aside0 (charref_byNumber.j1 kq a0 x4_5 x5_5 = some (r1, r2)) ∧ Aside0 (kq ≤ kj1) ∧ Aside0 (Below w.heap.size w wc))
   case first =>
    have H := HC6.out
    clear HC6
    by_cases c7 : x17_1 = true
    ·
     subst c7
     replace H := (if_pos rfl).symm.trans H
     have H' := Aside0.mk H
     clear H
     go_wp2
     go_meet
     case rel => exact ⟨_, (1), (16), (by first | rfl | (simp; done) | (simp [*]; done)), (by first | rfl | (simp; done) | (simp [*]; done)), H', ⟨by have := HJ1.out; first | omega | exact Nat.le_refl _⟩, ⟨by repeat (first | (with_reducible first | exact HB.out | apply below_alloc | apply pw_below_drewN | apply below_drew1) | exact HB.out)⟩⟩
    ·
     replace c7 := Bool.eq_false_iff.mpr c7
     subst c7
     replace H := (if_neg Bool.false_ne_true).symm.trans H
     have H' := Aside0.mk H
     clear H
     go_wp2
     go_meet
     case rel => exact ⟨_, (0), (10), (by first | rfl | (simp; done) | (simp [*]; done)), (by first | rfl | (simp; done) | (simp [*]; done)), H', ⟨by have := HJ1.out; first | omega | exact Nat.le_refl _⟩, ⟨by repeat (first | (with_reducible first | exact HB.out | apply below_alloc | apply pw_below_drewN | apply below_drew1) | exact HB.out)⟩⟩
   case rest =>
    clear HC6
    try clear p2
    try clear c3
    try clear c3b0
    try clear c3b1
    try clear c4
    try clear c4b0
    try clear c4b1
    try clear p5
    try clear q5
    try clear hx5
    try clear qi5
    try clear c6
    try clear c7
    try clear p2
    try clear p5
    try clear q5
    obtain ⟨kq, x4_5, x5_5, rfl, rfl, HA, HJ5, HB⟩ := hcut
    cases kq with
    | zero => exact absurd HA.out (by simp [charref_byNumber.j1])
    | succ kj5 =>
     have H := HA.out
     clear HA
     simp only [charref_byNumber.j1] at H
     have HC8 := Aside0.mk H
     clear H
     go_upto_block 0 with (fail)
     go_cut [4, 6] (fun v4 v6 wc => ∃ (kq : Nat) (x4_7 : Int) (x6_7 : Int), v4 = .int .i64 x4_7 ∧ v6 = .int .i64 x6_7 ∧ Aside0 (charref_byNumber.j3 kq a0 x4_7 x6_7 x4_5 = some (r1, r2)) ∧ Aside0 (kq ≤ kj5) ∧ Aside0 (Below w.heap.size w wc))
     case first =>
      have H := HC8.out
      clear HC8
      have H' := Aside0.mk H
      clear H
      go_wp2
      go_loopg [4, 6] kj5 (fun kq v4 v6 w' => ∃ (x4_3 : Int) (x6_3 : Int), v4 = .int .i64 x4_3 ∧ v6 = .int .i64 x6_3 ∧ Aside0 (charref_byNumber.l0 kq a0 x4_3 x5_5 x6_3 x4_5 = some (r1, r2)) ∧ Aside0 (kq ≤ kj5) ∧ Aside0 (Below w.heap.size w w'))
      case atStart => exact ⟨(x4_5), (0), (by first | rfl | (simp; done) | (simp [*]; done)), (by first | rfl | (simp; done) | (simp [*]; done)), H', ⟨Nat.le_refl _⟩, ⟨by repeat (first | (with_reducible first | exact HB.out | apply below_alloc | apply pw_below_drewN | apply below_drew1) | exact HB.out)⟩⟩
      case round =>
       clear H'
       try clear p2
       try clear c3
       try clear c3b0
       try clear c3b1
       try clear c4
       try clear c4b0
       try clear c4b1
       try clear p5
       try clear q5
       try clear hx5
       try clear qi5
       try clear c6
       try clear c7
       try clear p2
       try clear p5
       try clear q5
       obtain ⟨x4_3, x6_3, rfl, rfl, HA, HK3, HB⟩ := hrel
       cases gk with
       | zero => exact absurd HA.out (by simp [charref_byNumber.l0])
       | succ k3 =>
        have H := HA.out
        clear HA
        simp only [charref_byNumber.l0] at H
        by_cases c9 : x4_3 < (a0.size : Int)
        ·
         rw [if_pos c9] at H
         have c9b0 : decide (x4_3 < (a0.size : Int)) = true := decide_eq_true c9
         clear c9
         (first | rw [c9b0] | (simp only [i64_w, i32_w]; rw [c9b0]) | skip)
         by_cases c10 : 0 ≤ x4_3
         ·
          rw [if_pos c10] at H
          have c10b0 : decide (0 ≤ x4_3) = true := decide_eq_true c10
          clear c10
          replace H := Option.bind_eq_some_iff.mp H
          obtain ⟨⟨t117, t118⟩, A120, H⟩ := H
          try dsimp only at H
          have A12 := Aside0.mk A120
          clear A120
          have p11 : 0 ≤ (x4_3 : Int) := of_decide_eq_true (by first | (with_reducible assumption) | assumption)
          have q11 : x4_3 < (a0.size : Int) := of_decide_eq_true (by first | (with_reducible assumption) | assumption)
          have hx11 := bt_at a0 x4_3
          replace p11 := eq_true p11
          replace q11 := eq_true q11
          go_wp2_with fail
          (with_reducible refine (charref_hex.calls (bt a0 x4_3) t117 t118 _ A12.out).mono ?_)
          rintro e w' ⟨rfl, ⟨nd, rfl⟩⟩
          by_cases c13 : t118 = true
          ·
           subst c13
           replace H := (if_pos rfl).symm.trans H
           by_cases c14 : t117 ≥ x5_5
           ·
            rw [if_pos c14] at H
            have c14b0 : decide (x5_5 ≤ t117) = true := decide_eq_true c14
            clear c14
            have H' := Aside0.mk H
            clear H
            go_wp2
            go_meet
            case rel => exact ⟨_, (x4_3), (x6_3), (by first | rfl | (simp; done) | (simp [*]; done)), (by first | rfl | (simp; done) | (simp [*]; done)), H', ⟨by have := HJ1.out; have := HJ5.out; have := HK3.out; first | omega | exact Nat.le_refl _⟩, ⟨by repeat (first | (with_reducible first | exact HB.out | apply below_alloc | apply pw_below_drewN | apply below_drew1) | exact HB.out)⟩⟩
           ·
            rw [if_neg c14] at H
            have c14b0 : decide (x5_5 ≤ t117) = false := decide_eq_false c14
            clear c14
            obtain ⟨ji15, hji15⟩ : ∃ j_ : Int, (mn (wrap64 ((wrap64 (x6_3 * x5_5)) + t117)) 1114112) = j_ := ⟨_, rfl⟩
            replace H : (charref_byNumber.l0 k3 a0 (wrap64 (x4_3 + 1)) x5_5 ji15 x4_5) = some (r1, r2) := by first | (rw [hji15] at H; exact H) | (simp only [hji15] at H ⊢; exact H)
            (try rw [hji15] at A12)
            have hji15_ : (if 1114112 < (wrap64 ((wrap64 (x6_3 * x5_5)) + t117)) then 1114112 else (wrap64 ((wrap64 (x6_3 * x5_5)) + t117))) = ji15 := hji15
            have H' := Aside0.mk H
            clear H
            go_wp2
            go_roundg k3
            case measure => have := HJ1.out; have := HJ5.out; have := HK3.out; omega
            case rel => exact ⟨(wrap64 (x4_3 + 1)), (ji15), (by first | rfl | (simp; done) | (simp [*]; done)), (by first | rfl | (simp; done) | (simp only [← hji15] <;> (first | rfl | simp)) | (simp [*]; done)), (by first | exact H' | (simp only [hji15]; exact H') | (simp only [hji15]; exact H')), ⟨by have := HJ1.out; have := HJ5.out; have := HK3.out; omega⟩, ⟨by repeat (first | (with_reducible first | exact HB.out | apply below_alloc | apply pw_below_drewN | apply below_drew1) | exact HB.out)⟩⟩
          ·
           replace c13 := Bool.eq_false_iff.mpr c13
           subst c13
           replace H := (if_neg Bool.false_ne_true).symm.trans H
           have H' := Aside0.mk H
           clear H
           go_wp2
           go_meet
           case rel => exact ⟨_, (x4_3), (x6_3), (by first | rfl | (simp; done) | (simp [*]; done)), (by first | rfl | (simp; done) | (simp [*]; done)), H', ⟨by have := HJ1.out; have := HJ5.out; have := HK3.out; first | omega | exact Nat.le_refl _⟩, ⟨by repeat (first | (with_reducible first | exact HB.out | apply below_alloc | apply pw_below_drewN | apply below_drew1) | exact HB.out)⟩⟩
         ·
          rw [if_neg c10] at H
          exact absurd H (by simp)
        ·
         rw [if_neg c9] at H
         have c9b0 : decide (x4_3 < (a0.size : Int)) = false := decide_eq_false c9
         clear c9
         (first | rw [c9b0] | (simp only [i64_w, i32_w]; rw [c9b0]) | skip)
         have H' := Aside0.mk H
         clear H
         go_wp2
         go_meet
         case rel => exact ⟨_, (x4_3), (x6_3), (by first | rfl | (simp; done) | (simp [*]; done)), (by first | rfl | (simp; done) | (simp [*]; done)), H', ⟨by have := HJ1.out; have := HJ5.out; have := HK3.out; first | omega | exact Nat.le_refl _⟩, ⟨by repeat (first | (with_reducible first | exact HB.out | apply below_alloc | apply pw_below_drewN | apply below_drew1) | exact HB.out)⟩⟩
     case rest =>
      clear HC8
      try clear c1
      try clear p1
      try clear q1
      try clear hx1
      try clear p2
      try clear c3
      try clear c3b0
      try clear c3b1
      try clear c4
      try clear c4b0
      try clear c4b1
      try clear p5
      try clear q5
      try clear hx5
      try clear qi5
      try clear c6
      try clear p6
      try clear c7
      try clear c8
      try clear c9
      try clear c9b0
      try clear c10
      try clear c10b0
      try clear p11
      try clear q11
      try clear hx11
      try clear c13
      try clear c14
      try clear c14b0
      try clear p11
      try clear p2
      try clear p5
      try clear q11
      try clear q5
      obtain ⟨kq, x4_7, x6_7, rfl, rfl, HA, HJ7, HB⟩ := hcut
      cases kq with
      | zero => exact absurd HA.out (by simp [charref_byNumber.j3])
      | succ kj7 =>
       have H := HA.out
       clear HA
       simp only [charref_byNumber.j3] at H
       by_cases c16 : x4_7 = x4_5
       ·
        rw [if_pos c16] at H
        have c16b0 : (x4_7 == x4_5) = true := beq_iff_eq.mpr c16
        have c16b1 : (x4_7 != x4_5) = false := bne_eq_false_iff_eq.mpr c16
        clear c16
        simp only [Option.some.injEq, Prod.mk.injEq] at H
        obtain ⟨rfl, rfl⟩ := H
        go_wp2
        go_ret2
        exact ⟨by first | rfl | (simp [errW_none, errW_some] <;> rfl) | (simp [*, errW_none, errW_some] <;> rfl), by repeat (first | (with_reducible first | exact HB.out | apply below_alloc | apply pw_below_drewN | apply below_drew1) | exact HB.out)⟩
       ·
        rw [if_neg c16] at H
        have c16b0 : (x4_7 == x4_5) = false := beq_eq_false_iff_ne.mpr c16
        have c16b1 : (x4_7 != x4_5) = true := bne_iff_ne.mpr c16
        by_cases c17 : 0 ≤ x4_7
        ·
         rw [if_pos c17] at H
         have c17b0 := eq_true c17
         have c17b1 : decide (0 ≤ x4_7) = true := decide_eq_true c17
         clear c17
         by_cases c18 : x4_7 ≤ (a0.size : Int)
         ·
          rw [if_pos c18] at H
          have c18b0 := eq_true c18
          have c18b1 : decide (x4_7 ≤ (a0.size : Int)) = true := decide_eq_true c18
          clear c18
          replace H := Option.bind_eq_some_iff.mp H
          obtain ⟨t119, A190, H⟩ := H
          try dsimp only at H
          have A19 := Aside0.mk A190
          clear A190
          go_wp2_with fail
          (with_reducible refine (strings_HasPrefix.calls (a0.extract (x4_7 : Int).toNat a0.size) (⟨#[59]⟩ : ByteArray) t119 _ A19.out).mono ?_)
          rintro e w' ⟨rfl, ⟨nd, rfl⟩⟩
          by_cases c20 : t119 = true
          ·
           subst c20
           replace H := (if_pos rfl).symm.trans H
           replace H := Option.bind_eq_some_iff.mp H
           obtain ⟨t120, A210, H⟩ := H
           try dsimp only at H
           have A21 := Aside0.mk A210
           clear A210
           go_wp2_with fail
           (with_reducible refine (charref_Number.calls x6_7 t120 _ A21.out).mono ?_)
           rintro e w22 ⟨rfl, hb⟩
           have n0_ := Aside0.mk (below_step (by repeat (first | (with_reducible first | exact HB.out | apply below_alloc | apply pw_below_drewN | apply below_drew1) | exact HB.out)) hb)
           clear HB
           have HB := n0_
           clear n0_
           (try clear hb)
           (try clear hb2)
           (try clear hk)
           (try clear hi)
           simp only [Option.some.injEq, Prod.mk.injEq] at H
           obtain ⟨rfl, rfl⟩ := H
           go_wp2
           go_ret2
           exact ⟨by first | rfl | (simp [errW_none, errW_some] <;> rfl) | (simp [*, errW_none, errW_some] <;> rfl), by repeat (first | (with_reducible first | exact HB.out | apply below_alloc | apply pw_below_drewN | apply below_drew1) | exact HB.out)⟩
          ·
           replace c20 := Bool.eq_false_iff.mpr c20
           subst c20
           replace H := (if_neg Bool.false_ne_true).symm.trans H
           replace H := Option.bind_eq_some_iff.mp H
           obtain ⟨t121, A230, H⟩ := H
           try dsimp only at H
           have A23 := Aside0.mk A230
           clear A230
           go_wp2_with fail
           (with_reducible refine (charref_Number.calls x6_7 t121 _ A23.out).mono ?_)
           rintro e w24 ⟨rfl, hb⟩
           have n0_ := Aside0.mk (below_step (by repeat (first | (with_reducible first | exact HB.out | apply below_alloc | apply pw_below_drewN | apply below_drew1) | exact HB.out)) hb)
           clear HB
           have HB := n0_
           clear n0_
           (try clear hb)
           (try clear hb2)
           (try clear hk)
           (try clear hi)
           simp only [Option.some.injEq, Prod.mk.injEq] at H
           obtain ⟨rfl, rfl⟩ := H
           go_wp2
           go_ret2
           exact ⟨by first | rfl | (simp [errW_none, errW_some] <;> rfl) | (simp [*, errW_none, errW_some] <;> rfl), by repeat (first | (with_reducible first | exact HB.out | apply below_alloc | apply pw_below_drewN | apply below_drew1) | exact HB.out)⟩
         ·
          rw [if_neg c18] at H
          exact absurd H (by simp)
        ·
         rw [if_neg c17] at H
         exact absurd H (by simp)
/-! ### stringslite_HasSuffix: function 102 -/
def stringslite_HasSuffix.f (a0 : ByteArray) (a1 : ByteArray) : Option (Bool) := if (a0.size : Int) ≥ (a1.size : Int) then (if 0 ≤ (wrap64 ((a0.size : Int) - (a1.size : Int))) then (if (wrap64 ((a0.size : Int) - (a1.size : Int))) ≤ (a0.size : Int) then (some ((a0.extract ((wrap64 ((a0.size : Int) - (a1.size : Int))) : Int).toNat a0.size).toList == a1.toList)) else (none)) else (none)) else (some false)
set_option maxHeartbeats 8000000 in
set_option maxRecDepth 100000 in
theorem stringslite_HasSuffix.calls (a0 : ByteArray) (a1 : ByteArray) (r : Bool) (w : World) (h : stringslite_HasSuffix.f a0 a1 = some r) :
    Calls Try.prog 102 #[.string a0, .string a1] w fun e w' => e = .returned (.bool r) ∧ Drawn0 w w' := by
 have H : (if (a0.size : Int) ≥ (a1.size : Int) then (if 0 ≤ (wrap64 ((a0.size : Int) - (a1.size : Int))) then (if (wrap64 ((a0.size : Int) - (a1.size : Int))) ≤ (a0.size : Int) then (some ((a0.extract ((wrap64 ((a0.size : Int) - (a1.size : Int))) : Int).toNat a0.size).toList == a1.toList)) else (none)) else (none)) else (some false)) = some r := h
 clear h
 by_cases c3 : (a0.size : Int) ≥ (a1.size : Int)
 ·
  rw [if_pos c3] at H
  have c3b0 : decide ((a1.size : Int) ≤ (a0.size : Int)) = true := decide_eq_true c3
  have c3b1 : decide (a1.size ≤ a0.size) = true := decide_eq_true (Int.ofNat_le.mp c3)
  clear c3
  obtain ⟨ji4, hji4⟩ : ∃ j_ : Int, (wrap64 ((a0.size : Int) - (a1.size : Int))) = j_ := ⟨_, rfl⟩
  replace H : (if 0 ≤ (ji4) then (if (ji4) ≤ (a0.size : Int) then (some ((a0.extract ((ji4) : Int).toNat a0.size).toList == a1.toList)) else (none)) else (none)) = some r := by first | (rw [hji4] at H; exact H) | (simp only [hji4] at H ⊢; exact H)
  have hji4w : (IntKind.i64.wrap ((a0.size : Int) - (a1.size : Int))) = ji4 := (i64_w _).trans hji4
  by_cases c5 : 0 ≤ (ji4)
  ·
   rw [if_pos c5] at H
   have c5b0 := eq_true c5
   have c5b1 : decide (0 ≤ (ji4)) = true := decide_eq_true c5
   clear c5
   by_cases c6 : (ji4) ≤ (a0.size : Int)
   ·
    rw [if_pos c6] at H
    have c6b0 := eq_true c6
    have c6b1 : decide ((ji4) ≤ (a0.size : Int)) = true := decide_eq_true c6
    clear c6
    obtain rfl := Option.some.inj H
    go_enter Try.func102, Try.ntmps102
    go_wp2
    go_ret
    exact ⟨by first | rfl | (simp; done) | (simp only [← hji4] <;> (first | rfl | simp)) | (simp [*]; done), by repeat (first | exact Drawn0.refl _ | apply Drawn0.step)⟩
   ·
    rw [if_neg c6] at H
    exact absurd H (by simp)
  ·
   rw [if_neg c5] at H
   exact absurd H (by simp)
 ·
  rw [if_neg c3] at H
  have c3b0 : decide ((a1.size : Int) ≤ (a0.size : Int)) = false := decide_eq_false c3
  have c3b1 : decide (a1.size ≤ a0.size) = false := decide_eq_false (fun h => c3 (Int.ofNat_le.mpr h))
  clear c3
  obtain rfl := Option.some.inj H
  go_enter Try.func102, Try.ntmps102
  go_wp2
  go_ret
  exact ⟨by first | rfl | (simp; done) | (simp [*]; done), by repeat (first | exact Drawn0.refl _ | apply Drawn0.step)⟩
/-! ### stringslite_CutSuffix: function 97 -/
def stringslite_CutSuffix.f (a0 : ByteArray) (a1 : ByteArray) : Option (ByteArray × Bool) := (stringslite_HasSuffix.f a0 a1).bind fun t122 => (if t122 = true then (if 0 ≤ (wrap64 ((a0.size : Int) - (a1.size : Int))) then (if (wrap64 ((a0.size : Int) - (a1.size : Int))) ≤ (a0.size : Int) then (some (a0.extract 0 ((wrap64 ((a0.size : Int) - (a1.size : Int))) : Int).toNat, true)) else (none)) else (none)) else (some (a0, false)))
set_option maxHeartbeats 8000000 in
set_option maxRecDepth 100000 in
theorem stringslite_CutSuffix.calls (a0 : ByteArray) (a1 : ByteArray) (r1 : ByteArray) (r2 : Bool) (w : World) (h : stringslite_CutSuffix.f a0 a1 = some (r1, r2)) :
    Calls Try.prog 97 #[.string a0, .string a1] w fun e w' => e = .returned (.tuple #[.string r1, .bool r2]) ∧ Drawn0 w w' := by
 have H : ((stringslite_HasSuffix.f a0 a1).bind fun t122 => (if t122 = true then (if 0 ≤ (wrap64 ((a0.size : Int) - (a1.size : Int))) then (if (wrap64 ((a0.size : Int) - (a1.size : Int))) ≤ (a0.size : Int) then (some (a0.extract 0 ((wrap64 ((a0.size : Int) - (a1.size : Int))) : Int).toNat, true)) else (none)) else (none)) else (some (a0, false)))) = some (r1, r2) := h
 clear h
 replace H := Option.bind_eq_some_iff.mp H
 obtain ⟨t122, A30, H⟩ := H
 try dsimp only at H
 have A3 := Aside0.mk A30
 clear A30
 go_enter Try.func97, Try.ntmps97
 go_wp2_with fail
 (with_reducible refine (stringslite_HasSuffix.calls a0 a1 t122 _ A3.out).mono ?_)
 rintro e w' ⟨rfl, ⟨nd, rfl⟩⟩
 by_cases c4 : t122 = true
 ·
  subst c4
  replace H := (if_pos rfl).symm.trans H
  obtain ⟨ji5, hji5⟩ : ∃ j_ : Int, (wrap64 ((a0.size : Int) - (a1.size : Int))) = j_ := ⟨_, rfl⟩
  replace H : (if 0 ≤ (ji5) then (if (ji5) ≤ (a0.size : Int) then (some (a0.extract 0 ((ji5) : Int).toNat, true)) else (none)) else (none)) = some (r1, r2) := by first | (rw [hji5] at H; exact H) | (simp only [hji5] at H ⊢; exact H)
  (try rw [hji5] at A3)
  have hji5w : (IntKind.i64.wrap ((a0.size : Int) - (a1.size : Int))) = ji5 := (i64_w _).trans hji5
  by_cases c6 : 0 ≤ (ji5)
  ·
   rw [if_pos c6] at H
   have c6b0 := eq_true c6
   have c6b1 : decide (0 ≤ (ji5)) = true := decide_eq_true c6
   clear c6
   by_cases c7 : (ji5) ≤ (a0.size : Int)
   ·
    rw [if_pos c7] at H
    have c7b0 := eq_true c7
    have c7b1 : decide ((ji5) ≤ (a0.size : Int)) = true := decide_eq_true c7
    clear c7
    simp only [Option.some.injEq, Prod.mk.injEq] at H
    obtain ⟨rfl, rfl⟩ := H
    go_wp2
    go_ret2
    exact ⟨by first | rfl | (simp; done) | (simp only [← hji5] <;> (first | rfl | simp)) | (simp [*]; done), by repeat (first | exact Drawn0.refl _ | apply Drawn0.step)⟩
   ·
    rw [if_neg c7] at H
    exact absurd H (by simp)
  ·
   rw [if_neg c6] at H
   exact absurd H (by simp)
 ·
  replace c4 := Bool.eq_false_iff.mpr c4
  subst c4
  replace H := (if_neg Bool.false_ne_true).symm.trans H
  simp only [Option.some.injEq, Prod.mk.injEq] at H
  obtain ⟨rfl, rfl⟩ := H
  go_wp2
  go_ret2
  exact ⟨by first | rfl | (simp; done) | (simp [*]; done), by repeat (first | exact Drawn0.refl _ | apply Drawn0.step)⟩
/-! ### strings_CutSuffix: function 88 -/
def strings_CutSuffix.f (a0 : ByteArray) (a1 : ByteArray) : Option (ByteArray × Bool) := (stringslite_CutSuffix.f a0 a1).bind fun bt123 => (some (bt123.1, bt123.2))
set_option maxHeartbeats 8000000 in
set_option maxRecDepth 100000 in
theorem strings_CutSuffix.calls (a0 : ByteArray) (a1 : ByteArray) (r1 : ByteArray) (r2 : Bool) (w : World) (h : strings_CutSuffix.f a0 a1 = some (r1, r2)) :
    Calls Try.prog 88 #[.string a0, .string a1] w fun e w' => e = .returned (.tuple #[.string r1, .bool r2]) ∧ Drawn0 w w' := by
 have H : ((stringslite_CutSuffix.f a0 a1).bind fun bt123 => (some (bt123.1, bt123.2))) = some (r1, r2) := h
 clear h
 replace H := Option.bind_eq_some_iff.mp H
 obtain ⟨⟨t123, t124⟩, A30, H⟩ := H
 try dsimp only at H
 have A3 := Aside0.mk A30
 clear A30
 go_enter Try.func88, Try.ntmps88
 go_wp2_with fail
 (with_reducible refine (stringslite_CutSuffix.calls a0 a1 t123 t124 _ A3.out).mono ?_)
 rintro e w' ⟨rfl, ⟨nd, rfl⟩⟩
 simp only [Option.some.injEq, Prod.mk.injEq] at H
 obtain ⟨rfl, rfl⟩ := H
 go_wp2
 go_ret2
 exact ⟨by first | rfl | (simp; done) | (simp [*]; done), by repeat (first | exact Drawn0.refl _ | apply Drawn0.step)⟩
/-! ### charref_bare: function 94 -/
mutual
def charref_bare.j0 : Nat → ByteArray → Bool → Option (Int)
  | 0, _, _ => none
  | k + 1, x3, x4 => if x4 = true then (some 38) else (if x3.toList = ([76, 84] : List UInt8) then (charref_bare.j1 k x3 true) else (charref_bare.j1 k x3 (x3.toList == ([108, 116] : List UInt8))))
def charref_bare.j1 : Nat → ByteArray → Bool → Option (Int)
  | 0, _, _ => none
  | k + 1, x3, x7 => if x7 = true then (some 60) else (if x3.toList = ([71, 84] : List UInt8) then (charref_bare.j2 k x3 true) else (charref_bare.j2 k x3 (x3.toList == ([103, 116] : List UInt8))))
def charref_bare.j2 : Nat → ByteArray → Bool → Option (Int)
  | 0, _, _ => none
  | k + 1, x3, x10 => if x10 = true then (some 62) else (if x3.toList = ([81, 85, 79, 84] : List UInt8) then (charref_bare.j3 k x3 true) else (charref_bare.j3 k x3 (x3.toList == ([113, 117, 111, 116] : List UInt8))))
def charref_bare.j3 : Nat → ByteArray → Bool → Option (Int)
  | 0, _, _ => none
  | k + 1, x3, x13 => if x13 = true then (some 34) else (if x3.toList = ([110, 98, 115, 112] : List UInt8) then (some 160) else (if x3.toList = ([99, 111, 112, 121] : List UInt8) then (some 169) else (if x3.toList = ([108, 97, 113, 117, 111] : List UInt8) then (some 171) else (if x3.toList = ([110, 111, 116] : List UInt8) then (some 172) else (if x3.toList = ([115, 104, 121] : List UInt8) then (some 173) else (if x3.toList = ([114, 101, 103] : List UInt8) then (some 174) else (if x3.toList = ([100, 101, 103] : List UInt8) then (some 176) else (if x3.toList = ([112, 97, 114, 97] : List UInt8) then (some 182) else (if x3.toList = ([109, 105, 100, 100, 111, 116] : List UInt8) then (some 183) else (if x3.toList = ([114, 97, 113, 117, 111] : List UInt8) then (some 187) else (if x3.toList = ([69, 97, 99, 117, 116, 101] : List UInt8) then (some 201) else (if x3.toList = ([116, 105, 109, 101, 115] : List UInt8) then (some 215) else (if x3.toList = ([115, 122, 108, 105, 103] : List UInt8) then (some 223) else (if x3.toList = ([101, 97, 99, 117, 116, 101] : List UInt8) then (some 233) else (if x3.toList = ([100, 105, 118, 105, 100, 101] : List UInt8) then (some 247) else (if x3.toList = ([117, 117, 109, 108] : List UInt8) then (some 252) else (some 0)))))))))))))))))
end
def charref_bare.f (k : Nat) (a0 : ByteArray) : Option (Int) := if a0.toList = ([65, 77, 80] : List UInt8) then (charref_bare.j0 k a0 true) else (charref_bare.j0 k a0 (a0.toList == ([97, 109, 112] : List UInt8)))
theorem charref_bare.mono_l : ∀ k, (∀ y0 y1, LeO (charref_bare.j0 k y0 y1) (charref_bare.j0 (k + 1) y0 y1)) ∧ (∀ y0 y1, LeO (charref_bare.j1 k y0 y1) (charref_bare.j1 (k + 1) y0 y1)) ∧ (∀ y0 y1, LeO (charref_bare.j2 k y0 y1) (charref_bare.j2 (k + 1) y0 y1)) ∧ (∀ y0 y1, LeO (charref_bare.j3 k y0 y1) (charref_bare.j3 (k + 1) y0 y1))
  | 0 => ⟨fun _ _ r h => by simp [charref_bare.j0] at h, fun _ _ r h => by simp [charref_bare.j1] at h, fun _ _ r h => by simp [charref_bare.j2] at h, fun _ _ r h => by simp [charref_bare.j3] at h⟩
  | k + 1 => by
    obtain ⟨ih0, ih1, ih2, ih3⟩ := charref_bare.mono_l k
    refine ⟨?_, ?_, ?_, ?_⟩
    · intro y0 y1
      unfold charref_bare.j0
      repeat' first
      | (with_reducible exact ih0 _ _)
      | (with_reducible exact ih1 _ _)
      | (with_reducible exact ih2 _ _)
      | (with_reducible exact ih3 _ _)
      | (with_reducible exact LeO.refl _)
      | (with_reducible exact LeO.none _)
      | (with_reducible refine LeO.ite ?_ ?_)
      | (with_reducible refine LeO.bind ?_ (fun _ => ?_))
      | exact ih0 _ _
      | exact ih1 _ _
      | exact ih2 _ _
      | exact ih3 _ _
      | exact LeO.none _
      | refine LeO.ite ?_ ?_
      | refine LeO.bind ?_ (fun _ => ?_)
    · intro y0 y1
      unfold charref_bare.j1
      repeat' first
      | (with_reducible exact ih0 _ _)
      | (with_reducible exact ih1 _ _)
      | (with_reducible exact ih2 _ _)
      | (with_reducible exact ih3 _ _)
      | (with_reducible exact LeO.refl _)
      | (with_reducible exact LeO.none _)
      | (with_reducible refine LeO.ite ?_ ?_)
      | (with_reducible refine LeO.bind ?_ (fun _ => ?_))
      | exact ih0 _ _
      | exact ih1 _ _
      | exact ih2 _ _
      | exact ih3 _ _
      | exact LeO.none _
      | refine LeO.ite ?_ ?_
      | refine LeO.bind ?_ (fun _ => ?_)
    · intro y0 y1
      unfold charref_bare.j2
      repeat' first
      | (with_reducible exact ih0 _ _)
      | (with_reducible exact ih1 _ _)
      | (with_reducible exact ih2 _ _)
      | (with_reducible exact ih3 _ _)
      | (with_reducible exact LeO.refl _)
      | (with_reducible exact LeO.none _)
      | (with_reducible refine LeO.ite ?_ ?_)
      | (with_reducible refine LeO.bind ?_ (fun _ => ?_))
      | exact ih0 _ _
      | exact ih1 _ _
      | exact ih2 _ _
      | exact ih3 _ _
      | exact LeO.none _
      | refine LeO.ite ?_ ?_
      | refine LeO.bind ?_ (fun _ => ?_)
    · intro y0 y1
      unfold charref_bare.j3
      repeat' first
      | (with_reducible exact ih0 _ _)
      | (with_reducible exact ih1 _ _)
      | (with_reducible exact ih2 _ _)
      | (with_reducible exact ih3 _ _)
      | (with_reducible exact LeO.refl _)
      | (with_reducible exact LeO.none _)
      | (with_reducible refine LeO.ite ?_ ?_)
      | (with_reducible refine LeO.bind ?_ (fun _ => ?_))
      | exact ih0 _ _
      | exact ih1 _ _
      | exact ih2 _ _
      | exact ih3 _ _
      | exact LeO.none _
      | refine LeO.ite ?_ ?_
      | refine LeO.bind ?_ (fun _ => ?_)
theorem charref_bare.mono : ∀ a0 k, LeO (charref_bare.f k a0) (charref_bare.f (k + 1) a0) := by
 intro a0 k
 obtain ⟨ih0, ih1, ih2, ih3⟩ := charref_bare.mono_l k
 unfold charref_bare.f
 repeat' first
     | (with_reducible exact ih0 _ _)
     | (with_reducible exact ih1 _ _)
     | (with_reducible exact ih2 _ _)
     | (with_reducible exact ih3 _ _)
     | (with_reducible exact LeO.refl _)
     | (with_reducible exact LeO.none _)
     | (with_reducible refine LeO.ite ?_ ?_)
     | (with_reducible refine LeO.bind ?_ (fun _ => ?_))
     | exact ih0 _ _
     | exact ih1 _ _
     | exact ih2 _ _
     | exact ih3 _ _
     | exact LeO.none _
     | refine LeO.ite ?_ ?_
     | refine LeO.bind ?_ (fun _ => ?_)
set_option maxHeartbeats 8000000 in
set_option maxRecDepth 100000 in
theorem charref_bare.calls (k : Nat) (a0 : ByteArray) (r : Int) (w : World) (h : charref_bare.f k a0 = some r) :
    Calls Try.prog 94 #[.string a0] w fun e w' => e = .returned (.int .i32 r) ∧ Drawn0 w w' := by
 have H : (if a0.toList = ([65, 77, 80] : List UInt8) then (charref_bare.j0 k a0 true) else (charref_bare.j0 k a0 (a0.toList == ([97, 109, 112] : List UInt8)))) = some r := h
 clear h
 have HC2 := Aside0.mk H
 clear H
 go_enter Try.func94, Try.ntmps94
 go_upto_if 4 with (fail)
 go_cut [4] (fun v4 wc => ∃ (kq : Nat) (x4_1 : Bool), v4 = .bool x4_1 ∧ Aside0 (charref_bare.j0 kq a0 x4_1 = some r) ∧ Aside0 (kq ≤ k) ∧ Drawn0 w wc)
 case first =>
  have H := HC2.out
  clear HC2
  by_cases c3 : a0.toList = ([65, 77, 80] : List UInt8)
  ·
   rw [if_pos c3] at H
   have c3b0 : (a0.toList == ([65, 77, 80] : List UInt8)) = true := beq_iff_eq.mpr c3
   have c3b1 : (a0.toList != ([65, 77, 80] : List UInt8)) = false := bne_eq_false_iff_eq.mpr c3
   clear c3
   (first | rw [c3b0] | (simp only [i64_w, i32_w]; rw [c3b0]) | skip)
   have H' := Aside0.mk H
   clear H
   go_wp2
   go_meet
   case rel => exact ⟨_, (true), (by first | rfl | (simp; done) | (simp [*]; done)), H', ⟨by first | omega | exact Nat.le_refl _⟩, by repeat (first | exact Drawn0.refl _ | apply Drawn0.step)⟩
  ·
   rw [if_neg c3] at H
   have c3b0 : (a0.toList == ([65, 77, 80] : List UInt8)) = false := beq_eq_false_iff_ne.mpr c3
   have c3b1 : (a0.toList != ([65, 77, 80] : List UInt8)) = true := bne_iff_ne.mpr c3
   (first | rw [c3b0] | (simp only [i64_w, i32_w]; rw [c3b0]) | skip)
   have H' := Aside0.mk H
   clear H
   go_wp2
   go_meet
   case rel => exact ⟨_, ((a0.toList == ([97, 109, 112] : List UInt8))), (by first | rfl | (simp; done) | (simp [*]; done)), H', ⟨by first | omega | exact Nat.le_refl _⟩, by repeat (first | exact Drawn0.refl _ | apply Drawn0.step)⟩
 case rest =>
  clear HC2
  try clear p2
  try clear c3
  try clear c3b0
  try clear c3b1
  obtain ⟨kq, x4_1, rfl, HA, HJ1, ⟨mc1, rfl⟩⟩ := hcut
  cases kq with
  | zero => exact absurd HA.out (by simp [charref_bare.j0])
  | succ kj1 =>
   have H := HA.out
   clear HA
   simp only [charref_bare.j0] at H
   by_cases c4 : x4_1 = true
   ·
    subst c4
    replace H := (if_pos rfl).symm.trans H
    obtain rfl := Option.some.inj H
    go_wp2
    go_ret
    exact ⟨by first | rfl | (simp; done) | (simp [*]; done), by repeat (first | exact Drawn0.refl _ | apply Drawn0.step)⟩
   ·
    replace c4 := Bool.eq_false_iff.mpr c4
    subst c4
    replace H := (if_neg Bool.false_ne_true).symm.trans H
    have HC5 := Aside0.mk H
    clear H
    go_upto_if 7 with (fail)
    go_cut [7] (fun v7 wc => ∃ (kq : Nat) (x7_4 : Bool), v7 = .bool x7_4 ∧ Aside0 (charref_bare.j1 kq a0 x7_4 = some r) ∧ Aside0 (kq ≤ kj1) ∧ Drawn0 w wc)
    case first =>
     have H := HC5.out
     clear HC5
     by_cases c6 : a0.toList = ([76, 84] : List UInt8)
     ·
      rw [if_pos c6] at H
      have c6b0 : (a0.toList == ([76, 84] : List UInt8)) = true := beq_iff_eq.mpr c6
      have c6b1 : (a0.toList != ([76, 84] : List UInt8)) = false := bne_eq_false_iff_eq.mpr c6
      clear c6
      (first | rw [c6b0] | (simp only [i64_w, i32_w]; rw [c6b0]) | skip)
      have H' := Aside0.mk H
      clear H
      go_wp2
      go_meet
      case rel => exact ⟨_, (true), (by first | rfl | (simp; done) | (simp [*]; done)), H', ⟨by have := HJ1.out; first | omega | exact Nat.le_refl _⟩, by repeat (first | exact Drawn0.refl _ | apply Drawn0.step)⟩
     ·
      rw [if_neg c6] at H
      have c6b0 : (a0.toList == ([76, 84] : List UInt8)) = false := beq_eq_false_iff_ne.mpr c6
      have c6b1 : (a0.toList != ([76, 84] : List UInt8)) = true := bne_iff_ne.mpr c6
      (first | rw [c6b0] | (simp only [i64_w, i32_w]; rw [c6b0]) | skip)
      have H' := Aside0.mk H
      clear H
      go_wp2
      go_meet
      case rel => exact ⟨_, ((a0.toList == ([108, 116] : List UInt8))), (by first | rfl | (simp; done) | (simp [*]; done)), H', ⟨by have := HJ1.out; first | omega | exact Nat.le_refl _⟩, by repeat (first | exact Drawn0.refl _ | apply Drawn0.step)⟩
    case rest =>
     clear HC5
     try clear c1
     try clear p2
     try clear c3
     try clear c3b0
     try clear c3b1
     try clear c4
     try clear c6
     try clear c6b0
     try clear c6b1
     try clear p2
     obtain ⟨kq, x7_4, rfl, HA, HJ4, ⟨mc4, rfl⟩⟩ := hcut
     cases kq with
     | zero => exact absurd HA.out (by simp [charref_bare.j1])
     | succ kj4 =>
      have H := HA.out
      clear HA
      simp only [charref_bare.j1] at H
      by_cases c7 : x7_4 = true
      ·
       subst c7
       replace H := (if_pos rfl).symm.trans H
       obtain rfl := Option.some.inj H
       go_wp2
       go_ret
       exact ⟨by first | rfl | (simp; done) | (simp [*]; done), by repeat (first | exact Drawn0.refl _ | apply Drawn0.step)⟩
      ·
       replace c7 := Bool.eq_false_iff.mpr c7
       subst c7
       replace H := (if_neg Bool.false_ne_true).symm.trans H
       have HC8 := Aside0.mk H
       clear H
       go_upto_if 10 with (fail)
       go_cut [10] (fun v10 wc => ∃ (kq : Nat) (x10_7 : Bool), v10 = .bool x10_7 ∧ Aside0 (charref_bare.j2 kq a0 x10_7 = some r) ∧ Aside0 (kq ≤ kj4) ∧ Drawn0 w wc)
       case first =>
        have H := HC8.out
        clear HC8
        by_cases c9 : a0.toList = ([71, 84] : List UInt8)
        ·
         rw [if_pos c9] at H
         have c9b0 : (a0.toList == ([71, 84] : List UInt8)) = true := beq_iff_eq.mpr c9
         have c9b1 : (a0.toList != ([71, 84] : List UInt8)) = false := bne_eq_false_iff_eq.mpr c9
         clear c9
         (first | rw [c9b0] | (simp only [i64_w, i32_w]; rw [c9b0]) | skip)
         have H' := Aside0.mk H
         clear H
         go_wp2
         go_meet
         case rel => exact ⟨_, (true), (by first | rfl | (simp; done) | (simp [*]; done)), H', ⟨by have := HJ1.out; have := HJ4.out; first | omega | exact Nat.le_refl _⟩, by repeat (first | exact Drawn0.refl _ | apply Drawn0.step)⟩
        ·
         rw [if_neg c9] at H
         have c9b0 : (a0.toList == ([71, 84] : List UInt8)) = false := beq_eq_false_iff_ne.mpr c9
         have c9b1 : (a0.toList != ([71, 84] : List UInt8)) = true := bne_iff_ne.mpr c9
         (first | rw [c9b0] | (simp only [i64_w, i32_w]; rw [c9b0]) | skip)
         have H' := Aside0.mk H
         clear H
         go_wp2
         go_meet
         case rel => exact ⟨_, ((a0.toList == ([103, 116] : List UInt8))), (by first | rfl | (simp; done) | (simp [*]; done)), H', ⟨by have := HJ1.out; have := HJ4.out; first | omega | exact Nat.le_refl _⟩, by repeat (first | exact Drawn0.refl _ | apply Drawn0.step)⟩
       case rest =>
        clear HC8
        try clear c1
        try clear p2
        try clear c3
        try clear c3b0
        try clear c3b1
        try clear c4
        try clear c6
        try clear c6b0
        try clear c6b1
        try clear c7
        try clear c9
        try clear c9b0
        try clear c9b1
        try clear p2
        obtain ⟨kq, x10_7, rfl, HA, HJ7, ⟨mc7, rfl⟩⟩ := hcut
        cases kq with
        | zero => exact absurd HA.out (by simp [charref_bare.j2])
        | succ kj7 =>
         have H := HA.out
         clear HA
         simp only [charref_bare.j2] at H
         by_cases c10 : x10_7 = true
         ·
          subst c10
          replace H := (if_pos rfl).symm.trans H
          obtain rfl := Option.some.inj H
          go_wp2
          go_ret
          exact ⟨by first | rfl | (simp; done) | (simp [*]; done), by repeat (first | exact Drawn0.refl _ | apply Drawn0.step)⟩
         ·
          replace c10 := Bool.eq_false_iff.mpr c10
          subst c10
          replace H := (if_neg Bool.false_ne_true).symm.trans H
          have HC11 := Aside0.mk H
          clear H
          go_upto_if 13 with (fail)
          go_cut [13] (fun v13 wc => ∃ (kq : Nat) (x13_10 : Bool), v13 = .bool x13_10 ∧ Aside0 (charref_bare.j3 kq a0 x13_10 = some r) ∧ Aside0 (kq ≤ kj7) ∧ Drawn0 w wc)
          case first =>
           have H := HC11.out
           clear HC11
           by_cases c12 : a0.toList = ([81, 85, 79, 84] : List UInt8)
           ·
            rw [if_pos c12] at H
            have c12b0 : (a0.toList == ([81, 85, 79, 84] : List UInt8)) = true := beq_iff_eq.mpr c12
            have c12b1 : (a0.toList != ([81, 85, 79, 84] : List UInt8)) = false := bne_eq_false_iff_eq.mpr c12
            clear c12
            (first | rw [c12b0] | (simp only [i64_w, i32_w]; rw [c12b0]) | skip)
            have H' := Aside0.mk H
            clear H
            go_wp2
            go_meet
            case rel => exact ⟨_, (true), (by first | rfl | (simp; done) | (simp [*]; done)), H', ⟨by have := HJ1.out; have := HJ4.out; have := HJ7.out; first | omega | exact Nat.le_refl _⟩, by repeat (first | exact Drawn0.refl _ | apply Drawn0.step)⟩
           ·
            rw [if_neg c12] at H
            have c12b0 : (a0.toList == ([81, 85, 79, 84] : List UInt8)) = false := beq_eq_false_iff_ne.mpr c12
            have c12b1 : (a0.toList != ([81, 85, 79, 84] : List UInt8)) = true := bne_iff_ne.mpr c12
            (first | rw [c12b0] | (simp only [i64_w, i32_w]; rw [c12b0]) | skip)
            have H' := Aside0.mk H
            clear H
            go_wp2
            go_meet
            case rel => exact ⟨_, ((a0.toList == ([113, 117, 111, 116] : List UInt8))), (by first | rfl | (simp; done) | (simp [*]; done)), H', ⟨by have := HJ1.out; have := HJ4.out; have := HJ7.out; first | omega | exact Nat.le_refl _⟩, by repeat (first | exact Drawn0.refl _ | apply Drawn0.step)⟩
          case rest =>
           clear HC11
           try clear c1
           try clear p2
           try clear c3
           try clear c3b0
           try clear c3b1
           try clear c4
           try clear c6
           try clear c6b0
           try clear c6b1
           try clear c7
           try clear c9
           try clear c9b0
           try clear c9b1
           try clear c10
           try clear c12
           try clear c12b0
           try clear c12b1
           try clear p2
           obtain ⟨kq, x13_10, rfl, HA, HJ10, ⟨mc10, rfl⟩⟩ := hcut
           cases kq with
           | zero => exact absurd HA.out (by simp [charref_bare.j3])
           | succ kj10 =>
            have H := HA.out
            clear HA
            simp only [charref_bare.j3] at H
            by_cases c13 : x13_10 = true
            ·
             subst c13
             replace H := (if_pos rfl).symm.trans H
             obtain rfl := Option.some.inj H
             go_wp2
             go_ret
             exact ⟨by first | rfl | (simp; done) | (simp [*]; done), by repeat (first | exact Drawn0.refl _ | apply Drawn0.step)⟩
            ·
             replace c13 := Bool.eq_false_iff.mpr c13
             subst c13
             replace H := (if_neg Bool.false_ne_true).symm.trans H
             by_cases c14 : a0.toList = ([110, 98, 115, 112] : List UInt8)
             ·
              rw [if_pos c14] at H
              have c14b0 : (a0.toList == ([110, 98, 115, 112] : List UInt8)) = true := beq_iff_eq.mpr c14
              have c14b1 : (a0.toList != ([110, 98, 115, 112] : List UInt8)) = false := bne_eq_false_iff_eq.mpr c14
              clear c14
              obtain rfl := Option.some.inj H
              go_wp2
              go_ret
              exact ⟨by first | rfl | (simp; done) | (simp [*]; done), by repeat (first | exact Drawn0.refl _ | apply Drawn0.step)⟩
             ·
              rw [if_neg c14] at H
              have c14b0 : (a0.toList == ([110, 98, 115, 112] : List UInt8)) = false := beq_eq_false_iff_ne.mpr c14
              have c14b1 : (a0.toList != ([110, 98, 115, 112] : List UInt8)) = true := bne_iff_ne.mpr c14
              by_cases c15 : a0.toList = ([99, 111, 112, 121] : List UInt8)
              ·
               rw [if_pos c15] at H
               have c15b0 : (a0.toList == ([99, 111, 112, 121] : List UInt8)) = true := beq_iff_eq.mpr c15
               have c15b1 : (a0.toList != ([99, 111, 112, 121] : List UInt8)) = false := bne_eq_false_iff_eq.mpr c15
               clear c15
               obtain rfl := Option.some.inj H
               go_wp2
               go_ret
               exact ⟨by first | rfl | (simp; done) | (simp [*]; done), by repeat (first | exact Drawn0.refl _ | apply Drawn0.step)⟩
              ·
               rw [if_neg c15] at H
               have c15b0 : (a0.toList == ([99, 111, 112, 121] : List UInt8)) = false := beq_eq_false_iff_ne.mpr c15
               have c15b1 : (a0.toList != ([99, 111, 112, 121] : List UInt8)) = true := bne_iff_ne.mpr c15
               by_cases c16 : a0.toList = ([108, 97, 113, 117, 111] : List UInt8)
               ·
                rw [if_pos c16] at H
                have c16b0 : (a0.toList == ([108, 97, 113, 117, 111] : List UInt8)) = true := beq_iff_eq.mpr c16
                have c16b1 : (a0.toList != ([108, 97, 113, 117, 111] : List UInt8)) = false := bne_eq_false_iff_eq.mpr c16
                clear c16
                obtain rfl := Option.some.inj H
                go_wp2
                go_ret
                exact ⟨by first | rfl | (simp; done) | (simp [*]; done), by repeat (first | exact Drawn0.refl _ | apply Drawn0.step)⟩
               ·
                rw [if_neg c16] at H
                have c16b0 : (a0.toList == ([108, 97, 113, 117, 111] : List UInt8)) = false := beq_eq_false_iff_ne.mpr c16
                have c16b1 : (a0.toList != ([108, 97, 113, 117, 111] : List UInt8)) = true := bne_iff_ne.mpr c16
                by_cases c17 : a0.toList = ([110, 111, 116] : List UInt8)
                ·
                 rw [if_pos c17] at H
                 have c17b0 : (a0.toList == ([110, 111, 116] : List UInt8)) = true := beq_iff_eq.mpr c17
                 have c17b1 : (a0.toList != ([110, 111, 116] : List UInt8)) = false := bne_eq_false_iff_eq.mpr c17
                 clear c17
                 obtain rfl := Option.some.inj H
                 go_wp2
                 go_ret
                 exact ⟨by first | rfl | (simp; done) | (simp [*]; done), by repeat (first | exact Drawn0.refl _ | apply Drawn0.step)⟩
                ·
                 rw [if_neg c17] at H
                 have c17b0 : (a0.toList == ([110, 111, 116] : List UInt8)) = false := beq_eq_false_iff_ne.mpr c17
                 have c17b1 : (a0.toList != ([110, 111, 116] : List UInt8)) = true := bne_iff_ne.mpr c17
                 by_cases c18 : a0.toList = ([115, 104, 121] : List UInt8)
                 ·
                  rw [if_pos c18] at H
                  have c18b0 : (a0.toList == ([115, 104, 121] : List UInt8)) = true := beq_iff_eq.mpr c18
                  have c18b1 : (a0.toList != ([115, 104, 121] : List UInt8)) = false := bne_eq_false_iff_eq.mpr c18
                  clear c18
                  obtain rfl := Option.some.inj H
                  go_wp2
                  go_ret
                  exact ⟨by first | rfl | (simp; done) | (simp [*]; done), by repeat (first | exact Drawn0.refl _ | apply Drawn0.step)⟩
                 ·
                  rw [if_neg c18] at H
                  have c18b0 : (a0.toList == ([115, 104, 121] : List UInt8)) = false := beq_eq_false_iff_ne.mpr c18
                  have c18b1 : (a0.toList != ([115, 104, 121] : List UInt8)) = true := bne_iff_ne.mpr c18
                  by_cases c19 : a0.toList = ([114, 101, 103] : List UInt8)
                  ·
                   rw [if_pos c19] at H
                   have c19b0 : (a0.toList == ([114, 101, 103] : List UInt8)) = true := beq_iff_eq.mpr c19
                   have c19b1 : (a0.toList != ([114, 101, 103] : List UInt8)) = false := bne_eq_false_iff_eq.mpr c19
                   clear c19
                   obtain rfl := Option.some.inj H
                   go_wp2
                   go_ret
                   exact ⟨by first | rfl | (simp; done) | (simp [*]; done), by repeat (first | exact Drawn0.refl _ | apply Drawn0.step)⟩
                  ·
                   rw [if_neg c19] at H
                   have c19b0 : (a0.toList == ([114, 101, 103] : List UInt8)) = false := beq_eq_false_iff_ne.mpr c19
                   have c19b1 : (a0.toList != ([114, 101, 103] : List UInt8)) = true := bne_iff_ne.mpr c19
                   by_cases c20 : a0.toList = ([100, 101, 103] : List UInt8)
                   ·
                    rw [if_pos c20] at H
                    have c20b0 : (a0.toList == ([100, 101, 103] : List UInt8)) = true := beq_iff_eq.mpr c20
                    have c20b1 : (a0.toList != ([100, 101, 103] : List UInt8)) = false := bne_eq_false_iff_eq.mpr c20
                    clear c20
                    obtain rfl := Option.some.inj H
                    go_wp2
                    go_ret
                    exact ⟨by first | rfl | (simp; done) | (simp [*]; done), by repeat (first | exact Drawn0.refl _ | apply Drawn0.step)⟩
                   ·
                    rw [if_neg c20] at H
                    have c20b0 : (a0.toList == ([100, 101, 103] : List UInt8)) = false := beq_eq_false_iff_ne.mpr c20
                    have c20b1 : (a0.toList != ([100, 101, 103] : List UInt8)) = true := bne_iff_ne.mpr c20
                    by_cases c21 : a0.toList = ([112, 97, 114, 97] : List UInt8)
                    ·
                     rw [if_pos c21] at H
                     have c21b0 : (a0.toList == ([112, 97, 114, 97] : List UInt8)) = true := beq_iff_eq.mpr c21
                     have c21b1 : (a0.toList != ([112, 97, 114, 97] : List UInt8)) = false := bne_eq_false_iff_eq.mpr c21
                     clear c21
                     obtain rfl := Option.some.inj H
                     go_wp2
                     go_ret
                     exact ⟨by first | rfl | (simp; done) | (simp [*]; done), by repeat (first | exact Drawn0.refl _ | apply Drawn0.step)⟩
                    ·
                     rw [if_neg c21] at H
                     have c21b0 : (a0.toList == ([112, 97, 114, 97] : List UInt8)) = false := beq_eq_false_iff_ne.mpr c21
                     have c21b1 : (a0.toList != ([112, 97, 114, 97] : List UInt8)) = true := bne_iff_ne.mpr c21
                     by_cases c22 : a0.toList = ([109, 105, 100, 100, 111, 116] : List UInt8)
                     ·
                      rw [if_pos c22] at H
                      have c22b0 : (a0.toList == ([109, 105, 100, 100, 111, 116] : List UInt8)) = true := beq_iff_eq.mpr c22
                      have c22b1 : (a0.toList != ([109, 105, 100, 100, 111, 116] : List UInt8)) = false := bne_eq_false_iff_eq.mpr c22
                      clear c22
                      obtain rfl := Option.some.inj H
                      go_wp2
                      go_ret
                      exact ⟨by first | rfl | (simp; done) | (simp [*]; done), by repeat (first | exact Drawn0.refl _ | apply Drawn0.step)⟩
                     ·
                      rw [if_neg c22] at H
                      have c22b0 : (a0.toList == ([109, 105, 100, 100, 111, 116] : List UInt8)) = false := beq_eq_false_iff_ne.mpr c22
                      have c22b1 : (a0.toList != ([109, 105, 100, 100, 111, 116] : List UInt8)) = true := bne_iff_ne.mpr c22
                      by_cases c23 : a0.toList = ([114, 97, 113, 117, 111] : List UInt8)
                      ·
                       rw [if_pos c23] at H
                       have c23b0 : (a0.toList == ([114, 97, 113, 117, 111] : List UInt8)) = true := beq_iff_eq.mpr c23
                       have c23b1 : (a0.toList != ([114, 97, 113, 117, 111] : List UInt8)) = false := bne_eq_false_iff_eq.mpr c23
                       clear c23
                       obtain rfl := Option.some.inj H
                       go_wp2
                       go_ret
                       exact ⟨by first | rfl | (simp; done) | (simp [*]; done), by repeat (first | exact Drawn0.refl _ | apply Drawn0.step)⟩
                      ·
                       rw [if_neg c23] at H
                       have c23b0 : (a0.toList == ([114, 97, 113, 117, 111] : List UInt8)) = false := beq_eq_false_iff_ne.mpr c23
                       have c23b1 : (a0.toList != ([114, 97, 113, 117, 111] : List UInt8)) = true := bne_iff_ne.mpr c23
                       by_cases c24 : a0.toList = ([69, 97, 99, 117, 116, 101] : List UInt8)
                       ·
                        rw [if_pos c24] at H
                        have c24b0 : (a0.toList == ([69, 97, 99, 117, 116, 101] : List UInt8)) = true := beq_iff_eq.mpr c24
                        have c24b1 : (a0.toList != ([69, 97, 99, 117, 116, 101] : List UInt8)) = false := bne_eq_false_iff_eq.mpr c24
                        clear c24
                        obtain rfl := Option.some.inj H
                        go_wp2
                        go_ret
                        exact ⟨by first | rfl | (simp; done) | (simp [*]; done), by repeat (first | exact Drawn0.refl _ | apply Drawn0.step)⟩
                       ·
                        rw [if_neg c24] at H
                        have c24b0 : (a0.toList == ([69, 97, 99, 117, 116, 101] : List UInt8)) = false := beq_eq_false_iff_ne.mpr c24
                        have c24b1 : (a0.toList != ([69, 97, 99, 117, 116, 101] : List UInt8)) = true := bne_iff_ne.mpr c24
                        by_cases c25 : a0.toList = ([116, 105, 109, 101, 115] : List UInt8)
                        ·
                         rw [if_pos c25] at H
                         have c25b0 : (a0.toList == ([116, 105, 109, 101, 115] : List UInt8)) = true := beq_iff_eq.mpr c25
                         have c25b1 : (a0.toList != ([116, 105, 109, 101, 115] : List UInt8)) = false := bne_eq_false_iff_eq.mpr c25
                         clear c25
                         obtain rfl := Option.some.inj H
                         go_wp2
                         go_ret
                         exact ⟨by first | rfl | (simp; done) | (simp [*]; done), by repeat (first | exact Drawn0.refl _ | apply Drawn0.step)⟩
                        ·
                         rw [if_neg c25] at H
                         have c25b0 : (a0.toList == ([116, 105, 109, 101, 115] : List UInt8)) = false := beq_eq_false_iff_ne.mpr c25
                         have c25b1 : (a0.toList != ([116, 105, 109, 101, 115] : List UInt8)) = true := bne_iff_ne.mpr c25
                         by_cases c26 : a0.toList = ([115, 122, 108, 105, 103] : List UInt8)
                         ·
                          rw [if_pos c26] at H
                          have c26b0 : (a0.toList == ([115, 122, 108, 105, 103] : List UInt8)) = true := beq_iff_eq.mpr c26
                          have c26b1 : (a0.toList != ([115, 122, 108, 105, 103] : List UInt8)) = false := bne_eq_false_iff_eq.mpr c26
                          clear c26
                          obtain rfl := Option.some.inj H
                          go_wp2
                          go_ret
                          exact ⟨by first | rfl | (simp; done) | (simp [*]; done), by repeat (first | exact Drawn0.refl _ | apply Drawn0.step)⟩
                         ·
                          rw [if_neg c26] at H
                          have c26b0 : (a0.toList == ([115, 122, 108, 105, 103] : List UInt8)) = false := beq_eq_false_iff_ne.mpr c26
                          have c26b1 : (a0.toList != ([115, 122, 108, 105, 103] : List UInt8)) = true := bne_iff_ne.mpr c26
                          by_cases c27 : a0.toList = ([101, 97, 99, 117, 116, 101] : List UInt8)
                          ·
                           rw [if_pos c27] at H
                           have c27b0 : (a0.toList == ([101, 97, 99, 117, 116, 101] : List UInt8)) = true := beq_iff_eq.mpr c27
                           have c27b1 : (a0.toList != ([101, 97, 99, 117, 116, 101] : List UInt8)) = false := bne_eq_false_iff_eq.mpr c27
                           clear c27
                           obtain rfl := Option.some.inj H
                           go_wp2
                           go_ret
                           exact ⟨by first | rfl | (simp; done) | (simp [*]; done), by repeat (first | exact Drawn0.refl _ | apply Drawn0.step)⟩
                          ·
                           rw [if_neg c27] at H
                           have c27b0 : (a0.toList == ([101, 97, 99, 117, 116, 101] : List UInt8)) = false := beq_eq_false_iff_ne.mpr c27
                           have c27b1 : (a0.toList != ([101, 97, 99, 117, 116, 101] : List UInt8)) = true := bne_iff_ne.mpr c27
                           by_cases c28 : a0.toList = ([100, 105, 118, 105, 100, 101] : List UInt8)
                           ·
                            rw [if_pos c28] at H
                            have c28b0 : (a0.toList == ([100, 105, 118, 105, 100, 101] : List UInt8)) = true := beq_iff_eq.mpr c28
                            have c28b1 : (a0.toList != ([100, 105, 118, 105, 100, 101] : List UInt8)) = false := bne_eq_false_iff_eq.mpr c28
                            clear c28
                            obtain rfl := Option.some.inj H
                            go_wp2
                            go_ret
                            exact ⟨by first | rfl | (simp; done) | (simp [*]; done), by repeat (first | exact Drawn0.refl _ | apply Drawn0.step)⟩
                           ·
                            rw [if_neg c28] at H
                            have c28b0 : (a0.toList == ([100, 105, 118, 105, 100, 101] : List UInt8)) = false := beq_eq_false_iff_ne.mpr c28
                            have c28b1 : (a0.toList != ([100, 105, 118, 105, 100, 101] : List UInt8)) = true := bne_iff_ne.mpr c28
                            by_cases c29 : a0.toList = ([117, 117, 109, 108] : List UInt8)
                            ·
                             rw [if_pos c29] at H
                             have c29b0 : (a0.toList == ([117, 117, 109, 108] : List UInt8)) = true := beq_iff_eq.mpr c29
                             have c29b1 : (a0.toList != ([117, 117, 109, 108] : List UInt8)) = false := bne_eq_false_iff_eq.mpr c29
                             clear c29
                             obtain rfl := Option.some.inj H
                             go_wp2
                             go_ret
                             exact ⟨by first | rfl | (simp; done) | (simp [*]; done), by repeat (first | exact Drawn0.refl _ | apply Drawn0.step)⟩
                            ·
                             rw [if_neg c29] at H
                             have c29b0 : (a0.toList == ([117, 117, 109, 108] : List UInt8)) = false := beq_eq_false_iff_ne.mpr c29
                             have c29b1 : (a0.toList != ([117, 117, 109, 108] : List UInt8)) = true := bne_iff_ne.mpr c29
                             obtain rfl := Option.some.inj H
                             go_wp2
                             go_ret
                             exact ⟨by first | rfl | (simp; done) | (simp [*]; done), by repeat (first | exact Drawn0.refl _ | apply Drawn0.step)⟩
/-! ### charref_ended: function 95 -/
def charref_ended.f (a0 : ByteArray) : Option (Int) := if a0.toList = ([84, 97, 98] : List UInt8) then (some 9) else (if a0.toList = ([78, 101, 119, 76, 105, 110, 101] : List UInt8) then (some 10) else (if a0.toList = ([101, 120, 99, 108] : List UInt8) then (some 33) else (if a0.toList = ([110, 117, 109] : List UInt8) then (some 35) else (if a0.toList = ([97, 112, 111, 115] : List UInt8) then (some 39) else (if a0.toList = ([108, 112, 97, 114] : List UInt8) then (some 40) else (if a0.toList = ([114, 112, 97, 114] : List UInt8) then (some 41) else (if a0.toList = ([115, 111, 108] : List UInt8) then (some 47) else (if a0.toList = ([99, 111, 108, 111, 110] : List UInt8) then (some 58) else (if a0.toList = ([98, 115, 111, 108] : List UInt8) then (some 92) else (if a0.toList = ([110, 100, 97, 115, 104] : List UInt8) then (some 8211) else (if a0.toList = ([109, 100, 97, 115, 104] : List UInt8) then (some 8212) else (if a0.toList = ([108, 115, 113, 117, 111] : List UInt8) then (some 8216) else (if a0.toList = ([114, 115, 113, 117, 111] : List UInt8) then (some 8217) else (if a0.toList = ([108, 100, 113, 117, 111] : List UInt8) then (some 8220) else (if a0.toList = ([114, 100, 113, 117, 111] : List UInt8) then (some 8221) else (if a0.toList = ([104, 101, 108, 108, 105, 112] : List UInt8) then (some 8230) else (if a0.toList = ([101, 117, 114, 111] : List UInt8) then (some 8364) else (if a0.toList = ([116, 114, 97, 100, 101] : List UInt8) then (some 8482) else (if a0.toList = ([110, 111, 116, 105, 110] : List UInt8) then (some 8713) else (if a0.toList = ([116, 105, 109, 101, 115, 98] : List UInt8) then (some 8864) else (some 0)))))))))))))))))))))
set_option maxHeartbeats 8000000 in
set_option maxRecDepth 100000 in
theorem charref_ended.calls (a0 : ByteArray) (r : Int) (w : World) (h : charref_ended.f a0 = some r) :
    Calls Try.prog 95 #[.string a0] w fun e w' => e = .returned (.int .i32 r) ∧ Drawn0 w w' := by
 have H : (if a0.toList = ([84, 97, 98] : List UInt8) then (some 9) else (if a0.toList = ([78, 101, 119, 76, 105, 110, 101] : List UInt8) then (some 10) else (if a0.toList = ([101, 120, 99, 108] : List UInt8) then (some 33) else (if a0.toList = ([110, 117, 109] : List UInt8) then (some 35) else (if a0.toList = ([97, 112, 111, 115] : List UInt8) then (some 39) else (if a0.toList = ([108, 112, 97, 114] : List UInt8) then (some 40) else (if a0.toList = ([114, 112, 97, 114] : List UInt8) then (some 41) else (if a0.toList = ([115, 111, 108] : List UInt8) then (some 47) else (if a0.toList = ([99, 111, 108, 111, 110] : List UInt8) then (some 58) else (if a0.toList = ([98, 115, 111, 108] : List UInt8) then (some 92) else (if a0.toList = ([110, 100, 97, 115, 104] : List UInt8) then (some 8211) else (if a0.toList = ([109, 100, 97, 115, 104] : List UInt8) then (some 8212) else (if a0.toList = ([108, 115, 113, 117, 111] : List UInt8) then (some 8216) else (if a0.toList = ([114, 115, 113, 117, 111] : List UInt8) then (some 8217) else (if a0.toList = ([108, 100, 113, 117, 111] : List UInt8) then (some 8220) else (if a0.toList = ([114, 100, 113, 117, 111] : List UInt8) then (some 8221) else (if a0.toList = ([104, 101, 108, 108, 105, 112] : List UInt8) then (some 8230) else (if a0.toList = ([101, 117, 114, 111] : List UInt8) then (some 8364) else (if a0.toList = ([116, 114, 97, 100, 101] : List UInt8) then (some 8482) else (if a0.toList = ([110, 111, 116, 105, 110] : List UInt8) then (some 8713) else (if a0.toList = ([116, 105, 109, 101, 115, 98] : List UInt8) then (some 8864) else (some 0)))))))))))))))))))))) = some r := h
 clear h
 by_cases c2 : a0.toList = ([84, 97, 98] : List UInt8)
 ·
  rw [if_pos c2] at H
  have c2b0 : (a0.toList == ([84, 97, 98] : List UInt8)) = true := beq_iff_eq.mpr c2
  have c2b1 : (a0.toList != ([84, 97, 98] : List UInt8)) = false := bne_eq_false_iff_eq.mpr c2
  clear c2
  obtain rfl := Option.some.inj H
  go_enter Try.func95, Try.ntmps95
  go_wp2
  go_ret
  exact ⟨by first | rfl | (simp; done) | (simp [*]; done), by repeat (first | exact Drawn0.refl _ | apply Drawn0.step)⟩
 ·
  rw [if_neg c2] at H
  have c2b0 : (a0.toList == ([84, 97, 98] : List UInt8)) = false := beq_eq_false_iff_ne.mpr c2
  have c2b1 : (a0.toList != ([84, 97, 98] : List UInt8)) = true := bne_iff_ne.mpr c2
  by_cases c3 : a0.toList = ([78, 101, 119, 76, 105, 110, 101] : List UInt8)
  ·
   rw [if_pos c3] at H
   have c3b0 : (a0.toList == ([78, 101, 119, 76, 105, 110, 101] : List UInt8)) = true := beq_iff_eq.mpr c3
   have c3b1 : (a0.toList != ([78, 101, 119, 76, 105, 110, 101] : List UInt8)) = false := bne_eq_false_iff_eq.mpr c3
   clear c3
   obtain rfl := Option.some.inj H
   go_enter Try.func95, Try.ntmps95
   go_wp2
   go_ret
   exact ⟨by first | rfl | (simp; done) | (simp [*]; done), by repeat (first | exact Drawn0.refl _ | apply Drawn0.step)⟩
  ·
   rw [if_neg c3] at H
   have c3b0 : (a0.toList == ([78, 101, 119, 76, 105, 110, 101] : List UInt8)) = false := beq_eq_false_iff_ne.mpr c3
   have c3b1 : (a0.toList != ([78, 101, 119, 76, 105, 110, 101] : List UInt8)) = true := bne_iff_ne.mpr c3
   by_cases c4 : a0.toList = ([101, 120, 99, 108] : List UInt8)
   ·
    rw [if_pos c4] at H
    have c4b0 : (a0.toList == ([101, 120, 99, 108] : List UInt8)) = true := beq_iff_eq.mpr c4
    have c4b1 : (a0.toList != ([101, 120, 99, 108] : List UInt8)) = false := bne_eq_false_iff_eq.mpr c4
    clear c4
    obtain rfl := Option.some.inj H
    go_enter Try.func95, Try.ntmps95
    go_wp2
    go_ret
    exact ⟨by first | rfl | (simp; done) | (simp [*]; done), by repeat (first | exact Drawn0.refl _ | apply Drawn0.step)⟩
   ·
    rw [if_neg c4] at H
    have c4b0 : (a0.toList == ([101, 120, 99, 108] : List UInt8)) = false := beq_eq_false_iff_ne.mpr c4
    have c4b1 : (a0.toList != ([101, 120, 99, 108] : List UInt8)) = true := bne_iff_ne.mpr c4
    by_cases c5 : a0.toList = ([110, 117, 109] : List UInt8)
    ·
     rw [if_pos c5] at H
     have c5b0 : (a0.toList == ([110, 117, 109] : List UInt8)) = true := beq_iff_eq.mpr c5
     have c5b1 : (a0.toList != ([110, 117, 109] : List UInt8)) = false := bne_eq_false_iff_eq.mpr c5
     clear c5
     obtain rfl := Option.some.inj H
     go_enter Try.func95, Try.ntmps95
     go_wp2
     go_ret
     exact ⟨by first | rfl | (simp; done) | (simp [*]; done), by repeat (first | exact Drawn0.refl _ | apply Drawn0.step)⟩
    ·
     rw [if_neg c5] at H
     have c5b0 : (a0.toList == ([110, 117, 109] : List UInt8)) = false := beq_eq_false_iff_ne.mpr c5
     have c5b1 : (a0.toList != ([110, 117, 109] : List UInt8)) = true := bne_iff_ne.mpr c5
     by_cases c6 : a0.toList = ([97, 112, 111, 115] : List UInt8)
     ·
      rw [if_pos c6] at H
      have c6b0 : (a0.toList == ([97, 112, 111, 115] : List UInt8)) = true := beq_iff_eq.mpr c6
      have c6b1 : (a0.toList != ([97, 112, 111, 115] : List UInt8)) = false := bne_eq_false_iff_eq.mpr c6
      clear c6
      obtain rfl := Option.some.inj H
      go_enter Try.func95, Try.ntmps95
      go_wp2
      go_ret
      exact ⟨by first | rfl | (simp; done) | (simp [*]; done), by repeat (first | exact Drawn0.refl _ | apply Drawn0.step)⟩
     ·
      rw [if_neg c6] at H
      have c6b0 : (a0.toList == ([97, 112, 111, 115] : List UInt8)) = false := beq_eq_false_iff_ne.mpr c6
      have c6b1 : (a0.toList != ([97, 112, 111, 115] : List UInt8)) = true := bne_iff_ne.mpr c6
      by_cases c7 : a0.toList = ([108, 112, 97, 114] : List UInt8)
      ·
       rw [if_pos c7] at H
       have c7b0 : (a0.toList == ([108, 112, 97, 114] : List UInt8)) = true := beq_iff_eq.mpr c7
       have c7b1 : (a0.toList != ([108, 112, 97, 114] : List UInt8)) = false := bne_eq_false_iff_eq.mpr c7
       clear c7
       obtain rfl := Option.some.inj H
       go_enter Try.func95, Try.ntmps95
       go_wp2
       go_ret
       exact ⟨by first | rfl | (simp; done) | (simp [*]; done), by repeat (first | exact Drawn0.refl _ | apply Drawn0.step)⟩
      ·
       rw [if_neg c7] at H
       have c7b0 : (a0.toList == ([108, 112, 97, 114] : List UInt8)) = false := beq_eq_false_iff_ne.mpr c7
       have c7b1 : (a0.toList != ([108, 112, 97, 114] : List UInt8)) = true := bne_iff_ne.mpr c7
       by_cases c8 : a0.toList = ([114, 112, 97, 114] : List UInt8)
       ·
        rw [if_pos c8] at H
        have c8b0 : (a0.toList == ([114, 112, 97, 114] : List UInt8)) = true := beq_iff_eq.mpr c8
        have c8b1 : (a0.toList != ([114, 112, 97, 114] : List UInt8)) = false := bne_eq_false_iff_eq.mpr c8
        clear c8
        obtain rfl := Option.some.inj H
        go_enter Try.func95, Try.ntmps95
        go_wp2
        go_ret
        exact ⟨by first | rfl | (simp; done) | (simp [*]; done), by repeat (first | exact Drawn0.refl _ | apply Drawn0.step)⟩
       ·
        rw [if_neg c8] at H
        have c8b0 : (a0.toList == ([114, 112, 97, 114] : List UInt8)) = false := beq_eq_false_iff_ne.mpr c8
        have c8b1 : (a0.toList != ([114, 112, 97, 114] : List UInt8)) = true := bne_iff_ne.mpr c8
        by_cases c9 : a0.toList = ([115, 111, 108] : List UInt8)
        ·
         rw [if_pos c9] at H
         have c9b0 : (a0.toList == ([115, 111, 108] : List UInt8)) = true := beq_iff_eq.mpr c9
         have c9b1 : (a0.toList != ([115, 111, 108] : List UInt8)) = false := bne_eq_false_iff_eq.mpr c9
         clear c9
         obtain rfl := Option.some.inj H
         go_enter Try.func95, Try.ntmps95
         go_wp2
         go_ret
         exact ⟨by first | rfl | (simp; done) | (simp [*]; done), by repeat (first | exact Drawn0.refl _ | apply Drawn0.step)⟩
        ·
         rw [if_neg c9] at H
         have c9b0 : (a0.toList == ([115, 111, 108] : List UInt8)) = false := beq_eq_false_iff_ne.mpr c9
         have c9b1 : (a0.toList != ([115, 111, 108] : List UInt8)) = true := bne_iff_ne.mpr c9
         by_cases c10 : a0.toList = ([99, 111, 108, 111, 110] : List UInt8)
         ·
          rw [if_pos c10] at H
          have c10b0 : (a0.toList == ([99, 111, 108, 111, 110] : List UInt8)) = true := beq_iff_eq.mpr c10
          have c10b1 : (a0.toList != ([99, 111, 108, 111, 110] : List UInt8)) = false := bne_eq_false_iff_eq.mpr c10
          clear c10
          obtain rfl := Option.some.inj H
          go_enter Try.func95, Try.ntmps95
          go_wp2
          go_ret
          exact ⟨by first | rfl | (simp; done) | (simp [*]; done), by repeat (first | exact Drawn0.refl _ | apply Drawn0.step)⟩
         ·
          rw [if_neg c10] at H
          have c10b0 : (a0.toList == ([99, 111, 108, 111, 110] : List UInt8)) = false := beq_eq_false_iff_ne.mpr c10
          have c10b1 : (a0.toList != ([99, 111, 108, 111, 110] : List UInt8)) = true := bne_iff_ne.mpr c10
          by_cases c11 : a0.toList = ([98, 115, 111, 108] : List UInt8)
          ·
           rw [if_pos c11] at H
           have c11b0 : (a0.toList == ([98, 115, 111, 108] : List UInt8)) = true := beq_iff_eq.mpr c11
           have c11b1 : (a0.toList != ([98, 115, 111, 108] : List UInt8)) = false := bne_eq_false_iff_eq.mpr c11
           clear c11
           obtain rfl := Option.some.inj H
           go_enter Try.func95, Try.ntmps95
           go_wp2
           go_ret
           exact ⟨by first | rfl | (simp; done) | (simp [*]; done), by repeat (first | exact Drawn0.refl _ | apply Drawn0.step)⟩
          ·
           rw [if_neg c11] at H
           have c11b0 : (a0.toList == ([98, 115, 111, 108] : List UInt8)) = false := beq_eq_false_iff_ne.mpr c11
           have c11b1 : (a0.toList != ([98, 115, 111, 108] : List UInt8)) = true := bne_iff_ne.mpr c11
           by_cases c12 : a0.toList = ([110, 100, 97, 115, 104] : List UInt8)
           ·
            rw [if_pos c12] at H
            have c12b0 : (a0.toList == ([110, 100, 97, 115, 104] : List UInt8)) = true := beq_iff_eq.mpr c12
            have c12b1 : (a0.toList != ([110, 100, 97, 115, 104] : List UInt8)) = false := bne_eq_false_iff_eq.mpr c12
            clear c12
            obtain rfl := Option.some.inj H
            go_enter Try.func95, Try.ntmps95
            go_wp2
            go_ret
            exact ⟨by first | rfl | (simp; done) | (simp [*]; done), by repeat (first | exact Drawn0.refl _ | apply Drawn0.step)⟩
           ·
            rw [if_neg c12] at H
            have c12b0 : (a0.toList == ([110, 100, 97, 115, 104] : List UInt8)) = false := beq_eq_false_iff_ne.mpr c12
            have c12b1 : (a0.toList != ([110, 100, 97, 115, 104] : List UInt8)) = true := bne_iff_ne.mpr c12
            by_cases c13 : a0.toList = ([109, 100, 97, 115, 104] : List UInt8)
            ·
             rw [if_pos c13] at H
             have c13b0 : (a0.toList == ([109, 100, 97, 115, 104] : List UInt8)) = true := beq_iff_eq.mpr c13
             have c13b1 : (a0.toList != ([109, 100, 97, 115, 104] : List UInt8)) = false := bne_eq_false_iff_eq.mpr c13
             clear c13
             obtain rfl := Option.some.inj H
             go_enter Try.func95, Try.ntmps95
             go_wp2
             go_ret
             exact ⟨by first | rfl | (simp; done) | (simp [*]; done), by repeat (first | exact Drawn0.refl _ | apply Drawn0.step)⟩
            ·
             rw [if_neg c13] at H
             have c13b0 : (a0.toList == ([109, 100, 97, 115, 104] : List UInt8)) = false := beq_eq_false_iff_ne.mpr c13
             have c13b1 : (a0.toList != ([109, 100, 97, 115, 104] : List UInt8)) = true := bne_iff_ne.mpr c13
             by_cases c14 : a0.toList = ([108, 115, 113, 117, 111] : List UInt8)
             ·
              rw [if_pos c14] at H
              have c14b0 : (a0.toList == ([108, 115, 113, 117, 111] : List UInt8)) = true := beq_iff_eq.mpr c14
              have c14b1 : (a0.toList != ([108, 115, 113, 117, 111] : List UInt8)) = false := bne_eq_false_iff_eq.mpr c14
              clear c14
              obtain rfl := Option.some.inj H
              go_enter Try.func95, Try.ntmps95
              go_wp2
              go_ret
              exact ⟨by first | rfl | (simp; done) | (simp [*]; done), by repeat (first | exact Drawn0.refl _ | apply Drawn0.step)⟩
             ·
              rw [if_neg c14] at H
              have c14b0 : (a0.toList == ([108, 115, 113, 117, 111] : List UInt8)) = false := beq_eq_false_iff_ne.mpr c14
              have c14b1 : (a0.toList != ([108, 115, 113, 117, 111] : List UInt8)) = true := bne_iff_ne.mpr c14
              by_cases c15 : a0.toList = ([114, 115, 113, 117, 111] : List UInt8)
              ·
               rw [if_pos c15] at H
               have c15b0 : (a0.toList == ([114, 115, 113, 117, 111] : List UInt8)) = true := beq_iff_eq.mpr c15
               have c15b1 : (a0.toList != ([114, 115, 113, 117, 111] : List UInt8)) = false := bne_eq_false_iff_eq.mpr c15
               clear c15
               obtain rfl := Option.some.inj H
               go_enter Try.func95, Try.ntmps95
               go_wp2
               go_ret
               exact ⟨by first | rfl | (simp; done) | (simp [*]; done), by repeat (first | exact Drawn0.refl _ | apply Drawn0.step)⟩
              ·
               rw [if_neg c15] at H
               have c15b0 : (a0.toList == ([114, 115, 113, 117, 111] : List UInt8)) = false := beq_eq_false_iff_ne.mpr c15
               have c15b1 : (a0.toList != ([114, 115, 113, 117, 111] : List UInt8)) = true := bne_iff_ne.mpr c15
               by_cases c16 : a0.toList = ([108, 100, 113, 117, 111] : List UInt8)
               ·
                rw [if_pos c16] at H
                have c16b0 : (a0.toList == ([108, 100, 113, 117, 111] : List UInt8)) = true := beq_iff_eq.mpr c16
                have c16b1 : (a0.toList != ([108, 100, 113, 117, 111] : List UInt8)) = false := bne_eq_false_iff_eq.mpr c16
                clear c16
                obtain rfl := Option.some.inj H
                go_enter Try.func95, Try.ntmps95
                go_wp2
                go_ret
                exact ⟨by first | rfl | (simp; done) | (simp [*]; done), by repeat (first | exact Drawn0.refl _ | apply Drawn0.step)⟩
               ·
                rw [if_neg c16] at H
                have c16b0 : (a0.toList == ([108, 100, 113, 117, 111] : List UInt8)) = false := beq_eq_false_iff_ne.mpr c16
                have c16b1 : (a0.toList != ([108, 100, 113, 117, 111] : List UInt8)) = true := bne_iff_ne.mpr c16
                by_cases c17 : a0.toList = ([114, 100, 113, 117, 111] : List UInt8)
                ·
                 rw [if_pos c17] at H
                 have c17b0 : (a0.toList == ([114, 100, 113, 117, 111] : List UInt8)) = true := beq_iff_eq.mpr c17
                 have c17b1 : (a0.toList != ([114, 100, 113, 117, 111] : List UInt8)) = false := bne_eq_false_iff_eq.mpr c17
                 clear c17
                 obtain rfl := Option.some.inj H
                 go_enter Try.func95, Try.ntmps95
                 go_wp2
                 go_ret
                 exact ⟨by first | rfl | (simp; done) | (simp [*]; done), by repeat (first | exact Drawn0.refl _ | apply Drawn0.step)⟩
                ·
                 rw [if_neg c17] at H
                 have c17b0 : (a0.toList == ([114, 100, 113, 117, 111] : List UInt8)) = false := beq_eq_false_iff_ne.mpr c17
                 have c17b1 : (a0.toList != ([114, 100, 113, 117, 111] : List UInt8)) = true := bne_iff_ne.mpr c17
                 by_cases c18 : a0.toList = ([104, 101, 108, 108, 105, 112] : List UInt8)
                 ·
                  rw [if_pos c18] at H
                  have c18b0 : (a0.toList == ([104, 101, 108, 108, 105, 112] : List UInt8)) = true := beq_iff_eq.mpr c18
                  have c18b1 : (a0.toList != ([104, 101, 108, 108, 105, 112] : List UInt8)) = false := bne_eq_false_iff_eq.mpr c18
                  clear c18
                  obtain rfl := Option.some.inj H
                  go_enter Try.func95, Try.ntmps95
                  go_wp2
                  go_ret
                  exact ⟨by first | rfl | (simp; done) | (simp [*]; done), by repeat (first | exact Drawn0.refl _ | apply Drawn0.step)⟩
                 ·
                  rw [if_neg c18] at H
                  have c18b0 : (a0.toList == ([104, 101, 108, 108, 105, 112] : List UInt8)) = false := beq_eq_false_iff_ne.mpr c18
                  have c18b1 : (a0.toList != ([104, 101, 108, 108, 105, 112] : List UInt8)) = true := bne_iff_ne.mpr c18
                  by_cases c19 : a0.toList = ([101, 117, 114, 111] : List UInt8)
                  ·
                   rw [if_pos c19] at H
                   have c19b0 : (a0.toList == ([101, 117, 114, 111] : List UInt8)) = true := beq_iff_eq.mpr c19
                   have c19b1 : (a0.toList != ([101, 117, 114, 111] : List UInt8)) = false := bne_eq_false_iff_eq.mpr c19
                   clear c19
                   obtain rfl := Option.some.inj H
                   go_enter Try.func95, Try.ntmps95
                   go_wp2
                   go_ret
                   exact ⟨by first | rfl | (simp; done) | (simp [*]; done), by repeat (first | exact Drawn0.refl _ | apply Drawn0.step)⟩
                  ·
                   rw [if_neg c19] at H
                   have c19b0 : (a0.toList == ([101, 117, 114, 111] : List UInt8)) = false := beq_eq_false_iff_ne.mpr c19
                   have c19b1 : (a0.toList != ([101, 117, 114, 111] : List UInt8)) = true := bne_iff_ne.mpr c19
                   by_cases c20 : a0.toList = ([116, 114, 97, 100, 101] : List UInt8)
                   ·
                    rw [if_pos c20] at H
                    have c20b0 : (a0.toList == ([116, 114, 97, 100, 101] : List UInt8)) = true := beq_iff_eq.mpr c20
                    have c20b1 : (a0.toList != ([116, 114, 97, 100, 101] : List UInt8)) = false := bne_eq_false_iff_eq.mpr c20
                    clear c20
                    obtain rfl := Option.some.inj H
                    go_enter Try.func95, Try.ntmps95
                    go_wp2
                    go_ret
                    exact ⟨by first | rfl | (simp; done) | (simp [*]; done), by repeat (first | exact Drawn0.refl _ | apply Drawn0.step)⟩
                   ·
                    rw [if_neg c20] at H
                    have c20b0 : (a0.toList == ([116, 114, 97, 100, 101] : List UInt8)) = false := beq_eq_false_iff_ne.mpr c20
                    have c20b1 : (a0.toList != ([116, 114, 97, 100, 101] : List UInt8)) = true := bne_iff_ne.mpr c20
                    by_cases c21 : a0.toList = ([110, 111, 116, 105, 110] : List UInt8)
                    ·
                     rw [if_pos c21] at H
                     have c21b0 : (a0.toList == ([110, 111, 116, 105, 110] : List UInt8)) = true := beq_iff_eq.mpr c21
                     have c21b1 : (a0.toList != ([110, 111, 116, 105, 110] : List UInt8)) = false := bne_eq_false_iff_eq.mpr c21
                     clear c21
                     obtain rfl := Option.some.inj H
                     go_enter Try.func95, Try.ntmps95
                     go_wp2
                     go_ret
                     exact ⟨by first | rfl | (simp; done) | (simp [*]; done), by repeat (first | exact Drawn0.refl _ | apply Drawn0.step)⟩
                    ·
                     rw [if_neg c21] at H
                     have c21b0 : (a0.toList == ([110, 111, 116, 105, 110] : List UInt8)) = false := beq_eq_false_iff_ne.mpr c21
                     have c21b1 : (a0.toList != ([110, 111, 116, 105, 110] : List UInt8)) = true := bne_iff_ne.mpr c21
                     by_cases c22 : a0.toList = ([116, 105, 109, 101, 115, 98] : List UInt8)
                     ·
                      rw [if_pos c22] at H
                      have c22b0 : (a0.toList == ([116, 105, 109, 101, 115, 98] : List UInt8)) = true := beq_iff_eq.mpr c22
                      have c22b1 : (a0.toList != ([116, 105, 109, 101, 115, 98] : List UInt8)) = false := bne_eq_false_iff_eq.mpr c22
                      clear c22
                      obtain rfl := Option.some.inj H
                      go_enter Try.func95, Try.ntmps95
                      go_wp2
                      go_ret
                      exact ⟨by first | rfl | (simp; done) | (simp [*]; done), by repeat (first | exact Drawn0.refl _ | apply Drawn0.step)⟩
                     ·
                      rw [if_neg c22] at H
                      have c22b0 : (a0.toList == ([116, 105, 109, 101, 115, 98] : List UInt8)) = false := beq_eq_false_iff_ne.mpr c22
                      have c22b1 : (a0.toList != ([116, 105, 109, 101, 115, 98] : List UInt8)) = true := bne_iff_ne.mpr c22
                      obtain rfl := Option.some.inj H
                      go_enter Try.func95, Try.ntmps95
                      go_wp2
                      go_ret
                      exact ⟨by first | rfl | (simp; done) | (simp [*]; done), by repeat (first | exact Drawn0.refl _ | apply Drawn0.step)⟩
/-! ### charref_Named: function 84 -/
def charref_Named.j0 : Nat → ByteArray → Int → Bool → Option (ByteArray × Bool)
  | 0, _, _, _ => none
  | k + 1, x4, x6, x18 => if x18 = true then ((charref_ended.f x4).bind fun t128 => (if t128 = 0 then (some ((⟨#[]⟩ : ByteArray), false)) else (some (Utf8.encode t128, true)))) else (if x6 = 0 then (some ((⟨#[]⟩ : ByteArray), false)) else (some (Utf8.encode x6, true)))
def charref_Named.f (k : Nat) (a0 : ByteArray) : Option (ByteArray × Bool) := (strings_CutSuffix.f a0 (⟨#[59]⟩ : ByteArray)).bind fun bt125 => ((charref_bare.f k bt125.1).bind fun t127 => (if t127 = 0 then (charref_Named.j0 k bt125.1 t127 bt125.2) else (charref_Named.j0 k bt125.1 t127 false)))
theorem charref_Named.mono_l : ∀ k, (∀ y0 y1 y2, LeO (charref_Named.j0 k y0 y1 y2) (charref_Named.j0 (k + 1) y0 y1 y2))
  | 0 => fun _ _ _ r h => by simp [charref_Named.j0] at h
  | k + 1 => by
    have ih0 := charref_Named.mono_l k
    · intro y0 y1 y2
      unfold charref_Named.j0
      repeat' first
      | (with_reducible exact ih0 _ _ _)
      | (with_reducible exact charref_bare.mono _ _)
      | (with_reducible exact LeO.refl _)
      | (with_reducible exact LeO.none _)
      | (with_reducible refine LeO.ite ?_ ?_)
      | (with_reducible refine LeO.bind ?_ (fun _ => ?_))
      | exact ih0 _ _ _
      | exact charref_bare.mono _ _
      | exact LeO.none _
      | refine LeO.ite ?_ ?_
      | refine LeO.bind ?_ (fun _ => ?_)
theorem charref_Named.mono : ∀ a0 k, LeO (charref_Named.f k a0) (charref_Named.f (k + 1) a0) := by
 intro a0 k
 have ih0 := charref_Named.mono_l k
 unfold charref_Named.f
 repeat' first
     | (with_reducible exact ih0 _ _ _)
     | (with_reducible exact charref_bare.mono _ _)
     | (with_reducible exact LeO.refl _)
     | (with_reducible exact LeO.none _)
     | (with_reducible refine LeO.ite ?_ ?_)
     | (with_reducible refine LeO.bind ?_ (fun _ => ?_))
     | exact ih0 _ _ _
     | exact charref_bare.mono _ _
     | exact LeO.none _
     | refine LeO.ite ?_ ?_
     | refine LeO.bind ?_ (fun _ => ?_)
set_option maxHeartbeats 8000000 in
set_option maxRecDepth 100000 in
theorem charref_Named.calls (k : Nat) (a0 : ByteArray) (r1 : ByteArray) (r2 : Bool) (w : World) (h : charref_Named.f k a0 = some (r1, r2)) :
    Calls Try.prog 84 #[.string a0] w fun e w' => e = .returned (.tuple #[.string r1, .bool r2]) ∧ Drawn0 w w' := by
 have H : ((strings_CutSuffix.f a0 (⟨#[59]⟩ : ByteArray)).bind fun bt125 => ((charref_bare.f k bt125.1).bind fun t127 => (if t127 = 0 then (charref_Named.j0 k bt125.1 t127 bt125.2) else (charref_Named.j0 k bt125.1 t127 false)))) = some (r1, r2) := h
 clear h
 replace H := Option.bind_eq_some_iff.mp H
 obtain ⟨⟨t125, t126⟩, A20, H⟩ := H
 try dsimp only at H
 have A2 := Aside0.mk A20
 clear A20
 go_enter Try.func84, Try.ntmps84
 go_wp2_with fail
 (with_reducible refine (strings_CutSuffix.calls a0 (⟨#[59]⟩ : ByteArray) t125 t126 _ A2.out).mono ?_)
 rintro e w' ⟨rfl, ⟨nd, rfl⟩⟩
 replace H := Option.bind_eq_some_iff.mp H
 obtain ⟨t127, A30, H⟩ := H
 try dsimp only at H
 have A3 := Aside0.mk A30
 clear A30
 go_wp2_with fail
 (with_reducible refine (charref_bare.calls k t125 t127 _ A3.out).mono ?_)
 rintro e w' ⟨rfl, ⟨nd, rfl⟩⟩
 have HC4 := Aside0.mk H
 clear H
 go_upto_region 3 with fail
 (try simp only [Act.put, List.setIfInBounds_toArray, List.set_cons_zero, List.set_cons_succ])
 go_cut [18] (fun v18 wc => ∃ (kq : Nat) (x18_3 : Bool), v18 = .bool x18_3 ∧ Aside0 (charref_Named.j0 kq t125 t127 x18_3 = some (r1, r2)) ∧ Aside0 (kq ≤ k) ∧ Drawn0 w wc)
 case first =>
  have H := HC4.out
  clear HC4
  by_cases c5 : t127 = 0
  ·
   rw [if_pos c5] at H
   have c5b0 : (t127 == 0) = true := beq_iff_eq.mpr c5
   have c5b1 : (t127 != 0) = false := bne_eq_false_iff_eq.mpr c5
   clear c5
   (first | rw [c5b0] | (simp only [i64_w, i32_w]; rw [c5b0]) | skip)
   have H' := Aside0.mk H
   clear H
   go_wp2
   go_meet
   case rel => exact ⟨_, (t126), (by first | rfl | (simp; done) | (simp [*]; done)), H', ⟨by first | omega | exact Nat.le_refl _⟩, by repeat (first | exact Drawn0.refl _ | apply Drawn0.step)⟩
  ·
   rw [if_neg c5] at H
   have c5b0 : (t127 == 0) = false := beq_eq_false_iff_ne.mpr c5
   have c5b1 : (t127 != 0) = true := bne_iff_ne.mpr c5
   (first | rw [c5b0] | (simp only [i64_w, i32_w]; rw [c5b0]) | skip)
   have H' := Aside0.mk H
   clear H
   go_wp2
   go_meet
   case rel => exact ⟨_, (false), (by first | rfl | (simp; done) | (simp [*]; done)), H', ⟨by first | omega | exact Nat.le_refl _⟩, by repeat (first | exact Drawn0.refl _ | apply Drawn0.step)⟩
 case rest =>
  clear HC4
  try clear p2
  try clear c5
  try clear c5b0
  try clear c5b1
  obtain ⟨kq, x18_3, rfl, HA, HJ3, ⟨mc3, rfl⟩⟩ := hcut
  cases kq with
  | zero => exact absurd HA.out (by simp [charref_Named.j0])
  | succ kj3 =>
   have H := HA.out
   clear HA
   simp only [charref_Named.j0] at H
   by_cases c6 : x18_3 = true
   ·
    subst c6
    replace H := (if_pos rfl).symm.trans H
    replace H := Option.bind_eq_some_iff.mp H
    obtain ⟨t128, A70, H⟩ := H
    try dsimp only at H
    have A7 := Aside0.mk A70
    clear A70
    go_wp2_with fail
    (with_reducible refine (charref_ended.calls t125 t128 _ A7.out).mono ?_)
    rintro e w' ⟨rfl, ⟨nd, rfl⟩⟩
    by_cases c8 : t128 = 0
    ·
     rw [if_pos c8] at H
     have c8b0 : (t128 == 0) = true := beq_iff_eq.mpr c8
     have c8b1 : (t128 != 0) = false := bne_eq_false_iff_eq.mpr c8
     clear c8
     simp only [Option.some.injEq, Prod.mk.injEq] at H
     obtain ⟨rfl, rfl⟩ := H
     go_wp2
     go_ret2
     exact ⟨by first | rfl | (simp; done) | (simp [*]; done), by repeat (first | exact Drawn0.refl _ | apply Drawn0.step)⟩
    ·
     rw [if_neg c8] at H
     have c8b0 : (t128 == 0) = false := beq_eq_false_iff_ne.mpr c8
     have c8b1 : (t128 != 0) = true := bne_iff_ne.mpr c8
     simp only [Option.some.injEq, Prod.mk.injEq] at H
     obtain ⟨rfl, rfl⟩ := H
     go_wp2
     go_ret2
     exact ⟨by first | rfl | (simp; done) | (simp [*]; done), by repeat (first | exact Drawn0.refl _ | apply Drawn0.step)⟩
   ·
    replace c6 := Bool.eq_false_iff.mpr c6
    subst c6
    replace H := (if_neg Bool.false_ne_true).symm.trans H
    by_cases c9 : t127 = 0
    ·
     rw [if_pos c9] at H
     have c9b0 : (t127 == 0) = true := beq_iff_eq.mpr c9
     have c9b1 : (t127 != 0) = false := bne_eq_false_iff_eq.mpr c9
     clear c9
     simp only [Option.some.injEq, Prod.mk.injEq] at H
     obtain ⟨rfl, rfl⟩ := H
     go_wp2
     go_ret2
     exact ⟨by first | rfl | (simp; done) | (simp [*]; done), by repeat (first | exact Drawn0.refl _ | apply Drawn0.step)⟩
    ·
     rw [if_neg c9] at H
     have c9b0 : (t127 == 0) = false := beq_eq_false_iff_ne.mpr c9
     have c9b1 : (t127 != 0) = true := bne_iff_ne.mpr c9
     simp only [Option.some.injEq, Prod.mk.injEq] at H
     obtain ⟨rfl, rfl⟩ := H
     go_wp2
     go_ret2
     exact ⟨by first | rfl | (simp; done) | (simp [*]; done), by repeat (first | exact Drawn0.refl _ | apply Drawn0.step)⟩
/-! ### charref_byName: function 63 -/
def charref_byName.l0 : Nat → ByteArray → Int → Option (ByteArray × Int)
  | 0, _, _ => none
  | k + 1, x0, x4 => if x4 > 0 then (if 0 ≤ x4 then (if x4 ≤ (x0.size : Int) then ((charref_Named.f k (x0.extract 0 (x4 : Int).toNat)).bind fun bt129 => (if bt129.2 = true then (some (bt129.1, x4)) else (charref_byName.l0 k x0 (wrap64 (x4 - 1))))) else (none)) else (none)) else (some ((⟨#[]⟩ : ByteArray), 0))
def charref_byName.f (k : Nat) (a0 : ByteArray) : Option (ByteArray × Int) := charref_byName.l0 k a0 (mn (a0.size : Int) 8)
theorem charref_byName.mono_l : ∀ k, (∀ y0 y1, LeO (charref_byName.l0 k y0 y1) (charref_byName.l0 (k + 1) y0 y1))
  | 0 => fun _ _ r h => by simp [charref_byName.l0] at h
  | k + 1 => by
    have ih0 := charref_byName.mono_l k
    · intro y0 y1
      unfold charref_byName.l0
      repeat' first
      | (with_reducible exact ih0 _ _)
      | (with_reducible exact charref_Named.mono _ _)
      | (with_reducible exact LeO.refl _)
      | (with_reducible exact LeO.none _)
      | (with_reducible refine LeO.ite ?_ ?_)
      | (with_reducible refine LeO.bind ?_ (fun _ => ?_))
      | exact ih0 _ _
      | exact charref_Named.mono _ _
      | exact LeO.none _
      | refine LeO.ite ?_ ?_
      | refine LeO.bind ?_ (fun _ => ?_)
theorem charref_byName.mono : ∀ a0 k, LeO (charref_byName.f k a0) (charref_byName.f (k + 1) a0) := by
 intro a0 k
 have ih0 := charref_byName.mono_l k
 unfold charref_byName.f
 repeat' first
     | (with_reducible exact ih0 _ _)
     | (with_reducible exact charref_Named.mono _ _)
     | (with_reducible exact LeO.refl _)
     | (with_reducible exact LeO.none _)
     | (with_reducible refine LeO.ite ?_ ?_)
     | (with_reducible refine LeO.bind ?_ (fun _ => ?_))
     | exact ih0 _ _
     | exact charref_Named.mono _ _
     | exact LeO.none _
     | refine LeO.ite ?_ ?_
     | refine LeO.bind ?_ (fun _ => ?_)
set_option maxHeartbeats 8000000 in
set_option maxRecDepth 100000 in
theorem charref_byName.calls (k : Nat) (a0 : ByteArray) (r1 : ByteArray) (r2 : Int) (w : World) (h : charref_byName.f k a0 = some (r1, r2)) :
    Calls Try.prog 63 #[.string a0] w fun e w' => e = .returned (.tuple #[.string r1, .int .i64 r2]) ∧ Below w.heap.size w w' := by
 have HB := Aside0.mk (Below.refl w.heap.size w)
 have H : (charref_byName.l0 k a0 (mn (a0.size : Int) 8)) = some (r1, r2) := h
 clear h
 obtain ⟨ji2, hji2⟩ : ∃ j_ : Int, (mn (a0.size : Int) 8) = j_ := ⟨_, rfl⟩
 replace H : (charref_byName.l0 k a0 ji2) = some (r1, r2) := by first | (rw [hji2] at H; exact H) | (simp only [hji2] at H ⊢; exact H)
 (try (have hji2h : ji2 ≤ 8 := by (rw [← hji2]; unfold mn; (repeat' split) <;> omega)))
 (try (have hji2g : ji2 ≤ 64 := by omega))
 (try (have hji2l : 0 ≤ ji2 := by (rw [← hji2]; unfold mn; (repeat' split) <;> omega)))
 (try (have hji2m : 0 ≤ ji2 := by omega))
 have hji2_ : (if 8 < (a0.size : Int) then 8 else (a0.size : Int)) = ji2 := hji2
 have H' := Aside0.mk H
 clear H
 go_enter Try.func63, Try.ntmps63
 go_wp2
 go_loopg [4] k (fun kq v4 w' => ∃ (x4_1 : Int), v4 = .int .i64 x4_1 ∧ Aside0 (charref_byName.l0 kq a0 x4_1 = some (r1, r2)) ∧ Aside0 (kq ≤ k) ∧ Aside0 (Below w.heap.size w w'))
 case atStart => exact ⟨(ji2), (by first | rfl | (simp; done) | (simp only [← hji2] <;> (first | rfl | simp)) | (simp [*]; done)), H', ⟨Nat.le_refl _⟩, ⟨by repeat (first | (with_reducible first | exact HB.out | apply below_alloc | apply pw_below_drewN | apply below_drew1) | exact HB.out)⟩⟩
 case round =>
  clear H'
  try clear p2
  obtain ⟨x4_1, rfl, HA, HK1, HB⟩ := hrel
  cases gk with
  | zero => exact absurd HA.out (by simp [charref_byName.l0])
  | succ k1 =>
   have H := HA.out
   clear HA
   simp only [charref_byName.l0] at H
   by_cases c3 : x4_1 > 0
   ·
    rw [if_pos c3] at H
    have c3b0 : decide (0 < x4_1) = true := decide_eq_true c3
    clear c3
    by_cases c4 : 0 ≤ x4_1
    ·
     rw [if_pos c4] at H
     have c4b0 := eq_true c4
     have c4b1 : decide (0 ≤ x4_1) = true := decide_eq_true c4
     clear c4
     by_cases c5 : x4_1 ≤ (a0.size : Int)
     ·
      rw [if_pos c5] at H
      have c5b0 := eq_true c5
      have c5b1 : decide (x4_1 ≤ (a0.size : Int)) = true := decide_eq_true c5
      clear c5
      replace H := Option.bind_eq_some_iff.mp H
      obtain ⟨⟨t129, t130⟩, A60, H⟩ := H
      try dsimp only at H
      have A6 := Aside0.mk A60
      clear A60
      go_wp2_with fail
      (with_reducible refine (charref_Named.calls k1 (a0.extract 0 (x4_1 : Int).toNat) t129 t130 _ A6.out).mono ?_)
      rintro e w' ⟨rfl, ⟨nd, rfl⟩⟩
      by_cases c7 : t130 = true
      ·
       subst c7
       replace H := (if_pos rfl).symm.trans H
       simp only [Option.some.injEq, Prod.mk.injEq] at H
       obtain ⟨rfl, rfl⟩ := H
       go_wp2
       go_ret2
       exact ⟨by first | rfl | (simp [errW_none, errW_some] <;> rfl) | (simp only [← hji2]; first | rfl | (simp [errW_none, errW_some] <;> rfl)) | (simp [*, errW_none, errW_some] <;> rfl), by repeat (first | (with_reducible first | exact HB.out | apply below_alloc | apply pw_below_drewN | apply below_drew1) | exact HB.out)⟩
      ·
       replace c7 := Bool.eq_false_iff.mpr c7
       subst c7
       replace H := (if_neg Bool.false_ne_true).symm.trans H
       have H' := Aside0.mk H
       clear H
       go_wp2
       go_roundg k1
       case measure => have := HK1.out; omega
       case rel => exact ⟨(wrap64 (x4_1 - 1)), (by first | rfl | (simp; done) | (simp [*]; done)), (by first | exact H' | (simp only [hji2]; exact H') | (simp only [hji2]; exact H')), ⟨by have := HK1.out; omega⟩, ⟨by repeat (first | (with_reducible first | exact HB.out | apply below_alloc | apply pw_below_drewN | apply below_drew1) | exact HB.out)⟩⟩
     ·
      rw [if_neg c5] at H
      exact absurd H (by simp)
    ·
     rw [if_neg c4] at H
     exact absurd H (by simp)
   ·
    rw [if_neg c3] at H
    have c3b0 : decide (0 < x4_1) = false := decide_eq_false c3
    clear c3
    simp only [Option.some.injEq, Prod.mk.injEq] at H
    obtain ⟨rfl, rfl⟩ := H
    go_wp2
    go_ret2
    exact ⟨by first | rfl | (simp [errW_none, errW_some] <;> rfl) | (simp only [← hji2]; first | rfl | (simp [errW_none, errW_some] <;> rfl)) | (simp [*, errW_none, errW_some] <;> rfl), by repeat (first | (with_reducible first | exact HB.out | apply below_alloc | apply pw_below_drewN | apply below_drew1) | exact HB.out)⟩
/-! ### kind_Letter: function 42 -/
def kind_Letter.f (a0 : Int) : Option (Bool) := if (Go.bits .or .u8 a0 32) ≥ 97 then (some (decide ((Go.bits .or .u8 a0 32) ≤ 122))) else (some false)
set_option maxHeartbeats 8000000 in
set_option maxRecDepth 100000 in
theorem kind_Letter.calls (a0 : Int) (r : Bool) (w : World) (h : kind_Letter.f a0 = some r) :
    Calls Try.prog 42 #[.int .u8 a0] w fun e w' => e = .returned (.bool r) ∧ Drawn0 w w' := by
 have H : (if (Go.bits .or .u8 a0 32) ≥ 97 then (some (decide ((Go.bits .or .u8 a0 32) ≤ 122))) else (some false)) = some r := h
 clear h
 by_cases c2 : (Go.bits .or .u8 a0 32) ≥ 97
 ·
  rw [if_pos c2] at H
  have c2b0 : decide (97 ≤ (Go.bits .or .u8 a0 32)) = true := decide_eq_true c2
  clear c2
  obtain rfl := Option.some.inj H
  go_enter Try.func42, Try.ntmps42
  go_wp2
  go_ret
  exact ⟨by first | rfl | (simp; done) | (simp [*]; done), by repeat (first | exact Drawn0.refl _ | apply Drawn0.step)⟩
 ·
  rw [if_neg c2] at H
  have c2b0 : decide (97 ≤ (Go.bits .or .u8 a0 32)) = false := decide_eq_false c2
  clear c2
  obtain rfl := Option.some.inj H
  go_enter Try.func42, Try.ntmps42
  go_wp2
  go_ret
  exact ⟨by first | rfl | (simp; done) | (simp [*]; done), by repeat (first | exact Drawn0.refl _ | apply Drawn0.step)⟩
/-! ### charref_stays: function 64 -/
def charref_stays.f (a0 : ByteArray) : Option (Bool) := if a0.toList = ([] : List UInt8) then (some false) else (if 0 < (a0.size : Int) then (if (bt a0 0) = 61 then (some true) else ((kind_Letter.f (bt a0 0)).bind fun t131 => (if t131 = true then (some true) else ((kind_Figure.f (bt a0 0)).bind fun t132 => (some t132))))) else (none))
set_option maxHeartbeats 8000000 in
set_option maxRecDepth 100000 in
theorem charref_stays.calls (a0 : ByteArray) (r : Bool) (w : World) (h : charref_stays.f a0 = some r) :
    Calls Try.prog 64 #[.string a0] w fun e w' => e = .returned (.bool r) ∧ Drawn0 w w' := by
 have H : (if a0.toList = ([] : List UInt8) then (some false) else (if 0 < (a0.size : Int) then (if (bt a0 0) = 61 then (some true) else ((kind_Letter.f (bt a0 0)).bind fun t131 => (if t131 = true then (some true) else ((kind_Figure.f (bt a0 0)).bind fun t132 => (some t132))))) else (none))) = some r := h
 clear h
 by_cases c2 : a0.toList = ([] : List UInt8)
 ·
  rw [if_pos c2] at H
  have c2b0 : (a0.toList == ([] : List UInt8)) = true := beq_iff_eq.mpr c2
  have c2b1 : (a0.toList != ([] : List UInt8)) = false := bne_eq_false_iff_eq.mpr c2
  clear c2
  obtain rfl := Option.some.inj H
  go_enter Try.func64, Try.ntmps64
  go_wp2
  go_ret
  exact ⟨by first | rfl | (simp; done) | (simp [*]; done), by repeat (first | exact Drawn0.refl _ | apply Drawn0.step)⟩
 ·
  rw [if_neg c2] at H
  have c2b0 : (a0.toList == ([] : List UInt8)) = false := beq_eq_false_iff_ne.mpr c2
  have c2b1 : (a0.toList != ([] : List UInt8)) = true := bne_iff_ne.mpr c2
  by_cases c3 : 0 < (a0.size : Int)
  ·
   rw [if_pos c3] at H
   have c3b0 : decide (0 < (a0.size : Int)) = true := decide_eq_true c3
   have c3b1 : decide (0 < a0.size) = true := decide_eq_true (by omega)
   clear c3
   by_cases c5 : (bt a0 0) = 61
   ·
    rw [if_pos c5] at H
    have c5b0 : ((bt a0 0) == 61) = true := beq_iff_eq.mpr c5
    have c5b1 : ((bt a0 0) != 61) = false := bne_eq_false_iff_eq.mpr c5
    clear c5
    obtain rfl := Option.some.inj H
    have p4 : 0 ≤ (0 : Int) := (by omega)
    have q4 : 0 < a0.size := (by have : (0 : Int) < (a0.size : Int) := of_decide_eq_true (by first | (with_reducible assumption) | assumption); omega)
    have hx4 : ∀ h : 0 < a0.size, ((a0[0]'h).toNat : Int) = bt a0 0 := bt_at a0 0
    clear p4
    have qi4 : (0 < (a0.size : Int)) = True := eq_true (of_decide_eq_true (by first | (with_reducible assumption) | assumption))
    replace q4 := eq_true q4
    go_enter Try.func64, Try.ntmps64
    go_wp2
    go_ret
    exact ⟨by first | rfl | (simp; done) | (simp [*]; done), by repeat (first | exact Drawn0.refl _ | apply Drawn0.step)⟩
   ·
    rw [if_neg c5] at H
    have c5b0 : ((bt a0 0) == 61) = false := beq_eq_false_iff_ne.mpr c5
    have c5b1 : ((bt a0 0) != 61) = true := bne_iff_ne.mpr c5
    replace H := Option.bind_eq_some_iff.mp H
    obtain ⟨t131, A70, H⟩ := H
    try dsimp only at H
    have A7 := Aside0.mk A70
    clear A70
    have p4 : 0 ≤ (0 : Int) := (by omega)
    have q4 : 0 < a0.size := (by have : (0 : Int) < (a0.size : Int) := of_decide_eq_true (by first | (with_reducible assumption) | assumption); omega)
    have hx4 : ∀ h : 0 < a0.size, ((a0[0]'h).toNat : Int) = bt a0 0 := bt_at a0 0
    clear p4
    have qi4 : (0 < (a0.size : Int)) = True := eq_true (of_decide_eq_true (by first | (with_reducible assumption) | assumption))
    replace q4 := eq_true q4
    have p6 : 0 ≤ (0 : Int) := (by omega)
    have q6 : 0 < a0.size := (by have : (0 : Int) < (a0.size : Int) := of_decide_eq_true (by first | (with_reducible assumption) | assumption); omega)
    have hx6 : ∀ h : 0 < a0.size, ((a0[0]'h).toNat : Int) = bt a0 0 := bt_at a0 0
    clear p6
    have qi6 : (0 < (a0.size : Int)) = True := eq_true (of_decide_eq_true (by first | (with_reducible assumption) | assumption))
    replace q6 := eq_true q6
    go_enter Try.func64, Try.ntmps64
    go_wp2_with fail
    (with_reducible refine (kind_Letter.calls (bt a0 0) t131 _ A7.out).mono ?_)
    rintro e w' ⟨rfl, ⟨nd, rfl⟩⟩
    by_cases c8 : t131 = true
    ·
     subst c8
     replace H := (if_pos rfl).symm.trans H
     obtain rfl := Option.some.inj H
     go_wp2
     go_ret
     exact ⟨by first | rfl | (simp; done) | (simp [*]; done), by repeat (first | exact Drawn0.refl _ | apply Drawn0.step)⟩
    ·
     replace c8 := Bool.eq_false_iff.mpr c8
     subst c8
     replace H := (if_neg Bool.false_ne_true).symm.trans H
     replace H := Option.bind_eq_some_iff.mp H
     obtain ⟨t132, A100, H⟩ := H
     try dsimp only at H
     have A10 := Aside0.mk A100
     clear A100
     have p9 : 0 ≤ (0 : Int) := (by omega)
     have q9 : 0 < a0.size := (by have : (0 : Int) < (a0.size : Int) := of_decide_eq_true (by first | (with_reducible assumption) | assumption); omega)
     have hx9 : ∀ h : 0 < a0.size, ((a0[0]'h).toNat : Int) = bt a0 0 := bt_at a0 0
     clear p9
     have qi9 : (0 < (a0.size : Int)) = True := eq_true (of_decide_eq_true (by first | (with_reducible assumption) | assumption))
     replace q9 := eq_true q9
     go_wp2_with fail
     (with_reducible refine (kind_Figure.calls (bt a0 0) t132 _ A10.out).mono ?_)
     rintro e w' ⟨rfl, ⟨nd, rfl⟩⟩
     obtain rfl := Option.some.inj H
     go_wp2
     go_ret
     exact ⟨by first | rfl | (simp; done) | (simp [*]; done), by repeat (first | exact Drawn0.refl _ | apply Drawn0.step)⟩
  ·
   rw [if_neg c3] at H
   exact absurd H (by simp)
/-! ### charref_At: function 36 -/
def charref_At.j0 : Nat → ByteArray → Int → Bool → Bool → Option (ByteArray × Int)
  | 0, _, _, _, _ => none
  | k + 1, x0, x1, x2, x28 => if x28 = true then (some ((⟨#[]⟩ : ByteArray), 0)) else (if 0 ≤ (wrap64 (x1 + 1)) then (if (wrap64 (x1 + 1)) ≤ (x0.size : Int) then ((strings_CutPrefix.f (x0.extract ((wrap64 (x1 + 1)) : Int).toNat x0.size) (⟨#[35]⟩ : ByteArray)).bind fun bt133 => (if bt133.2 = true then ((charref_byNumber.f k bt133.1).bind fun bt135 => (if bt135.2 > 0 then (some (bt135.1, wrap64 (bt135.2 + 2))) else (some ((⟨#[38]⟩ : ByteArray), 1)))) else ((charref_byName.f k (x0.extract ((wrap64 (x1 + 1)) : Int).toNat x0.size)).bind fun bt137 => (if bt137.2 = 0 then (some ((⟨#[38]⟩ : ByteArray), 1)) else (if x2 = true then (if 0 ≤ (wrap64 (bt137.2 - 1)) then (if (wrap64 (bt137.2 - 1)) < ((x0.extract ((wrap64 (x1 + 1)) : Int).toNat x0.size).size : Int) then (if (bt (x0.extract ((wrap64 (x1 + 1)) : Int).toNat x0.size) (wrap64 (bt137.2 - 1))) = 59 then (some (bt137.1, wrap64 (bt137.2 + 1))) else (if 0 ≤ bt137.2 then (if bt137.2 ≤ ((x0.extract ((wrap64 (x1 + 1)) : Int).toNat x0.size).size : Int) then ((charref_stays.f ((x0.extract ((wrap64 (x1 + 1)) : Int).toNat x0.size).extract (bt137.2 : Int).toNat (x0.extract ((wrap64 (x1 + 1)) : Int).toNat x0.size).size)).bind fun t139 => (if t139 = true then (some ((⟨#[38]⟩ : ByteArray), 1)) else (some (bt137.1, wrap64 (bt137.2 + 1))))) else (none)) else (none))) else (none)) else (none)) else (some (bt137.1, wrap64 (bt137.2 + 1)))))))) else (none)) else (none))
def charref_At.f (k : Nat) (a0 : ByteArray) (a1 : Int) (a2 : Bool) : Option (ByteArray × Int) := if a1 < 0 then (charref_At.j0 k a0 a1 a2 true) else (if a1 ≥ (a0.size : Int) then (charref_At.j0 k a0 a1 a2 true) else (if 0 ≤ a1 then (if a1 < (a0.size : Int) then (charref_At.j0 k a0 a1 a2 ((bt a0 a1) != 38)) else (none)) else (none)))
theorem charref_At.mono_l : ∀ k, (∀ y0 y1 y2 y3, LeO (charref_At.j0 k y0 y1 y2 y3) (charref_At.j0 (k + 1) y0 y1 y2 y3))
  | 0 => fun _ _ _ _ r h => by simp [charref_At.j0] at h
  | k + 1 => by
    have ih0 := charref_At.mono_l k
    · intro y0 y1 y2 y3
      unfold charref_At.j0
      repeat' first
      | (with_reducible exact ih0 _ _ _ _)
      | (with_reducible exact charref_byName.mono _ _)
      | (with_reducible exact charref_byNumber.mono _ _)
      | (with_reducible exact LeO.refl _)
      | (with_reducible exact LeO.none _)
      | (with_reducible refine LeO.ite ?_ ?_)
      | (with_reducible refine LeO.bind ?_ (fun _ => ?_))
      | exact ih0 _ _ _ _
      | exact charref_byName.mono _ _
      | exact charref_byNumber.mono _ _
      | exact LeO.none _
      | refine LeO.ite ?_ ?_
      | refine LeO.bind ?_ (fun _ => ?_)
theorem charref_At.mono : ∀ a0 a1 a2 k, LeO (charref_At.f k a0 a1 a2) (charref_At.f (k + 1) a0 a1 a2) := by
 intro a0 a1 a2 k
 have ih0 := charref_At.mono_l k
 unfold charref_At.f
 repeat' first
     | (with_reducible exact ih0 _ _ _ _)
     | (with_reducible exact charref_byName.mono _ _)
     | (with_reducible exact charref_byNumber.mono _ _)
     | (with_reducible exact LeO.refl _)
     | (with_reducible exact LeO.none _)
     | (with_reducible refine LeO.ite ?_ ?_)
     | (with_reducible refine LeO.bind ?_ (fun _ => ?_))
     | exact ih0 _ _ _ _
     | exact charref_byName.mono _ _
     | exact charref_byNumber.mono _ _
     | exact LeO.none _
     | refine LeO.ite ?_ ?_
     | refine LeO.bind ?_ (fun _ => ?_)
set_option maxHeartbeats 8000000 in
set_option maxRecDepth 100000 in
theorem charref_At.calls (k : Nat) (a0 : ByteArray) (a1 : Int) (a2 : Bool) (r1 : ByteArray) (r2 : Int) (w : World) (h : charref_At.f k a0 a1 a2 = some (r1, r2)) :
    Calls Try.prog 36 #[.string a0, .int .i64 a1, .bool a2] w fun e w' => e = .returned (.tuple #[.string r1, .int .i64 r2]) ∧ Below w.heap.size w w' := by
 have HB := Aside0.mk (Below.refl w.heap.size w)
 have H : (if a1 < 0 then (charref_At.j0 k a0 a1 a2 true) else (if a1 ≥ (a0.size : Int) then (charref_At.j0 k a0 a1 a2 true) else (if 0 ≤ a1 then (if a1 < (a0.size : Int) then (charref_At.j0 k a0 a1 a2 ((bt a0 a1) != 38)) else (none)) else (none)))) = some (r1, r2) := h
 clear h
 have HC4 := Aside0.mk H
 clear H
 go_enter Try.func36, Try.ntmps36
 go_upto_region 1 with (fail)
 go_cut [28] (fun v28 wc => ∃ (kq : Nat) (x28_3 : Bool), v28 = .bool x28_3 ∧ Aside0 (charref_At.j0 kq a0 a1 a2 x28_3 = some (r1, r2)) ∧ Aside0 (kq ≤ k) ∧ Aside0 (Below w.heap.size w wc))
 case first =>
  have H := HC4.out
  clear HC4
  by_cases c5 : a1 < 0
  ·
   rw [if_pos c5] at H
   have c5b0 : decide (a1 < 0) = true := decide_eq_true c5
   clear c5
   (first | rw [c5b0] | (simp only [i64_w, i32_w]; rw [c5b0]) | skip)
   have H' := Aside0.mk H
   clear H
   go_wp2
   go_meet
   case rel => exact ⟨_, (true), (by first | rfl | (simp; done) | (simp [*]; done)), H', ⟨by first | omega | exact Nat.le_refl _⟩, ⟨by repeat (first | (with_reducible first | exact HB.out | apply below_alloc | apply pw_below_drewN | apply below_drew1) | exact HB.out)⟩⟩
  ·
   rw [if_neg c5] at H
   have c5b0 : decide (a1 < 0) = false := decide_eq_false c5
   clear c5
   (first | rw [c5b0] | (simp only [i64_w, i32_w]; rw [c5b0]) | skip)
   by_cases c6 : a1 ≥ (a0.size : Int)
   ·
    rw [if_pos c6] at H
    have c6b0 : decide ((a0.size : Int) ≤ a1) = true := decide_eq_true c6
    clear c6
    have H' := Aside0.mk H
    clear H
    go_wp2
    go_meet
    case rel => exact ⟨_, (true), (by first | rfl | (simp; done) | (simp [*]; done)), H', ⟨by first | omega | exact Nat.le_refl _⟩, ⟨by repeat (first | (with_reducible first | exact HB.out | apply below_alloc | apply pw_below_drewN | apply below_drew1) | exact HB.out)⟩⟩
   ·
    rw [if_neg c6] at H
    have c6b0 : decide ((a0.size : Int) ≤ a1) = false := decide_eq_false c6
    clear c6
    by_cases c7 : 0 ≤ a1
    ·
     rw [if_pos c7] at H
     have c7b0 : decide (0 ≤ a1) = true := decide_eq_true c7
     clear c7
     by_cases c8 : a1 < (a0.size : Int)
     ·
      rw [if_pos c8] at H
      have c8b0 : decide (a1 < (a0.size : Int)) = true := decide_eq_true c8
      clear c8
      have H' := Aside0.mk H
      clear H
      have p9 : 0 ≤ (a1 : Int) := of_decide_eq_true (by first | (with_reducible assumption) | assumption)
      have q9 : a1 < (a0.size : Int) := of_decide_eq_true (by first | (with_reducible assumption) | assumption)
      have hx9 := bt_at a0 a1
      replace p9 := eq_true p9
      replace q9 := eq_true q9
      go_wp2
      go_meet
      case rel => exact ⟨_, (((bt a0 a1) != 38)), (by first | rfl | (simp; done) | (simp [*]; done)), H', ⟨by first | omega | exact Nat.le_refl _⟩, ⟨by repeat (first | (with_reducible first | exact HB.out | apply below_alloc | apply pw_below_drewN | apply below_drew1) | exact HB.out)⟩⟩
     ·
      rw [if_neg c8] at H
      exact absurd H (by simp)
    ·
     rw [if_neg c7] at H
     exact absurd H (by simp)
 case rest =>
  clear HC4
  try clear p2
  try clear c3
  try clear c5
  try clear c5b0
  try clear c6
  try clear c6b0
  try clear c7
  try clear c7b0
  try clear c8
  try clear c8b0
  try clear p9
  try clear q9
  try clear hx9
  try clear p9
  try clear q9
  obtain ⟨kq, x28_3, rfl, HA, HJ3, HB⟩ := hcut
  cases kq with
  | zero => exact absurd HA.out (by simp [charref_At.j0])
  | succ kj3 =>
   have H := HA.out
   clear HA
   simp only [charref_At.j0] at H
   by_cases c10 : x28_3 = true
   ·
    subst c10
    replace H := (if_pos rfl).symm.trans H
    simp only [Option.some.injEq, Prod.mk.injEq] at H
    obtain ⟨rfl, rfl⟩ := H
    go_wp2
    go_ret2
    exact ⟨by first | rfl | (simp [errW_none, errW_some] <;> rfl) | (simp [*, errW_none, errW_some] <;> rfl), by repeat (first | (with_reducible first | exact HB.out | apply below_alloc | apply pw_below_drewN | apply below_drew1) | exact HB.out)⟩
   ·
    replace c10 := Bool.eq_false_iff.mpr c10
    subst c10
    replace H := (if_neg Bool.false_ne_true).symm.trans H
    obtain ⟨ji11, hji11⟩ : ∃ j_ : Int, (wrap64 (a1 + 1)) = j_ := ⟨_, rfl⟩
    replace H : (if 0 ≤ (ji11) then (if (ji11) ≤ (a0.size : Int) then ((strings_CutPrefix.f (a0.extract ((ji11) : Int).toNat a0.size) (⟨#[35]⟩ : ByteArray)).bind fun bt133 => (if bt133.2 = true then ((charref_byNumber.f kj3 bt133.1).bind fun bt135 => (if bt135.2 > 0 then (some (bt135.1, wrap64 (bt135.2 + 2))) else (some ((⟨#[38]⟩ : ByteArray), 1)))) else ((charref_byName.f kj3 (a0.extract ((ji11) : Int).toNat a0.size)).bind fun bt137 => (if bt137.2 = 0 then (some ((⟨#[38]⟩ : ByteArray), 1)) else (if a2 = true then (if 0 ≤ (wrap64 (bt137.2 - 1)) then (if (wrap64 (bt137.2 - 1)) < ((a0.extract ((ji11) : Int).toNat a0.size).size : Int) then (if (bt (a0.extract ((ji11) : Int).toNat a0.size) (wrap64 (bt137.2 - 1))) = 59 then (some (bt137.1, wrap64 (bt137.2 + 1))) else (if 0 ≤ bt137.2 then (if bt137.2 ≤ ((a0.extract ((ji11) : Int).toNat a0.size).size : Int) then ((charref_stays.f ((a0.extract ((ji11) : Int).toNat a0.size).extract (bt137.2 : Int).toNat (a0.extract ((ji11) : Int).toNat a0.size).size)).bind fun t139 => (if t139 = true then (some ((⟨#[38]⟩ : ByteArray), 1)) else (some (bt137.1, wrap64 (bt137.2 + 1))))) else (none)) else (none))) else (none)) else (none)) else (some (bt137.1, wrap64 (bt137.2 + 1)))))))) else (none)) else (none)) = some (r1, r2) := by first | (rw [hji11] at H; exact H) | (simp only [hji11] at H ⊢; exact H)
    have hji11w : (IntKind.i64.wrap (a1 + 1)) = ji11 := (i64_w _).trans hji11
    by_cases c12 : 0 ≤ (ji11)
    ·
     rw [if_pos c12] at H
     have c12b0 := eq_true c12
     have c12b1 : decide (0 ≤ (ji11)) = true := decide_eq_true c12
     clear c12
     by_cases c13 : (ji11) ≤ (a0.size : Int)
     ·
      rw [if_pos c13] at H
      have c13b0 := eq_true c13
      have c13b1 : decide ((ji11) ≤ (a0.size : Int)) = true := decide_eq_true c13
      clear c13
      replace H := Option.bind_eq_some_iff.mp H
      obtain ⟨⟨t133, t134⟩, A140, H⟩ := H
      try dsimp only at H
      have A14 := Aside0.mk A140
      clear A140
      go_wp2_with fail
      (with_reducible refine (strings_CutPrefix.calls (a0.extract ((ji11) : Int).toNat a0.size) (⟨#[35]⟩ : ByteArray) t133 t134 _ A14.out).mono ?_)
      rintro e w' ⟨rfl, ⟨nd, rfl⟩⟩
      by_cases c15 : t134 = true
      ·
       subst c15
       replace H := (if_pos rfl).symm.trans H
       replace H := Option.bind_eq_some_iff.mp H
       obtain ⟨⟨t135, t136⟩, A160, H⟩ := H
       try dsimp only at H
       have A16 := Aside0.mk A160
       clear A160
       go_wp2_with fail
       (with_reducible refine (charref_byNumber.calls kj3 t133 t135 t136 _ A16.out).mono ?_)
       rintro e w18 ⟨rfl, hb⟩
       have n0_ := Aside0.mk (below_step (by repeat (first | (with_reducible first | exact HB.out | apply below_alloc | apply pw_below_drewN | apply below_drew1) | exact HB.out)) hb)
       clear HB
       have HB := n0_
       clear n0_
       (try clear hb)
       (try clear hb2)
       (try clear hk)
       (try clear hi)
       by_cases c17 : t136 > 0
       ·
        rw [if_pos c17] at H
        have c17b0 : decide (0 < t136) = true := decide_eq_true c17
        clear c17
        simp only [Option.some.injEq, Prod.mk.injEq] at H
        obtain ⟨rfl, rfl⟩ := H
        go_wp2
        go_ret2
        exact ⟨by first | rfl | (simp [errW_none, errW_some] <;> rfl) | (simp only [← hji11]; first | rfl | (simp [errW_none, errW_some] <;> rfl)) | (simp [*, errW_none, errW_some] <;> rfl), by repeat (first | (with_reducible first | exact HB.out | apply below_alloc | apply pw_below_drewN | apply below_drew1) | exact HB.out)⟩
       ·
        rw [if_neg c17] at H
        have c17b0 : decide (0 < t136) = false := decide_eq_false c17
        clear c17
        simp only [Option.some.injEq, Prod.mk.injEq] at H
        obtain ⟨rfl, rfl⟩ := H
        go_wp2
        go_ret2
        exact ⟨by first | rfl | (simp [errW_none, errW_some] <;> rfl) | (simp only [← hji11]; first | rfl | (simp [errW_none, errW_some] <;> rfl)) | (simp [*, errW_none, errW_some] <;> rfl), by repeat (first | (with_reducible first | exact HB.out | apply below_alloc | apply pw_below_drewN | apply below_drew1) | exact HB.out)⟩
      ·
       replace c15 := Bool.eq_false_iff.mpr c15
       subst c15
       replace H := (if_neg Bool.false_ne_true).symm.trans H
       replace H := Option.bind_eq_some_iff.mp H
       obtain ⟨⟨t137, t138⟩, A200, H⟩ := H
       try dsimp only at H
       have A20 := Aside0.mk A200
       clear A200
       go_wp2_with fail
       (with_reducible refine (charref_byName.calls kj3 (a0.extract ((ji11) : Int).toNat a0.size) t137 t138 _ A20.out).mono ?_)
       rintro e w22 ⟨rfl, hb⟩
       have n0_ := Aside0.mk (below_step (by repeat (first | (with_reducible first | exact HB.out | apply below_alloc | apply pw_below_drewN | apply below_drew1) | exact HB.out)) hb)
       clear HB
       have HB := n0_
       clear n0_
       (try clear hb)
       (try clear hb2)
       (try clear hk)
       (try clear hi)
       by_cases c21 : t138 = 0
       ·
        rw [if_pos c21] at H
        have c21b0 : (t138 == 0) = true := beq_iff_eq.mpr c21
        have c21b1 : (t138 != 0) = false := bne_eq_false_iff_eq.mpr c21
        clear c21
        simp only [Option.some.injEq, Prod.mk.injEq] at H
        obtain ⟨rfl, rfl⟩ := H
        go_wp2
        go_ret2
        exact ⟨by first | rfl | (simp [errW_none, errW_some] <;> rfl) | (simp only [← hji11]; first | rfl | (simp [errW_none, errW_some] <;> rfl)) | (simp [*, errW_none, errW_some] <;> rfl), by repeat (first | (with_reducible first | exact HB.out | apply below_alloc | apply pw_below_drewN | apply below_drew1) | exact HB.out)⟩
       ·
        rw [if_neg c21] at H
        have c21b0 : (t138 == 0) = false := beq_eq_false_iff_ne.mpr c21
        have c21b1 : (t138 != 0) = true := bne_iff_ne.mpr c21
        by_cases c23 : a2 = true
        ·
         subst c23
         replace H := (if_pos rfl).symm.trans H
         obtain ⟨ji24, hji24⟩ : ∃ j_ : Int, (wrap64 (t138 - 1)) = j_ := ⟨_, rfl⟩
         replace H : (if 0 ≤ (ji24) then (if (ji24) < ((a0.extract ((ji11) : Int).toNat a0.size).size : Int) then (if (bt (a0.extract ((ji11) : Int).toNat a0.size) (ji24)) = 59 then (some (t137, wrap64 (t138 + 1))) else (if 0 ≤ t138 then (if t138 ≤ ((a0.extract ((ji11) : Int).toNat a0.size).size : Int) then ((charref_stays.f ((a0.extract ((ji11) : Int).toNat a0.size).extract (t138 : Int).toNat (a0.extract ((ji11) : Int).toNat a0.size).size)).bind fun t139 => (if t139 = true then (some ((⟨#[38]⟩ : ByteArray), 1)) else (some (t137, wrap64 (t138 + 1))))) else (none)) else (none))) else (none)) else (none)) = some (r1, r2) := by first | (rw [hji24] at H; exact H) | (simp only [hji24] at H ⊢; exact H)
         (try rw [hji24] at A14)
         (try rw [hji24] at A20)
         have hji24w : (IntKind.i64.wrap (t138 - 1)) = ji24 := (i64_w _).trans hji24
         by_cases c25 : 0 ≤ (ji24)
         ·
          rw [if_pos c25] at H
          have c25b0 : decide (0 ≤ (ji24)) = true := decide_eq_true c25
          clear c25
          by_cases c26 : (ji24) < ((a0.extract ((ji11) : Int).toNat a0.size).size : Int)
          ·
           rw [if_pos c26] at H
           have c26b0 : decide ((ji24) < ((a0.extract ((ji11) : Int).toNat a0.size).size : Int)) = true := decide_eq_true c26
           (try (have c26b0s := c26b0; simp at c26b0s))
           clear c26
           by_cases c28 : (bt (a0.extract ((ji11) : Int).toNat a0.size) (ji24)) = 59
           ·
            rw [if_pos c28] at H
            have c28b0 : ((bt (a0.extract ((ji11) : Int).toNat a0.size) (ji24)) == 59) = true := beq_iff_eq.mpr c28
            (try (have c28b0s := c28b0; simp at c28b0s))
            have c28b1 : ((bt (a0.extract ((ji11) : Int).toNat a0.size) (ji24)) != 59) = false := bne_eq_false_iff_eq.mpr c28
            (try (have c28b1s := c28b1; simp at c28b1s))
            clear c28
            simp only [Option.some.injEq, Prod.mk.injEq] at H
            obtain ⟨rfl, rfl⟩ := H
            have p27 : 0 ≤ ((ji24) : Int) := of_decide_eq_true (by first | (with_reducible assumption) | assumption)
            have q27 : (ji24) < ((a0.extract ((ji11) : Int).toNat a0.size).size : Int) := of_decide_eq_true (by first | (with_reducible assumption) | assumption)
            have hx27 := bt_at (a0.extract ((ji11) : Int).toNat a0.size) (ji24)
            (try (have qs27 := q27; simp at qs27))
            (try (have hxs27 := bt_at (a0.extract ((ji11) : Int).toNat a0.size) (ji24); simp only [ByteArray.size_extract, Nat.min_self] at hxs27))
            replace p27 := eq_true p27
            replace q27 := eq_true q27
            go_wp2
            go_ret2
            exact ⟨by first | rfl | (simp [errW_none, errW_some] <;> rfl) | (simp only [← hji11, ← hji24]; first | rfl | (simp [errW_none, errW_some] <;> rfl)) | (simp [*, errW_none, errW_some] <;> rfl), by repeat (first | (with_reducible first | exact HB.out | apply below_alloc | apply pw_below_drewN | apply below_drew1) | exact HB.out)⟩
           ·
            rw [if_neg c28] at H
            have c28b0 : ((bt (a0.extract ((ji11) : Int).toNat a0.size) (ji24)) == 59) = false := beq_eq_false_iff_ne.mpr c28
            (try (have c28b0s := c28b0; simp at c28b0s))
            have c28b1 : ((bt (a0.extract ((ji11) : Int).toNat a0.size) (ji24)) != 59) = true := bne_iff_ne.mpr c28
            (try (have c28b1s := c28b1; simp at c28b1s))
            by_cases c30 : 0 ≤ t138
            ·
             rw [if_pos c30] at H
             have c30b0 := eq_true c30
             have c30b1 : decide (0 ≤ t138) = true := decide_eq_true c30
             clear c30
             by_cases c31 : t138 ≤ ((a0.extract ((ji11) : Int).toNat a0.size).size : Int)
             ·
              rw [if_pos c31] at H
              have c31b0 := eq_true c31
              have c31b1 : decide (t138 ≤ ((a0.extract ((ji11) : Int).toNat a0.size).size : Int)) = true := decide_eq_true c31
              (try (have c31b1s := c31b1; simp at c31b1s))
              clear c31
              replace H := Option.bind_eq_some_iff.mp H
              obtain ⟨t139, A320, H⟩ := H
              try dsimp only at H
              have A32 := Aside0.mk A320
              clear A320
              have p27 : 0 ≤ ((ji24) : Int) := of_decide_eq_true (by first | (with_reducible assumption) | assumption)
              have q27 : (ji24) < ((a0.extract ((ji11) : Int).toNat a0.size).size : Int) := of_decide_eq_true (by first | (with_reducible assumption) | assumption)
              have hx27 := bt_at (a0.extract ((ji11) : Int).toNat a0.size) (ji24)
              (try (have qs27 := q27; simp at qs27))
              (try (have hxs27 := bt_at (a0.extract ((ji11) : Int).toNat a0.size) (ji24); simp only [ByteArray.size_extract, Nat.min_self] at hxs27))
              replace p27 := eq_true p27
              replace q27 := eq_true q27
              go_wp2_with fail
              refine calls_of_args (args' := #[.string ((a0.extract ((ji11) : Int).toNat a0.size).extract (t138 : Int).toNat (a0.extract ((ji11) : Int).toNat a0.size).size)]) (by first | rfl | (simp only [ByteArray.size_extract, Nat.min_self]; done) | simp) ?_
              (with_reducible refine (charref_stays.calls ((a0.extract ((ji11) : Int).toNat a0.size).extract (t138 : Int).toNat (a0.extract ((ji11) : Int).toNat a0.size).size) t139 _ A32.out).mono ?_)
              rintro e w' ⟨rfl, ⟨nd, rfl⟩⟩
              by_cases c33 : t139 = true
              ·
               subst c33
               replace H := (if_pos rfl).symm.trans H
               simp only [Option.some.injEq, Prod.mk.injEq] at H
               obtain ⟨rfl, rfl⟩ := H
               go_wp2
               go_ret2
               exact ⟨by first | rfl | (simp [errW_none, errW_some] <;> rfl) | (simp only [← hji11, ← hji24]; first | rfl | (simp [errW_none, errW_some] <;> rfl)) | (simp [*, errW_none, errW_some] <;> rfl), by repeat (first | (with_reducible first | exact HB.out | apply below_alloc | apply pw_below_drewN | apply below_drew1) | exact HB.out)⟩
              ·
               replace c33 := Bool.eq_false_iff.mpr c33
               subst c33
               replace H := (if_neg Bool.false_ne_true).symm.trans H
               simp only [Option.some.injEq, Prod.mk.injEq] at H
               obtain ⟨rfl, rfl⟩ := H
               go_wp2
               go_ret2
               exact ⟨by first | rfl | (simp [errW_none, errW_some] <;> rfl) | (simp only [← hji11, ← hji24]; first | rfl | (simp [errW_none, errW_some] <;> rfl)) | (simp [*, errW_none, errW_some] <;> rfl), by repeat (first | (with_reducible first | exact HB.out | apply below_alloc | apply pw_below_drewN | apply below_drew1) | exact HB.out)⟩
             ·
              rw [if_neg c31] at H
              exact absurd H (by simp)
            ·
             rw [if_neg c30] at H
             exact absurd H (by simp)
          ·
           rw [if_neg c26] at H
           exact absurd H (by simp)
         ·
          rw [if_neg c25] at H
          exact absurd H (by simp)
        ·
         replace c23 := Bool.eq_false_iff.mpr c23
         subst c23
         replace H := (if_neg Bool.false_ne_true).symm.trans H
         simp only [Option.some.injEq, Prod.mk.injEq] at H
         obtain ⟨rfl, rfl⟩ := H
         go_wp2
         go_ret2
         exact ⟨by first | rfl | (simp [errW_none, errW_some] <;> rfl) | (simp only [← hji11]; first | rfl | (simp [errW_none, errW_some] <;> rfl)) | (simp [*, errW_none, errW_some] <;> rfl), by repeat (first | (with_reducible first | exact HB.out | apply below_alloc | apply pw_below_drewN | apply below_drew1) | exact HB.out)⟩
     ·
      rw [if_neg c13] at H
      exact absurd H (by simp)
    ·
     rw [if_neg c12] at H
     exact absurd H (by simp)
/-! HAND charref_Decode: function 22 -/
def charref_Decode.l0 : Nat → ByteArray → Bool → ByteArray → Option ByteArray
  | 0, _, _, _ => none
  | k + 1, x0, x1, out =>
    if Lib.indexByte x0.data.toList 38 < 0 then (if out.size + x0.size ≤ 140737488355328 then some (out ++ x0) else none)
    else (charref_At.f k x0 (Lib.indexByte x0.data.toList 38) x1).bind fun t =>
      (if 0 ≤ Lib.indexByte x0.data.toList 38 then
        (if Lib.indexByte x0.data.toList 38 ≤ (x0.size : Int) then
          (if out.size + (x0.extract 0 (Lib.indexByte x0.data.toList 38).toNat).size ≤ 140737488355328 then
            (if out.size + (x0.extract 0 (Lib.indexByte x0.data.toList 38).toNat).size + t.1.size ≤ 140737488355328 then
              (if 0 ≤ wrap64 (Lib.indexByte x0.data.toList 38 + t.2) then
                (if wrap64 (Lib.indexByte x0.data.toList 38 + t.2) ≤ (x0.size : Int) then
                  charref_Decode.l0 k (x0.extract (wrap64 (Lib.indexByte x0.data.toList 38 + t.2)).toNat x0.size) x1 (out ++ x0.extract 0 (Lib.indexByte x0.data.toList 38).toNat ++ t.1)
                else none) else none) else none) else none) else none) else none)
def charref_Decode.f (k : Nat) (a0 : ByteArray) (a1 : Bool) : Option ByteArray := charref_Decode.l0 k a0 a1 (⟨#[]⟩ : ByteArray)
theorem charref_Decode.mono_l : ∀ k, (∀ y0 y1 y2, LeO (charref_Decode.l0 k y0 y1 y2) (charref_Decode.l0 (k + 1) y0 y1 y2))
  | 0 => fun _ _ _ r h => by simp [charref_Decode.l0] at h
  | k + 1 => by
    have ih0 := charref_Decode.mono_l k
    intro y0 y1 y2
    unfold charref_Decode.l0
    repeat' first
      | (with_reducible exact ih0 _ _ _)
      | (with_reducible exact charref_At.mono _ _ _ _)
      | (with_reducible exact LeO.refl _)
      | (with_reducible exact LeO.none _)
      | (with_reducible refine LeO.ite ?_ ?_)
      | (with_reducible refine LeO.bind ?_ (fun _ => ?_))
theorem charref_Decode.mono : ∀ a0 a1 k, LeO (charref_Decode.f k a0 a1) (charref_Decode.f (k + 1) a0 a1) := fun a0 a1 k => charref_Decode.mono_l k _ _ _
theorem charref_Decode.idx (x : ByteArray) (i : Int) (h : i = Lib.indexByte x.data.toList 38) (w : World) :
    Calls Try.prog 33 #[.string x, .int .u8 38] w fun e w' => e = .returned (.int .i64 i) ∧ w' = w := by
 subst h
 exact Try.strings_IndexByte x 38 w
theorem charref_Decode.cells (a b : ByteArray) : Lib.byteCells a.data.toList ++ Lib.strCells b = Lib.byteCells (a ++ b).data.toList := by
 simp [Lib.byteCells, Lib.strCells]
theorem charref_Decode.len (a : ByteArray) : (Lib.byteCells a.data.toList).length = a.size := by
 rw [Lib.byteCells_length]; simp
theorem charref_Decode.fin (a b : ByteArray) : (⟨(a ++ b).data.toList.toArray⟩ : ByteArray) = a ++ b := by rw [Array.toArray_toList]
set_option maxHeartbeats 4000000 in
set_option maxRecDepth 100000 in
theorem charref_Decode.calls (k : Nat) (a0 : ByteArray) (a1 : Bool) (r : ByteArray) (w : World) (h : charref_Decode.f k a0 a1 = some r) :
    Calls Try.prog 22 #[.string a0, .bool a1] w fun e w' => e = .returned (.string r) ∧ Below w.heap.size w w' := by
 have H := Aside0.mk (show charref_Decode.l0 k a0 a1 (⟨#[]⟩ : ByteArray) = some r from h)
 clear h
 have hF : Aside0 (BX.Fits 61 []) := ⟨⟨by kernel_rfl, by decide⟩⟩
 go_enter Try.func22, Try.ntmps22
 go_wp2
 go_loopg [0] k (fun kq v0 wr => ∃ x out : ByteArray, v0 = .string x ∧ Aside0 (charref_Decode.l0 kq x a1 out = some r) ∧ Aside0 (kq ≤ k) ∧ Aside0 (BX.BX 61 [] w.heap.size w.heap.size (Lib.byteCells out.data.toList) wr) ∧ Aside0 (Below w.heap.size w wr))
 case atStart => exact ⟨a0, ⟨#[]⟩, rfl, H, ⟨Nat.le_refl _⟩, ⟨BX.BX.fresh⟩, ⟨(Below.refl _ _).alloc (Nat.le_refl _) _⟩⟩
 case round =>
  clear H
  obtain ⟨x, out, rfl, HA, HK, HBX, HBL⟩ := hrel
  cases gk with
  | zero => exact absurd HA.out (by simp [charref_Decode.l0])
  | succ k1 =>
   have H := HA.out
   clear HA
   rw [charref_Decode.l0] at H
   obtain ⟨i, hi⟩ : ∃ i, i = Lib.indexByte x.data.toList 38 := ⟨_, rfl⟩
   rw [← hi] at H
   have HI := Aside0.mk hi
   clear hi
   by_cases c0 : i < 0
   ·
    rw [if_pos c0] at H
    by_cases c1 : out.size + x.size ≤ 140737488355328
    ·
     rw [if_pos c1] at H
     obtain rfl := Option.some.inj H
     clear H
     have HC := Aside0.mk c1
     have c0b : decide (i < 0) = true := decide_eq_true c0
     clear c1 c0
     go_wp2_with (first
       | (go_at_call 33; refine (charref_Decode.idx x i HI.out _).mono ?_; rintro e w1 ⟨rfl, rfl⟩)
       | (go_at_call 34; refine (BX.writeString 61 [] hF.out _ _ _ x _ HBX.out (by rw [charref_Decode.len]; exact HC.out) HBL.out.size).mono ?_; rintro e w1 ⟨rfl, hu, hb, _⟩; have HU := Aside0.mk hu.bx; rw [charref_Decode.cells] at HU; have HBB := Aside0.mk (HBL.out.trans hb); clear hu hb)
       | (go_at_call 35; refine (BX.string 61 [] _ _ _ _ HU.out HBB.out.size).mono ?_; rintro e w2 ⟨rfl, hb⟩))
     go_ret
     exact ⟨by rw [← charref_Decode.fin]; rfl, HBB.out.trans hb⟩
    ·
     rw [if_neg c1] at H
     exact absurd H (by simp)
   ·
    rw [if_neg c0] at H
    replace H := Option.bind_eq_some_iff.mp H
    obtain ⟨⟨t1, n1⟩, A0, H⟩ := H
    have A := Aside0.mk A0
    clear A0
    have p0 : 0 ≤ i := by omega
    rw [if_pos p0] at H
    by_cases c2 : i ≤ (x.size : Int)
    ·
     rw [if_pos c2] at H
     by_cases c3 : out.size + (x.extract 0 i.toNat).size ≤ 140737488355328
     ·
      rw [if_pos c3] at H
      by_cases c4 : out.size + (x.extract 0 i.toNat).size + t1.size ≤ 140737488355328
      ·
       rw [if_pos c4] at H
       obtain ⟨j, hj⟩ : ∃ j : Int, wrap64 (i + n1) = j := ⟨_, rfl⟩
       replace H : (if 0 ≤ j then (if j ≤ (x.size : Int) then charref_Decode.l0 k1 (x.extract j.toNat x.size) a1 (out ++ x.extract 0 i.toNat ++ t1) else none) else none) = some r := by rw [← hj]; exact H
       by_cases c5 : 0 ≤ j
       ·
        rw [if_pos c5] at H
        by_cases c6 : j ≤ (x.size : Int)
        ·
         rw [if_pos c6] at H
         have HA := Aside0.mk H
         have HC3 := Aside0.mk c3
         have HC4 := Aside0.mk c4
         have c0b : decide (i < 0) = false := decide_eq_false c0
         have c2b := eq_true c2
         have p0b := eq_true p0
         have c5b : (0 ≤ wrap64 (i + n1)) = True := eq_true (by rw [hj]; exact c5)
         have c6b : (wrap64 (i + n1) ≤ (x.size : Int)) = True := eq_true (by rw [hj]; exact c6)
         have HJ := Aside0.mk hj
         clear H c3 c4 c0 hj c2 c5 c6 p0
         go_wp2_with (first
           | (go_at_call 33; refine (charref_Decode.idx x i HI.out _).mono ?_; rintro e w1 ⟨rfl, rfl⟩)
           | (go_at_call 36; (with_reducible refine (charref_At.calls k1 x i a1 t1 n1 _ A.out).mono ?_); rintro e w1 ⟨rfl, hb⟩; have HBB := Aside0.mk (below_then HBL.out HBL.out.size hb); have HB2 := Aside0.mk (HBX.out.later hb); clear hb)
           | (go_at_call 34; (with_reducible refine (BX.writeString 61 [] hF.out _ _ _ (x.extract 0 i.toNat) _ HB2.out (by rw [charref_Decode.len]; exact HC3.out) HBB.out.size).mono ?_); rintro e w2 ⟨rfl, hu, hb, _⟩; have HU := Aside0.mk hu.bx; rw [charref_Decode.cells] at HU; have HBC := Aside0.mk (HBB.out.trans hb); clear hu hb HB2)
           | (go_at_call 34; (with_reducible refine (BX.writeString 61 [] hF.out _ _ _ t1 _ HU.out (by rw [charref_Decode.len, ByteArray.size_append]; exact HC4.out) HBC.out.size).mono ?_); rintro e w3 ⟨rfl, hu, hb, _⟩; have HV := Aside0.mk hu.bx; rw [charref_Decode.cells] at HV; have HBD := Aside0.mk (HBC.out.trans hb); clear hu hb HU))
         go_roundg k1
         case measure => omega
         case rel => exact ⟨x.extract j.toNat x.size, _, by first | rfl | (rw [← HJ.out]; rfl) | (rw [← HJ.out]), HA, ⟨by have := HK.out; omega⟩, HV, HBD⟩
        ·
         rw [if_neg c6] at H
         exact absurd H (by simp)
       ·
        rw [if_neg c5] at H
        exact absurd H (by simp)
      ·
       rw [if_neg c4] at H
       exact absurd H (by simp)
     ·
      rw [if_neg c3] at H
      exact absurd H (by simp)
    ·
     rw [if_neg c2] at H
     exact absurd H (by simp)
end
end Go.Proofs.Ytpelfhldgnmhpaa.G
