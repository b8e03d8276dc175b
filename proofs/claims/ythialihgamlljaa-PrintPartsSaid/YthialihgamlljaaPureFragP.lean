/- Nodes as they are written, over lists of bytes, by depth; the program's Fragment gives that; condition: a small weight. -/
import Derived.Test.YthialihgamlljaaPureEsc
namespace Go.Proofs.Ythialihgamlljaa.Pure
open Go.RowKit Go.Proofs.Ythialihgamlljaa.G Go.Proofs.YthialihgamlljaaW.PrintWords Go.Proofs.YthialihgamlljaaW.PrintLast Go.Proofs.Ythialihgamlljaa.Spec
set_option linter.unusedVariables false
set_option linter.unusedSimpArgs false

def bl (a : ByteArray) : Bs := a.data.toList
theorem mkB_bl (a : ByteArray) : mkB (bl a) = a := rfl
theorem bl_mkB (l : Bs) : bl (mkB l) = l := mkB_data l
theorem bl_len (a : ByteArray) : (bl a).length = a.size := rfl

def voidW : List Bs := [[97, 114, 101, 97], [98, 97, 115, 101], [98, 114], [99, 111, 108], [101, 109, 98, 101, 100], [104, 114], [105, 109, 103], [105, 110, 112, 117, 116], [108, 105, 110, 107], [109, 101, 116, 97], [112, 97, 114, 97, 109], [115, 111, 117, 114, 99, 101], [116, 114, 97, 99, 107], [119, 98, 114]]
def rawW : List Bs := [[105, 102, 114, 97, 109, 101], [110, 111, 101, 109, 98, 101, 100], [110, 111, 102, 114, 97, 109, 101, 115], [115, 99, 114, 105, 112, 116], [115, 116, 121, 108, 101], [120, 109, 112]]
def plainW : Bs := [112, 108, 97, 105, 110, 116, 101, 120, 116]
def attrsS : List S45 → Bs
  | [] => []
  | a :: r => 32 :: (bl a.f0 ++ [61, 34] ++ print_Escape.esc true false (bl a.f1) ++ [34] ++ attrsS r)
def oneS (sub : Bool → List S43 → Bs) (raw : Bool) (n : S43) : Bs :=
  if n.f0 = 2 then (if raw = true then bl n.f4 else print_Escape.esc false false (bl n.f4))
  else if n.f0 = 3 then [60, 33, 45, 45] ++ bl n.f4 ++ [45, 45, 62]
  else if n.f0 = 1 then
    (if n.f1 = 0 ∧ bl n.f2 ∈ voidW then 60 :: (bl n.f2 ++ attrsS n.f3 ++ [62])
     else 60 :: (bl n.f2 ++ attrsS n.f3 ++ [62] ++ sub (decide (n.f1 = 0 ∧ (bl n.f2 ∈ rawW ∨ bl n.f2 = plainW))) n.f5 ++ [60, 47] ++ bl n.f2 ++ [62]))
  else []
def rowS (one : S43 → Bs) : List S43 → Bs
  | [] => []
  | n :: r => one n ++ rowS one r
def outL : Nat → Bool → List S43 → Bs
  | 0, _, _ => []
  | d + 1, raw, l => rowS (oneS (outL d) raw) l
def szA : List S45 → Nat
  | [] => 0
  | a :: r => 1 + a.f0.size + a.f1.size + szA r
def szR (sub : List S43 → Nat) : List S43 → Nat
  | [] => 0
  | n :: r => 1 + n.f2.size + n.f4.size + szA n.f3 + sub n.f5 + szR sub r
def szL : Nat → List S43 → Nat
  | 0, _ => 1500
  | d + 1, l => szR (szL d) l

theorem szR_len (sub : List S43 → Nat) (l : List S43) : l.length ≤ szR sub l := by
  induction l with
  | nil => simp
  | cons n r ih => simp only [szR, List.length_cons]; omega
theorem attrsS_len (l : List S45) : (attrsS l).length ≤ 6 * szA l := by
  induction l with
  | nil => simp [attrsS]
  | cons a r ih =>
    have := esc_len true (bl a.f1) false
    have h0 := bl_len a.f0
    have h1 := bl_len a.f1
    simp only [attrsS, szA, List.length_append, List.length_cons, List.length_nil]
    omega
theorem oneS_len {sub : Bool → List S43 → Bs} {s : Nat} {n : S43} (hs : ∀ raw, (sub raw n.f5).length ≤ 7 * s) (raw : Bool) : (oneS sub raw n).length ≤ 7 * (1 + n.f2.size + n.f4.size + szA n.f3 + s) := by
  have h0 := bl_len n.f2
  have h1 := bl_len n.f4
  have h2 := attrsS_len n.f3
  have h3 := esc_len false (bl n.f4) false
  unfold oneS
  split
  · split <;> omega
  · split
    · simp only [List.length_append, List.length_cons, List.length_nil]; omega
    · split
      · split
        · simp only [List.length_append, List.length_cons, List.length_nil]; omega
        · have := hs (decide (n.f1 = 0 ∧ (bl n.f2 ∈ rawW ∨ bl n.f2 = plainW)))
          simp only [List.length_append, List.length_cons, List.length_nil]; omega
      · simp
theorem outL_len (d : Nat) : ∀ (raw : Bool) (l : List S43), (outL d raw l).length ≤ 7 * szL d l := by
  induction d with
  | zero => intro raw l; simp [outL]
  | succ d ih =>
    intro raw l
    simp only [outL, szL]
    induction l with
    | nil => simp [rowS]
    | cons n r ih2 =>
      have := oneS_len (n := n) (fun b => ih b n.f5) raw
      simp only [rowS, szR, List.length_append]
      omega

theorem amongL (l : List ByteArray) (hl : l.length ≤ 1000) (a : ByteArray) (d : Nat) : ∀ (i k : Nat), i + d = l.length → d + 1 ≤ k →
    kind_among.l0 k a l (l.length : Int) (i : Int) = some (decide (bl a ∈ (l.drop i).map bl)) := by
  induction d with
  | zero =>
    intro i k hi hk
    obtain ⟨k, rfl⟩ : ∃ m, k = m + 1 := ⟨k - 1, by omega⟩
    rw [kind_among.l0, if_neg (by omega), List.drop_of_length_le (by omega)]
    rfl
  | succ d ih =>
    intro i k hi hk
    obtain ⟨k, rfl⟩ : ∃ m, k = m + 1 := ⟨k - 1, by omega⟩
    have hlt : i < l.length := by omega
    have w : wrap64 ((i : Int) + 1) = ((i + 1 : Nat) : Int) := wrn (n := i + 1) (by omega)
    have hd : l.drop i = l[i] :: l.drop (i + 1) := List.drop_eq_getElem_cons hlt
    have hr : rdOf ByteArray.empty l (i : Int) = l[i] := by simp [rdOf, hlt]
    have m : bl a ∈ (l.drop i).map bl ↔ bl a = bl l[i] ∨ bl a ∈ (l.drop (i + 1)).map bl := by rw [hd, List.map_cons, List.mem_cons]
    rw [kind_among.l0, if_pos (by omega), if_pos (by omega), if_pos (by omega), w, hr, ih (i + 1) k (by omega) (by omega), decide_eq_decide.2 m]
    have e : (l[i].toList = a.toList) ↔ (bl a = bl l[i]) := by
      constructor
      · intro h; rw [← mkB_bl a, ← mkB_bl l[i], mkB_toList, mkB_toList] at h; exact h.symm
      · intro h; rw [← mkB_bl a, ← mkB_bl l[i], mkB_toList, mkB_toList]; exact h.symm
    by_cases h : bl a = bl l[i]
    · rw [if_pos (e.2 h), decide_eq_true (Or.inl h)]
    · rw [if_neg (fun x => h (e.1 x))]
      congr 1
      simp [h]
theorem among_ok (l : List ByteArray) (hl : l.length ≤ 1000) (a : ByteArray) {k : Nat} (hk : l.length + 1 ≤ k) : kind_among.f k a l = some (decide (bl a ∈ l.map bl)) := by
  have := amongL l hl a l.length 0 k (by omega) hk
  rw [List.drop_zero] at this
  exact this
theorem void_ok (a : ByteArray) {k : Nat} (hk : 20 ≤ k) : kind_Is.f k 1 a = some (decide (bl a ∈ voidW)) := by
  unfold kind_Is.f kind_void.f
  rw [if_pos rfl, among_ok _ (by decide) a (by simp only [List.length_cons, List.length_nil]; omega)]
  rfl
theorem raw_ok (a : ByteArray) {k : Nat} (hk : 20 ≤ k) : kind_Is.f k 2 a = some (decide (bl a ∈ rawW)) := by
  unfold kind_Is.f kind_raw.f
  rw [if_neg (by decide), if_pos rfl, among_ok _ (by decide) a (by simp only [List.length_cons, List.length_nil]; omega)]
  rfl

theorem attrs_ok (l : List S45) (hl : szA l ≤ 1500) : print_Fragment.attrs l = some (mkB (attrsS l)) := by
  induction l with
  | nil => rfl
  | cons a r ih =>
    have h1 := bl_len a.f1
    simp only [szA] at hl
    have he : print_Escape.f a.f1 true = some (mkB (print_Escape.esc true false (bl a.f1))) := escape_ok (bl a.f1) (by omega) true
    rw [print_Fragment.attrs, he, Option.bind_some, ih (by omega), Option.bind_some]
    have e1 : (⟨#[32]⟩ : ByteArray) = mkB [32] := rfl
    have e2 : (⟨#[61, 34]⟩ : ByteArray) = mkB [61, 34] := rfl
    have e3 : (⟨#[34]⟩ : ByteArray) = mkB [34] := rfl
    have e4 : a.f0 = mkB (bl a.f0) := rfl
    rw [e1, e2, e3, e4, mkB_append, mkB_append, mkB_append, mkB_append, mkB_append]
    simp only [attrsS, List.append_assoc, List.cons_append, List.nil_append]
theorem plain_iff (a : ByteArray) : (a.toList == ([112, 108, 97, 105, 110, 116, 101, 120, 116] : List UInt8)) = decide (bl a = plainW) := by
  rw [← mkB_bl a, mkB_toList, bl_mkB]
  by_cases h : bl a = plainW
  · rw [decide_eq_true h, h]; rfl
  · rw [decide_eq_false h]; exact beq_false_of_ne h
theorem one_ok (sub : Bool → List S43 → Option ByteArray) (subS : Bool → List S43 → Bs) (raw : Bool) (n : S43) (h2 : n.f2.size ≤ 1500) (h4 : n.f4.size ≤ 1500) (h3 : szA n.f3 ≤ 1500)
    (hs : ∀ b, sub b n.f5 = some (mkB (subS b n.f5))) {k : Nat} (hk : 20 ≤ k) : print_Fragment.one sub k raw n = some (mkB (oneS subS raw n)) := by
  have l4 := bl_len n.f4
  have he : print_Escape.f n.f4 false = some (mkB (print_Escape.esc false false (bl n.f4))) := escape_ok (bl n.f4) (by omega) false
  have e1 : (⟨#[60, 33, 45, 45]⟩ : ByteArray) = mkB [60, 33, 45, 45] := rfl
  have e2 : (⟨#[45, 45, 62]⟩ : ByteArray) = mkB [45, 45, 62] := rfl
  have e3 : (⟨#[60]⟩ : ByteArray) = mkB [60] := rfl
  have e4 : (⟨#[62]⟩ : ByteArray) = mkB [62] := rfl
  have e5 : (⟨#[60, 47]⟩ : ByteArray) = mkB [60, 47] := rfl
  have e6 : (⟨#[]⟩ : ByteArray) = mkB [] := rfl
  have f2 : n.f2 = mkB (bl n.f2) := rfl
  have f4 : n.f4 = mkB (bl n.f4) := rfl
  unfold print_Fragment.one oneS
  by_cases c2 : n.f0 = 2
  · rw [if_pos c2, if_pos c2]
    cases raw
    · rw [if_neg (by decide), if_neg (by decide), he]
    · rw [if_pos rfl, if_pos rfl, ← f4]
  · rw [if_neg c2, if_neg c2]
    by_cases c3 : n.f0 = 3
    · rw [if_pos c3, if_pos c3, e1, e2, f4, mkB_append, mkB_append, bl_mkB]
    · rw [if_neg c3, if_neg c3]
      by_cases c1 : n.f0 = 1
      · rw [if_pos c1, if_pos c1, attrs_ok _ h3, Option.bind_some]
        by_cases c0 : n.f1 = 0
        · rw [if_pos c0, void_ok _ hk, Option.bind_some]
          by_cases v : bl n.f2 ∈ voidW
          · rw [if_pos (decide_eq_true v), if_pos ⟨c0, v⟩, e3, e4, f2, mkB_append, mkB_append, mkB_append, bl_mkB]
            simp only [List.append_assoc, List.cons_append, List.nil_append]
          · rw [if_neg (by simpa using v), if_neg (fun h => v h.2), raw_ok _ hk, Option.bind_some, plain_iff]
            have hb : (decide (bl n.f2 ∈ rawW) || decide (bl n.f2 = plainW)) = decide (n.f1 = 0 ∧ (bl n.f2 ∈ rawW ∨ bl n.f2 = plainW)) := by simp [c0]
            rw [hb, hs, Option.bind_some, e3, e4, e5, f2]
            simp only [mkB_append, bl_mkB, List.append_assoc, List.cons_append, List.nil_append]
        · rw [if_neg c0, if_neg (fun h => c0 h.1)]
          have hb : decide (n.f1 = 0 ∧ (bl n.f2 ∈ rawW ∨ bl n.f2 = plainW)) = false := by simp [c0]
          rw [hb, hs, Option.bind_some, e3, e4, e5, f2]
          simp only [mkB_append, bl_mkB, List.append_assoc, List.cons_append, List.nil_append]
      · rw [if_neg c1, if_neg c1, e6]
theorem nodes_ok (d : Nat) : ∀ (raw : Bool) (l : List S43) (k : Nat), szL d l < 1500 → szL d l + d + 30 ≤ k → print_Fragment.nodes k raw l = some (mkB (outL d raw l)) := by
  induction d with
  | zero => intro raw l k h _; simp [szL] at h
  | succ d ih =>
    intro raw l
    induction l with
    | nil =>
      intro k h hk
      obtain ⟨k, rfl⟩ : ∃ m, k = m + 1 := ⟨k - 1, by omega⟩
      rfl
    | cons n r ih2 =>
      intro k h hk
      obtain ⟨k, rfl⟩ : ∃ m, k = m + 1 := ⟨k - 1, by omega⟩
      have e : szL (d + 1) (n :: r) = 1 + n.f2.size + n.f4.size + szA n.f3 + szL d n.f5 + szL (d + 1) r := rfl
      have hr : r.length ≤ szL (d + 1) r := szR_len _ _
      rw [e] at h hk
      rw [print_Fragment.nodes, if_pos (by omega), one_ok _ (outL d) raw n (by omega) (by omega) (by omega) (fun b => ih b n.f5 k (by omega) (by omega)) (by omega), Option.bind_some, ih2 k (by omega) (by omega), Option.bind_some, mkB_append]
      rfl
theorem fragment_ok {d : Nat} {l : List S43} {k : Nat} (h : szL d l < 1500) (hk : szL d l + d + 30 ≤ k) : print_Fragment.f k l = some (mkB (outL d false l)) := by
  have := outL_len d false l
  rw [print_Fragment.f, nodes_ok d false l k h hk, Option.bind_some, if_pos (by rw [mkB_size]; omega)]

end Go.Proofs.Ythialihgamlljaa.Pure
