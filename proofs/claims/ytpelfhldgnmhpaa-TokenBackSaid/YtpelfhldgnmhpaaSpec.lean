/- What character references stand for, over lists of bytes: the table, numbers, names, the reference at a place, a text decoded; and the laws of these (no program in sight). No condition. -/
namespace Go.Proofs.Ytpelfhldgnmhpaa.Spec
set_option autoImplicit false
set_option linter.unusedVariables false
set_option linter.unusedSimpArgs false

abbrev Bs := List UInt8

/-- All names: a name, its code, whether it may stand bare. -/
def tab : List (Bs × Nat × Bool) := [([65, 77, 80], 38, true), ([97, 109, 112], 38, true), ([76, 84], 60, true), ([108, 116], 60, true), ([71, 84], 62, true), ([103, 116], 62, true), ([81, 85, 79, 84], 34, true), ([113, 117, 111, 116], 34, true), ([110, 98, 115, 112], 160, true), ([99, 111, 112, 121], 169, true), ([108, 97, 113, 117, 111], 171, true), ([110, 111, 116], 172, true), ([115, 104, 121], 173, true), ([114, 101, 103], 174, true), ([100, 101, 103], 176, true), ([112, 97, 114, 97], 182, true), ([109, 105, 100, 100, 111, 116], 183, true), ([114, 97, 113, 117, 111], 187, true), ([69, 97, 99, 117, 116, 101], 201, true), ([116, 105, 109, 101, 115], 215, true), ([115, 122, 108, 105, 103], 223, true), ([101, 97, 99, 117, 116, 101], 233, true), ([100, 105, 118, 105, 100, 101], 247, true), ([117, 117, 109, 108], 252, true), ([84, 97, 98], 9, false), ([78, 101, 119, 76, 105, 110, 101], 10, false), ([101, 120, 99, 108], 33, false), ([110, 117, 109], 35, false), ([97, 112, 111, 115], 39, false), ([108, 112, 97, 114], 40, false), ([114, 112, 97, 114], 41, false), ([115, 111, 108], 47, false), ([99, 111, 108, 111, 110], 58, false), ([98, 115, 111, 108], 92, false), ([110, 100, 97, 115, 104], 8211, false), ([109, 100, 97, 115, 104], 8212, false), ([108, 115, 113, 117, 111], 8216, false), ([114, 115, 113, 117, 111], 8217, false), ([108, 100, 113, 117, 111], 8220, false), ([114, 100, 113, 117, 111], 8221, false), ([104, 101, 108, 108, 105, 112], 8230, false), ([101, 117, 114, 111], 8364, false), ([116, 114, 97, 100, 101], 8482, false), ([110, 111, 116, 105, 110], 8713, false), ([116, 105, 109, 101, 115, 98], 8864, false)]

/-- The first code of a name in a list; 0: none. -/
def lk : List (Bs × Nat) → Bs → Nat
  | [], _ => 0
  | (n, c) :: r, s => if s = n then c else lk r s

def bareT : List (Bs × Nat) := [([65, 77, 80], 38), ([97, 109, 112], 38), ([76, 84], 60), ([108, 116], 60), ([71, 84], 62), ([103, 116], 62), ([81, 85, 79, 84], 34), ([113, 117, 111, 116], 34), ([110, 98, 115, 112], 160), ([99, 111, 112, 121], 169), ([108, 97, 113, 117, 111], 171), ([110, 111, 116], 172), ([115, 104, 121], 173), ([114, 101, 103], 174), ([100, 101, 103], 176), ([112, 97, 114, 97], 182), ([109, 105, 100, 100, 111, 116], 183), ([114, 97, 113, 117, 111], 187), ([69, 97, 99, 117, 116, 101], 201), ([116, 105, 109, 101, 115], 215), ([115, 122, 108, 105, 103], 223), ([101, 97, 99, 117, 116, 101], 233), ([100, 105, 118, 105, 100, 101], 247), ([117, 117, 109, 108], 252)]
def endedT : List (Bs × Nat) := [([84, 97, 98], 9), ([78, 101, 119, 76, 105, 110, 101], 10), ([101, 120, 99, 108], 33), ([110, 117, 109], 35), ([97, 112, 111, 115], 39), ([108, 112, 97, 114], 40), ([114, 112, 97, 114], 41), ([115, 111, 108], 47), ([99, 111, 108, 111, 110], 58), ([98, 115, 111, 108], 92), ([110, 100, 97, 115, 104], 8211), ([109, 100, 97, 115, 104], 8212), ([108, 115, 113, 117, 111], 8216), ([114, 115, 113, 117, 111], 8217), ([108, 100, 113, 117, 111], 8220), ([114, 100, 113, 117, 111], 8221), ([104, 101, 108, 108, 105, 112], 8230), ([101, 117, 114, 111], 8364), ([116, 114, 97, 100, 101], 8482), ([110, 111, 116, 105, 110], 8713), ([116, 105, 109, 101, 115, 98], 8864)]

/-- What a name stands for, with its point or without; 0: nothing. -/
def named (s : Bs) : Nat :=
  if s.getLast? = some 59 then (if lk bareT s.dropLast = 0 then lk endedT s.dropLast else lk bareT s.dropLast) else lk bareT s

/-- The same, by all entries gone through. -/
def found : List (Bs × Nat × Bool) → Bs → Nat
  | [], _ => 0
  | (n, c, b) :: r, s => if s = n ++ [59] then c else if b = true ∧ s = n then c else found r s

theorem last59 (n : Bs) : (n ++ [59]).getLast? = some 59 := by simp
theorem drop59 (n : Bs) : (n ++ [59]).dropLast = n := by simp
theorem snoc59 {s : Bs} (h : s.getLast? = some 59) : s.dropLast ++ [59] = s := by
  rw [List.getLast?_eq_some_iff] at h
  obtain ⟨t, rfl⟩ := h
  simp

theorem lk_append (A B : List (Bs × Nat)) (h : ∀ x ∈ A, x.2 ≠ 0) (s : Bs) : lk (A ++ B) s = if lk A s = 0 then lk B s else lk A s := by
  induction A with
  | nil => simp [lk]
  | cons x r ih =>
    obtain ⟨n, c⟩ := x
    have hc : c ≠ 0 := h (n, c) (by simp)
    have ih' := ih (fun y hy => h y (by simp [hy]))
    by_cases e : s = n
    · have a1 : lk ((n, c) :: r) s = c := by simp [lk, e]
      have a2 : lk ((n, c) :: r ++ B) s = c := by simp [lk, e]
      rw [a1, a2, if_neg hc]
    · have a1 : lk ((n, c) :: r) s = lk r s := by simp [lk, e]
      have a2 : lk ((n, c) :: r ++ B) s = lk (r ++ B) s := by simp [lk, e]
      rw [a1, a2, ih']

theorem found_point (T : List (Bs × Nat × Bool)) (h : ∀ x ∈ T, x.1.getLast? ≠ some 59) (s : Bs) (hs : s.getLast? = some 59) : found T s = lk (T.map fun x => (x.1, x.2.1)) s.dropLast := by
  induction T with
  | nil => rfl
  | cons x r ih =>
    obtain ⟨n, c, b⟩ := x
    have hn : n.getLast? ≠ some 59 := h (n, c, b) (by simp)
    simp only [found, List.map_cons, lk]
    have e1 : (s = n ++ [59]) ↔ s.dropLast = n := ⟨fun e => by rw [e, drop59], fun e => by rw [← e, snoc59 hs]⟩
    by_cases e : s.dropLast = n
    · rw [if_pos (e1.2 e), if_pos e]
    · rw [if_neg (fun x => e (e1.1 x)), if_neg e, if_neg (fun x => hn (by rw [← x.2]; exact hs))]
      exact ih (fun y hy => h y (by simp [hy]))

theorem found_bare (T : List (Bs × Nat × Bool)) (s : Bs) (hs : s.getLast? ≠ some 59) : found T s = lk ((T.filter fun x => x.2.2).map fun x => (x.1, x.2.1)) s := by
  induction T with
  | nil => rfl
  | cons x r ih =>
    obtain ⟨n, c, b⟩ := x
    simp only [found]
    rw [if_neg (fun e => hs (by rw [e]; exact last59 n))]
    cases b with
    | true => simp [List.filter_cons, lk, ih]
    | false => simp [List.filter_cons, ih]

theorem found_named (s : Bs) : found tab s = named s := by
  unfold named
  by_cases hs : s.getLast? = some 59
  · rw [if_pos hs, found_point tab (by decide) s hs]
    have e : (tab.map fun x => (x.1, x.2.1)) = bareT ++ endedT := by rfl
    rw [e, lk_append bareT endedT (by decide)]
  · rw [if_neg hs, found_bare tab s hs]
    rfl

/-- All texts that stand for something. -/
def all : List (Bs × Nat) := tab.flatMap fun x => (x.1 ++ [59], x.2.1) :: if x.2.2 then [(x.1, x.2.1)] else []

theorem found_all (T : List (Bs × Nat × Bool)) (s : Bs) : found T s = lk (T.flatMap fun x => (x.1 ++ [59], x.2.1) :: if x.2.2 then [(x.1, x.2.1)] else []) s := by
  induction T with
  | nil => rfl
  | cons x r ih =>
    obtain ⟨n, c, b⟩ := x
    simp only [found, List.flatMap_cons]
    cases b <;> simp [lk, ih]

theorem named_all (s : Bs) : named s = lk all s := by rw [← found_named, found_all]; rfl

theorem lk_mem {T : List (Bs × Nat)} {s : Bs} (h : lk T s ≠ 0) : (s, lk T s) ∈ T := by
  induction T with
  | nil => exact absurd rfl h
  | cons x r ih =>
    obtain ⟨n, c⟩ := x
    simp only [lk] at h ⊢
    by_cases e : s = n
    · rw [if_pos e] at h ⊢; simp [e]
    · rw [if_neg e] at h ⊢; simp [ih h]

theorem lk_of_mem {T : List (Bs × Nat)} (hd : (T.map (·.1)).Nodup) {s : Bs} {c : Nat} (h : (s, c) ∈ T) : lk T s = c := by
  induction T with
  | nil => simp at h
  | cons x r ih =>
    obtain ⟨n, d⟩ := x
    simp only [List.map_cons, List.nodup_cons] at hd
    simp only [lk]
    rcases List.mem_cons.1 h with e | e
    · cases e; simp
    · have : s ≠ n := fun hn => hd.1 (by rw [← hn]; exact List.mem_map.2 ⟨(s, c), e, rfl⟩)
      rw [if_neg this]
      exact ih hd.2 e

theorem all_nodup : (all.map (·.1)).Nodup := by decide +kernel
theorem all_code : ∀ x ∈ all, x.2 ≠ 0 := by decide +kernel
theorem all_len : ∀ x ∈ all, 1 ≤ x.1.length ∧ x.1.length ≤ 8 := by decide +kernel
/-- A text that stands for something has no blank, no <, no & but small and great letters, and a point at its end. -/
theorem all_chars : ∀ x ∈ all, ∀ b ∈ x.1, b ≠ 32 ∧ b ≠ 60 ∧ b ≠ 38 ∧ b ≠ 35 := by decide +kernel
theorem all_valid : ∀ x ∈ all, x.2 ≤ 1114111 ∧ (x.2 < 55296 ∨ 57343 < x.2) := by decide +kernel

/-- The longest of some texts that a text begins with: its code and its length; 0: none. -/
def best : List (Bs × Nat) → Bs → Nat × Nat → Nat × Nat
  | [], _, p => p
  | (n, c) :: r, s, p => best r s (if n.isPrefixOf s && decide (p.2 < n.length) then (c, n.length) else p)

theorem best_inv (T D : List (Bs × Nat)) (s : Bs) (p : Nat × Nat) (hp : (p = (0, 0) ∧ ∀ x ∈ D, x.1.length ≠ 0 → ¬ x.1 <+: s) ∨ (p.2 ≠ 0 ∧ (∃ x ∈ D, x.1 <+: s ∧ x = (s.take p.2, p.1) ∧ p.2 ≤ s.length) ∧ ∀ x ∈ D, x.1 <+: s → x.1.length ≤ p.2)) :
    let q := best T s p
    (q = (0, 0) ∧ ∀ x ∈ D ++ T, x.1.length ≠ 0 → ¬ x.1 <+: s) ∨ (q.2 ≠ 0 ∧ (∃ x ∈ D ++ T, x.1 <+: s ∧ x = (s.take q.2, q.1) ∧ q.2 ≤ s.length) ∧ ∀ x ∈ D ++ T, x.1 <+: s → x.1.length ≤ q.2) := by
  induction T generalizing D p with
  | nil => simpa [best] using hp
  | cons y r ih =>
    obtain ⟨n, c⟩ := y
    have e : D ++ (n, c) :: r = (D ++ [(n, c)]) ++ r := by simp
    rw [e]
    simp only [best]
    refine ih (D ++ [(n, c)]) _ ?_
    by_cases hpre : n <+: s
    · have hb : n.isPrefixOf s = true := List.isPrefixOf_iff_prefix.2 hpre
      by_cases hlt : p.2 < n.length
      · rw [hb, decide_eq_true hlt]
        refine .inr ⟨by simp only [Bool.and_self, if_true]; omega, ⟨(n, c), by simp, hpre, ?_, hpre.length_le⟩, ?_⟩
        · simp only [Bool.and_self, if_true]
          rw [← List.prefix_iff_eq_take.1 hpre]
        · intro x hx hxs
          simp only [Bool.and_self, if_true]
          rcases List.mem_append.1 hx with h | h
          · rcases hp with ⟨h1, h2⟩ | ⟨h1, h2, h3⟩
            · rcases Nat.eq_zero_or_pos x.1.length with z | z
              · omega
              · exact absurd hxs (h2 x h (by omega))
            · have := h3 x h hxs; omega
          · rw [List.mem_singleton.1 h]; exact Nat.le_refl _
      · rw [hb, decide_eq_false hlt]
        simp only [Bool.and_false, Bool.false_eq_true, if_false]
        rcases hp with ⟨h1, h2⟩ | ⟨h1, ⟨x, hx, hx2⟩, h3⟩
        · left
          refine ⟨h1, fun x hx h0 => ?_⟩
          rcases List.mem_append.1 hx with h | h
          · exact h2 x h h0
          · rw [List.mem_singleton.1 h] at h0 ⊢
            rw [h1] at hlt; simp at hlt; simp [hlt] at h0
        · right
          refine ⟨h1, ⟨x, by simp [hx], hx2⟩, fun z hz hzs => ?_⟩
          rcases List.mem_append.1 hz with h | h
          · exact h3 z h hzs
          · rw [List.mem_singleton.1 h]; simp only; omega
    · have hb : n.isPrefixOf s = false := by
        rw [Bool.eq_false_iff]; exact fun h => hpre (List.isPrefixOf_iff_prefix.1 h)
      rw [hb]
      simp only [Bool.false_and, Bool.false_eq_true, if_false]
      rcases hp with ⟨h1, h2⟩ | ⟨h1, ⟨x, hx, hx2⟩, h3⟩
      · left
        refine ⟨h1, fun x hx h0 => ?_⟩
        rcases List.mem_append.1 hx with h | h
        · exact h2 x h h0
        · rw [List.mem_singleton.1 h]; exact hpre
      · right
        refine ⟨h1, ⟨x, by simp [hx], hx2⟩, fun z hz hzs => ?_⟩
        rcases List.mem_append.1 hz with h | h
        · exact h3 z h hzs
        · rw [List.mem_singleton.1 h] at hzs; exact absurd hzs hpre

/-- The longest name with which a text begins: its code, its length; 0: none. -/
def longest (s : Bs) : Nat × Nat := best all s (0, 0)

theorem longest_spec (s : Bs) : (longest s = (0, 0) ∧ ∀ j, named (s.take j) = 0) ∨
    ((longest s).2 ≠ 0 ∧ (longest s).2 ≤ s.length ∧ (longest s).2 ≤ 8 ∧ named (s.take (longest s).2) = (longest s).1 ∧ (longest s).1 ≠ 0 ∧ ((s.take (longest s).2), (longest s).1) ∈ all ∧ ∀ j, (longest s).2 < j → j ≤ s.length → named (s.take j) = 0) := by
  have h := best_inv all [] s (0, 0) (.inl ⟨rfl, by simp⟩)
  simp only [List.nil_append] at h
  rcases h with ⟨h1, h2⟩ | ⟨h1, ⟨x, hx, hxs, hxe, hxl⟩, h3⟩
  · left
    refine ⟨h1, fun j => ?_⟩
    rw [named_all]
    rcases Nat.eq_zero_or_pos (lk all (s.take j)) with z | z
    · exact z
    · have hm := lk_mem (T := all) (s := s.take j) (by omega)
      exact absurd (List.take_prefix j s) (h2 _ hm (by have := (all_len _ hm).1; omega))
  · right
    have hm : (s.take (longest s).2, (longest s).1) ∈ all := by rw [hxe] at hx; exact hx
    refine ⟨h1, hxl, ?_, ?_, ?_, hm, ?_⟩
    · have := (all_len _ hm).2
      simp only [List.length_take] at this
      have : (longest s).2 ≤ s.length := hxl
      omega
    · rw [named_all]; exact lk_of_mem all_nodup hm
    · exact all_code _ hm
    · intro j hj hjl
      rw [named_all]
      rcases Nat.eq_zero_or_pos (lk all (s.take j)) with z | z
      · exact z
      · have hmj := lk_mem (T := all) (s := s.take j) (by omega)
        have := h3 _ hmj (List.take_prefix j s)
        simp only [List.length_take] at this
        have h9 : (longest s).2 = (best all s (0, 0)).2 := rfl
        omega

/-- A hexadecimal digit's value. -/
def hexv (c : UInt8) : Option Nat :=
  if 48 ≤ c.toNat ∧ c.toNat ≤ 57 then some (c.toNat - 48) else if 97 ≤ c.toNat ∧ c.toNat ≤ 102 then some (c.toNat - 87) else if 65 ≤ c.toNat ∧ c.toNat ≤ 70 then some (c.toNat - 55) else none
/-- A digit's value by a base. -/
def digv (base : Nat) (c : UInt8) : Option Nat := (hexv c).bind fun d => if d < base then some d else none
/-- A number's digits: the value, never above 1114112, and how many there are. -/
def num (base : Nat) : Bs → Nat → Nat × Nat
  | [], n => (n, 0)
  | c :: r, n => match digv base c with
    | none => (n, 0)
    | some d => ((num base r (min (n * base + d) 1114112)).1, (num base r (min (n * base + d) 1114112)).2 + 1)

def oldT : List Nat := [8364, 129, 8218, 402, 8222, 8230, 8224, 8225, 710, 8240, 352, 8249, 338, 141, 381, 143, 144, 8216, 8217, 8220, 8221, 8226, 8211, 8212, 732, 8482, 353, 8250, 339, 157, 382, 376]

/-- The code point of a number. -/
def point (n : Nat) : Nat := if n = 0 ∨ 1114111 < n ∨ (55296 ≤ n ∧ n ≤ 57343) then 65533 else if 128 ≤ n ∧ n < 160 then oldT.getD (n - 128) 0 else n

def hexed (s : Bs) : Bool := s.head? == some 120 || s.head? == some 88
/-- A reference by number, behind its sign: the number, and how many bytes it has there. -/
def byNum (s : Bs) : Option (Nat × Nat) :=
  let i := if hexed s then 1 else 0
  let p := num (if hexed s then 16 else 10) (s.drop i) 0
  if p.2 = 0 then none else some (p.1, i + p.2 + if (s.drop (i + p.2)).head? = some 59 then 1 else 0)

def utf8 (n : Nat) : Bs :=
  if n < 0x80 then [UInt8.ofNat n]
  else if n < 0x800 then [UInt8.ofNat (0xC0 + n / 64), UInt8.ofNat (0x80 + n % 64)]
  else if n < 0x10000 then [UInt8.ofNat (0xE0 + n / 4096), UInt8.ofNat (0x80 + n / 64 % 64), UInt8.ofNat (0x80 + n % 64)]
  else [UInt8.ofNat (0xF0 + n / 262144), UInt8.ofNat (0x80 + n / 4096 % 64), UInt8.ofNat (0x80 + n / 64 % 64), UInt8.ofNat (0x80 + n % 64)]

theorem utf8_ne (n : Nat) : utf8 n ≠ [] := by unfold utf8; (repeat' split) <;> simp
theorem utf8_len (n : Nat) : (utf8 n).length ≤ 4 := by unfold utf8; (repeat' split) <;> simp

def letter (c : UInt8) : Bool := (65 ≤ c.toNat && c.toNat ≤ 90) || (97 ≤ c.toNat && c.toNat ≤ 122)
def figure (c : UInt8) : Bool := 48 ≤ c.toNat && c.toNat ≤ 57
/-- Does a name without a point stay a text in an attribute, behind which this stands? -/
def stays : Bs → Bool
  | [] => false
  | c :: _ => c == 61 || letter c || figure c

/-- What a reference stands for behind its &, and how many bytes it has with its &. -/
def ref (attr : Bool) (r : Bs) : Bs × Nat :=
  if r.head? = some 35 then (match byNum (r.drop 1) with | none => ([38], 1) | some p => (utf8 (point p.1), p.2 + 2))
  else if (longest r).2 = 0 then ([38], 1)
  else if attr = true ∧ r.getD ((longest r).2 - 1) 0 ≠ 59 ∧ stays (r.drop (longest r).2) = true then ([38], 1)
  else (utf8 (longest r).1, (longest r).2 + 1)

/-- What stands at a place. -/
def at' (s : Bs) (i : Nat) (attr : Bool) : Bs × Nat := if s.getD i 0 = 38 ∧ i < s.length then ref attr (s.drop (i + 1)) else ([], 0)

def dec (attr : Bool) (s : Bs) : Bs :=
  match s with
  | [] => []
  | c :: r => if c = 38 then (ref attr r).1 ++ dec attr (r.drop ((ref attr r).2 - 1)) else c :: dec attr r
termination_by s.length
decreasing_by all_goals (simp; try omega)

theorem num_len (base : Nat) (s : Bs) (n : Nat) : (num base s n).2 ≤ s.length := by
  induction s generalizing n with
  | nil => simp [num]
  | cons c r ih =>
    simp only [num]
    cases digv base c with
    | none => simp
    | some d => have := ih (min (n * base + d) 1114112); simp; omega
theorem num_max (base : Nat) (s : Bs) (n : Nat) (h : n ≤ 1114112) : (num base s n).1 ≤ 1114112 := by
  induction s generalizing n with
  | nil => simpa [num] using h
  | cons c r ih =>
    simp only [num]
    cases digv base c with
    | none => simpa using h
    | some d => exact ih _ (Nat.min_le_right _ _)

theorem hexed_len {s : Bs} (h : hexed s = true) : 1 ≤ s.length := by cases s with
  | nil => simp [hexed] at h
  | cons c r => simp

theorem byNum_len {s : Bs} {p : Nat × Nat} (h : byNum s = some p) : 1 ≤ p.2 ∧ p.2 ≤ s.length := by
  unfold byNum at h
  simp only at h
  have h2 : (if hexed s = true then 1 else 0) ≤ s.length := by
    split
    · exact hexed_len (by assumption)
    · omega
  generalize (if hexed s = true then 1 else 0) = i at h h2
  generalize (if hexed s = true then 16 else 10) = b at h
  have h1 := num_len b (s.drop i) 0
  generalize num b (s.drop i) 0 = q at h h1
  simp only [List.length_drop] at h1
  by_cases hz : q.2 = 0
  · rw [if_pos hz] at h; cases h
  · rw [if_neg hz] at h
    obtain rfl := Option.some.inj h
    simp only
    refine ⟨by omega, ?_⟩
    by_cases h3 : (s.drop (i + q.2)).head? = some 59
    · rw [if_pos h3]
      have : 0 < (s.drop (i + q.2)).length := by
        cases hh : s.drop (i + q.2) with
        | nil => rw [hh] at h3; simp at h3
        | cons _ _ => simp
      simp only [List.length_drop] at this
      omega
    · rw [if_neg h3]; omega

theorem ref_len (attr : Bool) (r : Bs) : 1 ≤ (ref attr r).2 ∧ (ref attr r).2 ≤ r.length + 1 ∧ (ref attr r).1 ≠ [] := by
  unfold ref
  split
  · rename_i h
    have h0 : 1 ≤ r.length := by cases r with
      | nil => simp at h
      | cons _ _ => simp
    split
    · simp
    · rename_i p hp
      have := byNum_len hp
      simp only [List.length_drop] at this
      exact ⟨by simp, by simp; omega, utf8_ne _⟩
  · split
    · simp
    · rename_i hz
      split
      · simp
      · rcases longest_spec r with ⟨h, _⟩ | ⟨_, h, _⟩
        · rw [h] at hz; simp at hz
        · exact ⟨by simp, by simp; omega, utf8_ne _⟩

theorem dec_nil (attr : Bool) : dec attr [] = [] := by rw [dec]
theorem dec_cons (attr : Bool) (c : UInt8) (r : Bs) : dec attr (c :: r) = if c = 38 then (ref attr r).1 ++ dec attr (r.drop ((ref attr r).2 - 1)) else c :: dec attr r := by rw [dec]
theorem dec_amp (attr : Bool) (r : Bs) : dec attr (38 :: r) = (ref attr r).1 ++ dec attr (r.drop ((ref attr r).2 - 1)) := by rw [dec_cons, if_pos rfl]
theorem dec_other (attr : Bool) (c : UInt8) (r : Bs) (h : c ≠ 38) : dec attr (c :: r) = c :: dec attr r := by rw [dec_cons, if_neg h]
theorem dec_plain (attr : Bool) (p r : Bs) (h : (38 : UInt8) ∉ p) : dec attr (p ++ r) = p ++ dec attr r := by
  induction p with
  | nil => rfl
  | cons c p ih =>
    simp only [List.mem_cons, not_or] at h
    rw [List.cons_append, dec_other attr c _ (fun e => h.1 e.symm), ih h.2]; rfl

end Go.Proofs.Ytpelfhldgnmhpaa.Spec
