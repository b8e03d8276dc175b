/- Texts as lists of bytes. No condition. -/
import Derived.Test.YtpelfhldgnmhpaaSpec
import Derived.Test.YtpelfhldgnmhpaaGA
import Derived.Test.YtpelfhldgnmhpaaGC
namespace Go.Proofs.Ytpelfhldgnmhpaa.Pure
section
open Go.RowKit Go.Proofs.Ytpelfhldgnmhpaa.G Go.Proofs.YtpelfhldgnmhpaaW.PrintWords Go.Proofs.YtpelfhldgnmhpaaW.PrintLast Go.Proofs.YtpelfhldgnmhpaaW.PrintMore
open Go.Proofs.Ytpelfhldgnmhpaa.Spec
set_option autoImplicit false
set_option linter.unusedVariables false
set_option linter.unusedSimpArgs false
/-! #### texts as lists -/
def mkB (l : Bs) : ByteArray := ⟨l.toArray⟩
theorem mkB_of (a : ByteArray) : ∃ l, a = mkB l ∧ l.length = a.size := ⟨a.data.toList, by simp [mkB], by simp⟩
theorem mkB_size (l : Bs) : (mkB l).size = l.length := by simp [mkB, ByteArray.size]
theorem mkB_toList (l : Bs) : (mkB l).toList = l := by rw [ByteArray.toList_eq]; simp [mkB]
theorem mkB_data (l : Bs) : (mkB l).data.toList = l := by simp [mkB]
theorem mkB_inj {l m : Bs} : mkB l = mkB m ↔ l = m := ⟨fun h => by rw [← mkB_data l, h, mkB_data], fun h => by rw [h]⟩
theorem mkB_append (l m : Bs) : mkB l ++ mkB m = mkB (l ++ m) := Go.WideShapes.bytes_inj (by simp [mkB])
theorem mkB_extract (l : Bs) (i j : Nat) : (mkB l).extract i j = mkB ((l.take j).drop i) := Go.WideShapes.bytes_inj (by
  rw [mkB_data, ByteArray.data_extract, Array.toList_extract, List.extract_eq_take_drop, mkB_data]
  rw [List.drop_take])
theorem mkB_lit (a : Array UInt8) : (⟨a⟩ : ByteArray) = mkB a.toList := by simp [mkB]
theorem mkB_bt (l : Bs) (i : Nat) : bt (mkB l) (i : Int) = ((l.getD i 0).toNat : Int) := by
 unfold bt
 simp only [Int.toNat_natCast, mkB_size]
 by_cases h : i < l.length
 ·
  rw [dif_pos h]
  have : (mkB l)[i]'(by rw [mkB_size]; exact h) = l[i] := by simp [mkB, ByteArray.getElem_eq_getElem_data]
  rw [this]; simp [List.getD, h]
 ·
  rw [dif_neg h]; simp [List.getD, h]
theorem wr {n : Int} (h0 : -9223372036854775808 ≤ n) (h1 : n ≤ 9223372036854775807) : wrap64 n = n := by unfold wrap64; omega
theorem wrn {n : Nat} (h : n ≤ 1000000000000) : wrap64 (n : Int) = (n : Int) := by unfold wrap64; omega
theorem by8 {n : Nat} (h : n < 256) : (n : Int) % 256 = (n : Int) := by omega
/-! #### bytes -/
theorem figure_ok (c : UInt8) : kind_Figure.f (c.toNat : Int) = some (figure c) := by
 have : ∀ n : Fin 256, kind_Figure.f ((UInt8.ofNat n.val).toNat : Int) = some (figure (UInt8.ofNat n.val)) := by decide +kernel
 have h := this ⟨c.toNat, c.toNat_lt⟩
 simpa using h
theorem letter_ok (c : UInt8) : kind_Letter.f (c.toNat : Int) = some (letter c) := by
 have : ∀ n : Fin 256, kind_Letter.f ((UInt8.ofNat n.val).toNat : Int) = some (letter (UInt8.ofNat n.val)) := by decide +kernel
 have h := this ⟨c.toNat, c.toNat_lt⟩
 simpa using h
/-- hex: a digit's value, if it is one. -/
theorem hex_ok (c : UInt8) : ∃ d : Int, charref_hex.f (c.toNat : Int) = some (d, (hexv c).isSome) ∧ ∀ v, hexv c = some v → d = v := by
 have : ∀ n : Fin 256, (charref_hex.f ((UInt8.ofNat n.val).toNat : Int)).map (fun p => (p.2 == (hexv (UInt8.ofNat n.val)).isSome) && (match hexv (UInt8.ofNat n.val) with | some v => p.1 == (v : Int) | none => true)) = some true := by decide +kernel
 have h := this ⟨c.toNat, c.toNat_lt⟩
 simp only [UInt8.ofNat_toNat] at h
 obtain ⟨p, hp, h2⟩ := Option.map_eq_some_iff.1 h
 simp only [Bool.and_eq_true, beq_iff_eq] at h2
 refine ⟨p.1, by rw [hp, ← h2.1], fun v hv => ?_⟩
 have := h2.2
 rw [hv] at this
 simpa using this
/-! #### code points -/
theorem encode_utf8 (n : Nat) (h : n ≤ 1114111) (hs : n < 55296 ∨ 57343 < n) : Utf8.encode (n : Int) = mkB (utf8 n) := by
 have hv : Utf8.valid (n : Int) = true := by
  unfold Utf8.valid
  simp only [Bool.or_eq_true, Bool.and_eq_true, decide_eq_true_eq]
  omega
 unfold Utf8.encode utf8
 simp only [hv, if_true, Int.toNat_natCast]
 by_cases c1 : n < 128
 ·
  rw [if_pos c1, if_pos c1]; rfl
 ·
  rw [if_neg c1, if_neg c1]
  by_cases c2 : n < 2048
  ·
   rw [if_pos c2, if_pos c2]; rfl
  ·
   rw [if_neg c2, if_neg c2]
   by_cases c3 : n < 65536
   ·
    rw [if_pos c3, if_pos c3]; rfl
   ·
    rw [if_neg c3, if_neg c3]; rfl
theorem tdivn (n m : Nat) : Int.tdiv (n : Int) (m : Int) = ((n / m : Nat) : Int) := by rw [Int.tdiv_eq_ediv_of_nonneg (by omega)]; rfl
theorem tmodn (n m : Nat) : Int.tmod (n : Int) (m : Int) = ((n % m : Nat) : Int) := by rw [Int.tmod_eq_emod_of_nonneg (by omega)]; rfl
/-- a byte of a code point's text, as the program computes it -/
theorem byte1 (a m : Nat) (h : a + m < 256) : wrap64 ((a : Int) + (m : Int)) % 256 = ((a + m : Nat) : Int) := by
 rw [← Int.natCast_add, wrn (by omega), by8 h]
theorem byte_mod (n : Nat) : wrap64 (128 + Int.tmod (n : Int) 64) % 256 = ((128 + n % 64 : Nat) : Int) := by
 rw [show (64 : Int) = ((64 : Nat) : Int) from rfl, tmodn]
 exact byte1 128 (n % 64) (by omega)
theorem byte_div (a n : Nat) (m : Nat) (hn : n ≤ 1114111) (h : a + n / m < 256) : wrap64 ((a : Int) + wrap64 (Int.tdiv (n : Int) (m : Int))) % 256 = ((a + n / m : Nat) : Int) := by
 rw [tdivn, wrn (by have := Nat.div_le_self n m; omega)]
 exact byte1 a (n / m) h
theorem byte_divmod (n m : Nat) (hn : n ≤ 1114111) : wrap64 (128 + Int.tmod (wrap64 (Int.tdiv (n : Int) (m : Int))) 64) % 256 = ((128 + n / m % 64 : Nat) : Int) := by
 rw [tdivn, wrn (by have := Nat.div_le_self n m; omega)]
 exact byte_mod (n / m)
theorem old_codes : ∀ j, j < 32 → oldT.getD j 0 ≤ 1114111 ∧ (oldT.getD j 0 < 55296 ∨ 57343 < oldT.getD j 0) := by decide
theorem old_tab : charref_Number.tab = oldT.map (fun n => Int.ofNat n) := by rfl
theorem old_getD (j : Nat) (h : j < 32) : charref_Number.tab.getD j 0 = (oldT.getD j 0 : Int) := by
 have : ∀ j : Fin 32, charref_Number.tab.getD j.val 0 = (oldT.getD j.val 0 : Int) := by decide
 exact this ⟨j, h⟩
/-- A number that is none below 0 counts as 0. -/
theorem number_ok (n : Int) : charref_Number.f n = some (mkB (utf8 (point n.toNat))) := by
 unfold charref_Number.f point
 by_cases c : n ≤ 0 ∨ 1114111 < n ∨ (55296 ≤ n ∧ n ≤ 57343)
 ·
  have c' : n.toNat = 0 ∨ 1114111 < n.toNat ∨ (55296 ≤ n.toNat ∧ n.toNat ≤ 57343) := by omega
  rw [if_pos c, if_pos c']; rfl
 ·
  have c' : ¬ (n.toNat = 0 ∨ 1114111 < n.toNat ∨ (55296 ≤ n.toNat ∧ n.toNat ≤ 57343)) := by omega
  rw [if_neg c, if_neg c']
  by_cases d : 128 ≤ n ∧ n < 160
  ·
   have d' : 128 ≤ n.toNat ∧ n.toNat < 160 := by omega
   rw [if_pos d, if_pos d']
   have e : (n - 128).toNat = n.toNat - 128 := by omega
   rw [e, old_getD _ (by omega)]
   have := old_codes (n.toNat - 128) (by omega)
   rw [encode_utf8 _ this.1 this.2]
  ·
   have d' : ¬ (128 ≤ n.toNat ∧ n.toNat < 160) := by omega
   rw [if_neg d, if_neg d']
   have e : n = (n.toNat : Int) := by omega
   conv => lhs; rw [e]
   rw [encode_utf8 _ (by omega) (by omega)]
/-! #### names -/
theorem cutSuffix_ok (l : Bs) (h : l.length ≤ 1000000000) : strings_CutSuffix.f (mkB l) ⟨#[59]⟩ = some (if l.getLast? = some 59 then (mkB l.dropLast, true) else (mkB l, false)) := by
 unfold strings_CutSuffix.f stringslite_CutSuffix.f stringslite_HasSuffix.f
 rw [mkB_lit]
 simp only [mkB_size, List.length_cons, List.length_nil, mkB_toList]
 rcases List.eq_nil_or_concat l with rfl | ⟨t, c, rfl⟩
 ·
  simp [mkB]
 ·
  rw [List.concat_eq_append] at h ⊢
  have w : wrap64 (((t ++ [c]).length : Int) - ((0 + 1 : Nat) : Int)) = (t.length : Int) := by
   have e : (t ++ [c]).length = t.length + 1 := by simp
   rw [e] at h ⊢
   rw [wr (by omega) (by omega)]; omega
  rw [if_pos (by simp <;> omega), w, if_pos (by omega), if_pos (by simp <;> omega), Int.toNat_natCast, mkB_extract, mkB_toList, List.take_of_length_le (Nat.le_refl _)]
  simp only [List.drop_left, Option.bind_some]
  by_cases hc : c = 59
  ·
   subst hc
   simp only [List.getLast?_append, List.getLast?_singleton, Option.some_or, if_true]
   simp only [beq_self_eq_true, if_true]
   rw [if_pos (by omega), if_pos (by simp <;> omega), mkB_extract]
   simp [List.dropLast_concat]
  ·
   have : ([c] == [(59 : UInt8)]) = false := by simpa using hc
   simp only [this, Bool.false_eq_true, if_false]
   simp [hc]
theorem lk_some (n : Bs) (c : Nat) (r : List (Bs × Nat)) (s : Bs) : some ((lk ((n, c) :: r) s : Nat) : Int) = if s = n then some ((c : Nat) : Int) else some ((lk r s : Nat) : Int) := by
 simp only [lk]; split <;> rfl
theorem lk_none (s : Bs) : some ((lk [] s : Nat) : Int) = some 0 := rfl
theorem bare_ok (l : Bs) {k : Nat} (hk : 5 ≤ k) : charref_bare.f k (mkB l) = some ((lk bareT l : Nat) : Int) := by
 obtain ⟨k, rfl⟩ : ∃ m, k = m + 5 := ⟨k - 5, by omega⟩
 unfold charref_bare.f
 simp only [mkB_toList, charref_bare.j0, charref_bare.j1, charref_bare.j2, charref_bare.j3, bareT, lk_some, lk_none, beq_iff_eq, if_true]
 rfl
theorem ended_ok (l : Bs) : charref_ended.f (mkB l) = some ((lk endedT l : Nat) : Int) := by
 unfold charref_ended.f
 simp only [mkB_toList, endedT, lk_some, lk_none]
 rfl
theorem named_code (l : Bs) (h : named l ≠ 0) : named l ≤ 1114111 ∧ (named l < 55296 ∨ 57343 < named l) := by
 rw [named_all] at h ⊢
 exact all_valid _ (lk_mem h)
theorem named_ok (l : Bs) (h : l.length ≤ 1000000000) {k : Nat} (hk : 6 ≤ k) : charref_Named.f k (mkB l) = some (if named l = 0 then (mkB [], false) else (mkB (utf8 (named l)), true)) := by
 have hcode := named_code l
 obtain ⟨k, rfl⟩ : ∃ m, k = m + 1 := ⟨k - 1, by omega⟩
 unfold charref_Named.f
 rw [cutSuffix_ok l h]
 unfold named at hcode ⊢
 by_cases hs : l.getLast? = some 59
 ·
  simp only [hs, if_true, Option.bind_some] at hcode ⊢
  rw [bare_ok _ (by omega)]
  simp only [Option.bind_some]
  by_cases hb : lk bareT l.dropLast = 0
  ·
   simp only [hb, if_true] at hcode ⊢
   rw [if_pos (by simp)]
   simp only [charref_Named.j0, if_true]
   rw [ended_ok]
   simp only [Option.bind_some]
   by_cases he : lk endedT l.dropLast = 0
   ·
    simp [he]; rfl
   ·
    rw [if_neg (by omega), if_neg he, encode_utf8 _ (hcode he).1 (hcode he).2]
  ·
   simp only [hb, if_false] at hcode ⊢
   rw [if_neg (by omega)]
   simp only [charref_Named.j0, Bool.false_eq_true, if_false]
   rw [if_neg (by omega), encode_utf8 _ (hcode hb).1 (hcode hb).2]
 ·
  simp only [hs, if_false, Option.bind_some] at hcode ⊢
  rw [bare_ok _ (by omega)]
  simp only [Option.bind_some]
  by_cases hb : lk bareT l = 0
  ·
   rw [hb, if_pos (show ((0 : Nat) : Int) = 0 from rfl)]
   simp only [charref_Named.j0, Bool.false_eq_true, if_false, if_true]
   rw [if_pos (show ((0 : Nat) : Int) = 0 from rfl)]; rfl
  ·
   rw [if_neg (by omega), if_neg hb]
   simp only [charref_Named.j0, Bool.false_eq_true, if_false]
   rw [if_neg (by omega), encode_utf8 _ (hcode hb).1 (hcode hb).2]
/-! #### references by number -/
theorem byNumber_j3 (l : Bs) (hl : l.length ≤ 1000000) (i : Nat) (hi : i ≤ l.length) (v : Nat) (fr : Nat) {k : Nat} (hk : 1 ≤ k) :
    charref_byNumber.j3 k (mkB l) (i : Int) (v : Int) (fr : Int) = some (if i = fr then (mkB [], 0) else (mkB (utf8 (point v)), ((i + if (l.drop i).head? = some 59 then 1 else 0 : Nat) : Int))) := by
 obtain ⟨k, rfl⟩ : ∃ m, k = m + 1 := ⟨k - 1, by omega⟩
 simp only [charref_byNumber.j3]
 by_cases e : i = fr
 ·
  rw [if_pos (by omega), if_pos e]; rfl
 ·
  rw [if_neg (by omega), if_neg e, if_pos (by omega), if_pos (by rw [mkB_size]; omega), number_ok]
  rw [Int.toNat_natCast, mkB_extract, mkB_size, List.take_of_length_le (Nat.le_refl _)]
  have hp : strings_HasPrefix.f (mkB (l.drop i)) ⟨#[59]⟩ = some (decide ((l.drop i).head? = some 59)) := by
   unfold strings_HasPrefix.f stringslite_HasPrefix.f
   rw [mkB_lit]
   simp only [mkB_size, mkB_extract, mkB_toList]
   cases hd : l.drop i with
   | nil => simp
   | cons c r =>
    rw [if_pos (by simp <;> omega), if_pos (by simp), if_pos (by simp <;> omega)]
    by_cases hc : c = 59 <;> simp [hc]
  rw [hp]
  simp only [Option.bind_some, Int.toNat_natCast]
  by_cases h59 : (l.drop i).head? = some 59
  ·
   rw [if_pos (by simpa using h59), if_pos h59, wr (by omega) (by omega)]; rfl
  ·
   rw [if_neg (by simpa using h59), if_neg h59]; simp
theorem byNumber_l0 (l : Bs) (hl : l.length ≤ 1000000) (base : Nat) (hb : base = 10 ∨ base = 16) (fr : Nat) (d : Nat) : ∀ (i k v : Nat), i + d = l.length → d + 1 < k → v ≤ 1114112 →
    charref_byNumber.l0 k (mkB l) (i : Int) (base : Int) (v : Int) (fr : Int) = charref_byNumber.j3 1 (mkB l) ((i + (num base (l.drop i) v).2 : Nat) : Int) (((num base (l.drop i) v).1 : Nat) : Int) (fr : Int) := by
 induction d with
 | zero =>
  intro i k v hi hk hv
  obtain ⟨k, rfl⟩ : ∃ m, k = m + 1 := ⟨k - 1, by omega⟩
  rw [List.drop_of_length_le (by omega)]
  simp only [charref_byNumber.l0, num, Nat.add_zero]
  rw [if_neg (by rw [mkB_size]; omega), byNumber_j3 l hl i (by omega) _ _ (by omega), byNumber_j3 l hl i (by omega) _ _ (by omega)]
 | succ d ih =>
  intro i k v hi hk hv
  obtain ⟨k, rfl⟩ : ∃ m, k = m + 1 := ⟨k - 1, by omega⟩
  have hil : i < l.length := by omega
  rw [List.drop_eq_getElem_cons hil]
  have hg : l.getD i 0 = l[i] := by simp [List.getD, hil]
  simp only [charref_byNumber.l0]
  rw [if_pos (by rw [mkB_size]; omega), if_pos (by omega), mkB_bt, hg]
  obtain ⟨x, hx, hx2⟩ := hex_ok l[i]
  rw [hx]
  simp only [Option.bind_some, num]
  have stop : charref_byNumber.j3 k (mkB l) (i : Int) (v : Int) (fr : Int) = charref_byNumber.j3 1 (mkB l) ((i + (v, 0).2 : Nat) : Int) (((v, 0).1 : Nat) : Int) (fr : Int) := by
   rw [byNumber_j3 l hl i (by omega) _ _ (by omega)]; exact (byNumber_j3 l hl i (by omega) v fr (Nat.le_refl _)).symm
  unfold digv
  cases hv2 : hexv l[i] with
  | none => simp only [Option.isSome_none, Bool.false_eq_true, if_false, Option.bind_none]; exact stop
  | some dv =>
   obtain rfl := hx2 dv hv2
   simp only [Option.isSome_some, if_true, Option.bind_some]
   by_cases hlt : dv < base
   ·
    rw [if_neg (by omega)]
    simp only [hlt, if_true]
    have hd16 : dv < 16 := by omega
    have hvb : v * base ≤ 17825792 := by rcases hb with rfl | rfl <;> omega
    have w1 : wrap64 ((v : Int) * (base : Int)) = ((v * base : Nat) : Int) := by rw [← Int.natCast_mul, wr (by omega) (by omega)]
    have w2 : wrap64 (((v * base : Nat) : Int) + (dv : Int)) = ((v * base + dv : Nat) : Int) := by rw [wr (by omega) (by omega)]; omega
    have w3 : mn ((v * base + dv : Nat) : Int) 1114112 = ((min (v * base + dv) 1114112 : Nat) : Int) := by unfold mn; split <;> omega
    have w4 : wrap64 ((i : Int) + 1) = ((i + 1 : Nat) : Int) := by rw [wr (by omega) (by omega)]; omega
    rw [w1, w2, w3, w4, ih (i + 1) k _ (by omega) (by omega) (Nat.min_le_right _ _)]
    have e : i + 1 + (num base (l.drop (i + 1)) (min (v * base + dv) 1114112)).2 = i + ((num base (l.drop (i + 1)) (min (v * base + dv) 1114112)).2 + 1) := by omega
    rw [e]
   ·
    rw [if_pos (by omega)]
    simp only [hlt, if_false]
    exact stop
theorem or32_x (c : UInt8) : (Go.bits .or .u8 (c.toNat : Int) 32 == 120) = (c == 120 || c == 88) := by
 have : ∀ n : Fin 256, (Go.bits .or .u8 ((UInt8.ofNat n.val).toNat : Int) 32 == 120) = (UInt8.ofNat n.val == 120 || UInt8.ofNat n.val == 88) := by decide +kernel
 have h := this ⟨c.toNat, c.toNat_lt⟩
 simpa using h
theorem byNumber_ok (l : Bs) (hl : l.length ≤ 1000000) (k : Nat) (hk : l.length + 5 ≤ k) :
    charref_byNumber.f k (mkB l) = some (match byNum l with | none => (mkB [], 0) | some p => (mkB (utf8 (point p.1)), (p.2 : Int))) := by
 obtain ⟨k, rfl⟩ : ∃ m, k = m + 2 := ⟨k - 2, by omega⟩
 have step : charref_byNumber.f (k + 2) (mkB l) = charref_byNumber.l0 k (mkB l) ((if hexed l then 1 else 0 : Nat) : Int) ((if hexed l then 16 else 10 : Nat) : Int) 0 ((if hexed l then 1 else 0 : Nat) : Int) := by
  unfold charref_byNumber.f
  rw [mkB_toList]
  cases l with
  | nil => simp [charref_byNumber.j0, charref_byNumber.j1, hexed]
  | cons c r =>
   rw [if_neg (by simp), if_pos (by rw [mkB_size]; simp)]
   have e := mkB_bt (c :: r) 0
   simp only [List.getD_cons_zero] at e
   have e' : bt (mkB (c :: r)) 0 = (c.toNat : Int) := e
   rw [e', or32_x]
   have hx : hexed (c :: r) = (c == 120 || c == 88) := by simp [hexed]
   rw [hx]
   simp only [charref_byNumber.j0, charref_byNumber.j1]
   cases (c == 120 || c == 88) <;> simp
 rw [step]
 have hi : (if hexed l then 1 else 0 : Nat) ≤ l.length := by
  split
  ·
   exact hexed_len (by assumption)
  ·
   omega
 have hb : (if hexed l then 16 else 10 : Nat) = 10 ∨ (if hexed l then 16 else 10 : Nat) = 16 := by split <;> simp
 have h0 := byNumber_l0 l hl (if hexed l then 16 else 10) hb (if hexed l then 1 else 0) (l.length - (if hexed l then 1 else 0)) (if hexed l then 1 else 0) k 0 (by omega) (by omega) (by omega)
 have hn := num_len (if hexed l then 16 else 10) (l.drop (if hexed l then 1 else 0)) 0
 simp only [List.length_drop] at hn
 refine (show _ = _ from h0).trans ?_
 rw [byNumber_j3 l hl _ (by omega) _ _ (Nat.le_refl _)]
 unfold byNum
 simp only
 generalize (if hexed l = true then 1 else 0) = i at *
 generalize num (if hexed l = true then 16 else 10) (l.drop i) 0 = p at *
 by_cases e : p.2 = 0
 ·
  rw [if_pos (by omega), if_pos e]
 ·
  rw [if_neg (by omega), if_neg e]
/-! #### the longest name -/
theorem byName_l0 (l : Bs) (hl : l.length ≤ 1000000) (j : Nat) : ∀ (k : Nat), j ≤ l.length → (longest l).2 ≤ j → j + 7 ≤ k →
    charref_byName.l0 k (mkB l) (j : Int) = some (if (longest l).2 = 0 then (mkB [], 0) else (mkB (utf8 (longest l).1), (((longest l).2 : Nat) : Int))) := by
 have hs := longest_spec l
 generalize longest l = p at *
 induction j with
 | zero =>
  intro k hj hp hk
  obtain ⟨k, rfl⟩ : ∃ m, k = m + 1 := ⟨k - 1, by omega⟩
  simp only [charref_byName.l0]
  rw [if_neg (by omega), if_pos (by omega)]; rfl
 | succ j ih =>
  intro k hj hp hk
  obtain ⟨k, rfl⟩ : ∃ m, k = m + 1 := ⟨k - 1, by omega⟩
  simp only [charref_byName.l0]
  rw [if_pos (by omega), if_pos (by omega), if_pos (by rw [mkB_size]; omega), mkB_extract, Int.toNat_natCast, List.drop_zero, named_ok (l.take (j + 1)) (by simp; omega) (by omega), Option.bind_some]
  have w : wrap64 (((j + 1 : Nat) : Int) - 1) = (j : Int) := by rw [wr (by omega) (by omega)]; omega
  by_cases e : p.2 = j + 1
  ·
   rcases hs with ⟨h1, _⟩ | ⟨h1, _, _, h4, h5, _, _⟩
   ·
    rw [h1] at e; simp at e
   ·
    rw [← e, h4, if_neg h5, if_neg h1]
    simp only [if_true]
  ·
   have hz : named (l.take (j + 1)) = 0 := by
    rcases hs with ⟨_, h2⟩ | ⟨_, _, _, _, _, _, h7⟩
    ·
     exact h2 _
    ·
     exact h7 _ (by omega) hj
   rw [hz]
   simp only [if_true, Bool.false_eq_true, if_false]
   rw [w]
   exact ih k (by omega) (by omega) (by omega)
theorem byName_ok (l : Bs) (hl : l.length ≤ 1000000) {k : Nat} (hk : 16 ≤ k) :
    charref_byName.f k (mkB l) = some (if (longest l).2 = 0 then (mkB [], 0) else (mkB (utf8 (longest l).1), (((longest l).2 : Nat) : Int))) := by
 unfold charref_byName.f
 have hm : mn ((mkB l).size : Int) 8 = ((min l.length 8 : Nat) : Int) := by rw [mkB_size]; unfold mn; split <;> omega
 rw [hm]
 have hb : (longest l).2 ≤ l.length ∧ (longest l).2 ≤ 8 := by
  rcases longest_spec l with ⟨h1, _⟩ | ⟨_, h2, h3, _⟩
  ·
   rw [h1]; simp
  ·
   exact ⟨h2, h3⟩
 exact byName_l0 l hl (min l.length 8) k (by omega) (by omega) (by omega)
/-! #### the reference at a place -/
theorem cutPrefix_ok (l : Bs) : strings_CutPrefix.f (mkB l) ⟨#[35]⟩ = some (if l.head? = some 35 then (mkB (l.drop 1), true) else (mkB l, false)) := by
 unfold strings_CutPrefix.f stringslite_CutPrefix.f stringslite_HasPrefix.f
 rw [mkB_lit]
 simp only [mkB_size, mkB_extract, mkB_toList]
 cases l with
 | nil => simp [mkB]
 | cons c r =>
  rw [if_pos (by simp <;> omega), if_pos (by simp), if_pos (by simp <;> omega)]
  by_cases hc : c = 35
  ·
   subst hc
   rw [Option.bind_some, if_pos (by simp), if_pos (by simp), if_pos (by simp <;> omega)]
   simp
  ·
   rw [Option.bind_some, if_neg (by simp [hc])]
   simp [hc]
theorem stays_ok (r : Bs) : charref_stays.f (mkB r) = some (stays r) := by
 unfold charref_stays.f
 rw [mkB_toList]
 cases r with
 | nil => simp [stays]
 | cons c r =>
  have e := mkB_bt (c :: r) 0
  have e' : bt (mkB (c :: r)) 0 = (c.toNat : Int) := e
  rw [if_neg (by simp), if_pos (by rw [mkB_size]; simp <;> omega), e', letter_ok, Option.bind_some, figure_ok, Option.bind_some]
  unfold stays
  by_cases h1 : c = 61
  ·
   subst h1; rfl
  ·
   rw [if_neg (fun e => h1 (UInt8.toNat_inj.1 (by have : ((61 : UInt8).toNat : Int) = 61 := rfl; omega)))]
   have : (c == 61) = false := by simpa using h1
   show _ = some (c == 61 || letter c || figure c)
   rw [this, Bool.false_or]
   cases letter c <;> simp
theorem bt38 (c : UInt8) : (((c.toNat : Nat) : Int) != 38) = (c != 38) := by
 rw [Bool.eq_iff_iff, bne_iff_ne, bne_iff_ne]
 exact not_congr ⟨fun e => UInt8.toNat_inj.1 (by have : ((38 : UInt8).toNat : Int) = 38 := rfl; omega), fun e => by rw [e]; rfl⟩
theorem ne59 (c : UInt8) : (((c.toNat : Nat) : Int) = 59) ↔ c = 59 :=
  ⟨fun e => UInt8.toNat_inj.1 (by have : ((59 : UInt8).toNat : Int) = 59 := rfl; omega), fun e => by rw [e]; rfl⟩
theorem ne61 (c : UInt8) : (((c.toNat : Nat) : Int) = 61) ↔ c = 61 :=
  ⟨fun e => UInt8.toNat_inj.1 (by have : ((61 : UInt8).toNat : Int) = 61 := rfl; omega), fun e => by rw [e]; rfl⟩
theorem eq35 (c : UInt8) : (((c.toNat : Nat) : Int) == 35) = (c == 35) := by
 rw [Bool.eq_iff_iff, beq_iff_eq, beq_iff_eq]
 exact ⟨fun e => UInt8.toNat_inj.1 (by have : ((35 : UInt8).toNat : Int) = 35 := rfl; omega), fun e => by rw [e]; rfl⟩
theorem atBody_ok (l : Bs) (hl : l.length ≤ 1000000) (i : Nat) (hi : i < l.length) (attr : Bool) {k : Nat} (hk : l.length + 20 ≤ k) :
    charref_At.j0 k (mkB l) (i : Int) attr false = some (mkB (ref attr (l.drop (i + 1))).1, (((ref attr (l.drop (i + 1))).2 : Nat) : Int)) := by
 obtain ⟨k, rfl⟩ : ∃ m, k = m + 1 := ⟨k - 1, by omega⟩
 have w1 : wrap64 ((i : Int) + 1) = ((i + 1 : Nat) : Int) := wrn (n := i + 1) (by omega)
 simp only [charref_At.j0, Bool.false_eq_true, if_false]
 rw [w1]
 have hex : (mkB l).extract (((i + 1 : Nat) : Int)).toNat (mkB l).size = mkB (l.drop (i + 1)) := by
  rw [Int.toNat_natCast, mkB_extract, mkB_size, List.take_of_length_le (Nat.le_refl _)]
 rw [hex]
 have hrl : (l.drop (i + 1)).length = l.length - (i + 1) := by simp
 have g1 : (0 : Int) ≤ ((i + 1 : Nat) : Int) := by omega
 have g2 : ((i + 1 : Nat) : Int) ≤ ((mkB l).size : Int) := by rw [mkB_size]; omega
 rw [if_pos g1, if_pos g2, cutPrefix_ok, Option.bind_some]
 generalize l.drop (i + 1) = r at *
 unfold ref
 by_cases h35 : r.head? = some 35
 ·
  rw [if_pos h35, if_pos h35]
  simp only [if_true]
  rw [byNumber_ok (r.drop 1) (by simp; omega) k (by simp; omega), Option.bind_some]
  cases hb : byNum (r.drop 1) with
  | none => simp only; rw [if_neg (by omega), mkB_lit]; rfl
  | some p =>
   have hp := byNum_len hb
   simp only [List.length_drop] at hp
   simp only
   rw [if_pos (by omega)]
   have : wrap64 ((p.2 : Int) + 2) = ((p.2 + 2 : Nat) : Int) := wrn (n := p.2 + 2) (by omega)
   rw [this]
 ·
  rw [if_neg h35, if_neg h35]
  simp only [Bool.false_eq_true, if_false]
  rw [byName_ok r (by omega) (by omega), Option.bind_some]
  have hspec := longest_spec r
  generalize longest r = p at *
  by_cases hz : p.2 = 0
  ·
   rw [if_pos hz, if_pos hz]
   simp only [if_true]
   rw [mkB_lit]; rfl
  ·
   rw [if_neg hz, if_neg hz]
   have hpl : p.2 ≤ r.length := by
    rcases hspec with ⟨h, _⟩ | ⟨_, h, _⟩
    ·
     rw [h] at hz; exact absurd rfl hz
    ·
     exact h
   have g3 : ¬ ((p.2 : Nat) : Int) = 0 := by omega
   have w2 : wrap64 ((p.2 : Int) + 1) = ((p.2 + 1 : Nat) : Int) := wrn (n := p.2 + 1) (by omega)
   have w3 : wrap64 ((p.2 : Int) - 1) = ((p.2 - 1 : Nat) : Int) := by rw [wr (by omega) (by omega)]; omega
   simp only
   rw [if_neg g3, w2, w3]
   cases attr with
   | false => simp
   | true =>
    have g4 : (0 : Int) ≤ ((p.2 - 1 : Nat) : Int) := by omega
    have g5 : ((p.2 - 1 : Nat) : Int) < ((mkB r).size : Int) := by rw [mkB_size]; omega
    have g6 : (0 : Int) ≤ ((p.2 : Nat) : Int) := by omega
    have g7 : ((p.2 : Nat) : Int) ≤ ((mkB r).size : Int) := by rw [mkB_size]; omega
    have hex2 : (mkB r).extract (((p.2 : Nat) : Int)).toNat (mkB r).size = mkB (r.drop p.2) := by
     rw [Int.toNat_natCast, mkB_extract, mkB_size, List.take_of_length_le (Nat.le_refl _)]
    rw [if_pos rfl, if_pos g4, if_pos g5, mkB_bt, if_pos g6, if_pos g7, hex2, stays_ok, Option.bind_some]
    by_cases h59 : r.getD (p.2 - 1) 0 = 59
    ·
     rw [if_pos ((ne59 _).2 h59), if_neg (fun h => h.2.1 h59)]
    ·
     rw [if_neg (fun h => h59 ((ne59 _).1 h))]
     cases hst : stays (r.drop p.2) with
     | true => rw [if_pos rfl, if_pos ⟨rfl, h59, rfl⟩, mkB_lit]; rfl
     | false => rw [if_neg Bool.false_ne_true, if_neg (fun h => absurd h.2.2 Bool.false_ne_true)]
theorem at_ok (l : Bs) (hl : l.length ≤ 1000000) (i : Nat) (hi : i < l.length) (h38 : l[i] = 38) (attr : Bool) {k : Nat} (hk : l.length + 20 ≤ k) :
    charref_At.f k (mkB l) (i : Int) attr = some (mkB (ref attr (l.drop (i + 1))).1, (((ref attr (l.drop (i + 1))).2 : Nat) : Int)) := by
 unfold charref_At.f
 have hg : l.getD i 0 = l[i] := by simp [List.getD, hi]
 have hb : ((bt (mkB l) (i : Int)) != 38) = false := by rw [mkB_bt, hg, bt38, h38]; rfl
 have g1 : ¬ (i : Int) < 0 := by omega
 have g2 : ¬ (i : Int) ≥ ((mkB l).size : Int) := by rw [mkB_size]; omega
 have g3 : (0 : Int) ≤ (i : Int) := by omega
 have g4 : (i : Int) < ((mkB l).size : Int) := by rw [mkB_size]; omega
 rw [if_neg g1, if_neg g2, if_pos g3, if_pos g4, hb]
 exact atBody_ok l hl i hi attr hk
theorem at_none (l : Bs) (i : Int) (h : i < 0 ∨ (l.length : Int) ≤ i ∨ ∃ j : Nat, i = j ∧ l.getD j 0 ≠ 38) (attr : Bool) {k : Nat} (hk : 1 ≤ k) : charref_At.f k (mkB l) i attr = some (mkB [], 0) := by
 obtain ⟨k, rfl⟩ : ∃ m, k = m + 1 := ⟨k - 1, by omega⟩
 have jt : charref_At.j0 (k + 1) (mkB l) i attr true = some (mkB [], 0) := by simp only [charref_At.j0, if_true]; rfl
 unfold charref_At.f
 by_cases c1 : i < 0
 ·
  rw [if_pos c1, jt]
 ·
  rw [if_neg c1]
  by_cases c2 : i ≥ ((mkB l).size : Int)
  ·
   rw [if_pos c2, jt]
  ·
   have c2' := c2
   rw [mkB_size] at c2'
   rcases h with h | h | ⟨j, rfl, hj⟩
   ·
    exact absurd h c1
   ·
    exact absurd h c2'
   ·
    have hb : ((bt (mkB l) (j : Int)) != 38) = true := by rw [mkB_bt, bt38]; simpa using hj
    rw [if_neg c2, if_pos (by omega), if_pos (by rw [mkB_size]; omega), hb, jt]
/-! #### a text, decoded -/
theorem index_spec (l : Bs) (c : UInt8) : (Lib.indexByte l c = -1 ∧ c ∉ l) ∨ ∃ p r, l = p ++ c :: r ∧ c ∉ p ∧ Lib.indexByte l c = (p.length : Int) := by
 induction l with
 | nil => left; exact ⟨rfl, by simp⟩
 | cons b l ih =>
  unfold Lib.indexByte
  by_cases hb : b = c
  ·
   subst hb
   right
   exact ⟨[], l, rfl, by simp, by simp⟩
  ·
   have e : (b == c) = false := by simpa using hb
   rw [e]
   simp only [Bool.false_eq_true, if_false]
   rcases ih with ⟨h1, h2⟩ | ⟨p, r, h1, h2, h3⟩
   ·
    left
    rw [h1]
    exact ⟨by simp, by simp [h2, eq_comm (a := c), hb]⟩
   ·
    right
    refine ⟨b :: p, r, by rw [h1]; rfl, by simp [h2, eq_comm (a := c), hb], ?_⟩
    rw [h3]
    have : ((p.length : Int) == -1) = false := by
     rw [beq_eq_false_iff_ne]; omega
    rw [this]; simp
theorem ref_out (attr : Bool) (r : Bs) : (ref attr r).1.length ≤ 4 := by
 unfold ref
 have := utf8_len
 repeat' split
 all_goals first | exact this _ | simp
theorem decode_l0 (attr : Bool) (d : Nat) : ∀ (l out : Bs) (k : Nat), l.length ≤ d → d ≤ 1000000 → out.length + 5 * l.length ≤ 1000000000 → 2 * d + 30 ≤ k →
    charref_Decode.l0 k (mkB l) attr (mkB out) = some (mkB (out ++ dec attr l)) := by
 induction d with
 | zero =>
  intro l out k hl hd ho hk
  obtain ⟨k, rfl⟩ : ∃ m, k = m + 1 := ⟨k - 1, by omega⟩
  obtain rfl : l = [] := List.eq_nil_of_length_eq_zero (by omega)
  have e : Lib.indexByte (mkB []).data.toList 38 = -1 := rfl
  rw [charref_Decode.l0, e, if_pos (by omega), if_pos (by rw [mkB_size, mkB_size]; simp; omega), mkB_append, dec_nil]
 | succ d ih =>
  intro l out k hl hd ho hk
  obtain ⟨k, rfl⟩ : ∃ m, k = m + 1 := ⟨k - 1, by omega⟩
  rw [charref_Decode.l0, mkB_data]
  rcases index_spec l 38 with ⟨h1, h2⟩ | ⟨p, r, rfl, h2, h3⟩
  ·
   have hp := dec_plain attr l [] h2
   rw [List.append_nil, dec_nil, List.append_nil] at hp
   rw [h1, if_pos (by omega), if_pos (by rw [mkB_size, mkB_size]; omega), mkB_append, hp]
  ·
   have hlen : (p ++ 38 :: r).length = p.length + r.length + 1 := by simp; omega
   have hr := ref_len attr r
   have hro := ref_out attr r
   have hat := at_ok (p ++ 38 :: r) (by omega) p.length (by omega) (by simp) attr (k := k) (by omega)
   have hdr : (p ++ 38 :: r).drop (p.length + 1) = r := by rw [List.drop_append]; simp
   rw [hdr] at hat
   have hex : (mkB (p ++ 38 :: r)).extract 0 p.length = mkB p := by rw [mkB_extract]; simp
   have w : wrap64 ((p.length : Int) + (((ref attr r).2 : Nat) : Int)) = ((p.length + (ref attr r).2 : Nat) : Int) := by rw [← Int.natCast_add, wrn (by omega)]
   have hsz : (mkB (p ++ 38 :: r)).size = p.length + r.length + 1 := by rw [mkB_size, hlen]
   have hex2 : (mkB (p ++ 38 :: r)).extract (p.length + (ref attr r).2) (mkB (p ++ 38 :: r)).size = mkB (r.drop ((ref attr r).2 - 1)) := by
    rw [mkB_extract, mkB_size, List.take_of_length_le (Nat.le_refl _)]
    congr 1
    rw [List.drop_append, List.drop_of_length_le (by omega), List.nil_append]
    have : p.length + (ref attr r).2 - p.length = ((ref attr r).2 - 1) + 1 := by omega
    rw [this, List.drop_succ_cons]
   rw [h3, if_neg (by omega), hat, Option.bind_some]
   simp only
   rw [Int.toNat_natCast, hex, w, Int.toNat_natCast, hex2]
   simp only [mkB_size]
   have q1 : out.length + p.length ≤ 140737488355328 := by omega
   have q2 : out.length + p.length + (ref attr r).1.length ≤ 140737488355328 := by omega
   have q3 : (0 : Int) ≤ (p.length : Int) := by omega
   have q4 : (p.length : Int) ≤ ((p ++ 38 :: r).length : Int) := by omega
   have q5 : (0 : Int) ≤ ((p.length + (ref attr r).2 : Nat) : Int) := by omega
   have q6 : ((p.length + (ref attr r).2 : Nat) : Int) ≤ ((p ++ 38 :: r).length : Int) := by omega
   rw [if_pos q3, if_pos q4, if_pos q1, if_pos q2, if_pos q5, if_pos q6, mkB_append, mkB_append]
   rw [ih (r.drop ((ref attr r).2 - 1)) _ k (by simp; omega) (by omega) (by simp; omega) (by omega)]
   rw [dec_plain attr p _ h2, dec_amp]
   simp [List.append_assoc]
theorem decode_ok (attr : Bool) (l : Bs) (hl : l.length ≤ 1000000) {k : Nat} (hk : 2 * l.length + 30 ≤ k) : charref_Decode.f k (mkB l) attr = some (mkB (dec attr l)) := by
 unfold charref_Decode.f
 have e : (⟨#[]⟩ : ByteArray) = mkB [] := rfl
 rw [e, decode_l0 attr l.length l [] k (Nat.le_refl _) hl (by simp; omega) hk, List.nil_append]
theorem figure_ref (c : UInt8) : marginaliaref02_Figure.f (c.toNat : Int) = some (figure c) := by
 have : ∀ n : Fin 256, marginaliaref02_Figure.f ((UInt8.ofNat n.val).toNat : Int) = some (figure (UInt8.ofNat n.val)) := by decide +kernel
 have h := this ⟨c.toNat, c.toNat_lt⟩
 simpa using h
theorem letter_ref (c : UInt8) : marginaliaref02_Letter.f (c.toNat : Int) = some (letter c) := by
 have : ∀ n : Fin 256, marginaliaref02_Letter.f ((UInt8.ofNat n.val).toNat : Int) = some (letter (UInt8.ofNat n.val)) := by decide +kernel
 have h := this ⟨c.toNat, c.toNat_lt⟩
 simpa using h
/-- digit: a digit's value by a base of 10 or 16; -1: it is none. -/
theorem digit_ok (c : UInt8) (base : Nat) (hb : base = 10 ∨ base = 16) {k : Nat} (hk : 3 ≤ k) : marginaliaref03_digit.f k (c.toNat : Int) (base : Int) = some (match digv base c with | some d => (d : Int) | none => -1) := by
 have h10 : ∀ n : Fin 256, marginaliaref03_digit.f 3 ((UInt8.ofNat n.val).toNat : Int) 10 = some (match digv 10 (UInt8.ofNat n.val) with | some d => (d : Int) | none => -1) := by decide +kernel
 have h16 : ∀ n : Fin 256, marginaliaref03_digit.f 3 ((UInt8.ofNat n.val).toNat : Int) 16 = some (match digv 16 (UInt8.ofNat n.val) with | some d => (d : Int) | none => -1) := by decide +kernel
 have a := h10 ⟨c.toNat, c.toNat_lt⟩
 have b := h16 ⟨c.toNat, c.toNat_lt⟩
 simp only [UInt8.ofNat_toNat] at a b
 rcases hb with rfl | rfl
 ·
  exact at_rounds (fun k => marginaliaref03_digit.mono _ _ k) (by omega) a
 ·
  exact at_rounds (fun k => marginaliaref03_digit.mono _ _ k) (by omega) b
theorem utf8_ref (n : Nat) (h : n ≤ 1114111) : marginaliaref03_Utf8.f (n : Int) = some (mkB (utf8 n)) := by
 have s1 : strOfNums [(n : Int) % 256] = mkB [UInt8.ofNat ((n : Int) % 256).toNat] := rfl
 unfold marginaliaref03_Utf8.f utf8
 by_cases c1 : n < 128
 ·
  rw [if_pos (by omega), if_pos c1, s1, by8 (by omega)]; rfl
 ·
  rw [if_neg (by omega), if_neg c1]
  by_cases c2 : n < 2048
  ·
   have b1 := byte_div 192 n 64 h (by omega)
   rw [if_pos (by omega), if_pos c2, byte_mod, show (64 : Int) = ((64 : Nat) : Int) from rfl, show (192 : Int) = ((192 : Nat) : Int) from rfl, b1]; rfl
  ·
   rw [if_neg (by omega), if_neg c2]
   by_cases c3 : n < 65536
   ·
    have b1 := byte_div 224 n 4096 h (by omega)
    have b2 := byte_divmod n 64 h
    rw [if_pos (by omega), if_pos c3, byte_mod, show (4096 : Int) = ((4096 : Nat) : Int) from rfl, show (224 : Int) = ((224 : Nat) : Int) from rfl, b1]
    have b2' : wrap64 (128 + Int.tmod (wrap64 (Int.tdiv (n : Int) 64)) 64) % 256 = ((128 + n / 64 % 64 : Nat) : Int) := b2
    rw [b2']; rfl
   ·
    have b1 : wrap64 (240 + wrap64 (Int.tdiv (n : Int) 262144)) % 256 = ((240 + n / 262144 : Nat) : Int) := byte_div 240 n 262144 h (by omega)
    have b2 : wrap64 (128 + Int.tmod (wrap64 (Int.tdiv (n : Int) 4096)) 64) % 256 = ((128 + n / 4096 % 64 : Nat) : Int) := byte_divmod n 4096 h
    have b3 : wrap64 (128 + Int.tmod (wrap64 (Int.tdiv (n : Int) 64)) 64) % 256 = ((128 + n / 64 % 64 : Nat) : Int) := byte_divmod n 64 h
    rw [if_neg (by omega), if_neg c3, byte_mod, b1, b2, b3]; rfl
theorem number_ref (n : Int) {k : Nat} (hk : 2 ≤ k) : marginaliaref03_Number.f k n = some (mkB (utf8 (point n.toNat))) := by
 obtain ⟨k, rfl⟩ : ∃ m, k = m + 2 := ⟨k - 2, by omega⟩
 have bad : marginaliaref03_Utf8.f 65533 = some (mkB (utf8 65533)) := utf8_ref 65533 (by omega)
 have jt : marginaliaref03_Number.j0 (k + 2) n true = some (mkB (utf8 65533)) := by simp only [marginaliaref03_Number.j0, if_true, bad]; rfl
 unfold marginaliaref03_Number.f point
 by_cases c1 : n ≤ 0
 ·
  have c' : n.toNat = 0 ∨ 1114111 < n.toNat ∨ (55296 ≤ n.toNat ∧ n.toNat ≤ 57343) := by omega
  rw [if_pos c1, if_pos c', jt]
 ·
  rw [if_neg c1]
  by_cases c2 : n > 1114111
  ·
   have c' : n.toNat = 0 ∨ 1114111 < n.toNat ∨ (55296 ≤ n.toNat ∧ n.toNat ≤ 57343) := by omega
   rw [if_pos c2, if_pos c', jt]
  ·
   rw [if_neg c2]
   by_cases c3 : 55296 ≤ n ∧ n ≤ 57343
   ·
    have c' : n.toNat = 0 ∨ 1114111 < n.toNat ∨ (55296 ≤ n.toNat ∧ n.toNat ≤ 57343) := by omega
    rw [if_pos c3.1, if_pos c', decide_eq_true c3.2, jt]
   ·
    have c' : ¬ (n.toNat = 0 ∨ 1114111 < n.toNat ∨ (55296 ≤ n.toNat ∧ n.toNat ≤ 57343)) := by omega
    rw [if_neg c']
    have e0 : (if n ≥ 55296 then marginaliaref03_Number.j0 (k + 2) n (decide (n ≤ 57343)) else marginaliaref03_Number.j0 (k + 2) n false) = marginaliaref03_Number.j0 (k + 2) n false := by
     by_cases e : n ≥ 55296
     ·
      rw [if_pos e, decide_eq_false (by omega)]
     ·
      rw [if_neg e]
    rw [e0]
    simp only [marginaliaref03_Number.j0, Bool.false_eq_true, if_false]
    by_cases d : 128 ≤ n ∧ n < 160
    ·
     have d' : 128 ≤ n.toNat ∧ n.toNat < 160 := by omega
     have d2 : n ≤ 159 := by omega
     rw [if_pos d.1, if_pos d', decide_eq_true d2]
     simp only [marginaliaref03_Number.j1, if_true]
     have ho : marginaliaref03_old.f n = some ((oldT.getD (n.toNat - 128) 0 : Nat) : Int) := by
      unfold marginaliaref03_old.f
      have w : wrap64 (n - 128) = ((n.toNat - 128 : Nat) : Int) := by rw [wr (by omega) (by omega)]; omega
      have hlt : ((n.toNat - 128 : Nat) : Int) < 32 := by omega
      rw [w]
      simp only [Option.bind_some]
      rw [if_pos (by omega), ← old_getD (n.toNat - 128) (by omega)]
      refine (if_pos hlt).trans ?_
      unfold rd
      rw [Int.toNat_natCast]; rfl
     have := old_codes (n.toNat - 128) (by omega)
     rw [ho]
     simp only [Option.bind_some]
     rw [utf8_ref _ this.1]; rfl
    ·
     have d' : ¬ (128 ≤ n.toNat ∧ n.toNat < 160) := by omega
     rw [if_neg d']
     have e1 : (if n ≥ 128 then marginaliaref03_Number.j1 (k + 1) n (decide (n ≤ 159)) else marginaliaref03_Number.j1 (k + 1) n false) = marginaliaref03_Number.j1 (k + 1) n false := by
      by_cases e : n ≥ 128
      ·
       rw [if_pos e, decide_eq_false (by omega)]
      ·
       rw [if_neg e]
     rw [e1]
     simp only [marginaliaref03_Number.j1, Bool.false_eq_true, if_false]
     have e : n = (n.toNat : Int) := by omega
     conv => lhs; rw [e]
     rw [utf8_ref _ (by omega)]; rfl
/-! the reference's table -/
def ent (x : Bs × Nat × Bool) : S97 := ⟨mkB x.1, x.2.1, x.2.2⟩
theorem entries_ok : marginaliaref03_Entries.f = some (tab.map ent) := by rfl
theorem rd_ent (T : List (Bs × Nat × Bool)) (j : Nat) (h : j < T.length) : rd_T97 (T.map ent) (j : Int) = ent T[j] := by
 unfold rd_T97
 rw [Int.toNat_natCast]
 simp [List.getD, h]
theorem tab_len : ∀ x ∈ tab, x.1.length ≤ 8 := by decide
theorem tab_code : ∀ x ∈ tab, x.2.1 ≤ 1114111 ∧ x.2.1 ≠ 0 := by decide
theorem refNumber_stop (l : Bs) (hl : l.length ≤ 1000000) (at0 base : Nat) (i v n : Nat) (hi : i ≤ l.length) (ha : at0 ≤ i) {k : Nat} (hk : 3 ≤ k) : marginaliaref03_number.j3 k (mkB l) (at0 : Int) (i : Int) (base : Int) (v : Int) (n : Int) false = some (
      if n = 0 then (mkB [], 0) else (mkB (utf8 (point v)), ((i + (if (l.drop i).head? = some 59 then 1 else 0) - at0 : Nat) : Int))) := by
 obtain ⟨k, rfl⟩ : ∃ m, k = m + 1 := ⟨k - 1, by omega⟩
 simp only [marginaliaref03_number.j3, Bool.false_eq_true, if_false]
 by_cases hn : n = 0
 ·
  rw [if_pos (by omega), if_pos hn]; rfl
 ·
  have hnr := number_ref (v : Int) (k := k) (by omega)
  rw [Int.toNat_natCast] at hnr
  rw [if_neg (by omega), if_neg hn]
  simp only [hnr, Option.bind_some]
  by_cases hil : i < l.length
  ·
   rw [if_pos (by rw [mkB_size]; omega), if_pos (by omega), mkB_bt]
   have hg : l.getD i 0 = l[i] := by simp [List.getD, hil]
   rw [hg, List.drop_eq_getElem_cons hil]
   simp only [List.head?_cons, Option.some.injEq]
   by_cases h59 : l[i] = 59
   ·
    rw [if_pos (by rw [h59]; rfl), if_pos h59]
    rw [wr (n := (i : Int) + 1) (by omega) (by omega), wr (by omega) (by omega)]
    congr 2; omega
   ·
    rw [if_neg (fun e => h59 (UInt8.toNat_inj.1 (by have : ((59 : UInt8).toNat : Int) = 59 := rfl; omega))), if_neg h59]
    rw [wr (by omega) (by omega)]
    congr 2; omega
  ·
   rw [if_neg (by rw [mkB_size]; omega), List.drop_of_length_le (by omega)]
   simp only [List.head?_nil, reduceCtorEq, if_false]
   rw [wr (by omega) (by omega)]
   congr 2; omega
theorem digv_lt {base : Nat} (hb : base = 10 ∨ base = 16) {c : UInt8} {d : Nat} (h : digv base c = some d) : d < 16 := by
 unfold digv at h
 cases hx : hexv c with
 | none => rw [hx] at h; simp at h
 | some y =>
  rw [hx] at h
  simp only [Option.bind_some] at h
  split at h
  ·
   have := Option.some.inj h; omega
  ·
   cases h
theorem refNumber_go (l : Bs) (hl : l.length ≤ 1000000) (at0 base : Nat) (hb : base = 10 ∨ base = 16) (i v n : Nat) (hil : i < l.length) (hv : v ≤ 1114112) (hn : n ≤ i) (d : Nat) (hd : digv base l[i] = some d) {k : Nat} (hk : 5 ≤ k) :
    marginaliaref03_number.l0 k (mkB l) (at0 : Int) (i : Int) (base : Int) (v : Int) (n : Int) = marginaliaref03_number.l0 (k - 2) (mkB l) (at0 : Int) ((i + 1 : Nat) : Int) (base : Int) ((min (v * base + d) 1114112 : Nat) : Int) ((n + 1 : Nat) : Int) := by
 obtain ⟨k, rfl⟩ : ∃ m, k = m + 1 := ⟨k - 1, by omega⟩
 have hg : l.getD i 0 = l[i] := by simp [List.getD, hil]
 have hdd := digit_ok l[i] base hb (k := k) (by omega)
 rw [hd] at hdd
 simp only [marginaliaref03_number.l0]
 rw [if_pos (by rw [mkB_size]; omega), if_pos (by omega), mkB_bt, hg, hdd]
 simp only [Option.bind_some]
 have dt : decide (((d : Nat) : Int) ≥ 0) = true := decide_eq_true (by omega)
 rw [dt]
 obtain ⟨k, rfl⟩ : ∃ m, k = m + 1 := ⟨k - 1, by omega⟩
 have hdd2 : marginaliaref03_digit.f k (l[i].toNat : Int) (base : Int) = some (d : Int) := by rw [digit_ok l[i] base hb (k := k) (by omega), hd]
 simp only [marginaliaref03_number.j3, if_true]
 rw [if_pos (by omega), if_pos (by rw [mkB_size]; omega), mkB_bt, hg, hdd2, Option.bind_some]
 have hvb : v * base ≤ 17825792 := by rcases hb with rfl | rfl <;> omega
 have hdl := digv_lt hb hd
 have w1 : wrap64 ((v : Int) * (base : Int)) = ((v * base : Nat) : Int) := by rw [← Int.natCast_mul, wrn (by omega)]
 have w2 : wrap64 (((v * base : Nat) : Int) + (d : Int)) = ((v * base + d : Nat) : Int) := by rw [← Int.natCast_add, wrn (by omega)]
 have w4 : wrap64 ((i : Int) + 1) = ((i + 1 : Nat) : Int) := wrn (n := i + 1) (by omega)
 have w5 : wrap64 ((n : Int) + 1) = ((n + 1 : Nat) : Int) := wrn (n := n + 1) (by omega)
 rw [w1, w2, w4, w5]
 have ek : k + 1 + 1 - 2 = k := by omega
 have em : (1114112 : Int) = ((1114112 : Nat) : Int) := rfl
 rw [ek]
 by_cases hlt : ((v * base + d : Nat) : Int) > 1114111
 ·
  rw [if_pos hlt]
  have : min (v * base + d) 1114112 = 1114112 := by omega
  rw [this, em]
 ·
  rw [if_neg hlt]
  have : min (v * base + d) 1114112 = v * base + d := by omega
  rw [this]
theorem refNumber_l0 (l : Bs) (hl : l.length ≤ 1000000) (at0 : Nat) (base : Nat) (hb : base = 10 ∨ base = 16) (d : Nat) : ∀ (i k v n : Nat), i + d = l.length → at0 ≤ i → 2 * d + 5 ≤ k → v ≤ 1114112 → n ≤ i →
    marginaliaref03_number.l0 k (mkB l) (at0 : Int) (i : Int) (base : Int) (v : Int) (n : Int) = some (
      if n + (num base (l.drop i) v).2 = 0 then (mkB [], 0)
      else (mkB (utf8 (point (num base (l.drop i) v).1)), ((i + (num base (l.drop i) v).2 + (if (l.drop (i + (num base (l.drop i) v).2)).head? = some 59 then 1 else 0) - at0 : Nat) : Int))) := by
 induction d with
 | zero =>
  intro i k v n hi ha hk hv hn
  obtain ⟨k, rfl⟩ : ∃ m, k = m + 1 := ⟨k - 1, by omega⟩
  have e : num base (l.drop i) v = (v, 0) := by rw [List.drop_of_length_le (by omega)]; rfl
  rw [e]
  simp only [marginaliaref03_number.l0]
  rw [if_neg (by rw [mkB_size]; omega), refNumber_stop l hl at0 base i v n (by omega) ha (by omega)]
  rfl
 | succ d ih =>
  intro i k v n hi ha hk hv hn
  have hil : i < l.length := by omega
  have hdrop : l.drop i = l[i] :: l.drop (i + 1) := List.drop_eq_getElem_cons hil
  cases hdv : digv base l[i] with
  | none =>
   obtain ⟨k, rfl⟩ : ∃ m, k = m + 1 := ⟨k - 1, by omega⟩
   have hg : l.getD i 0 = l[i] := by simp [List.getD, hil]
   have e : num base (l.drop i) v = (v, 0) := by rw [hdrop]; simp only [num, hdv]
   have hdd := digit_ok l[i] base hb (k := k) (by omega)
   rw [hdv] at hdd
   rw [e]
   simp only [marginaliaref03_number.l0]
   rw [if_pos (by rw [mkB_size]; omega), if_pos (by omega), mkB_bt, hg, hdd]
   simp only [Option.bind_some]
   rw [show decide ((-1 : Int) ≥ 0) = false from rfl, refNumber_stop l hl at0 base i v n (by omega) ha (by omega)]
   rfl
  | some dv =>
   have e : num base (l.drop i) v = ((num base (l.drop (i + 1)) (min (v * base + dv) 1114112)).1, (num base (l.drop (i + 1)) (min (v * base + dv) 1114112)).2 + 1) := by rw [hdrop]; simp only [num, hdv]
   rw [e, refNumber_go l hl at0 base hb i v n hil hv hn dv hdv (by omega), ih (i + 1) (k - 2) _ (n + 1) (by omega) (by omega) (by omega) (Nat.min_le_right _ _) (by omega)]
   generalize num base (l.drop (i + 1)) (min (v * base + dv) 1114112) = q
   have e1 : n + 1 + q.2 = n + (q.2 + 1) := by omega
   have e2 : i + 1 + q.2 = i + (q.2 + 1) := by omega
   rw [e1, e2]
/-- number, at a place where '&#' stands. -/
theorem refNumber_ok (l : Bs) (hl : l.length ≤ 1000000) (a : Nat) (ha : a + 2 ≤ l.length) (k : Nat) (hk : 2 * l.length + 8 ≤ k) :
    marginaliaref03_number.f k (mkB l) (a : Int) = some (match byNum (l.drop (a + 2)) with | none => (mkB [], 0) | some p => (mkB (utf8 (point p.1)), ((p.2 + 2 : Nat) : Int))) := by
 have w0 : wrap64 ((a : Int) + 2) = ((a + 2 : Nat) : Int) := wrn (n := a + 2) (by omega)
 have step : marginaliaref03_number.f k (mkB l) (a : Int) = marginaliaref03_number.l0 (k - 2) (mkB l) (a : Int) ((a + 2 + (if hexed (l.drop (a + 2)) then 1 else 0) : Nat) : Int) ((if hexed (l.drop (a + 2)) then 16 else 10 : Nat) : Int) ((0 : Nat) : Int) ((0 : Nat) : Int) := by
  obtain ⟨k, rfl⟩ : ∃ m, k = m + 2 := ⟨k - 2, by omega⟩
  unfold marginaliaref03_number.f
  rw [w0]
  have jt : ∀ b : Bool, marginaliaref03_number.j0 (k + 2) (mkB l) (a : Int) ((a + 2 : Nat) : Int) 10 b = marginaliaref03_number.l0 k (mkB l) (a : Int) ((a + 2 + (if b = true then 1 else 0) : Nat) : Int) ((if b = true then 16 else 10 : Nat) : Int) ((0 : Nat) : Int) ((0 : Nat) : Int) := by
   intro b
   simp only [marginaliaref03_number.j0, marginaliaref03_number.j1]
   cases b with
   | false => rfl
   | true =>
    have w3 : wrap64 (((a + 2 : Nat) : Int) + 1) = ((a + 2 + 1 : Nat) : Int) := wrn (n := a + 2 + 1) (by omega)
    simp only [if_true, w3]; rfl
  by_cases hlt : a + 2 < l.length
  ·
   rw [if_pos (by rw [mkB_size]; omega), if_pos (by omega), mkB_bt]
   have hg : l.getD (a + 2) 0 = l[a + 2] := by simp [List.getD, hlt]
   have hdrop : l.drop (a + 2) = l[a + 2] :: l.drop (a + 2 + 1) := List.drop_eq_getElem_cons hlt
   have hh : hexed (l.drop (a + 2)) = (l[a + 2] == 120 || l[a + 2] == 88) := by unfold hexed; rw [hdrop]; simp only [List.head?_cons, Option.some_beq_some]
   rw [hg, hh, jt, jt]
   by_cases h1 : l[a + 2] = 120
   ·
    rw [if_pos (by rw [h1]; rfl), h1]; rfl
   ·
    rw [if_neg (fun e => h1 (UInt8.toNat_inj.1 (by have : ((120 : UInt8).toNat : Int) = 120 := rfl; omega)))]
    have e2 : (((l[a + 2].toNat : Nat) : Int) == 88) = (l[a + 2] == 88) := by
     rw [Bool.eq_iff_iff, beq_iff_eq, beq_iff_eq]
     exact ⟨fun e => UInt8.toNat_inj.1 (by have : ((88 : UInt8).toNat : Int) = 88 := rfl; omega), fun e => by rw [e]; rfl⟩
    have e3 : (l[a + 2] == 120) = false := by simpa using h1
    rw [e2, e3, Bool.false_or]; rfl
  ·
   rw [if_neg (by rw [mkB_size]; omega), jt]
   have hh : hexed (l.drop (a + 2)) = false := by rw [List.drop_of_length_le (by omega)]; rfl
   rw [hh]; rfl
 rw [step]
 have hb : (if hexed (l.drop (a + 2)) then 16 else 10 : Nat) = 10 ∨ (if hexed (l.drop (a + 2)) then 16 else 10 : Nat) = 16 := by split <;> simp
 have hi : a + 2 + (if hexed (l.drop (a + 2)) then 1 else 0 : Nat) ≤ l.length := by
  split
  ·
   have := hexed_len (by assumption)
   simp only [List.length_drop] at this
   omega
  ·
   omega
 unfold byNum
 simp only [List.drop_drop]
 generalize (if hexed (l.drop (a + 2)) = true then 16 else 10) = base at *
 generalize (if hexed (l.drop (a + 2)) = true then 1 else 0) = i at *
 rw [refNumber_l0 l hl a base hb (l.length - (a + 2 + i)) (a + 2 + i) (k - 2) 0 0 (by omega) (by omega) (by omega) (by omega) (by omega)]
 generalize num base (l.drop (a + 2 + i)) 0 = q
 by_cases e : q.2 = 0
 ·
  rw [if_pos (by omega), if_pos e]
 ·
  rw [if_neg (by omega), if_neg e]
  have e4 : a + 2 + i + q.2 = a + 2 + (i + q.2) := by omega
  rw [e4]
  congr 2
  congr 1
  generalize (if (l.drop (a + 2 + (i + q.2))).head? = some 59 then 1 else 0) = z
  omega
theorem pre_iff (l nm : Bs) (a : Nat) (ha : a ≤ l.length) : nm <+: l.drop a ↔ (a + nm.length ≤ l.length ∧ (l.take (a + nm.length)).drop a = nm) := by
 rw [List.prefix_iff_eq_take, List.drop_take, Nat.add_sub_cancel_left]
 constructor
 ·
  intro h
  refine ⟨?_, h.symm⟩
  have := congrArg List.length h
  simp only [List.length_take, List.length_drop] at this
  omega
 ·
  intro h; exact h.2.symm
/-- What the reference holds as the best name so far. -/
def held (p : Nat × Nat) : ByteArray := if p.2 = 0 then mkB [] else mkB (utf8 p.1)
def upd (s : Bs) (n : Bs) (c : Nat) (p : Nat × Nat) : Nat × Nat := if n.isPrefixOf s && decide (p.2 < n.length) then (c, n.length) else p
theorem best_upd (n : Bs) (c : Nat) (r : List (Bs × Nat)) (s : Bs) (p : Nat × Nat) : best ((n, c) :: r) s p = best r s (upd s n c p) := rfl
theorem var_step {α : Type} (F : ByteArray → Int → Option α) (l : Bs) (hl : l.length ≤ 1000000) (a : Nat) (ha : a ≤ l.length) (m : Bs) (hm : 1 ≤ m.length ∧ m.length ≤ 9) (c : Nat) (hc : c ≤ 1114111) (p : Nat × Nat) :
    (if wrap64 ((a : Int) + (m.length : Int)) ≤ (l.length : Int) then (if 0 ≤ (a : Int) then (if (a : Int) ≤ wrap64 ((a : Int) + (m.length : Int)) then (if ((mkB l).extract ((a : Int).toNat) (wrap64 ((a : Int) + (m.length : Int))).toNat).toList = m then (if (m.length : Int) > ((p.2 : Nat) : Int) then ((marginaliaref03_Utf8.f (c : Int)).bind fun t => F t (m.length : Int)) else F (held p) ((p.2 : Nat) : Int)) else F (held p) ((p.2 : Nat) : Int)) else none) else none) else F (held p) ((p.2 : Nat) : Int)) = F (held (upd (l.drop a) m c p)) (((upd (l.drop a) m c p).2 : Nat) : Int) := by
 have w : wrap64 ((a : Int) + (m.length : Int)) = ((a + m.length : Nat) : Int) := by rw [← Int.natCast_add, wrn (by omega)]
 rw [w]
 unfold upd
 by_cases hpre : m <+: l.drop a
 ·
  obtain ⟨h1, h2⟩ := (pre_iff l m a ha).1 hpre
  have hb : m.isPrefixOf (l.drop a) = true := List.isPrefixOf_iff_prefix.2 hpre
  have g1 : ((a + m.length : Nat) : Int) ≤ (l.length : Int) := by omega
  have g2 : (0 : Int) ≤ (a : Int) := by omega
  have g3 : (a : Int) ≤ ((a + m.length : Nat) : Int) := by omega
  rw [if_pos g1, if_pos g2, if_pos g3, Int.toNat_natCast, Int.toNat_natCast, mkB_extract, mkB_toList, if_pos h2, hb]
  by_cases hlt : p.2 < m.length
  ·
   have g4 : (m.length : Int) > ((p.2 : Nat) : Int) := by omega
   rw [if_pos g4, utf8_ref c hc, Option.bind_some, decide_eq_true hlt]
   have : held (c, m.length) = mkB (utf8 c) := by unfold held; rw [if_neg (by simp only; omega)]
   rw [Bool.and_self, if_pos rfl, this]
  ·
   have g4 : ¬ (m.length : Int) > ((p.2 : Nat) : Int) := by omega
   rw [if_neg g4, decide_eq_false hlt, Bool.and_false, if_neg Bool.false_ne_true]
 ·
  have hb : m.isPrefixOf (l.drop a) = false := by
   rw [Bool.eq_false_iff]; exact fun h => hpre (List.isPrefixOf_iff_prefix.1 h)
  rw [hb, Bool.false_and, if_neg Bool.false_ne_true]
  by_cases h1 : a + m.length ≤ l.length
  ·
   have h2 : ¬ (l.take (a + m.length)).drop a = m := fun h => hpre ((pre_iff l m a ha).2 ⟨h1, h⟩)
   have g1 : ((a + m.length : Nat) : Int) ≤ (l.length : Int) := by omega
   have g2 : (0 : Int) ≤ (a : Int) := by omega
   have g3 : (a : Int) ≤ ((a + m.length : Nat) : Int) := by omega
   rw [if_pos g1, if_pos g2, if_pos g3, Int.toNat_natCast, Int.toNat_natCast, mkB_extract, mkB_toList, if_neg h2]
  ·
   have g1 : ¬ ((a + m.length : Nat) : Int) ≤ (l.length : Int) := by omega
   rw [if_neg g1]
theorem longest_l1_two (s : ByteArray) (a : Int) (T : List S97) (b : ByteArray) (n j : Int) {k : Nat} (hk : 1 ≤ k) :
    marginaliaref03_longest.l1 k s a T b n j 2 = marginaliaref03_longest.l0 (k - 1) s a T b n (wrap64 (j + 1)) := by
 obtain ⟨k, rfl⟩ : ∃ m, k = m + 1 := ⟨k - 1, by omega⟩
 simp only [marginaliaref03_longest.l1]
 rw [if_neg (by omega)]; rfl
theorem longest_l1_one (l : Bs) (hl : l.length ≤ 1000000) (a : Nat) (ha : a ≤ l.length) (T : List (Bs × Nat × Bool)) (hT : ∀ x ∈ T, 1 ≤ x.1.length ∧ x.1.length ≤ 8 ∧ x.2.1 ≤ 1114111) (p : Nat × Nat) (hp : p.2 ≤ 9) (j : Nat) (hj : j < T.length) {k : Nat} (hk : 1 ≤ k) :
    marginaliaref03_longest.l1 k (mkB l) (a : Int) (T.map ent) (held p) ((p.2 : Nat) : Int) (j : Int) 1 = (let q := if T[j].2.2 then upd (l.drop a) T[j].1 T[j].2.1 p else p; marginaliaref03_longest.l1 (k - 1) (mkB l) (a : Int) (T.map ent) (held q) ((q.2 : Nat) : Int) (j : Int) 2) := by
 obtain ⟨k, rfl⟩ : ∃ m, k = m + 1 := ⟨k - 1, by omega⟩
 have hx := hT T[j] (List.getElem_mem hj)
 have hr := rd_ent T j hj
 simp only [marginaliaref03_longest.l1]
 rw [if_pos (by omega), if_pos (by omega), if_pos (by simp; omega), if_neg (by omega), hr]
 generalize T[j] = x at hx
 obtain ⟨n, c, b⟩ := x
 simp only at hx
 simp only [ent, mkB_size, mkB_toList, Nat.add_sub_cancel]
 have w2 : wrap64 ((1 : Int) + 1) = 2 := wr (n := 2) (by omega) (by omega)
 cases b with
 | false => rw [if_neg (by simp), w2]; simp
 | true =>
  rw [if_pos rfl, if_pos rfl, w2]
  exact var_step (fun t n => marginaliaref03_longest.l1 k (mkB l) (a : Int) (T.map ent) t n (j : Int) 2) l hl a ha n ⟨hx.1, by omega⟩ c hx.2.2 p
theorem longest_l1_nil (l : Bs) (hl : l.length ≤ 1000000) (a : Nat) (ha : a ≤ l.length) (T : List (Bs × Nat × Bool)) (hT : ∀ x ∈ T, 1 ≤ x.1.length ∧ x.1.length ≤ 8 ∧ x.2.1 ≤ 1114111) (p : Nat × Nat) (hp : p.2 ≤ 9) (j : Nat) (hj : j < T.length) {k : Nat} (hk : 1 ≤ k) :
    marginaliaref03_longest.l1 k (mkB l) (a : Int) (T.map ent) (held p) ((p.2 : Nat) : Int) (j : Int) 0 = (let q := upd (l.drop a) (T[j].1 ++ [59]) T[j].2.1 p; marginaliaref03_longest.l1 (k - 1) (mkB l) (a : Int) (T.map ent) (held q) ((q.2 : Nat) : Int) (j : Int) 1) := by
 obtain ⟨k, rfl⟩ : ∃ m, k = m + 1 := ⟨k - 1, by omega⟩
 have hx := hT T[j] (List.getElem_mem hj)
 have hr := rd_ent T j hj
 simp only [marginaliaref03_longest.l1]
 rw [if_pos (by omega), if_pos (by omega), if_pos (by simp; omega), if_pos trivial, hr]
 generalize T[j] = x at hx
 obtain ⟨n, c, b⟩ := x
 simp only at hx
 simp only [ent, Nat.add_sub_cancel]
 have e59 : (⟨#[59]⟩ : ByteArray) = mkB [59] := mkB_lit _
 simp only [e59, mkB_append]
 simp only [mkB_size, mkB_toList]
 have w2 : wrap64 ((0 : Int) + 1) = 1 := wr (n := 1) (by omega) (by omega)
 have hn1 : (n ++ [59]).length = n.length + 1 := by simp
 have hs : n.length + 1 ≤ 9223372036854775807 := by omega
 rw [if_pos hs, w2]
 exact var_step (fun t n => marginaliaref03_longest.l1 k (mkB l) (a : Int) (T.map ent) t n (j : Int) 1) l hl a ha (n ++ [59]) (by omega) c hx.2.2 p
theorem upd_le (s n : Bs) (c : Nat) (p : Nat × Nat) (hn : n.length ≤ 9) (hp : p.2 ≤ 9) : (upd s n c p).2 ≤ 9 := by
  unfold upd; split
  · exact hn
  · exact hp
/-- All variants of some entries. -/
def vars (T : List (Bs × Nat × Bool)) : List (Bs × Nat) := T.flatMap fun x => (x.1 ++ [59], x.2.1) :: if x.2.2 then [(x.1, x.2.1)] else []
theorem longest_l0 (l : Bs) (hl : l.length ≤ 1000000) (a : Nat) (ha : a ≤ l.length) (T : List (Bs × Nat × Bool)) (hT : ∀ x ∈ T, 1 ≤ x.1.length ∧ x.1.length ≤ 8 ∧ x.2.1 ≤ 1114111) (hlen : T.length ≤ 1000) (d : Nat) : ∀ (j k : Nat) (p : Nat × Nat), j + d = T.length → 4 * d + 1 ≤ k → p.2 ≤ 9 →
    marginaliaref03_longest.l0 k (mkB l) (a : Int) (T.map ent) (held p) ((p.2 : Nat) : Int) (j : Int) = some (held (best (vars (T.drop j)) (l.drop a) p), (((best (vars (T.drop j)) (l.drop a) p).2 : Nat) : Int)) := by
 induction d with
 | zero =>
  intro j k p hj hk hp
  obtain ⟨k, rfl⟩ : ∃ m, k = m + 1 := ⟨k - 1, by omega⟩
  simp only [marginaliaref03_longest.l0]
  rw [if_neg (by simp; omega), List.drop_of_length_le (by omega)]; rfl
 | succ d ih =>
  intro j k p hj hk hp
  obtain ⟨k, rfl⟩ : ∃ m, k = m + 1 := ⟨k - 1, by omega⟩
  have hjl : j < T.length := by omega
  have hx := hT T[j] (List.getElem_mem hjl)
  have w : wrap64 ((j : Int) + 1) = ((j + 1 : Nat) : Int) := wrn (n := j + 1) (by omega)
  simp only [marginaliaref03_longest.l0]
  rw [if_pos (by simp; omega), longest_l1_nil l hl a ha T hT p hp j hjl (by omega)]
  have h1 := upd_le (l.drop a) (T[j].1 ++ [59]) T[j].2.1 p (by simp; omega) hp
  simp only
  rw [longest_l1_one l hl a ha T hT _ h1 j hjl (by omega)]
  simp only
  rw [longest_l1_two _ _ _ _ _ _ (by omega), w]
  have h2 : (if T[j].2.2 = true then upd (l.drop a) T[j].1 T[j].2.1 (upd (l.drop a) (T[j].1 ++ [59]) T[j].2.1 p) else upd (l.drop a) (T[j].1 ++ [59]) T[j].2.1 p).2 ≤ 9 := by
   split
   ·
    exact upd_le _ _ _ _ (by omega) h1
   ·
    exact h1
  rw [ih (j + 1) _ _ (by omega) (by omega) h2]
  have hb : best (vars (T.drop j)) (l.drop a) p = best (vars (T.drop (j + 1))) (l.drop a) (if T[j].2.2 = true then upd (l.drop a) T[j].1 T[j].2.1 (upd (l.drop a) (T[j].1 ++ [59]) T[j].2.1 p) else upd (l.drop a) (T[j].1 ++ [59]) T[j].2.1 p) := by
   rw [List.drop_eq_getElem_cons hjl]
   unfold vars
   rw [List.flatMap_cons, List.cons_append, best_upd]
   cases T[j].2.2 with
   | true => simp only [if_true, List.cons_append, List.nil_append, best_upd]
   | false => simp only [Bool.false_eq_true, if_false, List.nil_append]
  rw [hb]
theorem tab_ok : ∀ x ∈ tab, 1 ≤ x.1.length ∧ x.1.length ≤ 8 ∧ x.2.1 ≤ 1114111 := by decide
theorem refLongest_ok (l : Bs) (hl : l.length ≤ 1000000) (a : Nat) (ha : a ≤ l.length) {k : Nat} (hk : 190 ≤ k) :
    marginaliaref03_longest.f k (mkB l) (a : Int) = some (if (longest (l.drop a)).2 = 0 then (mkB [], 0) else (mkB (utf8 (longest (l.drop a)).1), (((longest (l.drop a)).2 : Nat) : Int))) := by
 unfold marginaliaref03_longest.f
 rw [entries_ok, Option.bind_some]
 have h := longest_l0 l hl a ha tab tab_ok (by decide) 45 0 k (0, 0) (by decide) (by omega) (by decide)
 have e : best (vars (tab.drop 0)) (l.drop a) (0, 0) = longest (l.drop a) := rfl
 rw [e] at h
 refine (show _ = _ from h).trans ?_
 unfold held
 split
 ·
  rename_i h0; rw [h0]; rfl
 ·
  rfl
/-! the reference's -/
theorem refAtBody_ok (l : Bs) (hl : l.length ≤ 1000000) (i : Nat) (hi : i < l.length) (attr : Bool) {k : Nat} (hk : 2 * l.length + 250 ≤ k) :
    marginaliaref03_At.j0 k (mkB l) (i : Int) attr false = some (mkB (ref attr (l.drop (i + 1))).1, (((ref attr (l.drop (i + 1))).2 : Nat) : Int)) := by
 obtain ⟨k, rfl⟩ : ∃ m, k = m + 1 := ⟨k - 1, by omega⟩
 have w1 : wrap64 ((i : Int) + 1) = ((i + 1 : Nat) : Int) := wrn (n := i + 1) (by omega)
 have e0 : marginaliaref03_At.j0 (k + 1) (mkB l) (i : Int) attr false = marginaliaref03_At.j1 k (mkB l) (i : Int) attr (decide ((l.drop (i + 1)).head? = some 35)) := by
  simp only [marginaliaref03_At.j0, Bool.false_eq_true, if_false]
  rw [w1]
  by_cases hlt : i + 1 < l.length
  ·
   have g1 : ((i + 1 : Nat) : Int) < ((mkB l).size : Int) := by rw [mkB_size]; omega
   have g2 : (0 : Int) ≤ ((i + 1 : Nat) : Int) := by omega
   have hg : l.getD (i + 1) 0 = l[i + 1] := by simp [List.getD, hlt]
   rw [if_pos g1, if_pos g2, mkB_bt, hg, eq35, List.drop_eq_getElem_cons hlt]
   congr 1
   rw [Bool.eq_iff_iff]; simp [List.getElem?_eq_getElem hlt]
  ·
   have g1 : ¬ ((i + 1 : Nat) : Int) < ((mkB l).size : Int) := by rw [mkB_size]; omega
   rw [if_neg g1, List.drop_of_length_le (by omega)]; rfl
 rw [e0]
 obtain ⟨k, rfl⟩ : ∃ m, k = m + 1 := ⟨k - 1, by omega⟩
 have hrl : (l.drop (i + 1)).length = l.length - (i + 1) := by simp
 simp only [marginaliaref03_At.j1]
 unfold ref
 by_cases h35 : (l.drop (i + 1)).head? = some 35
 ·
  have h1 : 1 ≤ (l.drop (i + 1)).length := by
   cases hd : l.drop (i + 1) with
   | nil => rw [hd] at h35; simp at h35
   | cons _ _ => simp
  rw [decide_eq_true h35, if_pos rfl, if_pos h35, refNumber_ok l hl i (by omega) k (by omega), Option.bind_some, List.drop_drop]
  cases hb : byNum (l.drop (i + 1 + 1)) with
  | none => simp only [if_true]; rw [mkB_lit]; rfl
  | some p =>
   simp only
   have g : ¬ ((p.2 + 2 : Nat) : Int) = 0 := by omega
   rw [if_neg g]
 ·
  rw [decide_eq_false h35, if_neg Bool.false_ne_true, if_neg h35, w1, refLongest_ok l hl (i + 1) (by omega) (by omega), Option.bind_some]
  have hspec := longest_spec (l.drop (i + 1))
  have hgd : ∀ j, (l.drop (i + 1)).getD j 0 = l.getD (i + 1 + j) 0 := fun j => by simp [List.getD]
  generalize longest (l.drop (i + 1)) = p at *
  by_cases hz : p.2 = 0
  ·
   rw [if_pos hz, if_pos hz]
   simp only [if_true]
   rw [mkB_lit]; rfl
  ·
   rw [if_neg hz, if_neg hz]
   have hpl : p.2 ≤ l.length - (i + 1) := by
    rcases hspec with ⟨h, _⟩ | ⟨_, h, _⟩
    ·
     rw [h] at hz; exact absurd rfl hz
    ·
     omega
   have g3 : ¬ ((p.2 : Nat) : Int) = 0 := by omega
   have w2 : wrap64 ((p.2 : Int) + 1) = ((p.2 + 1 : Nat) : Int) := wrn (n := p.2 + 1) (by omega)
   have w4 : wrap64 (((i + 1 : Nat) : Int) + (p.2 : Int)) = ((i + 1 + p.2 : Nat) : Int) := by rw [← Int.natCast_add, wrn (by omega)]
   have w3 : wrap64 (((i + 1 + p.2 : Nat) : Int) - 1) = ((i + 1 + (p.2 - 1) : Nat) : Int) := by rw [wr (by omega) (by omega)]; omega
   simp only
   rw [if_neg g3, w2, w4, w3]
   cases attr with
   | false => simp
   | true =>
    have g4 : (0 : Int) ≤ ((i + 1 + (p.2 - 1) : Nat) : Int) := by omega
    have g5 : ((i + 1 + (p.2 - 1) : Nat) : Int) < ((mkB l).size : Int) := by rw [mkB_size]; omega
    rw [if_pos rfl, if_pos g4, if_pos g5, mkB_bt]
    rw [hgd (p.2 - 1), List.drop_drop]
    by_cases h59 : l.getD (i + 1 + (p.2 - 1)) 0 = 59
    ·
     rw [if_pos ((ne59 _).2 h59), if_neg (fun h => h.2.1 h59)]
    ·
     rw [if_neg (fun h => h59 ((ne59 _).1 h))]
     by_cases hlt : i + 1 + p.2 < l.length
     ·
      have g6 : ((i + 1 + p.2 : Nat) : Int) < ((mkB l).size : Int) := by rw [mkB_size]; omega
      have g7 : (0 : Int) ≤ ((i + 1 + p.2 : Nat) : Int) := by omega
      have hg : l.getD (i + 1 + p.2) 0 = l[i + 1 + p.2] := by simp [List.getD, hlt]
      rw [if_pos g6, if_pos g7, mkB_bt, hg, letter_ref, Option.bind_some, figure_ref, Option.bind_some, List.drop_eq_getElem_cons hlt]
      have hs : stays (l[i + 1 + p.2] :: l.drop (i + 1 + p.2 + 1)) = (l[i + 1 + p.2] == 61 || letter l[i + 1 + p.2] || figure l[i + 1 + p.2]) := rfl
      rw [hs]
      generalize l[i + 1 + p.2] = c
      by_cases h61 : c = 61
      ·
       have hc : (c == 61 || letter c || figure c) = true := by rw [h61]; rfl
       rw [if_pos ((ne61 _).2 h61), hc, if_pos ⟨rfl, h59, rfl⟩, mkB_lit]; rfl
      ·
       have hc : (c == 61) = false := by simpa using h61
       rw [if_neg (fun h => h61 ((ne61 _).1 h)), hc, Bool.false_or]
       cases letter c with
       | true => rw [if_pos rfl, Bool.true_or, if_pos ⟨rfl, h59, rfl⟩, mkB_lit]; rfl
       | false =>
        rw [if_neg Bool.false_ne_true, Bool.false_or]
        cases figure c with
        | true => rw [if_pos rfl, if_pos ⟨rfl, h59, rfl⟩, mkB_lit]; rfl
        | false => rw [if_neg Bool.false_ne_true, if_neg (fun h => absurd h.2.2 Bool.false_ne_true)]
     ·
      have g6 : ¬ ((i + 1 + p.2 : Nat) : Int) < ((mkB l).size : Int) := by rw [mkB_size]; omega
      rw [if_neg g6, List.drop_of_length_le (by omega), if_neg (fun h => absurd h.2.2 (by simp [stays]))]
theorem refAt_ok (l : Bs) (hl : l.length ≤ 1000000) (i : Nat) (hi : i < l.length) (h38 : l[i] = 38) (attr : Bool) {k : Nat} (hk : 2 * l.length + 250 ≤ k) :
    marginaliaref03_At.f k (mkB l) (i : Int) attr = some (mkB (ref attr (l.drop (i + 1))).1, (((ref attr (l.drop (i + 1))).2 : Nat) : Int)) := by
 unfold marginaliaref03_At.f
 have hg : l.getD i 0 = l[i] := by simp [List.getD, hi]
 have hb : ((bt (mkB l) (i : Int)) != 38) = false := by rw [mkB_bt, hg, bt38, h38]; rfl
 have g1 : ¬ (i : Int) < 0 := by omega
 have g2 : ¬ (i : Int) ≥ ((mkB l).size : Int) := by rw [mkB_size]; omega
 have g3 : (0 : Int) ≤ (i : Int) := by omega
 have g4 : (i : Int) < ((mkB l).size : Int) := by rw [mkB_size]; omega
 rw [if_neg g1, if_neg g2, if_pos g3, if_pos g4, hb]
 exact refAtBody_ok l hl i hi attr hk
theorem refAt_none (l : Bs) (i : Int) (h : i < 0 ∨ (l.length : Int) ≤ i ∨ ∃ j : Nat, i = j ∧ l.getD j 0 ≠ 38) (attr : Bool) {k : Nat} (hk : 1 ≤ k) : marginaliaref03_At.f k (mkB l) i attr = some (mkB [], 0) := by
 obtain ⟨k, rfl⟩ : ∃ m, k = m + 1 := ⟨k - 1, by omega⟩
 have jt : marginaliaref03_At.j0 (k + 1) (mkB l) i attr true = some (mkB [], 0) := by simp only [marginaliaref03_At.j0, if_true]; rfl
 unfold marginaliaref03_At.f
 by_cases c1 : i < 0
 ·
  rw [if_pos c1, jt]
 ·
  rw [if_neg c1]
  by_cases c2 : i ≥ ((mkB l).size : Int)
  ·
   rw [if_pos c2, jt]
  ·
   have c2' := c2
   rw [mkB_size] at c2'
   rcases h with h | h | ⟨j, rfl, hj⟩
   ·
    exact absurd h c1
   ·
    exact absurd h c2'
   ·
    have hb : ((bt (mkB l) (j : Int)) != 38) = true := by rw [mkB_bt, bt38]; simpa using hj
    rw [if_neg c2, if_pos (by omega), if_pos (by rw [mkB_size]; omega), hb, jt]
theorem refDecode_l0 (attr : Bool) (l : Bs) (hl : l.length ≤ 1000000) (d : Nat) : ∀ (i : Nat) (out : Bs) (k : Nat), i + d = l.length → out.length + 5 * d ≤ 1000000000 → 2 * l.length + 260 + d ≤ k →
    marginaliaref03_Decode.l0 k (mkB l) attr (mkB out) (i : Int) = some (mkB (out ++ dec attr (l.drop i))) := by
 induction d using Nat.strongRecOn with
 | _ d ih =>
  intro i out k hi ho hk
  obtain ⟨k, rfl⟩ : ∃ m, k = m + 1 := ⟨k - 1, by omega⟩
  simp only [marginaliaref03_Decode.l0]
  rw [mkB_size]
  by_cases hlt : i < l.length
  ·
   rw [if_pos (by omega)]
   have hg : l.getD i 0 = l[i] := by simp [List.getD, hlt]
   rw [List.drop_eq_getElem_cons hlt]
   by_cases h38 : l[i] = 38
   ·
    have hr := ref_len attr (l.drop (i + 1))
    have hro := ref_out attr (l.drop (i + 1))
    simp only [List.length_drop] at hr
    rw [refAt_ok l hl i hlt h38 attr (by omega), Option.bind_some, h38, dec_amp]
    generalize ref attr (l.drop (i + 1)) = p at *
    simp only
    have g1 : ¬ ((p.2 : Nat) : Int) = 0 := by omega
    have w : wrap64 ((i : Int) + ((p.2 : Nat) : Int)) = ((i + p.2 : Nat) : Int) := by rw [← Int.natCast_add, wrn (by omega)]
    have g2 : out.length + p.1.length ≤ 9223372036854775807 := by omega
    rw [if_neg g1, mkB_size, mkB_size, if_pos g2, w, mkB_append, ih (d - p.2) (by omega) (i + p.2) _ k (by omega) (by simp; omega) (by omega)]
    rw [List.append_assoc, List.drop_drop]
    have : i + 1 + (p.2 - 1) = i + p.2 := by omega
    rw [this]
   ·
    have hn := refAt_none l (i : Int) (.inr (.inr ⟨i, rfl, by rw [hg]; exact h38⟩)) attr (k := k) (by omega)
    rw [hn, Option.bind_some]
    simp only [if_true]
    have w : wrap64 ((i : Int) + 1) = ((i + 1 : Nat) : Int) := wrn (n := i + 1) (by omega)
    have hex : (mkB l).extract i (i + 1) = mkB [l[i]] := by
     rw [mkB_extract]
     congr 1
     rw [List.drop_take, Nat.add_sub_cancel_left, List.drop_eq_getElem_cons hlt]; rfl
    have g1 : (0 : Int) ≤ (i : Int) := by omega
    have g2 : (i : Int) ≤ ((i + 1 : Nat) : Int) := by omega
    have g3 : ((i + 1 : Nat) : Int) ≤ (l.length : Int) := by omega
    have g4 : out.length + [l[i]].length ≤ 9223372036854775807 := by simp; omega
    rw [w, Int.toNat_natCast, Int.toNat_natCast, hex, if_pos g1, if_pos g2, if_pos g3, mkB_size, mkB_size, if_pos g4, mkB_append, ih (d - 1) (by omega) (i + 1) _ k (by omega) (by simp; omega) (by omega)]
    rw [dec_other attr _ _ h38, List.append_assoc]; rfl
  ·
   rw [if_neg (by omega), List.drop_of_length_le (by omega), dec_nil, List.append_nil]
theorem refDecode_ok (attr : Bool) (l : Bs) (hl : l.length ≤ 1000000) {k : Nat} (hk : 3 * l.length + 260 ≤ k) : marginaliaref03_Decode.f k (mkB l) attr = some (mkB (dec attr l)) := by
 unfold marginaliaref03_Decode.f
 have e : (⟨#[]⟩ : ByteArray) = mkB [] := rfl
 rw [e]
 exact refDecode_l0 attr l hl l.length 0 [] k (by omega) (by simp; omega) (by omega)
end
end Go.Proofs.Ytpelfhldgnmhpaa.Pure
