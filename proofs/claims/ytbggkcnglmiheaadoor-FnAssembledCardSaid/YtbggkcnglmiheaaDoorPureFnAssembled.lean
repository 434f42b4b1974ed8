/- A drawn text is assembled to a bank, or the line is told that is none; with empty lines behind it it is the same. No condition. -/
import Derived.Test.YtbggkcnglmiheaaDoorMFnAssembledx0
import Derived.Test.YtbggkcnglmiheaaDoorMFnAssembledx1
import Derived.Test.YtbggkcnglmiheaaDoorMFnAssembledx2
import Derived.Test.YtbggkcnglmiheaaDoorMFnAssembledx3
import Derived.Laws.Bits128
import Derived.Lib.AtoiAll
namespace Go.Proofs.YtbggkcnglmiheaaDoor.Pure
open Go.RowKit Go.Proofs.YtbggkcnglmiheaaDoor.MFnAssembled Go.Proofs.YtbggkcnglmiheaaDoorW.PrintWords Go.Proofs.YtbggkcnglmiheaaDoorW.PrintLast Go.Proofs.YtbggkcnglmiheaaDoorW.PrintMore
set_option linter.unusedVariables false
set_option linter.unusedSimpArgs false
namespace LFnAssembled
theorem and_low (n : Int) (j : Nat) (m : Int) (hj : j < 64) (hm : (BitVec.ofInt 64 m).toNat = 2 ^ j - 1) : Go.bits .and .i64 n m = n % (2 ^ j : Nat) := by
  have key : (BitVec.ofInt 64 n &&& BitVec.ofInt 64 m).toNat = (n % ((2 ^ 64 : Nat) : Int)).toNat % 2 ^ j := by
    rw [BitVec.toNat_and, BitVec.toNat_ofInt, hm, Nat.and_two_pow_sub_one_eq_mod]
  show IntKind.i64.wrap ((BitVec.ofInt 64 n &&& BitVec.ofInt 64 m).toNat : Nat) = n % (2 ^ j : Nat)
  have hd : ((2 ^ j : Nat) : Int) ∣ ((2 ^ 64 : Nat) : Int) := by
    exact_mod_cast Nat.pow_dvd_pow 2 (Nat.le_of_lt hj)
  have hp : (0 : Int) < ((2 ^ j : Nat) : Int) := by exact_mod_cast Nat.two_pow_pos j
  have hle : ((2 ^ j : Nat) : Int) ≤ ((2 ^ 63 : Nat) : Int) := by
    exact_mod_cast Nat.pow_le_pow_right (by decide) (by omega)
  have e : (((n % ((2 ^ 64 : Nat) : Int)).toNat % 2 ^ j : Nat) : Int) = n % ((2 ^ j : Nat) : Int) := by
    rw [Int.natCast_emod, Int.toNat_of_nonneg (Int.emod_nonneg _ (by decide)), Int.emod_emod_of_dvd _ hd]
  rw [key, e, IntKind.wrap_i64]
  have h0 := Int.emod_nonneg n (Int.ne_of_gt hp)
  have h1 := Int.emod_lt_of_pos n hp
  generalize n % ((2 ^ j : Nat) : Int) = x at *
  generalize ((2 ^ j : Nat) : Int) = y at *
  have : ((2 ^ 63 : Nat) : Int) = 9223372036854775808 := by decide
  omega
theorem and255 (n : Int) : Go.bits .and .i64 n 255 = n % 256 := and_low n 8 255 (by decide) (by decide)
theorem and65535 (n : Int) : Go.bits .and .i64 n 65535 = n % 65536 := and_low n 16 65535 (by decide) (by decide)
theorem wrap_small {n : Int} (h0 : -9223372036854775808 ≤ n) (h1 : n ≤ 9223372036854775807) : wrap64 n = n := by
  unfold wrap64; omega
theorem wrap_nat {i : Nat} (h : i ≤ 4611686018427387904) : wrap64 ((i : Int) + 1) = ((i + 1 : Nat) : Int) := by
  unfold wrap64; omega
theorem rd_nat (l : List Int) (i : Nat) (h : i < l.length) : rd l (i : Int) = l[i] := by
  unfold rd; simp [List.getD, h]

section
open Go.Lib
/-- a digit's byte -/
theorem dig_byte (d : Nat) (h : d < 10) : (UInt8.ofNat (48 + d)).toNat = 48 + d := by
  rw [UInt8.toNat_ofNat']; omega
theorem dec_ne (u : Nat) : decDigits u ≠ [] := by
  rw [decDigits]; split <;> simp
theorem dec_digits (u : Nat) : ∀ c ∈ decDigits u, 48 ≤ c.toNat ∧ c.toNat ≤ 57 := by
  induction u using Nat.strongRecOn with
  | _ u ih =>
    intro c hc
    rw [decDigits] at hc
    split at hc
    · rename_i hs
      have := dig_byte u hs
      rw [List.mem_singleton] at hc
      subst hc
      omega
    · have hd := dig_byte (u % 10) (by omega)
      rw [List.mem_append] at hc
      rcases hc with hc | hc
      · exact ih (u / 10) (by omega) c hc
      · rw [List.mem_singleton] at hc
        subst hc
        omega
theorem itoa_nat (u : Nat) : itoa (u : Int) = decDigits u := by
  unfold itoa
  rw [if_neg (by omega)]
  rfl
theorem dec_len (u : Nat) (h : u < 100000) : (decDigits u).length ≤ 5 ∧ 1 ≤ (decDigits u).length := by
  have key : ∀ k u : Nat, u < 10 ^ (k + 1) → (decDigits u).length ≤ k + 1 := by
    intro k
    induction k with
    | zero => intro u h; rw [decDigits, dif_pos (by omega)]; simp
    | succ k ih =>
      intro u h
      rw [decDigits]
      split
      · simp
      · have := ih (u / 10) (by rw [Nat.pow_succ] at h; omega)
        simp; omega
  exact ⟨key 4 u (by omega), List.length_pos_iff.2 (dec_ne u)⟩
end

section
open Go.Lib
/-- The reference's digits of a number from 1 on, ahead of what there is. -/
theorem specDigits_l0 : ∀ (m : Nat) (u : Nat), u = m → 0 < u → u ≤ 1000000 → ∀ (s : List UInt8), s.length + u ≤ 10000000 → ∀ k, m + 1 < k → spec_l4Digits.l0 k (u : Int) ⟨s.toArray⟩ = some ⟨(decDigits u ++ s).toArray⟩ := by
  intro m
  induction m using Nat.strongRecOn with
  | _ m ih =>
    intro u hm h0 h1 s hs k hk
    obtain ⟨k, rfl⟩ : ∃ q, k = q + 1 := ⟨k - 1, by omega⟩
    simp only [spec_l4Digits.l0, Option.bind_some]
    have hsz : (⟨s.toArray⟩ : ByteArray).size = s.length := by show s.toArray.size = _; simp
    have e10 : Int.tmod (u : Int) 10 = ((u % 10 : Nat) : Int) := by rw [Int.tmod_eq_emod_of_nonneg (by omega)]; rfl
    have ed : Int.tdiv (u : Int) 10 = ((u / 10 : Nat) : Int) := by rw [Int.tdiv_eq_ediv_of_nonneg (by omega)]; rfl
    have eb : wrap64 (48 + ((u % 10 : Nat) : Int)) % 256 = ((48 + u % 10 : Nat) : Int) := by unfold wrap64; omega
    have es : strOfNums [((48 + u % 10 : Nat) : Int)] ++ (⟨s.toArray⟩ : ByteArray) = ⟨(UInt8.ofNat (48 + u % 10) :: s).toArray⟩ := by
      apply ByteArray.ext
      rw [ByteArray.data_append]
      apply Array.toList_inj.1
      rw [Array.toList_append]
      rfl
    rw [e10, ed, eb, if_pos (by omega), es, if_pos (by rw [strOfNums_size, hsz]; simp; omega), wrap_small (by omega) (by omega)]
    by_cases hs10 : u < 10
    · have : u / 10 = 0 := by omega
      rw [this]
      obtain ⟨k, rfl⟩ : ∃ q, k = q + 1 := ⟨k - 1, by omega⟩
      simp only [spec_l4Digits.l0]
      rw [if_neg (by omega), decDigits, dif_pos hs10, show u % 10 = u by omega]
      rfl
    · rw [ih (u / 10) (by omega) (u / 10) rfl (by omega) (by omega) _ (by simp; omega) k (by omega), decDigits.eq_1 u, dif_neg hs10]
      simp
theorem specDigits_ok (u : Nat) (h : u ≤ 1000000) (k : Nat) (hk : u + 1 < k) : spec_l4Digits.f k (u : Int) = some ⟨(itoa (u : Int)).toArray⟩ := by
  unfold spec_l4Digits.f
  rw [itoa_nat]
  by_cases h0 : (u : Int) = 0
  · rw [if_pos h0]
    have : u = 0 := by omega
    subst this
    rw [decDigits, dif_pos (by decide)]
    rfl
  · rw [if_neg h0]
    have := specDigits_l0 u u rfl (by omega) h [] (by simp; omega) k hk
    simpa using this
theorem implDigits_ok (n : Int) (h0 : 0 ≤ n) (h1 : n ≤ 1000000) (k : Nat) : impl_digits.f k n = some ⟨(itoa n).toArray⟩ := by
  unfold impl_digits.f
  rw [if_pos (by omega)]
theorem specDigits_int (n : Int) (h0 : 0 ≤ n) (h1 : n ≤ 1000000) (k : Nat) (hk : 1000002 < k) : spec_l4Digits.f k n = some ⟨(itoa n).toArray⟩ := by
  obtain ⟨u, rfl⟩ : ∃ u : Nat, n = u := ⟨n.toNat, by omega⟩
  exact specDigits_ok u (by omega) k (by omega)
theorem itoa_size (n : Int) (h0 : 0 ≤ n) (h1 : n < 100000) : (⟨(itoa n).toArray⟩ : ByteArray).size ≤ 5 := by
  obtain ⟨u, rfl⟩ : ∃ u : Nat, n = u := ⟨n.toNat, by omega⟩
  rw [itoa_nat]
  have := (dec_len u (by omega)).1
  show (decDigits u).toArray.size ≤ 5
  simpa using this
end

section
open Go.Lib
theorem parse_append (c : UInt8) : ∀ (l : List UInt8) (acc u : Nat), parseUint10 acc l = .ok u → 48 ≤ c.toNat → c.toNat ≤ 57 → u < 1844674407370955162 → u * 10 + (c.toNat - 48) < 18446744073709551616 →
    parseUint10 acc (l ++ [c]) = .ok (u * 10 + (c.toNat - 48))
  | [], acc, u, h, h0, h1, h2, h3 => by
    simp only [parseUint10] at h
    injection h with h
    subst h
    simp only [List.nil_append, parseUint10]
    rw [if_pos ⟨h0, h1⟩, if_neg (by omega), if_neg (by omega)]
  | a :: l, acc, u, h, h0, h1, h2, h3 => by
    simp only [parseUint10] at h
    simp only [List.cons_append, parseUint10]
    split at h
    · split at h
      · cases h
      · split at h
        · cases h
        · rw [if_pos (by assumption), if_neg (by assumption), if_neg (by assumption)]
          exact parse_append c l _ u h h0 h1 h2 h3
    · cases h
theorem parse_dec (u : Nat) (h : u < 1000000) : parseUint10 0 (decDigits u) = .ok u := by
  induction u using Nat.strongRecOn with
  | _ u ih =>
    by_cases hs : u < 10
    · rw [decDigits, dif_pos hs]
      have := dig_byte u hs
      simp only [parseUint10]
      rw [if_pos (by omega), if_neg (by omega), if_neg (by omega)]
      congr 1
      omega
    · rw [decDigits, dif_neg hs]
      have hd := dig_byte (u % 10) (by omega)
      rw [parse_append _ _ 0 (u / 10) (ih (u / 10) (by omega) (by omega)) (by omega) (by omega) (by omega) (by omega)]
      congr 1
      omega
theorem atoi_dec (u : Nat) (h : u < 1000000) : atoiAll (decDigits u) = .ok (u : Int) := by
  have hp := parse_dec u h
  have hne := dec_ne u
  have hd := dec_digits u
  revert hp hne hd
  generalize decDigits u = l
  intro hp hne hd
  cases l with
  | nil => exact absurd rfl hne
  | cons c r =>
    have hc := hd c (by simp)
    unfold atoiAll
    have e : ¬ (c.toNat = 43 ∨ c.toNat = 45) := by omega
    simp only [if_neg e]
    unfold parseMag
    rw [if_neg (by simp), hp]
    simp only
    rw [if_neg (by omega), if_neg (by omega), if_neg (by omega)]
/-- What impl.readNumber accepts: just the numerals of 0 .. most. -/
theorem read_iff (l : List UInt8) (n most : Int) (hm : most < 1000000) :
    (atoiAll l = .ok n ∧ 0 ≤ n ∧ n ≤ most ∧ itoa n = l) ↔ (0 ≤ n ∧ n ≤ most ∧ itoa n = l) := by
  constructor
  · rintro ⟨_, h⟩; exact h
  · rintro ⟨h0, h1, h2⟩
    refine ⟨?_, h0, h1, h2⟩
    obtain ⟨u, rfl⟩ : ∃ u : Nat, n = u := ⟨n.toNat, by omega⟩
    rw [← h2, itoa_nat]
    exact atoi_dec u (by omega)
end

section
open Go.Lib
theorem ten_le (i : Nat) (h : i ≤ 5) : (10 : Int) ^ i ≤ 100000 := by
  have : i = 0 ∨ i = 1 ∨ i = 2 ∨ i = 3 ∨ i = 4 ∨ i = 5 := by omega
  rcases this with rfl | rfl | rfl | rfl | rfl | rfl <;> decide
theorem ba_list (s : ByteArray) : s.toList = s.data.toList := ByteArray.toList_eq s
theorem ba_mk (s : ByteArray) : (⟨s.data.toList.toArray⟩ : ByteArray) = s := by cases s; simp
theorem ba_ext {a b : ByteArray} (h : a.data.toList = b.data.toList) : a = b := by rw [← ba_mk a, h, ba_mk]
theorem ba_size (s : ByteArray) : s.size = s.data.toList.length := rfl
theorem bt_list (s : ByteArray) (i : Nat) (h : i < s.data.toList.length) : bt s (i : Int) = ((s.data.toList[i]).toNat : Int) := by
  unfold bt
  rw [dif_pos (by simpa using h)]
  rfl
def dfold (acc : Int) : List UInt8 → Int
  | [] => acc
  | c :: r => dfold (10 * acc + (c.toNat : Int) - 48) r
theorem dfold_append (c : UInt8) : ∀ (l : List UInt8) (acc : Int), dfold acc (l ++ [c]) = 10 * dfold acc l + (c.toNat : Int) - 48
  | [], acc => rfl
  | a :: l, acc => by simp only [List.cons_append, dfold]; exact dfold_append c l _
theorem dfold_dec (u : Nat) : dfold 0 (decDigits u) = u := by
  induction u using Nat.strongRecOn with
  | _ u ih =>
    by_cases hs : u < 10
    · rw [decDigits, dif_pos hs]
      have := dig_byte u hs
      simp only [dfold]
      omega
    · rw [decDigits, dif_neg hs, dfold_append, ih (u / 10) (by omega)]
      have := dig_byte (u % 10) (by omega)
      omega
theorem dfold_bound : ∀ (l : List UInt8) (acc : Int), 0 ≤ acc → (∀ c ∈ l, 48 ≤ c.toNat ∧ c.toNat ≤ 57) → 0 ≤ dfold acc l ∧ dfold acc l < (acc + 1) * 10 ^ l.length
  | [], acc, h0, _ => by simp only [dfold, List.length_nil]; omega
  | c :: r, acc, h0, h => by
    have hc := h c (by simp)
    have := dfold_bound r (10 * acc + (c.toNat : Int) - 48) (by omega) (fun x hx => h x (by simp [hx]))
    simp only [dfold, List.length_cons]
    refine ⟨this.1, Int.lt_of_lt_of_le this.2 ?_⟩
    have hp : (0 : Int) ≤ 10 ^ r.length := Int.pow_nonneg (by decide)
    rw [Int.pow_succ]
    calc (10 * acc + (c.toNat : Int) - 48 + 1) * 10 ^ r.length ≤ ((acc + 1) * 10) * 10 ^ r.length := Int.mul_le_mul_of_nonneg_right (by omega) hp
      _ = (acc + 1) * (10 ^ r.length * 10) := by rw [Int.mul_assoc, Int.mul_comm 10]
/-- The reading of what is left, x having been read. -/
def numRest (S : List UInt8) (x : Int) (l : List UInt8) : Int := if ∀ c ∈ l, 48 ≤ c.toNat ∧ c.toNat ≤ 57 then (if itoa (dfold x l) = S then dfold x l else -1) else -1
def num5 (s : List UInt8) : Int := if s = [] ∨ 5 < s.length then -1 else numRest s 0 s
theorem num5_spec (s : List UInt8) (h : 0 ≤ num5 s) : itoa (num5 s) = s ∧ num5 s < 100000 := by
  unfold num5 at *
  by_cases h1 : s = [] ∨ 5 < s.length
  · rw [if_pos h1] at h; omega
  · rw [if_neg h1] at h ⊢
    unfold numRest at *
    by_cases h2 : ∀ c ∈ s, 48 ≤ c.toNat ∧ c.toNat ≤ 57
    · rw [if_pos h2] at h ⊢
      by_cases h3 : itoa (dfold 0 s) = s
      · rw [if_pos h3]
        refine ⟨h3, ?_⟩
        have hb := (dfold_bound s 0 (by decide) h2).2
        have hl : s.length ≤ 5 := by omega
        have hp := ten_le s.length hl
        omega
      · rw [if_neg h3] at h; omega
    · rw [if_neg h2] at h; omega
theorem num5_dec (u : Nat) (h : u < 100000) : num5 (decDigits u) = u := by
  unfold num5 numRest
  have hl := dec_len u h
  rw [if_neg (by rintro (q | q); exact dec_ne u q; omega), if_pos (dec_digits u), dfold_dec, itoa_nat, if_pos rfl]
theorem num5_range (s : List UInt8) : -1 ≤ num5 s := by
  unfold num5 numRest
  split
  · omega
  · split
    · split
      · have := (dfold_bound s 0 (by decide) (by assumption)).1
        omega
      · omega
    · omega
theorem numberV_eq (s : ByteArray) (m : Int) (hm : m ≤ 65535) : numberV s m = if 0 ≤ num5 s.data.toList ∧ num5 s.data.toList ≤ m then (num5 s.data.toList, true) else (0, false) := by
  generalize hl : s.data.toList = l
  have hs : s.toList = l := by rw [ba_list, hl]
  have et : ∀ v : Int, (⟨(itoa v).toArray⟩ : ByteArray).toList = itoa v := fun v => by rw [ba_list]
  unfold numberV
  rw [hl, hs]
  by_cases hc : 0 ≤ num5 l ∧ num5 l ≤ m
  · obtain ⟨h1, h2⟩ := num5_spec l hc.1
    rw [if_pos hc]
    generalize hn : num5 l = n at *
    have := (read_iff l n m (by omega)).2 ⟨hc.1, hc.2, h1⟩
    rw [this.1]
    simp only
    rw [if_pos ⟨hc.1, hc.2, by rw [et]; exact h1⟩]
  · rw [if_neg hc]
    split
    · rename_i v hv
      rw [if_neg]
      rintro ⟨h0, h1, h2⟩
      rw [et] at h2
      obtain ⟨u, rfl⟩ : ∃ u : Nat, v = u := ⟨v.toNat, by omega⟩
      rw [itoa_nat] at h2
      have := num5_dec u (by omega)
      rw [h2] at this
      omega
    · rfl
end

def names : List ByteArray := (impl_opNames.f).getD []
theorem names_len : names.length = 30 := rfl
theorem impl_names : impl_opNames.f = some names := rfl
theorem opOfI_l0 (L : List ByteArray) (s : ByteArray) (hL : L.length ≤ 1000) : ∀ (k i : Nat), i ≤ L.length → L.length - i < k →
    ∃ r : Int, slices_Index_string_string.l0 k L s (L.length : Int) (i : Int) = some r ∧
      ((r = -1 ∧ ∀ j : Nat, i ≤ j → j < L.length → (rdOf ByteArray.empty L (j : Int)).toList ≠ s.toList) ∨
        ∃ j : Nat, r = (j : Int) ∧ i ≤ j ∧ j < L.length ∧ (rdOf ByteArray.empty L (j : Int)).toList = s.toList ∧ ∀ m : Nat, i ≤ m → m < j → (rdOf ByteArray.empty L (m : Int)).toList ≠ s.toList) := by
  intro k
  induction k with
  | zero => intro i _ h; omega
  | succ k ih =>
    intro i hi h
    simp only [slices_Index_string_string.l0]
    by_cases hlt : i < L.length
    · have c1 : (i : Int) < (L.length : Int) := by omega
      have c0 : (0 : Int) ≤ (i : Int) := by omega
      simp only [c0, c1, if_true]
      by_cases he : (rdOf ByteArray.empty L (i : Int)).toList = s.toList
      · rw [if_pos he.symm]
        exact ⟨i, rfl, .inr ⟨i, rfl, Nat.le_refl _, hlt, he, fun m h1 h2 => by omega⟩⟩
      · rw [if_neg (fun e => he e.symm), wrap_nat (by omega)]
        obtain ⟨r, h2, h3⟩ := ih (i + 1) (by omega) (by omega)
        refine ⟨r, h2, ?_⟩
        rcases h3 with ⟨hr, h3⟩ | ⟨j, hr, hj, hjl, h3, h4⟩
        · refine .inl ⟨hr, fun j hj hjl => ?_⟩
          rcases Nat.lt_or_ge i j with hij | hij
          · exact h3 j hij hjl
          · have : j = i := by omega
            subst this
            exact he
        · refine .inr ⟨j, hr, by omega, hjl, h3, fun m hm hmj => ?_⟩
          rcases Nat.lt_or_ge i m with him | him
          · exact h4 m him hmj
          · have : m = i := by omega
            subst this
            exact he
    · rw [if_neg (by omega)]
      exact ⟨-1, rfl, .inl ⟨rfl, fun j h1 h2 => by omega⟩⟩
def OpIs (s : ByteArray) (r : Int) : Prop := (r = -1 ∧ ∀ j : Nat, j < 30 → (rdOf ByteArray.empty names (j : Int)).toList ≠ s.toList) ∨
      ∃ j : Nat, r = (j : Int) ∧ j < 30 ∧ (rdOf ByteArray.empty names (j : Int)).toList = s.toList ∧ ∀ m : Nat, m < j → (rdOf ByteArray.empty names (m : Int)).toList ≠ s.toList
theorem OpIs.same {s : ByteArray} {r r' : Int} (h3 : OpIs s r) (h3' : OpIs s r') : r = r' := by
  rcases h3 with ⟨rfl, n⟩ | ⟨j, rfl, hj, hy, hn⟩
  · rcases h3' with ⟨rfl, n'⟩ | ⟨j', rfl, hj', hy', hn'⟩
    · rfl
    · exact absurd hy' (n j' hj')
  · rcases h3' with ⟨rfl, n'⟩ | ⟨j', rfl, hj', hy', hn'⟩
    · exact absurd hy (n' j hj)
    · rcases Nat.lt_trichotomy j j' with h | h | h
      · exact absurd hy (hn' j h)
      · rw [h]
      · exact absurd hy' (hn j' h)
theorem opOfI_ok (s : ByteArray) (k : Nat) (hk : 30 < k) : ∃ r : Int, impl_OpOf.f k s = some r ∧ OpIs s r := by
  have hl := names_len
  obtain ⟨r, h2, h3⟩ := opOfI_l0 names s (by omega) k 0 (by omega) (by omega)
  refine ⟨r, ?_, ?_⟩
  · unfold impl_OpOf.f slices_Index_string_string.f
    rw [impl_names, Option.bind_some, show ((0 : Int)) = ((0 : Nat) : Int) from rfl, h2, Option.bind_some]
  · rw [hl] at h3
    rcases h3 with ⟨hr, h3⟩ | ⟨j, hr, _, hj, h4, h5⟩
    · exact .inl ⟨hr, fun j hj => h3 j (Nat.zero_le _) hj⟩
    · exact .inr ⟨j, hr, hj, h4, fun m hm => h5 m (Nat.zero_le _) hm⟩
/-- The op's number. -/
def opV (s : ByteArray) : Int := (impl_OpOf.f 100 s).getD (-1)
theorem opV_is (s : ByteArray) : OpIs s (opV s) := by
  obtain ⟨r, h1, h3⟩ := opOfI_ok s 100 (by decide)
  have er : opV s = r := by unfold opV; rw [h1]; rfl
  rw [er]
  exact h3
theorem implOpOf (s : ByteArray) (k : Nat) (hk : 30 < k) : impl_OpOf.f k s = some (opV s) := by
  obtain ⟨r, h1, h3⟩ := opOfI_ok s k hk
  rw [h1, (opV_is s).same h3]
theorem opV_le (s : ByteArray) : opV s ≤ 29 := by
  rcases opV_is s with ⟨h, -⟩ | ⟨j, h, hj, -⟩ <;> omega

theorem within_eq (x lo hi : Int) : impl_within.f x lo hi = some (decide (lo ≤ x ∧ x ≤ hi)) := by
  unfold impl_within.f
  split <;> simp <;> omega
theorem l1In_eq (x lo hi : Int) : spec_l1In.f x lo hi = some (decide (lo ≤ x ∧ x ≤ hi)) := by
  unfold spec_l1In.f
  split <;> simp <;> omega

def opLenV (a : Int) : Int := if a = 1 ∨ (4 ≤ a ∧ a ≤ 9) then 2 else if a = 2 ∨ a = 3 ∨ (14 ≤ a ∧ a ≤ 20) ∨ a = 29 then 3 else 1
theorem specOpLen (a : Int) : spec_OpLen.f a = some (opLenV a) := by
  by_cases h : 0 ≤ a ∧ a ≤ 29
  · have hc : ∀ n : Fin 30, spec_OpLen.f (n.val : Int) = some (opLenV (n.val : Int)) := by decide
    have := hc ⟨a.toNat, by omega⟩
    rw [show ((a.toNat : Nat) : Int) = a by omega] at this
    exact this
  · unfold spec_OpLen.f opLenV
    have e : decide (0 ≤ a ∧ a ≤ 29) = false := decide_eq_false h
    rw [l1In_eq, Option.bind_some, e, if_neg (by decide), if_neg (by omega), if_neg (by omega)]
theorem opLenV_three (a : Int) : opLenV a = 1 ∨ opLenV a = 2 ∨ opLenV a = 3 := by
  unfold opLenV; repeat' split
  all_goals omega

theorem implOpLen (a : Int) (k : Nat) (hk : 1 ≤ k) : impl_OpLen.f k a = some (opLenV a) := by
  obtain ⟨k, rfl⟩ : ∃ q, k = q + 1 := ⟨k - 1, by omega⟩
  unfold impl_OpLen.f opLenV
  by_cases h1 : a = 1
  · subst h1; simp [impl_OpLen.j0]
  · rw [if_neg h1, within_eq, Option.bind_some]
    simp only [impl_OpLen.j0]
    by_cases h2 : 4 ≤ a ∧ a ≤ 9
    · simp [h2]
    · have e : decide (4 ≤ a ∧ a ≤ 9) = false := decide_eq_false h2
      rw [e]
      simp only [Bool.false_eq_true, if_false, within_eq, Option.bind_some, h1, h2, or_self]
      by_cases h3 : a = 2
      · subst h3; simp
      · by_cases h4 : a = 3
        · subst h4; simp
        · by_cases h5 : 14 ≤ a ∧ a ≤ 20
          · simp [h3, h4, h5]
          · by_cases h6 : a = 29
            · subst h6; simp
            · have e5 : decide (14 ≤ a ∧ a ≤ 20) = false := decide_eq_false h5
              simp [h3, h4, h5, h6, e5]

section
open Go.Lib
/-- What stands ahead of the first blank, what behind it, whether there is one. -/
def cutL : List UInt8 → List UInt8 × List UInt8 × Bool
  | [] => ([], [], false)
  | c :: r => if c = 32 then ([], r, true) else (c :: (cutL r).1, (cutL r).2.1, (cutL r).2.2)
theorem index_cons (b : UInt8) (l : List UInt8) : index (b :: l) [32] = if b = 32 then 0 else if index l [32] == -1 then -1 else index l [32] + 1 := by
  by_cases h : b = 32
  · subst h
    rw [index]
    simp [List.isPrefixOf]
  · rw [index, if_neg h]
    have hp : ([32] : List UInt8).isPrefixOf (b :: l) = false := by simp [List.isPrefixOf, Ne.symm h]
    rw [hp]
    simp
theorem cut_eq : ∀ l : List UInt8, cut l [32] = cutL l
  | [] => by
    have : index ([] : List UInt8) [32] = -1 := by simp [index]
    unfold cut
    rw [this, if_neg (by decide)]
    rfl
  | b :: l => by
    have ih := cut_eq l
    have hge := index_ge l [32]
    unfold cut at ih ⊢
    rw [index_cons]
    simp only [cutL]
    by_cases h : b = 32
    · rw [if_pos h, if_pos h, if_pos (by decide)]
      simp
    · rw [if_neg h, if_neg h]
      by_cases hm : index l [32] = -1
      · have e : (index l [32] == -1) = true := beq_iff_eq.2 hm
        rw [if_pos e, if_neg (by decide)]
        rw [hm, if_neg (by decide)] at ih
        rw [← ih]
      · have e : ¬ (index l [32] == -1) = true := fun q => hm (beq_iff_eq.1 q)
        obtain ⟨j, hj⟩ : ∃ j : Nat, index l [32] = j := ⟨(index l [32]).toNat, by omega⟩
        rw [if_neg e, if_pos (by omega)]
        rw [if_pos (by omega)] at ih
        rw [← ih, hj]
        have e1 : ((j : Int) + 1).toNat = j + 1 := by omega
        rw [e1]
        simp only [Int.toNat_natCast, List.take_succ_cons, List.length_singleton]
        rw [show j + 1 + 1 = (j + 1) + 1 by omega, List.drop_succ_cons]
theorem cutL_nil : ∀ l : List UInt8, (cutL l).2.2 = false → (cutL l).1 = l ∧ (cutL l).2.1 = []
  | [], _ => ⟨rfl, rfl⟩
  | c :: r, h => by
    simp only [cutL] at h ⊢
    by_cases hc : c = 32
    · rw [if_pos hc] at h; cases h
    · rw [if_neg hc] at h ⊢
      have := cutL_nil r h
      exact ⟨by simp only [this.1], this.2⟩
def lineNum (q : List UInt8 × List UInt8 × Bool) : Int := if q.2.2 = true then num5 q.2.1 else -1
def atW : List UInt8 := [97, 116]
def byteW : List UInt8 := [98, 121, 116, 101]
/-- What a line that is not empty says: nothing; or the place to go on from, if it tells one, and the bytes. -/
def stepV (l : List UInt8) : Option (Option Int × List Int) :=
  if (cutL l).2.2 = true ∧ num5 (cutL l).2.1 < 0 then none
  else if (cutL l).1 = atW then (if 0 ≤ lineNum (cutL l) ∧ lineNum (cutL l) ≤ 255 then some (some (lineNum (cutL l)), []) else none)
  else if (cutL l).1 = byteW then (if 0 ≤ lineNum (cutL l) ∧ lineNum (cutL l) ≤ 255 then some (none, [lineNum (cutL l)]) else none)
  else if opV ⟨(cutL l).1.toArray⟩ < 0 then none
  else if opLenV (opV ⟨(cutL l).1.toArray⟩) = 1 then (if lineNum (cutL l) < 0 then some (none, [opV ⟨(cutL l).1.toArray⟩]) else none)
  else if opLenV (opV ⟨(cutL l).1.toArray⟩) = 2 then (if 0 ≤ lineNum (cutL l) ∧ lineNum (cutL l) ≤ 255 then some (none, [opV ⟨(cutL l).1.toArray⟩, lineNum (cutL l)]) else none)
  else (if 0 ≤ lineNum (cutL l) ∧ lineNum (cutL l) ≤ 65535 then some (none, [opV ⟨(cutL l).1.toArray⟩, lineNum (cutL l) % 256, lineNum (cutL l) / 256]) else none)
end

section
open Go.Lib
/-- The lines of a text: what stands ahead of each byte 10, and what stands behind the last one, if that is not empty. -/
def linesL : List UInt8 → List (List UInt8)
  | [] => []
  | c :: r => if c = 10 then [] :: linesL r else (match linesL r with | [] => [[c]] | h :: t => (c :: h) :: t)
def splitL : List UInt8 → List (List UInt8)
  | [] => [[]]
  | c :: r => if c = 10 then [] :: splitL r else (match splitL r with | [] => [[c]] | h :: t => (c :: h) :: t)
theorem splitL_ne : ∀ l : List UInt8, splitL l ≠ []
  | [] => by simp [splitL]
  | c :: r => by
    simp only [splitL]
    split
    · simp
    · split <;> simp
def dropE (L : List (List UInt8)) : List (List UInt8) := if L.getLast? = some [] then L.dropLast else L
theorem dropE_cons (h : List UInt8) (M : List (List UInt8)) (hM : M ≠ []) : dropE (h :: M) = h :: dropE M := by
  unfold dropE
  obtain ⟨a, M', rfl⟩ := List.exists_cons_of_ne_nil hM
  rw [List.getLast?_cons_cons]
  split <;> simp
theorem linesL_eq : ∀ l : List UInt8, linesL l = dropE (splitL l)
  | [] => rfl
  | c :: r => by
    have ih := linesL_eq r
    have hne := splitL_ne r
    simp only [linesL, splitL]
    by_cases hc : c = 10
    · rw [if_pos hc, if_pos hc, dropE_cons _ _ hne, ih]
    · rw [if_neg hc, if_neg hc, ih]
      obtain ⟨h, t, e⟩ := List.exists_cons_of_ne_nil hne
      rw [e]
      cases t with
      | nil =>
        cases h with
        | nil => rfl
        | cons a h => simp [dropE]
      | cons b t =>
        show (match dropE (h :: b :: t) with | [] => [[c]] | h :: t => (c :: h) :: t) = dropE ((c :: h) :: b :: t)
        rw [dropE_cons h (b :: t) (by simp), dropE_cons (c :: h) (b :: t) (by simp)]
theorem splitL_none : ∀ l : List UInt8, (∀ c ∈ l, c ≠ 10) → splitL l = [l]
  | [], _ => rfl
  | c :: r, h => by
    simp only [splitL]
    rw [if_neg (h c (by simp)), splitL_none r (fun x hx => h x (by simp [hx]))]
theorem splitL_app : ∀ (p r : List UInt8), (∀ c ∈ p, c ≠ 10) → splitL (p ++ 10 :: r) = p :: splitL r
  | [], r, _ => by simp [splitL]
  | c :: p, r, h => by
    simp only [List.cons_append, splitL]
    rw [if_neg (h c (by simp)), splitL_app p r (fun x hx => h x (by simp [hx]))]
theorem linesL_app (p r : List UInt8) (h : ∀ c ∈ p, c ≠ 10) : linesL (p ++ 10 :: r) = p :: linesL r := by
  rw [linesL_eq, splitL_app p r h, dropE_cons _ _ (splitL_ne r), linesL_eq]
theorem linesL_one (p : List UInt8) (h : ∀ c ∈ p, c ≠ 10) (hp : p ≠ []) : linesL p = [p] := by
  rw [linesL_eq, splitL_none p h]
  unfold dropE
  rw [if_neg (by simpa using hp)]
theorem index10 (b : UInt8) (l : List UInt8) : index (b :: l) [10] = if b = 10 then 0 else if index l [10] == -1 then -1 else index l [10] + 1 := by
  by_cases h : b = 10
  · subst h
    rw [index]
    simp [List.isPrefixOf]
  · rw [index, if_neg h]
    have hp : ([10] : List UInt8).isPrefixOf (b :: l) = false := by simp [List.isPrefixOf, Ne.symm h]
    rw [hp]
    simp
theorem splitK_eq : ∀ s : List UInt8, splitK [10] 0 (count s [10]) s = splitL s
  | [] => by
    have : count ([] : List UInt8) [10] = 0 := by rw [count_one]; rfl
    rw [this]
    rfl
  | b :: l => by
    have ih := splitK_eq l
    have hge := index_ge l [10]
    simp only [splitL]
    by_cases h : b = 10
    · subst h
      rw [count_cons_eq, show 1 + count l [10] = count l [10] + 1 by omega, if_pos rfl]
      simp only [splitK, index10, if_true]
      rw [if_neg (by decide)]
      simp [ih]
    · rw [count_cons_ne b 10 l h, if_neg h]
      cases hk : count l [10] with
      | zero =>
        rw [hk] at ih
        simp only [splitK] at ih ⊢
        rw [← ih]
      | succ k =>
        rw [hk] at ih
        simp only [splitK] at ih ⊢
        rw [index10, if_neg h]
        by_cases hm : (index l [10] == -1) = true
        · rw [if_pos hm, if_pos (by decide)]
          rw [if_pos hm] at ih
          rw [← ih]
        · have hm2 : index l [10] ≠ -1 := fun q => hm (beq_iff_eq.2 q)
          obtain ⟨j, hj⟩ : ∃ j : Nat, index l [10] = j := ⟨(index l [10]).toNat, by omega⟩
          rw [if_neg hm, if_neg (fun q => by have := beq_iff_eq.1 q; omega)]
          rw [if_neg hm] at ih
          rw [← ih, hj]
          have e1 : ((j : Int) + 1).toNat = j + 1 := by omega
          rw [e1]
          simp only [Int.toNat_natCast, Nat.add_zero, List.take_succ_cons, List.length_singleton]
          rw [show j + 1 + 1 = (j + 1) + 1 by omega, List.drop_succ_cons]
/-- Bytes put one behind the other, from place p on. -/
def writeV : List Int → Int → List Int → List Int × Int
  | out, p, [] => (out, p)
  | out, p, x :: r => writeV (out.set (p % 256).toNat x) (p + 1) r
theorem writeV_len : ∀ (L : List Int) (out : List Int) (p : Int), (writeV out p L).1.length = out.length ∧ (writeV out p L).2 = p + L.length
  | [], out, p => by simp [writeV]
  | x :: r, out, p => by
    have := writeV_len r (out.set (p % 256).toNat x) (p + 1)
    simp only [writeV, List.length_cons]
    rw [this.1, this.2]
    exact ⟨by simp, by omega⟩
/-- A bank, line by line. -/
def runL : List (List UInt8) → List Int → Int → Int → List Int × Int
  | [], out, _, _ => (out, 0)
  | l :: r, out, p, m => if l = [] then runL r out p (m + 1) else match stepV l with
    | none => ([], m + 1)
    | some (nw, bs) => runL r (writeV out (nw.getD p) bs).1 (writeV out (nw.getD p) bs).2 (m + 1)
theorem stepV_small (l : List UInt8) (nw : Option Int) (bs : List Int) (h : stepV l = some (nw, bs)) : bs.length ≤ 3 ∧ ∀ n, nw = some n → 0 ≤ n ∧ n ≤ 255 := by
  unfold stepV at h
  repeat' split at h
  all_goals first
    | (cases h; done)
    | (simp only [Option.some.injEq, Prod.mk.injEq] at h
       obtain ⟨rfl, rfl⟩ := h
       refine ⟨by simp, fun n hn => ?_⟩
       first | (cases hn; done) | (simp only [Option.some.injEq] at hn; omega))
/-- What Assemble answers. -/
def asmV (l : List UInt8) : List Int × Int := if l.length > 3000 then ([], -1) else runL (linesL l) (List.replicate 256 0) 0 0
end

section
open Go.Lib
theorem strCut (s : ByteArray) (hs : s.size < 4294967281) : strings_Cut.f s ⟨#[32]⟩ = some (⟨(cutL s.data.toList).1.toArray⟩, ⟨(cutL s.data.toList).2.1.toArray⟩, (cutL s.data.toList).2.2) := by
  unfold strings_Cut.f
  have e : (⟨#[32]⟩ : ByteArray).data.toList = [32] := rfl
  rw [if_pos hs, e, cut_eq]
theorem implNumber (s : ByteArray) (hs : s.size ≤ 281474976710656) (m : Int) (hm : m ≤ 65535) (k : Nat) :
    impl_readNumber.f k s m = some (if 0 ≤ num5 s.data.toList ∧ num5 s.data.toList ≤ m then (num5 s.data.toList, true) else (0, false)) := by
  unfold impl_readNumber.f
  rw [if_pos hs, numberV_eq s m hm]
theorem num5_nil : num5 [] = -1 := rfl
theorem cutL_small : ∀ l : List UInt8, (cutL l).1.length ≤ l.length ∧ (cutL l).2.1.length ≤ l.length
  | [] => ⟨by simp [cutL], by simp [cutL]⟩
  | c :: r => by
    have := cutL_small r
    simp only [cutL]
    by_cases h : c = 32
    · rw [if_pos h]
      exact ⟨by simp, by simp⟩
    · rw [if_neg h]
      simp only [List.length_cons]
      omega
/-- A line that begins with at and a blank. -/
def atPre : List UInt8 → Option (List UInt8)
  | 97 :: 116 :: 32 :: r => some r
  | _ => none
theorem cut_at (l p : List UInt8) (h : l = 97 :: 116 :: 32 :: p) : cutL l = (atW, p, true) := by
  subst h
  simp [cutL, atW]
theorem at_cut (l : List UInt8) (h : (cutL l).1 = atW) (hf : (cutL l).2.2 = true) : l = 97 :: 116 :: 32 :: (cutL l).2.1 := by
  cases l with
  | nil => simp [cutL] at hf
  | cons a l =>
    by_cases ha : a = 32
    · simp [cutL, ha, atW] at h
    · cases l with
      | nil => simp [cutL, ha] at hf
      | cons b l =>
        by_cases hb : b = 32
        · simp [cutL, ha, hb, atW] at h
        · cases l with
          | nil => simp [cutL, ha, hb] at hf
          | cons c l =>
            by_cases hc : c = 32
            · simp [cutL, ha, hb, hc, atW] at h ⊢
              exact h
            · simp [cutL, ha, hb, hc, atW] at h
theorem cutPre (s : ByteArray) (hs : s.size ≤ 1000000) : strings_CutPrefix.f s ⟨#[97, 116, 32]⟩ = some (if s.data.toList.take 3 = [97, 116, 32] then (⟨(s.data.toList.drop 3).toArray⟩, true) else (s, false)) := by
  have hsz : s.size = s.data.toList.length := rfl
  have e3 : ((⟨#[97, 116, 32]⟩ : ByteArray).size : Int) = 3 := rfl
  have e4 : (⟨#[97, 116, 32]⟩ : ByteArray).toList = [97, 116, 32] := by rw [ba_list]
  unfold strings_CutPrefix.f stringslite_CutPrefix.f stringslite_HasPrefix.f
  rw [e3, e4]
  by_cases h3 : (s.size : Int) ≥ 3
  · have ex : (s.extract 0 ((3 : Int)).toNat).toList = s.data.toList.take 3 := by
      rw [ba_list, show ((3 : Int)).toNat = 3 from rfl, extract_from_zero]
    have ed : s.extract ((3 : Int)).toNat s.size = ⟨(s.data.toList.drop 3).toArray⟩ := by
      apply ba_ext
      rw [show ((3 : Int)).toNat = 3 from rfl, extract_to_end]
    rw [if_pos h3, if_pos (by decide), if_pos h3, ex, Option.bind_some]
    by_cases ht : s.data.toList.take 3 = [97, 116, 32]
    · have eb : (s.data.toList.take 3 == ([97, 116, 32] : List UInt8)) = true := beq_iff_eq.2 ht
      rw [eb, if_pos rfl, if_pos (by decide), if_pos h3, Option.bind_some, if_pos ht, ed]
    · have eb : (s.data.toList.take 3 == ([97, 116, 32] : List UInt8)) = false := beq_eq_false_iff_ne.2 ht
      rw [eb, if_neg (by decide), Option.bind_some, if_neg ht]
  · rw [if_neg h3, Option.bind_some, if_neg (by decide), Option.bind_some, if_neg]
    intro q
    have := congrArg List.length q
    rw [List.length_take] at this
    simp at this
    omega
theorem implBytes (s : ByteArray) (hs : s.size ≤ 1000000) (hat : ¬ s.data.toList.take 3 = [97, 116, 32]) (k : Nat) (hk : 1000 < k) :
    ∃ r : List Int × Bool, impl_lineBytes.f k s = some r ∧ ((r.2 = false ∧ stepV s.data.toList = none) ∨ (r.2 = true ∧ stepV s.data.toList = some (none, r.1))) := by
  unfold impl_lineBytes.f
  have hc := cutL_small s.data.toList
  have hc2 := cutL_nil s.data.toList
  have hac := at_cut s.data.toList
  have hsz : s.size = s.data.toList.length := rfl
  rw [strCut s (by omega), Option.bind_some]
  unfold stepV
  generalize hq : cutL s.data.toList = q at *
  obtain ⟨w, a, f⟩ := q
  simp only at hc hc2 hac ⊢
  have hw : (⟨w.toArray⟩ : ByteArray).toList = w := by rw [ba_list]
  have ea : (⟨a.toArray⟩ : ByteArray).data.toList = a := rfl
  have hn1 := num5_range a
  have hasz : (⟨a.toArray⟩ : ByteArray).size ≤ 281474976710656 := by show a.toArray.size ≤ _; simp; omega
  have o2 := implOpOf ⟨w.toArray⟩ k (by omega)
  have o3 := opV_le ⟨w.toArray⟩
  rw [o2, Option.bind_some, implNumber _ hasz 255 (by decide), Option.bind_some, hw, ea]
  have key : f = false → num5 a = -1 := by
    intro hf
    rw [(hc2 hf).2]
    rfl
  have hln : lineNum (w, a, f) = num5 a := by
    unfold lineNum
    cases f with
    | true => rfl
    | false => rw [key rfl]; rfl
  rw [hln]
  have hatw : w = atW → num5 a = -1 ∨ num5 a < 0 := by
    intro hw2
    cases f with
    | false => exact .inl (key rfl)
    | true =>
      exfalso
      have := hac hw2 rfl
      rw [this] at hat
      exact hat rfl
  by_cases hby : w = byteW
  · have hby2 : w = ([98, 121, 116, 101] : List UInt8) := hby
    have hna : ¬ w = atW := by rw [hby]; decide
    rw [if_pos hby2, if_neg hna, if_pos hby]
    by_cases hr : 0 ≤ num5 a ∧ num5 a ≤ 255
    · rw [if_pos hr, if_neg (by omega), if_pos hr]
      exact ⟨_, rfl, .inr ⟨rfl, rfl⟩⟩
    · rw [if_neg hr]
      refine ⟨_, rfl, .inl ⟨rfl, ?_⟩⟩
      split <;> first | rfl | (rw [if_neg hr])
  · have hby2 : ¬ w = ([98, 121, 116, 101] : List UInt8) := hby
    rw [if_neg hby2, if_neg hby]
    generalize hop : opV ⟨w.toArray⟩ = op
    by_cases ho : op < 0
    · rw [if_pos ho, if_pos ho]
      refine ⟨_, rfl, .inl ⟨rfl, ?_⟩⟩
      split
      · rfl
      · split
        · rename_i hh
          rcases hatw hh with q | q <;> rw [if_neg (by omega)]
        · rfl
    · rw [if_neg ho, if_neg ho]
      have hna : ¬ w = atW := by
        intro q
        rw [q] at hop
        have : opV ⟨atW.toArray⟩ = -1 := by
          rcases opV_is ⟨atW.toArray⟩ with ⟨h3, -⟩ | ⟨j, -, hj, h4, -⟩
          · exact h3
          · have hz : ∀ j : Fin 30, (rdOf ByteArray.empty names (j.val : Int)).data.toList.length = 3 := by decide
            have := hz ⟨j, hj⟩
            rw [ba_list, ba_list] at h4
            rw [h4] at this
            cases this
        omega
      rw [if_neg hna, implOpLen op k (by omega), Option.bind_some]
      by_cases h1 : opLenV op = 1
      · rw [if_pos h1, if_pos h1]
        cases f with
        | false =>
          have := key rfl
          rw [if_neg (by rintro ⟨q, _⟩; cases q), if_pos (by omega)]
          exact ⟨_, rfl, .inr ⟨rfl, rfl⟩⟩
        | true =>
          refine ⟨_, rfl, .inl ⟨rfl, ?_⟩⟩
          by_cases hneg : num5 a < 0
          · rw [if_pos ⟨rfl, hneg⟩]
          · rw [if_neg (fun q => hneg q.2), if_neg hneg]
      · rw [if_neg h1, if_neg h1, Option.bind_some]
        by_cases h2 : opLenV op = 2
        · rw [if_pos h2, if_pos h2]
          by_cases hr : 0 ≤ num5 a ∧ num5 a ≤ 255
          · rw [if_pos hr, if_neg (by omega), if_pos hr]
            exact ⟨_, rfl, .inr ⟨rfl, rfl⟩⟩
          · rw [if_neg hr]
            refine ⟨_, rfl, .inl ⟨rfl, ?_⟩⟩
            split <;> first | rfl | (rw [if_neg hr])
        · rw [if_neg h2, if_neg h2, implNumber _ hasz 65535 (by decide), Option.bind_some, ea]
          by_cases hr : 0 ≤ num5 a ∧ num5 a ≤ 65535
          · have e1 : Int.tmod (num5 a) 256 = num5 a % 256 := Int.tmod_eq_emod_of_nonneg hr.1
            have e2 : wrap64 (Int.tdiv (num5 a) 256) = num5 a / 256 := by
              rw [Int.tdiv_eq_ediv_of_nonneg hr.1, wrap_small (by omega) (by omega)]
            rw [if_pos hr, if_neg (by omega), if_pos hr]
            simp only [e1, e2]
            exact ⟨_, rfl, .inr ⟨rfl, rfl⟩⟩
          · rw [if_neg hr]
            refine ⟨_, rfl, .inl ⟨rfl, ?_⟩⟩
            split <;> first | rfl | (rw [if_neg hr])
theorem lines_both (s : ByteArray) (hs : s.size ≤ 1000000) : ∃ L : List ByteArray, impl_linesOf.f s = some L ∧ L.map (·.data.toList) = linesL s.data.toList ∧ (∀ x ∈ L, x.size ≤ 1000000) ∧ L.length ≤ 1000001 := by
  have hle := countB_le ⟨#[10]⟩ (by decide) _ s (Nat.le_refl _)
  have hlen := linesV_length s
  have hd : (linesV s).map (·.data.toList) = splitL s.data.toList := by
    unfold linesV
    rw [splitB_data]
    have e : countB s ⟨#[10]⟩ = count s.data.toList [10] := rfl
    rw [e]
    exact splitK_eq _
  generalize hn : countB s ⟨#[10]⟩ = n at *
  have hlast : (rdOf ByteArray.empty (linesV s) ((n : Nat) : Int)).toList = [] ↔ (splitL s.data.toList).getLast? = some [] := by
    rw [← hd, List.getLast?_eq_getElem?, List.length_map, hlen, Nat.add_sub_cancel, List.getElem?_map]
    unfold rdOf
    rw [Int.toNat_natCast, List.getD_eq_getElem?_getD, List.getElem?_eq_getElem (show n < (linesV s).length by omega), ba_list]
    simp
  have hsm : ∀ x ∈ linesV s, x.size ≤ 1000000 := by
    intro x hx
    have hx2 : x.data.toList ∈ splitL s.data.toList := by rw [← hd]; exact List.mem_map.2 ⟨x, hx, rfl⟩
    have : ∀ (l : List UInt8) (y : List UInt8), y ∈ splitL l → y.length ≤ l.length := by
      intro l
      induction l with
      | nil => intro y hy; simp [splitL] at hy; subst hy; simp
      | cons c r ih =>
        intro y hy
        simp only [splitL] at hy
        split at hy
        · rcases List.mem_cons.1 hy with rfl | hy
          · simp
          · have := ih y hy; simp; omega
        · have hne := splitL_ne r
          obtain ⟨h, t, e⟩ := List.exists_cons_of_ne_nil hne
          rw [e] at hy ih
          rcases List.mem_cons.1 hy with rfl | hy
          · have := ih h (by simp); simp; omega
          · have := ih y (by simp [hy]); simp; omega
    have := this _ _ hx2
    have e2 : x.size = x.data.toList.length := rfl
    have e3 : s.size = s.data.toList.length := rfl
    omega
  unfold impl_linesOf.f
  rw [if_pos (by omega), hn]
  by_cases hc : (rdOf ByteArray.empty (linesV s) ((n : Nat) : Int)).toList = []
  · rw [if_pos hc]
    refine ⟨_, rfl, ?_, fun x hx => hsm x (List.mem_of_mem_take hx), by rw [List.length_take]; omega⟩
    rw [linesL_eq]
    unfold dropE
    rw [if_pos (hlast.1 hc), ← hd, List.dropLast_eq_take, List.length_map, hlen, Nat.add_sub_cancel, List.map_take]
  · rw [if_neg hc]
    refine ⟨_, rfl, ?_, hsm, by omega⟩
    rw [linesL_eq]
    unfold dropE
    rw [if_neg (fun q => hc (hlast.2 q)), ← hd]
theorem implAsm_w (at_ : List ByteArray) (x22 x23 : Int) (L : List Int) (hL : L.length ≤ 3) (K : Nat) (R : Option (List Int × Int)) :
    ∀ (d j : Nat), L.length - j = d → j ≤ L.length → ∀ (m : List Int) (p : Int), m.length = 256 → 0 ≤ p →
      (∀ k, K < k → impl_Assemble.l0 k (writeV m p (L.drop j)).1 ((writeV m p (L.drop j)).2 % 256) at_ x22 (wrap64 (x23 + 1)) = R) →
      ∀ k, K + d + 1 < k → impl_Assemble.l1 k m (p % 256) at_ x22 x23 L (L.length : Int) (j : Int) = R := by
  intro d
  induction d with
  | zero =>
    intro j hd hj m p hm h0 next k hk
    obtain ⟨k, rfl⟩ : ∃ q, k = q + 1 := ⟨k - 1, by omega⟩
    rw [List.drop_eq_nil_of_le (by omega)] at next
    simp only [impl_Assemble.l1]
    rw [if_neg (by omega)]
    exact next k (by omega)
  | succ d ih =>
    intro j hd hj m p hm h0 next k hk
    obtain ⟨k, rfl⟩ : ∃ q, k = q + 1 := ⟨k - 1, by omega⟩
    have hlt : j < L.length := by omega
    rw [List.drop_eq_getElem_cons hlt] at next
    simp only [writeV] at next
    simp only [impl_Assemble.l1]
    have e : Int.tmod (wrap64 (p % 256 + 1)) 256 = (p + 1) % 256 := by
      rw [wrap_small (by omega) (by omega), Int.tmod_eq_emod_of_nonneg (by omega)]; omega
    rw [if_pos (by omega), if_pos (by omega), if_pos (by omega), if_pos (by omega), if_pos (by omega), wrap_nat (by omega), rd_nat L j hlt, e]
    exact ih (j + 1) (by omega) (by omega) _ (p + 1) (by simpa using hm) (by omega) next k (by omega)
theorem implAsm_l0 (L : List ByteArray) (hL : ∀ x ∈ L, x.size ≤ 1000000) (hn : L.length ≤ 1000001) : ∀ (d i : Nat), L.length - i = d → i ≤ L.length → ∀ (m : List Int) (p : Int), m.length = 256 → 0 ≤ p → ∀ k, 3000000 + 10 * d < k →
    impl_Assemble.l0 k m (p % 256) L (L.length : Int) (i : Int) = some (runL ((L.drop i).map (·.data.toList)) m p (i : Int)) := by
  intro d
  induction d with
  | zero =>
    intro i hd hi m p hm h0 k hk
    obtain ⟨k, rfl⟩ : ∃ q, k = q + 1 := ⟨k - 1, by omega⟩
    simp only [impl_Assemble.l0]
    rw [if_neg (by omega), List.drop_eq_nil_of_le (by omega)]
    rfl
  | succ d ih =>
    intro i hd hi m p hm h0 k hk
    obtain ⟨k, rfl⟩ : ∃ q, k = q + 1 := ⟨k - 1, by omega⟩
    have hlt : i < L.length := by omega
    have er : rdOf ByteArray.empty L (i : Int) = L[i] := by
      unfold rdOf
      rw [Int.toNat_natCast, List.getD_eq_getElem?_getD, List.getElem?_eq_getElem hlt]
      rfl
    have hsz := hL L[i] (List.getElem_mem hlt)
    rw [List.drop_eq_getElem_cons hlt]
    simp only [impl_Assemble.l0, List.map_cons, runL]
    rw [if_pos (by omega), if_pos (by omega), if_pos (by omega), er, ba_list, wrap_nat (by omega)]
    have e1 : ((i : Int) + 1) = ((i + 1 : Nat) : Int) := by omega
    rw [e1]
    generalize hs : L[i] = s at *
    by_cases hemp : s.data.toList = []
    · rw [if_pos hemp, if_pos hemp]
      exact ih (i + 1) (by omega) (by omega) m p hm h0 k (by omega)
    · rw [if_neg hemp, if_neg hemp, cutPre s hsz, Option.bind_some]
      by_cases hat : s.data.toList.take 3 = [97, 116, 32]
      · rw [if_pos hat, if_pos rfl]
        have hl : s.data.toList = 97 :: 116 :: 32 :: s.data.toList.drop 3 := by
          have := List.take_append_drop 3 s.data.toList
          rw [hat] at this
          exact this.symm
        have hcut := cut_at _ _ hl
        have ed : (⟨(s.data.toList.drop 3).toArray⟩ : ByteArray).data.toList = s.data.toList.drop 3 := rfl
        have edz : (⟨(s.data.toList.drop 3).toArray⟩ : ByteArray).size ≤ 281474976710656 := by
          have e2 : s.size = s.data.toList.length := rfl
          show (s.data.toList.drop 3).toArray.size ≤ _
          simp
          omega
        rw [implNumber _ edz 255 (by decide), Option.bind_some, ed]
        generalize s.data.toList.drop 3 = a at *
        have hst : stepV s.data.toList = if 0 ≤ num5 a ∧ num5 a ≤ 255 then some (some (num5 a), []) else none := by
          unfold stepV
          rw [hcut]
          simp only [lineNum, if_true, true_and]
          by_cases hneg : num5 a < 0
          · rw [if_pos hneg, if_neg (by omega)]
          · rw [if_neg hneg]
        rw [hst]
        by_cases hr : 0 ≤ num5 a ∧ num5 a ≤ 255
        · rw [if_pos hr, if_pos hr, if_pos rfl]
          simp only [Option.getD_some, writeV]
          have := ih (i + 1) (by omega) (by omega) m (num5 a) hm hr.1 k (by omega)
          rw [show num5 a % 256 = num5 a by omega] at this
          exact this
        · rw [if_neg hr, if_neg hr, if_neg (by decide)]
      · rw [if_neg hat, if_neg (show ¬ ((s, false) : ByteArray × Bool).2 = true from fun q => by cases q)]
        obtain ⟨⟨bs, ok⟩, e, hr⟩ := implBytes s hsz hat k (by omega)
        rw [e, Option.bind_some]
        simp only at hr ⊢
        rcases hr with ⟨hok, hst⟩ | ⟨hok, hst⟩
        · rw [hst, hok, if_neg (by decide)]
        · rw [hst, hok, if_pos rfl]
          simp only [Option.getD_none]
          have hb := (stepV_small _ _ _ hst).1
          have hw := writeV_len bs m p
          refine implAsm_w L _ _ bs hb (3000000 + 10 * d) _ bs.length 0 (by omega) (by omega) m p hm h0 ?_ k (by omega)
          intro q hq
          rw [wrap_nat (by omega), List.drop_zero]
          exact ih (i + 1) (by omega) (by omega) _ _ (by rw [hw.1]; exact hm) (by rw [hw.2]; omega) q hq
theorem implAsm (s : ByteArray) (k : Nat) (hk : 3100000 < k) : impl_Assemble.f k s = some (asmV s.data.toList) := by
  have hsz : s.size = s.data.toList.length := rfl
  unfold impl_Assemble.f asmV
  by_cases h : (s.size : Int) > 3000
  · rw [if_pos h, if_pos (by omega)]
  · obtain ⟨L, e, hd, hx, hn⟩ := lines_both s (by omega)
    rw [if_neg h, if_neg (show ¬ s.data.toList.length > 3000 by omega), if_pos (show (256 : Nat) ≤ 35184372088832 by decide), e, Option.bind_some]
    have hln : L.length ≤ s.size + 1 := by
      have := congrArg List.length hd
      rw [List.length_map] at this
      have h2 : ∀ l : List UInt8, (linesL l).length ≤ l.length := by
        intro l
        induction l with
        | nil => simp [linesL]
        | cons c r ih =>
          simp only [linesL]
          split
          · simp; omega
          · split
            · simp
            · rename_i h t he
              rw [he] at ih
              simp at ih ⊢
              omega
      have := h2 s.data.toList
      omega
    have := implAsm_l0 L hx hn L.length 0 (by omega) (by omega) (List.replicate 256 0) 0 List.length_replicate (by omega) k (by omega)
    rw [List.drop_zero, hd] at this
    exact this
end
theorem runL_len : ∀ (L : List (List UInt8)) (m : List Int) (p n : Int), m.length = 256 → (runL L m p n).1.length = 256 ∨ (runL L m p n).1.length = 0
  | [], m, p, n, h => .inl h
  | l :: r, m, p, n, h => by
    simp only [runL]
    split
    · exact runL_len r m p _ h
    · split
      · exact .inr rfl
      · rename_i nw bs hst
        exact runL_len r _ _ _ (by rw [(writeV_len bs m _).1]; exact h)
theorem asmV_len (l : List UInt8) : (asmV l).1.length = 256 ∨ (asmV l).1.length = 0 := by
  unfold asmV
  split
  · exact .inr rfl
  · exact runL_len _ _ _ _ List.length_replicate

section
open Go.Lib
theorem specNum_l0 (s : ByteArray) (hs : s.size ≤ 5) : ∀ (d i : Nat) (x : Int), s.size - i = d → i ≤ s.size → 0 ≤ x → x < 10 ^ i → ∀ k, d + 1000010 < k → spec_l4Num.l0 k s x (i : Int) = some (numRest s.data.toList x (s.data.toList.drop i)) := by
  intro d
  induction d with
  | zero =>
    intro i x hd hi h0 h1 k hk
    obtain ⟨k, rfl⟩ : ∃ q, k = q + 1 := ⟨k - 1, by omega⟩
    simp only [spec_l4Num.l0]
    have h10 := ten_le i (by omega)
    rw [if_neg (by omega), specDigits_int x h0 (by omega) k (by omega), Option.bind_some, List.drop_eq_nil_of_le (by rw [← ba_size]; omega)]
    have ei : (⟨(itoa x).toArray⟩ : ByteArray).toList = itoa x := by rw [ba_list]
    have hv : ∀ c ∈ ([] : List UInt8), 48 ≤ c.toNat ∧ c.toNat ≤ 57 := by simp
    unfold numRest
    rw [ba_list s, ei, if_pos hv]
    by_cases hq : itoa x = s.data.toList
    · rw [if_pos hq]
      exact congrArg some (if_pos (c := itoa (dfold x []) = s.data.toList) hq).symm
    · rw [if_neg hq]
      exact congrArg some (if_neg (c := itoa (dfold x []) = s.data.toList) hq).symm
  | succ d ih =>
    intro i x hd hi h0 h1 k hk
    obtain ⟨k, rfl⟩ : ∃ q, k = q + 1 := ⟨k - 1, by omega⟩
    have hlt : i < s.data.toList.length := by rw [← ba_size]; omega
    have h10 := ten_le (i + 1) (by omega)
    have e10 : (10 : Int) ^ (i + 1) = 10 ^ i * 10 := Int.pow_succ 10 i
    simp only [spec_l4Num.l0]
    rw [if_pos (by omega), if_pos (by omega), bt_list s i hlt, List.drop_eq_getElem_cons hlt]
    generalize hc : s.data.toList[i] = c
    have hc8 : c.toNat < 256 := c.toNat_lt
    by_cases b0 : (c.toNat : Int) < 48
    · rw [if_pos b0]
      unfold numRest
      rw [if_neg (fun q => by have := q c (by simp); omega)]
    · rw [if_neg b0]
      by_cases b1 : (c.toNat : Int) > 57
      · rw [if_pos b1]
        unfold numRest
        rw [if_neg (fun q => by have := q c (by simp); omega)]
      · rw [if_neg b1, wrap_nat (by omega), wrap_small (n := 10 * x) (by omega) (by omega), wrap_small (n := (c.toNat : Int)) (by omega) (by omega), wrap_small (n := 10 * x + (c.toNat : Int)) (by omega) (by omega), wrap_small (n := 10 * x + (c.toNat : Int) - 48) (by omega) (by omega)]
        rw [ih (i + 1) _ (by omega) (by omega) (by omega) (by omega) k (by omega)]
        unfold numRest
        have : (∀ q ∈ c :: List.drop (i + 1) s.data.toList, 48 ≤ q.toNat ∧ q.toNat ≤ 57) ↔ (∀ q ∈ List.drop (i + 1) s.data.toList, 48 ≤ q.toNat ∧ q.toNat ≤ 57) := by
          constructor
          · intro h q hq; exact h q (by simp [hq])
          · intro h q hq
            rcases List.mem_cons.1 hq with rfl | hq
            · omega
            · exact h q hq
        by_cases hq : ∀ q ∈ List.drop (i + 1) s.data.toList, 48 ≤ q.toNat ∧ q.toNat ≤ 57
        · rw [if_pos hq, if_pos (this.2 hq)]
          rfl
        · rw [if_neg hq, if_neg (fun z => hq (this.1 z))]
theorem specNum (s : ByteArray) (k : Nat) (hk : 1000100 < k) : spec_l4Num.f k s = some (num5 s.data.toList) := by
  obtain ⟨k, rfl⟩ : ∃ q, k = q + 1 := ⟨k - 1, by omega⟩
  unfold spec_l4Num.f num5
  have e : s.size = s.data.toList.length := rfl
  by_cases h1 : s.toList = ([] : List UInt8)
  · rw [if_pos h1, if_pos (.inl (by rw [← ba_list]; exact h1))]
    simp only [spec_l4Num.j0]
    rfl
  · rw [if_neg h1]
    simp only [spec_l4Num.j0]
    by_cases h2 : (s.size : Int) > 5
    · rw [decide_eq_true h2, if_pos rfl, if_pos (.inr (by omega))]
    · rw [decide_eq_false h2, if_neg (by decide), if_neg (by rintro (q | q); exact h1 (by rw [ba_list]; exact q); omega)]
      exact specNum_l0 s (by omega) s.size 0 0 (by omega) (by omega) (by decide) (by decide) k (by omega)
end

theorem opOfS_l0 (L : List ByteArray) (s : ByteArray) (hL : L.length ≤ 1000) : ∀ (k i : Nat), i ≤ L.length → L.length - i < k →
    spec_OpOf.l0 k s L (i : Int) = slices_Index_string_string.l0 k L s (L.length : Int) (i : Int) := by
  intro k
  induction k with
  | zero => intro i _ h; omega
  | succ k ih =>
    intro i hi h
    simp only [spec_OpOf.l0, slices_Index_string_string.l0]
    by_cases hlt : i < L.length
    · have c1 : (i : Int) < (L.length : Int) := by omega
      have c0 : (0 : Int) ≤ (i : Int) := by omega
      simp only [c0, c1, if_true]
      by_cases he : (rdOf ByteArray.empty L (i : Int)).toList = s.toList
      · rw [if_pos he, if_pos he.symm]
      · rw [if_neg he, if_neg (fun e => he e.symm), wrap_nat (by omega)]
        exact ih (i + 1) (by omega) (by omega)
    · rw [if_neg (by omega), if_neg (by omega)]
theorem spec_names : spec_l3Names.f = some names := rfl
theorem specOpOf (s : ByteArray) (k : Nat) (hk : 30 < k) : spec_OpOf.f k s = some (opV s) := by
  have hl := names_len
  rw [← implOpOf s k hk]
  unfold spec_OpOf.f impl_OpOf.f slices_Index_string_string.f
  rw [spec_names, impl_names, Option.bind_some, Option.bind_some]
  have := opOfS_l0 names s (by omega) k 0 (by omega) (by omega)
  rw [show ((0 : Nat) : Int) = 0 from rfl] at this
  rw [this]
  cases slices_Index_string_string.l0 k names s (names.length : Int) 0 <;> rfl

section
open Go.Lib
theorem specLine_l0 (s : ByteArray) (hs : s.size ≤ 1000000) : ∀ (d i : Nat), s.size - i = d → i ≤ s.size → ∀ k, d + 1000200 < k →
    spec_l4Line.l0 k s (i : Int) = some (⟨(s.data.toList.take i ++ (cutL (s.data.toList.drop i)).1).toArray⟩, lineNum (cutL (s.data.toList.drop i)), if (cutL (s.data.toList.drop i)).2.2 = true then decide (num5 (cutL (s.data.toList.drop i)).2.1 ≥ 0) else true) := by
  intro d
  induction d with
  | zero =>
    intro i hd hi k hk
    obtain ⟨k, rfl⟩ : ∃ q, k = q + 1 := ⟨k - 1, by omega⟩
    have hl : s.data.toList.length ≤ i := by rw [← ba_size]; omega
    simp only [spec_l4Line.l0]
    rw [if_neg (by omega), List.drop_eq_nil_of_le hl, List.take_of_length_le hl]
    simp only [cutL, List.append_nil]
    rw [ba_mk]
    rfl
  | succ d ih =>
    intro i hd hi k hk
    obtain ⟨k, rfl⟩ : ∃ q, k = q + 1 := ⟨k - 1, by omega⟩
    have hlt : i < s.data.toList.length := by rw [← ba_size]; omega
    simp only [spec_l4Line.l0]
    rw [if_pos (by omega), if_pos (by omega), wrap_nat (by omega), bt_list s i hlt, List.drop_eq_getElem_cons hlt]
    generalize hc : s.data.toList[i] = c
    by_cases hb : c = 32
    · subst hb
      have e1 : (s.extract (((i + 1 : Nat) : Int)).toNat s.size).data.toList = s.data.toList.drop (i + 1) := by
        rw [Int.toNat_natCast, extract_to_end]
      have e2 : s.extract 0 ((i : Int)).toNat = ⟨(s.data.toList.take i).toArray⟩ := by
        apply ba_ext
        rw [Int.toNat_natCast, extract_from_zero]
      rw [if_pos (by decide : (((32 : UInt8).toNat : Nat) : Int) = 32), if_pos (by omega), if_pos (by omega), specNum _ k (by omega), Option.bind_some, if_pos (by omega), e1, e2]
      simp only [cutL, if_true, lineNum, List.append_nil]
    · rw [if_neg (fun q => hb (by have hq : c.toNat = (32 : UInt8).toNat := by exact_mod_cast q
                                  exact UInt8.toNat_inj.1 hq)), ih (i + 1) (by omega) (by omega) k (by omega)]
      have et : s.data.toList.take (i + 1) = s.data.toList.take i ++ [c] := by rw [List.take_succ_eq_append_getElem hlt, hc]
      simp only [cutL, if_neg hb, lineNum, et, List.append_assoc, List.singleton_append]
theorem specLine (s : ByteArray) (hs : s.size ≤ 1000000) (k : Nat) (hk : 2100000 < k) :
    spec_l4Line.f k s = some (⟨(cutL s.data.toList).1.toArray⟩, lineNum (cutL s.data.toList), if (cutL s.data.toList).2.2 = true then decide (num5 (cutL s.data.toList).2.1 ≥ 0) else true) := by
  unfold spec_l4Line.f
  have := specLine_l0 s hs s.size 0 (by omega) (by omega) k (by omega)
  simpa using this
theorem specBytes (s : ByteArray) (hs : s.size ≤ 1000000) (k : Nat) (hk : 2100100 < k) :
    ∃ r : List Int × Int × Bool, spec_l4Bytes.f k s = some r ∧ ((r.2.2 = false ∧ stepV s.data.toList = none) ∨ (r.2.2 = true ∧ r.2.1 = -1 ∧ stepV s.data.toList = some (none, r.1)) ∨ (r.2.2 = true ∧ 0 ≤ r.2.1 ∧ r.2.1 ≤ 255 ∧ r.1 = [] ∧ stepV s.data.toList = some (some r.2.1, []))) := by
  obtain ⟨k, rfl⟩ : ∃ q, k = q + 1 := ⟨k - 1, by omega⟩
  unfold spec_l4Bytes.f
  rw [specLine s hs (k + 1) (by omega), Option.bind_some]
  generalize hl : s.data.toList = l
  unfold stepV
  generalize hq : cutL l = q
  obtain ⟨w, a, f⟩ := q
  simp only
  have hw : (⟨w.toArray⟩ : ByteArray).toList = w := by rw [ba_list]
  have hn1 := num5_range a
  simp only [hw]
  by_cases h0 : f = true ∧ num5 a < 0
  · obtain ⟨rfl, h0⟩ := h0
    rw [if_pos (show true = true ∧ num5 a < 0 from ⟨rfl, h0⟩)]
    simp only [if_true]
    rw [decide_eq_false (by omega), if_neg (by decide)]
    exact ⟨_, rfl, .inl ⟨rfl, trivial⟩⟩
  · rw [if_neg h0]
    have e1 : (if f = true then decide (num5 a ≥ 0) else true) = true := by
      by_cases hf : f = true
      · rw [if_pos hf, decide_eq_true]
        rcases Int.lt_or_le (num5 a) 0 with h | h
        · exact absurd ⟨hf, h⟩ h0
        · exact h
      · rw [if_neg hf]
    rw [if_pos e1]
    generalize hn : lineNum (w, a, f) = n
    have hnr : -1 ≤ n := by
      rw [← hn]; unfold lineNum
      split <;> omega
    have hn5 : n < 100000 := by
      rw [← hn]; unfold lineNum
      split
      · rcases Int.lt_or_le (num5 a) 0 with h | h
        · simp only; omega
        · exact (num5_spec a h).2
      · omega
    by_cases hat : w = atW
    · have hat2 : w = ([97, 116] : List UInt8) := hat
      rw [if_pos hat2, if_pos hat]
      simp only [spec_l4Bytes.j0, if_true]
      rw [l1In_eq, Option.bind_some]
      by_cases hr : 0 ≤ n ∧ n ≤ 255
      · rw [if_pos hr, decide_eq_true hr, if_pos rfl, hw, if_pos hat2]
        exact ⟨_, rfl, .inr (.inr ⟨rfl, hr.1, hr.2, rfl, rfl⟩)⟩
      · rw [if_neg hr, decide_eq_false hr, if_neg (by decide)]
        exact ⟨_, rfl, .inl ⟨rfl, rfl⟩⟩
    · have hat2 : ¬ w = ([97, 116] : List UInt8) := hat
      rw [if_neg hat2, if_neg hat]
      by_cases hby : w = byteW
      · have eb : (w == ([98, 121, 116, 101] : List UInt8)) = true := beq_iff_eq.2 hby
        rw [if_pos hby, eb]
        simp only [spec_l4Bytes.j0, if_true]
        rw [l1In_eq, Option.bind_some]
        by_cases hr : 0 ≤ n ∧ n ≤ 255
        · rw [if_pos hr, decide_eq_true hr, if_pos rfl, hw, if_neg hat2]
          exact ⟨_, rfl, .inr (.inl ⟨rfl, rfl, rfl⟩)⟩
        · rw [if_neg hr, decide_eq_false hr, if_neg (by decide)]
          exact ⟨_, rfl, .inl ⟨rfl, rfl⟩⟩
      · have eb : (w == ([98, 121, 116, 101] : List UInt8)) = false := beq_eq_false_iff_ne.2 hby
        have o1 := specOpOf ⟨w.toArray⟩ k (by omega)
        rw [if_neg hby, eb]
        simp only [spec_l4Bytes.j0, Bool.false_eq_true, if_false]
        rw [o1, Option.bind_some]
        generalize hop : opV ⟨w.toArray⟩ = op
        by_cases ho : op < 0
        · rw [if_pos ho, if_pos ho]
          exact ⟨_, rfl, .inl ⟨rfl, rfl⟩⟩
        · rw [if_neg ho, if_neg ho, specOpLen, Option.bind_some]
          by_cases h1 : opLenV op = 1
          · rw [if_pos h1, if_pos h1]
            by_cases hr : n < 0
            · rw [if_pos hr, decide_eq_true hr]
              exact ⟨_, rfl, .inr (.inl ⟨rfl, rfl, rfl⟩)⟩
            · rw [if_neg hr, decide_eq_false hr]
              exact ⟨_, rfl, .inl ⟨rfl, rfl⟩⟩
          · rw [if_neg h1, if_neg h1]
            unfold spec_Byte.f
            simp only [l1In_eq, Option.bind_some, and255]
            by_cases h2 : opLenV op = 2
            · rw [if_pos h2, if_pos h2]
              by_cases hr : 0 ≤ n ∧ n ≤ 255
              · rw [if_pos hr, decide_eq_true hr, show n % 256 = n by omega]
                exact ⟨_, rfl, .inr (.inl ⟨rfl, rfl, rfl⟩)⟩
              · rw [if_neg hr, decide_eq_false hr]
                exact ⟨_, rfl, .inl ⟨rfl, rfl⟩⟩
            · rw [if_neg h2, if_neg h2]
              by_cases hr : 0 ≤ n ∧ n ≤ 65535
              · rw [if_pos hr, decide_eq_true hr, show n / 256 % 256 = n / 256 by omega]
                exact ⟨_, rfl, .inr (.inl ⟨rfl, rfl, rfl⟩)⟩
              · rw [if_neg hr, decide_eq_false hr]
                exact ⟨_, rfl, .inl ⟨rfl, rfl⟩⟩
end

section
open Go.Lib
theorem specAsm_w (s : ByteArray) (x6 x7 x8 : Int) (L : List Int) (K : Nat) (R : Option (List Int × Int)) :
    ∀ (d j : Nat), L.length - j = d → j ≤ L.length → ∀ (m : List Int) (p : Int), m.length = 256 → 0 ≤ p → p ≤ 100000 + j → L.length ≤ 3 →
      (∀ k, K < k → spec_Assemble.l0 k s (writeV m p (L.drop j)).1 (writeV m p (L.drop j)).2 x6 x7 (wrap64 (x8 + 1)) = R) →
      ∀ k, K + d + 1 < k → spec_Assemble.l1 k s m p x6 x7 x8 L (j : Int) = R := by
  intro d
  induction d with
  | zero =>
    intro j hd hj m p hm h0 h1 hL next k hk
    obtain ⟨k, rfl⟩ : ∃ q, k = q + 1 := ⟨k - 1, by omega⟩
    rw [List.drop_eq_nil_of_le (by omega)] at next
    simp only [spec_Assemble.l1]
    rw [if_neg (by omega)]
    exact next k (by omega)
  | succ d ih =>
    intro j hd hj m p hm h0 h1 hL next k hk
    obtain ⟨k, rfl⟩ : ∃ q, k = q + 1 := ⟨k - 1, by omega⟩
    have hlt : j < L.length := by omega
    rw [List.drop_eq_getElem_cons hlt] at next
    simp only [writeV] at next
    simp only [spec_Assemble.l1]
    unfold spec_Byte.f
    rw [if_pos (by omega), Option.bind_some, and255, if_pos (by omega), if_pos (by omega), if_pos (by omega), wrap_nat (by omega), wrap_small (by omega) (by omega), rd_nat L j hlt]
    exact ih (j + 1) (by omega) (by omega) _ (p + 1) (by simpa using hm) (by omega) (by omega) hL next k (by omega)
theorem specAsm_l0 (s : ByteArray) (hs : s.size ≤ 3000) : ∀ (d i fr : Nat), s.size + 1 - i = d → fr ≤ i → i ≤ s.size + 1 → (i = s.size + 1 → s.size ≤ fr) → (∀ c ∈ (s.data.toList.drop fr).take (i - fr), c ≠ 10) →
    ∀ (m : List Int) (p mn : Int), m.length = 256 → 0 ≤ p → p ≤ 1000 + 10 * fr → 0 ≤ mn → mn ≤ 5000 + fr → ∀ k, 3000000 + 10 * d < k →
      spec_Assemble.l0 k s m p (fr : Int) mn (i : Int) = some (runL (linesL (s.data.toList.drop fr)) m p mn) := by
  have hsz : s.size = s.data.toList.length := rfl
  intro d
  induction d with
  | zero =>
    intro i fr hd hf hi he hn m p mn hm h0 h1 h2 h3 k hk
    obtain ⟨k, rfl⟩ : ∃ q, k = q + 1 := ⟨k - 1, by omega⟩
    simp only [spec_Assemble.l0]
    rw [if_neg (by omega), List.drop_eq_nil_of_le (by have := he (by omega); omega)]
    rfl
  | succ d ih =>
    intro i fr hd hf hi he hn m p mn hm h0 h1 h2 h3 k hk
    obtain ⟨k, rfl⟩ : ∃ q, k = q + 2 := ⟨k - 2, by omega⟩
    have on_ : ∀ c : UInt8, s.data.toList[i]? = some c → c ≠ 10 → spec_Assemble.j1 (k + 1) s m p (fr : Int) mn (i : Int) true = some (runL (linesL (s.data.toList.drop fr)) m p mn) := by
      intro c hc hne
      simp only [spec_Assemble.j1]
      rw [if_pos trivial, wrap_nat (by omega)]
      have hlt : i < s.data.toList.length := (List.getElem?_eq_some_iff.1 hc).1
      refine ih (i + 1) fr (by omega) (by omega) (by omega) (fun q => by omega) ?_ m p mn hm h0 h1 h2 h3 k (by omega)
      intro x hx
      rw [show i + 1 - fr = (i - fr) + 1 by omega, List.take_succ_eq_append_getElem (by rw [List.length_drop]; omega), List.mem_append] at hx
      rcases hx with hx | hx
      · exact hn x hx
      · rw [List.mem_singleton, List.getElem_drop] at hx
        have : s.data.toList[fr + (i - fr)]? = some x := by rw [hx]; exact List.getElem?_eq_getElem _
        rw [show fr + (i - fr) = i by omega, hc] at this
        injection this with this
        rw [← this]; exact hne
    have line_ : fr ≤ s.size → linesL (s.data.toList.drop fr) = (s.data.toList.drop fr).take (i - fr) :: linesL (s.data.toList.drop (i + 1)) → spec_Assemble.j1 (k + 1) s m p (fr : Int) mn (i : Int) false = some (runL (linesL (s.data.toList.drop fr)) m p mn) := by
      intro hfs hl
      rw [hl]
      simp only [spec_Assemble.j1, Bool.false_eq_true, if_false]
      rw [if_pos (by omega), if_pos (by omega), if_pos (by omega)]
      have ex : (s.extract ((fr : Int)).toNat ((i : Int)).toNat).data.toList = (s.data.toList.drop fr).take (i - fr) := by
        rw [Int.toNat_natCast, Int.toNat_natCast, extract_data]
      have exs : (s.extract ((fr : Int)).toNat ((i : Int)).toNat).size ≤ 1000000 := by
        rw [ByteArray.size_extract]; omega
      rw [ba_list, ex]
      simp only [runL]
      generalize hline : (s.data.toList.drop fr).take (i - fr) = line at *
      have nexts : ∀ (m' : List Int) (p' : Int), m'.length = 256 → 0 ≤ p' → p' ≤ 1000 + 10 * ((i + 1 : Nat) : Int) → ∀ k, 3000000 + 10 * d < k → spec_Assemble.l0 k s m' p' ((i + 1 : Nat) : Int) (mn + 1) ((i + 1 : Nat) : Int) = some (runL (linesL (s.data.toList.drop (i + 1))) m' p' (mn + 1)) := by
        intro m' p' hm' hp0 hp1 q hq
        exact ih (i + 1) (i + 1) (by omega) (by omega) (by omega) (fun _ => by omega) (by simp) m' p' (mn + 1) hm' hp0 hp1 (by omega) (by omega) q (by omega)
      rw [wrap_nat (by omega), wrap_small (n := mn + 1) (by omega) (by omega)]
      by_cases hempty : line = []
      · rw [if_pos hempty, if_pos hempty]
        exact nexts m p hm h0 (by omega) k (by omega)
      · rw [if_neg hempty, if_neg hempty]
        obtain ⟨⟨L, t, ok⟩, e, hr⟩ := specBytes _ exs k (by omega)
        rw [e, Option.bind_some]
        rw [ex] at hr
        simp only at hr ⊢
        rcases hr with ⟨hok, hst⟩ | ⟨hok, ht, hst⟩ | ⟨hok, ht0, ht1, hL0, hst⟩
        · rw [hst, hok, if_neg (by decide)]
        · rw [hst, hok, if_pos rfl, ht, if_neg (by decide)]
          simp only [Option.getD_none]
          have hL := (stepV_small _ _ _ hst).1
          obtain ⟨k, rfl⟩ : ∃ q, k = q + 1 := ⟨k - 1, by omega⟩
          simp only [spec_Assemble.j2]
          have hw := writeV_len L m p
          refine specAsm_w s _ _ _ L (3000000 + 10 * d) _ L.length 0 (by omega) (by omega) m p hm h0 (by omega) hL ?_ k (by omega)
          intro q hq
          rw [wrap_nat (by omega), List.drop_zero]
          exact nexts _ _ (by rw [hw.1]; exact hm) (by rw [hw.2]; omega) (by rw [hw.2]; omega) q hq
        · rw [hst, hok, if_pos rfl, if_pos ht0, hL0]
          simp only [Option.getD_some]
          obtain ⟨k, rfl⟩ : ∃ q, k = q + 1 := ⟨k - 1, by omega⟩
          simp only [spec_Assemble.j2]
          refine specAsm_w s _ _ _ [] (3000000 + 10 * d) _ 0 0 (by rfl) (by simp) m t hm ht0 (by omega) (by simp) ?_ k (by omega)
          intro q hq
          rw [wrap_nat (by omega), List.drop_zero]
          exact nexts m t hm ht0 (by omega) q hq
    simp only [spec_Assemble.l0]
    rw [if_pos (by omega)]
    by_cases hi2 : i < s.size
    · rw [if_pos (by omega), if_pos (by omega), bt_list s i (by omega)]
      by_cases h10 : ((s.data.toList[i]'(by omega)).toNat : Int) = 10
      · rw [if_pos h10, if_neg (by omega)]
        refine line_ (by omega) ?_
        have hc : s.data.toList[i]'(by omega) = 10 := by
          have hq : (s.data.toList[i]'(by omega)).toNat = (10 : UInt8).toNat := by exact_mod_cast h10
          exact UInt8.toNat_inj.1 hq
        rw [← linesL_app _ _ hn, ← hc]
        congr 1
        have e1 := List.take_append_drop (i - fr) (s.data.toList.drop fr)
        rw [List.drop_drop, show fr + (i - fr) = i by omega, List.drop_eq_getElem_cons (show i < s.data.toList.length by omega)] at e1
        exact e1.symm
      · rw [if_neg h10]
        refine on_ _ (List.getElem?_eq_getElem (by omega)) (fun q => h10 ?_)
        rw [q]; rfl
    · have hie : i = s.size := by omega
      rw [if_neg (by omega), if_pos (by omega)]
      by_cases hfe : fr = s.size
      · have eb : ((fr : Int) == (s.size : Int)) = true := by rw [beq_iff_eq]; omega
        rw [eb]
        simp only [spec_Assemble.j1]
        rw [if_pos trivial, wrap_nat (by omega)]
        have := ih (i + 1) fr (by omega) (by omega) (by omega) (fun _ => by omega) (by rw [List.drop_eq_nil_of_le (by omega)]; simp) m p mn hm h0 h1 h2 h3 k (by omega)
        exact this
      · have eb : ((fr : Int) == (s.size : Int)) = false := by rw [beq_eq_false_iff_ne]; omega
        rw [eb]
        have hall : (s.data.toList.drop fr).take (i - fr) = s.data.toList.drop fr := List.take_of_length_le (by rw [List.length_drop]; omega)
        refine line_ (by omega) ?_
        rw [hall] at hn ⊢
        rw [List.drop_eq_nil_of_le (show s.data.toList.length ≤ i + 1 by omega)]
        exact linesL_one _ hn (by
          intro q
          have := congrArg List.length q
          rw [List.length_drop] at this
          simp at this
          omega)
theorem specAsm (s : ByteArray) (k : Nat) (hk : 3100000 < k) : spec_Assemble.f k s = some (asmV s.data.toList) := by
  have hsz : s.size = s.data.toList.length := rfl
  unfold spec_Assemble.f asmV
  by_cases h : (s.size : Int) > 3000
  · rw [if_pos h, if_pos (by omega)]
  · rw [if_neg h, if_neg (show ¬ s.data.toList.length > 3000 by omega), if_pos (show (256 : Nat) ≤ 35184372088832 by decide)]
    have := specAsm_l0 s (by omega) (s.size + 1) 0 0 (by omega) (by omega) (by omega) (fun _ => by omega) (by simp) (List.replicate 256 0) 0 0 List.length_replicate (by omega) (by omega) (by omega) (by omega) k (by omega)
    rw [List.drop_zero] at this
    exact this
end

theorem and_range (n : Int) : 0 ≤ Go.bits .and .i64 n 255 ∧ Go.bits .and .i64 n 255 ≤ 255 := by
  rw [and255]; omega
theorem l1New_l0 (l : List Int) (hl : l.length ≤ 140737488351232) : ∀ (k : Nat) (h : Int) (i : Nat), i ≤ l.length → l.length - i < k → ∃ h', spec_l1New.l0 k l h (i : Int) = some (l, 0, h') := by
  intro k
  induction k with
  | zero => intro h i _ hk; omega
  | succ k ih =>
    intro h i hi hk
    simp only [spec_l1New.l0]
    by_cases hlt : i < l.length
    · rw [if_pos (by omega)]
      by_cases h4 : (i : Int) < 4000
      · rw [if_pos h4, if_pos (by omega), wrap_nat (by omega)]
        exact ih _ (i + 1) (by omega) (by omega)
      · rw [if_neg h4]; exact ⟨_, rfl⟩
    · rw [if_neg (by omega)]; exact ⟨_, rfl⟩
theorem l1New_ok (l : List Int) (hl : l.length ≤ 140737488351232) (k : Nat) (hk : l.length < k) : ∃ h', spec_l1New.f k l = some (l, 0, h') := by
  unfold spec_l1New.f
  have := l1New_l0 l hl k (wrap64 (18554 + (l.length : Int))) 0 (by omega) (by omega)
  rwa [show ((0 : Nat) : Int) = 0 from rfl] at this
theorem l1Byte_ok (l : List Int) (hl : l.length ≤ 140737488351232) (i h : Int) (h0 : 0 ≤ i) (h1 : i ≤ l.length) : ∃ r i' h' : Int, spec_l1Byte.f l i h = some (r, i', h') ∧ 0 ≤ r ∧ r ≤ 255 ∧ 0 ≤ i' ∧ i' ≤ l.length := by
  unfold spec_l1Byte.f
  by_cases hlt : i < (l.length : Int)
  · rw [if_pos hlt, if_pos h0]
    refine ⟨_, _, _, rfl, (and_range _).1, (and_range _).2, ?_, ?_⟩ <;> rw [wrap_small (by omega) (by omega)] <;> omega
  · rw [if_neg hlt]
    exact ⟨_, _, _, rfl, (and_range _).1, (and_range _).2, h0, h1⟩
theorem l1Below_ok (l : List Int) (hl : l.length ≤ 140737488351232) (i h : Int) (h0 : 0 ≤ i) (h1 : i ≤ l.length) (n : Int) : ∃ r i' h' : Int, spec_l1Below.f l i h n = some (r, i', h') ∧ 0 ≤ r ∧ (0 < n → r < n) ∧ (n ≤ 0 → r = 0) ∧ 0 ≤ i' ∧ i' ≤ l.length := by
  unfold spec_l1Below.f
  by_cases hn : n ≤ 0
  · rw [if_pos hn]; exact ⟨0, i, h, rfl, by omega, by omega, fun _ => rfl, h0, h1⟩
  · rw [if_neg hn]
    obtain ⟨x, i1, g1, e1, x0, x1, p0, p1⟩ := l1Byte_ok l hl i h h0 h1
    rw [e1]
    simp only [Option.bind_some]
    by_cases hs : n ≤ 256
    · rw [if_pos hs, if_neg (by omega), Int.tmod_eq_emod_of_nonneg x0]
      exact ⟨_, _, _, rfl, Int.emod_nonneg _ (by omega), fun h => Int.emod_lt_of_pos _ h, by omega, p0, p1⟩
    · rw [if_neg hs]
      obtain ⟨y, i2, g2, e2, y0, y1, q0, q1⟩ := l1Byte_ok l hl i1 g1 p0 p1
      rw [e2]
      simp only [Option.bind_some]
      obtain ⟨z, i3, g3, e3, z0, z1, s0, s1⟩ := l1Byte_ok l hl i2 g2 q0 q1
      rw [e3]
      simp only [Option.bind_some]
      obtain ⟨u, i4, g4, e4, u0, u1, t0, t1⟩ := l1Byte_ok l hl i3 g3 s0 s1
      rw [e4]
      simp only [Option.bind_some]
      have e : wrap64 (wrap64 (wrap64 (wrap64 (x * 16777216) + wrap64 (y * 65536)) + wrap64 (z * 256)) + u) = x * 16777216 + y * 65536 + z * 256 + u := by
        rw [wrap_small (n := x * 16777216) (by omega) (by omega), wrap_small (n := y * 65536) (by omega) (by omega), wrap_small (n := z * 256) (by omega) (by omega), wrap_small (n := x * 16777216 + y * 65536) (by omega) (by omega), wrap_small (n := x * 16777216 + y * 65536 + z * 256) (by omega) (by omega), wrap_small (by omega) (by omega)]
      rw [e, if_neg (by omega), Int.tmod_eq_emod_of_nonneg (by omega)]
      exact ⟨_, _, _, rfl, Int.emod_nonneg _ (by omega), fun h => Int.emod_lt_of_pos _ h, by omega, t0, t1⟩
theorem l1Once_ok (l : List Int) (hl : l.length ≤ 140737488351232) (i h : Int) (h0 : 0 ≤ i) (h1 : i ≤ l.length) (n : Int) : ∃ (r : Bool) (i' h' : Int), spec_l1Once.f l i h n = some (r, i', h') ∧ 0 ≤ i' ∧ i' ≤ l.length := by
  obtain ⟨r, i', h', e, _, _, _, p0, p1⟩ := l1Below_ok l hl i h h0 h1 n
  unfold spec_l1Once.f
  rw [e]
  exact ⟨_, _, _, rfl, p0, p1⟩

theorem l1Pick_ok2 (l : List Int) (hl : l.length ≤ 140737488351232) (i h : Int) (h0 : 0 ≤ i) (h1 : i ≤ l.length) (q : List ByteArray) (hq : 0 < q.length) : ∃ (j : Nat) (i' h' : Int), j < q.length ∧ spec_l1Pick.f l i h q = some (rdOf ByteArray.empty q (j : Int), i', h') ∧ 0 ≤ i' ∧ i' ≤ l.length := by
  obtain ⟨r, i', h', e, r0, r1, _, p0, p1⟩ := l1Below_ok l hl i h h0 h1 (q.length : Int)
  unfold spec_l1Pick.f
  rw [e]
  simp only [Option.bind_some]
  have r2 := r1 (by omega)
  rw [if_pos r0, if_pos r2]
  obtain ⟨j, rfl⟩ := Int.eq_ofNat_of_zero_le r0
  exact ⟨j, i', h', by omega, rfl, p0, p1⟩
theorem rdOf_bound2 {q : List ByteArray} {n : Nat} (hq : ∀ s ∈ q, s.size ≤ n) (j : Nat) (hj : j < q.length) : (rdOf ByteArray.empty q (j : Int)).size ≤ n := by
  have : rdOf ByteArray.empty q (j : Int) = q[j] := by unfold rdOf; simp [hj]
  rw [this]
  exact hq _ (List.getElem_mem hj)
set_option maxRecDepth 100000 in
theorem main_ok2 (l : List Int) (hl : l.length ≤ 140737488351232) (i h : Int) (h0 : 0 ≤ i) (h1 : i ≤ l.length) : ∃ (s : ByteArray) (i' h' : Int), spec_l2Main.f l i h = some (s, i', h') ∧ 0 ≤ i' ∧ i' ≤ l.length ∧ s.size ≤ 100000 := by
  unfold spec_l2Main.f
  generalize hq : ([_, _, _, _, _, _, _] : List ByteArray) = q
  have hlen : q.length = 7 := by rw [← hq]; rfl
  have hb : ∀ s ∈ q, s.size ≤ 1000 := by rw [← hq]; decide
  obtain ⟨j, i', h', hj, e, p0, p1⟩ := l1Pick_ok2 l hl i h h0 h1 q (by omega)
  have := rdOf_bound2 hb j hj
  rw [e, Option.bind_some]
  simp only
  rw [if_pos (by omega)]
  refine ⟨_, _, _, rfl, p0, p1, ?_⟩
  rw [ByteArray.size_append]
  refine Nat.le_trans (Nat.add_le_add this (show _ ≤ 1000 from ?_)) (by decide)
  decide
theorem drawAsm_l0 (l : List Int) (hl : l.length ≤ 140737488351232) : ∀ (d : Nat) (s : ByteArray) (i h : Int), 3002 - s.size = d → s.size ≤ 200000 → 0 ≤ i → i ≤ l.length → ∀ k, d < k → ∃ r, spec_DrawAssemble.l0 k s l i h = some r := by
  intro d
  induction d with
  | zero =>
    intro s i h hd hs h0 h1 k hk
    obtain ⟨k, rfl⟩ : ∃ q, k = q + 1 := ⟨k - 1, by omega⟩
    obtain ⟨t, i2, g2, e, t0, t1, _, p0, p1⟩ := l1Below_ok l hl i h h0 h1 2
    have := t1 (by decide)
    simp only [spec_DrawAssemble.l0]
    rw [e, Option.bind_some, wrap_small (by omega) (by omega), if_neg (by omega)]
    exact ⟨_, rfl⟩
  | succ d ih =>
    intro s i h hd hs h0 h1 k hk
    obtain ⟨k, rfl⟩ : ∃ q, k = q + 1 := ⟨k - 1, by omega⟩
    obtain ⟨t, i2, g2, e, t0, t1, _, p0, p1⟩ := l1Below_ok l hl i h h0 h1 2
    have := t1 (by decide)
    simp only [spec_DrawAssemble.l0]
    rw [e, Option.bind_some, wrap_small (by omega) (by omega)]
    by_cases hlt : (s.size : Int) < 3000 + t
    · rw [if_pos hlt, if_pos (by omega)]
      have e1 : (⟨#[10]⟩ : ByteArray).size = 1 := rfl
      exact ih _ _ _ (by rw [ByteArray.size_append]; omega) (by rw [ByteArray.size_append]; omega) p0 p1 k (by omega)
    · rw [if_neg hlt]
      exact ⟨_, rfl⟩
theorem drawAsm_ok (l : List Int) (hl : l.length ≤ 140737488351232) (k : Nat) (hk : l.length + 10000 < k) : ∃ s, spec_DrawAssemble.f k l = some s := by
  unfold spec_DrawAssemble.f
  obtain ⟨h, e⟩ := l1New_ok l hl k (by omega)
  obtain ⟨s, i1, g1, e1, p0, p1, hs⟩ := main_ok2 l hl 0 h (by omega) (by omega)
  rw [e, Option.bind_some, e1, Option.bind_some]
  simp only
  rw [wrap_small (by omega) (by omega)]
  obtain ⟨t, i2, g2, e2, t0, t1, _, q0, q1⟩ := l1Below_ok l hl i1 g1 p0 p1 ((s.size : Int) + 1)
  have ht := t1 (by omega)
  rw [e2, Option.bind_some]
  obtain ⟨u, i3, g3, e3, u0, u1, _, r0, r1⟩ := l1Below_ok l hl i2 g2 q0 q1 6
  rw [e3, Option.bind_some]
  simp only
  by_cases c0 : u = 0
  · rw [if_pos c0, if_pos t0, if_pos (by omega)]
    exact ⟨_, rfl⟩
  · rw [if_neg c0]
    by_cases c1 : u = 1
    · rw [if_pos c1, if_pos t0, if_pos (by omega)]
      generalize hq : ([_, _, _, _, _, _, _, _, _] : List ByteArray) = q
      have hlen : q.length = 9 := by rw [← hq]; rfl
      have hb : ∀ s ∈ q, s.size ≤ 1000 := by rw [← hq]; decide
      obtain ⟨j, i4, g4, hj, e4, _, _⟩ := l1Pick_ok2 l hl i3 g3 r0 r1 q (by omega)
      have := rdOf_bound2 hb j hj
      rw [e4, Option.bind_some]
      have z1 : (s.extract 0 t.toNat).size ≤ 200000 := by rw [ByteArray.size_extract]; omega
      have z2 : (s.extract t.toNat s.size).size ≤ 200000 := by rw [ByteArray.size_extract]; omega
      simp only
      rw [if_pos (by omega), if_pos (by rw [ByteArray.size_append]; omega)]
      exact ⟨_, rfl⟩
    · rw [if_neg c1]
      by_cases c2 : u = 2
      · rw [if_pos c2]
        obtain ⟨b, i4, g4, e4, s0, s1⟩ := l1Once_ok l hl i3 g3 r0 r1 9
        rw [e4, Option.bind_some]
        simp only
        cases b with
        | true =>
          rw [if_pos rfl]
          exact drawAsm_l0 l hl (3002 - s.size) s i4 g4 rfl (by omega) s0 s1 k (by omega)
        | false =>
          rw [if_neg (by decide)]
          exact ⟨_, rfl⟩
      · rw [if_neg c2]
        exact ⟨_, rfl⟩

theorem sameInts_l0 (l : List Int) (hl : l.length ≤ 140737488351232) : ∀ (k i : Nat), i ≤ l.length → l.length - i < k → laws_sameInts.l0 k l l (i : Int) = some true := by
  intro k
  induction k with
  | zero => intro i _ h; omega
  | succ k ih =>
    intro i hi h
    simp only [laws_sameInts.l0]
    by_cases hlt : i < l.length
    · have c1 : (i : Int) < (l.length : Int) := by omega
      have c0 : (0 : Int) ≤ (i : Int) := by omega
      simp only [c0, c1, if_true]
      rw [wrap_nat (by omega)]
      exact ih (i + 1) (by omega) (by omega)
    · rw [if_neg (by omega)]
theorem sameInts_self (l : List Int) (hl : l.length ≤ 140737488351232) (k : Nat) (hk : l.length < k) : laws_sameInts.f k l l = some true := by
  unfold laws_sameInts.f
  rw [if_pos rfl]
  exact sameInts_l0 l hl k 0 (by omega) (by omega)
end LFnAssembled
open LFnAssembled

theorem runL_empty : ∀ (E : List (List UInt8)), (∀ x ∈ E, x = []) → ∀ (m : List Int) (p n : Int), runL E m p n = (m, 0)
  | [], _, m, p, n => rfl
  | l :: r, h, m, p, n => by
    simp only [runL]
    rw [if_pos (h l (by simp))]
    exact runL_empty r (fun x hx => h x (by simp [hx])) m p _
theorem runL_app (E : List (List UInt8)) (hE : ∀ x ∈ E, x = []) : ∀ (L : List (List UInt8)) (m : List Int) (p n : Int), (runL L m p n).2 = 0 → runL (L ++ E) m p n = runL L m p n
  | [], m, p, n, _ => by rw [List.nil_append, runL_empty E hE]; rfl
  | l :: r, m, p, n, h => by
    simp only [List.cons_append, runL] at h ⊢
    by_cases hl : l = []
    · rw [if_pos hl] at h ⊢
      rw [if_pos hl]
      exact runL_app E hE r m p _ h
    · rw [if_neg hl] at h ⊢
      rw [if_neg hl]
      cases hs : stepV l with
      | none => rfl
      | some q =>
        obtain ⟨nw, bs⟩ := q
        rw [hs] at h
        exact runL_app E hE r _ _ _ h
theorem linesL_two : ∀ l : List UInt8, ∃ E, linesL (l ++ [10, 10]) = linesL l ++ E ∧ ∀ x ∈ E, x = ([] : List UInt8)
  | [] => ⟨[[], []], by simp [linesL], by simp⟩
  | c :: r => by
    obtain ⟨E, e, hE⟩ := linesL_two r
    simp only [List.cons_append, linesL]
    rw [e]
    by_cases hc : c = 10
    · rw [if_pos hc, if_pos hc]
      exact ⟨E, by simp, hE⟩
    · rw [if_neg hc, if_neg hc]
      cases hr : linesL r with
      | cons h t => exact ⟨E, by simp, hE⟩
      | nil =>
        rw [hr] at e
        cases E with
        | nil =>
          exfalso
          have hn : ∀ l : List UInt8, linesL (l ++ [10, 10]) ≠ [] := by
            intro l
            cases l with
            | nil => simp [linesL]
            | cons a l =>
              simp only [List.cons_append, linesL]
              split
              · simp
              · split <;> simp
          exact hn r (by rw [e]; rfl)
        | cons a E => exact ⟨E, by simp [hE a (by simp)], fun x hx => hE x (by simp [hx])⟩
theorem runL_err : ∀ (L : List (List UInt8)) (m : List Int) (p n : Int), 0 ≤ n → (runL L m p n).2 ≠ 0 → (runL L m p n).1 = [] ∧ (runL L m p n).2 ≠ -1
  | [], m, p, n, _, h => absurd rfl h
  | l :: r, m, p, n, h0, h => by
    simp only [runL] at h ⊢
    by_cases hl : l = []
    · rw [if_pos hl] at h ⊢
      exact runL_err r m p _ (by omega) h
    · rw [if_neg hl] at h ⊢
      cases hs : stepV l with
      | none => exact ⟨rfl, by simp only; omega⟩
      | some q =>
        obtain ⟨nw, bs⟩ := q
        rw [hs] at h
        exact runL_err r _ _ _ (by omega) h
theorem runL_full : ∀ (L : List (List UInt8)) (m : List Int) (p n : Int), 0 ≤ n → m.length = 256 → (runL L m p n).2 = 0 → (runL L m p n).1.length = 256
  | [], m, p, n, _, hm, _ => hm
  | l :: r, m, p, n, h0, hm, h => by
    simp only [runL] at h ⊢
    by_cases hl : l = []
    · rw [if_pos hl] at h ⊢
      exact runL_full r m p _ (by omega) hm h
    · rw [if_neg hl] at h ⊢
      cases hs : stepV l with
      | none => rw [hs] at h; simp only at h; omega
      | some q =>
        obtain ⟨nw, bs⟩ := q
        rw [hs] at h
        exact runL_full r _ _ _ (by omega) (by rw [(writeV_len bs m _).1]; exact hm) h
theorem asmV_facts (l : List UInt8) : ((asmV l).2 = 0 → (asmV l).1.length = 256 ∧ l.length ≤ 3000) ∧ ((asmV l).2 ≠ 0 → (asmV l).1 = []) := by
  unfold asmV
  by_cases h : l.length > 3000
  · rw [if_pos h]
    exact ⟨fun q => by simp at q, fun _ => rfl⟩
  · rw [if_neg h]
    exact ⟨fun q => ⟨runL_full _ _ _ _ (by omega) List.length_replicate q, by omega⟩, fun q => (runL_err _ _ _ _ (by omega) q).1⟩
theorem asmV_two (l : List UInt8) (h : (asmV l).2 = 0) : (asmV (l ++ [10, 10])).2 = -1 ∨ asmV (l ++ [10, 10]) = asmV l := by
  have hf := ((asmV_facts l).1 h).2
  unfold asmV at h ⊢
  by_cases h2 : (l ++ [10, 10]).length > 3000
  · rw [if_pos h2]; exact .inl rfl
  · rw [if_neg (by omega)] at h
    rw [if_neg h2, if_neg (by omega)]
    obtain ⟨E, e, hE⟩ := linesL_two l
    rw [e, runL_app E hE _ _ _ _ h]
    exact .inr rfl
theorem FnAssembled (l0 : List Int) (w0 : l0.length ≤ 9223372036854775807) (z0 : ∀ x ∈ l0, (Lit.int .u8 x).wf = true) : ∃ k, (laws_FnAssembled.f k l0) = some true := by
  obtain ⟨K, hK⟩ : ∃ K : Nat, 400000000 + l0.length ≤ K := ⟨_, Nat.le_refl _⟩
  refine ⟨K, ?_⟩
  unfold laws_FnAssembled.f laws_big.f
  rw [Option.bind_some]
  by_cases hl : (l0.length : Int) > 1048576
  · rw [if_pos (decide_eq_true hl)]
  · obtain ⟨K, rfl⟩ : ∃ q, K = q + 1 := ⟨K - 1, by omega⟩
    obtain ⟨s, es⟩ := drawAsm_ok l0 (by omega) (K + 1) (by omega)
    rw [if_neg (by rw [decide_eq_false hl]; decide), es, Option.bind_some, implAsm s _ (by omega), Option.bind_some, specAsm s _ (by omega), Option.bind_some, if_pos rfl]
    obtain ⟨hf0, hf1⟩ := asmV_facts s.data.toList
    have h2 := asmV_two s.data.toList
    have hlen : (asmV s.data.toList).1.length ≤ 256 := by rcases asmV_len s.data.toList with h | h <;> omega
    have hs2 : (s ++ (⟨#[10, 10]⟩ : ByteArray)).data.toList = s.data.toList ++ [10, 10] := by rw [ByteArray.data_append]; simp
    have i2 := implAsm (s ++ (⟨#[10, 10]⟩ : ByteArray)) K (by omega)
    rw [hs2] at i2
    generalize hV : asmV s.data.toList = V at *
    obtain ⟨r, n⟩ := V
    simp only at hlen hf0 hf1 h2 ⊢
    rw [sameInts_self r (by omega) _ (by omega), Option.bind_some]
    simp only [laws_FnAssembled.j0]
    rw [if_neg (by simp)]
    by_cases hn : n = 0
    · obtain ⟨h256, h3000⟩ := hf0 hn
      have e3 : s.size = s.data.toList.length := rfl
      rw [if_pos hn, if_pos (by omega), i2, Option.bind_some, if_pos (by omega)]
      rcases h2 hn with h | h
      · rw [if_pos h]
      · rw [h]
        simp only
        rw [if_neg (by omega), if_pos hn, sameInts_self r (by omega) _ (by omega), Option.bind_some]
    · rw [if_neg hn, hf1 hn]
      rfl

end Go.Proofs.YtbggkcnglmiheaaDoor.Pure
