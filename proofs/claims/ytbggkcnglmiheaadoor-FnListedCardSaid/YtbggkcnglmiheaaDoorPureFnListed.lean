/- A drawn listing is assembled to the bytes that it lists. No condition. -/
import Derived.Test.YtbggkcnglmiheaaDoorMFnListedx0
import Derived.Test.YtbggkcnglmiheaaDoorMFnListedx1
import Derived.Test.YtbggkcnglmiheaaDoorMFnListedx2
import Derived.Test.YtbggkcnglmiheaaDoorMFnListedx3
import Derived.Test.YtbggkcnglmiheaaDoorMFnListedx4
import Derived.Laws.Bits128
import Derived.Lib.AtoiAll
namespace Go.Proofs.YtbggkcnglmiheaaDoor.Pure
open Go.RowKit Go.Proofs.YtbggkcnglmiheaaDoor.MFnListed Go.Proofs.YtbggkcnglmiheaaDoorW.PrintWords Go.Proofs.YtbggkcnglmiheaaDoorW.PrintLast Go.Proofs.YtbggkcnglmiheaaDoorW.PrintMore
set_option linter.unusedVariables false
set_option linter.unusedSimpArgs false
namespace LFnListed
theorem and_low (n : Int) (j : Nat) (m : Int) (hj : j < 64) (hm : (BitVec.ofInt 64 m).toNat = 2 ^ j - 1) : Go.bits .and .i64 n m = n % (2 ^ j : Nat) := by
  have key : (BitVec.ofInt 64 n &&& BitVec.ofInt 64 m).toNat = (n % ((2 ^ 64 : Nat) : Int)).toNat % 2 ^ j := by
    rw [BitVec.toNat_and, BitVec.toNat_ofInt, hm, Nat.and_two_pow_sub_one_eq_mod]
  show IntKind.i64.wrap ((BitVec.ofInt 64 n &&& BitVec.ofInt 64 m).toNat : Nat) = n % (2 ^ j : Nat)
  have hd : ((2 ^ j : Nat) : Int) ∣ ((2 ^ 64 : Nat) : Int) := by
    exact_mod_cast Nat.pow_dvd_pow 2 (Nat.le_of_lt hj)
  have hp : (0 : Int) < ((2 ^ j : Nat) : Int) := by exact_mod_cast Nat.two_pow_pos j
  have hle : ((2 ^ j : Nat) : Int) ≤ ((2 ^ 63 : Nat) : Int) := by
    exact_mod_cast Nat.pow_le_pow_right (by decide) (by omega)
  have e : (((n % ((2 ^ 64 : Nat) : Int)).toNat % 2 ^ j : Nat) : Int) = n % ((2 ^ j : Nat) : Int) := by
    rw [Int.natCast_emod, Int.toNat_of_nonneg (Int.emod_nonneg _ (by decide)), Int.emod_emod_of_dvd _ hd]
  rw [key, e, IntKind.wrap_i64]
  have h0 := Int.emod_nonneg n (Int.ne_of_gt hp)
  have h1 := Int.emod_lt_of_pos n hp
  generalize n % ((2 ^ j : Nat) : Int) = x at *
  generalize ((2 ^ j : Nat) : Int) = y at *
  have : ((2 ^ 63 : Nat) : Int) = 9223372036854775808 := by decide
  omega
theorem and255 (n : Int) : Go.bits .and .i64 n 255 = n % 256 := and_low n 8 255 (by decide) (by decide)
theorem and65535 (n : Int) : Go.bits .and .i64 n 65535 = n % 65536 := and_low n 16 65535 (by decide) (by decide)
theorem wrap_small {n : Int} (h0 : -9223372036854775808 ≤ n) (h1 : n ≤ 9223372036854775807) : wrap64 n = n := by
  unfold wrap64; omega
theorem wrap_nat {i : Nat} (h : i ≤ 4611686018427387904) : wrap64 ((i : Int) + 1) = ((i + 1 : Nat) : Int) := by
  unfold wrap64; omega
theorem rd_nat (l : List Int) (i : Nat) (h : i < l.length) : rd l (i : Int) = l[i] := by
  unfold rd; simp [List.getD, h]

section
open Go.Lib
/-- a digit's byte -/
theorem dig_byte (d : Nat) (h : d < 10) : (UInt8.ofNat (48 + d)).toNat = 48 + d := by
  rw [UInt8.toNat_ofNat']; omega
theorem dec_ne (u : Nat) : decDigits u ≠ [] := by
  rw [decDigits]; split <;> simp
theorem dec_digits (u : Nat) : ∀ c ∈ decDigits u, 48 ≤ c.toNat ∧ c.toNat ≤ 57 := by
  induction u using Nat.strongRecOn with
  | _ u ih =>
    intro c hc
    rw [decDigits] at hc
    split at hc
    · rename_i hs
      have := dig_byte u hs
      rw [List.mem_singleton] at hc
      subst hc
      omega
    · have hd := dig_byte (u % 10) (by omega)
      rw [List.mem_append] at hc
      rcases hc with hc | hc
      · exact ih (u / 10) (by omega) c hc
      · rw [List.mem_singleton] at hc
        subst hc
        omega
theorem itoa_nat (u : Nat) : itoa (u : Int) = decDigits u := by
  unfold itoa
  rw [if_neg (by omega)]
  rfl
theorem dec_len (u : Nat) (h : u < 100000) : (decDigits u).length ≤ 5 ∧ 1 ≤ (decDigits u).length := by
  have key : ∀ k u : Nat, u < 10 ^ (k + 1) → (decDigits u).length ≤ k + 1 := by
    intro k
    induction k with
    | zero => intro u h; rw [decDigits, dif_pos (by omega)]; simp
    | succ k ih =>
      intro u h
      rw [decDigits]
      split
      · simp
      · have := ih (u / 10) (by rw [Nat.pow_succ] at h; omega)
        simp; omega
  exact ⟨key 4 u (by omega), List.length_pos_iff.2 (dec_ne u)⟩
end

section
open Go.Lib
/-- The reference's digits of a number from 1 on, ahead of what there is. -/
theorem specDigits_l0 : ∀ (m : Nat) (u : Nat), u = m → 0 < u → u ≤ 1000000 → ∀ (s : List UInt8), s.length + u ≤ 10000000 → ∀ k, m + 1 < k → spec_l4Digits.l0 k (u : Int) ⟨s.toArray⟩ = some ⟨(decDigits u ++ s).toArray⟩ := by
  intro m
  induction m using Nat.strongRecOn with
  | _ m ih =>
    intro u hm h0 h1 s hs k hk
    obtain ⟨k, rfl⟩ : ∃ q, k = q + 1 := ⟨k - 1, by omega⟩
    simp only [spec_l4Digits.l0, Option.bind_some]
    have hsz : (⟨s.toArray⟩ : ByteArray).size = s.length := by show s.toArray.size = _; simp
    have e10 : Int.tmod (u : Int) 10 = ((u % 10 : Nat) : Int) := by rw [Int.tmod_eq_emod_of_nonneg (by omega)]; rfl
    have ed : Int.tdiv (u : Int) 10 = ((u / 10 : Nat) : Int) := by rw [Int.tdiv_eq_ediv_of_nonneg (by omega)]; rfl
    have eb : wrap64 (48 + ((u % 10 : Nat) : Int)) % 256 = ((48 + u % 10 : Nat) : Int) := by unfold wrap64; omega
    have es : strOfNums [((48 + u % 10 : Nat) : Int)] ++ (⟨s.toArray⟩ : ByteArray) = ⟨(UInt8.ofNat (48 + u % 10) :: s).toArray⟩ := by
      apply ByteArray.ext
      rw [ByteArray.data_append]
      apply Array.toList_inj.1
      rw [Array.toList_append]
      rfl
    rw [e10, ed, eb, if_pos (by omega), es, if_pos (by rw [strOfNums_size, hsz]; simp; omega), wrap_small (by omega) (by omega)]
    by_cases hs10 : u < 10
    · have : u / 10 = 0 := by omega
      rw [this]
      obtain ⟨k, rfl⟩ : ∃ q, k = q + 1 := ⟨k - 1, by omega⟩
      simp only [spec_l4Digits.l0]
      rw [if_neg (by omega), decDigits, dif_pos hs10, show u % 10 = u by omega]
      rfl
    · rw [ih (u / 10) (by omega) (u / 10) rfl (by omega) (by omega) _ (by simp; omega) k (by omega), decDigits.eq_1 u, dif_neg hs10]
      simp
theorem specDigits_ok (u : Nat) (h : u ≤ 1000000) (k : Nat) (hk : u + 1 < k) : spec_l4Digits.f k (u : Int) = some ⟨(itoa (u : Int)).toArray⟩ := by
  unfold spec_l4Digits.f
  rw [itoa_nat]
  by_cases h0 : (u : Int) = 0
  · rw [if_pos h0]
    have : u = 0 := by omega
    subst this
    rw [decDigits, dif_pos (by decide)]
    rfl
  · rw [if_neg h0]
    have := specDigits_l0 u u rfl (by omega) h [] (by simp; omega) k hk
    simpa using this
theorem implDigits_ok (n : Int) (h0 : 0 ≤ n) (h1 : n ≤ 1000000) (k : Nat) : impl_digits.f k n = some ⟨(itoa n).toArray⟩ := by
  unfold impl_digits.f
  rw [if_pos (by omega)]
theorem specDigits_int (n : Int) (h0 : 0 ≤ n) (h1 : n ≤ 1000000) (k : Nat) (hk : 1000002 < k) : spec_l4Digits.f k n = some ⟨(itoa n).toArray⟩ := by
  obtain ⟨u, rfl⟩ : ∃ u : Nat, n = u := ⟨n.toNat, by omega⟩
  exact specDigits_ok u (by omega) k (by omega)
theorem itoa_size (n : Int) (h0 : 0 ≤ n) (h1 : n < 100000) : (⟨(itoa n).toArray⟩ : ByteArray).size ≤ 5 := by
  obtain ⟨u, rfl⟩ : ∃ u : Nat, n = u := ⟨n.toNat, by omega⟩
  rw [itoa_nat]
  have := (dec_len u (by omega)).1
  show (decDigits u).toArray.size ≤ 5
  simpa using this
end

section
open Go.Lib
theorem parse_append (c : UInt8) : ∀ (l : List UInt8) (acc u : Nat), parseUint10 acc l = .ok u → 48 ≤ c.toNat → c.toNat ≤ 57 → u < 1844674407370955162 → u * 10 + (c.toNat - 48) < 18446744073709551616 →
    parseUint10 acc (l ++ [c]) = .ok (u * 10 + (c.toNat - 48))
  | [], acc, u, h, h0, h1, h2, h3 => by
    simp only [parseUint10] at h
    injection h with h
    subst h
    simp only [List.nil_append, parseUint10]
    rw [if_pos ⟨h0, h1⟩, if_neg (by omega), if_neg (by omega)]
  | a :: l, acc, u, h, h0, h1, h2, h3 => by
    simp only [parseUint10] at h
    simp only [List.cons_append, parseUint10]
    split at h
    · split at h
      · cases h
      · split at h
        · cases h
        · rw [if_pos (by assumption), if_neg (by assumption), if_neg (by assumption)]
          exact parse_append c l _ u h h0 h1 h2 h3
    · cases h
theorem parse_dec (u : Nat) (h : u < 1000000) : parseUint10 0 (decDigits u) = .ok u := by
  induction u using Nat.strongRecOn with
  | _ u ih =>
    by_cases hs : u < 10
    · rw [decDigits, dif_pos hs]
      have := dig_byte u hs
      simp only [parseUint10]
      rw [if_pos (by omega), if_neg (by omega), if_neg (by omega)]
      congr 1
      omega
    · rw [decDigits, dif_neg hs]
      have hd := dig_byte (u % 10) (by omega)
      rw [parse_append _ _ 0 (u / 10) (ih (u / 10) (by omega) (by omega)) (by omega) (by omega) (by omega) (by omega)]
      congr 1
      omega
theorem atoi_dec (u : Nat) (h : u < 1000000) : atoiAll (decDigits u) = .ok (u : Int) := by
  have hp := parse_dec u h
  have hne := dec_ne u
  have hd := dec_digits u
  revert hp hne hd
  generalize decDigits u = l
  intro hp hne hd
  cases l with
  | nil => exact absurd rfl hne
  | cons c r =>
    have hc := hd c (by simp)
    unfold atoiAll
    have e : ¬ (c.toNat = 43 ∨ c.toNat = 45) := by omega
    simp only [if_neg e]
    unfold parseMag
    rw [if_neg (by simp), hp]
    simp only
    rw [if_neg (by omega), if_neg (by omega), if_neg (by omega)]
/-- What impl.readNumber accepts: just the numerals of 0 .. most. -/
theorem read_iff (l : List UInt8) (n most : Int) (hm : most < 1000000) :
    (atoiAll l = .ok n ∧ 0 ≤ n ∧ n ≤ most ∧ itoa n = l) ↔ (0 ≤ n ∧ n ≤ most ∧ itoa n = l) := by
  constructor
  · rintro ⟨_, h⟩; exact h
  · rintro ⟨h0, h1, h2⟩
    refine ⟨?_, h0, h1, h2⟩
    obtain ⟨u, rfl⟩ : ∃ u : Nat, n = u := ⟨n.toNat, by omega⟩
    rw [← h2, itoa_nat]
    exact atoi_dec u (by omega)
end

section
open Go.Lib
theorem ten_le (i : Nat) (h : i ≤ 5) : (10 : Int) ^ i ≤ 100000 := by
  have : i = 0 ∨ i = 1 ∨ i = 2 ∨ i = 3 ∨ i = 4 ∨ i = 5 := by omega
  rcases this with rfl | rfl | rfl | rfl | rfl | rfl <;> decide
theorem ba_list (s : ByteArray) : s.toList = s.data.toList := ByteArray.toList_eq s
theorem ba_mk (s : ByteArray) : (⟨s.data.toList.toArray⟩ : ByteArray) = s := by cases s; simp
theorem ba_ext {a b : ByteArray} (h : a.data.toList = b.data.toList) : a = b := by rw [← ba_mk a, h, ba_mk]
theorem ba_size (s : ByteArray) : s.size = s.data.toList.length := rfl
theorem bt_list (s : ByteArray) (i : Nat) (h : i < s.data.toList.length) : bt s (i : Int) = ((s.data.toList[i]).toNat : Int) := by
  unfold bt
  rw [dif_pos (by simpa using h)]
  rfl
def dfold (acc : Int) : List UInt8 → Int
  | [] => acc
  | c :: r => dfold (10 * acc + (c.toNat : Int) - 48) r
theorem dfold_append (c : UInt8) : ∀ (l : List UInt8) (acc : Int), dfold acc (l ++ [c]) = 10 * dfold acc l + (c.toNat : Int) - 48
  | [], acc => rfl
  | a :: l, acc => by simp only [List.cons_append, dfold]; exact dfold_append c l _
theorem dfold_dec (u : Nat) : dfold 0 (decDigits u) = u := by
  induction u using Nat.strongRecOn with
  | _ u ih =>
    by_cases hs : u < 10
    · rw [decDigits, dif_pos hs]
      have := dig_byte u hs
      simp only [dfold]
      omega
    · rw [decDigits, dif_neg hs, dfold_append, ih (u / 10) (by omega)]
      have := dig_byte (u % 10) (by omega)
      omega
theorem dfold_bound : ∀ (l : List UInt8) (acc : Int), 0 ≤ acc → (∀ c ∈ l, 48 ≤ c.toNat ∧ c.toNat ≤ 57) → 0 ≤ dfold acc l ∧ dfold acc l < (acc + 1) * 10 ^ l.length
  | [], acc, h0, _ => by simp only [dfold, List.length_nil]; omega
  | c :: r, acc, h0, h => by
    have hc := h c (by simp)
    have := dfold_bound r (10 * acc + (c.toNat : Int) - 48) (by omega) (fun x hx => h x (by simp [hx]))
    simp only [dfold, List.length_cons]
    refine ⟨this.1, Int.lt_of_lt_of_le this.2 ?_⟩
    have hp : (0 : Int) ≤ 10 ^ r.length := Int.pow_nonneg (by decide)
    rw [Int.pow_succ]
    calc (10 * acc + (c.toNat : Int) - 48 + 1) * 10 ^ r.length ≤ ((acc + 1) * 10) * 10 ^ r.length := Int.mul_le_mul_of_nonneg_right (by omega) hp
      _ = (acc + 1) * (10 ^ r.length * 10) := by rw [Int.mul_assoc, Int.mul_comm 10]
/-- The reading of what is left, x having been read. -/
def numRest (S : List UInt8) (x : Int) (l : List UInt8) : Int := if ∀ c ∈ l, 48 ≤ c.toNat ∧ c.toNat ≤ 57 then (if itoa (dfold x l) = S then dfold x l else -1) else -1
def num5 (s : List UInt8) : Int := if s = [] ∨ 5 < s.length then -1 else numRest s 0 s
theorem num5_spec (s : List UInt8) (h : 0 ≤ num5 s) : itoa (num5 s) = s ∧ num5 s < 100000 := by
  unfold num5 at *
  by_cases h1 : s = [] ∨ 5 < s.length
  · rw [if_pos h1] at h; omega
  · rw [if_neg h1] at h ⊢
    unfold numRest at *
    by_cases h2 : ∀ c ∈ s, 48 ≤ c.toNat ∧ c.toNat ≤ 57
    · rw [if_pos h2] at h ⊢
      by_cases h3 : itoa (dfold 0 s) = s
      · rw [if_pos h3]
        refine ⟨h3, ?_⟩
        have hb := (dfold_bound s 0 (by decide) h2).2
        have hl : s.length ≤ 5 := by omega
        have hp := ten_le s.length hl
        omega
      · rw [if_neg h3] at h; omega
    · rw [if_neg h2] at h; omega
theorem num5_dec (u : Nat) (h : u < 100000) : num5 (decDigits u) = u := by
  unfold num5 numRest
  have hl := dec_len u h
  rw [if_neg (by rintro (q | q); exact dec_ne u q; omega), if_pos (dec_digits u), dfold_dec, itoa_nat, if_pos rfl]
theorem num5_range (s : List UInt8) : -1 ≤ num5 s := by
  unfold num5 numRest
  split
  · omega
  · split
    · split
      · have := (dfold_bound s 0 (by decide) (by assumption)).1
        omega
      · omega
    · omega
theorem numberV_eq (s : ByteArray) (m : Int) (hm : m ≤ 65535) : numberV s m = if 0 ≤ num5 s.data.toList ∧ num5 s.data.toList ≤ m then (num5 s.data.toList, true) else (0, false) := by
  generalize hl : s.data.toList = l
  have hs : s.toList = l := by rw [ba_list, hl]
  have et : ∀ v : Int, (⟨(itoa v).toArray⟩ : ByteArray).toList = itoa v := fun v => by rw [ba_list]
  unfold numberV
  rw [hl, hs]
  by_cases hc : 0 ≤ num5 l ∧ num5 l ≤ m
  · obtain ⟨h1, h2⟩ := num5_spec l hc.1
    rw [if_pos hc]
    generalize hn : num5 l = n at *
    have := (read_iff l n m (by omega)).2 ⟨hc.1, hc.2, h1⟩
    rw [this.1]
    simp only
    rw [if_pos ⟨hc.1, hc.2, by rw [et]; exact h1⟩]
  · rw [if_neg hc]
    split
    · rename_i v hv
      rw [if_neg]
      rintro ⟨h0, h1, h2⟩
      rw [et] at h2
      obtain ⟨u, rfl⟩ : ∃ u : Nat, v = u := ⟨v.toNat, by omega⟩
      rw [itoa_nat] at h2
      have := num5_dec u (by omega)
      rw [h2] at this
      omega
    · rfl
end

def names : List ByteArray := (impl_opNames.f).getD []
theorem names_len : names.length = 30 := rfl
theorem impl_names : impl_opNames.f = some names := rfl
theorem opOfI_l0 (L : List ByteArray) (s : ByteArray) (hL : L.length ≤ 1000) : ∀ (k i : Nat), i ≤ L.length → L.length - i < k →
    ∃ r : Int, slices_Index_string_string.l0 k L s (L.length : Int) (i : Int) = some r ∧
      ((r = -1 ∧ ∀ j : Nat, i ≤ j → j < L.length → (rdOf ByteArray.empty L (j : Int)).toList ≠ s.toList) ∨
        ∃ j : Nat, r = (j : Int) ∧ i ≤ j ∧ j < L.length ∧ (rdOf ByteArray.empty L (j : Int)).toList = s.toList ∧ ∀ m : Nat, i ≤ m → m < j → (rdOf ByteArray.empty L (m : Int)).toList ≠ s.toList) := by
  intro k
  induction k with
  | zero => intro i _ h; omega
  | succ k ih =>
    intro i hi h
    simp only [slices_Index_string_string.l0]
    by_cases hlt : i < L.length
    · have c1 : (i : Int) < (L.length : Int) := by omega
      have c0 : (0 : Int) ≤ (i : Int) := by omega
      simp only [c0, c1, if_true]
      by_cases he : (rdOf ByteArray.empty L (i : Int)).toList = s.toList
      · rw [if_pos he.symm]
        exact ⟨i, rfl, .inr ⟨i, rfl, Nat.le_refl _, hlt, he, fun m h1 h2 => by omega⟩⟩
      · rw [if_neg (fun e => he e.symm), wrap_nat (by omega)]
        obtain ⟨r, h2, h3⟩ := ih (i + 1) (by omega) (by omega)
        refine ⟨r, h2, ?_⟩
        rcases h3 with ⟨hr, h3⟩ | ⟨j, hr, hj, hjl, h3, h4⟩
        · refine .inl ⟨hr, fun j hj hjl => ?_⟩
          rcases Nat.lt_or_ge i j with hij | hij
          · exact h3 j hij hjl
          · have : j = i := by omega
            subst this
            exact he
        · refine .inr ⟨j, hr, by omega, hjl, h3, fun m hm hmj => ?_⟩
          rcases Nat.lt_or_ge i m with him | him
          · exact h4 m him hmj
          · have : m = i := by omega
            subst this
            exact he
    · rw [if_neg (by omega)]
      exact ⟨-1, rfl, .inl ⟨rfl, fun j h1 h2 => by omega⟩⟩
def OpIs (s : ByteArray) (r : Int) : Prop := (r = -1 ∧ ∀ j : Nat, j < 30 → (rdOf ByteArray.empty names (j : Int)).toList ≠ s.toList) ∨
      ∃ j : Nat, r = (j : Int) ∧ j < 30 ∧ (rdOf ByteArray.empty names (j : Int)).toList = s.toList ∧ ∀ m : Nat, m < j → (rdOf ByteArray.empty names (m : Int)).toList ≠ s.toList
theorem OpIs.same {s : ByteArray} {r r' : Int} (h3 : OpIs s r) (h3' : OpIs s r') : r = r' := by
  rcases h3 with ⟨rfl, n⟩ | ⟨j, rfl, hj, hy, hn⟩
  · rcases h3' with ⟨rfl, n'⟩ | ⟨j', rfl, hj', hy', hn'⟩
    · rfl
    · exact absurd hy' (n j' hj')
  · rcases h3' with ⟨rfl, n'⟩ | ⟨j', rfl, hj', hy', hn'⟩
    · exact absurd hy (n' j hj)
    · rcases Nat.lt_trichotomy j j' with h | h | h
      · exact absurd hy (hn' j h)
      · rw [h]
      · exact absurd hy' (hn j' h)
theorem opOfI_ok (s : ByteArray) (k : Nat) (hk : 30 < k) : ∃ r : Int, impl_OpOf.f k s = some r ∧ OpIs s r := by
  have hl := names_len
  obtain ⟨r, h2, h3⟩ := opOfI_l0 names s (by omega) k 0 (by omega) (by omega)
  refine ⟨r, ?_, ?_⟩
  · unfold impl_OpOf.f slices_Index_string_string.f
    rw [impl_names, Option.bind_some, show ((0 : Int)) = ((0 : Nat) : Int) from rfl, h2, Option.bind_some]
  · rw [hl] at h3
    rcases h3 with ⟨hr, h3⟩ | ⟨j, hr, _, hj, h4, h5⟩
    · exact .inl ⟨hr, fun j hj => h3 j (Nat.zero_le _) hj⟩
    · exact .inr ⟨j, hr, hj, h4, fun m hm => h5 m (Nat.zero_le _) hm⟩
/-- The op's number. -/
def opV (s : ByteArray) : Int := (impl_OpOf.f 100 s).getD (-1)
theorem opV_is (s : ByteArray) : OpIs s (opV s) := by
  obtain ⟨r, h1, h3⟩ := opOfI_ok s 100 (by decide)
  have er : opV s = r := by unfold opV; rw [h1]; rfl
  rw [er]
  exact h3
theorem implOpOf (s : ByteArray) (k : Nat) (hk : 30 < k) : impl_OpOf.f k s = some (opV s) := by
  obtain ⟨r, h1, h3⟩ := opOfI_ok s k hk
  rw [h1, (opV_is s).same h3]
theorem opV_le (s : ByteArray) : opV s ≤ 29 := by
  rcases opV_is s with ⟨h, -⟩ | ⟨j, h, hj, -⟩ <;> omega

theorem within_eq (x lo hi : Int) : impl_within.f x lo hi = some (decide (lo ≤ x ∧ x ≤ hi)) := by
  unfold impl_within.f
  split <;> simp <;> omega
theorem l1In_eq (x lo hi : Int) : spec_l1In.f x lo hi = some (decide (lo ≤ x ∧ x ≤ hi)) := by
  unfold spec_l1In.f
  split <;> simp <;> omega

def opLenV (a : Int) : Int := if a = 1 ∨ (4 ≤ a ∧ a ≤ 9) then 2 else if a = 2 ∨ a = 3 ∨ (14 ≤ a ∧ a ≤ 20) ∨ a = 29 then 3 else 1
theorem specOpLen (a : Int) : spec_OpLen.f a = some (opLenV a) := by
  by_cases h : 0 ≤ a ∧ a ≤ 29
  · have hc : ∀ n : Fin 30, spec_OpLen.f (n.val : Int) = some (opLenV (n.val : Int)) := by decide
    have := hc ⟨a.toNat, by omega⟩
    rw [show ((a.toNat : Nat) : Int) = a by omega] at this
    exact this
  · unfold spec_OpLen.f opLenV
    have e : decide (0 ≤ a ∧ a ≤ 29) = false := decide_eq_false h
    rw [l1In_eq, Option.bind_some, e, if_neg (by decide), if_neg (by omega), if_neg (by omega)]
theorem opLenV_three (a : Int) : opLenV a = 1 ∨ opLenV a = 2 ∨ opLenV a = 3 := by
  unfold opLenV; repeat' split
  all_goals omega

theorem implOpLen (a : Int) (k : Nat) (hk : 1 ≤ k) : impl_OpLen.f k a = some (opLenV a) := by
  obtain ⟨k, rfl⟩ : ∃ q, k = q + 1 := ⟨k - 1, by omega⟩
  unfold impl_OpLen.f opLenV
  by_cases h1 : a = 1
  · subst h1; simp [impl_OpLen.j0]
  · rw [if_neg h1, within_eq, Option.bind_some]
    simp only [impl_OpLen.j0]
    by_cases h2 : 4 ≤ a ∧ a ≤ 9
    · simp [h2]
    · have e : decide (4 ≤ a ∧ a ≤ 9) = false := decide_eq_false h2
      rw [e]
      simp only [Bool.false_eq_true, if_false, within_eq, Option.bind_some, h1, h2, or_self]
      by_cases h3 : a = 2
      · subst h3; simp
      · by_cases h4 : a = 3
        · subst h4; simp
        · by_cases h5 : 14 ≤ a ∧ a ≤ 20
          · simp [h3, h4, h5]
          · by_cases h6 : a = 29
            · subst h6; simp
            · have e5 : decide (14 ≤ a ∧ a ≤ 20) = false := decide_eq_false h5
              simp [h3, h4, h5, h6, e5]

section
open Go.Lib
/-- What stands ahead of the first blank, what behind it, whether there is one. -/
def cutL : List UInt8 → List UInt8 × List UInt8 × Bool
  | [] => ([], [], false)
  | c :: r => if c = 32 then ([], r, true) else (c :: (cutL r).1, (cutL r).2.1, (cutL r).2.2)
theorem index_cons (b : UInt8) (l : List UInt8) : index (b :: l) [32] = if b = 32 then 0 else if index l [32] == -1 then -1 else index l [32] + 1 := by
  by_cases h : b = 32
  · subst h
    rw [index]
    simp [List.isPrefixOf]
  · rw [index, if_neg h]
    have hp : ([32] : List UInt8).isPrefixOf (b :: l) = false := by simp [List.isPrefixOf, Ne.symm h]
    rw [hp]
    simp
theorem cut_eq : ∀ l : List UInt8, cut l [32] = cutL l
  | [] => by
    have : index ([] : List UInt8) [32] = -1 := by simp [index]
    unfold cut
    rw [this, if_neg (by decide)]
    rfl
  | b :: l => by
    have ih := cut_eq l
    have hge := index_ge l [32]
    unfold cut at ih ⊢
    rw [index_cons]
    simp only [cutL]
    by_cases h : b = 32
    · rw [if_pos h, if_pos h, if_pos (by decide)]
      simp
    · rw [if_neg h, if_neg h]
      by_cases hm : index l [32] = -1
      · have e : (index l [32] == -1) = true := beq_iff_eq.2 hm
        rw [if_pos e, if_neg (by decide)]
        rw [hm, if_neg (by decide)] at ih
        rw [← ih]
      · have e : ¬ (index l [32] == -1) = true := fun q => hm (beq_iff_eq.1 q)
        obtain ⟨j, hj⟩ : ∃ j : Nat, index l [32] = j := ⟨(index l [32]).toNat, by omega⟩
        rw [if_neg e, if_pos (by omega)]
        rw [if_pos (by omega)] at ih
        rw [← ih, hj]
        have e1 : ((j : Int) + 1).toNat = j + 1 := by omega
        rw [e1]
        simp only [Int.toNat_natCast, List.take_succ_cons, List.length_singleton]
        rw [show j + 1 + 1 = (j + 1) + 1 by omega, List.drop_succ_cons]
theorem cutL_nil : ∀ l : List UInt8, (cutL l).2.2 = false → (cutL l).1 = l ∧ (cutL l).2.1 = []
  | [], _ => ⟨rfl, rfl⟩
  | c :: r, h => by
    simp only [cutL] at h ⊢
    by_cases hc : c = 32
    · rw [if_pos hc] at h; cases h
    · rw [if_neg hc] at h ⊢
      have := cutL_nil r h
      exact ⟨by simp only [this.1], this.2⟩
def lineNum (q : List UInt8 × List UInt8 × Bool) : Int := if q.2.2 = true then num5 q.2.1 else -1
def atW : List UInt8 := [97, 116]
def byteW : List UInt8 := [98, 121, 116, 101]
/-- What a line that is not empty says: nothing; or the place to go on from, if it tells one, and the bytes. -/
def stepV (l : List UInt8) : Option (Option Int × List Int) :=
  if (cutL l).2.2 = true ∧ num5 (cutL l).2.1 < 0 then none
  else if (cutL l).1 = atW then (if 0 ≤ lineNum (cutL l) ∧ lineNum (cutL l) ≤ 255 then some (some (lineNum (cutL l)), []) else none)
  else if (cutL l).1 = byteW then (if 0 ≤ lineNum (cutL l) ∧ lineNum (cutL l) ≤ 255 then some (none, [lineNum (cutL l)]) else none)
  else if opV ⟨(cutL l).1.toArray⟩ < 0 then none
  else if opLenV (opV ⟨(cutL l).1.toArray⟩) = 1 then (if lineNum (cutL l) < 0 then some (none, [opV ⟨(cutL l).1.toArray⟩]) else none)
  else if opLenV (opV ⟨(cutL l).1.toArray⟩) = 2 then (if 0 ≤ lineNum (cutL l) ∧ lineNum (cutL l) ≤ 255 then some (none, [opV ⟨(cutL l).1.toArray⟩, lineNum (cutL l)]) else none)
  else (if 0 ≤ lineNum (cutL l) ∧ lineNum (cutL l) ≤ 65535 then some (none, [opV ⟨(cutL l).1.toArray⟩, lineNum (cutL l) % 256, lineNum (cutL l) / 256]) else none)
end

section
open Go.Lib
/-- The lines of a text: what stands ahead of each byte 10, and what stands behind the last one, if that is not empty. -/
def linesL : List UInt8 → List (List UInt8)
  | [] => []
  | c :: r => if c = 10 then [] :: linesL r else (match linesL r with | [] => [[c]] | h :: t => (c :: h) :: t)
def splitL : List UInt8 → List (List UInt8)
  | [] => [[]]
  | c :: r => if c = 10 then [] :: splitL r else (match splitL r with | [] => [[c]] | h :: t => (c :: h) :: t)
theorem splitL_ne : ∀ l : List UInt8, splitL l ≠ []
  | [] => by simp [splitL]
  | c :: r => by
    simp only [splitL]
    split
    · simp
    · split <;> simp
def dropE (L : List (List UInt8)) : List (List UInt8) := if L.getLast? = some [] then L.dropLast else L
theorem dropE_cons (h : List UInt8) (M : List (List UInt8)) (hM : M ≠ []) : dropE (h :: M) = h :: dropE M := by
  unfold dropE
  obtain ⟨a, M', rfl⟩ := List.exists_cons_of_ne_nil hM
  rw [List.getLast?_cons_cons]
  split <;> simp
theorem linesL_eq : ∀ l : List UInt8, linesL l = dropE (splitL l)
  | [] => rfl
  | c :: r => by
    have ih := linesL_eq r
    have hne := splitL_ne r
    simp only [linesL, splitL]
    by_cases hc : c = 10
    · rw [if_pos hc, if_pos hc, dropE_cons _ _ hne, ih]
    · rw [if_neg hc, if_neg hc, ih]
      obtain ⟨h, t, e⟩ := List.exists_cons_of_ne_nil hne
      rw [e]
      cases t with
      | nil =>
        cases h with
        | nil => rfl
        | cons a h => simp [dropE]
      | cons b t =>
        show (match dropE (h :: b :: t) with | [] => [[c]] | h :: t => (c :: h) :: t) = dropE ((c :: h) :: b :: t)
        rw [dropE_cons h (b :: t) (by simp), dropE_cons (c :: h) (b :: t) (by simp)]
theorem splitL_none : ∀ l : List UInt8, (∀ c ∈ l, c ≠ 10) → splitL l = [l]
  | [], _ => rfl
  | c :: r, h => by
    simp only [splitL]
    rw [if_neg (h c (by simp)), splitL_none r (fun x hx => h x (by simp [hx]))]
theorem splitL_app : ∀ (p r : List UInt8), (∀ c ∈ p, c ≠ 10) → splitL (p ++ 10 :: r) = p :: splitL r
  | [], r, _ => by simp [splitL]
  | c :: p, r, h => by
    simp only [List.cons_append, splitL]
    rw [if_neg (h c (by simp)), splitL_app p r (fun x hx => h x (by simp [hx]))]
theorem linesL_app (p r : List UInt8) (h : ∀ c ∈ p, c ≠ 10) : linesL (p ++ 10 :: r) = p :: linesL r := by
  rw [linesL_eq, splitL_app p r h, dropE_cons _ _ (splitL_ne r), linesL_eq]
theorem linesL_one (p : List UInt8) (h : ∀ c ∈ p, c ≠ 10) (hp : p ≠ []) : linesL p = [p] := by
  rw [linesL_eq, splitL_none p h]
  unfold dropE
  rw [if_neg (by simpa using hp)]
theorem index10 (b : UInt8) (l : List UInt8) : index (b :: l) [10] = if b = 10 then 0 else if index l [10] == -1 then -1 else index l [10] + 1 := by
  by_cases h : b = 10
  · subst h
    rw [index]
    simp [List.isPrefixOf]
  · rw [index, if_neg h]
    have hp : ([10] : List UInt8).isPrefixOf (b :: l) = false := by simp [List.isPrefixOf, Ne.symm h]
    rw [hp]
    simp
theorem splitK_eq : ∀ s : List UInt8, splitK [10] 0 (count s [10]) s = splitL s
  | [] => by
    have : count ([] : List UInt8) [10] = 0 := by rw [count_one]; rfl
    rw [this]
    rfl
  | b :: l => by
    have ih := splitK_eq l
    have hge := index_ge l [10]
    simp only [splitL]
    by_cases h : b = 10
    · subst h
      rw [count_cons_eq, show 1 + count l [10] = count l [10] + 1 by omega, if_pos rfl]
      simp only [splitK, index10, if_true]
      rw [if_neg (by decide)]
      simp [ih]
    · rw [count_cons_ne b 10 l h, if_neg h]
      cases hk : count l [10] with
      | zero =>
        rw [hk] at ih
        simp only [splitK] at ih ⊢
        rw [← ih]
      | succ k =>
        rw [hk] at ih
        simp only [splitK] at ih ⊢
        rw [index10, if_neg h]
        by_cases hm : (index l [10] == -1) = true
        · rw [if_pos hm, if_pos (by decide)]
          rw [if_pos hm] at ih
          rw [← ih]
        · have hm2 : index l [10] ≠ -1 := fun q => hm (beq_iff_eq.2 q)
          obtain ⟨j, hj⟩ : ∃ j : Nat, index l [10] = j := ⟨(index l [10]).toNat, by omega⟩
          rw [if_neg hm, if_neg (fun q => by have := beq_iff_eq.1 q; omega)]
          rw [if_neg hm] at ih
          rw [← ih, hj]
          have e1 : ((j : Int) + 1).toNat = j + 1 := by omega
          rw [e1]
          simp only [Int.toNat_natCast, Nat.add_zero, List.take_succ_cons, List.length_singleton]
          rw [show j + 1 + 1 = (j + 1) + 1 by omega, List.drop_succ_cons]
/-- Bytes put one behind the other, from place p on. -/
def writeV : List Int → Int → List Int → List Int × Int
  | out, p, [] => (out, p)
  | out, p, x :: r => writeV (out.set (p % 256).toNat x) (p + 1) r
theorem writeV_len : ∀ (L : List Int) (out : List Int) (p : Int), (writeV out p L).1.length = out.length ∧ (writeV out p L).2 = p + L.length
  | [], out, p => by simp [writeV]
  | x :: r, out, p => by
    have := writeV_len r (out.set (p % 256).toNat x) (p + 1)
    simp only [writeV, List.length_cons]
    rw [this.1, this.2]
    exact ⟨by simp, by omega⟩
/-- A bank, line by line. -/
def runL : List (List UInt8) → List Int → Int → Int → List Int × Int
  | [], out, _, _ => (out, 0)
  | l :: r, out, p, m => if l = [] then runL r out p (m + 1) else match stepV l with
    | none => ([], m + 1)
    | some (nw, bs) => runL r (writeV out (nw.getD p) bs).1 (writeV out (nw.getD p) bs).2 (m + 1)
theorem stepV_small (l : List UInt8) (nw : Option Int) (bs : List Int) (h : stepV l = some (nw, bs)) : bs.length ≤ 3 ∧ ∀ n, nw = some n → 0 ≤ n ∧ n ≤ 255 := by
  unfold stepV at h
  repeat' split at h
  all_goals first
    | (cases h; done)
    | (simp only [Option.some.injEq, Prod.mk.injEq] at h
       obtain ⟨rfl, rfl⟩ := h
       refine ⟨by simp, fun n hn => ?_⟩
       first | (cases hn; done) | (simp only [Option.some.injEq] at hn; omega))
/-- What Assemble answers. -/
def asmV (l : List UInt8) : List Int × Int := if l.length > 3000 then ([], -1) else runL (linesL l) (List.replicate 256 0) 0 0
end

section
open Go.Lib
theorem strCut (s : ByteArray) (hs : s.size < 4294967281) : strings_Cut.f s ⟨#[32]⟩ = some (⟨(cutL s.data.toList).1.toArray⟩, ⟨(cutL s.data.toList).2.1.toArray⟩, (cutL s.data.toList).2.2) := by
  unfold strings_Cut.f
  have e : (⟨#[32]⟩ : ByteArray).data.toList = [32] := rfl
  rw [if_pos hs, e, cut_eq]
theorem implNumber (s : ByteArray) (hs : s.size ≤ 281474976710656) (m : Int) (hm : m ≤ 65535) (k : Nat) :
    impl_readNumber.f k s m = some (if 0 ≤ num5 s.data.toList ∧ num5 s.data.toList ≤ m then (num5 s.data.toList, true) else (0, false)) := by
  unfold impl_readNumber.f
  rw [if_pos hs, numberV_eq s m hm]
theorem num5_nil : num5 [] = -1 := rfl
theorem cutL_small : ∀ l : List UInt8, (cutL l).1.length ≤ l.length ∧ (cutL l).2.1.length ≤ l.length
  | [] => ⟨by simp [cutL], by simp [cutL]⟩
  | c :: r => by
    have := cutL_small r
    simp only [cutL]
    by_cases h : c = 32
    · rw [if_pos h]
      exact ⟨by simp, by simp⟩
    · rw [if_neg h]
      simp only [List.length_cons]
      omega
/-- A line that begins with at and a blank. -/
def atPre : List UInt8 → Option (List UInt8)
  | 97 :: 116 :: 32 :: r => some r
  | _ => none
theorem cut_at (l p : List UInt8) (h : l = 97 :: 116 :: 32 :: p) : cutL l = (atW, p, true) := by
  subst h
  simp [cutL, atW]
theorem at_cut (l : List UInt8) (h : (cutL l).1 = atW) (hf : (cutL l).2.2 = true) : l = 97 :: 116 :: 32 :: (cutL l).2.1 := by
  cases l with
  | nil => simp [cutL] at hf
  | cons a l =>
    by_cases ha : a = 32
    · simp [cutL, ha, atW] at h
    · cases l with
      | nil => simp [cutL, ha] at hf
      | cons b l =>
        by_cases hb : b = 32
        · simp [cutL, ha, hb, atW] at h
        · cases l with
          | nil => simp [cutL, ha, hb] at hf
          | cons c l =>
            by_cases hc : c = 32
            · simp [cutL, ha, hb, hc, atW] at h ⊢
              exact h
            · simp [cutL, ha, hb, hc, atW] at h
theorem cutPre (s : ByteArray) (hs : s.size ≤ 1000000) : strings_CutPrefix.f s ⟨#[97, 116, 32]⟩ = some (if s.data.toList.take 3 = [97, 116, 32] then (⟨(s.data.toList.drop 3).toArray⟩, true) else (s, false)) := by
  have hsz : s.size = s.data.toList.length := rfl
  have e3 : ((⟨#[97, 116, 32]⟩ : ByteArray).size : Int) = 3 := rfl
  have e4 : (⟨#[97, 116, 32]⟩ : ByteArray).toList = [97, 116, 32] := by rw [ba_list]
  unfold strings_CutPrefix.f stringslite_CutPrefix.f stringslite_HasPrefix.f
  rw [e3, e4]
  by_cases h3 : (s.size : Int) ≥ 3
  · have ex : (s.extract 0 ((3 : Int)).toNat).toList = s.data.toList.take 3 := by
      rw [ba_list, show ((3 : Int)).toNat = 3 from rfl, extract_from_zero]
    have ed : s.extract ((3 : Int)).toNat s.size = ⟨(s.data.toList.drop 3).toArray⟩ := by
      apply ba_ext
      rw [show ((3 : Int)).toNat = 3 from rfl, extract_to_end]
    rw [if_pos h3, if_pos (by decide), if_pos h3, ex, Option.bind_some]
    by_cases ht : s.data.toList.take 3 = [97, 116, 32]
    · have eb : (s.data.toList.take 3 == ([97, 116, 32] : List UInt8)) = true := beq_iff_eq.2 ht
      rw [eb, if_pos rfl, if_pos (by decide), if_pos h3, Option.bind_some, if_pos ht, ed]
    · have eb : (s.data.toList.take 3 == ([97, 116, 32] : List UInt8)) = false := beq_eq_false_iff_ne.2 ht
      rw [eb, if_neg (by decide), Option.bind_some, if_neg ht]
  · rw [if_neg h3, Option.bind_some, if_neg (by decide), Option.bind_some, if_neg]
    intro q
    have := congrArg List.length q
    rw [List.length_take] at this
    simp at this
    omega
theorem implBytes (s : ByteArray) (hs : s.size ≤ 1000000) (hat : ¬ s.data.toList.take 3 = [97, 116, 32]) (k : Nat) (hk : 1000 < k) :
    ∃ r : List Int × Bool, impl_lineBytes.f k s = some r ∧ ((r.2 = false ∧ stepV s.data.toList = none) ∨ (r.2 = true ∧ stepV s.data.toList = some (none, r.1))) := by
  unfold impl_lineBytes.f
  have hc := cutL_small s.data.toList
  have hc2 := cutL_nil s.data.toList
  have hac := at_cut s.data.toList
  have hsz : s.size = s.data.toList.length := rfl
  rw [strCut s (by omega), Option.bind_some]
  unfold stepV
  generalize hq : cutL s.data.toList = q at *
  obtain ⟨w, a, f⟩ := q
  simp only at hc hc2 hac ⊢
  have hw : (⟨w.toArray⟩ : ByteArray).toList = w := by rw [ba_list]
  have ea : (⟨a.toArray⟩ : ByteArray).data.toList = a := rfl
  have hn1 := num5_range a
  have hasz : (⟨a.toArray⟩ : ByteArray).size ≤ 281474976710656 := by show a.toArray.size ≤ _; simp; omega
  have o2 := implOpOf ⟨w.toArray⟩ k (by omega)
  have o3 := opV_le ⟨w.toArray⟩
  rw [o2, Option.bind_some, implNumber _ hasz 255 (by decide), Option.bind_some, hw, ea]
  have key : f = false → num5 a = -1 := by
    intro hf
    rw [(hc2 hf).2]
    rfl
  have hln : lineNum (w, a, f) = num5 a := by
    unfold lineNum
    cases f with
    | true => rfl
    | false => rw [key rfl]; rfl
  rw [hln]
  have hatw : w = atW → num5 a = -1 ∨ num5 a < 0 := by
    intro hw2
    cases f with
    | false => exact .inl (key rfl)
    | true =>
      exfalso
      have := hac hw2 rfl
      rw [this] at hat
      exact hat rfl
  by_cases hby : w = byteW
  · have hby2 : w = ([98, 121, 116, 101] : List UInt8) := hby
    have hna : ¬ w = atW := by rw [hby]; decide
    rw [if_pos hby2, if_neg hna, if_pos hby]
    by_cases hr : 0 ≤ num5 a ∧ num5 a ≤ 255
    · rw [if_pos hr, if_neg (by omega), if_pos hr]
      exact ⟨_, rfl, .inr ⟨rfl, rfl⟩⟩
    · rw [if_neg hr]
      refine ⟨_, rfl, .inl ⟨rfl, ?_⟩⟩
      split <;> first | rfl | (rw [if_neg hr])
  · have hby2 : ¬ w = ([98, 121, 116, 101] : List UInt8) := hby
    rw [if_neg hby2, if_neg hby]
    generalize hop : opV ⟨w.toArray⟩ = op
    by_cases ho : op < 0
    · rw [if_pos ho, if_pos ho]
      refine ⟨_, rfl, .inl ⟨rfl, ?_⟩⟩
      split
      · rfl
      · split
        · rename_i hh
          rcases hatw hh with q | q <;> rw [if_neg (by omega)]
        · rfl
    · rw [if_neg ho, if_neg ho]
      have hna : ¬ w = atW := by
        intro q
        rw [q] at hop
        have : opV ⟨atW.toArray⟩ = -1 := by
          rcases opV_is ⟨atW.toArray⟩ with ⟨h3, -⟩ | ⟨j, -, hj, h4, -⟩
          · exact h3
          · have hz : ∀ j : Fin 30, (rdOf ByteArray.empty names (j.val : Int)).data.toList.length = 3 := by decide
            have := hz ⟨j, hj⟩
            rw [ba_list, ba_list] at h4
            rw [h4] at this
            cases this
        omega
      rw [if_neg hna, implOpLen op k (by omega), Option.bind_some]
      by_cases h1 : opLenV op = 1
      · rw [if_pos h1, if_pos h1]
        cases f with
        | false =>
          have := key rfl
          rw [if_neg (by rintro ⟨q, _⟩; cases q), if_pos (by omega)]
          exact ⟨_, rfl, .inr ⟨rfl, rfl⟩⟩
        | true =>
          refine ⟨_, rfl, .inl ⟨rfl, ?_⟩⟩
          by_cases hneg : num5 a < 0
          · rw [if_pos ⟨rfl, hneg⟩]
          · rw [if_neg (fun q => hneg q.2), if_neg hneg]
      · rw [if_neg h1, if_neg h1, Option.bind_some]
        by_cases h2 : opLenV op = 2
        · rw [if_pos h2, if_pos h2]
          by_cases hr : 0 ≤ num5 a ∧ num5 a ≤ 255
          · rw [if_pos hr, if_neg (by omega), if_pos hr]
            exact ⟨_, rfl, .inr ⟨rfl, rfl⟩⟩
          · rw [if_neg hr]
            refine ⟨_, rfl, .inl ⟨rfl, ?_⟩⟩
            split <;> first | rfl | (rw [if_neg hr])
        · rw [if_neg h2, if_neg h2, implNumber _ hasz 65535 (by decide), Option.bind_some, ea]
          by_cases hr : 0 ≤ num5 a ∧ num5 a ≤ 65535
          · have e1 : Int.tmod (num5 a) 256 = num5 a % 256 := Int.tmod_eq_emod_of_nonneg hr.1
            have e2 : wrap64 (Int.tdiv (num5 a) 256) = num5 a / 256 := by
              rw [Int.tdiv_eq_ediv_of_nonneg hr.1, wrap_small (by omega) (by omega)]
            rw [if_pos hr, if_neg (by omega), if_pos hr]
            simp only [e1, e2]
            exact ⟨_, rfl, .inr ⟨rfl, rfl⟩⟩
          · rw [if_neg hr]
            refine ⟨_, rfl, .inl ⟨rfl, ?_⟩⟩
            split <;> first | rfl | (rw [if_neg hr])
theorem lines_both (s : ByteArray) (hs : s.size ≤ 1000000) : ∃ L : List ByteArray, impl_linesOf.f s = some L ∧ L.map (·.data.toList) = linesL s.data.toList ∧ (∀ x ∈ L, x.size ≤ 1000000) ∧ L.length ≤ 1000001 := by
  have hle := countB_le ⟨#[10]⟩ (by decide) _ s (Nat.le_refl _)
  have hlen := linesV_length s
  have hd : (linesV s).map (·.data.toList) = splitL s.data.toList := by
    unfold linesV
    rw [splitB_data]
    have e : countB s ⟨#[10]⟩ = count s.data.toList [10] := rfl
    rw [e]
    exact splitK_eq _
  generalize hn : countB s ⟨#[10]⟩ = n at *
  have hlast : (rdOf ByteArray.empty (linesV s) ((n : Nat) : Int)).toList = [] ↔ (splitL s.data.toList).getLast? = some [] := by
    rw [← hd, List.getLast?_eq_getElem?, List.length_map, hlen, Nat.add_sub_cancel, List.getElem?_map]
    unfold rdOf
    rw [Int.toNat_natCast, List.getD_eq_getElem?_getD, List.getElem?_eq_getElem (show n < (linesV s).length by omega), ba_list]
    simp
  have hsm : ∀ x ∈ linesV s, x.size ≤ 1000000 := by
    intro x hx
    have hx2 : x.data.toList ∈ splitL s.data.toList := by rw [← hd]; exact List.mem_map.2 ⟨x, hx, rfl⟩
    have : ∀ (l : List UInt8) (y : List UInt8), y ∈ splitL l → y.length ≤ l.length := by
      intro l
      induction l with
      | nil => intro y hy; simp [splitL] at hy; subst hy; simp
      | cons c r ih =>
        intro y hy
        simp only [splitL] at hy
        split at hy
        · rcases List.mem_cons.1 hy with rfl | hy
          · simp
          · have := ih y hy; simp; omega
        · have hne := splitL_ne r
          obtain ⟨h, t, e⟩ := List.exists_cons_of_ne_nil hne
          rw [e] at hy ih
          rcases List.mem_cons.1 hy with rfl | hy
          · have := ih h (by simp); simp; omega
          · have := ih y (by simp [hy]); simp; omega
    have := this _ _ hx2
    have e2 : x.size = x.data.toList.length := rfl
    have e3 : s.size = s.data.toList.length := rfl
    omega
  unfold impl_linesOf.f
  rw [if_pos (by omega), hn]
  by_cases hc : (rdOf ByteArray.empty (linesV s) ((n : Nat) : Int)).toList = []
  · rw [if_pos hc]
    refine ⟨_, rfl, ?_, fun x hx => hsm x (List.mem_of_mem_take hx), by rw [List.length_take]; omega⟩
    rw [linesL_eq]
    unfold dropE
    rw [if_pos (hlast.1 hc), ← hd, List.dropLast_eq_take, List.length_map, hlen, Nat.add_sub_cancel, List.map_take]
  · rw [if_neg hc]
    refine ⟨_, rfl, ?_, hsm, by omega⟩
    rw [linesL_eq]
    unfold dropE
    rw [if_neg (fun q => hc (hlast.2 q)), ← hd]
theorem implAsm_w (at_ : List ByteArray) (x22 x23 : Int) (L : List Int) (hL : L.length ≤ 3) (K : Nat) (R : Option (List Int × Int)) :
    ∀ (d j : Nat), L.length - j = d → j ≤ L.length → ∀ (m : List Int) (p : Int), m.length = 256 → 0 ≤ p →
      (∀ k, K < k → impl_Assemble.l0 k (writeV m p (L.drop j)).1 ((writeV m p (L.drop j)).2 % 256) at_ x22 (wrap64 (x23 + 1)) = R) →
      ∀ k, K + d + 1 < k → impl_Assemble.l1 k m (p % 256) at_ x22 x23 L (L.length : Int) (j : Int) = R := by
  intro d
  induction d with
  | zero =>
    intro j hd hj m p hm h0 next k hk
    obtain ⟨k, rfl⟩ : ∃ q, k = q + 1 := ⟨k - 1, by omega⟩
    rw [List.drop_eq_nil_of_le (by omega)] at next
    simp only [impl_Assemble.l1]
    rw [if_neg (by omega)]
    exact next k (by omega)
  | succ d ih =>
    intro j hd hj m p hm h0 next k hk
    obtain ⟨k, rfl⟩ : ∃ q, k = q + 1 := ⟨k - 1, by omega⟩
    have hlt : j < L.length := by omega
    rw [List.drop_eq_getElem_cons hlt] at next
    simp only [writeV] at next
    simp only [impl_Assemble.l1]
    have e : Int.tmod (wrap64 (p % 256 + 1)) 256 = (p + 1) % 256 := by
      rw [wrap_small (by omega) (by omega), Int.tmod_eq_emod_of_nonneg (by omega)]; omega
    rw [if_pos (by omega), if_pos (by omega), if_pos (by omega), if_pos (by omega), if_pos (by omega), wrap_nat (by omega), rd_nat L j hlt, e]
    exact ih (j + 1) (by omega) (by omega) _ (p + 1) (by simpa using hm) (by omega) next k (by omega)
theorem implAsm_l0 (L : List ByteArray) (hL : ∀ x ∈ L, x.size ≤ 1000000) (hn : L.length ≤ 1000001) : ∀ (d i : Nat), L.length - i = d → i ≤ L.length → ∀ (m : List Int) (p : Int), m.length = 256 → 0 ≤ p → ∀ k, 3000000 + 10 * d < k →
    impl_Assemble.l0 k m (p % 256) L (L.length : Int) (i : Int) = some (runL ((L.drop i).map (·.data.toList)) m p (i : Int)) := by
  intro d
  induction d with
  | zero =>
    intro i hd hi m p hm h0 k hk
    obtain ⟨k, rfl⟩ : ∃ q, k = q + 1 := ⟨k - 1, by omega⟩
    simp only [impl_Assemble.l0]
    rw [if_neg (by omega), List.drop_eq_nil_of_le (by omega)]
    rfl
  | succ d ih =>
    intro i hd hi m p hm h0 k hk
    obtain ⟨k, rfl⟩ : ∃ q, k = q + 1 := ⟨k - 1, by omega⟩
    have hlt : i < L.length := by omega
    have er : rdOf ByteArray.empty L (i : Int) = L[i] := by
      unfold rdOf
      rw [Int.toNat_natCast, List.getD_eq_getElem?_getD, List.getElem?_eq_getElem hlt]
      rfl
    have hsz := hL L[i] (List.getElem_mem hlt)
    rw [List.drop_eq_getElem_cons hlt]
    simp only [impl_Assemble.l0, List.map_cons, runL]
    rw [if_pos (by omega), if_pos (by omega), if_pos (by omega), er, ba_list, wrap_nat (by omega)]
    have e1 : ((i : Int) + 1) = ((i + 1 : Nat) : Int) := by omega
    rw [e1]
    generalize hs : L[i] = s at *
    by_cases hemp : s.data.toList = []
    · rw [if_pos hemp, if_pos hemp]
      exact ih (i + 1) (by omega) (by omega) m p hm h0 k (by omega)
    · rw [if_neg hemp, if_neg hemp, cutPre s hsz, Option.bind_some]
      by_cases hat : s.data.toList.take 3 = [97, 116, 32]
      · rw [if_pos hat, if_pos rfl]
        have hl : s.data.toList = 97 :: 116 :: 32 :: s.data.toList.drop 3 := by
          have := List.take_append_drop 3 s.data.toList
          rw [hat] at this
          exact this.symm
        have hcut := cut_at _ _ hl
        have ed : (⟨(s.data.toList.drop 3).toArray⟩ : ByteArray).data.toList = s.data.toList.drop 3 := rfl
        have edz : (⟨(s.data.toList.drop 3).toArray⟩ : ByteArray).size ≤ 281474976710656 := by
          have e2 : s.size = s.data.toList.length := rfl
          show (s.data.toList.drop 3).toArray.size ≤ _
          simp
          omega
        rw [implNumber _ edz 255 (by decide), Option.bind_some, ed]
        generalize s.data.toList.drop 3 = a at *
        have hst : stepV s.data.toList = if 0 ≤ num5 a ∧ num5 a ≤ 255 then some (some (num5 a), []) else none := by
          unfold stepV
          rw [hcut]
          simp only [lineNum, if_true, true_and]
          by_cases hneg : num5 a < 0
          · rw [if_pos hneg, if_neg (by omega)]
          · rw [if_neg hneg]
        rw [hst]
        by_cases hr : 0 ≤ num5 a ∧ num5 a ≤ 255
        · rw [if_pos hr, if_pos hr, if_pos rfl]
          simp only [Option.getD_some, writeV]
          have := ih (i + 1) (by omega) (by omega) m (num5 a) hm hr.1 k (by omega)
          rw [show num5 a % 256 = num5 a by omega] at this
          exact this
        · rw [if_neg hr, if_neg hr, if_neg (by decide)]
      · rw [if_neg hat, if_neg (show ¬ ((s, false) : ByteArray × Bool).2 = true from fun q => by cases q)]
        obtain ⟨⟨bs, ok⟩, e, hr⟩ := implBytes s hsz hat k (by omega)
        rw [e, Option.bind_some]
        simp only at hr ⊢
        rcases hr with ⟨hok, hst⟩ | ⟨hok, hst⟩
        · rw [hst, hok, if_neg (by decide)]
        · rw [hst, hok, if_pos rfl]
          simp only [Option.getD_none]
          have hb := (stepV_small _ _ _ hst).1
          have hw := writeV_len bs m p
          refine implAsm_w L _ _ bs hb (3000000 + 10 * d) _ bs.length 0 (by omega) (by omega) m p hm h0 ?_ k (by omega)
          intro q hq
          rw [wrap_nat (by omega), List.drop_zero]
          exact ih (i + 1) (by omega) (by omega) _ _ (by rw [hw.1]; exact hm) (by rw [hw.2]; omega) q hq
theorem implAsm (s : ByteArray) (k : Nat) (hk : 3100000 < k) : impl_Assemble.f k s = some (asmV s.data.toList) := by
  have hsz : s.size = s.data.toList.length := rfl
  unfold impl_Assemble.f asmV
  by_cases h : (s.size : Int) > 3000
  · rw [if_pos h, if_pos (by omega)]
  · obtain ⟨L, e, hd, hx, hn⟩ := lines_both s (by omega)
    rw [if_neg h, if_neg (show ¬ s.data.toList.length > 3000 by omega), if_pos (show (256 : Nat) ≤ 35184372088832 by decide), e, Option.bind_some]
    have hln : L.length ≤ s.size + 1 := by
      have := congrArg List.length hd
      rw [List.length_map] at this
      have h2 : ∀ l : List UInt8, (linesL l).length ≤ l.length := by
        intro l
        induction l with
        | nil => simp [linesL]
        | cons c r ih =>
          simp only [linesL]
          split
          · simp; omega
          · split
            · simp
            · rename_i h t he
              rw [he] at ih
              simp at ih ⊢
              omega
      have := h2 s.data.toList
      omega
    have := implAsm_l0 L hx hn L.length 0 (by omega) (by omega) (List.replicate 256 0) 0 List.length_replicate (by omega) k (by omega)
    rw [List.drop_zero, hd] at this
    exact this
end
theorem runL_len : ∀ (L : List (List UInt8)) (m : List Int) (p n : Int), m.length = 256 → (runL L m p n).1.length = 256 ∨ (runL L m p n).1.length = 0
  | [], m, p, n, h => .inl h
  | l :: r, m, p, n, h => by
    simp only [runL]
    split
    · exact runL_len r m p _ h
    · split
      · exact .inr rfl
      · rename_i nw bs hst
        exact runL_len r _ _ _ (by rw [(writeV_len bs m _).1]; exact h)
theorem asmV_len (l : List UInt8) : (asmV l).1.length = 256 ∨ (asmV l).1.length = 0 := by
  unfold asmV
  split
  · exact .inr rfl
  · exact runL_len _ _ _ _ List.length_replicate

theorem implJoin (a b : Int) : impl_Join.f a b = some (a % 256 + 256 * (b % 256)) := by
  unfold impl_Join.f impl_Byte.f
  simp only [Option.bind_some, and255]
  rw [wrap_small (n := 256 * (b % 256)) (by omega) (by omega), wrap_small (by omega) (by omega)]

theorem specJoin (a b : Int) : spec_Join.f a b = some (a % 256 + 256 * (b % 256)) := implJoin a b

theorem opName_both (a : Int) : ∃ s, impl_OpName.f a = some s ∧ spec_OpName.f a = some s ∧ s.size ≤ 3 := by
  have e : spec_OpName.f a = impl_OpName.f a := by
    unfold spec_OpName.f impl_OpName.f impl_isOp.f
    rw [within_eq, l1In_eq]
    rfl
  rw [e]
  suffices h : ∃ s, impl_OpName.f a = some s ∧ s.size ≤ 3 by
    obtain ⟨s, h1, h2⟩ := h
    exact ⟨s, h1, h1, h2⟩
  by_cases h : 0 ≤ a ∧ a ≤ 29
  · have hc : ∀ n : Fin 30, ((impl_OpName.f (n.val : Int)).isSome && decide (((impl_OpName.f (n.val : Int)).getD ⟨#[]⟩).size ≤ 3)) = true := by decide
    have := hc ⟨a.toNat, by omega⟩
    rw [show ((a.toNat : Nat) : Int) = a by omega] at this
    cases e : impl_OpName.f a with
    | none => rw [e] at this; simp at this
    | some s =>
      rw [e] at this
      simp at this
      exact ⟨s, rfl, this⟩
  · refine ⟨⟨#[]⟩, ?_, by decide⟩
    unfold impl_OpName.f impl_isOp.f
    rw [within_eq, decide_eq_false h]
    rfl
def atV (l : List Int) (i : Int) : Int := if i ≥ (l.length : Int) then 0 else rd l i % 256
theorem atV_range (l : List Int) (i : Int) : 0 ≤ atV l i ∧ atV l i ≤ 255 := by
  unfold atV; split <;> omega
theorem implByteAt (l : List Int) (i : Int) (h0 : 0 ≤ i) : impl_byteAt.f l i = some (atV l i) := by
  unfold impl_byteAt.f atV impl_Byte.f
  by_cases h : i ≥ (l.length : Int)
  · simp [h]
  · rw [if_neg h, if_neg h, if_pos h0, if_pos (by omega)]
    simp [and255]
theorem specL4At (l : List Int) (i : Int) (h0 : 0 ≤ i) : spec_l4At.f l i = some (atV l i) := by
  unfold spec_l4At.f atV spec_Byte.f
  by_cases h : i ≥ (l.length : Int)
  · simp [h]
  · rw [if_neg h, if_neg h, if_pos h0, if_pos (by omega)]
    simp [and255]
def nameV (a : Int) : ByteArray := (impl_OpName.f a).getD ⟨#[]⟩
theorem implName (a : Int) : impl_OpName.f a = some (nameV a) ∧ spec_OpName.f a = some (nameV a) ∧ (nameV a).size ≤ 3 := by
  obtain ⟨s, h1, h2, h3⟩ := opName_both a
  unfold nameV
  rw [h1]
  exact ⟨rfl, h2, h3⟩
def numV (n : Int) : ByteArray := ⟨(Go.Lib.itoa n).toArray⟩
/-- What a line of a listing says, and how many bytes it takes. -/
def lineV (l : List Int) (i : Int) : ByteArray × Int :=
  if 0 ≤ i ∧ i ≤ (l.length : Int) - 1 then
    if 0 ≤ atV l i ∧ atV l i ≤ 29 then
      if opLenV (atV l i) = 1 then (nameV (atV l i), 1)
      else if opLenV (atV l i) = 2 then ((nameV (atV l i) ++ ⟨#[32]⟩) ++ numV (atV l (i + 1)), 2)
      else ((nameV (atV l i) ++ ⟨#[32]⟩) ++ numV (atV l (i + 1) % 256 + 256 * (atV l (i + 2) % 256)), 3)
    else (⟨#[98, 121, 116, 101, 32]⟩ ++ numV (atV l i), 1)
  else (⟨#[]⟩, 0)
theorem implLineOf (l : List Int) (hl : l.length ≤ 140737488351232) (i : Int) (k : Nat) (hk : 1 ≤ k) : impl_LineOf.f k l i = some (lineV l i) := by
  unfold impl_LineOf.f lineV
  rw [within_eq, Option.bind_some, wrap_small (by omega) (by omega)]
  by_cases hi : 0 ≤ i ∧ i ≤ (l.length : Int) - 1
  · have a0 := atV_range l i
    have a1 := atV_range l (i + 1)
    have a2 := atV_range l (i + 2)
    rw [if_pos hi, decide_eq_true hi, if_pos rfl, implByteAt l i hi.1, Option.bind_some]
    unfold impl_isOp.f
    rw [within_eq]
    by_cases ho : 0 ≤ atV l i ∧ atV l i ≤ 29
    · obtain ⟨n1, -, n3⟩ := implName (atV l i)
      rw [if_pos ho, decide_eq_true ho]
      simp only [Option.bind_some, if_true]
      rw [implOpLen _ k hk, Option.bind_some, n1]
      by_cases h1 : opLenV (atV l i) = 1
      · rw [if_pos h1, if_pos h1]; rfl
      · rw [if_neg h1, if_neg h1]
        have hs1 : (nameV (atV l i) ++ (⟨#[32]⟩ : ByteArray)).size ≤ 4 := by rw [ByteArray.size_append]; show _ + 1 ≤ 4; omega
        by_cases h2 : opLenV (atV l i) = 2
        · have := itoa_size (atV l (i + 1)) a1.1 (by omega)
          rw [if_pos h2, if_pos h2, Option.bind_some, if_pos (by omega), wrap_small (n := i + 1) (by omega) (by omega), implByteAt l (i + 1) (by omega), Option.bind_some, implDigits_ok _ a1.1 (by omega), Option.bind_some, if_pos (by omega)]
          rfl
        · have := itoa_size (atV l (i + 1) % 256 + 256 * (atV l (i + 2) % 256)) (by omega) (by omega)
          rw [if_neg h2, if_neg h2, Option.bind_some, if_pos (by omega), wrap_small (n := i + 1) (by omega) (by omega), wrap_small (n := i + 2) (by omega) (by omega), implByteAt l (i + 1) (by omega), implByteAt l (i + 2) (by omega), Option.bind_some, Option.bind_some, implJoin, Option.bind_some, implDigits_ok _ (by omega) (by omega), Option.bind_some, if_pos (by omega)]
          rfl
    · have := itoa_size (atV l i) a0.1 (by omega)
      rw [if_neg ho, decide_eq_false ho]
      simp only [Option.bind_some, Bool.false_eq_true, if_false]
      rw [implDigits_ok _ a0.1 (by omega), Option.bind_some, if_pos (by omega)]
      rfl
  · rw [if_neg hi, decide_eq_false hi, if_neg (by decide)]
theorem specLineOf (l : List Int) (hl : l.length ≤ 140737488351232) (i : Int) (k : Nat) (hk : 1000002 < k) : spec_LineOf.f k l i = some (lineV l i) := by
  unfold spec_LineOf.f lineV
  rw [l1In_eq, Option.bind_some, wrap_small (by omega) (by omega)]
  by_cases hi : 0 ≤ i ∧ i ≤ (l.length : Int) - 1
  · have a0 := atV_range l i
    have a1 := atV_range l (i + 1)
    have a2 := atV_range l (i + 2)
    rw [if_pos hi, decide_eq_true hi, if_pos rfl, specL4At l i hi.1, Option.bind_some, specOpLen, Option.bind_some]
    by_cases ho : 0 ≤ atV l i ∧ atV l i ≤ 29
    · obtain ⟨-, n1, n3⟩ := implName (atV l i)
      rw [if_pos ho, if_neg (by omega), n1]
      by_cases h1 : opLenV (atV l i) = 1
      · rw [if_pos h1, if_pos h1]; rfl
      · rw [if_neg h1, if_neg h1]
        have hs1 : (nameV (atV l i) ++ (⟨#[32]⟩ : ByteArray)).size ≤ 4 := by rw [ByteArray.size_append]; show _ + 1 ≤ 4; omega
        by_cases h2 : opLenV (atV l i) = 2
        · have := itoa_size (atV l (i + 1)) a1.1 (by omega)
          rw [if_pos h2, if_pos h2, Option.bind_some, if_pos (by omega), wrap_small (n := i + 1) (by omega) (by omega), specL4At l (i + 1) (by omega), Option.bind_some, specDigits_int _ a1.1 (by omega) k hk, Option.bind_some, if_pos (by omega)]
          rfl
        · have := itoa_size (atV l (i + 1) % 256 + 256 * (atV l (i + 2) % 256)) (by omega) (by omega)
          rw [if_neg h2, if_neg h2, Option.bind_some, if_pos (by omega), wrap_small (n := i + 1) (by omega) (by omega), wrap_small (n := i + 2) (by omega) (by omega), specL4At l (i + 1) (by omega), specL4At l (i + 2) (by omega), Option.bind_some, Option.bind_some, specJoin, Option.bind_some, specDigits_int _ (by omega) (by omega) k hk, Option.bind_some, if_pos (by omega)]
          rfl
    · have := itoa_size (atV l i) a0.1 (by omega)
      rw [if_neg ho, if_pos (by omega), specDigits_int _ a0.1 (by omega) k hk, Option.bind_some, if_pos (by omega)]
      rfl
  · rw [if_neg hi, decide_eq_false hi, if_neg (by decide)]

theorem lineV_small (l : List Int) (i : Int) : (lineV l i).1.size ≤ 10 ∧ 0 ≤ (lineV l i).2 ∧ (lineV l i).2 ≤ 3 ∧ ((lineV l i).2 ≠ 0 → 0 ≤ i ∧ i < l.length) := by
  have a0 := atV_range l i
  have a1 := atV_range l (i + 1)
  have a2 := atV_range l (i + 2)
  have s3 := (implName (atV l i)).2.2
  have e1 : (⟨#[32]⟩ : ByteArray).size = 1 := rfl
  have e5 : (⟨#[98, 121, 116, 101, 32]⟩ : ByteArray).size = 5 := rfl
  have z0 := itoa_size (atV l i) a0.1 (by omega)
  have z1 := itoa_size (atV l (i + 1)) a1.1 (by omega)
  have z2 := itoa_size (atV l (i + 1) % 256 + 256 * (atV l (i + 2) % 256)) (by omega) (by omega)
  unfold lineV
  split
  · rename_i hi
    split
    · split
      · exact ⟨by show (nameV _).size ≤ 10; omega, by simp only; omega, by simp only; omega, fun _ => ⟨hi.1, by omega⟩⟩
      · split
        · refine ⟨?_, by simp only; omega, by simp only; omega, fun _ => ⟨hi.1, by omega⟩⟩
          show ((nameV (atV l i) ++ (⟨#[32]⟩ : ByteArray)) ++ numV _).size ≤ 10
          rw [ByteArray.size_append, ByteArray.size_append]
          show _ + (⟨(Go.Lib.itoa (atV l (i + 1))).toArray⟩ : ByteArray).size ≤ 10
          omega
        · refine ⟨?_, by simp only; omega, by simp only; omega, fun _ => ⟨hi.1, by omega⟩⟩
          show ((nameV (atV l i) ++ (⟨#[32]⟩ : ByteArray)) ++ numV _).size ≤ 10
          rw [ByteArray.size_append, ByteArray.size_append]
          show _ + (⟨(Go.Lib.itoa (atV l (i + 1) % 256 + 256 * (atV l (i + 2) % 256))).toArray⟩ : ByteArray).size ≤ 10
          omega
    · refine ⟨?_, by simp only; omega, by simp only; omega, fun _ => ⟨hi.1, by omega⟩⟩
      show ((⟨#[98, 121, 116, 101, 32]⟩ : ByteArray) ++ numV _).size ≤ 10
      rw [ByteArray.size_append]
      show _ + (⟨(Go.Lib.itoa (atV l i)).toArray⟩ : ByteArray).size ≤ 10
      omega
  · exact ⟨by decide, by decide, by decide, fun h => absurd rfl h⟩
/-- A listing of at most d lines, behind what there is. -/
def listV : Nat → List Int → Int → ByteArray → ByteArray
  | 0, _, _, s => s
  | d + 1, l, i, s => if (lineV l i).2 = 0 then s else listV d l (i + (lineV l i).2) (s ++ ((lineV l i).1 ++ ⟨#[10]⟩))
theorem implListing_l0 (l : List Int) (hl : l.length ≤ 140737488351232) (m : Int) : ∀ (d : Nat) (i x : Int) (s : ByteArray), (m - x).toNat = d → 0 ≤ x → m ≤ 256 → s.size + 20 * d ≤ 100000 → ∀ k, d + 1 < k → impl_Listing.l0 k l i s m x = some (listV d l i s) := by
  intro d
  induction d with
  | zero =>
    intro i x s hd h0 hm hs k hk
    obtain ⟨k, rfl⟩ : ∃ q, k = q + 1 := ⟨k - 1, by omega⟩
    simp only [impl_Listing.l0]
    rw [if_neg (by omega)]
    rfl
  | succ d ih =>
    intro i x s hd h0 hm hs k hk
    obtain ⟨k, rfl⟩ : ∃ q, k = q + 1 := ⟨k - 1, by omega⟩
    obtain ⟨z1, z2, z3, z4⟩ := lineV_small l i
    have e1 : (⟨#[10]⟩ : ByteArray).size = 1 := rfl
    have e2 : ((lineV l i).1 ++ (⟨#[10]⟩ : ByteArray)).size = (lineV l i).1.size + 1 := by rw [ByteArray.size_append, e1]
    simp only [impl_Listing.l0, listV]
    rw [if_pos (by omega), implLineOf l hl i k (by omega), Option.bind_some]
    by_cases hn : (lineV l i).2 = 0
    · rw [if_pos hn, if_pos hn]
    · have := z4 hn
      rw [if_neg hn, if_neg hn, if_pos (by omega), if_pos (by omega), wrap_small (by omega) (by omega), wrap_small (n := x + 1) (by omega) (by omega)]
      exact ih _ _ _ (by omega) (by omega) hm (by rw [ByteArray.size_append, e2]; omega) k (by omega)
theorem specListing_l0 (l : List Int) (hl : l.length ≤ 140737488351232) (a m : Int) (hm : spec_l1Min.f a 256 = some m) : ∀ (d : Nat) (i x : Int) (s : ByteArray), (m - x).toNat = d → 0 ≤ x → m ≤ 256 → s.size + 20 * d ≤ 100000 → ∀ k, d + 1000010 < k → spec_Listing.l0 k l i a s x = some (listV d l i s) := by
  intro d
  induction d with
  | zero =>
    intro i x s hd h0 h1 hs k hk
    obtain ⟨k, rfl⟩ : ∃ q, k = q + 1 := ⟨k - 1, by omega⟩
    simp only [spec_Listing.l0]
    rw [hm, Option.bind_some, if_neg (by omega)]
    rfl
  | succ d ih =>
    intro i x s hd h0 h1 hs k hk
    obtain ⟨k, rfl⟩ : ∃ q, k = q + 1 := ⟨k - 1, by omega⟩
    obtain ⟨z1, z2, z3, z4⟩ := lineV_small l i
    have e1 : (⟨#[10]⟩ : ByteArray).size = 1 := rfl
    have e2 : ((lineV l i).1 ++ (⟨#[10]⟩ : ByteArray)).size = (lineV l i).1.size + 1 := by rw [ByteArray.size_append, e1]
    simp only [spec_Listing.l0, listV]
    rw [hm, Option.bind_some, if_pos (by omega), specLineOf l hl i k (by omega), Option.bind_some]
    by_cases hn : (lineV l i).2 = 0
    · rw [if_pos hn, if_pos hn]
    · have := z4 hn
      have e3 : (s ++ (lineV l i).1).size = s.size + (lineV l i).1.size := ByteArray.size_append
      rw [if_neg hn, if_neg hn, if_pos (by omega), if_pos (by omega), wrap_small (by omega) (by omega), wrap_small (n := x + 1) (by omega) (by omega), ByteArray.append_assoc]
      exact ih _ _ _ (by omega) (by omega) h1 (by rw [ByteArray.size_append, e2]; omega) k (by omega)
def listingV (l : List Int) (i a : Int) : ByteArray := listV (min a 256).toNat l i ⟨#[]⟩
theorem implListing (l : List Int) (hl : l.length ≤ 140737488351232) (i a : Int) (k : Nat) (hk : 300 < k) : impl_Listing.f k l i a = some (listingV l i a) := by
  unfold impl_Listing.f listingV
  have e : mn a 256 = min a 256 := by unfold mn; omega
  rw [e]
  have e0 : (⟨#[]⟩ : ByteArray).size = 0 := rfl
  exact implListing_l0 l hl _ _ i 0 _ (by omega) (by omega) (by omega) (by omega) k (by omega)
theorem specListing (l : List Int) (hl : l.length ≤ 140737488351232) (i a : Int) (k : Nat) (hk : 1000400 < k) : spec_Listing.f k l i a = some (listingV l i a) := by
  unfold spec_Listing.f listingV
  have e : spec_l1Min.f a 256 = some (min a 256) := by
    unfold spec_l1Min.f
    split <;> (congr 1; omega)
  have e0 : (⟨#[]⟩ : ByteArray).size = 0 := rfl
  exact specListing_l0 l hl a _ e _ i 0 _ (by omega) (by omega) (by omega) (by omega) k (by omega)

theorem and_range (n : Int) : 0 ≤ Go.bits .and .i64 n 255 ∧ Go.bits .and .i64 n 255 ≤ 255 := by
  rw [and255]; omega
theorem l1New_l0 (l : List Int) (hl : l.length ≤ 140737488351232) : ∀ (k : Nat) (h : Int) (i : Nat), i ≤ l.length → l.length - i < k → ∃ h', spec_l1New.l0 k l h (i : Int) = some (l, 0, h') := by
  intro k
  induction k with
  | zero => intro h i _ hk; omega
  | succ k ih =>
    intro h i hi hk
    simp only [spec_l1New.l0]
    by_cases hlt : i < l.length
    · rw [if_pos (by omega)]
      by_cases h4 : (i : Int) < 4000
      · rw [if_pos h4, if_pos (by omega), wrap_nat (by omega)]
        exact ih _ (i + 1) (by omega) (by omega)
      · rw [if_neg h4]; exact ⟨_, rfl⟩
    · rw [if_neg (by omega)]; exact ⟨_, rfl⟩
theorem l1New_ok (l : List Int) (hl : l.length ≤ 140737488351232) (k : Nat) (hk : l.length < k) : ∃ h', spec_l1New.f k l = some (l, 0, h') := by
  unfold spec_l1New.f
  have := l1New_l0 l hl k (wrap64 (18554 + (l.length : Int))) 0 (by omega) (by omega)
  rwa [show ((0 : Nat) : Int) = 0 from rfl] at this
theorem l1Byte_ok (l : List Int) (hl : l.length ≤ 140737488351232) (i h : Int) (h0 : 0 ≤ i) (h1 : i ≤ l.length) : ∃ r i' h' : Int, spec_l1Byte.f l i h = some (r, i', h') ∧ 0 ≤ r ∧ r ≤ 255 ∧ 0 ≤ i' ∧ i' ≤ l.length := by
  unfold spec_l1Byte.f
  by_cases hlt : i < (l.length : Int)
  · rw [if_pos hlt, if_pos h0]
    refine ⟨_, _, _, rfl, (and_range _).1, (and_range _).2, ?_, ?_⟩ <;> rw [wrap_small (by omega) (by omega)] <;> omega
  · rw [if_neg hlt]
    exact ⟨_, _, _, rfl, (and_range _).1, (and_range _).2, h0, h1⟩
theorem l1Below_ok (l : List Int) (hl : l.length ≤ 140737488351232) (i h : Int) (h0 : 0 ≤ i) (h1 : i ≤ l.length) (n : Int) : ∃ r i' h' : Int, spec_l1Below.f l i h n = some (r, i', h') ∧ 0 ≤ r ∧ (0 < n → r < n) ∧ (n ≤ 0 → r = 0) ∧ 0 ≤ i' ∧ i' ≤ l.length := by
  unfold spec_l1Below.f
  by_cases hn : n ≤ 0
  · rw [if_pos hn]; exact ⟨0, i, h, rfl, by omega, by omega, fun _ => rfl, h0, h1⟩
  · rw [if_neg hn]
    obtain ⟨x, i1, g1, e1, x0, x1, p0, p1⟩ := l1Byte_ok l hl i h h0 h1
    rw [e1]
    simp only [Option.bind_some]
    by_cases hs : n ≤ 256
    · rw [if_pos hs, if_neg (by omega), Int.tmod_eq_emod_of_nonneg x0]
      exact ⟨_, _, _, rfl, Int.emod_nonneg _ (by omega), fun h => Int.emod_lt_of_pos _ h, by omega, p0, p1⟩
    · rw [if_neg hs]
      obtain ⟨y, i2, g2, e2, y0, y1, q0, q1⟩ := l1Byte_ok l hl i1 g1 p0 p1
      rw [e2]
      simp only [Option.bind_some]
      obtain ⟨z, i3, g3, e3, z0, z1, s0, s1⟩ := l1Byte_ok l hl i2 g2 q0 q1
      rw [e3]
      simp only [Option.bind_some]
      obtain ⟨u, i4, g4, e4, u0, u1, t0, t1⟩ := l1Byte_ok l hl i3 g3 s0 s1
      rw [e4]
      simp only [Option.bind_some]
      have e : wrap64 (wrap64 (wrap64 (wrap64 (x * 16777216) + wrap64 (y * 65536)) + wrap64 (z * 256)) + u) = x * 16777216 + y * 65536 + z * 256 + u := by
        rw [wrap_small (n := x * 16777216) (by omega) (by omega), wrap_small (n := y * 65536) (by omega) (by omega), wrap_small (n := z * 256) (by omega) (by omega), wrap_small (n := x * 16777216 + y * 65536) (by omega) (by omega), wrap_small (n := x * 16777216 + y * 65536 + z * 256) (by omega) (by omega), wrap_small (by omega) (by omega)]
      rw [e, if_neg (by omega), Int.tmod_eq_emod_of_nonneg (by omega)]
      exact ⟨_, _, _, rfl, Int.emod_nonneg _ (by omega), fun h => Int.emod_lt_of_pos _ h, by omega, t0, t1⟩
theorem l1Once_ok (l : List Int) (hl : l.length ≤ 140737488351232) (i h : Int) (h0 : 0 ≤ i) (h1 : i ≤ l.length) (n : Int) : ∃ (r : Bool) (i' h' : Int), spec_l1Once.f l i h n = some (r, i', h') ∧ 0 ≤ i' ∧ i' ≤ l.length := by
  obtain ⟨r, i', h', e, _, _, _, p0, p1⟩ := l1Below_ok l hl i h h0 h1 n
  unfold spec_l1Once.f
  rw [e]
  exact ⟨_, _, _, rfl, p0, p1⟩

theorem l1PickInt_ok (l : List Int) (hl : l.length ≤ 140737488351232) (i h : Int) (h0 : 0 ≤ i) (h1 : i ≤ l.length) (q : List Int) (hq : 0 < q.length) : ∃ (r i' h' : Int), spec_l1PickInt.f l i h q = some (r, i', h') ∧ r ∈ q ∧ 0 ≤ i' ∧ i' ≤ l.length := by
  obtain ⟨r, i', h', e, r0, r1, _, p0, p1⟩ := l1Below_ok l hl i h h0 h1 (q.length : Int)
  unfold spec_l1PickInt.f
  rw [e]
  simp only [Option.bind_some]
  have r2 := r1 (by omega)
  rw [if_pos r0, if_pos r2]
  obtain ⟨j, rfl⟩ := Int.eq_ofNat_of_zero_le r0
  exact ⟨_, _, _, rfl, by rw [rd_nat q j (by omega)]; exact List.getElem_mem _, p0, p1⟩

theorem bankD_l0 (l : List Int) (hl : l.length ≤ 140737488351232) : ∀ (d j : Nat) (x : List Int) (i h : Int), 256 - j = d → j ≤ 256 → x.length = 256 → 0 ≤ i → i ≤ l.length → ∀ k, d < k → ∃ r i' h', spec_l2DrawBank.l0 k x (j : Int) l i h = some (r, i', h') ∧ r.length = 256 ∧ 0 ≤ i' ∧ i' ≤ l.length := by
  intro d
  induction d with
  | zero =>
    intro j x i h hd hj hx h0 h1 k hk
    obtain ⟨k, rfl⟩ : ∃ q, k = q + 1 := ⟨k - 1, by omega⟩
    simp only [spec_l2DrawBank.l0]
    rw [if_neg (by omega)]
    exact ⟨_, _, _, rfl, hx, h0, h1⟩
  | succ d ih =>
    intro j x i h hd hj hx h0 h1 k hk
    obtain ⟨k, rfl⟩ : ∃ q, k = q + 1 := ⟨k - 1, by omega⟩
    simp only [spec_l2DrawBank.l0]
    rw [if_pos (by omega), wrap_nat (by omega)]
    obtain ⟨t, i1, g1, e1, _, _, _, p0, p1⟩ := l1Below_ok l hl i h h0 h1 4
    rw [e1, Option.bind_some]
    simp only
    split
    · obtain ⟨u, i2, g2, e2, _, _, _, q0, q1⟩ := l1Below_ok l hl i1 g1 p0 p1 30
      rw [e2, Option.bind_some, if_pos (by omega), if_pos (by omega)]
      exact ih (j + 1) _ _ _ (by omega) (by omega) (by simpa using hx) q0 q1 k (by omega)
    · split
      · obtain ⟨u, i2, g2, e2, _, q0, q1⟩ := l1PickInt_ok l hl i1 g1 p0 p1 [32, 64, 0, 1, 22, 192, 128, 2, 4, 5] (by decide)
        rw [e2, Option.bind_some, if_pos (by omega), if_pos (by omega)]
        exact ih (j + 1) _ _ _ (by omega) (by omega) (by simpa using hx) q0 q1 k (by omega)
      · split
        · obtain ⟨u, i2, g2, e2, _, _, _, q0, q1⟩ := l1Below_ok l hl i1 g1 p0 p1 256
          rw [e2, Option.bind_some, if_pos (by omega), if_pos (by omega)]
          exact ih (j + 1) _ _ _ (by omega) (by omega) (by simpa using hx) q0 q1 k (by omega)
        · exact ih (j + 1) _ _ _ (by omega) (by omega) hx p0 p1 k (by omega)
theorem bankD_ok (l : List Int) (hl : l.length ≤ 140737488351232) (i h : Int) (h0 : 0 ≤ i) (h1 : i ≤ l.length) (k : Nat) (hk : 1000 < k) : ∃ r i' h', spec_l2DrawBank.f k l i h = some (r, i', h') ∧ r.length = 256 ∧ 0 ≤ i' ∧ i' ≤ l.length := by
  unfold spec_l2DrawBank.f
  rw [if_pos (by decide)]
  exact bankD_l0 l hl 256 0 _ i h (by omega) (by omega) List.length_replicate h0 h1 k (by omega)
theorem pickRange {r : Int} {q : List Int} (h : r ∈ q) (lo hi : Int) (hq : ∀ x ∈ q, lo ≤ x ∧ x ≤ hi) : lo ≤ r ∧ r ≤ hi := hq r h
theorem drawLineOf_ok (l : List Int) (hl : l.length ≤ 140737488351232) (k : Nat) (hk : l.length + 10000 < k) : ∃ (b : List Int) (p : Int), spec_DrawLineOf.f k l = some (b, p) ∧ b.length ≤ 256 ∧ -1 ≤ p ∧ p ≤ 256 := by
  unfold spec_DrawLineOf.f
  obtain ⟨h, e⟩ := l1New_ok l hl k (by omega)
  obtain ⟨x, i1, g1, e1, hx, p0, p1⟩ := bankD_ok l hl 0 h (by omega) (by omega) k (by omega)
  rw [e, Option.bind_some, e1, Option.bind_some]
  simp only
  obtain ⟨b, i2, g2, e2, q0, q1⟩ := l1Once_ok l hl i1 g1 p0 p1 9
  rw [e2, Option.bind_some]
  simp only
  obtain ⟨n, i3, g3, e3, hn, r0, r1⟩ := l1PickInt_ok l hl i2 g2 q0 q1 [256, 3, 9, 0] (by decide)
  have hn2 := pickRange hn 0 256 (by decide)
  obtain ⟨a, i4, g4, e4, ha, _, _⟩ := l1PickInt_ok l hl i3 g3 r0 r1 [0, 1, 2, 5, 100, 254, 255, 256, (-1)] (by decide)
  have ha2 := pickRange ha (-1) 256 (by decide)
  cases b with
  | true =>
    rw [if_pos rfl, if_pos (by omega), e3, Option.bind_some]
    simp only
    rw [if_pos hn2.1, if_pos (by omega), e4, Option.bind_some]
    exact ⟨_, _, rfl, by rw [List.length_take, List.length_set]; omega, ha2.1, ha2.2⟩
  | false =>
    rw [if_neg (by decide), e3, Option.bind_some]
    simp only
    rw [if_pos hn2.1, if_pos (by omega), e4, Option.bind_some]
    exact ⟨_, _, rfl, by rw [List.length_take]; omega, ha2.1, ha2.2⟩
theorem drawListing_ok (l : List Int) (hl : l.length ≤ 140737488351232) (k : Nat) (hk : l.length + 10000 < k) : ∃ (b : List Int) (p n : Int), spec_DrawListing.f k l = some (b, p, n) ∧ b.length ≤ 256 ∧ -1 ≤ p ∧ p ≤ 256 ∧ -1 ≤ n ∧ n ≤ 300 := by
  unfold spec_DrawListing.f
  obtain ⟨b, p, e, hb, p0, p1⟩ := drawLineOf_ok l hl k hk
  obtain ⟨h, e1⟩ := l1New_ok l hl k (by omega)
  rw [e, Option.bind_some, e1, Option.bind_some]
  simp only
  obtain ⟨n, i3, g3, e3, hn, _, _⟩ := l1PickInt_ok l hl 0 h (by omega) (by omega) [3, 9, 0, (-1), 300] (by decide)
  have hn2 := pickRange hn (-1) 300 (by decide)
  rw [e3, Option.bind_some]
  exact ⟨_, _, _, rfl, hb, p0, p1, hn2.1, hn2.2⟩
end LFnListed
open LFnListed

section
open Go.Lib
def nm (a : Int) : List UInt8 := (nameV a).data.toList
theorem names_at (a : Int) (h0 : 0 ≤ a) (h1 : a ≤ 29) : nameV a = rdOf ByteArray.empty names a := by
  have hc : ∀ n : Fin 30, (nameV (n.val : Int)).data.toList = (rdOf ByteArray.empty names (n.val : Int)).data.toList := by decide
  have := hc ⟨a.toNat, by omega⟩
  rw [show ((a.toNat : Nat) : Int) = a by omega] at this
  exact ba_ext this
theorem nm_facts (a : Int) (h0 : 0 ≤ a) (h1 : a ≤ 29) : (nm a).length = 3 ∧ ∀ c ∈ nm a, c ≠ 32 ∧ c ≠ 10 := by
  have hc : ∀ n : Fin 30, (nm (n.val : Int)).length = 3 ∧ ∀ c ∈ nm (n.val : Int), c ≠ 32 ∧ c ≠ 10 := by decide
  have := hc ⟨a.toNat, by omega⟩
  rw [show ((a.toNat : Nat) : Int) = a by omega] at this
  exact this
theorem opV_name (a : Int) (h0 : 0 ≤ a) (h1 : a ≤ 29) : opV (nameV a) = a := by
  have hd : ∀ n m : Fin 30, m.val < n.val → (rdOf ByteArray.empty names (m.val : Int)).data.toList ≠ (rdOf ByteArray.empty names (n.val : Int)).data.toList := by decide
  refine (opV_is (nameV a)).same (.inr ⟨a.toNat, by omega, by omega, ?_, ?_⟩)
  · rw [names_at a h0 h1, show ((a.toNat : Nat) : Int) = a by omega]
  · intro m hm
    have := hd ⟨a.toNat, by omega⟩ ⟨m, by omega⟩ hm
    rw [names_at a h0 h1, ba_list, ba_list]
    simp only at this
    rw [show ((a.toNat : Nat) : Int) = a by omega] at this
    exact this
theorem cutL_word : ∀ (w r : List UInt8), (∀ c ∈ w, c ≠ 32) → cutL (w ++ 32 :: r) = (w, r, true)
  | [], r, _ => by simp [cutL]
  | c :: w, r, h => by
    have := cutL_word w r (fun x hx => h x (by simp [hx]))
    simp only [List.cons_append, cutL]
    rw [if_neg (h c (by simp)), this]
theorem cutL_whole : ∀ (w : List UInt8), (∀ c ∈ w, c ≠ 32) → cutL w = (w, [], false)
  | [], _ => rfl
  | c :: w, h => by
    have := cutL_whole w (fun x hx => h x (by simp [hx]))
    simp only [cutL]
    rw [if_neg (h c (by simp)), this]
theorem itoa_pos (v : Int) (h0 : 0 ≤ v) (h1 : v < 100000) : num5 (itoa v) = v ∧ 1 ≤ (itoa v).length ∧ (∀ c ∈ itoa v, c ≠ 32 ∧ c ≠ 10) := by
  obtain ⟨u, rfl⟩ : ∃ u : Nat, v = u := ⟨v.toNat, by omega⟩
  rw [itoa_nat]
  refine ⟨num5_dec u (by omega), (dec_len u (by omega)).2, fun c hc => ?_⟩
  have := dec_digits u c hc
  constructor
  · rintro rfl; simp at this
  · rintro rfl; simp at this
/-- The bytes that a line stands for. -/
def lineB (l : List Int) (i : Int) : List Int := ([atV l i, atV l (i + 1), atV l (i + 2)] : List Int).take (lineV l i).2.toNat
theorem line_step (l : List Int) (i : Int) (h : (lineV l i).2 ≠ 0) : stepV (lineV l i).1.data.toList = some (none, lineB l i) ∧ (lineV l i).1.data.toList ≠ [] ∧ (∀ c ∈ (lineV l i).1.data.toList, c ≠ 10) ∧ 2 * (lineV l i).2 ≤ (lineV l i).1.data.toList.length + 1 ∧ 1 ≤ (lineV l i).2 ∧ (lineV l i).2 ≤ 3 := by
  have a0 := atV_range l i
  have a1 := atV_range l (i + 1)
  have a2 := atV_range l (i + 2)
  unfold lineB
  unfold lineV at *
  by_cases hi : 0 ≤ i ∧ i ≤ (l.length : Int) - 1
  · rw [if_pos hi] at h ⊢
    generalize hop : atV l i = op at *
    by_cases ho : 0 ≤ op ∧ op ≤ 29
    · obtain ⟨n3, nc⟩ := nm_facts op ho.1 ho.2
      have hov := opV_name op ho.1 ho.2
      have hmk : (⟨(nm op).toArray⟩ : ByteArray) = nameV op := ba_mk _
      have hna : ¬ nm op = atW := fun q => by rw [q] at n3; cases n3
      have hnb : ¬ nm op = byteW := fun q => by rw [q] at n3; cases n3
      rw [if_pos ho] at h ⊢
      by_cases l1 : opLenV op = 1
      · rw [if_pos l1] at h ⊢
        have hcut := cutL_whole (nm op) (fun c hc => (nc c hc).1)
        refine ⟨?_, ?_, fun c hc => (nc c hc).2, ?_, by first | decide | (simp only; omega), by first | decide | (simp only; omega)⟩
        · show stepV (nm op) = _
          unfold stepV
          rw [hcut]
          simp only [lineNum, hmk, hov]
          rw [if_neg (by rintro ⟨q, -⟩; cases q), if_neg hna, if_neg hnb, if_neg (by omega), if_pos l1, if_pos (by decide)]
          rfl
        · show nm op ≠ []
          intro q; rw [q] at n3; cases n3
        · show 2 * 1 ≤ ((nm op).length : Int) + 1
          omega
      · rw [if_neg l1] at h ⊢
        by_cases l2 : opLenV op = 2
        · rw [if_pos l2] at h ⊢
          obtain ⟨d1, d2, d3⟩ := itoa_pos (atV l (i + 1)) a1.1 (by omega)
          have hdt : ((nameV op ++ (⟨#[32]⟩ : ByteArray)) ++ numV (atV l (i + 1))).data.toList = nm op ++ 32 :: itoa (atV l (i + 1)) := by
            rw [ByteArray.data_append, ByteArray.data_append]
            simp [nm, numV]
          have hcut := cutL_word (nm op) (itoa (atV l (i + 1))) (fun c hc => (nc c hc).1)
          simp only [hdt]
          refine ⟨?_, by simp, ?_, ?_, by first | decide | (simp only; omega), by first | decide | (simp only; omega)⟩
          · unfold stepV
            rw [hcut]
            simp only [lineNum, hmk, hov, if_true, d1]
            rw [if_neg (by rintro ⟨-, q⟩; omega), if_neg hna, if_neg hnb, if_neg (by omega), if_neg l1, if_pos l2, if_pos ⟨a1.1, a1.2⟩]
            rfl
          · intro c hc
            rcases List.mem_append.1 hc with hc | hc
            · exact (nc c hc).2
            · rcases List.mem_cons.1 hc with rfl | hc
              · decide
              · exact (d3 c hc).2
          · rw [List.length_append, List.length_cons]; omega
        · rw [if_neg l2] at h ⊢
          have eb1 : atV l (i + 1) % 256 = atV l (i + 1) := by omega
          have eb2 : atV l (i + 2) % 256 = atV l (i + 2) := by omega
          rw [eb1, eb2] at h ⊢
          generalize hb1 : atV l (i + 1) = b1 at *
          generalize hb2 : atV l (i + 2) = b2 at *
          obtain ⟨d1, d2, d3⟩ := itoa_pos (b1 + 256 * b2) (by omega) (by omega)
          have hdt : ((nameV op ++ (⟨#[32]⟩ : ByteArray)) ++ numV (b1 + 256 * b2)).data.toList = nm op ++ 32 :: itoa (b1 + 256 * b2) := by
            rw [ByteArray.data_append, ByteArray.data_append]
            simp [nm, numV]
          have hcut := cutL_word (nm op) (itoa (b1 + 256 * b2)) (fun c hc => (nc c hc).1)
          simp only [hdt]
          refine ⟨?_, by simp, ?_, ?_, by first | decide | (simp only; omega), by first | decide | (simp only; omega)⟩
          · unfold stepV
            rw [hcut]
            simp only [lineNum, hmk, hov, if_true, d1]
            rw [if_neg (by rintro ⟨-, q⟩; omega), if_neg hna, if_neg hnb, if_neg (by omega), if_neg l1, if_neg l2, if_pos ⟨by omega, by omega⟩]
            have e1 : (b1 + 256 * b2) % 256 = b1 := by omega
            have e2 : (b1 + 256 * b2) / 256 = b2 := by omega
            rw [e1, e2]
            rfl
          · intro c hc
            rcases List.mem_append.1 hc with hc | hc
            · exact (nc c hc).2
            · rcases List.mem_cons.1 hc with rfl | hc
              · decide
              · exact (d3 c hc).2
          · rw [List.length_append, List.length_cons]; omega
    · rw [if_neg ho] at h ⊢
      obtain ⟨d1, d2, d3⟩ := itoa_pos op a0.1 (by omega)
      have hdt : ((⟨#[98, 121, 116, 101, 32]⟩ : ByteArray) ++ numV op).data.toList = byteW ++ 32 :: itoa op := by
        rw [ByteArray.data_append]
        simp [byteW, numV]
      have hcut := cutL_word byteW (itoa op) (by decide)
      simp only [hdt]
      refine ⟨?_, by simp, ?_, ?_, by first | decide | (simp only; omega), by first | decide | (simp only; omega)⟩
      · unfold stepV
        rw [hcut]
        simp only [lineNum, if_true, d1]
        rw [if_neg (by rintro ⟨-, q⟩; omega), if_neg (by decide), if_pos ⟨a0.1, a0.2⟩]
        rfl
      · intro c hc
        rcases List.mem_append.1 hc with hc | hc
        · have hbw : ∀ c ∈ byteW, c ≠ 10 := by decide
          exact hbw c hc
        · rcases List.mem_cons.1 hc with rfl | hc
          · decide
          · exact (d3 c hc).2
      · rw [List.length_append, List.length_cons]
        have : byteW.length = 4 := rfl
        omega
  · rw [if_neg hi] at h
    exact absurd rfl h
theorem line_nil (l : List Int) (i : Int) (h : (lineV l i).2 = 0) : (lineV l i).1 = ⟨#[]⟩ := by
  unfold lineV at *
  repeat' split at h
  all_goals first
    | (simp at h; done)
    | (repeat' split
       all_goals first | rfl | (exfalso; simp_all; done))
/-- A listing's lines. -/
def rowsV : Nat → List Int → Int → List (List UInt8)
  | 0, _, _ => []
  | d + 1, l, i => if (lineV l i).2 = 0 then [] else (lineV l i).1.data.toList :: rowsV d l (i + (lineV l i).2)
def joinV : List (List UInt8) → List UInt8
  | [] => []
  | x :: r => x ++ 10 :: joinV r
theorem listV_eq : ∀ (d : Nat) (l : List Int) (i : Int) (s : ByteArray), (listV d l i s).data.toList = s.data.toList ++ joinV (rowsV d l i)
  | 0, l, i, s => by simp [listV, rowsV, joinV]
  | d + 1, l, i, s => by
    simp only [listV, rowsV]
    by_cases h : (lineV l i).2 = 0
    · rw [if_pos h, if_pos h]; simp [joinV]
    · rw [if_neg h, if_neg h, listV_eq d, ByteArray.data_append, ByteArray.data_append]
      simp [joinV]
theorem linesL_join : ∀ (L : List (List UInt8)), (∀ x ∈ L, ∀ c ∈ x, c ≠ 10) → linesL (joinV L) = L
  | [], _ => rfl
  | x :: r, h => by
    simp only [joinV]
    rw [linesL_app x _ (h x (by simp)), linesL_join r (fun y hy => h y (by simp [hy]))]
theorem rows_plain : ∀ (d : Nat) (l : List Int) (i : Int), ∀ x ∈ rowsV d l i, ∀ c ∈ x, c ≠ 10
  | 0, l, i, x, hx => by simp [rowsV] at hx
  | d + 1, l, i, x, hx => by
    simp only [rowsV] at hx
    by_cases h : (lineV l i).2 = 0
    · rw [if_pos h] at hx; simp at hx
    · rw [if_neg h] at hx
      rcases List.mem_cons.1 hx with rfl | hx
      · exact (line_step l i h).2.2.1
      · exact rows_plain d l _ x hx
theorem lineB_len (l : List Int) (i : Int) (h : (lineV l i).2 ≠ 0) : ((lineB l i).length : Int) = (lineV l i).2 := by
  obtain ⟨-, -, -, -, h1, h3⟩ := line_step l i h
  unfold lineB
  rw [List.length_take]
  simp only [List.length_cons, List.length_nil]
  omega
theorem writeV_keep : ∀ (L : List Int) (out : List Int) (p : Int) (j : Nat), 0 ≤ p → p + L.length ≤ 256 → (j : Int) < p → (writeV out p L).1[j]? = out[j]?
  | [], out, p, j, _, _, _ => rfl
  | x :: r, out, p, j, h0, h1, hj => by
    simp only [List.length_cons] at h1
    simp only [writeV]
    rw [writeV_keep r _ (p + 1) j (by omega) (by omega) (by omega), List.getElem?_set_ne]
    omega
theorem writeV_put : ∀ (L : List Int) (out : List Int) (p : Int) (j : Nat), 0 ≤ p → p + L.length ≤ 256 → out.length = 256 → j < L.length → (writeV out p L).1[p.toNat + j]? = L[j]?
  | [], out, p, j, _, _, _, hj => by simp at hj
  | x :: r, out, p, j, h0, h1, hl, hj => by
    simp only [List.length_cons] at h1 hj
    simp only [writeV]
    cases j with
    | zero =>
      rw [Nat.add_zero, writeV_keep r _ (p + 1) p.toNat (by omega) (by omega) (by omega), show (p % 256).toNat = p.toNat by omega, List.getElem?_set_self (by omega)]
      rfl
    | succ j =>
      have := writeV_put r (out.set (p % 256).toNat x) (p + 1) j (by omega) (by omega) (by simpa using hl) (by omega)
      rw [show (p + 1).toNat + j = p.toNat + (j + 1) by omega] at this
      rw [this]
      simp
theorem runL_rows : ∀ (d : Nat) (l : List Int) (i : Int) (m : List Int) (p n : Int), m.length = 256 → (runL (rowsV d l i) m p n).2 = 0 ∧ (runL (rowsV d l i) m p n).1.length = 256 ∧
    (0 ≤ p → 2 * p + (joinV (rowsV d l i)).length ≤ 512 → ∀ j : Nat, (j : Int) < p → (runL (rowsV d l i) m p n).1[j]? = m[j]?)
  | 0, l, i, m, p, n, hm => ⟨rfl, hm, fun _ _ _ _ => rfl⟩
  | d + 1, l, i, m, p, n, hm => by
    simp only [rowsV]
    by_cases h : (lineV l i).2 = 0
    · rw [if_pos h]
      exact ⟨rfl, hm, fun _ _ _ _ => rfl⟩
    · obtain ⟨h1, h2, -, h4, h5, h6⟩ := line_step l i h
      have hb := lineB_len l i h
      have hw := writeV_len (lineB l i) m p
      rw [if_neg h]
      simp only [runL, joinV]
      rw [if_neg h2, h1]
      simp only [Option.getD_none]
      obtain ⟨r1, r2, r3⟩ := runL_rows d l (i + (lineV l i).2) (writeV m p (lineB l i)).1 (writeV m p (lineB l i)).2 (n + 1) (by rw [hw.1]; exact hm)
      refine ⟨r1, r2, fun h0 hs j hj => ?_⟩
      rw [List.length_append, List.length_cons] at hs
      rw [r3 (by rw [hw.2]; omega) (by rw [hw.2]; omega) j (by rw [hw.2]; omega)]
      exact writeV_keep _ _ _ _ h0 (by omega) hj
theorem runL_first (d : Nat) (l : List Int) (i : Int) (h : (lineV l i).2 ≠ 0) (hs : (joinV (rowsV (d + 1) l i)).length < 500) (j : Nat) (hj : (j : Int) < (lineV l i).2) :
    (runL (rowsV (d + 1) l i) (List.replicate 256 0) 0 0).1[j]? = (lineB l i)[j]? := by
  obtain ⟨h1, h2, -, h4, h5, h6⟩ := line_step l i h
  have hb := lineB_len l i h
  have hw := writeV_len (lineB l i) (List.replicate 256 0) 0
  simp only [rowsV] at hs ⊢
  rw [if_neg h] at hs ⊢
  simp only [runL, joinV] at hs ⊢
  rw [if_neg h2, h1]
  simp only [Option.getD_none]
  rw [List.length_append, List.length_cons] at hs
  obtain ⟨-, -, r3⟩ := runL_rows d l (i + (lineV l i).2) (writeV (List.replicate 256 0) 0 (lineB l i)).1 (writeV (List.replicate 256 0) 0 (lineB l i)).2 (0 + 1) (by rw [hw.1]; exact List.length_replicate)
  rw [r3 (by rw [hw.2]; omega) (by rw [hw.2]; omega) j (by rw [hw.2]; omega)]
  have := writeV_put (lineB l i) (List.replicate 256 0) 0 j (by omega) (by omega) List.length_replicate (by omega)
  rw [show (0 : Int).toNat + j = j by simp] at this
  exact this
theorem listed_l0 (b : List Int) (hb : b.length ≤ 256) (p m : Int) (txt : ByteArray) (n : Int) (out : List Int) (hout : out.length = 256) (h0 : 0 ≤ p) (hp : p + 3 ≤ b.length) (hn : n ≤ 3)
    (hok : 0 < m → txt.size < 500 → ∀ j : Nat, (j : Int) < n → out[j]? = some (rd b (p + j) % 256)) :
    ∀ (d j : Nat), n.toNat - j = d → ∀ k, 2 * d + 2 < k → laws_FnListed.l0 k b p m txt n out (j : Int) = some true := by
  intro d
  induction d with
  | zero =>
    intro j hd k hk
    obtain ⟨k, rfl⟩ : ∃ q, k = q + 2 := ⟨k - 2, by omega⟩
    simp only [laws_FnListed.l0]
    rw [if_neg (by omega)]
    simp only [laws_FnListed.j4]
    rfl
  | succ d ih =>
    intro j hd k hk
    obtain ⟨k, rfl⟩ : ∃ q, k = q + 2 := ⟨k - 2, by omega⟩
    simp only [laws_FnListed.l0]
    rw [if_pos (by omega)]
    simp only [laws_FnListed.j4]
    by_cases hm : m > 0
    · rw [decide_eq_true hm, if_pos rfl, LFnListed.wrap_small (n := p + (j : Int)) (by omega) (by omega), if_pos (by omega), if_pos (by omega), if_pos (by omega), if_pos (by omega), wrap_nat (by omega)]
      unfold impl_Byte.f
      rw [Option.bind_some, and255]
      have go_on := ih (j + 1) (by omega) k (by omega)
      by_cases he : rd out (j : Int) = rd b (p + (j : Int)) % 256
      · rw [if_pos he]; exact go_on
      · rw [if_neg he]
        by_cases hs : (txt.size : Int) < 500
        · exfalso
          have := hok hm (by omega) j (by omega)
          rw [List.getElem?_eq_getElem (by omega)] at this
          rw [rd_nat out j (by omega)] at he
          exact he (Option.some.inj this)
        · rw [if_neg hs]; exact go_on
    · rw [decide_eq_false hm]
      rfl
end
theorem FnListed (l0 : List Int) (w0 : l0.length ≤ 9223372036854775807) (z0 : ∀ x ∈ l0, (Lit.int .u8 x).wf = true) : ∃ k, (laws_FnListed.f k l0) = some true := by
  obtain ⟨K, hK⟩ : ∃ K : Nat, 400000000 + l0.length ≤ K := ⟨_, Nat.le_refl _⟩
  refine ⟨K, ?_⟩
  unfold laws_FnListed.f laws_big.f
  rw [Option.bind_some]
  by_cases hl : (l0.length : Int) > 1048576
  · rw [if_pos (decide_eq_true hl)]
  · obtain ⟨K, rfl⟩ : ∃ q, K = q + 3 := ⟨K - 3, by omega⟩
    obtain ⟨b, p, m, es, hb, p0, p1, m0, m1⟩ := drawListing_ok l0 (by omega) (K + 3) (by omega)
    rw [if_neg (by rw [decide_eq_false hl]; decide), es, Option.bind_some]
    simp only
    rw [implListing b (by omega) p m _ (by omega), Option.bind_some, specListing b (by omega) p m _ (by omega), Option.bind_some, if_pos rfl, implLineOf b (by omega) p _ (by omega), Option.bind_some, specLineOf b (by omega) p _ (by omega), Option.bind_some, if_pos rfl]
    have hempty : ((lineV b p).1.toList == ([] : List UInt8)) = ((lineV b p).2 == 0) := by
      by_cases h : (lineV b p).2 = 0
      · rw [line_nil b p h, h, ba_list]; rfl
      · have := (line_step b p h).2.1
        rw [ba_list, beq_eq_false_iff_ne.2 this, beq_eq_false_iff_ne.2 h]
    simp only [laws_FnListed.j0]
    rw [hempty, if_neg (by simp)]
    have done_ : laws_FnListed.j1 (K + 2) b p m (listingV b p m) (lineV b p).2 true = some true := by
      simp only [laws_FnListed.j1]
      rfl
    by_cases hn : (lineV b p).2 = 0
    · rw [if_pos hn]; exact done_
    · rw [if_neg hn]
      by_cases hs : ((listingV b p m).size : Int) > 3000
      · rw [if_pos hs]; exact done_
      · rw [if_neg hs, LFnListed.wrap_small (by omega) (by omega)]
        by_cases hp : p + 3 > (b.length : Int)
        · rw [decide_eq_true hp]; exact done_
        · rw [decide_eq_false hp]
          simp only [laws_FnListed.j1, Bool.false_eq_true, if_false]
          have hz := (lineV_small b p).2.2
          have hp2 := hz.2 hn
          have htxt : (listingV b p m).data.toList = joinV (rowsV (min m 256).toNat b p) := by
            unfold listingV
            rw [listV_eq]
            simp
          have hsz : (listingV b p m).size = (joinV (rowsV (min m 256).toNat b p)).length := by rw [← htxt]; rfl
          have hrun := runL_rows (min m 256).toNat b p (List.replicate 256 0) 0 0 List.length_replicate
          have hasm : asmV (listingV b p m).data.toList = runL (rowsV (min m 256).toNat b p) (List.replicate 256 0) 0 0 := by
            unfold asmV
            rw [if_neg (by rw [htxt, ← hsz]; omega), htxt, linesL_join _ (rows_plain _ b p)]
          have hfirst : 0 < m → (listingV b p m).size < 500 → ∀ j : Nat, (j : Int) < (lineV b p).2 → (runL (rowsV (min m 256).toNat b p) (List.replicate 256 0) 0 0).1[j]? = some (rd b (p + j) % 256) := by
            intro hm hlt j hj
            obtain ⟨d, hd⟩ : ∃ d, (min m 256).toNat = d + 1 := ⟨(min m 256).toNat - 1, by omega⟩
            rw [hsz, hd] at hlt
            rw [hd, runL_first d b p hn hlt j hj]
            unfold lineB
            rw [List.getElem?_take_of_lt (by omega)]
            have hat : ∀ q : Int, 0 ≤ q → q < (b.length : Int) → atV b q = rd b q % 256 := by
              intro q q0 q1
              unfold atV
              rw [if_neg (by omega)]
            have : j = 0 ∨ j = 1 ∨ j = 2 := by omega
            rcases this with rfl | rfl | rfl
            · have := hat p (by omega) (by omega)
              simpa using this
            · have := hat (p + 1) (by omega) (by omega)
              simpa using this
            · have := hat (p + 2) (by omega) (by omega)
              simpa using this
          rw [implAsm _ _ (by omega), Option.bind_some, hasm]
          generalize hR : runL (rowsV (min m 256).toNat b p) (List.replicate 256 0) 0 0 = R at *
          obtain ⟨out, how⟩ := R
          simp only at hrun hfirst ⊢
          rw [if_pos hrun.1]
          simp only [laws_FnListed.j2]
          rw [if_neg (by rw [hrun.2.1]; decide)]
          exact listed_l0 b hb p m _ _ out hrun.2.1 hp2.1 (by omega) hz.1 hfirst (lineV b p).2.toNat 0 (by omega) K (by omega)

end Go.Proofs.YtbggkcnglmiheaaDoor.Pure
