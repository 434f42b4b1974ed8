/- The program's LineOf returns what the reference's returns, for every row of numbers and every place, and leaves the row as it was. No condition. -/
import Derived.Test.YtbggkcnglmiheaaDoorMFnExactLineOfx0
import Derived.Test.YtbggkcnglmiheaaDoorMFnExactLineOfx1
import Derived.Laws.Bits128
namespace Go.Proofs.YtbggkcnglmiheaaDoor.Pure
open Go.RowKit Go.Proofs.YtbggkcnglmiheaaDoor.MFnExactLineOf Go.Proofs.YtbggkcnglmiheaaDoorW.PrintWords Go.Proofs.YtbggkcnglmiheaaDoorW.PrintLast Go.Proofs.YtbggkcnglmiheaaDoorW.PrintMore
set_option linter.unusedVariables false
set_option linter.unusedSimpArgs false
namespace LFnExactLineOf
theorem and_low (n : Int) (j : Nat) (m : Int) (hj : j < 64) (hm : (BitVec.ofInt 64 m).toNat = 2 ^ j - 1) : Go.bits .and .i64 n m = n % (2 ^ j : Nat) := by
  have key : (BitVec.ofInt 64 n &&& BitVec.ofInt 64 m).toNat = (n % ((2 ^ 64 : Nat) : Int)).toNat % 2 ^ j := by
    rw [BitVec.toNat_and, BitVec.toNat_ofInt, hm, Nat.and_two_pow_sub_one_eq_mod]
  show IntKind.i64.wrap ((BitVec.ofInt 64 n &&& BitVec.ofInt 64 m).toNat : Nat) = n % (2 ^ j : Nat)
  have hd : ((2 ^ j : Nat) : Int) ∣ ((2 ^ 64 : Nat) : Int) := by
    exact_mod_cast Nat.pow_dvd_pow 2 (Nat.le_of_lt hj)
  have hp : (0 : Int) < ((2 ^ j : Nat) : Int) := by exact_mod_cast Nat.two_pow_pos j
  have hle : ((2 ^ j : Nat) : Int) ≤ ((2 ^ 63 : Nat) : Int) := by
    exact_mod_cast Nat.pow_le_pow_right (by decide) (by omega)
  have e : (((n % ((2 ^ 64 : Nat) : Int)).toNat % 2 ^ j : Nat) : Int) = n % ((2 ^ j : Nat) : Int) := by
    rw [Int.natCast_emod, Int.toNat_of_nonneg (Int.emod_nonneg _ (by decide)), Int.emod_emod_of_dvd _ hd]
  rw [key, e, IntKind.wrap_i64]
  have h0 := Int.emod_nonneg n (Int.ne_of_gt hp)
  have h1 := Int.emod_lt_of_pos n hp
  generalize n % ((2 ^ j : Nat) : Int) = x at *
  generalize ((2 ^ j : Nat) : Int) = y at *
  have : ((2 ^ 63 : Nat) : Int) = 9223372036854775808 := by decide
  omega
theorem and255 (n : Int) : Go.bits .and .i64 n 255 = n % 256 := and_low n 8 255 (by decide) (by decide)
theorem and65535 (n : Int) : Go.bits .and .i64 n 65535 = n % 65536 := and_low n 16 65535 (by decide) (by decide)
theorem wrap_small {n : Int} (h0 : -9223372036854775808 ≤ n) (h1 : n ≤ 9223372036854775807) : wrap64 n = n := by
  unfold wrap64; omega
theorem wrap_nat {i : Nat} (h : i ≤ 4611686018427387904) : wrap64 ((i : Int) + 1) = ((i + 1 : Nat) : Int) := by
  unfold wrap64; omega
theorem rd_nat (l : List Int) (i : Nat) (h : i < l.length) : rd l (i : Int) = l[i] := by
  unfold rd; simp [List.getD, h]

section
open Go.Lib
/-- a digit's byte -/
theorem dig_byte (d : Nat) (h : d < 10) : (UInt8.ofNat (48 + d)).toNat = 48 + d := by
  rw [UInt8.toNat_ofNat']; omega
theorem dec_ne (u : Nat) : decDigits u ≠ [] := by
  rw [decDigits]; split <;> simp
theorem dec_digits (u : Nat) : ∀ c ∈ decDigits u, 48 ≤ c.toNat ∧ c.toNat ≤ 57 := by
  induction u using Nat.strongRecOn with
  | _ u ih =>
    intro c hc
    rw [decDigits] at hc
    split at hc
    · rename_i hs
      have := dig_byte u hs
      rw [List.mem_singleton] at hc
      subst hc
      omega
    · have hd := dig_byte (u % 10) (by omega)
      rw [List.mem_append] at hc
      rcases hc with hc | hc
      · exact ih (u / 10) (by omega) c hc
      · rw [List.mem_singleton] at hc
        subst hc
        omega
theorem itoa_nat (u : Nat) : itoa (u : Int) = decDigits u := by
  unfold itoa
  rw [if_neg (by omega)]
  rfl
theorem dec_len (u : Nat) (h : u < 100000) : (decDigits u).length ≤ 5 ∧ 1 ≤ (decDigits u).length := by
  have key : ∀ k u : Nat, u < 10 ^ (k + 1) → (decDigits u).length ≤ k + 1 := by
    intro k
    induction k with
    | zero => intro u h; rw [decDigits, dif_pos (by omega)]; simp
    | succ k ih =>
      intro u h
      rw [decDigits]
      split
      · simp
      · have := ih (u / 10) (by rw [Nat.pow_succ] at h; omega)
        simp; omega
  exact ⟨key 4 u (by omega), List.length_pos_iff.2 (dec_ne u)⟩
end

section
open Go.Lib
/-- The reference's digits of a number from 1 on, ahead of what there is. -/
theorem specDigits_l0 : ∀ (m : Nat) (u : Nat), u = m → 0 < u → u ≤ 1000000 → ∀ (s : List UInt8), s.length + u ≤ 10000000 → ∀ k, m + 1 < k → spec_l4Digits.l0 k (u : Int) ⟨s.toArray⟩ = some ⟨(decDigits u ++ s).toArray⟩ := by
  intro m
  induction m using Nat.strongRecOn with
  | _ m ih =>
    intro u hm h0 h1 s hs k hk
    obtain ⟨k, rfl⟩ : ∃ q, k = q + 1 := ⟨k - 1, by omega⟩
    simp only [spec_l4Digits.l0, Option.bind_some]
    have hsz : (⟨s.toArray⟩ : ByteArray).size = s.length := by show s.toArray.size = _; simp
    have e10 : Int.tmod (u : Int) 10 = ((u % 10 : Nat) : Int) := by rw [Int.tmod_eq_emod_of_nonneg (by omega)]; rfl
    have ed : Int.tdiv (u : Int) 10 = ((u / 10 : Nat) : Int) := by rw [Int.tdiv_eq_ediv_of_nonneg (by omega)]; rfl
    have eb : wrap64 (48 + ((u % 10 : Nat) : Int)) % 256 = ((48 + u % 10 : Nat) : Int) := by unfold wrap64; omega
    have es : strOfNums [((48 + u % 10 : Nat) : Int)] ++ (⟨s.toArray⟩ : ByteArray) = ⟨(UInt8.ofNat (48 + u % 10) :: s).toArray⟩ := by
      apply ByteArray.ext
      rw [ByteArray.data_append]
      apply Array.toList_inj.1
      rw [Array.toList_append]
      rfl
    rw [e10, ed, eb, if_pos (by omega), es, if_pos (by rw [strOfNums_size, hsz]; simp; omega), wrap_small (by omega) (by omega)]
    by_cases hs10 : u < 10
    · have : u / 10 = 0 := by omega
      rw [this]
      obtain ⟨k, rfl⟩ : ∃ q, k = q + 1 := ⟨k - 1, by omega⟩
      simp only [spec_l4Digits.l0]
      rw [if_neg (by omega), decDigits, dif_pos hs10, show u % 10 = u by omega]
      rfl
    · rw [ih (u / 10) (by omega) (u / 10) rfl (by omega) (by omega) _ (by simp; omega) k (by omega), decDigits.eq_1 u, dif_neg hs10]
      simp
theorem specDigits_ok (u : Nat) (h : u ≤ 1000000) (k : Nat) (hk : u + 1 < k) : spec_l4Digits.f k (u : Int) = some ⟨(itoa (u : Int)).toArray⟩ := by
  unfold spec_l4Digits.f
  rw [itoa_nat]
  by_cases h0 : (u : Int) = 0
  · rw [if_pos h0]
    have : u = 0 := by omega
    subst this
    rw [decDigits, dif_pos (by decide)]
    rfl
  · rw [if_neg h0]
    have := specDigits_l0 u u rfl (by omega) h [] (by simp; omega) k hk
    simpa using this
theorem implDigits_ok (n : Int) (h0 : 0 ≤ n) (h1 : n ≤ 1000000) (k : Nat) : impl_digits.f k n = some ⟨(itoa n).toArray⟩ := by
  unfold impl_digits.f
  rw [if_pos (by omega)]
theorem specDigits_int (n : Int) (h0 : 0 ≤ n) (h1 : n ≤ 1000000) (k : Nat) (hk : 1000002 < k) : spec_l4Digits.f k n = some ⟨(itoa n).toArray⟩ := by
  obtain ⟨u, rfl⟩ : ∃ u : Nat, n = u := ⟨n.toNat, by omega⟩
  exact specDigits_ok u (by omega) k (by omega)
theorem itoa_size (n : Int) (h0 : 0 ≤ n) (h1 : n < 100000) : (⟨(itoa n).toArray⟩ : ByteArray).size ≤ 5 := by
  obtain ⟨u, rfl⟩ : ∃ u : Nat, n = u := ⟨n.toNat, by omega⟩
  rw [itoa_nat]
  have := (dec_len u (by omega)).1
  show (decDigits u).toArray.size ≤ 5
  simpa using this
end

theorem within_eq (x lo hi : Int) : impl_within.f x lo hi = some (decide (lo ≤ x ∧ x ≤ hi)) := by
  unfold impl_within.f
  split <;> simp <;> omega
theorem l1In_eq (x lo hi : Int) : spec_l1In.f x lo hi = some (decide (lo ≤ x ∧ x ≤ hi)) := by
  unfold spec_l1In.f
  split <;> simp <;> omega

def opLenV (a : Int) : Int := if a = 1 ∨ (4 ≤ a ∧ a ≤ 9) then 2 else if a = 2 ∨ a = 3 ∨ (14 ≤ a ∧ a ≤ 20) ∨ a = 29 then 3 else 1
theorem specOpLen (a : Int) : spec_OpLen.f a = some (opLenV a) := by
  by_cases h : 0 ≤ a ∧ a ≤ 29
  · have hc : ∀ n : Fin 30, spec_OpLen.f (n.val : Int) = some (opLenV (n.val : Int)) := by decide
    have := hc ⟨a.toNat, by omega⟩
    rw [show ((a.toNat : Nat) : Int) = a by omega] at this
    exact this
  · unfold spec_OpLen.f opLenV
    have e : decide (0 ≤ a ∧ a ≤ 29) = false := decide_eq_false h
    rw [l1In_eq, Option.bind_some, e, if_neg (by decide), if_neg (by omega), if_neg (by omega)]
theorem opLenV_three (a : Int) : opLenV a = 1 ∨ opLenV a = 2 ∨ opLenV a = 3 := by
  unfold opLenV; repeat' split
  all_goals omega

theorem implOpLen (a : Int) (k : Nat) (hk : 1 ≤ k) : impl_OpLen.f k a = some (opLenV a) := by
  obtain ⟨k, rfl⟩ : ∃ q, k = q + 1 := ⟨k - 1, by omega⟩
  unfold impl_OpLen.f opLenV
  by_cases h1 : a = 1
  · subst h1; simp [impl_OpLen.j0]
  · rw [if_neg h1, within_eq, Option.bind_some]
    simp only [impl_OpLen.j0]
    by_cases h2 : 4 ≤ a ∧ a ≤ 9
    · simp [h2]
    · have e : decide (4 ≤ a ∧ a ≤ 9) = false := decide_eq_false h2
      rw [e]
      simp only [Bool.false_eq_true, if_false, within_eq, Option.bind_some, h1, h2, or_self]
      by_cases h3 : a = 2
      · subst h3; simp
      · by_cases h4 : a = 3
        · subst h4; simp
        · by_cases h5 : 14 ≤ a ∧ a ≤ 20
          · simp [h3, h4, h5]
          · by_cases h6 : a = 29
            · subst h6; simp
            · have e5 : decide (14 ≤ a ∧ a ≤ 20) = false := decide_eq_false h5
              simp [h3, h4, h5, h6, e5]

theorem implJoin (a b : Int) : impl_Join.f a b = some (a % 256 + 256 * (b % 256)) := by
  unfold impl_Join.f impl_Byte.f
  simp only [Option.bind_some, and255]
  rw [wrap_small (n := 256 * (b % 256)) (by omega) (by omega), wrap_small (by omega) (by omega)]

theorem specJoin (a b : Int) : spec_Join.f a b = some (a % 256 + 256 * (b % 256)) := implJoin a b

theorem opName_both (a : Int) : ∃ s, impl_OpName.f a = some s ∧ spec_OpName.f a = some s ∧ s.size ≤ 3 := by
  have e : spec_OpName.f a = impl_OpName.f a := by
    unfold spec_OpName.f impl_OpName.f impl_isOp.f
    rw [within_eq, l1In_eq]
    rfl
  rw [e]
  suffices h : ∃ s, impl_OpName.f a = some s ∧ s.size ≤ 3 by
    obtain ⟨s, h1, h2⟩ := h
    exact ⟨s, h1, h1, h2⟩
  by_cases h : 0 ≤ a ∧ a ≤ 29
  · have hc : ∀ n : Fin 30, ((impl_OpName.f (n.val : Int)).isSome && decide (((impl_OpName.f (n.val : Int)).getD ⟨#[]⟩).size ≤ 3)) = true := by decide
    have := hc ⟨a.toNat, by omega⟩
    rw [show ((a.toNat : Nat) : Int) = a by omega] at this
    cases e : impl_OpName.f a with
    | none => rw [e] at this; simp at this
    | some s =>
      rw [e] at this
      simp at this
      exact ⟨s, rfl, this⟩
  · refine ⟨⟨#[]⟩, ?_, by decide⟩
    unfold impl_OpName.f impl_isOp.f
    rw [within_eq, decide_eq_false h]
    rfl
def atV (l : List Int) (i : Int) : Int := if i ≥ (l.length : Int) then 0 else rd l i % 256
theorem atV_range (l : List Int) (i : Int) : 0 ≤ atV l i ∧ atV l i ≤ 255 := by
  unfold atV; split <;> omega
theorem implByteAt (l : List Int) (i : Int) (h0 : 0 ≤ i) : impl_byteAt.f l i = some (atV l i) := by
  unfold impl_byteAt.f atV impl_Byte.f
  by_cases h : i ≥ (l.length : Int)
  · simp [h]
  · rw [if_neg h, if_neg h, if_pos h0, if_pos (by omega)]
    simp [and255]
theorem specL4At (l : List Int) (i : Int) (h0 : 0 ≤ i) : spec_l4At.f l i = some (atV l i) := by
  unfold spec_l4At.f atV spec_Byte.f
  by_cases h : i ≥ (l.length : Int)
  · simp [h]
  · rw [if_neg h, if_neg h, if_pos h0, if_pos (by omega)]
    simp [and255]
def nameV (a : Int) : ByteArray := (impl_OpName.f a).getD ⟨#[]⟩
theorem implName (a : Int) : impl_OpName.f a = some (nameV a) ∧ spec_OpName.f a = some (nameV a) ∧ (nameV a).size ≤ 3 := by
  obtain ⟨s, h1, h2, h3⟩ := opName_both a
  unfold nameV
  rw [h1]
  exact ⟨rfl, h2, h3⟩
def numV (n : Int) : ByteArray := ⟨(Go.Lib.itoa n).toArray⟩
/-- What a line of a listing says, and how many bytes it takes. -/
def lineV (l : List Int) (i : Int) : ByteArray × Int :=
  if 0 ≤ i ∧ i ≤ (l.length : Int) - 1 then
    if 0 ≤ atV l i ∧ atV l i ≤ 29 then
      if opLenV (atV l i) = 1 then (nameV (atV l i), 1)
      else if opLenV (atV l i) = 2 then ((nameV (atV l i) ++ ⟨#[32]⟩) ++ numV (atV l (i + 1)), 2)
      else ((nameV (atV l i) ++ ⟨#[32]⟩) ++ numV (atV l (i + 1) % 256 + 256 * (atV l (i + 2) % 256)), 3)
    else (⟨#[98, 121, 116, 101, 32]⟩ ++ numV (atV l i), 1)
  else (⟨#[]⟩, 0)
theorem implLineOf (l : List Int) (hl : l.length ≤ 140737488351232) (i : Int) (k : Nat) (hk : 1 ≤ k) : impl_LineOf.f k l i = some (lineV l i) := by
  unfold impl_LineOf.f lineV
  rw [within_eq, Option.bind_some, wrap_small (by omega) (by omega)]
  by_cases hi : 0 ≤ i ∧ i ≤ (l.length : Int) - 1
  · have a0 := atV_range l i
    have a1 := atV_range l (i + 1)
    have a2 := atV_range l (i + 2)
    rw [if_pos hi, decide_eq_true hi, if_pos rfl, implByteAt l i hi.1, Option.bind_some]
    unfold impl_isOp.f
    rw [within_eq]
    by_cases ho : 0 ≤ atV l i ∧ atV l i ≤ 29
    · obtain ⟨n1, -, n3⟩ := implName (atV l i)
      rw [if_pos ho, decide_eq_true ho]
      simp only [Option.bind_some, if_true]
      rw [implOpLen _ k hk, Option.bind_some, n1]
      by_cases h1 : opLenV (atV l i) = 1
      · rw [if_pos h1, if_pos h1]; rfl
      · rw [if_neg h1, if_neg h1]
        have hs1 : (nameV (atV l i) ++ (⟨#[32]⟩ : ByteArray)).size ≤ 4 := by rw [ByteArray.size_append]; show _ + 1 ≤ 4; omega
        by_cases h2 : opLenV (atV l i) = 2
        · have := itoa_size (atV l (i + 1)) a1.1 (by omega)
          rw [if_pos h2, if_pos h2, Option.bind_some, if_pos (by omega), wrap_small (n := i + 1) (by omega) (by omega), implByteAt l (i + 1) (by omega), Option.bind_some, implDigits_ok _ a1.1 (by omega), Option.bind_some, if_pos (by omega)]
          rfl
        · have := itoa_size (atV l (i + 1) % 256 + 256 * (atV l (i + 2) % 256)) (by omega) (by omega)
          rw [if_neg h2, if_neg h2, Option.bind_some, if_pos (by omega), wrap_small (n := i + 1) (by omega) (by omega), wrap_small (n := i + 2) (by omega) (by omega), implByteAt l (i + 1) (by omega), implByteAt l (i + 2) (by omega), Option.bind_some, Option.bind_some, implJoin, Option.bind_some, implDigits_ok _ (by omega) (by omega), Option.bind_some, if_pos (by omega)]
          rfl
    · have := itoa_size (atV l i) a0.1 (by omega)
      rw [if_neg ho, decide_eq_false ho]
      simp only [Option.bind_some, Bool.false_eq_true, if_false]
      rw [implDigits_ok _ a0.1 (by omega), Option.bind_some, if_pos (by omega)]
      rfl
  · rw [if_neg hi, decide_eq_false hi, if_neg (by decide)]
theorem specLineOf (l : List Int) (hl : l.length ≤ 140737488351232) (i : Int) (k : Nat) (hk : 1000002 < k) : spec_LineOf.f k l i = some (lineV l i) := by
  unfold spec_LineOf.f lineV
  rw [l1In_eq, Option.bind_some, wrap_small (by omega) (by omega)]
  by_cases hi : 0 ≤ i ∧ i ≤ (l.length : Int) - 1
  · have a0 := atV_range l i
    have a1 := atV_range l (i + 1)
    have a2 := atV_range l (i + 2)
    rw [if_pos hi, decide_eq_true hi, if_pos rfl, specL4At l i hi.1, Option.bind_some, specOpLen, Option.bind_some]
    by_cases ho : 0 ≤ atV l i ∧ atV l i ≤ 29
    · obtain ⟨-, n1, n3⟩ := implName (atV l i)
      rw [if_pos ho, if_neg (by omega), n1]
      by_cases h1 : opLenV (atV l i) = 1
      · rw [if_pos h1, if_pos h1]; rfl
      · rw [if_neg h1, if_neg h1]
        have hs1 : (nameV (atV l i) ++ (⟨#[32]⟩ : ByteArray)).size ≤ 4 := by rw [ByteArray.size_append]; show _ + 1 ≤ 4; omega
        by_cases h2 : opLenV (atV l i) = 2
        · have := itoa_size (atV l (i + 1)) a1.1 (by omega)
          rw [if_pos h2, if_pos h2, Option.bind_some, if_pos (by omega), wrap_small (n := i + 1) (by omega) (by omega), specL4At l (i + 1) (by omega), Option.bind_some, specDigits_int _ a1.1 (by omega) k hk, Option.bind_some, if_pos (by omega)]
          rfl
        · have := itoa_size (atV l (i + 1) % 256 + 256 * (atV l (i + 2) % 256)) (by omega) (by omega)
          rw [if_neg h2, if_neg h2, Option.bind_some, if_pos (by omega), wrap_small (n := i + 1) (by omega) (by omega), wrap_small (n := i + 2) (by omega) (by omega), specL4At l (i + 1) (by omega), specL4At l (i + 2) (by omega), Option.bind_some, Option.bind_some, specJoin, Option.bind_some, specDigits_int _ (by omega) (by omega) k hk, Option.bind_some, if_pos (by omega)]
          rfl
    · have := itoa_size (atV l i) a0.1 (by omega)
      rw [if_neg ho, if_pos (by omega), specDigits_int _ a0.1 (by omega) k hk, Option.bind_some, if_pos (by omega)]
      rfl
  · rw [if_neg hi, decide_eq_false hi, if_neg (by decide)]

theorem toIntS_l0 (l : List Int) (hl : l.length ≤ 35184372088832) : ∀ (k i : Nat), i ≤ l.length → l.length - i < k →
    laws_toIntS.l0 k l (l.take i ++ List.replicate (l.length - i) 0) (i : Int) = some l := by
  intro k
  induction k with
  | zero => intro i _ h; omega
  | succ k ih =>
    intro i hi h
    have hlen : (l.take i ++ List.replicate (l.length - i) (0 : Int)).length = l.length := by simp; omega
    simp only [laws_toIntS.l0]
    by_cases hlt : i < l.length
    · rw [if_pos (by omega), if_pos (by omega), if_pos (by omega), wrap_nat (by omega)]
      have e1 : (l.take i ++ List.replicate (l.length - i) 0).set ((i : Int)).toNat (rd l (i : Int)) = l.take (i + 1) ++ List.replicate (l.length - (i + 1)) 0 := by
        rw [Int.toNat_natCast, List.set_append, if_neg (by rw [List.length_take]; omega), List.length_take, Nat.min_eq_left (by omega), Nat.sub_self, show l.length - i = (l.length - (i + 1)) + 1 by omega, List.replicate_succ, List.set_cons_zero, rd_nat l i hlt, List.take_succ_eq_append_getElem hlt, List.append_assoc, List.singleton_append]
      rw [e1]
      exact ih (i + 1) (by omega) (by omega)
    · have : i = l.length := by omega
      subst this
      rw [if_neg (by omega)]
      simp
theorem toIntS_ok (l : List Int) (hl : l.length ≤ 35184372088832) (k : Nat) (hk : l.length < k) : laws_toIntS.f k l = some l := by
  unfold laws_toIntS.f
  rw [if_pos (by omega), Int.toNat_natCast, if_pos hl]
  have h := toIntS_l0 l hl k 0 (by omega) (by omega)
  simpa using h

theorem eqIntS_l0 (l : List Int) (hl : l.length ≤ 140737488351232) : ∀ (k i : Nat), i ≤ l.length → l.length - i < k → laws_eqIntS.l0 k l l (i : Int) = some true := by
  intro k
  induction k with
  | zero => intro i _ h; omega
  | succ k ih =>
    intro i hi h
    simp only [laws_eqIntS.l0]
    by_cases hlt : i < l.length
    · have c1 : (i : Int) < (l.length : Int) := by omega
      have c0 : (0 : Int) ≤ (i : Int) := by omega
      simp only [c0, c1, if_true]
      rw [wrap_nat (by omega)]
      exact ih (i + 1) (by omega) (by omega)
    · rw [if_neg (by omega)]
theorem eqIntS_self (l : List Int) (hl : l.length ≤ 140737488351232) (k : Nat) (hk : l.length < k) : laws_eqIntS.f k l l = some true := by
  unfold laws_eqIntS.f
  rw [if_pos rfl]
  exact eqIntS_l0 l hl k 0 (by omega) (by omega)
end LFnExactLineOf
open LFnExactLineOf

theorem FnExactLineOf (l0 : List Int) (a1 : Int) (w0 : l0.length ≤ 9223372036854775807) (w1 : (Lit.int .i64 a1).wf = true) : ∃ k, (laws_FnExactLineOf.f k l0 a1) = some true := by
  obtain ⟨K, hK⟩ : ∃ K : Nat, 400000000 ≤ K := ⟨_, Nat.le_refl _⟩
  refine ⟨K, ?_⟩
  unfold laws_FnExactLineOf.f
  by_cases hl : (l0.length : Int) > 1048576
  · rw [if_pos hl]
  · obtain ⟨K, rfl⟩ : ∃ q, K = q + 1 := ⟨K - 1, by omega⟩
    rw [if_neg hl, toIntS_ok l0 (by omega) _ (by omega), Option.bind_some, specLineOf l0 (by omega) a1 _ (by omega), Option.bind_some, Option.bind_some, implLineOf l0 (by omega) a1 _ (by omega), Option.bind_some, if_pos rfl]
    simp only [laws_FnExactLineOf.j0]
    rw [if_neg (by simp), toIntS_ok l0 (by omega) _ (by omega), Option.bind_some, eqIntS_self l0 (by omega) _ (by omega), Option.bind_some, if_pos rfl]

end Go.Proofs.YtbggkcnglmiheaaDoor.Pure
