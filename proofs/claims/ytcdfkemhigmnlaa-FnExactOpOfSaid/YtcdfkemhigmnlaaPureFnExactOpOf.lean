/- The program's OpOf returns what the reference's returns, for every text. No condition. -/
import Derived.Test.YtcdfkemhigmnlaaPFnExactOpOfx0
import Derived.Test.YtcdfkemhigmnlaaPFnExactOpOfx1
import Derived.Laws.Bits128
namespace Go.Proofs.Ytcdfkemhigmnlaa.Pure
open Go.RowKit Go.Proofs.Ytcdfkemhigmnlaa.PFnExactOpOf Go.Proofs.YtcdfkemhigmnlaaW.PrintWords Go.Proofs.YtcdfkemhigmnlaaW.PrintLast Go.Proofs.YtcdfkemhigmnlaaW.PrintMore
set_option linter.unusedVariables false
set_option linter.unusedSimpArgs false
namespace LFnExactOpOf
theorem and_low (n : Int) (j : Nat) (m : Int) (hj : j < 64) (hm : (BitVec.ofInt 64 m).toNat = 2 ^ j - 1) : Go.bits .and .i64 n m = n % (2 ^ j : Nat) := by
  have key : (BitVec.ofInt 64 n &&& BitVec.ofInt 64 m).toNat = (n % ((2 ^ 64 : Nat) : Int)).toNat % 2 ^ j := by
    rw [BitVec.toNat_and, BitVec.toNat_ofInt, hm, Nat.and_two_pow_sub_one_eq_mod]
  show IntKind.i64.wrap ((BitVec.ofInt 64 n &&& BitVec.ofInt 64 m).toNat : Nat) = n % (2 ^ j : Nat)
  have hd : ((2 ^ j : Nat) : Int) ∣ ((2 ^ 64 : Nat) : Int) := by
    exact_mod_cast Nat.pow_dvd_pow 2 (Nat.le_of_lt hj)
  have hp : (0 : Int) < ((2 ^ j : Nat) : Int) := by exact_mod_cast Nat.two_pow_pos j
  have hle : ((2 ^ j : Nat) : Int) ≤ ((2 ^ 63 : Nat) : Int) := by
    exact_mod_cast Nat.pow_le_pow_right (by decide) (by omega)
  have e : (((n % ((2 ^ 64 : Nat) : Int)).toNat % 2 ^ j : Nat) : Int) = n % ((2 ^ j : Nat) : Int) := by
    rw [Int.natCast_emod, Int.toNat_of_nonneg (Int.emod_nonneg _ (by decide)), Int.emod_emod_of_dvd _ hd]
  rw [key, e, IntKind.wrap_i64]
  have h0 := Int.emod_nonneg n (Int.ne_of_gt hp)
  have h1 := Int.emod_lt_of_pos n hp
  generalize n % ((2 ^ j : Nat) : Int) = x at *
  generalize ((2 ^ j : Nat) : Int) = y at *
  have : ((2 ^ 63 : Nat) : Int) = 9223372036854775808 := by decide
  omega
theorem and255 (n : Int) : Go.bits .and .i64 n 255 = n % 256 := and_low n 8 255 (by decide) (by decide)
theorem and65535 (n : Int) : Go.bits .and .i64 n 65535 = n % 65536 := and_low n 16 65535 (by decide) (by decide)
theorem wrap_small {n : Int} (h0 : -9223372036854775808 ≤ n) (h1 : n ≤ 9223372036854775807) : wrap64 n = n := by
  unfold wrap64; omega
theorem wrap_nat {i : Nat} (h : i ≤ 4611686018427387904) : wrap64 ((i : Int) + 1) = ((i + 1 : Nat) : Int) := by
  unfold wrap64; omega
theorem rd_nat (l : List Int) (i : Nat) (h : i < l.length) : rd l (i : Int) = l[i] := by
  unfold rd; simp [List.getD, h]

theorem opOf_l0 (L : List ByteArray) (s : ByteArray) (hL : L.length ≤ 1000) : ∀ (k i : Nat), i ≤ L.length → L.length - i < k →
    ∃ r : Int, spec_OpOf.l0 k s L (i : Int) = some r ∧ slices_Index_string_string.l0 k L s (L.length : Int) (i : Int) = some r ∧
      ((r = -1 ∧ ∀ j : Nat, i ≤ j → j < L.length → (rdOf ByteArray.empty L (j : Int)).toList ≠ s.toList) ∨
        ∃ j : Nat, r = (j : Int) ∧ i ≤ j ∧ j < L.length ∧ (rdOf ByteArray.empty L (j : Int)).toList = s.toList ∧ ∀ m : Nat, i ≤ m → m < j → (rdOf ByteArray.empty L (m : Int)).toList ≠ s.toList) := by
  intro k
  induction k with
  | zero => intro i _ h; omega
  | succ k ih =>
    intro i hi h
    simp only [spec_OpOf.l0, slices_Index_string_string.l0]
    by_cases hlt : i < L.length
    · have c1 : (i : Int) < (L.length : Int) := by omega
      have c0 : (0 : Int) ≤ (i : Int) := by omega
      simp only [c0, c1, if_true]
      by_cases he : (rdOf ByteArray.empty L (i : Int)).toList = s.toList
      · rw [if_pos he, if_pos he.symm]
        exact ⟨i, rfl, rfl, .inr ⟨i, rfl, Nat.le_refl _, hlt, he, fun m h1 h2 => by omega⟩⟩
      · rw [if_neg he, if_neg (fun e => he e.symm), wrap_nat (by omega)]
        obtain ⟨r, h1, h2, h3⟩ := ih (i + 1) (by omega) (by omega)
        refine ⟨r, h1, h2, ?_⟩
        rcases h3 with ⟨hr, h3⟩ | ⟨j, hr, hj, hjl, h3, h4⟩
        · refine .inl ⟨hr, fun j hj hjl => ?_⟩
          rcases Nat.lt_or_ge i j with hij | hij
          · exact h3 j hij hjl
          · have : j = i := by omega
            subst this
            exact he
        · refine .inr ⟨j, hr, by omega, hjl, h3, fun m hm hmj => ?_⟩
          rcases Nat.lt_or_ge i m with him | him
          · exact h4 m him hmj
          · have : m = i := by omega
            subst this
            exact he
    · rw [if_neg (by omega), if_neg (by omega)]
      exact ⟨-1, rfl, rfl, .inl ⟨rfl, fun j h1 h2 => by omega⟩⟩
def names : List ByteArray := (impl_opNames.f).getD []
theorem names_len : names.length = 30 := rfl
theorem impl_names : impl_opNames.f = some names := rfl
theorem spec_names : spec_l3Names.f = some names := rfl
theorem opOf_ok (s : ByteArray) (k : Nat) (hk : 30 < k) : ∃ r : Int, spec_OpOf.f k s = some r ∧ impl_OpOf.f k s = some r ∧
    ((r = -1 ∧ ∀ j : Nat, j < 30 → (rdOf ByteArray.empty names (j : Int)).toList ≠ s.toList) ∨
      ∃ j : Nat, r = (j : Int) ∧ j < 30 ∧ (rdOf ByteArray.empty names (j : Int)).toList = s.toList ∧ ∀ m : Nat, m < j → (rdOf ByteArray.empty names (m : Int)).toList ≠ s.toList) := by
  have hl := names_len
  obtain ⟨r, h1, h2, h3⟩ := opOf_l0 names s (by omega) k 0 (by omega) (by omega)
  refine ⟨r, ?_, ?_, ?_⟩
  · unfold spec_OpOf.f
    rw [spec_names, Option.bind_some]
    exact h1
  · unfold impl_OpOf.f slices_Index_string_string.f
    rw [impl_names, Option.bind_some, show ((0 : Int)) = ((0 : Nat) : Int) from rfl, h2, Option.bind_some]
  · rw [hl] at h3
    rcases h3 with ⟨hr, h3⟩ | ⟨j, hr, _, hj, h4, h5⟩
    · exact .inl ⟨hr, fun j hj => h3 j (Nat.zero_le _) hj⟩
    · exact .inr ⟨j, hr, hj, h4, fun m hm => h5 m (Nat.zero_le _) hm⟩
end LFnExactOpOf
open LFnExactOpOf

theorem FnExactOpOf : laws_FnExactOpOf.Pure := by
  intro s _
  refine ⟨31, ?_⟩
  obtain ⟨r, h1, h2, _⟩ := opOf_ok s 31 (by decide)
  unfold laws_FnExactOpOf.f
  rw [h1, h2]
  split <;> simp

end Go.Proofs.Ytcdfkemhigmnlaa.Pure
