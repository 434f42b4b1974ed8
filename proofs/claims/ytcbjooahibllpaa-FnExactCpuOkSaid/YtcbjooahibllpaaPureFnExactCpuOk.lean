/- The program's CpuOk returns what the reference's returns, for every processor. No condition. -/
import Derived.Test.YtcbjooahibllpaaPFnExactCpuOkx0
import Derived.Test.YtcbjooahibllpaaPFnExactCpuOkx1
import Derived.Laws.Bits128
namespace Go.Proofs.Ytcbjooahibllpaa.Pure
open Go.RowKit Go.Proofs.Ytcbjooahibllpaa.PFnExactCpuOk Go.Proofs.YtcbjooahibllpaaW.PrintWords Go.Proofs.YtcbjooahibllpaaW.PrintLast Go.Proofs.YtcbjooahibllpaaW.PrintMore
set_option linter.unusedVariables false
set_option linter.unusedSimpArgs false
namespace LFnExactCpuOk
theorem and_low (n : Int) (j : Nat) (m : Int) (hj : j < 64) (hm : (BitVec.ofInt 64 m).toNat = 2 ^ j - 1) : Go.bits .and .i64 n m = n % (2 ^ j : Nat) := by
  have key : (BitVec.ofInt 64 n &&& BitVec.ofInt 64 m).toNat = (n % ((2 ^ 64 : Nat) : Int)).toNat % 2 ^ j := by
    rw [BitVec.toNat_and, BitVec.toNat_ofInt, hm, Nat.and_two_pow_sub_one_eq_mod]
  show IntKind.i64.wrap ((BitVec.ofInt 64 n &&& BitVec.ofInt 64 m).toNat : Nat) = n % (2 ^ j : Nat)
  have hd : ((2 ^ j : Nat) : Int) ∣ ((2 ^ 64 : Nat) : Int) := by
    exact_mod_cast Nat.pow_dvd_pow 2 (Nat.le_of_lt hj)
  have hp : (0 : Int) < ((2 ^ j : Nat) : Int) := by exact_mod_cast Nat.two_pow_pos j
  have hle : ((2 ^ j : Nat) : Int) ≤ ((2 ^ 63 : Nat) : Int) := by
    exact_mod_cast Nat.pow_le_pow_right (by decide) (by omega)
  have e : (((n % ((2 ^ 64 : Nat) : Int)).toNat % 2 ^ j : Nat) : Int) = n % ((2 ^ j : Nat) : Int) := by
    rw [Int.natCast_emod, Int.toNat_of_nonneg (Int.emod_nonneg _ (by decide)), Int.emod_emod_of_dvd _ hd]
  rw [key, e, IntKind.wrap_i64]
  have h0 := Int.emod_nonneg n (Int.ne_of_gt hp)
  have h1 := Int.emod_lt_of_pos n hp
  generalize n % ((2 ^ j : Nat) : Int) = x at *
  generalize ((2 ^ j : Nat) : Int) = y at *
  have : ((2 ^ 63 : Nat) : Int) = 9223372036854775808 := by decide
  omega
theorem and255 (n : Int) : Go.bits .and .i64 n 255 = n % 256 := and_low n 8 255 (by decide) (by decide)
theorem and65535 (n : Int) : Go.bits .and .i64 n 65535 = n % 65536 := and_low n 16 65535 (by decide) (by decide)
theorem wrap_small {n : Int} (h0 : -9223372036854775808 ≤ n) (h1 : n ≤ 9223372036854775807) : wrap64 n = n := by
  unfold wrap64; omega
theorem wrap_nat {i : Nat} (h : i ≤ 4611686018427387904) : wrap64 ((i : Int) + 1) = ((i + 1 : Nat) : Int) := by
  unfold wrap64; omega
theorem rd_nat (l : List Int) (i : Nat) (h : i < l.length) : rd l (i : Int) = l[i] := by
  unfold rd; simp [List.getD, h]
end LFnExactCpuOk
open LFnExactCpuOk

theorem FnExactCpuOk (a0_0 : Int) (a0_1 : Int) (a0_2 : Int) (a0_3 : Int) (a0_4 : Bool) (a0_5 : Bool) (a0_6 : Bool) (a0_7 : Bool) (w0_0 : (Lit.int .i64 a0_0).wf = true) (w0_1 : (Lit.int .i64 a0_1).wf = true) (w0_2 : (Lit.int .i64 a0_2).wf = true) (w0_3 : (Lit.int .i64 a0_3).wf = true) : (laws_FnExactCpuOk.f a0_0 a0_1 a0_2 a0_3 a0_4 a0_5 a0_6 a0_7) = some true := by
  have e : ∀ x lo hi, spec_l1In.f x lo hi = impl_within.f x lo hi := fun _ _ _ => rfl
  have h : ∀ x lo hi, impl_within.f x lo hi = some (decide (lo ≤ x ∧ x ≤ hi)) := by
    intro x lo hi
    unfold impl_within.f
    split <;> simp <;> omega
  simp only [laws_FnExactCpuOk.f, laws_toCpu.f, spec_CpuOk.f, impl_CpuOk.f, spec_l5Byte.f, impl_isByte.f, e, h, Option.bind_some]
  cases decide (0 ≤ a0_0 ∧ a0_0 ≤ 255) <;> cases decide (0 ≤ a0_1 ∧ a0_1 ≤ 255) <;> cases decide (0 ≤ a0_2 ∧ a0_2 ≤ 255) <;> simp

end Go.Proofs.Ytcbjooahibllpaa.Pure
