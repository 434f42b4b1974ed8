/- The program's Access returns what the reference's returns, for every instruction and processor. No condition. -/
import Derived.Test.YtcdfkemhigmnlaaPFnExactAccessx0
import Derived.Test.YtcdfkemhigmnlaaPFnExactAccessx1
import Derived.Test.YtcdfkemhigmnlaaPFnExactAccessx2
import Derived.Test.YtcdfkemhigmnlaaPFnExactAccessx3
import Derived.Laws.Bits128
namespace Go.Proofs.Ytcdfkemhigmnlaa.Pure
open Go.RowKit Go.Proofs.Ytcdfkemhigmnlaa.PFnExactAccess Go.Proofs.YtcdfkemhigmnlaaW.PrintWords Go.Proofs.YtcdfkemhigmnlaaW.PrintLast Go.Proofs.YtcdfkemhigmnlaaW.PrintMore
set_option linter.unusedVariables false
set_option linter.unusedSimpArgs false
namespace LFnExactAccess
theorem and_low (n : Int) (j : Nat) (m : Int) (hj : j < 64) (hm : (BitVec.ofInt 64 m).toNat = 2 ^ j - 1) : Go.bits .and .i64 n m = n % (2 ^ j : Nat) := by
  have key : (BitVec.ofInt 64 n &&& BitVec.ofInt 64 m).toNat = (n % ((2 ^ 64 : Nat) : Int)).toNat % 2 ^ j := by
    rw [BitVec.toNat_and, BitVec.toNat_ofInt, hm, Nat.and_two_pow_sub_one_eq_mod]
  show IntKind.i64.wrap ((BitVec.ofInt 64 n &&& BitVec.ofInt 64 m).toNat : Nat) = n % (2 ^ j : Nat)
  have hd : ((2 ^ j : Nat) : Int) ∣ ((2 ^ 64 : Nat) : Int) := by
    exact_mod_cast Nat.pow_dvd_pow 2 (Nat.le_of_lt hj)
  have hp : (0 : Int) < ((2 ^ j : Nat) : Int) := by exact_mod_cast Nat.two_pow_pos j
  have hle : ((2 ^ j : Nat) : Int) ≤ ((2 ^ 63 : Nat) : Int) := by
    exact_mod_cast Nat.pow_le_pow_right (by decide) (by omega)
  have e : (((n % ((2 ^ 64 : Nat) : Int)).toNat % 2 ^ j : Nat) : Int) = n % ((2 ^ j : Nat) : Int) := by
    rw [Int.natCast_emod, Int.toNat_of_nonneg (Int.emod_nonneg _ (by decide)), Int.emod_emod_of_dvd _ hd]
  rw [key, e, IntKind.wrap_i64]
  have h0 := Int.emod_nonneg n (Int.ne_of_gt hp)
  have h1 := Int.emod_lt_of_pos n hp
  generalize n % ((2 ^ j : Nat) : Int) = x at *
  generalize ((2 ^ j : Nat) : Int) = y at *
  have : ((2 ^ 63 : Nat) : Int) = 9223372036854775808 := by decide
  omega
theorem and255 (n : Int) : Go.bits .and .i64 n 255 = n % 256 := and_low n 8 255 (by decide) (by decide)
theorem and65535 (n : Int) : Go.bits .and .i64 n 65535 = n % 65536 := and_low n 16 65535 (by decide) (by decide)
theorem wrap_small {n : Int} (h0 : -9223372036854775808 ≤ n) (h1 : n ≤ 9223372036854775807) : wrap64 n = n := by
  unfold wrap64; omega
theorem wrap_nat {i : Nat} (h : i ≤ 4611686018427387904) : wrap64 ((i : Int) + 1) = ((i + 1 : Nat) : Int) := by
  unfold wrap64; omega
theorem rd_nat (l : List Int) (i : Nat) (h : i < l.length) : rd l (i : Int) = l[i] := by
  unfold rd; simp [List.getD, h]
end LFnExactAccess
open LFnExactAccess

theorem FnExactAccess (a0_0 : Int) (a0_1 : Int) (a1_0 : Int) (a1_1 : Int) (a1_2 : Int) (a1_3 : Int) (a1_4 : Bool) (a1_5 : Bool) (a1_6 : Bool) (a1_7 : Bool) (w0_0 : (Lit.int .i64 a0_0).wf = true) (w0_1 : (Lit.int .i64 a0_1).wf = true) (w1_0 : (Lit.int .i64 a1_0).wf = true) (w1_1 : (Lit.int .i64 a1_1).wf = true) (w1_2 : (Lit.int .i64 a1_2).wf = true) (w1_3 : (Lit.int .i64 a1_3).wf = true) : ∃ k, (laws_FnExactAccess.f k a0_0 a0_1 a1_0 a1_1 a1_2 a1_3 a1_4 a1_5 a1_6 a1_7) = some true := by
  refine ⟨3, ?_⟩
  have ho : spec_OpAccess.f 3 a0_0 = impl_OpAccess.f 3 a0_0 := by
    simp [spec_OpAccess.f, impl_OpAccess.f, spec_OpAccess.j0, impl_OpAccess.j0]
  have hr : ∃ r, impl_OpAccess.f 3 a0_0 = some r ∧ (r = 0 ∨ r = 1 ∨ r = 2) := by
    simp only [impl_OpAccess.f, impl_OpAccess.j0]
    repeat' split
    all_goals simp
  obtain ⟨r, hr, h3⟩ := hr
  have e : ∃ q, spec_Access.f 3 a0_0 a0_1 a1_0 a1_1 a1_2 a1_3 a1_4 a1_5 a1_6 a1_7 = some q ∧ impl_Access.f 3 a0_0 a0_1 a1_0 a1_1 a1_2 a1_3 a1_4 a1_5 a1_6 a1_7 = some q := by
    unfold spec_Access.f impl_Access.f
    rw [ho, hr]
    simp only [Option.bind_some, spec_Access.j0, impl_Access.j0, spec_Access.j1, impl_Access.j1, spec_Addr.f, impl_Addr.f, spec_Byte.f, impl_Byte.f]
    rcases h3 with rfl | rfl | rfl
    · by_cases h14 : a0_0 = 14 <;> by_cases h15 : a0_0 = 15 <;> simp [h14, h15]
    · by_cases h14 : a0_0 = 14 <;> by_cases h15 : a0_0 = 15 <;> simp [h14, h15]
    · by_cases h14 : a0_0 = 14 <;> by_cases h15 : a0_0 = 15 <;> simp [h14, h15]
  obtain ⟨q, h1, h2⟩ := e
  unfold laws_FnExactAccess.f laws_toInstr.f laws_toCpu.f
  simp only [Option.bind_some]
  rw [h1, h2]
  simp

end Go.Proofs.Ytcdfkemhigmnlaa.Pure
