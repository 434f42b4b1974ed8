/- The program's MemNew returns what the reference's returns, in memory that is shared with no other call's. No condition. -/
import Derived.Test.YtcdfkemhigmnlaaPFnExactMemNewx0
import Derived.Test.YtcdfkemhigmnlaaPFnExactMemNewx1
import Derived.Laws.Bits128
namespace Go.Proofs.Ytcdfkemhigmnlaa.Pure
open Go.RowKit Go.Proofs.Ytcdfkemhigmnlaa.PFnExactMemNew Go.Proofs.YtcdfkemhigmnlaaW.PrintWords Go.Proofs.YtcdfkemhigmnlaaW.PrintLast Go.Proofs.YtcdfkemhigmnlaaW.PrintMore
set_option linter.unusedVariables false
set_option linter.unusedSimpArgs false
namespace LFnExactMemNew
theorem and_low (n : Int) (j : Nat) (m : Int) (hj : j < 64) (hm : (BitVec.ofInt 64 m).toNat = 2 ^ j - 1) : Go.bits .and .i64 n m = n % (2 ^ j : Nat) := by
  have key : (BitVec.ofInt 64 n &&& BitVec.ofInt 64 m).toNat = (n % ((2 ^ 64 : Nat) : Int)).toNat % 2 ^ j := by
    rw [BitVec.toNat_and, BitVec.toNat_ofInt, hm, Nat.and_two_pow_sub_one_eq_mod]
  show IntKind.i64.wrap ((BitVec.ofInt 64 n &&& BitVec.ofInt 64 m).toNat : Nat) = n % (2 ^ j : Nat)
  have hd : ((2 ^ j : Nat) : Int) ∣ ((2 ^ 64 : Nat) : Int) := by
    exact_mod_cast Nat.pow_dvd_pow 2 (Nat.le_of_lt hj)
  have hp : (0 : Int) < ((2 ^ j : Nat) : Int) := by exact_mod_cast Nat.two_pow_pos j
  have hle : ((2 ^ j : Nat) : Int) ≤ ((2 ^ 63 : Nat) : Int) := by
    exact_mod_cast Nat.pow_le_pow_right (by decide) (by omega)
  have e : (((n % ((2 ^ 64 : Nat) : Int)).toNat % 2 ^ j : Nat) : Int) = n % ((2 ^ j : Nat) : Int) := by
    rw [Int.natCast_emod, Int.toNat_of_nonneg (Int.emod_nonneg _ (by decide)), Int.emod_emod_of_dvd _ hd]
  rw [key, e, IntKind.wrap_i64]
  have h0 := Int.emod_nonneg n (Int.ne_of_gt hp)
  have h1 := Int.emod_lt_of_pos n hp
  generalize n % ((2 ^ j : Nat) : Int) = x at *
  generalize ((2 ^ j : Nat) : Int) = y at *
  have : ((2 ^ 63 : Nat) : Int) = 9223372036854775808 := by decide
  omega
theorem and255 (n : Int) : Go.bits .and .i64 n 255 = n % 256 := and_low n 8 255 (by decide) (by decide)
theorem and65535 (n : Int) : Go.bits .and .i64 n 65535 = n % 65536 := and_low n 16 65535 (by decide) (by decide)
theorem wrap_small {n : Int} (h0 : -9223372036854775808 ≤ n) (h1 : n ≤ 9223372036854775807) : wrap64 n = n := by
  unfold wrap64; omega
theorem wrap_nat {i : Nat} (h : i ≤ 4611686018427387904) : wrap64 ((i : Int) + 1) = ((i + 1 : Nat) : Int) := by
  unfold wrap64; omega
theorem rd_nat (l : List Int) (i : Nat) (h : i < l.length) : rd l (i : Int) = l[i] := by
  unfold rd; simp [List.getD, h]

theorem eqIntS_l0 (l : List Int) (hl : l.length ≤ 140737488351232) : ∀ (k i : Nat), i ≤ l.length → l.length - i < k → laws_eqIntS.l0 k l l (i : Int) = some true := by
  intro k
  induction k with
  | zero => intro i _ h; omega
  | succ k ih =>
    intro i hi h
    simp only [laws_eqIntS.l0]
    by_cases hlt : i < l.length
    · have c1 : (i : Int) < (l.length : Int) := by omega
      have c0 : (0 : Int) ≤ (i : Int) := by omega
      simp only [c0, c1, if_true]
      rw [wrap_nat (by omega)]
      exact ih (i + 1) (by omega) (by omega)
    · rw [if_neg (by omega)]
theorem eqIntS_self (l : List Int) (hl : l.length ≤ 140737488351232) (k : Nat) (hk : l.length < k) : laws_eqIntS.f k l l = some true := by
  unfold laws_eqIntS.f
  rw [if_pos rfl]
  exact eqIntS_l0 l hl k 0 (by omega) (by omega)

theorem eqMem_self (l : List Int) (b : Int) (hl : l.length ≤ 140737488351232) (k : Nat) (hk : l.length < k) : laws_eqMem.f k l b l b = some true := by
  unfold laws_eqMem.f
  rw [eqIntS_self l hl k hk]
  simp

def seqFrom (a : Int) (n : Nat) : List Int := (List.range n).map fun (j : Nat) => a + (j : Int)
theorem seqFrom_length (a : Int) (n : Nat) : (seqFrom a n).length = n := by simp [seqFrom]
theorem seqFrom_rd (a : Int) (n i : Nat) (h : i < n) : rd (seqFrom a n) (i : Int) = a + i := by
  rw [rd_nat _ _ (by simpa [seqFrom] using h)]
  simp [seqFrom]
theorem seqFrom_succ (a : Int) (n : Nat) : seqFrom a (n + 1) = seqFrom a n ++ [a + (n : Int)] := by
  simp [seqFrom, List.range_succ]

theorem markIntS_l0 (l : List Int) (a : Int) (hl : l.length ≤ 140737488351232) (ha : 0 ≤ a) (ha1 : a ≤ 140737488351232) : ∀ (k i : Nat), i ≤ l.length → l.length - i < k →
    laws_markIntS.l0 k (seqFrom a i ++ l.drop i) (a + i) (i : Int) = some (a + l.length, seqFrom a l.length) := by
  intro k
  induction k with
  | zero => intro i _ h; omega
  | succ k ih =>
    intro i hi h
    have hlen : (seqFrom a i ++ l.drop i).length = l.length := by simp [seqFrom_length]; omega
    simp only [laws_markIntS.l0]
    by_cases hlt : i < l.length
    · rw [if_pos (by omega), if_pos (by omega), wrap_nat (by omega)]
      have e1 : (seqFrom a i ++ l.drop i).set ((i : Int)).toNat (a + i) = seqFrom a (i + 1) ++ l.drop (i + 1) := by
        rw [Int.toNat_natCast, List.set_append, if_neg (by rw [seqFrom_length]; omega), seqFrom_length, Nat.sub_self, List.drop_eq_getElem_cons hlt, List.set_cons_zero, seqFrom_succ]
        simp
      have e2 : wrap64 (a + (i : Int) + 1) = a + ((i + 1 : Nat) : Int) := by unfold wrap64; omega
      rw [e1, e2]
      exact ih (i + 1) (by omega) (by omega)
    · have : i = l.length := by omega
      subst this
      rw [if_neg (by omega)]
      simp
theorem markIntS_all (l : List Int) (a : Int) (hl : l.length ≤ 140737488351232) (ha : 0 ≤ a) (ha1 : a ≤ 140737488351232) (k : Nat) (hk : l.length < k) :
    laws_markIntS.f k l a = some (a + l.length, seqFrom a l.length) := by
  have h := markIntS_l0 l a hl ha ha1 k 0 (by omega) (by omega)
  simpa [seqFrom, laws_markIntS.f] using h
theorem heldIntS_l0 (n : Nat) (a : Int) (hl : n ≤ 140737488351232) (ha : 0 ≤ a) (ha1 : a ≤ 140737488351232) : ∀ (k i : Nat), i ≤ n → n - i < k →
    laws_heldIntS.l0 k (seqFrom a n) (a + i) (i : Int) = some (a + n) := by
  intro k
  induction k with
  | zero => intro i _ h; omega
  | succ k ih =>
    intro i hi h
    have hlen := seqFrom_length a n
    simp only [laws_heldIntS.l0]
    by_cases hlt : i < n
    · have e2 : wrap64 (a + (i : Int) + 1) = a + ((i + 1 : Nat) : Int) := by unfold wrap64; omega
      rw [if_pos (by omega), if_pos (by omega), if_pos (seqFrom_rd a n i hlt), wrap_nat (by omega), e2]
      exact ih (i + 1) (by omega) (by omega)
    · have : i = n := by omega
      subst this
      rw [if_neg (by omega)]
theorem heldIntS_all (n : Nat) (a : Int) (hl : n ≤ 140737488351232) (ha : 0 ≤ a) (ha1 : a ≤ 140737488351232) (k : Nat) (hk : n < k) :
    laws_heldIntS.f k (seqFrom a n) a = some (a + n) := by
  have h := heldIntS_l0 n a hl ha ha1 k 0 (by omega) (by omega)
  simpa [laws_heldIntS.f] using h

theorem markMem_all (l : List Int) (b a : Int) (hl : l.length ≤ 140737488351232) (ha : 0 ≤ a) (ha1 : a ≤ 140737488351232) (k : Nat) (hk : l.length < k) :
    laws_markMem.f k l b a = some (a + l.length, seqFrom a l.length) := by
  unfold laws_markMem.f
  rw [markIntS_all l a hl ha ha1 k hk]
  rfl
theorem heldMem_all (n : Nat) (b a : Int) (hl : n ≤ 140737488351232) (ha : 0 ≤ a) (ha1 : a ≤ 140737488351232) (k : Nat) (hk : n < k) :
    laws_heldMem.f k (seqFrom a n) b a = some (a + n) := by
  unfold laws_heldMem.f
  rw [heldIntS_all n a hl ha ha1 k hk]
  simp only [Option.bind_some]
  rw [if_neg (by omega)]
end LFnExactMemNew
open LFnExactMemNew

theorem FnExactMemNew : laws_FnExactMemNew.Pure := by
  refine ⟨513, ?_⟩
  have hz : (List.replicate 512 (0 : Int)).length = 512 := List.length_replicate
  unfold laws_FnExactMemNew.f spec_MemNew.f impl_MemNew.f
  rw [if_pos (by decide)]
  simp only [Option.bind_some]
  generalize List.replicate 512 (0 : Int) = z at *
  rw [eqMem_self z 0 (by omega) 513 (by omega)]
  simp only [Option.bind_some, if_true]
  rw [markMem_all z 0 1 (by omega) (by decide) (by decide) 513 (by omega)]
  simp only [Option.bind_some]
  rw [heldMem_all _ 0 1 (by omega) (by decide) (by decide) 513 (by omega)]
  simp only [Option.bind_some]
  have c : ¬ ((1 : Int) + (z.length : Int) < 0) := by omega
  simp only [c, if_false, if_true]

end Go.Proofs.Ytcdfkemhigmnlaa.Pure
