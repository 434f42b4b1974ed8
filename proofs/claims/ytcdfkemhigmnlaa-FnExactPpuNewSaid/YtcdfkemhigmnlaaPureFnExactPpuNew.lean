/- The program's PpuNew returns what the reference's returns, in memory that is shared with no other call's. No condition. -/
import Derived.Test.YtcdfkemhigmnlaaMFnExactPpuNewx0
import Derived.Test.YtcdfkemhigmnlaaMFnExactPpuNewx1
import Derived.Test.YtcdfkemhigmnlaaMFnExactPpuNewx2
import Derived.Laws.Bits128
namespace Go.Proofs.Ytcdfkemhigmnlaa.Pure
open Go.RowKit Go.Proofs.Ytcdfkemhigmnlaa.MFnExactPpuNew Go.Proofs.YtcdfkemhigmnlaaW.PrintWords Go.Proofs.YtcdfkemhigmnlaaW.PrintLast Go.Proofs.YtcdfkemhigmnlaaW.PrintMore
set_option linter.unusedVariables false
set_option linter.unusedSimpArgs false
namespace LFnExactPpuNew
theorem and_low (n : Int) (j : Nat) (m : Int) (hj : j < 64) (hm : (BitVec.ofInt 64 m).toNat = 2 ^ j - 1) : Go.bits .and .i64 n m = n % (2 ^ j : Nat) := by
  have key : (BitVec.ofInt 64 n &&& BitVec.ofInt 64 m).toNat = (n % ((2 ^ 64 : Nat) : Int)).toNat % 2 ^ j := by
    rw [BitVec.toNat_and, BitVec.toNat_ofInt, hm, Nat.and_two_pow_sub_one_eq_mod]
  show IntKind.i64.wrap ((BitVec.ofInt 64 n &&& BitVec.ofInt 64 m).toNat : Nat) = n % (2 ^ j : Nat)
  have hd : ((2 ^ j : Nat) : Int) ∣ ((2 ^ 64 : Nat) : Int) := by
    exact_mod_cast Nat.pow_dvd_pow 2 (Nat.le_of_lt hj)
  have hp : (0 : Int) < ((2 ^ j : Nat) : Int) := by exact_mod_cast Nat.two_pow_pos j
  have hle : ((2 ^ j : Nat) : Int) ≤ ((2 ^ 63 : Nat) : Int) := by
    exact_mod_cast Nat.pow_le_pow_right (by decide) (by omega)
  have e : (((n % ((2 ^ 64 : Nat) : Int)).toNat % 2 ^ j : Nat) : Int) = n % ((2 ^ j : Nat) : Int) := by
    rw [Int.natCast_emod, Int.toNat_of_nonneg (Int.emod_nonneg _ (by decide)), Int.emod_emod_of_dvd _ hd]
  rw [key, e, IntKind.wrap_i64]
  have h0 := Int.emod_nonneg n (Int.ne_of_gt hp)
  have h1 := Int.emod_lt_of_pos n hp
  generalize n % ((2 ^ j : Nat) : Int) = x at *
  generalize ((2 ^ j : Nat) : Int) = y at *
  have : ((2 ^ 63 : Nat) : Int) = 9223372036854775808 := by decide
  omega
theorem and255 (n : Int) : Go.bits .and .i64 n 255 = n % 256 := and_low n 8 255 (by decide) (by decide)
theorem and65535 (n : Int) : Go.bits .and .i64 n 65535 = n % 65536 := and_low n 16 65535 (by decide) (by decide)
theorem wrap_small {n : Int} (h0 : -9223372036854775808 ≤ n) (h1 : n ≤ 9223372036854775807) : wrap64 n = n := by
  unfold wrap64; omega
theorem wrap_nat {i : Nat} (h : i ≤ 4611686018427387904) : wrap64 ((i : Int) + 1) = ((i + 1 : Nat) : Int) := by
  unfold wrap64; omega
theorem rd_nat (l : List Int) (i : Nat) (h : i < l.length) : rd l (i : Int) = l[i] := by
  unfold rd; simp [List.getD, h]

theorem eqIntS_l0 (l : List Int) (hl : l.length ≤ 140737488351232) : ∀ (k i : Nat), i ≤ l.length → l.length - i < k → laws_eqIntS.l0 k l l (i : Int) = some true := by
  intro k
  induction k with
  | zero => intro i _ h; omega
  | succ k ih =>
    intro i hi h
    simp only [laws_eqIntS.l0]
    by_cases hlt : i < l.length
    · have c1 : (i : Int) < (l.length : Int) := by omega
      have c0 : (0 : Int) ≤ (i : Int) := by omega
      simp only [c0, c1, if_true]
      rw [wrap_nat (by omega)]
      exact ih (i + 1) (by omega) (by omega)
    · rw [if_neg (by omega)]
theorem eqIntS_self (l : List Int) (hl : l.length ≤ 140737488351232) (k : Nat) (hk : l.length < k) : laws_eqIntS.f k l l = some true := by
  unfold laws_eqIntS.f
  rw [if_pos rfl]
  exact eqIntS_l0 l hl k 0 (by omega) (by omega)

def seqFrom (a : Int) (n : Nat) : List Int := (List.range n).map fun (j : Nat) => a + (j : Int)
theorem seqFrom_length (a : Int) (n : Nat) : (seqFrom a n).length = n := by simp [seqFrom]
theorem seqFrom_rd (a : Int) (n i : Nat) (h : i < n) : rd (seqFrom a n) (i : Int) = a + i := by
  rw [rd_nat _ _ (by simpa [seqFrom] using h)]
  simp [seqFrom]
theorem seqFrom_succ (a : Int) (n : Nat) : seqFrom a (n + 1) = seqFrom a n ++ [a + (n : Int)] := by
  simp [seqFrom, List.range_succ]

theorem markIntS_l0 (l : List Int) (a : Int) (hl : l.length ≤ 140737488351232) (ha : 0 ≤ a) (ha1 : a ≤ 140737488351232) : ∀ (k i : Nat), i ≤ l.length → l.length - i < k →
    laws_markIntS.l0 k (seqFrom a i ++ l.drop i) (a + i) (i : Int) = some (a + l.length, seqFrom a l.length) := by
  intro k
  induction k with
  | zero => intro i _ h; omega
  | succ k ih =>
    intro i hi h
    have hlen : (seqFrom a i ++ l.drop i).length = l.length := by simp [seqFrom_length]; omega
    simp only [laws_markIntS.l0]
    by_cases hlt : i < l.length
    · rw [if_pos (by omega), if_pos (by omega), wrap_nat (by omega)]
      have e1 : (seqFrom a i ++ l.drop i).set ((i : Int)).toNat (a + i) = seqFrom a (i + 1) ++ l.drop (i + 1) := by
        rw [Int.toNat_natCast, List.set_append, if_neg (by rw [seqFrom_length]; omega), seqFrom_length, Nat.sub_self, List.drop_eq_getElem_cons hlt, List.set_cons_zero, seqFrom_succ]
        simp
      have e2 : wrap64 (a + (i : Int) + 1) = a + ((i + 1 : Nat) : Int) := by unfold wrap64; omega
      rw [e1, e2]
      exact ih (i + 1) (by omega) (by omega)
    · have : i = l.length := by omega
      subst this
      rw [if_neg (by omega)]
      simp
theorem markIntS_all (l : List Int) (a : Int) (hl : l.length ≤ 140737488351232) (ha : 0 ≤ a) (ha1 : a ≤ 140737488351232) (k : Nat) (hk : l.length < k) :
    laws_markIntS.f k l a = some (a + l.length, seqFrom a l.length) := by
  have h := markIntS_l0 l a hl ha ha1 k 0 (by omega) (by omega)
  simpa [seqFrom, laws_markIntS.f] using h
theorem heldIntS_l0 (n : Nat) (a : Int) (hl : n ≤ 140737488351232) (ha : 0 ≤ a) (ha1 : a ≤ 140737488351232) : ∀ (k i : Nat), i ≤ n → n - i < k →
    laws_heldIntS.l0 k (seqFrom a n) (a + i) (i : Int) = some (a + n) := by
  intro k
  induction k with
  | zero => intro i _ h; omega
  | succ k ih =>
    intro i hi h
    have hlen := seqFrom_length a n
    simp only [laws_heldIntS.l0]
    by_cases hlt : i < n
    · have e2 : wrap64 (a + (i : Int) + 1) = a + ((i + 1 : Nat) : Int) := by unfold wrap64; omega
      rw [if_pos (by omega), if_pos (by omega), if_pos (seqFrom_rd a n i hlt), wrap_nat (by omega), e2]
      exact ih (i + 1) (by omega) (by omega)
    · have : i = n := by omega
      subst this
      rw [if_neg (by omega)]
theorem heldIntS_all (n : Nat) (a : Int) (hl : n ≤ 140737488351232) (ha : 0 ≤ a) (ha1 : a ≤ 140737488351232) (k : Nat) (hk : n < k) :
    laws_heldIntS.f k (seqFrom a n) a = some (a + n) := by
  have h := heldIntS_l0 n a hl ha ha1 k 0 (by omega) (by omega)
  simpa [laws_heldIntS.f] using h

theorem eqPpu_self (t c s a p : Int) (b : Bool) (l q : List Int) (hl : l.length ≤ 1048576) (hq : q.length ≤ 1048576) (k : Nat) (hk : 2000000 ≤ k) : laws_eqPpu.f k t c s a p b l q t c s a p b l q = some true := by
  unfold laws_eqPpu.f
  rw [eqIntS_self l (by omega) k (by omega), eqIntS_self q (by omega) k (by omega)]
  simp
theorem markPpu_all (t c s a p : Int) (b : Bool) (l q : List Int) (hl : l.length ≤ 1048576) (hq : q.length ≤ 1048576) (k : Nat) (hk : 2000000 ≤ k) (x : Int) (h0 : 0 ≤ x) (h1 : x ≤ 1048576) :
    laws_markPpu.f k t c s a p b l q x = some (x + l.length + q.length, seqFrom x l.length, seqFrom (x + l.length) q.length) := by
  unfold laws_markPpu.f
  rw [markIntS_all l x (by omega) h0 (by omega) k (by omega), Option.bind_some, markIntS_all q _ (by omega) (by omega) (by omega) k (by omega)]
  rfl
theorem heldPpu_all (t c s a p : Int) (b : Bool) (n m : Nat) (hl : n ≤ 1048576) (hq : m ≤ 1048576) (k : Nat) (hk : 2000000 ≤ k) (x : Int) (h0 : 0 ≤ x) (h1 : x ≤ 1048576) :
    laws_heldPpu.f k t c s a p b (seqFrom x n) (seqFrom (x + n) m) x = some (x + n + m) := by
  unfold laws_heldPpu.f
  rw [heldIntS_all n x (by omega) h0 (by omega) k (by omega), Option.bind_some, if_neg (by omega), heldIntS_all m _ (by omega) (by omega) (by omega) k (by omega), Option.bind_some, if_neg (by omega)]
end LFnExactPpuNew
open LFnExactPpuNew

theorem FnExactPpuNew   : ∃ k, (laws_FnExactPpuNew.f k ) = some true := by
  obtain ⟨K, hK⟩ : ∃ K : Nat, 400000000 ≤ K := ⟨_, Nat.le_refl _⟩
  refine ⟨K, ?_⟩
  have hz : (List.replicate 16 (0 : Int)).length = 16 := List.length_replicate
  unfold laws_FnExactPpuNew.f spec_PpuNew.f impl_PpuNew.f
  rw [if_pos (by decide)]
  simp only [Option.bind_some]
  generalize List.replicate 16 (0 : Int) = z at *
  rw [eqPpu_self _ _ _ _ _ _ z [] (by omega) (by simp) K (by omega), markPpu_all _ _ _ _ _ _ z [] (by omega) (by simp) K (by omega) 1 (by decide) (by decide)]
  simp only [Option.bind_some, if_true]
  rw [heldPpu_all _ _ _ _ _ _ z.length ([] : List Int).length (by omega) (by simp) K (by omega) 1 (by decide) (by decide)]
  simp only [Option.bind_some]
  have c : ¬ ((1 : Int) + (z.length : Int) + (([] : List Int).length : Int) < 0) := by simp; omega
  simp only [c, if_false, if_true]

end Go.Proofs.Ytcdfkemhigmnlaa.Pure
