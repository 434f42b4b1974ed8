/- The program's Exec returns what the reference's returns, for every memory, processor, instruction and number, in memory of its own, and leaves its arguments as they were. No condition. -/
import Derived.Test.YtmiaocoffmobcaaMFnExactExecx0
import Derived.Test.YtmiaocoffmobcaaMFnExactExecx1
import Derived.Test.YtmiaocoffmobcaaMFnExactExecx2
import Derived.Test.YtmiaocoffmobcaaMFnExactExecx3
import Derived.Test.YtmiaocoffmobcaaMFnExactExecx4
import Derived.Test.YtmiaocoffmobcaaMFnExactExecx5
import Derived.Laws.Bits128
namespace Go.Proofs.Ytmiaocoffmobcaa.Pure
open Go.RowKit Go.Proofs.Ytmiaocoffmobcaa.MFnExactExec Go.Proofs.YtmiaocoffmobcaaW.PrintWords Go.Proofs.YtmiaocoffmobcaaW.PrintLast Go.Proofs.YtmiaocoffmobcaaW.PrintMore
set_option linter.unusedVariables false
set_option linter.unusedSimpArgs false
namespace LFnExactExec
theorem and_low (n : Int) (j : Nat) (m : Int) (hj : j < 64) (hm : (BitVec.ofInt 64 m).toNat = 2 ^ j - 1) : Go.bits .and .i64 n m = n % (2 ^ j : Nat) := by
  have key : (BitVec.ofInt 64 n &&& BitVec.ofInt 64 m).toNat = (n % ((2 ^ 64 : Nat) : Int)).toNat % 2 ^ j := by
    rw [BitVec.toNat_and, BitVec.toNat_ofInt, hm, Nat.and_two_pow_sub_one_eq_mod]
  show IntKind.i64.wrap ((BitVec.ofInt 64 n &&& BitVec.ofInt 64 m).toNat : Nat) = n % (2 ^ j : Nat)
  have hd : ((2 ^ j : Nat) : Int) ∣ ((2 ^ 64 : Nat) : Int) := by
    exact_mod_cast Nat.pow_dvd_pow 2 (Nat.le_of_lt hj)
  have hp : (0 : Int) < ((2 ^ j : Nat) : Int) := by exact_mod_cast Nat.two_pow_pos j
  have hle : ((2 ^ j : Nat) : Int) ≤ ((2 ^ 63 : Nat) : Int) := by
    exact_mod_cast Nat.pow_le_pow_right (by decide) (by omega)
  have e : (((n % ((2 ^ 64 : Nat) : Int)).toNat % 2 ^ j : Nat) : Int) = n % ((2 ^ j : Nat) : Int) := by
    rw [Int.natCast_emod, Int.toNat_of_nonneg (Int.emod_nonneg _ (by decide)), Int.emod_emod_of_dvd _ hd]
  rw [key, e, IntKind.wrap_i64]
  have h0 := Int.emod_nonneg n (Int.ne_of_gt hp)
  have h1 := Int.emod_lt_of_pos n hp
  generalize n % ((2 ^ j : Nat) : Int) = x at *
  generalize ((2 ^ j : Nat) : Int) = y at *
  have : ((2 ^ 63 : Nat) : Int) = 9223372036854775808 := by decide
  omega
theorem and255 (n : Int) : Go.bits .and .i64 n 255 = n % 256 := and_low n 8 255 (by decide) (by decide)
theorem and65535 (n : Int) : Go.bits .and .i64 n 65535 = n % 65536 := and_low n 16 65535 (by decide) (by decide)
theorem wrap_small {n : Int} (h0 : -9223372036854775808 ≤ n) (h1 : n ≤ 9223372036854775807) : wrap64 n = n := by
  unfold wrap64; omega
theorem wrap_nat {i : Nat} (h : i ≤ 4611686018427387904) : wrap64 ((i : Int) + 1) = ((i + 1 : Nat) : Int) := by
  unfold wrap64; omega
theorem rd_nat (l : List Int) (i : Nat) (h : i < l.length) : rd l (i : Int) = l[i] := by
  unfold rd; simp [List.getD, h]

theorem szIntS_ok (l : List Int) (hl : l.length ≤ 9223372036854775807) (a : Int) (h0 : 0 ≤ a) (h1 : a ≤ 1048576) :
    ∃ r : Int, laws_szIntS.f l a = some r ∧ (r = -1 ∨ (0 ≤ r ∧ r ≤ a ∧ (l.length : Int) ≤ a)) := by
  unfold laws_szIntS.f
  rw [wrap_small (by omega) (by omega)]
  by_cases h : a - (l.length : Int) < 0
  · rw [if_pos h]; exact ⟨-1, rfl, .inl rfl⟩
  · rw [if_neg h]; exact ⟨_, rfl, .inr ⟨by omega, by omega, by omega⟩⟩

theorem szMem_ok (l : List Int) (b : Int) (hl : l.length ≤ 9223372036854775807) (a : Int) (h0 : 0 ≤ a) (h1 : a ≤ 1048576) :
    ∃ r : Int, laws_szMem.f l b a = some r ∧ (r = -1 ∨ (0 ≤ r ∧ r ≤ a ∧ (l.length : Int) ≤ a)) := by
  obtain ⟨r, h, hr⟩ := szIntS_ok l hl a h0 h1
  unfold laws_szMem.f
  rw [h, Option.bind_some]
  rcases hr with rfl | hr
  · exact ⟨-1, by simp, .inl rfl⟩
  · rw [if_neg (by omega)]; exact ⟨r, rfl, .inr hr⟩

theorem toIntS_l0 (l : List Int) (hl : l.length ≤ 35184372088832) : ∀ (k i : Nat), i ≤ l.length → l.length - i < k →
    laws_toIntS.l0 k l (l.take i ++ List.replicate (l.length - i) 0) (i : Int) = some l := by
  intro k
  induction k with
  | zero => intro i _ h; omega
  | succ k ih =>
    intro i hi h
    have hlen : (l.take i ++ List.replicate (l.length - i) (0 : Int)).length = l.length := by simp; omega
    simp only [laws_toIntS.l0]
    by_cases hlt : i < l.length
    · rw [if_pos (by omega), if_pos (by omega), if_pos (by omega), wrap_nat (by omega)]
      have e1 : (l.take i ++ List.replicate (l.length - i) 0).set ((i : Int)).toNat (rd l (i : Int)) = l.take (i + 1) ++ List.replicate (l.length - (i + 1)) 0 := by
        rw [Int.toNat_natCast, List.set_append, if_neg (by rw [List.length_take]; omega), List.length_take, Nat.min_eq_left (by omega), Nat.sub_self, show l.length - i = (l.length - (i + 1)) + 1 by omega, List.replicate_succ, List.set_cons_zero, rd_nat l i hlt, List.take_succ_eq_append_getElem hlt, List.append_assoc, List.singleton_append]
      rw [e1]
      exact ih (i + 1) (by omega) (by omega)
    · have : i = l.length := by omega
      subst this
      rw [if_neg (by omega)]
      simp
theorem toIntS_ok (l : List Int) (hl : l.length ≤ 35184372088832) (k : Nat) (hk : l.length < k) : laws_toIntS.f k l = some l := by
  unfold laws_toIntS.f
  rw [if_pos (by omega), Int.toNat_natCast, if_pos hl]
  have h := toIntS_l0 l hl k 0 (by omega) (by omega)
  simpa using h

theorem toMem_ok (l : List Int) (b : Int) (hl : l.length ≤ 35184372088832) (k : Nat) (hk : l.length < k) : laws_toMem.f k l b = some (l, b) := by
  unfold laws_toMem.f
  rw [toIntS_ok l hl k hk]
  rfl

theorem eqIntS_l0 (l : List Int) (hl : l.length ≤ 140737488351232) : ∀ (k i : Nat), i ≤ l.length → l.length - i < k → laws_eqIntS.l0 k l l (i : Int) = some true := by
  intro k
  induction k with
  | zero => intro i _ h; omega
  | succ k ih =>
    intro i hi h
    simp only [laws_eqIntS.l0]
    by_cases hlt : i < l.length
    · have c1 : (i : Int) < (l.length : Int) := by omega
      have c0 : (0 : Int) ≤ (i : Int) := by omega
      simp only [c0, c1, if_true]
      rw [wrap_nat (by omega)]
      exact ih (i + 1) (by omega) (by omega)
    · rw [if_neg (by omega)]
theorem eqIntS_self (l : List Int) (hl : l.length ≤ 140737488351232) (k : Nat) (hk : l.length < k) : laws_eqIntS.f k l l = some true := by
  unfold laws_eqIntS.f
  rw [if_pos rfl]
  exact eqIntS_l0 l hl k 0 (by omega) (by omega)

theorem eqMem_self (l : List Int) (b : Int) (hl : l.length ≤ 140737488351232) (k : Nat) (hk : l.length < k) : laws_eqMem.f k l b l b = some true := by
  unfold laws_eqMem.f
  rw [eqIntS_self l hl k hk]
  simp

theorem eqCpu_self (a x s p : Int) (z n c i : Bool) : laws_eqCpu.f a x s p z n c i a x s p z n c i = some true := by
  unfold laws_eqCpu.f
  simp

def seqFrom (a : Int) (n : Nat) : List Int := (List.range n).map fun (j : Nat) => a + (j : Int)
theorem seqFrom_length (a : Int) (n : Nat) : (seqFrom a n).length = n := by simp [seqFrom]
theorem seqFrom_rd (a : Int) (n i : Nat) (h : i < n) : rd (seqFrom a n) (i : Int) = a + i := by
  rw [rd_nat _ _ (by simpa [seqFrom] using h)]
  simp [seqFrom]
theorem seqFrom_succ (a : Int) (n : Nat) : seqFrom a (n + 1) = seqFrom a n ++ [a + (n : Int)] := by
  simp [seqFrom, List.range_succ]

theorem markIntS_l0 (l : List Int) (a : Int) (hl : l.length ≤ 140737488351232) (ha : 0 ≤ a) (ha1 : a ≤ 140737488351232) : ∀ (k i : Nat), i ≤ l.length → l.length - i < k →
    laws_markIntS.l0 k (seqFrom a i ++ l.drop i) (a + i) (i : Int) = some (a + l.length, seqFrom a l.length) := by
  intro k
  induction k with
  | zero => intro i _ h; omega
  | succ k ih =>
    intro i hi h
    have hlen : (seqFrom a i ++ l.drop i).length = l.length := by simp [seqFrom_length]; omega
    simp only [laws_markIntS.l0]
    by_cases hlt : i < l.length
    · rw [if_pos (by omega), if_pos (by omega), wrap_nat (by omega)]
      have e1 : (seqFrom a i ++ l.drop i).set ((i : Int)).toNat (a + i) = seqFrom a (i + 1) ++ l.drop (i + 1) := by
        rw [Int.toNat_natCast, List.set_append, if_neg (by rw [seqFrom_length]; omega), seqFrom_length, Nat.sub_self, List.drop_eq_getElem_cons hlt, List.set_cons_zero, seqFrom_succ]
        simp
      have e2 : wrap64 (a + (i : Int) + 1) = a + ((i + 1 : Nat) : Int) := by unfold wrap64; omega
      rw [e1, e2]
      exact ih (i + 1) (by omega) (by omega)
    · have : i = l.length := by omega
      subst this
      rw [if_neg (by omega)]
      simp
theorem markIntS_all (l : List Int) (a : Int) (hl : l.length ≤ 140737488351232) (ha : 0 ≤ a) (ha1 : a ≤ 140737488351232) (k : Nat) (hk : l.length < k) :
    laws_markIntS.f k l a = some (a + l.length, seqFrom a l.length) := by
  have h := markIntS_l0 l a hl ha ha1 k 0 (by omega) (by omega)
  simpa [seqFrom, laws_markIntS.f] using h

theorem heldIntS_l0 (n : Nat) (a : Int) (hl : n ≤ 140737488351232) (ha : 0 ≤ a) (ha1 : a ≤ 140737488351232) : ∀ (k i : Nat), i ≤ n → n - i < k →
    laws_heldIntS.l0 k (seqFrom a n) (a + i) (i : Int) = some (a + n) := by
  intro k
  induction k with
  | zero => intro i _ h; omega
  | succ k ih =>
    intro i hi h
    have hlen := seqFrom_length a n
    simp only [laws_heldIntS.l0]
    by_cases hlt : i < n
    · have e2 : wrap64 (a + (i : Int) + 1) = a + ((i + 1 : Nat) : Int) := by unfold wrap64; omega
      rw [if_pos (by omega), if_pos (by omega), if_pos (seqFrom_rd a n i hlt), wrap_nat (by omega), e2]
      exact ih (i + 1) (by omega) (by omega)
    · have : i = n := by omega
      subst this
      rw [if_neg (by omega)]
theorem heldIntS_all (n : Nat) (a : Int) (hl : n ≤ 140737488351232) (ha : 0 ≤ a) (ha1 : a ≤ 140737488351232) (k : Nat) (hk : n < k) :
    laws_heldIntS.f k (seqFrom a n) a = some (a + n) := by
  have h := heldIntS_l0 n a hl ha ha1 k 0 (by omega) (by omega)
  simpa [laws_heldIntS.f] using h

theorem markMem_all (l : List Int) (b a : Int) (hl : l.length ≤ 140737488351232) (ha : 0 ≤ a) (ha1 : a ≤ 140737488351232) (k : Nat) (hk : l.length < k) :
    laws_markMem.f k l b a = some (a + l.length, seqFrom a l.length) := by
  unfold laws_markMem.f
  rw [markIntS_all l a hl ha ha1 k hk]
  rfl
theorem heldMem_all (n : Nat) (b a : Int) (hl : n ≤ 140737488351232) (ha : 0 ≤ a) (ha1 : a ≤ 140737488351232) (k : Nat) (hk : n < k) :
    laws_heldMem.f k (seqFrom a n) b a = some (a + n) := by
  unfold laws_heldMem.f
  rw [heldIntS_all n a hl ha ha1 k hk]
  simp only [Option.bind_some]
  rw [if_neg (by omega)]

theorem within_eq (x lo hi : Int) : impl_within.f x lo hi = some (decide (lo ≤ x ∧ x ≤ hi)) := by
  unfold impl_within.f
  split <;> simp <;> omega
theorem l1In_eq (x lo hi : Int) : spec_l1In.f x lo hi = some (decide (lo ≤ x ∧ x ≤ hi)) := by
  unfold spec_l1In.f
  split <;> simp <;> omega

def opLenV (a : Int) : Int := if a = 1 ∨ (4 ≤ a ∧ a ≤ 9) then 2 else if a = 2 ∨ a = 3 ∨ (14 ≤ a ∧ a ≤ 20) ∨ a = 29 then 3 else 1
theorem specOpLen (a : Int) : spec_OpLen.f a = some (opLenV a) := by
  by_cases h : 0 ≤ a ∧ a ≤ 29
  · have hc : ∀ n : Fin 30, spec_OpLen.f (n.val : Int) = some (opLenV (n.val : Int)) := by decide
    have := hc ⟨a.toNat, by omega⟩
    rw [show ((a.toNat : Nat) : Int) = a by omega] at this
    exact this
  · unfold spec_OpLen.f opLenV
    have e : decide (0 ≤ a ∧ a ≤ 29) = false := decide_eq_false h
    rw [l1In_eq, Option.bind_some, e, if_neg (by decide), if_neg (by omega), if_neg (by omega)]
theorem opLenV_three (a : Int) : opLenV a = 1 ∨ opLenV a = 2 ∨ opLenV a = 3 := by
  unfold opLenV; repeat' split
  all_goals omega

theorem implOpLen (a : Int) (k : Nat) (hk : 1 ≤ k) : impl_OpLen.f k a = some (opLenV a) := by
  obtain ⟨k, rfl⟩ : ∃ q, k = q + 1 := ⟨k - 1, by omega⟩
  unfold impl_OpLen.f opLenV
  by_cases h1 : a = 1
  · subst h1; simp [impl_OpLen.j0]
  · rw [if_neg h1, within_eq, Option.bind_some]
    simp only [impl_OpLen.j0]
    by_cases h2 : 4 ≤ a ∧ a ≤ 9
    · simp [h2]
    · have e : decide (4 ≤ a ∧ a ≤ 9) = false := decide_eq_false h2
      rw [e]
      simp only [Bool.false_eq_true, if_false, within_eq, Option.bind_some, h1, h2, or_self]
      by_cases h3 : a = 2
      · subst h3; simp
      · by_cases h4 : a = 3
        · subst h4; simp
        · by_cases h5 : 14 ≤ a ∧ a ≤ 20
          · simp [h3, h4, h5]
          · by_cases h6 : a = 29
            · subst h6; simp
            · have e5 : decide (14 ≤ a ∧ a ≤ 20) = false := decide_eq_false h5
              simp [h3, h4, h5, h6, e5]

theorem specCopy (l : List Int) (b : Int) (hl : l.length < 17592186044416) : spec_l6Copy.f l b = some (l, b) := by
  unfold spec_l6Copy.f
  simp only [Option.bind_some]
  rw [if_pos (by simpa using hl), List.nil_append]
theorem implCopy (l : List Int) (b : Int) (hl : l.length < 17592186044416) : impl_copyMem.f l b = some (l, b) := by
  unfold impl_copyMem.f impl_copyInts.f
  simp only [Option.bind_some]
  rw [if_pos (by simpa using hl), List.nil_append]
  rfl
end LFnExactExec
open LFnExactExec

theorem low_nat (n : Int) : (BitVec.ofInt 64 (n % 256)).toNat = (BitVec.ofInt 64 n).toNat % 2 ^ 8 := by
  rw [BitVec.toNat_ofInt, BitVec.toNat_ofInt]
  omega
theorem wrapn_mod (x : Nat) : IntKind.i64.wrap (x : Int) % 256 = (x : Int) % 256 := by
  rw [IntKind.wrap_i64]
  omega
theorem and_mod (n m : Int) : Go.bits .and .i64 n m % 256 = Go.bits .and .i64 (n % 256) (m % 256) % 256 := by
  show IntKind.i64.wrap ((BitVec.ofInt 64 n &&& BitVec.ofInt 64 m).toNat : Nat) % 256 = IntKind.i64.wrap ((BitVec.ofInt 64 (n % 256) &&& BitVec.ofInt 64 (m % 256)).toNat : Nat) % 256
  rw [wrapn_mod, wrapn_mod, BitVec.toNat_and, BitVec.toNat_and, low_nat, low_nat, ← Nat.and_mod_two_pow]
  omega
theorem or_mod (n m : Int) : Go.bits .or .i64 n m % 256 = Go.bits .or .i64 (n % 256) (m % 256) % 256 := by
  show IntKind.i64.wrap ((BitVec.ofInt 64 n ||| BitVec.ofInt 64 m).toNat : Nat) % 256 = IntKind.i64.wrap ((BitVec.ofInt 64 (n % 256) ||| BitVec.ofInt 64 (m % 256)).toNat : Nat) % 256
  rw [wrapn_mod, wrapn_mod, BitVec.toNat_or, BitVec.toNat_or, low_nat, low_nat, ← Nat.or_mod_two_pow]
  omega
theorem xor_mod (n m : Int) : Go.bits .xor .i64 n m % 256 = Go.bits .xor .i64 (n % 256) (m % 256) % 256 := by
  show IntKind.i64.wrap ((BitVec.ofInt 64 n ^^^ BitVec.ofInt 64 m).toNat : Nat) % 256 = IntKind.i64.wrap ((BitVec.ofInt 64 (n % 256) ^^^ BitVec.ofInt 64 (m % 256)).toNat : Nat) % 256
  rw [wrapn_mod, wrapn_mod, BitVec.toNat_xor, BitVec.toNat_xor, low_nat, low_nat, ← Nat.xor_mod_two_pow]
  omega
theorem setAK_of (k : Cp) (v u : Int) (h : v % 256 = u % 256) : setAK k v = setAK k u := by
  unfold setAK
  rw [h]
theorem setXK_of (k : Cp) (v u : Int) (h : v % 256 = u % 256) : setXK k v = setXK k u := by
  unfold setXK
  rw [h]
theorem wrap_mod (n : Int) : wrap64 n % 256 = n % 256 := by unfold wrap64; omega
theorem addK_mod (k : Cp) (v : Int) : addK k (v % 256) = addK k v := by
  have e : impl_Add8.f k.A (v % 256) k.C = impl_Add8.f k.A v k.C := by
    unfold impl_Add8.f impl_Byte.f
    simp only [Option.bind_some, LFnExactExec.and255, Int.emod_emod_of_dvd _ (Int.dvd_refl 256)]
  unfold addK
  rw [e]
theorem sub_is (a b : Int) (c : Bool) : spec_Sub8.f a b c = impl_Sub8.f a b c := by
  unfold spec_Sub8.f impl_Sub8.f spec_Byte.f impl_Byte.f spec_l1Bit.f impl_flag.f
  simp only [Option.bind_some, LFnExactExec.and255]
  cases c <;> simp only [Bool.not_true, Bool.not_false, Bool.false_eq_true, if_true, if_false, Option.bind_some, Option.some.injEq, Prod.mk.injEq, decide_eq_decide]
  · refine ⟨?_, ?_⟩ <;> (unfold wrap64; omega)
  · refine ⟨?_, ?_⟩ <;> (unfold wrap64; omega)
theorem subS_is (k : Cp) (v : Int) : subS k v = subK k v := by
  unfold subS subK
  rw [sub_is]
theorem cmp_is (k : Cp) (v : Int) : cmpS k v = cmpK k v := by
  have e : impl_Sub8.f k.A v true = some (wrap64 (k.A % 256 - v % 256) % 256, decide (k.A % 256 ≥ v % 256)) := by
    unfold impl_Sub8.f impl_Byte.f impl_flag.f
    simp only [Bool.not_true, Bool.false_eq_true, if_false, Option.bind_some, LFnExactExec.and255]
    rw [LFnExactExec.wrap_small (n := k.A % 256 - v % 256) (by omega) (by omega), LFnExactExec.wrap_small (n := k.A % 256 - v % 256 - 0) (by omega) (by omega)]
    simp only [Option.some.injEq, Prod.mk.injEq, decide_eq_decide]
    omega
  unfold cmpS cmpK
  rw [e]
  simp only [Option.getD_some, Int.emod_emod_of_dvd _ (Int.dvd_refl 256)]
theorem spull_is (ram : List Int) (k : Cp) : spullF ram k = ((pullF ram k).1, (pullF ram k).2 % 256) := by
  unfold spullF pullF
  split <;> simp
theorem sback_is (ram : List Int) (k : Cp) : sbackF ram k = backF ram k := by
  unfold sbackF backF
  simp only [spull_is, Int.emod_emod_of_dvd _ (Int.dvd_refl 256)]
theorem of_low (n : Int) : BitVec.ofInt 64 (n % 256) = BitVec.ofInt 64 n &&& BitVec.ofInt 64 255 := by
  apply BitVec.eq_of_toNat_eq
  rw [BitVec.toNat_and, BitVec.toNat_ofInt, BitVec.toNat_ofInt, show (BitVec.ofInt 64 255).toNat = 2 ^ 8 - 1 by decide, Nat.and_two_pow_sub_one_eq_mod]
  omega
theorem and_twice (n m : Int) (h : BitVec.ofInt 64 255 &&& BitVec.ofInt 64 m = BitVec.ofInt 64 m) : Go.bits .and .i64 (n % 256) m = Go.bits .and .i64 n m := by
  show IntKind.i64.wrap ((BitVec.ofInt 64 (n % 256) &&& BitVec.ofInt 64 m).toNat : Nat) = IntKind.i64.wrap ((BitVec.ofInt 64 n &&& BitVec.ofInt 64 m).toNat : Nat)
  rw [of_low, BitVec.and_assoc, h]
theorem flagK_mod (k : Cp) (v : Int) : flagK k (v % 256) = flagK k v := by
  unfold flagK
  rw [and_twice v 2 (by decide), and_twice v 128 (by decide), and_twice v 1 (by decide), and_twice v 4 (by decide)]
theorem setAK_mod (k : Cp) (v : Int) : setAK k (v % 256) = setAK k v := setAK_of k _ _ (by omega)
theorem and_is (k : Cp) (v : Int) : andS k v = setAK k (Go.bits .and .i64 k.A v) := setAK_of k _ _ (and_mod _ _).symm
theorem or_is (k : Cp) (v : Int) : orS k v = setAK k (Go.bits .or .i64 k.A v) := setAK_of k _ _ (or_mod _ _).symm
theorem xor_is (k : Cp) (v : Int) : xorS k v = setAK k (Go.bits .xor .i64 k.A v) := setAK_of k _ _ (xor_mod _ _).symm
theorem inc_is (k : Cp) : incS k = setXK k (wrap64 (k.X + 1)) := setXK_of k _ _ (by rw [wrap_mod, wrap_mod]; omega)
theorem dec_is (k : Cp) : decS k = setXK k (wrap64 (k.X - 1)) := setXK_of k _ _ (by rw [wrap_mod, wrap_mod]; omega)
theorem exec_is (ram : List Int) (k : Cp) (op arg v ln : Int) : execF ram k op arg v ln = sexecF ram k op arg v ln := by
  unfold execF sexecF
  generalize ({ k with P := wrap64 (k.P + ln) % 65536 } : Cp) = c
  by_cases h : 1 ≤ op ∧ op ≤ 29
  · rcases (show op = 1 ∨ op = 2 ∨ op = 3 ∨ op = 4 ∨ op = 5 ∨ op = 6 ∨ op = 7 ∨ op = 8 ∨ op = 9 ∨ op = 10 ∨ op = 11 ∨ op = 12 ∨ op = 13 ∨ op = 14 ∨ op = 15 ∨ op = 16 ∨ op = 17 ∨ op = 18 ∨ op = 19 ∨ op = 20 ∨ op = 21 ∨ op = 22 ∨ op = 23 ∨ op = 24 ∨ op = 25 ∨ op = 26 ∨ op = 27 ∨ op = 28 ∨ op = 29 by omega) with rfl | rfl | rfl | rfl | rfl | rfl | rfl | rfl | rfl | rfl | rfl | rfl | rfl | rfl | rfl | rfl | rfl | rfl | rfl | rfl | rfl | rfl | rfl | rfl | rfl | rfl | rfl | rfl | rfl
    all_goals simp only [reckonF, turnF, aluF, flowF, switchF, Int.reduceEq, if_true, if_false, Bool.false_eq_true, setAK_mod, addK_mod, subS_is, cmp_is, sback_is, spull_is, flagK_mod, and_is, or_is, xor_is, inc_is, dec_is]
  · have hne : ∀ j : Int, 1 ≤ j → j ≤ 29 → ¬ op = j := fun j h1 h2 e => h (by omega)
    have e1 : reckonF c op arg (v % 256) = (c, false) := by
      unfold reckonF
      simp only [hne 1 (by decide) (by decide), hne 2 (by decide) (by decide), hne 14 (by decide) (by decide), hne 4 (by decide) (by decide), hne 29 (by decide) (by decide), hne 5 (by decide) (by decide), hne 6 (by decide) (by decide), hne 7 (by decide) (by decide), hne 8 (by decide) (by decide), hne 9 (by decide) (by decide), if_false]
    have e2 : turnF c op = (c, false) := by
      unfold turnF
      simp only [hne 10 (by decide) (by decide), hne 11 (by decide) (by decide), hne 12 (by decide) (by decide), hne 13 (by decide) (by decide), hne 25 (by decide) (by decide), hne 26 (by decide) (by decide), hne 27 (by decide) (by decide), hne 28 (by decide) (by decide), if_false]
    have e3 : aluF c op arg v = (c, false) := by
      unfold aluF
      simp only [hne 1 (by decide) (by decide), hne 2 (by decide) (by decide), hne 14 (by decide) (by decide), hne 4 (by decide) (by decide), hne 29 (by decide) (by decide), hne 5 (by decide) (by decide), hne 6 (by decide) (by decide), hne 7 (by decide) (by decide), hne 8 (by decide) (by decide), hne 9 (by decide) (by decide), hne 10 (by decide) (by decide), hne 11 (by decide) (by decide), hne 12 (by decide) (by decide), hne 13 (by decide) (by decide), if_false]
    rw [e1, e2, e3]
    simp only [Bool.false_eq_true, if_false]
    unfold flowF switchF
    simp only [hne 16 (by decide) (by decide), hne 17 (by decide) (by decide), hne 18 (by decide) (by decide), hne 19 (by decide) (by decide), hne 20 (by decide) (by decide), hne 21 (by decide) (by decide), hne 22 (by decide) (by decide), hne 23 (by decide) (by decide), hne 24 (by decide) (by decide), hne 25 (by decide) (by decide), hne 26 (by decide) (by decide), hne 27 (by decide) (by decide), hne 28 (by decide) (by decide), if_false]
theorem sexec_len (ram : List Int) (k : Cp) (op arg v ln : Int) : (sexecF ram k op arg v ln).1.length = ram.length := by
  have hp : ∀ (r : List Int) (q : Cp) (x : Int), (pushF r q x).1.length = r.length := fun r q x => (pushF_keeps r q x).2
  unfold sexecF
  generalize ({ k with P := wrap64 (k.P + ln) % 65536 } : Cp) = c
  by_cases h : (aluF c op arg v).2 = true
  · rw [if_pos h]
  rw [if_neg h]
  unfold switchF
  by_cases h16 : op = 16
  · rw [if_pos h16]
  rw [if_neg h16]
  by_cases h17 : op = 17
  · rw [if_pos h17]
  rw [if_neg h17]
  by_cases h18 : op = 18
  · rw [if_pos h18]
  rw [if_neg h18]
  by_cases h19 : op = 19
  · rw [if_pos h19]
  rw [if_neg h19]
  by_cases h20 : op = 20
  · rw [if_pos h20]
    show (pushPcF _ _).1.length = _
    unfold pushPcF
    rw [hp, hp]
  rw [if_neg h20]
  by_cases h21 : op = 21
  · rw [if_pos h21]
  rw [if_neg h21]
  by_cases h22 : op = 22
  · rw [if_pos h22]
    exact hp _ _ _
  rw [if_neg h22]
  by_cases h23 : op = 23
  · rw [if_pos h23]
  rw [if_neg h23]
  by_cases h24 : op = 24
  · rw [if_pos h24]
  rw [if_neg h24]
  by_cases h25 : op = 25
  · rw [if_pos h25]
  rw [if_neg h25]
  by_cases h26 : op = 26
  · rw [if_pos h26]
  rw [if_neg h26]
  by_cases h27 : op = 27
  · rw [if_pos h27]
  rw [if_neg h27]
  by_cases h28 : op = 28
  · rw [if_pos h28]
  rw [if_neg h28]
theorem exec_both (l : List Int) (b : Int) (c : Cp) (op arg v : Int) (hl : l.length < 17592186044416) (k : Nat) (hk : 1 ≤ k) :
    ∃ r : List Int × Int × Int × Int × Int × Int × Bool × Bool × Bool × Bool, spec_Exec.f k l b c.A c.X c.S c.P c.Z c.N c.C c.I op arg v = some r ∧ impl_Exec.f k l b c.A c.X c.S c.P c.Z c.N c.C c.I op arg v = some r ∧ r.1.length = l.length := by
  unfold spec_Exec.f impl_Exec.f
  rw [if_pos hl, implCopy l b hl, implOpLen op k hk, specOpLen, Option.bind_some, Option.bind_some, Option.bind_some]
  refine ⟨_, rfl, ?_, sexec_len _ _ _ _ _ _⟩
  rw [exec_is]
theorem FnExactExec (l0_0 : List Int) (a0_1 : Int) (a1_0 : Int) (a1_1 : Int) (a1_2 : Int) (a1_3 : Int) (a1_4 : Bool) (a1_5 : Bool) (a1_6 : Bool) (a1_7 : Bool) (a2_0 : Int) (a2_1 : Int) (a3 : Int) (w0_0 : l0_0.length ≤ 9223372036854775807) (w0_1 : (Lit.int .i64 a0_1).wf = true) (w1_0 : (Lit.int .i64 a1_0).wf = true) (w1_1 : (Lit.int .i64 a1_1).wf = true) (w1_2 : (Lit.int .i64 a1_2).wf = true) (w1_3 : (Lit.int .i64 a1_3).wf = true) (w2_0 : (Lit.int .i64 a2_0).wf = true) (w2_1 : (Lit.int .i64 a2_1).wf = true) (w3 : (Lit.int .i64 a3).wf = true) : ∃ k, (laws_FnExactExec.f k l0_0 a0_1 a1_0 a1_1 a1_2 a1_3 a1_4 a1_5 a1_6 a1_7 a2_0 a2_1 a3) = some true := by
  obtain ⟨K, hK⟩ : ∃ K : Nat, 400000000 ≤ K := ⟨_, Nat.le_refl _⟩
  refine ⟨K, ?_⟩
  unfold laws_FnExactExec.f
  obtain ⟨q, e2, hq⟩ := szMem_ok l0_0 a0_1 w0_0 1048576 (by omega) (by omega)
  rw [e2, Option.bind_some]
  rcases hq with rfl | ⟨g0, g1, g2⟩
  · simp
  · rw [if_neg (by omega), toMem_ok l0_0 a0_1 (by omega) K (by omega)]
    unfold laws_toCpu.f laws_toInstr.f
    simp only [Option.bind_some]
    obtain ⟨⟨r1, r2, r3, r4, r5, r6, r7, r8, r9, r10⟩, e3, e4, hl⟩ := exec_both l0_0 a0_1 ⟨a1_0, a1_1, a1_2, a1_3, a1_4, a1_5, a1_6, a1_7⟩ a2_0 a2_1 a3 (by omega) K (by omega)
    have hl' : r1.length = l0_0.length := hl
    rw [e3, e4]
    simp only [Option.bind_some]
    rw [eqMem_self r1 r2 (by omega) K (by omega), eqCpu_self, eqMem_self l0_0 a0_1 (by omega) K (by omega), markMem_all l0_0 a0_1 1 (by omega) (by omega) (by omega) K (by omega), markMem_all r1 r2 1 (by omega) (by omega) (by omega) K (by omega)]
    simp only [Option.bind_some]
    rw [heldMem_all r1.length r2 1 (by omega) (by omega) (by omega) K (by omega)]
    simp only [Option.bind_some]
    rw [if_pos (by refine ⟨?_, ?_, ?_, ?_, ?_, ?_, ?_⟩ <;> first | trivial | rfl | omega)]

end Go.Proofs.Ytmiaocoffmobcaa.Pure
