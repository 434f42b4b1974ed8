/- The program's Push returns what the reference's returns, for every memory, processor and number, in memory of its own, and leaves its arguments as they were. No condition. -/
import Derived.Test.YtmiaocoffmobcaaMFnExactPushx0
import Derived.Test.YtmiaocoffmobcaaMFnExactPushx1
import Derived.Test.YtmiaocoffmobcaaMFnExactPushx2
import Derived.Test.YtmiaocoffmobcaaMFnExactPushx3
import Derived.Laws.Bits128
namespace Go.Proofs.Ytmiaocoffmobcaa.Pure
open Go.RowKit Go.Proofs.Ytmiaocoffmobcaa.MFnExactPush Go.Proofs.YtmiaocoffmobcaaW.PrintWords Go.Proofs.YtmiaocoffmobcaaW.PrintLast Go.Proofs.YtmiaocoffmobcaaW.PrintMore
set_option linter.unusedVariables false
set_option linter.unusedSimpArgs false
namespace LFnExactPush
theorem and_low (n : Int) (j : Nat) (m : Int) (hj : j < 64) (hm : (BitVec.ofInt 64 m).toNat = 2 ^ j - 1) : Go.bits .and .i64 n m = n % (2 ^ j : Nat) := by
  have key : (BitVec.ofInt 64 n &&& BitVec.ofInt 64 m).toNat = (n % ((2 ^ 64 : Nat) : Int)).toNat % 2 ^ j := by
    rw [BitVec.toNat_and, BitVec.toNat_ofInt, hm, Nat.and_two_pow_sub_one_eq_mod]
  show IntKind.i64.wrap ((BitVec.ofInt 64 n &&& BitVec.ofInt 64 m).toNat : Nat) = n % (2 ^ j : Nat)
  have hd : ((2 ^ j : Nat) : Int) ∣ ((2 ^ 64 : Nat) : Int) := by
    exact_mod_cast Nat.pow_dvd_pow 2 (Nat.le_of_lt hj)
  have hp : (0 : Int) < ((2 ^ j : Nat) : Int) := by exact_mod_cast Nat.two_pow_pos j
  have hle : ((2 ^ j : Nat) : Int) ≤ ((2 ^ 63 : Nat) : Int) := by
    exact_mod_cast Nat.pow_le_pow_right (by decide) (by omega)
  have e : (((n % ((2 ^ 64 : Nat) : Int)).toNat % 2 ^ j : Nat) : Int) = n % ((2 ^ j : Nat) : Int) := by
    rw [Int.natCast_emod, Int.toNat_of_nonneg (Int.emod_nonneg _ (by decide)), Int.emod_emod_of_dvd _ hd]
  rw [key, e, IntKind.wrap_i64]
  have h0 := Int.emod_nonneg n (Int.ne_of_gt hp)
  have h1 := Int.emod_lt_of_pos n hp
  generalize n % ((2 ^ j : Nat) : Int) = x at *
  generalize ((2 ^ j : Nat) : Int) = y at *
  have : ((2 ^ 63 : Nat) : Int) = 9223372036854775808 := by decide
  omega
theorem and255 (n : Int) : Go.bits .and .i64 n 255 = n % 256 := and_low n 8 255 (by decide) (by decide)
theorem and65535 (n : Int) : Go.bits .and .i64 n 65535 = n % 65536 := and_low n 16 65535 (by decide) (by decide)
theorem wrap_small {n : Int} (h0 : -9223372036854775808 ≤ n) (h1 : n ≤ 9223372036854775807) : wrap64 n = n := by
  unfold wrap64; omega
theorem wrap_nat {i : Nat} (h : i ≤ 4611686018427387904) : wrap64 ((i : Int) + 1) = ((i + 1 : Nat) : Int) := by
  unfold wrap64; omega
theorem rd_nat (l : List Int) (i : Nat) (h : i < l.length) : rd l (i : Int) = l[i] := by
  unfold rd; simp [List.getD, h]

theorem szIntS_ok (l : List Int) (hl : l.length ≤ 9223372036854775807) (a : Int) (h0 : 0 ≤ a) (h1 : a ≤ 1048576) :
    ∃ r : Int, laws_szIntS.f l a = some r ∧ (r = -1 ∨ (0 ≤ r ∧ r ≤ a ∧ (l.length : Int) ≤ a)) := by
  unfold laws_szIntS.f
  rw [wrap_small (by omega) (by omega)]
  by_cases h : a - (l.length : Int) < 0
  · rw [if_pos h]; exact ⟨-1, rfl, .inl rfl⟩
  · rw [if_neg h]; exact ⟨_, rfl, .inr ⟨by omega, by omega, by omega⟩⟩

theorem szMem_ok (l : List Int) (b : Int) (hl : l.length ≤ 9223372036854775807) (a : Int) (h0 : 0 ≤ a) (h1 : a ≤ 1048576) :
    ∃ r : Int, laws_szMem.f l b a = some r ∧ (r = -1 ∨ (0 ≤ r ∧ r ≤ a ∧ (l.length : Int) ≤ a)) := by
  obtain ⟨r, h, hr⟩ := szIntS_ok l hl a h0 h1
  unfold laws_szMem.f
  rw [h, Option.bind_some]
  rcases hr with rfl | hr
  · exact ⟨-1, by simp, .inl rfl⟩
  · rw [if_neg (by omega)]; exact ⟨r, rfl, .inr hr⟩

theorem toIntS_l0 (l : List Int) (hl : l.length ≤ 35184372088832) : ∀ (k i : Nat), i ≤ l.length → l.length - i < k →
    laws_toIntS.l0 k l (l.take i ++ List.replicate (l.length - i) 0) (i : Int) = some l := by
  intro k
  induction k with
  | zero => intro i _ h; omega
  | succ k ih =>
    intro i hi h
    have hlen : (l.take i ++ List.replicate (l.length - i) (0 : Int)).length = l.length := by simp; omega
    simp only [laws_toIntS.l0]
    by_cases hlt : i < l.length
    · rw [if_pos (by omega), if_pos (by omega), if_pos (by omega), wrap_nat (by omega)]
      have e1 : (l.take i ++ List.replicate (l.length - i) 0).set ((i : Int)).toNat (rd l (i : Int)) = l.take (i + 1) ++ List.replicate (l.length - (i + 1)) 0 := by
        rw [Int.toNat_natCast, List.set_append, if_neg (by rw [List.length_take]; omega), List.length_take, Nat.min_eq_left (by omega), Nat.sub_self, show l.length - i = (l.length - (i + 1)) + 1 by omega, List.replicate_succ, List.set_cons_zero, rd_nat l i hlt, List.take_succ_eq_append_getElem hlt, List.append_assoc, List.singleton_append]
      rw [e1]
      exact ih (i + 1) (by omega) (by omega)
    · have : i = l.length := by omega
      subst this
      rw [if_neg (by omega)]
      simp
theorem toIntS_ok (l : List Int) (hl : l.length ≤ 35184372088832) (k : Nat) (hk : l.length < k) : laws_toIntS.f k l = some l := by
  unfold laws_toIntS.f
  rw [if_pos (by omega), Int.toNat_natCast, if_pos hl]
  have h := toIntS_l0 l hl k 0 (by omega) (by omega)
  simpa using h

theorem toMem_ok (l : List Int) (b : Int) (hl : l.length ≤ 35184372088832) (k : Nat) (hk : l.length < k) : laws_toMem.f k l b = some (l, b) := by
  unfold laws_toMem.f
  rw [toIntS_ok l hl k hk]
  rfl

theorem eqIntS_l0 (l : List Int) (hl : l.length ≤ 140737488351232) : ∀ (k i : Nat), i ≤ l.length → l.length - i < k → laws_eqIntS.l0 k l l (i : Int) = some true := by
  intro k
  induction k with
  | zero => intro i _ h; omega
  | succ k ih =>
    intro i hi h
    simp only [laws_eqIntS.l0]
    by_cases hlt : i < l.length
    · have c1 : (i : Int) < (l.length : Int) := by omega
      have c0 : (0 : Int) ≤ (i : Int) := by omega
      simp only [c0, c1, if_true]
      rw [wrap_nat (by omega)]
      exact ih (i + 1) (by omega) (by omega)
    · rw [if_neg (by omega)]
theorem eqIntS_self (l : List Int) (hl : l.length ≤ 140737488351232) (k : Nat) (hk : l.length < k) : laws_eqIntS.f k l l = some true := by
  unfold laws_eqIntS.f
  rw [if_pos rfl]
  exact eqIntS_l0 l hl k 0 (by omega) (by omega)

theorem eqMem_self (l : List Int) (b : Int) (hl : l.length ≤ 140737488351232) (k : Nat) (hk : l.length < k) : laws_eqMem.f k l b l b = some true := by
  unfold laws_eqMem.f
  rw [eqIntS_self l hl k hk]
  simp

theorem eqCpu_self (a x s p : Int) (z n c i : Bool) : laws_eqCpu.f a x s p z n c i a x s p z n c i = some true := by
  unfold laws_eqCpu.f
  simp

def seqFrom (a : Int) (n : Nat) : List Int := (List.range n).map fun (j : Nat) => a + (j : Int)
theorem seqFrom_length (a : Int) (n : Nat) : (seqFrom a n).length = n := by simp [seqFrom]
theorem seqFrom_rd (a : Int) (n i : Nat) (h : i < n) : rd (seqFrom a n) (i : Int) = a + i := by
  rw [rd_nat _ _ (by simpa [seqFrom] using h)]
  simp [seqFrom]
theorem seqFrom_succ (a : Int) (n : Nat) : seqFrom a (n + 1) = seqFrom a n ++ [a + (n : Int)] := by
  simp [seqFrom, List.range_succ]

theorem markIntS_l0 (l : List Int) (a : Int) (hl : l.length ≤ 140737488351232) (ha : 0 ≤ a) (ha1 : a ≤ 140737488351232) : ∀ (k i : Nat), i ≤ l.length → l.length - i < k →
    laws_markIntS.l0 k (seqFrom a i ++ l.drop i) (a + i) (i : Int) = some (a + l.length, seqFrom a l.length) := by
  intro k
  induction k with
  | zero => intro i _ h; omega
  | succ k ih =>
    intro i hi h
    have hlen : (seqFrom a i ++ l.drop i).length = l.length := by simp [seqFrom_length]; omega
    simp only [laws_markIntS.l0]
    by_cases hlt : i < l.length
    · rw [if_pos (by omega), if_pos (by omega), wrap_nat (by omega)]
      have e1 : (seqFrom a i ++ l.drop i).set ((i : Int)).toNat (a + i) = seqFrom a (i + 1) ++ l.drop (i + 1) := by
        rw [Int.toNat_natCast, List.set_append, if_neg (by rw [seqFrom_length]; omega), seqFrom_length, Nat.sub_self, List.drop_eq_getElem_cons hlt, List.set_cons_zero, seqFrom_succ]
        simp
      have e2 : wrap64 (a + (i : Int) + 1) = a + ((i + 1 : Nat) : Int) := by unfold wrap64; omega
      rw [e1, e2]
      exact ih (i + 1) (by omega) (by omega)
    · have : i = l.length := by omega
      subst this
      rw [if_neg (by omega)]
      simp
theorem markIntS_all (l : List Int) (a : Int) (hl : l.length ≤ 140737488351232) (ha : 0 ≤ a) (ha1 : a ≤ 140737488351232) (k : Nat) (hk : l.length < k) :
    laws_markIntS.f k l a = some (a + l.length, seqFrom a l.length) := by
  have h := markIntS_l0 l a hl ha ha1 k 0 (by omega) (by omega)
  simpa [seqFrom, laws_markIntS.f] using h
theorem heldIntS_l0 (n : Nat) (a : Int) (hl : n ≤ 140737488351232) (ha : 0 ≤ a) (ha1 : a ≤ 140737488351232) : ∀ (k i : Nat), i ≤ n → n - i < k →
    laws_heldIntS.l0 k (seqFrom a n) (a + i) (i : Int) = some (a + n) := by
  intro k
  induction k with
  | zero => intro i _ h; omega
  | succ k ih =>
    intro i hi h
    have hlen := seqFrom_length a n
    simp only [laws_heldIntS.l0]
    by_cases hlt : i < n
    · have e2 : wrap64 (a + (i : Int) + 1) = a + ((i + 1 : Nat) : Int) := by unfold wrap64; omega
      rw [if_pos (by omega), if_pos (by omega), if_pos (seqFrom_rd a n i hlt), wrap_nat (by omega), e2]
      exact ih (i + 1) (by omega) (by omega)
    · have : i = n := by omega
      subst this
      rw [if_neg (by omega)]
theorem heldIntS_all (n : Nat) (a : Int) (hl : n ≤ 140737488351232) (ha : 0 ≤ a) (ha1 : a ≤ 140737488351232) (k : Nat) (hk : n < k) :
    laws_heldIntS.f k (seqFrom a n) a = some (a + n) := by
  have h := heldIntS_l0 n a hl ha ha1 k 0 (by omega) (by omega)
  simpa [laws_heldIntS.f] using h

theorem markMem_all (l : List Int) (b a : Int) (hl : l.length ≤ 140737488351232) (ha : 0 ≤ a) (ha1 : a ≤ 140737488351232) (k : Nat) (hk : l.length < k) :
    laws_markMem.f k l b a = some (a + l.length, seqFrom a l.length) := by
  unfold laws_markMem.f
  rw [markIntS_all l a hl ha ha1 k hk]
  rfl
theorem heldMem_all (n : Nat) (b a : Int) (hl : n ≤ 140737488351232) (ha : 0 ≤ a) (ha1 : a ≤ 140737488351232) (k : Nat) (hk : n < k) :
    laws_heldMem.f k (seqFrom a n) b a = some (a + n) := by
  unfold laws_heldMem.f
  rw [heldIntS_all n a hl ha ha1 k hk]
  simp only [Option.bind_some]
  rw [if_neg (by omega)]

theorem byteF (n : Int) : spec_Byte.f n = some (n % 256) := by
  unfold spec_Byte.f
  rw [and255]
theorem push_both (l : List Int) (b a x s p : Int) (z n c i : Bool) (v : Int) (hl : l.length < 17592186044416) :
    ∃ r : List Int × Int × Int × Int × Int × Int × Bool × Bool × Bool × Bool, spec_Push.f l b a x s p z n c i v = some r ∧ impl_Push.f l b a x s p z n c i v = some r ∧ r.1.length = l.length := by
  have h0 : (([] : List Int).length + l.length < 17592186044416) := by simpa using hl
  have h1 : spec_l6Copy.f l b = some (l, b) := by
    unfold spec_l6Copy.f
    simp only [Option.bind_some]
    rw [if_pos h0, List.nil_append]
  have h2 : impl_copyMem.f l b = some (l, b) := by
    unfold impl_copyMem.f impl_copyInts.f
    simp only [Option.bind_some]
    rw [if_pos h0, List.nil_append]
    rfl
  unfold spec_Push.f impl_Push.f
  rw [h1, h2]
  simp only [Option.bind_some, byteF]
  by_cases h5 : l.length = 512
  · have hs0 : 0 ≤ s % 256 := Int.emod_nonneg _ (by decide)
    have hs1 : s % 256 < 256 := Int.emod_lt_of_pos _ (by decide)
    have e1 : ((l.length : Int) = 512) := by omega
    rw [if_pos e1, wrap_small (n := 256 + s % 256) (by omega) (by omega), if_pos (by omega), if_pos (by omega)]
    unfold pushF
    rw [if_pos h5]
    exact ⟨_, rfl, rfl, by simp⟩
  · have e1 : ¬ ((l.length : Int) = 512) := by omega
    rw [if_neg e1]
    unfold pushF
    rw [if_neg h5]
    exact ⟨_, rfl, rfl, rfl⟩
end LFnExactPush
open LFnExactPush

theorem FnExactPush (l0_0 : List Int) (a0_1 : Int) (a1_0 : Int) (a1_1 : Int) (a1_2 : Int) (a1_3 : Int) (a1_4 : Bool) (a1_5 : Bool) (a1_6 : Bool) (a1_7 : Bool) (a2 : Int) (w0_0 : l0_0.length ≤ 9223372036854775807) (w0_1 : (Lit.int .i64 a0_1).wf = true) (w1_0 : (Lit.int .i64 a1_0).wf = true) (w1_1 : (Lit.int .i64 a1_1).wf = true) (w1_2 : (Lit.int .i64 a1_2).wf = true) (w1_3 : (Lit.int .i64 a1_3).wf = true) (w2 : (Lit.int .i64 a2).wf = true) : ∃ k, (laws_FnExactPush.f k l0_0 a0_1 a1_0 a1_1 a1_2 a1_3 a1_4 a1_5 a1_6 a1_7 a2) = some true := by
  obtain ⟨K, hK⟩ : ∃ K : Nat, 400000000 ≤ K := ⟨_, Nat.le_refl _⟩
  refine ⟨K, ?_⟩
  unfold laws_FnExactPush.f
  obtain ⟨t, e, ht⟩ := szMem_ok l0_0 a0_1 w0_0 1048576 (by omega) (by omega)
  rw [e, Option.bind_some]
  rcases ht with rfl | ⟨h0, h1, h2⟩
  · simp
  · rw [if_neg (by omega), toMem_ok l0_0 a0_1 (by omega) K (by omega)]
    unfold laws_toCpu.f
    simp only [Option.bind_some]
    obtain ⟨⟨r1, r2, r3, r4, r5, r6, r7, r8, r9, r10⟩, e1, e2, hr⟩ := push_both l0_0 a0_1 a1_0 a1_1 a1_2 a1_3 a1_4 a1_5 a1_6 a1_7 a2 (by omega)
    have hr' : r1.length = l0_0.length := hr
    rw [e1, e2]
    simp only [Option.bind_some]
    rw [eqMem_self r1 r2 (by omega) K (by omega), eqCpu_self, eqMem_self l0_0 a0_1 (by omega) K (by omega), markMem_all l0_0 a0_1 1 (by omega) (by omega) (by omega) K (by omega), markMem_all r1 r2 1 (by omega) (by omega) (by omega) K (by omega)]
    simp only [Option.bind_some]
    rw [heldMem_all r1.length r2 1 (by omega) (by omega) (by omega) K (by omega)]
    simp only [Option.bind_some]
    rw [if_pos (by refine ⟨?_, ?_, ?_, ?_, ?_, ?_, ?_⟩ <;> first | trivial | rfl | omega)]

end Go.Proofs.Ytmiaocoffmobcaa.Pure
