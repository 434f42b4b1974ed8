/- What is added to a drawn byte is taken away again, with the carry, and joined bytes are bytes again, whatever the draw. No condition. -/
import Derived.Test.YtcdfkemhigmnlaaMFnBytesx0
import Derived.Test.YtcdfkemhigmnlaaMFnBytesx1
import Derived.Laws.Bits128
namespace Go.Proofs.Ytcdfkemhigmnlaa.Pure
open Go.RowKit Go.Proofs.Ytcdfkemhigmnlaa.MFnBytes Go.Proofs.YtcdfkemhigmnlaaW.PrintWords Go.Proofs.YtcdfkemhigmnlaaW.PrintLast Go.Proofs.YtcdfkemhigmnlaaW.PrintMore
set_option linter.unusedVariables false
set_option linter.unusedSimpArgs false
namespace LFnBytes
theorem and_low (n : Int) (j : Nat) (m : Int) (hj : j < 64) (hm : (BitVec.ofInt 64 m).toNat = 2 ^ j - 1) : Go.bits .and .i64 n m = n % (2 ^ j : Nat) := by
  have key : (BitVec.ofInt 64 n &&& BitVec.ofInt 64 m).toNat = (n % ((2 ^ 64 : Nat) : Int)).toNat % 2 ^ j := by
    rw [BitVec.toNat_and, BitVec.toNat_ofInt, hm, Nat.and_two_pow_sub_one_eq_mod]
  show IntKind.i64.wrap ((BitVec.ofInt 64 n &&& BitVec.ofInt 64 m).toNat : Nat) = n % (2 ^ j : Nat)
  have hd : ((2 ^ j : Nat) : Int) ∣ ((2 ^ 64 : Nat) : Int) := by
    exact_mod_cast Nat.pow_dvd_pow 2 (Nat.le_of_lt hj)
  have hp : (0 : Int) < ((2 ^ j : Nat) : Int) := by exact_mod_cast Nat.two_pow_pos j
  have hle : ((2 ^ j : Nat) : Int) ≤ ((2 ^ 63 : Nat) : Int) := by
    exact_mod_cast Nat.pow_le_pow_right (by decide) (by omega)
  have e : (((n % ((2 ^ 64 : Nat) : Int)).toNat % 2 ^ j : Nat) : Int) = n % ((2 ^ j : Nat) : Int) := by
    rw [Int.natCast_emod, Int.toNat_of_nonneg (Int.emod_nonneg _ (by decide)), Int.emod_emod_of_dvd _ hd]
  rw [key, e, IntKind.wrap_i64]
  have h0 := Int.emod_nonneg n (Int.ne_of_gt hp)
  have h1 := Int.emod_lt_of_pos n hp
  generalize n % ((2 ^ j : Nat) : Int) = x at *
  generalize ((2 ^ j : Nat) : Int) = y at *
  have : ((2 ^ 63 : Nat) : Int) = 9223372036854775808 := by decide
  omega
theorem and255 (n : Int) : Go.bits .and .i64 n 255 = n % 256 := and_low n 8 255 (by decide) (by decide)
theorem and65535 (n : Int) : Go.bits .and .i64 n 65535 = n % 65536 := and_low n 16 65535 (by decide) (by decide)
theorem wrap_small {n : Int} (h0 : -9223372036854775808 ≤ n) (h1 : n ≤ 9223372036854775807) : wrap64 n = n := by
  unfold wrap64; omega
theorem wrap_nat {i : Nat} (h : i ≤ 4611686018427387904) : wrap64 ((i : Int) + 1) = ((i + 1 : Nat) : Int) := by
  unfold wrap64; omega
theorem rd_nat (l : List Int) (i : Nat) (h : i < l.length) : rd l (i : Int) = l[i] := by
  unfold rd; simp [List.getD, h]

theorem and_range (n : Int) : 0 ≤ Go.bits .and .i64 n 255 ∧ Go.bits .and .i64 n 255 ≤ 255 := by
  rw [and255]; omega
theorem l1New_l0 (l : List Int) (hl : l.length ≤ 140737488351232) : ∀ (k : Nat) (h : Int) (i : Nat), i ≤ l.length → l.length - i < k → ∃ h', spec_l1New.l0 k l h (i : Int) = some (l, 0, h') := by
  intro k
  induction k with
  | zero => intro h i _ hk; omega
  | succ k ih =>
    intro h i hi hk
    simp only [spec_l1New.l0]
    by_cases hlt : i < l.length
    · rw [if_pos (by omega)]
      by_cases h4 : (i : Int) < 4000
      · rw [if_pos h4, if_pos (by omega), wrap_nat (by omega)]
        exact ih _ (i + 1) (by omega) (by omega)
      · rw [if_neg h4]; exact ⟨_, rfl⟩
    · rw [if_neg (by omega)]; exact ⟨_, rfl⟩
theorem l1New_ok (l : List Int) (hl : l.length ≤ 140737488351232) (k : Nat) (hk : l.length < k) : ∃ h', spec_l1New.f k l = some (l, 0, h') := by
  unfold spec_l1New.f
  have := l1New_l0 l hl k (wrap64 (18554 + (l.length : Int))) 0 (by omega) (by omega)
  rwa [show ((0 : Nat) : Int) = 0 from rfl] at this
theorem l1Byte_ok (l : List Int) (hl : l.length ≤ 140737488351232) (i h : Int) (h0 : 0 ≤ i) (h1 : i ≤ l.length) : ∃ r i' h' : Int, spec_l1Byte.f l i h = some (r, i', h') ∧ 0 ≤ r ∧ r ≤ 255 ∧ 0 ≤ i' ∧ i' ≤ l.length := by
  unfold spec_l1Byte.f
  by_cases hlt : i < (l.length : Int)
  · rw [if_pos hlt, if_pos h0]
    refine ⟨_, _, _, rfl, (and_range _).1, (and_range _).2, ?_, ?_⟩ <;> rw [wrap_small (by omega) (by omega)] <;> omega
  · rw [if_neg hlt]
    exact ⟨_, _, _, rfl, (and_range _).1, (and_range _).2, h0, h1⟩
theorem l1Below_ok (l : List Int) (hl : l.length ≤ 140737488351232) (i h : Int) (h0 : 0 ≤ i) (h1 : i ≤ l.length) (n : Int) : ∃ r i' h' : Int, spec_l1Below.f l i h n = some (r, i', h') ∧ 0 ≤ r ∧ (0 < n → r < n) ∧ (n ≤ 0 → r = 0) ∧ 0 ≤ i' ∧ i' ≤ l.length := by
  unfold spec_l1Below.f
  by_cases hn : n ≤ 0
  · rw [if_pos hn]; exact ⟨0, i, h, rfl, by omega, by omega, fun _ => rfl, h0, h1⟩
  · rw [if_neg hn]
    obtain ⟨x, i1, g1, e1, x0, x1, p0, p1⟩ := l1Byte_ok l hl i h h0 h1
    rw [e1]
    simp only [Option.bind_some]
    by_cases hs : n ≤ 256
    · rw [if_pos hs, if_neg (by omega), Int.tmod_eq_emod_of_nonneg x0]
      exact ⟨_, _, _, rfl, Int.emod_nonneg _ (by omega), fun h => Int.emod_lt_of_pos _ h, by omega, p0, p1⟩
    · rw [if_neg hs]
      obtain ⟨y, i2, g2, e2, y0, y1, q0, q1⟩ := l1Byte_ok l hl i1 g1 p0 p1
      rw [e2]
      simp only [Option.bind_some]
      obtain ⟨z, i3, g3, e3, z0, z1, s0, s1⟩ := l1Byte_ok l hl i2 g2 q0 q1
      rw [e3]
      simp only [Option.bind_some]
      obtain ⟨u, i4, g4, e4, u0, u1, t0, t1⟩ := l1Byte_ok l hl i3 g3 s0 s1
      rw [e4]
      simp only [Option.bind_some]
      have e : wrap64 (wrap64 (wrap64 (wrap64 (x * 16777216) + wrap64 (y * 65536)) + wrap64 (z * 256)) + u) = x * 16777216 + y * 65536 + z * 256 + u := by
        rw [wrap_small (n := x * 16777216) (by omega) (by omega), wrap_small (n := y * 65536) (by omega) (by omega), wrap_small (n := z * 256) (by omega) (by omega), wrap_small (n := x * 16777216 + y * 65536) (by omega) (by omega), wrap_small (n := x * 16777216 + y * 65536 + z * 256) (by omega) (by omega), wrap_small (by omega) (by omega)]
      rw [e, if_neg (by omega), Int.tmod_eq_emod_of_nonneg (by omega)]
      exact ⟨_, _, _, rfl, Int.emod_nonneg _ (by omega), fun h => Int.emod_lt_of_pos _ h, by omega, t0, t1⟩
theorem l1Once_ok (l : List Int) (hl : l.length ≤ 140737488351232) (i h : Int) (h0 : 0 ≤ i) (h1 : i ≤ l.length) (n : Int) : ∃ (r : Bool) (i' h' : Int), spec_l1Once.f l i h n = some (r, i', h') ∧ 0 ≤ i' ∧ i' ≤ l.length := by
  obtain ⟨r, i', h', e, _, _, _, p0, p1⟩ := l1Below_ok l hl i h h0 h1 n
  unfold spec_l1Once.f
  rw [e]
  exact ⟨_, _, _, rfl, p0, p1⟩
theorem l1PickInt_ok (l : List Int) (hl : l.length ≤ 140737488351232) (i h : Int) (h0 : 0 ≤ i) (h1 : i ≤ l.length) (q : List Int) (hq : 0 < q.length) : ∃ (r i' h' : Int), spec_l1PickInt.f l i h q = some (r, i', h') ∧ r ∈ q ∧ 0 ≤ i' ∧ i' ≤ l.length := by
  obtain ⟨r, i', h', e, r0, r1, _, p0, p1⟩ := l1Below_ok l hl i h h0 h1 (q.length : Int)
  unfold spec_l1PickInt.f
  rw [e]
  simp only [Option.bind_some]
  have r2 := r1 (by omega)
  rw [if_pos r0, if_pos r2]
  obtain ⟨j, rfl⟩ := Int.eq_ofNat_of_zero_le r0
  exact ⟨_, _, _, rfl, by rw [rd_nat q j (by omega)]; exact List.getElem_mem _, p0, p1⟩

theorem l1DrawInt_ok (l : List Int) (hl : l.length ≤ 140737488351232) (i h : Int) (h0 : 0 ≤ i) (h1 : i ≤ l.length) : ∃ r i' h' : Int, spec_l1DrawInt.f l i h = some (r, i', h') ∧ 0 ≤ i' ∧ i' ≤ l.length := by
  unfold spec_l1DrawInt.f
  obtain ⟨b, i1, g1, e1, p0, p1⟩ := l1Once_ok l hl i h h0 h1 9
  rw [e1]
  simp only [Option.bind_some]
  by_cases hb : b = true
  · rw [if_pos hb]
    obtain ⟨r, i2, g2, e2, _, q0, q1⟩ := l1PickInt_ok l hl i1 g1 p0 p1 [(-1), 256, 65535, 65536, 9223372036854775807, (-9223372036854775808), 511] (by decide)
    rw [e2]
    exact ⟨_, _, _, rfl, q0, q1⟩
  · rw [if_neg hb]
    obtain ⟨r, i2, g2, e2, _, _, _, q0, q1⟩ := l1Below_ok l hl i1 g1 p0 p1 256
    rw [e2]
    exact ⟨_, _, _, rfl, q0, q1⟩

theorem drawAdd8_ok (l : List Int) (hl : l.length ≤ 140737488351232) (k : Nat) (hk : l.length < k) : ∃ a b c, spec_DrawAdd8.f k l = some (a, b, c) := by
  unfold spec_DrawAdd8.f
  obtain ⟨h, e⟩ := l1New_ok l hl k hk
  rw [e]; simp only [Option.bind_some]
  obtain ⟨r, i1, g1, e1, p0, p1⟩ := l1DrawInt_ok l hl 0 h (by omega) (by omega)
  rw [e1]; simp only [Option.bind_some]
  obtain ⟨s, i2, g2, e2, q0, q1⟩ := l1DrawInt_ok l hl i1 g1 p0 p1
  rw [e2]; simp only [Option.bind_some]
  obtain ⟨t, i3, g3, e3, _, _⟩ := l1Once_ok l hl i2 g2 q0 q1 2
  rw [e3]
  exact ⟨_, _, _, rfl⟩
theorem drawJoin_ok (l : List Int) (hl : l.length ≤ 140737488351232) (k : Nat) (hk : l.length < k) : ∃ a b, spec_DrawJoin.f k l = some (a, b) := by
  unfold spec_DrawJoin.f
  obtain ⟨h, e⟩ := l1New_ok l hl k hk
  rw [e]; simp only [Option.bind_some]
  obtain ⟨r, i1, g1, e1, p0, p1⟩ := l1DrawInt_ok l hl 0 h (by omega) (by omega)
  rw [e1]; simp only [Option.bind_some]
  obtain ⟨s, i2, g2, e2, q0, q1⟩ := l1DrawInt_ok l hl i1 g1 p0 p1
  rw [e2]
  exact ⟨_, _, rfl⟩
theorem drawSigns_ok (l : List Int) (hl : l.length ≤ 140737488351232) (k : Nat) (hk : l.length < k) : ∃ a, spec_DrawSigns.f k l = some a := by
  unfold spec_DrawSigns.f
  obtain ⟨h, e⟩ := l1New_ok l hl k hk
  rw [e]; simp only [Option.bind_some]
  obtain ⟨r, i1, g1, e1, p0, p1⟩ := l1DrawInt_ok l hl 0 h (by omega) (by omega)
  rw [e1]
  exact ⟨_, rfl⟩

def bI (b : Bool) : Int := if b = true then 1 else 0
theorem implFlag (b : Bool) : impl_flag.f b = some (bI b) := by unfold impl_flag.f bI; cases b <;> rfl
theorem bI_range (b : Bool) : 0 ≤ bI b ∧ bI b ≤ 1 := by cases b <;> decide
theorem implAdd8 (a b : Int) (c : Bool) : impl_Add8.f a b c = some ((a % 256 + b % 256 + bI c) % 256, decide (a % 256 + b % 256 + bI c > 255)) := by
  unfold impl_Add8.f impl_Byte.f
  have := bI_range c
  simp only [Option.bind_some, implFlag, and255]
  rw [wrap_small (n := a % 256 + b % 256) (by omega) (by omega), wrap_small (n := a % 256 + b % 256 + bI c) (by omega) (by omega)]
theorem specAdd8 (a b : Int) (c : Bool) : spec_Add8.f a b c = some ((a % 256 + b % 256 + bI c) % 256, decide (a % 256 + b % 256 + bI c > 255)) := implAdd8 a b c
theorem implSub8 (a b : Int) (c : Bool) : impl_Sub8.f a b c = some ((a % 256 - b % 256 - bI (!c)) % 256, decide (a % 256 - b % 256 - bI (!c) ≥ 0)) := by
  unfold impl_Sub8.f impl_Byte.f
  have := bI_range (!c)
  simp only [Option.bind_some, implFlag, and255]
  rw [wrap_small (n := a % 256 - b % 256) (by omega) (by omega), wrap_small (n := a % 256 - b % 256 - bI (!c)) (by omega) (by omega)]
theorem specL1Bit (b : Bool) : spec_l1Bit.f b = some (bI b) := by unfold spec_l1Bit.f bI; cases b <;> rfl
theorem specSub8 (a b : Int) (c : Bool) : spec_Sub8.f a b c = some ((a % 256 - b % 256 - bI (!c)) % 256, decide (a % 256 - b % 256 - bI (!c) ≥ 0)) := by
  unfold spec_Sub8.f spec_Byte.f
  have h := bI_range c
  have e : bI (!c) = 1 - bI c := by cases c <;> rfl
  simp only [Option.bind_some, specL1Bit, and255]
  rw [wrap_small (n := a % 256 - b % 256) (by omega) (by omega), wrap_small (n := a % 256 - b % 256 - 1) (by omega) (by omega), wrap_small (n := a % 256 - b % 256 - 1 + bI c) (by omega) (by omega), e, show a % 256 - b % 256 - 1 + bI c = a % 256 - b % 256 - (1 - bI c) by omega]

theorem implJoin (a b : Int) : impl_Join.f a b = some (a % 256 + 256 * (b % 256)) := by
  unfold impl_Join.f impl_Byte.f
  simp only [Option.bind_some, and255]
  rw [wrap_small (n := 256 * (b % 256)) (by omega) (by omega), wrap_small (by omega) (by omega)]
end LFnBytes
open LFnBytes

theorem FnBytes (l0 : List Int) (w0 : l0.length ≤ 9223372036854775807) (z0 : ∀ x ∈ l0, (Lit.int .u8 x).wf = true) : ∃ k, (laws_FnBytes.f k l0) = some true := by
  obtain ⟨K, hK⟩ : ∃ K : Nat, 2000000 ≤ K := ⟨_, Nat.le_refl _⟩
  refine ⟨K + 1, ?_⟩
  unfold laws_FnBytes.f laws_big.f
  simp only [Option.bind_some]
  by_cases hb : (l0.length : Int) > 1048576
  · rw [if_pos (by simpa using hb)]
  · rw [if_neg (by simpa using hb)]
    obtain ⟨a, b, c, e⟩ := drawAdd8_ok l0 (by omega) (K + 1) (by omega)
    obtain ⟨a2, b2, c2, e2⟩ := drawAdd8_ok l0 (by omega) K (by omega)
    obtain ⟨lo, hi, e3⟩ := drawJoin_ok l0 (by omega) K (by omega)
    obtain ⟨n, e4⟩ := drawSigns_ok l0 (by omega) K (by omega)
    rw [e]; simp only [Option.bind_some, implAdd8, specAdd8, implSub8, bne_self_eq_false, Bool.false_eq_true, if_false]
    have hc := bI_range c
    have hnn : bI (!!c) = bI c := by rw [Bool.not_not]
    have k1 : ((a % 256 + b % 256 + bI c) % 256 % 256 - b % 256 - bI (!!c)) % 256 = a % 256 := by rw [hnn]; omega
    have k2 : (decide ((a % 256 + b % 256 + bI c) % 256 % 256 - b % 256 - bI (!!c) ≥ 0) == decide (a % 256 + b % 256 + bI c > 255)) = false := by
      rw [hnn, beq_eq_false_iff_ne, ne_eq, decide_eq_decide]
      omega
    unfold impl_Byte.f
    simp only [Option.bind_some, and255]
    rw [if_pos k1, k2]
    simp only [laws_FnBytes.j0, Bool.false_eq_true, if_false]
    unfold spec_DrawSub8.f
    rw [e2, e3, e4]
    simp only [Option.bind_some, implSub8, specSub8, implJoin, if_true, beq_self_eq_true]
    unfold impl_Byte.f impl_Addr.f impl_Signs.f impl_Byte.f
    simp only [Option.bind_some, and255, and65535]
    rw [if_pos (by omega), if_pos (by omega), if_pos (by omega)]
    simp only [if_true, Option.some.injEq, beq_iff_eq, decide_eq_decide]
    omega

end Go.Proofs.Ytcdfkemhigmnlaa.Pure
