/- The flags put into a drawn processor are those that come out of it again, and a number put into A or X is there, with its signs. No condition. -/
import Derived.Test.YtcdfkemhigmnlaaMFnFlagsx0
import Derived.Test.YtcdfkemhigmnlaaMFnFlagsx1
import Derived.Test.YtcdfkemhigmnlaaMFnFlagsx2
import Derived.Test.YtcdfkemhigmnlaaMFnFlagsx3
import Derived.Laws.Bits128
namespace Go.Proofs.Ytcdfkemhigmnlaa.Pure
open Go.RowKit Go.Proofs.Ytcdfkemhigmnlaa.MFnFlags Go.Proofs.YtcdfkemhigmnlaaW.PrintWords Go.Proofs.YtcdfkemhigmnlaaW.PrintLast Go.Proofs.YtcdfkemhigmnlaaW.PrintMore
set_option linter.unusedVariables false
set_option linter.unusedSimpArgs false
namespace LFnFlags
theorem and_low (n : Int) (j : Nat) (m : Int) (hj : j < 64) (hm : (BitVec.ofInt 64 m).toNat = 2 ^ j - 1) : Go.bits .and .i64 n m = n % (2 ^ j : Nat) := by
  have key : (BitVec.ofInt 64 n &&& BitVec.ofInt 64 m).toNat = (n % ((2 ^ 64 : Nat) : Int)).toNat % 2 ^ j := by
    rw [BitVec.toNat_and, BitVec.toNat_ofInt, hm, Nat.and_two_pow_sub_one_eq_mod]
  show IntKind.i64.wrap ((BitVec.ofInt 64 n &&& BitVec.ofInt 64 m).toNat : Nat) = n % (2 ^ j : Nat)
  have hd : ((2 ^ j : Nat) : Int) ∣ ((2 ^ 64 : Nat) : Int) := by
    exact_mod_cast Nat.pow_dvd_pow 2 (Nat.le_of_lt hj)
  have hp : (0 : Int) < ((2 ^ j : Nat) : Int) := by exact_mod_cast Nat.two_pow_pos j
  have hle : ((2 ^ j : Nat) : Int) ≤ ((2 ^ 63 : Nat) : Int) := by
    exact_mod_cast Nat.pow_le_pow_right (by decide) (by omega)
  have e : (((n % ((2 ^ 64 : Nat) : Int)).toNat % 2 ^ j : Nat) : Int) = n % ((2 ^ j : Nat) : Int) := by
    rw [Int.natCast_emod, Int.toNat_of_nonneg (Int.emod_nonneg _ (by decide)), Int.emod_emod_of_dvd _ hd]
  rw [key, e, IntKind.wrap_i64]
  have h0 := Int.emod_nonneg n (Int.ne_of_gt hp)
  have h1 := Int.emod_lt_of_pos n hp
  generalize n % ((2 ^ j : Nat) : Int) = x at *
  generalize ((2 ^ j : Nat) : Int) = y at *
  have : ((2 ^ 63 : Nat) : Int) = 9223372036854775808 := by decide
  omega
theorem and255 (n : Int) : Go.bits .and .i64 n 255 = n % 256 := and_low n 8 255 (by decide) (by decide)
theorem and65535 (n : Int) : Go.bits .and .i64 n 65535 = n % 65536 := and_low n 16 65535 (by decide) (by decide)
theorem wrap_small {n : Int} (h0 : -9223372036854775808 ≤ n) (h1 : n ≤ 9223372036854775807) : wrap64 n = n := by
  unfold wrap64; omega
theorem wrap_nat {i : Nat} (h : i ≤ 4611686018427387904) : wrap64 ((i : Int) + 1) = ((i + 1 : Nat) : Int) := by
  unfold wrap64; omega
theorem rd_nat (l : List Int) (i : Nat) (h : i < l.length) : rd l (i : Int) = l[i] := by
  unfold rd; simp [List.getD, h]

theorem and_range (n : Int) : 0 ≤ Go.bits .and .i64 n 255 ∧ Go.bits .and .i64 n 255 ≤ 255 := by
  rw [and255]; omega
theorem l1New_l0 (l : List Int) (hl : l.length ≤ 140737488351232) : ∀ (k : Nat) (h : Int) (i : Nat), i ≤ l.length → l.length - i < k → ∃ h', spec_l1New.l0 k l h (i : Int) = some (l, 0, h') := by
  intro k
  induction k with
  | zero => intro h i _ hk; omega
  | succ k ih =>
    intro h i hi hk
    simp only [spec_l1New.l0]
    by_cases hlt : i < l.length
    · rw [if_pos (by omega)]
      by_cases h4 : (i : Int) < 4000
      · rw [if_pos h4, if_pos (by omega), wrap_nat (by omega)]
        exact ih _ (i + 1) (by omega) (by omega)
      · rw [if_neg h4]; exact ⟨_, rfl⟩
    · rw [if_neg (by omega)]; exact ⟨_, rfl⟩
theorem l1New_ok (l : List Int) (hl : l.length ≤ 140737488351232) (k : Nat) (hk : l.length < k) : ∃ h', spec_l1New.f k l = some (l, 0, h') := by
  unfold spec_l1New.f
  have := l1New_l0 l hl k (wrap64 (18554 + (l.length : Int))) 0 (by omega) (by omega)
  rwa [show ((0 : Nat) : Int) = 0 from rfl] at this
theorem l1Byte_ok (l : List Int) (hl : l.length ≤ 140737488351232) (i h : Int) (h0 : 0 ≤ i) (h1 : i ≤ l.length) : ∃ r i' h' : Int, spec_l1Byte.f l i h = some (r, i', h') ∧ 0 ≤ r ∧ r ≤ 255 ∧ 0 ≤ i' ∧ i' ≤ l.length := by
  unfold spec_l1Byte.f
  by_cases hlt : i < (l.length : Int)
  · rw [if_pos hlt, if_pos h0]
    refine ⟨_, _, _, rfl, (and_range _).1, (and_range _).2, ?_, ?_⟩ <;> rw [wrap_small (by omega) (by omega)] <;> omega
  · rw [if_neg hlt]
    exact ⟨_, _, _, rfl, (and_range _).1, (and_range _).2, h0, h1⟩
theorem l1Below_ok (l : List Int) (hl : l.length ≤ 140737488351232) (i h : Int) (h0 : 0 ≤ i) (h1 : i ≤ l.length) (n : Int) : ∃ r i' h' : Int, spec_l1Below.f l i h n = some (r, i', h') ∧ 0 ≤ r ∧ (0 < n → r < n) ∧ (n ≤ 0 → r = 0) ∧ 0 ≤ i' ∧ i' ≤ l.length := by
  unfold spec_l1Below.f
  by_cases hn : n ≤ 0
  · rw [if_pos hn]; exact ⟨0, i, h, rfl, by omega, by omega, fun _ => rfl, h0, h1⟩
  · rw [if_neg hn]
    obtain ⟨x, i1, g1, e1, x0, x1, p0, p1⟩ := l1Byte_ok l hl i h h0 h1
    rw [e1]
    simp only [Option.bind_some]
    by_cases hs : n ≤ 256
    · rw [if_pos hs, if_neg (by omega), Int.tmod_eq_emod_of_nonneg x0]
      exact ⟨_, _, _, rfl, Int.emod_nonneg _ (by omega), fun h => Int.emod_lt_of_pos _ h, by omega, p0, p1⟩
    · rw [if_neg hs]
      obtain ⟨y, i2, g2, e2, y0, y1, q0, q1⟩ := l1Byte_ok l hl i1 g1 p0 p1
      rw [e2]
      simp only [Option.bind_some]
      obtain ⟨z, i3, g3, e3, z0, z1, s0, s1⟩ := l1Byte_ok l hl i2 g2 q0 q1
      rw [e3]
      simp only [Option.bind_some]
      obtain ⟨u, i4, g4, e4, u0, u1, t0, t1⟩ := l1Byte_ok l hl i3 g3 s0 s1
      rw [e4]
      simp only [Option.bind_some]
      have e : wrap64 (wrap64 (wrap64 (wrap64 (x * 16777216) + wrap64 (y * 65536)) + wrap64 (z * 256)) + u) = x * 16777216 + y * 65536 + z * 256 + u := by
        rw [wrap_small (n := x * 16777216) (by omega) (by omega), wrap_small (n := y * 65536) (by omega) (by omega), wrap_small (n := z * 256) (by omega) (by omega), wrap_small (n := x * 16777216 + y * 65536) (by omega) (by omega), wrap_small (n := x * 16777216 + y * 65536 + z * 256) (by omega) (by omega), wrap_small (by omega) (by omega)]
      rw [e, if_neg (by omega), Int.tmod_eq_emod_of_nonneg (by omega)]
      exact ⟨_, _, _, rfl, Int.emod_nonneg _ (by omega), fun h => Int.emod_lt_of_pos _ h, by omega, t0, t1⟩
theorem l1Once_ok (l : List Int) (hl : l.length ≤ 140737488351232) (i h : Int) (h0 : 0 ≤ i) (h1 : i ≤ l.length) (n : Int) : ∃ (r : Bool) (i' h' : Int), spec_l1Once.f l i h n = some (r, i', h') ∧ 0 ≤ i' ∧ i' ≤ l.length := by
  obtain ⟨r, i', h', e, _, _, _, p0, p1⟩ := l1Below_ok l hl i h h0 h1 n
  unfold spec_l1Once.f
  rw [e]
  exact ⟨_, _, _, rfl, p0, p1⟩
theorem l1PickInt_ok (l : List Int) (hl : l.length ≤ 140737488351232) (i h : Int) (h0 : 0 ≤ i) (h1 : i ≤ l.length) (q : List Int) (hq : 0 < q.length) : ∃ (r i' h' : Int), spec_l1PickInt.f l i h q = some (r, i', h') ∧ r ∈ q ∧ 0 ≤ i' ∧ i' ≤ l.length := by
  obtain ⟨r, i', h', e, r0, r1, _, p0, p1⟩ := l1Below_ok l hl i h h0 h1 (q.length : Int)
  unfold spec_l1PickInt.f
  rw [e]
  simp only [Option.bind_some]
  have r2 := r1 (by omega)
  rw [if_pos r0, if_pos r2]
  obtain ⟨j, rfl⟩ := Int.eq_ofNat_of_zero_le r0
  exact ⟨_, _, _, rfl, by rw [rd_nat q j (by omega)]; exact List.getElem_mem _, p0, p1⟩

theorem l1DrawInt_ok (l : List Int) (hl : l.length ≤ 140737488351232) (i h : Int) (h0 : 0 ≤ i) (h1 : i ≤ l.length) : ∃ r i' h' : Int, spec_l1DrawInt.f l i h = some (r, i', h') ∧ 0 ≤ i' ∧ i' ≤ l.length := by
  unfold spec_l1DrawInt.f
  obtain ⟨b, i1, g1, e1, p0, p1⟩ := l1Once_ok l hl i h h0 h1 9
  rw [e1]
  simp only [Option.bind_some]
  by_cases hb : b = true
  · rw [if_pos hb]
    obtain ⟨r, i2, g2, e2, _, q0, q1⟩ := l1PickInt_ok l hl i1 g1 p0 p1 [(-1), 256, 65535, 65536, 9223372036854775807, (-9223372036854775808), 511] (by decide)
    rw [e2]
    exact ⟨_, _, _, rfl, q0, q1⟩
  · rw [if_neg hb]
    obtain ⟨r, i2, g2, e2, _, _, _, q0, q1⟩ := l1Below_ok l hl i1 g1 p0 p1 256
    rw [e2]
    exact ⟨_, _, _, rfl, q0, q1⟩

theorem l5Right_ok (l : List Int) (hl : l.length ≤ 140737488351232) (i h : Int) (h0 : 0 ≤ i) (h1 : i ≤ l.length) : ∃ (a x s p : Int) (z n c b : Bool) (i' h' : Int), spec_l5DrawRight.f l i h = some (a, x, s, p, z, n, c, b, i', h') ∧ 0 ≤ i' ∧ i' ≤ l.length := by
  unfold spec_l5DrawRight.f
  obtain ⟨a, i1, g1, e1, _, _, _, p0, p1⟩ := l1Below_ok l hl i h h0 h1 256
  rw [e1, Option.bind_some]
  simp only
  obtain ⟨x, i2, g2, e2, _, _, _, q0, q1⟩ := l1Below_ok l hl i1 g1 p0 p1 256
  rw [e2, Option.bind_some]
  simp only
  obtain ⟨s, i3, g3, e3, _, r0, r1⟩ := l1PickInt_ok l hl i2 g2 q0 q1 [0, 1, 2, 255, 254, 128] (by decide)
  rw [e3, Option.bind_some]
  simp only
  obtain ⟨p, i4, g4, e4, _, s0, s1⟩ := l1PickInt_ok l hl i3 g3 r0 r1 [0, 49152, 49200, 65535, 65534, 32768, 8192, 511] (by decide)
  rw [e4, Option.bind_some]
  simp only
  obtain ⟨f, i5, g5, e5, _, _, _, t0, t1⟩ := l1Below_ok l hl i4 g4 s0 s1 256
  rw [e5, Option.bind_some]
  unfold spec_WithFlags.f
  simp only [Option.bind_some]
  exact ⟨_, _, _, _, _, _, _, _, _, _, rfl, t0, t1⟩
theorem l5Draw_ok (l : List Int) (hl : l.length ≤ 140737488351232) (i h : Int) (h0 : 0 ≤ i) (h1 : i ≤ l.length) : ∃ (a x s p : Int) (z n c b : Bool) (i' h' : Int), spec_l5Draw.f l i h = some (a, x, s, p, z, n, c, b, i', h') ∧ 0 ≤ i' ∧ i' ≤ l.length := by
  unfold spec_l5Draw.f
  obtain ⟨a, x, s, p, z, n, c, b, i1, g1, e1, p0, p1⟩ := l5Right_ok l hl i h h0 h1
  rw [e1, Option.bind_some]
  simp only
  obtain ⟨t, i2, g2, e2, _, _, _, q0, q1⟩ := l1Below_ok l hl i1 g1 p0 p1 25
  obtain ⟨u, i3, g3, e3, r0, r1⟩ := l1DrawInt_ok l hl i2 g2 q0 q1
  rw [e2, Option.bind_some]
  simp only
  rw [e3]
  split
  · exact ⟨_, _, _, _, _, _, _, _, _, _, rfl, r0, r1⟩
  · split
    · exact ⟨_, _, _, _, _, _, _, _, _, _, rfl, r0, r1⟩
    · split
      · exact ⟨_, _, _, _, _, _, _, _, _, _, rfl, r0, r1⟩
      · split
        · obtain ⟨y, i4, g4, e4, _, s0, s1⟩ := l1PickInt_ok l hl i2 g2 q0 q1 [(-1), 65536] (by decide)
          rw [e4]
          exact ⟨_, _, _, _, _, _, _, _, _, _, rfl, s0, s1⟩
        · exact ⟨_, _, _, _, _, _, _, _, _, _, rfl, q0, q1⟩

theorem within_eq (x lo hi : Int) : impl_within.f x lo hi = some (decide (lo ≤ x ∧ x ≤ hi)) := by
  unfold impl_within.f
  split <;> simp <;> omega
theorem l1In_eq (x lo hi : Int) : spec_l1In.f x lo hi = some (decide (lo ≤ x ∧ x ≤ hi)) := by
  unfold spec_l1In.f
  split <;> simp <;> omega
end LFnFlags
open LFnFlags

theorem of_low (n : Int) : BitVec.ofInt 64 (n % 256) = BitVec.ofInt 64 n &&& BitVec.ofInt 64 255 := by
  apply BitVec.eq_of_toNat_eq
  rw [BitVec.toNat_and, BitVec.toNat_ofInt, BitVec.toNat_ofInt, show (BitVec.ofInt 64 255).toNat = 2 ^ 8 - 1 by decide, Nat.and_two_pow_sub_one_eq_mod]
  omega
theorem and_twice (n m : Int) (h : BitVec.ofInt 64 255 &&& BitVec.ofInt 64 m = BitVec.ofInt 64 m) : Go.bits .and .i64 n m = Go.bits .and .i64 (n % 256) m := by
  show IntKind.i64.wrap ((BitVec.ofInt 64 n &&& BitVec.ofInt 64 m).toNat : Nat) = IntKind.i64.wrap ((BitVec.ofInt 64 (n % 256) &&& BitVec.ofInt 64 m).toNat : Nat)
  rw [of_low, BitVec.and_assoc, h]
def onB (v m : Int) : Bool := Go.bits .and .i64 v m != 0
theorem onB_low (v m : Int) (h : BitVec.ofInt 64 255 &&& BitVec.ofInt 64 m = BitVec.ofInt 64 m) : onB v m = onB (v % 256) m := by
  unfold onB
  rw [and_twice v m h]
theorem flags_at : ∀ x : Fin 256, impl_Flags.f 0 0 0 0 (onB (x.val : Int) 2) (onB (x.val : Int) 128) (onB (x.val : Int) 1) (onB (x.val : Int) 4) = some (Go.bits .and .i64 (x.val : Int) 135) ∧
    onB (Go.bits .and .i64 (x.val : Int) 135) 2 = onB (x.val : Int) 2 ∧ onB (Go.bits .and .i64 (x.val : Int) 135) 128 = onB (x.val : Int) 128 ∧ onB (Go.bits .and .i64 (x.val : Int) 135) 1 = onB (x.val : Int) 1 ∧ onB (Go.bits .and .i64 (x.val : Int) 135) 4 = onB (x.val : Int) 4 := by decide +kernel
theorem flags_back (a x s p v : Int) : impl_Flags.f a x s p (onB v 2) (onB v 128) (onB v 1) (onB v 4) = some (Go.bits .and .i64 v 135) ∧
    onB (Go.bits .and .i64 v 135) 2 = onB v 2 ∧ onB (Go.bits .and .i64 v 135) 128 = onB v 128 ∧ onB (Go.bits .and .i64 v 135) 1 = onB v 1 ∧ onB (Go.bits .and .i64 v 135) 4 = onB v 4 := by
  rw [onB_low v 2 (by decide), onB_low v 128 (by decide), onB_low v 1 (by decide), onB_low v 4 (by decide), and_twice v 135 (by decide)]
  obtain ⟨q, hq⟩ := Int.eq_ofNat_of_zero_le (show 0 ≤ v % 256 by omega)
  rw [hq]
  exact flags_at ⟨q, by omega⟩
theorem drawV_ok (l : List Int) (hl : l.length ≤ 140737488351232) (k : Nat) (hk : l.length < k) : ∃ a x s p z n c i v, spec_l5DrawV.f k l = some (a, x, s, p, z, n, c, i, v) := by
  unfold spec_l5DrawV.f
  obtain ⟨h, e⟩ := l1New_ok l hl k hk
  rw [e, Option.bind_some]
  simp only
  obtain ⟨a, x, s, p, z, n, c, i, i1, g1, e1, p0, p1⟩ := l5Draw_ok l hl 0 h (by omega) (by omega)
  rw [e1, Option.bind_some]
  simp only
  obtain ⟨v, i2, g2, e2, _, _⟩ := l1DrawInt_ok l hl i1 g1 p0 p1
  rw [e2]
  exact ⟨_, _, _, _, _, _, _, _, _, rfl⟩
theorem cpuOk_both (a x s p : Int) (z n c i : Bool) : ∃ b : Bool, impl_CpuOk.f a x s p z n c i = some b ∧ spec_CpuOk.f a x s p z n c i = some b := by
  simp only [spec_CpuOk.f, impl_CpuOk.f, spec_l5Byte.f, impl_isByte.f, l1In_eq, within_eq, Option.bind_some]
  cases decide (0 ≤ a ∧ a ≤ 255) <;> cases decide (0 ≤ x ∧ x ≤ 255) <;> cases decide (0 ≤ s ∧ s ≤ 255) <;> simp
theorem FnFlags (l0 : List Int) (w0 : l0.length ≤ 9223372036854775807) (z0 : ∀ x ∈ l0, (Lit.int .u8 x).wf = true) : ∃ k, (laws_FnFlags.f k l0) = some true := by
  obtain ⟨K, hK⟩ : ∃ K : Nat, 2000000 ≤ K := ⟨_, Nat.le_refl _⟩
  refine ⟨K + 1, ?_⟩
  unfold laws_FnFlags.f laws_big.f
  simp only [Option.bind_some]
  by_cases hb : (l0.length : Int) > 1048576
  · rw [if_pos (by simpa using hb)]
  · rw [if_neg (by simpa using hb)]
    obtain ⟨a, x, s, p, z, n, c, i, v, e1⟩ := drawV_ok l0 (by omega) (K + 1) (by omega)
    obtain ⟨a2, x2, s2, p2, z2, n2, c2, i2, v2, e2⟩ := drawV_ok l0 (by omega) K (by omega)
    obtain ⟨k1, k2, k3, k4, k5⟩ := flags_back a x s p v
    obtain ⟨b, b1, b2⟩ := cpuOk_both a x s p z n c i
    unfold spec_DrawWithFlags.f
    rw [e1]
    unfold onB at k1 k2 k3 k4 k5
    simp only [Option.bind_some, impl_WithFlags.f, spec_WithFlags.f, beq_self_eq_true, Bool.not_true, Bool.or_false, Bool.false_eq_true, if_false, k1, k2, k3, k4, k5, if_true, b1, b2]
    simp only [laws_FnFlags.j0, bne_self_eq_false, Bool.false_eq_true, if_false]
    unfold spec_DrawSetA.f
    rw [e2]
    simp [impl_SetA.f, impl_SetX.f, impl_Byte.f, impl_Signs.f]

end Go.Proofs.Ytcdfkemhigmnlaa.Pure
