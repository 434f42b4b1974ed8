/- A subroutine called comes back to the instruction behind, a number pushed comes back; the program's Exec does what the reference's does. No condition. -/
import Derived.Test.YtmkccgbfgebfbaaMFnCalledx0
import Derived.Test.YtmkccgbfgebfbaaMFnCalledx1
import Derived.Test.YtmkccgbfgebfbaaMFnCalledx2
import Derived.Test.YtmkccgbfgebfbaaMFnCalledx3
import Derived.Test.YtmkccgbfgebfbaaMFnCalledx4
import Derived.Test.YtmkccgbfgebfbaaMFnCalledx5
import Derived.Test.YtmkccgbfgebfbaaMFnCalledx6
import Derived.Test.YtmkccgbfgebfbaaMFnCalledx7
import Derived.Laws.Bits128
namespace Go.Proofs.Ytmkccgbfgebfbaa.Pure
open Go.RowKit Go.Proofs.Ytmkccgbfgebfbaa.MFnCalled Go.Proofs.YtmkccgbfgebfbaaW.PrintWords Go.Proofs.YtmkccgbfgebfbaaW.PrintLast Go.Proofs.YtmkccgbfgebfbaaW.PrintMore
set_option linter.unusedVariables false
set_option linter.unusedSimpArgs false
namespace LFnCalled
theorem and_low (n : Int) (j : Nat) (m : Int) (hj : j < 64) (hm : (BitVec.ofInt 64 m).toNat = 2 ^ j - 1) : Go.bits .and .i64 n m = n % (2 ^ j : Nat) := by
  have key : (BitVec.ofInt 64 n &&& BitVec.ofInt 64 m).toNat = (n % ((2 ^ 64 : Nat) : Int)).toNat % 2 ^ j := by
    rw [BitVec.toNat_and, BitVec.toNat_ofInt, hm, Nat.and_two_pow_sub_one_eq_mod]
  show IntKind.i64.wrap ((BitVec.ofInt 64 n &&& BitVec.ofInt 64 m).toNat : Nat) = n % (2 ^ j : Nat)
  have hd : ((2 ^ j : Nat) : Int) ∣ ((2 ^ 64 : Nat) : Int) := by
    exact_mod_cast Nat.pow_dvd_pow 2 (Nat.le_of_lt hj)
  have hp : (0 : Int) < ((2 ^ j : Nat) : Int) := by exact_mod_cast Nat.two_pow_pos j
  have hle : ((2 ^ j : Nat) : Int) ≤ ((2 ^ 63 : Nat) : Int) := by
    exact_mod_cast Nat.pow_le_pow_right (by decide) (by omega)
  have e : (((n % ((2 ^ 64 : Nat) : Int)).toNat % 2 ^ j : Nat) : Int) = n % ((2 ^ j : Nat) : Int) := by
    rw [Int.natCast_emod, Int.toNat_of_nonneg (Int.emod_nonneg _ (by decide)), Int.emod_emod_of_dvd _ hd]
  rw [key, e, IntKind.wrap_i64]
  have h0 := Int.emod_nonneg n (Int.ne_of_gt hp)
  have h1 := Int.emod_lt_of_pos n hp
  generalize n % ((2 ^ j : Nat) : Int) = x at *
  generalize ((2 ^ j : Nat) : Int) = y at *
  have : ((2 ^ 63 : Nat) : Int) = 9223372036854775808 := by decide
  omega
theorem and255 (n : Int) : Go.bits .and .i64 n 255 = n % 256 := and_low n 8 255 (by decide) (by decide)
theorem and65535 (n : Int) : Go.bits .and .i64 n 65535 = n % 65536 := and_low n 16 65535 (by decide) (by decide)
theorem wrap_small {n : Int} (h0 : -9223372036854775808 ≤ n) (h1 : n ≤ 9223372036854775807) : wrap64 n = n := by
  unfold wrap64; omega
theorem wrap_nat {i : Nat} (h : i ≤ 4611686018427387904) : wrap64 ((i : Int) + 1) = ((i + 1 : Nat) : Int) := by
  unfold wrap64; omega
theorem rd_nat (l : List Int) (i : Nat) (h : i < l.length) : rd l (i : Int) = l[i] := by
  unfold rd; simp [List.getD, h]

theorem and_range (n : Int) : 0 ≤ Go.bits .and .i64 n 255 ∧ Go.bits .and .i64 n 255 ≤ 255 := by
  rw [and255]; omega
theorem l1New_l0 (l : List Int) (hl : l.length ≤ 140737488351232) : ∀ (k : Nat) (h : Int) (i : Nat), i ≤ l.length → l.length - i < k → ∃ h', spec_l1New.l0 k l h (i : Int) = some (l, 0, h') := by
  intro k
  induction k with
  | zero => intro h i _ hk; omega
  | succ k ih =>
    intro h i hi hk
    simp only [spec_l1New.l0]
    by_cases hlt : i < l.length
    · rw [if_pos (by omega)]
      by_cases h4 : (i : Int) < 4000
      · rw [if_pos h4, if_pos (by omega), wrap_nat (by omega)]
        exact ih _ (i + 1) (by omega) (by omega)
      · rw [if_neg h4]; exact ⟨_, rfl⟩
    · rw [if_neg (by omega)]; exact ⟨_, rfl⟩
theorem l1New_ok (l : List Int) (hl : l.length ≤ 140737488351232) (k : Nat) (hk : l.length < k) : ∃ h', spec_l1New.f k l = some (l, 0, h') := by
  unfold spec_l1New.f
  have := l1New_l0 l hl k (wrap64 (18554 + (l.length : Int))) 0 (by omega) (by omega)
  rwa [show ((0 : Nat) : Int) = 0 from rfl] at this
theorem l1Byte_ok (l : List Int) (hl : l.length ≤ 140737488351232) (i h : Int) (h0 : 0 ≤ i) (h1 : i ≤ l.length) : ∃ r i' h' : Int, spec_l1Byte.f l i h = some (r, i', h') ∧ 0 ≤ r ∧ r ≤ 255 ∧ 0 ≤ i' ∧ i' ≤ l.length := by
  unfold spec_l1Byte.f
  by_cases hlt : i < (l.length : Int)
  · rw [if_pos hlt, if_pos h0]
    refine ⟨_, _, _, rfl, (and_range _).1, (and_range _).2, ?_, ?_⟩ <;> rw [wrap_small (by omega) (by omega)] <;> omega
  · rw [if_neg hlt]
    exact ⟨_, _, _, rfl, (and_range _).1, (and_range _).2, h0, h1⟩
theorem l1Below_ok (l : List Int) (hl : l.length ≤ 140737488351232) (i h : Int) (h0 : 0 ≤ i) (h1 : i ≤ l.length) (n : Int) : ∃ r i' h' : Int, spec_l1Below.f l i h n = some (r, i', h') ∧ 0 ≤ r ∧ (0 < n → r < n) ∧ (n ≤ 0 → r = 0) ∧ 0 ≤ i' ∧ i' ≤ l.length := by
  unfold spec_l1Below.f
  by_cases hn : n ≤ 0
  · rw [if_pos hn]; exact ⟨0, i, h, rfl, by omega, by omega, fun _ => rfl, h0, h1⟩
  · rw [if_neg hn]
    obtain ⟨x, i1, g1, e1, x0, x1, p0, p1⟩ := l1Byte_ok l hl i h h0 h1
    rw [e1]
    simp only [Option.bind_some]
    by_cases hs : n ≤ 256
    · rw [if_pos hs, if_neg (by omega), Int.tmod_eq_emod_of_nonneg x0]
      exact ⟨_, _, _, rfl, Int.emod_nonneg _ (by omega), fun h => Int.emod_lt_of_pos _ h, by omega, p0, p1⟩
    · rw [if_neg hs]
      obtain ⟨y, i2, g2, e2, y0, y1, q0, q1⟩ := l1Byte_ok l hl i1 g1 p0 p1
      rw [e2]
      simp only [Option.bind_some]
      obtain ⟨z, i3, g3, e3, z0, z1, s0, s1⟩ := l1Byte_ok l hl i2 g2 q0 q1
      rw [e3]
      simp only [Option.bind_some]
      obtain ⟨u, i4, g4, e4, u0, u1, t0, t1⟩ := l1Byte_ok l hl i3 g3 s0 s1
      rw [e4]
      simp only [Option.bind_some]
      have e : wrap64 (wrap64 (wrap64 (wrap64 (x * 16777216) + wrap64 (y * 65536)) + wrap64 (z * 256)) + u) = x * 16777216 + y * 65536 + z * 256 + u := by
        rw [wrap_small (n := x * 16777216) (by omega) (by omega), wrap_small (n := y * 65536) (by omega) (by omega), wrap_small (n := z * 256) (by omega) (by omega), wrap_small (n := x * 16777216 + y * 65536) (by omega) (by omega), wrap_small (n := x * 16777216 + y * 65536 + z * 256) (by omega) (by omega), wrap_small (by omega) (by omega)]
      rw [e, if_neg (by omega), Int.tmod_eq_emod_of_nonneg (by omega)]
      exact ⟨_, _, _, rfl, Int.emod_nonneg _ (by omega), fun h => Int.emod_lt_of_pos _ h, by omega, t0, t1⟩
theorem l1Once_ok (l : List Int) (hl : l.length ≤ 140737488351232) (i h : Int) (h0 : 0 ≤ i) (h1 : i ≤ l.length) (n : Int) : ∃ (r : Bool) (i' h' : Int), spec_l1Once.f l i h n = some (r, i', h') ∧ 0 ≤ i' ∧ i' ≤ l.length := by
  obtain ⟨r, i', h', e, _, _, _, p0, p1⟩ := l1Below_ok l hl i h h0 h1 n
  unfold spec_l1Once.f
  rw [e]
  exact ⟨_, _, _, rfl, p0, p1⟩

theorem l1PickInt_ok (l : List Int) (hl : l.length ≤ 140737488351232) (i h : Int) (h0 : 0 ≤ i) (h1 : i ≤ l.length) (q : List Int) (hq : 0 < q.length) : ∃ (r i' h' : Int), spec_l1PickInt.f l i h q = some (r, i', h') ∧ r ∈ q ∧ 0 ≤ i' ∧ i' ≤ l.length := by
  obtain ⟨r, i', h', e, r0, r1, _, p0, p1⟩ := l1Below_ok l hl i h h0 h1 (q.length : Int)
  unfold spec_l1PickInt.f
  rw [e]
  simp only [Option.bind_some]
  have r2 := r1 (by omega)
  rw [if_pos r0, if_pos r2]
  obtain ⟨j, rfl⟩ := Int.eq_ofNat_of_zero_le r0
  exact ⟨_, _, _, rfl, by rw [rd_nat q j (by omega)]; exact List.getElem_mem _, p0, p1⟩

theorem within_eq (x lo hi : Int) : impl_within.f x lo hi = some (decide (lo ≤ x ∧ x ≤ hi)) := by
  unfold impl_within.f
  split <;> simp <;> omega
theorem l1In_eq (x lo hi : Int) : spec_l1In.f x lo hi = some (decide (lo ≤ x ∧ x ≤ hi)) := by
  unfold spec_l1In.f
  split <;> simp <;> omega

def opLenV (a : Int) : Int := if a = 1 ∨ (4 ≤ a ∧ a ≤ 9) then 2 else if a = 2 ∨ a = 3 ∨ (14 ≤ a ∧ a ≤ 20) ∨ a = 29 then 3 else 1
theorem specOpLen (a : Int) : spec_OpLen.f a = some (opLenV a) := by
  by_cases h : 0 ≤ a ∧ a ≤ 29
  · have hc : ∀ n : Fin 30, spec_OpLen.f (n.val : Int) = some (opLenV (n.val : Int)) := by decide
    have := hc ⟨a.toNat, by omega⟩
    rw [show ((a.toNat : Nat) : Int) = a by omega] at this
    exact this
  · unfold spec_OpLen.f opLenV
    have e : decide (0 ≤ a ∧ a ≤ 29) = false := decide_eq_false h
    rw [l1In_eq, Option.bind_some, e, if_neg (by decide), if_neg (by omega), if_neg (by omega)]
theorem opLenV_three (a : Int) : opLenV a = 1 ∨ opLenV a = 2 ∨ opLenV a = 3 := by
  unfold opLenV; repeat' split
  all_goals omega

theorem digits_l0 : ∀ (m : Nat) (n : Int) (s : ByteArray), 0 ≤ n → n.toNat = m → n ≤ 1000000 → s.size + m ≤ 10000000 → ∀ k, m < k → ∃ r, spec_l4Digits.l0 k n s = some r := by
  intro m
  induction m using Nat.strongRecOn with
  | _ m ih =>
    intro n s h0 hm h1 hs k hk
    obtain ⟨k, rfl⟩ : ∃ q, k = q + 1 := ⟨k - 1, by omega⟩
    simp only [spec_l4Digits.l0, Option.bind_some]
    by_cases hn : n > 0
    · rw [if_pos hn, strOfNums_size, if_pos (by simp; omega), Int.tdiv_eq_ediv_of_nonneg h0, wrap_small (by omega) (by omega)]
      exact ih (n / 10).toNat (by omega) (n / 10) _ (by omega) rfl (by omega) (by rw [ByteArray.size_append, strOfNums_size]; simp; omega) k (by omega)
    · rw [if_neg hn]
      exact ⟨_, rfl⟩
theorem digits_ok (n : Int) (h0 : 0 ≤ n) (h1 : n ≤ 1000000) (k : Nat) (hk : 1000001 < k) : ∃ r, spec_l4Digits.f k n = some r := by
  unfold spec_l4Digits.f
  by_cases h : n = 0
  · rw [if_pos h]; exact ⟨_, rfl⟩
  · rw [if_neg h]
    exact digits_l0 n.toNat n _ h0 rfl h1 (by have : (⟨#[]⟩ : ByteArray).size = 0 := rfl; omega) k (by omega)
theorem ten_pow (i : Nat) (h : i ≤ 5) : (10 : Int) ^ i ≤ 100000 := by
  have : i = 0 ∨ i = 1 ∨ i = 2 ∨ i = 3 ∨ i = 4 ∨ i = 5 := by omega
  rcases this with rfl | rfl | rfl | rfl | rfl | rfl <;> decide
theorem num_l0 (s : ByteArray) (hs : s.size ≤ 5) : ∀ (d i : Nat) (x : Int), s.size - i = d → i ≤ s.size → 0 ≤ x → x < 10 ^ i → ∀ k, d + 1000010 < k → ∃ r : Int, spec_l4Num.l0 k s x (i : Int) = some r := by
  intro d
  induction d with
  | zero =>
    intro i x hd hi h0 h1 k hk
    obtain ⟨k, rfl⟩ : ∃ q, k = q + 1 := ⟨k - 1, by omega⟩
    simp only [spec_l4Num.l0]
    have := ten_pow i (by omega)
    obtain ⟨t, e⟩ := digits_ok x h0 (by omega) k (by omega)
    rw [if_neg (by omega), e, Option.bind_some]
    split
    · exact ⟨_, rfl⟩
    · exact ⟨_, rfl⟩
  | succ d ih =>
    intro i x hd hi h0 h1 k hk
    obtain ⟨k, rfl⟩ : ∃ q, k = q + 1 := ⟨k - 1, by omega⟩
    simp only [spec_l4Num.l0]
    rw [if_pos (by omega), if_pos (by omega)]
    by_cases b0 : bt s (i : Int) < 48
    · rw [if_pos b0]; exact ⟨_, rfl⟩
    · rw [if_neg b0]
      by_cases b1 : bt s (i : Int) > 57
      · rw [if_pos b1]; exact ⟨_, rfl⟩
      · rw [if_neg b1, wrap_nat (by omega)]
        have hp := ten_pow i (by omega)
        have e : (10 : Int) ^ (i + 1) = 10 ^ i * 10 := Int.pow_succ 10 i
        rw [wrap_small (n := 10 * x) (by omega) (by omega), wrap_small (n := bt s (i : Int)) (by omega) (by omega), wrap_small (n := 10 * x + bt s (i : Int)) (by omega) (by omega), wrap_small (n := 10 * x + bt s (i : Int) - 48) (by omega) (by omega)]
        exact ih (i + 1) _ (by omega) (by omega) (by omega) (by omega) k (by omega)
theorem num_ok (s : ByteArray) (k : Nat) (hk : 1000100 < k) : ∃ r : Int, spec_l4Num.f k s = some r := by
  obtain ⟨k, rfl⟩ : ∃ q, k = q + 1 := ⟨k - 1, by omega⟩
  unfold spec_l4Num.f
  have key : ∀ b : Bool, (b = false → s.size ≤ 5) → ∃ r : Int, spec_l4Num.j0 (k + 1) s b = some r := by
    intro b hb
    simp only [spec_l4Num.j0]
    cases b with
    | true => rw [if_pos rfl]; exact ⟨_, rfl⟩
    | false =>
      rw [if_neg (by decide)]
      have := num_l0 s (hb rfl) s.size 0 0 (by omega) (by omega) (by omega) (by decide) k (by have := hb rfl; omega)
      exact this
  split
  · exact key true (by simp)
  · exact key _ (fun h => by have := of_decide_eq_false h; omega)
theorem line_l0 (s : ByteArray) (hs : s.size ≤ 1000000) : ∀ (d i : Nat), s.size - i = d → i ≤ s.size → ∀ k, d + 1000200 < k → ∃ r, spec_l4Line.l0 k s (i : Int) = some r := by
  intro d
  induction d with
  | zero =>
    intro i hd hi k hk
    obtain ⟨k, rfl⟩ : ∃ q, k = q + 1 := ⟨k - 1, by omega⟩
    simp only [spec_l4Line.l0]
    rw [if_neg (by omega)]
    exact ⟨_, rfl⟩
  | succ d ih =>
    intro i hd hi k hk
    obtain ⟨k, rfl⟩ : ∃ q, k = q + 1 := ⟨k - 1, by omega⟩
    simp only [spec_l4Line.l0]
    rw [if_pos (by omega), if_pos (by omega), wrap_nat (by omega)]
    by_cases hb : bt s (i : Int) = 32
    · obtain ⟨t, e⟩ := num_ok (s.extract (((i + 1 : Nat) : Int)).toNat s.size) k (by omega)
      rw [if_pos hb, if_pos (by omega), if_pos (by omega), e, Option.bind_some, if_pos (by omega)]
      exact ⟨_, rfl⟩
    · rw [if_neg hb]
      exact ih (i + 1) (by omega) (by omega) k (by omega)
theorem line_ok (s : ByteArray) (hs : s.size ≤ 1000000) (k : Nat) (hk : 2100000 < k) : ∃ r, spec_l4Line.f k s = some r := by
  unfold spec_l4Line.f
  exact line_l0 s hs s.size 0 (by omega) (by omega) k (by omega)
def names : List ByteArray := (spec_l3Names.f).getD []
theorem names_len : names.length = 30 := rfl
theorem spec_names : spec_l3Names.f = some names := rfl
theorem specOpOf_l0 (L : List ByteArray) (s : ByteArray) (hL : L.length ≤ 1000) : ∀ (k i : Nat), i ≤ L.length → L.length - i < k → ∃ r : Int, spec_OpOf.l0 k s L (i : Int) = some r := by
  intro k
  induction k with
  | zero => intro i _ h; omega
  | succ k ih =>
    intro i hi h
    simp only [spec_OpOf.l0]
    by_cases hlt : i < L.length
    · rw [if_pos (by omega), if_pos (by omega), wrap_nat (by omega)]
      split
      · exact ⟨_, rfl⟩
      · exact ih (i + 1) (by omega) (by omega)
    · rw [if_neg (by omega)]
      exact ⟨_, rfl⟩
theorem specOpOf_ok (s : ByteArray) (k : Nat) (hk : 100 < k) : ∃ r : Int, spec_OpOf.f k s = some r := by
  unfold spec_OpOf.f
  rw [spec_names, Option.bind_some]
  exact specOpOf_l0 names s (by decide) k 0 (by omega) (by have := names_len; omega)
theorem bytes_ok (s : ByteArray) (hs : s.size ≤ 1000000) (k : Nat) (hk : 2100100 < k) : ∃ r : List Int × Int × Bool, spec_l4Bytes.f k s = some r ∧ r.1.length ≤ 3 := by
  obtain ⟨k, rfl⟩ : ∃ q, k = q + 1 := ⟨k - 1, by omega⟩
  unfold spec_l4Bytes.f
  obtain ⟨⟨w, n, ok⟩, e⟩ := line_ok s hs (k + 1) (by omega)
  rw [e, Option.bind_some]
  have key : ∀ b : Bool, ∃ r : List Int × Int × Bool, spec_l4Bytes.j0 (k + 1) w n b = some r ∧ r.1.length ≤ 3 := by
    intro b
    simp only [spec_l4Bytes.j0]
    by_cases hb : b = true
    · rw [if_pos hb, l1In_eq, Option.bind_some]
      split
      · split
        · exact ⟨_, rfl, by simp⟩
        · exact ⟨_, rfl, by simp⟩
      · exact ⟨_, rfl, by simp⟩
    · obtain ⟨t, e2⟩ := specOpOf_ok w k (by omega)
      rw [if_neg hb, e2, Option.bind_some]
      split
      · exact ⟨_, rfl, by simp⟩
      · rw [specOpLen, Option.bind_some]
        unfold spec_Byte.f
        simp only [l1In_eq, Option.bind_some]
        split
        · exact ⟨_, rfl, by simp⟩
        · split
          · exact ⟨_, rfl, by simp⟩
          · exact ⟨_, rfl, by simp⟩
  split
  · split
    · exact key true
    · exact key _
  · exact ⟨_, rfl, by simp⟩
/-- The loop over an op's bytes comes back to the loop over the text. -/
theorem asm_l1 (s : ByteArray) (x6 x7 x8 : Int) (L : List Int) (hL : L.length ≤ 3) (P : List Int × Int → Prop) (K : Nat) (next : ∀ (m : List Int) (x5 : Int), m.length = 256 → ∀ k, K < k → ∃ r, spec_Assemble.l0 k s m x5 x6 x7 (wrap64 (x8 + 1)) = some r ∧ P r) :
    ∀ (d j : Nat), L.length - j = d → j ≤ L.length → ∀ (m : List Int) (x5 : Int), m.length = 256 → ∀ k, K + d + 1 < k → ∃ r, spec_Assemble.l1 k s m x5 x6 x7 x8 L (j : Int) = some r ∧ P r := by
  intro d
  induction d with
  | zero =>
    intro j hd hj m x5 hm k hk
    obtain ⟨k, rfl⟩ : ∃ q, k = q + 1 := ⟨k - 1, by omega⟩
    simp only [spec_Assemble.l1]
    rw [if_neg (by omega)]
    exact next m x5 hm k (by omega)
  | succ d ih =>
    intro j hd hj m x5 hm k hk
    obtain ⟨k, rfl⟩ : ∃ q, k = q + 1 := ⟨k - 1, by omega⟩
    simp only [spec_Assemble.l1]
    unfold spec_Byte.f
    rw [if_pos (by omega), Option.bind_some, and255, if_pos (by omega), if_pos (by omega), if_pos (by omega), wrap_nat (by omega)]
    exact ih (j + 1) (by omega) (by omega) _ _ (by simpa using hm) k (by omega)
theorem asm_l0 (s : ByteArray) (hs : s.size ≤ 100000) : ∀ (d i : Nat), s.size + 1 - i = d → i ≤ s.size + 1 → ∀ (m : List Int) (x5 x6 x7 : Int), m.length = 256 → 0 ≤ x6 → x6 ≤ (i : Int) → ∀ k, 3000000 + 10 * d < k →
    ∃ r, spec_Assemble.l0 k s m x5 x6 x7 (i : Int) = some r ∧ (r.1.length = 256 ∨ r.1.length = 0) := by
  intro d
  induction d with
  | zero =>
    intro i hd hi m x5 x6 x7 hm h0 h1 k hk
    obtain ⟨k, rfl⟩ : ∃ q, k = q + 1 := ⟨k - 1, by omega⟩
    simp only [spec_Assemble.l0]
    rw [if_neg (by omega)]
    exact ⟨_, rfl, .inl hm⟩
  | succ d ih =>
    intro i hd hi m x5 x6 x7 hm h0 h1 k hk
    obtain ⟨k, rfl⟩ : ∃ q, k = q + 2 := ⟨k - 2, by omega⟩
    have key : ∀ b : Bool, ∃ r, spec_Assemble.j1 (k + 1) s m x5 x6 x7 (i : Int) b = some r ∧ (r.1.length = 256 ∨ r.1.length = 0) := by
      intro b
      simp only [spec_Assemble.j1]
      by_cases hb : b = true
      · rw [if_pos hb, wrap_nat (by omega)]
        exact ih (i + 1) (by omega) (by omega) m x5 x6 x7 hm h0 (by omega) k (by omega)
      · rw [if_neg hb, if_pos h0, if_pos h1, if_pos (by omega)]
        split
        · rw [wrap_nat (by omega)]
          exact ih (i + 1) (by omega) (by omega) m x5 _ _ hm (by omega) (by omega) k (by omega)
        · have hsz : (s.extract (x6 : Int).toNat ((i : Int)).toNat).size ≤ 1000000 := by
            rw [ByteArray.size_extract]
            omega
          obtain ⟨⟨L, tt_, ok⟩, e, hL⟩ := bytes_ok _ hsz k (by omega)
          rw [e, Option.bind_some]
          have next : ∀ (m' : List Int) (y5 : Int), m'.length = 256 → ∀ k, 3000000 + 10 * d < k → ∃ r, spec_Assemble.l0 k s m' y5 (wrap64 ((i : Int) + 1)) (wrap64 (x7 + 1)) (wrap64 ((i : Int) + 1)) = some r ∧ (r.1.length = 256 ∨ r.1.length = 0) := by
            intro m' y5 hm' q hq
            rw [wrap_nat (by omega)]
            exact ih (i + 1) (by omega) (by omega) m' y5 _ _ hm' (by omega) (by omega) q (by omega)
          have j2 : ∀ y5 : Int, ∃ r, spec_Assemble.j2 k s m y5 (wrap64 ((i : Int) + 1)) (wrap64 (x7 + 1)) (i : Int) L = some r ∧ (r.1.length = 256 ∨ r.1.length = 0) := by
            intro y5
            obtain ⟨k, rfl⟩ : ∃ q, k = q + 1 := ⟨k - 1, by omega⟩
            simp only [spec_Assemble.j2]
            have hL' : L.length ≤ 3 := hL
            exact asm_l1 s _ _ _ L hL' _ (3000000 + 10 * d) next L.length 0 (by omega) (by omega) m y5 hm k (by omega)
          split
          · split
            · exact j2 _
            · exact j2 _
          · exact ⟨_, rfl, .inr rfl⟩
    simp only [spec_Assemble.l0]
    rw [if_pos (by omega)]
    repeat' split
    all_goals first | exact key _ | omega
theorem asm_total (s : ByteArray) (k : Nat) (hk : 4100000 < k) : ∃ r, spec_Assemble.f k s = some r ∧ (r.1.length = 256 ∨ r.1.length = 0) := by
  unfold spec_Assemble.f
  by_cases h : (s.size : Int) > 3000
  · rw [if_pos h]
    exact ⟨_, rfl, .inr rfl⟩
  · rw [if_neg h, if_pos (by decide)]
    exact asm_l0 s (by omega) (s.size + 1) 0 (by omega) (by omega) _ 0 0 0 List.length_replicate (by omega) (by omega) k (by omega)

theorem rdL_nat (l : List (List Int)) (i : Nat) (h : i < l.length) : rd_L3 l (i : Int) = l[i] := by
  unfold rd_L3; simp [List.getD, h]
theorem rdL_mem (l : List (List Int)) (i : Nat) (h : i < l.length) : rd_L3 l (i : Int) ∈ l := by
  rw [rdL_nat l i h]; exact List.getElem_mem h

theorem l1Pick_ok (l : List Int) (hl : l.length ≤ 140737488351232) (i h : Int) (h0 : 0 ≤ i) (h1 : i ≤ l.length) (q : List ByteArray) (hq : 0 < q.length) : ∃ (j : Nat) (i' h' : Int), j < q.length ∧ spec_l1Pick.f l i h q = some (rdOf ByteArray.empty q (j : Int), i', h') ∧ 0 ≤ i' ∧ i' ≤ l.length := by
  obtain ⟨r, i', h', e, r0, r1, _, p0, p1⟩ := l1Below_ok l hl i h h0 h1 (q.length : Int)
  unfold spec_l1Pick.f
  rw [e]
  simp only [Option.bind_some]
  have r2 := r1 (by omega)
  rw [if_pos r0, if_pos r2]
  obtain ⟨j, rfl⟩ := Int.eq_ofNat_of_zero_le r0
  exact ⟨j, i', h', by omega, rfl, p0, p1⟩
theorem rdOf_bound {q : List ByteArray} {n : Nat} (hq : ∀ s ∈ q, s.size ≤ n) (j : Nat) (hj : j < q.length) : (rdOf ByteArray.empty q (j : Int)).size ≤ n := by
  have : rdOf ByteArray.empty q (j : Int) = q[j] := by unfold rdOf; simp [hj]
  rw [this]
  exact hq _ (List.getElem_mem hj)
theorem main_ok (l : List Int) (hl : l.length ≤ 140737488351232) (i h : Int) (h0 : 0 ≤ i) (h1 : i ≤ l.length) : ∃ (s : ByteArray) (i' h' : Int), spec_l2Main.f l i h = some (s, i', h') ∧ 0 ≤ i' ∧ i' ≤ l.length := by
  unfold spec_l2Main.f
  generalize hq : ([_, _, _, _, _, _, _] : List ByteArray) = q
  have hlen : q.length = 7 := by rw [← hq]; rfl
  have hb : ∀ s ∈ q, s.size ≤ 1000 := by rw [← hq]; decide
  obtain ⟨j, i', h', hj, e, p0, p1⟩ := l1Pick_ok l hl i h h0 h1 q (by omega)
  have := rdOf_bound hb j hj
  rw [e, Option.bind_some]
  simp only
  rw [if_pos (by omega)]
  exact ⟨_, _, _, rfl, p0, p1⟩
theorem bank_l0 (l : List Int) (hl : l.length ≤ 140737488351232) : ∀ (d j : Nat) (x : List Int) (i h : Int), 256 - j = d → j ≤ 256 → x.length = 256 → 0 ≤ i → i ≤ l.length → ∀ k, d < k → ∃ r i' h', spec_l2DrawBank.l0 k x (j : Int) l i h = some (r, i', h') ∧ r.length = 256 ∧ 0 ≤ i' ∧ i' ≤ l.length := by
  intro d
  induction d with
  | zero =>
    intro j x i h hd hj hx h0 h1 k hk
    obtain ⟨k, rfl⟩ : ∃ q, k = q + 1 := ⟨k - 1, by omega⟩
    simp only [spec_l2DrawBank.l0]
    rw [if_neg (by omega)]
    exact ⟨_, _, _, rfl, hx, h0, h1⟩
  | succ d ih =>
    intro j x i h hd hj hx h0 h1 k hk
    obtain ⟨k, rfl⟩ : ∃ q, k = q + 1 := ⟨k - 1, by omega⟩
    simp only [spec_l2DrawBank.l0]
    rw [if_pos (by omega), wrap_nat (by omega)]
    obtain ⟨t, i1, g1, e1, _, _, _, p0, p1⟩ := l1Below_ok l hl i h h0 h1 4
    rw [e1, Option.bind_some]
    simp only
    split
    · obtain ⟨u, i2, g2, e2, _, _, _, q0, q1⟩ := l1Below_ok l hl i1 g1 p0 p1 30
      rw [e2, Option.bind_some, if_pos (by omega), if_pos (by omega)]
      exact ih (j + 1) _ _ _ (by omega) (by omega) (by simpa using hx) q0 q1 k (by omega)
    · split
      · obtain ⟨u, i2, g2, e2, _, q0, q1⟩ := l1PickInt_ok l hl i1 g1 p0 p1 [32, 64, 0, 1, 22, 192, 128, 2, 4, 5] (by decide)
        rw [e2, Option.bind_some, if_pos (by omega), if_pos (by omega)]
        exact ih (j + 1) _ _ _ (by omega) (by omega) (by simpa using hx) q0 q1 k (by omega)
      · split
        · obtain ⟨u, i2, g2, e2, _, _, _, q0, q1⟩ := l1Below_ok l hl i1 g1 p0 p1 256
          rw [e2, Option.bind_some, if_pos (by omega), if_pos (by omega)]
          exact ih (j + 1) _ _ _ (by omega) (by omega) (by simpa using hx) q0 q1 k (by omega)
        · exact ih (j + 1) _ _ _ (by omega) (by omega) hx p0 p1 k (by omega)
theorem bank_ok (l : List Int) (hl : l.length ≤ 140737488351232) (i h : Int) (h0 : 0 ≤ i) (h1 : i ≤ l.length) (k : Nat) (hk : 1000 < k) : ∃ r i' h', spec_l2DrawBank.f k l i h = some (r, i', h') ∧ r.length = 256 ∧ 0 ≤ i' ∧ i' ≤ l.length := by
  unfold spec_l2DrawBank.f
  rw [if_pos (by decide)]
  exact bank_l0 l hl 256 0 _ i h (by omega) (by omega) List.length_replicate h0 h1 k (by omega)
theorem last6_len (r : List Int) : (last6 r).length = r.length := by unfold last6; simp only [List.length_set]
theorem rdL_at (X : List (List Int)) (h256 : ∀ r ∈ X, r.length = 256) (j : Int) (h0 : 0 ≤ j) (h1 : j < X.length) : (rd_L3 X j).length = 256 := by
  obtain ⟨m, rfl⟩ := Int.eq_ofNat_of_zero_le h0
  exact h256 _ (rdL_mem X m (by omega))
theorem lastSix_rows (X : List (List Int)) (h256 : ∀ r ∈ X, r.length = 256) (j : Int) (h0 : 0 ≤ j) (h1 : j < X.length) : ∀ r ∈ lastSix X j, r.length = 256 := by
  intro r hr
  unfold lastSix at hr
  rcases List.mem_or_eq_of_mem_set hr with hr | rfl
  · exact h256 r hr
  · rw [last6_len, rdL_at X h256 j h0 h1]
theorem right_l0 (l : List Int) (hl : l.length ≤ 140737488351232) (n : Nat) (hn0 : 1 ≤ n) (hn : n ≤ 3) : ∀ (d j : Nat) (X : List (List Int)) (i h : Int), n - j = d → j ≤ n → X.length = j → (∀ r ∈ X, r.length = 256) → 0 ≤ i → i ≤ l.length → ∀ k, 5000000 + d < k →
    ∃ Y i' h', spec_l2DrawRight.l0 k (n : Int) (j : Int) l i h X = some (Y, i', h') ∧ Y.length = n ∧ (∀ r ∈ Y, r.length = 256) ∧ 0 ≤ i' ∧ i' ≤ l.length := by
  intro d
  induction d with
  | zero =>
    intro j X i h hd hj hX h256 h0 h1 k hk
    obtain ⟨k, rfl⟩ : ∃ q, k = q + 1 := ⟨k - 1, by omega⟩
    simp only [spec_l2DrawRight.l0]
    have hw : wrap64 ((n : Int) - 1) = (n : Int) - 1 := wrap_small (by omega) (by omega)
    rw [if_neg (by omega), hw]
    obtain ⟨t, i1, g1, e1, p0, p1⟩ := l1Once_ok l hl i h h0 h1 4
    have hA := rdL_at X h256 ((n : Int) - 1) (by omega) (by omega)
    rw [e1, Option.bind_some]
    simp only
    split
    · repeat rw [if_pos (by omega)]
      exact ⟨_, _, _, rfl, by unfold lastSix; rw [List.length_set]; omega, lastSix_rows X h256 _ (by omega) (by omega), p0, p1⟩
    · obtain ⟨s, i2, g2, e2, q0, q1⟩ := main_ok l hl i1 g1 p0 p1
      obtain ⟨⟨bank, c⟩, e3, hb⟩ := asm_total s k (by omega)
      rw [e2, Option.bind_some]
      simp only
      rw [e3, Option.bind_some]
      simp only
      split
      · have hY : ∀ r ∈ X.set ((n : Int) - 1).toNat bank, r.length = 256 := by
          intro r hr
          rcases List.mem_or_eq_of_mem_set hr with hr | rfl
          · exact h256 r hr
          · omega
        have hl2 : (X.set ((n : Int) - 1).toNat bank).length = X.length := List.length_set
        have hB := rdL_at _ hY ((n : Int) - 1) (by omega) (by omega)
        rw [if_pos (by omega), if_pos (by omega), if_pos hB]
        exact ⟨_, _, _, rfl, by unfold lastSix; rw [List.length_set]; omega, lastSix_rows _ hY _ (by omega) (by omega), q0, q1⟩
      · repeat rw [if_pos (by omega)]
        exact ⟨_, _, _, rfl, by unfold lastSix; rw [List.length_set]; omega, lastSix_rows X h256 _ (by omega) (by omega), q0, q1⟩
  | succ d ih =>
    intro j X i h hd hj hX h256 h0 h1 k hk
    obtain ⟨k, rfl⟩ : ∃ q, k = q + 1 := ⟨k - 1, by omega⟩
    simp only [spec_l2DrawRight.l0]
    obtain ⟨r, i1, g1, e1, hr, p0, p1⟩ := bank_ok l hl i h h0 h1 k (by omega)
    rw [if_pos (by omega), e1, Option.bind_some, wrap_nat (by omega)]
    simp only
    rw [if_pos (by omega)]
    exact ih (j + 1) _ _ _ (by omega) (by omega) (by simp; omega) (by
      intro q hq
      rcases List.mem_append.1 hq with hq | hq
      · exact h256 q hq
      · rw [List.mem_singleton.1 hq]; exact hr) p0 p1 k (by omega)
theorem right_ok (l : List Int) (hl : l.length ≤ 140737488351232) (i h : Int) (h0 : 0 ≤ i) (h1 : i ≤ l.length) (k : Nat) (hk : 6000000 < k) : ∃ X i' h', spec_l2DrawRight.f k l i h = some (X, i', h') ∧ 1 ≤ X.length ∧ X.length ≤ 3 ∧ (∀ r ∈ X, r.length = 256) ∧ 0 ≤ i' ∧ i' ≤ l.length := by
  unfold spec_l2DrawRight.f
  obtain ⟨t, i1, g1, e1, t0, t1, _, p0, p1⟩ := l1Below_ok l hl i h h0 h1 3
  have t2 := t1 (by omega)
  rw [e1, Option.bind_some]
  simp only
  rw [wrap_small (n := 1 + t) (by omega) (by omega)]
  obtain ⟨n, rfl⟩ := Int.eq_ofNat_of_zero_le t0
  obtain ⟨Y, i', h', e, hY, hr, q0, q1⟩ := right_l0 l hl (n + 1) (by omega) (by omega) (n + 1) 0 [] i1 g1 (by omega) (by omega) rfl (by simp) p0 p1 k (by omega)
  refine ⟨Y, i', h', ?_, by omega, by omega, hr, q0, q1⟩
  rw [← e]
  congr 1
  push_cast
  omega

theorem draw2_ok (l : List Int) (hl : l.length ≤ 140737488351232) (i h : Int) (h0 : 0 ≤ i) (h1 : i ≤ l.length) (k : Nat) (hk : 6000000 < k) : ∃ X i' h', spec_l2Draw.f k l i h = some (X, i', h') ∧ X.length ≤ 3 ∧ (∀ r ∈ X, r.length ≤ 256) ∧ 0 ≤ i' ∧ i' ≤ l.length := by
  unfold spec_l2Draw.f
  obtain ⟨X, i1, g1, e1, x0, x1, hr, p0, p1⟩ := right_ok l hl i h h0 h1 k hk
  obtain ⟨t, i2, g2, e2, _, _, _, q0, q1⟩ := l1Below_ok l hl i1 g1 p0 p1 15
  have hA := rdL_at X hr 0 (by omega) (by omega)
  have hle : ∀ r ∈ X, r.length ≤ 256 := fun r h => by rw [hr r h]; omega
  rw [e1, Option.bind_some]
  simp only
  rw [e2, Option.bind_some]
  simp only
  split
  · rw [if_pos ⟨by omega, by omega⟩]
    refine ⟨_, _, _, rfl, by rw [List.length_set]; omega, fun r h => ?_, q0, q1⟩
    rcases List.mem_or_eq_of_mem_set h with h | rfl
    · exact hle r h
    · rw [List.length_drop]; omega
  · split
    · obtain ⟨p, i3, g3, e3, _, s0, s1⟩ := l1PickInt_ok l hl i2 g2 q0 q1 [-1, 256] (by decide)
      rw [if_pos ⟨by omega, by omega⟩, e3, Option.bind_some]
      refine ⟨_, _, _, rfl, by rw [List.length_set]; omega, fun r h => ?_, s0, s1⟩
      rcases List.mem_or_eq_of_mem_set h with h | rfl
      · exact hle r h
      · rw [List.length_set]; omega
    · split
      · exact ⟨_, _, _, rfl, by simp, by simp, q0, q1⟩
      · exact ⟨_, _, _, rfl, x1, hle, q0, q1⟩

theorem mem_l0 (l : List Int) (hl : l.length ≤ 140737488351232) (X : List (List Int)) (hX : X.length ≤ 3) : ∀ (d j : Nat) (i h : Int) (r : List Int) (b : Int), 20 - j = d → j ≤ 20 → r.length = 512 → 0 ≤ i → i ≤ l.length → ∀ k, d < k →
    ∃ q c i' h', spec_l6DrawMem.l0 k (j : Int) l i h X r b = some (q, c, i', h') ∧ q.length ≤ 512 ∧ 0 ≤ i' ∧ i' ≤ l.length := by
  intro d
  induction d with
  | zero =>
    intro j i h r b hd hj hr h0 h1 k hk
    obtain ⟨k, rfl⟩ : ∃ q, k = q + 1 := ⟨k - 1, by omega⟩
    simp only [spec_l6DrawMem.l0]
    rw [if_neg (by omega)]
    have hm : ∃ t, spec_l1Max.f (X.length : Int) 1 = some t := by
      unfold spec_l1Max.f
      split <;> exact ⟨_, rfl⟩
    obtain ⟨t, et⟩ := hm
    rw [et, Option.bind_some]
    obtain ⟨u, i1, g1, e1, _, _, _, p0, p1⟩ := l1Below_ok l hl i h h0 h1 t
    rw [e1, Option.bind_some]
    simp only
    obtain ⟨v, i2, g2, e2, _, _, _, q0, q1⟩ := l1Below_ok l hl i1 g1 p0 p1 30
    rw [e2, Option.bind_some]
    simp only
    split
    · obtain ⟨p, i3, g3, e3, _, s0, s1⟩ := l1PickInt_ok l hl i2 g2 q0 q1 [(-1), 8] (by decide)
      rw [e3, Option.bind_some]
      exact ⟨_, _, _, _, rfl, by omega, s0, s1⟩
    · split
      · rw [if_pos (by omega)]
        exact ⟨_, _, _, _, rfl, by rw [List.length_drop]; omega, q0, q1⟩
      · split
        · rw [if_pos (by omega)]
          exact ⟨_, _, _, _, rfl, by rw [List.length_set]; omega, q0, q1⟩
        · exact ⟨_, _, _, _, rfl, by omega, q0, q1⟩
  | succ d ih =>
    intro j i h r b hd hj hr h0 h1 k hk
    obtain ⟨k, rfl⟩ : ∃ q, k = q + 1 := ⟨k - 1, by omega⟩
    simp only [spec_l6DrawMem.l0]
    rw [if_pos (by omega), wrap_nat (by omega)]
    obtain ⟨p, i1, g1, e1, hp, p0, p1⟩ := l1PickInt_ok l hl i h h0 h1 [0, 1, 16, 255, 256, 257, 510, 511, 258, 300] (by decide)
    rw [e1, Option.bind_some]
    simp only
    obtain ⟨u, i2, g2, e2, _, _, _, q0, q1⟩ := l1Below_ok l hl i1 g1 p0 p1 256
    have hpb : 0 ≤ p ∧ p < 512 := by
      simp only [List.mem_cons, List.not_mem_nil, or_false] at hp
      omega
    rw [e2, Option.bind_some, if_pos hpb.1, if_pos (by omega)]
    exact ih (j + 1) _ _ _ _ (by omega) (by omega) (by rw [List.length_set]; exact hr) q0 q1 k (by omega)
theorem drawMem_ok (l : List Int) (hl : l.length ≤ 140737488351232) (X : List (List Int)) (hX : X.length ≤ 3) (i h : Int) (h0 : 0 ≤ i) (h1 : i ≤ l.length) (k : Nat) (hk : 100 < k) : ∃ q c i' h', spec_l6DrawMem.f k l i h X = some (q, c, i', h') ∧ q.length ≤ 512 ∧ 0 ≤ i' ∧ i' ≤ l.length := by
  unfold spec_l6DrawMem.f spec_MemNew.f
  rw [if_pos (by decide), Option.bind_some]
  exact mem_l0 l hl X hX 20 0 i h _ _ (by omega) (by omega) List.length_replicate h0 h1 k (by omega)
theorem draw6_ok (l : List Int) (hl : l.length ≤ 140737488351232) (i h : Int) (h0 : 0 ≤ i) (h1 : i ≤ l.length) (k : Nat) (hk : 6000000 < k) : ∃ X q c i' h', spec_l6Draw.f k l i h = some (X, q, c, i', h') ∧ X.length ≤ 3 ∧ (∀ r ∈ X, r.length ≤ 256) ∧ q.length ≤ 512 ∧ 0 ≤ i' ∧ i' ≤ l.length := by
  unfold spec_l6Draw.f
  obtain ⟨X, i1, g1, e1, x0, x1, hr, p0, p1⟩ := right_ok l hl i h h0 h1 k hk
  rw [e1, Option.bind_some]
  simp only
  obtain ⟨t, i2, g2, e2, q0, q1⟩ := l1Once_ok l hl i1 g1 p0 p1 20
  rw [e2, Option.bind_some]
  simp only
  split
  · obtain ⟨Y, i3, g3, e3, y1, yr, s0, s1⟩ := draw2_ok l hl i2 g2 q0 q1 k hk
    rw [e3, Option.bind_some]
    simp only
    obtain ⟨q, c, i4, g4, e4, hq, u0, u1⟩ := drawMem_ok l hl Y y1 i3 g3 s0 s1 k (by omega)
    rw [e4]
    exact ⟨_, _, _, _, _, rfl, y1, yr, hq, u0, u1⟩
  · obtain ⟨q, c, i4, g4, e4, hq, u0, u1⟩ := drawMem_ok l hl X x1 i2 g2 q0 q1 k (by omega)
    rw [e4]
    exact ⟨_, _, _, _, _, rfl, x1, fun r h => by rw [hr r h]; omega, hq, u0, u1⟩

theorem l1DrawInt_ok (l : List Int) (hl : l.length ≤ 140737488351232) (i h : Int) (h0 : 0 ≤ i) (h1 : i ≤ l.length) : ∃ r i' h' : Int, spec_l1DrawInt.f l i h = some (r, i', h') ∧ 0 ≤ i' ∧ i' ≤ l.length := by
  unfold spec_l1DrawInt.f
  obtain ⟨b, i1, g1, e1, p0, p1⟩ := l1Once_ok l hl i h h0 h1 9
  rw [e1]
  simp only [Option.bind_some]
  by_cases hb : b = true
  · rw [if_pos hb]
    obtain ⟨r, i2, g2, e2, _, q0, q1⟩ := l1PickInt_ok l hl i1 g1 p0 p1 [(-1), 256, 65535, 65536, 9223372036854775807, (-9223372036854775808), 511] (by decide)
    rw [e2]
    exact ⟨_, _, _, rfl, q0, q1⟩
  · rw [if_neg hb]
    obtain ⟨r, i2, g2, e2, _, _, _, q0, q1⟩ := l1Below_ok l hl i1 g1 p0 p1 256
    rw [e2]
    exact ⟨_, _, _, rfl, q0, q1⟩

theorem l5Right_ok (l : List Int) (hl : l.length ≤ 140737488351232) (i h : Int) (h0 : 0 ≤ i) (h1 : i ≤ l.length) : ∃ (a x s p : Int) (z n c b : Bool) (i' h' : Int), spec_l5DrawRight.f l i h = some (a, x, s, p, z, n, c, b, i', h') ∧ 0 ≤ i' ∧ i' ≤ l.length := by
  unfold spec_l5DrawRight.f
  obtain ⟨a, i1, g1, e1, _, _, _, p0, p1⟩ := l1Below_ok l hl i h h0 h1 256
  rw [e1, Option.bind_some]
  simp only
  obtain ⟨x, i2, g2, e2, _, _, _, q0, q1⟩ := l1Below_ok l hl i1 g1 p0 p1 256
  rw [e2, Option.bind_some]
  simp only
  obtain ⟨s, i3, g3, e3, _, r0, r1⟩ := l1PickInt_ok l hl i2 g2 q0 q1 [0, 1, 2, 255, 254, 128] (by decide)
  rw [e3, Option.bind_some]
  simp only
  obtain ⟨p, i4, g4, e4, _, s0, s1⟩ := l1PickInt_ok l hl i3 g3 r0 r1 [0, 49152, 49200, 65535, 65534, 32768, 8192, 511] (by decide)
  rw [e4, Option.bind_some]
  simp only
  obtain ⟨f, i5, g5, e5, _, _, _, t0, t1⟩ := l1Below_ok l hl i4 g4 s0 s1 256
  rw [e5, Option.bind_some]
  unfold spec_WithFlags.f
  simp only [Option.bind_some]
  exact ⟨_, _, _, _, _, _, _, _, _, _, rfl, t0, t1⟩
theorem l5Draw_ok (l : List Int) (hl : l.length ≤ 140737488351232) (i h : Int) (h0 : 0 ≤ i) (h1 : i ≤ l.length) : ∃ (a x s p : Int) (z n c b : Bool) (i' h' : Int), spec_l5Draw.f l i h = some (a, x, s, p, z, n, c, b, i', h') ∧ 0 ≤ i' ∧ i' ≤ l.length := by
  unfold spec_l5Draw.f
  obtain ⟨a, x, s, p, z, n, c, b, i1, g1, e1, p0, p1⟩ := l5Right_ok l hl i h h0 h1
  rw [e1, Option.bind_some]
  simp only
  obtain ⟨t, i2, g2, e2, _, _, _, q0, q1⟩ := l1Below_ok l hl i1 g1 p0 p1 25
  obtain ⟨u, i3, g3, e3, r0, r1⟩ := l1DrawInt_ok l hl i2 g2 q0 q1
  rw [e2, Option.bind_some]
  simp only
  rw [e3]
  split
  · exact ⟨_, _, _, _, _, _, _, _, _, _, rfl, r0, r1⟩
  · split
    · exact ⟨_, _, _, _, _, _, _, _, _, _, rfl, r0, r1⟩
    · split
      · exact ⟨_, _, _, _, _, _, _, _, _, _, rfl, r0, r1⟩
      · split
        · obtain ⟨y, i4, g4, e4, _, s0, s1⟩ := l1PickInt_ok l hl i2 g2 q0 q1 [(-1), 65536] (by decide)
          rw [e4]
          exact ⟨_, _, _, _, _, _, _, _, _, _, rfl, s0, s1⟩
        · exact ⟨_, _, _, _, _, _, _, _, _, _, rfl, q0, q1⟩

theorem implOpLen (a : Int) (k : Nat) (hk : 1 ≤ k) : impl_OpLen.f k a = some (opLenV a) := by
  obtain ⟨k, rfl⟩ : ∃ q, k = q + 1 := ⟨k - 1, by omega⟩
  unfold impl_OpLen.f opLenV
  by_cases h1 : a = 1
  · subst h1; simp [impl_OpLen.j0]
  · rw [if_neg h1, within_eq, Option.bind_some]
    simp only [impl_OpLen.j0]
    by_cases h2 : 4 ≤ a ∧ a ≤ 9
    · simp [h2]
    · have e : decide (4 ≤ a ∧ a ≤ 9) = false := decide_eq_false h2
      rw [e]
      simp only [Bool.false_eq_true, if_false, within_eq, Option.bind_some, h1, h2, or_self]
      by_cases h3 : a = 2
      · subst h3; simp
      · by_cases h4 : a = 3
        · subst h4; simp
        · by_cases h5 : 14 ≤ a ∧ a ≤ 20
          · simp [h3, h4, h5]
          · by_cases h6 : a = 29
            · subst h6; simp
            · have e5 : decide (14 ≤ a ∧ a ≤ 20) = false := decide_eq_false h5
              simp [h3, h4, h5, h6, e5]

theorem specCopy (l : List Int) (b : Int) (hl : l.length < 17592186044416) : spec_l6Copy.f l b = some (l, b) := by
  unfold spec_l6Copy.f
  simp only [Option.bind_some]
  rw [if_pos (by simpa using hl), List.nil_append]
theorem implCopy (l : List Int) (b : Int) (hl : l.length < 17592186044416) : impl_copyMem.f l b = some (l, b) := by
  unfold impl_copyMem.f impl_copyInts.f
  simp only [Option.bind_some]
  rw [if_pos (by simpa using hl), List.nil_append]
  rfl

theorem low_nat (n : Int) : (BitVec.ofInt 64 (n % 256)).toNat = (BitVec.ofInt 64 n).toNat % 2 ^ 8 := by
  rw [BitVec.toNat_ofInt, BitVec.toNat_ofInt]
  omega
theorem wrapn_mod (x : Nat) : IntKind.i64.wrap (x : Int) % 256 = (x : Int) % 256 := by
  rw [IntKind.wrap_i64]
  omega
theorem and_mod (n m : Int) : Go.bits .and .i64 n m % 256 = Go.bits .and .i64 (n % 256) (m % 256) % 256 := by
  show IntKind.i64.wrap ((BitVec.ofInt 64 n &&& BitVec.ofInt 64 m).toNat : Nat) % 256 = IntKind.i64.wrap ((BitVec.ofInt 64 (n % 256) &&& BitVec.ofInt 64 (m % 256)).toNat : Nat) % 256
  rw [wrapn_mod, wrapn_mod, BitVec.toNat_and, BitVec.toNat_and, low_nat, low_nat, ← Nat.and_mod_two_pow]
  omega
theorem or_mod (n m : Int) : Go.bits .or .i64 n m % 256 = Go.bits .or .i64 (n % 256) (m % 256) % 256 := by
  show IntKind.i64.wrap ((BitVec.ofInt 64 n ||| BitVec.ofInt 64 m).toNat : Nat) % 256 = IntKind.i64.wrap ((BitVec.ofInt 64 (n % 256) ||| BitVec.ofInt 64 (m % 256)).toNat : Nat) % 256
  rw [wrapn_mod, wrapn_mod, BitVec.toNat_or, BitVec.toNat_or, low_nat, low_nat, ← Nat.or_mod_two_pow]
  omega
theorem xor_mod (n m : Int) : Go.bits .xor .i64 n m % 256 = Go.bits .xor .i64 (n % 256) (m % 256) % 256 := by
  show IntKind.i64.wrap ((BitVec.ofInt 64 n ^^^ BitVec.ofInt 64 m).toNat : Nat) % 256 = IntKind.i64.wrap ((BitVec.ofInt 64 (n % 256) ^^^ BitVec.ofInt 64 (m % 256)).toNat : Nat) % 256
  rw [wrapn_mod, wrapn_mod, BitVec.toNat_xor, BitVec.toNat_xor, low_nat, low_nat, ← Nat.xor_mod_two_pow]
  omega
theorem setAK_of (k : Cp) (v u : Int) (h : v % 256 = u % 256) : setAK k v = setAK k u := by
  unfold setAK
  rw [h]
theorem setXK_of (k : Cp) (v u : Int) (h : v % 256 = u % 256) : setXK k v = setXK k u := by
  unfold setXK
  rw [h]
theorem wrap_mod (n : Int) : wrap64 n % 256 = n % 256 := by unfold wrap64; omega
theorem addK_mod (k : Cp) (v : Int) : addK k (v % 256) = addK k v := by
  have e : impl_Add8.f k.A (v % 256) k.C = impl_Add8.f k.A v k.C := by
    unfold impl_Add8.f impl_Byte.f
    simp only [Option.bind_some, LFnCalled.and255, Int.emod_emod_of_dvd _ (Int.dvd_refl 256)]
  unfold addK
  rw [e]
theorem sub_is (a b : Int) (c : Bool) : spec_Sub8.f a b c = impl_Sub8.f a b c := by
  unfold spec_Sub8.f impl_Sub8.f spec_Byte.f impl_Byte.f spec_l1Bit.f impl_flag.f
  simp only [Option.bind_some, LFnCalled.and255]
  cases c <;> simp only [Bool.not_true, Bool.not_false, Bool.false_eq_true, if_true, if_false, Option.bind_some, Option.some.injEq, Prod.mk.injEq, decide_eq_decide]
  · refine ⟨?_, ?_⟩ <;> (unfold wrap64; omega)
  · refine ⟨?_, ?_⟩ <;> (unfold wrap64; omega)
theorem subS_is (k : Cp) (v : Int) : subS k v = subK k v := by
  unfold subS subK
  rw [sub_is]
theorem cmp_is (k : Cp) (v : Int) : cmpS k v = cmpK k v := by
  have e : impl_Sub8.f k.A v true = some (wrap64 (k.A % 256 - v % 256) % 256, decide (k.A % 256 ≥ v % 256)) := by
    unfold impl_Sub8.f impl_Byte.f impl_flag.f
    simp only [Bool.not_true, Bool.false_eq_true, if_false, Option.bind_some, LFnCalled.and255]
    rw [LFnCalled.wrap_small (n := k.A % 256 - v % 256) (by omega) (by omega), LFnCalled.wrap_small (n := k.A % 256 - v % 256 - 0) (by omega) (by omega)]
    simp only [Option.some.injEq, Prod.mk.injEq, decide_eq_decide]
    omega
  unfold cmpS cmpK
  rw [e]
  simp only [Option.getD_some, Int.emod_emod_of_dvd _ (Int.dvd_refl 256)]
theorem spull_is (ram : List Int) (k : Cp) : spullF ram k = ((pullF ram k).1, (pullF ram k).2 % 256) := by
  unfold spullF pullF
  split <;> simp
theorem sback_is (ram : List Int) (k : Cp) : sbackF ram k = backF ram k := by
  unfold sbackF backF
  simp only [spull_is, Int.emod_emod_of_dvd _ (Int.dvd_refl 256)]
theorem of_low (n : Int) : BitVec.ofInt 64 (n % 256) = BitVec.ofInt 64 n &&& BitVec.ofInt 64 255 := by
  apply BitVec.eq_of_toNat_eq
  rw [BitVec.toNat_and, BitVec.toNat_ofInt, BitVec.toNat_ofInt, show (BitVec.ofInt 64 255).toNat = 2 ^ 8 - 1 by decide, Nat.and_two_pow_sub_one_eq_mod]
  omega
theorem and_twice (n m : Int) (h : BitVec.ofInt 64 255 &&& BitVec.ofInt 64 m = BitVec.ofInt 64 m) : Go.bits .and .i64 (n % 256) m = Go.bits .and .i64 n m := by
  show IntKind.i64.wrap ((BitVec.ofInt 64 (n % 256) &&& BitVec.ofInt 64 m).toNat : Nat) = IntKind.i64.wrap ((BitVec.ofInt 64 n &&& BitVec.ofInt 64 m).toNat : Nat)
  rw [of_low, BitVec.and_assoc, h]
theorem flagK_mod (k : Cp) (v : Int) : flagK k (v % 256) = flagK k v := by
  unfold flagK
  rw [and_twice v 2 (by decide), and_twice v 128 (by decide), and_twice v 1 (by decide), and_twice v 4 (by decide)]
theorem setAK_mod (k : Cp) (v : Int) : setAK k (v % 256) = setAK k v := setAK_of k _ _ (by omega)
theorem and_is (k : Cp) (v : Int) : andS k v = setAK k (Go.bits .and .i64 k.A v) := setAK_of k _ _ (and_mod _ _).symm
theorem or_is (k : Cp) (v : Int) : orS k v = setAK k (Go.bits .or .i64 k.A v) := setAK_of k _ _ (or_mod _ _).symm
theorem xor_is (k : Cp) (v : Int) : xorS k v = setAK k (Go.bits .xor .i64 k.A v) := setAK_of k _ _ (xor_mod _ _).symm
theorem inc_is (k : Cp) : incS k = setXK k (wrap64 (k.X + 1)) := setXK_of k _ _ (by rw [wrap_mod, wrap_mod]; omega)
theorem dec_is (k : Cp) : decS k = setXK k (wrap64 (k.X - 1)) := setXK_of k _ _ (by rw [wrap_mod, wrap_mod]; omega)
theorem exec_is (ram : List Int) (k : Cp) (op arg v ln : Int) : execF ram k op arg v ln = sexecF ram k op arg v ln := by
  unfold execF sexecF
  generalize ({ k with P := wrap64 (k.P + ln) % 65536 } : Cp) = c
  by_cases h : 1 ≤ op ∧ op ≤ 29
  · rcases (show op = 1 ∨ op = 2 ∨ op = 3 ∨ op = 4 ∨ op = 5 ∨ op = 6 ∨ op = 7 ∨ op = 8 ∨ op = 9 ∨ op = 10 ∨ op = 11 ∨ op = 12 ∨ op = 13 ∨ op = 14 ∨ op = 15 ∨ op = 16 ∨ op = 17 ∨ op = 18 ∨ op = 19 ∨ op = 20 ∨ op = 21 ∨ op = 22 ∨ op = 23 ∨ op = 24 ∨ op = 25 ∨ op = 26 ∨ op = 27 ∨ op = 28 ∨ op = 29 by omega) with rfl | rfl | rfl | rfl | rfl | rfl | rfl | rfl | rfl | rfl | rfl | rfl | rfl | rfl | rfl | rfl | rfl | rfl | rfl | rfl | rfl | rfl | rfl | rfl | rfl | rfl | rfl | rfl | rfl
    all_goals simp only [reckonF, turnF, aluF, flowF, switchF, Int.reduceEq, if_true, if_false, Bool.false_eq_true, setAK_mod, addK_mod, subS_is, cmp_is, sback_is, spull_is, flagK_mod, and_is, or_is, xor_is, inc_is, dec_is]
  · have hne : ∀ j : Int, 1 ≤ j → j ≤ 29 → ¬ op = j := fun j h1 h2 e => h (by omega)
    have e1 : reckonF c op arg (v % 256) = (c, false) := by
      unfold reckonF
      simp only [hne 1 (by decide) (by decide), hne 2 (by decide) (by decide), hne 14 (by decide) (by decide), hne 4 (by decide) (by decide), hne 29 (by decide) (by decide), hne 5 (by decide) (by decide), hne 6 (by decide) (by decide), hne 7 (by decide) (by decide), hne 8 (by decide) (by decide), hne 9 (by decide) (by decide), if_false]
    have e2 : turnF c op = (c, false) := by
      unfold turnF
      simp only [hne 10 (by decide) (by decide), hne 11 (by decide) (by decide), hne 12 (by decide) (by decide), hne 13 (by decide) (by decide), hne 25 (by decide) (by decide), hne 26 (by decide) (by decide), hne 27 (by decide) (by decide), hne 28 (by decide) (by decide), if_false]
    have e3 : aluF c op arg v = (c, false) := by
      unfold aluF
      simp only [hne 1 (by decide) (by decide), hne 2 (by decide) (by decide), hne 14 (by decide) (by decide), hne 4 (by decide) (by decide), hne 29 (by decide) (by decide), hne 5 (by decide) (by decide), hne 6 (by decide) (by decide), hne 7 (by decide) (by decide), hne 8 (by decide) (by decide), hne 9 (by decide) (by decide), hne 10 (by decide) (by decide), hne 11 (by decide) (by decide), hne 12 (by decide) (by decide), hne 13 (by decide) (by decide), if_false]
    rw [e1, e2, e3]
    simp only [Bool.false_eq_true, if_false]
    unfold flowF switchF
    simp only [hne 16 (by decide) (by decide), hne 17 (by decide) (by decide), hne 18 (by decide) (by decide), hne 19 (by decide) (by decide), hne 20 (by decide) (by decide), hne 21 (by decide) (by decide), hne 22 (by decide) (by decide), hne 23 (by decide) (by decide), hne 24 (by decide) (by decide), hne 25 (by decide) (by decide), hne 26 (by decide) (by decide), hne 27 (by decide) (by decide), hne 28 (by decide) (by decide), if_false]
theorem sexec_len (ram : List Int) (k : Cp) (op arg v ln : Int) : (sexecF ram k op arg v ln).1.length = ram.length := by
  have hp : ∀ (r : List Int) (q : Cp) (x : Int), (pushF r q x).1.length = r.length := fun r q x => (pushF_keeps r q x).2
  unfold sexecF
  generalize ({ k with P := wrap64 (k.P + ln) % 65536 } : Cp) = c
  by_cases h : (aluF c op arg v).2 = true
  · rw [if_pos h]
  rw [if_neg h]
  unfold switchF
  by_cases h16 : op = 16
  · rw [if_pos h16]
  rw [if_neg h16]
  by_cases h17 : op = 17
  · rw [if_pos h17]
  rw [if_neg h17]
  by_cases h18 : op = 18
  · rw [if_pos h18]
  rw [if_neg h18]
  by_cases h19 : op = 19
  · rw [if_pos h19]
  rw [if_neg h19]
  by_cases h20 : op = 20
  · rw [if_pos h20]
    show (pushPcF _ _).1.length = _
    unfold pushPcF
    rw [hp, hp]
  rw [if_neg h20]
  by_cases h21 : op = 21
  · rw [if_pos h21]
  rw [if_neg h21]
  by_cases h22 : op = 22
  · rw [if_pos h22]
    exact hp _ _ _
  rw [if_neg h22]
  by_cases h23 : op = 23
  · rw [if_pos h23]
  rw [if_neg h23]
  by_cases h24 : op = 24
  · rw [if_pos h24]
  rw [if_neg h24]
  by_cases h25 : op = 25
  · rw [if_pos h25]
  rw [if_neg h25]
  by_cases h26 : op = 26
  · rw [if_pos h26]
  rw [if_neg h26]
  by_cases h27 : op = 27
  · rw [if_pos h27]
  rw [if_neg h27]
  by_cases h28 : op = 28
  · rw [if_pos h28]
  rw [if_neg h28]
theorem exec_both (l : List Int) (b : Int) (c : Cp) (op arg v : Int) (hl : l.length < 17592186044416) (k : Nat) (hk : 1 ≤ k) :
    ∃ r : List Int × Int × Int × Int × Int × Int × Bool × Bool × Bool × Bool, spec_Exec.f k l b c.A c.X c.S c.P c.Z c.N c.C c.I op arg v = some r ∧ impl_Exec.f k l b c.A c.X c.S c.P c.Z c.N c.C c.I op arg v = some r ∧ r.1.length = l.length := by
  unfold spec_Exec.f impl_Exec.f
  rw [if_pos hl, implCopy l b hl, implOpLen op k hk, specOpLen, Option.bind_some, Option.bind_some, Option.bind_some]
  refine ⟨_, rfl, ?_, sexec_len _ _ _ _ _ _⟩
  rw [exec_is]

theorem sameInts_l0 (l : List Int) (hl : l.length ≤ 140737488351232) : ∀ (k i : Nat), i ≤ l.length → l.length - i < k → laws_sameInts.l0 k l l (i : Int) = some true := by
  intro k
  induction k with
  | zero => intro i _ h; omega
  | succ k ih =>
    intro i hi h
    simp only [laws_sameInts.l0]
    by_cases hlt : i < l.length
    · have c1 : (i : Int) < (l.length : Int) := by omega
      have c0 : (0 : Int) ≤ (i : Int) := by omega
      simp only [c0, c1, if_true]
      rw [wrap_nat (by omega)]
      exact ih (i + 1) (by omega) (by omega)
    · rw [if_neg (by omega)]
theorem sameInts_self (l : List Int) (hl : l.length ≤ 140737488351232) (k : Nat) (hk : l.length < k) : laws_sameInts.f k l l = some true := by
  unfold laws_sameInts.f
  rw [if_pos rfl]
  exact sameInts_l0 l hl k 0 (by omega) (by omega)

def namesI : List ByteArray := (impl_opNames.f).getD []
theorem namesI_len : namesI.length = 30 := rfl
theorem impl_names : impl_opNames.f = some namesI := rfl
theorem opOfI_l0 (L : List ByteArray) (s : ByteArray) (hL : L.length ≤ 1000) : ∀ (k i : Nat), i ≤ L.length → L.length - i < k →
    ∃ r : Int, slices_Index_string_string.l0 k L s (L.length : Int) (i : Int) = some r ∧
      ((r = -1 ∧ ∀ j : Nat, i ≤ j → j < L.length → (rdOf ByteArray.empty L (j : Int)).toList ≠ s.toList) ∨
        ∃ j : Nat, r = (j : Int) ∧ i ≤ j ∧ j < L.length ∧ (rdOf ByteArray.empty L (j : Int)).toList = s.toList ∧ ∀ m : Nat, i ≤ m → m < j → (rdOf ByteArray.empty L (m : Int)).toList ≠ s.toList) := by
  intro k
  induction k with
  | zero => intro i _ h; omega
  | succ k ih =>
    intro i hi h
    simp only [slices_Index_string_string.l0]
    by_cases hlt : i < L.length
    · have c1 : (i : Int) < (L.length : Int) := by omega
      have c0 : (0 : Int) ≤ (i : Int) := by omega
      simp only [c0, c1, if_true]
      by_cases he : (rdOf ByteArray.empty L (i : Int)).toList = s.toList
      · rw [if_pos he.symm]
        exact ⟨i, rfl, .inr ⟨i, rfl, Nat.le_refl _, hlt, he, fun m h1 h2 => by omega⟩⟩
      · rw [if_neg (fun e => he e.symm), wrap_nat (by omega)]
        obtain ⟨r, h2, h3⟩ := ih (i + 1) (by omega) (by omega)
        refine ⟨r, h2, ?_⟩
        rcases h3 with ⟨hr, h3⟩ | ⟨j, hr, hj, hjl, h3, h4⟩
        · refine .inl ⟨hr, fun j hj hjl => ?_⟩
          rcases Nat.lt_or_ge i j with hij | hij
          · exact h3 j hij hjl
          · have : j = i := by omega
            subst this
            exact he
        · refine .inr ⟨j, hr, by omega, hjl, h3, fun m hm hmj => ?_⟩
          rcases Nat.lt_or_ge i m with him | him
          · exact h4 m him hmj
          · have : m = i := by omega
            subst this
            exact he
    · rw [if_neg (by omega)]
      exact ⟨-1, rfl, .inl ⟨rfl, fun j h1 h2 => by omega⟩⟩
def OpIs (s : ByteArray) (r : Int) : Prop := (r = -1 ∧ ∀ j : Nat, j < 30 → (rdOf ByteArray.empty namesI (j : Int)).toList ≠ s.toList) ∨
      ∃ j : Nat, r = (j : Int) ∧ j < 30 ∧ (rdOf ByteArray.empty namesI (j : Int)).toList = s.toList ∧ ∀ m : Nat, m < j → (rdOf ByteArray.empty namesI (m : Int)).toList ≠ s.toList
theorem OpIs.same {s : ByteArray} {r r' : Int} (h3 : OpIs s r) (h3' : OpIs s r') : r = r' := by
  rcases h3 with ⟨rfl, n⟩ | ⟨j, rfl, hj, hy, hn⟩
  · rcases h3' with ⟨rfl, n'⟩ | ⟨j', rfl, hj', hy', hn'⟩
    · rfl
    · exact absurd hy' (n j' hj')
  · rcases h3' with ⟨rfl, n'⟩ | ⟨j', rfl, hj', hy', hn'⟩
    · exact absurd hy (n' j hj)
    · rcases Nat.lt_trichotomy j j' with h | h | h
      · exact absurd hy (hn' j h)
      · rw [h]
      · exact absurd hy' (hn j' h)
theorem opOfI_ok (s : ByteArray) (k : Nat) (hk : 30 < k) : ∃ r : Int, impl_OpOf.f k s = some r ∧ OpIs s r := by
  have hl := namesI_len
  obtain ⟨r, h2, h3⟩ := opOfI_l0 namesI s (by omega) k 0 (by omega) (by omega)
  refine ⟨r, ?_, ?_⟩
  · unfold impl_OpOf.f slices_Index_string_string.f
    rw [impl_names, Option.bind_some, show ((0 : Int)) = ((0 : Nat) : Int) from rfl, h2, Option.bind_some]
  · rw [hl] at h3
    rcases h3 with ⟨hr, h3⟩ | ⟨j, hr, _, hj, h4, h5⟩
    · exact .inl ⟨hr, fun j hj => h3 j (Nat.zero_le _) hj⟩
    · exact .inr ⟨j, hr, hj, h4, fun m hm => h5 m (Nat.zero_le _) hm⟩
/-- The op's number. -/
def opV (s : ByteArray) : Int := (impl_OpOf.f 100 s).getD (-1)
theorem opV_is (s : ByteArray) : OpIs s (opV s) := by
  obtain ⟨r, h1, h3⟩ := opOfI_ok s 100 (by decide)
  have er : opV s = r := by unfold opV; rw [h1]; rfl
  rw [er]
  exact h3
theorem implOpOf (s : ByteArray) (k : Nat) (hk : 30 < k) : impl_OpOf.f k s = some (opV s) := by
  obtain ⟨r, h1, h3⟩ := opOfI_ok s k hk
  rw [h1, (opV_is s).same h3]
theorem opV_le (s : ByteArray) : opV s ≤ 29 := by
  rcases opV_is s with ⟨h, -⟩ | ⟨j, h, hj, -⟩ <;> omega
end LFnCalled
open LFnCalled

theorem drawInstr_ok (l : List Int) (hl : l.length ≤ 140737488351232) (i h : Int) (h0 : 0 ≤ i) (h1 : i ≤ l.length) : ∃ o g i' h' : Int, spec_l7DrawInstr.f l i h = some (o, g, i', h') ∧ 0 ≤ i' ∧ i' ≤ l.length := by
  unfold spec_l7DrawInstr.f
  obtain ⟨o, i1, g1, e1, _, _, _, p0, p1⟩ := l1Below_ok l hl i h h0 h1 31
  rw [e1, Option.bind_some]
  simp only
  obtain ⟨y, i2, g2, e2, _, _, _, q0, q1⟩ := l1Below_ok l hl i1 g1 p0 p1 256
  rw [e2, Option.bind_some]
  simp only
  obtain ⟨v, i3, g3, e3, _, r0, r1⟩ := l1PickInt_ok l hl i2 g2 q0 q1 [0, 1, 5, 127, 128, 255, 256, 8192, 49152, 65535, y] (Nat.zero_lt_succ _)
  rw [e3, Option.bind_some]
  exact ⟨_, _, _, _, rfl, r0, r1⟩
theorem drawExec_ok (l : List Int) (hl : l.length ≤ 140737488351232) (k : Nat) (hk : l.length < k) (hk2 : 6000000 < k) : ∃ q m a x s p z n c i o g v, spec_DrawExec.f k l = some (q, m, a, x, s, p, z, n, c, i, o, g, v) ∧ q.length ≤ 512 := by
  unfold spec_DrawExec.f
  obtain ⟨h, e⟩ := l1New_ok l hl k hk
  rw [e, Option.bind_some]
  simp only
  obtain ⟨X, q, m, i1, g1, e1, hX, _, hq, p0, p1⟩ := draw6_ok l hl 0 h (by omega) (by omega) k hk2
  rw [e1, Option.bind_some]
  simp only
  obtain ⟨a, x, s, p, z, n, c, i, i2, g2, e2, q0, q1⟩ := l5Draw_ok l hl i1 g1 p0 p1
  rw [e2, Option.bind_some]
  simp only
  obtain ⟨o, g, i3, g3, e3, r0, r1⟩ := drawInstr_ok l hl i2 g2 q0 q1
  rw [e3, Option.bind_some]
  simp only
  obtain ⟨v, i4, g4, e4, _, _⟩ := l1DrawInt_ok l hl i3 g3 r0 r1
  rw [e4, Option.bind_some]
  exact ⟨_, _, _, _, _, _, _, _, _, _, _, _, _, rfl, hq⟩
theorem implExec_is (l : List Int) (b : Int) (c : Cp) (op arg v : Int) (hl : l.length < 17592186044416) (k : Nat) (hk : 1 ≤ k) :
    impl_Exec.f k l b c.A c.X c.S c.P c.Z c.N c.C c.I op arg v = some ((execF l c op arg v (opLenV op)).1, b, (execF l c op arg v (opLenV op)).2.A, (execF l c op arg v (opLenV op)).2.X, (execF l c op arg v (opLenV op)).2.S, (execF l c op arg v (opLenV op)).2.P, (execF l c op arg v (opLenV op)).2.Z, (execF l c op arg v (opLenV op)).2.N, (execF l c op arg v (opLenV op)).2.C, (execF l c op arg v (opLenV op)).2.I) := by
  unfold impl_Exec.f
  rw [implCopy l b hl, implOpLen op k hk, Option.bind_some, Option.bind_some]
theorem opV_jsr : opV (⟨#[106, 115, 114]⟩ : ByteArray) = 20 := by decide +kernel
theorem opV_rts : opV (⟨#[114, 116, 115]⟩ : ByteArray) = 21 := by decide +kernel
theorem opV_pha : opV (⟨#[112, 104, 97]⟩ : ByteArray) = 22 := by decide +kernel
theorem opV_pla : opV (⟨#[112, 108, 97]⟩ : ByteArray) = 23 := by decide +kernel
theorem rd_here (l : List Int) (i : Int) (v : Int) (h0 : 0 ≤ i) (h1 : i < l.length) : rd (l.set i.toNat v) i = v := by
  unfold rd
  simp [List.getD_eq_getElem?_getD, show i.toNat < l.length by omega]
theorem rd_there (l : List Int) (i j : Int) (v : Int) (h0 : 0 ≤ i) (h1 : 0 ≤ j) (h : i ≠ j) : rd (l.set i.toNat v) j = rd l j := by
  unfold rd
  have : i.toNat ≠ j.toNat := by omega
  simp [List.getD_eq_getElem?_getD, List.getElem?_set, this]
theorem step_S (q : Int) (h0 : 0 ≤ q) (h1 : q ≤ 255) : wrap64 (q - 1) % 256 = (q - 1) % 256 ∧ wrap64 (q + 1) % 256 = (q + 1) % 256 := by
  unfold wrap64
  omega
set_option maxHeartbeats 8000000 in
theorem jsr_rts (l : List Int) (A X S P : Int) (Z N C I : Bool) (arg : Int) (h5 : l.length = 512) (s0 : 0 ≤ S) (s1 : S ≤ 255) :
    ∃ l' S', execF l ⟨A, X, S, P, Z, N, C, I⟩ 20 arg 0 3 = (l', ⟨A, X, S', arg % 65536, Z, N, C, I⟩) ∧ l'.length = 512 ∧ execF l' ⟨A, X, S', arg % 65536, Z, N, C, I⟩ 21 0 0 1 = (l', ⟨A, X, S, wrap64 (P + 3) % 65536, Z, N, C, I⟩) := by
  obtain ⟨Q, hQ⟩ : ∃ q, q = wrap64 (P + 3) % 65536 := ⟨_, rfl⟩
  have q0 : 0 ≤ Q := by omega
  have q1 : Q ≤ 65535 := by omega
  obtain ⟨S1, hS1⟩ : ∃ q, q = (S - 1) % 256 := ⟨_, rfl⟩
  obtain ⟨S2, hS2⟩ : ∃ q, q = (S1 - 1) % 256 := ⟨_, rfl⟩
  have a1 := (step_S S s0 s1).1
  have a2 := (step_S S1 (by omega) (by omega)).1
  have a4 := (step_S S2 (by omega) (by omega)).2
  have a5 := (step_S S1 (by omega) (by omega)).2
  have k0 : S % 256 = S := by omega
  have k1 : S1 % 256 = S1 := by omega
  have u4 : wrap64 (S2 + 1) % 256 = S1 := by omega
  have u5 : wrap64 (S1 + 1) % 256 = S := by omega
  have g1 : (l.set (256 + S).toNat (Q / 256 % 256)).length = 512 := by simpa using h5
  have g2 : ((l.set (256 + S).toNat (Q / 256 % 256)).set (256 + S1).toNat (Q % 256)).length = 512 := by simpa using h5
  have hE : execF l ⟨A, X, S, P, Z, N, C, I⟩ 20 arg 0 3 = ((l.set (256 + S).toNat (Q / 256 % 256)).set (256 + S1).toNat (Q % 256), ⟨A, X, S2, arg % 65536, Z, N, C, I⟩) := by
    unfold execF reckonF turnF flowF
    simp only [Int.reduceEq, if_true, if_false, Bool.false_eq_true, ← hQ]
    unfold pushPcF pushF
    simp only [h5, if_true, k0, a1, ← hS1, g1, k1, a2, ← hS2]
  obtain ⟨R, hR⟩ : ∃ R, R = (l.set (256 + S).toNat (Q / 256 % 256)).set (256 + S1).toNat (Q % 256) := ⟨_, rfl⟩
  have r1 : rd R (256 + S1) = Q % 256 := by rw [hR]; exact rd_here _ _ _ (by omega) (by omega)
  have r0 : rd R (256 + S) = Q / 256 % 256 := by
    rw [hR, rd_there _ _ _ _ (by omega) (by omega) (by omega)]
    exact rd_here _ _ _ (by omega) (by omega)
  rw [← hR] at g2 hE
  refine ⟨R, S2, hE, g2, ?_⟩
  unfold execF reckonF turnF flowF
  simp only [Int.reduceEq, if_true, if_false, Bool.false_eq_true]
  unfold backF pullF
  simp only [g2, if_true, u4, u5, r1, r0]
  rw [show Q % 256 % 256 + 256 * (Q / 256 % 256 % 256) = Q by omega, hQ]
set_option maxHeartbeats 8000000 in
theorem pha_pla (l : List Int) (A X S P : Int) (Z N C I : Bool) (h5 : l.length = 512) (s0 : 0 ≤ S) (s1 : S ≤ 255) (a0 : 0 ≤ A) (a1 : A ≤ 255) :
    ∃ l' S' Q, execF l ⟨A, X, S, P, Z, N, C, I⟩ 22 0 0 1 = (l', ⟨A, X, S', Q, Z, N, C, I⟩) ∧ l'.length = 512 ∧ ∃ r, execF l' ⟨A, X, S', Q, Z, N, C, I⟩ 23 0 0 1 = r ∧ r.2.A = A ∧ r.2.S = S := by
  obtain ⟨S1, hS1⟩ : ∃ q, q = (S - 1) % 256 := ⟨_, rfl⟩
  have b1 := (step_S S s0 s1).1
  have b2 := (step_S S1 (by omega) (by omega)).2
  have k0 : S % 256 = S := by omega
  have u5 : wrap64 (S1 + 1) % 256 = S := by omega
  have g1 : (l.set (256 + S).toNat (A % 256)).length = 512 := by simpa using h5
  have hE : execF l ⟨A, X, S, P, Z, N, C, I⟩ 22 0 0 1 = (l.set (256 + S).toNat (A % 256), ⟨A, X, S1, wrap64 (P + 1) % 65536, Z, N, C, I⟩) := by
    unfold execF reckonF turnF flowF
    simp only [Int.reduceEq, if_true, if_false, Bool.false_eq_true]
    unfold pushF
    simp only [h5, if_true, k0, b1, ← hS1]
  obtain ⟨R, hR⟩ : ∃ R, R = l.set (256 + S).toNat (A % 256) := ⟨_, rfl⟩
  have r0 : rd R (256 + S) = A % 256 := by rw [hR]; exact rd_here _ _ _ (by omega) (by omega)
  rw [← hR] at g1 hE
  refine ⟨R, S1, _, hE, g1, _, rfl, ?_, ?_⟩
  · unfold execF reckonF turnF flowF
    simp only [Int.reduceEq, if_true, if_false, Bool.false_eq_true]
    unfold setAK pullF
    simp only [g1, if_true, u5, r0]
    omega
  · unfold execF reckonF turnF flowF
    simp only [Int.reduceEq, if_true, if_false, Bool.false_eq_true]
    unfold setAK pullF
    simp only [g1, if_true, u5]
theorem cpuOk_is (a x s p : Int) (z n c i : Bool) : ∃ t, spec_CpuOk.f a x s p z n c i = some t ∧ (t = true → 0 ≤ a ∧ a ≤ 255 ∧ 0 ≤ s ∧ s ≤ 255) := by
  simp only [spec_CpuOk.f, spec_l5Byte.f, l1In_eq, Option.bind_some]
  by_cases h1 : decide (0 ≤ a ∧ a ≤ 255) = true
  · rw [if_pos h1]
    by_cases h2 : decide (0 ≤ x ∧ x ≤ 255) = true
    · rw [if_pos h2]
      by_cases h3 : decide (0 ≤ s ∧ s ≤ 255) = true
      · rw [if_pos h3]
        refine ⟨_, rfl, fun h => ?_⟩
        have h1' := of_decide_eq_true h1
        have h3' := of_decide_eq_true h3
        omega
      · rw [if_neg h3]
        exact ⟨_, rfl, by simp⟩
    · rw [if_neg h2]
      exact ⟨_, rfl, by simp⟩
  · rw [if_neg h1]
    exact ⟨_, rfl, by simp⟩
theorem FnCalled (l0 : List Int) (w0 : l0.length ≤ 9223372036854775807) (z0 : ∀ x ∈ l0, (Lit.int .u8 x).wf = true) : ∃ k, (laws_FnCalled.f k l0) = some true := by
  obtain ⟨K, hK⟩ : ∃ K : Nat, 400000000 ≤ K := ⟨_, Nat.le_refl _⟩
  refine ⟨K + 1 + 1, ?_⟩
  unfold laws_FnCalled.f laws_big.f
  simp only [Option.bind_some]
  by_cases hb : (l0.length : Int) > 1048576
  · rw [if_pos (by simpa using hb)]
  · rw [if_neg (by simpa using hb)]
    obtain ⟨l, b, a, x, s, p, z, n, c, i, o, g, v, e1, hl⟩ := drawExec_ok l0 (by omega) (K + 1 + 1) (by omega) (by omega)
    rw [e1, Option.bind_some]
    simp only
    obtain ⟨r, e2, e3, hrl⟩ := exec_both l b ⟨a, x, s, p, z, n, c, i⟩ o g v (by omega) (K + 1 + 1) (by omega)
    simp only at e2 e3 hrl
    rw [e3, e2, Option.bind_some, Option.bind_some]
    simp only [beq_self_eq_true, Bool.not_true, Bool.or_self, Bool.false_eq_true, if_false]
    rw [sameInts_self r.1 (by omega) _ (by omega), Option.bind_some]
    simp only [if_true, bne_self_eq_false, laws_FnCalled.j0, Bool.false_eq_true, if_false]
    by_cases h5 : (l.length : Int) = 512
    · rw [if_pos h5]
      obtain ⟨t, ec, ht⟩ := cpuOk_is a x s p z n c i
      rw [ec, Option.bind_some]
      cases t with
      | false => simp only [laws_FnCalled.j1, Bool.not_false, if_true]
      | true =>
        obtain ⟨a0, a1, s0, s1⟩ := ht rfl
        simp only [laws_FnCalled.j1, Bool.not_true, Bool.false_eq_true, if_false]
        have h5' : l.length = 512 := by omega
        obtain ⟨m1, S2, j1, j2, j3⟩ := jsr_rts l a x s p z n c i g h5' s0 s1
        obtain ⟨m2, S3, Q, y1, y2, w, y3, y4, y5⟩ := pha_pla l a x s p z n c i h5' s0 s1 a0 a1
        have E1 := implExec_is l b ⟨a, x, s, p, z, n, c, i⟩ 20 g 0 (by omega) K (by omega)
        have E2 := implExec_is m1 b ⟨a, x, S2, g % 65536, z, n, c, i⟩ 21 0 0 (by omega) K (by omega)
        have E3 := implExec_is l b ⟨a, x, s, p, z, n, c, i⟩ 22 0 0 (by omega) K (by omega)
        have E4 := implExec_is m2 b ⟨a, x, S3, Q, z, n, c, i⟩ 23 0 0 (by omega) K (by omega)
        rw [show opLenV 20 = 3 by decide, j1] at E1
        rw [show opLenV 21 = 1 by decide, j3] at E2
        rw [show opLenV 22 = 1 by decide, y1] at E3
        rw [show opLenV 23 = 1 by decide, y3] at E4
        simp only at E1 E2 E3 E4
        have HO := fun q => implOpOf q K (by omega)
        obtain ⟨u, hu, rfl⟩ := addr_ex g
        obtain ⟨u2, hu2, rfl⟩ := addr_ex (wrap64 (p + 3))
        simp only [HO, opV_jsr, opV_rts, opV_pha, opV_pla, Option.bind_some, E1, E2, E3, E4, hu, hu2, y4, y5, if_true, beq_self_eq_true]
    · rw [if_neg h5]
      simp only [laws_FnCalled.j1, if_true]

end Go.Proofs.Ytmkccgbfgebfbaa.Pure
