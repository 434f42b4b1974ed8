/- Entering a handler changes what the reference changes, and rti leads back to where it was. No condition. -/
import Derived.Test.YtmkccgbfgebfbaaMFnEnteredx0
import Derived.Test.YtmkccgbfgebfbaaMFnEnteredx1
import Derived.Test.YtmkccgbfgebfbaaMFnEnteredx2
import Derived.Test.YtmkccgbfgebfbaaMFnEnteredx3
import Derived.Test.YtmkccgbfgebfbaaMFnEnteredx4
import Derived.Test.YtmkccgbfgebfbaaMFnEnteredx5
import Derived.Test.YtmkccgbfgebfbaaMFnEnteredx6
import Derived.Test.YtmkccgbfgebfbaaMFnEnteredx7
import Derived.Laws.Bits128
namespace Go.Proofs.Ytmkccgbfgebfbaa.Pure
open Go.RowKit Go.Proofs.Ytmkccgbfgebfbaa.MFnEntered Go.Proofs.YtmkccgbfgebfbaaW.PrintWords Go.Proofs.YtmkccgbfgebfbaaW.PrintLast Go.Proofs.YtmkccgbfgebfbaaW.PrintMore
set_option linter.unusedVariables false
set_option linter.unusedSimpArgs false
namespace LFnEntered
theorem and_low (n : Int) (j : Nat) (m : Int) (hj : j < 64) (hm : (BitVec.ofInt 64 m).toNat = 2 ^ j - 1) : Go.bits .and .i64 n m = n % (2 ^ j : Nat) := by
  have key : (BitVec.ofInt 64 n &&& BitVec.ofInt 64 m).toNat = (n % ((2 ^ 64 : Nat) : Int)).toNat % 2 ^ j := by
    rw [BitVec.toNat_and, BitVec.toNat_ofInt, hm, Nat.and_two_pow_sub_one_eq_mod]
  show IntKind.i64.wrap ((BitVec.ofInt 64 n &&& BitVec.ofInt 64 m).toNat : Nat) = n % (2 ^ j : Nat)
  have hd : ((2 ^ j : Nat) : Int) ∣ ((2 ^ 64 : Nat) : Int) := by
    exact_mod_cast Nat.pow_dvd_pow 2 (Nat.le_of_lt hj)
  have hp : (0 : Int) < ((2 ^ j : Nat) : Int) := by exact_mod_cast Nat.two_pow_pos j
  have hle : ((2 ^ j : Nat) : Int) ≤ ((2 ^ 63 : Nat) : Int) := by
    exact_mod_cast Nat.pow_le_pow_right (by decide) (by omega)
  have e : (((n % ((2 ^ 64 : Nat) : Int)).toNat % 2 ^ j : Nat) : Int) = n % ((2 ^ j : Nat) : Int) := by
    rw [Int.natCast_emod, Int.toNat_of_nonneg (Int.emod_nonneg _ (by decide)), Int.emod_emod_of_dvd _ hd]
  rw [key, e, IntKind.wrap_i64]
  have h0 := Int.emod_nonneg n (Int.ne_of_gt hp)
  have h1 := Int.emod_lt_of_pos n hp
  generalize n % ((2 ^ j : Nat) : Int) = x at *
  generalize ((2 ^ j : Nat) : Int) = y at *
  have : ((2 ^ 63 : Nat) : Int) = 9223372036854775808 := by decide
  omega
theorem and255 (n : Int) : Go.bits .and .i64 n 255 = n % 256 := and_low n 8 255 (by decide) (by decide)
theorem and65535 (n : Int) : Go.bits .and .i64 n 65535 = n % 65536 := and_low n 16 65535 (by decide) (by decide)
theorem wrap_small {n : Int} (h0 : -9223372036854775808 ≤ n) (h1 : n ≤ 9223372036854775807) : wrap64 n = n := by
  unfold wrap64; omega
theorem wrap_nat {i : Nat} (h : i ≤ 4611686018427387904) : wrap64 ((i : Int) + 1) = ((i + 1 : Nat) : Int) := by
  unfold wrap64; omega
theorem rd_nat (l : List Int) (i : Nat) (h : i < l.length) : rd l (i : Int) = l[i] := by
  unfold rd; simp [List.getD, h]

theorem and_range (n : Int) : 0 ≤ Go.bits .and .i64 n 255 ∧ Go.bits .and .i64 n 255 ≤ 255 := by
  rw [and255]; omega
theorem l1New_l0 (l : List Int) (hl : l.length ≤ 140737488351232) : ∀ (k : Nat) (h : Int) (i : Nat), i ≤ l.length → l.length - i < k → ∃ h', spec_l1New.l0 k l h (i : Int) = some (l, 0, h') := by
  intro k
  induction k with
  | zero => intro h i _ hk; omega
  | succ k ih =>
    intro h i hi hk
    simp only [spec_l1New.l0]
    by_cases hlt : i < l.length
    · rw [if_pos (by omega)]
      by_cases h4 : (i : Int) < 4000
      · rw [if_pos h4, if_pos (by omega), wrap_nat (by omega)]
        exact ih _ (i + 1) (by omega) (by omega)
      · rw [if_neg h4]; exact ⟨_, rfl⟩
    · rw [if_neg (by omega)]; exact ⟨_, rfl⟩
theorem l1New_ok (l : List Int) (hl : l.length ≤ 140737488351232) (k : Nat) (hk : l.length < k) : ∃ h', spec_l1New.f k l = some (l, 0, h') := by
  unfold spec_l1New.f
  have := l1New_l0 l hl k (wrap64 (18554 + (l.length : Int))) 0 (by omega) (by omega)
  rwa [show ((0 : Nat) : Int) = 0 from rfl] at this
theorem l1Byte_ok (l : List Int) (hl : l.length ≤ 140737488351232) (i h : Int) (h0 : 0 ≤ i) (h1 : i ≤ l.length) : ∃ r i' h' : Int, spec_l1Byte.f l i h = some (r, i', h') ∧ 0 ≤ r ∧ r ≤ 255 ∧ 0 ≤ i' ∧ i' ≤ l.length := by
  unfold spec_l1Byte.f
  by_cases hlt : i < (l.length : Int)
  · rw [if_pos hlt, if_pos h0]
    refine ⟨_, _, _, rfl, (and_range _).1, (and_range _).2, ?_, ?_⟩ <;> rw [wrap_small (by omega) (by omega)] <;> omega
  · rw [if_neg hlt]
    exact ⟨_, _, _, rfl, (and_range _).1, (and_range _).2, h0, h1⟩
theorem l1Below_ok (l : List Int) (hl : l.length ≤ 140737488351232) (i h : Int) (h0 : 0 ≤ i) (h1 : i ≤ l.length) (n : Int) : ∃ r i' h' : Int, spec_l1Below.f l i h n = some (r, i', h') ∧ 0 ≤ r ∧ (0 < n → r < n) ∧ (n ≤ 0 → r = 0) ∧ 0 ≤ i' ∧ i' ≤ l.length := by
  unfold spec_l1Below.f
  by_cases hn : n ≤ 0
  · rw [if_pos hn]; exact ⟨0, i, h, rfl, by omega, by omega, fun _ => rfl, h0, h1⟩
  · rw [if_neg hn]
    obtain ⟨x, i1, g1, e1, x0, x1, p0, p1⟩ := l1Byte_ok l hl i h h0 h1
    rw [e1]
    simp only [Option.bind_some]
    by_cases hs : n ≤ 256
    · rw [if_pos hs, if_neg (by omega), Int.tmod_eq_emod_of_nonneg x0]
      exact ⟨_, _, _, rfl, Int.emod_nonneg _ (by omega), fun h => Int.emod_lt_of_pos _ h, by omega, p0, p1⟩
    · rw [if_neg hs]
      obtain ⟨y, i2, g2, e2, y0, y1, q0, q1⟩ := l1Byte_ok l hl i1 g1 p0 p1
      rw [e2]
      simp only [Option.bind_some]
      obtain ⟨z, i3, g3, e3, z0, z1, s0, s1⟩ := l1Byte_ok l hl i2 g2 q0 q1
      rw [e3]
      simp only [Option.bind_some]
      obtain ⟨u, i4, g4, e4, u0, u1, t0, t1⟩ := l1Byte_ok l hl i3 g3 s0 s1
      rw [e4]
      simp only [Option.bind_some]
      have e : wrap64 (wrap64 (wrap64 (wrap64 (x * 16777216) + wrap64 (y * 65536)) + wrap64 (z * 256)) + u) = x * 16777216 + y * 65536 + z * 256 + u := by
        rw [wrap_small (n := x * 16777216) (by omega) (by omega), wrap_small (n := y * 65536) (by omega) (by omega), wrap_small (n := z * 256) (by omega) (by omega), wrap_small (n := x * 16777216 + y * 65536) (by omega) (by omega), wrap_small (n := x * 16777216 + y * 65536 + z * 256) (by omega) (by omega), wrap_small (by omega) (by omega)]
      rw [e, if_neg (by omega), Int.tmod_eq_emod_of_nonneg (by omega)]
      exact ⟨_, _, _, rfl, Int.emod_nonneg _ (by omega), fun h => Int.emod_lt_of_pos _ h, by omega, t0, t1⟩
theorem l1Once_ok (l : List Int) (hl : l.length ≤ 140737488351232) (i h : Int) (h0 : 0 ≤ i) (h1 : i ≤ l.length) (n : Int) : ∃ (r : Bool) (i' h' : Int), spec_l1Once.f l i h n = some (r, i', h') ∧ 0 ≤ i' ∧ i' ≤ l.length := by
  obtain ⟨r, i', h', e, _, _, _, p0, p1⟩ := l1Below_ok l hl i h h0 h1 n
  unfold spec_l1Once.f
  rw [e]
  exact ⟨_, _, _, rfl, p0, p1⟩

theorem l1PickInt_ok (l : List Int) (hl : l.length ≤ 140737488351232) (i h : Int) (h0 : 0 ≤ i) (h1 : i ≤ l.length) (q : List Int) (hq : 0 < q.length) : ∃ (r i' h' : Int), spec_l1PickInt.f l i h q = some (r, i', h') ∧ r ∈ q ∧ 0 ≤ i' ∧ i' ≤ l.length := by
  obtain ⟨r, i', h', e, r0, r1, _, p0, p1⟩ := l1Below_ok l hl i h h0 h1 (q.length : Int)
  unfold spec_l1PickInt.f
  rw [e]
  simp only [Option.bind_some]
  have r2 := r1 (by omega)
  rw [if_pos r0, if_pos r2]
  obtain ⟨j, rfl⟩ := Int.eq_ofNat_of_zero_le r0
  exact ⟨_, _, _, rfl, by rw [rd_nat q j (by omega)]; exact List.getElem_mem _, p0, p1⟩

theorem within_eq (x lo hi : Int) : impl_within.f x lo hi = some (decide (lo ≤ x ∧ x ≤ hi)) := by
  unfold impl_within.f
  split <;> simp <;> omega
theorem l1In_eq (x lo hi : Int) : spec_l1In.f x lo hi = some (decide (lo ≤ x ∧ x ≤ hi)) := by
  unfold spec_l1In.f
  split <;> simp <;> omega

def opLenV (a : Int) : Int := if a = 1 ∨ (4 ≤ a ∧ a ≤ 9) then 2 else if a = 2 ∨ a = 3 ∨ (14 ≤ a ∧ a ≤ 20) ∨ a = 29 then 3 else 1
theorem specOpLen (a : Int) : spec_OpLen.f a = some (opLenV a) := by
  by_cases h : 0 ≤ a ∧ a ≤ 29
  · have hc : ∀ n : Fin 30, spec_OpLen.f (n.val : Int) = some (opLenV (n.val : Int)) := by decide
    have := hc ⟨a.toNat, by omega⟩
    rw [show ((a.toNat : Nat) : Int) = a by omega] at this
    exact this
  · unfold spec_OpLen.f opLenV
    have e : decide (0 ≤ a ∧ a ≤ 29) = false := decide_eq_false h
    rw [l1In_eq, Option.bind_some, e, if_neg (by decide), if_neg (by omega), if_neg (by omega)]
theorem opLenV_three (a : Int) : opLenV a = 1 ∨ opLenV a = 2 ∨ opLenV a = 3 := by
  unfold opLenV; repeat' split
  all_goals omega

theorem digits_l0 : ∀ (m : Nat) (n : Int) (s : ByteArray), 0 ≤ n → n.toNat = m → n ≤ 1000000 → s.size + m ≤ 10000000 → ∀ k, m < k → ∃ r, spec_l4Digits.l0 k n s = some r := by
  intro m
  induction m using Nat.strongRecOn with
  | _ m ih =>
    intro n s h0 hm h1 hs k hk
    obtain ⟨k, rfl⟩ : ∃ q, k = q + 1 := ⟨k - 1, by omega⟩
    simp only [spec_l4Digits.l0, Option.bind_some]
    by_cases hn : n > 0
    · rw [if_pos hn, strOfNums_size, if_pos (by simp; omega), Int.tdiv_eq_ediv_of_nonneg h0, wrap_small (by omega) (by omega)]
      exact ih (n / 10).toNat (by omega) (n / 10) _ (by omega) rfl (by omega) (by rw [ByteArray.size_append, strOfNums_size]; simp; omega) k (by omega)
    · rw [if_neg hn]
      exact ⟨_, rfl⟩
theorem digits_ok (n : Int) (h0 : 0 ≤ n) (h1 : n ≤ 1000000) (k : Nat) (hk : 1000001 < k) : ∃ r, spec_l4Digits.f k n = some r := by
  unfold spec_l4Digits.f
  by_cases h : n = 0
  · rw [if_pos h]; exact ⟨_, rfl⟩
  · rw [if_neg h]
    exact digits_l0 n.toNat n _ h0 rfl h1 (by have : (⟨#[]⟩ : ByteArray).size = 0 := rfl; omega) k (by omega)
theorem ten_pow (i : Nat) (h : i ≤ 5) : (10 : Int) ^ i ≤ 100000 := by
  have : i = 0 ∨ i = 1 ∨ i = 2 ∨ i = 3 ∨ i = 4 ∨ i = 5 := by omega
  rcases this with rfl | rfl | rfl | rfl | rfl | rfl <;> decide
theorem num_l0 (s : ByteArray) (hs : s.size ≤ 5) : ∀ (d i : Nat) (x : Int), s.size - i = d → i ≤ s.size → 0 ≤ x → x < 10 ^ i → ∀ k, d + 1000010 < k → ∃ r : Int, spec_l4Num.l0 k s x (i : Int) = some r := by
  intro d
  induction d with
  | zero =>
    intro i x hd hi h0 h1 k hk
    obtain ⟨k, rfl⟩ : ∃ q, k = q + 1 := ⟨k - 1, by omega⟩
    simp only [spec_l4Num.l0]
    have := ten_pow i (by omega)
    obtain ⟨t, e⟩ := digits_ok x h0 (by omega) k (by omega)
    rw [if_neg (by omega), e, Option.bind_some]
    split
    · exact ⟨_, rfl⟩
    · exact ⟨_, rfl⟩
  | succ d ih =>
    intro i x hd hi h0 h1 k hk
    obtain ⟨k, rfl⟩ : ∃ q, k = q + 1 := ⟨k - 1, by omega⟩
    simp only [spec_l4Num.l0]
    rw [if_pos (by omega), if_pos (by omega)]
    by_cases b0 : bt s (i : Int) < 48
    · rw [if_pos b0]; exact ⟨_, rfl⟩
    · rw [if_neg b0]
      by_cases b1 : bt s (i : Int) > 57
      · rw [if_pos b1]; exact ⟨_, rfl⟩
      · rw [if_neg b1, wrap_nat (by omega)]
        have hp := ten_pow i (by omega)
        have e : (10 : Int) ^ (i + 1) = 10 ^ i * 10 := Int.pow_succ 10 i
        rw [wrap_small (n := 10 * x) (by omega) (by omega), wrap_small (n := bt s (i : Int)) (by omega) (by omega), wrap_small (n := 10 * x + bt s (i : Int)) (by omega) (by omega), wrap_small (n := 10 * x + bt s (i : Int) - 48) (by omega) (by omega)]
        exact ih (i + 1) _ (by omega) (by omega) (by omega) (by omega) k (by omega)
theorem num_ok (s : ByteArray) (k : Nat) (hk : 1000100 < k) : ∃ r : Int, spec_l4Num.f k s = some r := by
  obtain ⟨k, rfl⟩ : ∃ q, k = q + 1 := ⟨k - 1, by omega⟩
  unfold spec_l4Num.f
  have key : ∀ b : Bool, (b = false → s.size ≤ 5) → ∃ r : Int, spec_l4Num.j0 (k + 1) s b = some r := by
    intro b hb
    simp only [spec_l4Num.j0]
    cases b with
    | true => rw [if_pos rfl]; exact ⟨_, rfl⟩
    | false =>
      rw [if_neg (by decide)]
      have := num_l0 s (hb rfl) s.size 0 0 (by omega) (by omega) (by omega) (by decide) k (by have := hb rfl; omega)
      exact this
  split
  · exact key true (by simp)
  · exact key _ (fun h => by have := of_decide_eq_false h; omega)
theorem line_l0 (s : ByteArray) (hs : s.size ≤ 1000000) : ∀ (d i : Nat), s.size - i = d → i ≤ s.size → ∀ k, d + 1000200 < k → ∃ r, spec_l4Line.l0 k s (i : Int) = some r := by
  intro d
  induction d with
  | zero =>
    intro i hd hi k hk
    obtain ⟨k, rfl⟩ : ∃ q, k = q + 1 := ⟨k - 1, by omega⟩
    simp only [spec_l4Line.l0]
    rw [if_neg (by omega)]
    exact ⟨_, rfl⟩
  | succ d ih =>
    intro i hd hi k hk
    obtain ⟨k, rfl⟩ : ∃ q, k = q + 1 := ⟨k - 1, by omega⟩
    simp only [spec_l4Line.l0]
    rw [if_pos (by omega), if_pos (by omega), wrap_nat (by omega)]
    by_cases hb : bt s (i : Int) = 32
    · obtain ⟨t, e⟩ := num_ok (s.extract (((i + 1 : Nat) : Int)).toNat s.size) k (by omega)
      rw [if_pos hb, if_pos (by omega), if_pos (by omega), e, Option.bind_some, if_pos (by omega)]
      exact ⟨_, rfl⟩
    · rw [if_neg hb]
      exact ih (i + 1) (by omega) (by omega) k (by omega)
theorem line_ok (s : ByteArray) (hs : s.size ≤ 1000000) (k : Nat) (hk : 2100000 < k) : ∃ r, spec_l4Line.f k s = some r := by
  unfold spec_l4Line.f
  exact line_l0 s hs s.size 0 (by omega) (by omega) k (by omega)
def names : List ByteArray := (spec_l3Names.f).getD []
theorem names_len : names.length = 30 := rfl
theorem spec_names : spec_l3Names.f = some names := rfl
theorem specOpOf_l0 (L : List ByteArray) (s : ByteArray) (hL : L.length ≤ 1000) : ∀ (k i : Nat), i ≤ L.length → L.length - i < k → ∃ r : Int, spec_OpOf.l0 k s L (i : Int) = some r := by
  intro k
  induction k with
  | zero => intro i _ h; omega
  | succ k ih =>
    intro i hi h
    simp only [spec_OpOf.l0]
    by_cases hlt : i < L.length
    · rw [if_pos (by omega), if_pos (by omega), wrap_nat (by omega)]
      split
      · exact ⟨_, rfl⟩
      · exact ih (i + 1) (by omega) (by omega)
    · rw [if_neg (by omega)]
      exact ⟨_, rfl⟩
theorem specOpOf_ok (s : ByteArray) (k : Nat) (hk : 100 < k) : ∃ r : Int, spec_OpOf.f k s = some r := by
  unfold spec_OpOf.f
  rw [spec_names, Option.bind_some]
  exact specOpOf_l0 names s (by decide) k 0 (by omega) (by have := names_len; omega)
theorem bytes_ok (s : ByteArray) (hs : s.size ≤ 1000000) (k : Nat) (hk : 2100100 < k) : ∃ r : List Int × Int × Bool, spec_l4Bytes.f k s = some r ∧ r.1.length ≤ 3 := by
  obtain ⟨k, rfl⟩ : ∃ q, k = q + 1 := ⟨k - 1, by omega⟩
  unfold spec_l4Bytes.f
  obtain ⟨⟨w, n, ok⟩, e⟩ := line_ok s hs (k + 1) (by omega)
  rw [e, Option.bind_some]
  have key : ∀ b : Bool, ∃ r : List Int × Int × Bool, spec_l4Bytes.j0 (k + 1) w n b = some r ∧ r.1.length ≤ 3 := by
    intro b
    simp only [spec_l4Bytes.j0]
    by_cases hb : b = true
    · rw [if_pos hb, l1In_eq, Option.bind_some]
      split
      · split
        · exact ⟨_, rfl, by simp⟩
        · exact ⟨_, rfl, by simp⟩
      · exact ⟨_, rfl, by simp⟩
    · obtain ⟨t, e2⟩ := specOpOf_ok w k (by omega)
      rw [if_neg hb, e2, Option.bind_some]
      split
      · exact ⟨_, rfl, by simp⟩
      · rw [specOpLen, Option.bind_some]
        unfold spec_Byte.f
        simp only [l1In_eq, Option.bind_some]
        split
        · exact ⟨_, rfl, by simp⟩
        · split
          · exact ⟨_, rfl, by simp⟩
          · exact ⟨_, rfl, by simp⟩
  split
  · split
    · exact key true
    · exact key _
  · exact ⟨_, rfl, by simp⟩
/-- The loop over an op's bytes comes back to the loop over the text. -/
theorem asm_l1 (s : ByteArray) (x6 x7 x8 : Int) (L : List Int) (hL : L.length ≤ 3) (P : List Int × Int → Prop) (K : Nat) (next : ∀ (m : List Int) (x5 : Int), m.length = 256 → ∀ k, K < k → ∃ r, spec_Assemble.l0 k s m x5 x6 x7 (wrap64 (x8 + 1)) = some r ∧ P r) :
    ∀ (d j : Nat), L.length - j = d → j ≤ L.length → ∀ (m : List Int) (x5 : Int), m.length = 256 → ∀ k, K + d + 1 < k → ∃ r, spec_Assemble.l1 k s m x5 x6 x7 x8 L (j : Int) = some r ∧ P r := by
  intro d
  induction d with
  | zero =>
    intro j hd hj m x5 hm k hk
    obtain ⟨k, rfl⟩ : ∃ q, k = q + 1 := ⟨k - 1, by omega⟩
    simp only [spec_Assemble.l1]
    rw [if_neg (by omega)]
    exact next m x5 hm k (by omega)
  | succ d ih =>
    intro j hd hj m x5 hm k hk
    obtain ⟨k, rfl⟩ : ∃ q, k = q + 1 := ⟨k - 1, by omega⟩
    simp only [spec_Assemble.l1]
    unfold spec_Byte.f
    rw [if_pos (by omega), Option.bind_some, and255, if_pos (by omega), if_pos (by omega), if_pos (by omega), wrap_nat (by omega)]
    exact ih (j + 1) (by omega) (by omega) _ _ (by simpa using hm) k (by omega)
theorem asm_l0 (s : ByteArray) (hs : s.size ≤ 100000) : ∀ (d i : Nat), s.size + 1 - i = d → i ≤ s.size + 1 → ∀ (m : List Int) (x5 x6 x7 : Int), m.length = 256 → 0 ≤ x6 → x6 ≤ (i : Int) → ∀ k, 3000000 + 10 * d < k →
    ∃ r, spec_Assemble.l0 k s m x5 x6 x7 (i : Int) = some r ∧ (r.1.length = 256 ∨ r.1.length = 0) := by
  intro d
  induction d with
  | zero =>
    intro i hd hi m x5 x6 x7 hm h0 h1 k hk
    obtain ⟨k, rfl⟩ : ∃ q, k = q + 1 := ⟨k - 1, by omega⟩
    simp only [spec_Assemble.l0]
    rw [if_neg (by omega)]
    exact ⟨_, rfl, .inl hm⟩
  | succ d ih =>
    intro i hd hi m x5 x6 x7 hm h0 h1 k hk
    obtain ⟨k, rfl⟩ : ∃ q, k = q + 2 := ⟨k - 2, by omega⟩
    have key : ∀ b : Bool, ∃ r, spec_Assemble.j1 (k + 1) s m x5 x6 x7 (i : Int) b = some r ∧ (r.1.length = 256 ∨ r.1.length = 0) := by
      intro b
      simp only [spec_Assemble.j1]
      by_cases hb : b = true
      · rw [if_pos hb, wrap_nat (by omega)]
        exact ih (i + 1) (by omega) (by omega) m x5 x6 x7 hm h0 (by omega) k (by omega)
      · rw [if_neg hb, if_pos h0, if_pos h1, if_pos (by omega)]
        split
        · rw [wrap_nat (by omega)]
          exact ih (i + 1) (by omega) (by omega) m x5 _ _ hm (by omega) (by omega) k (by omega)
        · have hsz : (s.extract (x6 : Int).toNat ((i : Int)).toNat).size ≤ 1000000 := by
            rw [ByteArray.size_extract]
            omega
          obtain ⟨⟨L, tt_, ok⟩, e, hL⟩ := bytes_ok _ hsz k (by omega)
          rw [e, Option.bind_some]
          have next : ∀ (m' : List Int) (y5 : Int), m'.length = 256 → ∀ k, 3000000 + 10 * d < k → ∃ r, spec_Assemble.l0 k s m' y5 (wrap64 ((i : Int) + 1)) (wrap64 (x7 + 1)) (wrap64 ((i : Int) + 1)) = some r ∧ (r.1.length = 256 ∨ r.1.length = 0) := by
            intro m' y5 hm' q hq
            rw [wrap_nat (by omega)]
            exact ih (i + 1) (by omega) (by omega) m' y5 _ _ hm' (by omega) (by omega) q (by omega)
          have j2 : ∀ y5 : Int, ∃ r, spec_Assemble.j2 k s m y5 (wrap64 ((i : Int) + 1)) (wrap64 (x7 + 1)) (i : Int) L = some r ∧ (r.1.length = 256 ∨ r.1.length = 0) := by
            intro y5
            obtain ⟨k, rfl⟩ : ∃ q, k = q + 1 := ⟨k - 1, by omega⟩
            simp only [spec_Assemble.j2]
            have hL' : L.length ≤ 3 := hL
            exact asm_l1 s _ _ _ L hL' _ (3000000 + 10 * d) next L.length 0 (by omega) (by omega) m y5 hm k (by omega)
          split
          · split
            · exact j2 _
            · exact j2 _
          · exact ⟨_, rfl, .inr rfl⟩
    simp only [spec_Assemble.l0]
    rw [if_pos (by omega)]
    repeat' split
    all_goals first | exact key _ | omega
theorem asm_total (s : ByteArray) (k : Nat) (hk : 4100000 < k) : ∃ r, spec_Assemble.f k s = some r ∧ (r.1.length = 256 ∨ r.1.length = 0) := by
  unfold spec_Assemble.f
  by_cases h : (s.size : Int) > 3000
  · rw [if_pos h]
    exact ⟨_, rfl, .inr rfl⟩
  · rw [if_neg h, if_pos (by decide)]
    exact asm_l0 s (by omega) (s.size + 1) 0 (by omega) (by omega) _ 0 0 0 List.length_replicate (by omega) (by omega) k (by omega)

theorem rdL_nat (l : List (List Int)) (i : Nat) (h : i < l.length) : rd_L2 l (i : Int) = l[i] := by
  unfold rd_L2; simp [List.getD, h]
theorem rdL_mem (l : List (List Int)) (i : Nat) (h : i < l.length) : rd_L2 l (i : Int) ∈ l := by
  rw [rdL_nat l i h]; exact List.getElem_mem h

theorem l1Pick_ok (l : List Int) (hl : l.length ≤ 140737488351232) (i h : Int) (h0 : 0 ≤ i) (h1 : i ≤ l.length) (q : List ByteArray) (hq : 0 < q.length) : ∃ (j : Nat) (i' h' : Int), j < q.length ∧ spec_l1Pick.f l i h q = some (rdOf ByteArray.empty q (j : Int), i', h') ∧ 0 ≤ i' ∧ i' ≤ l.length := by
  obtain ⟨r, i', h', e, r0, r1, _, p0, p1⟩ := l1Below_ok l hl i h h0 h1 (q.length : Int)
  unfold spec_l1Pick.f
  rw [e]
  simp only [Option.bind_some]
  have r2 := r1 (by omega)
  rw [if_pos r0, if_pos r2]
  obtain ⟨j, rfl⟩ := Int.eq_ofNat_of_zero_le r0
  exact ⟨j, i', h', by omega, rfl, p0, p1⟩
theorem rdOf_bound {q : List ByteArray} {n : Nat} (hq : ∀ s ∈ q, s.size ≤ n) (j : Nat) (hj : j < q.length) : (rdOf ByteArray.empty q (j : Int)).size ≤ n := by
  have : rdOf ByteArray.empty q (j : Int) = q[j] := by unfold rdOf; simp [hj]
  rw [this]
  exact hq _ (List.getElem_mem hj)
theorem main_ok (l : List Int) (hl : l.length ≤ 140737488351232) (i h : Int) (h0 : 0 ≤ i) (h1 : i ≤ l.length) : ∃ (s : ByteArray) (i' h' : Int), spec_l2Main.f l i h = some (s, i', h') ∧ 0 ≤ i' ∧ i' ≤ l.length := by
  unfold spec_l2Main.f
  generalize hq : ([_, _, _, _, _, _, _] : List ByteArray) = q
  have hlen : q.length = 7 := by rw [← hq]; rfl
  have hb : ∀ s ∈ q, s.size ≤ 1000 := by rw [← hq]; decide
  obtain ⟨j, i', h', hj, e, p0, p1⟩ := l1Pick_ok l hl i h h0 h1 q (by omega)
  have := rdOf_bound hb j hj
  rw [e, Option.bind_some]
  simp only
  rw [if_pos (by omega)]
  exact ⟨_, _, _, rfl, p0, p1⟩
theorem bank_l0 (l : List Int) (hl : l.length ≤ 140737488351232) : ∀ (d j : Nat) (x : List Int) (i h : Int), 256 - j = d → j ≤ 256 → x.length = 256 → 0 ≤ i → i ≤ l.length → ∀ k, d < k → ∃ r i' h', spec_l2DrawBank.l0 k x (j : Int) l i h = some (r, i', h') ∧ r.length = 256 ∧ 0 ≤ i' ∧ i' ≤ l.length := by
  intro d
  induction d with
  | zero =>
    intro j x i h hd hj hx h0 h1 k hk
    obtain ⟨k, rfl⟩ : ∃ q, k = q + 1 := ⟨k - 1, by omega⟩
    simp only [spec_l2DrawBank.l0]
    rw [if_neg (by omega)]
    exact ⟨_, _, _, rfl, hx, h0, h1⟩
  | succ d ih =>
    intro j x i h hd hj hx h0 h1 k hk
    obtain ⟨k, rfl⟩ : ∃ q, k = q + 1 := ⟨k - 1, by omega⟩
    simp only [spec_l2DrawBank.l0]
    rw [if_pos (by omega), wrap_nat (by omega)]
    obtain ⟨t, i1, g1, e1, _, _, _, p0, p1⟩ := l1Below_ok l hl i h h0 h1 4
    rw [e1, Option.bind_some]
    simp only
    split
    · obtain ⟨u, i2, g2, e2, _, _, _, q0, q1⟩ := l1Below_ok l hl i1 g1 p0 p1 30
      rw [e2, Option.bind_some, if_pos (by omega), if_pos (by omega)]
      exact ih (j + 1) _ _ _ (by omega) (by omega) (by simpa using hx) q0 q1 k (by omega)
    · split
      · obtain ⟨u, i2, g2, e2, _, q0, q1⟩ := l1PickInt_ok l hl i1 g1 p0 p1 [32, 64, 0, 1, 22, 192, 128, 2, 4, 5] (by decide)
        rw [e2, Option.bind_some, if_pos (by omega), if_pos (by omega)]
        exact ih (j + 1) _ _ _ (by omega) (by omega) (by simpa using hx) q0 q1 k (by omega)
      · split
        · obtain ⟨u, i2, g2, e2, _, _, _, q0, q1⟩ := l1Below_ok l hl i1 g1 p0 p1 256
          rw [e2, Option.bind_some, if_pos (by omega), if_pos (by omega)]
          exact ih (j + 1) _ _ _ (by omega) (by omega) (by simpa using hx) q0 q1 k (by omega)
        · exact ih (j + 1) _ _ _ (by omega) (by omega) hx p0 p1 k (by omega)
theorem bank_ok (l : List Int) (hl : l.length ≤ 140737488351232) (i h : Int) (h0 : 0 ≤ i) (h1 : i ≤ l.length) (k : Nat) (hk : 1000 < k) : ∃ r i' h', spec_l2DrawBank.f k l i h = some (r, i', h') ∧ r.length = 256 ∧ 0 ≤ i' ∧ i' ≤ l.length := by
  unfold spec_l2DrawBank.f
  rw [if_pos (by decide)]
  exact bank_l0 l hl 256 0 _ i h (by omega) (by omega) List.length_replicate h0 h1 k (by omega)
theorem last6_len (r : List Int) : (last6 r).length = r.length := by unfold last6; simp only [List.length_set]
theorem rdL_at (X : List (List Int)) (h256 : ∀ r ∈ X, r.length = 256) (j : Int) (h0 : 0 ≤ j) (h1 : j < X.length) : (rd_L2 X j).length = 256 := by
  obtain ⟨m, rfl⟩ := Int.eq_ofNat_of_zero_le h0
  exact h256 _ (rdL_mem X m (by omega))
theorem lastSix_rows (X : List (List Int)) (h256 : ∀ r ∈ X, r.length = 256) (j : Int) (h0 : 0 ≤ j) (h1 : j < X.length) : ∀ r ∈ lastSix X j, r.length = 256 := by
  intro r hr
  unfold lastSix at hr
  rcases List.mem_or_eq_of_mem_set hr with hr | rfl
  · exact h256 r hr
  · rw [last6_len, rdL_at X h256 j h0 h1]
theorem right_l0 (l : List Int) (hl : l.length ≤ 140737488351232) (n : Nat) (hn0 : 1 ≤ n) (hn : n ≤ 3) : ∀ (d j : Nat) (X : List (List Int)) (i h : Int), n - j = d → j ≤ n → X.length = j → (∀ r ∈ X, r.length = 256) → 0 ≤ i → i ≤ l.length → ∀ k, 5000000 + d < k →
    ∃ Y i' h', spec_l2DrawRight.l0 k (n : Int) (j : Int) l i h X = some (Y, i', h') ∧ Y.length = n ∧ (∀ r ∈ Y, r.length = 256) ∧ 0 ≤ i' ∧ i' ≤ l.length := by
  intro d
  induction d with
  | zero =>
    intro j X i h hd hj hX h256 h0 h1 k hk
    obtain ⟨k, rfl⟩ : ∃ q, k = q + 1 := ⟨k - 1, by omega⟩
    simp only [spec_l2DrawRight.l0]
    have hw : wrap64 ((n : Int) - 1) = (n : Int) - 1 := wrap_small (by omega) (by omega)
    rw [if_neg (by omega), hw]
    obtain ⟨t, i1, g1, e1, p0, p1⟩ := l1Once_ok l hl i h h0 h1 4
    have hA := rdL_at X h256 ((n : Int) - 1) (by omega) (by omega)
    rw [e1, Option.bind_some]
    simp only
    split
    · repeat rw [if_pos (by omega)]
      exact ⟨_, _, _, rfl, by unfold lastSix; rw [List.length_set]; omega, lastSix_rows X h256 _ (by omega) (by omega), p0, p1⟩
    · obtain ⟨s, i2, g2, e2, q0, q1⟩ := main_ok l hl i1 g1 p0 p1
      obtain ⟨⟨bank, c⟩, e3, hb⟩ := asm_total s k (by omega)
      rw [e2, Option.bind_some]
      simp only
      rw [e3, Option.bind_some]
      simp only
      split
      · have hY : ∀ r ∈ X.set ((n : Int) - 1).toNat bank, r.length = 256 := by
          intro r hr
          rcases List.mem_or_eq_of_mem_set hr with hr | rfl
          · exact h256 r hr
          · omega
        have hl2 : (X.set ((n : Int) - 1).toNat bank).length = X.length := List.length_set
        have hB := rdL_at _ hY ((n : Int) - 1) (by omega) (by omega)
        rw [if_pos (by omega), if_pos (by omega), if_pos hB]
        exact ⟨_, _, _, rfl, by unfold lastSix; rw [List.length_set]; omega, lastSix_rows _ hY _ (by omega) (by omega), q0, q1⟩
      · repeat rw [if_pos (by omega)]
        exact ⟨_, _, _, rfl, by unfold lastSix; rw [List.length_set]; omega, lastSix_rows X h256 _ (by omega) (by omega), q0, q1⟩
  | succ d ih =>
    intro j X i h hd hj hX h256 h0 h1 k hk
    obtain ⟨k, rfl⟩ : ∃ q, k = q + 1 := ⟨k - 1, by omega⟩
    simp only [spec_l2DrawRight.l0]
    obtain ⟨r, i1, g1, e1, hr, p0, p1⟩ := bank_ok l hl i h h0 h1 k (by omega)
    rw [if_pos (by omega), e1, Option.bind_some, wrap_nat (by omega)]
    simp only
    rw [if_pos (by omega)]
    exact ih (j + 1) _ _ _ (by omega) (by omega) (by simp; omega) (by
      intro q hq
      rcases List.mem_append.1 hq with hq | hq
      · exact h256 q hq
      · rw [List.mem_singleton.1 hq]; exact hr) p0 p1 k (by omega)
theorem right_ok (l : List Int) (hl : l.length ≤ 140737488351232) (i h : Int) (h0 : 0 ≤ i) (h1 : i ≤ l.length) (k : Nat) (hk : 6000000 < k) : ∃ X i' h', spec_l2DrawRight.f k l i h = some (X, i', h') ∧ 1 ≤ X.length ∧ X.length ≤ 3 ∧ (∀ r ∈ X, r.length = 256) ∧ 0 ≤ i' ∧ i' ≤ l.length := by
  unfold spec_l2DrawRight.f
  obtain ⟨t, i1, g1, e1, t0, t1, _, p0, p1⟩ := l1Below_ok l hl i h h0 h1 3
  have t2 := t1 (by omega)
  rw [e1, Option.bind_some]
  simp only
  rw [wrap_small (n := 1 + t) (by omega) (by omega)]
  obtain ⟨n, rfl⟩ := Int.eq_ofNat_of_zero_le t0
  obtain ⟨Y, i', h', e, hY, hr, q0, q1⟩ := right_l0 l hl (n + 1) (by omega) (by omega) (n + 1) 0 [] i1 g1 (by omega) (by omega) rfl (by simp) p0 p1 k (by omega)
  refine ⟨Y, i', h', ?_, by omega, by omega, hr, q0, q1⟩
  rw [← e]
  congr 1
  push_cast
  omega

theorem draw2_ok (l : List Int) (hl : l.length ≤ 140737488351232) (i h : Int) (h0 : 0 ≤ i) (h1 : i ≤ l.length) (k : Nat) (hk : 6000000 < k) : ∃ X i' h', spec_l2Draw.f k l i h = some (X, i', h') ∧ X.length ≤ 3 ∧ (∀ r ∈ X, r.length ≤ 256) ∧ 0 ≤ i' ∧ i' ≤ l.length := by
  unfold spec_l2Draw.f
  obtain ⟨X, i1, g1, e1, x0, x1, hr, p0, p1⟩ := right_ok l hl i h h0 h1 k hk
  obtain ⟨t, i2, g2, e2, _, _, _, q0, q1⟩ := l1Below_ok l hl i1 g1 p0 p1 15
  have hA := rdL_at X hr 0 (by omega) (by omega)
  have hle : ∀ r ∈ X, r.length ≤ 256 := fun r h => by rw [hr r h]; omega
  rw [e1, Option.bind_some]
  simp only
  rw [e2, Option.bind_some]
  simp only
  split
  · rw [if_pos ⟨by omega, by omega⟩]
    refine ⟨_, _, _, rfl, by rw [List.length_set]; omega, fun r h => ?_, q0, q1⟩
    rcases List.mem_or_eq_of_mem_set h with h | rfl
    · exact hle r h
    · rw [List.length_drop]; omega
  · split
    · obtain ⟨p, i3, g3, e3, _, s0, s1⟩ := l1PickInt_ok l hl i2 g2 q0 q1 [-1, 256] (by decide)
      rw [if_pos ⟨by omega, by omega⟩, e3, Option.bind_some]
      refine ⟨_, _, _, rfl, by rw [List.length_set]; omega, fun r h => ?_, s0, s1⟩
      rcases List.mem_or_eq_of_mem_set h with h | rfl
      · exact hle r h
      · rw [List.length_set]; omega
    · split
      · exact ⟨_, _, _, rfl, by simp, by simp, q0, q1⟩
      · exact ⟨_, _, _, rfl, x1, hle, q0, q1⟩

theorem mem_l0 (l : List Int) (hl : l.length ≤ 140737488351232) (X : List (List Int)) (hX : X.length ≤ 3) : ∀ (d j : Nat) (i h : Int) (r : List Int) (b : Int), 20 - j = d → j ≤ 20 → r.length = 512 → 0 ≤ i → i ≤ l.length → ∀ k, d < k →
    ∃ q c i' h', spec_l6DrawMem.l0 k (j : Int) l i h X r b = some (q, c, i', h') ∧ q.length ≤ 512 ∧ 0 ≤ i' ∧ i' ≤ l.length := by
  intro d
  induction d with
  | zero =>
    intro j i h r b hd hj hr h0 h1 k hk
    obtain ⟨k, rfl⟩ : ∃ q, k = q + 1 := ⟨k - 1, by omega⟩
    simp only [spec_l6DrawMem.l0]
    rw [if_neg (by omega)]
    have hm : ∃ t, spec_l1Max.f (X.length : Int) 1 = some t := by
      unfold spec_l1Max.f
      split <;> exact ⟨_, rfl⟩
    obtain ⟨t, et⟩ := hm
    rw [et, Option.bind_some]
    obtain ⟨u, i1, g1, e1, _, _, _, p0, p1⟩ := l1Below_ok l hl i h h0 h1 t
    rw [e1, Option.bind_some]
    simp only
    obtain ⟨v, i2, g2, e2, _, _, _, q0, q1⟩ := l1Below_ok l hl i1 g1 p0 p1 30
    rw [e2, Option.bind_some]
    simp only
    split
    · obtain ⟨p, i3, g3, e3, _, s0, s1⟩ := l1PickInt_ok l hl i2 g2 q0 q1 [(-1), 8] (by decide)
      rw [e3, Option.bind_some]
      exact ⟨_, _, _, _, rfl, by omega, s0, s1⟩
    · split
      · rw [if_pos (by omega)]
        exact ⟨_, _, _, _, rfl, by rw [List.length_drop]; omega, q0, q1⟩
      · split
        · rw [if_pos (by omega)]
          exact ⟨_, _, _, _, rfl, by rw [List.length_set]; omega, q0, q1⟩
        · exact ⟨_, _, _, _, rfl, by omega, q0, q1⟩
  | succ d ih =>
    intro j i h r b hd hj hr h0 h1 k hk
    obtain ⟨k, rfl⟩ : ∃ q, k = q + 1 := ⟨k - 1, by omega⟩
    simp only [spec_l6DrawMem.l0]
    rw [if_pos (by omega), wrap_nat (by omega)]
    obtain ⟨p, i1, g1, e1, hp, p0, p1⟩ := l1PickInt_ok l hl i h h0 h1 [0, 1, 16, 255, 256, 257, 510, 511, 258, 300] (by decide)
    rw [e1, Option.bind_some]
    simp only
    obtain ⟨u, i2, g2, e2, _, _, _, q0, q1⟩ := l1Below_ok l hl i1 g1 p0 p1 256
    have hpb : 0 ≤ p ∧ p < 512 := by
      simp only [List.mem_cons, List.not_mem_nil, or_false] at hp
      omega
    rw [e2, Option.bind_some, if_pos hpb.1, if_pos (by omega)]
    exact ih (j + 1) _ _ _ _ (by omega) (by omega) (by rw [List.length_set]; exact hr) q0 q1 k (by omega)
theorem drawMem_ok (l : List Int) (hl : l.length ≤ 140737488351232) (X : List (List Int)) (hX : X.length ≤ 3) (i h : Int) (h0 : 0 ≤ i) (h1 : i ≤ l.length) (k : Nat) (hk : 100 < k) : ∃ q c i' h', spec_l6DrawMem.f k l i h X = some (q, c, i', h') ∧ q.length ≤ 512 ∧ 0 ≤ i' ∧ i' ≤ l.length := by
  unfold spec_l6DrawMem.f spec_MemNew.f
  rw [if_pos (by decide), Option.bind_some]
  exact mem_l0 l hl X hX 20 0 i h _ _ (by omega) (by omega) List.length_replicate h0 h1 k (by omega)
theorem draw6_ok (l : List Int) (hl : l.length ≤ 140737488351232) (i h : Int) (h0 : 0 ≤ i) (h1 : i ≤ l.length) (k : Nat) (hk : 6000000 < k) : ∃ X q c i' h', spec_l6Draw.f k l i h = some (X, q, c, i', h') ∧ X.length ≤ 3 ∧ (∀ r ∈ X, r.length ≤ 256) ∧ q.length ≤ 512 ∧ 0 ≤ i' ∧ i' ≤ l.length := by
  unfold spec_l6Draw.f
  obtain ⟨X, i1, g1, e1, x0, x1, hr, p0, p1⟩ := right_ok l hl i h h0 h1 k hk
  rw [e1, Option.bind_some]
  simp only
  obtain ⟨t, i2, g2, e2, q0, q1⟩ := l1Once_ok l hl i1 g1 p0 p1 20
  rw [e2, Option.bind_some]
  simp only
  split
  · obtain ⟨Y, i3, g3, e3, y1, yr, s0, s1⟩ := draw2_ok l hl i2 g2 q0 q1 k hk
    rw [e3, Option.bind_some]
    simp only
    obtain ⟨q, c, i4, g4, e4, hq, u0, u1⟩ := drawMem_ok l hl Y y1 i3 g3 s0 s1 k (by omega)
    rw [e4]
    exact ⟨_, _, _, _, _, rfl, y1, yr, hq, u0, u1⟩
  · obtain ⟨q, c, i4, g4, e4, hq, u0, u1⟩ := drawMem_ok l hl X x1 i2 g2 q0 q1 k (by omega)
    rw [e4]
    exact ⟨_, _, _, _, _, rfl, x1, fun r h => by rw [hr r h]; omega, hq, u0, u1⟩

theorem l1DrawInt_ok (l : List Int) (hl : l.length ≤ 140737488351232) (i h : Int) (h0 : 0 ≤ i) (h1 : i ≤ l.length) : ∃ r i' h' : Int, spec_l1DrawInt.f l i h = some (r, i', h') ∧ 0 ≤ i' ∧ i' ≤ l.length := by
  unfold spec_l1DrawInt.f
  obtain ⟨b, i1, g1, e1, p0, p1⟩ := l1Once_ok l hl i h h0 h1 9
  rw [e1]
  simp only [Option.bind_some]
  by_cases hb : b = true
  · rw [if_pos hb]
    obtain ⟨r, i2, g2, e2, _, q0, q1⟩ := l1PickInt_ok l hl i1 g1 p0 p1 [(-1), 256, 65535, 65536, 9223372036854775807, (-9223372036854775808), 511] (by decide)
    rw [e2]
    exact ⟨_, _, _, rfl, q0, q1⟩
  · rw [if_neg hb]
    obtain ⟨r, i2, g2, e2, _, _, _, q0, q1⟩ := l1Below_ok l hl i1 g1 p0 p1 256
    rw [e2]
    exact ⟨_, _, _, rfl, q0, q1⟩

theorem l5Right_ok (l : List Int) (hl : l.length ≤ 140737488351232) (i h : Int) (h0 : 0 ≤ i) (h1 : i ≤ l.length) : ∃ (a x s p : Int) (z n c b : Bool) (i' h' : Int), spec_l5DrawRight.f l i h = some (a, x, s, p, z, n, c, b, i', h') ∧ 0 ≤ i' ∧ i' ≤ l.length := by
  unfold spec_l5DrawRight.f
  obtain ⟨a, i1, g1, e1, _, _, _, p0, p1⟩ := l1Below_ok l hl i h h0 h1 256
  rw [e1, Option.bind_some]
  simp only
  obtain ⟨x, i2, g2, e2, _, _, _, q0, q1⟩ := l1Below_ok l hl i1 g1 p0 p1 256
  rw [e2, Option.bind_some]
  simp only
  obtain ⟨s, i3, g3, e3, _, r0, r1⟩ := l1PickInt_ok l hl i2 g2 q0 q1 [0, 1, 2, 255, 254, 128] (by decide)
  rw [e3, Option.bind_some]
  simp only
  obtain ⟨p, i4, g4, e4, _, s0, s1⟩ := l1PickInt_ok l hl i3 g3 r0 r1 [0, 49152, 49200, 65535, 65534, 32768, 8192, 511] (by decide)
  rw [e4, Option.bind_some]
  simp only
  obtain ⟨f, i5, g5, e5, _, _, _, t0, t1⟩ := l1Below_ok l hl i4 g4 s0 s1 256
  rw [e5, Option.bind_some]
  unfold spec_WithFlags.f
  simp only [Option.bind_some]
  exact ⟨_, _, _, _, _, _, _, _, _, _, rfl, t0, t1⟩
theorem l5Draw_ok (l : List Int) (hl : l.length ≤ 140737488351232) (i h : Int) (h0 : 0 ≤ i) (h1 : i ≤ l.length) : ∃ (a x s p : Int) (z n c b : Bool) (i' h' : Int), spec_l5Draw.f l i h = some (a, x, s, p, z, n, c, b, i', h') ∧ 0 ≤ i' ∧ i' ≤ l.length := by
  unfold spec_l5Draw.f
  obtain ⟨a, x, s, p, z, n, c, b, i1, g1, e1, p0, p1⟩ := l5Right_ok l hl i h h0 h1
  rw [e1, Option.bind_some]
  simp only
  obtain ⟨t, i2, g2, e2, _, _, _, q0, q1⟩ := l1Below_ok l hl i1 g1 p0 p1 25
  obtain ⟨u, i3, g3, e3, r0, r1⟩ := l1DrawInt_ok l hl i2 g2 q0 q1
  rw [e2, Option.bind_some]
  simp only
  rw [e3]
  split
  · exact ⟨_, _, _, _, _, _, _, _, _, _, rfl, r0, r1⟩
  · split
    · exact ⟨_, _, _, _, _, _, _, _, _, _, rfl, r0, r1⟩
    · split
      · exact ⟨_, _, _, _, _, _, _, _, _, _, rfl, r0, r1⟩
      · split
        · obtain ⟨y, i4, g4, e4, _, s0, s1⟩ := l1PickInt_ok l hl i2 g2 q0 q1 [(-1), 65536] (by decide)
          rw [e4]
          exact ⟨_, _, _, _, _, _, _, _, _, _, rfl, s0, s1⟩
        · exact ⟨_, _, _, _, _, _, _, _, _, _, rfl, q0, q1⟩

theorem specCopy (l : List Int) (b : Int) (hl : l.length < 17592186044416) : spec_l6Copy.f l b = some (l, b) := by
  unfold spec_l6Copy.f
  simp only [Option.bind_some]
  rw [if_pos (by simpa using hl), List.nil_append]
theorem implCopy (l : List Int) (b : Int) (hl : l.length < 17592186044416) : impl_copyMem.f l b = some (l, b) := by
  unfold impl_copyMem.f impl_copyInts.f
  simp only [Option.bind_some]
  rw [if_pos (by simpa using hl), List.nil_append]
  rfl

theorem byteF (n : Int) : spec_Byte.f n = some (n % 256) := by
  unfold spec_Byte.f
  rw [and255]
theorem pushF_len (ram : List Int) (k : Cp) (v : Int) : (pushF ram k v).1.length = ram.length := (pushF_keeps ram k v).2
theorem pushF_P (ram : List Int) (k : Cp) (v : Int) : (pushF ram k v).2.P = k.P := by rw [(pushF_keeps ram k v).1]
theorem specPush (l : List Int) (b v : Int) (k : Cp) (hl : l.length < 17592186044416) :
    spec_Push.f l b k.A k.X k.S k.P k.Z k.N k.C k.I v = some ((pushF l k v).1, b, (pushF l k v).2.A, (pushF l k v).2.X, (pushF l k v).2.S, (pushF l k v).2.P, (pushF l k v).2.Z, (pushF l k v).2.N, (pushF l k v).2.C, (pushF l k v).2.I) := by
  unfold spec_Push.f
  rw [specCopy l b hl]
  simp only [Option.bind_some, byteF]
  unfold pushF
  by_cases h5 : l.length = 512
  · have e1 : ((l.length : Int) = 512) := by omega
    have hs0 : 0 ≤ k.S % 256 := Int.emod_nonneg _ (by decide)
    have hs1 : k.S % 256 < 256 := Int.emod_lt_of_pos _ (by decide)
    rw [if_pos e1, wrap_small (n := 256 + k.S % 256) (by omega) (by omega), if_pos (by omega), if_pos (by omega), if_pos h5]
  · have e1 : ¬ ((l.length : Int) = 512) := by omega
    rw [if_neg e1, if_neg h5]

def isByteB (x : Int) : Bool := decide (0 ≤ x ∧ x ≤ 255)
def imgOk (m : List (List Int)) : Bool := m.all (fun r => decide (r.length = 256) && r.all isByteB) && decide (1 ≤ (m.length : Int) ∧ (m.length : Int) ≤ 8)
theorem bytesOk_l0 (l : List Int) (hl : l.length ≤ 1048576) : ∀ (k i : Nat), i ≤ l.length → l.length - i < k → impl_bytesOk.l0 k l (l.length : Int) (i : Int) = some ((l.drop i).all isByteB) := by
  intro k
  induction k with
  | zero => intro i _ h; omega
  | succ k ih =>
    intro i hi h
    simp only [impl_bytesOk.l0]
    by_cases hlt : i < l.length
    · have c1 : (i : Int) < (l.length : Int) := by omega
      have c0 : (0 : Int) ≤ (i : Int) := by omega
      simp only [c0, c1, if_true]
      unfold impl_isByte.f
      rw [within_eq, wrap_nat (by omega), rd_nat l i hlt, List.drop_eq_getElem_cons hlt, List.all_cons]
      simp only [Option.bind_some]
      rw [ih (i + 1) (by omega) (by omega)]
      by_cases hb : 0 ≤ l[i] ∧ l[i] ≤ 255
      · simp [isByteB, hb]
      · simp [isByteB, hb]
    · have : i = l.length := by omega
      subst this
      rw [if_neg (by omega)]
      simp
theorem bytesOk_ok (l : List Int) (hl : l.length ≤ 1048576) (k : Nat) (hk : l.length < k) : impl_bytesOk.f k l = some (l.all isByteB) := by
  have h := bytesOk_l0 l hl k 0 (by omega) (by omega)
  simpa [impl_bytesOk.f] using h
theorem implImageOk_l0 (m : List (List Int)) (hl : m.length ≤ 1048576) : ∀ (k i : Nat), i ≤ m.length → m.length - i + 300 < k →
    impl_ImageOk.l0 k m (m.length : Int) (i : Int) m = some ((m.drop i).all (fun r => decide (r.length = 256) && r.all isByteB) && decide (1 ≤ (m.length : Int) ∧ (m.length : Int) ≤ 8)) := by
  intro k
  induction k with
  | zero => intro i _ h; omega
  | succ k ih =>
    intro i hi h
    simp only [impl_ImageOk.l0]
    by_cases hlt : i < m.length
    · have c1 : (i : Int) < (m.length : Int) := by omega
      have c0 : (0 : Int) ≤ (i : Int) := by omega
      simp only [c0, c1, if_true]
      rw [rdL_nat m i hlt, List.drop_eq_getElem_cons hlt, List.all_cons]
      by_cases h256 : m[i].length = 256
      · have e : ((m[i].length : Int) = 256) := by omega
        rw [if_pos e, bytesOk_ok _ (by omega) k (by omega)]
        simp only [Option.bind_some]
        rw [wrap_nat (by omega), ih (i + 1) (by omega) (by omega)]
        cases hb : m[i].all isByteB <;> simp [h256]
      · have e : ¬ ((m[i].length : Int) = 256) := by omega
        rw [if_neg e]
        simp [h256]
    · have : i = m.length := by omega
      subst this
      rw [if_neg (by omega), within_eq]
      simp
theorem implImageOk (m : List (List Int)) (hl : m.length ≤ 1048576) (k : Nat) (hk : 2000000 ≤ k) : impl_ImageOk.f k m = some (imgOk m) := by
  have h := implImageOk_l0 m hl k 0 (by omega) (by omega)
  simpa [impl_ImageOk.f, imgOk] using h
theorem specImageOk_l1 (m : List (List Int)) (i : Nat) (hlt : i < m.length) (h256 : m[i].length = 256) (k0 : Nat) (v : Bool) (hnext : ∀ k, k0 < k → spec_ImageOk.l0 k (wrap64 ((i : Int) + 1)) m = some v) : ∀ (k j : Nat), j ≤ 256 → 256 - j + k0 + 1 < k →
    spec_ImageOk.l1 k (i : Int) (j : Int) m = some ((m[i].drop j).all isByteB && v) := by
  intro k
  induction k with
  | zero => intro j _ h; omega
  | succ k ih =>
    intro j hj h
    simp only [spec_ImageOk.l1]
    by_cases hjl : j < 256
    · have c1 : (i : Int) < (m.length : Int) := by omega
      have c0 : (0 : Int) ≤ (i : Int) := by omega
      have c2 : (0 : Int) ≤ (j : Int) := by omega
      have c3 : (j : Int) < 256 := by omega
      have c4 : (j : Int) < (m[i].length : Int) := by omega
      simp only [c0, c1, c2, c3, if_true]
      rw [rdL_nat m i hlt]
      simp only [c4, if_true]
      rw [l1In_eq, rd_nat _ j (by omega), wrap_nat (by omega), List.drop_eq_getElem_cons (show j < m[i].length by omega), List.all_cons]
      simp only [Option.bind_some]
      rw [ih (j + 1) (by omega) (by omega)]
      by_cases hb : 0 ≤ m[i][j] ∧ m[i][j] ≤ 255
      · simp [isByteB, hb]
      · simp [isByteB, hb]
    · rw [if_neg (by omega), hnext k (by omega), List.drop_eq_nil_of_le (by omega)]
      simp
theorem specImageOk_l0 (m : List (List Int)) (hl : m.length ≤ 1048576) : ∀ (d i : Nat), i ≤ m.length → m.length - i = d → ∀ k, d * 300 + 10 < k →
    spec_ImageOk.l0 k (i : Int) m = some ((m.drop i).all (fun r => decide (r.length = 256) && r.all isByteB) && decide (1 ≤ (m.length : Int) ∧ (m.length : Int) ≤ 8)) := by
  intro d
  induction d with
  | zero =>
    intro i hi hd k hk
    obtain ⟨k, rfl⟩ : ∃ q, k = q + 1 := ⟨k - 1, by omega⟩
    have : i = m.length := by omega
    subst this
    simp only [spec_ImageOk.l0]
    rw [if_neg (by omega), l1In_eq]
    simp
  | succ d ih =>
    intro i hi hd k hk
    obtain ⟨k, rfl⟩ : ∃ q, k = q + 1 := ⟨k - 1, by omega⟩
    have hlt : i < m.length := by omega
    have c1 : (i : Int) < (m.length : Int) := by omega
    have c0 : (0 : Int) ≤ (i : Int) := by omega
    simp only [spec_ImageOk.l0, c0, c1, if_true]
    rw [rdL_nat m i hlt, List.drop_eq_getElem_cons hlt, List.all_cons]
    by_cases h256 : m[i].length = 256
    · have e : ((m[i].length : Int) = 256) := by omega
      rw [if_pos e]
      have hn := ih (i + 1) (by omega) (by omega)
      have h1 := specImageOk_l1 m i hlt h256 (d * 300 + 10) _ (fun k hk => by rw [wrap_nat (by omega)]; exact hn k hk) k 0 (by omega) (by omega)
      rw [show ((0 : Nat) : Int) = 0 from rfl] at h1
      rw [h1]
      simp [h256, Bool.and_assoc]
    · have e : ¬ ((m[i].length : Int) = 256) := by omega
      rw [if_neg e]
      simp [h256]
theorem specImageOk (m : List (List Int)) (hl : m.length ≤ 1048576) (k : Nat) (hk : 400000000 ≤ k) : spec_ImageOk.f k m = some (imgOk m) := by
  have h := specImageOk_l0 m hl m.length 0 (by omega) (by omega) k (by omega)
  simpa [spec_ImageOk.f, imgOk] using h
theorem imgOk_iff (m : List (List Int)) : imgOk m = true ↔ ((∀ r ∈ m, r.length = 256 ∧ ∀ x ∈ r, 0 ≤ x ∧ x ≤ 255) ∧ 1 ≤ m.length ∧ m.length ≤ 8) := by
  unfold imgOk isByteB
  simp only [Bool.and_eq_true, List.all_eq_true, decide_eq_true_eq]
  constructor
  · rintro ⟨h, h1, h2⟩
    exact ⟨fun r hr => h r hr, by omega, by omega⟩
  · rintro ⟨h, h1, h2⟩
    exact ⟨fun r hr => h r hr, by omega, by omega⟩

def memOk (m : List (List Int)) (r : List Int) (b : Int) : Bool := imgOk m && (decide (r.length = 512) && (r.all isByteB && decide (0 ≤ b ∧ b ≤ (m.length : Int) - 1)))
theorem implMemOk (m : List (List Int)) (r : List Int) (b : Int) (hl : m.length ≤ 1048576) (k : Nat) (hk : 2000000 ≤ k) : impl_MemOk.f k m r b = some (memOk m r b) := by
  unfold impl_MemOk.f memOk
  rw [implImageOk m hl k hk, Option.bind_some]
  by_cases hi : imgOk m = true
  · rw [if_pos hi, hi]
    by_cases h5 : r.length = 512
    · rw [if_pos (by omega), bytesOk_ok r (by omega) k (by omega), Option.bind_some]
      by_cases hb : r.all isByteB = true
      · rw [if_pos hb, hb, within_eq, wrap_small (by omega) (by omega)]
        simp [h5]
      · rw [if_neg hb, Bool.eq_false_iff.mpr hb]
        simp
    · rw [if_neg (by omega)]
      simp [h5]
  · rw [if_neg hi, Bool.eq_false_iff.mpr hi]
    rfl
theorem specMemOk_l0 (r : List Int) (b : Int) (h5 : r.length = 512) : ∀ (k i : Nat), i ≤ 512 → 512 - i < k → spec_MemOk.l0 k (i : Int) r b = some ((r.drop i).all isByteB) := by
  intro k
  induction k with
  | zero => intro i _ h; omega
  | succ k ih =>
    intro i hi h
    simp only [spec_MemOk.l0]
    by_cases hlt : i < 512
    · have c0 : (0 : Int) ≤ (i : Int) := by omega
      have c1 : (i : Int) < 512 := by omega
      have c2 : (i : Int) < (r.length : Int) := by omega
      simp only [c0, c1, c2, if_true]
      unfold spec_l5Byte.f
      rw [l1In_eq, rd_nat r i (by omega), wrap_nat (by omega), List.drop_eq_getElem_cons (show i < r.length by omega), List.all_cons]
      simp only [Option.bind_some]
      rw [ih (i + 1) (by omega) (by omega)]
      by_cases hb : 0 ≤ r[i] ∧ r[i] ≤ 255
      · simp [isByteB, hb]
      · simp [isByteB, hb]
    · rw [if_neg (by omega), List.drop_eq_nil_of_le (by omega)]
      simp
theorem specMemOk (m : List (List Int)) (r : List Int) (b : Int) (hl : m.length ≤ 1048576) (k : Nat) (hk : 400000000 ≤ k) : spec_MemOk.f k m r b = some (memOk m r b) := by
  obtain ⟨q, rfl⟩ : ∃ q, k = q + 1 := ⟨k - 1, by omega⟩
  unfold spec_MemOk.f memOk
  rw [specImageOk m hl _ hk, Option.bind_some]
  by_cases hi : imgOk m = true
  · rw [if_pos hi, hi]
    by_cases h5 : r.length = 512
    · rw [if_pos (by omega), l1In_eq, wrap_small (by omega) (by omega), Option.bind_some]
      simp only [spec_MemOk.j0]
      by_cases hb : 0 ≤ b ∧ b ≤ (m.length : Int) - 1
      · have h := specMemOk_l0 r b h5 q 0 (by omega) (by omega)
        rw [show ((0 : Nat) : Int) = 0 from rfl] at h
        simp [hb, h5, h]
      · have e : decide (0 ≤ b ∧ b ≤ (m.length : Int) - 1) = false := decide_eq_false hb
        rw [e]
        simp
    · rw [if_neg (by omega)]
      simp [spec_MemOk.j0, h5]
  · rw [if_neg hi, Bool.eq_false_iff.mpr hi]
    simp [spec_MemOk.j0]
theorem memOk_iff (m : List (List Int)) (r : List Int) (b : Int) : memOk m r b = true ↔ (imgOk m = true ∧ r.length = 512 ∧ (∀ x ∈ r, 0 ≤ x ∧ x ≤ 255) ∧ 0 ≤ b ∧ b < m.length) := by
  unfold memOk isByteB
  simp only [Bool.and_eq_true, List.all_eq_true, decide_eq_true_eq]
  constructor
  · rintro ⟨h1, h2, h3, h4, h5⟩
    exact ⟨h1, h2, h3, h4, by omega⟩
  · rintro ⟨h1, h2, h3, h4, h5⟩
    exact ⟨h1, h2, h3, h4, by omega⟩

def rgn (a : Int) : Int := if a % 65536 < 8192 then 1 else if a % 65536 < 16384 then 2 else if a % 65536 < 16388 then 3 else if a % 65536 = 16406 then 4 else if a % 65536 < 32768 then 7 else if a % 65536 < 49152 then 5 else 6
def prt (a : Int) : Int := if a % 65536 < 8192 then a % 65536 % 512 else if a % 65536 < 16384 then a % 65536 % 8 else if a % 65536 < 16388 then a % 65536 % 4 else if a % 65536 = 16406 then 0 else if a % 65536 < 32768 then 0 else a % 65536 % 256
theorem region_ok (a : Int) : impl_Region.f a = some (rgn a, prt a) := by
  have h0 := Int.emod_nonneg a (b := 65536) (by decide)
  unfold impl_Region.f impl_Addr.f rgn prt
  rw [and65535, Option.bind_some]
  generalize a % 65536 = x at *
  simp only [Int.tmod_eq_emod_of_nonneg h0]
  by_cases h1 : x < 8192
  · simp [h1]
  · by_cases h2 : x < 16384
    · simp [h1, h2]
    · by_cases h3 : x < 16388
      · simp [h1, h2, h3]
      · by_cases h4 : x = 16406
        · simp [h4]
        · by_cases h5 : x < 32768
          · simp [h1, h2, h3, h4, h5]
          · by_cases h6 : x < 49152
            · simp [h1, h2, h3, h4, h5, h6]
            · simp [h1, h2, h3, h4, h5, h6]
theorem specRegion (a : Int) : spec_Region.f a = impl_Region.f a := rfl
theorem prt_bound (a : Int) : 0 ≤ prt a ∧ prt a < 512 ∧ (rgn a = 5 ∨ rgn a = 6 → prt a < 256) := by
  have h0 := Int.emod_nonneg a (b := 65536) (by decide)
  have h1 := Int.emod_lt_of_pos a (b := 65536) (by decide)
  unfold prt rgn
  generalize a % 65536 = x at *
  repeat' split
  all_goals omega

def peekV (m : List (List Int)) (r : List Int) (b : Int) (a : Int) : Int := if rgn a = 1 then rd r (prt a) else if rgn a = 5 then rd (rd_L2 m b) (prt a) else if rgn a = 6 then rd (rd_L2 m ((m.length : Int) - 1)) (prt a) else 0
theorem rdL_int (m : List (List Int)) (i : Int) (h0 : 0 ≤ i) (h1 : i < m.length) : rd_L2 m i ∈ m := by
  obtain ⟨j, rfl⟩ := Int.eq_ofNat_of_zero_le h0
  exact rdL_mem m j (by omega)
theorem rd_int (l : List Int) (i : Int) (h0 : 0 ≤ i) (h1 : i < l.length) : rd l i ∈ l := by
  obtain ⟨j, rfl⟩ := Int.eq_ofNat_of_zero_le h0
  rw [rd_nat l j (by omega)]
  exact List.getElem_mem _
theorem peek_ok (m : List (List Int)) (r : List Int) (b a : Int) (h : memOk m r b = true) : impl_peek.f m r b a = some (peekV m r b a) ∧ 0 ≤ peekV m r b a ∧ peekV m r b a ≤ 255 := by
  obtain ⟨hi, h5, hr, hb0, hb1⟩ := (memOk_iff m r b).1 h
  obtain ⟨hm, hm0, hm1⟩ := (imgOk_iff m).1 hi
  obtain ⟨p0, p1, p2⟩ := prt_bound a
  have hlast : wrap64 ((m.length : Int) - 1) = (m.length : Int) - 1 := wrap_small (by omega) (by omega)
  unfold impl_peek.f peekV
  rw [region_ok, Option.bind_some, hlast]
  simp only
  by_cases e1 : rgn a = 1
  · rw [if_pos e1, if_pos p0, if_pos (by omega), if_pos e1]
    exact ⟨rfl, hr _ (rd_int r _ p0 (by omega))⟩
  · rw [if_neg e1, if_neg e1]
    by_cases e5 : rgn a = 5
    · have hin := rdL_int m b hb0 hb1
      have hl := (hm _ hin).1
      rw [if_pos e5, if_pos hb0, if_pos (by omega), if_pos p0, if_pos (by have := p2 (.inl e5); omega), if_pos e5]
      exact ⟨rfl, (hm _ hin).2 _ (rd_int _ _ p0 (by have := p2 (.inl e5); omega))⟩
    · rw [if_neg e5, if_neg e5]
      by_cases e6 : rgn a = 6
      · have hin := rdL_int m ((m.length : Int) - 1) (by omega) (by omega)
        have hl := (hm _ hin).1
        rw [if_pos e6, if_pos (by omega), if_pos (by omega), if_pos p0, if_pos (by have := p2 (.inr e6); omega), if_pos e6]
        exact ⟨rfl, (hm _ hin).2 _ (rd_int _ _ p0 (by have := p2 (.inr e6); omega))⟩
      · rw [if_neg e6, if_neg e6]
        simp
def peekT (m : List (List Int)) (r : List Int) (b a : Int) : Int := if memOk m r b = true then peekV m r b a else 0
theorem peekT_byte (m : List (List Int)) (r : List Int) (b a : Int) : 0 ≤ peekT m r b a ∧ peekT m r b a ≤ 255 := by
  unfold peekT
  split
  · exact (peek_ok m r b a ‹_›).2
  · decide

theorem implPeek (m : List (List Int)) (r : List Int) (b a : Int) (hl : m.length ≤ 1048576) (k : Nat) (hk : 2000000 ≤ k) : impl_Peek.f k m r b a = some (peekT m r b a) := by
  unfold impl_Peek.f peekT
  rw [implMemOk m r b hl k hk, Option.bind_some]
  by_cases h : memOk m r b = true
  · rw [if_pos h, if_pos h, (peek_ok m r b a h).1]
    rfl
  · rw [if_neg h, if_neg h]

theorem specPeek1 (m : List (List Int)) (r : List Int) (b a : Int) : spec_l6Peek.f m r b a = impl_peek.f m r b a := rfl
theorem specPeek (m : List (List Int)) (r : List Int) (b a : Int) (hl : m.length ≤ 1048576) (k : Nat) (hk : 400000000 ≤ k) : spec_Peek.f k m r b a = some (peekT m r b a) := by
  unfold spec_Peek.f peekT
  rw [specMemOk m r b hl k hk, Option.bind_some]
  by_cases h : memOk m r b = true
  · rw [if_pos h, if_pos h, specPeek1, (peek_ok m r b a h).1]
    rfl
  · rw [if_neg h, if_neg h]

theorem implJoin (a b : Int) : impl_Join.f a b = some (a % 256 + 256 * (b % 256)) := by
  unfold impl_Join.f impl_Byte.f
  simp only [Option.bind_some, and255]
  rw [wrap_small (n := 256 * (b % 256)) (by omega) (by omega), wrap_small (by omega) (by omega)]

theorem specJoin (a b : Int) : spec_Join.f a b = some (a % 256 + 256 * (b % 256)) := implJoin a b

theorem flags_both (a x s p : Int) (z n c i : Bool) : ∃ r : Int, spec_Flags.f a x s p z n c i = some r ∧ impl_Flags.f a x s p z n c i = some r := by
  have key : ∀ z n c i : Bool, spec_Flags.f 0 0 0 0 z n c i = impl_Flags.f 0 0 0 0 z n c i := by decide +kernel
  have e : spec_Flags.f a x s p z n c i = impl_Flags.f a x s p z n c i := key z n c i
  have h : ∃ r, impl_Flags.f a x s p z n c i = some r := by
    unfold impl_Flags.f impl_flag.f
    cases z <;> cases n <;> cases c <;> cases i <;> exact ⟨_, rfl⟩
  obtain ⟨r, h⟩ := h
  exact ⟨r, e.trans h, h⟩

theorem implVectorOf (m : List (List Int)) (r : List Int) (b a : Int) (hl : m.length ≤ 1048576) (k : Nat) (hk : 2000000 ≤ k) : impl_vectorOf.f k m r b a = some (peekT m r b a % 256 + 256 * (peekT m r b (wrap64 (a + 1)) % 256)) := by
  unfold impl_vectorOf.f
  rw [implPeek m r b a hl k hk, Option.bind_some, implPeek m r b _ hl k hk, Option.bind_some, implJoin]
  rfl
theorem enter_both (m : List (List Int)) (l : List Int) (b : Int) (c : Cp) (vec : Int) (hm : m.length ≤ 1048576) (hl : l.length < 17592186044416) (k : Nat) (hk : 400000000 ≤ k) :
    ∃ r : List Int × Int × Int × Int × Int × Int × Bool × Bool × Bool × Bool, spec_Enter.f k m l b c.A c.X c.S c.P c.Z c.N c.C c.I vec = some r ∧ impl_Enter.f k m l b c.A c.X c.S c.P c.Z c.N c.C c.I vec = some r ∧ r.1.length = l.length := by
  obtain ⟨fl, f1, f2⟩ := flags_both c.A c.X c.S c.P c.Z c.N c.C c.I
  have hq1 := pushF_len l c (c.P / 256)
  have hq2 := pushF_len (pushF l c (c.P / 256)).1 (pushF l c (c.P / 256)).2 c.P
  have e0 : (pushPcF l c).2 = { c with S := (pushPcF l c).2.S } := by
    unfold pushPcF
    rw [(pushF_keeps _ _ _).1, (pushF_keeps l c _).1]
  have hfl : impl_Flags.f (pushPcF l c).2.A (pushPcF l c).2.X (pushPcF l c).2.S (pushPcF l c).2.P (pushPcF l c).2.Z (pushPcF l c).2.N (pushPcF l c).2.C (pushPcF l c).2.I = some fl := by
    rw [← f2, e0]
    rfl
  have hlen : (pushF (pushPcF l c).1 (pushPcF l c).2 fl).1.length = l.length := by
    rw [pushF_len]
    unfold pushPcF
    rw [pushF_len, pushF_len]
  obtain ⟨pc, hpc⟩ : ∃ pc, pc = peekT m (pushF (pushPcF l c).1 (pushPcF l c).2 fl).1 b vec % 256 + 256 * (peekT m (pushF (pushPcF l c).1 (pushPcF l c).2 fl).1 b (wrap64 (vec + 1)) % 256) := ⟨_, rfl⟩
  have hsp := implVectorOf m (pushF (pushPcF l c).1 (pushPcF l c).2 fl).1 b vec hm k (by omega)
  rw [← hpc] at hsp
  refine ⟨((enterF l c fl pc).1, b, (enterF l c fl pc).2.A, (enterF l c fl pc).2.X, (enterF l c fl pc).2.S, (enterF l c fl pc).2.P, (enterF l c fl pc).2.Z, (enterF l c fl pc).2.N, (enterF l c fl pc).2.C, (enterF l c fl pc).2.I), ?_, ?_, hlen⟩
  rotate_left
  · unfold impl_Enter.f
    rw [implCopy l b hl, Option.bind_some]
    simp only
    rw [hfl, Option.bind_some, hsp, Option.bind_some]
  · unfold spec_Enter.f
    rw [specCopy l b hl, Option.bind_some]
    simp only
    rw [f1, Option.bind_some, specPush l b (c.P / 256) c hl, Option.bind_some]
    simp only
    rw [specPush _ b _ (pushF l c (c.P / 256)).2 (by omega), Option.bind_some]
    simp only
    rw [pushF_P l c (c.P / 256)]
    rw [specPush _ b fl (pushF (pushF l c (c.P / 256)).1 (pushF l c (c.P / 256)).2 c.P).2 (by omega), Option.bind_some]
    simp only
    rw [specPeek m _ b vec hm k hk, Option.bind_some, specPeek m _ b _ hm k hk, Option.bind_some, specJoin, Option.bind_some, hpc]
    rfl

theorem sameInts_l0 (l : List Int) (hl : l.length ≤ 140737488351232) : ∀ (k i : Nat), i ≤ l.length → l.length - i < k → laws_sameInts.l0 k l l (i : Int) = some true := by
  intro k
  induction k with
  | zero => intro i _ h; omega
  | succ k ih =>
    intro i hi h
    simp only [laws_sameInts.l0]
    by_cases hlt : i < l.length
    · have c1 : (i : Int) < (l.length : Int) := by omega
      have c0 : (0 : Int) ≤ (i : Int) := by omega
      simp only [c0, c1, if_true]
      rw [wrap_nat (by omega)]
      exact ih (i + 1) (by omega) (by omega)
    · rw [if_neg (by omega)]
theorem sameInts_self (l : List Int) (hl : l.length ≤ 140737488351232) (k : Nat) (hk : l.length < k) : laws_sameInts.f k l l = some true := by
  unfold laws_sameInts.f
  rw [if_pos rfl]
  exact sameInts_l0 l hl k 0 (by omega) (by omega)

theorem implOpLen (a : Int) (k : Nat) (hk : 1 ≤ k) : impl_OpLen.f k a = some (opLenV a) := by
  obtain ⟨k, rfl⟩ : ∃ q, k = q + 1 := ⟨k - 1, by omega⟩
  unfold impl_OpLen.f opLenV
  by_cases h1 : a = 1
  · subst h1; simp [impl_OpLen.j0]
  · rw [if_neg h1, within_eq, Option.bind_some]
    simp only [impl_OpLen.j0]
    by_cases h2 : 4 ≤ a ∧ a ≤ 9
    · simp [h2]
    · have e : decide (4 ≤ a ∧ a ≤ 9) = false := decide_eq_false h2
      rw [e]
      simp only [Bool.false_eq_true, if_false, within_eq, Option.bind_some, h1, h2, or_self]
      by_cases h3 : a = 2
      · subst h3; simp
      · by_cases h4 : a = 3
        · subst h4; simp
        · by_cases h5 : 14 ≤ a ∧ a ≤ 20
          · simp [h3, h4, h5]
          · by_cases h6 : a = 29
            · subst h6; simp
            · have e5 : decide (14 ≤ a ∧ a ≤ 20) = false := decide_eq_false h5
              simp [h3, h4, h5, h6, e5]

def namesI : List ByteArray := (impl_opNames.f).getD []
theorem namesI_len : namesI.length = 30 := rfl
theorem impl_names : impl_opNames.f = some namesI := rfl
theorem opOfI_l0 (L : List ByteArray) (s : ByteArray) (hL : L.length ≤ 1000) : ∀ (k i : Nat), i ≤ L.length → L.length - i < k →
    ∃ r : Int, slices_Index_string_string.l0 k L s (L.length : Int) (i : Int) = some r ∧
      ((r = -1 ∧ ∀ j : Nat, i ≤ j → j < L.length → (rdOf ByteArray.empty L (j : Int)).toList ≠ s.toList) ∨
        ∃ j : Nat, r = (j : Int) ∧ i ≤ j ∧ j < L.length ∧ (rdOf ByteArray.empty L (j : Int)).toList = s.toList ∧ ∀ m : Nat, i ≤ m → m < j → (rdOf ByteArray.empty L (m : Int)).toList ≠ s.toList) := by
  intro k
  induction k with
  | zero => intro i _ h; omega
  | succ k ih =>
    intro i hi h
    simp only [slices_Index_string_string.l0]
    by_cases hlt : i < L.length
    · have c1 : (i : Int) < (L.length : Int) := by omega
      have c0 : (0 : Int) ≤ (i : Int) := by omega
      simp only [c0, c1, if_true]
      by_cases he : (rdOf ByteArray.empty L (i : Int)).toList = s.toList
      · rw [if_pos he.symm]
        exact ⟨i, rfl, .inr ⟨i, rfl, Nat.le_refl _, hlt, he, fun m h1 h2 => by omega⟩⟩
      · rw [if_neg (fun e => he e.symm), wrap_nat (by omega)]
        obtain ⟨r, h2, h3⟩ := ih (i + 1) (by omega) (by omega)
        refine ⟨r, h2, ?_⟩
        rcases h3 with ⟨hr, h3⟩ | ⟨j, hr, hj, hjl, h3, h4⟩
        · refine .inl ⟨hr, fun j hj hjl => ?_⟩
          rcases Nat.lt_or_ge i j with hij | hij
          · exact h3 j hij hjl
          · have : j = i := by omega
            subst this
            exact he
        · refine .inr ⟨j, hr, by omega, hjl, h3, fun m hm hmj => ?_⟩
          rcases Nat.lt_or_ge i m with him | him
          · exact h4 m him hmj
          · have : m = i := by omega
            subst this
            exact he
    · rw [if_neg (by omega)]
      exact ⟨-1, rfl, .inl ⟨rfl, fun j h1 h2 => by omega⟩⟩
def OpIs (s : ByteArray) (r : Int) : Prop := (r = -1 ∧ ∀ j : Nat, j < 30 → (rdOf ByteArray.empty namesI (j : Int)).toList ≠ s.toList) ∨
      ∃ j : Nat, r = (j : Int) ∧ j < 30 ∧ (rdOf ByteArray.empty namesI (j : Int)).toList = s.toList ∧ ∀ m : Nat, m < j → (rdOf ByteArray.empty namesI (m : Int)).toList ≠ s.toList
theorem OpIs.same {s : ByteArray} {r r' : Int} (h3 : OpIs s r) (h3' : OpIs s r') : r = r' := by
  rcases h3 with ⟨rfl, n⟩ | ⟨j, rfl, hj, hy, hn⟩
  · rcases h3' with ⟨rfl, n'⟩ | ⟨j', rfl, hj', hy', hn'⟩
    · rfl
    · exact absurd hy' (n j' hj')
  · rcases h3' with ⟨rfl, n'⟩ | ⟨j', rfl, hj', hy', hn'⟩
    · exact absurd hy (n' j hj)
    · rcases Nat.lt_trichotomy j j' with h | h | h
      · exact absurd hy (hn' j h)
      · rw [h]
      · exact absurd hy' (hn j' h)
theorem opOfI_ok (s : ByteArray) (k : Nat) (hk : 30 < k) : ∃ r : Int, impl_OpOf.f k s = some r ∧ OpIs s r := by
  have hl := namesI_len
  obtain ⟨r, h2, h3⟩ := opOfI_l0 namesI s (by omega) k 0 (by omega) (by omega)
  refine ⟨r, ?_, ?_⟩
  · unfold impl_OpOf.f slices_Index_string_string.f
    rw [impl_names, Option.bind_some, show ((0 : Int)) = ((0 : Nat) : Int) from rfl, h2, Option.bind_some]
  · rw [hl] at h3
    rcases h3 with ⟨hr, h3⟩ | ⟨j, hr, _, hj, h4, h5⟩
    · exact .inl ⟨hr, fun j hj => h3 j (Nat.zero_le _) hj⟩
    · exact .inr ⟨j, hr, hj, h4, fun m hm => h5 m (Nat.zero_le _) hm⟩
/-- The op's number. -/
def opV (s : ByteArray) : Int := (impl_OpOf.f 100 s).getD (-1)
theorem opV_is (s : ByteArray) : OpIs s (opV s) := by
  obtain ⟨r, h1, h3⟩ := opOfI_ok s 100 (by decide)
  have er : opV s = r := by unfold opV; rw [h1]; rfl
  rw [er]
  exact h3
theorem implOpOf (s : ByteArray) (k : Nat) (hk : 30 < k) : impl_OpOf.f k s = some (opV s) := by
  obtain ⟨r, h1, h3⟩ := opOfI_ok s k hk
  rw [h1, (opV_is s).same h3]
theorem opV_le (s : ByteArray) : opV s ≤ 29 := by
  rcases opV_is s with ⟨h, -⟩ | ⟨j, h, hj, -⟩ <;> omega
end LFnEntered
open LFnEntered

theorem drawEnter_ok (l : List Int) (hl : l.length ≤ 140737488351232) (k : Nat) (hk : l.length < k) (hk2 : 6000000 < k) : ∃ X q m a x s p z n c i v, spec_DrawEnter.f k l = some (X, q, m, a, x, s, p, z, n, c, i, v) ∧ X.length ≤ 3 ∧ q.length ≤ 512 := by
  unfold spec_DrawEnter.f
  obtain ⟨h, e⟩ := l1New_ok l hl k hk
  rw [e, Option.bind_some]
  simp only
  obtain ⟨X, q, m, i1, g1, e1, hX, _, hq, p0, p1⟩ := draw6_ok l hl 0 h (by omega) (by omega) k hk2
  rw [e1, Option.bind_some]
  simp only
  obtain ⟨a, x, s, p, z, n, c, i, i2, g2, e2, q0, q1⟩ := l5Draw_ok l hl i1 g1 p0 p1
  rw [e2, Option.bind_some]
  simp only
  obtain ⟨v, i3, g3, e3, _, _, _⟩ := l1PickInt_ok l hl i2 g2 q0 q1 [65530, 65534, 65532, 0, 65535] (by decide)
  rw [e3, Option.bind_some]
  exact ⟨_, _, _, _, _, _, _, _, _, _, _, _, rfl, hX, hq⟩
theorem implEnter_is (m : List (List Int)) (l : List Int) (b : Int) (c : Cp) (vec : Int) (hm : m.length ≤ 1048576) (hl : l.length < 17592186044416) (k : Nat) (hk : 400000000 ≤ k) :
    ∃ fl pc, impl_Flags.f c.A c.X c.S c.P c.Z c.N c.C c.I = some fl ∧ impl_Enter.f k m l b c.A c.X c.S c.P c.Z c.N c.C c.I vec = some ((enterF l c fl pc).1, b, (enterF l c fl pc).2.A, (enterF l c fl pc).2.X, (enterF l c fl pc).2.S, (enterF l c fl pc).2.P, (enterF l c fl pc).2.Z, (enterF l c fl pc).2.N, (enterF l c fl pc).2.C, (enterF l c fl pc).2.I) := by
  obtain ⟨fl, f1, f2⟩ := flags_both c.A c.X c.S c.P c.Z c.N c.C c.I
  have e0 : (pushPcF l c).2 = { c with S := (pushPcF l c).2.S } := by
    unfold pushPcF
    rw [(pushF_keeps _ _ _).1, (pushF_keeps l c _).1]
  have hfl : impl_Flags.f (pushPcF l c).2.A (pushPcF l c).2.X (pushPcF l c).2.S (pushPcF l c).2.P (pushPcF l c).2.Z (pushPcF l c).2.N (pushPcF l c).2.C (pushPcF l c).2.I = some fl := by
    rw [← f2, e0]
    rfl
  refine ⟨fl, peekT m (pushF (pushPcF l c).1 (pushPcF l c).2 fl).1 b vec % 256 + 256 * (peekT m (pushF (pushPcF l c).1 (pushPcF l c).2 fl).1 b (wrap64 (vec + 1)) % 256), f2, ?_⟩
  unfold impl_Enter.f
  rw [implCopy l b hl, Option.bind_some]
  simp only
  rw [hfl, Option.bind_some, implVectorOf m (pushF (pushPcF l c).1 (pushPcF l c).2 fl).1 b vec hm k (by omega), Option.bind_some]
theorem rti_is : opV (⟨#[114, 116, 105]⟩ : ByteArray) = 24 := by decide +kernel
theorem flag_bits (z n c i : Bool) : ∃ fl : Int, impl_Flags.f 0 0 0 0 z n c i = some fl ∧ 0 ≤ fl ∧ fl ≤ 255 ∧ (Go.bits .and .i64 fl 2 != 0) = z ∧ (Go.bits .and .i64 fl 128 != 0) = n ∧ (Go.bits .and .i64 fl 1 != 0) = c ∧ (Go.bits .and .i64 fl 4 != 0) = i := by
  have key : ∀ z n c i : Bool, 0 ≤ (impl_Flags.f 0 0 0 0 z n c i).getD 0 ∧ (impl_Flags.f 0 0 0 0 z n c i).getD 0 ≤ 255 ∧ (Go.bits .and .i64 ((impl_Flags.f 0 0 0 0 z n c i).getD 0) 2 != 0) = z ∧ (Go.bits .and .i64 ((impl_Flags.f 0 0 0 0 z n c i).getD 0) 128 != 0) = n ∧ (Go.bits .and .i64 ((impl_Flags.f 0 0 0 0 z n c i).getD 0) 1 != 0) = c ∧ (Go.bits .and .i64 ((impl_Flags.f 0 0 0 0 z n c i).getD 0) 4 != 0) = i := by decide +kernel
  obtain ⟨r, _, h⟩ := flags_both 0 0 0 0 z n c i
  have := key z n c i
  rw [h] at this
  exact ⟨r, h, this⟩
theorem rd_here (l : List Int) (i : Int) (v : Int) (h0 : 0 ≤ i) (h1 : i < l.length) : rd (l.set i.toNat v) i = v := by
  unfold rd
  simp [List.getD_eq_getElem?_getD, show i.toNat < l.length by omega]
theorem rd_there (l : List Int) (i j : Int) (v : Int) (h0 : 0 ≤ i) (h1 : 0 ≤ j) (h : i ≠ j) : rd (l.set i.toNat v) j = rd l j := by
  unfold rd
  have : i.toNat ≠ j.toNat := by omega
  simp [List.getD_eq_getElem?_getD, List.getElem?_set, this]
set_option maxHeartbeats 8000000 in
theorem back_again (l : List Int) (A X S P : Int) (Z N C I : Bool) (fl pc ln : Int) (h5 : l.length = 512) (s0 : 0 ≤ S) (s1 : S ≤ 255) (p0 : 0 ≤ P) (p1 : P ≤ 65535) (hf : impl_Flags.f A X S P Z N C I = some fl) :
    (enterF l ⟨A, X, S, P, Z, N, C, I⟩ fl pc).2.S = wrap64 (S - 3) % 256 ∧
    ∃ z n c i, (execF (enterF l ⟨A, X, S, P, Z, N, C, I⟩ fl pc).1 (enterF l ⟨A, X, S, P, Z, N, C, I⟩ fl pc).2 24 0 0 ln).2 = ⟨A, X, S, P, z, n, c, i⟩ ∧ impl_Flags.f A X S P z n c i = some fl := by
  obtain ⟨fl', hf', f0, f1, b1, b2, b3, b4⟩ := flag_bits Z N C I
  have ef : fl' = fl := Option.some.inj (hf'.symm.trans hf)
  subst ef
  have w1 : wrap64 (S - 1) % 256 = (S - 1) % 256 := by unfold wrap64; omega
  have t1 : ∀ q : Int, 0 ≤ q → q ≤ 255 → wrap64 (q - 1) % 256 = (q - 1) % 256 ∧ wrap64 (q + 1) % 256 = (q + 1) % 256 := by
    intro q _ _
    unfold wrap64
    omega
  have e3 : wrap64 (S - 3) % 256 = (S - 3) % 256 := by unfold wrap64; omega
  obtain ⟨S1, hS1⟩ : ∃ q, q = (S - 1) % 256 := ⟨_, rfl⟩
  obtain ⟨S2, hS2⟩ : ∃ q, q = (S1 - 1) % 256 := ⟨_, rfl⟩
  obtain ⟨S3, hS3⟩ : ∃ q, q = (S2 - 1) % 256 := ⟨_, rfl⟩
  have a1 := (t1 S s0 s1).1
  have a2 := (t1 S1 (by omega) (by omega)).1
  have a3 := (t1 S2 (by omega) (by omega)).1
  have a4 := (t1 S3 (by omega) (by omega)).2
  have a5 := (t1 S2 (by omega) (by omega)).2
  have a6 := (t1 S1 (by omega) (by omega)).2
  have k0 : S % 256 = S := by omega
  have k1 : S1 % 256 = S1 := by omega
  have k2 : S2 % 256 = S2 := by omega
  have u4 : wrap64 (S3 + 1) % 256 = S2 := by omega
  have u5 : wrap64 (S2 + 1) % 256 = S1 := by omega
  have u6 : wrap64 (S1 + 1) % 256 = S := by omega
  have g1 : (l.set (256 + S).toNat (P / 256 % 256)).length = 512 := by simpa using h5
  have g2 : ((l.set (256 + S).toNat (P / 256 % 256)).set (256 + S1).toNat (P % 256)).length = 512 := by simpa using h5
  have g3 : (((l.set (256 + S).toNat (P / 256 % 256)).set (256 + S1).toNat (P % 256)).set (256 + S2).toNat (fl' % 256)).length = 512 := by simpa using h5
  have hE : enterF l ⟨A, X, S, P, Z, N, C, I⟩ fl' pc = (((l.set (256 + S).toNat (P / 256 % 256)).set (256 + S1).toNat (P % 256)).set (256 + S2).toNat (fl' % 256), ⟨A, X, S3, pc, Z, N, C, true⟩) := by
    unfold enterF pushPcF pushF
    simp only [h5, if_true, k0, a1, ← hS1, g1, k1, a2, ← hS2, g2, k2, a3, ← hS3]
  rw [hE]
  refine ⟨by show S3 = _; omega, ?_⟩
  obtain ⟨R, hR⟩ : ∃ R, R = ((l.set (256 + S).toNat (P / 256 % 256)).set (256 + S1).toNat (P % 256)).set (256 + S2).toNat (fl' % 256) := ⟨_, rfl⟩
  have r2 : rd R (256 + S2) = fl' % 256 := by rw [hR]; exact rd_here _ _ _ (by omega) (by omega)
  have r1 : rd R (256 + S1) = P % 256 := by
    rw [hR, rd_there _ _ _ _ (by omega) (by omega) (by omega)]
    exact rd_here _ _ _ (by omega) (by omega)
  have r0 : rd R (256 + S) = P / 256 % 256 := by
    rw [hR, rd_there _ _ _ _ (by omega) (by omega) (by omega), rd_there _ _ _ _ (by omega) (by omega) (by omega)]
    exact rd_here _ _ _ (by omega) (by omega)
  rw [← hR] at g3 ⊢
  have ff : fl' % 256 = fl' := by omega
  refine ⟨Z, N, C, I, ?_, hf⟩
  unfold execF reckonF turnF flowF
  simp only [show ¬ ((24 : Int) = 1) by decide, show ¬ ((24 : Int) = 2) by decide, show ¬ ((24 : Int) = 14) by decide, show ¬ ((24 : Int) = 4) by decide, show ¬ ((24 : Int) = 29) by decide, show ¬ ((24 : Int) = 5) by decide, show ¬ ((24 : Int) = 6) by decide, show ¬ ((24 : Int) = 7) by decide, show ¬ ((24 : Int) = 8) by decide, show ¬ ((24 : Int) = 9) by decide, show ¬ ((24 : Int) = 10) by decide, show ¬ ((24 : Int) = 11) by decide, show ¬ ((24 : Int) = 12) by decide, show ¬ ((24 : Int) = 13) by decide, show ¬ ((24 : Int) = 25) by decide, show ¬ ((24 : Int) = 26) by decide, show ¬ ((24 : Int) = 27) by decide, show ¬ ((24 : Int) = 28) by decide, show ¬ ((24 : Int) = 16) by decide, show ¬ ((24 : Int) = 17) by decide, show ¬ ((24 : Int) = 18) by decide, show ¬ ((24 : Int) = 19) by decide, show ¬ ((24 : Int) = 20) by decide, show ¬ ((24 : Int) = 21) by decide, show ¬ ((24 : Int) = 22) by decide, show ¬ ((24 : Int) = 23) by decide, if_false, if_true, Bool.false_eq_true]
  unfold backF pullF flagK
  simp only [g3, if_true, u4, u5, u6, r2, r1, r0, ff, b1, b2, b3, b4]
  rw [show P % 256 % 256 + 256 * (P / 256 % 256 % 256) = P by omega]
theorem cpuOk_is (a x s p : Int) (z n c i : Bool) : ∃ t, spec_CpuOk.f a x s p z n c i = some t ∧ (t = true → 0 ≤ s ∧ s ≤ 255 ∧ 0 ≤ p ∧ p ≤ 65535) := by
  simp only [spec_CpuOk.f, spec_l5Byte.f, l1In_eq, Option.bind_some]
  by_cases h1 : decide (0 ≤ a ∧ a ≤ 255) = true
  · rw [if_pos h1]
    by_cases h2 : decide (0 ≤ x ∧ x ≤ 255) = true
    · rw [if_pos h2]
      by_cases h3 : decide (0 ≤ s ∧ s ≤ 255) = true
      · rw [if_pos h3]
        refine ⟨_, rfl, fun h => ?_⟩
        have h3' := of_decide_eq_true h3
        have h4 := of_decide_eq_true h
        omega
      · rw [if_neg h3]
        exact ⟨_, rfl, by simp⟩
    · rw [if_neg h2]
      exact ⟨_, rfl, by simp⟩
  · rw [if_neg h1]
    exact ⟨_, rfl, by simp⟩
theorem FnEntered (l0 : List Int) (w0 : l0.length ≤ 9223372036854775807) (z0 : ∀ x ∈ l0, (Lit.int .u8 x).wf = true) : ∃ k, (laws_FnEntered.f k l0) = some true := by
  obtain ⟨K, hK⟩ : ∃ K : Nat, 400000000 ≤ K := ⟨_, Nat.le_refl _⟩
  refine ⟨K + 1 + 1, ?_⟩
  unfold laws_FnEntered.f laws_big.f
  simp only [Option.bind_some]
  by_cases hb : (l0.length : Int) > 1048576
  · rw [if_pos (by simpa using hb)]
  · rw [if_neg (by simpa using hb)]
    obtain ⟨m, l, b, a, x, s, p, z, n, c, i, v, e1, hm, hl⟩ := drawEnter_ok l0 (by omega) (K + 1 + 1) (by omega) (by omega)
    rw [e1, Option.bind_some]
    simp only
    obtain ⟨r, e2, e3, hrl⟩ := enter_both m l b ⟨a, x, s, p, z, n, c, i⟩ v (by omega) (by omega) (K + 1 + 1) (by omega)
    obtain ⟨fl, pc, hf, e4⟩ := implEnter_is m l b ⟨a, x, s, p, z, n, c, i⟩ v (by omega) (by omega) (K + 1 + 1) (by omega)
    have er := Option.some.inj (e3.symm.trans e4)
    simp only at e2 e3
    rw [e2, e3, Option.bind_some, Option.bind_some]
    simp only [beq_self_eq_true, Bool.not_true, Bool.or_self, Bool.false_eq_true, if_false]
    rw [sameInts_self r.1 (by omega) _ (by omega), Option.bind_some]
    simp only [laws_FnEntered.j0, Bool.not_true, Bool.false_eq_true, if_false]
    rw [specMemOk m l b (by omega) _ (by omega), Option.bind_some]
    obtain ⟨t, ec, ht⟩ := cpuOk_is a x s p z n c i
    rw [ec, Option.bind_some]
    have hI : r.2.2.2.2.2.2.2.2.2 = true := by rw [er]; rfl
    by_cases hok : memOk m l b = true
    · rw [if_pos hok]
      simp only [laws_FnEntered.j1]
      cases t with
      | false => simp only [Bool.not_false, if_true, hI]
      | true =>
        obtain ⟨s0, s1, p0, p1⟩ := ht rfl
        obtain ⟨himg, h5, hx, hb0, hb1⟩ := (memOk_iff m l b).1 hok
        simp only [Bool.not_true, Bool.false_eq_true, if_false]
        rw [implOpOf _ K (by omega), Option.bind_some, rti_is]
        have hln := implOpLen 24 K (by omega)
        obtain ⟨w1, z', n', c', i', w2, w3⟩ := back_again l a x s p z n c i fl pc (opLenV 24) h5 s0 s1 p0 p1 hf
        unfold impl_Exec.f
        rw [implCopy r.1 r.2.1 (by omega), Option.bind_some, hln, Option.bind_some, Option.bind_some, if_pos hI]
        rw [er]
        simp only
        rw [show (⟨(enterF l ⟨a, x, s, p, z, n, c, i⟩ fl pc).2.A, (enterF l ⟨a, x, s, p, z, n, c, i⟩ fl pc).2.X, (enterF l ⟨a, x, s, p, z, n, c, i⟩ fl pc).2.S, (enterF l ⟨a, x, s, p, z, n, c, i⟩ fl pc).2.P, (enterF l ⟨a, x, s, p, z, n, c, i⟩ fl pc).2.Z, (enterF l ⟨a, x, s, p, z, n, c, i⟩ fl pc).2.N, (enterF l ⟨a, x, s, p, z, n, c, i⟩ fl pc).2.C, (enterF l ⟨a, x, s, p, z, n, c, i⟩ fl pc).2.I⟩ : Cp) = (enterF l ⟨a, x, s, p, z, n, c, i⟩ fl pc).2 from rfl, w2]
        unfold impl_Byte.f
        simp only [Option.bind_some, LFnEntered.and255, w1, if_true]
        have w4 : impl_Flags.f a x s p z n c i = some fl := hf
        rw [w3, w4]
        simp
    · rw [if_neg hok]
      simp only [laws_FnEntered.j1, if_true, hI]

end Go.Proofs.Ytmkccgbfgebfbaa.Pure
