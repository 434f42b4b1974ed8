/- A drawn image is written to bytes as the reference writes it and read back from them; drawn bytes are read as the reference reads them; a drawn bank is the reference's. No condition. -/
import Derived.Test.YtmkccgbfgebfbaaMFnImagex0
import Derived.Test.YtmkccgbfgebfbaaMFnImagex1
import Derived.Test.YtmkccgbfgebfbaaMFnImagex2
import Derived.Test.YtmkccgbfgebfbaaMFnImagex3
import Derived.Test.YtmkccgbfgebfbaaMFnImagex4
import Derived.Test.YtmkccgbfgebfbaaMFnImagex5
import Derived.Laws.Bits128
import Derived.Lib.Bytes
namespace Go.Proofs.Ytmkccgbfgebfbaa.Pure
open Go.RowKit Go.Proofs.Ytmkccgbfgebfbaa.MFnImage Go.Proofs.YtmkccgbfgebfbaaW.PrintWords Go.Proofs.YtmkccgbfgebfbaaW.PrintLast Go.Proofs.YtmkccgbfgebfbaaW.PrintMore
set_option linter.unusedVariables false
set_option linter.unusedSimpArgs false
namespace LFnImage
theorem and_low (n : Int) (j : Nat) (m : Int) (hj : j < 64) (hm : (BitVec.ofInt 64 m).toNat = 2 ^ j - 1) : Go.bits .and .i64 n m = n % (2 ^ j : Nat) := by
  have key : (BitVec.ofInt 64 n &&& BitVec.ofInt 64 m).toNat = (n % ((2 ^ 64 : Nat) : Int)).toNat % 2 ^ j := by
    rw [BitVec.toNat_and, BitVec.toNat_ofInt, hm, Nat.and_two_pow_sub_one_eq_mod]
  show IntKind.i64.wrap ((BitVec.ofInt 64 n &&& BitVec.ofInt 64 m).toNat : Nat) = n % (2 ^ j : Nat)
  have hd : ((2 ^ j : Nat) : Int) ∣ ((2 ^ 64 : Nat) : Int) := by
    exact_mod_cast Nat.pow_dvd_pow 2 (Nat.le_of_lt hj)
  have hp : (0 : Int) < ((2 ^ j : Nat) : Int) := by exact_mod_cast Nat.two_pow_pos j
  have hle : ((2 ^ j : Nat) : Int) ≤ ((2 ^ 63 : Nat) : Int) := by
    exact_mod_cast Nat.pow_le_pow_right (by decide) (by omega)
  have e : (((n % ((2 ^ 64 : Nat) : Int)).toNat % 2 ^ j : Nat) : Int) = n % ((2 ^ j : Nat) : Int) := by
    rw [Int.natCast_emod, Int.toNat_of_nonneg (Int.emod_nonneg _ (by decide)), Int.emod_emod_of_dvd _ hd]
  rw [key, e, IntKind.wrap_i64]
  have h0 := Int.emod_nonneg n (Int.ne_of_gt hp)
  have h1 := Int.emod_lt_of_pos n hp
  generalize n % ((2 ^ j : Nat) : Int) = x at *
  generalize ((2 ^ j : Nat) : Int) = y at *
  have : ((2 ^ 63 : Nat) : Int) = 9223372036854775808 := by decide
  omega
theorem and255 (n : Int) : Go.bits .and .i64 n 255 = n % 256 := and_low n 8 255 (by decide) (by decide)
theorem and65535 (n : Int) : Go.bits .and .i64 n 65535 = n % 65536 := and_low n 16 65535 (by decide) (by decide)
theorem wrap_small {n : Int} (h0 : -9223372036854775808 ≤ n) (h1 : n ≤ 9223372036854775807) : wrap64 n = n := by
  unfold wrap64; omega
theorem wrap_nat {i : Nat} (h : i ≤ 4611686018427387904) : wrap64 ((i : Int) + 1) = ((i + 1 : Nat) : Int) := by
  unfold wrap64; omega
theorem rd_nat (l : List Int) (i : Nat) (h : i < l.length) : rd l (i : Int) = l[i] := by
  unfold rd; simp [List.getD, h]

theorem and_range (n : Int) : 0 ≤ Go.bits .and .i64 n 255 ∧ Go.bits .and .i64 n 255 ≤ 255 := by
  rw [and255]; omega
theorem l1New_l0 (l : List Int) (hl : l.length ≤ 140737488351232) : ∀ (k : Nat) (h : Int) (i : Nat), i ≤ l.length → l.length - i < k → ∃ h', spec_l1New.l0 k l h (i : Int) = some (l, 0, h') := by
  intro k
  induction k with
  | zero => intro h i _ hk; omega
  | succ k ih =>
    intro h i hi hk
    simp only [spec_l1New.l0]
    by_cases hlt : i < l.length
    · rw [if_pos (by omega)]
      by_cases h4 : (i : Int) < 4000
      · rw [if_pos h4, if_pos (by omega), wrap_nat (by omega)]
        exact ih _ (i + 1) (by omega) (by omega)
      · rw [if_neg h4]; exact ⟨_, rfl⟩
    · rw [if_neg (by omega)]; exact ⟨_, rfl⟩
theorem l1New_ok (l : List Int) (hl : l.length ≤ 140737488351232) (k : Nat) (hk : l.length < k) : ∃ h', spec_l1New.f k l = some (l, 0, h') := by
  unfold spec_l1New.f
  have := l1New_l0 l hl k (wrap64 (18554 + (l.length : Int))) 0 (by omega) (by omega)
  rwa [show ((0 : Nat) : Int) = 0 from rfl] at this
theorem l1Byte_ok (l : List Int) (hl : l.length ≤ 140737488351232) (i h : Int) (h0 : 0 ≤ i) (h1 : i ≤ l.length) : ∃ r i' h' : Int, spec_l1Byte.f l i h = some (r, i', h') ∧ 0 ≤ r ∧ r ≤ 255 ∧ 0 ≤ i' ∧ i' ≤ l.length := by
  unfold spec_l1Byte.f
  by_cases hlt : i < (l.length : Int)
  · rw [if_pos hlt, if_pos h0]
    refine ⟨_, _, _, rfl, (and_range _).1, (and_range _).2, ?_, ?_⟩ <;> rw [wrap_small (by omega) (by omega)] <;> omega
  · rw [if_neg hlt]
    exact ⟨_, _, _, rfl, (and_range _).1, (and_range _).2, h0, h1⟩
theorem l1Below_ok (l : List Int) (hl : l.length ≤ 140737488351232) (i h : Int) (h0 : 0 ≤ i) (h1 : i ≤ l.length) (n : Int) : ∃ r i' h' : Int, spec_l1Below.f l i h n = some (r, i', h') ∧ 0 ≤ r ∧ (0 < n → r < n) ∧ (n ≤ 0 → r = 0) ∧ 0 ≤ i' ∧ i' ≤ l.length := by
  unfold spec_l1Below.f
  by_cases hn : n ≤ 0
  · rw [if_pos hn]; exact ⟨0, i, h, rfl, by omega, by omega, fun _ => rfl, h0, h1⟩
  · rw [if_neg hn]
    obtain ⟨x, i1, g1, e1, x0, x1, p0, p1⟩ := l1Byte_ok l hl i h h0 h1
    rw [e1]
    simp only [Option.bind_some]
    by_cases hs : n ≤ 256
    · rw [if_pos hs, if_neg (by omega), Int.tmod_eq_emod_of_nonneg x0]
      exact ⟨_, _, _, rfl, Int.emod_nonneg _ (by omega), fun h => Int.emod_lt_of_pos _ h, by omega, p0, p1⟩
    · rw [if_neg hs]
      obtain ⟨y, i2, g2, e2, y0, y1, q0, q1⟩ := l1Byte_ok l hl i1 g1 p0 p1
      rw [e2]
      simp only [Option.bind_some]
      obtain ⟨z, i3, g3, e3, z0, z1, s0, s1⟩ := l1Byte_ok l hl i2 g2 q0 q1
      rw [e3]
      simp only [Option.bind_some]
      obtain ⟨u, i4, g4, e4, u0, u1, t0, t1⟩ := l1Byte_ok l hl i3 g3 s0 s1
      rw [e4]
      simp only [Option.bind_some]
      have e : wrap64 (wrap64 (wrap64 (wrap64 (x * 16777216) + wrap64 (y * 65536)) + wrap64 (z * 256)) + u) = x * 16777216 + y * 65536 + z * 256 + u := by
        rw [wrap_small (n := x * 16777216) (by omega) (by omega), wrap_small (n := y * 65536) (by omega) (by omega), wrap_small (n := z * 256) (by omega) (by omega), wrap_small (n := x * 16777216 + y * 65536) (by omega) (by omega), wrap_small (n := x * 16777216 + y * 65536 + z * 256) (by omega) (by omega), wrap_small (by omega) (by omega)]
      rw [e, if_neg (by omega), Int.tmod_eq_emod_of_nonneg (by omega)]
      exact ⟨_, _, _, rfl, Int.emod_nonneg _ (by omega), fun h => Int.emod_lt_of_pos _ h, by omega, t0, t1⟩
theorem l1Once_ok (l : List Int) (hl : l.length ≤ 140737488351232) (i h : Int) (h0 : 0 ≤ i) (h1 : i ≤ l.length) (n : Int) : ∃ (r : Bool) (i' h' : Int), spec_l1Once.f l i h n = some (r, i', h') ∧ 0 ≤ i' ∧ i' ≤ l.length := by
  obtain ⟨r, i', h', e, _, _, _, p0, p1⟩ := l1Below_ok l hl i h h0 h1 n
  unfold spec_l1Once.f
  rw [e]
  exact ⟨_, _, _, rfl, p0, p1⟩
theorem l1PickInt_ok (l : List Int) (hl : l.length ≤ 140737488351232) (i h : Int) (h0 : 0 ≤ i) (h1 : i ≤ l.length) (q : List Int) (hq : 0 < q.length) : ∃ (r i' h' : Int), spec_l1PickInt.f l i h q = some (r, i', h') ∧ r ∈ q ∧ 0 ≤ i' ∧ i' ≤ l.length := by
  obtain ⟨r, i', h', e, r0, r1, _, p0, p1⟩ := l1Below_ok l hl i h h0 h1 (q.length : Int)
  unfold spec_l1PickInt.f
  rw [e]
  simp only [Option.bind_some]
  have r2 := r1 (by omega)
  rw [if_pos r0, if_pos r2]
  obtain ⟨j, rfl⟩ := Int.eq_ofNat_of_zero_le r0
  exact ⟨_, _, _, rfl, by rw [rd_nat q j (by omega)]; exact List.getElem_mem _, p0, p1⟩

theorem within_eq (x lo hi : Int) : impl_within.f x lo hi = some (decide (lo ≤ x ∧ x ≤ hi)) := by
  unfold impl_within.f
  split <;> simp <;> omega
theorem l1In_eq (x lo hi : Int) : spec_l1In.f x lo hi = some (decide (lo ≤ x ∧ x ≤ hi)) := by
  unfold spec_l1In.f
  split <;> simp <;> omega

def opLenV (a : Int) : Int := if a = 1 ∨ (4 ≤ a ∧ a ≤ 9) then 2 else if a = 2 ∨ a = 3 ∨ (14 ≤ a ∧ a ≤ 20) ∨ a = 29 then 3 else 1
theorem specOpLen (a : Int) : spec_OpLen.f a = some (opLenV a) := by
  by_cases h : 0 ≤ a ∧ a ≤ 29
  · have hc : ∀ n : Fin 30, spec_OpLen.f (n.val : Int) = some (opLenV (n.val : Int)) := by decide
    have := hc ⟨a.toNat, by omega⟩
    rw [show ((a.toNat : Nat) : Int) = a by omega] at this
    exact this
  · unfold spec_OpLen.f opLenV
    have e : decide (0 ≤ a ∧ a ≤ 29) = false := decide_eq_false h
    rw [l1In_eq, Option.bind_some, e, if_neg (by decide), if_neg (by omega), if_neg (by omega)]
theorem opLenV_three (a : Int) : opLenV a = 1 ∨ opLenV a = 2 ∨ opLenV a = 3 := by
  unfold opLenV; repeat' split
  all_goals omega

theorem digits_l0 : ∀ (m : Nat) (n : Int) (s : ByteArray), 0 ≤ n → n.toNat = m → n ≤ 1000000 → s.size + m ≤ 10000000 → ∀ k, m < k → ∃ r, spec_l4Digits.l0 k n s = some r := by
  intro m
  induction m using Nat.strongRecOn with
  | _ m ih =>
    intro n s h0 hm h1 hs k hk
    obtain ⟨k, rfl⟩ : ∃ q, k = q + 1 := ⟨k - 1, by omega⟩
    simp only [spec_l4Digits.l0, Option.bind_some]
    by_cases hn : n > 0
    · rw [if_pos hn, strOfNums_size, if_pos (by simp; omega), Int.tdiv_eq_ediv_of_nonneg h0, wrap_small (by omega) (by omega)]
      exact ih (n / 10).toNat (by omega) (n / 10) _ (by omega) rfl (by omega) (by rw [ByteArray.size_append, strOfNums_size]; simp; omega) k (by omega)
    · rw [if_neg hn]
      exact ⟨_, rfl⟩
theorem digits_ok (n : Int) (h0 : 0 ≤ n) (h1 : n ≤ 1000000) (k : Nat) (hk : 1000001 < k) : ∃ r, spec_l4Digits.f k n = some r := by
  unfold spec_l4Digits.f
  by_cases h : n = 0
  · rw [if_pos h]; exact ⟨_, rfl⟩
  · rw [if_neg h]
    exact digits_l0 n.toNat n _ h0 rfl h1 (by have : (⟨#[]⟩ : ByteArray).size = 0 := rfl; omega) k (by omega)
theorem ten_pow (i : Nat) (h : i ≤ 5) : (10 : Int) ^ i ≤ 100000 := by
  have : i = 0 ∨ i = 1 ∨ i = 2 ∨ i = 3 ∨ i = 4 ∨ i = 5 := by omega
  rcases this with rfl | rfl | rfl | rfl | rfl | rfl <;> decide
theorem num_l0 (s : ByteArray) (hs : s.size ≤ 5) : ∀ (d i : Nat) (x : Int), s.size - i = d → i ≤ s.size → 0 ≤ x → x < 10 ^ i → ∀ k, d + 1000010 < k → ∃ r : Int, spec_l4Num.l0 k s x (i : Int) = some r := by
  intro d
  induction d with
  | zero =>
    intro i x hd hi h0 h1 k hk
    obtain ⟨k, rfl⟩ : ∃ q, k = q + 1 := ⟨k - 1, by omega⟩
    simp only [spec_l4Num.l0]
    have := ten_pow i (by omega)
    obtain ⟨t, e⟩ := digits_ok x h0 (by omega) k (by omega)
    rw [if_neg (by omega), e, Option.bind_some]
    split
    · exact ⟨_, rfl⟩
    · exact ⟨_, rfl⟩
  | succ d ih =>
    intro i x hd hi h0 h1 k hk
    obtain ⟨k, rfl⟩ : ∃ q, k = q + 1 := ⟨k - 1, by omega⟩
    simp only [spec_l4Num.l0]
    rw [if_pos (by omega), if_pos (by omega)]
    by_cases b0 : bt s (i : Int) < 48
    · rw [if_pos b0]; exact ⟨_, rfl⟩
    · rw [if_neg b0]
      by_cases b1 : bt s (i : Int) > 57
      · rw [if_pos b1]; exact ⟨_, rfl⟩
      · rw [if_neg b1, wrap_nat (by omega)]
        have hp := ten_pow i (by omega)
        have e : (10 : Int) ^ (i + 1) = 10 ^ i * 10 := Int.pow_succ 10 i
        rw [wrap_small (n := 10 * x) (by omega) (by omega), wrap_small (n := bt s (i : Int)) (by omega) (by omega), wrap_small (n := 10 * x + bt s (i : Int)) (by omega) (by omega), wrap_small (n := 10 * x + bt s (i : Int) - 48) (by omega) (by omega)]
        exact ih (i + 1) _ (by omega) (by omega) (by omega) (by omega) k (by omega)
theorem num_ok (s : ByteArray) (k : Nat) (hk : 1000100 < k) : ∃ r : Int, spec_l4Num.f k s = some r := by
  obtain ⟨k, rfl⟩ : ∃ q, k = q + 1 := ⟨k - 1, by omega⟩
  unfold spec_l4Num.f
  have key : ∀ b : Bool, (b = false → s.size ≤ 5) → ∃ r : Int, spec_l4Num.j0 (k + 1) s b = some r := by
    intro b hb
    simp only [spec_l4Num.j0]
    cases b with
    | true => rw [if_pos rfl]; exact ⟨_, rfl⟩
    | false =>
      rw [if_neg (by decide)]
      have := num_l0 s (hb rfl) s.size 0 0 (by omega) (by omega) (by omega) (by decide) k (by have := hb rfl; omega)
      exact this
  split
  · exact key true (by simp)
  · exact key _ (fun h => by have := of_decide_eq_false h; omega)
theorem line_l0 (s : ByteArray) (hs : s.size ≤ 1000000) : ∀ (d i : Nat), s.size - i = d → i ≤ s.size → ∀ k, d + 1000200 < k → ∃ r, spec_l4Line.l0 k s (i : Int) = some r := by
  intro d
  induction d with
  | zero =>
    intro i hd hi k hk
    obtain ⟨k, rfl⟩ : ∃ q, k = q + 1 := ⟨k - 1, by omega⟩
    simp only [spec_l4Line.l0]
    rw [if_neg (by omega)]
    exact ⟨_, rfl⟩
  | succ d ih =>
    intro i hd hi k hk
    obtain ⟨k, rfl⟩ : ∃ q, k = q + 1 := ⟨k - 1, by omega⟩
    simp only [spec_l4Line.l0]
    rw [if_pos (by omega), if_pos (by omega), wrap_nat (by omega)]
    by_cases hb : bt s (i : Int) = 32
    · obtain ⟨t, e⟩ := num_ok (s.extract (((i + 1 : Nat) : Int)).toNat s.size) k (by omega)
      rw [if_pos hb, if_pos (by omega), if_pos (by omega), e, Option.bind_some, if_pos (by omega)]
      exact ⟨_, rfl⟩
    · rw [if_neg hb]
      exact ih (i + 1) (by omega) (by omega) k (by omega)
theorem line_ok (s : ByteArray) (hs : s.size ≤ 1000000) (k : Nat) (hk : 2100000 < k) : ∃ r, spec_l4Line.f k s = some r := by
  unfold spec_l4Line.f
  exact line_l0 s hs s.size 0 (by omega) (by omega) k (by omega)
def names : List ByteArray := (spec_l3Names.f).getD []
theorem names_len : names.length = 30 := rfl
theorem spec_names : spec_l3Names.f = some names := rfl
theorem specOpOf_l0 (L : List ByteArray) (s : ByteArray) (hL : L.length ≤ 1000) : ∀ (k i : Nat), i ≤ L.length → L.length - i < k → ∃ r : Int, spec_OpOf.l0 k s L (i : Int) = some r := by
  intro k
  induction k with
  | zero => intro i _ h; omega
  | succ k ih =>
    intro i hi h
    simp only [spec_OpOf.l0]
    by_cases hlt : i < L.length
    · rw [if_pos (by omega), if_pos (by omega), wrap_nat (by omega)]
      split
      · exact ⟨_, rfl⟩
      · exact ih (i + 1) (by omega) (by omega)
    · rw [if_neg (by omega)]
      exact ⟨_, rfl⟩
theorem specOpOf_ok (s : ByteArray) (k : Nat) (hk : 100 < k) : ∃ r : Int, spec_OpOf.f k s = some r := by
  unfold spec_OpOf.f
  rw [spec_names, Option.bind_some]
  exact specOpOf_l0 names s (by decide) k 0 (by omega) (by have := names_len; omega)
theorem bytes_ok (s : ByteArray) (hs : s.size ≤ 1000000) (k : Nat) (hk : 2100100 < k) : ∃ r : List Int × Int × Bool, spec_l4Bytes.f k s = some r ∧ r.1.length ≤ 3 := by
  obtain ⟨k, rfl⟩ : ∃ q, k = q + 1 := ⟨k - 1, by omega⟩
  unfold spec_l4Bytes.f
  obtain ⟨⟨w, n, ok⟩, e⟩ := line_ok s hs (k + 1) (by omega)
  rw [e, Option.bind_some]
  have key : ∀ b : Bool, ∃ r : List Int × Int × Bool, spec_l4Bytes.j0 (k + 1) w n b = some r ∧ r.1.length ≤ 3 := by
    intro b
    simp only [spec_l4Bytes.j0]
    by_cases hb : b = true
    · rw [if_pos hb, l1In_eq, Option.bind_some]
      split
      · split
        · exact ⟨_, rfl, by simp⟩
        · exact ⟨_, rfl, by simp⟩
      · exact ⟨_, rfl, by simp⟩
    · obtain ⟨t, e2⟩ := specOpOf_ok w k (by omega)
      rw [if_neg hb, e2, Option.bind_some]
      split
      · exact ⟨_, rfl, by simp⟩
      · rw [specOpLen, Option.bind_some]
        unfold spec_Byte.f
        simp only [l1In_eq, Option.bind_some]
        split
        · exact ⟨_, rfl, by simp⟩
        · split
          · exact ⟨_, rfl, by simp⟩
          · exact ⟨_, rfl, by simp⟩
  split
  · split
    · exact key true
    · exact key _
  · exact ⟨_, rfl, by simp⟩
/-- The loop over an op's bytes comes back to the loop over the text. -/
theorem asm_l1 (s : ByteArray) (x6 x7 x8 : Int) (L : List Int) (hL : L.length ≤ 3) (P : List Int × Int → Prop) (K : Nat) (next : ∀ (m : List Int) (x5 : Int), m.length = 256 → ∀ k, K < k → ∃ r, spec_Assemble.l0 k s m x5 x6 x7 (wrap64 (x8 + 1)) = some r ∧ P r) :
    ∀ (d j : Nat), L.length - j = d → j ≤ L.length → ∀ (m : List Int) (x5 : Int), m.length = 256 → ∀ k, K + d + 1 < k → ∃ r, spec_Assemble.l1 k s m x5 x6 x7 x8 L (j : Int) = some r ∧ P r := by
  intro d
  induction d with
  | zero =>
    intro j hd hj m x5 hm k hk
    obtain ⟨k, rfl⟩ : ∃ q, k = q + 1 := ⟨k - 1, by omega⟩
    simp only [spec_Assemble.l1]
    rw [if_neg (by omega)]
    exact next m x5 hm k (by omega)
  | succ d ih =>
    intro j hd hj m x5 hm k hk
    obtain ⟨k, rfl⟩ : ∃ q, k = q + 1 := ⟨k - 1, by omega⟩
    simp only [spec_Assemble.l1]
    unfold spec_Byte.f
    rw [if_pos (by omega), Option.bind_some, and255, if_pos (by omega), if_pos (by omega), if_pos (by omega), wrap_nat (by omega)]
    exact ih (j + 1) (by omega) (by omega) _ _ (by simpa using hm) k (by omega)
theorem asm_l0 (s : ByteArray) (hs : s.size ≤ 100000) : ∀ (d i : Nat), s.size + 1 - i = d → i ≤ s.size + 1 → ∀ (m : List Int) (x5 x6 x7 : Int), m.length = 256 → 0 ≤ x6 → x6 ≤ (i : Int) → ∀ k, 3000000 + 10 * d < k →
    ∃ r, spec_Assemble.l0 k s m x5 x6 x7 (i : Int) = some r ∧ (r.1.length = 256 ∨ r.1.length = 0) := by
  intro d
  induction d with
  | zero =>
    intro i hd hi m x5 x6 x7 hm h0 h1 k hk
    obtain ⟨k, rfl⟩ : ∃ q, k = q + 1 := ⟨k - 1, by omega⟩
    simp only [spec_Assemble.l0]
    rw [if_neg (by omega)]
    exact ⟨_, rfl, .inl hm⟩
  | succ d ih =>
    intro i hd hi m x5 x6 x7 hm h0 h1 k hk
    obtain ⟨k, rfl⟩ : ∃ q, k = q + 2 := ⟨k - 2, by omega⟩
    have key : ∀ b : Bool, ∃ r, spec_Assemble.j1 (k + 1) s m x5 x6 x7 (i : Int) b = some r ∧ (r.1.length = 256 ∨ r.1.length = 0) := by
      intro b
      simp only [spec_Assemble.j1]
      by_cases hb : b = true
      · rw [if_pos hb, wrap_nat (by omega)]
        exact ih (i + 1) (by omega) (by omega) m x5 x6 x7 hm h0 (by omega) k (by omega)
      · rw [if_neg hb, if_pos h0, if_pos h1, if_pos (by omega)]
        split
        · rw [wrap_nat (by omega)]
          exact ih (i + 1) (by omega) (by omega) m x5 _ _ hm (by omega) (by omega) k (by omega)
        · have hsz : (s.extract (x6 : Int).toNat ((i : Int)).toNat).size ≤ 1000000 := by
            rw [ByteArray.size_extract]
            omega
          obtain ⟨⟨L, tt_, ok⟩, e, hL⟩ := bytes_ok _ hsz k (by omega)
          rw [e, Option.bind_some]
          have next : ∀ (m' : List Int) (y5 : Int), m'.length = 256 → ∀ k, 3000000 + 10 * d < k → ∃ r, spec_Assemble.l0 k s m' y5 (wrap64 ((i : Int) + 1)) (wrap64 (x7 + 1)) (wrap64 ((i : Int) + 1)) = some r ∧ (r.1.length = 256 ∨ r.1.length = 0) := by
            intro m' y5 hm' q hq
            rw [wrap_nat (by omega)]
            exact ih (i + 1) (by omega) (by omega) m' y5 _ _ hm' (by omega) (by omega) q (by omega)
          have j2 : ∀ y5 : Int, ∃ r, spec_Assemble.j2 k s m y5 (wrap64 ((i : Int) + 1)) (wrap64 (x7 + 1)) (i : Int) L = some r ∧ (r.1.length = 256 ∨ r.1.length = 0) := by
            intro y5
            obtain ⟨k, rfl⟩ : ∃ q, k = q + 1 := ⟨k - 1, by omega⟩
            simp only [spec_Assemble.j2]
            have hL' : L.length ≤ 3 := hL
            exact asm_l1 s _ _ _ L hL' _ (3000000 + 10 * d) next L.length 0 (by omega) (by omega) m y5 hm k (by omega)
          split
          · split
            · exact j2 _
            · exact j2 _
          · exact ⟨_, rfl, .inr rfl⟩
    simp only [spec_Assemble.l0]
    rw [if_pos (by omega)]
    repeat' split
    all_goals first | exact key _ | omega
theorem asm_total (s : ByteArray) (k : Nat) (hk : 4100000 < k) : ∃ r, spec_Assemble.f k s = some r ∧ (r.1.length = 256 ∨ r.1.length = 0) := by
  unfold spec_Assemble.f
  by_cases h : (s.size : Int) > 3000
  · rw [if_pos h]
    exact ⟨_, rfl, .inr rfl⟩
  · rw [if_neg h, if_pos (by decide)]
    exact asm_l0 s (by omega) (s.size + 1) 0 (by omega) (by omega) _ 0 0 0 List.length_replicate (by omega) (by omega) k (by omega)

theorem rdL_nat (l : List (List Int)) (i : Nat) (h : i < l.length) : rd_L3 l (i : Int) = l[i] := by
  unfold rd_L3; simp [List.getD, h]
theorem rdL_mem (l : List (List Int)) (i : Nat) (h : i < l.length) : rd_L3 l (i : Int) ∈ l := by
  rw [rdL_nat l i h]; exact List.getElem_mem h

theorem l1Pick_ok (l : List Int) (hl : l.length ≤ 140737488351232) (i h : Int) (h0 : 0 ≤ i) (h1 : i ≤ l.length) (q : List ByteArray) (hq : 0 < q.length) : ∃ (j : Nat) (i' h' : Int), j < q.length ∧ spec_l1Pick.f l i h q = some (rdOf ByteArray.empty q (j : Int), i', h') ∧ 0 ≤ i' ∧ i' ≤ l.length := by
  obtain ⟨r, i', h', e, r0, r1, _, p0, p1⟩ := l1Below_ok l hl i h h0 h1 (q.length : Int)
  unfold spec_l1Pick.f
  rw [e]
  simp only [Option.bind_some]
  have r2 := r1 (by omega)
  rw [if_pos r0, if_pos r2]
  obtain ⟨j, rfl⟩ := Int.eq_ofNat_of_zero_le r0
  exact ⟨j, i', h', by omega, rfl, p0, p1⟩
theorem rdOf_bound {q : List ByteArray} {n : Nat} (hq : ∀ s ∈ q, s.size ≤ n) (j : Nat) (hj : j < q.length) : (rdOf ByteArray.empty q (j : Int)).size ≤ n := by
  have : rdOf ByteArray.empty q (j : Int) = q[j] := by unfold rdOf; simp [hj]
  rw [this]
  exact hq _ (List.getElem_mem hj)
theorem main_ok (l : List Int) (hl : l.length ≤ 140737488351232) (i h : Int) (h0 : 0 ≤ i) (h1 : i ≤ l.length) : ∃ (s : ByteArray) (i' h' : Int), spec_l2Main.f l i h = some (s, i', h') ∧ 0 ≤ i' ∧ i' ≤ l.length := by
  unfold spec_l2Main.f
  generalize hq : ([_, _, _, _, _, _, _] : List ByteArray) = q
  have hlen : q.length = 7 := by rw [← hq]; rfl
  have hb : ∀ s ∈ q, s.size ≤ 1000 := by rw [← hq]; decide
  obtain ⟨j, i', h', hj, e, p0, p1⟩ := l1Pick_ok l hl i h h0 h1 q (by omega)
  have := rdOf_bound hb j hj
  rw [e, Option.bind_some]
  simp only
  rw [if_pos (by omega)]
  exact ⟨_, _, _, rfl, p0, p1⟩
theorem bank_l0 (l : List Int) (hl : l.length ≤ 140737488351232) : ∀ (d j : Nat) (x : List Int) (i h : Int), 256 - j = d → j ≤ 256 → x.length = 256 → 0 ≤ i → i ≤ l.length → ∀ k, d < k → ∃ r i' h', spec_l2DrawBank.l0 k x (j : Int) l i h = some (r, i', h') ∧ r.length = 256 ∧ 0 ≤ i' ∧ i' ≤ l.length := by
  intro d
  induction d with
  | zero =>
    intro j x i h hd hj hx h0 h1 k hk
    obtain ⟨k, rfl⟩ : ∃ q, k = q + 1 := ⟨k - 1, by omega⟩
    simp only [spec_l2DrawBank.l0]
    rw [if_neg (by omega)]
    exact ⟨_, _, _, rfl, hx, h0, h1⟩
  | succ d ih =>
    intro j x i h hd hj hx h0 h1 k hk
    obtain ⟨k, rfl⟩ : ∃ q, k = q + 1 := ⟨k - 1, by omega⟩
    simp only [spec_l2DrawBank.l0]
    rw [if_pos (by omega), wrap_nat (by omega)]
    obtain ⟨t, i1, g1, e1, _, _, _, p0, p1⟩ := l1Below_ok l hl i h h0 h1 4
    rw [e1, Option.bind_some]
    simp only
    split
    · obtain ⟨u, i2, g2, e2, _, _, _, q0, q1⟩ := l1Below_ok l hl i1 g1 p0 p1 30
      rw [e2, Option.bind_some, if_pos (by omega), if_pos (by omega)]
      exact ih (j + 1) _ _ _ (by omega) (by omega) (by simpa using hx) q0 q1 k (by omega)
    · split
      · obtain ⟨u, i2, g2, e2, _, q0, q1⟩ := l1PickInt_ok l hl i1 g1 p0 p1 [32, 64, 0, 1, 22, 192, 128, 2, 4, 5] (by decide)
        rw [e2, Option.bind_some, if_pos (by omega), if_pos (by omega)]
        exact ih (j + 1) _ _ _ (by omega) (by omega) (by simpa using hx) q0 q1 k (by omega)
      · split
        · obtain ⟨u, i2, g2, e2, _, _, _, q0, q1⟩ := l1Below_ok l hl i1 g1 p0 p1 256
          rw [e2, Option.bind_some, if_pos (by omega), if_pos (by omega)]
          exact ih (j + 1) _ _ _ (by omega) (by omega) (by simpa using hx) q0 q1 k (by omega)
        · exact ih (j + 1) _ _ _ (by omega) (by omega) hx p0 p1 k (by omega)
theorem bank_ok (l : List Int) (hl : l.length ≤ 140737488351232) (i h : Int) (h0 : 0 ≤ i) (h1 : i ≤ l.length) (k : Nat) (hk : 1000 < k) : ∃ r i' h', spec_l2DrawBank.f k l i h = some (r, i', h') ∧ r.length = 256 ∧ 0 ≤ i' ∧ i' ≤ l.length := by
  unfold spec_l2DrawBank.f
  rw [if_pos (by decide)]
  exact bank_l0 l hl 256 0 _ i h (by omega) (by omega) List.length_replicate h0 h1 k (by omega)
theorem last6_len (r : List Int) : (last6 r).length = r.length := by unfold last6; simp only [List.length_set]
theorem rdL_at (X : List (List Int)) (h256 : ∀ r ∈ X, r.length = 256) (j : Int) (h0 : 0 ≤ j) (h1 : j < X.length) : (rd_L3 X j).length = 256 := by
  obtain ⟨m, rfl⟩ := Int.eq_ofNat_of_zero_le h0
  exact h256 _ (rdL_mem X m (by omega))
theorem lastSix_rows (X : List (List Int)) (h256 : ∀ r ∈ X, r.length = 256) (j : Int) (h0 : 0 ≤ j) (h1 : j < X.length) : ∀ r ∈ lastSix X j, r.length = 256 := by
  intro r hr
  unfold lastSix at hr
  rcases List.mem_or_eq_of_mem_set hr with hr | rfl
  · exact h256 r hr
  · rw [last6_len, rdL_at X h256 j h0 h1]
theorem right_l0 (l : List Int) (hl : l.length ≤ 140737488351232) (n : Nat) (hn0 : 1 ≤ n) (hn : n ≤ 3) : ∀ (d j : Nat) (X : List (List Int)) (i h : Int), n - j = d → j ≤ n → X.length = j → (∀ r ∈ X, r.length = 256) → 0 ≤ i → i ≤ l.length → ∀ k, 5000000 + d < k →
    ∃ Y i' h', spec_l2DrawRight.l0 k (n : Int) (j : Int) l i h X = some (Y, i', h') ∧ Y.length = n ∧ (∀ r ∈ Y, r.length = 256) ∧ 0 ≤ i' ∧ i' ≤ l.length := by
  intro d
  induction d with
  | zero =>
    intro j X i h hd hj hX h256 h0 h1 k hk
    obtain ⟨k, rfl⟩ : ∃ q, k = q + 1 := ⟨k - 1, by omega⟩
    simp only [spec_l2DrawRight.l0]
    have hw : wrap64 ((n : Int) - 1) = (n : Int) - 1 := wrap_small (by omega) (by omega)
    rw [if_neg (by omega), hw]
    obtain ⟨t, i1, g1, e1, p0, p1⟩ := l1Once_ok l hl i h h0 h1 4
    have hA := rdL_at X h256 ((n : Int) - 1) (by omega) (by omega)
    rw [e1, Option.bind_some]
    simp only
    split
    · repeat rw [if_pos (by omega)]
      exact ⟨_, _, _, rfl, by unfold lastSix; rw [List.length_set]; omega, lastSix_rows X h256 _ (by omega) (by omega), p0, p1⟩
    · obtain ⟨s, i2, g2, e2, q0, q1⟩ := main_ok l hl i1 g1 p0 p1
      obtain ⟨⟨bank, c⟩, e3, hb⟩ := asm_total s k (by omega)
      rw [e2, Option.bind_some]
      simp only
      rw [e3, Option.bind_some]
      simp only
      split
      · have hY : ∀ r ∈ X.set ((n : Int) - 1).toNat bank, r.length = 256 := by
          intro r hr
          rcases List.mem_or_eq_of_mem_set hr with hr | rfl
          · exact h256 r hr
          · omega
        have hl2 : (X.set ((n : Int) - 1).toNat bank).length = X.length := List.length_set
        have hB := rdL_at _ hY ((n : Int) - 1) (by omega) (by omega)
        rw [if_pos (by omega), if_pos (by omega), if_pos hB]
        exact ⟨_, _, _, rfl, by unfold lastSix; rw [List.length_set]; omega, lastSix_rows _ hY _ (by omega) (by omega), q0, q1⟩
      · repeat rw [if_pos (by omega)]
        exact ⟨_, _, _, rfl, by unfold lastSix; rw [List.length_set]; omega, lastSix_rows X h256 _ (by omega) (by omega), q0, q1⟩
  | succ d ih =>
    intro j X i h hd hj hX h256 h0 h1 k hk
    obtain ⟨k, rfl⟩ : ∃ q, k = q + 1 := ⟨k - 1, by omega⟩
    simp only [spec_l2DrawRight.l0]
    obtain ⟨r, i1, g1, e1, hr, p0, p1⟩ := bank_ok l hl i h h0 h1 k (by omega)
    rw [if_pos (by omega), e1, Option.bind_some, wrap_nat (by omega)]
    simp only
    rw [if_pos (by omega)]
    exact ih (j + 1) _ _ _ (by omega) (by omega) (by simp; omega) (by
      intro q hq
      rcases List.mem_append.1 hq with hq | hq
      · exact h256 q hq
      · rw [List.mem_singleton.1 hq]; exact hr) p0 p1 k (by omega)
theorem right_ok (l : List Int) (hl : l.length ≤ 140737488351232) (i h : Int) (h0 : 0 ≤ i) (h1 : i ≤ l.length) (k : Nat) (hk : 6000000 < k) : ∃ X i' h', spec_l2DrawRight.f k l i h = some (X, i', h') ∧ 1 ≤ X.length ∧ X.length ≤ 3 ∧ (∀ r ∈ X, r.length = 256) ∧ 0 ≤ i' ∧ i' ≤ l.length := by
  unfold spec_l2DrawRight.f
  obtain ⟨t, i1, g1, e1, t0, t1, _, p0, p1⟩ := l1Below_ok l hl i h h0 h1 3
  have t2 := t1 (by omega)
  rw [e1, Option.bind_some]
  simp only
  rw [wrap_small (n := 1 + t) (by omega) (by omega)]
  obtain ⟨n, rfl⟩ := Int.eq_ofNat_of_zero_le t0
  obtain ⟨Y, i', h', e, hY, hr, q0, q1⟩ := right_l0 l hl (n + 1) (by omega) (by omega) (n + 1) 0 [] i1 g1 (by omega) (by omega) rfl (by simp) p0 p1 k (by omega)
  refine ⟨Y, i', h', ?_, by omega, by omega, hr, q0, q1⟩
  rw [← e]
  congr 1
  push_cast
  omega

theorem draw2_ok (l : List Int) (hl : l.length ≤ 140737488351232) (i h : Int) (h0 : 0 ≤ i) (h1 : i ≤ l.length) (k : Nat) (hk : 6000000 < k) : ∃ X i' h', spec_l2Draw.f k l i h = some (X, i', h') ∧ X.length ≤ 3 ∧ (∀ r ∈ X, r.length ≤ 256) ∧ 0 ≤ i' ∧ i' ≤ l.length := by
  unfold spec_l2Draw.f
  obtain ⟨X, i1, g1, e1, x0, x1, hr, p0, p1⟩ := right_ok l hl i h h0 h1 k hk
  obtain ⟨t, i2, g2, e2, _, _, _, q0, q1⟩ := l1Below_ok l hl i1 g1 p0 p1 15
  have hA := rdL_at X hr 0 (by omega) (by omega)
  have hle : ∀ r ∈ X, r.length ≤ 256 := fun r h => by rw [hr r h]; omega
  rw [e1, Option.bind_some]
  simp only
  rw [e2, Option.bind_some]
  simp only
  split
  · rw [if_pos ⟨by omega, by omega⟩]
    refine ⟨_, _, _, rfl, by rw [List.length_set]; omega, fun r h => ?_, q0, q1⟩
    rcases List.mem_or_eq_of_mem_set h with h | rfl
    · exact hle r h
    · rw [List.length_drop]; omega
  · split
    · obtain ⟨p, i3, g3, e3, _, s0, s1⟩ := l1PickInt_ok l hl i2 g2 q0 q1 [-1, 256] (by decide)
      rw [if_pos ⟨by omega, by omega⟩, e3, Option.bind_some]
      refine ⟨_, _, _, rfl, by rw [List.length_set]; omega, fun r h => ?_, s0, s1⟩
      rcases List.mem_or_eq_of_mem_set h with h | rfl
      · exact hle r h
      · rw [List.length_set]; omega
    · split
      · exact ⟨_, _, _, rfl, by simp, by simp, q0, q1⟩
      · exact ⟨_, _, _, rfl, x1, hle, q0, q1⟩

def okRow (r : List Int) : Prop := r.length = 256 ∧ ∀ x ∈ r, 0 ≤ x ∧ x ≤ 255
theorem okRow.put {r : List Int} (h : okRow r) {v : Int} (h0 : 0 ≤ v) (h1 : v ≤ 255) (i : Nat) : okRow (r.set i v) := by
  refine ⟨by rw [List.length_set]; exact h.1, fun x hx => ?_⟩
  rcases List.mem_or_eq_of_mem_set hx with hx | rfl
  · exact h.2 x hx
  · exact ⟨h0, h1⟩
theorem okRow_zero : okRow (List.replicate 256 0) := ⟨List.length_replicate, fun x hx => by rw [List.eq_of_mem_replicate hx]; omega⟩
theorem specOpOf_l0B (L : List ByteArray) (s : ByteArray) (hL : L.length ≤ 200) : ∀ (k i : Nat), i ≤ L.length → L.length - i < k → ∃ r : Int, spec_OpOf.l0 k s L (i : Int) = some r ∧ r ≤ 255 := by
  intro k
  induction k with
  | zero => intro i _ h; omega
  | succ k ih =>
    intro i hi h
    simp only [spec_OpOf.l0]
    by_cases hlt : i < L.length
    · rw [if_pos (by omega), if_pos (by omega), wrap_nat (by omega)]
      split
      · exact ⟨_, rfl, by omega⟩
      · exact ih (i + 1) (by omega) (by omega)
    · rw [if_neg (by omega)]
      exact ⟨_, rfl, by omega⟩
theorem specOpOf_okB (s : ByteArray) (k : Nat) (hk : 100 < k) : ∃ r : Int, spec_OpOf.f k s = some r ∧ r ≤ 255 := by
  unfold spec_OpOf.f
  rw [spec_names, Option.bind_some]
  exact specOpOf_l0B names s (by decide) k 0 (by omega) (by have := names_len; omega)
theorem bytes_okB (s : ByteArray) (hs : s.size ≤ 1000000) (k : Nat) (hk : 2100100 < k) : ∃ r : List Int × Int × Bool, spec_l4Bytes.f k s = some r ∧ r.1.length ≤ 3 ∧ ∀ x ∈ r.1, 0 ≤ x ∧ x ≤ 255 := by
  obtain ⟨k, rfl⟩ : ∃ q, k = q + 1 := ⟨k - 1, by omega⟩
  unfold spec_l4Bytes.f
  obtain ⟨⟨w, n, ok⟩, e⟩ := line_ok s hs (k + 1) (by omega)
  rw [e, Option.bind_some]
  have key : ∀ b : Bool, ∃ r : List Int × Int × Bool, spec_l4Bytes.j0 (k + 1) w n b = some r ∧ r.1.length ≤ 3 ∧ ∀ x ∈ r.1, 0 ≤ x ∧ x ≤ 255 := by
    intro b
    simp only [spec_l4Bytes.j0]
    by_cases hb : b = true
    · rw [if_pos hb, l1In_eq, Option.bind_some]
      split
      · rename_i h
        simp only [decide_eq_true_eq] at h
        split
        · exact ⟨_, rfl, by simp, by simp⟩
        · exact ⟨_, rfl, by simp, by simpa using h⟩
      · exact ⟨_, rfl, by simp, by simp⟩
    · obtain ⟨t, e2, ht⟩ := specOpOf_okB w k (by omega)
      rw [if_neg hb, e2, Option.bind_some]
      split
      · exact ⟨_, rfl, by simp, by simp⟩
      · rename_i h0
        rw [specOpLen, Option.bind_some]
        unfold spec_Byte.f
        simp only [l1In_eq, Option.bind_some, and255]
        split
        · exact ⟨_, rfl, by simp, fun x hx => by rw [List.mem_singleton.1 hx]; omega⟩
        · split
          · refine ⟨_, rfl, by simp, fun x hx => ?_⟩
            simp only [List.mem_cons, List.not_mem_nil, or_false] at hx
            omega
          · refine ⟨_, rfl, by simp, fun x hx => ?_⟩
            simp only [List.mem_cons, List.not_mem_nil, or_false] at hx
            omega
  split
  · split
    · exact key true
    · exact key _
  · exact ⟨_, rfl, by simp, by simp⟩
theorem asm_l1B (s : ByteArray) (x6 x7 x8 : Int) (L : List Int) (hL : L.length ≤ 3) (hv : ∀ x ∈ L, 0 ≤ x ∧ x ≤ 255) (P : List Int × Int → Prop) (K : Nat) (next : ∀ (m : List Int) (x5 : Int), okRow m → ∀ k, K < k → ∃ r, spec_Assemble.l0 k s m x5 x6 x7 (wrap64 (x8 + 1)) = some r ∧ P r) :
    ∀ (d j : Nat), L.length - j = d → j ≤ L.length → ∀ (m : List Int) (x5 : Int), okRow m → ∀ k, K + d + 1 < k → ∃ r, spec_Assemble.l1 k s m x5 x6 x7 x8 L (j : Int) = some r ∧ P r := by
  intro d
  induction d with
  | zero =>
    intro j hd hj m x5 hm k hk
    obtain ⟨k, rfl⟩ : ∃ q, k = q + 1 := ⟨k - 1, by omega⟩
    simp only [spec_Assemble.l1]
    rw [if_neg (by omega)]
    exact next m x5 hm k (by omega)
  | succ d ih =>
    intro j hd hj m x5 hm k hk
    obtain ⟨k, rfl⟩ : ∃ q, k = q + 1 := ⟨k - 1, by omega⟩
    have hm1 := hm.1
    have hlt : j < L.length := by omega
    have hx := hv _ (List.getElem_mem hlt)
    simp only [spec_Assemble.l1]
    unfold spec_Byte.f
    rw [if_pos (by omega), Option.bind_some, and255, if_pos (by omega), if_pos (by omega), if_pos (by omega), wrap_nat (by omega), rd_nat L j hlt]
    exact ih (j + 1) (by omega) (by omega) _ _ (hm.put hx.1 hx.2 _) k (by omega)
theorem asm_l0B (s : ByteArray) (hs : s.size ≤ 100000) : ∀ (d i : Nat), s.size + 1 - i = d → i ≤ s.size + 1 → ∀ (m : List Int) (x5 x6 x7 : Int), okRow m → 0 ≤ x6 → x6 ≤ (i : Int) → ∀ k, 3000000 + 10 * d < k →
    ∃ r, spec_Assemble.l0 k s m x5 x6 x7 (i : Int) = some r ∧ (okRow r.1 ∨ r.1.length = 0) := by
  intro d
  induction d with
  | zero =>
    intro i hd hi m x5 x6 x7 hm h0 h1 k hk
    obtain ⟨k, rfl⟩ : ∃ q, k = q + 1 := ⟨k - 1, by omega⟩
    simp only [spec_Assemble.l0]
    rw [if_neg (by omega)]
    exact ⟨_, rfl, .inl hm⟩
  | succ d ih =>
    intro i hd hi m x5 x6 x7 hm h0 h1 k hk
    obtain ⟨k, rfl⟩ : ∃ q, k = q + 2 := ⟨k - 2, by omega⟩
    have key : ∀ b : Bool, ∃ r, spec_Assemble.j1 (k + 1) s m x5 x6 x7 (i : Int) b = some r ∧ (okRow r.1 ∨ r.1.length = 0) := by
      intro b
      simp only [spec_Assemble.j1]
      by_cases hb : b = true
      · rw [if_pos hb, wrap_nat (by omega)]
        exact ih (i + 1) (by omega) (by omega) m x5 x6 x7 hm h0 (by omega) k (by omega)
      · rw [if_neg hb, if_pos h0, if_pos h1, if_pos (by omega)]
        split
        · rw [wrap_nat (by omega)]
          exact ih (i + 1) (by omega) (by omega) m x5 _ _ hm (by omega) (by omega) k (by omega)
        · have hsz : (s.extract (x6 : Int).toNat ((i : Int)).toNat).size ≤ 1000000 := by
            rw [ByteArray.size_extract]
            omega
          obtain ⟨⟨L, tt_, ok⟩, e, hL, hv⟩ := bytes_okB _ hsz k (by omega)
          rw [e, Option.bind_some]
          have next : ∀ (m' : List Int) (y5 : Int), okRow m' → ∀ k, 3000000 + 10 * d < k → ∃ r, spec_Assemble.l0 k s m' y5 (wrap64 ((i : Int) + 1)) (wrap64 (x7 + 1)) (wrap64 ((i : Int) + 1)) = some r ∧ (okRow r.1 ∨ r.1.length = 0) := by
            intro m' y5 hm' q hq
            rw [wrap_nat (by omega)]
            exact ih (i + 1) (by omega) (by omega) m' y5 _ _ hm' (by omega) (by omega) q (by omega)
          have j2 : ∀ y5 : Int, ∃ r, spec_Assemble.j2 k s m y5 (wrap64 ((i : Int) + 1)) (wrap64 (x7 + 1)) (i : Int) L = some r ∧ (okRow r.1 ∨ r.1.length = 0) := by
            intro y5
            obtain ⟨k, rfl⟩ : ∃ q, k = q + 1 := ⟨k - 1, by omega⟩
            simp only [spec_Assemble.j2]
            have hL' : L.length ≤ 3 := hL
            exact asm_l1B s _ _ _ L hL' hv _ (3000000 + 10 * d) next L.length 0 (by omega) (by omega) m y5 hm k (by omega)
          split
          · split
            · exact j2 _
            · exact j2 _
          · exact ⟨_, rfl, .inr rfl⟩
    simp only [spec_Assemble.l0]
    rw [if_pos (by omega)]
    repeat' split
    all_goals first | exact key _ | omega
theorem asm_totalB (s : ByteArray) (k : Nat) (hk : 4100000 < k) : ∃ r, spec_Assemble.f k s = some r ∧ (okRow r.1 ∨ r.1.length = 0) := by
  unfold spec_Assemble.f
  by_cases h : (s.size : Int) > 3000
  · rw [if_pos h]
    exact ⟨_, rfl, .inr rfl⟩
  · rw [if_neg h, if_pos (by decide)]
    exact asm_l0B s (by omega) (s.size + 1) 0 (by omega) (by omega) _ 0 0 0 okRow_zero (by omega) (by omega) k (by omega)
theorem bank_l0B (l : List Int) (hl : l.length ≤ 140737488351232) : ∀ (d j : Nat) (x : List Int) (i h : Int), 256 - j = d → j ≤ 256 → okRow x → 0 ≤ i → i ≤ l.length → ∀ k, d < k → ∃ r i' h', spec_l2DrawBank.l0 k x (j : Int) l i h = some (r, i', h') ∧ okRow r ∧ 0 ≤ i' ∧ i' ≤ l.length := by
  intro d
  induction d with
  | zero =>
    intro j x i h hd hj hx h0 h1 k hk
    obtain ⟨k, rfl⟩ : ∃ q, k = q + 1 := ⟨k - 1, by omega⟩
    simp only [spec_l2DrawBank.l0]
    rw [if_neg (by omega)]
    exact ⟨_, _, _, rfl, hx, h0, h1⟩
  | succ d ih =>
    intro j x i h hd hj hx h0 h1 k hk
    obtain ⟨k, rfl⟩ : ∃ q, k = q + 1 := ⟨k - 1, by omega⟩
    have hx1 := hx.1
    simp only [spec_l2DrawBank.l0]
    rw [if_pos (by omega), wrap_nat (by omega)]
    obtain ⟨t, i1, g1, e1, _, _, _, p0, p1⟩ := l1Below_ok l hl i h h0 h1 4
    rw [e1, Option.bind_some]
    simp only
    split
    · obtain ⟨u, i2, g2, e2, u0, u1, _, q0, q1⟩ := l1Below_ok l hl i1 g1 p0 p1 30
      have u2 := u1 (by omega)
      rw [e2, Option.bind_some, if_pos (by omega), if_pos (by omega)]
      exact ih (j + 1) _ _ _ (by omega) (by omega) (hx.put u0 (by omega) _) q0 q1 k (by omega)
    · split
      · obtain ⟨u, i2, g2, e2, hu, q0, q1⟩ := l1PickInt_ok l hl i1 g1 p0 p1 [32, 64, 0, 1, 22, 192, 128, 2, 4, 5] (by decide)
        have hu2 : 0 ≤ u ∧ u ≤ 255 := (show ∀ u ∈ ([32, 64, 0, 1, 22, 192, 128, 2, 4, 5] : List Int), 0 ≤ u ∧ u ≤ 255 by decide) u hu
        rw [e2, Option.bind_some, if_pos (by omega), if_pos (by omega)]
        exact ih (j + 1) _ _ _ (by omega) (by omega) (hx.put hu2.1 hu2.2 _) q0 q1 k (by omega)
      · split
        · obtain ⟨u, i2, g2, e2, u0, u1, _, q0, q1⟩ := l1Below_ok l hl i1 g1 p0 p1 256
          have u2 := u1 (by omega)
          rw [e2, Option.bind_some, if_pos (by omega), if_pos (by omega)]
          exact ih (j + 1) _ _ _ (by omega) (by omega) (hx.put u0 (by omega) _) q0 q1 k (by omega)
        · exact ih (j + 1) _ _ _ (by omega) (by omega) hx p0 p1 k (by omega)
theorem bank_okB (l : List Int) (hl : l.length ≤ 140737488351232) (i h : Int) (h0 : 0 ≤ i) (h1 : i ≤ l.length) (k : Nat) (hk : 1000 < k) : ∃ r i' h', spec_l2DrawBank.f k l i h = some (r, i', h') ∧ okRow r ∧ 0 ≤ i' ∧ i' ≤ l.length := by
  unfold spec_l2DrawBank.f
  rw [if_pos (by decide)]
  exact bank_l0B l hl 256 0 _ i h (by omega) (by omega) okRow_zero h0 h1 k (by omega)
theorem last6B {r : List Int} (h : okRow r) : okRow (last6 r) := by
  unfold last6
  repeat' refine okRow.put ?_ (by decide) (by decide) _
  exact h
theorem rdL_atB (X : List (List Int)) (hX : ∀ r ∈ X, okRow r) (j : Int) (h0 : 0 ≤ j) (h1 : j < X.length) : okRow (rd_L3 X j) := by
  obtain ⟨m, rfl⟩ := Int.eq_ofNat_of_zero_le h0
  exact hX _ (rdL_mem X m (by omega))
theorem lastSix_rowsB (X : List (List Int)) (hX : ∀ r ∈ X, okRow r) (j : Int) (h0 : 0 ≤ j) (h1 : j < X.length) : ∀ r ∈ lastSix X j, okRow r := by
  intro r hr
  unfold lastSix at hr
  rcases List.mem_or_eq_of_mem_set hr with hr | rfl
  · exact hX r hr
  · exact last6B (rdL_atB X hX j h0 h1)
theorem right_l0B (l : List Int) (hl : l.length ≤ 140737488351232) (n : Nat) (hn0 : 1 ≤ n) (hn : n ≤ 3) : ∀ (d j : Nat) (X : List (List Int)) (i h : Int), n - j = d → j ≤ n → X.length = j → (∀ r ∈ X, okRow r) → 0 ≤ i → i ≤ l.length → ∀ k, 5000000 + d < k →
    ∃ Y i' h', spec_l2DrawRight.l0 k (n : Int) (j : Int) l i h X = some (Y, i', h') ∧ Y.length = n ∧ (∀ r ∈ Y, okRow r) ∧ 0 ≤ i' ∧ i' ≤ l.length := by
  intro d
  induction d with
  | zero =>
    intro j X i h hd hj hX h256 h0 h1 k hk
    obtain ⟨k, rfl⟩ : ∃ q, k = q + 1 := ⟨k - 1, by omega⟩
    simp only [spec_l2DrawRight.l0]
    have hw : wrap64 ((n : Int) - 1) = (n : Int) - 1 := wrap_small (by omega) (by omega)
    rw [if_neg (by omega), hw]
    obtain ⟨t, i1, g1, e1, p0, p1⟩ := l1Once_ok l hl i h h0 h1 4
    have hA := (rdL_atB X h256 ((n : Int) - 1) (by omega) (by omega)).1
    rw [e1, Option.bind_some]
    simp only
    split
    · repeat rw [if_pos (by omega)]
      exact ⟨_, _, _, rfl, by unfold lastSix; rw [List.length_set]; omega, lastSix_rowsB X h256 _ (by omega) (by omega), p0, p1⟩
    · obtain ⟨s, i2, g2, e2, q0, q1⟩ := main_ok l hl i1 g1 p0 p1
      obtain ⟨⟨bank, c⟩, e3, hb⟩ := asm_totalB s k (by omega)
      rw [e2, Option.bind_some]
      simp only
      rw [e3, Option.bind_some]
      simp only
      split
      · rename_i hlen
        have hbk : okRow bank := hb.resolve_right (fun h0 : bank.length = 0 => by omega)
        have hY : ∀ r ∈ X.set ((n : Int) - 1).toNat bank, okRow r := by
          intro r hr
          rcases List.mem_or_eq_of_mem_set hr with hr | rfl
          · exact h256 r hr
          · exact hbk
        have hl2 : (X.set ((n : Int) - 1).toNat bank).length = X.length := List.length_set
        have hB := (rdL_atB _ hY ((n : Int) - 1) (by omega) (by omega)).1
        rw [if_pos (by omega), if_pos (by omega), if_pos hB]
        exact ⟨_, _, _, rfl, by unfold lastSix; rw [List.length_set]; omega, lastSix_rowsB _ hY _ (by omega) (by omega), q0, q1⟩
      · repeat rw [if_pos (by omega)]
        exact ⟨_, _, _, rfl, by unfold lastSix; rw [List.length_set]; omega, lastSix_rowsB X h256 _ (by omega) (by omega), q0, q1⟩
  | succ d ih =>
    intro j X i h hd hj hX h256 h0 h1 k hk
    obtain ⟨k, rfl⟩ : ∃ q, k = q + 1 := ⟨k - 1, by omega⟩
    simp only [spec_l2DrawRight.l0]
    obtain ⟨r, i1, g1, e1, hr, p0, p1⟩ := bank_okB l hl i h h0 h1 k (by omega)
    rw [if_pos (by omega), e1, Option.bind_some, wrap_nat (by omega)]
    simp only
    rw [if_pos (by omega)]
    exact ih (j + 1) _ _ _ (by omega) (by omega) (by simp; omega) (by
      intro q hq
      rcases List.mem_append.1 hq with hq | hq
      · exact h256 q hq
      · rw [List.mem_singleton.1 hq]; exact hr) p0 p1 k (by omega)
theorem right_okB (l : List Int) (hl : l.length ≤ 140737488351232) (i h : Int) (h0 : 0 ≤ i) (h1 : i ≤ l.length) (k : Nat) (hk : 6000000 < k) : ∃ X i' h', spec_l2DrawRight.f k l i h = some (X, i', h') ∧ 1 ≤ X.length ∧ X.length ≤ 3 ∧ (∀ r ∈ X, okRow r) ∧ 0 ≤ i' ∧ i' ≤ l.length := by
  unfold spec_l2DrawRight.f
  obtain ⟨t, i1, g1, e1, t0, t1, _, p0, p1⟩ := l1Below_ok l hl i h h0 h1 3
  have t2 := t1 (by omega)
  rw [e1, Option.bind_some]
  simp only
  rw [wrap_small (n := 1 + t) (by omega) (by omega)]
  obtain ⟨n, rfl⟩ := Int.eq_ofNat_of_zero_le t0
  obtain ⟨Y, i', h', e, hY, hr, q0, q1⟩ := right_l0B l hl (n + 1) (by omega) (by omega) (n + 1) 0 [] i1 g1 (by omega) (by omega) rfl (by simp) p0 p1 k (by omega)
  refine ⟨Y, i', h', ?_, by omega, by omega, hr, q0, q1⟩
  rw [← e]
  congr 1
  push_cast
  omega

def isByteB (x : Int) : Bool := decide (0 ≤ x ∧ x ≤ 255)
def imgOk (m : List (List Int)) : Bool := m.all (fun r => decide (r.length = 256) && r.all isByteB) && decide (1 ≤ (m.length : Int) ∧ (m.length : Int) ≤ 8)
theorem bytesOk_l0 (l : List Int) (hl : l.length ≤ 1048576) : ∀ (k i : Nat), i ≤ l.length → l.length - i < k → impl_bytesOk.l0 k l (l.length : Int) (i : Int) = some ((l.drop i).all isByteB) := by
  intro k
  induction k with
  | zero => intro i _ h; omega
  | succ k ih =>
    intro i hi h
    simp only [impl_bytesOk.l0]
    by_cases hlt : i < l.length
    · have c1 : (i : Int) < (l.length : Int) := by omega
      have c0 : (0 : Int) ≤ (i : Int) := by omega
      simp only [c0, c1, if_true]
      unfold impl_isByte.f
      rw [within_eq, wrap_nat (by omega), rd_nat l i hlt, List.drop_eq_getElem_cons hlt, List.all_cons]
      simp only [Option.bind_some]
      rw [ih (i + 1) (by omega) (by omega)]
      by_cases hb : 0 ≤ l[i] ∧ l[i] ≤ 255
      · simp [isByteB, hb]
      · simp [isByteB, hb]
    · have : i = l.length := by omega
      subst this
      rw [if_neg (by omega)]
      simp
theorem bytesOk_ok (l : List Int) (hl : l.length ≤ 1048576) (k : Nat) (hk : l.length < k) : impl_bytesOk.f k l = some (l.all isByteB) := by
  have h := bytesOk_l0 l hl k 0 (by omega) (by omega)
  simpa [impl_bytesOk.f] using h
theorem implImageOk_l0 (m : List (List Int)) (hl : m.length ≤ 1048576) : ∀ (k i : Nat), i ≤ m.length → m.length - i + 300 < k →
    impl_ImageOk.l0 k m (m.length : Int) (i : Int) m = some ((m.drop i).all (fun r => decide (r.length = 256) && r.all isByteB) && decide (1 ≤ (m.length : Int) ∧ (m.length : Int) ≤ 8)) := by
  intro k
  induction k with
  | zero => intro i _ h; omega
  | succ k ih =>
    intro i hi h
    simp only [impl_ImageOk.l0]
    by_cases hlt : i < m.length
    · have c1 : (i : Int) < (m.length : Int) := by omega
      have c0 : (0 : Int) ≤ (i : Int) := by omega
      simp only [c0, c1, if_true]
      rw [rdL_nat m i hlt, List.drop_eq_getElem_cons hlt, List.all_cons]
      by_cases h256 : m[i].length = 256
      · have e : ((m[i].length : Int) = 256) := by omega
        rw [if_pos e, bytesOk_ok _ (by omega) k (by omega)]
        simp only [Option.bind_some]
        rw [wrap_nat (by omega), ih (i + 1) (by omega) (by omega)]
        cases hb : m[i].all isByteB <;> simp [h256]
      · have e : ¬ ((m[i].length : Int) = 256) := by omega
        rw [if_neg e]
        simp [h256]
    · have : i = m.length := by omega
      subst this
      rw [if_neg (by omega), within_eq]
      simp
theorem implImageOk (m : List (List Int)) (hl : m.length ≤ 1048576) (k : Nat) (hk : 2000000 ≤ k) : impl_ImageOk.f k m = some (imgOk m) := by
  have h := implImageOk_l0 m hl k 0 (by omega) (by omega)
  simpa [impl_ImageOk.f, imgOk] using h
theorem specImageOk_l1 (m : List (List Int)) (i : Nat) (hlt : i < m.length) (h256 : m[i].length = 256) (k0 : Nat) (v : Bool) (hnext : ∀ k, k0 < k → spec_ImageOk.l0 k (wrap64 ((i : Int) + 1)) m = some v) : ∀ (k j : Nat), j ≤ 256 → 256 - j + k0 + 1 < k →
    spec_ImageOk.l1 k (i : Int) (j : Int) m = some ((m[i].drop j).all isByteB && v) := by
  intro k
  induction k with
  | zero => intro j _ h; omega
  | succ k ih =>
    intro j hj h
    simp only [spec_ImageOk.l1]
    by_cases hjl : j < 256
    · have c1 : (i : Int) < (m.length : Int) := by omega
      have c0 : (0 : Int) ≤ (i : Int) := by omega
      have c2 : (0 : Int) ≤ (j : Int) := by omega
      have c3 : (j : Int) < 256 := by omega
      have c4 : (j : Int) < (m[i].length : Int) := by omega
      simp only [c0, c1, c2, c3, if_true]
      rw [rdL_nat m i hlt]
      simp only [c4, if_true]
      rw [l1In_eq, rd_nat _ j (by omega), wrap_nat (by omega), List.drop_eq_getElem_cons (show j < m[i].length by omega), List.all_cons]
      simp only [Option.bind_some]
      rw [ih (j + 1) (by omega) (by omega)]
      by_cases hb : 0 ≤ m[i][j] ∧ m[i][j] ≤ 255
      · simp [isByteB, hb]
      · simp [isByteB, hb]
    · rw [if_neg (by omega), hnext k (by omega), List.drop_eq_nil_of_le (by omega)]
      simp
theorem specImageOk_l0 (m : List (List Int)) (hl : m.length ≤ 1048576) : ∀ (d i : Nat), i ≤ m.length → m.length - i = d → ∀ k, d * 300 + 10 < k →
    spec_ImageOk.l0 k (i : Int) m = some ((m.drop i).all (fun r => decide (r.length = 256) && r.all isByteB) && decide (1 ≤ (m.length : Int) ∧ (m.length : Int) ≤ 8)) := by
  intro d
  induction d with
  | zero =>
    intro i hi hd k hk
    obtain ⟨k, rfl⟩ : ∃ q, k = q + 1 := ⟨k - 1, by omega⟩
    have : i = m.length := by omega
    subst this
    simp only [spec_ImageOk.l0]
    rw [if_neg (by omega), l1In_eq]
    simp
  | succ d ih =>
    intro i hi hd k hk
    obtain ⟨k, rfl⟩ : ∃ q, k = q + 1 := ⟨k - 1, by omega⟩
    have hlt : i < m.length := by omega
    have c1 : (i : Int) < (m.length : Int) := by omega
    have c0 : (0 : Int) ≤ (i : Int) := by omega
    simp only [spec_ImageOk.l0, c0, c1, if_true]
    rw [rdL_nat m i hlt, List.drop_eq_getElem_cons hlt, List.all_cons]
    by_cases h256 : m[i].length = 256
    · have e : ((m[i].length : Int) = 256) := by omega
      rw [if_pos e]
      have hn := ih (i + 1) (by omega) (by omega)
      have h1 := specImageOk_l1 m i hlt h256 (d * 300 + 10) _ (fun k hk => by rw [wrap_nat (by omega)]; exact hn k hk) k 0 (by omega) (by omega)
      rw [show ((0 : Nat) : Int) = 0 from rfl] at h1
      rw [h1]
      simp [h256, Bool.and_assoc]
    · have e : ¬ ((m[i].length : Int) = 256) := by omega
      rw [if_neg e]
      simp [h256]
theorem specImageOk (m : List (List Int)) (hl : m.length ≤ 1048576) (k : Nat) (hk : 400000000 ≤ k) : spec_ImageOk.f k m = some (imgOk m) := by
  have h := specImageOk_l0 m hl m.length 0 (by omega) (by omega) k (by omega)
  simpa [spec_ImageOk.f, imgOk] using h
theorem imgOk_iff (m : List (List Int)) : imgOk m = true ↔ ((∀ r ∈ m, r.length = 256 ∧ ∀ x ∈ r, 0 ≤ x ∧ x ≤ 255) ∧ 1 ≤ m.length ∧ m.length ≤ 8) := by
  unfold imgOk isByteB
  simp only [Bool.and_eq_true, List.all_eq_true, decide_eq_true_eq]
  constructor
  · rintro ⟨h, h1, h2⟩
    exact ⟨fun r hr => h r hr, by omega, by omega⟩
  · rintro ⟨h, h1, h2⟩
    exact ⟨fun r hr => h r hr, by omega, by omega⟩

def sumW (l : List Int) (a : Int) : Int := l.foldl (fun a x => wrap64 (a + x)) a
def lows (l : List Int) : List Int := l.map (· % 256)
theorem lows_append (l m : List Int) : lows (l ++ m) = lows l ++ lows m := by simp [lows]
theorem lows_length (l : List Int) : (lows l).length = l.length := by unfold lows; rw [List.length_map]
theorem lows_cons (a : Int) (l : List Int) : lows (a :: l) = (a % 256) :: lows l := rfl
theorem sumW_cons (a : Int) (l : List Int) (s : Int) : sumW (a :: l) s = sumW l (wrap64 (s + a)) := rfl
theorem sumW_append (l m : List Int) (a : Int) : sumW (l ++ m) a = sumW m (sumW l a) := by simp [sumW]
theorem specIB_l1 (m : List (List Int)) (i : Nat) (hi : i < m.length) (h256 : m[i].length = 256) : ∀ (d j : Nat), 256 - j = d → j ≤ 256 → ∀ (k : Nat) (x : List Int) (s : Int), x.length + d ≤ 1000000 →
    spec_ImageBytes.l1 (k + d + 1) x s (i : Int) (j : Int) m = spec_ImageBytes.l0 k (x ++ lows (m[i].drop j)) (sumW (m[i].drop j) s) (wrap64 ((i : Int) + 1)) m := by
  intro d
  induction d with
  | zero =>
    intro j hd hj k x s hx
    generalize hq : k + 0 = q
    simp only [spec_ImageBytes.l1]
    obtain rfl : k = q := by omega
    rw [if_neg (by omega), List.drop_eq_nil_of_le (by omega)]
    simp [lows, sumW]
  | succ d ih =>
    intro j hd hj k x s hx
    generalize hq : k + (d + 1) = q
    simp only [spec_ImageBytes.l1]
    obtain rfl : q = k + d + 1 := by omega
    rw [if_pos (by omega), if_pos (by omega), if_pos (by omega), if_pos (by omega), rdL_nat m i hi, if_pos (by omega), if_pos (by omega), wrap_nat (by omega), rd_nat _ j (by omega)]
    rw [ih (j + 1) (by omega) (by omega) k _ _ (by simp; omega), List.drop_eq_getElem_cons (show j < m[i].length by omega), lows_cons, sumW_cons, List.append_assoc, List.singleton_append]
theorem specIB_l0 (m : List (List Int)) (h8 : m.length ≤ 8) (h256 : ∀ r ∈ m, r.length = 256) : ∀ (d i : Nat), m.length - i = d → i ≤ m.length → ∀ (k : Nat) (x : List Int) (s : Int), 5 < x.length → x.length + 256 * d ≤ 1000000 → 258 * d < k →
    spec_ImageBytes.l0 k x s (i : Int) m = some ((x ++ lows (m.drop i).flatten).set 5 (sumW (m.drop i).flatten s % 256)) := by
  intro d
  induction d with
  | zero =>
    intro i hd hi k x s h5 hx hk
    obtain ⟨k, rfl⟩ : ∃ q, k = q + 1 := ⟨k - 1, by omega⟩
    simp only [spec_ImageBytes.l0]
    rw [if_neg (by omega), if_pos (by omega), List.drop_eq_nil_of_le (by omega)]
    simp [lows, sumW]
  | succ d ih =>
    intro i hd hi k x s h5 hx hk
    obtain ⟨k, rfl⟩ : ∃ q, k = q + 1 := ⟨k - 1, by omega⟩
    have hlt : i < m.length := by omega
    have hr := h256 _ (List.getElem_mem hlt)
    simp only [spec_ImageBytes.l0]
    obtain ⟨e, he⟩ : ∃ e : Nat, e = 256 := ⟨_, rfl⟩
    obtain ⟨k, rfl⟩ : ∃ q, k = q + e + 1 := ⟨k - (e + 1), by omega⟩
    have h1 := specIB_l1 m i hlt hr e 0 (by omega) (by omega) k x s (by omega)
    rw [show ((0 : Nat) : Int) = 0 from rfl] at h1
    rw [if_pos (by omega), h1, wrap_nat (by omega), List.drop_zero, ih (i + 1) (by omega) (by omega) k _ _ (by simp; omega) (by simp [lows]; omega) (by omega), List.drop_eq_getElem_cons hlt, List.flatten_cons, lows_append, sumW_append, List.append_assoc]
theorem implIB_l1 (m : List (List Int)) (r : List Int) (h256 : r.length = 256) (i : Int) : ∀ (d j : Nat), 256 - j = d → j ≤ 256 → ∀ (k : Nat) (x : List Int) (s : Int), x.length + d ≤ 1000000 →
    impl_ImageBytes.l1 (k + d + 1) x s m (m.length : Int) i r (r.length : Int) (j : Int) m = impl_ImageBytes.l0 k (x ++ lows (r.drop j)) (sumW (r.drop j) s) m (m.length : Int) (wrap64 (i + 1)) m := by
  intro d
  induction d with
  | zero =>
    intro j hd hj k x s hx
    generalize hq : k + 0 = q
    simp only [impl_ImageBytes.l1]
    obtain rfl : k = q := by omega
    rw [if_neg (by omega), List.drop_eq_nil_of_le (by omega)]
    simp [lows, sumW]
  | succ d ih =>
    intro j hd hj k x s hx
    generalize hq : k + (d + 1) = q
    simp only [impl_ImageBytes.l1]
    obtain rfl : q = k + d + 1 := by omega
    rw [if_pos (by omega), if_pos (by omega), if_pos (by omega), if_pos (by omega), wrap_nat (by omega), rd_nat _ j (by omega)]
    rw [ih (j + 1) (by omega) (by omega) k _ _ (by simp; omega), List.drop_eq_getElem_cons (show j < r.length by omega), lows_cons, sumW_cons, List.append_assoc, List.singleton_append]
theorem implIB_l0 (m : List (List Int)) (h8 : m.length ≤ 8) (h256 : ∀ r ∈ m, r.length = 256) : ∀ (d i : Nat), m.length - i = d → i ≤ m.length → ∀ (k : Nat) (x : List Int) (s : Int), x.length + 256 * d ≤ 1000000 → 258 * d < k →
    impl_ImageBytes.l0 k x s m (m.length : Int) (i : Int) m = some ([50, 67, 76, 75, (m.length : Int) % 256, sumW (m.drop i).flatten s % 256] ++ (x ++ lows (m.drop i).flatten)) := by
  intro d
  induction d with
  | zero =>
    intro i hd hi k x s hx hk
    obtain ⟨k, rfl⟩ : ∃ q, k = q + 1 := ⟨k - 1, by omega⟩
    simp only [impl_ImageBytes.l0]
    rw [if_neg (by omega), List.drop_eq_nil_of_le (by omega)]
    unfold impl_Byte.f
    simp only [Option.bind_some, and255]
    rw [if_pos (by simp), if_pos (by simp; omega)]
    simp [lows, sumW]
  | succ d ih =>
    intro i hd hi k x s hx hk
    obtain ⟨k, rfl⟩ : ∃ q, k = q + 1 := ⟨k - 1, by omega⟩
    have hlt : i < m.length := by omega
    have hr := h256 _ (List.getElem_mem hlt)
    simp only [impl_ImageBytes.l0]
    obtain ⟨e, he⟩ : ∃ e : Nat, e = 256 := ⟨_, rfl⟩
    obtain ⟨k, rfl⟩ : ∃ q, k = q + e + 1 := ⟨k - (e + 1), by omega⟩
    have h1 := implIB_l1 m m[i] hr (i : Int) e 0 (by omega) (by omega) k x s (by omega)
    rw [show ((0 : Nat) : Int) = 0 from rfl] at h1
    rw [if_pos (by omega), if_pos (by omega), if_pos (by omega), rdL_nat m i hlt, h1, wrap_nat (by omega), List.drop_zero, ih (i + 1) (by omega) (by omega) k _ _ (by simp [lows]; omega) (by omega), List.drop_eq_getElem_cons hlt, List.flatten_cons, lows_append, sumW_append, List.append_assoc]
theorem imageBytes_both (m : List (List Int)) (hl : m.length ≤ 1048576) (k : Nat) (hk : 400000000 ≤ k) : ∃ r : List Int, spec_ImageBytes.f k m = some r ∧ impl_ImageBytes.f k m = some r ∧ r.length ≤ 1000000 ∧ r = if imgOk m = true then [50, 67, 76, 75, (m.length : Int) % 256, sumW m.flatten 0 % 256] ++ lows m.flatten else [] := by
  unfold spec_ImageBytes.f impl_ImageBytes.f
  rw [specImageOk m hl k hk, implImageOk m hl k (by omega)]
  simp only [Option.bind_some]
  by_cases hi : imgOk m = true
  · rw [if_pos hi, if_pos hi, if_pos hi]
    obtain ⟨hrows, h1, h8⟩ := (imgOk_iff m).1 hi
    have hr : ∀ r ∈ m, r.length = 256 := fun r hr => (hrows r hr).1
    have a := specIB_l0 m h8 hr m.length 0 (by omega) (by omega) k ([50, 67, 76, 75] ++ [(m.length : Int) % 256, 0]) 0 (by simp) (by simp; omega) (by omega)
    have b := implIB_l0 m h8 hr m.length 0 (by omega) (by omega) k [] 0 (by simp; omega) (by omega)
    rw [show ((0 : Nat) : Int) = 0 from rfl, List.drop_zero] at a b
    rw [if_pos (by simp), a, b]
    have hlen : m.flatten.length ≤ 2048 := by
      have : ∀ l : List (List Int), (∀ r ∈ l, r.length = 256) → l.flatten.length = 256 * l.length := by
        intro l
        induction l with
        | nil => intro _; rfl
        | cons p l ih => intro h; rw [List.flatten_cons, List.length_append, ih (fun r hr => h r (by simp [hr])), h p (by simp), List.length_cons]; omega
      rw [this m hr]; omega
    refine ⟨_, rfl, ?_, ?_, ?_⟩
    · simp
    · rw [List.length_set, List.length_append, lows_length]; simp only [List.length_append]; simp only [List.length_cons, List.length_nil]; omega
    · simp
  · rw [if_neg hi, if_neg hi, if_neg hi]
    exact ⟨_, rfl, rfl, by simp, rfl⟩

def sumR (l : List Int) (a : Int) : Int := l.foldl (fun a x => wrap64 (a + x)) a
def difR (l : List Int) (a : Int) : Int := l.foldl (fun a x => wrap64 (a - x)) a
theorem sumR_mod : ∀ (l : List Int) (a : Int), sumR l a % 256 = (a + l.sum) % 256 := by
  intro l
  induction l with
  | nil => intro a; simp [sumR]
  | cons x l ih =>
    intro a
    show sumR l (wrap64 (a + x)) % 256 = _
    rw [ih, List.sum_cons]
    unfold wrap64
    omega
theorem difR_mod : ∀ (l : List Int) (a : Int), difR l a % 256 = (a - l.sum) % 256 := by
  intro l
  induction l with
  | nil => intro a; simp [difR]
  | cons x l ih =>
    intro a
    show difR l (wrap64 (a - x)) % 256 = _
    rw [ih, List.sum_cons]
    unfold wrap64
    omega
theorem sumR_snoc (l : List Int) (x a : Int) : sumR (l ++ [x]) a = wrap64 (sumR l a + x) := by simp [sumR]
theorem difR_snoc (l : List Int) (x a : Int) : difR (l ++ [x]) a = wrap64 (difR l a - x) := by simp [difR]
theorem take_snoc (l : List Int) (t : Nat) (h : t < l.length) : l.take (t + 1) = l.take t ++ [l[t]] := List.take_succ_eq_append_getElem h
/-- The rows of 256. -/
def rowsOf (l : List Int) (c : Nat) : List (List Int) := (List.range c).map fun j => (l.drop (256 * j)).take 256
theorem rowsOf_length (l : List Int) (c : Nat) : (rowsOf l c).length = c := by simp [rowsOf]
theorem rowsOf_rows (l : List Int) (c : Nat) : ∀ r ∈ rowsOf l c, r.length ≤ 1048576 := by
  intro r h
  simp only [rowsOf, List.mem_map] at h
  obtain ⟨j, _, rfl⟩ := h
  rw [List.length_take]
  omega
theorem rowsOf_succ (l : List Int) (c : Nat) : rowsOf l (c + 1) = rowsOf l c ++ [(l.drop (256 * c)).take 256] := by simp [rowsOf, List.range_succ]
theorem rdB (l : List Int) (hb : ∀ x ∈ l, 0 ≤ x ∧ x ≤ 255) (i : Nat) (h : i < l.length) : wrap64 (rd l (i : Int)) = l[i] := by
  have := hb _ (List.getElem_mem h)
  rw [rd_nat l i h, wrap_small (by omega) (by omega)]
theorem drop_at (l : List Int) (t : Nat) (h : 6 + t < l.length) : (l.drop 6)[t]'(by rw [List.length_drop]; omega) = l[6 + t] := by rw [List.getElem_drop]
theorem specIR_l1 (l : List Int) (hb : ∀ x ∈ l, 0 ≤ x ∧ x ≤ 255) (c i : Nat) (hc : c ≤ 8) (hlen : l.length = 6 + 256 * c) (hi : i < c) : ∀ (d j : Nat), 256 - j = d → j ≤ 256 → ∀ (k : Nat),
    spec_ImageRead.l1 (k + d + 1) l (c : Int) (sumR ((l.drop 6).take (256 * i + j)) 0) (i : Int) (((l.drop 6).drop (256 * i)).take j) (j : Int) (rowsOf (l.drop 6) i) = spec_ImageRead.l0 k l (c : Int) (sumR ((l.drop 6).take (256 * (i + 1))) 0) ((i + 1 : Nat) : Int) (rowsOf (l.drop 6) (i + 1)) := by
  intro d
  induction d with
  | zero =>
    intro j hd hj k
    obtain rfl : j = 256 := by omega
    generalize hq : k + 0 = q
    simp only [spec_ImageRead.l1]
    obtain rfl : k = q := by omega
    rw [if_neg (by omega), if_pos (by rw [rowsOf_length]; omega), wrap_nat (by omega), rowsOf_succ, show 256 * (i + 1) = 256 * i + 256 by omega]
  | succ d ih =>
    intro j hd hj k
    generalize hq : k + (d + 1) = q
    simp only [spec_ImageRead.l1]
    obtain rfl : q = k + d + 1 := by omega
    have e1 : wrap64 (wrap64 (6 + wrap64 ((i : Int) * 256)) + (j : Int)) = ((6 + (256 * i + j) : Nat) : Int) := by
      rw [wrap_small (n := (i : Int) * 256) (by omega) (by omega), wrap_small (n := 6 + (i : Int) * 256) (by omega) (by omega), wrap_small (by omega) (by omega)]
      omega
    have ht : 256 * i + j < (l.drop 6).length := by rw [List.length_drop]; omega
    have ht2 : j < ((l.drop 6).drop (256 * i)).length := by rw [List.length_drop, List.length_drop]; omega
    rw [e1, if_pos (by omega), if_pos (by omega), if_pos (by omega), if_pos (by rw [List.length_take]; omega), rdB l hb _ (by omega), wrap_nat (by omega)]
    have e2 : wrap64 (sumR ((l.drop 6).take (256 * i + j)) 0 + l[6 + (256 * i + j)]) = sumR ((l.drop 6).take (256 * i + (j + 1))) 0 := by
      rw [show 256 * i + (j + 1) = (256 * i + j) + 1 by omega, take_snoc _ _ ht, sumR_snoc, drop_at l _ (by omega)]
    have e3 : ((l.drop 6).drop (256 * i)).take j ++ [l[6 + (256 * i + j)]] = ((l.drop 6).drop (256 * i)).take (j + 1) := by
      rw [take_snoc _ _ ht2, List.getElem_drop, drop_at l _ (by omega)]
    rw [e2, e3]
    exact ih (j + 1) (by omega) (by omega) k
theorem specIR_l0 (l : List Int) (hb : ∀ x ∈ l, 0 ≤ x ∧ x ≤ 255) (c : Nat) (hc : c ≤ 8) (hlen : l.length = 6 + 256 * c) : ∀ (d i : Nat), c - i = d → i ≤ c → ∀ (k : Nat), 258 * d < k →
    spec_ImageRead.l0 k l (c : Int) (sumR ((l.drop 6).take (256 * i)) 0) (i : Int) (rowsOf (l.drop 6) i) = if (l.drop 6).sum % 256 = l.getD 5 0 then some (rowsOf (l.drop 6) c, 0) else some ([], 5) := by
  intro d
  induction d with
  | zero =>
    intro i hd hi k hk
    obtain ⟨k, rfl⟩ : ∃ q, k = q + 1 := ⟨k - 1, by omega⟩
    obtain rfl : i = c := by omega
    simp only [spec_ImageRead.l0]
    have e5 : l.getD 5 0 = l[5]'(by omega) := by simp [List.getD_eq_getElem?_getD, show 5 < l.length by omega]
    have e6 : wrap64 (rd l 5) = l[5]'(by omega) := rdB l hb 5 (by omega)
    rw [if_neg (by omega)]
    unfold spec_Byte.f
    simp only [Option.bind_some]
    rw [and255, sumR_mod, List.take_of_length_le (by rw [List.length_drop]; omega), if_pos (by omega), e5, e6, Int.zero_add]
  | succ d ih =>
    intro i hd hi k hk
    obtain ⟨e, he⟩ : ∃ e : Nat, e = 256 := ⟨_, rfl⟩
    obtain ⟨k, rfl⟩ : ∃ q, k = q + e + 1 + 1 := ⟨k - (e + 2), by omega⟩
    simp only [spec_ImageRead.l0]
    rw [if_pos (by omega)]
    have h1 := specIR_l1 l hb c i hc hlen (by omega) e 0 (by omega) (by omega) k
    simp only [Nat.add_zero, List.take_zero] at h1
    rw [show ((0 : Nat) : Int) = 0 from rfl] at h1
    rw [h1]
    exact ih (i + 1) (by omega) (by omega) k (by omega)
/-- The rows as the program holds them when t numbers are in. -/
def rowsAt (l : List Int) (c t : Nat) : List (List Int) := (List.range c).map fun j => (l.drop (256 * j)).take (min 256 (t - 256 * j))
theorem rowsAt_length (l : List Int) (c t : Nat) : (rowsAt l c t).length = c := by simp [rowsAt]
theorem rowsAt_at (l : List Int) (c t j : Nat) (h : j < c) : (rowsAt l c t)[j]'(by rw [rowsAt_length]; exact h) = (l.drop (256 * j)).take (min 256 (t - 256 * j)) := by simp [rowsAt]
theorem rowsAt_set (l : List Int) (c t : Nat) (hlen : l.length = 256 * c) (ht : t < l.length) : (rowsAt l c t).set (t / 256) ((l.drop (256 * (t / 256))).take (min 256 (t - 256 * (t / 256))) ++ [l[t]]) = rowsAt l c (t + 1) := by
  apply List.ext_getElem
  · simp [rowsAt_length]
  · intro j h1 h2
    rw [List.length_set, rowsAt_length] at h1
    rw [List.getElem_set, rowsAt_at _ _ _ _ h1, rowsAt_at _ _ _ _ h1]
    by_cases hj : t / 256 = j
    · rw [if_pos hj]
      subst hj
      have hlt : t - 256 * (t / 256) < (l.drop (256 * (t / 256))).length := by rw [List.length_drop]; omega
      rw [show min 256 (t + 1 - 256 * (t / 256)) = (t - 256 * (t / 256)) + 1 by omega, show min 256 (t - 256 * (t / 256)) = t - 256 * (t / 256) by omega, take_snoc _ _ hlt, List.getElem_drop]
      congr 3
      omega
    · rw [if_neg hj]
      congr 1
      omega
theorem implIR_l0 (r : List Int) (hb : ∀ x ∈ r, 0 ≤ x ∧ x ≤ 255) (c : Nat) (hc : c ≤ 8) (hlen : r.length = 256 * c) (h : Int) : ∀ (d t : Nat), r.length - t = d → t ≤ r.length → ∀ (k : Nat), d < k →
    impl_ImageRead.l0 k (difR (r.take t) h) r (r.length : Int) (t : Int) (rowsAt r c t) = if (h - r.sum) % 256 = 0 then some (rowsOf r c, 0) else some ([], 5) := by
  intro d
  induction d with
  | zero =>
    intro t hd ht k hk
    obtain ⟨k, rfl⟩ : ∃ q, k = q + 1 := ⟨k - 1, by omega⟩
    obtain rfl : t = r.length := by omega
    simp only [impl_ImageRead.l0]
    rw [if_neg (by omega)]
    unfold impl_Byte.f
    simp only [Option.bind_some]
    have e : rowsAt r c r.length = rowsOf r c := by
      unfold rowsAt rowsOf
      apply List.map_congr_left
      intro j hj
      rw [List.mem_range] at hj
      rw [show min 256 (r.length - 256 * j) = 256 by omega]
    rw [and255, List.take_length, difR_mod, e]
  | succ d ih =>
    intro t hd ht k hk
    obtain ⟨k, rfl⟩ : ∃ q, k = q + 1 := ⟨k - 1, by omega⟩
    simp only [impl_ImageRead.l0]
    have e1 : wrap64 (Int.tdiv (t : Int) 256) = ((t / 256 : Nat) : Int) := by
      rw [Int.tdiv_eq_ediv_of_nonneg (by omega), wrap_small (by omega) (by omega)]
      omega
    have hlt : t / 256 < (rowsAt r c t).length := by rw [rowsAt_length]; omega
    rw [e1, if_pos (by omega), if_pos (by omega), if_pos (by omega), if_pos (by omega), if_pos (by omega), rdL_nat _ _ hlt, rowsAt_at _ _ _ _ (by omega), if_pos (by rw [List.length_take]; omega), rdB r hb t (by omega), wrap_nat (by omega)]
    have e2 : wrap64 (difR (r.take t) h - r[t]) = difR (r.take (t + 1)) h := by rw [take_snoc r t (by omega), difR_snoc]
    rw [Int.toNat_natCast, rowsAt_set r c t hlen (by omega), e2]
    exact ih (t + 1) (by omega) (by omega) k (by omega)
theorem imageRead_both (l : List Int) (hl : l.length ≤ 1048576) (hb : ∀ x ∈ l, 0 ≤ x ∧ x ≤ 255) (k : Nat) (hk : 3000000 ≤ k) : ∃ (r : List (List Int)) (n : Int), spec_ImageRead.f k l = some (r, n) ∧ impl_ImageRead.f k l = some (r, n) ∧ r.length ≤ 1048576 ∧ ∀ x ∈ r, x.length ≤ 1048576 := by
  obtain ⟨k, rfl⟩ : ∃ q, k = q + 1 := ⟨k - 1, by omega⟩
  have hnil : (([] : List (List Int)).length ≤ 1048576 ∧ ∀ x ∈ ([] : List (List Int)), x.length ≤ 1048576) := ⟨by simp, by simp⟩
  unfold spec_ImageRead.f impl_ImageRead.f
  by_cases h6 : l.length < 6
  · have c6 : (l.length : Int) < 6 := by omega
    simp only [c6, if_true]
    exact ⟨[], 1, by simp [spec_ImageRead.j0], by simp [impl_ImageRead.j0], hnil⟩
  · have c6 : ¬ (l.length : Int) < 6 := by omega
    have c4 : (4 : Int) ≤ (l.length : Int) := by omega
    simp only [c6, c4, if_true, if_false]
    generalize ((strOfNums (l.take 4)).toList != ([50, 67, 76, 75] : List UInt8)) = b
    simp only [spec_ImageRead.j0, impl_ImageRead.j0]
    cases b with
    | true => exact ⟨[], 1, by simp, by simp, hnil⟩
    | false =>
      have e4 : wrap64 (rd l 4) = l[4]'(by omega) := rdB l hb 4 (by omega)
      have e5 : wrap64 (rd l 5) = l[5]'(by omega) := rdB l hb 5 (by omega)
      have b4 := hb _ (List.getElem_mem (show 4 < l.length by omega))
      have b5 := hb _ (List.getElem_mem (show 5 < l.length by omega))
      have eD : (l.drop 6).length = l.length - 6 := List.length_drop
      rw [e4, e5]
      generalize l[4]'(by omega) = c at b4
      have d4 : (4 : Int) < (l.length : Int) := by omega
      have d5 : (5 : Int) < (l.length : Int) := by omega
      have d6 : (6 : Int) ≤ (l.length : Int) := by omega
      simp only [Bool.false_eq_true, d4, d5, d6, if_true, if_false]
      rw [l1In_eq, within_eq]
      simp only [Option.bind_some, decide_eq_true_eq]
      by_cases hc : 1 ≤ c ∧ c ≤ 8
      · simp only [hc, and_self, if_true]
        rw [wrap_small (n := c * 256) (by omega) (by omega), wrap_small (n := (l.length : Int) - 6) (by omega) (by omega)]
        by_cases h3 : ((l.drop 6).length : Int) < c * 256
        · rw [if_pos (by omega), if_pos h3]
          exact ⟨[], 3, rfl, rfl, hnil⟩
        · rw [if_neg (by omega), if_neg h3]
          by_cases h4 : ((l.drop 6).length : Int) > c * 256
          · rw [if_pos (by omega), if_pos h4]
            exact ⟨[], 4, rfl, rfl, hnil⟩
          · rw [if_neg (by omega), if_neg h4, if_pos (by omega), if_pos (by omega)]
            obtain ⟨n, rfl⟩ : ∃ n : Nat, c = n := ⟨c.toNat, by omega⟩
            have hs := specIR_l0 l hb n (by omega) (by omega) n 0 (by omega) (by omega) k (by omega)
            have hi := implIR_l0 (l.drop 6) (fun x hx => hb x (List.mem_of_mem_drop hx)) n (by omega) (by omega) (l[5]'(by omega)) (l.drop 6).length 0 (by omega) (by omega) k (by omega)
            have ez : rowsAt (l.drop 6) n 0 = List.replicate n [] := by
              unfold rowsAt
              simp [List.map_const']
            have e5' : l.getD 5 0 = l[5]'(by omega) := by simp [List.getD_eq_getElem?_getD, show 5 < l.length by omega]
            simp only [Nat.mul_zero, List.take_zero] at hs hi
            rw [ez] at hi
            have hs' : spec_ImageRead.l0 k l (n : Int) 0 0 [] = _ := hs
            have hi' : impl_ImageRead.l0 k (l[5]'(by omega)) (l.drop 6) ((l.drop 6).length : Int) 0 (List.replicate n []) = _ := hi
            rw [Int.toNat_natCast, hs', hi', e5']
            generalize l[5]'(by omega) = g at b5
            by_cases hg : (l.drop 6).sum % 256 = g
            · rw [if_pos hg, if_pos (by omega)]
              exact ⟨_, _, rfl, rfl, by rw [rowsOf_length]; omega, rowsOf_rows _ _⟩
            · rw [if_neg hg, if_neg (by omega)]
              exact ⟨[], 5, rfl, rfl, hnil⟩
      · simp only [hc, if_false]
        exact ⟨[], 2, rfl, rfl, hnil⟩

def imC (l : List Int) (c : Nat) : Prop := l.length = 6 + 256 * c ∧ 1 ≤ c ∧ c ≤ 8 ∧ (strOfNums (l.take 4)).toList = ([50, 67, 76, 75] : List UInt8) ∧ l.getD 4 0 = (c : Int) ∧ l.getD 5 0 = (l.drop 6).sum % 256
def imQ (l : List Int) (r : List (List Int)) (n : Int) : Prop := (n ≠ 0 ∧ r = [] ∧ ∀ c, ¬ imC l c) ∨ (n = 0 ∧ ∃ c, imC l c ∧ r = rowsOf (l.drop 6) c)
theorem imageRead_is (l : List Int) (hl : l.length ≤ 1048576) (hb : ∀ x ∈ l, 0 ≤ x ∧ x ≤ 255) (k : Nat) (hk : 3000000 ≤ k) : ∃ (r : List (List Int)) (n : Int), spec_ImageRead.f k l = some (r, n) ∧ impl_ImageRead.f k l = some (r, n) ∧ imQ l r n := by
  obtain ⟨k, rfl⟩ : ∃ q, k = q + 1 := ⟨k - 1, by omega⟩
  unfold spec_ImageRead.f impl_ImageRead.f
  by_cases h6 : l.length < 6
  · have c6 : (l.length : Int) < 6 := by omega
    simp only [c6, if_true]
    exact ⟨[], 1, by simp [spec_ImageRead.j0], by simp [impl_ImageRead.j0], .inl ⟨by decide, rfl, fun c h => by have := h.1; omega⟩⟩
  · have c6 : ¬ (l.length : Int) < 6 := by omega
    have c4 : (4 : Int) ≤ (l.length : Int) := by omega
    simp only [c6, c4, if_true, if_false]
    generalize hmg : ((strOfNums (l.take 4)).toList != ([50, 67, 76, 75] : List UInt8)) = b
    simp only [spec_ImageRead.j0, impl_ImageRead.j0]
    cases b with
    | true => exact ⟨[], 1, by simp, by simp, .inl ⟨by decide, rfl, fun c h => bne_iff_ne.1 hmg h.2.2.2.1⟩⟩
    | false =>
      have e4 : wrap64 (rd l 4) = l[4]'(by omega) := rdB l hb 4 (by omega)
      have e5 : wrap64 (rd l 5) = l[5]'(by omega) := rdB l hb 5 (by omega)
      have b4 := hb _ (List.getElem_mem (show 4 < l.length by omega))
      have b5 := hb _ (List.getElem_mem (show 5 < l.length by omega))
      have eD : (l.drop 6).length = l.length - 6 := List.length_drop
      rw [e4, e5]
      have g4 : l.getD 4 0 = l[4]'(by omega) := by simp [List.getD_eq_getElem?_getD, show 4 < l.length by omega]
      have g5 : l.getD 5 0 = l[5]'(by omega) := by simp [List.getD_eq_getElem?_getD, show 5 < l.length by omega]
      generalize hc4 : l[4]'(by omega) = c at b4 g4
      have d4 : (4 : Int) < (l.length : Int) := by omega
      have d5 : (5 : Int) < (l.length : Int) := by omega
      have d6 : (6 : Int) ≤ (l.length : Int) := by omega
      simp only [Bool.false_eq_true, d4, d5, d6, if_true, if_false]
      rw [l1In_eq, within_eq]
      simp only [Option.bind_some, decide_eq_true_eq]
      by_cases hc : 1 ≤ c ∧ c ≤ 8
      · simp only [hc, and_self, if_true]
        rw [wrap_small (n := c * 256) (by omega) (by omega), wrap_small (n := (l.length : Int) - 6) (by omega) (by omega)]
        by_cases h3 : ((l.drop 6).length : Int) < c * 256
        · rw [if_pos (by omega), if_pos h3]
          exact ⟨[], 3, rfl, rfl, .inl ⟨by decide, rfl, fun q h => by obtain ⟨h1, _, _, _, h5, _⟩ := h; omega⟩⟩
        · rw [if_neg (by omega), if_neg h3]
          by_cases h4 : ((l.drop 6).length : Int) > c * 256
          · rw [if_pos (by omega), if_pos h4]
            exact ⟨[], 4, rfl, rfl, .inl ⟨by decide, rfl, fun q h => by obtain ⟨h1, _, _, _, h5, _⟩ := h; omega⟩⟩
          · rw [if_neg (by omega), if_neg h4, if_pos (by omega), if_pos (by omega)]
            obtain ⟨n, rfl⟩ : ∃ n : Nat, c = n := ⟨c.toNat, by omega⟩
            have hs := specIR_l0 l hb n (by omega) (by omega) n 0 (by omega) (by omega) k (by omega)
            have hi := implIR_l0 (l.drop 6) (fun x hx => hb x (List.mem_of_mem_drop hx)) n (by omega) (by omega) (l[5]'(by omega)) (l.drop 6).length 0 (by omega) (by omega) k (by omega)
            have ez : rowsAt (l.drop 6) n 0 = List.replicate n [] := by
              unfold rowsAt
              simp [List.map_const']
            have e5' : l.getD 5 0 = l[5]'(by omega) := by simp [List.getD_eq_getElem?_getD, show 5 < l.length by omega]
            simp only [Nat.mul_zero, List.take_zero] at hs hi
            rw [ez] at hi
            have hs' : spec_ImageRead.l0 k l (n : Int) 0 0 [] = _ := hs
            have hi' : impl_ImageRead.l0 k (l[5]'(by omega)) (l.drop 6) ((l.drop 6).length : Int) 0 (List.replicate n []) = _ := hi
            rw [Int.toNat_natCast, hs', hi', e5']
            generalize hg5 : l[5]'(by omega) = g at b5 g5
            by_cases hg : (l.drop 6).sum % 256 = g
            · rw [if_pos hg, if_pos (by omega)]
              exact ⟨_, _, rfl, rfl, .inr ⟨rfl, n, ⟨by omega, by omega, by omega, by simpa using hmg, g4, by rw [g5, hg]⟩, rfl⟩⟩
            · rw [if_neg hg, if_neg (by omega)]
              exact ⟨[], 5, rfl, rfl, .inl ⟨by decide, rfl, fun q h => hg (h.2.2.2.2.2.symm.trans g5)⟩⟩
      · simp only [hc, if_false]
        exact ⟨[], 2, rfl, rfl, .inl ⟨by decide, rfl, fun q h => hc (by obtain ⟨_, h2, h3, _, h5, _⟩ := h; omega)⟩⟩

theorem tmod_range (n L : Int) (hL : 0 < L) : -L < Int.tmod n L ∧ Int.tmod n L < L := by
  by_cases h : 0 ≤ n
  · rw [Int.tmod_eq_emod_of_nonneg h]
    have := Int.emod_nonneg n (Int.ne_of_gt hL)
    have := Int.emod_lt_of_pos n hL
    omega
  · have e : n = -(-n) := by omega
    rw [e, Int.neg_tmod, Int.tmod_eq_emod_of_nonneg (by omega)]
    have := Int.emod_nonneg (-n) (Int.ne_of_gt hL)
    have := Int.emod_lt_of_pos (-n) hL
    omega
theorem bank_range (n L : Int) (hL : 0 < L) (hL8 : L ≤ 8) : 0 ≤ Int.tmod (wrap64 (Int.tmod n L + L)) L ∧ Int.tmod (wrap64 (Int.tmod n L + L)) L < L := by
  obtain ⟨h1, h2⟩ := tmod_range n L hL
  rw [wrap_small (n := Int.tmod n L + L) (by omega) (by omega), Int.tmod_eq_emod_of_nonneg (by omega)]
  exact ⟨Int.emod_nonneg _ (Int.ne_of_gt hL), Int.emod_lt_of_pos _ hL⟩
theorem bank_both (m : List (List Int)) (n : Int) (hl : m.length ≤ 1048576) (k : Nat) (hk : 400000000 ≤ k) : ∃ r : List Int, spec_BankOf.f k m n = some r ∧ impl_BankOf.f k m n = some r ∧ r.length ≤ 256 := by
  unfold spec_BankOf.f impl_BankOf.f
  rw [specImageOk m hl k hk, implImageOk m hl k (by omega)]
  simp only [Option.bind_some]
  by_cases hi : imgOk m = true
  · rw [if_pos hi, if_pos hi]
    obtain ⟨hrows, h1, h8⟩ := (imgOk_iff m).1 hi
    obtain ⟨t0, t1⟩ := bank_range n (m.length : Int) (by omega) (by omega)
    unfold spec_l2Bank.f impl_modulo.f
    rw [if_neg (by omega)]
    simp only [Option.bind_some]
    rw [if_pos t0, if_pos t1, if_pos t0, if_pos t1]
    generalize Int.tmod (wrap64 (Int.tmod n (m.length : Int) + (m.length : Int))) (m.length : Int) = t at *
    have hm : rd_L3 m t ∈ m := by
      have := rdL_mem m t.toNat (by omega)
      rwa [Int.toNat_of_nonneg t0] at this
    have hlen := (hrows _ hm).1
    unfold impl_copyInts.f
    simp only [Option.bind_some, List.length_nil, List.nil_append]
    rw [if_pos (by omega)]
    exact ⟨_, rfl, rfl, by omega⟩
  · rw [if_neg hi, if_neg hi]
    exact ⟨_, rfl, rfl, by simp⟩

theorem sameInts_l0 (l : List Int) (hl : l.length ≤ 140737488351232) : ∀ (k i : Nat), i ≤ l.length → l.length - i < k → laws_sameInts.l0 k l l (i : Int) = some true := by
  intro k
  induction k with
  | zero => intro i _ h; omega
  | succ k ih =>
    intro i hi h
    simp only [laws_sameInts.l0]
    by_cases hlt : i < l.length
    · have c1 : (i : Int) < (l.length : Int) := by omega
      have c0 : (0 : Int) ≤ (i : Int) := by omega
      simp only [c0, c1, if_true]
      rw [wrap_nat (by omega)]
      exact ih (i + 1) (by omega) (by omega)
    · rw [if_neg (by omega)]
theorem sameInts_self (l : List Int) (hl : l.length ≤ 140737488351232) (k : Nat) (hk : l.length < k) : laws_sameInts.f k l l = some true := by
  unfold laws_sameInts.f
  rw [if_pos rfl]
  exact sameInts_l0 l hl k 0 (by omega) (by omega)
end LFnImage
open LFnImage

theorem flat_len (l : List (List Int)) (h : ∀ r ∈ l, r.length = 256) : l.flatten.length = 256 * l.length := by
  induction l with
  | nil => rfl
  | cons p l ih => rw [List.flatten_cons, List.length_append, ih (fun r hr => h r (by simp [hr])), h p (by simp), List.length_cons]; omega
theorem lows_bytes (l : List Int) : ∀ x ∈ lows l, 0 ≤ x ∧ x ≤ 255 := by
  intro x hx
  unfold lows at hx
  obtain ⟨y, _, rfl⟩ := List.mem_map.1 hx
  omega
theorem lows_id (l : List Int) (h : ∀ x ∈ l, 0 ≤ x ∧ x ≤ 255) : lows l = l := by
  unfold lows
  induction l with
  | nil => rfl
  | cons a l ih =>
    have h0 := h a (by simp)
    rw [List.map_cons, ih (fun x hx => h x (by simp [hx])), Int.emod_eq_of_lt (by omega) (by omega)]
theorem sumW_mod (l : List Int) (a : Int) : sumW l a % 256 = (a + l.sum) % 256 := sumR_mod l a
theorem flat_row (m : List (List Int)) (h : ∀ r ∈ m, r.length = 256) : rowsOf m.flatten m.length = m := by
  induction m with
  | nil => rfl
  | cons a m ih =>
    have ha := h a (by simp)
    have e := ih (fun r hr => h r (by simp [hr]))
    unfold rowsOf at e ⊢
    rw [List.length_cons, List.range_succ_eq_map, List.map_cons, List.map_map]
    congr 1
    · rw [Nat.mul_zero, List.drop_zero, List.flatten_cons, List.take_left' ha]
    · refine Eq.trans ?_ e
      refine List.map_congr_left (fun j _ => ?_)
      show ((a :: m).flatten.drop (256 * (j + 1))).take 256 = _
      rw [List.flatten_cons, show 256 * (j + 1) = 256 + 256 * j by omega, ← List.drop_drop, List.drop_left' ha]
theorem rows_flat (l : List Int) (c : Nat) : (rowsOf l c).flatten = l.take (256 * c) := by
  induction c with
  | zero => simp [rowsOf]
  | succ c ih => rw [rowsOf_succ, List.flatten_append, ih, List.flatten_cons, List.flatten_nil, List.append_nil, show 256 * (c + 1) = 256 * c + 256 by omega, List.take_add]
theorem rows_ok (l : List Int) (c : Nat) (hl : l.length = 256 * c) (hb : ∀ x ∈ l, 0 ≤ x ∧ x ≤ 255) : ∀ r ∈ rowsOf l c, r.length = 256 ∧ ∀ x ∈ r, 0 ≤ x ∧ x ≤ 255 := by
  intro r hr
  unfold rowsOf at hr
  obtain ⟨j, hj, rfl⟩ := List.mem_map.1 hr
  rw [List.mem_range] at hj
  exact ⟨by rw [List.length_take, List.length_drop]; omega, fun x hx => hb x (List.mem_of_mem_drop (List.mem_of_mem_take hx))⟩
theorem same_l0 (m : List (List Int)) (hm : m.length ≤ 1048576) (hr : ∀ r ∈ m, r.length ≤ 1048576) : ∀ (k i : Nat), i ≤ m.length → m.length - i + 1048577 < k → laws_sameBanks.l0 k (i : Int) m m = some true := by
  intro k
  induction k with
  | zero => intro i _ h; omega
  | succ k ih =>
    intro i hi h
    simp only [laws_sameBanks.l0]
    by_cases hlt : i < m.length
    · have hri := hr _ (List.getElem_mem hlt)
      rw [if_pos (by omega), if_pos (by omega), if_pos (by omega), rdL_nat m i hlt, sameInts_self _ (by omega) k (by omega), Option.bind_some, if_pos rfl, wrap_nat (by omega)]
      exact ih (i + 1) (by omega) (by omega)
    · rw [if_neg (by omega)]
theorem same_self (m : List (List Int)) (hm : m.length ≤ 1048576) (hr : ∀ r ∈ m, r.length ≤ 1048576) (k : Nat) (hk : 3000000 ≤ k) : laws_sameBanks.f k m m = some true := by
  unfold laws_sameBanks.f
  rw [if_pos rfl]
  exact same_l0 m hm hr k 0 (by omega) (by omega)
theorem drawIB_ok (l : List Int) (hl : l.length ≤ 140737488351232) (k : Nat) (hk : l.length < k) (hk2 : 6000000 < k) : ∃ X, spec_DrawImageBytes.f k l = some X ∧ X.length ≤ 3 := by
  unfold spec_DrawImageBytes.f
  obtain ⟨h, e⟩ := l1New_ok l hl k hk
  rw [e, Option.bind_some]
  simp only
  obtain ⟨X, i1, g1, e1, hX, _, _, _⟩ := draw2_ok l hl 0 h (by omega) (by omega) k hk2
  rw [e1]
  exact ⟨_, rfl, hX⟩
theorem drawBO_ok (l : List Int) (hl : l.length ≤ 140737488351232) (k : Nat) (hk : l.length < k) (hk2 : 6000000 < k) : ∃ X n, spec_DrawBankOf.f k l = some (X, n) ∧ X.length ≤ 3 := by
  unfold spec_DrawBankOf.f
  obtain ⟨h, e⟩ := l1New_ok l hl k hk
  rw [e, Option.bind_some]
  simp only
  obtain ⟨X, i1, g1, e1, hX, _, p0, p1⟩ := draw2_ok l hl 0 h (by omega) (by omega) k hk2
  rw [e1, Option.bind_some]
  simp only
  obtain ⟨n, i2, g2, e2, _, _, _⟩ := l1PickInt_ok l hl i1 g1 p0 p1 [0, 1, 2, 7, (-1), 255, (-9223372036854775808)] (by decide)
  rw [e2]
  exact ⟨_, _, rfl, hX⟩
theorem ib_bytes (X : List (List Int)) (r : List Int) (h : r = [50, 67, 76, 75, (X.length : Int) % 256, sumW X.flatten 0 % 256] ++ lows X.flatten) : ∀ x ∈ r, 0 ≤ x ∧ x ≤ 255 := by
  intro x hx
  rw [h] at hx
  rcases List.mem_append.1 hx with hx | hx
  · simp only [List.mem_cons, List.not_mem_nil, or_false] at hx
    omega
  · exact lows_bytes _ x hx
theorem drawIR_ok (l : List Int) (hl : l.length ≤ 140737488351232) (k : Nat) (hk : l.length < k) (hk2 : 400000000 ≤ k) : ∃ b : List Int, spec_DrawImageRead.f k l = some b ∧ b.length ≤ 1000001 ∧ ∀ x ∈ b, 0 ≤ x ∧ x ≤ 255 := by
  unfold spec_DrawImageRead.f
  obtain ⟨h, e⟩ := l1New_ok l hl k hk
  rw [e, Option.bind_some]
  simp only
  obtain ⟨X, i1, g1, e1, x0, x1, hr, p0, p1⟩ := right_okB l hl 0 h (by omega) (by omega) k (by omega)
  rw [e1, Option.bind_some]
  simp only
  obtain ⟨r, e2, _, hlen, er⟩ := imageBytes_both X (by omega) k hk2
  rw [if_pos ((imgOk_iff X).2 ⟨hr, by omega, by omega⟩)] at er
  have hrb := ib_bytes X r er
  have h10 : 10 ≤ r.length := by
    rw [er, List.length_append, lows_length, flat_len X (fun r h => (hr r h).1)]
    simp only [List.length_cons, List.length_nil]
    omega
  rw [e2, Option.bind_some]
  obtain ⟨t, i2, g2, e3, t0, _, _, q0, q1⟩ := l1Below_ok l hl i1 g1 p0 p1 8
  rw [e3, Option.bind_some]
  simp only
  split
  · obtain ⟨u, i3, g3, e4, u0, u1, _, s0, s1⟩ := l1Below_ok l hl i2 g2 q0 q1 6
    have u2 := u1 (by omega)
    rw [e4, Option.bind_some]
    simp only
    obtain ⟨v, i4, g4, e5, _, _, _⟩ := l1PickInt_ok l hl i3 g3 s0 s1 [0, 1, 8, 9, 50] (by decide)
    rw [e5, Option.bind_some, if_pos u0, if_pos (by omega)]
    refine ⟨_, rfl, by rw [List.length_set]; omega, fun x hx => ?_⟩
    rcases List.mem_or_eq_of_mem_set hx with hx | rfl
    · exact hrb x hx
    · omega
  · split
    · obtain ⟨u, i3, g3, e4, u0, u1, _, _, _⟩ := l1Below_ok l hl i2 g2 q0 q1 (wrap64 ((r.length : Int) + 1))
      rw [e4, Option.bind_some]
      simp only
      rw [wrap_nat (by omega)] at u1
      have u2 := u1 (by omega)
      rw [if_pos u0, if_pos (by omega)]
      exact ⟨_, rfl, by rw [List.length_take]; omega, fun x hx => hrb x (List.mem_of_mem_take hx)⟩
    · split
      · rw [if_pos (by omega)]
        refine ⟨_, rfl, by rw [List.length_append, List.length_singleton]; omega, fun x hx => ?_⟩
        rcases List.mem_append.1 hx with hx | hx
        · exact hrb x hx
        · rw [List.mem_singleton.1 hx]; omega
      · split
        · rw [if_pos (by omega)]
          refine ⟨_, rfl, by rw [List.length_set]; omega, fun x hx => ?_⟩
          rcases List.mem_or_eq_of_mem_set hx with hx | rfl
          · exact hrb x hx
          · omega
        · exact ⟨_, rfl, by omega, hrb⟩
theorem there (m : List (List Int)) (hi : imgOk m = true) (r : List Int) (er : r = [50, 67, 76, 75, (m.length : Int) % 256, sumW m.flatten 0 % 256] ++ lows m.flatten) : imC r m.length ∧ rowsOf (r.drop 6) m.length = m := by
  obtain ⟨hrows, h1, h8⟩ := (imgOk_iff m).1 hi
  have h256 : ∀ r ∈ m, r.length = 256 := fun r hr => (hrows r hr).1
  have hb : ∀ x ∈ m.flatten, 0 ≤ x ∧ x ≤ 255 := by
    intro x hx
    obtain ⟨q, hq, hx⟩ := List.mem_flatten.1 hx
    exact (hrows q hq).2 x hx
  rw [lows_id _ hb] at er
  have ed : r.drop 6 = m.flatten := by rw [er]; rfl
  refine ⟨⟨?_, h1, h8, ?_, ?_, ?_⟩, ?_⟩
  · rw [er, List.length_append, flat_len m h256]
    simp only [List.length_cons, List.length_nil]
  · rw [er, Go.Lib.strOfNums_toList]
    rfl
  · rw [er]
    show (m.length : Int) % 256 = _
    omega
  · rw [ed, er]
    show sumW m.flatten 0 % 256 = _
    rw [sumW_mod, Int.zero_add]
  · rw [ed, flat_row m h256]
theorem five_at (l : List Int) (h : 6 ≤ l.length) : l = l.take 4 ++ (l.getD 4 0 :: l.getD 5 0 :: l.drop 6) := by
  have g4 : l.getD 4 0 = l[4]'(by omega) := by simp [List.getD_eq_getElem?_getD, show 4 < l.length by omega]
  have g5 : l.getD 5 0 = l[5]'(by omega) := by simp [List.getD_eq_getElem?_getD, show 5 < l.length by omega]
  rw [g4, g5, ← List.drop_eq_getElem_cons (show 5 < l.length by omega), ← List.drop_eq_getElem_cons (show 4 < l.length by omega), List.take_append_drop]
theorem back (b : List Int) (hb : ∀ x ∈ b, 0 ≤ x ∧ x ≤ 255) (c : Nat) (h : imC b c) (r : List Int) (er : r = [50, 67, 76, 75, ((rowsOf (b.drop 6) c).length : Int) % 256, sumW (rowsOf (b.drop 6) c).flatten 0 % 256] ++ lows (rowsOf (b.drop 6) c).flatten) : (strOfNums r).toList = (strOfNums b).toList := by
  obtain ⟨h1, h2, h3, h4, h5, h6⟩ := h
  have ed : (rowsOf (b.drop 6) c).flatten = b.drop 6 := by
    rw [rows_flat, List.take_of_length_le (by rw [List.length_drop]; omega)]
  rw [ed, lows_id _ (fun x hx => hb x (List.mem_of_mem_drop hx)), sumW_mod, Int.zero_add, ← h6, rowsOf_length, show (c : Int) % 256 = b.getD 4 0 by omega] at er
  rw [Go.Lib.strOfNums_toList] at h4 ⊢
  rw [Go.Lib.strOfNums_toList, er]
  have e2 := congrArg Go.Lib.bytesOf (five_at b (by omega))
  rw [e2]
  unfold Go.Lib.bytesOf at h4 ⊢
  rw [List.map_append, List.map_append, h4]
  rfl
theorem FnImage (l0 : List Int) (w0 : l0.length ≤ 9223372036854775807) (z0 : ∀ x ∈ l0, (Lit.int .u8 x).wf = true) : ∃ k, (laws_FnImage.f k l0) = some true := by
  obtain ⟨K, hK⟩ : ∃ K : Nat, 400000000 ≤ K := ⟨_, Nat.le_refl _⟩
  refine ⟨K + 1 + 1, ?_⟩
  unfold laws_FnImage.f laws_big.f
  simp only [Option.bind_some]
  by_cases hb : (l0.length : Int) > 1048576
  · rw [if_pos (by simpa using hb)]
  · rw [if_neg (by simpa using hb)]
    obtain ⟨m, e1, hm⟩ := drawIB_ok l0 (by omega) (K + 1 + 1) (by omega) (by omega)
    obtain ⟨r, e2, e3, hr, er⟩ := imageBytes_both m (by omega) (K + 1 + 1) (by omega)
    rw [e1, Option.bind_some, e3, e2, Option.bind_some, Option.bind_some, if_pos rfl, implImageOk m (by omega) _ (by omega), specImageOk m (by omega) _ (by omega), Option.bind_some, Option.bind_some]
    have key : laws_FnImage.j1 (K + 1) l0 = some true := by
      simp only [laws_FnImage.j1]
      obtain ⟨b, f1, hbl, hbb⟩ := drawIR_ok l0 (by omega) K (by omega) (by omega)
      obtain ⟨q, n, f2, f3, hq⟩ := imageRead_is b (by omega) hbb K (by omega)
      obtain ⟨X, a, f4, hX⟩ := drawBO_ok l0 (by omega) K (by omega) (by omega)
      obtain ⟨s, f5, f6, hs⟩ := bank_both X a (by omega) K (by omega)
      rw [f1, Option.bind_some, f3, Option.bind_some, f2, Option.bind_some]
      simp only [if_true]
      rw [f4, Option.bind_some]
      simp only
      rw [f6, Option.bind_some, f5, Option.bind_some, sameInts_self s (by omega) K (by omega), Option.bind_some, if_pos rfl]
      rcases hq with ⟨hn, rfl, _⟩ | ⟨rfl, c, hc, rfl⟩
      · rw [if_neg hn]
        simp
      · rw [if_pos rfl]
        have hcl := rowsOf_length (b.drop 6) c
        have hc2 := hc
        obtain ⟨h1, h2, h3, _⟩ := hc2
        obtain ⟨t, _, f7, _, et⟩ := imageBytes_both (rowsOf (b.drop 6) c) (by omega) K (by omega)
        rw [if_pos ((imgOk_iff _).2 ⟨rows_ok (b.drop 6) c (by rw [List.length_drop]; omega) (fun x hx => hbb x (List.mem_of_mem_drop hx)), by omega, by omega⟩)] at et
        rw [f7, Option.bind_some, back b hbb c hc t et]
        simp
    simp only [laws_FnImage.j0, bne_self_eq_false, Bool.false_eq_true, if_false]
    rw [specImageOk m (by omega) _ (by omega), Option.bind_some]
    by_cases hi : imgOk m = true
    · rw [if_pos hi] at er ⊢
      obtain ⟨hC, hrow⟩ := there m hi r er
      obtain ⟨q, n, _, f2, hq⟩ := imageRead_is r (by omega) (ib_bytes m r er) (K + 1) (by omega)
      rw [f2, Option.bind_some]
      simp only
      rcases hq with ⟨_, _, hno⟩ | ⟨rfl, c, hc, rfl⟩
      · exact absurd hC (hno _)
      · have hcm : c = m.length := by
          have a1 := hc.1
          have a2 := hC.1
          omega
        subst hcm
        rw [if_pos rfl, hrow, same_self m (by omega) (fun q hq => by have := (((imgOk_iff m).1 hi).1 q hq).1; omega) _ (by omega), Option.bind_some, if_pos rfl]
        exact key
    · rw [if_neg hi]
      exact key

end Go.Proofs.Ytmkccgbfgebfbaa.Pure
