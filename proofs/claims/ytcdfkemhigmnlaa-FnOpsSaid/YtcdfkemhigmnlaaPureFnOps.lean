/- Each op's name has its number, and what it takes of bytes and cycles is little, whatever the draw. No condition. -/
import Derived.Test.YtcdfkemhigmnlaaMFnOpsx0
import Derived.Test.YtcdfkemhigmnlaaMFnOpsx1
import Derived.Test.YtcdfkemhigmnlaaMFnOpsx2
import Derived.Laws.Bits128
namespace Go.Proofs.Ytcdfkemhigmnlaa.Pure
open Go.RowKit Go.Proofs.Ytcdfkemhigmnlaa.MFnOps Go.Proofs.YtcdfkemhigmnlaaW.PrintWords Go.Proofs.YtcdfkemhigmnlaaW.PrintLast Go.Proofs.YtcdfkemhigmnlaaW.PrintMore
set_option linter.unusedVariables false
set_option linter.unusedSimpArgs false
namespace LFnOps
theorem and_low (n : Int) (j : Nat) (m : Int) (hj : j < 64) (hm : (BitVec.ofInt 64 m).toNat = 2 ^ j - 1) : Go.bits .and .i64 n m = n % (2 ^ j : Nat) := by
  have key : (BitVec.ofInt 64 n &&& BitVec.ofInt 64 m).toNat = (n % ((2 ^ 64 : Nat) : Int)).toNat % 2 ^ j := by
    rw [BitVec.toNat_and, BitVec.toNat_ofInt, hm, Nat.and_two_pow_sub_one_eq_mod]
  show IntKind.i64.wrap ((BitVec.ofInt 64 n &&& BitVec.ofInt 64 m).toNat : Nat) = n % (2 ^ j : Nat)
  have hd : ((2 ^ j : Nat) : Int) ∣ ((2 ^ 64 : Nat) : Int) := by
    exact_mod_cast Nat.pow_dvd_pow 2 (Nat.le_of_lt hj)
  have hp : (0 : Int) < ((2 ^ j : Nat) : Int) := by exact_mod_cast Nat.two_pow_pos j
  have hle : ((2 ^ j : Nat) : Int) ≤ ((2 ^ 63 : Nat) : Int) := by
    exact_mod_cast Nat.pow_le_pow_right (by decide) (by omega)
  have e : (((n % ((2 ^ 64 : Nat) : Int)).toNat % 2 ^ j : Nat) : Int) = n % ((2 ^ j : Nat) : Int) := by
    rw [Int.natCast_emod, Int.toNat_of_nonneg (Int.emod_nonneg _ (by decide)), Int.emod_emod_of_dvd _ hd]
  rw [key, e, IntKind.wrap_i64]
  have h0 := Int.emod_nonneg n (Int.ne_of_gt hp)
  have h1 := Int.emod_lt_of_pos n hp
  generalize n % ((2 ^ j : Nat) : Int) = x at *
  generalize ((2 ^ j : Nat) : Int) = y at *
  have : ((2 ^ 63 : Nat) : Int) = 9223372036854775808 := by decide
  omega
theorem and255 (n : Int) : Go.bits .and .i64 n 255 = n % 256 := and_low n 8 255 (by decide) (by decide)
theorem and65535 (n : Int) : Go.bits .and .i64 n 65535 = n % 65536 := and_low n 16 65535 (by decide) (by decide)
theorem wrap_small {n : Int} (h0 : -9223372036854775808 ≤ n) (h1 : n ≤ 9223372036854775807) : wrap64 n = n := by
  unfold wrap64; omega
theorem wrap_nat {i : Nat} (h : i ≤ 4611686018427387904) : wrap64 ((i : Int) + 1) = ((i + 1 : Nat) : Int) := by
  unfold wrap64; omega
theorem rd_nat (l : List Int) (i : Nat) (h : i < l.length) : rd l (i : Int) = l[i] := by
  unfold rd; simp [List.getD, h]

theorem opOf_l0 (L : List ByteArray) (s : ByteArray) (hL : L.length ≤ 1000) : ∀ (k i : Nat), i ≤ L.length → L.length - i < k →
    ∃ r : Int, spec_OpOf.l0 k s L (i : Int) = some r ∧ slices_Index_string_string.l0 k L s (L.length : Int) (i : Int) = some r ∧
      ((r = -1 ∧ ∀ j : Nat, i ≤ j → j < L.length → (rdOf ByteArray.empty L (j : Int)).toList ≠ s.toList) ∨
        ∃ j : Nat, r = (j : Int) ∧ i ≤ j ∧ j < L.length ∧ (rdOf ByteArray.empty L (j : Int)).toList = s.toList ∧ ∀ m : Nat, i ≤ m → m < j → (rdOf ByteArray.empty L (m : Int)).toList ≠ s.toList) := by
  intro k
  induction k with
  | zero => intro i _ h; omega
  | succ k ih =>
    intro i hi h
    simp only [spec_OpOf.l0, slices_Index_string_string.l0]
    by_cases hlt : i < L.length
    · have c1 : (i : Int) < (L.length : Int) := by omega
      have c0 : (0 : Int) ≤ (i : Int) := by omega
      simp only [c0, c1, if_true]
      by_cases he : (rdOf ByteArray.empty L (i : Int)).toList = s.toList
      · rw [if_pos he, if_pos he.symm]
        exact ⟨i, rfl, rfl, .inr ⟨i, rfl, Nat.le_refl _, hlt, he, fun m h1 h2 => by omega⟩⟩
      · rw [if_neg he, if_neg (fun e => he e.symm), wrap_nat (by omega)]
        obtain ⟨r, h1, h2, h3⟩ := ih (i + 1) (by omega) (by omega)
        refine ⟨r, h1, h2, ?_⟩
        rcases h3 with ⟨hr, h3⟩ | ⟨j, hr, hj, hjl, h3, h4⟩
        · refine .inl ⟨hr, fun j hj hjl => ?_⟩
          rcases Nat.lt_or_ge i j with hij | hij
          · exact h3 j hij hjl
          · have : j = i := by omega
            subst this
            exact he
        · refine .inr ⟨j, hr, by omega, hjl, h3, fun m hm hmj => ?_⟩
          rcases Nat.lt_or_ge i m with him | him
          · exact h4 m him hmj
          · have : m = i := by omega
            subst this
            exact he
    · rw [if_neg (by omega), if_neg (by omega)]
      exact ⟨-1, rfl, rfl, .inl ⟨rfl, fun j h1 h2 => by omega⟩⟩
def names : List ByteArray := (impl_opNames.f).getD []
theorem names_len : names.length = 30 := rfl
theorem impl_names : impl_opNames.f = some names := rfl
theorem spec_names : spec_l3Names.f = some names := rfl
theorem opOf_ok (s : ByteArray) (k : Nat) (hk : 30 < k) : ∃ r : Int, spec_OpOf.f k s = some r ∧ impl_OpOf.f k s = some r ∧
    ((r = -1 ∧ ∀ j : Nat, j < 30 → (rdOf ByteArray.empty names (j : Int)).toList ≠ s.toList) ∨
      ∃ j : Nat, r = (j : Int) ∧ j < 30 ∧ (rdOf ByteArray.empty names (j : Int)).toList = s.toList ∧ ∀ m : Nat, m < j → (rdOf ByteArray.empty names (m : Int)).toList ≠ s.toList) := by
  have hl := names_len
  obtain ⟨r, h1, h2, h3⟩ := opOf_l0 names s (by omega) k 0 (by omega) (by omega)
  refine ⟨r, ?_, ?_, ?_⟩
  · unfold spec_OpOf.f
    rw [spec_names, Option.bind_some]
    exact h1
  · unfold impl_OpOf.f slices_Index_string_string.f
    rw [impl_names, Option.bind_some, show ((0 : Int)) = ((0 : Nat) : Int) from rfl, h2, Option.bind_some]
  · rw [hl] at h3
    rcases h3 with ⟨hr, h3⟩ | ⟨j, hr, _, hj, h4, h5⟩
    · exact .inl ⟨hr, fun j hj => h3 j (Nat.zero_le _) hj⟩
    · exact .inr ⟨j, hr, hj, h4, fun m hm => h5 m (Nat.zero_le _) hm⟩

theorem and_range (n : Int) : 0 ≤ Go.bits .and .i64 n 255 ∧ Go.bits .and .i64 n 255 ≤ 255 := by
  rw [and255]; omega
theorem l1New_l0 (l : List Int) (hl : l.length ≤ 140737488351232) : ∀ (k : Nat) (h : Int) (i : Nat), i ≤ l.length → l.length - i < k → ∃ h', spec_l1New.l0 k l h (i : Int) = some (l, 0, h') := by
  intro k
  induction k with
  | zero => intro h i _ hk; omega
  | succ k ih =>
    intro h i hi hk
    simp only [spec_l1New.l0]
    by_cases hlt : i < l.length
    · rw [if_pos (by omega)]
      by_cases h4 : (i : Int) < 4000
      · rw [if_pos h4, if_pos (by omega), wrap_nat (by omega)]
        exact ih _ (i + 1) (by omega) (by omega)
      · rw [if_neg h4]; exact ⟨_, rfl⟩
    · rw [if_neg (by omega)]; exact ⟨_, rfl⟩
theorem l1New_ok (l : List Int) (hl : l.length ≤ 140737488351232) (k : Nat) (hk : l.length < k) : ∃ h', spec_l1New.f k l = some (l, 0, h') := by
  unfold spec_l1New.f
  have := l1New_l0 l hl k (wrap64 (18554 + (l.length : Int))) 0 (by omega) (by omega)
  rwa [show ((0 : Nat) : Int) = 0 from rfl] at this
theorem l1Byte_ok (l : List Int) (hl : l.length ≤ 140737488351232) (i h : Int) (h0 : 0 ≤ i) (h1 : i ≤ l.length) : ∃ r i' h' : Int, spec_l1Byte.f l i h = some (r, i', h') ∧ 0 ≤ r ∧ r ≤ 255 ∧ 0 ≤ i' ∧ i' ≤ l.length := by
  unfold spec_l1Byte.f
  by_cases hlt : i < (l.length : Int)
  · rw [if_pos hlt, if_pos h0]
    refine ⟨_, _, _, rfl, (and_range _).1, (and_range _).2, ?_, ?_⟩ <;> rw [wrap_small (by omega) (by omega)] <;> omega
  · rw [if_neg hlt]
    exact ⟨_, _, _, rfl, (and_range _).1, (and_range _).2, h0, h1⟩
theorem l1Below_ok (l : List Int) (hl : l.length ≤ 140737488351232) (i h : Int) (h0 : 0 ≤ i) (h1 : i ≤ l.length) (n : Int) : ∃ r i' h' : Int, spec_l1Below.f l i h n = some (r, i', h') ∧ 0 ≤ r ∧ (0 < n → r < n) ∧ (n ≤ 0 → r = 0) ∧ 0 ≤ i' ∧ i' ≤ l.length := by
  unfold spec_l1Below.f
  by_cases hn : n ≤ 0
  · rw [if_pos hn]; exact ⟨0, i, h, rfl, by omega, by omega, fun _ => rfl, h0, h1⟩
  · rw [if_neg hn]
    obtain ⟨x, i1, g1, e1, x0, x1, p0, p1⟩ := l1Byte_ok l hl i h h0 h1
    rw [e1]
    simp only [Option.bind_some]
    by_cases hs : n ≤ 256
    · rw [if_pos hs, if_neg (by omega), Int.tmod_eq_emod_of_nonneg x0]
      exact ⟨_, _, _, rfl, Int.emod_nonneg _ (by omega), fun h => Int.emod_lt_of_pos _ h, by omega, p0, p1⟩
    · rw [if_neg hs]
      obtain ⟨y, i2, g2, e2, y0, y1, q0, q1⟩ := l1Byte_ok l hl i1 g1 p0 p1
      rw [e2]
      simp only [Option.bind_some]
      obtain ⟨z, i3, g3, e3, z0, z1, s0, s1⟩ := l1Byte_ok l hl i2 g2 q0 q1
      rw [e3]
      simp only [Option.bind_some]
      obtain ⟨u, i4, g4, e4, u0, u1, t0, t1⟩ := l1Byte_ok l hl i3 g3 s0 s1
      rw [e4]
      simp only [Option.bind_some]
      have e : wrap64 (wrap64 (wrap64 (wrap64 (x * 16777216) + wrap64 (y * 65536)) + wrap64 (z * 256)) + u) = x * 16777216 + y * 65536 + z * 256 + u := by
        rw [wrap_small (n := x * 16777216) (by omega) (by omega), wrap_small (n := y * 65536) (by omega) (by omega), wrap_small (n := z * 256) (by omega) (by omega), wrap_small (n := x * 16777216 + y * 65536) (by omega) (by omega), wrap_small (n := x * 16777216 + y * 65536 + z * 256) (by omega) (by omega), wrap_small (by omega) (by omega)]
      rw [e, if_neg (by omega), Int.tmod_eq_emod_of_nonneg (by omega)]
      exact ⟨_, _, _, rfl, Int.emod_nonneg _ (by omega), fun h => Int.emod_lt_of_pos _ h, by omega, t0, t1⟩
theorem l1Once_ok (l : List Int) (hl : l.length ≤ 140737488351232) (i h : Int) (h0 : 0 ≤ i) (h1 : i ≤ l.length) (n : Int) : ∃ (r : Bool) (i' h' : Int), spec_l1Once.f l i h n = some (r, i', h') ∧ 0 ≤ i' ∧ i' ≤ l.length := by
  obtain ⟨r, i', h', e, _, _, _, p0, p1⟩ := l1Below_ok l hl i h h0 h1 n
  unfold spec_l1Once.f
  rw [e]
  exact ⟨_, _, _, rfl, p0, p1⟩
theorem l1PickInt_ok (l : List Int) (hl : l.length ≤ 140737488351232) (i h : Int) (h0 : 0 ≤ i) (h1 : i ≤ l.length) (q : List Int) (hq : 0 < q.length) : ∃ (r i' h' : Int), spec_l1PickInt.f l i h q = some (r, i', h') ∧ r ∈ q ∧ 0 ≤ i' ∧ i' ≤ l.length := by
  obtain ⟨r, i', h', e, r0, r1, _, p0, p1⟩ := l1Below_ok l hl i h h0 h1 (q.length : Int)
  unfold spec_l1PickInt.f
  rw [e]
  simp only [Option.bind_some]
  have r2 := r1 (by omega)
  rw [if_pos r0, if_pos r2]
  obtain ⟨j, rfl⟩ := Int.eq_ofNat_of_zero_le r0
  exact ⟨_, _, _, rfl, by rw [rd_nat q j (by omega)]; exact List.getElem_mem _, p0, p1⟩

theorem drawOp_ok (l : List Int) (hl : l.length ≤ 140737488351232) (k : Nat) (hk : l.length < k) : ∃ a : Int, spec_DrawOpName.f k l = some a := by
  unfold spec_DrawOpName.f spec_l3DrawOp.f
  obtain ⟨h, e⟩ := l1New_ok l hl k hk
  rw [e]; simp only [Option.bind_some]
  obtain ⟨b, i1, g1, e1, p0, p1⟩ := l1Once_ok l hl 0 h (by omega) (by omega) 9
  rw [e1]; simp only [Option.bind_some]
  by_cases hb : b = true
  · rw [if_pos hb]
    obtain ⟨r, i2, g2, e2, _, q0, q1⟩ := l1PickInt_ok l hl i1 g1 p0 p1 [(-1), 30, 255, 256] (by decide)
    rw [e2]; exact ⟨_, rfl⟩
  · rw [if_neg hb]
    obtain ⟨r, i2, g2, e2, _, _, _, q0, q1⟩ := l1Below_ok l hl i1 g1 p0 p1 30
    rw [e2]; exact ⟨_, rfl⟩
theorem l1Pick_ok (l : List Int) (hl : l.length ≤ 140737488351232) (i h : Int) (h0 : 0 ≤ i) (h1 : i ≤ l.length) (q : List ByteArray) (hq : 0 < q.length) : ∃ (r : ByteArray) (i' h' : Int), spec_l1Pick.f l i h q = some (r, i', h') ∧ 0 ≤ i' ∧ i' ≤ l.length := by
  obtain ⟨r, i', h', e, r0, r1, _, p0, p1⟩ := l1Below_ok l hl i h h0 h1 (q.length : Int)
  unfold spec_l1Pick.f
  rw [e]
  simp only [Option.bind_some]
  have r2 := r1 (by omega)
  rw [if_pos r0, if_pos r2]
  exact ⟨_, _, _, rfl, p0, p1⟩
theorem drawOpOf_ok (l : List Int) (hl : l.length ≤ 140737488351232) (k : Nat) (hk : l.length < k) : ∃ s : ByteArray, spec_DrawOpOf.f k l = some s := by
  unfold spec_DrawOpOf.f
  obtain ⟨h, e⟩ := l1New_ok l hl k hk
  rw [e]; simp only [Option.bind_some]
  obtain ⟨b, i1, g1, e1, p0, p1⟩ := l1Once_ok l hl 0 h (by omega) (by omega) 5
  rw [e1]; simp only [Option.bind_some]
  by_cases hb : b = true
  · rw [if_pos hb]
    obtain ⟨r, i2, g2, e2, q0, q1⟩ := l1Pick_ok l hl i1 g1 p0 p1 [(⟨#[]⟩ : ByteArray), (⟨#[76, 68, 65]⟩ : ByteArray), (⟨#[108, 100]⟩ : ByteArray), (⟨#[98, 121, 116, 101]⟩ : ByteArray)] (by decide)
    rw [e2]; exact ⟨_, rfl⟩
  · rw [if_neg hb, spec_names]; simp only [Option.bind_some]
    obtain ⟨r, i2, g2, e2, r0, r1, _, q0, q1⟩ := l1Below_ok l hl i1 g1 p0 p1 30
    rw [e2]; simp only [Option.bind_some]
    have r2 := r1 (by decide)
    have hn := names_len
    rw [if_pos r0, if_pos (by omega)]
    exact ⟨_, rfl⟩

theorem within_eq (x lo hi : Int) : impl_within.f x lo hi = some (decide (lo ≤ x ∧ x ≤ hi)) := by
  unfold impl_within.f
  split <;> simp <;> omega
theorem l1In_eq (x lo hi : Int) : spec_l1In.f x lo hi = some (decide (lo ≤ x ∧ x ≤ hi)) := by
  unfold spec_l1In.f
  split <;> simp <;> omega

def opLenV (a : Int) : Int := if a = 1 ∨ (4 ≤ a ∧ a ≤ 9) then 2 else if a = 2 ∨ a = 3 ∨ (14 ≤ a ∧ a ≤ 20) ∨ a = 29 then 3 else 1
theorem implOpLen (a : Int) (k : Nat) (hk : 1 ≤ k) : impl_OpLen.f k a = some (opLenV a) := by
  obtain ⟨k, rfl⟩ : ∃ q, k = q + 1 := ⟨k - 1, by omega⟩
  unfold impl_OpLen.f opLenV
  by_cases h1 : a = 1
  · subst h1; simp [impl_OpLen.j0]
  · rw [if_neg h1, within_eq, Option.bind_some]
    simp only [impl_OpLen.j0]
    by_cases h2 : 4 ≤ a ∧ a ≤ 9
    · simp [h2]
    · have e : decide (4 ≤ a ∧ a ≤ 9) = false := decide_eq_false h2
      rw [e]
      simp only [Bool.false_eq_true, if_false, within_eq, Option.bind_some, h1, h2, or_self]
      by_cases h3 : a = 2
      · subst h3; simp
      · by_cases h4 : a = 3
        · subst h4; simp
        · by_cases h5 : 14 ≤ a ∧ a ≤ 20
          · simp [h3, h4, h5]
          · by_cases h6 : a = 29
            · subst h6; simp
            · have e5 : decide (14 ≤ a ∧ a ≤ 20) = false := decide_eq_false h5
              simp [h3, h4, h5, h6, e5]
theorem specOpLen (a : Int) : spec_OpLen.f a = some (opLenV a) := by
  by_cases h : 0 ≤ a ∧ a ≤ 29
  · have hc : ∀ n : Fin 30, spec_OpLen.f (n.val : Int) = some (opLenV (n.val : Int)) := by decide
    have := hc ⟨a.toNat, by omega⟩
    rw [show ((a.toNat : Nat) : Int) = a by omega] at this
    exact this
  · unfold spec_OpLen.f opLenV
    have e : decide (0 ≤ a ∧ a ≤ 29) = false := decide_eq_false h
    rw [l1In_eq, Option.bind_some, e, if_neg (by decide), if_neg (by omega), if_neg (by omega)]
theorem opLenV_three (a : Int) : opLenV a = 1 ∨ opLenV a = 2 ∨ opLenV a = 3 := by
  unfold opLenV; repeat' split
  all_goals omega

def opCycV (a : Int) : Int := (spec_OpCycles.f a).getD 0
theorem specOpCycles (a : Int) : spec_OpCycles.f a = some (opCycV a) ∧ 2 ≤ opCycV a ∧ opCycV a ≤ 6 := by
  unfold opCycV
  by_cases h : 0 ≤ a ∧ a ≤ 29
  · have hc : ∀ n : Fin 30, spec_OpCycles.f (n.val : Int) = some ((spec_OpCycles.f (n.val : Int)).getD 0) ∧ 2 ≤ (spec_OpCycles.f (n.val : Int)).getD 0 ∧ (spec_OpCycles.f (n.val : Int)).getD 0 ≤ 6 := by decide
    have := hc ⟨a.toNat, by omega⟩
    rw [show ((a.toNat : Nat) : Int) = a by omega] at this
    exact this
  · have e : decide (0 ≤ a ∧ a ≤ 29) = false := decide_eq_false h
    unfold spec_OpCycles.f
    rw [l1In_eq, Option.bind_some, e]
    simp
theorem implOpCycles (a : Int) (k : Nat) (hk : 2 ≤ k) : impl_OpCycles.f k a = some (opCycV a) := by
  obtain ⟨k, rfl⟩ : ∃ q, k = q + 2 := ⟨k - 2, by omega⟩
  have key : impl_OpCycles.f 2 a = some (opCycV a) := by
    rw [← (specOpCycles a).1]
    by_cases h : 0 ≤ a ∧ a ≤ 29
    · have hc : ∀ n : Fin 30, impl_OpCycles.f 2 (n.val : Int) = spec_OpCycles.f (n.val : Int) := by decide
      have := hc ⟨a.toNat, by omega⟩
      rw [show ((a.toNat : Nat) : Int) = a by omega] at this
      exact this
    · have e : decide (0 ≤ a ∧ a ≤ 29) = false := decide_eq_false h
      have n : ∀ c : Int, 0 ≤ c → c ≤ 29 → ¬ a = c := by intro c _ _; omega
      have m : ∀ c : Int, 0 ≤ c → c ≤ 29 → (a == c) = false := by intro c h1 h2; simp [n c h1 h2]
      unfold spec_OpCycles.f
      rw [l1In_eq, Option.bind_some, e]
      simp [impl_OpCycles.f, impl_OpCycles.j0, impl_OpCycles.j1, n, m]
  exact at_rounds (fun k => impl_OpCycles.mono a k) (show 2 ≤ k + 2 by omega) key
def opAccV (a : Int) : Int := if a = 2 ∨ a = 14 ∨ a = 29 then 1 else if a = 3 ∨ a = 15 then 2 else 0
theorem implOpAccess (a : Int) (k : Nat) (hk : 1 ≤ k) : impl_OpAccess.f k a = some (opAccV a) := by
  obtain ⟨k, rfl⟩ : ∃ q, k = q + 1 := ⟨k - 1, by omega⟩
  unfold impl_OpAccess.f opAccV
  by_cases h2 : a = 2
  · subst h2; simp [impl_OpAccess.j0]
  · by_cases h14 : a = 14
    · subst h14; simp [impl_OpAccess.j0]
    · by_cases h29 : a = 29
      · subst h29; simp [impl_OpAccess.j0]
      · by_cases h3 : a = 3
        · subst h3; simp [impl_OpAccess.j0]
        · by_cases h15 : a = 15
          · subst h15; simp [impl_OpAccess.j0]
          · simp [impl_OpAccess.j0, h2, h14, h29, h3, h15]
theorem specOpAccess (a : Int) (k : Nat) (hk : 1 ≤ k) : spec_OpAccess.f k a = some (opAccV a) := by
  have h : spec_OpAccess.f k a = impl_OpAccess.f k a := by
    obtain ⟨k, rfl⟩ : ∃ q, k = q + 1 := ⟨k - 1, by omega⟩
    simp [spec_OpAccess.f, impl_OpAccess.f, spec_OpAccess.j0, impl_OpAccess.j0]
  rw [h, implOpAccess a k hk]
theorem opAccV_three (a : Int) : opAccV a = 0 ∨ opLenV a = 3 := by
  unfold opAccV opLenV
  repeat' split
  all_goals omega
end LFnOps
open LFnOps

theorem opName_ok (a : Int) : spec_OpName.f a = impl_OpName.f a ∧ ((0 ≤ a ∧ a ≤ 29 ∧ impl_OpName.f a = some (rdOf ByteArray.empty names a)) ∨ (¬ (0 ≤ a ∧ a ≤ 29) ∧ impl_OpName.f a = some ⟨#[]⟩)) := by
  have e : spec_OpName.f a = impl_OpName.f a := by
    unfold spec_OpName.f impl_OpName.f impl_isOp.f
    rw [within_eq, l1In_eq]
    rfl
  refine ⟨e, ?_⟩
  unfold impl_OpName.f impl_isOp.f
  rw [within_eq, impl_names]
  have hn := names_len
  by_cases hr : 0 ≤ a ∧ a ≤ 29
  · refine .inl ⟨hr.1, hr.2, ?_⟩
    simp only [Option.bind_some, hr, and_self, decide_true, if_true]
    rw [if_pos (by omega)]
  · refine .inr ⟨hr, ?_⟩
    simp only [Option.bind_some, hr, decide_false, Bool.false_eq_true, if_false]
theorem names_apart : ∀ i j : Fin 30, i < j → (rdOf ByteArray.empty names ((i.val : Nat) : Int)).data.toList ≠ (rdOf ByteArray.empty names ((j.val : Nat) : Int)).data.toList := by decide +kernel
theorem names_full : ∀ i : Fin 30, (rdOf ByteArray.empty names ((i.val : Nat) : Int)).data.toList ≠ [] := by decide +kernel
theorem FnOps (l0 : List Int) (w0 : l0.length ≤ 9223372036854775807) (z0 : ∀ x ∈ l0, (Lit.int .u8 x).wf = true) : ∃ k, (laws_FnOps.f k l0) = some true := by
  obtain ⟨K, hK⟩ : ∃ K : Nat, 2000000 ≤ K := ⟨_, Nat.le_refl _⟩
  refine ⟨K + 2, ?_⟩
  unfold laws_FnOps.f laws_big.f
  simp only [Option.bind_some]
  by_cases hb : (l0.length : Int) > 1048576
  · rw [if_pos (by simpa using hb)]
  · rw [if_neg (by simpa using hb)]
    obtain ⟨op, e1⟩ := drawOp_ok l0 (by omega) (K + 2) (by omega)
    obtain ⟨s, e2⟩ := drawOpOf_ok l0 (by omega) (K + 2) (by omega)
    obtain ⟨n, f1, f2, f3⟩ := opOf_ok s (K + 2) (by omega)
    obtain ⟨g1, g2⟩ := opName_ok op
    rw [e1, e2]; simp only [Option.bind_some]
    rw [f2, f1, g1]; simp only [Option.bind_some]
    obtain ⟨nm, hnm⟩ : ∃ nm, impl_OpName.f op = some nm := by rcases g2 with ⟨_, _, h⟩ | ⟨_, h⟩ <;> exact ⟨_, h⟩
    rw [hnm]; simp only [Option.bind_some, if_true]
    rw [implOpLen op _ (by omega), specOpLen, implOpCycles op _ (by omega), (specOpCycles op).1, implOpAccess op _ (by omega), specOpAccess op _ (by omega)]
    simp only [Option.bind_some, if_true, bne_self_eq_false]
    have hlen := opLenV_three op
    have hcyc := (specOpCycles op).2
    have hacc := opAccV_three op
    have last : laws_FnOps.j1 (K + 1) op false = some true := by
      simp only [laws_FnOps.j1, Bool.false_eq_true, if_false]
      rw [implOpLen op _ (by omega), implOpCycles op _ (by omega), implOpAccess op _ (by omega)]
      simp only [Option.bind_some]
      rw [if_pos (by omega), if_pos (by omega), if_pos hcyc.1, if_pos hcyc.2]
      rcases hacc with h | h
      · rw [if_pos h]
      · split
        · rfl
        · simp [h]
    have own : ∀ j : Nat, j < 30 → ∃ r, impl_OpOf.f (K + 1) (rdOf ByteArray.empty names (j : Int)) = some r ∧ r = (j : Int) := by
      intro j hj
      obtain ⟨r, _, h2, h3⟩ := opOf_ok (rdOf ByteArray.empty names (j : Int)) (K + 1) (by omega)
      refine ⟨r, h2, ?_⟩
      rcases h3 with ⟨_, h⟩ | ⟨m, hm, hm30, h4, h5⟩
      · exact absurd rfl (h j hj)
      · rw [hm]
        rcases Nat.lt_trichotomy m j with h | h | h
        · exact absurd (by simpa [ByteArray.toList_eq] using h4) (names_apart ⟨m, hm30⟩ ⟨j, hj⟩ h)
        · rw [h]
        · exact absurd rfl (h5 j h)
    have rest : ((impl_OpName.f op).bind fun t => if t.toList = ([] : List UInt8) then laws_FnOps.j1 (K + 1) op false else (impl_OpName.f op).bind fun t2 => (impl_OpOf.f (K + 1) t2).bind fun t3 => laws_FnOps.j1 (K + 1) op (t3 != op)) = some true := by
      rcases g2 with ⟨h0, h1, h⟩ | ⟨h01, h⟩
      · rw [h]
        simp only [Option.bind_some]
        obtain ⟨j, rfl⟩ := Int.eq_ofNat_of_zero_le h0
        rw [if_neg (by rw [ByteArray.toList_eq]; exact names_full ⟨j, by omega⟩)]
        obtain ⟨r, hr, rfl⟩ := own j (by omega)
        rw [hr]
        simpa using last
      · rw [h]
        simp only [Option.bind_some]
        rw [if_pos (by simp [ByteArray.toList_eq])]
        exact last
    simp only [laws_FnOps.j0, Bool.false_eq_true, if_false]
    rcases f3 with ⟨rfl, _⟩ | ⟨j, rfl, hj, h4, _⟩
    · rw [if_neg (by decide)]
      exact rest
    · rw [if_pos (by omega)]
      obtain ⟨_, gj⟩ := opName_ok (j : Int)
      rcases gj with ⟨_, _, h⟩ | ⟨h01, _⟩
      · rw [h]
        simp only [Option.bind_some]
        rw [if_pos h4]
        exact rest
      · omega

end Go.Proofs.Ytcdfkemhigmnlaa.Pure
