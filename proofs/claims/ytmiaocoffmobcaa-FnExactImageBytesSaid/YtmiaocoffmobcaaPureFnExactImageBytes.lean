/- The program's ImageBytes returns what the reference's returns, for every image, in memory of its own, and leaves its argument as it was. No condition. -/
import Derived.Test.YtmiaocoffmobcaaMFnExactImageBytesx0
import Derived.Test.YtmiaocoffmobcaaMFnExactImageBytesx1
import Derived.Test.YtmiaocoffmobcaaMFnExactImageBytesx2
import Derived.Laws.Bits128
namespace Go.Proofs.Ytmiaocoffmobcaa.Pure
open Go.RowKit Go.Proofs.Ytmiaocoffmobcaa.MFnExactImageBytes Go.Proofs.YtmiaocoffmobcaaW.PrintWords Go.Proofs.YtmiaocoffmobcaaW.PrintLast Go.Proofs.YtmiaocoffmobcaaW.PrintMore
set_option linter.unusedVariables false
set_option linter.unusedSimpArgs false
namespace LFnExactImageBytes
theorem and_low (n : Int) (j : Nat) (m : Int) (hj : j < 64) (hm : (BitVec.ofInt 64 m).toNat = 2 ^ j - 1) : Go.bits .and .i64 n m = n % (2 ^ j : Nat) := by
  have key : (BitVec.ofInt 64 n &&& BitVec.ofInt 64 m).toNat = (n % ((2 ^ 64 : Nat) : Int)).toNat % 2 ^ j := by
    rw [BitVec.toNat_and, BitVec.toNat_ofInt, hm, Nat.and_two_pow_sub_one_eq_mod]
  show IntKind.i64.wrap ((BitVec.ofInt 64 n &&& BitVec.ofInt 64 m).toNat : Nat) = n % (2 ^ j : Nat)
  have hd : ((2 ^ j : Nat) : Int) ∣ ((2 ^ 64 : Nat) : Int) := by
    exact_mod_cast Nat.pow_dvd_pow 2 (Nat.le_of_lt hj)
  have hp : (0 : Int) < ((2 ^ j : Nat) : Int) := by exact_mod_cast Nat.two_pow_pos j
  have hle : ((2 ^ j : Nat) : Int) ≤ ((2 ^ 63 : Nat) : Int) := by
    exact_mod_cast Nat.pow_le_pow_right (by decide) (by omega)
  have e : (((n % ((2 ^ 64 : Nat) : Int)).toNat % 2 ^ j : Nat) : Int) = n % ((2 ^ j : Nat) : Int) := by
    rw [Int.natCast_emod, Int.toNat_of_nonneg (Int.emod_nonneg _ (by decide)), Int.emod_emod_of_dvd _ hd]
  rw [key, e, IntKind.wrap_i64]
  have h0 := Int.emod_nonneg n (Int.ne_of_gt hp)
  have h1 := Int.emod_lt_of_pos n hp
  generalize n % ((2 ^ j : Nat) : Int) = x at *
  generalize ((2 ^ j : Nat) : Int) = y at *
  have : ((2 ^ 63 : Nat) : Int) = 9223372036854775808 := by decide
  omega
theorem and255 (n : Int) : Go.bits .and .i64 n 255 = n % 256 := and_low n 8 255 (by decide) (by decide)
theorem and65535 (n : Int) : Go.bits .and .i64 n 65535 = n % 65536 := and_low n 16 65535 (by decide) (by decide)
theorem wrap_small {n : Int} (h0 : -9223372036854775808 ≤ n) (h1 : n ≤ 9223372036854775807) : wrap64 n = n := by
  unfold wrap64; omega
theorem wrap_nat {i : Nat} (h : i ≤ 4611686018427387904) : wrap64 ((i : Int) + 1) = ((i + 1 : Nat) : Int) := by
  unfold wrap64; omega
theorem rd_nat (l : List Int) (i : Nat) (h : i < l.length) : rd l (i : Int) = l[i] := by
  unfold rd; simp [List.getD, h]

theorem eqIntS_l0 (l : List Int) (hl : l.length ≤ 140737488351232) : ∀ (k i : Nat), i ≤ l.length → l.length - i < k → laws_eqIntS.l0 k l l (i : Int) = some true := by
  intro k
  induction k with
  | zero => intro i _ h; omega
  | succ k ih =>
    intro i hi h
    simp only [laws_eqIntS.l0]
    by_cases hlt : i < l.length
    · have c1 : (i : Int) < (l.length : Int) := by omega
      have c0 : (0 : Int) ≤ (i : Int) := by omega
      simp only [c0, c1, if_true]
      rw [wrap_nat (by omega)]
      exact ih (i + 1) (by omega) (by omega)
    · rw [if_neg (by omega)]
theorem eqIntS_self (l : List Int) (hl : l.length ≤ 140737488351232) (k : Nat) (hk : l.length < k) : laws_eqIntS.f k l l = some true := by
  unfold laws_eqIntS.f
  rw [if_pos rfl]
  exact eqIntS_l0 l hl k 0 (by omega) (by omega)

theorem rdL_nat (l : List (List Int)) (i : Nat) (h : i < l.length) : rd_L1 l (i : Int) = l[i] := by
  unfold rd_L1; simp [List.getD, h]
theorem rdL_mem (l : List (List Int)) (i : Nat) (h : i < l.length) : rd_L1 l (i : Int) ∈ l := by
  rw [rdL_nat l i h]; exact List.getElem_mem h

theorem eqIntSS_l0 (l : List (List Int)) (hl : l.length ≤ 1048576) (hr : ∀ r ∈ l, r.length ≤ 1048576) : ∀ (k i : Nat), i ≤ l.length → l.length - i + 1048576 < k → laws_eqIntSS.l0 k l l (i : Int) = some true := by
  intro k
  induction k with
  | zero => intro i _ h; omega
  | succ k ih =>
    intro i hi h
    simp only [laws_eqIntSS.l0]
    by_cases hlt : i < l.length
    · have hm := hr _ (rdL_mem l i hlt)
      have c1 : (i : Int) < (l.length : Int) := by omega
      have c0 : (0 : Int) ≤ (i : Int) := by omega
      simp only [c0, c1, if_true]
      rw [eqIntS_self _ (by omega) k (by omega), wrap_nat (by omega)]
      simp only [Option.bind_some, if_true]
      exact ih (i + 1) (by omega) (by omega)
    · rw [if_neg (by omega)]
theorem eqImage_self (l : List (List Int)) (hl : l.length ≤ 1048576) (hr : ∀ r ∈ l, r.length ≤ 1048576) (k : Nat) (hk : 3000000 ≤ k) : laws_eqImage.f k l l = some true := by
  unfold laws_eqImage.f laws_eqIntSS.f
  have h := eqIntSS_l0 l hl hr k 0 (by omega) (by omega)
  rw [show ((0 : Nat) : Int) = 0 from rfl] at h
  rw [if_pos rfl, h]
  simp

theorem toIntS_l0 (l : List Int) (hl : l.length ≤ 35184372088832) : ∀ (k i : Nat), i ≤ l.length → l.length - i < k →
    laws_toIntS.l0 k l (l.take i ++ List.replicate (l.length - i) 0) (i : Int) = some l := by
  intro k
  induction k with
  | zero => intro i _ h; omega
  | succ k ih =>
    intro i hi h
    have hlen : (l.take i ++ List.replicate (l.length - i) (0 : Int)).length = l.length := by simp; omega
    simp only [laws_toIntS.l0]
    by_cases hlt : i < l.length
    · rw [if_pos (by omega), if_pos (by omega), if_pos (by omega), wrap_nat (by omega)]
      have e1 : (l.take i ++ List.replicate (l.length - i) 0).set ((i : Int)).toNat (rd l (i : Int)) = l.take (i + 1) ++ List.replicate (l.length - (i + 1)) 0 := by
        rw [Int.toNat_natCast, List.set_append, if_neg (by rw [List.length_take]; omega), List.length_take, Nat.min_eq_left (by omega), Nat.sub_self, show l.length - i = (l.length - (i + 1)) + 1 by omega, List.replicate_succ, List.set_cons_zero, rd_nat l i hlt, List.take_succ_eq_append_getElem hlt, List.append_assoc, List.singleton_append]
      rw [e1]
      exact ih (i + 1) (by omega) (by omega)
    · have : i = l.length := by omega
      subst this
      rw [if_neg (by omega)]
      simp
theorem toIntS_ok (l : List Int) (hl : l.length ≤ 35184372088832) (k : Nat) (hk : l.length < k) : laws_toIntS.f k l = some l := by
  unfold laws_toIntS.f
  rw [if_pos (by omega), Int.toNat_natCast, if_pos hl]
  have h := toIntS_l0 l hl k 0 (by omega) (by omega)
  simpa using h

theorem toIntSS_l0 (l : List (List Int)) (hl : l.length ≤ 1048576) (hr : ∀ r ∈ l, r.length ≤ 1048576) : ∀ (k i : Nat), i ≤ l.length → l.length - i + 1048576 < k →
    laws_toIntSS.l0 k l (l.take i ++ List.replicate (l.length - i) []) (i : Int) = some l := by
  intro k
  induction k with
  | zero => intro i _ h; omega
  | succ k ih =>
    intro i hi h
    have hlen : (l.take i ++ List.replicate (l.length - i) ([] : List Int)).length = l.length := by simp; omega
    simp only [laws_toIntSS.l0]
    by_cases hlt : i < l.length
    · have hm := hr _ (rdL_mem l i hlt)
      rw [if_pos (by omega), if_pos (by omega), toIntS_ok _ (by omega) k (by omega), Option.bind_some, if_pos (by omega), wrap_nat (by omega)]
      have e1 : (l.take i ++ List.replicate (l.length - i) []).set ((i : Int)).toNat (rd_L1 l (i : Int)) = l.take (i + 1) ++ List.replicate (l.length - (i + 1)) [] := by
        rw [Int.toNat_natCast, List.set_append, if_neg (by rw [List.length_take]; omega), List.length_take, Nat.min_eq_left (by omega), Nat.sub_self, show l.length - i = (l.length - (i + 1)) + 1 by omega, List.replicate_succ, List.set_cons_zero, rdL_nat l i hlt, List.take_succ_eq_append_getElem hlt, List.append_assoc, List.singleton_append]
      rw [e1]
      exact ih (i + 1) (by omega) (by omega)
    · have : i = l.length := by omega
      subst this
      rw [if_neg (by omega)]
      simp
theorem toImage_ok (l : List (List Int)) (hl : l.length ≤ 1048576) (hr : ∀ r ∈ l, r.length ≤ 1048576) (k : Nat) (hk : 3000000 ≤ k) : laws_toImage.f k l = some l := by
  unfold laws_toImage.f laws_toIntSS.f
  rw [if_pos (by omega), Int.toNat_natCast, if_pos (by omega)]
  have h := toIntSS_l0 l hl hr k 0 (by omega) (by omega)
  simp only [List.take_zero, List.nil_append, Nat.sub_zero] at h
  rw [show ((0 : Nat) : Int) = 0 from rfl] at h
  rw [h]
  rfl

theorem szIntS_ok (l : List Int) (hl : l.length ≤ 9223372036854775807) (a : Int) (h0 : 0 ≤ a) (h1 : a ≤ 1048576) :
    ∃ r : Int, laws_szIntS.f l a = some r ∧ (r = -1 ∨ (0 ≤ r ∧ r ≤ a ∧ (l.length : Int) ≤ a)) := by
  unfold laws_szIntS.f
  rw [wrap_small (by omega) (by omega)]
  by_cases h : a - (l.length : Int) < 0
  · rw [if_pos h]; exact ⟨-1, rfl, .inl rfl⟩
  · rw [if_neg h]; exact ⟨_, rfl, .inr ⟨by omega, by omega, by omega⟩⟩

theorem szIntSS_l0 (l : List (List Int)) (hr : ∀ r ∈ l, r.length ≤ 9223372036854775807) (hl : l.length ≤ 1048576) : ∀ (k i : Nat) (a : Int), 0 ≤ a → a ≤ 1048576 → i ≤ l.length → l.length - i < k →
    ∃ r : Int, laws_szIntSS.l0 k l a (i : Int) = some r ∧ (r = -1 ∨ (0 ≤ r ∧ r ≤ a ∧ ∀ j : Nat, i ≤ j → j < l.length → ((rd_L1 l (j : Int)).length : Int) ≤ a)) := by
  intro k
  induction k with
  | zero => intro i a _ _ _ h; omega
  | succ k ih =>
    intro i a h0 h1 hi h
    simp only [laws_szIntSS.l0]
    by_cases hlt : i < l.length
    · rw [if_pos (by omega), if_pos (by omega)]
      obtain ⟨r, e, hrr⟩ := szIntS_ok (rd_L1 l (i : Int)) (hr _ (rdL_mem l i hlt)) a h0 h1
      rw [e, Option.bind_some]
      rcases hrr with rfl | ⟨g0, g1, g2⟩
      · exact ⟨-1, by simp, .inl rfl⟩
      · rw [if_neg (by omega), wrap_nat (by omega)]
        obtain ⟨q, e2, hq⟩ := ih (i + 1) r g0 (by omega) (by omega) (by omega)
        refine ⟨q, e2, ?_⟩
        rcases hq with rfl | ⟨q0, q1, q2⟩
        · exact .inl rfl
        · refine .inr ⟨q0, by omega, fun j hj hjl => ?_⟩
          rcases Nat.lt_or_ge i j with hij | hij
          · have := q2 j hij hjl; omega
          · have : j = i := by omega
            subst this
            exact g2
    · rw [if_neg (by omega)]
      exact ⟨a, rfl, .inr ⟨h0, by omega, fun j h1 h2 => by omega⟩⟩
theorem szImage_ok (l : List (List Int)) (hl : l.length ≤ 9223372036854775807) (hr : ∀ r ∈ l, r.length ≤ 9223372036854775807) (k : Nat) (hk : 2000000 ≤ k) :
    ∃ r : Int, laws_szImage.f k l 1048576 = some r ∧ (r = -1 ∨ (0 ≤ r ∧ r ≤ 1048576 ∧ l.length ≤ 1048576 ∧ ∀ r ∈ l, r.length ≤ 1048576)) := by
  unfold laws_szImage.f laws_szIntSS.f
  rw [wrap_small (by omega) (by omega)]
  by_cases h : (1048576 : Int) - (l.length : Int) < 0
  · rw [if_pos h]; exact ⟨-1, by simp, .inl rfl⟩
  · rw [if_neg h]
    obtain ⟨r, e, hq⟩ := szIntSS_l0 l hr (by omega) k 0 (1048576 - (l.length : Int)) (by omega) (by omega) (by omega) (by omega)
    rw [show ((0 : Nat) : Int) = 0 from rfl] at e
    rw [e, Option.bind_some]
    rcases hq with rfl | ⟨q0, q1, q2⟩
    · exact ⟨-1, by simp, .inl rfl⟩
    · rw [if_neg (by omega)]
      refine ⟨r, rfl, .inr ⟨q0, by omega, by omega, fun x hx => ?_⟩⟩
      obtain ⟨j, hj, rfl⟩ := List.getElem_of_mem hx
      have := q2 j (Nat.zero_le _) hj
      rw [rdL_nat l j hj] at this
      omega

def seqFrom (a : Int) (n : Nat) : List Int := (List.range n).map fun (j : Nat) => a + (j : Int)
theorem seqFrom_length (a : Int) (n : Nat) : (seqFrom a n).length = n := by simp [seqFrom]
theorem seqFrom_rd (a : Int) (n i : Nat) (h : i < n) : rd (seqFrom a n) (i : Int) = a + i := by
  rw [rd_nat _ _ (by simpa [seqFrom] using h)]
  simp [seqFrom]
theorem seqFrom_succ (a : Int) (n : Nat) : seqFrom a (n + 1) = seqFrom a n ++ [a + (n : Int)] := by
  simp [seqFrom, List.range_succ]

theorem markIntS_l0 (l : List Int) (a : Int) (hl : l.length ≤ 140737488351232) (ha : 0 ≤ a) (ha1 : a ≤ 140737488351232) : ∀ (k i : Nat), i ≤ l.length → l.length - i < k →
    laws_markIntS.l0 k (seqFrom a i ++ l.drop i) (a + i) (i : Int) = some (a + l.length, seqFrom a l.length) := by
  intro k
  induction k with
  | zero => intro i _ h; omega
  | succ k ih =>
    intro i hi h
    have hlen : (seqFrom a i ++ l.drop i).length = l.length := by simp [seqFrom_length]; omega
    simp only [laws_markIntS.l0]
    by_cases hlt : i < l.length
    · rw [if_pos (by omega), if_pos (by omega), wrap_nat (by omega)]
      have e1 : (seqFrom a i ++ l.drop i).set ((i : Int)).toNat (a + i) = seqFrom a (i + 1) ++ l.drop (i + 1) := by
        rw [Int.toNat_natCast, List.set_append, if_neg (by rw [seqFrom_length]; omega), seqFrom_length, Nat.sub_self, List.drop_eq_getElem_cons hlt, List.set_cons_zero, seqFrom_succ]
        simp
      have e2 : wrap64 (a + (i : Int) + 1) = a + ((i + 1 : Nat) : Int) := by unfold wrap64; omega
      rw [e1, e2]
      exact ih (i + 1) (by omega) (by omega)
    · have : i = l.length := by omega
      subst this
      rw [if_neg (by omega)]
      simp
theorem markIntS_all (l : List Int) (a : Int) (hl : l.length ≤ 140737488351232) (ha : 0 ≤ a) (ha1 : a ≤ 140737488351232) (k : Nat) (hk : l.length < k) :
    laws_markIntS.f k l a = some (a + l.length, seqFrom a l.length) := by
  have h := markIntS_l0 l a hl ha ha1 k 0 (by omega) (by omega)
  simpa [seqFrom, laws_markIntS.f] using h

/-- The sum of the rows' lengths, and the rows behind the marks: all that is asked is that there are some. -/
theorem markIntSS_l0 (k0 : Nat) : ∀ (d : Nat) (m : List (List Int)) (i : Nat) (a : Int), m.length - i = d → i ≤ m.length → (∀ r ∈ m, r.length ≤ 1048576) → m.length ≤ 1048576 → 0 ≤ a → a + 1048576 * (d : Int) ≤ 140737488351232 → ∀ k, d + 1048577 < k →
    ∃ (q : Int) (n : List (List Int)), laws_markIntSS.l0 k m a (i : Int) = some (q, n) ∧ 0 ≤ q := by
  intro d
  induction d with
  | zero =>
    intro m i a hd hi _ _ ha _ k hk
    obtain ⟨k, rfl⟩ : ∃ q, k = q + 1 := ⟨k - 1, by omega⟩
    simp only [laws_markIntSS.l0]
    rw [if_neg (by omega)]
    exact ⟨a, m, rfl, ha⟩
  | succ d ih =>
    intro m i a hd hi hr hm ha hb k hk
    obtain ⟨k, rfl⟩ : ∃ q, k = q + 1 := ⟨k - 1, by omega⟩
    simp only [laws_markIntSS.l0]
    have hlt : i < m.length := by omega
    rw [if_pos (by omega), if_pos (by omega)]
    have e1 : ((i : Int)).toNat = i := by omega
    rw [e1]
    have e2 : m.getD i [] = m[i] := by simp [List.getD_eq_getElem?_getD, hlt]
    rw [e2]
    have hri : m[i].length ≤ 1048576 := hr _ (List.getElem_mem hlt)
    rw [markIntS_all m[i] a (by omega) ha (by omega) k (by omega)]
    simp only [Option.bind_some]
    rw [wrap_nat (by omega)]
    refine ih (m.set i (seqFrom a m[i].length)) (i + 1) (a + m[i].length) (by simp; omega) (by simp; omega) ?_ (by simpa using hm) (by omega) (by omega) k (by omega)
    intro r h
    rcases List.mem_or_eq_of_mem_set h with h | rfl
    · exact hr r h
    · simpa [seqFrom_length] using hri
theorem markIntSS_ok (m : List (List Int)) (hr : ∀ r ∈ m, r.length ≤ 1048576) (hm : m.length ≤ 1048576) (k : Nat) (hk : 3000000 ≤ k) : ∃ (q : Int) (n : List (List Int)), laws_markIntSS.f k m 1 = some (q, n) ∧ 0 ≤ q := by
  unfold laws_markIntSS.f
  exact markIntSS_l0 k m.length m 0 1 (by omega) (by omega) hr hm (by omega) (by omega) k (by omega)

theorem eqByteS_l0 (l : List Int) (hl : l.length ≤ 140737488351232) : ∀ (k i : Nat), i ≤ l.length → l.length - i < k → laws_eqByteS.l0 k l l (i : Int) = some true := by
  intro k
  induction k with
  | zero => intro i _ h; omega
  | succ k ih =>
    intro i hi h
    simp only [laws_eqByteS.l0]
    by_cases hlt : i < l.length
    · have c1 : (i : Int) < (l.length : Int) := by omega
      have c0 : (0 : Int) ≤ (i : Int) := by omega
      simp only [c0, c1, if_true]
      rw [wrap_nat (by omega)]
      exact ih (i + 1) (by omega) (by omega)
    · rw [if_neg (by omega)]
theorem eqByteS_self (l : List Int) (hl : l.length ≤ 140737488351232) (k : Nat) (hk : l.length < k) : laws_eqByteS.f k l l = some true := by
  unfold laws_eqByteS.f
  rw [if_pos rfl]
  exact eqByteS_l0 l hl k 0 (by omega) (by omega)
def seqB (a : Int) (n : Nat) : List Int := (List.range n).map fun (j : Nat) => (a + (j : Int)) % 256
theorem seqB_length (a : Int) (n : Nat) : (seqB a n).length = n := by simp [seqB]
theorem seqB_rd (a : Int) (n i : Nat) (h : i < n) : rd (seqB a n) (i : Int) = (a + i) % 256 := by
  rw [rd_nat _ _ (by simpa [seqB] using h)]
  simp [seqB]
theorem seqB_succ (a : Int) (n : Nat) : seqB a (n + 1) = seqB a n ++ [(a + (n : Int)) % 256] := by
  simp [seqB, List.range_succ]
theorem markByteS_l0 (l : List Int) (a : Int) (hl : l.length ≤ 140737488351232) (ha : 0 ≤ a) (ha1 : a ≤ 140737488351232) : ∀ (k i : Nat), i ≤ l.length → l.length - i < k →
    laws_markByteS.l0 k (seqB a i ++ l.drop i) (a + i) (i : Int) = some (a + l.length, seqB a l.length) := by
  intro k
  induction k with
  | zero => intro i _ h; omega
  | succ k ih =>
    intro i hi h
    have hlen : (seqB a i ++ l.drop i).length = l.length := by simp [seqB_length]; omega
    simp only [laws_markByteS.l0]
    by_cases hlt : i < l.length
    · rw [if_pos (by omega), if_pos (by omega), wrap_nat (by omega)]
      have e1 : (seqB a i ++ l.drop i).set ((i : Int)).toNat ((a + i) % 256) = seqB a (i + 1) ++ l.drop (i + 1) := by
        rw [Int.toNat_natCast, List.set_append, if_neg (by rw [seqB_length]; omega), seqB_length, Nat.sub_self, List.drop_eq_getElem_cons hlt, List.set_cons_zero, seqB_succ]
        simp
      have e2 : wrap64 (a + (i : Int) + 1) = a + ((i + 1 : Nat) : Int) := by unfold wrap64; omega
      rw [e1, e2]
      exact ih (i + 1) (by omega) (by omega)
    · have : i = l.length := by omega
      subst this
      rw [if_neg (by omega)]
      simp
theorem markByteS_all (l : List Int) (a : Int) (hl : l.length ≤ 140737488351232) (ha : 0 ≤ a) (ha1 : a ≤ 140737488351232) (k : Nat) (hk : l.length < k) :
    laws_markByteS.f k l a = some (a + l.length, seqB a l.length) := by
  have h := markByteS_l0 l a hl ha ha1 k 0 (by omega) (by omega)
  simpa [seqB, laws_markByteS.f] using h
theorem heldByteS_l0 (n : Nat) (a : Int) (hl : n ≤ 140737488351232) (ha : 0 ≤ a) (ha1 : a ≤ 140737488351232) : ∀ (k i : Nat), i ≤ n → n - i < k →
    laws_heldByteS.l0 k (seqB a n) (a + i) (i : Int) = some (a + n) := by
  intro k
  induction k with
  | zero => intro i _ h; omega
  | succ k ih =>
    intro i hi h
    have hlen := seqB_length a n
    simp only [laws_heldByteS.l0]
    by_cases hlt : i < n
    · have e2 : wrap64 (a + (i : Int) + 1) = a + ((i + 1 : Nat) : Int) := by unfold wrap64; omega
      rw [if_pos (by omega), if_pos (by omega), if_pos (seqB_rd a n i hlt), wrap_nat (by omega), e2]
      exact ih (i + 1) (by omega) (by omega)
    · have : i = n := by omega
      subst this
      rw [if_neg (by omega)]
theorem heldByteS_all (n : Nat) (a : Int) (hl : n ≤ 140737488351232) (ha : 0 ≤ a) (ha1 : a ≤ 140737488351232) (k : Nat) (hk : n < k) :
    laws_heldByteS.f k (seqB a n) a = some (a + n) := by
  have h := heldByteS_l0 n a hl ha ha1 k 0 (by omega) (by omega)
  simpa [laws_heldByteS.f] using h

theorem within_eq (x lo hi : Int) : impl_within.f x lo hi = some (decide (lo ≤ x ∧ x ≤ hi)) := by
  unfold impl_within.f
  split <;> simp <;> omega
theorem l1In_eq (x lo hi : Int) : spec_l1In.f x lo hi = some (decide (lo ≤ x ∧ x ≤ hi)) := by
  unfold spec_l1In.f
  split <;> simp <;> omega

def isByteB (x : Int) : Bool := decide (0 ≤ x ∧ x ≤ 255)
def imgOk (m : List (List Int)) : Bool := m.all (fun r => decide (r.length = 256) && r.all isByteB) && decide (1 ≤ (m.length : Int) ∧ (m.length : Int) ≤ 8)
theorem bytesOk_l0 (l : List Int) (hl : l.length ≤ 1048576) : ∀ (k i : Nat), i ≤ l.length → l.length - i < k → impl_bytesOk.l0 k l (l.length : Int) (i : Int) = some ((l.drop i).all isByteB) := by
  intro k
  induction k with
  | zero => intro i _ h; omega
  | succ k ih =>
    intro i hi h
    simp only [impl_bytesOk.l0]
    by_cases hlt : i < l.length
    · have c1 : (i : Int) < (l.length : Int) := by omega
      have c0 : (0 : Int) ≤ (i : Int) := by omega
      simp only [c0, c1, if_true]
      unfold impl_isByte.f
      rw [within_eq, wrap_nat (by omega), rd_nat l i hlt, List.drop_eq_getElem_cons hlt, List.all_cons]
      simp only [Option.bind_some]
      rw [ih (i + 1) (by omega) (by omega)]
      by_cases hb : 0 ≤ l[i] ∧ l[i] ≤ 255
      · simp [isByteB, hb]
      · simp [isByteB, hb]
    · have : i = l.length := by omega
      subst this
      rw [if_neg (by omega)]
      simp
theorem bytesOk_ok (l : List Int) (hl : l.length ≤ 1048576) (k : Nat) (hk : l.length < k) : impl_bytesOk.f k l = some (l.all isByteB) := by
  have h := bytesOk_l0 l hl k 0 (by omega) (by omega)
  simpa [impl_bytesOk.f] using h
theorem implImageOk_l0 (m : List (List Int)) (hl : m.length ≤ 1048576) : ∀ (k i : Nat), i ≤ m.length → m.length - i + 300 < k →
    impl_ImageOk.l0 k m (m.length : Int) (i : Int) m = some ((m.drop i).all (fun r => decide (r.length = 256) && r.all isByteB) && decide (1 ≤ (m.length : Int) ∧ (m.length : Int) ≤ 8)) := by
  intro k
  induction k with
  | zero => intro i _ h; omega
  | succ k ih =>
    intro i hi h
    simp only [impl_ImageOk.l0]
    by_cases hlt : i < m.length
    · have c1 : (i : Int) < (m.length : Int) := by omega
      have c0 : (0 : Int) ≤ (i : Int) := by omega
      simp only [c0, c1, if_true]
      rw [rdL_nat m i hlt, List.drop_eq_getElem_cons hlt, List.all_cons]
      by_cases h256 : m[i].length = 256
      · have e : ((m[i].length : Int) = 256) := by omega
        rw [if_pos e, bytesOk_ok _ (by omega) k (by omega)]
        simp only [Option.bind_some]
        rw [wrap_nat (by omega), ih (i + 1) (by omega) (by omega)]
        cases hb : m[i].all isByteB <;> simp [h256]
      · have e : ¬ ((m[i].length : Int) = 256) := by omega
        rw [if_neg e]
        simp [h256]
    · have : i = m.length := by omega
      subst this
      rw [if_neg (by omega), within_eq]
      simp
theorem implImageOk (m : List (List Int)) (hl : m.length ≤ 1048576) (k : Nat) (hk : 2000000 ≤ k) : impl_ImageOk.f k m = some (imgOk m) := by
  have h := implImageOk_l0 m hl k 0 (by omega) (by omega)
  simpa [impl_ImageOk.f, imgOk] using h
theorem specImageOk_l1 (m : List (List Int)) (i : Nat) (hlt : i < m.length) (h256 : m[i].length = 256) (k0 : Nat) (v : Bool) (hnext : ∀ k, k0 < k → spec_ImageOk.l0 k (wrap64 ((i : Int) + 1)) m = some v) : ∀ (k j : Nat), j ≤ 256 → 256 - j + k0 + 1 < k →
    spec_ImageOk.l1 k (i : Int) (j : Int) m = some ((m[i].drop j).all isByteB && v) := by
  intro k
  induction k with
  | zero => intro j _ h; omega
  | succ k ih =>
    intro j hj h
    simp only [spec_ImageOk.l1]
    by_cases hjl : j < 256
    · have c1 : (i : Int) < (m.length : Int) := by omega
      have c0 : (0 : Int) ≤ (i : Int) := by omega
      have c2 : (0 : Int) ≤ (j : Int) := by omega
      have c3 : (j : Int) < 256 := by omega
      have c4 : (j : Int) < (m[i].length : Int) := by omega
      simp only [c0, c1, c2, c3, if_true]
      rw [rdL_nat m i hlt]
      simp only [c4, if_true]
      rw [l1In_eq, rd_nat _ j (by omega), wrap_nat (by omega), List.drop_eq_getElem_cons (show j < m[i].length by omega), List.all_cons]
      simp only [Option.bind_some]
      rw [ih (j + 1) (by omega) (by omega)]
      by_cases hb : 0 ≤ m[i][j] ∧ m[i][j] ≤ 255
      · simp [isByteB, hb]
      · simp [isByteB, hb]
    · rw [if_neg (by omega), hnext k (by omega), List.drop_eq_nil_of_le (by omega)]
      simp
theorem specImageOk_l0 (m : List (List Int)) (hl : m.length ≤ 1048576) : ∀ (d i : Nat), i ≤ m.length → m.length - i = d → ∀ k, d * 300 + 10 < k →
    spec_ImageOk.l0 k (i : Int) m = some ((m.drop i).all (fun r => decide (r.length = 256) && r.all isByteB) && decide (1 ≤ (m.length : Int) ∧ (m.length : Int) ≤ 8)) := by
  intro d
  induction d with
  | zero =>
    intro i hi hd k hk
    obtain ⟨k, rfl⟩ : ∃ q, k = q + 1 := ⟨k - 1, by omega⟩
    have : i = m.length := by omega
    subst this
    simp only [spec_ImageOk.l0]
    rw [if_neg (by omega), l1In_eq]
    simp
  | succ d ih =>
    intro i hi hd k hk
    obtain ⟨k, rfl⟩ : ∃ q, k = q + 1 := ⟨k - 1, by omega⟩
    have hlt : i < m.length := by omega
    have c1 : (i : Int) < (m.length : Int) := by omega
    have c0 : (0 : Int) ≤ (i : Int) := by omega
    simp only [spec_ImageOk.l0, c0, c1, if_true]
    rw [rdL_nat m i hlt, List.drop_eq_getElem_cons hlt, List.all_cons]
    by_cases h256 : m[i].length = 256
    · have e : ((m[i].length : Int) = 256) := by omega
      rw [if_pos e]
      have hn := ih (i + 1) (by omega) (by omega)
      have h1 := specImageOk_l1 m i hlt h256 (d * 300 + 10) _ (fun k hk => by rw [wrap_nat (by omega)]; exact hn k hk) k 0 (by omega) (by omega)
      rw [show ((0 : Nat) : Int) = 0 from rfl] at h1
      rw [h1]
      simp [h256, Bool.and_assoc]
    · have e : ¬ ((m[i].length : Int) = 256) := by omega
      rw [if_neg e]
      simp [h256]
theorem specImageOk (m : List (List Int)) (hl : m.length ≤ 1048576) (k : Nat) (hk : 400000000 ≤ k) : spec_ImageOk.f k m = some (imgOk m) := by
  have h := specImageOk_l0 m hl m.length 0 (by omega) (by omega) k (by omega)
  simpa [spec_ImageOk.f, imgOk] using h
theorem imgOk_iff (m : List (List Int)) : imgOk m = true ↔ ((∀ r ∈ m, r.length = 256 ∧ ∀ x ∈ r, 0 ≤ x ∧ x ≤ 255) ∧ 1 ≤ m.length ∧ m.length ≤ 8) := by
  unfold imgOk isByteB
  simp only [Bool.and_eq_true, List.all_eq_true, decide_eq_true_eq]
  constructor
  · rintro ⟨h, h1, h2⟩
    exact ⟨fun r hr => h r hr, by omega, by omega⟩
  · rintro ⟨h, h1, h2⟩
    exact ⟨fun r hr => h r hr, by omega, by omega⟩

def sumW (l : List Int) (a : Int) : Int := l.foldl (fun a x => wrap64 (a + x)) a
def lows (l : List Int) : List Int := l.map (· % 256)
theorem lows_append (l m : List Int) : lows (l ++ m) = lows l ++ lows m := by simp [lows]
theorem lows_length (l : List Int) : (lows l).length = l.length := by unfold lows; rw [List.length_map]
theorem lows_cons (a : Int) (l : List Int) : lows (a :: l) = (a % 256) :: lows l := rfl
theorem sumW_cons (a : Int) (l : List Int) (s : Int) : sumW (a :: l) s = sumW l (wrap64 (s + a)) := rfl
theorem sumW_append (l m : List Int) (a : Int) : sumW (l ++ m) a = sumW m (sumW l a) := by simp [sumW]
theorem specIB_l1 (m : List (List Int)) (i : Nat) (hi : i < m.length) (h256 : m[i].length = 256) : ∀ (d j : Nat), 256 - j = d → j ≤ 256 → ∀ (k : Nat) (x : List Int) (s : Int), x.length + d ≤ 1000000 →
    spec_ImageBytes.l1 (k + d + 1) x s (i : Int) (j : Int) m = spec_ImageBytes.l0 k (x ++ lows (m[i].drop j)) (sumW (m[i].drop j) s) (wrap64 ((i : Int) + 1)) m := by
  intro d
  induction d with
  | zero =>
    intro j hd hj k x s hx
    generalize hq : k + 0 = q
    simp only [spec_ImageBytes.l1]
    obtain rfl : k = q := by omega
    rw [if_neg (by omega), List.drop_eq_nil_of_le (by omega)]
    simp [lows, sumW]
  | succ d ih =>
    intro j hd hj k x s hx
    generalize hq : k + (d + 1) = q
    simp only [spec_ImageBytes.l1]
    obtain rfl : q = k + d + 1 := by omega
    rw [if_pos (by omega), if_pos (by omega), if_pos (by omega), if_pos (by omega), rdL_nat m i hi, if_pos (by omega), if_pos (by omega), wrap_nat (by omega), rd_nat _ j (by omega)]
    rw [ih (j + 1) (by omega) (by omega) k _ _ (by simp; omega), List.drop_eq_getElem_cons (show j < m[i].length by omega), lows_cons, sumW_cons, List.append_assoc, List.singleton_append]
theorem specIB_l0 (m : List (List Int)) (h8 : m.length ≤ 8) (h256 : ∀ r ∈ m, r.length = 256) : ∀ (d i : Nat), m.length - i = d → i ≤ m.length → ∀ (k : Nat) (x : List Int) (s : Int), 5 < x.length → x.length + 256 * d ≤ 1000000 → 258 * d < k →
    spec_ImageBytes.l0 k x s (i : Int) m = some ((x ++ lows (m.drop i).flatten).set 5 (sumW (m.drop i).flatten s % 256)) := by
  intro d
  induction d with
  | zero =>
    intro i hd hi k x s h5 hx hk
    obtain ⟨k, rfl⟩ : ∃ q, k = q + 1 := ⟨k - 1, by omega⟩
    simp only [spec_ImageBytes.l0]
    rw [if_neg (by omega), if_pos (by omega), List.drop_eq_nil_of_le (by omega)]
    simp [lows, sumW]
  | succ d ih =>
    intro i hd hi k x s h5 hx hk
    obtain ⟨k, rfl⟩ : ∃ q, k = q + 1 := ⟨k - 1, by omega⟩
    have hlt : i < m.length := by omega
    have hr := h256 _ (List.getElem_mem hlt)
    simp only [spec_ImageBytes.l0]
    obtain ⟨e, he⟩ : ∃ e : Nat, e = 256 := ⟨_, rfl⟩
    obtain ⟨k, rfl⟩ : ∃ q, k = q + e + 1 := ⟨k - (e + 1), by omega⟩
    have h1 := specIB_l1 m i hlt hr e 0 (by omega) (by omega) k x s (by omega)
    rw [show ((0 : Nat) : Int) = 0 from rfl] at h1
    rw [if_pos (by omega), h1, wrap_nat (by omega), List.drop_zero, ih (i + 1) (by omega) (by omega) k _ _ (by simp; omega) (by simp [lows]; omega) (by omega), List.drop_eq_getElem_cons hlt, List.flatten_cons, lows_append, sumW_append, List.append_assoc]
theorem implIB_l1 (m : List (List Int)) (r : List Int) (h256 : r.length = 256) (i : Int) : ∀ (d j : Nat), 256 - j = d → j ≤ 256 → ∀ (k : Nat) (x : List Int) (s : Int), x.length + d ≤ 1000000 →
    impl_ImageBytes.l1 (k + d + 1) x s m (m.length : Int) i r (r.length : Int) (j : Int) m = impl_ImageBytes.l0 k (x ++ lows (r.drop j)) (sumW (r.drop j) s) m (m.length : Int) (wrap64 (i + 1)) m := by
  intro d
  induction d with
  | zero =>
    intro j hd hj k x s hx
    generalize hq : k + 0 = q
    simp only [impl_ImageBytes.l1]
    obtain rfl : k = q := by omega
    rw [if_neg (by omega), List.drop_eq_nil_of_le (by omega)]
    simp [lows, sumW]
  | succ d ih =>
    intro j hd hj k x s hx
    generalize hq : k + (d + 1) = q
    simp only [impl_ImageBytes.l1]
    obtain rfl : q = k + d + 1 := by omega
    rw [if_pos (by omega), if_pos (by omega), if_pos (by omega), if_pos (by omega), wrap_nat (by omega), rd_nat _ j (by omega)]
    rw [ih (j + 1) (by omega) (by omega) k _ _ (by simp; omega), List.drop_eq_getElem_cons (show j < r.length by omega), lows_cons, sumW_cons, List.append_assoc, List.singleton_append]
theorem implIB_l0 (m : List (List Int)) (h8 : m.length ≤ 8) (h256 : ∀ r ∈ m, r.length = 256) : ∀ (d i : Nat), m.length - i = d → i ≤ m.length → ∀ (k : Nat) (x : List Int) (s : Int), x.length + 256 * d ≤ 1000000 → 258 * d < k →
    impl_ImageBytes.l0 k x s m (m.length : Int) (i : Int) m = some ([50, 67, 76, 75, (m.length : Int) % 256, sumW (m.drop i).flatten s % 256] ++ (x ++ lows (m.drop i).flatten)) := by
  intro d
  induction d with
  | zero =>
    intro i hd hi k x s hx hk
    obtain ⟨k, rfl⟩ : ∃ q, k = q + 1 := ⟨k - 1, by omega⟩
    simp only [impl_ImageBytes.l0]
    rw [if_neg (by omega), List.drop_eq_nil_of_le (by omega)]
    unfold impl_Byte.f
    simp only [Option.bind_some, and255]
    rw [if_pos (by simp), if_pos (by simp; omega)]
    simp [lows, sumW]
  | succ d ih =>
    intro i hd hi k x s hx hk
    obtain ⟨k, rfl⟩ : ∃ q, k = q + 1 := ⟨k - 1, by omega⟩
    have hlt : i < m.length := by omega
    have hr := h256 _ (List.getElem_mem hlt)
    simp only [impl_ImageBytes.l0]
    obtain ⟨e, he⟩ : ∃ e : Nat, e = 256 := ⟨_, rfl⟩
    obtain ⟨k, rfl⟩ : ∃ q, k = q + e + 1 := ⟨k - (e + 1), by omega⟩
    have h1 := implIB_l1 m m[i] hr (i : Int) e 0 (by omega) (by omega) k x s (by omega)
    rw [show ((0 : Nat) : Int) = 0 from rfl] at h1
    rw [if_pos (by omega), if_pos (by omega), if_pos (by omega), rdL_nat m i hlt, h1, wrap_nat (by omega), List.drop_zero, ih (i + 1) (by omega) (by omega) k _ _ (by simp [lows]; omega) (by omega), List.drop_eq_getElem_cons hlt, List.flatten_cons, lows_append, sumW_append, List.append_assoc]
theorem imageBytes_both (m : List (List Int)) (hl : m.length ≤ 1048576) (k : Nat) (hk : 400000000 ≤ k) : ∃ r : List Int, spec_ImageBytes.f k m = some r ∧ impl_ImageBytes.f k m = some r ∧ r.length ≤ 1000000 ∧ r = if imgOk m = true then [50, 67, 76, 75, (m.length : Int) % 256, sumW m.flatten 0 % 256] ++ lows m.flatten else [] := by
  unfold spec_ImageBytes.f impl_ImageBytes.f
  rw [specImageOk m hl k hk, implImageOk m hl k (by omega)]
  simp only [Option.bind_some]
  by_cases hi : imgOk m = true
  · rw [if_pos hi, if_pos hi, if_pos hi]
    obtain ⟨hrows, h1, h8⟩ := (imgOk_iff m).1 hi
    have hr : ∀ r ∈ m, r.length = 256 := fun r hr => (hrows r hr).1
    have a := specIB_l0 m h8 hr m.length 0 (by omega) (by omega) k ([50, 67, 76, 75] ++ [(m.length : Int) % 256, 0]) 0 (by simp) (by simp; omega) (by omega)
    have b := implIB_l0 m h8 hr m.length 0 (by omega) (by omega) k [] 0 (by simp; omega) (by omega)
    rw [show ((0 : Nat) : Int) = 0 from rfl, List.drop_zero] at a b
    rw [if_pos (by simp), a, b]
    have hlen : m.flatten.length ≤ 2048 := by
      have : ∀ l : List (List Int), (∀ r ∈ l, r.length = 256) → l.flatten.length = 256 * l.length := by
        intro l
        induction l with
        | nil => intro _; rfl
        | cons p l ih => intro h; rw [List.flatten_cons, List.length_append, ih (fun r hr => h r (by simp [hr])), h p (by simp), List.length_cons]; omega
      rw [this m hr]; omega
    refine ⟨_, rfl, ?_, ?_, ?_⟩
    · simp
    · rw [List.length_set, List.length_append, lows_length]; simp only [List.length_append]; simp only [List.length_cons, List.length_nil]; omega
    · simp
  · rw [if_neg hi, if_neg hi, if_neg hi]
    exact ⟨_, rfl, rfl, by simp, rfl⟩
end LFnExactImageBytes
open LFnExactImageBytes

theorem FnExactImageBytes (l0_0 : List (List Int)) (w0_0 : l0_0.length ≤ 9223372036854775807 ∧ ∀ r ∈ l0_0, r.length ≤ 9223372036854775807) : ∃ k, (laws_FnExactImageBytes.f k l0_0) = some true := by
  obtain ⟨K, hK⟩ : ∃ K : Nat, 400000000 ≤ K := ⟨_, Nat.le_refl _⟩
  refine ⟨K, ?_⟩
  unfold laws_FnExactImageBytes.f
  obtain ⟨r, e, hr⟩ := szImage_ok l0_0 w0_0.1 w0_0.2 K (by omega)
  rw [e, Option.bind_some]
  rcases hr with rfl | ⟨h0, h1, h2, h3⟩
  · simp
  · rw [if_neg (by omega), toImage_ok l0_0 h2 h3 K (by omega)]
    obtain ⟨r1, e1, e2, hl, _⟩ := imageBytes_both l0_0 h2 K (by omega)
    obtain ⟨q, n, e3, hq⟩ := markIntSS_ok l0_0 h3 h2 K (by omega)
    simp only [Option.bind_some]
    rw [e1, e2, e3]
    simp only [Option.bind_some]
    rw [eqByteS_self r1 (by omega) K (by omega), eqImage_self l0_0 h2 h3 K (by omega), markByteS_all r1 1 (by omega) (by omega) (by omega) K (by omega)]
    simp only [Option.bind_some]
    rw [heldByteS_all r1.length 1 (by omega) (by omega) (by omega) K (by omega)]
    simp only [Option.bind_some]
    rw [if_pos (by refine ⟨?_, ?_, ?_, ?_, ?_, ?_⟩ <;> first | trivial | rfl | omega)]

end Go.Proofs.Ytmiaocoffmobcaa.Pure
