/- The program's Enter returns what the reference's returns, for every image, memory, processor and vector, in memory of its own, and leaves its arguments as they were. No condition. -/
import Derived.Test.YtmiaocoffmobcaaMFnExactEnterx0
import Derived.Test.YtmiaocoffmobcaaMFnExactEnterx1
import Derived.Test.YtmiaocoffmobcaaMFnExactEnterx2
import Derived.Test.YtmiaocoffmobcaaMFnExactEnterx3
import Derived.Test.YtmiaocoffmobcaaMFnExactEnterx4
import Derived.Test.YtmiaocoffmobcaaMFnExactEnterx5
import Derived.Test.YtmiaocoffmobcaaMFnExactEnterx6
import Derived.Laws.Bits128
namespace Go.Proofs.Ytmiaocoffmobcaa.Pure
open Go.RowKit Go.Proofs.Ytmiaocoffmobcaa.MFnExactEnter Go.Proofs.YtmiaocoffmobcaaW.PrintWords Go.Proofs.YtmiaocoffmobcaaW.PrintLast Go.Proofs.YtmiaocoffmobcaaW.PrintMore
set_option linter.unusedVariables false
set_option linter.unusedSimpArgs false
namespace LFnExactEnter
theorem and_low (n : Int) (j : Nat) (m : Int) (hj : j < 64) (hm : (BitVec.ofInt 64 m).toNat = 2 ^ j - 1) : Go.bits .and .i64 n m = n % (2 ^ j : Nat) := by
  have key : (BitVec.ofInt 64 n &&& BitVec.ofInt 64 m).toNat = (n % ((2 ^ 64 : Nat) : Int)).toNat % 2 ^ j := by
    rw [BitVec.toNat_and, BitVec.toNat_ofInt, hm, Nat.and_two_pow_sub_one_eq_mod]
  show IntKind.i64.wrap ((BitVec.ofInt 64 n &&& BitVec.ofInt 64 m).toNat : Nat) = n % (2 ^ j : Nat)
  have hd : ((2 ^ j : Nat) : Int) ∣ ((2 ^ 64 : Nat) : Int) := by
    exact_mod_cast Nat.pow_dvd_pow 2 (Nat.le_of_lt hj)
  have hp : (0 : Int) < ((2 ^ j : Nat) : Int) := by exact_mod_cast Nat.two_pow_pos j
  have hle : ((2 ^ j : Nat) : Int) ≤ ((2 ^ 63 : Nat) : Int) := by
    exact_mod_cast Nat.pow_le_pow_right (by decide) (by omega)
  have e : (((n % ((2 ^ 64 : Nat) : Int)).toNat % 2 ^ j : Nat) : Int) = n % ((2 ^ j : Nat) : Int) := by
    rw [Int.natCast_emod, Int.toNat_of_nonneg (Int.emod_nonneg _ (by decide)), Int.emod_emod_of_dvd _ hd]
  rw [key, e, IntKind.wrap_i64]
  have h0 := Int.emod_nonneg n (Int.ne_of_gt hp)
  have h1 := Int.emod_lt_of_pos n hp
  generalize n % ((2 ^ j : Nat) : Int) = x at *
  generalize ((2 ^ j : Nat) : Int) = y at *
  have : ((2 ^ 63 : Nat) : Int) = 9223372036854775808 := by decide
  omega
theorem and255 (n : Int) : Go.bits .and .i64 n 255 = n % 256 := and_low n 8 255 (by decide) (by decide)
theorem and65535 (n : Int) : Go.bits .and .i64 n 65535 = n % 65536 := and_low n 16 65535 (by decide) (by decide)
theorem wrap_small {n : Int} (h0 : -9223372036854775808 ≤ n) (h1 : n ≤ 9223372036854775807) : wrap64 n = n := by
  unfold wrap64; omega
theorem wrap_nat {i : Nat} (h : i ≤ 4611686018427387904) : wrap64 ((i : Int) + 1) = ((i + 1 : Nat) : Int) := by
  unfold wrap64; omega
theorem rd_nat (l : List Int) (i : Nat) (h : i < l.length) : rd l (i : Int) = l[i] := by
  unfold rd; simp [List.getD, h]

theorem szIntS_ok (l : List Int) (hl : l.length ≤ 9223372036854775807) (a : Int) (h0 : 0 ≤ a) (h1 : a ≤ 1048576) :
    ∃ r : Int, laws_szIntS.f l a = some r ∧ (r = -1 ∨ (0 ≤ r ∧ r ≤ a ∧ (l.length : Int) ≤ a)) := by
  unfold laws_szIntS.f
  rw [wrap_small (by omega) (by omega)]
  by_cases h : a - (l.length : Int) < 0
  · rw [if_pos h]; exact ⟨-1, rfl, .inl rfl⟩
  · rw [if_neg h]; exact ⟨_, rfl, .inr ⟨by omega, by omega, by omega⟩⟩

theorem rdL_nat (l : List (List Int)) (i : Nat) (h : i < l.length) : rd_L1 l (i : Int) = l[i] := by
  unfold rd_L1; simp [List.getD, h]
theorem rdL_mem (l : List (List Int)) (i : Nat) (h : i < l.length) : rd_L1 l (i : Int) ∈ l := by
  rw [rdL_nat l i h]; exact List.getElem_mem h

theorem szIntSS_l0 (l : List (List Int)) (hr : ∀ r ∈ l, r.length ≤ 9223372036854775807) (hl : l.length ≤ 1048576) : ∀ (k i : Nat) (a : Int), 0 ≤ a → a ≤ 1048576 → i ≤ l.length → l.length - i < k →
    ∃ r : Int, laws_szIntSS.l0 k l a (i : Int) = some r ∧ (r = -1 ∨ (0 ≤ r ∧ r ≤ a ∧ ∀ j : Nat, i ≤ j → j < l.length → ((rd_L1 l (j : Int)).length : Int) ≤ a)) := by
  intro k
  induction k with
  | zero => intro i a _ _ _ h; omega
  | succ k ih =>
    intro i a h0 h1 hi h
    simp only [laws_szIntSS.l0]
    by_cases hlt : i < l.length
    · rw [if_pos (by omega), if_pos (by omega)]
      obtain ⟨r, e, hrr⟩ := szIntS_ok (rd_L1 l (i : Int)) (hr _ (rdL_mem l i hlt)) a h0 h1
      rw [e, Option.bind_some]
      rcases hrr with rfl | ⟨g0, g1, g2⟩
      · exact ⟨-1, by simp, .inl rfl⟩
      · rw [if_neg (by omega), wrap_nat (by omega)]
        obtain ⟨q, e2, hq⟩ := ih (i + 1) r g0 (by omega) (by omega) (by omega)
        refine ⟨q, e2, ?_⟩
        rcases hq with rfl | ⟨q0, q1, q2⟩
        · exact .inl rfl
        · refine .inr ⟨q0, by omega, fun j hj hjl => ?_⟩
          rcases Nat.lt_or_ge i j with hij | hij
          · have := q2 j hij hjl; omega
          · have : j = i := by omega
            subst this
            exact g2
    · rw [if_neg (by omega)]
      exact ⟨a, rfl, .inr ⟨h0, by omega, fun j h1 h2 => by omega⟩⟩
theorem szImage_ok (l : List (List Int)) (hl : l.length ≤ 9223372036854775807) (hr : ∀ r ∈ l, r.length ≤ 9223372036854775807) (k : Nat) (hk : 2000000 ≤ k) :
    ∃ r : Int, laws_szImage.f k l 1048576 = some r ∧ (r = -1 ∨ (0 ≤ r ∧ r ≤ 1048576 ∧ l.length ≤ 1048576 ∧ ∀ r ∈ l, r.length ≤ 1048576)) := by
  unfold laws_szImage.f laws_szIntSS.f
  rw [wrap_small (by omega) (by omega)]
  by_cases h : (1048576 : Int) - (l.length : Int) < 0
  · rw [if_pos h]; exact ⟨-1, by simp, .inl rfl⟩
  · rw [if_neg h]
    obtain ⟨r, e, hq⟩ := szIntSS_l0 l hr (by omega) k 0 (1048576 - (l.length : Int)) (by omega) (by omega) (by omega) (by omega)
    rw [show ((0 : Nat) : Int) = 0 from rfl] at e
    rw [e, Option.bind_some]
    rcases hq with rfl | ⟨q0, q1, q2⟩
    · exact ⟨-1, by simp, .inl rfl⟩
    · rw [if_neg (by omega)]
      refine ⟨r, rfl, .inr ⟨q0, by omega, by omega, fun x hx => ?_⟩⟩
      obtain ⟨j, hj, rfl⟩ := List.getElem_of_mem hx
      have := q2 j (Nat.zero_le _) hj
      rw [rdL_nat l j hj] at this
      omega

theorem szMem_ok (l : List Int) (b : Int) (hl : l.length ≤ 9223372036854775807) (a : Int) (h0 : 0 ≤ a) (h1 : a ≤ 1048576) :
    ∃ r : Int, laws_szMem.f l b a = some r ∧ (r = -1 ∨ (0 ≤ r ∧ r ≤ a ∧ (l.length : Int) ≤ a)) := by
  obtain ⟨r, h, hr⟩ := szIntS_ok l hl a h0 h1
  unfold laws_szMem.f
  rw [h, Option.bind_some]
  rcases hr with rfl | hr
  · exact ⟨-1, by simp, .inl rfl⟩
  · rw [if_neg (by omega)]; exact ⟨r, rfl, .inr hr⟩

theorem toIntS_l0 (l : List Int) (hl : l.length ≤ 35184372088832) : ∀ (k i : Nat), i ≤ l.length → l.length - i < k →
    laws_toIntS.l0 k l (l.take i ++ List.replicate (l.length - i) 0) (i : Int) = some l := by
  intro k
  induction k with
  | zero => intro i _ h; omega
  | succ k ih =>
    intro i hi h
    have hlen : (l.take i ++ List.replicate (l.length - i) (0 : Int)).length = l.length := by simp; omega
    simp only [laws_toIntS.l0]
    by_cases hlt : i < l.length
    · rw [if_pos (by omega), if_pos (by omega), if_pos (by omega), wrap_nat (by omega)]
      have e1 : (l.take i ++ List.replicate (l.length - i) 0).set ((i : Int)).toNat (rd l (i : Int)) = l.take (i + 1) ++ List.replicate (l.length - (i + 1)) 0 := by
        rw [Int.toNat_natCast, List.set_append, if_neg (by rw [List.length_take]; omega), List.length_take, Nat.min_eq_left (by omega), Nat.sub_self, show l.length - i = (l.length - (i + 1)) + 1 by omega, List.replicate_succ, List.set_cons_zero, rd_nat l i hlt, List.take_succ_eq_append_getElem hlt, List.append_assoc, List.singleton_append]
      rw [e1]
      exact ih (i + 1) (by omega) (by omega)
    · have : i = l.length := by omega
      subst this
      rw [if_neg (by omega)]
      simp
theorem toIntS_ok (l : List Int) (hl : l.length ≤ 35184372088832) (k : Nat) (hk : l.length < k) : laws_toIntS.f k l = some l := by
  unfold laws_toIntS.f
  rw [if_pos (by omega), Int.toNat_natCast, if_pos hl]
  have h := toIntS_l0 l hl k 0 (by omega) (by omega)
  simpa using h

theorem toIntSS_l0 (l : List (List Int)) (hl : l.length ≤ 1048576) (hr : ∀ r ∈ l, r.length ≤ 1048576) : ∀ (k i : Nat), i ≤ l.length → l.length - i + 1048576 < k →
    laws_toIntSS.l0 k l (l.take i ++ List.replicate (l.length - i) []) (i : Int) = some l := by
  intro k
  induction k with
  | zero => intro i _ h; omega
  | succ k ih =>
    intro i hi h
    have hlen : (l.take i ++ List.replicate (l.length - i) ([] : List Int)).length = l.length := by simp; omega
    simp only [laws_toIntSS.l0]
    by_cases hlt : i < l.length
    · have hm := hr _ (rdL_mem l i hlt)
      rw [if_pos (by omega), if_pos (by omega), toIntS_ok _ (by omega) k (by omega), Option.bind_some, if_pos (by omega), wrap_nat (by omega)]
      have e1 : (l.take i ++ List.replicate (l.length - i) []).set ((i : Int)).toNat (rd_L1 l (i : Int)) = l.take (i + 1) ++ List.replicate (l.length - (i + 1)) [] := by
        rw [Int.toNat_natCast, List.set_append, if_neg (by rw [List.length_take]; omega), List.length_take, Nat.min_eq_left (by omega), Nat.sub_self, show l.length - i = (l.length - (i + 1)) + 1 by omega, List.replicate_succ, List.set_cons_zero, rdL_nat l i hlt, List.take_succ_eq_append_getElem hlt, List.append_assoc, List.singleton_append]
      rw [e1]
      exact ih (i + 1) (by omega) (by omega)
    · have : i = l.length := by omega
      subst this
      rw [if_neg (by omega)]
      simp
theorem toImage_ok (l : List (List Int)) (hl : l.length ≤ 1048576) (hr : ∀ r ∈ l, r.length ≤ 1048576) (k : Nat) (hk : 3000000 ≤ k) : laws_toImage.f k l = some l := by
  unfold laws_toImage.f laws_toIntSS.f
  rw [if_pos (by omega), Int.toNat_natCast, if_pos (by omega)]
  have h := toIntSS_l0 l hl hr k 0 (by omega) (by omega)
  simp only [List.take_zero, List.nil_append, Nat.sub_zero] at h
  rw [show ((0 : Nat) : Int) = 0 from rfl] at h
  rw [h]
  rfl

theorem toMem_ok (l : List Int) (b : Int) (hl : l.length ≤ 35184372088832) (k : Nat) (hk : l.length < k) : laws_toMem.f k l b = some (l, b) := by
  unfold laws_toMem.f
  rw [toIntS_ok l hl k hk]
  rfl

theorem eqIntS_l0 (l : List Int) (hl : l.length ≤ 140737488351232) : ∀ (k i : Nat), i ≤ l.length → l.length - i < k → laws_eqIntS.l0 k l l (i : Int) = some true := by
  intro k
  induction k with
  | zero => intro i _ h; omega
  | succ k ih =>
    intro i hi h
    simp only [laws_eqIntS.l0]
    by_cases hlt : i < l.length
    · have c1 : (i : Int) < (l.length : Int) := by omega
      have c0 : (0 : Int) ≤ (i : Int) := by omega
      simp only [c0, c1, if_true]
      rw [wrap_nat (by omega)]
      exact ih (i + 1) (by omega) (by omega)
    · rw [if_neg (by omega)]
theorem eqIntS_self (l : List Int) (hl : l.length ≤ 140737488351232) (k : Nat) (hk : l.length < k) : laws_eqIntS.f k l l = some true := by
  unfold laws_eqIntS.f
  rw [if_pos rfl]
  exact eqIntS_l0 l hl k 0 (by omega) (by omega)

theorem eqIntSS_l0 (l : List (List Int)) (hl : l.length ≤ 1048576) (hr : ∀ r ∈ l, r.length ≤ 1048576) : ∀ (k i : Nat), i ≤ l.length → l.length - i + 1048576 < k → laws_eqIntSS.l0 k l l (i : Int) = some true := by
  intro k
  induction k with
  | zero => intro i _ h; omega
  | succ k ih =>
    intro i hi h
    simp only [laws_eqIntSS.l0]
    by_cases hlt : i < l.length
    · have hm := hr _ (rdL_mem l i hlt)
      have c1 : (i : Int) < (l.length : Int) := by omega
      have c0 : (0 : Int) ≤ (i : Int) := by omega
      simp only [c0, c1, if_true]
      rw [eqIntS_self _ (by omega) k (by omega), wrap_nat (by omega)]
      simp only [Option.bind_some, if_true]
      exact ih (i + 1) (by omega) (by omega)
    · rw [if_neg (by omega)]
theorem eqImage_self (l : List (List Int)) (hl : l.length ≤ 1048576) (hr : ∀ r ∈ l, r.length ≤ 1048576) (k : Nat) (hk : 3000000 ≤ k) : laws_eqImage.f k l l = some true := by
  unfold laws_eqImage.f laws_eqIntSS.f
  have h := eqIntSS_l0 l hl hr k 0 (by omega) (by omega)
  rw [show ((0 : Nat) : Int) = 0 from rfl] at h
  rw [if_pos rfl, h]
  simp

theorem eqMem_self (l : List Int) (b : Int) (hl : l.length ≤ 140737488351232) (k : Nat) (hk : l.length < k) : laws_eqMem.f k l b l b = some true := by
  unfold laws_eqMem.f
  rw [eqIntS_self l hl k hk]
  simp

theorem eqCpu_self (a x s p : Int) (z n c i : Bool) : laws_eqCpu.f a x s p z n c i a x s p z n c i = some true := by
  unfold laws_eqCpu.f
  simp

def seqFrom (a : Int) (n : Nat) : List Int := (List.range n).map fun (j : Nat) => a + (j : Int)
theorem seqFrom_length (a : Int) (n : Nat) : (seqFrom a n).length = n := by simp [seqFrom]
theorem seqFrom_rd (a : Int) (n i : Nat) (h : i < n) : rd (seqFrom a n) (i : Int) = a + i := by
  rw [rd_nat _ _ (by simpa [seqFrom] using h)]
  simp [seqFrom]
theorem seqFrom_succ (a : Int) (n : Nat) : seqFrom a (n + 1) = seqFrom a n ++ [a + (n : Int)] := by
  simp [seqFrom, List.range_succ]

theorem markIntS_l0 (l : List Int) (a : Int) (hl : l.length ≤ 140737488351232) (ha : 0 ≤ a) (ha1 : a ≤ 140737488351232) : ∀ (k i : Nat), i ≤ l.length → l.length - i < k →
    laws_markIntS.l0 k (seqFrom a i ++ l.drop i) (a + i) (i : Int) = some (a + l.length, seqFrom a l.length) := by
  intro k
  induction k with
  | zero => intro i _ h; omega
  | succ k ih =>
    intro i hi h
    have hlen : (seqFrom a i ++ l.drop i).length = l.length := by simp [seqFrom_length]; omega
    simp only [laws_markIntS.l0]
    by_cases hlt : i < l.length
    · rw [if_pos (by omega), if_pos (by omega), wrap_nat (by omega)]
      have e1 : (seqFrom a i ++ l.drop i).set ((i : Int)).toNat (a + i) = seqFrom a (i + 1) ++ l.drop (i + 1) := by
        rw [Int.toNat_natCast, List.set_append, if_neg (by rw [seqFrom_length]; omega), seqFrom_length, Nat.sub_self, List.drop_eq_getElem_cons hlt, List.set_cons_zero, seqFrom_succ]
        simp
      have e2 : wrap64 (a + (i : Int) + 1) = a + ((i + 1 : Nat) : Int) := by unfold wrap64; omega
      rw [e1, e2]
      exact ih (i + 1) (by omega) (by omega)
    · have : i = l.length := by omega
      subst this
      rw [if_neg (by omega)]
      simp
theorem markIntS_all (l : List Int) (a : Int) (hl : l.length ≤ 140737488351232) (ha : 0 ≤ a) (ha1 : a ≤ 140737488351232) (k : Nat) (hk : l.length < k) :
    laws_markIntS.f k l a = some (a + l.length, seqFrom a l.length) := by
  have h := markIntS_l0 l a hl ha ha1 k 0 (by omega) (by omega)
  simpa [seqFrom, laws_markIntS.f] using h

/-- The sum of the rows' lengths, and the rows behind the marks: all that is asked is that there are some. -/
theorem markIntSS_l0 (k0 : Nat) : ∀ (d : Nat) (m : List (List Int)) (i : Nat) (a : Int), m.length - i = d → i ≤ m.length → (∀ r ∈ m, r.length ≤ 1048576) → m.length ≤ 1048576 → 0 ≤ a → a + 1048576 * (d : Int) ≤ 140737488351232 → ∀ k, d + 1048577 < k →
    ∃ (q : Int) (n : List (List Int)), laws_markIntSS.l0 k m a (i : Int) = some (q, n) ∧ 0 ≤ q ∧ q ≤ a + 1048576 * (d : Int) := by
  intro d
  induction d with
  | zero =>
    intro m i a hd hi _ _ ha _ k hk
    obtain ⟨k, rfl⟩ : ∃ q, k = q + 1 := ⟨k - 1, by omega⟩
    simp only [laws_markIntSS.l0]
    rw [if_neg (by omega)]
    exact ⟨a, m, rfl, ha, by omega⟩
  | succ d ih =>
    intro m i a hd hi hr hm ha hb k hk
    obtain ⟨k, rfl⟩ : ∃ q, k = q + 1 := ⟨k - 1, by omega⟩
    simp only [laws_markIntSS.l0]
    have hlt : i < m.length := by omega
    rw [if_pos (by omega), if_pos (by omega)]
    have e1 : ((i : Int)).toNat = i := by omega
    rw [e1]
    have e2 : m.getD i [] = m[i] := by simp [List.getD_eq_getElem?_getD, hlt]
    rw [e2]
    have hri : m[i].length ≤ 1048576 := hr _ (List.getElem_mem hlt)
    rw [markIntS_all m[i] a (by omega) ha (by omega) k (by omega)]
    simp only [Option.bind_some]
    rw [wrap_nat (by omega)]
    have hmem : ∀ r ∈ m.set i (seqFrom a m[i].length), r.length ≤ 1048576 := by
      intro r h
      rcases List.mem_or_eq_of_mem_set h with h | rfl
      · exact hr r h
      · simpa [seqFrom_length] using hri
    obtain ⟨q, n, e, hq0, hq1⟩ := ih (m.set i (seqFrom a m[i].length)) (i + 1) (a + m[i].length) (by simp; omega) (by simp; omega) hmem (by simpa using hm) (by omega) (by omega) k (by omega)
    exact ⟨q, n, e, hq0, by omega⟩
theorem markIntSS_ok (m : List (List Int)) (hr : ∀ r ∈ m, r.length ≤ 1048576) (hm : m.length ≤ 1048576) (k : Nat) (hk : 3000000 ≤ k) : ∃ (q : Int) (n : List (List Int)), laws_markIntSS.f k m 1 = some (q, n) ∧ 0 ≤ q ∧ q ≤ 1 + 1048576 * (m.length : Int) := by
  unfold laws_markIntSS.f
  exact markIntSS_l0 k m.length m 0 1 (by omega) (by omega) hr hm (by omega) (by omega) k (by omega)

theorem heldIntS_l0 (n : Nat) (a : Int) (hl : n ≤ 140737488351232) (ha : 0 ≤ a) (ha1 : a ≤ 140737488351232) : ∀ (k i : Nat), i ≤ n → n - i < k →
    laws_heldIntS.l0 k (seqFrom a n) (a + i) (i : Int) = some (a + n) := by
  intro k
  induction k with
  | zero => intro i _ h; omega
  | succ k ih =>
    intro i hi h
    have hlen := seqFrom_length a n
    simp only [laws_heldIntS.l0]
    by_cases hlt : i < n
    · have e2 : wrap64 (a + (i : Int) + 1) = a + ((i + 1 : Nat) : Int) := by unfold wrap64; omega
      rw [if_pos (by omega), if_pos (by omega), if_pos (seqFrom_rd a n i hlt), wrap_nat (by omega), e2]
      exact ih (i + 1) (by omega) (by omega)
    · have : i = n := by omega
      subst this
      rw [if_neg (by omega)]
theorem heldIntS_all (n : Nat) (a : Int) (hl : n ≤ 140737488351232) (ha : 0 ≤ a) (ha1 : a ≤ 140737488351232) (k : Nat) (hk : n < k) :
    laws_heldIntS.f k (seqFrom a n) a = some (a + n) := by
  have h := heldIntS_l0 n a hl ha ha1 k 0 (by omega) (by omega)
  simpa [laws_heldIntS.f] using h

theorem markMem_all (l : List Int) (b a : Int) (hl : l.length ≤ 140737488351232) (ha : 0 ≤ a) (ha1 : a ≤ 140737488351232) (k : Nat) (hk : l.length < k) :
    laws_markMem.f k l b a = some (a + l.length, seqFrom a l.length) := by
  unfold laws_markMem.f
  rw [markIntS_all l a hl ha ha1 k hk]
  rfl
theorem heldMem_all (n : Nat) (b a : Int) (hl : n ≤ 140737488351232) (ha : 0 ≤ a) (ha1 : a ≤ 140737488351232) (k : Nat) (hk : n < k) :
    laws_heldMem.f k (seqFrom a n) b a = some (a + n) := by
  unfold laws_heldMem.f
  rw [heldIntS_all n a hl ha ha1 k hk]
  simp only [Option.bind_some]
  rw [if_neg (by omega)]

theorem specCopy (l : List Int) (b : Int) (hl : l.length < 17592186044416) : spec_l6Copy.f l b = some (l, b) := by
  unfold spec_l6Copy.f
  simp only [Option.bind_some]
  rw [if_pos (by simpa using hl), List.nil_append]
theorem implCopy (l : List Int) (b : Int) (hl : l.length < 17592186044416) : impl_copyMem.f l b = some (l, b) := by
  unfold impl_copyMem.f impl_copyInts.f
  simp only [Option.bind_some]
  rw [if_pos (by simpa using hl), List.nil_append]
  rfl

theorem byteF (n : Int) : spec_Byte.f n = some (n % 256) := by
  unfold spec_Byte.f
  rw [and255]
theorem pushF_len (ram : List Int) (k : Cp) (v : Int) : (pushF ram k v).1.length = ram.length := (pushF_keeps ram k v).2
theorem pushF_P (ram : List Int) (k : Cp) (v : Int) : (pushF ram k v).2.P = k.P := by rw [(pushF_keeps ram k v).1]
theorem specPush (l : List Int) (b v : Int) (k : Cp) (hl : l.length < 17592186044416) :
    spec_Push.f l b k.A k.X k.S k.P k.Z k.N k.C k.I v = some ((pushF l k v).1, b, (pushF l k v).2.A, (pushF l k v).2.X, (pushF l k v).2.S, (pushF l k v).2.P, (pushF l k v).2.Z, (pushF l k v).2.N, (pushF l k v).2.C, (pushF l k v).2.I) := by
  unfold spec_Push.f
  rw [specCopy l b hl]
  simp only [Option.bind_some, byteF]
  unfold pushF
  by_cases h5 : l.length = 512
  · have e1 : ((l.length : Int) = 512) := by omega
    have hs0 : 0 ≤ k.S % 256 := Int.emod_nonneg _ (by decide)
    have hs1 : k.S % 256 < 256 := Int.emod_lt_of_pos _ (by decide)
    rw [if_pos e1, wrap_small (n := 256 + k.S % 256) (by omega) (by omega), if_pos (by omega), if_pos (by omega), if_pos h5]
  · have e1 : ¬ ((l.length : Int) = 512) := by omega
    rw [if_neg e1, if_neg h5]

theorem within_eq (x lo hi : Int) : impl_within.f x lo hi = some (decide (lo ≤ x ∧ x ≤ hi)) := by
  unfold impl_within.f
  split <;> simp <;> omega
theorem l1In_eq (x lo hi : Int) : spec_l1In.f x lo hi = some (decide (lo ≤ x ∧ x ≤ hi)) := by
  unfold spec_l1In.f
  split <;> simp <;> omega

def isByteB (x : Int) : Bool := decide (0 ≤ x ∧ x ≤ 255)
def imgOk (m : List (List Int)) : Bool := m.all (fun r => decide (r.length = 256) && r.all isByteB) && decide (1 ≤ (m.length : Int) ∧ (m.length : Int) ≤ 8)
theorem bytesOk_l0 (l : List Int) (hl : l.length ≤ 1048576) : ∀ (k i : Nat), i ≤ l.length → l.length - i < k → impl_bytesOk.l0 k l (l.length : Int) (i : Int) = some ((l.drop i).all isByteB) := by
  intro k
  induction k with
  | zero => intro i _ h; omega
  | succ k ih =>
    intro i hi h
    simp only [impl_bytesOk.l0]
    by_cases hlt : i < l.length
    · have c1 : (i : Int) < (l.length : Int) := by omega
      have c0 : (0 : Int) ≤ (i : Int) := by omega
      simp only [c0, c1, if_true]
      unfold impl_isByte.f
      rw [within_eq, wrap_nat (by omega), rd_nat l i hlt, List.drop_eq_getElem_cons hlt, List.all_cons]
      simp only [Option.bind_some]
      rw [ih (i + 1) (by omega) (by omega)]
      by_cases hb : 0 ≤ l[i] ∧ l[i] ≤ 255
      · simp [isByteB, hb]
      · simp [isByteB, hb]
    · have : i = l.length := by omega
      subst this
      rw [if_neg (by omega)]
      simp
theorem bytesOk_ok (l : List Int) (hl : l.length ≤ 1048576) (k : Nat) (hk : l.length < k) : impl_bytesOk.f k l = some (l.all isByteB) := by
  have h := bytesOk_l0 l hl k 0 (by omega) (by omega)
  simpa [impl_bytesOk.f] using h
theorem implImageOk_l0 (m : List (List Int)) (hl : m.length ≤ 1048576) : ∀ (k i : Nat), i ≤ m.length → m.length - i + 300 < k →
    impl_ImageOk.l0 k m (m.length : Int) (i : Int) m = some ((m.drop i).all (fun r => decide (r.length = 256) && r.all isByteB) && decide (1 ≤ (m.length : Int) ∧ (m.length : Int) ≤ 8)) := by
  intro k
  induction k with
  | zero => intro i _ h; omega
  | succ k ih =>
    intro i hi h
    simp only [impl_ImageOk.l0]
    by_cases hlt : i < m.length
    · have c1 : (i : Int) < (m.length : Int) := by omega
      have c0 : (0 : Int) ≤ (i : Int) := by omega
      simp only [c0, c1, if_true]
      rw [rdL_nat m i hlt, List.drop_eq_getElem_cons hlt, List.all_cons]
      by_cases h256 : m[i].length = 256
      · have e : ((m[i].length : Int) = 256) := by omega
        rw [if_pos e, bytesOk_ok _ (by omega) k (by omega)]
        simp only [Option.bind_some]
        rw [wrap_nat (by omega), ih (i + 1) (by omega) (by omega)]
        cases hb : m[i].all isByteB <;> simp [h256]
      · have e : ¬ ((m[i].length : Int) = 256) := by omega
        rw [if_neg e]
        simp [h256]
    · have : i = m.length := by omega
      subst this
      rw [if_neg (by omega), within_eq]
      simp
theorem implImageOk (m : List (List Int)) (hl : m.length ≤ 1048576) (k : Nat) (hk : 2000000 ≤ k) : impl_ImageOk.f k m = some (imgOk m) := by
  have h := implImageOk_l0 m hl k 0 (by omega) (by omega)
  simpa [impl_ImageOk.f, imgOk] using h
theorem specImageOk_l1 (m : List (List Int)) (i : Nat) (hlt : i < m.length) (h256 : m[i].length = 256) (k0 : Nat) (v : Bool) (hnext : ∀ k, k0 < k → spec_ImageOk.l0 k (wrap64 ((i : Int) + 1)) m = some v) : ∀ (k j : Nat), j ≤ 256 → 256 - j + k0 + 1 < k →
    spec_ImageOk.l1 k (i : Int) (j : Int) m = some ((m[i].drop j).all isByteB && v) := by
  intro k
  induction k with
  | zero => intro j _ h; omega
  | succ k ih =>
    intro j hj h
    simp only [spec_ImageOk.l1]
    by_cases hjl : j < 256
    · have c1 : (i : Int) < (m.length : Int) := by omega
      have c0 : (0 : Int) ≤ (i : Int) := by omega
      have c2 : (0 : Int) ≤ (j : Int) := by omega
      have c3 : (j : Int) < 256 := by omega
      have c4 : (j : Int) < (m[i].length : Int) := by omega
      simp only [c0, c1, c2, c3, if_true]
      rw [rdL_nat m i hlt]
      simp only [c4, if_true]
      rw [l1In_eq, rd_nat _ j (by omega), wrap_nat (by omega), List.drop_eq_getElem_cons (show j < m[i].length by omega), List.all_cons]
      simp only [Option.bind_some]
      rw [ih (j + 1) (by omega) (by omega)]
      by_cases hb : 0 ≤ m[i][j] ∧ m[i][j] ≤ 255
      · simp [isByteB, hb]
      · simp [isByteB, hb]
    · rw [if_neg (by omega), hnext k (by omega), List.drop_eq_nil_of_le (by omega)]
      simp
theorem specImageOk_l0 (m : List (List Int)) (hl : m.length ≤ 1048576) : ∀ (d i : Nat), i ≤ m.length → m.length - i = d → ∀ k, d * 300 + 10 < k →
    spec_ImageOk.l0 k (i : Int) m = some ((m.drop i).all (fun r => decide (r.length = 256) && r.all isByteB) && decide (1 ≤ (m.length : Int) ∧ (m.length : Int) ≤ 8)) := by
  intro d
  induction d with
  | zero =>
    intro i hi hd k hk
    obtain ⟨k, rfl⟩ : ∃ q, k = q + 1 := ⟨k - 1, by omega⟩
    have : i = m.length := by omega
    subst this
    simp only [spec_ImageOk.l0]
    rw [if_neg (by omega), l1In_eq]
    simp
  | succ d ih =>
    intro i hi hd k hk
    obtain ⟨k, rfl⟩ : ∃ q, k = q + 1 := ⟨k - 1, by omega⟩
    have hlt : i < m.length := by omega
    have c1 : (i : Int) < (m.length : Int) := by omega
    have c0 : (0 : Int) ≤ (i : Int) := by omega
    simp only [spec_ImageOk.l0, c0, c1, if_true]
    rw [rdL_nat m i hlt, List.drop_eq_getElem_cons hlt, List.all_cons]
    by_cases h256 : m[i].length = 256
    · have e : ((m[i].length : Int) = 256) := by omega
      rw [if_pos e]
      have hn := ih (i + 1) (by omega) (by omega)
      have h1 := specImageOk_l1 m i hlt h256 (d * 300 + 10) _ (fun k hk => by rw [wrap_nat (by omega)]; exact hn k hk) k 0 (by omega) (by omega)
      rw [show ((0 : Nat) : Int) = 0 from rfl] at h1
      rw [h1]
      simp [h256, Bool.and_assoc]
    · have e : ¬ ((m[i].length : Int) = 256) := by omega
      rw [if_neg e]
      simp [h256]
theorem specImageOk (m : List (List Int)) (hl : m.length ≤ 1048576) (k : Nat) (hk : 400000000 ≤ k) : spec_ImageOk.f k m = some (imgOk m) := by
  have h := specImageOk_l0 m hl m.length 0 (by omega) (by omega) k (by omega)
  simpa [spec_ImageOk.f, imgOk] using h
theorem imgOk_iff (m : List (List Int)) : imgOk m = true ↔ ((∀ r ∈ m, r.length = 256 ∧ ∀ x ∈ r, 0 ≤ x ∧ x ≤ 255) ∧ 1 ≤ m.length ∧ m.length ≤ 8) := by
  unfold imgOk isByteB
  simp only [Bool.and_eq_true, List.all_eq_true, decide_eq_true_eq]
  constructor
  · rintro ⟨h, h1, h2⟩
    exact ⟨fun r hr => h r hr, by omega, by omega⟩
  · rintro ⟨h, h1, h2⟩
    exact ⟨fun r hr => h r hr, by omega, by omega⟩

def memOk (m : List (List Int)) (r : List Int) (b : Int) : Bool := imgOk m && (decide (r.length = 512) && (r.all isByteB && decide (0 ≤ b ∧ b ≤ (m.length : Int) - 1)))
theorem implMemOk (m : List (List Int)) (r : List Int) (b : Int) (hl : m.length ≤ 1048576) (k : Nat) (hk : 2000000 ≤ k) : impl_MemOk.f k m r b = some (memOk m r b) := by
  unfold impl_MemOk.f memOk
  rw [implImageOk m hl k hk, Option.bind_some]
  by_cases hi : imgOk m = true
  · rw [if_pos hi, hi]
    by_cases h5 : r.length = 512
    · rw [if_pos (by omega), bytesOk_ok r (by omega) k (by omega), Option.bind_some]
      by_cases hb : r.all isByteB = true
      · rw [if_pos hb, hb, within_eq, wrap_small (by omega) (by omega)]
        simp [h5]
      · rw [if_neg hb, Bool.eq_false_iff.mpr hb]
        simp
    · rw [if_neg (by omega)]
      simp [h5]
  · rw [if_neg hi, Bool.eq_false_iff.mpr hi]
    rfl
theorem specMemOk_l0 (r : List Int) (b : Int) (h5 : r.length = 512) : ∀ (k i : Nat), i ≤ 512 → 512 - i < k → spec_MemOk.l0 k (i : Int) r b = some ((r.drop i).all isByteB) := by
  intro k
  induction k with
  | zero => intro i _ h; omega
  | succ k ih =>
    intro i hi h
    simp only [spec_MemOk.l0]
    by_cases hlt : i < 512
    · have c0 : (0 : Int) ≤ (i : Int) := by omega
      have c1 : (i : Int) < 512 := by omega
      have c2 : (i : Int) < (r.length : Int) := by omega
      simp only [c0, c1, c2, if_true]
      unfold spec_l5Byte.f
      rw [l1In_eq, rd_nat r i (by omega), wrap_nat (by omega), List.drop_eq_getElem_cons (show i < r.length by omega), List.all_cons]
      simp only [Option.bind_some]
      rw [ih (i + 1) (by omega) (by omega)]
      by_cases hb : 0 ≤ r[i] ∧ r[i] ≤ 255
      · simp [isByteB, hb]
      · simp [isByteB, hb]
    · rw [if_neg (by omega), List.drop_eq_nil_of_le (by omega)]
      simp
theorem specMemOk (m : List (List Int)) (r : List Int) (b : Int) (hl : m.length ≤ 1048576) (k : Nat) (hk : 400000000 ≤ k) : spec_MemOk.f k m r b = some (memOk m r b) := by
  obtain ⟨q, rfl⟩ : ∃ q, k = q + 1 := ⟨k - 1, by omega⟩
  unfold spec_MemOk.f memOk
  rw [specImageOk m hl _ hk, Option.bind_some]
  by_cases hi : imgOk m = true
  · rw [if_pos hi, hi]
    by_cases h5 : r.length = 512
    · rw [if_pos (by omega), l1In_eq, wrap_small (by omega) (by omega), Option.bind_some]
      simp only [spec_MemOk.j0]
      by_cases hb : 0 ≤ b ∧ b ≤ (m.length : Int) - 1
      · have h := specMemOk_l0 r b h5 q 0 (by omega) (by omega)
        rw [show ((0 : Nat) : Int) = 0 from rfl] at h
        simp [hb, h5, h]
      · have e : decide (0 ≤ b ∧ b ≤ (m.length : Int) - 1) = false := decide_eq_false hb
        rw [e]
        simp
    · rw [if_neg (by omega)]
      simp [spec_MemOk.j0, h5]
  · rw [if_neg hi, Bool.eq_false_iff.mpr hi]
    simp [spec_MemOk.j0]
theorem memOk_iff (m : List (List Int)) (r : List Int) (b : Int) : memOk m r b = true ↔ (imgOk m = true ∧ r.length = 512 ∧ (∀ x ∈ r, 0 ≤ x ∧ x ≤ 255) ∧ 0 ≤ b ∧ b < m.length) := by
  unfold memOk isByteB
  simp only [Bool.and_eq_true, List.all_eq_true, decide_eq_true_eq]
  constructor
  · rintro ⟨h1, h2, h3, h4, h5⟩
    exact ⟨h1, h2, h3, h4, by omega⟩
  · rintro ⟨h1, h2, h3, h4, h5⟩
    exact ⟨h1, h2, h3, h4, by omega⟩

def rgn (a : Int) : Int := if a % 65536 < 8192 then 1 else if a % 65536 < 16384 then 2 else if a % 65536 < 16388 then 3 else if a % 65536 = 16406 then 4 else if a % 65536 < 32768 then 7 else if a % 65536 < 49152 then 5 else 6
def prt (a : Int) : Int := if a % 65536 < 8192 then a % 65536 % 512 else if a % 65536 < 16384 then a % 65536 % 8 else if a % 65536 < 16388 then a % 65536 % 4 else if a % 65536 = 16406 then 0 else if a % 65536 < 32768 then 0 else a % 65536 % 256
theorem region_ok (a : Int) : impl_Region.f a = some (rgn a, prt a) := by
  have h0 := Int.emod_nonneg a (b := 65536) (by decide)
  unfold impl_Region.f impl_Addr.f rgn prt
  rw [and65535, Option.bind_some]
  generalize a % 65536 = x at *
  simp only [Int.tmod_eq_emod_of_nonneg h0]
  by_cases h1 : x < 8192
  · simp [h1]
  · by_cases h2 : x < 16384
    · simp [h1, h2]
    · by_cases h3 : x < 16388
      · simp [h1, h2, h3]
      · by_cases h4 : x = 16406
        · simp [h4]
        · by_cases h5 : x < 32768
          · simp [h1, h2, h3, h4, h5]
          · by_cases h6 : x < 49152
            · simp [h1, h2, h3, h4, h5, h6]
            · simp [h1, h2, h3, h4, h5, h6]
theorem specRegion (a : Int) : spec_Region.f a = impl_Region.f a := rfl
theorem prt_bound (a : Int) : 0 ≤ prt a ∧ prt a < 512 ∧ (rgn a = 5 ∨ rgn a = 6 → prt a < 256) := by
  have h0 := Int.emod_nonneg a (b := 65536) (by decide)
  have h1 := Int.emod_lt_of_pos a (b := 65536) (by decide)
  unfold prt rgn
  generalize a % 65536 = x at *
  repeat' split
  all_goals omega

def peekV (m : List (List Int)) (r : List Int) (b : Int) (a : Int) : Int := if rgn a = 1 then rd r (prt a) else if rgn a = 5 then rd (rd_L1 m b) (prt a) else if rgn a = 6 then rd (rd_L1 m ((m.length : Int) - 1)) (prt a) else 0
theorem rdL_int (m : List (List Int)) (i : Int) (h0 : 0 ≤ i) (h1 : i < m.length) : rd_L1 m i ∈ m := by
  obtain ⟨j, rfl⟩ := Int.eq_ofNat_of_zero_le h0
  exact rdL_mem m j (by omega)
theorem rd_int (l : List Int) (i : Int) (h0 : 0 ≤ i) (h1 : i < l.length) : rd l i ∈ l := by
  obtain ⟨j, rfl⟩ := Int.eq_ofNat_of_zero_le h0
  rw [rd_nat l j (by omega)]
  exact List.getElem_mem _
theorem peek_ok (m : List (List Int)) (r : List Int) (b a : Int) (h : memOk m r b = true) : impl_peek.f m r b a = some (peekV m r b a) ∧ 0 ≤ peekV m r b a ∧ peekV m r b a ≤ 255 := by
  obtain ⟨hi, h5, hr, hb0, hb1⟩ := (memOk_iff m r b).1 h
  obtain ⟨hm, hm0, hm1⟩ := (imgOk_iff m).1 hi
  obtain ⟨p0, p1, p2⟩ := prt_bound a
  have hlast : wrap64 ((m.length : Int) - 1) = (m.length : Int) - 1 := wrap_small (by omega) (by omega)
  unfold impl_peek.f peekV
  rw [region_ok, Option.bind_some, hlast]
  simp only
  by_cases e1 : rgn a = 1
  · rw [if_pos e1, if_pos p0, if_pos (by omega), if_pos e1]
    exact ⟨rfl, hr _ (rd_int r _ p0 (by omega))⟩
  · rw [if_neg e1, if_neg e1]
    by_cases e5 : rgn a = 5
    · have hin := rdL_int m b hb0 hb1
      have hl := (hm _ hin).1
      rw [if_pos e5, if_pos hb0, if_pos (by omega), if_pos p0, if_pos (by have := p2 (.inl e5); omega), if_pos e5]
      exact ⟨rfl, (hm _ hin).2 _ (rd_int _ _ p0 (by have := p2 (.inl e5); omega))⟩
    · rw [if_neg e5, if_neg e5]
      by_cases e6 : rgn a = 6
      · have hin := rdL_int m ((m.length : Int) - 1) (by omega) (by omega)
        have hl := (hm _ hin).1
        rw [if_pos e6, if_pos (by omega), if_pos (by omega), if_pos p0, if_pos (by have := p2 (.inr e6); omega), if_pos e6]
        exact ⟨rfl, (hm _ hin).2 _ (rd_int _ _ p0 (by have := p2 (.inr e6); omega))⟩
      · rw [if_neg e6, if_neg e6]
        simp
theorem specPeek1 (m : List (List Int)) (r : List Int) (b a : Int) : spec_l6Peek.f m r b a = impl_peek.f m r b a := rfl
def peekT (m : List (List Int)) (r : List Int) (b a : Int) : Int := if memOk m r b = true then peekV m r b a else 0
theorem specPeek (m : List (List Int)) (r : List Int) (b a : Int) (hl : m.length ≤ 1048576) (k : Nat) (hk : 400000000 ≤ k) : spec_Peek.f k m r b a = some (peekT m r b a) := by
  unfold spec_Peek.f peekT
  rw [specMemOk m r b hl k hk, Option.bind_some]
  by_cases h : memOk m r b = true
  · rw [if_pos h, if_pos h, specPeek1, (peek_ok m r b a h).1]
    rfl
  · rw [if_neg h, if_neg h]
theorem peekT_byte (m : List (List Int)) (r : List Int) (b a : Int) : 0 ≤ peekT m r b a ∧ peekT m r b a ≤ 255 := by
  unfold peekT
  split
  · exact (peek_ok m r b a ‹_›).2
  · decide

theorem implPeek (m : List (List Int)) (r : List Int) (b a : Int) (hl : m.length ≤ 1048576) (k : Nat) (hk : 2000000 ≤ k) : impl_Peek.f k m r b a = some (peekT m r b a) := by
  unfold impl_Peek.f peekT
  rw [implMemOk m r b hl k hk, Option.bind_some]
  by_cases h : memOk m r b = true
  · rw [if_pos h, if_pos h, (peek_ok m r b a h).1]
    rfl
  · rw [if_neg h, if_neg h]

theorem implJoin (a b : Int) : impl_Join.f a b = some (a % 256 + 256 * (b % 256)) := by
  unfold impl_Join.f impl_Byte.f
  simp only [Option.bind_some, and255]
  rw [wrap_small (n := 256 * (b % 256)) (by omega) (by omega), wrap_small (by omega) (by omega)]

theorem specJoin (a b : Int) : spec_Join.f a b = some (a % 256 + 256 * (b % 256)) := implJoin a b

theorem flags_both (a x s p : Int) (z n c i : Bool) : ∃ r : Int, spec_Flags.f a x s p z n c i = some r ∧ impl_Flags.f a x s p z n c i = some r := by
  have key : ∀ z n c i : Bool, spec_Flags.f 0 0 0 0 z n c i = impl_Flags.f 0 0 0 0 z n c i := by decide +kernel
  have e : spec_Flags.f a x s p z n c i = impl_Flags.f a x s p z n c i := key z n c i
  have h : ∃ r, impl_Flags.f a x s p z n c i = some r := by
    unfold impl_Flags.f impl_flag.f
    cases z <;> cases n <;> cases c <;> cases i <;> exact ⟨_, rfl⟩
  obtain ⟨r, h⟩ := h
  exact ⟨r, e.trans h, h⟩

theorem implVectorOf (m : List (List Int)) (r : List Int) (b a : Int) (hl : m.length ≤ 1048576) (k : Nat) (hk : 2000000 ≤ k) : impl_vectorOf.f k m r b a = some (peekT m r b a % 256 + 256 * (peekT m r b (wrap64 (a + 1)) % 256)) := by
  unfold impl_vectorOf.f
  rw [implPeek m r b a hl k hk, Option.bind_some, implPeek m r b _ hl k hk, Option.bind_some, implJoin]
  rfl
theorem enter_both (m : List (List Int)) (l : List Int) (b : Int) (c : Cp) (vec : Int) (hm : m.length ≤ 1048576) (hl : l.length < 17592186044416) (k : Nat) (hk : 400000000 ≤ k) :
    ∃ r : List Int × Int × Int × Int × Int × Int × Bool × Bool × Bool × Bool, spec_Enter.f k m l b c.A c.X c.S c.P c.Z c.N c.C c.I vec = some r ∧ impl_Enter.f k m l b c.A c.X c.S c.P c.Z c.N c.C c.I vec = some r ∧ r.1.length = l.length := by
  obtain ⟨fl, f1, f2⟩ := flags_both c.A c.X c.S c.P c.Z c.N c.C c.I
  have hq1 := pushF_len l c (c.P / 256)
  have hq2 := pushF_len (pushF l c (c.P / 256)).1 (pushF l c (c.P / 256)).2 c.P
  have e0 : (pushPcF l c).2 = { c with S := (pushPcF l c).2.S } := by
    unfold pushPcF
    rw [(pushF_keeps _ _ _).1, (pushF_keeps l c _).1]
  have hfl : impl_Flags.f (pushPcF l c).2.A (pushPcF l c).2.X (pushPcF l c).2.S (pushPcF l c).2.P (pushPcF l c).2.Z (pushPcF l c).2.N (pushPcF l c).2.C (pushPcF l c).2.I = some fl := by
    rw [← f2, e0]
    rfl
  have hlen : (pushF (pushPcF l c).1 (pushPcF l c).2 fl).1.length = l.length := by
    rw [pushF_len]
    unfold pushPcF
    rw [pushF_len, pushF_len]
  obtain ⟨pc, hpc⟩ : ∃ pc, pc = peekT m (pushF (pushPcF l c).1 (pushPcF l c).2 fl).1 b vec % 256 + 256 * (peekT m (pushF (pushPcF l c).1 (pushPcF l c).2 fl).1 b (wrap64 (vec + 1)) % 256) := ⟨_, rfl⟩
  have hsp := implVectorOf m (pushF (pushPcF l c).1 (pushPcF l c).2 fl).1 b vec hm k (by omega)
  rw [← hpc] at hsp
  refine ⟨((enterF l c fl pc).1, b, (enterF l c fl pc).2.A, (enterF l c fl pc).2.X, (enterF l c fl pc).2.S, (enterF l c fl pc).2.P, (enterF l c fl pc).2.Z, (enterF l c fl pc).2.N, (enterF l c fl pc).2.C, (enterF l c fl pc).2.I), ?_, ?_, hlen⟩
  rotate_left
  · unfold impl_Enter.f
    rw [implCopy l b hl, Option.bind_some]
    simp only
    rw [hfl, Option.bind_some, hsp, Option.bind_some]
  · unfold spec_Enter.f
    rw [specCopy l b hl, Option.bind_some]
    simp only
    rw [f1, Option.bind_some, specPush l b (c.P / 256) c hl, Option.bind_some]
    simp only
    rw [specPush _ b _ (pushF l c (c.P / 256)).2 (by omega), Option.bind_some]
    simp only
    rw [pushF_P l c (c.P / 256)]
    rw [specPush _ b fl (pushF (pushF l c (c.P / 256)).1 (pushF l c (c.P / 256)).2 c.P).2 (by omega), Option.bind_some]
    simp only
    rw [specPeek m _ b vec hm k hk, Option.bind_some, specPeek m _ b _ hm k hk, Option.bind_some, specJoin, Option.bind_some, hpc]
    rfl
end LFnExactEnter
open LFnExactEnter

theorem FnExactEnter (l0_0 : List (List Int)) (l1_0 : List Int) (a1_1 : Int) (a2_0 : Int) (a2_1 : Int) (a2_2 : Int) (a2_3 : Int) (a2_4 : Bool) (a2_5 : Bool) (a2_6 : Bool) (a2_7 : Bool) (a3 : Int) (w0_0 : l0_0.length ≤ 9223372036854775807 ∧ ∀ r ∈ l0_0, r.length ≤ 9223372036854775807) (w1_0 : l1_0.length ≤ 9223372036854775807) (w1_1 : (Lit.int .i64 a1_1).wf = true) (w2_0 : (Lit.int .i64 a2_0).wf = true) (w2_1 : (Lit.int .i64 a2_1).wf = true) (w2_2 : (Lit.int .i64 a2_2).wf = true) (w2_3 : (Lit.int .i64 a2_3).wf = true) (w3 : (Lit.int .i64 a3).wf = true) : ∃ k, (laws_FnExactEnter.f k l0_0 l1_0 a1_1 a2_0 a2_1 a2_2 a2_3 a2_4 a2_5 a2_6 a2_7 a3) = some true := by
  obtain ⟨K, hK⟩ : ∃ K : Nat, 400000000 ≤ K := ⟨_, Nat.le_refl _⟩
  refine ⟨K, ?_⟩
  unfold laws_FnExactEnter.f
  obtain ⟨r, e, hr⟩ := szImage_ok l0_0 w0_0.1 w0_0.2 K (by omega)
  rw [e, Option.bind_some]
  rcases hr with rfl | ⟨h0, h1, h2, h3⟩
  · simp
  · rw [if_neg (by omega)]
    obtain ⟨q, e2, hq⟩ := szMem_ok l1_0 a1_1 w1_0 r h0 h1
    rw [e2, Option.bind_some]
    rcases hq with rfl | ⟨g0, g1, g2⟩
    · simp
    · rw [if_neg (by omega), toImage_ok l0_0 h2 h3 K (by omega), toMem_ok l1_0 a1_1 (by omega) K (by omega)]
      unfold laws_toCpu.f
      simp only [Option.bind_some]
      obtain ⟨⟨r1, r2, r3, r4, r5, r6, r7, r8, r9, r10⟩, e3, e4, hl⟩ := enter_both l0_0 l1_0 a1_1 ⟨a2_0, a2_1, a2_2, a2_3, a2_4, a2_5, a2_6, a2_7⟩ a3 h2 (by omega) K (by omega)
      obtain ⟨q1, n1, e5, hq0, hq1⟩ := markIntSS_ok l0_0 h3 h2 K (by omega)
      have hl' : r1.length = l1_0.length := hl
      rw [e3, e4, e5]
      simp only [Option.bind_some]
      rw [eqMem_self r1 r2 (by omega) K (by omega), eqCpu_self, eqImage_self l0_0 h2 h3 K (by omega), eqMem_self l1_0 a1_1 (by omega) K (by omega), markMem_all l1_0 a1_1 q1 (by omega) (by omega) (by omega) K (by omega), markMem_all r1 r2 1 (by omega) (by omega) (by omega) K (by omega)]
      simp only [Option.bind_some]
      rw [heldMem_all r1.length r2 1 (by omega) (by omega) (by omega) K (by omega)]
      simp only [Option.bind_some]
      rw [if_pos (by refine ⟨?_, ?_, ?_, ?_, ?_, ?_, ?_, ?_⟩ <;> first | trivial | rfl | omega)]

end Go.Proofs.Ytmiaocoffmobcaa.Pure
