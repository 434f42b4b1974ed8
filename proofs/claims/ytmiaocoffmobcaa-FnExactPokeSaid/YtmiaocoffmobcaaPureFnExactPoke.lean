/- The program's Poke returns what the reference's returns, for every image, memory, address and number, in memory of its own, and leaves its arguments as they were. No condition. -/
import Derived.Test.YtmiaocoffmobcaaMFnExactPokex0
import Derived.Test.YtmiaocoffmobcaaMFnExactPokex1
import Derived.Test.YtmiaocoffmobcaaMFnExactPokex2
import Derived.Test.YtmiaocoffmobcaaMFnExactPokex3
import Derived.Test.YtmiaocoffmobcaaMFnExactPokex4
import Derived.Laws.Bits128
namespace Go.Proofs.Ytmiaocoffmobcaa.Pure
open Go.RowKit Go.Proofs.Ytmiaocoffmobcaa.MFnExactPoke Go.Proofs.YtmiaocoffmobcaaW.PrintWords Go.Proofs.YtmiaocoffmobcaaW.PrintLast Go.Proofs.YtmiaocoffmobcaaW.PrintMore
set_option linter.unusedVariables false
set_option linter.unusedSimpArgs false
namespace LFnExactPoke
theorem and_low (n : Int) (j : Nat) (m : Int) (hj : j < 64) (hm : (BitVec.ofInt 64 m).toNat = 2 ^ j - 1) : Go.bits .and .i64 n m = n % (2 ^ j : Nat) := by
  have key : (BitVec.ofInt 64 n &&& BitVec.ofInt 64 m).toNat = (n % ((2 ^ 64 : Nat) : Int)).toNat % 2 ^ j := by
    rw [BitVec.toNat_and, BitVec.toNat_ofInt, hm, Nat.and_two_pow_sub_one_eq_mod]
  show IntKind.i64.wrap ((BitVec.ofInt 64 n &&& BitVec.ofInt 64 m).toNat : Nat) = n % (2 ^ j : Nat)
  have hd : ((2 ^ j : Nat) : Int) ∣ ((2 ^ 64 : Nat) : Int) := by
    exact_mod_cast Nat.pow_dvd_pow 2 (Nat.le_of_lt hj)
  have hp : (0 : Int) < ((2 ^ j : Nat) : Int) := by exact_mod_cast Nat.two_pow_pos j
  have hle : ((2 ^ j : Nat) : Int) ≤ ((2 ^ 63 : Nat) : Int) := by
    exact_mod_cast Nat.pow_le_pow_right (by decide) (by omega)
  have e : (((n % ((2 ^ 64 : Nat) : Int)).toNat % 2 ^ j : Nat) : Int) = n % ((2 ^ j : Nat) : Int) := by
    rw [Int.natCast_emod, Int.toNat_of_nonneg (Int.emod_nonneg _ (by decide)), Int.emod_emod_of_dvd _ hd]
  rw [key, e, IntKind.wrap_i64]
  have h0 := Int.emod_nonneg n (Int.ne_of_gt hp)
  have h1 := Int.emod_lt_of_pos n hp
  generalize n % ((2 ^ j : Nat) : Int) = x at *
  generalize ((2 ^ j : Nat) : Int) = y at *
  have : ((2 ^ 63 : Nat) : Int) = 9223372036854775808 := by decide
  omega
theorem and255 (n : Int) : Go.bits .and .i64 n 255 = n % 256 := and_low n 8 255 (by decide) (by decide)
theorem and65535 (n : Int) : Go.bits .and .i64 n 65535 = n % 65536 := and_low n 16 65535 (by decide) (by decide)
theorem wrap_small {n : Int} (h0 : -9223372036854775808 ≤ n) (h1 : n ≤ 9223372036854775807) : wrap64 n = n := by
  unfold wrap64; omega
theorem wrap_nat {i : Nat} (h : i ≤ 4611686018427387904) : wrap64 ((i : Int) + 1) = ((i + 1 : Nat) : Int) := by
  unfold wrap64; omega
theorem rd_nat (l : List Int) (i : Nat) (h : i < l.length) : rd l (i : Int) = l[i] := by
  unfold rd; simp [List.getD, h]

theorem szIntS_ok (l : List Int) (hl : l.length ≤ 9223372036854775807) (a : Int) (h0 : 0 ≤ a) (h1 : a ≤ 1048576) :
    ∃ r : Int, laws_szIntS.f l a = some r ∧ (r = -1 ∨ (0 ≤ r ∧ r ≤ a ∧ (l.length : Int) ≤ a)) := by
  unfold laws_szIntS.f
  rw [wrap_small (by omega) (by omega)]
  by_cases h : a - (l.length : Int) < 0
  · rw [if_pos h]; exact ⟨-1, rfl, .inl rfl⟩
  · rw [if_neg h]; exact ⟨_, rfl, .inr ⟨by omega, by omega, by omega⟩⟩

theorem rdL_nat (l : List (List Int)) (i : Nat) (h : i < l.length) : rd_L1 l (i : Int) = l[i] := by
  unfold rd_L1; simp [List.getD, h]
theorem rdL_mem (l : List (List Int)) (i : Nat) (h : i < l.length) : rd_L1 l (i : Int) ∈ l := by
  rw [rdL_nat l i h]; exact List.getElem_mem h

theorem szIntSS_l0 (l : List (List Int)) (hr : ∀ r ∈ l, r.length ≤ 9223372036854775807) (hl : l.length ≤ 1048576) : ∀ (k i : Nat) (a : Int), 0 ≤ a → a ≤ 1048576 → i ≤ l.length → l.length - i < k →
    ∃ r : Int, laws_szIntSS.l0 k l a (i : Int) = some r ∧ (r = -1 ∨ (0 ≤ r ∧ r ≤ a ∧ ∀ j : Nat, i ≤ j → j < l.length → ((rd_L1 l (j : Int)).length : Int) ≤ a)) := by
  intro k
  induction k with
  | zero => intro i a _ _ _ h; omega
  | succ k ih =>
    intro i a h0 h1 hi h
    simp only [laws_szIntSS.l0]
    by_cases hlt : i < l.length
    · rw [if_pos (by omega), if_pos (by omega)]
      obtain ⟨r, e, hrr⟩ := szIntS_ok (rd_L1 l (i : Int)) (hr _ (rdL_mem l i hlt)) a h0 h1
      rw [e, Option.bind_some]
      rcases hrr with rfl | ⟨g0, g1, g2⟩
      · exact ⟨-1, by simp, .inl rfl⟩
      · rw [if_neg (by omega), wrap_nat (by omega)]
        obtain ⟨q, e2, hq⟩ := ih (i + 1) r g0 (by omega) (by omega) (by omega)
        refine ⟨q, e2, ?_⟩
        rcases hq with rfl | ⟨q0, q1, q2⟩
        · exact .inl rfl
        · refine .inr ⟨q0, by omega, fun j hj hjl => ?_⟩
          rcases Nat.lt_or_ge i j with hij | hij
          · have := q2 j hij hjl; omega
          · have : j = i := by omega
            subst this
            exact g2
    · rw [if_neg (by omega)]
      exact ⟨a, rfl, .inr ⟨h0, by omega, fun j h1 h2 => by omega⟩⟩
theorem szImage_ok (l : List (List Int)) (hl : l.length ≤ 9223372036854775807) (hr : ∀ r ∈ l, r.length ≤ 9223372036854775807) (k : Nat) (hk : 2000000 ≤ k) :
    ∃ r : Int, laws_szImage.f k l 1048576 = some r ∧ (r = -1 ∨ (0 ≤ r ∧ r ≤ 1048576 ∧ l.length ≤ 1048576 ∧ ∀ r ∈ l, r.length ≤ 1048576)) := by
  unfold laws_szImage.f laws_szIntSS.f
  rw [wrap_small (by omega) (by omega)]
  by_cases h : (1048576 : Int) - (l.length : Int) < 0
  · rw [if_pos h]; exact ⟨-1, by simp, .inl rfl⟩
  · rw [if_neg h]
    obtain ⟨r, e, hq⟩ := szIntSS_l0 l hr (by omega) k 0 (1048576 - (l.length : Int)) (by omega) (by omega) (by omega) (by omega)
    rw [show ((0 : Nat) : Int) = 0 from rfl] at e
    rw [e, Option.bind_some]
    rcases hq with rfl | ⟨q0, q1, q2⟩
    · exact ⟨-1, by simp, .inl rfl⟩
    · rw [if_neg (by omega)]
      refine ⟨r, rfl, .inr ⟨q0, by omega, by omega, fun x hx => ?_⟩⟩
      obtain ⟨j, hj, rfl⟩ := List.getElem_of_mem hx
      have := q2 j (Nat.zero_le _) hj
      rw [rdL_nat l j hj] at this
      omega

theorem szMem_ok (l : List Int) (b : Int) (hl : l.length ≤ 9223372036854775807) (a : Int) (h0 : 0 ≤ a) (h1 : a ≤ 1048576) :
    ∃ r : Int, laws_szMem.f l b a = some r ∧ (r = -1 ∨ (0 ≤ r ∧ r ≤ a ∧ (l.length : Int) ≤ a)) := by
  obtain ⟨r, h, hr⟩ := szIntS_ok l hl a h0 h1
  unfold laws_szMem.f
  rw [h, Option.bind_some]
  rcases hr with rfl | hr
  · exact ⟨-1, by simp, .inl rfl⟩
  · rw [if_neg (by omega)]; exact ⟨r, rfl, .inr hr⟩

theorem toIntS_l0 (l : List Int) (hl : l.length ≤ 35184372088832) : ∀ (k i : Nat), i ≤ l.length → l.length - i < k →
    laws_toIntS.l0 k l (l.take i ++ List.replicate (l.length - i) 0) (i : Int) = some l := by
  intro k
  induction k with
  | zero => intro i _ h; omega
  | succ k ih =>
    intro i hi h
    have hlen : (l.take i ++ List.replicate (l.length - i) (0 : Int)).length = l.length := by simp; omega
    simp only [laws_toIntS.l0]
    by_cases hlt : i < l.length
    · rw [if_pos (by omega), if_pos (by omega), if_pos (by omega), wrap_nat (by omega)]
      have e1 : (l.take i ++ List.replicate (l.length - i) 0).set ((i : Int)).toNat (rd l (i : Int)) = l.take (i + 1) ++ List.replicate (l.length - (i + 1)) 0 := by
        rw [Int.toNat_natCast, List.set_append, if_neg (by rw [List.length_take]; omega), List.length_take, Nat.min_eq_left (by omega), Nat.sub_self, show l.length - i = (l.length - (i + 1)) + 1 by omega, List.replicate_succ, List.set_cons_zero, rd_nat l i hlt, List.take_succ_eq_append_getElem hlt, List.append_assoc, List.singleton_append]
      rw [e1]
      exact ih (i + 1) (by omega) (by omega)
    · have : i = l.length := by omega
      subst this
      rw [if_neg (by omega)]
      simp
theorem toIntS_ok (l : List Int) (hl : l.length ≤ 35184372088832) (k : Nat) (hk : l.length < k) : laws_toIntS.f k l = some l := by
  unfold laws_toIntS.f
  rw [if_pos (by omega), Int.toNat_natCast, if_pos hl]
  have h := toIntS_l0 l hl k 0 (by omega) (by omega)
  simpa using h

theorem toIntSS_l0 (l : List (List Int)) (hl : l.length ≤ 1048576) (hr : ∀ r ∈ l, r.length ≤ 1048576) : ∀ (k i : Nat), i ≤ l.length → l.length - i + 1048576 < k →
    laws_toIntSS.l0 k l (l.take i ++ List.replicate (l.length - i) []) (i : Int) = some l := by
  intro k
  induction k with
  | zero => intro i _ h; omega
  | succ k ih =>
    intro i hi h
    have hlen : (l.take i ++ List.replicate (l.length - i) ([] : List Int)).length = l.length := by simp; omega
    simp only [laws_toIntSS.l0]
    by_cases hlt : i < l.length
    · have hm := hr _ (rdL_mem l i hlt)
      rw [if_pos (by omega), if_pos (by omega), toIntS_ok _ (by omega) k (by omega), Option.bind_some, if_pos (by omega), wrap_nat (by omega)]
      have e1 : (l.take i ++ List.replicate (l.length - i) []).set ((i : Int)).toNat (rd_L1 l (i : Int)) = l.take (i + 1) ++ List.replicate (l.length - (i + 1)) [] := by
        rw [Int.toNat_natCast, List.set_append, if_neg (by rw [List.length_take]; omega), List.length_take, Nat.min_eq_left (by omega), Nat.sub_self, show l.length - i = (l.length - (i + 1)) + 1 by omega, List.replicate_succ, List.set_cons_zero, rdL_nat l i hlt, List.take_succ_eq_append_getElem hlt, List.append_assoc, List.singleton_append]
      rw [e1]
      exact ih (i + 1) (by omega) (by omega)
    · have : i = l.length := by omega
      subst this
      rw [if_neg (by omega)]
      simp
theorem toImage_ok (l : List (List Int)) (hl : l.length ≤ 1048576) (hr : ∀ r ∈ l, r.length ≤ 1048576) (k : Nat) (hk : 3000000 ≤ k) : laws_toImage.f k l = some l := by
  unfold laws_toImage.f laws_toIntSS.f
  rw [if_pos (by omega), Int.toNat_natCast, if_pos (by omega)]
  have h := toIntSS_l0 l hl hr k 0 (by omega) (by omega)
  simp only [List.take_zero, List.nil_append, Nat.sub_zero] at h
  rw [show ((0 : Nat) : Int) = 0 from rfl] at h
  rw [h]
  rfl

theorem toMem_ok (l : List Int) (b : Int) (hl : l.length ≤ 35184372088832) (k : Nat) (hk : l.length < k) : laws_toMem.f k l b = some (l, b) := by
  unfold laws_toMem.f
  rw [toIntS_ok l hl k hk]
  rfl

theorem eqIntS_l0 (l : List Int) (hl : l.length ≤ 140737488351232) : ∀ (k i : Nat), i ≤ l.length → l.length - i < k → laws_eqIntS.l0 k l l (i : Int) = some true := by
  intro k
  induction k with
  | zero => intro i _ h; omega
  | succ k ih =>
    intro i hi h
    simp only [laws_eqIntS.l0]
    by_cases hlt : i < l.length
    · have c1 : (i : Int) < (l.length : Int) := by omega
      have c0 : (0 : Int) ≤ (i : Int) := by omega
      simp only [c0, c1, if_true]
      rw [wrap_nat (by omega)]
      exact ih (i + 1) (by omega) (by omega)
    · rw [if_neg (by omega)]
theorem eqIntS_self (l : List Int) (hl : l.length ≤ 140737488351232) (k : Nat) (hk : l.length < k) : laws_eqIntS.f k l l = some true := by
  unfold laws_eqIntS.f
  rw [if_pos rfl]
  exact eqIntS_l0 l hl k 0 (by omega) (by omega)

theorem eqIntSS_l0 (l : List (List Int)) (hl : l.length ≤ 1048576) (hr : ∀ r ∈ l, r.length ≤ 1048576) : ∀ (k i : Nat), i ≤ l.length → l.length - i + 1048576 < k → laws_eqIntSS.l0 k l l (i : Int) = some true := by
  intro k
  induction k with
  | zero => intro i _ h; omega
  | succ k ih =>
    intro i hi h
    simp only [laws_eqIntSS.l0]
    by_cases hlt : i < l.length
    · have hm := hr _ (rdL_mem l i hlt)
      have c1 : (i : Int) < (l.length : Int) := by omega
      have c0 : (0 : Int) ≤ (i : Int) := by omega
      simp only [c0, c1, if_true]
      rw [eqIntS_self _ (by omega) k (by omega), wrap_nat (by omega)]
      simp only [Option.bind_some, if_true]
      exact ih (i + 1) (by omega) (by omega)
    · rw [if_neg (by omega)]
theorem eqImage_self (l : List (List Int)) (hl : l.length ≤ 1048576) (hr : ∀ r ∈ l, r.length ≤ 1048576) (k : Nat) (hk : 3000000 ≤ k) : laws_eqImage.f k l l = some true := by
  unfold laws_eqImage.f laws_eqIntSS.f
  have h := eqIntSS_l0 l hl hr k 0 (by omega) (by omega)
  rw [show ((0 : Nat) : Int) = 0 from rfl] at h
  rw [if_pos rfl, h]
  simp

theorem eqMem_self (l : List Int) (b : Int) (hl : l.length ≤ 140737488351232) (k : Nat) (hk : l.length < k) : laws_eqMem.f k l b l b = some true := by
  unfold laws_eqMem.f
  rw [eqIntS_self l hl k hk]
  simp

def seqFrom (a : Int) (n : Nat) : List Int := (List.range n).map fun (j : Nat) => a + (j : Int)
theorem seqFrom_length (a : Int) (n : Nat) : (seqFrom a n).length = n := by simp [seqFrom]
theorem seqFrom_rd (a : Int) (n i : Nat) (h : i < n) : rd (seqFrom a n) (i : Int) = a + i := by
  rw [rd_nat _ _ (by simpa [seqFrom] using h)]
  simp [seqFrom]
theorem seqFrom_succ (a : Int) (n : Nat) : seqFrom a (n + 1) = seqFrom a n ++ [a + (n : Int)] := by
  simp [seqFrom, List.range_succ]

theorem markIntS_l0 (l : List Int) (a : Int) (hl : l.length ≤ 140737488351232) (ha : 0 ≤ a) (ha1 : a ≤ 140737488351232) : ∀ (k i : Nat), i ≤ l.length → l.length - i < k →
    laws_markIntS.l0 k (seqFrom a i ++ l.drop i) (a + i) (i : Int) = some (a + l.length, seqFrom a l.length) := by
  intro k
  induction k with
  | zero => intro i _ h; omega
  | succ k ih =>
    intro i hi h
    have hlen : (seqFrom a i ++ l.drop i).length = l.length := by simp [seqFrom_length]; omega
    simp only [laws_markIntS.l0]
    by_cases hlt : i < l.length
    · rw [if_pos (by omega), if_pos (by omega), wrap_nat (by omega)]
      have e1 : (seqFrom a i ++ l.drop i).set ((i : Int)).toNat (a + i) = seqFrom a (i + 1) ++ l.drop (i + 1) := by
        rw [Int.toNat_natCast, List.set_append, if_neg (by rw [seqFrom_length]; omega), seqFrom_length, Nat.sub_self, List.drop_eq_getElem_cons hlt, List.set_cons_zero, seqFrom_succ]
        simp
      have e2 : wrap64 (a + (i : Int) + 1) = a + ((i + 1 : Nat) : Int) := by unfold wrap64; omega
      rw [e1, e2]
      exact ih (i + 1) (by omega) (by omega)
    · have : i = l.length := by omega
      subst this
      rw [if_neg (by omega)]
      simp
theorem markIntS_all (l : List Int) (a : Int) (hl : l.length ≤ 140737488351232) (ha : 0 ≤ a) (ha1 : a ≤ 140737488351232) (k : Nat) (hk : l.length < k) :
    laws_markIntS.f k l a = some (a + l.length, seqFrom a l.length) := by
  have h := markIntS_l0 l a hl ha ha1 k 0 (by omega) (by omega)
  simpa [seqFrom, laws_markIntS.f] using h

/-- The sum of the rows' lengths, and the rows behind the marks: all that is asked is that there are some. -/
theorem markIntSS_l0 (k0 : Nat) : ∀ (d : Nat) (m : List (List Int)) (i : Nat) (a : Int), m.length - i = d → i ≤ m.length → (∀ r ∈ m, r.length ≤ 1048576) → m.length ≤ 1048576 → 0 ≤ a → a + 1048576 * (d : Int) ≤ 140737488351232 → ∀ k, d + 1048577 < k →
    ∃ (q : Int) (n : List (List Int)), laws_markIntSS.l0 k m a (i : Int) = some (q, n) ∧ 0 ≤ q ∧ q ≤ a + 1048576 * (d : Int) := by
  intro d
  induction d with
  | zero =>
    intro m i a hd hi _ _ ha _ k hk
    obtain ⟨k, rfl⟩ : ∃ q, k = q + 1 := ⟨k - 1, by omega⟩
    simp only [laws_markIntSS.l0]
    rw [if_neg (by omega)]
    exact ⟨a, m, rfl, ha, by omega⟩
  | succ d ih =>
    intro m i a hd hi hr hm ha hb k hk
    obtain ⟨k, rfl⟩ : ∃ q, k = q + 1 := ⟨k - 1, by omega⟩
    simp only [laws_markIntSS.l0]
    have hlt : i < m.length := by omega
    rw [if_pos (by omega), if_pos (by omega)]
    have e1 : ((i : Int)).toNat = i := by omega
    rw [e1]
    have e2 : m.getD i [] = m[i] := by simp [List.getD_eq_getElem?_getD, hlt]
    rw [e2]
    have hri : m[i].length ≤ 1048576 := hr _ (List.getElem_mem hlt)
    rw [markIntS_all m[i] a (by omega) ha (by omega) k (by omega)]
    simp only [Option.bind_some]
    rw [wrap_nat (by omega)]
    have hmem : ∀ r ∈ m.set i (seqFrom a m[i].length), r.length ≤ 1048576 := by
      intro r h
      rcases List.mem_or_eq_of_mem_set h with h | rfl
      · exact hr r h
      · simpa [seqFrom_length] using hri
    obtain ⟨q, n, e, hq0, hq1⟩ := ih (m.set i (seqFrom a m[i].length)) (i + 1) (a + m[i].length) (by simp; omega) (by simp; omega) hmem (by simpa using hm) (by omega) (by omega) k (by omega)
    exact ⟨q, n, e, hq0, by omega⟩
theorem markIntSS_ok (m : List (List Int)) (hr : ∀ r ∈ m, r.length ≤ 1048576) (hm : m.length ≤ 1048576) (k : Nat) (hk : 3000000 ≤ k) : ∃ (q : Int) (n : List (List Int)), laws_markIntSS.f k m 1 = some (q, n) ∧ 0 ≤ q ∧ q ≤ 1 + 1048576 * (m.length : Int) := by
  unfold laws_markIntSS.f
  exact markIntSS_l0 k m.length m 0 1 (by omega) (by omega) hr hm (by omega) (by omega) k (by omega)

theorem heldIntS_l0 (n : Nat) (a : Int) (hl : n ≤ 140737488351232) (ha : 0 ≤ a) (ha1 : a ≤ 140737488351232) : ∀ (k i : Nat), i ≤ n → n - i < k →
    laws_heldIntS.l0 k (seqFrom a n) (a + i) (i : Int) = some (a + n) := by
  intro k
  induction k with
  | zero => intro i _ h; omega
  | succ k ih =>
    intro i hi h
    have hlen := seqFrom_length a n
    simp only [laws_heldIntS.l0]
    by_cases hlt : i < n
    · have e2 : wrap64 (a + (i : Int) + 1) = a + ((i + 1 : Nat) : Int) := by unfold wrap64; omega
      rw [if_pos (by omega), if_pos (by omega), if_pos (seqFrom_rd a n i hlt), wrap_nat (by omega), e2]
      exact ih (i + 1) (by omega) (by omega)
    · have : i = n := by omega
      subst this
      rw [if_neg (by omega)]
theorem heldIntS_all (n : Nat) (a : Int) (hl : n ≤ 140737488351232) (ha : 0 ≤ a) (ha1 : a ≤ 140737488351232) (k : Nat) (hk : n < k) :
    laws_heldIntS.f k (seqFrom a n) a = some (a + n) := by
  have h := heldIntS_l0 n a hl ha ha1 k 0 (by omega) (by omega)
  simpa [laws_heldIntS.f] using h

theorem markMem_all (l : List Int) (b a : Int) (hl : l.length ≤ 140737488351232) (ha : 0 ≤ a) (ha1 : a ≤ 140737488351232) (k : Nat) (hk : l.length < k) :
    laws_markMem.f k l b a = some (a + l.length, seqFrom a l.length) := by
  unfold laws_markMem.f
  rw [markIntS_all l a hl ha ha1 k hk]
  rfl
theorem heldMem_all (n : Nat) (b a : Int) (hl : n ≤ 140737488351232) (ha : 0 ≤ a) (ha1 : a ≤ 140737488351232) (k : Nat) (hk : n < k) :
    laws_heldMem.f k (seqFrom a n) b a = some (a + n) := by
  unfold laws_heldMem.f
  rw [heldIntS_all n a hl ha ha1 k hk]
  simp only [Option.bind_some]
  rw [if_neg (by omega)]

theorem within_eq (x lo hi : Int) : impl_within.f x lo hi = some (decide (lo ≤ x ∧ x ≤ hi)) := by
  unfold impl_within.f
  split <;> simp <;> omega
theorem l1In_eq (x lo hi : Int) : spec_l1In.f x lo hi = some (decide (lo ≤ x ∧ x ≤ hi)) := by
  unfold spec_l1In.f
  split <;> simp <;> omega

def isByteB (x : Int) : Bool := decide (0 ≤ x ∧ x ≤ 255)
def imgOk (m : List (List Int)) : Bool := m.all (fun r => decide (r.length = 256) && r.all isByteB) && decide (1 ≤ (m.length : Int) ∧ (m.length : Int) ≤ 8)
theorem bytesOk_l0 (l : List Int) (hl : l.length ≤ 1048576) : ∀ (k i : Nat), i ≤ l.length → l.length - i < k → impl_bytesOk.l0 k l (l.length : Int) (i : Int) = some ((l.drop i).all isByteB) := by
  intro k
  induction k with
  | zero => intro i _ h; omega
  | succ k ih =>
    intro i hi h
    simp only [impl_bytesOk.l0]
    by_cases hlt : i < l.length
    · have c1 : (i : Int) < (l.length : Int) := by omega
      have c0 : (0 : Int) ≤ (i : Int) := by omega
      simp only [c0, c1, if_true]
      unfold impl_isByte.f
      rw [within_eq, wrap_nat (by omega), rd_nat l i hlt, List.drop_eq_getElem_cons hlt, List.all_cons]
      simp only [Option.bind_some]
      rw [ih (i + 1) (by omega) (by omega)]
      by_cases hb : 0 ≤ l[i] ∧ l[i] ≤ 255
      · simp [isByteB, hb]
      · simp [isByteB, hb]
    · have : i = l.length := by omega
      subst this
      rw [if_neg (by omega)]
      simp
theorem bytesOk_ok (l : List Int) (hl : l.length ≤ 1048576) (k : Nat) (hk : l.length < k) : impl_bytesOk.f k l = some (l.all isByteB) := by
  have h := bytesOk_l0 l hl k 0 (by omega) (by omega)
  simpa [impl_bytesOk.f] using h
theorem implImageOk_l0 (m : List (List Int)) (hl : m.length ≤ 1048576) : ∀ (k i : Nat), i ≤ m.length → m.length - i + 300 < k →
    impl_ImageOk.l0 k m (m.length : Int) (i : Int) m = some ((m.drop i).all (fun r => decide (r.length = 256) && r.all isByteB) && decide (1 ≤ (m.length : Int) ∧ (m.length : Int) ≤ 8)) := by
  intro k
  induction k with
  | zero => intro i _ h; omega
  | succ k ih =>
    intro i hi h
    simp only [impl_ImageOk.l0]
    by_cases hlt : i < m.length
    · have c1 : (i : Int) < (m.length : Int) := by omega
      have c0 : (0 : Int) ≤ (i : Int) := by omega
      simp only [c0, c1, if_true]
      rw [rdL_nat m i hlt, List.drop_eq_getElem_cons hlt, List.all_cons]
      by_cases h256 : m[i].length = 256
      · have e : ((m[i].length : Int) = 256) := by omega
        rw [if_pos e, bytesOk_ok _ (by omega) k (by omega)]
        simp only [Option.bind_some]
        rw [wrap_nat (by omega), ih (i + 1) (by omega) (by omega)]
        cases hb : m[i].all isByteB <;> simp [h256]
      · have e : ¬ ((m[i].length : Int) = 256) := by omega
        rw [if_neg e]
        simp [h256]
    · have : i = m.length := by omega
      subst this
      rw [if_neg (by omega), within_eq]
      simp
theorem implImageOk (m : List (List Int)) (hl : m.length ≤ 1048576) (k : Nat) (hk : 2000000 ≤ k) : impl_ImageOk.f k m = some (imgOk m) := by
  have h := implImageOk_l0 m hl k 0 (by omega) (by omega)
  simpa [impl_ImageOk.f, imgOk] using h
theorem specImageOk_l1 (m : List (List Int)) (i : Nat) (hlt : i < m.length) (h256 : m[i].length = 256) (k0 : Nat) (v : Bool) (hnext : ∀ k, k0 < k → spec_ImageOk.l0 k (wrap64 ((i : Int) + 1)) m = some v) : ∀ (k j : Nat), j ≤ 256 → 256 - j + k0 + 1 < k →
    spec_ImageOk.l1 k (i : Int) (j : Int) m = some ((m[i].drop j).all isByteB && v) := by
  intro k
  induction k with
  | zero => intro j _ h; omega
  | succ k ih =>
    intro j hj h
    simp only [spec_ImageOk.l1]
    by_cases hjl : j < 256
    · have c1 : (i : Int) < (m.length : Int) := by omega
      have c0 : (0 : Int) ≤ (i : Int) := by omega
      have c2 : (0 : Int) ≤ (j : Int) := by omega
      have c3 : (j : Int) < 256 := by omega
      have c4 : (j : Int) < (m[i].length : Int) := by omega
      simp only [c0, c1, c2, c3, if_true]
      rw [rdL_nat m i hlt]
      simp only [c4, if_true]
      rw [l1In_eq, rd_nat _ j (by omega), wrap_nat (by omega), List.drop_eq_getElem_cons (show j < m[i].length by omega), List.all_cons]
      simp only [Option.bind_some]
      rw [ih (j + 1) (by omega) (by omega)]
      by_cases hb : 0 ≤ m[i][j] ∧ m[i][j] ≤ 255
      · simp [isByteB, hb]
      · simp [isByteB, hb]
    · rw [if_neg (by omega), hnext k (by omega), List.drop_eq_nil_of_le (by omega)]
      simp
theorem specImageOk_l0 (m : List (List Int)) (hl : m.length ≤ 1048576) : ∀ (d i : Nat), i ≤ m.length → m.length - i = d → ∀ k, d * 300 + 10 < k →
    spec_ImageOk.l0 k (i : Int) m = some ((m.drop i).all (fun r => decide (r.length = 256) && r.all isByteB) && decide (1 ≤ (m.length : Int) ∧ (m.length : Int) ≤ 8)) := by
  intro d
  induction d with
  | zero =>
    intro i hi hd k hk
    obtain ⟨k, rfl⟩ : ∃ q, k = q + 1 := ⟨k - 1, by omega⟩
    have : i = m.length := by omega
    subst this
    simp only [spec_ImageOk.l0]
    rw [if_neg (by omega), l1In_eq]
    simp
  | succ d ih =>
    intro i hi hd k hk
    obtain ⟨k, rfl⟩ : ∃ q, k = q + 1 := ⟨k - 1, by omega⟩
    have hlt : i < m.length := by omega
    have c1 : (i : Int) < (m.length : Int) := by omega
    have c0 : (0 : Int) ≤ (i : Int) := by omega
    simp only [spec_ImageOk.l0, c0, c1, if_true]
    rw [rdL_nat m i hlt, List.drop_eq_getElem_cons hlt, List.all_cons]
    by_cases h256 : m[i].length = 256
    · have e : ((m[i].length : Int) = 256) := by omega
      rw [if_pos e]
      have hn := ih (i + 1) (by omega) (by omega)
      have h1 := specImageOk_l1 m i hlt h256 (d * 300 + 10) _ (fun k hk => by rw [wrap_nat (by omega)]; exact hn k hk) k 0 (by omega) (by omega)
      rw [show ((0 : Nat) : Int) = 0 from rfl] at h1
      rw [h1]
      simp [h256, Bool.and_assoc]
    · have e : ¬ ((m[i].length : Int) = 256) := by omega
      rw [if_neg e]
      simp [h256]
theorem specImageOk (m : List (List Int)) (hl : m.length ≤ 1048576) (k : Nat) (hk : 400000000 ≤ k) : spec_ImageOk.f k m = some (imgOk m) := by
  have h := specImageOk_l0 m hl m.length 0 (by omega) (by omega) k (by omega)
  simpa [spec_ImageOk.f, imgOk] using h
theorem imgOk_iff (m : List (List Int)) : imgOk m = true ↔ ((∀ r ∈ m, r.length = 256 ∧ ∀ x ∈ r, 0 ≤ x ∧ x ≤ 255) ∧ 1 ≤ m.length ∧ m.length ≤ 8) := by
  unfold imgOk isByteB
  simp only [Bool.and_eq_true, List.all_eq_true, decide_eq_true_eq]
  constructor
  · rintro ⟨h, h1, h2⟩
    exact ⟨fun r hr => h r hr, by omega, by omega⟩
  · rintro ⟨h, h1, h2⟩
    exact ⟨fun r hr => h r hr, by omega, by omega⟩

def memOk (m : List (List Int)) (r : List Int) (b : Int) : Bool := imgOk m && (decide (r.length = 512) && (r.all isByteB && decide (0 ≤ b ∧ b ≤ (m.length : Int) - 1)))
theorem implMemOk (m : List (List Int)) (r : List Int) (b : Int) (hl : m.length ≤ 1048576) (k : Nat) (hk : 2000000 ≤ k) : impl_MemOk.f k m r b = some (memOk m r b) := by
  unfold impl_MemOk.f memOk
  rw [implImageOk m hl k hk, Option.bind_some]
  by_cases hi : imgOk m = true
  · rw [if_pos hi, hi]
    by_cases h5 : r.length = 512
    · rw [if_pos (by omega), bytesOk_ok r (by omega) k (by omega), Option.bind_some]
      by_cases hb : r.all isByteB = true
      · rw [if_pos hb, hb, within_eq, wrap_small (by omega) (by omega)]
        simp [h5]
      · rw [if_neg hb, Bool.eq_false_iff.mpr hb]
        simp
    · rw [if_neg (by omega)]
      simp [h5]
  · rw [if_neg hi, Bool.eq_false_iff.mpr hi]
    rfl
theorem specMemOk_l0 (r : List Int) (b : Int) (h5 : r.length = 512) : ∀ (k i : Nat), i ≤ 512 → 512 - i < k → spec_MemOk.l0 k (i : Int) r b = some ((r.drop i).all isByteB) := by
  intro k
  induction k with
  | zero => intro i _ h; omega
  | succ k ih =>
    intro i hi h
    simp only [spec_MemOk.l0]
    by_cases hlt : i < 512
    · have c0 : (0 : Int) ≤ (i : Int) := by omega
      have c1 : (i : Int) < 512 := by omega
      have c2 : (i : Int) < (r.length : Int) := by omega
      simp only [c0, c1, c2, if_true]
      unfold spec_l5Byte.f
      rw [l1In_eq, rd_nat r i (by omega), wrap_nat (by omega), List.drop_eq_getElem_cons (show i < r.length by omega), List.all_cons]
      simp only [Option.bind_some]
      rw [ih (i + 1) (by omega) (by omega)]
      by_cases hb : 0 ≤ r[i] ∧ r[i] ≤ 255
      · simp [isByteB, hb]
      · simp [isByteB, hb]
    · rw [if_neg (by omega), List.drop_eq_nil_of_le (by omega)]
      simp
theorem specMemOk (m : List (List Int)) (r : List Int) (b : Int) (hl : m.length ≤ 1048576) (k : Nat) (hk : 400000000 ≤ k) : spec_MemOk.f k m r b = some (memOk m r b) := by
  obtain ⟨q, rfl⟩ : ∃ q, k = q + 1 := ⟨k - 1, by omega⟩
  unfold spec_MemOk.f memOk
  rw [specImageOk m hl _ hk, Option.bind_some]
  by_cases hi : imgOk m = true
  · rw [if_pos hi, hi]
    by_cases h5 : r.length = 512
    · rw [if_pos (by omega), l1In_eq, wrap_small (by omega) (by omega), Option.bind_some]
      simp only [spec_MemOk.j0]
      by_cases hb : 0 ≤ b ∧ b ≤ (m.length : Int) - 1
      · have h := specMemOk_l0 r b h5 q 0 (by omega) (by omega)
        rw [show ((0 : Nat) : Int) = 0 from rfl] at h
        simp [hb, h5, h]
      · have e : decide (0 ≤ b ∧ b ≤ (m.length : Int) - 1) = false := decide_eq_false hb
        rw [e]
        simp
    · rw [if_neg (by omega)]
      simp [spec_MemOk.j0, h5]
  · rw [if_neg hi, Bool.eq_false_iff.mpr hi]
    simp [spec_MemOk.j0]
theorem memOk_iff (m : List (List Int)) (r : List Int) (b : Int) : memOk m r b = true ↔ (imgOk m = true ∧ r.length = 512 ∧ (∀ x ∈ r, 0 ≤ x ∧ x ≤ 255) ∧ 0 ≤ b ∧ b < m.length) := by
  unfold memOk isByteB
  simp only [Bool.and_eq_true, List.all_eq_true, decide_eq_true_eq]
  constructor
  · rintro ⟨h1, h2, h3, h4, h5⟩
    exact ⟨h1, h2, h3, h4, by omega⟩
  · rintro ⟨h1, h2, h3, h4, h5⟩
    exact ⟨h1, h2, h3, h4, by omega⟩

def rgn (a : Int) : Int := if a % 65536 < 8192 then 1 else if a % 65536 < 16384 then 2 else if a % 65536 < 16388 then 3 else if a % 65536 = 16406 then 4 else if a % 65536 < 32768 then 7 else if a % 65536 < 49152 then 5 else 6
def prt (a : Int) : Int := if a % 65536 < 8192 then a % 65536 % 512 else if a % 65536 < 16384 then a % 65536 % 8 else if a % 65536 < 16388 then a % 65536 % 4 else if a % 65536 = 16406 then 0 else if a % 65536 < 32768 then 0 else a % 65536 % 256
theorem region_ok (a : Int) : impl_Region.f a = some (rgn a, prt a) := by
  have h0 := Int.emod_nonneg a (b := 65536) (by decide)
  unfold impl_Region.f impl_Addr.f rgn prt
  rw [and65535, Option.bind_some]
  generalize a % 65536 = x at *
  simp only [Int.tmod_eq_emod_of_nonneg h0]
  by_cases h1 : x < 8192
  · simp [h1]
  · by_cases h2 : x < 16384
    · simp [h1, h2]
    · by_cases h3 : x < 16388
      · simp [h1, h2, h3]
      · by_cases h4 : x = 16406
        · simp [h4]
        · by_cases h5 : x < 32768
          · simp [h1, h2, h3, h4, h5]
          · by_cases h6 : x < 49152
            · simp [h1, h2, h3, h4, h5, h6]
            · simp [h1, h2, h3, h4, h5, h6]
theorem specRegion (a : Int) : spec_Region.f a = impl_Region.f a := rfl
theorem prt_bound (a : Int) : 0 ≤ prt a ∧ prt a < 512 ∧ (rgn a = 5 ∨ rgn a = 6 → prt a < 256) := by
  have h0 := Int.emod_nonneg a (b := 65536) (by decide)
  have h1 := Int.emod_lt_of_pos a (b := 65536) (by decide)
  unfold prt rgn
  generalize a % 65536 = x at *
  repeat' split
  all_goals omega

theorem specCopy (l : List Int) (b : Int) (hl : l.length < 17592186044416) : spec_l6Copy.f l b = some (l, b) := by
  unfold spec_l6Copy.f
  simp only [Option.bind_some]
  rw [if_pos (by simpa using hl), List.nil_append]
theorem implCopy (l : List Int) (b : Int) (hl : l.length < 17592186044416) : impl_copyMem.f l b = some (l, b) := by
  unfold impl_copyMem.f impl_copyInts.f
  simp only [Option.bind_some]
  rw [if_pos (by simpa using hl), List.nil_append]
  rfl

theorem poke_both (m : List (List Int)) (l : List Int) (b a v : Int) (hm : m.length ≤ 1048576) (hl : l.length < 17592186044416) (k : Nat) (hk : 400000000 ≤ k) :
    ∃ r : List Int × Int, spec_Poke.f k m l b a v = some r ∧ impl_Poke.f k m l b a v = some r ∧ r.1.length = l.length := by
  unfold spec_Poke.f impl_Poke.f
  rw [specCopy l b hl, implCopy l b hl, specMemOk m l b hm k hk, implMemOk m l b hm k (by omega)]
  simp only [Option.bind_some]
  by_cases hok : memOk m l b = true
  · rw [if_pos hok, if_pos hok, specRegion, region_ok]
    simp only [Option.bind_some]
    obtain ⟨himg, h5, hx, hb0, hb1⟩ := (memOk_iff m l b).1 hok
    obtain ⟨hrows, h1, h8⟩ := (imgOk_iff m).1 himg
    obtain ⟨p0, p1, p2⟩ := prt_bound a
    have hall : (0 < m.length ∧ m.length ≤ 8) ∧ l.length = 512 ∧ 0 ≤ prt a ∧ prt a < 512 := ⟨⟨by omega, h8⟩, h5, p0, p1⟩
    rw [if_pos hall]
    unfold spec_Byte.f pokeF
    simp only [Option.bind_some, and255]
    by_cases g1 : rgn a = 1
    · rw [if_pos g1, if_pos g1, if_pos p0, if_pos (by omega)]
      exact ⟨_, rfl, rfl, by simp⟩
    · rw [if_neg g1, if_neg g1]
      by_cases g5 : rgn a = 5
      · rw [if_pos g5, if_neg (by omega), if_pos (Or.inl g5 : rgn a = 5 ∨ rgn a = 6)]
        exact ⟨_, rfl, rfl, rfl⟩
      · rw [if_neg g5]
        by_cases g6 : rgn a = 6
        · rw [if_pos g6, if_neg (by omega), if_pos (Or.inr g6 : rgn a = 5 ∨ rgn a = 6)]
          exact ⟨_, rfl, rfl, rfl⟩
        · rw [if_neg g6, if_neg (by omega)]
          exact ⟨_, rfl, rfl, rfl⟩
  · rw [if_neg hok, if_neg hok]
    exact ⟨_, rfl, rfl, rfl⟩
end LFnExactPoke
open LFnExactPoke

theorem FnExactPoke (l0_0 : List (List Int)) (l1_0 : List Int) (a1_1 : Int) (a2 : Int) (a3 : Int) (w0_0 : l0_0.length ≤ 9223372036854775807 ∧ ∀ r ∈ l0_0, r.length ≤ 9223372036854775807) (w1_0 : l1_0.length ≤ 9223372036854775807) (w1_1 : (Lit.int .i64 a1_1).wf = true) (w2 : (Lit.int .i64 a2).wf = true) (w3 : (Lit.int .i64 a3).wf = true) : ∃ k, (laws_FnExactPoke.f k l0_0 l1_0 a1_1 a2 a3) = some true := by
  obtain ⟨K, hK⟩ : ∃ K : Nat, 400000000 ≤ K := ⟨_, Nat.le_refl _⟩
  refine ⟨K, ?_⟩
  unfold laws_FnExactPoke.f
  obtain ⟨r, e, hr⟩ := szImage_ok l0_0 w0_0.1 w0_0.2 K (by omega)
  rw [e, Option.bind_some]
  rcases hr with rfl | ⟨h0, h1, h2, h3⟩
  · simp
  · rw [if_neg (by omega)]
    obtain ⟨q, e2, hq⟩ := szMem_ok l1_0 a1_1 w1_0 r h0 h1
    rw [e2, Option.bind_some]
    rcases hq with rfl | ⟨g0, g1, g2⟩
    · simp
    · rw [if_neg (by omega), toImage_ok l0_0 h2 h3 K (by omega), toMem_ok l1_0 a1_1 (by omega) K (by omega)]
      obtain ⟨⟨r1, r2⟩, e3, e4, hl⟩ := poke_both l0_0 l1_0 a1_1 a2 a3 h2 (by omega) K (by omega)
      obtain ⟨q1, n1, e5, hq0, hq1⟩ := markIntSS_ok l0_0 h3 h2 K (by omega)
      have hl' : r1.length = l1_0.length := hl
      simp only [Option.bind_some]
      rw [e3, e4, e5]
      simp only [Option.bind_some]
      rw [eqMem_self r1 r2 (by omega) K (by omega), eqImage_self l0_0 h2 h3 K (by omega), eqMem_self l1_0 a1_1 (by omega) K (by omega), markMem_all l1_0 a1_1 q1 (by omega) (by omega) (by omega) K (by omega), markMem_all r1 r2 1 (by omega) (by omega) (by omega) K (by omega)]
      simp only [Option.bind_some]
      rw [heldMem_all r1.length r2 1 (by omega) (by omega) (by omega) K (by omega)]
      simp only [Option.bind_some]
      rw [if_pos (by refine ⟨?_, ?_, ?_, ?_, ?_, ?_, ?_⟩ <;> first | trivial | rfl | omega)]

end Go.Proofs.Ytmiaocoffmobcaa.Pure
