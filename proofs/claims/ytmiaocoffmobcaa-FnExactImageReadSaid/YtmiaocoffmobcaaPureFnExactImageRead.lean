/- The program's ImageRead returns what the reference's returns, for every row of bytes, in memory of its own, and leaves its argument as it was. No condition. -/
import Derived.Test.YtmiaocoffmobcaaMFnExactImageReadx0
import Derived.Test.YtmiaocoffmobcaaMFnExactImageReadx1
import Derived.Test.YtmiaocoffmobcaaMFnExactImageReadx2
import Derived.Laws.Bits128
namespace Go.Proofs.Ytmiaocoffmobcaa.Pure
open Go.RowKit Go.Proofs.Ytmiaocoffmobcaa.MFnExactImageRead Go.Proofs.YtmiaocoffmobcaaW.PrintWords Go.Proofs.YtmiaocoffmobcaaW.PrintLast Go.Proofs.YtmiaocoffmobcaaW.PrintMore
set_option linter.unusedVariables false
set_option linter.unusedSimpArgs false
namespace LFnExactImageRead
theorem and_low (n : Int) (j : Nat) (m : Int) (hj : j < 64) (hm : (BitVec.ofInt 64 m).toNat = 2 ^ j - 1) : Go.bits .and .i64 n m = n % (2 ^ j : Nat) := by
  have key : (BitVec.ofInt 64 n &&& BitVec.ofInt 64 m).toNat = (n % ((2 ^ 64 : Nat) : Int)).toNat % 2 ^ j := by
    rw [BitVec.toNat_and, BitVec.toNat_ofInt, hm, Nat.and_two_pow_sub_one_eq_mod]
  show IntKind.i64.wrap ((BitVec.ofInt 64 n &&& BitVec.ofInt 64 m).toNat : Nat) = n % (2 ^ j : Nat)
  have hd : ((2 ^ j : Nat) : Int) ∣ ((2 ^ 64 : Nat) : Int) := by
    exact_mod_cast Nat.pow_dvd_pow 2 (Nat.le_of_lt hj)
  have hp : (0 : Int) < ((2 ^ j : Nat) : Int) := by exact_mod_cast Nat.two_pow_pos j
  have hle : ((2 ^ j : Nat) : Int) ≤ ((2 ^ 63 : Nat) : Int) := by
    exact_mod_cast Nat.pow_le_pow_right (by decide) (by omega)
  have e : (((n % ((2 ^ 64 : Nat) : Int)).toNat % 2 ^ j : Nat) : Int) = n % ((2 ^ j : Nat) : Int) := by
    rw [Int.natCast_emod, Int.toNat_of_nonneg (Int.emod_nonneg _ (by decide)), Int.emod_emod_of_dvd _ hd]
  rw [key, e, IntKind.wrap_i64]
  have h0 := Int.emod_nonneg n (Int.ne_of_gt hp)
  have h1 := Int.emod_lt_of_pos n hp
  generalize n % ((2 ^ j : Nat) : Int) = x at *
  generalize ((2 ^ j : Nat) : Int) = y at *
  have : ((2 ^ 63 : Nat) : Int) = 9223372036854775808 := by decide
  omega
theorem and255 (n : Int) : Go.bits .and .i64 n 255 = n % 256 := and_low n 8 255 (by decide) (by decide)
theorem and65535 (n : Int) : Go.bits .and .i64 n 65535 = n % 65536 := and_low n 16 65535 (by decide) (by decide)
theorem wrap_small {n : Int} (h0 : -9223372036854775808 ≤ n) (h1 : n ≤ 9223372036854775807) : wrap64 n = n := by
  unfold wrap64; omega
theorem wrap_nat {i : Nat} (h : i ≤ 4611686018427387904) : wrap64 ((i : Int) + 1) = ((i + 1 : Nat) : Int) := by
  unfold wrap64; omega
theorem rd_nat (l : List Int) (i : Nat) (h : i < l.length) : rd l (i : Int) = l[i] := by
  unfold rd; simp [List.getD, h]

theorem eqIntS_l0 (l : List Int) (hl : l.length ≤ 140737488351232) : ∀ (k i : Nat), i ≤ l.length → l.length - i < k → laws_eqIntS.l0 k l l (i : Int) = some true := by
  intro k
  induction k with
  | zero => intro i _ h; omega
  | succ k ih =>
    intro i hi h
    simp only [laws_eqIntS.l0]
    by_cases hlt : i < l.length
    · have c1 : (i : Int) < (l.length : Int) := by omega
      have c0 : (0 : Int) ≤ (i : Int) := by omega
      simp only [c0, c1, if_true]
      rw [wrap_nat (by omega)]
      exact ih (i + 1) (by omega) (by omega)
    · rw [if_neg (by omega)]
theorem eqIntS_self (l : List Int) (hl : l.length ≤ 140737488351232) (k : Nat) (hk : l.length < k) : laws_eqIntS.f k l l = some true := by
  unfold laws_eqIntS.f
  rw [if_pos rfl]
  exact eqIntS_l0 l hl k 0 (by omega) (by omega)

theorem rdL_nat (l : List (List Int)) (i : Nat) (h : i < l.length) : rd_L1 l (i : Int) = l[i] := by
  unfold rd_L1; simp [List.getD, h]
theorem rdL_mem (l : List (List Int)) (i : Nat) (h : i < l.length) : rd_L1 l (i : Int) ∈ l := by
  rw [rdL_nat l i h]; exact List.getElem_mem h

theorem eqIntSS_l0 (l : List (List Int)) (hl : l.length ≤ 1048576) (hr : ∀ r ∈ l, r.length ≤ 1048576) : ∀ (k i : Nat), i ≤ l.length → l.length - i + 1048576 < k → laws_eqIntSS.l0 k l l (i : Int) = some true := by
  intro k
  induction k with
  | zero => intro i _ h; omega
  | succ k ih =>
    intro i hi h
    simp only [laws_eqIntSS.l0]
    by_cases hlt : i < l.length
    · have hm := hr _ (rdL_mem l i hlt)
      have c1 : (i : Int) < (l.length : Int) := by omega
      have c0 : (0 : Int) ≤ (i : Int) := by omega
      simp only [c0, c1, if_true]
      rw [eqIntS_self _ (by omega) k (by omega), wrap_nat (by omega)]
      simp only [Option.bind_some, if_true]
      exact ih (i + 1) (by omega) (by omega)
    · rw [if_neg (by omega)]
theorem eqImage_self (l : List (List Int)) (hl : l.length ≤ 1048576) (hr : ∀ r ∈ l, r.length ≤ 1048576) (k : Nat) (hk : 3000000 ≤ k) : laws_eqImage.f k l l = some true := by
  unfold laws_eqImage.f laws_eqIntSS.f
  have h := eqIntSS_l0 l hl hr k 0 (by omega) (by omega)
  rw [show ((0 : Nat) : Int) = 0 from rfl] at h
  rw [if_pos rfl, h]
  simp

def seqFrom (a : Int) (n : Nat) : List Int := (List.range n).map fun (j : Nat) => a + (j : Int)
theorem seqFrom_length (a : Int) (n : Nat) : (seqFrom a n).length = n := by simp [seqFrom]
theorem seqFrom_rd (a : Int) (n i : Nat) (h : i < n) : rd (seqFrom a n) (i : Int) = a + i := by
  rw [rd_nat _ _ (by simpa [seqFrom] using h)]
  simp [seqFrom]
theorem seqFrom_succ (a : Int) (n : Nat) : seqFrom a (n + 1) = seqFrom a n ++ [a + (n : Int)] := by
  simp [seqFrom, List.range_succ]

theorem eqByteS_l0 (l : List Int) (hl : l.length ≤ 140737488351232) : ∀ (k i : Nat), i ≤ l.length → l.length - i < k → laws_eqByteS.l0 k l l (i : Int) = some true := by
  intro k
  induction k with
  | zero => intro i _ h; omega
  | succ k ih =>
    intro i hi h
    simp only [laws_eqByteS.l0]
    by_cases hlt : i < l.length
    · have c1 : (i : Int) < (l.length : Int) := by omega
      have c0 : (0 : Int) ≤ (i : Int) := by omega
      simp only [c0, c1, if_true]
      rw [wrap_nat (by omega)]
      exact ih (i + 1) (by omega) (by omega)
    · rw [if_neg (by omega)]
theorem eqByteS_self (l : List Int) (hl : l.length ≤ 140737488351232) (k : Nat) (hk : l.length < k) : laws_eqByteS.f k l l = some true := by
  unfold laws_eqByteS.f
  rw [if_pos rfl]
  exact eqByteS_l0 l hl k 0 (by omega) (by omega)
def seqB (a : Int) (n : Nat) : List Int := (List.range n).map fun (j : Nat) => (a + (j : Int)) % 256
theorem seqB_length (a : Int) (n : Nat) : (seqB a n).length = n := by simp [seqB]
theorem seqB_rd (a : Int) (n i : Nat) (h : i < n) : rd (seqB a n) (i : Int) = (a + i) % 256 := by
  rw [rd_nat _ _ (by simpa [seqB] using h)]
  simp [seqB]
theorem seqB_succ (a : Int) (n : Nat) : seqB a (n + 1) = seqB a n ++ [(a + (n : Int)) % 256] := by
  simp [seqB, List.range_succ]
theorem markByteS_l0 (l : List Int) (a : Int) (hl : l.length ≤ 140737488351232) (ha : 0 ≤ a) (ha1 : a ≤ 140737488351232) : ∀ (k i : Nat), i ≤ l.length → l.length - i < k →
    laws_markByteS.l0 k (seqB a i ++ l.drop i) (a + i) (i : Int) = some (a + l.length, seqB a l.length) := by
  intro k
  induction k with
  | zero => intro i _ h; omega
  | succ k ih =>
    intro i hi h
    have hlen : (seqB a i ++ l.drop i).length = l.length := by simp [seqB_length]; omega
    simp only [laws_markByteS.l0]
    by_cases hlt : i < l.length
    · rw [if_pos (by omega), if_pos (by omega), wrap_nat (by omega)]
      have e1 : (seqB a i ++ l.drop i).set ((i : Int)).toNat ((a + i) % 256) = seqB a (i + 1) ++ l.drop (i + 1) := by
        rw [Int.toNat_natCast, List.set_append, if_neg (by rw [seqB_length]; omega), seqB_length, Nat.sub_self, List.drop_eq_getElem_cons hlt, List.set_cons_zero, seqB_succ]
        simp
      have e2 : wrap64 (a + (i : Int) + 1) = a + ((i + 1 : Nat) : Int) := by unfold wrap64; omega
      rw [e1, e2]
      exact ih (i + 1) (by omega) (by omega)
    · have : i = l.length := by omega
      subst this
      rw [if_neg (by omega)]
      simp
theorem markByteS_all (l : List Int) (a : Int) (hl : l.length ≤ 140737488351232) (ha : 0 ≤ a) (ha1 : a ≤ 140737488351232) (k : Nat) (hk : l.length < k) :
    laws_markByteS.f k l a = some (a + l.length, seqB a l.length) := by
  have h := markByteS_l0 l a hl ha ha1 k 0 (by omega) (by omega)
  simpa [seqB, laws_markByteS.f] using h

theorem toByteS_l0 (l : List Int) (hl : l.length ≤ 35184372088832) : ∀ (k i : Nat), i ≤ l.length → l.length - i < k →
    laws_toByteS.l0 k l (l.take i ++ List.replicate (l.length - i) 0) (i : Int) = some l := by
  intro k
  induction k with
  | zero => intro i _ h; omega
  | succ k ih =>
    intro i hi h
    have hlen : (l.take i ++ List.replicate (l.length - i) (0 : Int)).length = l.length := by simp; omega
    simp only [laws_toByteS.l0]
    by_cases hlt : i < l.length
    · rw [if_pos (by omega), if_pos (by omega), if_pos (by omega), wrap_nat (by omega)]
      have e1 : (l.take i ++ List.replicate (l.length - i) 0).set ((i : Int)).toNat (rd l (i : Int)) = l.take (i + 1) ++ List.replicate (l.length - (i + 1)) 0 := by
        rw [Int.toNat_natCast, List.set_append, if_neg (by rw [List.length_take]; omega), List.length_take, Nat.min_eq_left (by omega), Nat.sub_self, show l.length - i = (l.length - (i + 1)) + 1 by omega, List.replicate_succ, List.set_cons_zero, rd_nat l i hlt, List.take_succ_eq_append_getElem hlt, List.append_assoc, List.singleton_append]
      rw [e1]
      exact ih (i + 1) (by omega) (by omega)
    · have : i = l.length := by omega
      subst this
      rw [if_neg (by omega)]
      simp
theorem toByteS_ok (l : List Int) (hl : l.length ≤ 35184372088832) (k : Nat) (hk : l.length < k) : laws_toByteS.f k l = some l := by
  unfold laws_toByteS.f
  rw [if_pos (by omega), Int.toNat_natCast, if_pos (by omega)]
  have h := toByteS_l0 l hl k 0 (by omega) (by omega)
  simpa using h

theorem markIntS_l0 (l : List Int) (a : Int) (hl : l.length ≤ 140737488351232) (ha : 0 ≤ a) (ha1 : a ≤ 140737488351232) : ∀ (k i : Nat), i ≤ l.length → l.length - i < k →
    laws_markIntS.l0 k (seqFrom a i ++ l.drop i) (a + i) (i : Int) = some (a + l.length, seqFrom a l.length) := by
  intro k
  induction k with
  | zero => intro i _ h; omega
  | succ k ih =>
    intro i hi h
    have hlen : (seqFrom a i ++ l.drop i).length = l.length := by simp [seqFrom_length]; omega
    simp only [laws_markIntS.l0]
    by_cases hlt : i < l.length
    · rw [if_pos (by omega), if_pos (by omega), wrap_nat (by omega)]
      have e1 : (seqFrom a i ++ l.drop i).set ((i : Int)).toNat (a + i) = seqFrom a (i + 1) ++ l.drop (i + 1) := by
        rw [Int.toNat_natCast, List.set_append, if_neg (by rw [seqFrom_length]; omega), seqFrom_length, Nat.sub_self, List.drop_eq_getElem_cons hlt, List.set_cons_zero, seqFrom_succ]
        simp
      have e2 : wrap64 (a + (i : Int) + 1) = a + ((i + 1 : Nat) : Int) := by unfold wrap64; omega
      rw [e1, e2]
      exact ih (i + 1) (by omega) (by omega)
    · have : i = l.length := by omega
      subst this
      rw [if_neg (by omega)]
      simp
theorem markIntS_all (l : List Int) (a : Int) (hl : l.length ≤ 140737488351232) (ha : 0 ≤ a) (ha1 : a ≤ 140737488351232) (k : Nat) (hk : l.length < k) :
    laws_markIntS.f k l a = some (a + l.length, seqFrom a l.length) := by
  have h := markIntS_l0 l a hl ha ha1 k 0 (by omega) (by omega)
  simpa [seqFrom, laws_markIntS.f] using h

/-- The sum of the rows' lengths, and the rows behind the marks: all that is asked is that there are some. -/
theorem markIntSS_l0 (k0 : Nat) : ∀ (d : Nat) (m : List (List Int)) (i : Nat) (a : Int), m.length - i = d → i ≤ m.length → (∀ r ∈ m, r.length ≤ 1048576) → m.length ≤ 1048576 → 0 ≤ a → a + 1048576 * (d : Int) ≤ 140737488351232 → ∀ k, d + 1048577 < k →
    ∃ (q : Int) (n : List (List Int)), laws_markIntSS.l0 k m a (i : Int) = some (q, n) ∧ 0 ≤ q ∧ q ≤ a + 1048576 * (d : Int) := by
  intro d
  induction d with
  | zero =>
    intro m i a hd hi _ _ ha _ k hk
    obtain ⟨k, rfl⟩ : ∃ q, k = q + 1 := ⟨k - 1, by omega⟩
    simp only [laws_markIntSS.l0]
    rw [if_neg (by omega)]
    exact ⟨a, m, rfl, ha, by omega⟩
  | succ d ih =>
    intro m i a hd hi hr hm ha hb k hk
    obtain ⟨k, rfl⟩ : ∃ q, k = q + 1 := ⟨k - 1, by omega⟩
    simp only [laws_markIntSS.l0]
    have hlt : i < m.length := by omega
    rw [if_pos (by omega), if_pos (by omega)]
    have e1 : ((i : Int)).toNat = i := by omega
    rw [e1]
    have e2 : m.getD i [] = m[i] := by simp [List.getD_eq_getElem?_getD, hlt]
    rw [e2]
    have hri : m[i].length ≤ 1048576 := hr _ (List.getElem_mem hlt)
    rw [markIntS_all m[i] a (by omega) ha (by omega) k (by omega)]
    simp only [Option.bind_some]
    rw [wrap_nat (by omega)]
    have hmem : ∀ r ∈ m.set i (seqFrom a m[i].length), r.length ≤ 1048576 := by
      intro r h
      rcases List.mem_or_eq_of_mem_set h with h | rfl
      · exact hr r h
      · simpa [seqFrom_length] using hri
    obtain ⟨q, n, e, hq0, hq1⟩ := ih (m.set i (seqFrom a m[i].length)) (i + 1) (a + m[i].length) (by simp; omega) (by simp; omega) hmem (by simpa using hm) (by omega) (by omega) k (by omega)
    exact ⟨q, n, e, hq0, by omega⟩
theorem markIntSS_ok (m : List (List Int)) (hr : ∀ r ∈ m, r.length ≤ 1048576) (hm : m.length ≤ 1048576) (k : Nat) (hk : 3000000 ≤ k) : ∃ (q : Int) (n : List (List Int)), laws_markIntSS.f k m 1 = some (q, n) ∧ 0 ≤ q ∧ q ≤ 1 + 1048576 * (m.length : Int) := by
  unfold laws_markIntSS.f
  exact markIntSS_l0 k m.length m 0 1 (by omega) (by omega) hr hm (by omega) (by omega) k (by omega)

theorem heldIntS_l0 (n : Nat) (a : Int) (hl : n ≤ 140737488351232) (ha : 0 ≤ a) (ha1 : a ≤ 140737488351232) : ∀ (k i : Nat), i ≤ n → n - i < k →
    laws_heldIntS.l0 k (seqFrom a n) (a + i) (i : Int) = some (a + n) := by
  intro k
  induction k with
  | zero => intro i _ h; omega
  | succ k ih =>
    intro i hi h
    have hlen := seqFrom_length a n
    simp only [laws_heldIntS.l0]
    by_cases hlt : i < n
    · have e2 : wrap64 (a + (i : Int) + 1) = a + ((i + 1 : Nat) : Int) := by unfold wrap64; omega
      rw [if_pos (by omega), if_pos (by omega), if_pos (seqFrom_rd a n i hlt), wrap_nat (by omega), e2]
      exact ih (i + 1) (by omega) (by omega)
    · have : i = n := by omega
      subst this
      rw [if_neg (by omega)]
theorem heldIntS_all (n : Nat) (a : Int) (hl : n ≤ 140737488351232) (ha : 0 ≤ a) (ha1 : a ≤ 140737488351232) (k : Nat) (hk : n < k) :
    laws_heldIntS.f k (seqFrom a n) a = some (a + n) := by
  have h := heldIntS_l0 n a hl ha ha1 k 0 (by omega) (by omega)
  simpa [laws_heldIntS.f] using h

/-- The rows that markIntSS leaves are held from where it began: heldIntSS ends where it ended. -/
theorem markHeldSS_l0 : ∀ (d : Nat) (m : List (List Int)) (i : Nat) (a : Int), m.length - i = d → i ≤ m.length → (∀ r ∈ m, r.length ≤ 1048576) → m.length ≤ 1048576 → 0 ≤ a → a + 1048576 * (d : Int) ≤ 140737488351232 → ∀ k, d + 1048577 < k →
    ∃ (q : Int) (n : List (List Int)), laws_markIntSS.l0 k m a (i : Int) = some (q, n) ∧ 0 ≤ q ∧ n.length = m.length ∧ (∀ j, j < i → n[j]? = m[j]?) ∧ laws_heldIntSS.l0 k n a (i : Int) = some q := by
  intro d
  induction d with
  | zero =>
    intro m i a hd hi _ _ ha _ k hk
    obtain ⟨k, rfl⟩ : ∃ q, k = q + 1 := ⟨k - 1, by omega⟩
    simp only [laws_markIntSS.l0]
    rw [if_neg (by omega)]
    refine ⟨a, m, rfl, ha, rfl, fun _ _ => rfl, ?_⟩
    simp only [laws_heldIntSS.l0]
    rw [if_neg (by omega)]
  | succ d ih =>
    intro m i a hd hi hr hm ha hb k hk
    obtain ⟨k, rfl⟩ : ∃ q, k = q + 1 := ⟨k - 1, by omega⟩
    simp only [laws_markIntSS.l0]
    have hlt : i < m.length := by omega
    rw [if_pos (by omega), if_pos (by omega)]
    have e1 : ((i : Int)).toNat = i := by omega
    rw [e1]
    have e2 : m.getD i [] = m[i] := by simp [List.getD_eq_getElem?_getD, hlt]
    rw [e2]
    have hri : m[i].length ≤ 1048576 := hr _ (List.getElem_mem hlt)
    rw [markIntS_all m[i] a (by omega) ha (by omega) k (by omega)]
    simp only [Option.bind_some]
    rw [wrap_nat (by omega)]
    have hmem : ∀ r ∈ m.set i (seqFrom a m[i].length), r.length ≤ 1048576 := by
      intro r h
      rcases List.mem_or_eq_of_mem_set h with h | rfl
      · exact hr r h
      · simpa [seqFrom_length] using hri
    obtain ⟨q, n, e, hq0, hn, hsame, hheld⟩ := ih (m.set i (seqFrom a m[i].length)) (i + 1) (a + m[i].length) (by simp; omega) (by simp; omega) hmem (by simpa using hm) (by omega) (by omega) k (by omega)
    have hn' : n.length = m.length := by simpa using hn
    refine ⟨q, n, e, hq0, hn', ?_, ?_⟩
    · intro j hj
      rw [hsame j (by omega), List.getElem?_set_ne (by omega)]
    · have hni : n[i]'(by omega) = seqFrom a m[i].length := by
        have := hsame i (by omega)
        rw [List.getElem?_eq_getElem (by omega), List.getElem?_set_self hlt, Option.some.injEq] at this
        exact this
      simp only [laws_heldIntSS.l0]
      rw [if_pos (by omega), if_pos (by omega), rdL_nat n i (by omega), hni, heldIntS_all m[i].length a (by omega) ha (by omega) k (by omega)]
      simp only [Option.bind_some]
      rw [if_neg (by omega), wrap_nat (by omega)]
      exact hheld
theorem markHeldImage (m : List (List Int)) (hr : ∀ r ∈ m, r.length ≤ 1048576) (hm : m.length ≤ 1048576) (k : Nat) (hk : 3000000 ≤ k) : ∃ (q : Int) (n : List (List Int)), laws_markIntSS.f k m 1 = some (q, n) ∧ 0 ≤ q ∧ laws_heldImage.f k n 1 = some q := by
  obtain ⟨q, n, e, h0, _, _, hh⟩ := markHeldSS_l0 m.length m 0 1 (by omega) (by omega) hr hm (by omega) (by omega) k (by omega)
  refine ⟨q, n, e, h0, ?_⟩
  unfold laws_heldImage.f laws_heldIntSS.f
  have hh' : laws_heldIntSS.l0 k n 1 0 = some q := hh
  rw [hh']
  simp only [Option.bind_some]
  rw [if_neg (by omega)]

theorem within_eq (x lo hi : Int) : impl_within.f x lo hi = some (decide (lo ≤ x ∧ x ≤ hi)) := by
  unfold impl_within.f
  split <;> simp <;> omega
theorem l1In_eq (x lo hi : Int) : spec_l1In.f x lo hi = some (decide (lo ≤ x ∧ x ≤ hi)) := by
  unfold spec_l1In.f
  split <;> simp <;> omega

def sumR (l : List Int) (a : Int) : Int := l.foldl (fun a x => wrap64 (a + x)) a
def difR (l : List Int) (a : Int) : Int := l.foldl (fun a x => wrap64 (a - x)) a
theorem sumR_mod : ∀ (l : List Int) (a : Int), sumR l a % 256 = (a + l.sum) % 256 := by
  intro l
  induction l with
  | nil => intro a; simp [sumR]
  | cons x l ih =>
    intro a
    show sumR l (wrap64 (a + x)) % 256 = _
    rw [ih, List.sum_cons]
    unfold wrap64
    omega
theorem difR_mod : ∀ (l : List Int) (a : Int), difR l a % 256 = (a - l.sum) % 256 := by
  intro l
  induction l with
  | nil => intro a; simp [difR]
  | cons x l ih =>
    intro a
    show difR l (wrap64 (a - x)) % 256 = _
    rw [ih, List.sum_cons]
    unfold wrap64
    omega
theorem sumR_snoc (l : List Int) (x a : Int) : sumR (l ++ [x]) a = wrap64 (sumR l a + x) := by simp [sumR]
theorem difR_snoc (l : List Int) (x a : Int) : difR (l ++ [x]) a = wrap64 (difR l a - x) := by simp [difR]
theorem take_snoc (l : List Int) (t : Nat) (h : t < l.length) : l.take (t + 1) = l.take t ++ [l[t]] := List.take_succ_eq_append_getElem h
/-- The rows of 256. -/
def rowsOf (l : List Int) (c : Nat) : List (List Int) := (List.range c).map fun j => (l.drop (256 * j)).take 256
theorem rowsOf_length (l : List Int) (c : Nat) : (rowsOf l c).length = c := by simp [rowsOf]
theorem rowsOf_rows (l : List Int) (c : Nat) : ∀ r ∈ rowsOf l c, r.length ≤ 1048576 := by
  intro r h
  simp only [rowsOf, List.mem_map] at h
  obtain ⟨j, _, rfl⟩ := h
  rw [List.length_take]
  omega
theorem rowsOf_succ (l : List Int) (c : Nat) : rowsOf l (c + 1) = rowsOf l c ++ [(l.drop (256 * c)).take 256] := by simp [rowsOf, List.range_succ]
theorem rdB (l : List Int) (hb : ∀ x ∈ l, 0 ≤ x ∧ x ≤ 255) (i : Nat) (h : i < l.length) : wrap64 (rd l (i : Int)) = l[i] := by
  have := hb _ (List.getElem_mem h)
  rw [rd_nat l i h, wrap_small (by omega) (by omega)]
theorem drop_at (l : List Int) (t : Nat) (h : 6 + t < l.length) : (l.drop 6)[t]'(by rw [List.length_drop]; omega) = l[6 + t] := by rw [List.getElem_drop]
theorem specIR_l1 (l : List Int) (hb : ∀ x ∈ l, 0 ≤ x ∧ x ≤ 255) (c i : Nat) (hc : c ≤ 8) (hlen : l.length = 6 + 256 * c) (hi : i < c) : ∀ (d j : Nat), 256 - j = d → j ≤ 256 → ∀ (k : Nat),
    spec_ImageRead.l1 (k + d + 1) l (c : Int) (sumR ((l.drop 6).take (256 * i + j)) 0) (i : Int) (((l.drop 6).drop (256 * i)).take j) (j : Int) (rowsOf (l.drop 6) i) = spec_ImageRead.l0 k l (c : Int) (sumR ((l.drop 6).take (256 * (i + 1))) 0) ((i + 1 : Nat) : Int) (rowsOf (l.drop 6) (i + 1)) := by
  intro d
  induction d with
  | zero =>
    intro j hd hj k
    obtain rfl : j = 256 := by omega
    generalize hq : k + 0 = q
    simp only [spec_ImageRead.l1]
    obtain rfl : k = q := by omega
    rw [if_neg (by omega), if_pos (by rw [rowsOf_length]; omega), wrap_nat (by omega), rowsOf_succ, show 256 * (i + 1) = 256 * i + 256 by omega]
  | succ d ih =>
    intro j hd hj k
    generalize hq : k + (d + 1) = q
    simp only [spec_ImageRead.l1]
    obtain rfl : q = k + d + 1 := by omega
    have e1 : wrap64 (wrap64 (6 + wrap64 ((i : Int) * 256)) + (j : Int)) = ((6 + (256 * i + j) : Nat) : Int) := by
      rw [wrap_small (n := (i : Int) * 256) (by omega) (by omega), wrap_small (n := 6 + (i : Int) * 256) (by omega) (by omega), wrap_small (by omega) (by omega)]
      omega
    have ht : 256 * i + j < (l.drop 6).length := by rw [List.length_drop]; omega
    have ht2 : j < ((l.drop 6).drop (256 * i)).length := by rw [List.length_drop, List.length_drop]; omega
    rw [e1, if_pos (by omega), if_pos (by omega), if_pos (by omega), if_pos (by rw [List.length_take]; omega), rdB l hb _ (by omega), wrap_nat (by omega)]
    have e2 : wrap64 (sumR ((l.drop 6).take (256 * i + j)) 0 + l[6 + (256 * i + j)]) = sumR ((l.drop 6).take (256 * i + (j + 1))) 0 := by
      rw [show 256 * i + (j + 1) = (256 * i + j) + 1 by omega, take_snoc _ _ ht, sumR_snoc, drop_at l _ (by omega)]
    have e3 : ((l.drop 6).drop (256 * i)).take j ++ [l[6 + (256 * i + j)]] = ((l.drop 6).drop (256 * i)).take (j + 1) := by
      rw [take_snoc _ _ ht2, List.getElem_drop, drop_at l _ (by omega)]
    rw [e2, e3]
    exact ih (j + 1) (by omega) (by omega) k
theorem specIR_l0 (l : List Int) (hb : ∀ x ∈ l, 0 ≤ x ∧ x ≤ 255) (c : Nat) (hc : c ≤ 8) (hlen : l.length = 6 + 256 * c) : ∀ (d i : Nat), c - i = d → i ≤ c → ∀ (k : Nat), 258 * d < k →
    spec_ImageRead.l0 k l (c : Int) (sumR ((l.drop 6).take (256 * i)) 0) (i : Int) (rowsOf (l.drop 6) i) = if (l.drop 6).sum % 256 = l.getD 5 0 then some (rowsOf (l.drop 6) c, 0) else some ([], 5) := by
  intro d
  induction d with
  | zero =>
    intro i hd hi k hk
    obtain ⟨k, rfl⟩ : ∃ q, k = q + 1 := ⟨k - 1, by omega⟩
    obtain rfl : i = c := by omega
    simp only [spec_ImageRead.l0]
    have e5 : l.getD 5 0 = l[5]'(by omega) := by simp [List.getD_eq_getElem?_getD, show 5 < l.length by omega]
    have e6 : wrap64 (rd l 5) = l[5]'(by omega) := rdB l hb 5 (by omega)
    rw [if_neg (by omega)]
    unfold spec_Byte.f
    simp only [Option.bind_some]
    rw [and255, sumR_mod, List.take_of_length_le (by rw [List.length_drop]; omega), if_pos (by omega), e5, e6, Int.zero_add]
  | succ d ih =>
    intro i hd hi k hk
    obtain ⟨e, he⟩ : ∃ e : Nat, e = 256 := ⟨_, rfl⟩
    obtain ⟨k, rfl⟩ : ∃ q, k = q + e + 1 + 1 := ⟨k - (e + 2), by omega⟩
    simp only [spec_ImageRead.l0]
    rw [if_pos (by omega)]
    have h1 := specIR_l1 l hb c i hc hlen (by omega) e 0 (by omega) (by omega) k
    simp only [Nat.add_zero, List.take_zero] at h1
    rw [show ((0 : Nat) : Int) = 0 from rfl] at h1
    rw [h1]
    exact ih (i + 1) (by omega) (by omega) k (by omega)
/-- The rows as the program holds them when t numbers are in. -/
def rowsAt (l : List Int) (c t : Nat) : List (List Int) := (List.range c).map fun j => (l.drop (256 * j)).take (min 256 (t - 256 * j))
theorem rowsAt_length (l : List Int) (c t : Nat) : (rowsAt l c t).length = c := by simp [rowsAt]
theorem rowsAt_at (l : List Int) (c t j : Nat) (h : j < c) : (rowsAt l c t)[j]'(by rw [rowsAt_length]; exact h) = (l.drop (256 * j)).take (min 256 (t - 256 * j)) := by simp [rowsAt]
theorem rowsAt_set (l : List Int) (c t : Nat) (hlen : l.length = 256 * c) (ht : t < l.length) : (rowsAt l c t).set (t / 256) ((l.drop (256 * (t / 256))).take (min 256 (t - 256 * (t / 256))) ++ [l[t]]) = rowsAt l c (t + 1) := by
  apply List.ext_getElem
  · simp [rowsAt_length]
  · intro j h1 h2
    rw [List.length_set, rowsAt_length] at h1
    rw [List.getElem_set, rowsAt_at _ _ _ _ h1, rowsAt_at _ _ _ _ h1]
    by_cases hj : t / 256 = j
    · rw [if_pos hj]
      subst hj
      have hlt : t - 256 * (t / 256) < (l.drop (256 * (t / 256))).length := by rw [List.length_drop]; omega
      rw [show min 256 (t + 1 - 256 * (t / 256)) = (t - 256 * (t / 256)) + 1 by omega, show min 256 (t - 256 * (t / 256)) = t - 256 * (t / 256) by omega, take_snoc _ _ hlt, List.getElem_drop]
      congr 3
      omega
    · rw [if_neg hj]
      congr 1
      omega
theorem implIR_l0 (r : List Int) (hb : ∀ x ∈ r, 0 ≤ x ∧ x ≤ 255) (c : Nat) (hc : c ≤ 8) (hlen : r.length = 256 * c) (h : Int) : ∀ (d t : Nat), r.length - t = d → t ≤ r.length → ∀ (k : Nat), d < k →
    impl_ImageRead.l0 k (difR (r.take t) h) r (r.length : Int) (t : Int) (rowsAt r c t) = if (h - r.sum) % 256 = 0 then some (rowsOf r c, 0) else some ([], 5) := by
  intro d
  induction d with
  | zero =>
    intro t hd ht k hk
    obtain ⟨k, rfl⟩ : ∃ q, k = q + 1 := ⟨k - 1, by omega⟩
    obtain rfl : t = r.length := by omega
    simp only [impl_ImageRead.l0]
    rw [if_neg (by omega)]
    unfold impl_Byte.f
    simp only [Option.bind_some]
    have e : rowsAt r c r.length = rowsOf r c := by
      unfold rowsAt rowsOf
      apply List.map_congr_left
      intro j hj
      rw [List.mem_range] at hj
      rw [show min 256 (r.length - 256 * j) = 256 by omega]
    rw [and255, List.take_length, difR_mod, e]
  | succ d ih =>
    intro t hd ht k hk
    obtain ⟨k, rfl⟩ : ∃ q, k = q + 1 := ⟨k - 1, by omega⟩
    simp only [impl_ImageRead.l0]
    have e1 : wrap64 (Int.tdiv (t : Int) 256) = ((t / 256 : Nat) : Int) := by
      rw [Int.tdiv_eq_ediv_of_nonneg (by omega), wrap_small (by omega) (by omega)]
      omega
    have hlt : t / 256 < (rowsAt r c t).length := by rw [rowsAt_length]; omega
    rw [e1, if_pos (by omega), if_pos (by omega), if_pos (by omega), if_pos (by omega), if_pos (by omega), rdL_nat _ _ hlt, rowsAt_at _ _ _ _ (by omega), if_pos (by rw [List.length_take]; omega), rdB r hb t (by omega), wrap_nat (by omega)]
    have e2 : wrap64 (difR (r.take t) h - r[t]) = difR (r.take (t + 1)) h := by rw [take_snoc r t (by omega), difR_snoc]
    rw [Int.toNat_natCast, rowsAt_set r c t hlen (by omega), e2]
    exact ih (t + 1) (by omega) (by omega) k (by omega)
theorem imageRead_both (l : List Int) (hl : l.length ≤ 1048576) (hb : ∀ x ∈ l, 0 ≤ x ∧ x ≤ 255) (k : Nat) (hk : 3000000 ≤ k) : ∃ (r : List (List Int)) (n : Int), spec_ImageRead.f k l = some (r, n) ∧ impl_ImageRead.f k l = some (r, n) ∧ r.length ≤ 1048576 ∧ ∀ x ∈ r, x.length ≤ 1048576 := by
  obtain ⟨k, rfl⟩ : ∃ q, k = q + 1 := ⟨k - 1, by omega⟩
  have hnil : (([] : List (List Int)).length ≤ 1048576 ∧ ∀ x ∈ ([] : List (List Int)), x.length ≤ 1048576) := ⟨by simp, by simp⟩
  unfold spec_ImageRead.f impl_ImageRead.f
  by_cases h6 : l.length < 6
  · have c6 : (l.length : Int) < 6 := by omega
    simp only [c6, if_true]
    exact ⟨[], 1, by simp [spec_ImageRead.j0], by simp [impl_ImageRead.j0], hnil⟩
  · have c6 : ¬ (l.length : Int) < 6 := by omega
    have c4 : (4 : Int) ≤ (l.length : Int) := by omega
    simp only [c6, c4, if_true, if_false]
    generalize ((strOfNums (l.take 4)).toList != ([50, 67, 76, 75] : List UInt8)) = b
    simp only [spec_ImageRead.j0, impl_ImageRead.j0]
    cases b with
    | true => exact ⟨[], 1, by simp, by simp, hnil⟩
    | false =>
      have e4 : wrap64 (rd l 4) = l[4]'(by omega) := rdB l hb 4 (by omega)
      have e5 : wrap64 (rd l 5) = l[5]'(by omega) := rdB l hb 5 (by omega)
      have b4 := hb _ (List.getElem_mem (show 4 < l.length by omega))
      have b5 := hb _ (List.getElem_mem (show 5 < l.length by omega))
      have eD : (l.drop 6).length = l.length - 6 := List.length_drop
      rw [e4, e5]
      generalize l[4]'(by omega) = c at b4
      have d4 : (4 : Int) < (l.length : Int) := by omega
      have d5 : (5 : Int) < (l.length : Int) := by omega
      have d6 : (6 : Int) ≤ (l.length : Int) := by omega
      simp only [Bool.false_eq_true, d4, d5, d6, if_true, if_false]
      rw [l1In_eq, within_eq]
      simp only [Option.bind_some, decide_eq_true_eq]
      by_cases hc : 1 ≤ c ∧ c ≤ 8
      · simp only [hc, and_self, if_true]
        rw [wrap_small (n := c * 256) (by omega) (by omega), wrap_small (n := (l.length : Int) - 6) (by omega) (by omega)]
        by_cases h3 : ((l.drop 6).length : Int) < c * 256
        · rw [if_pos (by omega), if_pos h3]
          exact ⟨[], 3, rfl, rfl, hnil⟩
        · rw [if_neg (by omega), if_neg h3]
          by_cases h4 : ((l.drop 6).length : Int) > c * 256
          · rw [if_pos (by omega), if_pos h4]
            exact ⟨[], 4, rfl, rfl, hnil⟩
          · rw [if_neg (by omega), if_neg h4, if_pos (by omega), if_pos (by omega)]
            obtain ⟨n, rfl⟩ : ∃ n : Nat, c = n := ⟨c.toNat, by omega⟩
            have hs := specIR_l0 l hb n (by omega) (by omega) n 0 (by omega) (by omega) k (by omega)
            have hi := implIR_l0 (l.drop 6) (fun x hx => hb x (List.mem_of_mem_drop hx)) n (by omega) (by omega) (l[5]'(by omega)) (l.drop 6).length 0 (by omega) (by omega) k (by omega)
            have ez : rowsAt (l.drop 6) n 0 = List.replicate n [] := by
              unfold rowsAt
              simp [List.map_const']
            have e5' : l.getD 5 0 = l[5]'(by omega) := by simp [List.getD_eq_getElem?_getD, show 5 < l.length by omega]
            simp only [Nat.mul_zero, List.take_zero] at hs hi
            rw [ez] at hi
            have hs' : spec_ImageRead.l0 k l (n : Int) 0 0 [] = _ := hs
            have hi' : impl_ImageRead.l0 k (l[5]'(by omega)) (l.drop 6) ((l.drop 6).length : Int) 0 (List.replicate n []) = _ := hi
            rw [Int.toNat_natCast, hs', hi', e5']
            generalize l[5]'(by omega) = g at b5
            by_cases hg : (l.drop 6).sum % 256 = g
            · rw [if_pos hg, if_pos (by omega)]
              exact ⟨_, _, rfl, rfl, by rw [rowsOf_length]; omega, rowsOf_rows _ _⟩
            · rw [if_neg hg, if_neg (by omega)]
              exact ⟨[], 5, rfl, rfl, hnil⟩
      · simp only [hc, if_false]
        exact ⟨[], 2, rfl, rfl, hnil⟩
end LFnExactImageRead
open LFnExactImageRead

theorem FnExactImageRead (l0 : List Int) (w0 : l0.length ≤ 9223372036854775807) (z0 : ∀ x ∈ l0, (Lit.int .u8 x).wf = true) : ∃ k, (laws_FnExactImageRead.f k l0) = some true := by
  obtain ⟨K, hK⟩ : ∃ K : Nat, 400000000 ≤ K := ⟨_, Nat.le_refl _⟩
  refine ⟨K, ?_⟩
  unfold laws_FnExactImageRead.f
  by_cases hb : 1048576 < (l0.length : Int)
  · rw [if_pos hb]
  · rw [if_neg hb, toByteS_ok l0 (by omega) K (by omega)]
    have hbytes : ∀ x ∈ l0, 0 ≤ x ∧ x ≤ 255 := by
      intro x hx
      have := z0 x hx
      simp [Lit.wf, IntKind.min, IntKind.max, IntKind.signed, IntKind.bits] at this
      omega
    obtain ⟨r, n, e1, e2, h1, h2⟩ := imageRead_both l0 (by omega) hbytes K (by omega)
    obtain ⟨q, m, e3, hq, e4⟩ := markHeldImage r h2 h1 K (by omega)
    simp only [Option.bind_some]
    rw [e1, e2]
    simp only [Option.bind_some]
    rw [eqImage_self r h1 h2 K (by omega), eqByteS_self l0 (by omega) K (by omega), markByteS_all l0 1 (by omega) (by omega) (by omega) K (by omega), e3]
    simp only [Option.bind_some]
    rw [e4]
    simp only [Option.bind_some]
    rw [if_pos (by refine ⟨?_, ?_, ?_, ?_, ?_, ?_⟩ <;> first | trivial | rfl | omega)]

end Go.Proofs.Ytmiaocoffmobcaa.Pure
