/- Walks of functions that the law FnMemory reaches: each comes to just what its Lean function says. (Begun as the texts that print.sh wrote for this claim; some of them, and those that it does not write, are mine.) No condition. -/
import Derived.Test.YtmkccgbfgebfbaaMFnMemoryx1
namespace Go.Proofs.Ytmkccgbfgebfbaa.MFnMemory
open Go.RowKit Go.Proofs.YtmkccgbfgebfbaaW.PrintWords Go.Proofs.YtmkccgbfgebfbaaW.PrintLast Go.Proofs.YtmkccgbfgebfbaaW.PrintMore
attribute [local go_sem] max2_int min2_int max_two min_two max_three min_three max_four min_four   -- for this text's walks alone
set_option linter.unusedVariables false
set_option linter.unusedSimpArgs false

/-! ### spec_OpLen: function 81 -/
def spec_OpLen.f (a0 : Int) : Option (Int) := (spec_l1In.f a0 0 29).bind fun t195 => (if t195 = true then ((some (([1, 2, 3, 3, 2, 2, 2, 2, 2, 2, 1, 1, 1, 1, 3, 3, 3, 3, 3, 3, 3, 1, 1, 1, 1, 1, 1, 1, 1, 3] : List Int) : List Int)).bind fun y196 => (if 0 ≤ a0 then (if a0 < (y196.length : Int) then (some (rd y196 a0)) else (none)) else (none))) else (some 1))
set_option maxHeartbeats 8000000 in
set_option maxRecDepth 100000 in
theorem spec_OpLen.calls (a0 : Int) (r : Int) (w : World) (h : spec_OpLen.f a0 = some r) :
  Calls Try.prog 81 #[.int .i64 a0] w fun e w' => e = .returned (.int .i64 r) ∧ Below w.heap.size w w' := by
 have HB := Aside0.mk (Below.refl w.heap.size w)
 have H : ((spec_l1In.f a0 0 29).bind fun t195 => (if t195 = true then ((some (([1, 2, 3, 3, 2, 2, 2, 2, 2, 2, 1, 1, 1, 1, 3, 3, 3, 3, 3, 3, 3, 1, 1, 1, 1, 1, 1, 1, 1, 3] : List Int) : List Int)).bind fun y196 => (if 0 ≤ a0 then (if a0 < (y196.length : Int) then (some (rd y196 a0)) else (none)) else (none))) else (some 1))) = some r := h
 clear h
 replace H := Option.bind_eq_some_iff.mp H
 obtain ⟨t195, A20, H⟩ := H
 replace H : (if t195 = true then ((some (([1, 2, 3, 3, 2, 2, 2, 2, 2, 2, 1, 1, 1, 1, 3, 3, 3, 3, 3, 3, 3, 1, 1, 1, 1, 1, 1, 1, 1, 3] : List Int) : List Int)).bind fun y196 => (if 0 ≤ a0 then (if a0 < (y196.length : Int) then (some (rd y196 a0)) else (none)) else (none))) else (some 1)) = some r := H
 have A2 := Aside0.mk A20
 clear A20
 by_cases c3 : t195 = true
 ·subst c3
  have H1 : ((some (([1, 2, 3, 3, 2, 2, 2, 2, 2, 2, 1, 1, 1, 1, 3, 3, 3, 3, 3, 3, 3, 1, 1, 1, 1, 1, 1, 1, 1, 3] : List Int) : List Int)).bind fun y196 => (if 0 ≤ a0 then (if a0 < (y196.length : Int) then (some (rd y196 a0)) else (none)) else (none))) = some r := by rw [if_pos rfl] at H; exact H
  clear H
  have H := H1
  clear H1
  obtain ⟨y196, hy196⟩ : ∃ y_ : List Int, y_ = (([1, 2, 3, 3, 2, 2, 2, 2, 2, 2, 1, 1, 1, 1, 3, 3, 3, 3, 3, 3, 3, 1, 1, 1, 1, 1, 1, 1, 1, 3] : List Int)) := ⟨_, rfl⟩
  replace H : (if 0 ≤ a0 then (if a0 < (y196.length : Int) then (some (rd y196 a0)) else (none)) else (none)) = some r := by first | (rw [hy196]; with_reducible exact H) | (have H2_ := (Option.bind_some _ _).symm.trans H; rw [hy196]; with_reducible exact H2_) | (have H2_ := (Option.bind_some _ _).symm.trans H; with_reducible exact H2_) | with_reducible exact H | (rw [hy196]; exact H) | exact H
  have Ny196 := Aside0.mk hy196
  clear hy196
  by_cases c4 : 0 ≤ a0
  ·rw [if_pos c4] at H
   have c4b0 : decide (0 ≤ a0) = true := decide_eq_true c4
   clear c4
   by_cases c5 : a0 < (y196.length : Int)
   ·rw [if_pos c5] at H
    have c5b0 : decide (a0 < (y196.length : Int)) = true := decide_eq_true c5
    clear c5
    obtain rfl := Option.some.inj H
    go_enter Try.func81, Try.ntmps81
    go_wp2_with (first | ((with_reducible refine gate_callee (f := 68) rfl ?_); refine goesM_ (some 4) rfl rfl Try.func68 #[.int .i64 a0, .int .i64 0, .int .i64 29] ?_; (with_reducible refine (spec_l1In.calls a0 0 29 true _ A2.out).mono ?_); rintro e w' ⟨rfl, ⟨nd, rfl⟩⟩; refine ⟨_, rfl, ?_⟩) | ((with_reducible refine gate_dst (N := 6) rfl ?_); refine Kd.R_lit (Kd.int .i64) _ 3 ?hg (N := 6) ?hd (xs := ([1, 2, 3, 3, 2, 2, 2, 2, 2, 2, 1, 1, 1, 1, 3, 3, 3, 3, 3, 3, 3, 1, 1, 1, 1, 1, 1, 1, 1, 3] : List Int)) (inner := [.int .i64 1, .int .i64 2, .int .i64 3, .int .i64 3, .int .i64 2, .int .i64 2, .int .i64 2, .int .i64 2, .int .i64 2, .int .i64 2, .int .i64 1, .int .i64 1, .int .i64 1, .int .i64 1, .int .i64 3, .int .i64 3, .int .i64 3, .int .i64 3, .int .i64 3, .int .i64 3, .int .i64 3, .int .i64 1, .int .i64 1, .int .i64 1, .int .i64 1, .int .i64 1, .int .i64 1, .int .i64 1, .int .i64 1, .int .i64 3]) (ok := fun _ => True) (okp := fun _ => True) ?hr ?hp (fun _ hk => hk) trivial (Below.refl _ _) (Nat.le_refl _) (by simp) ?_; (case hd => rfl); (case hg => rfl); (case hr => first | (go_simp; done) | (go_simp; rfl)); (case hp => exact (Reps.one (show Kd.M (Kd.int .i64) _ _ _ 1 [.int .i64 1] from rfl) (Reps.one (show Kd.M (Kd.int .i64) _ _ _ 2 [.int .i64 2] from rfl) (Reps.one (show Kd.M (Kd.int .i64) _ _ _ 3 [.int .i64 3] from rfl) (Reps.one (show Kd.M (Kd.int .i64) _ _ _ 3 [.int .i64 3] from rfl) (Reps.one (show Kd.M (Kd.int .i64) _ _ _ 2 [.int .i64 2] from rfl) (Reps.one (show Kd.M (Kd.int .i64) _ _ _ 2 [.int .i64 2] from rfl) (Reps.one (show Kd.M (Kd.int .i64) _ _ _ 2 [.int .i64 2] from rfl) (Reps.one (show Kd.M (Kd.int .i64) _ _ _ 2 [.int .i64 2] from rfl) (Reps.one (show Kd.M (Kd.int .i64) _ _ _ 2 [.int .i64 2] from rfl) (Reps.one (show Kd.M (Kd.int .i64) _ _ _ 2 [.int .i64 2] from rfl) (Reps.one (show Kd.M (Kd.int .i64) _ _ _ 1 [.int .i64 1] from rfl) (Reps.one (show Kd.M (Kd.int .i64) _ _ _ 1 [.int .i64 1] from rfl) (Reps.one (show Kd.M (Kd.int .i64) _ _ _ 1 [.int .i64 1] from rfl) (Reps.one (show Kd.M (Kd.int .i64) _ _ _ 1 [.int .i64 1] from rfl) (Reps.one (show Kd.M (Kd.int .i64) _ _ _ 3 [.int .i64 3] from rfl) (Reps.one (show Kd.M (Kd.int .i64) _ _ _ 3 [.int .i64 3] from rfl) (Reps.one (show Kd.M (Kd.int .i64) _ _ _ 3 [.int .i64 3] from rfl) (Reps.one (show Kd.M (Kd.int .i64) _ _ _ 3 [.int .i64 3] from rfl) (Reps.one (show Kd.M (Kd.int .i64) _ _ _ 3 [.int .i64 3] from rfl) (Reps.one (show Kd.M (Kd.int .i64) _ _ _ 3 [.int .i64 3] from rfl) (Reps.one (show Kd.M (Kd.int .i64) _ _ _ 3 [.int .i64 3] from rfl) (Reps.one (show Kd.M (Kd.int .i64) _ _ _ 1 [.int .i64 1] from rfl) (Reps.one (show Kd.M (Kd.int .i64) _ _ _ 1 [.int .i64 1] from rfl) (Reps.one (show Kd.M (Kd.int .i64) _ _ _ 1 [.int .i64 1] from rfl) (Reps.one (show Kd.M (Kd.int .i64) _ _ _ 1 [.int .i64 1] from rfl) (Reps.one (show Kd.M (Kd.int .i64) _ _ _ 1 [.int .i64 1] from rfl) (Reps.one (show Kd.M (Kd.int .i64) _ _ _ 1 [.int .i64 1] from rfl) (Reps.one (show Kd.M (Kd.int .i64) _ _ _ 1 [.int .i64 1] from rfl) (Reps.one (show Kd.M (Kd.int .i64) _ _ _ 1 [.int .i64 1] from rfl) (Reps.one (show Kd.M (Kd.int .i64) _ _ _ 3 [.int .i64 3] from rfl) (Reps.none _ _)))))))))))))))))))))))))))))))); intro v197 w6 ho7 hb hg_ hnew_; clear hg_ hnew_; (first | rw [← Ny196.out] at ho7 | (simp only [Int.reduceToNat] at ho7; rw [← Ny196.out] at ho7)); have n0_ := Aside0.mk (Kd.R_lower ho7 (below_size (bw HB.out))); have n1_ := Aside0.mk (below_step (bw HB.out) hb); clear HB; have HO198 := n0_; have HB := n1_; clear n0_ n1_; clear hb ho7; obtain ⟨Ao8, co8, eo8⟩ := Kd.R_slice HO198.out; subst eo8; have p199 : 0 ≤ (a0 : Int) := dt; have q199 : a0 < (y196.length : Int) := dt; obtain ⟨ad199, e199, hx199_0⟩ := Kd.at_int (Kd.R_reads' HO198.out).2.2 a0 p199 q199; cases e199; replace p199 := eq_true p199; replace q199 := eq_true q199))
    go_ret
    exact ⟨rt, bw HB.out⟩
   ·rw [if_neg c5] at H
    exact absurd H (by simp)
  ·rw [if_neg c4] at H
   exact absurd H (by simp)
 ·replace c3 := Bool.eq_false_iff.mpr c3
  subst c3
  have H1 : (some 1) = some r := by rw [if_neg (show ¬ (false = true) by decide)] at H; exact H
  clear H
  have H := H1
  clear H1
  obtain rfl := Option.some.inj H
  go_enter Try.func81, Try.ntmps81
  go_wp2_with (first | ((with_reducible refine gate_callee (f := 68) rfl ?_); refine goesM_ (some 4) rfl rfl Try.func68 #[.int .i64 a0, .int .i64 0, .int .i64 29] ?_; (with_reducible refine (spec_l1In.calls a0 0 29 false _ A2.out).mono ?_); rintro e w' ⟨rfl, ⟨nd, rfl⟩⟩; refine ⟨_, rfl, ?_⟩))
  go_ret
  exact ⟨rt, bw HB.out⟩

/-! ### spec_l4Digits: function 133 -/
def spec_l4Digits.l0 : Nat → Int → ByteArray → Option (ByteArray)
 | 0, _, _ => none
 | k + 1, x0, x3 => if x0 > 0 then ((some (([(wrap64 (48 + (Int.tmod x0 10))) % 256] : List Int) : List Int)).bind fun y200 => (if (strOfNums y200).size + x3.size ≤ 9223372036854775807 then (spec_l4Digits.l0 k (wrap64 (Int.tdiv x0 10)) ((strOfNums y200) ++ x3)) else (none))) else (some x3)
def spec_l4Digits.f (k : Nat) (a0 : Int) : Option (ByteArray) := if a0 = 0 then (some (⟨#[48]⟩ : ByteArray)) else (spec_l4Digits.l0 k a0 (⟨#[]⟩ : ByteArray))
theorem spec_l4Digits.mono_l : ∀ k, (∀ y0 y1, LeO (spec_l4Digits.l0 k y0 y1) (spec_l4Digits.l0 (k + 1) y0 y1))
 | 0 => fun _ _ r h => by simp [spec_l4Digits.l0] at h
 | k + 1 => by
  have ih0 := spec_l4Digits.mono_l k
  ·intro y0 y1
   unfold spec_l4Digits.l0
   repeat' first
   | (with_reducible exact ih0 _ _)
   | (with_reducible exact LeO.refl _)
   | (with_reducible exact LeO.none _)
   | (with_reducible refine LeO.ite ?_ ?_)
   | (with_reducible refine LeO.bind ?_ (fun _ => ?_))
   | exact ih0 _ _
   | exact LeO.none _
   | refine LeO.ite ?_ ?_
   | refine LeO.bind ?_ (fun _ => ?_)
theorem spec_l4Digits.mono : ∀ a0 k, LeO (spec_l4Digits.f k a0) (spec_l4Digits.f (k + 1) a0) := by
 intro a0 k
 have ih0 := spec_l4Digits.mono_l k
 unfold spec_l4Digits.f
 repeat' first
   | (with_reducible exact ih0 _ _)
   | (with_reducible exact LeO.refl _)
   | (with_reducible exact LeO.none _)
   | (with_reducible refine LeO.ite ?_ ?_)
   | (with_reducible refine LeO.bind ?_ (fun _ => ?_))
   | exact ih0 _ _
   | exact LeO.none _
   | refine LeO.ite ?_ ?_
   | refine LeO.bind ?_ (fun _ => ?_)
set_option maxHeartbeats 8000000 in
set_option maxRecDepth 100000 in
theorem spec_l4Digits.calls (k : Nat) (a0 : Int) (r : ByteArray) (w : World) (h : spec_l4Digits.f k a0 = some r) :
  Calls Try.prog 133 #[.int .i64 a0] w fun e w' => e = .returned (.string r) ∧ Below w.heap.size w w' := by
 have HB := Aside0.mk (Below.refl w.heap.size w)
 have H : (if a0 = 0 then (some (⟨#[48]⟩ : ByteArray)) else (spec_l4Digits.l0 k a0 (⟨#[]⟩ : ByteArray))) = some r := h
 clear h
 by_cases c2 : a0 = 0
 ·rw [if_pos c2] at H
  have c2b0 : (a0 == 0) = true := beq_iff_eq.mpr c2
  have c2b1 : (a0 != 0) = false := bne_eq_false_iff_eq.mpr c2
  clear c2
  obtain rfl := Option.some.inj H
  go_enter Try.func133, Try.ntmps133
  go_wp2
  go_ret
  exact ⟨rt, bw HB.out⟩
 ·rw [if_neg c2] at H
  have c2b0 : (a0 == 0) = false := beq_eq_false_iff_ne.mpr c2
  have c2b1 : (a0 != 0) = true := bne_iff_ne.mpr c2
  have H' := Aside0.mk H
  clear H
  go_enter Try.func133, Try.ntmps133
  go_wp2
  go_loopg [0, 3] k (fun kq v0 v3 w' => ∃ (x0_1 : Int) (x3_1 : ByteArray), v0 = .int .i64 x0_1 ∧ v3 = .string x3_1 ∧ Aside0 (spec_l4Digits.l0 kq x0_1 x3_1 = some r) ∧ Aside0 (kq ≤ k) ∧ Aside0 (Below w.heap.size w w'))
  case atStart => exact ⟨(a0), ((⟨#[]⟩ : ByteArray)), (by first | rfl | (simp; done) | (simp [*]; done)), (by first | rfl | (simp; done) | (simp [*]; done)), H', ⟨Nat.le_refl _⟩, ⟨bw HB.out⟩⟩
  case round =>
   clear H'
   (try clear c1); (try clear c2); (try clear c2b0); (try clear c2b1); (try clear p2)
   obtain ⟨x0_1, x3_1, rfl, rfl, HA, HK1, HB⟩ := hrel
   cases gk with
   | zero => exact absurd HA.out (by simp [spec_l4Digits.l0])
   | succ k1 =>
    have H := HA.out
    clear HA
    simp only [spec_l4Digits.l0] at H
    by_cases c3 : x0_1 > 0
    ·rw [if_pos c3] at H
     have c3b0 : decide (0 < x0_1) = true := decide_eq_true c3
     clear c3
     obtain ⟨y200, hy200⟩ : ∃ y_ : List Int, y_ = (([(wrap64 (48 + (Int.tmod x0_1 10))) % 256] : List Int)) := ⟨_, rfl⟩
     replace H : (if (strOfNums y200).size + x3_1.size ≤ 9223372036854775807 then (spec_l4Digits.l0 k1 (wrap64 (Int.tdiv x0_1 10)) ((strOfNums y200) ++ x3_1)) else (none)) = some r := by first | (rw [hy200]; with_reducible exact H) | (have H2_ := (Option.bind_some _ _).symm.trans H; rw [hy200]; with_reducible exact H2_) | (have H2_ := (Option.bind_some _ _).symm.trans H; with_reducible exact H2_) | with_reducible exact H | (rw [hy200]; exact H) | exact H
     have Ny200 := Aside0.mk hy200
     clear hy200
     by_cases c4 : (strOfNums y200).size + x3_1.size ≤ 9223372036854775807
     ·rw [if_pos c4] at H
      have c4b0 := eq_true c4
      have c4b1 : decide ((strOfNums y200).size + x3_1.size ≤ 9223372036854775807) = true := decide_eq_true c4
      try have c4b2 : (9223372036854775807 < (strOfNums y200).size + x3_1.size) = False := eq_false (Nat.not_lt.2 c4)
      have H' := Aside0.mk H
      clear H
      go_wp2_with (first | ((with_reducible refine gate_dst (N := 12) rfl ?_); refine Kd.R_lit (Kd.int .u8) _ 5 ?hg (N := 12) ?hd (xs := ([(wrap64 (48 + (Int.tmod x0_1 10))) % 256] : List Int)) (inner := [.int .u8 ((wrap64 (48 + (Int.tmod x0_1 10))) % 256)]) (ok := fun _ => True) (okp := fun _ => True) ?hr ?hp (fun _ hk => hk) trivial (Below.refl _ _) (Nat.le_refl _) (by simp) ?_; (case hd => rfl); (case hg => rfl); (case hr => first | (go_simp; done) | (go_simp; rfl)); (case hp => exact (Reps.one (show Kd.M (Kd.int .u8) _ _ _ ((wrap64 (48 + (Int.tmod x0_1 10))) % 256) [.int .u8 ((wrap64 (48 + (Int.tmod x0_1 10))) % 256)] from rfl) (Reps.none _ _))); intro v201 w5 ho6 hb hg_ hnew_; clear hg_ hnew_; (first | rw [← Ny200.out] at ho6 | (simp only [Int.reduceToNat] at ho6; rw [← Ny200.out] at ho6)); have n0_ := Aside0.mk (Kd.R_lower ho6 (below_size (bw HB.out))); have n1_ := Aside0.mk (below_step (bw HB.out) hb); clear HB; have HO202 := n0_; have HB := n1_; clear n0_ n1_; clear hb ho6; have hcv7 := own_string (P := Try.prog) Try.underlying22 Try.underlying5 Try.underlying9 (Kd.own_of_R HO202.out)))
      go_roundg k1
      case measure => have := HK1.out; omega
      case rel => exact ⟨(wrap64 (Int.tdiv x0_1 10)), ((strOfNums y200) ++ x3_1), (by first | rfl | (simp; done) | (simp [*]; done)), (by first | rfl | (simp; done) | (simp [*]; done)), H', ⟨by have := HK1.out; omega⟩, ⟨bw HB.out⟩⟩
     ·rw [if_neg c4] at H
      exact absurd H (by simp)
    ·rw [if_neg c3] at H
     have c3b0 : decide (0 < x0_1) = false := decide_eq_false c3
     clear c3
     obtain rfl := Option.some.inj H
     go_wp2
     go_ret
     exact ⟨rt, bw HB.out⟩

/-! ### spec_l4Num: function 131 -/
mutual
def spec_l4Num.j0 : Nat → ByteArray → Bool → Option (Int)
 | 0, _, _ => none
 | k + 1, x0, x11 => if x11 = true then (some (-1)) else (spec_l4Num.l0 k x0 0 0)
def spec_l4Num.l0 : Nat → ByteArray → Int → Int → Option (Int)
 | 0, _, _, _ => none
 | k + 1, x0, x3, x4 => if x4 < (x0.size : Int) then (if 0 ≤ x4 then (if (bt x0 x4) < 48 then (some (-1)) else (if (bt x0 x4) > 57 then (some (-1)) else (spec_l4Num.l0 k x0 (wrap64 ((wrap64 ((wrap64 (10 * x3)) + (wrap64 (bt x0 x4)))) - 48)) (wrap64 (x4 + 1))))) else (none)) else ((spec_l4Digits.f k x3).bind fun t203 => (if t203.toList = x0.toList then (some x3) else (some (-1))))
end
def spec_l4Num.f (k : Nat) (a0 : ByteArray) : Option (Int) := if a0.toList = ([] : List UInt8) then (spec_l4Num.j0 k a0 true) else (spec_l4Num.j0 k a0 (decide ((a0.size : Int) > 5)))
theorem spec_l4Num.mono_l : ∀ k, (∀ y0 y1, LeO (spec_l4Num.j0 k y0 y1) (spec_l4Num.j0 (k + 1) y0 y1)) ∧ (∀ y0 y1 y2, LeO (spec_l4Num.l0 k y0 y1 y2) (spec_l4Num.l0 (k + 1) y0 y1 y2))
 | 0 => ⟨fun _ _ r h => by simp [spec_l4Num.j0] at h, fun _ _ _ r h => by simp [spec_l4Num.l0] at h⟩
 | k + 1 => by
  obtain ⟨ih0, ih1⟩ := spec_l4Num.mono_l k
  refine ⟨?_, ?_⟩
  ·intro y0 y1
   unfold spec_l4Num.j0
   repeat' first
   | (with_reducible exact ih0 _ _)
   | (with_reducible exact ih1 _ _ _)
   | (with_reducible exact spec_l4Digits.mono _ _)
   | (with_reducible exact LeO.refl _)
   | (with_reducible exact LeO.none _)
   | (with_reducible refine LeO.ite ?_ ?_)
   | (with_reducible refine LeO.bind ?_ (fun _ => ?_))
   | exact ih0 _ _
   | exact ih1 _ _ _
   | exact spec_l4Digits.mono _ _
   | exact LeO.none _
   | refine LeO.ite ?_ ?_
   | refine LeO.bind ?_ (fun _ => ?_)
  ·intro y0 y1 y2
   unfold spec_l4Num.l0
   repeat' first
   | (with_reducible exact ih0 _ _)
   | (with_reducible exact ih1 _ _ _)
   | (with_reducible exact spec_l4Digits.mono _ _)
   | (with_reducible exact LeO.refl _)
   | (with_reducible exact LeO.none _)
   | (with_reducible refine LeO.ite ?_ ?_)
   | (with_reducible refine LeO.bind ?_ (fun _ => ?_))
   | exact ih0 _ _
   | exact ih1 _ _ _
   | exact spec_l4Digits.mono _ _
   | exact LeO.none _
   | refine LeO.ite ?_ ?_
   | refine LeO.bind ?_ (fun _ => ?_)
theorem spec_l4Num.mono : ∀ a0 k, LeO (spec_l4Num.f k a0) (spec_l4Num.f (k + 1) a0) := by
 intro a0 k
 obtain ⟨ih0, ih1⟩ := spec_l4Num.mono_l k
 unfold spec_l4Num.f
 repeat' first
   | (with_reducible exact ih0 _ _)
   | (with_reducible exact ih1 _ _ _)
   | (with_reducible exact spec_l4Digits.mono _ _)
   | (with_reducible exact LeO.refl _)
   | (with_reducible exact LeO.none _)
   | (with_reducible refine LeO.ite ?_ ?_)
   | (with_reducible refine LeO.bind ?_ (fun _ => ?_))
   | exact ih0 _ _
   | exact ih1 _ _ _
   | exact spec_l4Digits.mono _ _
   | exact LeO.none _
   | refine LeO.ite ?_ ?_
   | refine LeO.bind ?_ (fun _ => ?_)
set_option maxHeartbeats 8000000 in
set_option maxRecDepth 100000 in
theorem spec_l4Num.calls (k : Nat) (a0 : ByteArray) (r : Int) (w : World) (h : spec_l4Num.f k a0 = some r) :
  Calls Try.prog 131 #[.string a0] w fun e w' => e = .returned (.int .i64 r) ∧ Below w.heap.size w w' := by
 have HB := Aside0.mk (Below.refl w.heap.size w)
 have H : (if a0.toList = ([] : List UInt8) then (spec_l4Num.j0 k a0 true) else (spec_l4Num.j0 k a0 (decide ((a0.size : Int) > 5)))) = some r := h
 clear h
 have HC2 := Aside0.mk H
 clear H
 go_enter Try.func131, Try.ntmps131
 go_upto_region 1 with (fail)
 go_cut [11] (fun v11 wc => ∃ (kq : Nat) (x11_1 : Bool), v11 = .bool x11_1 ∧ Aside0 (spec_l4Num.j0 kq a0 x11_1 = some r) ∧ Aside0 (kq ≤ k) ∧ Aside0 (Below w.heap.size w wc))
 case first =>
  have H := HC2.out
  clear HC2
  by_cases c3 : a0.toList = ([] : List UInt8)
  ·rw [if_pos c3] at H
   have c3b0 : (a0.toList == ([] : List UInt8)) = true := beq_iff_eq.mpr c3
   have c3b1 : (a0.toList != ([] : List UInt8)) = false := bne_eq_false_iff_eq.mpr c3
   clear c3
   (first | rw [c3b0] | (simp only [i64_w, i32_w]; rw [c3b0]) | skip)
   have H' := Aside0.mk H
   clear H
   go_wp2
   go_meet
   case rel => exact ⟨_, (true), (by first | rfl | (simp; done) | (simp [*]; done)), H', ⟨by first | omega | exact Nat.le_refl _⟩, ⟨bw HB.out⟩⟩
  ·rw [if_neg c3] at H
   have c3b0 : (a0.toList == ([] : List UInt8)) = false := beq_eq_false_iff_ne.mpr c3
   have c3b1 : (a0.toList != ([] : List UInt8)) = true := bne_iff_ne.mpr c3
   (first | rw [c3b0] | (simp only [i64_w, i32_w]; rw [c3b0]) | skip)
   have H' := Aside0.mk H
   clear H
   go_wp2
   go_meet
   case rel => exact ⟨_, (decide ((a0.size : Int) > 5)), (by first | rfl | (simp; done) | (simp [*]; done)), H', ⟨by first | omega | exact Nat.le_refl _⟩, ⟨bw HB.out⟩⟩
 case rest =>
  clear HC2; (try clear c1); (try clear p2); (try clear c3); (try clear c3b0); (try clear c3b1)
  obtain ⟨kq, x11_1, rfl, HA, HJ1, HB⟩ := hcut
  cases kq with
  | zero => exact absurd HA.out (by simp [spec_l4Num.j0])
  | succ kj1 =>
   have H := HA.out
   clear HA
   simp only [spec_l4Num.j0] at H
   by_cases c4 : x11_1 = true
   ·subst c4
    have H1 : (some (-1)) = some r := by rw [if_pos rfl] at H; exact H
    clear H
    have H := H1
    clear H1
    obtain rfl := Option.some.inj H
    go_wp2
    go_ret
    exact ⟨rt, bw HB.out⟩
   ·replace c4 := Bool.eq_false_iff.mpr c4
    subst c4
    have H1 : (spec_l4Num.l0 kj1 a0 0 0) = some r := by rw [if_neg (show ¬ (false = true) by decide)] at H; exact H
    clear H
    have H := H1
    clear H1
    have H' := Aside0.mk H
    clear H
    go_wp2
    go_loopg [3, 4] kj1 (fun kq v3 v4 w' => ∃ (x3_2 : Int) (x4_2 : Int), v3 = .int .i64 x3_2 ∧ v4 = .int .i64 x4_2 ∧ Aside0 (spec_l4Num.l0 kq a0 x3_2 x4_2 = some r) ∧ Aside0 (kq ≤ kj1) ∧ Aside0 (Below w.heap.size w w'))
    case atStart => exact ⟨(0), (0), (by first | rfl | (simp; done) | (simp [*]; done)), (by first | rfl | (simp; done) | (simp [*]; done)), H', ⟨Nat.le_refl _⟩, ⟨bw HB.out⟩⟩
    case round =>
     clear H'
     (try clear c1); (try clear p2); (try clear c3); (try clear c3b0); (try clear c3b1); (try clear c4); (try clear p2)
     obtain ⟨x3_2, x4_2, rfl, rfl, HA, HK2, HB⟩ := hrel
     cases gk with
     | zero => exact absurd HA.out (by simp [spec_l4Num.l0])
     | succ k2 =>
      have H := HA.out
      clear HA
      simp only [spec_l4Num.l0] at H
      by_cases c5 : x4_2 < (a0.size : Int)
      ·rw [if_pos c5] at H
       have c5b0 : decide (x4_2 < (a0.size : Int)) = true := decide_eq_true c5
       clear c5
       by_cases c6 : 0 ≤ x4_2
       ·rw [if_pos c6] at H
        have c6b0 : decide (0 ≤ x4_2) = true := decide_eq_true c6
        clear c6
        by_cases c8 : (bt a0 x4_2) < 48
        ·rw [if_pos c8] at H
         have c8b0 : decide ((bt a0 x4_2) < 48) = true := decide_eq_true c8
         clear c8
         obtain rfl := Option.some.inj H
         have p7 : 0 ≤ (x4_2 : Int) := dt
         have q7 : x4_2 < (a0.size : Int) := dt
         have hx7 := bt_at a0 x4_2
         replace p7 := eq_true p7
         replace q7 := eq_true q7
         go_wp2
         go_ret
         exact ⟨rt, bw HB.out⟩
        ·rw [if_neg c8] at H
         have c8b0 : decide ((bt a0 x4_2) < 48) = false := decide_eq_false c8
         clear c8
         by_cases c10 : (bt a0 x4_2) > 57
         ·rw [if_pos c10] at H
          have c10b0 : decide (57 < (bt a0 x4_2)) = true := decide_eq_true c10
          clear c10
          obtain rfl := Option.some.inj H
          have p7 : 0 ≤ (x4_2 : Int) := dt
          have q7 : x4_2 < (a0.size : Int) := dt
          have hx7 := bt_at a0 x4_2
          replace p7 := eq_true p7
          replace q7 := eq_true q7
          have p9 : 0 ≤ (x4_2 : Int) := dt
          have q9 : x4_2 < (a0.size : Int) := dt
          have hx9 := bt_at a0 x4_2
          replace p9 := eq_true p9
          replace q9 := eq_true q9
          go_wp2
          go_ret
          exact ⟨rt, bw HB.out⟩
         ·rw [if_neg c10] at H
          have c10b0 : decide (57 < (bt a0 x4_2)) = false := decide_eq_false c10
          clear c10
          have H' := Aside0.mk H
          clear H
          have p7 : 0 ≤ (x4_2 : Int) := dt
          have q7 : x4_2 < (a0.size : Int) := dt
          have hx7 := bt_at a0 x4_2
          replace p7 := eq_true p7
          replace q7 := eq_true q7
          have p9 : 0 ≤ (x4_2 : Int) := dt
          have q9 : x4_2 < (a0.size : Int) := dt
          have hx9 := bt_at a0 x4_2
          replace p9 := eq_true p9
          replace q9 := eq_true q9
          have p11 : 0 ≤ (x4_2 : Int) := dt
          have q11 : x4_2 < (a0.size : Int) := dt
          have hx11 := bt_at a0 x4_2
          replace p11 := eq_true p11
          replace q11 := eq_true q11
          go_wp2
          go_roundg k2
          case measure => have := HJ1.out; have := HK2.out; omega
          case rel => exact ⟨(wrap64 ((wrap64 ((wrap64 (10 * x3_2)) + (wrap64 (bt a0 x4_2)))) - 48)), (wrap64 (x4_2 + 1)), (by first | rfl | (simp; done) | (simp [*]; done)), (by first | rfl | (simp; done) | (simp [*]; done)), H', ⟨by have := HJ1.out; have := HK2.out; omega⟩, ⟨bw HB.out⟩⟩
       ·rw [if_neg c6] at H
        exact absurd H (by simp)
      ·rw [if_neg c5] at H
       have c5b0 : decide (x4_2 < (a0.size : Int)) = false := decide_eq_false c5
       clear c5
       replace H := Option.bind_eq_some_iff.mp H
       obtain ⟨t203, A120, H⟩ := H
       replace H : (if t203.toList = a0.toList then (some x3_2) else (some (-1))) = some r := H
       have A12 := Aside0.mk A120
       clear A120
       by_cases c13 : t203.toList = a0.toList
       ·rw [if_pos c13] at H
        have c13b0 : (t203.toList == a0.toList) = true := beq_iff_eq.mpr c13
        have c13b1 : (t203.toList != a0.toList) = false := bne_eq_false_iff_eq.mpr c13
        clear c13
        obtain rfl := Option.some.inj H
        go_wp2_with (first | ((with_reducible refine gate_callee (f := 133) rfl ?_); refine goesM_ (some 37) rfl rfl Try.func133 #[.int .i64 x3_2] ?_; (with_reducible refine (spec_l4Digits.calls k2 x3_2 t203 _ A12.out).mono ?_); rintro e w14 ⟨rfl, hb⟩; refine ⟨_, rfl, ?_⟩; have n0_ := Aside0.mk (below_step (bw HB.out) hb); clear HB; have HB := n0_; clear n0_; (try clear hb); (try clear hb2); (try clear hk); (try clear hi)))
        go_ret
        exact ⟨rt, bw HB.out⟩
       ·rw [if_neg c13] at H
        have c13b0 : (t203.toList == a0.toList) = false := beq_eq_false_iff_ne.mpr c13
        have c13b1 : (t203.toList != a0.toList) = true := bne_iff_ne.mpr c13
        obtain rfl := Option.some.inj H
        go_wp2_with (first | ((with_reducible refine gate_callee (f := 133) rfl ?_); refine goesM_ (some 37) rfl rfl Try.func133 #[.int .i64 x3_2] ?_; (with_reducible refine (spec_l4Digits.calls k2 x3_2 t203 _ A12.out).mono ?_); rintro e w15 ⟨rfl, hb⟩; refine ⟨_, rfl, ?_⟩; have n0_ := Aside0.mk (below_step (bw HB.out) hb); clear HB; have HB := n0_; clear n0_; (try clear hb); (try clear hb2); (try clear hk); (try clear hi)))
        go_ret
        exact ⟨rt, bw HB.out⟩

/-! ### spec_l4Line: function 129 -/
def spec_l4Line.l0 : Nat → ByteArray → Int → Option (ByteArray × Int × Bool)
 | 0, _, _ => none
 | k + 1, x0, x5 => if x5 < (x0.size : Int) then (if 0 ≤ x5 then (if (bt x0 x5) = 32 then (if 0 ≤ (wrap64 (x5 + 1)) then (if (wrap64 (x5 + 1)) ≤ (x0.size : Int) then ((spec_l4Num.f k (x0.extract ((wrap64 (x5 + 1)) : Int).toNat x0.size)).bind fun t204 => (if x5 ≤ (x0.size : Int) then (some (x0.extract 0 (x5 : Int).toNat, t204, decide (t204 ≥ 0))) else (none))) else (none)) else (none)) else (spec_l4Line.l0 k x0 (wrap64 (x5 + 1)))) else (none)) else (some (x0, (-1), true))
def spec_l4Line.f (k : Nat) (a0 : ByteArray) : Option (ByteArray × Int × Bool) := spec_l4Line.l0 k a0 0
theorem spec_l4Line.mono_l : ∀ k, (∀ y0 y1, LeO (spec_l4Line.l0 k y0 y1) (spec_l4Line.l0 (k + 1) y0 y1))
 | 0 => fun _ _ r h => by simp [spec_l4Line.l0] at h
 | k + 1 => by
  have ih0 := spec_l4Line.mono_l k
  ·intro y0 y1
   unfold spec_l4Line.l0
   repeat' first
   | (with_reducible exact ih0 _ _)
   | (with_reducible exact spec_l4Num.mono _ _)
   | (with_reducible exact LeO.refl _)
   | (with_reducible exact LeO.none _)
   | (with_reducible refine LeO.ite ?_ ?_)
   | (with_reducible refine LeO.bind ?_ (fun _ => ?_))
   | exact ih0 _ _
   | exact spec_l4Num.mono _ _
   | exact LeO.none _
   | refine LeO.ite ?_ ?_
   | refine LeO.bind ?_ (fun _ => ?_)
theorem spec_l4Line.mono : ∀ a0 k, LeO (spec_l4Line.f k a0) (spec_l4Line.f (k + 1) a0) := by
 intro a0 k
 have ih0 := spec_l4Line.mono_l k
 unfold spec_l4Line.f
 repeat' first
   | (with_reducible exact ih0 _ _)
   | (with_reducible exact spec_l4Num.mono _ _)
   | (with_reducible exact LeO.refl _)
   | (with_reducible exact LeO.none _)
   | (with_reducible refine LeO.ite ?_ ?_)
   | (with_reducible refine LeO.bind ?_ (fun _ => ?_))
   | exact ih0 _ _
   | exact spec_l4Num.mono _ _
   | exact LeO.none _
   | refine LeO.ite ?_ ?_
   | refine LeO.bind ?_ (fun _ => ?_)
set_option maxHeartbeats 8000000 in
set_option maxRecDepth 100000 in
theorem spec_l4Line.calls (k : Nat) (a0 : ByteArray) (r1 : ByteArray) (r2 : Int) (r3 : Bool) (w : World) (h : spec_l4Line.f k a0 = some (r1, r2, r3)) :
  Calls Try.prog 129 #[.string a0] w fun e w' => e = .returned (.tuple #[.string r1, .int .i64 r2, .bool r3]) ∧ Below w.heap.size w w' := by
 have HB := Aside0.mk (Below.refl w.heap.size w)
 have H : (spec_l4Line.l0 k a0 0) = some (r1, r2, r3) := h
 clear h
 have H' := Aside0.mk H
 clear H
 go_enter Try.func129, Try.ntmps129
 go_wp2
 go_loopg [5] k (fun kq v5 w' => ∃ (x5_1 : Int), v5 = .int .i64 x5_1 ∧ Aside0 (spec_l4Line.l0 kq a0 x5_1 = some (r1, r2, r3)) ∧ Aside0 (kq ≤ k) ∧ Aside0 (Below w.heap.size w w'))
 case atStart => exact ⟨(0), (by first | rfl | (simp; done) | (simp [*]; done)), H', ⟨Nat.le_refl _⟩, ⟨bw HB.out⟩⟩
 case round =>
  clear H'
  (try clear c1)
  obtain ⟨x5_1, rfl, HA, HK1, HB⟩ := hrel
  cases gk with
  | zero => exact absurd HA.out (by simp [spec_l4Line.l0])
  | succ k1 =>
   have H := HA.out
   clear HA
   simp only [spec_l4Line.l0] at H
   by_cases c2 : x5_1 < (a0.size : Int)
   ·rw [if_pos c2] at H
    have c2b0 : decide (x5_1 < (a0.size : Int)) = true := decide_eq_true c2
    clear c2
    by_cases c3 : 0 ≤ x5_1
    ·rw [if_pos c3] at H
     have c3b0 : decide (0 ≤ x5_1) = true := decide_eq_true c3
     clear c3
     by_cases c5 : (bt a0 x5_1) = 32
     ·rw [if_pos c5] at H
      have c5b0 : ((bt a0 x5_1) == 32) = true := beq_iff_eq.mpr c5
      have c5b1 : ((bt a0 x5_1) != 32) = false := bne_eq_false_iff_eq.mpr c5
      clear c5
      obtain ⟨ji6, hji6⟩ : ∃ j_ : Int, (wrap64 (x5_1 + 1)) = j_ := ⟨_, rfl⟩
      replace H : (if 0 ≤ (ji6) then (if (ji6) ≤ (a0.size : Int) then ((spec_l4Num.f k1 (a0.extract ((ji6) : Int).toNat a0.size)).bind fun t204 => (if x5_1 ≤ (a0.size : Int) then (some (a0.extract 0 (x5_1 : Int).toNat, t204, decide (t204 ≥ 0))) else (none))) else (none)) else (none)) = some (r1, r2, r3) := by first | (rw [hji6] at H; exact H) | (simp only [hji6] at H ⊢; exact H)
      have hji6w : (IntKind.i64.wrap (x5_1 + 1)) = ji6 := (i64_w _).trans hji6
      by_cases c7 : 0 ≤ (ji6)
      ·rw [if_pos c7] at H
       have c7b0 := eq_true c7
       have c7b1 : decide (0 ≤ (ji6)) = true := decide_eq_true c7
       clear c7
       by_cases c8 : (ji6) ≤ (a0.size : Int)
       ·rw [if_pos c8] at H
        have c8b0 := eq_true c8
        have c8b1 : decide ((ji6) ≤ (a0.size : Int)) = true := decide_eq_true c8
        clear c8
        replace H := Option.bind_eq_some_iff.mp H
        obtain ⟨t204, A90, H⟩ := H
        replace H : (if x5_1 ≤ (a0.size : Int) then (some (a0.extract 0 (x5_1 : Int).toNat, t204, decide (t204 ≥ 0))) else (none)) = some (r1, r2, r3) := H
        have A9 := Aside0.mk A90
        clear A90
        have c10b0 := eq_true (dt : 0 ≤ x5_1)
        by_cases c11 : x5_1 ≤ (a0.size : Int)
        ·rw [if_pos c11] at H
         have c11b0 := eq_true c11
         have c11b1 : decide (x5_1 ≤ (a0.size : Int)) = true := decide_eq_true c11
         clear c11
         simp only [Option.some.injEq, Prod.mk.injEq] at H
         obtain ⟨rfl, rfl, rfl⟩ := H
         have p4 : 0 ≤ (x5_1 : Int) := dt
         have q4 : x5_1 < (a0.size : Int) := dt
         have hx4 := bt_at a0 x5_1
         replace p4 := eq_true p4
         replace q4 := eq_true q4
         go_wp2_with (first | ((with_reducible refine gate_callee (f := 131) rfl ?_); refine goesL_ (some 21) rfl rfl Try.func131 (by kernel_rfl) rfl #[.string (a0.extract ((ji6) : Int).toNat a0.size)] rfl (by (try simp only [List.map_toArray, List.map_cons, List.map_nil]); first | done | (simp only [hji6]; rfl) | rfl | (simp only [List.length_drop, List.length_take]; rfl)) ?_; (with_reducible refine (spec_l4Num.calls k1 (a0.extract ((ji6) : Int).toNat a0.size) t204 _ A9.out).mono ?_); rintro e w12 ⟨rfl, hb⟩; refine ⟨_, rfl, ?_⟩; have n0_ := Aside0.mk (below_step (bw HB.out) hb); clear HB; have HB := n0_; clear n0_; (try clear hb); (try clear hb2); (try clear hk); (try clear hi)))
         go_ret3
         exact ⟨by first | rfl | (simp [errW_none, errW_some] <;> rfl) | (simp only [← hji6]; first | rfl | (simp [errW_none, errW_some] <;> rfl)) | (simp [*, errW_none, errW_some] <;> rfl), bw HB.out⟩
        ·rw [if_neg c11] at H
         exact absurd H (by simp)
       ·rw [if_neg c8] at H
        exact absurd H (by simp)
      ·rw [if_neg c7] at H
       exact absurd H (by simp)
     ·rw [if_neg c5] at H
      have c5b0 : ((bt a0 x5_1) == 32) = false := beq_eq_false_iff_ne.mpr c5
      have c5b1 : ((bt a0 x5_1) != 32) = true := bne_iff_ne.mpr c5
      have H' := Aside0.mk H
      clear H
      have p4 : 0 ≤ (x5_1 : Int) := dt
      have q4 : x5_1 < (a0.size : Int) := dt
      have hx4 := bt_at a0 x5_1
      replace p4 := eq_true p4
      replace q4 := eq_true q4
      go_wp2
      go_roundg k1
      case measure => have := HK1.out; omega
      case rel => exact ⟨(wrap64 (x5_1 + 1)), (by first | rfl | (simp; done) | (simp [*]; done)), H', ⟨by have := HK1.out; omega⟩, ⟨bw HB.out⟩⟩
    ·rw [if_neg c3] at H
     exact absurd H (by simp)
   ·rw [if_neg c2] at H
    have c2b0 : decide (x5_1 < (a0.size : Int)) = false := decide_eq_false c2
    clear c2
    simp only [Option.some.injEq, Prod.mk.injEq] at H
    obtain ⟨rfl, rfl, rfl⟩ := H
    go_wp2
    go_ret3
    exact ⟨rt, bw HB.out⟩

/-! ### spec_l3Names: function 132 -/
def spec_l3Names.f  : Option (List ByteArray) := some (([(⟨#[110, 111, 112]⟩ : ByteArray), (⟨#[108, 100, 105]⟩ : ByteArray), (⟨#[108, 100, 97]⟩ : ByteArray), (⟨#[115, 116, 97]⟩ : ByteArray), (⟨#[97, 100, 105]⟩ : ByteArray), (⟨#[115, 98, 105]⟩ : ByteArray), (⟨#[97, 110, 105]⟩ : ByteArray), (⟨#[111, 114, 105]⟩ : ByteArray), (⟨#[120, 114, 105]⟩ : ByteArray), (⟨#[99, 112, 105]⟩ : ByteArray), (⟨#[116, 97, 120]⟩ : ByteArray), (⟨#[116, 120, 97]⟩ : ByteArray), (⟨#[105, 110, 120]⟩ : ByteArray), (⟨#[100, 101, 120]⟩ : ByteArray), (⟨#[108, 97, 120]⟩ : ByteArray), (⟨#[115, 97, 120]⟩ : ByteArray), (⟨#[98, 110, 101]⟩ : ByteArray), (⟨#[98, 101, 113]⟩ : ByteArray), (⟨#[98, 99, 115]⟩ : ByteArray), (⟨#[106, 109, 112]⟩ : ByteArray), (⟨#[106, 115, 114]⟩ : ByteArray), (⟨#[114, 116, 115]⟩ : ByteArray), (⟨#[112, 104, 97]⟩ : ByteArray), (⟨#[112, 108, 97]⟩ : ByteArray), (⟨#[114, 116, 105]⟩ : ByteArray), (⟨#[115, 101, 105]⟩ : ByteArray), (⟨#[99, 108, 105]⟩ : ByteArray), (⟨#[115, 101, 99]⟩ : ByteArray), (⟨#[99, 108, 99]⟩ : ByteArray), (⟨#[97, 100, 97]⟩ : ByteArray)] : List ByteArray))
set_option maxHeartbeats 8000000 in
set_option maxRecDepth 100000 in
theorem spec_l3Names.calls  (r : List ByteArray) (w : World) (h : spec_l3Names.f  = some r) :
  Calls Try.prog 132 #[] w fun e w' => ∃ v0_ : Value, e = .returned (v0_) ∧ Kd.R Kd.string 9 w' w.heap.size (fun _ => True) v0_ r ∧ Below w.heap.size w w' := by
 have HB := Aside0.mk (Below.refl w.heap.size w)
 have H : (some (([(⟨#[110, 111, 112]⟩ : ByteArray), (⟨#[108, 100, 105]⟩ : ByteArray), (⟨#[108, 100, 97]⟩ : ByteArray), (⟨#[115, 116, 97]⟩ : ByteArray), (⟨#[97, 100, 105]⟩ : ByteArray), (⟨#[115, 98, 105]⟩ : ByteArray), (⟨#[97, 110, 105]⟩ : ByteArray), (⟨#[111, 114, 105]⟩ : ByteArray), (⟨#[120, 114, 105]⟩ : ByteArray), (⟨#[99, 112, 105]⟩ : ByteArray), (⟨#[116, 97, 120]⟩ : ByteArray), (⟨#[116, 120, 97]⟩ : ByteArray), (⟨#[105, 110, 120]⟩ : ByteArray), (⟨#[100, 101, 120]⟩ : ByteArray), (⟨#[108, 97, 120]⟩ : ByteArray), (⟨#[115, 97, 120]⟩ : ByteArray), (⟨#[98, 110, 101]⟩ : ByteArray), (⟨#[98, 101, 113]⟩ : ByteArray), (⟨#[98, 99, 115]⟩ : ByteArray), (⟨#[106, 109, 112]⟩ : ByteArray), (⟨#[106, 115, 114]⟩ : ByteArray), (⟨#[114, 116, 115]⟩ : ByteArray), (⟨#[112, 104, 97]⟩ : ByteArray), (⟨#[112, 108, 97]⟩ : ByteArray), (⟨#[114, 116, 105]⟩ : ByteArray), (⟨#[115, 101, 105]⟩ : ByteArray), (⟨#[99, 108, 105]⟩ : ByteArray), (⟨#[115, 101, 99]⟩ : ByteArray), (⟨#[99, 108, 99]⟩ : ByteArray), (⟨#[97, 100, 97]⟩ : ByteArray)] : List ByteArray))) = some r := h
 clear h
 obtain ⟨y205, hy205⟩ : ∃ y_ : List ByteArray, y_ = (([(⟨#[110, 111, 112]⟩ : ByteArray), (⟨#[108, 100, 105]⟩ : ByteArray), (⟨#[108, 100, 97]⟩ : ByteArray), (⟨#[115, 116, 97]⟩ : ByteArray), (⟨#[97, 100, 105]⟩ : ByteArray), (⟨#[115, 98, 105]⟩ : ByteArray), (⟨#[97, 110, 105]⟩ : ByteArray), (⟨#[111, 114, 105]⟩ : ByteArray), (⟨#[120, 114, 105]⟩ : ByteArray), (⟨#[99, 112, 105]⟩ : ByteArray), (⟨#[116, 97, 120]⟩ : ByteArray), (⟨#[116, 120, 97]⟩ : ByteArray), (⟨#[105, 110, 120]⟩ : ByteArray), (⟨#[100, 101, 120]⟩ : ByteArray), (⟨#[108, 97, 120]⟩ : ByteArray), (⟨#[115, 97, 120]⟩ : ByteArray), (⟨#[98, 110, 101]⟩ : ByteArray), (⟨#[98, 101, 113]⟩ : ByteArray), (⟨#[98, 99, 115]⟩ : ByteArray), (⟨#[106, 109, 112]⟩ : ByteArray), (⟨#[106, 115, 114]⟩ : ByteArray), (⟨#[114, 116, 115]⟩ : ByteArray), (⟨#[112, 104, 97]⟩ : ByteArray), (⟨#[112, 108, 97]⟩ : ByteArray), (⟨#[114, 116, 105]⟩ : ByteArray), (⟨#[115, 101, 105]⟩ : ByteArray), (⟨#[99, 108, 105]⟩ : ByteArray), (⟨#[115, 101, 99]⟩ : ByteArray), (⟨#[99, 108, 99]⟩ : ByteArray), (⟨#[97, 100, 97]⟩ : ByteArray)] : List ByteArray)) := ⟨_, rfl⟩
 replace H : (some y205) = some r := by first | (rw [hy205]; with_reducible exact H) | (have H2_ := (Option.bind_some _ _).symm.trans H; rw [hy205]; with_reducible exact H2_) | (have H2_ := (Option.bind_some _ _).symm.trans H; with_reducible exact H2_) | with_reducible exact H | (rw [hy205]; exact H) | exact H
 have Ny205 := Aside0.mk hy205
 clear hy205
 obtain rfl := Option.some.inj H
 go_enter Try.func132, Try.ntmps132
 go_wp2_with (first | ((with_reducible refine gate_dst (N := 1) rfl ?_); refine Kd.R_lit Kd.string _ 9 ?hg (N := 1) ?hd (xs := ([(⟨#[110, 111, 112]⟩ : ByteArray), (⟨#[108, 100, 105]⟩ : ByteArray), (⟨#[108, 100, 97]⟩ : ByteArray), (⟨#[115, 116, 97]⟩ : ByteArray), (⟨#[97, 100, 105]⟩ : ByteArray), (⟨#[115, 98, 105]⟩ : ByteArray), (⟨#[97, 110, 105]⟩ : ByteArray), (⟨#[111, 114, 105]⟩ : ByteArray), (⟨#[120, 114, 105]⟩ : ByteArray), (⟨#[99, 112, 105]⟩ : ByteArray), (⟨#[116, 97, 120]⟩ : ByteArray), (⟨#[116, 120, 97]⟩ : ByteArray), (⟨#[105, 110, 120]⟩ : ByteArray), (⟨#[100, 101, 120]⟩ : ByteArray), (⟨#[108, 97, 120]⟩ : ByteArray), (⟨#[115, 97, 120]⟩ : ByteArray), (⟨#[98, 110, 101]⟩ : ByteArray), (⟨#[98, 101, 113]⟩ : ByteArray), (⟨#[98, 99, 115]⟩ : ByteArray), (⟨#[106, 109, 112]⟩ : ByteArray), (⟨#[106, 115, 114]⟩ : ByteArray), (⟨#[114, 116, 115]⟩ : ByteArray), (⟨#[112, 104, 97]⟩ : ByteArray), (⟨#[112, 108, 97]⟩ : ByteArray), (⟨#[114, 116, 105]⟩ : ByteArray), (⟨#[115, 101, 105]⟩ : ByteArray), (⟨#[99, 108, 105]⟩ : ByteArray), (⟨#[115, 101, 99]⟩ : ByteArray), (⟨#[99, 108, 99]⟩ : ByteArray), (⟨#[97, 100, 97]⟩ : ByteArray)] : List ByteArray)) (inner := [.string (⟨#[110, 111, 112]⟩ : ByteArray), .string (⟨#[108, 100, 105]⟩ : ByteArray), .string (⟨#[108, 100, 97]⟩ : ByteArray), .string (⟨#[115, 116, 97]⟩ : ByteArray), .string (⟨#[97, 100, 105]⟩ : ByteArray), .string (⟨#[115, 98, 105]⟩ : ByteArray), .string (⟨#[97, 110, 105]⟩ : ByteArray), .string (⟨#[111, 114, 105]⟩ : ByteArray), .string (⟨#[120, 114, 105]⟩ : ByteArray), .string (⟨#[99, 112, 105]⟩ : ByteArray), .string (⟨#[116, 97, 120]⟩ : ByteArray), .string (⟨#[116, 120, 97]⟩ : ByteArray), .string (⟨#[105, 110, 120]⟩ : ByteArray), .string (⟨#[100, 101, 120]⟩ : ByteArray), .string (⟨#[108, 97, 120]⟩ : ByteArray), .string (⟨#[115, 97, 120]⟩ : ByteArray), .string (⟨#[98, 110, 101]⟩ : ByteArray), .string (⟨#[98, 101, 113]⟩ : ByteArray), .string (⟨#[98, 99, 115]⟩ : ByteArray), .string (⟨#[106, 109, 112]⟩ : ByteArray), .string (⟨#[106, 115, 114]⟩ : ByteArray), .string (⟨#[114, 116, 115]⟩ : ByteArray), .string (⟨#[112, 104, 97]⟩ : ByteArray), .string (⟨#[112, 108, 97]⟩ : ByteArray), .string (⟨#[114, 116, 105]⟩ : ByteArray), .string (⟨#[115, 101, 105]⟩ : ByteArray), .string (⟨#[99, 108, 105]⟩ : ByteArray), .string (⟨#[115, 101, 99]⟩ : ByteArray), .string (⟨#[99, 108, 99]⟩ : ByteArray), .string (⟨#[97, 100, 97]⟩ : ByteArray)]) (ok := fun _ => True) (okp := fun _ => True) ?hr ?hp (fun _ hk => hk) trivial (Below.refl _ _) (Nat.le_refl _) (by simp) ?_; (case hd => rfl); (case hg => rfl); (case hr => first | (go_simp; done) | (go_simp; rfl)); (case hp => exact (Reps.one (show Kd.M Kd.string _ _ _ (⟨#[110, 111, 112]⟩ : ByteArray) [.string (⟨#[110, 111, 112]⟩ : ByteArray)] from rfl) (Reps.one (show Kd.M Kd.string _ _ _ (⟨#[108, 100, 105]⟩ : ByteArray) [.string (⟨#[108, 100, 105]⟩ : ByteArray)] from rfl) (Reps.one (show Kd.M Kd.string _ _ _ (⟨#[108, 100, 97]⟩ : ByteArray) [.string (⟨#[108, 100, 97]⟩ : ByteArray)] from rfl) (Reps.one (show Kd.M Kd.string _ _ _ (⟨#[115, 116, 97]⟩ : ByteArray) [.string (⟨#[115, 116, 97]⟩ : ByteArray)] from rfl) (Reps.one (show Kd.M Kd.string _ _ _ (⟨#[97, 100, 105]⟩ : ByteArray) [.string (⟨#[97, 100, 105]⟩ : ByteArray)] from rfl) (Reps.one (show Kd.M Kd.string _ _ _ (⟨#[115, 98, 105]⟩ : ByteArray) [.string (⟨#[115, 98, 105]⟩ : ByteArray)] from rfl) (Reps.one (show Kd.M Kd.string _ _ _ (⟨#[97, 110, 105]⟩ : ByteArray) [.string (⟨#[97, 110, 105]⟩ : ByteArray)] from rfl) (Reps.one (show Kd.M Kd.string _ _ _ (⟨#[111, 114, 105]⟩ : ByteArray) [.string (⟨#[111, 114, 105]⟩ : ByteArray)] from rfl) (Reps.one (show Kd.M Kd.string _ _ _ (⟨#[120, 114, 105]⟩ : ByteArray) [.string (⟨#[120, 114, 105]⟩ : ByteArray)] from rfl) (Reps.one (show Kd.M Kd.string _ _ _ (⟨#[99, 112, 105]⟩ : ByteArray) [.string (⟨#[99, 112, 105]⟩ : ByteArray)] from rfl) (Reps.one (show Kd.M Kd.string _ _ _ (⟨#[116, 97, 120]⟩ : ByteArray) [.string (⟨#[116, 97, 120]⟩ : ByteArray)] from rfl) (Reps.one (show Kd.M Kd.string _ _ _ (⟨#[116, 120, 97]⟩ : ByteArray) [.string (⟨#[116, 120, 97]⟩ : ByteArray)] from rfl) (Reps.one (show Kd.M Kd.string _ _ _ (⟨#[105, 110, 120]⟩ : ByteArray) [.string (⟨#[105, 110, 120]⟩ : ByteArray)] from rfl) (Reps.one (show Kd.M Kd.string _ _ _ (⟨#[100, 101, 120]⟩ : ByteArray) [.string (⟨#[100, 101, 120]⟩ : ByteArray)] from rfl) (Reps.one (show Kd.M Kd.string _ _ _ (⟨#[108, 97, 120]⟩ : ByteArray) [.string (⟨#[108, 97, 120]⟩ : ByteArray)] from rfl) (Reps.one (show Kd.M Kd.string _ _ _ (⟨#[115, 97, 120]⟩ : ByteArray) [.string (⟨#[115, 97, 120]⟩ : ByteArray)] from rfl) (Reps.one (show Kd.M Kd.string _ _ _ (⟨#[98, 110, 101]⟩ : ByteArray) [.string (⟨#[98, 110, 101]⟩ : ByteArray)] from rfl) (Reps.one (show Kd.M Kd.string _ _ _ (⟨#[98, 101, 113]⟩ : ByteArray) [.string (⟨#[98, 101, 113]⟩ : ByteArray)] from rfl) (Reps.one (show Kd.M Kd.string _ _ _ (⟨#[98, 99, 115]⟩ : ByteArray) [.string (⟨#[98, 99, 115]⟩ : ByteArray)] from rfl) (Reps.one (show Kd.M Kd.string _ _ _ (⟨#[106, 109, 112]⟩ : ByteArray) [.string (⟨#[106, 109, 112]⟩ : ByteArray)] from rfl) (Reps.one (show Kd.M Kd.string _ _ _ (⟨#[106, 115, 114]⟩ : ByteArray) [.string (⟨#[106, 115, 114]⟩ : ByteArray)] from rfl) (Reps.one (show Kd.M Kd.string _ _ _ (⟨#[114, 116, 115]⟩ : ByteArray) [.string (⟨#[114, 116, 115]⟩ : ByteArray)] from rfl) (Reps.one (show Kd.M Kd.string _ _ _ (⟨#[112, 104, 97]⟩ : ByteArray) [.string (⟨#[112, 104, 97]⟩ : ByteArray)] from rfl) (Reps.one (show Kd.M Kd.string _ _ _ (⟨#[112, 108, 97]⟩ : ByteArray) [.string (⟨#[112, 108, 97]⟩ : ByteArray)] from rfl) (Reps.one (show Kd.M Kd.string _ _ _ (⟨#[114, 116, 105]⟩ : ByteArray) [.string (⟨#[114, 116, 105]⟩ : ByteArray)] from rfl) (Reps.one (show Kd.M Kd.string _ _ _ (⟨#[115, 101, 105]⟩ : ByteArray) [.string (⟨#[115, 101, 105]⟩ : ByteArray)] from rfl) (Reps.one (show Kd.M Kd.string _ _ _ (⟨#[99, 108, 105]⟩ : ByteArray) [.string (⟨#[99, 108, 105]⟩ : ByteArray)] from rfl) (Reps.one (show Kd.M Kd.string _ _ _ (⟨#[115, 101, 99]⟩ : ByteArray) [.string (⟨#[115, 101, 99]⟩ : ByteArray)] from rfl) (Reps.one (show Kd.M Kd.string _ _ _ (⟨#[99, 108, 99]⟩ : ByteArray) [.string (⟨#[99, 108, 99]⟩ : ByteArray)] from rfl) (Reps.one (show Kd.M Kd.string _ _ _ (⟨#[97, 100, 97]⟩ : ByteArray) [.string (⟨#[97, 100, 97]⟩ : ByteArray)] from rfl) (Reps.none _ _)))))))))))))))))))))))))))))))); intro v206 w1 ho2 hb hg_ hnew_; clear hg_ hnew_; (first | rw [← Ny205.out] at ho2 | (simp only [Int.reduceToNat] at ho2; rw [← Ny205.out] at ho2)); have n0_ := Aside0.mk (Kd.R_lower ho2 (below_size (bw HB.out))); have n1_ := Aside0.mk (below_step (bw HB.out) hb); clear HB; have HO207 := n0_; have HB := n1_; clear n0_ n1_; clear hb ho2))
 go_ret
 exact ⟨_, rt, kr HO207.out, bw HB.out⟩

/-! ### spec_OpOf: function 130 -/
def spec_OpOf.l0 : Nat → ByteArray → List ByteArray → Int → Option (Int)
 | 0, _, _, _ => none
 | k + 1, x0, x3, x4 => if x4 < (x3.length : Int) then (if 0 ≤ x4 then (if (rdOf ByteArray.empty x3 x4).toList = x0.toList then (some x4) else (spec_OpOf.l0 k x0 x3 (wrap64 (x4 + 1)))) else (none)) else (some (-1))
def spec_OpOf.f (k : Nat) (a0 : ByteArray) : Option (Int) := (spec_l3Names.f).bind fun t208 => (spec_OpOf.l0 k a0 t208 0)
theorem spec_OpOf.mono_l : ∀ k, (∀ y0 y1 y2, LeO (spec_OpOf.l0 k y0 y1 y2) (spec_OpOf.l0 (k + 1) y0 y1 y2))
 | 0 => fun _ _ _ r h => by simp [spec_OpOf.l0] at h
 | k + 1 => by
  have ih0 := spec_OpOf.mono_l k
  ·intro y0 y1 y2
   unfold spec_OpOf.l0
   repeat' first
   | (with_reducible exact ih0 _ _ _)
   | (with_reducible exact LeO.refl _)
   | (with_reducible exact LeO.none _)
   | (with_reducible refine LeO.ite ?_ ?_)
   | (with_reducible refine LeO.bind ?_ (fun _ => ?_))
   | exact ih0 _ _ _
   | exact LeO.none _
   | refine LeO.ite ?_ ?_
   | refine LeO.bind ?_ (fun _ => ?_)
theorem spec_OpOf.mono : ∀ a0 k, LeO (spec_OpOf.f k a0) (spec_OpOf.f (k + 1) a0) := by
 intro a0 k
 have ih0 := spec_OpOf.mono_l k
 unfold spec_OpOf.f
 repeat' first
   | (with_reducible exact ih0 _ _ _)
   | (with_reducible exact LeO.refl _)
   | (with_reducible exact LeO.none _)
   | (with_reducible refine LeO.ite ?_ ?_)
   | (with_reducible refine LeO.bind ?_ (fun _ => ?_))
   | exact ih0 _ _ _
   | exact LeO.none _
   | refine LeO.ite ?_ ?_
   | refine LeO.bind ?_ (fun _ => ?_)
set_option maxHeartbeats 8000000 in
set_option maxRecDepth 100000 in
theorem spec_OpOf.calls (k : Nat) (a0 : ByteArray) (r : Int) (w : World) (h : spec_OpOf.f k a0 = some r) :
  Calls Try.prog 130 #[.string a0] w fun e w' => e = .returned (.int .i64 r) ∧ Below w.heap.size w w' := by
 have HB := Aside0.mk (Below.refl w.heap.size w)
 have H : ((spec_l3Names.f).bind fun t208 => (spec_OpOf.l0 k a0 t208 0)) = some r := h
 clear h
 replace H := Option.bind_eq_some_iff.mp H
 obtain ⟨t208, A20, H⟩ := H
 replace H : (spec_OpOf.l0 k a0 t208 0) = some r := H
 have A2 := Aside0.mk A20
 clear A20
 have H' := Aside0.mk H
 clear H
 go_enter Try.func130, Try.ntmps130
 go_wp2_with (first | ((with_reducible refine gate_callee (f := 132) rfl ?_); refine goesM_ (some 5) rfl rfl Try.func132 #[] ?_; (with_reducible refine (spec_l3Names.calls  t208 _ A2.out).mono ?_); rintro e w3 ⟨v209, rfl, ho0, hb⟩; refine ⟨_, rfl, ?_⟩; have n0_ := Aside0.mk (Kd.R_lower ho0 (below_size (bw HB.out))); have n1_ := Aside0.mk (below_step (bw HB.out) hb); clear HB; have HO210 := n0_; have HB := n1_; clear n0_ n1_; (try clear hb); (try clear hb2); (try clear hk); (try clear hi); (try clear ho0)))
 go_loopg [4] k (fun kq v4 w' => ∃ (x4_1 : Int), v4 = .int .i64 x4_1 ∧ Aside0 (spec_OpOf.l0 kq a0 t208 x4_1 = some r) ∧ Aside0 (kq ≤ k) ∧ Aside0 (Kd.R Kd.string 9 w' w.heap.size (fun _ => True) v209 t208) ∧ Aside0 (Below w.heap.size w w'))
 case atStart => exact ⟨(0), (by first | rfl | (simp; done) | (simp [*]; done)), H', ⟨Nat.le_refl _⟩, ⟨kr HO210.out⟩, ⟨bw HB.out⟩⟩
 case round =>
  clear H'
  (try clear c1); (try clear p2)
  obtain ⟨x4_1, rfl, HA, HK1, HO_3, HB⟩ := hrel
  cases gk with
  | zero => exact absurd HA.out (by simp [spec_OpOf.l0])
  | succ k1 =>
   have H := HA.out
   clear HA
   simp only [spec_OpOf.l0] at H
   by_cases c4 : x4_1 < (t208.length : Int)
   ·rw [if_pos c4] at H
    have c4b0 : decide (x4_1 < (t208.length : Int)) = true := decide_eq_true c4
    clear c4
    by_cases c5 : 0 ≤ x4_1
    ·rw [if_pos c5] at H
     have c5b0 : decide (0 ≤ x4_1) = true := decide_eq_true c5
     clear c5
     by_cases c6 : (rdOf ByteArray.empty t208 x4_1).toList = a0.toList
     ·rw [if_pos c6] at H
      have c6b0 : ((rdOf ByteArray.empty t208 x4_1).toList == a0.toList) = true := beq_iff_eq.mpr c6
      have c6b1 : ((rdOf ByteArray.empty t208 x4_1).toList != a0.toList) = false := bne_eq_false_iff_eq.mpr c6
      clear c6
      obtain rfl := Option.some.inj H
      obtain ⟨Ao7, co7, eo7⟩ := Kd.R_slice HO_3.out
      subst eo7
      have p211 : 0 ≤ (x4_1 : Int) := dt
      have q211 : x4_1 < (t208.length : Int) := dt
      obtain ⟨ad211, e211, hx211_0⟩ := Kd.at_string (Kd.R_reads' HO_3.out).2.2 x4_1 p211 q211
      cases e211
      replace p211 := eq_true p211
      replace q211 := eq_true q211
      go_wp2
      go_ret
      exact ⟨rt, bw HB.out⟩
     ·rw [if_neg c6] at H
      have c6b0 : ((rdOf ByteArray.empty t208 x4_1).toList == a0.toList) = false := beq_eq_false_iff_ne.mpr c6
      have c6b1 : ((rdOf ByteArray.empty t208 x4_1).toList != a0.toList) = true := bne_iff_ne.mpr c6
      have H' := Aside0.mk H
      clear H
      obtain ⟨Ao8, co8, eo8⟩ := Kd.R_slice HO_3.out
      subst eo8
      have p211 : 0 ≤ (x4_1 : Int) := dt
      have q211 : x4_1 < (t208.length : Int) := dt
      obtain ⟨ad211, e211, hx211_0⟩ := Kd.at_string (Kd.R_reads' HO_3.out).2.2 x4_1 p211 q211
      cases e211
      replace p211 := eq_true p211
      replace q211 := eq_true q211
      go_wp2
      go_roundg k1
      case measure => have := HK1.out; omega
      case rel => exact ⟨(wrap64 (x4_1 + 1)), (by first | rfl | (simp; done) | (simp [*]; done)), H', ⟨by have := HK1.out; omega⟩, ⟨kr HO_3.out⟩, ⟨bw HB.out⟩⟩
    ·rw [if_neg c5] at H
     exact absurd H (by simp)
   ·rw [if_neg c4] at H
    have c4b0 : decide (x4_1 < (t208.length : Int)) = false := decide_eq_false c4
    clear c4
    obtain rfl := Option.some.inj H
    obtain ⟨Ao9, co9, eo9⟩ := Kd.R_slice HO_3.out
    subst eo9
    go_wp2
    go_ret
    exact ⟨rt, bw HB.out⟩

/-! ### spec_l4Bytes: function 118 -/
def spec_l4Bytes.j0 : Nat → ByteArray → Int → Bool → Option (List Int × Int × Bool)
 | 0, _, _, _ => none
 | k + 1, x5, x6, x23 => if x23 = true then ((spec_l1In.f x6 0 255).bind fun t218 => (if t218 = true then (if x5.toList = ([97, 116] : List UInt8) then (some ((([] : List Int)), x6, true)) else (some ((([x6] : List Int)), (-1), true))) else (some ((([] : List Int)), (-1), false)))) else ((spec_OpOf.f k x5).bind fun t228 => (if t228 < 0 then (some ((([] : List Int)), (-1), false)) else ((spec_OpLen.f t228).bind fun t232 => (if t232 = 1 then (some ((([t228] : List Int)), (-1), decide (x6 < 0))) else (if t232 = 2 then ((spec_Byte.f x6).bind fun t236 => ((spec_l1In.f x6 0 255).bind fun t240 => (some ((([t228, t236] : List Int)), (-1), t240)))) else ((spec_Byte.f x6).bind fun t241 => ((spec_Byte.f (x6 / 256)).bind fun t242 => ((spec_l1In.f x6 0 65535).bind fun t246 => (some ((([t228, t241, t242] : List Int)), (-1), t246))))))))))
def spec_l4Bytes.f (k : Nat) (a0 : ByteArray) : Option (List Int × Int × Bool) := (spec_l4Line.f k a0).bind fun bt212 => (if bt212.2.2 = true then (if bt212.1.toList = ([97, 116] : List UInt8) then (spec_l4Bytes.j0 k bt212.1 bt212.2.1 true) else (spec_l4Bytes.j0 k bt212.1 bt212.2.1 (bt212.1.toList == ([98, 121, 116, 101] : List UInt8)))) else (some ((([] : List Int)), (-1), false)))
theorem spec_l4Bytes.mono_l : ∀ k, (∀ y0 y1 y2, LeO (spec_l4Bytes.j0 k y0 y1 y2) (spec_l4Bytes.j0 (k + 1) y0 y1 y2))
 | 0 => fun _ _ _ r h => by simp [spec_l4Bytes.j0] at h
 | k + 1 => by
  have ih0 := spec_l4Bytes.mono_l k
  ·intro y0 y1 y2
   unfold spec_l4Bytes.j0
   repeat' first
   | (with_reducible exact ih0 _ _ _)
   | (with_reducible exact spec_OpOf.mono _ _)
   | (with_reducible exact spec_l4Line.mono _ _)
   | (with_reducible exact LeO.refl _)
   | (with_reducible exact LeO.none _)
   | (with_reducible refine LeO.ite ?_ ?_)
   | (with_reducible refine LeO.bind ?_ (fun _ => ?_))
   | exact ih0 _ _ _
   | exact spec_OpOf.mono _ _
   | exact spec_l4Line.mono _ _
   | exact LeO.none _
   | refine LeO.ite ?_ ?_
   | refine LeO.bind ?_ (fun _ => ?_)
theorem spec_l4Bytes.mono : ∀ a0 k, LeO (spec_l4Bytes.f k a0) (spec_l4Bytes.f (k + 1) a0) := by
 intro a0 k
 have ih0 := spec_l4Bytes.mono_l k
 unfold spec_l4Bytes.f
 repeat' first
   | (with_reducible exact ih0 _ _ _)
   | (with_reducible exact spec_OpOf.mono _ _)
   | (with_reducible exact spec_l4Line.mono _ _)
   | (with_reducible exact LeO.refl _)
   | (with_reducible exact LeO.none _)
   | (with_reducible refine LeO.ite ?_ ?_)
   | (with_reducible refine LeO.bind ?_ (fun _ => ?_))
   | exact ih0 _ _ _
   | exact spec_OpOf.mono _ _
   | exact spec_l4Line.mono _ _
   | exact LeO.none _
   | refine LeO.ite ?_ ?_
   | refine LeO.bind ?_ (fun _ => ?_)
set_option maxHeartbeats 8000000 in
set_option maxRecDepth 100000 in
theorem spec_l4Bytes.calls (k : Nat) (a0 : ByteArray) (r1 : List Int) (r2 : Int) (r3 : Bool) (w : World) (h : spec_l4Bytes.f k a0 = some (r1, r2, r3)) :
  Calls Try.prog 118 #[.string a0] w fun e w' => ∃ v0_ : Value, e = .returned (.tuple #[v0_, .int .i64 r2, .bool r3]) ∧ Kd.R (Kd.int .i64) 3 w' w.heap.size (fun _ => True) v0_ r1 ∧ Below w.heap.size w w' := by
 have HB := Aside0.mk (Below.refl w.heap.size w)
 have H : ((spec_l4Line.f k a0).bind fun bt212 => (if bt212.2.2 = true then (if bt212.1.toList = ([97, 116] : List UInt8) then (spec_l4Bytes.j0 k bt212.1 bt212.2.1 true) else (spec_l4Bytes.j0 k bt212.1 bt212.2.1 (bt212.1.toList == ([98, 121, 116, 101] : List UInt8)))) else (some ((([] : List Int)), (-1), false)))) = some (r1, r2, r3) := h
 clear h
 replace H := Option.bind_eq_some_iff.mp H
 obtain ⟨⟨t212, t213, t214⟩, A20, H⟩ := H
 replace H : (if t214 = true then (if t212.toList = ([97, 116] : List UInt8) then (spec_l4Bytes.j0 k t212 t213 true) else (spec_l4Bytes.j0 k t212 t213 (t212.toList == ([98, 121, 116, 101] : List UInt8)))) else (some ((([] : List Int)), (-1), false))) = some (r1, r2, r3) := H
 have A2 := Aside0.mk A20
 clear A20
 by_cases c3 : t214 = true
 ·subst c3
  have H1 : (if t212.toList = ([97, 116] : List UInt8) then (spec_l4Bytes.j0 k t212 t213 true) else (spec_l4Bytes.j0 k t212 t213 (t212.toList == ([98, 121, 116, 101] : List UInt8)))) = some (r1, r2, r3) := by rw [if_pos rfl] at H; exact H
  clear H
  have H := H1
  clear H1
  have HC4 := Aside0.mk H
  clear H
  go_enter Try.func118, Try.ntmps118
  go_upto_region 4 with (first | ((with_reducible refine gate_callee (f := 129) rfl ?_); refine goesM_ (some 11) rfl rfl Try.func129 #[.string a0] ?_; (with_reducible refine (spec_l4Line.calls k a0 t212 t213 true _ A2.out).mono ?_); rintro e w5 ⟨rfl, hb⟩; refine ⟨_, rfl, ?_⟩; have n0_ := Aside0.mk (below_step (bw HB.out) hb); clear HB; have HB := n0_; clear n0_; (try clear hb); (try clear hb2); (try clear hk); (try clear hi)))
  (try simp only [Act.put, List.setIfInBounds_toArray, List.set_cons_zero, List.set_cons_succ])
  go_cut [23] (fun v23 wc => ∃ (kq : Nat) (x23_3 : Bool), v23 = .bool x23_3 ∧ Aside0 (spec_l4Bytes.j0 kq t212 t213 x23_3 = some (r1, r2, r3)) ∧ Aside0 (kq ≤ k) ∧ Aside0 (Below w.heap.size w wc))
  case first =>
   have H := HC4.out
   clear HC4
   by_cases c6 : t212.toList = ([97, 116] : List UInt8)
   ·rw [if_pos c6] at H
    have c6b0 : (t212.toList == ([97, 116] : List UInt8)) = true := beq_iff_eq.mpr c6
    have c6b1 : (t212.toList != ([97, 116] : List UInt8)) = false := bne_eq_false_iff_eq.mpr c6
    clear c6
    (first | rw [c6b0] | (simp only [i64_w, i32_w]; rw [c6b0]) | skip)
    have H' := Aside0.mk H
    clear H
    go_wp2
    go_meet
    case rel => exact ⟨_, (true), (by first | rfl | (simp; done) | (simp [*]; done)), H', ⟨by first | omega | exact Nat.le_refl _⟩, ⟨bw HB.out⟩⟩
   ·rw [if_neg c6] at H
    have c6b0 : (t212.toList == ([97, 116] : List UInt8)) = false := beq_eq_false_iff_ne.mpr c6
    have c6b1 : (t212.toList != ([97, 116] : List UInt8)) = true := bne_iff_ne.mpr c6
    (first | rw [c6b0] | (simp only [i64_w, i32_w]; rw [c6b0]) | skip)
    have H' := Aside0.mk H
    clear H
    go_wp2
    go_meet
    case rel => exact ⟨_, ((t212.toList == ([98, 121, 116, 101] : List UInt8))), (by first | rfl | (simp; done) | (simp [*]; done)), H', ⟨by first | omega | exact Nat.le_refl _⟩, ⟨bw HB.out⟩⟩
  case rest =>
   clear HC4; (try clear c1); (try clear p2); (try clear c3); (try clear c6); (try clear c6b0); (try clear c6b1)
   obtain ⟨kq, x23_3, rfl, HA, HJ3, HB⟩ := hcut
   cases kq with
   | zero => exact absurd HA.out (by simp [spec_l4Bytes.j0])
   | succ kj3 =>
    have H := HA.out
    clear HA
    simp only [spec_l4Bytes.j0] at H
    by_cases c7 : x23_3 = true
    ·subst c7
     have H1 : ((spec_l1In.f t213 0 255).bind fun t218 => (if t218 = true then (if t212.toList = ([97, 116] : List UInt8) then (some ((([] : List Int)), t213, true)) else (some ((([t213] : List Int)), (-1), true))) else (some ((([] : List Int)), (-1), false)))) = some (r1, r2, r3) := by rw [if_pos rfl] at H; exact H
     clear H
     have H := H1
     clear H1
     replace H := Option.bind_eq_some_iff.mp H
     obtain ⟨t218, A80, H⟩ := H
     replace H : (if t218 = true then (if t212.toList = ([97, 116] : List UInt8) then (some ((([] : List Int)), t213, true)) else (some ((([t213] : List Int)), (-1), true))) else (some ((([] : List Int)), (-1), false))) = some (r1, r2, r3) := H
     have A8 := Aside0.mk A80
     clear A80
     by_cases c9 : t218 = true
     ·subst c9
      have H1 : (if t212.toList = ([97, 116] : List UInt8) then (some ((([] : List Int)), t213, true)) else (some ((([t213] : List Int)), (-1), true))) = some (r1, r2, r3) := by rw [if_pos rfl] at H; exact H
      clear H
      have H := H1
      clear H1
      by_cases c10 : t212.toList = ([97, 116] : List UInt8)
      ·rw [if_pos c10] at H
       have c10b0 : (t212.toList == ([97, 116] : List UInt8)) = true := beq_iff_eq.mpr c10
       have c10b1 : (t212.toList != ([97, 116] : List UInt8)) = false := bne_eq_false_iff_eq.mpr c10
       clear c10
       obtain ⟨y219, hy219⟩ : ∃ y_ : List Int, y_ = (([] : List Int)) := ⟨_, rfl⟩
       replace H : (some (y219, t213, true)) = some (r1, r2, r3) := by first | (rw [hy219]; with_reducible exact H) | (have H2_ := (Option.bind_some _ _).symm.trans H; rw [hy219]; with_reducible exact H2_) | (have H2_ := (Option.bind_some _ _).symm.trans H; with_reducible exact H2_) | with_reducible exact H | (rw [hy219]; exact H) | exact H
       have Ny219 := Aside0.mk hy219
       clear hy219
       simp only [Option.some.injEq, Prod.mk.injEq] at H
       obtain ⟨rfl, rfl, rfl⟩ := H
       go_wp2_with (first | ((with_reducible refine gate_callee (f := 68) rfl ?_); refine goesM_ (some 25) rfl rfl Try.func68 #[.int .i64 t213, .int .i64 0, .int .i64 255] ?_; (with_reducible refine (spec_l1In.calls t213 0 255 true _ A8.out).mono ?_); rintro e w' ⟨rfl, ⟨nd, rfl⟩⟩; refine ⟨_, rfl, ?_⟩) | ((with_reducible refine gate_dst (N := 30) rfl ?_); refine Kd.R_lit (Kd.int .i64) _ 3 ?hg (N := 30) ?hd (xs := ([] : List Int)) (inner := []) (ok := fun _ => True) (okp := fun _ => True) ?hr ?hp (fun _ hk => hk) trivial (Below.refl _ _) (Nat.le_refl _) (by simp) ?_; (case hd => rfl); (case hg => rfl); (case hr => first | (go_simp; done) | (go_simp; rfl)); (case hp => exact (Reps.none _ _)); intro v220 w11 ho12 hb hg_ hnew_; clear hg_ hnew_; (first | rw [← Ny219.out] at ho12 | (simp only [Int.reduceToNat] at ho12; rw [← Ny219.out] at ho12)); have n0_ := Aside0.mk (Kd.R_lower ho12 (below_size (bw HB.out))); have n1_ := Aside0.mk (below_step (bw HB.out) hb); clear HB; have HO221 := n0_; have HB := n1_; clear n0_ n1_; clear hb ho12))
       go_ret3
       exact ⟨_, rt, kr HO221.out, bw HB.out⟩
      ·rw [if_neg c10] at H
       have c10b0 : (t212.toList == ([97, 116] : List UInt8)) = false := beq_eq_false_iff_ne.mpr c10
       have c10b1 : (t212.toList != ([97, 116] : List UInt8)) = true := bne_iff_ne.mpr c10
       obtain ⟨y222, hy222⟩ : ∃ y_ : List Int, y_ = (([t213] : List Int)) := ⟨_, rfl⟩
       replace H : (some (y222, (-1), true)) = some (r1, r2, r3) := by first | (rw [hy222]; with_reducible exact H) | (have H2_ := (Option.bind_some _ _).symm.trans H; rw [hy222]; with_reducible exact H2_) | (have H2_ := (Option.bind_some _ _).symm.trans H; with_reducible exact H2_) | with_reducible exact H | (rw [hy222]; exact H) | exact H
       have Ny222 := Aside0.mk hy222
       clear hy222
       simp only [Option.some.injEq, Prod.mk.injEq] at H
       obtain ⟨rfl, rfl, rfl⟩ := H
       go_wp2_with (first | ((with_reducible refine gate_callee (f := 68) rfl ?_); refine goesM_ (some 25) rfl rfl Try.func68 #[.int .i64 t213, .int .i64 0, .int .i64 255] ?_; (with_reducible refine (spec_l1In.calls t213 0 255 true _ A8.out).mono ?_); rintro e w' ⟨rfl, ⟨nd, rfl⟩⟩; refine ⟨_, rfl, ?_⟩) | ((with_reducible refine gate_dst (N := 33) rfl ?_); refine Kd.R_lit (Kd.int .i64) _ 3 ?hg (N := 33) ?hd (xs := ([t213] : List Int)) (inner := [.int .i64 t213]) (ok := fun _ => True) (okp := fun _ => True) ?hr ?hp (fun _ hk => hk) trivial (Below.refl _ _) (Nat.le_refl _) (by simp) ?_; (case hd => rfl); (case hg => rfl); (case hr => first | (go_simp; done) | (go_simp; rfl)); (case hp => exact (Reps.one (show Kd.M (Kd.int .i64) _ _ _ t213 [.int .i64 t213] from rfl) (Reps.none _ _))); intro v223 w13 ho14 hb hg_ hnew_; clear hg_ hnew_; (first | rw [← Ny222.out] at ho14 | (simp only [Int.reduceToNat] at ho14; rw [← Ny222.out] at ho14)); have n0_ := Aside0.mk (Kd.R_lower ho14 (below_size (bw HB.out))); have n1_ := Aside0.mk (below_step (bw HB.out) hb); clear HB; have HO224 := n0_; have HB := n1_; clear n0_ n1_; clear hb ho14))
       go_ret3
       exact ⟨_, rt, kr HO224.out, bw HB.out⟩
     ·replace c9 := Bool.eq_false_iff.mpr c9
      subst c9
      have H1 : (some ((([] : List Int)), (-1), false)) = some (r1, r2, r3) := by rw [if_neg (show ¬ (false = true) by decide)] at H; exact H
      clear H
      have H := H1
      clear H1
      obtain ⟨y225, hy225⟩ : ∃ y_ : List Int, y_ = (([] : List Int)) := ⟨_, rfl⟩
      replace H : (some (y225, (-1), false)) = some (r1, r2, r3) := by first | (rw [hy225]; with_reducible exact H) | (have H2_ := (Option.bind_some _ _).symm.trans H; rw [hy225]; with_reducible exact H2_) | (have H2_ := (Option.bind_some _ _).symm.trans H; with_reducible exact H2_) | with_reducible exact H | (rw [hy225]; exact H) | exact H
      have Ny225 := Aside0.mk hy225
      clear hy225
      simp only [Option.some.injEq, Prod.mk.injEq] at H
      obtain ⟨rfl, rfl, rfl⟩ := H
      go_wp2_with (first | ((with_reducible refine gate_callee (f := 68) rfl ?_); refine goesM_ (some 25) rfl rfl Try.func68 #[.int .i64 t213, .int .i64 0, .int .i64 255] ?_; (with_reducible refine (spec_l1In.calls t213 0 255 false _ A8.out).mono ?_); rintro e w' ⟨rfl, ⟨nd, rfl⟩⟩; refine ⟨_, rfl, ?_⟩) | ((with_reducible refine gate_dst (N := 27) rfl ?_); refine Kd.R_lit (Kd.int .i64) _ 3 ?hg (N := 27) ?hd (xs := ([] : List Int)) (inner := []) (ok := fun _ => True) (okp := fun _ => True) ?hr ?hp (fun _ hk => hk) trivial (Below.refl _ _) (Nat.le_refl _) (by simp) ?_; (case hd => rfl); (case hg => rfl); (case hr => first | (go_simp; done) | (go_simp; rfl)); (case hp => exact (Reps.none _ _)); intro v226 w15 ho16 hb hg_ hnew_; clear hg_ hnew_; (first | rw [← Ny225.out] at ho16 | (simp only [Int.reduceToNat] at ho16; rw [← Ny225.out] at ho16)); have n0_ := Aside0.mk (Kd.R_lower ho16 (below_size (bw HB.out))); have n1_ := Aside0.mk (below_step (bw HB.out) hb); clear HB; have HO227 := n0_; have HB := n1_; clear n0_ n1_; clear hb ho16))
      go_ret3
      exact ⟨_, rt, kr HO227.out, bw HB.out⟩
    ·replace c7 := Bool.eq_false_iff.mpr c7
     subst c7
     have H1 : ((spec_OpOf.f kj3 t212).bind fun t228 => (if t228 < 0 then (some ((([] : List Int)), (-1), false)) else ((spec_OpLen.f t228).bind fun t232 => (if t232 = 1 then (some ((([t228] : List Int)), (-1), decide (t213 < 0))) else (if t232 = 2 then ((spec_Byte.f t213).bind fun t236 => ((spec_l1In.f t213 0 255).bind fun t240 => (some ((([t228, t236] : List Int)), (-1), t240)))) else ((spec_Byte.f t213).bind fun t241 => ((spec_Byte.f (t213 / 256)).bind fun t242 => ((spec_l1In.f t213 0 65535).bind fun t246 => (some ((([t228, t241, t242] : List Int)), (-1), t246)))))))))) = some (r1, r2, r3) := by rw [if_neg (show ¬ (false = true) by decide)] at H; exact H
     clear H
     have H := H1
     clear H1
     replace H := Option.bind_eq_some_iff.mp H
     obtain ⟨t228, A170, H⟩ := H
     replace H : (if t228 < 0 then (some ((([] : List Int)), (-1), false)) else ((spec_OpLen.f t228).bind fun t232 => (if t232 = 1 then (some ((([t228] : List Int)), (-1), decide (t213 < 0))) else (if t232 = 2 then ((spec_Byte.f t213).bind fun t236 => ((spec_l1In.f t213 0 255).bind fun t240 => (some ((([t228, t236] : List Int)), (-1), t240)))) else ((spec_Byte.f t213).bind fun t241 => ((spec_Byte.f (t213 / 256)).bind fun t242 => ((spec_l1In.f t213 0 65535).bind fun t246 => (some ((([t228, t241, t242] : List Int)), (-1), t246))))))))) = some (r1, r2, r3) := H
     have A17 := Aside0.mk A170
     clear A170
     by_cases c18 : t228 < 0
     ·rw [if_pos c18] at H
      have c18b0 : decide (t228 < 0) = true := decide_eq_true c18
      clear c18
      obtain ⟨y229, hy229⟩ : ∃ y_ : List Int, y_ = (([] : List Int)) := ⟨_, rfl⟩
      replace H : (some (y229, (-1), false)) = some (r1, r2, r3) := by first | (rw [hy229]; with_reducible exact H) | (have H2_ := (Option.bind_some _ _).symm.trans H; rw [hy229]; with_reducible exact H2_) | (have H2_ := (Option.bind_some _ _).symm.trans H; with_reducible exact H2_) | with_reducible exact H | (rw [hy229]; exact H) | exact H
      have Ny229 := Aside0.mk hy229
      clear hy229
      simp only [Option.some.injEq, Prod.mk.injEq] at H
      obtain ⟨rfl, rfl, rfl⟩ := H
      go_wp2_with (first | ((with_reducible refine gate_callee (f := 130) rfl ?_); refine goesM_ (some 35) rfl rfl Try.func130 #[.string t212] ?_; (with_reducible refine (spec_OpOf.calls kj3 t212 t228 _ A17.out).mono ?_); rintro e w19 ⟨rfl, hb⟩; refine ⟨_, rfl, ?_⟩; have n0_ := Aside0.mk (below_step (bw HB.out) hb); clear HB; have HB := n0_; clear n0_; (try clear hb); (try clear hb2); (try clear hk); (try clear hi)) | ((with_reducible refine gate_dst (N := 38) rfl ?_); refine Kd.R_lit (Kd.int .i64) _ 3 ?hg (N := 38) ?hd (xs := ([] : List Int)) (inner := []) (ok := fun _ => True) (okp := fun _ => True) ?hr ?hp (fun _ hk => hk) trivial (Below.refl _ _) (Nat.le_refl _) (by simp) ?_; (case hd => rfl); (case hg => rfl); (case hr => first | (go_simp; done) | (go_simp; rfl)); (case hp => exact (Reps.none _ _)); intro v230 w20 ho21 hb hg_ hnew_; clear hg_ hnew_; (first | rw [← Ny229.out] at ho21 | (simp only [Int.reduceToNat] at ho21; rw [← Ny229.out] at ho21)); have n0_ := Aside0.mk (Kd.R_lower ho21 (below_size (bw HB.out))); have n1_ := Aside0.mk (below_step (bw HB.out) hb); clear HB; have HO231 := n0_; have HB := n1_; clear n0_ n1_; clear hb ho21))
      go_ret3
      exact ⟨_, rt, kr HO231.out, bw HB.out⟩
     ·rw [if_neg c18] at H
      have c18b0 : decide (t228 < 0) = false := decide_eq_false c18
      clear c18
      replace H := Option.bind_eq_some_iff.mp H
      obtain ⟨t232, A220, H⟩ := H
      replace H : (if t232 = 1 then (some ((([t228] : List Int)), (-1), decide (t213 < 0))) else (if t232 = 2 then ((spec_Byte.f t213).bind fun t236 => ((spec_l1In.f t213 0 255).bind fun t240 => (some ((([t228, t236] : List Int)), (-1), t240)))) else ((spec_Byte.f t213).bind fun t241 => ((spec_Byte.f (t213 / 256)).bind fun t242 => ((spec_l1In.f t213 0 65535).bind fun t246 => (some ((([t228, t241, t242] : List Int)), (-1), t246))))))) = some (r1, r2, r3) := H
      have A22 := Aside0.mk A220
      clear A220
      by_cases c23 : t232 = 1
      ·rw [if_pos c23] at H
       have c23b0 : (t232 == 1) = true := beq_iff_eq.mpr c23
       have c23b1 : (t232 != 1) = false := bne_eq_false_iff_eq.mpr c23
       clear c23
       obtain ⟨y233, hy233⟩ : ∃ y_ : List Int, y_ = (([t228] : List Int)) := ⟨_, rfl⟩
       replace H : (some (y233, (-1), decide (t213 < 0))) = some (r1, r2, r3) := by first | (rw [hy233]; with_reducible exact H) | (have H2_ := (Option.bind_some _ _).symm.trans H; rw [hy233]; with_reducible exact H2_) | (have H2_ := (Option.bind_some _ _).symm.trans H; with_reducible exact H2_) | with_reducible exact H | (rw [hy233]; exact H) | exact H
       have Ny233 := Aside0.mk hy233
       clear hy233
       simp only [Option.some.injEq, Prod.mk.injEq] at H
       obtain ⟨rfl, rfl, rfl⟩ := H
       go_wp2_with (first | ((with_reducible refine gate_callee (f := 130) rfl ?_); refine goesM_ (some 35) rfl rfl Try.func130 #[.string t212] ?_; (with_reducible refine (spec_OpOf.calls kj3 t212 t228 _ A17.out).mono ?_); rintro e w24 ⟨rfl, hb⟩; refine ⟨_, rfl, ?_⟩; have n0_ := Aside0.mk (below_step (bw HB.out) hb); clear HB; have HB := n0_; clear n0_; (try clear hb); (try clear hb2); (try clear hk); (try clear hi)) | ((with_reducible refine gate_callee (f := 81) rfl ?_); refine goesM_ (some 40) rfl rfl Try.func81 #[.int .i64 t228] ?_; (with_reducible refine (spec_OpLen.calls t228 t232 _ A22.out).mono ?_); rintro e w25 ⟨rfl, hb⟩; refine ⟨_, rfl, ?_⟩; have n0_ := Aside0.mk (below_step (bw HB.out) hb); clear HB; have HB := n0_; clear n0_; (try clear hb); (try clear hb2); (try clear hk); (try clear hi)) | ((with_reducible refine gate_dst (N := 44) rfl ?_); refine Kd.R_lit (Kd.int .i64) _ 3 ?hg (N := 44) ?hd (xs := ([t228] : List Int)) (inner := [.int .i64 t228]) (ok := fun _ => True) (okp := fun _ => True) ?hr ?hp (fun _ hk => hk) trivial (Below.refl _ _) (Nat.le_refl _) (by simp) ?_; (case hd => rfl); (case hg => rfl); (case hr => first | (go_simp; done) | (go_simp; rfl)); (case hp => exact (Reps.one (show Kd.M (Kd.int .i64) _ _ _ t228 [.int .i64 t228] from rfl) (Reps.none _ _))); intro v234 w26 ho27 hb hg_ hnew_; clear hg_ hnew_; (first | rw [← Ny233.out] at ho27 | (simp only [Int.reduceToNat] at ho27; rw [← Ny233.out] at ho27)); have n0_ := Aside0.mk (Kd.R_lower ho27 (below_size (bw HB.out))); have n1_ := Aside0.mk (below_step (bw HB.out) hb); clear HB; have HO235 := n0_; have HB := n1_; clear n0_ n1_; clear hb ho27))
       go_ret3
       exact ⟨_, rt, kr HO235.out, bw HB.out⟩
      ·rw [if_neg c23] at H
       have c23b0 : (t232 == 1) = false := beq_eq_false_iff_ne.mpr c23
       have c23b1 : (t232 != 1) = true := bne_iff_ne.mpr c23
       by_cases c28 : t232 = 2
       ·rw [if_pos c28] at H
        have c28b0 : (t232 == 2) = true := beq_iff_eq.mpr c28
        have c28b1 : (t232 != 2) = false := bne_eq_false_iff_eq.mpr c28
        clear c28
        replace H := Option.bind_eq_some_iff.mp H
        obtain ⟨t236, A290, H⟩ := H
        replace H : ((spec_l1In.f t213 0 255).bind fun t240 => (some ((([t228, t236] : List Int)), (-1), t240))) = some (r1, r2, r3) := H
        have A29 := Aside0.mk A290
        clear A290
        obtain ⟨y237, hy237⟩ : ∃ y_ : List Int, y_ = (([t228, t236] : List Int)) := ⟨_, rfl⟩
        replace H : ((spec_l1In.f t213 0 255).bind fun t240 => (some (y237, (-1), t240))) = some (r1, r2, r3) := by first | (rw [hy237]; with_reducible exact H) | (have H2_ := (Option.bind_some _ _).symm.trans H; rw [hy237]; with_reducible exact H2_) | (have H2_ := (Option.bind_some _ _).symm.trans H; with_reducible exact H2_) | with_reducible exact H | (rw [hy237]; exact H) | exact H
        have Ny237 := Aside0.mk hy237
        clear hy237
        replace H := Option.bind_eq_some_iff.mp H
        obtain ⟨t240, A300, H⟩ := H
        replace H : (some (y237, (-1), t240)) = some (r1, r2, r3) := H
        have A30 := Aside0.mk A300
        clear A300
        simp only [Option.some.injEq, Prod.mk.injEq] at H
        obtain ⟨rfl, rfl, rfl⟩ := H
        go_wp2_with (first | ((with_reducible refine gate_callee (f := 130) rfl ?_); refine goesM_ (some 35) rfl rfl Try.func130 #[.string t212] ?_; (with_reducible refine (spec_OpOf.calls kj3 t212 t228 _ A17.out).mono ?_); rintro e w31 ⟨rfl, hb⟩; refine ⟨_, rfl, ?_⟩; have n0_ := Aside0.mk (below_step (bw HB.out) hb); clear HB; have HB := n0_; clear n0_; (try clear hb); (try clear hb2); (try clear hk); (try clear hi)) | ((with_reducible refine gate_callee (f := 81) rfl ?_); refine goesM_ (some 40) rfl rfl Try.func81 #[.int .i64 t228] ?_; (with_reducible refine (spec_OpLen.calls t228 t232 _ A22.out).mono ?_); rintro e w32 ⟨rfl, hb⟩; refine ⟨_, rfl, ?_⟩; have n0_ := Aside0.mk (below_step (bw HB.out) hb); clear HB; have HB := n0_; clear n0_; (try clear hb); (try clear hb2); (try clear hk); (try clear hi)) | ((with_reducible refine gate_callee (f := 71) rfl ?_); refine goesM_ (some 51) rfl rfl Try.func71 #[.int .i64 t213] ?_; (with_reducible refine (spec_Byte.calls t213 t236 _ A29.out).mono ?_); rintro e w' ⟨rfl, ⟨nd, rfl⟩⟩; refine ⟨_, rfl, ?_⟩) | ((with_reducible refine gate_dst (N := 52) rfl ?_); refine Kd.R_lit (Kd.int .i64) _ 3 ?hg (N := 52) ?hd (xs := ([t228, t236] : List Int)) (inner := [.int .i64 t228, .int .i64 t236]) (ok := fun _ => True) (okp := fun _ => True) ?hr ?hp (fun _ hk => hk) trivial (Below.refl _ _) (Nat.le_refl _) (by simp) ?_; (case hd => rfl); (case hg => rfl); (case hr => first | (go_simp; done) | (go_simp; rfl)); (case hp => exact (Reps.one (show Kd.M (Kd.int .i64) _ _ _ t228 [.int .i64 t228] from rfl) (Reps.one (show Kd.M (Kd.int .i64) _ _ _ t236 [.int .i64 t236] from rfl) (Reps.none _ _)))); intro v238 w33 ho34 hb hg_ hnew_; clear hg_ hnew_; (first | rw [← Ny237.out] at ho34 | (simp only [Int.reduceToNat] at ho34; rw [← Ny237.out] at ho34)); have n0_ := Aside0.mk (Kd.R_lower ho34 (below_size (bw HB.out))); have n1_ := Aside0.mk (below_step (bw HB.out) hb); clear HB; have HO239 := n0_; have HB := n1_; clear n0_ n1_; clear hb ho34) | ((with_reducible refine gate_callee (f := 68) rfl ?_); refine goesM_ (some 54) rfl rfl Try.func68 #[.int .i64 t213, .int .i64 0, .int .i64 255] ?_; (with_reducible refine (spec_l1In.calls t213 0 255 t240 _ A30.out).mono ?_); rintro e w' ⟨rfl, ⟨nd, rfl⟩⟩; refine ⟨_, rfl, ?_⟩))
        go_ret3
        exact ⟨_, rt, kr HO239.out, bw HB.out⟩
       ·rw [if_neg c28] at H
        have c28b0 : (t232 == 2) = false := beq_eq_false_iff_ne.mpr c28
        have c28b1 : (t232 != 2) = true := bne_iff_ne.mpr c28
        replace H := Option.bind_eq_some_iff.mp H
        obtain ⟨t241, A350, H⟩ := H
        replace H : ((spec_Byte.f (t213 / 256)).bind fun t242 => ((spec_l1In.f t213 0 65535).bind fun t246 => (some ((([t228, t241, t242] : List Int)), (-1), t246)))) = some (r1, r2, r3) := H
        have A35 := Aside0.mk A350
        clear A350
        replace H := Option.bind_eq_some_iff.mp H
        obtain ⟨t242, A360, H⟩ := H
        replace H : ((spec_l1In.f t213 0 65535).bind fun t246 => (some ((([t228, t241, t242] : List Int)), (-1), t246))) = some (r1, r2, r3) := H
        have A36 := Aside0.mk A360
        clear A360
        obtain ⟨y243, hy243⟩ : ∃ y_ : List Int, y_ = (([t228, t241, t242] : List Int)) := ⟨_, rfl⟩
        replace H : ((spec_l1In.f t213 0 65535).bind fun t246 => (some (y243, (-1), t246))) = some (r1, r2, r3) := by first | (rw [hy243]; with_reducible exact H) | (have H2_ := (Option.bind_some _ _).symm.trans H; rw [hy243]; with_reducible exact H2_) | (have H2_ := (Option.bind_some _ _).symm.trans H; with_reducible exact H2_) | with_reducible exact H | (rw [hy243]; exact H) | exact H
        have Ny243 := Aside0.mk hy243
        clear hy243
        replace H := Option.bind_eq_some_iff.mp H
        obtain ⟨t246, A370, H⟩ := H
        replace H : (some (y243, (-1), t246)) = some (r1, r2, r3) := H
        have A37 := Aside0.mk A370
        clear A370
        simp only [Option.some.injEq, Prod.mk.injEq] at H
        obtain ⟨rfl, rfl, rfl⟩ := H
        go_wp2_with (first | ((with_reducible refine gate_callee (f := 130) rfl ?_); refine goesM_ (some 35) rfl rfl Try.func130 #[.string t212] ?_; (with_reducible refine (spec_OpOf.calls kj3 t212 t228 _ A17.out).mono ?_); rintro e w38 ⟨rfl, hb⟩; refine ⟨_, rfl, ?_⟩; have n0_ := Aside0.mk (below_step (bw HB.out) hb); clear HB; have HB := n0_; clear n0_; (try clear hb); (try clear hb2); (try clear hk); (try clear hi)) | ((with_reducible refine gate_callee (f := 81) rfl ?_); refine goesM_ (some 40) rfl rfl Try.func81 #[.int .i64 t228] ?_; (with_reducible refine (spec_OpLen.calls t228 t232 _ A22.out).mono ?_); rintro e w39 ⟨rfl, hb⟩; refine ⟨_, rfl, ?_⟩; have n0_ := Aside0.mk (below_step (bw HB.out) hb); clear HB; have HB := n0_; clear n0_; (try clear hb); (try clear hb2); (try clear hk); (try clear hi)) | ((with_reducible refine gate_callee (f := 71) rfl ?_); refine goesM_ (some 57) rfl rfl Try.func71 #[.int .i64 t213] ?_; (with_reducible refine (spec_Byte.calls t213 t241 _ A35.out).mono ?_); rintro e w' ⟨rfl, ⟨nd, rfl⟩⟩; refine ⟨_, rfl, ?_⟩) | ((with_reducible refine gate_callee (f := 71) rfl ?_); refine goesM_ (some 60) rfl rfl Try.func71 #[.int .i64 (t213 / 256)] ?_; (with_reducible refine (spec_Byte.calls (t213 / 256) t242 _ A36.out).mono ?_); rintro e w' ⟨rfl, ⟨nd, rfl⟩⟩; refine ⟨_, rfl, ?_⟩) | ((with_reducible refine gate_dst (N := 61) rfl ?_); refine Kd.R_lit (Kd.int .i64) _ 3 ?hg (N := 61) ?hd (xs := ([t228, t241, t242] : List Int)) (inner := [.int .i64 t228, .int .i64 t241, .int .i64 t242]) (ok := fun _ => True) (okp := fun _ => True) ?hr ?hp (fun _ hk => hk) trivial (Below.refl _ _) (Nat.le_refl _) (by simp) ?_; (case hd => rfl); (case hg => rfl); (case hr => first | (go_simp; done) | (go_simp; rfl)); (case hp => exact (Reps.one (show Kd.M (Kd.int .i64) _ _ _ t228 [.int .i64 t228] from rfl) (Reps.one (show Kd.M (Kd.int .i64) _ _ _ t241 [.int .i64 t241] from rfl) (Reps.one (show Kd.M (Kd.int .i64) _ _ _ t242 [.int .i64 t242] from rfl) (Reps.none _ _))))); intro v244 w40 ho41 hb hg_ hnew_; clear hg_ hnew_; (first | rw [← Ny243.out] at ho41 | (simp only [Int.reduceToNat] at ho41; rw [← Ny243.out] at ho41)); have n0_ := Aside0.mk (Kd.R_lower ho41 (below_size (bw HB.out))); have n1_ := Aside0.mk (below_step (bw HB.out) hb); clear HB; have HO245 := n0_; have HB := n1_; clear n0_ n1_; clear hb ho41) | ((with_reducible refine gate_callee (f := 68) rfl ?_); refine goesM_ (some 63) rfl rfl Try.func68 #[.int .i64 t213, .int .i64 0, .int .i64 65535] ?_; (with_reducible refine (spec_l1In.calls t213 0 65535 t246 _ A37.out).mono ?_); rintro e w' ⟨rfl, ⟨nd, rfl⟩⟩; refine ⟨_, rfl, ?_⟩))
        go_ret3
        exact ⟨_, rt, kr HO245.out, bw HB.out⟩
 ·replace c3 := Bool.eq_false_iff.mpr c3
  subst c3
  have H1 : (some ((([] : List Int)), (-1), false)) = some (r1, r2, r3) := by rw [if_neg (show ¬ (false = true) by decide)] at H; exact H
  clear H
  have H := H1
  clear H1
  obtain ⟨y215, hy215⟩ : ∃ y_ : List Int, y_ = (([] : List Int)) := ⟨_, rfl⟩
  replace H : (some (y215, (-1), false)) = some (r1, r2, r3) := by first | (rw [hy215]; with_reducible exact H) | (have H2_ := (Option.bind_some _ _).symm.trans H; rw [hy215]; with_reducible exact H2_) | (have H2_ := (Option.bind_some _ _).symm.trans H; with_reducible exact H2_) | with_reducible exact H | (rw [hy215]; exact H) | exact H
  have Ny215 := Aside0.mk hy215
  clear hy215
  simp only [Option.some.injEq, Prod.mk.injEq] at H
  obtain ⟨rfl, rfl, rfl⟩ := H
  go_enter Try.func118, Try.ntmps118
  go_wp2_with (first | ((with_reducible refine gate_callee (f := 129) rfl ?_); refine goesM_ (some 11) rfl rfl Try.func129 #[.string a0] ?_; (with_reducible refine (spec_l4Line.calls k a0 t212 t213 false _ A2.out).mono ?_); rintro e w42 ⟨rfl, hb⟩; refine ⟨_, rfl, ?_⟩; have n0_ := Aside0.mk (below_step (bw HB.out) hb); clear HB; have HB := n0_; clear n0_; (try clear hb); (try clear hb2); (try clear hk); (try clear hi)) | ((with_reducible refine gate_dst (N := 17) rfl ?_); refine Kd.R_lit (Kd.int .i64) _ 3 ?hg (N := 17) ?hd (xs := ([] : List Int)) (inner := []) (ok := fun _ => True) (okp := fun _ => True) ?hr ?hp (fun _ hk => hk) trivial (Below.refl _ _) (Nat.le_refl _) (by simp) ?_; (case hd => rfl); (case hg => rfl); (case hr => first | (go_simp; done) | (go_simp; rfl)); (case hp => exact (Reps.none _ _)); intro v216 w43 ho44 hb hg_ hnew_; clear hg_ hnew_; (first | rw [← Ny215.out] at ho44 | (simp only [Int.reduceToNat] at ho44; rw [← Ny215.out] at ho44)); have n0_ := Aside0.mk (Kd.R_lower ho44 (below_size (bw HB.out))); have n1_ := Aside0.mk (below_step (bw HB.out) hb); clear HB; have HO217 := n0_; have HB := n1_; clear n0_ n1_; clear hb ho44))
  go_ret3
  exact ⟨_, rt, kr HO217.out, bw HB.out⟩

/-! ### spec_Assemble: function 106 -/
mutual
def spec_Assemble.l0 : Nat → ByteArray → List Int → Int → Int → Int → Int → Option (List Int × Int)
 | 0, _, _, _, _, _, _ => none
 | k + 1, x0, x4, x5, x6, x7, x8 => if x8 ≤ (x0.size : Int) then (if x8 < (x0.size : Int) then (if 0 ≤ x8 then (if (bt x0 x8) = 10 then (if x8 = (x0.size : Int) then (spec_Assemble.j1 k x0 x4 x5 x6 x7 x8 (x6 == (x0.size : Int))) else (spec_Assemble.j1 k x0 x4 x5 x6 x7 x8 false)) else (spec_Assemble.j1 k x0 x4 x5 x6 x7 x8 true)) else (none)) else (if x8 = (x0.size : Int) then (spec_Assemble.j1 k x0 x4 x5 x6 x7 x8 (x6 == (x0.size : Int))) else (spec_Assemble.j1 k x0 x4 x5 x6 x7 x8 false))) else (some (x4, 0))
def spec_Assemble.j1 : Nat → ByteArray → List Int → Int → Int → Int → Int → Bool → Option (List Int × Int)
 | 0, _, _, _, _, _, _, _ => none
 | k + 1, x0, x4, x5, x6, x7, x8, x46 => if x46 = true then (spec_Assemble.l0 k x0 x4 x5 x6 x7 (wrap64 (x8 + 1))) else (if 0 ≤ x6 then (if x6 ≤ x8 then (if x8 ≤ (x0.size : Int) then (if (x0.extract (x6 : Int).toNat (x8 : Int).toNat).toList = ([] : List UInt8) then (spec_Assemble.l0 k x0 x4 x5 (wrap64 (x8 + 1)) (wrap64 (x7 + 1)) (wrap64 (x8 + 1))) else ((spec_l4Bytes.f k (x0.extract (x6 : Int).toNat (x8 : Int).toNat)).bind fun bt253 => (if bt253.2.2 = true then (if bt253.2.1 ≥ 0 then (spec_Assemble.j2 k x0 x4 bt253.2.1 (wrap64 (x8 + 1)) (wrap64 (x7 + 1)) x8 bt253.1) else (spec_Assemble.j2 k x0 x4 x5 (wrap64 (x8 + 1)) (wrap64 (x7 + 1)) x8 bt253.1)) else (some ((([] : List Int)), wrap64 (x7 + 1)))))) else (none)) else (none)) else (none))
def spec_Assemble.j2 : Nat → ByteArray → List Int → Int → Int → Int → Int → List Int → Option (List Int × Int)
 | 0, _, _, _, _, _, _, _ => none
 | k + 1, x0, x4, x5, x6, x7, x8, x10 => spec_Assemble.l1 k x0 x4 x5 x6 x7 x8 x10 0
def spec_Assemble.l1 : Nat → ByteArray → List Int → Int → Int → Int → Int → List Int → Int → Option (List Int × Int)
 | 0, _, _, _, _, _, _, _, _ => none
 | k + 1, x0, x4, x5, x6, x7, x8, x10, x13 => if x13 < (x10.length : Int) then ((spec_Byte.f x5).bind fun t261 => (if 0 ≤ x13 then (if 0 ≤ t261 then (if t261 < (x4.length : Int) then (spec_Assemble.l1 k x0 (x4.set (t261 : Int).toNat (rd x10 x13)) (wrap64 (x5 + 1)) x6 x7 x8 x10 (wrap64 (x13 + 1))) else (none)) else (none)) else (none))) else (spec_Assemble.l0 k x0 x4 x5 x6 x7 (wrap64 (x8 + 1)))
end
def spec_Assemble.f (k : Nat) (a0 : ByteArray) : Option (List Int × Int) := if (a0.size : Int) > 3000 then (some ((([] : List Int)), (-1))) else (if 256 ≤ 35184372088832 then (spec_Assemble.l0 k a0 (List.replicate 256 0) 0 0 0 0) else (none))
theorem spec_Assemble.mono_l : ∀ k, (∀ y0 y1 y2 y3 y4 y5, LeO (spec_Assemble.l0 k y0 y1 y2 y3 y4 y5) (spec_Assemble.l0 (k + 1) y0 y1 y2 y3 y4 y5)) ∧ (∀ y0 y1 y2 y3 y4 y5 y6, LeO (spec_Assemble.j1 k y0 y1 y2 y3 y4 y5 y6) (spec_Assemble.j1 (k + 1) y0 y1 y2 y3 y4 y5 y6)) ∧ (∀ y0 y1 y2 y3 y4 y5 y6, LeO (spec_Assemble.j2 k y0 y1 y2 y3 y4 y5 y6) (spec_Assemble.j2 (k + 1) y0 y1 y2 y3 y4 y5 y6)) ∧ (∀ y0 y1 y2 y3 y4 y5 y6 y7, LeO (spec_Assemble.l1 k y0 y1 y2 y3 y4 y5 y6 y7) (spec_Assemble.l1 (k + 1) y0 y1 y2 y3 y4 y5 y6 y7))
 | 0 => ⟨fun _ _ _ _ _ _ r h => by simp [spec_Assemble.l0] at h, fun _ _ _ _ _ _ _ r h => by simp [spec_Assemble.j1] at h, fun _ _ _ _ _ _ _ r h => by simp [spec_Assemble.j2] at h, fun _ _ _ _ _ _ _ _ r h => by simp [spec_Assemble.l1] at h⟩
 | k + 1 => by
  obtain ⟨ih0, ih1, ih2, ih3⟩ := spec_Assemble.mono_l k
  refine ⟨?_, ?_, ?_, ?_⟩
  ·intro y0 y1 y2 y3 y4 y5
   unfold spec_Assemble.l0
   repeat' first
   | (with_reducible exact ih0 _ _ _ _ _ _)
   | (with_reducible exact ih1 _ _ _ _ _ _ _)
   | (with_reducible exact ih2 _ _ _ _ _ _ _)
   | (with_reducible exact ih3 _ _ _ _ _ _ _ _)
   | (with_reducible exact spec_l4Bytes.mono _ _)
   | (with_reducible exact LeO.refl _)
   | (with_reducible exact LeO.none _)
   | (with_reducible refine LeO.ite ?_ ?_)
   | (with_reducible refine LeO.bind ?_ (fun _ => ?_))
   | exact ih0 _ _ _ _ _ _
   | exact ih1 _ _ _ _ _ _ _
   | exact ih2 _ _ _ _ _ _ _
   | exact ih3 _ _ _ _ _ _ _ _
   | exact spec_l4Bytes.mono _ _
   | exact LeO.none _
   | refine LeO.ite ?_ ?_
   | refine LeO.bind ?_ (fun _ => ?_)
  ·intro y0 y1 y2 y3 y4 y5 y6
   unfold spec_Assemble.j1
   repeat' first
   | (with_reducible exact ih0 _ _ _ _ _ _)
   | (with_reducible exact ih1 _ _ _ _ _ _ _)
   | (with_reducible exact ih2 _ _ _ _ _ _ _)
   | (with_reducible exact ih3 _ _ _ _ _ _ _ _)
   | (with_reducible exact spec_l4Bytes.mono _ _)
   | (with_reducible exact LeO.refl _)
   | (with_reducible exact LeO.none _)
   | (with_reducible refine LeO.ite ?_ ?_)
   | (with_reducible refine LeO.bind ?_ (fun _ => ?_))
   | exact ih0 _ _ _ _ _ _
   | exact ih1 _ _ _ _ _ _ _
   | exact ih2 _ _ _ _ _ _ _
   | exact ih3 _ _ _ _ _ _ _ _
   | exact spec_l4Bytes.mono _ _
   | exact LeO.none _
   | refine LeO.ite ?_ ?_
   | refine LeO.bind ?_ (fun _ => ?_)
  ·intro y0 y1 y2 y3 y4 y5 y6
   unfold spec_Assemble.j2
   repeat' first
   | (with_reducible exact ih0 _ _ _ _ _ _)
   | (with_reducible exact ih1 _ _ _ _ _ _ _)
   | (with_reducible exact ih2 _ _ _ _ _ _ _)
   | (with_reducible exact ih3 _ _ _ _ _ _ _ _)
   | (with_reducible exact spec_l4Bytes.mono _ _)
   | (with_reducible exact LeO.refl _)
   | (with_reducible exact LeO.none _)
   | (with_reducible refine LeO.ite ?_ ?_)
   | (with_reducible refine LeO.bind ?_ (fun _ => ?_))
   | exact ih0 _ _ _ _ _ _
   | exact ih1 _ _ _ _ _ _ _
   | exact ih2 _ _ _ _ _ _ _
   | exact ih3 _ _ _ _ _ _ _ _
   | exact spec_l4Bytes.mono _ _
   | exact LeO.none _
   | refine LeO.ite ?_ ?_
   | refine LeO.bind ?_ (fun _ => ?_)
  ·intro y0 y1 y2 y3 y4 y5 y6 y7
   unfold spec_Assemble.l1
   repeat' first
   | (with_reducible exact ih0 _ _ _ _ _ _)
   | (with_reducible exact ih1 _ _ _ _ _ _ _)
   | (with_reducible exact ih2 _ _ _ _ _ _ _)
   | (with_reducible exact ih3 _ _ _ _ _ _ _ _)
   | (with_reducible exact spec_l4Bytes.mono _ _)
   | (with_reducible exact LeO.refl _)
   | (with_reducible exact LeO.none _)
   | (with_reducible refine LeO.ite ?_ ?_)
   | (with_reducible refine LeO.bind ?_ (fun _ => ?_))
   | exact ih0 _ _ _ _ _ _
   | exact ih1 _ _ _ _ _ _ _
   | exact ih2 _ _ _ _ _ _ _
   | exact ih3 _ _ _ _ _ _ _ _
   | exact spec_l4Bytes.mono _ _
   | exact LeO.none _
   | refine LeO.ite ?_ ?_
   | refine LeO.bind ?_ (fun _ => ?_)
theorem spec_Assemble.mono : ∀ a0 k, LeO (spec_Assemble.f k a0) (spec_Assemble.f (k + 1) a0) := by
 intro a0 k
 obtain ⟨ih0, ih1, ih2, ih3⟩ := spec_Assemble.mono_l k
 unfold spec_Assemble.f
 repeat' first
   | (with_reducible exact ih0 _ _ _ _ _ _)
   | (with_reducible exact ih1 _ _ _ _ _ _ _)
   | (with_reducible exact ih2 _ _ _ _ _ _ _)
   | (with_reducible exact ih3 _ _ _ _ _ _ _ _)
   | (with_reducible exact spec_l4Bytes.mono _ _)
   | (with_reducible exact LeO.refl _)
   | (with_reducible exact LeO.none _)
   | (with_reducible refine LeO.ite ?_ ?_)
   | (with_reducible refine LeO.bind ?_ (fun _ => ?_))
   | exact ih0 _ _ _ _ _ _
   | exact ih1 _ _ _ _ _ _ _
   | exact ih2 _ _ _ _ _ _ _
   | exact ih3 _ _ _ _ _ _ _ _
   | exact spec_l4Bytes.mono _ _
   | exact LeO.none _
   | refine LeO.ite ?_ ?_
   | refine LeO.bind ?_ (fun _ => ?_)
def spec_Assemble.T21 : Bool × List (List Nat × List Nat) := (true, [([], []), ([], []), ([1], [1]), ([], []), ([], []), ([3, 4], [3, 4]), ([5], [5]), ([0, 2, 0, 1, 2, 3, 4, 5, 6], [0, 2]), ([7, 6, 2, 0, 1, 2, 3, 4, 5, 6], [6, 7])])
def spec_Assemble.B21 : List Nat := [0, 0, 2, 0, 0, 24, 56, 127, 255]
theorem spec_Assemble.tab21 : rtab .any (opsOf Try.f106 21) = spec_Assemble.T21 := by kernel_rfl
theorem spec_Assemble.bits21 : waitsOk spec_Assemble.T21.2 spec_Assemble.B21 = true := by kernel_rfl
set_option maxHeartbeats 8000000 in
set_option maxRecDepth 100000 in
theorem spec_Assemble.calls (k : Nat) (a0 : ByteArray) (r1 : List Int) (r2 : Int) (w : World) (h : spec_Assemble.f k a0 = some (r1, r2)) :
  Calls Try.prog 106 #[.string a0] w fun e w' => ∃ v0_ : Value, e = .returned (.tuple #[v0_, .int .i64 r2]) ∧ Kd.R (Kd.int .i64) 3 w' w.heap.size (fun _ => True) v0_ r1 ∧ Below w.heap.size w w' := by
 have HB := Aside0.mk (Below.refl w.heap.size w)
 have H : (if (a0.size : Int) > 3000 then (some ((([] : List Int)), (-1))) else (if 256 ≤ 35184372088832 then (spec_Assemble.l0 k a0 (List.replicate 256 0) 0 0 0 0) else (none))) = some (r1, r2) := h
 clear h
 by_cases c2 : (a0.size : Int) > 3000
 ·rw [if_pos c2] at H
  have c2b0 : decide (3000 < (a0.size : Int)) = true := decide_eq_true c2
  have c2b1 : decide (3000 < a0.size) = true := decide_eq_true (by omega)
  clear c2
  obtain ⟨y247, hy247⟩ : ∃ y_ : List Int, y_ = (([] : List Int)) := ⟨_, rfl⟩
  replace H : (some (y247, (-1))) = some (r1, r2) := by first | (rw [hy247]; with_reducible exact H) | (have H2_ := (Option.bind_some _ _).symm.trans H; rw [hy247]; with_reducible exact H2_) | (have H2_ := (Option.bind_some _ _).symm.trans H; with_reducible exact H2_) | with_reducible exact H | (rw [hy247]; exact H) | exact H
  have Ny247 := Aside0.mk hy247
  clear hy247
  simp only [Option.some.injEq, Prod.mk.injEq] at H
  obtain ⟨rfl, rfl⟩ := H
  go_enter Try.func106, Try.ntmps106
  go_wp2_with (first | ((with_reducible refine gate_dst (N := 17) rfl ?_); (try (refine gate_guard (by rfl) ?_; dsimp only)); refine Kd.R_lit (Kd.int .i64) _ 3 ?hg (N := 17) ?hd (xs := ([] : List Int)) (inner := []) (ok := fun _ => True) (okp := fun _ => True) ?hr ?hp (fun _ hk => hk) trivial (Below.refl _ _) (Nat.le_refl _) (by simp) ?_; (case hd => rfl); (case hg => rfl); (case hr => first | (go_simp; done) | (go_simp; rfl)); (case hp => exact (Reps.none _ _)); intro v248 w3 ho4 hb hg_ hnew_; clear hg_ hnew_; (first | rw [← Ny247.out] at ho4 | (simp only [Int.reduceToNat] at ho4; rw [← Ny247.out] at ho4)); have n0_ := Aside0.mk (Kd.R_lower ho4 (below_size (bw HB.out))); have n1_ := Aside0.mk (below_step (bw HB.out) hb); clear HB; have HO249 := n0_; have HB := n1_; clear n0_ n1_; clear hb ho4))
  go_ret2
  exact ⟨_, rt, kr HO249.out, bw HB.out⟩
 ·rw [if_neg c2] at H
  have c2b0 : decide (3000 < (a0.size : Int)) = false := decide_eq_false c2
  have c2b1 : decide (3000 < a0.size) = false := decide_eq_false (by omega)
  clear c2
  by_cases c5 : 256 ≤ 35184372088832
  ·rw [if_pos c5] at H
   have c5b0 := eq_true c5
   have c5b1 : decide (256 ≤ 35184372088832) = true := decide_eq_true c5
   clear c5
   obtain ⟨y250, hy250⟩ : ∃ y_ : List Int, y_ = (List.replicate 256 0) := ⟨_, rfl⟩
   replace H : (spec_Assemble.l0 k a0 y250 0 0 0 0) = some (r1, r2) := by first | (rw [hy250]; with_reducible exact H) | (have H2_ := (Option.bind_some _ _).symm.trans H; rw [hy250]; with_reducible exact H2_) | (have H2_ := (Option.bind_some _ _).symm.trans H; with_reducible exact H2_) | with_reducible exact H | (rw [hy250]; exact H) | exact H
   have Ny250 := Aside0.mk hy250
   clear hy250
   have H' := Aside0.mk H
   clear H
   go_enter Try.func106, Try.ntmps106
   go_wp2_with (first | ((with_reducible refine gate_dst (N := 18) rfl ?_); (try (refine gate_guard (by rfl) ?_; dsimp only)); refine Kd.R_make (Kd.int .i64) _ 3 rfl (N := 18) rfl 30 _ _ rfl 256 rfl rfl Try.underlying30 (.int .i64 0) 8 info3 rfl (by decide) (by omega) 0 (ok := fun _ => True) (okp := fun _ => True) rfl (fun _ hk => hk) trivial (by omega) (by omega) (Below.refl _ _) (Nat.le_refl _) ?_; intro v251 w6 ho7 hb hg_ hnew_; clear hg_ hnew_; (first | rw [← Ny250.out] at ho7 | (simp only [Int.reduceToNat] at ho7; rw [← Ny250.out] at ho7)); have n0_ := Aside0.mk (Kd.R_lower ho7 (below_size (bw HB.out))); have n1_ := Aside0.mk (below_step (bw HB.out) hb); clear HB; have HO252 := n0_; have HB := n1_; clear n0_ n1_; clear hb ho7))
   go_loopg [5, 6, 7, 8] k (fun kq v5 v6 v7 v8 w' => ∃ (x4_1 : List Int) (x5_1 : Int) (x6_1 : Int) (x7_1 : Int) (x8_1 : Int), v5 = .int .i64 x5_1 ∧ v6 = .int .i64 x6_1 ∧ v7 = .int .i64 x7_1 ∧ v8 = .int .i64 x8_1 ∧ Aside0 (spec_Assemble.l0 kq a0 x4_1 x5_1 x6_1 x7_1 x8_1 = some (r1, r2)) ∧ Aside0 (kq ≤ k) ∧ Aside0 (Kd.R (Kd.int .i64) 3 w' w.heap.size (fun _ => True) v251 x4_1) ∧ Aside0 (Below w.heap.size w w'))
   case atStart => exact ⟨(y250), (0), (0), (0), (0), (by first | rfl | (simp; done) | (simp [*]; done)), (by first | rfl | (simp; done) | (simp [*]; done)), (by first | rfl | (simp; done) | (simp [*]; done)), (by first | rfl | (simp; done) | (simp [*]; done)), H', ⟨Nat.le_refl _⟩, ⟨kr HO252.out⟩, ⟨bw HB.out⟩⟩
   case round =>
    clear H'
    (try clear c1); (try clear c2); (try clear c2b0); (try clear c2b1); (try clear p2); (try clear c5); (try clear c5b0); (try clear c5b1)
    obtain ⟨x4_1, x5_1, x6_1, x7_1, x8_1, rfl, rfl, rfl, rfl, HA, HK1, HO_4, HB⟩ := hrel
    cases gk with
    | zero => exact absurd HA.out (by simp [spec_Assemble.l0])
    | succ k1 =>
     have H := HA.out
     clear HA
     simp only [spec_Assemble.l0] at H
     by_cases c8 : x8_1 ≤ (a0.size : Int)
     ·rw [if_pos c8] at H
      have c8b0 : decide (x8_1 ≤ (a0.size : Int)) = true := decide_eq_true c8
      clear c8
      have HC9 := Aside0.mk H
      clear H
      go_upto_region 8 with (fail)
      go_cut [46] (fun v46 wc => ∃ (kq : Nat) (x46_8 : Bool), v46 = .bool x46_8 ∧ Aside0 (spec_Assemble.j1 kq a0 x4_1 x5_1 x6_1 x7_1 x8_1 x46_8 = some (r1, r2)) ∧ Aside0 (kq ≤ k1) ∧ Aside0 (Kd.R (Kd.int .i64) 3 wc w.heap.size (fun _ => True) v251 x4_1) ∧ Aside0 (Below w.heap.size w wc))
      case first =>
       have H := HC9.out
       clear HC9
       by_cases c10 : x8_1 < (a0.size : Int)
       ·rw [if_pos c10] at H
        have c10b0 : decide (x8_1 < (a0.size : Int)) = true := decide_eq_true c10
        clear c10
        (first | rw [c10b0] | (simp only [i64_w, i32_w]; rw [c10b0]) | skip)
        by_cases c11 : 0 ≤ x8_1
        ·rw [if_pos c11] at H
         have c11b0 : decide (0 ≤ x8_1) = true := decide_eq_true c11
         clear c11
         by_cases c13 : (bt a0 x8_1) = 10
         ·rw [if_pos c13] at H
          have c13b0 : ((bt a0 x8_1) == 10) = true := beq_iff_eq.mpr c13
          have c13b1 : ((bt a0 x8_1) != 10) = false := bne_eq_false_iff_eq.mpr c13
          clear c13
          by_cases c14 : x8_1 = (a0.size : Int)
          ·rw [if_pos c14] at H
           have c14b0 : (x8_1 == (a0.size : Int)) = true := beq_iff_eq.mpr c14
           have c14b1 : (x8_1 != (a0.size : Int)) = false := bne_eq_false_iff_eq.mpr c14
           clear c14
           have H' := Aside0.mk H
           clear H
           have p12 : 0 ≤ (x8_1 : Int) := dt
           have q12 : x8_1 < (a0.size : Int) := dt
           have hx12 := bt_at a0 x8_1
           replace p12 := eq_true p12
           replace q12 := eq_true q12
           go_wp2
           go_meet
           case rel => exact ⟨_, ((x6_1 == (a0.size : Int))), (by first | rfl | (simp; done) | (simp [*]; done)), H', ⟨by have := HK1.out; first | omega | exact Nat.le_refl _⟩, ⟨kr HO_4.out⟩, ⟨bw HB.out⟩⟩
          ·rw [if_neg c14] at H
           have c14b0 : (x8_1 == (a0.size : Int)) = false := beq_eq_false_iff_ne.mpr c14
           have c14b1 : (x8_1 != (a0.size : Int)) = true := bne_iff_ne.mpr c14
           have H' := Aside0.mk H
           clear H
           have p12 : 0 ≤ (x8_1 : Int) := dt
           have q12 : x8_1 < (a0.size : Int) := dt
           have hx12 := bt_at a0 x8_1
           replace p12 := eq_true p12
           replace q12 := eq_true q12
           go_wp2
           go_meet
           case rel => exact ⟨_, (false), (by first | rfl | (simp; done) | (simp [*]; done)), H', ⟨by have := HK1.out; first | omega | exact Nat.le_refl _⟩, ⟨kr HO_4.out⟩, ⟨bw HB.out⟩⟩
         ·rw [if_neg c13] at H
          have c13b0 : ((bt a0 x8_1) == 10) = false := beq_eq_false_iff_ne.mpr c13
          have c13b1 : ((bt a0 x8_1) != 10) = true := bne_iff_ne.mpr c13
          have H' := Aside0.mk H
          clear H
          have p12 : 0 ≤ (x8_1 : Int) := dt
          have q12 : x8_1 < (a0.size : Int) := dt
          have hx12 := bt_at a0 x8_1
          replace p12 := eq_true p12
          replace q12 := eq_true q12
          go_wp2
          go_meet
          case rel => exact ⟨_, (true), (by first | rfl | (simp; done) | (simp [*]; done)), H', ⟨by have := HK1.out; first | omega | exact Nat.le_refl _⟩, ⟨kr HO_4.out⟩, ⟨bw HB.out⟩⟩
        ·rw [if_neg c11] at H
         exact absurd H (by simp)
       ·rw [if_neg c10] at H
        have c10b0 : decide (x8_1 < (a0.size : Int)) = false := decide_eq_false c10
        clear c10
        (first | rw [c10b0] | (simp only [i64_w, i32_w]; rw [c10b0]) | skip)
        by_cases c15 : x8_1 = (a0.size : Int)
        ·rw [if_pos c15] at H
         have c15b0 : (x8_1 == (a0.size : Int)) = true := beq_iff_eq.mpr c15
         have c15b1 : (x8_1 != (a0.size : Int)) = false := bne_eq_false_iff_eq.mpr c15
         clear c15
         have H' := Aside0.mk H
         clear H
         go_wp2
         go_meet
         case rel => exact ⟨_, ((x6_1 == (a0.size : Int))), (by first | rfl | (simp; done) | (simp [*]; done)), H', ⟨by have := HK1.out; first | omega | exact Nat.le_refl _⟩, ⟨kr HO_4.out⟩, ⟨bw HB.out⟩⟩
        ·rw [if_neg c15] at H
         have c15b0 : (x8_1 == (a0.size : Int)) = false := beq_eq_false_iff_ne.mpr c15
         have c15b1 : (x8_1 != (a0.size : Int)) = true := bne_iff_ne.mpr c15
         have H' := Aside0.mk H
         clear H
         go_wp2
         go_meet
         case rel => exact ⟨_, (false), (by first | rfl | (simp; done) | (simp [*]; done)), H', ⟨by have := HK1.out; first | omega | exact Nat.le_refl _⟩, ⟨kr HO_4.out⟩, ⟨bw HB.out⟩⟩
      case rest =>
       clear HC9; (try clear c1); (try clear p1); (try clear q1); (try clear hx1); (try clear c2); (try clear c2b0); (try clear c2b1); (try clear p2); (try clear c5); (try clear c5b0); (try clear c5b1); (try clear c8); (try clear c8b0); (try clear c10); (try clear c10b0); (try clear c11); (try clear c11b0); (try clear p12); (try clear q12); (try clear hx12); (try clear c13); (try clear c13b0); (try clear c13b1); (try clear c14); (try clear c14b0); (try clear c14b1); (try clear c15); (try clear c15b0); (try clear c15b1); (try clear p12); (try clear p2); (try clear q12)
       obtain ⟨kq, x46_8, rfl, HA, HJ8, HO_4, HB⟩ := hcut
       cases kq with
       | zero => exact absurd HA.out (by simp [spec_Assemble.j1])
       | succ kj8 =>
        have H := HA.out
        clear HA
        simp only [spec_Assemble.j1] at H
        by_cases c16 : x46_8 = true
        ·subst c16
         have H1 : (spec_Assemble.l0 kj8 a0 x4_1 x5_1 x6_1 x7_1 (wrap64 (x8_1 + 1))) = some (r1, r2) := by rw [if_pos rfl] at H; exact H
         clear H
         have H := H1
         clear H1
         have H' := Aside0.mk H
         clear H
         go_wp2
         go_roundg kj8
         case measure => have := HK1.out; have := HJ8.out; omega
         case rel => exact ⟨(x4_1), (x5_1), (x6_1), (x7_1), (wrap64 (x8_1 + 1)), (by first | rfl | (simp; done) | (simp [*]; done)), (by first | rfl | (simp; done) | (simp [*]; done)), (by first | rfl | (simp; done) | (simp [*]; done)), (by first | rfl | (simp; done) | (simp [*]; done)), H', ⟨by have := HK1.out; have := HJ8.out; omega⟩, ⟨kr HO_4.out⟩, ⟨bw HB.out⟩⟩
        ·replace c16 := Bool.eq_false_iff.mpr c16
         subst c16
         have H1 : (if 0 ≤ x6_1 then (if x6_1 ≤ x8_1 then (if x8_1 ≤ (a0.size : Int) then (if (a0.extract (x6_1 : Int).toNat (x8_1 : Int).toNat).toList = ([] : List UInt8) then (spec_Assemble.l0 kj8 a0 x4_1 x5_1 (wrap64 (x8_1 + 1)) (wrap64 (x7_1 + 1)) (wrap64 (x8_1 + 1))) else ((spec_l4Bytes.f kj8 (a0.extract (x6_1 : Int).toNat (x8_1 : Int).toNat)).bind fun bt253 => (if bt253.2.2 = true then (if bt253.2.1 ≥ 0 then (spec_Assemble.j2 kj8 a0 x4_1 bt253.2.1 (wrap64 (x8_1 + 1)) (wrap64 (x7_1 + 1)) x8_1 bt253.1) else (spec_Assemble.j2 kj8 a0 x4_1 x5_1 (wrap64 (x8_1 + 1)) (wrap64 (x7_1 + 1)) x8_1 bt253.1)) else (some ((([] : List Int)), wrap64 (x7_1 + 1)))))) else (none)) else (none)) else (none)) = some (r1, r2) := by rw [if_neg (show ¬ (false = true) by decide)] at H; exact H
         clear H
         have H := H1
         clear H1
         by_cases c17 : 0 ≤ x6_1
         ·rw [if_pos c17] at H
          have c17b0 := eq_true c17
          have c17b1 : decide (0 ≤ x6_1) = true := decide_eq_true c17
          clear c17
          by_cases c18 : x6_1 ≤ x8_1
          ·rw [if_pos c18] at H
           have c18b0 := eq_true c18
           have c18b1 : decide (x6_1 ≤ x8_1) = true := decide_eq_true c18
           clear c18
           by_cases c19 : x8_1 ≤ (a0.size : Int)
           ·rw [if_pos c19] at H
            have c19b0 := eq_true c19
            have c19b1 : decide (x8_1 ≤ (a0.size : Int)) = true := decide_eq_true c19
            clear c19
            by_cases c20 : (a0.extract (x6_1 : Int).toNat (x8_1 : Int).toNat).toList = ([] : List UInt8)
            ·rw [if_pos c20] at H
             have c20b0 : ((a0.extract (x6_1 : Int).toNat (x8_1 : Int).toNat).toList == ([] : List UInt8)) = true := beq_iff_eq.mpr c20
             have c20b1 : ((a0.extract (x6_1 : Int).toNat (x8_1 : Int).toNat).toList != ([] : List UInt8)) = false := bne_eq_false_iff_eq.mpr c20
             clear c20
             have H' := Aside0.mk H
             clear H
             go_wp2
             go_roundg kj8
             case measure => have := HK1.out; have := HJ8.out; omega
             case rel => exact ⟨(x4_1), (x5_1), (wrap64 (x8_1 + 1)), (wrap64 (x7_1 + 1)), (wrap64 (x8_1 + 1)), (by first | rfl | (simp; done) | (simp [*]; done)), (by first | rfl | (simp; done) | (simp [*]; done)), (by first | rfl | (simp; done) | (simp [*]; done)), (by first | rfl | (simp; done) | (simp [*]; done)), H', ⟨by have := HK1.out; have := HJ8.out; omega⟩, ⟨kr HO_4.out⟩, ⟨bw HB.out⟩⟩
            ·rw [if_neg c20] at H
             have c20b0 : ((a0.extract (x6_1 : Int).toNat (x8_1 : Int).toNat).toList == ([] : List UInt8)) = false := beq_eq_false_iff_ne.mpr c20
             have c20b1 : ((a0.extract (x6_1 : Int).toNat (x8_1 : Int).toNat).toList != ([] : List UInt8)) = true := bne_iff_ne.mpr c20
             replace H := Option.bind_eq_some_iff.mp H
             obtain ⟨⟨t253, t254, t255⟩, A210, H⟩ := H
             replace H : (if t255 = true then (if t254 ≥ 0 then (spec_Assemble.j2 kj8 a0 x4_1 t254 (wrap64 (x8_1 + 1)) (wrap64 (x7_1 + 1)) x8_1 t253) else (spec_Assemble.j2 kj8 a0 x4_1 x5_1 (wrap64 (x8_1 + 1)) (wrap64 (x7_1 + 1)) x8_1 t253)) else (some ((([] : List Int)), wrap64 (x7_1 + 1)))) = some (r1, r2) := H
             have A21 := Aside0.mk A210
             clear A210
             by_cases c22 : t255 = true
             ·subst c22
              have H1 : (if t254 ≥ 0 then (spec_Assemble.j2 kj8 a0 x4_1 t254 (wrap64 (x8_1 + 1)) (wrap64 (x7_1 + 1)) x8_1 t253) else (spec_Assemble.j2 kj8 a0 x4_1 x5_1 (wrap64 (x8_1 + 1)) (wrap64 (x7_1 + 1)) x8_1 t253)) = some (r1, r2) := by rw [if_pos rfl] at H; exact H
              clear H
              have H := H1
              clear H1
              have HC23 := Aside0.mk H
              clear H
              go_upto_if 68 with (first | ((with_reducible refine gate_callee (f := 118) rfl ?_); refine goesM_ (some 59) rfl rfl Try.func118 #[.string (a0.extract (x6_1 : Int).toNat (x8_1 : Int).toNat)] ?_; (with_reducible refine (spec_l4Bytes.calls kj8 (a0.extract (x6_1 : Int).toNat (x8_1 : Int).toNat) t253 t254 true _ A21.out).mono ?_); rintro e w24 ⟨v256, rfl, ho0, hb⟩; refine ⟨_, rfl, ?_⟩; have n0_ := Aside0.mk (Kd.R_elder' (kr HO_4.out) (Kd.R_base ho0) hb); have n1_ := Aside0.mk (Kd.R_lower (Kd.R_new' ho0 (Kd.R_lt (kr HO_4.out))) (below_size (bw HB.out))); have n2_ := Aside0.mk (below_step (bw HB.out) hb); clear HO_4; clear HB; have HO_4 := n0_; have HO257 := n1_; have HB := n2_; clear n0_ n1_ n2_; (try clear hb); (try clear hb2); (try clear hk); (try clear hi); (try clear ho0)))
              (try simp only [Act.put, List.setIfInBounds_toArray, List.set_cons_zero, List.set_cons_succ])
              go_cut [5] (fun v5 wc => ∃ (kq : Nat) (x5_22 : Int), v5 = .int .i64 x5_22 ∧ Aside0 (spec_Assemble.j2 kq a0 x4_1 x5_22 (wrap64 (x8_1 + 1)) (wrap64 (x7_1 + 1)) x8_1 t253 = some (r1, r2)) ∧ Aside0 (kq ≤ kj8) ∧ Aside0 (Kd.R (Kd.int .i64) 3 wc w.heap.size (fun k_ => some k_ ≠ (v256 : Value).ownBlock) v251 x4_1) ∧ Aside0 (Kd.R (Kd.int .i64) 3 wc w.heap.size (fun k_ => some k_ ≠ (v251 : Value).ownBlock) v256 t253) ∧ Aside0 (Below w.heap.size w wc))
              case first =>
               have H := HC23.out
               clear HC23
               by_cases c25 : t254 ≥ 0
               ·rw [if_pos c25] at H
                have c25b0 : decide (0 ≤ t254) = true := decide_eq_true c25
                clear c25
                (first | rw [c25b0] | (simp only [i64_w, i32_w]; rw [c25b0]) | skip)
                have H' := Aside0.mk H
                clear H
                go_wp2
                go_meet
                case rel => exact ⟨_, (t254), (by first | rfl | (simp; done) | (simp [*]; done)), H', ⟨by have := HK1.out; have := HJ8.out; first | omega | exact Nat.le_refl _⟩, ⟨kr (Kd.R_mono HO_4.out (fun _ hk => hk.2))⟩, ⟨kr (Kd.R_mono HO257.out (fun _ hk => hk.2))⟩, ⟨bw HB.out⟩⟩
               ·rw [if_neg c25] at H
                have c25b0 : decide (0 ≤ t254) = false := decide_eq_false c25
                clear c25
                (first | rw [c25b0] | (simp only [i64_w, i32_w]; rw [c25b0]) | skip)
                have H' := Aside0.mk H
                clear H
                go_wp2
                go_meet
                case rel => exact ⟨_, (x5_1), (by first | rfl | (simp; done) | (simp [*]; done)), H', ⟨by have := HK1.out; have := HJ8.out; first | omega | exact Nat.le_refl _⟩, ⟨kr (Kd.R_mono HO_4.out (fun _ hk => hk.2))⟩, ⟨kr (Kd.R_mono HO257.out (fun _ hk => hk.2))⟩, ⟨bw HB.out⟩⟩
              case rest =>
               clear HC23; (try clear c1); (try clear p1); (try clear q1); (try clear hx1); (try clear c2); (try clear c2b0); (try clear c2b1); (try clear p2); (try clear c5); (try clear c5b0); (try clear c5b1); (try clear p6); (try clear c8); (try clear c8b0); (try clear c10); (try clear c10b0); (try clear c11); (try clear c11b0); (try clear p12); (try clear q12); (try clear hx12); (try clear c13); (try clear c13b0); (try clear c13b1); (try clear c14); (try clear c14b0); (try clear c14b1); (try clear c15); (try clear c15b0); (try clear c15b1); (try clear c16); (try clear c17); (try clear c17b0); (try clear c17b1); (try clear c18); (try clear c18b0); (try clear c18b1); (try clear c19); (try clear c19b0); (try clear c19b1); (try clear c20); (try clear c20b0); (try clear c20b1); (try clear c22); (try clear c25); (try clear c25b0); (try clear p1); (try clear p12); (try clear p2); (try clear q1); (try clear q12)
               obtain ⟨kq, x5_22, rfl, HA, HJ22, HO_4, HO_10, HB⟩ := hcut
               cases kq with
               | zero => exact absurd HA.out (by simp [spec_Assemble.j2])
               | succ kj22 =>
                have H := HA.out
                clear HA
                simp only [spec_Assemble.j2] at H
                have H' := Aside0.mk H
                clear H
                go_wp2
                go_loopg [5, 13] kj22 (fun kq v5 v13 w' => ∃ (x4_4 : List Int) (x5_4 : Int) (x13_4 : Int), v5 = .int .i64 x5_4 ∧ v13 = .int .i64 x13_4 ∧ Aside0 (spec_Assemble.l1 kq a0 x4_4 x5_4 (wrap64 (x8_1 + 1)) (wrap64 (x7_1 + 1)) x8_1 t253 x13_4 = some (r1, r2)) ∧ Aside0 (kq ≤ kj22) ∧ Aside0 (Kd.R (Kd.int .i64) 3 w' w.heap.size (fun k_ => some k_ ≠ (v256 : Value).ownBlock) v251 x4_4) ∧ Aside0 (Kd.R (Kd.int .i64) 3 w' w.heap.size (fun k_ => some k_ ≠ (v251 : Value).ownBlock) v256 t253) ∧ Aside0 (Below w.heap.size w w'))
                case atStart => exact ⟨(x4_1), (x5_22), (0), (by first | rfl | (simp; done) | (simp [*]; done)), (by first | rfl | (simp; done) | (simp [*]; done)), H', ⟨Nat.le_refl _⟩, ⟨kr HO_4.out⟩, ⟨kr HO_10.out⟩, ⟨bw HB.out⟩⟩
                case round =>
                 clear H'
                 (try clear c1); (try clear p1); (try clear q1); (try clear hx1); (try clear c2); (try clear c2b0); (try clear c2b1); (try clear p2); (try clear c5); (try clear c5b0); (try clear c5b1); (try clear p6); (try clear c8); (try clear c8b0); (try clear c10); (try clear c10b0); (try clear c11); (try clear c11b0); (try clear p12); (try clear q12); (try clear hx12); (try clear c13); (try clear c13b0); (try clear c13b1); (try clear c14); (try clear c14b0); (try clear c14b1); (try clear c15); (try clear c15b0); (try clear c15b1); (try clear c16); (try clear c17); (try clear c17b0); (try clear c17b1); (try clear c18); (try clear c18b0); (try clear c18b1); (try clear c19); (try clear c19b0); (try clear c19b1); (try clear c20); (try clear c20b0); (try clear c20b1); (try clear c22); (try clear c25); (try clear c25b0); (try clear p1); (try clear p12); (try clear p2); (try clear p6); (try clear q1); (try clear q12)
                 obtain ⟨x4_4, x5_4, x13_4, rfl, rfl, HA, HK4, HO_4, HO_10, HB⟩ := hrel
                 cases gk with
                 | zero => exact absurd HA.out (by simp [spec_Assemble.l1])
                 | succ k4 =>
                  have H := HA.out
                  clear HA
                  simp only [spec_Assemble.l1] at H
                  by_cases c26 : x13_4 < (t253.length : Int)
                  ·rw [if_pos c26] at H
                   have c26b0 : decide (x13_4 < (t253.length : Int)) = true := decide_eq_true c26
                   clear c26
                   replace H := Option.bind_eq_some_iff.mp H
                   obtain ⟨t261, A270, H⟩ := H
                   replace H : (if 0 ≤ x13_4 then (if 0 ≤ t261 then (if t261 < (x4_4.length : Int) then (spec_Assemble.l1 k4 a0 (x4_4.set (t261 : Int).toNat (rd t253 x13_4)) (wrap64 (x5_4 + 1)) (wrap64 (x8_1 + 1)) (wrap64 (x7_1 + 1)) x8_1 t253 (wrap64 (x13_4 + 1))) else (none)) else (none)) else (none)) = some (r1, r2) := H
                   have A27 := Aside0.mk A270
                   clear A270
                   by_cases c28 : 0 ≤ x13_4
                   ·rw [if_pos c28] at H
                    have c28b0 : decide (0 ≤ x13_4) = true := decide_eq_true c28
                    clear c28
                    by_cases c29 : 0 ≤ t261
                    ·rw [if_pos c29] at H
                     have c29b0 : decide (0 ≤ t261) = true := decide_eq_true c29
                     clear c29
                     by_cases c30 : t261 < (x4_4.length : Int)
                     ·rw [if_pos c30] at H
                      have c30b0 : decide (t261 < (x4_4.length : Int)) = true := decide_eq_true c30
                      clear c30
                      obtain ⟨y263, hy263⟩ : ∃ y_ : List Int, y_ = (x4_4.set (t261 : Int).toNat (rd t253 x13_4)) := ⟨_, rfl⟩
                      replace H : (spec_Assemble.l1 k4 a0 y263 (wrap64 (x5_4 + 1)) (wrap64 (x8_1 + 1)) (wrap64 (x7_1 + 1)) x8_1 t253 (wrap64 (x13_4 + 1))) = some (r1, r2) := by first | (rw [hy263]; with_reducible exact H) | (have H2_ := (Option.bind_some _ _).symm.trans H; rw [hy263]; with_reducible exact H2_) | (have H2_ := (Option.bind_some _ _).symm.trans H; with_reducible exact H2_) | with_reducible exact H | (rw [hy263]; exact H) | exact H
                      have Ny263 := Aside0.mk hy263
                      clear hy263
                      have H' := Aside0.mk H
                      clear H
                      obtain ⟨Ao32, co32, eo32⟩ := Kd.R_slice HO_10.out
                      subst eo32
                      try go_wp2
                      have n0_ := Aside0.mk (Kd.R_drew HO_4.out)
                      have n1_ := Aside0.mk (Kd.R_drew HO_10.out)
                      have n2_ := Aside0.mk (below_drew1 HB.out)
                      clear HO_4; clear HO_10; clear HB; have HO_4 := n0_; have HO_10 := n1_; have HB := n2_; clear n0_ n1_ n2_
                      have p262 : 0 ≤ (x13_4 : Int) := dt
                      have q262 : x13_4 < (t253.length : Int) := dt
                      obtain ⟨ad262, e262, hx262_0⟩ := Kd.at_int (Kd.R_reads' HO_10.out).2.2 x13_4 p262 q262
                      cases e262
                      replace p262 := eq_true p262
                      replace q262 := eq_true q262
                      refine start_ (n := 9) (S := fun w' => w'.cell? (ad262.add (x13_4).toNat) = some (.int .i64 (rd t253 x13_4))) (ds := [8]) #[false, false, false, false, false, false, false, false, false] (by kernel_rfl) rfl rfl (hx262_0) (fun hHeld => ?_); refine with_tabW spec_Assemble.tab21 spec_Assemble.bits21 (fun HT_ HW_ => ?_)
                      generalize wr.drew = w33 at HO_4 HO_10 HB hx262_0 hHeld ⊢
                      refine pure_ (i := 0) (N := some 76) (v := ?_) (a' := ?_) #[true, false, false, false, false, false, false, false, false] rfl rfl (any_of HT_.out (by kernel_rfl)) (fun _ _ _ h => h) (Or.inl ⟨by rfl, ?_⟩) ?_ ?_
                      rotate_left
                      ·intro w'
                       go_simp
                       with_reducible rfl
                      rotate_left
                      ·simp only [Act.put, List.setIfInBounds_toArray, List.set_cons_zero, List.set_cons_succ, i64_w, i32_w]
                       rfl
                      refine pure_ (i := 1) (N := some 77) (v := ?_) (a' := ?_) #[true, true, false, false, false, false, false, false, false] rfl rfl (any_of HT_.out (by kernel_rfl)) (fun _ _ _ h => h) (Or.inl ⟨by rfl, ?_⟩) ?_ ?_
                      rotate_left
                      ·intro w'
                       go_simp
                       with_reducible rfl
                      rotate_left
                      ·simp only [Act.put, List.setIfInBounds_toArray, List.set_cons_zero, List.set_cons_succ, i64_w, i32_w]
                       rfl
                      refine pure_ (i := 3) (N := some 79) (v := ?_) (a' := ?_) #[true, true, false, true, false, false, false, false, false] rfl rfl (any_of HT_.out (by kernel_rfl)) (fun _ _ _ h => h) (Or.inl ⟨by rfl, ?_⟩) ?_ ?_
                      rotate_left
                      ·intro w'
                       go_simp
                       with_reducible rfl
                      rotate_left
                      ·simp only [Act.put, List.setIfInBounds_toArray, List.set_cons_zero, List.set_cons_succ, i64_w, i32_w]
                       rfl
                      refine pure_ (i := 4) (N := some 80) (v := ?_) (a' := ?_) #[true, true, false, true, true, false, false, false, false] rfl rfl (any_of HT_.out (by kernel_rfl)) (fun _ _ _ h => h) (Or.inl ⟨by rfl, ?_⟩) ?_ ?_
                      rotate_left
                      ·intro w'
                       go_simp
                       with_reducible rfl
                      rotate_left
                      ·simp only [Act.put, List.setIfInBounds_toArray, List.set_cons_zero, List.set_cons_succ, i64_w, i32_w]
                       rfl
                      refine pure_ (i := 5) (N := some 81) (v := ?_) (a' := ?_) #[true, true, false, true, true, true, false, false, false] rfl rfl (any_of HT_.out (by kernel_rfl)) (fun _ _ _ h => h) (Or.inl ⟨by rfl, ?_⟩) ?_ ?_
                      rotate_left
                      ·intro w'
                       go_simp
                       with_reducible rfl
                      rotate_left
                      ·simp only [Act.put, List.setIfInBounds_toArray, List.set_cons_zero, List.set_cons_succ, i64_w, i32_w]
                       rfl
                      refine take_ (i := 6) (N := some 82) (v := ?_) (a' := ?_) #[true, true, false, true, true, true, true, false, false] rfl rfl (take_ofW HT_.out HW_.out (by kernel_rfl)) (fun _ _ _ h => h) (Or.inl ⟨by rfl, ?_⟩) hHeld ?_ ?_
                      rotate_left
                      ·intro w' s0
                       go_simp
                       with_reducible rfl
                      rotate_left
                      ·simp only [Act.put, List.setIfInBounds_toArray, List.set_cons_zero, List.set_cons_succ, i64_w, i32_w]
                       rfl
                      refine one_ (i := 2) (N := some 78) #[true, true, true, true, true, true, true, false, false] rfl rfl (one_of HT_.out (by kernel_rfl)) (by decide) (fun K hK => ?_)
                      refine goes_ Try.func71 (by kernel_rfl) rfl #[.int .i64 x5_4] (by rfl) rfl rfl (by (try simp only [List.map_toArray, List.map_cons, List.map_nil]); first | done | rfl | (simp only [List.length_drop, List.length_take]; rfl)) ?_
                      with_reducible refine (spec_Byte.calls x5_4 t261 _ A27.out).mono ?_
                      rintro e w' ⟨rfl, ⟨nd, rfl⟩⟩
                      refine ⟨_, rfl, ?_⟩
                      have p31 : 0 ≤ (t261 : Int) := dt
                      have q31 : (t261 : Int) < ((x4_4.length : Int) : Int) := dt
                      obtain ⟨go31, co31, eo31, gb31, gl31, cl31, HG31⟩ := Kd.R_form HO_4.out (by omega)
                      (first | cases eo31 | (injection eo31 with ea_ en_ ec_; (first | subst ea_ | (injection ea_ with ea_; subst ea_)); subst ec_; clear en_))
                      have GB31 := Aside0.mk gb31
                      have GG31 := Aside0.mk HG31
                      clear gb31 gl31 HG31
                      obtain ⟨hx31_0, hf31_0⟩ := Kd.R_celln 0 HO_4.out (t261 : Int) p31 q31
                      replace p31 := eq_true p31
                      replace q31 := eq_true q31
                      have HP34 := Kd.R_putn HO_4.out (t261 : Int) (rd t253 x13_4)
                      rw [← Ny263.out] at HP34
                      have HQ34 := Aside0.mk HP34
                      clear HP34
                      refine hK.out _ _ (hHeld) (fun hHeld => ?_)
                      clear hK K
                      refine norm_ (a' := ?_) ?_ ?_
                      rotate_left
                      ·show Act.put _ (some 78) _ = _
                       simp only [Act.put, List.setIfInBounds_toArray, List.set_cons_zero, List.set_cons_succ, i64_w, i32_w]
                       rfl
                      refine pure_ (i := 7) (N := some 83) (v := ?_) (a' := ?_) #[true, true, true, true, true, true, true, true, false] rfl rfl (any_of HT_.out (by kernel_rfl)) (fun _ _ _ h => h) (Or.inl ⟨by rfl, ?_⟩) ?_ ?_
                      rotate_left
                      ·intro w'
                       go_simp
                       with_reducible rfl
                      rotate_left
                      ·simp only [Act.put, List.setIfInBounds_toArray, List.set_cons_zero, List.set_cons_succ, i64_w, i32_w]
                       rfl
                      refine last_ (i := 8) (N := none) #[true, true, true, true, true, true, true, true, true] rfl rfl (one_of HT_.out (by kernel_rfl)) (by decide) (fun K hK => ?_)
                      refine skip_ (w1 := ?_) (by rfl) rfl ?_ ?_
                      rotate_left
                      ·go_simp
                       rfl
                      refine hK.out _ _ ?_
                      clear hK K
                      refine done_ (done_of HT_.out (by kernel_rfl)) ?_
                      try go_wp2
                      go_roundg k4
                      case measure => have := HK1.out; have := HJ8.out; have := HJ22.out; have := HK4.out; omega
                      case rel => exact ⟨(y263), (wrap64 (x5_4 + 1)), (wrap64 (x13_4 + 1)), (by first | rfl | (simp; done) | (simp [*]; done)), (by first | rfl | (simp; done) | (simp [*]; done)), H', ⟨by have := HK1.out; have := HJ8.out; have := HJ22.out; have := HK4.out; omega⟩, ⟨kr HQ34.out⟩, ⟨by (with_reducible repeat (first | apply Kd.R_alloc | apply Kd.R_drewN | apply Kd.R_drew)); exact Kd.R_mono (Kd.R_far (p := ⟨go31, (t261 : Int).toNat, none⟩) (Kd.R_mono HO_10.out (fun k_ hk => (⟨hk, fun e_ => hk (by rw [e_]; rfl)⟩ : _ ∧ k_ ≠ go31))) (fun _ hk => hk.2) (.int .i64 (rd t253 x13_4))) (fun _ hk => hk.1)⟩, ⟨by repeat (first | (with_reducible first | exact HB.out | apply below_alloc | apply pw_below_drewN | apply below_drew1 | refine below_set ?_ GB31.out) | exact HB.out)⟩⟩
                     ·rw [if_neg c30] at H
                      exact absurd H (by simp)
                    ·rw [if_neg c29] at H
                     exact absurd H (by simp)
                   ·rw [if_neg c28] at H
                    exact absurd H (by simp)
                  ·rw [if_neg c26] at H
                   have c26b0 : decide (x13_4 < (t253.length : Int)) = false := decide_eq_false c26
                   clear c26
                   have H' := Aside0.mk H
                   clear H
                   obtain ⟨Ao35, co35, eo35⟩ := Kd.R_slice HO_10.out
                   subst eo35
                   go_wp2
                   go_roundg k4
                   case measure => have := HK1.out; have := HJ8.out; have := HJ22.out; have := HK4.out; omega
                   case rel => exact ⟨(x4_4), (x5_4), ((wrap64 (x8_1 + 1))), ((wrap64 (x7_1 + 1))), (wrap64 (x8_1 + 1)), (by first | rfl | (simp; done) | (simp [*]; done)), (by first | rfl | (simp; done) | (simp [*]; done)), (by first | rfl | (simp; done) | (simp [*]; done)), (by first | rfl | (simp; done) | (simp [*]; done)), H', ⟨by have := HK1.out; have := HJ8.out; have := HJ22.out; have := HK4.out; omega⟩, ⟨kr (Kd.R_mono HO_4.out (fun _ hk => trivial))⟩, ⟨bw HB.out⟩⟩
             ·replace c22 := Bool.eq_false_iff.mpr c22
              subst c22
              have H1 : (some ((([] : List Int)), wrap64 (x7_1 + 1))) = some (r1, r2) := by rw [if_neg (show ¬ (false = true) by decide)] at H; exact H
              clear H
              have H := H1
              clear H1
              obtain ⟨y258, hy258⟩ : ∃ y_ : List Int, y_ = (([] : List Int)) := ⟨_, rfl⟩
              replace H : (some (y258, wrap64 (x7_1 + 1))) = some (r1, r2) := by first | (rw [hy258]; with_reducible exact H) | (have H2_ := (Option.bind_some _ _).symm.trans H; rw [hy258]; with_reducible exact H2_) | (have H2_ := (Option.bind_some _ _).symm.trans H; with_reducible exact H2_) | with_reducible exact H | (rw [hy258]; exact H) | exact H
              have Ny258 := Aside0.mk hy258
              clear hy258
              simp only [Option.some.injEq, Prod.mk.injEq] at H
              obtain ⟨rfl, rfl⟩ := H
              go_wp2_with (first | ((with_reducible refine gate_callee (f := 118) rfl ?_); refine goesM_ (some 59) rfl rfl Try.func118 #[.string (a0.extract (x6_1 : Int).toNat (x8_1 : Int).toNat)] ?_; (with_reducible refine (spec_l4Bytes.calls kj8 (a0.extract (x6_1 : Int).toNat (x8_1 : Int).toNat) t253 t254 false _ A21.out).mono ?_); rintro e w36 ⟨v256, rfl, ho0, hb⟩; refine ⟨_, rfl, ?_⟩; have n0_ := Aside0.mk (Kd.R_elder' (kr HO_4.out) (Kd.R_base ho0) hb); have n1_ := Aside0.mk (Kd.R_lower (Kd.R_new' ho0 (Kd.R_lt (kr HO_4.out))) (below_size (bw HB.out))); have n2_ := Aside0.mk (below_step (bw HB.out) hb); clear HO_4; clear HB; have HO_4 := n0_; have HO257 := n1_; have HB := n2_; clear n0_ n1_ n2_; (try clear hb); (try clear hb2); (try clear hk); (try clear hi); (try clear ho0)) | ((with_reducible refine gate_dst (N := 65) rfl ?_); (try (refine gate_guard (by rfl) ?_; dsimp only)); refine Kd.R_lit (Kd.int .i64) _ 3 ?hg (N := 65) ?hd (xs := ([] : List Int)) (inner := []) (ok := fun _ => True) (okp := fun _ => True) ?hr ?hp (fun _ hk => hk) trivial (Below.refl _ _) (Nat.le_refl _) (by simp) ?_; (case hd => rfl); (case hg => rfl); (case hr => first | (go_simp; done) | (go_simp; rfl)); (case hp => exact (Reps.none _ _)); intro v259 w37 ho38 hb hg_ hnew_; clear hg_ hnew_; (first | rw [← Ny258.out] at ho38 | (simp only [Int.reduceToNat] at ho38; rw [← Ny258.out] at ho38)); have n0_ := Aside0.mk (Kd.R_elder' (kr HO_4.out) (Kd.R_base ho38) hb); have n1_ := Aside0.mk (Kd.R_elder' (kr HO257.out) (Kd.R_base ho38) hb); have n2_ := Aside0.mk (Kd.R_lower (Kd.R_new' (Kd.R_new' ho38 (Kd.R_lt (kr HO_4.out))) (Kd.R_lt (kr HO257.out))) (below_size (bw HB.out))); have n3_ := Aside0.mk (below_step (bw HB.out) hb); clear HO_4; clear HO257; clear HB; have HO_4 := n0_; have HO257 := n1_; have HO260 := n2_; have HB := n3_; clear n0_ n1_ n2_ n3_; clear hb ho38))
              go_ret2
              exact ⟨_, rt, kr (Kd.R_mono HO260.out (fun _ hk => trivial)), bw HB.out⟩
           ·rw [if_neg c19] at H
            exact absurd H (by simp)
          ·rw [if_neg c18] at H
           exact absurd H (by simp)
         ·rw [if_neg c17] at H
          exact absurd H (by simp)
     ·rw [if_neg c8] at H
      have c8b0 : decide (x8_1 ≤ (a0.size : Int)) = false := decide_eq_false c8
      clear c8
      simp only [Option.some.injEq, Prod.mk.injEq] at H
      obtain ⟨rfl, rfl⟩ := H
      go_wp2
      go_ret2
      exact ⟨_, rt, kr HO_4.out, bw HB.out⟩
  ·rw [if_neg c5] at H
   exact absurd H (by simp)

/-! ### spec_l1Pick: function 119 -/
def spec_l1Pick.f (s0_0 : List Int) (s0_1 : Int) (s0_2 : Int) (l1 : List ByteArray) : Option (ByteArray × Int × Int) := (spec_l1Below.f s0_0 s0_1 s0_2 (l1.length : Int)).bind fun bt264 => (if 0 ≤ bt264.1 then (if bt264.1 < (l1.length : Int) then (some (rdOf ByteArray.empty l1 bt264.1, bt264.2.1, bt264.2.2)) else (none)) else (none))
set_option maxHeartbeats 8000000 in
set_option maxRecDepth 100000 in
theorem spec_l1Pick.calls (g : Nat) (s0_0 : List Int) (s0_1 : Int) (s0_2 : Int) (A1 : Option Addr) (c1 : Nat) (l1 : List ByteArray) (r1 : ByteArray) (r2 : Int) (r3 : Int) (w0 w : World) (hI : IsS107 w0 w g s0_0 s0_1 s0_2) (hB : Below w0.heap.size w0 w) (hr1 : Kd.C Kd.string w A1 l1.length l1) (hc1 : l1.length ≤ c1) (hf1 : ∀ ad, A1 = some ad → 0 < l1.length → ad.block ≠ g) (h : spec_l1Pick.f s0_0 s0_1 s0_2 l1 = some (r1, r2, r3)) :
  Calls Try.prog 119 #[.pointer (some ⟨g, 0, none⟩), .slice A1 l1.length c1] w fun e w' => e = .returned (.string r1) ∧ IsS107 w0 w' g s0_0 r2 r3 ∧ Below w0.heap.size w0 w' ∧ KeepBut w w' g none := by
 have HR1 := Aside0.mk hr1
 have HC1 := Aside0.mk hc1
 clear hr1 hc1
 have HI0 := Aside0.mk hI
 have HK := Aside0.mk (KeepBut.refl w g none)
 have HL := Aside0.mk hB.size
 clear hI
 have HW0 := Aside0.mk hB.size
 have HB := Aside0.mk hB
 clear hB
 have H : ((spec_l1Below.f s0_0 s0_1 s0_2 (l1.length : Int)).bind fun bt264 => (if 0 ≤ bt264.1 then (if bt264.1 < (l1.length : Int) then (some (rdOf ByteArray.empty l1 bt264.1, bt264.2.1, bt264.2.2)) else (none)) else (none))) = some (r1, r2, r3) := h
 clear h
 replace H := Option.bind_eq_some_iff.mp H
 obtain ⟨⟨t264, t265, t266⟩, A30, H⟩ := H
 replace H : (if 0 ≤ t264 then (if t264 < (l1.length : Int) then (some (rdOf ByteArray.empty l1 t264, t265, t266)) else (none)) else (none)) = some (r1, r2, r3) := H
 have A3 := Aside0.mk A30
 clear A30
 by_cases c4 : 0 ≤ t264
 ·rw [if_pos c4] at H
  have c4b0 : decide (0 ≤ t264) = true := decide_eq_true c4
  clear c4
  by_cases c5 : t264 < (l1.length : Int)
  ·rw [if_pos c5] at H
   have c5b0 : decide (t264 < (l1.length : Int)) = true := decide_eq_true c5
   clear c5
   simp only [Option.some.injEq, Prod.mk.injEq] at H
   obtain ⟨rfl, rfl, rfl⟩ := H
   go_enter Try.func119, Try.ntmps119
   go_wp2_with (first | ((with_reducible refine gate_callee (f := 60) rfl ?_); refine goesM_ (some 9) rfl rfl Try.func60 #[.pointer (some ⟨g, 0, none⟩), .int .i64 (l1.length : Int)] ?_; (with_reducible refine (spec_l1Below.calls g s0_0 s0_1 s0_2 (l1.length : Int) t264 t265 t266 w0 _ ?side1 ?side2 A3.out).mono ?_); (case side1 => exact si HI0.out); (case side2 => exact bi HB.out); rintro e w6 ⟨rfl, hi, hb, hk⟩; refine ⟨_, rfl, ?_⟩; have n0_ := Aside0.mk (KeepBut.trans (kp HK.out) hk (.inl rfl)); have n1_ := Aside0.mk (hb); have n2_ := Aside0.mk (hi); clear HK; clear HB; clear HI0; have HK := n0_; have HB := n1_; have HI0 := n2_; clear n0_ n1_ n2_; (try clear hb); (try clear hb2); (try clear hk); (try clear hi); have p267 : 0 ≤ (t264 : Int) := dt; have q267 : t264 < (l1.length : Int) := dt; obtain ⟨ad267, e267, hx267_0⟩ := Kd.at_string HR1.out t264 p267 q267; cases e267; replace hx267_0 := keep_cell HK.out hx267_0 (by first | (rw [add_block]; exact hf1 _ rfl (by omega)) | exact hf1 _ rfl (by omega) | exact hf1 ad267 rfl (by omega)); replace p267 := eq_true p267; replace q267 := eq_true q267))
   go_ret
   exact ⟨rt, si HI0.out, bi HB.out, kp HK.out⟩
  ·rw [if_neg c5] at H
   exact absurd H (by simp)
 ·rw [if_neg c4] at H
  exact absurd H (by simp)

/-! ### spec_l2Main: function 107 -/
def spec_l2Main.f (s0_0 : List Int) (s0_1 : Int) (s0_2 : Int) : Option (ByteArray × Int × Int) := (spec_l1Pick.f s0_0 s0_1 s0_2 (([(⟨#[108, 100, 105, 32, 53, 10, 115, 116, 97, 32, 56, 49, 57, 51, 10, 108, 100, 105, 32, 49, 50, 56, 10, 115, 116, 97, 32, 56, 49, 57, 50, 10, 108, 100, 97, 32, 56, 49, 57, 52, 10, 115, 116, 97, 32, 49, 54, 10, 106, 109, 112, 32, 52, 57, 49, 54, 50, 10]⟩ : ByteArray), (⟨#[108, 100, 105, 32, 51, 10, 115, 116, 97, 32, 49, 54, 51, 56, 52, 10, 108, 100, 105, 32, 50, 10, 115, 116, 97, 32, 49, 54, 51, 56, 53, 10, 108, 100, 105, 32, 49, 10, 115, 116, 97, 32, 49, 54, 51, 56, 54, 10, 99, 108, 105, 10, 108, 100, 97, 32, 49, 54, 51, 56, 54, 10, 106, 109, 112, 32, 52, 57, 49, 54, 56, 10]⟩ : ByteArray), (⟨#[108, 100, 105, 32, 50, 10, 115, 116, 97, 32, 56, 49, 57, 53, 10, 105, 110, 120, 10, 116, 120, 97, 10, 115, 116, 97, 32, 56, 49, 57, 54, 10, 115, 116, 97, 32, 56, 49, 57, 55, 10, 108, 100, 97, 32, 56, 49, 57, 54, 10, 115, 116, 97, 32, 48, 10, 106, 109, 112, 32, 52, 57, 49, 53, 55, 10]⟩ : ByteArray), (⟨#[108, 100, 105, 32, 49, 10, 115, 116, 97, 32, 49, 54, 52, 48, 54, 10, 108, 100, 105, 32, 48, 10, 115, 116, 97, 32, 49, 54, 52, 48, 54, 10, 108, 100, 97, 32, 49, 54, 52, 48, 54, 10, 112, 104, 97, 10, 108, 100, 97, 32, 49, 54, 52, 48, 54, 10, 112, 108, 97, 10, 106, 109, 112, 32, 52, 57, 49, 54, 50, 10]⟩ : ByteArray), (⟨#[105, 110, 120, 10, 116, 120, 97, 10, 115, 116, 97, 32, 51, 50, 55, 54, 56, 10, 108, 100, 97, 32, 51, 50, 55, 55, 48, 10, 115, 116, 97, 32, 56, 49, 57, 51, 10, 106, 109, 112, 32, 52, 57, 49, 53, 50, 10]⟩ : ByteArray), (⟨#[108, 100, 105, 32, 49, 50, 56, 10, 115, 116, 97, 32, 56, 49, 57, 50, 10, 108, 100, 105, 32, 55, 10, 115, 116, 97, 32, 49, 54, 51, 56, 53, 10, 108, 100, 105, 32, 49, 10, 115, 116, 97, 32, 49, 54, 51, 56, 54, 10, 99, 108, 105, 10, 106, 115, 114, 32, 52, 57, 51, 48, 48, 10, 106, 109, 112, 32, 52, 57, 49, 54, 56, 10]⟩ : ByteArray), (⟨#[108, 100, 105, 32, 57, 10, 115, 101, 99, 10, 115, 98, 105, 32, 49, 10, 98, 110, 101, 32, 52, 57, 49, 53, 52, 10, 115, 116, 97, 32, 56, 49, 57, 51, 10, 106, 109, 112, 32, 52, 57, 49, 53, 50, 10]⟩ : ByteArray)] : List ByteArray))).bind fun bt271 => (if bt271.1.size + 125 ≤ 9223372036854775807 then (some (bt271.1 ++ (⟨#[97, 116, 32, 49, 52, 56, 10, 105, 110, 120, 10, 116, 120, 97, 10, 115, 116, 97, 32, 56, 49, 57, 55, 10, 114, 116, 115, 10, 97, 116, 32, 49, 50, 56, 10, 112, 104, 97, 10, 108, 100, 97, 32, 56, 49, 57, 52, 10, 97, 100, 105, 32, 49, 10, 115, 116, 97, 32, 56, 49, 57, 51, 10, 112, 108, 97, 10, 114, 116, 105, 10, 97, 116, 32, 49, 54, 48, 10, 115, 116, 97, 32, 49, 54, 51, 56, 55, 10, 108, 100, 97, 32, 49, 54, 51, 56, 54, 10, 115, 116, 97, 32, 49, 55, 10, 108, 100, 105, 32, 50, 10, 115, 116, 97, 32, 49, 54, 51, 56, 53, 10, 114, 116, 105, 10]⟩ : ByteArray), bt271.2.1, bt271.2.2)) else (none))
set_option maxHeartbeats 8000000 in
set_option maxRecDepth 100000 in
theorem spec_l2Main.calls (g : Nat) (s0_0 : List Int) (s0_1 : Int) (s0_2 : Int) (r1 : ByteArray) (r2 : Int) (r3 : Int) (w0 w : World) (hI : IsS107 w0 w g s0_0 s0_1 s0_2) (hB : Below w0.heap.size w0 w) (h : spec_l2Main.f s0_0 s0_1 s0_2 = some (r1, r2, r3)) :
  Calls Try.prog 107 #[.pointer (some ⟨g, 0, none⟩)] w fun e w' => e = .returned (.string r1) ∧ IsS107 w0 w' g s0_0 r2 r3 ∧ Below w0.heap.size w0 w' ∧ KeepBut w w' g none := by
 have HI0 := Aside0.mk hI
 have HK := Aside0.mk (KeepBut.refl w g none)
 have HL := Aside0.mk hB.size
 clear hI
 have HW0 := Aside0.mk hB.size
 have HB := Aside0.mk hB
 clear hB
 have H : ((spec_l1Pick.f s0_0 s0_1 s0_2 (([(⟨#[108, 100, 105, 32, 53, 10, 115, 116, 97, 32, 56, 49, 57, 51, 10, 108, 100, 105, 32, 49, 50, 56, 10, 115, 116, 97, 32, 56, 49, 57, 50, 10, 108, 100, 97, 32, 56, 49, 57, 52, 10, 115, 116, 97, 32, 49, 54, 10, 106, 109, 112, 32, 52, 57, 49, 54, 50, 10]⟩ : ByteArray), (⟨#[108, 100, 105, 32, 51, 10, 115, 116, 97, 32, 49, 54, 51, 56, 52, 10, 108, 100, 105, 32, 50, 10, 115, 116, 97, 32, 49, 54, 51, 56, 53, 10, 108, 100, 105, 32, 49, 10, 115, 116, 97, 32, 49, 54, 51, 56, 54, 10, 99, 108, 105, 10, 108, 100, 97, 32, 49, 54, 51, 56, 54, 10, 106, 109, 112, 32, 52, 57, 49, 54, 56, 10]⟩ : ByteArray), (⟨#[108, 100, 105, 32, 50, 10, 115, 116, 97, 32, 56, 49, 57, 53, 10, 105, 110, 120, 10, 116, 120, 97, 10, 115, 116, 97, 32, 56, 49, 57, 54, 10, 115, 116, 97, 32, 56, 49, 57, 55, 10, 108, 100, 97, 32, 56, 49, 57, 54, 10, 115, 116, 97, 32, 48, 10, 106, 109, 112, 32, 52, 57, 49, 53, 55, 10]⟩ : ByteArray), (⟨#[108, 100, 105, 32, 49, 10, 115, 116, 97, 32, 49, 54, 52, 48, 54, 10, 108, 100, 105, 32, 48, 10, 115, 116, 97, 32, 49, 54, 52, 48, 54, 10, 108, 100, 97, 32, 49, 54, 52, 48, 54, 10, 112, 104, 97, 10, 108, 100, 97, 32, 49, 54, 52, 48, 54, 10, 112, 108, 97, 10, 106, 109, 112, 32, 52, 57, 49, 54, 50, 10]⟩ : ByteArray), (⟨#[105, 110, 120, 10, 116, 120, 97, 10, 115, 116, 97, 32, 51, 50, 55, 54, 56, 10, 108, 100, 97, 32, 51, 50, 55, 55, 48, 10, 115, 116, 97, 32, 56, 49, 57, 51, 10, 106, 109, 112, 32, 52, 57, 49, 53, 50, 10]⟩ : ByteArray), (⟨#[108, 100, 105, 32, 49, 50, 56, 10, 115, 116, 97, 32, 56, 49, 57, 50, 10, 108, 100, 105, 32, 55, 10, 115, 116, 97, 32, 49, 54, 51, 56, 53, 10, 108, 100, 105, 32, 49, 10, 115, 116, 97, 32, 49, 54, 51, 56, 54, 10, 99, 108, 105, 10, 106, 115, 114, 32, 52, 57, 51, 48, 48, 10, 106, 109, 112, 32, 52, 57, 49, 54, 56, 10]⟩ : ByteArray), (⟨#[108, 100, 105, 32, 57, 10, 115, 101, 99, 10, 115, 98, 105, 32, 49, 10, 98, 110, 101, 32, 52, 57, 49, 53, 52, 10, 115, 116, 97, 32, 56, 49, 57, 51, 10, 106, 109, 112, 32, 52, 57, 49, 53, 50, 10]⟩ : ByteArray)] : List ByteArray))).bind fun bt271 => (if bt271.1.size + 125 ≤ 9223372036854775807 then (some (bt271.1 ++ (⟨#[97, 116, 32, 49, 52, 56, 10, 105, 110, 120, 10, 116, 120, 97, 10, 115, 116, 97, 32, 56, 49, 57, 55, 10, 114, 116, 115, 10, 97, 116, 32, 49, 50, 56, 10, 112, 104, 97, 10, 108, 100, 97, 32, 56, 49, 57, 52, 10, 97, 100, 105, 32, 49, 10, 115, 116, 97, 32, 56, 49, 57, 51, 10, 112, 108, 97, 10, 114, 116, 105, 10, 97, 116, 32, 49, 54, 48, 10, 115, 116, 97, 32, 49, 54, 51, 56, 55, 10, 108, 100, 97, 32, 49, 54, 51, 56, 54, 10, 115, 116, 97, 32, 49, 55, 10, 108, 100, 105, 32, 50, 10, 115, 116, 97, 32, 49, 54, 51, 56, 53, 10, 114, 116, 105, 10]⟩ : ByteArray), bt271.2.1, bt271.2.2)) else (none))) = some (r1, r2, r3) := h
 clear h
 obtain ⟨y268, hy268⟩ : ∃ y_ : List ByteArray, y_ = (([(⟨#[108, 100, 105, 32, 53, 10, 115, 116, 97, 32, 56, 49, 57, 51, 10, 108, 100, 105, 32, 49, 50, 56, 10, 115, 116, 97, 32, 56, 49, 57, 50, 10, 108, 100, 97, 32, 56, 49, 57, 52, 10, 115, 116, 97, 32, 49, 54, 10, 106, 109, 112, 32, 52, 57, 49, 54, 50, 10]⟩ : ByteArray), (⟨#[108, 100, 105, 32, 51, 10, 115, 116, 97, 32, 49, 54, 51, 56, 52, 10, 108, 100, 105, 32, 50, 10, 115, 116, 97, 32, 49, 54, 51, 56, 53, 10, 108, 100, 105, 32, 49, 10, 115, 116, 97, 32, 49, 54, 51, 56, 54, 10, 99, 108, 105, 10, 108, 100, 97, 32, 49, 54, 51, 56, 54, 10, 106, 109, 112, 32, 52, 57, 49, 54, 56, 10]⟩ : ByteArray), (⟨#[108, 100, 105, 32, 50, 10, 115, 116, 97, 32, 56, 49, 57, 53, 10, 105, 110, 120, 10, 116, 120, 97, 10, 115, 116, 97, 32, 56, 49, 57, 54, 10, 115, 116, 97, 32, 56, 49, 57, 55, 10, 108, 100, 97, 32, 56, 49, 57, 54, 10, 115, 116, 97, 32, 48, 10, 106, 109, 112, 32, 52, 57, 49, 53, 55, 10]⟩ : ByteArray), (⟨#[108, 100, 105, 32, 49, 10, 115, 116, 97, 32, 49, 54, 52, 48, 54, 10, 108, 100, 105, 32, 48, 10, 115, 116, 97, 32, 49, 54, 52, 48, 54, 10, 108, 100, 97, 32, 49, 54, 52, 48, 54, 10, 112, 104, 97, 10, 108, 100, 97, 32, 49, 54, 52, 48, 54, 10, 112, 108, 97, 10, 106, 109, 112, 32, 52, 57, 49, 54, 50, 10]⟩ : ByteArray), (⟨#[105, 110, 120, 10, 116, 120, 97, 10, 115, 116, 97, 32, 51, 50, 55, 54, 56, 10, 108, 100, 97, 32, 51, 50, 55, 55, 48, 10, 115, 116, 97, 32, 56, 49, 57, 51, 10, 106, 109, 112, 32, 52, 57, 49, 53, 50, 10]⟩ : ByteArray), (⟨#[108, 100, 105, 32, 49, 50, 56, 10, 115, 116, 97, 32, 56, 49, 57, 50, 10, 108, 100, 105, 32, 55, 10, 115, 116, 97, 32, 49, 54, 51, 56, 53, 10, 108, 100, 105, 32, 49, 10, 115, 116, 97, 32, 49, 54, 51, 56, 54, 10, 99, 108, 105, 10, 106, 115, 114, 32, 52, 57, 51, 48, 48, 10, 106, 109, 112, 32, 52, 57, 49, 54, 56, 10]⟩ : ByteArray), (⟨#[108, 100, 105, 32, 57, 10, 115, 101, 99, 10, 115, 98, 105, 32, 49, 10, 98, 110, 101, 32, 52, 57, 49, 53, 52, 10, 115, 116, 97, 32, 56, 49, 57, 51, 10, 106, 109, 112, 32, 52, 57, 49, 53, 50, 10]⟩ : ByteArray)] : List ByteArray)) := ⟨_, rfl⟩
 replace H : ((spec_l1Pick.f s0_0 s0_1 s0_2 y268).bind fun bt271 => (if bt271.1.size + 125 ≤ 9223372036854775807 then (some (bt271.1 ++ (⟨#[97, 116, 32, 49, 52, 56, 10, 105, 110, 120, 10, 116, 120, 97, 10, 115, 116, 97, 32, 56, 49, 57, 55, 10, 114, 116, 115, 10, 97, 116, 32, 49, 50, 56, 10, 112, 104, 97, 10, 108, 100, 97, 32, 56, 49, 57, 52, 10, 97, 100, 105, 32, 49, 10, 115, 116, 97, 32, 56, 49, 57, 51, 10, 112, 108, 97, 10, 114, 116, 105, 10, 97, 116, 32, 49, 54, 48, 10, 115, 116, 97, 32, 49, 54, 51, 56, 55, 10, 108, 100, 97, 32, 49, 54, 51, 56, 54, 10, 115, 116, 97, 32, 49, 55, 10, 108, 100, 105, 32, 50, 10, 115, 116, 97, 32, 49, 54, 51, 56, 53, 10, 114, 116, 105, 10]⟩ : ByteArray), bt271.2.1, bt271.2.2)) else (none))) = some (r1, r2, r3) := by first | (rw [hy268]; with_reducible exact H) | (have H2_ := (Option.bind_some _ _).symm.trans H; rw [hy268]; with_reducible exact H2_) | (have H2_ := (Option.bind_some _ _).symm.trans H; with_reducible exact H2_) | with_reducible exact H | (rw [hy268]; exact H) | exact H
 have Ny268 := Aside0.mk hy268
 clear hy268
 replace H := Option.bind_eq_some_iff.mp H
 obtain ⟨⟨t271, t272, t273⟩, A20, H⟩ := H
 replace H : (if t271.size + 125 ≤ 9223372036854775807 then (some (t271 ++ (⟨#[97, 116, 32, 49, 52, 56, 10, 105, 110, 120, 10, 116, 120, 97, 10, 115, 116, 97, 32, 56, 49, 57, 55, 10, 114, 116, 115, 10, 97, 116, 32, 49, 50, 56, 10, 112, 104, 97, 10, 108, 100, 97, 32, 56, 49, 57, 52, 10, 97, 100, 105, 32, 49, 10, 115, 116, 97, 32, 56, 49, 57, 51, 10, 112, 108, 97, 10, 114, 116, 105, 10, 97, 116, 32, 49, 54, 48, 10, 115, 116, 97, 32, 49, 54, 51, 56, 55, 10, 108, 100, 97, 32, 49, 54, 51, 56, 54, 10, 115, 116, 97, 32, 49, 55, 10, 108, 100, 105, 32, 50, 10, 115, 116, 97, 32, 49, 54, 51, 56, 53, 10, 114, 116, 105, 10]⟩ : ByteArray), t272, t273)) else (none)) = some (r1, r2, r3) := H
 have A2 := Aside0.mk A20
 clear A20
 by_cases c3 : t271.size + 125 ≤ 9223372036854775807
 ·rw [if_pos c3] at H
  have c3b0 := eq_true c3
  have c3b1 : decide (t271.size + 125 ≤ 9223372036854775807) = true := decide_eq_true c3
  try have c3b2 : (9223372036854775807 < t271.size + 125) = False := eq_false (Nat.not_lt.2 c3)
  simp only [Option.some.injEq, Prod.mk.injEq] at H
  obtain ⟨rfl, rfl, rfl⟩ := H
  go_enter Try.func107, Try.ntmps107
  go_wp2_with (first | ((with_reducible refine gate_dst (N := 5) rfl ?_); refine Kd.R_lit Kd.string _ 9 ?hg (N := 5) ?hd (xs := ([(⟨#[108, 100, 105, 32, 53, 10, 115, 116, 97, 32, 56, 49, 57, 51, 10, 108, 100, 105, 32, 49, 50, 56, 10, 115, 116, 97, 32, 56, 49, 57, 50, 10, 108, 100, 97, 32, 56, 49, 57, 52, 10, 115, 116, 97, 32, 49, 54, 10, 106, 109, 112, 32, 52, 57, 49, 54, 50, 10]⟩ : ByteArray), (⟨#[108, 100, 105, 32, 51, 10, 115, 116, 97, 32, 49, 54, 51, 56, 52, 10, 108, 100, 105, 32, 50, 10, 115, 116, 97, 32, 49, 54, 51, 56, 53, 10, 108, 100, 105, 32, 49, 10, 115, 116, 97, 32, 49, 54, 51, 56, 54, 10, 99, 108, 105, 10, 108, 100, 97, 32, 49, 54, 51, 56, 54, 10, 106, 109, 112, 32, 52, 57, 49, 54, 56, 10]⟩ : ByteArray), (⟨#[108, 100, 105, 32, 50, 10, 115, 116, 97, 32, 56, 49, 57, 53, 10, 105, 110, 120, 10, 116, 120, 97, 10, 115, 116, 97, 32, 56, 49, 57, 54, 10, 115, 116, 97, 32, 56, 49, 57, 55, 10, 108, 100, 97, 32, 56, 49, 57, 54, 10, 115, 116, 97, 32, 48, 10, 106, 109, 112, 32, 52, 57, 49, 53, 55, 10]⟩ : ByteArray), (⟨#[108, 100, 105, 32, 49, 10, 115, 116, 97, 32, 49, 54, 52, 48, 54, 10, 108, 100, 105, 32, 48, 10, 115, 116, 97, 32, 49, 54, 52, 48, 54, 10, 108, 100, 97, 32, 49, 54, 52, 48, 54, 10, 112, 104, 97, 10, 108, 100, 97, 32, 49, 54, 52, 48, 54, 10, 112, 108, 97, 10, 106, 109, 112, 32, 52, 57, 49, 54, 50, 10]⟩ : ByteArray), (⟨#[105, 110, 120, 10, 116, 120, 97, 10, 115, 116, 97, 32, 51, 50, 55, 54, 56, 10, 108, 100, 97, 32, 51, 50, 55, 55, 48, 10, 115, 116, 97, 32, 56, 49, 57, 51, 10, 106, 109, 112, 32, 52, 57, 49, 53, 50, 10]⟩ : ByteArray), (⟨#[108, 100, 105, 32, 49, 50, 56, 10, 115, 116, 97, 32, 56, 49, 57, 50, 10, 108, 100, 105, 32, 55, 10, 115, 116, 97, 32, 49, 54, 51, 56, 53, 10, 108, 100, 105, 32, 49, 10, 115, 116, 97, 32, 49, 54, 51, 56, 54, 10, 99, 108, 105, 10, 106, 115, 114, 32, 52, 57, 51, 48, 48, 10, 106, 109, 112, 32, 52, 57, 49, 54, 56, 10]⟩ : ByteArray), (⟨#[108, 100, 105, 32, 57, 10, 115, 101, 99, 10, 115, 98, 105, 32, 49, 10, 98, 110, 101, 32, 52, 57, 49, 53, 52, 10, 115, 116, 97, 32, 56, 49, 57, 51, 10, 106, 109, 112, 32, 52, 57, 49, 53, 50, 10]⟩ : ByteArray)] : List ByteArray)) (inner := [.string (⟨#[108, 100, 105, 32, 53, 10, 115, 116, 97, 32, 56, 49, 57, 51, 10, 108, 100, 105, 32, 49, 50, 56, 10, 115, 116, 97, 32, 56, 49, 57, 50, 10, 108, 100, 97, 32, 56, 49, 57, 52, 10, 115, 116, 97, 32, 49, 54, 10, 106, 109, 112, 32, 52, 57, 49, 54, 50, 10]⟩ : ByteArray), .string (⟨#[108, 100, 105, 32, 51, 10, 115, 116, 97, 32, 49, 54, 51, 56, 52, 10, 108, 100, 105, 32, 50, 10, 115, 116, 97, 32, 49, 54, 51, 56, 53, 10, 108, 100, 105, 32, 49, 10, 115, 116, 97, 32, 49, 54, 51, 56, 54, 10, 99, 108, 105, 10, 108, 100, 97, 32, 49, 54, 51, 56, 54, 10, 106, 109, 112, 32, 52, 57, 49, 54, 56, 10]⟩ : ByteArray), .string (⟨#[108, 100, 105, 32, 50, 10, 115, 116, 97, 32, 56, 49, 57, 53, 10, 105, 110, 120, 10, 116, 120, 97, 10, 115, 116, 97, 32, 56, 49, 57, 54, 10, 115, 116, 97, 32, 56, 49, 57, 55, 10, 108, 100, 97, 32, 56, 49, 57, 54, 10, 115, 116, 97, 32, 48, 10, 106, 109, 112, 32, 52, 57, 49, 53, 55, 10]⟩ : ByteArray), .string (⟨#[108, 100, 105, 32, 49, 10, 115, 116, 97, 32, 49, 54, 52, 48, 54, 10, 108, 100, 105, 32, 48, 10, 115, 116, 97, 32, 49, 54, 52, 48, 54, 10, 108, 100, 97, 32, 49, 54, 52, 48, 54, 10, 112, 104, 97, 10, 108, 100, 97, 32, 49, 54, 52, 48, 54, 10, 112, 108, 97, 10, 106, 109, 112, 32, 52, 57, 49, 54, 50, 10]⟩ : ByteArray), .string (⟨#[105, 110, 120, 10, 116, 120, 97, 10, 115, 116, 97, 32, 51, 50, 55, 54, 56, 10, 108, 100, 97, 32, 51, 50, 55, 55, 48, 10, 115, 116, 97, 32, 56, 49, 57, 51, 10, 106, 109, 112, 32, 52, 57, 49, 53, 50, 10]⟩ : ByteArray), .string (⟨#[108, 100, 105, 32, 49, 50, 56, 10, 115, 116, 97, 32, 56, 49, 57, 50, 10, 108, 100, 105, 32, 55, 10, 115, 116, 97, 32, 49, 54, 51, 56, 53, 10, 108, 100, 105, 32, 49, 10, 115, 116, 97, 32, 49, 54, 51, 56, 54, 10, 99, 108, 105, 10, 106, 115, 114, 32, 52, 57, 51, 48, 48, 10, 106, 109, 112, 32, 52, 57, 49, 54, 56, 10]⟩ : ByteArray), .string (⟨#[108, 100, 105, 32, 57, 10, 115, 101, 99, 10, 115, 98, 105, 32, 49, 10, 98, 110, 101, 32, 52, 57, 49, 53, 52, 10, 115, 116, 97, 32, 56, 49, 57, 51, 10, 106, 109, 112, 32, 52, 57, 49, 53, 50, 10]⟩ : ByteArray)]) (ok := fun _ => True) (okp := fun _ => True) ?hr ?hp (fun _ hk => hk) trivial (Below.refl _ _) (Nat.le_refl _) (by simp) ?_; (case hd => rfl); (case hg => rfl); (case hr => first | (go_simp; done) | (go_simp; rfl)); (case hp => exact (Reps.one (show Kd.M Kd.string _ _ _ (⟨#[108, 100, 105, 32, 53, 10, 115, 116, 97, 32, 56, 49, 57, 51, 10, 108, 100, 105, 32, 49, 50, 56, 10, 115, 116, 97, 32, 56, 49, 57, 50, 10, 108, 100, 97, 32, 56, 49, 57, 52, 10, 115, 116, 97, 32, 49, 54, 10, 106, 109, 112, 32, 52, 57, 49, 54, 50, 10]⟩ : ByteArray) [.string (⟨#[108, 100, 105, 32, 53, 10, 115, 116, 97, 32, 56, 49, 57, 51, 10, 108, 100, 105, 32, 49, 50, 56, 10, 115, 116, 97, 32, 56, 49, 57, 50, 10, 108, 100, 97, 32, 56, 49, 57, 52, 10, 115, 116, 97, 32, 49, 54, 10, 106, 109, 112, 32, 52, 57, 49, 54, 50, 10]⟩ : ByteArray)] from rfl) (Reps.one (show Kd.M Kd.string _ _ _ (⟨#[108, 100, 105, 32, 51, 10, 115, 116, 97, 32, 49, 54, 51, 56, 52, 10, 108, 100, 105, 32, 50, 10, 115, 116, 97, 32, 49, 54, 51, 56, 53, 10, 108, 100, 105, 32, 49, 10, 115, 116, 97, 32, 49, 54, 51, 56, 54, 10, 99, 108, 105, 10, 108, 100, 97, 32, 49, 54, 51, 56, 54, 10, 106, 109, 112, 32, 52, 57, 49, 54, 56, 10]⟩ : ByteArray) [.string (⟨#[108, 100, 105, 32, 51, 10, 115, 116, 97, 32, 49, 54, 51, 56, 52, 10, 108, 100, 105, 32, 50, 10, 115, 116, 97, 32, 49, 54, 51, 56, 53, 10, 108, 100, 105, 32, 49, 10, 115, 116, 97, 32, 49, 54, 51, 56, 54, 10, 99, 108, 105, 10, 108, 100, 97, 32, 49, 54, 51, 56, 54, 10, 106, 109, 112, 32, 52, 57, 49, 54, 56, 10]⟩ : ByteArray)] from rfl) (Reps.one (show Kd.M Kd.string _ _ _ (⟨#[108, 100, 105, 32, 50, 10, 115, 116, 97, 32, 56, 49, 57, 53, 10, 105, 110, 120, 10, 116, 120, 97, 10, 115, 116, 97, 32, 56, 49, 57, 54, 10, 115, 116, 97, 32, 56, 49, 57, 55, 10, 108, 100, 97, 32, 56, 49, 57, 54, 10, 115, 116, 97, 32, 48, 10, 106, 109, 112, 32, 52, 57, 49, 53, 55, 10]⟩ : ByteArray) [.string (⟨#[108, 100, 105, 32, 50, 10, 115, 116, 97, 32, 56, 49, 57, 53, 10, 105, 110, 120, 10, 116, 120, 97, 10, 115, 116, 97, 32, 56, 49, 57, 54, 10, 115, 116, 97, 32, 56, 49, 57, 55, 10, 108, 100, 97, 32, 56, 49, 57, 54, 10, 115, 116, 97, 32, 48, 10, 106, 109, 112, 32, 52, 57, 49, 53, 55, 10]⟩ : ByteArray)] from rfl) (Reps.one (show Kd.M Kd.string _ _ _ (⟨#[108, 100, 105, 32, 49, 10, 115, 116, 97, 32, 49, 54, 52, 48, 54, 10, 108, 100, 105, 32, 48, 10, 115, 116, 97, 32, 49, 54, 52, 48, 54, 10, 108, 100, 97, 32, 49, 54, 52, 48, 54, 10, 112, 104, 97, 10, 108, 100, 97, 32, 49, 54, 52, 48, 54, 10, 112, 108, 97, 10, 106, 109, 112, 32, 52, 57, 49, 54, 50, 10]⟩ : ByteArray) [.string (⟨#[108, 100, 105, 32, 49, 10, 115, 116, 97, 32, 49, 54, 52, 48, 54, 10, 108, 100, 105, 32, 48, 10, 115, 116, 97, 32, 49, 54, 52, 48, 54, 10, 108, 100, 97, 32, 49, 54, 52, 48, 54, 10, 112, 104, 97, 10, 108, 100, 97, 32, 49, 54, 52, 48, 54, 10, 112, 108, 97, 10, 106, 109, 112, 32, 52, 57, 49, 54, 50, 10]⟩ : ByteArray)] from rfl) (Reps.one (show Kd.M Kd.string _ _ _ (⟨#[105, 110, 120, 10, 116, 120, 97, 10, 115, 116, 97, 32, 51, 50, 55, 54, 56, 10, 108, 100, 97, 32, 51, 50, 55, 55, 48, 10, 115, 116, 97, 32, 56, 49, 57, 51, 10, 106, 109, 112, 32, 52, 57, 49, 53, 50, 10]⟩ : ByteArray) [.string (⟨#[105, 110, 120, 10, 116, 120, 97, 10, 115, 116, 97, 32, 51, 50, 55, 54, 56, 10, 108, 100, 97, 32, 51, 50, 55, 55, 48, 10, 115, 116, 97, 32, 56, 49, 57, 51, 10, 106, 109, 112, 32, 52, 57, 49, 53, 50, 10]⟩ : ByteArray)] from rfl) (Reps.one (show Kd.M Kd.string _ _ _ (⟨#[108, 100, 105, 32, 49, 50, 56, 10, 115, 116, 97, 32, 56, 49, 57, 50, 10, 108, 100, 105, 32, 55, 10, 115, 116, 97, 32, 49, 54, 51, 56, 53, 10, 108, 100, 105, 32, 49, 10, 115, 116, 97, 32, 49, 54, 51, 56, 54, 10, 99, 108, 105, 10, 106, 115, 114, 32, 52, 57, 51, 48, 48, 10, 106, 109, 112, 32, 52, 57, 49, 54, 56, 10]⟩ : ByteArray) [.string (⟨#[108, 100, 105, 32, 49, 50, 56, 10, 115, 116, 97, 32, 56, 49, 57, 50, 10, 108, 100, 105, 32, 55, 10, 115, 116, 97, 32, 49, 54, 51, 56, 53, 10, 108, 100, 105, 32, 49, 10, 115, 116, 97, 32, 49, 54, 51, 56, 54, 10, 99, 108, 105, 10, 106, 115, 114, 32, 52, 57, 51, 48, 48, 10, 106, 109, 112, 32, 52, 57, 49, 54, 56, 10]⟩ : ByteArray)] from rfl) (Reps.one (show Kd.M Kd.string _ _ _ (⟨#[108, 100, 105, 32, 57, 10, 115, 101, 99, 10, 115, 98, 105, 32, 49, 10, 98, 110, 101, 32, 52, 57, 49, 53, 52, 10, 115, 116, 97, 32, 56, 49, 57, 51, 10, 106, 109, 112, 32, 52, 57, 49, 53, 50, 10]⟩ : ByteArray) [.string (⟨#[108, 100, 105, 32, 57, 10, 115, 101, 99, 10, 115, 98, 105, 32, 49, 10, 98, 110, 101, 32, 52, 57, 49, 53, 52, 10, 115, 116, 97, 32, 56, 49, 57, 51, 10, 106, 109, 112, 32, 52, 57, 49, 53, 50, 10]⟩ : ByteArray)] from rfl) (Reps.none _ _))))))))); intro v269 w4 ho5 hb hg_ hnew_; clear hg_ hnew_; (first | rw [← Ny268.out] at ho5 | (simp only [Int.reduceToNat] at ho5; rw [← Ny268.out] at ho5)); have n0_ := Aside0.mk (Kd.R_lower ho5 (keep_size (w := w) (g := g) (row := none) (kp HK.out))); have n1_ := Aside0.mk (IsS107.below (si HI0.out) hb); have n2_ := Aside0.mk (KeepBut.trans (kp HK.out) (KeepBut.of_below hb g none) (.inl rfl)); have n3_ := Aside0.mk (below_step (bi HB.out) hb); clear HI0; clear HK; clear HB; have HO270 := n0_; have HI0 := n1_; have HK := n2_; have HB := n3_; clear n0_ n1_ n2_ n3_; clear hb ho5; obtain ⟨Ao6, co6, eo6⟩ := Kd.R_slice HO270.out; subst eo6) | ((with_reducible refine gate_callee (f := 119) rfl ?_); refine goesM_ (some 6) rfl rfl Try.func119 #[.pointer (some ⟨g, 0, none⟩), .slice Ao6 y268.length co6] ?_; (with_reducible refine (spec_l1Pick.calls g s0_0 s0_1 s0_2 _ _ y268 t271 t272 t273 w0 _ ?side1 ?side2 ?side3 ?side4 ?side5 A2.out).mono ?_); (case side1 => exact si HI0.out); (case side2 => exact bi HB.out); (case side3 => repeat (first | exact (Kd.R_reads' HO270.out).2.2 | (with_reducible refine Kd.C_alloc ?_ _) | (with_reducible refine Kd.C_drewN ?_ _) | (with_reducible refine Kd.C_drew ?_))); (case side4 => exact (Kd.R_reads' HO270.out).2.1); (case side5 => exact far_slice (IsS107.own_ne HI0.out HO270.out (by decide))); rintro e w7 ⟨rfl, hi, hb, hk⟩; refine ⟨_, rfl, ?_⟩; have n0_ := Aside0.mk (Kd.R_mono (Kd.R_keep (IsS107.apart (show IsS107 w0 _ g s0_0 s0_1 s0_2 from si HI0.out) (kr HO270.out) (by decide)) hk (fun _ h => h.2)) (fun _ h => h.1)); have n1_ := Aside0.mk (KeepBut.trans (kp HK.out) hk (.inl rfl)); have n2_ := Aside0.mk (hb); have n3_ := Aside0.mk (hi); clear HO270; clear HK; clear HB; clear HI0; have HO270 := n0_; have HK := n1_; have HB := n2_; have HI0 := n3_; clear n0_ n1_ n2_ n3_; (try clear hb); (try clear hb2); (try clear hk); (try clear hi)))
  go_ret
  exact ⟨rt, si HI0.out, bi HB.out, kp HK.out⟩
 ·rw [if_neg c3] at H
  exact absurd H (by simp)

end Go.Proofs.Ytmkccgbfgebfbaa.MFnMemory
