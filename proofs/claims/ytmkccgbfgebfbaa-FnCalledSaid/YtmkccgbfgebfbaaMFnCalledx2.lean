/- Walks of functions that the law FnCalled reaches: each comes to just what its Lean function says. (Begun as the texts that print.sh wrote for this claim; some of them, and those that it does not write, are mine.) No condition. -/
import Derived.Test.YtmkccgbfgebfbaaMFnCalledx1
namespace Go.Proofs.Ytmkccgbfgebfbaa.MFnCalled
open Go.RowKit Go.Proofs.YtmkccgbfgebfbaaW.PrintWords Go.Proofs.YtmkccgbfgebfbaaW.PrintLast Go.Proofs.YtmkccgbfgebfbaaW.PrintMore
attribute [local go_sem] max2_int min2_int max_two min_two max_three min_three max_four min_four   -- for this text's walks alone
set_option maxHeartbeats 8000000
set_option maxRecDepth 100000
set_option linter.unusedVariables false
set_option linter.unusedSimpArgs false

/-! ### spec_Assemble: function 106 -/
mutual
def spec_Assemble.l0 : Nat → ByteArray → List Int → Int → Int → Int → Int → Option (List Int × Int)
 | 0, _, _, _, _, _, _ => none
 | k + 1, x0, x4, x5, x6, x7, x8 => if x8 ≤ (x0.size : Int) then (if x8 < (x0.size : Int) then (if 0 ≤ x8 then (if (bt x0 x8) = 10 then (if x8 = (x0.size : Int) then (spec_Assemble.j1 k x0 x4 x5 x6 x7 x8 (x6 == (x0.size : Int))) else (spec_Assemble.j1 k x0 x4 x5 x6 x7 x8 false)) else (spec_Assemble.j1 k x0 x4 x5 x6 x7 x8 true)) else (none)) else (if x8 = (x0.size : Int) then (spec_Assemble.j1 k x0 x4 x5 x6 x7 x8 (x6 == (x0.size : Int))) else (spec_Assemble.j1 k x0 x4 x5 x6 x7 x8 false))) else (some (x4, 0))
def spec_Assemble.j1 : Nat → ByteArray → List Int → Int → Int → Int → Int → Bool → Option (List Int × Int)
 | 0, _, _, _, _, _, _, _ => none
 | k + 1, x0, x4, x5, x6, x7, x8, x46 => if x46 = true then (spec_Assemble.l0 k x0 x4 x5 x6 x7 (wrap64 (x8 + 1))) else (if 0 ≤ x6 then (if x6 ≤ x8 then (if x8 ≤ (x0.size : Int) then (if (x0.extract (x6 : Int).toNat (x8 : Int).toNat).toList = ([] : List UInt8) then (spec_Assemble.l0 k x0 x4 x5 (wrap64 (x8 + 1)) (wrap64 (x7 + 1)) (wrap64 (x8 + 1))) else ((spec_l4Bytes.f k (x0.extract (x6 : Int).toNat (x8 : Int).toNat)).bind fun bt208 => (if bt208.2.2 = true then (if bt208.2.1 ≥ 0 then (spec_Assemble.j2 k x0 x4 bt208.2.1 (wrap64 (x8 + 1)) (wrap64 (x7 + 1)) x8 bt208.1) else (spec_Assemble.j2 k x0 x4 x5 (wrap64 (x8 + 1)) (wrap64 (x7 + 1)) x8 bt208.1)) else (some ((([] : List Int)), wrap64 (x7 + 1)))))) else (none)) else (none)) else (none))
def spec_Assemble.j2 : Nat → ByteArray → List Int → Int → Int → Int → Int → List Int → Option (List Int × Int)
 | 0, _, _, _, _, _, _, _ => none
 | k + 1, x0, x4, x5, x6, x7, x8, x10 => spec_Assemble.l1 k x0 x4 x5 x6 x7 x8 x10 0
def spec_Assemble.l1 : Nat → ByteArray → List Int → Int → Int → Int → Int → List Int → Int → Option (List Int × Int)
 | 0, _, _, _, _, _, _, _, _ => none
 | k + 1, x0, x4, x5, x6, x7, x8, x10, x13 => if x13 < (x10.length : Int) then ((spec_Byte.f x5).bind fun t216 => (if 0 ≤ x13 then (if 0 ≤ t216 then (if t216 < (x4.length : Int) then (spec_Assemble.l1 k x0 (x4.set (t216 : Int).toNat (rd x10 x13)) (wrap64 (x5 + 1)) x6 x7 x8 x10 (wrap64 (x13 + 1))) else (none)) else (none)) else (none))) else (spec_Assemble.l0 k x0 x4 x5 x6 x7 (wrap64 (x8 + 1)))
end
def spec_Assemble.f (k : Nat) (a0 : ByteArray) : Option (List Int × Int) := if (a0.size : Int) > 3000 then (some ((([] : List Int)), (-1))) else (if 256 ≤ 35184372088832 then (spec_Assemble.l0 k a0 (List.replicate 256 0) 0 0 0 0) else (none))
def spec_Assemble.T21 : Bool × List (List Nat × List Nat) := (true, [([], []), ([], []), ([1], [1]), ([], []), ([], []), ([3, 4], [3, 4]), ([5], [5]), ([0, 2, 0, 1, 2, 3, 4, 5, 6], [0, 2]), ([7, 6, 2, 0, 1, 2, 3, 4, 5, 6], [6, 7])])
def spec_Assemble.B21 : List Nat := [0, 0, 2, 0, 0, 24, 56, 127, 255]
theorem spec_Assemble.tab21 : rtab .any (opsOf Try.f106 21) = spec_Assemble.T21 := by kernel_rfl
theorem spec_Assemble.bits21 : waitsOk spec_Assemble.T21.2 spec_Assemble.B21 = true := by kernel_rfl
theorem spec_Assemble.calls (k : Nat) (a0 : ByteArray) (r1 : List Int) (r2 : Int) (w : World) (h : spec_Assemble.f k a0 = some (r1, r2)) :
  Calls Try.prog 106 #[.string a0] w fun e w' => ∃ v0_ : Value, e = .returned (.tuple #[v0_, .int .i64 r2]) ∧ Kd.R (Kd.int .i64) 3 w' w.heap.size (fun _ => True) v0_ r1 ∧ Below w.heap.size w w' := by
 have HB := am (Below.refl w.heap.size w)
 have H : (if (a0.size : Int) > 3000 then (some ((([] : List Int)), (-1))) else (if 256 ≤ 35184372088832 then (spec_Assemble.l0 k a0 (List.replicate 256 0) 0 0 0 0) else (none))) = some (r1, r2) := h
 clear h
 by_cases c2 : (a0.size : Int) > 3000
 ·rw [if_pos c2] at H
  have c2b0 : decide (3000 < (a0.size : Int)) = true := decide_eq_true c2
  have c2b1 : decide (3000 < a0.size) = true := decide_eq_true (by omega)
  clear c2
  obtain ⟨y202, hy202⟩ : ∃ y_ : List Int, y_ = (([] : List Int)) := ⟨_, rfl⟩
  replace H : (some (y202, (-1))) = some (r1, r2) := by first | (rw [hy202]; with_reducible exact H) | (have H2_ := (Option.bind_some _ _).symm.trans H; rw [hy202]; with_reducible exact H2_) | (have H2_ := (Option.bind_some _ _).symm.trans H; with_reducible exact H2_) | with_reducible exact H | (rw [hy202]; exact H) | exact H
  have Ny202 := am hy202
  clear hy202
  simp only [Option.some.injEq, Prod.mk.injEq] at H
  obtain ⟨rfl, rfl⟩ := H
  go_enter Try.func106, Try.ntmps106
  go_wp2_with (first | ((with_reducible refine gd 17 ?_); (try (refine gate_guard (by rfl) ?_; dsimp only)); refine Kd.R_lit (Kd.int .i64) _ 3 ?hg (N := 17) ?hd (xs := ([] : List Int)) (inner := []) (ok := fun _ => True) (okp := fun _ => True) ?hr ?hp (fun _ hk => hk) trivial (Below.refl _ _) (Nat.le_refl _) (by simp) ?_; (case hd => rfl); (case hg => rfl); (case hr => first | (go_simp; done) | (go_simp; rfl)); (case hp => exact (Reps.none _ _)); intro v203 w3 ho4 hb hg_ hnew_; clear hg_ hnew_; (first | rw [← Ny202.out] at ho4 | (simp only [Int.reduceToNat] at ho4; rw [← Ny202.out] at ho4)); have HO204 := am (Kd.R_lower ho4 (below_size (bw HB.out))); replace HB := am (below_step (bw HB.out) hb); clear hb ho4))
  go_ret2
  exact ⟨_, rt, kr HO204.out, bw HB.out⟩
 ·rw [if_neg c2] at H
  have c2b0 : decide (3000 < (a0.size : Int)) = false := decide_eq_false c2
  have c2b1 : decide (3000 < a0.size) = false := decide_eq_false (by omega)
  clear c2
  by_cases c5 : 256 ≤ 35184372088832
  ·rw [if_pos c5] at H
   have c5b0 := eq_true c5
   have c5b1 : decide (256 ≤ 35184372088832) = true := decide_eq_true c5
   clear c5
   obtain ⟨y205, hy205⟩ : ∃ y_ : List Int, y_ = (List.replicate 256 0) := ⟨_, rfl⟩
   replace H : (spec_Assemble.l0 k a0 y205 0 0 0 0) = some (r1, r2) := by first | (rw [hy205]; with_reducible exact H) | (have H2_ := (Option.bind_some _ _).symm.trans H; rw [hy205]; with_reducible exact H2_) | (have H2_ := (Option.bind_some _ _).symm.trans H; with_reducible exact H2_) | with_reducible exact H | (rw [hy205]; exact H) | exact H
   have Ny205 := am hy205
   clear hy205
   have H' := am H
   clear H
   go_enter Try.func106, Try.ntmps106
   go_wp2_with (first | ((with_reducible refine gd 18 ?_); (try (refine gate_guard (by rfl) ?_; dsimp only)); refine Kd.R_make (Kd.int .i64) _ 3 rfl (N := 18) rfl 30 _ _ rfl 256 rfl rfl Try.underlying30 (.int .i64 0) 8 info3 rfl (by decide) (by omega) 0 (ok := fun _ => True) (okp := fun _ => True) rfl (fun _ hk => hk) trivial (by omega) (by omega) (Below.refl _ _) (Nat.le_refl _) ?_; intro v206 w6 ho7 hb hg_ hnew_; clear hg_ hnew_; (first | rw [← Ny205.out] at ho7 | (simp only [Int.reduceToNat] at ho7; rw [← Ny205.out] at ho7)); have HO207 := am (Kd.R_lower ho7 (below_size (bw HB.out))); replace HB := am (below_step (bw HB.out) hb); clear hb ho7))
   go_loopg [5, 6, 7, 8] k (fun kq v5 v6 v7 v8 w' => ∃ (x4_1 : List Int) (x5_1 : Int) (x6_1 : Int) (x7_1 : Int) (x8_1 : Int), v5 = .int .i64 x5_1 ∧ v6 = .int .i64 x6_1 ∧ v7 = .int .i64 x7_1 ∧ v8 = .int .i64 x8_1 ∧ Aside0 (spec_Assemble.l0 kq a0 x4_1 x5_1 x6_1 x7_1 x8_1 = some (r1, r2)) ∧ Aside0 (kq ≤ k) ∧ Aside0 (Kd.R (Kd.int .i64) 3 w' w.heap.size (fun _ => True) v206 x4_1) ∧ Aside0 (Below w.heap.size w w'))
   case atStart => exact ⟨(y205), (0), (0), (0), (0), (by first | rfl | (simp; done) | (simp [*]; done)), (by first | rfl | (simp; done) | (simp [*]; done)), (by first | rfl | (simp; done) | (simp [*]; done)), (by first | rfl | (simp; done) | (simp [*]; done)), H', ⟨Nat.le_refl _⟩, ⟨kr HO207.out⟩, ⟨bw HB.out⟩⟩
   case round =>
    clear H'
    (try clear c1); (try clear c2); (try clear c2b0); (try clear c2b1); (try clear p2); (try clear c5); (try clear c5b0); (try clear c5b1)
    obtain ⟨x4_1, x5_1, x6_1, x7_1, x8_1, rfl, rfl, rfl, rfl, HA, HK1, HO_4, HB⟩ := hrel
    cases gk with
    | zero => exact absurd HA.out (by simp [spec_Assemble.l0])
    | succ k1 =>
     have H := HA.out
     clear HA
     simp only [spec_Assemble.l0] at H
     by_cases c8 : x8_1 ≤ (a0.size : Int)
     ·rw [if_pos c8] at H
      have c8b0 : decide (x8_1 ≤ (a0.size : Int)) = true := decide_eq_true c8
      clear c8
      have HC9 := am H
      clear H
      go_upto_region 8 with (fail)
      go_cut [46] (fun v46 wc => ∃ (kq : Nat) (x46_8 : Bool), v46 = .bool x46_8 ∧ Aside0 (spec_Assemble.j1 kq a0 x4_1 x5_1 x6_1 x7_1 x8_1 x46_8 = some (r1, r2)) ∧ Aside0 (kq ≤ k1) ∧ Aside0 (Kd.R (Kd.int .i64) 3 wc w.heap.size (fun _ => True) v206 x4_1) ∧ Aside0 (Below w.heap.size w wc))
      case first =>
       have H := HC9.out
       clear HC9
       by_cases c10 : x8_1 < (a0.size : Int)
       ·rw [if_pos c10] at H
        have c10b0 : decide (x8_1 < (a0.size : Int)) = true := decide_eq_true c10
        clear c10
        (first | rw [c10b0] | (simp only [i64_w, i32_w]; rw [c10b0]) | skip)
        by_cases c11 : 0 ≤ x8_1
        ·rw [if_pos c11] at H
         have c11b0 : decide (0 ≤ x8_1) = true := decide_eq_true c11
         clear c11
         by_cases c13 : (bt a0 x8_1) = 10
         ·rw [if_pos c13] at H
          have c13b0 : ((bt a0 x8_1) == 10) = true := beq_iff_eq.mpr c13
          have c13b1 : ((bt a0 x8_1) != 10) = false := bne_eq_false_iff_eq.mpr c13
          clear c13
          by_cases c14 : x8_1 = (a0.size : Int)
          ·rw [if_pos c14] at H
           have c14b0 : (x8_1 == (a0.size : Int)) = true := beq_iff_eq.mpr c14
           have c14b1 : (x8_1 != (a0.size : Int)) = false := bne_eq_false_iff_eq.mpr c14
           clear c14
           have H' := am H
           clear H
           have p12 : 0 ≤ (x8_1 : Int) := dt
           have q12 : x8_1 < (a0.size : Int) := dt
           have hx12 := bt_at a0 x8_1
           replace p12 := eq_true p12
           replace q12 := eq_true q12
           go_wp2
           go_meet
           case rel => exact ⟨_, ((x6_1 == (a0.size : Int))), (by first | rfl | (simp; done) | (simp [*]; done)), H', ⟨by have := HK1.out; first | omega | exact Nat.le_refl _⟩, ⟨kr HO_4.out⟩, ⟨bw HB.out⟩⟩
          ·rw [if_neg c14] at H
           have c14b0 : (x8_1 == (a0.size : Int)) = false := beq_eq_false_iff_ne.mpr c14
           have c14b1 : (x8_1 != (a0.size : Int)) = true := bne_iff_ne.mpr c14
           have H' := am H
           clear H
           have p12 : 0 ≤ (x8_1 : Int) := dt
           have q12 : x8_1 < (a0.size : Int) := dt
           have hx12 := bt_at a0 x8_1
           replace p12 := eq_true p12
           replace q12 := eq_true q12
           go_wp2
           go_meet
           case rel => exact ⟨_, (false), (by first | rfl | (simp; done) | (simp [*]; done)), H', ⟨by have := HK1.out; first | omega | exact Nat.le_refl _⟩, ⟨kr HO_4.out⟩, ⟨bw HB.out⟩⟩
         ·rw [if_neg c13] at H
          have c13b0 : ((bt a0 x8_1) == 10) = false := beq_eq_false_iff_ne.mpr c13
          have c13b1 : ((bt a0 x8_1) != 10) = true := bne_iff_ne.mpr c13
          have H' := am H
          clear H
          have p12 : 0 ≤ (x8_1 : Int) := dt
          have q12 : x8_1 < (a0.size : Int) := dt
          have hx12 := bt_at a0 x8_1
          replace p12 := eq_true p12
          replace q12 := eq_true q12
          go_wp2
          go_meet
          case rel => exact ⟨_, (true), (by first | rfl | (simp; done) | (simp [*]; done)), H', ⟨by have := HK1.out; first | omega | exact Nat.le_refl _⟩, ⟨kr HO_4.out⟩, ⟨bw HB.out⟩⟩
        ·rw [if_neg c11] at H
         exact absurd H (by simp)
       ·rw [if_neg c10] at H
        have c10b0 : decide (x8_1 < (a0.size : Int)) = false := decide_eq_false c10
        clear c10
        (first | rw [c10b0] | (simp only [i64_w, i32_w]; rw [c10b0]) | skip)
        by_cases c15 : x8_1 = (a0.size : Int)
        ·rw [if_pos c15] at H
         have c15b0 : (x8_1 == (a0.size : Int)) = true := beq_iff_eq.mpr c15
         have c15b1 : (x8_1 != (a0.size : Int)) = false := bne_eq_false_iff_eq.mpr c15
         clear c15
         have H' := am H
         clear H
         go_wp2
         go_meet
         case rel => exact ⟨_, ((x6_1 == (a0.size : Int))), (by first | rfl | (simp; done) | (simp [*]; done)), H', ⟨by have := HK1.out; first | omega | exact Nat.le_refl _⟩, ⟨kr HO_4.out⟩, ⟨bw HB.out⟩⟩
        ·rw [if_neg c15] at H
         have c15b0 : (x8_1 == (a0.size : Int)) = false := beq_eq_false_iff_ne.mpr c15
         have c15b1 : (x8_1 != (a0.size : Int)) = true := bne_iff_ne.mpr c15
         have H' := am H
         clear H
         go_wp2
         go_meet
         case rel => exact ⟨_, (false), (by first | rfl | (simp; done) | (simp [*]; done)), H', ⟨by have := HK1.out; first | omega | exact Nat.le_refl _⟩, ⟨kr HO_4.out⟩, ⟨bw HB.out⟩⟩
      case rest =>
       clear HC9; (try clear c1); (try clear p1); (try clear q1); (try clear hx1); (try clear c2); (try clear c2b0); (try clear c2b1); (try clear p2); (try clear c5); (try clear c5b0); (try clear c5b1); (try clear c8); (try clear c8b0); (try clear c10); (try clear c10b0); (try clear c11); (try clear c11b0); (try clear p12); (try clear q12); (try clear hx12); (try clear c13); (try clear c13b0); (try clear c13b1); (try clear c14); (try clear c14b0); (try clear c14b1); (try clear c15); (try clear c15b0); (try clear c15b1); (try clear p12); (try clear p2); (try clear q12)
       obtain ⟨kq, x46_8, rfl, HA, HJ8, HO_4, HB⟩ := hcut
       cases kq with
       | zero => exact absurd HA.out (by simp [spec_Assemble.j1])
       | succ kj8 =>
        have H := HA.out
        clear HA
        simp only [spec_Assemble.j1] at H
        by_cases c16 : x46_8 = true
        ·subst c16
         have H1 : (spec_Assemble.l0 kj8 a0 x4_1 x5_1 x6_1 x7_1 (wrap64 (x8_1 + 1))) = some (r1, r2) := by rw [if_pos rfl] at H; exact H
         clear H
         have H := H1
         clear H1
         have H' := am H
         clear H
         go_wp2
         go_roundg kj8
         case measure => have := HK1.out; have := HJ8.out; omega
         case rel => exact ⟨(x4_1), (x5_1), (x6_1), (x7_1), (wrap64 (x8_1 + 1)), (by first | rfl | (simp; done) | (simp [*]; done)), (by first | rfl | (simp; done) | (simp [*]; done)), (by first | rfl | (simp; done) | (simp [*]; done)), (by first | rfl | (simp; done) | (simp [*]; done)), H', ⟨by have := HK1.out; have := HJ8.out; omega⟩, ⟨kr HO_4.out⟩, ⟨bw HB.out⟩⟩
        ·replace c16 := Bool.eq_false_iff.mpr c16
         subst c16
         have H1 : (if 0 ≤ x6_1 then (if x6_1 ≤ x8_1 then (if x8_1 ≤ (a0.size : Int) then (if (a0.extract (x6_1 : Int).toNat (x8_1 : Int).toNat).toList = ([] : List UInt8) then (spec_Assemble.l0 kj8 a0 x4_1 x5_1 (wrap64 (x8_1 + 1)) (wrap64 (x7_1 + 1)) (wrap64 (x8_1 + 1))) else ((spec_l4Bytes.f kj8 (a0.extract (x6_1 : Int).toNat (x8_1 : Int).toNat)).bind fun bt208 => (if bt208.2.2 = true then (if bt208.2.1 ≥ 0 then (spec_Assemble.j2 kj8 a0 x4_1 bt208.2.1 (wrap64 (x8_1 + 1)) (wrap64 (x7_1 + 1)) x8_1 bt208.1) else (spec_Assemble.j2 kj8 a0 x4_1 x5_1 (wrap64 (x8_1 + 1)) (wrap64 (x7_1 + 1)) x8_1 bt208.1)) else (some ((([] : List Int)), wrap64 (x7_1 + 1)))))) else (none)) else (none)) else (none)) = some (r1, r2) := by rw [if_neg (show ¬ (false = true) by decide)] at H; exact H
         clear H
         have H := H1
         clear H1
         by_cases c17 : 0 ≤ x6_1
         ·rw [if_pos c17] at H
          have c17b0 := eq_true c17
          have c17b1 : decide (0 ≤ x6_1) = true := decide_eq_true c17
          clear c17
          by_cases c18 : x6_1 ≤ x8_1
          ·rw [if_pos c18] at H
           have c18b0 := eq_true c18
           have c18b1 : decide (x6_1 ≤ x8_1) = true := decide_eq_true c18
           clear c18
           by_cases c19 : x8_1 ≤ (a0.size : Int)
           ·rw [if_pos c19] at H
            have c19b0 := eq_true c19
            have c19b1 : decide (x8_1 ≤ (a0.size : Int)) = true := decide_eq_true c19
            clear c19
            by_cases c20 : (a0.extract (x6_1 : Int).toNat (x8_1 : Int).toNat).toList = ([] : List UInt8)
            ·rw [if_pos c20] at H
             have c20b0 : ((a0.extract (x6_1 : Int).toNat (x8_1 : Int).toNat).toList == ([] : List UInt8)) = true := beq_iff_eq.mpr c20
             have c20b1 : ((a0.extract (x6_1 : Int).toNat (x8_1 : Int).toNat).toList != ([] : List UInt8)) = false := bne_eq_false_iff_eq.mpr c20
             clear c20
             have H' := am H
             clear H
             go_wp2
             go_roundg kj8
             case measure => have := HK1.out; have := HJ8.out; omega
             case rel => exact ⟨(x4_1), (x5_1), (wrap64 (x8_1 + 1)), (wrap64 (x7_1 + 1)), (wrap64 (x8_1 + 1)), (by first | rfl | (simp; done) | (simp [*]; done)), (by first | rfl | (simp; done) | (simp [*]; done)), (by first | rfl | (simp; done) | (simp [*]; done)), (by first | rfl | (simp; done) | (simp [*]; done)), H', ⟨by have := HK1.out; have := HJ8.out; omega⟩, ⟨kr HO_4.out⟩, ⟨bw HB.out⟩⟩
            ·rw [if_neg c20] at H
             have c20b0 : ((a0.extract (x6_1 : Int).toNat (x8_1 : Int).toNat).toList == ([] : List UInt8)) = false := beq_eq_false_iff_ne.mpr c20
             have c20b1 : ((a0.extract (x6_1 : Int).toNat (x8_1 : Int).toNat).toList != ([] : List UInt8)) = true := bne_iff_ne.mpr c20
             replace H := bs H
             obtain ⟨⟨t208, t209, t210⟩, A210, H⟩ := H
             replace H : (if t210 = true then (if t209 ≥ 0 then (spec_Assemble.j2 kj8 a0 x4_1 t209 (wrap64 (x8_1 + 1)) (wrap64 (x7_1 + 1)) x8_1 t208) else (spec_Assemble.j2 kj8 a0 x4_1 x5_1 (wrap64 (x8_1 + 1)) (wrap64 (x7_1 + 1)) x8_1 t208)) else (some ((([] : List Int)), wrap64 (x7_1 + 1)))) = some (r1, r2) := H
             have A21 := am A210
             clear A210
             by_cases c22 : t210 = true
             ·subst c22
              have H1 : (if t209 ≥ 0 then (spec_Assemble.j2 kj8 a0 x4_1 t209 (wrap64 (x8_1 + 1)) (wrap64 (x7_1 + 1)) x8_1 t208) else (spec_Assemble.j2 kj8 a0 x4_1 x5_1 (wrap64 (x8_1 + 1)) (wrap64 (x7_1 + 1)) x8_1 t208)) = some (r1, r2) := by rw [if_pos rfl] at H; exact H
              clear H
              have H := H1
              clear H1
              have HC23 := am H
              clear H
              go_upto_if 68 with (first | ((with_reducible refine gate_callee (f := 118) rfl ?_); refine goesM_ (some 59) rfl rfl Try.func118 #[.string (a0.extract (x6_1 : Int).toNat (x8_1 : Int).toNat)] ?_; (with_reducible refine (spec_l4Bytes.calls kj8 (a0.extract (x6_1 : Int).toNat (x8_1 : Int).toNat) t208 t209 true _ A21.out).mono ?_); rintro e w24 ⟨v211, rfl, ho0, hb⟩; refine ⟨_, rfl, ?_⟩; have HO212 := am (Kd.R_lower (Kd.R_new' ho0 (Kd.R_lt (kr HO_4.out))) (below_size (bw HB.out))); replace HO_4 := am (Kd.R_elder' (kr HO_4.out) (Kd.R_base ho0) hb); replace HB := am (below_step (bw HB.out) hb); (try clear hb); (try clear hk); (try clear ho0)))
              (try simp only [Act.put, List.setIfInBounds_toArray, List.set_cons_zero, List.set_cons_succ])
              go_cut [5] (fun v5 wc => ∃ (kq : Nat) (x5_22 : Int), v5 = .int .i64 x5_22 ∧ Aside0 (spec_Assemble.j2 kq a0 x4_1 x5_22 (wrap64 (x8_1 + 1)) (wrap64 (x7_1 + 1)) x8_1 t208 = some (r1, r2)) ∧ Aside0 (kq ≤ kj8) ∧ Aside0 (Kd.R (Kd.int .i64) 3 wc w.heap.size (fun k_ => some k_ ≠ (v211 : Value).ownBlock) v206 x4_1) ∧ Aside0 (Kd.R (Kd.int .i64) 3 wc w.heap.size (fun k_ => some k_ ≠ (v206 : Value).ownBlock) v211 t208) ∧ Aside0 (Below w.heap.size w wc))
              case first =>
               have H := HC23.out
               clear HC23
               by_cases c25 : t209 ≥ 0
               ·rw [if_pos c25] at H
                have c25b0 : decide (0 ≤ t209) = true := decide_eq_true c25
                clear c25
                (first | rw [c25b0] | (simp only [i64_w, i32_w]; rw [c25b0]) | skip)
                have H' := am H
                clear H
                go_wp2
                go_meet
                case rel => exact ⟨_, (t209), (by first | rfl | (simp; done) | (simp [*]; done)), H', ⟨by have := HK1.out; have := HJ8.out; first | omega | exact Nat.le_refl _⟩, ⟨kr (Kd.R_mono HO_4.out (fun _ hk => hk.2))⟩, ⟨kr (Kd.R_mono HO212.out (fun _ hk => hk.2))⟩, ⟨bw HB.out⟩⟩
               ·rw [if_neg c25] at H
                have c25b0 : decide (0 ≤ t209) = false := decide_eq_false c25
                clear c25
                (first | rw [c25b0] | (simp only [i64_w, i32_w]; rw [c25b0]) | skip)
                have H' := am H
                clear H
                go_wp2
                go_meet
                case rel => exact ⟨_, (x5_1), (by first | rfl | (simp; done) | (simp [*]; done)), H', ⟨by have := HK1.out; have := HJ8.out; first | omega | exact Nat.le_refl _⟩, ⟨kr (Kd.R_mono HO_4.out (fun _ hk => hk.2))⟩, ⟨kr (Kd.R_mono HO212.out (fun _ hk => hk.2))⟩, ⟨bw HB.out⟩⟩
              case rest =>
               clear HC23; (try clear c1); (try clear p1); (try clear q1); (try clear hx1); (try clear c2); (try clear c2b0); (try clear c2b1); (try clear p2); (try clear c5); (try clear c5b0); (try clear c5b1); (try clear p6); (try clear c8); (try clear c8b0); (try clear c10); (try clear c10b0); (try clear c11); (try clear c11b0); (try clear p12); (try clear q12); (try clear hx12); (try clear c13); (try clear c13b0); (try clear c13b1); (try clear c14); (try clear c14b0); (try clear c14b1); (try clear c15); (try clear c15b0); (try clear c15b1); (try clear c16); (try clear c17); (try clear c17b0); (try clear c17b1); (try clear c18); (try clear c18b0); (try clear c18b1); (try clear c19); (try clear c19b0); (try clear c19b1); (try clear c20); (try clear c20b0); (try clear c20b1); (try clear c22); (try clear c25); (try clear c25b0); (try clear p1); (try clear p12); (try clear p2); (try clear q1); (try clear q12)
               obtain ⟨kq, x5_22, rfl, HA, HJ22, HO_4, HO_10, HB⟩ := hcut
               cases kq with
               | zero => exact absurd HA.out (by simp [spec_Assemble.j2])
               | succ kj22 =>
                have H := HA.out
                clear HA
                simp only [spec_Assemble.j2] at H
                have H' := am H
                clear H
                go_wp2
                go_loopg [5, 13] kj22 (fun kq v5 v13 w' => ∃ (x4_4 : List Int) (x5_4 : Int) (x13_4 : Int), v5 = .int .i64 x5_4 ∧ v13 = .int .i64 x13_4 ∧ Aside0 (spec_Assemble.l1 kq a0 x4_4 x5_4 (wrap64 (x8_1 + 1)) (wrap64 (x7_1 + 1)) x8_1 t208 x13_4 = some (r1, r2)) ∧ Aside0 (kq ≤ kj22) ∧ Aside0 (Kd.R (Kd.int .i64) 3 w' w.heap.size (fun k_ => some k_ ≠ (v211 : Value).ownBlock) v206 x4_4) ∧ Aside0 (Kd.R (Kd.int .i64) 3 w' w.heap.size (fun k_ => some k_ ≠ (v206 : Value).ownBlock) v211 t208) ∧ Aside0 (Below w.heap.size w w'))
                case atStart => exact ⟨(x4_1), (x5_22), (0), (by first | rfl | (simp; done) | (simp [*]; done)), (by first | rfl | (simp; done) | (simp [*]; done)), H', ⟨Nat.le_refl _⟩, ⟨kr HO_4.out⟩, ⟨kr HO_10.out⟩, ⟨bw HB.out⟩⟩
                case round =>
                 clear H'
                 (try clear c1); (try clear p1); (try clear q1); (try clear hx1); (try clear c2); (try clear c2b0); (try clear c2b1); (try clear p2); (try clear c5); (try clear c5b0); (try clear c5b1); (try clear p6); (try clear c8); (try clear c8b0); (try clear c10); (try clear c10b0); (try clear c11); (try clear c11b0); (try clear p12); (try clear q12); (try clear hx12); (try clear c13); (try clear c13b0); (try clear c13b1); (try clear c14); (try clear c14b0); (try clear c14b1); (try clear c15); (try clear c15b0); (try clear c15b1); (try clear c16); (try clear c17); (try clear c17b0); (try clear c17b1); (try clear c18); (try clear c18b0); (try clear c18b1); (try clear c19); (try clear c19b0); (try clear c19b1); (try clear c20); (try clear c20b0); (try clear c20b1); (try clear c22); (try clear c25); (try clear c25b0); (try clear p1); (try clear p12); (try clear p2); (try clear p6); (try clear q1); (try clear q12)
                 obtain ⟨x4_4, x5_4, x13_4, rfl, rfl, HA, HK4, HO_4, HO_10, HB⟩ := hrel
                 cases gk with
                 | zero => exact absurd HA.out (by simp [spec_Assemble.l1])
                 | succ k4 =>
                  have H := HA.out
                  clear HA
                  simp only [spec_Assemble.l1] at H
                  by_cases c26 : x13_4 < (t208.length : Int)
                  ·rw [if_pos c26] at H
                   have c26b0 : decide (x13_4 < (t208.length : Int)) = true := decide_eq_true c26
                   clear c26
                   replace H := bs H
                   obtain ⟨t216, A270, H⟩ := H
                   replace H : (if 0 ≤ x13_4 then (if 0 ≤ t216 then (if t216 < (x4_4.length : Int) then (spec_Assemble.l1 k4 a0 (x4_4.set (t216 : Int).toNat (rd t208 x13_4)) (wrap64 (x5_4 + 1)) (wrap64 (x8_1 + 1)) (wrap64 (x7_1 + 1)) x8_1 t208 (wrap64 (x13_4 + 1))) else (none)) else (none)) else (none)) = some (r1, r2) := H
                   have A27 := am A270
                   clear A270
                   by_cases c28 : 0 ≤ x13_4
                   ·rw [if_pos c28] at H
                    have c28b0 : decide (0 ≤ x13_4) = true := decide_eq_true c28
                    clear c28
                    by_cases c29 : 0 ≤ t216
                    ·rw [if_pos c29] at H
                     have c29b0 : decide (0 ≤ t216) = true := decide_eq_true c29
                     clear c29
                     by_cases c30 : t216 < (x4_4.length : Int)
                     ·rw [if_pos c30] at H
                      have c30b0 : decide (t216 < (x4_4.length : Int)) = true := decide_eq_true c30
                      clear c30
                      obtain ⟨y218, hy218⟩ : ∃ y_ : List Int, y_ = (x4_4.set (t216 : Int).toNat (rd t208 x13_4)) := ⟨_, rfl⟩
                      replace H : (spec_Assemble.l1 k4 a0 y218 (wrap64 (x5_4 + 1)) (wrap64 (x8_1 + 1)) (wrap64 (x7_1 + 1)) x8_1 t208 (wrap64 (x13_4 + 1))) = some (r1, r2) := by first | (rw [hy218]; with_reducible exact H) | (have H2_ := (Option.bind_some _ _).symm.trans H; rw [hy218]; with_reducible exact H2_) | (have H2_ := (Option.bind_some _ _).symm.trans H; with_reducible exact H2_) | with_reducible exact H | (rw [hy218]; exact H) | exact H
                      have Ny218 := am hy218
                      clear hy218
                      have H' := am H
                      clear H
                      obtain ⟨Ao32, co32, eo32⟩ := Kd.R_slice HO_10.out
                      subst eo32
                      try go_wp2
                      replace HO_4 := am (Kd.R_drew HO_4.out)
                      replace HO_10 := am (Kd.R_drew HO_10.out)
                      replace HB := am (below_drew1 HB.out)
                      have p217 : 0 ≤ (x13_4 : Int) := dt
                      have q217 : x13_4 < (t208.length : Int) := dt
                      obtain ⟨ad217, e217, hx217_0⟩ := Kd.at_int (Kd.R_reads' HO_10.out).2.2 x13_4 p217 q217
                      cases e217
                      replace p217 := eq_true p217
                      replace q217 := eq_true q217
                      refine start_ (n := 9) (S := fun w' => w'.cell? (ad217.add (x13_4).toNat) = some (.int .i64 (rd t208 x13_4))) (ds := [8]) (bm 9 0) (by kernel_rfl) rfl (by kernel_rfl) (hx217_0) (fun hHeld => ?_); refine with_tabW spec_Assemble.tab21 spec_Assemble.bits21 (fun HT_ HW_ => ?_)
                      generalize wr.drew = w33 at HO_4 HO_10 HB hx217_0 hHeld ⊢
                      refine pw_ 0 (some 76) (bm 9 1) HT_ ?_
                      refine pw_ 1 (some 77) (bm 9 3) HT_ ?_
                      refine pw_ 3 (some 79) (bm 9 11) HT_ ?_
                      refine pw_ 4 (some 80) (bm 9 27) HT_ ?_
                      refine pw_ 5 (some 81) (bm 9 59) HT_ ?_
                      refine tw_ 6 (some 82) (bm 9 123) HT_ HW_ hHeld ?_
                      refine ow_ 2 (some 78) (bm 9 127) HT_ (fun K hK => ?_)
                      refine gw_ Try.func71 #[.int .i64 x5_4] ?_
                      with_reducible refine (spec_Byte.calls x5_4 t216 _ A27.out).mono ?_
                      rintro e w' ⟨rfl, ⟨nd, rfl⟩⟩
                      refine ⟨_, rfl, ?_⟩
                      have p31 : 0 ≤ (t216 : Int) := dt
                      have q31 : (t216 : Int) < ((x4_4.length : Int) : Int) := dt
                      obtain ⟨go31, co31, eo31, gb31, gl31, cl31, HG31⟩ := Kd.R_form HO_4.out (by omega)
                      (first | cases eo31 | (injection eo31 with ea_ en_ ec_; (first | subst ea_ | (injection ea_ with ea_; subst ea_)); subst ec_; clear en_))
                      have GB31 := am gb31
                      have GG31 := am HG31
                      clear gb31 gl31 HG31
                      obtain ⟨hx31_0, hf31_0⟩ := Kd.R_celln 0 HO_4.out (t216 : Int) p31 q31
                      replace p31 := eq_true p31
                      replace q31 := eq_true q31
                      have HP34 := Kd.R_putn HO_4.out (t216 : Int) (rd t208 x13_4)
                      rw [← Ny218.out] at HP34
                      have HQ34 := am HP34
                      clear HP34
                      refine hK.out _ _ (hHeld) (fun hHeld => ?_)
                      clear hK K
                      refine nw_ 78 ?_
                      refine pw_ 7 (some 83) (bm 9 255) HT_ ?_
                      refine last_ (i := 8) (N := none) (bm 9 511) rfl rfl (one_of HT_.out (by kernel_rfl)) (by decide) (fun K hK => ?_)
                      refine skip_ (w1 := ?_) (by rfl) rfl ?_ ?_
                      rotate_left
                      ·go_simp
                       rfl
                      refine hK.out _ _ ?_
                      clear hK K
                      refine done_ (done_of HT_.out (by kernel_rfl)) ?_
                      try go_wp2
                      go_roundg k4
                      case measure => have := HK1.out; have := HJ8.out; have := HJ22.out; have := HK4.out; omega
                      case rel => exact ⟨(y218), (wrap64 (x5_4 + 1)), (wrap64 (x13_4 + 1)), (by first | rfl | (simp; done) | (simp [*]; done)), (by first | rfl | (simp; done) | (simp [*]; done)), H', ⟨by have := HK1.out; have := HJ8.out; have := HJ22.out; have := HK4.out; omega⟩, ⟨kr HQ34.out⟩, ⟨by (with_reducible repeat (first | apply Kd.R_alloc | apply Kd.R_drewN | apply Kd.R_drew)); exact Kd.R_mono (Kd.R_far (p := ⟨go31, (t216 : Int).toNat, none⟩) (Kd.R_mono HO_10.out (fun k_ hk => (⟨hk, fun e_ => hk (by rw [e_]; rfl)⟩ : _ ∧ k_ ≠ go31))) (fun _ hk => hk.2) (.int .i64 (rd t208 x13_4))) (fun _ hk => hk.1)⟩, ⟨by repeat (first | (with_reducible first | exact HB.out | apply below_alloc | apply pw_below_drewN | apply below_drew1 | refine below_set ?_ GB31.out) | exact HB.out)⟩⟩
                     ·rw [if_neg c30] at H
                      exact absurd H (by simp)
                    ·rw [if_neg c29] at H
                     exact absurd H (by simp)
                   ·rw [if_neg c28] at H
                    exact absurd H (by simp)
                  ·rw [if_neg c26] at H
                   have c26b0 : decide (x13_4 < (t208.length : Int)) = false := decide_eq_false c26
                   clear c26
                   have H' := am H
                   clear H
                   obtain ⟨Ao35, co35, eo35⟩ := Kd.R_slice HO_10.out
                   subst eo35
                   go_wp2
                   go_roundg k4
                   case measure => have := HK1.out; have := HJ8.out; have := HJ22.out; have := HK4.out; omega
                   case rel => exact ⟨(x4_4), (x5_4), ((wrap64 (x8_1 + 1))), ((wrap64 (x7_1 + 1))), (wrap64 (x8_1 + 1)), (by first | rfl | (simp; done) | (simp [*]; done)), (by first | rfl | (simp; done) | (simp [*]; done)), (by first | rfl | (simp; done) | (simp [*]; done)), (by first | rfl | (simp; done) | (simp [*]; done)), H', ⟨by have := HK1.out; have := HJ8.out; have := HJ22.out; have := HK4.out; omega⟩, ⟨kr (Kd.R_mono HO_4.out (fun _ hk => trivial))⟩, ⟨bw HB.out⟩⟩
             ·replace c22 := Bool.eq_false_iff.mpr c22
              subst c22
              have H1 : (some ((([] : List Int)), wrap64 (x7_1 + 1))) = some (r1, r2) := by rw [if_neg (show ¬ (false = true) by decide)] at H; exact H
              clear H
              have H := H1
              clear H1
              obtain ⟨y213, hy213⟩ : ∃ y_ : List Int, y_ = (([] : List Int)) := ⟨_, rfl⟩
              replace H : (some (y213, wrap64 (x7_1 + 1))) = some (r1, r2) := by first | (rw [hy213]; with_reducible exact H) | (have H2_ := (Option.bind_some _ _).symm.trans H; rw [hy213]; with_reducible exact H2_) | (have H2_ := (Option.bind_some _ _).symm.trans H; with_reducible exact H2_) | with_reducible exact H | (rw [hy213]; exact H) | exact H
              have Ny213 := am hy213
              clear hy213
              simp only [Option.some.injEq, Prod.mk.injEq] at H
              obtain ⟨rfl, rfl⟩ := H
              go_wp2_with (first | ((with_reducible refine gate_callee (f := 118) rfl ?_); refine goesM_ (some 59) rfl rfl Try.func118 #[.string (a0.extract (x6_1 : Int).toNat (x8_1 : Int).toNat)] ?_; (with_reducible refine (spec_l4Bytes.calls kj8 (a0.extract (x6_1 : Int).toNat (x8_1 : Int).toNat) t208 t209 false _ A21.out).mono ?_); rintro e w36 ⟨v211, rfl, ho0, hb⟩; refine ⟨_, rfl, ?_⟩; have HO212 := am (Kd.R_lower (Kd.R_new' ho0 (Kd.R_lt (kr HO_4.out))) (below_size (bw HB.out))); replace HO_4 := am (Kd.R_elder' (kr HO_4.out) (Kd.R_base ho0) hb); replace HB := am (below_step (bw HB.out) hb); (try clear hb); (try clear hk); (try clear ho0)) | ((with_reducible refine gd 65 ?_); (try (refine gate_guard (by rfl) ?_; dsimp only)); refine Kd.R_lit (Kd.int .i64) _ 3 ?hg (N := 65) ?hd (xs := ([] : List Int)) (inner := []) (ok := fun _ => True) (okp := fun _ => True) ?hr ?hp (fun _ hk => hk) trivial (Below.refl _ _) (Nat.le_refl _) (by simp) ?_; (case hd => rfl); (case hg => rfl); (case hr => first | (go_simp; done) | (go_simp; rfl)); (case hp => exact (Reps.none _ _)); intro v214 w37 ho38 hb hg_ hnew_; clear hg_ hnew_; (first | rw [← Ny213.out] at ho38 | (simp only [Int.reduceToNat] at ho38; rw [← Ny213.out] at ho38)); have HO215 := am (Kd.R_lower (Kd.R_new' (Kd.R_new' ho38 (Kd.R_lt (kr HO_4.out))) (Kd.R_lt (kr HO212.out))) (below_size (bw HB.out))); replace HO_4 := am (Kd.R_elder' (kr HO_4.out) (Kd.R_base ho38) hb); replace HO212 := am (Kd.R_elder' (kr HO212.out) (Kd.R_base ho38) hb); replace HB := am (below_step (bw HB.out) hb); clear hb ho38))
              go_ret2
              exact ⟨_, rt, kr (Kd.R_mono HO215.out (fun _ hk => trivial)), bw HB.out⟩
           ·rw [if_neg c19] at H
            exact absurd H (by simp)
          ·rw [if_neg c18] at H
           exact absurd H (by simp)
         ·rw [if_neg c17] at H
          exact absurd H (by simp)
     ·rw [if_neg c8] at H
      have c8b0 : decide (x8_1 ≤ (a0.size : Int)) = false := decide_eq_false c8
      clear c8
      simp only [Option.some.injEq, Prod.mk.injEq] at H
      obtain ⟨rfl, rfl⟩ := H
      go_wp2
      go_ret2
      exact ⟨_, rt, kr HO_4.out, bw HB.out⟩
  ·rw [if_neg c5] at H
   exact absurd H (by simp)

/-! ### spec_l1Pick: function 119 -/
def spec_l1Pick.f (s0_0 : List Int) (s0_1 : Int) (s0_2 : Int) (l1 : List ByteArray) : Option (ByteArray × Int × Int) := (spec_l1Below.f s0_0 s0_1 s0_2 (l1.length : Int)).bind fun bt219 => (if 0 ≤ bt219.1 then (if bt219.1 < (l1.length : Int) then (some (rdOf ByteArray.empty l1 bt219.1, bt219.2.1, bt219.2.2)) else (none)) else (none))
theorem spec_l1Pick.calls (g : Nat) (s0_0 : List Int) (s0_1 : Int) (s0_2 : Int) (A1 : Option Addr) (c1 : Nat) (l1 : List ByteArray) (r1 : ByteArray) (r2 : Int) (r3 : Int) (w0 w : World) (hI : IsS107 w0 w g s0_0 s0_1 s0_2) (hB : Below w0.heap.size w0 w) (hr1 : Kd.C Kd.string w A1 l1.length l1) (hc1 : l1.length ≤ c1) (hf1 : ∀ ad, A1 = some ad → 0 < l1.length → ad.block ≠ g) (h : spec_l1Pick.f s0_0 s0_1 s0_2 l1 = some (r1, r2, r3)) :
  Calls Try.prog 119 #[.pointer (some ⟨g, 0, none⟩), .slice A1 l1.length c1] w fun e w' => e = .returned (.string r1) ∧ IsS107 w0 w' g s0_0 r2 r3 ∧ Below w0.heap.size w0 w' ∧ KeepBut w w' g none := by
 have HR1 := am hr1
 have HC1 := am hc1
 clear hr1 hc1
 have HI0 := am hI
 have HK := am (KeepBut.refl w g none)
 have HL := am hB.size
 clear hI
 have HW0 := am hB.size
 have HB := am hB
 clear hB
 have H : ((spec_l1Below.f s0_0 s0_1 s0_2 (l1.length : Int)).bind fun bt219 => (if 0 ≤ bt219.1 then (if bt219.1 < (l1.length : Int) then (some (rdOf ByteArray.empty l1 bt219.1, bt219.2.1, bt219.2.2)) else (none)) else (none))) = some (r1, r2, r3) := h
 clear h
 replace H := bs H
 obtain ⟨⟨t219, t220, t221⟩, A30, H⟩ := H
 replace H : (if 0 ≤ t219 then (if t219 < (l1.length : Int) then (some (rdOf ByteArray.empty l1 t219, t220, t221)) else (none)) else (none)) = some (r1, r2, r3) := H
 have A3 := am A30
 clear A30
 by_cases c4 : 0 ≤ t219
 ·rw [if_pos c4] at H
  have c4b0 : decide (0 ≤ t219) = true := decide_eq_true c4
  clear c4
  by_cases c5 : t219 < (l1.length : Int)
  ·rw [if_pos c5] at H
   have c5b0 : decide (t219 < (l1.length : Int)) = true := decide_eq_true c5
   clear c5
   simp only [Option.some.injEq, Prod.mk.injEq] at H
   obtain ⟨rfl, rfl, rfl⟩ := H
   go_enter Try.func119, Try.ntmps119
   go_wp2_with (first | ((with_reducible refine gate_callee (f := 60) rfl ?_); refine goesM_ (some 9) rfl rfl Try.func60 #[.pointer (some ⟨g, 0, none⟩), .int .i64 (l1.length : Int)] ?_; (with_reducible refine (spec_l1Below.calls g s0_0 s0_1 s0_2 (l1.length : Int) t219 t220 t221 w0 _ ?side1 ?side2 A3.out).mono ?_); (case side1 => exact si HI0.out); (case side2 => exact bi HB.out); rintro e w6 ⟨rfl, hi, hb, hk⟩; refine ⟨_, rfl, ?_⟩; replace HK := am (KeepBut.trans (kp HK.out) hk (.inl rfl)); replace HB := am (hb); replace HI0 := am (hi); (try clear hb); (try clear hk); (try clear hi); have p222 : 0 ≤ (t219 : Int) := dt; have q222 : t219 < (l1.length : Int) := dt; obtain ⟨ad222, e222, hx222_0⟩ := Kd.at_string HR1.out t219 p222 q222; cases e222; replace hx222_0 := keep_cell HK.out hx222_0 (by first | (rw [add_block]; exact hf1 _ rfl (by omega)) | exact hf1 _ rfl (by omega) | exact hf1 ad222 rfl (by omega)); replace p222 := eq_true p222; replace q222 := eq_true q222))
   go_ret
   exact ⟨rt, si HI0.out, bi HB.out, kp HK.out⟩
  ·rw [if_neg c5] at H
   exact absurd H (by simp)
 ·rw [if_neg c4] at H
  exact absurd H (by simp)

/-! ### spec_l2Main: function 107 -/
def spec_l2Main.f (s0_0 : List Int) (s0_1 : Int) (s0_2 : Int) : Option (ByteArray × Int × Int) := (spec_l1Pick.f s0_0 s0_1 s0_2 (([(⟨#[108, 100, 105, 32, 53, 10, 115, 116, 97, 32, 56, 49, 57, 51, 10, 108, 100, 105, 32, 49, 50, 56, 10, 115, 116, 97, 32, 56, 49, 57, 50, 10, 108, 100, 97, 32, 56, 49, 57, 52, 10, 115, 116, 97, 32, 49, 54, 10, 106, 109, 112, 32, 52, 57, 49, 54, 50, 10]⟩ : ByteArray), (⟨#[108, 100, 105, 32, 51, 10, 115, 116, 97, 32, 49, 54, 51, 56, 52, 10, 108, 100, 105, 32, 50, 10, 115, 116, 97, 32, 49, 54, 51, 56, 53, 10, 108, 100, 105, 32, 49, 10, 115, 116, 97, 32, 49, 54, 51, 56, 54, 10, 99, 108, 105, 10, 108, 100, 97, 32, 49, 54, 51, 56, 54, 10, 106, 109, 112, 32, 52, 57, 49, 54, 56, 10]⟩ : ByteArray), (⟨#[108, 100, 105, 32, 50, 10, 115, 116, 97, 32, 56, 49, 57, 53, 10, 105, 110, 120, 10, 116, 120, 97, 10, 115, 116, 97, 32, 56, 49, 57, 54, 10, 115, 116, 97, 32, 56, 49, 57, 55, 10, 108, 100, 97, 32, 56, 49, 57, 54, 10, 115, 116, 97, 32, 48, 10, 106, 109, 112, 32, 52, 57, 49, 53, 55, 10]⟩ : ByteArray), (⟨#[108, 100, 105, 32, 49, 10, 115, 116, 97, 32, 49, 54, 52, 48, 54, 10, 108, 100, 105, 32, 48, 10, 115, 116, 97, 32, 49, 54, 52, 48, 54, 10, 108, 100, 97, 32, 49, 54, 52, 48, 54, 10, 112, 104, 97, 10, 108, 100, 97, 32, 49, 54, 52, 48, 54, 10, 112, 108, 97, 10, 106, 109, 112, 32, 52, 57, 49, 54, 50, 10]⟩ : ByteArray), (⟨#[105, 110, 120, 10, 116, 120, 97, 10, 115, 116, 97, 32, 51, 50, 55, 54, 56, 10, 108, 100, 97, 32, 51, 50, 55, 55, 48, 10, 115, 116, 97, 32, 56, 49, 57, 51, 10, 106, 109, 112, 32, 52, 57, 49, 53, 50, 10]⟩ : ByteArray), (⟨#[108, 100, 105, 32, 49, 50, 56, 10, 115, 116, 97, 32, 56, 49, 57, 50, 10, 108, 100, 105, 32, 55, 10, 115, 116, 97, 32, 49, 54, 51, 56, 53, 10, 108, 100, 105, 32, 49, 10, 115, 116, 97, 32, 49, 54, 51, 56, 54, 10, 99, 108, 105, 10, 106, 115, 114, 32, 52, 57, 51, 48, 48, 10, 106, 109, 112, 32, 52, 57, 49, 54, 56, 10]⟩ : ByteArray), (⟨#[108, 100, 105, 32, 57, 10, 115, 101, 99, 10, 115, 98, 105, 32, 49, 10, 98, 110, 101, 32, 52, 57, 49, 53, 52, 10, 115, 116, 97, 32, 56, 49, 57, 51, 10, 106, 109, 112, 32, 52, 57, 49, 53, 50, 10]⟩ : ByteArray)] : List ByteArray))).bind fun bt226 => (if bt226.1.size + 125 ≤ 9223372036854775807 then (some (bt226.1 ++ (⟨#[97, 116, 32, 49, 52, 56, 10, 105, 110, 120, 10, 116, 120, 97, 10, 115, 116, 97, 32, 56, 49, 57, 55, 10, 114, 116, 115, 10, 97, 116, 32, 49, 50, 56, 10, 112, 104, 97, 10, 108, 100, 97, 32, 56, 49, 57, 52, 10, 97, 100, 105, 32, 49, 10, 115, 116, 97, 32, 56, 49, 57, 51, 10, 112, 108, 97, 10, 114, 116, 105, 10, 97, 116, 32, 49, 54, 48, 10, 115, 116, 97, 32, 49, 54, 51, 56, 55, 10, 108, 100, 97, 32, 49, 54, 51, 56, 54, 10, 115, 116, 97, 32, 49, 55, 10, 108, 100, 105, 32, 50, 10, 115, 116, 97, 32, 49, 54, 51, 56, 53, 10, 114, 116, 105, 10]⟩ : ByteArray), bt226.2.1, bt226.2.2)) else (none))
theorem spec_l2Main.calls (g : Nat) (s0_0 : List Int) (s0_1 : Int) (s0_2 : Int) (r1 : ByteArray) (r2 : Int) (r3 : Int) (w0 w : World) (hI : IsS107 w0 w g s0_0 s0_1 s0_2) (hB : Below w0.heap.size w0 w) (h : spec_l2Main.f s0_0 s0_1 s0_2 = some (r1, r2, r3)) :
  Calls Try.prog 107 #[.pointer (some ⟨g, 0, none⟩)] w fun e w' => e = .returned (.string r1) ∧ IsS107 w0 w' g s0_0 r2 r3 ∧ Below w0.heap.size w0 w' ∧ KeepBut w w' g none := by
 have HI0 := am hI
 have HK := am (KeepBut.refl w g none)
 have HL := am hB.size
 clear hI
 have HW0 := am hB.size
 have HB := am hB
 clear hB
 have H : ((spec_l1Pick.f s0_0 s0_1 s0_2 (([(⟨#[108, 100, 105, 32, 53, 10, 115, 116, 97, 32, 56, 49, 57, 51, 10, 108, 100, 105, 32, 49, 50, 56, 10, 115, 116, 97, 32, 56, 49, 57, 50, 10, 108, 100, 97, 32, 56, 49, 57, 52, 10, 115, 116, 97, 32, 49, 54, 10, 106, 109, 112, 32, 52, 57, 49, 54, 50, 10]⟩ : ByteArray), (⟨#[108, 100, 105, 32, 51, 10, 115, 116, 97, 32, 49, 54, 51, 56, 52, 10, 108, 100, 105, 32, 50, 10, 115, 116, 97, 32, 49, 54, 51, 56, 53, 10, 108, 100, 105, 32, 49, 10, 115, 116, 97, 32, 49, 54, 51, 56, 54, 10, 99, 108, 105, 10, 108, 100, 97, 32, 49, 54, 51, 56, 54, 10, 106, 109, 112, 32, 52, 57, 49, 54, 56, 10]⟩ : ByteArray), (⟨#[108, 100, 105, 32, 50, 10, 115, 116, 97, 32, 56, 49, 57, 53, 10, 105, 110, 120, 10, 116, 120, 97, 10, 115, 116, 97, 32, 56, 49, 57, 54, 10, 115, 116, 97, 32, 56, 49, 57, 55, 10, 108, 100, 97, 32, 56, 49, 57, 54, 10, 115, 116, 97, 32, 48, 10, 106, 109, 112, 32, 52, 57, 49, 53, 55, 10]⟩ : ByteArray), (⟨#[108, 100, 105, 32, 49, 10, 115, 116, 97, 32, 49, 54, 52, 48, 54, 10, 108, 100, 105, 32, 48, 10, 115, 116, 97, 32, 49, 54, 52, 48, 54, 10, 108, 100, 97, 32, 49, 54, 52, 48, 54, 10, 112, 104, 97, 10, 108, 100, 97, 32, 49, 54, 52, 48, 54, 10, 112, 108, 97, 10, 106, 109, 112, 32, 52, 57, 49, 54, 50, 10]⟩ : ByteArray), (⟨#[105, 110, 120, 10, 116, 120, 97, 10, 115, 116, 97, 32, 51, 50, 55, 54, 56, 10, 108, 100, 97, 32, 51, 50, 55, 55, 48, 10, 115, 116, 97, 32, 56, 49, 57, 51, 10, 106, 109, 112, 32, 52, 57, 49, 53, 50, 10]⟩ : ByteArray), (⟨#[108, 100, 105, 32, 49, 50, 56, 10, 115, 116, 97, 32, 56, 49, 57, 50, 10, 108, 100, 105, 32, 55, 10, 115, 116, 97, 32, 49, 54, 51, 56, 53, 10, 108, 100, 105, 32, 49, 10, 115, 116, 97, 32, 49, 54, 51, 56, 54, 10, 99, 108, 105, 10, 106, 115, 114, 32, 52, 57, 51, 48, 48, 10, 106, 109, 112, 32, 52, 57, 49, 54, 56, 10]⟩ : ByteArray), (⟨#[108, 100, 105, 32, 57, 10, 115, 101, 99, 10, 115, 98, 105, 32, 49, 10, 98, 110, 101, 32, 52, 57, 49, 53, 52, 10, 115, 116, 97, 32, 56, 49, 57, 51, 10, 106, 109, 112, 32, 52, 57, 49, 53, 50, 10]⟩ : ByteArray)] : List ByteArray))).bind fun bt226 => (if bt226.1.size + 125 ≤ 9223372036854775807 then (some (bt226.1 ++ (⟨#[97, 116, 32, 49, 52, 56, 10, 105, 110, 120, 10, 116, 120, 97, 10, 115, 116, 97, 32, 56, 49, 57, 55, 10, 114, 116, 115, 10, 97, 116, 32, 49, 50, 56, 10, 112, 104, 97, 10, 108, 100, 97, 32, 56, 49, 57, 52, 10, 97, 100, 105, 32, 49, 10, 115, 116, 97, 32, 56, 49, 57, 51, 10, 112, 108, 97, 10, 114, 116, 105, 10, 97, 116, 32, 49, 54, 48, 10, 115, 116, 97, 32, 49, 54, 51, 56, 55, 10, 108, 100, 97, 32, 49, 54, 51, 56, 54, 10, 115, 116, 97, 32, 49, 55, 10, 108, 100, 105, 32, 50, 10, 115, 116, 97, 32, 49, 54, 51, 56, 53, 10, 114, 116, 105, 10]⟩ : ByteArray), bt226.2.1, bt226.2.2)) else (none))) = some (r1, r2, r3) := h
 clear h
 obtain ⟨y223, hy223⟩ : ∃ y_ : List ByteArray, y_ = (([(⟨#[108, 100, 105, 32, 53, 10, 115, 116, 97, 32, 56, 49, 57, 51, 10, 108, 100, 105, 32, 49, 50, 56, 10, 115, 116, 97, 32, 56, 49, 57, 50, 10, 108, 100, 97, 32, 56, 49, 57, 52, 10, 115, 116, 97, 32, 49, 54, 10, 106, 109, 112, 32, 52, 57, 49, 54, 50, 10]⟩ : ByteArray), (⟨#[108, 100, 105, 32, 51, 10, 115, 116, 97, 32, 49, 54, 51, 56, 52, 10, 108, 100, 105, 32, 50, 10, 115, 116, 97, 32, 49, 54, 51, 56, 53, 10, 108, 100, 105, 32, 49, 10, 115, 116, 97, 32, 49, 54, 51, 56, 54, 10, 99, 108, 105, 10, 108, 100, 97, 32, 49, 54, 51, 56, 54, 10, 106, 109, 112, 32, 52, 57, 49, 54, 56, 10]⟩ : ByteArray), (⟨#[108, 100, 105, 32, 50, 10, 115, 116, 97, 32, 56, 49, 57, 53, 10, 105, 110, 120, 10, 116, 120, 97, 10, 115, 116, 97, 32, 56, 49, 57, 54, 10, 115, 116, 97, 32, 56, 49, 57, 55, 10, 108, 100, 97, 32, 56, 49, 57, 54, 10, 115, 116, 97, 32, 48, 10, 106, 109, 112, 32, 52, 57, 49, 53, 55, 10]⟩ : ByteArray), (⟨#[108, 100, 105, 32, 49, 10, 115, 116, 97, 32, 49, 54, 52, 48, 54, 10, 108, 100, 105, 32, 48, 10, 115, 116, 97, 32, 49, 54, 52, 48, 54, 10, 108, 100, 97, 32, 49, 54, 52, 48, 54, 10, 112, 104, 97, 10, 108, 100, 97, 32, 49, 54, 52, 48, 54, 10, 112, 108, 97, 10, 106, 109, 112, 32, 52, 57, 49, 54, 50, 10]⟩ : ByteArray), (⟨#[105, 110, 120, 10, 116, 120, 97, 10, 115, 116, 97, 32, 51, 50, 55, 54, 56, 10, 108, 100, 97, 32, 51, 50, 55, 55, 48, 10, 115, 116, 97, 32, 56, 49, 57, 51, 10, 106, 109, 112, 32, 52, 57, 49, 53, 50, 10]⟩ : ByteArray), (⟨#[108, 100, 105, 32, 49, 50, 56, 10, 115, 116, 97, 32, 56, 49, 57, 50, 10, 108, 100, 105, 32, 55, 10, 115, 116, 97, 32, 49, 54, 51, 56, 53, 10, 108, 100, 105, 32, 49, 10, 115, 116, 97, 32, 49, 54, 51, 56, 54, 10, 99, 108, 105, 10, 106, 115, 114, 32, 52, 57, 51, 48, 48, 10, 106, 109, 112, 32, 52, 57, 49, 54, 56, 10]⟩ : ByteArray), (⟨#[108, 100, 105, 32, 57, 10, 115, 101, 99, 10, 115, 98, 105, 32, 49, 10, 98, 110, 101, 32, 52, 57, 49, 53, 52, 10, 115, 116, 97, 32, 56, 49, 57, 51, 10, 106, 109, 112, 32, 52, 57, 49, 53, 50, 10]⟩ : ByteArray)] : List ByteArray)) := ⟨_, rfl⟩
 replace H : ((spec_l1Pick.f s0_0 s0_1 s0_2 y223).bind fun bt226 => (if bt226.1.size + 125 ≤ 9223372036854775807 then (some (bt226.1 ++ (⟨#[97, 116, 32, 49, 52, 56, 10, 105, 110, 120, 10, 116, 120, 97, 10, 115, 116, 97, 32, 56, 49, 57, 55, 10, 114, 116, 115, 10, 97, 116, 32, 49, 50, 56, 10, 112, 104, 97, 10, 108, 100, 97, 32, 56, 49, 57, 52, 10, 97, 100, 105, 32, 49, 10, 115, 116, 97, 32, 56, 49, 57, 51, 10, 112, 108, 97, 10, 114, 116, 105, 10, 97, 116, 32, 49, 54, 48, 10, 115, 116, 97, 32, 49, 54, 51, 56, 55, 10, 108, 100, 97, 32, 49, 54, 51, 56, 54, 10, 115, 116, 97, 32, 49, 55, 10, 108, 100, 105, 32, 50, 10, 115, 116, 97, 32, 49, 54, 51, 56, 53, 10, 114, 116, 105, 10]⟩ : ByteArray), bt226.2.1, bt226.2.2)) else (none))) = some (r1, r2, r3) := by first | (rw [hy223]; with_reducible exact H) | (have H2_ := (Option.bind_some _ _).symm.trans H; rw [hy223]; with_reducible exact H2_) | (have H2_ := (Option.bind_some _ _).symm.trans H; with_reducible exact H2_) | with_reducible exact H | (rw [hy223]; exact H) | exact H
 have Ny223 := am hy223
 clear hy223
 replace H := bs H
 obtain ⟨⟨t226, t227, t228⟩, A20, H⟩ := H
 replace H : (if t226.size + 125 ≤ 9223372036854775807 then (some (t226 ++ (⟨#[97, 116, 32, 49, 52, 56, 10, 105, 110, 120, 10, 116, 120, 97, 10, 115, 116, 97, 32, 56, 49, 57, 55, 10, 114, 116, 115, 10, 97, 116, 32, 49, 50, 56, 10, 112, 104, 97, 10, 108, 100, 97, 32, 56, 49, 57, 52, 10, 97, 100, 105, 32, 49, 10, 115, 116, 97, 32, 56, 49, 57, 51, 10, 112, 108, 97, 10, 114, 116, 105, 10, 97, 116, 32, 49, 54, 48, 10, 115, 116, 97, 32, 49, 54, 51, 56, 55, 10, 108, 100, 97, 32, 49, 54, 51, 56, 54, 10, 115, 116, 97, 32, 49, 55, 10, 108, 100, 105, 32, 50, 10, 115, 116, 97, 32, 49, 54, 51, 56, 53, 10, 114, 116, 105, 10]⟩ : ByteArray), t227, t228)) else (none)) = some (r1, r2, r3) := H
 have A2 := am A20
 clear A20
 by_cases c3 : t226.size + 125 ≤ 9223372036854775807
 ·rw [if_pos c3] at H
  have c3b0 := eq_true c3
  have c3b1 : decide (t226.size + 125 ≤ 9223372036854775807) = true := decide_eq_true c3
  try have c3b2 : (9223372036854775807 < t226.size + 125) = False := eq_false (Nat.not_lt.2 c3)
  simp only [Option.some.injEq, Prod.mk.injEq] at H
  obtain ⟨rfl, rfl, rfl⟩ := H
  go_enter Try.func107, Try.ntmps107
  go_wp2_with (first | ((with_reducible refine gd 5 ?_); refine Kd.R_lit Kd.string _ 9 ?hg (N := 5) ?hd (xs := ([(⟨#[108, 100, 105, 32, 53, 10, 115, 116, 97, 32, 56, 49, 57, 51, 10, 108, 100, 105, 32, 49, 50, 56, 10, 115, 116, 97, 32, 56, 49, 57, 50, 10, 108, 100, 97, 32, 56, 49, 57, 52, 10, 115, 116, 97, 32, 49, 54, 10, 106, 109, 112, 32, 52, 57, 49, 54, 50, 10]⟩ : ByteArray), (⟨#[108, 100, 105, 32, 51, 10, 115, 116, 97, 32, 49, 54, 51, 56, 52, 10, 108, 100, 105, 32, 50, 10, 115, 116, 97, 32, 49, 54, 51, 56, 53, 10, 108, 100, 105, 32, 49, 10, 115, 116, 97, 32, 49, 54, 51, 56, 54, 10, 99, 108, 105, 10, 108, 100, 97, 32, 49, 54, 51, 56, 54, 10, 106, 109, 112, 32, 52, 57, 49, 54, 56, 10]⟩ : ByteArray), (⟨#[108, 100, 105, 32, 50, 10, 115, 116, 97, 32, 56, 49, 57, 53, 10, 105, 110, 120, 10, 116, 120, 97, 10, 115, 116, 97, 32, 56, 49, 57, 54, 10, 115, 116, 97, 32, 56, 49, 57, 55, 10, 108, 100, 97, 32, 56, 49, 57, 54, 10, 115, 116, 97, 32, 48, 10, 106, 109, 112, 32, 52, 57, 49, 53, 55, 10]⟩ : ByteArray), (⟨#[108, 100, 105, 32, 49, 10, 115, 116, 97, 32, 49, 54, 52, 48, 54, 10, 108, 100, 105, 32, 48, 10, 115, 116, 97, 32, 49, 54, 52, 48, 54, 10, 108, 100, 97, 32, 49, 54, 52, 48, 54, 10, 112, 104, 97, 10, 108, 100, 97, 32, 49, 54, 52, 48, 54, 10, 112, 108, 97, 10, 106, 109, 112, 32, 52, 57, 49, 54, 50, 10]⟩ : ByteArray), (⟨#[105, 110, 120, 10, 116, 120, 97, 10, 115, 116, 97, 32, 51, 50, 55, 54, 56, 10, 108, 100, 97, 32, 51, 50, 55, 55, 48, 10, 115, 116, 97, 32, 56, 49, 57, 51, 10, 106, 109, 112, 32, 52, 57, 49, 53, 50, 10]⟩ : ByteArray), (⟨#[108, 100, 105, 32, 49, 50, 56, 10, 115, 116, 97, 32, 56, 49, 57, 50, 10, 108, 100, 105, 32, 55, 10, 115, 116, 97, 32, 49, 54, 51, 56, 53, 10, 108, 100, 105, 32, 49, 10, 115, 116, 97, 32, 49, 54, 51, 56, 54, 10, 99, 108, 105, 10, 106, 115, 114, 32, 52, 57, 51, 48, 48, 10, 106, 109, 112, 32, 52, 57, 49, 54, 56, 10]⟩ : ByteArray), (⟨#[108, 100, 105, 32, 57, 10, 115, 101, 99, 10, 115, 98, 105, 32, 49, 10, 98, 110, 101, 32, 52, 57, 49, 53, 52, 10, 115, 116, 97, 32, 56, 49, 57, 51, 10, 106, 109, 112, 32, 52, 57, 49, 53, 50, 10]⟩ : ByteArray)] : List ByteArray)) (inner := [.string (⟨#[108, 100, 105, 32, 53, 10, 115, 116, 97, 32, 56, 49, 57, 51, 10, 108, 100, 105, 32, 49, 50, 56, 10, 115, 116, 97, 32, 56, 49, 57, 50, 10, 108, 100, 97, 32, 56, 49, 57, 52, 10, 115, 116, 97, 32, 49, 54, 10, 106, 109, 112, 32, 52, 57, 49, 54, 50, 10]⟩ : ByteArray), .string (⟨#[108, 100, 105, 32, 51, 10, 115, 116, 97, 32, 49, 54, 51, 56, 52, 10, 108, 100, 105, 32, 50, 10, 115, 116, 97, 32, 49, 54, 51, 56, 53, 10, 108, 100, 105, 32, 49, 10, 115, 116, 97, 32, 49, 54, 51, 56, 54, 10, 99, 108, 105, 10, 108, 100, 97, 32, 49, 54, 51, 56, 54, 10, 106, 109, 112, 32, 52, 57, 49, 54, 56, 10]⟩ : ByteArray), .string (⟨#[108, 100, 105, 32, 50, 10, 115, 116, 97, 32, 56, 49, 57, 53, 10, 105, 110, 120, 10, 116, 120, 97, 10, 115, 116, 97, 32, 56, 49, 57, 54, 10, 115, 116, 97, 32, 56, 49, 57, 55, 10, 108, 100, 97, 32, 56, 49, 57, 54, 10, 115, 116, 97, 32, 48, 10, 106, 109, 112, 32, 52, 57, 49, 53, 55, 10]⟩ : ByteArray), .string (⟨#[108, 100, 105, 32, 49, 10, 115, 116, 97, 32, 49, 54, 52, 48, 54, 10, 108, 100, 105, 32, 48, 10, 115, 116, 97, 32, 49, 54, 52, 48, 54, 10, 108, 100, 97, 32, 49, 54, 52, 48, 54, 10, 112, 104, 97, 10, 108, 100, 97, 32, 49, 54, 52, 48, 54, 10, 112, 108, 97, 10, 106, 109, 112, 32, 52, 57, 49, 54, 50, 10]⟩ : ByteArray), .string (⟨#[105, 110, 120, 10, 116, 120, 97, 10, 115, 116, 97, 32, 51, 50, 55, 54, 56, 10, 108, 100, 97, 32, 51, 50, 55, 55, 48, 10, 115, 116, 97, 32, 56, 49, 57, 51, 10, 106, 109, 112, 32, 52, 57, 49, 53, 50, 10]⟩ : ByteArray), .string (⟨#[108, 100, 105, 32, 49, 50, 56, 10, 115, 116, 97, 32, 56, 49, 57, 50, 10, 108, 100, 105, 32, 55, 10, 115, 116, 97, 32, 49, 54, 51, 56, 53, 10, 108, 100, 105, 32, 49, 10, 115, 116, 97, 32, 49, 54, 51, 56, 54, 10, 99, 108, 105, 10, 106, 115, 114, 32, 52, 57, 51, 48, 48, 10, 106, 109, 112, 32, 52, 57, 49, 54, 56, 10]⟩ : ByteArray), .string (⟨#[108, 100, 105, 32, 57, 10, 115, 101, 99, 10, 115, 98, 105, 32, 49, 10, 98, 110, 101, 32, 52, 57, 49, 53, 52, 10, 115, 116, 97, 32, 56, 49, 57, 51, 10, 106, 109, 112, 32, 52, 57, 49, 53, 50, 10]⟩ : ByteArray)]) (ok := fun _ => True) (okp := fun _ => True) ?hr ?hp (fun _ hk => hk) trivial (Below.refl _ _) (Nat.le_refl _) (by simp) ?_; (case hd => rfl); (case hg => rfl); (case hr => first | (go_simp; done) | (go_simp; rfl)); (case hp => exact (reS _)); intro v224 w4 ho5 hb hg_ hnew_; clear hg_ hnew_; (first | rw [← Ny223.out] at ho5 | (simp only [Int.reduceToNat] at ho5; rw [← Ny223.out] at ho5)); have HO225 := am (Kd.R_lower ho5 (keep_size (w := w) (g := g) (row := none) (kp HK.out))); replace HI0 := am (IsS107.below (si HI0.out) hb); replace HK := am (KeepBut.trans (kp HK.out) (KeepBut.of_below hb g none) (.inl rfl)); replace HB := am (below_step (bi HB.out) hb); clear hb ho5; obtain ⟨Ao6, co6, eo6⟩ := Kd.R_slice HO225.out; subst eo6) | ((with_reducible refine gate_callee (f := 119) rfl ?_); refine goesM_ (some 6) rfl rfl Try.func119 #[.pointer (some ⟨g, 0, none⟩), .slice Ao6 y223.length co6] ?_; (with_reducible refine (spec_l1Pick.calls g s0_0 s0_1 s0_2 _ _ y223 t226 t227 t228 w0 _ ?side1 ?side2 ?side3 ?side4 ?side5 A2.out).mono ?_); (case side1 => exact si HI0.out); (case side2 => exact bi HB.out); (case side3 => exact kc (Kd.R_reads' HO225.out).2.2); (case side4 => exact (Kd.R_reads' HO225.out).2.1); (case side5 => exact far_slice (IsS107.own_ne HI0.out HO225.out (by decide))); rintro e w7 ⟨rfl, hi, hb, hk⟩; refine ⟨_, rfl, ?_⟩; replace HO225 := am (Kd.R_mono (Kd.R_keep (IsS107.apart (show IsS107 w0 _ g s0_0 s0_1 s0_2 from si HI0.out) (kr HO225.out) (by decide)) hk (fun _ h => h.2)) (fun _ h => h.1)); replace HK := am (KeepBut.trans (kp HK.out) hk (.inl rfl)); replace HB := am (hb); replace HI0 := am (hi); (try clear hb); (try clear hk); (try clear hi)))
  go_ret
  exact ⟨rt, si HI0.out, bi HB.out, kp HK.out⟩
 ·rw [if_neg c3] at H
  exact absurd H (by simp)

/-! ### spec_l2DrawRight: function 69 -/
def last6 (r : List Int) : List Int := (((((r.set 250 128).set 251 192).set 252 0).set 253 192).set 254 160).set 255 192
/-- The last bank, with what stands at its end. -/
def lastSix (x : List (List Int)) (i : Int) : List (List Int) := x.set i.toNat (last6 (rd_L3 x i))
def six (W : World) (g : Nat) : World := (((((W.setCell ⟨g, 250, none⟩ (.int .i64 128)).setCell ⟨g, 251, none⟩ (.int .i64 192)).setCell ⟨g, 252, none⟩ (.int .i64 0)).setCell ⟨g, 253, none⟩ (.int .i64 192)).setCell ⟨g, 254, none⟩ (.int .i64 160)).setCell ⟨g, 255, none⟩ (.int .i64 192)
theorem six_heap (W : World) (g k : Nat) (h : k ≠ g) : (six W g).heap[k]? = W.heap[k]? := by
 unfold six
 refine (Below.heap_setCell _ _ _ k h).trans ?_
 refine (Below.heap_setCell _ _ _ k h).trans ?_
 refine (Below.heap_setCell _ _ _ k h).trans ?_
 refine (Below.heap_setCell _ _ _ k h).trans ?_
 refine (Below.heap_setCell _ _ _ k h).trans ?_
 exact Below.heap_setCell _ _ _ k h
theorem six_below {B : World} {W : World} {g : Nat} (h : Below B.heap.size B W) (hg : B.heap.size ≤ g) : Below B.heap.size B (six W g) := below_set (below_set (below_set (below_set (below_set (below_set h hg) hg) hg) hg) hg) hg
theorem six_blk {W : World} {g b : Nat} {t : TypeId} {cs : Array Value} (h : W.heap[b]? = some (.cells cs t (0, 0))) (hne : b ≠ g) : (six W g).heap[b]? = some (.cells cs t (0, 0)) := (six_heap W g b hne).trans h
theorem six_keep {w W : World} {g gl : Nat} {row : Option Nat} (h : KeepBut w W g row) (hg : w.heap.size ≤ gl) : KeepBut w (six W gl) g row := keep_far (keep_far (keep_far (keep_far (keep_far (keep_far h hg _) hg _) hg _) hg _) hg _) hg _
theorem six_ok {W : World} {base : Nat} {ok : Nat → Prop} {ad : Addr} {n cap : Nat} {X : List (List Int)} (h : Kd.S (Kd.slice 3 (Kd.int .i64)) 30 W base ok (.slice (some ad) n cap) X) (i : Int) (h0 : 0 ≤ i) (h1 : i < (X.length : Int)) {A : Option Addr} {c : Nat}
  (hx : W.cell? (ad.add i.toNat) = some (.slice A (rd_L3 X i).length c)) (h256 : (rd_L3 X i).length = 256) :
  ∃ gl, A = some ⟨gl, 0, none⟩ ∧ base ≤ gl ∧ (∃ cells, W.heap[gl]? = some (.cells cells 3 (0, 0))) ∧ (∀ j : Nat, j < 256 → W.cell? ⟨gl, j, none⟩ = some (.int .i64 (rdOf 0 (rd_L3 X i) (j : Int))) ∧ W.frozen? ⟨gl, j, none⟩ = false) ∧
   Kd.S (Kd.slice 3 (Kd.int .i64)) 30 (six W gl) base ok (.slice (some ad) n cap) (lastSix X i) := by
 obtain ⟨go, rfl⟩ := Kd.R_head (Kd.S_R h)
 have hn := (Kd.S_reads' h).1
 obtain ⟨oki, cc, hcl, hM, hcc, hoki, hH⟩ := Kd.S_lend h [] i h0 (by omega)
 obtain ⟨v, rfl, hR⟩ : ∃ v, cc = [v] ∧ Kd.R (Kd.int .i64) 3 W base oki v (X.getD i.toNat []) := hM
 have hv := hcc 0 v rfl
 rw [add_plain] at hx
 have e1 : i.toNat * (Kd.slice 3 (Kd.int .i64)).sz + 0 = i.toNat := Nat.mul_one _
 rw [e1, hx] at hv
 obtain rfl := oj hv
 have e2 : X.getD i.toNat [] = rd_L3 X i := rfl
 rw [e2] at hR
 obtain ⟨gl, cap', e3, hg, hgl, hcells⟩ := Kd.R_form hR (by omega)
 obtain ⟨rfl, _, rfl⟩ : A = some ⟨gl, 0, none⟩ ∧ True ∧ c = cap' := by
  injection e3 with a1 a2 a3
  exact ⟨a1, trivial, a3⟩
 have hok : oki gl := hR.1 gl rfl
 refine ⟨gl, rfl, hg, hcells, fun j j1 => Kd.R_celln 0 hR (j : Int) (by omega) (by omega), ?_⟩
 have r6 : Kd.R (Kd.int .i64) 3 (six W gl) base oki (.slice (some ⟨gl, 0, none⟩) (rd_L3 X i).length c) (last6 (rd_L3 X i)) := by
  unfold six last6
  exact Kd.R_putn (Kd.R_putn (Kd.R_putn (Kd.R_putn (Kd.R_putn (Kd.R_putn hR 250 128) 251 192) 252 0) 253 192) 254 160) 255 192
 exact Kd.H_back (Kd.H_step hH (fun k _ hn _ => six_heap W gl k (fun e => hn (e ▸ hok)))) ⟨_, rfl, r6⟩ (fun _ hk => hk)
theorem six_state {w0 W : World} {g gl : Nat} {f0 : List Int} {f1 f2 : Int} (h : IsS107 w0 W g f0 f1 f2) (hne : g ≠ gl) : IsS107 w0 (six W gl) g f0 f1 f2 :=
 (((((h.far (p := ⟨gl, 250, none⟩) hne _).far (p := ⟨gl, 251, none⟩) hne _).far (p := ⟨gl, 252, none⟩) hne _).far (p := ⟨gl, 253, none⟩) hne _).far (p := ⟨gl, 254, none⟩) hne _).far (p := ⟨gl, 255, none⟩) hne _
def spec_l2DrawRight.l0 : Nat → Int → Int → List Int → Int → Int → List (List Int) → Option ((List (List Int)) × Int × Int)
 | 0, _, _, _, _, _, _ => none
 | k + 1, x4, x5, x1000, x1001, x1002, x231000 => if x5 < x4 then ((spec_l2DrawBank.f k x1000 x1001 x1002).bind fun bt234 => (if x231000.length < 5864062014805 then (spec_l2DrawRight.l0 k x4 (wrap64 (x5 + 1)) x1000 bt234.2.1 bt234.2.2 (x231000 ++ [bt234.1])) else (none))) else ((spec_l1Once.f x1000 x1001 x1002 4).bind fun bt242 => (if bt242.1 = true then (if 0 ≤ (wrap64 (x4 - 1)) then (if (wrap64 (x4 - 1)) < (x231000.length : Int) then (if (rd_L3 x231000 (wrap64 (x4 - 1))).length = 256 then (some (lastSix x231000 (wrap64 (x4 - 1)), bt242.2.1, bt242.2.2)) else (none)) else (none)) else (none)) else ((spec_l2Main.f x1000 bt242.2.1 bt242.2.2).bind fun bt246 => ((spec_Assemble.f k bt246.1).bind fun bt249 => (if (bt249.1.length : Int) = 256 then (if 0 ≤ (wrap64 (x4 - 1)) then (if (wrap64 (x4 - 1)) < (x231000.length : Int) then (if (rd_L3 (x231000.set ((wrap64 (x4 - 1)) : Int).toNat bt249.1) (wrap64 (x4 - 1))).length = 256 then (some (lastSix (x231000.set ((wrap64 (x4 - 1)) : Int).toNat bt249.1) (wrap64 (x4 - 1)), bt246.2.1, bt246.2.2)) else (none)) else (none)) else (none)) else (if 0 ≤ (wrap64 (x4 - 1)) then (if (wrap64 (x4 - 1)) < (x231000.length : Int) then (if (rd_L3 x231000 (wrap64 (x4 - 1))).length = 256 then (some (lastSix x231000 (wrap64 (x4 - 1)), bt246.2.1, bt246.2.2)) else (none)) else (none)) else (none)))))))
def spec_l2DrawRight.f (k : Nat) (s0_0 : List Int) (s0_1 : Int) (s0_2 : Int) : Option ((List (List Int)) × Int × Int) := (spec_l1Below.f s0_0 s0_1 s0_2 3).bind fun bt231 => (spec_l2DrawRight.l0 k (wrap64 (1 + bt231.1)) 0 s0_0 bt231.2.1 bt231.2.2 ([] : List (List Int)))
def spec_l2DrawRight.T6 : Bool × List (List Nat × List Nat) := (true, [([], []), ([0], [0]), ([], []), ([2], [2]), ([3], [3]), ([1, 4, 3], [1, 4]), ([0, 1, 2, 3, 4, 5], []), ([6, 5, 5, 0, 1, 2, 3, 4, 5], [5, 6])])
def spec_l2DrawRight.B6 : List Nat := [0, 1, 0, 4, 12, 31, 63, 127]
theorem spec_l2DrawRight.tab6 : rtab .any (opsOf Try.f69 6) = spec_l2DrawRight.T6 := by kernel_rfl
theorem spec_l2DrawRight.bits6 : waitsOk spec_l2DrawRight.T6.2 spec_l2DrawRight.B6 = true := by kernel_rfl
theorem spec_l2DrawRight.calls (k : Nat) (g : Nat) (s0_0 : List Int) (s0_1 : Int) (s0_2 : Int) (r1 : List (List Int)) (r2 : Int) (r3 : Int) (w0 w : World) (hI : IsS107 w0 w g s0_0 s0_1 s0_2) (hB : Below w0.heap.size w0 w) (h : spec_l2DrawRight.f k s0_0 s0_1 s0_2 = some (r1, r2, r3)) :
  Calls Try.prog 69 #[.pointer (some ⟨g, 0, none⟩)] w fun e w' => ∃ v0_ : Value, e = .returned (.agg #[v0_]) ∧ Kd.S (Kd.slice 3 (Kd.int .i64)) 30 w' w.heap.size (fun _ => True) v0_ r1 ∧ IsS107 w0 w' g s0_0 r2 r3 ∧ Below w0.heap.size w0 w' ∧ KeepBut w w' g none := by
 have hu29 := Try.underlying29
 have HI0 := am hI
 have HK := am (KeepBut.refl w g none)
 have HL := am hB.size
 clear hI
 have HW0 := am hB.size
 have HB := am hB
 clear hB
 have H : ((spec_l1Below.f s0_0 s0_1 s0_2 3).bind fun bt231 => (spec_l2DrawRight.l0 k (wrap64 (1 + bt231.1)) 0 s0_0 bt231.2.1 bt231.2.2 ([] : List (List Int)))) = some (r1, r2, r3) := h
 clear h
 replace H := bs H
 obtain ⟨⟨t231, t232, t233⟩, A20, H⟩ := H
 replace H : (spec_l2DrawRight.l0 k (wrap64 (1 + t231)) 0 s0_0 t232 t233 ([] : List (List Int))) = some (r1, r2, r3) := H
 have A2 := am A20
 clear A20
 have H' := am H
 clear H
 go_enter Try.func69, Try.ntmps69
 go_wp2_with (first | ((with_reducible refine gd 2 ?_); refine bx (N := 2) (cs := #[.slice none 0 0]) (t := 29) ?_; intro gb229 hg w3 hbox hb; have n0_ := am (IsS107.below (si HI0.out) hb); have n1_ := am (KeepBut.trans (kp HK.out) (KeepBut.of_below hb g none) (.inl rfl)); have n2_ := am (below_step (bi HB.out) hb); have n3_ := am (hbox); have n4_ := am ((by rw [hg]; exact (keep_size (w := w) (g := g) (row := none) (kp HK.out)) : w.heap.size ≤ gb229)); have n5_ := am ((Nat.le_trans HW0.out (by rw [hg]; exact (keep_size (w := w) (g := g) (row := none) (kp HK.out)) : w.heap.size ≤ gb229) : w0.heap.size ≤ gb229)); have n6_ := am ((by rw [hg]; exact Nat.ne_of_lt (IsS107.lt (show IsS107 w0 _ g s0_0 s0_1 s0_2 from si HI0.out)) : g ≠ gb229)); have n7_ := am ((by rw [hg]; exact Nat.ne_of_gt (IsS107.lt (show IsS107 w0 _ g s0_0 s0_1 s0_2 from si HI0.out)) : gb229 ≠ g)); clear HI0; clear HK; clear HB; have HI0 := n0_; have HK := n1_; have HB := n2_; have BK229 := n3_; have GW229 := n4_; have GE229 := n5_; have NB0_229 := n6_; have NB229_0 := n7_; clear n0_ n1_ n2_ n3_ n4_ n5_ n6_ n7_; clear hb hbox hg) | ((with_reducible refine gd 3 ?_); refine bx (N := 3) (cs := #[.slice none 0 0]) (t := 29) ?_; intro gb230 hg w4 hbox hb; have n0_ := am (IsS107.below (si HI0.out) hb); have n1_ := am (bb BK229 hb); have n2_ := am (KeepBut.trans (kp HK.out) (KeepBut.of_below hb g none) (.inl rfl)); have n3_ := am (below_step (bi HB.out) hb); have n4_ := am (hbox); have n5_ := am ((by rw [hg]; exact (keep_size (w := w) (g := g) (row := none) (kp HK.out)) : w.heap.size ≤ gb230)); have n6_ := am ((Nat.le_trans HW0.out (by rw [hg]; exact (keep_size (w := w) (g := g) (row := none) (kp HK.out)) : w.heap.size ≤ gb230) : w0.heap.size ≤ gb230)); have n7_ := am ((ga hg BK229.out)); have n8_ := am ((gc hg BK229.out)); have n9_ := am ((by rw [hg]; exact Nat.ne_of_lt (IsS107.lt (show IsS107 w0 _ g s0_0 s0_1 s0_2 from si HI0.out)) : g ≠ gb230)); have n10_ := am ((by rw [hg]; exact Nat.ne_of_gt (IsS107.lt (show IsS107 w0 _ g s0_0 s0_1 s0_2 from si HI0.out)) : gb230 ≠ g)); clear HI0; clear BK229; clear HK; clear HB; have HI0 := n0_; have BK229 := n1_; have HK := n2_; have HB := n3_; have BK230 := n4_; have GW230 := n5_; have GE230 := n6_; have NB229_230 := n7_; have NB230_229 := n8_; have NB0_230 := n9_; have NB230_0 := n10_; clear n0_ n1_ n2_ n3_ n4_ n5_ n6_ n7_ n8_ n9_ n10_; clear hb hbox hg; have p_ := NB230_229.out; have p_ := NB230_0.out; have hcz7_0 : w4.cell? ⟨gb230, 0, none⟩ = some (.slice none 0 0) := cl BK230 0; have hfz7_0 := blk_frozen BK230.out 0) | ((with_reducible refine gate_callee (f := 60) rfl ?_); refine goesM_ (some 11) rfl rfl Try.func60 #[.pointer (some ⟨g, 0, none⟩), .int .i64 3] ?_; (with_reducible refine (spec_l1Below.calls g s0_0 s0_1 s0_2 3 t231 t232 t233 w0 _ ?side1 ?side2 A2.out).mono ?_); (case side1 => exact si HI0.out); (case side2 => exact bi HB.out); rintro e w8 ⟨rfl, hi, hb, hk⟩; refine ⟨_, rfl, ?_⟩; replace BK229 := am (kB hk (kf BK229.out) NB229_0); replace BK230 := am (KeepBut.blk hk (g' := gb230) (o := .cells #[.slice none 0 0] 29 (0, 0)) (kt BK230.out) NB230_0.out (by simp)); replace HK := am (KeepBut.trans (kp HK.out) hk (.inl rfl)); replace HB := am (hb); replace HI0 := am (hi); (try clear hb); (try clear hk); (try clear hi)))
 go_loopg [5] k (fun kq v5 w' => ∃ (x5_1 : Int) (x1001_1 : Int) (x1002_1 : Int) (x231000_1 : List (List Int)) (u231000 : Value), v5 = .int .i64 x5_1 ∧ Aside0 (spec_l2DrawRight.l0 kq (wrap64 (1 + t231)) x5_1 s0_0 x1001_1 x1002_1 x231000_1 = some (r1, r2, r3)) ∧ Aside0 (kq ≤ k) ∧ Aside0 (Kd.S (Kd.slice 3 (Kd.int .i64)) 30 w' w.heap.size (fun _ => True) u231000 x231000_1) ∧ Aside0 (w'.heap[gb229]? = some (.cells #[(.slice none 0 0)] 29 (0, 0))) ∧ Aside0 (w'.heap[gb230]? = some (.cells #[u231000] 29 (0, 0))) ∧ Aside0 (IsS107 w0 w' g s0_0 x1001_1 x1002_1) ∧ Aside0 (KeepBut w w' g none) ∧ Aside0 (Below w0.heap.size w0 w'))
 case atStart => exact ⟨(0), (t232), (t233), (([] : List (List Int))), (.slice none 0 0), (by first | rfl | (simp; done) | (simp [*]; done)), H', ⟨Nat.le_refl _⟩, ⟨by first | exact Kd.S_nil _ _ _ _ _ | exact Kd.N_nil _ _ _ _ _ | exact Kd.V_nil _ _ _ _ _ | exact Kd.Q_nil _ _ _ _ _ | exact Kd.R_nil _ _ _ _ _⟩, ⟨kb BK229.out⟩, ⟨kb BK230.out⟩, ⟨si HI0.out⟩, ⟨kp HK.out⟩, ⟨bi HB.out⟩⟩
 case round =>
  clear H'
  (try clear p2); (try clear c5); (try clear c6); (try clear p6); (try clear hcz7_0); (try clear hfz7_0)
  obtain ⟨x5_1, x1001_1, x1002_1, x231000_1, u231000, rfl, HA, HK1, HP231, BK229, BK230, HI0, HK, HB⟩ := hrel
  cases gk with
  | zero => exact absurd HA.out (by simp [spec_l2DrawRight.l0])
  | succ k1 =>
   have H := HA.out
   clear HA
   simp only [spec_l2DrawRight.l0] at H
   by_cases c9 : x5_1 < (wrap64 (1 + t231))
   ·rw [if_pos c9] at H
    have c9b0 : decide (x5_1 < (wrap64 (1 + t231))) = true := decide_eq_true c9
    clear c9
    replace H := bs H
    obtain ⟨⟨t234, t237, t238⟩, A100, H⟩ := H
    replace H : (if x231000_1.length < 5864062014805 then (spec_l2DrawRight.l0 k1 (wrap64 (1 + t231)) (wrap64 (x5_1 + 1)) s0_0 t237 t238 (x231000_1 ++ [t234])) else (none)) = some (r1, r2, r3) := H
    have A10 := am A100
    clear A100
    by_cases c11 : x231000_1.length < 5864062014805
    ·rw [if_pos c11] at H
     have LMc11 := am c11
     clear c11
     obtain ⟨y239, hy239⟩ : ∃ y_ : List (List Int), y_ = (x231000_1 ++ [t234]) := ⟨_, rfl⟩
     replace H : (spec_l2DrawRight.l0 k1 (wrap64 (1 + t231)) (wrap64 (x5_1 + 1)) s0_0 t237 t238 y239) = some (r1, r2, r3) := by first | (rw [hy239]; with_reducible exact H) | (have H2_ := (Option.bind_some _ _).symm.trans H; rw [hy239]; with_reducible exact H2_) | (have H2_ := (Option.bind_some _ _).symm.trans H; with_reducible exact H2_) | with_reducible exact H | (rw [hy239]; exact H) | exact H
     have Ny239 := am hy239
     clear hy239
     have H' := am H
     clear H
     try go_wp2
     replace HP231 := am (Kd.S_drew HP231.out)
     replace BK229 := am (blk_drew BK229.out)
     replace BK230 := am (blk_drew BK230.out)
     replace HI0 := am (IsS107.drew HI0.out)
     replace HK := am (keep_drew HK.out)
     replace HB := am (below_drew1 HB.out)
     refine start_ (n := 8) (S := fun w' => w'.cell? ⟨gb230, 0, none⟩ = some (u231000)) (ds := [7]) (bm 8 0) (by kernel_rfl) rfl (by kernel_rfl) (cl BK230 0) (fun hHeld => ?_); refine with_tabW spec_l2DrawRight.tab6 spec_l2DrawRight.bits6 (fun HT_ HW_ => ?_)
     generalize wr.drew = w12 at HP231 BK229 BK230 HI0 HK HB hHeld ⊢
     refine pw_ 0 (some 18) (bm 8 1) HT_ ?_
     refine pw_ 2 (some 20) (bm 8 5) HT_ ?_
     refine tw_ 1 (some 19) (bm 8 7) HT_ HW_ hHeld ?_
     refine ow_ 3 (some 21) (bm 8 15) HT_ (fun K hK => ?_)
     refine gw_ Try.func105 #[.pointer (some ⟨g, 0, none⟩)] ?_
     with_reducible refine (spec_l2DrawBank.calls k1 g s0_0 x1001_1 x1002_1 t234 t237 t238 w0 _ ?side1 ?side2 A10.out).mono ?_
     (case side1 => exact si HI0.out)
     (case side2 => exact bi HB.out)
     rintro e w13 ⟨v235, rfl, ho0, hi, hb, hk⟩
     refine ⟨_, rfl, ?_⟩
     replace HP231 := am (Kd.S_mono (Kd.S_told (Kd.S_oldK (IsS107.apartS (show IsS107 w0 _ g s0_0 x1001_1 x1002_1 from si HI0.out) (ks HP231.out) (by decide)) hk) (Kd.R_base ho0)) (fun _ h_ => h_.1))
     replace BK229 := am (kB hk (kb BK229.out) NB229_0)
     replace BK230 := am (kB hk (kb BK230.out) NB230_0)
     have HO236 := am (Kd.R_lower ho0 (keep_size (w := w) (g := g) (row := none) (kp HK.out)))
     replace HK := am (KeepBut.trans (kp HK.out) hk (.inl rfl))
     replace HB := am (hb)
     replace HI0 := am (hi)
     (try clear hb); (try clear hk); (try clear hi); (try clear ho0)
     obtain ⟨Ao15, co15, eo15⟩ := Kd.R_slice HO236.out
     (first | subst eo15 | (injection eo15 with f1_ f2_ f3_; have f4_ := f1_.symm; have f5_ := f3_.symm; clear f1_ f2_ f3_; subst f4_; subst f5_))
     refine hK.out _ _ (cl BK230 0) (fun hHeld => ?_)
     clear hK K
     refine nw_ 21 ?_
     refine ow_ 4 (some 22) (bm 8 31) HT_ (fun K hK => ?_)
     refine value_ (w1 := ?_) (v := ?_) (by rfl) rfl ?_ ?_
     rotate_left 2
     ·go_simp
      constructor
      ·rfl
      ·rfl
     refine hK.out _ _ ((blk_cell (blk_alloc BK230.out _) 0).trans rfl) (fun hHeld => ?_)
     clear hK K
     refine nw_ 22 ?_
     refine ow_ 5 (some 23) (bm 8 63) HT_ (fun K hK => ?_)
     refine Kd.S_append_step (Kd.slice 3 (Kd.int .i64)) w.heap.size (by rfl) (.tmp 19) (.tmp 22) 27 30 (.slice none 0 0) 24 rfl Try.underlying27 info30 rfl (by decide) (by omega) u231000 x231000_1 t234 [.slice Ao15 t234.length co15] (fun _ => True) (fun k_ => some k_ = (.slice Ao15 t234.length co15 : Value).ownBlock) rfl rfl ?aP (fun k_ hk_ => ((Kd.R_mono (ok' := fun k_ => ((fun _ => True)) k_ ∧ some k_ ≠ (u231000 : Value).ownBlock) (Kd.R_apart' (HO236.out) (Kd.S_typed HP231.out) (by decide)) (fun k_ hk => ⟨trivial, hk.2⟩))).1 k_ hk_.symm) ?aF ?aO (Below.refl _ _) ?aS ?aL ?_
     (case aP => exact Kd.M_row (Kd.R_mono (Kd.R_tight rfl (Kd.R_mono (ok' := fun k_ => ((fun _ => True)) k_ ∧ some k_ ≠ (u231000 : Value).ownBlock) (Kd.R_apart' (HO236.out) (Kd.S_typed HP231.out) (by decide)) (fun k_ hk => ⟨trivial, hk.2⟩))) (fun _ h_ => h_)))
     (case aF => exact (fun _ _ => trivial))
     (case aO => exact (ks (Kd.S_mono HP231.out (fun k_ hk => ⟨trivial, fun e_ => hk.2 e_⟩))))
     (case aS => exact (keep_size (w := w) (g := g) (row := none) (kp HK.out)))
     (case aL => have := LMc11.out; omega)
     intro v240 w14 ho hb hg hat
     rw [← Ny239.out] at ho
     have n0_ := am (blk_grown (g := gb229) (o := .cells #[.slice none 0 0] 29 (0, 0)) (kb BK229.out) hg (Kd.S_ne HP231.out BK229.out (by decide)))
     have n1_ := am (blk_grown (g := gb230) (o := .cells #[u231000] 29 (0, 0)) (kb BK230.out) hg (Kd.S_ne HP231.out BK230.out (by decide)))
     have n2_ := am (IsS107.grown (si HI0.out) hg (IsS107.own_neS HI0.out HP231.out (by decide)))
     have n3_ := am (below_weaken (bi HB.out) HL.out hb)
     have n4_ := am (KeepBut.trans (kp HK.out) (KeepBut.of_grown hg g) (Kd.S_base2 HP231.out))
     have n5_ := am (ho)
     clear BK229; clear BK230; clear HI0; clear HB; clear HK; clear HP231; clear HO236; have BK229 := n0_; have BK230 := n1_; have HI0 := n2_; have HB := n3_; have HK := n4_; have HO241 := n5_; clear n0_ n1_ n2_ n3_ n4_ n5_; clear ho hb hg hat
     obtain ⟨Ao16, co16, eo16⟩ := Kd.S_slice HO241.out
     (first | subst eo16 | (injection eo16 with f1_ f2_ f3_; have f4_ := f1_.symm; have f5_ := f3_.symm; clear f1_ f2_ f3_; subst f4_; subst f5_))
     refine hK.out _ _ (cl BK230 0) (fun hHeld => ?_)
     clear hK K
     refine nw_ 23 ?_
     refine pw_ 6 (some 24) (bm 8 127) HT_ ?_
     refine last_ (i := 7) (N := none) (bm 8 255) rfl rfl (one_of HT_.out (by kernel_rfl)) (by decide) (fun K hK => ?_)
     refine skip_ (w1 := ?_) (by rfl) rfl ?_ ?_
     rotate_left
     ·have hs17 : w14.cell? ⟨gb230, 0, none⟩ = some (u231000) := cl BK230 0
      have f0 := blk_frozen BK230.out 0
      have p_ := NB229_230.out
      go_simp
      rfl
     refine hK.out _ _ ?_
     clear hK K
     refine done_ (done_of HT_.out (by kernel_rfl)) ?_
     try go_wp2
     go_roundg k1
     case measure => have := HK1.out; omega
     case rel => exact ⟨(wrap64 (x5_1 + 1)), (t237), (t238), (y239), (.slice Ao16 y239.length co16), (by first | rfl | (simp; done) | (simp [*]; done)), H', ⟨by have := HK1.out; omega⟩, ⟨ks (Kd.S_mono (Kd.S_far (p := ⟨gb230, 0, none⟩) (Kd.S_types HO241.out BK230.out (by decide)) (fun _ hk => hk.2) (.slice Ao16 y239.length co16)) (fun _ hk => trivial))⟩, ⟨kf BK229.out⟩, ⟨kt BK230.out⟩, ⟨si HI0.out⟩, ⟨kp HK.out⟩, ⟨bi HB.out⟩⟩
    ·rw [if_neg c11] at H
     exact absurd H (by simp)
   ·rw [if_neg c9] at H
    have c9b0 : decide (x5_1 < (wrap64 (1 + t231))) = false := decide_eq_false c9
    clear c9
    replace H := bs H
    obtain ⟨⟨t242, t243, t244⟩, A180, H⟩ := H
    replace H : (if t242 = true then (if 0 ≤ (wrap64 ((wrap64 (1 + t231)) - 1)) then (if (wrap64 ((wrap64 (1 + t231)) - 1)) < (x231000_1.length : Int) then (if (rd_L3 x231000_1 (wrap64 ((wrap64 (1 + t231)) - 1))).length = 256 then (some (lastSix x231000_1 (wrap64 ((wrap64 (1 + t231)) - 1)), t243, t244)) else (none)) else (none)) else (none)) else ((spec_l2Main.f s0_0 t243 t244).bind fun bt246 => ((spec_Assemble.f k1 bt246.1).bind fun bt249 => (if (bt249.1.length : Int) = 256 then (if 0 ≤ (wrap64 ((wrap64 (1 + t231)) - 1)) then (if (wrap64 ((wrap64 (1 + t231)) - 1)) < (x231000_1.length : Int) then (if (rd_L3 (x231000_1.set ((wrap64 ((wrap64 (1 + t231)) - 1)) : Int).toNat bt249.1) (wrap64 ((wrap64 (1 + t231)) - 1))).length = 256 then (some (lastSix (x231000_1.set ((wrap64 ((wrap64 (1 + t231)) - 1)) : Int).toNat bt249.1) (wrap64 ((wrap64 (1 + t231)) - 1)), bt246.2.1, bt246.2.2)) else (none)) else (none)) else (none)) else (if 0 ≤ (wrap64 ((wrap64 (1 + t231)) - 1)) then (if (wrap64 ((wrap64 (1 + t231)) - 1)) < (x231000_1.length : Int) then (if (rd_L3 x231000_1 (wrap64 ((wrap64 (1 + t231)) - 1))).length = 256 then (some (lastSix x231000_1 (wrap64 ((wrap64 (1 + t231)) - 1)), bt246.2.1, bt246.2.2)) else (none)) else (none)) else (none)))))) = some (r1, r2, r3) := H
    have A18 := am A180
    clear A180
    by_cases c19 : t242 = true
    ·subst c19
     have H1 : (if 0 ≤ (wrap64 ((wrap64 (1 + t231)) - 1)) then (if (wrap64 ((wrap64 (1 + t231)) - 1)) < (x231000_1.length : Int) then (if (rd_L3 x231000_1 (wrap64 ((wrap64 (1 + t231)) - 1))).length = 256 then (some (lastSix x231000_1 (wrap64 ((wrap64 (1 + t231)) - 1)), t243, t244)) else (none)) else (none)) else (none)) = some (r1, r2, r3) := by rw [if_pos rfl] at H; exact H
     clear H
     have H := H1
     clear H1
     obtain ⟨ji20, hji20⟩ : ∃ j_ : Int, (wrap64 ((wrap64 (1 + t231)) - 1)) = j_ := ⟨_, rfl⟩
     replace H : (if 0 ≤ (ji20) then (if (ji20) < (x231000_1.length : Int) then (if (rd_L3 x231000_1 (ji20)).length = 256 then (some (lastSix x231000_1 (ji20), t243, t244)) else (none)) else (none)) else (none)) = some (r1, r2, r3) := by first | (rw [hji20] at H; exact H) | (simp only [hji20] at H ⊢; exact H)
     (try rw [hji20] at A18)
     have hji20w : (IntKind.i64.wrap ((wrap64 (1 + t231)) - 1)) = ji20 := (i64_w _).trans hji20
     by_cases c21 : 0 ≤ (ji20)
     ·rw [if_pos c21] at H
      have c21b0 : decide (0 ≤ (ji20)) = true := decide_eq_true c21
      clear c21
      by_cases c22 : (ji20) < (x231000_1.length : Int)
      ·rw [if_pos c22] at H
       have c22b0 : decide ((ji20) < (x231000_1.length : Int)) = true := decide_eq_true c22
       clear c22
       by_cases c256 : (rd_L3 x231000_1 (ji20)).length = 256
       rotate_left
       ·rw [if_neg c256] at H
        exact absurd H (by simp)
       rw [if_pos c256] at H
       have C256 := am c256
       clear c256
       simp only [Option.some.injEq, Prod.mk.injEq] at H
       obtain ⟨rfl, rfl, rfl⟩ := H
       go_upto_region 12 with (first | ((with_reducible refine gate_callee (f := 58) rfl ?_); refine goesM_ (some 26) rfl rfl Try.func58 #[.pointer (some ⟨g, 0, none⟩), .int .i64 4] ?_; (with_reducible refine (spec_l1Once.calls g s0_0 x1001_1 x1002_1 4 true t243 t244 w0 _ ?side1 ?side2 A18.out).mono ?_); (case side1 => exact si HI0.out); (case side2 => exact bi HB.out); rintro e w23 ⟨rfl, hi, hb, hk⟩; refine ⟨_, rfl, ?_⟩; replace HP231 := am (Kd.S_mono (Kd.S_keep (IsS107.apartS (show IsS107 w0 _ g s0_0 x1001_1 x1002_1 from si HI0.out) (ks HP231.out) (by decide)) hk (fun _ h => h.2)) (fun _ h => h.1)); replace BK229 := am (kB hk (kb BK229.out) NB229_0); replace BK230 := am (kB hk (kb BK230.out) NB230_0); replace HK := am (KeepBut.trans (kp HK.out) hk (.inl rfl)); replace HB := am (hb); replace HI0 := am (hi); (try clear hb); (try clear hk); (try clear hi); have p_ := NB230_229.out; have p_ := NB230_0.out; have hcz26_0 : w23.cell? ⟨gb230, 0, none⟩ = some (u231000) := cl BK230 0; have hfz26_0 := blk_frozen BK230.out 0; obtain ⟨Ao27, co27, eo27⟩ := Kd.S_slice HP231.out; subst eo27; have p245 : 0 ≤ ((ji20) : Int) := dt; have q245 : (ji20) < (x231000_1.length : Int) := dt; obtain ⟨ad245, A245_0, c245_0, e245, hx245_0, hl245_0, hi245_0⟩ := at_L3 (Kd.S_reads' HP231.out).2.2 (ji20) p245 q245; cases e245; obtain ⟨ce245, hce245, hMe245, hcc245⟩ := Kd.S_get HP231.out [] (ji20) p245 (by first | exact q245 | exact dt | (have e_ := (Kd.S_reads' HP231.out).1; omega)); obtain ⟨ve245_0, rfl, ge245_0⟩ := hMe245; have hv245_0 := hcc245 0 _ rfl; rw [Nat.add_zero, show ((Kd.slice 3 (Kd.int .i64))).sz = 1 from rfl, Nat.mul_one] at hv245_0; replace hv245_0 := oj (hv245_0.symm.trans hx245_0); rw [hv245_0] at ge245_0; have HL245_0 := am (show Kd.R (Kd.int .i64) 3 _ _ _ _ (rd_L3 x231000_1 (ji20)) from ge245_0); clear hv245_0 ge245_0; clear hcc245 hce245; have HR245_0 := am hi245_0; have HC245_0 := am hl245_0; clear hi245_0 hl245_0; replace p245 := eq_true p245; replace q245 := eq_true q245; have p_ := NB229_0.out; have hcz29_0 : w23.cell? ⟨gb229, 0, none⟩ = some (.slice none 0 0) := cl BK229 0; have hfz29_0 := blk_frozen BK229.out 0))
       have hji_ : (0 : Int) ≤ ji20 := of_decide_eq_true (by assumption)
       have hjl_ : ji20 < (x231000_1.length : Int) := by first | exact of_decide_eq_true (by assumption) | (rw [Ny0.out, List.length_set]; exact of_decide_eq_true (by assumption))
       obtain ⟨gl, eA_, hgl, ⟨clr, hbl⟩, hcl, hS6⟩ := six_ok HP231.out ji20 hji_ hjl_ (by first | exact hx245_0 | (rw [add_plain]; exact hx245_0)) C256.out
       subst eA_
       have GL := am hgl
       have HBL := am hbl
       have HS6 := am hS6
       have HLN := am C256.out
       have z0 := (hcl 250 (by omega)).1
       have z1 := (hcl 251 (by omega)).1
       have z2 := (hcl 252 (by omega)).1
       have z3 := (hcl 253 (by omega)).1
       have z4 := (hcl 254 (by omega)).1
       have z5 := (hcl 255 (by omega)).1
       have f0 := (hcl 250 (by omega)).2
       have f1 := (hcl 251 (by omega)).2
       have f2 := (hcl 252 (by omega)).2
       have f3 := (hcl 253 (by omega)).2
       have f4 := (hcl 254 (by omega)).2
       have f5 := (hcl 255 (by omega)).2
       have b0 : ((250 : Int) < ((rd_L3 x231000_1 ji20).length : Int)) = True := eq_true (by have := C256.out; omega)
       have b1 : ((251 : Int) < ((rd_L3 x231000_1 ji20).length : Int)) = True := eq_true (by have := C256.out; omega)
       have b2 : ((252 : Int) < ((rd_L3 x231000_1 ji20).length : Int)) = True := eq_true (by have := C256.out; omega)
       have b3 : ((253 : Int) < ((rd_L3 x231000_1 ji20).length : Int)) = True := eq_true (by have := C256.out; omega)
       have b4 : ((254 : Int) < ((rd_L3 x231000_1 ji20).length : Int)) = True := eq_true (by have := C256.out; omega)
       have b5 : ((255 : Int) < ((rd_L3 x231000_1 ji20).length : Int)) = True := eq_true (by have := C256.out; omega)
       have n1 : gl ≠ gb229 := blk_ne hbl BK229.out (by decide)
       have n2 : gb229 ≠ gl := fun e => n1 e.symm
       have n3 : gl ≠ gb230 := blk_ne hbl BK230.out (by decide)
       have n4 : gb230 ≠ gl := fun e => n3 e.symm
       clear hcl hbl hgl hS6 hji_ hjl_
       go_wp2
       refine bodyPost_ret (results_cell_row rfl _ _ gb229 29 #[.slice (some ad245) x231000_1.length co27] (0, 0) _ rfl (blk_put (cs := #[.slice none 0 0]) (six_blk BK229.out n2) 0 _ rfl) Try.underlying29 rfl (by kernel_rfl)) rfl ?_
       exact ⟨_, rfl, Kd.S_mono (Kd.S_far (p := ⟨gb229, 0, none⟩) (Kd.S_types HS6.out (six_blk BK229.out n2) (by decide)) (fun _ hk => hk.2) (.slice (some ad245) x231000_1.length co27)) (fun _ hk => trivial), (six_state HI0.out (IsS107.ne_blk HI0.out HBL.out (by decide))).far (p := ⟨gb229, 0, none⟩) NB0_229.out _, below_set (six_below HB.out (Nat.le_trans HW0.out GL.out)) GE229.out, keep_far (p := ⟨gb229, 0, none⟩) (six_keep HK.out GL.out) GW229.out _⟩
      ·rw [if_neg c22] at H
       exact absurd H (by simp)
     ·rw [if_neg c21] at H
      exact absurd H (by simp)
    ·replace c19 := Bool.eq_false_iff.mpr c19
     subst c19
     have H1 : ((spec_l2Main.f s0_0 t243 t244).bind fun bt246 => ((spec_Assemble.f k1 bt246.1).bind fun bt249 => (if (bt249.1.length : Int) = 256 then (if 0 ≤ (wrap64 ((wrap64 (1 + t231)) - 1)) then (if (wrap64 ((wrap64 (1 + t231)) - 1)) < (x231000_1.length : Int) then (if (rd_L3 (x231000_1.set ((wrap64 ((wrap64 (1 + t231)) - 1)) : Int).toNat bt249.1) (wrap64 ((wrap64 (1 + t231)) - 1))).length = 256 then (some (lastSix (x231000_1.set ((wrap64 ((wrap64 (1 + t231)) - 1)) : Int).toNat bt249.1) (wrap64 ((wrap64 (1 + t231)) - 1)), bt246.2.1, bt246.2.2)) else (none)) else (none)) else (none)) else (if 0 ≤ (wrap64 ((wrap64 (1 + t231)) - 1)) then (if (wrap64 ((wrap64 (1 + t231)) - 1)) < (x231000_1.length : Int) then (if (rd_L3 x231000_1 (wrap64 ((wrap64 (1 + t231)) - 1))).length = 256 then (some (lastSix x231000_1 (wrap64 ((wrap64 (1 + t231)) - 1)), bt246.2.1, bt246.2.2)) else (none)) else (none)) else (none))))) = some (r1, r2, r3) := by rw [if_neg (show ¬ (false = true) by decide)] at H; exact H
     clear H
     have H := H1
     clear H1
     replace H := bs H
     obtain ⟨⟨t246, t247, t248⟩, A300, H⟩ := H
     replace H : ((spec_Assemble.f k1 t246).bind fun bt249 => (if (bt249.1.length : Int) = 256 then (if 0 ≤ (wrap64 ((wrap64 (1 + t231)) - 1)) then (if (wrap64 ((wrap64 (1 + t231)) - 1)) < (x231000_1.length : Int) then (if (rd_L3 (x231000_1.set ((wrap64 ((wrap64 (1 + t231)) - 1)) : Int).toNat bt249.1) (wrap64 ((wrap64 (1 + t231)) - 1))).length = 256 then (some (lastSix (x231000_1.set ((wrap64 ((wrap64 (1 + t231)) - 1)) : Int).toNat bt249.1) (wrap64 ((wrap64 (1 + t231)) - 1)), t247, t248)) else (none)) else (none)) else (none)) else (if 0 ≤ (wrap64 ((wrap64 (1 + t231)) - 1)) then (if (wrap64 ((wrap64 (1 + t231)) - 1)) < (x231000_1.length : Int) then (if (rd_L3 x231000_1 (wrap64 ((wrap64 (1 + t231)) - 1))).length = 256 then (some (lastSix x231000_1 (wrap64 ((wrap64 (1 + t231)) - 1)), t247, t248)) else (none)) else (none)) else (none)))) = some (r1, r2, r3) := H
     have A30 := am A300
     clear A300
     replace H := bs H
     obtain ⟨⟨t249, t250⟩, A310, H⟩ := H
     replace H : (if (t249.length : Int) = 256 then (if 0 ≤ (wrap64 ((wrap64 (1 + t231)) - 1)) then (if (wrap64 ((wrap64 (1 + t231)) - 1)) < (x231000_1.length : Int) then (if (rd_L3 (x231000_1.set ((wrap64 ((wrap64 (1 + t231)) - 1)) : Int).toNat t249) (wrap64 ((wrap64 (1 + t231)) - 1))).length = 256 then (some (lastSix (x231000_1.set ((wrap64 ((wrap64 (1 + t231)) - 1)) : Int).toNat t249) (wrap64 ((wrap64 (1 + t231)) - 1)), t247, t248)) else (none)) else (none)) else (none)) else (if 0 ≤ (wrap64 ((wrap64 (1 + t231)) - 1)) then (if (wrap64 ((wrap64 (1 + t231)) - 1)) < (x231000_1.length : Int) then (if (rd_L3 x231000_1 (wrap64 ((wrap64 (1 + t231)) - 1))).length = 256 then (some (lastSix x231000_1 (wrap64 ((wrap64 (1 + t231)) - 1)), t247, t248)) else (none)) else (none)) else (none))) = some (r1, r2, r3) := H
     have A31 := am A310
     clear A310
     by_cases c32 : (t249.length : Int) = 256
     ·rw [if_pos c32] at H
      have c32b0 : ((t249.length : Int) == 256) = true := beq_iff_eq.mpr c32
      have c32b1 : ((t249.length : Int) != 256) = false := bne_eq_false_iff_eq.mpr c32
      clear c32
      obtain ⟨ji33, hji33⟩ : ∃ j_ : Int, (wrap64 ((wrap64 (1 + t231)) - 1)) = j_ := ⟨_, rfl⟩
      replace H : (if 0 ≤ (ji33) then (if (ji33) < (x231000_1.length : Int) then (if (rd_L3 (x231000_1.set ((ji33) : Int).toNat t249) (ji33)).length = 256 then (some (lastSix (x231000_1.set ((ji33) : Int).toNat t249) (ji33), t247, t248)) else (none)) else (none)) else (none)) = some (r1, r2, r3) := by first | (rw [hji33] at H; exact H) | (simp only [hji33] at H ⊢; exact H)
      (try rw [hji33] at A18)
      (try rw [hji33] at A30)
      (try rw [hji33] at A31)
      have hji33w : (IntKind.i64.wrap ((wrap64 (1 + t231)) - 1)) = ji33 := (i64_w _).trans hji33
      by_cases c34 : 0 ≤ (ji33)
      ·rw [if_pos c34] at H
       have c34b0 : decide (0 ≤ (ji33)) = true := decide_eq_true c34
       clear c34
       by_cases c35 : (ji33) < (x231000_1.length : Int)
       ·rw [if_pos c35] at H
        have c35b0 : decide ((ji33) < (x231000_1.length : Int)) = true := decide_eq_true c35
        clear c35
        obtain ⟨y253, hy253⟩ : ∃ y_ : List (List Int), y_ = (x231000_1.set ((ji33) : Int).toNat t249) := ⟨_, rfl⟩
        replace H : (if (rd_L3 y253 (ji33)).length = 256 then (some (lastSix y253 (ji33), t247, t248)) else (none)) = some (r1, r2, r3) := by first | (rw [hy253]; with_reducible exact H) | (have H2_ := (Option.bind_some _ _).symm.trans H; rw [hy253]; with_reducible exact H2_) | (have H2_ := (Option.bind_some _ _).symm.trans H; with_reducible exact H2_) | with_reducible exact H | (rw [hy253]; exact H) | exact H
        have Ny253 := am hy253
        clear hy253
        by_cases c256 : (rd_L3 y253 (ji33)).length = 256
        rotate_left
        ·rw [if_neg c256] at H
         exact absurd H (by simp)
        rw [if_pos c256] at H
        have C256 := am c256
        clear c256
        simp only [Option.some.injEq, Prod.mk.injEq] at H
        obtain ⟨rfl, rfl, rfl⟩ := H
        go_upto_region 12 with (first | ((with_reducible refine gate_callee (f := 58) rfl ?_); refine goesM_ (some 26) rfl rfl Try.func58 #[.pointer (some ⟨g, 0, none⟩), .int .i64 4] ?_; (with_reducible refine (spec_l1Once.calls g s0_0 x1001_1 x1002_1 4 false t243 t244 w0 _ ?side1 ?side2 A18.out).mono ?_); (case side1 => exact si HI0.out); (case side2 => exact bi HB.out); rintro e w37 ⟨rfl, hi, hb, hk⟩; refine ⟨_, rfl, ?_⟩; replace HP231 := am (Kd.S_mono (Kd.S_keep (IsS107.apartS (show IsS107 w0 _ g s0_0 x1001_1 x1002_1 from si HI0.out) (ks HP231.out) (by decide)) hk (fun _ h => h.2)) (fun _ h => h.1)); replace BK229 := am (kB hk (kb BK229.out) NB229_0); replace BK230 := am (kB hk (kb BK230.out) NB230_0); replace HK := am (KeepBut.trans (kp HK.out) hk (.inl rfl)); replace HB := am (hb); replace HI0 := am (hi); (try clear hb); (try clear hk); (try clear hi)) | ((with_reducible refine gate_callee (f := 107) rfl ?_); refine goesM_ (some 30) rfl rfl Try.func107 #[.pointer (some ⟨g, 0, none⟩)] ?_; (with_reducible refine (spec_l2Main.calls g s0_0 t243 t244 t246 t247 t248 w0 _ ?side1 ?side2 A30.out).mono ?_); (case side1 => exact si HI0.out); (case side2 => exact bi HB.out); rintro e w38 ⟨rfl, hi, hb, hk⟩; refine ⟨_, rfl, ?_⟩; replace HP231 := am (Kd.S_mono (Kd.S_keep (IsS107.apartS (show IsS107 w0 _ g s0_0 t243 t244 from si HI0.out) (ks HP231.out) (by decide)) hk (fun _ h => h.2)) (fun _ h => h.1)); replace BK229 := am (kB hk (kb BK229.out) NB229_0); replace BK230 := am (kB hk (kb BK230.out) NB230_0); replace HK := am (KeepBut.trans (kp HK.out) hk (.inl rfl)); replace HB := am (hb); replace HI0 := am (hi); (try clear hb); (try clear hk); (try clear hi)) | ((with_reducible refine gate_callee (f := 106) rfl ?_); refine goesM_ (some 31) rfl rfl Try.func106 #[.string t246] ?_; (with_reducible refine (spec_Assemble.calls k1 t246 t249 t250 _ A31.out).mono ?_); rintro e w39 ⟨v251, rfl, ho0, hb⟩; refine ⟨_, rfl, ?_⟩; replace HP231 := am (Kd.S_elder' (ks HP231.out) (Kd.R_base ho0) hb); have HO252 := am (Kd.R_lower ho0 (keep_size (w := w) (g := g) (row := none) (kp HK.out))); replace BK229 := am (bb BK229 hb); replace BK230 := am (bb BK230 hb); replace HI0 := am (IsS107.below (si HI0.out) hb); replace HK := am (KeepBut.trans (kp HK.out) (KeepBut.of_below hb g none) (.inl rfl)); replace HB := am (below_step (bi HB.out) hb); (try clear hb); (try clear hk); (try clear hi); (try clear ho0); obtain ⟨Ao40, co40, eo40⟩ := Kd.R_slice HO252.out; subst eo40; have p_ := NB230_229.out; have p_ := NB230_0.out; have hcz43_0 : w39.cell? ⟨gb230, 0, none⟩ = some (u231000) := cl BK230 0; have hfz43_0 := blk_frozen BK230.out 0; have p36 : 0 ≤ ((ji33) : Int) := dt; have q36 : ((ji33) : Int) < ((x231000_1.length : Int) : Int) := dt; obtain ⟨go36, co36, eo36, gb36, gl36, cl36, HG36⟩ := Kd.S_form HP231.out (by omega); (first | cases eo36 | (injection eo36 with ea_ en_ ec_; (first | subst ea_ | (injection ea_ with ea_; subst ea_)); subst ec_; clear en_)); have GB36 := am gb36; have GG36 := am HG36; clear gb36 gl36 HG36; obtain ⟨_, ce36, hcl36, hM36, hcc36, hfr36, _, _⟩ := Kd.S_elem HP231.out [] ((ji33) : Int) p36 q36; obtain ⟨ve36_0, rfl, ge36_0⟩ := hM36; have hx36_0 := hcc36 0 _ rfl; have hf36_0 := hfr36 0; (try simp only [show ((Kd.slice 3 (Kd.int .i64))).sz = 1 from rfl, Nat.mul_one, Nat.add_zero] at hx36_0); (try simp only [show ((Kd.slice 3 (Kd.int .i64))).sz = 1 from rfl, Nat.mul_one, Nat.add_zero] at hf36_0); (try clear hM36); clear hcl36 hcc36 hfr36; replace p36 := eq_true p36; replace q36 := eq_true q36; have n_ := am (Kd.S_mono (ok' := (fun k_ => some k_ ≠ (.slice Ao40 t249.length co40 : Value).ownBlock)) HP231.out (fun k_ hk => hk.2)); clear HP231; have HP231 := n_; clear n_; have HX44 := am (show Kd.S (Kd.slice 3 (Kd.int .i64)) 30 w39 w.heap.size (fun k_ => ((fun _ => True)) k_ ∧ ¬ ((fun k_ => some k_ = (.slice Ao40 t249.length co40 : Value).ownBlock)) k_) (.slice (some ⟨go36, 0, none⟩) x231000_1.length co36) x231000_1 from (ks (Kd.S_mono HP231.out (fun k_ hk => ⟨trivial, fun e_ => hk e_⟩)))); obtain ⟨oki44, ce44, hcl44, hM44, hcc44, hfr44, hoki44, hH44⟩ := Kd.S_elem HX44.out [] ((ji33) : Int) dt (by have h_ : ((ji33) : Int) < ((x231000_1.length : Int) : Int) := dt; first | exact h_ | (have e_ := (Kd.S_reads' HP231.out).1; omega) | simpa using h_); obtain ⟨ve44_0, rfl, ge44_0⟩ := hM44; have HP44 := Kd.S_seg hH44 dt (by have h_ : ((ji33) : Int) < ((x231000_1.length : Int) : Int) := dt; first | exact h_ | (have e_ := (Kd.S_reads' HP231.out).1; omega) | simpa using h_) (seg := [.slice Ao40 t249.length co40]) (j := 0) (show 1 ≤ 1 from by decide) (x' := t249) (Kd.M_row (Kd.R_mono (Kd.R_tight rfl (Kd.R_mono (ok' := fun k_ => ((fun _ => True)) k_ ∧ k_ ≠ go36) (Kd.R_apart' (HO252.out) (Kd.S_typed HP231.out) (by decide)) (fun k_ hk => ⟨trivial, fun e_ => (hk.2) (by rw [e_]; rfl)⟩))) (fun _ h_ => Or.inr (h_)))) (fun _ hk => hk) (fun k_ hk_ => ((Kd.R_mono (ok' := fun k_ => ((fun _ => True)) k_ ∧ k_ ≠ go36) (Kd.R_apart' (HO252.out) (Kd.S_typed HP231.out) (by decide)) (fun k_ hk => ⟨trivial, fun e_ => (hk.2) (by rw [e_]; rfl)⟩))).1 k_ hk_.symm); have hx44_0 := hcc44 0 _ rfl; (try simp only [show ((Kd.slice 3 (Kd.int .i64))).sz = 1 from rfl, Nat.mul_one, Nat.add_zero] at hx44_0); have hf44_0 := hfr44 0; (try simp only [show ((Kd.slice 3 (Kd.int .i64))).sz = 1 from rfl, Nat.mul_one, Nat.add_zero] at hf44_0); (try clear hM44); clear hcl44 hcc44 hfr44 hoki44 hH44; (try simp only [show ((Kd.slice 3 (Kd.int .i64))).sz = 1 from rfl, Nat.mul_one, Nat.add_zero] at HP44)) | ((with_reducible refine gate_store (t := 30) (p := 42) rfl ?_); refine store_event (t := 30) (p := 42) (v := ?vo_w45) (w1 := (w39.setCell ⟨go36, ((ji33) : Int).toNat, none⟩ (.slice Ao40 t249.length co40))) ?hg ?ho ?hn ?hr ?_; (case ho => rfl); (case hg => rfl); (case hn => rfl); (case hr => first | (go_simp; done) | (go_simp; rfl)); intro w45 hw; have hg : w39.grownBy w45 (some go36) := (by rw [hw]; exact HP44.2); have hp_ : Kd.S (Kd.slice 3 (Kd.int .i64)) 30 w45 w.heap.size (fun _ => True) (.slice (some ⟨go36, 0, none⟩) x231000_1.length co36) y253 := (by rw [hw, Ny253.out]; exact HP44.1); clear HP44; have n0_ := am (hp_); have n1_ := am (blk_grown (g := gb229) (o := .cells #[.slice none 0 0] 29 (0, 0)) (kb BK229.out) hg (Kd.S_ne HP231.out BK229.out (by decide))); have n2_ := am (blk_grown (g := gb230) (o := .cells #[.slice (some ⟨go36, 0, none⟩) x231000_1.length co36] 29 (0, 0)) (kb BK230.out) hg (Kd.S_ne HP231.out BK230.out (by decide))); have n3_ := am (IsS107.grown (si HI0.out) hg (IsS107.own_neS HI0.out HP231.out (by decide))); have n4_ := am ((by rw [hw]; exact below_set (HB.out) (Nat.le_trans HL.out GB36.out) : Below w0.heap.size w0 w45)); have n5_ := am (KeepBut.trans (kp HK.out) (KeepBut.of_grown hg g) (Kd.S_base2 HP231.out)); clear HP231; clear BK229; clear BK230; clear HI0; clear HB; clear HK; clear HO252; have HP231 := n0_; have BK229 := n1_; have BK230 := n2_; have HI0 := n3_; have HB := n4_; have HK := n5_; clear n0_ n1_ n2_ n3_ n4_ n5_; clear hg hw hp_; have hcz46_0 : w45.cell? ⟨gb230, 0, none⟩ = some (.slice (some ⟨go36, 0, none⟩) x231000_1.length co36) := cl BK230 0; have hfz46_0 := blk_frozen BK230.out 0; have p254 : 0 ≤ ((ji33) : Int) := dt; have q254 : (ji33) < (y253.length : Int) := (by have h_ : ((ji33) : Int) < ((x231000_1.length : Int) : Int) := dt; first | (have e_ := (Kd.S_reads' HP231.out).1; omega) | simpa only [Ny253.out, List.length_set] using h_); have ql254 : (((ji33) : Int) < ((x231000_1.length : Int) : Int)) = True := eq_true dt; obtain ⟨ad254, A254_0, c254_0, e254, hx254_0, hl254_0, hi254_0⟩ := at_L3 (Kd.S_reads' HP231.out).2.2 (ji33) p254 q254; obtain rfl : (⟨go36, 0, none⟩ : Addr) = ad254 := (by injection e254); obtain ⟨ce254, hce254, hMe254, hcc254⟩ := Kd.S_get HP231.out [] (ji33) p254 (by first | exact q254 | exact dt | (have e_ := (Kd.S_reads' HP231.out).1; omega)); obtain ⟨ve254_0, rfl, ge254_0⟩ := hMe254; have hv254_0 := hcc254 0 _ rfl; rw [Nat.add_zero, show ((Kd.slice 3 (Kd.int .i64))).sz = 1 from rfl, Nat.mul_one] at hv254_0; replace hv254_0 := oj (hv254_0.symm.trans hx254_0); rw [hv254_0] at ge254_0; have HL254_0 := am (show Kd.R (Kd.int .i64) 3 _ _ _ _ (rd_L3 y253 (ji33)) from ge254_0); clear hv254_0 ge254_0; clear hcc254 hce254; (first | simp only [add_plain] at hx254_0 | simp only [add_at] at hx254_0 | simp only [Addr.add, Nat.zero_add] at hx254_0 | skip); have HR254_0 := am hi254_0; have HC254_0 := am hl254_0; clear hi254_0 hl254_0; replace p254 := eq_true p254; replace q254 := eq_true q254; have p_ := NB229_0.out; have hcz48_0 : w45.cell? ⟨gb229, 0, none⟩ = some (.slice none 0 0) := cl BK229 0; have hfz48_0 := blk_frozen BK229.out 0))
        have hji_ : (0 : Int) ≤ ji33 := of_decide_eq_true (by assumption)
        have hjl_ : ji33 < (y253.length : Int) := by first | exact of_decide_eq_true (by assumption) | (rw [Ny253.out, List.length_set]; exact of_decide_eq_true (by assumption))
        obtain ⟨gl, eA_, hgl, ⟨clr, hbl⟩, hcl, hS6⟩ := six_ok HP231.out ji33 hji_ hjl_ (by first | exact hx254_0 | (rw [add_plain]; exact hx254_0)) C256.out
        subst eA_
        have GL := am hgl
        have HBL := am hbl
        have HS6 := am hS6
        have HLN := am C256.out
        have z0 := (hcl 250 (by omega)).1
        have z1 := (hcl 251 (by omega)).1
        have z2 := (hcl 252 (by omega)).1
        have z3 := (hcl 253 (by omega)).1
        have z4 := (hcl 254 (by omega)).1
        have z5 := (hcl 255 (by omega)).1
        have f0 := (hcl 250 (by omega)).2
        have f1 := (hcl 251 (by omega)).2
        have f2 := (hcl 252 (by omega)).2
        have f3 := (hcl 253 (by omega)).2
        have f4 := (hcl 254 (by omega)).2
        have f5 := (hcl 255 (by omega)).2
        have b0 : ((250 : Int) < ((rd_L3 y253 ji33).length : Int)) = True := eq_true (by have := C256.out; omega)
        have b1 : ((251 : Int) < ((rd_L3 y253 ji33).length : Int)) = True := eq_true (by have := C256.out; omega)
        have b2 : ((252 : Int) < ((rd_L3 y253 ji33).length : Int)) = True := eq_true (by have := C256.out; omega)
        have b3 : ((253 : Int) < ((rd_L3 y253 ji33).length : Int)) = True := eq_true (by have := C256.out; omega)
        have b4 : ((254 : Int) < ((rd_L3 y253 ji33).length : Int)) = True := eq_true (by have := C256.out; omega)
        have b5 : ((255 : Int) < ((rd_L3 y253 ji33).length : Int)) = True := eq_true (by have := C256.out; omega)
        have n1 : gl ≠ gb229 := blk_ne hbl BK229.out (by decide)
        have n2 : gb229 ≠ gl := fun e => n1 e.symm
        have n3 : gl ≠ gb230 := blk_ne hbl BK230.out (by decide)
        have n4 : gb230 ≠ gl := fun e => n3 e.symm
        clear hcl hbl hgl hS6 hji_ hjl_
        go_wp2
        refine bodyPost_ret (results_cell_row rfl _ _ gb229 29 #[.slice (some ⟨go36, 0, none⟩) x231000_1.length co36] (0, 0) _ rfl (blk_put (cs := #[.slice none 0 0]) (six_blk BK229.out n2) 0 _ rfl) Try.underlying29 rfl (by kernel_rfl)) rfl ?_
        exact ⟨_, rfl, Kd.S_mono (Kd.S_far (p := ⟨gb229, 0, none⟩) (Kd.S_types HS6.out (six_blk BK229.out n2) (by decide)) (fun _ hk => hk.2) (.slice (some ⟨go36, 0, none⟩) x231000_1.length co36)) (fun _ hk => trivial), (six_state HI0.out (IsS107.ne_blk HI0.out HBL.out (by decide))).far (p := ⟨gb229, 0, none⟩) NB0_229.out _, below_set (six_below HB.out (Nat.le_trans HW0.out GL.out)) GE229.out, keep_far (p := ⟨gb229, 0, none⟩) (six_keep HK.out GL.out) GW229.out _⟩
       ·rw [if_neg c35] at H
        exact absurd H (by simp)
      ·rw [if_neg c34] at H
       exact absurd H (by simp)
     ·rw [if_neg c32] at H
      have c32b0 : ((t249.length : Int) == 256) = false := beq_eq_false_iff_ne.mpr c32
      have c32b1 : ((t249.length : Int) != 256) = true := bne_iff_ne.mpr c32
      obtain ⟨ji49, hji49⟩ : ∃ j_ : Int, (wrap64 ((wrap64 (1 + t231)) - 1)) = j_ := ⟨_, rfl⟩
      replace H : (if 0 ≤ (ji49) then (if (ji49) < (x231000_1.length : Int) then (if (rd_L3 x231000_1 (ji49)).length = 256 then (some (lastSix x231000_1 (ji49), t247, t248)) else (none)) else (none)) else (none)) = some (r1, r2, r3) := by first | (rw [hji49] at H; exact H) | (simp only [hji49] at H ⊢; exact H)
      (try rw [hji49] at A18)
      (try rw [hji49] at A30)
      (try rw [hji49] at A31)
      have hji49w : (IntKind.i64.wrap ((wrap64 (1 + t231)) - 1)) = ji49 := (i64_w _).trans hji49
      by_cases c50 : 0 ≤ (ji49)
      ·rw [if_pos c50] at H
       have c50b0 : decide (0 ≤ (ji49)) = true := decide_eq_true c50
       clear c50
       by_cases c51 : (ji49) < (x231000_1.length : Int)
       ·rw [if_pos c51] at H
        have c51b0 : decide ((ji49) < (x231000_1.length : Int)) = true := decide_eq_true c51
        clear c51
        by_cases c256 : (rd_L3 x231000_1 (ji49)).length = 256
        rotate_left
        ·rw [if_neg c256] at H
         exact absurd H (by simp)
        rw [if_pos c256] at H
        have C256 := am c256
        clear c256
        simp only [Option.some.injEq, Prod.mk.injEq] at H
        obtain ⟨rfl, rfl, rfl⟩ := H
        go_upto_region 12 with (first | ((with_reducible refine gate_callee (f := 58) rfl ?_); refine goesM_ (some 26) rfl rfl Try.func58 #[.pointer (some ⟨g, 0, none⟩), .int .i64 4] ?_; (with_reducible refine (spec_l1Once.calls g s0_0 x1001_1 x1002_1 4 false t243 t244 w0 _ ?side1 ?side2 A18.out).mono ?_); (case side1 => exact si HI0.out); (case side2 => exact bi HB.out); rintro e w52 ⟨rfl, hi, hb, hk⟩; refine ⟨_, rfl, ?_⟩; replace HP231 := am (Kd.S_mono (Kd.S_keep (IsS107.apartS (show IsS107 w0 _ g s0_0 x1001_1 x1002_1 from si HI0.out) (ks HP231.out) (by decide)) hk (fun _ h => h.2)) (fun _ h => h.1)); replace BK229 := am (kB hk (kb BK229.out) NB229_0); replace BK230 := am (kB hk (kb BK230.out) NB230_0); replace HK := am (KeepBut.trans (kp HK.out) hk (.inl rfl)); replace HB := am (hb); replace HI0 := am (hi); (try clear hb); (try clear hk); (try clear hi)) | ((with_reducible refine gate_callee (f := 107) rfl ?_); refine goesM_ (some 30) rfl rfl Try.func107 #[.pointer (some ⟨g, 0, none⟩)] ?_; (with_reducible refine (spec_l2Main.calls g s0_0 t243 t244 t246 t247 t248 w0 _ ?side1 ?side2 A30.out).mono ?_); (case side1 => exact si HI0.out); (case side2 => exact bi HB.out); rintro e w53 ⟨rfl, hi, hb, hk⟩; refine ⟨_, rfl, ?_⟩; replace HP231 := am (Kd.S_mono (Kd.S_keep (IsS107.apartS (show IsS107 w0 _ g s0_0 t243 t244 from si HI0.out) (ks HP231.out) (by decide)) hk (fun _ h => h.2)) (fun _ h => h.1)); replace BK229 := am (kB hk (kb BK229.out) NB229_0); replace BK230 := am (kB hk (kb BK230.out) NB230_0); replace HK := am (KeepBut.trans (kp HK.out) hk (.inl rfl)); replace HB := am (hb); replace HI0 := am (hi); (try clear hb); (try clear hk); (try clear hi)) | ((with_reducible refine gate_callee (f := 106) rfl ?_); refine goesM_ (some 31) rfl rfl Try.func106 #[.string t246] ?_; (with_reducible refine (spec_Assemble.calls k1 t246 t249 t250 _ A31.out).mono ?_); rintro e w54 ⟨v251, rfl, ho0, hb⟩; refine ⟨_, rfl, ?_⟩; replace HP231 := am (Kd.S_elder' (ks HP231.out) (Kd.R_base ho0) hb); have HO252 := am (Kd.R_lower ho0 (keep_size (w := w) (g := g) (row := none) (kp HK.out))); replace BK229 := am (bb BK229 hb); replace BK230 := am (bb BK230 hb); replace HI0 := am (IsS107.below (si HI0.out) hb); replace HK := am (KeepBut.trans (kp HK.out) (KeepBut.of_below hb g none) (.inl rfl)); replace HB := am (below_step (bi HB.out) hb); (try clear hb); (try clear hk); (try clear hi); (try clear ho0); obtain ⟨Ao55, co55, eo55⟩ := Kd.R_slice HO252.out; subst eo55; have p_ := NB230_229.out; have p_ := NB230_0.out; have hcz58_0 : w54.cell? ⟨gb230, 0, none⟩ = some (u231000) := cl BK230 0; have hfz58_0 := blk_frozen BK230.out 0; obtain ⟨Ao59, co59, eo59⟩ := Kd.S_slice HP231.out; subst eo59; have p255 : 0 ≤ ((ji49) : Int) := dt; have q255 : (ji49) < (x231000_1.length : Int) := dt; obtain ⟨ad255, A255_0, c255_0, e255, hx255_0, hl255_0, hi255_0⟩ := at_L3 (Kd.S_reads' HP231.out).2.2 (ji49) p255 q255; cases e255; obtain ⟨ce255, hce255, hMe255, hcc255⟩ := Kd.S_get HP231.out [] (ji49) p255 (by first | exact q255 | exact dt | (have e_ := (Kd.S_reads' HP231.out).1; omega)); obtain ⟨ve255_0, rfl, ge255_0⟩ := hMe255; have hv255_0 := hcc255 0 _ rfl; rw [Nat.add_zero, show ((Kd.slice 3 (Kd.int .i64))).sz = 1 from rfl, Nat.mul_one] at hv255_0; replace hv255_0 := oj (hv255_0.symm.trans hx255_0); rw [hv255_0] at ge255_0; have HL255_0 := am (show Kd.R (Kd.int .i64) 3 _ _ _ _ (rd_L3 x231000_1 (ji49)) from ge255_0); clear hv255_0 ge255_0; clear hcc255 hce255; have HR255_0 := am hi255_0; have HC255_0 := am hl255_0; clear hi255_0 hl255_0; replace p255 := eq_true p255; replace q255 := eq_true q255; have p_ := NB229_0.out; have hcz61_0 : w54.cell? ⟨gb229, 0, none⟩ = some (.slice none 0 0) := cl BK229 0; have hfz61_0 := blk_frozen BK229.out 0))
        have hji_ : (0 : Int) ≤ ji49 := of_decide_eq_true (by assumption)
        have hjl_ : ji49 < (x231000_1.length : Int) := by first | exact of_decide_eq_true (by assumption) | (rw [Ny0.out, List.length_set]; exact of_decide_eq_true (by assumption))
        obtain ⟨gl, eA_, hgl, ⟨clr, hbl⟩, hcl, hS6⟩ := six_ok HP231.out ji49 hji_ hjl_ (by first | exact hx255_0 | (rw [add_plain]; exact hx255_0)) C256.out
        subst eA_
        have GL := am hgl
        have HBL := am hbl
        have HS6 := am hS6
        have HLN := am C256.out
        have z0 := (hcl 250 (by omega)).1
        have z1 := (hcl 251 (by omega)).1
        have z2 := (hcl 252 (by omega)).1
        have z3 := (hcl 253 (by omega)).1
        have z4 := (hcl 254 (by omega)).1
        have z5 := (hcl 255 (by omega)).1
        have f0 := (hcl 250 (by omega)).2
        have f1 := (hcl 251 (by omega)).2
        have f2 := (hcl 252 (by omega)).2
        have f3 := (hcl 253 (by omega)).2
        have f4 := (hcl 254 (by omega)).2
        have f5 := (hcl 255 (by omega)).2
        have b0 : ((250 : Int) < ((rd_L3 x231000_1 ji49).length : Int)) = True := eq_true (by have := C256.out; omega)
        have b1 : ((251 : Int) < ((rd_L3 x231000_1 ji49).length : Int)) = True := eq_true (by have := C256.out; omega)
        have b2 : ((252 : Int) < ((rd_L3 x231000_1 ji49).length : Int)) = True := eq_true (by have := C256.out; omega)
        have b3 : ((253 : Int) < ((rd_L3 x231000_1 ji49).length : Int)) = True := eq_true (by have := C256.out; omega)
        have b4 : ((254 : Int) < ((rd_L3 x231000_1 ji49).length : Int)) = True := eq_true (by have := C256.out; omega)
        have b5 : ((255 : Int) < ((rd_L3 x231000_1 ji49).length : Int)) = True := eq_true (by have := C256.out; omega)
        have n1 : gl ≠ gb229 := blk_ne hbl BK229.out (by decide)
        have n2 : gb229 ≠ gl := fun e => n1 e.symm
        have n3 : gl ≠ gb230 := blk_ne hbl BK230.out (by decide)
        have n4 : gb230 ≠ gl := fun e => n3 e.symm
        clear hcl hbl hgl hS6 hji_ hjl_
        go_wp2
        refine bodyPost_ret (results_cell_row rfl _ _ gb229 29 #[.slice (some ad255) x231000_1.length co59] (0, 0) _ rfl (blk_put (cs := #[.slice none 0 0]) (six_blk BK229.out n2) 0 _ rfl) Try.underlying29 rfl (by kernel_rfl)) rfl ?_
        exact ⟨_, rfl, Kd.S_mono (Kd.S_far (p := ⟨gb229, 0, none⟩) (Kd.S_types HS6.out (six_blk BK229.out n2) (by decide)) (fun _ hk => hk.2) (.slice (some ad255) x231000_1.length co59)) (fun _ hk => trivial), (six_state HI0.out (IsS107.ne_blk HI0.out HBL.out (by decide))).far (p := ⟨gb229, 0, none⟩) NB0_229.out _, below_set (six_below HB.out (Nat.le_trans HW0.out GL.out)) GE229.out, keep_far (p := ⟨gb229, 0, none⟩) (six_keep HK.out GL.out) GW229.out _⟩
       ·rw [if_neg c51] at H
        exact absurd H (by simp)
      ·rw [if_neg c50] at H
       exact absurd H (by simp)

/-! ### spec_l2Draw (mine) -/
/-- A row of the call's own that may begin inside its block, as an element. -/
def cutK {α : Type} (e : Nat) (d : Kd α) : Kd (List α) where
 sz := 1
 E := e :: d.E
 K := (Kd.slice e d).K
 M := fun w base ok xs cs => ∃ v, cs = [v] ∧ d.Q e w base ok v xs
 K_len := fun h => (Kd.slice e d).K_len h
 K_one := fun h => (Kd.slice e d).K_one h
 K_below := fun hb h => (Kd.slice e d).K_below hb h
 K_of_M := by
  rintro w base ok x cs ⟨v, rfl, h⟩
  obtain ⟨A, c, rfl, hl, hC⟩ := Kd.Q_reads h
  exact ⟨A, c, rfl, hl, hC⟩
 M_mono := by
  rintro w base ok ok' x cs hok ⟨v, rfl, h⟩
  exact ⟨v, rfl, Kd.Q_mono h hok⟩
 M_bound := by
  rintro w base ok x cs ⟨v, rfl, h⟩
  exact ⟨v, rfl, Kd.Q_bound h⟩
 M_move := by
  rintro w w1 base ok x cs hm ⟨v, rfl, h⟩
  exact ⟨v, rfl, Kd.Q_move h hm⟩
 M_lower := by
  rintro w base base' ok x cs hb ⟨v, rfl, h⟩
  exact ⟨v, rfl, Kd.Q_lower h hb⟩
theorem S_cut {α : Type} {e e' : Nat} {d : Kd α} {w : World} {base : Nat} {ok : Nat → Prop} {v : Value} {xs : List (List α)} (h : Kd.S (Kd.slice e d) e' w base ok v xs) : Kd.S (cutK e d) e' w base ok v xs := by
 obtain ⟨f, h0, inner, ho, hr⟩ := h
 refine ⟨f, h0, inner, ho, hr.1, fun j p hj => ?_⟩
 obtain ⟨u, hu, hR⟩ := hr.2 j p hj
 exact ⟨u, hu, Kd.Q_of_R hR⟩
theorem C_uncut {α : Type} {e : Nat} {d : Kd α} {w : World} {A : Option Addr} {n : Nat} {xs : List (List α)} (h : (cutK e d).C w A n xs) : (Kd.slice e d).C w A n xs := h
section
variable {W : World} {base go n cap : Nat} {ok : Nat → Prop} {X : List (List Int)}
/-- The first row's header. -/
theorem first_row (h : Kd.S (Kd.slice 3 (Kd.int .i64)) 30 W base ok (.slice (some ⟨go, 0, none⟩) n cap) X) (h0 : 0 < X.length) :
  ∃ A c, W.cell? ⟨go, 0, none⟩ = some (.slice A (rd_L3 X 0).length c) ∧ W.frozen? ⟨go, 0, none⟩ = false ∧ Kd.R (Kd.int .i64) 3 W base ok (.slice A (rd_L3 X 0).length c) (rd_L3 X 0) := by
 have hn := (Kd.S_reads' h).1
 obtain ⟨oki, cc, _, hM, hcc, hf, hoki, _⟩ := Kd.S_elem h [] 0 (by omega) (by omega)
 obtain ⟨v, rfl, hR⟩ : ∃ v, cc = [v] ∧ Kd.R (Kd.int .i64) 3 W base oki v (X.getD (0 : Int).toNat []) := hM
 obtain ⟨A, c, rfl⟩ := Kd.R_slice hR
 exact ⟨A, c, hcc 0 _ rfl, hf 0, Kd.R_mono hR (fun k hk => (hoki k hk).1)⟩
/-- The first row is a cut of what it was. -/
theorem first_cut (h : Kd.S (Kd.slice 3 (Kd.int .i64)) 30 W base ok (.slice (some ⟨go, 0, none⟩) n cap) X) (h0 : 0 < X.length) {A : Option Addr} {m c : Nat} (hx : W.cell? ⟨go, 0, none⟩ = some (.slice A m c)) (h1 : 1 ≤ (rd_L3 X 0).length) :
  Kd.S (cutK 3 (Kd.int .i64)) 30 (W.setCell ⟨go, 0, none⟩ (.slice (if c = 1 then A else A.map (·.add 1)) (m - 1) (c - 1))) base ok (.slice (some ⟨go, 0, none⟩) n cap) (X.set 0 ((rd_L3 X 0).drop 1)) := by
 have hn := (Kd.S_reads' h).1
 obtain ⟨oki, cc, _, hM, hcc, hf, hoki, hH⟩ := Kd.S_elem (S_cut h) [] 0 (by omega) (by omega)
 obtain ⟨v, rfl, hQ⟩ : ∃ v, cc = [v] ∧ Kd.Q (Kd.int .i64) 3 W base oki v (X.getD (0 : Int).toNat []) := hM
 have hv : W.cell? ⟨go, 0, none⟩ = some v := hcc 0 _ rfl
 rw [hx] at hv
 obtain rfl := oj hv
 have hd := Kd.Q_drop (k := 1) hQ h1
 have := (Kd.S_seg (okg := fun _ => False) (okp := oki) (seg := [.slice (if c = 1 then A else A.map (·.add 1)) (m - 1) (c - 1)]) (j := 0) (Kd.H_mono hH (fun k hk => ⟨hk, fun h => h⟩)) (by omega) (by omega) (by show 0 + 1 ≤ 1; omega) (x' := (rd_L3 X 0).drop 1) ⟨_, rfl, hd⟩ (fun k hk => .inl hk) (fun k hk => hk.elim)).1
 exact this
/-- A store into the first row. -/
theorem first_put (h : Kd.S (Kd.slice 3 (Kd.int .i64)) 30 W base ok (.slice (some ⟨go, 0, none⟩) n cap) X) (h0 : 0 < X.length) {A : Option Addr} {m c : Nat} (hx : W.cell? ⟨go, 0, none⟩ = some (.slice A m c)) (h3 : 3 < (rd_L3 X 0).length) :
  ∃ gl, A = some ⟨gl, 0, none⟩ ∧ m = (rd_L3 X 0).length ∧ base ≤ gl ∧ (∃ cells, W.heap[gl]? = some (.cells cells 3 (0, 0))) ∧ (∃ u, W.cell? ⟨gl, 3, none⟩ = some (.int .i64 u)) ∧ W.frozen? ⟨gl, 3, none⟩ = false ∧
   ∀ p : Int, Kd.S (Kd.slice 3 (Kd.int .i64)) 30 (W.setCell ⟨gl, 3, none⟩ (.int .i64 p)) base ok (.slice (some ⟨go, 0, none⟩) n cap) (X.set 0 ((rd_L3 X 0).set 3 p)) := by
 have hn := (Kd.S_reads' h).1
 obtain ⟨oki, cc, _, hM, hcc, hf, hoki, hH⟩ := Kd.S_elem h [] 0 (by omega) (by omega)
 obtain ⟨v, rfl, hR⟩ : ∃ v, cc = [v] ∧ Kd.R (Kd.int .i64) 3 W base oki v (X.getD (0 : Int).toNat []) := hM
 have hv : W.cell? ⟨go, 0, none⟩ = some v := hcc 0 _ rfl
 rw [hx] at hv
 obtain rfl := oj hv
 have e2 : X.getD (0 : Int).toNat [] = rd_L3 X 0 := rfl
 rw [e2] at hR
 obtain ⟨gl, cap', e3, hg, hgl, hcells⟩ := Kd.R_form hR (by omega)
 injection e3 with a1 a2 a3
 subst a1 a2 a3
 have hok : oki gl := hR.1 gl rfl
 obtain ⟨hc3, hf3⟩ := Kd.R_celln 0 hR 3 (by omega) (by omega)
 refine ⟨gl, rfl, rfl, hg, hcells, ⟨_, hc3⟩, hf3, fun p => ?_⟩
 exact Kd.H_back (i := 0) (Kd.H_step hH (fun k _ hn _ => Below.heap_setCell _ _ _ k (fun e => hn (by rw [e]; exact hok)))) ⟨_, rfl, Kd.R_putn hR 3 p⟩ (fun _ hk => hk)
end
def spec_l2Draw.f (k : Nat) (s0_0 : List Int) (s0_1 : Int) (s0_2 : Int) : Option ((List (List Int)) × Int × Int) :=
 (spec_l2DrawRight.f k s0_0 s0_1 s0_2).bind fun q => (spec_l1Below.f s0_0 q.2.1 q.2.2 15).bind fun b =>
  if b.1 = 0 then (if 0 < q.1.length ∧ 1 ≤ (rd_L3 q.1 0).length then some (q.1.set 0 ((rd_L3 q.1 0).drop 1), b.2.1, b.2.2) else none)
  else if b.1 = 1 then (if 0 < q.1.length ∧ 3 < (rd_L3 q.1 0).length then (spec_l1PickInt.f s0_0 b.2.1 b.2.2 [-1, 256]).bind fun p => some (q.1.set 0 ((rd_L3 q.1 0).set 3 p.1), p.2.1, p.2.2) else none)
  else if b.1 = 2 then some ([], b.2.1, b.2.2) else some (q.1, b.2.1, b.2.2)
/-- What is known where the drawn image lies in its variable, and the cursor behind the draw of what becomes of it. -/
structure L2 (w0 w W : World) (g a b : Nat) (s0 : List Int) (x y : Int) (A : Option Addr) (c : Nat) (X : List (List Int)) : Prop where
 st : IsS107 w0 W g s0 x y
 keep : KeepBut w W g none
 below : Below w0.heap.size w0 W
 hw : w0.heap.size ≤ w.heap.size
 ba : W.heap[a]? = some (.cells #[.slice none 0 0] 29 (0, 0))
 bb : W.heap[b]? = some (.cells #[.slice A X.length c] 29 (0, 0))
 row : Kd.S (Kd.slice 3 (Kd.int .i64)) 30 W w.heap.size (fun _ => True) (.slice A X.length c) X
 ga : w.heap.size ≤ a
 gb : w.heap.size ≤ b
 ab : a ≠ b
theorem L2.call {w0 w W W' : World} {g a b : Nat} {s0 : List Int} {x y x' y' : Int} {A : Option Addr} {c : Nat} {X : List (List Int)} (h : L2 w0 w W g a b s0 x y A c X) (hi : IsS107 w0 W' g s0 x' y') (hb : Below w0.heap.size w0 W') (hk : KeepBut W W' g none) : L2 w0 w W' g a b s0 x' y' A c X :=
 ⟨hi, KeepBut.trans h.keep hk (.inl rfl), hb, h.hw, KeepBut.blk hk h.ba (fun e => IsS107.ne_blk h.st h.ba (by decide) e.symm) (by simp), KeepBut.blk hk h.bb (fun e => IsS107.ne_blk h.st h.bb (by decide) e.symm) (by simp),
  Kd.S_mono (Kd.S_keep (IsS107.apartS h.st h.row (by decide)) hk (fun _ h => h.2)) (fun _ _ => trivial), h.ga, h.gb, h.ab⟩
/-- The result's block, and the end. -/
theorem L2.done {w0 w W : World} {g a : Nat} {s0 : List Int} {x y : Int} {v : Value} {Y : List (List Int)} (st : IsS107 w0 W g s0 x y) (keep : KeepBut w W g none) (below : Below w0.heap.size w0 W) (hw : w0.heap.size ≤ w.heap.size)
  (ba : W.heap[a]? = some (.cells #[.slice none 0 0] 29 (0, 0))) (row : Kd.S (cutK 3 (Kd.int .i64)) 30 W w.heap.size (fun _ => True) v Y) (ga : w.heap.size ≤ a) :
  (W.setCell ⟨a, 0, none⟩ v).heap[a]? = some (.cells #[v] 29 (0, 0)) ∧ Kd.S (cutK 3 (Kd.int .i64)) 30 (W.setCell ⟨a, 0, none⟩ v) w.heap.size (fun _ => True) v Y ∧ IsS107 w0 (W.setCell ⟨a, 0, none⟩ v) g s0 x y ∧ Below w0.heap.size w0 (W.setCell ⟨a, 0, none⟩ v) ∧ KeepBut w (W.setCell ⟨a, 0, none⟩ v) g none :=
 ⟨blk_put ba 0 _ rfl, Kd.S_mono (Kd.S_far (p := ⟨a, 0, none⟩) (Kd.S_types row ba (by decide)) (fun _ hk => hk.2) v) (fun _ _ => trivial), st.far (p := ⟨a, 0, none⟩) (IsS107.ne_blk st ba (by decide)) v, below_set below (Nat.le_trans hw ga), keep_far (p := ⟨a, 0, none⟩) keep ga v⟩
theorem spec_l2Draw.calls (k : Nat) (g : Nat) (s0_0 : List Int) (s0_1 : Int) (s0_2 : Int) (r1 : List (List Int)) (r2 : Int) (r3 : Int) (w0 w : World) (hI : IsS107 w0 w g s0_0 s0_1 s0_2) (hB : Below w0.heap.size w0 w) (h : spec_l2Draw.f k s0_0 s0_1 s0_2 = some (r1, r2, r3)) :
  Calls Try.prog 65 #[.pointer (some ⟨g, 0, none⟩)] w fun e w' => ∃ v0_ : Value, e = .returned (.agg #[v0_]) ∧ Kd.S (cutK 3 (Kd.int .i64)) 30 w' w.heap.size (fun _ => True) v0_ r1 ∧ IsS107 w0 w' g s0_0 r2 r3 ∧ Below w0.heap.size w0 w' ∧ KeepBut w w' g none := by
 have hu29 := Try.underlying29
 unfold spec_l2Draw.f at h
 obtain ⟨⟨X, x1, x2⟩, hq, h2⟩ := Option.bind_eq_some_iff.mp h
 obtain ⟨⟨t, y1, y2⟩, hp, h3⟩ := Option.bind_eq_some_iff.mp h2
 clear h h2
 have HI := am hI
 have HB := am hB
 have HQ := am hq
 have HP := am hp
 have H3 := am h3
 clear hI hB hq hp h3
 go_enter Try.func65, Try.ntmps65
 go_wp2_with fail
 refine (spec_l2DrawRight.calls k g s0_0 s0_1 s0_2 X x1 x2 w0 _ ?i ?b HQ.out).mono ?_
 case i => exact IsS107.alloc HI.out _
 case b => exact below_alloc HB.out _
 rintro e W1 ⟨v0, rfl, hS, hi, hb, hk⟩
 obtain ⟨A, c, rfl⟩ := Kd.S_slice hS
 have hga : w.heap.size ≠ g := fun e => by have := IsS107.lt HI.out; omega
 have ba := KeepBut.blk hk (g' := w.heap.size) (alloc_at w _ _ rfl) hga (by simp)
 have hsz : w.heap.size + 1 ≤ W1.heap.size := by have := hk.1; rw [alloc_size] at this; omega
 have hl : L2 w0 w (W1.alloc (.cells #[.slice A X.length c] 29)) g w.heap.size W1.heap.size s0_0 x1 x2 A c X :=
  ⟨hi.alloc _, keep_alloc (KeepBut.trans (keep_alloc (KeepBut.refl w g none) _) hk (.inl rfl)) _, below_alloc hb _, HB.out.size, blk_alloc ba _, blk_new W1 _, Kd.S_alloc (Kd.S_lower hS (by rw [alloc_size]; omega)) _, Nat.le_refl _, by omega, by omega⟩
 have HL := am hl
 clear hS hi hb hk ba hl hsz
 go_wp2_with fail
 generalize W1.alloc (.cells #[.slice A X.length c] 29) = W2 at *
 generalize W1.heap.size = b at *
 refine (spec_l1Below.calls g s0_0 x1 x2 15 t y1 y2 w0 _ HL.out.st HL.out.below HP.out).mono ?_
 rintro e W3 ⟨rfl, hi, hb, hk⟩
 have H := am (HL.out.call hi hb hk)
 have h3 := H3.out
 clear HL hi hb hk H3 HQ HP HI HB W2
 have hy0 : W3.cell? ⟨b, 0, none⟩ = some (.slice A X.length c) := (blk_cell H.out.bb 0).trans rfl
 have hyf := blk_frozen H.out.bb 0
 have hz0 : W3.cell? ⟨w.heap.size, 0, none⟩ = some (.slice none 0 0) := (blk_cell H.out.ba 0).trans rfl
 have hzf := blk_frozen H.out.ba 0
 have hab := H.out.ab
 have hba : b ≠ w.heap.size := fun e => hab e.symm
 by_cases t0 : t = 0
 ·subst t0
  rw [if_pos rfl] at h3
  by_cases hc : 0 < X.length ∧ 1 ≤ (rd_L3 X 0).length
  ·rw [if_pos hc] at h3
   simp only [Option.some.injEq, Prod.mk.injEq] at h3
   obtain ⟨rfl, rfl, rfl⟩ := h3
   obtain ⟨go, cap, eA, hgo, _, ⟨cells, hgb⟩⟩ := Kd.S_form H.out.row hc.1
   injection eA with e1 e2 e3
   subst e1 e3
   obtain ⟨A1, c1, hx, hf, hR⟩ := first_row H.out.row hc.1
   have HCUT := am (first_cut H.out.row hc.1 hx hc.2)
   obtain ⟨i0, hi0, hzz⟩ := Option.map_eq_some_iff.1 info3
   simp only [Prod.mk.injEq] at hzz
   have hcut : ∀ W : World, (Instr.slice 30 (.slice A1 (rd_L3 X 0).length c1) (some (.int .i64 1)) none none).run Try.prog W = .ok (.slice (if c1 = 1 then A1 else A1.map (·.add 1)) ((rd_L3 X 0).length - 1) (c1 - 1)) W := cut_from 30 3 .i64 Try.underlying30 hi0 1 hzz.2.1 A1 (rd_L3 X 0).length c1 1 (by omega) (by have := hc.2; omega)
   have HG := am hgb
   have HGO := am hgo
   have hb1 : ((0 : Int) < ((X.length : Nat) : Int)) = True := eq_true (by have := hc.1; omega)
   have hb2 : 0 < X.length := hc.1
   have hb3 : X ≠ [] := fun e => by rw [e] at hb2; exact absurd hb2 (by decide)
   have n1 : go ≠ w.heap.size := blk_ne hgb H.out.ba (by decide)
   have n2 : w.heap.size ≠ go := fun e => n1 e.symm
   have n3 : go ≠ b := blk_ne hgb H.out.bb (by decide)
   have n4 : b ≠ go := fun e => n3 e.symm
   clear hc hR hi0 hzz e2 hgb hgo
   generalize (if c1 = 1 then A1 else A1.map (·.add 1)) = A3 at *
   generalize (rd_L3 X 0).length - 1 = m3 at *
   generalize c1 - 1 = c3 at *
   go_wp2
   go_still_tail 8, (by kernel_rfl)
   go_wp2
   obtain ⟨d1, d2, d3, d4, d5⟩ := L2.done (v := .slice (some ⟨go, 0, none⟩) X.length c) (H.out.st.far (p := ⟨go, 0, none⟩) (IsS107.ne_blk H.out.st HG.out (by decide)) (.slice A3 m3 c3)) (keep_far (p := ⟨go, 0, none⟩) H.out.keep HGO.out (.slice A3 m3 c3)) (below_set H.out.below (Nat.le_trans H.out.hw HGO.out)) H.out.hw (blk_far (p := ⟨go, 0, none⟩) H.out.ba n2 (.slice A3 m3 c3)) (HCUT.out) H.out.ga
   refine bodyPost_ret (results_cell_row rfl _ _ w.heap.size 29 #[.slice (some ⟨go, 0, none⟩) X.length c] (0, 0) _ rfl (blk_drew d1) hu29 rfl (by kernel_rfl)) rfl ?_
   exact ⟨_, rfl, Kd.S_drew d2, IsS107.drew d3, below_drew1 d4, keep_drew d5⟩
  ·rw [if_neg hc] at h3
   cases h3
 ·rw [if_neg t0] at h3
  have e0 : (t == 0) = false := beq_eq_false_iff_ne.mpr t0
  by_cases t1 : t = 1
  ·subst t1
   rw [if_pos rfl] at h3
   by_cases hc : 0 < X.length ∧ 3 < (rd_L3 X 0).length
   ·rw [if_pos hc] at h3
    obtain ⟨⟨p, q1, q2⟩, hpp, h4⟩ := Option.bind_eq_some_iff.mp h3
    simp only [Option.some.injEq, Prod.mk.injEq] at h4
    obtain ⟨rfl, rfl, rfl⟩ := h4
    clear h3 e0 t0
    have HPP := am hpp
    obtain ⟨go, cap, eA, hgo, _, ⟨cells, hgb⟩⟩ := Kd.S_form H.out.row hc.1
    injection eA with e1 e2 e3
    subst e1 e3
    obtain ⟨A1, c1, hx, hf, hR⟩ := first_row H.out.row hc.1
    have HX := am hx
    obtain ⟨gl, eA1, em, hgl, ⟨cl, hgc⟩, _⟩ := first_put H.out.row hc.1 hx hc.2
    subst eA1
    have HG := am hgb
    have HC := am hc
    have HGL := am hgl
    have hb1 : ((0 : Int) < ((X.length : Nat) : Int)) = True := eq_true (by have := hc.1; omega)
    have hb2 : 0 < X.length := hc.1
    have hb3 : X ≠ [] := fun e => by rw [e] at hb2; exact absurd hb2 (by decide)
    have hb4 : ((3 : Int) < (((rd_L3 X 0).length : Nat) : Int)) = True := eq_true (by have := hc.2; omega)
    have n3 : go ≠ b := blk_ne hgb H.out.bb (by decide)
    have n4 : b ≠ go := fun e => n3 e.symm
    clear hc hR e2 hgb hgo hpp hx hf hgc hgl em hy0 hyf hz0 hzf
    go_wp2
    refine start_ (n := 9) (S := fun w' => w'.cell? ⟨b, 0, none⟩ = some (.slice (some ⟨go, 0, none⟩) X.length c) ∧ w'.cell? ⟨go, 0, none⟩ = some (.slice (some ⟨gl, 0, none⟩) (rd_L3 X 0).length c1)) (ds := [8]) (bm 9 0) (by kernel_rfl) rfl (by kernel_rfl) ⟨(blk_cell H.out.bb 0).trans rfl, HX.out⟩ (fun hHeld => ?_)
    have HD : Aside0 (W3.drew.cell? ⟨go, 0, none⟩ = some (.slice (some ⟨gl, 0, none⟩) (rd_L3 X 0).length c1)) := ⟨HX.out⟩
    have H4 : Aside0 (L2 w0 w W3.drew g w.heap.size b s0_0 y1 y2 (some ⟨go, 0, none⟩) c X) := ⟨⟨H.out.st.drew, keep_drew H.out.keep, below_drew1 H.out.below, H.out.hw, blk_drew H.out.ba, blk_drew H.out.bb, Kd.S_drew H.out.row, H.out.ga, H.out.gb, H.out.ab⟩⟩
    clear H HX
    generalize W3.drew = W4 at *
    refine pv_ 0 (some 20) (bm 9 1) ?_
    refine tv_ 1 (some 21) (bm 9 3) hHeld ?_
    refine pv_ 2 (some 22) (bm 9 7) ?_
    refine tv_ 3 (some 23) (bm 9 15) hHeld ?_
    refine pv_ 4 (some 24) (bm 9 31) ?_
    refine ov_ 5 (some 25) (bm 9 63) (fun K hK => ?_)
    refine value_ (w1 := W4.alloc (.cells #[.int .i64 (-1), .int .i64 256] 3)) (v := .slice (some ⟨W4.heap.size, 0, none⟩) 2 2) (by rfl) rfl ?_ ?_
    ·go_simp
    have hlit : Kd.R (Kd.int .i64) 3 (W4.alloc (.cells #[.int .i64 (-1), .int .i64 256] 3)) w.heap.size (fun _ => True) (.slice (some ⟨W4.heap.size, 0, none⟩) 2 2) [-1, 256] := Kd.R_of_own (own_lit W4 w.heap.size 3 .i64 [-1, 256] (keep_size H4.out.keep) (by decide)) (fun _ _ => trivial)
    have hne : W4.heap.size ≠ g := fun e => by have := IsS107.lt H4.out.st; omega
    have H5 : Aside0 (L2 w0 w (W4.alloc (.cells #[.int .i64 (-1), .int .i64 256] 3)) g w.heap.size b s0_0 y1 y2 (some ⟨go, 0, none⟩) c X) := ⟨⟨H4.out.st.alloc _, keep_alloc H4.out.keep _, below_alloc H4.out.below _, H4.out.hw, blk_alloc H4.out.ba _, blk_alloc H4.out.bb _, Kd.S_alloc H4.out.row _, H4.out.ga, H4.out.gb, H4.out.ab⟩⟩
    have HD5 := am (pw_cell_below (below_alloc (Below.refl _ _) (.cells #[.int .i64 (-1), .int .i64 256] 3)) HD.out)
    refine hK.out _ _ ⟨(blk_cell H5.out.bb 0).trans rfl, HD5.out⟩ (fun hHeld => ?_)
    clear hK K
    refine nw_ 25 ?_
    generalize hW5 : W4.alloc (.cells #[.int .i64 (-1), .int .i64 256] 3) = W5 at *
    refine ov_ 6 (some 26) (bm 9 127) (fun K hK => ?_)
    refine gw_ Try.func70 #[.pointer (some ⟨g, 0, none⟩), .slice (some ⟨W4.heap.size, 0, none⟩) 2 2] ?_
    refine (spec_l1PickInt.calls g s0_0 y1 y2 (some ⟨W4.heap.size, 0, none⟩) 2 [-1, 256] p q1 q2 w0 W5 H5.out.st H5.out.below (Kd.R_reads' hlit).2.2 (by decide) (fun ad e _ => by injection e with e; rw [← e]; exact hne) HPP.out).mono ?_
    rintro e W6 ⟨rfl, hi, hb, hk⟩
    refine ⟨_, rfl, ?_⟩
    have H : Aside0 (L2 w0 w W6 g w.heap.size b s0_0 q1 q2 (some ⟨go, 0, none⟩) c X) := ⟨H5.out.call hi hb hk⟩
    obtain ⟨A1', c1', hx', hf', hR'⟩ := first_row H.out.row HC.out.1
    have hgo6 : go ≠ g := by
     obtain ⟨_, _, e1, _, _, ⟨cells6, hg6⟩⟩ := Kd.S_form H.out.row HC.out.1
     injection e1 with e1 _ _
     injection e1 with e1
     injection e1 with e1
     subst e1
     exact fun e => IsS107.ne_blk H.out.st hg6 (by decide) e.symm
    have hkx := keep_cell hk HD5.out hgo6
    rw [hx'] at hkx
    injection hkx with hkx
    injection hkx with k1 k2 k3
    subst k1 k3
    obtain ⟨gl', eA1, _, hgl, ⟨cl, hgc⟩, ⟨u3, hc3⟩, hf3, hput⟩ := first_put H.out.row HC.out.1 hx' HC.out.2
    injection eA1 with eA1
    injection eA1 with eA1
    subst eA1
    have HX := am hx'
    have HC3 := am hc3
    have HF3 := am hf3
    have HPUT := am (hput p)
    have HGC := am hgc
    have HGL := am hgl
    refine hK.out _ _ ⟨(blk_cell H.out.bb 0).trans rfl, hx'⟩ (fun hHeld => ?_)
    clear hK K hlit hne H5 HD5 hi hb hk hx' hf' hR' hgo6 k2 hgl hgc hc3 hf3 hput H4 HD hW5
    refine nw_ 26 ?_
    refine pv_ 7 (some 27) (bm 9 255) ?_
    refine last_ (i := 8) (N := none) (bm 9 511) rfl rfl (by kernel_rfl) (by decide) (fun K hK => ?_)
    have r0 := HC3.out
    have f0 := HF3.out
    refine skip_ (w1 := ?_) (by rfl) rfl ?_ ?_
    rotate_left
    ·go_simp
     rfl
    refine hK.out _ _ ?_
    clear hK K r0 f0 hHeld
    refine done_ (by kernel_rfl) ?_
    have m1 : gl ≠ w.heap.size := blk_ne HGC.out H.out.ba (by decide)
    have m2 : w.heap.size ≠ gl := fun e => m1 e.symm
    have m3 : gl ≠ b := blk_ne HGC.out H.out.bb (by decide)
    have m4 : b ≠ gl := fun e => m3 e.symm
    have hy0 : (W6.setCell ⟨gl, 3, none⟩ (.int .i64 p)).cell? ⟨b, 0, none⟩ = some (.slice (some ⟨go, 0, none⟩) X.length c) := (blk_cell (blk_far (p := ⟨gl, 3, none⟩) H.out.bb m4 _) 0).trans rfl
    have hz0 : (W6.setCell ⟨gl, 3, none⟩ (.int .i64 p)).cell? ⟨w.heap.size, 0, none⟩ = some (.slice none 0 0) := (blk_cell (blk_far (p := ⟨gl, 3, none⟩) H.out.ba m2 _) 0).trans rfl
    have hzf := blk_frozen (blk_far (p := ⟨gl, 3, none⟩) H.out.ba m2 (.int .i64 p)) 0
    go_wp2
    obtain ⟨d1, d2, d3, d4, d5⟩ := L2.done (v := .slice (some ⟨go, 0, none⟩) X.length c) (H.out.st.far (p := ⟨gl, 3, none⟩) (IsS107.ne_blk H.out.st HGC.out (by decide)) (.int .i64 p)) (keep_far (p := ⟨gl, 3, none⟩) H.out.keep HGL.out (.int .i64 p)) (below_set H.out.below (Nat.le_trans H.out.hw HGL.out)) H.out.hw (blk_far (p := ⟨gl, 3, none⟩) H.out.ba m2 (.int .i64 p)) (S_cut HPUT.out) H.out.ga
    refine bodyPost_ret (results_cell_row rfl _ _ w.heap.size 29 #[.slice (some ⟨go, 0, none⟩) X.length c] (0, 0) _ rfl d1 hu29 rfl (by kernel_rfl)) rfl ?_
    exact ⟨_, rfl, d2, d3, d4, d5⟩
   ·rw [if_neg hc] at h3
    cases h3
  ·rw [if_neg t1] at h3
   have e1 : (t == 1) = false := beq_eq_false_iff_ne.mpr t1
   by_cases t2 : t = 2
   ·subst t2
    rw [if_pos rfl] at h3
    simp only [Option.some.injEq, Prod.mk.injEq] at h3
    obtain ⟨rfl, rfl, rfl⟩ := h3
    go_wp2
    obtain ⟨d1, d2, d3, d4, d5⟩ := L2.done (v := .slice none 0 0) (H.out.st.far (p := ⟨b, 0, none⟩) (IsS107.ne_blk H.out.st H.out.bb (by decide)) (.slice none 0 0)) (keep_far (p := ⟨b, 0, none⟩) H.out.keep H.out.gb (.slice none 0 0)) (below_set H.out.below (Nat.le_trans H.out.hw H.out.gb)) H.out.hw (blk_far (p := ⟨b, 0, none⟩) H.out.ba H.out.ab (.slice none 0 0)) (Kd.S_nil _ _ _ _ _) H.out.ga
    refine bodyPost_ret (results_cell_row rfl _ _ w.heap.size 29 #[.slice none 0 0] (0, 0) _ rfl d1 hu29 rfl (by kernel_rfl)) rfl ?_
    exact ⟨_, rfl, d2, d3, d4, d5⟩
   ·rw [if_neg t2] at h3
    have e2 : (t == 2) = false := beq_eq_false_iff_ne.mpr t2
    simp only [Option.some.injEq, Prod.mk.injEq] at h3
    obtain ⟨rfl, rfl, rfl⟩ := h3
    go_wp2
    obtain ⟨d1, d2, d3, d4, d5⟩ := L2.done (v := .slice A X.length c) (H.out.st) (H.out.keep) (H.out.below) H.out.hw (H.out.ba) (S_cut H.out.row) H.out.ga
    refine bodyPost_ret (results_cell_row rfl _ _ w.heap.size 29 #[.slice A X.length c] (0, 0) _ rfl d1 hu29 rfl (by kernel_rfl)) rfl ?_
    exact ⟨_, rfl, d2, d3, d4, d5⟩
theorem spec_l2DrawRight.callsC (k : Nat) (g : Nat) (s0_0 : List Int) (s0_1 : Int) (s0_2 : Int) (r1 : List (List Int)) (r2 : Int) (r3 : Int) (w0 w : World) (hI : IsS107 w0 w g s0_0 s0_1 s0_2) (hB : Below w0.heap.size w0 w) (h : spec_l2DrawRight.f k s0_0 s0_1 s0_2 = some (r1, r2, r3)) :
  Calls Try.prog 69 #[.pointer (some ⟨g, 0, none⟩)] w fun e w' => ∃ v0_ : Value, e = .returned (.agg #[v0_]) ∧ Kd.S (cutK 3 (Kd.int .i64)) 30 w' w.heap.size (fun _ => True) v0_ r1 ∧ IsS107 w0 w' g s0_0 r2 r3 ∧ Below w0.heap.size w0 w' ∧ KeepBut w w' g none :=
 (spec_l2DrawRight.calls k g s0_0 s0_1 s0_2 r1 r2 r3 w0 w hI hB h).mono fun e w' ⟨v, he, hS, h2⟩ => ⟨v, he, S_cut hS, h2⟩

/-! ### spec_MemNew: function 88 -/
def spec_MemNew.f  : Option (List Int × Int) := if 512 ≤ 35184372088832 then (some ((List.replicate 512 0), 0)) else (none)
theorem spec_MemNew.calls  (r1 : List Int) (r2 : Int) (w : World) (h : spec_MemNew.f  = some (r1, r2)) :
  Calls Try.prog 88 #[] w fun e w' => ∃ v0_ : Value, e = .returned (.agg #[v0_, .int .i64 r2]) ∧ Kd.R (Kd.int .i64) 3 w' w.heap.size (fun _ => True) v0_ r1 ∧ Below w.heap.size w w' := by
 have hu32 := Try.underlying32
 have HB := am (Below.refl w.heap.size w)
 have H : (if 512 ≤ 35184372088832 then (some ((List.replicate 512 0), 0)) else (none)) = some (r1, r2) := h
 clear h
 by_cases c1 : 512 ≤ 35184372088832
 ·rw [if_pos c1] at H
  have c1b0 := eq_true c1
  have c1b1 : decide (512 ≤ 35184372088832) = true := decide_eq_true c1
  clear c1
  obtain ⟨y284, hy284⟩ : ∃ y_ : List Int, y_ = (List.replicate 512 0) := ⟨_, rfl⟩
  replace H : (some (y284, 0)) = some (r1, r2) := by first | (rw [hy284]; with_reducible exact H) | (have H2_ := (Option.bind_some _ _).symm.trans H; rw [hy284]; with_reducible exact H2_) | (have H2_ := (Option.bind_some _ _).symm.trans H; with_reducible exact H2_) | with_reducible exact H | (rw [hy284]; exact H) | exact H
  have Ny284 := am hy284
  clear hy284
  simp only [Option.some.injEq, Prod.mk.injEq] at H
  obtain ⟨rfl, rfl⟩ := H
  go_enter Try.func88, Try.ntmps88
  go_wp2_with (first | ((with_reducible refine gd 0 ?_); refine bx (N := 0) (cs := #[.slice none 0 0, .int .i64 0]) (t := 32) ?_; intro gb283 hg w2 hbox hb; have BK283 := am (hbox); have GW283 := am ((gs hg (bw HB.out))); have GE283 := am ((gs hg (bw HB.out))); replace HB := am (below_step (bw HB.out) hb); clear hb hbox hg) | ((with_reducible refine gd 1 ?_); refine Kd.R_make (Kd.int .i64) _ 3 rfl (N := 1) rfl 30 _ _ rfl 512 rfl rfl Try.underlying30 (.int .i64 0) 8 info3 rfl (by decide) (by omega) 0 (ok := fun _ => True) (okp := fun _ => True) rfl (fun _ hk => hk) trivial (by omega) (by omega) (Below.refl _ _) (Nat.le_refl _) ?_; intro v285 w3 ho4 hb hg_ hnew_; clear hg_ hnew_; (first | rw [← Ny284.out] at ho4 | (simp only [Int.reduceToNat] at ho4; rw [← Ny284.out] at ho4)); have HO286 := am (Kd.R_lower ho4 (below_size (bw HB.out))); replace BK283 := am (bb BK283 hb); replace HB := am (below_step (bw HB.out) hb); clear hb ho4; obtain ⟨Ao5, co5, eo5⟩ := Kd.R_slice HO286.out; subst eo5; obtain ⟨hcz6_0, hcz6_1⟩ := ce2 BK283; obtain ⟨hfz6_0, hfz6_1⟩ := fz2 BK283))
  refine bodyPost_ret (results_cell_row rfl _ _ gb283 32 #[.slice Ao5 y284.length co5, .int .i64 0] (0, 0) _ rfl (bq BK283.out) Try.underlying32 rfl (by kernel_rfl)) rfl ?_
  exact ⟨_, rt, kr (Kd.R_mono (Kd.R_far (p := ⟨gb283, 1, none⟩) (Kd.R_far (p := ⟨gb283, 0, none⟩) (Kd.R_types HO286.out BK283.out (by decide)) (fun _ hk => hk.2) (.slice Ao5 y284.length co5)) (fun _ hk => hk.2) (.int .i64 0)) (fun _ hk => trivial)), bw HB.out⟩
 ·rw [if_neg c1] at H
  exact absurd H (by simp)

/-! ### spec_l1Max: function 117 -/
def spec_l1Max.f (a0 : Int) (a1 : Int) : Option (Int) := if a0 > a1 then (some a0) else (some a1)
theorem spec_l1Max.calls (a0 : Int) (a1 : Int) (r : Int) (w : World) (h : spec_l1Max.f a0 a1 = some r) :
  Calls Try.prog 117 #[.int .i64 a0, .int .i64 a1] w fun e w' => e = .returned (.int .i64 r) ∧ Drawn0 w w' := by
 have H : (if a0 > a1 then (some a0) else (some a1)) = some r := h
 clear h
 by_cases c3 : a0 > a1
 ·rw [if_pos c3] at H
  have c3b0 : decide (a1 < a0) = true := decide_eq_true c3
  clear c3
  obtain rfl := oj H
  go_enter Try.func117, Try.ntmps117
  go_wp2
  go_ret
  exact ⟨by first | rfl | (simp; done) | (simp [*]; done), by repeat (first | exact Drawn0.refl _ | apply Drawn0.step)⟩
 ·rw [if_neg c3] at H
  have c3b0 : decide (a1 < a0) = false := decide_eq_false c3
  clear c3
  obtain rfl := oj H
  go_enter Try.func117, Try.ntmps117
  go_wp2
  go_ret
  exact ⟨by first | rfl | (simp; done) | (simp [*]; done), by repeat (first | exact Drawn0.refl _ | apply Drawn0.step)⟩

/-! ### spec_l6DrawMem: function 103 -/
def spec_l6DrawMem.l0 : Nat → Int → List Int → Int → Int → List (List Int) → List Int → Int → Option (List Int × Int × Int × Int)
 | 0, _, _, _, _, _, _, _ => none
 | k + 1, x6, x1000, x1001, x1002, x288000, x294000, x294001 => if x6 < 20 then ((spec_l1PickInt.f x1000 x1001 x1002 (([0, 1, 16, 255, 256, 257, 510, 511, 258, 300] : List Int))).bind fun bt297 => ((spec_l1Below.f x1000 bt297.2.1 bt297.2.2 256).bind fun bt300 => (if 0 ≤ bt297.1 then (if bt297.1 < (x294000.length : Int) then (spec_l6DrawMem.l0 k (wrap64 (x6 + 1)) x1000 bt300.2.1 bt300.2.2 x288000 (x294000.set (bt297.1 : Int).toNat bt300.1) x294001) else (none)) else (none)))) else ((spec_l1Max.f (x288000.length : Int) 1).bind fun t304 => ((spec_l1Below.f x1000 x1001 x1002 t304).bind fun bt305 => ((spec_l1Below.f x1000 bt305.2.1 bt305.2.2 30).bind fun bt308 => (if bt308.1 = 0 then ((spec_l1PickInt.f x1000 bt308.2.1 bt308.2.2 (([(-1), 8] : List Int))).bind fun bt314 => (some (x294000, bt314.1, bt314.2.1, bt314.2.2))) else (if bt308.1 = 1 then (if 1 ≤ (x294000.length : Int) then (some ((x294000.drop (1 : Int).toNat), bt305.1, bt308.2.1, bt308.2.2)) else (none)) else (if bt308.1 = 2 then (if 256 < (x294000.length : Int) then (some ((x294000.set (256 : Int).toNat 256), bt305.1, bt308.2.1, bt308.2.2)) else (none)) else (some (x294000, bt305.1, bt308.2.1, bt308.2.2))))))))
def spec_l6DrawMem.f (k : Nat) (s0_0 : List Int) (s0_1 : Int) (s0_2 : Int) (l1_0 : List (List Int)) : Option (List Int × Int × Int × Int) := (spec_MemNew.f).bind fun bt289 => (spec_l6DrawMem.l0 k 0 s0_0 s0_1 s0_2 l1_0 bt289.1 bt289.2)
def spec_l6DrawMem.T5 : Bool × List (List Nat × List Nat) := (true, [([], []), ([0], [0]), ([], []), ([], []), ([2, 3], [2, 3]), ([], []), ([5, 4], [5]), ([1, 4, 0, 1, 2, 3, 4, 5, 6], [1, 4]), ([7, 6, 6, 0, 1, 2, 3, 4, 5, 6], [6, 7])])
def spec_l6DrawMem.B5 : List Nat := [0, 1, 0, 0, 12, 0, 60, 127, 255]
theorem spec_l6DrawMem.tab5 : rtab .any (opsOf Try.f103 5) = spec_l6DrawMem.T5 := by kernel_rfl
theorem spec_l6DrawMem.bits5 : waitsOk spec_l6DrawMem.T5.2 spec_l6DrawMem.B5 = true := by kernel_rfl
theorem spec_l6DrawMem.calls (k : Nat) (g : Nat) (s0_0 : List Int) (s0_1 : Int) (s0_2 : Int) (A1_0 : Option Addr) (c1_0 : Nat) (l1_0 : List (List Int)) (r1 : List Int) (r2 : Int) (r3 : Int) (r4 : Int) (w0 w : World) (hI : IsS107 w0 w g s0_0 s0_1 s0_2) (hB : Below w0.heap.size w0 w) (hr1_0 : ∀ W_, KeepBut w W_ g none → Kd.C (Kd.slice 3 (Kd.int .i64)) W_ A1_0 l1_0.length l1_0) (hc1_0 : l1_0.length ≤ c1_0) (h : spec_l6DrawMem.f k s0_0 s0_1 s0_2 l1_0 = some (r1, r2, r3, r4)) :
  Calls Try.prog 103 #[.pointer (some ⟨g, 0, none⟩), .agg #[.slice A1_0 l1_0.length c1_0]] w fun e w' => ∃ v0_ : Value, e = .returned (.agg #[v0_, .int .i64 r2]) ∧ Kd.Q (Kd.int .i64) 3 w' w.heap.size (fun _ => True) v0_ r1 ∧ IsS107 w0 w' g s0_0 r3 r4 ∧ Below w0.heap.size w0 w' ∧ KeepBut w w' g none := by
 have hu29 := Try.underlying29
 have hu32 := Try.underlying32
 have HR1_0 := am hr1_0
 have HC1_0 := am hc1_0
 clear hr1_0 hc1_0
 have HI0 := am hI
 have HK := am (KeepBut.refl w g none)
 have HL := am hB.size
 clear hI
 have HW0 := am hB.size
 have HB := am hB
 clear hB
 have H : ((spec_MemNew.f).bind fun bt289 => (spec_l6DrawMem.l0 k 0 s0_0 s0_1 s0_2 l1_0 bt289.1 bt289.2)) = some (r1, r2, r3, r4) := h
 clear h
 replace H := bs H
 obtain ⟨⟨t289, t292⟩, A30, H⟩ := H
 replace H : (spec_l6DrawMem.l0 k 0 s0_0 s0_1 s0_2 l1_0 t289 t292) = some (r1, r2, r3, r4) := H
 have A3 := am A30
 clear A30
 have H' := am H
 clear H
 go_enter Try.func103, Try.ntmps103
 go_wp2_with (first | ((with_reducible refine gd 3 ?_); refine bx (N := 3) (cs := #[.slice A1_0 l1_0.length c1_0]) (t := 29) ?_; intro gb287 hg w4 hbox hb; have n0_ := am (IsS107.below (si HI0.out) hb); have n1_ := am (KeepBut.trans (kp HK.out) (KeepBut.of_below hb g none) (.inl rfl)); have n2_ := am (below_step (bi HB.out) hb); have n3_ := am (hbox); have n4_ := am ((by rw [hg]; exact (keep_size (w := w) (g := g) (row := none) (kp HK.out)) : w.heap.size ≤ gb287)); have n5_ := am ((Nat.le_trans HW0.out (by rw [hg]; exact (keep_size (w := w) (g := g) (row := none) (kp HK.out)) : w.heap.size ≤ gb287) : w0.heap.size ≤ gb287)); have n6_ := am ((by rw [hg]; exact Nat.ne_of_lt (IsS107.lt (show IsS107 w0 _ g s0_0 s0_1 s0_2 from si HI0.out)) : g ≠ gb287)); have n7_ := am ((by rw [hg]; exact Nat.ne_of_gt (IsS107.lt (show IsS107 w0 _ g s0_0 s0_1 s0_2 from si HI0.out)) : gb287 ≠ g)); clear HI0; clear HK; clear HB; have HI0 := n0_; have HK := n1_; have HB := n2_; have BK287 := n3_; have GW287 := n4_; have GE287 := n5_; have NB0_287 := n6_; have NB287_0 := n7_; clear n0_ n1_ n2_ n3_ n4_ n5_ n6_ n7_; clear hb hbox hg) | ((with_reducible refine gd 4 ?_); refine bx (N := 4) (cs := #[.slice none 0 0, .int .i64 0]) (t := 32) ?_; intro gb288 hg w5 hbox hb; have n0_ := am (IsS107.below (si HI0.out) hb); have n1_ := am (bb BK287 hb); have n2_ := am (KeepBut.trans (kp HK.out) (KeepBut.of_below hb g none) (.inl rfl)); have n3_ := am (below_step (bi HB.out) hb); have n4_ := am (hbox); have n5_ := am ((by rw [hg]; exact (keep_size (w := w) (g := g) (row := none) (kp HK.out)) : w.heap.size ≤ gb288)); have n6_ := am ((Nat.le_trans HW0.out (by rw [hg]; exact (keep_size (w := w) (g := g) (row := none) (kp HK.out)) : w.heap.size ≤ gb288) : w0.heap.size ≤ gb288)); have n7_ := am ((ga hg BK287.out)); have n8_ := am ((gc hg BK287.out)); have n9_ := am ((by rw [hg]; exact Nat.ne_of_lt (IsS107.lt (show IsS107 w0 _ g s0_0 s0_1 s0_2 from si HI0.out)) : g ≠ gb288)); have n10_ := am ((by rw [hg]; exact Nat.ne_of_gt (IsS107.lt (show IsS107 w0 _ g s0_0 s0_1 s0_2 from si HI0.out)) : gb288 ≠ g)); clear HI0; clear BK287; clear HK; clear HB; have HI0 := n0_; have BK287 := n1_; have HK := n2_; have HB := n3_; have BK288 := n4_; have GW288 := n5_; have GE288 := n6_; have NB287_288 := n7_; have NB288_287 := n8_; have NB0_288 := n9_; have NB288_0 := n10_; clear n0_ n1_ n2_ n3_ n4_ n5_ n6_ n7_ n8_ n9_ n10_; clear hb hbox hg) | ((with_reducible refine gate_callee (f := 88) rfl ?_); refine goesM_ (some 7) rfl rfl Try.func88 #[] ?_; (with_reducible refine (spec_MemNew.calls  t289 t292 _ A3.out).mono ?_); rintro e w6 ⟨v290, rfl, ho0, hb⟩; refine ⟨_, rfl, ?_⟩; have HO291 := am (Kd.R_lower ho0 (keep_size (w := w) (g := g) (row := none) (kp HK.out))); replace HI0 := am (IsS107.below (si HI0.out) hb); replace BK287 := am (bb BK287 hb); replace BK288 := am (bb BK288 hb); replace HK := am (KeepBut.trans (kp HK.out) (KeepBut.of_below hb g none) (.inl rfl)); replace HB := am (below_step (bi HB.out) hb); (try clear hb); (try clear hk); (try clear hi); (try clear ho0)) | ((with_reducible refine gd 5 ?_); refine bx (N := 5) (cs := #[.slice none 0 0, .int .i64 0]) (t := 32) ?_; intro gb293 hg w7 hbox hb; have n0_ := am (Kd.R_below (kr HO291.out) hb); have n1_ := am (IsS107.below (si HI0.out) hb); have n2_ := am (bb BK287 hb); have n3_ := am (bb BK288 hb); have n4_ := am (KeepBut.trans (kp HK.out) (KeepBut.of_below hb g none) (.inl rfl)); have n5_ := am (below_step (bi HB.out) hb); have n6_ := am (hbox); have n7_ := am ((by rw [hg]; exact (keep_size (w := w) (g := g) (row := none) (kp HK.out)) : w.heap.size ≤ gb293)); have n8_ := am ((Nat.le_trans HW0.out (by rw [hg]; exact (keep_size (w := w) (g := g) (row := none) (kp HK.out)) : w.heap.size ≤ gb293) : w0.heap.size ≤ gb293)); have n9_ := am ((ga hg BK287.out)); have n10_ := am ((gc hg BK287.out)); have n11_ := am ((ga hg BK288.out)); have n12_ := am ((gc hg BK288.out)); have n13_ := am ((by rw [hg]; exact Nat.ne_of_lt (IsS107.lt (show IsS107 w0 _ g s0_0 s0_1 s0_2 from si HI0.out)) : g ≠ gb293)); have n14_ := am ((by rw [hg]; exact Nat.ne_of_gt (IsS107.lt (show IsS107 w0 _ g s0_0 s0_1 s0_2 from si HI0.out)) : gb293 ≠ g)); clear HO291; clear HI0; clear BK287; clear BK288; clear HK; clear HB; have HO291 := n0_; have HI0 := n1_; have BK287 := n2_; have BK288 := n3_; have HK := n4_; have HB := n5_; have BK293 := n6_; have GW293 := n7_; have GE293 := n8_; have NB287_293 := n9_; have NB293_287 := n10_; have NB288_293 := n11_; have NB293_288 := n12_; have NB0_293 := n13_; have NB293_0 := n14_; clear n0_ n1_ n2_ n3_ n4_ n5_ n6_ n7_ n8_ n9_ n10_ n11_ n12_ n13_ n14_; clear hb hbox hg; obtain ⟨Ao8, co8, eo8⟩ := Kd.R_slice HO291.out; subst eo8; have p_ := NB293_287.out; have p_ := NB293_288.out; have p_ := NB293_0.out; obtain ⟨hcz12_0, hcz12_1⟩ := ce2 BK293; obtain ⟨hfz12_0, hfz12_1⟩ := fz2 BK293))
 go_loopg [6] k (fun kq v6 w' => ∃ (x6_1 : Int) (x1001_1 : Int) (x1002_1 : Int) (x294000_1 : List Int) (u294000 : Value), v6 = .int .i64 x6_1 ∧ Aside0 (spec_l6DrawMem.l0 kq x6_1 s0_0 x1001_1 x1002_1 l1_0 x294000_1 t292 = some (r1, r2, r3, r4)) ∧ Aside0 (kq ≤ k) ∧ Aside0 (Kd.Q (Kd.int .i64) 3 w' w.heap.size (fun _ => True) u294000 x294000_1) ∧ Aside0 (w'.heap[gb287]? = some (.cells #[(.slice A1_0 l1_0.length c1_0)] 29 (0, 0))) ∧ Aside0 (w'.heap[gb288]? = some (.cells #[(.slice none 0 0), .int .i64 0] 32 (0, 0))) ∧ Aside0 (w'.heap[gb293]? = some (.cells #[u294000, .int .i64 t292] 32 (0, 0))) ∧ Aside0 (IsS107 w0 w' g s0_0 x1001_1 x1002_1) ∧ Aside0 (KeepBut w w' g none) ∧ Aside0 (Below w0.heap.size w0 w'))
 case atStart => exact ⟨(0), (s0_1), (s0_2), (t289), (.slice Ao8 t289.length co8), (by first | rfl | (simp; done) | (simp [*]; done)), H', ⟨Nat.le_refl _⟩, ⟨Kd.Q_of_R (kr (Kd.R_mono (Kd.R_far (p := ⟨gb293, 1, none⟩) (Kd.R_far (p := ⟨gb293, 0, none⟩) (Kd.R_types HO291.out BK293.out (by decide)) (fun _ hk => hk.2) (.slice Ao8 t289.length co8)) (fun _ hk => hk.2) (.int .i64 t292)) (fun _ hk => trivial)))⟩, ⟨kf BK287.out⟩, ⟨kf BK288.out⟩, ⟨bq BK293.out⟩, ⟨si HI0.out⟩, ⟨kp HK.out⟩, ⟨bi HB.out⟩⟩
 case round =>
  clear H'
  (try clear c1); (try clear p2); (try clear c8); (try clear c9); (try clear c10); (try clear c11); (try clear hcz12_0); (try clear hcz12_1); (try clear hfz12_0); (try clear hfz12_1)
  obtain ⟨x6_1, x1001_1, x1002_1, x294000_1, u294000, rfl, HA, HK1, HP294, BK287, BK288, BK293, HI0, HK, HB⟩ := hrel
  cases gk with
  | zero => exact absurd HA.out (by simp [spec_l6DrawMem.l0])
  | succ k1 =>
   have H := HA.out
   clear HA
   simp only [spec_l6DrawMem.l0] at H
   by_cases c13 : x6_1 < 20
   ·rw [if_pos c13] at H
    have c13b0 : decide (x6_1 < 20) = true := decide_eq_true c13
    clear c13
    obtain ⟨y294, hy294⟩ : ∃ y_ : List Int, y_ = (([0, 1, 16, 255, 256, 257, 510, 511, 258, 300] : List Int)) := ⟨_, rfl⟩
    replace H : ((spec_l1PickInt.f s0_0 x1001_1 x1002_1 y294).bind fun bt297 => ((spec_l1Below.f s0_0 bt297.2.1 bt297.2.2 256).bind fun bt300 => (if 0 ≤ bt297.1 then (if bt297.1 < (x294000_1.length : Int) then (spec_l6DrawMem.l0 k1 (wrap64 (x6_1 + 1)) s0_0 bt300.2.1 bt300.2.2 l1_0 (x294000_1.set (bt297.1 : Int).toNat bt300.1) t292) else (none)) else (none)))) = some (r1, r2, r3, r4) := by first | (rw [hy294]; with_reducible exact H) | (have H2_ := (Option.bind_some _ _).symm.trans H; rw [hy294]; with_reducible exact H2_) | (have H2_ := (Option.bind_some _ _).symm.trans H; with_reducible exact H2_) | with_reducible exact H | (rw [hy294]; exact H) | exact H
    have Ny294 := am hy294
    clear hy294
    replace H := bs H
    obtain ⟨⟨t297, t298, t299⟩, A140, H⟩ := H
    replace H : ((spec_l1Below.f s0_0 t298 t299 256).bind fun bt300 => (if 0 ≤ t297 then (if t297 < (x294000_1.length : Int) then (spec_l6DrawMem.l0 k1 (wrap64 (x6_1 + 1)) s0_0 bt300.2.1 bt300.2.2 l1_0 (x294000_1.set (t297 : Int).toNat bt300.1) t292) else (none)) else (none))) = some (r1, r2, r3, r4) := H
    have A14 := am A140
    clear A140
    replace H := bs H
    obtain ⟨⟨t300, t301, t302⟩, A150, H⟩ := H
    replace H : (if 0 ≤ t297 then (if t297 < (x294000_1.length : Int) then (spec_l6DrawMem.l0 k1 (wrap64 (x6_1 + 1)) s0_0 t301 t302 l1_0 (x294000_1.set (t297 : Int).toNat t300) t292) else (none)) else (none)) = some (r1, r2, r3, r4) := H
    have A15 := am A150
    clear A150
    by_cases c16 : 0 ≤ t297
    ·rw [if_pos c16] at H
     have c16b0 : decide (0 ≤ t297) = true := decide_eq_true c16
     clear c16
     by_cases c17 : t297 < (x294000_1.length : Int)
     ·rw [if_pos c17] at H
      have c17b0 : decide (t297 < (x294000_1.length : Int)) = true := decide_eq_true c17
      clear c17
      obtain ⟨y303, hy303⟩ : ∃ y_ : List Int, y_ = (x294000_1.set (t297 : Int).toNat t300) := ⟨_, rfl⟩
      replace H : (spec_l6DrawMem.l0 k1 (wrap64 (x6_1 + 1)) s0_0 t301 t302 l1_0 y303 t292) = some (r1, r2, r3, r4) := by first | (rw [hy303]; with_reducible exact H) | (have H2_ := (Option.bind_some _ _).symm.trans H; rw [hy303]; with_reducible exact H2_) | (have H2_ := (Option.bind_some _ _).symm.trans H; with_reducible exact H2_) | with_reducible exact H | (rw [hy303]; exact H) | exact H
      have Ny303 := am hy303
      clear hy303
      have H' := am H
      clear H
      try go_wp2
      replace HP294 := am (Kd.Q_drew HP294.out)
      replace BK287 := am (blk_drew BK287.out)
      replace BK288 := am (blk_drew BK288.out)
      replace BK293 := am (blk_drew BK293.out)
      replace HI0 := am (IsS107.drew HI0.out)
      replace HK := am (keep_drew HK.out)
      replace HB := am (below_drew1 HB.out)
      refine start_ (n := 9) (S := fun w' => w'.cell? ⟨gb293, 0, none⟩ = some (u294000) ∧ w'.cell? ⟨gb293, 1, none⟩ = some (.int .i64 t292)) (ds := [8]) (bm 9 0) (by kernel_rfl) rfl (by kernel_rfl) ⟨cl BK293 0, cl BK293 1⟩ (fun hHeld => ?_); refine with_tabW spec_l6DrawMem.tab5 spec_l6DrawMem.bits5 (fun HT_ HW_ => ?_)
      generalize wr.drew = w19 at HP294 BK287 BK288 BK293 HI0 HK HB hHeld ⊢
      refine pw_ 0 (some 12) (bm 9 1) HT_ ?_
      refine pw_ 2 (some 14) (bm 9 5) HT_ ?_
      refine pw_ 5 (some 17) (bm 9 37) HT_ ?_
      refine tw_ 1 (some 13) (bm 9 39) HT_ HW_ hHeld ?_
      refine ow_ 3 (some 15) (bm 9 47) HT_ (fun K hK => ?_)
      refine Kd.R_lit_step (Kd.int .i64) _ 3 ?hg (N := 15) ?hd (xs := ([0, 1, 16, 255, 256, 257, 510, 511, 258, 300] : List Int)) (inner := [.int .i64 0, .int .i64 1, .int .i64 16, .int .i64 255, .int .i64 256, .int .i64 257, .int .i64 510, .int .i64 511, .int .i64 258, .int .i64 300]) (ok := fun _ => True) (okp := fun _ => True) ?hr ?hp (fun _ hk => hk) trivial (Below.refl _ _) (Nat.le_refl _) (by simp) ?_; (case hd => rfl); (case hg => rfl); (case hr => first | (go_simp; done) | (go_simp; rfl)); (case hp => exact (reI _))
      intro v295 w20 ho21 hb hg_ hnew_
      clear hg_ hnew_
      (first | rw [← Ny294.out] at ho21 | (simp only [Int.reduceToNat] at ho21; rw [← Ny294.out] at ho21))
      have HO296 := am (Kd.R_lower (Kd.R_new' ho21 (Kd.Q_lt (kq HP294.out))) (keep_size (w := w) (g := g) (row := none) (kp HK.out)))
      replace HP294 := am (Kd.Q_elder' (kq HP294.out) (Kd.R_base ho21) hb)
      replace BK287 := am (bb BK287 hb)
      replace BK288 := am (bb BK288 hb)
      replace BK293 := am (bb BK293 hb)
      replace HI0 := am (IsS107.below (si HI0.out) hb)
      replace HK := am (KeepBut.trans (kp HK.out) (KeepBut.of_below hb g none) (.inl rfl))
      replace HB := am (below_step (bi HB.out) hb)
      clear hb ho21
      obtain ⟨Ao22, co22, eo22⟩ := Kd.R_slice HO296.out
      (first | subst eo22 | (injection eo22 with f1_ f2_ f3_; have f4_ := f1_.symm; have f5_ := f3_.symm; clear f1_ f2_ f3_; subst f4_; subst f5_))
      refine hK.out _ _ ⟨cl BK293 0, cl BK293 1⟩ (fun hHeld => ?_)
      clear hK K
      refine nw_ 15 ?_
      refine ow_ 4 (some 16) (bm 9 63) HT_ (fun K hK => ?_)
      refine gw_ Try.func70 #[.pointer (some ⟨g, 0, none⟩), .slice Ao22 y294.length co22] ?_
      with_reducible refine (spec_l1PickInt.calls g s0_0 x1001_1 x1002_1 _ _ y294 t297 t298 t299 w0 _ ?side1 ?side2 ?side3 ?side4 ?side5 A14.out).mono ?_
      (case side1 => exact si HI0.out)
      (case side2 => exact bi HB.out)
      (case side3 => exact kc (Kd.R_reads' HO296.out).2.2)
      (case side4 => exact (Kd.R_reads' HO296.out).2.1)
      (case side5 => exact far_slice (IsS107.own_ne HI0.out HO296.out (by decide)))
      rintro e w23 ⟨rfl, hi, hb, hk⟩
      refine ⟨_, rfl, ?_⟩
      replace HP294 := am (Kd.Q_mono (Kd.Q_keep (IsS107.apartQ (show IsS107 w0 _ g s0_0 x1001_1 x1002_1 from si HI0.out) (kq HP294.out) (by decide)) hk (fun _ h => h.2)) (fun _ h => h.1))
      replace BK287 := am (kB hk (kb BK287.out) NB287_0)
      replace BK288 := am (kB hk (kb BK288.out) NB288_0)
      replace BK293 := am (kB hk (kb BK293.out) NB293_0)
      replace HO296 := am (Kd.R_mono (Kd.R_keep (IsS107.apart (show IsS107 w0 _ g s0_0 x1001_1 x1002_1 from si HI0.out) (kr HO296.out) (by decide)) hk (fun _ h => h.2)) (fun _ h => h.1))
      replace HK := am (KeepBut.trans (kp HK.out) hk (.inl rfl))
      replace HB := am (hb)
      replace HI0 := am (hi)
      (try clear hb); (try clear hk); (try clear hi)
      refine hK.out _ _ ⟨cl BK293 0, cl BK293 1⟩ (fun hHeld => ?_)
      clear hK K
      refine nw_ 16 ?_
      refine ow_ 6 (some 18) (bm 9 127) HT_ (fun K hK => ?_)
      refine gw_ Try.func60 #[.pointer (some ⟨g, 0, none⟩), .int .i64 256] ?_
      with_reducible refine (spec_l1Below.calls g s0_0 t298 t299 256 t300 t301 t302 w0 _ ?side1 ?side2 A15.out).mono ?_
      (case side1 => exact si HI0.out)
      (case side2 => exact bi HB.out)
      rintro e w24 ⟨rfl, hi, hb, hk⟩
      refine ⟨_, rfl, ?_⟩
      replace HP294 := am (Kd.Q_mono (Kd.Q_keep (IsS107.apartQ (show IsS107 w0 _ g s0_0 t298 t299 from si HI0.out) (kq HP294.out) (by decide)) hk (fun _ h => h.2)) (fun _ h => h.1))
      replace BK287 := am (kB hk (kb BK287.out) NB287_0)
      replace BK288 := am (kB hk (kb BK288.out) NB288_0)
      replace BK293 := am (kB hk (kb BK293.out) NB293_0)
      replace HO296 := am (Kd.R_mono (Kd.R_keep (IsS107.apart (show IsS107 w0 _ g s0_0 t298 t299 from si HI0.out) (kr HO296.out) (by decide)) hk (fun _ h => h.2)) (fun _ h => h.1))
      replace HK := am (KeepBut.trans (kp HK.out) hk (.inl rfl))
      replace HB := am (hb)
      replace HI0 := am (hi)
      (try clear hb); (try clear hk); (try clear hi)
      have p18 : 0 ≤ (t297 : Int) := dt
      have q18 : (t297 : Int) < ((x294000_1.length : Int) : Int) := dt
      obtain ⟨go18, oo18, co18, eo18, gb18, gl18, cl18, HG18⟩ := Kd.Q_form HP294.out (by omega)
      (first | cases eo18 | (injection eo18 with ea_ en_ ec_; (first | subst ea_ | (injection ea_ with ea_; subst ea_)); subst ec_; clear en_))
      have GB18 := am gb18
      have GG18 := am HG18
      clear gb18 gl18 HG18
      obtain ⟨hx18_0, hf18_0⟩ := Kd.Q_cell 0 HP294.out (t297 : Int) p18 q18
      replace p18 := eq_true p18
      replace q18 := eq_true q18
      have HN0_go18 := am (show g ≠ go18 from by have h_ := IsS107.own_neQ HI0.out HP294.out (by decide); intro e_; exact h_ (by rw [e_]; rfl))
      have HP25 := (Kd.Q_putg HP294.out (t297 : Int) dt (by have h_ : (t297 : Int) < ((x294000_1.length : Int) : Int) := dt; first | exact h_ | (have e_ := (Kd.Q_reads' HP294.out).1; omega) | simpa using h_) t300).1
      rw [← Ny303.out] at HP25
      have HQ25 := am HP25
      clear HP25
      refine hK.out _ _ ⟨cl BK293 0, cl BK293 1⟩ (fun hHeld => ?_)
      clear hK K
      refine nw_ 18 ?_
      refine pw_ 7 (some 19) (bm 9 255) HT_ ?_
      refine last_ (i := 8) (N := none) (bm 9 511) rfl rfl (one_of HT_.out (by kernel_rfl)) (by decide) (fun K hK => ?_)
      refine skip_ (w1 := ?_) (by rfl) rfl ?_ ?_
      rotate_left
      ·go_simp
       rfl
      refine hK.out _ _ ?_
      clear hK K
      refine done_ (done_of HT_.out (by kernel_rfl)) ?_
      try go_wp2
      go_roundg k1
      case measure => have := HK1.out; omega
      case rel => exact ⟨(wrap64 (x6_1 + 1)), (t301), (t302), (y303), (.slice (some ⟨go18, oo18, none⟩) x294000_1.length co18), (by first | rfl | (simp; done) | (simp [*]; done)), H', ⟨by have := HK1.out; omega⟩, ⟨kq (Kd.Q_mono HQ25.out (fun _ hk => trivial))⟩, ⟨by (with_reducible repeat (first | refine blk_drewN ?_ _ | refine blk_drew ?_ | refine blk_alloc ?_ _)); refine blk_far ?_ (by have h_ := Kd.Q_ne HP294.out BK287.out (by decide); intro e_; exact h_ (by rw [e_]; rfl)) _; (with_reducible repeat (first | refine blk_drewN ?_ _ | refine blk_drew ?_ | refine blk_alloc ?_ _)); exact BK287.out⟩, ⟨by (with_reducible repeat (first | refine blk_drewN ?_ _ | refine blk_drew ?_ | refine blk_alloc ?_ _)); refine blk_far ?_ (by have h_ := Kd.Q_ne HP294.out BK288.out (by decide); intro e_; exact h_ (by rw [e_]; rfl)) _; (with_reducible repeat (first | refine blk_drewN ?_ _ | refine blk_drew ?_ | refine blk_alloc ?_ _)); exact BK288.out⟩, ⟨by (with_reducible repeat (first | refine blk_drewN ?_ _ | refine blk_drew ?_ | refine blk_alloc ?_ _)); refine blk_far ?_ (by have h_ := Kd.Q_ne HP294.out BK293.out (by decide); intro e_; exact h_ (by rw [e_]; rfl)) _; (with_reducible repeat (first | refine blk_drewN ?_ _ | refine blk_drew ?_ | refine blk_alloc ?_ _)); exact BK293.out⟩, ⟨si HI0.out⟩, ⟨by repeat (first | (with_reducible first | exact HK.out | apply KeepBut.set_ | apply keep_drewN | apply keep_drew | apply keep_alloc | refine keep_far ?_ GB18.out _ | refine keep_far ?_ GW287.out _ | refine keep_far ?_ GW288.out _ | refine keep_far ?_ GW293.out _) | exact HK.out)⟩, ⟨by repeat (first | (with_reducible first | exact HB.out | apply below_alloc | apply pw_below_drewN | apply below_drew1 | refine below_set ?_ (Nat.le_trans HL.out GB18.out) | refine below_set ?_ (IsS107.ge HI0.out) | refine below_set ?_ GE287.out | refine below_set ?_ GE288.out | refine below_set ?_ GE293.out) | exact HB.out)⟩⟩
     ·rw [if_neg c17] at H
      exact absurd H (by simp)
    ·rw [if_neg c16] at H
     exact absurd H (by simp)
   ·rw [if_neg c13] at H
    have c13b0 : decide (x6_1 < 20) = false := decide_eq_false c13
    clear c13
    replace H := bs H
    obtain ⟨t304, A260, H⟩ := H
    replace H : ((spec_l1Below.f s0_0 x1001_1 x1002_1 t304).bind fun bt305 => ((spec_l1Below.f s0_0 bt305.2.1 bt305.2.2 30).bind fun bt308 => (if bt308.1 = 0 then ((spec_l1PickInt.f s0_0 bt308.2.1 bt308.2.2 (([(-1), 8] : List Int))).bind fun bt314 => (some (x294000_1, bt314.1, bt314.2.1, bt314.2.2))) else (if bt308.1 = 1 then (if 1 ≤ (x294000_1.length : Int) then (some ((x294000_1.drop (1 : Int).toNat), bt305.1, bt308.2.1, bt308.2.2)) else (none)) else (if bt308.1 = 2 then (if 256 < (x294000_1.length : Int) then (some ((x294000_1.set (256 : Int).toNat 256), bt305.1, bt308.2.1, bt308.2.2)) else (none)) else (some (x294000_1, bt305.1, bt308.2.1, bt308.2.2))))))) = some (r1, r2, r3, r4) := H
    have A26 := am A260
    clear A260
    replace H := bs H
    obtain ⟨⟨t305, t306, t307⟩, A270, H⟩ := H
    replace H : ((spec_l1Below.f s0_0 t306 t307 30).bind fun bt308 => (if bt308.1 = 0 then ((spec_l1PickInt.f s0_0 bt308.2.1 bt308.2.2 (([(-1), 8] : List Int))).bind fun bt314 => (some (x294000_1, bt314.1, bt314.2.1, bt314.2.2))) else (if bt308.1 = 1 then (if 1 ≤ (x294000_1.length : Int) then (some ((x294000_1.drop (1 : Int).toNat), t305, bt308.2.1, bt308.2.2)) else (none)) else (if bt308.1 = 2 then (if 256 < (x294000_1.length : Int) then (some ((x294000_1.set (256 : Int).toNat 256), t305, bt308.2.1, bt308.2.2)) else (none)) else (some (x294000_1, t305, bt308.2.1, bt308.2.2)))))) = some (r1, r2, r3, r4) := H
    have A27 := am A270
    clear A270
    replace H := bs H
    obtain ⟨⟨t308, t309, t310⟩, A280, H⟩ := H
    replace H : (if t308 = 0 then ((spec_l1PickInt.f s0_0 t309 t310 (([(-1), 8] : List Int))).bind fun bt314 => (some (x294000_1, bt314.1, bt314.2.1, bt314.2.2))) else (if t308 = 1 then (if 1 ≤ (x294000_1.length : Int) then (some ((x294000_1.drop (1 : Int).toNat), t305, t309, t310)) else (none)) else (if t308 = 2 then (if 256 < (x294000_1.length : Int) then (some ((x294000_1.set (256 : Int).toNat 256), t305, t309, t310)) else (none)) else (some (x294000_1, t305, t309, t310))))) = some (r1, r2, r3, r4) := H
    have A28 := am A280
    clear A280
    by_cases c29 : t308 = 0
    ·rw [if_pos c29] at H
     have c29b0 : (t308 == 0) = true := beq_iff_eq.mpr c29
     have c29b1 : (t308 != 0) = false := bne_eq_false_iff_eq.mpr c29
     clear c29
     obtain ⟨y311, hy311⟩ : ∃ y_ : List Int, y_ = (([(-1), 8] : List Int)) := ⟨_, rfl⟩
     replace H : ((spec_l1PickInt.f s0_0 t309 t310 y311).bind fun bt314 => (some (x294000_1, bt314.1, bt314.2.1, bt314.2.2))) = some (r1, r2, r3, r4) := by first | (rw [hy311]; with_reducible exact H) | (have H2_ := (Option.bind_some _ _).symm.trans H; rw [hy311]; with_reducible exact H2_) | (have H2_ := (Option.bind_some _ _).symm.trans H; with_reducible exact H2_) | with_reducible exact H | (rw [hy311]; exact H) | exact H
     have Ny311 := am hy311
     clear hy311
     replace H := bs H
     obtain ⟨⟨t314, t315, t316⟩, A300, H⟩ := H
     replace H : (some (x294000_1, t314, t315, t316)) = some (r1, r2, r3, r4) := H
     have A30 := am A300
     clear A300
     simp only [Option.some.injEq, Prod.mk.injEq] at H
     obtain ⟨rfl, rfl, rfl, rfl⟩ := H
     have p_ := NB287_288.out
     have p_ := NB287_293.out
     have p_ := NB287_0.out
     have hcz34_0 : wr.cell? ⟨gb287, 0, none⟩ = some (.slice A1_0 l1_0.length c1_0) := cl BK287 0
     have hfz34_0 := blk_frozen BK287.out 0
     go_wp2_with (first | ((with_reducible refine gate_callee (f := 117) rfl ?_); refine goesM_ (some 24) rfl rfl Try.func117 #[.int .i64 (l1_0.length : Int), .int .i64 1] ?_; (with_reducible refine (spec_l1Max.calls (l1_0.length : Int) 1 t304 _ A26.out).mono ?_); rintro e w' ⟨rfl, ⟨nd, rfl⟩⟩; refine ⟨_, rfl, ?_⟩; (try (rw [drewN_self wr]; generalize hq_ : World.drewN wr _ = wr; have n0_ : Aside0 (Kd.Q (Kd.int .i64) 3 wr w.heap.size (fun _ => True) u294000 x294000_1) := ⟨by rw [← hq_]; exact (kq HP294.out)⟩; have n1_ : Aside0 (wr.heap[gb287]? = some (.cells #[.slice A1_0 l1_0.length c1_0] 29 (0, 0))) := ⟨by rw [← hq_]; exact (kb BK287.out)⟩; have n2_ : Aside0 (wr.heap[gb288]? = some (.cells #[.slice none 0 0, .int .i64 0] 32 (0, 0))) := ⟨by rw [← hq_]; exact (kb BK288.out)⟩; have n3_ : Aside0 (wr.heap[gb293]? = some (.cells #[u294000, .int .i64 t292] 32 (0, 0))) := ⟨by rw [← hq_]; exact (kb BK293.out)⟩; have n4_ : Aside0 (IsS107 w0 wr g s0_0 x1001_1 x1002_1) := ⟨by rw [← hq_]; exact (si HI0.out)⟩; have n5_ : Aside0 (KeepBut w wr g none) := ⟨by rw [← hq_]; exact (kp HK.out)⟩; have n6_ : Aside0 (Below w0.heap.size w0 wr) := ⟨by rw [← hq_]; exact (bi HB.out)⟩; clear HP294 BK287 BK288 BK293 HI0 HK HB hq_; have HP294 := n0_; have BK287 := n1_; have BK288 := n2_; have BK293 := n3_; have HI0 := n4_; have HK := n5_; have HB := n6_; clear n0_ n1_ n2_ n3_ n4_ n5_ n6_))) | ((with_reducible refine gate_callee (f := 60) rfl ?_); refine goesM_ (some 25) rfl rfl Try.func60 #[.pointer (some ⟨g, 0, none⟩), .int .i64 t304] ?_; (with_reducible refine (spec_l1Below.calls g s0_0 x1001_1 x1002_1 t304 t305 t306 t307 w0 _ ?side1 ?side2 A27.out).mono ?_); (case side1 => exact si HI0.out); (case side2 => exact bi HB.out); rintro e w35 ⟨rfl, hi, hb, hk⟩; refine ⟨_, rfl, ?_⟩; replace HP294 := am (Kd.Q_mono (Kd.Q_keep (IsS107.apartQ (show IsS107 w0 _ g s0_0 x1001_1 x1002_1 from si HI0.out) (kq HP294.out) (by decide)) hk (fun _ h => h.2)) (fun _ h => h.1)); replace BK287 := am (kB hk (kb BK287.out) NB287_0); replace BK288 := am (kB hk (kb BK288.out) NB288_0); replace BK293 := am (kB hk (kb BK293.out) NB293_0); replace HK := am (KeepBut.trans (kp HK.out) hk (.inl rfl)); replace HB := am (hb); replace HI0 := am (hi); (try clear hb); (try clear hk); (try clear hi); have p_ := NB293_288.out; have p_ := NB293_0.out; obtain ⟨hcz38_0, hcz38_1⟩ := ce2 BK293; obtain ⟨hfz38_0, hfz38_1⟩ := fz2 BK293) | ((with_reducible refine gate_callee (f := 60) rfl ?_); refine goesM_ (some 28) rfl rfl Try.func60 #[.pointer (some ⟨g, 0, none⟩), .int .i64 30] ?_; (with_reducible refine (spec_l1Below.calls g s0_0 t306 t307 30 t308 t309 t310 w0 _ ?side1 ?side2 A28.out).mono ?_); (case side1 => exact si HI0.out); (case side2 => exact bi HB.out); rintro e w39 ⟨rfl, hi, hb, hk⟩; refine ⟨_, rfl, ?_⟩; replace HP294 := am (Kd.Q_mono (Kd.Q_keep (IsS107.apartQ (show IsS107 w0 _ g s0_0 t306 t307 from si HI0.out) (kq ((Kd.Q_mono (Kd.Q_far (p := ⟨gb293, 1, none⟩) (Kd.Q_types HP294.out BK293.out (by decide)) (fun _ hk => hk.2) (.int .i64 t305)) (fun _ h_ => h_.1)))) (by decide)) hk (fun _ h => h.2)) (fun _ h => h.1)); replace BK287 := am (kB hk (kf BK287.out) NB287_0); replace BK288 := am (kB hk (kf BK288.out) NB288_0); replace BK293 := am (KeepBut.blk hk (g' := gb293) (o := .cells #[u294000, .int .i64 t305] 32 (0, 0)) (kt BK293.out) NB293_0.out (by simp)); replace HK := am (KeepBut.trans (kp HK.out) hk (.inl rfl)); replace HB := am (hb); replace HI0 := am (hi); (try clear hb); (try clear hk); (try clear hi)) | ((with_reducible refine gd 32 ?_); refine Kd.R_lit (Kd.int .i64) _ 3 ?hg (N := 32) ?hd (xs := ([(-1), 8] : List Int)) (inner := [.int .i64 (-1), .int .i64 8]) (ok := fun _ => True) (okp := fun _ => True) ?hr ?hp (fun _ hk => hk) trivial (Below.refl _ _) (Nat.le_refl _) (by simp) ?_; (case hd => rfl); (case hg => rfl); (case hr => first | (go_simp; done) | (go_simp; rfl)); (case hp => exact (reI _)); intro v312 w40 ho41 hb hg_ hnew_; clear hg_ hnew_; (first | rw [← Ny311.out] at ho41 | (simp only [Int.reduceToNat] at ho41; rw [← Ny311.out] at ho41)); have HO313 := am (Kd.R_lower (Kd.R_new' ho41 (Kd.Q_lt (kq HP294.out))) (keep_size (w := w) (g := g) (row := none) (kp HK.out))); replace HP294 := am (Kd.Q_elder' (kq HP294.out) (Kd.R_base ho41) hb); replace BK287 := am (bb BK287 hb); replace BK288 := am (bb BK288 hb); replace BK293 := am (bb BK293 hb); replace HI0 := am (IsS107.below (si HI0.out) hb); replace HK := am (KeepBut.trans (kp HK.out) (KeepBut.of_below hb g none) (.inl rfl)); replace HB := am (below_step (bi HB.out) hb); clear hb ho41; obtain ⟨Ao42, co42, eo42⟩ := Kd.R_slice HO313.out; subst eo42) | ((with_reducible refine gate_callee (f := 70) rfl ?_); refine goesM_ (some 33) rfl rfl Try.func70 #[.pointer (some ⟨g, 0, none⟩), .slice Ao42 y311.length co42] ?_; (with_reducible refine (spec_l1PickInt.calls g s0_0 t309 t310 _ _ y311 t314 t315 t316 w0 _ ?side1 ?side2 ?side3 ?side4 ?side5 A30.out).mono ?_); (case side1 => exact si HI0.out); (case side2 => exact bi HB.out); (case side3 => exact kc (Kd.R_reads' HO313.out).2.2); (case side4 => exact (Kd.R_reads' HO313.out).2.1); (case side5 => exact far_slice (IsS107.own_ne HI0.out HO313.out (by decide))); rintro e w43 ⟨rfl, hi, hb, hk⟩; refine ⟨_, rfl, ?_⟩; replace HP294 := am (Kd.Q_mono (Kd.Q_keep (IsS107.apartQ (show IsS107 w0 _ g s0_0 t309 t310 from si HI0.out) (kq HP294.out) (by decide)) hk (fun _ h => h.2)) (fun _ h => h.1)); replace BK287 := am (kB hk (kb BK287.out) NB287_0); replace BK288 := am (kB hk (kb BK288.out) NB288_0); replace BK293 := am (kB hk (kb BK293.out) NB293_0); replace HO313 := am (Kd.R_mono (Kd.R_keep (IsS107.apart (show IsS107 w0 _ g s0_0 t309 t310 from si HI0.out) (kr HO313.out) (by decide)) hk (fun _ h => h.2)) (fun _ h => h.1)); replace HK := am (KeepBut.trans (kp HK.out) hk (.inl rfl)); replace HB := am (hb); replace HI0 := am (hi); (try clear hb); (try clear hk); (try clear hi); obtain ⟨hcz44_0, hcz44_1⟩ := ce2 BK293; obtain ⟨hfz44_0, hfz44_1⟩ := fz2 BK293; obtain ⟨Ao45, co45, eo45, _⟩ := Kd.Q_slice HP294.out; subst eo45; have p_ := NB288_0.out; obtain ⟨hcz47_0, hcz47_1⟩ := ce2 BK288; obtain ⟨hfz47_0, hfz47_1⟩ := fz2 BK288))
     refine bodyPost_ret (results_cell_row rfl _ _ gb288 32 #[.slice Ao45 x294000_1.length co45, .int .i64 t314] (0, 0) _ rfl (bf NB288_293 BK288.out) Try.underlying32 rfl (by kernel_rfl)) rfl ?_
     exact ⟨_, rt, kq (Kd.Q_mono (Kd.Q_far (p := ⟨gb288, 1, none⟩) (Kd.Q_far (p := ⟨gb288, 0, none⟩) (Kd.Q_far (p := ⟨gb293, 1, none⟩) (Kd.Q_types (Kd.Q_types HP294.out BK293.out (by decide)) BK288.out (by decide)) (fun _ hk => hk.1.2) (.int .i64 t314)) (fun _ hk => hk.2) (.slice Ao45 x294000_1.length co45)) (fun _ hk => hk.2) (.int .i64 t314)) (fun _ hk => trivial)), si HI0.out, bi HB.out, kp HK.out⟩
    ·rw [if_neg c29] at H
     have c29b0 : (t308 == 0) = false := beq_eq_false_iff_ne.mpr c29
     have c29b1 : (t308 != 0) = true := bne_iff_ne.mpr c29
     by_cases c48 : t308 = 1
     ·rw [if_pos c48] at H
      have c48b0 : (t308 == 1) = true := beq_iff_eq.mpr c48
      have c48b1 : (t308 != 1) = false := bne_eq_false_iff_eq.mpr c48
      clear c48
      by_cases c49 : 1 ≤ (x294000_1.length : Int)
      ·rw [if_pos c49] at H
       have c49b0 := eq_true c49
       have c49b1 : decide (1 ≤ (x294000_1.length : Int)) = true := decide_eq_true c49
       clear c49
       obtain ⟨y317, hy317⟩ : ∃ y_ : List Int, y_ = (x294000_1.drop (1 : Int).toNat) := ⟨_, rfl⟩
       replace H : (some (y317, t305, t309, t310)) = some (r1, r2, r3, r4) := by first | (rw [hy317]; with_reducible exact H) | (have H2_ := (Option.bind_some _ _).symm.trans H; rw [hy317]; with_reducible exact H2_) | (have H2_ := (Option.bind_some _ _).symm.trans H; with_reducible exact H2_) | with_reducible exact H | (rw [hy317]; exact H) | exact H
       have Ny317 := am hy317
       clear hy317
       simp only [Option.some.injEq, Prod.mk.injEq] at H
       obtain ⟨rfl, rfl, rfl, rfl⟩ := H
       have p_ := NB287_288.out
       have p_ := NB287_293.out
       have p_ := NB287_0.out
       have hcz53_0 : wr.cell? ⟨gb287, 0, none⟩ = some (.slice A1_0 l1_0.length c1_0) := cl BK287 0
       have hfz53_0 := blk_frozen BK287.out 0
       go_wp2_with (first | ((with_reducible refine gate_callee (f := 117) rfl ?_); refine goesM_ (some 24) rfl rfl Try.func117 #[.int .i64 (l1_0.length : Int), .int .i64 1] ?_; (with_reducible refine (spec_l1Max.calls (l1_0.length : Int) 1 t304 _ A26.out).mono ?_); rintro e w' ⟨rfl, ⟨nd, rfl⟩⟩; refine ⟨_, rfl, ?_⟩; (try (rw [drewN_self wr]; generalize hq_ : World.drewN wr _ = wr; have n0_ : Aside0 (Kd.Q (Kd.int .i64) 3 wr w.heap.size (fun _ => True) u294000 x294000_1) := ⟨by rw [← hq_]; exact (kq HP294.out)⟩; have n1_ : Aside0 (wr.heap[gb287]? = some (.cells #[.slice A1_0 l1_0.length c1_0] 29 (0, 0))) := ⟨by rw [← hq_]; exact (kb BK287.out)⟩; have n2_ : Aside0 (wr.heap[gb288]? = some (.cells #[.slice none 0 0, .int .i64 0] 32 (0, 0))) := ⟨by rw [← hq_]; exact (kb BK288.out)⟩; have n3_ : Aside0 (wr.heap[gb293]? = some (.cells #[u294000, .int .i64 t292] 32 (0, 0))) := ⟨by rw [← hq_]; exact (kb BK293.out)⟩; have n4_ : Aside0 (IsS107 w0 wr g s0_0 x1001_1 x1002_1) := ⟨by rw [← hq_]; exact (si HI0.out)⟩; have n5_ : Aside0 (KeepBut w wr g none) := ⟨by rw [← hq_]; exact (kp HK.out)⟩; have n6_ : Aside0 (Below w0.heap.size w0 wr) := ⟨by rw [← hq_]; exact (bi HB.out)⟩; clear HP294 BK287 BK288 BK293 HI0 HK HB hq_; have HP294 := n0_; have BK287 := n1_; have BK288 := n2_; have BK293 := n3_; have HI0 := n4_; have HK := n5_; have HB := n6_; clear n0_ n1_ n2_ n3_ n4_ n5_ n6_))) | ((with_reducible refine gate_callee (f := 60) rfl ?_); refine goesM_ (some 25) rfl rfl Try.func60 #[.pointer (some ⟨g, 0, none⟩), .int .i64 t304] ?_; (with_reducible refine (spec_l1Below.calls g s0_0 x1001_1 x1002_1 t304 t305 t306 t307 w0 _ ?side1 ?side2 A27.out).mono ?_); (case side1 => exact si HI0.out); (case side2 => exact bi HB.out); rintro e w54 ⟨rfl, hi, hb, hk⟩; refine ⟨_, rfl, ?_⟩; replace HP294 := am (Kd.Q_mono (Kd.Q_keep (IsS107.apartQ (show IsS107 w0 _ g s0_0 x1001_1 x1002_1 from si HI0.out) (kq HP294.out) (by decide)) hk (fun _ h => h.2)) (fun _ h => h.1)); replace BK287 := am (kB hk (kb BK287.out) NB287_0); replace BK288 := am (kB hk (kb BK288.out) NB288_0); replace BK293 := am (kB hk (kb BK293.out) NB293_0); replace HK := am (KeepBut.trans (kp HK.out) hk (.inl rfl)); replace HB := am (hb); replace HI0 := am (hi); (try clear hb); (try clear hk); (try clear hi); have p_ := NB293_288.out; have p_ := NB293_0.out; obtain ⟨hcz57_0, hcz57_1⟩ := ce2 BK293; obtain ⟨hfz57_0, hfz57_1⟩ := fz2 BK293) | ((with_reducible refine gate_callee (f := 60) rfl ?_); refine goesM_ (some 28) rfl rfl Try.func60 #[.pointer (some ⟨g, 0, none⟩), .int .i64 30] ?_; (with_reducible refine (spec_l1Below.calls g s0_0 t306 t307 30 t308 t309 t310 w0 _ ?side1 ?side2 A28.out).mono ?_); (case side1 => exact si HI0.out); (case side2 => exact bi HB.out); rintro e w58 ⟨rfl, hi, hb, hk⟩; refine ⟨_, rfl, ?_⟩; replace HP294 := am (Kd.Q_mono (Kd.Q_keep (IsS107.apartQ (show IsS107 w0 _ g s0_0 t306 t307 from si HI0.out) (kq ((Kd.Q_mono (Kd.Q_far (p := ⟨gb293, 1, none⟩) (Kd.Q_types HP294.out BK293.out (by decide)) (fun _ hk => hk.2) (.int .i64 t305)) (fun _ h_ => h_.1)))) (by decide)) hk (fun _ h => h.2)) (fun _ h => h.1)); replace BK287 := am (kB hk (kf BK287.out) NB287_0); replace BK288 := am (kB hk (kf BK288.out) NB288_0); replace BK293 := am (KeepBut.blk hk (g' := gb293) (o := .cells #[u294000, .int .i64 t305] 32 (0, 0)) (kt BK293.out) NB293_0.out (by simp)); replace HK := am (KeepBut.trans (kp HK.out) hk (.inl rfl)); replace HB := am (hb); replace HI0 := am (hi); (try clear hb); (try clear hk); (try clear hi); obtain ⟨hcz59_0, hcz59_1⟩ := ce2 BK293; obtain ⟨hfz59_0, hfz59_1⟩ := fz2 BK293; obtain ⟨Ao60, co60, eo60, _⟩ := Kd.Q_slice HP294.out; subst eo60; have q61 : (1 : Int) ≤ ((x294000_1.length : Int) : Int) := dt; obtain ⟨i061, hi061, _, hsz61, _⟩ := info_parts info3; have hcut61 := cut_from (P := Try.prog) 30 3 .i64 Try.underlying30 hi061 1 hsz61 Ao60 x294000_1.length co60 1 (by omega) q61; have hr61 := Kd.Q_drop (k := (1 : Int).toNat) HP294.out (by omega); obtain ⟨A61, hA61⟩ : ∃ A1, A1 = (if co60 = (1 : Int).toNat then Ao60 else (Ao60 : Option Addr).map (·.add ((1 : Int).toNat * 1))) := ⟨_, rfl⟩; obtain ⟨c61, hc61⟩ : ∃ c1, c1 = co60 - (1 : Int).toNat := ⟨_, rfl⟩; have hy61 : y317.length = x294000_1.length - (1 : Int).toNat := (by rw [Ny317.out, List.length_drop]); rw [← Ny317.out] at hr61; rw [← hy61, ← hA61, ← hc61] at hcut61; replace hr61 : Kd.Q (Kd.int .i64) 3 w58 w.heap.size (fun _ => True) (.slice A61 y317.length c61) y317 := (by rw [hA61, hc61, hy61]; exact hr61); have HE61 : Aside0 ((Value.slice A61 y317.length c61).ownBlock = (.slice Ao60 x294000_1.length co60 : Value).ownBlock) := ⟨by rw [hA61]; split <;> (cases (Ao60 : Option Addr) <;> rfl)⟩; clear hy61 hi061 hsz61 HP294 hA61 hc61; have HO319 := am hr61; clear hr61; replace q61 := eq_true q61; have p_ := NB288_0.out; obtain ⟨hcz63_0, hcz63_1⟩ := ce2 BK288; obtain ⟨hfz63_0, hfz63_1⟩ := fz2 BK288))
       refine bodyPost_ret (results_cell_row rfl _ _ gb288 32 #[.slice A61 y317.length c61, .int .i64 t305] (0, 0) _ rfl (bf NB288_293 BK288.out) Try.underlying32 rfl (by kernel_rfl)) rfl ?_
       exact ⟨_, rt, kq (Kd.Q_mono (Kd.Q_far (p := ⟨gb288, 1, none⟩) (Kd.Q_far (p := ⟨gb288, 0, none⟩) (Kd.Q_far (p := ⟨gb293, 0, none⟩) (Kd.Q_types (Kd.Q_types HO319.out BK293.out (by decide)) BK288.out (by decide)) (fun _ hk => hk.1.2) (.slice A61 y317.length c61)) (fun _ hk => hk.2) (.slice A61 y317.length c61)) (fun _ hk => hk.2) (.int .i64 t305)) (fun _ hk => trivial)), si HI0.out, bi HB.out, kp HK.out⟩
      ·rw [if_neg c49] at H
       exact absurd H (by simp)
     ·rw [if_neg c48] at H
      have c48b0 : (t308 == 1) = false := beq_eq_false_iff_ne.mpr c48
      have c48b1 : (t308 != 1) = true := bne_iff_ne.mpr c48
      by_cases c64 : t308 = 2
      ·rw [if_pos c64] at H
       have c64b0 : (t308 == 2) = true := beq_iff_eq.mpr c64
       have c64b1 : (t308 != 2) = false := bne_eq_false_iff_eq.mpr c64
       clear c64
       by_cases c65 : 256 < (x294000_1.length : Int)
       ·rw [if_pos c65] at H
        have c65b0 : decide (256 < (x294000_1.length : Int)) = true := decide_eq_true c65
        have c65b1 : decide (256 < x294000_1.length) = true := decide_eq_true (by omega)
        clear c65
        obtain ⟨y320, hy320⟩ : ∃ y_ : List Int, y_ = (x294000_1.set (256 : Int).toNat 256) := ⟨_, rfl⟩
        replace H : (some (y320, t305, t309, t310)) = some (r1, r2, r3, r4) := by first | (rw [hy320]; with_reducible exact H) | (have H2_ := (Option.bind_some _ _).symm.trans H; rw [hy320]; with_reducible exact H2_) | (have H2_ := (Option.bind_some _ _).symm.trans H; with_reducible exact H2_) | with_reducible exact H | (rw [hy320]; exact H) | exact H
        have Ny320 := am hy320
        clear hy320
        simp only [Option.some.injEq, Prod.mk.injEq] at H
        obtain ⟨rfl, rfl, rfl, rfl⟩ := H
        have p_ := NB287_288.out
        have p_ := NB287_293.out
        have p_ := NB287_0.out
        have hcz70_0 : wr.cell? ⟨gb287, 0, none⟩ = some (.slice A1_0 l1_0.length c1_0) := cl BK287 0
        have hfz70_0 := blk_frozen BK287.out 0
        go_wp2_with (first | ((with_reducible refine gate_callee (f := 117) rfl ?_); refine goesM_ (some 24) rfl rfl Try.func117 #[.int .i64 (l1_0.length : Int), .int .i64 1] ?_; (with_reducible refine (spec_l1Max.calls (l1_0.length : Int) 1 t304 _ A26.out).mono ?_); rintro e w' ⟨rfl, ⟨nd, rfl⟩⟩; refine ⟨_, rfl, ?_⟩; (try (rw [drewN_self wr]; generalize hq_ : World.drewN wr _ = wr; have n0_ : Aside0 (Kd.Q (Kd.int .i64) 3 wr w.heap.size (fun _ => True) u294000 x294000_1) := ⟨by rw [← hq_]; exact (kq HP294.out)⟩; have n1_ : Aside0 (wr.heap[gb287]? = some (.cells #[.slice A1_0 l1_0.length c1_0] 29 (0, 0))) := ⟨by rw [← hq_]; exact (kb BK287.out)⟩; have n2_ : Aside0 (wr.heap[gb288]? = some (.cells #[.slice none 0 0, .int .i64 0] 32 (0, 0))) := ⟨by rw [← hq_]; exact (kb BK288.out)⟩; have n3_ : Aside0 (wr.heap[gb293]? = some (.cells #[u294000, .int .i64 t292] 32 (0, 0))) := ⟨by rw [← hq_]; exact (kb BK293.out)⟩; have n4_ : Aside0 (IsS107 w0 wr g s0_0 x1001_1 x1002_1) := ⟨by rw [← hq_]; exact (si HI0.out)⟩; have n5_ : Aside0 (KeepBut w wr g none) := ⟨by rw [← hq_]; exact (kp HK.out)⟩; have n6_ : Aside0 (Below w0.heap.size w0 wr) := ⟨by rw [← hq_]; exact (bi HB.out)⟩; clear HP294 BK287 BK288 BK293 HI0 HK HB hq_; have HP294 := n0_; have BK287 := n1_; have BK288 := n2_; have BK293 := n3_; have HI0 := n4_; have HK := n5_; have HB := n6_; clear n0_ n1_ n2_ n3_ n4_ n5_ n6_))) | ((with_reducible refine gate_callee (f := 60) rfl ?_); refine goesM_ (some 25) rfl rfl Try.func60 #[.pointer (some ⟨g, 0, none⟩), .int .i64 t304] ?_; (with_reducible refine (spec_l1Below.calls g s0_0 x1001_1 x1002_1 t304 t305 t306 t307 w0 _ ?side1 ?side2 A27.out).mono ?_); (case side1 => exact si HI0.out); (case side2 => exact bi HB.out); rintro e w71 ⟨rfl, hi, hb, hk⟩; refine ⟨_, rfl, ?_⟩; replace HP294 := am (Kd.Q_mono (Kd.Q_keep (IsS107.apartQ (show IsS107 w0 _ g s0_0 x1001_1 x1002_1 from si HI0.out) (kq HP294.out) (by decide)) hk (fun _ h => h.2)) (fun _ h => h.1)); replace BK287 := am (kB hk (kb BK287.out) NB287_0); replace BK288 := am (kB hk (kb BK288.out) NB288_0); replace BK293 := am (kB hk (kb BK293.out) NB293_0); replace HK := am (KeepBut.trans (kp HK.out) hk (.inl rfl)); replace HB := am (hb); replace HI0 := am (hi); (try clear hb); (try clear hk); (try clear hi); have p_ := NB293_288.out; have p_ := NB293_0.out; obtain ⟨hcz74_0, hcz74_1⟩ := ce2 BK293; obtain ⟨hfz74_0, hfz74_1⟩ := fz2 BK293) | ((with_reducible refine gate_callee (f := 60) rfl ?_); refine goesM_ (some 28) rfl rfl Try.func60 #[.pointer (some ⟨g, 0, none⟩), .int .i64 30] ?_; (with_reducible refine (spec_l1Below.calls g s0_0 t306 t307 30 t308 t309 t310 w0 _ ?side1 ?side2 A28.out).mono ?_); (case side1 => exact si HI0.out); (case side2 => exact bi HB.out); rintro e w75 ⟨rfl, hi, hb, hk⟩; refine ⟨_, rfl, ?_⟩; replace HP294 := am (Kd.Q_mono (Kd.Q_keep (IsS107.apartQ (show IsS107 w0 _ g s0_0 t306 t307 from si HI0.out) (kq ((Kd.Q_mono (Kd.Q_far (p := ⟨gb293, 1, none⟩) (Kd.Q_types HP294.out BK293.out (by decide)) (fun _ hk => hk.2) (.int .i64 t305)) (fun _ h_ => h_.1)))) (by decide)) hk (fun _ h => h.2)) (fun _ h => h.1)); replace BK287 := am (kB hk (kf BK287.out) NB287_0); replace BK288 := am (kB hk (kf BK288.out) NB288_0); replace BK293 := am (KeepBut.blk hk (g' := gb293) (o := .cells #[u294000, .int .i64 t305] 32 (0, 0)) (kt BK293.out) NB293_0.out (by simp)); replace HK := am (KeepBut.trans (kp HK.out) hk (.inl rfl)); replace HB := am (hb); replace HI0 := am (hi); (try clear hb); (try clear hk); (try clear hi); obtain ⟨hcz76_0, hcz76_1⟩ := ce2 BK293; obtain ⟨hfz76_0, hfz76_1⟩ := fz2 BK293; have p66 : 0 ≤ (256 : Int) := (by omega); have q66 : (256 : Int) < ((x294000_1.length : Int) : Int) := dt; have qi66 : (256 < x294000_1.length) = True := eq_true (by omega); obtain ⟨go66, oo66, co66, eo66, gb66, gl66, cl66, HG66⟩ := Kd.Q_form HP294.out (by omega); (first | cases eo66 | (injection eo66 with ea_ en_ ec_; (first | subst ea_ | (injection ea_ with ea_; subst ea_)); subst ec_; clear en_)); have GB66 := am gb66; have GG66 := am HG66; clear gb66 gl66 HG66; obtain ⟨hx66_0, hf66_0⟩ := Kd.Q_cell 0 HP294.out (256 : Int) p66 q66; (try rw [show ((256 : Int)).toNat = 256 from rfl] at hx66_0); (try simp only [Nat.reduceMul, Nat.zero_mul, Nat.zero_add, Nat.reduceAdd] at hx66_0); (try rw [show ((256 : Int)).toNat = 256 from rfl] at hf66_0); (try simp only [Nat.reduceMul, Nat.zero_mul, Nat.zero_add, Nat.reduceAdd] at hf66_0); replace p66 := eq_true p66; replace q66 := eq_true q66; obtain ⟨hy77_, hz77_⟩ := Kd.Q_cell 0 HP294.out (256 : Int) (by omega) dt; (try simp only [Int.reduceToNat, Int.toNat_zero, Int.toNat_ofNat, Nat.reduceMul, Nat.zero_mul, Nat.zero_add] at hy77_ hz77_); (try rw [show ((256 : Int)).toNat = 256 from rfl] at hy77_); (try rw [show ((256 : Int)).toNat = 256 from rfl] at hz77_); have HP77 := Kd.Q_putg HP294.out (256 : Int) (by omega) (by have h_ : (256 : Int) < ((x294000_1.length : Int) : Int) := dt; first | exact h_ | (have e_ := (Kd.Q_reads' HP294.out).1; omega) | simpa using h_) 256) | ((with_reducible refine gate_store (t := 3) (p := 45) rfl ?_); refine store_event (t := 3) (p := 45) (v := ?vo_w78) (w1 := (w75.setCell ⟨go66, oo66 + (256 : Int).toNat, none⟩ (.int .i64 256))) ?hg ?ho ?hn ?hr ?_; (case ho => rfl); (case hg => rfl); (case hn => rfl); (case hr => first | (go_simp; done) | (go_simp; rfl)); intro w78 hw; have hg : w75.grownBy w78 (some go66) := (by rw [hw]; exact HP77.2); have hp_ : Kd.Q (Kd.int .i64) 3 w78 w.heap.size (fun _ => True) (.slice (some ⟨go66, oo66, none⟩) x294000_1.length co66) y320 := (by rw [hw, Ny320.out]; exact HP77.1); clear HP77; have n0_ := am (hp_); have n1_ := am (blk_grown (g := gb287) (o := .cells #[.slice A1_0 l1_0.length c1_0] 29 (0, 0)) (kb BK287.out) hg (Kd.Q_ne HP294.out BK287.out (by decide))); have n2_ := am (blk_grown (g := gb288) (o := .cells #[.slice none 0 0, .int .i64 0] 32 (0, 0)) (kb BK288.out) hg (Kd.Q_ne HP294.out BK288.out (by decide))); have n3_ := am (blk_grown (g := gb293) (o := .cells #[.slice (some ⟨go66, oo66, none⟩) x294000_1.length co66, .int .i64 t305] 32 (0, 0)) (kb BK293.out) hg (Kd.Q_ne HP294.out BK293.out (by decide))); have n4_ := am (IsS107.grown (si HI0.out) hg (IsS107.own_neQ HI0.out HP294.out (by decide))); have n5_ := am ((by rw [hw]; exact below_set (HB.out) (Nat.le_trans HL.out GB66.out) : Below w0.heap.size w0 w78)); have n6_ := am (KeepBut.trans (kp HK.out) (KeepBut.of_grown hg g) (Kd.Q_base2 HP294.out)); clear HP294; clear BK287; clear BK288; clear BK293; clear HI0; clear HB; clear HK; have HP294 := n0_; have BK287 := n1_; have BK288 := n2_; have BK293 := n3_; have HI0 := n4_; have HB := n5_; have HK := n6_; clear n0_ n1_ n2_ n3_ n4_ n5_ n6_; clear hg hw hp_; obtain ⟨hcz79_0, hcz79_1⟩ := ce2 BK293; obtain ⟨hfz79_0, hfz79_1⟩ := fz2 BK293; have p_ := NB288_0.out; obtain ⟨hcz81_0, hcz81_1⟩ := ce2 BK288; obtain ⟨hfz81_0, hfz81_1⟩ := fz2 BK288))
        refine bodyPost_ret (results_cell_row rfl _ _ gb288 32 #[.slice (some ⟨go66, oo66, none⟩) x294000_1.length co66, .int .i64 t305] (0, 0) _ rfl (bq BK288.out) Try.underlying32 rfl (by kernel_rfl)) rfl ?_
        exact ⟨_, rt, kq (Kd.Q_mono (Kd.Q_far (p := ⟨gb288, 1, none⟩) (Kd.Q_far (p := ⟨gb288, 0, none⟩) (Kd.Q_types HP294.out BK288.out (by decide)) (fun _ hk => hk.2) (.slice (some ⟨go66, oo66, none⟩) x294000_1.length co66)) (fun _ hk => hk.2) (.int .i64 t305)) (fun _ hk => trivial)), si HI0.out, bi HB.out, kp HK.out⟩
       ·rw [if_neg c65] at H
        exact absurd H (by simp)
      ·rw [if_neg c64] at H
       have c64b0 : (t308 == 2) = false := beq_eq_false_iff_ne.mpr c64
       have c64b1 : (t308 != 2) = true := bne_iff_ne.mpr c64
       simp only [Option.some.injEq, Prod.mk.injEq] at H
       obtain ⟨rfl, rfl, rfl, rfl⟩ := H
       have p_ := NB287_288.out
       have p_ := NB287_293.out
       have p_ := NB287_0.out
       have hcz85_0 : wr.cell? ⟨gb287, 0, none⟩ = some (.slice A1_0 l1_0.length c1_0) := cl BK287 0
       have hfz85_0 := blk_frozen BK287.out 0
       go_wp2_with (first | ((with_reducible refine gate_callee (f := 117) rfl ?_); refine goesM_ (some 24) rfl rfl Try.func117 #[.int .i64 (l1_0.length : Int), .int .i64 1] ?_; (with_reducible refine (spec_l1Max.calls (l1_0.length : Int) 1 t304 _ A26.out).mono ?_); rintro e w' ⟨rfl, ⟨nd, rfl⟩⟩; refine ⟨_, rfl, ?_⟩; (try (rw [drewN_self wr]; generalize hq_ : World.drewN wr _ = wr; have n0_ : Aside0 (Kd.Q (Kd.int .i64) 3 wr w.heap.size (fun _ => True) u294000 x294000_1) := ⟨by rw [← hq_]; exact (kq HP294.out)⟩; have n1_ : Aside0 (wr.heap[gb287]? = some (.cells #[.slice A1_0 l1_0.length c1_0] 29 (0, 0))) := ⟨by rw [← hq_]; exact (kb BK287.out)⟩; have n2_ : Aside0 (wr.heap[gb288]? = some (.cells #[.slice none 0 0, .int .i64 0] 32 (0, 0))) := ⟨by rw [← hq_]; exact (kb BK288.out)⟩; have n3_ : Aside0 (wr.heap[gb293]? = some (.cells #[u294000, .int .i64 t292] 32 (0, 0))) := ⟨by rw [← hq_]; exact (kb BK293.out)⟩; have n4_ : Aside0 (IsS107 w0 wr g s0_0 x1001_1 x1002_1) := ⟨by rw [← hq_]; exact (si HI0.out)⟩; have n5_ : Aside0 (KeepBut w wr g none) := ⟨by rw [← hq_]; exact (kp HK.out)⟩; have n6_ : Aside0 (Below w0.heap.size w0 wr) := ⟨by rw [← hq_]; exact (bi HB.out)⟩; clear HP294 BK287 BK288 BK293 HI0 HK HB hq_; have HP294 := n0_; have BK287 := n1_; have BK288 := n2_; have BK293 := n3_; have HI0 := n4_; have HK := n5_; have HB := n6_; clear n0_ n1_ n2_ n3_ n4_ n5_ n6_))) | ((with_reducible refine gate_callee (f := 60) rfl ?_); refine goesM_ (some 25) rfl rfl Try.func60 #[.pointer (some ⟨g, 0, none⟩), .int .i64 t304] ?_; (with_reducible refine (spec_l1Below.calls g s0_0 x1001_1 x1002_1 t304 t305 t306 t307 w0 _ ?side1 ?side2 A27.out).mono ?_); (case side1 => exact si HI0.out); (case side2 => exact bi HB.out); rintro e w86 ⟨rfl, hi, hb, hk⟩; refine ⟨_, rfl, ?_⟩; replace HP294 := am (Kd.Q_mono (Kd.Q_keep (IsS107.apartQ (show IsS107 w0 _ g s0_0 x1001_1 x1002_1 from si HI0.out) (kq HP294.out) (by decide)) hk (fun _ h => h.2)) (fun _ h => h.1)); replace BK287 := am (kB hk (kb BK287.out) NB287_0); replace BK288 := am (kB hk (kb BK288.out) NB288_0); replace BK293 := am (kB hk (kb BK293.out) NB293_0); replace HK := am (KeepBut.trans (kp HK.out) hk (.inl rfl)); replace HB := am (hb); replace HI0 := am (hi); (try clear hb); (try clear hk); (try clear hi); have p_ := NB293_288.out; have p_ := NB293_0.out; obtain ⟨hcz89_0, hcz89_1⟩ := ce2 BK293; obtain ⟨hfz89_0, hfz89_1⟩ := fz2 BK293) | ((with_reducible refine gate_callee (f := 60) rfl ?_); refine goesM_ (some 28) rfl rfl Try.func60 #[.pointer (some ⟨g, 0, none⟩), .int .i64 30] ?_; (with_reducible refine (spec_l1Below.calls g s0_0 t306 t307 30 t308 t309 t310 w0 _ ?side1 ?side2 A28.out).mono ?_); (case side1 => exact si HI0.out); (case side2 => exact bi HB.out); rintro e w90 ⟨rfl, hi, hb, hk⟩; refine ⟨_, rfl, ?_⟩; replace HP294 := am (Kd.Q_mono (Kd.Q_keep (IsS107.apartQ (show IsS107 w0 _ g s0_0 t306 t307 from si HI0.out) (kq ((Kd.Q_mono (Kd.Q_far (p := ⟨gb293, 1, none⟩) (Kd.Q_types HP294.out BK293.out (by decide)) (fun _ hk => hk.2) (.int .i64 t305)) (fun _ h_ => h_.1)))) (by decide)) hk (fun _ h => h.2)) (fun _ h => h.1)); replace BK287 := am (kB hk (kf BK287.out) NB287_0); replace BK288 := am (kB hk (kf BK288.out) NB288_0); replace BK293 := am (KeepBut.blk hk (g' := gb293) (o := .cells #[u294000, .int .i64 t305] 32 (0, 0)) (kt BK293.out) NB293_0.out (by simp)); replace HK := am (KeepBut.trans (kp HK.out) hk (.inl rfl)); replace HB := am (hb); replace HI0 := am (hi); (try clear hb); (try clear hk); (try clear hi); obtain ⟨hcz91_0, hcz91_1⟩ := ce2 BK293; obtain ⟨hfz91_0, hfz91_1⟩ := fz2 BK293; obtain ⟨Ao92, co92, eo92, _⟩ := Kd.Q_slice HP294.out; subst eo92; have p_ := NB288_0.out; obtain ⟨hcz94_0, hcz94_1⟩ := ce2 BK288; obtain ⟨hfz94_0, hfz94_1⟩ := fz2 BK288))
       refine bodyPost_ret (results_cell_row rfl _ _ gb288 32 #[.slice Ao92 x294000_1.length co92, .int .i64 t305] (0, 0) _ rfl (bq BK288.out) Try.underlying32 rfl (by kernel_rfl)) rfl ?_
       exact ⟨_, rt, kq (Kd.Q_mono (Kd.Q_far (p := ⟨gb288, 1, none⟩) (Kd.Q_far (p := ⟨gb288, 0, none⟩) (Kd.Q_types HP294.out BK288.out (by decide)) (fun _ hk => hk.2) (.slice Ao92 x294000_1.length co92)) (fun _ hk => hk.2) (.int .i64 t305)) (fun _ hk => trivial)), si HI0.out, bi HB.out, kp HK.out⟩

end Go.Proofs.Ytmkccgbfgebfbaa.MFnCalled
