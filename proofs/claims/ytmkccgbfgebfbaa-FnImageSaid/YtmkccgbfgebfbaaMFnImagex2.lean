/- Walks of functions that the law FnImage reaches: each comes to just what its Lean function says. (Begun as the texts that print.sh wrote for this claim; some of them, and those that it does not write, are mine.) No condition. -/
import Derived.Test.YtmkccgbfgebfbaaMFnImagex1
namespace Go.Proofs.Ytmkccgbfgebfbaa.MFnImage
open Go.RowKit Go.Proofs.YtmkccgbfgebfbaaW.PrintWords Go.Proofs.YtmkccgbfgebfbaaW.PrintLast Go.Proofs.YtmkccgbfgebfbaaW.PrintMore
attribute [local go_sem] max2_int min2_int max_two min_two max_three min_three max_four min_four   -- for this text's walks alone
set_option linter.unusedVariables false
set_option linter.unusedSimpArgs false

/-! ### spec_Assemble: function 106 -/
mutual
def spec_Assemble.l0 : Nat → ByteArray → List Int → Int → Int → Int → Int → Option (List Int × Int)
 | 0, _, _, _, _, _, _ => none
 | k + 1, x0, x4, x5, x6, x7, x8 => if x8 ≤ (x0.size : Int) then (if x8 < (x0.size : Int) then (if 0 ≤ x8 then (if (bt x0 x8) = 10 then (if x8 = (x0.size : Int) then (spec_Assemble.j1 k x0 x4 x5 x6 x7 x8 (x6 == (x0.size : Int))) else (spec_Assemble.j1 k x0 x4 x5 x6 x7 x8 false)) else (spec_Assemble.j1 k x0 x4 x5 x6 x7 x8 true)) else (none)) else (if x8 = (x0.size : Int) then (spec_Assemble.j1 k x0 x4 x5 x6 x7 x8 (x6 == (x0.size : Int))) else (spec_Assemble.j1 k x0 x4 x5 x6 x7 x8 false))) else (some (x4, 0))
def spec_Assemble.j1 : Nat → ByteArray → List Int → Int → Int → Int → Int → Bool → Option (List Int × Int)
 | 0, _, _, _, _, _, _, _ => none
 | k + 1, x0, x4, x5, x6, x7, x8, x46 => if x46 = true then (spec_Assemble.l0 k x0 x4 x5 x6 x7 (wrap64 (x8 + 1))) else (if 0 ≤ x6 then (if x6 ≤ x8 then (if x8 ≤ (x0.size : Int) then (if (x0.extract (x6 : Int).toNat (x8 : Int).toNat).toList = ([] : List UInt8) then (spec_Assemble.l0 k x0 x4 x5 (wrap64 (x8 + 1)) (wrap64 (x7 + 1)) (wrap64 (x8 + 1))) else ((spec_l4Bytes.f k (x0.extract (x6 : Int).toNat (x8 : Int).toNat)).bind fun bt206 => (if bt206.2.2 = true then (if bt206.2.1 ≥ 0 then (spec_Assemble.j2 k x0 x4 bt206.2.1 (wrap64 (x8 + 1)) (wrap64 (x7 + 1)) x8 bt206.1) else (spec_Assemble.j2 k x0 x4 x5 (wrap64 (x8 + 1)) (wrap64 (x7 + 1)) x8 bt206.1)) else (some ((([] : List Int)), wrap64 (x7 + 1)))))) else (none)) else (none)) else (none))
def spec_Assemble.j2 : Nat → ByteArray → List Int → Int → Int → Int → Int → List Int → Option (List Int × Int)
 | 0, _, _, _, _, _, _, _ => none
 | k + 1, x0, x4, x5, x6, x7, x8, x10 => spec_Assemble.l1 k x0 x4 x5 x6 x7 x8 x10 0
def spec_Assemble.l1 : Nat → ByteArray → List Int → Int → Int → Int → Int → List Int → Int → Option (List Int × Int)
 | 0, _, _, _, _, _, _, _, _ => none
 | k + 1, x0, x4, x5, x6, x7, x8, x10, x13 => if x13 < (x10.length : Int) then ((spec_Byte.f x5).bind fun t214 => (if 0 ≤ x13 then (if 0 ≤ t214 then (if t214 < (x4.length : Int) then (spec_Assemble.l1 k x0 (x4.set (t214 : Int).toNat (rd x10 x13)) (wrap64 (x5 + 1)) x6 x7 x8 x10 (wrap64 (x13 + 1))) else (none)) else (none)) else (none))) else (spec_Assemble.l0 k x0 x4 x5 x6 x7 (wrap64 (x8 + 1)))
end
def spec_Assemble.f (k : Nat) (a0 : ByteArray) : Option (List Int × Int) := if (a0.size : Int) > 3000 then (some ((([] : List Int)), (-1))) else (if 256 ≤ 35184372088832 then (spec_Assemble.l0 k a0 (List.replicate 256 0) 0 0 0 0) else (none))
theorem spec_Assemble.mono_l : ∀ k, (∀ y0 y1 y2 y3 y4 y5, LeO (spec_Assemble.l0 k y0 y1 y2 y3 y4 y5) (spec_Assemble.l0 (k + 1) y0 y1 y2 y3 y4 y5)) ∧ (∀ y0 y1 y2 y3 y4 y5 y6, LeO (spec_Assemble.j1 k y0 y1 y2 y3 y4 y5 y6) (spec_Assemble.j1 (k + 1) y0 y1 y2 y3 y4 y5 y6)) ∧ (∀ y0 y1 y2 y3 y4 y5 y6, LeO (spec_Assemble.j2 k y0 y1 y2 y3 y4 y5 y6) (spec_Assemble.j2 (k + 1) y0 y1 y2 y3 y4 y5 y6)) ∧ (∀ y0 y1 y2 y3 y4 y5 y6 y7, LeO (spec_Assemble.l1 k y0 y1 y2 y3 y4 y5 y6 y7) (spec_Assemble.l1 (k + 1) y0 y1 y2 y3 y4 y5 y6 y7))
 | 0 => ⟨fun _ _ _ _ _ _ r h => by simp [spec_Assemble.l0] at h, fun _ _ _ _ _ _ _ r h => by simp [spec_Assemble.j1] at h, fun _ _ _ _ _ _ _ r h => by simp [spec_Assemble.j2] at h, fun _ _ _ _ _ _ _ _ r h => by simp [spec_Assemble.l1] at h⟩
 | k + 1 => by
  obtain ⟨ih0, ih1, ih2, ih3⟩ := spec_Assemble.mono_l k
  refine ⟨?_, ?_, ?_, ?_⟩
  ·intro y0 y1 y2 y3 y4 y5
   unfold spec_Assemble.l0
   repeat' first
   | (with_reducible exact ih0 _ _ _ _ _ _)
   | (with_reducible exact ih1 _ _ _ _ _ _ _)
   | (with_reducible exact ih2 _ _ _ _ _ _ _)
   | (with_reducible exact ih3 _ _ _ _ _ _ _ _)
   | (with_reducible exact spec_l4Bytes.mono _ _)
   | (with_reducible exact LeO.refl _)
   | (with_reducible exact LeO.none _)
   | (with_reducible refine LeO.ite ?_ ?_)
   | (with_reducible refine LeO.bind ?_ (fun _ => ?_))
   | exact ih0 _ _ _ _ _ _
   | exact ih1 _ _ _ _ _ _ _
   | exact ih2 _ _ _ _ _ _ _
   | exact ih3 _ _ _ _ _ _ _ _
   | exact spec_l4Bytes.mono _ _
   | exact LeO.none _
   | refine LeO.ite ?_ ?_
   | refine LeO.bind ?_ (fun _ => ?_)
  ·intro y0 y1 y2 y3 y4 y5 y6
   unfold spec_Assemble.j1
   repeat' first
   | (with_reducible exact ih0 _ _ _ _ _ _)
   | (with_reducible exact ih1 _ _ _ _ _ _ _)
   | (with_reducible exact ih2 _ _ _ _ _ _ _)
   | (with_reducible exact ih3 _ _ _ _ _ _ _ _)
   | (with_reducible exact spec_l4Bytes.mono _ _)
   | (with_reducible exact LeO.refl _)
   | (with_reducible exact LeO.none _)
   | (with_reducible refine LeO.ite ?_ ?_)
   | (with_reducible refine LeO.bind ?_ (fun _ => ?_))
   | exact ih0 _ _ _ _ _ _
   | exact ih1 _ _ _ _ _ _ _
   | exact ih2 _ _ _ _ _ _ _
   | exact ih3 _ _ _ _ _ _ _ _
   | exact spec_l4Bytes.mono _ _
   | exact LeO.none _
   | refine LeO.ite ?_ ?_
   | refine LeO.bind ?_ (fun _ => ?_)
  ·intro y0 y1 y2 y3 y4 y5 y6
   unfold spec_Assemble.j2
   repeat' first
   | (with_reducible exact ih0 _ _ _ _ _ _)
   | (with_reducible exact ih1 _ _ _ _ _ _ _)
   | (with_reducible exact ih2 _ _ _ _ _ _ _)
   | (with_reducible exact ih3 _ _ _ _ _ _ _ _)
   | (with_reducible exact spec_l4Bytes.mono _ _)
   | (with_reducible exact LeO.refl _)
   | (with_reducible exact LeO.none _)
   | (with_reducible refine LeO.ite ?_ ?_)
   | (with_reducible refine LeO.bind ?_ (fun _ => ?_))
   | exact ih0 _ _ _ _ _ _
   | exact ih1 _ _ _ _ _ _ _
   | exact ih2 _ _ _ _ _ _ _
   | exact ih3 _ _ _ _ _ _ _ _
   | exact spec_l4Bytes.mono _ _
   | exact LeO.none _
   | refine LeO.ite ?_ ?_
   | refine LeO.bind ?_ (fun _ => ?_)
  ·intro y0 y1 y2 y3 y4 y5 y6 y7
   unfold spec_Assemble.l1
   repeat' first
   | (with_reducible exact ih0 _ _ _ _ _ _)
   | (with_reducible exact ih1 _ _ _ _ _ _ _)
   | (with_reducible exact ih2 _ _ _ _ _ _ _)
   | (with_reducible exact ih3 _ _ _ _ _ _ _ _)
   | (with_reducible exact spec_l4Bytes.mono _ _)
   | (with_reducible exact LeO.refl _)
   | (with_reducible exact LeO.none _)
   | (with_reducible refine LeO.ite ?_ ?_)
   | (with_reducible refine LeO.bind ?_ (fun _ => ?_))
   | exact ih0 _ _ _ _ _ _
   | exact ih1 _ _ _ _ _ _ _
   | exact ih2 _ _ _ _ _ _ _
   | exact ih3 _ _ _ _ _ _ _ _
   | exact spec_l4Bytes.mono _ _
   | exact LeO.none _
   | refine LeO.ite ?_ ?_
   | refine LeO.bind ?_ (fun _ => ?_)
theorem spec_Assemble.mono : ∀ a0 k, LeO (spec_Assemble.f k a0) (spec_Assemble.f (k + 1) a0) := by
 intro a0 k
 obtain ⟨ih0, ih1, ih2, ih3⟩ := spec_Assemble.mono_l k
 unfold spec_Assemble.f
 repeat' first
   | (with_reducible exact ih0 _ _ _ _ _ _)
   | (with_reducible exact ih1 _ _ _ _ _ _ _)
   | (with_reducible exact ih2 _ _ _ _ _ _ _)
   | (with_reducible exact ih3 _ _ _ _ _ _ _ _)
   | (with_reducible exact spec_l4Bytes.mono _ _)
   | (with_reducible exact LeO.refl _)
   | (with_reducible exact LeO.none _)
   | (with_reducible refine LeO.ite ?_ ?_)
   | (with_reducible refine LeO.bind ?_ (fun _ => ?_))
   | exact ih0 _ _ _ _ _ _
   | exact ih1 _ _ _ _ _ _ _
   | exact ih2 _ _ _ _ _ _ _
   | exact ih3 _ _ _ _ _ _ _ _
   | exact spec_l4Bytes.mono _ _
   | exact LeO.none _
   | refine LeO.ite ?_ ?_
   | refine LeO.bind ?_ (fun _ => ?_)
def spec_Assemble.T21 : Bool × List (List Nat × List Nat) := (true, [([], []), ([], []), ([1], [1]), ([], []), ([], []), ([3, 4], [3, 4]), ([5], [5]), ([0, 2, 0, 1, 2, 3, 4, 5, 6], [0, 2]), ([7, 6, 2, 0, 1, 2, 3, 4, 5, 6], [6, 7])])
def spec_Assemble.B21 : List Nat := [0, 0, 2, 0, 0, 24, 56, 127, 255]
theorem spec_Assemble.tab21 : rtab .any (opsOf Try.f106 21) = spec_Assemble.T21 := by kernel_rfl
theorem spec_Assemble.bits21 : waitsOk spec_Assemble.T21.2 spec_Assemble.B21 = true := by kernel_rfl
set_option maxHeartbeats 8000000 in
set_option maxRecDepth 100000 in
theorem spec_Assemble.calls (k : Nat) (a0 : ByteArray) (r1 : List Int) (r2 : Int) (w : World) (h : spec_Assemble.f k a0 = some (r1, r2)) :
  Calls Try.prog 106 #[.string a0] w fun e w' => ∃ v0_ : Value, e = .returned (.tuple #[v0_, .int .i64 r2]) ∧ Kd.R (Kd.int .i64) 3 w' w.heap.size (fun _ => True) v0_ r1 ∧ Below w.heap.size w w' := by
 have HB := Aside0.mk (Below.refl w.heap.size w)
 have H : (if (a0.size : Int) > 3000 then (some ((([] : List Int)), (-1))) else (if 256 ≤ 35184372088832 then (spec_Assemble.l0 k a0 (List.replicate 256 0) 0 0 0 0) else (none))) = some (r1, r2) := h
 clear h
 by_cases c2 : (a0.size : Int) > 3000
 ·rw [if_pos c2] at H
  have c2b0 : decide (3000 < (a0.size : Int)) = true := decide_eq_true c2
  have c2b1 : decide (3000 < a0.size) = true := decide_eq_true (by omega)
  clear c2
  obtain ⟨y200, hy200⟩ : ∃ y_ : List Int, y_ = (([] : List Int)) := ⟨_, rfl⟩
  replace H : (some (y200, (-1))) = some (r1, r2) := by first | (rw [hy200]; with_reducible exact H) | (have H2_ := (Option.bind_some _ _).symm.trans H; rw [hy200]; with_reducible exact H2_) | (have H2_ := (Option.bind_some _ _).symm.trans H; with_reducible exact H2_) | with_reducible exact H | (rw [hy200]; exact H) | exact H
  have Ny200 := Aside0.mk hy200
  clear hy200
  simp only [Option.some.injEq, Prod.mk.injEq] at H
  obtain ⟨rfl, rfl⟩ := H
  go_enter Try.func106, Try.ntmps106
  go_wp2_with (first | ((with_reducible refine gate_dst (N := 17) rfl ?_); (try (refine gate_guard (by rfl) ?_; dsimp only)); refine Kd.R_lit (Kd.int .i64) _ 3 ?hg (N := 17) ?hd (xs := ([] : List Int)) (inner := []) (ok := fun _ => True) (okp := fun _ => True) ?hr ?hp (fun _ hk => hk) trivial (Below.refl _ _) (Nat.le_refl _) (by simp) ?_; (case hd => rfl); (case hg => rfl); (case hr => first | (go_simp; done) | (go_simp; rfl)); (case hp => exact (Reps.none _ _)); intro v201 w3 ho4 hb hg_ hnew_; clear hg_ hnew_; (first | rw [← Ny200.out] at ho4 | (simp only [Int.reduceToNat] at ho4; rw [← Ny200.out] at ho4)); have n0_ := Aside0.mk (Kd.R_lower ho4 (below_size (bw HB.out))); have n1_ := Aside0.mk (below_step (bw HB.out) hb); clear HB; have HO202 := n0_; have HB := n1_; clear n0_ n1_; clear hb ho4))
  go_ret2
  exact ⟨_, rt, kr HO202.out, bw HB.out⟩
 ·rw [if_neg c2] at H
  have c2b0 : decide (3000 < (a0.size : Int)) = false := decide_eq_false c2
  have c2b1 : decide (3000 < a0.size) = false := decide_eq_false (by omega)
  clear c2
  by_cases c5 : 256 ≤ 35184372088832
  ·rw [if_pos c5] at H
   have c5b0 := eq_true c5
   have c5b1 : decide (256 ≤ 35184372088832) = true := decide_eq_true c5
   clear c5
   obtain ⟨y203, hy203⟩ : ∃ y_ : List Int, y_ = (List.replicate 256 0) := ⟨_, rfl⟩
   replace H : (spec_Assemble.l0 k a0 y203 0 0 0 0) = some (r1, r2) := by first | (rw [hy203]; with_reducible exact H) | (have H2_ := (Option.bind_some _ _).symm.trans H; rw [hy203]; with_reducible exact H2_) | (have H2_ := (Option.bind_some _ _).symm.trans H; with_reducible exact H2_) | with_reducible exact H | (rw [hy203]; exact H) | exact H
   have Ny203 := Aside0.mk hy203
   clear hy203
   have H' := Aside0.mk H
   clear H
   go_enter Try.func106, Try.ntmps106
   go_wp2_with (first | ((with_reducible refine gate_dst (N := 18) rfl ?_); (try (refine gate_guard (by rfl) ?_; dsimp only)); refine Kd.R_make (Kd.int .i64) _ 3 rfl (N := 18) rfl 30 _ _ rfl 256 rfl rfl Try.underlying30 (.int .i64 0) 8 info3 rfl (by decide) (by omega) 0 (ok := fun _ => True) (okp := fun _ => True) rfl (fun _ hk => hk) trivial (by omega) (by omega) (Below.refl _ _) (Nat.le_refl _) ?_; intro v204 w6 ho7 hb hg_ hnew_; clear hg_ hnew_; (first | rw [← Ny203.out] at ho7 | (simp only [Int.reduceToNat] at ho7; rw [← Ny203.out] at ho7)); have n0_ := Aside0.mk (Kd.R_lower ho7 (below_size (bw HB.out))); have n1_ := Aside0.mk (below_step (bw HB.out) hb); clear HB; have HO205 := n0_; have HB := n1_; clear n0_ n1_; clear hb ho7))
   go_loopg [5, 6, 7, 8] k (fun kq v5 v6 v7 v8 w' => ∃ (x4_1 : List Int) (x5_1 : Int) (x6_1 : Int) (x7_1 : Int) (x8_1 : Int), v5 = .int .i64 x5_1 ∧ v6 = .int .i64 x6_1 ∧ v7 = .int .i64 x7_1 ∧ v8 = .int .i64 x8_1 ∧ Aside0 (spec_Assemble.l0 kq a0 x4_1 x5_1 x6_1 x7_1 x8_1 = some (r1, r2)) ∧ Aside0 (kq ≤ k) ∧ Aside0 (Kd.R (Kd.int .i64) 3 w' w.heap.size (fun _ => True) v204 x4_1) ∧ Aside0 (Below w.heap.size w w'))
   case atStart => exact ⟨(y203), (0), (0), (0), (0), (by first | rfl | (simp; done) | (simp [*]; done)), (by first | rfl | (simp; done) | (simp [*]; done)), (by first | rfl | (simp; done) | (simp [*]; done)), (by first | rfl | (simp; done) | (simp [*]; done)), H', ⟨Nat.le_refl _⟩, ⟨kr HO205.out⟩, ⟨bw HB.out⟩⟩
   case round =>
    clear H'
    (try clear c1); (try clear c2); (try clear c2b0); (try clear c2b1); (try clear p2); (try clear c5); (try clear c5b0); (try clear c5b1)
    obtain ⟨x4_1, x5_1, x6_1, x7_1, x8_1, rfl, rfl, rfl, rfl, HA, HK1, HO_4, HB⟩ := hrel
    cases gk with
    | zero => exact absurd HA.out (by simp [spec_Assemble.l0])
    | succ k1 =>
     have H := HA.out
     clear HA
     simp only [spec_Assemble.l0] at H
     by_cases c8 : x8_1 ≤ (a0.size : Int)
     ·rw [if_pos c8] at H
      have c8b0 : decide (x8_1 ≤ (a0.size : Int)) = true := decide_eq_true c8
      clear c8
      have HC9 := Aside0.mk H
      clear H
      go_upto_region 8 with (fail)
      go_cut [46] (fun v46 wc => ∃ (kq : Nat) (x46_8 : Bool), v46 = .bool x46_8 ∧ Aside0 (spec_Assemble.j1 kq a0 x4_1 x5_1 x6_1 x7_1 x8_1 x46_8 = some (r1, r2)) ∧ Aside0 (kq ≤ k1) ∧ Aside0 (Kd.R (Kd.int .i64) 3 wc w.heap.size (fun _ => True) v204 x4_1) ∧ Aside0 (Below w.heap.size w wc))
      case first =>
       have H := HC9.out
       clear HC9
       by_cases c10 : x8_1 < (a0.size : Int)
       ·rw [if_pos c10] at H
        have c10b0 : decide (x8_1 < (a0.size : Int)) = true := decide_eq_true c10
        clear c10
        (first | rw [c10b0] | (simp only [i64_w, i32_w]; rw [c10b0]) | skip)
        by_cases c11 : 0 ≤ x8_1
        ·rw [if_pos c11] at H
         have c11b0 : decide (0 ≤ x8_1) = true := decide_eq_true c11
         clear c11
         by_cases c13 : (bt a0 x8_1) = 10
         ·rw [if_pos c13] at H
          have c13b0 : ((bt a0 x8_1) == 10) = true := beq_iff_eq.mpr c13
          have c13b1 : ((bt a0 x8_1) != 10) = false := bne_eq_false_iff_eq.mpr c13
          clear c13
          by_cases c14 : x8_1 = (a0.size : Int)
          ·rw [if_pos c14] at H
           have c14b0 : (x8_1 == (a0.size : Int)) = true := beq_iff_eq.mpr c14
           have c14b1 : (x8_1 != (a0.size : Int)) = false := bne_eq_false_iff_eq.mpr c14
           clear c14
           have H' := Aside0.mk H
           clear H
           have p12 : 0 ≤ (x8_1 : Int) := dt
           have q12 : x8_1 < (a0.size : Int) := dt
           have hx12 := bt_at a0 x8_1
           replace p12 := eq_true p12
           replace q12 := eq_true q12
           go_wp2
           go_meet
           case rel => exact ⟨_, ((x6_1 == (a0.size : Int))), (by first | rfl | (simp; done) | (simp [*]; done)), H', ⟨by have := HK1.out; first | omega | exact Nat.le_refl _⟩, ⟨kr HO_4.out⟩, ⟨bw HB.out⟩⟩
          ·rw [if_neg c14] at H
           have c14b0 : (x8_1 == (a0.size : Int)) = false := beq_eq_false_iff_ne.mpr c14
           have c14b1 : (x8_1 != (a0.size : Int)) = true := bne_iff_ne.mpr c14
           have H' := Aside0.mk H
           clear H
           have p12 : 0 ≤ (x8_1 : Int) := dt
           have q12 : x8_1 < (a0.size : Int) := dt
           have hx12 := bt_at a0 x8_1
           replace p12 := eq_true p12
           replace q12 := eq_true q12
           go_wp2
           go_meet
           case rel => exact ⟨_, (false), (by first | rfl | (simp; done) | (simp [*]; done)), H', ⟨by have := HK1.out; first | omega | exact Nat.le_refl _⟩, ⟨kr HO_4.out⟩, ⟨bw HB.out⟩⟩
         ·rw [if_neg c13] at H
          have c13b0 : ((bt a0 x8_1) == 10) = false := beq_eq_false_iff_ne.mpr c13
          have c13b1 : ((bt a0 x8_1) != 10) = true := bne_iff_ne.mpr c13
          have H' := Aside0.mk H
          clear H
          have p12 : 0 ≤ (x8_1 : Int) := dt
          have q12 : x8_1 < (a0.size : Int) := dt
          have hx12 := bt_at a0 x8_1
          replace p12 := eq_true p12
          replace q12 := eq_true q12
          go_wp2
          go_meet
          case rel => exact ⟨_, (true), (by first | rfl | (simp; done) | (simp [*]; done)), H', ⟨by have := HK1.out; first | omega | exact Nat.le_refl _⟩, ⟨kr HO_4.out⟩, ⟨bw HB.out⟩⟩
        ·rw [if_neg c11] at H
         exact absurd H (by simp)
       ·rw [if_neg c10] at H
        have c10b0 : decide (x8_1 < (a0.size : Int)) = false := decide_eq_false c10
        clear c10
        (first | rw [c10b0] | (simp only [i64_w, i32_w]; rw [c10b0]) | skip)
        by_cases c15 : x8_1 = (a0.size : Int)
        ·rw [if_pos c15] at H
         have c15b0 : (x8_1 == (a0.size : Int)) = true := beq_iff_eq.mpr c15
         have c15b1 : (x8_1 != (a0.size : Int)) = false := bne_eq_false_iff_eq.mpr c15
         clear c15
         have H' := Aside0.mk H
         clear H
         go_wp2
         go_meet
         case rel => exact ⟨_, ((x6_1 == (a0.size : Int))), (by first | rfl | (simp; done) | (simp [*]; done)), H', ⟨by have := HK1.out; first | omega | exact Nat.le_refl _⟩, ⟨kr HO_4.out⟩, ⟨bw HB.out⟩⟩
        ·rw [if_neg c15] at H
         have c15b0 : (x8_1 == (a0.size : Int)) = false := beq_eq_false_iff_ne.mpr c15
         have c15b1 : (x8_1 != (a0.size : Int)) = true := bne_iff_ne.mpr c15
         have H' := Aside0.mk H
         clear H
         go_wp2
         go_meet
         case rel => exact ⟨_, (false), (by first | rfl | (simp; done) | (simp [*]; done)), H', ⟨by have := HK1.out; first | omega | exact Nat.le_refl _⟩, ⟨kr HO_4.out⟩, ⟨bw HB.out⟩⟩
      case rest =>
       clear HC9; (try clear c1); (try clear p1); (try clear q1); (try clear hx1); (try clear c2); (try clear c2b0); (try clear c2b1); (try clear p2); (try clear c5); (try clear c5b0); (try clear c5b1); (try clear c8); (try clear c8b0); (try clear c10); (try clear c10b0); (try clear c11); (try clear c11b0); (try clear p12); (try clear q12); (try clear hx12); (try clear c13); (try clear c13b0); (try clear c13b1); (try clear c14); (try clear c14b0); (try clear c14b1); (try clear c15); (try clear c15b0); (try clear c15b1); (try clear p12); (try clear p2); (try clear q12)
       obtain ⟨kq, x46_8, rfl, HA, HJ8, HO_4, HB⟩ := hcut
       cases kq with
       | zero => exact absurd HA.out (by simp [spec_Assemble.j1])
       | succ kj8 =>
        have H := HA.out
        clear HA
        simp only [spec_Assemble.j1] at H
        by_cases c16 : x46_8 = true
        ·subst c16
         have H1 : (spec_Assemble.l0 kj8 a0 x4_1 x5_1 x6_1 x7_1 (wrap64 (x8_1 + 1))) = some (r1, r2) := by rw [if_pos rfl] at H; exact H
         clear H
         have H := H1
         clear H1
         have H' := Aside0.mk H
         clear H
         go_wp2
         go_roundg kj8
         case measure => have := HK1.out; have := HJ8.out; omega
         case rel => exact ⟨(x4_1), (x5_1), (x6_1), (x7_1), (wrap64 (x8_1 + 1)), (by first | rfl | (simp; done) | (simp [*]; done)), (by first | rfl | (simp; done) | (simp [*]; done)), (by first | rfl | (simp; done) | (simp [*]; done)), (by first | rfl | (simp; done) | (simp [*]; done)), H', ⟨by have := HK1.out; have := HJ8.out; omega⟩, ⟨kr HO_4.out⟩, ⟨bw HB.out⟩⟩
        ·replace c16 := Bool.eq_false_iff.mpr c16
         subst c16
         have H1 : (if 0 ≤ x6_1 then (if x6_1 ≤ x8_1 then (if x8_1 ≤ (a0.size : Int) then (if (a0.extract (x6_1 : Int).toNat (x8_1 : Int).toNat).toList = ([] : List UInt8) then (spec_Assemble.l0 kj8 a0 x4_1 x5_1 (wrap64 (x8_1 + 1)) (wrap64 (x7_1 + 1)) (wrap64 (x8_1 + 1))) else ((spec_l4Bytes.f kj8 (a0.extract (x6_1 : Int).toNat (x8_1 : Int).toNat)).bind fun bt206 => (if bt206.2.2 = true then (if bt206.2.1 ≥ 0 then (spec_Assemble.j2 kj8 a0 x4_1 bt206.2.1 (wrap64 (x8_1 + 1)) (wrap64 (x7_1 + 1)) x8_1 bt206.1) else (spec_Assemble.j2 kj8 a0 x4_1 x5_1 (wrap64 (x8_1 + 1)) (wrap64 (x7_1 + 1)) x8_1 bt206.1)) else (some ((([] : List Int)), wrap64 (x7_1 + 1)))))) else (none)) else (none)) else (none)) = some (r1, r2) := by rw [if_neg (show ¬ (false = true) by decide)] at H; exact H
         clear H
         have H := H1
         clear H1
         by_cases c17 : 0 ≤ x6_1
         ·rw [if_pos c17] at H
          have c17b0 := eq_true c17
          have c17b1 : decide (0 ≤ x6_1) = true := decide_eq_true c17
          clear c17
          by_cases c18 : x6_1 ≤ x8_1
          ·rw [if_pos c18] at H
           have c18b0 := eq_true c18
           have c18b1 : decide (x6_1 ≤ x8_1) = true := decide_eq_true c18
           clear c18
           by_cases c19 : x8_1 ≤ (a0.size : Int)
           ·rw [if_pos c19] at H
            have c19b0 := eq_true c19
            have c19b1 : decide (x8_1 ≤ (a0.size : Int)) = true := decide_eq_true c19
            clear c19
            by_cases c20 : (a0.extract (x6_1 : Int).toNat (x8_1 : Int).toNat).toList = ([] : List UInt8)
            ·rw [if_pos c20] at H
             have c20b0 : ((a0.extract (x6_1 : Int).toNat (x8_1 : Int).toNat).toList == ([] : List UInt8)) = true := beq_iff_eq.mpr c20
             have c20b1 : ((a0.extract (x6_1 : Int).toNat (x8_1 : Int).toNat).toList != ([] : List UInt8)) = false := bne_eq_false_iff_eq.mpr c20
             clear c20
             have H' := Aside0.mk H
             clear H
             go_wp2
             go_roundg kj8
             case measure => have := HK1.out; have := HJ8.out; omega
             case rel => exact ⟨(x4_1), (x5_1), (wrap64 (x8_1 + 1)), (wrap64 (x7_1 + 1)), (wrap64 (x8_1 + 1)), (by first | rfl | (simp; done) | (simp [*]; done)), (by first | rfl | (simp; done) | (simp [*]; done)), (by first | rfl | (simp; done) | (simp [*]; done)), (by first | rfl | (simp; done) | (simp [*]; done)), H', ⟨by have := HK1.out; have := HJ8.out; omega⟩, ⟨kr HO_4.out⟩, ⟨bw HB.out⟩⟩
            ·rw [if_neg c20] at H
             have c20b0 : ((a0.extract (x6_1 : Int).toNat (x8_1 : Int).toNat).toList == ([] : List UInt8)) = false := beq_eq_false_iff_ne.mpr c20
             have c20b1 : ((a0.extract (x6_1 : Int).toNat (x8_1 : Int).toNat).toList != ([] : List UInt8)) = true := bne_iff_ne.mpr c20
             replace H := Option.bind_eq_some_iff.mp H
             obtain ⟨⟨t206, t207, t208⟩, A210, H⟩ := H
             replace H : (if t208 = true then (if t207 ≥ 0 then (spec_Assemble.j2 kj8 a0 x4_1 t207 (wrap64 (x8_1 + 1)) (wrap64 (x7_1 + 1)) x8_1 t206) else (spec_Assemble.j2 kj8 a0 x4_1 x5_1 (wrap64 (x8_1 + 1)) (wrap64 (x7_1 + 1)) x8_1 t206)) else (some ((([] : List Int)), wrap64 (x7_1 + 1)))) = some (r1, r2) := H
             have A21 := Aside0.mk A210
             clear A210
             by_cases c22 : t208 = true
             ·subst c22
              have H1 : (if t207 ≥ 0 then (spec_Assemble.j2 kj8 a0 x4_1 t207 (wrap64 (x8_1 + 1)) (wrap64 (x7_1 + 1)) x8_1 t206) else (spec_Assemble.j2 kj8 a0 x4_1 x5_1 (wrap64 (x8_1 + 1)) (wrap64 (x7_1 + 1)) x8_1 t206)) = some (r1, r2) := by rw [if_pos rfl] at H; exact H
              clear H
              have H := H1
              clear H1
              have HC23 := Aside0.mk H
              clear H
              go_upto_if 68 with (first | ((with_reducible refine gate_callee (f := 118) rfl ?_); refine goesM_ (some 59) rfl rfl Try.func118 #[.string (a0.extract (x6_1 : Int).toNat (x8_1 : Int).toNat)] ?_; (with_reducible refine (spec_l4Bytes.calls kj8 (a0.extract (x6_1 : Int).toNat (x8_1 : Int).toNat) t206 t207 true _ A21.out).mono ?_); rintro e w24 ⟨v209, rfl, ho0, hb⟩; refine ⟨_, rfl, ?_⟩; have n0_ := Aside0.mk (Kd.R_elder' (kr HO_4.out) (Kd.R_base ho0) hb); have n1_ := Aside0.mk (Kd.R_lower (Kd.R_new' ho0 (Kd.R_lt (kr HO_4.out))) (below_size (bw HB.out))); have n2_ := Aside0.mk (below_step (bw HB.out) hb); clear HO_4; clear HB; have HO_4 := n0_; have HO210 := n1_; have HB := n2_; clear n0_ n1_ n2_; (try clear hb); (try clear hb2); (try clear hk); (try clear hi); (try clear ho0)))
              (try simp only [Act.put, List.setIfInBounds_toArray, List.set_cons_zero, List.set_cons_succ])
              go_cut [5] (fun v5 wc => ∃ (kq : Nat) (x5_22 : Int), v5 = .int .i64 x5_22 ∧ Aside0 (spec_Assemble.j2 kq a0 x4_1 x5_22 (wrap64 (x8_1 + 1)) (wrap64 (x7_1 + 1)) x8_1 t206 = some (r1, r2)) ∧ Aside0 (kq ≤ kj8) ∧ Aside0 (Kd.R (Kd.int .i64) 3 wc w.heap.size (fun k_ => some k_ ≠ (v209 : Value).ownBlock) v204 x4_1) ∧ Aside0 (Kd.R (Kd.int .i64) 3 wc w.heap.size (fun k_ => some k_ ≠ (v204 : Value).ownBlock) v209 t206) ∧ Aside0 (Below w.heap.size w wc))
              case first =>
               have H := HC23.out
               clear HC23
               by_cases c25 : t207 ≥ 0
               ·rw [if_pos c25] at H
                have c25b0 : decide (0 ≤ t207) = true := decide_eq_true c25
                clear c25
                (first | rw [c25b0] | (simp only [i64_w, i32_w]; rw [c25b0]) | skip)
                have H' := Aside0.mk H
                clear H
                go_wp2
                go_meet
                case rel => exact ⟨_, (t207), (by first | rfl | (simp; done) | (simp [*]; done)), H', ⟨by have := HK1.out; have := HJ8.out; first | omega | exact Nat.le_refl _⟩, ⟨kr (Kd.R_mono HO_4.out (fun _ hk => hk.2))⟩, ⟨kr (Kd.R_mono HO210.out (fun _ hk => hk.2))⟩, ⟨bw HB.out⟩⟩
               ·rw [if_neg c25] at H
                have c25b0 : decide (0 ≤ t207) = false := decide_eq_false c25
                clear c25
                (first | rw [c25b0] | (simp only [i64_w, i32_w]; rw [c25b0]) | skip)
                have H' := Aside0.mk H
                clear H
                go_wp2
                go_meet
                case rel => exact ⟨_, (x5_1), (by first | rfl | (simp; done) | (simp [*]; done)), H', ⟨by have := HK1.out; have := HJ8.out; first | omega | exact Nat.le_refl _⟩, ⟨kr (Kd.R_mono HO_4.out (fun _ hk => hk.2))⟩, ⟨kr (Kd.R_mono HO210.out (fun _ hk => hk.2))⟩, ⟨bw HB.out⟩⟩
              case rest =>
               clear HC23; (try clear c1); (try clear p1); (try clear q1); (try clear hx1); (try clear c2); (try clear c2b0); (try clear c2b1); (try clear p2); (try clear c5); (try clear c5b0); (try clear c5b1); (try clear p6); (try clear c8); (try clear c8b0); (try clear c10); (try clear c10b0); (try clear c11); (try clear c11b0); (try clear p12); (try clear q12); (try clear hx12); (try clear c13); (try clear c13b0); (try clear c13b1); (try clear c14); (try clear c14b0); (try clear c14b1); (try clear c15); (try clear c15b0); (try clear c15b1); (try clear c16); (try clear c17); (try clear c17b0); (try clear c17b1); (try clear c18); (try clear c18b0); (try clear c18b1); (try clear c19); (try clear c19b0); (try clear c19b1); (try clear c20); (try clear c20b0); (try clear c20b1); (try clear c22); (try clear c25); (try clear c25b0); (try clear p1); (try clear p12); (try clear p2); (try clear q1); (try clear q12)
               obtain ⟨kq, x5_22, rfl, HA, HJ22, HO_4, HO_10, HB⟩ := hcut
               cases kq with
               | zero => exact absurd HA.out (by simp [spec_Assemble.j2])
               | succ kj22 =>
                have H := HA.out
                clear HA
                simp only [spec_Assemble.j2] at H
                have H' := Aside0.mk H
                clear H
                go_wp2
                go_loopg [5, 13] kj22 (fun kq v5 v13 w' => ∃ (x4_4 : List Int) (x5_4 : Int) (x13_4 : Int), v5 = .int .i64 x5_4 ∧ v13 = .int .i64 x13_4 ∧ Aside0 (spec_Assemble.l1 kq a0 x4_4 x5_4 (wrap64 (x8_1 + 1)) (wrap64 (x7_1 + 1)) x8_1 t206 x13_4 = some (r1, r2)) ∧ Aside0 (kq ≤ kj22) ∧ Aside0 (Kd.R (Kd.int .i64) 3 w' w.heap.size (fun k_ => some k_ ≠ (v209 : Value).ownBlock) v204 x4_4) ∧ Aside0 (Kd.R (Kd.int .i64) 3 w' w.heap.size (fun k_ => some k_ ≠ (v204 : Value).ownBlock) v209 t206) ∧ Aside0 (Below w.heap.size w w'))
                case atStart => exact ⟨(x4_1), (x5_22), (0), (by first | rfl | (simp; done) | (simp [*]; done)), (by first | rfl | (simp; done) | (simp [*]; done)), H', ⟨Nat.le_refl _⟩, ⟨kr HO_4.out⟩, ⟨kr HO_10.out⟩, ⟨bw HB.out⟩⟩
                case round =>
                 clear H'
                 (try clear c1); (try clear p1); (try clear q1); (try clear hx1); (try clear c2); (try clear c2b0); (try clear c2b1); (try clear p2); (try clear c5); (try clear c5b0); (try clear c5b1); (try clear p6); (try clear c8); (try clear c8b0); (try clear c10); (try clear c10b0); (try clear c11); (try clear c11b0); (try clear p12); (try clear q12); (try clear hx12); (try clear c13); (try clear c13b0); (try clear c13b1); (try clear c14); (try clear c14b0); (try clear c14b1); (try clear c15); (try clear c15b0); (try clear c15b1); (try clear c16); (try clear c17); (try clear c17b0); (try clear c17b1); (try clear c18); (try clear c18b0); (try clear c18b1); (try clear c19); (try clear c19b0); (try clear c19b1); (try clear c20); (try clear c20b0); (try clear c20b1); (try clear c22); (try clear c25); (try clear c25b0); (try clear p1); (try clear p12); (try clear p2); (try clear p6); (try clear q1); (try clear q12)
                 obtain ⟨x4_4, x5_4, x13_4, rfl, rfl, HA, HK4, HO_4, HO_10, HB⟩ := hrel
                 cases gk with
                 | zero => exact absurd HA.out (by simp [spec_Assemble.l1])
                 | succ k4 =>
                  have H := HA.out
                  clear HA
                  simp only [spec_Assemble.l1] at H
                  by_cases c26 : x13_4 < (t206.length : Int)
                  ·rw [if_pos c26] at H
                   have c26b0 : decide (x13_4 < (t206.length : Int)) = true := decide_eq_true c26
                   clear c26
                   replace H := Option.bind_eq_some_iff.mp H
                   obtain ⟨t214, A270, H⟩ := H
                   replace H : (if 0 ≤ x13_4 then (if 0 ≤ t214 then (if t214 < (x4_4.length : Int) then (spec_Assemble.l1 k4 a0 (x4_4.set (t214 : Int).toNat (rd t206 x13_4)) (wrap64 (x5_4 + 1)) (wrap64 (x8_1 + 1)) (wrap64 (x7_1 + 1)) x8_1 t206 (wrap64 (x13_4 + 1))) else (none)) else (none)) else (none)) = some (r1, r2) := H
                   have A27 := Aside0.mk A270
                   clear A270
                   by_cases c28 : 0 ≤ x13_4
                   ·rw [if_pos c28] at H
                    have c28b0 : decide (0 ≤ x13_4) = true := decide_eq_true c28
                    clear c28
                    by_cases c29 : 0 ≤ t214
                    ·rw [if_pos c29] at H
                     have c29b0 : decide (0 ≤ t214) = true := decide_eq_true c29
                     clear c29
                     by_cases c30 : t214 < (x4_4.length : Int)
                     ·rw [if_pos c30] at H
                      have c30b0 : decide (t214 < (x4_4.length : Int)) = true := decide_eq_true c30
                      clear c30
                      obtain ⟨y216, hy216⟩ : ∃ y_ : List Int, y_ = (x4_4.set (t214 : Int).toNat (rd t206 x13_4)) := ⟨_, rfl⟩
                      replace H : (spec_Assemble.l1 k4 a0 y216 (wrap64 (x5_4 + 1)) (wrap64 (x8_1 + 1)) (wrap64 (x7_1 + 1)) x8_1 t206 (wrap64 (x13_4 + 1))) = some (r1, r2) := by first | (rw [hy216]; with_reducible exact H) | (have H2_ := (Option.bind_some _ _).symm.trans H; rw [hy216]; with_reducible exact H2_) | (have H2_ := (Option.bind_some _ _).symm.trans H; with_reducible exact H2_) | with_reducible exact H | (rw [hy216]; exact H) | exact H
                      have Ny216 := Aside0.mk hy216
                      clear hy216
                      have H' := Aside0.mk H
                      clear H
                      obtain ⟨Ao32, co32, eo32⟩ := Kd.R_slice HO_10.out
                      subst eo32
                      try go_wp2
                      have n0_ := Aside0.mk (Kd.R_drew HO_4.out)
                      have n1_ := Aside0.mk (Kd.R_drew HO_10.out)
                      have n2_ := Aside0.mk (below_drew1 HB.out)
                      clear HO_4; clear HO_10; clear HB; have HO_4 := n0_; have HO_10 := n1_; have HB := n2_; clear n0_ n1_ n2_
                      have p215 : 0 ≤ (x13_4 : Int) := dt
                      have q215 : x13_4 < (t206.length : Int) := dt
                      obtain ⟨ad215, e215, hx215_0⟩ := Kd.at_int (Kd.R_reads' HO_10.out).2.2 x13_4 p215 q215
                      cases e215
                      replace p215 := eq_true p215
                      replace q215 := eq_true q215
                      refine start_ (n := 9) (S := fun w' => w'.cell? (ad215.add (x13_4).toNat) = some (.int .i64 (rd t206 x13_4))) (ds := [8]) #[false, false, false, false, false, false, false, false, false] (by kernel_rfl) rfl rfl (hx215_0) (fun hHeld => ?_); refine with_tabW spec_Assemble.tab21 spec_Assemble.bits21 (fun HT_ HW_ => ?_)
                      generalize wr.drew = w33 at HO_4 HO_10 HB hx215_0 hHeld ⊢
                      refine pure_ (i := 0) (N := some 76) (v := ?_) (a' := ?_) #[true, false, false, false, false, false, false, false, false] rfl rfl (any_of HT_.out (by kernel_rfl)) (fun _ _ _ h => h) (Or.inl ⟨by rfl, ?_⟩) ?_ ?_
                      rotate_left
                      ·intro w'
                       go_simp
                       with_reducible rfl
                      rotate_left
                      ·simp only [Act.put, List.setIfInBounds_toArray, List.set_cons_zero, List.set_cons_succ, i64_w, i32_w]
                       rfl
                      refine pure_ (i := 1) (N := some 77) (v := ?_) (a' := ?_) #[true, true, false, false, false, false, false, false, false] rfl rfl (any_of HT_.out (by kernel_rfl)) (fun _ _ _ h => h) (Or.inl ⟨by rfl, ?_⟩) ?_ ?_
                      rotate_left
                      ·intro w'
                       go_simp
                       with_reducible rfl
                      rotate_left
                      ·simp only [Act.put, List.setIfInBounds_toArray, List.set_cons_zero, List.set_cons_succ, i64_w, i32_w]
                       rfl
                      refine pure_ (i := 3) (N := some 79) (v := ?_) (a' := ?_) #[true, true, false, true, false, false, false, false, false] rfl rfl (any_of HT_.out (by kernel_rfl)) (fun _ _ _ h => h) (Or.inl ⟨by rfl, ?_⟩) ?_ ?_
                      rotate_left
                      ·intro w'
                       go_simp
                       with_reducible rfl
                      rotate_left
                      ·simp only [Act.put, List.setIfInBounds_toArray, List.set_cons_zero, List.set_cons_succ, i64_w, i32_w]
                       rfl
                      refine pure_ (i := 4) (N := some 80) (v := ?_) (a' := ?_) #[true, true, false, true, true, false, false, false, false] rfl rfl (any_of HT_.out (by kernel_rfl)) (fun _ _ _ h => h) (Or.inl ⟨by rfl, ?_⟩) ?_ ?_
                      rotate_left
                      ·intro w'
                       go_simp
                       with_reducible rfl
                      rotate_left
                      ·simp only [Act.put, List.setIfInBounds_toArray, List.set_cons_zero, List.set_cons_succ, i64_w, i32_w]
                       rfl
                      refine pure_ (i := 5) (N := some 81) (v := ?_) (a' := ?_) #[true, true, false, true, true, true, false, false, false] rfl rfl (any_of HT_.out (by kernel_rfl)) (fun _ _ _ h => h) (Or.inl ⟨by rfl, ?_⟩) ?_ ?_
                      rotate_left
                      ·intro w'
                       go_simp
                       with_reducible rfl
                      rotate_left
                      ·simp only [Act.put, List.setIfInBounds_toArray, List.set_cons_zero, List.set_cons_succ, i64_w, i32_w]
                       rfl
                      refine take_ (i := 6) (N := some 82) (v := ?_) (a' := ?_) #[true, true, false, true, true, true, true, false, false] rfl rfl (take_ofW HT_.out HW_.out (by kernel_rfl)) (fun _ _ _ h => h) (Or.inl ⟨by rfl, ?_⟩) hHeld ?_ ?_
                      rotate_left
                      ·intro w' s0
                       go_simp
                       with_reducible rfl
                      rotate_left
                      ·simp only [Act.put, List.setIfInBounds_toArray, List.set_cons_zero, List.set_cons_succ, i64_w, i32_w]
                       rfl
                      refine one_ (i := 2) (N := some 78) #[true, true, true, true, true, true, true, false, false] rfl rfl (one_of HT_.out (by kernel_rfl)) (by decide) (fun K hK => ?_)
                      refine goes_ Try.func71 (by kernel_rfl) rfl #[.int .i64 x5_4] (by rfl) rfl rfl (by (try simp only [List.map_toArray, List.map_cons, List.map_nil]); first | done | rfl | (simp only [List.length_drop, List.length_take]; rfl)) ?_
                      with_reducible refine (spec_Byte.calls x5_4 t214 _ A27.out).mono ?_
                      rintro e w' ⟨rfl, ⟨nd, rfl⟩⟩
                      refine ⟨_, rfl, ?_⟩
                      have p31 : 0 ≤ (t214 : Int) := dt
                      have q31 : (t214 : Int) < ((x4_4.length : Int) : Int) := dt
                      obtain ⟨go31, co31, eo31, gb31, gl31, cl31, HG31⟩ := Kd.R_form HO_4.out (by omega)
                      (first | cases eo31 | (injection eo31 with ea_ en_ ec_; (first | subst ea_ | (injection ea_ with ea_; subst ea_)); subst ec_; clear en_))
                      have GB31 := Aside0.mk gb31
                      have GG31 := Aside0.mk HG31
                      clear gb31 gl31 HG31
                      obtain ⟨hx31_0, hf31_0⟩ := Kd.R_celln 0 HO_4.out (t214 : Int) p31 q31
                      replace p31 := eq_true p31
                      replace q31 := eq_true q31
                      have HP34 := Kd.R_putn HO_4.out (t214 : Int) (rd t206 x13_4)
                      rw [← Ny216.out] at HP34
                      have HQ34 := Aside0.mk HP34
                      clear HP34
                      refine hK.out _ _ (hHeld) (fun hHeld => ?_)
                      clear hK K
                      refine norm_ (a' := ?_) ?_ ?_
                      rotate_left
                      ·show Act.put _ (some 78) _ = _
                       simp only [Act.put, List.setIfInBounds_toArray, List.set_cons_zero, List.set_cons_succ, i64_w, i32_w]
                       rfl
                      refine pure_ (i := 7) (N := some 83) (v := ?_) (a' := ?_) #[true, true, true, true, true, true, true, true, false] rfl rfl (any_of HT_.out (by kernel_rfl)) (fun _ _ _ h => h) (Or.inl ⟨by rfl, ?_⟩) ?_ ?_
                      rotate_left
                      ·intro w'
                       go_simp
                       with_reducible rfl
                      rotate_left
                      ·simp only [Act.put, List.setIfInBounds_toArray, List.set_cons_zero, List.set_cons_succ, i64_w, i32_w]
                       rfl
                      refine last_ (i := 8) (N := none) #[true, true, true, true, true, true, true, true, true] rfl rfl (one_of HT_.out (by kernel_rfl)) (by decide) (fun K hK => ?_)
                      refine skip_ (w1 := ?_) (by rfl) rfl ?_ ?_
                      rotate_left
                      ·go_simp
                       rfl
                      refine hK.out _ _ ?_
                      clear hK K
                      refine done_ (done_of HT_.out (by kernel_rfl)) ?_
                      try go_wp2
                      go_roundg k4
                      case measure => have := HK1.out; have := HJ8.out; have := HJ22.out; have := HK4.out; omega
                      case rel => exact ⟨(y216), (wrap64 (x5_4 + 1)), (wrap64 (x13_4 + 1)), (by first | rfl | (simp; done) | (simp [*]; done)), (by first | rfl | (simp; done) | (simp [*]; done)), H', ⟨by have := HK1.out; have := HJ8.out; have := HJ22.out; have := HK4.out; omega⟩, ⟨kr HQ34.out⟩, ⟨by (with_reducible repeat (first | apply Kd.R_alloc | apply Kd.R_drewN | apply Kd.R_drew)); exact Kd.R_mono (Kd.R_far (p := ⟨go31, (t214 : Int).toNat, none⟩) (Kd.R_mono HO_10.out (fun k_ hk => (⟨hk, fun e_ => hk (by rw [e_]; rfl)⟩ : _ ∧ k_ ≠ go31))) (fun _ hk => hk.2) (.int .i64 (rd t206 x13_4))) (fun _ hk => hk.1)⟩, ⟨by repeat (first | (with_reducible first | exact HB.out | apply below_alloc | apply pw_below_drewN | apply below_drew1 | refine below_set ?_ GB31.out) | exact HB.out)⟩⟩
                     ·rw [if_neg c30] at H
                      exact absurd H (by simp)
                    ·rw [if_neg c29] at H
                     exact absurd H (by simp)
                   ·rw [if_neg c28] at H
                    exact absurd H (by simp)
                  ·rw [if_neg c26] at H
                   have c26b0 : decide (x13_4 < (t206.length : Int)) = false := decide_eq_false c26
                   clear c26
                   have H' := Aside0.mk H
                   clear H
                   obtain ⟨Ao35, co35, eo35⟩ := Kd.R_slice HO_10.out
                   subst eo35
                   go_wp2
                   go_roundg k4
                   case measure => have := HK1.out; have := HJ8.out; have := HJ22.out; have := HK4.out; omega
                   case rel => exact ⟨(x4_4), (x5_4), ((wrap64 (x8_1 + 1))), ((wrap64 (x7_1 + 1))), (wrap64 (x8_1 + 1)), (by first | rfl | (simp; done) | (simp [*]; done)), (by first | rfl | (simp; done) | (simp [*]; done)), (by first | rfl | (simp; done) | (simp [*]; done)), (by first | rfl | (simp; done) | (simp [*]; done)), H', ⟨by have := HK1.out; have := HJ8.out; have := HJ22.out; have := HK4.out; omega⟩, ⟨kr (Kd.R_mono HO_4.out (fun _ hk => trivial))⟩, ⟨bw HB.out⟩⟩
             ·replace c22 := Bool.eq_false_iff.mpr c22
              subst c22
              have H1 : (some ((([] : List Int)), wrap64 (x7_1 + 1))) = some (r1, r2) := by rw [if_neg (show ¬ (false = true) by decide)] at H; exact H
              clear H
              have H := H1
              clear H1
              obtain ⟨y211, hy211⟩ : ∃ y_ : List Int, y_ = (([] : List Int)) := ⟨_, rfl⟩
              replace H : (some (y211, wrap64 (x7_1 + 1))) = some (r1, r2) := by first | (rw [hy211]; with_reducible exact H) | (have H2_ := (Option.bind_some _ _).symm.trans H; rw [hy211]; with_reducible exact H2_) | (have H2_ := (Option.bind_some _ _).symm.trans H; with_reducible exact H2_) | with_reducible exact H | (rw [hy211]; exact H) | exact H
              have Ny211 := Aside0.mk hy211
              clear hy211
              simp only [Option.some.injEq, Prod.mk.injEq] at H
              obtain ⟨rfl, rfl⟩ := H
              go_wp2_with (first | ((with_reducible refine gate_callee (f := 118) rfl ?_); refine goesM_ (some 59) rfl rfl Try.func118 #[.string (a0.extract (x6_1 : Int).toNat (x8_1 : Int).toNat)] ?_; (with_reducible refine (spec_l4Bytes.calls kj8 (a0.extract (x6_1 : Int).toNat (x8_1 : Int).toNat) t206 t207 false _ A21.out).mono ?_); rintro e w36 ⟨v209, rfl, ho0, hb⟩; refine ⟨_, rfl, ?_⟩; have n0_ := Aside0.mk (Kd.R_elder' (kr HO_4.out) (Kd.R_base ho0) hb); have n1_ := Aside0.mk (Kd.R_lower (Kd.R_new' ho0 (Kd.R_lt (kr HO_4.out))) (below_size (bw HB.out))); have n2_ := Aside0.mk (below_step (bw HB.out) hb); clear HO_4; clear HB; have HO_4 := n0_; have HO210 := n1_; have HB := n2_; clear n0_ n1_ n2_; (try clear hb); (try clear hb2); (try clear hk); (try clear hi); (try clear ho0)) | ((with_reducible refine gate_dst (N := 65) rfl ?_); (try (refine gate_guard (by rfl) ?_; dsimp only)); refine Kd.R_lit (Kd.int .i64) _ 3 ?hg (N := 65) ?hd (xs := ([] : List Int)) (inner := []) (ok := fun _ => True) (okp := fun _ => True) ?hr ?hp (fun _ hk => hk) trivial (Below.refl _ _) (Nat.le_refl _) (by simp) ?_; (case hd => rfl); (case hg => rfl); (case hr => first | (go_simp; done) | (go_simp; rfl)); (case hp => exact (Reps.none _ _)); intro v212 w37 ho38 hb hg_ hnew_; clear hg_ hnew_; (first | rw [← Ny211.out] at ho38 | (simp only [Int.reduceToNat] at ho38; rw [← Ny211.out] at ho38)); have n0_ := Aside0.mk (Kd.R_elder' (kr HO_4.out) (Kd.R_base ho38) hb); have n1_ := Aside0.mk (Kd.R_elder' (kr HO210.out) (Kd.R_base ho38) hb); have n2_ := Aside0.mk (Kd.R_lower (Kd.R_new' (Kd.R_new' ho38 (Kd.R_lt (kr HO_4.out))) (Kd.R_lt (kr HO210.out))) (below_size (bw HB.out))); have n3_ := Aside0.mk (below_step (bw HB.out) hb); clear HO_4; clear HO210; clear HB; have HO_4 := n0_; have HO210 := n1_; have HO213 := n2_; have HB := n3_; clear n0_ n1_ n2_ n3_; clear hb ho38))
              go_ret2
              exact ⟨_, rt, kr (Kd.R_mono HO213.out (fun _ hk => trivial)), bw HB.out⟩
           ·rw [if_neg c19] at H
            exact absurd H (by simp)
          ·rw [if_neg c18] at H
           exact absurd H (by simp)
         ·rw [if_neg c17] at H
          exact absurd H (by simp)
     ·rw [if_neg c8] at H
      have c8b0 : decide (x8_1 ≤ (a0.size : Int)) = false := decide_eq_false c8
      clear c8
      simp only [Option.some.injEq, Prod.mk.injEq] at H
      obtain ⟨rfl, rfl⟩ := H
      go_wp2
      go_ret2
      exact ⟨_, rt, kr HO_4.out, bw HB.out⟩
  ·rw [if_neg c5] at H
   exact absurd H (by simp)

/-! ### spec_l1Pick: function 119 -/
def spec_l1Pick.f (s0_0 : List Int) (s0_1 : Int) (s0_2 : Int) (l1 : List ByteArray) : Option (ByteArray × Int × Int) := (spec_l1Below.f s0_0 s0_1 s0_2 (l1.length : Int)).bind fun bt217 => (if 0 ≤ bt217.1 then (if bt217.1 < (l1.length : Int) then (some (rdOf ByteArray.empty l1 bt217.1, bt217.2.1, bt217.2.2)) else (none)) else (none))
set_option maxHeartbeats 8000000 in
set_option maxRecDepth 100000 in
theorem spec_l1Pick.calls (g : Nat) (s0_0 : List Int) (s0_1 : Int) (s0_2 : Int) (A1 : Option Addr) (c1 : Nat) (l1 : List ByteArray) (r1 : ByteArray) (r2 : Int) (r3 : Int) (w0 w : World) (hI : IsS107 w0 w g s0_0 s0_1 s0_2) (hB : Below w0.heap.size w0 w) (hr1 : Kd.C Kd.string w A1 l1.length l1) (hc1 : l1.length ≤ c1) (hf1 : ∀ ad, A1 = some ad → 0 < l1.length → ad.block ≠ g) (h : spec_l1Pick.f s0_0 s0_1 s0_2 l1 = some (r1, r2, r3)) :
  Calls Try.prog 119 #[.pointer (some ⟨g, 0, none⟩), .slice A1 l1.length c1] w fun e w' => e = .returned (.string r1) ∧ IsS107 w0 w' g s0_0 r2 r3 ∧ Below w0.heap.size w0 w' ∧ KeepBut w w' g none := by
 have HR1 := Aside0.mk hr1
 have HC1 := Aside0.mk hc1
 clear hr1 hc1
 have HI0 := Aside0.mk hI
 have HK := Aside0.mk (KeepBut.refl w g none)
 have HL := Aside0.mk hB.size
 clear hI
 have HW0 := Aside0.mk hB.size
 have HB := Aside0.mk hB
 clear hB
 have H : ((spec_l1Below.f s0_0 s0_1 s0_2 (l1.length : Int)).bind fun bt217 => (if 0 ≤ bt217.1 then (if bt217.1 < (l1.length : Int) then (some (rdOf ByteArray.empty l1 bt217.1, bt217.2.1, bt217.2.2)) else (none)) else (none))) = some (r1, r2, r3) := h
 clear h
 replace H := Option.bind_eq_some_iff.mp H
 obtain ⟨⟨t217, t218, t219⟩, A30, H⟩ := H
 replace H : (if 0 ≤ t217 then (if t217 < (l1.length : Int) then (some (rdOf ByteArray.empty l1 t217, t218, t219)) else (none)) else (none)) = some (r1, r2, r3) := H
 have A3 := Aside0.mk A30
 clear A30
 by_cases c4 : 0 ≤ t217
 ·rw [if_pos c4] at H
  have c4b0 : decide (0 ≤ t217) = true := decide_eq_true c4
  clear c4
  by_cases c5 : t217 < (l1.length : Int)
  ·rw [if_pos c5] at H
   have c5b0 : decide (t217 < (l1.length : Int)) = true := decide_eq_true c5
   clear c5
   simp only [Option.some.injEq, Prod.mk.injEq] at H
   obtain ⟨rfl, rfl, rfl⟩ := H
   go_enter Try.func119, Try.ntmps119
   go_wp2_with (first | ((with_reducible refine gate_callee (f := 60) rfl ?_); refine goesM_ (some 9) rfl rfl Try.func60 #[.pointer (some ⟨g, 0, none⟩), .int .i64 (l1.length : Int)] ?_; (with_reducible refine (spec_l1Below.calls g s0_0 s0_1 s0_2 (l1.length : Int) t217 t218 t219 w0 _ ?side1 ?side2 A3.out).mono ?_); (case side1 => exact si HI0.out); (case side2 => exact bi HB.out); rintro e w6 ⟨rfl, hi, hb, hk⟩; refine ⟨_, rfl, ?_⟩; have n0_ := Aside0.mk (KeepBut.trans (kp HK.out) hk (.inl rfl)); have n1_ := Aside0.mk (hb); have n2_ := Aside0.mk (hi); clear HK; clear HB; clear HI0; have HK := n0_; have HB := n1_; have HI0 := n2_; clear n0_ n1_ n2_; (try clear hb); (try clear hb2); (try clear hk); (try clear hi); have p220 : 0 ≤ (t217 : Int) := dt; have q220 : t217 < (l1.length : Int) := dt; obtain ⟨ad220, e220, hx220_0⟩ := Kd.at_string HR1.out t217 p220 q220; cases e220; replace hx220_0 := keep_cell HK.out hx220_0 (by first | (rw [add_block]; exact hf1 _ rfl (by omega)) | exact hf1 _ rfl (by omega) | exact hf1 ad220 rfl (by omega)); replace p220 := eq_true p220; replace q220 := eq_true q220))
   go_ret
   exact ⟨rt, si HI0.out, bi HB.out, kp HK.out⟩
  ·rw [if_neg c5] at H
   exact absurd H (by simp)
 ·rw [if_neg c4] at H
  exact absurd H (by simp)

/-! ### spec_l2Main: function 107 -/
def spec_l2Main.f (s0_0 : List Int) (s0_1 : Int) (s0_2 : Int) : Option (ByteArray × Int × Int) := (spec_l1Pick.f s0_0 s0_1 s0_2 (([(⟨#[108, 100, 105, 32, 53, 10, 115, 116, 97, 32, 56, 49, 57, 51, 10, 108, 100, 105, 32, 49, 50, 56, 10, 115, 116, 97, 32, 56, 49, 57, 50, 10, 108, 100, 97, 32, 56, 49, 57, 52, 10, 115, 116, 97, 32, 49, 54, 10, 106, 109, 112, 32, 52, 57, 49, 54, 50, 10]⟩ : ByteArray), (⟨#[108, 100, 105, 32, 51, 10, 115, 116, 97, 32, 49, 54, 51, 56, 52, 10, 108, 100, 105, 32, 50, 10, 115, 116, 97, 32, 49, 54, 51, 56, 53, 10, 108, 100, 105, 32, 49, 10, 115, 116, 97, 32, 49, 54, 51, 56, 54, 10, 99, 108, 105, 10, 108, 100, 97, 32, 49, 54, 51, 56, 54, 10, 106, 109, 112, 32, 52, 57, 49, 54, 56, 10]⟩ : ByteArray), (⟨#[108, 100, 105, 32, 50, 10, 115, 116, 97, 32, 56, 49, 57, 53, 10, 105, 110, 120, 10, 116, 120, 97, 10, 115, 116, 97, 32, 56, 49, 57, 54, 10, 115, 116, 97, 32, 56, 49, 57, 55, 10, 108, 100, 97, 32, 56, 49, 57, 54, 10, 115, 116, 97, 32, 48, 10, 106, 109, 112, 32, 52, 57, 49, 53, 55, 10]⟩ : ByteArray), (⟨#[108, 100, 105, 32, 49, 10, 115, 116, 97, 32, 49, 54, 52, 48, 54, 10, 108, 100, 105, 32, 48, 10, 115, 116, 97, 32, 49, 54, 52, 48, 54, 10, 108, 100, 97, 32, 49, 54, 52, 48, 54, 10, 112, 104, 97, 10, 108, 100, 97, 32, 49, 54, 52, 48, 54, 10, 112, 108, 97, 10, 106, 109, 112, 32, 52, 57, 49, 54, 50, 10]⟩ : ByteArray), (⟨#[105, 110, 120, 10, 116, 120, 97, 10, 115, 116, 97, 32, 51, 50, 55, 54, 56, 10, 108, 100, 97, 32, 51, 50, 55, 55, 48, 10, 115, 116, 97, 32, 56, 49, 57, 51, 10, 106, 109, 112, 32, 52, 57, 49, 53, 50, 10]⟩ : ByteArray), (⟨#[108, 100, 105, 32, 49, 50, 56, 10, 115, 116, 97, 32, 56, 49, 57, 50, 10, 108, 100, 105, 32, 55, 10, 115, 116, 97, 32, 49, 54, 51, 56, 53, 10, 108, 100, 105, 32, 49, 10, 115, 116, 97, 32, 49, 54, 51, 56, 54, 10, 99, 108, 105, 10, 106, 115, 114, 32, 52, 57, 51, 48, 48, 10, 106, 109, 112, 32, 52, 57, 49, 54, 56, 10]⟩ : ByteArray), (⟨#[108, 100, 105, 32, 57, 10, 115, 101, 99, 10, 115, 98, 105, 32, 49, 10, 98, 110, 101, 32, 52, 57, 49, 53, 52, 10, 115, 116, 97, 32, 56, 49, 57, 51, 10, 106, 109, 112, 32, 52, 57, 49, 53, 50, 10]⟩ : ByteArray)] : List ByteArray))).bind fun bt224 => (if bt224.1.size + 125 ≤ 9223372036854775807 then (some (bt224.1 ++ (⟨#[97, 116, 32, 49, 52, 56, 10, 105, 110, 120, 10, 116, 120, 97, 10, 115, 116, 97, 32, 56, 49, 57, 55, 10, 114, 116, 115, 10, 97, 116, 32, 49, 50, 56, 10, 112, 104, 97, 10, 108, 100, 97, 32, 56, 49, 57, 52, 10, 97, 100, 105, 32, 49, 10, 115, 116, 97, 32, 56, 49, 57, 51, 10, 112, 108, 97, 10, 114, 116, 105, 10, 97, 116, 32, 49, 54, 48, 10, 115, 116, 97, 32, 49, 54, 51, 56, 55, 10, 108, 100, 97, 32, 49, 54, 51, 56, 54, 10, 115, 116, 97, 32, 49, 55, 10, 108, 100, 105, 32, 50, 10, 115, 116, 97, 32, 49, 54, 51, 56, 53, 10, 114, 116, 105, 10]⟩ : ByteArray), bt224.2.1, bt224.2.2)) else (none))
set_option maxHeartbeats 8000000 in
set_option maxRecDepth 100000 in
theorem spec_l2Main.calls (g : Nat) (s0_0 : List Int) (s0_1 : Int) (s0_2 : Int) (r1 : ByteArray) (r2 : Int) (r3 : Int) (w0 w : World) (hI : IsS107 w0 w g s0_0 s0_1 s0_2) (hB : Below w0.heap.size w0 w) (h : spec_l2Main.f s0_0 s0_1 s0_2 = some (r1, r2, r3)) :
  Calls Try.prog 107 #[.pointer (some ⟨g, 0, none⟩)] w fun e w' => e = .returned (.string r1) ∧ IsS107 w0 w' g s0_0 r2 r3 ∧ Below w0.heap.size w0 w' ∧ KeepBut w w' g none := by
 have HI0 := Aside0.mk hI
 have HK := Aside0.mk (KeepBut.refl w g none)
 have HL := Aside0.mk hB.size
 clear hI
 have HW0 := Aside0.mk hB.size
 have HB := Aside0.mk hB
 clear hB
 have H : ((spec_l1Pick.f s0_0 s0_1 s0_2 (([(⟨#[108, 100, 105, 32, 53, 10, 115, 116, 97, 32, 56, 49, 57, 51, 10, 108, 100, 105, 32, 49, 50, 56, 10, 115, 116, 97, 32, 56, 49, 57, 50, 10, 108, 100, 97, 32, 56, 49, 57, 52, 10, 115, 116, 97, 32, 49, 54, 10, 106, 109, 112, 32, 52, 57, 49, 54, 50, 10]⟩ : ByteArray), (⟨#[108, 100, 105, 32, 51, 10, 115, 116, 97, 32, 49, 54, 51, 56, 52, 10, 108, 100, 105, 32, 50, 10, 115, 116, 97, 32, 49, 54, 51, 56, 53, 10, 108, 100, 105, 32, 49, 10, 115, 116, 97, 32, 49, 54, 51, 56, 54, 10, 99, 108, 105, 10, 108, 100, 97, 32, 49, 54, 51, 56, 54, 10, 106, 109, 112, 32, 52, 57, 49, 54, 56, 10]⟩ : ByteArray), (⟨#[108, 100, 105, 32, 50, 10, 115, 116, 97, 32, 56, 49, 57, 53, 10, 105, 110, 120, 10, 116, 120, 97, 10, 115, 116, 97, 32, 56, 49, 57, 54, 10, 115, 116, 97, 32, 56, 49, 57, 55, 10, 108, 100, 97, 32, 56, 49, 57, 54, 10, 115, 116, 97, 32, 48, 10, 106, 109, 112, 32, 52, 57, 49, 53, 55, 10]⟩ : ByteArray), (⟨#[108, 100, 105, 32, 49, 10, 115, 116, 97, 32, 49, 54, 52, 48, 54, 10, 108, 100, 105, 32, 48, 10, 115, 116, 97, 32, 49, 54, 52, 48, 54, 10, 108, 100, 97, 32, 49, 54, 52, 48, 54, 10, 112, 104, 97, 10, 108, 100, 97, 32, 49, 54, 52, 48, 54, 10, 112, 108, 97, 10, 106, 109, 112, 32, 52, 57, 49, 54, 50, 10]⟩ : ByteArray), (⟨#[105, 110, 120, 10, 116, 120, 97, 10, 115, 116, 97, 32, 51, 50, 55, 54, 56, 10, 108, 100, 97, 32, 51, 50, 55, 55, 48, 10, 115, 116, 97, 32, 56, 49, 57, 51, 10, 106, 109, 112, 32, 52, 57, 49, 53, 50, 10]⟩ : ByteArray), (⟨#[108, 100, 105, 32, 49, 50, 56, 10, 115, 116, 97, 32, 56, 49, 57, 50, 10, 108, 100, 105, 32, 55, 10, 115, 116, 97, 32, 49, 54, 51, 56, 53, 10, 108, 100, 105, 32, 49, 10, 115, 116, 97, 32, 49, 54, 51, 56, 54, 10, 99, 108, 105, 10, 106, 115, 114, 32, 52, 57, 51, 48, 48, 10, 106, 109, 112, 32, 52, 57, 49, 54, 56, 10]⟩ : ByteArray), (⟨#[108, 100, 105, 32, 57, 10, 115, 101, 99, 10, 115, 98, 105, 32, 49, 10, 98, 110, 101, 32, 52, 57, 49, 53, 52, 10, 115, 116, 97, 32, 56, 49, 57, 51, 10, 106, 109, 112, 32, 52, 57, 49, 53, 50, 10]⟩ : ByteArray)] : List ByteArray))).bind fun bt224 => (if bt224.1.size + 125 ≤ 9223372036854775807 then (some (bt224.1 ++ (⟨#[97, 116, 32, 49, 52, 56, 10, 105, 110, 120, 10, 116, 120, 97, 10, 115, 116, 97, 32, 56, 49, 57, 55, 10, 114, 116, 115, 10, 97, 116, 32, 49, 50, 56, 10, 112, 104, 97, 10, 108, 100, 97, 32, 56, 49, 57, 52, 10, 97, 100, 105, 32, 49, 10, 115, 116, 97, 32, 56, 49, 57, 51, 10, 112, 108, 97, 10, 114, 116, 105, 10, 97, 116, 32, 49, 54, 48, 10, 115, 116, 97, 32, 49, 54, 51, 56, 55, 10, 108, 100, 97, 32, 49, 54, 51, 56, 54, 10, 115, 116, 97, 32, 49, 55, 10, 108, 100, 105, 32, 50, 10, 115, 116, 97, 32, 49, 54, 51, 56, 53, 10, 114, 116, 105, 10]⟩ : ByteArray), bt224.2.1, bt224.2.2)) else (none))) = some (r1, r2, r3) := h
 clear h
 obtain ⟨y221, hy221⟩ : ∃ y_ : List ByteArray, y_ = (([(⟨#[108, 100, 105, 32, 53, 10, 115, 116, 97, 32, 56, 49, 57, 51, 10, 108, 100, 105, 32, 49, 50, 56, 10, 115, 116, 97, 32, 56, 49, 57, 50, 10, 108, 100, 97, 32, 56, 49, 57, 52, 10, 115, 116, 97, 32, 49, 54, 10, 106, 109, 112, 32, 52, 57, 49, 54, 50, 10]⟩ : ByteArray), (⟨#[108, 100, 105, 32, 51, 10, 115, 116, 97, 32, 49, 54, 51, 56, 52, 10, 108, 100, 105, 32, 50, 10, 115, 116, 97, 32, 49, 54, 51, 56, 53, 10, 108, 100, 105, 32, 49, 10, 115, 116, 97, 32, 49, 54, 51, 56, 54, 10, 99, 108, 105, 10, 108, 100, 97, 32, 49, 54, 51, 56, 54, 10, 106, 109, 112, 32, 52, 57, 49, 54, 56, 10]⟩ : ByteArray), (⟨#[108, 100, 105, 32, 50, 10, 115, 116, 97, 32, 56, 49, 57, 53, 10, 105, 110, 120, 10, 116, 120, 97, 10, 115, 116, 97, 32, 56, 49, 57, 54, 10, 115, 116, 97, 32, 56, 49, 57, 55, 10, 108, 100, 97, 32, 56, 49, 57, 54, 10, 115, 116, 97, 32, 48, 10, 106, 109, 112, 32, 52, 57, 49, 53, 55, 10]⟩ : ByteArray), (⟨#[108, 100, 105, 32, 49, 10, 115, 116, 97, 32, 49, 54, 52, 48, 54, 10, 108, 100, 105, 32, 48, 10, 115, 116, 97, 32, 49, 54, 52, 48, 54, 10, 108, 100, 97, 32, 49, 54, 52, 48, 54, 10, 112, 104, 97, 10, 108, 100, 97, 32, 49, 54, 52, 48, 54, 10, 112, 108, 97, 10, 106, 109, 112, 32, 52, 57, 49, 54, 50, 10]⟩ : ByteArray), (⟨#[105, 110, 120, 10, 116, 120, 97, 10, 115, 116, 97, 32, 51, 50, 55, 54, 56, 10, 108, 100, 97, 32, 51, 50, 55, 55, 48, 10, 115, 116, 97, 32, 56, 49, 57, 51, 10, 106, 109, 112, 32, 52, 57, 49, 53, 50, 10]⟩ : ByteArray), (⟨#[108, 100, 105, 32, 49, 50, 56, 10, 115, 116, 97, 32, 56, 49, 57, 50, 10, 108, 100, 105, 32, 55, 10, 115, 116, 97, 32, 49, 54, 51, 56, 53, 10, 108, 100, 105, 32, 49, 10, 115, 116, 97, 32, 49, 54, 51, 56, 54, 10, 99, 108, 105, 10, 106, 115, 114, 32, 52, 57, 51, 48, 48, 10, 106, 109, 112, 32, 52, 57, 49, 54, 56, 10]⟩ : ByteArray), (⟨#[108, 100, 105, 32, 57, 10, 115, 101, 99, 10, 115, 98, 105, 32, 49, 10, 98, 110, 101, 32, 52, 57, 49, 53, 52, 10, 115, 116, 97, 32, 56, 49, 57, 51, 10, 106, 109, 112, 32, 52, 57, 49, 53, 50, 10]⟩ : ByteArray)] : List ByteArray)) := ⟨_, rfl⟩
 replace H : ((spec_l1Pick.f s0_0 s0_1 s0_2 y221).bind fun bt224 => (if bt224.1.size + 125 ≤ 9223372036854775807 then (some (bt224.1 ++ (⟨#[97, 116, 32, 49, 52, 56, 10, 105, 110, 120, 10, 116, 120, 97, 10, 115, 116, 97, 32, 56, 49, 57, 55, 10, 114, 116, 115, 10, 97, 116, 32, 49, 50, 56, 10, 112, 104, 97, 10, 108, 100, 97, 32, 56, 49, 57, 52, 10, 97, 100, 105, 32, 49, 10, 115, 116, 97, 32, 56, 49, 57, 51, 10, 112, 108, 97, 10, 114, 116, 105, 10, 97, 116, 32, 49, 54, 48, 10, 115, 116, 97, 32, 49, 54, 51, 56, 55, 10, 108, 100, 97, 32, 49, 54, 51, 56, 54, 10, 115, 116, 97, 32, 49, 55, 10, 108, 100, 105, 32, 50, 10, 115, 116, 97, 32, 49, 54, 51, 56, 53, 10, 114, 116, 105, 10]⟩ : ByteArray), bt224.2.1, bt224.2.2)) else (none))) = some (r1, r2, r3) := by first | (rw [hy221]; with_reducible exact H) | (have H2_ := (Option.bind_some _ _).symm.trans H; rw [hy221]; with_reducible exact H2_) | (have H2_ := (Option.bind_some _ _).symm.trans H; with_reducible exact H2_) | with_reducible exact H | (rw [hy221]; exact H) | exact H
 have Ny221 := Aside0.mk hy221
 clear hy221
 replace H := Option.bind_eq_some_iff.mp H
 obtain ⟨⟨t224, t225, t226⟩, A20, H⟩ := H
 replace H : (if t224.size + 125 ≤ 9223372036854775807 then (some (t224 ++ (⟨#[97, 116, 32, 49, 52, 56, 10, 105, 110, 120, 10, 116, 120, 97, 10, 115, 116, 97, 32, 56, 49, 57, 55, 10, 114, 116, 115, 10, 97, 116, 32, 49, 50, 56, 10, 112, 104, 97, 10, 108, 100, 97, 32, 56, 49, 57, 52, 10, 97, 100, 105, 32, 49, 10, 115, 116, 97, 32, 56, 49, 57, 51, 10, 112, 108, 97, 10, 114, 116, 105, 10, 97, 116, 32, 49, 54, 48, 10, 115, 116, 97, 32, 49, 54, 51, 56, 55, 10, 108, 100, 97, 32, 49, 54, 51, 56, 54, 10, 115, 116, 97, 32, 49, 55, 10, 108, 100, 105, 32, 50, 10, 115, 116, 97, 32, 49, 54, 51, 56, 53, 10, 114, 116, 105, 10]⟩ : ByteArray), t225, t226)) else (none)) = some (r1, r2, r3) := H
 have A2 := Aside0.mk A20
 clear A20
 by_cases c3 : t224.size + 125 ≤ 9223372036854775807
 ·rw [if_pos c3] at H
  have c3b0 := eq_true c3
  have c3b1 : decide (t224.size + 125 ≤ 9223372036854775807) = true := decide_eq_true c3
  try have c3b2 : (9223372036854775807 < t224.size + 125) = False := eq_false (Nat.not_lt.2 c3)
  simp only [Option.some.injEq, Prod.mk.injEq] at H
  obtain ⟨rfl, rfl, rfl⟩ := H
  go_enter Try.func107, Try.ntmps107
  go_wp2_with (first | ((with_reducible refine gate_dst (N := 5) rfl ?_); refine Kd.R_lit Kd.string _ 9 ?hg (N := 5) ?hd (xs := ([(⟨#[108, 100, 105, 32, 53, 10, 115, 116, 97, 32, 56, 49, 57, 51, 10, 108, 100, 105, 32, 49, 50, 56, 10, 115, 116, 97, 32, 56, 49, 57, 50, 10, 108, 100, 97, 32, 56, 49, 57, 52, 10, 115, 116, 97, 32, 49, 54, 10, 106, 109, 112, 32, 52, 57, 49, 54, 50, 10]⟩ : ByteArray), (⟨#[108, 100, 105, 32, 51, 10, 115, 116, 97, 32, 49, 54, 51, 56, 52, 10, 108, 100, 105, 32, 50, 10, 115, 116, 97, 32, 49, 54, 51, 56, 53, 10, 108, 100, 105, 32, 49, 10, 115, 116, 97, 32, 49, 54, 51, 56, 54, 10, 99, 108, 105, 10, 108, 100, 97, 32, 49, 54, 51, 56, 54, 10, 106, 109, 112, 32, 52, 57, 49, 54, 56, 10]⟩ : ByteArray), (⟨#[108, 100, 105, 32, 50, 10, 115, 116, 97, 32, 56, 49, 57, 53, 10, 105, 110, 120, 10, 116, 120, 97, 10, 115, 116, 97, 32, 56, 49, 57, 54, 10, 115, 116, 97, 32, 56, 49, 57, 55, 10, 108, 100, 97, 32, 56, 49, 57, 54, 10, 115, 116, 97, 32, 48, 10, 106, 109, 112, 32, 52, 57, 49, 53, 55, 10]⟩ : ByteArray), (⟨#[108, 100, 105, 32, 49, 10, 115, 116, 97, 32, 49, 54, 52, 48, 54, 10, 108, 100, 105, 32, 48, 10, 115, 116, 97, 32, 49, 54, 52, 48, 54, 10, 108, 100, 97, 32, 49, 54, 52, 48, 54, 10, 112, 104, 97, 10, 108, 100, 97, 32, 49, 54, 52, 48, 54, 10, 112, 108, 97, 10, 106, 109, 112, 32, 52, 57, 49, 54, 50, 10]⟩ : ByteArray), (⟨#[105, 110, 120, 10, 116, 120, 97, 10, 115, 116, 97, 32, 51, 50, 55, 54, 56, 10, 108, 100, 97, 32, 51, 50, 55, 55, 48, 10, 115, 116, 97, 32, 56, 49, 57, 51, 10, 106, 109, 112, 32, 52, 57, 49, 53, 50, 10]⟩ : ByteArray), (⟨#[108, 100, 105, 32, 49, 50, 56, 10, 115, 116, 97, 32, 56, 49, 57, 50, 10, 108, 100, 105, 32, 55, 10, 115, 116, 97, 32, 49, 54, 51, 56, 53, 10, 108, 100, 105, 32, 49, 10, 115, 116, 97, 32, 49, 54, 51, 56, 54, 10, 99, 108, 105, 10, 106, 115, 114, 32, 52, 57, 51, 48, 48, 10, 106, 109, 112, 32, 52, 57, 49, 54, 56, 10]⟩ : ByteArray), (⟨#[108, 100, 105, 32, 57, 10, 115, 101, 99, 10, 115, 98, 105, 32, 49, 10, 98, 110, 101, 32, 52, 57, 49, 53, 52, 10, 115, 116, 97, 32, 56, 49, 57, 51, 10, 106, 109, 112, 32, 52, 57, 49, 53, 50, 10]⟩ : ByteArray)] : List ByteArray)) (inner := [.string (⟨#[108, 100, 105, 32, 53, 10, 115, 116, 97, 32, 56, 49, 57, 51, 10, 108, 100, 105, 32, 49, 50, 56, 10, 115, 116, 97, 32, 56, 49, 57, 50, 10, 108, 100, 97, 32, 56, 49, 57, 52, 10, 115, 116, 97, 32, 49, 54, 10, 106, 109, 112, 32, 52, 57, 49, 54, 50, 10]⟩ : ByteArray), .string (⟨#[108, 100, 105, 32, 51, 10, 115, 116, 97, 32, 49, 54, 51, 56, 52, 10, 108, 100, 105, 32, 50, 10, 115, 116, 97, 32, 49, 54, 51, 56, 53, 10, 108, 100, 105, 32, 49, 10, 115, 116, 97, 32, 49, 54, 51, 56, 54, 10, 99, 108, 105, 10, 108, 100, 97, 32, 49, 54, 51, 56, 54, 10, 106, 109, 112, 32, 52, 57, 49, 54, 56, 10]⟩ : ByteArray), .string (⟨#[108, 100, 105, 32, 50, 10, 115, 116, 97, 32, 56, 49, 57, 53, 10, 105, 110, 120, 10, 116, 120, 97, 10, 115, 116, 97, 32, 56, 49, 57, 54, 10, 115, 116, 97, 32, 56, 49, 57, 55, 10, 108, 100, 97, 32, 56, 49, 57, 54, 10, 115, 116, 97, 32, 48, 10, 106, 109, 112, 32, 52, 57, 49, 53, 55, 10]⟩ : ByteArray), .string (⟨#[108, 100, 105, 32, 49, 10, 115, 116, 97, 32, 49, 54, 52, 48, 54, 10, 108, 100, 105, 32, 48, 10, 115, 116, 97, 32, 49, 54, 52, 48, 54, 10, 108, 100, 97, 32, 49, 54, 52, 48, 54, 10, 112, 104, 97, 10, 108, 100, 97, 32, 49, 54, 52, 48, 54, 10, 112, 108, 97, 10, 106, 109, 112, 32, 52, 57, 49, 54, 50, 10]⟩ : ByteArray), .string (⟨#[105, 110, 120, 10, 116, 120, 97, 10, 115, 116, 97, 32, 51, 50, 55, 54, 56, 10, 108, 100, 97, 32, 51, 50, 55, 55, 48, 10, 115, 116, 97, 32, 56, 49, 57, 51, 10, 106, 109, 112, 32, 52, 57, 49, 53, 50, 10]⟩ : ByteArray), .string (⟨#[108, 100, 105, 32, 49, 50, 56, 10, 115, 116, 97, 32, 56, 49, 57, 50, 10, 108, 100, 105, 32, 55, 10, 115, 116, 97, 32, 49, 54, 51, 56, 53, 10, 108, 100, 105, 32, 49, 10, 115, 116, 97, 32, 49, 54, 51, 56, 54, 10, 99, 108, 105, 10, 106, 115, 114, 32, 52, 57, 51, 48, 48, 10, 106, 109, 112, 32, 52, 57, 49, 54, 56, 10]⟩ : ByteArray), .string (⟨#[108, 100, 105, 32, 57, 10, 115, 101, 99, 10, 115, 98, 105, 32, 49, 10, 98, 110, 101, 32, 52, 57, 49, 53, 52, 10, 115, 116, 97, 32, 56, 49, 57, 51, 10, 106, 109, 112, 32, 52, 57, 49, 53, 50, 10]⟩ : ByteArray)]) (ok := fun _ => True) (okp := fun _ => True) ?hr ?hp (fun _ hk => hk) trivial (Below.refl _ _) (Nat.le_refl _) (by simp) ?_; (case hd => rfl); (case hg => rfl); (case hr => first | (go_simp; done) | (go_simp; rfl)); (case hp => exact (Reps.one (show Kd.M Kd.string _ _ _ (⟨#[108, 100, 105, 32, 53, 10, 115, 116, 97, 32, 56, 49, 57, 51, 10, 108, 100, 105, 32, 49, 50, 56, 10, 115, 116, 97, 32, 56, 49, 57, 50, 10, 108, 100, 97, 32, 56, 49, 57, 52, 10, 115, 116, 97, 32, 49, 54, 10, 106, 109, 112, 32, 52, 57, 49, 54, 50, 10]⟩ : ByteArray) [.string (⟨#[108, 100, 105, 32, 53, 10, 115, 116, 97, 32, 56, 49, 57, 51, 10, 108, 100, 105, 32, 49, 50, 56, 10, 115, 116, 97, 32, 56, 49, 57, 50, 10, 108, 100, 97, 32, 56, 49, 57, 52, 10, 115, 116, 97, 32, 49, 54, 10, 106, 109, 112, 32, 52, 57, 49, 54, 50, 10]⟩ : ByteArray)] from rfl) (Reps.one (show Kd.M Kd.string _ _ _ (⟨#[108, 100, 105, 32, 51, 10, 115, 116, 97, 32, 49, 54, 51, 56, 52, 10, 108, 100, 105, 32, 50, 10, 115, 116, 97, 32, 49, 54, 51, 56, 53, 10, 108, 100, 105, 32, 49, 10, 115, 116, 97, 32, 49, 54, 51, 56, 54, 10, 99, 108, 105, 10, 108, 100, 97, 32, 49, 54, 51, 56, 54, 10, 106, 109, 112, 32, 52, 57, 49, 54, 56, 10]⟩ : ByteArray) [.string (⟨#[108, 100, 105, 32, 51, 10, 115, 116, 97, 32, 49, 54, 51, 56, 52, 10, 108, 100, 105, 32, 50, 10, 115, 116, 97, 32, 49, 54, 51, 56, 53, 10, 108, 100, 105, 32, 49, 10, 115, 116, 97, 32, 49, 54, 51, 56, 54, 10, 99, 108, 105, 10, 108, 100, 97, 32, 49, 54, 51, 56, 54, 10, 106, 109, 112, 32, 52, 57, 49, 54, 56, 10]⟩ : ByteArray)] from rfl) (Reps.one (show Kd.M Kd.string _ _ _ (⟨#[108, 100, 105, 32, 50, 10, 115, 116, 97, 32, 56, 49, 57, 53, 10, 105, 110, 120, 10, 116, 120, 97, 10, 115, 116, 97, 32, 56, 49, 57, 54, 10, 115, 116, 97, 32, 56, 49, 57, 55, 10, 108, 100, 97, 32, 56, 49, 57, 54, 10, 115, 116, 97, 32, 48, 10, 106, 109, 112, 32, 52, 57, 49, 53, 55, 10]⟩ : ByteArray) [.string (⟨#[108, 100, 105, 32, 50, 10, 115, 116, 97, 32, 56, 49, 57, 53, 10, 105, 110, 120, 10, 116, 120, 97, 10, 115, 116, 97, 32, 56, 49, 57, 54, 10, 115, 116, 97, 32, 56, 49, 57, 55, 10, 108, 100, 97, 32, 56, 49, 57, 54, 10, 115, 116, 97, 32, 48, 10, 106, 109, 112, 32, 52, 57, 49, 53, 55, 10]⟩ : ByteArray)] from rfl) (Reps.one (show Kd.M Kd.string _ _ _ (⟨#[108, 100, 105, 32, 49, 10, 115, 116, 97, 32, 49, 54, 52, 48, 54, 10, 108, 100, 105, 32, 48, 10, 115, 116, 97, 32, 49, 54, 52, 48, 54, 10, 108, 100, 97, 32, 49, 54, 52, 48, 54, 10, 112, 104, 97, 10, 108, 100, 97, 32, 49, 54, 52, 48, 54, 10, 112, 108, 97, 10, 106, 109, 112, 32, 52, 57, 49, 54, 50, 10]⟩ : ByteArray) [.string (⟨#[108, 100, 105, 32, 49, 10, 115, 116, 97, 32, 49, 54, 52, 48, 54, 10, 108, 100, 105, 32, 48, 10, 115, 116, 97, 32, 49, 54, 52, 48, 54, 10, 108, 100, 97, 32, 49, 54, 52, 48, 54, 10, 112, 104, 97, 10, 108, 100, 97, 32, 49, 54, 52, 48, 54, 10, 112, 108, 97, 10, 106, 109, 112, 32, 52, 57, 49, 54, 50, 10]⟩ : ByteArray)] from rfl) (Reps.one (show Kd.M Kd.string _ _ _ (⟨#[105, 110, 120, 10, 116, 120, 97, 10, 115, 116, 97, 32, 51, 50, 55, 54, 56, 10, 108, 100, 97, 32, 51, 50, 55, 55, 48, 10, 115, 116, 97, 32, 56, 49, 57, 51, 10, 106, 109, 112, 32, 52, 57, 49, 53, 50, 10]⟩ : ByteArray) [.string (⟨#[105, 110, 120, 10, 116, 120, 97, 10, 115, 116, 97, 32, 51, 50, 55, 54, 56, 10, 108, 100, 97, 32, 51, 50, 55, 55, 48, 10, 115, 116, 97, 32, 56, 49, 57, 51, 10, 106, 109, 112, 32, 52, 57, 49, 53, 50, 10]⟩ : ByteArray)] from rfl) (Reps.one (show Kd.M Kd.string _ _ _ (⟨#[108, 100, 105, 32, 49, 50, 56, 10, 115, 116, 97, 32, 56, 49, 57, 50, 10, 108, 100, 105, 32, 55, 10, 115, 116, 97, 32, 49, 54, 51, 56, 53, 10, 108, 100, 105, 32, 49, 10, 115, 116, 97, 32, 49, 54, 51, 56, 54, 10, 99, 108, 105, 10, 106, 115, 114, 32, 52, 57, 51, 48, 48, 10, 106, 109, 112, 32, 52, 57, 49, 54, 56, 10]⟩ : ByteArray) [.string (⟨#[108, 100, 105, 32, 49, 50, 56, 10, 115, 116, 97, 32, 56, 49, 57, 50, 10, 108, 100, 105, 32, 55, 10, 115, 116, 97, 32, 49, 54, 51, 56, 53, 10, 108, 100, 105, 32, 49, 10, 115, 116, 97, 32, 49, 54, 51, 56, 54, 10, 99, 108, 105, 10, 106, 115, 114, 32, 52, 57, 51, 48, 48, 10, 106, 109, 112, 32, 52, 57, 49, 54, 56, 10]⟩ : ByteArray)] from rfl) (Reps.one (show Kd.M Kd.string _ _ _ (⟨#[108, 100, 105, 32, 57, 10, 115, 101, 99, 10, 115, 98, 105, 32, 49, 10, 98, 110, 101, 32, 52, 57, 49, 53, 52, 10, 115, 116, 97, 32, 56, 49, 57, 51, 10, 106, 109, 112, 32, 52, 57, 49, 53, 50, 10]⟩ : ByteArray) [.string (⟨#[108, 100, 105, 32, 57, 10, 115, 101, 99, 10, 115, 98, 105, 32, 49, 10, 98, 110, 101, 32, 52, 57, 49, 53, 52, 10, 115, 116, 97, 32, 56, 49, 57, 51, 10, 106, 109, 112, 32, 52, 57, 49, 53, 50, 10]⟩ : ByteArray)] from rfl) (Reps.none _ _))))))))); intro v222 w4 ho5 hb hg_ hnew_; clear hg_ hnew_; (first | rw [← Ny221.out] at ho5 | (simp only [Int.reduceToNat] at ho5; rw [← Ny221.out] at ho5)); have n0_ := Aside0.mk (Kd.R_lower ho5 (keep_size (w := w) (g := g) (row := none) (kp HK.out))); have n1_ := Aside0.mk (IsS107.below (si HI0.out) hb); have n2_ := Aside0.mk (KeepBut.trans (kp HK.out) (KeepBut.of_below hb g none) (.inl rfl)); have n3_ := Aside0.mk (below_step (bi HB.out) hb); clear HI0; clear HK; clear HB; have HO223 := n0_; have HI0 := n1_; have HK := n2_; have HB := n3_; clear n0_ n1_ n2_ n3_; clear hb ho5; obtain ⟨Ao6, co6, eo6⟩ := Kd.R_slice HO223.out; subst eo6) | ((with_reducible refine gate_callee (f := 119) rfl ?_); refine goesM_ (some 6) rfl rfl Try.func119 #[.pointer (some ⟨g, 0, none⟩), .slice Ao6 y221.length co6] ?_; (with_reducible refine (spec_l1Pick.calls g s0_0 s0_1 s0_2 _ _ y221 t224 t225 t226 w0 _ ?side1 ?side2 ?side3 ?side4 ?side5 A2.out).mono ?_); (case side1 => exact si HI0.out); (case side2 => exact bi HB.out); (case side3 => repeat (first | exact (Kd.R_reads' HO223.out).2.2 | (with_reducible refine Kd.C_alloc ?_ _) | (with_reducible refine Kd.C_drewN ?_ _) | (with_reducible refine Kd.C_drew ?_))); (case side4 => exact (Kd.R_reads' HO223.out).2.1); (case side5 => exact far_slice (IsS107.own_ne HI0.out HO223.out (by decide))); rintro e w7 ⟨rfl, hi, hb, hk⟩; refine ⟨_, rfl, ?_⟩; have n0_ := Aside0.mk (Kd.R_mono (Kd.R_keep (IsS107.apart (show IsS107 w0 _ g s0_0 s0_1 s0_2 from si HI0.out) (kr HO223.out) (by decide)) hk (fun _ h => h.2)) (fun _ h => h.1)); have n1_ := Aside0.mk (KeepBut.trans (kp HK.out) hk (.inl rfl)); have n2_ := Aside0.mk (hb); have n3_ := Aside0.mk (hi); clear HO223; clear HK; clear HB; clear HI0; have HO223 := n0_; have HK := n1_; have HB := n2_; have HI0 := n3_; clear n0_ n1_ n2_ n3_; (try clear hb); (try clear hb2); (try clear hk); (try clear hi)))
  go_ret
  exact ⟨rt, si HI0.out, bi HB.out, kp HK.out⟩
 ·rw [if_neg c3] at H
  exact absurd H (by simp)

/-! ### spec_l2DrawRight: function 69 -/
def last6 (r : List Int) : List Int := (((((r.set 250 128).set 251 192).set 252 0).set 253 192).set 254 160).set 255 192
/-- The last bank, with what stands at its end. -/
def lastSix (x : List (List Int)) (i : Int) : List (List Int) := x.set i.toNat (last6 (rd_L3 x i))
def six (W : World) (g : Nat) : World := (((((W.setCell ⟨g, 250, none⟩ (.int .i64 128)).setCell ⟨g, 251, none⟩ (.int .i64 192)).setCell ⟨g, 252, none⟩ (.int .i64 0)).setCell ⟨g, 253, none⟩ (.int .i64 192)).setCell ⟨g, 254, none⟩ (.int .i64 160)).setCell ⟨g, 255, none⟩ (.int .i64 192)
theorem six_heap (W : World) (g k : Nat) (h : k ≠ g) : (six W g).heap[k]? = W.heap[k]? := by
 unfold six
 refine (Below.heap_setCell _ _ _ k h).trans ?_
 refine (Below.heap_setCell _ _ _ k h).trans ?_
 refine (Below.heap_setCell _ _ _ k h).trans ?_
 refine (Below.heap_setCell _ _ _ k h).trans ?_
 refine (Below.heap_setCell _ _ _ k h).trans ?_
 exact Below.heap_setCell _ _ _ k h
theorem six_below {B : World} {W : World} {g : Nat} (h : Below B.heap.size B W) (hg : B.heap.size ≤ g) : Below B.heap.size B (six W g) := below_set (below_set (below_set (below_set (below_set (below_set h hg) hg) hg) hg) hg) hg
theorem six_blk {W : World} {g b : Nat} {t : TypeId} {cs : Array Value} (h : W.heap[b]? = some (.cells cs t (0, 0))) (hne : b ≠ g) : (six W g).heap[b]? = some (.cells cs t (0, 0)) := (six_heap W g b hne).trans h
theorem six_keep {w W : World} {g gl : Nat} {row : Option Nat} (h : KeepBut w W g row) (hg : w.heap.size ≤ gl) : KeepBut w (six W gl) g row := keep_far (keep_far (keep_far (keep_far (keep_far (keep_far h hg _) hg _) hg _) hg _) hg _) hg _
theorem six_ok {W : World} {base : Nat} {ok : Nat → Prop} {ad : Addr} {n cap : Nat} {X : List (List Int)} (h : Kd.S (Kd.slice 3 (Kd.int .i64)) 30 W base ok (.slice (some ad) n cap) X) (i : Int) (h0 : 0 ≤ i) (h1 : i < (X.length : Int)) {A : Option Addr} {c : Nat}
  (hx : W.cell? (ad.add i.toNat) = some (.slice A (rd_L3 X i).length c)) (h256 : (rd_L3 X i).length = 256) :
  ∃ gl, A = some ⟨gl, 0, none⟩ ∧ base ≤ gl ∧ (∃ cells, W.heap[gl]? = some (.cells cells 3 (0, 0))) ∧ (∀ j : Nat, j < 256 → W.cell? ⟨gl, j, none⟩ = some (.int .i64 (rdOf 0 (rd_L3 X i) (j : Int))) ∧ W.frozen? ⟨gl, j, none⟩ = false) ∧
   Kd.S (Kd.slice 3 (Kd.int .i64)) 30 (six W gl) base ok (.slice (some ad) n cap) (lastSix X i) := by
 obtain ⟨go, rfl⟩ := Kd.R_head (Kd.S_R h)
 have hn := (Kd.S_reads' h).1
 obtain ⟨oki, cc, hcl, hM, hcc, hoki, hH⟩ := Kd.S_lend h [] i h0 (by omega)
 obtain ⟨v, rfl, hR⟩ : ∃ v, cc = [v] ∧ Kd.R (Kd.int .i64) 3 W base oki v (X.getD i.toNat []) := hM
 have hv := hcc 0 v rfl
 rw [add_plain] at hx
 have e1 : i.toNat * (Kd.slice 3 (Kd.int .i64)).sz + 0 = i.toNat := Nat.mul_one _
 rw [e1, hx] at hv
 obtain rfl := Option.some.inj hv
 have e2 : X.getD i.toNat [] = rd_L3 X i := rfl
 rw [e2] at hR
 obtain ⟨gl, cap', e3, hg, hgl, hcells⟩ := Kd.R_form hR (by omega)
 obtain ⟨rfl, _, rfl⟩ : A = some ⟨gl, 0, none⟩ ∧ True ∧ c = cap' := by
  injection e3 with a1 a2 a3
  exact ⟨a1, trivial, a3⟩
 have hok : oki gl := hR.1 gl rfl
 refine ⟨gl, rfl, hg, hcells, fun j j1 => Kd.R_celln 0 hR (j : Int) (by omega) (by omega), ?_⟩
 have r6 : Kd.R (Kd.int .i64) 3 (six W gl) base oki (.slice (some ⟨gl, 0, none⟩) (rd_L3 X i).length c) (last6 (rd_L3 X i)) := by
  unfold six last6
  exact Kd.R_putn (Kd.R_putn (Kd.R_putn (Kd.R_putn (Kd.R_putn (Kd.R_putn hR 250 128) 251 192) 252 0) 253 192) 254 160) 255 192
 exact Kd.H_back (Kd.H_step hH (fun k _ hn _ => six_heap W gl k (fun e => hn (e ▸ hok)))) ⟨_, rfl, r6⟩ (fun _ hk => hk)
theorem six_state {w0 W : World} {g gl : Nat} {f0 : List Int} {f1 f2 : Int} (h : IsS107 w0 W g f0 f1 f2) (hne : g ≠ gl) : IsS107 w0 (six W gl) g f0 f1 f2 :=
 (((((h.far (p := ⟨gl, 250, none⟩) hne _).far (p := ⟨gl, 251, none⟩) hne _).far (p := ⟨gl, 252, none⟩) hne _).far (p := ⟨gl, 253, none⟩) hne _).far (p := ⟨gl, 254, none⟩) hne _).far (p := ⟨gl, 255, none⟩) hne _
def spec_l2DrawRight.l0 : Nat → Int → Int → List Int → Int → Int → List (List Int) → Option ((List (List Int)) × Int × Int)
 | 0, _, _, _, _, _, _ => none
 | k + 1, x4, x5, x1000, x1001, x1002, x229000 => if x5 < x4 then ((spec_l2DrawBank.f k x1000 x1001 x1002).bind fun bt232 => (if x229000.length < 5864062014805 then (spec_l2DrawRight.l0 k x4 (wrap64 (x5 + 1)) x1000 bt232.2.1 bt232.2.2 (x229000 ++ [bt232.1])) else (none))) else ((spec_l1Once.f x1000 x1001 x1002 4).bind fun bt240 => (if bt240.1 = true then (if 0 ≤ (wrap64 (x4 - 1)) then (if (wrap64 (x4 - 1)) < (x229000.length : Int) then (if (rd_L3 x229000 (wrap64 (x4 - 1))).length = 256 then (some (lastSix x229000 (wrap64 (x4 - 1)), bt240.2.1, bt240.2.2)) else (none)) else (none)) else (none)) else ((spec_l2Main.f x1000 bt240.2.1 bt240.2.2).bind fun bt244 => ((spec_Assemble.f k bt244.1).bind fun bt247 => (if (bt247.1.length : Int) = 256 then (if 0 ≤ (wrap64 (x4 - 1)) then (if (wrap64 (x4 - 1)) < (x229000.length : Int) then (if (rd_L3 (x229000.set ((wrap64 (x4 - 1)) : Int).toNat bt247.1) (wrap64 (x4 - 1))).length = 256 then (some (lastSix (x229000.set ((wrap64 (x4 - 1)) : Int).toNat bt247.1) (wrap64 (x4 - 1)), bt244.2.1, bt244.2.2)) else (none)) else (none)) else (none)) else (if 0 ≤ (wrap64 (x4 - 1)) then (if (wrap64 (x4 - 1)) < (x229000.length : Int) then (if (rd_L3 x229000 (wrap64 (x4 - 1))).length = 256 then (some (lastSix x229000 (wrap64 (x4 - 1)), bt244.2.1, bt244.2.2)) else (none)) else (none)) else (none)))))))
def spec_l2DrawRight.f (k : Nat) (s0_0 : List Int) (s0_1 : Int) (s0_2 : Int) : Option ((List (List Int)) × Int × Int) := (spec_l1Below.f s0_0 s0_1 s0_2 3).bind fun bt229 => (spec_l2DrawRight.l0 k (wrap64 (1 + bt229.1)) 0 s0_0 bt229.2.1 bt229.2.2 ([] : List (List Int)))
theorem spec_l2DrawRight.mono_l : ∀ k, (∀ y0 y1 y2 y3 y4 y5, LeO (spec_l2DrawRight.l0 k y0 y1 y2 y3 y4 y5) (spec_l2DrawRight.l0 (k + 1) y0 y1 y2 y3 y4 y5))
 | 0 => fun _ _ _ _ _ _ r h => by simp [spec_l2DrawRight.l0] at h
 | k + 1 => by
  have ih0 := spec_l2DrawRight.mono_l k
  ·intro y0 y1 y2 y3 y4 y5
   unfold spec_l2DrawRight.l0
   repeat' first
   | (with_reducible exact ih0 _ _ _ _ _ _)
   | (with_reducible exact spec_Assemble.mono _ _)
   | (with_reducible exact spec_l2DrawBank.mono _ _ _ _)
   | (with_reducible exact LeO.refl _)
   | (with_reducible exact LeO.none _)
   | (with_reducible refine LeO.ite ?_ ?_)
   | (with_reducible refine LeO.bind ?_ (fun _ => ?_))
   | exact ih0 _ _ _ _ _ _
   | exact spec_Assemble.mono _ _
   | exact spec_l2DrawBank.mono _ _ _ _
   | exact LeO.none _
   | refine LeO.ite ?_ ?_
   | refine LeO.bind ?_ (fun _ => ?_)
theorem spec_l2DrawRight.mono : ∀ a0 a1 a2 k, LeO (spec_l2DrawRight.f k a0 a1 a2) (spec_l2DrawRight.f (k + 1) a0 a1 a2) := by
 intro a0 a1 a2 k
 have ih0 := spec_l2DrawRight.mono_l k
 unfold spec_l2DrawRight.f
 repeat' first
   | (with_reducible exact ih0 _ _ _ _ _ _)
   | (with_reducible exact spec_Assemble.mono _ _)
   | (with_reducible exact spec_l2DrawBank.mono _ _ _ _)
   | (with_reducible exact LeO.refl _)
   | (with_reducible exact LeO.none _)
   | (with_reducible refine LeO.ite ?_ ?_)
   | (with_reducible refine LeO.bind ?_ (fun _ => ?_))
   | exact ih0 _ _ _ _ _ _
   | exact spec_Assemble.mono _ _
   | exact spec_l2DrawBank.mono _ _ _ _
   | exact LeO.none _
   | refine LeO.ite ?_ ?_
   | refine LeO.bind ?_ (fun _ => ?_)
def spec_l2DrawRight.T6 : Bool × List (List Nat × List Nat) := (true, [([], []), ([0], [0]), ([], []), ([2], [2]), ([3], [3]), ([1, 4, 3], [1, 4]), ([0, 1, 2, 3, 4, 5], []), ([6, 5, 5, 0, 1, 2, 3, 4, 5], [5, 6])])
def spec_l2DrawRight.B6 : List Nat := [0, 1, 0, 4, 12, 31, 63, 127]
theorem spec_l2DrawRight.tab6 : rtab .any (opsOf Try.f69 6) = spec_l2DrawRight.T6 := by kernel_rfl
theorem spec_l2DrawRight.bits6 : waitsOk spec_l2DrawRight.T6.2 spec_l2DrawRight.B6 = true := by kernel_rfl
set_option maxHeartbeats 8000000 in
set_option maxRecDepth 100000 in
theorem spec_l2DrawRight.calls (k : Nat) (g : Nat) (s0_0 : List Int) (s0_1 : Int) (s0_2 : Int) (r1 : List (List Int)) (r2 : Int) (r3 : Int) (w0 w : World) (hI : IsS107 w0 w g s0_0 s0_1 s0_2) (hB : Below w0.heap.size w0 w) (h : spec_l2DrawRight.f k s0_0 s0_1 s0_2 = some (r1, r2, r3)) :
  Calls Try.prog 69 #[.pointer (some ⟨g, 0, none⟩)] w fun e w' => ∃ v0_ : Value, e = .returned (.agg #[v0_]) ∧ Kd.S (Kd.slice 3 (Kd.int .i64)) 30 w' w.heap.size (fun _ => True) v0_ r1 ∧ IsS107 w0 w' g s0_0 r2 r3 ∧ Below w0.heap.size w0 w' ∧ KeepBut w w' g none := by
 have hu29 := Try.underlying29
 have HI0 := Aside0.mk hI
 have HK := Aside0.mk (KeepBut.refl w g none)
 have HL := Aside0.mk hB.size
 clear hI
 have HW0 := Aside0.mk hB.size
 have HB := Aside0.mk hB
 clear hB
 have H : ((spec_l1Below.f s0_0 s0_1 s0_2 3).bind fun bt229 => (spec_l2DrawRight.l0 k (wrap64 (1 + bt229.1)) 0 s0_0 bt229.2.1 bt229.2.2 ([] : List (List Int)))) = some (r1, r2, r3) := h
 clear h
 replace H := Option.bind_eq_some_iff.mp H
 obtain ⟨⟨t229, t230, t231⟩, A20, H⟩ := H
 replace H : (spec_l2DrawRight.l0 k (wrap64 (1 + t229)) 0 s0_0 t230 t231 ([] : List (List Int))) = some (r1, r2, r3) := H
 have A2 := Aside0.mk A20
 clear A20
 have H' := Aside0.mk H
 clear H
 go_enter Try.func69, Try.ntmps69
 go_wp2_with (first | ((with_reducible refine gate_dst (N := 2) rfl ?_); refine bx (N := 2) (cs := #[.slice none 0 0]) (t := 29) ?_; intro gb227 hg w3 hbox hb; have n0_ := Aside0.mk (IsS107.below (si HI0.out) hb); have n1_ := Aside0.mk (KeepBut.trans (kp HK.out) (KeepBut.of_below hb g none) (.inl rfl)); have n2_ := Aside0.mk (below_step (bi HB.out) hb); have n3_ := Aside0.mk (hbox); have n4_ := Aside0.mk ((by rw [hg]; exact (keep_size (w := w) (g := g) (row := none) (kp HK.out)) : w.heap.size ≤ gb227)); have n5_ := Aside0.mk ((Nat.le_trans HW0.out (by rw [hg]; exact (keep_size (w := w) (g := g) (row := none) (kp HK.out)) : w.heap.size ≤ gb227) : w0.heap.size ≤ gb227)); have n6_ := Aside0.mk ((by rw [hg]; exact Nat.ne_of_lt (IsS107.lt (show IsS107 w0 _ g s0_0 s0_1 s0_2 from si HI0.out)) : g ≠ gb227)); have n7_ := Aside0.mk ((by rw [hg]; exact Nat.ne_of_gt (IsS107.lt (show IsS107 w0 _ g s0_0 s0_1 s0_2 from si HI0.out)) : gb227 ≠ g)); clear HI0; clear HK; clear HB; have HI0 := n0_; have HK := n1_; have HB := n2_; have BK227 := n3_; have GW227 := n4_; have GE227 := n5_; have NB0_227 := n6_; have NB227_0 := n7_; clear n0_ n1_ n2_ n3_ n4_ n5_ n6_ n7_; clear hb hbox hg) | ((with_reducible refine gate_dst (N := 3) rfl ?_); refine bx (N := 3) (cs := #[.slice none 0 0]) (t := 29) ?_; intro gb228 hg w4 hbox hb; have n0_ := Aside0.mk (IsS107.below (si HI0.out) hb); have n1_ := Aside0.mk (blk_below (g := gb227) (o := .cells #[.slice none 0 0] 29 (0, 0)) (kb BK227.out) hb); have n2_ := Aside0.mk (KeepBut.trans (kp HK.out) (KeepBut.of_below hb g none) (.inl rfl)); have n3_ := Aside0.mk (below_step (bi HB.out) hb); have n4_ := Aside0.mk (hbox); have n5_ := Aside0.mk ((by rw [hg]; exact (keep_size (w := w) (g := g) (row := none) (kp HK.out)) : w.heap.size ≤ gb228)); have n6_ := Aside0.mk ((Nat.le_trans HW0.out (by rw [hg]; exact (keep_size (w := w) (g := g) (row := none) (kp HK.out)) : w.heap.size ≤ gb228) : w0.heap.size ≤ gb228)); have n7_ := Aside0.mk ((ga hg BK227.out)); have n8_ := Aside0.mk ((gc hg BK227.out)); have n9_ := Aside0.mk ((by rw [hg]; exact Nat.ne_of_lt (IsS107.lt (show IsS107 w0 _ g s0_0 s0_1 s0_2 from si HI0.out)) : g ≠ gb228)); have n10_ := Aside0.mk ((by rw [hg]; exact Nat.ne_of_gt (IsS107.lt (show IsS107 w0 _ g s0_0 s0_1 s0_2 from si HI0.out)) : gb228 ≠ g)); clear HI0; clear BK227; clear HK; clear HB; have HI0 := n0_; have BK227 := n1_; have HK := n2_; have HB := n3_; have BK228 := n4_; have GW228 := n5_; have GE228 := n6_; have NB227_228 := n7_; have NB228_227 := n8_; have NB0_228 := n9_; have NB228_0 := n10_; clear n0_ n1_ n2_ n3_ n4_ n5_ n6_ n7_ n8_ n9_ n10_; clear hb hbox hg; have hnb5 := NB228_227.out; have hnc5 := NB227_228.out; have hnb6 := NB228_0.out; have hnc6 := NB0_228.out; have hcz7_0 : w4.cell? ⟨gb228, 0, none⟩ = some (.slice none 0 0) := (blk_cell BK228.out 0).trans rfl; have hfz7_0 := blk_frozen BK228.out 0) | ((with_reducible refine gate_callee (f := 60) rfl ?_); refine goesM_ (some 11) rfl rfl Try.func60 #[.pointer (some ⟨g, 0, none⟩), .int .i64 3] ?_; (with_reducible refine (spec_l1Below.calls g s0_0 s0_1 s0_2 3 t229 t230 t231 w0 _ ?side1 ?side2 A2.out).mono ?_); (case side1 => exact si HI0.out); (case side2 => exact bi HB.out); rintro e w8 ⟨rfl, hi, hb, hk⟩; refine ⟨_, rfl, ?_⟩; have n0_ := Aside0.mk (KeepBut.blk hk (g' := gb227) (o := .cells #[.slice none 0 0] 29 (0, 0)) (kf BK227.out) NB227_0.out (by simp)); have n1_ := Aside0.mk (KeepBut.blk hk (g' := gb228) (o := .cells #[.slice none 0 0] 29 (0, 0)) (kt BK228.out) NB228_0.out (by simp)); have n2_ := Aside0.mk (KeepBut.trans (kp HK.out) hk (.inl rfl)); have n3_ := Aside0.mk (hb); have n4_ := Aside0.mk (hi); clear BK227; clear BK228; clear HK; clear HB; clear HI0; have BK227 := n0_; have BK228 := n1_; have HK := n2_; have HB := n3_; have HI0 := n4_; clear n0_ n1_ n2_ n3_ n4_; (try clear hb); (try clear hb2); (try clear hk); (try clear hi)))
 go_loopg [5] k (fun kq v5 w' => ∃ (x5_1 : Int) (x1001_1 : Int) (x1002_1 : Int) (x229000_1 : List (List Int)) (u229000 : Value), v5 = .int .i64 x5_1 ∧ Aside0 (spec_l2DrawRight.l0 kq (wrap64 (1 + t229)) x5_1 s0_0 x1001_1 x1002_1 x229000_1 = some (r1, r2, r3)) ∧ Aside0 (kq ≤ k) ∧ Aside0 (Kd.S (Kd.slice 3 (Kd.int .i64)) 30 w' w.heap.size (fun _ => True) u229000 x229000_1) ∧ Aside0 (w'.heap[gb227]? = some (.cells #[(.slice none 0 0)] 29 (0, 0))) ∧ Aside0 (w'.heap[gb228]? = some (.cells #[u229000] 29 (0, 0))) ∧ Aside0 (IsS107 w0 w' g s0_0 x1001_1 x1002_1) ∧ Aside0 (KeepBut w w' g none) ∧ Aside0 (Below w0.heap.size w0 w'))
 case atStart => exact ⟨(0), (t230), (t231), (([] : List (List Int))), (.slice none 0 0), (by first | rfl | (simp; done) | (simp [*]; done)), H', ⟨Nat.le_refl _⟩, ⟨by first | exact Kd.S_nil _ _ _ _ _ | exact Kd.N_nil _ _ _ _ _ | exact Kd.V_nil _ _ _ _ _ | exact Kd.Q_nil _ _ _ _ _ | exact Kd.R_nil _ _ _ _ _⟩, ⟨kb BK227.out⟩, ⟨kb BK228.out⟩, ⟨si HI0.out⟩, ⟨kp HK.out⟩, ⟨bi HB.out⟩⟩
 case round =>
  clear H'
  (try clear p2); (try clear c5); (try clear c6); (try clear p6); (try clear hcz7_0); (try clear hfz7_0)
  obtain ⟨x5_1, x1001_1, x1002_1, x229000_1, u229000, rfl, HA, HK1, HO_229000, BK227, BK228, HI0, HK, HB⟩ := hrel
  cases gk with
  | zero => exact absurd HA.out (by simp [spec_l2DrawRight.l0])
  | succ k1 =>
   have H := HA.out
   clear HA
   simp only [spec_l2DrawRight.l0] at H
   by_cases c9 : x5_1 < (wrap64 (1 + t229))
   ·rw [if_pos c9] at H
    have c9b0 : decide (x5_1 < (wrap64 (1 + t229))) = true := decide_eq_true c9
    clear c9
    replace H := Option.bind_eq_some_iff.mp H
    obtain ⟨⟨t232, t235, t236⟩, A100, H⟩ := H
    replace H : (if x229000_1.length < 5864062014805 then (spec_l2DrawRight.l0 k1 (wrap64 (1 + t229)) (wrap64 (x5_1 + 1)) s0_0 t235 t236 (x229000_1 ++ [t232])) else (none)) = some (r1, r2, r3) := H
    have A10 := Aside0.mk A100
    clear A100
    by_cases c11 : x229000_1.length < 5864062014805
    ·rw [if_pos c11] at H
     have LMc11 := Aside0.mk c11
     clear c11
     obtain ⟨y237, hy237⟩ : ∃ y_ : List (List Int), y_ = (x229000_1 ++ [t232]) := ⟨_, rfl⟩
     replace H : (spec_l2DrawRight.l0 k1 (wrap64 (1 + t229)) (wrap64 (x5_1 + 1)) s0_0 t235 t236 y237) = some (r1, r2, r3) := by first | (rw [hy237]; with_reducible exact H) | (have H2_ := (Option.bind_some _ _).symm.trans H; rw [hy237]; with_reducible exact H2_) | (have H2_ := (Option.bind_some _ _).symm.trans H; with_reducible exact H2_) | with_reducible exact H | (rw [hy237]; exact H) | exact H
     have Ny237 := Aside0.mk hy237
     clear hy237
     have H' := Aside0.mk H
     clear H
     try go_wp2
     have n0_ := Aside0.mk (Kd.S_drew HO_229000.out)
     have n1_ := Aside0.mk (blk_drew BK227.out)
     have n2_ := Aside0.mk (blk_drew BK228.out)
     have n3_ := Aside0.mk (IsS107.drew HI0.out)
     have n4_ := Aside0.mk (keep_drew HK.out)
     have n5_ := Aside0.mk (below_drew1 HB.out)
     clear HO_229000; clear BK227; clear BK228; clear HI0; clear HK; clear HB; have HO_229000 := n0_; have BK227 := n1_; have BK228 := n2_; have HI0 := n3_; have HK := n4_; have HB := n5_; clear n0_ n1_ n2_ n3_ n4_ n5_
     refine start_ (n := 8) (S := fun w' => w'.cell? ⟨gb228, 0, none⟩ = some (u229000)) (ds := [7]) #[false, false, false, false, false, false, false, false] (by kernel_rfl) rfl rfl ((blk_cell BK228.out 0).trans rfl) (fun hHeld => ?_); refine with_tabW spec_l2DrawRight.tab6 spec_l2DrawRight.bits6 (fun HT_ HW_ => ?_)
     generalize wr.drew = w12 at HO_229000 BK227 BK228 HI0 HK HB hHeld ⊢
     refine pure_ (i := 0) (N := some 18) (v := ?_) (a' := ?_) #[true, false, false, false, false, false, false, false] rfl rfl (any_of HT_.out (by kernel_rfl)) (fun _ _ _ h => h) (Or.inl ⟨by rfl, ?_⟩) ?_ ?_
     rotate_left
     ·intro w'
      go_simp
      with_reducible rfl
     rotate_left
     ·simp only [Act.put, List.setIfInBounds_toArray, List.set_cons_zero, List.set_cons_succ, i64_w, i32_w]
      rfl
     refine pure_ (i := 2) (N := some 20) (v := ?_) (a' := ?_) #[true, false, true, false, false, false, false, false] rfl rfl (any_of HT_.out (by kernel_rfl)) (fun _ _ _ h => h) (Or.inl ⟨by rfl, ?_⟩) ?_ ?_
     rotate_left
     ·intro w'
      go_simp
      with_reducible rfl
     rotate_left
     ·simp only [Act.put, List.setIfInBounds_toArray, List.set_cons_zero, List.set_cons_succ, i64_w, i32_w]
      rfl
     refine take_ (i := 1) (N := some 19) (v := ?_) (a' := ?_) #[true, true, true, false, false, false, false, false] rfl rfl (take_ofW HT_.out HW_.out (by kernel_rfl)) (fun _ _ _ h => h) (Or.inl ⟨by rfl, ?_⟩) hHeld ?_ ?_
     rotate_left
     ·intro w' s0
      go_simp
      with_reducible rfl
     rotate_left
     ·simp only [Act.put, List.setIfInBounds_toArray, List.set_cons_zero, List.set_cons_succ, i64_w, i32_w]
      rfl
     refine one_ (i := 3) (N := some 21) #[true, true, true, true, false, false, false, false] rfl rfl (one_of HT_.out (by kernel_rfl)) (by decide) (fun K hK => ?_)
     refine goes_ Try.func105 (by kernel_rfl) rfl #[.pointer (some ⟨g, 0, none⟩)] (by rfl) rfl rfl (by (try simp only [List.map_toArray, List.map_cons, List.map_nil]); first | done | rfl | (simp only [List.length_drop, List.length_take]; rfl)) ?_
     with_reducible refine (spec_l2DrawBank.calls k1 g s0_0 x1001_1 x1002_1 t232 t235 t236 w0 _ ?side1 ?side2 A10.out).mono ?_
     (case side1 => exact si HI0.out)
     (case side2 => exact bi HB.out)
     rintro e w13 ⟨v233, rfl, ho0, hi, hb, hk⟩
     refine ⟨_, rfl, ?_⟩
     have n0_ := Aside0.mk (Kd.S_mono (Kd.S_told (Kd.S_oldK (IsS107.apartS (show IsS107 w0 _ g s0_0 x1001_1 x1002_1 from si HI0.out) (ks HO_229000.out) (by decide)) hk) (Kd.R_base ho0)) (fun _ h_ => h_.1))
     have n1_ := Aside0.mk (KeepBut.blk hk (g' := gb227) (o := .cells #[.slice none 0 0] 29 (0, 0)) (kb BK227.out) NB227_0.out (by simp))
     have n2_ := Aside0.mk (KeepBut.blk hk (g' := gb228) (o := .cells #[u229000] 29 (0, 0)) (kb BK228.out) NB228_0.out (by simp))
     have n3_ := Aside0.mk (Kd.R_lower ho0 (keep_size (w := w) (g := g) (row := none) (kp HK.out)))
     have n4_ := Aside0.mk (KeepBut.trans (kp HK.out) hk (.inl rfl))
     have n5_ := Aside0.mk (hb)
     have n6_ := Aside0.mk (hi)
     clear HO_229000; clear BK227; clear BK228; clear HK; clear HB; clear HI0; have HO_229000 := n0_; have BK227 := n1_; have BK228 := n2_; have HO234 := n3_; have HK := n4_; have HB := n5_; have HI0 := n6_; clear n0_ n1_ n2_ n3_ n4_ n5_ n6_; (try clear hb); (try clear hb2); (try clear hk); (try clear hi); (try clear ho0)
     obtain ⟨Ao15, co15, eo15⟩ := Kd.R_slice HO234.out
     (first | subst eo15 | (injection eo15 with f1_ f2_ f3_; have f4_ := f1_.symm; have f5_ := f3_.symm; clear f1_ f2_ f3_; subst f4_; subst f5_))
     refine hK.out _ _ ((blk_cell BK228.out 0).trans rfl) (fun hHeld => ?_)
     clear hK K
     refine norm_ (a' := ?_) ?_ ?_
     rotate_left
     ·show Act.put _ (some 21) _ = _
      simp only [Act.put, List.setIfInBounds_toArray, List.set_cons_zero, List.set_cons_succ, i64_w, i32_w]
      rfl
     refine one_ (i := 4) (N := some 22) #[true, true, true, true, true, false, false, false] rfl rfl (one_of HT_.out (by kernel_rfl)) (by decide) (fun K hK => ?_)
     refine value_ (w1 := ?_) (v := ?_) (by rfl) rfl ?_ ?_
     rotate_left 2
     ·go_simp
      constructor
      ·rfl
      ·rfl
     refine hK.out _ _ ((blk_cell (blk_alloc BK228.out _) 0).trans rfl) (fun hHeld => ?_)
     clear hK K
     refine norm_ (a' := ?_) ?_ ?_
     rotate_left
     ·show Act.put _ (some 22) _ = _
      simp only [Act.put, List.setIfInBounds_toArray, List.set_cons_zero, List.set_cons_succ, i64_w, i32_w]
      rfl
     refine one_ (i := 5) (N := some 23) #[true, true, true, true, true, true, false, false] rfl rfl (one_of HT_.out (by kernel_rfl)) (by decide) (fun K hK => ?_)
     refine Kd.S_append_step (Kd.slice 3 (Kd.int .i64)) w.heap.size (by rfl) (.tmp 19) (.tmp 22) 27 30 (.slice none 0 0) 24 rfl Try.underlying27 info30 rfl (by decide) (by omega) u229000 x229000_1 t232 [.slice Ao15 t232.length co15] (fun _ => True) (fun k_ => some k_ = (.slice Ao15 t232.length co15 : Value).ownBlock) rfl rfl ?aP (fun k_ hk_ => ((Kd.R_mono (ok' := fun k_ => ((fun _ => True)) k_ ∧ some k_ ≠ (u229000 : Value).ownBlock) (Kd.R_apart' (HO234.out) (Kd.S_typed HO_229000.out) (by decide)) (fun k_ hk => ⟨trivial, hk.2⟩))).1 k_ hk_.symm) ?aF ?aO (Below.refl _ _) ?aS ?aL ?_
     (case aP => exact Kd.M_row (Kd.R_mono (Kd.R_tight rfl (Kd.R_mono (ok' := fun k_ => ((fun _ => True)) k_ ∧ some k_ ≠ (u229000 : Value).ownBlock) (Kd.R_apart' (HO234.out) (Kd.S_typed HO_229000.out) (by decide)) (fun k_ hk => ⟨trivial, hk.2⟩))) (fun _ h_ => h_)))
     (case aF => exact (fun _ _ => trivial))
     (case aO => exact (ks (Kd.S_mono HO_229000.out (fun k_ hk => ⟨trivial, fun e_ => hk.2 e_⟩))))
     (case aS => exact (keep_size (w := w) (g := g) (row := none) (kp HK.out)))
     (case aL => have := LMc11.out; omega)
     intro v238 w14 ho hb hg hat
     rw [← Ny237.out] at ho
     have n0_ := Aside0.mk (blk_grown (g := gb227) (o := .cells #[.slice none 0 0] 29 (0, 0)) (kb BK227.out) hg (Kd.S_ne HO_229000.out BK227.out (by decide)))
     have n1_ := Aside0.mk (blk_grown (g := gb228) (o := .cells #[u229000] 29 (0, 0)) (kb BK228.out) hg (Kd.S_ne HO_229000.out BK228.out (by decide)))
     have n2_ := Aside0.mk (IsS107.grown (si HI0.out) hg (IsS107.own_neS HI0.out HO_229000.out (by decide)))
     have n3_ := Aside0.mk (below_weaken (bi HB.out) HL.out hb)
     have n4_ := Aside0.mk (KeepBut.trans (kp HK.out) (KeepBut.of_grown hg g) (Kd.S_base2 HO_229000.out))
     have n5_ := Aside0.mk (ho)
     clear BK227; clear BK228; clear HI0; clear HB; clear HK; clear HO_229000; clear HO234; have BK227 := n0_; have BK228 := n1_; have HI0 := n2_; have HB := n3_; have HK := n4_; have HO239 := n5_; clear n0_ n1_ n2_ n3_ n4_ n5_; clear ho hb hg hat
     obtain ⟨Ao16, co16, eo16⟩ := Kd.S_slice HO239.out
     (first | subst eo16 | (injection eo16 with f1_ f2_ f3_; have f4_ := f1_.symm; have f5_ := f3_.symm; clear f1_ f2_ f3_; subst f4_; subst f5_))
     refine hK.out _ _ ((blk_cell BK228.out 0).trans rfl) (fun hHeld => ?_)
     clear hK K
     refine norm_ (a' := ?_) ?_ ?_
     rotate_left
     ·show Act.put _ (some 23) _ = _
      simp only [Act.put, List.setIfInBounds_toArray, List.set_cons_zero, List.set_cons_succ, i64_w, i32_w]
      rfl
     refine pure_ (i := 6) (N := some 24) (v := ?_) (a' := ?_) #[true, true, true, true, true, true, true, false] rfl rfl (any_of HT_.out (by kernel_rfl)) (fun _ _ _ h => h) (Or.inl ⟨by rfl, ?_⟩) ?_ ?_
     rotate_left
     ·intro w'
      go_simp
      with_reducible rfl
     rotate_left
     ·simp only [Act.put, List.setIfInBounds_toArray, List.set_cons_zero, List.set_cons_succ, i64_w, i32_w]
      rfl
     refine last_ (i := 7) (N := none) #[true, true, true, true, true, true, true, true] rfl rfl (one_of HT_.out (by kernel_rfl)) (by decide) (fun K hK => ?_)
     have hs17 : w14.cell? ⟨gb228, 0, none⟩ = some (u229000) := (blk_cell BK228.out 0).trans rfl
     have hfs17 := blk_frozen BK228.out 0
     have hns17_0 := NB227_228.out
     have hms17_0 := NB228_227.out
     refine skip_ (w1 := ?_) (by rfl) rfl ?_ ?_
     rotate_left
     ·go_simp
      rfl
     refine hK.out _ _ ?_
     clear hK K
     refine done_ (done_of HT_.out (by kernel_rfl)) ?_
     try go_wp2
     go_roundg k1
     case measure => have := HK1.out; omega
     case rel => exact ⟨(wrap64 (x5_1 + 1)), (t235), (t236), (y237), (.slice Ao16 y237.length co16), (by first | rfl | (simp; done) | (simp [*]; done)), H', ⟨by have := HK1.out; omega⟩, ⟨ks (Kd.S_mono (Kd.S_far (p := ⟨gb228, 0, none⟩) (Kd.S_types HO239.out BK228.out (by decide)) (fun _ hk => hk.2) (.slice Ao16 y237.length co16)) (fun _ hk => trivial))⟩, ⟨kf BK227.out⟩, ⟨kt BK228.out⟩, ⟨si HI0.out⟩, ⟨kp HK.out⟩, ⟨bi HB.out⟩⟩
    ·rw [if_neg c11] at H
     exact absurd H (by simp)
   ·rw [if_neg c9] at H
    have c9b0 : decide (x5_1 < (wrap64 (1 + t229))) = false := decide_eq_false c9
    clear c9
    replace H := Option.bind_eq_some_iff.mp H
    obtain ⟨⟨t240, t241, t242⟩, A180, H⟩ := H
    replace H : (if t240 = true then (if 0 ≤ (wrap64 ((wrap64 (1 + t229)) - 1)) then (if (wrap64 ((wrap64 (1 + t229)) - 1)) < (x229000_1.length : Int) then (if (rd_L3 x229000_1 (wrap64 ((wrap64 (1 + t229)) - 1))).length = 256 then (some (lastSix x229000_1 (wrap64 ((wrap64 (1 + t229)) - 1)), t241, t242)) else (none)) else (none)) else (none)) else ((spec_l2Main.f s0_0 t241 t242).bind fun bt244 => ((spec_Assemble.f k1 bt244.1).bind fun bt247 => (if (bt247.1.length : Int) = 256 then (if 0 ≤ (wrap64 ((wrap64 (1 + t229)) - 1)) then (if (wrap64 ((wrap64 (1 + t229)) - 1)) < (x229000_1.length : Int) then (if (rd_L3 (x229000_1.set ((wrap64 ((wrap64 (1 + t229)) - 1)) : Int).toNat bt247.1) (wrap64 ((wrap64 (1 + t229)) - 1))).length = 256 then (some (lastSix (x229000_1.set ((wrap64 ((wrap64 (1 + t229)) - 1)) : Int).toNat bt247.1) (wrap64 ((wrap64 (1 + t229)) - 1)), bt244.2.1, bt244.2.2)) else (none)) else (none)) else (none)) else (if 0 ≤ (wrap64 ((wrap64 (1 + t229)) - 1)) then (if (wrap64 ((wrap64 (1 + t229)) - 1)) < (x229000_1.length : Int) then (if (rd_L3 x229000_1 (wrap64 ((wrap64 (1 + t229)) - 1))).length = 256 then (some (lastSix x229000_1 (wrap64 ((wrap64 (1 + t229)) - 1)), bt244.2.1, bt244.2.2)) else (none)) else (none)) else (none)))))) = some (r1, r2, r3) := H
    have A18 := Aside0.mk A180
    clear A180
    by_cases c19 : t240 = true
    ·subst c19
     have H1 : (if 0 ≤ (wrap64 ((wrap64 (1 + t229)) - 1)) then (if (wrap64 ((wrap64 (1 + t229)) - 1)) < (x229000_1.length : Int) then (if (rd_L3 x229000_1 (wrap64 ((wrap64 (1 + t229)) - 1))).length = 256 then (some (lastSix x229000_1 (wrap64 ((wrap64 (1 + t229)) - 1)), t241, t242)) else (none)) else (none)) else (none)) = some (r1, r2, r3) := by rw [if_pos rfl] at H; exact H
     clear H
     have H := H1
     clear H1
     obtain ⟨ji20, hji20⟩ : ∃ j_ : Int, (wrap64 ((wrap64 (1 + t229)) - 1)) = j_ := ⟨_, rfl⟩
     replace H : (if 0 ≤ (ji20) then (if (ji20) < (x229000_1.length : Int) then (if (rd_L3 x229000_1 (ji20)).length = 256 then (some (lastSix x229000_1 (ji20), t241, t242)) else (none)) else (none)) else (none)) = some (r1, r2, r3) := by first | (rw [hji20] at H; exact H) | (simp only [hji20] at H ⊢; exact H)
     (try rw [hji20] at A18)
     have hji20w : (IntKind.i64.wrap ((wrap64 (1 + t229)) - 1)) = ji20 := (i64_w _).trans hji20
     by_cases c21 : 0 ≤ (ji20)
     ·rw [if_pos c21] at H
      have c21b0 : decide (0 ≤ (ji20)) = true := decide_eq_true c21
      clear c21
      by_cases c22 : (ji20) < (x229000_1.length : Int)
      ·rw [if_pos c22] at H
       have c22b0 : decide ((ji20) < (x229000_1.length : Int)) = true := decide_eq_true c22
       clear c22
       by_cases c256 : (rd_L3 x229000_1 (ji20)).length = 256
       rotate_left
       ·rw [if_neg c256] at H
        exact absurd H (by simp)
       rw [if_pos c256] at H
       have C256 := Aside0.mk c256
       clear c256
       simp only [Option.some.injEq, Prod.mk.injEq] at H
       obtain ⟨rfl, rfl, rfl⟩ := H
       go_upto_region 12 with (first | ((with_reducible refine gate_callee (f := 58) rfl ?_); refine goesM_ (some 26) rfl rfl Try.func58 #[.pointer (some ⟨g, 0, none⟩), .int .i64 4] ?_; (with_reducible refine (spec_l1Once.calls g s0_0 x1001_1 x1002_1 4 true t241 t242 w0 _ ?side1 ?side2 A18.out).mono ?_); (case side1 => exact si HI0.out); (case side2 => exact bi HB.out); rintro e w23 ⟨rfl, hi, hb, hk⟩; refine ⟨_, rfl, ?_⟩; have n0_ := Aside0.mk (Kd.S_mono (Kd.S_keep (IsS107.apartS (show IsS107 w0 _ g s0_0 x1001_1 x1002_1 from si HI0.out) (ks HO_229000.out) (by decide)) hk (fun _ h => h.2)) (fun _ h => h.1)); have n1_ := Aside0.mk (KeepBut.blk hk (g' := gb227) (o := .cells #[.slice none 0 0] 29 (0, 0)) (kb BK227.out) NB227_0.out (by simp)); have n2_ := Aside0.mk (KeepBut.blk hk (g' := gb228) (o := .cells #[u229000] 29 (0, 0)) (kb BK228.out) NB228_0.out (by simp)); have n3_ := Aside0.mk (KeepBut.trans (kp HK.out) hk (.inl rfl)); have n4_ := Aside0.mk (hb); have n5_ := Aside0.mk (hi); clear HO_229000; clear BK227; clear BK228; clear HK; clear HB; clear HI0; have HO_229000 := n0_; have BK227 := n1_; have BK228 := n2_; have HK := n3_; have HB := n4_; have HI0 := n5_; clear n0_ n1_ n2_ n3_ n4_ n5_; (try clear hb); (try clear hb2); (try clear hk); (try clear hi); have hnb24 := NB228_227.out; have hnc24 := NB227_228.out; have hnb25 := NB228_0.out; have hnc25 := NB0_228.out; have hcz26_0 : w23.cell? ⟨gb228, 0, none⟩ = some (u229000) := (blk_cell BK228.out 0).trans rfl; have hfz26_0 := blk_frozen BK228.out 0; obtain ⟨Ao27, co27, eo27⟩ := Kd.S_slice HO_229000.out; subst eo27; have p243 : 0 ≤ ((ji20) : Int) := dt; have q243 : (ji20) < (x229000_1.length : Int) := dt; obtain ⟨ad243, A243_0, c243_0, e243, hx243_0, hl243_0, hi243_0⟩ := at_L3 (Kd.S_reads' HO_229000.out).2.2 (ji20) p243 q243; cases e243; obtain ⟨ce243, hce243, hMe243, hcc243⟩ := Kd.S_get HO_229000.out [] (ji20) p243 (by first | exact q243 | exact dt | (have e_ := (Kd.S_reads' HO_229000.out).1; omega)); obtain ⟨ve243_0, rfl, ge243_0⟩ := hMe243; have hv243_0 := hcc243 0 _ rfl; rw [Nat.add_zero, show ((Kd.slice 3 (Kd.int .i64))).sz = 1 from rfl, Nat.mul_one] at hv243_0; replace hv243_0 := Option.some.inj (hv243_0.symm.trans hx243_0); rw [hv243_0] at ge243_0; have HL243_0 := Aside0.mk (show Kd.R (Kd.int .i64) 3 _ _ _ _ (rd_L3 x229000_1 (ji20)) from ge243_0); clear hv243_0 ge243_0; clear hcc243 hce243; have HR243_0 := Aside0.mk hi243_0; have HC243_0 := Aside0.mk hl243_0; clear hi243_0 hl243_0; replace p243 := eq_true p243; replace q243 := eq_true q243; have hnb28 := NB227_0.out; have hnc28 := NB0_227.out; have hcz29_0 : w23.cell? ⟨gb227, 0, none⟩ = some (.slice none 0 0) := (blk_cell BK227.out 0).trans rfl; have hfz29_0 := blk_frozen BK227.out 0))
       have hji_ : (0 : Int) ≤ ji20 := of_decide_eq_true (by assumption)
       have hjl_ : ji20 < (x229000_1.length : Int) := by first | exact of_decide_eq_true (by assumption) | (rw [Ny0.out, List.length_set]; exact of_decide_eq_true (by assumption))
       obtain ⟨gl, eA_, hgl, ⟨clr, hbl⟩, hcl, hS6⟩ := six_ok HO_229000.out ji20 hji_ hjl_ (by first | exact hx243_0 | (rw [add_plain]; exact hx243_0)) C256.out
       subst eA_
       have GL := Aside0.mk hgl
       have HBL := Aside0.mk hbl
       have HS6 := Aside0.mk hS6
       have HLN := Aside0.mk C256.out
       have z0 := (hcl 250 (by omega)).1
       have z1 := (hcl 251 (by omega)).1
       have z2 := (hcl 252 (by omega)).1
       have z3 := (hcl 253 (by omega)).1
       have z4 := (hcl 254 (by omega)).1
       have z5 := (hcl 255 (by omega)).1
       have f0 := (hcl 250 (by omega)).2
       have f1 := (hcl 251 (by omega)).2
       have f2 := (hcl 252 (by omega)).2
       have f3 := (hcl 253 (by omega)).2
       have f4 := (hcl 254 (by omega)).2
       have f5 := (hcl 255 (by omega)).2
       have b0 : ((250 : Int) < ((rd_L3 x229000_1 ji20).length : Int)) = True := eq_true (by have := C256.out; omega)
       have b1 : ((251 : Int) < ((rd_L3 x229000_1 ji20).length : Int)) = True := eq_true (by have := C256.out; omega)
       have b2 : ((252 : Int) < ((rd_L3 x229000_1 ji20).length : Int)) = True := eq_true (by have := C256.out; omega)
       have b3 : ((253 : Int) < ((rd_L3 x229000_1 ji20).length : Int)) = True := eq_true (by have := C256.out; omega)
       have b4 : ((254 : Int) < ((rd_L3 x229000_1 ji20).length : Int)) = True := eq_true (by have := C256.out; omega)
       have b5 : ((255 : Int) < ((rd_L3 x229000_1 ji20).length : Int)) = True := eq_true (by have := C256.out; omega)
       have n1 : gl ≠ gb227 := blk_ne hbl BK227.out (by decide)
       have n2 : gb227 ≠ gl := fun e => n1 e.symm
       have n3 : gl ≠ gb228 := blk_ne hbl BK228.out (by decide)
       have n4 : gb228 ≠ gl := fun e => n3 e.symm
       clear hcl hbl hgl hS6 hji_ hjl_
       go_wp2
       refine bodyPost_ret (results_cell_row rfl _ _ gb227 29 #[.slice (some ad243) x229000_1.length co27] (0, 0) _ rfl (blk_put (cs := #[.slice none 0 0]) (six_blk BK227.out n2) 0 _ rfl) Try.underlying29 rfl (by kernel_rfl)) rfl ?_
       exact ⟨_, rfl, Kd.S_mono (Kd.S_far (p := ⟨gb227, 0, none⟩) (Kd.S_types HS6.out (six_blk BK227.out n2) (by decide)) (fun _ hk => hk.2) (.slice (some ad243) x229000_1.length co27)) (fun _ hk => trivial), (six_state HI0.out (IsS107.ne_blk HI0.out HBL.out (by decide))).far (p := ⟨gb227, 0, none⟩) NB0_227.out _, below_set (six_below HB.out (Nat.le_trans HW0.out GL.out)) GE227.out, keep_far (p := ⟨gb227, 0, none⟩) (six_keep HK.out GL.out) GW227.out _⟩
      ·rw [if_neg c22] at H
       exact absurd H (by simp)
     ·rw [if_neg c21] at H
      exact absurd H (by simp)
    ·replace c19 := Bool.eq_false_iff.mpr c19
     subst c19
     have H1 : ((spec_l2Main.f s0_0 t241 t242).bind fun bt244 => ((spec_Assemble.f k1 bt244.1).bind fun bt247 => (if (bt247.1.length : Int) = 256 then (if 0 ≤ (wrap64 ((wrap64 (1 + t229)) - 1)) then (if (wrap64 ((wrap64 (1 + t229)) - 1)) < (x229000_1.length : Int) then (if (rd_L3 (x229000_1.set ((wrap64 ((wrap64 (1 + t229)) - 1)) : Int).toNat bt247.1) (wrap64 ((wrap64 (1 + t229)) - 1))).length = 256 then (some (lastSix (x229000_1.set ((wrap64 ((wrap64 (1 + t229)) - 1)) : Int).toNat bt247.1) (wrap64 ((wrap64 (1 + t229)) - 1)), bt244.2.1, bt244.2.2)) else (none)) else (none)) else (none)) else (if 0 ≤ (wrap64 ((wrap64 (1 + t229)) - 1)) then (if (wrap64 ((wrap64 (1 + t229)) - 1)) < (x229000_1.length : Int) then (if (rd_L3 x229000_1 (wrap64 ((wrap64 (1 + t229)) - 1))).length = 256 then (some (lastSix x229000_1 (wrap64 ((wrap64 (1 + t229)) - 1)), bt244.2.1, bt244.2.2)) else (none)) else (none)) else (none))))) = some (r1, r2, r3) := by rw [if_neg (show ¬ (false = true) by decide)] at H; exact H
     clear H
     have H := H1
     clear H1
     replace H := Option.bind_eq_some_iff.mp H
     obtain ⟨⟨t244, t245, t246⟩, A300, H⟩ := H
     replace H : ((spec_Assemble.f k1 t244).bind fun bt247 => (if (bt247.1.length : Int) = 256 then (if 0 ≤ (wrap64 ((wrap64 (1 + t229)) - 1)) then (if (wrap64 ((wrap64 (1 + t229)) - 1)) < (x229000_1.length : Int) then (if (rd_L3 (x229000_1.set ((wrap64 ((wrap64 (1 + t229)) - 1)) : Int).toNat bt247.1) (wrap64 ((wrap64 (1 + t229)) - 1))).length = 256 then (some (lastSix (x229000_1.set ((wrap64 ((wrap64 (1 + t229)) - 1)) : Int).toNat bt247.1) (wrap64 ((wrap64 (1 + t229)) - 1)), t245, t246)) else (none)) else (none)) else (none)) else (if 0 ≤ (wrap64 ((wrap64 (1 + t229)) - 1)) then (if (wrap64 ((wrap64 (1 + t229)) - 1)) < (x229000_1.length : Int) then (if (rd_L3 x229000_1 (wrap64 ((wrap64 (1 + t229)) - 1))).length = 256 then (some (lastSix x229000_1 (wrap64 ((wrap64 (1 + t229)) - 1)), t245, t246)) else (none)) else (none)) else (none)))) = some (r1, r2, r3) := H
     have A30 := Aside0.mk A300
     clear A300
     replace H := Option.bind_eq_some_iff.mp H
     obtain ⟨⟨t247, t248⟩, A310, H⟩ := H
     replace H : (if (t247.length : Int) = 256 then (if 0 ≤ (wrap64 ((wrap64 (1 + t229)) - 1)) then (if (wrap64 ((wrap64 (1 + t229)) - 1)) < (x229000_1.length : Int) then (if (rd_L3 (x229000_1.set ((wrap64 ((wrap64 (1 + t229)) - 1)) : Int).toNat t247) (wrap64 ((wrap64 (1 + t229)) - 1))).length = 256 then (some (lastSix (x229000_1.set ((wrap64 ((wrap64 (1 + t229)) - 1)) : Int).toNat t247) (wrap64 ((wrap64 (1 + t229)) - 1)), t245, t246)) else (none)) else (none)) else (none)) else (if 0 ≤ (wrap64 ((wrap64 (1 + t229)) - 1)) then (if (wrap64 ((wrap64 (1 + t229)) - 1)) < (x229000_1.length : Int) then (if (rd_L3 x229000_1 (wrap64 ((wrap64 (1 + t229)) - 1))).length = 256 then (some (lastSix x229000_1 (wrap64 ((wrap64 (1 + t229)) - 1)), t245, t246)) else (none)) else (none)) else (none))) = some (r1, r2, r3) := H
     have A31 := Aside0.mk A310
     clear A310
     by_cases c32 : (t247.length : Int) = 256
     ·rw [if_pos c32] at H
      have c32b0 : ((t247.length : Int) == 256) = true := beq_iff_eq.mpr c32
      have c32b1 : ((t247.length : Int) != 256) = false := bne_eq_false_iff_eq.mpr c32
      clear c32
      obtain ⟨ji33, hji33⟩ : ∃ j_ : Int, (wrap64 ((wrap64 (1 + t229)) - 1)) = j_ := ⟨_, rfl⟩
      replace H : (if 0 ≤ (ji33) then (if (ji33) < (x229000_1.length : Int) then (if (rd_L3 (x229000_1.set ((ji33) : Int).toNat t247) (ji33)).length = 256 then (some (lastSix (x229000_1.set ((ji33) : Int).toNat t247) (ji33), t245, t246)) else (none)) else (none)) else (none)) = some (r1, r2, r3) := by first | (rw [hji33] at H; exact H) | (simp only [hji33] at H ⊢; exact H)
      (try rw [hji33] at A18)
      (try rw [hji33] at A30)
      (try rw [hji33] at A31)
      have hji33w : (IntKind.i64.wrap ((wrap64 (1 + t229)) - 1)) = ji33 := (i64_w _).trans hji33
      by_cases c34 : 0 ≤ (ji33)
      ·rw [if_pos c34] at H
       have c34b0 : decide (0 ≤ (ji33)) = true := decide_eq_true c34
       clear c34
       by_cases c35 : (ji33) < (x229000_1.length : Int)
       ·rw [if_pos c35] at H
        have c35b0 : decide ((ji33) < (x229000_1.length : Int)) = true := decide_eq_true c35
        clear c35
        obtain ⟨y251, hy251⟩ : ∃ y_ : List (List Int), y_ = (x229000_1.set ((ji33) : Int).toNat t247) := ⟨_, rfl⟩
        replace H : (if (rd_L3 y251 (ji33)).length = 256 then (some (lastSix y251 (ji33), t245, t246)) else (none)) = some (r1, r2, r3) := by first | (rw [hy251]; with_reducible exact H) | (have H2_ := (Option.bind_some _ _).symm.trans H; rw [hy251]; with_reducible exact H2_) | (have H2_ := (Option.bind_some _ _).symm.trans H; with_reducible exact H2_) | with_reducible exact H | (rw [hy251]; exact H) | exact H
        have Ny251 := Aside0.mk hy251
        clear hy251
        by_cases c256 : (rd_L3 y251 (ji33)).length = 256
        rotate_left
        ·rw [if_neg c256] at H
         exact absurd H (by simp)
        rw [if_pos c256] at H
        have C256 := Aside0.mk c256
        clear c256
        simp only [Option.some.injEq, Prod.mk.injEq] at H
        obtain ⟨rfl, rfl, rfl⟩ := H
        go_upto_region 12 with (first | ((with_reducible refine gate_callee (f := 58) rfl ?_); refine goesM_ (some 26) rfl rfl Try.func58 #[.pointer (some ⟨g, 0, none⟩), .int .i64 4] ?_; (with_reducible refine (spec_l1Once.calls g s0_0 x1001_1 x1002_1 4 false t241 t242 w0 _ ?side1 ?side2 A18.out).mono ?_); (case side1 => exact si HI0.out); (case side2 => exact bi HB.out); rintro e w37 ⟨rfl, hi, hb, hk⟩; refine ⟨_, rfl, ?_⟩; have n0_ := Aside0.mk (Kd.S_mono (Kd.S_keep (IsS107.apartS (show IsS107 w0 _ g s0_0 x1001_1 x1002_1 from si HI0.out) (ks HO_229000.out) (by decide)) hk (fun _ h => h.2)) (fun _ h => h.1)); have n1_ := Aside0.mk (KeepBut.blk hk (g' := gb227) (o := .cells #[.slice none 0 0] 29 (0, 0)) (kb BK227.out) NB227_0.out (by simp)); have n2_ := Aside0.mk (KeepBut.blk hk (g' := gb228) (o := .cells #[u229000] 29 (0, 0)) (kb BK228.out) NB228_0.out (by simp)); have n3_ := Aside0.mk (KeepBut.trans (kp HK.out) hk (.inl rfl)); have n4_ := Aside0.mk (hb); have n5_ := Aside0.mk (hi); clear HO_229000; clear BK227; clear BK228; clear HK; clear HB; clear HI0; have HO_229000 := n0_; have BK227 := n1_; have BK228 := n2_; have HK := n3_; have HB := n4_; have HI0 := n5_; clear n0_ n1_ n2_ n3_ n4_ n5_; (try clear hb); (try clear hb2); (try clear hk); (try clear hi)) | ((with_reducible refine gate_callee (f := 107) rfl ?_); refine goesM_ (some 30) rfl rfl Try.func107 #[.pointer (some ⟨g, 0, none⟩)] ?_; (with_reducible refine (spec_l2Main.calls g s0_0 t241 t242 t244 t245 t246 w0 _ ?side1 ?side2 A30.out).mono ?_); (case side1 => exact si HI0.out); (case side2 => exact bi HB.out); rintro e w38 ⟨rfl, hi, hb, hk⟩; refine ⟨_, rfl, ?_⟩; have n0_ := Aside0.mk (Kd.S_mono (Kd.S_keep (IsS107.apartS (show IsS107 w0 _ g s0_0 t241 t242 from si HI0.out) (ks HO_229000.out) (by decide)) hk (fun _ h => h.2)) (fun _ h => h.1)); have n1_ := Aside0.mk (KeepBut.blk hk (g' := gb227) (o := .cells #[.slice none 0 0] 29 (0, 0)) (kb BK227.out) NB227_0.out (by simp)); have n2_ := Aside0.mk (KeepBut.blk hk (g' := gb228) (o := .cells #[u229000] 29 (0, 0)) (kb BK228.out) NB228_0.out (by simp)); have n3_ := Aside0.mk (KeepBut.trans (kp HK.out) hk (.inl rfl)); have n4_ := Aside0.mk (hb); have n5_ := Aside0.mk (hi); clear HO_229000; clear BK227; clear BK228; clear HK; clear HB; clear HI0; have HO_229000 := n0_; have BK227 := n1_; have BK228 := n2_; have HK := n3_; have HB := n4_; have HI0 := n5_; clear n0_ n1_ n2_ n3_ n4_ n5_; (try clear hb); (try clear hb2); (try clear hk); (try clear hi)) | ((with_reducible refine gate_callee (f := 106) rfl ?_); refine goesM_ (some 31) rfl rfl Try.func106 #[.string t244] ?_; (with_reducible refine (spec_Assemble.calls k1 t244 t247 t248 _ A31.out).mono ?_); rintro e w39 ⟨v249, rfl, ho0, hb⟩; refine ⟨_, rfl, ?_⟩; have n0_ := Aside0.mk (Kd.S_elder' (ks HO_229000.out) (Kd.R_base ho0) hb); have n1_ := Aside0.mk (Kd.R_lower ho0 (keep_size (w := w) (g := g) (row := none) (kp HK.out))); have n2_ := Aside0.mk (blk_below (g := gb227) (o := .cells #[.slice none 0 0] 29 (0, 0)) (kb BK227.out) hb); have n3_ := Aside0.mk (blk_below (g := gb228) (o := .cells #[u229000] 29 (0, 0)) (kb BK228.out) hb); have n4_ := Aside0.mk (IsS107.below (si HI0.out) hb); have n5_ := Aside0.mk (KeepBut.trans (kp HK.out) (KeepBut.of_below hb g none) (.inl rfl)); have n6_ := Aside0.mk (below_step (bi HB.out) hb); clear HO_229000; clear BK227; clear BK228; clear HI0; clear HK; clear HB; have HO_229000 := n0_; have HO250 := n1_; have BK227 := n2_; have BK228 := n3_; have HI0 := n4_; have HK := n5_; have HB := n6_; clear n0_ n1_ n2_ n3_ n4_ n5_ n6_; (try clear hb); (try clear hb2); (try clear hk); (try clear hi); (try clear ho0); obtain ⟨Ao40, co40, eo40⟩ := Kd.R_slice HO250.out; subst eo40; have hnb41 := NB228_227.out; have hnc41 := NB227_228.out; have hnb42 := NB228_0.out; have hnc42 := NB0_228.out; have hcz43_0 : w39.cell? ⟨gb228, 0, none⟩ = some (u229000) := (blk_cell BK228.out 0).trans rfl; have hfz43_0 := blk_frozen BK228.out 0; have p36 : 0 ≤ ((ji33) : Int) := dt; have q36 : ((ji33) : Int) < ((x229000_1.length : Int) : Int) := dt; obtain ⟨go36, co36, eo36, gb36, gl36, cl36, HG36⟩ := Kd.S_form HO_229000.out (by omega); (first | cases eo36 | (injection eo36 with ea_ en_ ec_; (first | subst ea_ | (injection ea_ with ea_; subst ea_)); subst ec_; clear en_)); have GB36 := Aside0.mk gb36; have GG36 := Aside0.mk HG36; clear gb36 gl36 HG36; obtain ⟨_, ce36, hcl36, hM36, hcc36, hfr36, _, _⟩ := Kd.S_elem HO_229000.out [] ((ji33) : Int) p36 q36; obtain ⟨ve36_0, rfl, ge36_0⟩ := hM36; have hx36_0 := hcc36 0 _ rfl; have hf36_0 := hfr36 0; (try simp only [show ((Kd.slice 3 (Kd.int .i64))).sz = 1 from rfl, Nat.mul_one, Nat.add_zero] at hx36_0); (try simp only [show ((Kd.slice 3 (Kd.int .i64))).sz = 1 from rfl, Nat.mul_one, Nat.add_zero] at hf36_0); (try clear hM36); clear hcl36 hcc36 hfr36; replace p36 := eq_true p36; replace q36 := eq_true q36; have n_ := Aside0.mk (Kd.S_mono (ok' := (fun k_ => some k_ ≠ (.slice Ao40 t247.length co40 : Value).ownBlock)) HO_229000.out (fun k_ hk => hk.2)); clear HO_229000; have HO_229000 := n_; clear n_; have HX44 := Aside0.mk (show Kd.S (Kd.slice 3 (Kd.int .i64)) 30 w39 w.heap.size (fun k_ => ((fun _ => True)) k_ ∧ ¬ ((fun k_ => some k_ = (.slice Ao40 t247.length co40 : Value).ownBlock)) k_) (.slice (some ⟨go36, 0, none⟩) x229000_1.length co36) x229000_1 from (ks (Kd.S_mono HO_229000.out (fun k_ hk => ⟨trivial, fun e_ => hk e_⟩)))); obtain ⟨oki44, ce44, hcl44, hM44, hcc44, hfr44, hoki44, hH44⟩ := Kd.S_elem HX44.out [] ((ji33) : Int) dt (by have h_ : ((ji33) : Int) < ((x229000_1.length : Int) : Int) := dt; first | exact h_ | (have e_ := (Kd.S_reads' HO_229000.out).1; omega) | simpa using h_); obtain ⟨ve44_0, rfl, ge44_0⟩ := hM44; have HP44 := Kd.S_seg hH44 dt (by have h_ : ((ji33) : Int) < ((x229000_1.length : Int) : Int) := dt; first | exact h_ | (have e_ := (Kd.S_reads' HO_229000.out).1; omega) | simpa using h_) (seg := [.slice Ao40 t247.length co40]) (j := 0) (show 1 ≤ 1 from by decide) (x' := t247) (Kd.M_row (Kd.R_mono (Kd.R_tight rfl (Kd.R_mono (ok' := fun k_ => ((fun _ => True)) k_ ∧ k_ ≠ go36) (Kd.R_apart' (HO250.out) (Kd.S_typed HO_229000.out) (by decide)) (fun k_ hk => ⟨trivial, fun e_ => (hk.2) (by rw [e_]; rfl)⟩))) (fun _ h_ => Or.inr (h_)))) (fun _ hk => hk) (fun k_ hk_ => ((Kd.R_mono (ok' := fun k_ => ((fun _ => True)) k_ ∧ k_ ≠ go36) (Kd.R_apart' (HO250.out) (Kd.S_typed HO_229000.out) (by decide)) (fun k_ hk => ⟨trivial, fun e_ => (hk.2) (by rw [e_]; rfl)⟩))).1 k_ hk_.symm); have hx44_0 := hcc44 0 _ rfl; (try simp only [show ((Kd.slice 3 (Kd.int .i64))).sz = 1 from rfl, Nat.mul_one, Nat.add_zero] at hx44_0); have hf44_0 := hfr44 0; (try simp only [show ((Kd.slice 3 (Kd.int .i64))).sz = 1 from rfl, Nat.mul_one, Nat.add_zero] at hf44_0); (try clear hM44); clear hcl44 hcc44 hfr44 hoki44 hH44; (try simp only [show ((Kd.slice 3 (Kd.int .i64))).sz = 1 from rfl, Nat.mul_one, Nat.add_zero] at HP44)) | ((with_reducible refine gate_store (t := 30) (p := 42) rfl ?_); refine store_event (t := 30) (p := 42) (v := ?vo_w45) (w1 := (w39.setCell ⟨go36, ((ji33) : Int).toNat, none⟩ (.slice Ao40 t247.length co40))) ?hg ?ho ?hn ?hr ?_; (case ho => rfl); (case hg => rfl); (case hn => rfl); (case hr => first | (go_simp; done) | (go_simp; rfl)); intro w45 hw; have hg : w39.grownBy w45 (some go36) := (by rw [hw]; exact HP44.2); have hp_ : Kd.S (Kd.slice 3 (Kd.int .i64)) 30 w45 w.heap.size (fun _ => True) (.slice (some ⟨go36, 0, none⟩) x229000_1.length co36) y251 := (by rw [hw, Ny251.out]; exact HP44.1); clear HP44; have n0_ := Aside0.mk (hp_); have n1_ := Aside0.mk (blk_grown (g := gb227) (o := .cells #[.slice none 0 0] 29 (0, 0)) (kb BK227.out) hg (Kd.S_ne HO_229000.out BK227.out (by decide))); have n2_ := Aside0.mk (blk_grown (g := gb228) (o := .cells #[.slice (some ⟨go36, 0, none⟩) x229000_1.length co36] 29 (0, 0)) (kb BK228.out) hg (Kd.S_ne HO_229000.out BK228.out (by decide))); have n3_ := Aside0.mk (IsS107.grown (si HI0.out) hg (IsS107.own_neS HI0.out HO_229000.out (by decide))); have n4_ := Aside0.mk ((by rw [hw]; exact below_set (HB.out) (Nat.le_trans HL.out GB36.out) : Below w0.heap.size w0 w45)); have n5_ := Aside0.mk (KeepBut.trans (kp HK.out) (KeepBut.of_grown hg g) (Kd.S_base2 HO_229000.out)); clear HO_229000; clear BK227; clear BK228; clear HI0; clear HB; clear HK; clear HO250; have HO_229000 := n0_; have BK227 := n1_; have BK228 := n2_; have HI0 := n3_; have HB := n4_; have HK := n5_; clear n0_ n1_ n2_ n3_ n4_ n5_; clear hg hw hp_; have hcz46_0 : w45.cell? ⟨gb228, 0, none⟩ = some (.slice (some ⟨go36, 0, none⟩) x229000_1.length co36) := (blk_cell BK228.out 0).trans rfl; have hfz46_0 := blk_frozen BK228.out 0; have p252 : 0 ≤ ((ji33) : Int) := dt; have q252 : (ji33) < (y251.length : Int) := (by have h_ : ((ji33) : Int) < ((x229000_1.length : Int) : Int) := dt; first | (have e_ := (Kd.S_reads' HO_229000.out).1; omega) | simpa only [Ny251.out, List.length_set] using h_); have ql252 : (((ji33) : Int) < ((x229000_1.length : Int) : Int)) = True := eq_true dt; obtain ⟨ad252, A252_0, c252_0, e252, hx252_0, hl252_0, hi252_0⟩ := at_L3 (Kd.S_reads' HO_229000.out).2.2 (ji33) p252 q252; obtain rfl : (⟨go36, 0, none⟩ : Addr) = ad252 := (by injection e252); obtain ⟨ce252, hce252, hMe252, hcc252⟩ := Kd.S_get HO_229000.out [] (ji33) p252 (by first | exact q252 | exact dt | (have e_ := (Kd.S_reads' HO_229000.out).1; omega)); obtain ⟨ve252_0, rfl, ge252_0⟩ := hMe252; have hv252_0 := hcc252 0 _ rfl; rw [Nat.add_zero, show ((Kd.slice 3 (Kd.int .i64))).sz = 1 from rfl, Nat.mul_one] at hv252_0; replace hv252_0 := Option.some.inj (hv252_0.symm.trans hx252_0); rw [hv252_0] at ge252_0; have HL252_0 := Aside0.mk (show Kd.R (Kd.int .i64) 3 _ _ _ _ (rd_L3 y251 (ji33)) from ge252_0); clear hv252_0 ge252_0; clear hcc252 hce252; (first | simp only [add_plain] at hx252_0 | simp only [add_at] at hx252_0 | simp only [Addr.add, Nat.zero_add] at hx252_0 | skip); have HR252_0 := Aside0.mk hi252_0; have HC252_0 := Aside0.mk hl252_0; clear hi252_0 hl252_0; replace p252 := eq_true p252; replace q252 := eq_true q252; have hnb47 := NB227_0.out; have hnc47 := NB0_227.out; have hcz48_0 : w45.cell? ⟨gb227, 0, none⟩ = some (.slice none 0 0) := (blk_cell BK227.out 0).trans rfl; have hfz48_0 := blk_frozen BK227.out 0))
        have hji_ : (0 : Int) ≤ ji33 := of_decide_eq_true (by assumption)
        have hjl_ : ji33 < (y251.length : Int) := by first | exact of_decide_eq_true (by assumption) | (rw [Ny251.out, List.length_set]; exact of_decide_eq_true (by assumption))
        obtain ⟨gl, eA_, hgl, ⟨clr, hbl⟩, hcl, hS6⟩ := six_ok HO_229000.out ji33 hji_ hjl_ (by first | exact hx252_0 | (rw [add_plain]; exact hx252_0)) C256.out
        subst eA_
        have GL := Aside0.mk hgl
        have HBL := Aside0.mk hbl
        have HS6 := Aside0.mk hS6
        have HLN := Aside0.mk C256.out
        have z0 := (hcl 250 (by omega)).1
        have z1 := (hcl 251 (by omega)).1
        have z2 := (hcl 252 (by omega)).1
        have z3 := (hcl 253 (by omega)).1
        have z4 := (hcl 254 (by omega)).1
        have z5 := (hcl 255 (by omega)).1
        have f0 := (hcl 250 (by omega)).2
        have f1 := (hcl 251 (by omega)).2
        have f2 := (hcl 252 (by omega)).2
        have f3 := (hcl 253 (by omega)).2
        have f4 := (hcl 254 (by omega)).2
        have f5 := (hcl 255 (by omega)).2
        have b0 : ((250 : Int) < ((rd_L3 y251 ji33).length : Int)) = True := eq_true (by have := C256.out; omega)
        have b1 : ((251 : Int) < ((rd_L3 y251 ji33).length : Int)) = True := eq_true (by have := C256.out; omega)
        have b2 : ((252 : Int) < ((rd_L3 y251 ji33).length : Int)) = True := eq_true (by have := C256.out; omega)
        have b3 : ((253 : Int) < ((rd_L3 y251 ji33).length : Int)) = True := eq_true (by have := C256.out; omega)
        have b4 : ((254 : Int) < ((rd_L3 y251 ji33).length : Int)) = True := eq_true (by have := C256.out; omega)
        have b5 : ((255 : Int) < ((rd_L3 y251 ji33).length : Int)) = True := eq_true (by have := C256.out; omega)
        have n1 : gl ≠ gb227 := blk_ne hbl BK227.out (by decide)
        have n2 : gb227 ≠ gl := fun e => n1 e.symm
        have n3 : gl ≠ gb228 := blk_ne hbl BK228.out (by decide)
        have n4 : gb228 ≠ gl := fun e => n3 e.symm
        clear hcl hbl hgl hS6 hji_ hjl_
        go_wp2
        refine bodyPost_ret (results_cell_row rfl _ _ gb227 29 #[.slice (some ⟨go36, 0, none⟩) x229000_1.length co36] (0, 0) _ rfl (blk_put (cs := #[.slice none 0 0]) (six_blk BK227.out n2) 0 _ rfl) Try.underlying29 rfl (by kernel_rfl)) rfl ?_
        exact ⟨_, rfl, Kd.S_mono (Kd.S_far (p := ⟨gb227, 0, none⟩) (Kd.S_types HS6.out (six_blk BK227.out n2) (by decide)) (fun _ hk => hk.2) (.slice (some ⟨go36, 0, none⟩) x229000_1.length co36)) (fun _ hk => trivial), (six_state HI0.out (IsS107.ne_blk HI0.out HBL.out (by decide))).far (p := ⟨gb227, 0, none⟩) NB0_227.out _, below_set (six_below HB.out (Nat.le_trans HW0.out GL.out)) GE227.out, keep_far (p := ⟨gb227, 0, none⟩) (six_keep HK.out GL.out) GW227.out _⟩
       ·rw [if_neg c35] at H
        exact absurd H (by simp)
      ·rw [if_neg c34] at H
       exact absurd H (by simp)
     ·rw [if_neg c32] at H
      have c32b0 : ((t247.length : Int) == 256) = false := beq_eq_false_iff_ne.mpr c32
      have c32b1 : ((t247.length : Int) != 256) = true := bne_iff_ne.mpr c32
      obtain ⟨ji49, hji49⟩ : ∃ j_ : Int, (wrap64 ((wrap64 (1 + t229)) - 1)) = j_ := ⟨_, rfl⟩
      replace H : (if 0 ≤ (ji49) then (if (ji49) < (x229000_1.length : Int) then (if (rd_L3 x229000_1 (ji49)).length = 256 then (some (lastSix x229000_1 (ji49), t245, t246)) else (none)) else (none)) else (none)) = some (r1, r2, r3) := by first | (rw [hji49] at H; exact H) | (simp only [hji49] at H ⊢; exact H)
      (try rw [hji49] at A18)
      (try rw [hji49] at A30)
      (try rw [hji49] at A31)
      have hji49w : (IntKind.i64.wrap ((wrap64 (1 + t229)) - 1)) = ji49 := (i64_w _).trans hji49
      by_cases c50 : 0 ≤ (ji49)
      ·rw [if_pos c50] at H
       have c50b0 : decide (0 ≤ (ji49)) = true := decide_eq_true c50
       clear c50
       by_cases c51 : (ji49) < (x229000_1.length : Int)
       ·rw [if_pos c51] at H
        have c51b0 : decide ((ji49) < (x229000_1.length : Int)) = true := decide_eq_true c51
        clear c51
        by_cases c256 : (rd_L3 x229000_1 (ji49)).length = 256
        rotate_left
        ·rw [if_neg c256] at H
         exact absurd H (by simp)
        rw [if_pos c256] at H
        have C256 := Aside0.mk c256
        clear c256
        simp only [Option.some.injEq, Prod.mk.injEq] at H
        obtain ⟨rfl, rfl, rfl⟩ := H
        go_upto_region 12 with (first | ((with_reducible refine gate_callee (f := 58) rfl ?_); refine goesM_ (some 26) rfl rfl Try.func58 #[.pointer (some ⟨g, 0, none⟩), .int .i64 4] ?_; (with_reducible refine (spec_l1Once.calls g s0_0 x1001_1 x1002_1 4 false t241 t242 w0 _ ?side1 ?side2 A18.out).mono ?_); (case side1 => exact si HI0.out); (case side2 => exact bi HB.out); rintro e w52 ⟨rfl, hi, hb, hk⟩; refine ⟨_, rfl, ?_⟩; have n0_ := Aside0.mk (Kd.S_mono (Kd.S_keep (IsS107.apartS (show IsS107 w0 _ g s0_0 x1001_1 x1002_1 from si HI0.out) (ks HO_229000.out) (by decide)) hk (fun _ h => h.2)) (fun _ h => h.1)); have n1_ := Aside0.mk (KeepBut.blk hk (g' := gb227) (o := .cells #[.slice none 0 0] 29 (0, 0)) (kb BK227.out) NB227_0.out (by simp)); have n2_ := Aside0.mk (KeepBut.blk hk (g' := gb228) (o := .cells #[u229000] 29 (0, 0)) (kb BK228.out) NB228_0.out (by simp)); have n3_ := Aside0.mk (KeepBut.trans (kp HK.out) hk (.inl rfl)); have n4_ := Aside0.mk (hb); have n5_ := Aside0.mk (hi); clear HO_229000; clear BK227; clear BK228; clear HK; clear HB; clear HI0; have HO_229000 := n0_; have BK227 := n1_; have BK228 := n2_; have HK := n3_; have HB := n4_; have HI0 := n5_; clear n0_ n1_ n2_ n3_ n4_ n5_; (try clear hb); (try clear hb2); (try clear hk); (try clear hi)) | ((with_reducible refine gate_callee (f := 107) rfl ?_); refine goesM_ (some 30) rfl rfl Try.func107 #[.pointer (some ⟨g, 0, none⟩)] ?_; (with_reducible refine (spec_l2Main.calls g s0_0 t241 t242 t244 t245 t246 w0 _ ?side1 ?side2 A30.out).mono ?_); (case side1 => exact si HI0.out); (case side2 => exact bi HB.out); rintro e w53 ⟨rfl, hi, hb, hk⟩; refine ⟨_, rfl, ?_⟩; have n0_ := Aside0.mk (Kd.S_mono (Kd.S_keep (IsS107.apartS (show IsS107 w0 _ g s0_0 t241 t242 from si HI0.out) (ks HO_229000.out) (by decide)) hk (fun _ h => h.2)) (fun _ h => h.1)); have n1_ := Aside0.mk (KeepBut.blk hk (g' := gb227) (o := .cells #[.slice none 0 0] 29 (0, 0)) (kb BK227.out) NB227_0.out (by simp)); have n2_ := Aside0.mk (KeepBut.blk hk (g' := gb228) (o := .cells #[u229000] 29 (0, 0)) (kb BK228.out) NB228_0.out (by simp)); have n3_ := Aside0.mk (KeepBut.trans (kp HK.out) hk (.inl rfl)); have n4_ := Aside0.mk (hb); have n5_ := Aside0.mk (hi); clear HO_229000; clear BK227; clear BK228; clear HK; clear HB; clear HI0; have HO_229000 := n0_; have BK227 := n1_; have BK228 := n2_; have HK := n3_; have HB := n4_; have HI0 := n5_; clear n0_ n1_ n2_ n3_ n4_ n5_; (try clear hb); (try clear hb2); (try clear hk); (try clear hi)) | ((with_reducible refine gate_callee (f := 106) rfl ?_); refine goesM_ (some 31) rfl rfl Try.func106 #[.string t244] ?_; (with_reducible refine (spec_Assemble.calls k1 t244 t247 t248 _ A31.out).mono ?_); rintro e w54 ⟨v249, rfl, ho0, hb⟩; refine ⟨_, rfl, ?_⟩; have n0_ := Aside0.mk (Kd.S_elder' (ks HO_229000.out) (Kd.R_base ho0) hb); have n1_ := Aside0.mk (Kd.R_lower ho0 (keep_size (w := w) (g := g) (row := none) (kp HK.out))); have n2_ := Aside0.mk (blk_below (g := gb227) (o := .cells #[.slice none 0 0] 29 (0, 0)) (kb BK227.out) hb); have n3_ := Aside0.mk (blk_below (g := gb228) (o := .cells #[u229000] 29 (0, 0)) (kb BK228.out) hb); have n4_ := Aside0.mk (IsS107.below (si HI0.out) hb); have n5_ := Aside0.mk (KeepBut.trans (kp HK.out) (KeepBut.of_below hb g none) (.inl rfl)); have n6_ := Aside0.mk (below_step (bi HB.out) hb); clear HO_229000; clear BK227; clear BK228; clear HI0; clear HK; clear HB; have HO_229000 := n0_; have HO250 := n1_; have BK227 := n2_; have BK228 := n3_; have HI0 := n4_; have HK := n5_; have HB := n6_; clear n0_ n1_ n2_ n3_ n4_ n5_ n6_; (try clear hb); (try clear hb2); (try clear hk); (try clear hi); (try clear ho0); obtain ⟨Ao55, co55, eo55⟩ := Kd.R_slice HO250.out; subst eo55; have hnb56 := NB228_227.out; have hnc56 := NB227_228.out; have hnb57 := NB228_0.out; have hnc57 := NB0_228.out; have hcz58_0 : w54.cell? ⟨gb228, 0, none⟩ = some (u229000) := (blk_cell BK228.out 0).trans rfl; have hfz58_0 := blk_frozen BK228.out 0; obtain ⟨Ao59, co59, eo59⟩ := Kd.S_slice HO_229000.out; subst eo59; have p253 : 0 ≤ ((ji49) : Int) := dt; have q253 : (ji49) < (x229000_1.length : Int) := dt; obtain ⟨ad253, A253_0, c253_0, e253, hx253_0, hl253_0, hi253_0⟩ := at_L3 (Kd.S_reads' HO_229000.out).2.2 (ji49) p253 q253; cases e253; obtain ⟨ce253, hce253, hMe253, hcc253⟩ := Kd.S_get HO_229000.out [] (ji49) p253 (by first | exact q253 | exact dt | (have e_ := (Kd.S_reads' HO_229000.out).1; omega)); obtain ⟨ve253_0, rfl, ge253_0⟩ := hMe253; have hv253_0 := hcc253 0 _ rfl; rw [Nat.add_zero, show ((Kd.slice 3 (Kd.int .i64))).sz = 1 from rfl, Nat.mul_one] at hv253_0; replace hv253_0 := Option.some.inj (hv253_0.symm.trans hx253_0); rw [hv253_0] at ge253_0; have HL253_0 := Aside0.mk (show Kd.R (Kd.int .i64) 3 _ _ _ _ (rd_L3 x229000_1 (ji49)) from ge253_0); clear hv253_0 ge253_0; clear hcc253 hce253; have HR253_0 := Aside0.mk hi253_0; have HC253_0 := Aside0.mk hl253_0; clear hi253_0 hl253_0; replace p253 := eq_true p253; replace q253 := eq_true q253; have hnb60 := NB227_0.out; have hnc60 := NB0_227.out; have hcz61_0 : w54.cell? ⟨gb227, 0, none⟩ = some (.slice none 0 0) := (blk_cell BK227.out 0).trans rfl; have hfz61_0 := blk_frozen BK227.out 0))
        have hji_ : (0 : Int) ≤ ji49 := of_decide_eq_true (by assumption)
        have hjl_ : ji49 < (x229000_1.length : Int) := by first | exact of_decide_eq_true (by assumption) | (rw [Ny0.out, List.length_set]; exact of_decide_eq_true (by assumption))
        obtain ⟨gl, eA_, hgl, ⟨clr, hbl⟩, hcl, hS6⟩ := six_ok HO_229000.out ji49 hji_ hjl_ (by first | exact hx253_0 | (rw [add_plain]; exact hx253_0)) C256.out
        subst eA_
        have GL := Aside0.mk hgl
        have HBL := Aside0.mk hbl
        have HS6 := Aside0.mk hS6
        have HLN := Aside0.mk C256.out
        have z0 := (hcl 250 (by omega)).1
        have z1 := (hcl 251 (by omega)).1
        have z2 := (hcl 252 (by omega)).1
        have z3 := (hcl 253 (by omega)).1
        have z4 := (hcl 254 (by omega)).1
        have z5 := (hcl 255 (by omega)).1
        have f0 := (hcl 250 (by omega)).2
        have f1 := (hcl 251 (by omega)).2
        have f2 := (hcl 252 (by omega)).2
        have f3 := (hcl 253 (by omega)).2
        have f4 := (hcl 254 (by omega)).2
        have f5 := (hcl 255 (by omega)).2
        have b0 : ((250 : Int) < ((rd_L3 x229000_1 ji49).length : Int)) = True := eq_true (by have := C256.out; omega)
        have b1 : ((251 : Int) < ((rd_L3 x229000_1 ji49).length : Int)) = True := eq_true (by have := C256.out; omega)
        have b2 : ((252 : Int) < ((rd_L3 x229000_1 ji49).length : Int)) = True := eq_true (by have := C256.out; omega)
        have b3 : ((253 : Int) < ((rd_L3 x229000_1 ji49).length : Int)) = True := eq_true (by have := C256.out; omega)
        have b4 : ((254 : Int) < ((rd_L3 x229000_1 ji49).length : Int)) = True := eq_true (by have := C256.out; omega)
        have b5 : ((255 : Int) < ((rd_L3 x229000_1 ji49).length : Int)) = True := eq_true (by have := C256.out; omega)
        have n1 : gl ≠ gb227 := blk_ne hbl BK227.out (by decide)
        have n2 : gb227 ≠ gl := fun e => n1 e.symm
        have n3 : gl ≠ gb228 := blk_ne hbl BK228.out (by decide)
        have n4 : gb228 ≠ gl := fun e => n3 e.symm
        clear hcl hbl hgl hS6 hji_ hjl_
        go_wp2
        refine bodyPost_ret (results_cell_row rfl _ _ gb227 29 #[.slice (some ad253) x229000_1.length co59] (0, 0) _ rfl (blk_put (cs := #[.slice none 0 0]) (six_blk BK227.out n2) 0 _ rfl) Try.underlying29 rfl (by kernel_rfl)) rfl ?_
        exact ⟨_, rfl, Kd.S_mono (Kd.S_far (p := ⟨gb227, 0, none⟩) (Kd.S_types HS6.out (six_blk BK227.out n2) (by decide)) (fun _ hk => hk.2) (.slice (some ad253) x229000_1.length co59)) (fun _ hk => trivial), (six_state HI0.out (IsS107.ne_blk HI0.out HBL.out (by decide))).far (p := ⟨gb227, 0, none⟩) NB0_227.out _, below_set (six_below HB.out (Nat.le_trans HW0.out GL.out)) GE227.out, keep_far (p := ⟨gb227, 0, none⟩) (six_keep HK.out GL.out) GW227.out _⟩
       ·rw [if_neg c51] at H
        exact absurd H (by simp)
      ·rw [if_neg c50] at H
       exact absurd H (by simp)

/-! ### spec_l2Draw (mine) -/
/-- A row of the call's own that may begin inside its block, as an element. -/
def cutK {α : Type} (e : Nat) (d : Kd α) : Kd (List α) where
 sz := 1
 E := e :: d.E
 K := (Kd.slice e d).K
 M := fun w base ok xs cs => ∃ v, cs = [v] ∧ d.Q e w base ok v xs
 K_len := fun h => (Kd.slice e d).K_len h
 K_one := fun h => (Kd.slice e d).K_one h
 K_below := fun hb h => (Kd.slice e d).K_below hb h
 K_of_M := by
  rintro w base ok x cs ⟨v, rfl, h⟩
  obtain ⟨A, c, rfl, hl, hC⟩ := Kd.Q_reads h
  exact ⟨A, c, rfl, hl, hC⟩
 M_mono := by
  rintro w base ok ok' x cs hok ⟨v, rfl, h⟩
  exact ⟨v, rfl, Kd.Q_mono h hok⟩
 M_bound := by
  rintro w base ok x cs ⟨v, rfl, h⟩
  exact ⟨v, rfl, Kd.Q_bound h⟩
 M_move := by
  rintro w w1 base ok x cs hm ⟨v, rfl, h⟩
  exact ⟨v, rfl, Kd.Q_move h hm⟩
 M_lower := by
  rintro w base base' ok x cs hb ⟨v, rfl, h⟩
  exact ⟨v, rfl, Kd.Q_lower h hb⟩
theorem S_cut {α : Type} {e e' : Nat} {d : Kd α} {w : World} {base : Nat} {ok : Nat → Prop} {v : Value} {xs : List (List α)} (h : Kd.S (Kd.slice e d) e' w base ok v xs) : Kd.S (cutK e d) e' w base ok v xs := by
 obtain ⟨f, h0, inner, ho, hr⟩ := h
 refine ⟨f, h0, inner, ho, hr.1, fun j p hj => ?_⟩
 obtain ⟨u, hu, hR⟩ := hr.2 j p hj
 exact ⟨u, hu, Kd.Q_of_R hR⟩
theorem C_uncut {α : Type} {e : Nat} {d : Kd α} {w : World} {A : Option Addr} {n : Nat} {xs : List (List α)} (h : (cutK e d).C w A n xs) : (Kd.slice e d).C w A n xs := h
section
variable {W : World} {base go n cap : Nat} {ok : Nat → Prop} {X : List (List Int)}
/-- The first row's header. -/
theorem first_row (h : Kd.S (Kd.slice 3 (Kd.int .i64)) 30 W base ok (.slice (some ⟨go, 0, none⟩) n cap) X) (h0 : 0 < X.length) :
  ∃ A c, W.cell? ⟨go, 0, none⟩ = some (.slice A (rd_L3 X 0).length c) ∧ W.frozen? ⟨go, 0, none⟩ = false ∧ Kd.R (Kd.int .i64) 3 W base ok (.slice A (rd_L3 X 0).length c) (rd_L3 X 0) := by
 have hn := (Kd.S_reads' h).1
 obtain ⟨oki, cc, _, hM, hcc, hf, hoki, _⟩ := Kd.S_elem h [] 0 (by omega) (by omega)
 obtain ⟨v, rfl, hR⟩ : ∃ v, cc = [v] ∧ Kd.R (Kd.int .i64) 3 W base oki v (X.getD (0 : Int).toNat []) := hM
 obtain ⟨A, c, rfl⟩ := Kd.R_slice hR
 exact ⟨A, c, hcc 0 _ rfl, hf 0, Kd.R_mono hR (fun k hk => (hoki k hk).1)⟩
/-- The first row is a cut of what it was. -/
theorem first_cut (h : Kd.S (Kd.slice 3 (Kd.int .i64)) 30 W base ok (.slice (some ⟨go, 0, none⟩) n cap) X) (h0 : 0 < X.length) {A : Option Addr} {m c : Nat} (hx : W.cell? ⟨go, 0, none⟩ = some (.slice A m c)) (h1 : 1 ≤ (rd_L3 X 0).length) :
  Kd.S (cutK 3 (Kd.int .i64)) 30 (W.setCell ⟨go, 0, none⟩ (.slice (if c = 1 then A else A.map (·.add 1)) (m - 1) (c - 1))) base ok (.slice (some ⟨go, 0, none⟩) n cap) (X.set 0 ((rd_L3 X 0).drop 1)) := by
 have hn := (Kd.S_reads' h).1
 obtain ⟨oki, cc, _, hM, hcc, hf, hoki, hH⟩ := Kd.S_elem (S_cut h) [] 0 (by omega) (by omega)
 obtain ⟨v, rfl, hQ⟩ : ∃ v, cc = [v] ∧ Kd.Q (Kd.int .i64) 3 W base oki v (X.getD (0 : Int).toNat []) := hM
 have hv : W.cell? ⟨go, 0, none⟩ = some v := hcc 0 _ rfl
 rw [hx] at hv
 obtain rfl := Option.some.inj hv
 have hd := Kd.Q_drop (k := 1) hQ h1
 have := (Kd.S_seg (okg := fun _ => False) (okp := oki) (seg := [.slice (if c = 1 then A else A.map (·.add 1)) (m - 1) (c - 1)]) (j := 0) (Kd.H_mono hH (fun k hk => ⟨hk, fun h => h⟩)) (by omega) (by omega) (by show 0 + 1 ≤ 1; omega) (x' := (rd_L3 X 0).drop 1) ⟨_, rfl, hd⟩ (fun k hk => .inl hk) (fun k hk => hk.elim)).1
 exact this
/-- A store into the first row. -/
theorem first_put (h : Kd.S (Kd.slice 3 (Kd.int .i64)) 30 W base ok (.slice (some ⟨go, 0, none⟩) n cap) X) (h0 : 0 < X.length) {A : Option Addr} {m c : Nat} (hx : W.cell? ⟨go, 0, none⟩ = some (.slice A m c)) (h3 : 3 < (rd_L3 X 0).length) :
  ∃ gl, A = some ⟨gl, 0, none⟩ ∧ m = (rd_L3 X 0).length ∧ base ≤ gl ∧ (∃ cells, W.heap[gl]? = some (.cells cells 3 (0, 0))) ∧ (∃ u, W.cell? ⟨gl, 3, none⟩ = some (.int .i64 u)) ∧ W.frozen? ⟨gl, 3, none⟩ = false ∧
   ∀ p : Int, Kd.S (Kd.slice 3 (Kd.int .i64)) 30 (W.setCell ⟨gl, 3, none⟩ (.int .i64 p)) base ok (.slice (some ⟨go, 0, none⟩) n cap) (X.set 0 ((rd_L3 X 0).set 3 p)) := by
 have hn := (Kd.S_reads' h).1
 obtain ⟨oki, cc, _, hM, hcc, hf, hoki, hH⟩ := Kd.S_elem h [] 0 (by omega) (by omega)
 obtain ⟨v, rfl, hR⟩ : ∃ v, cc = [v] ∧ Kd.R (Kd.int .i64) 3 W base oki v (X.getD (0 : Int).toNat []) := hM
 have hv : W.cell? ⟨go, 0, none⟩ = some v := hcc 0 _ rfl
 rw [hx] at hv
 obtain rfl := Option.some.inj hv
 have e2 : X.getD (0 : Int).toNat [] = rd_L3 X 0 := rfl
 rw [e2] at hR
 obtain ⟨gl, cap', e3, hg, hgl, hcells⟩ := Kd.R_form hR (by omega)
 injection e3 with a1 a2 a3
 subst a1 a2 a3
 have hok : oki gl := hR.1 gl rfl
 obtain ⟨hc3, hf3⟩ := Kd.R_celln 0 hR 3 (by omega) (by omega)
 refine ⟨gl, rfl, rfl, hg, hcells, ⟨_, hc3⟩, hf3, fun p => ?_⟩
 exact Kd.H_back (i := 0) (Kd.H_step hH (fun k _ hn _ => Below.heap_setCell _ _ _ k (fun e => hn (by rw [e]; exact hok)))) ⟨_, rfl, Kd.R_putn hR 3 p⟩ (fun _ hk => hk)
end
def spec_l2Draw.f (k : Nat) (s0_0 : List Int) (s0_1 : Int) (s0_2 : Int) : Option ((List (List Int)) × Int × Int) :=
 (spec_l2DrawRight.f k s0_0 s0_1 s0_2).bind fun q => (spec_l1Below.f s0_0 q.2.1 q.2.2 15).bind fun b =>
  if b.1 = 0 then (if 0 < q.1.length ∧ 1 ≤ (rd_L3 q.1 0).length then some (q.1.set 0 ((rd_L3 q.1 0).drop 1), b.2.1, b.2.2) else none)
  else if b.1 = 1 then (if 0 < q.1.length ∧ 3 < (rd_L3 q.1 0).length then (spec_l1PickInt.f s0_0 b.2.1 b.2.2 [-1, 256]).bind fun p => some (q.1.set 0 ((rd_L3 q.1 0).set 3 p.1), p.2.1, p.2.2) else none)
  else if b.1 = 2 then some ([], b.2.1, b.2.2) else some (q.1, b.2.1, b.2.2)
theorem spec_l2Draw.mono : ∀ a0 a1 a2 k, LeO (spec_l2Draw.f k a0 a1 a2) (spec_l2Draw.f (k + 1) a0 a1 a2) := by
 intro a0 a1 a2 k
 unfold spec_l2Draw.f
 refine LeO.bind (spec_l2DrawRight.mono _ _ _ _) (fun q => LeO.refl _)
/-- What is known where the drawn image lies in its variable, and the cursor behind the draw of what becomes of it. -/
structure L2 (w0 w W : World) (g a b : Nat) (s0 : List Int) (x y : Int) (A : Option Addr) (c : Nat) (X : List (List Int)) : Prop where
 st : IsS107 w0 W g s0 x y
 keep : KeepBut w W g none
 below : Below w0.heap.size w0 W
 hw : w0.heap.size ≤ w.heap.size
 ba : W.heap[a]? = some (.cells #[.slice none 0 0] 29 (0, 0))
 bb : W.heap[b]? = some (.cells #[.slice A X.length c] 29 (0, 0))
 row : Kd.S (Kd.slice 3 (Kd.int .i64)) 30 W w.heap.size (fun _ => True) (.slice A X.length c) X
 ga : w.heap.size ≤ a
 gb : w.heap.size ≤ b
 ab : a ≠ b
theorem L2.call {w0 w W W' : World} {g a b : Nat} {s0 : List Int} {x y x' y' : Int} {A : Option Addr} {c : Nat} {X : List (List Int)} (h : L2 w0 w W g a b s0 x y A c X) (hi : IsS107 w0 W' g s0 x' y') (hb : Below w0.heap.size w0 W') (hk : KeepBut W W' g none) : L2 w0 w W' g a b s0 x' y' A c X :=
 ⟨hi, KeepBut.trans h.keep hk (.inl rfl), hb, h.hw, KeepBut.blk hk h.ba (fun e => IsS107.ne_blk h.st h.ba (by decide) e.symm) (by simp), KeepBut.blk hk h.bb (fun e => IsS107.ne_blk h.st h.bb (by decide) e.symm) (by simp),
  Kd.S_mono (Kd.S_keep (IsS107.apartS h.st h.row (by decide)) hk (fun _ h => h.2)) (fun _ _ => trivial), h.ga, h.gb, h.ab⟩
/-- The result's block, and the end. -/
theorem L2.done {w0 w W : World} {g a : Nat} {s0 : List Int} {x y : Int} {v : Value} {Y : List (List Int)} (st : IsS107 w0 W g s0 x y) (keep : KeepBut w W g none) (below : Below w0.heap.size w0 W) (hw : w0.heap.size ≤ w.heap.size)
  (ba : W.heap[a]? = some (.cells #[.slice none 0 0] 29 (0, 0))) (row : Kd.S (cutK 3 (Kd.int .i64)) 30 W w.heap.size (fun _ => True) v Y) (ga : w.heap.size ≤ a) :
  (W.setCell ⟨a, 0, none⟩ v).heap[a]? = some (.cells #[v] 29 (0, 0)) ∧ Kd.S (cutK 3 (Kd.int .i64)) 30 (W.setCell ⟨a, 0, none⟩ v) w.heap.size (fun _ => True) v Y ∧ IsS107 w0 (W.setCell ⟨a, 0, none⟩ v) g s0 x y ∧ Below w0.heap.size w0 (W.setCell ⟨a, 0, none⟩ v) ∧ KeepBut w (W.setCell ⟨a, 0, none⟩ v) g none :=
 ⟨blk_put ba 0 _ rfl, Kd.S_mono (Kd.S_far (p := ⟨a, 0, none⟩) (Kd.S_types row ba (by decide)) (fun _ hk => hk.2) v) (fun _ _ => trivial), st.far (p := ⟨a, 0, none⟩) (IsS107.ne_blk st ba (by decide)) v, below_set below (Nat.le_trans hw ga), keep_far (p := ⟨a, 0, none⟩) keep ga v⟩
set_option maxRecDepth 100000 in
set_option maxHeartbeats 4000000 in
theorem spec_l2Draw.calls (k : Nat) (g : Nat) (s0_0 : List Int) (s0_1 : Int) (s0_2 : Int) (r1 : List (List Int)) (r2 : Int) (r3 : Int) (w0 w : World) (hI : IsS107 w0 w g s0_0 s0_1 s0_2) (hB : Below w0.heap.size w0 w) (h : spec_l2Draw.f k s0_0 s0_1 s0_2 = some (r1, r2, r3)) :
  Calls Try.prog 65 #[.pointer (some ⟨g, 0, none⟩)] w fun e w' => ∃ v0_ : Value, e = .returned (.agg #[v0_]) ∧ Kd.S (cutK 3 (Kd.int .i64)) 30 w' w.heap.size (fun _ => True) v0_ r1 ∧ IsS107 w0 w' g s0_0 r2 r3 ∧ Below w0.heap.size w0 w' ∧ KeepBut w w' g none := by
 have hu29 := Try.underlying29
 unfold spec_l2Draw.f at h
 obtain ⟨⟨X, x1, x2⟩, hq, h2⟩ := Option.bind_eq_some_iff.mp h
 obtain ⟨⟨t, y1, y2⟩, hp, h3⟩ := Option.bind_eq_some_iff.mp h2
 clear h h2
 have HI := Aside0.mk hI
 have HB := Aside0.mk hB
 have HQ := Aside0.mk hq
 have HP := Aside0.mk hp
 have H3 := Aside0.mk h3
 clear hI hB hq hp h3
 go_enter Try.func65, Try.ntmps65
 go_wp2_with fail
 refine (spec_l2DrawRight.calls k g s0_0 s0_1 s0_2 X x1 x2 w0 _ ?i ?b HQ.out).mono ?_
 case i => exact IsS107.alloc HI.out _
 case b => exact below_alloc HB.out _
 rintro e W1 ⟨v0, rfl, hS, hi, hb, hk⟩
 obtain ⟨A, c, rfl⟩ := Kd.S_slice hS
 have hga : w.heap.size ≠ g := fun e => by have := IsS107.lt HI.out; omega
 have ba := KeepBut.blk hk (g' := w.heap.size) (alloc_at w _ _ rfl) hga (by simp)
 have hsz : w.heap.size + 1 ≤ W1.heap.size := by have := hk.1; rw [alloc_size] at this; omega
 have hl : L2 w0 w (W1.alloc (.cells #[.slice A X.length c] 29)) g w.heap.size W1.heap.size s0_0 x1 x2 A c X :=
  ⟨hi.alloc _, keep_alloc (KeepBut.trans (keep_alloc (KeepBut.refl w g none) _) hk (.inl rfl)) _, below_alloc hb _, HB.out.size, blk_alloc ba _, blk_new W1 _, Kd.S_alloc (Kd.S_lower hS (by rw [alloc_size]; omega)) _, Nat.le_refl _, by omega, by omega⟩
 have HL := Aside0.mk hl
 clear hS hi hb hk ba hl hsz
 go_wp2_with fail
 generalize W1.alloc (.cells #[.slice A X.length c] 29) = W2 at *
 generalize W1.heap.size = b at *
 refine (spec_l1Below.calls g s0_0 x1 x2 15 t y1 y2 w0 _ HL.out.st HL.out.below HP.out).mono ?_
 rintro e W3 ⟨rfl, hi, hb, hk⟩
 have H := Aside0.mk (HL.out.call hi hb hk)
 have h3 := H3.out
 clear HL hi hb hk H3 HQ HP HI HB W2
 have hy0 : W3.cell? ⟨b, 0, none⟩ = some (.slice A X.length c) := (blk_cell H.out.bb 0).trans rfl
 have hyf := blk_frozen H.out.bb 0
 have hz0 : W3.cell? ⟨w.heap.size, 0, none⟩ = some (.slice none 0 0) := (blk_cell H.out.ba 0).trans rfl
 have hzf := blk_frozen H.out.ba 0
 have hab := H.out.ab
 have hba : b ≠ w.heap.size := fun e => hab e.symm
 by_cases t0 : t = 0
 ·subst t0
  rw [if_pos rfl] at h3
  by_cases hc : 0 < X.length ∧ 1 ≤ (rd_L3 X 0).length
  ·rw [if_pos hc] at h3
   simp only [Option.some.injEq, Prod.mk.injEq] at h3
   obtain ⟨rfl, rfl, rfl⟩ := h3
   obtain ⟨go, cap, eA, hgo, _, ⟨cells, hgb⟩⟩ := Kd.S_form H.out.row hc.1
   injection eA with e1 e2 e3
   subst e1 e3
   obtain ⟨A1, c1, hx, hf, hR⟩ := first_row H.out.row hc.1
   have HCUT := Aside0.mk (first_cut H.out.row hc.1 hx hc.2)
   obtain ⟨i0, hi0, hzz⟩ := Option.map_eq_some_iff.1 info3
   simp only [Prod.mk.injEq] at hzz
   have hcut : ∀ W : World, (Instr.slice 30 (.slice A1 (rd_L3 X 0).length c1) (some (.int .i64 1)) none none).run Try.prog W = .ok (.slice (if c1 = 1 then A1 else A1.map (·.add 1)) ((rd_L3 X 0).length - 1) (c1 - 1)) W := cut_from 30 3 .i64 Try.underlying30 hi0 1 hzz.2.1 A1 (rd_L3 X 0).length c1 1 (by omega) (by have := hc.2; omega)
   have HG := Aside0.mk hgb
   have HGO := Aside0.mk hgo
   have hb1 : ((0 : Int) < ((X.length : Nat) : Int)) = True := eq_true (by have := hc.1; omega)
   have hb2 : 0 < X.length := hc.1
   have hb3 : X ≠ [] := fun e => by rw [e] at hb2; exact absurd hb2 (by decide)
   have n1 : go ≠ w.heap.size := blk_ne hgb H.out.ba (by decide)
   have n2 : w.heap.size ≠ go := fun e => n1 e.symm
   have n3 : go ≠ b := blk_ne hgb H.out.bb (by decide)
   have n4 : b ≠ go := fun e => n3 e.symm
   clear hc hR hi0 hzz e2 hgb hgo
   generalize (if c1 = 1 then A1 else A1.map (·.add 1)) = A3 at *
   generalize (rd_L3 X 0).length - 1 = m3 at *
   generalize c1 - 1 = c3 at *
   go_wp2
   go_still_tail 8, (by kernel_rfl)
   go_wp2
   obtain ⟨d1, d2, d3, d4, d5⟩ := L2.done (v := .slice (some ⟨go, 0, none⟩) X.length c) (H.out.st.far (p := ⟨go, 0, none⟩) (IsS107.ne_blk H.out.st HG.out (by decide)) (.slice A3 m3 c3)) (keep_far (p := ⟨go, 0, none⟩) H.out.keep HGO.out (.slice A3 m3 c3)) (below_set H.out.below (Nat.le_trans H.out.hw HGO.out)) H.out.hw (blk_far (p := ⟨go, 0, none⟩) H.out.ba n2 (.slice A3 m3 c3)) (HCUT.out) H.out.ga
   refine bodyPost_ret (results_cell_row rfl _ _ w.heap.size 29 #[.slice (some ⟨go, 0, none⟩) X.length c] (0, 0) _ rfl (blk_drew d1) hu29 rfl (by kernel_rfl)) rfl ?_
   exact ⟨_, rfl, Kd.S_drew d2, IsS107.drew d3, below_drew1 d4, keep_drew d5⟩
  ·rw [if_neg hc] at h3
   cases h3
 ·rw [if_neg t0] at h3
  have e0 : (t == 0) = false := beq_eq_false_iff_ne.mpr t0
  by_cases t1 : t = 1
  ·subst t1
   rw [if_pos rfl] at h3
   by_cases hc : 0 < X.length ∧ 3 < (rd_L3 X 0).length
   ·rw [if_pos hc] at h3
    obtain ⟨⟨p, q1, q2⟩, hpp, h4⟩ := Option.bind_eq_some_iff.mp h3
    simp only [Option.some.injEq, Prod.mk.injEq] at h4
    obtain ⟨rfl, rfl, rfl⟩ := h4
    clear h3 e0 t0
    have HPP := Aside0.mk hpp
    obtain ⟨go, cap, eA, hgo, _, ⟨cells, hgb⟩⟩ := Kd.S_form H.out.row hc.1
    injection eA with e1 e2 e3
    subst e1 e3
    obtain ⟨A1, c1, hx, hf, hR⟩ := first_row H.out.row hc.1
    have HX := Aside0.mk hx
    obtain ⟨gl, eA1, em, hgl, ⟨cl, hgc⟩, _⟩ := first_put H.out.row hc.1 hx hc.2
    subst eA1
    have HG := Aside0.mk hgb
    have HC := Aside0.mk hc
    have HGL := Aside0.mk hgl
    have hb1 : ((0 : Int) < ((X.length : Nat) : Int)) = True := eq_true (by have := hc.1; omega)
    have hb2 : 0 < X.length := hc.1
    have hb3 : X ≠ [] := fun e => by rw [e] at hb2; exact absurd hb2 (by decide)
    have hb4 : ((3 : Int) < (((rd_L3 X 0).length : Nat) : Int)) = True := eq_true (by have := hc.2; omega)
    have n3 : go ≠ b := blk_ne hgb H.out.bb (by decide)
    have n4 : b ≠ go := fun e => n3 e.symm
    clear hc hR e2 hgb hgo hpp hx hf hgc hgl em hy0 hyf hz0 hzf
    go_wp2
    refine start_ (n := 9) (S := fun w' => w'.cell? ⟨b, 0, none⟩ = some (.slice (some ⟨go, 0, none⟩) X.length c) ∧ w'.cell? ⟨go, 0, none⟩ = some (.slice (some ⟨gl, 0, none⟩) (rd_L3 X 0).length c1)) (ds := [8]) #[false, false, false, false, false, false, false, false, false] (by kernel_rfl) rfl rfl ⟨(blk_cell H.out.bb 0).trans rfl, HX.out⟩ (fun hHeld => ?_)
    have HD : Aside0 (W3.drew.cell? ⟨go, 0, none⟩ = some (.slice (some ⟨gl, 0, none⟩) (rd_L3 X 0).length c1)) := ⟨HX.out⟩
    have H4 : Aside0 (L2 w0 w W3.drew g w.heap.size b s0_0 y1 y2 (some ⟨go, 0, none⟩) c X) := ⟨⟨H.out.st.drew, keep_drew H.out.keep, below_drew1 H.out.below, H.out.hw, blk_drew H.out.ba, blk_drew H.out.bb, Kd.S_drew H.out.row, H.out.ga, H.out.gb, H.out.ab⟩⟩
    clear H HX
    generalize W3.drew = W4 at *
    refine pure_ (i := 0) (N := some 20) (v := ?_) (a' := ?_) #[true, false, false, false, false, false, false, false, false] rfl rfl (by kernel_rfl) (fun _ _ _ h => h) (Or.inl ⟨by rfl, ?_⟩) ?_ ?_
    rotate_left
    ·intro w'
     go_simp
     with_reducible rfl
    rotate_left
    ·simp only [Act.put, List.setIfInBounds_toArray, List.set_cons_zero, List.set_cons_succ, i64_w, i32_w]
     rfl
    refine take_ (i := 1) (N := some 21) (v := ?_) (a' := ?_) #[true, true, false, false, false, false, false, false, false] rfl rfl (by kernel_rfl) (fun _ _ _ h => h) (Or.inl ⟨by rfl, ?_⟩) hHeld ?_ ?_
    rotate_left
    ·rintro w' ⟨s0, s1⟩
     go_simp
     with_reducible rfl
    rotate_left
    ·simp only [Act.put, List.setIfInBounds_toArray, List.set_cons_zero, List.set_cons_succ, i64_w, i32_w]
     rfl
    refine pure_ (i := 2) (N := some 22) (v := ?_) (a' := ?_) #[true, true, true, false, false, false, false, false, false] rfl rfl (by kernel_rfl) (fun _ _ _ h => h) (Or.inl ⟨by rfl, ?_⟩) ?_ ?_
    rotate_left
    ·intro w'
     go_simp
     with_reducible rfl
    rotate_left
    ·simp only [Act.put, List.setIfInBounds_toArray, List.set_cons_zero, List.set_cons_succ, i64_w, i32_w]
     rfl
    refine take_ (i := 3) (N := some 23) (v := ?_) (a' := ?_) #[true, true, true, true, false, false, false, false, false] rfl rfl (by kernel_rfl) (fun _ _ _ h => h) (Or.inl ⟨by rfl, ?_⟩) hHeld ?_ ?_
    rotate_left
    ·rintro w' ⟨s0, s1⟩
     go_simp
     with_reducible rfl
    rotate_left
    ·simp only [Act.put, List.setIfInBounds_toArray, List.set_cons_zero, List.set_cons_succ, i64_w, i32_w]
     rfl
    refine pure_ (i := 4) (N := some 24) (v := ?_) (a' := ?_) #[true, true, true, true, true, false, false, false, false] rfl rfl (by kernel_rfl) (fun _ _ _ h => h) (Or.inl ⟨by rfl, ?_⟩) ?_ ?_
    rotate_left
    ·intro w'
     go_simp
     with_reducible rfl
    rotate_left
    ·simp only [Act.put, List.setIfInBounds_toArray, List.set_cons_zero, List.set_cons_succ, i64_w, i32_w]
     rfl
    refine one_ (i := 5) (N := some 25) #[true, true, true, true, true, true, false, false, false] rfl rfl (by kernel_rfl) (by decide) (fun K hK => ?_)
    refine value_ (w1 := W4.alloc (.cells #[.int .i64 (-1), .int .i64 256] 3)) (v := .slice (some ⟨W4.heap.size, 0, none⟩) 2 2) (by rfl) rfl ?_ ?_
    ·go_simp
    have hlit : Kd.R (Kd.int .i64) 3 (W4.alloc (.cells #[.int .i64 (-1), .int .i64 256] 3)) w.heap.size (fun _ => True) (.slice (some ⟨W4.heap.size, 0, none⟩) 2 2) [-1, 256] := Kd.R_of_own (own_lit W4 w.heap.size 3 .i64 [-1, 256] (keep_size H4.out.keep) (by decide)) (fun _ _ => trivial)
    have hne : W4.heap.size ≠ g := fun e => by have := IsS107.lt H4.out.st; omega
    have H5 : Aside0 (L2 w0 w (W4.alloc (.cells #[.int .i64 (-1), .int .i64 256] 3)) g w.heap.size b s0_0 y1 y2 (some ⟨go, 0, none⟩) c X) := ⟨⟨H4.out.st.alloc _, keep_alloc H4.out.keep _, below_alloc H4.out.below _, H4.out.hw, blk_alloc H4.out.ba _, blk_alloc H4.out.bb _, Kd.S_alloc H4.out.row _, H4.out.ga, H4.out.gb, H4.out.ab⟩⟩
    have HD5 := Aside0.mk (pw_cell_below (below_alloc (Below.refl _ _) (.cells #[.int .i64 (-1), .int .i64 256] 3)) HD.out)
    refine hK.out _ _ ⟨(blk_cell H5.out.bb 0).trans rfl, HD5.out⟩ (fun hHeld => ?_)
    clear hK K
    refine norm_ (a' := ?_) ?_ ?_
    rotate_left
    ·show Act.put _ (some 25) _ = _
     simp only [Act.put, List.setIfInBounds_toArray, List.set_cons_zero, List.set_cons_succ, i64_w, i32_w]
     rfl
    generalize hW5 : W4.alloc (.cells #[.int .i64 (-1), .int .i64 256] 3) = W5 at *
    refine one_ (i := 6) (N := some 26) #[true, true, true, true, true, true, true, false, false] rfl rfl (by kernel_rfl) (by decide) (fun K hK => ?_)
    refine goes_ Try.func70 (by kernel_rfl) rfl #[.pointer (some ⟨g, 0, none⟩), .slice (some ⟨W4.heap.size, 0, none⟩) 2 2] (by rfl) rfl rfl (by (try simp only [List.map_toArray, List.map_cons, List.map_nil]); first | done | rfl) ?_
    refine (spec_l1PickInt.calls g s0_0 y1 y2 (some ⟨W4.heap.size, 0, none⟩) 2 [-1, 256] p q1 q2 w0 W5 H5.out.st H5.out.below (Kd.R_reads' hlit).2.2 (by decide) (fun ad e _ => by injection e with e; rw [← e]; exact hne) HPP.out).mono ?_
    rintro e W6 ⟨rfl, hi, hb, hk⟩
    refine ⟨_, rfl, ?_⟩
    have H : Aside0 (L2 w0 w W6 g w.heap.size b s0_0 q1 q2 (some ⟨go, 0, none⟩) c X) := ⟨H5.out.call hi hb hk⟩
    obtain ⟨A1', c1', hx', hf', hR'⟩ := first_row H.out.row HC.out.1
    have hgo6 : go ≠ g := by
     obtain ⟨_, _, e1, _, _, ⟨cells6, hg6⟩⟩ := Kd.S_form H.out.row HC.out.1
     injection e1 with e1 _ _
     injection e1 with e1
     injection e1 with e1
     subst e1
     exact fun e => IsS107.ne_blk H.out.st hg6 (by decide) e.symm
    have hkx := keep_cell hk HD5.out hgo6
    rw [hx'] at hkx
    injection hkx with hkx
    injection hkx with k1 k2 k3
    subst k1 k3
    obtain ⟨gl', eA1, _, hgl, ⟨cl, hgc⟩, ⟨u3, hc3⟩, hf3, hput⟩ := first_put H.out.row HC.out.1 hx' HC.out.2
    injection eA1 with eA1
    injection eA1 with eA1
    subst eA1
    have HX := Aside0.mk hx'
    have HC3 := Aside0.mk hc3
    have HF3 := Aside0.mk hf3
    have HPUT := Aside0.mk (hput p)
    have HGC := Aside0.mk hgc
    have HGL := Aside0.mk hgl
    refine hK.out _ _ ⟨(blk_cell H.out.bb 0).trans rfl, hx'⟩ (fun hHeld => ?_)
    clear hK K hlit hne H5 HD5 hi hb hk hx' hf' hR' hgo6 k2 hgl hgc hc3 hf3 hput H4 HD hW5
    refine norm_ (a' := ?_) ?_ ?_
    rotate_left
    ·show Act.put _ (some 26) _ = _
     simp only [Act.put, List.setIfInBounds_toArray, List.set_cons_zero, List.set_cons_succ, i64_w, i32_w]
     rfl
    refine pure_ (i := 7) (N := some 27) (v := ?_) (a' := ?_) #[true, true, true, true, true, true, true, true, false] rfl rfl (by kernel_rfl) (fun _ _ _ h => h) (Or.inl ⟨by rfl, ?_⟩) ?_ ?_
    rotate_left
    ·intro w'
     go_simp
     with_reducible rfl
    rotate_left
    ·simp only [Act.put, List.setIfInBounds_toArray, List.set_cons_zero, List.set_cons_succ, i64_w, i32_w]
     rfl
    refine last_ (i := 8) (N := none) #[true, true, true, true, true, true, true, true, true] rfl rfl (by kernel_rfl) (by decide) (fun K hK => ?_)
    have r0 := HC3.out
    have f0 := HF3.out
    refine skip_ (w1 := ?_) (by rfl) rfl ?_ ?_
    rotate_left
    ·go_simp
     rfl
    refine hK.out _ _ ?_
    clear hK K r0 f0 hHeld
    refine done_ (by kernel_rfl) ?_
    have m1 : gl ≠ w.heap.size := blk_ne HGC.out H.out.ba (by decide)
    have m2 : w.heap.size ≠ gl := fun e => m1 e.symm
    have m3 : gl ≠ b := blk_ne HGC.out H.out.bb (by decide)
    have m4 : b ≠ gl := fun e => m3 e.symm
    have hy0 : (W6.setCell ⟨gl, 3, none⟩ (.int .i64 p)).cell? ⟨b, 0, none⟩ = some (.slice (some ⟨go, 0, none⟩) X.length c) := (blk_cell (blk_far (p := ⟨gl, 3, none⟩) H.out.bb m4 _) 0).trans rfl
    have hz0 : (W6.setCell ⟨gl, 3, none⟩ (.int .i64 p)).cell? ⟨w.heap.size, 0, none⟩ = some (.slice none 0 0) := (blk_cell (blk_far (p := ⟨gl, 3, none⟩) H.out.ba m2 _) 0).trans rfl
    have hzf := blk_frozen (blk_far (p := ⟨gl, 3, none⟩) H.out.ba m2 (.int .i64 p)) 0
    go_wp2
    obtain ⟨d1, d2, d3, d4, d5⟩ := L2.done (v := .slice (some ⟨go, 0, none⟩) X.length c) (H.out.st.far (p := ⟨gl, 3, none⟩) (IsS107.ne_blk H.out.st HGC.out (by decide)) (.int .i64 p)) (keep_far (p := ⟨gl, 3, none⟩) H.out.keep HGL.out (.int .i64 p)) (below_set H.out.below (Nat.le_trans H.out.hw HGL.out)) H.out.hw (blk_far (p := ⟨gl, 3, none⟩) H.out.ba m2 (.int .i64 p)) (S_cut HPUT.out) H.out.ga
    refine bodyPost_ret (results_cell_row rfl _ _ w.heap.size 29 #[.slice (some ⟨go, 0, none⟩) X.length c] (0, 0) _ rfl d1 hu29 rfl (by kernel_rfl)) rfl ?_
    exact ⟨_, rfl, d2, d3, d4, d5⟩
   ·rw [if_neg hc] at h3
    cases h3
  ·rw [if_neg t1] at h3
   have e1 : (t == 1) = false := beq_eq_false_iff_ne.mpr t1
   by_cases t2 : t = 2
   ·subst t2
    rw [if_pos rfl] at h3
    simp only [Option.some.injEq, Prod.mk.injEq] at h3
    obtain ⟨rfl, rfl, rfl⟩ := h3
    go_wp2
    obtain ⟨d1, d2, d3, d4, d5⟩ := L2.done (v := .slice none 0 0) (H.out.st.far (p := ⟨b, 0, none⟩) (IsS107.ne_blk H.out.st H.out.bb (by decide)) (.slice none 0 0)) (keep_far (p := ⟨b, 0, none⟩) H.out.keep H.out.gb (.slice none 0 0)) (below_set H.out.below (Nat.le_trans H.out.hw H.out.gb)) H.out.hw (blk_far (p := ⟨b, 0, none⟩) H.out.ba H.out.ab (.slice none 0 0)) (Kd.S_nil _ _ _ _ _) H.out.ga
    refine bodyPost_ret (results_cell_row rfl _ _ w.heap.size 29 #[.slice none 0 0] (0, 0) _ rfl d1 hu29 rfl (by kernel_rfl)) rfl ?_
    exact ⟨_, rfl, d2, d3, d4, d5⟩
   ·rw [if_neg t2] at h3
    have e2 : (t == 2) = false := beq_eq_false_iff_ne.mpr t2
    simp only [Option.some.injEq, Prod.mk.injEq] at h3
    obtain ⟨rfl, rfl, rfl⟩ := h3
    go_wp2
    obtain ⟨d1, d2, d3, d4, d5⟩ := L2.done (v := .slice A X.length c) (H.out.st) (H.out.keep) (H.out.below) H.out.hw (H.out.ba) (S_cut H.out.row) H.out.ga
    refine bodyPost_ret (results_cell_row rfl _ _ w.heap.size 29 #[.slice A X.length c] (0, 0) _ rfl d1 hu29 rfl (by kernel_rfl)) rfl ?_
    exact ⟨_, rfl, d2, d3, d4, d5⟩
theorem spec_l2DrawRight.callsC (k : Nat) (g : Nat) (s0_0 : List Int) (s0_1 : Int) (s0_2 : Int) (r1 : List (List Int)) (r2 : Int) (r3 : Int) (w0 w : World) (hI : IsS107 w0 w g s0_0 s0_1 s0_2) (hB : Below w0.heap.size w0 w) (h : spec_l2DrawRight.f k s0_0 s0_1 s0_2 = some (r1, r2, r3)) :
  Calls Try.prog 69 #[.pointer (some ⟨g, 0, none⟩)] w fun e w' => ∃ v0_ : Value, e = .returned (.agg #[v0_]) ∧ Kd.S (cutK 3 (Kd.int .i64)) 30 w' w.heap.size (fun _ => True) v0_ r1 ∧ IsS107 w0 w' g s0_0 r2 r3 ∧ Below w0.heap.size w0 w' ∧ KeepBut w w' g none :=
 (spec_l2DrawRight.calls k g s0_0 s0_1 s0_2 r1 r2 r3 w0 w hI hB h).mono fun e w' ⟨v, he, hS, h2⟩ => ⟨v, he, S_cut hS, h2⟩

/-! ### spec_DrawImageBytes: function 16 -/
def spec_DrawImageBytes.f (k : Nat) (l0 : List Int) : Option ((List (List Int))) := (spec_l1New.f k l0).bind fun bt282 => ((spec_l2Draw.f k bt282.1 bt282.2.1 bt282.2.2).bind fun bt286 => (some bt286.1))
theorem spec_DrawImageBytes.mono : ∀ a0 k, LeO (spec_DrawImageBytes.f k a0) (spec_DrawImageBytes.f (k + 1) a0) := by
 intro a0 k
 unfold spec_DrawImageBytes.f
 repeat' first
   | (with_reducible exact spec_l1New.mono _ _)
   | (with_reducible exact spec_l2Draw.mono _ _ _ _)
   | (with_reducible exact LeO.refl _)
   | (with_reducible exact LeO.none _)
   | (with_reducible refine LeO.ite ?_ ?_)
   | (with_reducible refine LeO.bind ?_ (fun _ => ?_))
   | exact spec_l1New.mono _ _
   | exact spec_l2Draw.mono _ _ _ _
   | exact LeO.none _
   | refine LeO.ite ?_ ?_
   | refine LeO.bind ?_ (fun _ => ?_)
set_option maxHeartbeats 8000000 in
set_option maxRecDepth 100000 in
theorem spec_DrawImageBytes.calls (k : Nat) (A0 : Option Addr) (c0 : Nat) (l0 : List Int) (r : List (List Int)) (w : World) (hr0 : Kd.C (Kd.int .u8) w A0 l0.length l0) (hc0 : l0.length ≤ c0) (h : spec_DrawImageBytes.f k l0 = some r) :
  Calls Try.prog 16 #[.slice A0 l0.length c0] w fun e w' => ∃ v0_ : Value, e = .returned (.agg #[v0_]) ∧ Kd.S (cutK 3 (Kd.int .i64)) 30 w' w.heap.size (fun _ => True) v0_ r ∧ Below w.heap.size w w' := by
 have hu29 := Try.underlying29
 have HR0 := Aside0.mk hr0
 have HC0 := Aside0.mk hc0
 clear hr0 hc0
 have HB := Aside0.mk (Below.refl w.heap.size w)
 have H : ((spec_l1New.f k l0).bind fun bt282 => ((spec_l2Draw.f k bt282.1 bt282.2.1 bt282.2.2).bind fun bt286 => (some bt286.1))) = some r := h
 clear h
 replace H := Option.bind_eq_some_iff.mp H
 obtain ⟨⟨t282, t283, t284⟩, A20, H⟩ := H
 replace H : ((spec_l2Draw.f k t282 t283 t284).bind fun bt286 => (some bt286.1)) = some r := H
 have A2 := Aside0.mk A20
 clear A20
 replace H := Option.bind_eq_some_iff.mp H
 obtain ⟨⟨t286, t289, t290⟩, A30, H⟩ := H
 replace H : (some t286) = some r := H
 have A3 := Aside0.mk A30
 clear A30
 obtain rfl := Option.some.inj H
 go_enter Try.func16, Try.ntmps16
 go_wp2_with (first | ((with_reducible refine gate_dst (N := 2) rfl ?_); refine bx (N := 2) (cs := #[.slice none 0 0]) (t := 29) ?_; intro gb281 hg w4 hbox hb; have n0_ := Aside0.mk (below_step (bw HB.out) hb); have n1_ := Aside0.mk (hbox); have n2_ := Aside0.mk ((gs hg (bw HB.out))); have n3_ := Aside0.mk ((gs hg (bw HB.out))); clear HB; have HB := n0_; have BK281 := n1_; have GW281 := n2_; have GE281 := n3_; clear n0_ n1_ n2_ n3_; clear hb hbox hg) | ((with_reducible refine gate_callee (f := 57) rfl ?_); refine goesM_ (some 4) rfl rfl Try.func57 #[.slice A0 l0.length c0] ?_; (with_reducible refine (spec_l1New.calls k _ _ l0 t282 t283 t284 w _ ?side1 ?side2 ?side3 A2.out).mono ?_); (case side1 => exact bw HB.out); (case side2 => exact HR0.out); (case side3 => exact HC0.out); rintro e w5 ⟨g285, rfl, hi, hb, hb2⟩; refine ⟨_, rfl, ?_⟩; have n0_ := Aside0.mk (blk_below (g := gb281) (o := .cells #[.slice none 0 0] 29 (0, 0)) (kb BK281.out) hb2); have n1_ := Aside0.mk (hb); have n2_ := Aside0.mk (hi); have n3_ := Aside0.mk (IsS107.ne_blk hi (blk_below (g := gb281) (o := .cells #[.slice none 0 0] 29 (0, 0)) (kb BK281.out) hb2) (by decide)); have n4_ := Aside0.mk (Ne.symm (IsS107.ne_blk hi (blk_below (g := gb281) (o := .cells #[.slice none 0 0] 29 (0, 0)) (kb BK281.out) hb2) (by decide))); clear BK281; clear HB; have BK281 := n0_; have HB := n1_; have HI285 := n2_; have NB285_281 := n3_; have NB281_285 := n4_; clear n0_ n1_ n2_ n3_ n4_; (try clear hb); (try clear hb2); (try clear hk); (try clear hi)) | ((with_reducible refine gate_callee (f := 65) rfl ?_); refine goesM_ (some 5) rfl rfl Try.func65 #[.pointer (some ⟨g285, 0, none⟩)] ?_; (with_reducible refine (spec_l2Draw.calls k g285 t282 t283 t284 t286 t289 t290 w _ ?side1 ?side2 A3.out).mono ?_); (case side1 => exact si HI285.out); (case side2 => exact bi HB.out); rintro e w6 ⟨v287, rfl, ho0, hi, hb, hk⟩; refine ⟨_, rfl, ?_⟩; have n0_ := Aside0.mk (KeepBut.blk hk (g' := gb281) (o := .cells #[.slice none 0 0] 29 (0, 0)) (kb BK281.out) NB281_285.out (by simp)); have n1_ := Aside0.mk (Kd.S_lower ho0 (below_size (bi HB.out))); have n2_ := Aside0.mk (hb); have n3_ := Aside0.mk (hi); clear BK281; clear HB; clear HI285; have BK281 := n0_; have HO288 := n1_; have HB := n2_; have HI285 := n3_; clear n0_ n1_ n2_ n3_; (try clear hb); (try clear hb2); (try clear hk); (try clear hi); (try clear ho0); obtain ⟨Ao7, co7, eo7⟩ := Kd.S_slice HO288.out; subst eo7; have hnb8 := NB281_285.out; have hnc8 := NB285_281.out; have hcz9_0 : w6.cell? ⟨gb281, 0, none⟩ = some (.slice none 0 0) := (blk_cell BK281.out 0).trans rfl; have hfz9_0 := blk_frozen BK281.out 0))
 refine bodyPost_ret (results_cell_row rfl _ _ gb281 29 #[.slice Ao7 t286.length co7] (0, 0) _ rfl (kt BK281.out) Try.underlying29 rfl (by kernel_rfl)) rfl ?_
 exact ⟨_, rt, ks (Kd.S_mono (Kd.S_far (p := ⟨gb281, 0, none⟩) (Kd.S_types HO288.out BK281.out (by decide)) (fun _ hk => hk.2) (.slice Ao7 t286.length co7)) (fun _ hk => trivial)), bi HB.out⟩

/-! ### impl_within: function 67 -/
def impl_within.f (a0 : Int) (a1 : Int) (a2 : Int) : Option (Bool) := if a0 ≥ a1 then (some (decide (a0 ≤ a2))) else (some false)
set_option maxHeartbeats 8000000 in
set_option maxRecDepth 100000 in
theorem impl_within.calls (a0 : Int) (a1 : Int) (a2 : Int) (r : Bool) (w : World) (h : impl_within.f a0 a1 a2 = some r) :
  Calls Try.prog 67 #[.int .i64 a0, .int .i64 a1, .int .i64 a2] w fun e w' => e = .returned (.bool r) ∧ Drawn0 w w' := by
 have H : (if a0 ≥ a1 then (some (decide (a0 ≤ a2))) else (some false)) = some r := h
 clear h
 by_cases c4 : a0 ≥ a1
 ·rw [if_pos c4] at H
  have c4b0 : decide (a1 ≤ a0) = true := decide_eq_true c4
  clear c4
  obtain rfl := Option.some.inj H
  go_enter Try.func67, Try.ntmps67
  go_wp2
  go_ret
  exact ⟨by first | rfl | (simp; done) | (simp [*]; done), by repeat (first | exact Drawn0.refl _ | apply Drawn0.step)⟩
 ·rw [if_neg c4] at H
  have c4b0 : decide (a1 ≤ a0) = false := decide_eq_false c4
  clear c4
  obtain rfl := Option.some.inj H
  go_enter Try.func67, Try.ntmps67
  go_wp2
  go_ret
  exact ⟨by first | rfl | (simp; done) | (simp [*]; done), by repeat (first | exact Drawn0.refl _ | apply Drawn0.step)⟩

/-! ### impl_isByte: function 104 -/
def impl_isByte.f (a0 : Int) : Option (Bool) := (impl_within.f a0 0 255).bind fun t291 => (some t291)
set_option maxHeartbeats 8000000 in
set_option maxRecDepth 100000 in
theorem impl_isByte.calls (a0 : Int) (r : Bool) (w : World) (h : impl_isByte.f a0 = some r) :
  Calls Try.prog 104 #[.int .i64 a0] w fun e w' => e = .returned (.bool r) ∧ Drawn0 w w' := by
 have H : ((impl_within.f a0 0 255).bind fun t291 => (some t291)) = some r := h
 clear h
 replace H := Option.bind_eq_some_iff.mp H
 obtain ⟨t291, A20, H⟩ := H
 replace H : (some t291) = some r := H
 have A2 := Aside0.mk A20
 clear A20
 obtain rfl := Option.some.inj H
 go_enter Try.func104, Try.ntmps104
 go_wp2_with (first | ((with_reducible refine gate_callee (f := 67) rfl ?_); refine goesM_ (some 4) rfl rfl Try.func67 #[.int .i64 a0, .int .i64 0, .int .i64 255] ?_; (with_reducible refine (impl_within.calls a0 0 255 t291 _ A2.out).mono ?_); rintro e w' ⟨rfl, ⟨nd, rfl⟩⟩; refine ⟨_, rfl, ?_⟩))
 go_ret
 exact ⟨by first | rfl | (simp; done) | (simp [*]; done), by repeat (first | exact Drawn0.refl _ | apply Drawn0.step)⟩

/-! ### impl_bytesOk: function 66 -/
def impl_bytesOk.l0 : Nat → List Int → Int → Int → Option (Bool)
 | 0, _, _, _ => none
 | k + 1, x5, x6, x7 => if x7 < x6 then (if 0 ≤ x7 then (if x7 < (x5.length : Int) then ((impl_isByte.f (rd x5 x7)).bind fun t293 => (if t293 = true then (impl_bytesOk.l0 k x5 x6 (wrap64 (x7 + 1))) else (some false))) else (none)) else (none)) else (some true)
def impl_bytesOk.f (k : Nat) (l0 : List Int) : Option (Bool) := impl_bytesOk.l0 k l0 (l0.length : Int) 0
theorem impl_bytesOk.mono_l : ∀ k, (∀ y0 y1 y2, LeO (impl_bytesOk.l0 k y0 y1 y2) (impl_bytesOk.l0 (k + 1) y0 y1 y2))
 | 0 => fun _ _ _ r h => by simp [impl_bytesOk.l0] at h
 | k + 1 => by
  have ih0 := impl_bytesOk.mono_l k
  ·intro y0 y1 y2
   unfold impl_bytesOk.l0
   repeat' first
   | (with_reducible exact ih0 _ _ _)
   | (with_reducible exact LeO.refl _)
   | (with_reducible exact LeO.none _)
   | (with_reducible refine LeO.ite ?_ ?_)
   | (with_reducible refine LeO.bind ?_ (fun _ => ?_))
   | exact ih0 _ _ _
   | exact LeO.none _
   | refine LeO.ite ?_ ?_
   | refine LeO.bind ?_ (fun _ => ?_)
theorem impl_bytesOk.mono : ∀ a0 k, LeO (impl_bytesOk.f k a0) (impl_bytesOk.f (k + 1) a0) := by
 intro a0 k
 have ih0 := impl_bytesOk.mono_l k
 unfold impl_bytesOk.f
 repeat' first
   | (with_reducible exact ih0 _ _ _)
   | (with_reducible exact LeO.refl _)
   | (with_reducible exact LeO.none _)
   | (with_reducible refine LeO.ite ?_ ?_)
   | (with_reducible refine LeO.bind ?_ (fun _ => ?_))
   | exact ih0 _ _ _
   | exact LeO.none _
   | refine LeO.ite ?_ ?_
   | refine LeO.bind ?_ (fun _ => ?_)
set_option maxHeartbeats 8000000 in
set_option maxRecDepth 100000 in
theorem impl_bytesOk.calls (k : Nat) (A0 : Option Addr) (c0 : Nat) (l0 : List Int) (r : Bool) (w : World) (hr0 : Kd.C (Kd.int .i64) w A0 l0.length l0) (hc0 : l0.length ≤ c0) (h : impl_bytesOk.f k l0 = some r) :
  Calls Try.prog 66 #[.slice A0 l0.length c0] w fun e w' => e = .returned (.bool r) ∧ Drawn0 w w' := by
 have HR0 := Aside0.mk hr0
 have HC0 := Aside0.mk hc0
 clear hr0 hc0
 have H : (impl_bytesOk.l0 k l0 (l0.length : Int) 0) = some r := h
 clear h
 have H' := Aside0.mk H
 clear H
 go_enter Try.func66, Try.ntmps66
 go_wp2
 go_loopg [7] k (fun kq v7 w' => ∃ (x7_1 : Int), v7 = .int .i64 x7_1 ∧ Aside0 (impl_bytesOk.l0 kq l0 (l0.length : Int) x7_1 = some r) ∧ Aside0 (kq ≤ k) ∧ Drawn0 w w')
 case atStart => exact ⟨(0), (by first | rfl | (simp; done) | (simp [*]; done)), H', ⟨Nat.le_refl _⟩, by repeat (first | exact Drawn0.refl _ | apply Drawn0.step)⟩
 case round =>
  clear H'
  obtain ⟨x7_1, rfl, HA, HK1, ⟨m1, rfl⟩⟩ := hrel
  cases gk with
  | zero => exact absurd HA.out (by simp [impl_bytesOk.l0])
  | succ k1 =>
   have H := HA.out
   clear HA
   simp only [impl_bytesOk.l0] at H
   by_cases c2 : x7_1 < (l0.length : Int)
   ·rw [if_pos c2] at H
    have c2b0 : decide (x7_1 < (l0.length : Int)) = true := decide_eq_true c2
    clear c2
    by_cases c3 : 0 ≤ x7_1
    ·rw [if_pos c3] at H
     have c3b0 : decide (0 ≤ x7_1) = true := decide_eq_true c3
     clear c3
     by_cases c4 : x7_1 < (l0.length : Int)
     ·rw [if_pos c4] at H
      have c4b0 : decide (x7_1 < (l0.length : Int)) = true := decide_eq_true c4
      clear c4
      replace H := Option.bind_eq_some_iff.mp H
      obtain ⟨t293, A50, H⟩ := H
      replace H : (if t293 = true then (impl_bytesOk.l0 k1 l0 (l0.length : Int) (wrap64 (x7_1 + 1))) else (some false)) = some r := H
      have A5 := Aside0.mk A50
      clear A50
      by_cases c6 : t293 = true
      ·subst c6
       have H1 : (impl_bytesOk.l0 k1 l0 (l0.length : Int) (wrap64 (x7_1 + 1))) = some r := by rw [if_pos rfl] at H; exact H
       clear H
       have H := H1
       clear H1
       have H' := Aside0.mk H
       clear H
       have p292 : 0 ≤ (x7_1 : Int) := dt
       have q292 : x7_1 < (l0.length : Int) := dt
       obtain ⟨ad292, e292, hx292_0⟩ := Kd.at_int HR0.out x7_1 p292 q292
       cases e292
       replace p292 := eq_true p292
       replace q292 := eq_true q292
       go_wp2_with (first | ((with_reducible refine gate_callee (f := 104) rfl ?_); refine goesM_ (some 12) rfl rfl Try.func104 #[.int .i64 (rd l0 x7_1)] ?_; (with_reducible refine (impl_isByte.calls (rd l0 x7_1) true _ A5.out).mono ?_); rintro e w' ⟨rfl, ⟨nd, rfl⟩⟩; refine ⟨_, rfl, ?_⟩))
       go_roundg k1
       case measure => have := HK1.out; omega
       case rel => exact ⟨(wrap64 (x7_1 + 1)), (by first | rfl | (simp; done) | (simp [*]; done)), H', ⟨by have := HK1.out; omega⟩, by repeat (first | exact Drawn0.refl _ | apply Drawn0.step)⟩
      ·replace c6 := Bool.eq_false_iff.mpr c6
       subst c6
       have H1 : (some false) = some r := by rw [if_neg (show ¬ (false = true) by decide)] at H; exact H
       clear H
       have H := H1
       clear H1
       obtain rfl := Option.some.inj H
       have p292 : 0 ≤ (x7_1 : Int) := dt
       have q292 : x7_1 < (l0.length : Int) := dt
       obtain ⟨ad292, e292, hx292_0⟩ := Kd.at_int HR0.out x7_1 p292 q292
       cases e292
       replace p292 := eq_true p292
       replace q292 := eq_true q292
       go_wp2_with (first | ((with_reducible refine gate_callee (f := 104) rfl ?_); refine goesM_ (some 12) rfl rfl Try.func104 #[.int .i64 (rd l0 x7_1)] ?_; (with_reducible refine (impl_isByte.calls (rd l0 x7_1) false _ A5.out).mono ?_); rintro e w' ⟨rfl, ⟨nd, rfl⟩⟩; refine ⟨_, rfl, ?_⟩))
       go_ret
       exact ⟨by first | rfl | (simp; done) | (simp [*]; done), by repeat (first | exact Drawn0.refl _ | apply Drawn0.step)⟩
     ·rw [if_neg c4] at H
      exact absurd H (by simp)
    ·rw [if_neg c3] at H
     exact absurd H (by simp)
   ·rw [if_neg c2] at H
    have c2b0 : decide (x7_1 < (l0.length : Int)) = false := decide_eq_false c2
    clear c2
    obtain rfl := Option.some.inj H
    go_wp2
    go_ret
    exact ⟨by first | rfl | (simp; done) | (simp [*]; done), by repeat (first | exact Drawn0.refl _ | apply Drawn0.step)⟩

/-! ### impl_ImageOk: function 19 -/
def impl_ImageOk.l0 : Nat → List (List Int) → Int → Int → List (List Int) → Option (Bool)
 | 0, _, _, _, _ => none
 | k + 1, x6, x7, x8, x295000 => if x8 < x7 then (if 0 ≤ x8 then (if x8 < (x6.length : Int) then (if ((rd_L3 x6 x8).length : Int) = 256 then ((impl_bytesOk.f k (rd_L3 x6 x8)).bind fun t296 => (if t296 = true then (impl_ImageOk.l0 k x6 x7 (wrap64 (x8 + 1)) x295000) else (some false))) else (some false)) else (none)) else (none)) else ((impl_within.f (x295000.length : Int) 1 8).bind fun t297 => (some t297))
def impl_ImageOk.f (k : Nat) (l0_0 : List (List Int)) : Option (Bool) := impl_ImageOk.l0 k l0_0 (l0_0.length : Int) 0 l0_0
theorem impl_ImageOk.mono_l : ∀ k, (∀ y0 y1 y2 y3, LeO (impl_ImageOk.l0 k y0 y1 y2 y3) (impl_ImageOk.l0 (k + 1) y0 y1 y2 y3))
 | 0 => fun _ _ _ _ r h => by simp [impl_ImageOk.l0] at h
 | k + 1 => by
  have ih0 := impl_ImageOk.mono_l k
  ·intro y0 y1 y2 y3
   unfold impl_ImageOk.l0
   repeat' first
   | (with_reducible exact ih0 _ _ _ _)
   | (with_reducible exact impl_bytesOk.mono _ _)
   | (with_reducible exact LeO.refl _)
   | (with_reducible exact LeO.none _)
   | (with_reducible refine LeO.ite ?_ ?_)
   | (with_reducible refine LeO.bind ?_ (fun _ => ?_))
   | exact ih0 _ _ _ _
   | exact impl_bytesOk.mono _ _
   | exact LeO.none _
   | refine LeO.ite ?_ ?_
   | refine LeO.bind ?_ (fun _ => ?_)
theorem impl_ImageOk.mono : ∀ a0 k, LeO (impl_ImageOk.f k a0) (impl_ImageOk.f (k + 1) a0) := by
 intro a0 k
 have ih0 := impl_ImageOk.mono_l k
 unfold impl_ImageOk.f
 repeat' first
   | (with_reducible exact ih0 _ _ _ _)
   | (with_reducible exact impl_bytesOk.mono _ _)
   | (with_reducible exact LeO.refl _)
   | (with_reducible exact LeO.none _)
   | (with_reducible refine LeO.ite ?_ ?_)
   | (with_reducible refine LeO.bind ?_ (fun _ => ?_))
   | exact ih0 _ _ _ _
   | exact impl_bytesOk.mono _ _
   | exact LeO.none _
   | refine LeO.ite ?_ ?_
   | refine LeO.bind ?_ (fun _ => ?_)
set_option maxHeartbeats 8000000 in
set_option maxRecDepth 100000 in
theorem impl_ImageOk.calls (k : Nat) (A0_0 : Option Addr) (c0_0 : Nat) (l0_0 : List (List Int)) (r : Bool) (w : World) (hr0_0 : Kd.C (Kd.slice 3 (Kd.int .i64)) w A0_0 l0_0.length l0_0) (hc0_0 : l0_0.length ≤ c0_0) (h : impl_ImageOk.f k l0_0 = some r) :
  Calls Try.prog 19 #[.agg #[.slice A0_0 l0_0.length c0_0]] w fun e w' => e = .returned (.bool r) ∧ Below w.heap.size w w' := by
 have hu29 := Try.underlying29
 have HR0_0 := Aside0.mk hr0_0
 have HC0_0 := Aside0.mk hc0_0
 clear hr0_0 hc0_0
 have HB := Aside0.mk (Below.refl w.heap.size w)
 have H : (impl_ImageOk.l0 k l0_0 (l0_0.length : Int) 0 l0_0) = some r := h
 clear h
 have H' := Aside0.mk H
 clear H
 go_enter Try.func19, Try.ntmps19
 go_wp2_with (first | ((with_reducible refine gate_dst (N := 1) rfl ?_); refine bx (N := 1) (cs := #[.slice A0_0 l0_0.length c0_0]) (t := 29) ?_; intro gb294 hg w2 hbox hb; have n0_ := Aside0.mk (below_step (bw HB.out) hb); have n1_ := Aside0.mk (hbox); have n2_ := Aside0.mk ((gs hg (bw HB.out))); have n3_ := Aside0.mk ((gs hg (bw HB.out))); clear HB; have HB := n0_; have BK294 := n1_; have GW294 := n2_; have GE294 := n3_; clear n0_ n1_ n2_ n3_; clear hb hbox hg; have hcz3_0 : w2.cell? ⟨gb294, 0, none⟩ = some (.slice A0_0 l0_0.length c0_0) := (blk_cell BK294.out 0).trans rfl; have hfz3_0 := blk_frozen BK294.out 0))
 go_loopg [8] k (fun kq v8 w' => ∃ (x8_1 : Int), v8 = .int .i64 x8_1 ∧ Aside0 (impl_ImageOk.l0 kq l0_0 (l0_0.length : Int) x8_1 l0_0 = some r) ∧ Aside0 (kq ≤ k) ∧ Aside0 (w'.heap[gb294]? = some (.cells #[(.slice A0_0 l0_0.length c0_0)] 29 (0, 0))) ∧ Aside0 (Below w.heap.size w w'))
 case atStart => exact ⟨(0), (by first | rfl | (simp; done) | (simp [*]; done)), H', ⟨Nat.le_refl _⟩, ⟨kb BK294.out⟩, ⟨bw HB.out⟩⟩
 case round =>
  clear H'
  (try clear c1); (try clear p2); (try clear hcz3_0); (try clear hfz3_0)
  obtain ⟨x8_1, rfl, HA, HK1, BK294, HB⟩ := hrel
  cases gk with
  | zero => exact absurd HA.out (by simp [impl_ImageOk.l0])
  | succ k1 =>
   have H := HA.out
   clear HA
   simp only [impl_ImageOk.l0] at H
   by_cases c4 : x8_1 < (l0_0.length : Int)
   ·rw [if_pos c4] at H
    have c4b0 : decide (x8_1 < (l0_0.length : Int)) = true := decide_eq_true c4
    clear c4
    by_cases c5 : 0 ≤ x8_1
    ·rw [if_pos c5] at H
     have c5b0 : decide (0 ≤ x8_1) = true := decide_eq_true c5
     clear c5
     by_cases c6 : x8_1 < (l0_0.length : Int)
     ·rw [if_pos c6] at H
      have c6b0 : decide (x8_1 < (l0_0.length : Int)) = true := decide_eq_true c6
      clear c6
      by_cases c7 : ((rd_L3 l0_0 x8_1).length : Int) = 256
      ·rw [if_pos c7] at H
       have c7b0 : (((rd_L3 l0_0 x8_1).length : Int) == 256) = true := beq_iff_eq.mpr c7
       have c7b1 : (((rd_L3 l0_0 x8_1).length : Int) != 256) = false := bne_eq_false_iff_eq.mpr c7
       clear c7
       replace H := Option.bind_eq_some_iff.mp H
       obtain ⟨t296, A80, H⟩ := H
       replace H : (if t296 = true then (impl_ImageOk.l0 k1 l0_0 (l0_0.length : Int) (wrap64 (x8_1 + 1)) l0_0) else (some false)) = some r := H
       have A8 := Aside0.mk A80
       clear A80
       by_cases c9 : t296 = true
       ·subst c9
        have H1 : (impl_ImageOk.l0 k1 l0_0 (l0_0.length : Int) (wrap64 (x8_1 + 1)) l0_0) = some r := by rw [if_pos rfl] at H; exact H
        clear H
        have H := H1
        clear H1
        have H' := Aside0.mk H
        clear H
        have p295 : 0 ≤ (x8_1 : Int) := dt
        have q295 : x8_1 < (l0_0.length : Int) := dt
        obtain ⟨ad295, A295_0, c295_0, e295, hx295_0, hl295_0, hi295_0⟩ := at_L3 HR0_0.out x8_1 p295 q295
        cases e295
        replace hx295_0 := (HB.out.cell (World.block_lt_of_cell? w _ hx295_0)).trans hx295_0
        have HR295_0 := Aside0.mk hi295_0
        have HC295_0 := Aside0.mk hl295_0
        clear hi295_0 hl295_0
        replace p295 := eq_true p295
        replace q295 := eq_true q295
        go_wp2_with (first | (go_at_call 66; (with_reducible refine (impl_bytesOk.calls k1 _ _ (rd_L3 l0_0 x8_1) true _ ?side1 ?side2 A8.out).mono ?_); (case side1 => exact kc (Kd.C_below HR295_0.out HB.out)); (case side2 => exact HC295_0.out); rintro e w' ⟨rfl, ⟨nd, rfl⟩⟩))
        go_roundg k1
        case measure => have := HK1.out; omega
        case rel => exact ⟨(wrap64 (x8_1 + 1)), (by first | rfl | (simp; done) | (simp [*]; done)), H', ⟨by have := HK1.out; omega⟩, ⟨kb BK294.out⟩, ⟨bw HB.out⟩⟩
       ·replace c9 := Bool.eq_false_iff.mpr c9
        subst c9
        have H1 : (some false) = some r := by rw [if_neg (show ¬ (false = true) by decide)] at H; exact H
        clear H
        have H := H1
        clear H1
        obtain rfl := Option.some.inj H
        have p295 : 0 ≤ (x8_1 : Int) := dt
        have q295 : x8_1 < (l0_0.length : Int) := dt
        obtain ⟨ad295, A295_0, c295_0, e295, hx295_0, hl295_0, hi295_0⟩ := at_L3 HR0_0.out x8_1 p295 q295
        cases e295
        replace hx295_0 := (HB.out.cell (World.block_lt_of_cell? w _ hx295_0)).trans hx295_0
        have HR295_0 := Aside0.mk hi295_0
        have HC295_0 := Aside0.mk hl295_0
        clear hi295_0 hl295_0
        replace p295 := eq_true p295
        replace q295 := eq_true q295
        go_wp2_with (first | (go_at_call 66; (with_reducible refine (impl_bytesOk.calls k1 _ _ (rd_L3 l0_0 x8_1) false _ ?side1 ?side2 A8.out).mono ?_); (case side1 => exact kc (Kd.C_below HR295_0.out HB.out)); (case side2 => exact HC295_0.out); rintro e w' ⟨rfl, ⟨nd, rfl⟩⟩))
        go_ret
        exact ⟨rt, bw HB.out⟩
      ·rw [if_neg c7] at H
       have c7b0 : (((rd_L3 l0_0 x8_1).length : Int) == 256) = false := beq_eq_false_iff_ne.mpr c7
       have c7b1 : (((rd_L3 l0_0 x8_1).length : Int) != 256) = true := bne_iff_ne.mpr c7
       obtain rfl := Option.some.inj H
       have p295 : 0 ≤ (x8_1 : Int) := dt
       have q295 : x8_1 < (l0_0.length : Int) := dt
       obtain ⟨ad295, A295_0, c295_0, e295, hx295_0, hl295_0, hi295_0⟩ := at_L3 HR0_0.out x8_1 p295 q295
       cases e295
       replace hx295_0 := (HB.out.cell (World.block_lt_of_cell? w _ hx295_0)).trans hx295_0
       have HR295_0 := Aside0.mk hi295_0
       have HC295_0 := Aside0.mk hl295_0
       clear hi295_0 hl295_0
       replace p295 := eq_true p295
       replace q295 := eq_true q295
       go_wp2
       go_ret
       exact ⟨rt, bw HB.out⟩
     ·rw [if_neg c6] at H
      exact absurd H (by simp)
    ·rw [if_neg c5] at H
     exact absurd H (by simp)
   ·rw [if_neg c4] at H
    have c4b0 : decide (x8_1 < (l0_0.length : Int)) = false := decide_eq_false c4
    clear c4
    replace H := Option.bind_eq_some_iff.mp H
    obtain ⟨t297, A100, H⟩ := H
    replace H : (some t297) = some r := H
    have A10 := Aside0.mk A100
    clear A100
    obtain rfl := Option.some.inj H
    have hcz11_0 : wr.cell? ⟨gb294, 0, none⟩ = some (.slice A0_0 l0_0.length c0_0) := (blk_cell BK294.out 0).trans rfl
    have hfz11_0 := blk_frozen BK294.out 0
    go_wp2_with (first | ((with_reducible refine gate_callee (f := 67) rfl ?_); refine goesM_ (some 24) rfl rfl Try.func67 #[.int .i64 (l0_0.length : Int), .int .i64 1, .int .i64 8] ?_; (with_reducible refine (impl_within.calls (l0_0.length : Int) 1 8 t297 _ A10.out).mono ?_); rintro e w' ⟨rfl, ⟨nd, rfl⟩⟩; refine ⟨_, rfl, ?_⟩))
    go_ret
    exact ⟨rt, bw HB.out⟩

/-! ### impl_Byte: function 34 -/
def impl_Byte.f (a0 : Int) : Option (Int) := some (Go.bits .and .i64 a0 255)
set_option maxHeartbeats 8000000 in
set_option maxRecDepth 100000 in
theorem impl_Byte.calls (a0 : Int) (r : Int) (w : World) (h : impl_Byte.f a0 = some r) :
  Calls Try.prog 34 #[.int .i64 a0] w fun e w' => e = .returned (.int .i64 r) ∧ Drawn0 w w' := by
 have H : (some (Go.bits .and .i64 a0 255)) = some r := h
 clear h
 obtain rfl := Option.some.inj H
 go_enter Try.func34, Try.ntmps34
 go_wp2
 go_ret
 exact ⟨by first | rfl | (simp; done) | (simp [*]; done), by repeat (first | exact Drawn0.refl _ | apply Drawn0.step)⟩

end Go.Proofs.Ytmkccgbfgebfbaa.MFnImage
