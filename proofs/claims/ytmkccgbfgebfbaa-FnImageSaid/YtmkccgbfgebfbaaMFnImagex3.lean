/- Walks of functions that the law FnImage reaches: each comes to just what its Lean function says. (Begun as the texts that print.sh wrote for this claim; some of them, and those that it does not write, are mine.) No condition. -/
import Derived.Test.YtmkccgbfgebfbaaMFnImagex2
namespace Go.Proofs.Ytmkccgbfgebfbaa.MFnImage
open Go.RowKit Go.Proofs.YtmkccgbfgebfbaaW.PrintWords Go.Proofs.YtmkccgbfgebfbaaW.PrintLast Go.Proofs.YtmkccgbfgebfbaaW.PrintMore
attribute [local go_sem] max2_int min2_int max_two min_two max_three min_three max_four min_four   -- for this text's walks alone
set_option linter.unusedVariables false
set_option linter.unusedSimpArgs false

/-! ### impl_ImageBytes: function 17 -/
mutual
def impl_ImageBytes.l0 : Nat → List Int → Int → List (List Int) → Int → Int → List (List Int) → Option (List Int)
 | 0, _, _, _, _, _, _ => none
 | k + 1, x3, x4, x15, x16, x17, x299000 => if x17 < x16 then (if 0 ≤ x17 then (if x17 < (x15.length : Int) then (impl_ImageBytes.l1 k x3 x4 x15 x16 x17 (rd_L3 x15 x17) ((rd_L3 x15 x17).length : Int) 0 x299000) else (none)) else (none)) else ((some (([50, 67, 76, 75] : List Int) : List Int)).bind fun y303 => ((impl_Byte.f x4).bind fun t306 => ((some (([((x299000.length : Int)) % 256, (t306) % 256] : List Int) : List Int)).bind fun y307 => (if y303.length + y307.length < 140737488355328 then ((some (y303 ++ y307 : List Int)).bind fun y310 => (if y310.length + x3.length < 140737488355328 then (some (y310 ++ x3)) else (none))) else (none)))))
def impl_ImageBytes.l1 : Nat → List Int → Int → List (List Int) → Int → Int → List Int → Int → Int → List (List Int) → Option (List Int)
 | 0, _, _, _, _, _, _, _, _, _ => none
 | k + 1, x3, x4, x15, x16, x17, x21, x22, x23, x299000 => if x23 < x22 then (if 0 ≤ x23 then (if x23 < (x21.length : Int) then (if x3.length < 140737488355328 then (impl_ImageBytes.l1 k (x3 ++ [(rd x21 x23) % 256]) (wrap64 (x4 + (rd x21 x23))) x15 x16 x17 x21 x22 (wrap64 (x23 + 1)) x299000) else (none)) else (none)) else (none)) else (impl_ImageBytes.l0 k x3 x4 x15 x16 (wrap64 (x17 + 1)) x299000)
end
def impl_ImageBytes.f (k : Nat) (l0_0 : List (List Int)) : Option (List Int) := (impl_ImageOk.f k l0_0).bind fun t299 => (if t299 = true then (impl_ImageBytes.l0 k (([] : List Int)) 0 l0_0 (l0_0.length : Int) 0 l0_0) else (some ([] : List Int)))
theorem impl_ImageBytes.mono_l : ∀ k, (∀ y0 y1 y2 y3 y4 y5, LeO (impl_ImageBytes.l0 k y0 y1 y2 y3 y4 y5) (impl_ImageBytes.l0 (k + 1) y0 y1 y2 y3 y4 y5)) ∧ (∀ y0 y1 y2 y3 y4 y5 y6 y7 y8, LeO (impl_ImageBytes.l1 k y0 y1 y2 y3 y4 y5 y6 y7 y8) (impl_ImageBytes.l1 (k + 1) y0 y1 y2 y3 y4 y5 y6 y7 y8))
 | 0 => ⟨fun _ _ _ _ _ _ r h => by simp [impl_ImageBytes.l0] at h, fun _ _ _ _ _ _ _ _ _ r h => by simp [impl_ImageBytes.l1] at h⟩
 | k + 1 => by
  obtain ⟨ih0, ih1⟩ := impl_ImageBytes.mono_l k
  refine ⟨?_, ?_⟩
  ·intro y0 y1 y2 y3 y4 y5
   unfold impl_ImageBytes.l0
   repeat' first
   | (with_reducible exact ih0 _ _ _ _ _ _)
   | (with_reducible exact ih1 _ _ _ _ _ _ _ _ _)
   | (with_reducible exact impl_ImageOk.mono _ _)
   | (with_reducible exact LeO.refl _)
   | (with_reducible exact LeO.none _)
   | (with_reducible refine LeO.ite ?_ ?_)
   | (with_reducible refine LeO.bind ?_ (fun _ => ?_))
   | exact ih0 _ _ _ _ _ _
   | exact ih1 _ _ _ _ _ _ _ _ _
   | exact impl_ImageOk.mono _ _
   | exact LeO.none _
   | refine LeO.ite ?_ ?_
   | refine LeO.bind ?_ (fun _ => ?_)
  ·intro y0 y1 y2 y3 y4 y5 y6 y7 y8
   unfold impl_ImageBytes.l1
   repeat' first
   | (with_reducible exact ih0 _ _ _ _ _ _)
   | (with_reducible exact ih1 _ _ _ _ _ _ _ _ _)
   | (with_reducible exact impl_ImageOk.mono _ _)
   | (with_reducible exact LeO.refl _)
   | (with_reducible exact LeO.none _)
   | (with_reducible refine LeO.ite ?_ ?_)
   | (with_reducible refine LeO.bind ?_ (fun _ => ?_))
   | exact ih0 _ _ _ _ _ _
   | exact ih1 _ _ _ _ _ _ _ _ _
   | exact impl_ImageOk.mono _ _
   | exact LeO.none _
   | refine LeO.ite ?_ ?_
   | refine LeO.bind ?_ (fun _ => ?_)
theorem impl_ImageBytes.mono : ∀ a0 k, LeO (impl_ImageBytes.f k a0) (impl_ImageBytes.f (k + 1) a0) := by
 intro a0 k
 obtain ⟨ih0, ih1⟩ := impl_ImageBytes.mono_l k
 unfold impl_ImageBytes.f
 repeat' first
   | (with_reducible exact ih0 _ _ _ _ _ _)
   | (with_reducible exact ih1 _ _ _ _ _ _ _ _ _)
   | (with_reducible exact impl_ImageOk.mono _ _)
   | (with_reducible exact LeO.refl _)
   | (with_reducible exact LeO.none _)
   | (with_reducible refine LeO.ite ?_ ?_)
   | (with_reducible refine LeO.bind ?_ (fun _ => ?_))
   | exact ih0 _ _ _ _ _ _
   | exact ih1 _ _ _ _ _ _ _ _ _
   | exact impl_ImageOk.mono _ _
   | exact LeO.none _
   | refine LeO.ite ?_ ?_
   | refine LeO.bind ?_ (fun _ => ?_)
def impl_ImageBytes.T15 : Bool × List (List Nat × List Nat) := (true, [([], []), ([0], [0]), ([], []), ([2], [2]), ([3], [3]), ([4], [4]), ([], []), ([6], [6]), ([7], [7]), ([5, 8], [5, 8]), ([1, 9, 7], [1, 9]), ([10, 10, 0, 1, 2, 3, 4, 5, 6, 7, 8, 9, 10], [10])])
def impl_ImageBytes.B15 : List Nat := [0, 1, 0, 4, 12, 28, 0, 64, 192, 508, 1023, 2047]
theorem impl_ImageBytes.tab15 : rtab .any (opsOf Try.f17 15) = impl_ImageBytes.T15 := by kernel_rfl
theorem impl_ImageBytes.bits15 : waitsOk impl_ImageBytes.T15.2 impl_ImageBytes.B15 = true := by kernel_rfl
set_option maxHeartbeats 8000000 in
set_option maxRecDepth 100000 in
theorem impl_ImageBytes.calls (k : Nat) (A0_0 : Option Addr) (c0_0 : Nat) (l0_0 : List (List Int)) (r : List Int) (w : World) (hr0_0 : Kd.C (Kd.slice 3 (Kd.int .i64)) w A0_0 l0_0.length l0_0) (hc0_0 : l0_0.length ≤ c0_0) (h : impl_ImageBytes.f k l0_0 = some r) :
  Calls Try.prog 17 #[.agg #[.slice A0_0 l0_0.length c0_0]] w fun e w' => ∃ v0_ : Value, e = .returned (v0_) ∧ Kd.R (Kd.int .u8) 5 w' w.heap.size (fun _ => True) v0_ r ∧ Below w.heap.size w w' := by
 have hu29 := Try.underlying29
 have HR0_0 := Aside0.mk hr0_0
 have HC0_0 := Aside0.mk hc0_0
 clear hr0_0 hc0_0
 have HB := Aside0.mk (Below.refl w.heap.size w)
 have H : ((impl_ImageOk.f k l0_0).bind fun t299 => (if t299 = true then (impl_ImageBytes.l0 k (([] : List Int)) 0 l0_0 (l0_0.length : Int) 0 l0_0) else (some ([] : List Int)))) = some r := h
 clear h
 replace H := Option.bind_eq_some_iff.mp H
 obtain ⟨t299, A20, H⟩ := H
 replace H : (if t299 = true then (impl_ImageBytes.l0 k (([] : List Int)) 0 l0_0 (l0_0.length : Int) 0 l0_0) else (some ([] : List Int))) = some r := H
 have A2 := Aside0.mk A20
 clear A20
 by_cases c3 : t299 = true
 ·subst c3
  have H1 : (impl_ImageBytes.l0 k (([] : List Int)) 0 l0_0 (l0_0.length : Int) 0 l0_0) = some r := by rw [if_pos rfl] at H; exact H
  clear H
  have H := H1
  clear H1
  obtain ⟨y300, hy300⟩ : ∃ y_ : List Int, y_ = (([] : List Int)) := ⟨_, rfl⟩
  replace H : (impl_ImageBytes.l0 k y300 0 l0_0 (l0_0.length : Int) 0 l0_0) = some r := by first | (rw [hy300]; with_reducible exact H) | (have H2_ := (Option.bind_some _ _).symm.trans H; rw [hy300]; with_reducible exact H2_) | (have H2_ := (Option.bind_some _ _).symm.trans H; with_reducible exact H2_) | with_reducible exact H | (rw [hy300]; exact H) | exact H
  have Ny300 := Aside0.mk hy300
  clear hy300
  have H' := Aside0.mk H
  clear H
  go_enter Try.func17, Try.ntmps17
  go_wp2_with (first | ((with_reducible refine gate_dst (N := 1) rfl ?_); refine bx (N := 1) (cs := #[.slice A0_0 l0_0.length c0_0]) (t := 29) ?_; intro gb298 hg w4 hbox hb; have n0_ := Aside0.mk (below_step (bw HB.out) hb); have n1_ := Aside0.mk (hbox); have n2_ := Aside0.mk ((gs hg (bw HB.out))); have n3_ := Aside0.mk ((gs hg (bw HB.out))); clear HB; have HB := n0_; have BK298 := n1_; have GW298 := n2_; have GE298 := n3_; clear n0_ n1_ n2_ n3_; clear hb hbox hg; have hcz5_0 : w4.cell? ⟨gb298, 0, none⟩ = some (.slice A0_0 l0_0.length c0_0) := (blk_cell BK298.out 0).trans rfl; have hfz5_0 := blk_frozen BK298.out 0) | ((with_reducible refine gate_callee (f := 19) rfl ?_); refine goesM_ (some 11) rfl rfl Try.func19 #[.agg #[.slice A0_0 l0_0.length c0_0]] ?_; (with_reducible refine (impl_ImageOk.calls k _ _ l0_0 true _ ?side1 ?side2 A2.out).mono ?_); (case side1 => exact kc (Kd.C_below HR0_0.out HB.out)); (case side2 => exact HC0_0.out); rintro e w6 ⟨rfl, hb⟩; refine ⟨_, rfl, ?_⟩; have n0_ := Aside0.mk (blk_below (g := gb298) (o := .cells #[.slice A0_0 l0_0.length c0_0] 29 (0, 0)) (kb BK298.out) hb); have n1_ := Aside0.mk (below_step (bw HB.out) hb); clear BK298; clear HB; have BK298 := n0_; have HB := n1_; clear n0_ n1_; (try clear hb); (try clear hb2); (try clear hk); (try clear hi)) | ((with_reducible refine gate_dst (N := 13) rfl ?_); refine Kd.R_lit (Kd.int .u8) _ 5 ?hg (N := 13) ?hd (xs := ([] : List Int)) (inner := []) (ok := fun _ => True) (okp := fun _ => True) ?hr ?hp (fun _ hk => hk) trivial (Below.refl _ _) (Nat.le_refl _) (by simp) ?_; (case hd => rfl); (case hg => rfl); (case hr => first | (go_simp; done) | (go_simp; rfl)); (case hp => exact (Reps.none _ _)); intro v301 w7 ho8 hb hg_ hnew_; clear hg_ hnew_; (first | rw [← Ny300.out] at ho8 | (simp only [Int.reduceToNat] at ho8; rw [← Ny300.out] at ho8)); have n0_ := Aside0.mk (Kd.R_lower ho8 (below_size (bw HB.out))); have n1_ := Aside0.mk (blk_below (g := gb298) (o := .cells #[.slice A0_0 l0_0.length c0_0] 29 (0, 0)) (kb BK298.out) hb); have n2_ := Aside0.mk (below_step (bw HB.out) hb); clear BK298; clear HB; have HO302 := n0_; have BK298 := n1_; have HB := n2_; clear n0_ n1_ n2_; clear hb ho8; have hcz9_0 : w7.cell? ⟨gb298, 0, none⟩ = some (.slice A0_0 l0_0.length c0_0) := (blk_cell BK298.out 0).trans rfl; have hfz9_0 := blk_frozen BK298.out 0))
  go_loopg [3, 4, 17] k (fun kq v3 v4 v17 w' => ∃ (x3_1 : List Int) (x4_1 : Int) (x17_1 : Int), v4 = .int .i64 x4_1 ∧ v17 = .int .i64 x17_1 ∧ Aside0 (impl_ImageBytes.l0 kq x3_1 x4_1 l0_0 (l0_0.length : Int) x17_1 l0_0 = some r) ∧ Aside0 (kq ≤ k) ∧ Aside0 (Kd.R (Kd.int .u8) 5 w' w.heap.size (fun _ => True) v3 x3_1) ∧ Aside0 (w'.heap[gb298]? = some (.cells #[(.slice A0_0 l0_0.length c0_0)] 29 (0, 0))) ∧ Aside0 (Below w.heap.size w w'))
  case atStart => exact ⟨(y300), (0), (0), (by first | rfl | (simp; done) | (simp [*]; done)), (by first | rfl | (simp; done) | (simp [*]; done)), H', ⟨Nat.le_refl _⟩, ⟨kr HO302.out⟩, ⟨kb BK298.out⟩, ⟨bw HB.out⟩⟩
  case round =>
   clear H'
   (try clear c1); (try clear p2); (try clear c3); (try clear hcz5_0); (try clear hcz9_0); (try clear hfz5_0); (try clear hfz9_0)
   obtain ⟨x3_1, x4_1, x17_1, rfl, rfl, HA, HK1, HO_3, BK298, HB⟩ := hrel
   cases gk with
   | zero => exact absurd HA.out (by simp [impl_ImageBytes.l0])
   | succ k1 =>
    have H := HA.out
    clear HA
    simp only [impl_ImageBytes.l0] at H
    by_cases c10 : x17_1 < (l0_0.length : Int)
    ·rw [if_pos c10] at H
     have c10b0 : decide (x17_1 < (l0_0.length : Int)) = true := decide_eq_true c10
     clear c10
     by_cases c11 : 0 ≤ x17_1
     ·rw [if_pos c11] at H
      have c11b0 : decide (0 ≤ x17_1) = true := decide_eq_true c11
      clear c11
      by_cases c12 : x17_1 < (l0_0.length : Int)
      ·rw [if_pos c12] at H
       have c12b0 : decide (x17_1 < (l0_0.length : Int)) = true := decide_eq_true c12
       clear c12
       have H' := Aside0.mk H
       clear H
       have p316 : 0 ≤ (x17_1 : Int) := dt
       have q316 : x17_1 < (l0_0.length : Int) := dt
       obtain ⟨ad316, A316_0, c316_0, e316, hx316_0, hl316_0, hi316_0⟩ := at_L3 HR0_0.out x17_1 p316 q316
       cases e316
       replace hx316_0 := (HB.out.cell (World.block_lt_of_cell? w _ hx316_0)).trans hx316_0
       have HR316_0 := Aside0.mk hi316_0
       have HC316_0 := Aside0.mk hl316_0
       clear hi316_0 hl316_0
       replace p316 := eq_true p316
       replace q316 := eq_true q316
       go_wp2
       go_loopg [3, 4, 23] k1 (fun kq v3 v4 v23 w' => ∃ (x3_2 : List Int) (x4_2 : Int) (x23_2 : Int), v4 = .int .i64 x4_2 ∧ v23 = .int .i64 x23_2 ∧ Aside0 (impl_ImageBytes.l1 kq x3_2 x4_2 l0_0 (l0_0.length : Int) x17_1 (rd_L3 l0_0 x17_1) ((rd_L3 l0_0 x17_1).length : Int) x23_2 l0_0 = some r) ∧ Aside0 (kq ≤ k1) ∧ Aside0 (Kd.R (Kd.int .u8) 5 w' w.heap.size (fun _ => True) v3 x3_2) ∧ Aside0 (w'.heap[gb298]? = some (.cells #[(.slice (some ad316) l0_0.length c0_0)] 29 (0, 0))) ∧ Aside0 (Below w.heap.size w w'))
       case atStart => exact ⟨(x3_1), (x4_1), (0), (by first | rfl | (simp; done) | (simp [*]; done)), (by first | rfl | (simp; done) | (simp [*]; done)), H', ⟨Nat.le_refl _⟩, ⟨kr HO_3.out⟩, ⟨kb BK298.out⟩, ⟨bw HB.out⟩⟩
       case round =>
        clear H'
        (try clear c1); (try clear p2); (try clear c3); (try clear p3); (try clear q3); (try clear hx3); (try clear c10); (try clear c10b0); (try clear c11); (try clear c11b0); (try clear c12); (try clear c12b0); (try clear hcz5_0); (try clear hcz9_0); (try clear hfz5_0); (try clear hfz9_0); (try clear hx316_0); (try clear p2); (try clear p316); (try clear q316)
        obtain ⟨x3_2, x4_2, x23_2, rfl, rfl, HA, HK2, HO_3, BK298, HB⟩ := hrel
        cases gk with
        | zero => exact absurd HA.out (by simp [impl_ImageBytes.l1])
        | succ k2 =>
         have H := HA.out
         clear HA
         simp only [impl_ImageBytes.l1] at H
         by_cases c13 : x23_2 < ((rd_L3 l0_0 x17_1).length : Int)
         ·rw [if_pos c13] at H
          have c13b0 : decide (x23_2 < ((rd_L3 l0_0 x17_1).length : Int)) = true := decide_eq_true c13
          clear c13
          by_cases c14 : 0 ≤ x23_2
          ·rw [if_pos c14] at H
           have c14b0 : decide (0 ≤ x23_2) = true := decide_eq_true c14
           clear c14
           by_cases c15 : x23_2 < ((rd_L3 l0_0 x17_1).length : Int)
           ·rw [if_pos c15] at H
            have c15b0 : decide (x23_2 < ((rd_L3 l0_0 x17_1).length : Int)) = true := decide_eq_true c15
            clear c15
            by_cases c16 : x3_2.length < 140737488355328
            ·rw [if_pos c16] at H
             have LMc16 := Aside0.mk c16
             clear c16
             obtain ⟨y318, hy318⟩ : ∃ y_ : List Int, y_ = (x3_2 ++ [(rd (rd_L3 l0_0 x17_1) x23_2) % 256]) := ⟨_, rfl⟩
             replace H : (impl_ImageBytes.l1 k2 y318 (wrap64 (x4_2 + (rd (rd_L3 l0_0 x17_1) x23_2))) l0_0 (l0_0.length : Int) x17_1 (rd_L3 l0_0 x17_1) ((rd_L3 l0_0 x17_1).length : Int) (wrap64 (x23_2 + 1)) l0_0) = some r := by first | (rw [hy318]; with_reducible exact H) | (have H2_ := (Option.bind_some _ _).symm.trans H; rw [hy318]; with_reducible exact H2_) | (have H2_ := (Option.bind_some _ _).symm.trans H; with_reducible exact H2_) | with_reducible exact H | (rw [hy318]; exact H) | exact H
             have Ny318 := Aside0.mk hy318
             clear hy318
             have H' := Aside0.mk H
             clear H
             have p317 : 0 ≤ (x23_2 : Int) := dt
             have q317 : x23_2 < ((rd_L3 l0_0 x17_1).length : Int) := dt
             obtain ⟨ad317, e317, hx317_0⟩ := Kd.at_int HR316_0.out x23_2 p317 q317
             cases e317
             replace hx317_0 := (HB.out.cell (World.block_lt_of_cell? w _ hx317_0)).trans hx317_0
             replace p317 := eq_true p317
             replace q317 := eq_true q317
             go_wp2_with (first | ((with_reducible refine gate_builtin (b := .append) (xs := #[.tmp 27, .tmp 30]) rfl ?_); at_builtin; refine Kd.R_append (Kd.int .u8) (w0 := w) w.heap.size rfl (.tmp 27) (.tmp 30) 22 5 (.int .u8 0) 1 rfl Try.underlying22 info5 rfl (by decide) (by omega) u3 x3_2 ((rd (rd_L3 l0_0 x17_1) x23_2) % 256) [.int .u8 ((rd (rd_L3 l0_0 x17_1) x23_2) % 256)] (fun _ => True) (fun _ => False) rfl rfl ?aP (fun _ hk => hk.elim) ?aF ?aO ?aB ?aS ?aL ?_; (case aP => exact rfl); (case aB => exact (bw HB.out)); (case aF => exact (fun _ _ => trivial)); (case aO => exact (kr HO_3.out)); (case aS => exact (below_size (bw HB.out))); (case aL => have := LMc16.out; omega); intro v319 w17 ho hb hg hat; rw [← Ny318.out] at ho; have n0_ := Aside0.mk (blk_grown (g := gb298) (o := .cells #[.slice (some ad316) l0_0.length c0_0] 29 (0, 0)) (kb BK298.out) hg (Kd.R_ne HO_3.out BK298.out (by decide))); have n1_ := Aside0.mk (hb); have n2_ := Aside0.mk (ho); clear BK298; clear HB; clear HO_3; have BK298 := n0_; have HB := n1_; have HO320 := n2_; clear n0_ n1_ n2_; clear ho hb hg hat))
             go_roundg k2
             case measure => have := HK1.out; have := HK2.out; omega
             case rel => exact ⟨(y318), (wrap64 (x4_2 + (rd (rd_L3 l0_0 x17_1) x23_2))), (wrap64 (x23_2 + 1)), (by first | rfl | (simp; done) | (simp [*]; done)), (by first | rfl | (simp; done) | (simp [*]; done)), H', ⟨by have := HK1.out; have := HK2.out; omega⟩, ⟨kr HO320.out⟩, ⟨kb BK298.out⟩, ⟨bw HB.out⟩⟩
            ·rw [if_neg c16] at H
             exact absurd H (by simp)
           ·rw [if_neg c15] at H
            exact absurd H (by simp)
          ·rw [if_neg c14] at H
           exact absurd H (by simp)
         ·rw [if_neg c13] at H
          have c13b0 : decide (x23_2 < ((rd_L3 l0_0 x17_1).length : Int)) = false := decide_eq_false c13
          clear c13
          have H' := Aside0.mk H
          clear H
          go_wp2
          go_roundg k2
          case measure => have := HK1.out; have := HK2.out; omega
          case rel => exact ⟨(x3_2), (x4_2), (wrap64 (x17_1 + 1)), (by first | rfl | (simp; done) | (simp [*]; done)), (by first | rfl | (simp; done) | (simp [*]; done)), H', ⟨by have := HK1.out; have := HK2.out; omega⟩, ⟨kr HO_3.out⟩, ⟨kb BK298.out⟩, ⟨bw HB.out⟩⟩
      ·rw [if_neg c12] at H
       exact absurd H (by simp)
     ·rw [if_neg c11] at H
      exact absurd H (by simp)
    ·rw [if_neg c10] at H
     have c10b0 : decide (x17_1 < (l0_0.length : Int)) = false := decide_eq_false c10
     clear c10
     obtain ⟨y303, hy303⟩ : ∃ y_ : List Int, y_ = (([50, 67, 76, 75] : List Int)) := ⟨_, rfl⟩
     replace H : ((impl_Byte.f x4_1).bind fun t306 => ((some (([((l0_0.length : Int)) % 256, (t306) % 256] : List Int) : List Int)).bind fun y307 => (if y303.length + y307.length < 140737488355328 then ((some (y303 ++ y307 : List Int)).bind fun y310 => (if y310.length + x3_1.length < 140737488355328 then (some (y310 ++ x3_1)) else (none))) else (none)))) = some r := by first | (rw [hy303]; with_reducible exact H) | (have H2_ := (Option.bind_some _ _).symm.trans H; rw [hy303]; with_reducible exact H2_) | (have H2_ := (Option.bind_some _ _).symm.trans H; with_reducible exact H2_) | with_reducible exact H | (rw [hy303]; exact H) | exact H
     have Ny303 := Aside0.mk hy303
     clear hy303
     replace H := Option.bind_eq_some_iff.mp H
     obtain ⟨t306, A180, H⟩ := H
     replace H : ((some (([((l0_0.length : Int)) % 256, (t306) % 256] : List Int) : List Int)).bind fun y307 => (if y303.length + y307.length < 140737488355328 then ((some (y303 ++ y307 : List Int)).bind fun y310 => (if y310.length + x3_1.length < 140737488355328 then (some (y310 ++ x3_1)) else (none))) else (none))) = some r := H
     have A18 := Aside0.mk A180
     clear A180
     obtain ⟨y307, hy307⟩ : ∃ y_ : List Int, y_ = (([((l0_0.length : Int)) % 256, (t306) % 256] : List Int)) := ⟨_, rfl⟩
     replace H : (if y303.length + y307.length < 140737488355328 then ((some (y303 ++ y307 : List Int)).bind fun y310 => (if y310.length + x3_1.length < 140737488355328 then (some (y310 ++ x3_1)) else (none))) else (none)) = some r := by first | (rw [hy307]; with_reducible exact H) | (have H2_ := (Option.bind_some _ _).symm.trans H; rw [hy307]; with_reducible exact H2_) | (have H2_ := (Option.bind_some _ _).symm.trans H; with_reducible exact H2_) | with_reducible exact H | (rw [hy307]; exact H) | exact H
     have Ny307 := Aside0.mk hy307
     clear hy307
     by_cases c19 : y303.length + y307.length < 140737488355328
     ·rw [if_pos c19] at H
      have LMc19 := Aside0.mk c19
      clear c19
      obtain ⟨y310, hy310⟩ : ∃ y_ : List Int, y_ = (y303 ++ y307) := ⟨_, rfl⟩
      replace H : (if y310.length + x3_1.length < 140737488355328 then (some (y310 ++ x3_1)) else (none)) = some r := by first | (rw [hy310]; with_reducible exact H) | (have H2_ := (Option.bind_some _ _).symm.trans H; rw [hy310]; with_reducible exact H2_) | (have H2_ := (Option.bind_some _ _).symm.trans H; with_reducible exact H2_) | with_reducible exact H | (rw [hy310]; exact H) | exact H
      have Ny310 := Aside0.mk hy310
      clear hy310
      by_cases c20 : y310.length + x3_1.length < 140737488355328
      ·rw [if_pos c20] at H
       have LMc20 := Aside0.mk c20
       clear c20
       obtain ⟨y313, hy313⟩ : ∃ y_ : List Int, y_ = (y310 ++ x3_1) := ⟨_, rfl⟩
       replace H : (some y313) = some r := by first | (rw [hy313]; with_reducible exact H) | (have H2_ := (Option.bind_some _ _).symm.trans H; rw [hy313]; with_reducible exact H2_) | (have H2_ := (Option.bind_some _ _).symm.trans H; with_reducible exact H2_) | with_reducible exact H | (rw [hy313]; exact H) | exact H
       have Ny313 := Aside0.mk hy313
       clear hy313
       obtain rfl := Option.some.inj H
       try go_wp2
       have n0_ := Aside0.mk (Kd.R_drew HO_3.out)
       have n1_ := Aside0.mk (blk_drew BK298.out)
       have n2_ := Aside0.mk (below_drew1 HB.out)
       clear HO_3; clear BK298; clear HB; have HO_3 := n0_; have BK298 := n1_; have HB := n2_; clear n0_ n1_ n2_
       refine freeR_ (n := 12) (e := 10) (g := 4) (T := (true, [([], []), ([0], [0]), ([], []), ([2], [2]), ([3], [3]), ([4], [4]), ([], []), ([6], [6]), ([7], [7]), ([5, 8], [5, 8]), ([1, 9, 7], [1, 9]), ([10, 10, 0, 1, 2, 3, 4, 5, 6, 7, 8, 9, 10], [10])])) #[true, true, true, true, true, true, true, true, true, true, false, false] #[true, true, true, true, false, true, true, true, true, true, false, false] [37, 38, 39, 40, 41, 42, 43, 44, 45, 46] (fun j u w' => match j with
        | 0 => isLit wr.heap.size u w'
        | 1 => isLit wr.heap.size u w'
        | 2 => u = .pointer (some ⟨gb298, 0, none⟩)
        | 3 => u = .slice A0_0 l0_0.length c0_0
        | 4 => u = .int .i64 (l0_0.length : Int)
        | 5 => u = .int .u8 ((l0_0.length : Int) % 256)
        | 6 => u = .int .i64 x4_1
        | 7 => u = .int .i64 t306
        | 8 => u = .int .u8 (t306 % 256)
        | 9 => isTwo wr.heap.size ((l0_0.length : Int) % 256) (t306 % 256) u w'
        | _ => False) (stepR wr.heap.size) (fun _ _ h => h.1)
        (by kernel_rfl) rfl (by kernel_rfl) (by kernel_rfl) (by kernel_rfl) (any_of (T := (true, [([], []), ([0], [0]), ([], []), ([2], [2]), ([3], [3]), ([4], [4]), ([], []), ([6], [6]), ([7], [7]), ([5, 8], [5, 8]), ([1, 9, 7], [1, 9]), ([10, 10, 0, 1, 2, 3, 4, 5, 6, 7, 8, 9, 10], [10])])) (by kernel_rfl) (by kernel_rfl)) (fun _ _ _ _ h => h) ?stableI ?stepI ?lagI ?lastI
       case stableI =>
        intro j u W W' h hb
        rcases j with _ | _ | _ | _ | _ | _ | _ | _ | _ | _ | j
        ·exact isLit_step h hb
        ·exact isLit_step h hb
        ·exact h
        ·exact h
        ·exact h
        ·exact h
        ·exact h
        ·exact h
        ·exact h
        ·exact isTwo_step h hb
        ·exact h
       case stepI =>
        intro i hi o ho a W hB hout hneed K hK
        have HBW := Aside0.mk hB
        have hcase : i = 0 ∨ i = 1 ∨ i = 2 ∨ i = 3 ∨ i = 4 ∨ i = 5 ∨ i = 6 ∨ i = 7 ∨ i = 8 ∨ i = 9 := by omega
        clear hB
        have hself : stepR wr.heap.size W W := stepR_below HBW.out.size (Below.refl _ _)
        rcases hcase with rfl | rfl | rfl | rfl | rfl | rfl | rfl | rfl | rfl | rfl
        ·obtain rfl := Option.some.inj ho
         refine value_ (v := .slice (some ⟨W.heap.size, 0, none⟩) 4 4) (w1 := W.alloc (.cells LIT 5)) (by rfl) rfl ?_ (hK.out _ _ (stepR_below HBW.out.size (below_alloc (Below.refl _ _) _)) ⟨_, (0, 0), rfl, HBW.out.size, .inl rfl, alloc_at _ _ _ rfl⟩)
         go_simp
         rfl
        ·obtain rfl := Option.some.inj ho
         obtain ⟨g, fr, e0, hg, hf, hb⟩ : isLit _ (a.eval (.tmp 37)) W := hneed 0 (by decide)
         obtain ⟨m1, m2⟩ := stepR_mark hg hf hb
         refine value_ (v := .slice (some ⟨g, 0, none⟩) 4 4) (w1 := W.freeze ⟨g, 4, none⟩ 1) (by rfl) rfl ?_ (hK.out _ _ m1 ⟨g, (4, 5), rfl, hg, .inr rfl, m2⟩)
         have hrun := run_mark (P := Try.prog) W 22 5 LIT fr g 4 4 Try.underlying22 Try.underlying5 hb
         simp [execOp, e0, hrun, Result.andThen]
         rfl
        ·obtain rfl := Option.some.inj ho
         have h3 : a.eval (.tmp 1) = .pointer (some ⟨gb298, 0, none⟩) := hout 1 (by decide)
         have h3' := eval_get h3
         refine value_ (v := .pointer (some ⟨gb298, 0, none⟩)) (w1 := W) (by rfl) rfl ?_ (hK.out _ _ hself rfl)
         go_simp
        ·obtain rfl := Option.some.inj ho
         have e0 : a.eval (.tmp 39) = _ := hneed 2 (by decide)
         have e0' := eval_get e0
         have hb := blk_below (w := wr.drew) BK298.out HBW.out
         have d0 := (blk_cell hb 0).trans rfl
         refine value_ (v := .slice A0_0 l0_0.length c0_0) (w1 := W) (by rfl) rfl ?_ (hK.out _ _ hself rfl)
         go_simp
        ·obtain rfl := Option.some.inj ho
         have e0 : a.eval (.tmp 40) = _ := hneed 3 (by decide)
         have e0' := eval_get e0
         refine value_ (v := .int .i64 (l0_0.length : Int)) (w1 := W) (by rfl) rfl ?_ (hK.out _ _ hself rfl)
         go_simp
        ·obtain rfl := Option.some.inj ho
         have e0 : a.eval (.tmp 41) = _ := hneed 4 (by decide)
         have e0' := eval_get e0
         refine value_ (v := .int .u8 ((l0_0.length : Int) % 256)) (w1 := W) (by rfl) rfl ?_ (hK.out _ _ hself rfl)
         go_simp
         first | rfl | exact IntKind.wrap_u8 _ | (unfold IntKind.wrap; simp [IntKind.bits, IntKind.signed])
        ·obtain rfl := Option.some.inj ho
         have h3 : a.eval (.tmp 4) = .int .i64 x4_1 := hout 4 (by decide)
         have h3' := eval_get h3
         refine value_ (v := .int .i64 x4_1) (w1 := W) (by rfl) rfl ?_ (hK.out _ _ hself rfl)
         go_simp
        ·obtain rfl := Option.some.inj ho
         have e0 : a.eval (.tmp 43) = _ := hneed 6 (by decide)
         refine goes_ Try.func34 (by kernel_rfl) rfl #[.int .i64 x4_1] (by rfl) rfl rfl (by simp only [List.map_toArray, List.map_cons, List.map_nil, e0]) ?_
         refine (impl_Byte.calls x4_1 t306 _ A18.out).mono ?_
         rintro e w' ⟨rfl, hdr⟩
         exact ⟨_, rfl, hK.out _ _ (stepR_below HBW.out.size (drew_kept hdr)) rfl⟩
        ·obtain rfl := Option.some.inj ho
         have e0 : a.eval (.tmp 44) = _ := hneed 7 (by decide)
         have e0' := eval_get e0
         refine value_ (v := .int .u8 (t306 % 256)) (w1 := W) (by rfl) rfl ?_ (hK.out _ _ hself rfl)
         go_simp
         first | rfl | exact IntKind.wrap_u8 _ | (unfold IntKind.wrap; simp [IntKind.bits, IntKind.signed])
        ·obtain rfl := Option.some.inj ho
         have e0 : a.eval (.tmp 42) = _ := hneed 5 (by decide)
         have e1 : a.eval (.tmp 45) = _ := hneed 8 (by decide)
         have e0' := eval_get e0
         have e1' := eval_get e1
         refine value_ (v := .slice (some ⟨W.heap.size, 0, none⟩) 2 2) (w1 := W.alloc (.cells #[.int .u8 ((l0_0.length : Int) % 256), .int .u8 (t306 % 256)] 5)) (by rfl) rfl ?_ (hK.out _ _ (stepR_below HBW.out.size (below_alloc (Below.refl _ _) _)) ⟨_, rfl, HBW.out.size, alloc_at _ _ _ rfl⟩)
         go_simp
       case lagI =>
        intro o ho a W hneed
        obtain rfl := Option.some.inj ho
        have e0 : a.eval (.tmp 40) = _ := hneed 3 (by decide)
        have e0' := eval_get e0
        refine ⟨.int .i64 (l0_0.length : Int), rfl, Or.inl ⟨by rfl, ?_⟩⟩
        intro w'
        go_simp
       intro f vs W hB hE
       have HBW := Aside0.mk hB
       clear hB
       obtain ⟨g0, fr0, q0, _, _, _⟩ : isLit _ (vs 0) W := hE 0 (by decide)
       obtain ⟨g1, fr1, q1, hg1, hf1, hb1⟩ : isLit _ (vs 1) W := hE 1 (by decide)
       have q2 : vs 2 = _ := hE 2 (by decide)
       have q3 : vs 3 = _ := hE 3 (by decide)
       have q4 : vs 4 = _ := hE 4 (by decide)
       have q5 : vs 5 = _ := hE 5 (by decide)
       have q6 : vs 6 = _ := hE 6 (by decide)
       have q7 : vs 7 = _ := hE 7 (by decide)
       have q8 : vs 8 = _ := hE 8 (by decide)
       obtain ⟨g9, q9, hg9, hb9⟩ : isTwo _ _ _ (vs 9) W := hE 9 (by decide)
       show wpAnyLast _ _ _ _ _ _ (f + 2) _ (putAll _ [(37, vs 0), (38, vs 1), (39, vs 2), (40, vs 3), (41, vs 4), (42, vs 5), (43, vs 6), (44, vs 7), (45, vs 8), (46, vs 9)]) W
       rw [q0, q1, q2, q3, q4, q5, q6, q7, q8, q9]
       clear q0 q1 q2 q3 q4 q5 q6 q7 q8 q9 hE
       refine norm_ (a' := ?_) ?_ ?_
       rotate_left
       ·simp only [putAll, Act.put, List.setIfInBounds_toArray, List.set_cons_zero, List.set_cons_succ]
        rfl
       obtain ⟨i0, hi0, hzz⟩ := Option.map_eq_some_iff.1 info5
       simp only [Prod.mk.injEq] at hzz
       obtain ⟨hz0, hz1, hz2⟩ := hzz
       obtain ⟨v186, w27, hrun, hown, hgr⟩ := run_append_arg_grows (P := Try.prog) W 22 22 5 i0 (.int .u8 0) 1 1 Try.underlying22 hi0 hz0 hz1 hz2 rfl (by decide) ⟨g1, 0, none⟩ 4 4 [.int .u8 50, .int .u8 67, .int .u8 76, .int .u8 75] rfl (fun j u hj => by
        rw [Addr.add_lit, Nat.zero_add, cell_of_row _ _ j _ _ _ hb1]
        simpa [LIT] using hj) ⟨g9, 0, none⟩ 2 2 [.int .u8 ((l0_0.length : Int) % 256), .int .u8 (t306 % 256)] rfl (fun j u hj => by
        rw [Addr.add_lit, Nat.zero_add, cell_of_row _ _ j _ _ _ hb9]
        simpa using hj) (by decide) (by decide) (by decide)
       refine one_ (i := 10) (N := some 47) #[true, true, true, true, true, true, true, true, true, true, true, false] rfl rfl (by kernel_rfl) (by decide) (fun K hK => ?_)
       refine value_ (v := v186) (w1 := w27) (by rfl) rfl ?_ ?_
       ·simp [execOp, resolve, invoke, builtin, Act.eval, hrun, Result.andThen]
       refine hK.out _ _ trivial (fun _ => ?_)
       clear hK K
       have hb27 : Below W.heap.size W w27 := pw_below_grown (Below.refl _ W) none (Nat.le_refl _) hgr (fun k hk => by cases hk)
       have ho1 : Kd.R (Kd.int .u8) 5 w27 W.heap.size (fun _ => True) v186 y310 := by
        rw [Ny310.out, Ny303.out, Ny307.out]
        exact Kd.R_of_own (xs := [50, 67, 76, 75, (l0_0.length : Int) % 256, t306 % 256]) hown (fun _ _ => trivial)
       have hdW := Kd.R_below (w := wr.drew) HO_3.out HBW.out
       have hd27 := Aside0.mk (Kd.R_below hdW hb27)
       have hBW : Below w.heap.size w W := below_step (w := w) (W := wr.drew) HB.out HBW.out
       have HB27 := Aside0.mk (below_step hBW hb27)
       have HO187 := Aside0.mk (Kd.R_mono (Kd.R_lower (Kd.R_new' ho1 (Kd.R_lt hdW)) hBW.size) (fun _ hk => hk.2))
       clear hb27 ho1 hdW hBW HBW hb1 hb9 hrun hown hgr hg1 hf1 hg9 HO_3 BK298 HB hi0 hz0 hz1 hz2
       refine norm_ (a' := ?_) ?_ ?_
       rotate_left
       ·show Act.put _ (some 47) _ = _
        simp only [Act.put, List.setIfInBounds_toArray, List.set_cons_zero, List.set_cons_succ, i64_w, i32_w]
        rfl
       refine pure_ (i := 11) (N := some 9) (v := ?_) (a' := ?_) #[true, true, true, true, true, true, true, true, true, true, true, true] rfl rfl (by kernel_rfl) (fun _ _ _ h => h) (Or.inl ⟨by rfl, ?_⟩) ?_ ?_
       rotate_left
       ·intro w'
        go_simp
        with_reducible rfl
       rotate_left
       ·simp only [Act.put, List.setIfInBounds_toArray, List.set_cons_zero, List.set_cons_succ, i64_w, i32_w]
        rfl
       refine done_ (by kernel_rfl) ?_
       obtain ⟨Ao30, co30, eo30⟩ := Kd.R_slice hd27.out
       subst eo30
       go_wp2_with ((with_reducible refine gate_builtin (b := .append) (xs := #[.tmp 48, .tmp 49]) rfl ?_); at_builtin; refine Kd.R_append_rows (Kd.int .u8) (w0 := w) w.heap.size rfl (.tmp 48) (.tmp 49) 22 5 (.int .u8 0) 1 rfl Try.underlying22 info5 rfl (by decide) (by omega) v186 y310 x3_1 _ _ _ (fun k_ => some k_ ≠ (.slice Ao30 x3_1.length co30 : Value).ownBlock) (fun _ => False) rfl rfl HO187.out (Kd.R_reads' hd27.out).2.2 (fun _ _ h => h) (fun _ h => h.elim) (fun k_ hk => Kd.fresh' (Kd.R_lt hd27.out) k_ hk) HB27.out HB27.out.size (by have := LMc20.out; omega) ?_; intro v190 w28 ho hb hg hat; have HO190 := Aside0.mk ho; have HB28 := Aside0.mk hb; clear ho hb hg hat)
       go_ret
       exact ⟨_, rfl, by rw [Ny313.out]; exact Kd.R_mono HO190.out (fun _ _ => trivial), HB28.out⟩
      ·rw [if_neg c20] at H
       exact absurd H (by simp)
     ·rw [if_neg c19] at H
      exact absurd H (by simp)
 ·replace c3 := Bool.eq_false_iff.mpr c3
  subst c3
  have H1 : (some ([] : List Int)) = some r := by rw [if_neg (show ¬ (false = true) by decide)] at H; exact H
  clear H
  have H := H1
  clear H1
  obtain rfl := Option.some.inj H
  go_enter Try.func17, Try.ntmps17
  go_wp2_with (first | ((with_reducible refine gate_dst (N := 1) rfl ?_); refine bx (N := 1) (cs := #[.slice A0_0 l0_0.length c0_0]) (t := 29) ?_; intro gb298 hg w31 hbox hb; have n0_ := Aside0.mk (below_step (bw HB.out) hb); have n1_ := Aside0.mk (hbox); have n2_ := Aside0.mk ((gs hg (bw HB.out))); have n3_ := Aside0.mk ((gs hg (bw HB.out))); clear HB; have HB := n0_; have BK298 := n1_; have GW298 := n2_; have GE298 := n3_; clear n0_ n1_ n2_ n3_; clear hb hbox hg; have hcz32_0 : w31.cell? ⟨gb298, 0, none⟩ = some (.slice A0_0 l0_0.length c0_0) := (blk_cell BK298.out 0).trans rfl; have hfz32_0 := blk_frozen BK298.out 0) | ((with_reducible refine gate_callee (f := 19) rfl ?_); refine goesM_ (some 11) rfl rfl Try.func19 #[.agg #[.slice A0_0 l0_0.length c0_0]] ?_; (with_reducible refine (impl_ImageOk.calls k _ _ l0_0 false _ ?side1 ?side2 A2.out).mono ?_); (case side1 => exact kc (Kd.C_below HR0_0.out HB.out)); (case side2 => exact HC0_0.out); rintro e w33 ⟨rfl, hb⟩; refine ⟨_, rfl, ?_⟩; have n0_ := Aside0.mk (blk_below (g := gb298) (o := .cells #[.slice A0_0 l0_0.length c0_0] 29 (0, 0)) (kb BK298.out) hb); have n1_ := Aside0.mk (below_step (bw HB.out) hb); clear BK298; clear HB; have BK298 := n0_; have HB := n1_; clear n0_ n1_; (try clear hb); (try clear hb2); (try clear hk); (try clear hi)))
  go_ret
  exact ⟨_, rt, by first | exact Kd.R_nil _ _ _ _ _ | exact Kd.N_nil _ _ _ _ _ | exact Kd.V_nil _ _ _ _ _ | exact Kd.Q_nil _ _ _ _ _ | exact Kd.S_nil _ _ _ _ _, bw HB.out⟩

/-! ### spec_ImageOk: function 20 -/
mutual
def spec_ImageOk.l0 : Nat → Int → List (List Int) → Option (Bool)
 | 0, _, _ => none
 | k + 1, x3, x322000 => if x3 < (x322000.length : Int) then (if 0 ≤ x3 then (if ((rd_L3 x322000 x3).length : Int) = 256 then (spec_ImageOk.l1 k x3 0 x322000) else (some false)) else (none)) else ((spec_l1In.f (x322000.length : Int) 1 8).bind fun t322 => (some t322))
def spec_ImageOk.l1 : Nat → Int → Int → List (List Int) → Option (Bool)
 | 0, _, _, _ => none
 | k + 1, x3, x4, x322000 => if x4 < 256 then (if 0 ≤ x3 then (if x3 < (x322000.length : Int) then (if 0 ≤ x4 then (if x4 < ((rd_L3 x322000 x3).length : Int) then ((spec_l1In.f (rd (rd_L3 x322000 x3) x4) 0 255).bind fun t326 => (if t326 = true then (spec_ImageOk.l1 k x3 (wrap64 (x4 + 1)) x322000) else (some false))) else (none)) else (none)) else (none)) else (none)) else (spec_ImageOk.l0 k (wrap64 (x3 + 1)) x322000)
end
def spec_ImageOk.f (k : Nat) (l0_0 : List (List Int)) : Option (Bool) := spec_ImageOk.l0 k 0 l0_0
theorem spec_ImageOk.mono_l : ∀ k, (∀ y0 y1, LeO (spec_ImageOk.l0 k y0 y1) (spec_ImageOk.l0 (k + 1) y0 y1)) ∧ (∀ y0 y1 y2, LeO (spec_ImageOk.l1 k y0 y1 y2) (spec_ImageOk.l1 (k + 1) y0 y1 y2))
 | 0 => ⟨fun _ _ r h => by simp [spec_ImageOk.l0] at h, fun _ _ _ r h => by simp [spec_ImageOk.l1] at h⟩
 | k + 1 => by
  obtain ⟨ih0, ih1⟩ := spec_ImageOk.mono_l k
  refine ⟨?_, ?_⟩
  ·intro y0 y1
   unfold spec_ImageOk.l0
   repeat' first
   | (with_reducible exact ih0 _ _)
   | (with_reducible exact ih1 _ _ _)
   | (with_reducible exact LeO.refl _)
   | (with_reducible exact LeO.none _)
   | (with_reducible refine LeO.ite ?_ ?_)
   | (with_reducible refine LeO.bind ?_ (fun _ => ?_))
   | exact ih0 _ _
   | exact ih1 _ _ _
   | exact LeO.none _
   | refine LeO.ite ?_ ?_
   | refine LeO.bind ?_ (fun _ => ?_)
  ·intro y0 y1 y2
   unfold spec_ImageOk.l1
   repeat' first
   | (with_reducible exact ih0 _ _)
   | (with_reducible exact ih1 _ _ _)
   | (with_reducible exact LeO.refl _)
   | (with_reducible exact LeO.none _)
   | (with_reducible refine LeO.ite ?_ ?_)
   | (with_reducible refine LeO.bind ?_ (fun _ => ?_))
   | exact ih0 _ _
   | exact ih1 _ _ _
   | exact LeO.none _
   | refine LeO.ite ?_ ?_
   | refine LeO.bind ?_ (fun _ => ?_)
theorem spec_ImageOk.mono : ∀ a0 k, LeO (spec_ImageOk.f k a0) (spec_ImageOk.f (k + 1) a0) := by
 intro a0 k
 obtain ⟨ih0, ih1⟩ := spec_ImageOk.mono_l k
 unfold spec_ImageOk.f
 repeat' first
   | (with_reducible exact ih0 _ _)
   | (with_reducible exact ih1 _ _ _)
   | (with_reducible exact LeO.refl _)
   | (with_reducible exact LeO.none _)
   | (with_reducible refine LeO.ite ?_ ?_)
   | (with_reducible refine LeO.bind ?_ (fun _ => ?_))
   | exact ih0 _ _
   | exact ih1 _ _ _
   | exact LeO.none _
   | refine LeO.ite ?_ ?_
   | refine LeO.bind ?_ (fun _ => ?_)
set_option maxHeartbeats 8000000 in
set_option maxRecDepth 100000 in
theorem spec_ImageOk.calls (k : Nat) (A0_0 : Option Addr) (c0_0 : Nat) (l0_0 : List (List Int)) (r : Bool) (w : World) (hr0_0 : Kd.C (Kd.slice 3 (Kd.int .i64)) w A0_0 l0_0.length l0_0) (hc0_0 : l0_0.length ≤ c0_0) (h : spec_ImageOk.f k l0_0 = some r) :
  Calls Try.prog 20 #[.agg #[.slice A0_0 l0_0.length c0_0]] w fun e w' => e = .returned (.bool r) ∧ Below w.heap.size w w' := by
 have hu29 := Try.underlying29
 have HR0_0 := Aside0.mk hr0_0
 have HC0_0 := Aside0.mk hc0_0
 clear hr0_0 hc0_0
 have HB := Aside0.mk (Below.refl w.heap.size w)
 have H : (spec_ImageOk.l0 k 0 l0_0) = some r := h
 clear h
 have H' := Aside0.mk H
 clear H
 go_enter Try.func20, Try.ntmps20
 go_wp2_with (first | ((with_reducible refine gate_dst (N := 1) rfl ?_); refine bx (N := 1) (cs := #[.slice A0_0 l0_0.length c0_0]) (t := 29) ?_; intro gb321 hg w2 hbox hb; have n0_ := Aside0.mk (below_step (bw HB.out) hb); have n1_ := Aside0.mk (hbox); have n2_ := Aside0.mk ((gs hg (bw HB.out))); have n3_ := Aside0.mk ((gs hg (bw HB.out))); clear HB; have HB := n0_; have BK321 := n1_; have GW321 := n2_; have GE321 := n3_; clear n0_ n1_ n2_ n3_; clear hb hbox hg))
 go_loopg [3] k (fun kq v3 w' => ∃ (x3_1 : Int), v3 = .int .i64 x3_1 ∧ Aside0 (spec_ImageOk.l0 kq x3_1 l0_0 = some r) ∧ Aside0 (kq ≤ k) ∧ Aside0 (w'.heap[gb321]? = some (.cells #[(.slice A0_0 l0_0.length c0_0)] 29 (0, 0))) ∧ Aside0 (Below w.heap.size w w'))
 case atStart => exact ⟨(0), (by first | rfl | (simp; done) | (simp [*]; done)), H', ⟨Nat.le_refl _⟩, ⟨kb BK321.out⟩, ⟨bw HB.out⟩⟩
 case round =>
  clear H'
  (try clear c2); (try clear p2)
  obtain ⟨x3_1, rfl, HA, HK1, BK321, HB⟩ := hrel
  cases gk with
  | zero => exact absurd HA.out (by simp [spec_ImageOk.l0])
  | succ k1 =>
   have H := HA.out
   clear HA
   simp only [spec_ImageOk.l0] at H
   by_cases c3 : x3_1 < (l0_0.length : Int)
   ·rw [if_pos c3] at H
    have c3b0 : decide (x3_1 < (l0_0.length : Int)) = true := decide_eq_true c3
    clear c3
    by_cases c4 : 0 ≤ x3_1
    ·rw [if_pos c4] at H
     have c4b0 : decide (0 ≤ x3_1) = true := decide_eq_true c4
     clear c4
     by_cases c5 : ((rd_L3 l0_0 x3_1).length : Int) = 256
     ·rw [if_pos c5] at H
      have c5b0 : (((rd_L3 l0_0 x3_1).length : Int) == 256) = true := beq_iff_eq.mpr c5
      have c5b1 : (((rd_L3 l0_0 x3_1).length : Int) != 256) = false := bne_eq_false_iff_eq.mpr c5
      clear c5
      have H' := Aside0.mk H
      clear H
      have hcz6_0 : wr.cell? ⟨gb321, 0, none⟩ = some (.slice A0_0 l0_0.length c0_0) := (blk_cell BK321.out 0).trans rfl
      have hfz6_0 := blk_frozen BK321.out 0
      have p323 : 0 ≤ (x3_1 : Int) := dt
      have q323 : x3_1 < (l0_0.length : Int) := dt
      obtain ⟨ad323, A323_0, c323_0, e323, hx323_0, hl323_0, hi323_0⟩ := at_L3 HR0_0.out x3_1 p323 q323
      cases e323
      replace hx323_0 := (HB.out.cell (World.block_lt_of_cell? w _ hx323_0)).trans hx323_0
      have HR323_0 := Aside0.mk hi323_0
      have HC323_0 := Aside0.mk hl323_0
      clear hi323_0 hl323_0
      replace p323 := eq_true p323
      replace q323 := eq_true q323
      go_wp2
      go_loopg [4] k1 (fun kq v4 w' => ∃ (x4_2 : Int), v4 = .int .i64 x4_2 ∧ Aside0 (spec_ImageOk.l1 kq x3_1 x4_2 l0_0 = some r) ∧ Aside0 (kq ≤ k1) ∧ Aside0 (w'.heap[gb321]? = some (.cells #[(.slice (some ad323) l0_0.length c0_0)] 29 (0, 0))) ∧ Aside0 (Below w.heap.size w w'))
      case atStart => exact ⟨(0), (by first | rfl | (simp; done) | (simp [*]; done)), H', ⟨Nat.le_refl _⟩, ⟨kb BK321.out⟩, ⟨bw HB.out⟩⟩
      case round =>
       clear H'
       (try clear c2); (try clear p2); (try clear c3); (try clear c3b0); (try clear p3); (try clear q3); (try clear hx3); (try clear c4); (try clear c4b0); (try clear c5); (try clear c5b0); (try clear c5b1); (try clear hcz6_0); (try clear hfz6_0); (try clear hx323_0); (try clear p2); (try clear p323); (try clear q323)
       obtain ⟨x4_2, rfl, HA, HK2, BK321, HB⟩ := hrel
       cases gk with
       | zero => exact absurd HA.out (by simp [spec_ImageOk.l1])
       | succ k2 =>
        have H := HA.out
        clear HA
        simp only [spec_ImageOk.l1] at H
        by_cases c7 : x4_2 < 256
        ·rw [if_pos c7] at H
         have c7b0 : decide (x4_2 < 256) = true := decide_eq_true c7
         clear c7
         by_cases c8 : 0 ≤ x3_1
         ·rw [if_pos c8] at H
          have c8b0 : decide (0 ≤ x3_1) = true := decide_eq_true c8
          clear c8
          by_cases c9 : x3_1 < (l0_0.length : Int)
          ·rw [if_pos c9] at H
           have c9b0 : decide (x3_1 < (l0_0.length : Int)) = true := decide_eq_true c9
           clear c9
           by_cases c10 : 0 ≤ x4_2
           ·rw [if_pos c10] at H
            have c10b0 : decide (0 ≤ x4_2) = true := decide_eq_true c10
            clear c10
            by_cases c11 : x4_2 < ((rd_L3 l0_0 x3_1).length : Int)
            ·rw [if_pos c11] at H
             have c11b0 : decide (x4_2 < ((rd_L3 l0_0 x3_1).length : Int)) = true := decide_eq_true c11
             clear c11
             replace H := Option.bind_eq_some_iff.mp H
             obtain ⟨t326, A120, H⟩ := H
             replace H : (if t326 = true then (spec_ImageOk.l1 k2 x3_1 (wrap64 (x4_2 + 1)) l0_0) else (some false)) = some r := H
             have A12 := Aside0.mk A120
             clear A120
             by_cases c13 : t326 = true
             ·subst c13
              have H1 : (spec_ImageOk.l1 k2 x3_1 (wrap64 (x4_2 + 1)) l0_0) = some r := by rw [if_pos rfl] at H; exact H
              clear H
              have H := H1
              clear H1
              have H' := Aside0.mk H
              clear H
              have hcz14_0 : wr.cell? ⟨gb321, 0, none⟩ = some (.slice (some ad323) l0_0.length c0_0) := (blk_cell BK321.out 0).trans rfl
              have hfz14_0 := blk_frozen BK321.out 0
              have p324 : 0 ≤ (x3_1 : Int) := dt
              have q324 : x3_1 < (l0_0.length : Int) := dt
              obtain ⟨ad324, A324_0, c324_0, e324, hx324_0, hl324_0, hi324_0⟩ := at_L3 HR0_0.out x3_1 p324 q324
              obtain rfl : ad323 = ad324 := (by injection e324)
              replace hx324_0 := (HB.out.cell (World.block_lt_of_cell? w _ hx324_0)).trans hx324_0
              have HR324_0 := Aside0.mk hi324_0
              have HC324_0 := Aside0.mk hl324_0
              clear hi324_0 hl324_0
              replace p324 := eq_true p324
              replace q324 := eq_true q324
              have p325 : 0 ≤ (x4_2 : Int) := dt
              have q325 : x4_2 < ((rd_L3 l0_0 x3_1).length : Int) := dt
              obtain ⟨ad325, e325, hx325_0⟩ := Kd.at_int HR324_0.out x4_2 p325 q325
              cases e325
              replace hx325_0 := (HB.out.cell (World.block_lt_of_cell? w _ hx325_0)).trans hx325_0
              replace p325 := eq_true p325
              replace q325 := eq_true q325
              go_wp2_with (first | ((with_reducible refine gate_callee (f := 68) rfl ?_); refine goesM_ (some 31) rfl rfl Try.func68 #[.int .i64 (rd (rd_L3 l0_0 x3_1) x4_2), .int .i64 0, .int .i64 255] ?_; (with_reducible refine (spec_l1In.calls (rd (rd_L3 l0_0 x3_1) x4_2) 0 255 true _ A12.out).mono ?_); rintro e w' ⟨rfl, ⟨nd, rfl⟩⟩; refine ⟨_, rfl, ?_⟩))
              go_roundg k2
              case measure => have := HK1.out; have := HK2.out; omega
              case rel => exact ⟨(wrap64 (x4_2 + 1)), (by first | rfl | (simp; done) | (simp [*]; done)), H', ⟨by have := HK1.out; have := HK2.out; omega⟩, ⟨kb BK321.out⟩, ⟨bw HB.out⟩⟩
             ·replace c13 := Bool.eq_false_iff.mpr c13
              subst c13
              have H1 : (some false) = some r := by rw [if_neg (show ¬ (false = true) by decide)] at H; exact H
              clear H
              have H := H1
              clear H1
              obtain rfl := Option.some.inj H
              have hcz15_0 : wr.cell? ⟨gb321, 0, none⟩ = some (.slice (some ad323) l0_0.length c0_0) := (blk_cell BK321.out 0).trans rfl
              have hfz15_0 := blk_frozen BK321.out 0
              have p324 : 0 ≤ (x3_1 : Int) := dt
              have q324 : x3_1 < (l0_0.length : Int) := dt
              obtain ⟨ad324, A324_0, c324_0, e324, hx324_0, hl324_0, hi324_0⟩ := at_L3 HR0_0.out x3_1 p324 q324
              obtain rfl : ad323 = ad324 := (by injection e324)
              replace hx324_0 := (HB.out.cell (World.block_lt_of_cell? w _ hx324_0)).trans hx324_0
              have HR324_0 := Aside0.mk hi324_0
              have HC324_0 := Aside0.mk hl324_0
              clear hi324_0 hl324_0
              replace p324 := eq_true p324
              replace q324 := eq_true q324
              have p325 : 0 ≤ (x4_2 : Int) := dt
              have q325 : x4_2 < ((rd_L3 l0_0 x3_1).length : Int) := dt
              obtain ⟨ad325, e325, hx325_0⟩ := Kd.at_int HR324_0.out x4_2 p325 q325
              cases e325
              replace hx325_0 := (HB.out.cell (World.block_lt_of_cell? w _ hx325_0)).trans hx325_0
              replace p325 := eq_true p325
              replace q325 := eq_true q325
              go_wp2_with (first | ((with_reducible refine gate_callee (f := 68) rfl ?_); refine goesM_ (some 31) rfl rfl Try.func68 #[.int .i64 (rd (rd_L3 l0_0 x3_1) x4_2), .int .i64 0, .int .i64 255] ?_; (with_reducible refine (spec_l1In.calls (rd (rd_L3 l0_0 x3_1) x4_2) 0 255 false _ A12.out).mono ?_); rintro e w' ⟨rfl, ⟨nd, rfl⟩⟩; refine ⟨_, rfl, ?_⟩))
              go_ret
              exact ⟨rt, bw HB.out⟩
            ·rw [if_neg c11] at H
             exact absurd H (by simp)
           ·rw [if_neg c10] at H
            exact absurd H (by simp)
          ·rw [if_neg c9] at H
           exact absurd H (by simp)
         ·rw [if_neg c8] at H
          exact absurd H (by simp)
        ·rw [if_neg c7] at H
         have c7b0 : decide (x4_2 < 256) = false := decide_eq_false c7
         clear c7
         have H' := Aside0.mk H
         clear H
         go_wp2
         go_roundg k2
         case measure => have := HK1.out; have := HK2.out; omega
         case rel => exact ⟨(wrap64 (x3_1 + 1)), (by first | rfl | (simp; done) | (simp [*]; done)), H', ⟨by have := HK1.out; have := HK2.out; omega⟩, ⟨kb BK321.out⟩, ⟨bw HB.out⟩⟩
     ·rw [if_neg c5] at H
      have c5b0 : (((rd_L3 l0_0 x3_1).length : Int) == 256) = false := beq_eq_false_iff_ne.mpr c5
      have c5b1 : (((rd_L3 l0_0 x3_1).length : Int) != 256) = true := bne_iff_ne.mpr c5
      obtain rfl := Option.some.inj H
      have hcz16_0 : wr.cell? ⟨gb321, 0, none⟩ = some (.slice A0_0 l0_0.length c0_0) := (blk_cell BK321.out 0).trans rfl
      have hfz16_0 := blk_frozen BK321.out 0
      have p323 : 0 ≤ (x3_1 : Int) := dt
      have q323 : x3_1 < (l0_0.length : Int) := dt
      obtain ⟨ad323, A323_0, c323_0, e323, hx323_0, hl323_0, hi323_0⟩ := at_L3 HR0_0.out x3_1 p323 q323
      cases e323
      replace hx323_0 := (HB.out.cell (World.block_lt_of_cell? w _ hx323_0)).trans hx323_0
      have HR323_0 := Aside0.mk hi323_0
      have HC323_0 := Aside0.mk hl323_0
      clear hi323_0 hl323_0
      replace p323 := eq_true p323
      replace q323 := eq_true q323
      go_wp2
      go_ret
      exact ⟨rt, bw HB.out⟩
    ·rw [if_neg c4] at H
     exact absurd H (by simp)
   ·rw [if_neg c3] at H
    have c3b0 : decide (x3_1 < (l0_0.length : Int)) = false := decide_eq_false c3
    clear c3
    replace H := Option.bind_eq_some_iff.mp H
    obtain ⟨t322, A170, H⟩ := H
    replace H : (some t322) = some r := H
    have A17 := Aside0.mk A170
    clear A170
    obtain rfl := Option.some.inj H
    have hcz18_0 : wr.cell? ⟨gb321, 0, none⟩ = some (.slice A0_0 l0_0.length c0_0) := (blk_cell BK321.out 0).trans rfl
    have hfz18_0 := blk_frozen BK321.out 0
    go_wp2_with (first | ((with_reducible refine gate_callee (f := 68) rfl ?_); refine goesM_ (some 36) rfl rfl Try.func68 #[.int .i64 (l0_0.length : Int), .int .i64 1, .int .i64 8] ?_; (with_reducible refine (spec_l1In.calls (l0_0.length : Int) 1 8 t322 _ A17.out).mono ?_); rintro e w' ⟨rfl, ⟨nd, rfl⟩⟩; refine ⟨_, rfl, ?_⟩))
    go_ret
    exact ⟨rt, bw HB.out⟩

/-! ### spec_ImageBytes: function 18 -/
mutual
def spec_ImageBytes.l0 : Nat → List Int → Int → Int → List (List Int) → Option (List Int)
 | 0, _, _, _, _ => none
 | k + 1, x3, x4, x5, x328000 => if x5 < (x328000.length : Int) then (spec_ImageBytes.l1 k x3 x4 x5 0 x328000) else (if 5 < (x3.length : Int) then (some (x3.set (5 : Int).toNat ((x4) % 256))) else (none))
def spec_ImageBytes.l1 : Nat → List Int → Int → Int → Int → List (List Int) → Option (List Int)
 | 0, _, _, _, _, _ => none
 | k + 1, x3, x4, x5, x6, x328000 => if x6 < 256 then (if 0 ≤ x5 then (if x5 < (x328000.length : Int) then (if 0 ≤ x6 then (if x6 < ((rd_L3 x328000 x5).length : Int) then (if x3.length < 140737488355328 then (spec_ImageBytes.l1 k (x3 ++ [(rd (rd_L3 x328000 x5) x6) % 256]) (wrap64 (x4 + (rd (rd_L3 x328000 x5) x6))) x5 (wrap64 (x6 + 1)) x328000) else (none)) else (none)) else (none)) else (none)) else (none)) else (spec_ImageBytes.l0 k x3 x4 (wrap64 (x5 + 1)) x328000)
end
def spec_ImageBytes.f (k : Nat) (l0_0 : List (List Int)) : Option (List Int) := (spec_ImageOk.f k l0_0).bind fun t328 => (if t328 = true then ((some (([50, 67, 76, 75] : List Int) : List Int)).bind fun y332 => ((some (([((l0_0.length : Int)) % 256, 0] : List Int) : List Int)).bind fun y335 => (if y332.length + y335.length < 140737488355328 then (spec_ImageBytes.l0 k (y332 ++ y335) 0 0 l0_0) else (none)))) else (some (([] : List Int))))
theorem spec_ImageBytes.mono_l : ∀ k, (∀ y0 y1 y2 y3, LeO (spec_ImageBytes.l0 k y0 y1 y2 y3) (spec_ImageBytes.l0 (k + 1) y0 y1 y2 y3)) ∧ (∀ y0 y1 y2 y3 y4, LeO (spec_ImageBytes.l1 k y0 y1 y2 y3 y4) (spec_ImageBytes.l1 (k + 1) y0 y1 y2 y3 y4))
 | 0 => ⟨fun _ _ _ _ r h => by simp [spec_ImageBytes.l0] at h, fun _ _ _ _ _ r h => by simp [spec_ImageBytes.l1] at h⟩
 | k + 1 => by
  obtain ⟨ih0, ih1⟩ := spec_ImageBytes.mono_l k
  refine ⟨?_, ?_⟩
  ·intro y0 y1 y2 y3
   unfold spec_ImageBytes.l0
   repeat' first
   | (with_reducible exact ih0 _ _ _ _)
   | (with_reducible exact ih1 _ _ _ _ _)
   | (with_reducible exact spec_ImageOk.mono _ _)
   | (with_reducible exact LeO.refl _)
   | (with_reducible exact LeO.none _)
   | (with_reducible refine LeO.ite ?_ ?_)
   | (with_reducible refine LeO.bind ?_ (fun _ => ?_))
   | exact ih0 _ _ _ _
   | exact ih1 _ _ _ _ _
   | exact spec_ImageOk.mono _ _
   | exact LeO.none _
   | refine LeO.ite ?_ ?_
   | refine LeO.bind ?_ (fun _ => ?_)
  ·intro y0 y1 y2 y3 y4
   unfold spec_ImageBytes.l1
   repeat' first
   | (with_reducible exact ih0 _ _ _ _)
   | (with_reducible exact ih1 _ _ _ _ _)
   | (with_reducible exact spec_ImageOk.mono _ _)
   | (with_reducible exact LeO.refl _)
   | (with_reducible exact LeO.none _)
   | (with_reducible refine LeO.ite ?_ ?_)
   | (with_reducible refine LeO.bind ?_ (fun _ => ?_))
   | exact ih0 _ _ _ _
   | exact ih1 _ _ _ _ _
   | exact spec_ImageOk.mono _ _
   | exact LeO.none _
   | refine LeO.ite ?_ ?_
   | refine LeO.bind ?_ (fun _ => ?_)
theorem spec_ImageBytes.mono : ∀ a0 k, LeO (spec_ImageBytes.f k a0) (spec_ImageBytes.f (k + 1) a0) := by
 intro a0 k
 obtain ⟨ih0, ih1⟩ := spec_ImageBytes.mono_l k
 unfold spec_ImageBytes.f
 repeat' first
   | (with_reducible exact ih0 _ _ _ _)
   | (with_reducible exact ih1 _ _ _ _ _)
   | (with_reducible exact spec_ImageOk.mono _ _)
   | (with_reducible exact LeO.refl _)
   | (with_reducible exact LeO.none _)
   | (with_reducible refine LeO.ite ?_ ?_)
   | (with_reducible refine LeO.bind ?_ (fun _ => ?_))
   | exact ih0 _ _ _ _
   | exact ih1 _ _ _ _ _
   | exact spec_ImageOk.mono _ _
   | exact LeO.none _
   | refine LeO.ite ?_ ?_
   | refine LeO.bind ?_ (fun _ => ?_)
set_option maxHeartbeats 8000000 in
set_option maxRecDepth 100000 in
theorem spec_ImageBytes.calls (k : Nat) (A0_0 : Option Addr) (c0_0 : Nat) (l0_0 : List (List Int)) (r : List Int) (w : World) (hr0_0 : Kd.C (Kd.slice 3 (Kd.int .i64)) w A0_0 l0_0.length l0_0) (hc0_0 : l0_0.length ≤ c0_0) (h : spec_ImageBytes.f k l0_0 = some r) :
  Calls Try.prog 18 #[.agg #[.slice A0_0 l0_0.length c0_0]] w fun e w' => ∃ v0_ : Value, e = .returned (v0_) ∧ Kd.R (Kd.int .u8) 5 w' w.heap.size (fun _ => True) v0_ r ∧ Below w.heap.size w w' := by
 have hu29 := Try.underlying29
 have HR0_0 := Aside0.mk hr0_0
 have HC0_0 := Aside0.mk hc0_0
 clear hr0_0 hc0_0
 have HB := Aside0.mk (Below.refl w.heap.size w)
 have H : ((spec_ImageOk.f k l0_0).bind fun t328 => (if t328 = true then ((some (([50, 67, 76, 75] : List Int) : List Int)).bind fun y332 => ((some (([((l0_0.length : Int)) % 256, 0] : List Int) : List Int)).bind fun y335 => (if y332.length + y335.length < 140737488355328 then (spec_ImageBytes.l0 k (y332 ++ y335) 0 0 l0_0) else (none)))) else (some (([] : List Int))))) = some r := h
 clear h
 replace H := Option.bind_eq_some_iff.mp H
 obtain ⟨t328, A20, H⟩ := H
 replace H : (if t328 = true then ((some (([50, 67, 76, 75] : List Int) : List Int)).bind fun y332 => ((some (([((l0_0.length : Int)) % 256, 0] : List Int) : List Int)).bind fun y335 => (if y332.length + y335.length < 140737488355328 then (spec_ImageBytes.l0 k (y332 ++ y335) 0 0 l0_0) else (none)))) else (some (([] : List Int)))) = some r := H
 have A2 := Aside0.mk A20
 clear A20
 by_cases c3 : t328 = true
 ·subst c3
  have H1 : ((some (([50, 67, 76, 75] : List Int) : List Int)).bind fun y332 => ((some (([((l0_0.length : Int)) % 256, 0] : List Int) : List Int)).bind fun y335 => (if y332.length + y335.length < 140737488355328 then (spec_ImageBytes.l0 k (y332 ++ y335) 0 0 l0_0) else (none)))) = some r := by rw [if_pos rfl] at H; exact H
  clear H
  have H := H1
  clear H1
  obtain ⟨y332, hy332⟩ : ∃ y_ : List Int, y_ = (([50, 67, 76, 75] : List Int)) := ⟨_, rfl⟩
  replace H : ((some (([((l0_0.length : Int)) % 256, 0] : List Int) : List Int)).bind fun y335 => (if y332.length + y335.length < 140737488355328 then (spec_ImageBytes.l0 k (y332 ++ y335) 0 0 l0_0) else (none))) = some r := by first | (rw [hy332]; with_reducible exact H) | (have H2_ := (Option.bind_some _ _).symm.trans H; rw [hy332]; with_reducible exact H2_) | (have H2_ := (Option.bind_some _ _).symm.trans H; with_reducible exact H2_) | with_reducible exact H | (rw [hy332]; exact H) | exact H
  have Ny332 := Aside0.mk hy332
  clear hy332
  obtain ⟨y335, hy335⟩ : ∃ y_ : List Int, y_ = (([((l0_0.length : Int)) % 256, 0] : List Int)) := ⟨_, rfl⟩
  replace H : (if y332.length + y335.length < 140737488355328 then (spec_ImageBytes.l0 k (y332 ++ y335) 0 0 l0_0) else (none)) = some r := by first | (rw [hy335]; with_reducible exact H) | (have H2_ := (Option.bind_some _ _).symm.trans H; rw [hy335]; with_reducible exact H2_) | (have H2_ := (Option.bind_some _ _).symm.trans H; with_reducible exact H2_) | with_reducible exact H | (rw [hy335]; exact H) | exact H
  have Ny335 := Aside0.mk hy335
  clear hy335
  by_cases c4 : y332.length + y335.length < 140737488355328
  ·rw [if_pos c4] at H
   have LMc4 := Aside0.mk c4
   clear c4
   obtain ⟨y338, hy338⟩ : ∃ y_ : List Int, y_ = (y332 ++ y335) := ⟨_, rfl⟩
   replace H : (spec_ImageBytes.l0 k y338 0 0 l0_0) = some r := by first | (rw [hy338]; with_reducible exact H) | (have H2_ := (Option.bind_some _ _).symm.trans H; rw [hy338]; with_reducible exact H2_) | (have H2_ := (Option.bind_some _ _).symm.trans H; with_reducible exact H2_) | with_reducible exact H | (rw [hy338]; exact H) | exact H
   have Ny338 := Aside0.mk hy338
   clear hy338
   have H' := Aside0.mk H
   clear H
   go_enter Try.func18, Try.ntmps18
   go_wp2_with (first | ((with_reducible refine gate_dst (N := 1) rfl ?_); refine bx (N := 1) (cs := #[.slice A0_0 l0_0.length c0_0]) (t := 29) ?_; intro gb327 hg w5 hbox hb; have n0_ := Aside0.mk (below_step (bw HB.out) hb); have n1_ := Aside0.mk (hbox); have n2_ := Aside0.mk ((gs hg (bw HB.out))); have n3_ := Aside0.mk ((gs hg (bw HB.out))); clear HB; have HB := n0_; have BK327 := n1_; have GW327 := n2_; have GE327 := n3_; clear n0_ n1_ n2_ n3_; clear hb hbox hg; have hcz6_0 : w5.cell? ⟨gb327, 0, none⟩ = some (.slice A0_0 l0_0.length c0_0) := (blk_cell BK327.out 0).trans rfl; have hfz6_0 := blk_frozen BK327.out 0) | ((with_reducible refine gate_callee (f := 20) rfl ?_); refine goesM_ (some 8) rfl rfl Try.func20 #[.agg #[.slice A0_0 l0_0.length c0_0]] ?_; (with_reducible refine (spec_ImageOk.calls k _ _ l0_0 true _ ?side1 ?side2 A2.out).mono ?_); (case side1 => exact kc (Kd.C_below HR0_0.out HB.out)); (case side2 => exact HC0_0.out); rintro e w7 ⟨rfl, hb⟩; refine ⟨_, rfl, ?_⟩; have n0_ := Aside0.mk (blk_below (g := gb327) (o := .cells #[.slice A0_0 l0_0.length c0_0] 29 (0, 0)) (kb BK327.out) hb); have n1_ := Aside0.mk (below_step (bw HB.out) hb); clear BK327; clear HB; have BK327 := n0_; have HB := n1_; clear n0_ n1_; (try clear hb); (try clear hb2); (try clear hk); (try clear hi)) | ((with_reducible refine gate_dst (N := 12) rfl ?_); refine conv_const rfl (N := some 12) rfl (.tmp 11) rfl rfl Try.underlying22 Try.underlying5 ?_; intro wC hb hcs; have HCS := Aside0.mk hcs; have n1_ := Aside0.mk (blk_below BK327.out hb); have n2_ := Aside0.mk (below_step (by repeat (first | exact HB.out | apply below_alloc | apply pw_below_drewN | apply below_drew1)) hb); clear BK327 HB hcs hb; have BK327 := n1_; have HB := n2_; clear n1_ n2_; have hczC : wC.cell? ⟨gb327, 0, none⟩ = some (.slice A0_0 l0_0.length c0_0) := (blk_cell BK327.out 0).trans rfl) | ((with_reducible refine gate_dst (N := 17) rfl ?_); refine Kd.R_lit (Kd.int .u8) _ 5 ?hg (N := 17) ?hd (xs := ([((l0_0.length : Int)) % 256, 0] : List Int)) (inner := [.int .u8 (((l0_0.length : Int)) % 256), .int .u8 0]) (ok := fun _ => True) (okp := fun _ => True) ?hr ?hp (fun _ hk => hk) trivial (Below.refl _ _) (Nat.le_refl _) (by simp) ?_; (case hd => rfl); (case hg => rfl); (case hr => first | (go_simp; done) | (go_simp; rfl)); (case hp => exact (Reps.one (show Kd.M (Kd.int .u8) _ _ _ (((l0_0.length : Int)) % 256) [.int .u8 (((l0_0.length : Int)) % 256)] from rfl) (Reps.one (show Kd.M (Kd.int .u8) _ _ _ 0 [.int .u8 0] from rfl) (Reps.none _ _)))); intro v336 w11 ho12 hb hg_ hnew_; clear hg_ hnew_; (first | rw [← Ny335.out] at ho12 | (simp only [Int.reduceToNat] at ho12; rw [← Ny335.out] at ho12)); have n0_ := Aside0.mk (fun j u h => (hb.cell (World.block_lt_of_cell? _ _ (HCS.out j u h))).trans (HCS.out j u h)); have n1_ := Aside0.mk (Kd.R_lower (ho12) (below_size (bw HB.out))); have n2_ := Aside0.mk (blk_below (g := gb327) (o := .cells #[.slice A0_0 l0_0.length c0_0] 29 (0, 0)) (kb BK327.out) hb); have n3_ := Aside0.mk (below_step (bw HB.out) hb); clear HCS; clear BK327; clear HB; have HCS := n0_; have HO337 := n1_; have BK327 := n2_; have HB := n3_; clear n0_ n1_ n2_ n3_; clear hb ho12; obtain ⟨Ao14, co14, eo14⟩ := Kd.R_slice HO337.out; subst eo14) | ((with_reducible refine gate_builtin (b := .append) (xs := #[.tmp 12, .tmp 17]) rfl ?_); at_builtin; refine append_const (N := some 18) (xs := ([50, 67, 76, 75] : List Int)) rfl (.tmp 12) (.tmp 17) 22 rfl rfl Try.underlying22 info5 rfl (fun j u h => HCS.out j u (by simpa using h)) rfl HO337.out (by rw [Ny335.out]; simp) (by rw [Ny335.out]; simp) (by rw [Ny335.out]; simp) ?_; intro v339 w13 ho hb; have n0_ := Aside0.mk (blk_below BK327.out hb); have n1_ := Aside0.mk (Kd.R_below HO337.out hb); have n2_ := Aside0.mk (below_step (by repeat (first | exact HB.out | apply below_alloc | apply pw_below_drewN | apply below_drew1)) hb); have n3_ := Aside0.mk (show Kd.R (Kd.int .u8) 5 w13 w.heap.size (fun _ => True) v339 y338 from Kd.R_lower (by rw [Ny338.out, Ny332.out]; exact ho) (below_size (by repeat (first | exact HB.out | apply below_alloc | apply pw_below_drewN | apply below_drew1)))); clear BK327 HO337 HB HCS ho hb; have BK327 := n0_; have HO337 := n1_; have HB := n2_; have HO340 := n3_; clear n0_ n1_ n2_ n3_))
   go_loopg [3, 4, 5] k (fun kq v3 v4 v5 w' => ∃ (x3_1 : List Int) (x4_1 : Int) (x5_1 : Int), v4 = .int .i64 x4_1 ∧ v5 = .int .i64 x5_1 ∧ Aside0 (spec_ImageBytes.l0 kq x3_1 x4_1 x5_1 l0_0 = some r) ∧ Aside0 (kq ≤ k) ∧ Aside0 (Kd.R (Kd.int .u8) 5 w' w.heap.size (fun _ => True) v3 x3_1) ∧ Aside0 (w'.heap[gb327]? = some (.cells #[(.slice A0_0 l0_0.length c0_0)] 29 (0, 0))) ∧ Aside0 (Below w.heap.size w w'))
   case atStart => exact ⟨(y338), (0), (0), (by first | rfl | (simp; done) | (simp [*]; done)), (by first | rfl | (simp; done) | (simp [*]; done)), H', ⟨Nat.le_refl _⟩, ⟨kr (Kd.R_mono HO340.out (fun _ hk => trivial))⟩, ⟨kb BK327.out⟩, ⟨bw HB.out⟩⟩
   case round =>
    clear H'
    (try clear c1); (try clear c2); (try clear p2); (try clear c3); (try clear c4); (try clear hcz10_0); (try clear hcz6_0); (try clear hfz10_0); (try clear hfz6_0)
    obtain ⟨x3_1, x4_1, x5_1, rfl, rfl, HA, HK1, HO_3, BK327, HB⟩ := hrel
    cases gk with
    | zero => exact absurd HA.out (by simp [spec_ImageBytes.l0])
    | succ k1 =>
     have H := HA.out
     clear HA
     simp only [spec_ImageBytes.l0] at H
     by_cases c15 : x5_1 < (l0_0.length : Int)
     ·rw [if_pos c15] at H
      have c15b0 : decide (x5_1 < (l0_0.length : Int)) = true := decide_eq_true c15
      clear c15
      have H' := Aside0.mk H
      clear H
      have hcz16_0 : wr.cell? ⟨gb327, 0, none⟩ = some (.slice A0_0 l0_0.length c0_0) := (blk_cell BK327.out 0).trans rfl
      have hfz16_0 := blk_frozen BK327.out 0
      go_wp2
      go_loopg [3, 4, 6] k1 (fun kq v3 v4 v6 w' => ∃ (x3_2 : List Int) (x4_2 : Int) (x6_2 : Int), v4 = .int .i64 x4_2 ∧ v6 = .int .i64 x6_2 ∧ Aside0 (spec_ImageBytes.l1 kq x3_2 x4_2 x5_1 x6_2 l0_0 = some r) ∧ Aside0 (kq ≤ k1) ∧ Aside0 (Kd.R (Kd.int .u8) 5 w' w.heap.size (fun _ => True) v3 x3_2) ∧ Aside0 (w'.heap[gb327]? = some (.cells #[(.slice A0_0 l0_0.length c0_0)] 29 (0, 0))) ∧ Aside0 (Below w.heap.size w w'))
      case atStart => exact ⟨(x3_1), (x4_1), (0), (by first | rfl | (simp; done) | (simp [*]; done)), (by first | rfl | (simp; done) | (simp [*]; done)), H', ⟨Nat.le_refl _⟩, ⟨kr HO_3.out⟩, ⟨kb BK327.out⟩, ⟨bw HB.out⟩⟩
      case round =>
       clear H'
       (try clear c1); (try clear c2); (try clear p2); (try clear c3); (try clear c4); (try clear c15); (try clear c15b0); (try clear hcz10_0); (try clear hcz16_0); (try clear hcz6_0); (try clear hfz10_0); (try clear hfz16_0); (try clear hfz6_0); (try clear p2)
       obtain ⟨x3_2, x4_2, x6_2, rfl, rfl, HA, HK2, HO_3, BK327, HB⟩ := hrel
       cases gk with
       | zero => exact absurd HA.out (by simp [spec_ImageBytes.l1])
       | succ k2 =>
        have H := HA.out
        clear HA
        simp only [spec_ImageBytes.l1] at H
        by_cases c17 : x6_2 < 256
        ·rw [if_pos c17] at H
         have c17b0 : decide (x6_2 < 256) = true := decide_eq_true c17
         clear c17
         by_cases c18 : 0 ≤ x5_1
         ·rw [if_pos c18] at H
          have c18b0 : decide (0 ≤ x5_1) = true := decide_eq_true c18
          clear c18
          by_cases c19 : x5_1 < (l0_0.length : Int)
          ·rw [if_pos c19] at H
           have c19b0 : decide (x5_1 < (l0_0.length : Int)) = true := decide_eq_true c19
           clear c19
           by_cases c20 : 0 ≤ x6_2
           ·rw [if_pos c20] at H
            have c20b0 : decide (0 ≤ x6_2) = true := decide_eq_true c20
            clear c20
            by_cases c21 : x6_2 < ((rd_L3 l0_0 x5_1).length : Int)
            ·rw [if_pos c21] at H
             have c21b0 : decide (x6_2 < ((rd_L3 l0_0 x5_1).length : Int)) = true := decide_eq_true c21
             clear c21
             by_cases c22 : x3_2.length < 140737488355328
             ·rw [if_pos c22] at H
              have LMc22 := Aside0.mk c22
              clear c22
              obtain ⟨y344, hy344⟩ : ∃ y_ : List Int, y_ = (x3_2 ++ [(rd (rd_L3 l0_0 x5_1) x6_2) % 256]) := ⟨_, rfl⟩
              replace H : (spec_ImageBytes.l1 k2 y344 (wrap64 (x4_2 + (rd (rd_L3 l0_0 x5_1) x6_2))) x5_1 (wrap64 (x6_2 + 1)) l0_0) = some r := by first | (rw [hy344]; with_reducible exact H) | (have H2_ := (Option.bind_some _ _).symm.trans H; rw [hy344]; with_reducible exact H2_) | (have H2_ := (Option.bind_some _ _).symm.trans H; with_reducible exact H2_) | with_reducible exact H | (rw [hy344]; exact H) | exact H
              have Ny344 := Aside0.mk hy344
              clear hy344
              have H' := Aside0.mk H
              clear H
              have hcz23_0 : wr.cell? ⟨gb327, 0, none⟩ = some (.slice A0_0 l0_0.length c0_0) := (blk_cell BK327.out 0).trans rfl
              have hfz23_0 := blk_frozen BK327.out 0
              have p342 : 0 ≤ (x5_1 : Int) := dt
              have q342 : x5_1 < (l0_0.length : Int) := dt
              obtain ⟨ad342, A342_0, c342_0, e342, hx342_0, hl342_0, hi342_0⟩ := at_L3 HR0_0.out x5_1 p342 q342
              cases e342
              replace hx342_0 := (HB.out.cell (World.block_lt_of_cell? w _ hx342_0)).trans hx342_0
              have HR342_0 := Aside0.mk hi342_0
              have HC342_0 := Aside0.mk hl342_0
              clear hi342_0 hl342_0
              replace p342 := eq_true p342
              replace q342 := eq_true q342
              have p343 : 0 ≤ (x6_2 : Int) := dt
              have q343 : x6_2 < ((rd_L3 l0_0 x5_1).length : Int) := dt
              obtain ⟨ad343, e343, hx343_0⟩ := Kd.at_int HR342_0.out x6_2 p343 q343
              cases e343
              replace hx343_0 := (HB.out.cell (World.block_lt_of_cell? w _ hx343_0)).trans hx343_0
              replace p343 := eq_true p343
              replace q343 := eq_true q343
              go_wp2_with (first | ((with_reducible refine gate_builtin (b := .append) (xs := #[.tmp 30, .tmp 40]) rfl ?_); at_builtin; refine Kd.R_append (Kd.int .u8) (w0 := w) w.heap.size rfl (.tmp 30) (.tmp 40) 22 5 (.int .u8 0) 1 rfl Try.underlying22 info5 rfl (by decide) (by omega) u3 x3_2 ((rd (rd_L3 l0_0 x5_1) x6_2) % 256) [.int .u8 ((rd (rd_L3 l0_0 x5_1) x6_2) % 256)] (fun _ => True) (fun _ => False) rfl rfl ?aP (fun _ hk => hk.elim) ?aF ?aO ?aB ?aS ?aL ?_; (case aP => exact rfl); (case aB => exact (bw HB.out)); (case aF => exact (fun _ _ => trivial)); (case aO => exact (kr HO_3.out)); (case aS => exact (below_size (bw HB.out))); (case aL => have := LMc22.out; omega); intro v345 w24 ho hb hg hat; rw [← Ny344.out] at ho; have n0_ := Aside0.mk (blk_grown (g := gb327) (o := .cells #[.slice (some ad342) l0_0.length c0_0] 29 (0, 0)) (kb BK327.out) hg (Kd.R_ne HO_3.out BK327.out (by decide))); have n1_ := Aside0.mk (hb); have n2_ := Aside0.mk (ho); clear BK327; clear HB; clear HO_3; have BK327 := n0_; have HB := n1_; have HO346 := n2_; clear n0_ n1_ n2_; clear ho hb hg hat; have hcz25_0 : w24.cell? ⟨gb327, 0, none⟩ = some (.slice (some ad342) l0_0.length c0_0) := (blk_cell BK327.out 0).trans rfl; have hfz25_0 := blk_frozen BK327.out 0; have p347 : 0 ≤ (x5_1 : Int) := dt; have q347 : x5_1 < (l0_0.length : Int) := dt; obtain ⟨ad347, A347_0, c347_0, e347, hx347_0, hl347_0, hi347_0⟩ := at_L3 HR0_0.out x5_1 p347 q347; obtain rfl : ad342 = ad347 := (by injection e347); replace hx347_0 := (HB.out.cell (World.block_lt_of_cell? w _ hx347_0)).trans hx347_0; have HR347_0 := Aside0.mk hi347_0; have HC347_0 := Aside0.mk hl347_0; clear hi347_0 hl347_0; replace p347 := eq_true p347; replace q347 := eq_true q347; have p348 : 0 ≤ (x6_2 : Int) := dt; have q348 : x6_2 < ((rd_L3 l0_0 x5_1).length : Int) := dt; obtain ⟨ad348, e348, hx348_0⟩ := Kd.at_int HR347_0.out x6_2 p348 q348; cases e348; replace hx348_0 := (HB.out.cell (World.block_lt_of_cell? w _ hx348_0)).trans hx348_0; replace p348 := eq_true p348; replace q348 := eq_true q348))
              go_roundg k2
              case measure => have := HK1.out; have := HK2.out; omega
              case rel => exact ⟨(y344), (wrap64 (x4_2 + (rd (rd_L3 l0_0 x5_1) x6_2))), (wrap64 (x6_2 + 1)), (by first | rfl | (simp; done) | (simp [*]; done)), (by first | rfl | (simp; done) | (simp [*]; done)), H', ⟨by have := HK1.out; have := HK2.out; omega⟩, ⟨kr HO346.out⟩, ⟨kb BK327.out⟩, ⟨bw HB.out⟩⟩
             ·rw [if_neg c22] at H
              exact absurd H (by simp)
            ·rw [if_neg c21] at H
             exact absurd H (by simp)
           ·rw [if_neg c20] at H
            exact absurd H (by simp)
          ·rw [if_neg c19] at H
           exact absurd H (by simp)
         ·rw [if_neg c18] at H
          exact absurd H (by simp)
        ·rw [if_neg c17] at H
         have c17b0 : decide (x6_2 < 256) = false := decide_eq_false c17
         clear c17
         have H' := Aside0.mk H
         clear H
         go_wp2
         go_roundg k2
         case measure => have := HK1.out; have := HK2.out; omega
         case rel => exact ⟨(x3_2), (x4_2), (wrap64 (x5_1 + 1)), (by first | rfl | (simp; done) | (simp [*]; done)), (by first | rfl | (simp; done) | (simp [*]; done)), H', ⟨by have := HK1.out; have := HK2.out; omega⟩, ⟨kr HO_3.out⟩, ⟨kb BK327.out⟩, ⟨bw HB.out⟩⟩
     ·rw [if_neg c15] at H
      have c15b0 : decide (x5_1 < (l0_0.length : Int)) = false := decide_eq_false c15
      clear c15
      by_cases c26 : 5 < (x3_1.length : Int)
      ·rw [if_pos c26] at H
       have c26b0 : decide (5 < (x3_1.length : Int)) = true := decide_eq_true c26
       have c26b1 : decide (5 < x3_1.length) = true := decide_eq_true (by omega)
       clear c26
       obtain ⟨y341, hy341⟩ : ∃ y_ : List Int, y_ = (x3_1.set (5 : Int).toNat ((x4_1) % 256)) := ⟨_, rfl⟩
       replace H : (some y341) = some r := by first | (rw [hy341]; with_reducible exact H) | (have H2_ := (Option.bind_some _ _).symm.trans H; rw [hy341]; with_reducible exact H2_) | (have H2_ := (Option.bind_some _ _).symm.trans H; with_reducible exact H2_) | with_reducible exact H | (rw [hy341]; exact H) | exact H
       have Ny341 := Aside0.mk hy341
       clear hy341
       obtain rfl := Option.some.inj H
       have hcz28_0 : wr.cell? ⟨gb327, 0, none⟩ = some (.slice A0_0 l0_0.length c0_0) := (blk_cell BK327.out 0).trans rfl
       have hfz28_0 := blk_frozen BK327.out 0
       have p27 : 0 ≤ (5 : Int) := (by omega)
       have q27 : (5 : Int) < ((x3_1.length : Int) : Int) := dt
       have qi27 : (5 < x3_1.length) = True := eq_true (by omega)
       obtain ⟨go27, co27, eo27, gb27, gl27, cl27, HG27⟩ := Kd.R_form HO_3.out (by omega)
       (first | cases eo27 | (injection eo27 with ea_ en_ ec_; (first | subst ea_ | (injection ea_ with ea_; subst ea_)); subst ec_; clear en_))
       have GB27 := Aside0.mk gb27
       have GG27 := Aside0.mk HG27
       clear gb27 gl27 HG27
       obtain ⟨hx27_0, hf27_0⟩ := Kd.R_celln 0 HO_3.out (5 : Int) p27 q27
       (try rw [show ((5 : Int)).toNat = 5 from rfl] at hx27_0)
       (try simp only [Nat.reduceMul, Nat.zero_mul, Nat.zero_add, Nat.reduceAdd] at hx27_0)
       (try rw [show ((5 : Int)).toNat = 5 from rfl] at hf27_0)
       (try simp only [Nat.reduceMul, Nat.zero_mul, Nat.zero_add, Nat.reduceAdd] at hf27_0)
       replace p27 := eq_true p27
       replace q27 := eq_true q27
       have HP29 := Kd.R_putg HO_3.out (5 : Int) ((x4_1) % 256)
       go_wp2_with (first | ((with_reducible refine gate_store (t := 5) (p := 55) rfl ?_); refine store_event (t := 5) (p := 55) (v := ?vo_w30) (w1 := (wr.setCell ⟨go27, (5 : Int).toNat, none⟩ (.int .u8 ((x4_1) % 256)))) ?hg ?ho ?hn ?hr ?_; (case ho => rfl); (case hg => rfl); (case hn => rfl); (case hr => first | (go_simp; done) | (go_simp; rfl)); intro w30 hw; have hg : wr.grownBy w30 (some go27) := (by rw [hw]; exact HP29.2); have hp_ : Kd.R (Kd.int .u8) 5 w30 w.heap.size (fun _ => True) (.slice (some ⟨go27, 0, none⟩) x3_1.length co27) y341 := (by rw [hw, Ny341.out]; exact HP29.1); clear HP29; have n0_ := Aside0.mk (hp_); have n1_ := Aside0.mk (blk_grown (g := gb327) (o := .cells #[.slice A0_0 l0_0.length c0_0] 29 (0, 0)) (kb BK327.out) hg (Kd.R_ne HO_3.out BK327.out (by decide))); have n2_ := Aside0.mk ((by rw [hw]; exact below_set (HB.out) GB27.out : Below w.heap.size w w30)); clear HO_3; clear BK327; clear HB; have HO_3 := n0_; have BK327 := n1_; have HB := n2_; clear n0_ n1_ n2_; clear hg hw hp_))
       go_ret
       exact ⟨_, rt, kr HO_3.out, bw HB.out⟩
      ·rw [if_neg c26] at H
       exact absurd H (by simp)
  ·rw [if_neg c4] at H
   exact absurd H (by simp)
 ·replace c3 := Bool.eq_false_iff.mpr c3
  subst c3
  have H1 : (some (([] : List Int))) = some r := by rw [if_neg (show ¬ (false = true) by decide)] at H; exact H
  clear H
  have H := H1
  clear H1
  obtain ⟨y329, hy329⟩ : ∃ y_ : List Int, y_ = (([] : List Int)) := ⟨_, rfl⟩
  replace H : (some y329) = some r := by first | (rw [hy329]; with_reducible exact H) | (have H2_ := (Option.bind_some _ _).symm.trans H; rw [hy329]; with_reducible exact H2_) | (have H2_ := (Option.bind_some _ _).symm.trans H; with_reducible exact H2_) | with_reducible exact H | (rw [hy329]; exact H) | exact H
  have Ny329 := Aside0.mk hy329
  clear hy329
  obtain rfl := Option.some.inj H
  go_enter Try.func18, Try.ntmps18
  go_wp2_with (first | ((with_reducible refine gate_dst (N := 1) rfl ?_); refine bx (N := 1) (cs := #[.slice A0_0 l0_0.length c0_0]) (t := 29) ?_; intro gb327 hg w31 hbox hb; have n0_ := Aside0.mk (below_step (bw HB.out) hb); have n1_ := Aside0.mk (hbox); have n2_ := Aside0.mk ((gs hg (bw HB.out))); have n3_ := Aside0.mk ((gs hg (bw HB.out))); clear HB; have HB := n0_; have BK327 := n1_; have GW327 := n2_; have GE327 := n3_; clear n0_ n1_ n2_ n3_; clear hb hbox hg; have hcz32_0 : w31.cell? ⟨gb327, 0, none⟩ = some (.slice A0_0 l0_0.length c0_0) := (blk_cell BK327.out 0).trans rfl; have hfz32_0 := blk_frozen BK327.out 0) | ((with_reducible refine gate_callee (f := 20) rfl ?_); refine goesM_ (some 8) rfl rfl Try.func20 #[.agg #[.slice A0_0 l0_0.length c0_0]] ?_; (with_reducible refine (spec_ImageOk.calls k _ _ l0_0 false _ ?side1 ?side2 A2.out).mono ?_); (case side1 => exact kc (Kd.C_below HR0_0.out HB.out)); (case side2 => exact HC0_0.out); rintro e w33 ⟨rfl, hb⟩; refine ⟨_, rfl, ?_⟩; have n0_ := Aside0.mk (blk_below (g := gb327) (o := .cells #[.slice A0_0 l0_0.length c0_0] 29 (0, 0)) (kb BK327.out) hb); have n1_ := Aside0.mk (below_step (bw HB.out) hb); clear BK327; clear HB; have BK327 := n0_; have HB := n1_; clear n0_ n1_; (try clear hb); (try clear hb2); (try clear hk); (try clear hi)) | ((with_reducible refine gate_dst (N := 10) rfl ?_); refine Kd.R_lit (Kd.int .u8) _ 5 ?hg (N := 10) ?hd (xs := ([] : List Int)) (inner := []) (ok := fun _ => True) (okp := fun _ => True) ?hr ?hp (fun _ hk => hk) trivial (Below.refl _ _) (Nat.le_refl _) (by simp) ?_; (case hd => rfl); (case hg => rfl); (case hr => first | (go_simp; done) | (go_simp; rfl)); (case hp => exact (Reps.none _ _)); intro v330 w34 ho35 hb hg_ hnew_; clear hg_ hnew_; (first | rw [← Ny329.out] at ho35 | (simp only [Int.reduceToNat] at ho35; rw [← Ny329.out] at ho35)); have n0_ := Aside0.mk (Kd.R_lower ho35 (below_size (bw HB.out))); have n1_ := Aside0.mk (blk_below (g := gb327) (o := .cells #[.slice A0_0 l0_0.length c0_0] 29 (0, 0)) (kb BK327.out) hb); have n2_ := Aside0.mk (below_step (bw HB.out) hb); clear BK327; clear HB; have HO331 := n0_; have BK327 := n1_; have HB := n2_; clear n0_ n1_ n2_; clear hb ho35))
  go_ret
  exact ⟨_, rt, kr HO331.out, bw HB.out⟩

/-! ### impl_ImageRead: function 21 -/
mutual
def impl_ImageRead.j0 : Nat → List Int → Bool → Option ((List (List Int)) × Int)
 | 0, _, _ => none
 | k + 1, x0, x18 => if x18 = true then (some (([] : List (List Int)), 1)) else (if 4 < (x0.length : Int) then (if 5 < (x0.length : Int) then (if 6 ≤ (x0.length : Int) then ((impl_within.f (wrap64 (rd x0 4)) 1 8).bind fun t354 => (if t354 = true then (if ((x0.drop 6).length : Int) < (wrap64 ((wrap64 (rd x0 4)) * 256)) then (some (([] : List (List Int)), 3)) else (if ((x0.drop 6).length : Int) > (wrap64 ((wrap64 (rd x0 4)) * 256)) then (some (([] : List (List Int)), 4)) else (if 0 ≤ (wrap64 (rd x0 4)) then (if (wrap64 (rd x0 4) : Int).toNat ≤ 11728124029610 then (impl_ImageRead.l0 k (wrap64 (rd x0 5)) (x0.drop 6) ((x0.drop 6).length : Int) 0 (List.replicate (wrap64 (rd x0 4) : Int).toNat [])) else (none)) else (none)))) else (some (([] : List (List Int)), 2)))) else (none)) else (none)) else (none))
def impl_ImageRead.l0 : Nat → Int → List Int → Int → Int → List (List Int) → Option ((List (List Int)) × Int)
 | 0, _, _, _, _, _ => none
 | k + 1, x5, x52, x53, x54, x359000 => if x54 < x53 then (if 0 ≤ x54 then (if x54 < (x52.length : Int) then (if 0 ≤ (wrap64 (Int.tdiv x54 256)) then (if (wrap64 (Int.tdiv x54 256)) < (x359000.length : Int) then (if (rd_L3 x359000 (wrap64 (Int.tdiv x54 256))).length < 17592186044416 then (impl_ImageRead.l0 k (wrap64 (x5 - (wrap64 (rd x52 x54)))) x52 x53 (wrap64 (x54 + 1)) (x359000.set ((wrap64 (Int.tdiv x54 256)) : Int).toNat ((rd_L3 x359000 (wrap64 (Int.tdiv x54 256))) ++ [wrap64 (rd x52 x54)]))) else (none)) else (none)) else (none)) else (none)) else (none)) else ((impl_Byte.f x5).bind fun t365 => (if t365 = 0 then (some (x359000, 0)) else (some (([] : List (List Int)), 5))))
end
def impl_ImageRead.f (k : Nat) (l0 : List Int) : Option ((List (List Int)) × Int) := if (l0.length : Int) < 6 then (impl_ImageRead.j0 k l0 true) else (if 4 ≤ (l0.length : Int) then (impl_ImageRead.j0 k l0 ((strOfNums (l0.take 4)).toList != ([50, 67, 76, 75] : List UInt8))) else (none))
theorem impl_ImageRead.mono_l : ∀ k, (∀ y0 y1, LeO (impl_ImageRead.j0 k y0 y1) (impl_ImageRead.j0 (k + 1) y0 y1)) ∧ (∀ y0 y1 y2 y3 y4, LeO (impl_ImageRead.l0 k y0 y1 y2 y3 y4) (impl_ImageRead.l0 (k + 1) y0 y1 y2 y3 y4))
 | 0 => ⟨fun _ _ r h => by simp [impl_ImageRead.j0] at h, fun _ _ _ _ _ r h => by simp [impl_ImageRead.l0] at h⟩
 | k + 1 => by
  obtain ⟨ih0, ih1⟩ := impl_ImageRead.mono_l k
  refine ⟨?_, ?_⟩
  ·intro y0 y1
   unfold impl_ImageRead.j0
   repeat' first
   | (with_reducible exact ih0 _ _)
   | (with_reducible exact ih1 _ _ _ _ _)
   | (with_reducible exact LeO.refl _)
   | (with_reducible exact LeO.none _)
   | (with_reducible refine LeO.ite ?_ ?_)
   | (with_reducible refine LeO.bind ?_ (fun _ => ?_))
   | exact ih0 _ _
   | exact ih1 _ _ _ _ _
   | exact LeO.none _
   | refine LeO.ite ?_ ?_
   | refine LeO.bind ?_ (fun _ => ?_)
  ·intro y0 y1 y2 y3 y4
   unfold impl_ImageRead.l0
   repeat' first
   | (with_reducible exact ih0 _ _)
   | (with_reducible exact ih1 _ _ _ _ _)
   | (with_reducible exact LeO.refl _)
   | (with_reducible exact LeO.none _)
   | (with_reducible refine LeO.ite ?_ ?_)
   | (with_reducible refine LeO.bind ?_ (fun _ => ?_))
   | exact ih0 _ _
   | exact ih1 _ _ _ _ _
   | exact LeO.none _
   | refine LeO.ite ?_ ?_
   | refine LeO.bind ?_ (fun _ => ?_)
theorem impl_ImageRead.mono : ∀ a0 k, LeO (impl_ImageRead.f k a0) (impl_ImageRead.f (k + 1) a0) := by
 intro a0 k
 obtain ⟨ih0, ih1⟩ := impl_ImageRead.mono_l k
 unfold impl_ImageRead.f
 repeat' first
   | (with_reducible exact ih0 _ _)
   | (with_reducible exact ih1 _ _ _ _ _)
   | (with_reducible exact LeO.refl _)
   | (with_reducible exact LeO.none _)
   | (with_reducible refine LeO.ite ?_ ?_)
   | (with_reducible refine LeO.bind ?_ (fun _ => ?_))
   | exact ih0 _ _
   | exact ih1 _ _ _ _ _
   | exact LeO.none _
   | refine LeO.ite ?_ ?_
   | refine LeO.bind ?_ (fun _ => ?_)
def impl_ImageRead.T3 : Bool × List (List Nat × List Nat) := (true, [([], []), ([0], [0]), ([1], [1]), ([2], [2]), ([], []), ([4], [4]), ([5], [5]), ([6], [6]), ([3, 0, 1, 2, 3], [3]), ([7, 8, 0, 1, 2, 3, 4, 5, 6, 7, 8], [7])])
def impl_ImageRead.B3 : List Nat := [0, 1, 3, 7, 0, 16, 48, 112, 15, 511]
theorem impl_ImageRead.tab3 : rtab .any (opsOf Try.f21 3) = impl_ImageRead.T3 := by kernel_rfl
theorem impl_ImageRead.bits3 : waitsOk impl_ImageRead.T3.2 impl_ImageRead.B3 = true := by kernel_rfl
def impl_ImageRead.T15 : Bool × List (List Nat × List Nat) := (true, [([], []), ([0], [0]), ([], []), ([2], [2]), ([], []), ([4], [4]), ([], []), ([6], [6]), ([5, 7], [5, 7]), ([8], [8]), ([], []), ([10], [10]), ([11], [11]), ([9, 12], [9, 12]), ([1, 3, 0, 1, 2, 3, 4, 5, 6, 7, 8, 9, 10, 11, 12, 13], [1, 3]), ([14, 13, 13, 0, 1, 2, 3, 4, 5, 6, 7, 8, 9, 10, 11, 12, 13], [13, 14])])
def impl_ImageRead.B15 : List Nat := [0, 1, 0, 4, 0, 16, 0, 64, 240, 496, 0, 1024, 3072, 8176, 16383, 32767]
theorem impl_ImageRead.tab15 : rtab .any (opsOf Try.f21 15) = impl_ImageRead.T15 := by kernel_rfl
theorem impl_ImageRead.bits15 : waitsOk impl_ImageRead.T15.2 impl_ImageRead.B15 = true := by kernel_rfl
set_option maxHeartbeats 8000000 in
set_option maxRecDepth 100000 in
theorem impl_ImageRead.calls (k : Nat) (A0 : Option Addr) (c0 : Nat) (l0 : List Int) (r1 : List (List Int)) (r2 : Int) (w : World) (hr0 : Kd.C (Kd.int .u8) w A0 l0.length l0) (hc0 : l0.length ≤ c0) (h : impl_ImageRead.f k l0 = some (r1, r2)) :
  Calls Try.prog 21 #[.slice A0 l0.length c0] w fun e w' => ∃ v0_ : Value, e = .returned (.tuple #[.agg #[v0_], .int .i64 r2]) ∧ Kd.S (Kd.slice 3 (Kd.int .i64)) 30 w' w.heap.size (fun _ => True) v0_ r1 ∧ Below w.heap.size w w' := by
 have hu29 := Try.underlying29
 have HR0 := Aside0.mk hr0
 have HC0 := Aside0.mk hc0
 clear hr0 hc0
 have HB := Aside0.mk (Below.refl w.heap.size w)
 have H : (if (l0.length : Int) < 6 then (impl_ImageRead.j0 k l0 true) else (if 4 ≤ (l0.length : Int) then (impl_ImageRead.j0 k l0 ((strOfNums (l0.take 4)).toList != ([50, 67, 76, 75] : List UInt8))) else (none))) = some (r1, r2) := h
 clear h
 have HC2 := Aside0.mk H
 clear H
 go_enter Try.func21, Try.ntmps21
 go_upto_region 1 with (first | ((with_reducible refine gate_dst (N := 2) rfl ?_); refine bx (N := 2) (cs := #[.slice none 0 0]) (t := 29) ?_; intro gb349 hg w3 hbox hb; have n0_ := Aside0.mk (below_step (bw HB.out) hb); have n1_ := Aside0.mk (hbox); have n2_ := Aside0.mk ((gs hg (bw HB.out))); have n3_ := Aside0.mk ((gs hg (bw HB.out))); clear HB; have HB := n0_; have BK349 := n1_; have GW349 := n2_; have GE349 := n3_; clear n0_ n1_ n2_ n3_; clear hb hbox hg))
 (try simp only [Act.put, List.setIfInBounds_toArray, List.set_cons_zero, List.set_cons_succ])
 go_cut [18] (fun v18 wc => ∃ (kq : Nat) (x18_1 : Bool), v18 = .bool x18_1 ∧ Aside0 (impl_ImageRead.j0 kq l0 x18_1 = some (r1, r2)) ∧ Aside0 (kq ≤ k) ∧ Aside0 (wc.heap[gb349]? = some (.cells #[(.slice none 0 0)] 29 (0, 0))) ∧ Aside0 (Below w.heap.size w wc))
 case first =>
  have H := HC2.out
  clear HC2
  by_cases c4 : (l0.length : Int) < 6
  ·rw [if_pos c4] at H
   have c4b0 : decide ((l0.length : Int) < 6) = true := decide_eq_true c4
   have c4b1 : decide (l0.length < 6) = true := decide_eq_true (by omega)
   clear c4
   (first | rw [c4b0] | (simp only [i64_w, i32_w]; rw [c4b0]) | skip)
   have H' := Aside0.mk H
   clear H
   go_wp2
   go_meet
   case rel => exact ⟨_, (true), (by first | rfl | (simp; done) | (simp [*]; done)), H', ⟨by first | omega | exact Nat.le_refl _⟩, ⟨kb BK349.out⟩, ⟨bw HB.out⟩⟩
  ·rw [if_neg c4] at H
   have c4b0 : decide ((l0.length : Int) < 6) = false := decide_eq_false c4
   have c4b1 : decide (l0.length < 6) = false := decide_eq_false (by omega)
   clear c4
   (first | rw [c4b0] | (simp only [i64_w, i32_w]; rw [c4b0]) | skip)
   by_cases c5 : 4 ≤ (l0.length : Int)
   ·rw [if_pos c5] at H
    have c5b0 := eq_true c5
    have c5b1 : decide (4 ≤ (l0.length : Int)) = true := decide_eq_true c5
    clear c5
    have H' := Aside0.mk H
    clear H
    obtain ⟨i06, hi06, _, hsz6, _⟩ := info_parts info5
    obtain ⟨hcut6, hA6, hC6⟩ := print_take_of (P := Try.prog) (Value.int .u8) 0 22 5 .i64 Try.underlying22 hi06 hsz6 A0 c0 l0 4 (by omega) dt HC0.out
    have HR350 := Aside0.mk (Kd.C_of_reads (h1 := fun _ => rfl) (hA6 _ (Kd.reads_of_C HR0.out)))
    have HC350 := Aside0.mk hC6
    clear hA6 hC6 hi06 hsz6
    have hcv7 := Kd.C_string (P := Try.prog) (A := A0) (c := c0) Try.underlying22 Try.underlying5 Try.underlying9 (Kd.C_below HR350.out HB.out)
    (try (have hcvu7 := hcv7; simp only [List.length_take, Int.reduceToNat] at hcvu7))
    (try have hcvs349_7 := Kd.C_string (P := Try.prog) (A := A0) (c := c0) Try.underlying22 Try.underlying5 Try.underlying9 (Kd.C_below HR350.out (below_set (g := gb349) (j := 0) (v := .slice none 0 0) HB.out GE349.out)))
    (try (have hcvt349_7 := hcvs349_7; simp only [List.length_take, Int.reduceToNat] at hcvt349_7))
    go_wp2
    go_meet
    case rel => exact ⟨_, (((strOfNums (l0.take 4)).toList != ([50, 67, 76, 75] : List UInt8))), (by first | rfl | (simp; done) | (simp [*]; done)), H', ⟨by first | omega | exact Nat.le_refl _⟩, ⟨kb BK349.out⟩, ⟨bw HB.out⟩⟩
   ·rw [if_neg c5] at H
    exact absurd H (by simp)
 case rest =>
  clear HC2; (try clear c2); (try clear p2); (try clear c4); (try clear c4b0); (try clear c4b1); (try clear c5); (try clear c5b0); (try clear c5b1); (try clear hcv7)
  obtain ⟨kq, x18_1, rfl, HA, HJ1, BK349, HB⟩ := hcut
  cases kq with
  | zero => exact absurd HA.out (by simp [impl_ImageRead.j0])
  | succ kj1 =>
   have H := HA.out
   clear HA
   simp only [impl_ImageRead.j0] at H
   by_cases c8 : x18_1 = true
   ·subst c8
    have H1 : (some (([] : List (List Int)), 1)) = some (r1, r2) := by rw [if_pos rfl] at H; exact H
    clear H
    have H := H1
    clear H1
    simp only [Option.some.injEq, Prod.mk.injEq] at H
    obtain ⟨rfl, rfl⟩ := H
    have hcz9_0 : wc.cell? ⟨gb349, 0, none⟩ = some (.slice none 0 0) := (blk_cell BK349.out 0).trans rfl
    have hfz9_0 := blk_frozen BK349.out 0
    go_wp2
    refine bodyPost_ret (results_ct rfl _ _ gb349 29 #[.slice none 0 0] (0, 0) _ rfl (kt BK349.out) Try.underlying29 rfl (by kernel_rfl)) rfl ?_
    exact ⟨_, rt, by first | exact Kd.S_nil _ _ _ _ _ | exact Kd.N_nil _ _ _ _ _ | exact Kd.V_nil _ _ _ _ _ | exact Kd.Q_nil _ _ _ _ _ | exact Kd.R_nil _ _ _ _ _, bw HB.out⟩
   ·replace c8 := Bool.eq_false_iff.mpr c8
    subst c8
    have H1 : (if 4 < (l0.length : Int) then (if 5 < (l0.length : Int) then (if 6 ≤ (l0.length : Int) then ((impl_within.f (wrap64 (rd l0 4)) 1 8).bind fun t354 => (if t354 = true then (if ((l0.drop 6).length : Int) < (wrap64 ((wrap64 (rd l0 4)) * 256)) then (some (([] : List (List Int)), 3)) else (if ((l0.drop 6).length : Int) > (wrap64 ((wrap64 (rd l0 4)) * 256)) then (some (([] : List (List Int)), 4)) else (if 0 ≤ (wrap64 (rd l0 4)) then (if (wrap64 (rd l0 4) : Int).toNat ≤ 11728124029610 then (impl_ImageRead.l0 kj1 (wrap64 (rd l0 5)) (l0.drop 6) ((l0.drop 6).length : Int) 0 (List.replicate (wrap64 (rd l0 4) : Int).toNat [])) else (none)) else (none)))) else (some (([] : List (List Int)), 2)))) else (none)) else (none)) else (none)) = some (r1, r2) := by rw [if_neg (show ¬ (false = true) by decide)] at H; exact H
    clear H
    have H := H1
    clear H1
    by_cases c10 : 4 < (l0.length : Int)
    ·rw [if_pos c10] at H
     have c10b0 : decide (4 < (l0.length : Int)) = true := decide_eq_true c10
     have c10b1 : decide (4 < l0.length) = true := decide_eq_true (by omega)
     clear c10
     by_cases c11 : 5 < (l0.length : Int)
     ·rw [if_pos c11] at H
      have c11b0 : decide (5 < (l0.length : Int)) = true := decide_eq_true c11
      have c11b1 : decide (5 < l0.length) = true := decide_eq_true (by omega)
      clear c11
      by_cases c12 : 6 ≤ (l0.length : Int)
      ·rw [if_pos c12] at H
       have c12b0 := eq_true c12
       have c12b1 : decide (6 ≤ (l0.length : Int)) = true := decide_eq_true c12
       clear c12
       replace H := Option.bind_eq_some_iff.mp H
       obtain ⟨t354, A130, H⟩ := H
       replace H : (if t354 = true then (if ((l0.drop 6).length : Int) < (wrap64 ((wrap64 (rd l0 4)) * 256)) then (some (([] : List (List Int)), 3)) else (if ((l0.drop 6).length : Int) > (wrap64 ((wrap64 (rd l0 4)) * 256)) then (some (([] : List (List Int)), 4)) else (if 0 ≤ (wrap64 (rd l0 4)) then (if (wrap64 (rd l0 4) : Int).toNat ≤ 11728124029610 then (impl_ImageRead.l0 kj1 (wrap64 (rd l0 5)) (l0.drop 6) ((l0.drop 6).length : Int) 0 (List.replicate (wrap64 (rd l0 4) : Int).toNat [])) else (none)) else (none)))) else (some (([] : List (List Int)), 2))) = some (r1, r2) := H
       have A13 := Aside0.mk A130
       clear A130
       by_cases c14 : t354 = true
       ·subst c14
        have H1 : (if ((l0.drop 6).length : Int) < (wrap64 ((wrap64 (rd l0 4)) * 256)) then (some (([] : List (List Int)), 3)) else (if ((l0.drop 6).length : Int) > (wrap64 ((wrap64 (rd l0 4)) * 256)) then (some (([] : List (List Int)), 4)) else (if 0 ≤ (wrap64 (rd l0 4)) then (if (wrap64 (rd l0 4) : Int).toNat ≤ 11728124029610 then (impl_ImageRead.l0 kj1 (wrap64 (rd l0 5)) (l0.drop 6) ((l0.drop 6).length : Int) 0 (List.replicate (wrap64 (rd l0 4) : Int).toNat [])) else (none)) else (none)))) = some (r1, r2) := by rw [if_pos rfl] at H; exact H
        clear H
        have H := H1
        clear H1
        by_cases c15 : ((l0.drop 6).length : Int) < (wrap64 ((wrap64 (rd l0 4)) * 256))
        ·rw [if_pos c15] at H
         have c15b0 : decide (((l0.drop 6).length : Int) < (wrap64 ((wrap64 (rd l0 4)) * 256))) = true := decide_eq_true c15
         (try (have c15b0d := c15b0; simp only [List.length_drop, gt_iff_lt] at c15b0d))
         clear c15
         simp only [Option.some.injEq, Prod.mk.injEq] at H
         obtain ⟨rfl, rfl⟩ := H
         try go_wp2
         have n0_ := Aside0.mk (blk_drew BK349.out)
         have n1_ := Aside0.mk (below_drew1 HB.out)
         clear BK349; clear HB; have BK349 := n0_; have HB := n1_; clear n0_ n1_
         have p351 : 0 ≤ (4 : Int) := (by omega)
         have q351 : 4 < (l0.length : Int) := dt
         obtain ⟨ad351, e351, hx351_0⟩ := Kd.at_int HR0.out 4 p351 q351
         have hw351_0 := hx351_0
         (try rw [show ((4 : Int)).toNat = 4 from rfl] at hw351_0)
         (try rw [show 4 * 1 = 4 from rfl] at hw351_0)
         (try simp only [Nat.reduceMul, Nat.reduceEqDiff, Go.Addr.add, ↓reduceIte] at hw351_0)
         cases e351
         (try simp only [show (4 : Int).toNat = 4 from rfl, Nat.reduceMul, Nat.reduceEqDiff, Go.Addr.add, ↓reduceIte] at hx351_0)
         have qi351 : (4 < l0.length) = True := eq_true (by omega)
         (try rw [show ((4 : Int)).toNat = 4 from rfl] at hx351_0)
         replace hx351_0 := (HB.out.cell (World.block_lt_of_cell? w _ hx351_0)).trans hx351_0
         replace p351 := eq_true p351
         replace q351 := eq_true q351
         (try (have q351d := q351; rw [List.length_drop] at q351d))
         have p352 : 0 ≤ (5 : Int) := (by omega)
         have q352 : 5 < (l0.length : Int) := dt
         obtain ⟨ad352, e352, hx352_0⟩ := Kd.at_int HR0.out 5 p352 q352
         have hw352_0 := hx352_0
         (try rw [show ((5 : Int)).toNat = 5 from rfl] at hw352_0)
         (try rw [show 5 * 1 = 5 from rfl] at hw352_0)
         (try simp only [Nat.reduceMul, Nat.reduceEqDiff, Go.Addr.add, ↓reduceIte] at hw352_0)
         obtain rfl : ad351 = ad352 := (by injection e352)
         (try simp only [show (5 : Int).toNat = 5 from rfl, Nat.reduceMul, Nat.reduceEqDiff, Go.Addr.add, ↓reduceIte] at hx352_0)
         have qi352 : (5 < l0.length) = True := eq_true (by omega)
         (try rw [show ((5 : Int)).toNat = 5 from rfl] at hx352_0)
         replace hx352_0 := (HB.out.cell (World.block_lt_of_cell? w _ hx352_0)).trans hx352_0
         replace p352 := eq_true p352
         replace q352 := eq_true q352
         (try (have q352d := q352; rw [List.length_drop] at q352d))
         refine start_ (n := 10) (S := fun w' => w'.cell? ⟨ad351.block, ad351.off + 4, none⟩ = some (.int .u8 (rd l0 4)) ∧ w'.cell? ⟨ad351.block, ad351.off + 5, none⟩ = some (.int .u8 (rd l0 5))) (ds := []) #[false, false, false, false, false, false, false, false, false, false] (by kernel_rfl) rfl rfl ⟨((HB.out.cell (World.block_lt_of_cell? w _ hw351_0)).trans hw351_0), ((HB.out.cell (World.block_lt_of_cell? w _ hw352_0)).trans hw352_0)⟩ (fun hHeld => ?_); refine with_tabW impl_ImageRead.tab3 impl_ImageRead.bits3 (fun HT_ HW_ => ?_)
         generalize wc.drew = w16 at BK349 HB hx351_0 hx352_0 hHeld ⊢
         refine pure_ (i := 0) (N := some 20) (v := ?_) (a' := ?_) #[true, false, false, false, false, false, false, false, false, false] rfl rfl (any_of HT_.out (by kernel_rfl)) (fun _ _ _ h => h) (Or.inl ⟨by rfl, ?_⟩) ?_ ?_
         rotate_left
         ·intro w'
          go_simp
          with_reducible rfl
         rotate_left
         ·simp only [Act.put, List.setIfInBounds_toArray, List.set_cons_zero, List.set_cons_succ, i64_w, i32_w]
          rfl
         refine pure_ (i := 1) (N := some 21) (v := ?_) (a' := ?_) #[true, true, false, false, false, false, false, false, false, false] rfl rfl (any_of HT_.out (by kernel_rfl)) (fun _ _ _ h => h) (Or.inl ⟨by rfl, ?_⟩) ?_ ?_
         rotate_left
         ·intro w'
          go_simp
          with_reducible rfl
         rotate_left
         ·simp only [Act.put, List.setIfInBounds_toArray, List.set_cons_zero, List.set_cons_succ, i64_w, i32_w]
          rfl
         refine pure_ (i := 4) (N := some 24) (v := ?_) (a' := ?_) #[true, true, false, false, true, false, false, false, false, false] rfl rfl (any_of HT_.out (by kernel_rfl)) (fun _ _ _ h => h) (Or.inl ⟨by rfl, ?_⟩) ?_ ?_
         rotate_left
         ·intro w'
          go_simp
          with_reducible rfl
         rotate_left
         ·simp only [Act.put, List.setIfInBounds_toArray, List.set_cons_zero, List.set_cons_succ, i64_w, i32_w]
          rfl
         refine pure_ (i := 5) (N := some 25) (v := ?_) (a' := ?_) #[true, true, false, false, true, true, false, false, false, false] rfl rfl (any_of HT_.out (by kernel_rfl)) (fun _ _ _ h => h) (Or.inl ⟨by rfl, ?_⟩) ?_ ?_
         rotate_left
         ·intro w'
          go_simp
          with_reducible rfl
         rotate_left
         ·simp only [Act.put, List.setIfInBounds_toArray, List.set_cons_zero, List.set_cons_succ, i64_w, i32_w]
          rfl
         refine take_ (i := 2) (N := some 22) (v := ?_) (a' := ?_) #[true, true, true, false, true, true, false, false, false, false] rfl rfl (take_ofW HT_.out HW_.out (by kernel_rfl)) (fun _ _ _ h => h) (Or.inl ⟨by rfl, ?_⟩) hHeld ?_ ?_
         rotate_left
         ·rintro w' ⟨s0, s1⟩
          go_simp
          with_reducible rfl
         rotate_left
         ·simp only [Act.put, List.setIfInBounds_toArray, List.set_cons_zero, List.set_cons_succ, i64_w, i32_w]
          rfl
         refine pure_ (i := 3) (N := some 23) (v := ?_) (a' := ?_) #[true, true, true, true, true, true, false, false, false, false] rfl rfl (any_of HT_.out (by kernel_rfl)) (fun _ _ _ h => h) (Or.inl ⟨by rfl, ?_⟩) ?_ ?_
         rotate_left
         ·intro w'
          go_simp
          with_reducible rfl
         rotate_left
         ·simp only [Act.put, List.setIfInBounds_toArray, List.set_cons_zero, List.set_cons_succ, i64_w, i32_w]
          rfl
         refine pure_ (i := 8) (N := some 4) (v := ?_) (a' := ?_) #[true, true, true, true, true, true, false, false, true, false] rfl rfl (any_of HT_.out (by kernel_rfl)) (fun _ _ _ h => h) (Or.inl ⟨by rfl, ?_⟩) ?_ ?_
         rotate_left
         ·intro w'
          go_simp
          with_reducible rfl
         rotate_left
         ·simp only [Act.put, List.setIfInBounds_toArray, List.set_cons_zero, List.set_cons_succ, i64_w, i32_w]
          rfl
         refine take_ (i := 6) (N := some 26) (v := ?_) (a' := ?_) #[true, true, true, true, true, true, true, false, true, false] rfl rfl (take_ofW HT_.out HW_.out (by kernel_rfl)) (fun _ _ _ h => h) (Or.inl ⟨by rfl, ?_⟩) hHeld ?_ ?_
         rotate_left
         ·rintro w' ⟨s0, s1⟩
          go_simp
          with_reducible rfl
         rotate_left
         ·simp only [Act.put, List.setIfInBounds_toArray, List.set_cons_zero, List.set_cons_succ, i64_w, i32_w]
          rfl
         refine pure_ (i := 7) (N := some 27) (v := ?_) (a' := ?_) #[true, true, true, true, true, true, true, true, true, false] rfl rfl (any_of HT_.out (by kernel_rfl)) (fun _ _ _ h => h) (Or.inl ⟨by rfl, ?_⟩) ?_ ?_
         rotate_left
         ·intro w'
          go_simp
          with_reducible rfl
         rotate_left
         ·simp only [Act.put, List.setIfInBounds_toArray, List.set_cons_zero, List.set_cons_succ, i64_w, i32_w]
          rfl
         refine pure_ (i := 9) (N := some 5) (v := ?_) (a' := ?_) #[true, true, true, true, true, true, true, true, true, true] rfl rfl (any_of HT_.out (by kernel_rfl)) (fun _ _ _ h => h) (Or.inl ⟨by rfl, ?_⟩) ?_ ?_
         rotate_left
         ·intro w'
          go_simp
          with_reducible rfl
         rotate_left
         ·simp only [Act.put, List.setIfInBounds_toArray, List.set_cons_zero, List.set_cons_succ, i64_w, i32_w]
          rfl
         refine done_ (done_of HT_.out (by kernel_rfl)) ?_
         obtain ⟨i017, hi017, _, hsz17, _⟩ := info_parts info5
         obtain ⟨A17, hcut17, hA17, hC17⟩ := print_drop_of (P := Try.prog) (Value.int .u8) 0 22 5 .i64 Try.underlying22 hi017 hsz17 (some ad351) c0 l0 6 (by omega) dt HC0.out
         have HR353 := Aside0.mk (Kd.C_of_reads (h1 := fun _ => rfl) (hA17 _ (Kd.reads_of_C HR0.out)))
         have HC353 := Aside0.mk hC17
         clear hA17 hC17 hi017 hsz17
         try go_wp2_with (first | ((with_reducible refine gate_callee (f := 67) rfl ?_); refine goesM_ (some 32) rfl rfl Try.func67 #[.int .i64 (wrap64 (rd l0 4)), .int .i64 1, .int .i64 8] ?_; (with_reducible refine (impl_within.calls (wrap64 (rd l0 4)) 1 8 true _ A13.out).mono ?_); rintro e w' ⟨rfl, ⟨nd, rfl⟩⟩; refine ⟨_, rfl, ?_⟩; (try (rw [drewN_self w16]; generalize hq_ : World.drewN w16 _ = w16; have n0_ : Aside0 (w16.heap[gb349]? = some (.cells #[.slice none 0 0] 29 (0, 0))) := ⟨by rw [← hq_]; exact (kb BK349.out)⟩; have n1_ : Aside0 (Below w.heap.size w w16) := ⟨by rw [← hq_]; exact (bw HB.out)⟩; clear BK349 HB hq_; have BK349 := n0_; have HB := n1_; clear n0_ n1_; (try (have hcz18_0 : w16.cell? ⟨gb349, 0, none⟩ = some (.slice none 0 0) := (blk_cell BK349.out 0).trans rfl)); (try (have hfz18_0 := blk_frozen BK349.out 0)))); have hcz18_0 : w16.cell? ⟨gb349, 0, none⟩ = some (.slice none 0 0) := (blk_cell BK349.out 0).trans rfl; have hfz18_0 := blk_frozen BK349.out 0))
         refine bodyPost_ret (results_ct rfl _ _ gb349 29 #[.slice none 0 0] (0, 0) _ rfl (kt BK349.out) Try.underlying29 rfl (by kernel_rfl)) rfl ?_
         exact ⟨_, rt, by first | exact Kd.S_nil _ _ _ _ _ | exact Kd.N_nil _ _ _ _ _ | exact Kd.V_nil _ _ _ _ _ | exact Kd.Q_nil _ _ _ _ _ | exact Kd.R_nil _ _ _ _ _, bw HB.out⟩
        ·rw [if_neg c15] at H
         have c15b0 : decide (((l0.drop 6).length : Int) < (wrap64 ((wrap64 (rd l0 4)) * 256))) = false := decide_eq_false c15
         (try (have c15b0d := c15b0; simp only [List.length_drop, gt_iff_lt] at c15b0d))
         clear c15
         by_cases c19 : ((l0.drop 6).length : Int) > (wrap64 ((wrap64 (rd l0 4)) * 256))
         ·rw [if_pos c19] at H
          have c19b0 : decide ((wrap64 ((wrap64 (rd l0 4)) * 256)) < ((l0.drop 6).length : Int)) = true := decide_eq_true c19
          (try (have c19b0d := c19b0; simp only [List.length_drop, gt_iff_lt] at c19b0d))
          clear c19
          simp only [Option.some.injEq, Prod.mk.injEq] at H
          obtain ⟨rfl, rfl⟩ := H
          try go_wp2
          have n0_ := Aside0.mk (blk_drew BK349.out)
          have n1_ := Aside0.mk (below_drew1 HB.out)
          clear BK349; clear HB; have BK349 := n0_; have HB := n1_; clear n0_ n1_
          have p351 : 0 ≤ (4 : Int) := (by omega)
          have q351 : 4 < (l0.length : Int) := dt
          obtain ⟨ad351, e351, hx351_0⟩ := Kd.at_int HR0.out 4 p351 q351
          have hw351_0 := hx351_0
          (try rw [show ((4 : Int)).toNat = 4 from rfl] at hw351_0)
          (try rw [show 4 * 1 = 4 from rfl] at hw351_0)
          (try simp only [Nat.reduceMul, Nat.reduceEqDiff, Go.Addr.add, ↓reduceIte] at hw351_0)
          cases e351
          (try simp only [show (4 : Int).toNat = 4 from rfl, Nat.reduceMul, Nat.reduceEqDiff, Go.Addr.add, ↓reduceIte] at hx351_0)
          have qi351 : (4 < l0.length) = True := eq_true (by omega)
          (try rw [show ((4 : Int)).toNat = 4 from rfl] at hx351_0)
          replace hx351_0 := (HB.out.cell (World.block_lt_of_cell? w _ hx351_0)).trans hx351_0
          replace p351 := eq_true p351
          replace q351 := eq_true q351
          (try (have q351d := q351; rw [List.length_drop] at q351d))
          have p352 : 0 ≤ (5 : Int) := (by omega)
          have q352 : 5 < (l0.length : Int) := dt
          obtain ⟨ad352, e352, hx352_0⟩ := Kd.at_int HR0.out 5 p352 q352
          have hw352_0 := hx352_0
          (try rw [show ((5 : Int)).toNat = 5 from rfl] at hw352_0)
          (try rw [show 5 * 1 = 5 from rfl] at hw352_0)
          (try simp only [Nat.reduceMul, Nat.reduceEqDiff, Go.Addr.add, ↓reduceIte] at hw352_0)
          obtain rfl : ad351 = ad352 := (by injection e352)
          (try simp only [show (5 : Int).toNat = 5 from rfl, Nat.reduceMul, Nat.reduceEqDiff, Go.Addr.add, ↓reduceIte] at hx352_0)
          have qi352 : (5 < l0.length) = True := eq_true (by omega)
          (try rw [show ((5 : Int)).toNat = 5 from rfl] at hx352_0)
          replace hx352_0 := (HB.out.cell (World.block_lt_of_cell? w _ hx352_0)).trans hx352_0
          replace p352 := eq_true p352
          replace q352 := eq_true q352
          (try (have q352d := q352; rw [List.length_drop] at q352d))
          refine start_ (n := 10) (S := fun w' => w'.cell? ⟨ad351.block, ad351.off + 4, none⟩ = some (.int .u8 (rd l0 4)) ∧ w'.cell? ⟨ad351.block, ad351.off + 5, none⟩ = some (.int .u8 (rd l0 5))) (ds := []) #[false, false, false, false, false, false, false, false, false, false] (by kernel_rfl) rfl rfl ⟨((HB.out.cell (World.block_lt_of_cell? w _ hw351_0)).trans hw351_0), ((HB.out.cell (World.block_lt_of_cell? w _ hw352_0)).trans hw352_0)⟩ (fun hHeld => ?_); refine with_tabW impl_ImageRead.tab3 impl_ImageRead.bits3 (fun HT_ HW_ => ?_)
          generalize wc.drew = w20 at BK349 HB hx351_0 hx352_0 hHeld ⊢
          refine pure_ (i := 0) (N := some 20) (v := ?_) (a' := ?_) #[true, false, false, false, false, false, false, false, false, false] rfl rfl (any_of HT_.out (by kernel_rfl)) (fun _ _ _ h => h) (Or.inl ⟨by rfl, ?_⟩) ?_ ?_
          rotate_left
          ·intro w'
           go_simp
           with_reducible rfl
          rotate_left
          ·simp only [Act.put, List.setIfInBounds_toArray, List.set_cons_zero, List.set_cons_succ, i64_w, i32_w]
           rfl
          refine pure_ (i := 1) (N := some 21) (v := ?_) (a' := ?_) #[true, true, false, false, false, false, false, false, false, false] rfl rfl (any_of HT_.out (by kernel_rfl)) (fun _ _ _ h => h) (Or.inl ⟨by rfl, ?_⟩) ?_ ?_
          rotate_left
          ·intro w'
           go_simp
           with_reducible rfl
          rotate_left
          ·simp only [Act.put, List.setIfInBounds_toArray, List.set_cons_zero, List.set_cons_succ, i64_w, i32_w]
           rfl
          refine pure_ (i := 4) (N := some 24) (v := ?_) (a' := ?_) #[true, true, false, false, true, false, false, false, false, false] rfl rfl (any_of HT_.out (by kernel_rfl)) (fun _ _ _ h => h) (Or.inl ⟨by rfl, ?_⟩) ?_ ?_
          rotate_left
          ·intro w'
           go_simp
           with_reducible rfl
          rotate_left
          ·simp only [Act.put, List.setIfInBounds_toArray, List.set_cons_zero, List.set_cons_succ, i64_w, i32_w]
           rfl
          refine pure_ (i := 5) (N := some 25) (v := ?_) (a' := ?_) #[true, true, false, false, true, true, false, false, false, false] rfl rfl (any_of HT_.out (by kernel_rfl)) (fun _ _ _ h => h) (Or.inl ⟨by rfl, ?_⟩) ?_ ?_
          rotate_left
          ·intro w'
           go_simp
           with_reducible rfl
          rotate_left
          ·simp only [Act.put, List.setIfInBounds_toArray, List.set_cons_zero, List.set_cons_succ, i64_w, i32_w]
           rfl
          refine take_ (i := 2) (N := some 22) (v := ?_) (a' := ?_) #[true, true, true, false, true, true, false, false, false, false] rfl rfl (take_ofW HT_.out HW_.out (by kernel_rfl)) (fun _ _ _ h => h) (Or.inl ⟨by rfl, ?_⟩) hHeld ?_ ?_
          rotate_left
          ·rintro w' ⟨s0, s1⟩
           go_simp
           with_reducible rfl
          rotate_left
          ·simp only [Act.put, List.setIfInBounds_toArray, List.set_cons_zero, List.set_cons_succ, i64_w, i32_w]
           rfl
          refine pure_ (i := 3) (N := some 23) (v := ?_) (a' := ?_) #[true, true, true, true, true, true, false, false, false, false] rfl rfl (any_of HT_.out (by kernel_rfl)) (fun _ _ _ h => h) (Or.inl ⟨by rfl, ?_⟩) ?_ ?_
          rotate_left
          ·intro w'
           go_simp
           with_reducible rfl
          rotate_left
          ·simp only [Act.put, List.setIfInBounds_toArray, List.set_cons_zero, List.set_cons_succ, i64_w, i32_w]
           rfl
          refine pure_ (i := 8) (N := some 4) (v := ?_) (a' := ?_) #[true, true, true, true, true, true, false, false, true, false] rfl rfl (any_of HT_.out (by kernel_rfl)) (fun _ _ _ h => h) (Or.inl ⟨by rfl, ?_⟩) ?_ ?_
          rotate_left
          ·intro w'
           go_simp
           with_reducible rfl
          rotate_left
          ·simp only [Act.put, List.setIfInBounds_toArray, List.set_cons_zero, List.set_cons_succ, i64_w, i32_w]
           rfl
          refine take_ (i := 6) (N := some 26) (v := ?_) (a' := ?_) #[true, true, true, true, true, true, true, false, true, false] rfl rfl (take_ofW HT_.out HW_.out (by kernel_rfl)) (fun _ _ _ h => h) (Or.inl ⟨by rfl, ?_⟩) hHeld ?_ ?_
          rotate_left
          ·rintro w' ⟨s0, s1⟩
           go_simp
           with_reducible rfl
          rotate_left
          ·simp only [Act.put, List.setIfInBounds_toArray, List.set_cons_zero, List.set_cons_succ, i64_w, i32_w]
           rfl
          refine pure_ (i := 7) (N := some 27) (v := ?_) (a' := ?_) #[true, true, true, true, true, true, true, true, true, false] rfl rfl (any_of HT_.out (by kernel_rfl)) (fun _ _ _ h => h) (Or.inl ⟨by rfl, ?_⟩) ?_ ?_
          rotate_left
          ·intro w'
           go_simp
           with_reducible rfl
          rotate_left
          ·simp only [Act.put, List.setIfInBounds_toArray, List.set_cons_zero, List.set_cons_succ, i64_w, i32_w]
           rfl
          refine pure_ (i := 9) (N := some 5) (v := ?_) (a' := ?_) #[true, true, true, true, true, true, true, true, true, true] rfl rfl (any_of HT_.out (by kernel_rfl)) (fun _ _ _ h => h) (Or.inl ⟨by rfl, ?_⟩) ?_ ?_
          rotate_left
          ·intro w'
           go_simp
           with_reducible rfl
          rotate_left
          ·simp only [Act.put, List.setIfInBounds_toArray, List.set_cons_zero, List.set_cons_succ, i64_w, i32_w]
           rfl
          refine done_ (done_of HT_.out (by kernel_rfl)) ?_
          obtain ⟨i021, hi021, _, hsz21, _⟩ := info_parts info5
          obtain ⟨A21, hcut21, hA21, hC21⟩ := print_drop_of (P := Try.prog) (Value.int .u8) 0 22 5 .i64 Try.underlying22 hi021 hsz21 (some ad351) c0 l0 6 (by omega) dt HC0.out
          have HR353 := Aside0.mk (Kd.C_of_reads (h1 := fun _ => rfl) (hA21 _ (Kd.reads_of_C HR0.out)))
          have HC353 := Aside0.mk hC21
          clear hA21 hC21 hi021 hsz21
          try go_wp2_with (first | ((with_reducible refine gate_callee (f := 67) rfl ?_); refine goesM_ (some 32) rfl rfl Try.func67 #[.int .i64 (wrap64 (rd l0 4)), .int .i64 1, .int .i64 8] ?_; (with_reducible refine (impl_within.calls (wrap64 (rd l0 4)) 1 8 true _ A13.out).mono ?_); rintro e w' ⟨rfl, ⟨nd, rfl⟩⟩; refine ⟨_, rfl, ?_⟩; (try (rw [drewN_self w20]; generalize hq_ : World.drewN w20 _ = w20; have n0_ : Aside0 (w20.heap[gb349]? = some (.cells #[.slice none 0 0] 29 (0, 0))) := ⟨by rw [← hq_]; exact (kb BK349.out)⟩; have n1_ : Aside0 (Below w.heap.size w w20) := ⟨by rw [← hq_]; exact (bw HB.out)⟩; clear BK349 HB hq_; have BK349 := n0_; have HB := n1_; clear n0_ n1_; (try (have hcz22_0 : w20.cell? ⟨gb349, 0, none⟩ = some (.slice none 0 0) := (blk_cell BK349.out 0).trans rfl)); (try (have hfz22_0 := blk_frozen BK349.out 0)))); have hcz22_0 : w20.cell? ⟨gb349, 0, none⟩ = some (.slice none 0 0) := (blk_cell BK349.out 0).trans rfl; have hfz22_0 := blk_frozen BK349.out 0))
          refine bodyPost_ret (results_ct rfl _ _ gb349 29 #[.slice none 0 0] (0, 0) _ rfl (kt BK349.out) Try.underlying29 rfl (by kernel_rfl)) rfl ?_
          exact ⟨_, rt, by first | exact Kd.S_nil _ _ _ _ _ | exact Kd.N_nil _ _ _ _ _ | exact Kd.V_nil _ _ _ _ _ | exact Kd.Q_nil _ _ _ _ _ | exact Kd.R_nil _ _ _ _ _, bw HB.out⟩
         ·rw [if_neg c19] at H
          have c19b0 : decide ((wrap64 ((wrap64 (rd l0 4)) * 256)) < ((l0.drop 6).length : Int)) = false := decide_eq_false c19
          (try (have c19b0d := c19b0; simp only [List.length_drop, gt_iff_lt] at c19b0d))
          clear c19
          obtain ⟨ji23, hji23⟩ : ∃ j_ : Int, (wrap64 (rd l0 4)) = j_ := ⟨_, rfl⟩
          replace H : (if 0 ≤ (ji23) then (if (ji23 : Int).toNat ≤ 11728124029610 then (impl_ImageRead.l0 kj1 (wrap64 (rd l0 5)) (l0.drop 6) ((l0.drop 6).length : Int) 0 (List.replicate (ji23 : Int).toNat [])) else (none)) else (none)) = some (r1, r2) := by first | (rw [hji23] at H; exact H) | (simp only [hji23] at H ⊢; exact H)
          (try rw [hji23] at c15b0)
          (try rw [hji23] at c19b0)
          (try rw [hji23] at A13)
          have hji23w : (IntKind.i64.wrap (rd l0 4)) = ji23 := (i64_w _).trans hji23
          (try (have c15b0d := c15b0; simp only [List.length_drop, gt_iff_lt] at c15b0d))
          (try (have c15b0d := c15b0; simp only [List.length_drop, gt_iff_lt] at c15b0d))
          (try (have c19b0d := c19b0; simp only [List.length_drop, gt_iff_lt] at c19b0d))
          (try (have c19b0d := c19b0; simp only [List.length_drop, gt_iff_lt] at c19b0d))
          by_cases c24 : 0 ≤ (ji23)
          ·rw [if_pos c24] at H
           have c24b0 := eq_true c24
           have c24b1 : decide (0 ≤ (ji23)) = true := decide_eq_true c24
           clear c24
           by_cases c25 : (ji23 : Int).toNat ≤ 11728124029610
           ·rw [if_pos c25] at H
            have c25b0 := eq_true c25
            have c25b1 : decide ((ji23 : Int).toNat ≤ 11728124029610) = true := decide_eq_true c25
            clear c25
            obtain ⟨y355, hy355⟩ : ∃ y_ : List (List Int), y_ = (List.replicate (ji23 : Int).toNat []) := ⟨_, rfl⟩
            replace H : (impl_ImageRead.l0 kj1 (wrap64 (rd l0 5)) (l0.drop 6) ((l0.drop 6).length : Int) 0 y355) = some (r1, r2) := by first | (rw [hy355]; with_reducible exact H) | (have H2_ := (Option.bind_some _ _).symm.trans H; rw [hy355]; with_reducible exact H2_) | (have H2_ := (Option.bind_some _ _).symm.trans H; with_reducible exact H2_) | with_reducible exact H | (rw [hy355]; exact H) | exact H
            have Ny355 := Aside0.mk hy355
            clear hy355
            have H' := Aside0.mk H
            clear H
            try go_wp2
            have n0_ := Aside0.mk (blk_drew BK349.out)
            have n1_ := Aside0.mk (below_drew1 HB.out)
            clear BK349; clear HB; have BK349 := n0_; have HB := n1_; clear n0_ n1_
            have p351 : 0 ≤ (4 : Int) := (by omega)
            have q351 : 4 < (l0.length : Int) := dt
            obtain ⟨ad351, e351, hx351_0⟩ := Kd.at_int HR0.out 4 p351 q351
            have hw351_0 := hx351_0
            (try rw [show ((4 : Int)).toNat = 4 from rfl] at hw351_0)
            (try rw [show 4 * 1 = 4 from rfl] at hw351_0)
            (try simp only [Nat.reduceMul, Nat.reduceEqDiff, Go.Addr.add, ↓reduceIte] at hw351_0)
            cases e351
            (try simp only [show (4 : Int).toNat = 4 from rfl, Nat.reduceMul, Nat.reduceEqDiff, Go.Addr.add, ↓reduceIte] at hx351_0)
            have qi351 : (4 < l0.length) = True := eq_true (by omega)
            (try rw [show ((4 : Int)).toNat = 4 from rfl] at hx351_0)
            replace hx351_0 := (HB.out.cell (World.block_lt_of_cell? w _ hx351_0)).trans hx351_0
            replace p351 := eq_true p351
            replace q351 := eq_true q351
            (try (have q351d := q351; rw [List.length_drop] at q351d))
            have p352 : 0 ≤ (5 : Int) := (by omega)
            have q352 : 5 < (l0.length : Int) := dt
            obtain ⟨ad352, e352, hx352_0⟩ := Kd.at_int HR0.out 5 p352 q352
            have hw352_0 := hx352_0
            (try rw [show ((5 : Int)).toNat = 5 from rfl] at hw352_0)
            (try rw [show 5 * 1 = 5 from rfl] at hw352_0)
            (try simp only [Nat.reduceMul, Nat.reduceEqDiff, Go.Addr.add, ↓reduceIte] at hw352_0)
            obtain rfl : ad351 = ad352 := (by injection e352)
            (try simp only [show (5 : Int).toNat = 5 from rfl, Nat.reduceMul, Nat.reduceEqDiff, Go.Addr.add, ↓reduceIte] at hx352_0)
            have qi352 : (5 < l0.length) = True := eq_true (by omega)
            (try rw [show ((5 : Int)).toNat = 5 from rfl] at hx352_0)
            replace hx352_0 := (HB.out.cell (World.block_lt_of_cell? w _ hx352_0)).trans hx352_0
            replace p352 := eq_true p352
            replace q352 := eq_true q352
            (try (have q352d := q352; rw [List.length_drop] at q352d))
            refine start_ (n := 10) (S := fun w' => w'.cell? ⟨ad351.block, ad351.off + 4, none⟩ = some (.int .u8 (rd l0 4)) ∧ w'.cell? ⟨ad351.block, ad351.off + 5, none⟩ = some (.int .u8 (rd l0 5))) (ds := []) #[false, false, false, false, false, false, false, false, false, false] (by kernel_rfl) rfl rfl ⟨((HB.out.cell (World.block_lt_of_cell? w _ hw351_0)).trans hw351_0), ((HB.out.cell (World.block_lt_of_cell? w _ hw352_0)).trans hw352_0)⟩ (fun hHeld => ?_); refine with_tabW impl_ImageRead.tab3 impl_ImageRead.bits3 (fun HT_ HW_ => ?_)
            generalize wc.drew = w26 at BK349 HB hx351_0 hx352_0 hHeld ⊢
            refine pure_ (i := 0) (N := some 20) (v := ?_) (a' := ?_) #[true, false, false, false, false, false, false, false, false, false] rfl rfl (any_of HT_.out (by kernel_rfl)) (fun _ _ _ h => h) (Or.inl ⟨by rfl, ?_⟩) ?_ ?_
            rotate_left
            ·intro w'
             go_simp
             with_reducible rfl
            rotate_left
            ·simp only [Act.put, List.setIfInBounds_toArray, List.set_cons_zero, List.set_cons_succ, i64_w, i32_w]
             rfl
            refine pure_ (i := 1) (N := some 21) (v := ?_) (a' := ?_) #[true, true, false, false, false, false, false, false, false, false] rfl rfl (any_of HT_.out (by kernel_rfl)) (fun _ _ _ h => h) (Or.inl ⟨by rfl, ?_⟩) ?_ ?_
            rotate_left
            ·intro w'
             go_simp
             with_reducible rfl
            rotate_left
            ·simp only [Act.put, List.setIfInBounds_toArray, List.set_cons_zero, List.set_cons_succ, i64_w, i32_w]
             rfl
            refine pure_ (i := 4) (N := some 24) (v := ?_) (a' := ?_) #[true, true, false, false, true, false, false, false, false, false] rfl rfl (any_of HT_.out (by kernel_rfl)) (fun _ _ _ h => h) (Or.inl ⟨by rfl, ?_⟩) ?_ ?_
            rotate_left
            ·intro w'
             go_simp
             with_reducible rfl
            rotate_left
            ·simp only [Act.put, List.setIfInBounds_toArray, List.set_cons_zero, List.set_cons_succ, i64_w, i32_w]
             rfl
            refine pure_ (i := 5) (N := some 25) (v := ?_) (a' := ?_) #[true, true, false, false, true, true, false, false, false, false] rfl rfl (any_of HT_.out (by kernel_rfl)) (fun _ _ _ h => h) (Or.inl ⟨by rfl, ?_⟩) ?_ ?_
            rotate_left
            ·intro w'
             go_simp
             with_reducible rfl
            rotate_left
            ·simp only [Act.put, List.setIfInBounds_toArray, List.set_cons_zero, List.set_cons_succ, i64_w, i32_w]
             rfl
            refine take_ (i := 2) (N := some 22) (v := ?_) (a' := ?_) #[true, true, true, false, true, true, false, false, false, false] rfl rfl (take_ofW HT_.out HW_.out (by kernel_rfl)) (fun _ _ _ h => h) (Or.inl ⟨by rfl, ?_⟩) hHeld ?_ ?_
            rotate_left
            ·rintro w' ⟨s0, s1⟩
             go_simp
             with_reducible rfl
            rotate_left
            ·simp only [Act.put, List.setIfInBounds_toArray, List.set_cons_zero, List.set_cons_succ, i64_w, i32_w]
             rfl
            refine pure_ (i := 3) (N := some 23) (v := ?_) (a' := ?_) #[true, true, true, true, true, true, false, false, false, false] rfl rfl (any_of HT_.out (by kernel_rfl)) (fun _ _ _ h => h) (Or.inl ⟨by rfl, ?_⟩) ?_ ?_
            rotate_left
            ·intro w'
             go_simp
             with_reducible rfl
            rotate_left
            ·simp only [Act.put, List.setIfInBounds_toArray, List.set_cons_zero, List.set_cons_succ, i64_w, i32_w]
             rfl
            refine pure_ (i := 8) (N := some 4) (v := ?_) (a' := ?_) #[true, true, true, true, true, true, false, false, true, false] rfl rfl (any_of HT_.out (by kernel_rfl)) (fun _ _ _ h => h) (Or.inl ⟨by rfl, ?_⟩) ?_ ?_
            rotate_left
            ·intro w'
             go_simp
             with_reducible rfl
            rotate_left
            ·simp only [Act.put, List.setIfInBounds_toArray, List.set_cons_zero, List.set_cons_succ, i64_w, i32_w]
             rfl
            refine take_ (i := 6) (N := some 26) (v := ?_) (a' := ?_) #[true, true, true, true, true, true, true, false, true, false] rfl rfl (take_ofW HT_.out HW_.out (by kernel_rfl)) (fun _ _ _ h => h) (Or.inl ⟨by rfl, ?_⟩) hHeld ?_ ?_
            rotate_left
            ·rintro w' ⟨s0, s1⟩
             go_simp
             with_reducible rfl
            rotate_left
            ·simp only [Act.put, List.setIfInBounds_toArray, List.set_cons_zero, List.set_cons_succ, i64_w, i32_w]
             rfl
            refine pure_ (i := 7) (N := some 27) (v := ?_) (a' := ?_) #[true, true, true, true, true, true, true, true, true, false] rfl rfl (any_of HT_.out (by kernel_rfl)) (fun _ _ _ h => h) (Or.inl ⟨by rfl, ?_⟩) ?_ ?_
            rotate_left
            ·intro w'
             go_simp
             with_reducible rfl
            rotate_left
            ·simp only [Act.put, List.setIfInBounds_toArray, List.set_cons_zero, List.set_cons_succ, i64_w, i32_w]
             rfl
            refine pure_ (i := 9) (N := some 5) (v := ?_) (a' := ?_) #[true, true, true, true, true, true, true, true, true, true] rfl rfl (any_of HT_.out (by kernel_rfl)) (fun _ _ _ h => h) (Or.inl ⟨by rfl, ?_⟩) ?_ ?_
            rotate_left
            ·intro w'
             go_simp
             with_reducible rfl
            rotate_left
            ·simp only [Act.put, List.setIfInBounds_toArray, List.set_cons_zero, List.set_cons_succ, i64_w, i32_w]
             rfl
            refine done_ (done_of HT_.out (by kernel_rfl)) ?_
            obtain ⟨i027, hi027, _, hsz27, _⟩ := info_parts info5
            obtain ⟨A27, hcut27, hA27, hC27⟩ := print_drop_of (P := Try.prog) (Value.int .u8) 0 22 5 .i64 Try.underlying22 hi027 hsz27 (some ad351) c0 l0 6 (by omega) dt HC0.out
            have HR353 := Aside0.mk (Kd.C_of_reads (h1 := fun _ => rfl) (hA27 _ (Kd.reads_of_C HR0.out)))
            have HC353 := Aside0.mk hC27
            clear hA27 hC27 hi027 hsz27
            try go_wp2_with (first | ((with_reducible refine gate_callee (f := 67) rfl ?_); refine goesL_ (some 32) rfl rfl Try.func67 (by kernel_rfl) rfl #[.int .i64 ji23, .int .i64 1, .int .i64 8] rfl (by (try simp only [List.map_toArray, List.map_cons, List.map_nil]); first | done | (simp only [hji23]; rfl) | rfl | (simp only [List.length_drop, List.length_take]; rfl)) ?_; (with_reducible refine (impl_within.calls ji23 1 8 true _ A13.out).mono ?_); rintro e w' ⟨rfl, ⟨nd, rfl⟩⟩; refine ⟨_, rfl, ?_⟩; (try (rw [drewN_self w26]; generalize hq_ : World.drewN w26 _ = w26; have n0_ : Aside0 (w26.heap[gb349]? = some (.cells #[.slice none 0 0] 29 (0, 0))) := ⟨by rw [← hq_]; exact (kb BK349.out)⟩; have n1_ : Aside0 (Below w.heap.size w w26) := ⟨by rw [← hq_]; exact (bw HB.out)⟩; clear BK349 HB hq_; have BK349 := n0_; have HB := n1_; clear n0_ n1_; (try (have hfz33_0 := blk_frozen BK358.out 0))))) | ((with_reducible refine gate_dst (N := 50) rfl ?_); refine Kd.S_make (Kd.slice 3 (Kd.int .i64)) _ 30 rfl (N := 50) rfl 27 _ _ rfl ji23 rfl rfl Try.underlying27 (.slice none 0 0) 24 info30 rfl (by decide) (by omega) [] (ok := fun _ => True) (okp := fun _ => True) ⟨_, rfl, Kd.R_nil _ _ _ _ _⟩ (fun _ hk => hk) trivial dt (Nat.le_trans (Nat.mul_le_mul_right _ (dt : ji23.toNat ≤ 11728124029610)) (by omega)) (Below.refl _ _) (Nat.le_refl _) ?_; intro v356 w28 ho29 hb hg_ hnew_; clear hg_ hnew_; (first | rw [← Ny355.out] at ho29 | (simp only [Int.reduceToNat] at ho29; rw [← Ny355.out] at ho29)); have n0_ := Aside0.mk (Kd.S_lower ho29 (below_size (bw HB.out))); have n1_ := Aside0.mk (blk_below (g := gb349) (o := .cells #[.slice none 0 0] 29 (0, 0)) (kb BK349.out) hb); have n2_ := Aside0.mk (below_step (bw HB.out) hb); clear BK349; clear HB; have HO357 := n0_; have BK349 := n1_; have HB := n2_; clear n0_ n1_ n2_; clear hb ho29; obtain ⟨Ao30, co30, eo30⟩ := Kd.S_slice HO357.out; subst eo30) | ((with_reducible refine gate_dst (N := 7) rfl ?_); refine bx (N := 7) (cs := #[.slice none 0 0]) (t := 29) ?_; intro gb358 hg w31 hbox hb; have n0_ := Aside0.mk (Kd.S_below (ks HO357.out) hb); have n1_ := Aside0.mk (blk_below (g := gb349) (o := .cells #[.slice none 0 0] 29 (0, 0)) (kb BK349.out) hb); have n2_ := Aside0.mk (below_step (bw HB.out) hb); have n3_ := Aside0.mk (hbox); have n4_ := Aside0.mk ((gs hg (bw HB.out))); have n5_ := Aside0.mk ((gs hg (bw HB.out))); have n6_ := Aside0.mk ((ga hg BK349.out)); have n7_ := Aside0.mk ((gc hg BK349.out)); clear HO357; clear BK349; clear HB; have HO357 := n0_; have BK349 := n1_; have HB := n2_; have BK358 := n3_; have GW358 := n4_; have GE358 := n5_; have NB349_358 := n6_; have NB358_349 := n7_; clear n0_ n1_ n2_ n3_ n4_ n5_ n6_ n7_; clear hb hbox hg; have hnb32 := NB358_349.out; have hnc32 := NB349_358.out; have hcz33_0 : w31.cell? ⟨gb358, 0, none⟩ = some (.slice none 0 0) := (blk_cell BK358.out 0).trans rfl; have hfz33_0 := blk_frozen BK358.out 0))
            go_loopg [5, 54] kj1 (fun kq v5 v54 w' => ∃ (x5_2 : Int) (x54_2 : Int) (x359000_2 : List (List Int)) (u359000 : Value), v5 = .int .i64 x5_2 ∧ v54 = .int .i64 x54_2 ∧ Aside0 (impl_ImageRead.l0 kq x5_2 (l0.drop 6) ((l0.drop 6).length : Int) x54_2 x359000_2 = some (r1, r2)) ∧ Aside0 (kq ≤ kj1) ∧ Aside0 (Kd.S (Kd.slice 3 (Kd.int .i64)) 30 w' w.heap.size (fun _ => True) u359000 x359000_2) ∧ Aside0 (w'.heap[gb349]? = some (.cells #[(.slice none 0 0)] 29 (0, 0))) ∧ Aside0 (w'.heap[gb358]? = some (.cells #[u359000] 29 (0, 0))) ∧ Aside0 (Below w.heap.size w w'))
            case atStart => exact ⟨(wrap64 (rd l0 5)), (0), (y355), (.slice Ao30 y355.length co30), (by first | rfl | (simp; done) | (simp [*]; done)), (by first | rfl | (simp; done) | (simp [*]; done)), H', ⟨Nat.le_refl _⟩, ⟨ks (Kd.S_mono (Kd.S_far (p := ⟨gb358, 0, none⟩) (Kd.S_types HO357.out BK358.out (by decide)) (fun _ hk => hk.2) (.slice Ao30 y355.length co30)) (fun _ hk => trivial))⟩, ⟨kf BK349.out⟩, ⟨kt BK358.out⟩, ⟨bw HB.out⟩⟩
            case round =>
             clear H'
             (try clear c1); (try clear c2); (try clear p2); (try clear c3); (try clear p3); (try clear q3); (try clear hx3); (try clear qi3); (try clear c4); (try clear c4b0); (try clear c4b1); (try clear c5); (try clear c5b0); (try clear c5b1); (try clear c6); (try clear p6); (try clear hcv7); (try clear c8); (try clear c10); (try clear c10b0); (try clear c10b1); (try clear c11); (try clear c11b0); (try clear c11b1); (try clear c12); (try clear c12b0); (try clear c12b1); (try clear c14); (try clear c15); (try clear c15b0); (try clear c19); (try clear c19b0); (try clear c21); (try clear c24); (try clear c24b0); (try clear c24b1); (try clear c25); (try clear c25b0); (try clear c25b1); (try clear c32); (try clear hcz18_0); (try clear hcz22_0); (try clear hcz33_0); (try clear hcz9_0); (try clear hfz18_0); (try clear hfz22_0); (try clear hfz33_0); (try clear hfz9_0); (try clear hx351_0); (try clear hx352_0); (try clear p2); (try clear p351); (try clear p352); (try clear q351); (try clear q352)
             obtain ⟨x5_2, x54_2, x359000_2, u359000, rfl, rfl, HA, HK2, HO_359000, BK349, BK358, HB⟩ := hrel
             cases gk with
             | zero => exact absurd HA.out (by simp [impl_ImageRead.l0])
             | succ k2 =>
              have H := HA.out
              clear HA
              simp only [impl_ImageRead.l0] at H
              by_cases c34 : x54_2 < ((l0.drop 6).length : Int)
              ·rw [if_pos c34] at H
               have c34b0 : decide (x54_2 < ((l0.drop 6).length : Int)) = true := decide_eq_true c34
               (try (have c34b0d := c34b0; simp only [List.length_drop, gt_iff_lt] at c34b0d))
               clear c34
               by_cases c35 : 0 ≤ x54_2
               ·rw [if_pos c35] at H
                have c35b0 : decide (0 ≤ x54_2) = true := decide_eq_true c35
                clear c35
                by_cases c36 : x54_2 < ((l0.drop 6).length : Int)
                ·rw [if_pos c36] at H
                 have c36b0 : decide (x54_2 < ((l0.drop 6).length : Int)) = true := decide_eq_true c36
                 (try (have c36b0d := c36b0; simp only [List.length_drop, gt_iff_lt] at c36b0d))
                 clear c36
                 obtain ⟨ji37, hji37⟩ : ∃ j_ : Int, (wrap64 (Int.tdiv x54_2 256)) = j_ := ⟨_, rfl⟩
                 replace H : (if 0 ≤ (ji37) then (if (ji37) < (x359000_2.length : Int) then (if (rd_L3 x359000_2 (ji37)).length < 17592186044416 then (impl_ImageRead.l0 k2 (wrap64 (x5_2 - (wrap64 (rd (l0.drop 6) x54_2)))) (l0.drop 6) ((l0.drop 6).length : Int) (wrap64 (x54_2 + 1)) (x359000_2.set ((ji37) : Int).toNat ((rd_L3 x359000_2 (ji37)) ++ [wrap64 (rd (l0.drop 6) x54_2)]))) else (none)) else (none)) else (none)) = some (r1, r2) := by first | (rw [hji37] at H; exact H) | (simp only [hji37] at H ⊢; exact H)
                 have hji37w : (IntKind.i64.wrap (Int.tdiv x54_2 256)) = ji37 := (i64_w _).trans hji37
                 (try (have c15b0d := c15b0; simp only [List.length_drop, gt_iff_lt] at c15b0d))
                 (try (have c15b0d := c15b0; simp only [List.length_drop, gt_iff_lt] at c15b0d))
                 (try (have c19b0d := c19b0; simp only [List.length_drop, gt_iff_lt] at c19b0d))
                 (try (have c19b0d := c19b0; simp only [List.length_drop, gt_iff_lt] at c19b0d))
                 (try (have c34b0d := c34b0; simp only [List.length_drop, gt_iff_lt] at c34b0d))
                 (try (have c36b0d := c36b0; simp only [List.length_drop, gt_iff_lt] at c36b0d))
                 by_cases c38 : 0 ≤ (ji37)
                 ·rw [if_pos c38] at H
                  have c38b0 : decide (0 ≤ (ji37)) = true := decide_eq_true c38
                  clear c38
                  by_cases c39 : (ji37) < (x359000_2.length : Int)
                  ·rw [if_pos c39] at H
                   have c39b0 : decide ((ji37) < (x359000_2.length : Int)) = true := decide_eq_true c39
                   clear c39
                   by_cases c40 : (rd_L3 x359000_2 (ji37)).length < 17592186044416
                   ·rw [if_pos c40] at H
                    have LMc40 := Aside0.mk c40
                    clear c40
                    obtain ⟨y361, hy361⟩ : ∃ y_ : List Int, y_ = ((rd_L3 x359000_2 (ji37)) ++ [wrap64 (rd (l0.drop 6) x54_2)]) := ⟨_, rfl⟩
                    replace H : (impl_ImageRead.l0 k2 (wrap64 (x5_2 - (wrap64 (rd (l0.drop 6) x54_2)))) (l0.drop 6) ((l0.drop 6).length : Int) (wrap64 (x54_2 + 1)) (x359000_2.set ((ji37) : Int).toNat y361)) = some (r1, r2) := by first | (rw [hy361]; with_reducible exact H) | (have H2_ := (Option.bind_some _ _).symm.trans H; rw [hy361]; with_reducible exact H2_) | (have H2_ := (Option.bind_some _ _).symm.trans H; with_reducible exact H2_) | with_reducible exact H | (rw [hy361]; exact H) | exact H
                    have Ny361 := Aside0.mk hy361
                    clear hy361
                    obtain ⟨y364, hy364⟩ : ∃ y_ : List (List Int), y_ = (x359000_2.set ((ji37) : Int).toNat y361) := ⟨_, rfl⟩
                    replace H : (impl_ImageRead.l0 k2 (wrap64 (x5_2 - (wrap64 (rd (l0.drop 6) x54_2)))) (l0.drop 6) ((l0.drop 6).length : Int) (wrap64 (x54_2 + 1)) y364) = some (r1, r2) := by first | (rw [hy364]; with_reducible exact H) | (have H2_ := (Option.bind_some _ _).symm.trans H; rw [hy364]; with_reducible exact H2_) | (have H2_ := (Option.bind_some _ _).symm.trans H; with_reducible exact H2_) | with_reducible exact H | (rw [hy364]; exact H) | exact H
                    have Ny364 := Aside0.mk hy364
                    clear hy364
                    have H' := Aside0.mk H
                    clear H
                    have p359 : 0 ≤ (x54_2 : Int) := dt
                    have q359 : x54_2 < ((l0.drop 6).length : Int) := dt
                    obtain ⟨ad359, e359, hx359_0⟩ := Kd.at_int HR353.out x54_2 p359 q359
                    cases e359
                    replace hx359_0 := (HB.out.cell (World.block_lt_of_cell? w _ hx359_0)).trans hx359_0
                    replace p359 := eq_true p359
                    replace q359 := eq_true q359
                    (try (have q359d := q359; rw [List.length_drop] at q359d))
                    try go_wp2
                    have n0_ := Aside0.mk (Kd.S_drew HO_359000.out)
                    have n1_ := Aside0.mk (blk_drew BK349.out)
                    have n2_ := Aside0.mk (blk_drew BK358.out)
                    have n3_ := Aside0.mk (below_drew1 HB.out)
                    clear HO_359000; clear BK349; clear BK358; clear HB; have HO_359000 := n0_; have BK349 := n1_; have BK358 := n2_; have HB := n3_; clear n0_ n1_ n2_ n3_
                    obtain ⟨Ao43, co43, eo43⟩ := Kd.S_slice HO_359000.out
                    (first | subst eo43 | (injection eo43 with f1_ f2_ f3_; have f4_ := f1_.symm; have f5_ := f3_.symm; clear f1_ f2_ f3_; subst f4_; subst f5_))
                    have p360 : 0 ≤ ((ji37) : Int) := dt
                    have q360 : (ji37) < (x359000_2.length : Int) := dt
                    obtain ⟨ad360, A360_0, c360_0, e360, hx360_0, hl360_0, hi360_0⟩ := at_L3 (Kd.S_reads' HO_359000.out).2.2 (ji37) p360 q360
                    cases e360
                    obtain ⟨ce360, hce360, hMe360, hcc360⟩ := Kd.S_get HO_359000.out [] (ji37) p360 (by first | exact q360 | exact dt | (have e_ := (Kd.S_reads' HO_359000.out).1; omega))
                    obtain ⟨ve360_0, rfl, ge360_0⟩ := hMe360
                    have hv360_0 := hcc360 0 _ rfl
                    rw [Nat.add_zero, show ((Kd.slice 3 (Kd.int .i64))).sz = 1 from rfl, Nat.mul_one] at hv360_0
                    replace hv360_0 := Option.some.inj (hv360_0.symm.trans hx360_0)
                    rw [hv360_0] at ge360_0
                    have HL360_0 := Aside0.mk (show Kd.R (Kd.int .i64) 3 _ _ _ _ (rd_L3 x359000_2 (ji37)) from ge360_0)
                    clear hv360_0 ge360_0
                    have HX360_0 := Aside0.mk hx360_0
                    clear hcc360 hce360
                    have HR360_0 := Aside0.mk hi360_0
                    have HC360_0 := Aside0.mk hl360_0
                    clear hi360_0 hl360_0
                    replace p360 := eq_true p360
                    replace q360 := eq_true q360
                    (try (have q360d := q360; rw [List.length_drop] at q360d))
                    obtain ⟨go44, co44, eo44, gb44, gl44, cl44, HG44⟩ := Kd.S_form HO_359000.out (by have h_ : ((ji37) : Int) < ((x359000_2.length : Int) : Int) := dt; have h2_ : 0 ≤ ((ji37) : Int) := dt; omega)
                    (first | cases eo44 | (injection eo44 with ea_ en_ ec_; (first | subst ea_ | (injection ea_ with ea_; subst ea_)); subst ec_; clear en_))
                    have GB44 := Aside0.mk gb44
                    have GG44 := Aside0.mk HG44
                    clear gb44 gl44 HG44
                    (first | simp only [add_plain] at hx360_0 | skip)
                    obtain ⟨oki44, ce44, hcl44, hM44, hcc44, _, _, hH44⟩ := Kd.S_elem HO_359000.out [] ((ji37) : Int) dt (by have h_ : ((ji37) : Int) < ((x359000_2.length : Int) : Int) := dt; first | exact h_ | (have e_ := (Kd.S_reads' HO_359000.out).1; omega) | simpa using h_)
                    obtain ⟨ve44_0, rfl, ge44_0⟩ := hM44
                    have hv44 := hcc44 0 _ rfl
                    have hX44 := HX360_0.out
                    (try simp only [add_plain] at hX44)
                    (try simp only [Nat.add_zero] at hv44)
                    (try rw [show ((Kd.slice 3 (Kd.int .i64))).sz = 1 from rfl, Nat.mul_one] at hv44)
                    replace hv44 := Option.some.inj (hv44.symm.trans hX44)
                    subst hv44; clear hX44 hcc44 hcl44
                    have UU44 := Aside0.mk (show Kd.R (Kd.int .i64) 3 _ w.heap.size oki44 (.slice A360_0 (rd_L3 x359000_2 (ji37)).length c360_0) (rd_L3 x359000_2 (ji37)) from ge44_0)
                    have HH44 := Aside0.mk hH44
                    have HN44 := Aside0.mk (Kd.S_reads' HO_359000.out).1
                    clear hH44 ge44_0
                    refine start_ (n := 16) (S := fun w' => w'.cell? ⟨gb358, 0, none⟩ = some (.slice (some ⟨go44, 0, none⟩) x359000_2.length co43) ∧ w'.cell? ⟨go44, ((ji37)).toNat, none⟩ = some (.slice A360_0 (rd_L3 x359000_2 (ji37)).length c360_0)) (ds := [15]) #[false, false, false, false, false, false, false, false, false, false, false, false, false, false, false, false] (by kernel_rfl) rfl rfl ⟨(blk_cell BK358.out 0).trans rfl, hx360_0⟩ (fun hHeld => ?_); refine with_tabW impl_ImageRead.tab15 impl_ImageRead.bits15 (fun HT_ HW_ => ?_)
                    generalize wr.drew = w42 at HO_359000 BK349 BK358 HB GG44 HH44 HL360_0 HR360_0 HX360_0 UU44 hx360_0 hHeld ⊢
                    refine pure_ (i := 0) (N := some 59) (v := ?_) (a' := ?_) #[true, false, false, false, false, false, false, false, false, false, false, false, false, false, false, false] rfl rfl (any_of HT_.out (by kernel_rfl)) (fun _ _ _ h => h) (Or.inl ⟨by rfl, ?_⟩) ?_ ?_
                    rotate_left
                    ·intro w'
                     go_simp
                     with_reducible rfl
                    rotate_left
                    ·simp only [Act.put, List.setIfInBounds_toArray, List.set_cons_zero, List.set_cons_succ, i64_w, i32_w]
                     rfl
                    refine pure_ (i := 2) (N := some 61) (v := ?_) (a' := ?_) #[true, false, true, false, false, false, false, false, false, false, false, false, false, false, false, false] rfl rfl (any_of HT_.out (by kernel_rfl)) (fun _ _ _ h => h) (Or.inl ⟨by rfl, ?_⟩) ?_ ?_
                    rotate_left
                    ·intro w'
                     go_simp
                     with_reducible rfl
                    rotate_left
                    ·simp only [Act.put, List.setIfInBounds_toArray, List.set_cons_zero, List.set_cons_succ, i64_w, i32_w]
                     rfl
                    refine pure_ (i := 3) (N := some 62) (v := ?_) (a' := ?_) #[true, false, true, true, false, false, false, false, false, false, false, false, false, false, false, false] rfl rfl (any_of HT_.out (by kernel_rfl)) (fun _ _ _ h => h) (Or.inl ⟨by rfl, ?_⟩) ?_ ?_
                    rotate_left
                    ·intro w'
                     go_simp
                     with_reducible rfl
                    rotate_left
                    ·simp only [Act.put, List.setIfInBounds_toArray, List.set_cons_zero, List.set_cons_succ, i64_w, i32_w]
                     rfl
                    refine pure_ (i := 4) (N := some 63) (v := ?_) (a' := ?_) #[true, false, true, true, true, false, false, false, false, false, false, false, false, false, false, false] rfl rfl (any_of HT_.out (by kernel_rfl)) (fun _ _ _ h => h) (Or.inl ⟨by rfl, ?_⟩) ?_ ?_
                    rotate_left
                    ·intro w'
                     go_simp
                     with_reducible rfl
                    rotate_left
                    ·simp only [Act.put, List.setIfInBounds_toArray, List.set_cons_zero, List.set_cons_succ, i64_w, i32_w]
                     rfl
                    refine pure_ (i := 6) (N := some 65) (v := ?_) (a' := ?_) #[true, false, true, true, true, false, true, false, false, false, false, false, false, false, false, false] rfl rfl (any_of HT_.out (by kernel_rfl)) (fun _ _ _ h => h) (Or.inl ⟨by rfl, ?_⟩) ?_ ?_
                    rotate_left
                    ·intro w'
                     go_simp
                     with_reducible rfl
                    rotate_left
                    ·simp only [Act.put, List.setIfInBounds_toArray, List.set_cons_zero, List.set_cons_succ, i64_w, i32_w]
                     rfl
                    refine pure_ (i := 7) (N := some 66) (v := ?_) (a' := ?_) #[true, false, true, true, true, false, true, true, false, false, false, false, false, false, false, false] rfl rfl (any_of HT_.out (by kernel_rfl)) (fun _ _ _ h => h) (Or.inl ⟨by rfl, ?_⟩) ?_ ?_
                    rotate_left
                    ·intro w'
                     go_simp
                     with_reducible rfl
                    rotate_left
                    ·simp only [Act.put, List.setIfInBounds_toArray, List.set_cons_zero, List.set_cons_succ, i64_w, i32_w]
                     rfl
                    refine pure_ (i := 10) (N := some 69) (v := ?_) (a' := ?_) #[true, false, true, true, true, false, true, true, false, false, true, false, false, false, false, false] rfl rfl (any_of HT_.out (by kernel_rfl)) (fun _ _ _ h => h) (Or.inl ⟨by rfl, ?_⟩) ?_ ?_
                    rotate_left
                    ·intro w'
                     go_simp
                     with_reducible rfl
                    rotate_left
                    ·simp only [Act.put, List.setIfInBounds_toArray, List.set_cons_zero, List.set_cons_succ, i64_w, i32_w]
                     rfl
                    refine pure_ (i := 11) (N := some 70) (v := ?_) (a' := ?_) #[true, false, true, true, true, false, true, true, false, false, true, true, false, false, false, false] rfl rfl (any_of HT_.out (by kernel_rfl)) (fun _ _ _ h => h) (Or.inl ⟨by rfl, ?_⟩) ?_ ?_
                    rotate_left
                    ·intro w'
                     go_simp
                     with_reducible rfl
                    rotate_left
                    ·simp only [Act.put, List.setIfInBounds_toArray, List.set_cons_zero, List.set_cons_succ, i64_w, i32_w]
                     rfl
                    refine take_ (i := 1) (N := some 60) (v := ?_) (a' := ?_) #[true, true, true, true, true, false, true, true, false, false, true, true, false, false, false, false] rfl rfl (take_ofW HT_.out HW_.out (by kernel_rfl)) (fun _ _ _ h => h) (Or.inl ⟨by rfl, ?_⟩) hHeld ?_ ?_
                    rotate_left
                    ·rintro w' ⟨s0, s1⟩
                     go_simp
                     with_reducible rfl
                    rotate_left
                    ·simp only [Act.put, List.setIfInBounds_toArray, List.set_cons_zero, List.set_cons_succ, i64_w, i32_w]
                     rfl
                    refine take_ (i := 5) (N := some 64) (v := ?_) (a' := ?_) #[true, true, true, true, true, true, true, true, false, false, true, true, false, false, false, false] rfl rfl (take_ofW HT_.out HW_.out (by kernel_rfl)) (fun _ _ _ h => h) (Or.inl ⟨by rfl, ?_⟩) hHeld ?_ ?_
                    rotate_left
                    ·rintro w' ⟨s0, s1⟩
                     go_simp
                     with_reducible rfl
                    rotate_left
                    ·simp only [Act.put, List.setIfInBounds_toArray, List.set_cons_zero, List.set_cons_succ, i64_w, i32_w]
                     rfl
                    refine pure_ (i := 8) (N := some 67) (v := ?_) (a' := ?_) #[true, true, true, true, true, true, true, true, true, false, true, true, false, false, false, false] rfl rfl (any_of HT_.out (by kernel_rfl)) (fun _ _ _ h => h) (Or.inl ⟨by rfl, ?_⟩) ?_ ?_
                    rotate_left
                    ·intro w'
                     go_simp
                     with_reducible rfl
                    rotate_left
                    ·simp only [Act.put, List.setIfInBounds_toArray, List.set_cons_zero, List.set_cons_succ, i64_w, i32_w]
                     rfl
                    refine take_ (i := 9) (N := some 68) (v := ?_) (a' := ?_) #[true, true, true, true, true, true, true, true, true, true, true, true, false, false, false, false] rfl rfl (take_ofW HT_.out HW_.out (by kernel_rfl)) (fun _ _ _ h => h) (Or.inl ⟨by rfl, ?_⟩) hHeld ?_ ?_
                    rotate_left
                    ·rintro w' ⟨s0, s1⟩
                     go_simp
                     with_reducible rfl
                    rotate_left
                    ·simp only [Act.put, List.setIfInBounds_toArray, List.set_cons_zero, List.set_cons_succ, i64_w, i32_w]
                     rfl
                    refine one_ (i := 12) (N := some 71) #[true, true, true, true, true, true, true, true, true, true, true, true, true, false, false, false] rfl rfl (one_of HT_.out (by kernel_rfl)) (by decide) (fun K hK => ?_)
                    refine value_ (w1 := ?_) (v := ?_) (by rfl) rfl ?_ ?_
                    rotate_left 2
                    ·go_simp
                     constructor
                     ·rfl
                     ·rfl
                    refine hK.out _ _ ⟨(blk_cell (blk_alloc BK358.out _) 0).trans rfl, (World.cell?_alloc_lt _ _ _ (World.block_lt_of_cell? _ _ (hHeld.2))).trans (hHeld.2)⟩ (fun hHeld => ?_)
                    clear hK K
                    refine norm_ (a' := ?_) ?_ ?_
                    rotate_left
                    ·show Act.put _ (some 71) _ = _
                     simp only [Act.put, List.setIfInBounds_toArray, List.set_cons_zero, List.set_cons_succ, i64_w, i32_w]
                     rfl
                    refine one_ (i := 13) (N := some 72) #[true, true, true, true, true, true, true, true, true, true, true, true, true, true, false, false] rfl rfl (one_of HT_.out (by kernel_rfl)) (by decide) (fun K hK => ?_)
                    refine Kd.R_append_step (Kd.int .i64) (w0 := w) w.heap.size (by rfl) (.tmp 68) (.tmp 71) 30 3 (.int .i64 0) 8 rfl Try.underlying30 info3 rfl (by decide) (by omega) (.slice A360_0 (rd_L3 x359000_2 (ji37)).length c360_0) (rd_L3 x359000_2 (ji37)) (wrap64 (rd (l0.drop 6) x54_2)) [.int .i64 (wrap64 (rd (l0.drop 6) x54_2))] (fun k_ => oki44 k_ ∨ ((fun _ => True)) k_ ∧ w42.heap.size ≤ k_) (fun _ => False) rfl rfl ?aP (fun _ hk => hk.elim) ?aF ?aO ?aB ?aS ?aL ?_
                    (case aP => exact rfl)
                    (case aB => exact (bw HB.out))
                    (case aF => exact (fun k_ hk => .inr ⟨trivial, hk⟩))
                    (case aO => exact (kr (Kd.R_mono UU44.out (fun _ hk => .inl hk))))
                    (case aS => exact (below_size (bw HB.out)))
                    (case aL => have := LMc40.out; omega)
                    intro v362 w45 ho hb hg hat
                    (first | have HS1_ := cell_grown hg (hHeld.2) (by first | (rw [add_block]; exact (fun e_ => ((HL360_0.out.1 _ e_.symm).2) rfl)) | (show some (Addr.add _ _).block ≠ _; rw [add_block]; exact (fun e_ => ((HL360_0.out.1 _ e_.symm).2) rfl)) | exact (fun e_ => ((HL360_0.out.1 _ e_.symm).2) rfl)) | have HS1_ := cell_grown hg (cell_unalloc (hHeld.2) (by first | (rw [add_block]; exact Kd.S_lt HO_359000.out _ rfl) | (show (Addr.add _ _).block < _; rw [add_block]; exact Kd.S_lt HO_359000.out _ rfl) | exact Kd.S_lt HO_359000.out _ rfl)) (by first | (rw [add_block]; exact (fun e_ => ((HL360_0.out.1 _ e_.symm).2) rfl)) | (show some (Addr.add _ _).block ≠ _; rw [add_block]; exact (fun e_ => ((HL360_0.out.1 _ e_.symm).2) rfl)) | exact (fun e_ => ((HL360_0.out.1 _ e_.symm).2) rfl)))
                    rw [← Ny361.out] at ho
                    have n0_ := Aside0.mk (blk_grown (g := gb349) (o := .cells #[.slice none 0 0] 29 (0, 0)) (kb BK349.out) hg (Kd.R_ne HL360_0.out BK349.out (by decide)))
                    have n1_ := Aside0.mk (blk_grown (g := gb358) (o := .cells #[.slice (some ⟨go44, 0, none⟩) x359000_2.length co43] 29 (0, 0)) (kb BK358.out) hg (Kd.R_ne HL360_0.out BK358.out (by decide)))
                    have n2_ := Aside0.mk (hb)
                    have n3_ := Aside0.mk (Kd.H_grown (Kd.H_widen (by repeat (first | exact HH44.out | refine Kd.H_alloc ?_ _ | refine Kd.H_drewN ?_ _ | refine Kd.H_drew ?_))) hg (fun k_ e_ => .inl (UU44.out.1 k_ e_)))
                    have n4_ := Aside0.mk (ho)
                    clear BK349; clear BK358; clear HB; clear HH44; clear HO_359000; clear UU44; clear HL360_0; have BK349 := n0_; have BK358 := n1_; have HB := n2_; have HH44 := n3_; have HO363 := n4_; clear n0_ n1_ n2_ n3_ n4_; clear ho hb hg hat
                    have p41 : 0 ≤ ((ji37) : Int) := dt
                    have q41 : ((ji37) : Int) < ((x359000_2.length : Int) : Int) := dt
                    replace p41 := eq_true p41
                    replace q41 := eq_true q41
                    (try (have q41d := q41; rw [List.length_drop] at q41d))
                    obtain ⟨Ao48, co48, eo48⟩ := Kd.R_slice HO363.out
                    (first | subst eo48 | (injection eo48 with f1_ f2_ f3_; have f4_ := f1_.symm; have f5_ := f3_.symm; clear f1_ f2_ f3_; subst f4_; subst f5_))
                    obtain ⟨_, _, hraw46, _, _, hcc46, _⟩ := Kd.H_raw HH44.out dt (by have h_ : ((ji37) : Int) < ((x359000_2.length : Int) : Int) := dt; first | exact h_ | (have e_ := (HN44.out); omega) | simpa using h_)
                    obtain ⟨_, hfr46⟩ := Kd.H_at HH44.out dt (by have h_ : ((ji37) : Int) < ((x359000_2.length : Int) : Int) := dt; first | exact h_ | (have e_ := (HN44.out); omega) | simpa using h_)
                    have hx46_0 := hcc46 0 _ rfl
                    have hf46_0 := hfr46 0
                    (try simp only [Nat.add_zero] at hx46_0 hf46_0)
                    (try rw [show ((Kd.slice 3 (Kd.int .i64))).sz = 1 from rfl, Nat.mul_one] at hx46_0)
                    (try rw [show ((Kd.slice 3 (Kd.int .i64))).sz = 1 from rfl, Nat.mul_one] at hf46_0)
                    have HP46 := Kd.S_seg0 HH44.out dt (by have h_ : ((ji37) : Int) < ((x359000_2.length : Int) : Int) := dt; first | exact h_ | (have e_ := (HN44.out); omega) | simpa using h_) (seg := [.slice Ao48 y361.length co48]) (j := 0) (show 1 ≤ 1 from by decide) (x' := y361) (Kd.M_row HO363.out) (fun _ hk => hk)
                    (try simp only [show ((Kd.slice 3 (Kd.int .i64))).sz = 1 from rfl, Nat.mul_one, Nat.add_zero] at HP46)
                    clear hcc46 hfr46
                    have HNB349_go44 := Aside0.mk (show gb349 ≠ go44 from by have h_ := Kd.R_ne hraw46 BK349.out (by decide); intro e_; exact h_ (by rw [e_]; rfl))
                    have HNB358_go44 := Aside0.mk (show gb358 ≠ go44 from by have h_ := Kd.R_ne hraw46 BK358.out (by decide); intro e_; exact h_ (by rw [e_]; rfl))
                    have HS46 := HP46.1
                    rw [← Ny364.out] at HS46
                    have HQ46 := Aside0.mk HS46
                    obtain ⟨_, hgg46⟩ := Kd.R_typed hraw46 go44 rfl
                    have GG46_ := Aside0.mk hgg46
                    clear HP46 HS46 hgg46
                    refine hK.out _ _ ⟨(blk_cell BK358.out 0).trans rfl, HS1_⟩ (fun hHeld => ?_)
                    clear hK K
                    refine norm_ (a' := ?_) ?_ ?_
                    rotate_left
                    ·show Act.put _ (some 72) _ = _
                     simp only [Act.put, List.setIfInBounds_toArray, List.set_cons_zero, List.set_cons_succ, i64_w, i32_w]
                     rfl
                    refine pure_ (i := 14) (N := some 73) (v := ?_) (a' := ?_) #[true, true, true, true, true, true, true, true, true, true, true, true, true, true, true, false] rfl rfl (any_of HT_.out (by kernel_rfl)) (fun _ _ _ h => h) (Or.inl ⟨by rfl, ?_⟩) ?_ ?_
                    rotate_left
                    ·intro w'
                     go_simp
                     with_reducible rfl
                    rotate_left
                    ·simp only [Act.put, List.setIfInBounds_toArray, List.set_cons_zero, List.set_cons_succ, i64_w, i32_w]
                     rfl
                    refine last_ (i := 15) (N := none) #[true, true, true, true, true, true, true, true, true, true, true, true, true, true, true, true] rfl rfl (one_of HT_.out (by kernel_rfl)) (by decide) (fun K hK => ?_)
                    refine skip_ (w1 := ?_) (by rfl) rfl ?_ ?_
                    rotate_left
                    ·go_simp
                     rfl
                    refine hK.out _ _ ?_
                    clear hK K
                    refine done_ (done_of HT_.out (by kernel_rfl)) ?_
                    try go_wp2
                    go_roundg k2
                    case measure => have := HJ1.out; have := HK2.out; omega
                    case rel => exact ⟨(wrap64 (x5_2 - (wrap64 (rd (l0.drop 6) x54_2)))), (wrap64 (x54_2 + 1)), (y364), (.slice (some ⟨go44, 0, none⟩) x359000_2.length co43), (by first | rfl | (simp; done) | (simp [*]; done)), (by first | rfl | (simp; done) | (simp [*]; done)), H', ⟨by have := HJ1.out; have := HK2.out; omega⟩, ⟨ks HQ46.out⟩, ⟨by (with_reducible repeat (first | refine blk_drewN ?_ _ | refine blk_drew ?_ | refine blk_alloc ?_ _)); refine blk_far ?_ HNB349_go44.out _; (with_reducible repeat (first | refine blk_drewN ?_ _ | refine blk_drew ?_ | refine blk_alloc ?_ _)); exact BK349.out⟩, ⟨by (with_reducible repeat (first | refine blk_drewN ?_ _ | refine blk_drew ?_ | refine blk_alloc ?_ _)); refine blk_far ?_ HNB358_go44.out _; (with_reducible repeat (first | refine blk_drewN ?_ _ | refine blk_drew ?_ | refine blk_alloc ?_ _)); exact BK358.out⟩, ⟨by repeat (first | (with_reducible first | exact HB.out | apply below_alloc | apply pw_below_drewN | apply below_drew1 | refine below_set ?_ GB44.out | refine below_set ?_ GE349.out | refine below_set ?_ GE358.out) | exact HB.out)⟩⟩
                   ·rw [if_neg c40] at H
                    exact absurd H (by simp)
                  ·rw [if_neg c39] at H
                   exact absurd H (by simp)
                 ·rw [if_neg c38] at H
                  exact absurd H (by simp)
                ·rw [if_neg c36] at H
                 exact absurd H (by simp)
               ·rw [if_neg c35] at H
                exact absurd H (by simp)
              ·rw [if_neg c34] at H
               have c34b0 : decide (x54_2 < ((l0.drop 6).length : Int)) = false := decide_eq_false c34
               (try (have c34b0d := c34b0; simp only [List.length_drop, gt_iff_lt] at c34b0d))
               clear c34
               replace H := Option.bind_eq_some_iff.mp H
               obtain ⟨t365, A490, H⟩ := H
               replace H : (if t365 = 0 then (some (x359000_2, 0)) else (some (([] : List (List Int)), 5))) = some (r1, r2) := H
               have A49 := Aside0.mk A490
               clear A490
               by_cases c50 : t365 = 0
               ·rw [if_pos c50] at H
                have c50b0 : (t365 == 0) = true := beq_iff_eq.mpr c50
                have c50b1 : (t365 != 0) = false := bne_eq_false_iff_eq.mpr c50
                clear c50
                simp only [Option.some.injEq, Prod.mk.injEq] at H
                obtain ⟨rfl, rfl⟩ := H
                go_wp2_with (first | ((with_reducible refine gate_callee (f := 34) rfl ?_); refine goesM_ (some 80) rfl rfl Try.func34 #[.int .i64 x5_2] ?_; (with_reducible refine (impl_Byte.calls x5_2 t365 _ A49.out).mono ?_); rintro e w' ⟨rfl, ⟨nd, rfl⟩⟩; refine ⟨_, rfl, ?_⟩; (try (rw [drewN_self wr]; generalize hq_ : World.drewN wr _ = wr; have n0_ : Aside0 (Kd.S (Kd.slice 3 (Kd.int .i64)) 30 wr w.heap.size (fun _ => True) u359000 x359000_2) := ⟨by rw [← hq_]; exact (ks HO_359000.out)⟩; have n1_ : Aside0 (wr.heap[gb349]? = some (.cells #[.slice none 0 0] 29 (0, 0))) := ⟨by rw [← hq_]; exact (kb BK349.out)⟩; have n2_ : Aside0 (wr.heap[gb358]? = some (.cells #[u359000] 29 (0, 0))) := ⟨by rw [← hq_]; exact (kb BK358.out)⟩; have n3_ : Aside0 (Below w.heap.size w wr) := ⟨by rw [← hq_]; exact (bw HB.out)⟩; clear HO_359000 BK349 BK358 HB hq_; have HO_359000 := n0_; have BK349 := n1_; have BK358 := n2_; have HB := n3_; clear n0_ n1_ n2_ n3_)); have hnb51 := NB358_349.out; have hnc51 := NB349_358.out; have hcz52_0 : wr.cell? ⟨gb358, 0, none⟩ = some (u359000) := (blk_cell BK358.out 0).trans rfl; have hfz52_0 := blk_frozen BK358.out 0; obtain ⟨Ao53, co53, eo53⟩ := Kd.S_slice HO_359000.out; subst eo53; have hcz54_0 : wr.cell? ⟨gb349, 0, none⟩ = some (.slice none 0 0) := (blk_cell BK349.out 0).trans rfl; have hfz54_0 := blk_frozen BK349.out 0))
                refine bodyPost_ret (results_ct rfl _ _ gb349 29 #[.slice Ao53 x359000_2.length co53] (0, 0) _ rfl (kt BK349.out) Try.underlying29 rfl (by kernel_rfl)) rfl ?_
                exact ⟨_, by first | rfl | (simp [errW_none, errW_some] <;> rfl) | (simp only [← hji23]; first | rfl | (simp [errW_none, errW_some] <;> rfl)) | (simp [*, errW_none, errW_some] <;> rfl), ks (Kd.S_mono (Kd.S_far (p := ⟨gb349, 0, none⟩) (Kd.S_types HO_359000.out BK349.out (by decide)) (fun _ hk => hk.2) (.slice Ao53 x359000_2.length co53)) (fun _ hk => trivial)), bw HB.out⟩
               ·rw [if_neg c50] at H
                have c50b0 : (t365 == 0) = false := beq_eq_false_iff_ne.mpr c50
                have c50b1 : (t365 != 0) = true := bne_iff_ne.mpr c50
                simp only [Option.some.injEq, Prod.mk.injEq] at H
                obtain ⟨rfl, rfl⟩ := H
                go_wp2_with (first | ((with_reducible refine gate_callee (f := 34) rfl ?_); refine goesM_ (some 80) rfl rfl Try.func34 #[.int .i64 x5_2] ?_; (with_reducible refine (impl_Byte.calls x5_2 t365 _ A49.out).mono ?_); rintro e w' ⟨rfl, ⟨nd, rfl⟩⟩; refine ⟨_, rfl, ?_⟩; (try (rw [drewN_self wr]; generalize hq_ : World.drewN wr _ = wr; have n0_ : Aside0 (Kd.S (Kd.slice 3 (Kd.int .i64)) 30 wr w.heap.size (fun _ => True) u359000 x359000_2) := ⟨by rw [← hq_]; exact (ks HO_359000.out)⟩; have n1_ : Aside0 (wr.heap[gb349]? = some (.cells #[.slice none 0 0] 29 (0, 0))) := ⟨by rw [← hq_]; exact (kb BK349.out)⟩; have n2_ : Aside0 (wr.heap[gb358]? = some (.cells #[u359000] 29 (0, 0))) := ⟨by rw [← hq_]; exact (kb BK358.out)⟩; have n3_ : Aside0 (Below w.heap.size w wr) := ⟨by rw [← hq_]; exact (bw HB.out)⟩; clear HO_359000 BK349 BK358 HB hq_; have HO_359000 := n0_; have BK349 := n1_; have BK358 := n2_; have HB := n3_; clear n0_ n1_ n2_ n3_)); have hnb55 := NB349_358.out; have hnc55 := NB358_349.out; have hcz56_0 : wr.cell? ⟨gb349, 0, none⟩ = some (.slice none 0 0) := (blk_cell BK349.out 0).trans rfl; have hfz56_0 := blk_frozen BK349.out 0))
                refine bodyPost_ret (results_ct rfl _ _ gb349 29 #[.slice none 0 0] (0, 0) _ rfl (kt BK349.out) Try.underlying29 rfl (by kernel_rfl)) rfl ?_
                exact ⟨_, by first | rfl | (simp [errW_none, errW_some] <;> rfl) | (simp only [← hji23]; first | rfl | (simp [errW_none, errW_some] <;> rfl)) | (simp [*, errW_none, errW_some] <;> rfl), by first | exact Kd.S_nil _ _ _ _ _ | exact Kd.N_nil _ _ _ _ _ | exact Kd.V_nil _ _ _ _ _ | exact Kd.Q_nil _ _ _ _ _ | exact Kd.R_nil _ _ _ _ _, bw HB.out⟩
           ·rw [if_neg c25] at H
            exact absurd H (by simp)
          ·rw [if_neg c24] at H
           exact absurd H (by simp)
       ·replace c14 := Bool.eq_false_iff.mpr c14
        subst c14
        have H1 : (some (([] : List (List Int)), 2)) = some (r1, r2) := by rw [if_neg (show ¬ (false = true) by decide)] at H; exact H
        clear H
        have H := H1
        clear H1
        simp only [Option.some.injEq, Prod.mk.injEq] at H
        obtain ⟨rfl, rfl⟩ := H
        try go_wp2
        have n0_ := Aside0.mk (blk_drew BK349.out)
        have n1_ := Aside0.mk (below_drew1 HB.out)
        clear BK349; clear HB; have BK349 := n0_; have HB := n1_; clear n0_ n1_
        have p351 : 0 ≤ (4 : Int) := (by omega)
        have q351 : 4 < (l0.length : Int) := dt
        obtain ⟨ad351, e351, hx351_0⟩ := Kd.at_int HR0.out 4 p351 q351
        have hw351_0 := hx351_0
        (try rw [show ((4 : Int)).toNat = 4 from rfl] at hw351_0)
        (try rw [show 4 * 1 = 4 from rfl] at hw351_0)
        (try simp only [Nat.reduceMul, Nat.reduceEqDiff, Go.Addr.add, ↓reduceIte] at hw351_0)
        cases e351
        (try simp only [show (4 : Int).toNat = 4 from rfl, Nat.reduceMul, Nat.reduceEqDiff, Go.Addr.add, ↓reduceIte] at hx351_0)
        have qi351 : (4 < l0.length) = True := eq_true (by omega)
        (try rw [show ((4 : Int)).toNat = 4 from rfl] at hx351_0)
        replace hx351_0 := (HB.out.cell (World.block_lt_of_cell? w _ hx351_0)).trans hx351_0
        replace p351 := eq_true p351
        replace q351 := eq_true q351
        (try (have q351d := q351; rw [List.length_drop] at q351d))
        have p352 : 0 ≤ (5 : Int) := (by omega)
        have q352 : 5 < (l0.length : Int) := dt
        obtain ⟨ad352, e352, hx352_0⟩ := Kd.at_int HR0.out 5 p352 q352
        have hw352_0 := hx352_0
        (try rw [show ((5 : Int)).toNat = 5 from rfl] at hw352_0)
        (try rw [show 5 * 1 = 5 from rfl] at hw352_0)
        (try simp only [Nat.reduceMul, Nat.reduceEqDiff, Go.Addr.add, ↓reduceIte] at hw352_0)
        obtain rfl : ad351 = ad352 := (by injection e352)
        (try simp only [show (5 : Int).toNat = 5 from rfl, Nat.reduceMul, Nat.reduceEqDiff, Go.Addr.add, ↓reduceIte] at hx352_0)
        have qi352 : (5 < l0.length) = True := eq_true (by omega)
        (try rw [show ((5 : Int)).toNat = 5 from rfl] at hx352_0)
        replace hx352_0 := (HB.out.cell (World.block_lt_of_cell? w _ hx352_0)).trans hx352_0
        replace p352 := eq_true p352
        replace q352 := eq_true q352
        (try (have q352d := q352; rw [List.length_drop] at q352d))
        refine start_ (n := 10) (S := fun w' => w'.cell? ⟨ad351.block, ad351.off + 4, none⟩ = some (.int .u8 (rd l0 4)) ∧ w'.cell? ⟨ad351.block, ad351.off + 5, none⟩ = some (.int .u8 (rd l0 5))) (ds := []) #[false, false, false, false, false, false, false, false, false, false] (by kernel_rfl) rfl rfl ⟨((HB.out.cell (World.block_lt_of_cell? w _ hw351_0)).trans hw351_0), ((HB.out.cell (World.block_lt_of_cell? w _ hw352_0)).trans hw352_0)⟩ (fun hHeld => ?_); refine with_tabW impl_ImageRead.tab3 impl_ImageRead.bits3 (fun HT_ HW_ => ?_)
        generalize wc.drew = w57 at BK349 HB hx351_0 hx352_0 hHeld ⊢
        refine pure_ (i := 0) (N := some 20) (v := ?_) (a' := ?_) #[true, false, false, false, false, false, false, false, false, false] rfl rfl (any_of HT_.out (by kernel_rfl)) (fun _ _ _ h => h) (Or.inl ⟨by rfl, ?_⟩) ?_ ?_
        rotate_left
        ·intro w'
         go_simp
         with_reducible rfl
        rotate_left
        ·simp only [Act.put, List.setIfInBounds_toArray, List.set_cons_zero, List.set_cons_succ, i64_w, i32_w]
         rfl
        refine pure_ (i := 1) (N := some 21) (v := ?_) (a' := ?_) #[true, true, false, false, false, false, false, false, false, false] rfl rfl (any_of HT_.out (by kernel_rfl)) (fun _ _ _ h => h) (Or.inl ⟨by rfl, ?_⟩) ?_ ?_
        rotate_left
        ·intro w'
         go_simp
         with_reducible rfl
        rotate_left
        ·simp only [Act.put, List.setIfInBounds_toArray, List.set_cons_zero, List.set_cons_succ, i64_w, i32_w]
         rfl
        refine pure_ (i := 4) (N := some 24) (v := ?_) (a' := ?_) #[true, true, false, false, true, false, false, false, false, false] rfl rfl (any_of HT_.out (by kernel_rfl)) (fun _ _ _ h => h) (Or.inl ⟨by rfl, ?_⟩) ?_ ?_
        rotate_left
        ·intro w'
         go_simp
         with_reducible rfl
        rotate_left
        ·simp only [Act.put, List.setIfInBounds_toArray, List.set_cons_zero, List.set_cons_succ, i64_w, i32_w]
         rfl
        refine pure_ (i := 5) (N := some 25) (v := ?_) (a' := ?_) #[true, true, false, false, true, true, false, false, false, false] rfl rfl (any_of HT_.out (by kernel_rfl)) (fun _ _ _ h => h) (Or.inl ⟨by rfl, ?_⟩) ?_ ?_
        rotate_left
        ·intro w'
         go_simp
         with_reducible rfl
        rotate_left
        ·simp only [Act.put, List.setIfInBounds_toArray, List.set_cons_zero, List.set_cons_succ, i64_w, i32_w]
         rfl
        refine take_ (i := 2) (N := some 22) (v := ?_) (a' := ?_) #[true, true, true, false, true, true, false, false, false, false] rfl rfl (take_ofW HT_.out HW_.out (by kernel_rfl)) (fun _ _ _ h => h) (Or.inl ⟨by rfl, ?_⟩) hHeld ?_ ?_
        rotate_left
        ·rintro w' ⟨s0, s1⟩
         go_simp
         with_reducible rfl
        rotate_left
        ·simp only [Act.put, List.setIfInBounds_toArray, List.set_cons_zero, List.set_cons_succ, i64_w, i32_w]
         rfl
        refine pure_ (i := 3) (N := some 23) (v := ?_) (a' := ?_) #[true, true, true, true, true, true, false, false, false, false] rfl rfl (any_of HT_.out (by kernel_rfl)) (fun _ _ _ h => h) (Or.inl ⟨by rfl, ?_⟩) ?_ ?_
        rotate_left
        ·intro w'
         go_simp
         with_reducible rfl
        rotate_left
        ·simp only [Act.put, List.setIfInBounds_toArray, List.set_cons_zero, List.set_cons_succ, i64_w, i32_w]
         rfl
        refine pure_ (i := 8) (N := some 4) (v := ?_) (a' := ?_) #[true, true, true, true, true, true, false, false, true, false] rfl rfl (any_of HT_.out (by kernel_rfl)) (fun _ _ _ h => h) (Or.inl ⟨by rfl, ?_⟩) ?_ ?_
        rotate_left
        ·intro w'
         go_simp
         with_reducible rfl
        rotate_left
        ·simp only [Act.put, List.setIfInBounds_toArray, List.set_cons_zero, List.set_cons_succ, i64_w, i32_w]
         rfl
        refine take_ (i := 6) (N := some 26) (v := ?_) (a' := ?_) #[true, true, true, true, true, true, true, false, true, false] rfl rfl (take_ofW HT_.out HW_.out (by kernel_rfl)) (fun _ _ _ h => h) (Or.inl ⟨by rfl, ?_⟩) hHeld ?_ ?_
        rotate_left
        ·rintro w' ⟨s0, s1⟩
         go_simp
         with_reducible rfl
        rotate_left
        ·simp only [Act.put, List.setIfInBounds_toArray, List.set_cons_zero, List.set_cons_succ, i64_w, i32_w]
         rfl
        refine pure_ (i := 7) (N := some 27) (v := ?_) (a' := ?_) #[true, true, true, true, true, true, true, true, true, false] rfl rfl (any_of HT_.out (by kernel_rfl)) (fun _ _ _ h => h) (Or.inl ⟨by rfl, ?_⟩) ?_ ?_
        rotate_left
        ·intro w'
         go_simp
         with_reducible rfl
        rotate_left
        ·simp only [Act.put, List.setIfInBounds_toArray, List.set_cons_zero, List.set_cons_succ, i64_w, i32_w]
         rfl
        refine pure_ (i := 9) (N := some 5) (v := ?_) (a' := ?_) #[true, true, true, true, true, true, true, true, true, true] rfl rfl (any_of HT_.out (by kernel_rfl)) (fun _ _ _ h => h) (Or.inl ⟨by rfl, ?_⟩) ?_ ?_
        rotate_left
        ·intro w'
         go_simp
         with_reducible rfl
        rotate_left
        ·simp only [Act.put, List.setIfInBounds_toArray, List.set_cons_zero, List.set_cons_succ, i64_w, i32_w]
         rfl
        refine done_ (done_of HT_.out (by kernel_rfl)) ?_
        obtain ⟨i058, hi058, _, hsz58, _⟩ := info_parts info5
        obtain ⟨A58, hcut58, hA58, hC58⟩ := print_drop_of (P := Try.prog) (Value.int .u8) 0 22 5 .i64 Try.underlying22 hi058 hsz58 (some ad351) c0 l0 6 (by omega) dt HC0.out
        have HR353 := Aside0.mk (Kd.C_of_reads (h1 := fun _ => rfl) (hA58 _ (Kd.reads_of_C HR0.out)))
        have HC353 := Aside0.mk hC58
        clear hA58 hC58 hi058 hsz58
        try go_wp2_with (first | ((with_reducible refine gate_callee (f := 67) rfl ?_); refine goesM_ (some 32) rfl rfl Try.func67 #[.int .i64 (wrap64 (rd l0 4)), .int .i64 1, .int .i64 8] ?_; (with_reducible refine (impl_within.calls (wrap64 (rd l0 4)) 1 8 false _ A13.out).mono ?_); rintro e w' ⟨rfl, ⟨nd, rfl⟩⟩; refine ⟨_, rfl, ?_⟩; (try (rw [drewN_self w57]; generalize hq_ : World.drewN w57 _ = w57; have n0_ : Aside0 (w57.heap[gb349]? = some (.cells #[.slice none 0 0] 29 (0, 0))) := ⟨by rw [← hq_]; exact (kb BK349.out)⟩; have n1_ : Aside0 (Below w.heap.size w w57) := ⟨by rw [← hq_]; exact (bw HB.out)⟩; clear BK349 HB hq_; have BK349 := n0_; have HB := n1_; clear n0_ n1_; (try (have hcz59_0 : w57.cell? ⟨gb349, 0, none⟩ = some (.slice none 0 0) := (blk_cell BK349.out 0).trans rfl)); (try (have hfz59_0 := blk_frozen BK349.out 0)))); have hcz59_0 : w57.cell? ⟨gb349, 0, none⟩ = some (.slice none 0 0) := (blk_cell BK349.out 0).trans rfl; have hfz59_0 := blk_frozen BK349.out 0))
        refine bodyPost_ret (results_ct rfl _ _ gb349 29 #[.slice none 0 0] (0, 0) _ rfl (kt BK349.out) Try.underlying29 rfl (by kernel_rfl)) rfl ?_
        exact ⟨_, rt, by first | exact Kd.S_nil _ _ _ _ _ | exact Kd.N_nil _ _ _ _ _ | exact Kd.V_nil _ _ _ _ _ | exact Kd.Q_nil _ _ _ _ _ | exact Kd.R_nil _ _ _ _ _, bw HB.out⟩
      ·rw [if_neg c12] at H
       exact absurd H (by simp)
     ·rw [if_neg c11] at H
      exact absurd H (by simp)
    ·rw [if_neg c10] at H
     exact absurd H (by simp)

/-! ### laws_sameInts: function 26 -/
def laws_sameInts.l0 : Nat → List Int → List Int → Int → Option (Bool)
 | 0, _, _, _ => none
 | k + 1, x0, x1, x5 => if x5 < (x0.length : Int) then (if 0 ≤ x5 then (if x5 < (x1.length : Int) then (if (rd x0 x5) = (rd x1 x5) then (laws_sameInts.l0 k x0 x1 (wrap64 (x5 + 1))) else (some false)) else (none)) else (none)) else (some true)
def laws_sameInts.f (k : Nat) (l0 : List Int) (l1 : List Int) : Option (Bool) := if (l0.length : Int) = (l1.length : Int) then (laws_sameInts.l0 k l0 l1 0) else (some false)
theorem laws_sameInts.mono_l : ∀ k, (∀ y0 y1 y2, LeO (laws_sameInts.l0 k y0 y1 y2) (laws_sameInts.l0 (k + 1) y0 y1 y2))
 | 0 => fun _ _ _ r h => by simp [laws_sameInts.l0] at h
 | k + 1 => by
  have ih0 := laws_sameInts.mono_l k
  ·intro y0 y1 y2
   unfold laws_sameInts.l0
   repeat' first
   | (with_reducible exact ih0 _ _ _)
   | (with_reducible exact LeO.refl _)
   | (with_reducible exact LeO.none _)
   | (with_reducible refine LeO.ite ?_ ?_)
   | (with_reducible refine LeO.bind ?_ (fun _ => ?_))
   | exact ih0 _ _ _
   | exact LeO.none _
   | refine LeO.ite ?_ ?_
   | refine LeO.bind ?_ (fun _ => ?_)
theorem laws_sameInts.mono : ∀ a0 a1 k, LeO (laws_sameInts.f k a0 a1) (laws_sameInts.f (k + 1) a0 a1) := by
 intro a0 a1 k
 have ih0 := laws_sameInts.mono_l k
 unfold laws_sameInts.f
 repeat' first
   | (with_reducible exact ih0 _ _ _)
   | (with_reducible exact LeO.refl _)
   | (with_reducible exact LeO.none _)
   | (with_reducible refine LeO.ite ?_ ?_)
   | (with_reducible refine LeO.bind ?_ (fun _ => ?_))
   | exact ih0 _ _ _
   | exact LeO.none _
   | refine LeO.ite ?_ ?_
   | refine LeO.bind ?_ (fun _ => ?_)
set_option maxHeartbeats 8000000 in
set_option maxRecDepth 100000 in
theorem laws_sameInts.calls (k : Nat) (A0 : Option Addr) (c0 : Nat) (l0 : List Int) (A1 : Option Addr) (c1 : Nat) (l1 : List Int) (r : Bool) (w : World) (hr0 : Kd.C (Kd.int .i64) w A0 l0.length l0) (hc0 : l0.length ≤ c0) (hr1 : Kd.C (Kd.int .i64) w A1 l1.length l1) (hc1 : l1.length ≤ c1) (h : laws_sameInts.f k l0 l1 = some r) :
  Calls Try.prog 26 #[.slice A0 l0.length c0, .slice A1 l1.length c1] w fun e w' => e = .returned (.bool r) ∧ Drawn0 w w' := by
 have HR0 := Aside0.mk hr0
 have HC0 := Aside0.mk hc0
 clear hr0 hc0
 have HR1 := Aside0.mk hr1
 have HC1 := Aside0.mk hc1
 clear hr1 hc1
 have H : (if (l0.length : Int) = (l1.length : Int) then (laws_sameInts.l0 k l0 l1 0) else (some false)) = some r := h
 clear h
 by_cases c3 : (l0.length : Int) = (l1.length : Int)
 ·rw [if_pos c3] at H
  have c3b0 : ((l0.length : Int) == (l1.length : Int)) = true := beq_iff_eq.mpr c3
  have c3b1 : ((l0.length : Int) != (l1.length : Int)) = false := bne_eq_false_iff_eq.mpr c3
  have c3b2 : (l0.length == l1.length) = true := by first | simpa using c3 | (simp at c3 ⊢; omega)
  clear c3
  have H' := Aside0.mk H
  clear H
  go_enter Try.func26, Try.ntmps26
  go_wp2
  repeat (go_quiet (fail); try go_wp2)
  go_loopg [5] k (fun kq v5 w' => ∃ (x5_1 : Int), v5 = .int .i64 x5_1 ∧ Aside0 (laws_sameInts.l0 kq l0 l1 x5_1 = some r) ∧ Aside0 (kq ≤ k) ∧ Drawn0 w w')
  case atStart => exact ⟨(0), (by first | rfl | (simp; done) | (simp [*]; done)), H', ⟨Nat.le_refl _⟩, by repeat (first | exact Drawn0.refl _ | apply Drawn0.step)⟩
  case round =>
   clear H'
   (try clear c1); (try clear c2); (try clear p2); (try clear c3); (try clear c3b0); (try clear c3b1); (try clear c3b2)
   obtain ⟨x5_1, rfl, HA, HK1, ⟨m1, rfl⟩⟩ := hrel
   cases gk with
   | zero => exact absurd HA.out (by simp [laws_sameInts.l0])
   | succ k1 =>
    have H := HA.out
    clear HA
    simp only [laws_sameInts.l0] at H
    by_cases c4 : x5_1 < (l0.length : Int)
    ·rw [if_pos c4] at H
     have c4b0 : decide (x5_1 < (l0.length : Int)) = true := decide_eq_true c4
     clear c4
     by_cases c5 : 0 ≤ x5_1
     ·rw [if_pos c5] at H
      have c5b0 : decide (0 ≤ x5_1) = true := decide_eq_true c5
      clear c5
      by_cases c6 : x5_1 < (l1.length : Int)
      ·rw [if_pos c6] at H
       have c6b0 : decide (x5_1 < (l1.length : Int)) = true := decide_eq_true c6
       clear c6
       by_cases c7 : (rd l0 x5_1) = (rd l1 x5_1)
       ·rw [if_pos c7] at H
        have c7b0 : ((rd l0 x5_1) == (rd l1 x5_1)) = true := beq_iff_eq.mpr c7
        have c7b1 : ((rd l0 x5_1) != (rd l1 x5_1)) = false := bne_eq_false_iff_eq.mpr c7
        clear c7
        have H' := Aside0.mk H
        clear H
        have p366 : 0 ≤ (x5_1 : Int) := dt
        have q366 : x5_1 < (l0.length : Int) := dt
        obtain ⟨ad366, e366, hx366_0⟩ := Kd.at_int HR0.out x5_1 p366 q366
        cases e366
        replace p366 := eq_true p366
        replace q366 := eq_true q366
        have p367 : 0 ≤ (x5_1 : Int) := dt
        have q367 : x5_1 < (l1.length : Int) := dt
        obtain ⟨ad367, e367, hx367_0⟩ := Kd.at_int HR1.out x5_1 p367 q367
        cases e367
        replace p367 := eq_true p367
        replace q367 := eq_true q367
        go_wp2
        repeat (go_quiet (fail); try go_wp2)
        go_roundg k1
        case measure => have := HK1.out; omega
        case rel => exact ⟨(wrap64 (x5_1 + 1)), (by first | rfl | (simp; done) | (simp [*]; done)), H', ⟨by have := HK1.out; omega⟩, by repeat (first | exact Drawn0.refl _ | apply Drawn0.step)⟩
       ·rw [if_neg c7] at H
        have c7b0 : ((rd l0 x5_1) == (rd l1 x5_1)) = false := beq_eq_false_iff_ne.mpr c7
        have c7b1 : ((rd l0 x5_1) != (rd l1 x5_1)) = true := bne_iff_ne.mpr c7
        obtain rfl := Option.some.inj H
        have p366 : 0 ≤ (x5_1 : Int) := dt
        have q366 : x5_1 < (l0.length : Int) := dt
        obtain ⟨ad366, e366, hx366_0⟩ := Kd.at_int HR0.out x5_1 p366 q366
        cases e366
        replace p366 := eq_true p366
        replace q366 := eq_true q366
        have p367 : 0 ≤ (x5_1 : Int) := dt
        have q367 : x5_1 < (l1.length : Int) := dt
        obtain ⟨ad367, e367, hx367_0⟩ := Kd.at_int HR1.out x5_1 p367 q367
        cases e367
        replace p367 := eq_true p367
        replace q367 := eq_true q367
        go_wp2
        repeat (go_quiet (fail); try go_wp2)
        go_ret
        exact ⟨by first | rfl | (simp; done) | (simp [*]; done), by repeat (first | exact Drawn0.refl _ | apply Drawn0.step)⟩
      ·rw [if_neg c6] at H
       exact absurd H (by simp)
     ·rw [if_neg c5] at H
      exact absurd H (by simp)
    ·rw [if_neg c4] at H
     have c4b0 : decide (x5_1 < (l0.length : Int)) = false := decide_eq_false c4
     clear c4
     obtain rfl := Option.some.inj H
     go_wp2
     repeat (go_quiet (fail); try go_wp2)
     go_ret
     exact ⟨by first | rfl | (simp; done) | (simp [*]; done), by repeat (first | exact Drawn0.refl _ | apply Drawn0.step)⟩
 ·rw [if_neg c3] at H
  have c3b0 : ((l0.length : Int) == (l1.length : Int)) = false := beq_eq_false_iff_ne.mpr c3
  have c3b1 : ((l0.length : Int) != (l1.length : Int)) = true := bne_iff_ne.mpr c3
  have c3b2 : (l0.length == l1.length) = false := by first | simpa using c3 | (simp at c3 ⊢; omega)
  obtain rfl := Option.some.inj H
  go_enter Try.func26, Try.ntmps26
  go_wp2
  repeat (go_quiet (fail); try go_wp2)
  go_ret
  exact ⟨by first | rfl | (simp; done) | (simp [*]; done), by repeat (first | exact Drawn0.refl _ | apply Drawn0.step)⟩

/-! ### laws_sameBanks: function 22 -/
def laws_sameBanks.l0 : Nat → Int → List (List Int) → List (List Int) → Option (Bool)
 | 0, _, _, _ => none
 | k + 1, x5, x369000, x370000 => if x5 < (x369000.length : Int) then (if 0 ≤ x5 then (if x5 < (x370000.length : Int) then ((laws_sameInts.f k (rd_L3 x369000 x5) (rd_L3 x370000 x5)).bind fun t372 => (if t372 = true then (laws_sameBanks.l0 k (wrap64 (x5 + 1)) x369000 x370000) else (some false))) else (none)) else (none)) else (some true)
def laws_sameBanks.f (k : Nat) (l0_0 : List (List Int)) (l1_0 : List (List Int)) : Option (Bool) := if (l0_0.length : Int) = (l1_0.length : Int) then (laws_sameBanks.l0 k 0 l0_0 l1_0) else (some false)
theorem laws_sameBanks.mono_l : ∀ k, (∀ y0 y1 y2, LeO (laws_sameBanks.l0 k y0 y1 y2) (laws_sameBanks.l0 (k + 1) y0 y1 y2))
 | 0 => fun _ _ _ r h => by simp [laws_sameBanks.l0] at h
 | k + 1 => by
  have ih0 := laws_sameBanks.mono_l k
  ·intro y0 y1 y2
   unfold laws_sameBanks.l0
   repeat' first
   | (with_reducible exact ih0 _ _ _)
   | (with_reducible exact laws_sameInts.mono _ _ _)
   | (with_reducible exact LeO.refl _)
   | (with_reducible exact LeO.none _)
   | (with_reducible refine LeO.ite ?_ ?_)
   | (with_reducible refine LeO.bind ?_ (fun _ => ?_))
   | exact ih0 _ _ _
   | exact laws_sameInts.mono _ _ _
   | exact LeO.none _
   | refine LeO.ite ?_ ?_
   | refine LeO.bind ?_ (fun _ => ?_)
theorem laws_sameBanks.mono : ∀ a0 a1 k, LeO (laws_sameBanks.f k a0 a1) (laws_sameBanks.f (k + 1) a0 a1) := by
 intro a0 a1 k
 have ih0 := laws_sameBanks.mono_l k
 unfold laws_sameBanks.f
 repeat' first
   | (with_reducible exact ih0 _ _ _)
   | (with_reducible exact laws_sameInts.mono _ _ _)
   | (with_reducible exact LeO.refl _)
   | (with_reducible exact LeO.none _)
   | (with_reducible refine LeO.ite ?_ ?_)
   | (with_reducible refine LeO.bind ?_ (fun _ => ?_))
   | exact ih0 _ _ _
   | exact laws_sameInts.mono _ _ _
   | exact LeO.none _
   | refine LeO.ite ?_ ?_
   | refine LeO.bind ?_ (fun _ => ?_)
set_option maxHeartbeats 8000000 in
set_option maxRecDepth 100000 in
theorem laws_sameBanks.calls (k : Nat) (A0_0 : Option Addr) (c0_0 : Nat) (l0_0 : List (List Int)) (A1_0 : Option Addr) (c1_0 : Nat) (l1_0 : List (List Int)) (r : Bool) (w : World) (hr0_0 : Kd.C (Kd.slice 3 (Kd.int .i64)) w A0_0 l0_0.length l0_0) (hc0_0 : l0_0.length ≤ c0_0) (hr1_0 : Kd.C (Kd.slice 3 (Kd.int .i64)) w A1_0 l1_0.length l1_0) (hc1_0 : l1_0.length ≤ c1_0) (h : laws_sameBanks.f k l0_0 l1_0 = some r) :
  Calls Try.prog 22 #[.agg #[.slice A0_0 l0_0.length c0_0], .agg #[.slice A1_0 l1_0.length c1_0]] w fun e w' => e = .returned (.bool r) ∧ Below w.heap.size w w' := by
 have hu29 := Try.underlying29
 have HR0_0 := Aside0.mk hr0_0
 have HC0_0 := Aside0.mk hc0_0
 clear hr0_0 hc0_0
 have HR1_0 := Aside0.mk hr1_0
 have HC1_0 := Aside0.mk hc1_0
 clear hr1_0 hc1_0
 have HB := Aside0.mk (Below.refl w.heap.size w)
 have H : (if (l0_0.length : Int) = (l1_0.length : Int) then (laws_sameBanks.l0 k 0 l0_0 l1_0) else (some false)) = some r := h
 clear h
 by_cases c3 : (l0_0.length : Int) = (l1_0.length : Int)
 ·rw [if_pos c3] at H
  have c3b0 : ((l0_0.length : Int) == (l1_0.length : Int)) = true := beq_iff_eq.mpr c3
  have c3b1 : ((l0_0.length : Int) != (l1_0.length : Int)) = false := bne_eq_false_iff_eq.mpr c3
  have c3b2 : (l0_0.length == l1_0.length) = true := by first | simpa using c3 | (simp at c3 ⊢; omega)
  clear c3
  have H' := Aside0.mk H
  clear H
  go_enter Try.func22, Try.ntmps22
  go_wp2_with (first | ((with_reducible refine gate_dst (N := 2) rfl ?_); refine bx (N := 2) (cs := #[.slice A0_0 l0_0.length c0_0]) (t := 29) ?_; intro gb368 hg w4 hbox hb; have n0_ := Aside0.mk (below_step (bw HB.out) hb); have n1_ := Aside0.mk (hbox); have n2_ := Aside0.mk ((gs hg (bw HB.out))); have n3_ := Aside0.mk ((gs hg (bw HB.out))); clear HB; have HB := n0_; have BK368 := n1_; have GW368 := n2_; have GE368 := n3_; clear n0_ n1_ n2_ n3_; clear hb hbox hg) | ((with_reducible refine gate_dst (N := 3) rfl ?_); refine bx (N := 3) (cs := #[.slice A1_0 l1_0.length c1_0]) (t := 29) ?_; intro gb369 hg w5 hbox hb; have n0_ := Aside0.mk (blk_below (g := gb368) (o := .cells #[.slice A0_0 l0_0.length c0_0] 29 (0, 0)) (kb BK368.out) hb); have n1_ := Aside0.mk (below_step (bw HB.out) hb); have n2_ := Aside0.mk (hbox); have n3_ := Aside0.mk ((gs hg (bw HB.out))); have n4_ := Aside0.mk ((gs hg (bw HB.out))); have n5_ := Aside0.mk ((ga hg BK368.out)); have n6_ := Aside0.mk ((gc hg BK368.out)); clear BK368; clear HB; have BK368 := n0_; have HB := n1_; have BK369 := n2_; have GW369 := n3_; have GE369 := n4_; have NB368_369 := n5_; have NB369_368 := n6_; clear n0_ n1_ n2_ n3_ n4_ n5_ n6_; clear hb hbox hg; have hnb6 := NB368_369.out; have hnc6 := NB369_368.out; have hcz7_0 : w5.cell? ⟨gb368, 0, none⟩ = some (.slice A0_0 l0_0.length c0_0) := (blk_cell BK368.out 0).trans rfl; have hfz7_0 := blk_frozen BK368.out 0; have hcz8_0 : w5.cell? ⟨gb369, 0, none⟩ = some (.slice A1_0 l1_0.length c1_0) := (blk_cell BK369.out 0).trans rfl; have hfz8_0 := blk_frozen BK369.out 0))
  repeat (go_quiet (first | ((with_reducible refine gate_dst (N := 2) rfl ?_); refine bx (N := 2) (cs := #[.slice A0_0 l0_0.length c0_0]) (t := 29) ?_; intro gb368 hg w4 hbox hb; have n0_ := Aside0.mk (below_step (bw HB.out) hb); have n1_ := Aside0.mk (hbox); have n2_ := Aside0.mk ((gs hg (bw HB.out))); have n3_ := Aside0.mk ((gs hg (bw HB.out))); clear HB; have HB := n0_; have BK368 := n1_; have GW368 := n2_; have GE368 := n3_; clear n0_ n1_ n2_ n3_; clear hb hbox hg) | ((with_reducible refine gate_dst (N := 3) rfl ?_); refine bx (N := 3) (cs := #[.slice A1_0 l1_0.length c1_0]) (t := 29) ?_; intro gb369 hg w5 hbox hb; have n0_ := Aside0.mk (blk_below (g := gb368) (o := .cells #[.slice A0_0 l0_0.length c0_0] 29 (0, 0)) (kb BK368.out) hb); have n1_ := Aside0.mk (below_step (bw HB.out) hb); have n2_ := Aside0.mk (hbox); have n3_ := Aside0.mk ((gs hg (bw HB.out))); have n4_ := Aside0.mk ((gs hg (bw HB.out))); have n5_ := Aside0.mk ((ga hg BK368.out)); have n6_ := Aside0.mk ((gc hg BK368.out)); clear BK368; clear HB; have BK368 := n0_; have HB := n1_; have BK369 := n2_; have GW369 := n3_; have GE369 := n4_; have NB368_369 := n5_; have NB369_368 := n6_; clear n0_ n1_ n2_ n3_ n4_ n5_ n6_; clear hb hbox hg; have hnb6 := NB368_369.out; have hnc6 := NB369_368.out; have hcz7_0 : w5.cell? ⟨gb368, 0, none⟩ = some (.slice A0_0 l0_0.length c0_0) := (blk_cell BK368.out 0).trans rfl; have hfz7_0 := blk_frozen BK368.out 0; have hcz8_0 : w5.cell? ⟨gb369, 0, none⟩ = some (.slice A1_0 l1_0.length c1_0) := (blk_cell BK369.out 0).trans rfl; have hfz8_0 := blk_frozen BK369.out 0)); try go_wp2_with (first | ((with_reducible refine gate_dst (N := 2) rfl ?_); refine bx (N := 2) (cs := #[.slice A0_0 l0_0.length c0_0]) (t := 29) ?_; intro gb368 hg w4 hbox hb; have n0_ := Aside0.mk (below_step (bw HB.out) hb); have n1_ := Aside0.mk (hbox); have n2_ := Aside0.mk ((gs hg (bw HB.out))); have n3_ := Aside0.mk ((gs hg (bw HB.out))); clear HB; have HB := n0_; have BK368 := n1_; have GW368 := n2_; have GE368 := n3_; clear n0_ n1_ n2_ n3_; clear hb hbox hg) | ((with_reducible refine gate_dst (N := 3) rfl ?_); refine bx (N := 3) (cs := #[.slice A1_0 l1_0.length c1_0]) (t := 29) ?_; intro gb369 hg w5 hbox hb; have n0_ := Aside0.mk (blk_below (g := gb368) (o := .cells #[.slice A0_0 l0_0.length c0_0] 29 (0, 0)) (kb BK368.out) hb); have n1_ := Aside0.mk (below_step (bw HB.out) hb); have n2_ := Aside0.mk (hbox); have n3_ := Aside0.mk ((gs hg (bw HB.out))); have n4_ := Aside0.mk ((gs hg (bw HB.out))); have n5_ := Aside0.mk ((ga hg BK368.out)); have n6_ := Aside0.mk ((gc hg BK368.out)); clear BK368; clear HB; have BK368 := n0_; have HB := n1_; have BK369 := n2_; have GW369 := n3_; have GE369 := n4_; have NB368_369 := n5_; have NB369_368 := n6_; clear n0_ n1_ n2_ n3_ n4_ n5_ n6_; clear hb hbox hg; have hnb6 := NB368_369.out; have hnc6 := NB369_368.out; have hcz7_0 : w5.cell? ⟨gb368, 0, none⟩ = some (.slice A0_0 l0_0.length c0_0) := (blk_cell BK368.out 0).trans rfl; have hfz7_0 := blk_frozen BK368.out 0; have hcz8_0 : w5.cell? ⟨gb369, 0, none⟩ = some (.slice A1_0 l1_0.length c1_0) := (blk_cell BK369.out 0).trans rfl; have hfz8_0 := blk_frozen BK369.out 0)))
  go_loopg [5] k (fun kq v5 w' => ∃ (x5_1 : Int), v5 = .int .i64 x5_1 ∧ Aside0 (laws_sameBanks.l0 kq x5_1 l0_0 l1_0 = some r) ∧ Aside0 (kq ≤ k) ∧ Aside0 (w'.heap[gb368]? = some (.cells #[(.slice A0_0 l0_0.length c0_0)] 29 (0, 0))) ∧ Aside0 (w'.heap[gb369]? = some (.cells #[(.slice A1_0 l1_0.length c1_0)] 29 (0, 0))) ∧ Aside0 (Below w.heap.size w w'))
  case atStart => exact ⟨(0), (by first | rfl | (simp; done) | (simp [*]; done)), H', ⟨Nat.le_refl _⟩, ⟨kb BK368.out⟩, ⟨kb BK369.out⟩, ⟨bw HB.out⟩⟩
  case round =>
   clear H'
   (try clear c1); (try clear c2); (try clear p2); (try clear c3); (try clear c3b0); (try clear c3b1); (try clear c3b2); (try clear c6); (try clear hcz7_0); (try clear hcz8_0); (try clear hfz7_0); (try clear hfz8_0)
   obtain ⟨x5_1, rfl, HA, HK1, BK368, BK369, HB⟩ := hrel
   cases gk with
   | zero => exact absurd HA.out (by simp [laws_sameBanks.l0])
   | succ k1 =>
    have H := HA.out
    clear HA
    simp only [laws_sameBanks.l0] at H
    by_cases c9 : x5_1 < (l0_0.length : Int)
    ·rw [if_pos c9] at H
     have c9b0 : decide (x5_1 < (l0_0.length : Int)) = true := decide_eq_true c9
     clear c9
     by_cases c10 : 0 ≤ x5_1
     ·rw [if_pos c10] at H
      have c10b0 : decide (0 ≤ x5_1) = true := decide_eq_true c10
      clear c10
      by_cases c11 : x5_1 < (l1_0.length : Int)
      ·rw [if_pos c11] at H
       have c11b0 : decide (x5_1 < (l1_0.length : Int)) = true := decide_eq_true c11
       clear c11
       replace H := Option.bind_eq_some_iff.mp H
       obtain ⟨t372, A120, H⟩ := H
       replace H : (if t372 = true then (laws_sameBanks.l0 k1 (wrap64 (x5_1 + 1)) l0_0 l1_0) else (some false)) = some r := H
       have A12 := Aside0.mk A120
       clear A120
       by_cases c13 : t372 = true
       ·subst c13
        have H1 : (laws_sameBanks.l0 k1 (wrap64 (x5_1 + 1)) l0_0 l1_0) = some r := by rw [if_pos rfl] at H; exact H
        clear H
        have H := H1
        clear H1
        have H' := Aside0.mk H
        clear H
        have hnb14 := NB368_369.out
        have hnc14 := NB369_368.out
        have hcz15_0 : wr.cell? ⟨gb368, 0, none⟩ = some (.slice A0_0 l0_0.length c0_0) := (blk_cell BK368.out 0).trans rfl
        have hfz15_0 := blk_frozen BK368.out 0
        have p370 : 0 ≤ (x5_1 : Int) := dt
        have q370 : x5_1 < (l0_0.length : Int) := dt
        obtain ⟨ad370, A370_0, c370_0, e370, hx370_0, hl370_0, hi370_0⟩ := at_L3 HR0_0.out x5_1 p370 q370
        cases e370
        replace hx370_0 := (HB.out.cell (World.block_lt_of_cell? w _ hx370_0)).trans hx370_0
        have HR370_0 := Aside0.mk hi370_0
        have HC370_0 := Aside0.mk hl370_0
        clear hi370_0 hl370_0
        replace p370 := eq_true p370
        replace q370 := eq_true q370
        have hcz16_0 : wr.cell? ⟨gb369, 0, none⟩ = some (.slice A1_0 l1_0.length c1_0) := (blk_cell BK369.out 0).trans rfl
        have hfz16_0 := blk_frozen BK369.out 0
        have p371 : 0 ≤ (x5_1 : Int) := dt
        have q371 : x5_1 < (l1_0.length : Int) := dt
        obtain ⟨ad371, A371_0, c371_0, e371, hx371_0, hl371_0, hi371_0⟩ := at_L3 HR1_0.out x5_1 p371 q371
        cases e371
        replace hx371_0 := (HB.out.cell (World.block_lt_of_cell? w _ hx371_0)).trans hx371_0
        have HR371_0 := Aside0.mk hi371_0
        have HC371_0 := Aside0.mk hl371_0
        clear hi371_0 hl371_0
        replace p371 := eq_true p371
        replace q371 := eq_true q371
        go_wp2_with (first | (go_at_call 26; (with_reducible refine (laws_sameInts.calls k1 _ _ (rd_L3 l0_0 x5_1) _ _ (rd_L3 l1_0 x5_1) true _ ?side1 ?side2 ?side3 ?side4 A12.out).mono ?_); (case side1 => exact kc (Kd.C_below HR370_0.out HB.out)); (case side2 => exact HC370_0.out); (case side3 => exact kc (Kd.C_below HR371_0.out HB.out)); (case side4 => exact HC371_0.out); rintro e w' ⟨rfl, ⟨nd, rfl⟩⟩; (try first | exact ⟨rfl, _, World.drewN_drewN _ _ _⟩ | exact ⟨rfl, _, Eq.trans (World.drewN_drewN _ _ _) (congrArg (World.drewN _) (Nat.add_assoc _ _ _))⟩)))
        repeat (go_quiet (first | (go_at_call 26; (with_reducible refine (laws_sameInts.calls k1 _ _ (rd_L3 l0_0 x5_1) _ _ (rd_L3 l1_0 x5_1) true _ ?side1 ?side2 ?side3 ?side4 A12.out).mono ?_); (case side1 => exact kc (Kd.C_below HR370_0.out HB.out)); (case side2 => exact HC370_0.out); (case side3 => exact kc (Kd.C_below HR371_0.out HB.out)); (case side4 => exact HC371_0.out); rintro e w' ⟨rfl, ⟨nd, rfl⟩⟩; (try first | exact ⟨rfl, _, World.drewN_drewN _ _ _⟩ | exact ⟨rfl, _, Eq.trans (World.drewN_drewN _ _ _) (congrArg (World.drewN _) (Nat.add_assoc _ _ _))⟩))); try go_wp2_with (first | (go_at_call 26; (with_reducible refine (laws_sameInts.calls k1 _ _ (rd_L3 l0_0 x5_1) _ _ (rd_L3 l1_0 x5_1) true _ ?side1 ?side2 ?side3 ?side4 A12.out).mono ?_); (case side1 => exact kc (Kd.C_below HR370_0.out HB.out)); (case side2 => exact HC370_0.out); (case side3 => exact kc (Kd.C_below HR371_0.out HB.out)); (case side4 => exact HC371_0.out); rintro e w' ⟨rfl, ⟨nd, rfl⟩⟩; (try first | exact ⟨rfl, _, World.drewN_drewN _ _ _⟩ | exact ⟨rfl, _, Eq.trans (World.drewN_drewN _ _ _) (congrArg (World.drewN _) (Nat.add_assoc _ _ _))⟩))))
        go_roundg k1
        case measure => have := HK1.out; omega
        case rel => exact ⟨(wrap64 (x5_1 + 1)), (by first | rfl | (simp; done) | (simp [*]; done)), H', ⟨by have := HK1.out; omega⟩, ⟨kb BK368.out⟩, ⟨kb BK369.out⟩, ⟨bw HB.out⟩⟩
       ·replace c13 := Bool.eq_false_iff.mpr c13
        subst c13
        have H1 : (some false) = some r := by rw [if_neg (show ¬ (false = true) by decide)] at H; exact H
        clear H
        have H := H1
        clear H1
        obtain rfl := Option.some.inj H
        have hnb17 := NB368_369.out
        have hnc17 := NB369_368.out
        have hcz18_0 : wr.cell? ⟨gb368, 0, none⟩ = some (.slice A0_0 l0_0.length c0_0) := (blk_cell BK368.out 0).trans rfl
        have hfz18_0 := blk_frozen BK368.out 0
        have p370 : 0 ≤ (x5_1 : Int) := dt
        have q370 : x5_1 < (l0_0.length : Int) := dt
        obtain ⟨ad370, A370_0, c370_0, e370, hx370_0, hl370_0, hi370_0⟩ := at_L3 HR0_0.out x5_1 p370 q370
        cases e370
        replace hx370_0 := (HB.out.cell (World.block_lt_of_cell? w _ hx370_0)).trans hx370_0
        have HR370_0 := Aside0.mk hi370_0
        have HC370_0 := Aside0.mk hl370_0
        clear hi370_0 hl370_0
        replace p370 := eq_true p370
        replace q370 := eq_true q370
        have hcz19_0 : wr.cell? ⟨gb369, 0, none⟩ = some (.slice A1_0 l1_0.length c1_0) := (blk_cell BK369.out 0).trans rfl
        have hfz19_0 := blk_frozen BK369.out 0
        have p371 : 0 ≤ (x5_1 : Int) := dt
        have q371 : x5_1 < (l1_0.length : Int) := dt
        obtain ⟨ad371, A371_0, c371_0, e371, hx371_0, hl371_0, hi371_0⟩ := at_L3 HR1_0.out x5_1 p371 q371
        cases e371
        replace hx371_0 := (HB.out.cell (World.block_lt_of_cell? w _ hx371_0)).trans hx371_0
        have HR371_0 := Aside0.mk hi371_0
        have HC371_0 := Aside0.mk hl371_0
        clear hi371_0 hl371_0
        replace p371 := eq_true p371
        replace q371 := eq_true q371
        go_wp2_with (first | (go_at_call 26; (with_reducible refine (laws_sameInts.calls k1 _ _ (rd_L3 l0_0 x5_1) _ _ (rd_L3 l1_0 x5_1) false _ ?side1 ?side2 ?side3 ?side4 A12.out).mono ?_); (case side1 => exact kc (Kd.C_below HR370_0.out HB.out)); (case side2 => exact HC370_0.out); (case side3 => exact kc (Kd.C_below HR371_0.out HB.out)); (case side4 => exact HC371_0.out); rintro e w' ⟨rfl, ⟨nd, rfl⟩⟩; (try first | exact ⟨rfl, _, World.drewN_drewN _ _ _⟩ | exact ⟨rfl, _, Eq.trans (World.drewN_drewN _ _ _) (congrArg (World.drewN _) (Nat.add_assoc _ _ _))⟩)))
        repeat (go_quiet (first | (go_at_call 26; (with_reducible refine (laws_sameInts.calls k1 _ _ (rd_L3 l0_0 x5_1) _ _ (rd_L3 l1_0 x5_1) false _ ?side1 ?side2 ?side3 ?side4 A12.out).mono ?_); (case side1 => exact kc (Kd.C_below HR370_0.out HB.out)); (case side2 => exact HC370_0.out); (case side3 => exact kc (Kd.C_below HR371_0.out HB.out)); (case side4 => exact HC371_0.out); rintro e w' ⟨rfl, ⟨nd, rfl⟩⟩; (try first | exact ⟨rfl, _, World.drewN_drewN _ _ _⟩ | exact ⟨rfl, _, Eq.trans (World.drewN_drewN _ _ _) (congrArg (World.drewN _) (Nat.add_assoc _ _ _))⟩))); try go_wp2_with (first | (go_at_call 26; (with_reducible refine (laws_sameInts.calls k1 _ _ (rd_L3 l0_0 x5_1) _ _ (rd_L3 l1_0 x5_1) false _ ?side1 ?side2 ?side3 ?side4 A12.out).mono ?_); (case side1 => exact kc (Kd.C_below HR370_0.out HB.out)); (case side2 => exact HC370_0.out); (case side3 => exact kc (Kd.C_below HR371_0.out HB.out)); (case side4 => exact HC371_0.out); rintro e w' ⟨rfl, ⟨nd, rfl⟩⟩; (try first | exact ⟨rfl, _, World.drewN_drewN _ _ _⟩ | exact ⟨rfl, _, Eq.trans (World.drewN_drewN _ _ _) (congrArg (World.drewN _) (Nat.add_assoc _ _ _))⟩))))
        go_ret
        exact ⟨rt, bw HB.out⟩
      ·rw [if_neg c11] at H
       exact absurd H (by simp)
     ·rw [if_neg c10] at H
      exact absurd H (by simp)
    ·rw [if_neg c9] at H
     have c9b0 : decide (x5_1 < (l0_0.length : Int)) = false := decide_eq_false c9
     clear c9
     obtain rfl := Option.some.inj H
     have hnb20 := NB368_369.out
     have hnc20 := NB369_368.out
     have hcz21_0 : wr.cell? ⟨gb368, 0, none⟩ = some (.slice A0_0 l0_0.length c0_0) := (blk_cell BK368.out 0).trans rfl
     have hfz21_0 := blk_frozen BK368.out 0
     go_wp2
     repeat (go_quiet (fail); try go_wp2)
     go_ret
     exact ⟨rt, bw HB.out⟩
 ·rw [if_neg c3] at H
  have c3b0 : ((l0_0.length : Int) == (l1_0.length : Int)) = false := beq_eq_false_iff_ne.mpr c3
  have c3b1 : ((l0_0.length : Int) != (l1_0.length : Int)) = true := bne_iff_ne.mpr c3
  have c3b2 : (l0_0.length == l1_0.length) = false := by first | simpa using c3 | (simp at c3 ⊢; omega)
  obtain rfl := Option.some.inj H
  go_enter Try.func22, Try.ntmps22
  go_wp2_with (first | ((with_reducible refine gate_dst (N := 2) rfl ?_); refine bx (N := 2) (cs := #[.slice A0_0 l0_0.length c0_0]) (t := 29) ?_; intro gb368 hg w22 hbox hb; have n0_ := Aside0.mk (below_step (bw HB.out) hb); have n1_ := Aside0.mk (hbox); have n2_ := Aside0.mk ((gs hg (bw HB.out))); have n3_ := Aside0.mk ((gs hg (bw HB.out))); clear HB; have HB := n0_; have BK368 := n1_; have GW368 := n2_; have GE368 := n3_; clear n0_ n1_ n2_ n3_; clear hb hbox hg) | ((with_reducible refine gate_dst (N := 3) rfl ?_); refine bx (N := 3) (cs := #[.slice A1_0 l1_0.length c1_0]) (t := 29) ?_; intro gb369 hg w23 hbox hb; have n0_ := Aside0.mk (blk_below (g := gb368) (o := .cells #[.slice A0_0 l0_0.length c0_0] 29 (0, 0)) (kb BK368.out) hb); have n1_ := Aside0.mk (below_step (bw HB.out) hb); have n2_ := Aside0.mk (hbox); have n3_ := Aside0.mk ((gs hg (bw HB.out))); have n4_ := Aside0.mk ((gs hg (bw HB.out))); have n5_ := Aside0.mk ((ga hg BK368.out)); have n6_ := Aside0.mk ((gc hg BK368.out)); clear BK368; clear HB; have BK368 := n0_; have HB := n1_; have BK369 := n2_; have GW369 := n3_; have GE369 := n4_; have NB368_369 := n5_; have NB369_368 := n6_; clear n0_ n1_ n2_ n3_ n4_ n5_ n6_; clear hb hbox hg; have hnb24 := NB368_369.out; have hnc24 := NB369_368.out; have hcz25_0 : w23.cell? ⟨gb368, 0, none⟩ = some (.slice A0_0 l0_0.length c0_0) := (blk_cell BK368.out 0).trans rfl; have hfz25_0 := blk_frozen BK368.out 0; have hcz26_0 : w23.cell? ⟨gb369, 0, none⟩ = some (.slice A1_0 l1_0.length c1_0) := (blk_cell BK369.out 0).trans rfl; have hfz26_0 := blk_frozen BK369.out 0))
  repeat (go_quiet (first | ((with_reducible refine gate_dst (N := 2) rfl ?_); refine bx (N := 2) (cs := #[.slice A0_0 l0_0.length c0_0]) (t := 29) ?_; intro gb368 hg w22 hbox hb; have n0_ := Aside0.mk (below_step (bw HB.out) hb); have n1_ := Aside0.mk (hbox); have n2_ := Aside0.mk ((gs hg (bw HB.out))); have n3_ := Aside0.mk ((gs hg (bw HB.out))); clear HB; have HB := n0_; have BK368 := n1_; have GW368 := n2_; have GE368 := n3_; clear n0_ n1_ n2_ n3_; clear hb hbox hg) | ((with_reducible refine gate_dst (N := 3) rfl ?_); refine bx (N := 3) (cs := #[.slice A1_0 l1_0.length c1_0]) (t := 29) ?_; intro gb369 hg w23 hbox hb; have n0_ := Aside0.mk (blk_below (g := gb368) (o := .cells #[.slice A0_0 l0_0.length c0_0] 29 (0, 0)) (kb BK368.out) hb); have n1_ := Aside0.mk (below_step (bw HB.out) hb); have n2_ := Aside0.mk (hbox); have n3_ := Aside0.mk ((gs hg (bw HB.out))); have n4_ := Aside0.mk ((gs hg (bw HB.out))); have n5_ := Aside0.mk ((ga hg BK368.out)); have n6_ := Aside0.mk ((gc hg BK368.out)); clear BK368; clear HB; have BK368 := n0_; have HB := n1_; have BK369 := n2_; have GW369 := n3_; have GE369 := n4_; have NB368_369 := n5_; have NB369_368 := n6_; clear n0_ n1_ n2_ n3_ n4_ n5_ n6_; clear hb hbox hg; have hnb24 := NB368_369.out; have hnc24 := NB369_368.out; have hcz25_0 : w23.cell? ⟨gb368, 0, none⟩ = some (.slice A0_0 l0_0.length c0_0) := (blk_cell BK368.out 0).trans rfl; have hfz25_0 := blk_frozen BK368.out 0; have hcz26_0 : w23.cell? ⟨gb369, 0, none⟩ = some (.slice A1_0 l1_0.length c1_0) := (blk_cell BK369.out 0).trans rfl; have hfz26_0 := blk_frozen BK369.out 0)); try go_wp2_with (first | ((with_reducible refine gate_dst (N := 2) rfl ?_); refine bx (N := 2) (cs := #[.slice A0_0 l0_0.length c0_0]) (t := 29) ?_; intro gb368 hg w22 hbox hb; have n0_ := Aside0.mk (below_step (bw HB.out) hb); have n1_ := Aside0.mk (hbox); have n2_ := Aside0.mk ((gs hg (bw HB.out))); have n3_ := Aside0.mk ((gs hg (bw HB.out))); clear HB; have HB := n0_; have BK368 := n1_; have GW368 := n2_; have GE368 := n3_; clear n0_ n1_ n2_ n3_; clear hb hbox hg) | ((with_reducible refine gate_dst (N := 3) rfl ?_); refine bx (N := 3) (cs := #[.slice A1_0 l1_0.length c1_0]) (t := 29) ?_; intro gb369 hg w23 hbox hb; have n0_ := Aside0.mk (blk_below (g := gb368) (o := .cells #[.slice A0_0 l0_0.length c0_0] 29 (0, 0)) (kb BK368.out) hb); have n1_ := Aside0.mk (below_step (bw HB.out) hb); have n2_ := Aside0.mk (hbox); have n3_ := Aside0.mk ((gs hg (bw HB.out))); have n4_ := Aside0.mk ((gs hg (bw HB.out))); have n5_ := Aside0.mk ((ga hg BK368.out)); have n6_ := Aside0.mk ((gc hg BK368.out)); clear BK368; clear HB; have BK368 := n0_; have HB := n1_; have BK369 := n2_; have GW369 := n3_; have GE369 := n4_; have NB368_369 := n5_; have NB369_368 := n6_; clear n0_ n1_ n2_ n3_ n4_ n5_ n6_; clear hb hbox hg; have hnb24 := NB368_369.out; have hnc24 := NB369_368.out; have hcz25_0 : w23.cell? ⟨gb368, 0, none⟩ = some (.slice A0_0 l0_0.length c0_0) := (blk_cell BK368.out 0).trans rfl; have hfz25_0 := blk_frozen BK368.out 0; have hcz26_0 : w23.cell? ⟨gb369, 0, none⟩ = some (.slice A1_0 l1_0.length c1_0) := (blk_cell BK369.out 0).trans rfl; have hfz26_0 := blk_frozen BK369.out 0)))
  go_ret
  exact ⟨rt, bw HB.out⟩

end Go.Proofs.Ytmkccgbfgebfbaa.MFnImage
