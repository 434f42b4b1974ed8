/- Walks of functions that the law FnRegions reaches: each comes to just what its Lean function says. (Begun as the texts that print.sh wrote for this claim; some of them, and those that it does not write, are mine.) No condition. -/
import Derived.Test.YtmkccgbfgebfbaaMFnRegionsx5
namespace Go.Proofs.Ytmkccgbfgebfbaa.MFnRegions
open Go.RowKit Go.Proofs.YtmkccgbfgebfbaaW.PrintWords Go.Proofs.YtmkccgbfgebfbaaW.PrintLast Go.Proofs.YtmkccgbfgebfbaaW.PrintMore
attribute [local go_sem] max2_int min2_int max_two min_two max_three min_three max_four min_four   -- for this text's walks alone
set_option linter.unusedVariables false
set_option linter.unusedSimpArgs false

/-! ### spec_l6Peek: function 64 -/
def spec_l6Peek.f (l0_0 : List (List Int)) (l1_0 : List Int) (a1_1 : Int) (a2 : Int) : Option (Int) := (spec_Region.f a2).bind fun bt431 => (if bt431.1 = 1 then (if 0 ≤ bt431.2 then (if bt431.2 < (l1_0.length : Int) then (some (rd l1_0 bt431.2)) else (none)) else (none)) else (if bt431.1 = 5 then (if 0 ≤ a1_1 then (if a1_1 < (l0_0.length : Int) then (if 0 ≤ bt431.2 then (if bt431.2 < ((rd_L3 l0_0 a1_1).length : Int) then (some (rd (rd_L3 l0_0 a1_1) bt431.2)) else (none)) else (none)) else (none)) else (none)) else (if bt431.1 = 6 then (if 0 ≤ (wrap64 ((l0_0.length : Int) - 1)) then (if (wrap64 ((l0_0.length : Int) - 1)) < (l0_0.length : Int) then (if 0 ≤ bt431.2 then (if bt431.2 < ((rd_L3 l0_0 (wrap64 ((l0_0.length : Int) - 1))).length : Int) then (some (rd (rd_L3 l0_0 (wrap64 ((l0_0.length : Int) - 1))) bt431.2)) else (none)) else (none)) else (none)) else (none)) else (some 0))))
set_option maxHeartbeats 8000000 in
set_option maxRecDepth 100000 in
theorem spec_l6Peek.calls (A0_0 : Option Addr) (c0_0 : Nat) (l0_0 : List (List Int)) (A1_0 : Option Addr) (c1_0 : Nat) (l1_0 : List Int) (a1_1 : Int) (a2 : Int) (r : Int) (w : World) (hr0_0 : Kd.C (Kd.slice 3 (Kd.int .i64)) w A0_0 l0_0.length l0_0) (hc0_0 : l0_0.length ≤ c0_0) (hr1_0 : Kd.C (Kd.int .i64) w A1_0 l1_0.length l1_0) (hc1_0 : l1_0.length ≤ c1_0) (h : spec_l6Peek.f l0_0 l1_0 a1_1 a2 = some r) :
  Calls Try.prog 64 #[.agg #[.slice A0_0 l0_0.length c0_0], .agg #[.slice A1_0 l1_0.length c1_0, .int .i64 a1_1], .int .i64 a2] w fun e w' => e = .returned (.int .i64 r) ∧ Below w.heap.size w w' := by
 have hu29 := Try.underlying29
 have hu32 := Try.underlying32
 have HR0_0 := Aside0.mk hr0_0
 have HC0_0 := Aside0.mk hc0_0
 clear hr0_0 hc0_0
 have HR1_0 := Aside0.mk hr1_0
 have HC1_0 := Aside0.mk hc1_0
 clear hr1_0 hc1_0
 have HB := Aside0.mk (Below.refl w.heap.size w)
 have H : ((spec_Region.f a2).bind fun bt431 => (if bt431.1 = 1 then (if 0 ≤ bt431.2 then (if bt431.2 < (l1_0.length : Int) then (some (rd l1_0 bt431.2)) else (none)) else (none)) else (if bt431.1 = 5 then (if 0 ≤ a1_1 then (if a1_1 < (l0_0.length : Int) then (if 0 ≤ bt431.2 then (if bt431.2 < ((rd_L3 l0_0 a1_1).length : Int) then (some (rd (rd_L3 l0_0 a1_1) bt431.2)) else (none)) else (none)) else (none)) else (none)) else (if bt431.1 = 6 then (if 0 ≤ (wrap64 ((l0_0.length : Int) - 1)) then (if (wrap64 ((l0_0.length : Int) - 1)) < (l0_0.length : Int) then (if 0 ≤ bt431.2 then (if bt431.2 < ((rd_L3 l0_0 (wrap64 ((l0_0.length : Int) - 1))).length : Int) then (some (rd (rd_L3 l0_0 (wrap64 ((l0_0.length : Int) - 1))) bt431.2)) else (none)) else (none)) else (none)) else (none)) else (some 0))))) = some r := h
 clear h
 replace H := Option.bind_eq_some_iff.mp H
 obtain ⟨⟨t431, t432⟩, A40, H⟩ := H
 replace H : (if t431 = 1 then (if 0 ≤ t432 then (if t432 < (l1_0.length : Int) then (some (rd l1_0 t432)) else (none)) else (none)) else (if t431 = 5 then (if 0 ≤ a1_1 then (if a1_1 < (l0_0.length : Int) then (if 0 ≤ t432 then (if t432 < ((rd_L3 l0_0 a1_1).length : Int) then (some (rd (rd_L3 l0_0 a1_1) t432)) else (none)) else (none)) else (none)) else (none)) else (if t431 = 6 then (if 0 ≤ (wrap64 ((l0_0.length : Int) - 1)) then (if (wrap64 ((l0_0.length : Int) - 1)) < (l0_0.length : Int) then (if 0 ≤ t432 then (if t432 < ((rd_L3 l0_0 (wrap64 ((l0_0.length : Int) - 1))).length : Int) then (some (rd (rd_L3 l0_0 (wrap64 ((l0_0.length : Int) - 1))) t432)) else (none)) else (none)) else (none)) else (none)) else (some 0)))) = some r := H
 have A4 := Aside0.mk A40
 clear A40
 by_cases c5 : t431 = 1
 ·rw [if_pos c5] at H
  have c5b0 : (t431 == 1) = true := beq_iff_eq.mpr c5
  have c5b1 : (t431 != 1) = false := bne_eq_false_iff_eq.mpr c5
  clear c5
  by_cases c6 : 0 ≤ t432
  ·rw [if_pos c6] at H
   have c6b0 : decide (0 ≤ t432) = true := decide_eq_true c6
   clear c6
   by_cases c7 : t432 < (l1_0.length : Int)
   ·rw [if_pos c7] at H
    have c7b0 : decide (t432 < (l1_0.length : Int)) = true := decide_eq_true c7
    clear c7
    obtain rfl := Option.some.inj H
    go_enter Try.func64, Try.ntmps64
    go_wp2_with (first | ((with_reducible refine gate_dst (N := 3) rfl ?_); refine box_event ?hg (N := 3) ?hd (cs := #[.slice A0_0 l0_0.length c0_0]) (t := 29) ?hr ?_; (case hd => rfl); (case hg => rfl); (case hr => first | (go_simp; done) | (go_simp; rfl)); intro gb429 hg w8 hbox hb; have n0_ := Aside0.mk (below_step (by repeat (first | (with_reducible first | exact HB.out | apply below_alloc | apply pw_below_drewN | apply below_drew1) | exact HB.out)) hb); have n1_ := Aside0.mk (hbox); have n2_ := Aside0.mk ((by rw [hg]; exact (below_size (by repeat (first | (with_reducible first | exact HB.out | apply below_alloc | apply pw_below_drewN | apply below_drew1) | exact HB.out))) : w.heap.size ≤ gb429)); have n3_ := Aside0.mk ((by rw [hg]; exact (below_size (by repeat (first | (with_reducible first | exact HB.out | apply below_alloc | apply pw_below_drewN | apply below_drew1) | exact HB.out))) : w.heap.size ≤ gb429)); clear HB; have HB := n0_; have BK429 := n1_; have GW429 := n2_; have GE429 := n3_; clear n0_ n1_ n2_ n3_; clear hb hbox hg) | ((with_reducible refine gate_dst (N := 4) rfl ?_); refine box_event ?hg (N := 4) ?hd (cs := #[.slice A1_0 l1_0.length c1_0, .int .i64 a1_1]) (t := 32) ?hr ?_; (case hd => rfl); (case hg => rfl); (case hr => first | (go_simp; done) | (go_simp; rfl)); intro gb430 hg w9 hbox hb; have n0_ := Aside0.mk (blk_below (g := gb429) (o := .cells #[.slice A0_0 l0_0.length c0_0] 29 (0, 0)) (by (with_reducible repeat (first | refine blk_drewN ?_ _ | refine blk_drew ?_ | refine blk_alloc ?_ _)); exact BK429.out) hb); have n1_ := Aside0.mk (below_step (by repeat (first | (with_reducible first | exact HB.out | apply below_alloc | apply pw_below_drewN | apply below_drew1 | refine below_set ?_ GE429.out) | exact HB.out)) hb); have n2_ := Aside0.mk (hbox); have n3_ := Aside0.mk ((by rw [hg]; exact (below_size (by repeat (first | (with_reducible first | exact HB.out | apply below_alloc | apply pw_below_drewN | apply below_drew1 | refine below_set ?_ GE429.out) | exact HB.out))) : w.heap.size ≤ gb430)); have n4_ := Aside0.mk ((by rw [hg]; exact (below_size (by repeat (first | (with_reducible first | exact HB.out | apply below_alloc | apply pw_below_drewN | apply below_drew1 | refine below_set ?_ GE429.out) | exact HB.out))) : w.heap.size ≤ gb430)); have n5_ := Aside0.mk ((by rw [hg]; exact Nat.ne_of_lt (blk_lt (g := gb429) (o := .cells #[.slice A0_0 l0_0.length c0_0] 29 (0, 0)) (by (with_reducible repeat (first | refine blk_drewN ?_ _ | refine blk_drew ?_ | refine blk_alloc ?_ _)); exact BK429.out)) : gb429 ≠ gb430)); have n6_ := Aside0.mk ((by rw [hg]; exact Nat.ne_of_gt (blk_lt (g := gb429) (o := .cells #[.slice A0_0 l0_0.length c0_0] 29 (0, 0)) (by (with_reducible repeat (first | refine blk_drewN ?_ _ | refine blk_drew ?_ | refine blk_alloc ?_ _)); exact BK429.out)) : gb430 ≠ gb429)); clear BK429; clear HB; have BK429 := n0_; have HB := n1_; have BK430 := n2_; have GW430 := n3_; have GE430 := n4_; have NB429_430 := n5_; have NB430_429 := n6_; clear n0_ n1_ n2_ n3_ n4_ n5_ n6_; clear hb hbox hg) | ((with_reducible refine gate_callee (f := 12) rfl ?_); refine goesL_ (some 11) rfl rfl Try.func12 (by kernel_rfl) rfl #[.int .i64 a2] rfl (by (try simp only [List.map_toArray, List.map_cons, List.map_nil]); first | done | rfl | (simp only [List.length_drop, List.length_take]; rfl)) ?_; (with_reducible refine (spec_Region.calls a2 t431 t432 _ A4.out).mono ?_); rintro e w' ⟨rfl, ⟨nd, rfl⟩⟩; refine ⟨_, rfl, ?_⟩; have hnb10 := NB430_429.out; have hnc10 := NB429_430.out; have hcz11_0 : w9.cell? ⟨gb430, 0, none⟩ = some (.slice A1_0 l1_0.length c1_0) := (blk_cell BK430.out 0).trans rfl; have hcz11_1 : w9.cell? ⟨gb430, 1, none⟩ = some (.int .i64 a1_1) := (blk_cell BK430.out 1).trans rfl; have hfz11_0 := blk_frozen BK430.out 0; have hfz11_1 := blk_frozen BK430.out 1; have p433 : 0 ≤ (t432 : Int) := of_decide_eq_true (by first | (with_reducible assumption) | assumption); have q433 : t432 < (l1_0.length : Int) := of_decide_eq_true (by first | (with_reducible assumption) | assumption); obtain ⟨ad433, e433, hx433_0⟩ := Kd.at_int HR1_0.out t432 p433 q433; cases e433; replace hx433_0 := (HB.out.cell (World.block_lt_of_cell? w _ hx433_0)).trans hx433_0; replace p433 := eq_true p433; replace q433 := eq_true q433))
    go_ret
    exact ⟨by first | rfl | (simp [errW_none, errW_some] <;> rfl) | (simp [*, errW_none, errW_some] <;> rfl), by repeat (first | (with_reducible first | exact HB.out | apply below_alloc | apply pw_below_drewN | apply below_drew1 | refine below_set ?_ GE429.out | refine below_set ?_ GE430.out) | exact HB.out)⟩
   ·rw [if_neg c7] at H
    exact absurd H (by simp)
  ·rw [if_neg c6] at H
   exact absurd H (by simp)
 ·rw [if_neg c5] at H
  have c5b0 : (t431 == 1) = false := beq_eq_false_iff_ne.mpr c5
  have c5b1 : (t431 != 1) = true := bne_iff_ne.mpr c5
  by_cases c12 : t431 = 5
  ·rw [if_pos c12] at H
   have c12b0 : (t431 == 5) = true := beq_iff_eq.mpr c12
   have c12b1 : (t431 != 5) = false := bne_eq_false_iff_eq.mpr c12
   clear c12
   by_cases c13 : 0 ≤ a1_1
   ·rw [if_pos c13] at H
    have c13b0 : decide (0 ≤ a1_1) = true := decide_eq_true c13
    clear c13
    by_cases c14 : a1_1 < (l0_0.length : Int)
    ·rw [if_pos c14] at H
     have c14b0 : decide (a1_1 < (l0_0.length : Int)) = true := decide_eq_true c14
     clear c14
     by_cases c15 : 0 ≤ t432
     ·rw [if_pos c15] at H
      have c15b0 : decide (0 ≤ t432) = true := decide_eq_true c15
      clear c15
      by_cases c16 : t432 < ((rd_L3 l0_0 a1_1).length : Int)
      ·rw [if_pos c16] at H
       have c16b0 : decide (t432 < ((rd_L3 l0_0 a1_1).length : Int)) = true := decide_eq_true c16
       clear c16
       obtain rfl := Option.some.inj H
       go_enter Try.func64, Try.ntmps64
       go_wp2_with (first | ((with_reducible refine gate_dst (N := 3) rfl ?_); refine box_event ?hg (N := 3) ?hd (cs := #[.slice A0_0 l0_0.length c0_0]) (t := 29) ?hr ?_; (case hd => rfl); (case hg => rfl); (case hr => first | (go_simp; done) | (go_simp; rfl)); intro gb429 hg w17 hbox hb; have n0_ := Aside0.mk (below_step (by repeat (first | (with_reducible first | exact HB.out | apply below_alloc | apply pw_below_drewN | apply below_drew1) | exact HB.out)) hb); have n1_ := Aside0.mk (hbox); have n2_ := Aside0.mk ((by rw [hg]; exact (below_size (by repeat (first | (with_reducible first | exact HB.out | apply below_alloc | apply pw_below_drewN | apply below_drew1) | exact HB.out))) : w.heap.size ≤ gb429)); have n3_ := Aside0.mk ((by rw [hg]; exact (below_size (by repeat (first | (with_reducible first | exact HB.out | apply below_alloc | apply pw_below_drewN | apply below_drew1) | exact HB.out))) : w.heap.size ≤ gb429)); clear HB; have HB := n0_; have BK429 := n1_; have GW429 := n2_; have GE429 := n3_; clear n0_ n1_ n2_ n3_; clear hb hbox hg) | ((with_reducible refine gate_dst (N := 4) rfl ?_); refine box_event ?hg (N := 4) ?hd (cs := #[.slice A1_0 l1_0.length c1_0, .int .i64 a1_1]) (t := 32) ?hr ?_; (case hd => rfl); (case hg => rfl); (case hr => first | (go_simp; done) | (go_simp; rfl)); intro gb430 hg w18 hbox hb; have n0_ := Aside0.mk (blk_below (g := gb429) (o := .cells #[.slice A0_0 l0_0.length c0_0] 29 (0, 0)) (by (with_reducible repeat (first | refine blk_drewN ?_ _ | refine blk_drew ?_ | refine blk_alloc ?_ _)); exact BK429.out) hb); have n1_ := Aside0.mk (below_step (by repeat (first | (with_reducible first | exact HB.out | apply below_alloc | apply pw_below_drewN | apply below_drew1 | refine below_set ?_ GE429.out) | exact HB.out)) hb); have n2_ := Aside0.mk (hbox); have n3_ := Aside0.mk ((by rw [hg]; exact (below_size (by repeat (first | (with_reducible first | exact HB.out | apply below_alloc | apply pw_below_drewN | apply below_drew1 | refine below_set ?_ GE429.out) | exact HB.out))) : w.heap.size ≤ gb430)); have n4_ := Aside0.mk ((by rw [hg]; exact (below_size (by repeat (first | (with_reducible first | exact HB.out | apply below_alloc | apply pw_below_drewN | apply below_drew1 | refine below_set ?_ GE429.out) | exact HB.out))) : w.heap.size ≤ gb430)); have n5_ := Aside0.mk ((by rw [hg]; exact Nat.ne_of_lt (blk_lt (g := gb429) (o := .cells #[.slice A0_0 l0_0.length c0_0] 29 (0, 0)) (by (with_reducible repeat (first | refine blk_drewN ?_ _ | refine blk_drew ?_ | refine blk_alloc ?_ _)); exact BK429.out)) : gb429 ≠ gb430)); have n6_ := Aside0.mk ((by rw [hg]; exact Nat.ne_of_gt (blk_lt (g := gb429) (o := .cells #[.slice A0_0 l0_0.length c0_0] 29 (0, 0)) (by (with_reducible repeat (first | refine blk_drewN ?_ _ | refine blk_drew ?_ | refine blk_alloc ?_ _)); exact BK429.out)) : gb430 ≠ gb429)); clear BK429; clear HB; have BK429 := n0_; have HB := n1_; have BK430 := n2_; have GW430 := n3_; have GE430 := n4_; have NB429_430 := n5_; have NB430_429 := n6_; clear n0_ n1_ n2_ n3_ n4_ n5_ n6_; clear hb hbox hg) | ((with_reducible refine gate_callee (f := 12) rfl ?_); refine goesL_ (some 11) rfl rfl Try.func12 (by kernel_rfl) rfl #[.int .i64 a2] rfl (by (try simp only [List.map_toArray, List.map_cons, List.map_nil]); first | done | rfl | (simp only [List.length_drop, List.length_take]; rfl)) ?_; (with_reducible refine (spec_Region.calls a2 t431 t432 _ A4.out).mono ?_); rintro e w' ⟨rfl, ⟨nd, rfl⟩⟩; refine ⟨_, rfl, ?_⟩; have hnb19 := NB429_430.out; have hnc19 := NB430_429.out; have hcz20_0 : w18.cell? ⟨gb429, 0, none⟩ = some (.slice A0_0 l0_0.length c0_0) := (blk_cell BK429.out 0).trans rfl; have hfz20_0 := blk_frozen BK429.out 0; have hcz21_0 : w18.cell? ⟨gb430, 0, none⟩ = some (.slice A1_0 l1_0.length c1_0) := (blk_cell BK430.out 0).trans rfl; have hcz21_1 : w18.cell? ⟨gb430, 1, none⟩ = some (.int .i64 a1_1) := (blk_cell BK430.out 1).trans rfl; have hfz21_0 := blk_frozen BK430.out 0; have hfz21_1 := blk_frozen BK430.out 1; have p434 : 0 ≤ (a1_1 : Int) := of_decide_eq_true (by first | (with_reducible assumption) | assumption); have q434 : a1_1 < (l0_0.length : Int) := of_decide_eq_true (by first | (with_reducible assumption) | assumption); obtain ⟨ad434, A434_0, c434_0, e434, hx434_0, hl434_0, hi434_0⟩ := at_L3 HR0_0.out a1_1 p434 q434; cases e434; replace hx434_0 := (HB.out.cell (World.block_lt_of_cell? w _ hx434_0)).trans hx434_0; have HR434_0 := Aside0.mk hi434_0; have HC434_0 := Aside0.mk hl434_0; clear hi434_0 hl434_0; replace p434 := eq_true p434; replace q434 := eq_true q434; have p435 : 0 ≤ (t432 : Int) := of_decide_eq_true (by first | (with_reducible assumption) | assumption); have q435 : t432 < ((rd_L3 l0_0 a1_1).length : Int) := of_decide_eq_true (by first | (with_reducible assumption) | assumption); obtain ⟨ad435, e435, hx435_0⟩ := Kd.at_int HR434_0.out t432 p435 q435; cases e435; replace hx435_0 := (HB.out.cell (World.block_lt_of_cell? w _ hx435_0)).trans hx435_0; replace p435 := eq_true p435; replace q435 := eq_true q435))
       go_ret
       exact ⟨by first | rfl | (simp [errW_none, errW_some] <;> rfl) | (simp [*, errW_none, errW_some] <;> rfl), by repeat (first | (with_reducible first | exact HB.out | apply below_alloc | apply pw_below_drewN | apply below_drew1 | refine below_set ?_ GE429.out | refine below_set ?_ GE430.out) | exact HB.out)⟩
      ·rw [if_neg c16] at H
       exact absurd H (by simp)
     ·rw [if_neg c15] at H
      exact absurd H (by simp)
    ·rw [if_neg c14] at H
     exact absurd H (by simp)
   ·rw [if_neg c13] at H
    exact absurd H (by simp)
  ·rw [if_neg c12] at H
   have c12b0 : (t431 == 5) = false := beq_eq_false_iff_ne.mpr c12
   have c12b1 : (t431 != 5) = true := bne_iff_ne.mpr c12
   by_cases c22 : t431 = 6
   ·rw [if_pos c22] at H
    have c22b0 : (t431 == 6) = true := beq_iff_eq.mpr c22
    have c22b1 : (t431 != 6) = false := bne_eq_false_iff_eq.mpr c22
    clear c22
    obtain ⟨ji23, hji23⟩ : ∃ j_ : Int, (wrap64 ((l0_0.length : Int) - 1)) = j_ := ⟨_, rfl⟩
    replace H : (if 0 ≤ (ji23) then (if (ji23) < (l0_0.length : Int) then (if 0 ≤ t432 then (if t432 < ((rd_L3 l0_0 (ji23)).length : Int) then (some (rd (rd_L3 l0_0 (ji23)) t432)) else (none)) else (none)) else (none)) else (none)) = some r := by first | (rw [hji23] at H; exact H) | (simp only [hji23] at H ⊢; exact H)
    (try rw [hji23] at A4)
    have hji23w : (IntKind.i64.wrap ((l0_0.length : Int) - 1)) = ji23 := (i64_w _).trans hji23
    by_cases c24 : 0 ≤ (ji23)
    ·rw [if_pos c24] at H
     have c24b0 : decide (0 ≤ (ji23)) = true := decide_eq_true c24
     clear c24
     by_cases c25 : (ji23) < (l0_0.length : Int)
     ·rw [if_pos c25] at H
      have c25b0 : decide ((ji23) < (l0_0.length : Int)) = true := decide_eq_true c25
      clear c25
      by_cases c26 : 0 ≤ t432
      ·rw [if_pos c26] at H
       have c26b0 : decide (0 ≤ t432) = true := decide_eq_true c26
       clear c26
       by_cases c27 : t432 < ((rd_L3 l0_0 (ji23)).length : Int)
       ·rw [if_pos c27] at H
        have c27b0 : decide (t432 < ((rd_L3 l0_0 (ji23)).length : Int)) = true := decide_eq_true c27
        clear c27
        obtain rfl := Option.some.inj H
        go_enter Try.func64, Try.ntmps64
        go_wp2_with (first | ((with_reducible refine gate_dst (N := 3) rfl ?_); refine box_event ?hg (N := 3) ?hd (cs := #[.slice A0_0 l0_0.length c0_0]) (t := 29) ?hr ?_; (case hd => rfl); (case hg => rfl); (case hr => first | (go_simp; done) | (go_simp; rfl)); intro gb429 hg w28 hbox hb; have n0_ := Aside0.mk (below_step (by repeat (first | (with_reducible first | exact HB.out | apply below_alloc | apply pw_below_drewN | apply below_drew1) | exact HB.out)) hb); have n1_ := Aside0.mk (hbox); have n2_ := Aside0.mk ((by rw [hg]; exact (below_size (by repeat (first | (with_reducible first | exact HB.out | apply below_alloc | apply pw_below_drewN | apply below_drew1) | exact HB.out))) : w.heap.size ≤ gb429)); have n3_ := Aside0.mk ((by rw [hg]; exact (below_size (by repeat (first | (with_reducible first | exact HB.out | apply below_alloc | apply pw_below_drewN | apply below_drew1) | exact HB.out))) : w.heap.size ≤ gb429)); clear HB; have HB := n0_; have BK429 := n1_; have GW429 := n2_; have GE429 := n3_; clear n0_ n1_ n2_ n3_; clear hb hbox hg) | ((with_reducible refine gate_dst (N := 4) rfl ?_); refine box_event ?hg (N := 4) ?hd (cs := #[.slice A1_0 l1_0.length c1_0, .int .i64 a1_1]) (t := 32) ?hr ?_; (case hd => rfl); (case hg => rfl); (case hr => first | (go_simp; done) | (go_simp; rfl)); intro gb430 hg w29 hbox hb; have n0_ := Aside0.mk (blk_below (g := gb429) (o := .cells #[.slice A0_0 l0_0.length c0_0] 29 (0, 0)) (by (with_reducible repeat (first | refine blk_drewN ?_ _ | refine blk_drew ?_ | refine blk_alloc ?_ _)); exact BK429.out) hb); have n1_ := Aside0.mk (below_step (by repeat (first | (with_reducible first | exact HB.out | apply below_alloc | apply pw_below_drewN | apply below_drew1 | refine below_set ?_ GE429.out) | exact HB.out)) hb); have n2_ := Aside0.mk (hbox); have n3_ := Aside0.mk ((by rw [hg]; exact (below_size (by repeat (first | (with_reducible first | exact HB.out | apply below_alloc | apply pw_below_drewN | apply below_drew1 | refine below_set ?_ GE429.out) | exact HB.out))) : w.heap.size ≤ gb430)); have n4_ := Aside0.mk ((by rw [hg]; exact (below_size (by repeat (first | (with_reducible first | exact HB.out | apply below_alloc | apply pw_below_drewN | apply below_drew1 | refine below_set ?_ GE429.out) | exact HB.out))) : w.heap.size ≤ gb430)); have n5_ := Aside0.mk ((by rw [hg]; exact Nat.ne_of_lt (blk_lt (g := gb429) (o := .cells #[.slice A0_0 l0_0.length c0_0] 29 (0, 0)) (by (with_reducible repeat (first | refine blk_drewN ?_ _ | refine blk_drew ?_ | refine blk_alloc ?_ _)); exact BK429.out)) : gb429 ≠ gb430)); have n6_ := Aside0.mk ((by rw [hg]; exact Nat.ne_of_gt (blk_lt (g := gb429) (o := .cells #[.slice A0_0 l0_0.length c0_0] 29 (0, 0)) (by (with_reducible repeat (first | refine blk_drewN ?_ _ | refine blk_drew ?_ | refine blk_alloc ?_ _)); exact BK429.out)) : gb430 ≠ gb429)); clear BK429; clear HB; have BK429 := n0_; have HB := n1_; have BK430 := n2_; have GW430 := n3_; have GE430 := n4_; have NB429_430 := n5_; have NB430_429 := n6_; clear n0_ n1_ n2_ n3_ n4_ n5_ n6_; clear hb hbox hg) | ((with_reducible refine gate_callee (f := 12) rfl ?_); refine goesL_ (some 11) rfl rfl Try.func12 (by kernel_rfl) rfl #[.int .i64 a2] rfl (by (try simp only [List.map_toArray, List.map_cons, List.map_nil]); first | done | rfl | (simp only [List.length_drop, List.length_take]; rfl)) ?_; (with_reducible refine (spec_Region.calls a2 t431 t432 _ A4.out).mono ?_); rintro e w' ⟨rfl, ⟨nd, rfl⟩⟩; refine ⟨_, rfl, ?_⟩; have hnb30 := NB429_430.out; have hnc30 := NB430_429.out; have hcz31_0 : w29.cell? ⟨gb429, 0, none⟩ = some (.slice A0_0 l0_0.length c0_0) := (blk_cell BK429.out 0).trans rfl; have hfz31_0 := blk_frozen BK429.out 0; have p436 : 0 ≤ ((ji23) : Int) := of_decide_eq_true (by first | (with_reducible assumption) | assumption); have q436 : (ji23) < (l0_0.length : Int) := of_decide_eq_true (by first | (with_reducible assumption) | assumption); obtain ⟨ad436, A436_0, c436_0, e436, hx436_0, hl436_0, hi436_0⟩ := at_L3 HR0_0.out (ji23) p436 q436; cases e436; replace hx436_0 := (HB.out.cell (World.block_lt_of_cell? w _ hx436_0)).trans hx436_0; have HR436_0 := Aside0.mk hi436_0; have HC436_0 := Aside0.mk hl436_0; clear hi436_0 hl436_0; replace p436 := eq_true p436; replace q436 := eq_true q436; have p437 : 0 ≤ (t432 : Int) := of_decide_eq_true (by first | (with_reducible assumption) | assumption); have q437 : t432 < ((rd_L3 l0_0 (ji23)).length : Int) := of_decide_eq_true (by first | (with_reducible assumption) | assumption); obtain ⟨ad437, e437, hx437_0⟩ := Kd.at_int HR436_0.out t432 p437 q437; cases e437; replace hx437_0 := (HB.out.cell (World.block_lt_of_cell? w _ hx437_0)).trans hx437_0; replace p437 := eq_true p437; replace q437 := eq_true q437))
        go_ret
        exact ⟨by first | rfl | (simp [errW_none, errW_some] <;> rfl) | (simp only [← hji23]; first | rfl | (simp [errW_none, errW_some] <;> rfl)) | (simp [*, errW_none, errW_some] <;> rfl), by repeat (first | (with_reducible first | exact HB.out | apply below_alloc | apply pw_below_drewN | apply below_drew1 | refine below_set ?_ GE429.out | refine below_set ?_ GE430.out) | exact HB.out)⟩
       ·rw [if_neg c27] at H
        exact absurd H (by simp)
      ·rw [if_neg c26] at H
       exact absurd H (by simp)
     ·rw [if_neg c25] at H
      exact absurd H (by simp)
    ·rw [if_neg c24] at H
     exact absurd H (by simp)
   ·rw [if_neg c22] at H
    have c22b0 : (t431 == 6) = false := beq_eq_false_iff_ne.mpr c22
    have c22b1 : (t431 != 6) = true := bne_iff_ne.mpr c22
    obtain rfl := Option.some.inj H
    go_enter Try.func64, Try.ntmps64
    go_wp2_with (first | ((with_reducible refine gate_dst (N := 3) rfl ?_); refine box_event ?hg (N := 3) ?hd (cs := #[.slice A0_0 l0_0.length c0_0]) (t := 29) ?hr ?_; (case hd => rfl); (case hg => rfl); (case hr => first | (go_simp; done) | (go_simp; rfl)); intro gb429 hg w32 hbox hb; have n0_ := Aside0.mk (below_step (by repeat (first | (with_reducible first | exact HB.out | apply below_alloc | apply pw_below_drewN | apply below_drew1) | exact HB.out)) hb); have n1_ := Aside0.mk (hbox); have n2_ := Aside0.mk ((by rw [hg]; exact (below_size (by repeat (first | (with_reducible first | exact HB.out | apply below_alloc | apply pw_below_drewN | apply below_drew1) | exact HB.out))) : w.heap.size ≤ gb429)); have n3_ := Aside0.mk ((by rw [hg]; exact (below_size (by repeat (first | (with_reducible first | exact HB.out | apply below_alloc | apply pw_below_drewN | apply below_drew1) | exact HB.out))) : w.heap.size ≤ gb429)); clear HB; have HB := n0_; have BK429 := n1_; have GW429 := n2_; have GE429 := n3_; clear n0_ n1_ n2_ n3_; clear hb hbox hg) | ((with_reducible refine gate_dst (N := 4) rfl ?_); refine box_event ?hg (N := 4) ?hd (cs := #[.slice A1_0 l1_0.length c1_0, .int .i64 a1_1]) (t := 32) ?hr ?_; (case hd => rfl); (case hg => rfl); (case hr => first | (go_simp; done) | (go_simp; rfl)); intro gb430 hg w33 hbox hb; have n0_ := Aside0.mk (blk_below (g := gb429) (o := .cells #[.slice A0_0 l0_0.length c0_0] 29 (0, 0)) (by (with_reducible repeat (first | refine blk_drewN ?_ _ | refine blk_drew ?_ | refine blk_alloc ?_ _)); exact BK429.out) hb); have n1_ := Aside0.mk (below_step (by repeat (first | (with_reducible first | exact HB.out | apply below_alloc | apply pw_below_drewN | apply below_drew1 | refine below_set ?_ GE429.out) | exact HB.out)) hb); have n2_ := Aside0.mk (hbox); have n3_ := Aside0.mk ((by rw [hg]; exact (below_size (by repeat (first | (with_reducible first | exact HB.out | apply below_alloc | apply pw_below_drewN | apply below_drew1 | refine below_set ?_ GE429.out) | exact HB.out))) : w.heap.size ≤ gb430)); have n4_ := Aside0.mk ((by rw [hg]; exact (below_size (by repeat (first | (with_reducible first | exact HB.out | apply below_alloc | apply pw_below_drewN | apply below_drew1 | refine below_set ?_ GE429.out) | exact HB.out))) : w.heap.size ≤ gb430)); have n5_ := Aside0.mk ((by rw [hg]; exact Nat.ne_of_lt (blk_lt (g := gb429) (o := .cells #[.slice A0_0 l0_0.length c0_0] 29 (0, 0)) (by (with_reducible repeat (first | refine blk_drewN ?_ _ | refine blk_drew ?_ | refine blk_alloc ?_ _)); exact BK429.out)) : gb429 ≠ gb430)); have n6_ := Aside0.mk ((by rw [hg]; exact Nat.ne_of_gt (blk_lt (g := gb429) (o := .cells #[.slice A0_0 l0_0.length c0_0] 29 (0, 0)) (by (with_reducible repeat (first | refine blk_drewN ?_ _ | refine blk_drew ?_ | refine blk_alloc ?_ _)); exact BK429.out)) : gb430 ≠ gb429)); clear BK429; clear HB; have BK429 := n0_; have HB := n1_; have BK430 := n2_; have GW430 := n3_; have GE430 := n4_; have NB429_430 := n5_; have NB430_429 := n6_; clear n0_ n1_ n2_ n3_ n4_ n5_ n6_; clear hb hbox hg) | ((with_reducible refine gate_callee (f := 12) rfl ?_); refine goesL_ (some 11) rfl rfl Try.func12 (by kernel_rfl) rfl #[.int .i64 a2] rfl (by (try simp only [List.map_toArray, List.map_cons, List.map_nil]); first | done | rfl | (simp only [List.length_drop, List.length_take]; rfl)) ?_; (with_reducible refine (spec_Region.calls a2 t431 t432 _ A4.out).mono ?_); rintro e w' ⟨rfl, ⟨nd, rfl⟩⟩; refine ⟨_, rfl, ?_⟩))
    go_ret
    exact ⟨by first | rfl | (simp [errW_none, errW_some] <;> rfl) | (simp [*, errW_none, errW_some] <;> rfl), by repeat (first | (with_reducible first | exact HB.out | apply below_alloc | apply pw_below_drewN | apply below_drew1 | refine below_set ?_ GE429.out | refine below_set ?_ GE430.out) | exact HB.out)⟩

/-! ### spec_Peek: function 15 -/
def spec_Peek.f (k : Nat) (l0_0 : List (List Int)) (l1_0 : List Int) (a1_1 : Int) (a2 : Int) : Option (Int) := (spec_MemOk.f k l0_0 l1_0 a1_1).bind fun t440 => (if t440 = true then ((spec_l6Peek.f l0_0 l1_0 a1_1 a2).bind fun t441 => (some t441)) else (some 0))
theorem spec_Peek.mono : ∀ a0 a1 a2 a3 k, LeO (spec_Peek.f k a0 a1 a2 a3) (spec_Peek.f (k + 1) a0 a1 a2 a3) := by
 intro a0 a1 a2 a3 k
 unfold spec_Peek.f
 repeat' first
   | (with_reducible exact spec_MemOk.mono _ _ _ _)
   | (with_reducible exact LeO.refl _)
   | (with_reducible exact LeO.none _)
   | (with_reducible refine LeO.ite ?_ ?_)
   | (with_reducible refine LeO.bind ?_ (fun _ => ?_))
   | exact spec_MemOk.mono _ _ _ _
   | exact LeO.none _
   | refine LeO.ite ?_ ?_
   | refine LeO.bind ?_ (fun _ => ?_)
set_option maxHeartbeats 8000000 in
set_option maxRecDepth 100000 in
theorem spec_Peek.calls (k : Nat) (A0_0 : Option Addr) (c0_0 : Nat) (l0_0 : List (List Int)) (A1_0 : Option Addr) (c1_0 : Nat) (l1_0 : List Int) (a1_1 : Int) (a2 : Int) (r : Int) (w : World) (hr0_0 : Kd.C (Kd.slice 3 (Kd.int .i64)) w A0_0 l0_0.length l0_0) (hc0_0 : l0_0.length ≤ c0_0) (hr1_0 : Kd.C (Kd.int .i64) w A1_0 l1_0.length l1_0) (hc1_0 : l1_0.length ≤ c1_0) (h : spec_Peek.f k l0_0 l1_0 a1_1 a2 = some r) :
  Calls Try.prog 15 #[.agg #[.slice A0_0 l0_0.length c0_0], .agg #[.slice A1_0 l1_0.length c1_0, .int .i64 a1_1], .int .i64 a2] w fun e w' => e = .returned (.int .i64 r) ∧ Below w.heap.size w w' := by
 have hu29 := Try.underlying29
 have hu32 := Try.underlying32
 have HR0_0 := Aside0.mk hr0_0
 have HC0_0 := Aside0.mk hc0_0
 clear hr0_0 hc0_0
 have HR1_0 := Aside0.mk hr1_0
 have HC1_0 := Aside0.mk hc1_0
 clear hr1_0 hc1_0
 have HB := Aside0.mk (Below.refl w.heap.size w)
 have H : ((spec_MemOk.f k l0_0 l1_0 a1_1).bind fun t440 => (if t440 = true then ((spec_l6Peek.f l0_0 l1_0 a1_1 a2).bind fun t441 => (some t441)) else (some 0))) = some r := h
 clear h
 replace H := Option.bind_eq_some_iff.mp H
 obtain ⟨t440, A40, H⟩ := H
 replace H : (if t440 = true then ((spec_l6Peek.f l0_0 l1_0 a1_1 a2).bind fun t441 => (some t441)) else (some 0)) = some r := H
 have A4 := Aside0.mk A40
 clear A40
 by_cases c5 : t440 = true
 ·subst c5
  have H1 : ((spec_l6Peek.f l0_0 l1_0 a1_1 a2).bind fun t441 => (some t441)) = some r := by rw [if_pos rfl] at H; exact H
  clear H
  have H := H1
  clear H1
  replace H := Option.bind_eq_some_iff.mp H
  obtain ⟨t441, A60, H⟩ := H
  replace H : (some t441) = some r := H
  have A6 := Aside0.mk A60
  clear A60
  obtain rfl := Option.some.inj H
  go_enter Try.func15, Try.ntmps15
  go_wp2_with (first | ((with_reducible refine gate_dst (N := 3) rfl ?_); refine box_event ?hg (N := 3) ?hd (cs := #[.slice A0_0 l0_0.length c0_0]) (t := 29) ?hr ?_; (case hd => rfl); (case hg => rfl); (case hr => first | (go_simp; done) | (go_simp; rfl)); intro gb438 hg w7 hbox hb; have n0_ := Aside0.mk (below_step (by repeat (first | (with_reducible first | exact HB.out | apply below_alloc | apply pw_below_drewN | apply below_drew1) | exact HB.out)) hb); have n1_ := Aside0.mk (hbox); have n2_ := Aside0.mk ((by rw [hg]; exact (below_size (by repeat (first | (with_reducible first | exact HB.out | apply below_alloc | apply pw_below_drewN | apply below_drew1) | exact HB.out))) : w.heap.size ≤ gb438)); have n3_ := Aside0.mk ((by rw [hg]; exact (below_size (by repeat (first | (with_reducible first | exact HB.out | apply below_alloc | apply pw_below_drewN | apply below_drew1) | exact HB.out))) : w.heap.size ≤ gb438)); clear HB; have HB := n0_; have BK438 := n1_; have GW438 := n2_; have GE438 := n3_; clear n0_ n1_ n2_ n3_; clear hb hbox hg) | ((with_reducible refine gate_dst (N := 4) rfl ?_); refine box_event ?hg (N := 4) ?hd (cs := #[.slice A1_0 l1_0.length c1_0, .int .i64 a1_1]) (t := 32) ?hr ?_; (case hd => rfl); (case hg => rfl); (case hr => first | (go_simp; done) | (go_simp; rfl)); intro gb439 hg w8 hbox hb; have n0_ := Aside0.mk (blk_below (g := gb438) (o := .cells #[.slice A0_0 l0_0.length c0_0] 29 (0, 0)) (by (with_reducible repeat (first | refine blk_drewN ?_ _ | refine blk_drew ?_ | refine blk_alloc ?_ _)); exact BK438.out) hb); have n1_ := Aside0.mk (below_step (by repeat (first | (with_reducible first | exact HB.out | apply below_alloc | apply pw_below_drewN | apply below_drew1 | refine below_set ?_ GE438.out) | exact HB.out)) hb); have n2_ := Aside0.mk (hbox); have n3_ := Aside0.mk ((by rw [hg]; exact (below_size (by repeat (first | (with_reducible first | exact HB.out | apply below_alloc | apply pw_below_drewN | apply below_drew1 | refine below_set ?_ GE438.out) | exact HB.out))) : w.heap.size ≤ gb439)); have n4_ := Aside0.mk ((by rw [hg]; exact (below_size (by repeat (first | (with_reducible first | exact HB.out | apply below_alloc | apply pw_below_drewN | apply below_drew1 | refine below_set ?_ GE438.out) | exact HB.out))) : w.heap.size ≤ gb439)); have n5_ := Aside0.mk ((by rw [hg]; exact Nat.ne_of_lt (blk_lt (g := gb438) (o := .cells #[.slice A0_0 l0_0.length c0_0] 29 (0, 0)) (by (with_reducible repeat (first | refine blk_drewN ?_ _ | refine blk_drew ?_ | refine blk_alloc ?_ _)); exact BK438.out)) : gb438 ≠ gb439)); have n6_ := Aside0.mk ((by rw [hg]; exact Nat.ne_of_gt (blk_lt (g := gb438) (o := .cells #[.slice A0_0 l0_0.length c0_0] 29 (0, 0)) (by (with_reducible repeat (first | refine blk_drewN ?_ _ | refine blk_drew ?_ | refine blk_alloc ?_ _)); exact BK438.out)) : gb439 ≠ gb438)); clear BK438; clear HB; have BK438 := n0_; have HB := n1_; have BK439 := n2_; have GW439 := n3_; have GE439 := n4_; have NB438_439 := n5_; have NB439_438 := n6_; clear n0_ n1_ n2_ n3_ n4_ n5_ n6_; clear hb hbox hg; have hnb9 := NB438_439.out; have hnc9 := NB439_438.out; have hcz10_0 : w8.cell? ⟨gb438, 0, none⟩ = some (.slice A0_0 l0_0.length c0_0) := (blk_cell BK438.out 0).trans rfl; have hfz10_0 := blk_frozen BK438.out 0; have hcz11_0 : w8.cell? ⟨gb439, 0, none⟩ = some (.slice A1_0 l1_0.length c1_0) := (blk_cell BK439.out 0).trans rfl; have hcz11_1 : w8.cell? ⟨gb439, 1, none⟩ = some (.int .i64 a1_1) := (blk_cell BK439.out 1).trans rfl; have hfz11_0 := blk_frozen BK439.out 0; have hfz11_1 := blk_frozen BK439.out 1) | ((with_reducible refine gate_callee (f := 33) rfl ?_); refine goesL_ (some 9) rfl rfl Try.func33 (by kernel_rfl) rfl #[.agg #[.slice A0_0 l0_0.length c0_0], .agg #[.slice A1_0 l1_0.length c1_0, .int .i64 a1_1]] rfl (by (try simp only [List.map_toArray, List.map_cons, List.map_nil]); first | done | rfl | (simp only [List.length_drop, List.length_take]; rfl)) ?_; (with_reducible refine (spec_MemOk.calls k _ _ l0_0 _ _ l1_0 a1_1 true _ ?side1 ?side2 ?side3 ?side4 A4.out).mono ?_); (case side1 => repeat (first | exact (Kd.C_below HR0_0.out HB.out) | (with_reducible refine Kd.C_alloc ?_ _) | (with_reducible refine Kd.C_drewN ?_ _) | (with_reducible refine Kd.C_drew ?_))); (case side2 => exact HC0_0.out); (case side3 => repeat (first | exact (Kd.C_below HR1_0.out HB.out) | (with_reducible refine Kd.C_alloc ?_ _) | (with_reducible refine Kd.C_drewN ?_ _) | (with_reducible refine Kd.C_drew ?_))); (case side4 => exact HC1_0.out); rintro e w12 ⟨rfl, hb⟩; refine ⟨_, rfl, ?_⟩; have n0_ := Aside0.mk (blk_below (g := gb438) (o := .cells #[.slice A0_0 l0_0.length c0_0] 29 (0, 0)) (by (with_reducible repeat (first | refine blk_drewN ?_ _ | refine blk_drew ?_ | refine blk_alloc ?_ _)); exact BK438.out) hb); have n1_ := Aside0.mk (blk_below (g := gb439) (o := .cells #[.slice A1_0 l1_0.length c1_0, .int .i64 a1_1] 32 (0, 0)) (by (with_reducible repeat (first | refine blk_drewN ?_ _ | refine blk_drew ?_ | refine blk_alloc ?_ _)); exact BK439.out) hb); have n2_ := Aside0.mk (below_step (by repeat (first | (with_reducible first | exact HB.out | apply below_alloc | apply pw_below_drewN | apply below_drew1 | refine below_set ?_ GE438.out | refine below_set ?_ GE439.out) | exact HB.out)) hb); clear BK438; clear BK439; clear HB; have BK438 := n0_; have BK439 := n1_; have HB := n2_; clear n0_ n1_ n2_; (try clear hb); (try clear hb2); (try clear hk); (try clear hi); have hcz13_0 : w12.cell? ⟨gb438, 0, none⟩ = some (.slice A0_0 l0_0.length c0_0) := (blk_cell BK438.out 0).trans rfl; have hfz13_0 := blk_frozen BK438.out 0; have hcz14_0 : w12.cell? ⟨gb439, 0, none⟩ = some (.slice A1_0 l1_0.length c1_0) := (blk_cell BK439.out 0).trans rfl; have hcz14_1 : w12.cell? ⟨gb439, 1, none⟩ = some (.int .i64 a1_1) := (blk_cell BK439.out 1).trans rfl; have hfz14_0 := blk_frozen BK439.out 0; have hfz14_1 := blk_frozen BK439.out 1) | ((with_reducible refine gate_callee (f := 64) rfl ?_); refine goesL_ (some 14) rfl rfl Try.func64 (by kernel_rfl) rfl #[.agg #[.slice A0_0 l0_0.length c0_0], .agg #[.slice A1_0 l1_0.length c1_0, .int .i64 a1_1], .int .i64 a2] rfl (by (try simp only [List.map_toArray, List.map_cons, List.map_nil]); first | done | rfl | (simp only [List.length_drop, List.length_take]; rfl)) ?_; (with_reducible refine (spec_l6Peek.calls _ _ l0_0 _ _ l1_0 a1_1 a2 t441 _ ?side1 ?side2 ?side3 ?side4 A6.out).mono ?_); (case side1 => repeat (first | exact (Kd.C_below HR0_0.out HB.out) | (with_reducible refine Kd.C_alloc ?_ _) | (with_reducible refine Kd.C_drewN ?_ _) | (with_reducible refine Kd.C_drew ?_))); (case side2 => exact HC0_0.out); (case side3 => repeat (first | exact (Kd.C_below HR1_0.out HB.out) | (with_reducible refine Kd.C_alloc ?_ _) | (with_reducible refine Kd.C_drewN ?_ _) | (with_reducible refine Kd.C_drew ?_))); (case side4 => exact HC1_0.out); rintro e w15 ⟨rfl, hb⟩; refine ⟨_, rfl, ?_⟩; have n0_ := Aside0.mk (blk_below (g := gb438) (o := .cells #[.slice A0_0 l0_0.length c0_0] 29 (0, 0)) (by (with_reducible repeat (first | refine blk_drewN ?_ _ | refine blk_drew ?_ | refine blk_alloc ?_ _)); exact BK438.out) hb); have n1_ := Aside0.mk (blk_below (g := gb439) (o := .cells #[.slice A1_0 l1_0.length c1_0, .int .i64 a1_1] 32 (0, 0)) (by (with_reducible repeat (first | refine blk_drewN ?_ _ | refine blk_drew ?_ | refine blk_alloc ?_ _)); exact BK439.out) hb); have n2_ := Aside0.mk (below_step (by repeat (first | (with_reducible first | exact HB.out | apply below_alloc | apply pw_below_drewN | apply below_drew1 | refine below_set ?_ GE438.out | refine below_set ?_ GE439.out) | exact HB.out)) hb); clear BK438; clear BK439; clear HB; have BK438 := n0_; have BK439 := n1_; have HB := n2_; clear n0_ n1_ n2_; (try clear hb); (try clear hb2); (try clear hk); (try clear hi)))
  go_ret
  exact ⟨by first | rfl | (simp [errW_none, errW_some] <;> rfl) | (simp [*, errW_none, errW_some] <;> rfl), by repeat (first | (with_reducible first | exact HB.out | apply below_alloc | apply pw_below_drewN | apply below_drew1 | refine below_set ?_ GE438.out | refine below_set ?_ GE439.out) | exact HB.out)⟩
 ·replace c5 := Bool.eq_false_iff.mpr c5
  subst c5
  have H1 : (some 0) = some r := by rw [if_neg (show ¬ (false = true) by decide)] at H; exact H
  clear H
  have H := H1
  clear H1
  obtain rfl := Option.some.inj H
  go_enter Try.func15, Try.ntmps15
  go_wp2_with (first | ((with_reducible refine gate_dst (N := 3) rfl ?_); refine box_event ?hg (N := 3) ?hd (cs := #[.slice A0_0 l0_0.length c0_0]) (t := 29) ?hr ?_; (case hd => rfl); (case hg => rfl); (case hr => first | (go_simp; done) | (go_simp; rfl)); intro gb438 hg w16 hbox hb; have n0_ := Aside0.mk (below_step (by repeat (first | (with_reducible first | exact HB.out | apply below_alloc | apply pw_below_drewN | apply below_drew1) | exact HB.out)) hb); have n1_ := Aside0.mk (hbox); have n2_ := Aside0.mk ((by rw [hg]; exact (below_size (by repeat (first | (with_reducible first | exact HB.out | apply below_alloc | apply pw_below_drewN | apply below_drew1) | exact HB.out))) : w.heap.size ≤ gb438)); have n3_ := Aside0.mk ((by rw [hg]; exact (below_size (by repeat (first | (with_reducible first | exact HB.out | apply below_alloc | apply pw_below_drewN | apply below_drew1) | exact HB.out))) : w.heap.size ≤ gb438)); clear HB; have HB := n0_; have BK438 := n1_; have GW438 := n2_; have GE438 := n3_; clear n0_ n1_ n2_ n3_; clear hb hbox hg) | ((with_reducible refine gate_dst (N := 4) rfl ?_); refine box_event ?hg (N := 4) ?hd (cs := #[.slice A1_0 l1_0.length c1_0, .int .i64 a1_1]) (t := 32) ?hr ?_; (case hd => rfl); (case hg => rfl); (case hr => first | (go_simp; done) | (go_simp; rfl)); intro gb439 hg w17 hbox hb; have n0_ := Aside0.mk (blk_below (g := gb438) (o := .cells #[.slice A0_0 l0_0.length c0_0] 29 (0, 0)) (by (with_reducible repeat (first | refine blk_drewN ?_ _ | refine blk_drew ?_ | refine blk_alloc ?_ _)); exact BK438.out) hb); have n1_ := Aside0.mk (below_step (by repeat (first | (with_reducible first | exact HB.out | apply below_alloc | apply pw_below_drewN | apply below_drew1 | refine below_set ?_ GE438.out) | exact HB.out)) hb); have n2_ := Aside0.mk (hbox); have n3_ := Aside0.mk ((by rw [hg]; exact (below_size (by repeat (first | (with_reducible first | exact HB.out | apply below_alloc | apply pw_below_drewN | apply below_drew1 | refine below_set ?_ GE438.out) | exact HB.out))) : w.heap.size ≤ gb439)); have n4_ := Aside0.mk ((by rw [hg]; exact (below_size (by repeat (first | (with_reducible first | exact HB.out | apply below_alloc | apply pw_below_drewN | apply below_drew1 | refine below_set ?_ GE438.out) | exact HB.out))) : w.heap.size ≤ gb439)); have n5_ := Aside0.mk ((by rw [hg]; exact Nat.ne_of_lt (blk_lt (g := gb438) (o := .cells #[.slice A0_0 l0_0.length c0_0] 29 (0, 0)) (by (with_reducible repeat (first | refine blk_drewN ?_ _ | refine blk_drew ?_ | refine blk_alloc ?_ _)); exact BK438.out)) : gb438 ≠ gb439)); have n6_ := Aside0.mk ((by rw [hg]; exact Nat.ne_of_gt (blk_lt (g := gb438) (o := .cells #[.slice A0_0 l0_0.length c0_0] 29 (0, 0)) (by (with_reducible repeat (first | refine blk_drewN ?_ _ | refine blk_drew ?_ | refine blk_alloc ?_ _)); exact BK438.out)) : gb439 ≠ gb438)); clear BK438; clear HB; have BK438 := n0_; have HB := n1_; have BK439 := n2_; have GW439 := n3_; have GE439 := n4_; have NB438_439 := n5_; have NB439_438 := n6_; clear n0_ n1_ n2_ n3_ n4_ n5_ n6_; clear hb hbox hg; have hnb18 := NB438_439.out; have hnc18 := NB439_438.out; have hcz19_0 : w17.cell? ⟨gb438, 0, none⟩ = some (.slice A0_0 l0_0.length c0_0) := (blk_cell BK438.out 0).trans rfl; have hfz19_0 := blk_frozen BK438.out 0; have hcz20_0 : w17.cell? ⟨gb439, 0, none⟩ = some (.slice A1_0 l1_0.length c1_0) := (blk_cell BK439.out 0).trans rfl; have hcz20_1 : w17.cell? ⟨gb439, 1, none⟩ = some (.int .i64 a1_1) := (blk_cell BK439.out 1).trans rfl; have hfz20_0 := blk_frozen BK439.out 0; have hfz20_1 := blk_frozen BK439.out 1) | ((with_reducible refine gate_callee (f := 33) rfl ?_); refine goesL_ (some 9) rfl rfl Try.func33 (by kernel_rfl) rfl #[.agg #[.slice A0_0 l0_0.length c0_0], .agg #[.slice A1_0 l1_0.length c1_0, .int .i64 a1_1]] rfl (by (try simp only [List.map_toArray, List.map_cons, List.map_nil]); first | done | rfl | (simp only [List.length_drop, List.length_take]; rfl)) ?_; (with_reducible refine (spec_MemOk.calls k _ _ l0_0 _ _ l1_0 a1_1 false _ ?side1 ?side2 ?side3 ?side4 A4.out).mono ?_); (case side1 => repeat (first | exact (Kd.C_below HR0_0.out HB.out) | (with_reducible refine Kd.C_alloc ?_ _) | (with_reducible refine Kd.C_drewN ?_ _) | (with_reducible refine Kd.C_drew ?_))); (case side2 => exact HC0_0.out); (case side3 => repeat (first | exact (Kd.C_below HR1_0.out HB.out) | (with_reducible refine Kd.C_alloc ?_ _) | (with_reducible refine Kd.C_drewN ?_ _) | (with_reducible refine Kd.C_drew ?_))); (case side4 => exact HC1_0.out); rintro e w21 ⟨rfl, hb⟩; refine ⟨_, rfl, ?_⟩; have n0_ := Aside0.mk (blk_below (g := gb438) (o := .cells #[.slice A0_0 l0_0.length c0_0] 29 (0, 0)) (by (with_reducible repeat (first | refine blk_drewN ?_ _ | refine blk_drew ?_ | refine blk_alloc ?_ _)); exact BK438.out) hb); have n1_ := Aside0.mk (blk_below (g := gb439) (o := .cells #[.slice A1_0 l1_0.length c1_0, .int .i64 a1_1] 32 (0, 0)) (by (with_reducible repeat (first | refine blk_drewN ?_ _ | refine blk_drew ?_ | refine blk_alloc ?_ _)); exact BK439.out) hb); have n2_ := Aside0.mk (below_step (by repeat (first | (with_reducible first | exact HB.out | apply below_alloc | apply pw_below_drewN | apply below_drew1 | refine below_set ?_ GE438.out | refine below_set ?_ GE439.out) | exact HB.out)) hb); clear BK438; clear BK439; clear HB; have BK438 := n0_; have BK439 := n1_; have HB := n2_; clear n0_ n1_ n2_; (try clear hb); (try clear hb2); (try clear hk); (try clear hi)))
  go_ret
  exact ⟨by first | rfl | (simp [errW_none, errW_some] <;> rfl) | (simp [*, errW_none, errW_some] <;> rfl), by repeat (first | (with_reducible first | exact HB.out | apply below_alloc | apply pw_below_drewN | apply below_drew1 | refine below_set ?_ GE438.out | refine below_set ?_ GE439.out) | exact HB.out)⟩

/-! ### laws_FnRegions: function 3 -/
def laws_FnRegions.j0 : Nat → List Int → Int → Int → Int → Bool → Option (Bool)
 | 0, _, _, _, _, _ => none
 | k + 1, x0, x3, x4, x5, x34 => if x34 = true then (some false) else ((spec_DrawPeek.f k x0).bind fun bt448 => ((impl_Peek.f k bt448.1 bt448.2.1 bt448.2.2.1 bt448.2.2.2).bind fun t458 => ((spec_Peek.f k bt448.1 bt448.2.1 bt448.2.2.1 bt448.2.2.2).bind fun t459 => (if t458 = t459 then ((impl_Region.f (wrap64 (x3 + 65536))).bind fun bt460 => (if x4 ≥ 1 then (if x4 ≤ 7 then (if x5 ≥ 0 then (if x5 < 512 then (if bt460.1 = x4 then (if x4 = 5 then (some (decide (x5 < 256))) else (if x4 = 6 then (some (decide (x5 < 256))) else (some true))) else (some false)) else (some false)) else (some false)) else (some false)) else (some false))) else (some false)))))
def laws_FnRegions.f (k : Nat) (l0 : List Int) : Option (Bool) := (laws_big.f l0).bind fun t442 => (if t442 = true then (some true) else ((spec_DrawRegion.f k l0).bind fun t443 => ((impl_Region.f t443).bind fun bt444 => ((spec_Region.f t443).bind fun bt446 => (if bt444.1 = bt446.1 then (laws_FnRegions.j0 k l0 t443 bt444.1 bt444.2 (bt444.2 != bt446.2)) else (laws_FnRegions.j0 k l0 t443 bt444.1 bt444.2 true))))))
theorem laws_FnRegions.mono_l : ∀ k, (∀ y0 y1 y2 y3 y4, LeO (laws_FnRegions.j0 k y0 y1 y2 y3 y4) (laws_FnRegions.j0 (k + 1) y0 y1 y2 y3 y4))
 | 0 => fun _ _ _ _ _ r h => by simp [laws_FnRegions.j0] at h
 | k + 1 => by
  have ih0 := laws_FnRegions.mono_l k
  ·intro y0 y1 y2 y3 y4
   unfold laws_FnRegions.j0
   repeat' first
   | (with_reducible exact ih0 _ _ _ _ _)
   | (with_reducible exact impl_Peek.mono _ _ _ _ _)
   | (with_reducible exact spec_DrawPeek.mono _ _)
   | (with_reducible exact spec_DrawRegion.mono _ _)
   | (with_reducible exact spec_Peek.mono _ _ _ _ _)
   | (with_reducible exact LeO.refl _)
   | (with_reducible exact LeO.none _)
   | (with_reducible refine LeO.ite ?_ ?_)
   | (with_reducible refine LeO.bind ?_ (fun _ => ?_))
   | exact ih0 _ _ _ _ _
   | exact impl_Peek.mono _ _ _ _ _
   | exact spec_DrawPeek.mono _ _
   | exact spec_DrawRegion.mono _ _
   | exact spec_Peek.mono _ _ _ _ _
   | exact LeO.none _
   | refine LeO.ite ?_ ?_
   | refine LeO.bind ?_ (fun _ => ?_)
theorem laws_FnRegions.mono : ∀ a0 k, LeO (laws_FnRegions.f k a0) (laws_FnRegions.f (k + 1) a0) := by
 intro a0 k
 have ih0 := laws_FnRegions.mono_l k
 unfold laws_FnRegions.f
 repeat' first
   | (with_reducible exact ih0 _ _ _ _ _)
   | (with_reducible exact impl_Peek.mono _ _ _ _ _)
   | (with_reducible exact spec_DrawPeek.mono _ _)
   | (with_reducible exact spec_DrawRegion.mono _ _)
   | (with_reducible exact spec_Peek.mono _ _ _ _ _)
   | (with_reducible exact LeO.refl _)
   | (with_reducible exact LeO.none _)
   | (with_reducible refine LeO.ite ?_ ?_)
   | (with_reducible refine LeO.bind ?_ (fun _ => ?_))
   | exact ih0 _ _ _ _ _
   | exact impl_Peek.mono _ _ _ _ _
   | exact spec_DrawPeek.mono _ _
   | exact spec_DrawRegion.mono _ _
   | exact spec_Peek.mono _ _ _ _ _
   | exact LeO.none _
   | refine LeO.ite ?_ ?_
   | refine LeO.bind ?_ (fun _ => ?_)
def laws_FnRegions.T9 : Bool × List (List Nat × List Nat) := (true, [([], []), ([], []), ([], []), ([0, 1, 2], [0, 1, 2]), ([], []), ([], []), ([], []), ([4, 5, 6, 3], [4, 5, 6]), ([3, 7], [3, 7])])
def laws_FnRegions.B9 : List Nat := [0, 0, 0, 7, 0, 0, 0, 127, 255]
theorem laws_FnRegions.tab9 : rtab .any (opsOf Try.f3 9) = laws_FnRegions.T9 := by kernel_rfl
theorem laws_FnRegions.bits9 : waitsOk laws_FnRegions.T9.2 laws_FnRegions.B9 = true := by kernel_rfl
set_option maxHeartbeats 8000000 in
set_option maxRecDepth 100000 in
theorem laws_FnRegions.calls (k : Nat) (A0 : Option Addr) (c0 : Nat) (l0 : List Int) (r : Bool) (w : World) (hr0 : Kd.C (Kd.int .u8) w A0 l0.length l0) (hc0 : l0.length ≤ c0) (h : laws_FnRegions.f k l0 = some r) (hrt : r = true) :
  Calls Try.prog 3 #[.slice A0 l0.length c0] w fun e w' => e = .returned (.bool r) ∧ Below w.heap.size w w' := by
 have hu29 := Try.underlying29
 have hu32 := Try.underlying32
 have HR0 := Aside0.mk hr0
 have HC0 := Aside0.mk hc0
 clear hr0 hc0
 have HB := Aside0.mk (Below.refl w.heap.size w)
 have H : ((laws_big.f l0).bind fun t442 => (if t442 = true then (some true) else ((spec_DrawRegion.f k l0).bind fun t443 => ((impl_Region.f t443).bind fun bt444 => ((spec_Region.f t443).bind fun bt446 => (if bt444.1 = bt446.1 then (laws_FnRegions.j0 k l0 t443 bt444.1 bt444.2 (bt444.2 != bt446.2)) else (laws_FnRegions.j0 k l0 t443 bt444.1 bt444.2 true))))))) = some r := h
 clear h
 replace H := Option.bind_eq_some_iff.mp H
 obtain ⟨t442, A20, H⟩ := H
 replace H : (if t442 = true then (some true) else ((spec_DrawRegion.f k l0).bind fun t443 => ((impl_Region.f t443).bind fun bt444 => ((spec_Region.f t443).bind fun bt446 => (if bt444.1 = bt446.1 then (laws_FnRegions.j0 k l0 t443 bt444.1 bt444.2 (bt444.2 != bt446.2)) else (laws_FnRegions.j0 k l0 t443 bt444.1 bt444.2 true)))))) = some r := H
 have A2 := Aside0.mk A20
 clear A20
 by_cases c3 : t442 = true
 ·subst c3
  have H1 : (some true) = some r := by rw [if_pos rfl] at H; exact H
  clear H
  have H := H1
  clear H1
  obtain rfl := Option.some.inj H
  go_enter Try.func3, Try.ntmps3
  go_wp2_with (first | ((with_reducible refine gate_callee (f := 9) rfl ?_); refine goesL_ (some 14) rfl rfl Try.func9 (by kernel_rfl) rfl #[.slice A0 l0.length c0] rfl (by (try simp only [List.map_toArray, List.map_cons, List.map_nil]); first | done | rfl | (simp only [List.length_drop, List.length_take]; rfl)) ?_; (with_reducible refine (laws_big.calls _ _ l0 true _ ?side1 ?side2 A2.out).mono ?_); (case side1 => repeat (first | exact HR0.out | (with_reducible refine Kd.C_alloc ?_ _) | (with_reducible refine Kd.C_drewN ?_ _) | (with_reducible refine Kd.C_drew ?_))); (case side2 => exact HC0.out); rintro e w' ⟨rfl, ⟨nd, rfl⟩⟩; refine ⟨_, rfl, ?_⟩))
  go_ret
  exact ⟨by first | rfl | (simp [errW_none, errW_some] <;> rfl) | (simp [*, errW_none, errW_some] <;> rfl), by repeat (first | (with_reducible first | exact HB.out | apply below_alloc | apply pw_below_drewN | apply below_drew1) | exact HB.out)⟩
 ·replace c3 := Bool.eq_false_iff.mpr c3
  subst c3
  have H1 : ((spec_DrawRegion.f k l0).bind fun t443 => ((impl_Region.f t443).bind fun bt444 => ((spec_Region.f t443).bind fun bt446 => (if bt444.1 = bt446.1 then (laws_FnRegions.j0 k l0 t443 bt444.1 bt444.2 (bt444.2 != bt446.2)) else (laws_FnRegions.j0 k l0 t443 bt444.1 bt444.2 true))))) = some r := by rw [if_neg (show ¬ (false = true) by decide)] at H; exact H
  clear H
  have H := H1
  clear H1
  replace H := Option.bind_eq_some_iff.mp H
  obtain ⟨t443, A40, H⟩ := H
  replace H : ((impl_Region.f t443).bind fun bt444 => ((spec_Region.f t443).bind fun bt446 => (if bt444.1 = bt446.1 then (laws_FnRegions.j0 k l0 t443 bt444.1 bt444.2 (bt444.2 != bt446.2)) else (laws_FnRegions.j0 k l0 t443 bt444.1 bt444.2 true)))) = some r := H
  have A4 := Aside0.mk A40
  clear A40
  replace H := Option.bind_eq_some_iff.mp H
  obtain ⟨⟨t444, t445⟩, A50, H⟩ := H
  replace H : ((spec_Region.f t443).bind fun bt446 => (if t444 = bt446.1 then (laws_FnRegions.j0 k l0 t443 t444 t445 (t445 != bt446.2)) else (laws_FnRegions.j0 k l0 t443 t444 t445 true))) = some r := H
  have A5 := Aside0.mk A50
  clear A50
  replace H := Option.bind_eq_some_iff.mp H
  obtain ⟨⟨t446, t447⟩, A60, H⟩ := H
  replace H : (if t444 = t446 then (laws_FnRegions.j0 k l0 t443 t444 t445 (t445 != t447)) else (laws_FnRegions.j0 k l0 t443 t444 t445 true)) = some r := H
  have A6 := Aside0.mk A60
  clear A60
  have HC7 := Aside0.mk H
  clear H
  go_enter Try.func3, Try.ntmps3
  go_upto_region 6 with (first | ((with_reducible refine gate_callee (f := 9) rfl ?_); refine goesL_ (some 14) rfl rfl Try.func9 (by kernel_rfl) rfl #[.slice A0 l0.length c0] rfl (by (try simp only [List.map_toArray, List.map_cons, List.map_nil]); first | done | rfl | (simp only [List.length_drop, List.length_take]; rfl)) ?_; (with_reducible refine (laws_big.calls _ _ l0 false _ ?side1 ?side2 A2.out).mono ?_); (case side1 => repeat (first | exact HR0.out | (with_reducible refine Kd.C_alloc ?_ _) | (with_reducible refine Kd.C_drewN ?_ _) | (with_reducible refine Kd.C_drew ?_))); (case side2 => exact HC0.out); rintro e w' ⟨rfl, ⟨nd, rfl⟩⟩; refine ⟨_, rfl, ?_⟩) | ((with_reducible refine gate_callee (f := 10) rfl ?_); refine goesL_ (some 16) rfl rfl Try.func10 (by kernel_rfl) rfl #[.slice A0 l0.length c0] rfl (by (try simp only [List.map_toArray, List.map_cons, List.map_nil]); first | done | rfl | (simp only [List.length_drop, List.length_take]; rfl)) ?_; (with_reducible refine (spec_DrawRegion.calls k _ _ l0 t443 _ ?side1 ?side2 A4.out).mono ?_); (case side1 => repeat (first | exact HR0.out | (with_reducible refine Kd.C_alloc ?_ _) | (with_reducible refine Kd.C_drewN ?_ _) | (with_reducible refine Kd.C_drew ?_))); (case side2 => exact HC0.out); rintro e w8 ⟨rfl, hb⟩; refine ⟨_, rfl, ?_⟩; have n0_ := Aside0.mk (below_step (by repeat (first | (with_reducible first | exact HB.out | apply below_alloc | apply pw_below_drewN | apply below_drew1) | exact HB.out)) hb); clear HB; have HB := n0_; clear n0_; (try clear hb); (try clear hb2); (try clear hk); (try clear hi)) | ((with_reducible refine gate_callee (f := 11) rfl ?_); refine goesL_ (some 19) rfl rfl Try.func11 (by kernel_rfl) rfl #[.int .i64 t443] rfl (by (try simp only [List.map_toArray, List.map_cons, List.map_nil]); first | done | rfl | (simp only [List.length_drop, List.length_take]; rfl)) ?_; (with_reducible refine (impl_Region.calls t443 t444 t445 _ A5.out).mono ?_); rintro e w' ⟨rfl, ⟨nd, rfl⟩⟩; refine ⟨_, rfl, ?_⟩) | ((with_reducible refine gate_callee (f := 12) rfl ?_); refine goesL_ (some 24) rfl rfl Try.func12 (by kernel_rfl) rfl #[.int .i64 t443] rfl (by (try simp only [List.map_toArray, List.map_cons, List.map_nil]); first | done | rfl | (simp only [List.length_drop, List.length_take]; rfl)) ?_; (with_reducible refine (spec_Region.calls t443 t446 t447 _ A6.out).mono ?_); rintro e w' ⟨rfl, ⟨nd, rfl⟩⟩; refine ⟨_, rfl, ?_⟩))
  (try simp only [Act.put, List.setIfInBounds_toArray, List.set_cons_zero, List.set_cons_succ])
  go_cut [34] (fun v34 wc => ∃ (kq : Nat) (x34_6 : Bool), v34 = .bool x34_6 ∧ Aside0 (laws_FnRegions.j0 kq l0 t443 t444 t445 x34_6 = some r) ∧ Aside0 (kq ≤ k) ∧ Aside0 (Below w.heap.size w wc))
  case first =>
   have H := HC7.out
   clear HC7
   by_cases c9 : t444 = t446
   ·rw [if_pos c9] at H
    have c9b0 : (t444 == t446) = true := beq_iff_eq.mpr c9
    have c9b1 : (t444 != t446) = false := bne_eq_false_iff_eq.mpr c9
    clear c9
    (first | rw [c9b0] | (simp only [i64_w, i32_w]; rw [c9b0]) | skip)
    have H' := Aside0.mk H
    clear H
    go_wp2
    go_meet
    case rel => exact ⟨_, ((t445 != t447)), (by first | rfl | (simp; done) | (simp [*]; done)), H', ⟨by first | omega | exact Nat.le_refl _⟩, ⟨by repeat (first | (with_reducible first | exact HB.out | apply below_alloc | apply pw_below_drewN | apply below_drew1) | exact HB.out)⟩⟩
   ·rw [if_neg c9] at H
    have c9b0 : (t444 == t446) = false := beq_eq_false_iff_ne.mpr c9
    have c9b1 : (t444 != t446) = true := bne_iff_ne.mpr c9
    (first | rw [c9b0] | (simp only [i64_w, i32_w]; rw [c9b0]) | skip)
    exact absurd (show r = false by first | (cases k with | zero => (simp [laws_FnRegions.j0] at H; done) | succ k_ => (simp [laws_FnRegions.j0] at H; (first | exact H | exact H.symm))) | (cases kj6 with | zero => (simp [laws_FnRegions.j0] at H; done) | succ k_ => (simp [laws_FnRegions.j0] at H; (first | exact H | exact H.symm)))) (by rw [hrt]; decide)
  case rest =>
   clear HC7
   try clear c1
   try clear p2
   try clear c3
   try clear c9
   try clear c9b0
   try clear c9b1
   obtain ⟨kq, x34_6, rfl, HA, HJ6, HB⟩ := hcut
   cases kq with
   | zero => exact absurd HA.out (by simp [laws_FnRegions.j0])
   | succ kj6 =>
    have H := HA.out
    clear HA
    simp only [laws_FnRegions.j0] at H
    by_cases c10 : x34_6 = true
    ·subst c10
     have H1 : (some false) = some r := by rw [if_pos rfl] at H; exact H
     clear H
     have H := H1
     clear H1
     exact absurd ((Option.some.inj H).trans hrt) (by decide)
    ·replace c10 := Bool.eq_false_iff.mpr c10
     subst c10
     have H1 : ((spec_DrawPeek.f kj6 l0).bind fun bt448 => ((impl_Peek.f kj6 bt448.1 bt448.2.1 bt448.2.2.1 bt448.2.2.2).bind fun t458 => ((spec_Peek.f kj6 bt448.1 bt448.2.1 bt448.2.2.1 bt448.2.2.2).bind fun t459 => (if t458 = t459 then ((impl_Region.f (wrap64 (t443 + 65536))).bind fun bt460 => (if t444 ≥ 1 then (if t444 ≤ 7 then (if t445 ≥ 0 then (if t445 < 512 then (if bt460.1 = t444 then (if t444 = 5 then (some (decide (t445 < 256))) else (if t444 = 6 then (some (decide (t445 < 256))) else (some true))) else (some false)) else (some false)) else (some false)) else (some false)) else (some false))) else (some false))))) = some r := by rw [if_neg (show ¬ (false = true) by decide)] at H; exact H
     clear H
     have H := H1
     clear H1
     replace H := Option.bind_eq_some_iff.mp H
     obtain ⟨⟨t448, t451, t454, t455⟩, A110, H⟩ := H
     replace H : ((impl_Peek.f kj6 t448 t451 t454 t455).bind fun t458 => ((spec_Peek.f kj6 t448 t451 t454 t455).bind fun t459 => (if t458 = t459 then ((impl_Region.f (wrap64 (t443 + 65536))).bind fun bt460 => (if t444 ≥ 1 then (if t444 ≤ 7 then (if t445 ≥ 0 then (if t445 < 512 then (if bt460.1 = t444 then (if t444 = 5 then (some (decide (t445 < 256))) else (if t444 = 6 then (some (decide (t445 < 256))) else (some true))) else (some false)) else (some false)) else (some false)) else (some false)) else (some false))) else (some false)))) = some r := H
     have A11 := Aside0.mk A110
     clear A110
     replace H := Option.bind_eq_some_iff.mp H
     obtain ⟨t458, A120, H⟩ := H
     replace H : ((spec_Peek.f kj6 t448 t451 t454 t455).bind fun t459 => (if t458 = t459 then ((impl_Region.f (wrap64 (t443 + 65536))).bind fun bt460 => (if t444 ≥ 1 then (if t444 ≤ 7 then (if t445 ≥ 0 then (if t445 < 512 then (if bt460.1 = t444 then (if t444 = 5 then (some (decide (t445 < 256))) else (if t444 = 6 then (some (decide (t445 < 256))) else (some true))) else (some false)) else (some false)) else (some false)) else (some false)) else (some false))) else (some false))) = some r := H
     have A12 := Aside0.mk A120
     clear A120
     replace H := Option.bind_eq_some_iff.mp H
     obtain ⟨t459, A130, H⟩ := H
     replace H : (if t458 = t459 then ((impl_Region.f (wrap64 (t443 + 65536))).bind fun bt460 => (if t444 ≥ 1 then (if t444 ≤ 7 then (if t445 ≥ 0 then (if t445 < 512 then (if bt460.1 = t444 then (if t444 = 5 then (some (decide (t445 < 256))) else (if t444 = 6 then (some (decide (t445 < 256))) else (some true))) else (some false)) else (some false)) else (some false)) else (some false)) else (some false))) else (some false)) = some r := H
     have A13 := Aside0.mk A130
     clear A130
     by_cases c14 : t458 = t459
     ·rw [if_pos c14] at H
      have c14b0 : (t458 == t459) = true := beq_iff_eq.mpr c14
      have c14b1 : (t458 != t459) = false := bne_eq_false_iff_eq.mpr c14
      clear c14
      replace H := Option.bind_eq_some_iff.mp H
      obtain ⟨⟨t460, t461⟩, A150, H⟩ := H
      replace H : (if t444 ≥ 1 then (if t444 ≤ 7 then (if t445 ≥ 0 then (if t445 < 512 then (if t460 = t444 then (if t444 = 5 then (some (decide (t445 < 256))) else (if t444 = 6 then (some (decide (t445 < 256))) else (some true))) else (some false)) else (some false)) else (some false)) else (some false)) else (some false)) = some r := H
      have A15 := Aside0.mk A150
      clear A150
      by_cases c16 : t444 ≥ 1
      ·rw [if_pos c16] at H
       have c16b0 : decide (1 ≤ t444) = true := decide_eq_true c16
       clear c16
       by_cases c17 : t444 ≤ 7
       ·rw [if_pos c17] at H
        have c17b0 : decide (t444 ≤ 7) = true := decide_eq_true c17
        clear c17
        by_cases c18 : t445 ≥ 0
        ·rw [if_pos c18] at H
         have c18b0 : decide (0 ≤ t445) = true := decide_eq_true c18
         clear c18
         by_cases c19 : t445 < 512
         ·rw [if_pos c19] at H
          have c19b0 : decide (t445 < 512) = true := decide_eq_true c19
          clear c19
          by_cases c20 : t460 = t444
          ·rw [if_pos c20] at H
           have c20b0 : (t460 == t444) = true := beq_iff_eq.mpr c20
           have c20b1 : (t460 != t444) = false := bne_eq_false_iff_eq.mpr c20
           clear c20
           by_cases c21 : t444 = 5
           ·rw [if_pos c21] at H
            have c21b0 : (t444 == 5) = true := beq_iff_eq.mpr c21
            have c21b1 : (t444 != 5) = false := bne_eq_false_iff_eq.mpr c21
            clear c21
            clear hrt
            obtain rfl := Option.some.inj H
            try go_wp2_with (first | ((with_reducible refine gate_callee (f := 13) rfl ?_); refine goesL_ (some 37) rfl rfl Try.func13 (by kernel_rfl) rfl #[.slice A0 l0.length c0] rfl (by (try simp only [List.map_toArray, List.map_cons, List.map_nil]); first | done | rfl | (simp only [List.length_drop, List.length_take]; rfl)) ?_; (with_reducible refine (spec_DrawPeek.calls kj6 _ _ l0 t448 t451 t454 t455 _ ?side1 ?side2 A11.out).mono ?_); (case side1 => repeat (first | exact (Kd.C_below HR0.out HB.out) | (with_reducible refine Kd.C_alloc ?_ _) | (with_reducible refine Kd.C_drewN ?_ _) | (with_reducible refine Kd.C_drew ?_))); (case side2 => exact HC0.out); rintro e w22 ⟨v449, v452, rfl, ho0, ho1, hb⟩; refine ⟨_, rfl, ?_⟩; have n0_ := Aside0.mk (Kd.S_lower ho0 (below_size (by repeat (first | (with_reducible first | exact HB.out | apply below_alloc | apply pw_below_drewN | apply below_drew1) | exact HB.out)))); have n1_ := Aside0.mk (Kd.Q_lower ho1 (below_size (by repeat (first | (with_reducible first | exact HB.out | apply below_alloc | apply pw_below_drewN | apply below_drew1) | exact HB.out)))); have n2_ := Aside0.mk (below_step (by repeat (first | (with_reducible first | exact HB.out | apply below_alloc | apply pw_below_drewN | apply below_drew1) | exact HB.out)) hb); clear HB; have HO450 := n0_; have HO453 := n1_; have HB := n2_; clear n0_ n1_ n2_; (try clear hb); (try clear hb2); (try clear hk); (try clear hi); (try clear ho0); (try clear ho1)) | ((with_reducible refine gate_dst (N := 8) rfl ?_); refine box_event ?hg (N := 8) ?hd (cs := #[.slice none 0 0]) (t := 29) ?hr ?_; (case hd => rfl); (case hg => rfl); (case hr => first | (go_simp; done) | (go_simp; rfl)); intro gb456 hg w23 hbox hb; have n0_ := Aside0.mk (Kd.S_below (by (with_reducible repeat (first | apply Kd.S_alloc | apply Kd.S_drewN | apply Kd.S_drew)); exact HO450.out) hb); have n1_ := Aside0.mk (Kd.Q_below (by (with_reducible repeat (first | apply Kd.Q_alloc | apply Kd.Q_drewN | apply Kd.Q_drew)); exact HO453.out) hb); have n2_ := Aside0.mk (below_step (by repeat (first | (with_reducible first | exact HB.out | apply below_alloc | apply pw_below_drewN | apply below_drew1) | exact HB.out)) hb); have n3_ := Aside0.mk (hbox); have n4_ := Aside0.mk ((by rw [hg]; exact (below_size (by repeat (first | (with_reducible first | exact HB.out | apply below_alloc | apply pw_below_drewN | apply below_drew1) | exact HB.out))) : w.heap.size ≤ gb456)); have n5_ := Aside0.mk ((by rw [hg]; exact (below_size (by repeat (first | (with_reducible first | exact HB.out | apply below_alloc | apply pw_below_drewN | apply below_drew1) | exact HB.out))) : w.heap.size ≤ gb456)); clear HO450; clear HO453; clear HB; have HO450 := n0_; have HO453 := n1_; have HB := n2_; have BK456 := n3_; have GW456 := n4_; have GE456 := n5_; clear n0_ n1_ n2_ n3_ n4_ n5_; clear hb hbox hg) | ((with_reducible refine gate_dst (N := 9) rfl ?_); refine box_event ?hg (N := 9) ?hd (cs := #[.slice none 0 0, .int .i64 0]) (t := 32) ?hr ?_; (case hd => rfl); (case hg => rfl); (case hr => first | (go_simp; done) | (go_simp; rfl)); intro gb457 hg w24 hbox hb; have n0_ := Aside0.mk (Kd.S_below (by (with_reducible repeat (first | apply Kd.S_alloc | apply Kd.S_drewN | apply Kd.S_drew)); exact HO450.out) hb); have n1_ := Aside0.mk (Kd.Q_below (by (with_reducible repeat (first | apply Kd.Q_alloc | apply Kd.Q_drewN | apply Kd.Q_drew)); exact HO453.out) hb); have n2_ := Aside0.mk (blk_below (g := gb456) (o := .cells #[.slice none 0 0] 29 (0, 0)) (by (with_reducible repeat (first | refine blk_drewN ?_ _ | refine blk_drew ?_ | refine blk_alloc ?_ _)); exact BK456.out) hb); have n3_ := Aside0.mk (below_step (by repeat (first | (with_reducible first | exact HB.out | apply below_alloc | apply pw_below_drewN | apply below_drew1 | refine below_set ?_ GE456.out) | exact HB.out)) hb); have n4_ := Aside0.mk (hbox); have n5_ := Aside0.mk ((by rw [hg]; exact (below_size (by repeat (first | (with_reducible first | exact HB.out | apply below_alloc | apply pw_below_drewN | apply below_drew1 | refine below_set ?_ GE456.out) | exact HB.out))) : w.heap.size ≤ gb457)); have n6_ := Aside0.mk ((by rw [hg]; exact (below_size (by repeat (first | (with_reducible first | exact HB.out | apply below_alloc | apply pw_below_drewN | apply below_drew1 | refine below_set ?_ GE456.out) | exact HB.out))) : w.heap.size ≤ gb457)); have n7_ := Aside0.mk ((by rw [hg]; exact Nat.ne_of_lt (blk_lt (g := gb456) (o := .cells #[.slice none 0 0] 29 (0, 0)) (by (with_reducible repeat (first | refine blk_drewN ?_ _ | refine blk_drew ?_ | refine blk_alloc ?_ _)); exact BK456.out)) : gb456 ≠ gb457)); have n8_ := Aside0.mk ((by rw [hg]; exact Nat.ne_of_gt (blk_lt (g := gb456) (o := .cells #[.slice none 0 0] 29 (0, 0)) (by (with_reducible repeat (first | refine blk_drewN ?_ _ | refine blk_drew ?_ | refine blk_alloc ?_ _)); exact BK456.out)) : gb457 ≠ gb456)); clear HO450; clear HO453; clear BK456; clear HB; have HO450 := n0_; have HO453 := n1_; have BK456 := n2_; have HB := n3_; have BK457 := n4_; have GW457 := n5_; have GE457 := n6_; have NB456_457 := n7_; have NB457_456 := n8_; clear n0_ n1_ n2_ n3_ n4_ n5_ n6_ n7_ n8_; clear hb hbox hg; obtain ⟨Ao25, co25, eo25⟩ := Kd.S_slice HO450.out; subst eo25; have hnb26 := NB456_457.out; have hnc26 := NB457_456.out; have hcz27_0 : w24.cell? ⟨gb456, 0, none⟩ = some (.slice none 0 0) := (blk_cell BK456.out 0).trans rfl; have hfz27_0 := blk_frozen BK456.out 0; obtain ⟨Ao28, co28, eo28, _⟩ := Kd.Q_slice HO453.out; subst eo28; have hcz29_0 : w24.cell? ⟨gb457, 0, none⟩ = some (.slice none 0 0) := (blk_cell BK457.out 0).trans rfl; have hcz29_1 : w24.cell? ⟨gb457, 1, none⟩ = some (.int .i64 0) := (blk_cell BK457.out 1).trans rfl; have hfz29_0 := blk_frozen BK457.out 0; have hfz29_1 := blk_frozen BK457.out 1))
            have n0_ : Aside0 (Kd.S (cutK 3 (Kd.int .i64)) 30 (((w24.setCell ⟨gb456, 0, none⟩ (.slice Ao25 t448.length co25)).setCell ⟨gb457, 0, none⟩ (.slice Ao28 t451.length co28)).setCell ⟨gb457, 1, none⟩ (.int .i64 t454)) w.heap.size (fun k_ => some k_ ≠ (.slice Ao28 t451.length co28 : Value).ownBlock) (.slice Ao25 t448.length co25) t448) := ⟨by (with_reducible repeat (first | apply Kd.S_alloc | apply Kd.S_drewN | apply Kd.S_drew)); exact Kd.S_mono (Kd.S_far (p := ⟨gb457, 1, none⟩) (Kd.S_far (p := ⟨gb457, 0, none⟩) (Kd.S_far (p := ⟨gb456, 0, none⟩) (Kd.S_types (Kd.S_types HO450.out BK456.out (by decide)) BK457.out (by decide)) (fun _ hk => hk.1.2) (.slice Ao25 t448.length co25)) (fun _ hk => hk.2) (.slice Ao28 t451.length co28)) (fun _ hk => hk.2) (.int .i64 t454)) (fun _ hk => hk.1.1)⟩
            have n1_ : Aside0 (Kd.Q (Kd.int .i64) 3 (((w24.setCell ⟨gb456, 0, none⟩ (.slice Ao25 t448.length co25)).setCell ⟨gb457, 0, none⟩ (.slice Ao28 t451.length co28)).setCell ⟨gb457, 1, none⟩ (.int .i64 t454)) w.heap.size (fun _ => True) (.slice Ao28 t451.length co28) t451) := ⟨by (with_reducible repeat (first | apply Kd.Q_alloc | apply Kd.Q_drewN | apply Kd.Q_drew)); exact Kd.Q_mono (Kd.Q_far (p := ⟨gb457, 1, none⟩) (Kd.Q_far (p := ⟨gb457, 0, none⟩) (Kd.Q_far (p := ⟨gb456, 0, none⟩) (Kd.Q_types (Kd.Q_types HO453.out BK456.out (by decide)) BK457.out (by decide)) (fun _ hk => hk.1.2) (.slice Ao25 t448.length co25)) (fun _ hk => hk.2) (.slice Ao28 t451.length co28)) (fun _ hk => hk.2) (.int .i64 t454)) (fun _ hk => trivial)⟩
            have n2_ : Aside0 ((((w24.setCell ⟨gb456, 0, none⟩ (.slice Ao25 t448.length co25)).setCell ⟨gb457, 0, none⟩ (.slice Ao28 t451.length co28)).setCell ⟨gb457, 1, none⟩ (.int .i64 t454)).heap[gb456]? = some (.cells #[.slice Ao25 t448.length co25] 29 (0, 0))) := ⟨by (with_reducible repeat (first | refine blk_drewN ?_ _ | refine blk_drew ?_ | refine blk_alloc ?_ _)); refine blk_far ?_ NB456_457.out _; (with_reducible repeat (first | refine blk_drewN ?_ _ | refine blk_drew ?_ | refine blk_alloc ?_ _)); refine blk_far ?_ NB456_457.out _; (with_reducible repeat (first | refine blk_drewN ?_ _ | refine blk_drew ?_ | refine blk_alloc ?_ _)); refine blk_put (cs := #[.slice none 0 0]) ?_ 0 _ rfl; (with_reducible repeat (first | refine blk_drewN ?_ _ | refine blk_drew ?_ | refine blk_alloc ?_ _)); exact BK456.out⟩
            have n3_ : Aside0 ((((w24.setCell ⟨gb456, 0, none⟩ (.slice Ao25 t448.length co25)).setCell ⟨gb457, 0, none⟩ (.slice Ao28 t451.length co28)).setCell ⟨gb457, 1, none⟩ (.int .i64 t454)).heap[gb457]? = some (.cells #[.slice Ao28 t451.length co28, .int .i64 t454] 32 (0, 0))) := ⟨by (with_reducible repeat (first | refine blk_drewN ?_ _ | refine blk_drew ?_ | refine blk_alloc ?_ _)); refine blk_put (cs := #[.slice Ao28 t451.length co28, .int .i64 0]) ?_ 1 _ rfl; (with_reducible repeat (first | refine blk_drewN ?_ _ | refine blk_drew ?_ | refine blk_alloc ?_ _)); refine blk_put (cs := #[.slice none 0 0, .int .i64 0]) ?_ 0 _ rfl; (with_reducible repeat (first | refine blk_drewN ?_ _ | refine blk_drew ?_ | refine blk_alloc ?_ _)); refine blk_far ?_ NB457_456.out _; (with_reducible repeat (first | refine blk_drewN ?_ _ | refine blk_drew ?_ | refine blk_alloc ?_ _)); exact BK457.out⟩
            have n4_ : Aside0 (Below w.heap.size w (((w24.setCell ⟨gb456, 0, none⟩ (.slice Ao25 t448.length co25)).setCell ⟨gb457, 0, none⟩ (.slice Ao28 t451.length co28)).setCell ⟨gb457, 1, none⟩ (.int .i64 t454))) := ⟨by repeat (first | (with_reducible first | exact HB.out | apply below_alloc | apply pw_below_drewN | apply below_drew1 | refine below_set ?_ GE456.out | refine below_set ?_ GE457.out) | exact HB.out)⟩
            (try clear HO450)
            (try clear HO453)
            (try clear BK456)
            (try clear BK457)
            (try clear HB)
            generalize (((w24.setCell ⟨gb456, 0, none⟩ (.slice Ao25 t448.length co25)).setCell ⟨gb457, 0, none⟩ (.slice Ao28 t451.length co28)).setCell ⟨gb457, 1, none⟩ (.int .i64 t454)) = w30 at n0_ n1_ n2_ n3_ n4_ ⊢
            have HO450 := n0_
            have HO453 := n1_
            have BK456 := n2_
            have BK457 := n3_
            have HB := n4_
            clear n0_ n1_ n2_ n3_ n4_
            have n0_ := Aside0.mk (Kd.S_drew HO450.out)
            have n1_ := Aside0.mk (Kd.Q_drew HO453.out)
            have n2_ := Aside0.mk (blk_drew BK456.out)
            have n3_ := Aside0.mk (blk_drew BK457.out)
            have n4_ := Aside0.mk (below_drew1 HB.out)
            clear HO450
            clear HO453
            clear BK456
            clear BK457
            clear HB
            have HO450 := n0_
            have HO453 := n1_
            have BK456 := n2_
            have BK457 := n3_
            have HB := n4_
            clear n0_ n1_ n2_ n3_ n4_
            refine start_ (n := 9) (S := fun w' => w'.cell? ⟨gb456, 0, none⟩ = some (.slice Ao25 t448.length co25) ∧ w'.cell? ⟨gb457, 0, none⟩ = some (.slice Ao28 t451.length co28) ∧ w'.cell? ⟨gb457, 1, none⟩ = some (.int .i64 t454)) (ds := []) #[false, false, false, false, false, false, false, false, false] (by kernel_rfl) rfl rfl ⟨(blk_cell BK456.out 0).trans rfl, (blk_cell BK457.out 0).trans rfl, (blk_cell BK457.out 1).trans rfl⟩ (fun hHeld => ?_); refine with_tabW laws_FnRegions.tab9 laws_FnRegions.bits9 (fun HT_ HW_ => ?_)
            generalize w30.drew = w31 at HO450 HO453 BK456 BK457 HB hHeld ⊢
            refine pure_ (i := 2) (N := some 43) (v := ?_) (a' := ?_) #[false, false, true, false, false, false, false, false, false] rfl rfl (any_of HT_.out (by kernel_rfl)) (fun _ _ _ h => h) (Or.inl ⟨by rfl, ?_⟩) ?_ ?_
            rotate_left
            ·intro w'
             go_simp
             with_reducible rfl
            rotate_left
            ·simp only [Act.put, List.setIfInBounds_toArray, List.set_cons_zero, List.set_cons_succ, i64_w, i32_w]
             rfl
            refine pure_ (i := 6) (N := some 47) (v := ?_) (a' := ?_) #[false, false, true, false, false, false, true, false, false] rfl rfl (any_of HT_.out (by kernel_rfl)) (fun _ _ _ h => h) (Or.inl ⟨by rfl, ?_⟩) ?_ ?_
            rotate_left
            ·intro w'
             go_simp
             with_reducible rfl
            rotate_left
            ·simp only [Act.put, List.setIfInBounds_toArray, List.set_cons_zero, List.set_cons_succ, i64_w, i32_w]
             rfl
            refine take_ (i := 0) (N := some 41) (v := ?_) (a' := ?_) #[true, false, true, false, false, false, true, false, false] rfl rfl (take_ofW HT_.out HW_.out (by kernel_rfl)) (fun _ _ _ h => h) (Or.inl ⟨by rfl, ?_⟩) hHeld ?_ ?_
            rotate_left
            ·rintro w' ⟨s0, s1, s2⟩
             go_simp
             with_reducible rfl
            rotate_left
            ·simp only [Act.put, List.setIfInBounds_toArray, List.set_cons_zero, List.set_cons_succ, i64_w, i32_w]
             rfl
            refine take_ (i := 1) (N := some 42) (v := ?_) (a' := ?_) #[true, true, true, false, false, false, true, false, false] rfl rfl (take_ofW HT_.out HW_.out (by kernel_rfl)) (fun _ _ _ h => h) (Or.inl ⟨by rfl, ?_⟩) hHeld ?_ ?_
            rotate_left
            ·rintro w' ⟨s0, s1, s2⟩
             go_simp
             with_reducible rfl
            rotate_left
            ·simp only [Act.put, List.setIfInBounds_toArray, List.set_cons_zero, List.set_cons_succ, i64_w, i32_w]
             rfl
            refine take_ (i := 4) (N := some 45) (v := ?_) (a' := ?_) #[true, true, true, false, true, false, true, false, false] rfl rfl (take_ofW HT_.out HW_.out (by kernel_rfl)) (fun _ _ _ h => h) (Or.inl ⟨by rfl, ?_⟩) hHeld ?_ ?_
            rotate_left
            ·rintro w' ⟨s0, s1, s2⟩
             go_simp
             with_reducible rfl
            rotate_left
            ·simp only [Act.put, List.setIfInBounds_toArray, List.set_cons_zero, List.set_cons_succ, i64_w, i32_w]
             rfl
            refine take_ (i := 5) (N := some 46) (v := ?_) (a' := ?_) #[true, true, true, false, true, true, true, false, false] rfl rfl (take_ofW HT_.out HW_.out (by kernel_rfl)) (fun _ _ _ h => h) (Or.inl ⟨by rfl, ?_⟩) hHeld ?_ ?_
            rotate_left
            ·rintro w' ⟨s0, s1, s2⟩
             go_simp
             with_reducible rfl
            rotate_left
            ·simp only [Act.put, List.setIfInBounds_toArray, List.set_cons_zero, List.set_cons_succ, i64_w, i32_w]
             rfl
            refine one_ (i := 3) (N := some 44) #[true, true, true, true, true, true, true, false, false] rfl rfl (one_of HT_.out (by kernel_rfl)) (by decide) (fun K hK => ?_)
            refine goes_ Try.func14 (by kernel_rfl) rfl #[.agg #[.slice Ao25 t448.length co25], .agg #[.slice Ao28 t451.length co28, .int .i64 t454], .int .i64 t455] (by rfl) rfl rfl (by (try simp only [List.map_toArray, List.map_cons, List.map_nil]); first | done | rfl | (simp only [List.length_drop, List.length_take]; rfl)) ?_
            with_reducible refine (impl_Peek.calls kj6 _ _ t448 _ _ t451 t454 t455 t458 _ ?side1 ?side2 ?side3 ?side4 A12.out).mono ?_
            (case side1 => repeat (first | exact (Kd.S_reads' HO450.out).2.2 | (with_reducible refine Kd.C_alloc ?_ _) | (with_reducible refine Kd.C_drewN ?_ _) | (with_reducible refine Kd.C_drew ?_)))
            (case side2 => exact (Kd.S_reads' HO450.out).2.1)
            (case side3 => repeat (first | exact (Kd.Q_reads' HO453.out).2.2 | (with_reducible refine Kd.C_alloc ?_ _) | (with_reducible refine Kd.C_drewN ?_ _) | (with_reducible refine Kd.C_drew ?_)))
            (case side4 => exact (Kd.Q_reads' HO453.out).2.1)
            rintro e w32 ⟨rfl, hb⟩
            refine ⟨_, rfl, ?_⟩
            have n0_ := Aside0.mk (Kd.S_below (by (with_reducible repeat (first | apply Kd.S_alloc | apply Kd.S_drewN | apply Kd.S_drew)); exact HO450.out) hb)
            have n1_ := Aside0.mk (Kd.Q_below (by (with_reducible repeat (first | apply Kd.Q_alloc | apply Kd.Q_drewN | apply Kd.Q_drew)); exact HO453.out) hb)
            have n2_ := Aside0.mk (blk_below (g := gb456) (o := .cells #[.slice Ao25 t448.length co25] 29 (0, 0)) (by (with_reducible repeat (first | refine blk_drewN ?_ _ | refine blk_drew ?_ | refine blk_alloc ?_ _)); exact BK456.out) hb)
            have n3_ := Aside0.mk (blk_below (g := gb457) (o := .cells #[.slice Ao28 t451.length co28, .int .i64 t454] 32 (0, 0)) (by (with_reducible repeat (first | refine blk_drewN ?_ _ | refine blk_drew ?_ | refine blk_alloc ?_ _)); exact BK457.out) hb)
            have n4_ := Aside0.mk (below_step (by repeat (first | (with_reducible first | exact HB.out | apply below_alloc | apply pw_below_drewN | apply below_drew1 | refine below_set ?_ GE456.out | refine below_set ?_ GE457.out) | exact HB.out)) hb)
            clear HO450
            clear HO453
            clear BK456
            clear BK457
            clear HB
            have HO450 := n0_
            have HO453 := n1_
            have BK456 := n2_
            have BK457 := n3_
            have HB := n4_
            clear n0_ n1_ n2_ n3_ n4_
            (try clear hb)
            (try clear hb2)
            (try clear hk)
            (try clear hi)
            refine hK.out _ _ ⟨(blk_cell BK456.out 0).trans rfl, (blk_cell BK457.out 0).trans rfl, (blk_cell BK457.out 1).trans rfl⟩ (fun hHeld => ?_)
            clear hK K
            refine norm_ (a' := ?_) ?_ ?_
            rotate_left
            ·show Act.put _ (some 44) _ = _
             simp only [Act.put, List.setIfInBounds_toArray, List.set_cons_zero, List.set_cons_succ, i64_w, i32_w]
             rfl
            refine one_ (i := 7) (N := some 48) #[true, true, true, true, true, true, true, true, false] rfl rfl (one_of HT_.out (by kernel_rfl)) (by decide) (fun K hK => ?_)
            refine goes_ Try.func15 (by kernel_rfl) rfl #[.agg #[.slice Ao25 t448.length co25], .agg #[.slice Ao28 t451.length co28, .int .i64 t454], .int .i64 t455] (by rfl) rfl rfl (by (try simp only [List.map_toArray, List.map_cons, List.map_nil]); first | done | rfl | (simp only [List.length_drop, List.length_take]; rfl)) ?_
            with_reducible refine (spec_Peek.calls kj6 _ _ t448 _ _ t451 t454 t455 t459 _ ?side1 ?side2 ?side3 ?side4 A13.out).mono ?_
            (case side1 => repeat (first | exact (Kd.S_reads' HO450.out).2.2 | (with_reducible refine Kd.C_alloc ?_ _) | (with_reducible refine Kd.C_drewN ?_ _) | (with_reducible refine Kd.C_drew ?_)))
            (case side2 => exact (Kd.S_reads' HO450.out).2.1)
            (case side3 => repeat (first | exact (Kd.Q_reads' HO453.out).2.2 | (with_reducible refine Kd.C_alloc ?_ _) | (with_reducible refine Kd.C_drewN ?_ _) | (with_reducible refine Kd.C_drew ?_)))
            (case side4 => exact (Kd.Q_reads' HO453.out).2.1)
            rintro e w33 ⟨rfl, hb⟩
            refine ⟨_, rfl, ?_⟩
            have n0_ := Aside0.mk (Kd.S_below (by (with_reducible repeat (first | apply Kd.S_alloc | apply Kd.S_drewN | apply Kd.S_drew)); exact HO450.out) hb)
            have n1_ := Aside0.mk (Kd.Q_below (by (with_reducible repeat (first | apply Kd.Q_alloc | apply Kd.Q_drewN | apply Kd.Q_drew)); exact HO453.out) hb)
            have n2_ := Aside0.mk (blk_below (g := gb456) (o := .cells #[.slice Ao25 t448.length co25] 29 (0, 0)) (by (with_reducible repeat (first | refine blk_drewN ?_ _ | refine blk_drew ?_ | refine blk_alloc ?_ _)); exact BK456.out) hb)
            have n3_ := Aside0.mk (blk_below (g := gb457) (o := .cells #[.slice Ao28 t451.length co28, .int .i64 t454] 32 (0, 0)) (by (with_reducible repeat (first | refine blk_drewN ?_ _ | refine blk_drew ?_ | refine blk_alloc ?_ _)); exact BK457.out) hb)
            have n4_ := Aside0.mk (below_step (by repeat (first | (with_reducible first | exact HB.out | apply below_alloc | apply pw_below_drewN | apply below_drew1 | refine below_set ?_ GE456.out | refine below_set ?_ GE457.out) | exact HB.out)) hb)
            clear HO450
            clear HO453
            clear BK456
            clear BK457
            clear HB
            have HO450 := n0_
            have HO453 := n1_
            have BK456 := n2_
            have BK457 := n3_
            have HB := n4_
            clear n0_ n1_ n2_ n3_ n4_
            (try clear hb)
            (try clear hb2)
            (try clear hk)
            (try clear hi)
            refine hK.out _ _ ⟨(blk_cell BK456.out 0).trans rfl, (blk_cell BK457.out 0).trans rfl, (blk_cell BK457.out 1).trans rfl⟩ (fun hHeld => ?_)
            clear hK K
            refine norm_ (a' := ?_) ?_ ?_
            rotate_left
            ·show Act.put _ (some 48) _ = _
             simp only [Act.put, List.setIfInBounds_toArray, List.set_cons_zero, List.set_cons_succ, i64_w, i32_w]
             rfl
            refine pure_ (i := 8) (N := some 49) (v := ?_) (a' := ?_) #[true, true, true, true, true, true, true, true, true] rfl rfl (any_of HT_.out (by kernel_rfl)) (fun _ _ _ h => h) (Or.inl ⟨by rfl, ?_⟩) ?_ ?_
            rotate_left
            ·intro w'
             go_simp
             with_reducible rfl
            rotate_left
            ·simp only [Act.put, List.setIfInBounds_toArray, List.set_cons_zero, List.set_cons_succ, i64_w, i32_w]
             rfl
            refine done_ (done_of HT_.out (by kernel_rfl)) ?_
            try go_wp2_with (first | ((with_reducible refine gate_callee (f := 11) rfl ?_); refine goesL_ (some 53) rfl rfl Try.func11 (by kernel_rfl) rfl #[.int .i64 (wrap64 (t443 + 65536))] rfl (by (try simp only [List.map_toArray, List.map_cons, List.map_nil]); first | done | rfl | (simp only [List.length_drop, List.length_take]; rfl)) ?_; (with_reducible refine (impl_Region.calls (wrap64 (t443 + 65536)) t460 t461 _ A15.out).mono ?_); rintro e w' ⟨rfl, ⟨nd, rfl⟩⟩; refine ⟨_, rfl, ?_⟩))
            go_ret
            exact ⟨by first | rfl | (simp [errW_none, errW_some] <;> rfl) | (simp [*, errW_none, errW_some] <;> rfl), by repeat (first | (with_reducible first | exact HB.out | apply below_alloc | apply pw_below_drewN | apply below_drew1 | refine below_set ?_ GE456.out | refine below_set ?_ GE457.out) | exact HB.out)⟩
           ·rw [if_neg c21] at H
            have c21b0 : (t444 == 5) = false := beq_eq_false_iff_ne.mpr c21
            have c21b1 : (t444 != 5) = true := bne_iff_ne.mpr c21
            by_cases c34 : t444 = 6
            ·rw [if_pos c34] at H
             have c34b0 : (t444 == 6) = true := beq_iff_eq.mpr c34
             have c34b1 : (t444 != 6) = false := bne_eq_false_iff_eq.mpr c34
             clear c34
             clear hrt
             obtain rfl := Option.some.inj H
             try go_wp2_with (first | ((with_reducible refine gate_callee (f := 13) rfl ?_); refine goesL_ (some 37) rfl rfl Try.func13 (by kernel_rfl) rfl #[.slice A0 l0.length c0] rfl (by (try simp only [List.map_toArray, List.map_cons, List.map_nil]); first | done | rfl | (simp only [List.length_drop, List.length_take]; rfl)) ?_; (with_reducible refine (spec_DrawPeek.calls kj6 _ _ l0 t448 t451 t454 t455 _ ?side1 ?side2 A11.out).mono ?_); (case side1 => repeat (first | exact (Kd.C_below HR0.out HB.out) | (with_reducible refine Kd.C_alloc ?_ _) | (with_reducible refine Kd.C_drewN ?_ _) | (with_reducible refine Kd.C_drew ?_))); (case side2 => exact HC0.out); rintro e w35 ⟨v449, v452, rfl, ho0, ho1, hb⟩; refine ⟨_, rfl, ?_⟩; have n0_ := Aside0.mk (Kd.S_lower ho0 (below_size (by repeat (first | (with_reducible first | exact HB.out | apply below_alloc | apply pw_below_drewN | apply below_drew1) | exact HB.out)))); have n1_ := Aside0.mk (Kd.Q_lower ho1 (below_size (by repeat (first | (with_reducible first | exact HB.out | apply below_alloc | apply pw_below_drewN | apply below_drew1) | exact HB.out)))); have n2_ := Aside0.mk (below_step (by repeat (first | (with_reducible first | exact HB.out | apply below_alloc | apply pw_below_drewN | apply below_drew1) | exact HB.out)) hb); clear HB; have HO450 := n0_; have HO453 := n1_; have HB := n2_; clear n0_ n1_ n2_; (try clear hb); (try clear hb2); (try clear hk); (try clear hi); (try clear ho0); (try clear ho1)) | ((with_reducible refine gate_dst (N := 8) rfl ?_); refine box_event ?hg (N := 8) ?hd (cs := #[.slice none 0 0]) (t := 29) ?hr ?_; (case hd => rfl); (case hg => rfl); (case hr => first | (go_simp; done) | (go_simp; rfl)); intro gb456 hg w36 hbox hb; have n0_ := Aside0.mk (Kd.S_below (by (with_reducible repeat (first | apply Kd.S_alloc | apply Kd.S_drewN | apply Kd.S_drew)); exact HO450.out) hb); have n1_ := Aside0.mk (Kd.Q_below (by (with_reducible repeat (first | apply Kd.Q_alloc | apply Kd.Q_drewN | apply Kd.Q_drew)); exact HO453.out) hb); have n2_ := Aside0.mk (below_step (by repeat (first | (with_reducible first | exact HB.out | apply below_alloc | apply pw_below_drewN | apply below_drew1) | exact HB.out)) hb); have n3_ := Aside0.mk (hbox); have n4_ := Aside0.mk ((by rw [hg]; exact (below_size (by repeat (first | (with_reducible first | exact HB.out | apply below_alloc | apply pw_below_drewN | apply below_drew1) | exact HB.out))) : w.heap.size ≤ gb456)); have n5_ := Aside0.mk ((by rw [hg]; exact (below_size (by repeat (first | (with_reducible first | exact HB.out | apply below_alloc | apply pw_below_drewN | apply below_drew1) | exact HB.out))) : w.heap.size ≤ gb456)); clear HO450; clear HO453; clear HB; have HO450 := n0_; have HO453 := n1_; have HB := n2_; have BK456 := n3_; have GW456 := n4_; have GE456 := n5_; clear n0_ n1_ n2_ n3_ n4_ n5_; clear hb hbox hg) | ((with_reducible refine gate_dst (N := 9) rfl ?_); refine box_event ?hg (N := 9) ?hd (cs := #[.slice none 0 0, .int .i64 0]) (t := 32) ?hr ?_; (case hd => rfl); (case hg => rfl); (case hr => first | (go_simp; done) | (go_simp; rfl)); intro gb457 hg w37 hbox hb; have n0_ := Aside0.mk (Kd.S_below (by (with_reducible repeat (first | apply Kd.S_alloc | apply Kd.S_drewN | apply Kd.S_drew)); exact HO450.out) hb); have n1_ := Aside0.mk (Kd.Q_below (by (with_reducible repeat (first | apply Kd.Q_alloc | apply Kd.Q_drewN | apply Kd.Q_drew)); exact HO453.out) hb); have n2_ := Aside0.mk (blk_below (g := gb456) (o := .cells #[.slice none 0 0] 29 (0, 0)) (by (with_reducible repeat (first | refine blk_drewN ?_ _ | refine blk_drew ?_ | refine blk_alloc ?_ _)); exact BK456.out) hb); have n3_ := Aside0.mk (below_step (by repeat (first | (with_reducible first | exact HB.out | apply below_alloc | apply pw_below_drewN | apply below_drew1 | refine below_set ?_ GE456.out) | exact HB.out)) hb); have n4_ := Aside0.mk (hbox); have n5_ := Aside0.mk ((by rw [hg]; exact (below_size (by repeat (first | (with_reducible first | exact HB.out | apply below_alloc | apply pw_below_drewN | apply below_drew1 | refine below_set ?_ GE456.out) | exact HB.out))) : w.heap.size ≤ gb457)); have n6_ := Aside0.mk ((by rw [hg]; exact (below_size (by repeat (first | (with_reducible first | exact HB.out | apply below_alloc | apply pw_below_drewN | apply below_drew1 | refine below_set ?_ GE456.out) | exact HB.out))) : w.heap.size ≤ gb457)); have n7_ := Aside0.mk ((by rw [hg]; exact Nat.ne_of_lt (blk_lt (g := gb456) (o := .cells #[.slice none 0 0] 29 (0, 0)) (by (with_reducible repeat (first | refine blk_drewN ?_ _ | refine blk_drew ?_ | refine blk_alloc ?_ _)); exact BK456.out)) : gb456 ≠ gb457)); have n8_ := Aside0.mk ((by rw [hg]; exact Nat.ne_of_gt (blk_lt (g := gb456) (o := .cells #[.slice none 0 0] 29 (0, 0)) (by (with_reducible repeat (first | refine blk_drewN ?_ _ | refine blk_drew ?_ | refine blk_alloc ?_ _)); exact BK456.out)) : gb457 ≠ gb456)); clear HO450; clear HO453; clear BK456; clear HB; have HO450 := n0_; have HO453 := n1_; have BK456 := n2_; have HB := n3_; have BK457 := n4_; have GW457 := n5_; have GE457 := n6_; have NB456_457 := n7_; have NB457_456 := n8_; clear n0_ n1_ n2_ n3_ n4_ n5_ n6_ n7_ n8_; clear hb hbox hg; obtain ⟨Ao38, co38, eo38⟩ := Kd.S_slice HO450.out; subst eo38; have hnb39 := NB456_457.out; have hnc39 := NB457_456.out; have hcz40_0 : w37.cell? ⟨gb456, 0, none⟩ = some (.slice none 0 0) := (blk_cell BK456.out 0).trans rfl; have hfz40_0 := blk_frozen BK456.out 0; obtain ⟨Ao41, co41, eo41, _⟩ := Kd.Q_slice HO453.out; subst eo41; have hcz42_0 : w37.cell? ⟨gb457, 0, none⟩ = some (.slice none 0 0) := (blk_cell BK457.out 0).trans rfl; have hcz42_1 : w37.cell? ⟨gb457, 1, none⟩ = some (.int .i64 0) := (blk_cell BK457.out 1).trans rfl; have hfz42_0 := blk_frozen BK457.out 0; have hfz42_1 := blk_frozen BK457.out 1))
             have n0_ : Aside0 (Kd.S (cutK 3 (Kd.int .i64)) 30 (((w37.setCell ⟨gb456, 0, none⟩ (.slice Ao38 t448.length co38)).setCell ⟨gb457, 0, none⟩ (.slice Ao41 t451.length co41)).setCell ⟨gb457, 1, none⟩ (.int .i64 t454)) w.heap.size (fun k_ => some k_ ≠ (.slice Ao41 t451.length co41 : Value).ownBlock) (.slice Ao38 t448.length co38) t448) := ⟨by (with_reducible repeat (first | apply Kd.S_alloc | apply Kd.S_drewN | apply Kd.S_drew)); exact Kd.S_mono (Kd.S_far (p := ⟨gb457, 1, none⟩) (Kd.S_far (p := ⟨gb457, 0, none⟩) (Kd.S_far (p := ⟨gb456, 0, none⟩) (Kd.S_types (Kd.S_types HO450.out BK456.out (by decide)) BK457.out (by decide)) (fun _ hk => hk.1.2) (.slice Ao38 t448.length co38)) (fun _ hk => hk.2) (.slice Ao41 t451.length co41)) (fun _ hk => hk.2) (.int .i64 t454)) (fun _ hk => hk.1.1)⟩
             have n1_ : Aside0 (Kd.Q (Kd.int .i64) 3 (((w37.setCell ⟨gb456, 0, none⟩ (.slice Ao38 t448.length co38)).setCell ⟨gb457, 0, none⟩ (.slice Ao41 t451.length co41)).setCell ⟨gb457, 1, none⟩ (.int .i64 t454)) w.heap.size (fun _ => True) (.slice Ao41 t451.length co41) t451) := ⟨by (with_reducible repeat (first | apply Kd.Q_alloc | apply Kd.Q_drewN | apply Kd.Q_drew)); exact Kd.Q_mono (Kd.Q_far (p := ⟨gb457, 1, none⟩) (Kd.Q_far (p := ⟨gb457, 0, none⟩) (Kd.Q_far (p := ⟨gb456, 0, none⟩) (Kd.Q_types (Kd.Q_types HO453.out BK456.out (by decide)) BK457.out (by decide)) (fun _ hk => hk.1.2) (.slice Ao38 t448.length co38)) (fun _ hk => hk.2) (.slice Ao41 t451.length co41)) (fun _ hk => hk.2) (.int .i64 t454)) (fun _ hk => trivial)⟩
             have n2_ : Aside0 ((((w37.setCell ⟨gb456, 0, none⟩ (.slice Ao38 t448.length co38)).setCell ⟨gb457, 0, none⟩ (.slice Ao41 t451.length co41)).setCell ⟨gb457, 1, none⟩ (.int .i64 t454)).heap[gb456]? = some (.cells #[.slice Ao38 t448.length co38] 29 (0, 0))) := ⟨by (with_reducible repeat (first | refine blk_drewN ?_ _ | refine blk_drew ?_ | refine blk_alloc ?_ _)); refine blk_far ?_ NB456_457.out _; (with_reducible repeat (first | refine blk_drewN ?_ _ | refine blk_drew ?_ | refine blk_alloc ?_ _)); refine blk_far ?_ NB456_457.out _; (with_reducible repeat (first | refine blk_drewN ?_ _ | refine blk_drew ?_ | refine blk_alloc ?_ _)); refine blk_put (cs := #[.slice none 0 0]) ?_ 0 _ rfl; (with_reducible repeat (first | refine blk_drewN ?_ _ | refine blk_drew ?_ | refine blk_alloc ?_ _)); exact BK456.out⟩
             have n3_ : Aside0 ((((w37.setCell ⟨gb456, 0, none⟩ (.slice Ao38 t448.length co38)).setCell ⟨gb457, 0, none⟩ (.slice Ao41 t451.length co41)).setCell ⟨gb457, 1, none⟩ (.int .i64 t454)).heap[gb457]? = some (.cells #[.slice Ao41 t451.length co41, .int .i64 t454] 32 (0, 0))) := ⟨by (with_reducible repeat (first | refine blk_drewN ?_ _ | refine blk_drew ?_ | refine blk_alloc ?_ _)); refine blk_put (cs := #[.slice Ao41 t451.length co41, .int .i64 0]) ?_ 1 _ rfl; (with_reducible repeat (first | refine blk_drewN ?_ _ | refine blk_drew ?_ | refine blk_alloc ?_ _)); refine blk_put (cs := #[.slice none 0 0, .int .i64 0]) ?_ 0 _ rfl; (with_reducible repeat (first | refine blk_drewN ?_ _ | refine blk_drew ?_ | refine blk_alloc ?_ _)); refine blk_far ?_ NB457_456.out _; (with_reducible repeat (first | refine blk_drewN ?_ _ | refine blk_drew ?_ | refine blk_alloc ?_ _)); exact BK457.out⟩
             have n4_ : Aside0 (Below w.heap.size w (((w37.setCell ⟨gb456, 0, none⟩ (.slice Ao38 t448.length co38)).setCell ⟨gb457, 0, none⟩ (.slice Ao41 t451.length co41)).setCell ⟨gb457, 1, none⟩ (.int .i64 t454))) := ⟨by repeat (first | (with_reducible first | exact HB.out | apply below_alloc | apply pw_below_drewN | apply below_drew1 | refine below_set ?_ GE456.out | refine below_set ?_ GE457.out) | exact HB.out)⟩
             (try clear HO450)
             (try clear HO453)
             (try clear BK456)
             (try clear BK457)
             (try clear HB)
             generalize (((w37.setCell ⟨gb456, 0, none⟩ (.slice Ao38 t448.length co38)).setCell ⟨gb457, 0, none⟩ (.slice Ao41 t451.length co41)).setCell ⟨gb457, 1, none⟩ (.int .i64 t454)) = w43 at n0_ n1_ n2_ n3_ n4_ ⊢
             have HO450 := n0_
             have HO453 := n1_
             have BK456 := n2_
             have BK457 := n3_
             have HB := n4_
             clear n0_ n1_ n2_ n3_ n4_
             have n0_ := Aside0.mk (Kd.S_drew HO450.out)
             have n1_ := Aside0.mk (Kd.Q_drew HO453.out)
             have n2_ := Aside0.mk (blk_drew BK456.out)
             have n3_ := Aside0.mk (blk_drew BK457.out)
             have n4_ := Aside0.mk (below_drew1 HB.out)
             clear HO450
             clear HO453
             clear BK456
             clear BK457
             clear HB
             have HO450 := n0_
             have HO453 := n1_
             have BK456 := n2_
             have BK457 := n3_
             have HB := n4_
             clear n0_ n1_ n2_ n3_ n4_
             refine start_ (n := 9) (S := fun w' => w'.cell? ⟨gb456, 0, none⟩ = some (.slice Ao38 t448.length co38) ∧ w'.cell? ⟨gb457, 0, none⟩ = some (.slice Ao41 t451.length co41) ∧ w'.cell? ⟨gb457, 1, none⟩ = some (.int .i64 t454)) (ds := []) #[false, false, false, false, false, false, false, false, false] (by kernel_rfl) rfl rfl ⟨(blk_cell BK456.out 0).trans rfl, (blk_cell BK457.out 0).trans rfl, (blk_cell BK457.out 1).trans rfl⟩ (fun hHeld => ?_); refine with_tabW laws_FnRegions.tab9 laws_FnRegions.bits9 (fun HT_ HW_ => ?_)
             generalize w43.drew = w44 at HO450 HO453 BK456 BK457 HB hHeld ⊢
             refine pure_ (i := 2) (N := some 43) (v := ?_) (a' := ?_) #[false, false, true, false, false, false, false, false, false] rfl rfl (any_of HT_.out (by kernel_rfl)) (fun _ _ _ h => h) (Or.inl ⟨by rfl, ?_⟩) ?_ ?_
             rotate_left
             ·intro w'
              go_simp
              with_reducible rfl
             rotate_left
             ·simp only [Act.put, List.setIfInBounds_toArray, List.set_cons_zero, List.set_cons_succ, i64_w, i32_w]
              rfl
             refine pure_ (i := 6) (N := some 47) (v := ?_) (a' := ?_) #[false, false, true, false, false, false, true, false, false] rfl rfl (any_of HT_.out (by kernel_rfl)) (fun _ _ _ h => h) (Or.inl ⟨by rfl, ?_⟩) ?_ ?_
             rotate_left
             ·intro w'
              go_simp
              with_reducible rfl
             rotate_left
             ·simp only [Act.put, List.setIfInBounds_toArray, List.set_cons_zero, List.set_cons_succ, i64_w, i32_w]
              rfl
             refine take_ (i := 0) (N := some 41) (v := ?_) (a' := ?_) #[true, false, true, false, false, false, true, false, false] rfl rfl (take_ofW HT_.out HW_.out (by kernel_rfl)) (fun _ _ _ h => h) (Or.inl ⟨by rfl, ?_⟩) hHeld ?_ ?_
             rotate_left
             ·rintro w' ⟨s0, s1, s2⟩
              go_simp
              with_reducible rfl
             rotate_left
             ·simp only [Act.put, List.setIfInBounds_toArray, List.set_cons_zero, List.set_cons_succ, i64_w, i32_w]
              rfl
             refine take_ (i := 1) (N := some 42) (v := ?_) (a' := ?_) #[true, true, true, false, false, false, true, false, false] rfl rfl (take_ofW HT_.out HW_.out (by kernel_rfl)) (fun _ _ _ h => h) (Or.inl ⟨by rfl, ?_⟩) hHeld ?_ ?_
             rotate_left
             ·rintro w' ⟨s0, s1, s2⟩
              go_simp
              with_reducible rfl
             rotate_left
             ·simp only [Act.put, List.setIfInBounds_toArray, List.set_cons_zero, List.set_cons_succ, i64_w, i32_w]
              rfl
             refine take_ (i := 4) (N := some 45) (v := ?_) (a' := ?_) #[true, true, true, false, true, false, true, false, false] rfl rfl (take_ofW HT_.out HW_.out (by kernel_rfl)) (fun _ _ _ h => h) (Or.inl ⟨by rfl, ?_⟩) hHeld ?_ ?_
             rotate_left
             ·rintro w' ⟨s0, s1, s2⟩
              go_simp
              with_reducible rfl
             rotate_left
             ·simp only [Act.put, List.setIfInBounds_toArray, List.set_cons_zero, List.set_cons_succ, i64_w, i32_w]
              rfl
             refine take_ (i := 5) (N := some 46) (v := ?_) (a' := ?_) #[true, true, true, false, true, true, true, false, false] rfl rfl (take_ofW HT_.out HW_.out (by kernel_rfl)) (fun _ _ _ h => h) (Or.inl ⟨by rfl, ?_⟩) hHeld ?_ ?_
             rotate_left
             ·rintro w' ⟨s0, s1, s2⟩
              go_simp
              with_reducible rfl
             rotate_left
             ·simp only [Act.put, List.setIfInBounds_toArray, List.set_cons_zero, List.set_cons_succ, i64_w, i32_w]
              rfl
             refine one_ (i := 3) (N := some 44) #[true, true, true, true, true, true, true, false, false] rfl rfl (one_of HT_.out (by kernel_rfl)) (by decide) (fun K hK => ?_)
             refine goes_ Try.func14 (by kernel_rfl) rfl #[.agg #[.slice Ao38 t448.length co38], .agg #[.slice Ao41 t451.length co41, .int .i64 t454], .int .i64 t455] (by rfl) rfl rfl (by (try simp only [List.map_toArray, List.map_cons, List.map_nil]); first | done | rfl | (simp only [List.length_drop, List.length_take]; rfl)) ?_
             with_reducible refine (impl_Peek.calls kj6 _ _ t448 _ _ t451 t454 t455 t458 _ ?side1 ?side2 ?side3 ?side4 A12.out).mono ?_
             (case side1 => repeat (first | exact (Kd.S_reads' HO450.out).2.2 | (with_reducible refine Kd.C_alloc ?_ _) | (with_reducible refine Kd.C_drewN ?_ _) | (with_reducible refine Kd.C_drew ?_)))
             (case side2 => exact (Kd.S_reads' HO450.out).2.1)
             (case side3 => repeat (first | exact (Kd.Q_reads' HO453.out).2.2 | (with_reducible refine Kd.C_alloc ?_ _) | (with_reducible refine Kd.C_drewN ?_ _) | (with_reducible refine Kd.C_drew ?_)))
             (case side4 => exact (Kd.Q_reads' HO453.out).2.1)
             rintro e w45 ⟨rfl, hb⟩
             refine ⟨_, rfl, ?_⟩
             have n0_ := Aside0.mk (Kd.S_below (by (with_reducible repeat (first | apply Kd.S_alloc | apply Kd.S_drewN | apply Kd.S_drew)); exact HO450.out) hb)
             have n1_ := Aside0.mk (Kd.Q_below (by (with_reducible repeat (first | apply Kd.Q_alloc | apply Kd.Q_drewN | apply Kd.Q_drew)); exact HO453.out) hb)
             have n2_ := Aside0.mk (blk_below (g := gb456) (o := .cells #[.slice Ao38 t448.length co38] 29 (0, 0)) (by (with_reducible repeat (first | refine blk_drewN ?_ _ | refine blk_drew ?_ | refine blk_alloc ?_ _)); exact BK456.out) hb)
             have n3_ := Aside0.mk (blk_below (g := gb457) (o := .cells #[.slice Ao41 t451.length co41, .int .i64 t454] 32 (0, 0)) (by (with_reducible repeat (first | refine blk_drewN ?_ _ | refine blk_drew ?_ | refine blk_alloc ?_ _)); exact BK457.out) hb)
             have n4_ := Aside0.mk (below_step (by repeat (first | (with_reducible first | exact HB.out | apply below_alloc | apply pw_below_drewN | apply below_drew1 | refine below_set ?_ GE456.out | refine below_set ?_ GE457.out) | exact HB.out)) hb)
             clear HO450
             clear HO453
             clear BK456
             clear BK457
             clear HB
             have HO450 := n0_
             have HO453 := n1_
             have BK456 := n2_
             have BK457 := n3_
             have HB := n4_
             clear n0_ n1_ n2_ n3_ n4_
             (try clear hb)
             (try clear hb2)
             (try clear hk)
             (try clear hi)
             refine hK.out _ _ ⟨(blk_cell BK456.out 0).trans rfl, (blk_cell BK457.out 0).trans rfl, (blk_cell BK457.out 1).trans rfl⟩ (fun hHeld => ?_)
             clear hK K
             refine norm_ (a' := ?_) ?_ ?_
             rotate_left
             ·show Act.put _ (some 44) _ = _
              simp only [Act.put, List.setIfInBounds_toArray, List.set_cons_zero, List.set_cons_succ, i64_w, i32_w]
              rfl
             refine one_ (i := 7) (N := some 48) #[true, true, true, true, true, true, true, true, false] rfl rfl (one_of HT_.out (by kernel_rfl)) (by decide) (fun K hK => ?_)
             refine goes_ Try.func15 (by kernel_rfl) rfl #[.agg #[.slice Ao38 t448.length co38], .agg #[.slice Ao41 t451.length co41, .int .i64 t454], .int .i64 t455] (by rfl) rfl rfl (by (try simp only [List.map_toArray, List.map_cons, List.map_nil]); first | done | rfl | (simp only [List.length_drop, List.length_take]; rfl)) ?_
             with_reducible refine (spec_Peek.calls kj6 _ _ t448 _ _ t451 t454 t455 t459 _ ?side1 ?side2 ?side3 ?side4 A13.out).mono ?_
             (case side1 => repeat (first | exact (Kd.S_reads' HO450.out).2.2 | (with_reducible refine Kd.C_alloc ?_ _) | (with_reducible refine Kd.C_drewN ?_ _) | (with_reducible refine Kd.C_drew ?_)))
             (case side2 => exact (Kd.S_reads' HO450.out).2.1)
             (case side3 => repeat (first | exact (Kd.Q_reads' HO453.out).2.2 | (with_reducible refine Kd.C_alloc ?_ _) | (with_reducible refine Kd.C_drewN ?_ _) | (with_reducible refine Kd.C_drew ?_)))
             (case side4 => exact (Kd.Q_reads' HO453.out).2.1)
             rintro e w46 ⟨rfl, hb⟩
             refine ⟨_, rfl, ?_⟩
             have n0_ := Aside0.mk (Kd.S_below (by (with_reducible repeat (first | apply Kd.S_alloc | apply Kd.S_drewN | apply Kd.S_drew)); exact HO450.out) hb)
             have n1_ := Aside0.mk (Kd.Q_below (by (with_reducible repeat (first | apply Kd.Q_alloc | apply Kd.Q_drewN | apply Kd.Q_drew)); exact HO453.out) hb)
             have n2_ := Aside0.mk (blk_below (g := gb456) (o := .cells #[.slice Ao38 t448.length co38] 29 (0, 0)) (by (with_reducible repeat (first | refine blk_drewN ?_ _ | refine blk_drew ?_ | refine blk_alloc ?_ _)); exact BK456.out) hb)
             have n3_ := Aside0.mk (blk_below (g := gb457) (o := .cells #[.slice Ao41 t451.length co41, .int .i64 t454] 32 (0, 0)) (by (with_reducible repeat (first | refine blk_drewN ?_ _ | refine blk_drew ?_ | refine blk_alloc ?_ _)); exact BK457.out) hb)
             have n4_ := Aside0.mk (below_step (by repeat (first | (with_reducible first | exact HB.out | apply below_alloc | apply pw_below_drewN | apply below_drew1 | refine below_set ?_ GE456.out | refine below_set ?_ GE457.out) | exact HB.out)) hb)
             clear HO450
             clear HO453
             clear BK456
             clear BK457
             clear HB
             have HO450 := n0_
             have HO453 := n1_
             have BK456 := n2_
             have BK457 := n3_
             have HB := n4_
             clear n0_ n1_ n2_ n3_ n4_
             (try clear hb)
             (try clear hb2)
             (try clear hk)
             (try clear hi)
             refine hK.out _ _ ⟨(blk_cell BK456.out 0).trans rfl, (blk_cell BK457.out 0).trans rfl, (blk_cell BK457.out 1).trans rfl⟩ (fun hHeld => ?_)
             clear hK K
             refine norm_ (a' := ?_) ?_ ?_
             rotate_left
             ·show Act.put _ (some 48) _ = _
              simp only [Act.put, List.setIfInBounds_toArray, List.set_cons_zero, List.set_cons_succ, i64_w, i32_w]
              rfl
             refine pure_ (i := 8) (N := some 49) (v := ?_) (a' := ?_) #[true, true, true, true, true, true, true, true, true] rfl rfl (any_of HT_.out (by kernel_rfl)) (fun _ _ _ h => h) (Or.inl ⟨by rfl, ?_⟩) ?_ ?_
             rotate_left
             ·intro w'
              go_simp
              with_reducible rfl
             rotate_left
             ·simp only [Act.put, List.setIfInBounds_toArray, List.set_cons_zero, List.set_cons_succ, i64_w, i32_w]
              rfl
             refine done_ (done_of HT_.out (by kernel_rfl)) ?_
             try go_wp2_with (first | ((with_reducible refine gate_callee (f := 11) rfl ?_); refine goesL_ (some 53) rfl rfl Try.func11 (by kernel_rfl) rfl #[.int .i64 (wrap64 (t443 + 65536))] rfl (by (try simp only [List.map_toArray, List.map_cons, List.map_nil]); first | done | rfl | (simp only [List.length_drop, List.length_take]; rfl)) ?_; (with_reducible refine (impl_Region.calls (wrap64 (t443 + 65536)) t460 t461 _ A15.out).mono ?_); rintro e w' ⟨rfl, ⟨nd, rfl⟩⟩; refine ⟨_, rfl, ?_⟩))
             go_ret
             exact ⟨by first | rfl | (simp [errW_none, errW_some] <;> rfl) | (simp [*, errW_none, errW_some] <;> rfl), by repeat (first | (with_reducible first | exact HB.out | apply below_alloc | apply pw_below_drewN | apply below_drew1 | refine below_set ?_ GE456.out | refine below_set ?_ GE457.out) | exact HB.out)⟩
            ·rw [if_neg c34] at H
             have c34b0 : (t444 == 6) = false := beq_eq_false_iff_ne.mpr c34
             have c34b1 : (t444 != 6) = true := bne_iff_ne.mpr c34
             obtain rfl := Option.some.inj H
             try go_wp2_with (first | ((with_reducible refine gate_callee (f := 13) rfl ?_); refine goesL_ (some 37) rfl rfl Try.func13 (by kernel_rfl) rfl #[.slice A0 l0.length c0] rfl (by (try simp only [List.map_toArray, List.map_cons, List.map_nil]); first | done | rfl | (simp only [List.length_drop, List.length_take]; rfl)) ?_; (with_reducible refine (spec_DrawPeek.calls kj6 _ _ l0 t448 t451 t454 t455 _ ?side1 ?side2 A11.out).mono ?_); (case side1 => repeat (first | exact (Kd.C_below HR0.out HB.out) | (with_reducible refine Kd.C_alloc ?_ _) | (with_reducible refine Kd.C_drewN ?_ _) | (with_reducible refine Kd.C_drew ?_))); (case side2 => exact HC0.out); rintro e w47 ⟨v449, v452, rfl, ho0, ho1, hb⟩; refine ⟨_, rfl, ?_⟩; have n0_ := Aside0.mk (Kd.S_lower ho0 (below_size (by repeat (first | (with_reducible first | exact HB.out | apply below_alloc | apply pw_below_drewN | apply below_drew1) | exact HB.out)))); have n1_ := Aside0.mk (Kd.Q_lower ho1 (below_size (by repeat (first | (with_reducible first | exact HB.out | apply below_alloc | apply pw_below_drewN | apply below_drew1) | exact HB.out)))); have n2_ := Aside0.mk (below_step (by repeat (first | (with_reducible first | exact HB.out | apply below_alloc | apply pw_below_drewN | apply below_drew1) | exact HB.out)) hb); clear HB; have HO450 := n0_; have HO453 := n1_; have HB := n2_; clear n0_ n1_ n2_; (try clear hb); (try clear hb2); (try clear hk); (try clear hi); (try clear ho0); (try clear ho1)) | ((with_reducible refine gate_dst (N := 8) rfl ?_); refine box_event ?hg (N := 8) ?hd (cs := #[.slice none 0 0]) (t := 29) ?hr ?_; (case hd => rfl); (case hg => rfl); (case hr => first | (go_simp; done) | (go_simp; rfl)); intro gb456 hg w48 hbox hb; have n0_ := Aside0.mk (Kd.S_below (by (with_reducible repeat (first | apply Kd.S_alloc | apply Kd.S_drewN | apply Kd.S_drew)); exact HO450.out) hb); have n1_ := Aside0.mk (Kd.Q_below (by (with_reducible repeat (first | apply Kd.Q_alloc | apply Kd.Q_drewN | apply Kd.Q_drew)); exact HO453.out) hb); have n2_ := Aside0.mk (below_step (by repeat (first | (with_reducible first | exact HB.out | apply below_alloc | apply pw_below_drewN | apply below_drew1) | exact HB.out)) hb); have n3_ := Aside0.mk (hbox); have n4_ := Aside0.mk ((by rw [hg]; exact (below_size (by repeat (first | (with_reducible first | exact HB.out | apply below_alloc | apply pw_below_drewN | apply below_drew1) | exact HB.out))) : w.heap.size ≤ gb456)); have n5_ := Aside0.mk ((by rw [hg]; exact (below_size (by repeat (first | (with_reducible first | exact HB.out | apply below_alloc | apply pw_below_drewN | apply below_drew1) | exact HB.out))) : w.heap.size ≤ gb456)); clear HO450; clear HO453; clear HB; have HO450 := n0_; have HO453 := n1_; have HB := n2_; have BK456 := n3_; have GW456 := n4_; have GE456 := n5_; clear n0_ n1_ n2_ n3_ n4_ n5_; clear hb hbox hg) | ((with_reducible refine gate_dst (N := 9) rfl ?_); refine box_event ?hg (N := 9) ?hd (cs := #[.slice none 0 0, .int .i64 0]) (t := 32) ?hr ?_; (case hd => rfl); (case hg => rfl); (case hr => first | (go_simp; done) | (go_simp; rfl)); intro gb457 hg w49 hbox hb; have n0_ := Aside0.mk (Kd.S_below (by (with_reducible repeat (first | apply Kd.S_alloc | apply Kd.S_drewN | apply Kd.S_drew)); exact HO450.out) hb); have n1_ := Aside0.mk (Kd.Q_below (by (with_reducible repeat (first | apply Kd.Q_alloc | apply Kd.Q_drewN | apply Kd.Q_drew)); exact HO453.out) hb); have n2_ := Aside0.mk (blk_below (g := gb456) (o := .cells #[.slice none 0 0] 29 (0, 0)) (by (with_reducible repeat (first | refine blk_drewN ?_ _ | refine blk_drew ?_ | refine blk_alloc ?_ _)); exact BK456.out) hb); have n3_ := Aside0.mk (below_step (by repeat (first | (with_reducible first | exact HB.out | apply below_alloc | apply pw_below_drewN | apply below_drew1 | refine below_set ?_ GE456.out) | exact HB.out)) hb); have n4_ := Aside0.mk (hbox); have n5_ := Aside0.mk ((by rw [hg]; exact (below_size (by repeat (first | (with_reducible first | exact HB.out | apply below_alloc | apply pw_below_drewN | apply below_drew1 | refine below_set ?_ GE456.out) | exact HB.out))) : w.heap.size ≤ gb457)); have n6_ := Aside0.mk ((by rw [hg]; exact (below_size (by repeat (first | (with_reducible first | exact HB.out | apply below_alloc | apply pw_below_drewN | apply below_drew1 | refine below_set ?_ GE456.out) | exact HB.out))) : w.heap.size ≤ gb457)); have n7_ := Aside0.mk ((by rw [hg]; exact Nat.ne_of_lt (blk_lt (g := gb456) (o := .cells #[.slice none 0 0] 29 (0, 0)) (by (with_reducible repeat (first | refine blk_drewN ?_ _ | refine blk_drew ?_ | refine blk_alloc ?_ _)); exact BK456.out)) : gb456 ≠ gb457)); have n8_ := Aside0.mk ((by rw [hg]; exact Nat.ne_of_gt (blk_lt (g := gb456) (o := .cells #[.slice none 0 0] 29 (0, 0)) (by (with_reducible repeat (first | refine blk_drewN ?_ _ | refine blk_drew ?_ | refine blk_alloc ?_ _)); exact BK456.out)) : gb457 ≠ gb456)); clear HO450; clear HO453; clear BK456; clear HB; have HO450 := n0_; have HO453 := n1_; have BK456 := n2_; have HB := n3_; have BK457 := n4_; have GW457 := n5_; have GE457 := n6_; have NB456_457 := n7_; have NB457_456 := n8_; clear n0_ n1_ n2_ n3_ n4_ n5_ n6_ n7_ n8_; clear hb hbox hg; obtain ⟨Ao50, co50, eo50⟩ := Kd.S_slice HO450.out; subst eo50; have hnb51 := NB456_457.out; have hnc51 := NB457_456.out; have hcz52_0 : w49.cell? ⟨gb456, 0, none⟩ = some (.slice none 0 0) := (blk_cell BK456.out 0).trans rfl; have hfz52_0 := blk_frozen BK456.out 0; obtain ⟨Ao53, co53, eo53, _⟩ := Kd.Q_slice HO453.out; subst eo53; have hcz54_0 : w49.cell? ⟨gb457, 0, none⟩ = some (.slice none 0 0) := (blk_cell BK457.out 0).trans rfl; have hcz54_1 : w49.cell? ⟨gb457, 1, none⟩ = some (.int .i64 0) := (blk_cell BK457.out 1).trans rfl; have hfz54_0 := blk_frozen BK457.out 0; have hfz54_1 := blk_frozen BK457.out 1))
             have n0_ : Aside0 (Kd.S (cutK 3 (Kd.int .i64)) 30 (((w49.setCell ⟨gb456, 0, none⟩ (.slice Ao50 t448.length co50)).setCell ⟨gb457, 0, none⟩ (.slice Ao53 t451.length co53)).setCell ⟨gb457, 1, none⟩ (.int .i64 t454)) w.heap.size (fun k_ => some k_ ≠ (.slice Ao53 t451.length co53 : Value).ownBlock) (.slice Ao50 t448.length co50) t448) := ⟨by (with_reducible repeat (first | apply Kd.S_alloc | apply Kd.S_drewN | apply Kd.S_drew)); exact Kd.S_mono (Kd.S_far (p := ⟨gb457, 1, none⟩) (Kd.S_far (p := ⟨gb457, 0, none⟩) (Kd.S_far (p := ⟨gb456, 0, none⟩) (Kd.S_types (Kd.S_types HO450.out BK456.out (by decide)) BK457.out (by decide)) (fun _ hk => hk.1.2) (.slice Ao50 t448.length co50)) (fun _ hk => hk.2) (.slice Ao53 t451.length co53)) (fun _ hk => hk.2) (.int .i64 t454)) (fun _ hk => hk.1.1)⟩
             have n1_ : Aside0 (Kd.Q (Kd.int .i64) 3 (((w49.setCell ⟨gb456, 0, none⟩ (.slice Ao50 t448.length co50)).setCell ⟨gb457, 0, none⟩ (.slice Ao53 t451.length co53)).setCell ⟨gb457, 1, none⟩ (.int .i64 t454)) w.heap.size (fun _ => True) (.slice Ao53 t451.length co53) t451) := ⟨by (with_reducible repeat (first | apply Kd.Q_alloc | apply Kd.Q_drewN | apply Kd.Q_drew)); exact Kd.Q_mono (Kd.Q_far (p := ⟨gb457, 1, none⟩) (Kd.Q_far (p := ⟨gb457, 0, none⟩) (Kd.Q_far (p := ⟨gb456, 0, none⟩) (Kd.Q_types (Kd.Q_types HO453.out BK456.out (by decide)) BK457.out (by decide)) (fun _ hk => hk.1.2) (.slice Ao50 t448.length co50)) (fun _ hk => hk.2) (.slice Ao53 t451.length co53)) (fun _ hk => hk.2) (.int .i64 t454)) (fun _ hk => trivial)⟩
             have n2_ : Aside0 ((((w49.setCell ⟨gb456, 0, none⟩ (.slice Ao50 t448.length co50)).setCell ⟨gb457, 0, none⟩ (.slice Ao53 t451.length co53)).setCell ⟨gb457, 1, none⟩ (.int .i64 t454)).heap[gb456]? = some (.cells #[.slice Ao50 t448.length co50] 29 (0, 0))) := ⟨by (with_reducible repeat (first | refine blk_drewN ?_ _ | refine blk_drew ?_ | refine blk_alloc ?_ _)); refine blk_far ?_ NB456_457.out _; (with_reducible repeat (first | refine blk_drewN ?_ _ | refine blk_drew ?_ | refine blk_alloc ?_ _)); refine blk_far ?_ NB456_457.out _; (with_reducible repeat (first | refine blk_drewN ?_ _ | refine blk_drew ?_ | refine blk_alloc ?_ _)); refine blk_put (cs := #[.slice none 0 0]) ?_ 0 _ rfl; (with_reducible repeat (first | refine blk_drewN ?_ _ | refine blk_drew ?_ | refine blk_alloc ?_ _)); exact BK456.out⟩
             have n3_ : Aside0 ((((w49.setCell ⟨gb456, 0, none⟩ (.slice Ao50 t448.length co50)).setCell ⟨gb457, 0, none⟩ (.slice Ao53 t451.length co53)).setCell ⟨gb457, 1, none⟩ (.int .i64 t454)).heap[gb457]? = some (.cells #[.slice Ao53 t451.length co53, .int .i64 t454] 32 (0, 0))) := ⟨by (with_reducible repeat (first | refine blk_drewN ?_ _ | refine blk_drew ?_ | refine blk_alloc ?_ _)); refine blk_put (cs := #[.slice Ao53 t451.length co53, .int .i64 0]) ?_ 1 _ rfl; (with_reducible repeat (first | refine blk_drewN ?_ _ | refine blk_drew ?_ | refine blk_alloc ?_ _)); refine blk_put (cs := #[.slice none 0 0, .int .i64 0]) ?_ 0 _ rfl; (with_reducible repeat (first | refine blk_drewN ?_ _ | refine blk_drew ?_ | refine blk_alloc ?_ _)); refine blk_far ?_ NB457_456.out _; (with_reducible repeat (first | refine blk_drewN ?_ _ | refine blk_drew ?_ | refine blk_alloc ?_ _)); exact BK457.out⟩
             have n4_ : Aside0 (Below w.heap.size w (((w49.setCell ⟨gb456, 0, none⟩ (.slice Ao50 t448.length co50)).setCell ⟨gb457, 0, none⟩ (.slice Ao53 t451.length co53)).setCell ⟨gb457, 1, none⟩ (.int .i64 t454))) := ⟨by repeat (first | (with_reducible first | exact HB.out | apply below_alloc | apply pw_below_drewN | apply below_drew1 | refine below_set ?_ GE456.out | refine below_set ?_ GE457.out) | exact HB.out)⟩
             (try clear HO450)
             (try clear HO453)
             (try clear BK456)
             (try clear BK457)
             (try clear HB)
             generalize (((w49.setCell ⟨gb456, 0, none⟩ (.slice Ao50 t448.length co50)).setCell ⟨gb457, 0, none⟩ (.slice Ao53 t451.length co53)).setCell ⟨gb457, 1, none⟩ (.int .i64 t454)) = w55 at n0_ n1_ n2_ n3_ n4_ ⊢
             have HO450 := n0_
             have HO453 := n1_
             have BK456 := n2_
             have BK457 := n3_
             have HB := n4_
             clear n0_ n1_ n2_ n3_ n4_
             have n0_ := Aside0.mk (Kd.S_drew HO450.out)
             have n1_ := Aside0.mk (Kd.Q_drew HO453.out)
             have n2_ := Aside0.mk (blk_drew BK456.out)
             have n3_ := Aside0.mk (blk_drew BK457.out)
             have n4_ := Aside0.mk (below_drew1 HB.out)
             clear HO450
             clear HO453
             clear BK456
             clear BK457
             clear HB
             have HO450 := n0_
             have HO453 := n1_
             have BK456 := n2_
             have BK457 := n3_
             have HB := n4_
             clear n0_ n1_ n2_ n3_ n4_
             refine start_ (n := 9) (S := fun w' => w'.cell? ⟨gb456, 0, none⟩ = some (.slice Ao50 t448.length co50) ∧ w'.cell? ⟨gb457, 0, none⟩ = some (.slice Ao53 t451.length co53) ∧ w'.cell? ⟨gb457, 1, none⟩ = some (.int .i64 t454)) (ds := []) #[false, false, false, false, false, false, false, false, false] (by kernel_rfl) rfl rfl ⟨(blk_cell BK456.out 0).trans rfl, (blk_cell BK457.out 0).trans rfl, (blk_cell BK457.out 1).trans rfl⟩ (fun hHeld => ?_); refine with_tabW laws_FnRegions.tab9 laws_FnRegions.bits9 (fun HT_ HW_ => ?_)
             generalize w55.drew = w56 at HO450 HO453 BK456 BK457 HB hHeld ⊢
             refine pure_ (i := 2) (N := some 43) (v := ?_) (a' := ?_) #[false, false, true, false, false, false, false, false, false] rfl rfl (any_of HT_.out (by kernel_rfl)) (fun _ _ _ h => h) (Or.inl ⟨by rfl, ?_⟩) ?_ ?_
             rotate_left
             ·intro w'
              go_simp
              with_reducible rfl
             rotate_left
             ·simp only [Act.put, List.setIfInBounds_toArray, List.set_cons_zero, List.set_cons_succ, i64_w, i32_w]
              rfl
             refine pure_ (i := 6) (N := some 47) (v := ?_) (a' := ?_) #[false, false, true, false, false, false, true, false, false] rfl rfl (any_of HT_.out (by kernel_rfl)) (fun _ _ _ h => h) (Or.inl ⟨by rfl, ?_⟩) ?_ ?_
             rotate_left
             ·intro w'
              go_simp
              with_reducible rfl
             rotate_left
             ·simp only [Act.put, List.setIfInBounds_toArray, List.set_cons_zero, List.set_cons_succ, i64_w, i32_w]
              rfl
             refine take_ (i := 0) (N := some 41) (v := ?_) (a' := ?_) #[true, false, true, false, false, false, true, false, false] rfl rfl (take_ofW HT_.out HW_.out (by kernel_rfl)) (fun _ _ _ h => h) (Or.inl ⟨by rfl, ?_⟩) hHeld ?_ ?_
             rotate_left
             ·rintro w' ⟨s0, s1, s2⟩
              go_simp
              with_reducible rfl
             rotate_left
             ·simp only [Act.put, List.setIfInBounds_toArray, List.set_cons_zero, List.set_cons_succ, i64_w, i32_w]
              rfl
             refine take_ (i := 1) (N := some 42) (v := ?_) (a' := ?_) #[true, true, true, false, false, false, true, false, false] rfl rfl (take_ofW HT_.out HW_.out (by kernel_rfl)) (fun _ _ _ h => h) (Or.inl ⟨by rfl, ?_⟩) hHeld ?_ ?_
             rotate_left
             ·rintro w' ⟨s0, s1, s2⟩
              go_simp
              with_reducible rfl
             rotate_left
             ·simp only [Act.put, List.setIfInBounds_toArray, List.set_cons_zero, List.set_cons_succ, i64_w, i32_w]
              rfl
             refine take_ (i := 4) (N := some 45) (v := ?_) (a' := ?_) #[true, true, true, false, true, false, true, false, false] rfl rfl (take_ofW HT_.out HW_.out (by kernel_rfl)) (fun _ _ _ h => h) (Or.inl ⟨by rfl, ?_⟩) hHeld ?_ ?_
             rotate_left
             ·rintro w' ⟨s0, s1, s2⟩
              go_simp
              with_reducible rfl
             rotate_left
             ·simp only [Act.put, List.setIfInBounds_toArray, List.set_cons_zero, List.set_cons_succ, i64_w, i32_w]
              rfl
             refine take_ (i := 5) (N := some 46) (v := ?_) (a' := ?_) #[true, true, true, false, true, true, true, false, false] rfl rfl (take_ofW HT_.out HW_.out (by kernel_rfl)) (fun _ _ _ h => h) (Or.inl ⟨by rfl, ?_⟩) hHeld ?_ ?_
             rotate_left
             ·rintro w' ⟨s0, s1, s2⟩
              go_simp
              with_reducible rfl
             rotate_left
             ·simp only [Act.put, List.setIfInBounds_toArray, List.set_cons_zero, List.set_cons_succ, i64_w, i32_w]
              rfl
             refine one_ (i := 3) (N := some 44) #[true, true, true, true, true, true, true, false, false] rfl rfl (one_of HT_.out (by kernel_rfl)) (by decide) (fun K hK => ?_)
             refine goes_ Try.func14 (by kernel_rfl) rfl #[.agg #[.slice Ao50 t448.length co50], .agg #[.slice Ao53 t451.length co53, .int .i64 t454], .int .i64 t455] (by rfl) rfl rfl (by (try simp only [List.map_toArray, List.map_cons, List.map_nil]); first | done | rfl | (simp only [List.length_drop, List.length_take]; rfl)) ?_
             with_reducible refine (impl_Peek.calls kj6 _ _ t448 _ _ t451 t454 t455 t458 _ ?side1 ?side2 ?side3 ?side4 A12.out).mono ?_
             (case side1 => repeat (first | exact (Kd.S_reads' HO450.out).2.2 | (with_reducible refine Kd.C_alloc ?_ _) | (with_reducible refine Kd.C_drewN ?_ _) | (with_reducible refine Kd.C_drew ?_)))
             (case side2 => exact (Kd.S_reads' HO450.out).2.1)
             (case side3 => repeat (first | exact (Kd.Q_reads' HO453.out).2.2 | (with_reducible refine Kd.C_alloc ?_ _) | (with_reducible refine Kd.C_drewN ?_ _) | (with_reducible refine Kd.C_drew ?_)))
             (case side4 => exact (Kd.Q_reads' HO453.out).2.1)
             rintro e w57 ⟨rfl, hb⟩
             refine ⟨_, rfl, ?_⟩
             have n0_ := Aside0.mk (Kd.S_below (by (with_reducible repeat (first | apply Kd.S_alloc | apply Kd.S_drewN | apply Kd.S_drew)); exact HO450.out) hb)
             have n1_ := Aside0.mk (Kd.Q_below (by (with_reducible repeat (first | apply Kd.Q_alloc | apply Kd.Q_drewN | apply Kd.Q_drew)); exact HO453.out) hb)
             have n2_ := Aside0.mk (blk_below (g := gb456) (o := .cells #[.slice Ao50 t448.length co50] 29 (0, 0)) (by (with_reducible repeat (first | refine blk_drewN ?_ _ | refine blk_drew ?_ | refine blk_alloc ?_ _)); exact BK456.out) hb)
             have n3_ := Aside0.mk (blk_below (g := gb457) (o := .cells #[.slice Ao53 t451.length co53, .int .i64 t454] 32 (0, 0)) (by (with_reducible repeat (first | refine blk_drewN ?_ _ | refine blk_drew ?_ | refine blk_alloc ?_ _)); exact BK457.out) hb)
             have n4_ := Aside0.mk (below_step (by repeat (first | (with_reducible first | exact HB.out | apply below_alloc | apply pw_below_drewN | apply below_drew1 | refine below_set ?_ GE456.out | refine below_set ?_ GE457.out) | exact HB.out)) hb)
             clear HO450
             clear HO453
             clear BK456
             clear BK457
             clear HB
             have HO450 := n0_
             have HO453 := n1_
             have BK456 := n2_
             have BK457 := n3_
             have HB := n4_
             clear n0_ n1_ n2_ n3_ n4_
             (try clear hb)
             (try clear hb2)
             (try clear hk)
             (try clear hi)
             refine hK.out _ _ ⟨(blk_cell BK456.out 0).trans rfl, (blk_cell BK457.out 0).trans rfl, (blk_cell BK457.out 1).trans rfl⟩ (fun hHeld => ?_)
             clear hK K
             refine norm_ (a' := ?_) ?_ ?_
             rotate_left
             ·show Act.put _ (some 44) _ = _
              simp only [Act.put, List.setIfInBounds_toArray, List.set_cons_zero, List.set_cons_succ, i64_w, i32_w]
              rfl
             refine one_ (i := 7) (N := some 48) #[true, true, true, true, true, true, true, true, false] rfl rfl (one_of HT_.out (by kernel_rfl)) (by decide) (fun K hK => ?_)
             refine goes_ Try.func15 (by kernel_rfl) rfl #[.agg #[.slice Ao50 t448.length co50], .agg #[.slice Ao53 t451.length co53, .int .i64 t454], .int .i64 t455] (by rfl) rfl rfl (by (try simp only [List.map_toArray, List.map_cons, List.map_nil]); first | done | rfl | (simp only [List.length_drop, List.length_take]; rfl)) ?_
             with_reducible refine (spec_Peek.calls kj6 _ _ t448 _ _ t451 t454 t455 t459 _ ?side1 ?side2 ?side3 ?side4 A13.out).mono ?_
             (case side1 => repeat (first | exact (Kd.S_reads' HO450.out).2.2 | (with_reducible refine Kd.C_alloc ?_ _) | (with_reducible refine Kd.C_drewN ?_ _) | (with_reducible refine Kd.C_drew ?_)))
             (case side2 => exact (Kd.S_reads' HO450.out).2.1)
             (case side3 => repeat (first | exact (Kd.Q_reads' HO453.out).2.2 | (with_reducible refine Kd.C_alloc ?_ _) | (with_reducible refine Kd.C_drewN ?_ _) | (with_reducible refine Kd.C_drew ?_)))
             (case side4 => exact (Kd.Q_reads' HO453.out).2.1)
             rintro e w58 ⟨rfl, hb⟩
             refine ⟨_, rfl, ?_⟩
             have n0_ := Aside0.mk (Kd.S_below (by (with_reducible repeat (first | apply Kd.S_alloc | apply Kd.S_drewN | apply Kd.S_drew)); exact HO450.out) hb)
             have n1_ := Aside0.mk (Kd.Q_below (by (with_reducible repeat (first | apply Kd.Q_alloc | apply Kd.Q_drewN | apply Kd.Q_drew)); exact HO453.out) hb)
             have n2_ := Aside0.mk (blk_below (g := gb456) (o := .cells #[.slice Ao50 t448.length co50] 29 (0, 0)) (by (with_reducible repeat (first | refine blk_drewN ?_ _ | refine blk_drew ?_ | refine blk_alloc ?_ _)); exact BK456.out) hb)
             have n3_ := Aside0.mk (blk_below (g := gb457) (o := .cells #[.slice Ao53 t451.length co53, .int .i64 t454] 32 (0, 0)) (by (with_reducible repeat (first | refine blk_drewN ?_ _ | refine blk_drew ?_ | refine blk_alloc ?_ _)); exact BK457.out) hb)
             have n4_ := Aside0.mk (below_step (by repeat (first | (with_reducible first | exact HB.out | apply below_alloc | apply pw_below_drewN | apply below_drew1 | refine below_set ?_ GE456.out | refine below_set ?_ GE457.out) | exact HB.out)) hb)
             clear HO450
             clear HO453
             clear BK456
             clear BK457
             clear HB
             have HO450 := n0_
             have HO453 := n1_
             have BK456 := n2_
             have BK457 := n3_
             have HB := n4_
             clear n0_ n1_ n2_ n3_ n4_
             (try clear hb)
             (try clear hb2)
             (try clear hk)
             (try clear hi)
             refine hK.out _ _ ⟨(blk_cell BK456.out 0).trans rfl, (blk_cell BK457.out 0).trans rfl, (blk_cell BK457.out 1).trans rfl⟩ (fun hHeld => ?_)
             clear hK K
             refine norm_ (a' := ?_) ?_ ?_
             rotate_left
             ·show Act.put _ (some 48) _ = _
              simp only [Act.put, List.setIfInBounds_toArray, List.set_cons_zero, List.set_cons_succ, i64_w, i32_w]
              rfl
             refine pure_ (i := 8) (N := some 49) (v := ?_) (a' := ?_) #[true, true, true, true, true, true, true, true, true] rfl rfl (any_of HT_.out (by kernel_rfl)) (fun _ _ _ h => h) (Or.inl ⟨by rfl, ?_⟩) ?_ ?_
             rotate_left
             ·intro w'
              go_simp
              with_reducible rfl
             rotate_left
             ·simp only [Act.put, List.setIfInBounds_toArray, List.set_cons_zero, List.set_cons_succ, i64_w, i32_w]
              rfl
             refine done_ (done_of HT_.out (by kernel_rfl)) ?_
             try go_wp2_with (first | ((with_reducible refine gate_callee (f := 11) rfl ?_); refine goesL_ (some 53) rfl rfl Try.func11 (by kernel_rfl) rfl #[.int .i64 (wrap64 (t443 + 65536))] rfl (by (try simp only [List.map_toArray, List.map_cons, List.map_nil]); first | done | rfl | (simp only [List.length_drop, List.length_take]; rfl)) ?_; (with_reducible refine (impl_Region.calls (wrap64 (t443 + 65536)) t460 t461 _ A15.out).mono ?_); rintro e w' ⟨rfl, ⟨nd, rfl⟩⟩; refine ⟨_, rfl, ?_⟩))
             go_ret
             exact ⟨by first | rfl | (simp [errW_none, errW_some] <;> rfl) | (simp [*, errW_none, errW_some] <;> rfl), by repeat (first | (with_reducible first | exact HB.out | apply below_alloc | apply pw_below_drewN | apply below_drew1 | refine below_set ?_ GE456.out | refine below_set ?_ GE457.out) | exact HB.out)⟩
          ·rw [if_neg c20] at H
           have c20b0 : (t460 == t444) = false := beq_eq_false_iff_ne.mpr c20
           have c20b1 : (t460 != t444) = true := bne_iff_ne.mpr c20
           exact absurd ((Option.some.inj H).trans hrt) (by decide)
         ·rw [if_neg c19] at H
          have c19b0 : decide (t445 < 512) = false := decide_eq_false c19
          clear c19
          exact absurd ((Option.some.inj H).trans hrt) (by decide)
        ·rw [if_neg c18] at H
         have c18b0 : decide (0 ≤ t445) = false := decide_eq_false c18
         clear c18
         exact absurd ((Option.some.inj H).trans hrt) (by decide)
       ·rw [if_neg c17] at H
        have c17b0 : decide (t444 ≤ 7) = false := decide_eq_false c17
        clear c17
        exact absurd ((Option.some.inj H).trans hrt) (by decide)
      ·rw [if_neg c16] at H
       have c16b0 : decide (1 ≤ t444) = false := decide_eq_false c16
       clear c16
       exact absurd ((Option.some.inj H).trans hrt) (by decide)
     ·rw [if_neg c14] at H
      have c14b0 : (t458 == t459) = false := beq_eq_false_iff_ne.mpr c14
      have c14b1 : (t458 != t459) = true := bne_iff_ne.mpr c14
      exact absurd ((Option.some.inj H).trans hrt) (by decide)

end Go.Proofs.Ytmkccgbfgebfbaa.MFnRegions
