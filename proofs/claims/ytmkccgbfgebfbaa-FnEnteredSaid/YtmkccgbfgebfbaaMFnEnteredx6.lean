/- Walks of functions that the law FnEntered reaches: each comes to just what its Lean function says. (Begun as the texts that print.sh wrote for this claim; some of them, and those that it does not write, are mine.) No condition. -/
import Derived.Test.YtmkccgbfgebfbaaMFnEnteredx5
namespace Go.Proofs.Ytmkccgbfgebfbaa.MFnEntered
open Go.RowKit Go.Proofs.YtmkccgbfgebfbaaW.PrintWords Go.Proofs.YtmkccgbfgebfbaaW.PrintLast Go.Proofs.YtmkccgbfgebfbaaW.PrintMore
attribute [local go_sem] max2_int min2_int max_two min_two max_three min_three max_four min_four   -- for this text's walks alone
set_option linter.unusedVariables false
set_option linter.unusedSimpArgs false

/-! ### spec_Peek: function 15 -/
def spec_Peek.f (k : Nat) (l0_0 : List (List Int)) (l1_0 : List Int) (a1_1 : Int) (a2 : Int) : Option (Int) := (spec_MemOk.f k l0_0 l1_0 a1_1).bind fun t697 => (if t697 = true then ((spec_l6Peek.f l0_0 l1_0 a1_1 a2).bind fun t698 => (some t698)) else (some 0))
set_option maxHeartbeats 8000000 in
set_option maxRecDepth 100000 in
theorem spec_Peek.calls (k : Nat) (A0_0 : Option Addr) (c0_0 : Nat) (l0_0 : List (List Int)) (A1_0 : Option Addr) (c1_0 : Nat) (l1_0 : List Int) (a1_1 : Int) (a2 : Int) (r : Int) (w : World) (hr0_0 : Kd.C (Kd.slice 3 (Kd.int .i64)) w A0_0 l0_0.length l0_0) (hc0_0 : l0_0.length ≤ c0_0) (hr1_0 : Kd.C (Kd.int .i64) w A1_0 l1_0.length l1_0) (hc1_0 : l1_0.length ≤ c1_0) (h : spec_Peek.f k l0_0 l1_0 a1_1 a2 = some r) :
  Calls Try.prog 15 #[.agg #[.slice A0_0 l0_0.length c0_0], .agg #[.slice A1_0 l1_0.length c1_0, .int .i64 a1_1], .int .i64 a2] w fun e w' => e = .returned (.int .i64 r) ∧ Below w.heap.size w w' := by
 have hu29 := Try.underlying29
 have hu32 := Try.underlying32
 have HR0_0 := Aside0.mk hr0_0
 have HC0_0 := Aside0.mk hc0_0
 clear hr0_0 hc0_0
 have HR1_0 := Aside0.mk hr1_0
 have HC1_0 := Aside0.mk hc1_0
 clear hr1_0 hc1_0
 have HB := Aside0.mk (Below.refl w.heap.size w)
 have H : ((spec_MemOk.f k l0_0 l1_0 a1_1).bind fun t697 => (if t697 = true then ((spec_l6Peek.f l0_0 l1_0 a1_1 a2).bind fun t698 => (some t698)) else (some 0))) = some r := h
 clear h
 replace H := Option.bind_eq_some_iff.mp H
 obtain ⟨t697, A40, H⟩ := H
 replace H : (if t697 = true then ((spec_l6Peek.f l0_0 l1_0 a1_1 a2).bind fun t698 => (some t698)) else (some 0)) = some r := H
 have A4 := Aside0.mk A40
 clear A40
 by_cases c5 : t697 = true
 ·subst c5
  have H1 : ((spec_l6Peek.f l0_0 l1_0 a1_1 a2).bind fun t698 => (some t698)) = some r := by rw [if_pos rfl] at H; exact H
  clear H
  have H := H1
  clear H1
  replace H := Option.bind_eq_some_iff.mp H
  obtain ⟨t698, A60, H⟩ := H
  replace H : (some t698) = some r := H
  have A6 := Aside0.mk A60
  clear A60
  obtain rfl := Option.some.inj H
  go_enter Try.func15, Try.ntmps15
  go_wp2_with (first | ((with_reducible refine gate_dst (N := 3) rfl ?_); refine bx (N := 3) (cs := #[.slice A0_0 l0_0.length c0_0]) (t := 29) ?_; intro gb695 hg w7 hbox hb; have BK695 := Aside0.mk (hbox); have GW695 := Aside0.mk ((gs hg (bw HB.out))); have GE695 := Aside0.mk ((gs hg (bw HB.out))); replace HB := Aside0.mk (below_step (bw HB.out) hb); clear hb hbox hg) | ((with_reducible refine gate_dst (N := 4) rfl ?_); refine bx (N := 4) (cs := #[.slice A1_0 l1_0.length c1_0, .int .i64 a1_1]) (t := 32) ?_; intro gb696 hg w8 hbox hb; have BK696 := Aside0.mk (hbox); have GW696 := Aside0.mk ((gs hg (bw HB.out))); have GE696 := Aside0.mk ((gs hg (bw HB.out))); replace HB := Aside0.mk (below_step (bw HB.out) hb); have NB695_696 := Aside0.mk ((ga hg BK695.out)); have NB696_695 := Aside0.mk ((gc hg BK695.out)); replace BK695 := Aside0.mk (bb BK695 hb); clear hb hbox hg; have hnb9 := NB695_696.out; have hnc9 := NB696_695.out; have hcz10_0 : w8.cell? ⟨gb695, 0, none⟩ = some (.slice A0_0 l0_0.length c0_0) := cl BK695 0; have hfz10_0 := blk_frozen BK695.out 0; obtain ⟨hcz11_0, hcz11_1⟩ := ce2 BK696; have hfz11_0 := blk_frozen BK696.out 0; have hfz11_1 := blk_frozen BK696.out 1) | ((with_reducible refine gate_callee (f := 33) rfl ?_); refine goesM_ (some 9) rfl rfl Try.func33 #[.agg #[.slice A0_0 l0_0.length c0_0], .agg #[.slice A1_0 l1_0.length c1_0, .int .i64 a1_1]] ?_; (with_reducible refine (spec_MemOk.calls k _ _ l0_0 _ _ l1_0 a1_1 true _ ?side1 ?side2 ?side3 ?side4 A4.out).mono ?_); (case side1 => exact kc (Kd.C_below HR0_0.out HB.out)); (case side2 => exact HC0_0.out); (case side3 => exact kc (Kd.C_below HR1_0.out HB.out)); (case side4 => exact HC1_0.out); rintro e w12 ⟨rfl, hb⟩; refine ⟨_, rfl, ?_⟩; replace BK695 := Aside0.mk (bb BK695 hb); replace BK696 := Aside0.mk (bb BK696 hb); replace HB := Aside0.mk (below_step (bw HB.out) hb); (try clear hb); (try clear hb2); (try clear hk); (try clear hi); have hcz13_0 : w12.cell? ⟨gb695, 0, none⟩ = some (.slice A0_0 l0_0.length c0_0) := cl BK695 0; have hfz13_0 := blk_frozen BK695.out 0; obtain ⟨hcz14_0, hcz14_1⟩ := ce2 BK696; have hfz14_0 := blk_frozen BK696.out 0; have hfz14_1 := blk_frozen BK696.out 1) | ((with_reducible refine gate_callee (f := 64) rfl ?_); refine goesM_ (some 14) rfl rfl Try.func64 #[.agg #[.slice A0_0 l0_0.length c0_0], .agg #[.slice A1_0 l1_0.length c1_0, .int .i64 a1_1], .int .i64 a2] ?_; (with_reducible refine (spec_l6Peek.calls _ _ l0_0 _ _ l1_0 a1_1 a2 t698 _ ?side1 ?side2 ?side3 ?side4 A6.out).mono ?_); (case side1 => exact kc (Kd.C_below HR0_0.out HB.out)); (case side2 => exact HC0_0.out); (case side3 => exact kc (Kd.C_below HR1_0.out HB.out)); (case side4 => exact HC1_0.out); rintro e w15 ⟨rfl, hb⟩; refine ⟨_, rfl, ?_⟩; replace BK695 := Aside0.mk (bb BK695 hb); replace BK696 := Aside0.mk (bb BK696 hb); replace HB := Aside0.mk (below_step (bw HB.out) hb); (try clear hb); (try clear hb2); (try clear hk); (try clear hi)))
  go_ret
  exact ⟨rt, bw HB.out⟩
 ·replace c5 := Bool.eq_false_iff.mpr c5
  subst c5
  have H1 : (some 0) = some r := by rw [if_neg (show ¬ (false = true) by decide)] at H; exact H
  clear H
  have H := H1
  clear H1
  obtain rfl := Option.some.inj H
  go_enter Try.func15, Try.ntmps15
  go_wp2_with (first | ((with_reducible refine gate_dst (N := 3) rfl ?_); refine bx (N := 3) (cs := #[.slice A0_0 l0_0.length c0_0]) (t := 29) ?_; intro gb695 hg w16 hbox hb; have BK695 := Aside0.mk (hbox); have GW695 := Aside0.mk ((gs hg (bw HB.out))); have GE695 := Aside0.mk ((gs hg (bw HB.out))); replace HB := Aside0.mk (below_step (bw HB.out) hb); clear hb hbox hg) | ((with_reducible refine gate_dst (N := 4) rfl ?_); refine bx (N := 4) (cs := #[.slice A1_0 l1_0.length c1_0, .int .i64 a1_1]) (t := 32) ?_; intro gb696 hg w17 hbox hb; have BK696 := Aside0.mk (hbox); have GW696 := Aside0.mk ((gs hg (bw HB.out))); have GE696 := Aside0.mk ((gs hg (bw HB.out))); replace HB := Aside0.mk (below_step (bw HB.out) hb); have NB695_696 := Aside0.mk ((ga hg BK695.out)); have NB696_695 := Aside0.mk ((gc hg BK695.out)); replace BK695 := Aside0.mk (bb BK695 hb); clear hb hbox hg; have hnb18 := NB695_696.out; have hnc18 := NB696_695.out; have hcz19_0 : w17.cell? ⟨gb695, 0, none⟩ = some (.slice A0_0 l0_0.length c0_0) := cl BK695 0; have hfz19_0 := blk_frozen BK695.out 0; obtain ⟨hcz20_0, hcz20_1⟩ := ce2 BK696; have hfz20_0 := blk_frozen BK696.out 0; have hfz20_1 := blk_frozen BK696.out 1) | ((with_reducible refine gate_callee (f := 33) rfl ?_); refine goesM_ (some 9) rfl rfl Try.func33 #[.agg #[.slice A0_0 l0_0.length c0_0], .agg #[.slice A1_0 l1_0.length c1_0, .int .i64 a1_1]] ?_; (with_reducible refine (spec_MemOk.calls k _ _ l0_0 _ _ l1_0 a1_1 false _ ?side1 ?side2 ?side3 ?side4 A4.out).mono ?_); (case side1 => exact kc (Kd.C_below HR0_0.out HB.out)); (case side2 => exact HC0_0.out); (case side3 => exact kc (Kd.C_below HR1_0.out HB.out)); (case side4 => exact HC1_0.out); rintro e w21 ⟨rfl, hb⟩; refine ⟨_, rfl, ?_⟩; replace BK695 := Aside0.mk (bb BK695 hb); replace BK696 := Aside0.mk (bb BK696 hb); replace HB := Aside0.mk (below_step (bw HB.out) hb); (try clear hb); (try clear hb2); (try clear hk); (try clear hi)))
  go_ret
  exact ⟨rt, bw HB.out⟩

/-! ### spec_l6Copy: function 78 -/
def spec_l6Copy.f (l0_0 : List Int) (a0_1 : Int) : Option (List Int × Int) := (some (([] : List Int) : List Int)).bind fun y701 => (if y701.length + l0_0.length < 17592186044416 then (some ((y701 ++ l0_0), a0_1)) else (none))
def spec_l6Copy.T1 : Bool × List (List Nat × List Nat) := (true, [([], []), ([], []), ([1], [1]), ([0, 2], [0, 2]), ([], []), ([4], [4]), ([3, 5], [3, 5]), ([6, 3, 0, 1, 2, 3, 4, 5, 6], [6])])
def spec_l6Copy.B1 : List Nat := [0, 0, 2, 7, 0, 16, 63, 127]
theorem spec_l6Copy.tab1 : rtab .any (opsOf Try.f78 1) = spec_l6Copy.T1 := by kernel_rfl
theorem spec_l6Copy.bits1 : waitsOk spec_l6Copy.T1.2 spec_l6Copy.B1 = true := by kernel_rfl
set_option maxHeartbeats 8000000 in
set_option maxRecDepth 100000 in
theorem spec_l6Copy.calls (A0_0 : Option Addr) (c0_0 : Nat) (l0_0 : List Int) (a0_1 : Int) (r1 : List Int) (r2 : Int) (w : World) (hr0_0 : Kd.C (Kd.int .i64) w A0_0 l0_0.length l0_0) (hc0_0 : l0_0.length ≤ c0_0) (h : spec_l6Copy.f l0_0 a0_1 = some (r1, r2)) :
  Calls Try.prog 78 #[.agg #[.slice A0_0 l0_0.length c0_0, .int .i64 a0_1]] w fun e w' => ∃ v0_ : Value, e = .returned (.agg #[v0_, .int .i64 r2]) ∧ Kd.R (Kd.int .i64) 3 w' w.heap.size (fun _ => True) v0_ r1 ∧ Below w.heap.size w w' := by
 have hu32 := Try.underlying32
 have HR0_0 := Aside0.mk hr0_0
 have HC0_0 := Aside0.mk hc0_0
 clear hr0_0 hc0_0
 have HB := Aside0.mk (Below.refl w.heap.size w)
 have H : ((some (([] : List Int) : List Int)).bind fun y701 => (if y701.length + l0_0.length < 17592186044416 then (some ((y701 ++ l0_0), a0_1)) else (none))) = some (r1, r2) := h
 clear h
 obtain ⟨y701, hy701⟩ : ∃ y_ : List Int, y_ = (([] : List Int)) := ⟨_, rfl⟩
 replace H : (if y701.length + l0_0.length < 17592186044416 then (some ((y701 ++ l0_0), a0_1)) else (none)) = some (r1, r2) := by first | (rw [hy701]; with_reducible exact H) | (have H2_ := (Option.bind_some _ _).symm.trans H; rw [hy701]; with_reducible exact H2_) | (have H2_ := (Option.bind_some _ _).symm.trans H; with_reducible exact H2_) | with_reducible exact H | (rw [hy701]; exact H) | exact H
 have Ny701 := Aside0.mk hy701
 clear hy701
 by_cases c2 : y701.length + l0_0.length < 17592186044416
 ·rw [if_pos c2] at H
  have LMc2 := Aside0.mk c2
  clear c2
  obtain ⟨y704, hy704⟩ : ∃ y_ : List Int, y_ = (y701 ++ l0_0) := ⟨_, rfl⟩
  replace H : (some (y704, a0_1)) = some (r1, r2) := by first | (rw [hy704]; with_reducible exact H) | (have H2_ := (Option.bind_some _ _).symm.trans H; rw [hy704]; with_reducible exact H2_) | (have H2_ := (Option.bind_some _ _).symm.trans H; with_reducible exact H2_) | with_reducible exact H | (rw [hy704]; exact H) | exact H
  have Ny704 := Aside0.mk hy704
  clear hy704
  simp only [Option.some.injEq, Prod.mk.injEq] at H
  obtain ⟨rfl, rfl⟩ := H
  go_enter Try.func78, Try.ntmps78
  try go_wp2_with (first | ((with_reducible refine gate_dst (N := 1) rfl ?_); refine bx (N := 1) (cs := #[.slice A0_0 l0_0.length c0_0, .int .i64 a0_1]) (t := 32) ?_; intro gb699 hg w3 hbox hb; have BK699 := Aside0.mk (hbox); have GW699 := Aside0.mk ((gs hg (bw HB.out))); have GE699 := Aside0.mk ((gs hg (bw HB.out))); replace HB := Aside0.mk (below_step (bw HB.out) hb); clear hb hbox hg) | ((with_reducible refine gate_dst (N := 2) rfl ?_); refine bx (N := 2) (cs := #[.slice none 0 0, .int .i64 0]) (t := 32) ?_; intro gb700 hg w4 hbox hb; have BK700 := Aside0.mk (hbox); have GW700 := Aside0.mk ((gs hg (bw HB.out))); have GE700 := Aside0.mk ((gs hg (bw HB.out))); replace HB := Aside0.mk (below_step (bw HB.out) hb); have NB699_700 := Aside0.mk ((ga hg BK699.out)); have NB700_699 := Aside0.mk ((gc hg BK699.out)); replace BK699 := Aside0.mk (bb BK699 hb); clear hb hbox hg))
  replace BK699 := Aside0.mk (blk_drew BK699.out)
  replace BK700 := Aside0.mk (blk_drew BK700.out)
  replace HB := Aside0.mk (below_drew1 HB.out)
  refine start_ (n := 8) (S := fun w' => w'.cell? ⟨gb699, 0, none⟩ = some (.slice A0_0 l0_0.length c0_0) ∧ w'.cell? ⟨gb699, 1, none⟩ = some (.int .i64 a0_1)) (ds := []) (bm 8 0) (by kernel_rfl) rfl (by kernel_rfl) ⟨cl BK699 0, cl BK699 1⟩ (fun hHeld => ?_); refine with_tabW spec_l6Copy.tab1 spec_l6Copy.bits1 (fun HT_ HW_ => ?_)
  generalize w4.drew = w5 at BK699 BK700 HB hHeld ⊢
  refine pw_ 1 (some 4) (bm 8 2) HT_ ?_
  refine pw_ 4 (some 7) (bm 8 18) HT_ ?_
  refine tw_ 2 (some 5) (bm 8 22) HT_ HW_ hHeld ?_
  refine tw_ 5 (some 8) (bm 8 54) HT_ HW_ hHeld ?_
  refine ow_ 0 (some 3) (bm 8 55) HT_ (fun K hK => ?_)
  refine Kd.R_lit_step (Kd.int .i64) _ 3 ?hg (N := 3) ?hd (xs := ([] : List Int)) (inner := []) (ok := fun _ => True) (okp := fun _ => True) ?hr ?hp (fun _ hk => hk) trivial (Below.refl _ _) (Nat.le_refl _) (by simp) ?_; (case hd => rfl); (case hg => rfl); (case hr => first | (go_simp; done) | (go_simp; rfl)); (case hp => exact (Reps.none _ _))
  intro v702 w6 ho7 hb hg_ hnew_
  clear hg_ hnew_
  (first | rw [← Ny701.out] at ho7 | (simp only [Int.reduceToNat] at ho7; rw [← Ny701.out] at ho7))
  have HO703 := Aside0.mk (Kd.R_lower ho7 (below_size (bw HB.out)))
  replace BK699 := Aside0.mk (bb BK699 hb)
  replace BK700 := Aside0.mk (bb BK700 hb)
  replace HB := Aside0.mk (below_step (bw HB.out) hb)
  clear hb ho7
  refine hK.out _ _ ⟨cl BK699 0, cl BK699 1⟩ (fun hHeld => ?_)
  clear hK K
  refine nw_ 3 ?_
  refine ow_ 3 (some 6) (bm 8 63) HT_ (fun K hK => ?_)
  refine Kd.R_append_rows_step (Kd.int .i64) (w0 := w) w.heap.size (by rfl) (.tmp 3) (.tmp 5) 30 3 (.int .i64 0) 8 rfl Try.underlying30 info3 rfl (by decide) (by omega) v702 y701 l0_0 _ _ _ (fun _ => True) (fun _ => False) rfl rfl ?aO ?aR (fun _ _ h => h) (fun _ h => h.elim) ?aF ?aB ?aS ?aL ?_
  (case aR => exact kc (Kd.C_below HR0_0.out HB.out))
  (case aB => exact (bw HB.out))
  (case aF => exact (fun _ _ => trivial))
  (case aO => exact (kr HO703.out))
  (case aS => exact (below_size (bw HB.out)))
  (case aL => have := LMc2.out; omega)
  intro v705 w8 ho hb hg hat
  rw [← Ny704.out] at ho
  have n0_ := Aside0.mk (blk_grown (g := gb699) (o := .cells #[.slice A0_0 l0_0.length c0_0, .int .i64 a0_1] 32 (0, 0)) (kb BK699.out) hg (Kd.R_ne HO703.out BK699.out (by decide)))
  have n1_ := Aside0.mk (blk_grown (g := gb700) (o := .cells #[.slice none 0 0, .int .i64 0] 32 (0, 0)) (kb BK700.out) hg (Kd.R_ne HO703.out BK700.out (by decide)))
  have n2_ := Aside0.mk (hb)
  have n3_ := Aside0.mk (ho)
  clear BK699; clear BK700; clear HB; clear HO703; have BK699 := n0_; have BK700 := n1_; have HB := n2_; have HO706 := n3_; clear n0_ n1_ n2_ n3_; clear ho hb hg hat
  obtain ⟨Ao9, co9, eo9⟩ := Kd.R_slice HO706.out
  (first | subst eo9 | (injection eo9 with f1_ f2_ f3_; have f4_ := f1_.symm; have f5_ := f3_.symm; clear f1_ f2_ f3_; subst f4_; subst f5_))
  refine hK.out _ _ ⟨cl BK699 0, cl BK699 1⟩ (fun hHeld => ?_)
  clear hK K
  refine nw_ 6 ?_
  refine pw_ 6 (some 9) (bm 8 127) HT_ ?_
  refine ow_ 7 none (bm 8 255) HT_ (fun K hK => ?_)
  have hs10 : w8.cell? ⟨gb700, 0, none⟩ = some (.slice none 0 0) := cl BK700 0
  have hfs10 := blk_frozen BK700.out 0
  have hns10_0 := NB699_700.out
  have hms10_0 := NB700_699.out
  have hs11 : w8.cell? ⟨gb700, 1, none⟩ = some (.int .i64 0) := cl BK700 1
  have hfs11 := blk_frozen BK700.out 1
  have hns11_0 := NB699_700.out
  have hms11_0 := NB700_699.out
  refine skip_ (w1 := ?_) (by rfl) rfl ?_ ?_
  rotate_left
  ·go_simp
   rfl
  refine hK.out _ _ ⟨(fr NB699_700 (hHeld.1)), (fr NB699_700 (hHeld.2))⟩ (fun hHeld => ?_)
  clear hK K
  refine done_ (done_of HT_.out (by kernel_rfl)) ?_
  try go_wp2
  refine bodyPost_ret (results_cell_row rfl _ _ gb700 32 #[.slice Ao9 y704.length co9, .int .i64 a0_1] (0, 0) _ rfl (bq BK700.out) Try.underlying32 rfl (by kernel_rfl)) rfl ?_
  exact ⟨_, rt, kr (Kd.R_mono (Kd.R_far (p := ⟨gb700, 1, none⟩) (Kd.R_far (p := ⟨gb700, 0, none⟩) (Kd.R_types HO706.out BK700.out (by decide)) (fun _ hk => hk.2) (.slice Ao9 y704.length co9)) (fun _ hk => hk.2) (.int .i64 a0_1)) (fun _ hk => trivial)), bw HB.out⟩
 ·rw [if_neg c2] at H
  exact absurd H (by simp)

/-! ### spec_Join: function 82 -/
def spec_Join.f (a0 : Int) (a1 : Int) : Option (Int) := (spec_Byte.f a0).bind fun t707 => ((spec_Byte.f a1).bind fun t708 => (some (wrap64 (t707 + (wrap64 (256 * t708))))))
set_option maxHeartbeats 8000000 in
set_option maxRecDepth 100000 in
theorem spec_Join.calls (a0 : Int) (a1 : Int) (r : Int) (w : World) (h : spec_Join.f a0 a1 = some r) :
  Calls Try.prog 82 #[.int .i64 a0, .int .i64 a1] w fun e w' => e = .returned (.int .i64 r) ∧ Drawn0 w w' := by
 have H : ((spec_Byte.f a0).bind fun t707 => ((spec_Byte.f a1).bind fun t708 => (some (wrap64 (t707 + (wrap64 (256 * t708))))))) = some r := h
 clear h
 replace H := Option.bind_eq_some_iff.mp H
 obtain ⟨t707, A30, H⟩ := H
 replace H : ((spec_Byte.f a1).bind fun t708 => (some (wrap64 (t707 + (wrap64 (256 * t708)))))) = some r := H
 have A3 := Aside0.mk A30
 clear A30
 replace H := Option.bind_eq_some_iff.mp H
 obtain ⟨t708, A40, H⟩ := H
 replace H : (some (wrap64 (t707 + (wrap64 (256 * t708))))) = some r := H
 have A4 := Aside0.mk A40
 clear A40
 obtain rfl := Option.some.inj H
 go_enter Try.func82, Try.ntmps82
 go_wp2_with (first | ((with_reducible refine gate_callee (f := 71) rfl ?_); refine goesM_ (some 6) rfl rfl Try.func71 #[.int .i64 a0] ?_; (with_reducible refine (spec_Byte.calls a0 t707 _ A3.out).mono ?_); rintro e w' ⟨rfl, ⟨nd, rfl⟩⟩; refine ⟨_, rfl, ?_⟩) | ((with_reducible refine gate_callee (f := 71) rfl ?_); refine goesM_ (some 8) rfl rfl Try.func71 #[.int .i64 a1] ?_; (with_reducible refine (spec_Byte.calls a1 t708 _ A4.out).mono ?_); rintro e w' ⟨rfl, ⟨nd, rfl⟩⟩; refine ⟨_, rfl, ?_⟩))
 go_ret
 exact ⟨by first | rfl | (simp; done) | (simp [*]; done), by repeat (first | exact Drawn0.refl _ | apply Drawn0.step)⟩

/-! ### spec_Push: function 91 -/
def spec_Push.f (l0_0 : List Int) (a0_1 : Int) (a1_0 : Int) (a1_1 : Int) (a1_2 : Int) (a1_3 : Int) (a1_4 : Bool) (a1_5 : Bool) (a1_6 : Bool) (a1_7 : Bool) (a2 : Int) : Option (List Int × Int × Int × Int × Int × Int × Bool × Bool × Bool × Bool) := (spec_l6Copy.f l0_0 a0_1).bind fun bt713 => (if (l0_0.length : Int) = 512 then ((spec_Byte.f a1_2).bind fun t718 => ((spec_Byte.f a2).bind fun t719 => (if 0 ≤ (wrap64 (256 + t718)) then (if (wrap64 (256 + t718)) < (bt713.1.length : Int) then ((spec_Byte.f (wrap64 (a1_2 - 1))).bind fun t721 => (some ((bt713.1.set ((wrap64 (256 + t718)) : Int).toNat t719), bt713.2, a1_0, a1_1, t721, a1_3, a1_4, a1_5, a1_6, a1_7))) else (none)) else (none)))) else (some (bt713.1, bt713.2, a1_0, a1_1, a1_2, a1_3, a1_4, a1_5, a1_6, a1_7)))
def spec_Push.T4 : Bool × List (List Nat × List Nat) := (true, [([], []), ([0], [0]), ([], []), ([2], [2]), ([3], [3]), ([4], [4]), ([], []), ([6, 4], [6]), ([1, 5, 0, 1, 2, 3, 4, 5, 6, 7], [1, 5]), ([8, 7, 7, 0, 1, 2, 3, 4, 5, 6, 7], [7, 8])])
def spec_Push.B4 : List Nat := [0, 1, 0, 4, 12, 28, 0, 92, 255, 511]
theorem spec_Push.tab4 : rtab .any (opsOf Try.f91 4) = spec_Push.T4 := by kernel_rfl
theorem spec_Push.bits4 : waitsOk spec_Push.T4.2 spec_Push.B4 = true := by kernel_rfl
set_option maxHeartbeats 8000000 in
set_option maxRecDepth 100000 in
theorem spec_Push.calls (A0_0 : Option Addr) (c0_0 : Nat) (l0_0 : List Int) (a0_1 : Int) (a1_0 : Int) (a1_1 : Int) (a1_2 : Int) (a1_3 : Int) (a1_4 : Bool) (a1_5 : Bool) (a1_6 : Bool) (a1_7 : Bool) (a2 : Int) (r1 : List Int) (r2 : Int) (r3 : Int) (r4 : Int) (r5 : Int) (r6 : Int) (r7 : Bool) (r8 : Bool) (r9 : Bool) (r10 : Bool) (w : World) (hr0_0 : Kd.C (Kd.int .i64) w A0_0 l0_0.length l0_0) (hc0_0 : l0_0.length ≤ c0_0) (h : spec_Push.f l0_0 a0_1 a1_0 a1_1 a1_2 a1_3 a1_4 a1_5 a1_6 a1_7 a2 = some (r1, r2, r3, r4, r5, r6, r7, r8, r9, r10)) :
  Calls Try.prog 91 #[.agg #[.slice A0_0 l0_0.length c0_0, .int .i64 a0_1], .agg #[.int .i64 a1_0, .int .i64 a1_1, .int .i64 a1_2, .int .i64 a1_3, .bool a1_4, .bool a1_5, .bool a1_6, .bool a1_7], .int .i64 a2] w fun e w' => ∃ v0_ : Value, e = .returned (.tuple #[.agg #[v0_, .int .i64 r2], .agg #[.int .i64 r3, .int .i64 r4, .int .i64 r5, .int .i64 r6, .bool r7, .bool r8, .bool r9, .bool r10]]) ∧ Kd.R (Kd.int .i64) 3 w' w.heap.size (fun _ => True) v0_ r1 ∧ Below w.heap.size w w' := by
 have hu32 := Try.underlying32
 have hu55 := Try.underlying55
 have HR0_0 := Aside0.mk hr0_0
 have HC0_0 := Aside0.mk hc0_0
 clear hr0_0 hc0_0
 have HB := Aside0.mk (Below.refl w.heap.size w)
 have H : ((spec_l6Copy.f l0_0 a0_1).bind fun bt713 => (if (l0_0.length : Int) = 512 then ((spec_Byte.f a1_2).bind fun t718 => ((spec_Byte.f a2).bind fun t719 => (if 0 ≤ (wrap64 (256 + t718)) then (if (wrap64 (256 + t718)) < (bt713.1.length : Int) then ((spec_Byte.f (wrap64 (a1_2 - 1))).bind fun t721 => (some ((bt713.1.set ((wrap64 (256 + t718)) : Int).toNat t719), bt713.2, a1_0, a1_1, t721, a1_3, a1_4, a1_5, a1_6, a1_7))) else (none)) else (none)))) else (some (bt713.1, bt713.2, a1_0, a1_1, a1_2, a1_3, a1_4, a1_5, a1_6, a1_7)))) = some (r1, r2, r3, r4, r5, r6, r7, r8, r9, r10) := h
 clear h
 replace H := Option.bind_eq_some_iff.mp H
 obtain ⟨⟨t713, t716⟩, A40, H⟩ := H
 replace H : (if (l0_0.length : Int) = 512 then ((spec_Byte.f a1_2).bind fun t718 => ((spec_Byte.f a2).bind fun t719 => (if 0 ≤ (wrap64 (256 + t718)) then (if (wrap64 (256 + t718)) < (t713.length : Int) then ((spec_Byte.f (wrap64 (a1_2 - 1))).bind fun t721 => (some ((t713.set ((wrap64 (256 + t718)) : Int).toNat t719), t716, a1_0, a1_1, t721, a1_3, a1_4, a1_5, a1_6, a1_7))) else (none)) else (none)))) else (some (t713, t716, a1_0, a1_1, a1_2, a1_3, a1_4, a1_5, a1_6, a1_7))) = some (r1, r2, r3, r4, r5, r6, r7, r8, r9, r10) := H
 have A4 := Aside0.mk A40
 clear A40
 by_cases c5 : (l0_0.length : Int) = 512
 ·rw [if_pos c5] at H
  have c5b0 : ((l0_0.length : Int) == 512) = true := beq_iff_eq.mpr c5
  have c5b1 : ((l0_0.length : Int) != 512) = false := bne_eq_false_iff_eq.mpr c5
  clear c5
  replace H := Option.bind_eq_some_iff.mp H
  obtain ⟨t718, A60, H⟩ := H
  replace H : ((spec_Byte.f a2).bind fun t719 => (if 0 ≤ (wrap64 (256 + t718)) then (if (wrap64 (256 + t718)) < (t713.length : Int) then ((spec_Byte.f (wrap64 (a1_2 - 1))).bind fun t721 => (some ((t713.set ((wrap64 (256 + t718)) : Int).toNat t719), t716, a1_0, a1_1, t721, a1_3, a1_4, a1_5, a1_6, a1_7))) else (none)) else (none))) = some (r1, r2, r3, r4, r5, r6, r7, r8, r9, r10) := H
  have A6 := Aside0.mk A60
  clear A60
  replace H := Option.bind_eq_some_iff.mp H
  obtain ⟨t719, A70, H⟩ := H
  replace H : (if 0 ≤ (wrap64 (256 + t718)) then (if (wrap64 (256 + t718)) < (t713.length : Int) then ((spec_Byte.f (wrap64 (a1_2 - 1))).bind fun t721 => (some ((t713.set ((wrap64 (256 + t718)) : Int).toNat t719), t716, a1_0, a1_1, t721, a1_3, a1_4, a1_5, a1_6, a1_7))) else (none)) else (none)) = some (r1, r2, r3, r4, r5, r6, r7, r8, r9, r10) := H
  have A7 := Aside0.mk A70
  clear A70
  obtain ⟨ji8, hji8⟩ : ∃ j_ : Int, (wrap64 (256 + t718)) = j_ := ⟨_, rfl⟩
  replace H : (if 0 ≤ (ji8) then (if (ji8) < (t713.length : Int) then ((spec_Byte.f (wrap64 (a1_2 - 1))).bind fun t721 => (some ((t713.set ((ji8) : Int).toNat t719), t716, a1_0, a1_1, t721, a1_3, a1_4, a1_5, a1_6, a1_7))) else (none)) else (none)) = some (r1, r2, r3, r4, r5, r6, r7, r8, r9, r10) := by first | (rw [hji8] at H; exact H) | (simp only [hji8] at H ⊢; exact H)
  (try rw [hji8] at A4)
  (try rw [hji8] at A6)
  (try rw [hji8] at A7)
  have hji8w : (IntKind.i64.wrap (256 + t718)) = ji8 := (i64_w _).trans hji8
  by_cases c9 : 0 ≤ (ji8)
  ·rw [if_pos c9] at H
   have c9b0 : decide (0 ≤ (ji8)) = true := decide_eq_true c9
   clear c9
   by_cases c10 : (ji8) < (t713.length : Int)
   ·rw [if_pos c10] at H
    have c10b0 : decide ((ji8) < (t713.length : Int)) = true := decide_eq_true c10
    clear c10
    obtain ⟨y720, hy720⟩ : ∃ y_ : List Int, y_ = (t713.set ((ji8) : Int).toNat t719) := ⟨_, rfl⟩
    replace H : ((spec_Byte.f (wrap64 (a1_2 - 1))).bind fun t721 => (some (y720, t716, a1_0, a1_1, t721, a1_3, a1_4, a1_5, a1_6, a1_7))) = some (r1, r2, r3, r4, r5, r6, r7, r8, r9, r10) := by first | (rw [hy720]; with_reducible exact H) | (have H2_ := (Option.bind_some _ _).symm.trans H; rw [hy720]; with_reducible exact H2_) | (have H2_ := (Option.bind_some _ _).symm.trans H; with_reducible exact H2_) | with_reducible exact H | (rw [hy720]; exact H) | exact H
    have Ny720 := Aside0.mk hy720
    clear hy720
    replace H := Option.bind_eq_some_iff.mp H
    obtain ⟨t721, A120, H⟩ := H
    replace H : (some (y720, t716, a1_0, a1_1, t721, a1_3, a1_4, a1_5, a1_6, a1_7)) = some (r1, r2, r3, r4, r5, r6, r7, r8, r9, r10) := H
    have A12 := Aside0.mk A120
    clear A120
    simp only [Option.some.injEq, Prod.mk.injEq] at H
    obtain ⟨rfl, rfl, rfl, rfl, rfl, rfl, rfl, rfl, rfl, rfl⟩ := H
    go_enter Try.func91, Try.ntmps91
    try go_wp2_with (first | ((with_reducible refine gate_dst (N := 3) rfl ?_); refine bx (N := 3) (cs := #[.slice A0_0 l0_0.length c0_0, .int .i64 a0_1]) (t := 32) ?_; intro gb709 hg w13 hbox hb; have BK709 := Aside0.mk (hbox); have GW709 := Aside0.mk ((gs hg (bw HB.out))); have GE709 := Aside0.mk ((gs hg (bw HB.out))); replace HB := Aside0.mk (below_step (bw HB.out) hb); clear hb hbox hg) | ((with_reducible refine gate_dst (N := 4) rfl ?_); refine bx (N := 4) (cs := #[.int .i64 a1_0, .int .i64 a1_1, .int .i64 a1_2, .int .i64 a1_3, .bool a1_4, .bool a1_5, .bool a1_6, .bool a1_7]) (t := 55) ?_; intro gb710 hg w14 hbox hb; have BK710 := Aside0.mk (hbox); have GW710 := Aside0.mk ((gs hg (bw HB.out))); have GE710 := Aside0.mk ((gs hg (bw HB.out))); replace HB := Aside0.mk (below_step (bw HB.out) hb); have NB709_710 := Aside0.mk ((ga hg BK709.out)); have NB710_709 := Aside0.mk ((gc hg BK709.out)); replace BK709 := Aside0.mk (bb BK709 hb); clear hb hbox hg) | ((with_reducible refine gate_dst (N := 6) rfl ?_); refine bx (N := 6) (cs := #[.slice none 0 0, .int .i64 0]) (t := 32) ?_; intro gb711 hg w15 hbox hb; have BK711 := Aside0.mk (hbox); have GW711 := Aside0.mk ((gs hg (bw HB.out))); have GE711 := Aside0.mk ((gs hg (bw HB.out))); replace HB := Aside0.mk (below_step (bw HB.out) hb); have NB709_711 := Aside0.mk ((ga hg BK709.out)); have NB711_709 := Aside0.mk ((gc hg BK709.out)); replace BK709 := Aside0.mk (bb BK709 hb); have NB710_711 := Aside0.mk ((ga hg BK710.out)); have NB711_710 := Aside0.mk ((gc hg BK710.out)); replace BK710 := Aside0.mk (bb BK710 hb); clear hb hbox hg) | ((with_reducible refine gate_dst (N := 7) rfl ?_); refine bx (N := 7) (cs := #[.int .i64 0, .int .i64 0, .int .i64 0, .int .i64 0, .bool false, .bool false, .bool false, .bool false]) (t := 55) ?_; intro gb712 hg w16 hbox hb; have BK712 := Aside0.mk (hbox); have GW712 := Aside0.mk ((gs hg (bw HB.out))); have GE712 := Aside0.mk ((gs hg (bw HB.out))); replace HB := Aside0.mk (below_step (bw HB.out) hb); have NB709_712 := Aside0.mk ((ga hg BK709.out)); have NB712_709 := Aside0.mk ((gc hg BK709.out)); replace BK709 := Aside0.mk (bb BK709 hb); have NB710_712 := Aside0.mk ((ga hg BK710.out)); have NB712_710 := Aside0.mk ((gc hg BK710.out)); replace BK710 := Aside0.mk (bb BK710 hb); have NB711_712 := Aside0.mk ((ga hg BK711.out)); have NB712_711 := Aside0.mk ((gc hg BK711.out)); replace BK711 := Aside0.mk (bb BK711 hb); clear hb hbox hg; have hnb17 := NB709_710.out; have hnc17 := NB710_709.out; have hnb18 := NB709_711.out; have hnc18 := NB711_709.out; have hnb19 := NB709_712.out; have hnc19 := NB712_709.out; obtain ⟨hcz20_0, hcz20_1⟩ := ce2 BK709; have hfz20_0 := blk_frozen BK709.out 0; have hfz20_1 := blk_frozen BK709.out 1) | ((with_reducible refine gate_callee (f := 78) rfl ?_); refine goesM_ (some 10) rfl rfl Try.func78 #[.agg #[.slice A0_0 l0_0.length c0_0, .int .i64 a0_1]] ?_; (with_reducible refine (spec_l6Copy.calls _ _ l0_0 a0_1 t713 t716 _ ?side1 ?side2 A4.out).mono ?_); (case side1 => exact kc (Kd.C_below HR0_0.out HB.out)); (case side2 => exact HC0_0.out); rintro e w21 ⟨v714, rfl, ho0, hb⟩; refine ⟨_, rfl, ?_⟩; have HO715 := Aside0.mk (Kd.R_lower ho0 (below_size (bw HB.out))); replace BK709 := Aside0.mk (bb BK709 hb); replace BK710 := Aside0.mk (bb BK710 hb); replace BK711 := Aside0.mk (bb BK711 hb); replace BK712 := Aside0.mk (bb BK712 hb); replace HB := Aside0.mk (below_step (bw HB.out) hb); (try clear hb); (try clear hb2); (try clear hk); (try clear hi); (try clear ho0)) | ((with_reducible refine gate_dst (N := 8) rfl ?_); refine bx (N := 8) (cs := #[.slice none 0 0, .int .i64 0]) (t := 32) ?_; intro gb717 hg w22 hbox hb; replace HO715 := Aside0.mk (Kd.R_below (kr HO715.out) hb); have BK717 := Aside0.mk (hbox); have GW717 := Aside0.mk ((gs hg (bw HB.out))); have GE717 := Aside0.mk ((gs hg (bw HB.out))); replace HB := Aside0.mk (below_step (bw HB.out) hb); have NB709_717 := Aside0.mk ((ga hg BK709.out)); have NB717_709 := Aside0.mk ((gc hg BK709.out)); replace BK709 := Aside0.mk (bb BK709 hb); have NB710_717 := Aside0.mk ((ga hg BK710.out)); have NB717_710 := Aside0.mk ((gc hg BK710.out)); replace BK710 := Aside0.mk (bb BK710 hb); have NB711_717 := Aside0.mk ((ga hg BK711.out)); have NB717_711 := Aside0.mk ((gc hg BK711.out)); replace BK711 := Aside0.mk (bb BK711 hb); have NB712_717 := Aside0.mk ((ga hg BK712.out)); have NB717_712 := Aside0.mk ((gc hg BK712.out)); replace BK712 := Aside0.mk (bb BK712 hb); clear hb hbox hg; obtain ⟨Ao23, co23, eo23⟩ := Kd.R_slice HO715.out; subst eo23; have hnb24 := NB717_709.out; have hnc24 := NB709_717.out; have hnb25 := NB717_710.out; have hnc25 := NB710_717.out; have hnb26 := NB717_711.out; have hnc26 := NB711_717.out; have hnb27 := NB717_712.out; have hnc27 := NB712_717.out; obtain ⟨hcz28_0, hcz28_1⟩ := ce2 BK717; obtain ⟨hfz28_0, hfz28_1⟩ := fz2 BK717; obtain ⟨hcz29_0, hcz29_1⟩ := ce2 BK709; have hfz29_0 := blk_frozen BK709.out 0; have hfz29_1 := blk_frozen BK709.out 1))
    have n0_ : Aside0 (Kd.R (Kd.int .i64) 3 ((w22.setCell ⟨gb717, 0, none⟩ (.slice Ao23 t713.length co23)).setCell ⟨gb717, 1, none⟩ (.int .i64 t716)) w.heap.size (fun _ => True) (.slice Ao23 t713.length co23) t713) := ⟨kr (Kd.R_mono (Kd.R_far (p := ⟨gb717, 1, none⟩) (Kd.R_far (p := ⟨gb717, 0, none⟩) (Kd.R_types HO715.out BK717.out (by decide)) (fun _ hk => hk.2) (.slice Ao23 t713.length co23)) (fun _ hk => hk.2) (.int .i64 t716)) (fun _ hk => trivial))⟩
    have n1_ : Aside0 (((w22.setCell ⟨gb717, 0, none⟩ (.slice Ao23 t713.length co23)).setCell ⟨gb717, 1, none⟩ (.int .i64 t716)).heap[gb709]? = some (.cells #[.slice A0_0 l0_0.length c0_0, .int .i64 a0_1] 32 (0, 0))) := ⟨kf BK709.out⟩
    have n2_ : Aside0 (((w22.setCell ⟨gb717, 0, none⟩ (.slice Ao23 t713.length co23)).setCell ⟨gb717, 1, none⟩ (.int .i64 t716)).heap[gb710]? = some (.cells #[.int .i64 a1_0, .int .i64 a1_1, .int .i64 a1_2, .int .i64 a1_3, .bool a1_4, .bool a1_5, .bool a1_6, .bool a1_7] 55 (0, 0))) := ⟨kf BK710.out⟩
    have n3_ : Aside0 (((w22.setCell ⟨gb717, 0, none⟩ (.slice Ao23 t713.length co23)).setCell ⟨gb717, 1, none⟩ (.int .i64 t716)).heap[gb711]? = some (.cells #[.slice none 0 0, .int .i64 0] 32 (0, 0))) := ⟨kf BK711.out⟩
    have n4_ : Aside0 (((w22.setCell ⟨gb717, 0, none⟩ (.slice Ao23 t713.length co23)).setCell ⟨gb717, 1, none⟩ (.int .i64 t716)).heap[gb712]? = some (.cells #[.int .i64 0, .int .i64 0, .int .i64 0, .int .i64 0, .bool false, .bool false, .bool false, .bool false] 55 (0, 0))) := ⟨kf BK712.out⟩
    have n5_ : Aside0 (((w22.setCell ⟨gb717, 0, none⟩ (.slice Ao23 t713.length co23)).setCell ⟨gb717, 1, none⟩ (.int .i64 t716)).heap[gb717]? = some (.cells #[.slice Ao23 t713.length co23, .int .i64 t716] 32 (0, 0))) := ⟨bq BK717.out⟩
    have n6_ : Aside0 (Below w.heap.size w ((w22.setCell ⟨gb717, 0, none⟩ (.slice Ao23 t713.length co23)).setCell ⟨gb717, 1, none⟩ (.int .i64 t716))) := ⟨bw HB.out⟩
    (try clear HO715); (try clear BK709); (try clear BK710); (try clear BK711); (try clear BK712); (try clear BK717); (try clear HB)
    generalize ((w22.setCell ⟨gb717, 0, none⟩ (.slice Ao23 t713.length co23)).setCell ⟨gb717, 1, none⟩ (.int .i64 t716)) = w30 at n0_ n1_ n2_ n3_ n4_ n5_ n6_ ⊢
    have HO715 := n0_; have BK709 := n1_; have BK710 := n2_; have BK711 := n3_; have BK712 := n4_; have BK717 := n5_; have HB := n6_; clear n0_ n1_ n2_ n3_ n4_ n5_ n6_
    replace HO715 := Aside0.mk (Kd.R_drew HO715.out)
    replace BK709 := Aside0.mk (blk_drew BK709.out)
    replace BK710 := Aside0.mk (blk_drew BK710.out)
    replace BK711 := Aside0.mk (blk_drew BK711.out)
    replace BK712 := Aside0.mk (blk_drew BK712.out)
    replace BK717 := Aside0.mk (blk_drew BK717.out)
    replace HB := Aside0.mk (below_drew1 HB.out)
    refine start_ (n := 10) (S := fun w' => w'.cell? ⟨gb717, 0, none⟩ = some (.slice Ao23 t713.length co23) ∧ w'.cell? ⟨gb717, 1, none⟩ = some (.int .i64 t716) ∧ w'.cell? ⟨gb710, 0, none⟩ = some (.int .i64 a1_0) ∧ w'.cell? ⟨gb710, 1, none⟩ = some (.int .i64 a1_1) ∧ w'.cell? ⟨gb710, 2, none⟩ = some (.int .i64 a1_2) ∧ w'.cell? ⟨gb710, 3, none⟩ = some (.int .i64 a1_3) ∧ w'.cell? ⟨gb710, 4, none⟩ = some (.bool a1_4) ∧ w'.cell? ⟨gb710, 5, none⟩ = some (.bool a1_5) ∧ w'.cell? ⟨gb710, 6, none⟩ = some (.bool a1_6) ∧ w'.cell? ⟨gb710, 7, none⟩ = some (.bool a1_7)) (ds := [9]) (bm 10 0) (by kernel_rfl) rfl (by kernel_rfl) ⟨cl BK717 0, cl BK717 1, cl BK710 0, cl BK710 1, cl BK710 2, cl BK710 3, cl BK710 4, cl BK710 5, cl BK710 6, cl BK710 7⟩ (fun hHeld => ?_); refine with_tabW spec_Push.tab4 spec_Push.bits4 (fun HT_ HW_ => ?_)
    generalize w30.drew = w31 at HO715 BK709 BK710 BK711 BK712 BK717 HB hHeld ⊢
    refine pw_ 0 (some 17) (bm 10 1) HT_ ?_
    refine pw_ 2 (some 19) (bm 10 5) HT_ ?_
    refine pw_ 6 (some 23) (bm 10 69) HT_ ?_
    refine tw_ 1 (some 18) (bm 10 71) HT_ HW_ hHeld ?_
    refine tw_ 3 (some 20) (bm 10 79) HT_ HW_ hHeld ?_
    refine ow_ 4 (some 21) (bm 10 95) HT_ (fun K hK => ?_)
    refine gw_ Try.func71 #[.int .i64 a1_2] ?_
    with_reducible refine (spec_Byte.calls a1_2 t718 _ A6.out).mono ?_
    rintro e w' ⟨rfl, ⟨nd, rfl⟩⟩
    refine ⟨_, rfl, ?_⟩
    replace HO715 := Aside0.mk (Kd.R_drewN HO715.out nd)
    replace BK709 := Aside0.mk (blk_drewN BK709.out nd)
    replace BK710 := Aside0.mk (blk_drewN BK710.out nd)
    replace BK711 := Aside0.mk (blk_drewN BK711.out nd)
    replace BK712 := Aside0.mk (blk_drewN BK712.out nd)
    replace BK717 := Aside0.mk (blk_drewN BK717.out nd)
    replace HB := Aside0.mk (pw_below_drewN HB.out nd)
    generalize w31.drewN nd = w31 at HO715 BK709 BK710 BK711 BK712 BK717 HB ⊢
    refine hK.out _ _ ⟨cl BK717 0, cl BK717 1, cl BK710 0, cl BK710 1, cl BK710 2, cl BK710 3, cl BK710 4, cl BK710 5, cl BK710 6, cl BK710 7⟩ (fun hHeld => ?_)
    clear hK K
    refine nw_ 21 ?_
    refine pw_ 5 (some 22) (bm 10 127) HT_ ?_
    refine ow_ 7 (some 24) (bm 10 255) HT_ (fun K hK => ?_)
    refine gw_ Try.func71 #[.int .i64 a2] ?_
    with_reducible refine (spec_Byte.calls a2 t719 _ A7.out).mono ?_
    rintro e w' ⟨rfl, ⟨nd, rfl⟩⟩
    refine ⟨_, rfl, ?_⟩
    replace HO715 := Aside0.mk (Kd.R_drewN HO715.out nd)
    replace BK709 := Aside0.mk (blk_drewN BK709.out nd)
    replace BK710 := Aside0.mk (blk_drewN BK710.out nd)
    replace BK711 := Aside0.mk (blk_drewN BK711.out nd)
    replace BK712 := Aside0.mk (blk_drewN BK712.out nd)
    replace BK717 := Aside0.mk (blk_drewN BK717.out nd)
    replace HB := Aside0.mk (pw_below_drewN HB.out nd)
    generalize w31.drewN nd = w31 at HO715 BK709 BK710 BK711 BK712 BK717 HB ⊢
    have p11 : 0 ≤ ((ji8) : Int) := dt
    have q11 : ((ji8) : Int) < ((t713.length : Int) : Int) := dt
    obtain ⟨go11, co11, eo11, gb11, gl11, cl11, HG11⟩ := Kd.R_form HO715.out (by omega)
    (first | cases eo11 | (injection eo11 with ea_ en_ ec_; (first | subst ea_ | (injection ea_ with ea_; subst ea_)); subst ec_; clear en_))
    have GB11 := Aside0.mk gb11
    have GG11 := Aside0.mk HG11
    clear gb11 gl11 HG11
    obtain ⟨hx11_0, hf11_0⟩ := Kd.R_celln 0 HO715.out ((ji8) : Int) p11 q11
    replace p11 := eq_true p11
    replace q11 := eq_true q11
    have HP32 := Kd.R_putn HO715.out ((ji8) : Int) t719
    rw [← Ny720.out] at HP32
    have HQ32 := Aside0.mk HP32
    clear HP32
    refine hK.out _ _ ⟨cl BK717 0, cl BK717 1, cl BK710 0, cl BK710 1, cl BK710 2, cl BK710 3, cl BK710 4, cl BK710 5, cl BK710 6, cl BK710 7⟩ (fun hHeld => ?_)
    clear hK K
    refine nw_ 24 ?_
    refine pw_ 8 (some 25) (bm 10 511) HT_ ?_
    refine last_ (i := 9) (N := none) #[true, true, true, true, true, true, true, true, true, true] rfl rfl (one_of HT_.out (by kernel_rfl)) (by decide) (fun K hK => ?_)
    refine skip_ (w1 := ?_) (by rfl) rfl ?_ ?_
    rotate_left
    ·go_simp
     rfl
    refine hK.out _ _ ?_
    clear hK K
    refine done_ (done_of HT_.out (by kernel_rfl)) ?_
    have n0_ : Aside0 (Kd.R (Kd.int .i64) 3 (w31.setCell ⟨go11, ((ji8) : Int).toNat, none⟩ (.int .i64 t719)) w.heap.size (fun _ => True) (.slice (some ⟨go11, 0, none⟩) t713.length co23) y720) := ⟨kr HQ32.out⟩
    have n1_ : Aside0 ((w31.setCell ⟨go11, ((ji8) : Int).toNat, none⟩ (.int .i64 t719)).heap[gb709]? = some (.cells #[.slice A0_0 l0_0.length c0_0, .int .i64 a0_1] 32 (0, 0))) := ⟨by (with_reducible repeat (first | refine blk_drewN ?_ _ | refine blk_drew ?_ | refine blk_alloc ?_ _)); refine blk_far ?_ (by have h_ := Kd.R_ne HO715.out BK709.out (by decide); intro e_; exact h_ (by rw [e_]; rfl)) _; (with_reducible repeat (first | refine blk_drewN ?_ _ | refine blk_drew ?_ | refine blk_alloc ?_ _)); exact BK709.out⟩
    have n2_ : Aside0 ((w31.setCell ⟨go11, ((ji8) : Int).toNat, none⟩ (.int .i64 t719)).heap[gb710]? = some (.cells #[.int .i64 a1_0, .int .i64 a1_1, .int .i64 a1_2, .int .i64 a1_3, .bool a1_4, .bool a1_5, .bool a1_6, .bool a1_7] 55 (0, 0))) := ⟨by (with_reducible repeat (first | refine blk_drewN ?_ _ | refine blk_drew ?_ | refine blk_alloc ?_ _)); refine blk_far ?_ (by have h_ := Kd.R_ne HO715.out BK710.out (by decide); intro e_; exact h_ (by rw [e_]; rfl)) _; (with_reducible repeat (first | refine blk_drewN ?_ _ | refine blk_drew ?_ | refine blk_alloc ?_ _)); exact BK710.out⟩
    have n3_ : Aside0 ((w31.setCell ⟨go11, ((ji8) : Int).toNat, none⟩ (.int .i64 t719)).heap[gb711]? = some (.cells #[.slice none 0 0, .int .i64 0] 32 (0, 0))) := ⟨by (with_reducible repeat (first | refine blk_drewN ?_ _ | refine blk_drew ?_ | refine blk_alloc ?_ _)); refine blk_far ?_ (by have h_ := Kd.R_ne HO715.out BK711.out (by decide); intro e_; exact h_ (by rw [e_]; rfl)) _; (with_reducible repeat (first | refine blk_drewN ?_ _ | refine blk_drew ?_ | refine blk_alloc ?_ _)); exact BK711.out⟩
    have n4_ : Aside0 ((w31.setCell ⟨go11, ((ji8) : Int).toNat, none⟩ (.int .i64 t719)).heap[gb712]? = some (.cells #[.int .i64 0, .int .i64 0, .int .i64 0, .int .i64 0, .bool false, .bool false, .bool false, .bool false] 55 (0, 0))) := ⟨by (with_reducible repeat (first | refine blk_drewN ?_ _ | refine blk_drew ?_ | refine blk_alloc ?_ _)); refine blk_far ?_ (by have h_ := Kd.R_ne HO715.out BK712.out (by decide); intro e_; exact h_ (by rw [e_]; rfl)) _; (with_reducible repeat (first | refine blk_drewN ?_ _ | refine blk_drew ?_ | refine blk_alloc ?_ _)); exact BK712.out⟩
    have n5_ : Aside0 ((w31.setCell ⟨go11, ((ji8) : Int).toNat, none⟩ (.int .i64 t719)).heap[gb717]? = some (.cells #[.slice (some ⟨go11, 0, none⟩) t713.length co23, .int .i64 t716] 32 (0, 0))) := ⟨by (with_reducible repeat (first | refine blk_drewN ?_ _ | refine blk_drew ?_ | refine blk_alloc ?_ _)); refine blk_far ?_ (by have h_ := Kd.R_ne HO715.out BK717.out (by decide); intro e_; exact h_ (by rw [e_]; rfl)) _; (with_reducible repeat (first | refine blk_drewN ?_ _ | refine blk_drew ?_ | refine blk_alloc ?_ _)); exact BK717.out⟩
    have n6_ : Aside0 (Below w.heap.size w (w31.setCell ⟨go11, ((ji8) : Int).toNat, none⟩ (.int .i64 t719))) := ⟨by repeat (first | (with_reducible first | exact HB.out | apply below_alloc | apply pw_below_drewN | apply below_drew1 | refine below_set ?_ GB11.out | refine below_set ?_ GE709.out | refine below_set ?_ GE710.out | refine below_set ?_ GE711.out | refine below_set ?_ GE712.out | refine below_set ?_ GE717.out) | exact HB.out)⟩
    (try clear HO715); (try clear BK709); (try clear BK710); (try clear BK711); (try clear BK712); (try clear BK717); (try clear HB)
    generalize (w31.setCell ⟨go11, ((ji8) : Int).toNat, none⟩ (.int .i64 t719)) = w33 at n0_ n1_ n2_ n3_ n4_ n5_ n6_ ⊢
    have HO715 := n0_; have BK709 := n1_; have BK710 := n2_; have BK711 := n3_; have BK712 := n4_; have BK717 := n5_; have HB := n6_; clear n0_ n1_ n2_ n3_ n4_ n5_ n6_
    have hnb34 := NB710_711.out
    have hnc34 := NB711_710.out
    have hnb35 := NB710_712.out
    have hnc35 := NB712_710.out
    obtain ⟨hcz36_0, hcz36_1, hcz36_2, hcz36_3, hcz36_4, hcz36_5, hcz36_6, hcz36_7⟩ := ce8 BK710
    obtain ⟨hfz36_0, hfz36_1, hfz36_2, hfz36_3, hfz36_4, hfz36_5, hfz36_6, hfz36_7⟩ := fz8 BK710
    try go_wp2_with (first | ((with_reducible refine gate_callee (f := 71) rfl ?_); refine goesM_ (some 29) rfl rfl Try.func71 #[.int .i64 (wrap64 (a1_2 - 1))] ?_; (with_reducible refine (spec_Byte.calls (wrap64 (a1_2 - 1)) t721 _ A12.out).mono ?_); rintro e w' ⟨rfl, ⟨nd, rfl⟩⟩; refine ⟨_, rfl, ?_⟩; (try (rw [drewN_self w33]; generalize hq_ : World.drewN w33 _ = w33; have n0_ : Aside0 (Kd.R (Kd.int .i64) 3 w33 w.heap.size (fun _ => True) (.slice (some ⟨go11, 0, none⟩) t713.length co23) y720) := ⟨by rw [← hq_]; exact (kr HO715.out)⟩; have n1_ : Aside0 (w33.heap[gb709]? = some (.cells #[.slice A0_0 l0_0.length c0_0, .int .i64 a0_1] 32 (0, 0))) := ⟨by rw [← hq_]; exact (kb BK709.out)⟩; have n2_ : Aside0 (w33.heap[gb710]? = some (.cells #[.int .i64 a1_0, .int .i64 a1_1, .int .i64 a1_2, .int .i64 a1_3, .bool a1_4, .bool a1_5, .bool a1_6, .bool a1_7] 55 (0, 0))) := ⟨by rw [← hq_]; exact (kb BK710.out)⟩; have n3_ : Aside0 (w33.heap[gb711]? = some (.cells #[.slice none 0 0, .int .i64 0] 32 (0, 0))) := ⟨by rw [← hq_]; exact (kb BK711.out)⟩; have n4_ : Aside0 (w33.heap[gb712]? = some (.cells #[.int .i64 0, .int .i64 0, .int .i64 0, .int .i64 0, .bool false, .bool false, .bool false, .bool false] 55 (0, 0))) := ⟨by rw [← hq_]; exact (kb BK712.out)⟩; have n5_ : Aside0 (w33.heap[gb717]? = some (.cells #[.slice (some ⟨go11, 0, none⟩) t713.length co23, .int .i64 t716] 32 (0, 0))) := ⟨by rw [← hq_]; exact (kb BK717.out)⟩; have n6_ : Aside0 (Below w.heap.size w w33) := ⟨by rw [← hq_]; exact (bw HB.out)⟩; clear HO715 BK709 BK710 BK711 BK712 BK717 HB hq_; have HO715 := n0_; have BK709 := n1_; have BK710 := n2_; have BK711 := n3_; have BK712 := n4_; have BK717 := n5_; have HB := n6_; clear n0_ n1_ n2_ n3_ n4_ n5_ n6_; obtain ⟨hcz36_0, hcz36_1, hcz36_2, hcz36_3, hcz36_4, hcz36_5, hcz36_6, hcz36_7⟩ := ce8 BK710; have hfz36_0 := blk_frozen BK710.out 0; have hfz36_1 := blk_frozen BK710.out 1; have hfz36_2 := blk_frozen BK710.out 2; have hfz36_3 := blk_frozen BK710.out 3; have hfz36_4 := blk_frozen BK710.out 4; have hfz36_5 := blk_frozen BK710.out 5; have hfz36_6 := blk_frozen BK710.out 6; have hfz36_7 := blk_frozen BK710.out 7))))
    have n0_ : Aside0 (Kd.R (Kd.int .i64) 3 (w33.setCell ⟨gb710, 2, none⟩ (.int .i64 t721)) w.heap.size (fun _ => True) (.slice (some ⟨go11, 0, none⟩) t713.length co23) y720) := ⟨kr (Kd.R_mono (Kd.R_far (p := ⟨gb710, 2, none⟩) (Kd.R_types HO715.out BK710.out (by decide)) (fun _ hk => hk.2) (.int .i64 t721)) (fun _ hk => trivial))⟩
    have n1_ : Aside0 ((w33.setCell ⟨gb710, 2, none⟩ (.int .i64 t721)).heap[gb709]? = some (.cells #[.slice A0_0 l0_0.length c0_0, .int .i64 a0_1] 32 (0, 0))) := ⟨kf BK709.out⟩
    have n2_ : Aside0 ((w33.setCell ⟨gb710, 2, none⟩ (.int .i64 t721)).heap[gb710]? = some (.cells #[.int .i64 a1_0, .int .i64 a1_1, .int .i64 t721, .int .i64 a1_3, .bool a1_4, .bool a1_5, .bool a1_6, .bool a1_7] 55 (0, 0))) := ⟨kt BK710.out⟩
    have n3_ : Aside0 ((w33.setCell ⟨gb710, 2, none⟩ (.int .i64 t721)).heap[gb711]? = some (.cells #[.slice none 0 0, .int .i64 0] 32 (0, 0))) := ⟨kf BK711.out⟩
    have n4_ : Aside0 ((w33.setCell ⟨gb710, 2, none⟩ (.int .i64 t721)).heap[gb712]? = some (.cells #[.int .i64 0, .int .i64 0, .int .i64 0, .int .i64 0, .bool false, .bool false, .bool false, .bool false] 55 (0, 0))) := ⟨kf BK712.out⟩
    have n5_ : Aside0 ((w33.setCell ⟨gb710, 2, none⟩ (.int .i64 t721)).heap[gb717]? = some (.cells #[.slice (some ⟨go11, 0, none⟩) t713.length co23, .int .i64 t716] 32 (0, 0))) := ⟨kf BK717.out⟩
    have n6_ : Aside0 (Below w.heap.size w (w33.setCell ⟨gb710, 2, none⟩ (.int .i64 t721))) := ⟨bw HB.out⟩
    (try clear HO715); (try clear BK709); (try clear BK710); (try clear BK711); (try clear BK712); (try clear BK717); (try clear HB)
    generalize (w33.setCell ⟨gb710, 2, none⟩ (.int .i64 t721)) = w37 at n0_ n1_ n2_ n3_ n4_ n5_ n6_ ⊢
    have HO715 := n0_; have BK709 := n1_; have BK710 := n2_; have BK711 := n3_; have BK712 := n4_; have BK717 := n5_; have HB := n6_; clear n0_ n1_ n2_ n3_ n4_ n5_ n6_
    replace HO715 := Aside0.mk (Kd.R_drew HO715.out)
    replace BK709 := Aside0.mk (blk_drew BK709.out)
    replace BK710 := Aside0.mk (blk_drew BK710.out)
    replace BK711 := Aside0.mk (blk_drew BK711.out)
    replace BK712 := Aside0.mk (blk_drew BK712.out)
    replace BK717 := Aside0.mk (blk_drew BK717.out)
    replace HB := Aside0.mk (below_drew1 HB.out)
    refine start_ (n := 4) (S := fun w' => w'.cell? ⟨gb717, 0, none⟩ = some (.slice (some ⟨go11, 0, none⟩) t713.length co23) ∧ w'.cell? ⟨gb717, 1, none⟩ = some (.int .i64 t716) ∧ w'.cell? ⟨gb710, 0, none⟩ = some (.int .i64 a1_0) ∧ w'.cell? ⟨gb710, 1, none⟩ = some (.int .i64 a1_1) ∧ w'.cell? ⟨gb710, 2, none⟩ = some (.int .i64 t721) ∧ w'.cell? ⟨gb710, 3, none⟩ = some (.int .i64 a1_3) ∧ w'.cell? ⟨gb710, 4, none⟩ = some (.bool a1_4) ∧ w'.cell? ⟨gb710, 5, none⟩ = some (.bool a1_5) ∧ w'.cell? ⟨gb710, 6, none⟩ = some (.bool a1_6) ∧ w'.cell? ⟨gb710, 7, none⟩ = some (.bool a1_7)) (ds := []) (bm 4 0) (by kernel_rfl) rfl (by kernel_rfl) ⟨cl BK717 0, cl BK717 1, cl BK710 0, cl BK710 1, cl BK710 2, cl BK710 3, cl BK710 4, cl BK710 5, cl BK710 6, cl BK710 7⟩ (fun hHeld => ?_)
    generalize w37.drew = w38 at HO715 BK709 BK710 BK711 BK712 BK717 HB hHeld ⊢
    refine tv_ 0 (some 31) (bm 4 1) hHeld ?_
    refine tv_ 1 (some 32) (bm 4 3) hHeld ?_
    refine ov_ 2 none (bm 4 7) (fun K hK => ?_)
    have hs39 : w38.cell? ⟨gb711, 0, none⟩ = some (.slice none 0 0) := cl BK711 0
    have hfs39 := blk_frozen BK711.out 0
    have hns39_0 := NB709_711.out
    have hns39_1 := NB710_711.out
    have hns39_3 := NB712_711.out
    have hns39_4 := NB717_711.out
    have hms39_0 := NB711_709.out
    have hms39_1 := NB711_710.out
    have hms39_3 := NB711_712.out
    have hms39_4 := NB711_717.out
    have hs40 : w38.cell? ⟨gb711, 1, none⟩ = some (.int .i64 0) := cl BK711 1
    have hfs40 := blk_frozen BK711.out 1
    have hns40_0 := NB709_711.out
    have hns40_1 := NB710_711.out
    have hns40_3 := NB712_711.out
    have hns40_4 := NB717_711.out
    have hms40_0 := NB711_709.out
    have hms40_1 := NB711_710.out
    have hms40_3 := NB711_712.out
    have hms40_4 := NB711_717.out
    refine skip_ (w1 := ?_) (by rfl) rfl ?_ ?_
    rotate_left
    ·go_simp
     rfl
    refine hK.out _ _ ⟨(fr NB717_711 (hHeld.1)), (fr NB717_711 (hHeld.2.1)), (fr NB710_711 (hHeld.2.2.1)), (fr NB710_711 (hHeld.2.2.2.1)), (fr NB710_711 (hHeld.2.2.2.2.1)), (fr NB710_711 (hHeld.2.2.2.2.2.1)), (fr NB710_711 (hHeld.2.2.2.2.2.2.1)), (fr NB710_711 (hHeld.2.2.2.2.2.2.2.1)), (fr NB710_711 (hHeld.2.2.2.2.2.2.2.2.1)), (fr NB710_711 (hHeld.2.2.2.2.2.2.2.2.2))⟩ (fun hHeld => ?_)
    clear hK K
    refine ov_ 3 none (bm 4 15) (fun K hK => ?_)
    have hs41 : w38.cell? ⟨gb712, 0, none⟩ = some (.int .i64 0) := cl BK712 0
    have hfs41 := blk_frozen BK712.out 0
    have hns41_0 := NB709_712.out
    have hns41_1 := NB710_712.out
    have hns41_2 := NB711_712.out
    have hns41_4 := NB717_712.out
    have hms41_0 := NB712_709.out
    have hms41_1 := NB712_710.out
    have hms41_2 := NB712_711.out
    have hms41_4 := NB712_717.out
    have hs42 : w38.cell? ⟨gb712, 1, none⟩ = some (.int .i64 0) := cl BK712 1
    have hfs42 := blk_frozen BK712.out 1
    have hns42_0 := NB709_712.out
    have hns42_1 := NB710_712.out
    have hns42_2 := NB711_712.out
    have hns42_4 := NB717_712.out
    have hms42_0 := NB712_709.out
    have hms42_1 := NB712_710.out
    have hms42_2 := NB712_711.out
    have hms42_4 := NB712_717.out
    have hs43 : w38.cell? ⟨gb712, 2, none⟩ = some (.int .i64 0) := cl BK712 2
    have hfs43 := blk_frozen BK712.out 2
    have hns43_0 := NB709_712.out
    have hns43_1 := NB710_712.out
    have hns43_2 := NB711_712.out
    have hns43_4 := NB717_712.out
    have hms43_0 := NB712_709.out
    have hms43_1 := NB712_710.out
    have hms43_2 := NB712_711.out
    have hms43_4 := NB712_717.out
    have hs44 : w38.cell? ⟨gb712, 3, none⟩ = some (.int .i64 0) := cl BK712 3
    have hfs44 := blk_frozen BK712.out 3
    have hns44_0 := NB709_712.out
    have hns44_1 := NB710_712.out
    have hns44_2 := NB711_712.out
    have hns44_4 := NB717_712.out
    have hms44_0 := NB712_709.out
    have hms44_1 := NB712_710.out
    have hms44_2 := NB712_711.out
    have hms44_4 := NB712_717.out
    have hs45 : w38.cell? ⟨gb712, 4, none⟩ = some (.bool false) := cl BK712 4
    have hfs45 := blk_frozen BK712.out 4
    have hns45_0 := NB709_712.out
    have hns45_1 := NB710_712.out
    have hns45_2 := NB711_712.out
    have hns45_4 := NB717_712.out
    have hms45_0 := NB712_709.out
    have hms45_1 := NB712_710.out
    have hms45_2 := NB712_711.out
    have hms45_4 := NB712_717.out
    have hs46 : w38.cell? ⟨gb712, 5, none⟩ = some (.bool false) := cl BK712 5
    have hfs46 := blk_frozen BK712.out 5
    have hns46_0 := NB709_712.out
    have hns46_1 := NB710_712.out
    have hns46_2 := NB711_712.out
    have hns46_4 := NB717_712.out
    have hms46_0 := NB712_709.out
    have hms46_1 := NB712_710.out
    have hms46_2 := NB712_711.out
    have hms46_4 := NB712_717.out
    have hs47 : w38.cell? ⟨gb712, 6, none⟩ = some (.bool false) := cl BK712 6
    have hfs47 := blk_frozen BK712.out 6
    have hns47_0 := NB709_712.out
    have hns47_1 := NB710_712.out
    have hns47_2 := NB711_712.out
    have hns47_4 := NB717_712.out
    have hms47_0 := NB712_709.out
    have hms47_1 := NB712_710.out
    have hms47_2 := NB712_711.out
    have hms47_4 := NB712_717.out
    have hs48 : w38.cell? ⟨gb712, 7, none⟩ = some (.bool false) := cl BK712 7
    have hfs48 := blk_frozen BK712.out 7
    have hns48_0 := NB709_712.out
    have hns48_1 := NB710_712.out
    have hns48_2 := NB711_712.out
    have hns48_4 := NB717_712.out
    have hms48_0 := NB712_709.out
    have hms48_1 := NB712_710.out
    have hms48_2 := NB712_711.out
    have hms48_4 := NB712_717.out
    refine skip_ (w1 := ?_) (by rfl) rfl ?_ ?_
    rotate_left
    ·go_simp
     rfl
    refine hK.out _ _ ⟨(fr NB717_712 (hHeld.1)), (fr NB717_712 (hHeld.2.1)), (fr NB710_712 (hHeld.2.2.1)), (fr NB710_712 (hHeld.2.2.2.1)), (fr NB710_712 (hHeld.2.2.2.2.1)), (fr NB710_712 (hHeld.2.2.2.2.2.1)), (fr NB710_712 (hHeld.2.2.2.2.2.2.1)), (fr NB710_712 (hHeld.2.2.2.2.2.2.2.1)), (fr NB710_712 (hHeld.2.2.2.2.2.2.2.2.1)), (fr NB710_712 (hHeld.2.2.2.2.2.2.2.2.2))⟩ (fun hHeld => ?_)
    clear hK K
    refine done_ (by kernel_rfl) ?_
    try go_wp2
    refine bodyPost_ret (results_cc rfl _ _ gb711 gb712 32 55 #[.slice (some ⟨go11, 0, none⟩) t713.length co23, .int .i64 t716] #[.int .i64 a1_0, .int .i64 a1_1, .int .i64 t721, .int .i64 a1_3, .bool a1_4, .bool a1_5, .bool a1_6, .bool a1_7] (0, 0) (0, 0) _ _ rfl (bf NB711_712 BK711.out) Try.underlying32 rfl (by kernel_rfl) rfl (bf NB712_711 BK712.out) Try.underlying55 rfl (by kernel_rfl)) rfl ?_
    exact ⟨_, by first | rfl | (simp [errW_none, errW_some] <;> rfl) | (simp only [← hji8]; first | rfl | (simp [errW_none, errW_some] <;> rfl)) | (simp [*, errW_none, errW_some] <;> rfl), kr (Kd.R_mono (Kd.R_far (p := ⟨gb712, 7, none⟩) (Kd.R_far (p := ⟨gb712, 6, none⟩) (Kd.R_far (p := ⟨gb712, 5, none⟩) (Kd.R_far (p := ⟨gb712, 4, none⟩) (Kd.R_far (p := ⟨gb712, 3, none⟩) (Kd.R_far (p := ⟨gb712, 2, none⟩) (Kd.R_far (p := ⟨gb712, 1, none⟩) (Kd.R_far (p := ⟨gb712, 0, none⟩) (Kd.R_far (p := ⟨gb711, 1, none⟩) (Kd.R_far (p := ⟨gb711, 0, none⟩) (Kd.R_types (Kd.R_types HO715.out BK711.out (by decide)) BK712.out (by decide)) (fun _ hk => hk.1.2) (.slice (some ⟨go11, 0, none⟩) t713.length co23)) (fun _ hk => hk.1.2) (.int .i64 t716)) (fun _ hk => hk.2) (.int .i64 a1_0)) (fun _ hk => hk.2) (.int .i64 a1_1)) (fun _ hk => hk.2) (.int .i64 t721)) (fun _ hk => hk.2) (.int .i64 a1_3)) (fun _ hk => hk.2) (.bool a1_4)) (fun _ hk => hk.2) (.bool a1_5)) (fun _ hk => hk.2) (.bool a1_6)) (fun _ hk => hk.2) (.bool a1_7)) (fun _ hk => trivial)), bw HB.out⟩
   ·rw [if_neg c10] at H
    exact absurd H (by simp)
  ·rw [if_neg c9] at H
   exact absurd H (by simp)
 ·rw [if_neg c5] at H
  have c5b0 : ((l0_0.length : Int) == 512) = false := beq_eq_false_iff_ne.mpr c5
  have c5b1 : ((l0_0.length : Int) != 512) = true := bne_iff_ne.mpr c5
  simp only [Option.some.injEq, Prod.mk.injEq] at H
  obtain ⟨rfl, rfl, rfl, rfl, rfl, rfl, rfl, rfl, rfl, rfl⟩ := H
  go_enter Try.func91, Try.ntmps91
  try go_wp2_with (first | ((with_reducible refine gate_dst (N := 3) rfl ?_); refine bx (N := 3) (cs := #[.slice A0_0 l0_0.length c0_0, .int .i64 a0_1]) (t := 32) ?_; intro gb709 hg w49 hbox hb; have BK709 := Aside0.mk (hbox); have GW709 := Aside0.mk ((gs hg (bw HB.out))); have GE709 := Aside0.mk ((gs hg (bw HB.out))); replace HB := Aside0.mk (below_step (bw HB.out) hb); clear hb hbox hg) | ((with_reducible refine gate_dst (N := 4) rfl ?_); refine bx (N := 4) (cs := #[.int .i64 a1_0, .int .i64 a1_1, .int .i64 a1_2, .int .i64 a1_3, .bool a1_4, .bool a1_5, .bool a1_6, .bool a1_7]) (t := 55) ?_; intro gb710 hg w50 hbox hb; have BK710 := Aside0.mk (hbox); have GW710 := Aside0.mk ((gs hg (bw HB.out))); have GE710 := Aside0.mk ((gs hg (bw HB.out))); replace HB := Aside0.mk (below_step (bw HB.out) hb); have NB709_710 := Aside0.mk ((ga hg BK709.out)); have NB710_709 := Aside0.mk ((gc hg BK709.out)); replace BK709 := Aside0.mk (bb BK709 hb); clear hb hbox hg) | ((with_reducible refine gate_dst (N := 6) rfl ?_); refine bx (N := 6) (cs := #[.slice none 0 0, .int .i64 0]) (t := 32) ?_; intro gb711 hg w51 hbox hb; have BK711 := Aside0.mk (hbox); have GW711 := Aside0.mk ((gs hg (bw HB.out))); have GE711 := Aside0.mk ((gs hg (bw HB.out))); replace HB := Aside0.mk (below_step (bw HB.out) hb); have NB709_711 := Aside0.mk ((ga hg BK709.out)); have NB711_709 := Aside0.mk ((gc hg BK709.out)); replace BK709 := Aside0.mk (bb BK709 hb); have NB710_711 := Aside0.mk ((ga hg BK710.out)); have NB711_710 := Aside0.mk ((gc hg BK710.out)); replace BK710 := Aside0.mk (bb BK710 hb); clear hb hbox hg) | ((with_reducible refine gate_dst (N := 7) rfl ?_); refine bx (N := 7) (cs := #[.int .i64 0, .int .i64 0, .int .i64 0, .int .i64 0, .bool false, .bool false, .bool false, .bool false]) (t := 55) ?_; intro gb712 hg w52 hbox hb; have BK712 := Aside0.mk (hbox); have GW712 := Aside0.mk ((gs hg (bw HB.out))); have GE712 := Aside0.mk ((gs hg (bw HB.out))); replace HB := Aside0.mk (below_step (bw HB.out) hb); have NB709_712 := Aside0.mk ((ga hg BK709.out)); have NB712_709 := Aside0.mk ((gc hg BK709.out)); replace BK709 := Aside0.mk (bb BK709 hb); have NB710_712 := Aside0.mk ((ga hg BK710.out)); have NB712_710 := Aside0.mk ((gc hg BK710.out)); replace BK710 := Aside0.mk (bb BK710 hb); have NB711_712 := Aside0.mk ((ga hg BK711.out)); have NB712_711 := Aside0.mk ((gc hg BK711.out)); replace BK711 := Aside0.mk (bb BK711 hb); clear hb hbox hg; have hnb53 := NB709_710.out; have hnc53 := NB710_709.out; have hnb54 := NB709_711.out; have hnc54 := NB711_709.out; have hnb55 := NB709_712.out; have hnc55 := NB712_709.out; obtain ⟨hcz56_0, hcz56_1⟩ := ce2 BK709; have hfz56_0 := blk_frozen BK709.out 0; have hfz56_1 := blk_frozen BK709.out 1) | ((with_reducible refine gate_callee (f := 78) rfl ?_); refine goesM_ (some 10) rfl rfl Try.func78 #[.agg #[.slice A0_0 l0_0.length c0_0, .int .i64 a0_1]] ?_; (with_reducible refine (spec_l6Copy.calls _ _ l0_0 a0_1 t713 t716 _ ?side1 ?side2 A4.out).mono ?_); (case side1 => exact kc (Kd.C_below HR0_0.out HB.out)); (case side2 => exact HC0_0.out); rintro e w57 ⟨v714, rfl, ho0, hb⟩; refine ⟨_, rfl, ?_⟩; have HO715 := Aside0.mk (Kd.R_lower ho0 (below_size (bw HB.out))); replace BK709 := Aside0.mk (bb BK709 hb); replace BK710 := Aside0.mk (bb BK710 hb); replace BK711 := Aside0.mk (bb BK711 hb); replace BK712 := Aside0.mk (bb BK712 hb); replace HB := Aside0.mk (below_step (bw HB.out) hb); (try clear hb); (try clear hb2); (try clear hk); (try clear hi); (try clear ho0)) | ((with_reducible refine gate_dst (N := 8) rfl ?_); refine bx (N := 8) (cs := #[.slice none 0 0, .int .i64 0]) (t := 32) ?_; intro gb717 hg w58 hbox hb; replace HO715 := Aside0.mk (Kd.R_below (kr HO715.out) hb); have BK717 := Aside0.mk (hbox); have GW717 := Aside0.mk ((gs hg (bw HB.out))); have GE717 := Aside0.mk ((gs hg (bw HB.out))); replace HB := Aside0.mk (below_step (bw HB.out) hb); have NB709_717 := Aside0.mk ((ga hg BK709.out)); have NB717_709 := Aside0.mk ((gc hg BK709.out)); replace BK709 := Aside0.mk (bb BK709 hb); have NB710_717 := Aside0.mk ((ga hg BK710.out)); have NB717_710 := Aside0.mk ((gc hg BK710.out)); replace BK710 := Aside0.mk (bb BK710 hb); have NB711_717 := Aside0.mk ((ga hg BK711.out)); have NB717_711 := Aside0.mk ((gc hg BK711.out)); replace BK711 := Aside0.mk (bb BK711 hb); have NB712_717 := Aside0.mk ((ga hg BK712.out)); have NB717_712 := Aside0.mk ((gc hg BK712.out)); replace BK712 := Aside0.mk (bb BK712 hb); clear hb hbox hg; obtain ⟨Ao59, co59, eo59⟩ := Kd.R_slice HO715.out; subst eo59; have hnb60 := NB717_709.out; have hnc60 := NB709_717.out; have hnb61 := NB717_710.out; have hnc61 := NB710_717.out; have hnb62 := NB717_711.out; have hnc62 := NB711_717.out; have hnb63 := NB717_712.out; have hnc63 := NB712_717.out; obtain ⟨hcz64_0, hcz64_1⟩ := ce2 BK717; obtain ⟨hfz64_0, hfz64_1⟩ := fz2 BK717; obtain ⟨hcz65_0, hcz65_1⟩ := ce2 BK709; have hfz65_0 := blk_frozen BK709.out 0; have hfz65_1 := blk_frozen BK709.out 1))
  have n0_ : Aside0 (Kd.R (Kd.int .i64) 3 ((w58.setCell ⟨gb717, 0, none⟩ (.slice Ao59 t713.length co59)).setCell ⟨gb717, 1, none⟩ (.int .i64 t716)) w.heap.size (fun _ => True) (.slice Ao59 t713.length co59) t713) := ⟨kr (Kd.R_mono (Kd.R_far (p := ⟨gb717, 1, none⟩) (Kd.R_far (p := ⟨gb717, 0, none⟩) (Kd.R_types HO715.out BK717.out (by decide)) (fun _ hk => hk.2) (.slice Ao59 t713.length co59)) (fun _ hk => hk.2) (.int .i64 t716)) (fun _ hk => trivial))⟩
  have n1_ : Aside0 (((w58.setCell ⟨gb717, 0, none⟩ (.slice Ao59 t713.length co59)).setCell ⟨gb717, 1, none⟩ (.int .i64 t716)).heap[gb709]? = some (.cells #[.slice A0_0 l0_0.length c0_0, .int .i64 a0_1] 32 (0, 0))) := ⟨kf BK709.out⟩
  have n2_ : Aside0 (((w58.setCell ⟨gb717, 0, none⟩ (.slice Ao59 t713.length co59)).setCell ⟨gb717, 1, none⟩ (.int .i64 t716)).heap[gb710]? = some (.cells #[.int .i64 a1_0, .int .i64 a1_1, .int .i64 a1_2, .int .i64 a1_3, .bool a1_4, .bool a1_5, .bool a1_6, .bool a1_7] 55 (0, 0))) := ⟨kf BK710.out⟩
  have n3_ : Aside0 (((w58.setCell ⟨gb717, 0, none⟩ (.slice Ao59 t713.length co59)).setCell ⟨gb717, 1, none⟩ (.int .i64 t716)).heap[gb711]? = some (.cells #[.slice none 0 0, .int .i64 0] 32 (0, 0))) := ⟨kf BK711.out⟩
  have n4_ : Aside0 (((w58.setCell ⟨gb717, 0, none⟩ (.slice Ao59 t713.length co59)).setCell ⟨gb717, 1, none⟩ (.int .i64 t716)).heap[gb712]? = some (.cells #[.int .i64 0, .int .i64 0, .int .i64 0, .int .i64 0, .bool false, .bool false, .bool false, .bool false] 55 (0, 0))) := ⟨kf BK712.out⟩
  have n5_ : Aside0 (((w58.setCell ⟨gb717, 0, none⟩ (.slice Ao59 t713.length co59)).setCell ⟨gb717, 1, none⟩ (.int .i64 t716)).heap[gb717]? = some (.cells #[.slice Ao59 t713.length co59, .int .i64 t716] 32 (0, 0))) := ⟨bq BK717.out⟩
  have n6_ : Aside0 (Below w.heap.size w ((w58.setCell ⟨gb717, 0, none⟩ (.slice Ao59 t713.length co59)).setCell ⟨gb717, 1, none⟩ (.int .i64 t716))) := ⟨bw HB.out⟩
  (try clear HO715); (try clear BK709); (try clear BK710); (try clear BK711); (try clear BK712); (try clear BK717); (try clear HB)
  generalize ((w58.setCell ⟨gb717, 0, none⟩ (.slice Ao59 t713.length co59)).setCell ⟨gb717, 1, none⟩ (.int .i64 t716)) = w66 at n0_ n1_ n2_ n3_ n4_ n5_ n6_ ⊢
  have HO715 := n0_; have BK709 := n1_; have BK710 := n2_; have BK711 := n3_; have BK712 := n4_; have BK717 := n5_; have HB := n6_; clear n0_ n1_ n2_ n3_ n4_ n5_ n6_
  replace HO715 := Aside0.mk (Kd.R_drew HO715.out)
  replace BK709 := Aside0.mk (blk_drew BK709.out)
  replace BK710 := Aside0.mk (blk_drew BK710.out)
  replace BK711 := Aside0.mk (blk_drew BK711.out)
  replace BK712 := Aside0.mk (blk_drew BK712.out)
  replace BK717 := Aside0.mk (blk_drew BK717.out)
  replace HB := Aside0.mk (below_drew1 HB.out)
  refine start_ (n := 4) (S := fun w' => w'.cell? ⟨gb717, 0, none⟩ = some (.slice Ao59 t713.length co59) ∧ w'.cell? ⟨gb717, 1, none⟩ = some (.int .i64 t716) ∧ w'.cell? ⟨gb710, 0, none⟩ = some (.int .i64 a1_0) ∧ w'.cell? ⟨gb710, 1, none⟩ = some (.int .i64 a1_1) ∧ w'.cell? ⟨gb710, 2, none⟩ = some (.int .i64 a1_2) ∧ w'.cell? ⟨gb710, 3, none⟩ = some (.int .i64 a1_3) ∧ w'.cell? ⟨gb710, 4, none⟩ = some (.bool a1_4) ∧ w'.cell? ⟨gb710, 5, none⟩ = some (.bool a1_5) ∧ w'.cell? ⟨gb710, 6, none⟩ = some (.bool a1_6) ∧ w'.cell? ⟨gb710, 7, none⟩ = some (.bool a1_7)) (ds := []) (bm 4 0) (by kernel_rfl) rfl (by kernel_rfl) ⟨cl BK717 0, cl BK717 1, cl BK710 0, cl BK710 1, cl BK710 2, cl BK710 3, cl BK710 4, cl BK710 5, cl BK710 6, cl BK710 7⟩ (fun hHeld => ?_)
  generalize w66.drew = w67 at HO715 BK709 BK710 BK711 BK712 BK717 HB hHeld ⊢
  refine tv_ 0 (some 15) (bm 4 1) hHeld ?_
  refine tv_ 1 (some 16) (bm 4 3) hHeld ?_
  refine ov_ 2 none (bm 4 7) (fun K hK => ?_)
  have hs68 : w67.cell? ⟨gb711, 0, none⟩ = some (.slice none 0 0) := cl BK711 0
  have hfs68 := blk_frozen BK711.out 0
  have hns68_0 := NB709_711.out
  have hns68_1 := NB710_711.out
  have hns68_3 := NB712_711.out
  have hns68_4 := NB717_711.out
  have hms68_0 := NB711_709.out
  have hms68_1 := NB711_710.out
  have hms68_3 := NB711_712.out
  have hms68_4 := NB711_717.out
  have hs69 : w67.cell? ⟨gb711, 1, none⟩ = some (.int .i64 0) := cl BK711 1
  have hfs69 := blk_frozen BK711.out 1
  have hns69_0 := NB709_711.out
  have hns69_1 := NB710_711.out
  have hns69_3 := NB712_711.out
  have hns69_4 := NB717_711.out
  have hms69_0 := NB711_709.out
  have hms69_1 := NB711_710.out
  have hms69_3 := NB711_712.out
  have hms69_4 := NB711_717.out
  refine skip_ (w1 := ?_) (by rfl) rfl ?_ ?_
  rotate_left
  ·go_simp
   rfl
  refine hK.out _ _ ⟨(fr NB717_711 (hHeld.1)), (fr NB717_711 (hHeld.2.1)), (fr NB710_711 (hHeld.2.2.1)), (fr NB710_711 (hHeld.2.2.2.1)), (fr NB710_711 (hHeld.2.2.2.2.1)), (fr NB710_711 (hHeld.2.2.2.2.2.1)), (fr NB710_711 (hHeld.2.2.2.2.2.2.1)), (fr NB710_711 (hHeld.2.2.2.2.2.2.2.1)), (fr NB710_711 (hHeld.2.2.2.2.2.2.2.2.1)), (fr NB710_711 (hHeld.2.2.2.2.2.2.2.2.2))⟩ (fun hHeld => ?_)
  clear hK K
  refine ov_ 3 none (bm 4 15) (fun K hK => ?_)
  have hs70 : w67.cell? ⟨gb712, 0, none⟩ = some (.int .i64 0) := cl BK712 0
  have hfs70 := blk_frozen BK712.out 0
  have hns70_0 := NB709_712.out
  have hns70_1 := NB710_712.out
  have hns70_2 := NB711_712.out
  have hns70_4 := NB717_712.out
  have hms70_0 := NB712_709.out
  have hms70_1 := NB712_710.out
  have hms70_2 := NB712_711.out
  have hms70_4 := NB712_717.out
  have hs71 : w67.cell? ⟨gb712, 1, none⟩ = some (.int .i64 0) := cl BK712 1
  have hfs71 := blk_frozen BK712.out 1
  have hns71_0 := NB709_712.out
  have hns71_1 := NB710_712.out
  have hns71_2 := NB711_712.out
  have hns71_4 := NB717_712.out
  have hms71_0 := NB712_709.out
  have hms71_1 := NB712_710.out
  have hms71_2 := NB712_711.out
  have hms71_4 := NB712_717.out
  have hs72 : w67.cell? ⟨gb712, 2, none⟩ = some (.int .i64 0) := cl BK712 2
  have hfs72 := blk_frozen BK712.out 2
  have hns72_0 := NB709_712.out
  have hns72_1 := NB710_712.out
  have hns72_2 := NB711_712.out
  have hns72_4 := NB717_712.out
  have hms72_0 := NB712_709.out
  have hms72_1 := NB712_710.out
  have hms72_2 := NB712_711.out
  have hms72_4 := NB712_717.out
  have hs73 : w67.cell? ⟨gb712, 3, none⟩ = some (.int .i64 0) := cl BK712 3
  have hfs73 := blk_frozen BK712.out 3
  have hns73_0 := NB709_712.out
  have hns73_1 := NB710_712.out
  have hns73_2 := NB711_712.out
  have hns73_4 := NB717_712.out
  have hms73_0 := NB712_709.out
  have hms73_1 := NB712_710.out
  have hms73_2 := NB712_711.out
  have hms73_4 := NB712_717.out
  have hs74 : w67.cell? ⟨gb712, 4, none⟩ = some (.bool false) := cl BK712 4
  have hfs74 := blk_frozen BK712.out 4
  have hns74_0 := NB709_712.out
  have hns74_1 := NB710_712.out
  have hns74_2 := NB711_712.out
  have hns74_4 := NB717_712.out
  have hms74_0 := NB712_709.out
  have hms74_1 := NB712_710.out
  have hms74_2 := NB712_711.out
  have hms74_4 := NB712_717.out
  have hs75 : w67.cell? ⟨gb712, 5, none⟩ = some (.bool false) := cl BK712 5
  have hfs75 := blk_frozen BK712.out 5
  have hns75_0 := NB709_712.out
  have hns75_1 := NB710_712.out
  have hns75_2 := NB711_712.out
  have hns75_4 := NB717_712.out
  have hms75_0 := NB712_709.out
  have hms75_1 := NB712_710.out
  have hms75_2 := NB712_711.out
  have hms75_4 := NB712_717.out
  have hs76 : w67.cell? ⟨gb712, 6, none⟩ = some (.bool false) := cl BK712 6
  have hfs76 := blk_frozen BK712.out 6
  have hns76_0 := NB709_712.out
  have hns76_1 := NB710_712.out
  have hns76_2 := NB711_712.out
  have hns76_4 := NB717_712.out
  have hms76_0 := NB712_709.out
  have hms76_1 := NB712_710.out
  have hms76_2 := NB712_711.out
  have hms76_4 := NB712_717.out
  have hs77 : w67.cell? ⟨gb712, 7, none⟩ = some (.bool false) := cl BK712 7
  have hfs77 := blk_frozen BK712.out 7
  have hns77_0 := NB709_712.out
  have hns77_1 := NB710_712.out
  have hns77_2 := NB711_712.out
  have hns77_4 := NB717_712.out
  have hms77_0 := NB712_709.out
  have hms77_1 := NB712_710.out
  have hms77_2 := NB712_711.out
  have hms77_4 := NB712_717.out
  refine skip_ (w1 := ?_) (by rfl) rfl ?_ ?_
  rotate_left
  ·go_simp
   rfl
  refine hK.out _ _ ⟨(fr NB717_712 (hHeld.1)), (fr NB717_712 (hHeld.2.1)), (fr NB710_712 (hHeld.2.2.1)), (fr NB710_712 (hHeld.2.2.2.1)), (fr NB710_712 (hHeld.2.2.2.2.1)), (fr NB710_712 (hHeld.2.2.2.2.2.1)), (fr NB710_712 (hHeld.2.2.2.2.2.2.1)), (fr NB710_712 (hHeld.2.2.2.2.2.2.2.1)), (fr NB710_712 (hHeld.2.2.2.2.2.2.2.2.1)), (fr NB710_712 (hHeld.2.2.2.2.2.2.2.2.2))⟩ (fun hHeld => ?_)
  clear hK K
  refine done_ (by kernel_rfl) ?_
  try go_wp2
  refine bodyPost_ret (results_cc rfl _ _ gb711 gb712 32 55 #[.slice Ao59 t713.length co59, .int .i64 t716] #[.int .i64 a1_0, .int .i64 a1_1, .int .i64 a1_2, .int .i64 a1_3, .bool a1_4, .bool a1_5, .bool a1_6, .bool a1_7] (0, 0) (0, 0) _ _ rfl (bf NB711_712 BK711.out) Try.underlying32 rfl (by kernel_rfl) rfl (bf NB712_711 BK712.out) Try.underlying55 rfl (by kernel_rfl)) rfl ?_
  exact ⟨_, rt, kr (Kd.R_mono (Kd.R_far (p := ⟨gb712, 7, none⟩) (Kd.R_far (p := ⟨gb712, 6, none⟩) (Kd.R_far (p := ⟨gb712, 5, none⟩) (Kd.R_far (p := ⟨gb712, 4, none⟩) (Kd.R_far (p := ⟨gb712, 3, none⟩) (Kd.R_far (p := ⟨gb712, 2, none⟩) (Kd.R_far (p := ⟨gb712, 1, none⟩) (Kd.R_far (p := ⟨gb712, 0, none⟩) (Kd.R_far (p := ⟨gb711, 1, none⟩) (Kd.R_far (p := ⟨gb711, 0, none⟩) (Kd.R_types (Kd.R_types HO715.out BK711.out (by decide)) BK712.out (by decide)) (fun _ hk => hk.1.2) (.slice Ao59 t713.length co59)) (fun _ hk => hk.1.2) (.int .i64 t716)) (fun _ hk => hk.2) (.int .i64 a1_0)) (fun _ hk => hk.2) (.int .i64 a1_1)) (fun _ hk => hk.2) (.int .i64 a1_2)) (fun _ hk => hk.2) (.int .i64 a1_3)) (fun _ hk => hk.2) (.bool a1_4)) (fun _ hk => hk.2) (.bool a1_5)) (fun _ hk => hk.2) (.bool a1_6)) (fun _ hk => hk.2) (.bool a1_7)) (fun _ hk => trivial)), bw HB.out⟩

/-! ### spec_l1Bit: function 116 -/
def spec_l1Bit.f (a0 : Bool) : Option (Int) := if a0 = true then (some 1) else (some 0)
set_option maxHeartbeats 8000000 in
set_option maxRecDepth 100000 in
theorem spec_l1Bit.calls (a0 : Bool) (r : Int) (w : World) (h : spec_l1Bit.f a0 = some r) :
  Calls Try.prog 116 #[.bool a0] w fun e w' => e = .returned (.int .i64 r) ∧ Drawn0 w w' := by
 have H : (if a0 = true then (some 1) else (some 0)) = some r := h
 clear h
 by_cases c2 : a0 = true
 ·subst c2
  have H1 : (some 1) = some r := by rw [if_pos rfl] at H; exact H
  clear H
  have H := H1
  clear H1
  obtain rfl := Option.some.inj H
  go_enter Try.func116, Try.ntmps116
  go_wp2
  go_ret
  exact ⟨by first | rfl | (simp; done) | (simp [*]; done), by repeat (first | exact Drawn0.refl _ | apply Drawn0.step)⟩
 ·replace c2 := Bool.eq_false_iff.mpr c2
  subst c2
  have H1 : (some 0) = some r := by rw [if_neg (show ¬ (false = true) by decide)] at H; exact H
  clear H
  have H := H1
  clear H1
  obtain rfl := Option.some.inj H
  go_enter Try.func116, Try.ntmps116
  go_wp2
  go_ret
  exact ⟨by first | rfl | (simp; done) | (simp [*]; done), by repeat (first | exact Drawn0.refl _ | apply Drawn0.step)⟩

/-! ### spec_Flags: function 100 -/
def spec_Flags.f (a0_0 : Int) (a0_1 : Int) (a0_2 : Int) (a0_3 : Int) (a0_4 : Bool) (a0_5 : Bool) (a0_6 : Bool) (a0_7 : Bool) : Option (Int) := (spec_l1Bit.f a0_6).bind fun t723 => ((spec_l1Bit.f a0_4).bind fun t724 => ((spec_l1Bit.f a0_7).bind fun t725 => ((spec_l1Bit.f a0_5).bind fun t726 => (some (wrap64 ((wrap64 ((wrap64 (t723 + (wrap64 (2 * t724)))) + (wrap64 (4 * t725)))) + (wrap64 (128 * t726))))))))
set_option maxHeartbeats 8000000 in
set_option maxRecDepth 100000 in
theorem spec_Flags.calls (a0_0 : Int) (a0_1 : Int) (a0_2 : Int) (a0_3 : Int) (a0_4 : Bool) (a0_5 : Bool) (a0_6 : Bool) (a0_7 : Bool) (r : Int) (w : World) (h : spec_Flags.f a0_0 a0_1 a0_2 a0_3 a0_4 a0_5 a0_6 a0_7 = some r) :
  Calls Try.prog 100 #[.agg #[.int .i64 a0_0, .int .i64 a0_1, .int .i64 a0_2, .int .i64 a0_3, .bool a0_4, .bool a0_5, .bool a0_6, .bool a0_7]] w fun e w' => e = .returned (.int .i64 r) ∧ Below w.heap.size w w' := by
 have hu55 := Try.underlying55
 have HB := Aside0.mk (Below.refl w.heap.size w)
 have H : ((spec_l1Bit.f a0_6).bind fun t723 => ((spec_l1Bit.f a0_4).bind fun t724 => ((spec_l1Bit.f a0_7).bind fun t725 => ((spec_l1Bit.f a0_5).bind fun t726 => (some (wrap64 ((wrap64 ((wrap64 (t723 + (wrap64 (2 * t724)))) + (wrap64 (4 * t725)))) + (wrap64 (128 * t726))))))))) = some r := h
 clear h
 replace H := Option.bind_eq_some_iff.mp H
 obtain ⟨t723, A20, H⟩ := H
 replace H : ((spec_l1Bit.f a0_4).bind fun t724 => ((spec_l1Bit.f a0_7).bind fun t725 => ((spec_l1Bit.f a0_5).bind fun t726 => (some (wrap64 ((wrap64 ((wrap64 (t723 + (wrap64 (2 * t724)))) + (wrap64 (4 * t725)))) + (wrap64 (128 * t726)))))))) = some r := H
 have A2 := Aside0.mk A20
 clear A20
 replace H := Option.bind_eq_some_iff.mp H
 obtain ⟨t724, A30, H⟩ := H
 replace H : ((spec_l1Bit.f a0_7).bind fun t725 => ((spec_l1Bit.f a0_5).bind fun t726 => (some (wrap64 ((wrap64 ((wrap64 (t723 + (wrap64 (2 * t724)))) + (wrap64 (4 * t725)))) + (wrap64 (128 * t726))))))) = some r := H
 have A3 := Aside0.mk A30
 clear A30
 replace H := Option.bind_eq_some_iff.mp H
 obtain ⟨t725, A40, H⟩ := H
 replace H : ((spec_l1Bit.f a0_5).bind fun t726 => (some (wrap64 ((wrap64 ((wrap64 (t723 + (wrap64 (2 * t724)))) + (wrap64 (4 * t725)))) + (wrap64 (128 * t726)))))) = some r := H
 have A4 := Aside0.mk A40
 clear A40
 replace H := Option.bind_eq_some_iff.mp H
 obtain ⟨t726, A50, H⟩ := H
 replace H : (some (wrap64 ((wrap64 ((wrap64 (t723 + (wrap64 (2 * t724)))) + (wrap64 (4 * t725)))) + (wrap64 (128 * t726))))) = some r := H
 have A5 := Aside0.mk A50
 clear A50
 obtain rfl := Option.some.inj H
 go_enter Try.func100, Try.ntmps100
 go_wp2_with (first | ((with_reducible refine gate_dst (N := 1) rfl ?_); refine bx (N := 1) (cs := #[.int .i64 a0_0, .int .i64 a0_1, .int .i64 a0_2, .int .i64 a0_3, .bool a0_4, .bool a0_5, .bool a0_6, .bool a0_7]) (t := 55) ?_; intro gb722 hg w6 hbox hb; have BK722 := Aside0.mk (hbox); have GW722 := Aside0.mk ((gs hg (bw HB.out))); have GE722 := Aside0.mk ((gs hg (bw HB.out))); replace HB := Aside0.mk (below_step (bw HB.out) hb); clear hb hbox hg; obtain ⟨hcz7_0, hcz7_1, hcz7_2, hcz7_3, hcz7_4, hcz7_5, hcz7_6, hcz7_7⟩ := ce8 BK722; have hfz7_0 := blk_frozen BK722.out 0; have hfz7_1 := blk_frozen BK722.out 1; have hfz7_2 := blk_frozen BK722.out 2; have hfz7_3 := blk_frozen BK722.out 3; have hfz7_4 := blk_frozen BK722.out 4; have hfz7_5 := blk_frozen BK722.out 5; have hfz7_6 := blk_frozen BK722.out 6; have hfz7_7 := blk_frozen BK722.out 7) | (go_at_call 116; (with_reducible refine (spec_l1Bit.calls a0_6 t723 _ A2.out).mono ?_); rintro e w' ⟨rfl, ⟨nd, rfl⟩⟩; (try first | exact ⟨rfl, _, World.drewN_drewN _ _ _⟩ | exact ⟨rfl, _, Eq.trans (World.drewN_drewN _ _ _) (congrArg (World.drewN _) (Nat.add_assoc _ _ _))⟩)) | (go_at_call 116; (with_reducible refine (spec_l1Bit.calls a0_4 t724 _ A3.out).mono ?_); rintro e w' ⟨rfl, ⟨nd, rfl⟩⟩; (try first | exact ⟨rfl, _, World.drewN_drewN _ _ _⟩ | exact ⟨rfl, _, Eq.trans (World.drewN_drewN _ _ _) (congrArg (World.drewN _) (Nat.add_assoc _ _ _))⟩)) | (go_at_call 116; (with_reducible refine (spec_l1Bit.calls a0_7 t725 _ A4.out).mono ?_); rintro e w' ⟨rfl, ⟨nd, rfl⟩⟩; (try first | exact ⟨rfl, _, World.drewN_drewN _ _ _⟩ | exact ⟨rfl, _, Eq.trans (World.drewN_drewN _ _ _) (congrArg (World.drewN _) (Nat.add_assoc _ _ _))⟩)) | (go_at_call 116; (with_reducible refine (spec_l1Bit.calls a0_5 t726 _ A5.out).mono ?_); rintro e w' ⟨rfl, ⟨nd, rfl⟩⟩; (try first | exact ⟨rfl, _, World.drewN_drewN _ _ _⟩ | exact ⟨rfl, _, Eq.trans (World.drewN_drewN _ _ _) (congrArg (World.drewN _) (Nat.add_assoc _ _ _))⟩)))
 repeat (go_quiet (first | ((with_reducible refine gate_dst (N := 1) rfl ?_); refine bx (N := 1) (cs := #[.int .i64 a0_0, .int .i64 a0_1, .int .i64 a0_2, .int .i64 a0_3, .bool a0_4, .bool a0_5, .bool a0_6, .bool a0_7]) (t := 55) ?_; intro gb722 hg w6 hbox hb; have BK722 := Aside0.mk (hbox); have GW722 := Aside0.mk ((gs hg (bw HB.out))); have GE722 := Aside0.mk ((gs hg (bw HB.out))); replace HB := Aside0.mk (below_step (bw HB.out) hb); clear hb hbox hg; obtain ⟨hcz7_0, hcz7_1, hcz7_2, hcz7_3, hcz7_4, hcz7_5, hcz7_6, hcz7_7⟩ := ce8 BK722; have hfz7_0 := blk_frozen BK722.out 0; have hfz7_1 := blk_frozen BK722.out 1; have hfz7_2 := blk_frozen BK722.out 2; have hfz7_3 := blk_frozen BK722.out 3; have hfz7_4 := blk_frozen BK722.out 4; have hfz7_5 := blk_frozen BK722.out 5; have hfz7_6 := blk_frozen BK722.out 6; have hfz7_7 := blk_frozen BK722.out 7) | (go_at_call 116; (with_reducible refine (spec_l1Bit.calls a0_6 t723 _ A2.out).mono ?_); rintro e w' ⟨rfl, ⟨nd, rfl⟩⟩; (try first | exact ⟨rfl, _, World.drewN_drewN _ _ _⟩ | exact ⟨rfl, _, Eq.trans (World.drewN_drewN _ _ _) (congrArg (World.drewN _) (Nat.add_assoc _ _ _))⟩)) | (go_at_call 116; (with_reducible refine (spec_l1Bit.calls a0_4 t724 _ A3.out).mono ?_); rintro e w' ⟨rfl, ⟨nd, rfl⟩⟩; (try first | exact ⟨rfl, _, World.drewN_drewN _ _ _⟩ | exact ⟨rfl, _, Eq.trans (World.drewN_drewN _ _ _) (congrArg (World.drewN _) (Nat.add_assoc _ _ _))⟩)) | (go_at_call 116; (with_reducible refine (spec_l1Bit.calls a0_7 t725 _ A4.out).mono ?_); rintro e w' ⟨rfl, ⟨nd, rfl⟩⟩; (try first | exact ⟨rfl, _, World.drewN_drewN _ _ _⟩ | exact ⟨rfl, _, Eq.trans (World.drewN_drewN _ _ _) (congrArg (World.drewN _) (Nat.add_assoc _ _ _))⟩)) | (go_at_call 116; (with_reducible refine (spec_l1Bit.calls a0_5 t726 _ A5.out).mono ?_); rintro e w' ⟨rfl, ⟨nd, rfl⟩⟩; (try first | exact ⟨rfl, _, World.drewN_drewN _ _ _⟩ | exact ⟨rfl, _, Eq.trans (World.drewN_drewN _ _ _) (congrArg (World.drewN _) (Nat.add_assoc _ _ _))⟩))); try go_wp2_with (first | ((with_reducible refine gate_dst (N := 1) rfl ?_); refine bx (N := 1) (cs := #[.int .i64 a0_0, .int .i64 a0_1, .int .i64 a0_2, .int .i64 a0_3, .bool a0_4, .bool a0_5, .bool a0_6, .bool a0_7]) (t := 55) ?_; intro gb722 hg w6 hbox hb; have BK722 := Aside0.mk (hbox); have GW722 := Aside0.mk ((gs hg (bw HB.out))); have GE722 := Aside0.mk ((gs hg (bw HB.out))); replace HB := Aside0.mk (below_step (bw HB.out) hb); clear hb hbox hg; obtain ⟨hcz7_0, hcz7_1, hcz7_2, hcz7_3, hcz7_4, hcz7_5, hcz7_6, hcz7_7⟩ := ce8 BK722; have hfz7_0 := blk_frozen BK722.out 0; have hfz7_1 := blk_frozen BK722.out 1; have hfz7_2 := blk_frozen BK722.out 2; have hfz7_3 := blk_frozen BK722.out 3; have hfz7_4 := blk_frozen BK722.out 4; have hfz7_5 := blk_frozen BK722.out 5; have hfz7_6 := blk_frozen BK722.out 6; have hfz7_7 := blk_frozen BK722.out 7) | (go_at_call 116; (with_reducible refine (spec_l1Bit.calls a0_6 t723 _ A2.out).mono ?_); rintro e w' ⟨rfl, ⟨nd, rfl⟩⟩; (try first | exact ⟨rfl, _, World.drewN_drewN _ _ _⟩ | exact ⟨rfl, _, Eq.trans (World.drewN_drewN _ _ _) (congrArg (World.drewN _) (Nat.add_assoc _ _ _))⟩)) | (go_at_call 116; (with_reducible refine (spec_l1Bit.calls a0_4 t724 _ A3.out).mono ?_); rintro e w' ⟨rfl, ⟨nd, rfl⟩⟩; (try first | exact ⟨rfl, _, World.drewN_drewN _ _ _⟩ | exact ⟨rfl, _, Eq.trans (World.drewN_drewN _ _ _) (congrArg (World.drewN _) (Nat.add_assoc _ _ _))⟩)) | (go_at_call 116; (with_reducible refine (spec_l1Bit.calls a0_7 t725 _ A4.out).mono ?_); rintro e w' ⟨rfl, ⟨nd, rfl⟩⟩; (try first | exact ⟨rfl, _, World.drewN_drewN _ _ _⟩ | exact ⟨rfl, _, Eq.trans (World.drewN_drewN _ _ _) (congrArg (World.drewN _) (Nat.add_assoc _ _ _))⟩)) | (go_at_call 116; (with_reducible refine (spec_l1Bit.calls a0_5 t726 _ A5.out).mono ?_); rintro e w' ⟨rfl, ⟨nd, rfl⟩⟩; (try first | exact ⟨rfl, _, World.drewN_drewN _ _ _⟩ | exact ⟨rfl, _, Eq.trans (World.drewN_drewN _ _ _) (congrArg (World.drewN _) (Nat.add_assoc _ _ _))⟩))))
 go_ret
 exact ⟨rt, bw HB.out⟩

/-! ### spec_Enter: function 55 -/
def spec_Enter.f (k : Nat) (l0_0 : List (List Int)) (l1_0 : List Int) (a1_1 : Int) (a2_0 : Int) (a2_1 : Int) (a2_2 : Int) (a2_3 : Int) (a2_4 : Bool) (a2_5 : Bool) (a2_6 : Bool) (a2_7 : Bool) (a3 : Int) : Option (List Int × Int × Int × Int × Int × Int × Bool × Bool × Bool × Bool) := (spec_l6Copy.f l1_0 a1_1).bind fun bt732 => ((spec_Flags.f a2_0 a2_1 a2_2 a2_3 a2_4 a2_5 a2_6 a2_7).bind fun t737 => ((spec_Push.f bt732.1 bt732.2 a2_0 a2_1 a2_2 a2_3 a2_4 a2_5 a2_6 a2_7 (a2_3 / 256)).bind fun bt738 => ((spec_Push.f bt738.1 bt738.2.1 bt738.2.2.1 bt738.2.2.2.1 bt738.2.2.2.2.1 bt738.2.2.2.2.2.1 bt738.2.2.2.2.2.2.1 bt738.2.2.2.2.2.2.2.1 bt738.2.2.2.2.2.2.2.2.1 bt738.2.2.2.2.2.2.2.2.2 bt738.2.2.2.2.2.1).bind fun bt750 => ((spec_Push.f bt750.1 bt750.2.1 bt750.2.2.1 bt750.2.2.2.1 bt750.2.2.2.2.1 bt750.2.2.2.2.2.1 bt750.2.2.2.2.2.2.1 bt750.2.2.2.2.2.2.2.1 bt750.2.2.2.2.2.2.2.2.1 bt750.2.2.2.2.2.2.2.2.2 t737).bind fun bt762 => ((spec_Peek.f k l0_0 bt762.1 bt762.2.1 a3).bind fun t774 => ((spec_Peek.f k l0_0 bt762.1 bt762.2.1 (wrap64 (a3 + 1))).bind fun t775 => ((spec_Join.f t774 t775).bind fun t776 => (some (bt762.1, bt762.2.1, bt762.2.2.1, bt762.2.2.2.1, bt762.2.2.2.2.1, t776, bt762.2.2.2.2.2.2.1, bt762.2.2.2.2.2.2.2.1, bt762.2.2.2.2.2.2.2.2.1, true)))))))))
def spec_Enter.T7 : Bool × List (List Nat × List Nat) := (true, [([], []), ([], []), ([], []), ([0, 1, 2], [0, 1, 2]), ([], []), ([], []), ([], []), ([6], [6]), ([4, 5, 7, 3], [4, 5, 7]), ([3, 8, 8], [3, 8]), ([0, 1, 2, 3, 4, 5, 6, 7, 8, 9], []), ([10, 9, 9, 0, 1, 2, 3, 4, 5, 6, 7, 8, 9], [9, 10])])
def spec_Enter.B7 : List Nat := [0, 0, 0, 7, 0, 0, 0, 64, 255, 511, 1023, 2047]
theorem spec_Enter.tab7 : rtab .any (opsOf Try.f55 7) = spec_Enter.T7 := by kernel_rfl
theorem spec_Enter.bits7 : waitsOk spec_Enter.T7.2 spec_Enter.B7 = true := by kernel_rfl
set_option maxHeartbeats 8000000 in
set_option maxRecDepth 100000 in
theorem spec_Enter.calls (k : Nat) (A0_0 : Option Addr) (c0_0 : Nat) (l0_0 : List (List Int)) (A1_0 : Option Addr) (c1_0 : Nat) (l1_0 : List Int) (a1_1 : Int) (a2_0 : Int) (a2_1 : Int) (a2_2 : Int) (a2_3 : Int) (a2_4 : Bool) (a2_5 : Bool) (a2_6 : Bool) (a2_7 : Bool) (a3 : Int) (r1 : List Int) (r2 : Int) (r3 : Int) (r4 : Int) (r5 : Int) (r6 : Int) (r7 : Bool) (r8 : Bool) (r9 : Bool) (r10 : Bool) (w : World) (hr0_0 : Kd.C (Kd.slice 3 (Kd.int .i64)) w A0_0 l0_0.length l0_0) (hc0_0 : l0_0.length ≤ c0_0) (hr1_0 : Kd.C (Kd.int .i64) w A1_0 l1_0.length l1_0) (hc1_0 : l1_0.length ≤ c1_0) (h : spec_Enter.f k l0_0 l1_0 a1_1 a2_0 a2_1 a2_2 a2_3 a2_4 a2_5 a2_6 a2_7 a3 = some (r1, r2, r3, r4, r5, r6, r7, r8, r9, r10)) :
  Calls Try.prog 55 #[.agg #[.slice A0_0 l0_0.length c0_0], .agg #[.slice A1_0 l1_0.length c1_0, .int .i64 a1_1], .agg #[.int .i64 a2_0, .int .i64 a2_1, .int .i64 a2_2, .int .i64 a2_3, .bool a2_4, .bool a2_5, .bool a2_6, .bool a2_7], .int .i64 a3] w fun e w' => ∃ v0_ : Value, e = .returned (.tuple #[.agg #[v0_, .int .i64 r2], .agg #[.int .i64 r3, .int .i64 r4, .int .i64 r5, .int .i64 r6, .bool r7, .bool r8, .bool r9, .bool r10]]) ∧ Kd.R (Kd.int .i64) 3 w' w.heap.size (fun _ => True) v0_ r1 ∧ Below w.heap.size w w' := by
 have hu29 := Try.underlying29
 have hu32 := Try.underlying32
 have hu55 := Try.underlying55
 have HR0_0 := Aside0.mk hr0_0
 have HC0_0 := Aside0.mk hc0_0
 clear hr0_0 hc0_0
 have HR1_0 := Aside0.mk hr1_0
 have HC1_0 := Aside0.mk hc1_0
 clear hr1_0 hc1_0
 have HB := Aside0.mk (Below.refl w.heap.size w)
 have H : ((spec_l6Copy.f l1_0 a1_1).bind fun bt732 => ((spec_Flags.f a2_0 a2_1 a2_2 a2_3 a2_4 a2_5 a2_6 a2_7).bind fun t737 => ((spec_Push.f bt732.1 bt732.2 a2_0 a2_1 a2_2 a2_3 a2_4 a2_5 a2_6 a2_7 (a2_3 / 256)).bind fun bt738 => ((spec_Push.f bt738.1 bt738.2.1 bt738.2.2.1 bt738.2.2.2.1 bt738.2.2.2.2.1 bt738.2.2.2.2.2.1 bt738.2.2.2.2.2.2.1 bt738.2.2.2.2.2.2.2.1 bt738.2.2.2.2.2.2.2.2.1 bt738.2.2.2.2.2.2.2.2.2 bt738.2.2.2.2.2.1).bind fun bt750 => ((spec_Push.f bt750.1 bt750.2.1 bt750.2.2.1 bt750.2.2.2.1 bt750.2.2.2.2.1 bt750.2.2.2.2.2.1 bt750.2.2.2.2.2.2.1 bt750.2.2.2.2.2.2.2.1 bt750.2.2.2.2.2.2.2.2.1 bt750.2.2.2.2.2.2.2.2.2 t737).bind fun bt762 => ((spec_Peek.f k l0_0 bt762.1 bt762.2.1 a3).bind fun t774 => ((spec_Peek.f k l0_0 bt762.1 bt762.2.1 (wrap64 (a3 + 1))).bind fun t775 => ((spec_Join.f t774 t775).bind fun t776 => (some (bt762.1, bt762.2.1, bt762.2.2.1, bt762.2.2.2.1, bt762.2.2.2.2.1, t776, bt762.2.2.2.2.2.2.1, bt762.2.2.2.2.2.2.2.1, bt762.2.2.2.2.2.2.2.2.1, true)))))))))) = some (r1, r2, r3, r4, r5, r6, r7, r8, r9, r10) := h
 clear h
 replace H := Option.bind_eq_some_iff.mp H
 obtain ⟨⟨t732, t735⟩, A50, H⟩ := H
 replace H : ((spec_Flags.f a2_0 a2_1 a2_2 a2_3 a2_4 a2_5 a2_6 a2_7).bind fun t737 => ((spec_Push.f t732 t735 a2_0 a2_1 a2_2 a2_3 a2_4 a2_5 a2_6 a2_7 (a2_3 / 256)).bind fun bt738 => ((spec_Push.f bt738.1 bt738.2.1 bt738.2.2.1 bt738.2.2.2.1 bt738.2.2.2.2.1 bt738.2.2.2.2.2.1 bt738.2.2.2.2.2.2.1 bt738.2.2.2.2.2.2.2.1 bt738.2.2.2.2.2.2.2.2.1 bt738.2.2.2.2.2.2.2.2.2 bt738.2.2.2.2.2.1).bind fun bt750 => ((spec_Push.f bt750.1 bt750.2.1 bt750.2.2.1 bt750.2.2.2.1 bt750.2.2.2.2.1 bt750.2.2.2.2.2.1 bt750.2.2.2.2.2.2.1 bt750.2.2.2.2.2.2.2.1 bt750.2.2.2.2.2.2.2.2.1 bt750.2.2.2.2.2.2.2.2.2 t737).bind fun bt762 => ((spec_Peek.f k l0_0 bt762.1 bt762.2.1 a3).bind fun t774 => ((spec_Peek.f k l0_0 bt762.1 bt762.2.1 (wrap64 (a3 + 1))).bind fun t775 => ((spec_Join.f t774 t775).bind fun t776 => (some (bt762.1, bt762.2.1, bt762.2.2.1, bt762.2.2.2.1, bt762.2.2.2.2.1, t776, bt762.2.2.2.2.2.2.1, bt762.2.2.2.2.2.2.2.1, bt762.2.2.2.2.2.2.2.2.1, true))))))))) = some (r1, r2, r3, r4, r5, r6, r7, r8, r9, r10) := H
 have A5 := Aside0.mk A50
 clear A50
 replace H := Option.bind_eq_some_iff.mp H
 obtain ⟨t737, A60, H⟩ := H
 replace H : ((spec_Push.f t732 t735 a2_0 a2_1 a2_2 a2_3 a2_4 a2_5 a2_6 a2_7 (a2_3 / 256)).bind fun bt738 => ((spec_Push.f bt738.1 bt738.2.1 bt738.2.2.1 bt738.2.2.2.1 bt738.2.2.2.2.1 bt738.2.2.2.2.2.1 bt738.2.2.2.2.2.2.1 bt738.2.2.2.2.2.2.2.1 bt738.2.2.2.2.2.2.2.2.1 bt738.2.2.2.2.2.2.2.2.2 bt738.2.2.2.2.2.1).bind fun bt750 => ((spec_Push.f bt750.1 bt750.2.1 bt750.2.2.1 bt750.2.2.2.1 bt750.2.2.2.2.1 bt750.2.2.2.2.2.1 bt750.2.2.2.2.2.2.1 bt750.2.2.2.2.2.2.2.1 bt750.2.2.2.2.2.2.2.2.1 bt750.2.2.2.2.2.2.2.2.2 t737).bind fun bt762 => ((spec_Peek.f k l0_0 bt762.1 bt762.2.1 a3).bind fun t774 => ((spec_Peek.f k l0_0 bt762.1 bt762.2.1 (wrap64 (a3 + 1))).bind fun t775 => ((spec_Join.f t774 t775).bind fun t776 => (some (bt762.1, bt762.2.1, bt762.2.2.1, bt762.2.2.2.1, bt762.2.2.2.2.1, t776, bt762.2.2.2.2.2.2.1, bt762.2.2.2.2.2.2.2.1, bt762.2.2.2.2.2.2.2.2.1, true)))))))) = some (r1, r2, r3, r4, r5, r6, r7, r8, r9, r10) := H
 have A6 := Aside0.mk A60
 clear A60
 replace H := Option.bind_eq_some_iff.mp H
 obtain ⟨⟨t738, t741, t742, t743, t744, t745, t746, t747, t748, t749⟩, A70, H⟩ := H
 replace H : ((spec_Push.f t738 t741 t742 t743 t744 t745 t746 t747 t748 t749 t745).bind fun bt750 => ((spec_Push.f bt750.1 bt750.2.1 bt750.2.2.1 bt750.2.2.2.1 bt750.2.2.2.2.1 bt750.2.2.2.2.2.1 bt750.2.2.2.2.2.2.1 bt750.2.2.2.2.2.2.2.1 bt750.2.2.2.2.2.2.2.2.1 bt750.2.2.2.2.2.2.2.2.2 t737).bind fun bt762 => ((spec_Peek.f k l0_0 bt762.1 bt762.2.1 a3).bind fun t774 => ((spec_Peek.f k l0_0 bt762.1 bt762.2.1 (wrap64 (a3 + 1))).bind fun t775 => ((spec_Join.f t774 t775).bind fun t776 => (some (bt762.1, bt762.2.1, bt762.2.2.1, bt762.2.2.2.1, bt762.2.2.2.2.1, t776, bt762.2.2.2.2.2.2.1, bt762.2.2.2.2.2.2.2.1, bt762.2.2.2.2.2.2.2.2.1, true))))))) = some (r1, r2, r3, r4, r5, r6, r7, r8, r9, r10) := H
 have A7 := Aside0.mk A70
 clear A70
 replace H := Option.bind_eq_some_iff.mp H
 obtain ⟨⟨t750, t753, t754, t755, t756, t757, t758, t759, t760, t761⟩, A80, H⟩ := H
 replace H : ((spec_Push.f t750 t753 t754 t755 t756 t757 t758 t759 t760 t761 t737).bind fun bt762 => ((spec_Peek.f k l0_0 bt762.1 bt762.2.1 a3).bind fun t774 => ((spec_Peek.f k l0_0 bt762.1 bt762.2.1 (wrap64 (a3 + 1))).bind fun t775 => ((spec_Join.f t774 t775).bind fun t776 => (some (bt762.1, bt762.2.1, bt762.2.2.1, bt762.2.2.2.1, bt762.2.2.2.2.1, t776, bt762.2.2.2.2.2.2.1, bt762.2.2.2.2.2.2.2.1, bt762.2.2.2.2.2.2.2.2.1, true)))))) = some (r1, r2, r3, r4, r5, r6, r7, r8, r9, r10) := H
 have A8 := Aside0.mk A80
 clear A80
 replace H := Option.bind_eq_some_iff.mp H
 obtain ⟨⟨t762, t765, t766, t767, t768, t769, t770, t771, t772, t773⟩, A90, H⟩ := H
 replace H : ((spec_Peek.f k l0_0 t762 t765 a3).bind fun t774 => ((spec_Peek.f k l0_0 t762 t765 (wrap64 (a3 + 1))).bind fun t775 => ((spec_Join.f t774 t775).bind fun t776 => (some (t762, t765, t766, t767, t768, t776, t770, t771, t772, true))))) = some (r1, r2, r3, r4, r5, r6, r7, r8, r9, r10) := H
 have A9 := Aside0.mk A90
 clear A90
 replace H := Option.bind_eq_some_iff.mp H
 obtain ⟨t774, A100, H⟩ := H
 replace H : ((spec_Peek.f k l0_0 t762 t765 (wrap64 (a3 + 1))).bind fun t775 => ((spec_Join.f t774 t775).bind fun t776 => (some (t762, t765, t766, t767, t768, t776, t770, t771, t772, true)))) = some (r1, r2, r3, r4, r5, r6, r7, r8, r9, r10) := H
 have A10 := Aside0.mk A100
 clear A100
 replace H := Option.bind_eq_some_iff.mp H
 obtain ⟨t775, A110, H⟩ := H
 replace H : ((spec_Join.f t774 t775).bind fun t776 => (some (t762, t765, t766, t767, t768, t776, t770, t771, t772, true))) = some (r1, r2, r3, r4, r5, r6, r7, r8, r9, r10) := H
 have A11 := Aside0.mk A110
 clear A110
 replace H := Option.bind_eq_some_iff.mp H
 obtain ⟨t776, A120, H⟩ := H
 replace H : (some (t762, t765, t766, t767, t768, t776, t770, t771, t772, true)) = some (r1, r2, r3, r4, r5, r6, r7, r8, r9, r10) := H
 have A12 := Aside0.mk A120
 clear A120
 simp only [Option.some.injEq, Prod.mk.injEq] at H
 obtain ⟨rfl, rfl, rfl, rfl, rfl, rfl, rfl, rfl, rfl, rfl⟩ := H
 go_enter Try.func55, Try.ntmps55
 try go_wp2_with (first | ((with_reducible refine gate_dst (N := 4) rfl ?_); refine bx (N := 4) (cs := #[.slice A0_0 l0_0.length c0_0]) (t := 29) ?_; intro gb727 hg w13 hbox hb; have BK727 := Aside0.mk (hbox); have GW727 := Aside0.mk ((gs hg (bw HB.out))); have GE727 := Aside0.mk ((gs hg (bw HB.out))); replace HB := Aside0.mk (below_step (bw HB.out) hb); clear hb hbox hg) | ((with_reducible refine gate_dst (N := 5) rfl ?_); refine bx (N := 5) (cs := #[.slice A1_0 l1_0.length c1_0, .int .i64 a1_1]) (t := 32) ?_; intro gb728 hg w14 hbox hb; have BK728 := Aside0.mk (hbox); have GW728 := Aside0.mk ((gs hg (bw HB.out))); have GE728 := Aside0.mk ((gs hg (bw HB.out))); replace HB := Aside0.mk (below_step (bw HB.out) hb); have NB727_728 := Aside0.mk ((ga hg BK727.out)); have NB728_727 := Aside0.mk ((gc hg BK727.out)); replace BK727 := Aside0.mk (bb BK727 hb); clear hb hbox hg) | ((with_reducible refine gate_dst (N := 6) rfl ?_); refine bx (N := 6) (cs := #[.int .i64 a2_0, .int .i64 a2_1, .int .i64 a2_2, .int .i64 a2_3, .bool a2_4, .bool a2_5, .bool a2_6, .bool a2_7]) (t := 55) ?_; intro gb729 hg w15 hbox hb; have BK729 := Aside0.mk (hbox); have GW729 := Aside0.mk ((gs hg (bw HB.out))); have GE729 := Aside0.mk ((gs hg (bw HB.out))); replace HB := Aside0.mk (below_step (bw HB.out) hb); have NB727_729 := Aside0.mk ((ga hg BK727.out)); have NB729_727 := Aside0.mk ((gc hg BK727.out)); replace BK727 := Aside0.mk (bb BK727 hb); have NB728_729 := Aside0.mk ((ga hg BK728.out)); have NB729_728 := Aside0.mk ((gc hg BK728.out)); replace BK728 := Aside0.mk (bb BK728 hb); clear hb hbox hg) | ((with_reducible refine gate_dst (N := 8) rfl ?_); refine bx (N := 8) (cs := #[.slice none 0 0, .int .i64 0]) (t := 32) ?_; intro gb730 hg w16 hbox hb; have BK730 := Aside0.mk (hbox); have GW730 := Aside0.mk ((gs hg (bw HB.out))); have GE730 := Aside0.mk ((gs hg (bw HB.out))); replace HB := Aside0.mk (below_step (bw HB.out) hb); have NB727_730 := Aside0.mk ((ga hg BK727.out)); have NB730_727 := Aside0.mk ((gc hg BK727.out)); replace BK727 := Aside0.mk (bb BK727 hb); have NB728_730 := Aside0.mk ((ga hg BK728.out)); have NB730_728 := Aside0.mk ((gc hg BK728.out)); replace BK728 := Aside0.mk (bb BK728 hb); have NB729_730 := Aside0.mk ((ga hg BK729.out)); have NB730_729 := Aside0.mk ((gc hg BK729.out)); replace BK729 := Aside0.mk (bb BK729 hb); clear hb hbox hg) | ((with_reducible refine gate_dst (N := 9) rfl ?_); refine bx (N := 9) (cs := #[.int .i64 0, .int .i64 0, .int .i64 0, .int .i64 0, .bool false, .bool false, .bool false, .bool false]) (t := 55) ?_; intro gb731 hg w17 hbox hb; have BK731 := Aside0.mk (hbox); have GW731 := Aside0.mk ((gs hg (bw HB.out))); have GE731 := Aside0.mk ((gs hg (bw HB.out))); replace HB := Aside0.mk (below_step (bw HB.out) hb); have NB727_731 := Aside0.mk ((ga hg BK727.out)); have NB731_727 := Aside0.mk ((gc hg BK727.out)); replace BK727 := Aside0.mk (bb BK727 hb); have NB728_731 := Aside0.mk ((ga hg BK728.out)); have NB731_728 := Aside0.mk ((gc hg BK728.out)); replace BK728 := Aside0.mk (bb BK728 hb); have NB729_731 := Aside0.mk ((ga hg BK729.out)); have NB731_729 := Aside0.mk ((gc hg BK729.out)); replace BK729 := Aside0.mk (bb BK729 hb); have NB730_731 := Aside0.mk ((ga hg BK730.out)); have NB731_730 := Aside0.mk ((gc hg BK730.out)); replace BK730 := Aside0.mk (bb BK730 hb); clear hb hbox hg; have hnb18 := NB728_727.out; have hnc18 := NB727_728.out; have hnb19 := NB728_729.out; have hnc19 := NB729_728.out; have hnb20 := NB728_730.out; have hnc20 := NB730_728.out; have hnb21 := NB728_731.out; have hnc21 := NB731_728.out; obtain ⟨hcz22_0, hcz22_1⟩ := ce2 BK728; have hfz22_0 := blk_frozen BK728.out 0; have hfz22_1 := blk_frozen BK728.out 1) | ((with_reducible refine gate_callee (f := 78) rfl ?_); refine goesM_ (some 13) rfl rfl Try.func78 #[.agg #[.slice A1_0 l1_0.length c1_0, .int .i64 a1_1]] ?_; (with_reducible refine (spec_l6Copy.calls _ _ l1_0 a1_1 t732 t735 _ ?side1 ?side2 A5.out).mono ?_); (case side1 => exact kc (Kd.C_below HR1_0.out HB.out)); (case side2 => exact HC1_0.out); rintro e w23 ⟨v733, rfl, ho0, hb⟩; refine ⟨_, rfl, ?_⟩; have HO734 := Aside0.mk (Kd.R_lower ho0 (below_size (bw HB.out))); replace BK727 := Aside0.mk (bb BK727 hb); replace BK728 := Aside0.mk (bb BK728 hb); replace BK729 := Aside0.mk (bb BK729 hb); replace BK730 := Aside0.mk (bb BK730 hb); replace BK731 := Aside0.mk (bb BK731 hb); replace HB := Aside0.mk (below_step (bw HB.out) hb); (try clear hb); (try clear hb2); (try clear hk); (try clear hi); (try clear ho0)) | ((with_reducible refine gate_dst (N := 10) rfl ?_); refine bx (N := 10) (cs := #[.slice none 0 0, .int .i64 0]) (t := 32) ?_; intro gb736 hg w24 hbox hb; replace HO734 := Aside0.mk (Kd.R_below (kr HO734.out) hb); have BK736 := Aside0.mk (hbox); have GW736 := Aside0.mk ((gs hg (bw HB.out))); have GE736 := Aside0.mk ((gs hg (bw HB.out))); replace HB := Aside0.mk (below_step (bw HB.out) hb); have NB727_736 := Aside0.mk ((ga hg BK727.out)); have NB736_727 := Aside0.mk ((gc hg BK727.out)); replace BK727 := Aside0.mk (bb BK727 hb); have NB728_736 := Aside0.mk ((ga hg BK728.out)); have NB736_728 := Aside0.mk ((gc hg BK728.out)); replace BK728 := Aside0.mk (bb BK728 hb); have NB729_736 := Aside0.mk ((ga hg BK729.out)); have NB736_729 := Aside0.mk ((gc hg BK729.out)); replace BK729 := Aside0.mk (bb BK729 hb); have NB730_736 := Aside0.mk ((ga hg BK730.out)); have NB736_730 := Aside0.mk ((gc hg BK730.out)); replace BK730 := Aside0.mk (bb BK730 hb); have NB731_736 := Aside0.mk ((ga hg BK731.out)); have NB736_731 := Aside0.mk ((gc hg BK731.out)); replace BK731 := Aside0.mk (bb BK731 hb); clear hb hbox hg; obtain ⟨Ao25, co25, eo25⟩ := Kd.R_slice HO734.out; subst eo25; have hnb26 := NB736_727.out; have hnc26 := NB727_736.out; have hnb27 := NB736_728.out; have hnc27 := NB728_736.out; have hnb28 := NB736_729.out; have hnc28 := NB729_736.out; have hnb29 := NB736_730.out; have hnc29 := NB730_736.out; have hnb30 := NB736_731.out; have hnc30 := NB731_736.out; obtain ⟨hcz31_0, hcz31_1⟩ := ce2 BK736; obtain ⟨hfz31_0, hfz31_1⟩ := fz2 BK736; have hnb32 := NB729_727.out; have hnc32 := NB727_729.out; have hnb33 := NB729_730.out; have hnc33 := NB730_729.out; have hnb34 := NB729_731.out; have hnc34 := NB731_729.out; obtain ⟨hcz35_0, hcz35_1, hcz35_2, hcz35_3, hcz35_4, hcz35_5, hcz35_6, hcz35_7⟩ := ce8 BK729; have hfz35_0 := blk_frozen BK729.out 0; have hfz35_1 := blk_frozen BK729.out 1; have hfz35_2 := blk_frozen BK729.out 2; have hfz35_3 := blk_frozen BK729.out 3; have hfz35_4 := blk_frozen BK729.out 4; have hfz35_5 := blk_frozen BK729.out 5; have hfz35_6 := blk_frozen BK729.out 6; have hfz35_7 := blk_frozen BK729.out 7) | ((with_reducible refine gate_callee (f := 100) rfl ?_); refine goesM_ (some 15) rfl rfl Try.func100 #[.agg #[.int .i64 a2_0, .int .i64 a2_1, .int .i64 a2_2, .int .i64 a2_3, .bool a2_4, .bool a2_5, .bool a2_6, .bool a2_7]] ?_; (with_reducible refine (spec_Flags.calls a2_0 a2_1 a2_2 a2_3 a2_4 a2_5 a2_6 a2_7 t737 _ A6.out).mono ?_); rintro e w36 ⟨rfl, hb⟩; refine ⟨_, rfl, ?_⟩; replace HO734 := Aside0.mk (Kd.R_below (kr ((Kd.R_mono (Kd.R_far (p := ⟨gb736, 1, none⟩) (Kd.R_far (p := ⟨gb736, 0, none⟩) (Kd.R_types HO734.out BK736.out (by decide)) (fun _ hk => hk.2) (.slice Ao25 t732.length co25)) (fun _ hk => hk.2) (.int .i64 t735)) (fun _ h_ => h_.1)))) hb); replace BK727 := Aside0.mk (blk_below (g := gb727) (o := .cells #[.slice A0_0 l0_0.length c0_0] 29 (0, 0)) (kf BK727.out) hb); replace BK728 := Aside0.mk (blk_below (g := gb728) (o := .cells #[.slice A1_0 l1_0.length c1_0, .int .i64 a1_1] 32 (0, 0)) (kf BK728.out) hb); replace BK729 := Aside0.mk (blk_below (g := gb729) (o := .cells #[.int .i64 a2_0, .int .i64 a2_1, .int .i64 a2_2, .int .i64 a2_3, .bool a2_4, .bool a2_5, .bool a2_6, .bool a2_7] 55 (0, 0)) (kf BK729.out) hb); replace BK730 := Aside0.mk (blk_below (g := gb730) (o := .cells #[.slice none 0 0, .int .i64 0] 32 (0, 0)) (kf BK730.out) hb); replace BK731 := Aside0.mk (blk_below (g := gb731) (o := .cells #[.int .i64 0, .int .i64 0, .int .i64 0, .int .i64 0, .bool false, .bool false, .bool false, .bool false] 55 (0, 0)) (kf BK731.out) hb); replace BK736 := Aside0.mk (blk_below (g := gb736) (o := .cells #[.slice Ao25 t732.length co25, .int .i64 t735] 32 (0, 0)) (bq BK736.out) hb); replace HB := Aside0.mk (below_step (bw HB.out) hb); (try clear hb); (try clear hb2); (try clear hk); (try clear hi); obtain ⟨hcz37_0, hcz37_1⟩ := ce2 BK736; obtain ⟨hfz37_0, hfz37_1⟩ := fz2 BK736; obtain ⟨hcz38_0, hcz38_1, hcz38_2, hcz38_3, hcz38_4, hcz38_5, hcz38_6, hcz38_7⟩ := ce8 BK729; have hfz38_0 := blk_frozen BK729.out 0; have hfz38_1 := blk_frozen BK729.out 1; have hfz38_2 := blk_frozen BK729.out 2; have hfz38_3 := blk_frozen BK729.out 3; have hfz38_4 := blk_frozen BK729.out 4; have hfz38_5 := blk_frozen BK729.out 5; have hfz38_6 := blk_frozen BK729.out 6; have hfz38_7 := blk_frozen BK729.out 7) | ((with_reducible refine gate_callee (f := 91) rfl ?_); refine goesM_ (some 22) rfl rfl Try.func91 #[.agg #[.slice Ao25 t732.length co25, .int .i64 t735], .agg #[.int .i64 a2_0, .int .i64 a2_1, .int .i64 a2_2, .int .i64 a2_3, .bool a2_4, .bool a2_5, .bool a2_6, .bool a2_7], .int .i64 (a2_3 / 256)] ?_; (with_reducible refine (spec_Push.calls _ _ t732 t735 a2_0 a2_1 a2_2 a2_3 a2_4 a2_5 a2_6 a2_7 (a2_3 / 256) t738 t741 t742 t743 t744 t745 t746 t747 t748 t749 _ ?side1 ?side2 A7.out).mono ?_); (case side1 => exact kc (Kd.R_reads' HO734.out).2.2); (case side2 => exact (Kd.R_reads' HO734.out).2.1); rintro e w39 ⟨v739, rfl, ho0, hb⟩; refine ⟨_, rfl, ?_⟩; have HO740 := Aside0.mk (Kd.R_lower (Kd.R_new' ho0 (Kd.R_lt (kr HO734.out))) (below_size (bw HB.out))); replace HO734 := Aside0.mk (Kd.R_elder' (kr HO734.out) (Kd.R_base ho0) hb); replace BK727 := Aside0.mk (bb BK727 hb); replace BK728 := Aside0.mk (bb BK728 hb); replace BK729 := Aside0.mk (bb BK729 hb); replace BK730 := Aside0.mk (bb BK730 hb); replace BK731 := Aside0.mk (bb BK731 hb); replace BK736 := Aside0.mk (bb BK736 hb); replace HB := Aside0.mk (below_step (bw HB.out) hb); (try clear hb); (try clear hb2); (try clear hk); (try clear hi); (try clear ho0); obtain ⟨Ao40, co40, eo40⟩ := Kd.R_slice HO740.out; subst eo40; obtain ⟨hcz41_0, hcz41_1⟩ := ce2 BK736; obtain ⟨hfz41_0, hfz41_1⟩ := fz2 BK736; obtain ⟨hcz42_0, hcz42_1, hcz42_2, hcz42_3, hcz42_4, hcz42_5, hcz42_6, hcz42_7⟩ := ce8 BK729; have hfz42_0 := blk_frozen BK729.out 0; have hfz42_1 := blk_frozen BK729.out 1; have hfz42_2 := blk_frozen BK729.out 2; have hfz42_3 := blk_frozen BK729.out 3; have hfz42_4 := blk_frozen BK729.out 4; have hfz42_5 := blk_frozen BK729.out 5; have hfz42_6 := blk_frozen BK729.out 6; have hfz42_7 := blk_frozen BK729.out 7) | ((with_reducible refine gate_callee (f := 91) rfl ?_); refine goesM_ (some 30) rfl rfl Try.func91 #[.agg #[.slice Ao40 t738.length co40, .int .i64 t741], .agg #[.int .i64 t742, .int .i64 t743, .int .i64 t744, .int .i64 t745, .bool t746, .bool t747, .bool t748, .bool t749], .int .i64 t745] ?_; (with_reducible refine (spec_Push.calls _ _ t738 t741 t742 t743 t744 t745 t746 t747 t748 t749 t745 t750 t753 t754 t755 t756 t757 t758 t759 t760 t761 _ ?side1 ?side2 A8.out).mono ?_); (case side1 => refine (Kd.R_reads' (e := 3) (base := w.heap.size) (ok := fun k_ => (True ∧ some k_ ≠ (.slice Ao25 t732.length co25 : Value).ownBlock)) (n := t738.length) (c := co40) ?_).2.2; exact (kr ((Kd.R_mono (Kd.R_mono (Kd.R_far (p := ⟨gb729, 7, none⟩) (Kd.R_far (p := ⟨gb729, 6, none⟩) (Kd.R_far (p := ⟨gb729, 5, none⟩) (Kd.R_far (p := ⟨gb729, 4, none⟩) (Kd.R_far (p := ⟨gb729, 3, none⟩) (Kd.R_far (p := ⟨gb729, 2, none⟩) (Kd.R_far (p := ⟨gb729, 1, none⟩) (Kd.R_far (p := ⟨gb729, 0, none⟩) (Kd.R_far (p := ⟨gb736, 1, none⟩) (Kd.R_far (p := ⟨gb736, 0, none⟩) (Kd.R_types (Kd.R_types HO740.out BK736.out (by decide)) BK729.out (by decide)) (fun _ hk => hk.1.2) (.slice Ao40 t738.length co40)) (fun _ hk => hk.1.2) (.int .i64 t741)) (fun _ hk => hk.2) (.int .i64 t742)) (fun _ hk => hk.2) (.int .i64 t743)) (fun _ hk => hk.2) (.int .i64 t744)) (fun _ hk => hk.2) (.int .i64 t745)) (fun _ hk => hk.2) (.bool t746)) (fun _ hk => hk.2) (.bool t747)) (fun _ hk => hk.2) (.bool t748)) (fun _ hk => hk.2) (.bool t749)) (fun _ h_ => h_.1)) (fun _ h_ => h_.1))))); (case side2 => exact (Kd.R_reads' HO740.out).2.1); rintro e w43 ⟨v751, rfl, ho0, hb⟩; refine ⟨_, rfl, ?_⟩; have HO752 := Aside0.mk (Kd.R_lower (Kd.R_new' (Kd.R_new' ho0 (Kd.R_lt (kr ((Kd.R_mono (Kd.R_mono (Kd.R_far (p := ⟨gb729, 7, none⟩) (Kd.R_far (p := ⟨gb729, 6, none⟩) (Kd.R_far (p := ⟨gb729, 5, none⟩) (Kd.R_far (p := ⟨gb729, 4, none⟩) (Kd.R_far (p := ⟨gb729, 3, none⟩) (Kd.R_far (p := ⟨gb729, 2, none⟩) (Kd.R_far (p := ⟨gb729, 1, none⟩) (Kd.R_far (p := ⟨gb729, 0, none⟩) (Kd.R_far (p := ⟨gb736, 1, none⟩) (Kd.R_far (p := ⟨gb736, 0, none⟩) (Kd.R_types (Kd.R_types HO734.out BK736.out (by decide)) BK729.out (by decide)) (fun _ hk => hk.1.2) (.slice Ao40 t738.length co40)) (fun _ hk => hk.1.2) (.int .i64 t741)) (fun _ hk => hk.2) (.int .i64 t742)) (fun _ hk => hk.2) (.int .i64 t743)) (fun _ hk => hk.2) (.int .i64 t744)) (fun _ hk => hk.2) (.int .i64 t745)) (fun _ hk => hk.2) (.bool t746)) (fun _ hk => hk.2) (.bool t747)) (fun _ hk => hk.2) (.bool t748)) (fun _ hk => hk.2) (.bool t749)) (fun _ h_ => h_.1)) (fun _ h_ => h_.1)))))) (Kd.R_lt (kr ((Kd.R_mono (Kd.R_mono (Kd.R_far (p := ⟨gb729, 7, none⟩) (Kd.R_far (p := ⟨gb729, 6, none⟩) (Kd.R_far (p := ⟨gb729, 5, none⟩) (Kd.R_far (p := ⟨gb729, 4, none⟩) (Kd.R_far (p := ⟨gb729, 3, none⟩) (Kd.R_far (p := ⟨gb729, 2, none⟩) (Kd.R_far (p := ⟨gb729, 1, none⟩) (Kd.R_far (p := ⟨gb729, 0, none⟩) (Kd.R_far (p := ⟨gb736, 1, none⟩) (Kd.R_far (p := ⟨gb736, 0, none⟩) (Kd.R_types (Kd.R_types HO740.out BK736.out (by decide)) BK729.out (by decide)) (fun _ hk => hk.1.2) (.slice Ao40 t738.length co40)) (fun _ hk => hk.1.2) (.int .i64 t741)) (fun _ hk => hk.2) (.int .i64 t742)) (fun _ hk => hk.2) (.int .i64 t743)) (fun _ hk => hk.2) (.int .i64 t744)) (fun _ hk => hk.2) (.int .i64 t745)) (fun _ hk => hk.2) (.bool t746)) (fun _ hk => hk.2) (.bool t747)) (fun _ hk => hk.2) (.bool t748)) (fun _ hk => hk.2) (.bool t749)) (fun _ h_ => h_.1)) (fun _ h_ => h_.1)))))) (below_size (bw HB.out))); replace HO734 := Aside0.mk (Kd.R_elder' (kr ((Kd.R_mono (Kd.R_mono (Kd.R_far (p := ⟨gb729, 7, none⟩) (Kd.R_far (p := ⟨gb729, 6, none⟩) (Kd.R_far (p := ⟨gb729, 5, none⟩) (Kd.R_far (p := ⟨gb729, 4, none⟩) (Kd.R_far (p := ⟨gb729, 3, none⟩) (Kd.R_far (p := ⟨gb729, 2, none⟩) (Kd.R_far (p := ⟨gb729, 1, none⟩) (Kd.R_far (p := ⟨gb729, 0, none⟩) (Kd.R_far (p := ⟨gb736, 1, none⟩) (Kd.R_far (p := ⟨gb736, 0, none⟩) (Kd.R_types (Kd.R_types HO734.out BK736.out (by decide)) BK729.out (by decide)) (fun _ hk => hk.1.2) (.slice Ao40 t738.length co40)) (fun _ hk => hk.1.2) (.int .i64 t741)) (fun _ hk => hk.2) (.int .i64 t742)) (fun _ hk => hk.2) (.int .i64 t743)) (fun _ hk => hk.2) (.int .i64 t744)) (fun _ hk => hk.2) (.int .i64 t745)) (fun _ hk => hk.2) (.bool t746)) (fun _ hk => hk.2) (.bool t747)) (fun _ hk => hk.2) (.bool t748)) (fun _ hk => hk.2) (.bool t749)) (fun _ h_ => h_.1)) (fun _ h_ => h_.1)))) (Kd.R_base ho0) hb); replace HO740 := Aside0.mk (Kd.R_elder' (kr ((Kd.R_mono (Kd.R_mono (Kd.R_far (p := ⟨gb729, 7, none⟩) (Kd.R_far (p := ⟨gb729, 6, none⟩) (Kd.R_far (p := ⟨gb729, 5, none⟩) (Kd.R_far (p := ⟨gb729, 4, none⟩) (Kd.R_far (p := ⟨gb729, 3, none⟩) (Kd.R_far (p := ⟨gb729, 2, none⟩) (Kd.R_far (p := ⟨gb729, 1, none⟩) (Kd.R_far (p := ⟨gb729, 0, none⟩) (Kd.R_far (p := ⟨gb736, 1, none⟩) (Kd.R_far (p := ⟨gb736, 0, none⟩) (Kd.R_types (Kd.R_types HO740.out BK736.out (by decide)) BK729.out (by decide)) (fun _ hk => hk.1.2) (.slice Ao40 t738.length co40)) (fun _ hk => hk.1.2) (.int .i64 t741)) (fun _ hk => hk.2) (.int .i64 t742)) (fun _ hk => hk.2) (.int .i64 t743)) (fun _ hk => hk.2) (.int .i64 t744)) (fun _ hk => hk.2) (.int .i64 t745)) (fun _ hk => hk.2) (.bool t746)) (fun _ hk => hk.2) (.bool t747)) (fun _ hk => hk.2) (.bool t748)) (fun _ hk => hk.2) (.bool t749)) (fun _ h_ => h_.1)) (fun _ h_ => h_.1)))) (Kd.R_base ho0) hb); replace BK727 := Aside0.mk (blk_below (g := gb727) (o := .cells #[.slice A0_0 l0_0.length c0_0] 29 (0, 0)) (kf BK727.out) hb); replace BK728 := Aside0.mk (blk_below (g := gb728) (o := .cells #[.slice A1_0 l1_0.length c1_0, .int .i64 a1_1] 32 (0, 0)) (kf BK728.out) hb); replace BK729 := Aside0.mk (blk_below (g := gb729) (o := .cells #[.int .i64 t742, .int .i64 t743, .int .i64 t744, .int .i64 t745, .bool t746, .bool t747, .bool t748, .bool t749] 55 (0, 0)) (bf NB729_736 BK729.out) hb); replace BK730 := Aside0.mk (blk_below (g := gb730) (o := .cells #[.slice none 0 0, .int .i64 0] 32 (0, 0)) (kf BK730.out) hb); replace BK731 := Aside0.mk (blk_below (g := gb731) (o := .cells #[.int .i64 0, .int .i64 0, .int .i64 0, .int .i64 0, .bool false, .bool false, .bool false, .bool false] 55 (0, 0)) (kf BK731.out) hb); replace BK736 := Aside0.mk (blk_below (g := gb736) (o := .cells #[.slice Ao40 t738.length co40, .int .i64 t741] 32 (0, 0)) (bf NB736_729 BK736.out) hb); replace HB := Aside0.mk (below_step (bw HB.out) hb); (try clear hb); (try clear hb2); (try clear hk); (try clear hi); (try clear ho0); obtain ⟨Ao44, co44, eo44⟩ := Kd.R_slice HO752.out; subst eo44; obtain ⟨hcz45_0, hcz45_1⟩ := ce2 BK736; obtain ⟨hfz45_0, hfz45_1⟩ := fz2 BK736; obtain ⟨hcz46_0, hcz46_1, hcz46_2, hcz46_3, hcz46_4, hcz46_5, hcz46_6, hcz46_7⟩ := ce8 BK729; have hfz46_0 := blk_frozen BK729.out 0; have hfz46_1 := blk_frozen BK729.out 1; have hfz46_2 := blk_frozen BK729.out 2; have hfz46_3 := blk_frozen BK729.out 3; have hfz46_4 := blk_frozen BK729.out 4; have hfz46_5 := blk_frozen BK729.out 5; have hfz46_6 := blk_frozen BK729.out 6; have hfz46_7 := blk_frozen BK729.out 7) | ((with_reducible refine gate_callee (f := 91) rfl ?_); refine goesM_ (some 37) rfl rfl Try.func91 #[.agg #[.slice Ao44 t750.length co44, .int .i64 t753], .agg #[.int .i64 t754, .int .i64 t755, .int .i64 t756, .int .i64 t757, .bool t758, .bool t759, .bool t760, .bool t761], .int .i64 t737] ?_; (with_reducible refine (spec_Push.calls _ _ t750 t753 t754 t755 t756 t757 t758 t759 t760 t761 t737 t762 t765 t766 t767 t768 t769 t770 t771 t772 t773 _ ?side1 ?side2 A9.out).mono ?_); (case side1 => refine (Kd.R_reads' (e := 3) (base := w.heap.size) (ok := fun k_ => ((True ∧ some k_ ≠ (.slice Ao25 t732.length co25 : Value).ownBlock) ∧ some k_ ≠ (.slice Ao40 t738.length co40 : Value).ownBlock)) (n := t750.length) (c := co44) ?_).2.2; exact (kr ((Kd.R_mono (Kd.R_mono (Kd.R_far (p := ⟨gb729, 7, none⟩) (Kd.R_far (p := ⟨gb729, 6, none⟩) (Kd.R_far (p := ⟨gb729, 5, none⟩) (Kd.R_far (p := ⟨gb729, 4, none⟩) (Kd.R_far (p := ⟨gb729, 3, none⟩) (Kd.R_far (p := ⟨gb729, 2, none⟩) (Kd.R_far (p := ⟨gb729, 1, none⟩) (Kd.R_far (p := ⟨gb729, 0, none⟩) (Kd.R_far (p := ⟨gb736, 1, none⟩) (Kd.R_far (p := ⟨gb736, 0, none⟩) (Kd.R_types (Kd.R_types HO752.out BK736.out (by decide)) BK729.out (by decide)) (fun _ hk => hk.1.2) (.slice Ao44 t750.length co44)) (fun _ hk => hk.1.2) (.int .i64 t753)) (fun _ hk => hk.2) (.int .i64 t754)) (fun _ hk => hk.2) (.int .i64 t755)) (fun _ hk => hk.2) (.int .i64 t756)) (fun _ hk => hk.2) (.int .i64 t757)) (fun _ hk => hk.2) (.bool t758)) (fun _ hk => hk.2) (.bool t759)) (fun _ hk => hk.2) (.bool t760)) (fun _ hk => hk.2) (.bool t761)) (fun _ h_ => h_.1)) (fun _ h_ => h_.1))))); (case side2 => exact (Kd.R_reads' HO752.out).2.1); rintro e w47 ⟨v763, rfl, ho0, hb⟩; refine ⟨_, rfl, ?_⟩; have HO764 := Aside0.mk (Kd.R_lower (Kd.R_new' (Kd.R_new' (Kd.R_new' ho0 (Kd.R_lt (kr ((Kd.R_mono (Kd.R_mono (Kd.R_far (p := ⟨gb729, 7, none⟩) (Kd.R_far (p := ⟨gb729, 6, none⟩) (Kd.R_far (p := ⟨gb729, 5, none⟩) (Kd.R_far (p := ⟨gb729, 4, none⟩) (Kd.R_far (p := ⟨gb729, 3, none⟩) (Kd.R_far (p := ⟨gb729, 2, none⟩) (Kd.R_far (p := ⟨gb729, 1, none⟩) (Kd.R_far (p := ⟨gb729, 0, none⟩) (Kd.R_far (p := ⟨gb736, 1, none⟩) (Kd.R_far (p := ⟨gb736, 0, none⟩) (Kd.R_types (Kd.R_types HO734.out BK736.out (by decide)) BK729.out (by decide)) (fun _ hk => hk.1.2) (.slice Ao44 t750.length co44)) (fun _ hk => hk.1.2) (.int .i64 t753)) (fun _ hk => hk.2) (.int .i64 t754)) (fun _ hk => hk.2) (.int .i64 t755)) (fun _ hk => hk.2) (.int .i64 t756)) (fun _ hk => hk.2) (.int .i64 t757)) (fun _ hk => hk.2) (.bool t758)) (fun _ hk => hk.2) (.bool t759)) (fun _ hk => hk.2) (.bool t760)) (fun _ hk => hk.2) (.bool t761)) (fun _ h_ => h_.1)) (fun _ h_ => h_.1)))))) (Kd.R_lt (kr ((Kd.R_mono (Kd.R_mono (Kd.R_far (p := ⟨gb729, 7, none⟩) (Kd.R_far (p := ⟨gb729, 6, none⟩) (Kd.R_far (p := ⟨gb729, 5, none⟩) (Kd.R_far (p := ⟨gb729, 4, none⟩) (Kd.R_far (p := ⟨gb729, 3, none⟩) (Kd.R_far (p := ⟨gb729, 2, none⟩) (Kd.R_far (p := ⟨gb729, 1, none⟩) (Kd.R_far (p := ⟨gb729, 0, none⟩) (Kd.R_far (p := ⟨gb736, 1, none⟩) (Kd.R_far (p := ⟨gb736, 0, none⟩) (Kd.R_types (Kd.R_types HO740.out BK736.out (by decide)) BK729.out (by decide)) (fun _ hk => hk.1.2) (.slice Ao44 t750.length co44)) (fun _ hk => hk.1.2) (.int .i64 t753)) (fun _ hk => hk.2) (.int .i64 t754)) (fun _ hk => hk.2) (.int .i64 t755)) (fun _ hk => hk.2) (.int .i64 t756)) (fun _ hk => hk.2) (.int .i64 t757)) (fun _ hk => hk.2) (.bool t758)) (fun _ hk => hk.2) (.bool t759)) (fun _ hk => hk.2) (.bool t760)) (fun _ hk => hk.2) (.bool t761)) (fun _ h_ => h_.1)) (fun _ h_ => h_.1)))))) (Kd.R_lt (kr ((Kd.R_mono (Kd.R_mono (Kd.R_far (p := ⟨gb729, 7, none⟩) (Kd.R_far (p := ⟨gb729, 6, none⟩) (Kd.R_far (p := ⟨gb729, 5, none⟩) (Kd.R_far (p := ⟨gb729, 4, none⟩) (Kd.R_far (p := ⟨gb729, 3, none⟩) (Kd.R_far (p := ⟨gb729, 2, none⟩) (Kd.R_far (p := ⟨gb729, 1, none⟩) (Kd.R_far (p := ⟨gb729, 0, none⟩) (Kd.R_far (p := ⟨gb736, 1, none⟩) (Kd.R_far (p := ⟨gb736, 0, none⟩) (Kd.R_types (Kd.R_types HO752.out BK736.out (by decide)) BK729.out (by decide)) (fun _ hk => hk.1.2) (.slice Ao44 t750.length co44)) (fun _ hk => hk.1.2) (.int .i64 t753)) (fun _ hk => hk.2) (.int .i64 t754)) (fun _ hk => hk.2) (.int .i64 t755)) (fun _ hk => hk.2) (.int .i64 t756)) (fun _ hk => hk.2) (.int .i64 t757)) (fun _ hk => hk.2) (.bool t758)) (fun _ hk => hk.2) (.bool t759)) (fun _ hk => hk.2) (.bool t760)) (fun _ hk => hk.2) (.bool t761)) (fun _ h_ => h_.1)) (fun _ h_ => h_.1)))))) (below_size (bw HB.out))); replace HO734 := Aside0.mk (Kd.R_elder' (kr ((Kd.R_mono (Kd.R_mono (Kd.R_far (p := ⟨gb729, 7, none⟩) (Kd.R_far (p := ⟨gb729, 6, none⟩) (Kd.R_far (p := ⟨gb729, 5, none⟩) (Kd.R_far (p := ⟨gb729, 4, none⟩) (Kd.R_far (p := ⟨gb729, 3, none⟩) (Kd.R_far (p := ⟨gb729, 2, none⟩) (Kd.R_far (p := ⟨gb729, 1, none⟩) (Kd.R_far (p := ⟨gb729, 0, none⟩) (Kd.R_far (p := ⟨gb736, 1, none⟩) (Kd.R_far (p := ⟨gb736, 0, none⟩) (Kd.R_types (Kd.R_types HO734.out BK736.out (by decide)) BK729.out (by decide)) (fun _ hk => hk.1.2) (.slice Ao44 t750.length co44)) (fun _ hk => hk.1.2) (.int .i64 t753)) (fun _ hk => hk.2) (.int .i64 t754)) (fun _ hk => hk.2) (.int .i64 t755)) (fun _ hk => hk.2) (.int .i64 t756)) (fun _ hk => hk.2) (.int .i64 t757)) (fun _ hk => hk.2) (.bool t758)) (fun _ hk => hk.2) (.bool t759)) (fun _ hk => hk.2) (.bool t760)) (fun _ hk => hk.2) (.bool t761)) (fun _ h_ => h_.1)) (fun _ h_ => h_.1)))) (Kd.R_base ho0) hb); replace HO740 := Aside0.mk (Kd.R_elder' (kr ((Kd.R_mono (Kd.R_mono (Kd.R_far (p := ⟨gb729, 7, none⟩) (Kd.R_far (p := ⟨gb729, 6, none⟩) (Kd.R_far (p := ⟨gb729, 5, none⟩) (Kd.R_far (p := ⟨gb729, 4, none⟩) (Kd.R_far (p := ⟨gb729, 3, none⟩) (Kd.R_far (p := ⟨gb729, 2, none⟩) (Kd.R_far (p := ⟨gb729, 1, none⟩) (Kd.R_far (p := ⟨gb729, 0, none⟩) (Kd.R_far (p := ⟨gb736, 1, none⟩) (Kd.R_far (p := ⟨gb736, 0, none⟩) (Kd.R_types (Kd.R_types HO740.out BK736.out (by decide)) BK729.out (by decide)) (fun _ hk => hk.1.2) (.slice Ao44 t750.length co44)) (fun _ hk => hk.1.2) (.int .i64 t753)) (fun _ hk => hk.2) (.int .i64 t754)) (fun _ hk => hk.2) (.int .i64 t755)) (fun _ hk => hk.2) (.int .i64 t756)) (fun _ hk => hk.2) (.int .i64 t757)) (fun _ hk => hk.2) (.bool t758)) (fun _ hk => hk.2) (.bool t759)) (fun _ hk => hk.2) (.bool t760)) (fun _ hk => hk.2) (.bool t761)) (fun _ h_ => h_.1)) (fun _ h_ => h_.1)))) (Kd.R_base ho0) hb); replace HO752 := Aside0.mk (Kd.R_elder' (kr ((Kd.R_mono (Kd.R_mono (Kd.R_far (p := ⟨gb729, 7, none⟩) (Kd.R_far (p := ⟨gb729, 6, none⟩) (Kd.R_far (p := ⟨gb729, 5, none⟩) (Kd.R_far (p := ⟨gb729, 4, none⟩) (Kd.R_far (p := ⟨gb729, 3, none⟩) (Kd.R_far (p := ⟨gb729, 2, none⟩) (Kd.R_far (p := ⟨gb729, 1, none⟩) (Kd.R_far (p := ⟨gb729, 0, none⟩) (Kd.R_far (p := ⟨gb736, 1, none⟩) (Kd.R_far (p := ⟨gb736, 0, none⟩) (Kd.R_types (Kd.R_types HO752.out BK736.out (by decide)) BK729.out (by decide)) (fun _ hk => hk.1.2) (.slice Ao44 t750.length co44)) (fun _ hk => hk.1.2) (.int .i64 t753)) (fun _ hk => hk.2) (.int .i64 t754)) (fun _ hk => hk.2) (.int .i64 t755)) (fun _ hk => hk.2) (.int .i64 t756)) (fun _ hk => hk.2) (.int .i64 t757)) (fun _ hk => hk.2) (.bool t758)) (fun _ hk => hk.2) (.bool t759)) (fun _ hk => hk.2) (.bool t760)) (fun _ hk => hk.2) (.bool t761)) (fun _ h_ => h_.1)) (fun _ h_ => h_.1)))) (Kd.R_base ho0) hb); replace BK727 := Aside0.mk (blk_below (g := gb727) (o := .cells #[.slice A0_0 l0_0.length c0_0] 29 (0, 0)) (kf BK727.out) hb); replace BK728 := Aside0.mk (blk_below (g := gb728) (o := .cells #[.slice A1_0 l1_0.length c1_0, .int .i64 a1_1] 32 (0, 0)) (kf BK728.out) hb); replace BK729 := Aside0.mk (blk_below (g := gb729) (o := .cells #[.int .i64 t754, .int .i64 t755, .int .i64 t756, .int .i64 t757, .bool t758, .bool t759, .bool t760, .bool t761] 55 (0, 0)) (bf NB729_736 BK729.out) hb); replace BK730 := Aside0.mk (blk_below (g := gb730) (o := .cells #[.slice none 0 0, .int .i64 0] 32 (0, 0)) (kf BK730.out) hb); replace BK731 := Aside0.mk (blk_below (g := gb731) (o := .cells #[.int .i64 0, .int .i64 0, .int .i64 0, .int .i64 0, .bool false, .bool false, .bool false, .bool false] 55 (0, 0)) (kf BK731.out) hb); replace BK736 := Aside0.mk (blk_below (g := gb736) (o := .cells #[.slice Ao44 t750.length co44, .int .i64 t753] 32 (0, 0)) (bf NB736_729 BK736.out) hb); replace HB := Aside0.mk (below_step (bw HB.out) hb); (try clear hb); (try clear hb2); (try clear hk); (try clear hi); (try clear ho0); obtain ⟨Ao48, co48, eo48⟩ := Kd.R_slice HO764.out; subst eo48; obtain ⟨hcz49_0, hcz49_1⟩ := ce2 BK736; obtain ⟨hfz49_0, hfz49_1⟩ := fz2 BK736; obtain ⟨hcz50_0, hcz50_1, hcz50_2, hcz50_3, hcz50_4, hcz50_5, hcz50_6, hcz50_7⟩ := ce8 BK729; have hfz50_0 := blk_frozen BK729.out 0; have hfz50_1 := blk_frozen BK729.out 1; have hfz50_2 := blk_frozen BK729.out 2; have hfz50_3 := blk_frozen BK729.out 3; have hfz50_4 := blk_frozen BK729.out 4; have hfz50_5 := blk_frozen BK729.out 5; have hfz50_6 := blk_frozen BK729.out 6; have hfz50_7 := blk_frozen BK729.out 7))
 have n0_ : Aside0 (Kd.R (Kd.int .i64) 3 (((((((((((w47.setCell ⟨gb736, 0, none⟩ (.slice Ao48 t762.length co48)).setCell ⟨gb736, 1, none⟩ (.int .i64 t765)).setCell ⟨gb729, 0, none⟩ (.int .i64 t766)).setCell ⟨gb729, 1, none⟩ (.int .i64 t767)).setCell ⟨gb729, 2, none⟩ (.int .i64 t768)).setCell ⟨gb729, 3, none⟩ (.int .i64 t769)).setCell ⟨gb729, 4, none⟩ (.bool t770)).setCell ⟨gb729, 5, none⟩ (.bool t771)).setCell ⟨gb729, 6, none⟩ (.bool t772)).setCell ⟨gb729, 7, none⟩ (.bool t773)).setCell ⟨gb729, 7, none⟩ (.bool true)) w.heap.size (fun k_ => some k_ ≠ (.slice Ao40 t738.length co40 : Value).ownBlock ∧ some k_ ≠ (.slice Ao44 t750.length co44 : Value).ownBlock ∧ some k_ ≠ (.slice Ao48 t762.length co48 : Value).ownBlock) (.slice Ao25 t732.length co25) t732) := ⟨kr (Kd.R_mono (Kd.R_far (p := ⟨gb729, 7, none⟩) (Kd.R_far (p := ⟨gb729, 7, none⟩) (Kd.R_far (p := ⟨gb729, 6, none⟩) (Kd.R_far (p := ⟨gb729, 5, none⟩) (Kd.R_far (p := ⟨gb729, 4, none⟩) (Kd.R_far (p := ⟨gb729, 3, none⟩) (Kd.R_far (p := ⟨gb729, 2, none⟩) (Kd.R_far (p := ⟨gb729, 1, none⟩) (Kd.R_far (p := ⟨gb729, 0, none⟩) (Kd.R_far (p := ⟨gb736, 1, none⟩) (Kd.R_far (p := ⟨gb736, 0, none⟩) (Kd.R_types (Kd.R_types HO734.out BK736.out (by decide)) BK729.out (by decide)) (fun _ hk => hk.1.2) (.slice Ao48 t762.length co48)) (fun _ hk => hk.1.2) (.int .i64 t765)) (fun _ hk => hk.2) (.int .i64 t766)) (fun _ hk => hk.2) (.int .i64 t767)) (fun _ hk => hk.2) (.int .i64 t768)) (fun _ hk => hk.2) (.int .i64 t769)) (fun _ hk => hk.2) (.bool t770)) (fun _ hk => hk.2) (.bool t771)) (fun _ hk => hk.2) (.bool t772)) (fun _ hk => hk.2) (.bool t773)) (fun _ hk => hk.2) (.bool true)) (fun _ hk => ⟨hk.1.1.1.1.2, ⟨hk.1.1.1.2, hk.1.1.2⟩⟩))⟩
 have n1_ : Aside0 (Kd.R (Kd.int .i64) 3 (((((((((((w47.setCell ⟨gb736, 0, none⟩ (.slice Ao48 t762.length co48)).setCell ⟨gb736, 1, none⟩ (.int .i64 t765)).setCell ⟨gb729, 0, none⟩ (.int .i64 t766)).setCell ⟨gb729, 1, none⟩ (.int .i64 t767)).setCell ⟨gb729, 2, none⟩ (.int .i64 t768)).setCell ⟨gb729, 3, none⟩ (.int .i64 t769)).setCell ⟨gb729, 4, none⟩ (.bool t770)).setCell ⟨gb729, 5, none⟩ (.bool t771)).setCell ⟨gb729, 6, none⟩ (.bool t772)).setCell ⟨gb729, 7, none⟩ (.bool t773)).setCell ⟨gb729, 7, none⟩ (.bool true)) w.heap.size (fun k_ => some k_ ≠ (.slice Ao25 t732.length co25 : Value).ownBlock ∧ some k_ ≠ (.slice Ao44 t750.length co44 : Value).ownBlock ∧ some k_ ≠ (.slice Ao48 t762.length co48 : Value).ownBlock) (.slice Ao40 t738.length co40) t738) := ⟨kr (Kd.R_mono (Kd.R_far (p := ⟨gb729, 7, none⟩) (Kd.R_far (p := ⟨gb729, 7, none⟩) (Kd.R_far (p := ⟨gb729, 6, none⟩) (Kd.R_far (p := ⟨gb729, 5, none⟩) (Kd.R_far (p := ⟨gb729, 4, none⟩) (Kd.R_far (p := ⟨gb729, 3, none⟩) (Kd.R_far (p := ⟨gb729, 2, none⟩) (Kd.R_far (p := ⟨gb729, 1, none⟩) (Kd.R_far (p := ⟨gb729, 0, none⟩) (Kd.R_far (p := ⟨gb736, 1, none⟩) (Kd.R_far (p := ⟨gb736, 0, none⟩) (Kd.R_types (Kd.R_types HO740.out BK736.out (by decide)) BK729.out (by decide)) (fun _ hk => hk.1.2) (.slice Ao48 t762.length co48)) (fun _ hk => hk.1.2) (.int .i64 t765)) (fun _ hk => hk.2) (.int .i64 t766)) (fun _ hk => hk.2) (.int .i64 t767)) (fun _ hk => hk.2) (.int .i64 t768)) (fun _ hk => hk.2) (.int .i64 t769)) (fun _ hk => hk.2) (.bool t770)) (fun _ hk => hk.2) (.bool t771)) (fun _ hk => hk.2) (.bool t772)) (fun _ hk => hk.2) (.bool t773)) (fun _ hk => hk.2) (.bool true)) (fun _ hk => ⟨hk.1.1.1.1.2, ⟨hk.1.1.1.2, hk.1.1.2⟩⟩))⟩
 have n2_ : Aside0 (Kd.R (Kd.int .i64) 3 (((((((((((w47.setCell ⟨gb736, 0, none⟩ (.slice Ao48 t762.length co48)).setCell ⟨gb736, 1, none⟩ (.int .i64 t765)).setCell ⟨gb729, 0, none⟩ (.int .i64 t766)).setCell ⟨gb729, 1, none⟩ (.int .i64 t767)).setCell ⟨gb729, 2, none⟩ (.int .i64 t768)).setCell ⟨gb729, 3, none⟩ (.int .i64 t769)).setCell ⟨gb729, 4, none⟩ (.bool t770)).setCell ⟨gb729, 5, none⟩ (.bool t771)).setCell ⟨gb729, 6, none⟩ (.bool t772)).setCell ⟨gb729, 7, none⟩ (.bool t773)).setCell ⟨gb729, 7, none⟩ (.bool true)) w.heap.size (fun k_ => some k_ ≠ (.slice Ao25 t732.length co25 : Value).ownBlock ∧ some k_ ≠ (.slice Ao40 t738.length co40 : Value).ownBlock ∧ some k_ ≠ (.slice Ao48 t762.length co48 : Value).ownBlock) (.slice Ao44 t750.length co44) t750) := ⟨kr (Kd.R_mono (Kd.R_far (p := ⟨gb729, 7, none⟩) (Kd.R_far (p := ⟨gb729, 7, none⟩) (Kd.R_far (p := ⟨gb729, 6, none⟩) (Kd.R_far (p := ⟨gb729, 5, none⟩) (Kd.R_far (p := ⟨gb729, 4, none⟩) (Kd.R_far (p := ⟨gb729, 3, none⟩) (Kd.R_far (p := ⟨gb729, 2, none⟩) (Kd.R_far (p := ⟨gb729, 1, none⟩) (Kd.R_far (p := ⟨gb729, 0, none⟩) (Kd.R_far (p := ⟨gb736, 1, none⟩) (Kd.R_far (p := ⟨gb736, 0, none⟩) (Kd.R_types (Kd.R_types HO752.out BK736.out (by decide)) BK729.out (by decide)) (fun _ hk => hk.1.2) (.slice Ao48 t762.length co48)) (fun _ hk => hk.1.2) (.int .i64 t765)) (fun _ hk => hk.2) (.int .i64 t766)) (fun _ hk => hk.2) (.int .i64 t767)) (fun _ hk => hk.2) (.int .i64 t768)) (fun _ hk => hk.2) (.int .i64 t769)) (fun _ hk => hk.2) (.bool t770)) (fun _ hk => hk.2) (.bool t771)) (fun _ hk => hk.2) (.bool t772)) (fun _ hk => hk.2) (.bool t773)) (fun _ hk => hk.2) (.bool true)) (fun _ hk => ⟨hk.1.1.1.1.2, ⟨hk.1.1.1.2, hk.1.1.2⟩⟩))⟩
 have n3_ : Aside0 (Kd.R (Kd.int .i64) 3 (((((((((((w47.setCell ⟨gb736, 0, none⟩ (.slice Ao48 t762.length co48)).setCell ⟨gb736, 1, none⟩ (.int .i64 t765)).setCell ⟨gb729, 0, none⟩ (.int .i64 t766)).setCell ⟨gb729, 1, none⟩ (.int .i64 t767)).setCell ⟨gb729, 2, none⟩ (.int .i64 t768)).setCell ⟨gb729, 3, none⟩ (.int .i64 t769)).setCell ⟨gb729, 4, none⟩ (.bool t770)).setCell ⟨gb729, 5, none⟩ (.bool t771)).setCell ⟨gb729, 6, none⟩ (.bool t772)).setCell ⟨gb729, 7, none⟩ (.bool t773)).setCell ⟨gb729, 7, none⟩ (.bool true)) w.heap.size (fun k_ => some k_ ≠ (.slice Ao25 t732.length co25 : Value).ownBlock ∧ some k_ ≠ (.slice Ao40 t738.length co40 : Value).ownBlock ∧ some k_ ≠ (.slice Ao44 t750.length co44 : Value).ownBlock) (.slice Ao48 t762.length co48) t762) := ⟨kr (Kd.R_mono (Kd.R_far (p := ⟨gb729, 7, none⟩) (Kd.R_far (p := ⟨gb729, 7, none⟩) (Kd.R_far (p := ⟨gb729, 6, none⟩) (Kd.R_far (p := ⟨gb729, 5, none⟩) (Kd.R_far (p := ⟨gb729, 4, none⟩) (Kd.R_far (p := ⟨gb729, 3, none⟩) (Kd.R_far (p := ⟨gb729, 2, none⟩) (Kd.R_far (p := ⟨gb729, 1, none⟩) (Kd.R_far (p := ⟨gb729, 0, none⟩) (Kd.R_far (p := ⟨gb736, 1, none⟩) (Kd.R_far (p := ⟨gb736, 0, none⟩) (Kd.R_types (Kd.R_types HO764.out BK736.out (by decide)) BK729.out (by decide)) (fun _ hk => hk.1.2) (.slice Ao48 t762.length co48)) (fun _ hk => hk.1.2) (.int .i64 t765)) (fun _ hk => hk.2) (.int .i64 t766)) (fun _ hk => hk.2) (.int .i64 t767)) (fun _ hk => hk.2) (.int .i64 t768)) (fun _ hk => hk.2) (.int .i64 t769)) (fun _ hk => hk.2) (.bool t770)) (fun _ hk => hk.2) (.bool t771)) (fun _ hk => hk.2) (.bool t772)) (fun _ hk => hk.2) (.bool t773)) (fun _ hk => hk.2) (.bool true)) (fun _ hk => ⟨hk.1.1.1.1.2, ⟨hk.1.1.1.2, hk.1.1.2⟩⟩))⟩
 have n4_ : Aside0 ((((((((((((w47.setCell ⟨gb736, 0, none⟩ (.slice Ao48 t762.length co48)).setCell ⟨gb736, 1, none⟩ (.int .i64 t765)).setCell ⟨gb729, 0, none⟩ (.int .i64 t766)).setCell ⟨gb729, 1, none⟩ (.int .i64 t767)).setCell ⟨gb729, 2, none⟩ (.int .i64 t768)).setCell ⟨gb729, 3, none⟩ (.int .i64 t769)).setCell ⟨gb729, 4, none⟩ (.bool t770)).setCell ⟨gb729, 5, none⟩ (.bool t771)).setCell ⟨gb729, 6, none⟩ (.bool t772)).setCell ⟨gb729, 7, none⟩ (.bool t773)).setCell ⟨gb729, 7, none⟩ (.bool true)).heap[gb727]? = some (.cells #[.slice A0_0 l0_0.length c0_0] 29 (0, 0))) := ⟨kf BK727.out⟩
 have n5_ : Aside0 ((((((((((((w47.setCell ⟨gb736, 0, none⟩ (.slice Ao48 t762.length co48)).setCell ⟨gb736, 1, none⟩ (.int .i64 t765)).setCell ⟨gb729, 0, none⟩ (.int .i64 t766)).setCell ⟨gb729, 1, none⟩ (.int .i64 t767)).setCell ⟨gb729, 2, none⟩ (.int .i64 t768)).setCell ⟨gb729, 3, none⟩ (.int .i64 t769)).setCell ⟨gb729, 4, none⟩ (.bool t770)).setCell ⟨gb729, 5, none⟩ (.bool t771)).setCell ⟨gb729, 6, none⟩ (.bool t772)).setCell ⟨gb729, 7, none⟩ (.bool t773)).setCell ⟨gb729, 7, none⟩ (.bool true)).heap[gb728]? = some (.cells #[.slice A1_0 l1_0.length c1_0, .int .i64 a1_1] 32 (0, 0))) := ⟨kf BK728.out⟩
 have n6_ : Aside0 ((((((((((((w47.setCell ⟨gb736, 0, none⟩ (.slice Ao48 t762.length co48)).setCell ⟨gb736, 1, none⟩ (.int .i64 t765)).setCell ⟨gb729, 0, none⟩ (.int .i64 t766)).setCell ⟨gb729, 1, none⟩ (.int .i64 t767)).setCell ⟨gb729, 2, none⟩ (.int .i64 t768)).setCell ⟨gb729, 3, none⟩ (.int .i64 t769)).setCell ⟨gb729, 4, none⟩ (.bool t770)).setCell ⟨gb729, 5, none⟩ (.bool t771)).setCell ⟨gb729, 6, none⟩ (.bool t772)).setCell ⟨gb729, 7, none⟩ (.bool t773)).setCell ⟨gb729, 7, none⟩ (.bool true)).heap[gb729]? = some (.cells #[.int .i64 t766, .int .i64 t767, .int .i64 t768, .int .i64 t769, .bool t770, .bool t771, .bool t772, .bool true] 55 (0, 0))) := ⟨bf NB729_736 BK729.out⟩
 have n7_ : Aside0 ((((((((((((w47.setCell ⟨gb736, 0, none⟩ (.slice Ao48 t762.length co48)).setCell ⟨gb736, 1, none⟩ (.int .i64 t765)).setCell ⟨gb729, 0, none⟩ (.int .i64 t766)).setCell ⟨gb729, 1, none⟩ (.int .i64 t767)).setCell ⟨gb729, 2, none⟩ (.int .i64 t768)).setCell ⟨gb729, 3, none⟩ (.int .i64 t769)).setCell ⟨gb729, 4, none⟩ (.bool t770)).setCell ⟨gb729, 5, none⟩ (.bool t771)).setCell ⟨gb729, 6, none⟩ (.bool t772)).setCell ⟨gb729, 7, none⟩ (.bool t773)).setCell ⟨gb729, 7, none⟩ (.bool true)).heap[gb730]? = some (.cells #[.slice none 0 0, .int .i64 0] 32 (0, 0))) := ⟨kf BK730.out⟩
 have n8_ : Aside0 ((((((((((((w47.setCell ⟨gb736, 0, none⟩ (.slice Ao48 t762.length co48)).setCell ⟨gb736, 1, none⟩ (.int .i64 t765)).setCell ⟨gb729, 0, none⟩ (.int .i64 t766)).setCell ⟨gb729, 1, none⟩ (.int .i64 t767)).setCell ⟨gb729, 2, none⟩ (.int .i64 t768)).setCell ⟨gb729, 3, none⟩ (.int .i64 t769)).setCell ⟨gb729, 4, none⟩ (.bool t770)).setCell ⟨gb729, 5, none⟩ (.bool t771)).setCell ⟨gb729, 6, none⟩ (.bool t772)).setCell ⟨gb729, 7, none⟩ (.bool t773)).setCell ⟨gb729, 7, none⟩ (.bool true)).heap[gb731]? = some (.cells #[.int .i64 0, .int .i64 0, .int .i64 0, .int .i64 0, .bool false, .bool false, .bool false, .bool false] 55 (0, 0))) := ⟨kf BK731.out⟩
 have n9_ : Aside0 ((((((((((((w47.setCell ⟨gb736, 0, none⟩ (.slice Ao48 t762.length co48)).setCell ⟨gb736, 1, none⟩ (.int .i64 t765)).setCell ⟨gb729, 0, none⟩ (.int .i64 t766)).setCell ⟨gb729, 1, none⟩ (.int .i64 t767)).setCell ⟨gb729, 2, none⟩ (.int .i64 t768)).setCell ⟨gb729, 3, none⟩ (.int .i64 t769)).setCell ⟨gb729, 4, none⟩ (.bool t770)).setCell ⟨gb729, 5, none⟩ (.bool t771)).setCell ⟨gb729, 6, none⟩ (.bool t772)).setCell ⟨gb729, 7, none⟩ (.bool t773)).setCell ⟨gb729, 7, none⟩ (.bool true)).heap[gb736]? = some (.cells #[.slice Ao48 t762.length co48, .int .i64 t765] 32 (0, 0))) := ⟨bf NB736_729 BK736.out⟩
 have n10_ : Aside0 (Below w.heap.size w (((((((((((w47.setCell ⟨gb736, 0, none⟩ (.slice Ao48 t762.length co48)).setCell ⟨gb736, 1, none⟩ (.int .i64 t765)).setCell ⟨gb729, 0, none⟩ (.int .i64 t766)).setCell ⟨gb729, 1, none⟩ (.int .i64 t767)).setCell ⟨gb729, 2, none⟩ (.int .i64 t768)).setCell ⟨gb729, 3, none⟩ (.int .i64 t769)).setCell ⟨gb729, 4, none⟩ (.bool t770)).setCell ⟨gb729, 5, none⟩ (.bool t771)).setCell ⟨gb729, 6, none⟩ (.bool t772)).setCell ⟨gb729, 7, none⟩ (.bool t773)).setCell ⟨gb729, 7, none⟩ (.bool true))) := ⟨bw HB.out⟩
 (try clear HO734); (try clear HO740); (try clear HO752); (try clear HO764); (try clear BK727); (try clear BK728); (try clear BK729); (try clear BK730); (try clear BK731); (try clear BK736); (try clear HB)
 generalize (((((((((((w47.setCell ⟨gb736, 0, none⟩ (.slice Ao48 t762.length co48)).setCell ⟨gb736, 1, none⟩ (.int .i64 t765)).setCell ⟨gb729, 0, none⟩ (.int .i64 t766)).setCell ⟨gb729, 1, none⟩ (.int .i64 t767)).setCell ⟨gb729, 2, none⟩ (.int .i64 t768)).setCell ⟨gb729, 3, none⟩ (.int .i64 t769)).setCell ⟨gb729, 4, none⟩ (.bool t770)).setCell ⟨gb729, 5, none⟩ (.bool t771)).setCell ⟨gb729, 6, none⟩ (.bool t772)).setCell ⟨gb729, 7, none⟩ (.bool t773)).setCell ⟨gb729, 7, none⟩ (.bool true)) = w51 at n0_ n1_ n2_ n3_ n4_ n5_ n6_ n7_ n8_ n9_ n10_ ⊢
 have HO734 := n0_; have HO740 := n1_; have HO752 := n2_; have HO764 := n3_; have BK727 := n4_; have BK728 := n5_; have BK729 := n6_; have BK730 := n7_; have BK731 := n8_; have BK736 := n9_; have HB := n10_; clear n0_ n1_ n2_ n3_ n4_ n5_ n6_ n7_ n8_ n9_ n10_
 replace HO734 := Aside0.mk (Kd.R_drew HO734.out)
 replace HO740 := Aside0.mk (Kd.R_drew HO740.out)
 replace HO752 := Aside0.mk (Kd.R_drew HO752.out)
 replace HO764 := Aside0.mk (Kd.R_drew HO764.out)
 replace BK727 := Aside0.mk (blk_drew BK727.out)
 replace BK728 := Aside0.mk (blk_drew BK728.out)
 replace BK729 := Aside0.mk (blk_drew BK729.out)
 replace BK730 := Aside0.mk (blk_drew BK730.out)
 replace BK731 := Aside0.mk (blk_drew BK731.out)
 replace BK736 := Aside0.mk (blk_drew BK736.out)
 replace HB := Aside0.mk (below_drew1 HB.out)
 refine start_ (n := 12) (S := fun w' => w'.cell? ⟨gb727, 0, none⟩ = some (.slice A0_0 l0_0.length c0_0) ∧ w'.cell? ⟨gb736, 0, none⟩ = some (.slice Ao48 t762.length co48) ∧ w'.cell? ⟨gb736, 1, none⟩ = some (.int .i64 t765)) (ds := []) (bm 12 0) (by kernel_rfl) rfl (by kernel_rfl) ⟨cl BK727 0, cl BK736 0, cl BK736 1⟩ (fun hHeld => ?_); refine with_tabW spec_Enter.tab7 spec_Enter.bits7 (fun HT_ HW_ => ?_)
 generalize w51.drew = w52 at HO734 HO740 HO752 HO764 BK727 BK728 BK729 BK730 BK731 BK736 HB hHeld ⊢
 refine pw_ 2 (some 43) (bm 12 4) HT_ ?_
 refine pw_ 6 (some 47) (bm 12 68) HT_ ?_
 refine pw_ 7 (some 48) (bm 12 196) HT_ ?_
 refine tw_ 0 (some 41) (bm 12 197) HT_ HW_ hHeld ?_
 refine tw_ 1 (some 42) (bm 12 199) HT_ HW_ hHeld ?_
 refine tw_ 4 (some 45) (bm 12 215) HT_ HW_ hHeld ?_
 refine tw_ 5 (some 46) (bm 12 247) HT_ HW_ hHeld ?_
 refine ow_ 3 (some 44) (bm 12 255) HT_ (fun K hK => ?_)
 refine gw_ Try.func15 #[.agg #[.slice A0_0 l0_0.length c0_0], .agg #[.slice Ao48 t762.length co48, .int .i64 t765], .int .i64 a3] ?_
 with_reducible refine (spec_Peek.calls k _ _ l0_0 _ _ t762 t765 a3 t774 _ ?side1 ?side2 ?side3 ?side4 A10.out).mono ?_
 (case side1 => exact kc (Kd.C_below HR0_0.out HB.out))
 (case side2 => exact HC0_0.out)
 (case side3 => exact kc (Kd.R_reads' HO764.out).2.2)
 (case side4 => exact (Kd.R_reads' HO764.out).2.1)
 rintro e w53 ⟨rfl, hb⟩
 refine ⟨_, rfl, ?_⟩
 replace HO734 := Aside0.mk (Kd.R_below (kr HO734.out) hb)
 replace HO740 := Aside0.mk (Kd.R_below (kr HO740.out) hb)
 replace HO752 := Aside0.mk (Kd.R_below (kr HO752.out) hb)
 replace HO764 := Aside0.mk (Kd.R_below (kr HO764.out) hb)
 replace BK727 := Aside0.mk (bb BK727 hb)
 replace BK728 := Aside0.mk (bb BK728 hb)
 replace BK729 := Aside0.mk (bb BK729 hb)
 replace BK730 := Aside0.mk (bb BK730 hb)
 replace BK731 := Aside0.mk (bb BK731 hb)
 replace BK736 := Aside0.mk (bb BK736 hb)
 replace HB := Aside0.mk (below_step (bw HB.out) hb)
 (try clear hb); (try clear hb2); (try clear hk); (try clear hi)
 refine hK.out _ _ ⟨cl BK727 0, cl BK736 0, cl BK736 1⟩ (fun hHeld => ?_)
 clear hK K
 refine nw_ 44 ?_
 refine ow_ 8 (some 49) (bm 12 511) HT_ (fun K hK => ?_)
 refine gw_ Try.func15 #[.agg #[.slice A0_0 l0_0.length c0_0], .agg #[.slice Ao48 t762.length co48, .int .i64 t765], .int .i64 (wrap64 (a3 + 1))] ?_
 with_reducible refine (spec_Peek.calls k _ _ l0_0 _ _ t762 t765 (wrap64 (a3 + 1)) t775 _ ?side1 ?side2 ?side3 ?side4 A11.out).mono ?_
 (case side1 => exact kc (Kd.C_below HR0_0.out HB.out))
 (case side2 => exact HC0_0.out)
 (case side3 => exact kc (Kd.R_reads' HO764.out).2.2)
 (case side4 => exact (Kd.R_reads' HO764.out).2.1)
 rintro e w54 ⟨rfl, hb⟩
 refine ⟨_, rfl, ?_⟩
 replace HO734 := Aside0.mk (Kd.R_below (kr HO734.out) hb)
 replace HO740 := Aside0.mk (Kd.R_below (kr HO740.out) hb)
 replace HO752 := Aside0.mk (Kd.R_below (kr HO752.out) hb)
 replace HO764 := Aside0.mk (Kd.R_below (kr HO764.out) hb)
 replace BK727 := Aside0.mk (bb BK727 hb)
 replace BK728 := Aside0.mk (bb BK728 hb)
 replace BK729 := Aside0.mk (bb BK729 hb)
 replace BK730 := Aside0.mk (bb BK730 hb)
 replace BK731 := Aside0.mk (bb BK731 hb)
 replace BK736 := Aside0.mk (bb BK736 hb)
 replace HB := Aside0.mk (below_step (bw HB.out) hb)
 (try clear hb); (try clear hb2); (try clear hk); (try clear hi)
 refine hK.out _ _ ⟨cl BK727 0, cl BK736 0, cl BK736 1⟩ (fun hHeld => ?_)
 clear hK K
 refine nw_ 49 ?_
 refine ow_ 9 (some 50) (bm 12 1023) HT_ (fun K hK => ?_)
 refine gw_ Try.func82 #[.int .i64 t774, .int .i64 t775] ?_
 with_reducible refine (spec_Join.calls t774 t775 t776 _ A12.out).mono ?_
 rintro e w' ⟨rfl, ⟨nd, rfl⟩⟩
 refine ⟨_, rfl, ?_⟩
 replace HO734 := Aside0.mk (Kd.R_drewN HO734.out nd)
 replace HO740 := Aside0.mk (Kd.R_drewN HO740.out nd)
 replace HO752 := Aside0.mk (Kd.R_drewN HO752.out nd)
 replace HO764 := Aside0.mk (Kd.R_drewN HO764.out nd)
 replace BK727 := Aside0.mk (blk_drewN BK727.out nd)
 replace BK728 := Aside0.mk (blk_drewN BK728.out nd)
 replace BK729 := Aside0.mk (blk_drewN BK729.out nd)
 replace BK730 := Aside0.mk (blk_drewN BK730.out nd)
 replace BK731 := Aside0.mk (blk_drewN BK731.out nd)
 replace BK736 := Aside0.mk (blk_drewN BK736.out nd)
 replace HB := Aside0.mk (pw_below_drewN HB.out nd)
 generalize w54.drewN nd = w54 at HO734 HO740 HO752 HO764 BK727 BK728 BK729 BK730 BK731 BK736 HB ⊢
 refine hK.out _ _ ⟨cl BK727 0, cl BK736 0, cl BK736 1⟩ (fun hHeld => ?_)
 clear hK K
 refine nw_ 50 ?_
 refine pw_ 10 (some 51) (bm 12 2047) HT_ ?_
 refine ow_ 11 none (bm 12 4095) HT_ (fun K hK => ?_)
 have hs55 : w54.cell? ⟨gb729, 3, none⟩ = some (.int .i64 t769) := cl BK729 3
 have hfs55 := blk_frozen BK729.out 3
 have hns55_0 := NB727_729.out
 have hns55_1 := NB728_729.out
 have hns55_3 := NB730_729.out
 have hns55_4 := NB731_729.out
 have hns55_5 := NB736_729.out
 have hms55_0 := NB729_727.out
 have hms55_1 := NB729_728.out
 have hms55_3 := NB729_730.out
 have hms55_4 := NB729_731.out
 have hms55_5 := NB729_736.out
 refine skip_ (w1 := ?_) (by rfl) rfl ?_ ?_
 rotate_left
 ·go_simp
  rfl
 refine hK.out _ _ ⟨(fr NB727_729 (hHeld.1)), (fr NB736_729 (hHeld.2.1)), (fr NB736_729 (hHeld.2.2))⟩ (fun hHeld => ?_)
 clear hK K
 refine done_ (done_of HT_.out (by kernel_rfl)) ?_
 try go_wp2
 have n0_ : Aside0 (Kd.R (Kd.int .i64) 3 (w54.setCell ⟨gb729, 3, none⟩ (.int .i64 t776)) w.heap.size (fun k_ => some k_ ≠ (.slice Ao40 t738.length co40 : Value).ownBlock ∧ some k_ ≠ (.slice Ao44 t750.length co44 : Value).ownBlock ∧ some k_ ≠ (.slice Ao48 t762.length co48 : Value).ownBlock) (.slice Ao25 t732.length co25) t732) := ⟨kr (Kd.R_mono (Kd.R_far (p := ⟨gb729, 3, none⟩) (Kd.R_types HO734.out BK729.out (by decide)) (fun _ hk => hk.2) (.int .i64 t776)) (fun _ hk => ⟨hk.1.1, ⟨hk.1.2.1, hk.1.2.2⟩⟩))⟩
 have n1_ : Aside0 (Kd.R (Kd.int .i64) 3 (w54.setCell ⟨gb729, 3, none⟩ (.int .i64 t776)) w.heap.size (fun k_ => some k_ ≠ (.slice Ao25 t732.length co25 : Value).ownBlock ∧ some k_ ≠ (.slice Ao44 t750.length co44 : Value).ownBlock ∧ some k_ ≠ (.slice Ao48 t762.length co48 : Value).ownBlock) (.slice Ao40 t738.length co40) t738) := ⟨kr (Kd.R_mono (Kd.R_far (p := ⟨gb729, 3, none⟩) (Kd.R_types HO740.out BK729.out (by decide)) (fun _ hk => hk.2) (.int .i64 t776)) (fun _ hk => ⟨hk.1.1, ⟨hk.1.2.1, hk.1.2.2⟩⟩))⟩
 have n2_ : Aside0 (Kd.R (Kd.int .i64) 3 (w54.setCell ⟨gb729, 3, none⟩ (.int .i64 t776)) w.heap.size (fun k_ => some k_ ≠ (.slice Ao25 t732.length co25 : Value).ownBlock ∧ some k_ ≠ (.slice Ao40 t738.length co40 : Value).ownBlock ∧ some k_ ≠ (.slice Ao48 t762.length co48 : Value).ownBlock) (.slice Ao44 t750.length co44) t750) := ⟨kr (Kd.R_mono (Kd.R_far (p := ⟨gb729, 3, none⟩) (Kd.R_types HO752.out BK729.out (by decide)) (fun _ hk => hk.2) (.int .i64 t776)) (fun _ hk => ⟨hk.1.1, ⟨hk.1.2.1, hk.1.2.2⟩⟩))⟩
 have n3_ : Aside0 (Kd.R (Kd.int .i64) 3 (w54.setCell ⟨gb729, 3, none⟩ (.int .i64 t776)) w.heap.size (fun k_ => some k_ ≠ (.slice Ao25 t732.length co25 : Value).ownBlock ∧ some k_ ≠ (.slice Ao40 t738.length co40 : Value).ownBlock ∧ some k_ ≠ (.slice Ao44 t750.length co44 : Value).ownBlock) (.slice Ao48 t762.length co48) t762) := ⟨kr (Kd.R_mono (Kd.R_far (p := ⟨gb729, 3, none⟩) (Kd.R_types HO764.out BK729.out (by decide)) (fun _ hk => hk.2) (.int .i64 t776)) (fun _ hk => ⟨hk.1.1, ⟨hk.1.2.1, hk.1.2.2⟩⟩))⟩
 have n4_ : Aside0 ((w54.setCell ⟨gb729, 3, none⟩ (.int .i64 t776)).heap[gb727]? = some (.cells #[.slice A0_0 l0_0.length c0_0] 29 (0, 0))) := ⟨kf BK727.out⟩
 have n5_ : Aside0 ((w54.setCell ⟨gb729, 3, none⟩ (.int .i64 t776)).heap[gb728]? = some (.cells #[.slice A1_0 l1_0.length c1_0, .int .i64 a1_1] 32 (0, 0))) := ⟨kf BK728.out⟩
 have n6_ : Aside0 ((w54.setCell ⟨gb729, 3, none⟩ (.int .i64 t776)).heap[gb729]? = some (.cells #[.int .i64 t766, .int .i64 t767, .int .i64 t768, .int .i64 t776, .bool t770, .bool t771, .bool t772, .bool true] 55 (0, 0))) := ⟨kt BK729.out⟩
 have n7_ : Aside0 ((w54.setCell ⟨gb729, 3, none⟩ (.int .i64 t776)).heap[gb730]? = some (.cells #[.slice none 0 0, .int .i64 0] 32 (0, 0))) := ⟨kf BK730.out⟩
 have n8_ : Aside0 ((w54.setCell ⟨gb729, 3, none⟩ (.int .i64 t776)).heap[gb731]? = some (.cells #[.int .i64 0, .int .i64 0, .int .i64 0, .int .i64 0, .bool false, .bool false, .bool false, .bool false] 55 (0, 0))) := ⟨kf BK731.out⟩
 have n9_ : Aside0 ((w54.setCell ⟨gb729, 3, none⟩ (.int .i64 t776)).heap[gb736]? = some (.cells #[.slice Ao48 t762.length co48, .int .i64 t765] 32 (0, 0))) := ⟨kf BK736.out⟩
 have n10_ : Aside0 (Below w.heap.size w (w54.setCell ⟨gb729, 3, none⟩ (.int .i64 t776))) := ⟨bw HB.out⟩
 (try clear HO734); (try clear HO740); (try clear HO752); (try clear HO764); (try clear BK727); (try clear BK728); (try clear BK729); (try clear BK730); (try clear BK731); (try clear BK736); (try clear HB)
 generalize (w54.setCell ⟨gb729, 3, none⟩ (.int .i64 t776)) = w56 at n0_ n1_ n2_ n3_ n4_ n5_ n6_ n7_ n8_ n9_ n10_ ⊢
 have HO734 := n0_; have HO740 := n1_; have HO752 := n2_; have HO764 := n3_; have BK727 := n4_; have BK728 := n5_; have BK729 := n6_; have BK730 := n7_; have BK731 := n8_; have BK736 := n9_; have HB := n10_; clear n0_ n1_ n2_ n3_ n4_ n5_ n6_ n7_ n8_ n9_ n10_
 (try (rw [drewN_self w56]; generalize hq_ : World.drewN w56 _ = w56; have n0_ : Aside0 (Kd.R (Kd.int .i64) 3 w56 w.heap.size (fun k_ => some k_ ≠ (.slice Ao40 t738.length co40 : Value).ownBlock ∧ some k_ ≠ (.slice Ao44 t750.length co44 : Value).ownBlock ∧ some k_ ≠ (.slice Ao48 t762.length co48 : Value).ownBlock) (.slice Ao25 t732.length co25) t732) := ⟨by rw [← hq_]; exact (kr HO734.out)⟩; have n1_ : Aside0 (Kd.R (Kd.int .i64) 3 w56 w.heap.size (fun k_ => some k_ ≠ (.slice Ao25 t732.length co25 : Value).ownBlock ∧ some k_ ≠ (.slice Ao44 t750.length co44 : Value).ownBlock ∧ some k_ ≠ (.slice Ao48 t762.length co48 : Value).ownBlock) (.slice Ao40 t738.length co40) t738) := ⟨by rw [← hq_]; exact (kr HO740.out)⟩; have n2_ : Aside0 (Kd.R (Kd.int .i64) 3 w56 w.heap.size (fun k_ => some k_ ≠ (.slice Ao25 t732.length co25 : Value).ownBlock ∧ some k_ ≠ (.slice Ao40 t738.length co40 : Value).ownBlock ∧ some k_ ≠ (.slice Ao48 t762.length co48 : Value).ownBlock) (.slice Ao44 t750.length co44) t750) := ⟨by rw [← hq_]; exact (kr HO752.out)⟩; have n3_ : Aside0 (Kd.R (Kd.int .i64) 3 w56 w.heap.size (fun k_ => some k_ ≠ (.slice Ao25 t732.length co25 : Value).ownBlock ∧ some k_ ≠ (.slice Ao40 t738.length co40 : Value).ownBlock ∧ some k_ ≠ (.slice Ao44 t750.length co44 : Value).ownBlock) (.slice Ao48 t762.length co48) t762) := ⟨by rw [← hq_]; exact (kr HO764.out)⟩; have n4_ : Aside0 (w56.heap[gb727]? = some (.cells #[.slice A0_0 l0_0.length c0_0] 29 (0, 0))) := ⟨by rw [← hq_]; exact (kb BK727.out)⟩; have n5_ : Aside0 (w56.heap[gb728]? = some (.cells #[.slice A1_0 l1_0.length c1_0, .int .i64 a1_1] 32 (0, 0))) := ⟨by rw [← hq_]; exact (kb BK728.out)⟩; have n6_ : Aside0 (w56.heap[gb729]? = some (.cells #[.int .i64 t766, .int .i64 t767, .int .i64 t768, .int .i64 t776, .bool t770, .bool t771, .bool t772, .bool true] 55 (0, 0))) := ⟨by rw [← hq_]; exact (kb BK729.out)⟩; have n7_ : Aside0 (w56.heap[gb730]? = some (.cells #[.slice none 0 0, .int .i64 0] 32 (0, 0))) := ⟨by rw [← hq_]; exact (kb BK730.out)⟩; have n8_ : Aside0 (w56.heap[gb731]? = some (.cells #[.int .i64 0, .int .i64 0, .int .i64 0, .int .i64 0, .bool false, .bool false, .bool false, .bool false] 55 (0, 0))) := ⟨by rw [← hq_]; exact (kb BK731.out)⟩; have n9_ : Aside0 (w56.heap[gb736]? = some (.cells #[.slice Ao48 t762.length co48, .int .i64 t765] 32 (0, 0))) := ⟨by rw [← hq_]; exact (kb BK736.out)⟩; have n10_ : Aside0 (Below w.heap.size w w56) := ⟨by rw [← hq_]; exact (bw HB.out)⟩; clear HO734 HO740 HO752 HO764 BK727 BK728 BK729 BK730 BK731 BK736 HB hq_; have HO734 := n0_; have HO740 := n1_; have HO752 := n2_; have HO764 := n3_; have BK727 := n4_; have BK728 := n5_; have BK729 := n6_; have BK730 := n7_; have BK731 := n8_; have BK736 := n9_; have HB := n10_; clear n0_ n1_ n2_ n3_ n4_ n5_ n6_ n7_ n8_ n9_ n10_))
 replace HO734 := Aside0.mk (Kd.R_drew HO734.out)
 replace HO740 := Aside0.mk (Kd.R_drew HO740.out)
 replace HO752 := Aside0.mk (Kd.R_drew HO752.out)
 replace HO764 := Aside0.mk (Kd.R_drew HO764.out)
 replace BK727 := Aside0.mk (blk_drew BK727.out)
 replace BK728 := Aside0.mk (blk_drew BK728.out)
 replace BK729 := Aside0.mk (blk_drew BK729.out)
 replace BK730 := Aside0.mk (blk_drew BK730.out)
 replace BK731 := Aside0.mk (blk_drew BK731.out)
 replace BK736 := Aside0.mk (blk_drew BK736.out)
 replace HB := Aside0.mk (below_drew1 HB.out)
 refine start_ (n := 4) (S := fun w' => w'.cell? ⟨gb736, 0, none⟩ = some (.slice Ao48 t762.length co48) ∧ w'.cell? ⟨gb736, 1, none⟩ = some (.int .i64 t765) ∧ w'.cell? ⟨gb729, 0, none⟩ = some (.int .i64 t766) ∧ w'.cell? ⟨gb729, 1, none⟩ = some (.int .i64 t767) ∧ w'.cell? ⟨gb729, 2, none⟩ = some (.int .i64 t768) ∧ w'.cell? ⟨gb729, 3, none⟩ = some (.int .i64 t776) ∧ w'.cell? ⟨gb729, 4, none⟩ = some (.bool t770) ∧ w'.cell? ⟨gb729, 5, none⟩ = some (.bool t771) ∧ w'.cell? ⟨gb729, 6, none⟩ = some (.bool t772) ∧ w'.cell? ⟨gb729, 7, none⟩ = some (.bool true)) (ds := []) (bm 4 0) (by kernel_rfl) rfl (by kernel_rfl) ⟨cl BK736 0, cl BK736 1, cl BK729 0, cl BK729 1, cl BK729 2, cl BK729 3, cl BK729 4, cl BK729 5, cl BK729 6, cl BK729 7⟩ (fun hHeld => ?_)
 generalize w56.drew = w57 at HO734 HO740 HO752 HO764 BK727 BK728 BK729 BK730 BK731 BK736 HB hHeld ⊢
 refine tv_ 0 (some 52) (bm 4 1) hHeld ?_
 refine tv_ 1 (some 53) (bm 4 3) hHeld ?_
 refine ov_ 2 none (bm 4 7) (fun K hK => ?_)
 have hs58 : w57.cell? ⟨gb730, 0, none⟩ = some (.slice none 0 0) := cl BK730 0
 have hfs58 := blk_frozen BK730.out 0
 have hns58_0 := NB727_730.out
 have hns58_1 := NB728_730.out
 have hns58_2 := NB729_730.out
 have hns58_4 := NB731_730.out
 have hns58_5 := NB736_730.out
 have hms58_0 := NB730_727.out
 have hms58_1 := NB730_728.out
 have hms58_2 := NB730_729.out
 have hms58_4 := NB730_731.out
 have hms58_5 := NB730_736.out
 have hs59 : w57.cell? ⟨gb730, 1, none⟩ = some (.int .i64 0) := cl BK730 1
 have hfs59 := blk_frozen BK730.out 1
 have hns59_0 := NB727_730.out
 have hns59_1 := NB728_730.out
 have hns59_2 := NB729_730.out
 have hns59_4 := NB731_730.out
 have hns59_5 := NB736_730.out
 have hms59_0 := NB730_727.out
 have hms59_1 := NB730_728.out
 have hms59_2 := NB730_729.out
 have hms59_4 := NB730_731.out
 have hms59_5 := NB730_736.out
 refine skip_ (w1 := ?_) (by rfl) rfl ?_ ?_
 rotate_left
 ·go_simp
  rfl
 refine hK.out _ _ ⟨(fr NB736_730 (hHeld.1)), (fr NB736_730 (hHeld.2.1)), (fr NB729_730 (hHeld.2.2.1)), (fr NB729_730 (hHeld.2.2.2.1)), (fr NB729_730 (hHeld.2.2.2.2.1)), (fr NB729_730 (hHeld.2.2.2.2.2.1)), (fr NB729_730 (hHeld.2.2.2.2.2.2.1)), (fr NB729_730 (hHeld.2.2.2.2.2.2.2.1)), (fr NB729_730 (hHeld.2.2.2.2.2.2.2.2.1)), (fr NB729_730 (hHeld.2.2.2.2.2.2.2.2.2))⟩ (fun hHeld => ?_)
 clear hK K
 refine ov_ 3 none (bm 4 15) (fun K hK => ?_)
 have hs60 : w57.cell? ⟨gb731, 0, none⟩ = some (.int .i64 0) := cl BK731 0
 have hfs60 := blk_frozen BK731.out 0
 have hns60_0 := NB727_731.out
 have hns60_1 := NB728_731.out
 have hns60_2 := NB729_731.out
 have hns60_3 := NB730_731.out
 have hns60_5 := NB736_731.out
 have hms60_0 := NB731_727.out
 have hms60_1 := NB731_728.out
 have hms60_2 := NB731_729.out
 have hms60_3 := NB731_730.out
 have hms60_5 := NB731_736.out
 have hs61 : w57.cell? ⟨gb731, 1, none⟩ = some (.int .i64 0) := cl BK731 1
 have hfs61 := blk_frozen BK731.out 1
 have hns61_0 := NB727_731.out
 have hns61_1 := NB728_731.out
 have hns61_2 := NB729_731.out
 have hns61_3 := NB730_731.out
 have hns61_5 := NB736_731.out
 have hms61_0 := NB731_727.out
 have hms61_1 := NB731_728.out
 have hms61_2 := NB731_729.out
 have hms61_3 := NB731_730.out
 have hms61_5 := NB731_736.out
 have hs62 : w57.cell? ⟨gb731, 2, none⟩ = some (.int .i64 0) := cl BK731 2
 have hfs62 := blk_frozen BK731.out 2
 have hns62_0 := NB727_731.out
 have hns62_1 := NB728_731.out
 have hns62_2 := NB729_731.out
 have hns62_3 := NB730_731.out
 have hns62_5 := NB736_731.out
 have hms62_0 := NB731_727.out
 have hms62_1 := NB731_728.out
 have hms62_2 := NB731_729.out
 have hms62_3 := NB731_730.out
 have hms62_5 := NB731_736.out
 have hs63 : w57.cell? ⟨gb731, 3, none⟩ = some (.int .i64 0) := cl BK731 3
 have hfs63 := blk_frozen BK731.out 3
 have hns63_0 := NB727_731.out
 have hns63_1 := NB728_731.out
 have hns63_2 := NB729_731.out
 have hns63_3 := NB730_731.out
 have hns63_5 := NB736_731.out
 have hms63_0 := NB731_727.out
 have hms63_1 := NB731_728.out
 have hms63_2 := NB731_729.out
 have hms63_3 := NB731_730.out
 have hms63_5 := NB731_736.out
 have hs64 : w57.cell? ⟨gb731, 4, none⟩ = some (.bool false) := cl BK731 4
 have hfs64 := blk_frozen BK731.out 4
 have hns64_0 := NB727_731.out
 have hns64_1 := NB728_731.out
 have hns64_2 := NB729_731.out
 have hns64_3 := NB730_731.out
 have hns64_5 := NB736_731.out
 have hms64_0 := NB731_727.out
 have hms64_1 := NB731_728.out
 have hms64_2 := NB731_729.out
 have hms64_3 := NB731_730.out
 have hms64_5 := NB731_736.out
 have hs65 : w57.cell? ⟨gb731, 5, none⟩ = some (.bool false) := cl BK731 5
 have hfs65 := blk_frozen BK731.out 5
 have hns65_0 := NB727_731.out
 have hns65_1 := NB728_731.out
 have hns65_2 := NB729_731.out
 have hns65_3 := NB730_731.out
 have hns65_5 := NB736_731.out
 have hms65_0 := NB731_727.out
 have hms65_1 := NB731_728.out
 have hms65_2 := NB731_729.out
 have hms65_3 := NB731_730.out
 have hms65_5 := NB731_736.out
 have hs66 : w57.cell? ⟨gb731, 6, none⟩ = some (.bool false) := cl BK731 6
 have hfs66 := blk_frozen BK731.out 6
 have hns66_0 := NB727_731.out
 have hns66_1 := NB728_731.out
 have hns66_2 := NB729_731.out
 have hns66_3 := NB730_731.out
 have hns66_5 := NB736_731.out
 have hms66_0 := NB731_727.out
 have hms66_1 := NB731_728.out
 have hms66_2 := NB731_729.out
 have hms66_3 := NB731_730.out
 have hms66_5 := NB731_736.out
 have hs67 : w57.cell? ⟨gb731, 7, none⟩ = some (.bool false) := cl BK731 7
 have hfs67 := blk_frozen BK731.out 7
 have hns67_0 := NB727_731.out
 have hns67_1 := NB728_731.out
 have hns67_2 := NB729_731.out
 have hns67_3 := NB730_731.out
 have hns67_5 := NB736_731.out
 have hms67_0 := NB731_727.out
 have hms67_1 := NB731_728.out
 have hms67_2 := NB731_729.out
 have hms67_3 := NB731_730.out
 have hms67_5 := NB731_736.out
 refine skip_ (w1 := ?_) (by rfl) rfl ?_ ?_
 rotate_left
 ·go_simp
  rfl
 refine hK.out _ _ ⟨(fr NB736_731 (hHeld.1)), (fr NB736_731 (hHeld.2.1)), (fr NB729_731 (hHeld.2.2.1)), (fr NB729_731 (hHeld.2.2.2.1)), (fr NB729_731 (hHeld.2.2.2.2.1)), (fr NB729_731 (hHeld.2.2.2.2.2.1)), (fr NB729_731 (hHeld.2.2.2.2.2.2.1)), (fr NB729_731 (hHeld.2.2.2.2.2.2.2.1)), (fr NB729_731 (hHeld.2.2.2.2.2.2.2.2.1)), (fr NB729_731 (hHeld.2.2.2.2.2.2.2.2.2))⟩ (fun hHeld => ?_)
 clear hK K
 refine done_ (by kernel_rfl) ?_
 try go_wp2
 refine bodyPost_ret (results_cc rfl _ _ gb730 gb731 32 55 #[.slice Ao48 t762.length co48, .int .i64 t765] #[.int .i64 t766, .int .i64 t767, .int .i64 t768, .int .i64 t776, .bool t770, .bool t771, .bool t772, .bool true] (0, 0) (0, 0) _ _ rfl (bf NB730_731 BK730.out) Try.underlying32 rfl (by kernel_rfl) rfl (bf NB731_730 BK731.out) Try.underlying55 rfl (by kernel_rfl)) rfl ?_
 exact ⟨_, rt, kr (Kd.R_mono (Kd.R_far (p := ⟨gb731, 7, none⟩) (Kd.R_far (p := ⟨gb731, 6, none⟩) (Kd.R_far (p := ⟨gb731, 5, none⟩) (Kd.R_far (p := ⟨gb731, 4, none⟩) (Kd.R_far (p := ⟨gb731, 3, none⟩) (Kd.R_far (p := ⟨gb731, 2, none⟩) (Kd.R_far (p := ⟨gb731, 1, none⟩) (Kd.R_far (p := ⟨gb731, 0, none⟩) (Kd.R_far (p := ⟨gb730, 1, none⟩) (Kd.R_far (p := ⟨gb730, 0, none⟩) (Kd.R_types (Kd.R_types HO764.out BK730.out (by decide)) BK731.out (by decide)) (fun _ hk => hk.1.2) (.slice Ao48 t762.length co48)) (fun _ hk => hk.1.2) (.int .i64 t765)) (fun _ hk => hk.2) (.int .i64 t766)) (fun _ hk => hk.2) (.int .i64 t767)) (fun _ hk => hk.2) (.int .i64 t768)) (fun _ hk => hk.2) (.int .i64 t776)) (fun _ hk => hk.2) (.bool t770)) (fun _ hk => hk.2) (.bool t771)) (fun _ hk => hk.2) (.bool t772)) (fun _ hk => hk.2) (.bool true)) (fun _ hk => trivial)), bw HB.out⟩

end Go.Proofs.Ytmkccgbfgebfbaa.MFnEntered
