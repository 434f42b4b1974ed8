/- Walks of functions that the law FnExactPush reaches: each comes to just what its Lean function says. (Begun as the texts that print.sh wrote for this claim; some of them, and those that it does not write, are mine.) No condition. -/
import Derived.Test.YtmiaocoffmobcaaMFnExactPushx2
namespace Go.Proofs.Ytmiaocoffmobcaa.MFnExactPush
open Go.RowKit Go.Proofs.YtmiaocoffmobcaaW.PrintWords Go.Proofs.YtmiaocoffmobcaaW.PrintLast Go.Proofs.YtmiaocoffmobcaaW.PrintMore
attribute [local go_sem] max2_int min2_int max_two min_two max_three min_three max_four min_four   -- for this text's walks alone
set_option linter.unusedVariables false
set_option linter.unusedSimpArgs false

/-! ### laws_FnExactPush (mine) -/
set_option maxRecDepth 100000 in
set_option maxHeartbeats 4000000 in
theorem lawPush_true (k : Nat) (A0 : Option Addr) (c0 : Nat) (l0 : List Int) (b : Int) (x0 x1 x2 x3 : Int) (x4 x5 x6 x7 : Bool) (v : Int) (w : World) (hr : Kd.C (Kd.int .i64) w A0 l0.length l0) (hc : l0.length ≤ c0)
    (t : Int) (hsz : laws_szMem.f l0 b 1048576 = some t) (m1 : List Int) (m2 : Int) (hm : laws_toMem.f k l0 b = some (m1, m2))
    (y0 y1 y2 y3 : Int) (y4 y5 y6 y7 : Bool) (hcp : laws_toCpu.f x0 x1 x2 x3 x4 x5 x6 x7 = some (y0, y1, y2, y3, y4, y5, y6, y7))
    (r1 : List Int) (r2 r3 r4 r5 r6 : Int) (r7 r8 r9 r10 : Bool) (hs : spec_Push.f m1 m2 y0 y1 y2 y3 y4 y5 y6 y7 v = some (r1, r2, r3, r4, r5, r6, r7, r8, r9, r10)) (hi : impl_Push.f m1 m2 y0 y1 y2 y3 y4 y5 y6 y7 v = some (r1, r2, r3, r4, r5, r6, r7, r8, r9, r10))
    (ht : ¬ t < 0) (he1 : laws_eqMem.f k r1 r2 r1 r2 = some true) (he2 : laws_eqCpu.f r3 r4 r5 r6 r7 r8 r9 r10 r3 r4 r5 r6 r7 r8 r9 r10 = some true) (he3 : laws_eqMem.f k m1 m2 m1 m2 = some true)
    (k1 : Int) (n1 : List Int) (hk1 : laws_markMem.f k m1 m2 1 = some (k1, n1)) (hk1' : ¬ k1 < 0) (k2 : Int) (n2 : List Int) (hk2 : laws_markMem.f k r1 r2 1 = some (k2, n2)) (hk2' : ¬ k2 < 0) (hh : laws_heldMem.f k n2 r2 1 = some k2) :
    Calls Try.prog 4 #[.agg #[.slice A0 l0.length c0, .int .i64 b], .agg #[.int .i64 x0, .int .i64 x1, .int .i64 x2, .int .i64 x3, .bool x4, .bool x5, .bool x6, .bool x7], .int .i64 v] w fun e w' => e = .returned (.bool true) ∧ Below w.heap.size w w' := by
  have hu33 := Try.underlying33
  have hu35 := Try.underlying35
  have hu37 := Try.underlying37
  have hu38 := Try.underlying38
  have HR := Aside0.mk hr
  have HC := Aside0.mk hc
  have Hsz := Aside0.mk hsz
  have Hm := Aside0.mk hm
  have Hcp := Aside0.mk hcp
  have Hs := Aside0.mk hs
  have Hi := Aside0.mk hi
  have He1 := Aside0.mk he1
  have He2 := Aside0.mk he2
  have He3 := Aside0.mk he3
  have Hk1 := Aside0.mk hk1
  have Hk2 := Aside0.mk hk2
  have Hh := Aside0.mk hh
  have ht0 : decide (t < 0) = false := decide_eq_false ht
  have Ht1 := Aside0.mk (decide_eq_false hk1')
  have Ht2 := Aside0.mk (decide_eq_false hk2')
  clear hr hc hsz hm hcp hs hi he1 he2 he3 hk1 hk2 hh ht hk1' hk2'
  go_enter Try.func4, Try.ntmps4
  go_wp2_with fail
  refine (laws_szMem.calls A0 c0 l0 b 1048576 t _ ?hr HC.out Hsz.out).mono ?_
  case hr => repeat (first | exact HR.out | (with_reducible refine Kd.C_alloc ?_ _))
  rintro e W1 ⟨rfl, hB⟩
  have ARG : Aside0 (ArgW w W1 #[.slice A0 l0.length c0, .int .i64 b] #[.int .i64 x0, .int .i64 x1, .int .i64 x2, .int .i64 x3, .bool x4, .bool x5, .bool x6, .bool x7]) := ⟨⟨below_step (by repeat (first | exact Below.refl _ _ | apply below_alloc)) hB, blk_below (blk_alloc (alloc_at _ _ _ (by simp only [alloc_size])) _) hB, blk_below (alloc_at _ _ _ (by simp only [alloc_size])) hB⟩⟩
  clear hB
  have hlow : w.heap.size + 2 ≤ W1.heap.size := by have := blk_lt ARG.out.snd; omega
  go_wp2
  refine free_ (n := 13) (e := 11) (g := 8) (T := (true, [([], []), ([0], [0]), ([], []), ([2, 1], [2]), ([], []), ([1, 3, 4, 3], [1, 3, 4]), ([5], [5]), ([6], [6]), ([6], [6]), ([], []), ([], []), ([9, 7, 5, 0, 1, 2, 3, 4, 5, 6, 7, 9, 10], [7, 9]), ([10, 8, 11, 0, 1, 2, 3, 4, 5, 6, 7, 8, 9, 10, 11], [8, 10])])) #[true, true, true, true, true, true, true, true, true, true, true, false, false] #[true, true, true, true, true, true, true, true, false, true, true, false, false] [24, 25, 26, 27, 28, 29, 23, 30, 31, 8, 9] (fun j u w' => match j with
    | 0 => u = .agg #[.slice A0 l0.length c0, .int .i64 b]
    | 1 => isMem W1.heap.size m1 m2 u w'
    | 2 => u = .agg #[.int .i64 x0, .int .i64 x1, .int .i64 x2, .int .i64 x3, .bool x4, .bool x5, .bool x6, .bool x7]
    | 3 => u = .agg #[.int .i64 y0, .int .i64 y1, .int .i64 y2, .int .i64 y3, .bool y4, .bool y5, .bool y6, .bool y7]
    | 4 => u = .int .i64 v
    | 5 => isPair W1.heap.size r1 r2 (.agg #[.int .i64 r3, .int .i64 r4, .int .i64 r5, .int .i64 r6, .bool r7, .bool r8, .bool r9, .bool r10]) u w'
    | 6 => isPair W1.heap.size r1 r2 (.agg #[.int .i64 r3, .int .i64 r4, .int .i64 r5, .int .i64 r6, .bool r7, .bool r8, .bool r9, .bool r10]) u w'
    | 7 => isMem W1.heap.size r1 r2 u w'
    | 8 => u = .agg #[.int .i64 r3, .int .i64 r4, .int .i64 r5, .int .i64 r6, .bool r7, .bool r8, .bool r9, .bool r10]
    | 9 => isNew W1.heap.size 37 #[.slice none 0 0, .int .i64 0] u w'
    | 10 => isNew W1.heap.size 38 #[.int .i64 0, .int .i64 0, .int .i64 0, .int .i64 0, .bool false, .bool false, .bool false, .bool false] u w'
    | _ => False)
    (by kernel_rfl) rfl (by kernel_rfl) (by kernel_rfl) (by kernel_rfl) (any_of (T := (true, [([], []), ([0], [0]), ([], []), ([2, 1], [2]), ([], []), ([1, 3, 4, 3], [1, 3, 4]), ([5], [5]), ([6], [6]), ([6], [6]), ([], []), ([], []), ([9, 7, 5, 0, 1, 2, 3, 4, 5, 6, 7, 9, 10], [7, 9]), ([10, 8, 11, 0, 1, 2, 3, 4, 5, 6, 7, 8, 9, 10, 11], [8, 10])])) (by kernel_rfl) (by kernel_rfl)) (fun _ _ _ _ h => h) ?stables ?steps ?lags ?lasts
  case stables =>
    intro j u W W' h hb
    rcases j with _ | _ | _ | _ | _ | _ | _ | _ | _ | _ | _ | j
    · exact h
    · exact isMem_below h hb
    · exact h
    · exact h
    · exact h
    · exact isPair_below h hb
    · exact isPair_below h hb
    · exact isMem_below h hb
    · exact h
    · exact isNew_below h hb
    · exact isNew_below h hb
    · exact h
  case steps =>
    intro i hi o ho a W hB hout hneed K hK
    have HBW := Aside0.mk hB
    have hcase : i = 0 ∨ i = 1 ∨ i = 2 ∨ i = 3 ∨ i = 4 ∨ i = 5 ∨ i = 6 ∨ i = 7 ∨ i = 8 ∨ i = 9 ∨ i = 10 := by omega
    clear hB
    rcases hcase with rfl | rfl | rfl | rfl | rfl | rfl | rfl | rfl | rfl | rfl | rfl
    · obtain rfl := Option.some.inj ho
      have h3 : a.eval (.tmp 3) = .pointer (some ⟨w.heap.size, 0, none⟩) := hout 3 (by decide)
      have h3' := eval_get h3
      have hb := blk_below (w := W1.drew) ARG.out.fst HBW.out
      have d0 := (blk_cell hb 0).trans rfl
      have d1 := (blk_cell hb 1).trans rfl
      refine value_ (v := .agg #[.slice A0 l0.length c0, .int .i64 b]) (w1 := W) (by rfl) rfl ?_ (hK.out _ _ (Below.refl _ _) rfl)
      go_simp
    · obtain rfl := Option.some.inj ho
      have e0 : a.eval (.tmp 24) = _ := hneed 0 (by decide)
      refine goes_ Try.func22 (by kernel_rfl) rfl #[.agg #[.slice A0 l0.length c0, .int .i64 b]] (by rfl) rfl rfl (by simp only [List.map_toArray, List.map_cons, List.map_nil, e0]) ?_
      refine (laws_toMem.calls k A0 c0 l0 b m1 m2 W (Kd.C_below HR.out (below_step (w := w) (W := W1.drew) (below_drew1 ARG.out.below) HBW.out)) HC.out Hm.out).mono ?_
      rintro e w' ⟨u, rfl, hR, hb⟩
      exact ⟨_, rfl, hK.out _ _ hb ⟨u, rfl, Kd.R_lower hR HBW.out.size⟩⟩
    · obtain rfl := Option.some.inj ho
      have h3 : a.eval (.tmp 4) = .pointer (some ⟨w.heap.size + 1, 0, none⟩) := hout 4 (by decide)
      have h3' := eval_get h3
      have hb := blk_below (w := W1.drew) ARG.out.snd HBW.out
      have d0 := (blk_cell hb 0).trans rfl
      have d1 := (blk_cell hb 1).trans rfl
      have d2 := (blk_cell hb 2).trans rfl
      have d3 := (blk_cell hb 3).trans rfl
      have d4 := (blk_cell hb 4).trans rfl
      have d5 := (blk_cell hb 5).trans rfl
      have d6 := (blk_cell hb 6).trans rfl
      have d7 := (blk_cell hb 7).trans rfl
      refine value_ (v := .agg #[.int .i64 x0, .int .i64 x1, .int .i64 x2, .int .i64 x3, .bool x4, .bool x5, .bool x6, .bool x7]) (w1 := W) (by rfl) rfl ?_ (hK.out _ _ (Below.refl _ _) rfl)
      go_simp
    · obtain rfl := Option.some.inj ho
      have e0 : a.eval (.tmp 26) = _ := hneed 2 (by decide)
      refine goes_ Try.func23 (by kernel_rfl) rfl #[.agg #[.int .i64 x0, .int .i64 x1, .int .i64 x2, .int .i64 x3, .bool x4, .bool x5, .bool x6, .bool x7]] (by rfl) rfl rfl (by simp only [List.map_toArray, List.map_cons, List.map_nil, e0]) ?_
      refine (laws_toCpu.calls x0 x1 x2 x3 x4 x5 x6 x7 y0 y1 y2 y3 y4 y5 y6 y7 W Hcp.out).mono ?_
      rintro e w' ⟨rfl, hb⟩
      exact ⟨_, rfl, hK.out _ _ hb rfl⟩
    · obtain rfl := Option.some.inj ho
      have h3 : a.eval (.tmp 2) = .int .i64 v := hout 2 (by decide)
      have h3' := eval_get h3
      refine value_ (v := .int .i64 v) (w1 := W) (by rfl) rfl ?_ (hK.out _ _ (Below.refl _ _) rfl)
      go_simp
    · obtain rfl := Option.some.inj ho
      obtain ⟨u, e1, hR1⟩ : isMem _ _ _ (a.eval (.tmp 25)) W := hneed 1 (by decide)
      obtain ⟨A1, c1, rfl⟩ := Kd.R_slice hR1
      obtain ⟨_, hc1, hC1⟩ := Kd.R_reads' hR1
      have e3 : a.eval (.tmp 27) = _ := hneed 3 (by decide)
      have e4 : a.eval (.tmp 28) = _ := hneed 4 (by decide)
      refine goes_ Try.func21 (by kernel_rfl) rfl #[.agg #[.slice A1 m1.length c1, .int .i64 m2], .agg #[.int .i64 y0, .int .i64 y1, .int .i64 y2, .int .i64 y3, .bool y4, .bool y5, .bool y6, .bool y7], .int .i64 v] (by rfl) rfl rfl (by simp only [List.map_toArray, List.map_cons, List.map_nil, e1, e3, e4]) ?_
      refine (spec_Push.calls A1 c1 m1 m2 y0 y1 y2 y3 y4 y5 y6 y7 v r1 r2 r3 r4 r5 r6 r7 r8 r9 r10 W hC1 hc1 Hs.out).mono ?_
      rintro e w' ⟨u, rfl, hR, hb⟩
      exact ⟨_, rfl, hK.out _ _ hb ⟨u, rfl, Kd.R_lower hR HBW.out.size⟩⟩
    · obtain rfl := Option.some.inj ho
      have e5 : isPair _ _ _ _ (a.eval (.tmp 29)) W := hneed 5 (by decide)
      refine value_ (v := a.eval (.tmp 29)) (w1 := W) (by rfl) rfl rfl (hK.out _ _ (Below.refl _ _) e5)
    · obtain rfl := Option.some.inj ho
      obtain ⟨u, e6, hR⟩ : isPair _ _ _ _ (a.eval (.tmp 23)) W := hneed 6 (by decide)
      refine value_ (v := .agg #[u, .int .i64 r2]) (w1 := W) (by rfl) rfl ?_ (hK.out _ _ (Below.refl _ _) ⟨u, rfl, hR⟩)
      have e6' := eval_get e6
      go_simp
    · obtain rfl := Option.some.inj ho
      obtain ⟨u, e6, hR⟩ : isPair _ _ _ _ (a.eval (.tmp 23)) W := hneed 6 (by decide)
      refine value_ (v := .agg #[.int .i64 r3, .int .i64 r4, .int .i64 r5, .int .i64 r6, .bool r7, .bool r8, .bool r9, .bool r10]) (w1 := W) (by rfl) rfl ?_ (hK.out _ _ (Below.refl _ _) rfl)
      have e6' := eval_get e6
      go_simp
    · obtain rfl := Option.some.inj ho
      refine value_ (v := .pointer (some ⟨W.heap.size, 0, none⟩)) (w1 := W.alloc (.cells #[.slice none 0 0, .int .i64 0] 37)) (by rfl) rfl ?_ (hK.out _ _ (below_alloc (Below.refl _ _) _) ⟨_, rfl, HBW.out.size, alloc_at _ _ _ rfl⟩)
      go_simp
    · obtain rfl := Option.some.inj ho
      refine value_ (v := .pointer (some ⟨W.heap.size, 0, none⟩)) (w1 := W.alloc (.cells #[.int .i64 0, .int .i64 0, .int .i64 0, .int .i64 0, .bool false, .bool false, .bool false, .bool false] 38)) (by rfl) rfl ?_ (hK.out _ _ (below_alloc (Below.refl _ _) _) ⟨_, rfl, HBW.out.size, alloc_at _ _ _ rfl⟩)
      go_simp
  case lags =>
    intro o ho a W hneed
    obtain rfl := Option.some.inj ho
    obtain ⟨u, e6, hR⟩ : isPair _ _ _ _ (a.eval (.tmp 23)) W := hneed 6 (by decide)
    refine ⟨.agg #[.int .i64 r3, .int .i64 r4, .int .i64 r5, .int .i64 r6, .bool r7, .bool r8, .bool r9, .bool r10], rfl, Or.inl ⟨by rfl, ?_⟩⟩
    intro w'
    have e6' := eval_get e6
    go_simp
  intro f vs W2b hB hE
  have HBW := Aside0.mk hB
  clear hB
  have q0 : vs 0 = _ := hE 0 (by decide)
  obtain ⟨u1s, q1, hR1⟩ : isMem _ _ _ (vs 1) W2b := hE 1 (by decide)
  have q2 : vs 2 = _ := hE 2 (by decide)
  have q3 : vs 3 = _ := hE 3 (by decide)
  have q4 : vs 4 = _ := hE 4 (by decide)
  obtain ⟨u5s, q5, _⟩ : isPair _ _ _ _ (vs 5) W2b := hE 5 (by decide)
  obtain ⟨u6s, q6, _⟩ : isPair _ _ _ _ (vs 6) W2b := hE 6 (by decide)
  obtain ⟨u7s, q7, hR7⟩ : isMem _ _ _ (vs 7) W2b := hE 7 (by decide)
  have q8 : vs 8 = _ := hE 8 (by decide)
  obtain ⟨g1s, q9, hg1, hb1⟩ : isNew _ _ _ (vs 9) W2b := hE 9 (by decide)
  obtain ⟨g2s, q10, hg2, hb2⟩ : isNew _ _ _ (vs 10) W2b := hE 10 (by decide)
  show wpAnyLast _ _ _ _ _ _ (f + 2) _ (putAll _ [(24, vs 0), (25, vs 1), (26, vs 2), (27, vs 3), (28, vs 4), (29, vs 5), (23, vs 6), (30, vs 7), (31, vs 8), (8, vs 9), (9, vs 10)]) W2b
  rw [q0, q1, q2, q3, q4, q5, q6, q7, q8, q9, q10]
  clear q0 q1 q2 q3 q4 q5 q6 q7 q8 q9 q10 hE
  refine norm_ (a' := ?_) ?_ ?_
  rotate_left
  · simp only [putAll, Act.put, List.setIfInBounds_toArray, List.set_cons_zero, List.set_cons_succ]
    rfl
  obtain ⟨As, cs, rfl⟩ := Kd.R_slice hR7
  have hgg : g1s ≠ g2s := blk_ne hb1 hb2 (by decide)
  have hgg' : g2s ≠ g1s := fun h => hgg h.symm
  refine one_ (i := 11) (N := none) #[true, true, true, true, true, true, true, true, true, true, true, true, false] rfl rfl (by kernel_rfl) (by decide) (fun K hK => ?_)
  refine skip_ (w1 := ?_) (by rfl) rfl ?_ ?_
  rotate_left
  · skip
    have r0 : W2b.cell? ⟨g1s, 0, none⟩ = some (.slice none 0 0) := (blk_cell hb1 0).trans rfl
    have f0 := blk_frozen hb1 0
    have r1 : W2b.cell? ⟨g1s, 1, none⟩ = some (.int .i64 0) := (blk_cell hb1 1).trans rfl
    have f1 := blk_frozen hb1 1
    go_simp
    rfl
  refine hK.out _ _ trivial (fun _ => ?_)
  clear hK K
  refine one_ (i := 12) (N := none) #[true, true, true, true, true, true, true, true, true, true, true, true, true] rfl rfl (by kernel_rfl) (by decide) (fun K hK => ?_)
  refine skip_ (w1 := ?_) (by rfl) rfl ?_ ?_
  rotate_left
  · skip
    have r0 : W2b.cell? ⟨g2s, 0, none⟩ = some (.int .i64 0) := (blk_cell hb2 0).trans rfl
    have f0 := blk_frozen hb2 0
    have r1 : W2b.cell? ⟨g2s, 1, none⟩ = some (.int .i64 0) := (blk_cell hb2 1).trans rfl
    have f1 := blk_frozen hb2 1
    have r2 : W2b.cell? ⟨g2s, 2, none⟩ = some (.int .i64 0) := (blk_cell hb2 2).trans rfl
    have f2 := blk_frozen hb2 2
    have r3 : W2b.cell? ⟨g2s, 3, none⟩ = some (.int .i64 0) := (blk_cell hb2 3).trans rfl
    have f3 := blk_frozen hb2 3
    have r4 : W2b.cell? ⟨g2s, 4, none⟩ = some (.bool false) := (blk_cell hb2 4).trans rfl
    have f4 := blk_frozen hb2 4
    have r5 : W2b.cell? ⟨g2s, 5, none⟩ = some (.bool false) := (blk_cell hb2 5).trans rfl
    have f5 := blk_frozen hb2 5
    have r6 : W2b.cell? ⟨g2s, 6, none⟩ = some (.bool false) := (blk_cell hb2 6).trans rfl
    have f6 := blk_frozen hb2 6
    have r7 : W2b.cell? ⟨g2s, 7, none⟩ = some (.bool false) := (blk_cell hb2 7).trans rfl
    have f7 := blk_frozen hb2 7
    go_simp
    rfl
  refine hK.out _ _ trivial (fun _ => ?_)
  clear hK K
  refine done_ (by kernel_rfl) ?_
  obtain ⟨A_, c_, e_, P, Kp, B⟩ := pair_made ARG.out.below HBW.out hR7 hb1 hb2 hg1 hg2 r2 (.int .i64 r3) (.int .i64 r4) (.int .i64 r5) (.int .i64 r6) (.bool r7) (.bool r8) (.bool r9) (.bool r10)
  cases e_
  have ARG_ := Aside0.mk (ARG.out.kept Kp B (fun _ _ h => h))
  have Ps := Aside0.mk P
  clear P Kp B ARG  hR7 hb1 hb2 hg1 hg2 hgg hgg' HBW
  generalize hW_ : ((((((((((W2b.setCell ⟨g1s, 0, none⟩ (.slice As r1.length cs)).setCell ⟨g1s, 1, none⟩ (.int .i64 r2)).setCell ⟨g2s, 0, none⟩ (.int .i64 r3)).setCell ⟨g2s, 1, none⟩ (.int .i64 r4)).setCell ⟨g2s, 2, none⟩ (.int .i64 r5)).setCell ⟨g2s, 3, none⟩ (.int .i64 r6)).setCell ⟨g2s, 4, none⟩ (.bool r7)).setCell ⟨g2s, 5, none⟩ (.bool r8)).setCell ⟨g2s, 6, none⟩ (.bool r9)).setCell ⟨g2s, 7, none⟩ (.bool r10)) = W2 at *
  clear hW_
  have ARG := ARG_
  clear ARG_
  have y0_ : W2.cell? ⟨w.heap.size, 0, none⟩ = some (.slice A0 l0.length c0) := (blk_cell ARG.out.fst 0).trans rfl
  have y1_ : W2.cell? ⟨w.heap.size, 1, none⟩ = some (.int .i64 b) := (blk_cell ARG.out.fst 1).trans rfl
  go_wp2_with fail
  refine (laws_toMem.calls k A0 c0 l0 b m1 m2 _ (Kd.C_below HR.out ARG.out.below) HC.out Hm.out).mono ?_
  rintro e W3 ⟨u, rfl, hR, hb⟩
  clear y0_ y1_
  obtain ⟨Ax, cx, rfl⟩ := Kd.R_slice hR
  go_wp2
  obtain ⟨M, Kp, B⟩ := mem_made0 (W := W3.alloc (.cells #[.slice Ax m1.length cx, .int .i64 m2] 37)) ARG.out.below (below_alloc hb _) (Kd.R_alloc hR _) (alloc_at _ _ _ rfl) hb.size
  have X := Aside0.mk M
  have ARG_ := Aside0.mk (ARG.out.kept Kp (B) (fun _ _ h => h))
  have Ps_ := Aside0.mk (Ps.out.kept Kp (fun _ _ _ h => h))
  clear ARG Ps
  have ARG := ARG_
  clear ARG_
  have Ps := Ps_
  clear Ps_
  clear M Kp B hR hb
  have h24 : W2.heap.size ≤ (W3.alloc (.cells #[.slice Ax m1.length cx, .int .i64 m2] 37)).heap.size := by have := X.out.h1; omega
  generalize hW_ : W3.alloc (.cells #[.slice Ax m1.length cx, .int .i64 m2] 37) = W4 at *
  clear hW_
  refine free_ (n := 12) (e := 10) (g := 7) (T := (true, [([], []), ([], []), ([1], [1]), ([], []), ([0, 2, 3, 2], [0, 2, 3]), ([4], [4]), ([5], [5]), ([5], [5]), ([], []), ([], []), ([8, 6, 4, 0, 1, 2, 3, 4, 5, 6, 8, 9], [6, 8]), ([9, 7, 10, 0, 1, 2, 3, 4, 5, 6, 7, 8, 9, 10], [7, 9])])) #[true, true, true, true, true, true, true, true, true, true, false, false] #[true, true, true, true, true, true, true, false, true, true, false, false] [35, 36, 37, 38, 39, 34, 40, 41, 11, 12] (fun j u w' => match j with
    | 0 => u = .agg #[.slice Ax m1.length cx, .int .i64 m2]
    | 1 => u = .agg #[.int .i64 x0, .int .i64 x1, .int .i64 x2, .int .i64 x3, .bool x4, .bool x5, .bool x6, .bool x7]
    | 2 => u = .agg #[.int .i64 y0, .int .i64 y1, .int .i64 y2, .int .i64 y3, .bool y4, .bool y5, .bool y6, .bool y7]
    | 3 => u = .int .i64 v
    | 4 => isPair W4.heap.size r1 r2 (.agg #[.int .i64 r3, .int .i64 r4, .int .i64 r5, .int .i64 r6, .bool r7, .bool r8, .bool r9, .bool r10]) u w'
    | 5 => isPair W4.heap.size r1 r2 (.agg #[.int .i64 r3, .int .i64 r4, .int .i64 r5, .int .i64 r6, .bool r7, .bool r8, .bool r9, .bool r10]) u w'
    | 6 => isMem W4.heap.size r1 r2 u w'
    | 7 => u = .agg #[.int .i64 r3, .int .i64 r4, .int .i64 r5, .int .i64 r6, .bool r7, .bool r8, .bool r9, .bool r10]
    | 8 => isNew W4.heap.size 37 #[.slice none 0 0, .int .i64 0] u w'
    | 9 => isNew W4.heap.size 38 #[.int .i64 0, .int .i64 0, .int .i64 0, .int .i64 0, .bool false, .bool false, .bool false, .bool false] u w'
    | _ => False)
    (by kernel_rfl) rfl (by kernel_rfl) (by kernel_rfl) (by kernel_rfl) (any_of (T := (true, [([], []), ([], []), ([1], [1]), ([], []), ([0, 2, 3, 2], [0, 2, 3]), ([4], [4]), ([5], [5]), ([5], [5]), ([], []), ([], []), ([8, 6, 4, 0, 1, 2, 3, 4, 5, 6, 8, 9], [6, 8]), ([9, 7, 10, 0, 1, 2, 3, 4, 5, 6, 7, 8, 9, 10], [7, 9])])) (by kernel_rfl) (by kernel_rfl)) (fun _ _ _ _ h => h) ?stableg ?stepg ?lagg ?lastg
  case stableg =>
    intro j u W W' h hb
    rcases j with _ | _ | _ | _ | _ | _ | _ | _ | _ | _ | j
    · exact h
    · exact h
    · exact h
    · exact h
    · exact isPair_below h hb
    · exact isPair_below h hb
    · exact isMem_below h hb
    · exact h
    · exact isNew_below h hb
    · exact isNew_below h hb
    · exact h
  case stepg =>
    intro i hi o ho a W hB hout hneed K hK
    have HBW := Aside0.mk hB
    have hcase : i = 0 ∨ i = 1 ∨ i = 2 ∨ i = 3 ∨ i = 4 ∨ i = 5 ∨ i = 6 ∨ i = 7 ∨ i = 8 ∨ i = 9 := by omega
    clear hB
    rcases hcase with rfl | rfl | rfl | rfl | rfl | rfl | rfl | rfl | rfl | rfl
    · obtain rfl := Option.some.inj ho
      have h3 : a.eval (.tmp 10) = .pointer (some ⟨W3.heap.size, 0, none⟩) := hout 10 (by decide)
      have h3' := eval_get h3
      have hb := blk_below (w := W4.drew) X.out.mem HBW.out
      have d0 := (blk_cell hb 0).trans rfl
      have d1 := (blk_cell hb 1).trans rfl
      refine value_ (v := .agg #[.slice Ax m1.length cx, .int .i64 m2]) (w1 := W) (by rfl) rfl ?_ (hK.out _ _ (Below.refl _ _) rfl)
      go_simp
    · obtain rfl := Option.some.inj ho
      have h3 : a.eval (.tmp 4) = .pointer (some ⟨w.heap.size + 1, 0, none⟩) := hout 4 (by decide)
      have h3' := eval_get h3
      have hb := blk_below (w := W4.drew) ARG.out.snd HBW.out
      have d0 := (blk_cell hb 0).trans rfl
      have d1 := (blk_cell hb 1).trans rfl
      have d2 := (blk_cell hb 2).trans rfl
      have d3 := (blk_cell hb 3).trans rfl
      have d4 := (blk_cell hb 4).trans rfl
      have d5 := (blk_cell hb 5).trans rfl
      have d6 := (blk_cell hb 6).trans rfl
      have d7 := (blk_cell hb 7).trans rfl
      refine value_ (v := .agg #[.int .i64 x0, .int .i64 x1, .int .i64 x2, .int .i64 x3, .bool x4, .bool x5, .bool x6, .bool x7]) (w1 := W) (by rfl) rfl ?_ (hK.out _ _ (Below.refl _ _) rfl)
      go_simp
    · obtain rfl := Option.some.inj ho
      have e0 : a.eval (.tmp 36) = _ := hneed 1 (by decide)
      refine goes_ Try.func23 (by kernel_rfl) rfl #[.agg #[.int .i64 x0, .int .i64 x1, .int .i64 x2, .int .i64 x3, .bool x4, .bool x5, .bool x6, .bool x7]] (by rfl) rfl rfl (by simp only [List.map_toArray, List.map_cons, List.map_nil, e0]) ?_
      refine (laws_toCpu.calls x0 x1 x2 x3 x4 x5 x6 x7 y0 y1 y2 y3 y4 y5 y6 y7 W Hcp.out).mono ?_
      rintro e w' ⟨rfl, hb⟩
      exact ⟨_, rfl, hK.out _ _ hb rfl⟩
    · obtain rfl := Option.some.inj ho
      have h3 : a.eval (.tmp 2) = .int .i64 v := hout 2 (by decide)
      have h3' := eval_get h3
      refine value_ (v := .int .i64 v) (w1 := W) (by rfl) rfl ?_ (hK.out _ _ (Below.refl _ _) rfl)
      go_simp
    · obtain rfl := Option.some.inj ho
      have e1 : a.eval (.tmp 35) = _ := hneed 0 (by decide)
      obtain ⟨_, hc1, hC1⟩ := Kd.R_reads' (Kd.R_below (w := W4.drew) X.out.row HBW.out)
      have e3 : a.eval (.tmp 37) = _ := hneed 2 (by decide)
      have e4 : a.eval (.tmp 38) = _ := hneed 3 (by decide)
      refine goes_ Try.func24 (by kernel_rfl) rfl #[.agg #[.slice Ax m1.length cx, .int .i64 m2], .agg #[.int .i64 y0, .int .i64 y1, .int .i64 y2, .int .i64 y3, .bool y4, .bool y5, .bool y6, .bool y7], .int .i64 v] (by rfl) rfl rfl (by simp only [List.map_toArray, List.map_cons, List.map_nil, e1, e3, e4]) ?_
      refine (impl_Push.calls Ax cx m1 m2 y0 y1 y2 y3 y4 y5 y6 y7 v r1 r2 r3 r4 r5 r6 r7 r8 r9 r10 W hC1 hc1 Hi.out).mono ?_
      rintro e w' ⟨u, rfl, hR, hb⟩
      exact ⟨_, rfl, hK.out _ _ hb ⟨u, rfl, Kd.R_lower hR HBW.out.size⟩⟩
    · obtain rfl := Option.some.inj ho
      have e5 : isPair _ _ _ _ (a.eval (.tmp 39)) W := hneed 4 (by decide)
      refine value_ (v := a.eval (.tmp 39)) (w1 := W) (by rfl) rfl rfl (hK.out _ _ (Below.refl _ _) e5)
    · obtain rfl := Option.some.inj ho
      obtain ⟨u, e6, hR⟩ : isPair _ _ _ _ (a.eval (.tmp 34)) W := hneed 5 (by decide)
      refine value_ (v := .agg #[u, .int .i64 r2]) (w1 := W) (by rfl) rfl ?_ (hK.out _ _ (Below.refl _ _) ⟨u, rfl, hR⟩)
      have e6' := eval_get e6
      go_simp
    · obtain rfl := Option.some.inj ho
      obtain ⟨u, e6, hR⟩ : isPair _ _ _ _ (a.eval (.tmp 34)) W := hneed 5 (by decide)
      refine value_ (v := .agg #[.int .i64 r3, .int .i64 r4, .int .i64 r5, .int .i64 r6, .bool r7, .bool r8, .bool r9, .bool r10]) (w1 := W) (by rfl) rfl ?_ (hK.out _ _ (Below.refl _ _) rfl)
      have e6' := eval_get e6
      go_simp
    · obtain rfl := Option.some.inj ho
      refine value_ (v := .pointer (some ⟨W.heap.size, 0, none⟩)) (w1 := W.alloc (.cells #[.slice none 0 0, .int .i64 0] 37)) (by rfl) rfl ?_ (hK.out _ _ (below_alloc (Below.refl _ _) _) ⟨_, rfl, HBW.out.size, alloc_at _ _ _ rfl⟩)
      go_simp
    · obtain rfl := Option.some.inj ho
      refine value_ (v := .pointer (some ⟨W.heap.size, 0, none⟩)) (w1 := W.alloc (.cells #[.int .i64 0, .int .i64 0, .int .i64 0, .int .i64 0, .bool false, .bool false, .bool false, .bool false] 38)) (by rfl) rfl ?_ (hK.out _ _ (below_alloc (Below.refl _ _) _) ⟨_, rfl, HBW.out.size, alloc_at _ _ _ rfl⟩)
      go_simp
  case lagg =>
    intro o ho a W hneed
    obtain rfl := Option.some.inj ho
    obtain ⟨u, e6, hR⟩ : isPair _ _ _ _ (a.eval (.tmp 34)) W := hneed 5 (by decide)
    refine ⟨.agg #[.int .i64 r3, .int .i64 r4, .int .i64 r5, .int .i64 r6, .bool r7, .bool r8, .bool r9, .bool r10], rfl, Or.inl ⟨by rfl, ?_⟩⟩
    intro w'
    have e6' := eval_get e6
    go_simp
  intro f vs W5b hB hE
  have HBW := Aside0.mk hB
  clear hB
  have q0 : vs 0 = _ := hE 0 (by decide)
  have q1 : vs 1 = _ := hE 1 (by decide)
  have q2 : vs 2 = _ := hE 2 (by decide)
  have q3 : vs 3 = _ := hE 3 (by decide)
  obtain ⟨u4g, q4, _⟩ : isPair _ _ _ _ (vs 4) W5b := hE 4 (by decide)
  obtain ⟨u5g, q5, _⟩ : isPair _ _ _ _ (vs 5) W5b := hE 5 (by decide)
  obtain ⟨u6g, q6, hR6⟩ : isMem _ _ _ (vs 6) W5b := hE 6 (by decide)
  have q7 : vs 7 = _ := hE 7 (by decide)
  obtain ⟨g1g, q8, hg1, hb1⟩ : isNew _ _ _ (vs 8) W5b := hE 8 (by decide)
  obtain ⟨g2g, q9, hg2, hb2⟩ : isNew _ _ _ (vs 9) W5b := hE 9 (by decide)
  show wpAnyLast _ _ _ _ _ _ (f + 2) _ (putAll _ [(35, vs 0), (36, vs 1), (37, vs 2), (38, vs 3), (39, vs 4), (34, vs 5), (40, vs 6), (41, vs 7), (11, vs 8), (12, vs 9)]) W5b
  rw [q0, q1, q2, q3, q4, q5, q6, q7, q8, q9]
  clear q0 q1 q2 q3 q4 q5 q6 q7 q8 q9 hE
  refine norm_ (a' := ?_) ?_ ?_
  rotate_left
  · simp only [putAll, Act.put, List.setIfInBounds_toArray, List.set_cons_zero, List.set_cons_succ]
    rfl
  obtain ⟨Ag, cg, rfl⟩ := Kd.R_slice hR6
  have hgg : g1g ≠ g2g := blk_ne hb1 hb2 (by decide)
  have hgg' : g2g ≠ g1g := fun h => hgg h.symm
  refine one_ (i := 10) (N := none) #[true, true, true, true, true, true, true, true, true, true, true, false] rfl rfl (by kernel_rfl) (by decide) (fun K hK => ?_)
  refine skip_ (w1 := ?_) (by rfl) rfl ?_ ?_
  rotate_left
  · skip
    have r0 : W5b.cell? ⟨g1g, 0, none⟩ = some (.slice none 0 0) := (blk_cell hb1 0).trans rfl
    have f0 := blk_frozen hb1 0
    have r1 : W5b.cell? ⟨g1g, 1, none⟩ = some (.int .i64 0) := (blk_cell hb1 1).trans rfl
    have f1 := blk_frozen hb1 1
    go_simp
    rfl
  refine hK.out _ _ trivial (fun _ => ?_)
  clear hK K
  refine one_ (i := 11) (N := none) #[true, true, true, true, true, true, true, true, true, true, true, true] rfl rfl (by kernel_rfl) (by decide) (fun K hK => ?_)
  refine skip_ (w1 := ?_) (by rfl) rfl ?_ ?_
  rotate_left
  · skip
    have r0 : W5b.cell? ⟨g2g, 0, none⟩ = some (.int .i64 0) := (blk_cell hb2 0).trans rfl
    have f0 := blk_frozen hb2 0
    have r1 : W5b.cell? ⟨g2g, 1, none⟩ = some (.int .i64 0) := (blk_cell hb2 1).trans rfl
    have f1 := blk_frozen hb2 1
    have r2 : W5b.cell? ⟨g2g, 2, none⟩ = some (.int .i64 0) := (blk_cell hb2 2).trans rfl
    have f2 := blk_frozen hb2 2
    have r3 : W5b.cell? ⟨g2g, 3, none⟩ = some (.int .i64 0) := (blk_cell hb2 3).trans rfl
    have f3 := blk_frozen hb2 3
    have r4 : W5b.cell? ⟨g2g, 4, none⟩ = some (.bool false) := (blk_cell hb2 4).trans rfl
    have f4 := blk_frozen hb2 4
    have r5 : W5b.cell? ⟨g2g, 5, none⟩ = some (.bool false) := (blk_cell hb2 5).trans rfl
    have f5 := blk_frozen hb2 5
    have r6 : W5b.cell? ⟨g2g, 6, none⟩ = some (.bool false) := (blk_cell hb2 6).trans rfl
    have f6 := blk_frozen hb2 6
    have r7 : W5b.cell? ⟨g2g, 7, none⟩ = some (.bool false) := (blk_cell hb2 7).trans rfl
    have f7 := blk_frozen hb2 7
    go_simp
    rfl
  refine hK.out _ _ trivial (fun _ => ?_)
  clear hK K
  refine done_ (by kernel_rfl) ?_
  obtain ⟨A_, c_, e_, P, Kp, B⟩ := pair_made ARG.out.below HBW.out hR6 hb1 hb2 hg1 hg2 r2 (.int .i64 r3) (.int .i64 r4) (.int .i64 r5) (.int .i64 r6) (.bool r7) (.bool r8) (.bool r9) (.bool r10)
  cases e_
  have ARG_ := Aside0.mk (ARG.out.kept Kp B (fun _ _ h => h))
  have Ps_ := Aside0.mk (Ps.out.kept Kp (fun _ _ _ h => h))
  have X_ := Aside0.mk (X.out.kept Kp (fun _ _ _ h => h))
  have Pg := Aside0.mk P
  clear P Kp B ARG Ps X hR6 hb1 hb2 hg1 hg2 hgg hgg' HBW
  generalize hW_ : ((((((((((W5b.setCell ⟨g1g, 0, none⟩ (.slice Ag r1.length cg)).setCell ⟨g1g, 1, none⟩ (.int .i64 r2)).setCell ⟨g2g, 0, none⟩ (.int .i64 r3)).setCell ⟨g2g, 1, none⟩ (.int .i64 r4)).setCell ⟨g2g, 2, none⟩ (.int .i64 r5)).setCell ⟨g2g, 3, none⟩ (.int .i64 r6)).setCell ⟨g2g, 4, none⟩ (.bool r7)).setCell ⟨g2g, 5, none⟩ (.bool r8)).setCell ⟨g2g, 6, none⟩ (.bool r9)).setCell ⟨g2g, 7, none⟩ (.bool r10)) = W5 at *
  clear hW_
  have ARG := ARG_
  clear ARG_
  have Ps := Ps_
  clear Ps_
  have X := X_
  clear X_
  have y0_ : W5.cell? ⟨g1g, 0, none⟩ = some (.slice Ag r1.length cg) := (blk_cell Pg.out.mem 0).trans rfl
  have y1_ : W5.cell? ⟨g1g, 1, none⟩ = some (.int .i64 r2) := (blk_cell Pg.out.mem 1).trans rfl
  have y2_ : W5.cell? ⟨g1s, 0, none⟩ = some (.slice As r1.length cs) := (blk_cell Ps.out.mem 0).trans rfl
  have y3_ : W5.cell? ⟨g1s, 1, none⟩ = some (.int .i64 r2) := (blk_cell Ps.out.mem 1).trans rfl
  go_wp2_with fail
  obtain ⟨_, hc1, hC1⟩ := Kd.R_reads' Pg.out.row
  obtain ⟨_, hc2, hC2⟩ := Kd.R_reads' Ps.out.row
  refine (laws_eqMem.calls k Ag cg r1 r2 As cs r1 r2 true _ hC1 hc1 hC2 hc2 He1.out).mono ?_
  rintro e W6 ⟨rfl, hb⟩
  clear hc1 hC1 hc2 hC2
  clear y0_ y1_ y2_ y3_
  have K_ := Kept.of_below hb (fun _ => False)
  have ARG_ := Aside0.mk (ARG.out.kept K_ (below_step ARG.out.below hb) (fun _ _ h => h))
  have Ps_ := Aside0.mk (Ps.out.kept K_ (fun _ _ _ h => h))
  have X_ := Aside0.mk (X.out.kept K_ (fun _ _ _ h => h))
  have Pg_ := Aside0.mk (Pg.out.kept K_ (fun _ _ _ h => h))
  clear ARG Ps X Pg
  have ARG := ARG_
  clear ARG_
  have Ps := Ps_
  clear Ps_
  have X := X_
  clear X_
  have Pg := Pg_
  clear Pg_
  clear K_
  clear hb
  have y0_ : W6.cell? ⟨g2g, 0, none⟩ = some (.int .i64 r3) := (blk_cell Pg.out.cpu 0).trans rfl
  have y1_ : W6.cell? ⟨g2g, 1, none⟩ = some (.int .i64 r4) := (blk_cell Pg.out.cpu 1).trans rfl
  have y2_ : W6.cell? ⟨g2g, 2, none⟩ = some (.int .i64 r5) := (blk_cell Pg.out.cpu 2).trans rfl
  have y3_ : W6.cell? ⟨g2g, 3, none⟩ = some (.int .i64 r6) := (blk_cell Pg.out.cpu 3).trans rfl
  have y4_ : W6.cell? ⟨g2g, 4, none⟩ = some (.bool r7) := (blk_cell Pg.out.cpu 4).trans rfl
  have y5_ : W6.cell? ⟨g2g, 5, none⟩ = some (.bool r8) := (blk_cell Pg.out.cpu 5).trans rfl
  have y6_ : W6.cell? ⟨g2g, 6, none⟩ = some (.bool r9) := (blk_cell Pg.out.cpu 6).trans rfl
  have y7_ : W6.cell? ⟨g2g, 7, none⟩ = some (.bool r10) := (blk_cell Pg.out.cpu 7).trans rfl
  have y8_ : W6.cell? ⟨g2s, 0, none⟩ = some (.int .i64 r3) := (blk_cell Ps.out.cpu 0).trans rfl
  have y9_ : W6.cell? ⟨g2s, 1, none⟩ = some (.int .i64 r4) := (blk_cell Ps.out.cpu 1).trans rfl
  have y10_ : W6.cell? ⟨g2s, 2, none⟩ = some (.int .i64 r5) := (blk_cell Ps.out.cpu 2).trans rfl
  have y11_ : W6.cell? ⟨g2s, 3, none⟩ = some (.int .i64 r6) := (blk_cell Ps.out.cpu 3).trans rfl
  have y12_ : W6.cell? ⟨g2s, 4, none⟩ = some (.bool r7) := (blk_cell Ps.out.cpu 4).trans rfl
  have y13_ : W6.cell? ⟨g2s, 5, none⟩ = some (.bool r8) := (blk_cell Ps.out.cpu 5).trans rfl
  have y14_ : W6.cell? ⟨g2s, 6, none⟩ = some (.bool r9) := (blk_cell Ps.out.cpu 6).trans rfl
  have y15_ : W6.cell? ⟨g2s, 7, none⟩ = some (.bool r10) := (blk_cell Ps.out.cpu 7).trans rfl
  go_wp2_with fail
  refine (laws_eqCpu.calls r3 r4 r5 r6 r7 r8 r9 r10 r3 r4 r5 r6 r7 r8 r9 r10 true _ He2.out).mono ?_
  rintro e W7 ⟨rfl, hb⟩
  clear y0_ y1_ y2_ y3_ y4_ y5_ y6_ y7_ y8_ y9_ y10_ y11_ y12_ y13_ y14_ y15_
  have K_ := Kept.of_below hb (fun _ => False)
  have ARG_ := Aside0.mk (ARG.out.kept K_ (below_step ARG.out.below hb) (fun _ _ h => h))
  have Ps_ := Aside0.mk (Ps.out.kept K_ (fun _ _ _ h => h))
  have X_ := Aside0.mk (X.out.kept K_ (fun _ _ _ h => h))
  have Pg_ := Aside0.mk (Pg.out.kept K_ (fun _ _ _ h => h))
  clear ARG Ps X Pg
  have ARG := ARG_
  clear ARG_
  have Ps := Ps_
  clear Ps_
  have X := X_
  clear X_
  have Pg := Pg_
  clear Pg_
  clear K_
  clear hb
  go_wp2
  refine start_ (n := 5) (S := fun w' => w'.heap[W3.heap.size]? = some (.cells #[.slice Ax m1.length cx, .int .i64 m2] 37 (0, 0)) ∧ w'.heap[w.heap.size]? = some (.cells #[.slice A0 l0.length c0, .int .i64 b] 33 (0, 0))) (ds := []) #[false, false, false, false, false] (by kernel_rfl) rfl rfl ⟨X.out.mem, ARG.out.fst⟩ (fun hHeld => ?_)
  refine take_ (i := 0) (N := some 52) (v := ?_) (a' := ?_) #[true, false, false, false, false] rfl rfl (by kernel_rfl) (fun _ _ _ h => h) (Or.inl ⟨by rfl, ?_⟩) hHeld ?_ ?_
  rotate_left
  · rintro w' ⟨s0, s1⟩
    have a0 := (blk_cell s0 0).trans rfl
    have a1 := (blk_cell s0 1).trans rfl
    clear s0 s1
    go_simp
    with_reducible rfl
  rotate_left
  · simp only [Act.put, List.setIfInBounds_toArray, List.set_cons_zero, List.set_cons_succ, i64_w, i32_w]
    rfl
  refine take_ (i := 1) (N := some 53) (v := ?_) (a' := ?_) #[true, true, false, false, false] rfl rfl (by kernel_rfl) (fun _ _ _ h => h) (Or.inl ⟨by rfl, ?_⟩) hHeld ?_ ?_
  rotate_left
  · rintro w' ⟨s0, s1⟩
    have a0 := (blk_cell s1 0).trans rfl
    have a1 := (blk_cell s1 1).trans rfl
    clear s0 s1
    go_simp
    with_reducible rfl
  rotate_left
  · simp only [Act.put, List.setIfInBounds_toArray, List.set_cons_zero, List.set_cons_succ, i64_w, i32_w]
    rfl
  refine one_ (i := 2) (N := some 54) #[true, true, true, false, false] rfl rfl (by kernel_rfl) (by decide) (fun K hK => ?_)
  refine goes_ Try.func22 (by kernel_rfl) rfl #[.agg #[.slice A0 l0.length c0, .int .i64 b]] (by rfl) rfl rfl (by (try simp only [List.map_toArray, List.map_cons, List.map_nil]); first | done | rfl) ?_
  refine (laws_toMem.calls k A0 c0 l0 b m1 m2 W7.drew (Kd.C_below HR.out (below_drew1 ARG.out.below)) HC.out Hm.out).mono ?_
  rintro e W8 ⟨u, rfl, hR, hb⟩
  refine ⟨_, rfl, ?_⟩
  have K_ : Kept W7 W8 (fun _ => False) := ⟨hb.size, fun i hi _ => hb.block i hi⟩
  have ARG_ := Aside0.mk (ARG.out.kept K_ (below_step (W := W7.drew) (below_drew1 ARG.out.below) hb) (fun _ _ h => h))
  have Ps_ := Aside0.mk (Ps.out.kept K_ (fun _ _ _ h => h))
  have X_ := Aside0.mk (X.out.kept K_ (fun _ _ _ h => h))
  have Pg_ := Aside0.mk (Pg.out.kept K_ (fun _ _ _ h => h))
  clear ARG Ps X Pg
  have ARG := ARG_
  clear ARG_
  have Ps := Ps_
  clear Ps_
  have X := X_
  clear X_
  have Pg := Pg_
  clear Pg_
  clear K_ hb hHeld
  obtain ⟨Ay, cy, rfl⟩ := Kd.R_slice hR
  refine hK.out _ _ ⟨X.out.mem, ARG.out.fst⟩ (fun hHeld => ?_)
  clear hK K
  refine norm_ (a' := ?_) ?_ ?_
  rotate_left
  · show Act.put _ (some 54) _ = _
    simp only [Act.put, List.setIfInBounds_toArray, List.set_cons_zero, List.set_cons_succ, i64_w, i32_w]
    rfl
  refine one_ (i := 3) (N := some 55) #[true, true, true, true, false] rfl rfl (by kernel_rfl) (by decide) (fun K hK => ?_)
  refine goes_ Try.func25 (by kernel_rfl) rfl #[.agg #[.slice Ax m1.length cx, .int .i64 m2], .agg #[.slice Ay m1.length cy, .int .i64 m2]] (by rfl) rfl rfl (by (try simp only [List.map_toArray, List.map_cons, List.map_nil]); first | done | rfl) ?_
  obtain ⟨_, hc1, hC1⟩ := Kd.R_reads' X.out.row
  obtain ⟨_, hc2, hC2⟩ := Kd.R_reads' hR
  refine (laws_eqMem.calls k Ax cx m1 m2 Ay cy m1 m2 true _ hC1 hc1 hC2 hc2 He3.out).mono ?_
  rintro e W9 ⟨rfl, hb⟩
  refine ⟨_, rfl, ?_⟩
  clear hc1 hC1 hc2 hC2 hR hHeld
  have K_ := Kept.of_below hb (fun _ => False)
  have ARG_ := Aside0.mk (ARG.out.kept K_ (below_step ARG.out.below hb) (fun _ _ h => h))
  have Ps_ := Aside0.mk (Ps.out.kept K_ (fun _ _ _ h => h))
  have X_ := Aside0.mk (X.out.kept K_ (fun _ _ _ h => h))
  have Pg_ := Aside0.mk (Pg.out.kept K_ (fun _ _ _ h => h))
  clear ARG Ps X Pg
  have ARG := ARG_
  clear ARG_
  have Ps := Ps_
  clear Ps_
  have X := X_
  clear X_
  have Pg := Pg_
  clear Pg_
  clear K_
  clear hb
  refine hK.out _ _ ⟨X.out.mem, ARG.out.fst⟩ (fun hHeld => ?_)
  clear hK K hHeld
  refine norm_ (a' := ?_) ?_ ?_
  rotate_left
  · show Act.put _ (some 55) _ = _
    simp only [Act.put, List.setIfInBounds_toArray, List.set_cons_zero, List.set_cons_succ, i64_w, i32_w]
    rfl
  refine pure_ (i := 4) (N := some 56) (v := ?_) (a' := ?_) #[true, true, true, true, true] rfl rfl (by kernel_rfl) (fun _ _ _ h => h) (Or.inl ⟨by rfl, ?_⟩) ?_ ?_
  rotate_left
  · intro w'
    go_simp
    with_reducible rfl
  rotate_left
  · simp only [Act.put, List.setIfInBounds_toArray, List.set_cons_zero, List.set_cons_succ, i64_w, i32_w]
    rfl
  refine done_ (by kernel_rfl) ?_
  have y0_ : W9.cell? ⟨W3.heap.size, 0, none⟩ = some (.slice Ax m1.length cx) := (blk_cell X.out.mem 0).trans rfl
  have y1_ : W9.cell? ⟨W3.heap.size, 1, none⟩ = some (.int .i64 m2) := (blk_cell X.out.mem 1).trans rfl
  go_wp2_with fail
  refine (laws_markMem.calls k _ (.slice Ax m1.length cx) m1 m2 1 k1 n1 w W9 ARG.out.below X.out.row Hk1.out).mono ?_
  rintro e W10 ⟨rfl, _, hb, hk⟩
  clear y0_ y1_
  have ARG_ := Aside0.mk (ARG.out.kept hk (hb) (fun k hk h => by have := Ps.out.h1; omega))
  have Ps_ := Aside0.mk (Ps.out.kept hk (fun k h1 h2 h => by omega))
  have Pg_ := Aside0.mk (Pg.out.kept hk (fun k h1 h2 h => by omega))
  clear ARG Ps Pg
  have ARG := ARG_
  clear ARG_
  have Ps := Ps_
  clear Ps_
  have Pg := Pg_
  clear Pg_
  clear X hk hb
  have ht1 := Ht1.out
  have y0_ : W10.cell? ⟨g1g, 0, none⟩ = some (.slice Ag r1.length cg) := (blk_cell Pg.out.mem 0).trans rfl
  have y1_ : W10.cell? ⟨g1g, 1, none⟩ = some (.int .i64 r2) := (blk_cell Pg.out.mem 1).trans rfl
  have y2_ : W10.cell? ⟨g1s, 0, none⟩ = some (.slice As r1.length cs) := (blk_cell Ps.out.mem 0).trans rfl
  have y3_ : W10.cell? ⟨g1s, 1, none⟩ = some (.int .i64 r2) := (blk_cell Ps.out.mem 1).trans rfl
  go_wp2_with fail
  obtain ⟨_, hc1, hC1⟩ := Kd.R_reads' Pg.out.row
  obtain ⟨_, hc2, hC2⟩ := Kd.R_reads' Ps.out.row
  refine (laws_eqMem.calls k Ag cg r1 r2 As cs r1 r2 true _ hC1 hc1 hC2 hc2 He1.out).mono ?_
  rintro e W11 ⟨rfl, hb⟩
  clear hc1 hC1 hc2 hC2
  clear y0_ y1_ y2_ y3_
  have K_ := Kept.of_below hb (fun _ => False)
  have ARG_ := Aside0.mk (ARG.out.kept K_ (below_step ARG.out.below hb) (fun _ _ h => h))
  have Ps_ := Aside0.mk (Ps.out.kept K_ (fun _ _ _ h => h))
  have Pg_ := Aside0.mk (Pg.out.kept K_ (fun _ _ _ h => h))
  clear ARG Ps Pg
  have ARG := ARG_
  clear ARG_
  have Ps := Ps_
  clear Ps_
  have Pg := Pg_
  clear Pg_
  clear K_
  clear hb
  have y0_ : W11.cell? ⟨g2g, 0, none⟩ = some (.int .i64 r3) := (blk_cell Pg.out.cpu 0).trans rfl
  have y1_ : W11.cell? ⟨g2g, 1, none⟩ = some (.int .i64 r4) := (blk_cell Pg.out.cpu 1).trans rfl
  have y2_ : W11.cell? ⟨g2g, 2, none⟩ = some (.int .i64 r5) := (blk_cell Pg.out.cpu 2).trans rfl
  have y3_ : W11.cell? ⟨g2g, 3, none⟩ = some (.int .i64 r6) := (blk_cell Pg.out.cpu 3).trans rfl
  have y4_ : W11.cell? ⟨g2g, 4, none⟩ = some (.bool r7) := (blk_cell Pg.out.cpu 4).trans rfl
  have y5_ : W11.cell? ⟨g2g, 5, none⟩ = some (.bool r8) := (blk_cell Pg.out.cpu 5).trans rfl
  have y6_ : W11.cell? ⟨g2g, 6, none⟩ = some (.bool r9) := (blk_cell Pg.out.cpu 6).trans rfl
  have y7_ : W11.cell? ⟨g2g, 7, none⟩ = some (.bool r10) := (blk_cell Pg.out.cpu 7).trans rfl
  have y8_ : W11.cell? ⟨g2s, 0, none⟩ = some (.int .i64 r3) := (blk_cell Ps.out.cpu 0).trans rfl
  have y9_ : W11.cell? ⟨g2s, 1, none⟩ = some (.int .i64 r4) := (blk_cell Ps.out.cpu 1).trans rfl
  have y10_ : W11.cell? ⟨g2s, 2, none⟩ = some (.int .i64 r5) := (blk_cell Ps.out.cpu 2).trans rfl
  have y11_ : W11.cell? ⟨g2s, 3, none⟩ = some (.int .i64 r6) := (blk_cell Ps.out.cpu 3).trans rfl
  have y12_ : W11.cell? ⟨g2s, 4, none⟩ = some (.bool r7) := (blk_cell Ps.out.cpu 4).trans rfl
  have y13_ : W11.cell? ⟨g2s, 5, none⟩ = some (.bool r8) := (blk_cell Ps.out.cpu 5).trans rfl
  have y14_ : W11.cell? ⟨g2s, 6, none⟩ = some (.bool r9) := (blk_cell Ps.out.cpu 6).trans rfl
  have y15_ : W11.cell? ⟨g2s, 7, none⟩ = some (.bool r10) := (blk_cell Ps.out.cpu 7).trans rfl
  go_wp2_with fail
  refine (laws_eqCpu.calls r3 r4 r5 r6 r7 r8 r9 r10 r3 r4 r5 r6 r7 r8 r9 r10 true _ He2.out).mono ?_
  rintro e W12 ⟨rfl, hb⟩
  clear y0_ y1_ y2_ y3_ y4_ y5_ y6_ y7_ y8_ y9_ y10_ y11_ y12_ y13_ y14_ y15_
  have K_ := Kept.of_below hb (fun _ => False)
  have ARG_ := Aside0.mk (ARG.out.kept K_ (below_step ARG.out.below hb) (fun _ _ h => h))
  have Ps_ := Aside0.mk (Ps.out.kept K_ (fun _ _ _ h => h))
  have Pg_ := Aside0.mk (Pg.out.kept K_ (fun _ _ _ h => h))
  clear ARG Ps Pg
  have ARG := ARG_
  clear ARG_
  have Ps := Ps_
  clear Ps_
  have Pg := Pg_
  clear Pg_
  clear K_
  clear hb
  have y0_ : W12.cell? ⟨g1g, 0, none⟩ = some (.slice Ag r1.length cg) := (blk_cell Pg.out.mem 0).trans rfl
  have y1_ : W12.cell? ⟨g1g, 1, none⟩ = some (.int .i64 r2) := (blk_cell Pg.out.mem 1).trans rfl
  go_wp2_with fail
  refine (laws_markMem.calls k _ (.slice Ag r1.length cg) r1 r2 1 k2 n2 w W12 ARG.out.below Pg.out.row Hk2.out).mono ?_
  rintro e W13 ⟨rfl, hR, hb, hk⟩
  clear y0_ y1_
  have hl : r1.length = n2.length := (Kd.R_reads' hR).1
  have Og : Aside0 (OwnW w W13 g1g Ag cg n2 r2) := ⟨⟨by rw [← hl]; exact blk_kept Pg.out.mem hk (fun h => h.2.2.1 rfl), _, by rw [← hl]; exact hR⟩⟩
  have ARG_ := Aside0.mk (ARG.out.kept hk (hb) (fun k hk h => by have := Ps.out.h1; omega))
  have Ps_ := Aside0.mk (Ps.out.kept hk (fun k h1 h2 h => by omega))
  clear ARG Ps
  have ARG := ARG_
  clear ARG_
  have Ps := Ps_
  clear Ps_
  clear Pg hk hb hR hl
  have y0_ : W13.cell? ⟨g1g, 0, none⟩ = some (.slice Ag n2.length cg) := (blk_cell Og.out.mem 0).trans rfl
  have y1_ : W13.cell? ⟨g1g, 1, none⟩ = some (.int .i64 r2) := (blk_cell Og.out.mem 1).trans rfl
  have ht2 := Ht2.out
  have hkk : (k2 != k2) = false := by simp
  go_wp2_with fail
  refine (laws_heldMem.calls k Ag cg n2 r2 1 k2 _ Og.out.reads.2 Og.out.reads.1 Hh.out).mono ?_
  rintro e W14 ⟨rfl, hb⟩
  clear y0_ y1_
  have K_ := Kept.of_below hb (fun _ => False)
  have ARG_ := Aside0.mk (ARG.out.kept K_ (below_step ARG.out.below hb) (fun _ _ h => h))
  have Ps_ := Aside0.mk (Ps.out.kept K_ (fun _ _ _ h => h))
  have Og_ := Aside0.mk (Og.out.kept K_ (fun _ _ _ h => h))
  clear ARG Ps Og
  have ARG := ARG_
  clear ARG_
  have Ps := Ps_
  clear Ps_
  have Og := Og_
  clear Og_
  clear K_
  clear hb
  go_wp2
  clear ht2 hkk
  refine free_ (n := 13) (e := 11) (g := 8) (T := (true, [([], []), ([0], [0]), ([], []), ([2, 1], [2]), ([], []), ([1, 3, 4, 3], [1, 3, 4]), ([5], [5]), ([6], [6]), ([6], [6]), ([], []), ([], []), ([9, 7, 5, 0, 1, 2, 3, 4, 5, 6, 7, 9, 10], [7, 9]), ([10, 8, 11, 0, 1, 2, 3, 4, 5, 6, 7, 8, 9, 10, 11], [8, 10])])) #[true, true, true, true, true, true, true, true, true, true, true, false, false] #[true, true, true, true, true, true, true, true, false, true, true, false, false] [86, 87, 88, 89, 90, 91, 85, 92, 93, 16, 17] (fun j u w' => match j with
    | 0 => u = .agg #[.slice A0 l0.length c0, .int .i64 b]
    | 1 => isMem W14.heap.size m1 m2 u w'
    | 2 => u = .agg #[.int .i64 x0, .int .i64 x1, .int .i64 x2, .int .i64 x3, .bool x4, .bool x5, .bool x6, .bool x7]
    | 3 => u = .agg #[.int .i64 y0, .int .i64 y1, .int .i64 y2, .int .i64 y3, .bool y4, .bool y5, .bool y6, .bool y7]
    | 4 => u = .int .i64 v
    | 5 => isPair W14.heap.size r1 r2 (.agg #[.int .i64 r3, .int .i64 r4, .int .i64 r5, .int .i64 r6, .bool r7, .bool r8, .bool r9, .bool r10]) u w'
    | 6 => isPair W14.heap.size r1 r2 (.agg #[.int .i64 r3, .int .i64 r4, .int .i64 r5, .int .i64 r6, .bool r7, .bool r8, .bool r9, .bool r10]) u w'
    | 7 => isMem W14.heap.size r1 r2 u w'
    | 8 => u = .agg #[.int .i64 r3, .int .i64 r4, .int .i64 r5, .int .i64 r6, .bool r7, .bool r8, .bool r9, .bool r10]
    | 9 => isNew W14.heap.size 37 #[.slice none 0 0, .int .i64 0] u w'
    | 10 => isNew W14.heap.size 38 #[.int .i64 0, .int .i64 0, .int .i64 0, .int .i64 0, .bool false, .bool false, .bool false, .bool false] u w'
    | _ => False)
    (by kernel_rfl) rfl (by kernel_rfl) (by kernel_rfl) (by kernel_rfl) (any_of (T := (true, [([], []), ([0], [0]), ([], []), ([2, 1], [2]), ([], []), ([1, 3, 4, 3], [1, 3, 4]), ([5], [5]), ([6], [6]), ([6], [6]), ([], []), ([], []), ([9, 7, 5, 0, 1, 2, 3, 4, 5, 6, 7, 9, 10], [7, 9]), ([10, 8, 11, 0, 1, 2, 3, 4, 5, 6, 7, 8, 9, 10, 11], [8, 10])])) (by kernel_rfl) (by kernel_rfl)) (fun _ _ _ _ h => h) ?stableh ?steph ?lagh ?lasth
  case stableh =>
    intro j u W W' h hb
    rcases j with _ | _ | _ | _ | _ | _ | _ | _ | _ | _ | _ | j
    · exact h
    · exact isMem_below h hb
    · exact h
    · exact h
    · exact h
    · exact isPair_below h hb
    · exact isPair_below h hb
    · exact isMem_below h hb
    · exact h
    · exact isNew_below h hb
    · exact isNew_below h hb
    · exact h
  case steph =>
    intro i hi o ho a W hB hout hneed K hK
    have HBW := Aside0.mk hB
    have hcase : i = 0 ∨ i = 1 ∨ i = 2 ∨ i = 3 ∨ i = 4 ∨ i = 5 ∨ i = 6 ∨ i = 7 ∨ i = 8 ∨ i = 9 ∨ i = 10 := by omega
    clear hB
    rcases hcase with rfl | rfl | rfl | rfl | rfl | rfl | rfl | rfl | rfl | rfl | rfl
    · obtain rfl := Option.some.inj ho
      have h3 : a.eval (.tmp 3) = .pointer (some ⟨w.heap.size, 0, none⟩) := hout 3 (by decide)
      have h3' := eval_get h3
      have hb := blk_below (w := W14.drew) ARG.out.fst HBW.out
      have d0 := (blk_cell hb 0).trans rfl
      have d1 := (blk_cell hb 1).trans rfl
      refine value_ (v := .agg #[.slice A0 l0.length c0, .int .i64 b]) (w1 := W) (by rfl) rfl ?_ (hK.out _ _ (Below.refl _ _) rfl)
      go_simp
    · obtain rfl := Option.some.inj ho
      have e0 : a.eval (.tmp 86) = _ := hneed 0 (by decide)
      refine goes_ Try.func22 (by kernel_rfl) rfl #[.agg #[.slice A0 l0.length c0, .int .i64 b]] (by rfl) rfl rfl (by simp only [List.map_toArray, List.map_cons, List.map_nil, e0]) ?_
      refine (laws_toMem.calls k A0 c0 l0 b m1 m2 W (Kd.C_below HR.out (below_step (w := w) (W := W14.drew) (below_drew1 ARG.out.below) HBW.out)) HC.out Hm.out).mono ?_
      rintro e w' ⟨u, rfl, hR, hb⟩
      exact ⟨_, rfl, hK.out _ _ hb ⟨u, rfl, Kd.R_lower hR HBW.out.size⟩⟩
    · obtain rfl := Option.some.inj ho
      have h3 : a.eval (.tmp 4) = .pointer (some ⟨w.heap.size + 1, 0, none⟩) := hout 4 (by decide)
      have h3' := eval_get h3
      have hb := blk_below (w := W14.drew) ARG.out.snd HBW.out
      have d0 := (blk_cell hb 0).trans rfl
      have d1 := (blk_cell hb 1).trans rfl
      have d2 := (blk_cell hb 2).trans rfl
      have d3 := (blk_cell hb 3).trans rfl
      have d4 := (blk_cell hb 4).trans rfl
      have d5 := (blk_cell hb 5).trans rfl
      have d6 := (blk_cell hb 6).trans rfl
      have d7 := (blk_cell hb 7).trans rfl
      refine value_ (v := .agg #[.int .i64 x0, .int .i64 x1, .int .i64 x2, .int .i64 x3, .bool x4, .bool x5, .bool x6, .bool x7]) (w1 := W) (by rfl) rfl ?_ (hK.out _ _ (Below.refl _ _) rfl)
      go_simp
    · obtain rfl := Option.some.inj ho
      have e0 : a.eval (.tmp 88) = _ := hneed 2 (by decide)
      refine goes_ Try.func23 (by kernel_rfl) rfl #[.agg #[.int .i64 x0, .int .i64 x1, .int .i64 x2, .int .i64 x3, .bool x4, .bool x5, .bool x6, .bool x7]] (by rfl) rfl rfl (by simp only [List.map_toArray, List.map_cons, List.map_nil, e0]) ?_
      refine (laws_toCpu.calls x0 x1 x2 x3 x4 x5 x6 x7 y0 y1 y2 y3 y4 y5 y6 y7 W Hcp.out).mono ?_
      rintro e w' ⟨rfl, hb⟩
      exact ⟨_, rfl, hK.out _ _ hb rfl⟩
    · obtain rfl := Option.some.inj ho
      have h3 : a.eval (.tmp 2) = .int .i64 v := hout 2 (by decide)
      have h3' := eval_get h3
      refine value_ (v := .int .i64 v) (w1 := W) (by rfl) rfl ?_ (hK.out _ _ (Below.refl _ _) rfl)
      go_simp
    · obtain rfl := Option.some.inj ho
      obtain ⟨u, e1, hR1⟩ : isMem _ _ _ (a.eval (.tmp 87)) W := hneed 1 (by decide)
      obtain ⟨A1, c1, rfl⟩ := Kd.R_slice hR1
      obtain ⟨_, hc1, hC1⟩ := Kd.R_reads' hR1
      have e3 : a.eval (.tmp 89) = _ := hneed 3 (by decide)
      have e4 : a.eval (.tmp 90) = _ := hneed 4 (by decide)
      refine goes_ Try.func24 (by kernel_rfl) rfl #[.agg #[.slice A1 m1.length c1, .int .i64 m2], .agg #[.int .i64 y0, .int .i64 y1, .int .i64 y2, .int .i64 y3, .bool y4, .bool y5, .bool y6, .bool y7], .int .i64 v] (by rfl) rfl rfl (by simp only [List.map_toArray, List.map_cons, List.map_nil, e1, e3, e4]) ?_
      refine (impl_Push.calls A1 c1 m1 m2 y0 y1 y2 y3 y4 y5 y6 y7 v r1 r2 r3 r4 r5 r6 r7 r8 r9 r10 W hC1 hc1 Hi.out).mono ?_
      rintro e w' ⟨u, rfl, hR, hb⟩
      exact ⟨_, rfl, hK.out _ _ hb ⟨u, rfl, Kd.R_lower hR HBW.out.size⟩⟩
    · obtain rfl := Option.some.inj ho
      have e5 : isPair _ _ _ _ (a.eval (.tmp 91)) W := hneed 5 (by decide)
      refine value_ (v := a.eval (.tmp 91)) (w1 := W) (by rfl) rfl rfl (hK.out _ _ (Below.refl _ _) e5)
    · obtain rfl := Option.some.inj ho
      obtain ⟨u, e6, hR⟩ : isPair _ _ _ _ (a.eval (.tmp 85)) W := hneed 6 (by decide)
      refine value_ (v := .agg #[u, .int .i64 r2]) (w1 := W) (by rfl) rfl ?_ (hK.out _ _ (Below.refl _ _) ⟨u, rfl, hR⟩)
      have e6' := eval_get e6
      go_simp
    · obtain rfl := Option.some.inj ho
      obtain ⟨u, e6, hR⟩ : isPair _ _ _ _ (a.eval (.tmp 85)) W := hneed 6 (by decide)
      refine value_ (v := .agg #[.int .i64 r3, .int .i64 r4, .int .i64 r5, .int .i64 r6, .bool r7, .bool r8, .bool r9, .bool r10]) (w1 := W) (by rfl) rfl ?_ (hK.out _ _ (Below.refl _ _) rfl)
      have e6' := eval_get e6
      go_simp
    · obtain rfl := Option.some.inj ho
      refine value_ (v := .pointer (some ⟨W.heap.size, 0, none⟩)) (w1 := W.alloc (.cells #[.slice none 0 0, .int .i64 0] 37)) (by rfl) rfl ?_ (hK.out _ _ (below_alloc (Below.refl _ _) _) ⟨_, rfl, HBW.out.size, alloc_at _ _ _ rfl⟩)
      go_simp
    · obtain rfl := Option.some.inj ho
      refine value_ (v := .pointer (some ⟨W.heap.size, 0, none⟩)) (w1 := W.alloc (.cells #[.int .i64 0, .int .i64 0, .int .i64 0, .int .i64 0, .bool false, .bool false, .bool false, .bool false] 38)) (by rfl) rfl ?_ (hK.out _ _ (below_alloc (Below.refl _ _) _) ⟨_, rfl, HBW.out.size, alloc_at _ _ _ rfl⟩)
      go_simp
  case lagh =>
    intro o ho a W hneed
    obtain rfl := Option.some.inj ho
    obtain ⟨u, e6, hR⟩ : isPair _ _ _ _ (a.eval (.tmp 85)) W := hneed 6 (by decide)
    refine ⟨.agg #[.int .i64 r3, .int .i64 r4, .int .i64 r5, .int .i64 r6, .bool r7, .bool r8, .bool r9, .bool r10], rfl, Or.inl ⟨by rfl, ?_⟩⟩
    intro w'
    have e6' := eval_get e6
    go_simp
  intro f vs W15b hB hE
  have HBW := Aside0.mk hB
  clear hB
  have q0 : vs 0 = _ := hE 0 (by decide)
  obtain ⟨u1h, q1, hR1⟩ : isMem _ _ _ (vs 1) W15b := hE 1 (by decide)
  have q2 : vs 2 = _ := hE 2 (by decide)
  have q3 : vs 3 = _ := hE 3 (by decide)
  have q4 : vs 4 = _ := hE 4 (by decide)
  obtain ⟨u5h, q5, _⟩ : isPair _ _ _ _ (vs 5) W15b := hE 5 (by decide)
  obtain ⟨u6h, q6, _⟩ : isPair _ _ _ _ (vs 6) W15b := hE 6 (by decide)
  obtain ⟨u7h, q7, hR7⟩ : isMem _ _ _ (vs 7) W15b := hE 7 (by decide)
  have q8 : vs 8 = _ := hE 8 (by decide)
  obtain ⟨g1h, q9, hg1, hb1⟩ : isNew _ _ _ (vs 9) W15b := hE 9 (by decide)
  obtain ⟨g2h, q10, hg2, hb2⟩ : isNew _ _ _ (vs 10) W15b := hE 10 (by decide)
  show wpAnyLast _ _ _ _ _ _ (f + 2) _ (putAll _ [(86, vs 0), (87, vs 1), (88, vs 2), (89, vs 3), (90, vs 4), (91, vs 5), (85, vs 6), (92, vs 7), (93, vs 8), (16, vs 9), (17, vs 10)]) W15b
  rw [q0, q1, q2, q3, q4, q5, q6, q7, q8, q9, q10]
  clear q0 q1 q2 q3 q4 q5 q6 q7 q8 q9 q10 hE
  refine norm_ (a' := ?_) ?_ ?_
  rotate_left
  · simp only [putAll, Act.put, List.setIfInBounds_toArray, List.set_cons_zero, List.set_cons_succ]
    rfl
  obtain ⟨Ah, ch, rfl⟩ := Kd.R_slice hR7
  have hgg : g1h ≠ g2h := blk_ne hb1 hb2 (by decide)
  have hgg' : g2h ≠ g1h := fun h => hgg h.symm
  refine one_ (i := 11) (N := none) #[true, true, true, true, true, true, true, true, true, true, true, true, false] rfl rfl (by kernel_rfl) (by decide) (fun K hK => ?_)
  refine skip_ (w1 := ?_) (by rfl) rfl ?_ ?_
  rotate_left
  · skip
    have r0 : W15b.cell? ⟨g1h, 0, none⟩ = some (.slice none 0 0) := (blk_cell hb1 0).trans rfl
    have f0 := blk_frozen hb1 0
    have r1 : W15b.cell? ⟨g1h, 1, none⟩ = some (.int .i64 0) := (blk_cell hb1 1).trans rfl
    have f1 := blk_frozen hb1 1
    go_simp
    rfl
  refine hK.out _ _ trivial (fun _ => ?_)
  clear hK K
  refine one_ (i := 12) (N := none) #[true, true, true, true, true, true, true, true, true, true, true, true, true] rfl rfl (by kernel_rfl) (by decide) (fun K hK => ?_)
  refine skip_ (w1 := ?_) (by rfl) rfl ?_ ?_
  rotate_left
  · skip
    have r0 : W15b.cell? ⟨g2h, 0, none⟩ = some (.int .i64 0) := (blk_cell hb2 0).trans rfl
    have f0 := blk_frozen hb2 0
    have r1 : W15b.cell? ⟨g2h, 1, none⟩ = some (.int .i64 0) := (blk_cell hb2 1).trans rfl
    have f1 := blk_frozen hb2 1
    have r2 : W15b.cell? ⟨g2h, 2, none⟩ = some (.int .i64 0) := (blk_cell hb2 2).trans rfl
    have f2 := blk_frozen hb2 2
    have r3 : W15b.cell? ⟨g2h, 3, none⟩ = some (.int .i64 0) := (blk_cell hb2 3).trans rfl
    have f3 := blk_frozen hb2 3
    have r4 : W15b.cell? ⟨g2h, 4, none⟩ = some (.bool false) := (blk_cell hb2 4).trans rfl
    have f4 := blk_frozen hb2 4
    have r5 : W15b.cell? ⟨g2h, 5, none⟩ = some (.bool false) := (blk_cell hb2 5).trans rfl
    have f5 := blk_frozen hb2 5
    have r6 : W15b.cell? ⟨g2h, 6, none⟩ = some (.bool false) := (blk_cell hb2 6).trans rfl
    have f6 := blk_frozen hb2 6
    have r7 : W15b.cell? ⟨g2h, 7, none⟩ = some (.bool false) := (blk_cell hb2 7).trans rfl
    have f7 := blk_frozen hb2 7
    go_simp
    rfl
  refine hK.out _ _ trivial (fun _ => ?_)
  clear hK K
  refine done_ (by kernel_rfl) ?_
  obtain ⟨A_, c_, e_, P, Kp, B⟩ := pair_made ARG.out.below HBW.out hR7 hb1 hb2 hg1 hg2 r2 (.int .i64 r3) (.int .i64 r4) (.int .i64 r5) (.int .i64 r6) (.bool r7) (.bool r8) (.bool r9) (.bool r10)
  cases e_
  have ARG_ := Aside0.mk (ARG.out.kept Kp B (fun _ _ h => h))
  have Ps_ := Aside0.mk (Ps.out.kept Kp (fun _ _ _ h => h))
  have Og_ := Aside0.mk (Og.out.kept Kp (fun _ _ _ h => h))
  have Ph := Aside0.mk P
  clear P Kp B ARG Ps Og hR7 hb1 hb2 hg1 hg2 hgg hgg' HBW
  generalize hW_ : ((((((((((W15b.setCell ⟨g1h, 0, none⟩ (.slice Ah r1.length ch)).setCell ⟨g1h, 1, none⟩ (.int .i64 r2)).setCell ⟨g2h, 0, none⟩ (.int .i64 r3)).setCell ⟨g2h, 1, none⟩ (.int .i64 r4)).setCell ⟨g2h, 2, none⟩ (.int .i64 r5)).setCell ⟨g2h, 3, none⟩ (.int .i64 r6)).setCell ⟨g2h, 4, none⟩ (.bool r7)).setCell ⟨g2h, 5, none⟩ (.bool r8)).setCell ⟨g2h, 6, none⟩ (.bool r9)).setCell ⟨g2h, 7, none⟩ (.bool r10)) = W15 at *
  clear hW_
  have ARG := ARG_
  clear ARG_
  have Ps := Ps_
  clear Ps_
  have Og := Og_
  clear Og_
  have y0_ : W15.cell? ⟨g1h, 0, none⟩ = some (.slice Ah r1.length ch) := (blk_cell Ph.out.mem 0).trans rfl
  have y1_ : W15.cell? ⟨g1h, 1, none⟩ = some (.int .i64 r2) := (blk_cell Ph.out.mem 1).trans rfl
  have y2_ : W15.cell? ⟨g1s, 0, none⟩ = some (.slice As r1.length cs) := (blk_cell Ps.out.mem 0).trans rfl
  have y3_ : W15.cell? ⟨g1s, 1, none⟩ = some (.int .i64 r2) := (blk_cell Ps.out.mem 1).trans rfl
  go_wp2_with fail
  obtain ⟨_, hc1, hC1⟩ := Kd.R_reads' Ph.out.row
  obtain ⟨_, hc2, hC2⟩ := Kd.R_reads' Ps.out.row
  refine (laws_eqMem.calls k Ah ch r1 r2 As cs r1 r2 true _ hC1 hc1 hC2 hc2 He1.out).mono ?_
  rintro e W16 ⟨rfl, hb⟩
  clear hc1 hC1 hc2 hC2
  clear y0_ y1_ y2_ y3_
  have K_ := Kept.of_below hb (fun _ => False)
  have ARG_ := Aside0.mk (ARG.out.kept K_ (below_step ARG.out.below hb) (fun _ _ h => h))
  have Ps_ := Aside0.mk (Ps.out.kept K_ (fun _ _ _ h => h))
  have Og_ := Aside0.mk (Og.out.kept K_ (fun _ _ _ h => h))
  have Ph_ := Aside0.mk (Ph.out.kept K_ (fun _ _ _ h => h))
  clear ARG Ps Og Ph
  have ARG := ARG_
  clear ARG_
  have Ps := Ps_
  clear Ps_
  have Og := Og_
  clear Og_
  have Ph := Ph_
  clear Ph_
  clear K_
  clear hb
  have y0_ : W16.cell? ⟨g2h, 0, none⟩ = some (.int .i64 r3) := (blk_cell Ph.out.cpu 0).trans rfl
  have y1_ : W16.cell? ⟨g2h, 1, none⟩ = some (.int .i64 r4) := (blk_cell Ph.out.cpu 1).trans rfl
  have y2_ : W16.cell? ⟨g2h, 2, none⟩ = some (.int .i64 r5) := (blk_cell Ph.out.cpu 2).trans rfl
  have y3_ : W16.cell? ⟨g2h, 3, none⟩ = some (.int .i64 r6) := (blk_cell Ph.out.cpu 3).trans rfl
  have y4_ : W16.cell? ⟨g2h, 4, none⟩ = some (.bool r7) := (blk_cell Ph.out.cpu 4).trans rfl
  have y5_ : W16.cell? ⟨g2h, 5, none⟩ = some (.bool r8) := (blk_cell Ph.out.cpu 5).trans rfl
  have y6_ : W16.cell? ⟨g2h, 6, none⟩ = some (.bool r9) := (blk_cell Ph.out.cpu 6).trans rfl
  have y7_ : W16.cell? ⟨g2h, 7, none⟩ = some (.bool r10) := (blk_cell Ph.out.cpu 7).trans rfl
  have y8_ : W16.cell? ⟨g2s, 0, none⟩ = some (.int .i64 r3) := (blk_cell Ps.out.cpu 0).trans rfl
  have y9_ : W16.cell? ⟨g2s, 1, none⟩ = some (.int .i64 r4) := (blk_cell Ps.out.cpu 1).trans rfl
  have y10_ : W16.cell? ⟨g2s, 2, none⟩ = some (.int .i64 r5) := (blk_cell Ps.out.cpu 2).trans rfl
  have y11_ : W16.cell? ⟨g2s, 3, none⟩ = some (.int .i64 r6) := (blk_cell Ps.out.cpu 3).trans rfl
  have y12_ : W16.cell? ⟨g2s, 4, none⟩ = some (.bool r7) := (blk_cell Ps.out.cpu 4).trans rfl
  have y13_ : W16.cell? ⟨g2s, 5, none⟩ = some (.bool r8) := (blk_cell Ps.out.cpu 5).trans rfl
  have y14_ : W16.cell? ⟨g2s, 6, none⟩ = some (.bool r9) := (blk_cell Ps.out.cpu 6).trans rfl
  have y15_ : W16.cell? ⟨g2s, 7, none⟩ = some (.bool r10) := (blk_cell Ps.out.cpu 7).trans rfl
  go_wp2_with fail
  refine (laws_eqCpu.calls r3 r4 r5 r6 r7 r8 r9 r10 r3 r4 r5 r6 r7 r8 r9 r10 true _ He2.out).mono ?_
  rintro e W17 ⟨rfl, hb⟩
  clear y0_ y1_ y2_ y3_ y4_ y5_ y6_ y7_ y8_ y9_ y10_ y11_ y12_ y13_ y14_ y15_
  have K_ := Kept.of_below hb (fun _ => False)
  have ARG_ := Aside0.mk (ARG.out.kept K_ (below_step ARG.out.below hb) (fun _ _ h => h))
  have Ps_ := Aside0.mk (Ps.out.kept K_ (fun _ _ _ h => h))
  have Og_ := Aside0.mk (Og.out.kept K_ (fun _ _ _ h => h))
  have Ph_ := Aside0.mk (Ph.out.kept K_ (fun _ _ _ h => h))
  clear ARG Ps Og Ph
  have ARG := ARG_
  clear ARG_
  have Ps := Ps_
  clear Ps_
  have Og := Og_
  clear Og_
  have Ph := Ph_
  clear Ph_
  clear K_
  clear hb
  have y0_ : W17.cell? ⟨g1g, 0, none⟩ = some (.slice Ag n2.length cg) := (blk_cell Og.out.mem 0).trans rfl
  have y1_ : W17.cell? ⟨g1g, 1, none⟩ = some (.int .i64 r2) := (blk_cell Og.out.mem 1).trans rfl
  have ht2 := Ht2.out
  have hkk : (k2 != k2) = false := by simp
  go_wp2_with fail
  refine (laws_heldMem.calls k Ag cg n2 r2 1 k2 _ Og.out.reads.2 Og.out.reads.1 Hh.out).mono ?_
  rintro e W18 ⟨rfl, hb⟩
  clear y0_ y1_
  have K_ := Kept.of_below hb (fun _ => False)
  have ARG_ := Aside0.mk (ARG.out.kept K_ (below_step ARG.out.below hb) (fun _ _ h => h))
  have Ps_ := Aside0.mk (Ps.out.kept K_ (fun _ _ _ h => h))
  have Og_ := Aside0.mk (Og.out.kept K_ (fun _ _ _ h => h))
  have Ph_ := Aside0.mk (Ph.out.kept K_ (fun _ _ _ h => h))
  clear ARG Ps Og Ph
  have ARG := ARG_
  clear ARG_
  have Ps := Ps_
  clear Ps_
  have Og := Og_
  clear Og_
  have Ph := Ph_
  clear Ph_
  clear K_
  clear hb
  go_wp2
  clear ht2 hkk
  go_ret
  exact ⟨rfl, ARG.out.below⟩
set_option maxRecDepth 100000 in
set_option maxHeartbeats 4000000 in
theorem lawPush_big (A0 : Option Addr) (c0 : Nat) (l0 : List Int) (b : Int) (x0 x1 x2 x3 : Int) (x4 x5 x6 x7 : Bool) (v : Int) (w : World) (hr : Kd.C (Kd.int .i64) w A0 l0.length l0) (hc : l0.length ≤ c0)
    (t : Int) (hsz : laws_szMem.f l0 b 1048576 = some t) (ht : t < 0) :
    Calls Try.prog 4 #[.agg #[.slice A0 l0.length c0, .int .i64 b], .agg #[.int .i64 x0, .int .i64 x1, .int .i64 x2, .int .i64 x3, .bool x4, .bool x5, .bool x6, .bool x7], .int .i64 v] w fun e w' => e = .returned (.bool true) ∧ Below w.heap.size w w' := by
  have hu33 := Try.underlying33
  have hu35 := Try.underlying35
  have HR := Aside0.mk hr
  have HC := Aside0.mk hc
  have Hsz := Aside0.mk hsz
  have ht0 : decide (t < 0) = true := decide_eq_true ht
  clear hr hc hsz ht
  go_enter Try.func4, Try.ntmps4
  go_wp2_with fail
  refine (laws_szMem.calls A0 c0 l0 b 1048576 t _ ?hr HC.out Hsz.out).mono ?_
  case hr => repeat (first | exact HR.out | (with_reducible refine Kd.C_alloc ?_ _))
  rintro e W1 ⟨rfl, hB⟩
  have B1 : Below w.heap.size w W1 := below_step (by repeat (first | exact Below.refl _ _ | apply below_alloc)) hB
  go_wp2
  go_ret
  exact ⟨rfl, B1⟩
instance decP4 {A B C D : Type} [DecidableEq A] [DecidableEq B] [DecidableEq C] [DecidableEq D] : DecidableEq (A × B × C × D) := inferInstance
instance decB4 : DecidableEq (Bool × Bool × Bool × Bool) := inferInstance
instance decI4 : DecidableEq (Int × Int × Int × Int × Bool × Bool × Bool × Bool) := inferInstance
instance decAll : DecidableEq (List Int × Int × Int × Int × Int × Int × Bool × Bool × Bool × Bool) := inferInstance
/-- What the law answers where all is well: true; nothing is said elsewhere. -/
def laws_FnExactPush.f (k : Nat) (l0_0 : List Int) (a0_1 : Int) (a1_0 : Int) (a1_1 : Int) (a1_2 : Int) (a1_3 : Int) (a1_4 : Bool) (a1_5 : Bool) (a1_6 : Bool) (a1_7 : Bool) (a2 : Int) : Option Bool := (laws_szMem.f l0_0 a0_1 1048576).bind fun t => if t < 0 then some true else
  (laws_toMem.f k l0_0 a0_1).bind fun m => (laws_toCpu.f a1_0 a1_1 a1_2 a1_3 a1_4 a1_5 a1_6 a1_7).bind fun c => (spec_Push.f m.1 m.2 c.1 c.2.1 c.2.2.1 c.2.2.2.1 c.2.2.2.2.1 c.2.2.2.2.2.1 c.2.2.2.2.2.2.1 c.2.2.2.2.2.2.2 a2).bind fun s => (impl_Push.f m.1 m.2 c.1 c.2.1 c.2.2.1 c.2.2.2.1 c.2.2.2.2.1 c.2.2.2.2.2.1 c.2.2.2.2.2.2.1 c.2.2.2.2.2.2.2 a2).bind fun g =>
  (laws_eqMem.f k s.1 s.2.1 s.1 s.2.1).bind fun e1 => (laws_eqCpu.f s.2.2.1 s.2.2.2.1 s.2.2.2.2.1 s.2.2.2.2.2.1 s.2.2.2.2.2.2.1 s.2.2.2.2.2.2.2.1 s.2.2.2.2.2.2.2.2.1 s.2.2.2.2.2.2.2.2.2 s.2.2.1 s.2.2.2.1 s.2.2.2.2.1 s.2.2.2.2.2.1 s.2.2.2.2.2.2.1 s.2.2.2.2.2.2.2.1 s.2.2.2.2.2.2.2.2.1 s.2.2.2.2.2.2.2.2.2).bind fun e2 => (laws_eqMem.f k m.1 m.2 m.1 m.2).bind fun e3 =>
  (laws_markMem.f k m.1 m.2 1).bind fun q1 => (laws_markMem.f k s.1 s.2.1 1).bind fun q2 => (laws_heldMem.f k q2.2 s.2.1 1).bind fun h =>
  if g = s ∧ e1 = true ∧ e2 = true ∧ e3 = true ∧ ¬ q1.1 < 0 ∧ ¬ q2.1 < 0 ∧ h = q2.1 then some true else none
theorem laws_FnExactPush.calls (k : Nat) (A0_0 : Option Addr) (c0_0 : Nat) (l0_0 : List Int) (a0_1 : Int) (a1_0 : Int) (a1_1 : Int) (a1_2 : Int) (a1_3 : Int) (a1_4 : Bool) (a1_5 : Bool) (a1_6 : Bool) (a1_7 : Bool) (a2 : Int) (r : Bool) (w : World) (hr0_0 : Kd.C (Kd.int .i64) w A0_0 l0_0.length l0_0) (hc0_0 : l0_0.length ≤ c0_0) (h : laws_FnExactPush.f k l0_0 a0_1 a1_0 a1_1 a1_2 a1_3 a1_4 a1_5 a1_6 a1_7 a2 = some r) (hrt : r = true) :
    Calls Try.prog 4 #[.agg #[.slice A0_0 l0_0.length c0_0, .int .i64 a0_1], .agg #[.int .i64 a1_0, .int .i64 a1_1, .int .i64 a1_2, .int .i64 a1_3, .bool a1_4, .bool a1_5, .bool a1_6, .bool a1_7], .int .i64 a2] w fun e w' => e = .returned (.bool r) ∧ Below w.heap.size w w' := by
  subst hrt
  unfold laws_FnExactPush.f at h
  obtain ⟨t, hsz, h1⟩ := Option.bind_eq_some_iff.mp h
  clear h
  by_cases ht : t < 0
  · exact lawPush_big A0_0 c0_0 l0_0 a0_1 a1_0 a1_1 a1_2 a1_3 a1_4 a1_5 a1_6 a1_7 a2 w hr0_0 hc0_0 t hsz ht
  · rw [if_neg ht] at h1
    obtain ⟨⟨m1, m2⟩, hm, h2⟩ := Option.bind_eq_some_iff.mp h1
    obtain ⟨⟨y0, y1, y2, y3, y4, y5, y6, y7⟩, hcp, h3⟩ := Option.bind_eq_some_iff.mp h2
    obtain ⟨⟨r1, r2, r3, r4, r5, r6, r7, r8, r9, r10⟩, hs, h4⟩ := Option.bind_eq_some_iff.mp h3
    obtain ⟨g, hi, h5⟩ := Option.bind_eq_some_iff.mp h4
    obtain ⟨e1, he1, h6⟩ := Option.bind_eq_some_iff.mp h5
    obtain ⟨e2, he2, h7⟩ := Option.bind_eq_some_iff.mp h6
    obtain ⟨e3, he3, h8⟩ := Option.bind_eq_some_iff.mp h7
    obtain ⟨⟨k1, n1⟩, hk1, h9⟩ := Option.bind_eq_some_iff.mp h8
    obtain ⟨⟨k2, n2⟩, hk2, h10⟩ := Option.bind_eq_some_iff.mp h9
    obtain ⟨q, hh, h11⟩ := Option.bind_eq_some_iff.mp h10
    clear h1 h2 h3 h4 h5 h6 h7 h8 h9 h10
    by_cases hall : g = (r1, r2, r3, r4, r5, r6, r7, r8, r9, r10) ∧ e1 = true ∧ e2 = true ∧ e3 = true ∧ ¬ k1 < 0 ∧ ¬ k2 < 0 ∧ q = k2
    · obtain ⟨rfl, rfl, rfl, rfl, hk1', hk2', rfl⟩ := hall
      exact lawPush_true k A0_0 c0_0 l0_0 a0_1 a1_0 a1_1 a1_2 a1_3 a1_4 a1_5 a1_6 a1_7 a2 w hr0_0 hc0_0 t hsz m1 m2 hm y0 y1 y2 y3 y4 y5 y6 y7 hcp r1 r2 r3 r4 r5 r6 r7 r8 r9 r10 hs hi ht he1 he2 he3 k1 n1 hk1 hk1' q n2 hk2 hk2' hh
    · rw [if_neg hall] at h11
      cases h11

end Go.Proofs.Ytmiaocoffmobcaa.MFnExactPush
