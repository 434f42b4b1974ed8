/- Walks of functions that the law FnExactEnter reaches: each comes to just what its Lean function says. (Begun as the texts that print.sh wrote for this claim; some of them, and those that it does not write, are mine.) No condition. -/
import Derived.Test.YtmiaocoffmobcaaMFnExactEnterx5
namespace Go.Proofs.Ytmiaocoffmobcaa.MFnExactEnter
open Go.RowKit Go.Proofs.YtmiaocoffmobcaaW.PrintWords Go.Proofs.YtmiaocoffmobcaaW.PrintLast Go.Proofs.YtmiaocoffmobcaaW.PrintMore
attribute [local go_sem] max2_int min2_int max_two min_two max_three min_three max_four min_four   -- for this text's walks alone
set_option linter.unusedVariables false
set_option linter.unusedSimpArgs false

/-! ### laws_FnExactEnter (mine) -/
def isImg (lo : Nat) (xs : List (List Int)) (v : Value) (w : World) : Prop := ∃ u, v = .agg #[u] ∧ Kd.S (Kd.slice 3 (Kd.int .i64)) 31 w lo (fun _ => True) u xs
theorem isImg_below {lo : Nat} {xs : List (List Int)} {v : Value} {w w' : World} (h : isImg lo xs v w) (hb : Below w.heap.size w w') : isImg lo xs v w' := by
 obtain ⟨u, e, r⟩ := h
 exact ⟨u, e, Kd.S_below r hb⟩
/-- The boxes of the law's own arguments, at the call's first blocks. -/
structure ArgZ (w W : World) (a0 a1 a2 : Array Value) : Prop where
 below : Below w.heap.size w W
 f0 : W.heap[w.heap.size]? = some (.cells a0 24 (0, 0))
 f1 : W.heap[w.heap.size + 1]? = some (.cells a1 33 (0, 0))
 f2 : W.heap[w.heap.size + 2]? = some (.cells a2 35 (0, 0))
theorem ArgZ.kept {w W W' : World} {a0 a1 a2 : Array Value} {S : Nat → Prop} (h : ArgZ w W a0 a1 a2) (hk : Kept W W' S) (hb : Below w.heap.size w W') (hS : ∀ k, k < w.heap.size + 3 → ¬ S k) : ArgZ w W' a0 a1 a2 :=
 ⟨hb, blk_kept h.f0 hk (hS _ (by omega)), blk_kept h.f1 hk (hS _ (by omega)), blk_kept h.f2 hk (hS _ (by omega))⟩
set_option maxRecDepth 100000 in
set_option maxHeartbeats 4000000 in
theorem lawEnter_true (k : Nat) (A0 : Option Addr) (c0 : Nat) (l0 : List (List Int)) (A1 : Option Addr) (c1 : Nat) (l1 : List Int) (b : Int) (x0 x1 x2 x3 : Int) (x4 x5 x6 x7 : Bool) (v3 : Int) (w : World) (hr0 : Kd.C (Kd.slice 3 (Kd.int .i64)) w A0 l0.length l0) (hc0 : l0.length ≤ c0) (hr1 : Kd.C (Kd.int .i64) w A1 l1.length l1) (hc1 : l1.length ≤ c1)
  (t : Int) (hsz : laws_szImage.f k l0 1048576 = some t) (t2 : Int) (hsz2 : laws_szMem.f l1 b t = some t2)
  (mi : List (List Int)) (hmi : laws_toImage.f k l0 = some mi) (m1 : List Int) (m2 : Int) (hm : laws_toMem.f k l1 b = some (m1, m2)) (y0 y1 y2 y3 : Int) (y4 y5 y6 y7 : Bool) (hcp : laws_toCpu.f x0 x1 x2 x3 x4 x5 x6 x7 = some (y0, y1, y2, y3, y4, y5, y6, y7))
  (r1 : List Int) (r2 r3 r4 r5 r6 : Int) (r7 r8 r9 r10 : Bool) (hs : spec_Enter.f k mi m1 m2 y0 y1 y2 y3 y4 y5 y6 y7 v3 = some (r1, r2, r3, r4, r5, r6, r7, r8, r9, r10)) (hi : impl_Enter.f k mi m1 m2 y0 y1 y2 y3 y4 y5 y6 y7 v3 = some (r1, r2, r3, r4, r5, r6, r7, r8, r9, r10))
  (ht : ¬ t < 0) (ht2 : ¬ t2 < 0) (he1 : laws_eqMem.f k r1 r2 r1 r2 = some true) (he2 : laws_eqCpu.f r3 r4 r5 r6 r7 r8 r9 r10 r3 r4 r5 r6 r7 r8 r9 r10 = some true) (hei : laws_eqImage.f k mi mi = some true) (he3 : laws_eqMem.f k m1 m2 m1 m2 = some true)
  (k1 : Int) (n1 : List (List Int)) (hk1 : laws_markIntSS.f k mi 1 = some (k1, n1)) (ka : Int) (na : List Int) (hka : laws_markMem.f k m1 m2 k1 = some (ka, na)) (hka' : ¬ ka < 0) (kr : Int) (nr : List Int) (hkr : laws_markMem.f k r1 r2 1 = some (kr, nr)) (hkr' : ¬ kr < 0) (hh : laws_heldMem.f k nr r2 1 = some kr) :
  Calls Try.prog 13 #[.agg #[.slice A0 l0.length c0], .agg #[.slice A1 l1.length c1, .int .i64 b], .agg #[.int .i64 x0, .int .i64 x1, .int .i64 x2, .int .i64 x3, .bool x4, .bool x5, .bool x6, .bool x7], .int .i64 v3] w fun e w' => e = .returned (.bool true) ∧ Below w.heap.size w w' := by
 have hl_image := Try.underlying24
 have hi_image := Try.underlying27
 have hl_mem := Try.underlying33
 have hi_mem := Try.underlying37
 have hl_cpu := Try.underlying35
 have hi_cpu := Try.underlying38
 have HR0 := Aside0.mk hr0
 have HC0 := Aside0.mk hc0
 have HR1 := Aside0.mk hr1
 have HC1 := Aside0.mk hc1
 have Hsz := Aside0.mk hsz
 have Hsz2 := Aside0.mk hsz2
 have Hmi := Aside0.mk hmi
 have Hm := Aside0.mk hm
 have Hcp := Aside0.mk hcp
 have Hs := Aside0.mk hs
 have Hi := Aside0.mk hi
 have He1 := Aside0.mk he1
 have He2 := Aside0.mk he2
 have Hei := Aside0.mk hei
 have He3 := Aside0.mk he3
 have Hk1 := Aside0.mk hk1
 have Hka := Aside0.mk hka
 have Hkr := Aside0.mk hkr
 have Hh := Aside0.mk hh
 have ht0 : decide (t < 0) = false := decide_eq_false ht
 have ht20 : decide (t2 < 0) = false := decide_eq_false ht2
 have Ht1 := Aside0.mk (decide_eq_false hka')
 have Ht2 := Aside0.mk (decide_eq_false hkr')
 clear hr0 hc0 hr1 hc1 hsz hsz2 hmi hm hcp hs hi he1 he2 hei he3 hk1 hka hkr hh ht ht2 hka' hkr'
 go_enter Try.func13, Try.ntmps13
 go_wp2_with fail
 refine (laws_szImage.calls k A0 c0 l0 1048576 t _ ?hr HC0.out Hsz.out).mono ?_
 case hr => repeat (first | exact HR0.out | (with_reducible refine Kd.C_alloc ?_ _))
 rintro e W1 ⟨rfl, hB⟩
 have ARG : Aside0 (ArgZ w W1 #[.slice A0 l0.length c0] #[.slice A1 l1.length c1, .int .i64 b] #[.int .i64 x0, .int .i64 x1, .int .i64 x2, .int .i64 x3, .bool x4, .bool x5, .bool x6, .bool x7]) := ⟨⟨below_step (by repeat (first | exact Below.refl _ _ | apply below_alloc)) hB, blk_below (by repeat (first | exact alloc_at _ _ _ (by simp only [alloc_size]) | refine blk_alloc ?_ _)) hB, blk_below (by repeat (first | exact alloc_at _ _ _ (by simp only [alloc_size]) | refine blk_alloc ?_ _)) hB, blk_below (by repeat (first | exact alloc_at _ _ _ (by simp only [alloc_size]) | refine blk_alloc ?_ _)) hB⟩⟩
 clear hB
 have q0_ : W1.cell? ⟨w.heap.size + 1, 0, none⟩ = some (.slice A1 l1.length c1) := (blk_cell ARG.out.f1 0).trans rfl
 have q1_ : W1.cell? ⟨w.heap.size + 1, 1, none⟩ = some (.int .i64 b) := (blk_cell ARG.out.f1 1).trans rfl
 go_wp2_with fail
 refine (laws_szMem.calls A1 c1 l1 b t t2 _ (Kd.C_below HR1.out ARG.out.below) HC1.out Hsz2.out).mono ?_
 rintro e W2 ⟨rfl, hb⟩
 clear q0_ q1_
 have K_ := Kept.of_below hb (fun _ => False)
 have ARG_ := Aside0.mk (ARG.out.kept K_ (below_step ARG.out.below hb) (fun _ _ h => h))
 clear ARG 
 have ARG := ARG_
 clear ARG_
 clear K_
 clear hb
 have hlow : w.heap.size + 3 ≤ W2.heap.size := by have := blk_lt ARG.out.f2; omega
 go_wp2
 refine free_ (n := 15) (e := 13) (g := 10) (T := (true, [([], []), ([0], [0]), ([], []), ([2, 1], [2]), ([], []), ([4, 3], [4]), ([], []), ([1, 3, 5, 6, 5], [1, 3, 5, 6]), ([7], [7]), ([8], [8]), ([8], [8]), ([], []), ([], []), ([11, 9, 7, 0, 1, 2, 3, 4, 5, 6, 7, 8, 9, 11, 12], [9, 11]), ([12, 10, 13, 0, 1, 2, 3, 4, 5, 6, 7, 8, 9, 10, 11, 12, 13], [10, 12])])) #[true, true, true, true, true, true, true, true, true, true, true, true, true, false, false] #[true, true, true, true, true, true, true, true, true, true, false, true, true, false, false] [32, 33, 34, 35, 36, 37, 38, 39, 31, 40, 41, 10, 11] (fun j u w' => match j with
  | 0 => u = .agg #[.slice A0 l0.length c0]
  | 1 => isImg W2.heap.size mi u w'
  | 2 => u = .agg #[.slice A1 l1.length c1, .int .i64 b]
  | 3 => isMem W2.heap.size m1 m2 u w'
  | 4 => u = .agg #[.int .i64 x0, .int .i64 x1, .int .i64 x2, .int .i64 x3, .bool x4, .bool x5, .bool x6, .bool x7]
  | 5 => u = .agg #[.int .i64 y0, .int .i64 y1, .int .i64 y2, .int .i64 y3, .bool y4, .bool y5, .bool y6, .bool y7]
  | 6 => u = .int .i64 v3
  | 7 => isPair W2.heap.size r1 r2 (.agg #[.int .i64 r3, .int .i64 r4, .int .i64 r5, .int .i64 r6, .bool r7, .bool r8, .bool r9, .bool r10]) u w'
  | 8 => isPair W2.heap.size r1 r2 (.agg #[.int .i64 r3, .int .i64 r4, .int .i64 r5, .int .i64 r6, .bool r7, .bool r8, .bool r9, .bool r10]) u w'
  | 9 => isMem W2.heap.size r1 r2 u w'
  | 10 => u = .agg #[.int .i64 r3, .int .i64 r4, .int .i64 r5, .int .i64 r6, .bool r7, .bool r8, .bool r9, .bool r10]
  | 11 => isNew W2.heap.size 37 #[.slice none 0 0, .int .i64 0] u w'
  | 12 => isNew W2.heap.size 38 #[.int .i64 0, .int .i64 0, .int .i64 0, .int .i64 0, .bool false, .bool false, .bool false, .bool false] u w'
  | _ => False)
  (by kernel_rfl) rfl (by kernel_rfl) (by kernel_rfl) (by kernel_rfl) (any_of (T := (true, [([], []), ([0], [0]), ([], []), ([2, 1], [2]), ([], []), ([4, 3], [4]), ([], []), ([1, 3, 5, 6, 5], [1, 3, 5, 6]), ([7], [7]), ([8], [8]), ([8], [8]), ([], []), ([], []), ([11, 9, 7, 0, 1, 2, 3, 4, 5, 6, 7, 8, 9, 11, 12], [9, 11]), ([12, 10, 13, 0, 1, 2, 3, 4, 5, 6, 7, 8, 9, 10, 11, 12, 13], [10, 12])])) (by kernel_rfl) (by kernel_rfl)) (fun _ _ _ _ h => h) ?stables ?steps ?lags ?lasts
 case stables =>
  intro j u W W' h hb
  rcases j with _ | _ | _ | _ | _ | _ | _ | _ | _ | _ | _ | _ | _ | j
  ·exact h
  ·exact isImg_below h hb
  ·exact h
  ·exact isMem_below h hb
  ·exact h
  ·exact h
  ·exact h
  ·exact isPair_below h hb
  ·exact isPair_below h hb
  ·exact isMem_below h hb
  ·exact h
  ·exact isNew_below h hb
  ·exact isNew_below h hb
  ·exact h
 case steps =>
  intro i hi o ho a W hB hout hneed K hK
  have HBW := Aside0.mk hB
  have hcase : i = 0 ∨ i = 1 ∨ i = 2 ∨ i = 3 ∨ i = 4 ∨ i = 5 ∨ i = 6 ∨ i = 7 ∨ i = 8 ∨ i = 9 ∨ i = 10 ∨ i = 11 ∨ i = 12 := by omega
  clear hB
  rcases hcase with rfl | rfl | rfl | rfl | rfl | rfl | rfl | rfl | rfl | rfl | rfl | rfl | rfl
  ·obtain rfl := Option.some.inj ho
   have h3 : a.eval (.tmp 4) = .pointer (some ⟨w.heap.size, 0, none⟩) := hout 4 (by decide)
   have h3' := eval_get h3
   have hb := blk_below (w := W2.drew) ARG.out.f0 HBW.out
   have d0 := (blk_cell hb 0).trans rfl
   refine value_ (v := .agg #[.slice A0 l0.length c0]) (w1 := W) (by rfl) rfl ?_ (hK.out _ _ (Below.refl _ _) rfl)
   go_simp
  ·obtain rfl := Option.some.inj ho
   have e0 : a.eval (.tmp 32) = _ := hneed 0 (by decide)
   refine goes_ Try.func17 (by kernel_rfl) rfl #[.agg #[.slice A0 l0.length c0]] (by rfl) rfl rfl (by simp only [List.map_toArray, List.map_cons, List.map_nil, e0]) ?_
   refine (laws_toImage.calls k A0 c0 l0 mi W (Kd.C_below HR0.out (below_step (w := w) (W := W2.drew) (below_drew1 ARG.out.below) HBW.out)) HC0.out Hmi.out).mono ?_
   rintro e w' ⟨u, rfl, hR, hb⟩
   exact ⟨_, rfl, hK.out _ _ hb ⟨u, rfl, Kd.S_lower hR HBW.out.size⟩⟩
  ·obtain rfl := Option.some.inj ho
   have h3 : a.eval (.tmp 5) = .pointer (some ⟨w.heap.size + 1, 0, none⟩) := hout 5 (by decide)
   have h3' := eval_get h3
   have hb := blk_below (w := W2.drew) ARG.out.f1 HBW.out
   have d0 := (blk_cell hb 0).trans rfl
   have d1 := (blk_cell hb 1).trans rfl
   refine value_ (v := .agg #[.slice A1 l1.length c1, .int .i64 b]) (w1 := W) (by rfl) rfl ?_ (hK.out _ _ (Below.refl _ _) rfl)
   go_simp
  ·obtain rfl := Option.some.inj ho
   have e0 : a.eval (.tmp 34) = _ := hneed 2 (by decide)
   refine goes_ Try.func22 (by kernel_rfl) rfl #[.agg #[.slice A1 l1.length c1, .int .i64 b]] (by rfl) rfl rfl (by simp only [List.map_toArray, List.map_cons, List.map_nil, e0]) ?_
   refine (laws_toMem.calls k A1 c1 l1 b m1 m2 W (Kd.C_below HR1.out (below_step (w := w) (W := W2.drew) (below_drew1 ARG.out.below) HBW.out)) HC1.out Hm.out).mono ?_
   rintro e w' ⟨u, rfl, hR, hb⟩
   exact ⟨_, rfl, hK.out _ _ hb ⟨u, rfl, Kd.R_lower hR HBW.out.size⟩⟩
  ·obtain rfl := Option.some.inj ho
   have h3 : a.eval (.tmp 6) = .pointer (some ⟨w.heap.size + 2, 0, none⟩) := hout 6 (by decide)
   have h3' := eval_get h3
   have hb := blk_below (w := W2.drew) ARG.out.f2 HBW.out
   have d0 := (blk_cell hb 0).trans rfl
   have d1 := (blk_cell hb 1).trans rfl
   have d2 := (blk_cell hb 2).trans rfl
   have d3 := (blk_cell hb 3).trans rfl
   have d4 := (blk_cell hb 4).trans rfl
   have d5 := (blk_cell hb 5).trans rfl
   have d6 := (blk_cell hb 6).trans rfl
   have d7 := (blk_cell hb 7).trans rfl
   refine value_ (v := .agg #[.int .i64 x0, .int .i64 x1, .int .i64 x2, .int .i64 x3, .bool x4, .bool x5, .bool x6, .bool x7]) (w1 := W) (by rfl) rfl ?_ (hK.out _ _ (Below.refl _ _) rfl)
   go_simp
  ·obtain rfl := Option.some.inj ho
   have e0 : a.eval (.tmp 36) = _ := hneed 4 (by decide)
   refine goes_ Try.func23 (by kernel_rfl) rfl #[.agg #[.int .i64 x0, .int .i64 x1, .int .i64 x2, .int .i64 x3, .bool x4, .bool x5, .bool x6, .bool x7]] (by rfl) rfl rfl (by simp only [List.map_toArray, List.map_cons, List.map_nil, e0]) ?_
   refine (laws_toCpu.calls x0 x1 x2 x3 x4 x5 x6 x7 y0 y1 y2 y3 y4 y5 y6 y7 W Hcp.out).mono ?_
   rintro e w' ⟨rfl, hb⟩
   exact ⟨_, rfl, hK.out _ _ hb rfl⟩
  ·obtain rfl := Option.some.inj ho
   have h3 : a.eval (.tmp 3) = .int .i64 v3 := hout 3 (by decide)
   have h3' := eval_get h3
   refine value_ (v := .int .i64 v3) (w1 := W) (by rfl) rfl ?_ (hK.out _ _ (Below.refl _ _) rfl)
   go_simp
  ·obtain rfl := Option.some.inj ho
   obtain ⟨ui, ei, hRi⟩ : isImg _ _ (a.eval (.tmp 33)) W := hneed 1 (by decide)
   obtain ⟨Ai, ci, rfl⟩ := Kd.S_slice hRi
   obtain ⟨_, hci, hCi⟩ := Kd.S_reads' hRi
   obtain ⟨um, em, hRm⟩ : isMem _ _ _ (a.eval (.tmp 35)) W := hneed 3 (by decide)
   obtain ⟨Am, cm, rfl⟩ := Kd.R_slice hRm
   obtain ⟨_, hcm, hCm⟩ := Kd.R_reads' hRm
   have eo5 : a.eval (.tmp 37) = _ := hneed 5 (by decide)
   have eo6 : a.eval (.tmp 38) = _ := hneed 6 (by decide)
   refine goes_ Try.func55 (by kernel_rfl) rfl #[.agg #[.slice Ai mi.length ci], .agg #[.slice Am m1.length cm, .int .i64 m2], .agg #[.int .i64 y0, .int .i64 y1, .int .i64 y2, .int .i64 y3, .bool y4, .bool y5, .bool y6, .bool y7], .int .i64 v3] (by rfl) rfl rfl (by simp only [List.map_toArray, List.map_cons, List.map_nil, ei, em, eo5, eo6]) ?_
   refine (spec_Enter.calls k Ai ci mi Am cm m1 m2 y0 y1 y2 y3 y4 y5 y6 y7 v3 r1 r2 r3 r4 r5 r6 r7 r8 r9 r10 W hCi hci hCm hcm Hs.out).mono ?_
   rintro e w' ⟨u, rfl, hR, hb⟩
   exact ⟨_, rfl, hK.out _ _ hb ⟨u, rfl, Kd.R_lower hR HBW.out.size⟩⟩
  ·obtain rfl := Option.some.inj ho
   have e5 : isPair _ _ _ _ (a.eval (.tmp 39)) W := hneed 7 (by decide)
   refine value_ (v := a.eval (.tmp 39)) (w1 := W) (by rfl) rfl rfl (hK.out _ _ (Below.refl _ _) e5)
  ·obtain rfl := Option.some.inj ho
   obtain ⟨u, e6, hR⟩ : isPair _ _ _ _ (a.eval (.tmp 31)) W := hneed 8 (by decide)
   refine value_ (v := .agg #[u, .int .i64 r2]) (w1 := W) (by rfl) rfl ?_ (hK.out _ _ (Below.refl _ _) ⟨u, rfl, hR⟩)
   have e6' := eval_get e6
   go_simp
  ·obtain rfl := Option.some.inj ho
   obtain ⟨u, e6, hR⟩ : isPair _ _ _ _ (a.eval (.tmp 31)) W := hneed 8 (by decide)
   refine value_ (v := .agg #[.int .i64 r3, .int .i64 r4, .int .i64 r5, .int .i64 r6, .bool r7, .bool r8, .bool r9, .bool r10]) (w1 := W) (by rfl) rfl ?_ (hK.out _ _ (Below.refl _ _) rfl)
   have e6' := eval_get e6
   go_simp
  ·obtain rfl := Option.some.inj ho
   refine value_ (v := .pointer (some ⟨W.heap.size, 0, none⟩)) (w1 := W.alloc (.cells #[.slice none 0 0, .int .i64 0] 37)) (by rfl) rfl ?_ (hK.out _ _ (below_alloc (Below.refl _ _) _) ⟨_, rfl, HBW.out.size, alloc_at _ _ _ rfl⟩)
   go_simp
  ·obtain rfl := Option.some.inj ho
   refine value_ (v := .pointer (some ⟨W.heap.size, 0, none⟩)) (w1 := W.alloc (.cells #[.int .i64 0, .int .i64 0, .int .i64 0, .int .i64 0, .bool false, .bool false, .bool false, .bool false] 38)) (by rfl) rfl ?_ (hK.out _ _ (below_alloc (Below.refl _ _) _) ⟨_, rfl, HBW.out.size, alloc_at _ _ _ rfl⟩)
   go_simp
 case lags =>
  intro o ho a W hout hneed
  obtain rfl := Option.some.inj ho
  obtain ⟨u, e6, hR⟩ : isPair _ _ _ _ (a.eval (.tmp 31)) W := hneed 8 (by decide)
  refine ⟨.agg #[.int .i64 r3, .int .i64 r4, .int .i64 r5, .int .i64 r6, .bool r7, .bool r8, .bool r9, .bool r10], rfl, Or.inl ⟨by rfl, ?_⟩⟩
  intro w'
  have e6' := eval_get e6
  go_simp
 intro f vs W3 hB hE
 have HBW := Aside0.mk hB
 clear hB
 have q0 : vs 0 = _ := hE 0 (by decide)
 obtain ⟨u1s, q1, hR1⟩ : isImg _ _ (vs 1) W3 := hE 1 (by decide)
 have q2 : vs 2 = _ := hE 2 (by decide)
 obtain ⟨u3s, q3, hR3⟩ : isMem _ _ _ (vs 3) W3 := hE 3 (by decide)
 have q4 : vs 4 = _ := hE 4 (by decide)
 have q5 : vs 5 = _ := hE 5 (by decide)
 have q6 : vs 6 = _ := hE 6 (by decide)
 obtain ⟨u7s, q7, _⟩ : isPair _ _ _ _ (vs 7) W3 := hE 7 (by decide)
 obtain ⟨u8s, q8, _⟩ : isPair _ _ _ _ (vs 8) W3 := hE 8 (by decide)
 obtain ⟨u9s, q9, hR9⟩ : isMem _ _ _ (vs 9) W3 := hE 9 (by decide)
 have q10 : vs 10 = _ := hE 10 (by decide)
 obtain ⟨g1s, q11, hg1, hb1⟩ : isNew _ _ _ (vs 11) W3 := hE 11 (by decide)
 obtain ⟨g2s, q12, hg2, hb2⟩ : isNew _ _ _ (vs 12) W3 := hE 12 (by decide)
 show wpAnyLast _ _ _ _ _ _ (f + 2) _ (putAll _ [(32, vs 0), (33, vs 1), (34, vs 2), (35, vs 3), (36, vs 4), (37, vs 5), (38, vs 6), (39, vs 7), (31, vs 8), (40, vs 9), (41, vs 10), (10, vs 11), (11, vs 12)]) W3
 rw [q0, q1, q2, q3, q4, q5, q6, q7, q8, q9, q10, q11, q12]
 clear q0 q1 q2 q3 q4 q5 q6 q7 q8 q9 q10 q11 q12 hE
 refine norm_ (a' := ?_) ?_ ?_
 rotate_left
 ·simp only [putAll, Act.put, List.setIfInBounds_toArray, List.set_cons_zero, List.set_cons_succ]
  rfl
 obtain ⟨As, cs, rfl⟩ := Kd.R_slice hR9
 have hgg : g1s ≠ g2s := blk_ne hb1 hb2 (by decide)
 have hgg' : g2s ≠ g1s := fun h => hgg h.symm
 refine one_ (i := 13) (N := none) #[true, true, true, true, true, true, true, true, true, true, true, true, true, true, false] rfl rfl (by kernel_rfl) (by decide) (fun K hK => ?_)
 refine skip_ (w1 := ?_) (by rfl) rfl ?_ ?_
 rotate_left
 ·skip
  have r0 : W3.cell? ⟨g1s, 0, none⟩ = some (.slice none 0 0) := (blk_cell hb1 0).trans rfl
  have f0 := blk_frozen hb1 0
  have r1 : W3.cell? ⟨g1s, 1, none⟩ = some (.int .i64 0) := (blk_cell hb1 1).trans rfl
  have f1 := blk_frozen hb1 1
  go_simp
  rfl
 refine hK.out _ _ trivial (fun _ => ?_)
 clear hK K
 refine one_ (i := 14) (N := none) #[true, true, true, true, true, true, true, true, true, true, true, true, true, true, true] rfl rfl (by kernel_rfl) (by decide) (fun K hK => ?_)
 refine skip_ (w1 := ?_) (by rfl) rfl ?_ ?_
 rotate_left
 ·skip
  have r0 : W3.cell? ⟨g2s, 0, none⟩ = some (.int .i64 0) := (blk_cell hb2 0).trans rfl
  have f0 := blk_frozen hb2 0
  have r1 : W3.cell? ⟨g2s, 1, none⟩ = some (.int .i64 0) := (blk_cell hb2 1).trans rfl
  have f1 := blk_frozen hb2 1
  have r2 : W3.cell? ⟨g2s, 2, none⟩ = some (.int .i64 0) := (blk_cell hb2 2).trans rfl
  have f2 := blk_frozen hb2 2
  have r3 : W3.cell? ⟨g2s, 3, none⟩ = some (.int .i64 0) := (blk_cell hb2 3).trans rfl
  have f3 := blk_frozen hb2 3
  have r4 : W3.cell? ⟨g2s, 4, none⟩ = some (.bool false) := (blk_cell hb2 4).trans rfl
  have f4 := blk_frozen hb2 4
  have r5 : W3.cell? ⟨g2s, 5, none⟩ = some (.bool false) := (blk_cell hb2 5).trans rfl
  have f5 := blk_frozen hb2 5
  have r6 : W3.cell? ⟨g2s, 6, none⟩ = some (.bool false) := (blk_cell hb2 6).trans rfl
  have f6 := blk_frozen hb2 6
  have r7 : W3.cell? ⟨g2s, 7, none⟩ = some (.bool false) := (blk_cell hb2 7).trans rfl
  have f7 := blk_frozen hb2 7
  go_simp
  rfl
 refine hK.out _ _ trivial (fun _ => ?_)
 clear hK K
 refine done_ (by kernel_rfl) ?_
 obtain ⟨A_, c_, e_, P, Kp, B⟩ := pair_made ARG.out.below HBW.out hR9 hb1 hb2 hg1 hg2 r2 (.int .i64 r3) (.int .i64 r4) (.int .i64 r5) (.int .i64 r6) (.bool r7) (.bool r8) (.bool r9) (.bool r10)
 cases e_
 have hz_W4 : W2.heap.size ≤ _ := Kp.1
 have ARG_ := Aside0.mk (ARG.out.kept Kp (B) (fun _ _ h => h))
 clear ARG 
 have ARG := ARG_
 clear ARG_
 have Ps := Aside0.mk P
 clear P Kp B hR9 hb1 hg1 HBW hb2 hg2 hgg hgg'
 generalize hW_ : ((((((((((W3.setCell ⟨g1s, 0, none⟩ (.slice As r1.length cs)).setCell ⟨g1s, 1, none⟩ (.int .i64 r2)).setCell ⟨g2s, 0, none⟩ (.int .i64 r3)).setCell ⟨g2s, 1, none⟩ (.int .i64 r4)).setCell ⟨g2s, 2, none⟩ (.int .i64 r5)).setCell ⟨g2s, 3, none⟩ (.int .i64 r6)).setCell ⟨g2s, 4, none⟩ (.bool r7)).setCell ⟨g2s, 5, none⟩ (.bool r8)).setCell ⟨g2s, 6, none⟩ (.bool r9)).setCell ⟨g2s, 7, none⟩ (.bool r10)) = W4 at *
 clear hW_
 have q0_ : W4.cell? ⟨w.heap.size, 0, none⟩ = some (.slice A0 l0.length c0) := (blk_cell ARG.out.f0 0).trans rfl
 go_wp2_with fail
 refine (laws_toImage.calls k A0 c0 l0 mi _ (Kd.C_below HR0.out ARG.out.below) HC0.out Hmi.out).mono ?_
 rintro e W5 ⟨u_, rfl, hS_, hb⟩
 clear q0_
 obtain ⟨Ax, cx, rfl⟩ := Kd.S_slice hS_
 have HW0_ := Aside0.mk ARG.out.below
 have hle_ := hb.size
 have K_ := Kept.of_below hb (fun _ => False)
 have ARG_ := Aside0.mk (ARG.out.kept K_ (below_step ARG.out.below hb) (fun _ _ h => h))
 have Ps_ := Aside0.mk (Ps.out.kept K_ (fun _ _ _ h => h))
 clear ARG Ps
 have ARG := ARG_
 clear ARG_
 have Ps := Ps_
 clear Ps_
 clear K_
 have q0_ : (W5.alloc (.cells #[.slice Ax mi.length cx] 27)).cell? ⟨w.heap.size + 1, 0, none⟩ = some (.slice A1 l1.length c1) := (blk_cell (blk_alloc ARG.out.f1 (.cells #[.slice Ax mi.length cx] 27)) 0).trans rfl
 have q1_ : (W5.alloc (.cells #[.slice Ax mi.length cx] 27)).cell? ⟨w.heap.size + 1, 1, none⟩ = some (.int .i64 b) := (blk_cell (blk_alloc ARG.out.f1 (.cells #[.slice Ax mi.length cx] 27)) 1).trans rfl
 go_wp2_with fail
 have X0 : Aside0 (ImgB w (W5.alloc (.cells #[.slice Ax mi.length cx] 27)) W5.heap.size Ax cx mi W4.heap.size (W5.alloc (.cells #[.slice Ax mi.length cx] 27)).heap.size) := ⟨ImgB.made HW0_.out (Kd.S_alloc hS_ _) (alloc_at _ _ _ rfl) hle_⟩
 have hb2_ : Below W5.heap.size W5 (W5.alloc (.cells #[.slice Ax mi.length cx] 27)) := below_alloc (Below.refl _ _) _
 have K_ := Kept.of_below hb2_ (fun _ => False)
 have ARG_ := Aside0.mk (ARG.out.kept K_ (below_step ARG.out.below hb2_) (fun _ _ h => h))
 have Ps_ := Aside0.mk (Ps.out.kept K_ (fun _ _ _ h => h))
 clear ARG Ps
 have ARG := ARG_
 clear ARG_
 have Ps := Ps_
 clear Ps_
 clear K_
 have hz_W6 : W4.heap.size ≤ (W5.alloc (.cells #[.slice Ax mi.length cx] 27)).heap.size := by rw [alloc_size]; omega
 clear hb hS_ HW0_ hb2_ hle_
 generalize hW_ : (W5.alloc (.cells #[.slice Ax mi.length cx] 27)) = W6 at *
 generalize hg_ : W5.heap.size = gx at *
 clear hW_ hg_
 clear q0_ q1_
 refine (laws_toMem.calls k A1 c1 l1 b m1 m2 _ (Kd.C_below HR1.out ARG.out.below) HC1.out Hm.out).mono ?_
 rintro e W7 ⟨u_, rfl, hS_, hb⟩
 obtain ⟨Ay, cy, rfl⟩ := Kd.R_slice hS_
 have HW0_ := Aside0.mk ARG.out.below
 have hle_ := hb.size
 have K_ := Kept.of_below hb (fun _ => False)
 have ARG_ := Aside0.mk (ARG.out.kept K_ (below_step ARG.out.below hb) (fun _ _ h => h))
 have Ps_ := Aside0.mk (Ps.out.kept K_ (fun _ _ _ h => h))
 have X0_ := Aside0.mk (X0.out.kept K_ (fun _ _ _ h => h))
 clear ARG Ps X0
 have ARG := ARG_
 clear ARG_
 have Ps := Ps_
 clear Ps_
 have X0 := X0_
 clear X0_
 clear K_
 go_wp2
 obtain ⟨M_, Kp_, B_⟩ := mem_made0 (W := (W7.alloc (.cells #[.slice Ay m1.length cy, .int .i64 m2] 37))) HW0_.out (below_alloc hb _) (Kd.R_alloc hS_ _) (alloc_at _ _ _ rfl) hle_
 have X1 := Aside0.mk M_
 clear M_ Kp_ B_
 have hb2_ : Below W7.heap.size W7 (W7.alloc (.cells #[.slice Ay m1.length cy, .int .i64 m2] 37)) := below_alloc (Below.refl _ _) _
 have K_ := Kept.of_below hb2_ (fun _ => False)
 have ARG_ := Aside0.mk (ARG.out.kept K_ (below_step ARG.out.below hb2_) (fun _ _ h => h))
 have Ps_ := Aside0.mk (Ps.out.kept K_ (fun _ _ _ h => h))
 have X0_ := Aside0.mk (X0.out.kept K_ (fun _ _ _ h => h))
 clear ARG Ps X0
 have ARG := ARG_
 clear ARG_
 have Ps := Ps_
 clear Ps_
 have X0 := X0_
 clear X0_
 clear K_
 have hz_W8 : W6.heap.size ≤ (W7.alloc (.cells #[.slice Ay m1.length cy, .int .i64 m2] 37)).heap.size := by rw [alloc_size]; omega
 clear hb hS_ HW0_ hb2_ hle_
 generalize hW_ : (W7.alloc (.cells #[.slice Ay m1.length cy, .int .i64 m2] 37)) = W8 at *
 generalize hg_ : W7.heap.size = gm at *
 clear hW_ hg_
 refine free_ (n := 13) (e := 11) (g := 8) (T := (true, [([], []), ([], []), ([], []), ([2], [2]), ([], []), ([0, 1, 3, 4, 3], [0, 1, 3, 4]), ([5], [5]), ([6], [6]), ([6], [6]), ([], []), ([], []), ([9, 7, 5, 0, 1, 2, 3, 4, 5, 6, 7, 9, 10], [7, 9]), ([10, 8, 11, 0, 1, 2, 3, 4, 5, 6, 7, 8, 9, 10, 11], [8, 10])])) #[true, true, true, true, true, true, true, true, true, true, true, false, false] #[true, true, true, true, true, true, true, true, false, true, true, false, false] [47, 48, 49, 50, 51, 52, 46, 53, 54, 14, 15] (fun j u w' => match j with
  | 0 => u = .agg #[.slice Ax mi.length cx]
  | 1 => u = .agg #[.slice Ay m1.length cy, .int .i64 m2]
  | 2 => u = .agg #[.int .i64 x0, .int .i64 x1, .int .i64 x2, .int .i64 x3, .bool x4, .bool x5, .bool x6, .bool x7]
  | 3 => u = .agg #[.int .i64 y0, .int .i64 y1, .int .i64 y2, .int .i64 y3, .bool y4, .bool y5, .bool y6, .bool y7]
  | 4 => u = .int .i64 v3
  | 5 => isPair W8.heap.size r1 r2 (.agg #[.int .i64 r3, .int .i64 r4, .int .i64 r5, .int .i64 r6, .bool r7, .bool r8, .bool r9, .bool r10]) u w'
  | 6 => isPair W8.heap.size r1 r2 (.agg #[.int .i64 r3, .int .i64 r4, .int .i64 r5, .int .i64 r6, .bool r7, .bool r8, .bool r9, .bool r10]) u w'
  | 7 => isMem W8.heap.size r1 r2 u w'
  | 8 => u = .agg #[.int .i64 r3, .int .i64 r4, .int .i64 r5, .int .i64 r6, .bool r7, .bool r8, .bool r9, .bool r10]
  | 9 => isNew W8.heap.size 37 #[.slice none 0 0, .int .i64 0] u w'
  | 10 => isNew W8.heap.size 38 #[.int .i64 0, .int .i64 0, .int .i64 0, .int .i64 0, .bool false, .bool false, .bool false, .bool false] u w'
  | _ => False)
  (by kernel_rfl) rfl (by kernel_rfl) (by kernel_rfl) (by kernel_rfl) (any_of (T := (true, [([], []), ([], []), ([], []), ([2], [2]), ([], []), ([0, 1, 3, 4, 3], [0, 1, 3, 4]), ([5], [5]), ([6], [6]), ([6], [6]), ([], []), ([], []), ([9, 7, 5, 0, 1, 2, 3, 4, 5, 6, 7, 9, 10], [7, 9]), ([10, 8, 11, 0, 1, 2, 3, 4, 5, 6, 7, 8, 9, 10, 11], [8, 10])])) (by kernel_rfl) (by kernel_rfl)) (fun _ _ _ _ h => h) ?stableg ?stepg ?lagg ?lastg
 case stableg =>
  intro j u W W' h hb
  rcases j with _ | _ | _ | _ | _ | _ | _ | _ | _ | _ | _ | j
  ·exact h
  ·exact h
  ·exact h
  ·exact h
  ·exact h
  ·exact isPair_below h hb
  ·exact isPair_below h hb
  ·exact isMem_below h hb
  ·exact h
  ·exact isNew_below h hb
  ·exact isNew_below h hb
  ·exact h
 case stepg =>
  intro i hi o ho a W hB hout hneed K hK
  have HBW := Aside0.mk hB
  have hcase : i = 0 ∨ i = 1 ∨ i = 2 ∨ i = 3 ∨ i = 4 ∨ i = 5 ∨ i = 6 ∨ i = 7 ∨ i = 8 ∨ i = 9 ∨ i = 10 := by omega
  clear hB
  rcases hcase with rfl | rfl | rfl | rfl | rfl | rfl | rfl | rfl | rfl | rfl | rfl
  ·obtain rfl := Option.some.inj ho
   have h3 : a.eval (.tmp 12) = .pointer (some ⟨gx, 0, none⟩) := hout 12 (by decide)
   have h3' := eval_get h3
   have hb := blk_below (w := W8.drew) X0.out.img HBW.out
   have d0 := (blk_cell hb 0).trans rfl
   refine value_ (v := .agg #[.slice Ax mi.length cx]) (w1 := W) (by rfl) rfl ?_ (hK.out _ _ (Below.refl _ _) rfl)
   go_simp
  ·obtain rfl := Option.some.inj ho
   have h3 : a.eval (.tmp 13) = .pointer (some ⟨gm, 0, none⟩) := hout 13 (by decide)
   have h3' := eval_get h3
   have hb := blk_below (w := W8.drew) X1.out.mem HBW.out
   have d0 := (blk_cell hb 0).trans rfl
   have d1 := (blk_cell hb 1).trans rfl
   refine value_ (v := .agg #[.slice Ay m1.length cy, .int .i64 m2]) (w1 := W) (by rfl) rfl ?_ (hK.out _ _ (Below.refl _ _) rfl)
   go_simp
  ·obtain rfl := Option.some.inj ho
   have h3 : a.eval (.tmp 6) = .pointer (some ⟨w.heap.size + 2, 0, none⟩) := hout 6 (by decide)
   have h3' := eval_get h3
   have hb := blk_below (w := W8.drew) ARG.out.f2 HBW.out
   have d0 := (blk_cell hb 0).trans rfl
   have d1 := (blk_cell hb 1).trans rfl
   have d2 := (blk_cell hb 2).trans rfl
   have d3 := (blk_cell hb 3).trans rfl
   have d4 := (blk_cell hb 4).trans rfl
   have d5 := (blk_cell hb 5).trans rfl
   have d6 := (blk_cell hb 6).trans rfl
   have d7 := (blk_cell hb 7).trans rfl
   refine value_ (v := .agg #[.int .i64 x0, .int .i64 x1, .int .i64 x2, .int .i64 x3, .bool x4, .bool x5, .bool x6, .bool x7]) (w1 := W) (by rfl) rfl ?_ (hK.out _ _ (Below.refl _ _) rfl)
   go_simp
  ·obtain rfl := Option.some.inj ho
   have e0 : a.eval (.tmp 49) = _ := hneed 2 (by decide)
   refine goes_ Try.func23 (by kernel_rfl) rfl #[.agg #[.int .i64 x0, .int .i64 x1, .int .i64 x2, .int .i64 x3, .bool x4, .bool x5, .bool x6, .bool x7]] (by rfl) rfl rfl (by simp only [List.map_toArray, List.map_cons, List.map_nil, e0]) ?_
   refine (laws_toCpu.calls x0 x1 x2 x3 x4 x5 x6 x7 y0 y1 y2 y3 y4 y5 y6 y7 W Hcp.out).mono ?_
   rintro e w' ⟨rfl, hb⟩
   exact ⟨_, rfl, hK.out _ _ hb rfl⟩
  ·obtain rfl := Option.some.inj ho
   have h3 : a.eval (.tmp 3) = .int .i64 v3 := hout 3 (by decide)
   have h3' := eval_get h3
   refine value_ (v := .int .i64 v3) (w1 := W) (by rfl) rfl ?_ (hK.out _ _ (Below.refl _ _) rfl)
   go_simp
  ·obtain rfl := Option.some.inj ho
   have eo0 : a.eval (.tmp 47) = _ := hneed 0 (by decide)
   obtain ⟨_, hc0, hC0⟩ := Kd.S_reads' (Kd.S_below (w := W8.drew) X0.out.row HBW.out)
   have eo1 : a.eval (.tmp 48) = _ := hneed 1 (by decide)
   obtain ⟨_, hc1, hC1⟩ := Kd.R_reads' (Kd.R_below (w := W8.drew) X1.out.row HBW.out)
   have eo3 : a.eval (.tmp 50) = _ := hneed 3 (by decide)
   have eo4 : a.eval (.tmp 51) = _ := hneed 4 (by decide)
   refine goes_ Try.func56 (by kernel_rfl) rfl #[.agg #[.slice Ax mi.length cx], .agg #[.slice Ay m1.length cy, .int .i64 m2], .agg #[.int .i64 y0, .int .i64 y1, .int .i64 y2, .int .i64 y3, .bool y4, .bool y5, .bool y6, .bool y7], .int .i64 v3] (by rfl) rfl rfl (by simp only [List.map_toArray, List.map_cons, List.map_nil, eo0, eo1, eo3, eo4]) ?_
   refine (impl_Enter.calls k Ax cx mi Ay cy m1 m2 y0 y1 y2 y3 y4 y5 y6 y7 v3 r1 r2 r3 r4 r5 r6 r7 r8 r9 r10 W hC0 hc0 hC1 hc1 Hi.out).mono ?_
   rintro e w' ⟨u, rfl, hR, hb⟩
   exact ⟨_, rfl, hK.out _ _ hb ⟨u, rfl, Kd.R_lower hR HBW.out.size⟩⟩
  ·obtain rfl := Option.some.inj ho
   have e5 : isPair _ _ _ _ (a.eval (.tmp 52)) W := hneed 5 (by decide)
   refine value_ (v := a.eval (.tmp 52)) (w1 := W) (by rfl) rfl rfl (hK.out _ _ (Below.refl _ _) e5)
  ·obtain rfl := Option.some.inj ho
   obtain ⟨u, e6, hR⟩ : isPair _ _ _ _ (a.eval (.tmp 46)) W := hneed 6 (by decide)
   refine value_ (v := .agg #[u, .int .i64 r2]) (w1 := W) (by rfl) rfl ?_ (hK.out _ _ (Below.refl _ _) ⟨u, rfl, hR⟩)
   have e6' := eval_get e6
   go_simp
  ·obtain rfl := Option.some.inj ho
   obtain ⟨u, e6, hR⟩ : isPair _ _ _ _ (a.eval (.tmp 46)) W := hneed 6 (by decide)
   refine value_ (v := .agg #[.int .i64 r3, .int .i64 r4, .int .i64 r5, .int .i64 r6, .bool r7, .bool r8, .bool r9, .bool r10]) (w1 := W) (by rfl) rfl ?_ (hK.out _ _ (Below.refl _ _) rfl)
   have e6' := eval_get e6
   go_simp
  ·obtain rfl := Option.some.inj ho
   refine value_ (v := .pointer (some ⟨W.heap.size, 0, none⟩)) (w1 := W.alloc (.cells #[.slice none 0 0, .int .i64 0] 37)) (by rfl) rfl ?_ (hK.out _ _ (below_alloc (Below.refl _ _) _) ⟨_, rfl, HBW.out.size, alloc_at _ _ _ rfl⟩)
   go_simp
  ·obtain rfl := Option.some.inj ho
   refine value_ (v := .pointer (some ⟨W.heap.size, 0, none⟩)) (w1 := W.alloc (.cells #[.int .i64 0, .int .i64 0, .int .i64 0, .int .i64 0, .bool false, .bool false, .bool false, .bool false] 38)) (by rfl) rfl ?_ (hK.out _ _ (below_alloc (Below.refl _ _) _) ⟨_, rfl, HBW.out.size, alloc_at _ _ _ rfl⟩)
   go_simp
 case lagg =>
  intro o ho a W hout hneed
  obtain rfl := Option.some.inj ho
  obtain ⟨u, e6, hR⟩ : isPair _ _ _ _ (a.eval (.tmp 46)) W := hneed 6 (by decide)
  refine ⟨.agg #[.int .i64 r3, .int .i64 r4, .int .i64 r5, .int .i64 r6, .bool r7, .bool r8, .bool r9, .bool r10], rfl, Or.inl ⟨by rfl, ?_⟩⟩
  intro w'
  have e6' := eval_get e6
  go_simp
 intro f vs W9 hB hE
 have HBW := Aside0.mk hB
 clear hB
 have q0 : vs 0 = _ := hE 0 (by decide)
 have q1 : vs 1 = _ := hE 1 (by decide)
 have q2 : vs 2 = _ := hE 2 (by decide)
 have q3 : vs 3 = _ := hE 3 (by decide)
 have q4 : vs 4 = _ := hE 4 (by decide)
 obtain ⟨u5g, q5, _⟩ : isPair _ _ _ _ (vs 5) W9 := hE 5 (by decide)
 obtain ⟨u6g, q6, _⟩ : isPair _ _ _ _ (vs 6) W9 := hE 6 (by decide)
 obtain ⟨u7g, q7, hR7⟩ : isMem _ _ _ (vs 7) W9 := hE 7 (by decide)
 have q8 : vs 8 = _ := hE 8 (by decide)
 obtain ⟨g1g, q9, hg1, hb1⟩ : isNew _ _ _ (vs 9) W9 := hE 9 (by decide)
 obtain ⟨g2g, q10, hg2, hb2⟩ : isNew _ _ _ (vs 10) W9 := hE 10 (by decide)
 show wpAnyLast _ _ _ _ _ _ (f + 2) _ (putAll _ [(47, vs 0), (48, vs 1), (49, vs 2), (50, vs 3), (51, vs 4), (52, vs 5), (46, vs 6), (53, vs 7), (54, vs 8), (14, vs 9), (15, vs 10)]) W9
 rw [q0, q1, q2, q3, q4, q5, q6, q7, q8, q9, q10]
 clear q0 q1 q2 q3 q4 q5 q6 q7 q8 q9 q10 hE
 refine norm_ (a' := ?_) ?_ ?_
 rotate_left
 ·simp only [putAll, Act.put, List.setIfInBounds_toArray, List.set_cons_zero, List.set_cons_succ]
  rfl
 obtain ⟨Ag, cg, rfl⟩ := Kd.R_slice hR7
 have hgg : g1g ≠ g2g := blk_ne hb1 hb2 (by decide)
 have hgg' : g2g ≠ g1g := fun h => hgg h.symm
 refine one_ (i := 11) (N := none) #[true, true, true, true, true, true, true, true, true, true, true, true, false] rfl rfl (by kernel_rfl) (by decide) (fun K hK => ?_)
 refine skip_ (w1 := ?_) (by rfl) rfl ?_ ?_
 rotate_left
 ·skip
  have r0 : W9.cell? ⟨g1g, 0, none⟩ = some (.slice none 0 0) := (blk_cell hb1 0).trans rfl
  have f0 := blk_frozen hb1 0
  have r1 : W9.cell? ⟨g1g, 1, none⟩ = some (.int .i64 0) := (blk_cell hb1 1).trans rfl
  have f1 := blk_frozen hb1 1
  go_simp
  rfl
 refine hK.out _ _ trivial (fun _ => ?_)
 clear hK K
 refine one_ (i := 12) (N := none) #[true, true, true, true, true, true, true, true, true, true, true, true, true] rfl rfl (by kernel_rfl) (by decide) (fun K hK => ?_)
 refine skip_ (w1 := ?_) (by rfl) rfl ?_ ?_
 rotate_left
 ·skip
  have r0 : W9.cell? ⟨g2g, 0, none⟩ = some (.int .i64 0) := (blk_cell hb2 0).trans rfl
  have f0 := blk_frozen hb2 0
  have r1 : W9.cell? ⟨g2g, 1, none⟩ = some (.int .i64 0) := (blk_cell hb2 1).trans rfl
  have f1 := blk_frozen hb2 1
  have r2 : W9.cell? ⟨g2g, 2, none⟩ = some (.int .i64 0) := (blk_cell hb2 2).trans rfl
  have f2 := blk_frozen hb2 2
  have r3 : W9.cell? ⟨g2g, 3, none⟩ = some (.int .i64 0) := (blk_cell hb2 3).trans rfl
  have f3 := blk_frozen hb2 3
  have r4 : W9.cell? ⟨g2g, 4, none⟩ = some (.bool false) := (blk_cell hb2 4).trans rfl
  have f4 := blk_frozen hb2 4
  have r5 : W9.cell? ⟨g2g, 5, none⟩ = some (.bool false) := (blk_cell hb2 5).trans rfl
  have f5 := blk_frozen hb2 5
  have r6 : W9.cell? ⟨g2g, 6, none⟩ = some (.bool false) := (blk_cell hb2 6).trans rfl
  have f6 := blk_frozen hb2 6
  have r7 : W9.cell? ⟨g2g, 7, none⟩ = some (.bool false) := (blk_cell hb2 7).trans rfl
  have f7 := blk_frozen hb2 7
  go_simp
  rfl
 refine hK.out _ _ trivial (fun _ => ?_)
 clear hK K
 refine done_ (by kernel_rfl) ?_
 obtain ⟨A_, c_, e_, P, Kp, B⟩ := pair_made ARG.out.below HBW.out hR7 hb1 hb2 hg1 hg2 r2 (.int .i64 r3) (.int .i64 r4) (.int .i64 r5) (.int .i64 r6) (.bool r7) (.bool r8) (.bool r9) (.bool r10)
 cases e_
 have hz_W10 : W8.heap.size ≤ _ := Kp.1
 have ARG_ := Aside0.mk (ARG.out.kept Kp (B) (fun _ _ h => h))
 have Ps_ := Aside0.mk (Ps.out.kept Kp (fun _ _ _ h => h))
 have X0_ := Aside0.mk (X0.out.kept Kp (fun _ _ _ h => h))
 have X1_ := Aside0.mk (X1.out.kept Kp (fun _ _ _ h => h))
 clear ARG Ps X0 X1
 have ARG := ARG_
 clear ARG_
 have Ps := Ps_
 clear Ps_
 have X0 := X0_
 clear X0_
 have X1 := X1_
 clear X1_
 have Pg := Aside0.mk P
 clear P Kp B hR7 hb1 hg1 HBW hb2 hg2 hgg hgg'
 generalize hW_ : ((((((((((W9.setCell ⟨g1g, 0, none⟩ (.slice Ag r1.length cg)).setCell ⟨g1g, 1, none⟩ (.int .i64 r2)).setCell ⟨g2g, 0, none⟩ (.int .i64 r3)).setCell ⟨g2g, 1, none⟩ (.int .i64 r4)).setCell ⟨g2g, 2, none⟩ (.int .i64 r5)).setCell ⟨g2g, 3, none⟩ (.int .i64 r6)).setCell ⟨g2g, 4, none⟩ (.bool r7)).setCell ⟨g2g, 5, none⟩ (.bool r8)).setCell ⟨g2g, 6, none⟩ (.bool r9)).setCell ⟨g2g, 7, none⟩ (.bool r10)) = W10 at *
 clear hW_
 have q0_ : W10.cell? ⟨g1g, 0, none⟩ = some (.slice Ag r1.length cg) := (blk_cell Pg.out.mem 0).trans rfl
 have q1_ : W10.cell? ⟨g1g, 1, none⟩ = some (.int .i64 r2) := (blk_cell Pg.out.mem 1).trans rfl
 have q2_ : W10.cell? ⟨g1s, 0, none⟩ = some (.slice As r1.length cs) := (blk_cell Ps.out.mem 0).trans rfl
 have q3_ : W10.cell? ⟨g1s, 1, none⟩ = some (.int .i64 r2) := (blk_cell Ps.out.mem 1).trans rfl
 go_wp2_with fail
 obtain ⟨_, hc1_, hC1_⟩ := Kd.R_reads' Pg.out.row
 obtain ⟨_, hc2_, hC2_⟩ := Kd.R_reads' Ps.out.row
 refine (laws_eqMem.calls k Ag cg r1 r2 As cs r1 r2 true _ hC1_ hc1_ hC2_ hc2_ He1.out).mono ?_
 rintro e W11 ⟨rfl, hb⟩
 clear hc1_ hC1_ hc2_ hC2_
 clear q0_ q1_ q2_ q3_
 have K_ := Kept.of_below hb (fun _ => False)
 have ARG_ := Aside0.mk (ARG.out.kept K_ (below_step ARG.out.below hb) (fun _ _ h => h))
 have Ps_ := Aside0.mk (Ps.out.kept K_ (fun _ _ _ h => h))
 have X0_ := Aside0.mk (X0.out.kept K_ (fun _ _ _ h => h))
 have X1_ := Aside0.mk (X1.out.kept K_ (fun _ _ _ h => h))
 have Pg_ := Aside0.mk (Pg.out.kept K_ (fun _ _ _ h => h))
 clear ARG Ps X0 X1 Pg
 have ARG := ARG_
 clear ARG_
 have Ps := Ps_
 clear Ps_
 have X0 := X0_
 clear X0_
 have X1 := X1_
 clear X1_
 have Pg := Pg_
 clear Pg_
 clear K_
 clear hb
 have q0_ : W11.cell? ⟨g2g, 0, none⟩ = some (.int .i64 r3) := (blk_cell Pg.out.cpu 0).trans rfl
 have q1_ : W11.cell? ⟨g2g, 1, none⟩ = some (.int .i64 r4) := (blk_cell Pg.out.cpu 1).trans rfl
 have q2_ : W11.cell? ⟨g2g, 2, none⟩ = some (.int .i64 r5) := (blk_cell Pg.out.cpu 2).trans rfl
 have q3_ : W11.cell? ⟨g2g, 3, none⟩ = some (.int .i64 r6) := (blk_cell Pg.out.cpu 3).trans rfl
 have q4_ : W11.cell? ⟨g2g, 4, none⟩ = some (.bool r7) := (blk_cell Pg.out.cpu 4).trans rfl
 have q5_ : W11.cell? ⟨g2g, 5, none⟩ = some (.bool r8) := (blk_cell Pg.out.cpu 5).trans rfl
 have q6_ : W11.cell? ⟨g2g, 6, none⟩ = some (.bool r9) := (blk_cell Pg.out.cpu 6).trans rfl
 have q7_ : W11.cell? ⟨g2g, 7, none⟩ = some (.bool r10) := (blk_cell Pg.out.cpu 7).trans rfl
 have q8_ : W11.cell? ⟨g2s, 0, none⟩ = some (.int .i64 r3) := (blk_cell Ps.out.cpu 0).trans rfl
 have q9_ : W11.cell? ⟨g2s, 1, none⟩ = some (.int .i64 r4) := (blk_cell Ps.out.cpu 1).trans rfl
 have q10_ : W11.cell? ⟨g2s, 2, none⟩ = some (.int .i64 r5) := (blk_cell Ps.out.cpu 2).trans rfl
 have q11_ : W11.cell? ⟨g2s, 3, none⟩ = some (.int .i64 r6) := (blk_cell Ps.out.cpu 3).trans rfl
 have q12_ : W11.cell? ⟨g2s, 4, none⟩ = some (.bool r7) := (blk_cell Ps.out.cpu 4).trans rfl
 have q13_ : W11.cell? ⟨g2s, 5, none⟩ = some (.bool r8) := (blk_cell Ps.out.cpu 5).trans rfl
 have q14_ : W11.cell? ⟨g2s, 6, none⟩ = some (.bool r9) := (blk_cell Ps.out.cpu 6).trans rfl
 have q15_ : W11.cell? ⟨g2s, 7, none⟩ = some (.bool r10) := (blk_cell Ps.out.cpu 7).trans rfl
 go_wp2_with fail
 refine (laws_eqCpu.calls r3 r4 r5 r6 r7 r8 r9 r10 r3 r4 r5 r6 r7 r8 r9 r10 true _ He2.out).mono ?_
 rintro e W12 ⟨rfl, hb⟩
 clear q0_ q1_ q2_ q3_ q4_ q5_ q6_ q7_ q8_ q9_ q10_ q11_ q12_ q13_ q14_ q15_
 have K_ := Kept.of_below hb (fun _ => False)
 have ARG_ := Aside0.mk (ARG.out.kept K_ (below_step ARG.out.below hb) (fun _ _ h => h))
 have Ps_ := Aside0.mk (Ps.out.kept K_ (fun _ _ _ h => h))
 have X0_ := Aside0.mk (X0.out.kept K_ (fun _ _ _ h => h))
 have X1_ := Aside0.mk (X1.out.kept K_ (fun _ _ _ h => h))
 have Pg_ := Aside0.mk (Pg.out.kept K_ (fun _ _ _ h => h))
 clear ARG Ps X0 X1 Pg
 have ARG := ARG_
 clear ARG_
 have Ps := Ps_
 clear Ps_
 have X0 := X0_
 clear X0_
 have X1 := X1_
 clear X1_
 have Pg := Pg_
 clear Pg_
 clear K_
 clear hb
 go_wp2
 refine start_ (n := 5) (S := fun w' => w'.heap[gx]? = some (.cells #[.slice Ax mi.length cx] 27 (0, 0)) ∧ w'.heap[w.heap.size]? = some (.cells #[.slice A0 l0.length c0] 24 (0, 0))) (ds := []) #[false, false, false, false, false] (by kernel_rfl) rfl rfl ⟨X0.out.img, ARG.out.f0⟩ (fun hHeld => ?_)
 refine take_ (i := 0) (N := some 65) (v := ?_) (a' := ?_) #[true, false, false, false, false] rfl rfl (by kernel_rfl) (fun _ _ _ h => h) (Or.inl ⟨by rfl, ?_⟩) hHeld ?_ ?_
 rotate_left
 ·rintro w' ⟨s0, s1⟩
  have a0 := (blk_cell s0 0).trans rfl
  clear s0 s1
  go_simp
  with_reducible rfl
 rotate_left
 ·simp only [Act.put, List.setIfInBounds_toArray, List.set_cons_zero, List.set_cons_succ, i64_w, i32_w]
  rfl
 refine take_ (i := 1) (N := some 66) (v := ?_) (a' := ?_) #[true, true, false, false, false] rfl rfl (by kernel_rfl) (fun _ _ _ h => h) (Or.inl ⟨by rfl, ?_⟩) hHeld ?_ ?_
 rotate_left
 ·rintro w' ⟨s0, s1⟩
  have a0 := (blk_cell s1 0).trans rfl
  clear s0 s1
  go_simp
  with_reducible rfl
 rotate_left
 ·simp only [Act.put, List.setIfInBounds_toArray, List.set_cons_zero, List.set_cons_succ, i64_w, i32_w]
  rfl
 refine one_ (i := 2) (N := some 67) #[true, true, true, false, false] rfl rfl (by kernel_rfl) (by decide) (fun K hK => ?_)
 refine goes_ Try.func17 (by kernel_rfl) rfl #[.agg #[.slice A0 l0.length c0]] (by rfl) rfl rfl (by (try simp only [List.map_toArray, List.map_cons, List.map_nil]); first | done | rfl) ?_
 refine (laws_toImage.calls k A0 c0 l0 mi W12.drew (Kd.C_below HR0.out (below_drew1 ARG.out.below)) HC0.out Hmi.out).mono ?_
 rintro e W13 ⟨u, rfl, hS_, hb⟩
 refine ⟨_, rfl, ?_⟩
 have K_ : Kept W12 W13 (fun _ => False) := ⟨hb.size, fun i hi _ => hb.block i hi⟩
 have ARG_ := Aside0.mk (ARG.out.kept K_ (below_step (W := W12.drew) (below_drew1 ARG.out.below) hb) (fun _ _ h => h))
 have Ps_ := Aside0.mk (Ps.out.kept K_ (fun _ _ _ h => h))
 have X0_ := Aside0.mk (X0.out.kept K_ (fun _ _ _ h => h))
 have X1_ := Aside0.mk (X1.out.kept K_ (fun _ _ _ h => h))
 have Pg_ := Aside0.mk (Pg.out.kept K_ (fun _ _ _ h => h))
 clear ARG Ps X0 X1 Pg
 have ARG := ARG_
 clear ARG_
 have Ps := Ps_
 clear Ps_
 have X0 := X0_
 clear X0_
 have X1 := X1_
 clear X1_
 have Pg := Pg_
 clear Pg_
 clear K_ hb hHeld
 obtain ⟨Az, cz, rfl⟩ := Kd.S_slice hS_
 refine hK.out _ _ ⟨X0.out.img, ARG.out.f0⟩ (fun hHeld => ?_)
 clear hK K
 refine norm_ (a' := ?_) ?_ ?_
 rotate_left
 ·show Act.put _ (some 67) _ = _
  simp only [Act.put, List.setIfInBounds_toArray, List.set_cons_zero, List.set_cons_succ, i64_w, i32_w]
  rfl
 refine one_ (i := 3) (N := some 68) #[true, true, true, true, false] rfl rfl (by kernel_rfl) (by decide) (fun K hK => ?_)
 refine goes_ Try.func19 (by kernel_rfl) rfl #[.agg #[.slice Ax mi.length cx], .agg #[.slice Az mi.length cz]] (by rfl) rfl rfl (by (try simp only [List.map_toArray, List.map_cons, List.map_nil]); first | done | rfl) ?_
 obtain ⟨_, hc1_, hC1_⟩ := Kd.S_reads' X0.out.row
 obtain ⟨_, hc2_, hC2_⟩ := Kd.S_reads' hS_
 refine (laws_eqImage.calls k Ax cx mi Az cz mi true _ hC1_ hc1_ hC2_ hc2_ Hei.out).mono ?_
 rintro e W14 ⟨rfl, hb⟩
 refine ⟨_, rfl, ?_⟩
 clear hc1_ hC1_ hc2_ hC2_ hS_ hHeld
 have K_ := Kept.of_below hb (fun _ => False)
 have ARG_ := Aside0.mk (ARG.out.kept K_ (below_step ARG.out.below hb) (fun _ _ h => h))
 have Ps_ := Aside0.mk (Ps.out.kept K_ (fun _ _ _ h => h))
 have X0_ := Aside0.mk (X0.out.kept K_ (fun _ _ _ h => h))
 have X1_ := Aside0.mk (X1.out.kept K_ (fun _ _ _ h => h))
 have Pg_ := Aside0.mk (Pg.out.kept K_ (fun _ _ _ h => h))
 clear ARG Ps X0 X1 Pg
 have ARG := ARG_
 clear ARG_
 have Ps := Ps_
 clear Ps_
 have X0 := X0_
 clear X0_
 have X1 := X1_
 clear X1_
 have Pg := Pg_
 clear Pg_
 clear K_
 clear hb
 refine hK.out _ _ ⟨X0.out.img, ARG.out.f0⟩ (fun hHeld => ?_)
 clear hK K hHeld
 refine norm_ (a' := ?_) ?_ ?_
 rotate_left
 ·show Act.put _ (some 68) _ = _
  simp only [Act.put, List.setIfInBounds_toArray, List.set_cons_zero, List.set_cons_succ, i64_w, i32_w]
  rfl
 refine pure_ (i := 4) (N := some 69) (v := ?_) (a' := ?_) #[true, true, true, true, true] rfl rfl (by kernel_rfl) (fun _ _ _ h => h) (Or.inl ⟨by rfl, ?_⟩) ?_ ?_
 rotate_left
 ·intro w'
  go_simp
  with_reducible rfl
 rotate_left
 ·simp only [Act.put, List.setIfInBounds_toArray, List.set_cons_zero, List.set_cons_succ, i64_w, i32_w]
  rfl
 refine done_ (by kernel_rfl) ?_
 go_wp2
 refine start_ (n := 5) (S := fun w' => w'.heap[gm]? = some (.cells #[.slice Ay m1.length cy, .int .i64 m2] 37 (0, 0)) ∧ w'.heap[w.heap.size + 1]? = some (.cells #[.slice A1 l1.length c1, .int .i64 b] 33 (0, 0))) (ds := []) #[false, false, false, false, false] (by kernel_rfl) rfl rfl ⟨X1.out.mem, ARG.out.f1⟩ (fun hHeld => ?_)
 refine take_ (i := 0) (N := some 70) (v := ?_) (a' := ?_) #[true, false, false, false, false] rfl rfl (by kernel_rfl) (fun _ _ _ h => h) (Or.inl ⟨by rfl, ?_⟩) hHeld ?_ ?_
 rotate_left
 ·rintro w' ⟨s0, s1⟩
  have a0 := (blk_cell s0 0).trans rfl
  have a1 := (blk_cell s0 1).trans rfl
  clear s0 s1
  go_simp
  with_reducible rfl
 rotate_left
 ·simp only [Act.put, List.setIfInBounds_toArray, List.set_cons_zero, List.set_cons_succ, i64_w, i32_w]
  rfl
 refine take_ (i := 1) (N := some 71) (v := ?_) (a' := ?_) #[true, true, false, false, false] rfl rfl (by kernel_rfl) (fun _ _ _ h => h) (Or.inl ⟨by rfl, ?_⟩) hHeld ?_ ?_
 rotate_left
 ·rintro w' ⟨s0, s1⟩
  have a0 := (blk_cell s1 0).trans rfl
  have a1 := (blk_cell s1 1).trans rfl
  clear s0 s1
  go_simp
  with_reducible rfl
 rotate_left
 ·simp only [Act.put, List.setIfInBounds_toArray, List.set_cons_zero, List.set_cons_succ, i64_w, i32_w]
  rfl
 refine one_ (i := 2) (N := some 72) #[true, true, true, false, false] rfl rfl (by kernel_rfl) (by decide) (fun K hK => ?_)
 refine goes_ Try.func22 (by kernel_rfl) rfl #[.agg #[.slice A1 l1.length c1, .int .i64 b]] (by rfl) rfl rfl (by (try simp only [List.map_toArray, List.map_cons, List.map_nil]); first | done | rfl) ?_
 refine (laws_toMem.calls k A1 c1 l1 b m1 m2 W14.drew (Kd.C_below HR1.out (below_drew1 ARG.out.below)) HC1.out Hm.out).mono ?_
 rintro e W15 ⟨u, rfl, hS_, hb⟩
 refine ⟨_, rfl, ?_⟩
 have K_ : Kept W14 W15 (fun _ => False) := ⟨hb.size, fun i hi _ => hb.block i hi⟩
 have ARG_ := Aside0.mk (ARG.out.kept K_ (below_step (W := W14.drew) (below_drew1 ARG.out.below) hb) (fun _ _ h => h))
 have Ps_ := Aside0.mk (Ps.out.kept K_ (fun _ _ _ h => h))
 have X0_ := Aside0.mk (X0.out.kept K_ (fun _ _ _ h => h))
 have X1_ := Aside0.mk (X1.out.kept K_ (fun _ _ _ h => h))
 have Pg_ := Aside0.mk (Pg.out.kept K_ (fun _ _ _ h => h))
 clear ARG Ps X0 X1 Pg
 have ARG := ARG_
 clear ARG_
 have Ps := Ps_
 clear Ps_
 have X0 := X0_
 clear X0_
 have X1 := X1_
 clear X1_
 have Pg := Pg_
 clear Pg_
 clear K_ hb hHeld
 obtain ⟨Az, cz, rfl⟩ := Kd.R_slice hS_
 refine hK.out _ _ ⟨X1.out.mem, ARG.out.f1⟩ (fun hHeld => ?_)
 clear hK K
 refine norm_ (a' := ?_) ?_ ?_
 rotate_left
 ·show Act.put _ (some 72) _ = _
  simp only [Act.put, List.setIfInBounds_toArray, List.set_cons_zero, List.set_cons_succ, i64_w, i32_w]
  rfl
 refine one_ (i := 3) (N := some 73) #[true, true, true, true, false] rfl rfl (by kernel_rfl) (by decide) (fun K hK => ?_)
 refine goes_ Try.func25 (by kernel_rfl) rfl #[.agg #[.slice Ay m1.length cy, .int .i64 m2], .agg #[.slice Az m1.length cz, .int .i64 m2]] (by rfl) rfl rfl (by (try simp only [List.map_toArray, List.map_cons, List.map_nil]); first | done | rfl) ?_
 obtain ⟨_, hc1_, hC1_⟩ := Kd.R_reads' X1.out.row
 obtain ⟨_, hc2_, hC2_⟩ := Kd.R_reads' hS_
 refine (laws_eqMem.calls k Ay cy m1 m2 Az cz m1 m2 true _ hC1_ hc1_ hC2_ hc2_ He3.out).mono ?_
 rintro e W16 ⟨rfl, hb⟩
 refine ⟨_, rfl, ?_⟩
 clear hc1_ hC1_ hc2_ hC2_ hS_ hHeld
 have K_ := Kept.of_below hb (fun _ => False)
 have ARG_ := Aside0.mk (ARG.out.kept K_ (below_step ARG.out.below hb) (fun _ _ h => h))
 have Ps_ := Aside0.mk (Ps.out.kept K_ (fun _ _ _ h => h))
 have X0_ := Aside0.mk (X0.out.kept K_ (fun _ _ _ h => h))
 have X1_ := Aside0.mk (X1.out.kept K_ (fun _ _ _ h => h))
 have Pg_ := Aside0.mk (Pg.out.kept K_ (fun _ _ _ h => h))
 clear ARG Ps X0 X1 Pg
 have ARG := ARG_
 clear ARG_
 have Ps := Ps_
 clear Ps_
 have X0 := X0_
 clear X0_
 have X1 := X1_
 clear X1_
 have Pg := Pg_
 clear Pg_
 clear K_
 clear hb
 refine hK.out _ _ ⟨X1.out.mem, ARG.out.f1⟩ (fun hHeld => ?_)
 clear hK K hHeld
 refine norm_ (a' := ?_) ?_ ?_
 rotate_left
 ·show Act.put _ (some 73) _ = _
  simp only [Act.put, List.setIfInBounds_toArray, List.set_cons_zero, List.set_cons_succ, i64_w, i32_w]
  rfl
 refine pure_ (i := 4) (N := some 74) (v := ?_) (a' := ?_) #[true, true, true, true, true] rfl rfl (by kernel_rfl) (fun _ _ _ h => h) (Or.inl ⟨by rfl, ?_⟩) ?_ ?_
 rotate_left
 ·intro w'
  go_simp
  with_reducible rfl
 rotate_left
 ·simp only [Act.put, List.setIfInBounds_toArray, List.set_cons_zero, List.set_cons_succ, i64_w, i32_w]
  rfl
 refine done_ (by kernel_rfl) ?_
 have q0_ : W16.cell? ⟨gx, 0, none⟩ = some (.slice Ax mi.length cx) := (blk_cell X0.out.img 0).trans rfl
 go_wp2_with fail
 refine (laws_markImage.calls k _ (.slice Ax mi.length cx) mi 1 k1 n1 w W16 ARG.out.below X0.out.row Hk1.out).mono ?_
 rintro e W17 ⟨rfl, _, hb, hk⟩
 clear q0_
 have ARG_ := Aside0.mk (ARG.out.kept hk (hb) (fun k hk h => by omega))
 have Ps_ := Aside0.mk (Ps.out.kept hk (fun k h1 h2 h => by omega))
 have X1_ := Aside0.mk (X1.out.kept hk (fun k h1 h2 h => by omega))
 have Pg_ := Aside0.mk (Pg.out.kept hk (fun k h1 h2 h => by omega))
 clear ARG Ps X1 Pg
 have ARG := ARG_
 clear ARG_
 have Ps := Ps_
 clear Ps_
 have X1 := X1_
 clear X1_
 have Pg := Pg_
 clear Pg_
 clear X0 hk hb
 have q0_ : W17.cell? ⟨gm, 0, none⟩ = some (.slice Ay m1.length cy) := (blk_cell X1.out.mem 0).trans rfl
 have q1_ : W17.cell? ⟨gm, 1, none⟩ = some (.int .i64 m2) := (blk_cell X1.out.mem 1).trans rfl
 go_wp2_with fail
 refine (laws_markMem.calls k _ (.slice Ay m1.length cy) m1 m2 k1 ka na w W17 ARG.out.below X1.out.row Hka.out).mono ?_
 rintro e W18 ⟨rfl, _, hb, hk⟩
 clear q0_ q1_
 have ARG_ := Aside0.mk (ARG.out.kept hk (hb) (fun k hk h => by omega))
 have Ps_ := Aside0.mk (Ps.out.kept hk (fun k h1 h2 h => by omega))
 have Pg_ := Aside0.mk (Pg.out.kept hk (fun k h1 h2 h => by omega))
 clear ARG Ps Pg
 have ARG := ARG_
 clear ARG_
 have Ps := Ps_
 clear Ps_
 have Pg := Pg_
 clear Pg_
 clear X1 hk hb
 have ht1 := Ht1.out
 have q0_ : W18.cell? ⟨g1g, 0, none⟩ = some (.slice Ag r1.length cg) := (blk_cell Pg.out.mem 0).trans rfl
 have q1_ : W18.cell? ⟨g1g, 1, none⟩ = some (.int .i64 r2) := (blk_cell Pg.out.mem 1).trans rfl
 have q2_ : W18.cell? ⟨g1s, 0, none⟩ = some (.slice As r1.length cs) := (blk_cell Ps.out.mem 0).trans rfl
 have q3_ : W18.cell? ⟨g1s, 1, none⟩ = some (.int .i64 r2) := (blk_cell Ps.out.mem 1).trans rfl
 go_wp2_with fail
 obtain ⟨_, hc1_, hC1_⟩ := Kd.R_reads' Pg.out.row
 obtain ⟨_, hc2_, hC2_⟩ := Kd.R_reads' Ps.out.row
 refine (laws_eqMem.calls k Ag cg r1 r2 As cs r1 r2 true _ hC1_ hc1_ hC2_ hc2_ He1.out).mono ?_
 rintro e W19 ⟨rfl, hb⟩
 clear hc1_ hC1_ hc2_ hC2_
 clear q0_ q1_ q2_ q3_
 have K_ := Kept.of_below hb (fun _ => False)
 have ARG_ := Aside0.mk (ARG.out.kept K_ (below_step ARG.out.below hb) (fun _ _ h => h))
 have Ps_ := Aside0.mk (Ps.out.kept K_ (fun _ _ _ h => h))
 have Pg_ := Aside0.mk (Pg.out.kept K_ (fun _ _ _ h => h))
 clear ARG Ps Pg
 have ARG := ARG_
 clear ARG_
 have Ps := Ps_
 clear Ps_
 have Pg := Pg_
 clear Pg_
 clear K_
 clear hb
 have q0_ : W19.cell? ⟨g2g, 0, none⟩ = some (.int .i64 r3) := (blk_cell Pg.out.cpu 0).trans rfl
 have q1_ : W19.cell? ⟨g2g, 1, none⟩ = some (.int .i64 r4) := (blk_cell Pg.out.cpu 1).trans rfl
 have q2_ : W19.cell? ⟨g2g, 2, none⟩ = some (.int .i64 r5) := (blk_cell Pg.out.cpu 2).trans rfl
 have q3_ : W19.cell? ⟨g2g, 3, none⟩ = some (.int .i64 r6) := (blk_cell Pg.out.cpu 3).trans rfl
 have q4_ : W19.cell? ⟨g2g, 4, none⟩ = some (.bool r7) := (blk_cell Pg.out.cpu 4).trans rfl
 have q5_ : W19.cell? ⟨g2g, 5, none⟩ = some (.bool r8) := (blk_cell Pg.out.cpu 5).trans rfl
 have q6_ : W19.cell? ⟨g2g, 6, none⟩ = some (.bool r9) := (blk_cell Pg.out.cpu 6).trans rfl
 have q7_ : W19.cell? ⟨g2g, 7, none⟩ = some (.bool r10) := (blk_cell Pg.out.cpu 7).trans rfl
 have q8_ : W19.cell? ⟨g2s, 0, none⟩ = some (.int .i64 r3) := (blk_cell Ps.out.cpu 0).trans rfl
 have q9_ : W19.cell? ⟨g2s, 1, none⟩ = some (.int .i64 r4) := (blk_cell Ps.out.cpu 1).trans rfl
 have q10_ : W19.cell? ⟨g2s, 2, none⟩ = some (.int .i64 r5) := (blk_cell Ps.out.cpu 2).trans rfl
 have q11_ : W19.cell? ⟨g2s, 3, none⟩ = some (.int .i64 r6) := (blk_cell Ps.out.cpu 3).trans rfl
 have q12_ : W19.cell? ⟨g2s, 4, none⟩ = some (.bool r7) := (blk_cell Ps.out.cpu 4).trans rfl
 have q13_ : W19.cell? ⟨g2s, 5, none⟩ = some (.bool r8) := (blk_cell Ps.out.cpu 5).trans rfl
 have q14_ : W19.cell? ⟨g2s, 6, none⟩ = some (.bool r9) := (blk_cell Ps.out.cpu 6).trans rfl
 have q15_ : W19.cell? ⟨g2s, 7, none⟩ = some (.bool r10) := (blk_cell Ps.out.cpu 7).trans rfl
 go_wp2_with fail
 refine (laws_eqCpu.calls r3 r4 r5 r6 r7 r8 r9 r10 r3 r4 r5 r6 r7 r8 r9 r10 true _ He2.out).mono ?_
 rintro e W20 ⟨rfl, hb⟩
 clear q0_ q1_ q2_ q3_ q4_ q5_ q6_ q7_ q8_ q9_ q10_ q11_ q12_ q13_ q14_ q15_
 have K_ := Kept.of_below hb (fun _ => False)
 have ARG_ := Aside0.mk (ARG.out.kept K_ (below_step ARG.out.below hb) (fun _ _ h => h))
 have Ps_ := Aside0.mk (Ps.out.kept K_ (fun _ _ _ h => h))
 have Pg_ := Aside0.mk (Pg.out.kept K_ (fun _ _ _ h => h))
 clear ARG Ps Pg
 have ARG := ARG_
 clear ARG_
 have Ps := Ps_
 clear Ps_
 have Pg := Pg_
 clear Pg_
 clear K_
 clear hb
 have q0_ : W20.cell? ⟨g1g, 0, none⟩ = some (.slice Ag r1.length cg) := (blk_cell Pg.out.mem 0).trans rfl
 have q1_ : W20.cell? ⟨g1g, 1, none⟩ = some (.int .i64 r2) := (blk_cell Pg.out.mem 1).trans rfl
 go_wp2_with fail
 refine (laws_markMem.calls k _ (.slice Ag r1.length cg) r1 r2 1 kr nr w W20 ARG.out.below Pg.out.row Hkr.out).mono ?_
 rintro e W21 ⟨rfl, hR, hb, hk⟩
 clear q0_ q1_
 have hl : r1.length = nr.length := (Kd.R_reads' hR).1
 have Og : Aside0 (OwnW w W21 g1g Ag cg nr r2) := ⟨⟨by rw [← hl]; exact blk_kept Pg.out.mem hk (fun h => h.2.2.1 rfl), _, by rw [← hl]; exact hR⟩⟩
 have ARG_ := Aside0.mk (ARG.out.kept hk (hb) (fun k hk h => by omega))
 have Ps_ := Aside0.mk (Ps.out.kept hk (fun k h1 h2 h => by omega))
 clear ARG Ps
 have ARG := ARG_
 clear ARG_
 have Ps := Ps_
 clear Ps_
 clear Pg hk hb hR hl
 have q0_ : W21.cell? ⟨g1g, 0, none⟩ = some (.slice Ag nr.length cg) := (blk_cell Og.out.mem 0).trans rfl
 have q1_ : W21.cell? ⟨g1g, 1, none⟩ = some (.int .i64 r2) := (blk_cell Og.out.mem 1).trans rfl
 have ht2 := Ht2.out
 have hkk : (kr != kr) = false := by simp
 go_wp2_with fail
 refine (laws_heldMem.calls k Ag cg nr r2 1 kr _ Og.out.reads.2 Og.out.reads.1 Hh.out).mono ?_
 rintro e W22 ⟨rfl, hb⟩
 clear q0_ q1_
 have K_ := Kept.of_below hb (fun _ => False)
 have ARG_ := Aside0.mk (ARG.out.kept K_ (below_step ARG.out.below hb) (fun _ _ h => h))
 have Ps_ := Aside0.mk (Ps.out.kept K_ (fun _ _ _ h => h))
 have Og_ := Aside0.mk (Og.out.kept K_ (fun _ _ _ h => h))
 clear ARG Ps Og
 have ARG := ARG_
 clear ARG_
 have Ps := Ps_
 clear Ps_
 have Og := Og_
 clear Og_
 clear K_
 clear hb
 go_wp2
 clear ht2 hkk
 refine free_ (n := 15) (e := 13) (g := 10) (T := (true, [([], []), ([0], [0]), ([], []), ([2, 1], [2]), ([], []), ([4, 3], [4]), ([], []), ([1, 3, 5, 6, 5], [1, 3, 5, 6]), ([7], [7]), ([8], [8]), ([8], [8]), ([], []), ([], []), ([11, 9, 7, 0, 1, 2, 3, 4, 5, 6, 7, 8, 9, 11, 12], [9, 11]), ([12, 10, 13, 0, 1, 2, 3, 4, 5, 6, 7, 8, 9, 10, 11, 12, 13], [10, 12])])) #[true, true, true, true, true, true, true, true, true, true, true, true, true, false, false] #[true, true, true, true, true, true, true, true, true, true, false, true, true, false, false] [107, 108, 109, 110, 111, 112, 113, 114, 106, 115, 116, 19, 20] (fun j u w' => match j with
  | 0 => u = .agg #[.slice A0 l0.length c0]
  | 1 => isImg W22.heap.size mi u w'
  | 2 => u = .agg #[.slice A1 l1.length c1, .int .i64 b]
  | 3 => isMem W22.heap.size m1 m2 u w'
  | 4 => u = .agg #[.int .i64 x0, .int .i64 x1, .int .i64 x2, .int .i64 x3, .bool x4, .bool x5, .bool x6, .bool x7]
  | 5 => u = .agg #[.int .i64 y0, .int .i64 y1, .int .i64 y2, .int .i64 y3, .bool y4, .bool y5, .bool y6, .bool y7]
  | 6 => u = .int .i64 v3
  | 7 => isPair W22.heap.size r1 r2 (.agg #[.int .i64 r3, .int .i64 r4, .int .i64 r5, .int .i64 r6, .bool r7, .bool r8, .bool r9, .bool r10]) u w'
  | 8 => isPair W22.heap.size r1 r2 (.agg #[.int .i64 r3, .int .i64 r4, .int .i64 r5, .int .i64 r6, .bool r7, .bool r8, .bool r9, .bool r10]) u w'
  | 9 => isMem W22.heap.size r1 r2 u w'
  | 10 => u = .agg #[.int .i64 r3, .int .i64 r4, .int .i64 r5, .int .i64 r6, .bool r7, .bool r8, .bool r9, .bool r10]
  | 11 => isNew W22.heap.size 37 #[.slice none 0 0, .int .i64 0] u w'
  | 12 => isNew W22.heap.size 38 #[.int .i64 0, .int .i64 0, .int .i64 0, .int .i64 0, .bool false, .bool false, .bool false, .bool false] u w'
  | _ => False)
  (by kernel_rfl) rfl (by kernel_rfl) (by kernel_rfl) (by kernel_rfl) (any_of (T := (true, [([], []), ([0], [0]), ([], []), ([2, 1], [2]), ([], []), ([4, 3], [4]), ([], []), ([1, 3, 5, 6, 5], [1, 3, 5, 6]), ([7], [7]), ([8], [8]), ([8], [8]), ([], []), ([], []), ([11, 9, 7, 0, 1, 2, 3, 4, 5, 6, 7, 8, 9, 11, 12], [9, 11]), ([12, 10, 13, 0, 1, 2, 3, 4, 5, 6, 7, 8, 9, 10, 11, 12, 13], [10, 12])])) (by kernel_rfl) (by kernel_rfl)) (fun _ _ _ _ h => h) ?stableh ?steph ?lagh ?lasth
 case stableh =>
  intro j u W W' h hb
  rcases j with _ | _ | _ | _ | _ | _ | _ | _ | _ | _ | _ | _ | _ | j
  ·exact h
  ·exact isImg_below h hb
  ·exact h
  ·exact isMem_below h hb
  ·exact h
  ·exact h
  ·exact h
  ·exact isPair_below h hb
  ·exact isPair_below h hb
  ·exact isMem_below h hb
  ·exact h
  ·exact isNew_below h hb
  ·exact isNew_below h hb
  ·exact h
 case steph =>
  intro i hi o ho a W hB hout hneed K hK
  have HBW := Aside0.mk hB
  have hcase : i = 0 ∨ i = 1 ∨ i = 2 ∨ i = 3 ∨ i = 4 ∨ i = 5 ∨ i = 6 ∨ i = 7 ∨ i = 8 ∨ i = 9 ∨ i = 10 ∨ i = 11 ∨ i = 12 := by omega
  clear hB
  rcases hcase with rfl | rfl | rfl | rfl | rfl | rfl | rfl | rfl | rfl | rfl | rfl | rfl | rfl
  ·obtain rfl := Option.some.inj ho
   have h3 : a.eval (.tmp 4) = .pointer (some ⟨w.heap.size, 0, none⟩) := hout 4 (by decide)
   have h3' := eval_get h3
   have hb := blk_below (w := W22.drew) ARG.out.f0 HBW.out
   have d0 := (blk_cell hb 0).trans rfl
   refine value_ (v := .agg #[.slice A0 l0.length c0]) (w1 := W) (by rfl) rfl ?_ (hK.out _ _ (Below.refl _ _) rfl)
   go_simp
  ·obtain rfl := Option.some.inj ho
   have e0 : a.eval (.tmp 107) = _ := hneed 0 (by decide)
   refine goes_ Try.func17 (by kernel_rfl) rfl #[.agg #[.slice A0 l0.length c0]] (by rfl) rfl rfl (by simp only [List.map_toArray, List.map_cons, List.map_nil, e0]) ?_
   refine (laws_toImage.calls k A0 c0 l0 mi W (Kd.C_below HR0.out (below_step (w := w) (W := W22.drew) (below_drew1 ARG.out.below) HBW.out)) HC0.out Hmi.out).mono ?_
   rintro e w' ⟨u, rfl, hR, hb⟩
   exact ⟨_, rfl, hK.out _ _ hb ⟨u, rfl, Kd.S_lower hR HBW.out.size⟩⟩
  ·obtain rfl := Option.some.inj ho
   have h3 : a.eval (.tmp 5) = .pointer (some ⟨w.heap.size + 1, 0, none⟩) := hout 5 (by decide)
   have h3' := eval_get h3
   have hb := blk_below (w := W22.drew) ARG.out.f1 HBW.out
   have d0 := (blk_cell hb 0).trans rfl
   have d1 := (blk_cell hb 1).trans rfl
   refine value_ (v := .agg #[.slice A1 l1.length c1, .int .i64 b]) (w1 := W) (by rfl) rfl ?_ (hK.out _ _ (Below.refl _ _) rfl)
   go_simp
  ·obtain rfl := Option.some.inj ho
   have e0 : a.eval (.tmp 109) = _ := hneed 2 (by decide)
   refine goes_ Try.func22 (by kernel_rfl) rfl #[.agg #[.slice A1 l1.length c1, .int .i64 b]] (by rfl) rfl rfl (by simp only [List.map_toArray, List.map_cons, List.map_nil, e0]) ?_
   refine (laws_toMem.calls k A1 c1 l1 b m1 m2 W (Kd.C_below HR1.out (below_step (w := w) (W := W22.drew) (below_drew1 ARG.out.below) HBW.out)) HC1.out Hm.out).mono ?_
   rintro e w' ⟨u, rfl, hR, hb⟩
   exact ⟨_, rfl, hK.out _ _ hb ⟨u, rfl, Kd.R_lower hR HBW.out.size⟩⟩
  ·obtain rfl := Option.some.inj ho
   have h3 : a.eval (.tmp 6) = .pointer (some ⟨w.heap.size + 2, 0, none⟩) := hout 6 (by decide)
   have h3' := eval_get h3
   have hb := blk_below (w := W22.drew) ARG.out.f2 HBW.out
   have d0 := (blk_cell hb 0).trans rfl
   have d1 := (blk_cell hb 1).trans rfl
   have d2 := (blk_cell hb 2).trans rfl
   have d3 := (blk_cell hb 3).trans rfl
   have d4 := (blk_cell hb 4).trans rfl
   have d5 := (blk_cell hb 5).trans rfl
   have d6 := (blk_cell hb 6).trans rfl
   have d7 := (blk_cell hb 7).trans rfl
   refine value_ (v := .agg #[.int .i64 x0, .int .i64 x1, .int .i64 x2, .int .i64 x3, .bool x4, .bool x5, .bool x6, .bool x7]) (w1 := W) (by rfl) rfl ?_ (hK.out _ _ (Below.refl _ _) rfl)
   go_simp
  ·obtain rfl := Option.some.inj ho
   have e0 : a.eval (.tmp 111) = _ := hneed 4 (by decide)
   refine goes_ Try.func23 (by kernel_rfl) rfl #[.agg #[.int .i64 x0, .int .i64 x1, .int .i64 x2, .int .i64 x3, .bool x4, .bool x5, .bool x6, .bool x7]] (by rfl) rfl rfl (by simp only [List.map_toArray, List.map_cons, List.map_nil, e0]) ?_
   refine (laws_toCpu.calls x0 x1 x2 x3 x4 x5 x6 x7 y0 y1 y2 y3 y4 y5 y6 y7 W Hcp.out).mono ?_
   rintro e w' ⟨rfl, hb⟩
   exact ⟨_, rfl, hK.out _ _ hb rfl⟩
  ·obtain rfl := Option.some.inj ho
   have h3 : a.eval (.tmp 3) = .int .i64 v3 := hout 3 (by decide)
   have h3' := eval_get h3
   refine value_ (v := .int .i64 v3) (w1 := W) (by rfl) rfl ?_ (hK.out _ _ (Below.refl _ _) rfl)
   go_simp
  ·obtain rfl := Option.some.inj ho
   obtain ⟨ui, ei, hRi⟩ : isImg _ _ (a.eval (.tmp 108)) W := hneed 1 (by decide)
   obtain ⟨Ai, ci, rfl⟩ := Kd.S_slice hRi
   obtain ⟨_, hci, hCi⟩ := Kd.S_reads' hRi
   obtain ⟨um, em, hRm⟩ : isMem _ _ _ (a.eval (.tmp 110)) W := hneed 3 (by decide)
   obtain ⟨Am, cm, rfl⟩ := Kd.R_slice hRm
   obtain ⟨_, hcm, hCm⟩ := Kd.R_reads' hRm
   have eo5 : a.eval (.tmp 112) = _ := hneed 5 (by decide)
   have eo6 : a.eval (.tmp 113) = _ := hneed 6 (by decide)
   refine goes_ Try.func56 (by kernel_rfl) rfl #[.agg #[.slice Ai mi.length ci], .agg #[.slice Am m1.length cm, .int .i64 m2], .agg #[.int .i64 y0, .int .i64 y1, .int .i64 y2, .int .i64 y3, .bool y4, .bool y5, .bool y6, .bool y7], .int .i64 v3] (by rfl) rfl rfl (by simp only [List.map_toArray, List.map_cons, List.map_nil, ei, em, eo5, eo6]) ?_
   refine (impl_Enter.calls k Ai ci mi Am cm m1 m2 y0 y1 y2 y3 y4 y5 y6 y7 v3 r1 r2 r3 r4 r5 r6 r7 r8 r9 r10 W hCi hci hCm hcm Hi.out).mono ?_
   rintro e w' ⟨u, rfl, hR, hb⟩
   exact ⟨_, rfl, hK.out _ _ hb ⟨u, rfl, Kd.R_lower hR HBW.out.size⟩⟩
  ·obtain rfl := Option.some.inj ho
   have e5 : isPair _ _ _ _ (a.eval (.tmp 114)) W := hneed 7 (by decide)
   refine value_ (v := a.eval (.tmp 114)) (w1 := W) (by rfl) rfl rfl (hK.out _ _ (Below.refl _ _) e5)
  ·obtain rfl := Option.some.inj ho
   obtain ⟨u, e6, hR⟩ : isPair _ _ _ _ (a.eval (.tmp 106)) W := hneed 8 (by decide)
   refine value_ (v := .agg #[u, .int .i64 r2]) (w1 := W) (by rfl) rfl ?_ (hK.out _ _ (Below.refl _ _) ⟨u, rfl, hR⟩)
   have e6' := eval_get e6
   go_simp
  ·obtain rfl := Option.some.inj ho
   obtain ⟨u, e6, hR⟩ : isPair _ _ _ _ (a.eval (.tmp 106)) W := hneed 8 (by decide)
   refine value_ (v := .agg #[.int .i64 r3, .int .i64 r4, .int .i64 r5, .int .i64 r6, .bool r7, .bool r8, .bool r9, .bool r10]) (w1 := W) (by rfl) rfl ?_ (hK.out _ _ (Below.refl _ _) rfl)
   have e6' := eval_get e6
   go_simp
  ·obtain rfl := Option.some.inj ho
   refine value_ (v := .pointer (some ⟨W.heap.size, 0, none⟩)) (w1 := W.alloc (.cells #[.slice none 0 0, .int .i64 0] 37)) (by rfl) rfl ?_ (hK.out _ _ (below_alloc (Below.refl _ _) _) ⟨_, rfl, HBW.out.size, alloc_at _ _ _ rfl⟩)
   go_simp
  ·obtain rfl := Option.some.inj ho
   refine value_ (v := .pointer (some ⟨W.heap.size, 0, none⟩)) (w1 := W.alloc (.cells #[.int .i64 0, .int .i64 0, .int .i64 0, .int .i64 0, .bool false, .bool false, .bool false, .bool false] 38)) (by rfl) rfl ?_ (hK.out _ _ (below_alloc (Below.refl _ _) _) ⟨_, rfl, HBW.out.size, alloc_at _ _ _ rfl⟩)
   go_simp
 case lagh =>
  intro o ho a W hout hneed
  obtain rfl := Option.some.inj ho
  obtain ⟨u, e6, hR⟩ : isPair _ _ _ _ (a.eval (.tmp 106)) W := hneed 8 (by decide)
  refine ⟨.agg #[.int .i64 r3, .int .i64 r4, .int .i64 r5, .int .i64 r6, .bool r7, .bool r8, .bool r9, .bool r10], rfl, Or.inl ⟨by rfl, ?_⟩⟩
  intro w'
  have e6' := eval_get e6
  go_simp
 intro f vs W23 hB hE
 have HBW := Aside0.mk hB
 clear hB
 have q0 : vs 0 = _ := hE 0 (by decide)
 obtain ⟨u1h, q1, hR1⟩ : isImg _ _ (vs 1) W23 := hE 1 (by decide)
 have q2 : vs 2 = _ := hE 2 (by decide)
 obtain ⟨u3h, q3, hR3⟩ : isMem _ _ _ (vs 3) W23 := hE 3 (by decide)
 have q4 : vs 4 = _ := hE 4 (by decide)
 have q5 : vs 5 = _ := hE 5 (by decide)
 have q6 : vs 6 = _ := hE 6 (by decide)
 obtain ⟨u7h, q7, _⟩ : isPair _ _ _ _ (vs 7) W23 := hE 7 (by decide)
 obtain ⟨u8h, q8, _⟩ : isPair _ _ _ _ (vs 8) W23 := hE 8 (by decide)
 obtain ⟨u9h, q9, hR9⟩ : isMem _ _ _ (vs 9) W23 := hE 9 (by decide)
 have q10 : vs 10 = _ := hE 10 (by decide)
 obtain ⟨g1h, q11, hg1, hb1⟩ : isNew _ _ _ (vs 11) W23 := hE 11 (by decide)
 obtain ⟨g2h, q12, hg2, hb2⟩ : isNew _ _ _ (vs 12) W23 := hE 12 (by decide)
 show wpAnyLast _ _ _ _ _ _ (f + 2) _ (putAll _ [(107, vs 0), (108, vs 1), (109, vs 2), (110, vs 3), (111, vs 4), (112, vs 5), (113, vs 6), (114, vs 7), (106, vs 8), (115, vs 9), (116, vs 10), (19, vs 11), (20, vs 12)]) W23
 rw [q0, q1, q2, q3, q4, q5, q6, q7, q8, q9, q10, q11, q12]
 clear q0 q1 q2 q3 q4 q5 q6 q7 q8 q9 q10 q11 q12 hE
 refine norm_ (a' := ?_) ?_ ?_
 rotate_left
 ·simp only [putAll, Act.put, List.setIfInBounds_toArray, List.set_cons_zero, List.set_cons_succ]
  rfl
 obtain ⟨Ah, ch, rfl⟩ := Kd.R_slice hR9
 have hgg : g1h ≠ g2h := blk_ne hb1 hb2 (by decide)
 have hgg' : g2h ≠ g1h := fun h => hgg h.symm
 refine one_ (i := 13) (N := none) #[true, true, true, true, true, true, true, true, true, true, true, true, true, true, false] rfl rfl (by kernel_rfl) (by decide) (fun K hK => ?_)
 refine skip_ (w1 := ?_) (by rfl) rfl ?_ ?_
 rotate_left
 ·skip
  have r0 : W23.cell? ⟨g1h, 0, none⟩ = some (.slice none 0 0) := (blk_cell hb1 0).trans rfl
  have f0 := blk_frozen hb1 0
  have r1 : W23.cell? ⟨g1h, 1, none⟩ = some (.int .i64 0) := (blk_cell hb1 1).trans rfl
  have f1 := blk_frozen hb1 1
  go_simp
  rfl
 refine hK.out _ _ trivial (fun _ => ?_)
 clear hK K
 refine one_ (i := 14) (N := none) #[true, true, true, true, true, true, true, true, true, true, true, true, true, true, true] rfl rfl (by kernel_rfl) (by decide) (fun K hK => ?_)
 refine skip_ (w1 := ?_) (by rfl) rfl ?_ ?_
 rotate_left
 ·skip
  have r0 : W23.cell? ⟨g2h, 0, none⟩ = some (.int .i64 0) := (blk_cell hb2 0).trans rfl
  have f0 := blk_frozen hb2 0
  have r1 : W23.cell? ⟨g2h, 1, none⟩ = some (.int .i64 0) := (blk_cell hb2 1).trans rfl
  have f1 := blk_frozen hb2 1
  have r2 : W23.cell? ⟨g2h, 2, none⟩ = some (.int .i64 0) := (blk_cell hb2 2).trans rfl
  have f2 := blk_frozen hb2 2
  have r3 : W23.cell? ⟨g2h, 3, none⟩ = some (.int .i64 0) := (blk_cell hb2 3).trans rfl
  have f3 := blk_frozen hb2 3
  have r4 : W23.cell? ⟨g2h, 4, none⟩ = some (.bool false) := (blk_cell hb2 4).trans rfl
  have f4 := blk_frozen hb2 4
  have r5 : W23.cell? ⟨g2h, 5, none⟩ = some (.bool false) := (blk_cell hb2 5).trans rfl
  have f5 := blk_frozen hb2 5
  have r6 : W23.cell? ⟨g2h, 6, none⟩ = some (.bool false) := (blk_cell hb2 6).trans rfl
  have f6 := blk_frozen hb2 6
  have r7 : W23.cell? ⟨g2h, 7, none⟩ = some (.bool false) := (blk_cell hb2 7).trans rfl
  have f7 := blk_frozen hb2 7
  go_simp
  rfl
 refine hK.out _ _ trivial (fun _ => ?_)
 clear hK K
 refine done_ (by kernel_rfl) ?_
 obtain ⟨A_, c_, e_, P, Kp, B⟩ := pair_made ARG.out.below HBW.out hR9 hb1 hb2 hg1 hg2 r2 (.int .i64 r3) (.int .i64 r4) (.int .i64 r5) (.int .i64 r6) (.bool r7) (.bool r8) (.bool r9) (.bool r10)
 cases e_
 have hz_W24 : W22.heap.size ≤ _ := Kp.1
 have ARG_ := Aside0.mk (ARG.out.kept Kp (B) (fun _ _ h => h))
 have Ps_ := Aside0.mk (Ps.out.kept Kp (fun _ _ _ h => h))
 have Og_ := Aside0.mk (Og.out.kept Kp (fun _ _ _ h => h))
 clear ARG Ps Og
 have ARG := ARG_
 clear ARG_
 have Ps := Ps_
 clear Ps_
 have Og := Og_
 clear Og_
 have Ph := Aside0.mk P
 clear P Kp B hR9 hb1 hg1 HBW hb2 hg2 hgg hgg'
 generalize hW_ : ((((((((((W23.setCell ⟨g1h, 0, none⟩ (.slice Ah r1.length ch)).setCell ⟨g1h, 1, none⟩ (.int .i64 r2)).setCell ⟨g2h, 0, none⟩ (.int .i64 r3)).setCell ⟨g2h, 1, none⟩ (.int .i64 r4)).setCell ⟨g2h, 2, none⟩ (.int .i64 r5)).setCell ⟨g2h, 3, none⟩ (.int .i64 r6)).setCell ⟨g2h, 4, none⟩ (.bool r7)).setCell ⟨g2h, 5, none⟩ (.bool r8)).setCell ⟨g2h, 6, none⟩ (.bool r9)).setCell ⟨g2h, 7, none⟩ (.bool r10)) = W24 at *
 clear hW_
 have q0_ : W24.cell? ⟨g1h, 0, none⟩ = some (.slice Ah r1.length ch) := (blk_cell Ph.out.mem 0).trans rfl
 have q1_ : W24.cell? ⟨g1h, 1, none⟩ = some (.int .i64 r2) := (blk_cell Ph.out.mem 1).trans rfl
 have q2_ : W24.cell? ⟨g1s, 0, none⟩ = some (.slice As r1.length cs) := (blk_cell Ps.out.mem 0).trans rfl
 have q3_ : W24.cell? ⟨g1s, 1, none⟩ = some (.int .i64 r2) := (blk_cell Ps.out.mem 1).trans rfl
 go_wp2_with fail
 obtain ⟨_, hc1_, hC1_⟩ := Kd.R_reads' Ph.out.row
 obtain ⟨_, hc2_, hC2_⟩ := Kd.R_reads' Ps.out.row
 refine (laws_eqMem.calls k Ah ch r1 r2 As cs r1 r2 true _ hC1_ hc1_ hC2_ hc2_ He1.out).mono ?_
 rintro e W25 ⟨rfl, hb⟩
 clear hc1_ hC1_ hc2_ hC2_
 clear q0_ q1_ q2_ q3_
 have K_ := Kept.of_below hb (fun _ => False)
 have ARG_ := Aside0.mk (ARG.out.kept K_ (below_step ARG.out.below hb) (fun _ _ h => h))
 have Ps_ := Aside0.mk (Ps.out.kept K_ (fun _ _ _ h => h))
 have Og_ := Aside0.mk (Og.out.kept K_ (fun _ _ _ h => h))
 have Ph_ := Aside0.mk (Ph.out.kept K_ (fun _ _ _ h => h))
 clear ARG Ps Og Ph
 have ARG := ARG_
 clear ARG_
 have Ps := Ps_
 clear Ps_
 have Og := Og_
 clear Og_
 have Ph := Ph_
 clear Ph_
 clear K_
 clear hb
 have q0_ : W25.cell? ⟨g2h, 0, none⟩ = some (.int .i64 r3) := (blk_cell Ph.out.cpu 0).trans rfl
 have q1_ : W25.cell? ⟨g2h, 1, none⟩ = some (.int .i64 r4) := (blk_cell Ph.out.cpu 1).trans rfl
 have q2_ : W25.cell? ⟨g2h, 2, none⟩ = some (.int .i64 r5) := (blk_cell Ph.out.cpu 2).trans rfl
 have q3_ : W25.cell? ⟨g2h, 3, none⟩ = some (.int .i64 r6) := (blk_cell Ph.out.cpu 3).trans rfl
 have q4_ : W25.cell? ⟨g2h, 4, none⟩ = some (.bool r7) := (blk_cell Ph.out.cpu 4).trans rfl
 have q5_ : W25.cell? ⟨g2h, 5, none⟩ = some (.bool r8) := (blk_cell Ph.out.cpu 5).trans rfl
 have q6_ : W25.cell? ⟨g2h, 6, none⟩ = some (.bool r9) := (blk_cell Ph.out.cpu 6).trans rfl
 have q7_ : W25.cell? ⟨g2h, 7, none⟩ = some (.bool r10) := (blk_cell Ph.out.cpu 7).trans rfl
 have q8_ : W25.cell? ⟨g2s, 0, none⟩ = some (.int .i64 r3) := (blk_cell Ps.out.cpu 0).trans rfl
 have q9_ : W25.cell? ⟨g2s, 1, none⟩ = some (.int .i64 r4) := (blk_cell Ps.out.cpu 1).trans rfl
 have q10_ : W25.cell? ⟨g2s, 2, none⟩ = some (.int .i64 r5) := (blk_cell Ps.out.cpu 2).trans rfl
 have q11_ : W25.cell? ⟨g2s, 3, none⟩ = some (.int .i64 r6) := (blk_cell Ps.out.cpu 3).trans rfl
 have q12_ : W25.cell? ⟨g2s, 4, none⟩ = some (.bool r7) := (blk_cell Ps.out.cpu 4).trans rfl
 have q13_ : W25.cell? ⟨g2s, 5, none⟩ = some (.bool r8) := (blk_cell Ps.out.cpu 5).trans rfl
 have q14_ : W25.cell? ⟨g2s, 6, none⟩ = some (.bool r9) := (blk_cell Ps.out.cpu 6).trans rfl
 have q15_ : W25.cell? ⟨g2s, 7, none⟩ = some (.bool r10) := (blk_cell Ps.out.cpu 7).trans rfl
 go_wp2_with fail
 refine (laws_eqCpu.calls r3 r4 r5 r6 r7 r8 r9 r10 r3 r4 r5 r6 r7 r8 r9 r10 true _ He2.out).mono ?_
 rintro e W26 ⟨rfl, hb⟩
 clear q0_ q1_ q2_ q3_ q4_ q5_ q6_ q7_ q8_ q9_ q10_ q11_ q12_ q13_ q14_ q15_
 have K_ := Kept.of_below hb (fun _ => False)
 have ARG_ := Aside0.mk (ARG.out.kept K_ (below_step ARG.out.below hb) (fun _ _ h => h))
 have Ps_ := Aside0.mk (Ps.out.kept K_ (fun _ _ _ h => h))
 have Og_ := Aside0.mk (Og.out.kept K_ (fun _ _ _ h => h))
 have Ph_ := Aside0.mk (Ph.out.kept K_ (fun _ _ _ h => h))
 clear ARG Ps Og Ph
 have ARG := ARG_
 clear ARG_
 have Ps := Ps_
 clear Ps_
 have Og := Og_
 clear Og_
 have Ph := Ph_
 clear Ph_
 clear K_
 clear hb
 have q0_ : W26.cell? ⟨g1g, 0, none⟩ = some (.slice Ag nr.length cg) := (blk_cell Og.out.mem 0).trans rfl
 have q1_ : W26.cell? ⟨g1g, 1, none⟩ = some (.int .i64 r2) := (blk_cell Og.out.mem 1).trans rfl
 have ht2 := Ht2.out
 have hkk : (kr != kr) = false := by simp
 go_wp2_with fail
 refine (laws_heldMem.calls k Ag cg nr r2 1 kr _ Og.out.reads.2 Og.out.reads.1 Hh.out).mono ?_
 rintro e W27 ⟨rfl, hb⟩
 clear q0_ q1_
 have K_ := Kept.of_below hb (fun _ => False)
 have ARG_ := Aside0.mk (ARG.out.kept K_ (below_step ARG.out.below hb) (fun _ _ h => h))
 have Ps_ := Aside0.mk (Ps.out.kept K_ (fun _ _ _ h => h))
 have Og_ := Aside0.mk (Og.out.kept K_ (fun _ _ _ h => h))
 have Ph_ := Aside0.mk (Ph.out.kept K_ (fun _ _ _ h => h))
 clear ARG Ps Og Ph
 have ARG := ARG_
 clear ARG_
 have Ps := Ps_
 clear Ps_
 have Og := Og_
 clear Og_
 have Ph := Ph_
 clear Ph_
 clear K_
 clear hb
 go_wp2
 clear ht2 hkk
 go_ret
 exact ⟨rfl, ARG.out.below⟩
set_option maxRecDepth 100000 in
set_option maxHeartbeats 4000000 in
theorem lawEnter_big1 (k : Nat) (A0 : Option Addr) (c0 : Nat) (l0 : List (List Int)) (A1 : Option Addr) (c1 : Nat) (l1 : List Int) (b : Int) (x0 x1 x2 x3 : Int) (x4 x5 x6 x7 : Bool) (v3 : Int) (w : World) (hr0 : Kd.C (Kd.slice 3 (Kd.int .i64)) w A0 l0.length l0) (hc0 : l0.length ≤ c0) (hr1 : Kd.C (Kd.int .i64) w A1 l1.length l1) (hc1 : l1.length ≤ c1)
  (t : Int) (hsz : laws_szImage.f k l0 1048576 = some t) (ht : t < 0) :
  Calls Try.prog 13 #[.agg #[.slice A0 l0.length c0], .agg #[.slice A1 l1.length c1, .int .i64 b], .agg #[.int .i64 x0, .int .i64 x1, .int .i64 x2, .int .i64 x3, .bool x4, .bool x5, .bool x6, .bool x7], .int .i64 v3] w fun e w' => e = .returned (.bool true) ∧ Below w.heap.size w w' := by
 have hl_image := Try.underlying24
 have hi_image := Try.underlying27
 have hl_mem := Try.underlying33
 have hi_mem := Try.underlying37
 have hl_cpu := Try.underlying35
 have hi_cpu := Try.underlying38
 have HR0 := Aside0.mk hr0
 have HC0 := Aside0.mk hc0
 have HR1 := Aside0.mk hr1
 have HC1 := Aside0.mk hc1
 have Hsz := Aside0.mk hsz
 have ht0 : decide (t < 0) = true := decide_eq_true ht
 clear hr0 hc0 hr1 hc1 hsz ht
 go_enter Try.func13, Try.ntmps13
 go_wp2_with fail
 refine (laws_szImage.calls k A0 c0 l0 1048576 t _ ?hr HC0.out Hsz.out).mono ?_
 case hr => repeat (first | exact HR0.out | (with_reducible refine Kd.C_alloc ?_ _))
 rintro e W1 ⟨rfl, hB⟩
 have ARG : Aside0 (ArgZ w W1 #[.slice A0 l0.length c0] #[.slice A1 l1.length c1, .int .i64 b] #[.int .i64 x0, .int .i64 x1, .int .i64 x2, .int .i64 x3, .bool x4, .bool x5, .bool x6, .bool x7]) := ⟨⟨below_step (by repeat (first | exact Below.refl _ _ | apply below_alloc)) hB, blk_below (by repeat (first | exact alloc_at _ _ _ (by simp only [alloc_size]) | refine blk_alloc ?_ _)) hB, blk_below (by repeat (first | exact alloc_at _ _ _ (by simp only [alloc_size]) | refine blk_alloc ?_ _)) hB, blk_below (by repeat (first | exact alloc_at _ _ _ (by simp only [alloc_size]) | refine blk_alloc ?_ _)) hB⟩⟩
 clear hB
 go_wp2
 go_ret
 exact ⟨rfl, ARG.out.below⟩
set_option maxRecDepth 100000 in
set_option maxHeartbeats 4000000 in
theorem lawEnter_big2 (k : Nat) (A0 : Option Addr) (c0 : Nat) (l0 : List (List Int)) (A1 : Option Addr) (c1 : Nat) (l1 : List Int) (b : Int) (x0 x1 x2 x3 : Int) (x4 x5 x6 x7 : Bool) (v3 : Int) (w : World) (hr0 : Kd.C (Kd.slice 3 (Kd.int .i64)) w A0 l0.length l0) (hc0 : l0.length ≤ c0) (hr1 : Kd.C (Kd.int .i64) w A1 l1.length l1) (hc1 : l1.length ≤ c1)
  (t : Int) (hsz : laws_szImage.f k l0 1048576 = some t) (t2 : Int) (hsz2 : laws_szMem.f l1 b t = some t2) (ht : ¬ t < 0) (ht2 : t2 < 0) :
  Calls Try.prog 13 #[.agg #[.slice A0 l0.length c0], .agg #[.slice A1 l1.length c1, .int .i64 b], .agg #[.int .i64 x0, .int .i64 x1, .int .i64 x2, .int .i64 x3, .bool x4, .bool x5, .bool x6, .bool x7], .int .i64 v3] w fun e w' => e = .returned (.bool true) ∧ Below w.heap.size w w' := by
 have hl_image := Try.underlying24
 have hi_image := Try.underlying27
 have hl_mem := Try.underlying33
 have hi_mem := Try.underlying37
 have hl_cpu := Try.underlying35
 have hi_cpu := Try.underlying38
 have HR0 := Aside0.mk hr0
 have HC0 := Aside0.mk hc0
 have HR1 := Aside0.mk hr1
 have HC1 := Aside0.mk hc1
 have Hsz := Aside0.mk hsz
 have ht0 : decide (t < 0) = false := decide_eq_false ht
 have Hsz2 := Aside0.mk hsz2
 have ht20 : decide (t2 < 0) = true := decide_eq_true ht2
 clear hr0 hc0 hr1 hc1 hsz ht hsz2 ht2
 go_enter Try.func13, Try.ntmps13
 go_wp2_with fail
 refine (laws_szImage.calls k A0 c0 l0 1048576 t _ ?hr HC0.out Hsz.out).mono ?_
 case hr => repeat (first | exact HR0.out | (with_reducible refine Kd.C_alloc ?_ _))
 rintro e W1 ⟨rfl, hB⟩
 have ARG : Aside0 (ArgZ w W1 #[.slice A0 l0.length c0] #[.slice A1 l1.length c1, .int .i64 b] #[.int .i64 x0, .int .i64 x1, .int .i64 x2, .int .i64 x3, .bool x4, .bool x5, .bool x6, .bool x7]) := ⟨⟨below_step (by repeat (first | exact Below.refl _ _ | apply below_alloc)) hB, blk_below (by repeat (first | exact alloc_at _ _ _ (by simp only [alloc_size]) | refine blk_alloc ?_ _)) hB, blk_below (by repeat (first | exact alloc_at _ _ _ (by simp only [alloc_size]) | refine blk_alloc ?_ _)) hB, blk_below (by repeat (first | exact alloc_at _ _ _ (by simp only [alloc_size]) | refine blk_alloc ?_ _)) hB⟩⟩
 clear hB
 have q0_ : W1.cell? ⟨w.heap.size + 1, 0, none⟩ = some (.slice A1 l1.length c1) := (blk_cell ARG.out.f1 0).trans rfl
 have q1_ : W1.cell? ⟨w.heap.size + 1, 1, none⟩ = some (.int .i64 b) := (blk_cell ARG.out.f1 1).trans rfl
 go_wp2_with fail
 refine (laws_szMem.calls A1 c1 l1 b t t2 _ (Kd.C_below HR1.out ARG.out.below) HC1.out Hsz2.out).mono ?_
 rintro e W2 ⟨rfl, hb⟩
 clear q0_ q1_
 have K_ := Kept.of_below hb (fun _ => False)
 have ARG_ := Aside0.mk (ARG.out.kept K_ (below_step ARG.out.below hb) (fun _ _ h => h))
 clear ARG 
 have ARG := ARG_
 clear ARG_
 clear K_
 clear hb
 go_wp2
 go_ret
 exact ⟨rfl, ARG.out.below⟩
instance decP4 {A B C D : Type} [DecidableEq A] [DecidableEq B] [DecidableEq C] [DecidableEq D] : DecidableEq (A × B × C × D) := inferInstance
instance decB4 : DecidableEq (Bool × Bool × Bool × Bool) := inferInstance
instance decI4 : DecidableEq (Int × Int × Int × Int × Bool × Bool × Bool × Bool) := inferInstance
instance decAll : DecidableEq (List Int × Int × Int × Int × Int × Int × Bool × Bool × Bool × Bool) := inferInstance
/-- What the law answers where all is well: true; nothing is said elsewhere. -/
def laws_FnExactEnter.f (k : Nat) (l0_0 : List (List Int)) (l1_0 : List Int) (a1_1 : Int) (a2_0 : Int) (a2_1 : Int) (a2_2 : Int) (a2_3 : Int) (a2_4 : Bool) (a2_5 : Bool) (a2_6 : Bool) (a2_7 : Bool) (a3 : Int) : Option Bool :=
 (laws_szImage.f k l0_0 1048576).bind fun t =>
 if t < 0 then some true else
 (laws_szMem.f l1_0 a1_1 t).bind fun t2 =>
 if t2 < 0 then some true else
 (laws_toImage.f k l0_0).bind fun m0 =>
 (laws_toMem.f k l1_0 a1_1).bind fun m =>
 (laws_toCpu.f a2_0 a2_1 a2_2 a2_3 a2_4 a2_5 a2_6 a2_7).bind fun c =>
 (spec_Enter.f k m0 m.1 m.2 c.1 c.2.1 c.2.2.1 c.2.2.2.1 c.2.2.2.2.1 c.2.2.2.2.2.1 c.2.2.2.2.2.2.1 c.2.2.2.2.2.2.2 a3).bind fun s =>
 (impl_Enter.f k m0 m.1 m.2 c.1 c.2.1 c.2.2.1 c.2.2.2.1 c.2.2.2.2.1 c.2.2.2.2.2.1 c.2.2.2.2.2.2.1 c.2.2.2.2.2.2.2 a3).bind fun g =>
 (laws_eqMem.f k s.1 s.2.1 s.1 s.2.1).bind fun e1 =>
 (laws_eqCpu.f s.2.2.1 s.2.2.2.1 s.2.2.2.2.1 s.2.2.2.2.2.1 s.2.2.2.2.2.2.1 s.2.2.2.2.2.2.2.1 s.2.2.2.2.2.2.2.2.1 s.2.2.2.2.2.2.2.2.2 s.2.2.1 s.2.2.2.1 s.2.2.2.2.1 s.2.2.2.2.2.1 s.2.2.2.2.2.2.1 s.2.2.2.2.2.2.2.1 s.2.2.2.2.2.2.2.2.1 s.2.2.2.2.2.2.2.2.2).bind fun e2 =>
 (laws_eqImage.f k m0 m0).bind fun ei =>
 (laws_eqMem.f k m.1 m.2 m.1 m.2).bind fun e3 =>
 (laws_markIntSS.f k m0 1).bind fun q1 =>
 (laws_markMem.f k m.1 m.2 q1.1).bind fun qa =>
 (laws_markMem.f k s.1 s.2.1 1).bind fun qr =>
 (laws_heldMem.f k qr.2 s.2.1 1).bind fun h =>
 if g = s ∧ e1 = true ∧ e2 = true ∧ ei = true ∧ e3 = true ∧ ¬ qa.1 < 0 ∧ ¬ qr.1 < 0 ∧ h = qr.1 then some true else none
theorem laws_FnExactEnter.calls (k : Nat) (A0_0 : Option Addr) (c0_0 : Nat) (l0_0 : List (List Int)) (A1_0 : Option Addr) (c1_0 : Nat) (l1_0 : List Int) (a1_1 : Int) (a2_0 : Int) (a2_1 : Int) (a2_2 : Int) (a2_3 : Int) (a2_4 : Bool) (a2_5 : Bool) (a2_6 : Bool) (a2_7 : Bool) (a3 : Int) (r : Bool) (w : World) (hr0_0 : Kd.C (Kd.slice 3 (Kd.int .i64)) w A0_0 l0_0.length l0_0) (hc0_0 : l0_0.length ≤ c0_0) (hr1_0 : Kd.C (Kd.int .i64) w A1_0 l1_0.length l1_0) (hc1_0 : l1_0.length ≤ c1_0) (h : laws_FnExactEnter.f k l0_0 l1_0 a1_1 a2_0 a2_1 a2_2 a2_3 a2_4 a2_5 a2_6 a2_7 a3 = some r) (hrt : r = true) :
  Calls Try.prog 13 #[.agg #[.slice A0_0 l0_0.length c0_0], .agg #[.slice A1_0 l1_0.length c1_0, .int .i64 a1_1], .agg #[.int .i64 a2_0, .int .i64 a2_1, .int .i64 a2_2, .int .i64 a2_3, .bool a2_4, .bool a2_5, .bool a2_6, .bool a2_7], .int .i64 a3] w fun e w' => e = .returned (.bool r) ∧ Below w.heap.size w w' := by
 subst hrt
 unfold laws_FnExactEnter.f at h
 obtain ⟨t, hsz, h1_⟩ := Option.bind_eq_some_iff.mp h
 clear h
 by_cases ht : t < 0
 ·exact lawEnter_big1 k A0_0 c0_0 l0_0 A1_0 c1_0 l1_0 a1_1 a2_0 a2_1 a2_2 a2_3 a2_4 a2_5 a2_6 a2_7 a3 w hr0_0 hc0_0 hr1_0 hc1_0 t hsz ht
 ·rw [if_neg ht] at h1_
  obtain ⟨t2, hsz2, h2_⟩ := Option.bind_eq_some_iff.mp h1_
  clear h1_
  by_cases ht2 : t2 < 0
  ·exact lawEnter_big2 k A0_0 c0_0 l0_0 A1_0 c1_0 l1_0 a1_1 a2_0 a2_1 a2_2 a2_3 a2_4 a2_5 a2_6 a2_7 a3 w hr0_0 hc0_0 hr1_0 hc1_0 t hsz t2 hsz2 ht ht2
  ·rw [if_neg ht2] at h2_
   obtain ⟨mi, hmi, h3_⟩ := Option.bind_eq_some_iff.mp h2_
   clear h2_
   obtain ⟨⟨m1, m2⟩, hm, h4_⟩ := Option.bind_eq_some_iff.mp h3_
   clear h3_
   obtain ⟨⟨y0, y1, y2, y3, y4, y5, y6, y7⟩, hcp, h5_⟩ := Option.bind_eq_some_iff.mp h4_
   clear h4_
   obtain ⟨⟨r1, r2, r3, r4, r5, r6, r7, r8, r9, r10⟩, hs, h6_⟩ := Option.bind_eq_some_iff.mp h5_
   clear h5_
   obtain ⟨g, hi, h7_⟩ := Option.bind_eq_some_iff.mp h6_
   clear h6_
   obtain ⟨e1, he1, h8_⟩ := Option.bind_eq_some_iff.mp h7_
   clear h7_
   obtain ⟨e2, he2, h9_⟩ := Option.bind_eq_some_iff.mp h8_
   clear h8_
   obtain ⟨ei, hei, h10_⟩ := Option.bind_eq_some_iff.mp h9_
   clear h9_
   obtain ⟨e3, he3, h11_⟩ := Option.bind_eq_some_iff.mp h10_
   clear h10_
   obtain ⟨⟨k1, n1⟩, hk1, h12_⟩ := Option.bind_eq_some_iff.mp h11_
   clear h11_
   obtain ⟨⟨ka, na⟩, hka, h13_⟩ := Option.bind_eq_some_iff.mp h12_
   clear h12_
   obtain ⟨⟨kr, nr⟩, hkr, h14_⟩ := Option.bind_eq_some_iff.mp h13_
   clear h13_
   obtain ⟨q, hh, h15_⟩ := Option.bind_eq_some_iff.mp h14_
   clear h14_
   by_cases hall : g = (r1, r2, r3, r4, r5, r6, r7, r8, r9, r10) ∧ e1 = true ∧ e2 = true ∧ ei = true ∧ e3 = true ∧ ¬ ka < 0 ∧ ¬ kr < 0 ∧ q = kr
   ·obtain ⟨rfl, rfl, rfl, rfl, rfl, hka', hkr', rfl⟩ := hall
    exact lawEnter_true k A0_0 c0_0 l0_0 A1_0 c1_0 l1_0 a1_1 a2_0 a2_1 a2_2 a2_3 a2_4 a2_5 a2_6 a2_7 a3 w hr0_0 hc0_0 hr1_0 hc1_0 t hsz t2 hsz2 mi hmi m1 m2 hm y0 y1 y2 y3 y4 y5 y6 y7 hcp r1 r2 r3 r4 r5 r6 r7 r8 r9 r10 hs hi ht ht2 he1 he2 hei he3 k1 n1 hk1 ka na hka hka' q nr hkr hkr' hh
   ·rw [if_neg hall] at h15_
    cases h15_

end Go.Proofs.Ytmiaocoffmobcaa.MFnExactEnter
