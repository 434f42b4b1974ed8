/- Walks of functions that the law FnCalled reaches: each comes to just what its Lean function says. (Begun as the texts that print.sh wrote for this claim; some of them, and those that it does not write, are mine.) No condition. -/
import Derived.Test.YtmkccgbfgebfbaaMFnCalledx2
namespace Go.Proofs.Ytmkccgbfgebfbaa.MFnCalled
open Go.RowKit Go.Proofs.YtmkccgbfgebfbaaW.PrintWords Go.Proofs.YtmkccgbfgebfbaaW.PrintLast Go.Proofs.YtmkccgbfgebfbaaW.PrintMore
attribute [local go_sem] max2_int min2_int max_two min_two max_three min_three max_four min_four   -- for this text's walks alone
set_option maxHeartbeats 8000000
set_option maxRecDepth 100000
set_option linter.unusedVariables false
set_option linter.unusedSimpArgs false

/-! ### spec_l6Draw: function 62 -/
def spec_l6Draw.f (k : Nat) (s0_0 : List Int) (s0_1 : Int) (s0_2 : Int) : Option ((List (List Int)) × List Int × Int × Int × Int) := (spec_l2DrawRight.f k s0_0 s0_1 s0_2).bind fun bt323 => ((spec_l1Once.f s0_0 bt323.2.1 bt323.2.2 20).bind fun bt329 => (if bt329.1 = true then ((spec_l2Draw.f k s0_0 bt329.2.1 bt329.2.2).bind fun bt332 => ((spec_l6DrawMem.f k s0_0 bt332.2.1 bt332.2.2 bt332.1).bind fun bt337 => (some (bt332.1, bt337.1, bt337.2.1, bt337.2.2.1, bt337.2.2.2)))) else ((spec_l6DrawMem.f k s0_0 bt329.2.1 bt329.2.2 bt323.1).bind fun bt343 => (some (bt323.1, bt343.1, bt343.2.1, bt343.2.2.1, bt343.2.2.2)))))
theorem spec_l6Draw.calls (k : Nat) (g : Nat) (s0_0 : List Int) (s0_1 : Int) (s0_2 : Int) (r1 : List (List Int)) (r2 : List Int) (r3 : Int) (r4 : Int) (r5 : Int) (w0 w : World) (hI : IsS107 w0 w g s0_0 s0_1 s0_2) (hB : Below w0.heap.size w0 w) (h : spec_l6Draw.f k s0_0 s0_1 s0_2 = some (r1, r2, r3, r4, r5)) :
  Calls Try.prog 62 #[.pointer (some ⟨g, 0, none⟩)] w fun e w' => ∃ v0_ v1_ : Value, e = .returned (.tuple #[.agg #[v0_], .agg #[v1_, .int .i64 r3]]) ∧ Kd.S (cutK 3 (Kd.int .i64)) 30 w' w.heap.size (fun k_ => some k_ ≠ (v1_ : Value).ownBlock) v0_ r1 ∧ Kd.Q (Kd.int .i64) 3 w' w.heap.size (fun _ => True) v1_ r2 ∧ IsS107 w0 w' g s0_0 r4 r5 ∧ Below w0.heap.size w0 w' ∧ KeepBut w w' g none := by
 have hu29 := Try.underlying29
 have hu32 := Try.underlying32
 have HI0 := am hI
 have HK := am (KeepBut.refl w g none)
 have HL := am hB.size
 clear hI
 have HW0 := am hB.size
 have HB := am hB
 clear hB
 have H : ((spec_l2DrawRight.f k s0_0 s0_1 s0_2).bind fun bt323 => ((spec_l1Once.f s0_0 bt323.2.1 bt323.2.2 20).bind fun bt329 => (if bt329.1 = true then ((spec_l2Draw.f k s0_0 bt329.2.1 bt329.2.2).bind fun bt332 => ((spec_l6DrawMem.f k s0_0 bt332.2.1 bt332.2.2 bt332.1).bind fun bt337 => (some (bt332.1, bt337.1, bt337.2.1, bt337.2.2.1, bt337.2.2.2)))) else ((spec_l6DrawMem.f k s0_0 bt329.2.1 bt329.2.2 bt323.1).bind fun bt343 => (some (bt323.1, bt343.1, bt343.2.1, bt343.2.2.1, bt343.2.2.2)))))) = some (r1, r2, r3, r4, r5) := h
 clear h
 replace H := bs H
 obtain ⟨⟨t323, t326, t327⟩, A20, H⟩ := H
 replace H : ((spec_l1Once.f s0_0 t326 t327 20).bind fun bt329 => (if bt329.1 = true then ((spec_l2Draw.f k s0_0 bt329.2.1 bt329.2.2).bind fun bt332 => ((spec_l6DrawMem.f k s0_0 bt332.2.1 bt332.2.2 bt332.1).bind fun bt337 => (some (bt332.1, bt337.1, bt337.2.1, bt337.2.2.1, bt337.2.2.2)))) else ((spec_l6DrawMem.f k s0_0 bt329.2.1 bt329.2.2 t323).bind fun bt343 => (some (t323, bt343.1, bt343.2.1, bt343.2.2.1, bt343.2.2.2))))) = some (r1, r2, r3, r4, r5) := H
 have A2 := am A20
 clear A20
 replace H := bs H
 obtain ⟨⟨t329, t330, t331⟩, A30, H⟩ := H
 replace H : (if t329 = true then ((spec_l2Draw.f k s0_0 t330 t331).bind fun bt332 => ((spec_l6DrawMem.f k s0_0 bt332.2.1 bt332.2.2 bt332.1).bind fun bt337 => (some (bt332.1, bt337.1, bt337.2.1, bt337.2.2.1, bt337.2.2.2)))) else ((spec_l6DrawMem.f k s0_0 t330 t331 t323).bind fun bt343 => (some (t323, bt343.1, bt343.2.1, bt343.2.2.1, bt343.2.2.2)))) = some (r1, r2, r3, r4, r5) := H
 have A3 := am A30
 clear A30
 by_cases c4 : t329 = true
 ·subst c4
  have H1 : ((spec_l2Draw.f k s0_0 t330 t331).bind fun bt332 => ((spec_l6DrawMem.f k s0_0 bt332.2.1 bt332.2.2 bt332.1).bind fun bt337 => (some (bt332.1, bt337.1, bt337.2.1, bt337.2.2.1, bt337.2.2.2)))) = some (r1, r2, r3, r4, r5) := by rw [if_pos rfl] at H; exact H
  clear H
  have H := H1
  clear H1
  replace H := bs H
  obtain ⟨⟨t332, t335, t336⟩, A50, H⟩ := H
  replace H : ((spec_l6DrawMem.f k s0_0 t335 t336 t332).bind fun bt337 => (some (t332, bt337.1, bt337.2.1, bt337.2.2.1, bt337.2.2.2))) = some (r1, r2, r3, r4, r5) := H
  have A5 := am A50
  clear A50
  replace H := bs H
  obtain ⟨⟨t337, t340, t341, t342⟩, A60, H⟩ := H
  replace H : (some (t332, t337, t340, t341, t342)) = some (r1, r2, r3, r4, r5) := H
  have A6 := am A60
  clear A60
  simp only [Option.some.injEq, Prod.mk.injEq] at H
  obtain ⟨rfl, rfl, rfl, rfl, rfl⟩ := H
  go_enter Try.func62, Try.ntmps62
  try go_wp2_with (first | ((with_reducible refine gd 2 ?_); refine bx (N := 2) (cs := #[.slice none 0 0]) (t := 29) ?_; intro gb321 hg w7 hbox hb; have n0_ := am (IsS107.below (si HI0.out) hb); have n1_ := am (KeepBut.trans (kp HK.out) (KeepBut.of_below hb g none) (.inl rfl)); have n2_ := am (below_step (bi HB.out) hb); have n3_ := am (hbox); have n4_ := am ((by rw [hg]; exact (keep_size (w := w) (g := g) (row := none) (kp HK.out)) : w.heap.size ≤ gb321)); have n5_ := am ((Nat.le_trans HW0.out (by rw [hg]; exact (keep_size (w := w) (g := g) (row := none) (kp HK.out)) : w.heap.size ≤ gb321) : w0.heap.size ≤ gb321)); have n6_ := am ((by rw [hg]; exact Nat.ne_of_lt (IsS107.lt (show IsS107 w0 _ g s0_0 s0_1 s0_2 from si HI0.out)) : g ≠ gb321)); have n7_ := am ((by rw [hg]; exact Nat.ne_of_gt (IsS107.lt (show IsS107 w0 _ g s0_0 s0_1 s0_2 from si HI0.out)) : gb321 ≠ g)); clear HI0; clear HK; clear HB; have HI0 := n0_; have HK := n1_; have HB := n2_; have BK321 := n3_; have GW321 := n4_; have GE321 := n5_; have NB0_321 := n6_; have NB321_0 := n7_; clear n0_ n1_ n2_ n3_ n4_ n5_ n6_ n7_; clear hb hbox hg) | ((with_reducible refine gd 3 ?_); refine bx (N := 3) (cs := #[.slice none 0 0, .int .i64 0]) (t := 32) ?_; intro gb322 hg w8 hbox hb; have n0_ := am (IsS107.below (si HI0.out) hb); have n1_ := am (bb BK321 hb); have n2_ := am (KeepBut.trans (kp HK.out) (KeepBut.of_below hb g none) (.inl rfl)); have n3_ := am (below_step (bi HB.out) hb); have n4_ := am (hbox); have n5_ := am ((by rw [hg]; exact (keep_size (w := w) (g := g) (row := none) (kp HK.out)) : w.heap.size ≤ gb322)); have n6_ := am ((Nat.le_trans HW0.out (by rw [hg]; exact (keep_size (w := w) (g := g) (row := none) (kp HK.out)) : w.heap.size ≤ gb322) : w0.heap.size ≤ gb322)); have n7_ := am ((ga hg BK321.out)); have n8_ := am ((gc hg BK321.out)); have n9_ := am ((by rw [hg]; exact Nat.ne_of_lt (IsS107.lt (show IsS107 w0 _ g s0_0 s0_1 s0_2 from si HI0.out)) : g ≠ gb322)); have n10_ := am ((by rw [hg]; exact Nat.ne_of_gt (IsS107.lt (show IsS107 w0 _ g s0_0 s0_1 s0_2 from si HI0.out)) : gb322 ≠ g)); clear HI0; clear BK321; clear HK; clear HB; have HI0 := n0_; have BK321 := n1_; have HK := n2_; have HB := n3_; have BK322 := n4_; have GW322 := n5_; have GE322 := n6_; have NB321_322 := n7_; have NB322_321 := n8_; have NB0_322 := n9_; have NB322_0 := n10_; clear n0_ n1_ n2_ n3_ n4_ n5_ n6_ n7_ n8_ n9_ n10_; clear hb hbox hg) | ((with_reducible refine gate_callee (f := 69) rfl ?_); refine goesM_ (some 6) rfl rfl Try.func69 #[.pointer (some ⟨g, 0, none⟩)] ?_; (with_reducible refine (spec_l2DrawRight.callsC k g s0_0 s0_1 s0_2 t323 t326 t327 w0 _ ?side1 ?side2 A2.out).mono ?_); (case side1 => exact si HI0.out); (case side2 => exact bi HB.out); rintro e w9 ⟨v324, rfl, ho0, hi, hb, hk⟩; refine ⟨_, rfl, ?_⟩; replace BK321 := am (kB hk (kb BK321.out) NB321_0); replace BK322 := am (kB hk (kb BK322.out) NB322_0); have HO325 := am (Kd.S_lower ho0 (keep_size (w := w) (g := g) (row := none) (kp HK.out))); replace HK := am (KeepBut.trans (kp HK.out) hk (.inl rfl)); replace HB := am (hb); replace HI0 := am (hi); (try clear hb); (try clear hk); (try clear hi); (try clear ho0)) | ((with_reducible refine gd 4 ?_); refine bx (N := 4) (cs := #[.slice none 0 0]) (t := 29) ?_; intro gb328 hg w10 hbox hb; have n0_ := am (Kd.S_below (ks HO325.out) hb); have n1_ := am (IsS107.below (si HI0.out) hb); have n2_ := am (bb BK321 hb); have n3_ := am (bb BK322 hb); have n4_ := am (KeepBut.trans (kp HK.out) (KeepBut.of_below hb g none) (.inl rfl)); have n5_ := am (below_step (bi HB.out) hb); have n6_ := am (hbox); have n7_ := am ((by rw [hg]; exact (keep_size (w := w) (g := g) (row := none) (kp HK.out)) : w.heap.size ≤ gb328)); have n8_ := am ((Nat.le_trans HW0.out (by rw [hg]; exact (keep_size (w := w) (g := g) (row := none) (kp HK.out)) : w.heap.size ≤ gb328) : w0.heap.size ≤ gb328)); have n9_ := am ((ga hg BK321.out)); have n10_ := am ((gc hg BK321.out)); have n11_ := am ((ga hg BK322.out)); have n12_ := am ((gc hg BK322.out)); have n13_ := am ((by rw [hg]; exact Nat.ne_of_lt (IsS107.lt (show IsS107 w0 _ g s0_0 t326 t327 from si HI0.out)) : g ≠ gb328)); have n14_ := am ((by rw [hg]; exact Nat.ne_of_gt (IsS107.lt (show IsS107 w0 _ g s0_0 t326 t327 from si HI0.out)) : gb328 ≠ g)); clear HO325; clear HI0; clear BK321; clear BK322; clear HK; clear HB; have HO325 := n0_; have HI0 := n1_; have BK321 := n2_; have BK322 := n3_; have HK := n4_; have HB := n5_; have BK328 := n6_; have GW328 := n7_; have GE328 := n8_; have NB321_328 := n9_; have NB328_321 := n10_; have NB322_328 := n11_; have NB328_322 := n12_; have NB0_328 := n13_; have NB328_0 := n14_; clear n0_ n1_ n2_ n3_ n4_ n5_ n6_ n7_ n8_ n9_ n10_ n11_ n12_ n13_ n14_; clear hb hbox hg; obtain ⟨Ao11, co11, eo11⟩ := Kd.S_slice HO325.out; subst eo11; have p_ := NB328_321.out; have p_ := NB328_322.out; have p_ := NB328_0.out; have hcz15_0 : w10.cell? ⟨gb328, 0, none⟩ = some (.slice none 0 0) := cl BK328 0; have hfz15_0 := blk_frozen BK328.out 0) | ((with_reducible refine gate_callee (f := 58) rfl ?_); refine goesM_ (some 8) rfl rfl Try.func58 #[.pointer (some ⟨g, 0, none⟩), .int .i64 20] ?_; (with_reducible refine (spec_l1Once.calls g s0_0 t326 t327 20 true t330 t331 w0 _ ?side1 ?side2 A3.out).mono ?_); (case side1 => exact si HI0.out); (case side2 => exact bi HB.out); rintro e w16 ⟨rfl, hi, hb, hk⟩; refine ⟨_, rfl, ?_⟩; replace BK321 := am (kB hk (kf BK321.out) NB321_0); replace BK322 := am (kB hk (kf BK322.out) NB322_0); replace HO325 := am (Kd.S_mono (Kd.S_keep (IsS107.apartS (show IsS107 w0 _ g s0_0 t326 t327 from si HI0.out) (ks ((Kd.S_mono (Kd.S_far (p := ⟨gb328, 0, none⟩) (Kd.S_types HO325.out BK328.out (by decide)) (fun _ hk => hk.2) (.slice Ao11 t323.length co11)) (fun _ h_ => h_.1)))) (by decide)) hk (fun _ h => h.2)) (fun _ h => h.1)); replace BK328 := am (KeepBut.blk hk (g' := gb328) (o := .cells #[.slice Ao11 t323.length co11] 29 (0, 0)) (kt BK328.out) NB328_0.out (by simp)); replace HK := am (KeepBut.trans (kp HK.out) hk (.inl rfl)); replace HB := am (hb); replace HI0 := am (hi); (try clear hb); (try clear hk); (try clear hi)) | ((with_reducible refine gate_callee (f := 65) rfl ?_); refine goesM_ (some 10) rfl rfl Try.func65 #[.pointer (some ⟨g, 0, none⟩)] ?_; (with_reducible refine (spec_l2Draw.calls k g s0_0 t330 t331 t332 t335 t336 w0 _ ?side1 ?side2 A5.out).mono ?_); (case side1 => exact si HI0.out); (case side2 => exact bi HB.out); rintro e w17 ⟨v333, rfl, ho0, hi, hb, hk⟩; refine ⟨_, rfl, ?_⟩; replace BK321 := am (kB hk (kb BK321.out) NB321_0); replace BK322 := am (kB hk (kb BK322.out) NB322_0); replace BK328 := am (kB hk (kb BK328.out) NB328_0); have HO334 := am (Kd.S_lower (Kd.S_new' ho0 (Kd.S_lt (ks HO325.out))) (keep_size (w := w) (g := g) (row := none) (kp HK.out))); replace HO325 := am (Kd.S_mono (Kd.S_told (Kd.S_oldK (IsS107.apartS (show IsS107 w0 _ g s0_0 t330 t331 from si HI0.out) (ks HO325.out) (by decide)) hk) (Kd.S_base ho0)) (fun _ h_ => h_.1)); replace HK := am (KeepBut.trans (kp HK.out) hk (.inl rfl)); replace HB := am (hb); replace HI0 := am (hi); (try clear hb); (try clear hk); (try clear hi); (try clear ho0); obtain ⟨Ao18, co18, eo18⟩ := Kd.S_slice HO334.out; subst eo18; have hcz19_0 : w17.cell? ⟨gb328, 0, none⟩ = some (.slice Ao11 t323.length co11) := cl BK328 0; have hfz19_0 := blk_frozen BK328.out 0))
  have n0_ : Aside0 (Kd.S (cutK 3 (Kd.int .i64)) 30 (w17.setCell ⟨gb328, 0, none⟩ (.slice Ao18 t332.length co18)) w.heap.size (fun k_ => some k_ ≠ (.slice Ao18 t332.length co18 : Value).ownBlock) (.slice Ao11 t323.length co11) t323) := ⟨ks (Kd.S_mono (Kd.S_far (p := ⟨gb328, 0, none⟩) (Kd.S_types HO325.out BK328.out (by decide)) (fun _ hk => hk.2) (.slice Ao18 t332.length co18)) (fun _ hk => hk.1.2))⟩
  have n1_ : Aside0 (Kd.S (cutK 3 (Kd.int .i64)) 30 (w17.setCell ⟨gb328, 0, none⟩ (.slice Ao18 t332.length co18)) w.heap.size (fun k_ => some k_ ≠ (.slice Ao11 t323.length co11 : Value).ownBlock) (.slice Ao18 t332.length co18) t332) := ⟨ks (Kd.S_mono (Kd.S_far (p := ⟨gb328, 0, none⟩) (Kd.S_types HO334.out BK328.out (by decide)) (fun _ hk => hk.2) (.slice Ao18 t332.length co18)) (fun _ hk => hk.1.2))⟩
  have n2_ : Aside0 ((w17.setCell ⟨gb328, 0, none⟩ (.slice Ao18 t332.length co18)).heap[gb321]? = some (.cells #[.slice none 0 0] 29 (0, 0))) := ⟨kf BK321.out⟩
  have n3_ : Aside0 ((w17.setCell ⟨gb328, 0, none⟩ (.slice Ao18 t332.length co18)).heap[gb322]? = some (.cells #[.slice none 0 0, .int .i64 0] 32 (0, 0))) := ⟨kf BK322.out⟩
  have n4_ : Aside0 ((w17.setCell ⟨gb328, 0, none⟩ (.slice Ao18 t332.length co18)).heap[gb328]? = some (.cells #[.slice Ao18 t332.length co18] 29 (0, 0))) := ⟨kt BK328.out⟩
  have n5_ : Aside0 (IsS107 w0 (w17.setCell ⟨gb328, 0, none⟩ (.slice Ao18 t332.length co18)) g s0_0 t335 t336) := ⟨si HI0.out⟩
  have n6_ : Aside0 (KeepBut w (w17.setCell ⟨gb328, 0, none⟩ (.slice Ao18 t332.length co18)) g none) := ⟨kp HK.out⟩
  have n7_ : Aside0 (Below w0.heap.size w0 (w17.setCell ⟨gb328, 0, none⟩ (.slice Ao18 t332.length co18))) := ⟨bi HB.out⟩
  (try clear HO325); (try clear HO334); (try clear BK321); (try clear BK322); (try clear BK328); (try clear HI0); (try clear HK); (try clear HB)
  generalize (w17.setCell ⟨gb328, 0, none⟩ (.slice Ao18 t332.length co18)) = w20 at n0_ n1_ n2_ n3_ n4_ n5_ n6_ n7_ ⊢
  have HO325 := n0_; have HO334 := n1_; have BK321 := n2_; have BK322 := n3_; have BK328 := n4_; have HI0 := n5_; have HK := n6_; have HB := n7_; clear n0_ n1_ n2_ n3_ n4_ n5_ n6_ n7_
  replace HO325 := am (Kd.S_drew HO325.out)
  replace HO334 := am (Kd.S_drew HO334.out)
  replace BK321 := am (blk_drew BK321.out)
  replace BK322 := am (blk_drew BK322.out)
  replace BK328 := am (blk_drew BK328.out)
  replace HI0 := am (IsS107.drew HI0.out)
  replace HK := am (keep_drew HK.out)
  replace HB := am (below_drew1 HB.out)
  refine start_ (n := 6) (S := fun w' => w'.cell? ⟨gb328, 0, none⟩ = some (.slice Ao18 t332.length co18)) (ds := []) (bm 6 0) (by kernel_rfl) rfl (by kernel_rfl) (cl BK328 0) (fun hHeld => ?_)
  generalize w20.drew = w21 at HO325 HO334 BK321 BK322 BK328 HI0 HK HB hHeld ⊢
  refine pv_ 1 (some 12) (bm 6 2) ?_
  refine tv_ 0 (some 11) (bm 6 3) hHeld ?_
  refine tv_ 2 (some 13) (bm 6 7) hHeld ?_
  refine ov_ 3 (some 14) (bm 6 15) (fun K hK => ?_)
  refine gw_ Try.func103 #[.pointer (some ⟨g, 0, none⟩), .agg #[.slice Ao18 t332.length co18]] ?_
  with_reducible refine (spec_l6DrawMem.calls k g s0_0 t335 t336 _ _ t332 t337 t340 t341 t342 w0 _ ?side1 ?side2 ?side3 ?side4 A6.out).mono ?_
  (case side1 => exact si HI0.out)
  (case side2 => exact bi HB.out)
  (case side3 => exact (Kd.C_foot_own ((Kd.S_R (IsS107.apartS (show IsS107 w0 _ g s0_0 t335 t336 from si HI0.out) (ks HO334.out) (by decide)))) (fun _ h_ => h_.2) :))
  (case side4 => exact (Kd.S_reads' HO334.out).2.1)
  rintro e w22 ⟨v338, rfl, ho0, hi, hb, hk⟩
  refine ⟨_, rfl, ?_⟩
  replace BK321 := am (kB hk (kb BK321.out) NB321_0)
  replace BK322 := am (kB hk (kb BK322.out) NB322_0)
  replace HO325 := am (Kd.S_mono (Kd.S_told (Kd.S_oldK (IsS107.apartS (show IsS107 w0 _ g s0_0 t335 t336 from si HI0.out) (ks HO325.out) (by decide)) hk) (Kd.Q_base ho0)) (fun _ h_ => h_.1))
  replace BK328 := am (kB hk (kb BK328.out) NB328_0)
  replace HO334 := am (Kd.S_mono (Kd.S_told (Kd.S_oldK (IsS107.apartS (show IsS107 w0 _ g s0_0 t335 t336 from si HI0.out) (ks HO334.out) (by decide)) hk) (Kd.Q_base ho0)) (fun _ h_ => h_.1))
  have HO339 := am (Kd.Q_lower ho0 (keep_size (w := w) (g := g) (row := none) (kp HK.out)))
  replace HK := am (KeepBut.trans (kp HK.out) hk (.inl rfl))
  replace HB := am (hb)
  replace HI0 := am (hi)
  (try clear hb); (try clear hk); (try clear hi); (try clear ho0)
  obtain ⟨Ao24, co24, eo24, _⟩ := Kd.Q_slice HO339.out
  (first | subst eo24 | (injection eo24 with f1_ f2_ f3_; have f4_ := f1_.symm; have f5_ := f3_.symm; clear f1_ f2_ f3_; subst f4_; subst f5_))
  refine hK.out _ _ (cl BK328 0) (fun hHeld => ?_)
  clear hK K
  refine nw_ 14 ?_
  refine ov_ 4 none (bm 6 31) (fun K hK => ?_)
  refine skip_ (w1 := ?_) (by rfl) rfl ?_ ?_
  rotate_left
  ·have hs23 : w22.cell? ⟨gb321, 0, none⟩ = some (.slice none 0 0) := cl BK321 0
   have f0 := blk_frozen BK321.out 0
   have p_ := NB322_321.out
   have p_ := NB328_321.out
   go_simp
   rfl
  refine hK.out _ _ ((fr NB328_321 (hHeld))) (fun hHeld => ?_)
  clear hK K
  refine ov_ 5 none (bm 6 63) (fun K hK => ?_)
  refine skip_ (w1 := ?_) (by rfl) rfl ?_ ?_
  rotate_left
  ·obtain ⟨a0, a1⟩ := ce2 BK322
   obtain ⟨f0, f1⟩ := fz2 BK322
   have p_ := NB321_322.out
   have p_ := NB328_322.out
   go_simp
   rfl
  refine hK.out _ _ ((fr NB328_322 (hHeld))) (fun hHeld => ?_)
  clear hK K
  refine done_ (by kernel_rfl) ?_
  try go_wp2
  refine bodyPost_ret (results_cc rfl _ _ gb321 gb322 29 32 #[.slice Ao18 t332.length co18] #[.slice Ao24 t337.length co24, .int .i64 t340] (0, 0) (0, 0) _ _ rfl (bf NB321_322 BK321.out) Try.underlying29 rfl (by kernel_rfl) rfl (bf NB322_321 BK322.out) Try.underlying32 rfl (by kernel_rfl)) rfl ?_
  exact ⟨_, _, rt, ks (Kd.S_mono (Kd.S_far (p := ⟨gb322, 1, none⟩) (Kd.S_far (p := ⟨gb322, 0, none⟩) (Kd.S_far (p := ⟨gb321, 0, none⟩) (Kd.S_types (Kd.S_types HO334.out BK321.out (by decide)) BK322.out (by decide)) (fun _ hk => hk.1.2) (.slice Ao18 t332.length co18)) (fun _ hk => hk.2) (.slice Ao24 t337.length co24)) (fun _ hk => hk.2) (.int .i64 t340)) (fun _ hk => hk.1.1.2)), kq (Kd.Q_mono (Kd.Q_far (p := ⟨gb322, 1, none⟩) (Kd.Q_far (p := ⟨gb322, 0, none⟩) (Kd.Q_far (p := ⟨gb321, 0, none⟩) (Kd.Q_types (Kd.Q_types HO339.out BK321.out (by decide)) BK322.out (by decide)) (fun _ hk => hk.1.2) (.slice Ao18 t332.length co18)) (fun _ hk => hk.2) (.slice Ao24 t337.length co24)) (fun _ hk => hk.2) (.int .i64 t340)) (fun _ hk => trivial)), si HI0.out, bi HB.out, kp HK.out⟩
 ·replace c4 := Bool.eq_false_iff.mpr c4
  subst c4
  have H1 : ((spec_l6DrawMem.f k s0_0 t330 t331 t323).bind fun bt343 => (some (t323, bt343.1, bt343.2.1, bt343.2.2.1, bt343.2.2.2))) = some (r1, r2, r3, r4, r5) := by rw [if_neg (show ¬ (false = true) by decide)] at H; exact H
  clear H
  have H := H1
  clear H1
  replace H := bs H
  obtain ⟨⟨t343, t346, t347, t348⟩, A270, H⟩ := H
  replace H : (some (t323, t343, t346, t347, t348)) = some (r1, r2, r3, r4, r5) := H
  have A27 := am A270
  clear A270
  simp only [Option.some.injEq, Prod.mk.injEq] at H
  obtain ⟨rfl, rfl, rfl, rfl, rfl⟩ := H
  go_enter Try.func62, Try.ntmps62
  try go_wp2_with (first | ((with_reducible refine gd 2 ?_); refine bx (N := 2) (cs := #[.slice none 0 0]) (t := 29) ?_; intro gb321 hg w28 hbox hb; have n0_ := am (IsS107.below (si HI0.out) hb); have n1_ := am (KeepBut.trans (kp HK.out) (KeepBut.of_below hb g none) (.inl rfl)); have n2_ := am (below_step (bi HB.out) hb); have n3_ := am (hbox); have n4_ := am ((by rw [hg]; exact (keep_size (w := w) (g := g) (row := none) (kp HK.out)) : w.heap.size ≤ gb321)); have n5_ := am ((Nat.le_trans HW0.out (by rw [hg]; exact (keep_size (w := w) (g := g) (row := none) (kp HK.out)) : w.heap.size ≤ gb321) : w0.heap.size ≤ gb321)); have n6_ := am ((by rw [hg]; exact Nat.ne_of_lt (IsS107.lt (show IsS107 w0 _ g s0_0 s0_1 s0_2 from si HI0.out)) : g ≠ gb321)); have n7_ := am ((by rw [hg]; exact Nat.ne_of_gt (IsS107.lt (show IsS107 w0 _ g s0_0 s0_1 s0_2 from si HI0.out)) : gb321 ≠ g)); clear HI0; clear HK; clear HB; have HI0 := n0_; have HK := n1_; have HB := n2_; have BK321 := n3_; have GW321 := n4_; have GE321 := n5_; have NB0_321 := n6_; have NB321_0 := n7_; clear n0_ n1_ n2_ n3_ n4_ n5_ n6_ n7_; clear hb hbox hg) | ((with_reducible refine gd 3 ?_); refine bx (N := 3) (cs := #[.slice none 0 0, .int .i64 0]) (t := 32) ?_; intro gb322 hg w29 hbox hb; have n0_ := am (IsS107.below (si HI0.out) hb); have n1_ := am (bb BK321 hb); have n2_ := am (KeepBut.trans (kp HK.out) (KeepBut.of_below hb g none) (.inl rfl)); have n3_ := am (below_step (bi HB.out) hb); have n4_ := am (hbox); have n5_ := am ((by rw [hg]; exact (keep_size (w := w) (g := g) (row := none) (kp HK.out)) : w.heap.size ≤ gb322)); have n6_ := am ((Nat.le_trans HW0.out (by rw [hg]; exact (keep_size (w := w) (g := g) (row := none) (kp HK.out)) : w.heap.size ≤ gb322) : w0.heap.size ≤ gb322)); have n7_ := am ((ga hg BK321.out)); have n8_ := am ((gc hg BK321.out)); have n9_ := am ((by rw [hg]; exact Nat.ne_of_lt (IsS107.lt (show IsS107 w0 _ g s0_0 s0_1 s0_2 from si HI0.out)) : g ≠ gb322)); have n10_ := am ((by rw [hg]; exact Nat.ne_of_gt (IsS107.lt (show IsS107 w0 _ g s0_0 s0_1 s0_2 from si HI0.out)) : gb322 ≠ g)); clear HI0; clear BK321; clear HK; clear HB; have HI0 := n0_; have BK321 := n1_; have HK := n2_; have HB := n3_; have BK322 := n4_; have GW322 := n5_; have GE322 := n6_; have NB321_322 := n7_; have NB322_321 := n8_; have NB0_322 := n9_; have NB322_0 := n10_; clear n0_ n1_ n2_ n3_ n4_ n5_ n6_ n7_ n8_ n9_ n10_; clear hb hbox hg) | ((with_reducible refine gate_callee (f := 69) rfl ?_); refine goesM_ (some 6) rfl rfl Try.func69 #[.pointer (some ⟨g, 0, none⟩)] ?_; (with_reducible refine (spec_l2DrawRight.callsC k g s0_0 s0_1 s0_2 t323 t326 t327 w0 _ ?side1 ?side2 A2.out).mono ?_); (case side1 => exact si HI0.out); (case side2 => exact bi HB.out); rintro e w30 ⟨v324, rfl, ho0, hi, hb, hk⟩; refine ⟨_, rfl, ?_⟩; replace BK321 := am (kB hk (kb BK321.out) NB321_0); replace BK322 := am (kB hk (kb BK322.out) NB322_0); have HO325 := am (Kd.S_lower ho0 (keep_size (w := w) (g := g) (row := none) (kp HK.out))); replace HK := am (KeepBut.trans (kp HK.out) hk (.inl rfl)); replace HB := am (hb); replace HI0 := am (hi); (try clear hb); (try clear hk); (try clear hi); (try clear ho0)) | ((with_reducible refine gd 4 ?_); refine bx (N := 4) (cs := #[.slice none 0 0]) (t := 29) ?_; intro gb328 hg w31 hbox hb; have n0_ := am (Kd.S_below (ks HO325.out) hb); have n1_ := am (IsS107.below (si HI0.out) hb); have n2_ := am (bb BK321 hb); have n3_ := am (bb BK322 hb); have n4_ := am (KeepBut.trans (kp HK.out) (KeepBut.of_below hb g none) (.inl rfl)); have n5_ := am (below_step (bi HB.out) hb); have n6_ := am (hbox); have n7_ := am ((by rw [hg]; exact (keep_size (w := w) (g := g) (row := none) (kp HK.out)) : w.heap.size ≤ gb328)); have n8_ := am ((Nat.le_trans HW0.out (by rw [hg]; exact (keep_size (w := w) (g := g) (row := none) (kp HK.out)) : w.heap.size ≤ gb328) : w0.heap.size ≤ gb328)); have n9_ := am ((ga hg BK321.out)); have n10_ := am ((gc hg BK321.out)); have n11_ := am ((ga hg BK322.out)); have n12_ := am ((gc hg BK322.out)); have n13_ := am ((by rw [hg]; exact Nat.ne_of_lt (IsS107.lt (show IsS107 w0 _ g s0_0 t326 t327 from si HI0.out)) : g ≠ gb328)); have n14_ := am ((by rw [hg]; exact Nat.ne_of_gt (IsS107.lt (show IsS107 w0 _ g s0_0 t326 t327 from si HI0.out)) : gb328 ≠ g)); clear HO325; clear HI0; clear BK321; clear BK322; clear HK; clear HB; have HO325 := n0_; have HI0 := n1_; have BK321 := n2_; have BK322 := n3_; have HK := n4_; have HB := n5_; have BK328 := n6_; have GW328 := n7_; have GE328 := n8_; have NB321_328 := n9_; have NB328_321 := n10_; have NB322_328 := n11_; have NB328_322 := n12_; have NB0_328 := n13_; have NB328_0 := n14_; clear n0_ n1_ n2_ n3_ n4_ n5_ n6_ n7_ n8_ n9_ n10_ n11_ n12_ n13_ n14_; clear hb hbox hg; obtain ⟨Ao32, co32, eo32⟩ := Kd.S_slice HO325.out; subst eo32; have p_ := NB328_321.out; have p_ := NB328_322.out; have p_ := NB328_0.out; have hcz36_0 : w31.cell? ⟨gb328, 0, none⟩ = some (.slice none 0 0) := cl BK328 0; have hfz36_0 := blk_frozen BK328.out 0) | ((with_reducible refine gate_callee (f := 58) rfl ?_); refine goesM_ (some 8) rfl rfl Try.func58 #[.pointer (some ⟨g, 0, none⟩), .int .i64 20] ?_; (with_reducible refine (spec_l1Once.calls g s0_0 t326 t327 20 false t330 t331 w0 _ ?side1 ?side2 A3.out).mono ?_); (case side1 => exact si HI0.out); (case side2 => exact bi HB.out); rintro e w37 ⟨rfl, hi, hb, hk⟩; refine ⟨_, rfl, ?_⟩; replace BK321 := am (kB hk (kf BK321.out) NB321_0); replace BK322 := am (kB hk (kf BK322.out) NB322_0); replace HO325 := am (Kd.S_mono (Kd.S_keep (IsS107.apartS (show IsS107 w0 _ g s0_0 t326 t327 from si HI0.out) (ks ((Kd.S_mono (Kd.S_far (p := ⟨gb328, 0, none⟩) (Kd.S_types HO325.out BK328.out (by decide)) (fun _ hk => hk.2) (.slice Ao32 t323.length co32)) (fun _ h_ => h_.1)))) (by decide)) hk (fun _ h => h.2)) (fun _ h => h.1)); replace BK328 := am (KeepBut.blk hk (g' := gb328) (o := .cells #[.slice Ao32 t323.length co32] 29 (0, 0)) (kt BK328.out) NB328_0.out (by simp)); replace HK := am (KeepBut.trans (kp HK.out) hk (.inl rfl)); replace HB := am (hb); replace HI0 := am (hi); (try clear hb); (try clear hk); (try clear hi)))
  replace HO325 := am (Kd.S_drew HO325.out)
  replace BK321 := am (blk_drew BK321.out)
  replace BK322 := am (blk_drew BK322.out)
  replace BK328 := am (blk_drew BK328.out)
  replace HI0 := am (IsS107.drew HI0.out)
  replace HK := am (keep_drew HK.out)
  replace HB := am (below_drew1 HB.out)
  refine start_ (n := 6) (S := fun w' => w'.cell? ⟨gb328, 0, none⟩ = some (.slice Ao32 t323.length co32)) (ds := []) (bm 6 0) (by kernel_rfl) rfl (by kernel_rfl) (cl BK328 0) (fun hHeld => ?_)
  generalize w37.drew = w38 at HO325 BK321 BK322 BK328 HI0 HK HB hHeld ⊢
  refine pv_ 1 (some 12) (bm 6 2) ?_
  refine tv_ 0 (some 11) (bm 6 3) hHeld ?_
  refine tv_ 2 (some 13) (bm 6 7) hHeld ?_
  refine ov_ 3 (some 14) (bm 6 15) (fun K hK => ?_)
  refine gw_ Try.func103 #[.pointer (some ⟨g, 0, none⟩), .agg #[.slice Ao32 t323.length co32]] ?_
  with_reducible refine (spec_l6DrawMem.calls k g s0_0 t330 t331 _ _ t323 t343 t346 t347 t348 w0 _ ?side1 ?side2 ?side3 ?side4 A27.out).mono ?_
  (case side1 => exact si HI0.out)
  (case side2 => exact bi HB.out)
  (case side3 => exact (Kd.C_foot_own ((Kd.S_R (IsS107.apartS (show IsS107 w0 _ g s0_0 t330 t331 from si HI0.out) (ks HO325.out) (by decide)))) (fun _ h_ => h_.2) :))
  (case side4 => exact (Kd.S_reads' HO325.out).2.1)
  rintro e w39 ⟨v344, rfl, ho0, hi, hb, hk⟩
  refine ⟨_, rfl, ?_⟩
  replace BK321 := am (kB hk (kb BK321.out) NB321_0)
  replace BK322 := am (kB hk (kb BK322.out) NB322_0)
  replace HO325 := am (Kd.S_mono (Kd.S_told (Kd.S_oldK (IsS107.apartS (show IsS107 w0 _ g s0_0 t330 t331 from si HI0.out) (ks HO325.out) (by decide)) hk) (Kd.Q_base ho0)) (fun _ h_ => h_.1))
  replace BK328 := am (kB hk (kb BK328.out) NB328_0)
  have HO345 := am (Kd.Q_lower ho0 (keep_size (w := w) (g := g) (row := none) (kp HK.out)))
  replace HK := am (KeepBut.trans (kp HK.out) hk (.inl rfl))
  replace HB := am (hb)
  replace HI0 := am (hi)
  (try clear hb); (try clear hk); (try clear hi); (try clear ho0)
  obtain ⟨Ao41, co41, eo41, _⟩ := Kd.Q_slice HO345.out
  (first | subst eo41 | (injection eo41 with f1_ f2_ f3_; have f4_ := f1_.symm; have f5_ := f3_.symm; clear f1_ f2_ f3_; subst f4_; subst f5_))
  refine hK.out _ _ (cl BK328 0) (fun hHeld => ?_)
  clear hK K
  refine nw_ 14 ?_
  refine ov_ 4 none (bm 6 31) (fun K hK => ?_)
  refine skip_ (w1 := ?_) (by rfl) rfl ?_ ?_
  rotate_left
  ·have hs40 : w39.cell? ⟨gb321, 0, none⟩ = some (.slice none 0 0) := cl BK321 0
   have f0 := blk_frozen BK321.out 0
   have p_ := NB322_321.out
   have p_ := NB328_321.out
   go_simp
   rfl
  refine hK.out _ _ ((fr NB328_321 (hHeld))) (fun hHeld => ?_)
  clear hK K
  refine ov_ 5 none (bm 6 63) (fun K hK => ?_)
  refine skip_ (w1 := ?_) (by rfl) rfl ?_ ?_
  rotate_left
  ·obtain ⟨a0, a1⟩ := ce2 BK322
   obtain ⟨f0, f1⟩ := fz2 BK322
   have p_ := NB321_322.out
   have p_ := NB328_322.out
   go_simp
   rfl
  refine hK.out _ _ ((fr NB328_322 (hHeld))) (fun hHeld => ?_)
  clear hK K
  refine done_ (by kernel_rfl) ?_
  try go_wp2
  refine bodyPost_ret (results_cc rfl _ _ gb321 gb322 29 32 #[.slice Ao32 t323.length co32] #[.slice Ao41 t343.length co41, .int .i64 t346] (0, 0) (0, 0) _ _ rfl (bf NB321_322 BK321.out) Try.underlying29 rfl (by kernel_rfl) rfl (bf NB322_321 BK322.out) Try.underlying32 rfl (by kernel_rfl)) rfl ?_
  exact ⟨_, _, rt, ks (Kd.S_mono (Kd.S_far (p := ⟨gb322, 1, none⟩) (Kd.S_far (p := ⟨gb322, 0, none⟩) (Kd.S_far (p := ⟨gb321, 0, none⟩) (Kd.S_types (Kd.S_types HO325.out BK321.out (by decide)) BK322.out (by decide)) (fun _ hk => hk.1.2) (.slice Ao32 t323.length co32)) (fun _ hk => hk.2) (.slice Ao41 t343.length co41)) (fun _ hk => hk.2) (.int .i64 t346)) (fun _ hk => hk.1.1.2)), kq (Kd.Q_mono (Kd.Q_far (p := ⟨gb322, 1, none⟩) (Kd.Q_far (p := ⟨gb322, 0, none⟩) (Kd.Q_far (p := ⟨gb321, 0, none⟩) (Kd.Q_types (Kd.Q_types HO345.out BK321.out (by decide)) BK322.out (by decide)) (fun _ hk => hk.1.2) (.slice Ao32 t323.length co32)) (fun _ hk => hk.2) (.slice Ao41 t343.length co41)) (fun _ hk => hk.2) (.int .i64 t346)) (fun _ hk => trivial)), si HI0.out, bi HB.out, kp HK.out⟩

/-! ### spec_l1DrawInt: function 75 -/
def spec_l1DrawInt.f (s0_0 : List Int) (s0_1 : Int) (s0_2 : Int) : Option (Int × Int × Int) := (spec_l1Once.f s0_0 s0_1 s0_2 9).bind fun bt349 => (if bt349.1 = true then ((spec_l1PickInt.f s0_0 bt349.2.1 bt349.2.2 (([(-1), 256, 65535, 65536, 9223372036854775807, (-9223372036854775808), 511] : List Int))).bind fun bt355 => (some (bt355.1, bt355.2.1, bt355.2.2))) else ((spec_l1Below.f s0_0 bt349.2.1 bt349.2.2 256).bind fun bt358 => (some (bt358.1, bt358.2.1, bt358.2.2))))
theorem spec_l1DrawInt.calls (g : Nat) (s0_0 : List Int) (s0_1 : Int) (s0_2 : Int) (r1 : Int) (r2 : Int) (r3 : Int) (w0 w : World) (hI : IsS107 w0 w g s0_0 s0_1 s0_2) (hB : Below w0.heap.size w0 w) (h : spec_l1DrawInt.f s0_0 s0_1 s0_2 = some (r1, r2, r3)) :
  Calls Try.prog 75 #[.pointer (some ⟨g, 0, none⟩)] w fun e w' => e = .returned (.int .i64 r1) ∧ IsS107 w0 w' g s0_0 r2 r3 ∧ Below w0.heap.size w0 w' ∧ KeepBut w w' g none := by
 have HI0 := am hI
 have HK := am (KeepBut.refl w g none)
 have HL := am hB.size
 clear hI
 have HW0 := am hB.size
 have HB := am hB
 clear hB
 have H : ((spec_l1Once.f s0_0 s0_1 s0_2 9).bind fun bt349 => (if bt349.1 = true then ((spec_l1PickInt.f s0_0 bt349.2.1 bt349.2.2 (([(-1), 256, 65535, 65536, 9223372036854775807, (-9223372036854775808), 511] : List Int))).bind fun bt355 => (some (bt355.1, bt355.2.1, bt355.2.2))) else ((spec_l1Below.f s0_0 bt349.2.1 bt349.2.2 256).bind fun bt358 => (some (bt358.1, bt358.2.1, bt358.2.2))))) = some (r1, r2, r3) := h
 clear h
 replace H := bs H
 obtain ⟨⟨t349, t350, t351⟩, A20, H⟩ := H
 replace H : (if t349 = true then ((spec_l1PickInt.f s0_0 t350 t351 (([(-1), 256, 65535, 65536, 9223372036854775807, (-9223372036854775808), 511] : List Int))).bind fun bt355 => (some (bt355.1, bt355.2.1, bt355.2.2))) else ((spec_l1Below.f s0_0 t350 t351 256).bind fun bt358 => (some (bt358.1, bt358.2.1, bt358.2.2)))) = some (r1, r2, r3) := H
 have A2 := am A20
 clear A20
 by_cases c3 : t349 = true
 ·subst c3
  have H1 : ((spec_l1PickInt.f s0_0 t350 t351 (([(-1), 256, 65535, 65536, 9223372036854775807, (-9223372036854775808), 511] : List Int))).bind fun bt355 => (some (bt355.1, bt355.2.1, bt355.2.2))) = some (r1, r2, r3) := by rw [if_pos rfl] at H; exact H
  clear H
  have H := H1
  clear H1
  obtain ⟨y352, hy352⟩ : ∃ y_ : List Int, y_ = (([(-1), 256, 65535, 65536, 9223372036854775807, (-9223372036854775808), 511] : List Int)) := ⟨_, rfl⟩
  replace H : ((spec_l1PickInt.f s0_0 t350 t351 y352).bind fun bt355 => (some (bt355.1, bt355.2.1, bt355.2.2))) = some (r1, r2, r3) := by first | (rw [hy352]; with_reducible exact H) | (have H2_ := (Option.bind_some _ _).symm.trans H; rw [hy352]; with_reducible exact H2_) | (have H2_ := (Option.bind_some _ _).symm.trans H; with_reducible exact H2_) | with_reducible exact H | (rw [hy352]; exact H) | exact H
  have Ny352 := am hy352
  clear hy352
  replace H := bs H
  obtain ⟨⟨t355, t356, t357⟩, A40, H⟩ := H
  replace H : (some (t355, t356, t357)) = some (r1, r2, r3) := H
  have A4 := am A40
  clear A40
  simp only [Option.some.injEq, Prod.mk.injEq] at H
  obtain ⟨rfl, rfl, rfl⟩ := H
  go_enter Try.func75, Try.ntmps75
  go_wp2_with (first | ((with_reducible refine gate_callee (f := 58) rfl ?_); refine goesM_ (some 4) rfl rfl Try.func58 #[.pointer (some ⟨g, 0, none⟩), .int .i64 9] ?_; (with_reducible refine (spec_l1Once.calls g s0_0 s0_1 s0_2 9 true t350 t351 w0 _ ?side1 ?side2 A2.out).mono ?_); (case side1 => exact si HI0.out); (case side2 => exact bi HB.out); rintro e w5 ⟨rfl, hi, hb, hk⟩; refine ⟨_, rfl, ?_⟩; replace HK := am (KeepBut.trans (kp HK.out) hk (.inl rfl)); replace HB := am (hb); replace HI0 := am (hi); (try clear hb); (try clear hk); (try clear hi)) | ((with_reducible refine gd 6 ?_); refine Kd.R_lit (Kd.int .i64) _ 3 ?hg (N := 6) ?hd (xs := ([(-1), 256, 65535, 65536, 9223372036854775807, (-9223372036854775808), 511] : List Int)) (inner := [.int .i64 (-1), .int .i64 256, .int .i64 65535, .int .i64 65536, .int .i64 9223372036854775807, .int .i64 (-9223372036854775808), .int .i64 511]) (ok := fun _ => True) (okp := fun _ => True) ?hr ?hp (fun _ hk => hk) trivial (Below.refl _ _) (Nat.le_refl _) (by simp) ?_; (case hd => rfl); (case hg => rfl); (case hr => first | (go_simp; done) | (go_simp; rfl)); (case hp => exact (reI _)); intro v353 w6 ho7 hb hg_ hnew_; clear hg_ hnew_; (first | rw [← Ny352.out] at ho7 | (simp only [Int.reduceToNat] at ho7; rw [← Ny352.out] at ho7)); have HO354 := am (Kd.R_lower ho7 (keep_size (w := w) (g := g) (row := none) (kp HK.out))); replace HI0 := am (IsS107.below (si HI0.out) hb); replace HK := am (KeepBut.trans (kp HK.out) (KeepBut.of_below hb g none) (.inl rfl)); replace HB := am (below_step (bi HB.out) hb); clear hb ho7; obtain ⟨Ao8, co8, eo8⟩ := Kd.R_slice HO354.out; subst eo8) | ((with_reducible refine gate_callee (f := 70) rfl ?_); refine goesM_ (some 7) rfl rfl Try.func70 #[.pointer (some ⟨g, 0, none⟩), .slice Ao8 y352.length co8] ?_; (with_reducible refine (spec_l1PickInt.calls g s0_0 t350 t351 _ _ y352 t355 t356 t357 w0 _ ?side1 ?side2 ?side3 ?side4 ?side5 A4.out).mono ?_); (case side1 => exact si HI0.out); (case side2 => exact bi HB.out); (case side3 => exact kc (Kd.R_reads' HO354.out).2.2); (case side4 => exact (Kd.R_reads' HO354.out).2.1); (case side5 => exact far_slice (IsS107.own_ne HI0.out HO354.out (by decide))); rintro e w9 ⟨rfl, hi, hb, hk⟩; refine ⟨_, rfl, ?_⟩; replace HO354 := am (Kd.R_mono (Kd.R_keep (IsS107.apart (show IsS107 w0 _ g s0_0 t350 t351 from si HI0.out) (kr HO354.out) (by decide)) hk (fun _ h => h.2)) (fun _ h => h.1)); replace HK := am (KeepBut.trans (kp HK.out) hk (.inl rfl)); replace HB := am (hb); replace HI0 := am (hi); (try clear hb); (try clear hk); (try clear hi)))
  go_ret
  exact ⟨rt, si HI0.out, bi HB.out, kp HK.out⟩
 ·replace c3 := Bool.eq_false_iff.mpr c3
  subst c3
  have H1 : ((spec_l1Below.f s0_0 t350 t351 256).bind fun bt358 => (some (bt358.1, bt358.2.1, bt358.2.2))) = some (r1, r2, r3) := by rw [if_neg (show ¬ (false = true) by decide)] at H; exact H
  clear H
  have H := H1
  clear H1
  replace H := bs H
  obtain ⟨⟨t358, t359, t360⟩, A100, H⟩ := H
  replace H : (some (t358, t359, t360)) = some (r1, r2, r3) := H
  have A10 := am A100
  clear A100
  simp only [Option.some.injEq, Prod.mk.injEq] at H
  obtain ⟨rfl, rfl, rfl⟩ := H
  go_enter Try.func75, Try.ntmps75
  go_wp2_with (first | ((with_reducible refine gate_callee (f := 58) rfl ?_); refine goesM_ (some 4) rfl rfl Try.func58 #[.pointer (some ⟨g, 0, none⟩), .int .i64 9] ?_; (with_reducible refine (spec_l1Once.calls g s0_0 s0_1 s0_2 9 false t350 t351 w0 _ ?side1 ?side2 A2.out).mono ?_); (case side1 => exact si HI0.out); (case side2 => exact bi HB.out); rintro e w11 ⟨rfl, hi, hb, hk⟩; refine ⟨_, rfl, ?_⟩; replace HK := am (KeepBut.trans (kp HK.out) hk (.inl rfl)); replace HB := am (hb); replace HI0 := am (hi); (try clear hb); (try clear hk); (try clear hi)) | ((with_reducible refine gate_callee (f := 60) rfl ?_); refine goesM_ (some 9) rfl rfl Try.func60 #[.pointer (some ⟨g, 0, none⟩), .int .i64 256] ?_; (with_reducible refine (spec_l1Below.calls g s0_0 t350 t351 256 t358 t359 t360 w0 _ ?side1 ?side2 A10.out).mono ?_); (case side1 => exact si HI0.out); (case side2 => exact bi HB.out); rintro e w12 ⟨rfl, hi, hb, hk⟩; refine ⟨_, rfl, ?_⟩; replace HK := am (KeepBut.trans (kp HK.out) hk (.inl rfl)); replace HB := am (hb); replace HI0 := am (hi); (try clear hb); (try clear hk); (try clear hi)))
  go_ret
  exact ⟨rt, si HI0.out, bi HB.out, kp HK.out⟩

/-! ### spec_l7DrawInstr: function 83 -/
def spec_l7DrawInstr.f (s0_0 : List Int) (s0_1 : Int) (s0_2 : Int) : Option (Int × Int × Int × Int) := (spec_l1Below.f s0_0 s0_1 s0_2 31).bind fun bt362 => ((spec_l1Below.f s0_0 bt362.2.1 bt362.2.2 256).bind fun bt365 => ((spec_l1PickInt.f s0_0 bt365.2.1 bt365.2.2 (([0, 1, 5, 127, 128, 255, 256, 8192, 49152, 65535, bt365.1] : List Int))).bind fun bt371 => (some (bt362.1, bt371.1, bt371.2.1, bt371.2.2))))
theorem spec_l7DrawInstr.calls (g : Nat) (s0_0 : List Int) (s0_1 : Int) (s0_2 : Int) (r1 : Int) (r2 : Int) (r3 : Int) (r4 : Int) (w0 w : World) (hI : IsS107 w0 w g s0_0 s0_1 s0_2) (hB : Below w0.heap.size w0 w) (h : spec_l7DrawInstr.f s0_0 s0_1 s0_2 = some (r1, r2, r3, r4)) :
  Calls Try.prog 83 #[.pointer (some ⟨g, 0, none⟩)] w fun e w' => e = .returned (.agg #[.int .i64 r1, .int .i64 r2]) ∧ IsS107 w0 w' g s0_0 r3 r4 ∧ Below w0.heap.size w0 w' ∧ KeepBut w w' g none := by
 have hu51 := Try.underlying51
 have HI0 := am hI
 have HK := am (KeepBut.refl w g none)
 have HL := am hB.size
 clear hI
 have HW0 := am hB.size
 have HB := am hB
 clear hB
 have H : ((spec_l1Below.f s0_0 s0_1 s0_2 31).bind fun bt362 => ((spec_l1Below.f s0_0 bt362.2.1 bt362.2.2 256).bind fun bt365 => ((spec_l1PickInt.f s0_0 bt365.2.1 bt365.2.2 (([0, 1, 5, 127, 128, 255, 256, 8192, 49152, 65535, bt365.1] : List Int))).bind fun bt371 => (some (bt362.1, bt371.1, bt371.2.1, bt371.2.2))))) = some (r1, r2, r3, r4) := h
 clear h
 replace H := bs H
 obtain ⟨⟨t362, t363, t364⟩, A20, H⟩ := H
 replace H : ((spec_l1Below.f s0_0 t363 t364 256).bind fun bt365 => ((spec_l1PickInt.f s0_0 bt365.2.1 bt365.2.2 (([0, 1, 5, 127, 128, 255, 256, 8192, 49152, 65535, bt365.1] : List Int))).bind fun bt371 => (some (t362, bt371.1, bt371.2.1, bt371.2.2)))) = some (r1, r2, r3, r4) := H
 have A2 := am A20
 clear A20
 replace H := bs H
 obtain ⟨⟨t365, t366, t367⟩, A30, H⟩ := H
 replace H : ((spec_l1PickInt.f s0_0 t366 t367 (([0, 1, 5, 127, 128, 255, 256, 8192, 49152, 65535, t365] : List Int))).bind fun bt371 => (some (t362, bt371.1, bt371.2.1, bt371.2.2))) = some (r1, r2, r3, r4) := H
 have A3 := am A30
 clear A30
 obtain ⟨y368, hy368⟩ : ∃ y_ : List Int, y_ = (([0, 1, 5, 127, 128, 255, 256, 8192, 49152, 65535, t365] : List Int)) := ⟨_, rfl⟩
 replace H : ((spec_l1PickInt.f s0_0 t366 t367 y368).bind fun bt371 => (some (t362, bt371.1, bt371.2.1, bt371.2.2))) = some (r1, r2, r3, r4) := by first | (rw [hy368]; with_reducible exact H) | (have H2_ := (Option.bind_some _ _).symm.trans H; rw [hy368]; with_reducible exact H2_) | (have H2_ := (Option.bind_some _ _).symm.trans H; with_reducible exact H2_) | with_reducible exact H | (rw [hy368]; exact H) | exact H
 have Ny368 := am hy368
 clear hy368
 replace H := bs H
 obtain ⟨⟨t371, t372, t373⟩, A40, H⟩ := H
 replace H : (some (t362, t371, t372, t373)) = some (r1, r2, r3, r4) := H
 have A4 := am A40
 clear A40
 simp only [Option.some.injEq, Prod.mk.injEq] at H
 obtain ⟨rfl, rfl, rfl, rfl⟩ := H
 go_enter Try.func83, Try.ntmps83
 go_wp2_with (first | ((with_reducible refine gd 2 ?_); refine bx (N := 2) (cs := #[.int .i64 0, .int .i64 0]) (t := 51) ?_; intro gb361 hg w5 hbox hb; have n0_ := am (IsS107.below (si HI0.out) hb); have n1_ := am (KeepBut.trans (kp HK.out) (KeepBut.of_below hb g none) (.inl rfl)); have n2_ := am (below_step (bi HB.out) hb); have n3_ := am (hbox); have n4_ := am ((by rw [hg]; exact (keep_size (w := w) (g := g) (row := none) (kp HK.out)) : w.heap.size ≤ gb361)); have n5_ := am ((Nat.le_trans HW0.out (by rw [hg]; exact (keep_size (w := w) (g := g) (row := none) (kp HK.out)) : w.heap.size ≤ gb361) : w0.heap.size ≤ gb361)); have n6_ := am ((by rw [hg]; exact Nat.ne_of_lt (IsS107.lt (show IsS107 w0 _ g s0_0 s0_1 s0_2 from si HI0.out)) : g ≠ gb361)); have n7_ := am ((by rw [hg]; exact Nat.ne_of_gt (IsS107.lt (show IsS107 w0 _ g s0_0 s0_1 s0_2 from si HI0.out)) : gb361 ≠ g)); clear HI0; clear HK; clear HB; have HI0 := n0_; have HK := n1_; have HB := n2_; have BK361 := n3_; have GW361 := n4_; have GE361 := n5_; have NB0_361 := n6_; have NB361_0 := n7_; clear n0_ n1_ n2_ n3_ n4_ n5_ n6_ n7_; clear hb hbox hg) | ((with_reducible refine gate_callee (f := 60) rfl ?_); refine goesM_ (some 4) rfl rfl Try.func60 #[.pointer (some ⟨g, 0, none⟩), .int .i64 31] ?_; (with_reducible refine (spec_l1Below.calls g s0_0 s0_1 s0_2 31 t362 t363 t364 w0 _ ?side1 ?side2 A2.out).mono ?_); (case side1 => exact si HI0.out); (case side2 => exact bi HB.out); rintro e w6 ⟨rfl, hi, hb, hk⟩; refine ⟨_, rfl, ?_⟩; replace BK361 := am (kB hk (kb BK361.out) NB361_0); replace HK := am (KeepBut.trans (kp HK.out) hk (.inl rfl)); replace HB := am (hb); replace HI0 := am (hi); (try clear hb); (try clear hk); (try clear hi)) | ((with_reducible refine gate_callee (f := 60) rfl ?_); refine goesM_ (some 7) rfl rfl Try.func60 #[.pointer (some ⟨g, 0, none⟩), .int .i64 256] ?_; (with_reducible refine (spec_l1Below.calls g s0_0 t363 t364 256 t365 t366 t367 w0 _ ?side1 ?side2 A3.out).mono ?_); (case side1 => exact si HI0.out); (case side2 => exact bi HB.out); rintro e w7 ⟨rfl, hi, hb, hk⟩; refine ⟨_, rfl, ?_⟩; replace BK361 := am (kB hk (kb BK361.out) NB361_0); replace HK := am (KeepBut.trans (kp HK.out) hk (.inl rfl)); replace HB := am (hb); replace HI0 := am (hi); (try clear hb); (try clear hk); (try clear hi)) | ((with_reducible refine gd 8 ?_); refine Kd.R_lit (Kd.int .i64) _ 3 ?hg (N := 8) ?hd (xs := ([0, 1, 5, 127, 128, 255, 256, 8192, 49152, 65535, t365] : List Int)) (inner := [.int .i64 0, .int .i64 1, .int .i64 5, .int .i64 127, .int .i64 128, .int .i64 255, .int .i64 256, .int .i64 8192, .int .i64 49152, .int .i64 65535, .int .i64 t365]) (ok := fun _ => True) (okp := fun _ => True) ?hr ?hp (fun _ hk => hk) trivial (Below.refl _ _) (Nat.le_refl _) (by simp) ?_; (case hd => rfl); (case hg => rfl); (case hr => first | (go_simp; done) | (go_simp; rfl)); (case hp => exact (reI _)); intro v369 w8 ho9 hb hg_ hnew_; clear hg_ hnew_; (first | rw [← Ny368.out] at ho9 | (simp only [Int.reduceToNat] at ho9; rw [← Ny368.out] at ho9)); have HO370 := am (Kd.R_lower ho9 (keep_size (w := w) (g := g) (row := none) (kp HK.out))); replace HI0 := am (IsS107.below (si HI0.out) hb); replace BK361 := am (bb BK361 hb); replace HK := am (KeepBut.trans (kp HK.out) (KeepBut.of_below hb g none) (.inl rfl)); replace HB := am (below_step (bi HB.out) hb); clear hb ho9; obtain ⟨Ao10, co10, eo10⟩ := Kd.R_slice HO370.out; subst eo10) | ((with_reducible refine gate_callee (f := 70) rfl ?_); refine goesM_ (some 9) rfl rfl Try.func70 #[.pointer (some ⟨g, 0, none⟩), .slice Ao10 y368.length co10] ?_; (with_reducible refine (spec_l1PickInt.calls g s0_0 t366 t367 _ _ y368 t371 t372 t373 w0 _ ?side1 ?side2 ?side3 ?side4 ?side5 A4.out).mono ?_); (case side1 => exact si HI0.out); (case side2 => exact bi HB.out); (case side3 => exact kc (Kd.R_reads' HO370.out).2.2); (case side4 => exact (Kd.R_reads' HO370.out).2.1); (case side5 => exact far_slice (IsS107.own_ne HI0.out HO370.out (by decide))); rintro e w11 ⟨rfl, hi, hb, hk⟩; refine ⟨_, rfl, ?_⟩; replace BK361 := am (kB hk (kb BK361.out) NB361_0); replace HO370 := am (Kd.R_mono (Kd.R_keep (IsS107.apart (show IsS107 w0 _ g s0_0 t366 t367 from si HI0.out) (kr HO370.out) (by decide)) hk (fun _ h => h.2)) (fun _ h => h.1)); replace HK := am (KeepBut.trans (kp HK.out) hk (.inl rfl)); replace HB := am (hb); replace HI0 := am (hi); (try clear hb); (try clear hk); (try clear hi); have p_ := NB361_0.out; obtain ⟨hcz13_0, hcz13_1⟩ := ce2 BK361; obtain ⟨hfz13_0, hfz13_1⟩ := fz2 BK361))
 refine bodyPost_ret (results_cell_row rfl _ _ gb361 51 #[.int .i64 t362, .int .i64 t371] (0, 0) _ rfl (bq BK361.out) Try.underlying51 rfl (by kernel_rfl)) rfl ?_
 exact ⟨rt, si HI0.out, bi HB.out, kp HK.out⟩

/-! ### spec_WithFlags: function 95 -/
def spec_WithFlags.f (a0_0 : Int) (a0_1 : Int) (a0_2 : Int) (a0_3 : Int) (a0_4 : Bool) (a0_5 : Bool) (a0_6 : Bool) (a0_7 : Bool) (a1 : Int) : Option (Int × Int × Int × Int × Bool × Bool × Bool × Bool) := some (a0_0, a0_1, a0_2, a0_3, ((Go.bits .and .i64 a1 2) != 0), ((Go.bits .and .i64 a1 128) != 0), ((Go.bits .and .i64 a1 1) != 0), ((Go.bits .and .i64 a1 4) != 0))
theorem spec_WithFlags.calls (a0_0 : Int) (a0_1 : Int) (a0_2 : Int) (a0_3 : Int) (a0_4 : Bool) (a0_5 : Bool) (a0_6 : Bool) (a0_7 : Bool) (a1 : Int) (r1 : Int) (r2 : Int) (r3 : Int) (r4 : Int) (r5 : Bool) (r6 : Bool) (r7 : Bool) (r8 : Bool) (w : World) (h : spec_WithFlags.f a0_0 a0_1 a0_2 a0_3 a0_4 a0_5 a0_6 a0_7 a1 = some (r1, r2, r3, r4, r5, r6, r7, r8)) :
  Calls Try.prog 95 #[.agg #[.int .i64 a0_0, .int .i64 a0_1, .int .i64 a0_2, .int .i64 a0_3, .bool a0_4, .bool a0_5, .bool a0_6, .bool a0_7], .int .i64 a1] w fun e w' => e = .returned (.agg #[.int .i64 r1, .int .i64 r2, .int .i64 r3, .int .i64 r4, .bool r5, .bool r6, .bool r7, .bool r8]) ∧ Below w.heap.size w w' := by
 have hu55 := Try.underlying55
 have HB := am (Below.refl w.heap.size w)
 have H : (some (a0_0, a0_1, a0_2, a0_3, ((Go.bits .and .i64 a1 2) != 0), ((Go.bits .and .i64 a1 128) != 0), ((Go.bits .and .i64 a1 1) != 0), ((Go.bits .and .i64 a1 4) != 0))) = some (r1, r2, r3, r4, r5, r6, r7, r8) := h
 clear h
 simp only [Option.some.injEq, Prod.mk.injEq] at H
 obtain ⟨rfl, rfl, rfl, rfl, rfl, rfl, rfl, rfl⟩ := H
 go_enter Try.func95, Try.ntmps95
 go_wp2_with (first | ((with_reducible refine gd 2 ?_); refine bx (N := 2) (cs := #[.int .i64 a0_0, .int .i64 a0_1, .int .i64 a0_2, .int .i64 a0_3, .bool a0_4, .bool a0_5, .bool a0_6, .bool a0_7]) (t := 55) ?_; intro gb374 hg w3 hbox hb; have BK374 := am (hbox); have GW374 := am ((gs hg (bw HB.out))); have GE374 := am ((gs hg (bw HB.out))); replace HB := am (below_step (bw HB.out) hb); clear hb hbox hg) | ((with_reducible refine gd 4 ?_); refine bz (N := 4) ?_; intro gb375 hg w4 hbox hb; have BK375 := am (hbox); have GW375 := am ((gs hg (bw HB.out))); have GE375 := am ((gs hg (bw HB.out))); replace HB := am (below_step (bw HB.out) hb); have NB374_375 := am ((ga hg BK374.out)); have NB375_374 := am ((gc hg BK374.out)); replace BK374 := am (bb BK374 hb); clear hb hbox hg; have p_ := NB374_375.out; obtain ⟨hcz6_0, hcz6_1, hcz6_2, hcz6_3, hcz6_4, hcz6_5, hcz6_6, hcz6_7⟩ := ce8 BK374; obtain ⟨hfz6_0, hfz6_1, hfz6_2, hfz6_3, hfz6_4, hfz6_5, hfz6_6, hfz6_7⟩ := fz8 BK374; obtain ⟨hcz7_0, hcz7_1, hcz7_2, hcz7_3, hcz7_4, hcz7_5, hcz7_6, hcz7_7⟩ := ce8 BK375; obtain ⟨hfz7_0, hfz7_1, hfz7_2, hfz7_3, hfz7_4, hfz7_5, hfz7_6, hfz7_7⟩ := fz8 BK375))
 refine bodyPost_ret (results_cell_row rfl _ _ gb375 55 #[.int .i64 a0_0, .int .i64 a0_1, .int .i64 a0_2, .int .i64 a0_3, .bool ((Go.bits .and .i64 a1 2) != 0), .bool ((Go.bits .and .i64 a1 128) != 0), .bool ((Go.bits .and .i64 a1 1) != 0), .bool ((Go.bits .and .i64 a1 4) != 0)] (0, 0) _ rfl (bf NB375_374 BK375.out) Try.underlying55 rfl (by kernel_rfl)) rfl ?_
 exact ⟨rt, bw HB.out⟩

/-! ### spec_l5DrawRight: function 108 -/
def spec_l5DrawRight.f (s0_0 : List Int) (s0_1 : Int) (s0_2 : Int) : Option (Int × Int × Int × Int × Bool × Bool × Bool × Bool × Int × Int) := (spec_l1Below.f s0_0 s0_1 s0_2 256).bind fun bt377 => ((spec_l1Below.f s0_0 bt377.2.1 bt377.2.2 256).bind fun bt380 => ((spec_l1PickInt.f s0_0 bt380.2.1 bt380.2.2 (([0, 1, 2, 255, 254, 128] : List Int))).bind fun bt386 => ((spec_l1PickInt.f s0_0 bt386.2.1 bt386.2.2 (([0, 49152, 49200, 65535, 65534, 32768, 8192, 511] : List Int))).bind fun bt392 => ((spec_l1Below.f s0_0 bt392.2.1 bt392.2.2 256).bind fun bt395 => ((spec_WithFlags.f bt377.1 bt380.1 bt386.1 bt392.1 false false false false bt395.1).bind fun bt398 => (some (bt398.1, bt398.2.1, bt398.2.2.1, bt398.2.2.2.1, bt398.2.2.2.2.1, bt398.2.2.2.2.2.1, bt398.2.2.2.2.2.2.1, bt398.2.2.2.2.2.2.2, bt395.2.1, bt395.2.2)))))))
theorem spec_l5DrawRight.calls (g : Nat) (s0_0 : List Int) (s0_1 : Int) (s0_2 : Int) (r1 : Int) (r2 : Int) (r3 : Int) (r4 : Int) (r5 : Bool) (r6 : Bool) (r7 : Bool) (r8 : Bool) (r9 : Int) (r10 : Int) (w0 w : World) (hI : IsS107 w0 w g s0_0 s0_1 s0_2) (hB : Below w0.heap.size w0 w) (h : spec_l5DrawRight.f s0_0 s0_1 s0_2 = some (r1, r2, r3, r4, r5, r6, r7, r8, r9, r10)) :
  Calls Try.prog 108 #[.pointer (some ⟨g, 0, none⟩)] w fun e w' => e = .returned (.agg #[.int .i64 r1, .int .i64 r2, .int .i64 r3, .int .i64 r4, .bool r5, .bool r6, .bool r7, .bool r8]) ∧ IsS107 w0 w' g s0_0 r9 r10 ∧ Below w0.heap.size w0 w' ∧ KeepBut w w' g none := by
 have hu55 := Try.underlying55
 have HI0 := am hI
 have HK := am (KeepBut.refl w g none)
 have HL := am hB.size
 clear hI
 have HW0 := am hB.size
 have HB := am hB
 clear hB
 have H : ((spec_l1Below.f s0_0 s0_1 s0_2 256).bind fun bt377 => ((spec_l1Below.f s0_0 bt377.2.1 bt377.2.2 256).bind fun bt380 => ((spec_l1PickInt.f s0_0 bt380.2.1 bt380.2.2 (([0, 1, 2, 255, 254, 128] : List Int))).bind fun bt386 => ((spec_l1PickInt.f s0_0 bt386.2.1 bt386.2.2 (([0, 49152, 49200, 65535, 65534, 32768, 8192, 511] : List Int))).bind fun bt392 => ((spec_l1Below.f s0_0 bt392.2.1 bt392.2.2 256).bind fun bt395 => ((spec_WithFlags.f bt377.1 bt380.1 bt386.1 bt392.1 false false false false bt395.1).bind fun bt398 => (some (bt398.1, bt398.2.1, bt398.2.2.1, bt398.2.2.2.1, bt398.2.2.2.2.1, bt398.2.2.2.2.2.1, bt398.2.2.2.2.2.2.1, bt398.2.2.2.2.2.2.2, bt395.2.1, bt395.2.2)))))))) = some (r1, r2, r3, r4, r5, r6, r7, r8, r9, r10) := h
 clear h
 replace H := bs H
 obtain ⟨⟨t377, t378, t379⟩, A20, H⟩ := H
 replace H : ((spec_l1Below.f s0_0 t378 t379 256).bind fun bt380 => ((spec_l1PickInt.f s0_0 bt380.2.1 bt380.2.2 (([0, 1, 2, 255, 254, 128] : List Int))).bind fun bt386 => ((spec_l1PickInt.f s0_0 bt386.2.1 bt386.2.2 (([0, 49152, 49200, 65535, 65534, 32768, 8192, 511] : List Int))).bind fun bt392 => ((spec_l1Below.f s0_0 bt392.2.1 bt392.2.2 256).bind fun bt395 => ((spec_WithFlags.f t377 bt380.1 bt386.1 bt392.1 false false false false bt395.1).bind fun bt398 => (some (bt398.1, bt398.2.1, bt398.2.2.1, bt398.2.2.2.1, bt398.2.2.2.2.1, bt398.2.2.2.2.2.1, bt398.2.2.2.2.2.2.1, bt398.2.2.2.2.2.2.2, bt395.2.1, bt395.2.2))))))) = some (r1, r2, r3, r4, r5, r6, r7, r8, r9, r10) := H
 have A2 := am A20
 clear A20
 replace H := bs H
 obtain ⟨⟨t380, t381, t382⟩, A30, H⟩ := H
 replace H : ((spec_l1PickInt.f s0_0 t381 t382 (([0, 1, 2, 255, 254, 128] : List Int))).bind fun bt386 => ((spec_l1PickInt.f s0_0 bt386.2.1 bt386.2.2 (([0, 49152, 49200, 65535, 65534, 32768, 8192, 511] : List Int))).bind fun bt392 => ((spec_l1Below.f s0_0 bt392.2.1 bt392.2.2 256).bind fun bt395 => ((spec_WithFlags.f t377 t380 bt386.1 bt392.1 false false false false bt395.1).bind fun bt398 => (some (bt398.1, bt398.2.1, bt398.2.2.1, bt398.2.2.2.1, bt398.2.2.2.2.1, bt398.2.2.2.2.2.1, bt398.2.2.2.2.2.2.1, bt398.2.2.2.2.2.2.2, bt395.2.1, bt395.2.2)))))) = some (r1, r2, r3, r4, r5, r6, r7, r8, r9, r10) := H
 have A3 := am A30
 clear A30
 obtain ⟨y383, hy383⟩ : ∃ y_ : List Int, y_ = (([0, 1, 2, 255, 254, 128] : List Int)) := ⟨_, rfl⟩
 replace H : ((spec_l1PickInt.f s0_0 t381 t382 y383).bind fun bt386 => ((spec_l1PickInt.f s0_0 bt386.2.1 bt386.2.2 (([0, 49152, 49200, 65535, 65534, 32768, 8192, 511] : List Int))).bind fun bt392 => ((spec_l1Below.f s0_0 bt392.2.1 bt392.2.2 256).bind fun bt395 => ((spec_WithFlags.f t377 t380 bt386.1 bt392.1 false false false false bt395.1).bind fun bt398 => (some (bt398.1, bt398.2.1, bt398.2.2.1, bt398.2.2.2.1, bt398.2.2.2.2.1, bt398.2.2.2.2.2.1, bt398.2.2.2.2.2.2.1, bt398.2.2.2.2.2.2.2, bt395.2.1, bt395.2.2)))))) = some (r1, r2, r3, r4, r5, r6, r7, r8, r9, r10) := by first | (rw [hy383]; with_reducible exact H) | (have H2_ := (Option.bind_some _ _).symm.trans H; rw [hy383]; with_reducible exact H2_) | (have H2_ := (Option.bind_some _ _).symm.trans H; with_reducible exact H2_) | with_reducible exact H | (rw [hy383]; exact H) | exact H
 have Ny383 := am hy383
 clear hy383
 replace H := bs H
 obtain ⟨⟨t386, t387, t388⟩, A40, H⟩ := H
 replace H : ((spec_l1PickInt.f s0_0 t387 t388 (([0, 49152, 49200, 65535, 65534, 32768, 8192, 511] : List Int))).bind fun bt392 => ((spec_l1Below.f s0_0 bt392.2.1 bt392.2.2 256).bind fun bt395 => ((spec_WithFlags.f t377 t380 t386 bt392.1 false false false false bt395.1).bind fun bt398 => (some (bt398.1, bt398.2.1, bt398.2.2.1, bt398.2.2.2.1, bt398.2.2.2.2.1, bt398.2.2.2.2.2.1, bt398.2.2.2.2.2.2.1, bt398.2.2.2.2.2.2.2, bt395.2.1, bt395.2.2))))) = some (r1, r2, r3, r4, r5, r6, r7, r8, r9, r10) := H
 have A4 := am A40
 clear A40
 obtain ⟨y389, hy389⟩ : ∃ y_ : List Int, y_ = (([0, 49152, 49200, 65535, 65534, 32768, 8192, 511] : List Int)) := ⟨_, rfl⟩
 replace H : ((spec_l1PickInt.f s0_0 t387 t388 y389).bind fun bt392 => ((spec_l1Below.f s0_0 bt392.2.1 bt392.2.2 256).bind fun bt395 => ((spec_WithFlags.f t377 t380 t386 bt392.1 false false false false bt395.1).bind fun bt398 => (some (bt398.1, bt398.2.1, bt398.2.2.1, bt398.2.2.2.1, bt398.2.2.2.2.1, bt398.2.2.2.2.2.1, bt398.2.2.2.2.2.2.1, bt398.2.2.2.2.2.2.2, bt395.2.1, bt395.2.2))))) = some (r1, r2, r3, r4, r5, r6, r7, r8, r9, r10) := by first | (rw [hy389]; with_reducible exact H) | (have H2_ := (Option.bind_some _ _).symm.trans H; rw [hy389]; with_reducible exact H2_) | (have H2_ := (Option.bind_some _ _).symm.trans H; with_reducible exact H2_) | with_reducible exact H | (rw [hy389]; exact H) | exact H
 have Ny389 := am hy389
 clear hy389
 replace H := bs H
 obtain ⟨⟨t392, t393, t394⟩, A50, H⟩ := H
 replace H : ((spec_l1Below.f s0_0 t393 t394 256).bind fun bt395 => ((spec_WithFlags.f t377 t380 t386 t392 false false false false bt395.1).bind fun bt398 => (some (bt398.1, bt398.2.1, bt398.2.2.1, bt398.2.2.2.1, bt398.2.2.2.2.1, bt398.2.2.2.2.2.1, bt398.2.2.2.2.2.2.1, bt398.2.2.2.2.2.2.2, bt395.2.1, bt395.2.2)))) = some (r1, r2, r3, r4, r5, r6, r7, r8, r9, r10) := H
 have A5 := am A50
 clear A50
 replace H := bs H
 obtain ⟨⟨t395, t396, t397⟩, A60, H⟩ := H
 replace H : ((spec_WithFlags.f t377 t380 t386 t392 false false false false t395).bind fun bt398 => (some (bt398.1, bt398.2.1, bt398.2.2.1, bt398.2.2.2.1, bt398.2.2.2.2.1, bt398.2.2.2.2.2.1, bt398.2.2.2.2.2.2.1, bt398.2.2.2.2.2.2.2, t396, t397))) = some (r1, r2, r3, r4, r5, r6, r7, r8, r9, r10) := H
 have A6 := am A60
 clear A60
 replace H := bs H
 obtain ⟨⟨t398, t399, t400, t401, t402, t403, t404, t405⟩, A70, H⟩ := H
 replace H : (some (t398, t399, t400, t401, t402, t403, t404, t405, t396, t397)) = some (r1, r2, r3, r4, r5, r6, r7, r8, r9, r10) := H
 have A7 := am A70
 clear A70
 simp only [Option.some.injEq, Prod.mk.injEq] at H
 obtain ⟨rfl, rfl, rfl, rfl, rfl, rfl, rfl, rfl, rfl, rfl⟩ := H
 go_enter Try.func108, Try.ntmps108
 go_wp2_with (first | ((with_reducible refine gd 2 ?_); refine bz (N := 2) ?_; intro gb376 hg w8 hbox hb; have n0_ := am (IsS107.below (si HI0.out) hb); have n1_ := am (KeepBut.trans (kp HK.out) (KeepBut.of_below hb g none) (.inl rfl)); have n2_ := am (below_step (bi HB.out) hb); have n3_ := am (hbox); have n4_ := am ((by rw [hg]; exact (keep_size (w := w) (g := g) (row := none) (kp HK.out)) : w.heap.size ≤ gb376)); have n5_ := am ((Nat.le_trans HW0.out (by rw [hg]; exact (keep_size (w := w) (g := g) (row := none) (kp HK.out)) : w.heap.size ≤ gb376) : w0.heap.size ≤ gb376)); have n6_ := am ((by rw [hg]; exact Nat.ne_of_lt (IsS107.lt (show IsS107 w0 _ g s0_0 s0_1 s0_2 from si HI0.out)) : g ≠ gb376)); have n7_ := am ((by rw [hg]; exact Nat.ne_of_gt (IsS107.lt (show IsS107 w0 _ g s0_0 s0_1 s0_2 from si HI0.out)) : gb376 ≠ g)); clear HI0; clear HK; clear HB; have HI0 := n0_; have HK := n1_; have HB := n2_; have BK376 := n3_; have GW376 := n4_; have GE376 := n5_; have NB0_376 := n6_; have NB376_0 := n7_; clear n0_ n1_ n2_ n3_ n4_ n5_ n6_ n7_; clear hb hbox hg) | ((with_reducible refine gate_callee (f := 60) rfl ?_); refine goesM_ (some 4) rfl rfl Try.func60 #[.pointer (some ⟨g, 0, none⟩), .int .i64 256] ?_; (with_reducible refine (spec_l1Below.calls g s0_0 s0_1 s0_2 256 t377 t378 t379 w0 _ ?side1 ?side2 A2.out).mono ?_); (case side1 => exact si HI0.out); (case side2 => exact bi HB.out); rintro e w9 ⟨rfl, hi, hb, hk⟩; refine ⟨_, rfl, ?_⟩; replace BK376 := am (kB hk (kb BK376.out) NB376_0); replace HK := am (KeepBut.trans (kp HK.out) hk (.inl rfl)); replace HB := am (hb); replace HI0 := am (hi); (try clear hb); (try clear hk); (try clear hi)) | ((with_reducible refine gate_callee (f := 60) rfl ?_); refine goesM_ (some 6) rfl rfl Try.func60 #[.pointer (some ⟨g, 0, none⟩), .int .i64 256] ?_; (with_reducible refine (spec_l1Below.calls g s0_0 t378 t379 256 t380 t381 t382 w0 _ ?side1 ?side2 A3.out).mono ?_); (case side1 => exact si HI0.out); (case side2 => exact bi HB.out); rintro e w10 ⟨rfl, hi, hb, hk⟩; refine ⟨_, rfl, ?_⟩; replace BK376 := am (kB hk (kb BK376.out) NB376_0); replace HK := am (KeepBut.trans (kp HK.out) hk (.inl rfl)); replace HB := am (hb); replace HI0 := am (hi); (try clear hb); (try clear hk); (try clear hi)) | ((with_reducible refine gd 8 ?_); refine Kd.R_lit (Kd.int .i64) _ 3 ?hg (N := 8) ?hd (xs := ([0, 1, 2, 255, 254, 128] : List Int)) (inner := [.int .i64 0, .int .i64 1, .int .i64 2, .int .i64 255, .int .i64 254, .int .i64 128]) (ok := fun _ => True) (okp := fun _ => True) ?hr ?hp (fun _ hk => hk) trivial (Below.refl _ _) (Nat.le_refl _) (by simp) ?_; (case hd => rfl); (case hg => rfl); (case hr => first | (go_simp; done) | (go_simp; rfl)); (case hp => exact (reI _)); intro v384 w11 ho12 hb hg_ hnew_; clear hg_ hnew_; (first | rw [← Ny383.out] at ho12 | (simp only [Int.reduceToNat] at ho12; rw [← Ny383.out] at ho12)); have HO385 := am (Kd.R_lower ho12 (keep_size (w := w) (g := g) (row := none) (kp HK.out))); replace HI0 := am (IsS107.below (si HI0.out) hb); replace BK376 := am (bb BK376 hb); replace HK := am (KeepBut.trans (kp HK.out) (KeepBut.of_below hb g none) (.inl rfl)); replace HB := am (below_step (bi HB.out) hb); clear hb ho12; obtain ⟨Ao13, co13, eo13⟩ := Kd.R_slice HO385.out; subst eo13) | ((with_reducible refine gate_callee (f := 70) rfl ?_); refine goesM_ (some 9) rfl rfl Try.func70 #[.pointer (some ⟨g, 0, none⟩), .slice Ao13 y383.length co13] ?_; (with_reducible refine (spec_l1PickInt.calls g s0_0 t381 t382 _ _ y383 t386 t387 t388 w0 _ ?side1 ?side2 ?side3 ?side4 ?side5 A4.out).mono ?_); (case side1 => exact si HI0.out); (case side2 => exact bi HB.out); (case side3 => exact kc (Kd.R_reads' HO385.out).2.2); (case side4 => exact (Kd.R_reads' HO385.out).2.1); (case side5 => exact far_slice (IsS107.own_ne HI0.out HO385.out (by decide))); rintro e w14 ⟨rfl, hi, hb, hk⟩; refine ⟨_, rfl, ?_⟩; replace BK376 := am (kB hk (kb BK376.out) NB376_0); replace HO385 := am (Kd.R_mono (Kd.R_keep (IsS107.apart (show IsS107 w0 _ g s0_0 t381 t382 from si HI0.out) (kr HO385.out) (by decide)) hk (fun _ h => h.2)) (fun _ h => h.1)); replace HK := am (KeepBut.trans (kp HK.out) hk (.inl rfl)); replace HB := am (hb); replace HI0 := am (hi); (try clear hb); (try clear hk); (try clear hi)) | ((with_reducible refine gd 11 ?_); refine Kd.R_lit (Kd.int .i64) _ 3 ?hg (N := 11) ?hd (xs := ([0, 49152, 49200, 65535, 65534, 32768, 8192, 511] : List Int)) (inner := [.int .i64 0, .int .i64 49152, .int .i64 49200, .int .i64 65535, .int .i64 65534, .int .i64 32768, .int .i64 8192, .int .i64 511]) (ok := fun _ => True) (okp := fun _ => True) ?hr ?hp (fun _ hk => hk) trivial (Below.refl _ _) (Nat.le_refl _) (by simp) ?_; (case hd => rfl); (case hg => rfl); (case hr => first | (go_simp; done) | (go_simp; rfl)); (case hp => exact (reI _)); intro v390 w15 ho16 hb hg_ hnew_; clear hg_ hnew_; (first | rw [← Ny389.out] at ho16 | (simp only [Int.reduceToNat] at ho16; rw [← Ny389.out] at ho16)); have HO391 := am (Kd.R_lower (Kd.R_new' ho16 (Kd.R_lt (kr HO385.out))) (keep_size (w := w) (g := g) (row := none) (kp HK.out))); replace HO385 := am (Kd.R_elder' (kr HO385.out) (Kd.R_base ho16) hb); replace HI0 := am (IsS107.below (si HI0.out) hb); replace BK376 := am (bb BK376 hb); replace HK := am (KeepBut.trans (kp HK.out) (KeepBut.of_below hb g none) (.inl rfl)); replace HB := am (below_step (bi HB.out) hb); clear hb ho16; obtain ⟨Ao17, co17, eo17⟩ := Kd.R_slice HO391.out; subst eo17) | ((with_reducible refine gate_callee (f := 70) rfl ?_); refine goesM_ (some 12) rfl rfl Try.func70 #[.pointer (some ⟨g, 0, none⟩), .slice Ao17 y389.length co17] ?_; (with_reducible refine (spec_l1PickInt.calls g s0_0 t387 t388 _ _ y389 t392 t393 t394 w0 _ ?side1 ?side2 ?side3 ?side4 ?side5 A5.out).mono ?_); (case side1 => exact si HI0.out); (case side2 => exact bi HB.out); (case side3 => exact kc (Kd.R_reads' HO391.out).2.2); (case side4 => exact (Kd.R_reads' HO391.out).2.1); (case side5 => exact far_slice (IsS107.own_ne HI0.out HO391.out (by decide))); rintro e w18 ⟨rfl, hi, hb, hk⟩; refine ⟨_, rfl, ?_⟩; replace BK376 := am (kB hk (kb BK376.out) NB376_0); replace HO385 := am (Kd.R_mono (Kd.R_keep (IsS107.apart (show IsS107 w0 _ g s0_0 t387 t388 from si HI0.out) (kr HO385.out) (by decide)) hk (fun _ h => h.2)) (fun _ h => h.1)); replace HO391 := am (Kd.R_mono (Kd.R_keep (IsS107.apart (show IsS107 w0 _ g s0_0 t387 t388 from si HI0.out) (kr HO391.out) (by decide)) hk (fun _ h => h.2)) (fun _ h => h.1)); replace HK := am (KeepBut.trans (kp HK.out) hk (.inl rfl)); replace HB := am (hb); replace HI0 := am (hi); (try clear hb); (try clear hk); (try clear hi)) | ((with_reducible refine gate_callee (f := 60) rfl ?_); refine goesM_ (some 15) rfl rfl Try.func60 #[.pointer (some ⟨g, 0, none⟩), .int .i64 256] ?_; (with_reducible refine (spec_l1Below.calls g s0_0 t393 t394 256 t395 t396 t397 w0 _ ?side1 ?side2 A6.out).mono ?_); (case side1 => exact si HI0.out); (case side2 => exact bi HB.out); rintro e w19 ⟨rfl, hi, hb, hk⟩; refine ⟨_, rfl, ?_⟩; replace BK376 := am (kB hk (kb BK376.out) NB376_0); replace HO385 := am (Kd.R_mono (Kd.R_keep (IsS107.apart (show IsS107 w0 _ g s0_0 t393 t394 from si HI0.out) (kr HO385.out) (by decide)) hk (fun _ h => h.2)) (fun _ h => h.1)); replace HO391 := am (Kd.R_mono (Kd.R_keep (IsS107.apart (show IsS107 w0 _ g s0_0 t393 t394 from si HI0.out) (kr HO391.out) (by decide)) hk (fun _ h => h.2)) (fun _ h => h.1)); replace HK := am (KeepBut.trans (kp HK.out) hk (.inl rfl)); replace HB := am (hb); replace HI0 := am (hi); (try clear hb); (try clear hk); (try clear hi)) | ((with_reducible refine gate_callee (f := 95) rfl ?_); refine goesM_ (some 16) rfl rfl Try.func95 #[.agg #[.int .i64 t377, .int .i64 t380, .int .i64 t386, .int .i64 t392, .bool false, .bool false, .bool false, .bool false], .int .i64 t395] ?_; (with_reducible refine (spec_WithFlags.calls t377 t380 t386 t392 false false false false t395 t398 t399 t400 t401 t402 t403 t404 t405 _ A7.out).mono ?_); rintro e w20 ⟨rfl, hb⟩; refine ⟨_, rfl, ?_⟩; replace HO385 := am (Kd.R_below (kr HO385.out) hb); replace HO391 := am (Kd.R_below (kr HO391.out) hb); replace HI0 := am (IsS107.below (si HI0.out) hb); replace BK376 := am (bb BK376 hb); replace HK := am (KeepBut.trans (kp HK.out) (KeepBut.of_below hb g none) (.inl rfl)); replace HB := am (below_step (bi HB.out) hb); (try clear hb); (try clear hk); (try clear hi); have p_ := NB376_0.out; obtain ⟨hcz22_0, hcz22_1, hcz22_2, hcz22_3, hcz22_4, hcz22_5, hcz22_6, hcz22_7⟩ := ce8 BK376; obtain ⟨hfz22_0, hfz22_1, hfz22_2, hfz22_3, hfz22_4, hfz22_5, hfz22_6, hfz22_7⟩ := fz8 BK376))
 refine bodyPost_ret (results_cell_row rfl _ _ gb376 55 #[.int .i64 t398, .int .i64 t399, .int .i64 t400, .int .i64 t401, .bool t402, .bool t403, .bool t404, .bool t405] (0, 0) _ rfl (bq BK376.out) Try.underlying55 rfl (by kernel_rfl)) rfl ?_
 exact ⟨rt, si HI0.out, bi HB.out, kp HK.out⟩

/-! ### spec_l5Draw: function 84 -/
def spec_l5Draw.f (s0_0 : List Int) (s0_1 : Int) (s0_2 : Int) : Option (Int × Int × Int × Int × Bool × Bool × Bool × Bool × Int × Int) := (spec_l5DrawRight.f s0_0 s0_1 s0_2).bind fun bt407 => ((spec_l1Below.f s0_0 bt407.2.2.2.2.2.2.2.2.1 bt407.2.2.2.2.2.2.2.2.2 25).bind fun bt418 => (if bt418.1 = 0 then ((spec_l1DrawInt.f s0_0 bt418.2.1 bt418.2.2).bind fun bt421 => (some (bt421.1, bt407.2.1, bt407.2.2.1, bt407.2.2.2.1, bt407.2.2.2.2.1, bt407.2.2.2.2.2.1, bt407.2.2.2.2.2.2.1, bt407.2.2.2.2.2.2.2.1, bt421.2.1, bt421.2.2))) else (if bt418.1 = 1 then ((spec_l1DrawInt.f s0_0 bt418.2.1 bt418.2.2).bind fun bt424 => (some (bt407.1, bt424.1, bt407.2.2.1, bt407.2.2.2.1, bt407.2.2.2.2.1, bt407.2.2.2.2.2.1, bt407.2.2.2.2.2.2.1, bt407.2.2.2.2.2.2.2.1, bt424.2.1, bt424.2.2))) else (if bt418.1 = 2 then ((spec_l1DrawInt.f s0_0 bt418.2.1 bt418.2.2).bind fun bt427 => (some (bt407.1, bt407.2.1, bt427.1, bt407.2.2.2.1, bt407.2.2.2.2.1, bt407.2.2.2.2.2.1, bt407.2.2.2.2.2.2.1, bt407.2.2.2.2.2.2.2.1, bt427.2.1, bt427.2.2))) else (if bt418.1 = 3 then ((spec_l1PickInt.f s0_0 bt418.2.1 bt418.2.2 (([(-1), 65536] : List Int))).bind fun bt433 => (some (bt407.1, bt407.2.1, bt407.2.2.1, bt433.1, bt407.2.2.2.2.1, bt407.2.2.2.2.2.1, bt407.2.2.2.2.2.2.1, bt407.2.2.2.2.2.2.2.1, bt433.2.1, bt433.2.2))) else (some (bt407.1, bt407.2.1, bt407.2.2.1, bt407.2.2.2.1, bt407.2.2.2.2.1, bt407.2.2.2.2.2.1, bt407.2.2.2.2.2.2.1, bt407.2.2.2.2.2.2.2.1, bt418.2.1, bt418.2.2)))))))
theorem spec_l5Draw.calls (g : Nat) (s0_0 : List Int) (s0_1 : Int) (s0_2 : Int) (r1 : Int) (r2 : Int) (r3 : Int) (r4 : Int) (r5 : Bool) (r6 : Bool) (r7 : Bool) (r8 : Bool) (r9 : Int) (r10 : Int) (w0 w : World) (hI : IsS107 w0 w g s0_0 s0_1 s0_2) (hB : Below w0.heap.size w0 w) (h : spec_l5Draw.f s0_0 s0_1 s0_2 = some (r1, r2, r3, r4, r5, r6, r7, r8, r9, r10)) :
  Calls Try.prog 84 #[.pointer (some ⟨g, 0, none⟩)] w fun e w' => e = .returned (.agg #[.int .i64 r1, .int .i64 r2, .int .i64 r3, .int .i64 r4, .bool r5, .bool r6, .bool r7, .bool r8]) ∧ IsS107 w0 w' g s0_0 r9 r10 ∧ Below w0.heap.size w0 w' ∧ KeepBut w w' g none := by
 have hu55 := Try.underlying55
 have HI0 := am hI
 have HK := am (KeepBut.refl w g none)
 have HL := am hB.size
 clear hI
 have HW0 := am hB.size
 have HB := am hB
 clear hB
 have H : ((spec_l5DrawRight.f s0_0 s0_1 s0_2).bind fun bt407 => ((spec_l1Below.f s0_0 bt407.2.2.2.2.2.2.2.2.1 bt407.2.2.2.2.2.2.2.2.2 25).bind fun bt418 => (if bt418.1 = 0 then ((spec_l1DrawInt.f s0_0 bt418.2.1 bt418.2.2).bind fun bt421 => (some (bt421.1, bt407.2.1, bt407.2.2.1, bt407.2.2.2.1, bt407.2.2.2.2.1, bt407.2.2.2.2.2.1, bt407.2.2.2.2.2.2.1, bt407.2.2.2.2.2.2.2.1, bt421.2.1, bt421.2.2))) else (if bt418.1 = 1 then ((spec_l1DrawInt.f s0_0 bt418.2.1 bt418.2.2).bind fun bt424 => (some (bt407.1, bt424.1, bt407.2.2.1, bt407.2.2.2.1, bt407.2.2.2.2.1, bt407.2.2.2.2.2.1, bt407.2.2.2.2.2.2.1, bt407.2.2.2.2.2.2.2.1, bt424.2.1, bt424.2.2))) else (if bt418.1 = 2 then ((spec_l1DrawInt.f s0_0 bt418.2.1 bt418.2.2).bind fun bt427 => (some (bt407.1, bt407.2.1, bt427.1, bt407.2.2.2.1, bt407.2.2.2.2.1, bt407.2.2.2.2.2.1, bt407.2.2.2.2.2.2.1, bt407.2.2.2.2.2.2.2.1, bt427.2.1, bt427.2.2))) else (if bt418.1 = 3 then ((spec_l1PickInt.f s0_0 bt418.2.1 bt418.2.2 (([(-1), 65536] : List Int))).bind fun bt433 => (some (bt407.1, bt407.2.1, bt407.2.2.1, bt433.1, bt407.2.2.2.2.1, bt407.2.2.2.2.2.1, bt407.2.2.2.2.2.2.1, bt407.2.2.2.2.2.2.2.1, bt433.2.1, bt433.2.2))) else (some (bt407.1, bt407.2.1, bt407.2.2.1, bt407.2.2.2.1, bt407.2.2.2.2.1, bt407.2.2.2.2.2.1, bt407.2.2.2.2.2.2.1, bt407.2.2.2.2.2.2.2.1, bt418.2.1, bt418.2.2)))))))) = some (r1, r2, r3, r4, r5, r6, r7, r8, r9, r10) := h
 clear h
 replace H := bs H
 obtain ⟨⟨t407, t408, t409, t410, t411, t412, t413, t414, t415, t416⟩, A20, H⟩ := H
 replace H : ((spec_l1Below.f s0_0 t415 t416 25).bind fun bt418 => (if bt418.1 = 0 then ((spec_l1DrawInt.f s0_0 bt418.2.1 bt418.2.2).bind fun bt421 => (some (bt421.1, t408, t409, t410, t411, t412, t413, t414, bt421.2.1, bt421.2.2))) else (if bt418.1 = 1 then ((spec_l1DrawInt.f s0_0 bt418.2.1 bt418.2.2).bind fun bt424 => (some (t407, bt424.1, t409, t410, t411, t412, t413, t414, bt424.2.1, bt424.2.2))) else (if bt418.1 = 2 then ((spec_l1DrawInt.f s0_0 bt418.2.1 bt418.2.2).bind fun bt427 => (some (t407, t408, bt427.1, t410, t411, t412, t413, t414, bt427.2.1, bt427.2.2))) else (if bt418.1 = 3 then ((spec_l1PickInt.f s0_0 bt418.2.1 bt418.2.2 (([(-1), 65536] : List Int))).bind fun bt433 => (some (t407, t408, t409, bt433.1, t411, t412, t413, t414, bt433.2.1, bt433.2.2))) else (some (t407, t408, t409, t410, t411, t412, t413, t414, bt418.2.1, bt418.2.2))))))) = some (r1, r2, r3, r4, r5, r6, r7, r8, r9, r10) := H
 have A2 := am A20
 clear A20
 replace H := bs H
 obtain ⟨⟨t418, t419, t420⟩, A30, H⟩ := H
 replace H : (if t418 = 0 then ((spec_l1DrawInt.f s0_0 t419 t420).bind fun bt421 => (some (bt421.1, t408, t409, t410, t411, t412, t413, t414, bt421.2.1, bt421.2.2))) else (if t418 = 1 then ((spec_l1DrawInt.f s0_0 t419 t420).bind fun bt424 => (some (t407, bt424.1, t409, t410, t411, t412, t413, t414, bt424.2.1, bt424.2.2))) else (if t418 = 2 then ((spec_l1DrawInt.f s0_0 t419 t420).bind fun bt427 => (some (t407, t408, bt427.1, t410, t411, t412, t413, t414, bt427.2.1, bt427.2.2))) else (if t418 = 3 then ((spec_l1PickInt.f s0_0 t419 t420 (([(-1), 65536] : List Int))).bind fun bt433 => (some (t407, t408, t409, bt433.1, t411, t412, t413, t414, bt433.2.1, bt433.2.2))) else (some (t407, t408, t409, t410, t411, t412, t413, t414, t419, t420)))))) = some (r1, r2, r3, r4, r5, r6, r7, r8, r9, r10) := H
 have A3 := am A30
 clear A30
 by_cases c4 : t418 = 0
 ·rw [if_pos c4] at H
  have c4b0 : (t418 == 0) = true := beq_iff_eq.mpr c4
  have c4b1 : (t418 != 0) = false := bne_eq_false_iff_eq.mpr c4
  clear c4
  replace H := bs H
  obtain ⟨⟨t421, t422, t423⟩, A50, H⟩ := H
  replace H : (some (t421, t408, t409, t410, t411, t412, t413, t414, t422, t423)) = some (r1, r2, r3, r4, r5, r6, r7, r8, r9, r10) := H
  have A5 := am A50
  clear A50
  simp only [Option.some.injEq, Prod.mk.injEq] at H
  obtain ⟨rfl, rfl, rfl, rfl, rfl, rfl, rfl, rfl, rfl, rfl⟩ := H
  go_enter Try.func84, Try.ntmps84
  go_wp2_with (first | ((with_reducible refine gd 2 ?_); refine bz (N := 2) ?_; intro gb406 hg w6 hbox hb; have n0_ := am (IsS107.below (si HI0.out) hb); have n1_ := am (KeepBut.trans (kp HK.out) (KeepBut.of_below hb g none) (.inl rfl)); have n2_ := am (below_step (bi HB.out) hb); have n3_ := am (hbox); have n4_ := am ((by rw [hg]; exact (keep_size (w := w) (g := g) (row := none) (kp HK.out)) : w.heap.size ≤ gb406)); have n5_ := am ((Nat.le_trans HW0.out (by rw [hg]; exact (keep_size (w := w) (g := g) (row := none) (kp HK.out)) : w.heap.size ≤ gb406) : w0.heap.size ≤ gb406)); have n6_ := am ((by rw [hg]; exact Nat.ne_of_lt (IsS107.lt (show IsS107 w0 _ g s0_0 s0_1 s0_2 from si HI0.out)) : g ≠ gb406)); have n7_ := am ((by rw [hg]; exact Nat.ne_of_gt (IsS107.lt (show IsS107 w0 _ g s0_0 s0_1 s0_2 from si HI0.out)) : gb406 ≠ g)); clear HI0; clear HK; clear HB; have HI0 := n0_; have HK := n1_; have HB := n2_; have BK406 := n3_; have GW406 := n4_; have GE406 := n5_; have NB0_406 := n6_; have NB406_0 := n7_; clear n0_ n1_ n2_ n3_ n4_ n5_ n6_ n7_; clear hb hbox hg) | ((with_reducible refine gate_callee (f := 108) rfl ?_); refine goesM_ (some 5) rfl rfl Try.func108 #[.pointer (some ⟨g, 0, none⟩)] ?_; (with_reducible refine (spec_l5DrawRight.calls g s0_0 s0_1 s0_2 t407 t408 t409 t410 t411 t412 t413 t414 t415 t416 w0 _ ?side1 ?side2 A2.out).mono ?_); (case side1 => exact si HI0.out); (case side2 => exact bi HB.out); rintro e w7 ⟨rfl, hi, hb, hk⟩; refine ⟨_, rfl, ?_⟩; replace BK406 := am (kB hk (kb BK406.out) NB406_0); replace HK := am (KeepBut.trans (kp HK.out) hk (.inl rfl)); replace HB := am (hb); replace HI0 := am (hi); (try clear hb); (try clear hk); (try clear hi)) | ((with_reducible refine gd 3 ?_); refine bz (N := 3) ?_; intro gb417 hg w8 hbox hb; have n0_ := am (IsS107.below (si HI0.out) hb); have n1_ := am (bb BK406 hb); have n2_ := am (KeepBut.trans (kp HK.out) (KeepBut.of_below hb g none) (.inl rfl)); have n3_ := am (below_step (bi HB.out) hb); have n4_ := am (hbox); have n5_ := am ((by rw [hg]; exact (keep_size (w := w) (g := g) (row := none) (kp HK.out)) : w.heap.size ≤ gb417)); have n6_ := am ((Nat.le_trans HW0.out (by rw [hg]; exact (keep_size (w := w) (g := g) (row := none) (kp HK.out)) : w.heap.size ≤ gb417) : w0.heap.size ≤ gb417)); have n7_ := am ((ga hg BK406.out)); have n8_ := am ((gc hg BK406.out)); have n9_ := am ((by rw [hg]; exact Nat.ne_of_lt (IsS107.lt (show IsS107 w0 _ g s0_0 t415 t416 from si HI0.out)) : g ≠ gb417)); have n10_ := am ((by rw [hg]; exact Nat.ne_of_gt (IsS107.lt (show IsS107 w0 _ g s0_0 t415 t416 from si HI0.out)) : gb417 ≠ g)); clear HI0; clear BK406; clear HK; clear HB; have HI0 := n0_; have BK406 := n1_; have HK := n2_; have HB := n3_; have BK417 := n4_; have GW417 := n5_; have GE417 := n6_; have NB406_417 := n7_; have NB417_406 := n8_; have NB0_417 := n9_; have NB417_0 := n10_; clear n0_ n1_ n2_ n3_ n4_ n5_ n6_ n7_ n8_ n9_ n10_; clear hb hbox hg; have p_ := NB417_406.out; have p_ := NB417_0.out; obtain ⟨hcz11_0, hcz11_1, hcz11_2, hcz11_3, hcz11_4, hcz11_5, hcz11_6, hcz11_7⟩ := ce8 BK417; obtain ⟨hfz11_0, hfz11_1, hfz11_2, hfz11_3, hfz11_4, hfz11_5, hfz11_6, hfz11_7⟩ := fz8 BK417) | ((with_reducible refine gate_callee (f := 60) rfl ?_); refine goesM_ (some 7) rfl rfl Try.func60 #[.pointer (some ⟨g, 0, none⟩), .int .i64 25] ?_; (with_reducible refine (spec_l1Below.calls g s0_0 t415 t416 25 t418 t419 t420 w0 _ ?side1 ?side2 A3.out).mono ?_); (case side1 => exact si HI0.out); (case side2 => exact bi HB.out); rintro e w12 ⟨rfl, hi, hb, hk⟩; refine ⟨_, rfl, ?_⟩; replace BK406 := am (kB hk (kf BK406.out) NB406_0); replace BK417 := am (kB hk (o := .cells #[.int .i64 t407, .int .i64 t408, .int .i64 t409, .int .i64 t410, .bool t411, .bool t412, .bool t413, .bool t414] 55 (0, 0)) (bq BK417.out) NB417_0); replace HK := am (KeepBut.trans (kp HK.out) hk (.inl rfl)); replace HB := am (hb); replace HI0 := am (hi); (try clear hb); (try clear hk); (try clear hi)) | ((with_reducible refine gate_callee (f := 75) rfl ?_); refine goesM_ (some 11) rfl rfl Try.func75 #[.pointer (some ⟨g, 0, none⟩)] ?_; (with_reducible refine (spec_l1DrawInt.calls g s0_0 t419 t420 t421 t422 t423 w0 _ ?side1 ?side2 A5.out).mono ?_); (case side1 => exact si HI0.out); (case side2 => exact bi HB.out); rintro e w13 ⟨rfl, hi, hb, hk⟩; refine ⟨_, rfl, ?_⟩; replace BK406 := am (kB hk (kb BK406.out) NB406_0); replace BK417 := am (kB hk (kb BK417.out) NB417_0); replace HK := am (KeepBut.trans (kp HK.out) hk (.inl rfl)); replace HB := am (hb); replace HI0 := am (hi); (try clear hb); (try clear hk); (try clear hi); obtain ⟨hcz14_0, hcz14_1, hcz14_2, hcz14_3, hcz14_4, hcz14_5, hcz14_6, hcz14_7⟩ := ce8 BK417; obtain ⟨hfz14_0, hfz14_1, hfz14_2, hfz14_3, hfz14_4, hfz14_5, hfz14_6, hfz14_7⟩ := fz8 BK417; have p_ := NB406_0.out; obtain ⟨hcz16_0, hcz16_1, hcz16_2, hcz16_3, hcz16_4, hcz16_5, hcz16_6, hcz16_7⟩ := ce8 BK406; obtain ⟨hfz16_0, hfz16_1, hfz16_2, hfz16_3, hfz16_4, hfz16_5, hfz16_6, hfz16_7⟩ := fz8 BK406))
  refine bodyPost_ret (results_cell_row rfl _ _ gb406 55 #[.int .i64 t421, .int .i64 t408, .int .i64 t409, .int .i64 t410, .bool t411, .bool t412, .bool t413, .bool t414] (0, 0) _ rfl (bf NB406_417 BK406.out) Try.underlying55 rfl (by kernel_rfl)) rfl ?_
  exact ⟨rt, si HI0.out, bi HB.out, kp HK.out⟩
 ·rw [if_neg c4] at H
  have c4b0 : (t418 == 0) = false := beq_eq_false_iff_ne.mpr c4
  have c4b1 : (t418 != 0) = true := bne_iff_ne.mpr c4
  by_cases c17 : t418 = 1
  ·rw [if_pos c17] at H
   have c17b0 : (t418 == 1) = true := beq_iff_eq.mpr c17
   have c17b1 : (t418 != 1) = false := bne_eq_false_iff_eq.mpr c17
   clear c17
   replace H := bs H
   obtain ⟨⟨t424, t425, t426⟩, A180, H⟩ := H
   replace H : (some (t407, t424, t409, t410, t411, t412, t413, t414, t425, t426)) = some (r1, r2, r3, r4, r5, r6, r7, r8, r9, r10) := H
   have A18 := am A180
   clear A180
   simp only [Option.some.injEq, Prod.mk.injEq] at H
   obtain ⟨rfl, rfl, rfl, rfl, rfl, rfl, rfl, rfl, rfl, rfl⟩ := H
   go_enter Try.func84, Try.ntmps84
   go_wp2_with (first | ((with_reducible refine gd 2 ?_); refine bz (N := 2) ?_; intro gb406 hg w19 hbox hb; have n0_ := am (IsS107.below (si HI0.out) hb); have n1_ := am (KeepBut.trans (kp HK.out) (KeepBut.of_below hb g none) (.inl rfl)); have n2_ := am (below_step (bi HB.out) hb); have n3_ := am (hbox); have n4_ := am ((by rw [hg]; exact (keep_size (w := w) (g := g) (row := none) (kp HK.out)) : w.heap.size ≤ gb406)); have n5_ := am ((Nat.le_trans HW0.out (by rw [hg]; exact (keep_size (w := w) (g := g) (row := none) (kp HK.out)) : w.heap.size ≤ gb406) : w0.heap.size ≤ gb406)); have n6_ := am ((by rw [hg]; exact Nat.ne_of_lt (IsS107.lt (show IsS107 w0 _ g s0_0 s0_1 s0_2 from si HI0.out)) : g ≠ gb406)); have n7_ := am ((by rw [hg]; exact Nat.ne_of_gt (IsS107.lt (show IsS107 w0 _ g s0_0 s0_1 s0_2 from si HI0.out)) : gb406 ≠ g)); clear HI0; clear HK; clear HB; have HI0 := n0_; have HK := n1_; have HB := n2_; have BK406 := n3_; have GW406 := n4_; have GE406 := n5_; have NB0_406 := n6_; have NB406_0 := n7_; clear n0_ n1_ n2_ n3_ n4_ n5_ n6_ n7_; clear hb hbox hg) | ((with_reducible refine gate_callee (f := 108) rfl ?_); refine goesM_ (some 5) rfl rfl Try.func108 #[.pointer (some ⟨g, 0, none⟩)] ?_; (with_reducible refine (spec_l5DrawRight.calls g s0_0 s0_1 s0_2 t407 t408 t409 t410 t411 t412 t413 t414 t415 t416 w0 _ ?side1 ?side2 A2.out).mono ?_); (case side1 => exact si HI0.out); (case side2 => exact bi HB.out); rintro e w20 ⟨rfl, hi, hb, hk⟩; refine ⟨_, rfl, ?_⟩; replace BK406 := am (kB hk (kb BK406.out) NB406_0); replace HK := am (KeepBut.trans (kp HK.out) hk (.inl rfl)); replace HB := am (hb); replace HI0 := am (hi); (try clear hb); (try clear hk); (try clear hi)) | ((with_reducible refine gd 3 ?_); refine bz (N := 3) ?_; intro gb417 hg w21 hbox hb; have n0_ := am (IsS107.below (si HI0.out) hb); have n1_ := am (bb BK406 hb); have n2_ := am (KeepBut.trans (kp HK.out) (KeepBut.of_below hb g none) (.inl rfl)); have n3_ := am (below_step (bi HB.out) hb); have n4_ := am (hbox); have n5_ := am ((by rw [hg]; exact (keep_size (w := w) (g := g) (row := none) (kp HK.out)) : w.heap.size ≤ gb417)); have n6_ := am ((Nat.le_trans HW0.out (by rw [hg]; exact (keep_size (w := w) (g := g) (row := none) (kp HK.out)) : w.heap.size ≤ gb417) : w0.heap.size ≤ gb417)); have n7_ := am ((ga hg BK406.out)); have n8_ := am ((gc hg BK406.out)); have n9_ := am ((by rw [hg]; exact Nat.ne_of_lt (IsS107.lt (show IsS107 w0 _ g s0_0 t415 t416 from si HI0.out)) : g ≠ gb417)); have n10_ := am ((by rw [hg]; exact Nat.ne_of_gt (IsS107.lt (show IsS107 w0 _ g s0_0 t415 t416 from si HI0.out)) : gb417 ≠ g)); clear HI0; clear BK406; clear HK; clear HB; have HI0 := n0_; have BK406 := n1_; have HK := n2_; have HB := n3_; have BK417 := n4_; have GW417 := n5_; have GE417 := n6_; have NB406_417 := n7_; have NB417_406 := n8_; have NB0_417 := n9_; have NB417_0 := n10_; clear n0_ n1_ n2_ n3_ n4_ n5_ n6_ n7_ n8_ n9_ n10_; clear hb hbox hg; have p_ := NB417_406.out; have p_ := NB417_0.out; obtain ⟨hcz24_0, hcz24_1, hcz24_2, hcz24_3, hcz24_4, hcz24_5, hcz24_6, hcz24_7⟩ := ce8 BK417; obtain ⟨hfz24_0, hfz24_1, hfz24_2, hfz24_3, hfz24_4, hfz24_5, hfz24_6, hfz24_7⟩ := fz8 BK417) | ((with_reducible refine gate_callee (f := 60) rfl ?_); refine goesM_ (some 7) rfl rfl Try.func60 #[.pointer (some ⟨g, 0, none⟩), .int .i64 25] ?_; (with_reducible refine (spec_l1Below.calls g s0_0 t415 t416 25 t418 t419 t420 w0 _ ?side1 ?side2 A3.out).mono ?_); (case side1 => exact si HI0.out); (case side2 => exact bi HB.out); rintro e w25 ⟨rfl, hi, hb, hk⟩; refine ⟨_, rfl, ?_⟩; replace BK406 := am (kB hk (kf BK406.out) NB406_0); replace BK417 := am (kB hk (o := .cells #[.int .i64 t407, .int .i64 t408, .int .i64 t409, .int .i64 t410, .bool t411, .bool t412, .bool t413, .bool t414] 55 (0, 0)) (bq BK417.out) NB417_0); replace HK := am (KeepBut.trans (kp HK.out) hk (.inl rfl)); replace HB := am (hb); replace HI0 := am (hi); (try clear hb); (try clear hk); (try clear hi)) | ((with_reducible refine gate_callee (f := 75) rfl ?_); refine goesM_ (some 16) rfl rfl Try.func75 #[.pointer (some ⟨g, 0, none⟩)] ?_; (with_reducible refine (spec_l1DrawInt.calls g s0_0 t419 t420 t424 t425 t426 w0 _ ?side1 ?side2 A18.out).mono ?_); (case side1 => exact si HI0.out); (case side2 => exact bi HB.out); rintro e w26 ⟨rfl, hi, hb, hk⟩; refine ⟨_, rfl, ?_⟩; replace BK406 := am (kB hk (kb BK406.out) NB406_0); replace BK417 := am (kB hk (kb BK417.out) NB417_0); replace HK := am (KeepBut.trans (kp HK.out) hk (.inl rfl)); replace HB := am (hb); replace HI0 := am (hi); (try clear hb); (try clear hk); (try clear hi); obtain ⟨hcz27_0, hcz27_1, hcz27_2, hcz27_3, hcz27_4, hcz27_5, hcz27_6, hcz27_7⟩ := ce8 BK417; obtain ⟨hfz27_0, hfz27_1, hfz27_2, hfz27_3, hfz27_4, hfz27_5, hfz27_6, hfz27_7⟩ := fz8 BK417; have p_ := NB406_0.out; obtain ⟨hcz29_0, hcz29_1, hcz29_2, hcz29_3, hcz29_4, hcz29_5, hcz29_6, hcz29_7⟩ := ce8 BK406; obtain ⟨hfz29_0, hfz29_1, hfz29_2, hfz29_3, hfz29_4, hfz29_5, hfz29_6, hfz29_7⟩ := fz8 BK406))
   refine bodyPost_ret (results_cell_row rfl _ _ gb406 55 #[.int .i64 t407, .int .i64 t424, .int .i64 t409, .int .i64 t410, .bool t411, .bool t412, .bool t413, .bool t414] (0, 0) _ rfl (bf NB406_417 BK406.out) Try.underlying55 rfl (by kernel_rfl)) rfl ?_
   exact ⟨rt, si HI0.out, bi HB.out, kp HK.out⟩
  ·rw [if_neg c17] at H
   have c17b0 : (t418 == 1) = false := beq_eq_false_iff_ne.mpr c17
   have c17b1 : (t418 != 1) = true := bne_iff_ne.mpr c17
   by_cases c30 : t418 = 2
   ·rw [if_pos c30] at H
    have c30b0 : (t418 == 2) = true := beq_iff_eq.mpr c30
    have c30b1 : (t418 != 2) = false := bne_eq_false_iff_eq.mpr c30
    clear c30
    replace H := bs H
    obtain ⟨⟨t427, t428, t429⟩, A310, H⟩ := H
    replace H : (some (t407, t408, t427, t410, t411, t412, t413, t414, t428, t429)) = some (r1, r2, r3, r4, r5, r6, r7, r8, r9, r10) := H
    have A31 := am A310
    clear A310
    simp only [Option.some.injEq, Prod.mk.injEq] at H
    obtain ⟨rfl, rfl, rfl, rfl, rfl, rfl, rfl, rfl, rfl, rfl⟩ := H
    go_enter Try.func84, Try.ntmps84
    go_wp2_with (first | ((with_reducible refine gd 2 ?_); refine bz (N := 2) ?_; intro gb406 hg w32 hbox hb; have n0_ := am (IsS107.below (si HI0.out) hb); have n1_ := am (KeepBut.trans (kp HK.out) (KeepBut.of_below hb g none) (.inl rfl)); have n2_ := am (below_step (bi HB.out) hb); have n3_ := am (hbox); have n4_ := am ((by rw [hg]; exact (keep_size (w := w) (g := g) (row := none) (kp HK.out)) : w.heap.size ≤ gb406)); have n5_ := am ((Nat.le_trans HW0.out (by rw [hg]; exact (keep_size (w := w) (g := g) (row := none) (kp HK.out)) : w.heap.size ≤ gb406) : w0.heap.size ≤ gb406)); have n6_ := am ((by rw [hg]; exact Nat.ne_of_lt (IsS107.lt (show IsS107 w0 _ g s0_0 s0_1 s0_2 from si HI0.out)) : g ≠ gb406)); have n7_ := am ((by rw [hg]; exact Nat.ne_of_gt (IsS107.lt (show IsS107 w0 _ g s0_0 s0_1 s0_2 from si HI0.out)) : gb406 ≠ g)); clear HI0; clear HK; clear HB; have HI0 := n0_; have HK := n1_; have HB := n2_; have BK406 := n3_; have GW406 := n4_; have GE406 := n5_; have NB0_406 := n6_; have NB406_0 := n7_; clear n0_ n1_ n2_ n3_ n4_ n5_ n6_ n7_; clear hb hbox hg) | ((with_reducible refine gate_callee (f := 108) rfl ?_); refine goesM_ (some 5) rfl rfl Try.func108 #[.pointer (some ⟨g, 0, none⟩)] ?_; (with_reducible refine (spec_l5DrawRight.calls g s0_0 s0_1 s0_2 t407 t408 t409 t410 t411 t412 t413 t414 t415 t416 w0 _ ?side1 ?side2 A2.out).mono ?_); (case side1 => exact si HI0.out); (case side2 => exact bi HB.out); rintro e w33 ⟨rfl, hi, hb, hk⟩; refine ⟨_, rfl, ?_⟩; replace BK406 := am (kB hk (kb BK406.out) NB406_0); replace HK := am (KeepBut.trans (kp HK.out) hk (.inl rfl)); replace HB := am (hb); replace HI0 := am (hi); (try clear hb); (try clear hk); (try clear hi)) | ((with_reducible refine gd 3 ?_); refine bz (N := 3) ?_; intro gb417 hg w34 hbox hb; have n0_ := am (IsS107.below (si HI0.out) hb); have n1_ := am (bb BK406 hb); have n2_ := am (KeepBut.trans (kp HK.out) (KeepBut.of_below hb g none) (.inl rfl)); have n3_ := am (below_step (bi HB.out) hb); have n4_ := am (hbox); have n5_ := am ((by rw [hg]; exact (keep_size (w := w) (g := g) (row := none) (kp HK.out)) : w.heap.size ≤ gb417)); have n6_ := am ((Nat.le_trans HW0.out (by rw [hg]; exact (keep_size (w := w) (g := g) (row := none) (kp HK.out)) : w.heap.size ≤ gb417) : w0.heap.size ≤ gb417)); have n7_ := am ((ga hg BK406.out)); have n8_ := am ((gc hg BK406.out)); have n9_ := am ((by rw [hg]; exact Nat.ne_of_lt (IsS107.lt (show IsS107 w0 _ g s0_0 t415 t416 from si HI0.out)) : g ≠ gb417)); have n10_ := am ((by rw [hg]; exact Nat.ne_of_gt (IsS107.lt (show IsS107 w0 _ g s0_0 t415 t416 from si HI0.out)) : gb417 ≠ g)); clear HI0; clear BK406; clear HK; clear HB; have HI0 := n0_; have BK406 := n1_; have HK := n2_; have HB := n3_; have BK417 := n4_; have GW417 := n5_; have GE417 := n6_; have NB406_417 := n7_; have NB417_406 := n8_; have NB0_417 := n9_; have NB417_0 := n10_; clear n0_ n1_ n2_ n3_ n4_ n5_ n6_ n7_ n8_ n9_ n10_; clear hb hbox hg; have p_ := NB417_406.out; have p_ := NB417_0.out; obtain ⟨hcz37_0, hcz37_1, hcz37_2, hcz37_3, hcz37_4, hcz37_5, hcz37_6, hcz37_7⟩ := ce8 BK417; obtain ⟨hfz37_0, hfz37_1, hfz37_2, hfz37_3, hfz37_4, hfz37_5, hfz37_6, hfz37_7⟩ := fz8 BK417) | ((with_reducible refine gate_callee (f := 60) rfl ?_); refine goesM_ (some 7) rfl rfl Try.func60 #[.pointer (some ⟨g, 0, none⟩), .int .i64 25] ?_; (with_reducible refine (spec_l1Below.calls g s0_0 t415 t416 25 t418 t419 t420 w0 _ ?side1 ?side2 A3.out).mono ?_); (case side1 => exact si HI0.out); (case side2 => exact bi HB.out); rintro e w38 ⟨rfl, hi, hb, hk⟩; refine ⟨_, rfl, ?_⟩; replace BK406 := am (kB hk (kf BK406.out) NB406_0); replace BK417 := am (kB hk (o := .cells #[.int .i64 t407, .int .i64 t408, .int .i64 t409, .int .i64 t410, .bool t411, .bool t412, .bool t413, .bool t414] 55 (0, 0)) (bq BK417.out) NB417_0); replace HK := am (KeepBut.trans (kp HK.out) hk (.inl rfl)); replace HB := am (hb); replace HI0 := am (hi); (try clear hb); (try clear hk); (try clear hi)) | ((with_reducible refine gate_callee (f := 75) rfl ?_); refine goesM_ (some 21) rfl rfl Try.func75 #[.pointer (some ⟨g, 0, none⟩)] ?_; (with_reducible refine (spec_l1DrawInt.calls g s0_0 t419 t420 t427 t428 t429 w0 _ ?side1 ?side2 A31.out).mono ?_); (case side1 => exact si HI0.out); (case side2 => exact bi HB.out); rintro e w39 ⟨rfl, hi, hb, hk⟩; refine ⟨_, rfl, ?_⟩; replace BK406 := am (kB hk (kb BK406.out) NB406_0); replace BK417 := am (kB hk (kb BK417.out) NB417_0); replace HK := am (KeepBut.trans (kp HK.out) hk (.inl rfl)); replace HB := am (hb); replace HI0 := am (hi); (try clear hb); (try clear hk); (try clear hi); obtain ⟨hcz40_0, hcz40_1, hcz40_2, hcz40_3, hcz40_4, hcz40_5, hcz40_6, hcz40_7⟩ := ce8 BK417; obtain ⟨hfz40_0, hfz40_1, hfz40_2, hfz40_3, hfz40_4, hfz40_5, hfz40_6, hfz40_7⟩ := fz8 BK417; have p_ := NB406_0.out; obtain ⟨hcz42_0, hcz42_1, hcz42_2, hcz42_3, hcz42_4, hcz42_5, hcz42_6, hcz42_7⟩ := ce8 BK406; obtain ⟨hfz42_0, hfz42_1, hfz42_2, hfz42_3, hfz42_4, hfz42_5, hfz42_6, hfz42_7⟩ := fz8 BK406))
    refine bodyPost_ret (results_cell_row rfl _ _ gb406 55 #[.int .i64 t407, .int .i64 t408, .int .i64 t427, .int .i64 t410, .bool t411, .bool t412, .bool t413, .bool t414] (0, 0) _ rfl (bf NB406_417 BK406.out) Try.underlying55 rfl (by kernel_rfl)) rfl ?_
    exact ⟨rt, si HI0.out, bi HB.out, kp HK.out⟩
   ·rw [if_neg c30] at H
    have c30b0 : (t418 == 2) = false := beq_eq_false_iff_ne.mpr c30
    have c30b1 : (t418 != 2) = true := bne_iff_ne.mpr c30
    by_cases c43 : t418 = 3
    ·rw [if_pos c43] at H
     have c43b0 : (t418 == 3) = true := beq_iff_eq.mpr c43
     have c43b1 : (t418 != 3) = false := bne_eq_false_iff_eq.mpr c43
     clear c43
     obtain ⟨y430, hy430⟩ : ∃ y_ : List Int, y_ = (([(-1), 65536] : List Int)) := ⟨_, rfl⟩
     replace H : ((spec_l1PickInt.f s0_0 t419 t420 y430).bind fun bt433 => (some (t407, t408, t409, bt433.1, t411, t412, t413, t414, bt433.2.1, bt433.2.2))) = some (r1, r2, r3, r4, r5, r6, r7, r8, r9, r10) := by first | (rw [hy430]; with_reducible exact H) | (have H2_ := (Option.bind_some _ _).symm.trans H; rw [hy430]; with_reducible exact H2_) | (have H2_ := (Option.bind_some _ _).symm.trans H; with_reducible exact H2_) | with_reducible exact H | (rw [hy430]; exact H) | exact H
     have Ny430 := am hy430
     clear hy430
     replace H := bs H
     obtain ⟨⟨t433, t434, t435⟩, A440, H⟩ := H
     replace H : (some (t407, t408, t409, t433, t411, t412, t413, t414, t434, t435)) = some (r1, r2, r3, r4, r5, r6, r7, r8, r9, r10) := H
     have A44 := am A440
     clear A440
     simp only [Option.some.injEq, Prod.mk.injEq] at H
     obtain ⟨rfl, rfl, rfl, rfl, rfl, rfl, rfl, rfl, rfl, rfl⟩ := H
     go_enter Try.func84, Try.ntmps84
     go_wp2_with (first | ((with_reducible refine gd 2 ?_); refine bz (N := 2) ?_; intro gb406 hg w45 hbox hb; have n0_ := am (IsS107.below (si HI0.out) hb); have n1_ := am (KeepBut.trans (kp HK.out) (KeepBut.of_below hb g none) (.inl rfl)); have n2_ := am (below_step (bi HB.out) hb); have n3_ := am (hbox); have n4_ := am ((by rw [hg]; exact (keep_size (w := w) (g := g) (row := none) (kp HK.out)) : w.heap.size ≤ gb406)); have n5_ := am ((Nat.le_trans HW0.out (by rw [hg]; exact (keep_size (w := w) (g := g) (row := none) (kp HK.out)) : w.heap.size ≤ gb406) : w0.heap.size ≤ gb406)); have n6_ := am ((by rw [hg]; exact Nat.ne_of_lt (IsS107.lt (show IsS107 w0 _ g s0_0 s0_1 s0_2 from si HI0.out)) : g ≠ gb406)); have n7_ := am ((by rw [hg]; exact Nat.ne_of_gt (IsS107.lt (show IsS107 w0 _ g s0_0 s0_1 s0_2 from si HI0.out)) : gb406 ≠ g)); clear HI0; clear HK; clear HB; have HI0 := n0_; have HK := n1_; have HB := n2_; have BK406 := n3_; have GW406 := n4_; have GE406 := n5_; have NB0_406 := n6_; have NB406_0 := n7_; clear n0_ n1_ n2_ n3_ n4_ n5_ n6_ n7_; clear hb hbox hg) | ((with_reducible refine gate_callee (f := 108) rfl ?_); refine goesM_ (some 5) rfl rfl Try.func108 #[.pointer (some ⟨g, 0, none⟩)] ?_; (with_reducible refine (spec_l5DrawRight.calls g s0_0 s0_1 s0_2 t407 t408 t409 t410 t411 t412 t413 t414 t415 t416 w0 _ ?side1 ?side2 A2.out).mono ?_); (case side1 => exact si HI0.out); (case side2 => exact bi HB.out); rintro e w46 ⟨rfl, hi, hb, hk⟩; refine ⟨_, rfl, ?_⟩; replace BK406 := am (kB hk (kb BK406.out) NB406_0); replace HK := am (KeepBut.trans (kp HK.out) hk (.inl rfl)); replace HB := am (hb); replace HI0 := am (hi); (try clear hb); (try clear hk); (try clear hi)) | ((with_reducible refine gd 3 ?_); refine bz (N := 3) ?_; intro gb417 hg w47 hbox hb; have n0_ := am (IsS107.below (si HI0.out) hb); have n1_ := am (bb BK406 hb); have n2_ := am (KeepBut.trans (kp HK.out) (KeepBut.of_below hb g none) (.inl rfl)); have n3_ := am (below_step (bi HB.out) hb); have n4_ := am (hbox); have n5_ := am ((by rw [hg]; exact (keep_size (w := w) (g := g) (row := none) (kp HK.out)) : w.heap.size ≤ gb417)); have n6_ := am ((Nat.le_trans HW0.out (by rw [hg]; exact (keep_size (w := w) (g := g) (row := none) (kp HK.out)) : w.heap.size ≤ gb417) : w0.heap.size ≤ gb417)); have n7_ := am ((ga hg BK406.out)); have n8_ := am ((gc hg BK406.out)); have n9_ := am ((by rw [hg]; exact Nat.ne_of_lt (IsS107.lt (show IsS107 w0 _ g s0_0 t415 t416 from si HI0.out)) : g ≠ gb417)); have n10_ := am ((by rw [hg]; exact Nat.ne_of_gt (IsS107.lt (show IsS107 w0 _ g s0_0 t415 t416 from si HI0.out)) : gb417 ≠ g)); clear HI0; clear BK406; clear HK; clear HB; have HI0 := n0_; have BK406 := n1_; have HK := n2_; have HB := n3_; have BK417 := n4_; have GW417 := n5_; have GE417 := n6_; have NB406_417 := n7_; have NB417_406 := n8_; have NB0_417 := n9_; have NB417_0 := n10_; clear n0_ n1_ n2_ n3_ n4_ n5_ n6_ n7_ n8_ n9_ n10_; clear hb hbox hg; have p_ := NB417_406.out; have p_ := NB417_0.out; obtain ⟨hcz50_0, hcz50_1, hcz50_2, hcz50_3, hcz50_4, hcz50_5, hcz50_6, hcz50_7⟩ := ce8 BK417; obtain ⟨hfz50_0, hfz50_1, hfz50_2, hfz50_3, hfz50_4, hfz50_5, hfz50_6, hfz50_7⟩ := fz8 BK417) | ((with_reducible refine gate_callee (f := 60) rfl ?_); refine goesM_ (some 7) rfl rfl Try.func60 #[.pointer (some ⟨g, 0, none⟩), .int .i64 25] ?_; (with_reducible refine (spec_l1Below.calls g s0_0 t415 t416 25 t418 t419 t420 w0 _ ?side1 ?side2 A3.out).mono ?_); (case side1 => exact si HI0.out); (case side2 => exact bi HB.out); rintro e w51 ⟨rfl, hi, hb, hk⟩; refine ⟨_, rfl, ?_⟩; replace BK406 := am (kB hk (kf BK406.out) NB406_0); replace BK417 := am (kB hk (o := .cells #[.int .i64 t407, .int .i64 t408, .int .i64 t409, .int .i64 t410, .bool t411, .bool t412, .bool t413, .bool t414] 55 (0, 0)) (bq BK417.out) NB417_0); replace HK := am (KeepBut.trans (kp HK.out) hk (.inl rfl)); replace HB := am (hb); replace HI0 := am (hi); (try clear hb); (try clear hk); (try clear hi)) | ((with_reducible refine gd 26 ?_); refine Kd.R_lit (Kd.int .i64) _ 3 ?hg (N := 26) ?hd (xs := ([(-1), 65536] : List Int)) (inner := [.int .i64 (-1), .int .i64 65536]) (ok := fun _ => True) (okp := fun _ => True) ?hr ?hp (fun _ hk => hk) trivial (Below.refl _ _) (Nat.le_refl _) (by simp) ?_; (case hd => rfl); (case hg => rfl); (case hr => first | (go_simp; done) | (go_simp; rfl)); (case hp => exact (reI _)); intro v431 w52 ho53 hb hg_ hnew_; clear hg_ hnew_; (first | rw [← Ny430.out] at ho53 | (simp only [Int.reduceToNat] at ho53; rw [← Ny430.out] at ho53)); have HO432 := am (Kd.R_lower ho53 (keep_size (w := w) (g := g) (row := none) (kp HK.out))); replace HI0 := am (IsS107.below (si HI0.out) hb); replace BK406 := am (bb BK406 hb); replace BK417 := am (bb BK417 hb); replace HK := am (KeepBut.trans (kp HK.out) (KeepBut.of_below hb g none) (.inl rfl)); replace HB := am (below_step (bi HB.out) hb); clear hb ho53; obtain ⟨Ao54, co54, eo54⟩ := Kd.R_slice HO432.out; subst eo54) | ((with_reducible refine gate_callee (f := 70) rfl ?_); refine goesM_ (some 27) rfl rfl Try.func70 #[.pointer (some ⟨g, 0, none⟩), .slice Ao54 y430.length co54] ?_; (with_reducible refine (spec_l1PickInt.calls g s0_0 t419 t420 _ _ y430 t433 t434 t435 w0 _ ?side1 ?side2 ?side3 ?side4 ?side5 A44.out).mono ?_); (case side1 => exact si HI0.out); (case side2 => exact bi HB.out); (case side3 => exact kc (Kd.R_reads' HO432.out).2.2); (case side4 => exact (Kd.R_reads' HO432.out).2.1); (case side5 => exact far_slice (IsS107.own_ne HI0.out HO432.out (by decide))); rintro e w55 ⟨rfl, hi, hb, hk⟩; refine ⟨_, rfl, ?_⟩; replace BK406 := am (kB hk (kb BK406.out) NB406_0); replace BK417 := am (kB hk (kb BK417.out) NB417_0); replace HO432 := am (Kd.R_mono (Kd.R_keep (IsS107.apart (show IsS107 w0 _ g s0_0 t419 t420 from si HI0.out) (kr HO432.out) (by decide)) hk (fun _ h => h.2)) (fun _ h => h.1)); replace HK := am (KeepBut.trans (kp HK.out) hk (.inl rfl)); replace HB := am (hb); replace HI0 := am (hi); (try clear hb); (try clear hk); (try clear hi); obtain ⟨hcz56_0, hcz56_1, hcz56_2, hcz56_3, hcz56_4, hcz56_5, hcz56_6, hcz56_7⟩ := ce8 BK417; obtain ⟨hfz56_0, hfz56_1, hfz56_2, hfz56_3, hfz56_4, hfz56_5, hfz56_6, hfz56_7⟩ := fz8 BK417; have p_ := NB406_0.out; obtain ⟨hcz58_0, hcz58_1, hcz58_2, hcz58_3, hcz58_4, hcz58_5, hcz58_6, hcz58_7⟩ := ce8 BK406; obtain ⟨hfz58_0, hfz58_1, hfz58_2, hfz58_3, hfz58_4, hfz58_5, hfz58_6, hfz58_7⟩ := fz8 BK406))
     refine bodyPost_ret (results_cell_row rfl _ _ gb406 55 #[.int .i64 t407, .int .i64 t408, .int .i64 t409, .int .i64 t433, .bool t411, .bool t412, .bool t413, .bool t414] (0, 0) _ rfl (bf NB406_417 BK406.out) Try.underlying55 rfl (by kernel_rfl)) rfl ?_
     exact ⟨rt, si HI0.out, bi HB.out, kp HK.out⟩
    ·rw [if_neg c43] at H
     have c43b0 : (t418 == 3) = false := beq_eq_false_iff_ne.mpr c43
     have c43b1 : (t418 != 3) = true := bne_iff_ne.mpr c43
     simp only [Option.some.injEq, Prod.mk.injEq] at H
     obtain ⟨rfl, rfl, rfl, rfl, rfl, rfl, rfl, rfl, rfl, rfl⟩ := H
     go_enter Try.func84, Try.ntmps84
     go_wp2_with (first | ((with_reducible refine gd 2 ?_); refine bz (N := 2) ?_; intro gb406 hg w59 hbox hb; have n0_ := am (IsS107.below (si HI0.out) hb); have n1_ := am (KeepBut.trans (kp HK.out) (KeepBut.of_below hb g none) (.inl rfl)); have n2_ := am (below_step (bi HB.out) hb); have n3_ := am (hbox); have n4_ := am ((by rw [hg]; exact (keep_size (w := w) (g := g) (row := none) (kp HK.out)) : w.heap.size ≤ gb406)); have n5_ := am ((Nat.le_trans HW0.out (by rw [hg]; exact (keep_size (w := w) (g := g) (row := none) (kp HK.out)) : w.heap.size ≤ gb406) : w0.heap.size ≤ gb406)); have n6_ := am ((by rw [hg]; exact Nat.ne_of_lt (IsS107.lt (show IsS107 w0 _ g s0_0 s0_1 s0_2 from si HI0.out)) : g ≠ gb406)); have n7_ := am ((by rw [hg]; exact Nat.ne_of_gt (IsS107.lt (show IsS107 w0 _ g s0_0 s0_1 s0_2 from si HI0.out)) : gb406 ≠ g)); clear HI0; clear HK; clear HB; have HI0 := n0_; have HK := n1_; have HB := n2_; have BK406 := n3_; have GW406 := n4_; have GE406 := n5_; have NB0_406 := n6_; have NB406_0 := n7_; clear n0_ n1_ n2_ n3_ n4_ n5_ n6_ n7_; clear hb hbox hg) | ((with_reducible refine gate_callee (f := 108) rfl ?_); refine goesM_ (some 5) rfl rfl Try.func108 #[.pointer (some ⟨g, 0, none⟩)] ?_; (with_reducible refine (spec_l5DrawRight.calls g s0_0 s0_1 s0_2 t407 t408 t409 t410 t411 t412 t413 t414 t415 t416 w0 _ ?side1 ?side2 A2.out).mono ?_); (case side1 => exact si HI0.out); (case side2 => exact bi HB.out); rintro e w60 ⟨rfl, hi, hb, hk⟩; refine ⟨_, rfl, ?_⟩; replace BK406 := am (kB hk (kb BK406.out) NB406_0); replace HK := am (KeepBut.trans (kp HK.out) hk (.inl rfl)); replace HB := am (hb); replace HI0 := am (hi); (try clear hb); (try clear hk); (try clear hi)) | ((with_reducible refine gd 3 ?_); refine bz (N := 3) ?_; intro gb417 hg w61 hbox hb; have n0_ := am (IsS107.below (si HI0.out) hb); have n1_ := am (bb BK406 hb); have n2_ := am (KeepBut.trans (kp HK.out) (KeepBut.of_below hb g none) (.inl rfl)); have n3_ := am (below_step (bi HB.out) hb); have n4_ := am (hbox); have n5_ := am ((by rw [hg]; exact (keep_size (w := w) (g := g) (row := none) (kp HK.out)) : w.heap.size ≤ gb417)); have n6_ := am ((Nat.le_trans HW0.out (by rw [hg]; exact (keep_size (w := w) (g := g) (row := none) (kp HK.out)) : w.heap.size ≤ gb417) : w0.heap.size ≤ gb417)); have n7_ := am ((ga hg BK406.out)); have n8_ := am ((gc hg BK406.out)); have n9_ := am ((by rw [hg]; exact Nat.ne_of_lt (IsS107.lt (show IsS107 w0 _ g s0_0 t415 t416 from si HI0.out)) : g ≠ gb417)); have n10_ := am ((by rw [hg]; exact Nat.ne_of_gt (IsS107.lt (show IsS107 w0 _ g s0_0 t415 t416 from si HI0.out)) : gb417 ≠ g)); clear HI0; clear BK406; clear HK; clear HB; have HI0 := n0_; have BK406 := n1_; have HK := n2_; have HB := n3_; have BK417 := n4_; have GW417 := n5_; have GE417 := n6_; have NB406_417 := n7_; have NB417_406 := n8_; have NB0_417 := n9_; have NB417_0 := n10_; clear n0_ n1_ n2_ n3_ n4_ n5_ n6_ n7_ n8_ n9_ n10_; clear hb hbox hg; have p_ := NB417_406.out; have p_ := NB417_0.out; obtain ⟨hcz64_0, hcz64_1, hcz64_2, hcz64_3, hcz64_4, hcz64_5, hcz64_6, hcz64_7⟩ := ce8 BK417; obtain ⟨hfz64_0, hfz64_1, hfz64_2, hfz64_3, hfz64_4, hfz64_5, hfz64_6, hfz64_7⟩ := fz8 BK417) | ((with_reducible refine gate_callee (f := 60) rfl ?_); refine goesM_ (some 7) rfl rfl Try.func60 #[.pointer (some ⟨g, 0, none⟩), .int .i64 25] ?_; (with_reducible refine (spec_l1Below.calls g s0_0 t415 t416 25 t418 t419 t420 w0 _ ?side1 ?side2 A3.out).mono ?_); (case side1 => exact si HI0.out); (case side2 => exact bi HB.out); rintro e w65 ⟨rfl, hi, hb, hk⟩; refine ⟨_, rfl, ?_⟩; replace BK406 := am (kB hk (kf BK406.out) NB406_0); replace BK417 := am (kB hk (o := .cells #[.int .i64 t407, .int .i64 t408, .int .i64 t409, .int .i64 t410, .bool t411, .bool t412, .bool t413, .bool t414] 55 (0, 0)) (bq BK417.out) NB417_0); replace HK := am (KeepBut.trans (kp HK.out) hk (.inl rfl)); replace HB := am (hb); replace HI0 := am (hi); (try clear hb); (try clear hk); (try clear hi); obtain ⟨hcz66_0, hcz66_1, hcz66_2, hcz66_3, hcz66_4, hcz66_5, hcz66_6, hcz66_7⟩ := ce8 BK417; obtain ⟨hfz66_0, hfz66_1, hfz66_2, hfz66_3, hfz66_4, hfz66_5, hfz66_6, hfz66_7⟩ := fz8 BK417; have p_ := NB406_0.out; obtain ⟨hcz68_0, hcz68_1, hcz68_2, hcz68_3, hcz68_4, hcz68_5, hcz68_6, hcz68_7⟩ := ce8 BK406; obtain ⟨hfz68_0, hfz68_1, hfz68_2, hfz68_3, hfz68_4, hfz68_5, hfz68_6, hfz68_7⟩ := fz8 BK406))
     refine bodyPost_ret (results_cell_row rfl _ _ gb406 55 #[.int .i64 t407, .int .i64 t408, .int .i64 t409, .int .i64 t410, .bool t411, .bool t412, .bool t413, .bool t414] (0, 0) _ rfl (bq BK406.out) Try.underlying55 rfl (by kernel_rfl)) rfl ?_
     exact ⟨rt, si HI0.out, bi HB.out, kp HK.out⟩

/-! ### spec_DrawExec: function 47 -/
def spec_DrawExec.f (k : Nat) (l0 : List Int) : Option (List Int × Int × Int × Int × Int × Int × Bool × Bool × Bool × Bool × Int × Int × Int) := (spec_l1New.f k l0).bind fun bt439 => ((spec_l6Draw.f k bt439.1 bt439.2.1 bt439.2.2).bind fun bt443 => ((spec_l5Draw.f bt439.1 bt443.2.2.2.1 bt443.2.2.2.2).bind fun bt454 => ((spec_l7DrawInstr.f bt439.1 bt454.2.2.2.2.2.2.2.2.1 bt454.2.2.2.2.2.2.2.2.2).bind fun bt465 => ((spec_l1DrawInt.f bt439.1 bt465.2.2.1 bt465.2.2.2).bind fun bt470 => (some (bt443.2.1, bt443.2.2.1, bt454.1, bt454.2.1, bt454.2.2.1, bt454.2.2.2.1, bt454.2.2.2.2.1, bt454.2.2.2.2.2.1, bt454.2.2.2.2.2.2.1, bt454.2.2.2.2.2.2.2.1, bt465.1, bt465.2.1, bt470.1))))))
def spec_DrawExec.T5 : Bool × List (List Nat × List Nat) := (true, [([], []), ([], []), ([], []), ([], []), ([3], [3]), ([0, 4, 0], [0]), ([1, 5, 0, 1, 5], [1]), ([2, 6, 0, 1, 2, 5, 6], [2]), ([4, 7, 0, 1, 2, 3, 4, 5, 6, 7], [4])])
def spec_DrawExec.B5 : List Nat := [0, 0, 0, 0, 8, 25, 59, 127, 255]
theorem spec_DrawExec.tab5 : rtab .any (opsOf Try.f47 5) = spec_DrawExec.T5 := by kernel_rfl
theorem spec_DrawExec.bits5 : waitsOk spec_DrawExec.T5.2 spec_DrawExec.B5 = true := by kernel_rfl
theorem spec_DrawExec.calls (k : Nat) (A0 : Option Addr) (c0 : Nat) (l0 : List Int) (r1 : List Int) (r2 : Int) (r3 : Int) (r4 : Int) (r5 : Int) (r6 : Int) (r7 : Bool) (r8 : Bool) (r9 : Bool) (r10 : Bool) (r11 : Int) (r12 : Int) (r13 : Int) (w : World) (hr0 : Kd.C (Kd.int .u8) w A0 l0.length l0) (hc0 : l0.length ≤ c0) (h : spec_DrawExec.f k l0 = some (r1, r2, r3, r4, r5, r6, r7, r8, r9, r10, r11, r12, r13)) :
  Calls Try.prog 47 #[.slice A0 l0.length c0] w fun e w' => ∃ v0_ : Value, e = .returned (.tuple #[.agg #[v0_, .int .i64 r2], .agg #[.int .i64 r3, .int .i64 r4, .int .i64 r5, .int .i64 r6, .bool r7, .bool r8, .bool r9, .bool r10], .agg #[.int .i64 r11, .int .i64 r12], .int .i64 r13]) ∧ Kd.Q (Kd.int .i64) 3 w' w.heap.size (fun _ => True) v0_ r1 ∧ Below w.heap.size w w' := by
 have hu32 := Try.underlying32
 have hu55 := Try.underlying55
 have hu51 := Try.underlying51
 have hu29 := Try.underlying29
 have HR0 := am hr0
 have HC0 := am hc0
 clear hr0 hc0
 have HB := am (Below.refl w.heap.size w)
 have H : ((spec_l1New.f k l0).bind fun bt439 => ((spec_l6Draw.f k bt439.1 bt439.2.1 bt439.2.2).bind fun bt443 => ((spec_l5Draw.f bt439.1 bt443.2.2.2.1 bt443.2.2.2.2).bind fun bt454 => ((spec_l7DrawInstr.f bt439.1 bt454.2.2.2.2.2.2.2.2.1 bt454.2.2.2.2.2.2.2.2.2).bind fun bt465 => ((spec_l1DrawInt.f bt439.1 bt465.2.2.1 bt465.2.2.2).bind fun bt470 => (some (bt443.2.1, bt443.2.2.1, bt454.1, bt454.2.1, bt454.2.2.1, bt454.2.2.2.1, bt454.2.2.2.2.1, bt454.2.2.2.2.2.1, bt454.2.2.2.2.2.2.1, bt454.2.2.2.2.2.2.2.1, bt465.1, bt465.2.1, bt470.1))))))) = some (r1, r2, r3, r4, r5, r6, r7, r8, r9, r10, r11, r12, r13) := h
 clear h
 replace H := bs H
 obtain ⟨⟨t439, t440, t441⟩, A20, H⟩ := H
 replace H : ((spec_l6Draw.f k t439 t440 t441).bind fun bt443 => ((spec_l5Draw.f t439 bt443.2.2.2.1 bt443.2.2.2.2).bind fun bt454 => ((spec_l7DrawInstr.f t439 bt454.2.2.2.2.2.2.2.2.1 bt454.2.2.2.2.2.2.2.2.2).bind fun bt465 => ((spec_l1DrawInt.f t439 bt465.2.2.1 bt465.2.2.2).bind fun bt470 => (some (bt443.2.1, bt443.2.2.1, bt454.1, bt454.2.1, bt454.2.2.1, bt454.2.2.2.1, bt454.2.2.2.2.1, bt454.2.2.2.2.2.1, bt454.2.2.2.2.2.2.1, bt454.2.2.2.2.2.2.2.1, bt465.1, bt465.2.1, bt470.1)))))) = some (r1, r2, r3, r4, r5, r6, r7, r8, r9, r10, r11, r12, r13) := H
 have A2 := am A20
 clear A20
 replace H := bs H
 obtain ⟨⟨t443, t446, t449, t450, t451⟩, A30, H⟩ := H
 replace H : ((spec_l5Draw.f t439 t450 t451).bind fun bt454 => ((spec_l7DrawInstr.f t439 bt454.2.2.2.2.2.2.2.2.1 bt454.2.2.2.2.2.2.2.2.2).bind fun bt465 => ((spec_l1DrawInt.f t439 bt465.2.2.1 bt465.2.2.2).bind fun bt470 => (some (t446, t449, bt454.1, bt454.2.1, bt454.2.2.1, bt454.2.2.2.1, bt454.2.2.2.2.1, bt454.2.2.2.2.2.1, bt454.2.2.2.2.2.2.1, bt454.2.2.2.2.2.2.2.1, bt465.1, bt465.2.1, bt470.1))))) = some (r1, r2, r3, r4, r5, r6, r7, r8, r9, r10, r11, r12, r13) := H
 have A3 := am A30
 clear A30
 replace H := bs H
 obtain ⟨⟨t454, t455, t456, t457, t458, t459, t460, t461, t462, t463⟩, A40, H⟩ := H
 replace H : ((spec_l7DrawInstr.f t439 t462 t463).bind fun bt465 => ((spec_l1DrawInt.f t439 bt465.2.2.1 bt465.2.2.2).bind fun bt470 => (some (t446, t449, t454, t455, t456, t457, t458, t459, t460, t461, bt465.1, bt465.2.1, bt470.1)))) = some (r1, r2, r3, r4, r5, r6, r7, r8, r9, r10, r11, r12, r13) := H
 have A4 := am A40
 clear A40
 replace H := bs H
 obtain ⟨⟨t465, t466, t467, t468⟩, A50, H⟩ := H
 replace H : ((spec_l1DrawInt.f t439 t467 t468).bind fun bt470 => (some (t446, t449, t454, t455, t456, t457, t458, t459, t460, t461, t465, t466, bt470.1))) = some (r1, r2, r3, r4, r5, r6, r7, r8, r9, r10, r11, r12, r13) := H
 have A5 := am A50
 clear A50
 replace H := bs H
 obtain ⟨⟨t470, t471, t472⟩, A60, H⟩ := H
 replace H : (some (t446, t449, t454, t455, t456, t457, t458, t459, t460, t461, t465, t466, t470)) = some (r1, r2, r3, r4, r5, r6, r7, r8, r9, r10, r11, r12, r13) := H
 have A6 := am A60
 clear A60
 simp only [Option.some.injEq, Prod.mk.injEq] at H
 obtain ⟨rfl, rfl, rfl, rfl, rfl, rfl, rfl, rfl, rfl, rfl, rfl, rfl, rfl⟩ := H
 go_enter Try.func47, Try.ntmps47
 try go_wp2_with (first | ((with_reducible refine gd 2 ?_); refine bx (N := 2) (cs := #[.slice none 0 0, .int .i64 0]) (t := 32) ?_; intro gb436 hg w7 hbox hb; have BK436 := am (hbox); have GW436 := am ((gs hg (bw HB.out))); have GE436 := am ((gs hg (bw HB.out))); replace HB := am (below_step (bw HB.out) hb); clear hb hbox hg) | ((with_reducible refine gd 3 ?_); refine bz (N := 3) ?_; intro gb437 hg w8 hbox hb; have BK437 := am (hbox); have GW437 := am ((gs hg (bw HB.out))); have GE437 := am ((gs hg (bw HB.out))); replace HB := am (below_step (bw HB.out) hb); have NB436_437 := am ((ga hg BK436.out)); have NB437_436 := am ((gc hg BK436.out)); replace BK436 := am (bb BK436 hb); clear hb hbox hg) | ((with_reducible refine gd 4 ?_); refine bx (N := 4) (cs := #[.int .i64 0, .int .i64 0]) (t := 51) ?_; intro gb438 hg w9 hbox hb; have BK438 := am (hbox); have GW438 := am ((gs hg (bw HB.out))); have GE438 := am ((gs hg (bw HB.out))); replace HB := am (below_step (bw HB.out) hb); have NB436_438 := am ((ga hg BK436.out)); have NB438_436 := am ((gc hg BK436.out)); replace BK436 := am (bb BK436 hb); have NB437_438 := am ((ga hg BK437.out)); have NB438_437 := am ((gc hg BK437.out)); replace BK437 := am (bb BK437 hb); clear hb hbox hg) | ((with_reducible refine gate_callee (f := 57) rfl ?_); refine goesM_ (some 12) rfl rfl Try.func57 #[.slice A0 l0.length c0] ?_; (with_reducible refine (spec_l1New.calls k _ _ l0 t439 t440 t441 w _ ?side1 ?side2 ?side3 A2.out).mono ?_); (case side1 => exact bw HB.out); (case side2 => exact HR0.out); (case side3 => exact HC0.out); rintro e w10 ⟨g442, rfl, hi, hb, hb2⟩; refine ⟨_, rfl, ?_⟩; replace HB := am (hb); have HI442 := am (hi); have NB442_436 := am (IsS107.ne_blk hi (bb BK436 hb2) (by decide)); have NB436_442 := am (Ne.symm (IsS107.ne_blk hi (bb BK436 hb2) (by decide))); replace BK436 := am (bb BK436 hb2); have NB442_437 := am (IsS107.ne_blk hi (bb BK437 hb2) (by decide)); have NB437_442 := am (Ne.symm (IsS107.ne_blk hi (bb BK437 hb2) (by decide))); replace BK437 := am (bb BK437 hb2); have NB442_438 := am (IsS107.ne_blk hi (bb BK438 hb2) (by decide)); have NB438_442 := am (Ne.symm (IsS107.ne_blk hi (bb BK438 hb2) (by decide))); replace BK438 := am (bb BK438 hb2); (try clear hb); (try clear hb2); (try clear hk); (try clear hi)) | ((with_reducible refine gate_callee (f := 62) rfl ?_); refine goesM_ (some 15) rfl rfl Try.func62 #[.pointer (some ⟨g442, 0, none⟩)] ?_; (with_reducible refine (spec_l6Draw.calls k g442 t439 t440 t441 t443 t446 t449 t450 t451 w _ ?side1 ?side2 A3.out).mono ?_); (case side1 => exact si HI442.out); (case side2 => exact bi HB.out); rintro e w11 ⟨v444, v447, rfl, ho0, ho1, hi, hb, hk⟩; refine ⟨_, rfl, ?_⟩; replace BK436 := am (kB hk (kb BK436.out) NB436_442); replace BK437 := am (kB hk (kb BK437.out) NB437_442); replace BK438 := am (kB hk (kb BK438.out) NB438_442); have HO445 := am (Kd.S_lower ho0 (below_size (bi HB.out))); have HO448 := am (Kd.Q_lower ho1 (below_size (bi HB.out))); replace HB := am (hb); replace HI442 := am (hi); (try clear hb); (try clear hb2); (try clear hk); (try clear hi); (try clear ho0); (try clear ho1)) | ((with_reducible refine gd 7 ?_); refine bx (N := 7) (cs := #[.slice none 0 0]) (t := 29) ?_; intro gb452 hg w12 hbox hb; have n0_ := am (Kd.S_below (ks HO445.out) hb); have n1_ := am (Kd.Q_below (kq HO448.out) hb); have n2_ := am (bb BK436 hb); have n3_ := am (bb BK437 hb); have n4_ := am (bb BK438 hb); have n5_ := am (IsS107.below (si HI442.out) hb); have n6_ := am (below_step (bi HB.out) hb); have n7_ := am (hbox); have n8_ := am ((gs hg (bi HB.out))); have n9_ := am ((gs hg (bi HB.out))); have n10_ := am ((ga hg BK436.out)); have n11_ := am ((gc hg BK436.out)); have n12_ := am ((ga hg BK437.out)); have n13_ := am ((gc hg BK437.out)); have n14_ := am ((ga hg BK438.out)); have n15_ := am ((gc hg BK438.out)); have n16_ := am ((by rw [hg]; exact Nat.ne_of_lt (IsS107.lt (show IsS107 w _ g442 t439 t450 t451 from si HI442.out)) : g442 ≠ gb452)); have n17_ := am ((by rw [hg]; exact Nat.ne_of_gt (IsS107.lt (show IsS107 w _ g442 t439 t450 t451 from si HI442.out)) : gb452 ≠ g442)); clear HO445; clear HO448; clear BK436; clear BK437; clear BK438; clear HI442; clear HB; have HO445 := n0_; have HO448 := n1_; have BK436 := n2_; have BK437 := n3_; have BK438 := n4_; have HI442 := n5_; have HB := n6_; have BK452 := n7_; have GW452 := n8_; have GE452 := n9_; have NB436_452 := n10_; have NB452_436 := n11_; have NB437_452 := n12_; have NB452_437 := n13_; have NB438_452 := n14_; have NB452_438 := n15_; have NB442_452 := n16_; have NB452_442 := n17_; clear n0_ n1_ n2_ n3_ n4_ n5_ n6_ n7_ n8_ n9_ n10_ n11_ n12_ n13_ n14_ n15_ n16_ n17_; clear hb hbox hg) | ((with_reducible refine gd 8 ?_); refine bx (N := 8) (cs := #[.slice none 0 0, .int .i64 0]) (t := 32) ?_; intro gb453 hg w13 hbox hb; have n0_ := am (Kd.S_below (ks HO445.out) hb); have n1_ := am (Kd.Q_below (kq HO448.out) hb); have n2_ := am (bb BK436 hb); have n3_ := am (bb BK437 hb); have n4_ := am (bb BK438 hb); have n5_ := am (IsS107.below (si HI442.out) hb); have n6_ := am (bb BK452 hb); have n7_ := am (below_step (bi HB.out) hb); have n8_ := am (hbox); have n9_ := am ((gs hg (bi HB.out))); have n10_ := am ((gs hg (bi HB.out))); have n11_ := am ((ga hg BK436.out)); have n12_ := am ((gc hg BK436.out)); have n13_ := am ((ga hg BK437.out)); have n14_ := am ((gc hg BK437.out)); have n15_ := am ((ga hg BK438.out)); have n16_ := am ((gc hg BK438.out)); have n17_ := am ((ga hg BK452.out)); have n18_ := am ((gc hg BK452.out)); have n19_ := am ((by rw [hg]; exact Nat.ne_of_lt (IsS107.lt (show IsS107 w _ g442 t439 t450 t451 from si HI442.out)) : g442 ≠ gb453)); have n20_ := am ((by rw [hg]; exact Nat.ne_of_gt (IsS107.lt (show IsS107 w _ g442 t439 t450 t451 from si HI442.out)) : gb453 ≠ g442)); clear HO445; clear HO448; clear BK436; clear BK437; clear BK438; clear HI442; clear BK452; clear HB; have HO445 := n0_; have HO448 := n1_; have BK436 := n2_; have BK437 := n3_; have BK438 := n4_; have HI442 := n5_; have BK452 := n6_; have HB := n7_; have BK453 := n8_; have GW453 := n9_; have GE453 := n10_; have NB436_453 := n11_; have NB453_436 := n12_; have NB437_453 := n13_; have NB453_437 := n14_; have NB438_453 := n15_; have NB453_438 := n16_; have NB452_453 := n17_; have NB453_452 := n18_; have NB442_453 := n19_; have NB453_442 := n20_; clear n0_ n1_ n2_ n3_ n4_ n5_ n6_ n7_ n8_ n9_ n10_ n11_ n12_ n13_ n14_ n15_ n16_ n17_ n18_ n19_ n20_; clear hb hbox hg; obtain ⟨Ao14, co14, eo14⟩ := Kd.S_slice HO445.out; subst eo14; have p_ := NB452_436.out; have p_ := NB452_437.out; have p_ := NB452_438.out; have p_ := NB452_453.out; have p_ := NB452_442.out; have hcz20_0 : w13.cell? ⟨gb452, 0, none⟩ = some (.slice none 0 0) := cl BK452 0; have hfz20_0 := blk_frozen BK452.out 0; obtain ⟨Ao21, co21, eo21, _⟩ := Kd.Q_slice HO448.out; subst eo21; have p_ := NB453_436.out; have p_ := NB453_437.out; have p_ := NB453_438.out; have p_ := NB453_442.out; obtain ⟨hcz26_0, hcz26_1⟩ := ce2 BK453; obtain ⟨hfz26_0, hfz26_1⟩ := fz2 BK453) | ((with_reducible refine gate_callee (f := 84) rfl ?_); refine goesM_ (some 19) rfl rfl Try.func84 #[.pointer (some ⟨g442, 0, none⟩)] ?_; (with_reducible refine (spec_l5Draw.calls g442 t439 t450 t451 t454 t455 t456 t457 t458 t459 t460 t461 t462 t463 w _ ?side1 ?side2 A4.out).mono ?_); (case side1 => exact si HI442.out); (case side2 => exact bi HB.out); rintro e w27 ⟨rfl, hi, hb, hk⟩; refine ⟨_, rfl, ?_⟩; replace BK436 := am (kB hk (kf BK436.out) NB436_442); replace BK437 := am (kB hk (kf BK437.out) NB437_442); replace BK438 := am (kB hk (kf BK438.out) NB438_442); replace HO445 := am (Kd.S_mono (Kd.S_keep (IsS107.apartS (show IsS107 w _ g442 t439 t450 t451 from si HI442.out) (ks ((Kd.S_mono (Kd.S_mono (Kd.S_far (p := ⟨gb453, 1, none⟩) (Kd.S_far (p := ⟨gb453, 0, none⟩) (Kd.S_far (p := ⟨gb452, 0, none⟩) (Kd.S_types (Kd.S_types HO445.out BK452.out (by decide)) BK453.out (by decide)) (fun _ hk => hk.1.2) (.slice Ao14 t443.length co14)) (fun _ hk => hk.2) (.slice Ao21 t446.length co21)) (fun _ hk => hk.2) (.int .i64 t449)) (fun _ h_ => h_.1)) (fun _ h_ => h_.1)))) (by decide)) hk (fun _ h => h.2)) (fun _ h => h.1)); replace HO448 := am (Kd.Q_mono (Kd.Q_keep (IsS107.apartQ (show IsS107 w _ g442 t439 t450 t451 from si HI442.out) (kq ((Kd.Q_mono (Kd.Q_mono (Kd.Q_far (p := ⟨gb453, 1, none⟩) (Kd.Q_far (p := ⟨gb453, 0, none⟩) (Kd.Q_far (p := ⟨gb452, 0, none⟩) (Kd.Q_types (Kd.Q_types HO448.out BK452.out (by decide)) BK453.out (by decide)) (fun _ hk => hk.1.2) (.slice Ao14 t443.length co14)) (fun _ hk => hk.2) (.slice Ao21 t446.length co21)) (fun _ hk => hk.2) (.int .i64 t449)) (fun _ h_ => h_.1)) (fun _ h_ => h_.1)))) (by decide)) hk (fun _ h => h.2)) (fun _ h => h.1)); replace BK452 := am (kB hk (o := .cells #[.slice Ao14 t443.length co14] 29 (0, 0)) (bf NB452_453 BK452.out) NB452_442); replace BK453 := am (kB hk (o := .cells #[.slice Ao21 t446.length co21, .int .i64 t449] 32 (0, 0)) (bf NB453_452 BK453.out) NB453_442); replace HB := am (hb); replace HI442 := am (hi); (try clear hb); (try clear hb2); (try clear hk); (try clear hi)) | ((with_reducible refine gd 9 ?_); refine bz (N := 9) ?_; intro gb464 hg w28 hbox hb; have n0_ := am (Kd.S_below (ks HO445.out) hb); have n1_ := am (Kd.Q_below (kq HO448.out) hb); have n2_ := am (bb BK436 hb); have n3_ := am (bb BK437 hb); have n4_ := am (bb BK438 hb); have n5_ := am (IsS107.below (si HI442.out) hb); have n6_ := am (bb BK452 hb); have n7_ := am (bb BK453 hb); have n8_ := am (below_step (bi HB.out) hb); have n9_ := am (hbox); have n10_ := am ((gs hg (bi HB.out))); have n11_ := am ((gs hg (bi HB.out))); have n12_ := am ((ga hg BK436.out)); have n13_ := am ((gc hg BK436.out)); have n14_ := am ((ga hg BK437.out)); have n15_ := am ((gc hg BK437.out)); have n16_ := am ((ga hg BK438.out)); have n17_ := am ((gc hg BK438.out)); have n18_ := am ((ga hg BK452.out)); have n19_ := am ((gc hg BK452.out)); have n20_ := am ((ga hg BK453.out)); have n21_ := am ((gc hg BK453.out)); have n22_ := am ((by rw [hg]; exact Nat.ne_of_lt (IsS107.lt (show IsS107 w _ g442 t439 t462 t463 from si HI442.out)) : g442 ≠ gb464)); have n23_ := am ((by rw [hg]; exact Nat.ne_of_gt (IsS107.lt (show IsS107 w _ g442 t439 t462 t463 from si HI442.out)) : gb464 ≠ g442)); clear HO445; clear HO448; clear BK436; clear BK437; clear BK438; clear HI442; clear BK452; clear BK453; clear HB; have HO445 := n0_; have HO448 := n1_; have BK436 := n2_; have BK437 := n3_; have BK438 := n4_; have HI442 := n5_; have BK452 := n6_; have BK453 := n7_; have HB := n8_; have BK464 := n9_; have GW464 := n10_; have GE464 := n11_; have NB436_464 := n12_; have NB464_436 := n13_; have NB437_464 := n14_; have NB464_437 := n15_; have NB438_464 := n16_; have NB464_438 := n17_; have NB452_464 := n18_; have NB464_452 := n19_; have NB453_464 := n20_; have NB464_453 := n21_; have NB442_464 := n22_; have NB464_442 := n23_; clear n0_ n1_ n2_ n3_ n4_ n5_ n6_ n7_ n8_ n9_ n10_ n11_ n12_ n13_ n14_ n15_ n16_ n17_ n18_ n19_ n20_ n21_ n22_ n23_; clear hb hbox hg; have p_ := NB464_436.out; have p_ := NB464_437.out; have p_ := NB464_438.out; have p_ := NB464_452.out; have p_ := NB464_453.out; have p_ := NB464_442.out; obtain ⟨hcz35_0, hcz35_1, hcz35_2, hcz35_3, hcz35_4, hcz35_5, hcz35_6, hcz35_7⟩ := ce8 BK464; obtain ⟨hfz35_0, hfz35_1, hfz35_2, hfz35_3, hfz35_4, hfz35_5, hfz35_6, hfz35_7⟩ := fz8 BK464) | ((with_reducible refine gate_callee (f := 83) rfl ?_); refine goesM_ (some 21) rfl rfl Try.func83 #[.pointer (some ⟨g442, 0, none⟩)] ?_; (with_reducible refine (spec_l7DrawInstr.calls g442 t439 t462 t463 t465 t466 t467 t468 w _ ?side1 ?side2 A5.out).mono ?_); (case side1 => exact si HI442.out); (case side2 => exact bi HB.out); rintro e w36 ⟨rfl, hi, hb, hk⟩; refine ⟨_, rfl, ?_⟩; replace BK436 := am (kB hk (kf BK436.out) NB436_442); replace BK437 := am (kB hk (kf BK437.out) NB437_442); replace BK438 := am (kB hk (kf BK438.out) NB438_442); replace HO445 := am (Kd.S_mono (Kd.S_keep (IsS107.apartS (show IsS107 w _ g442 t439 t462 t463 from si HI442.out) (ks ((Kd.S_mono (Kd.S_far (p := ⟨gb464, 7, none⟩) (Kd.S_far (p := ⟨gb464, 6, none⟩) (Kd.S_far (p := ⟨gb464, 5, none⟩) (Kd.S_far (p := ⟨gb464, 4, none⟩) (Kd.S_far (p := ⟨gb464, 3, none⟩) (Kd.S_far (p := ⟨gb464, 2, none⟩) (Kd.S_far (p := ⟨gb464, 1, none⟩) (Kd.S_far (p := ⟨gb464, 0, none⟩) (Kd.S_types HO445.out BK464.out (by decide)) (fun _ hk => hk.2) (.int .i64 t454)) (fun _ hk => hk.2) (.int .i64 t455)) (fun _ hk => hk.2) (.int .i64 t456)) (fun _ hk => hk.2) (.int .i64 t457)) (fun _ hk => hk.2) (.bool t458)) (fun _ hk => hk.2) (.bool t459)) (fun _ hk => hk.2) (.bool t460)) (fun _ hk => hk.2) (.bool t461)) (fun _ h_ => h_.1)))) (by decide)) hk (fun _ h => h.2)) (fun _ h => h.1)); replace HO448 := am (Kd.Q_mono (Kd.Q_keep (IsS107.apartQ (show IsS107 w _ g442 t439 t462 t463 from si HI442.out) (kq ((Kd.Q_mono (Kd.Q_far (p := ⟨gb464, 7, none⟩) (Kd.Q_far (p := ⟨gb464, 6, none⟩) (Kd.Q_far (p := ⟨gb464, 5, none⟩) (Kd.Q_far (p := ⟨gb464, 4, none⟩) (Kd.Q_far (p := ⟨gb464, 3, none⟩) (Kd.Q_far (p := ⟨gb464, 2, none⟩) (Kd.Q_far (p := ⟨gb464, 1, none⟩) (Kd.Q_far (p := ⟨gb464, 0, none⟩) (Kd.Q_types HO448.out BK464.out (by decide)) (fun _ hk => hk.2) (.int .i64 t454)) (fun _ hk => hk.2) (.int .i64 t455)) (fun _ hk => hk.2) (.int .i64 t456)) (fun _ hk => hk.2) (.int .i64 t457)) (fun _ hk => hk.2) (.bool t458)) (fun _ hk => hk.2) (.bool t459)) (fun _ hk => hk.2) (.bool t460)) (fun _ hk => hk.2) (.bool t461)) (fun _ h_ => h_.1)))) (by decide)) hk (fun _ h => h.2)) (fun _ h => h.1)); replace BK452 := am (kB hk (kf BK452.out) NB452_442); replace BK453 := am (kB hk (kf BK453.out) NB453_442); replace BK464 := am (kB hk (o := .cells #[.int .i64 t454, .int .i64 t455, .int .i64 t456, .int .i64 t457, .bool t458, .bool t459, .bool t460, .bool t461] 55 (0, 0)) (bq BK464.out) NB464_442); replace HB := am (hb); replace HI442 := am (hi); (try clear hb); (try clear hb2); (try clear hk); (try clear hi)) | ((with_reducible refine gd 10 ?_); refine bx (N := 10) (cs := #[.int .i64 0, .int .i64 0]) (t := 51) ?_; intro gb469 hg w37 hbox hb; have n0_ := am (Kd.S_below (ks HO445.out) hb); have n1_ := am (Kd.Q_below (kq HO448.out) hb); have n2_ := am (bb BK436 hb); have n3_ := am (bb BK437 hb); have n4_ := am (bb BK438 hb); have n5_ := am (IsS107.below (si HI442.out) hb); have n6_ := am (bb BK452 hb); have n7_ := am (bb BK453 hb); have n8_ := am (bb BK464 hb); have n9_ := am (below_step (bi HB.out) hb); have n10_ := am (hbox); have n11_ := am ((gs hg (bi HB.out))); have n12_ := am ((gs hg (bi HB.out))); have n13_ := am ((ga hg BK436.out)); have n14_ := am ((gc hg BK436.out)); have n15_ := am ((ga hg BK437.out)); have n16_ := am ((gc hg BK437.out)); have n17_ := am ((ga hg BK438.out)); have n18_ := am ((gc hg BK438.out)); have n19_ := am ((ga hg BK452.out)); have n20_ := am ((gc hg BK452.out)); have n21_ := am ((ga hg BK453.out)); have n22_ := am ((gc hg BK453.out)); have n23_ := am ((ga hg BK464.out)); have n24_ := am ((gc hg BK464.out)); have n25_ := am ((by rw [hg]; exact Nat.ne_of_lt (IsS107.lt (show IsS107 w _ g442 t439 t467 t468 from si HI442.out)) : g442 ≠ gb469)); have n26_ := am ((by rw [hg]; exact Nat.ne_of_gt (IsS107.lt (show IsS107 w _ g442 t439 t467 t468 from si HI442.out)) : gb469 ≠ g442)); clear HO445; clear HO448; clear BK436; clear BK437; clear BK438; clear HI442; clear BK452; clear BK453; clear BK464; clear HB; have HO445 := n0_; have HO448 := n1_; have BK436 := n2_; have BK437 := n3_; have BK438 := n4_; have HI442 := n5_; have BK452 := n6_; have BK453 := n7_; have BK464 := n8_; have HB := n9_; have BK469 := n10_; have GW469 := n11_; have GE469 := n12_; have NB436_469 := n13_; have NB469_436 := n14_; have NB437_469 := n15_; have NB469_437 := n16_; have NB438_469 := n17_; have NB469_438 := n18_; have NB452_469 := n19_; have NB469_452 := n20_; have NB453_469 := n21_; have NB469_453 := n22_; have NB464_469 := n23_; have NB469_464 := n24_; have NB442_469 := n25_; have NB469_442 := n26_; clear n0_ n1_ n2_ n3_ n4_ n5_ n6_ n7_ n8_ n9_ n10_ n11_ n12_ n13_ n14_ n15_ n16_ n17_ n18_ n19_ n20_ n21_ n22_ n23_ n24_ n25_ n26_; clear hb hbox hg; have p_ := NB469_436.out; have p_ := NB469_437.out; have p_ := NB469_438.out; have p_ := NB469_452.out; have p_ := NB469_453.out; have p_ := NB469_464.out; have p_ := NB469_442.out; obtain ⟨hcz45_0, hcz45_1⟩ := ce2 BK469; obtain ⟨hfz45_0, hfz45_1⟩ := fz2 BK469))
 have n0_ : Aside0 (Kd.S (cutK 3 (Kd.int .i64)) 30 ((w37.setCell ⟨gb469, 0, none⟩ (.int .i64 t465)).setCell ⟨gb469, 1, none⟩ (.int .i64 t466)) w.heap.size (fun k_ => some k_ ≠ (.slice Ao21 t446.length co21 : Value).ownBlock) (.slice Ao14 t443.length co14) t443) := ⟨ks (Kd.S_mono (Kd.S_far (p := ⟨gb469, 1, none⟩) (Kd.S_far (p := ⟨gb469, 0, none⟩) (Kd.S_types HO445.out BK469.out (by decide)) (fun _ hk => hk.2) (.int .i64 t465)) (fun _ hk => hk.2) (.int .i64 t466)) (fun _ hk => hk.1))⟩
 have n1_ : Aside0 (Kd.Q (Kd.int .i64) 3 ((w37.setCell ⟨gb469, 0, none⟩ (.int .i64 t465)).setCell ⟨gb469, 1, none⟩ (.int .i64 t466)) w.heap.size (fun _ => True) (.slice Ao21 t446.length co21) t446) := ⟨kq (Kd.Q_mono (Kd.Q_far (p := ⟨gb469, 1, none⟩) (Kd.Q_far (p := ⟨gb469, 0, none⟩) (Kd.Q_types HO448.out BK469.out (by decide)) (fun _ hk => hk.2) (.int .i64 t465)) (fun _ hk => hk.2) (.int .i64 t466)) (fun _ hk => trivial))⟩
 have n2_ : Aside0 (((w37.setCell ⟨gb469, 0, none⟩ (.int .i64 t465)).setCell ⟨gb469, 1, none⟩ (.int .i64 t466)).heap[gb436]? = some (.cells #[.slice none 0 0, .int .i64 0] 32 (0, 0))) := ⟨kf BK436.out⟩
 have n3_ : Aside0 (((w37.setCell ⟨gb469, 0, none⟩ (.int .i64 t465)).setCell ⟨gb469, 1, none⟩ (.int .i64 t466)).heap[gb437]? = some (.cells #[.int .i64 0, .int .i64 0, .int .i64 0, .int .i64 0, .bool false, .bool false, .bool false, .bool false] 55 (0, 0))) := ⟨kf BK437.out⟩
 have n4_ : Aside0 (((w37.setCell ⟨gb469, 0, none⟩ (.int .i64 t465)).setCell ⟨gb469, 1, none⟩ (.int .i64 t466)).heap[gb438]? = some (.cells #[.int .i64 0, .int .i64 0] 51 (0, 0))) := ⟨kf BK438.out⟩
 have n5_ : Aside0 (((w37.setCell ⟨gb469, 0, none⟩ (.int .i64 t465)).setCell ⟨gb469, 1, none⟩ (.int .i64 t466)).heap[gb452]? = some (.cells #[.slice Ao14 t443.length co14] 29 (0, 0))) := ⟨kf BK452.out⟩
 have n6_ : Aside0 (((w37.setCell ⟨gb469, 0, none⟩ (.int .i64 t465)).setCell ⟨gb469, 1, none⟩ (.int .i64 t466)).heap[gb453]? = some (.cells #[.slice Ao21 t446.length co21, .int .i64 t449] 32 (0, 0))) := ⟨kf BK453.out⟩
 have n7_ : Aside0 (((w37.setCell ⟨gb469, 0, none⟩ (.int .i64 t465)).setCell ⟨gb469, 1, none⟩ (.int .i64 t466)).heap[gb464]? = some (.cells #[.int .i64 t454, .int .i64 t455, .int .i64 t456, .int .i64 t457, .bool t458, .bool t459, .bool t460, .bool t461] 55 (0, 0))) := ⟨kf BK464.out⟩
 have n8_ : Aside0 (((w37.setCell ⟨gb469, 0, none⟩ (.int .i64 t465)).setCell ⟨gb469, 1, none⟩ (.int .i64 t466)).heap[gb469]? = some (.cells #[.int .i64 t465, .int .i64 t466] 51 (0, 0))) := ⟨bq BK469.out⟩
 have n9_ : Aside0 (IsS107 w ((w37.setCell ⟨gb469, 0, none⟩ (.int .i64 t465)).setCell ⟨gb469, 1, none⟩ (.int .i64 t466)) g442 t439 t467 t468) := ⟨si HI442.out⟩
 have n10_ : Aside0 (Below w.heap.size w ((w37.setCell ⟨gb469, 0, none⟩ (.int .i64 t465)).setCell ⟨gb469, 1, none⟩ (.int .i64 t466))) := ⟨bi HB.out⟩
 (try clear HO445); (try clear HO448); (try clear BK436); (try clear BK437); (try clear BK438); (try clear BK452); (try clear BK453); (try clear BK464); (try clear BK469); (try clear HI442); (try clear HB)
 generalize ((w37.setCell ⟨gb469, 0, none⟩ (.int .i64 t465)).setCell ⟨gb469, 1, none⟩ (.int .i64 t466)) = w46 at n0_ n1_ n2_ n3_ n4_ n5_ n6_ n7_ n8_ n9_ n10_ ⊢
 have HO445 := n0_; have HO448 := n1_; have BK436 := n2_; have BK437 := n3_; have BK438 := n4_; have BK452 := n5_; have BK453 := n6_; have BK464 := n7_; have BK469 := n8_; have HI442 := n9_; have HB := n10_; clear n0_ n1_ n2_ n3_ n4_ n5_ n6_ n7_ n8_ n9_ n10_
 replace HO445 := am (Kd.S_drew HO445.out)
 replace HO448 := am (Kd.Q_drew HO448.out)
 replace BK436 := am (blk_drew BK436.out)
 replace BK437 := am (blk_drew BK437.out)
 replace BK438 := am (blk_drew BK438.out)
 replace BK452 := am (blk_drew BK452.out)
 replace BK453 := am (blk_drew BK453.out)
 replace BK464 := am (blk_drew BK464.out)
 replace BK469 := am (blk_drew BK469.out)
 replace HI442 := am (IsS107.drew HI442.out)
 replace HB := am (below_drew1 HB.out)
 refine start_ (n := 9) (S := fun w' => w'.cell? ⟨gb453, 0, none⟩ = some (.slice Ao21 t446.length co21) ∧ w'.cell? ⟨gb453, 1, none⟩ = some (.int .i64 t449) ∧ w'.cell? ⟨gb464, 0, none⟩ = some (.int .i64 t454) ∧ w'.cell? ⟨gb464, 1, none⟩ = some (.int .i64 t455) ∧ w'.cell? ⟨gb464, 2, none⟩ = some (.int .i64 t456) ∧ w'.cell? ⟨gb464, 3, none⟩ = some (.int .i64 t457) ∧ w'.cell? ⟨gb464, 4, none⟩ = some (.bool t458) ∧ w'.cell? ⟨gb464, 5, none⟩ = some (.bool t459) ∧ w'.cell? ⟨gb464, 6, none⟩ = some (.bool t460) ∧ w'.cell? ⟨gb464, 7, none⟩ = some (.bool t461) ∧ w'.cell? ⟨gb469, 0, none⟩ = some (.int .i64 t465) ∧ w'.cell? ⟨gb469, 1, none⟩ = some (.int .i64 t466)) (ds := []) (bm 9 0) (by kernel_rfl) rfl (by kernel_rfl) ⟨cl BK453 0, cl BK453 1, cl BK464 0, cl BK464 1, cl BK464 2, cl BK464 3, cl BK464 4, cl BK464 5, cl BK464 6, cl BK464 7, cl BK469 0, cl BK469 1⟩ (fun hHeld => ?_); refine with_tabW spec_DrawExec.tab5 spec_DrawExec.bits5 (fun HT_ HW_ => ?_)
 generalize w46.drew = w47 at HO445 HO448 BK436 BK437 BK438 BK452 BK453 BK464 BK469 HI442 HB hHeld ⊢
 refine pw_ 3 (some 25) (bm 9 8) HT_ ?_
 refine tw_ 0 (some 22) (bm 9 9) HT_ HW_ hHeld ?_
 refine tw_ 1 (some 23) (bm 9 11) HT_ HW_ hHeld ?_
 refine tw_ 2 (some 24) (bm 9 15) HT_ HW_ hHeld ?_
 refine ow_ 4 (some 26) (bm 9 31) HT_ (fun K hK => ?_)
 refine gw_ Try.func75 #[.pointer (some ⟨g442, 0, none⟩)] ?_
 with_reducible refine (spec_l1DrawInt.calls g442 t439 t467 t468 t470 t471 t472 w _ ?side1 ?side2 A6.out).mono ?_
 (case side1 => exact si HI442.out)
 (case side2 => exact bi HB.out)
 rintro e w48 ⟨rfl, hi, hb, hk⟩
 refine ⟨_, rfl, ?_⟩
 replace BK436 := am (kB hk (kb BK436.out) NB436_442)
 replace BK437 := am (kB hk (kb BK437.out) NB437_442)
 replace BK438 := am (kB hk (kb BK438.out) NB438_442)
 replace HO445 := am (Kd.S_mono (Kd.S_keep (IsS107.apartS (show IsS107 w _ g442 t439 t467 t468 from si HI442.out) (ks HO445.out) (by decide)) hk (fun _ h => h.2)) (fun _ h => h.1))
 replace HO448 := am (Kd.Q_mono (Kd.Q_keep (IsS107.apartQ (show IsS107 w _ g442 t439 t467 t468 from si HI442.out) (kq HO448.out) (by decide)) hk (fun _ h => h.2)) (fun _ h => h.1))
 replace BK452 := am (kB hk (kb BK452.out) NB452_442)
 replace BK453 := am (kB hk (kb BK453.out) NB453_442)
 replace BK464 := am (kB hk (kb BK464.out) NB464_442)
 replace BK469 := am (kB hk (kb BK469.out) NB469_442)
 replace HB := am (hb)
 replace HI442 := am (hi)
 (try clear hb); (try clear hb2); (try clear hk); (try clear hi)
 refine hK.out _ _ ⟨cl BK453 0, cl BK453 1, cl BK464 0, cl BK464 1, cl BK464 2, cl BK464 3, cl BK464 4, cl BK464 5, cl BK464 6, cl BK464 7, cl BK469 0, cl BK469 1⟩ (fun hHeld => ?_)
 clear hK K
 refine nw_ 26 ?_
 refine ow_ 5 none (bm 9 63) HT_ (fun K hK => ?_)
 refine skip_ (w1 := ?_) (by rfl) rfl ?_ ?_
 rotate_left
 ·obtain ⟨a0, a1⟩ := ce2 BK436
  obtain ⟨f0, f1⟩ := fz2 BK436
  have p_ := NB437_436.out
  have p_ := NB438_436.out
  have p_ := NB452_436.out
  have p_ := NB453_436.out
  have p_ := NB464_436.out
  have p_ := NB469_436.out
  go_simp
  rfl
 refine hK.out _ _ ?_ (fun hHeld => ?_)
 ·exact ⟨(fr NB453_436 (hHeld.1)), (fr NB453_436 (hHeld.2.1)), (fr NB464_436 (hHeld.2.2.1)), (fr NB464_436 (hHeld.2.2.2.1)), (fr NB464_436 (hHeld.2.2.2.2.1)), (fr NB464_436 (hHeld.2.2.2.2.2.1)), (fr NB464_436 (hHeld.2.2.2.2.2.2.1)), (fr NB464_436 (hHeld.2.2.2.2.2.2.2.1)), (fr NB464_436 (hHeld.2.2.2.2.2.2.2.2.1)), (fr NB464_436 (hHeld.2.2.2.2.2.2.2.2.2.1)), (fr NB469_436 (hHeld.2.2.2.2.2.2.2.2.2.2.1)), (fr NB469_436 (hHeld.2.2.2.2.2.2.2.2.2.2.2))⟩
 clear hK K
 refine ow_ 6 none (bm 9 127) HT_ (fun K hK => ?_)
 refine skip_ (w1 := ?_) (by rfl) rfl ?_ ?_
 rotate_left
 ·obtain ⟨a0, a1, a2, a3, a4, a5, a6, a7⟩ := ce8 BK437
  obtain ⟨f0, f1, f2, f3, f4, f5, f6, f7⟩ := fz8 BK437
  have p_ := NB436_437.out
  have p_ := NB438_437.out
  have p_ := NB452_437.out
  have p_ := NB453_437.out
  have p_ := NB464_437.out
  have p_ := NB469_437.out
  go_simp
  rfl
 refine hK.out _ _ ?_ (fun hHeld => ?_)
 ·exact ⟨(fr NB453_437 (hHeld.1)), (fr NB453_437 (hHeld.2.1)), (fr NB464_437 (hHeld.2.2.1)), (fr NB464_437 (hHeld.2.2.2.1)), (fr NB464_437 (hHeld.2.2.2.2.1)), (fr NB464_437 (hHeld.2.2.2.2.2.1)), (fr NB464_437 (hHeld.2.2.2.2.2.2.1)), (fr NB464_437 (hHeld.2.2.2.2.2.2.2.1)), (fr NB464_437 (hHeld.2.2.2.2.2.2.2.2.1)), (fr NB464_437 (hHeld.2.2.2.2.2.2.2.2.2.1)), (fr NB469_437 (hHeld.2.2.2.2.2.2.2.2.2.2.1)), (fr NB469_437 (hHeld.2.2.2.2.2.2.2.2.2.2.2))⟩
 clear hK K
 obtain ⟨w49, hw⟩ : ∃ w_, w_ = ((((((((((w48.setCell ⟨gb436, 0, none⟩ (.slice Ao21 t446.length co21)).setCell ⟨gb436, 1, none⟩ (.int .i64 t449)).setCell ⟨gb437, 0, none⟩ (.int .i64 t454)).setCell ⟨gb437, 1, none⟩ (.int .i64 t455)).setCell ⟨gb437, 2, none⟩ (.int .i64 t456)).setCell ⟨gb437, 3, none⟩ (.int .i64 t457)).setCell ⟨gb437, 4, none⟩ (.bool t458)).setCell ⟨gb437, 5, none⟩ (.bool t459)).setCell ⟨gb437, 6, none⟩ (.bool t460)).setCell ⟨gb437, 7, none⟩ (.bool t461)) := ⟨_, rfl⟩
 have m0 : Aside0 (Kd.Q (Kd.int .i64) 3 w49 w.heap.size (fun _ => True) (.slice Ao21 t446.length co21) t446) := ⟨by rw [hw]; exact kq (Kd.Q_mono (Kd.Q_far (p := ⟨gb437, 7, none⟩) (Kd.Q_far (p := ⟨gb437, 6, none⟩) (Kd.Q_far (p := ⟨gb437, 5, none⟩) (Kd.Q_far (p := ⟨gb437, 4, none⟩) (Kd.Q_far (p := ⟨gb437, 3, none⟩) (Kd.Q_far (p := ⟨gb437, 2, none⟩) (Kd.Q_far (p := ⟨gb437, 1, none⟩) (Kd.Q_far (p := ⟨gb437, 0, none⟩) (Kd.Q_far (p := ⟨gb436, 1, none⟩) (Kd.Q_far (p := ⟨gb436, 0, none⟩) (Kd.Q_types (Kd.Q_types HO448.out BK436.out (by decide)) BK437.out (by decide)) (fun _ hk => hk.1.2) (.slice Ao21 t446.length co21)) (fun _ hk => hk.1.2) (.int .i64 t449)) (fun _ hk => hk.2) (.int .i64 t454)) (fun _ hk => hk.2) (.int .i64 t455)) (fun _ hk => hk.2) (.int .i64 t456)) (fun _ hk => hk.2) (.int .i64 t457)) (fun _ hk => hk.2) (.bool t458)) (fun _ hk => hk.2) (.bool t459)) (fun _ hk => hk.2) (.bool t460)) (fun _ hk => hk.2) (.bool t461)) (fun _ hk => trivial))⟩
 have m1 : Aside0 (w49.heap[gb436]? = some (.cells #[.slice Ao21 t446.length co21, .int .i64 t449] 32 (0, 0))) := ⟨by rw [hw]; exact bf NB436_437 BK436.out⟩
 have m2 : Aside0 (w49.heap[gb437]? = some (.cells #[.int .i64 t454, .int .i64 t455, .int .i64 t456, .int .i64 t457, .bool t458, .bool t459, .bool t460, .bool t461] 55 (0, 0))) := ⟨by rw [hw]; exact bf NB437_436 BK437.out⟩
 have m3 : Aside0 (w49.heap[gb438]? = some (.cells #[.int .i64 0, .int .i64 0] 51 (0, 0))) := ⟨by rw [hw]; exact bf2 NB438_437 NB438_436 BK438.out⟩
 have m4 : Aside0 (Below w.heap.size w w49) := ⟨by rw [hw]; exact bi HB.out⟩
 rw [← hw] at hHeld ⊢
 clear hw BK436 BK437 BK438 HO448 HB
 have BK436 := m1; have BK437 := m2; have BK438 := m3; have HO448 := m0; have HB := m4; clear m0 m1 m2 m3 m4
 refine ow_ 7 none (bm 9 255) HT_ (fun K hK => ?_)
 refine skip_ (w1 := ?_) (by rfl) rfl ?_ ?_
 rotate_left
 ·obtain ⟨a0, a1⟩ := ce2 BK438
  obtain ⟨f0, f1⟩ := fz2 BK438
  have p_ := NB436_438.out
  have p_ := NB437_438.out
  have p_ := NB452_438.out
  have p_ := NB453_438.out
  have p_ := NB464_438.out
  have p_ := NB469_438.out
  go_simp
  rfl
 refine hK.out _ _ ?_ (fun hHeld => ?_)
 ·exact ⟨(fr NB453_438 (hHeld.1)), (fr NB453_438 (hHeld.2.1)), (fr NB464_438 (hHeld.2.2.1)), (fr NB464_438 (hHeld.2.2.2.1)), (fr NB464_438 (hHeld.2.2.2.2.1)), (fr NB464_438 (hHeld.2.2.2.2.2.1)), (fr NB464_438 (hHeld.2.2.2.2.2.2.1)), (fr NB464_438 (hHeld.2.2.2.2.2.2.2.1)), (fr NB464_438 (hHeld.2.2.2.2.2.2.2.2.1)), (fr NB464_438 (hHeld.2.2.2.2.2.2.2.2.2.1)), (fr NB469_438 (hHeld.2.2.2.2.2.2.2.2.2.2.1)), (fr NB469_438 (hHeld.2.2.2.2.2.2.2.2.2.2.2))⟩
 clear hK K
 refine pw_ 8 (some 5) (bm 9 511) HT_ ?_
 refine done_ (done_of HT_.out (by kernel_rfl)) ?_
 try go_wp2
 refine bodyPost_ret (results_list (rs := [.cell 2 32, .cell 3 55, .cell 4 51, .tmp 5]) rfl (by simp) (.cell gb436 32 #[.slice Ao21 t446.length co21, .int .i64 t449] (0, 0) _ rfl (bf NB436_438 BK436.out) Try.underlying32 rfl (by kernel_rfl) (.cell gb437 55 #[.int .i64 t454, .int .i64 t455, .int .i64 t456, .int .i64 t457, .bool t458, .bool t459, .bool t460, .bool t461] (0, 0) _ rfl (bf NB437_438 BK437.out) Try.underlying55 rfl (by kernel_rfl) (.cell gb438 51 #[.int .i64 t465, .int .i64 t466] (0, 0) _ rfl (bq BK438.out) Try.underlying51 rfl (by kernel_rfl) (.tmp .nil))))) rfl ?_
 exact ⟨_, rt, kq (Kd.Q_mono (Kd.Q_far (p := ⟨gb438, 1, none⟩) (Kd.Q_far (p := ⟨gb438, 0, none⟩) (Kd.Q_types HO448.out BK438.out (by decide)) (fun _ hk => hk.2) (.int .i64 t465)) (fun _ hk => hk.2) (.int .i64 t466)) (fun _ hk => trivial)), bi HB.out⟩

/-! ### impl_copyInts: function 72 -/
def impl_copyInts.f (l0 : List Int) : Option (List Int) := (some (([] : List Int) : List Int)).bind fun y473 => (if y473.length + l0.length < 17592186044416 then (some (y473 ++ l0)) else (none))
theorem impl_copyInts.calls (A0 : Option Addr) (c0 : Nat) (l0 : List Int) (r : List Int) (w : World) (hr0 : Kd.C (Kd.int .i64) w A0 l0.length l0) (hc0 : l0.length ≤ c0) (h : impl_copyInts.f l0 = some r) :
  Calls Try.prog 72 #[.slice A0 l0.length c0] w fun e w' => ∃ v0_ : Value, e = .returned (v0_) ∧ Kd.R (Kd.int .i64) 3 w' w.heap.size (fun _ => True) v0_ r ∧ Below w.heap.size w w' := by
 have HR0 := am hr0
 have HC0 := am hc0
 clear hr0 hc0
 have HB := am (Below.refl w.heap.size w)
 have H : ((some (([] : List Int) : List Int)).bind fun y473 => (if y473.length + l0.length < 17592186044416 then (some (y473 ++ l0)) else (none))) = some r := h
 clear h
 obtain ⟨y473, hy473⟩ : ∃ y_ : List Int, y_ = (([] : List Int)) := ⟨_, rfl⟩
 replace H : (if y473.length + l0.length < 17592186044416 then (some (y473 ++ l0)) else (none)) = some r := by first | (rw [hy473]; with_reducible exact H) | (have H2_ := (Option.bind_some _ _).symm.trans H; rw [hy473]; with_reducible exact H2_) | (have H2_ := (Option.bind_some _ _).symm.trans H; with_reducible exact H2_) | with_reducible exact H | (rw [hy473]; exact H) | exact H
 have Ny473 := am hy473
 clear hy473
 by_cases c2 : y473.length + l0.length < 17592186044416
 ·rw [if_pos c2] at H
  have LMc2 := am c2
  clear c2
  obtain ⟨y476, hy476⟩ : ∃ y_ : List Int, y_ = (y473 ++ l0) := ⟨_, rfl⟩
  replace H : (some y476) = some r := by first | (rw [hy476]; with_reducible exact H) | (have H2_ := (Option.bind_some _ _).symm.trans H; rw [hy476]; with_reducible exact H2_) | (have H2_ := (Option.bind_some _ _).symm.trans H; with_reducible exact H2_) | with_reducible exact H | (rw [hy476]; exact H) | exact H
  have Ny476 := am hy476
  clear hy476
  obtain rfl := oj H
  go_enter Try.func72, Try.ntmps72
  go_wp2_with (first | ((with_reducible refine gd 3 ?_); refine Kd.R_lit (Kd.int .i64) _ 3 ?hg (N := 3) ?hd (xs := ([] : List Int)) (inner := []) (ok := fun _ => True) (okp := fun _ => True) ?hr ?hp (fun _ hk => hk) trivial (Below.refl _ _) (Nat.le_refl _) (by simp) ?_; (case hd => rfl); (case hg => rfl); (case hr => first | (go_simp; done) | (go_simp; rfl)); (case hp => exact (Reps.none _ _)); intro v474 w3 ho4 hb hg_ hnew_; clear hg_ hnew_; (first | rw [← Ny473.out] at ho4 | (simp only [Int.reduceToNat] at ho4; rw [← Ny473.out] at ho4)); have HO475 := am (Kd.R_lower ho4 (below_size (bw HB.out))); replace HB := am (below_step (bw HB.out) hb); clear hb ho4) | ((with_reducible refine gate_builtin (b := .append) (xs := #[.tmp 3, .tmp 4]) rfl ?_); at_builtin; refine Kd.R_append_rows (Kd.int .i64) (w0 := w) w.heap.size rfl (.tmp 3) (.tmp 4) 30 3 (.int .i64 0) 8 rfl Try.underlying30 info3 rfl (by decide) (by omega) v474 y473 l0 _ _ _ (fun _ => True) (fun _ => False) rfl rfl ?aO ?aR (fun _ _ h => h) (fun _ h => h.elim) ?aF ?aB ?aS ?aL ?_; (case aR => exact kc (Kd.C_below HR0.out HB.out)); (case aB => exact (bw HB.out)); (case aF => exact (fun _ _ => trivial)); (case aO => exact (kr HO475.out)); (case aS => exact (below_size (bw HB.out))); (case aL => have := LMc2.out; omega); intro v477 w5 ho hb hg hat; rw [← Ny476.out] at ho; have n0_ := am (hb); have n1_ := am (ho); clear HB; clear HO475; have HB := n0_; have HO478 := n1_; clear n0_ n1_; clear ho hb hg hat))
  go_ret
  exact ⟨_, rt, kr HO478.out, bw HB.out⟩
 ·rw [if_neg c2] at H
  exact absurd H (by simp)

/-! ### impl_copyMem: function 76 -/
def impl_copyMem.f (l0_0 : List Int) (a0_1 : Int) : Option (List Int × Int) := (impl_copyInts.f l0_0).bind fun t481 => (some (t481, a0_1))
theorem impl_copyMem.calls (A0_0 : Option Addr) (c0_0 : Nat) (l0_0 : List Int) (a0_1 : Int) (r1 : List Int) (r2 : Int) (w : World) (hr0_0 : Kd.C (Kd.int .i64) w A0_0 l0_0.length l0_0) (hc0_0 : l0_0.length ≤ c0_0) (h : impl_copyMem.f l0_0 a0_1 = some (r1, r2)) :
  Calls Try.prog 76 #[.agg #[.slice A0_0 l0_0.length c0_0, .int .i64 a0_1]] w fun e w' => ∃ v0_ : Value, e = .returned (.agg #[v0_, .int .i64 r2]) ∧ Kd.R (Kd.int .i64) 3 w' w.heap.size (fun _ => True) v0_ r1 ∧ Below w.heap.size w w' := by
 have hu32 := Try.underlying32
 have HR0_0 := am hr0_0
 have HC0_0 := am hc0_0
 clear hr0_0 hc0_0
 have HB := am (Below.refl w.heap.size w)
 have H : ((impl_copyInts.f l0_0).bind fun t481 => (some (t481, a0_1))) = some (r1, r2) := h
 clear h
 replace H := bs H
 obtain ⟨t481, A20, H⟩ := H
 replace H : (some (t481, a0_1)) = some (r1, r2) := H
 have A2 := am A20
 clear A20
 simp only [Option.some.injEq, Prod.mk.injEq] at H
 obtain ⟨rfl, rfl⟩ := H
 go_enter Try.func76, Try.ntmps76
 try go_wp2_with (first | ((with_reducible refine gd 1 ?_); refine bx (N := 1) (cs := #[.slice A0_0 l0_0.length c0_0, .int .i64 a0_1]) (t := 32) ?_; intro gb479 hg w3 hbox hb; have BK479 := am (hbox); have GW479 := am ((gs hg (bw HB.out))); have GE479 := am ((gs hg (bw HB.out))); replace HB := am (below_step (bw HB.out) hb); clear hb hbox hg) | ((with_reducible refine gd 2 ?_); refine bx (N := 2) (cs := #[.slice none 0 0, .int .i64 0]) (t := 32) ?_; intro gb480 hg w4 hbox hb; have BK480 := am (hbox); have GW480 := am ((gs hg (bw HB.out))); have GE480 := am ((gs hg (bw HB.out))); replace HB := am (below_step (bw HB.out) hb); have NB479_480 := am ((ga hg BK479.out)); have NB480_479 := am ((gc hg BK479.out)); replace BK479 := am (bb BK479 hb); clear hb hbox hg))
 replace BK479 := am (blk_drew BK479.out)
 replace BK480 := am (blk_drew BK480.out)
 replace HB := am (below_drew1 HB.out)
 refine start_ (n := 7) (S := fun w' => w'.cell? ⟨gb479, 0, none⟩ = some (.slice A0_0 l0_0.length c0_0) ∧ w'.cell? ⟨gb479, 1, none⟩ = some (.int .i64 a0_1)) (ds := []) (bm 7 0) (by kernel_rfl) rfl (by kernel_rfl) ⟨cl BK479 0, cl BK479 1⟩ (fun hHeld => ?_)
 generalize w4.drew = w5 at BK479 BK480 HB hHeld ⊢
 refine pv_ 0 (some 3) (bm 7 1) ?_
 refine pv_ 3 (some 6) (bm 7 9) ?_
 refine tv_ 1 (some 4) (bm 7 11) hHeld ?_
 refine tv_ 4 (some 7) (bm 7 27) hHeld ?_
 refine ov_ 2 (some 5) (bm 7 31) (fun K hK => ?_)
 refine gw_ Try.func72 #[.slice A0_0 l0_0.length c0_0] ?_
 with_reducible refine (impl_copyInts.calls _ _ l0_0 t481 _ ?side1 ?side2 A2.out).mono ?_
 (case side1 => exact kc (Kd.C_below HR0_0.out HB.out))
 (case side2 => exact HC0_0.out)
 rintro e w6 ⟨v482, rfl, ho0, hb⟩
 refine ⟨_, rfl, ?_⟩
 have HO483 := am (Kd.R_lower ho0 (below_size (bw HB.out)))
 replace BK479 := am (bb BK479 hb)
 replace BK480 := am (bb BK480 hb)
 replace HB := am (below_step (bw HB.out) hb)
 (try clear hb); (try clear hk); (try clear ho0)
 obtain ⟨Ao7, co7, eo7⟩ := Kd.R_slice HO483.out
 (first | subst eo7 | (injection eo7 with f1_ f2_ f3_; have f4_ := f1_.symm; have f5_ := f3_.symm; clear f1_ f2_ f3_; subst f4_; subst f5_))
 refine hK.out _ _ ⟨cl BK479 0, cl BK479 1⟩ (fun hHeld => ?_)
 clear hK K
 refine nw_ 5 ?_
 refine pv_ 5 (some 8) (bm 7 63) ?_
 refine ov_ 6 none (bm 7 127) (fun K hK => ?_)
 refine skip_ (w1 := ?_) (by rfl) rfl ?_ ?_
 rotate_left
 ·obtain ⟨a0, a1⟩ := ce2 BK480
  obtain ⟨f0, f1⟩ := fz2 BK480
  have p_ := NB479_480.out
  go_simp
  rfl
 refine hK.out _ _ ?_ (fun hHeld => ?_)
 ·exact ⟨(fr NB479_480 (hHeld.1)), (fr NB479_480 (hHeld.2))⟩
 clear hK K
 refine done_ (by kernel_rfl) ?_
 try go_wp2
 refine bodyPost_ret (results_cell_row rfl _ _ gb480 32 #[.slice Ao7 t481.length co7, .int .i64 a0_1] (0, 0) _ rfl (bq BK480.out) Try.underlying32 rfl (by kernel_rfl)) rfl ?_
 exact ⟨_, rt, kr (Kd.R_mono (Kd.R_far (p := ⟨gb480, 1, none⟩) (Kd.R_far (p := ⟨gb480, 0, none⟩) (Kd.R_types HO483.out BK480.out (by decide)) (fun _ hk => hk.2) (.slice Ao7 t481.length co7)) (fun _ hk => hk.2) (.int .i64 a0_1)) (fun _ hk => trivial)), bw HB.out⟩

/-! ### impl_Byte: function 34 -/
def impl_Byte.f (a0 : Int) : Option (Int) := some (Go.bits .and .i64 a0 255)
theorem impl_Byte.calls (a0 : Int) (r : Int) (w : World) (h : impl_Byte.f a0 = some r) :
  Calls Try.prog 34 #[.int .i64 a0] w fun e w' => e = .returned (.int .i64 r) ∧ Drawn0 w w' := by
 have H : (some (Go.bits .and .i64 a0 255)) = some r := h
 clear h
 obtain rfl := oj H
 go_enter Try.func34, Try.ntmps34
 go_wp2
 go_ret
 exact ⟨by first | rfl | (simp; done) | (simp [*]; done), by repeat (first | exact Drawn0.refl _ | apply Drawn0.step)⟩

/-! ### mine_words (mine) -/
theorem and_low (n : Int) (j : Nat) (m : Int) (hj : j < 64) (hm : (BitVec.ofInt 64 m).toNat = 2 ^ j - 1) : Go.bits .and .i64 n m = n % (2 ^ j : Nat) := by
 have key : (BitVec.ofInt 64 n &&& BitVec.ofInt 64 m).toNat = (n % ((2 ^ 64 : Nat) : Int)).toNat % 2 ^ j := by
  rw [BitVec.toNat_and, BitVec.toNat_ofInt, hm, Nat.and_two_pow_sub_one_eq_mod]
 show IntKind.i64.wrap ((BitVec.ofInt 64 n &&& BitVec.ofInt 64 m).toNat : Nat) = n % (2 ^ j : Nat)
 have hd : ((2 ^ j : Nat) : Int) ∣ ((2 ^ 64 : Nat) : Int) := by
  exact_mod_cast Nat.pow_dvd_pow 2 (Nat.le_of_lt hj)
 have hp : (0 : Int) < ((2 ^ j : Nat) : Int) := by exact_mod_cast Nat.two_pow_pos j
 have hle : ((2 ^ j : Nat) : Int) ≤ ((2 ^ 63 : Nat) : Int) := by
  exact_mod_cast Nat.pow_le_pow_right (by decide) (by omega)
 have e : (((n % ((2 ^ 64 : Nat) : Int)).toNat % 2 ^ j : Nat) : Int) = n % ((2 ^ j : Nat) : Int) := by
  rw [Int.natCast_emod, Int.toNat_of_nonneg (Int.emod_nonneg _ (by decide)), Int.emod_emod_of_dvd _ hd]
 rw [key, e, IntKind.wrap_i64]
 have h0 := Int.emod_nonneg n (Int.ne_of_gt hp)
 have h1 := Int.emod_lt_of_pos n hp
 generalize n % ((2 ^ j : Nat) : Int) = x at *
 generalize ((2 ^ j : Nat) : Int) = y at *
 have : ((2 ^ 63 : Nat) : Int) = 9223372036854775808 := by decide
 omega
theorem and255 (n : Int) : Go.bits .and .i64 n 255 = n % 256 := and_low n 8 255 (by decide) (by decide)
theorem and65535 (n : Int) : Go.bits .and .i64 n 65535 = n % 65536 := and_low n 16 65535 (by decide) (by decide)
/-- A processor's registers and flags. -/
structure Cp where
 A : Int
 X : Int
 S : Int
 P : Int
 Z : Bool
 N : Bool
 C : Bool
 I : Bool
def Cp.cells (k : Cp) : Array Value := #[.int .i64 k.A, .int .i64 k.X, .int .i64 k.S, .int .i64 k.P, .bool k.Z, .bool k.N, .bool k.C, .bool k.I]
/-- A memory at x and a processor at c, both of the call's own; rv is the memory's row. -/
structure MC (w0 w : World) (x c : Nat) (rv : Value) (b : Int) (k : Cp) (ram : List Int) : Prop where
 mem : w.heap[x]? = some (.cells #[rv, .int .i64 b] 32 (0, 0))
 cpu : w.heap[c]? = some (.cells k.cells 55 (0, 0))
 row : Kd.R (Kd.int .i64) 3 w w0.heap.size (fun _ => True) rv ram
 hx : w0.heap.size ≤ x
 hc : w0.heap.size ≤ c
 below : Below w0.heap.size w0 w
theorem MC.ne {w0 w : World} {x c : Nat} {rv : Value} {b : Int} {k : Cp} {ram : List Int} (h : MC w0 w x c rv b k ram) : x ≠ c := blk_ne h.mem h.cpu (by decide)
theorem MC.far {w0 w : World} {x c : Nat} {rv : Value} {b : Int} {k : Cp} {ram : List Int} (h : MC w0 w x c rv b k ram) : some x ≠ rv.ownBlock ∧ some c ≠ rv.ownBlock := ⟨Kd.R_ne h.row h.mem (by decide), Kd.R_ne h.row h.cpu (by decide)⟩
/-- A world that differs only above. -/
theorem MC.later {w0 w w1 : World} {x c : Nat} {rv : Value} {b : Int} {k : Cp} {ram : List Int} (h : MC w0 w x c rv b k ram) (hb : Below w.heap.size w w1) : MC w0 w1 x c rv b k ram :=
 ⟨blk_below h.mem hb, blk_below h.cpu hb, Kd.R_below h.row hb, h.hx, h.hc, below_then h.below h.below.size hb⟩
theorem MC.drewN {w0 w : World} {x c : Nat} {rv : Value} {b : Int} {k : Cp} {ram : List Int} (h : MC w0 w x c rv b k ram) (n : Nat) : MC w0 (w.drewN n) x c rv b k ram := h.later (pw_below_drewN (Below.refl _ _) n)
theorem MC.drew {w0 w : World} {x c : Nat} {rv : Value} {b : Int} {k : Cp} {ram : List Int} (h : MC w0 w x c rv b k ram) : MC w0 w.drew x c rv b k ram := h.later (below_drew1 (Below.refl _ _))
/-- A store into the processor. -/
theorem MC.setC {w0 w : World} {x c : Nat} {rv : Value} {b : Int} {k k' : Cp} {ram : List Int} (h : MC w0 w x c rv b k ram) (i : Nat) (u : Value) (e : k.cells.setIfInBounds i u = k'.cells) : MC w0 (w.setCell ⟨c, i, none⟩ u) x c rv b k' ram :=
 ⟨blk_far h.mem h.ne u, blk_put h.cpu i u e, Kd.R_mono (Kd.R_far (p := ⟨c, i, none⟩) (Kd.R_types h.row h.cpu (by decide)) (fun _ hk => hk.2) u) (fun _ hk => hk.1), h.hx, h.hc, below_set h.below h.hc⟩
/-- A store into the memory's row. -/
theorem MC.setR {w0 w : World} {x c g cap : Nat} {b : Int} {k : Cp} {ram : List Int} (h : MC w0 w x c (.slice (some ⟨g, 0, none⟩) ram.length cap) b k ram) (hg : w0.heap.size ≤ g) (i v : Int) :
  MC w0 (w.setCell ⟨g, i.toNat, none⟩ (.int .i64 v)) x c (.slice (some ⟨g, 0, none⟩) ram.length cap) b k (ram.set i.toNat v) :=
 ⟨blk_far h.mem (fun e => h.far.1 (by rw [e]; rfl)) _, blk_far h.cpu (fun e => h.far.2 (by rw [e]; rfl)) _, Kd.R_putn h.row i v, h.hx, h.hc, below_set h.below hg⟩
theorem kept_set {w W : World} {S : Nat → Prop} (h : Kept w W S) {g i : Nat} (hg : S g) (u : Value) : Kept w (W.setCell ⟨g, i, none⟩ u) S := h.setCell (.inl hg) u
theorem byte_same (a : Int) (w : World) : Calls Try.prog 34 #[.int .i64 a] w fun e w' => e = .returned (.int .i64 (a % 256)) ∧ w' = w := by
 rw [← and255]
 go_enter Try.func34, Try.ntmps34
 go_wp2
 go_ret
 exact ⟨rfl, rfl⟩

/-! ### mine_rows (mine) -/
section
variable {w : World} {r : Nat} {t : TypeId}
theorem heap2 (w : World) (r k : Nat) (u0 u1 : Value) (h : k ≠ r) : ((w.setCell ⟨r, 0, none⟩ u0).setCell ⟨r, 1, none⟩ u1).heap[k]? = w.heap[k]? := by
 refine (Below.heap_setCell _ _ _ k h).trans ?_
 exact Below.heap_setCell _ _ _ k h
theorem put2 {o0 o1 : Value} (h : w.heap[r]? = some (.cells #[o0, o1] t (0, 0))) (u0 u1 : Value) : ((w.setCell ⟨r, 0, none⟩ u0).setCell ⟨r, 1, none⟩ u1).heap[r]? = some (.cells #[u0, u1] t (0, 0)) := by
 refine blk_put (cs := #[u0, o1]) ?_ 1 _ rfl
 exact blk_put h 0 _ rfl
theorem heap8 (w : World) (r k : Nat) (u0 u1 u2 u3 u4 u5 u6 u7 : Value) (h : k ≠ r) : ((((((((w.setCell ⟨r, 0, none⟩ u0).setCell ⟨r, 1, none⟩ u1).setCell ⟨r, 2, none⟩ u2).setCell ⟨r, 3, none⟩ u3).setCell ⟨r, 4, none⟩ u4).setCell ⟨r, 5, none⟩ u5).setCell ⟨r, 6, none⟩ u6).setCell ⟨r, 7, none⟩ u7).heap[k]? = w.heap[k]? := by
 refine (Below.heap_setCell _ _ _ k h).trans ?_
 refine (Below.heap_setCell _ _ _ k h).trans ?_
 refine (Below.heap_setCell _ _ _ k h).trans ?_
 refine (Below.heap_setCell _ _ _ k h).trans ?_
 refine (Below.heap_setCell _ _ _ k h).trans ?_
 refine (Below.heap_setCell _ _ _ k h).trans ?_
 refine (Below.heap_setCell _ _ _ k h).trans ?_
 exact Below.heap_setCell _ _ _ k h
theorem put8 {o0 o1 o2 o3 o4 o5 o6 o7 : Value} (h : w.heap[r]? = some (.cells #[o0, o1, o2, o3, o4, o5, o6, o7] t (0, 0))) (u0 u1 u2 u3 u4 u5 u6 u7 : Value) :
  ((((((((w.setCell ⟨r, 0, none⟩ u0).setCell ⟨r, 1, none⟩ u1).setCell ⟨r, 2, none⟩ u2).setCell ⟨r, 3, none⟩ u3).setCell ⟨r, 4, none⟩ u4).setCell ⟨r, 5, none⟩ u5).setCell ⟨r, 6, none⟩ u6).setCell ⟨r, 7, none⟩ u7).heap[r]? = some (.cells #[u0, u1, u2, u3, u4, u5, u6, u7] t (0, 0)) := by
 refine blk_put (cs := #[u0, u1, u2, u3, u4, u5, u6, o7]) ?_ 7 _ rfl
 refine blk_put (cs := #[u0, u1, u2, u3, u4, u5, o6, o7]) ?_ 6 _ rfl
 refine blk_put (cs := #[u0, u1, u2, u3, u4, o5, o6, o7]) ?_ 5 _ rfl
 refine blk_put (cs := #[u0, u1, u2, u3, o4, o5, o6, o7]) ?_ 4 _ rfl
 refine blk_put (cs := #[u0, u1, u2, o3, o4, o5, o6, o7]) ?_ 3 _ rfl
 refine blk_put (cs := #[u0, u1, o2, o3, o4, o5, o6, o7]) ?_ 2 _ rfl
 refine blk_put (cs := #[u0, o1, o2, o3, o4, o5, o6, o7]) ?_ 1 _ rfl
 exact blk_put h 0 _ rfl
end
theorem row8 {w : World} {r m : Nat} {rv : Value} {ram : List Int} {o0 o1 o2 o3 o4 o5 o6 o7 : Value} (h : Kd.R (Kd.int .i64) 3 w m (fun _ => True) rv ram) (hb : w.heap[r]? = some (.cells #[o0, o1, o2, o3, o4, o5, o6, o7] 55 (0, 0))) (u0 u1 u2 u3 u4 u5 u6 u7 : Value) :
  Kd.R (Kd.int .i64) 3 ((((((((w.setCell ⟨r, 0, none⟩ u0).setCell ⟨r, 1, none⟩ u1).setCell ⟨r, 2, none⟩ u2).setCell ⟨r, 3, none⟩ u3).setCell ⟨r, 4, none⟩ u4).setCell ⟨r, 5, none⟩ u5).setCell ⟨r, 6, none⟩ u6).setCell ⟨r, 7, none⟩ u7) m (fun _ => True) rv ram :=
 Kd.R_mono (Kd.R_far (p := ⟨r, 7, none⟩) (Kd.R_far (p := ⟨r, 6, none⟩) (Kd.R_far (p := ⟨r, 5, none⟩) (Kd.R_far (p := ⟨r, 4, none⟩) (Kd.R_far (p := ⟨r, 3, none⟩) (Kd.R_far (p := ⟨r, 2, none⟩) (Kd.R_far (p := ⟨r, 1, none⟩) (Kd.R_far (p := ⟨r, 0, none⟩) (Kd.R_types h hb (by decide)) (fun _ hk => hk.2) u0) (fun _ hk => hk.2) u1) (fun _ hk => hk.2) u2) (fun _ hk => hk.2) u3) (fun _ hk => hk.2) u4) (fun _ hk => hk.2) u5) (fun _ hk => hk.2) u6) (fun _ hk => hk.2) u7) (fun _ _ => trivial)
theorem below8 {w W : World} {r : Nat} (h : Below w.heap.size w W) (hr : w.heap.size ≤ r) (u0 u1 u2 u3 u4 u5 u6 u7 : Value) : Below w.heap.size w ((((((((W.setCell ⟨r, 0, none⟩ u0).setCell ⟨r, 1, none⟩ u1).setCell ⟨r, 2, none⟩ u2).setCell ⟨r, 3, none⟩ u3).setCell ⟨r, 4, none⟩ u4).setCell ⟨r, 5, none⟩ u5).setCell ⟨r, 6, none⟩ u6).setCell ⟨r, 7, none⟩ u7) :=
 (below_set (below_set (below_set (below_set (below_set (below_set (below_set (below_set h hr) hr) hr) hr) hr) hr) hr) hr)

/-! ### mem_events (mine) -/
theorem eval_get {a : Act} {t : Nat} {v : Value} (h : a.eval (.tmp t) = v) : a.tmps[t]?.getD undef = v := by
 rw [← h]
 show _ = a.tmps.getD t undef
 rw [Array.getD_eq_getD_getElem?]
/-- What an operation of such a region may put: a memory in a row of its own; a memory beside a processor; a new block. -/
def isMem (lo : Nat) (xs : List Int) (b : Int) (v : Value) (w : World) : Prop := ∃ u, v = .agg #[u, .int .i64 b] ∧ Kd.R (Kd.int .i64) 3 w lo (fun _ => True) u xs
def isPair (lo : Nat) (xs : List Int) (b : Int) (c : Value) (v : Value) (w : World) : Prop := ∃ u, v = .tuple #[.agg #[u, .int .i64 b], c] ∧ Kd.R (Kd.int .i64) 3 w lo (fun _ => True) u xs
def isNew (lo : Nat) (t : TypeId) (cs : Array Value) (v : Value) (w : World) : Prop := ∃ g, v = .pointer (some ⟨g, 0, none⟩) ∧ lo ≤ g ∧ w.heap[g]? = some (.cells cs t (0, 0))
theorem isMem_below {lo : Nat} {xs : List Int} {b : Int} {v : Value} {w w' : World} (h : isMem lo xs b v w) (hb : Below w.heap.size w w') : isMem lo xs b v w' := by
 obtain ⟨u, e, r⟩ := h
 exact ⟨u, e, Kd.R_below r hb⟩
theorem isPair_below {lo : Nat} {xs : List Int} {b : Int} {c v : Value} {w w' : World} (h : isPair lo xs b c v w) (hb : Below w.heap.size w w') : isPair lo xs b c v w' := by
 obtain ⟨u, e, r⟩ := h
 exact ⟨u, e, Kd.R_below r hb⟩
theorem isNew_below {lo : Nat} {t : TypeId} {cs : Array Value} {v : Value} {w w' : World} (h : isNew lo t cs v w) (hb : Below w.heap.size w w') : isNew lo t cs v w' := by
 obtain ⟨g, e, hl, hg⟩ := h
 exact ⟨g, e, hl, blk_below hg hb⟩
theorem rowS2 {w : World} {r m : Nat} {ok : Nat → Prop} {rv : Value} {ram : List Int} {o0 o1 : Value} (h : Kd.R (Kd.int .i64) 3 w m ok rv ram) (hb : w.heap[r]? = some (.cells #[o0, o1] 32 (0, 0))) (u0 u1 : Value) :
  Kd.R (Kd.int .i64) 3 ((w.setCell ⟨r, 0, none⟩ u0).setCell ⟨r, 1, none⟩ u1) m ok rv ram :=
 Kd.R_mono (Kd.R_far (p := ⟨r, 1, none⟩) (Kd.R_far (p := ⟨r, 0, none⟩) (Kd.R_types h hb (by decide)) (fun _ hk => hk.2) u0) (fun _ hk => hk.2) u1) (fun _ hk => hk.1)
theorem rowS8 {w : World} {r m : Nat} {ok : Nat → Prop} {rv : Value} {ram : List Int} {o0 o1 o2 o3 o4 o5 o6 o7 : Value} (h : Kd.R (Kd.int .i64) 3 w m ok rv ram) (hb : w.heap[r]? = some (.cells #[o0, o1, o2, o3, o4, o5, o6, o7] 55 (0, 0))) (u0 u1 u2 u3 u4 u5 u6 u7 : Value) :
  Kd.R (Kd.int .i64) 3 ((((((((w.setCell ⟨r, 0, none⟩ u0).setCell ⟨r, 1, none⟩ u1).setCell ⟨r, 2, none⟩ u2).setCell ⟨r, 3, none⟩ u3).setCell ⟨r, 4, none⟩ u4).setCell ⟨r, 5, none⟩ u5).setCell ⟨r, 6, none⟩ u6).setCell ⟨r, 7, none⟩ u7) m ok rv ram :=
 Kd.R_mono (Kd.R_far (p := ⟨r, 7, none⟩) (Kd.R_far (p := ⟨r, 6, none⟩) (Kd.R_far (p := ⟨r, 5, none⟩) (Kd.R_far (p := ⟨r, 4, none⟩) (Kd.R_far (p := ⟨r, 3, none⟩) (Kd.R_far (p := ⟨r, 2, none⟩) (Kd.R_far (p := ⟨r, 1, none⟩) (Kd.R_far (p := ⟨r, 0, none⟩) (Kd.R_types h hb (by decide)) (fun _ hk => hk.2) u0) (fun _ hk => hk.2) u1) (fun _ hk => hk.2) u2) (fun _ hk => hk.2) u3) (fun _ hk => hk.2) u4) (fun _ hk => hk.2) u5) (fun _ hk => hk.2) u6) (fun _ hk => hk.2) u7) (fun _ hk => hk.1)
theorem below2 {w W : World} {r : Nat} (h : Below w.heap.size w W) (hr : w.heap.size ≤ r) (u0 u1 : Value) : Below w.heap.size w ((W.setCell ⟨r, 0, none⟩ u0).setCell ⟨r, 1, none⟩ u1) := below_set (below_set h hr) hr
/-- Behind the stores of a memory and of a processor into blocks of their own. -/
theorem stored {W : World} {g1 g2 : Nat} {q0 q1 : Value} {o0 o1 o2 o3 o4 o5 o6 o7 : Value} (hb1 : W.heap[g1]? = some (.cells #[q0, q1] 32 (0, 0))) (hb2 : W.heap[g2]? = some (.cells #[o0, o1, o2, o3, o4, o5, o6, o7] 55 (0, 0))) (p0 p1 : Value) (u0 u1 u2 u3 u4 u5 u6 u7 : Value) :
  ((((((((((W.setCell ⟨g1, 0, none⟩ p0).setCell ⟨g1, 1, none⟩ p1).setCell ⟨g2, 0, none⟩ u0).setCell ⟨g2, 1, none⟩ u1).setCell ⟨g2, 2, none⟩ u2).setCell ⟨g2, 3, none⟩ u3).setCell ⟨g2, 4, none⟩ u4).setCell ⟨g2, 5, none⟩ u5).setCell ⟨g2, 6, none⟩ u6).setCell ⟨g2, 7, none⟩ u7).heap[g1]? = some (.cells #[p0, p1] 32 (0, 0)) ∧ ((((((((((W.setCell ⟨g1, 0, none⟩ p0).setCell ⟨g1, 1, none⟩ p1).setCell ⟨g2, 0, none⟩ u0).setCell ⟨g2, 1, none⟩ u1).setCell ⟨g2, 2, none⟩ u2).setCell ⟨g2, 3, none⟩ u3).setCell ⟨g2, 4, none⟩ u4).setCell ⟨g2, 5, none⟩ u5).setCell ⟨g2, 6, none⟩ u6).setCell ⟨g2, 7, none⟩ u7).heap[g2]? = some (.cells #[u0, u1, u2, u3, u4, u5, u6, u7] 55 (0, 0)) ∧ (∀ k, k ≠ g1 → k ≠ g2 → ((((((((((W.setCell ⟨g1, 0, none⟩ p0).setCell ⟨g1, 1, none⟩ p1).setCell ⟨g2, 0, none⟩ u0).setCell ⟨g2, 1, none⟩ u1).setCell ⟨g2, 2, none⟩ u2).setCell ⟨g2, 3, none⟩ u3).setCell ⟨g2, 4, none⟩ u4).setCell ⟨g2, 5, none⟩ u5).setCell ⟨g2, 6, none⟩ u6).setCell ⟨g2, 7, none⟩ u7).heap[k]? = W.heap[k]?) ∧
   (∀ lo ok u xs, Kd.R (Kd.int .i64) 3 W lo ok u xs → Kd.R (Kd.int .i64) 3 ((((((((((W.setCell ⟨g1, 0, none⟩ p0).setCell ⟨g1, 1, none⟩ p1).setCell ⟨g2, 0, none⟩ u0).setCell ⟨g2, 1, none⟩ u1).setCell ⟨g2, 2, none⟩ u2).setCell ⟨g2, 3, none⟩ u3).setCell ⟨g2, 4, none⟩ u4).setCell ⟨g2, 5, none⟩ u5).setCell ⟨g2, 6, none⟩ u6).setCell ⟨g2, 7, none⟩ u7) lo ok u xs) ∧ (∀ w : World, Below w.heap.size w W → w.heap.size ≤ g1 → w.heap.size ≤ g2 → Below w.heap.size w ((((((((((W.setCell ⟨g1, 0, none⟩ p0).setCell ⟨g1, 1, none⟩ p1).setCell ⟨g2, 0, none⟩ u0).setCell ⟨g2, 1, none⟩ u1).setCell ⟨g2, 2, none⟩ u2).setCell ⟨g2, 3, none⟩ u3).setCell ⟨g2, 4, none⟩ u4).setCell ⟨g2, 5, none⟩ u5).setCell ⟨g2, 6, none⟩ u6).setCell ⟨g2, 7, none⟩ u7)) := by
 have hne : g1 ≠ g2 := blk_ne hb1 hb2 (by decide)
 have h2 : ((W.setCell ⟨g1, 0, none⟩ p0).setCell ⟨g1, 1, none⟩ p1).heap[g2]? = some (.cells #[o0, o1, o2, o3, o4, o5, o6, o7] 55 (0, 0)) := (heap2 _ _ _ _ _ hne.symm).trans hb2
 exact ⟨(heap8 _ _ _ _ _ _ _ _ _ _ _ hne).trans (put2 hb1 _ _), put8 h2 _ _ _ _ _ _ _ _, fun k h h' => (heap8 _ _ _ _ _ _ _ _ _ _ _ h').trans (heap2 _ _ _ _ _ h),
  fun lo ok u xs h => rowS8 (rowS2 h hb1 _ _) h2 _ _ _ _ _ _ _ _, fun w h k1 k2 => below8 (below2 h k1 _ _) k2 _ _ _ _ _ _ _ _⟩

/-! ### mem_pairs (mine) -/
/-- The boxes of the law's own arguments, at the call's first blocks. -/
structure ArgW (w W : World) (a b : Array Value) : Prop where
 below : Below w.heap.size w W
 fst : W.heap[w.heap.size]? = some (.cells a 32 (0, 0))
 snd : W.heap[w.heap.size + 1]? = some (.cells b 55 (0, 0))
theorem ArgW.kept {w W W' : World} {a b : Array Value} {S : Nat → Prop} (h : ArgW w W a b) (hk : Kept W W' S) (hb : Below w.heap.size w W') (hS : ∀ k, k < w.heap.size + 2 → ¬ S k) : ArgW w W' a b :=
 ⟨hb, blk_kept h.fst hk (hS _ (by omega)), blk_kept h.snd hk (hS _ (by omega))⟩
/-- A memory and a processor in blocks of their own, between two heights. -/
structure PairW (w W : World) (g1 g2 : Nat) (A : Option Addr) (c : Nat) (xs : List Int) (b : Int) (cs : Array Value) (lo hi : Nat) : Prop where
 mem : W.heap[g1]? = some (.cells #[.slice A xs.length c, .int .i64 b] 32 (0, 0))
 cpu : W.heap[g2]? = some (.cells cs 55 (0, 0))
 row : Kd.R (Kd.int .i64) 3 W w.heap.size (fun k => lo ≤ k ∧ k < hi ∧ k ≠ g1 ∧ k ≠ g2) (.slice A xs.length c) xs
 h1 : lo ≤ g1 ∧ g1 < hi
 h2 : lo ≤ g2 ∧ g2 < hi
theorem PairW.kept {w W W' : World} {g1 g2 : Nat} {A : Option Addr} {c : Nat} {xs : List Int} {b : Int} {cs : Array Value} {lo hi : Nat} {S : Nat → Prop} (h : PairW w W g1 g2 A c xs b cs lo hi) (hk : Kept W W' S) (hS : ∀ k, lo ≤ k → k < hi → ¬ S k) : PairW w W' g1 g2 A c xs b cs lo hi :=
 ⟨blk_kept h.mem hk (hS _ h.h1.1 h.h1.2), blk_kept h.cpu hk (hS _ h.h2.1 h.h2.2), Kd.R_kept h.row hk (fun k hk => hS k hk.1 hk.2.1), h.h1, h.h2⟩
/-- A memory alone. -/
structure MemW (w W : World) (g : Nat) (A : Option Addr) (c : Nat) (xs : List Int) (b : Int) (lo hi : Nat) : Prop where
 mem : W.heap[g]? = some (.cells #[.slice A xs.length c, .int .i64 b] 32 (0, 0))
 row : Kd.R (Kd.int .i64) 3 W w.heap.size (fun k => lo ≤ k ∧ k < hi ∧ k ≠ g) (.slice A xs.length c) xs
 h1 : lo ≤ g ∧ g < hi
theorem MemW.kept {w W W' : World} {g : Nat} {A : Option Addr} {c : Nat} {xs : List Int} {b : Int} {lo hi : Nat} {S : Nat → Prop} (h : MemW w W g A c xs b lo hi) (hk : Kept W W' S) (hS : ∀ k, lo ≤ k → k < hi → ¬ S k) : MemW w W' g A c xs b lo hi :=
 ⟨blk_kept h.mem hk (hS _ h.h1.1 h.h1.2), Kd.R_kept h.row hk (fun k hk => hS k hk.1 hk.2.1), h.h1⟩
theorem R_between {W : World} {lo base : Nat} {u : Value} {xs : List Int} {ok : Nat → Prop} (h : Kd.R (Kd.int .i64) 3 W lo ok u xs) (hb : base ≤ lo) : Kd.R (Kd.int .i64) 3 W base (fun k => ok k ∧ lo ≤ k ∧ k < W.heap.size) u xs :=
 Kd.R_lower (Kd.R_mono (Kd.R_bound h) (fun k hk => ⟨hk.1, hk.2.1, hk.2.2.1⟩)) hb
theorem pair_made {w W1 W : World} {g1 g2 : Nat} {u : Value} {xs : List Int} {q0 q1 o0 o1 o2 o3 o4 o5 o6 o7 : Value} (hB : Below w.heap.size w W1) (hW : Below W1.heap.size W1.drew W) (hR : Kd.R (Kd.int .i64) 3 W W1.heap.size (fun _ => True) u xs)
  (hb1 : W.heap[g1]? = some (.cells #[q0, q1] 32 (0, 0))) (hb2 : W.heap[g2]? = some (.cells #[o0, o1, o2, o3, o4, o5, o6, o7] 55 (0, 0))) (hg1 : W1.heap.size ≤ g1) (hg2 : W1.heap.size ≤ g2) (b : Int) (u0 u1 u2 u3 u4 u5 u6 u7 : Value) :
  ∃ A c, u = .slice A xs.length c ∧ PairW w ((((((((((W.setCell ⟨g1, 0, none⟩ u).setCell ⟨g1, 1, none⟩ (.int .i64 b)).setCell ⟨g2, 0, none⟩ u0).setCell ⟨g2, 1, none⟩ u1).setCell ⟨g2, 2, none⟩ u2).setCell ⟨g2, 3, none⟩ u3).setCell ⟨g2, 4, none⟩ u4).setCell ⟨g2, 5, none⟩ u5).setCell ⟨g2, 6, none⟩ u6).setCell ⟨g2, 7, none⟩ u7) g1 g2 A c xs b #[u0, u1, u2, u3, u4, u5, u6, u7] W1.heap.size ((((((((((W.setCell ⟨g1, 0, none⟩ u).setCell ⟨g1, 1, none⟩ (.int .i64 b)).setCell ⟨g2, 0, none⟩ u0).setCell ⟨g2, 1, none⟩ u1).setCell ⟨g2, 2, none⟩ u2).setCell ⟨g2, 3, none⟩ u3).setCell ⟨g2, 4, none⟩ u4).setCell ⟨g2, 5, none⟩ u5).setCell ⟨g2, 6, none⟩ u6).setCell ⟨g2, 7, none⟩ u7).heap.size ∧ Kept W1 ((((((((((W.setCell ⟨g1, 0, none⟩ u).setCell ⟨g1, 1, none⟩ (.int .i64 b)).setCell ⟨g2, 0, none⟩ u0).setCell ⟨g2, 1, none⟩ u1).setCell ⟨g2, 2, none⟩ u2).setCell ⟨g2, 3, none⟩ u3).setCell ⟨g2, 4, none⟩ u4).setCell ⟨g2, 5, none⟩ u5).setCell ⟨g2, 6, none⟩ u6).setCell ⟨g2, 7, none⟩ u7) (fun _ => False) ∧ Below w.heap.size w ((((((((((W.setCell ⟨g1, 0, none⟩ u).setCell ⟨g1, 1, none⟩ (.int .i64 b)).setCell ⟨g2, 0, none⟩ u0).setCell ⟨g2, 1, none⟩ u1).setCell ⟨g2, 2, none⟩ u2).setCell ⟨g2, 3, none⟩ u3).setCell ⟨g2, 4, none⟩ u4).setCell ⟨g2, 5, none⟩ u5).setCell ⟨g2, 6, none⟩ u6).setCell ⟨g2, 7, none⟩ u7) := by
 obtain ⟨A, c, rfl⟩ := Kd.R_slice hR
 obtain ⟨s1, s2, s3, s4, s5⟩ := stored hb1 hb2 (.slice A xs.length c) (.int .i64 b) u0 u1 u2 u3 u4 u5 u6 u7
 have hsz := hB.size
 have hb := s5 w (below_step (w := w) (W := W1.drew) (below_drew1 hB) hW) (by omega) (by omega)
 have hk := s5 W1.drew hW hg1 hg2
 have r := s4 _ _ _ _ hR
 generalize ((((((((((W.setCell ⟨g1, 0, none⟩ (.slice A xs.length c)).setCell ⟨g1, 1, none⟩ (.int .i64 b)).setCell ⟨g2, 0, none⟩ u0).setCell ⟨g2, 1, none⟩ u1).setCell ⟨g2, 2, none⟩ u2).setCell ⟨g2, 3, none⟩ u3).setCell ⟨g2, 4, none⟩ u4).setCell ⟨g2, 5, none⟩ u5).setCell ⟨g2, 6, none⟩ u6).setCell ⟨g2, 7, none⟩ u7) = Z at *
 have k1 := blk_lt s1
 have k2 := blk_lt s2
 refine ⟨A, c, rfl, ⟨s1, s2, ?_, ⟨hg1, k1⟩, ⟨hg2, k2⟩⟩, ⟨hk.size, fun i hi _ => hk.block i hi⟩, hb⟩
 exact Kd.R_mono (Kd.R_types (Kd.R_types (R_between r hsz) s1 (by decide)) s2 (by decide)) (fun k hk => ⟨hk.1.1.2.1, hk.1.1.2.2, hk.1.2, hk.2⟩)
theorem mem_made {w W1 W : World} {g1 : Nat} {u : Value} {xs : List Int} {q0 q1 : Value} (hB : Below w.heap.size w W1) (hW : Below W1.heap.size W1 W) (hR : Kd.R (Kd.int .i64) 3 W W1.heap.size (fun _ => True) u xs)
  (hb1 : W.heap[g1]? = some (.cells #[q0, q1] 32 (0, 0))) (hg1 : W1.heap.size ≤ g1) (b : Int) :
  ∃ A c, u = .slice A xs.length c ∧ MemW w ((W.setCell ⟨g1, 0, none⟩ u).setCell ⟨g1, 1, none⟩ (.int .i64 b)) g1 A c xs b W1.heap.size ((W.setCell ⟨g1, 0, none⟩ u).setCell ⟨g1, 1, none⟩ (.int .i64 b)).heap.size ∧ Kept W1 ((W.setCell ⟨g1, 0, none⟩ u).setCell ⟨g1, 1, none⟩ (.int .i64 b)) (fun _ => False) ∧ Below w.heap.size w ((W.setCell ⟨g1, 0, none⟩ u).setCell ⟨g1, 1, none⟩ (.int .i64 b)) := by
 obtain ⟨A, c, rfl⟩ := Kd.R_slice hR
 have hsz := hB.size
 have s1 := put2 hb1 (.slice A xs.length c) (.int .i64 b)
 have hb := below2 (below_step hB hW) (show w.heap.size ≤ g1 by omega) (.slice A xs.length c) (.int .i64 b)
 have hk := below2 (w := W1) hW hg1 (.slice A xs.length c) (.int .i64 b)
 have r := rowS2 hR hb1 (.slice A xs.length c) (.int .i64 b)
 generalize ((W.setCell ⟨g1, 0, none⟩ (.slice A xs.length c)).setCell ⟨g1, 1, none⟩ (.int .i64 b)) = Z at *
 have k1 := blk_lt s1
 refine ⟨A, c, rfl, ⟨s1, ?_, ⟨hg1, k1⟩⟩, ⟨hk.size, fun i hi _ => hk.block i hi⟩, hb⟩
 exact Kd.R_mono (Kd.R_types (R_between r hsz) s1 (by decide)) (fun k hk => ⟨hk.1.2.1, hk.1.2.2, hk.2⟩)
theorem mem_made0 {w W1 W : World} {g1 : Nat} {A : Option Addr} {c : Nat} {xs : List Int} {b : Int} (hB : Below w.heap.size w W1) (hW : Below W1.heap.size W1 W) (hR : Kd.R (Kd.int .i64) 3 W W1.heap.size (fun _ => True) (.slice A xs.length c) xs)
  (hb1 : W.heap[g1]? = some (.cells #[.slice A xs.length c, .int .i64 b] 32 (0, 0))) (hg1 : W1.heap.size ≤ g1) : MemW w W g1 A c xs b W1.heap.size W.heap.size ∧ Kept W1 W (fun _ => False) ∧ Below w.heap.size w W := by
 have hsz := hB.size
 have k1 := blk_lt hb1
 refine ⟨⟨hb1, ?_, ⟨hg1, k1⟩⟩, ⟨hW.size, fun i hi _ => hW.block i hi⟩, below_step hB hW⟩
 exact Kd.R_mono (Kd.R_types (R_between hR hsz) hb1 (by decide)) (fun k hk => ⟨hk.1.2.1, hk.1.2.2, hk.2⟩)
/-- A memory of the call's own, to be read only. -/
structure OwnW (w W : World) (g : Nat) (A : Option Addr) (c : Nat) (xs : List Int) (b : Int) : Prop where
 mem : W.heap[g]? = some (.cells #[.slice A xs.length c, .int .i64 b] 32 (0, 0))
 row : ∃ ok, Kd.R (Kd.int .i64) 3 W w.heap.size ok (.slice A xs.length c) xs
theorem OwnW.kept {w W W' : World} {g : Nat} {A : Option Addr} {c : Nat} {xs : List Int} {b : Int} {S : Nat → Prop} (h : OwnW w W g A c xs b) (hk : Kept W W' S) (hS : ∀ k : Nat, True → True → ¬ S k) : OwnW w W' g A c xs b := by
 obtain ⟨ok, hr⟩ := h.row
 exact ⟨blk_kept h.mem hk (hS _ trivial trivial), ok, Kd.R_kept hr hk (fun k _ => hS k trivial trivial)⟩
theorem OwnW.reads {w W : World} {g : Nat} {A : Option Addr} {c : Nat} {xs : List Int} {b : Int} (h : OwnW w W g A c xs b) : xs.length ≤ c ∧ Kd.C (Kd.int .i64) W A xs.length xs := by
 obtain ⟨ok, hr⟩ := h.row
 obtain ⟨_, h1, h2⟩ := Kd.R_reads' hr
 exact ⟨h1, h2⟩

/-! ### mem_push (mine) -/
def pushF (ram : List Int) (k : Cp) (v : Int) : List Int × Cp := if ram.length = 512 then (ram.set (256 + k.S % 256).toNat (v % 256), { k with S := wrap64 (k.S - 1) % 256 }) else (ram, k)
theorem push_yes (x c g cap : Nat) (ram : List Int) (S v old : Int) (w : World)
  (hx0 : w.cell? ⟨x, 0, none⟩ = some (.slice (some ⟨g, 0, none⟩) ram.length cap)) (hc2 : w.cell? ⟨c, 2, none⟩ = some (.int .i64 S))
  (hlen : ram.length = 512) (hcg : w.cell? ⟨g, (256 + S % 256).toNat, none⟩ = some (.int .i64 old)) (hfg : w.frozen? ⟨g, (256 + S % 256).toNat, none⟩ = false) (hfc : w.frozen? ⟨c, 2, none⟩ = false) (hgc : g ≠ c) (hgx : g ≠ x) (hcx : c ≠ x) :
  Calls Try.prog 99 #[.pointer (some ⟨x, 0, none⟩), .pointer (some ⟨c, 0, none⟩), .int .i64 v] w fun e w' => e = .returned (.tuple #[]) ∧
   w' = ((w.setCell ⟨g, (256 + S % 256).toNat, none⟩ (.int .i64 (v % 256))).setCell ⟨c, 2, none⟩ (.int .i64 (wrap64 (S - 1) % 256))).drew := by
 have hu37 := Try.underlying32
 have hu38 := Try.underlying55
 have hl : (((ram.length : Nat) : Int) != 512) = false := by simp; omega
 have A1 : Aside0 (∀ w, Calls Try.prog 34 #[.int .i64 S] w fun e w' => e = .returned (.int .i64 (S % 256)) ∧ w' = w) := ⟨byte_same S⟩
 have A2 : Aside0 (∀ w, Calls Try.prog 34 #[.int .i64 v] w fun e w' => e = .returned (.int .i64 (v % 256)) ∧ w' = w) := ⟨byte_same v⟩
 have A3 : Aside0 (∀ w, Calls Try.prog 34 #[.int .i64 (wrap64 (S - 1))] w fun e w' => e = .returned (.int .i64 (wrap64 (S - 1) % 256)) ∧ w' = w) := ⟨byte_same _⟩
 have hs0 : 0 ≤ S % 256 := by omega
 have hs1 : S % 256 < 256 := by omega
 generalize wrap64 (S - 1) % 256 = s2 at *
 generalize S % 256 = sb at *
 generalize v % 256 = vb at *
 have hsum : IntKind.i64.wrap (256 + sb) = 256 + sb := by rw [IntKind.wrap_i64]; omega
 have hb1 : (256 + sb < (ram.length : Int)) = True := eq_true (by omega)
 have hb0 : (0 ≤ 256 + sb) = True := eq_true (by omega)
 clear hlen
 go_enter Try.func99, Try.ntmps99
 go_wp2
 go_still_tail 13, (by kernel_rfl)
 still_call (A1.out _)
 repeat still_step
 still_call (A2.out _)
 repeat still_step
 try refine wpStill_nil ?_
 change wpList _ _ _ _ _ w.drew
 go_wp2_with (go_at_call 34; refine (A3.out _).mono ?_; rintro e w' ⟨rfl, rfl⟩)
 go_end0
 exact ⟨rfl, rfl⟩
theorem push_no (x c : Nat) (A : Option Addr) (cap : Nat) (ram : List Int) (v : Int) (w : World)
  (hx0 : w.cell? ⟨x, 0, none⟩ = some (.slice A ram.length cap)) (hlen : ram.length ≠ 512) :
  Calls Try.prog 99 #[.pointer (some ⟨x, 0, none⟩), .pointer (some ⟨c, 0, none⟩), .int .i64 v] w fun e w' => e = .returned (.tuple #[]) ∧ w' = w := by
 have hu37 := Try.underlying32
 have hl : (((ram.length : Nat) : Int) != 512) = true := by simp; omega
 clear hlen
 go_enter Try.func99, Try.ntmps99
 go_wp2
 refine bodyPost_ret (results_none rfl _ _ _) rfl ?_
 exact ⟨rfl, rfl⟩
theorem push_calls {w0 w : World} {x c : Nat} {rv : Value} {b : Int} {k : Cp} {ram : List Int} (h : MC w0 w x c rv b k ram) (v : Int) :
  Calls Try.prog 99 #[.pointer (some ⟨x, 0, none⟩), .pointer (some ⟨c, 0, none⟩), .int .i64 v] w fun e w' => e = .returned (.tuple #[]) ∧
   MC w0 w' x c rv b (pushF ram k v).2 (pushF ram k v).1 ∧ Kept w w' (fun j => j = c ∨ some j = rv.ownBlock) := by
 unfold pushF
 by_cases hl : ram.length = 512
 ·rw [if_pos hl]
  obtain ⟨g, cap, rfl, hg, _, _⟩ := Kd.R_form h.row (by omega)
  obtain ⟨hcg, hfg⟩ := Kd.R_celln 0 h.row (256 + k.S % 256) (by omega) (by omega)
  refine (push_yes x c g cap ram k.S v _ w ((blk_cell h.mem 0).trans rfl) ((blk_cell h.cpu 2).trans rfl) hl hcg hfg (blk_frozen h.cpu 2) (fun e => h.far.2 (by rw [e]; rfl)) (fun e => h.far.1 (by rw [e]; rfl)) (Ne.symm h.ne)).mono ?_
  rintro e w' ⟨rfl, rfl⟩
  refine ⟨rfl, (((h.setR hg (256 + k.S % 256) (v % 256)).setC (k' := { k with S := wrap64 (k.S - 1) % 256 }) 2 _ rfl).drew), ?_⟩
  exact ((kept_set (kept_set (Kept.refl w _) (.inr rfl) _) (.inl rfl) _).drew)
 ·rw [if_neg hl]
  obtain ⟨A, cap, rfl⟩ := Kd.R_slice h.row
  refine (push_no x c A cap ram v w ((blk_cell h.mem 0).trans rfl) hl).mono ?_
  rintro e w' ⟨rfl, rfl⟩
  exact ⟨rfl, h, Kept.refl _ _⟩

/-! ### impl_within: function 67 -/
def impl_within.f (a0 : Int) (a1 : Int) (a2 : Int) : Option (Bool) := if a0 ≥ a1 then (some (decide (a0 ≤ a2))) else (some false)
theorem impl_within.calls (a0 : Int) (a1 : Int) (a2 : Int) (r : Bool) (w : World) (h : impl_within.f a0 a1 a2 = some r) :
  Calls Try.prog 67 #[.int .i64 a0, .int .i64 a1, .int .i64 a2] w fun e w' => e = .returned (.bool r) ∧ Drawn0 w w' := by
 have H : (if a0 ≥ a1 then (some (decide (a0 ≤ a2))) else (some false)) = some r := h
 clear h
 by_cases c4 : a0 ≥ a1
 ·rw [if_pos c4] at H
  have c4b0 : decide (a1 ≤ a0) = true := decide_eq_true c4
  clear c4
  obtain rfl := oj H
  go_enter Try.func67, Try.ntmps67
  go_wp2
  go_ret
  exact ⟨by first | rfl | (simp; done) | (simp [*]; done), by repeat (first | exact Drawn0.refl _ | apply Drawn0.step)⟩
 ·rw [if_neg c4] at H
  have c4b0 : decide (a1 ≤ a0) = false := decide_eq_false c4
  clear c4
  obtain rfl := oj H
  go_enter Try.func67, Try.ntmps67
  go_wp2
  go_ret
  exact ⟨by first | rfl | (simp; done) | (simp [*]; done), by repeat (first | exact Drawn0.refl _ | apply Drawn0.step)⟩

/-! ### impl_OpLen: function 38 -/
def impl_OpLen.j0 : Nat → Int → Bool → Option (Int)
 | 0, _, _ => none
 | k + 1, x0, x3 => if x3 = true then (some 2) else (if x0 = 2 then (some 3) else (if x0 = 3 then (some 3) else ((impl_within.f x0 14 20).bind fun t485 => (if t485 = true then (some 3) else (if x0 = 29 then (some 3) else (some 1))))))
def impl_OpLen.f (k : Nat) (a0 : Int) : Option (Int) := if a0 = 1 then (impl_OpLen.j0 k a0 true) else ((impl_within.f a0 4 9).bind fun t484 => (impl_OpLen.j0 k a0 t484))
theorem impl_OpLen.calls (k : Nat) (a0 : Int) (r : Int) (w : World) (h : impl_OpLen.f k a0 = some r) :
  Calls Try.prog 38 #[.int .i64 a0] w fun e w' => e = .returned (.int .i64 r) ∧ Drawn0 w w' := by
 have H : (if a0 = 1 then (impl_OpLen.j0 k a0 true) else ((impl_within.f a0 4 9).bind fun t484 => (impl_OpLen.j0 k a0 t484))) = some r := h
 clear h
 have HC2 := am H
 clear H
 go_enter Try.func38, Try.ntmps38
 go_upto_region 1 with (fail)
 go_cut [3] (fun v3 wc => ∃ (kq : Nat) (x3_1 : Bool), v3 = .bool x3_1 ∧ Aside0 (impl_OpLen.j0 kq a0 x3_1 = some r) ∧ Aside0 (kq ≤ k) ∧ Drawn0 w wc)
 case first =>
  have H := HC2.out
  clear HC2
  by_cases c3 : a0 = 1
  ·rw [if_pos c3] at H
   have c3b0 : (a0 == 1) = true := beq_iff_eq.mpr c3
   have c3b1 : (a0 != 1) = false := bne_eq_false_iff_eq.mpr c3
   clear c3
   (first | rw [c3b0] | (simp only [i64_w, i32_w]; rw [c3b0]) | skip)
   have H' := am H
   clear H
   go_wp2
   go_meet
   case rel => exact ⟨_, (true), (by first | rfl | (simp; done) | (simp [*]; done)), H', ⟨by first | omega | exact Nat.le_refl _⟩, by repeat (first | exact Drawn0.refl _ | apply Drawn0.step)⟩
  ·rw [if_neg c3] at H
   have c3b0 : (a0 == 1) = false := beq_eq_false_iff_ne.mpr c3
   have c3b1 : (a0 != 1) = true := bne_iff_ne.mpr c3
   (first | rw [c3b0] | (simp only [i64_w, i32_w]; rw [c3b0]) | skip)
   replace H := bs H
   obtain ⟨t484, A40, H⟩ := H
   replace H : (impl_OpLen.j0 k a0 t484) = some r := H
   have A4 := am A40
   clear A40
   have H' := am H
   clear H
   go_wp2_with (first | (go_at_call 67; (with_reducible refine (impl_within.calls a0 4 9 t484 _ A4.out).mono ?_); rintro e w' ⟨rfl, ⟨nd, rfl⟩⟩))
   go_meet
   case rel => exact ⟨_, (t484), (by first | rfl | (simp; done) | (simp [*]; done)), H', ⟨by first | omega | exact Nat.le_refl _⟩, by repeat (first | exact Drawn0.refl _ | apply Drawn0.step)⟩
 case rest =>
  clear HC2; (try clear p2); (try clear c3); (try clear c3b0); (try clear c3b1)
  obtain ⟨kq, x3_1, rfl, HA, HJ1, ⟨mc1, rfl⟩⟩ := hcut
  cases kq with
  | zero => exact absurd HA.out (by simp [impl_OpLen.j0])
  | succ kj1 =>
   have H := HA.out
   clear HA
   simp only [impl_OpLen.j0] at H
   by_cases c5 : x3_1 = true
   ·subst c5
    have H1 : (some 2) = some r := by rw [if_pos rfl] at H; exact H
    clear H
    have H := H1
    clear H1
    obtain rfl := oj H
    go_wp2
    go_ret
    exact ⟨by first | rfl | (simp; done) | (simp [*]; done), by repeat (first | exact Drawn0.refl _ | apply Drawn0.step)⟩
   ·replace c5 := Bool.eq_false_iff.mpr c5
    subst c5
    have H1 : (if a0 = 2 then (some 3) else (if a0 = 3 then (some 3) else ((impl_within.f a0 14 20).bind fun t485 => (if t485 = true then (some 3) else (if a0 = 29 then (some 3) else (some 1)))))) = some r := by rw [if_neg (show ¬ (false = true) by decide)] at H; exact H
    clear H
    have H := H1
    clear H1
    by_cases c6 : a0 = 2
    ·rw [if_pos c6] at H
     have c6b0 : (a0 == 2) = true := beq_iff_eq.mpr c6
     have c6b1 : (a0 != 2) = false := bne_eq_false_iff_eq.mpr c6
     clear c6
     obtain rfl := oj H
     go_wp2
     go_ret
     exact ⟨by first | rfl | (simp; done) | (simp [*]; done), by repeat (first | exact Drawn0.refl _ | apply Drawn0.step)⟩
    ·rw [if_neg c6] at H
     have c6b0 : (a0 == 2) = false := beq_eq_false_iff_ne.mpr c6
     have c6b1 : (a0 != 2) = true := bne_iff_ne.mpr c6
     by_cases c7 : a0 = 3
     ·rw [if_pos c7] at H
      have c7b0 : (a0 == 3) = true := beq_iff_eq.mpr c7
      have c7b1 : (a0 != 3) = false := bne_eq_false_iff_eq.mpr c7
      clear c7
      obtain rfl := oj H
      go_wp2
      go_ret
      exact ⟨by first | rfl | (simp; done) | (simp [*]; done), by repeat (first | exact Drawn0.refl _ | apply Drawn0.step)⟩
     ·rw [if_neg c7] at H
      have c7b0 : (a0 == 3) = false := beq_eq_false_iff_ne.mpr c7
      have c7b1 : (a0 != 3) = true := bne_iff_ne.mpr c7
      replace H := bs H
      obtain ⟨t485, A80, H⟩ := H
      replace H : (if t485 = true then (some 3) else (if a0 = 29 then (some 3) else (some 1))) = some r := H
      have A8 := am A80
      clear A80
      by_cases c9 : t485 = true
      ·subst c9
       have H1 : (some 3) = some r := by rw [if_pos rfl] at H; exact H
       clear H
       have H := H1
       clear H1
       obtain rfl := oj H
       go_wp2_with (first | (go_at_call 67; (with_reducible refine (impl_within.calls a0 14 20 true _ A8.out).mono ?_); rintro e w' ⟨rfl, ⟨nd, rfl⟩⟩))
       go_ret
       exact ⟨by first | rfl | (simp; done) | (simp [*]; done), by repeat (first | exact Drawn0.refl _ | apply Drawn0.step)⟩
      ·replace c9 := Bool.eq_false_iff.mpr c9
       subst c9
       have H1 : (if a0 = 29 then (some 3) else (some 1)) = some r := by rw [if_neg (show ¬ (false = true) by decide)] at H; exact H
       clear H
       have H := H1
       clear H1
       by_cases c10 : a0 = 29
       ·rw [if_pos c10] at H
        have c10b0 : (a0 == 29) = true := beq_iff_eq.mpr c10
        have c10b1 : (a0 != 29) = false := bne_eq_false_iff_eq.mpr c10
        clear c10
        obtain rfl := oj H
        go_wp2_with (first | (go_at_call 67; (with_reducible refine (impl_within.calls a0 14 20 false _ A8.out).mono ?_); rintro e w' ⟨rfl, ⟨nd, rfl⟩⟩))
        go_ret
        exact ⟨by first | rfl | (simp; done) | (simp [*]; done), by repeat (first | exact Drawn0.refl _ | apply Drawn0.step)⟩
       ·rw [if_neg c10] at H
        have c10b0 : (a0 == 29) = false := beq_eq_false_iff_ne.mpr c10
        have c10b1 : (a0 != 29) = true := bne_iff_ne.mpr c10
        obtain rfl := oj H
        go_wp2_with (first | (go_at_call 67; (with_reducible refine (impl_within.calls a0 14 20 false _ A8.out).mono ?_); rintro e w' ⟨rfl, ⟨nd, rfl⟩⟩))
        go_ret
        exact ⟨by first | rfl | (simp; done) | (simp [*]; done), by repeat (first | exact Drawn0.refl _ | apply Drawn0.step)⟩

/-! ### impl_Addr: function 52 -/
def impl_Addr.f (a0 : Int) : Option (Int) := some (Go.bits .and .i64 a0 65535)
theorem impl_Addr.calls (a0 : Int) (r : Int) (w : World) (h : impl_Addr.f a0 = some r) :
  Calls Try.prog 52 #[.int .i64 a0] w fun e w' => e = .returned (.int .i64 r) ∧ Drawn0 w w' := by
 have H : (some (Go.bits .and .i64 a0 65535)) = some r := h
 clear h
 obtain rfl := oj H
 go_enter Try.func52, Try.ntmps52
 go_wp2
 go_ret
 exact ⟨by first | rfl | (simp; done) | (simp [*]; done), by repeat (first | exact Drawn0.refl _ | apply Drawn0.step)⟩

/-! ### impl_Signs: function 123 -/
def impl_Signs.f (a0 : Int) : Option (Bool × Bool) := (impl_Byte.f a0).bind fun t486 => ((impl_Byte.f a0).bind fun t487 => (some ((t486 == 0), decide (t487 > 127))))
theorem impl_Signs.calls (a0 : Int) (r1 : Bool) (r2 : Bool) (w : World) (h : impl_Signs.f a0 = some (r1, r2)) :
  Calls Try.prog 123 #[.int .i64 a0] w fun e w' => e = .returned (.tuple #[.bool r1, .bool r2]) ∧ Drawn0 w w' := by
 have H : ((impl_Byte.f a0).bind fun t486 => ((impl_Byte.f a0).bind fun t487 => (some ((t486 == 0), decide (t487 > 127))))) = some (r1, r2) := h
 clear h
 replace H := bs H
 obtain ⟨t486, A20, H⟩ := H
 replace H : ((impl_Byte.f a0).bind fun t487 => (some ((t486 == 0), decide (t487 > 127)))) = some (r1, r2) := H
 have A2 := am A20
 clear A20
 replace H := bs H
 obtain ⟨t487, A30, H⟩ := H
 replace H : (some ((t486 == 0), decide (t487 > 127))) = some (r1, r2) := H
 have A3 := am A30
 clear A30
 simp only [Option.some.injEq, Prod.mk.injEq] at H
 obtain ⟨rfl, rfl⟩ := H
 go_enter Try.func123, Try.ntmps123
 go_wp2_with (first | ((with_reducible refine gate_callee (f := 34) rfl ?_); refine goesM_ (some 5) rfl rfl Try.func34 #[.int .i64 a0] ?_; (with_reducible refine (impl_Byte.calls a0 t486 _ A2.out).mono ?_); rintro e w' ⟨rfl, ⟨nd, rfl⟩⟩; refine ⟨_, rfl, ?_⟩) | ((with_reducible refine gate_callee (f := 34) rfl ?_); refine goesM_ (some 8) rfl rfl Try.func34 #[.int .i64 a0] ?_; (with_reducible refine (impl_Byte.calls a0 t487 _ A3.out).mono ?_); rintro e w' ⟨rfl, ⟨nd, rfl⟩⟩; refine ⟨_, rfl, ?_⟩))
 go_ret2
 exact ⟨by first | rfl | (simp; done) | (simp [*]; done), by repeat (first | exact Drawn0.refl _ | apply Drawn0.step)⟩

/-! ### impl_SetA: function 120 -/
def impl_SetA.f (a0_0 : Int) (a0_1 : Int) (a0_2 : Int) (a0_3 : Int) (a0_4 : Bool) (a0_5 : Bool) (a0_6 : Bool) (a0_7 : Bool) (a1 : Int) : Option (Int × Int × Int × Int × Bool × Bool × Bool × Bool) := (impl_Byte.f a1).bind fun t490 => ((impl_Signs.f a1).bind fun bt491 => (some (t490, a0_1, a0_2, a0_3, bt491.1, bt491.2, a0_6, a0_7)))
theorem impl_SetA.calls (a0_0 : Int) (a0_1 : Int) (a0_2 : Int) (a0_3 : Int) (a0_4 : Bool) (a0_5 : Bool) (a0_6 : Bool) (a0_7 : Bool) (a1 : Int) (r1 : Int) (r2 : Int) (r3 : Int) (r4 : Int) (r5 : Bool) (r6 : Bool) (r7 : Bool) (r8 : Bool) (w : World) (h : impl_SetA.f a0_0 a0_1 a0_2 a0_3 a0_4 a0_5 a0_6 a0_7 a1 = some (r1, r2, r3, r4, r5, r6, r7, r8)) :
  Calls Try.prog 120 #[.agg #[.int .i64 a0_0, .int .i64 a0_1, .int .i64 a0_2, .int .i64 a0_3, .bool a0_4, .bool a0_5, .bool a0_6, .bool a0_7], .int .i64 a1] w fun e w' => e = .returned (.agg #[.int .i64 r1, .int .i64 r2, .int .i64 r3, .int .i64 r4, .bool r5, .bool r6, .bool r7, .bool r8]) ∧ Below w.heap.size w w' := by
 have hu55 := Try.underlying55
 have HB := am (Below.refl w.heap.size w)
 have H : ((impl_Byte.f a1).bind fun t490 => ((impl_Signs.f a1).bind fun bt491 => (some (t490, a0_1, a0_2, a0_3, bt491.1, bt491.2, a0_6, a0_7)))) = some (r1, r2, r3, r4, r5, r6, r7, r8) := h
 clear h
 replace H := bs H
 obtain ⟨t490, A30, H⟩ := H
 replace H : ((impl_Signs.f a1).bind fun bt491 => (some (t490, a0_1, a0_2, a0_3, bt491.1, bt491.2, a0_6, a0_7))) = some (r1, r2, r3, r4, r5, r6, r7, r8) := H
 have A3 := am A30
 clear A30
 replace H := bs H
 obtain ⟨⟨t491, t492⟩, A40, H⟩ := H
 replace H : (some (t490, a0_1, a0_2, a0_3, t491, t492, a0_6, a0_7)) = some (r1, r2, r3, r4, r5, r6, r7, r8) := H
 have A4 := am A40
 clear A40
 simp only [Option.some.injEq, Prod.mk.injEq] at H
 obtain ⟨rfl, rfl, rfl, rfl, rfl, rfl, rfl, rfl⟩ := H
 go_enter Try.func120, Try.ntmps120
 go_wp2_with (first | ((with_reducible refine gd 2 ?_); refine bx (N := 2) (cs := #[.int .i64 a0_0, .int .i64 a0_1, .int .i64 a0_2, .int .i64 a0_3, .bool a0_4, .bool a0_5, .bool a0_6, .bool a0_7]) (t := 55) ?_; intro gb488 hg w5 hbox hb; have BK488 := am (hbox); have GW488 := am ((gs hg (bw HB.out))); have GE488 := am ((gs hg (bw HB.out))); replace HB := am (below_step (bw HB.out) hb); clear hb hbox hg) | ((with_reducible refine gd 4 ?_); refine bz (N := 4) ?_; intro gb489 hg w6 hbox hb; have BK489 := am (hbox); have GW489 := am ((gs hg (bw HB.out))); have GE489 := am ((gs hg (bw HB.out))); replace HB := am (below_step (bw HB.out) hb); have NB488_489 := am ((ga hg BK488.out)); have NB489_488 := am ((gc hg BK488.out)); replace BK488 := am (bb BK488 hb); clear hb hbox hg) | ((with_reducible refine gate_callee (f := 34) rfl ?_); refine goesM_ (some 6) rfl rfl Try.func34 #[.int .i64 a1] ?_; (with_reducible refine (impl_Byte.calls a1 t490 _ A3.out).mono ?_); rintro e w' ⟨rfl, ⟨nd, rfl⟩⟩; refine ⟨_, rfl, ?_⟩; (try (rw [drewN_self w6]; generalize hq_ : World.drewN w6 _ = w6; have n0_ : Aside0 (w6.heap[gb488]? = some (.cells #[.int .i64 a0_0, .int .i64 a0_1, .int .i64 a0_2, .int .i64 a0_3, .bool a0_4, .bool a0_5, .bool a0_6, .bool a0_7] 55 (0, 0))) := ⟨by rw [← hq_]; exact (kb BK488.out)⟩; have n1_ : Aside0 (w6.heap[gb489]? = some (.cells #[.int .i64 0, .int .i64 0, .int .i64 0, .int .i64 0, .bool false, .bool false, .bool false, .bool false] 55 (0, 0))) := ⟨by rw [← hq_]; exact (kb BK489.out)⟩; have n2_ : Aside0 (Below w.heap.size w w6) := ⟨by rw [← hq_]; exact (bw HB.out)⟩; clear BK488 BK489 HB hq_; have BK488 := n0_; have BK489 := n1_; have HB := n2_; clear n0_ n1_ n2_; (try obtain ⟨hcz8_0, hcz8_1, hcz8_2, hcz8_3, hcz8_4, hcz8_5, hcz8_6, hcz8_7⟩ := ce8 BK488); (try obtain ⟨hfz8_0, hfz8_1, hfz8_2, hfz8_3, hfz8_4, hfz8_5, hfz8_6, hfz8_7⟩ := fz8 BK488); (try obtain ⟨hcz9_0, hcz9_1, hcz9_2, hcz9_3, hcz9_4, hcz9_5, hcz9_6, hcz9_7⟩ := ce8 BK489); (try obtain ⟨hfz9_0, hfz9_1, hfz9_2, hfz9_3, hfz9_4, hfz9_5, hfz9_6, hfz9_7⟩ := fz8 BK489))); have p_ := NB488_489.out; obtain ⟨hcz8_0, hcz8_1, hcz8_2, hcz8_3, hcz8_4, hcz8_5, hcz8_6, hcz8_7⟩ := ce8 BK488; obtain ⟨hfz8_0, hfz8_1, hfz8_2, hfz8_3, hfz8_4, hfz8_5, hfz8_6, hfz8_7⟩ := fz8 BK488) | ((with_reducible refine gate_callee (f := 123) rfl ?_); refine goesM_ (some 10) rfl rfl Try.func123 #[.int .i64 a1] ?_; (with_reducible refine (impl_Signs.calls a1 t491 t492 _ A4.out).mono ?_); rintro e w' ⟨rfl, ⟨nd, rfl⟩⟩; refine ⟨_, rfl, ?_⟩; obtain ⟨hcz9_0, hcz9_1, hcz9_2, hcz9_3, hcz9_4, hcz9_5, hcz9_6, hcz9_7⟩ := ce8 BK489; obtain ⟨hfz9_0, hfz9_1, hfz9_2, hfz9_3, hfz9_4, hfz9_5, hfz9_6, hfz9_7⟩ := fz8 BK489))
 refine bodyPost_ret (results_cell_row rfl _ _ gb489 55 #[.int .i64 t490, .int .i64 a0_1, .int .i64 a0_2, .int .i64 a0_3, .bool t491, .bool t492, .bool a0_6, .bool a0_7] (0, 0) _ rfl (bf NB489_488 BK489.out) Try.underlying55 rfl (by kernel_rfl)) rfl ?_
 exact ⟨rt, bw HB.out⟩

/-! ### impl_flag: function 101 -/
def impl_flag.f (a0 : Bool) : Option (Int) := if a0 = true then (some 1) else (some 0)
theorem impl_flag.calls (a0 : Bool) (r : Int) (w : World) (h : impl_flag.f a0 = some r) :
  Calls Try.prog 101 #[.bool a0] w fun e w' => e = .returned (.int .i64 r) ∧ Drawn0 w w' := by
 have H : (if a0 = true then (some 1) else (some 0)) = some r := h
 clear h
 by_cases c2 : a0 = true
 ·subst c2
  have H1 : (some 1) = some r := by rw [if_pos rfl] at H; exact H
  clear H
  have H := H1
  clear H1
  obtain rfl := oj H
  go_enter Try.func101, Try.ntmps101
  go_wp2
  go_ret
  exact ⟨by first | rfl | (simp; done) | (simp [*]; done), by repeat (first | exact Drawn0.refl _ | apply Drawn0.step)⟩
 ·replace c2 := Bool.eq_false_iff.mpr c2
  subst c2
  have H1 : (some 0) = some r := by rw [if_neg (show ¬ (false = true) by decide)] at H; exact H
  clear H
  have H := H1
  clear H1
  obtain rfl := oj H
  go_enter Try.func101, Try.ntmps101
  go_wp2
  go_ret
  exact ⟨by first | rfl | (simp; done) | (simp [*]; done), by repeat (first | exact Drawn0.refl _ | apply Drawn0.step)⟩

/-! ### impl_Add8: function 121 -/
def impl_Add8.f (a0 : Int) (a1 : Int) (a2 : Bool) : Option (Int × Bool) := (impl_Byte.f a0).bind fun t493 => ((impl_Byte.f a1).bind fun t494 => ((impl_flag.f a2).bind fun t495 => ((impl_Byte.f (wrap64 ((wrap64 (t493 + t494)) + t495))).bind fun t496 => (some (t496, decide ((wrap64 ((wrap64 (t493 + t494)) + t495)) > 255))))))
theorem impl_Add8.calls (a0 : Int) (a1 : Int) (a2 : Bool) (r1 : Int) (r2 : Bool) (w : World) (h : impl_Add8.f a0 a1 a2 = some (r1, r2)) :
  Calls Try.prog 121 #[.int .i64 a0, .int .i64 a1, .bool a2] w fun e w' => e = .returned (.tuple #[.int .i64 r1, .bool r2]) ∧ Drawn0 w w' := by
 have H : ((impl_Byte.f a0).bind fun t493 => ((impl_Byte.f a1).bind fun t494 => ((impl_flag.f a2).bind fun t495 => ((impl_Byte.f (wrap64 ((wrap64 (t493 + t494)) + t495))).bind fun t496 => (some (t496, decide ((wrap64 ((wrap64 (t493 + t494)) + t495)) > 255))))))) = some (r1, r2) := h
 clear h
 replace H := bs H
 obtain ⟨t493, A40, H⟩ := H
 replace H : ((impl_Byte.f a1).bind fun t494 => ((impl_flag.f a2).bind fun t495 => ((impl_Byte.f (wrap64 ((wrap64 (t493 + t494)) + t495))).bind fun t496 => (some (t496, decide ((wrap64 ((wrap64 (t493 + t494)) + t495)) > 255)))))) = some (r1, r2) := H
 have A4 := am A40
 clear A40
 replace H := bs H
 obtain ⟨t494, A50, H⟩ := H
 replace H : ((impl_flag.f a2).bind fun t495 => ((impl_Byte.f (wrap64 ((wrap64 (t493 + t494)) + t495))).bind fun t496 => (some (t496, decide ((wrap64 ((wrap64 (t493 + t494)) + t495)) > 255))))) = some (r1, r2) := H
 have A5 := am A50
 clear A50
 replace H := bs H
 obtain ⟨t495, A60, H⟩ := H
 replace H : ((impl_Byte.f (wrap64 ((wrap64 (t493 + t494)) + t495))).bind fun t496 => (some (t496, decide ((wrap64 ((wrap64 (t493 + t494)) + t495)) > 255)))) = some (r1, r2) := H
 have A6 := am A60
 clear A60
 replace H := bs H
 obtain ⟨t496, A70, H⟩ := H
 replace H : (some (t496, decide ((wrap64 ((wrap64 (t493 + t494)) + t495)) > 255))) = some (r1, r2) := H
 have A7 := am A70
 clear A70
 simp only [Option.some.injEq, Prod.mk.injEq] at H
 obtain ⟨rfl, rfl⟩ := H
 go_enter Try.func121, Try.ntmps121
 go_wp2_with (first | ((with_reducible refine gate_callee (f := 34) rfl ?_); refine goesM_ (some 10) rfl rfl Try.func34 #[.int .i64 a0] ?_; (with_reducible refine (impl_Byte.calls a0 t493 _ A4.out).mono ?_); rintro e w' ⟨rfl, ⟨nd, rfl⟩⟩; refine ⟨_, rfl, ?_⟩) | ((with_reducible refine gate_callee (f := 34) rfl ?_); refine goesM_ (some 12) rfl rfl Try.func34 #[.int .i64 a1] ?_; (with_reducible refine (impl_Byte.calls a1 t494 _ A5.out).mono ?_); rintro e w' ⟨rfl, ⟨nd, rfl⟩⟩; refine ⟨_, rfl, ?_⟩) | ((with_reducible refine gate_callee (f := 101) rfl ?_); refine goesM_ (some 15) rfl rfl Try.func101 #[.bool a2] ?_; (with_reducible refine (impl_flag.calls a2 t495 _ A6.out).mono ?_); rintro e w' ⟨rfl, ⟨nd, rfl⟩⟩; refine ⟨_, rfl, ?_⟩) | ((with_reducible refine gate_callee (f := 34) rfl ?_); refine goesM_ (some 18) rfl rfl Try.func34 #[.int .i64 (wrap64 ((wrap64 (t493 + t494)) + t495))] ?_; (with_reducible refine (impl_Byte.calls (wrap64 ((wrap64 (t493 + t494)) + t495)) t496 _ A7.out).mono ?_); rintro e w' ⟨rfl, ⟨nd, rfl⟩⟩; refine ⟨_, rfl, ?_⟩))
 go_ret2
 exact ⟨by first | rfl | (simp; done) | (simp [*]; done), by repeat (first | exact Drawn0.refl _ | apply Drawn0.step)⟩

/-! ### impl_Sub8: function 122 -/
def impl_Sub8.f (a0 : Int) (a1 : Int) (a2 : Bool) : Option (Int × Bool) := (impl_Byte.f a0).bind fun t497 => ((impl_Byte.f a1).bind fun t498 => ((impl_flag.f (!a2)).bind fun t499 => ((impl_Byte.f (wrap64 ((wrap64 (t497 - t498)) - t499))).bind fun t500 => (some (t500, decide ((wrap64 ((wrap64 (t497 - t498)) - t499)) ≥ 0))))))
theorem impl_Sub8.calls (a0 : Int) (a1 : Int) (a2 : Bool) (r1 : Int) (r2 : Bool) (w : World) (h : impl_Sub8.f a0 a1 a2 = some (r1, r2)) :
  Calls Try.prog 122 #[.int .i64 a0, .int .i64 a1, .bool a2] w fun e w' => e = .returned (.tuple #[.int .i64 r1, .bool r2]) ∧ Drawn0 w w' := by
 have H : ((impl_Byte.f a0).bind fun t497 => ((impl_Byte.f a1).bind fun t498 => ((impl_flag.f (!a2)).bind fun t499 => ((impl_Byte.f (wrap64 ((wrap64 (t497 - t498)) - t499))).bind fun t500 => (some (t500, decide ((wrap64 ((wrap64 (t497 - t498)) - t499)) ≥ 0))))))) = some (r1, r2) := h
 clear h
 replace H := bs H
 obtain ⟨t497, A40, H⟩ := H
 replace H : ((impl_Byte.f a1).bind fun t498 => ((impl_flag.f (!a2)).bind fun t499 => ((impl_Byte.f (wrap64 ((wrap64 (t497 - t498)) - t499))).bind fun t500 => (some (t500, decide ((wrap64 ((wrap64 (t497 - t498)) - t499)) ≥ 0)))))) = some (r1, r2) := H
 have A4 := am A40
 clear A40
 replace H := bs H
 obtain ⟨t498, A50, H⟩ := H
 replace H : ((impl_flag.f (!a2)).bind fun t499 => ((impl_Byte.f (wrap64 ((wrap64 (t497 - t498)) - t499))).bind fun t500 => (some (t500, decide ((wrap64 ((wrap64 (t497 - t498)) - t499)) ≥ 0))))) = some (r1, r2) := H
 have A5 := am A50
 clear A50
 replace H := bs H
 obtain ⟨t499, A60, H⟩ := H
 replace H : ((impl_Byte.f (wrap64 ((wrap64 (t497 - t498)) - t499))).bind fun t500 => (some (t500, decide ((wrap64 ((wrap64 (t497 - t498)) - t499)) ≥ 0)))) = some (r1, r2) := H
 have A6 := am A60
 clear A60
 replace H := bs H
 obtain ⟨t500, A70, H⟩ := H
 replace H : (some (t500, decide ((wrap64 ((wrap64 (t497 - t498)) - t499)) ≥ 0))) = some (r1, r2) := H
 have A7 := am A70
 clear A70
 simp only [Option.some.injEq, Prod.mk.injEq] at H
 obtain ⟨rfl, rfl⟩ := H
 go_enter Try.func122, Try.ntmps122
 go_wp2_with (first | ((with_reducible refine gate_callee (f := 34) rfl ?_); refine goesM_ (some 10) rfl rfl Try.func34 #[.int .i64 a0] ?_; (with_reducible refine (impl_Byte.calls a0 t497 _ A4.out).mono ?_); rintro e w' ⟨rfl, ⟨nd, rfl⟩⟩; refine ⟨_, rfl, ?_⟩) | ((with_reducible refine gate_callee (f := 34) rfl ?_); refine goesM_ (some 12) rfl rfl Try.func34 #[.int .i64 a1] ?_; (with_reducible refine (impl_Byte.calls a1 t498 _ A5.out).mono ?_); rintro e w' ⟨rfl, ⟨nd, rfl⟩⟩; refine ⟨_, rfl, ?_⟩) | ((with_reducible refine gate_callee (f := 101) rfl ?_); refine goesM_ (some 16) rfl rfl Try.func101 #[.bool (!a2)] ?_; (with_reducible refine (impl_flag.calls (!a2) t499 _ A6.out).mono ?_); rintro e w' ⟨rfl, ⟨nd, rfl⟩⟩; refine ⟨_, rfl, ?_⟩) | ((with_reducible refine gate_callee (f := 34) rfl ?_); refine goesM_ (some 19) rfl rfl Try.func34 #[.int .i64 (wrap64 ((wrap64 (t497 - t498)) - t499))] ?_; (with_reducible refine (impl_Byte.calls (wrap64 ((wrap64 (t497 - t498)) - t499)) t500 _ A7.out).mono ?_); rintro e w' ⟨rfl, ⟨nd, rfl⟩⟩; refine ⟨_, rfl, ?_⟩))
 go_ret2
 exact ⟨by first | rfl | (simp; done) | (simp [*]; done), by repeat (first | exact Drawn0.refl _ | apply Drawn0.step)⟩

-- NOT PRINTED: function 109 (impl_Cpu_reckon)

end Go.Proofs.Ytmkccgbfgebfbaa.MFnCalled
