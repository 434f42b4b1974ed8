/- Walks of functions that the law FnEntered reaches: each comes to just what its Lean function says. (Begun as the texts that print.sh wrote for this claim; some of them, and those that it does not write, are mine.) No condition. -/
import Derived.Test.YtmkccgbfgebfbaaMFnEnteredx3
namespace Go.Proofs.Ytmkccgbfgebfbaa.MFnEntered
open Go.RowKit Go.Proofs.YtmkccgbfgebfbaaW.PrintWords Go.Proofs.YtmkccgbfgebfbaaW.PrintLast Go.Proofs.YtmkccgbfgebfbaaW.PrintMore
attribute [local go_sem] max2_int min2_int max_two min_two max_three min_three max_four min_four   -- for this text's walks alone
set_option linter.unusedVariables false
set_option linter.unusedSimpArgs false

/-! ### spec_l2DrawRight: function 69 -/
def last6 (r : List Int) : List Int := (((((r.set 250 128).set 251 192).set 252 0).set 253 192).set 254 160).set 255 192
/-- The last bank, with what stands at its end. -/
def lastSix (x : List (List Int)) (i : Int) : List (List Int) := x.set i.toNat (last6 (rd_L2 x i))
def six (W : World) (g : Nat) : World := (((((W.setCell ⟨g, 250, none⟩ (.int .i64 128)).setCell ⟨g, 251, none⟩ (.int .i64 192)).setCell ⟨g, 252, none⟩ (.int .i64 0)).setCell ⟨g, 253, none⟩ (.int .i64 192)).setCell ⟨g, 254, none⟩ (.int .i64 160)).setCell ⟨g, 255, none⟩ (.int .i64 192)
theorem six_heap (W : World) (g k : Nat) (h : k ≠ g) : (six W g).heap[k]? = W.heap[k]? := by
 unfold six
 refine (Below.heap_setCell _ _ _ k h).trans ?_
 refine (Below.heap_setCell _ _ _ k h).trans ?_
 refine (Below.heap_setCell _ _ _ k h).trans ?_
 refine (Below.heap_setCell _ _ _ k h).trans ?_
 refine (Below.heap_setCell _ _ _ k h).trans ?_
 exact Below.heap_setCell _ _ _ k h
theorem six_below {B : World} {W : World} {g : Nat} (h : Below B.heap.size B W) (hg : B.heap.size ≤ g) : Below B.heap.size B (six W g) := below_set (below_set (below_set (below_set (below_set (below_set h hg) hg) hg) hg) hg) hg
theorem six_blk {W : World} {g b : Nat} {t : TypeId} {cs : Array Value} (h : W.heap[b]? = some (.cells cs t (0, 0))) (hne : b ≠ g) : (six W g).heap[b]? = some (.cells cs t (0, 0)) := (six_heap W g b hne).trans h
theorem six_keep {w W : World} {g gl : Nat} {row : Option Nat} (h : KeepBut w W g row) (hg : w.heap.size ≤ gl) : KeepBut w (six W gl) g row := keep_far (keep_far (keep_far (keep_far (keep_far (keep_far h hg _) hg _) hg _) hg _) hg _) hg _
theorem six_ok {W : World} {base : Nat} {ok : Nat → Prop} {ad : Addr} {n cap : Nat} {X : List (List Int)} (h : Kd.S (Kd.slice 3 (Kd.int .i64)) 30 W base ok (.slice (some ad) n cap) X) (i : Int) (h0 : 0 ≤ i) (h1 : i < (X.length : Int)) {A : Option Addr} {c : Nat}
  (hx : W.cell? (ad.add i.toNat) = some (.slice A (rd_L2 X i).length c)) (h256 : (rd_L2 X i).length = 256) :
  ∃ gl, A = some ⟨gl, 0, none⟩ ∧ base ≤ gl ∧ (∃ cells, W.heap[gl]? = some (.cells cells 3 (0, 0))) ∧ (∀ j : Nat, j < 256 → W.cell? ⟨gl, j, none⟩ = some (.int .i64 (rdOf 0 (rd_L2 X i) (j : Int))) ∧ W.frozen? ⟨gl, j, none⟩ = false) ∧
   Kd.S (Kd.slice 3 (Kd.int .i64)) 30 (six W gl) base ok (.slice (some ad) n cap) (lastSix X i) := by
 obtain ⟨go, rfl⟩ := Kd.R_head (Kd.S_R h)
 have hn := (Kd.S_reads' h).1
 obtain ⟨oki, cc, hcl, hM, hcc, hoki, hH⟩ := Kd.S_lend h [] i h0 (by omega)
 obtain ⟨v, rfl, hR⟩ : ∃ v, cc = [v] ∧ Kd.R (Kd.int .i64) 3 W base oki v (X.getD i.toNat []) := hM
 have hv := hcc 0 v rfl
 rw [add_plain] at hx
 have e1 : i.toNat * (Kd.slice 3 (Kd.int .i64)).sz + 0 = i.toNat := Nat.mul_one _
 rw [e1, hx] at hv
 obtain rfl := Option.some.inj hv
 have e2 : X.getD i.toNat [] = rd_L2 X i := rfl
 rw [e2] at hR
 obtain ⟨gl, cap', e3, hg, hgl, hcells⟩ := Kd.R_form hR (by omega)
 obtain ⟨rfl, _, rfl⟩ : A = some ⟨gl, 0, none⟩ ∧ True ∧ c = cap' := by
  injection e3 with a1 a2 a3
  exact ⟨a1, trivial, a3⟩
 have hok : oki gl := hR.1 gl rfl
 refine ⟨gl, rfl, hg, hcells, fun j j1 => Kd.R_celln 0 hR (j : Int) (by omega) (by omega), ?_⟩
 have r6 : Kd.R (Kd.int .i64) 3 (six W gl) base oki (.slice (some ⟨gl, 0, none⟩) (rd_L2 X i).length c) (last6 (rd_L2 X i)) := by
  unfold six last6
  exact Kd.R_putn (Kd.R_putn (Kd.R_putn (Kd.R_putn (Kd.R_putn (Kd.R_putn hR 250 128) 251 192) 252 0) 253 192) 254 160) 255 192
 exact Kd.H_back (Kd.H_step hH (fun k _ hn _ => six_heap W gl k (fun e => hn (e ▸ hok)))) ⟨_, rfl, r6⟩ (fun _ hk => hk)
theorem six_state {w0 W : World} {g gl : Nat} {f0 : List Int} {f1 f2 : Int} (h : IsS107 w0 W g f0 f1 f2) (hne : g ≠ gl) : IsS107 w0 (six W gl) g f0 f1 f2 :=
 (((((h.far (p := ⟨gl, 250, none⟩) hne _).far (p := ⟨gl, 251, none⟩) hne _).far (p := ⟨gl, 252, none⟩) hne _).far (p := ⟨gl, 253, none⟩) hne _).far (p := ⟨gl, 254, none⟩) hne _).far (p := ⟨gl, 255, none⟩) hne _
def spec_l2DrawRight.l0 : Nat → Int → Int → List Int → Int → Int → List (List Int) → Option ((List (List Int)) × Int × Int)
 | 0, _, _, _, _, _, _ => none
 | k + 1, x4, x5, x1000, x1001, x1002, x412000 => if x5 < x4 then ((spec_l2DrawBank.f k x1000 x1001 x1002).bind fun bt415 => (if x412000.length < 5864062014805 then (spec_l2DrawRight.l0 k x4 (wrap64 (x5 + 1)) x1000 bt415.2.1 bt415.2.2 (x412000 ++ [bt415.1])) else (none))) else ((spec_l1Once.f x1000 x1001 x1002 4).bind fun bt423 => (if bt423.1 = true then (if 0 ≤ (wrap64 (x4 - 1)) then (if (wrap64 (x4 - 1)) < (x412000.length : Int) then (if (rd_L2 x412000 (wrap64 (x4 - 1))).length = 256 then (some (lastSix x412000 (wrap64 (x4 - 1)), bt423.2.1, bt423.2.2)) else (none)) else (none)) else (none)) else ((spec_l2Main.f x1000 bt423.2.1 bt423.2.2).bind fun bt427 => ((spec_Assemble.f k bt427.1).bind fun bt430 => (if (bt430.1.length : Int) = 256 then (if 0 ≤ (wrap64 (x4 - 1)) then (if (wrap64 (x4 - 1)) < (x412000.length : Int) then (if (rd_L2 (x412000.set ((wrap64 (x4 - 1)) : Int).toNat bt430.1) (wrap64 (x4 - 1))).length = 256 then (some (lastSix (x412000.set ((wrap64 (x4 - 1)) : Int).toNat bt430.1) (wrap64 (x4 - 1)), bt427.2.1, bt427.2.2)) else (none)) else (none)) else (none)) else (if 0 ≤ (wrap64 (x4 - 1)) then (if (wrap64 (x4 - 1)) < (x412000.length : Int) then (if (rd_L2 x412000 (wrap64 (x4 - 1))).length = 256 then (some (lastSix x412000 (wrap64 (x4 - 1)), bt427.2.1, bt427.2.2)) else (none)) else (none)) else (none)))))))
def spec_l2DrawRight.f (k : Nat) (s0_0 : List Int) (s0_1 : Int) (s0_2 : Int) : Option ((List (List Int)) × Int × Int) := (spec_l1Below.f s0_0 s0_1 s0_2 3).bind fun bt412 => (spec_l2DrawRight.l0 k (wrap64 (1 + bt412.1)) 0 s0_0 bt412.2.1 bt412.2.2 ([] : List (List Int)))
def spec_l2DrawRight.T6 : Bool × List (List Nat × List Nat) := (true, [([], []), ([0], [0]), ([], []), ([2], [2]), ([3], [3]), ([1, 4, 3], [1, 4]), ([0, 1, 2, 3, 4, 5], []), ([6, 5, 5, 0, 1, 2, 3, 4, 5], [5, 6])])
def spec_l2DrawRight.B6 : List Nat := [0, 1, 0, 4, 12, 31, 63, 127]
theorem spec_l2DrawRight.tab6 : rtab .any (opsOf Try.f69 6) = spec_l2DrawRight.T6 := by kernel_rfl
theorem spec_l2DrawRight.bits6 : waitsOk spec_l2DrawRight.T6.2 spec_l2DrawRight.B6 = true := by kernel_rfl
set_option maxHeartbeats 8000000 in
set_option maxRecDepth 100000 in
theorem spec_l2DrawRight.calls (k : Nat) (g : Nat) (s0_0 : List Int) (s0_1 : Int) (s0_2 : Int) (r1 : List (List Int)) (r2 : Int) (r3 : Int) (w0 w : World) (hI : IsS107 w0 w g s0_0 s0_1 s0_2) (hB : Below w0.heap.size w0 w) (h : spec_l2DrawRight.f k s0_0 s0_1 s0_2 = some (r1, r2, r3)) :
  Calls Try.prog 69 #[.pointer (some ⟨g, 0, none⟩)] w fun e w' => ∃ v0_ : Value, e = .returned (.agg #[v0_]) ∧ Kd.S (Kd.slice 3 (Kd.int .i64)) 30 w' w.heap.size (fun _ => True) v0_ r1 ∧ IsS107 w0 w' g s0_0 r2 r3 ∧ Below w0.heap.size w0 w' ∧ KeepBut w w' g none := by
 have hu29 := Try.underlying29
 have HI0 := Aside0.mk hI
 have HK := Aside0.mk (KeepBut.refl w g none)
 have HL := Aside0.mk hB.size
 clear hI
 have HW0 := Aside0.mk hB.size
 have HB := Aside0.mk hB
 clear hB
 have H : ((spec_l1Below.f s0_0 s0_1 s0_2 3).bind fun bt412 => (spec_l2DrawRight.l0 k (wrap64 (1 + bt412.1)) 0 s0_0 bt412.2.1 bt412.2.2 ([] : List (List Int)))) = some (r1, r2, r3) := h
 clear h
 replace H := Option.bind_eq_some_iff.mp H
 obtain ⟨⟨t412, t413, t414⟩, A20, H⟩ := H
 replace H : (spec_l2DrawRight.l0 k (wrap64 (1 + t412)) 0 s0_0 t413 t414 ([] : List (List Int))) = some (r1, r2, r3) := H
 have A2 := Aside0.mk A20
 clear A20
 have H' := Aside0.mk H
 clear H
 go_enter Try.func69, Try.ntmps69
 go_wp2_with (first | ((with_reducible refine gate_dst (N := 2) rfl ?_); refine bx (N := 2) (cs := #[.slice none 0 0]) (t := 29) ?_; intro gb410 hg w3 hbox hb; have n0_ := Aside0.mk (IsS107.below (si HI0.out) hb); have n1_ := Aside0.mk (KeepBut.trans (kp HK.out) (KeepBut.of_below hb g none) (.inl rfl)); have n2_ := Aside0.mk (below_step (bi HB.out) hb); have n3_ := Aside0.mk (hbox); have n4_ := Aside0.mk ((by rw [hg]; exact (keep_size (w := w) (g := g) (row := none) (kp HK.out)) : w.heap.size ≤ gb410)); have n5_ := Aside0.mk ((Nat.le_trans HW0.out (by rw [hg]; exact (keep_size (w := w) (g := g) (row := none) (kp HK.out)) : w.heap.size ≤ gb410) : w0.heap.size ≤ gb410)); have n6_ := Aside0.mk ((by rw [hg]; exact Nat.ne_of_lt (IsS107.lt (show IsS107 w0 _ g s0_0 s0_1 s0_2 from si HI0.out)) : g ≠ gb410)); have n7_ := Aside0.mk ((by rw [hg]; exact Nat.ne_of_gt (IsS107.lt (show IsS107 w0 _ g s0_0 s0_1 s0_2 from si HI0.out)) : gb410 ≠ g)); clear HI0; clear HK; clear HB; have HI0 := n0_; have HK := n1_; have HB := n2_; have BK410 := n3_; have GW410 := n4_; have GE410 := n5_; have NB0_410 := n6_; have NB410_0 := n7_; clear n0_ n1_ n2_ n3_ n4_ n5_ n6_ n7_; clear hb hbox hg) | ((with_reducible refine gate_dst (N := 3) rfl ?_); refine bx (N := 3) (cs := #[.slice none 0 0]) (t := 29) ?_; intro gb411 hg w4 hbox hb; have n0_ := Aside0.mk (IsS107.below (si HI0.out) hb); have n1_ := Aside0.mk (bb BK410 hb); have n2_ := Aside0.mk (KeepBut.trans (kp HK.out) (KeepBut.of_below hb g none) (.inl rfl)); have n3_ := Aside0.mk (below_step (bi HB.out) hb); have n4_ := Aside0.mk (hbox); have n5_ := Aside0.mk ((by rw [hg]; exact (keep_size (w := w) (g := g) (row := none) (kp HK.out)) : w.heap.size ≤ gb411)); have n6_ := Aside0.mk ((Nat.le_trans HW0.out (by rw [hg]; exact (keep_size (w := w) (g := g) (row := none) (kp HK.out)) : w.heap.size ≤ gb411) : w0.heap.size ≤ gb411)); have n7_ := Aside0.mk ((ga hg BK410.out)); have n8_ := Aside0.mk ((gc hg BK410.out)); have n9_ := Aside0.mk ((by rw [hg]; exact Nat.ne_of_lt (IsS107.lt (show IsS107 w0 _ g s0_0 s0_1 s0_2 from si HI0.out)) : g ≠ gb411)); have n10_ := Aside0.mk ((by rw [hg]; exact Nat.ne_of_gt (IsS107.lt (show IsS107 w0 _ g s0_0 s0_1 s0_2 from si HI0.out)) : gb411 ≠ g)); clear HI0; clear BK410; clear HK; clear HB; have HI0 := n0_; have BK410 := n1_; have HK := n2_; have HB := n3_; have BK411 := n4_; have GW411 := n5_; have GE411 := n6_; have NB410_411 := n7_; have NB411_410 := n8_; have NB0_411 := n9_; have NB411_0 := n10_; clear n0_ n1_ n2_ n3_ n4_ n5_ n6_ n7_ n8_ n9_ n10_; clear hb hbox hg; have hnb5 := NB411_410.out; have hnc5 := NB410_411.out; have hnb6 := NB411_0.out; have hnc6 := NB0_411.out; have hcz7_0 : w4.cell? ⟨gb411, 0, none⟩ = some (.slice none 0 0) := cl BK411 0; have hfz7_0 := blk_frozen BK411.out 0) | ((with_reducible refine gate_callee (f := 60) rfl ?_); refine goesM_ (some 11) rfl rfl Try.func60 #[.pointer (some ⟨g, 0, none⟩), .int .i64 3] ?_; (with_reducible refine (spec_l1Below.calls g s0_0 s0_1 s0_2 3 t412 t413 t414 w0 _ ?side1 ?side2 A2.out).mono ?_); (case side1 => exact si HI0.out); (case side2 => exact bi HB.out); rintro e w8 ⟨rfl, hi, hb, hk⟩; refine ⟨_, rfl, ?_⟩; replace BK410 := Aside0.mk (kB hk (kf BK410.out) NB410_0); replace BK411 := Aside0.mk (KeepBut.blk hk (g' := gb411) (o := .cells #[.slice none 0 0] 29 (0, 0)) (kt BK411.out) NB411_0.out (by simp)); replace HK := Aside0.mk (KeepBut.trans (kp HK.out) hk (.inl rfl)); replace HB := Aside0.mk (hb); replace HI0 := Aside0.mk (hi); (try clear hb); (try clear hb2); (try clear hk); (try clear hi)))
 go_loopg [5] k (fun kq v5 w' => ∃ (x5_1 : Int) (x1001_1 : Int) (x1002_1 : Int) (x412000_1 : List (List Int)) (u412000 : Value), v5 = .int .i64 x5_1 ∧ Aside0 (spec_l2DrawRight.l0 kq (wrap64 (1 + t412)) x5_1 s0_0 x1001_1 x1002_1 x412000_1 = some (r1, r2, r3)) ∧ Aside0 (kq ≤ k) ∧ Aside0 (Kd.S (Kd.slice 3 (Kd.int .i64)) 30 w' w.heap.size (fun _ => True) u412000 x412000_1) ∧ Aside0 (w'.heap[gb410]? = some (.cells #[(.slice none 0 0)] 29 (0, 0))) ∧ Aside0 (w'.heap[gb411]? = some (.cells #[u412000] 29 (0, 0))) ∧ Aside0 (IsS107 w0 w' g s0_0 x1001_1 x1002_1) ∧ Aside0 (KeepBut w w' g none) ∧ Aside0 (Below w0.heap.size w0 w'))
 case atStart => exact ⟨(0), (t413), (t414), (([] : List (List Int))), (.slice none 0 0), (by first | rfl | (simp; done) | (simp [*]; done)), H', ⟨Nat.le_refl _⟩, ⟨by first | exact Kd.S_nil _ _ _ _ _ | exact Kd.N_nil _ _ _ _ _ | exact Kd.V_nil _ _ _ _ _ | exact Kd.Q_nil _ _ _ _ _ | exact Kd.R_nil _ _ _ _ _⟩, ⟨kb BK410.out⟩, ⟨kb BK411.out⟩, ⟨si HI0.out⟩, ⟨kp HK.out⟩, ⟨bi HB.out⟩⟩
 case round =>
  clear H'
  (try clear p2); (try clear c5); (try clear c6); (try clear p6); (try clear hcz7_0); (try clear hfz7_0)
  obtain ⟨x5_1, x1001_1, x1002_1, x412000_1, u412000, rfl, HA, HK1, HO_412000, BK410, BK411, HI0, HK, HB⟩ := hrel
  cases gk with
  | zero => exact absurd HA.out (by simp [spec_l2DrawRight.l0])
  | succ k1 =>
   have H := HA.out
   clear HA
   simp only [spec_l2DrawRight.l0] at H
   by_cases c9 : x5_1 < (wrap64 (1 + t412))
   ·rw [if_pos c9] at H
    have c9b0 : decide (x5_1 < (wrap64 (1 + t412))) = true := decide_eq_true c9
    clear c9
    replace H := Option.bind_eq_some_iff.mp H
    obtain ⟨⟨t415, t418, t419⟩, A100, H⟩ := H
    replace H : (if x412000_1.length < 5864062014805 then (spec_l2DrawRight.l0 k1 (wrap64 (1 + t412)) (wrap64 (x5_1 + 1)) s0_0 t418 t419 (x412000_1 ++ [t415])) else (none)) = some (r1, r2, r3) := H
    have A10 := Aside0.mk A100
    clear A100
    by_cases c11 : x412000_1.length < 5864062014805
    ·rw [if_pos c11] at H
     have LMc11 := Aside0.mk c11
     clear c11
     obtain ⟨y420, hy420⟩ : ∃ y_ : List (List Int), y_ = (x412000_1 ++ [t415]) := ⟨_, rfl⟩
     replace H : (spec_l2DrawRight.l0 k1 (wrap64 (1 + t412)) (wrap64 (x5_1 + 1)) s0_0 t418 t419 y420) = some (r1, r2, r3) := by first | (rw [hy420]; with_reducible exact H) | (have H2_ := (Option.bind_some _ _).symm.trans H; rw [hy420]; with_reducible exact H2_) | (have H2_ := (Option.bind_some _ _).symm.trans H; with_reducible exact H2_) | with_reducible exact H | (rw [hy420]; exact H) | exact H
     have Ny420 := Aside0.mk hy420
     clear hy420
     have H' := Aside0.mk H
     clear H
     try go_wp2
     replace HO_412000 := Aside0.mk (Kd.S_drew HO_412000.out)
     replace BK410 := Aside0.mk (blk_drew BK410.out)
     replace BK411 := Aside0.mk (blk_drew BK411.out)
     replace HI0 := Aside0.mk (IsS107.drew HI0.out)
     replace HK := Aside0.mk (keep_drew HK.out)
     replace HB := Aside0.mk (below_drew1 HB.out)
     refine start_ (n := 8) (S := fun w' => w'.cell? ⟨gb411, 0, none⟩ = some (u412000)) (ds := [7]) (bm 8 0) (by kernel_rfl) rfl (by kernel_rfl) (cl BK411 0) (fun hHeld => ?_); refine with_tabW spec_l2DrawRight.tab6 spec_l2DrawRight.bits6 (fun HT_ HW_ => ?_)
     generalize wr.drew = w12 at HO_412000 BK410 BK411 HI0 HK HB hHeld ⊢
     refine pw_ 0 (some 18) (bm 8 1) HT_ ?_
     refine pw_ 2 (some 20) (bm 8 5) HT_ ?_
     refine tw_ 1 (some 19) (bm 8 7) HT_ HW_ hHeld ?_
     refine ow_ 3 (some 21) (bm 8 15) HT_ (fun K hK => ?_)
     refine gw_ Try.func105 #[.pointer (some ⟨g, 0, none⟩)] ?_
     with_reducible refine (spec_l2DrawBank.calls k1 g s0_0 x1001_1 x1002_1 t415 t418 t419 w0 _ ?side1 ?side2 A10.out).mono ?_
     (case side1 => exact si HI0.out)
     (case side2 => exact bi HB.out)
     rintro e w13 ⟨v416, rfl, ho0, hi, hb, hk⟩
     refine ⟨_, rfl, ?_⟩
     replace HO_412000 := Aside0.mk (Kd.S_mono (Kd.S_told (Kd.S_oldK (IsS107.apartS (show IsS107 w0 _ g s0_0 x1001_1 x1002_1 from si HI0.out) (ks HO_412000.out) (by decide)) hk) (Kd.R_base ho0)) (fun _ h_ => h_.1))
     replace BK410 := Aside0.mk (kB hk (kb BK410.out) NB410_0)
     replace BK411 := Aside0.mk (kB hk (kb BK411.out) NB411_0)
     have HO417 := Aside0.mk (Kd.R_lower ho0 (keep_size (w := w) (g := g) (row := none) (kp HK.out)))
     replace HK := Aside0.mk (KeepBut.trans (kp HK.out) hk (.inl rfl))
     replace HB := Aside0.mk (hb)
     replace HI0 := Aside0.mk (hi)
     (try clear hb); (try clear hb2); (try clear hk); (try clear hi); (try clear ho0)
     obtain ⟨Ao15, co15, eo15⟩ := Kd.R_slice HO417.out
     (first | subst eo15 | (injection eo15 with f1_ f2_ f3_; have f4_ := f1_.symm; have f5_ := f3_.symm; clear f1_ f2_ f3_; subst f4_; subst f5_))
     refine hK.out _ _ (cl BK411 0) (fun hHeld => ?_)
     clear hK K
     refine nw_ 21 ?_
     refine ow_ 4 (some 22) (bm 8 31) HT_ (fun K hK => ?_)
     refine value_ (w1 := ?_) (v := ?_) (by rfl) rfl ?_ ?_
     rotate_left 2
     ·go_simp
      constructor
      ·rfl
      ·rfl
     refine hK.out _ _ ((blk_cell (blk_alloc BK411.out _) 0).trans rfl) (fun hHeld => ?_)
     clear hK K
     refine nw_ 22 ?_
     refine ow_ 5 (some 23) (bm 8 63) HT_ (fun K hK => ?_)
     refine Kd.S_append_step (Kd.slice 3 (Kd.int .i64)) w.heap.size (by rfl) (.tmp 19) (.tmp 22) 27 30 (.slice none 0 0) 24 rfl Try.underlying27 info30 rfl (by decide) (by omega) u412000 x412000_1 t415 [.slice Ao15 t415.length co15] (fun _ => True) (fun k_ => some k_ = (.slice Ao15 t415.length co15 : Value).ownBlock) rfl rfl ?aP (fun k_ hk_ => ((Kd.R_mono (ok' := fun k_ => ((fun _ => True)) k_ ∧ some k_ ≠ (u412000 : Value).ownBlock) (Kd.R_apart' (HO417.out) (Kd.S_typed HO_412000.out) (by decide)) (fun k_ hk => ⟨trivial, hk.2⟩))).1 k_ hk_.symm) ?aF ?aO (Below.refl _ _) ?aS ?aL ?_
     (case aP => exact Kd.M_row (Kd.R_mono (Kd.R_tight rfl (Kd.R_mono (ok' := fun k_ => ((fun _ => True)) k_ ∧ some k_ ≠ (u412000 : Value).ownBlock) (Kd.R_apart' (HO417.out) (Kd.S_typed HO_412000.out) (by decide)) (fun k_ hk => ⟨trivial, hk.2⟩))) (fun _ h_ => h_)))
     (case aF => exact (fun _ _ => trivial))
     (case aO => exact (ks (Kd.S_mono HO_412000.out (fun k_ hk => ⟨trivial, fun e_ => hk.2 e_⟩))))
     (case aS => exact (keep_size (w := w) (g := g) (row := none) (kp HK.out)))
     (case aL => have := LMc11.out; omega)
     intro v421 w14 ho hb hg hat
     rw [← Ny420.out] at ho
     have n0_ := Aside0.mk (blk_grown (g := gb410) (o := .cells #[.slice none 0 0] 29 (0, 0)) (kb BK410.out) hg (Kd.S_ne HO_412000.out BK410.out (by decide)))
     have n1_ := Aside0.mk (blk_grown (g := gb411) (o := .cells #[u412000] 29 (0, 0)) (kb BK411.out) hg (Kd.S_ne HO_412000.out BK411.out (by decide)))
     have n2_ := Aside0.mk (IsS107.grown (si HI0.out) hg (IsS107.own_neS HI0.out HO_412000.out (by decide)))
     have n3_ := Aside0.mk (below_weaken (bi HB.out) HL.out hb)
     have n4_ := Aside0.mk (KeepBut.trans (kp HK.out) (KeepBut.of_grown hg g) (Kd.S_base2 HO_412000.out))
     have n5_ := Aside0.mk (ho)
     clear BK410; clear BK411; clear HI0; clear HB; clear HK; clear HO_412000; clear HO417; have BK410 := n0_; have BK411 := n1_; have HI0 := n2_; have HB := n3_; have HK := n4_; have HO422 := n5_; clear n0_ n1_ n2_ n3_ n4_ n5_; clear ho hb hg hat
     obtain ⟨Ao16, co16, eo16⟩ := Kd.S_slice HO422.out
     (first | subst eo16 | (injection eo16 with f1_ f2_ f3_; have f4_ := f1_.symm; have f5_ := f3_.symm; clear f1_ f2_ f3_; subst f4_; subst f5_))
     refine hK.out _ _ (cl BK411 0) (fun hHeld => ?_)
     clear hK K
     refine nw_ 23 ?_
     refine pw_ 6 (some 24) (bm 8 127) HT_ ?_
     refine last_ (i := 7) (N := none) #[true, true, true, true, true, true, true, true] rfl rfl (one_of HT_.out (by kernel_rfl)) (by decide) (fun K hK => ?_)
     have hs17 : w14.cell? ⟨gb411, 0, none⟩ = some (u412000) := cl BK411 0
     have hfs17 := blk_frozen BK411.out 0
     have hns17_0 := NB410_411.out
     have hms17_0 := NB411_410.out
     refine skip_ (w1 := ?_) (by rfl) rfl ?_ ?_
     rotate_left
     ·go_simp
      rfl
     refine hK.out _ _ ?_
     clear hK K
     refine done_ (done_of HT_.out (by kernel_rfl)) ?_
     try go_wp2
     go_roundg k1
     case measure => have := HK1.out; omega
     case rel => exact ⟨(wrap64 (x5_1 + 1)), (t418), (t419), (y420), (.slice Ao16 y420.length co16), (by first | rfl | (simp; done) | (simp [*]; done)), H', ⟨by have := HK1.out; omega⟩, ⟨ks (Kd.S_mono (Kd.S_far (p := ⟨gb411, 0, none⟩) (Kd.S_types HO422.out BK411.out (by decide)) (fun _ hk => hk.2) (.slice Ao16 y420.length co16)) (fun _ hk => trivial))⟩, ⟨kf BK410.out⟩, ⟨kt BK411.out⟩, ⟨si HI0.out⟩, ⟨kp HK.out⟩, ⟨bi HB.out⟩⟩
    ·rw [if_neg c11] at H
     exact absurd H (by simp)
   ·rw [if_neg c9] at H
    have c9b0 : decide (x5_1 < (wrap64 (1 + t412))) = false := decide_eq_false c9
    clear c9
    replace H := Option.bind_eq_some_iff.mp H
    obtain ⟨⟨t423, t424, t425⟩, A180, H⟩ := H
    replace H : (if t423 = true then (if 0 ≤ (wrap64 ((wrap64 (1 + t412)) - 1)) then (if (wrap64 ((wrap64 (1 + t412)) - 1)) < (x412000_1.length : Int) then (if (rd_L2 x412000_1 (wrap64 ((wrap64 (1 + t412)) - 1))).length = 256 then (some (lastSix x412000_1 (wrap64 ((wrap64 (1 + t412)) - 1)), t424, t425)) else (none)) else (none)) else (none)) else ((spec_l2Main.f s0_0 t424 t425).bind fun bt427 => ((spec_Assemble.f k1 bt427.1).bind fun bt430 => (if (bt430.1.length : Int) = 256 then (if 0 ≤ (wrap64 ((wrap64 (1 + t412)) - 1)) then (if (wrap64 ((wrap64 (1 + t412)) - 1)) < (x412000_1.length : Int) then (if (rd_L2 (x412000_1.set ((wrap64 ((wrap64 (1 + t412)) - 1)) : Int).toNat bt430.1) (wrap64 ((wrap64 (1 + t412)) - 1))).length = 256 then (some (lastSix (x412000_1.set ((wrap64 ((wrap64 (1 + t412)) - 1)) : Int).toNat bt430.1) (wrap64 ((wrap64 (1 + t412)) - 1)), bt427.2.1, bt427.2.2)) else (none)) else (none)) else (none)) else (if 0 ≤ (wrap64 ((wrap64 (1 + t412)) - 1)) then (if (wrap64 ((wrap64 (1 + t412)) - 1)) < (x412000_1.length : Int) then (if (rd_L2 x412000_1 (wrap64 ((wrap64 (1 + t412)) - 1))).length = 256 then (some (lastSix x412000_1 (wrap64 ((wrap64 (1 + t412)) - 1)), bt427.2.1, bt427.2.2)) else (none)) else (none)) else (none)))))) = some (r1, r2, r3) := H
    have A18 := Aside0.mk A180
    clear A180
    by_cases c19 : t423 = true
    ·subst c19
     have H1 : (if 0 ≤ (wrap64 ((wrap64 (1 + t412)) - 1)) then (if (wrap64 ((wrap64 (1 + t412)) - 1)) < (x412000_1.length : Int) then (if (rd_L2 x412000_1 (wrap64 ((wrap64 (1 + t412)) - 1))).length = 256 then (some (lastSix x412000_1 (wrap64 ((wrap64 (1 + t412)) - 1)), t424, t425)) else (none)) else (none)) else (none)) = some (r1, r2, r3) := by rw [if_pos rfl] at H; exact H
     clear H
     have H := H1
     clear H1
     obtain ⟨ji20, hji20⟩ : ∃ j_ : Int, (wrap64 ((wrap64 (1 + t412)) - 1)) = j_ := ⟨_, rfl⟩
     replace H : (if 0 ≤ (ji20) then (if (ji20) < (x412000_1.length : Int) then (if (rd_L2 x412000_1 (ji20)).length = 256 then (some (lastSix x412000_1 (ji20), t424, t425)) else (none)) else (none)) else (none)) = some (r1, r2, r3) := by first | (rw [hji20] at H; exact H) | (simp only [hji20] at H ⊢; exact H)
     (try rw [hji20] at A18)
     have hji20w : (IntKind.i64.wrap ((wrap64 (1 + t412)) - 1)) = ji20 := (i64_w _).trans hji20
     by_cases c21 : 0 ≤ (ji20)
     ·rw [if_pos c21] at H
      have c21b0 : decide (0 ≤ (ji20)) = true := decide_eq_true c21
      clear c21
      by_cases c22 : (ji20) < (x412000_1.length : Int)
      ·rw [if_pos c22] at H
       have c22b0 : decide ((ji20) < (x412000_1.length : Int)) = true := decide_eq_true c22
       clear c22
       by_cases c256 : (rd_L2 x412000_1 (ji20)).length = 256
       rotate_left
       ·rw [if_neg c256] at H
        exact absurd H (by simp)
       rw [if_pos c256] at H
       have C256 := Aside0.mk c256
       clear c256
       simp only [Option.some.injEq, Prod.mk.injEq] at H
       obtain ⟨rfl, rfl, rfl⟩ := H
       go_upto_region 12 with (first | ((with_reducible refine gate_callee (f := 58) rfl ?_); refine goesM_ (some 26) rfl rfl Try.func58 #[.pointer (some ⟨g, 0, none⟩), .int .i64 4] ?_; (with_reducible refine (spec_l1Once.calls g s0_0 x1001_1 x1002_1 4 true t424 t425 w0 _ ?side1 ?side2 A18.out).mono ?_); (case side1 => exact si HI0.out); (case side2 => exact bi HB.out); rintro e w23 ⟨rfl, hi, hb, hk⟩; refine ⟨_, rfl, ?_⟩; replace HO_412000 := Aside0.mk (Kd.S_mono (Kd.S_keep (IsS107.apartS (show IsS107 w0 _ g s0_0 x1001_1 x1002_1 from si HI0.out) (ks HO_412000.out) (by decide)) hk (fun _ h => h.2)) (fun _ h => h.1)); replace BK410 := Aside0.mk (kB hk (kb BK410.out) NB410_0); replace BK411 := Aside0.mk (kB hk (kb BK411.out) NB411_0); replace HK := Aside0.mk (KeepBut.trans (kp HK.out) hk (.inl rfl)); replace HB := Aside0.mk (hb); replace HI0 := Aside0.mk (hi); (try clear hb); (try clear hb2); (try clear hk); (try clear hi); have hnb24 := NB411_410.out; have hnc24 := NB410_411.out; have hnb25 := NB411_0.out; have hnc25 := NB0_411.out; have hcz26_0 : w23.cell? ⟨gb411, 0, none⟩ = some (u412000) := cl BK411 0; have hfz26_0 := blk_frozen BK411.out 0; obtain ⟨Ao27, co27, eo27⟩ := Kd.S_slice HO_412000.out; subst eo27; have p426 : 0 ≤ ((ji20) : Int) := dt; have q426 : (ji20) < (x412000_1.length : Int) := dt; obtain ⟨ad426, A426_0, c426_0, e426, hx426_0, hl426_0, hi426_0⟩ := at_L2 (Kd.S_reads' HO_412000.out).2.2 (ji20) p426 q426; cases e426; obtain ⟨ce426, hce426, hMe426, hcc426⟩ := Kd.S_get HO_412000.out [] (ji20) p426 (by first | exact q426 | exact dt | (have e_ := (Kd.S_reads' HO_412000.out).1; omega)); obtain ⟨ve426_0, rfl, ge426_0⟩ := hMe426; have hv426_0 := hcc426 0 _ rfl; rw [Nat.add_zero, show ((Kd.slice 3 (Kd.int .i64))).sz = 1 from rfl, Nat.mul_one] at hv426_0; replace hv426_0 := Option.some.inj (hv426_0.symm.trans hx426_0); rw [hv426_0] at ge426_0; have HL426_0 := Aside0.mk (show Kd.R (Kd.int .i64) 3 _ _ _ _ (rd_L2 x412000_1 (ji20)) from ge426_0); clear hv426_0 ge426_0; clear hcc426 hce426; have HR426_0 := Aside0.mk hi426_0; have HC426_0 := Aside0.mk hl426_0; clear hi426_0 hl426_0; replace p426 := eq_true p426; replace q426 := eq_true q426; have hnb28 := NB410_0.out; have hnc28 := NB0_410.out; have hcz29_0 : w23.cell? ⟨gb410, 0, none⟩ = some (.slice none 0 0) := cl BK410 0; have hfz29_0 := blk_frozen BK410.out 0))
       have hji_ : (0 : Int) ≤ ji20 := of_decide_eq_true (by assumption)
       have hjl_ : ji20 < (x412000_1.length : Int) := by first | exact of_decide_eq_true (by assumption) | (rw [Ny0.out, List.length_set]; exact of_decide_eq_true (by assumption))
       obtain ⟨gl, eA_, hgl, ⟨clr, hbl⟩, hcl, hS6⟩ := six_ok HO_412000.out ji20 hji_ hjl_ (by first | exact hx426_0 | (rw [add_plain]; exact hx426_0)) C256.out
       subst eA_
       have GL := Aside0.mk hgl
       have HBL := Aside0.mk hbl
       have HS6 := Aside0.mk hS6
       have HLN := Aside0.mk C256.out
       have z0 := (hcl 250 (by omega)).1
       have z1 := (hcl 251 (by omega)).1
       have z2 := (hcl 252 (by omega)).1
       have z3 := (hcl 253 (by omega)).1
       have z4 := (hcl 254 (by omega)).1
       have z5 := (hcl 255 (by omega)).1
       have f0 := (hcl 250 (by omega)).2
       have f1 := (hcl 251 (by omega)).2
       have f2 := (hcl 252 (by omega)).2
       have f3 := (hcl 253 (by omega)).2
       have f4 := (hcl 254 (by omega)).2
       have f5 := (hcl 255 (by omega)).2
       have b0 : ((250 : Int) < ((rd_L2 x412000_1 ji20).length : Int)) = True := eq_true (by have := C256.out; omega)
       have b1 : ((251 : Int) < ((rd_L2 x412000_1 ji20).length : Int)) = True := eq_true (by have := C256.out; omega)
       have b2 : ((252 : Int) < ((rd_L2 x412000_1 ji20).length : Int)) = True := eq_true (by have := C256.out; omega)
       have b3 : ((253 : Int) < ((rd_L2 x412000_1 ji20).length : Int)) = True := eq_true (by have := C256.out; omega)
       have b4 : ((254 : Int) < ((rd_L2 x412000_1 ji20).length : Int)) = True := eq_true (by have := C256.out; omega)
       have b5 : ((255 : Int) < ((rd_L2 x412000_1 ji20).length : Int)) = True := eq_true (by have := C256.out; omega)
       have n1 : gl ≠ gb410 := blk_ne hbl BK410.out (by decide)
       have n2 : gb410 ≠ gl := fun e => n1 e.symm
       have n3 : gl ≠ gb411 := blk_ne hbl BK411.out (by decide)
       have n4 : gb411 ≠ gl := fun e => n3 e.symm
       clear hcl hbl hgl hS6 hji_ hjl_
       go_wp2
       refine bodyPost_ret (results_cell_row rfl _ _ gb410 29 #[.slice (some ad426) x412000_1.length co27] (0, 0) _ rfl (blk_put (cs := #[.slice none 0 0]) (six_blk BK410.out n2) 0 _ rfl) Try.underlying29 rfl (by kernel_rfl)) rfl ?_
       exact ⟨_, rfl, Kd.S_mono (Kd.S_far (p := ⟨gb410, 0, none⟩) (Kd.S_types HS6.out (six_blk BK410.out n2) (by decide)) (fun _ hk => hk.2) (.slice (some ad426) x412000_1.length co27)) (fun _ hk => trivial), (six_state HI0.out (IsS107.ne_blk HI0.out HBL.out (by decide))).far (p := ⟨gb410, 0, none⟩) NB0_410.out _, below_set (six_below HB.out (Nat.le_trans HW0.out GL.out)) GE410.out, keep_far (p := ⟨gb410, 0, none⟩) (six_keep HK.out GL.out) GW410.out _⟩
      ·rw [if_neg c22] at H
       exact absurd H (by simp)
     ·rw [if_neg c21] at H
      exact absurd H (by simp)
    ·replace c19 := Bool.eq_false_iff.mpr c19
     subst c19
     have H1 : ((spec_l2Main.f s0_0 t424 t425).bind fun bt427 => ((spec_Assemble.f k1 bt427.1).bind fun bt430 => (if (bt430.1.length : Int) = 256 then (if 0 ≤ (wrap64 ((wrap64 (1 + t412)) - 1)) then (if (wrap64 ((wrap64 (1 + t412)) - 1)) < (x412000_1.length : Int) then (if (rd_L2 (x412000_1.set ((wrap64 ((wrap64 (1 + t412)) - 1)) : Int).toNat bt430.1) (wrap64 ((wrap64 (1 + t412)) - 1))).length = 256 then (some (lastSix (x412000_1.set ((wrap64 ((wrap64 (1 + t412)) - 1)) : Int).toNat bt430.1) (wrap64 ((wrap64 (1 + t412)) - 1)), bt427.2.1, bt427.2.2)) else (none)) else (none)) else (none)) else (if 0 ≤ (wrap64 ((wrap64 (1 + t412)) - 1)) then (if (wrap64 ((wrap64 (1 + t412)) - 1)) < (x412000_1.length : Int) then (if (rd_L2 x412000_1 (wrap64 ((wrap64 (1 + t412)) - 1))).length = 256 then (some (lastSix x412000_1 (wrap64 ((wrap64 (1 + t412)) - 1)), bt427.2.1, bt427.2.2)) else (none)) else (none)) else (none))))) = some (r1, r2, r3) := by rw [if_neg (show ¬ (false = true) by decide)] at H; exact H
     clear H
     have H := H1
     clear H1
     replace H := Option.bind_eq_some_iff.mp H
     obtain ⟨⟨t427, t428, t429⟩, A300, H⟩ := H
     replace H : ((spec_Assemble.f k1 t427).bind fun bt430 => (if (bt430.1.length : Int) = 256 then (if 0 ≤ (wrap64 ((wrap64 (1 + t412)) - 1)) then (if (wrap64 ((wrap64 (1 + t412)) - 1)) < (x412000_1.length : Int) then (if (rd_L2 (x412000_1.set ((wrap64 ((wrap64 (1 + t412)) - 1)) : Int).toNat bt430.1) (wrap64 ((wrap64 (1 + t412)) - 1))).length = 256 then (some (lastSix (x412000_1.set ((wrap64 ((wrap64 (1 + t412)) - 1)) : Int).toNat bt430.1) (wrap64 ((wrap64 (1 + t412)) - 1)), t428, t429)) else (none)) else (none)) else (none)) else (if 0 ≤ (wrap64 ((wrap64 (1 + t412)) - 1)) then (if (wrap64 ((wrap64 (1 + t412)) - 1)) < (x412000_1.length : Int) then (if (rd_L2 x412000_1 (wrap64 ((wrap64 (1 + t412)) - 1))).length = 256 then (some (lastSix x412000_1 (wrap64 ((wrap64 (1 + t412)) - 1)), t428, t429)) else (none)) else (none)) else (none)))) = some (r1, r2, r3) := H
     have A30 := Aside0.mk A300
     clear A300
     replace H := Option.bind_eq_some_iff.mp H
     obtain ⟨⟨t430, t431⟩, A310, H⟩ := H
     replace H : (if (t430.length : Int) = 256 then (if 0 ≤ (wrap64 ((wrap64 (1 + t412)) - 1)) then (if (wrap64 ((wrap64 (1 + t412)) - 1)) < (x412000_1.length : Int) then (if (rd_L2 (x412000_1.set ((wrap64 ((wrap64 (1 + t412)) - 1)) : Int).toNat t430) (wrap64 ((wrap64 (1 + t412)) - 1))).length = 256 then (some (lastSix (x412000_1.set ((wrap64 ((wrap64 (1 + t412)) - 1)) : Int).toNat t430) (wrap64 ((wrap64 (1 + t412)) - 1)), t428, t429)) else (none)) else (none)) else (none)) else (if 0 ≤ (wrap64 ((wrap64 (1 + t412)) - 1)) then (if (wrap64 ((wrap64 (1 + t412)) - 1)) < (x412000_1.length : Int) then (if (rd_L2 x412000_1 (wrap64 ((wrap64 (1 + t412)) - 1))).length = 256 then (some (lastSix x412000_1 (wrap64 ((wrap64 (1 + t412)) - 1)), t428, t429)) else (none)) else (none)) else (none))) = some (r1, r2, r3) := H
     have A31 := Aside0.mk A310
     clear A310
     by_cases c32 : (t430.length : Int) = 256
     ·rw [if_pos c32] at H
      have c32b0 : ((t430.length : Int) == 256) = true := beq_iff_eq.mpr c32
      have c32b1 : ((t430.length : Int) != 256) = false := bne_eq_false_iff_eq.mpr c32
      clear c32
      obtain ⟨ji33, hji33⟩ : ∃ j_ : Int, (wrap64 ((wrap64 (1 + t412)) - 1)) = j_ := ⟨_, rfl⟩
      replace H : (if 0 ≤ (ji33) then (if (ji33) < (x412000_1.length : Int) then (if (rd_L2 (x412000_1.set ((ji33) : Int).toNat t430) (ji33)).length = 256 then (some (lastSix (x412000_1.set ((ji33) : Int).toNat t430) (ji33), t428, t429)) else (none)) else (none)) else (none)) = some (r1, r2, r3) := by first | (rw [hji33] at H; exact H) | (simp only [hji33] at H ⊢; exact H)
      (try rw [hji33] at A18)
      (try rw [hji33] at A30)
      (try rw [hji33] at A31)
      have hji33w : (IntKind.i64.wrap ((wrap64 (1 + t412)) - 1)) = ji33 := (i64_w _).trans hji33
      by_cases c34 : 0 ≤ (ji33)
      ·rw [if_pos c34] at H
       have c34b0 : decide (0 ≤ (ji33)) = true := decide_eq_true c34
       clear c34
       by_cases c35 : (ji33) < (x412000_1.length : Int)
       ·rw [if_pos c35] at H
        have c35b0 : decide ((ji33) < (x412000_1.length : Int)) = true := decide_eq_true c35
        clear c35
        obtain ⟨y434, hy434⟩ : ∃ y_ : List (List Int), y_ = (x412000_1.set ((ji33) : Int).toNat t430) := ⟨_, rfl⟩
        replace H : (if (rd_L2 y434 (ji33)).length = 256 then (some (lastSix y434 (ji33), t428, t429)) else (none)) = some (r1, r2, r3) := by first | (rw [hy434]; with_reducible exact H) | (have H2_ := (Option.bind_some _ _).symm.trans H; rw [hy434]; with_reducible exact H2_) | (have H2_ := (Option.bind_some _ _).symm.trans H; with_reducible exact H2_) | with_reducible exact H | (rw [hy434]; exact H) | exact H
        have Ny434 := Aside0.mk hy434
        clear hy434
        by_cases c256 : (rd_L2 y434 (ji33)).length = 256
        rotate_left
        ·rw [if_neg c256] at H
         exact absurd H (by simp)
        rw [if_pos c256] at H
        have C256 := Aside0.mk c256
        clear c256
        simp only [Option.some.injEq, Prod.mk.injEq] at H
        obtain ⟨rfl, rfl, rfl⟩ := H
        go_upto_region 12 with (first | ((with_reducible refine gate_callee (f := 58) rfl ?_); refine goesM_ (some 26) rfl rfl Try.func58 #[.pointer (some ⟨g, 0, none⟩), .int .i64 4] ?_; (with_reducible refine (spec_l1Once.calls g s0_0 x1001_1 x1002_1 4 false t424 t425 w0 _ ?side1 ?side2 A18.out).mono ?_); (case side1 => exact si HI0.out); (case side2 => exact bi HB.out); rintro e w37 ⟨rfl, hi, hb, hk⟩; refine ⟨_, rfl, ?_⟩; replace HO_412000 := Aside0.mk (Kd.S_mono (Kd.S_keep (IsS107.apartS (show IsS107 w0 _ g s0_0 x1001_1 x1002_1 from si HI0.out) (ks HO_412000.out) (by decide)) hk (fun _ h => h.2)) (fun _ h => h.1)); replace BK410 := Aside0.mk (kB hk (kb BK410.out) NB410_0); replace BK411 := Aside0.mk (kB hk (kb BK411.out) NB411_0); replace HK := Aside0.mk (KeepBut.trans (kp HK.out) hk (.inl rfl)); replace HB := Aside0.mk (hb); replace HI0 := Aside0.mk (hi); (try clear hb); (try clear hb2); (try clear hk); (try clear hi)) | ((with_reducible refine gate_callee (f := 107) rfl ?_); refine goesM_ (some 30) rfl rfl Try.func107 #[.pointer (some ⟨g, 0, none⟩)] ?_; (with_reducible refine (spec_l2Main.calls g s0_0 t424 t425 t427 t428 t429 w0 _ ?side1 ?side2 A30.out).mono ?_); (case side1 => exact si HI0.out); (case side2 => exact bi HB.out); rintro e w38 ⟨rfl, hi, hb, hk⟩; refine ⟨_, rfl, ?_⟩; replace HO_412000 := Aside0.mk (Kd.S_mono (Kd.S_keep (IsS107.apartS (show IsS107 w0 _ g s0_0 t424 t425 from si HI0.out) (ks HO_412000.out) (by decide)) hk (fun _ h => h.2)) (fun _ h => h.1)); replace BK410 := Aside0.mk (kB hk (kb BK410.out) NB410_0); replace BK411 := Aside0.mk (kB hk (kb BK411.out) NB411_0); replace HK := Aside0.mk (KeepBut.trans (kp HK.out) hk (.inl rfl)); replace HB := Aside0.mk (hb); replace HI0 := Aside0.mk (hi); (try clear hb); (try clear hb2); (try clear hk); (try clear hi)) | ((with_reducible refine gate_callee (f := 106) rfl ?_); refine goesM_ (some 31) rfl rfl Try.func106 #[.string t427] ?_; (with_reducible refine (spec_Assemble.calls k1 t427 t430 t431 _ A31.out).mono ?_); rintro e w39 ⟨v432, rfl, ho0, hb⟩; refine ⟨_, rfl, ?_⟩; replace HO_412000 := Aside0.mk (Kd.S_elder' (ks HO_412000.out) (Kd.R_base ho0) hb); have HO433 := Aside0.mk (Kd.R_lower ho0 (keep_size (w := w) (g := g) (row := none) (kp HK.out))); replace BK410 := Aside0.mk (bb BK410 hb); replace BK411 := Aside0.mk (bb BK411 hb); replace HI0 := Aside0.mk (IsS107.below (si HI0.out) hb); replace HK := Aside0.mk (KeepBut.trans (kp HK.out) (KeepBut.of_below hb g none) (.inl rfl)); replace HB := Aside0.mk (below_step (bi HB.out) hb); (try clear hb); (try clear hb2); (try clear hk); (try clear hi); (try clear ho0); obtain ⟨Ao40, co40, eo40⟩ := Kd.R_slice HO433.out; subst eo40; have hnb41 := NB411_410.out; have hnc41 := NB410_411.out; have hnb42 := NB411_0.out; have hnc42 := NB0_411.out; have hcz43_0 : w39.cell? ⟨gb411, 0, none⟩ = some (u412000) := cl BK411 0; have hfz43_0 := blk_frozen BK411.out 0; have p36 : 0 ≤ ((ji33) : Int) := dt; have q36 : ((ji33) : Int) < ((x412000_1.length : Int) : Int) := dt; obtain ⟨go36, co36, eo36, gb36, gl36, cl36, HG36⟩ := Kd.S_form HO_412000.out (by omega); (first | cases eo36 | (injection eo36 with ea_ en_ ec_; (first | subst ea_ | (injection ea_ with ea_; subst ea_)); subst ec_; clear en_)); have GB36 := Aside0.mk gb36; have GG36 := Aside0.mk HG36; clear gb36 gl36 HG36; obtain ⟨_, ce36, hcl36, hM36, hcc36, hfr36, _, _⟩ := Kd.S_elem HO_412000.out [] ((ji33) : Int) p36 q36; obtain ⟨ve36_0, rfl, ge36_0⟩ := hM36; have hx36_0 := hcc36 0 _ rfl; have hf36_0 := hfr36 0; (try simp only [show ((Kd.slice 3 (Kd.int .i64))).sz = 1 from rfl, Nat.mul_one, Nat.add_zero] at hx36_0); (try simp only [show ((Kd.slice 3 (Kd.int .i64))).sz = 1 from rfl, Nat.mul_one, Nat.add_zero] at hf36_0); (try clear hM36); clear hcl36 hcc36 hfr36; replace p36 := eq_true p36; replace q36 := eq_true q36; have n_ := Aside0.mk (Kd.S_mono (ok' := (fun k_ => some k_ ≠ (.slice Ao40 t430.length co40 : Value).ownBlock)) HO_412000.out (fun k_ hk => hk.2)); clear HO_412000; have HO_412000 := n_; clear n_; have HX44 := Aside0.mk (show Kd.S (Kd.slice 3 (Kd.int .i64)) 30 w39 w.heap.size (fun k_ => ((fun _ => True)) k_ ∧ ¬ ((fun k_ => some k_ = (.slice Ao40 t430.length co40 : Value).ownBlock)) k_) (.slice (some ⟨go36, 0, none⟩) x412000_1.length co36) x412000_1 from (ks (Kd.S_mono HO_412000.out (fun k_ hk => ⟨trivial, fun e_ => hk e_⟩)))); obtain ⟨oki44, ce44, hcl44, hM44, hcc44, hfr44, hoki44, hH44⟩ := Kd.S_elem HX44.out [] ((ji33) : Int) dt (by have h_ : ((ji33) : Int) < ((x412000_1.length : Int) : Int) := dt; first | exact h_ | (have e_ := (Kd.S_reads' HO_412000.out).1; omega) | simpa using h_); obtain ⟨ve44_0, rfl, ge44_0⟩ := hM44; have HP44 := Kd.S_seg hH44 dt (by have h_ : ((ji33) : Int) < ((x412000_1.length : Int) : Int) := dt; first | exact h_ | (have e_ := (Kd.S_reads' HO_412000.out).1; omega) | simpa using h_) (seg := [.slice Ao40 t430.length co40]) (j := 0) (show 1 ≤ 1 from by decide) (x' := t430) (Kd.M_row (Kd.R_mono (Kd.R_tight rfl (Kd.R_mono (ok' := fun k_ => ((fun _ => True)) k_ ∧ k_ ≠ go36) (Kd.R_apart' (HO433.out) (Kd.S_typed HO_412000.out) (by decide)) (fun k_ hk => ⟨trivial, fun e_ => (hk.2) (by rw [e_]; rfl)⟩))) (fun _ h_ => Or.inr (h_)))) (fun _ hk => hk) (fun k_ hk_ => ((Kd.R_mono (ok' := fun k_ => ((fun _ => True)) k_ ∧ k_ ≠ go36) (Kd.R_apart' (HO433.out) (Kd.S_typed HO_412000.out) (by decide)) (fun k_ hk => ⟨trivial, fun e_ => (hk.2) (by rw [e_]; rfl)⟩))).1 k_ hk_.symm); have hx44_0 := hcc44 0 _ rfl; (try simp only [show ((Kd.slice 3 (Kd.int .i64))).sz = 1 from rfl, Nat.mul_one, Nat.add_zero] at hx44_0); have hf44_0 := hfr44 0; (try simp only [show ((Kd.slice 3 (Kd.int .i64))).sz = 1 from rfl, Nat.mul_one, Nat.add_zero] at hf44_0); (try clear hM44); clear hcl44 hcc44 hfr44 hoki44 hH44; (try simp only [show ((Kd.slice 3 (Kd.int .i64))).sz = 1 from rfl, Nat.mul_one, Nat.add_zero] at HP44)) | ((with_reducible refine gate_store (t := 30) (p := 42) rfl ?_); refine store_event (t := 30) (p := 42) (v := ?vo_w45) (w1 := (w39.setCell ⟨go36, ((ji33) : Int).toNat, none⟩ (.slice Ao40 t430.length co40))) ?hg ?ho ?hn ?hr ?_; (case ho => rfl); (case hg => rfl); (case hn => rfl); (case hr => first | (go_simp; done) | (go_simp; rfl)); intro w45 hw; have hg : w39.grownBy w45 (some go36) := (by rw [hw]; exact HP44.2); have hp_ : Kd.S (Kd.slice 3 (Kd.int .i64)) 30 w45 w.heap.size (fun _ => True) (.slice (some ⟨go36, 0, none⟩) x412000_1.length co36) y434 := (by rw [hw, Ny434.out]; exact HP44.1); clear HP44; have n0_ := Aside0.mk (hp_); have n1_ := Aside0.mk (blk_grown (g := gb410) (o := .cells #[.slice none 0 0] 29 (0, 0)) (kb BK410.out) hg (Kd.S_ne HO_412000.out BK410.out (by decide))); have n2_ := Aside0.mk (blk_grown (g := gb411) (o := .cells #[.slice (some ⟨go36, 0, none⟩) x412000_1.length co36] 29 (0, 0)) (kb BK411.out) hg (Kd.S_ne HO_412000.out BK411.out (by decide))); have n3_ := Aside0.mk (IsS107.grown (si HI0.out) hg (IsS107.own_neS HI0.out HO_412000.out (by decide))); have n4_ := Aside0.mk ((by rw [hw]; exact below_set (HB.out) (Nat.le_trans HL.out GB36.out) : Below w0.heap.size w0 w45)); have n5_ := Aside0.mk (KeepBut.trans (kp HK.out) (KeepBut.of_grown hg g) (Kd.S_base2 HO_412000.out)); clear HO_412000; clear BK410; clear BK411; clear HI0; clear HB; clear HK; clear HO433; have HO_412000 := n0_; have BK410 := n1_; have BK411 := n2_; have HI0 := n3_; have HB := n4_; have HK := n5_; clear n0_ n1_ n2_ n3_ n4_ n5_; clear hg hw hp_; have hcz46_0 : w45.cell? ⟨gb411, 0, none⟩ = some (.slice (some ⟨go36, 0, none⟩) x412000_1.length co36) := cl BK411 0; have hfz46_0 := blk_frozen BK411.out 0; have p435 : 0 ≤ ((ji33) : Int) := dt; have q435 : (ji33) < (y434.length : Int) := (by have h_ : ((ji33) : Int) < ((x412000_1.length : Int) : Int) := dt; first | (have e_ := (Kd.S_reads' HO_412000.out).1; omega) | simpa only [Ny434.out, List.length_set] using h_); have ql435 : (((ji33) : Int) < ((x412000_1.length : Int) : Int)) = True := eq_true dt; obtain ⟨ad435, A435_0, c435_0, e435, hx435_0, hl435_0, hi435_0⟩ := at_L2 (Kd.S_reads' HO_412000.out).2.2 (ji33) p435 q435; obtain rfl : (⟨go36, 0, none⟩ : Addr) = ad435 := (by injection e435); obtain ⟨ce435, hce435, hMe435, hcc435⟩ := Kd.S_get HO_412000.out [] (ji33) p435 (by first | exact q435 | exact dt | (have e_ := (Kd.S_reads' HO_412000.out).1; omega)); obtain ⟨ve435_0, rfl, ge435_0⟩ := hMe435; have hv435_0 := hcc435 0 _ rfl; rw [Nat.add_zero, show ((Kd.slice 3 (Kd.int .i64))).sz = 1 from rfl, Nat.mul_one] at hv435_0; replace hv435_0 := Option.some.inj (hv435_0.symm.trans hx435_0); rw [hv435_0] at ge435_0; have HL435_0 := Aside0.mk (show Kd.R (Kd.int .i64) 3 _ _ _ _ (rd_L2 y434 (ji33)) from ge435_0); clear hv435_0 ge435_0; clear hcc435 hce435; (first | simp only [add_plain] at hx435_0 | simp only [add_at] at hx435_0 | simp only [Addr.add, Nat.zero_add] at hx435_0 | skip); have HR435_0 := Aside0.mk hi435_0; have HC435_0 := Aside0.mk hl435_0; clear hi435_0 hl435_0; replace p435 := eq_true p435; replace q435 := eq_true q435; have hnb47 := NB410_0.out; have hnc47 := NB0_410.out; have hcz48_0 : w45.cell? ⟨gb410, 0, none⟩ = some (.slice none 0 0) := cl BK410 0; have hfz48_0 := blk_frozen BK410.out 0))
        have hji_ : (0 : Int) ≤ ji33 := of_decide_eq_true (by assumption)
        have hjl_ : ji33 < (y434.length : Int) := by first | exact of_decide_eq_true (by assumption) | (rw [Ny434.out, List.length_set]; exact of_decide_eq_true (by assumption))
        obtain ⟨gl, eA_, hgl, ⟨clr, hbl⟩, hcl, hS6⟩ := six_ok HO_412000.out ji33 hji_ hjl_ (by first | exact hx435_0 | (rw [add_plain]; exact hx435_0)) C256.out
        subst eA_
        have GL := Aside0.mk hgl
        have HBL := Aside0.mk hbl
        have HS6 := Aside0.mk hS6
        have HLN := Aside0.mk C256.out
        have z0 := (hcl 250 (by omega)).1
        have z1 := (hcl 251 (by omega)).1
        have z2 := (hcl 252 (by omega)).1
        have z3 := (hcl 253 (by omega)).1
        have z4 := (hcl 254 (by omega)).1
        have z5 := (hcl 255 (by omega)).1
        have f0 := (hcl 250 (by omega)).2
        have f1 := (hcl 251 (by omega)).2
        have f2 := (hcl 252 (by omega)).2
        have f3 := (hcl 253 (by omega)).2
        have f4 := (hcl 254 (by omega)).2
        have f5 := (hcl 255 (by omega)).2
        have b0 : ((250 : Int) < ((rd_L2 y434 ji33).length : Int)) = True := eq_true (by have := C256.out; omega)
        have b1 : ((251 : Int) < ((rd_L2 y434 ji33).length : Int)) = True := eq_true (by have := C256.out; omega)
        have b2 : ((252 : Int) < ((rd_L2 y434 ji33).length : Int)) = True := eq_true (by have := C256.out; omega)
        have b3 : ((253 : Int) < ((rd_L2 y434 ji33).length : Int)) = True := eq_true (by have := C256.out; omega)
        have b4 : ((254 : Int) < ((rd_L2 y434 ji33).length : Int)) = True := eq_true (by have := C256.out; omega)
        have b5 : ((255 : Int) < ((rd_L2 y434 ji33).length : Int)) = True := eq_true (by have := C256.out; omega)
        have n1 : gl ≠ gb410 := blk_ne hbl BK410.out (by decide)
        have n2 : gb410 ≠ gl := fun e => n1 e.symm
        have n3 : gl ≠ gb411 := blk_ne hbl BK411.out (by decide)
        have n4 : gb411 ≠ gl := fun e => n3 e.symm
        clear hcl hbl hgl hS6 hji_ hjl_
        go_wp2
        refine bodyPost_ret (results_cell_row rfl _ _ gb410 29 #[.slice (some ⟨go36, 0, none⟩) x412000_1.length co36] (0, 0) _ rfl (blk_put (cs := #[.slice none 0 0]) (six_blk BK410.out n2) 0 _ rfl) Try.underlying29 rfl (by kernel_rfl)) rfl ?_
        exact ⟨_, rfl, Kd.S_mono (Kd.S_far (p := ⟨gb410, 0, none⟩) (Kd.S_types HS6.out (six_blk BK410.out n2) (by decide)) (fun _ hk => hk.2) (.slice (some ⟨go36, 0, none⟩) x412000_1.length co36)) (fun _ hk => trivial), (six_state HI0.out (IsS107.ne_blk HI0.out HBL.out (by decide))).far (p := ⟨gb410, 0, none⟩) NB0_410.out _, below_set (six_below HB.out (Nat.le_trans HW0.out GL.out)) GE410.out, keep_far (p := ⟨gb410, 0, none⟩) (six_keep HK.out GL.out) GW410.out _⟩
       ·rw [if_neg c35] at H
        exact absurd H (by simp)
      ·rw [if_neg c34] at H
       exact absurd H (by simp)
     ·rw [if_neg c32] at H
      have c32b0 : ((t430.length : Int) == 256) = false := beq_eq_false_iff_ne.mpr c32
      have c32b1 : ((t430.length : Int) != 256) = true := bne_iff_ne.mpr c32
      obtain ⟨ji49, hji49⟩ : ∃ j_ : Int, (wrap64 ((wrap64 (1 + t412)) - 1)) = j_ := ⟨_, rfl⟩
      replace H : (if 0 ≤ (ji49) then (if (ji49) < (x412000_1.length : Int) then (if (rd_L2 x412000_1 (ji49)).length = 256 then (some (lastSix x412000_1 (ji49), t428, t429)) else (none)) else (none)) else (none)) = some (r1, r2, r3) := by first | (rw [hji49] at H; exact H) | (simp only [hji49] at H ⊢; exact H)
      (try rw [hji49] at A18)
      (try rw [hji49] at A30)
      (try rw [hji49] at A31)
      have hji49w : (IntKind.i64.wrap ((wrap64 (1 + t412)) - 1)) = ji49 := (i64_w _).trans hji49
      by_cases c50 : 0 ≤ (ji49)
      ·rw [if_pos c50] at H
       have c50b0 : decide (0 ≤ (ji49)) = true := decide_eq_true c50
       clear c50
       by_cases c51 : (ji49) < (x412000_1.length : Int)
       ·rw [if_pos c51] at H
        have c51b0 : decide ((ji49) < (x412000_1.length : Int)) = true := decide_eq_true c51
        clear c51
        by_cases c256 : (rd_L2 x412000_1 (ji49)).length = 256
        rotate_left
        ·rw [if_neg c256] at H
         exact absurd H (by simp)
        rw [if_pos c256] at H
        have C256 := Aside0.mk c256
        clear c256
        simp only [Option.some.injEq, Prod.mk.injEq] at H
        obtain ⟨rfl, rfl, rfl⟩ := H
        go_upto_region 12 with (first | ((with_reducible refine gate_callee (f := 58) rfl ?_); refine goesM_ (some 26) rfl rfl Try.func58 #[.pointer (some ⟨g, 0, none⟩), .int .i64 4] ?_; (with_reducible refine (spec_l1Once.calls g s0_0 x1001_1 x1002_1 4 false t424 t425 w0 _ ?side1 ?side2 A18.out).mono ?_); (case side1 => exact si HI0.out); (case side2 => exact bi HB.out); rintro e w52 ⟨rfl, hi, hb, hk⟩; refine ⟨_, rfl, ?_⟩; replace HO_412000 := Aside0.mk (Kd.S_mono (Kd.S_keep (IsS107.apartS (show IsS107 w0 _ g s0_0 x1001_1 x1002_1 from si HI0.out) (ks HO_412000.out) (by decide)) hk (fun _ h => h.2)) (fun _ h => h.1)); replace BK410 := Aside0.mk (kB hk (kb BK410.out) NB410_0); replace BK411 := Aside0.mk (kB hk (kb BK411.out) NB411_0); replace HK := Aside0.mk (KeepBut.trans (kp HK.out) hk (.inl rfl)); replace HB := Aside0.mk (hb); replace HI0 := Aside0.mk (hi); (try clear hb); (try clear hb2); (try clear hk); (try clear hi)) | ((with_reducible refine gate_callee (f := 107) rfl ?_); refine goesM_ (some 30) rfl rfl Try.func107 #[.pointer (some ⟨g, 0, none⟩)] ?_; (with_reducible refine (spec_l2Main.calls g s0_0 t424 t425 t427 t428 t429 w0 _ ?side1 ?side2 A30.out).mono ?_); (case side1 => exact si HI0.out); (case side2 => exact bi HB.out); rintro e w53 ⟨rfl, hi, hb, hk⟩; refine ⟨_, rfl, ?_⟩; replace HO_412000 := Aside0.mk (Kd.S_mono (Kd.S_keep (IsS107.apartS (show IsS107 w0 _ g s0_0 t424 t425 from si HI0.out) (ks HO_412000.out) (by decide)) hk (fun _ h => h.2)) (fun _ h => h.1)); replace BK410 := Aside0.mk (kB hk (kb BK410.out) NB410_0); replace BK411 := Aside0.mk (kB hk (kb BK411.out) NB411_0); replace HK := Aside0.mk (KeepBut.trans (kp HK.out) hk (.inl rfl)); replace HB := Aside0.mk (hb); replace HI0 := Aside0.mk (hi); (try clear hb); (try clear hb2); (try clear hk); (try clear hi)) | ((with_reducible refine gate_callee (f := 106) rfl ?_); refine goesM_ (some 31) rfl rfl Try.func106 #[.string t427] ?_; (with_reducible refine (spec_Assemble.calls k1 t427 t430 t431 _ A31.out).mono ?_); rintro e w54 ⟨v432, rfl, ho0, hb⟩; refine ⟨_, rfl, ?_⟩; replace HO_412000 := Aside0.mk (Kd.S_elder' (ks HO_412000.out) (Kd.R_base ho0) hb); have HO433 := Aside0.mk (Kd.R_lower ho0 (keep_size (w := w) (g := g) (row := none) (kp HK.out))); replace BK410 := Aside0.mk (bb BK410 hb); replace BK411 := Aside0.mk (bb BK411 hb); replace HI0 := Aside0.mk (IsS107.below (si HI0.out) hb); replace HK := Aside0.mk (KeepBut.trans (kp HK.out) (KeepBut.of_below hb g none) (.inl rfl)); replace HB := Aside0.mk (below_step (bi HB.out) hb); (try clear hb); (try clear hb2); (try clear hk); (try clear hi); (try clear ho0); obtain ⟨Ao55, co55, eo55⟩ := Kd.R_slice HO433.out; subst eo55; have hnb56 := NB411_410.out; have hnc56 := NB410_411.out; have hnb57 := NB411_0.out; have hnc57 := NB0_411.out; have hcz58_0 : w54.cell? ⟨gb411, 0, none⟩ = some (u412000) := cl BK411 0; have hfz58_0 := blk_frozen BK411.out 0; obtain ⟨Ao59, co59, eo59⟩ := Kd.S_slice HO_412000.out; subst eo59; have p436 : 0 ≤ ((ji49) : Int) := dt; have q436 : (ji49) < (x412000_1.length : Int) := dt; obtain ⟨ad436, A436_0, c436_0, e436, hx436_0, hl436_0, hi436_0⟩ := at_L2 (Kd.S_reads' HO_412000.out).2.2 (ji49) p436 q436; cases e436; obtain ⟨ce436, hce436, hMe436, hcc436⟩ := Kd.S_get HO_412000.out [] (ji49) p436 (by first | exact q436 | exact dt | (have e_ := (Kd.S_reads' HO_412000.out).1; omega)); obtain ⟨ve436_0, rfl, ge436_0⟩ := hMe436; have hv436_0 := hcc436 0 _ rfl; rw [Nat.add_zero, show ((Kd.slice 3 (Kd.int .i64))).sz = 1 from rfl, Nat.mul_one] at hv436_0; replace hv436_0 := Option.some.inj (hv436_0.symm.trans hx436_0); rw [hv436_0] at ge436_0; have HL436_0 := Aside0.mk (show Kd.R (Kd.int .i64) 3 _ _ _ _ (rd_L2 x412000_1 (ji49)) from ge436_0); clear hv436_0 ge436_0; clear hcc436 hce436; have HR436_0 := Aside0.mk hi436_0; have HC436_0 := Aside0.mk hl436_0; clear hi436_0 hl436_0; replace p436 := eq_true p436; replace q436 := eq_true q436; have hnb60 := NB410_0.out; have hnc60 := NB0_410.out; have hcz61_0 : w54.cell? ⟨gb410, 0, none⟩ = some (.slice none 0 0) := cl BK410 0; have hfz61_0 := blk_frozen BK410.out 0))
        have hji_ : (0 : Int) ≤ ji49 := of_decide_eq_true (by assumption)
        have hjl_ : ji49 < (x412000_1.length : Int) := by first | exact of_decide_eq_true (by assumption) | (rw [Ny0.out, List.length_set]; exact of_decide_eq_true (by assumption))
        obtain ⟨gl, eA_, hgl, ⟨clr, hbl⟩, hcl, hS6⟩ := six_ok HO_412000.out ji49 hji_ hjl_ (by first | exact hx436_0 | (rw [add_plain]; exact hx436_0)) C256.out
        subst eA_
        have GL := Aside0.mk hgl
        have HBL := Aside0.mk hbl
        have HS6 := Aside0.mk hS6
        have HLN := Aside0.mk C256.out
        have z0 := (hcl 250 (by omega)).1
        have z1 := (hcl 251 (by omega)).1
        have z2 := (hcl 252 (by omega)).1
        have z3 := (hcl 253 (by omega)).1
        have z4 := (hcl 254 (by omega)).1
        have z5 := (hcl 255 (by omega)).1
        have f0 := (hcl 250 (by omega)).2
        have f1 := (hcl 251 (by omega)).2
        have f2 := (hcl 252 (by omega)).2
        have f3 := (hcl 253 (by omega)).2
        have f4 := (hcl 254 (by omega)).2
        have f5 := (hcl 255 (by omega)).2
        have b0 : ((250 : Int) < ((rd_L2 x412000_1 ji49).length : Int)) = True := eq_true (by have := C256.out; omega)
        have b1 : ((251 : Int) < ((rd_L2 x412000_1 ji49).length : Int)) = True := eq_true (by have := C256.out; omega)
        have b2 : ((252 : Int) < ((rd_L2 x412000_1 ji49).length : Int)) = True := eq_true (by have := C256.out; omega)
        have b3 : ((253 : Int) < ((rd_L2 x412000_1 ji49).length : Int)) = True := eq_true (by have := C256.out; omega)
        have b4 : ((254 : Int) < ((rd_L2 x412000_1 ji49).length : Int)) = True := eq_true (by have := C256.out; omega)
        have b5 : ((255 : Int) < ((rd_L2 x412000_1 ji49).length : Int)) = True := eq_true (by have := C256.out; omega)
        have n1 : gl ≠ gb410 := blk_ne hbl BK410.out (by decide)
        have n2 : gb410 ≠ gl := fun e => n1 e.symm
        have n3 : gl ≠ gb411 := blk_ne hbl BK411.out (by decide)
        have n4 : gb411 ≠ gl := fun e => n3 e.symm
        clear hcl hbl hgl hS6 hji_ hjl_
        go_wp2
        refine bodyPost_ret (results_cell_row rfl _ _ gb410 29 #[.slice (some ad436) x412000_1.length co59] (0, 0) _ rfl (blk_put (cs := #[.slice none 0 0]) (six_blk BK410.out n2) 0 _ rfl) Try.underlying29 rfl (by kernel_rfl)) rfl ?_
        exact ⟨_, rfl, Kd.S_mono (Kd.S_far (p := ⟨gb410, 0, none⟩) (Kd.S_types HS6.out (six_blk BK410.out n2) (by decide)) (fun _ hk => hk.2) (.slice (some ad436) x412000_1.length co59)) (fun _ hk => trivial), (six_state HI0.out (IsS107.ne_blk HI0.out HBL.out (by decide))).far (p := ⟨gb410, 0, none⟩) NB0_410.out _, below_set (six_below HB.out (Nat.le_trans HW0.out GL.out)) GE410.out, keep_far (p := ⟨gb410, 0, none⟩) (six_keep HK.out GL.out) GW410.out _⟩
       ·rw [if_neg c51] at H
        exact absurd H (by simp)
      ·rw [if_neg c50] at H
       exact absurd H (by simp)

/-! ### spec_l2Draw (mine) -/
/-- A row of the call's own that may begin inside its block, as an element. -/
def cutK {α : Type} (e : Nat) (d : Kd α) : Kd (List α) where
 sz := 1
 E := e :: d.E
 K := (Kd.slice e d).K
 M := fun w base ok xs cs => ∃ v, cs = [v] ∧ d.Q e w base ok v xs
 K_len := fun h => (Kd.slice e d).K_len h
 K_one := fun h => (Kd.slice e d).K_one h
 K_below := fun hb h => (Kd.slice e d).K_below hb h
 K_of_M := by
  rintro w base ok x cs ⟨v, rfl, h⟩
  obtain ⟨A, c, rfl, hl, hC⟩ := Kd.Q_reads h
  exact ⟨A, c, rfl, hl, hC⟩
 M_mono := by
  rintro w base ok ok' x cs hok ⟨v, rfl, h⟩
  exact ⟨v, rfl, Kd.Q_mono h hok⟩
 M_bound := by
  rintro w base ok x cs ⟨v, rfl, h⟩
  exact ⟨v, rfl, Kd.Q_bound h⟩
 M_move := by
  rintro w w1 base ok x cs hm ⟨v, rfl, h⟩
  exact ⟨v, rfl, Kd.Q_move h hm⟩
 M_lower := by
  rintro w base base' ok x cs hb ⟨v, rfl, h⟩
  exact ⟨v, rfl, Kd.Q_lower h hb⟩
theorem S_cut {α : Type} {e e' : Nat} {d : Kd α} {w : World} {base : Nat} {ok : Nat → Prop} {v : Value} {xs : List (List α)} (h : Kd.S (Kd.slice e d) e' w base ok v xs) : Kd.S (cutK e d) e' w base ok v xs := by
 obtain ⟨f, h0, inner, ho, hr⟩ := h
 refine ⟨f, h0, inner, ho, hr.1, fun j p hj => ?_⟩
 obtain ⟨u, hu, hR⟩ := hr.2 j p hj
 exact ⟨u, hu, Kd.Q_of_R hR⟩
theorem C_uncut {α : Type} {e : Nat} {d : Kd α} {w : World} {A : Option Addr} {n : Nat} {xs : List (List α)} (h : (cutK e d).C w A n xs) : (Kd.slice e d).C w A n xs := h
section
variable {W : World} {base go n cap : Nat} {ok : Nat → Prop} {X : List (List Int)}
/-- The first row's header. -/
theorem first_row (h : Kd.S (Kd.slice 3 (Kd.int .i64)) 30 W base ok (.slice (some ⟨go, 0, none⟩) n cap) X) (h0 : 0 < X.length) :
  ∃ A c, W.cell? ⟨go, 0, none⟩ = some (.slice A (rd_L2 X 0).length c) ∧ W.frozen? ⟨go, 0, none⟩ = false ∧ Kd.R (Kd.int .i64) 3 W base ok (.slice A (rd_L2 X 0).length c) (rd_L2 X 0) := by
 have hn := (Kd.S_reads' h).1
 obtain ⟨oki, cc, _, hM, hcc, hf, hoki, _⟩ := Kd.S_elem h [] 0 (by omega) (by omega)
 obtain ⟨v, rfl, hR⟩ : ∃ v, cc = [v] ∧ Kd.R (Kd.int .i64) 3 W base oki v (X.getD (0 : Int).toNat []) := hM
 obtain ⟨A, c, rfl⟩ := Kd.R_slice hR
 exact ⟨A, c, hcc 0 _ rfl, hf 0, Kd.R_mono hR (fun k hk => (hoki k hk).1)⟩
/-- The first row is a cut of what it was. -/
theorem first_cut (h : Kd.S (Kd.slice 3 (Kd.int .i64)) 30 W base ok (.slice (some ⟨go, 0, none⟩) n cap) X) (h0 : 0 < X.length) {A : Option Addr} {m c : Nat} (hx : W.cell? ⟨go, 0, none⟩ = some (.slice A m c)) (h1 : 1 ≤ (rd_L2 X 0).length) :
  Kd.S (cutK 3 (Kd.int .i64)) 30 (W.setCell ⟨go, 0, none⟩ (.slice (if c = 1 then A else A.map (·.add 1)) (m - 1) (c - 1))) base ok (.slice (some ⟨go, 0, none⟩) n cap) (X.set 0 ((rd_L2 X 0).drop 1)) := by
 have hn := (Kd.S_reads' h).1
 obtain ⟨oki, cc, _, hM, hcc, hf, hoki, hH⟩ := Kd.S_elem (S_cut h) [] 0 (by omega) (by omega)
 obtain ⟨v, rfl, hQ⟩ : ∃ v, cc = [v] ∧ Kd.Q (Kd.int .i64) 3 W base oki v (X.getD (0 : Int).toNat []) := hM
 have hv : W.cell? ⟨go, 0, none⟩ = some v := hcc 0 _ rfl
 rw [hx] at hv
 obtain rfl := Option.some.inj hv
 have hd := Kd.Q_drop (k := 1) hQ h1
 have := (Kd.S_seg (okg := fun _ => False) (okp := oki) (seg := [.slice (if c = 1 then A else A.map (·.add 1)) (m - 1) (c - 1)]) (j := 0) (Kd.H_mono hH (fun k hk => ⟨hk, fun h => h⟩)) (by omega) (by omega) (by show 0 + 1 ≤ 1; omega) (x' := (rd_L2 X 0).drop 1) ⟨_, rfl, hd⟩ (fun k hk => .inl hk) (fun k hk => hk.elim)).1
 exact this
/-- A store into the first row. -/
theorem first_put (h : Kd.S (Kd.slice 3 (Kd.int .i64)) 30 W base ok (.slice (some ⟨go, 0, none⟩) n cap) X) (h0 : 0 < X.length) {A : Option Addr} {m c : Nat} (hx : W.cell? ⟨go, 0, none⟩ = some (.slice A m c)) (h3 : 3 < (rd_L2 X 0).length) :
  ∃ gl, A = some ⟨gl, 0, none⟩ ∧ m = (rd_L2 X 0).length ∧ base ≤ gl ∧ (∃ cells, W.heap[gl]? = some (.cells cells 3 (0, 0))) ∧ (∃ u, W.cell? ⟨gl, 3, none⟩ = some (.int .i64 u)) ∧ W.frozen? ⟨gl, 3, none⟩ = false ∧
   ∀ p : Int, Kd.S (Kd.slice 3 (Kd.int .i64)) 30 (W.setCell ⟨gl, 3, none⟩ (.int .i64 p)) base ok (.slice (some ⟨go, 0, none⟩) n cap) (X.set 0 ((rd_L2 X 0).set 3 p)) := by
 have hn := (Kd.S_reads' h).1
 obtain ⟨oki, cc, _, hM, hcc, hf, hoki, hH⟩ := Kd.S_elem h [] 0 (by omega) (by omega)
 obtain ⟨v, rfl, hR⟩ : ∃ v, cc = [v] ∧ Kd.R (Kd.int .i64) 3 W base oki v (X.getD (0 : Int).toNat []) := hM
 have hv : W.cell? ⟨go, 0, none⟩ = some v := hcc 0 _ rfl
 rw [hx] at hv
 obtain rfl := Option.some.inj hv
 have e2 : X.getD (0 : Int).toNat [] = rd_L2 X 0 := rfl
 rw [e2] at hR
 obtain ⟨gl, cap', e3, hg, hgl, hcells⟩ := Kd.R_form hR (by omega)
 injection e3 with a1 a2 a3
 subst a1 a2 a3
 have hok : oki gl := hR.1 gl rfl
 obtain ⟨hc3, hf3⟩ := Kd.R_celln 0 hR 3 (by omega) (by omega)
 refine ⟨gl, rfl, rfl, hg, hcells, ⟨_, hc3⟩, hf3, fun p => ?_⟩
 exact Kd.H_back (i := 0) (Kd.H_step hH (fun k _ hn _ => Below.heap_setCell _ _ _ k (fun e => hn (by rw [e]; exact hok)))) ⟨_, rfl, Kd.R_putn hR 3 p⟩ (fun _ hk => hk)
end
def spec_l2Draw.f (k : Nat) (s0_0 : List Int) (s0_1 : Int) (s0_2 : Int) : Option ((List (List Int)) × Int × Int) :=
 (spec_l2DrawRight.f k s0_0 s0_1 s0_2).bind fun q => (spec_l1Below.f s0_0 q.2.1 q.2.2 15).bind fun b =>
  if b.1 = 0 then (if 0 < q.1.length ∧ 1 ≤ (rd_L2 q.1 0).length then some (q.1.set 0 ((rd_L2 q.1 0).drop 1), b.2.1, b.2.2) else none)
  else if b.1 = 1 then (if 0 < q.1.length ∧ 3 < (rd_L2 q.1 0).length then (spec_l1PickInt.f s0_0 b.2.1 b.2.2 [-1, 256]).bind fun p => some (q.1.set 0 ((rd_L2 q.1 0).set 3 p.1), p.2.1, p.2.2) else none)
  else if b.1 = 2 then some ([], b.2.1, b.2.2) else some (q.1, b.2.1, b.2.2)
/-- What is known where the drawn image lies in its variable, and the cursor behind the draw of what becomes of it. -/
structure L2 (w0 w W : World) (g a b : Nat) (s0 : List Int) (x y : Int) (A : Option Addr) (c : Nat) (X : List (List Int)) : Prop where
 st : IsS107 w0 W g s0 x y
 keep : KeepBut w W g none
 below : Below w0.heap.size w0 W
 hw : w0.heap.size ≤ w.heap.size
 ba : W.heap[a]? = some (.cells #[.slice none 0 0] 29 (0, 0))
 bb : W.heap[b]? = some (.cells #[.slice A X.length c] 29 (0, 0))
 row : Kd.S (Kd.slice 3 (Kd.int .i64)) 30 W w.heap.size (fun _ => True) (.slice A X.length c) X
 ga : w.heap.size ≤ a
 gb : w.heap.size ≤ b
 ab : a ≠ b
theorem L2.call {w0 w W W' : World} {g a b : Nat} {s0 : List Int} {x y x' y' : Int} {A : Option Addr} {c : Nat} {X : List (List Int)} (h : L2 w0 w W g a b s0 x y A c X) (hi : IsS107 w0 W' g s0 x' y') (hb : Below w0.heap.size w0 W') (hk : KeepBut W W' g none) : L2 w0 w W' g a b s0 x' y' A c X :=
 ⟨hi, KeepBut.trans h.keep hk (.inl rfl), hb, h.hw, KeepBut.blk hk h.ba (fun e => IsS107.ne_blk h.st h.ba (by decide) e.symm) (by simp), KeepBut.blk hk h.bb (fun e => IsS107.ne_blk h.st h.bb (by decide) e.symm) (by simp),
  Kd.S_mono (Kd.S_keep (IsS107.apartS h.st h.row (by decide)) hk (fun _ h => h.2)) (fun _ _ => trivial), h.ga, h.gb, h.ab⟩
/-- The result's block, and the end. -/
theorem L2.done {w0 w W : World} {g a : Nat} {s0 : List Int} {x y : Int} {v : Value} {Y : List (List Int)} (st : IsS107 w0 W g s0 x y) (keep : KeepBut w W g none) (below : Below w0.heap.size w0 W) (hw : w0.heap.size ≤ w.heap.size)
  (ba : W.heap[a]? = some (.cells #[.slice none 0 0] 29 (0, 0))) (row : Kd.S (cutK 3 (Kd.int .i64)) 30 W w.heap.size (fun _ => True) v Y) (ga : w.heap.size ≤ a) :
  (W.setCell ⟨a, 0, none⟩ v).heap[a]? = some (.cells #[v] 29 (0, 0)) ∧ Kd.S (cutK 3 (Kd.int .i64)) 30 (W.setCell ⟨a, 0, none⟩ v) w.heap.size (fun _ => True) v Y ∧ IsS107 w0 (W.setCell ⟨a, 0, none⟩ v) g s0 x y ∧ Below w0.heap.size w0 (W.setCell ⟨a, 0, none⟩ v) ∧ KeepBut w (W.setCell ⟨a, 0, none⟩ v) g none :=
 ⟨blk_put ba 0 _ rfl, Kd.S_mono (Kd.S_far (p := ⟨a, 0, none⟩) (Kd.S_types row ba (by decide)) (fun _ hk => hk.2) v) (fun _ _ => trivial), st.far (p := ⟨a, 0, none⟩) (IsS107.ne_blk st ba (by decide)) v, below_set below (Nat.le_trans hw ga), keep_far (p := ⟨a, 0, none⟩) keep ga v⟩
set_option maxRecDepth 100000 in
set_option maxHeartbeats 4000000 in
theorem spec_l2Draw.calls (k : Nat) (g : Nat) (s0_0 : List Int) (s0_1 : Int) (s0_2 : Int) (r1 : List (List Int)) (r2 : Int) (r3 : Int) (w0 w : World) (hI : IsS107 w0 w g s0_0 s0_1 s0_2) (hB : Below w0.heap.size w0 w) (h : spec_l2Draw.f k s0_0 s0_1 s0_2 = some (r1, r2, r3)) :
  Calls Try.prog 65 #[.pointer (some ⟨g, 0, none⟩)] w fun e w' => ∃ v0_ : Value, e = .returned (.agg #[v0_]) ∧ Kd.S (cutK 3 (Kd.int .i64)) 30 w' w.heap.size (fun _ => True) v0_ r1 ∧ IsS107 w0 w' g s0_0 r2 r3 ∧ Below w0.heap.size w0 w' ∧ KeepBut w w' g none := by
 have hu29 := Try.underlying29
 unfold spec_l2Draw.f at h
 obtain ⟨⟨X, x1, x2⟩, hq, h2⟩ := Option.bind_eq_some_iff.mp h
 obtain ⟨⟨t, y1, y2⟩, hp, h3⟩ := Option.bind_eq_some_iff.mp h2
 clear h h2
 have HI := Aside0.mk hI
 have HB := Aside0.mk hB
 have HQ := Aside0.mk hq
 have HP := Aside0.mk hp
 have H3 := Aside0.mk h3
 clear hI hB hq hp h3
 go_enter Try.func65, Try.ntmps65
 go_wp2_with fail
 refine (spec_l2DrawRight.calls k g s0_0 s0_1 s0_2 X x1 x2 w0 _ ?i ?b HQ.out).mono ?_
 case i => exact IsS107.alloc HI.out _
 case b => exact below_alloc HB.out _
 rintro e W1 ⟨v0, rfl, hS, hi, hb, hk⟩
 obtain ⟨A, c, rfl⟩ := Kd.S_slice hS
 have hga : w.heap.size ≠ g := fun e => by have := IsS107.lt HI.out; omega
 have ba := KeepBut.blk hk (g' := w.heap.size) (alloc_at w _ _ rfl) hga (by simp)
 have hsz : w.heap.size + 1 ≤ W1.heap.size := by have := hk.1; rw [alloc_size] at this; omega
 have hl : L2 w0 w (W1.alloc (.cells #[.slice A X.length c] 29)) g w.heap.size W1.heap.size s0_0 x1 x2 A c X :=
  ⟨hi.alloc _, keep_alloc (KeepBut.trans (keep_alloc (KeepBut.refl w g none) _) hk (.inl rfl)) _, below_alloc hb _, HB.out.size, blk_alloc ba _, blk_new W1 _, Kd.S_alloc (Kd.S_lower hS (by rw [alloc_size]; omega)) _, Nat.le_refl _, by omega, by omega⟩
 have HL := Aside0.mk hl
 clear hS hi hb hk ba hl hsz
 go_wp2_with fail
 generalize W1.alloc (.cells #[.slice A X.length c] 29) = W2 at *
 generalize W1.heap.size = b at *
 refine (spec_l1Below.calls g s0_0 x1 x2 15 t y1 y2 w0 _ HL.out.st HL.out.below HP.out).mono ?_
 rintro e W3 ⟨rfl, hi, hb, hk⟩
 have H := Aside0.mk (HL.out.call hi hb hk)
 have h3 := H3.out
 clear HL hi hb hk H3 HQ HP HI HB W2
 have hy0 : W3.cell? ⟨b, 0, none⟩ = some (.slice A X.length c) := (blk_cell H.out.bb 0).trans rfl
 have hyf := blk_frozen H.out.bb 0
 have hz0 : W3.cell? ⟨w.heap.size, 0, none⟩ = some (.slice none 0 0) := (blk_cell H.out.ba 0).trans rfl
 have hzf := blk_frozen H.out.ba 0
 have hab := H.out.ab
 have hba : b ≠ w.heap.size := fun e => hab e.symm
 by_cases t0 : t = 0
 ·subst t0
  rw [if_pos rfl] at h3
  by_cases hc : 0 < X.length ∧ 1 ≤ (rd_L2 X 0).length
  ·rw [if_pos hc] at h3
   simp only [Option.some.injEq, Prod.mk.injEq] at h3
   obtain ⟨rfl, rfl, rfl⟩ := h3
   obtain ⟨go, cap, eA, hgo, _, ⟨cells, hgb⟩⟩ := Kd.S_form H.out.row hc.1
   injection eA with e1 e2 e3
   subst e1 e3
   obtain ⟨A1, c1, hx, hf, hR⟩ := first_row H.out.row hc.1
   have HCUT := Aside0.mk (first_cut H.out.row hc.1 hx hc.2)
   obtain ⟨i0, hi0, hzz⟩ := Option.map_eq_some_iff.1 info3
   simp only [Prod.mk.injEq] at hzz
   have hcut : ∀ W : World, (Instr.slice 30 (.slice A1 (rd_L2 X 0).length c1) (some (.int .i64 1)) none none).run Try.prog W = .ok (.slice (if c1 = 1 then A1 else A1.map (·.add 1)) ((rd_L2 X 0).length - 1) (c1 - 1)) W := cut_from 30 3 .i64 Try.underlying30 hi0 1 hzz.2.1 A1 (rd_L2 X 0).length c1 1 (by omega) (by have := hc.2; omega)
   have HG := Aside0.mk hgb
   have HGO := Aside0.mk hgo
   have hb1 : ((0 : Int) < ((X.length : Nat) : Int)) = True := eq_true (by have := hc.1; omega)
   have hb2 : 0 < X.length := hc.1
   have hb3 : X ≠ [] := fun e => by rw [e] at hb2; exact absurd hb2 (by decide)
   have n1 : go ≠ w.heap.size := blk_ne hgb H.out.ba (by decide)
   have n2 : w.heap.size ≠ go := fun e => n1 e.symm
   have n3 : go ≠ b := blk_ne hgb H.out.bb (by decide)
   have n4 : b ≠ go := fun e => n3 e.symm
   clear hc hR hi0 hzz e2 hgb hgo
   generalize (if c1 = 1 then A1 else A1.map (·.add 1)) = A3 at *
   generalize (rd_L2 X 0).length - 1 = m3 at *
   generalize c1 - 1 = c3 at *
   go_wp2
   go_still_tail 8, (by kernel_rfl)
   go_wp2
   obtain ⟨d1, d2, d3, d4, d5⟩ := L2.done (v := .slice (some ⟨go, 0, none⟩) X.length c) (H.out.st.far (p := ⟨go, 0, none⟩) (IsS107.ne_blk H.out.st HG.out (by decide)) (.slice A3 m3 c3)) (keep_far (p := ⟨go, 0, none⟩) H.out.keep HGO.out (.slice A3 m3 c3)) (below_set H.out.below (Nat.le_trans H.out.hw HGO.out)) H.out.hw (blk_far (p := ⟨go, 0, none⟩) H.out.ba n2 (.slice A3 m3 c3)) (HCUT.out) H.out.ga
   refine bodyPost_ret (results_cell_row rfl _ _ w.heap.size 29 #[.slice (some ⟨go, 0, none⟩) X.length c] (0, 0) _ rfl (blk_drew d1) hu29 rfl (by kernel_rfl)) rfl ?_
   exact ⟨_, rfl, Kd.S_drew d2, IsS107.drew d3, below_drew1 d4, keep_drew d5⟩
  ·rw [if_neg hc] at h3
   cases h3
 ·rw [if_neg t0] at h3
  have e0 : (t == 0) = false := beq_eq_false_iff_ne.mpr t0
  by_cases t1 : t = 1
  ·subst t1
   rw [if_pos rfl] at h3
   by_cases hc : 0 < X.length ∧ 3 < (rd_L2 X 0).length
   ·rw [if_pos hc] at h3
    obtain ⟨⟨p, q1, q2⟩, hpp, h4⟩ := Option.bind_eq_some_iff.mp h3
    simp only [Option.some.injEq, Prod.mk.injEq] at h4
    obtain ⟨rfl, rfl, rfl⟩ := h4
    clear h3 e0 t0
    have HPP := Aside0.mk hpp
    obtain ⟨go, cap, eA, hgo, _, ⟨cells, hgb⟩⟩ := Kd.S_form H.out.row hc.1
    injection eA with e1 e2 e3
    subst e1 e3
    obtain ⟨A1, c1, hx, hf, hR⟩ := first_row H.out.row hc.1
    have HX := Aside0.mk hx
    obtain ⟨gl, eA1, em, hgl, ⟨cl, hgc⟩, _⟩ := first_put H.out.row hc.1 hx hc.2
    subst eA1
    have HG := Aside0.mk hgb
    have HC := Aside0.mk hc
    have HGL := Aside0.mk hgl
    have hb1 : ((0 : Int) < ((X.length : Nat) : Int)) = True := eq_true (by have := hc.1; omega)
    have hb2 : 0 < X.length := hc.1
    have hb3 : X ≠ [] := fun e => by rw [e] at hb2; exact absurd hb2 (by decide)
    have hb4 : ((3 : Int) < (((rd_L2 X 0).length : Nat) : Int)) = True := eq_true (by have := hc.2; omega)
    have n3 : go ≠ b := blk_ne hgb H.out.bb (by decide)
    have n4 : b ≠ go := fun e => n3 e.symm
    clear hc hR e2 hgb hgo hpp hx hf hgc hgl em hy0 hyf hz0 hzf
    go_wp2
    refine start_ (n := 9) (S := fun w' => w'.cell? ⟨b, 0, none⟩ = some (.slice (some ⟨go, 0, none⟩) X.length c) ∧ w'.cell? ⟨go, 0, none⟩ = some (.slice (some ⟨gl, 0, none⟩) (rd_L2 X 0).length c1)) (ds := [8]) (bm 9 0) (by kernel_rfl) rfl (by kernel_rfl) ⟨(blk_cell H.out.bb 0).trans rfl, HX.out⟩ (fun hHeld => ?_)
    have HD : Aside0 (W3.drew.cell? ⟨go, 0, none⟩ = some (.slice (some ⟨gl, 0, none⟩) (rd_L2 X 0).length c1)) := ⟨HX.out⟩
    have H4 : Aside0 (L2 w0 w W3.drew g w.heap.size b s0_0 y1 y2 (some ⟨go, 0, none⟩) c X) := ⟨⟨H.out.st.drew, keep_drew H.out.keep, below_drew1 H.out.below, H.out.hw, blk_drew H.out.ba, blk_drew H.out.bb, Kd.S_drew H.out.row, H.out.ga, H.out.gb, H.out.ab⟩⟩
    clear H HX
    generalize W3.drew = W4 at *
    refine pv_ 0 (some 20) (bm 9 1) ?_
    refine tv_ 1 (some 21) (bm 9 3) hHeld ?_
    refine pv_ 2 (some 22) (bm 9 7) ?_
    refine tv_ 3 (some 23) (bm 9 15) hHeld ?_
    refine pv_ 4 (some 24) (bm 9 31) ?_
    refine ov_ 5 (some 25) (bm 9 63) (fun K hK => ?_)
    refine value_ (w1 := W4.alloc (.cells #[.int .i64 (-1), .int .i64 256] 3)) (v := .slice (some ⟨W4.heap.size, 0, none⟩) 2 2) (by rfl) rfl ?_ ?_
    ·go_simp
    have hlit : Kd.R (Kd.int .i64) 3 (W4.alloc (.cells #[.int .i64 (-1), .int .i64 256] 3)) w.heap.size (fun _ => True) (.slice (some ⟨W4.heap.size, 0, none⟩) 2 2) [-1, 256] := Kd.R_of_own (own_lit W4 w.heap.size 3 .i64 [-1, 256] (keep_size H4.out.keep) (by decide)) (fun _ _ => trivial)
    have hne : W4.heap.size ≠ g := fun e => by have := IsS107.lt H4.out.st; omega
    have H5 : Aside0 (L2 w0 w (W4.alloc (.cells #[.int .i64 (-1), .int .i64 256] 3)) g w.heap.size b s0_0 y1 y2 (some ⟨go, 0, none⟩) c X) := ⟨⟨H4.out.st.alloc _, keep_alloc H4.out.keep _, below_alloc H4.out.below _, H4.out.hw, blk_alloc H4.out.ba _, blk_alloc H4.out.bb _, Kd.S_alloc H4.out.row _, H4.out.ga, H4.out.gb, H4.out.ab⟩⟩
    have HD5 := Aside0.mk (pw_cell_below (below_alloc (Below.refl _ _) (.cells #[.int .i64 (-1), .int .i64 256] 3)) HD.out)
    refine hK.out _ _ ⟨(blk_cell H5.out.bb 0).trans rfl, HD5.out⟩ (fun hHeld => ?_)
    clear hK K
    refine nw_ 25 ?_
    generalize hW5 : W4.alloc (.cells #[.int .i64 (-1), .int .i64 256] 3) = W5 at *
    refine ov_ 6 (some 26) (bm 9 127) (fun K hK => ?_)
    refine gw_ Try.func70 #[.pointer (some ⟨g, 0, none⟩), .slice (some ⟨W4.heap.size, 0, none⟩) 2 2] ?_
    refine (spec_l1PickInt.calls g s0_0 y1 y2 (some ⟨W4.heap.size, 0, none⟩) 2 [-1, 256] p q1 q2 w0 W5 H5.out.st H5.out.below (Kd.R_reads' hlit).2.2 (by decide) (fun ad e _ => by injection e with e; rw [← e]; exact hne) HPP.out).mono ?_
    rintro e W6 ⟨rfl, hi, hb, hk⟩
    refine ⟨_, rfl, ?_⟩
    have H : Aside0 (L2 w0 w W6 g w.heap.size b s0_0 q1 q2 (some ⟨go, 0, none⟩) c X) := ⟨H5.out.call hi hb hk⟩
    obtain ⟨A1', c1', hx', hf', hR'⟩ := first_row H.out.row HC.out.1
    have hgo6 : go ≠ g := by
     obtain ⟨_, _, e1, _, _, ⟨cells6, hg6⟩⟩ := Kd.S_form H.out.row HC.out.1
     injection e1 with e1 _ _
     injection e1 with e1
     injection e1 with e1
     subst e1
     exact fun e => IsS107.ne_blk H.out.st hg6 (by decide) e.symm
    have hkx := keep_cell hk HD5.out hgo6
    rw [hx'] at hkx
    injection hkx with hkx
    injection hkx with k1 k2 k3
    subst k1 k3
    obtain ⟨gl', eA1, _, hgl, ⟨cl, hgc⟩, ⟨u3, hc3⟩, hf3, hput⟩ := first_put H.out.row HC.out.1 hx' HC.out.2
    injection eA1 with eA1
    injection eA1 with eA1
    subst eA1
    have HX := Aside0.mk hx'
    have HC3 := Aside0.mk hc3
    have HF3 := Aside0.mk hf3
    have HPUT := Aside0.mk (hput p)
    have HGC := Aside0.mk hgc
    have HGL := Aside0.mk hgl
    refine hK.out _ _ ⟨(blk_cell H.out.bb 0).trans rfl, hx'⟩ (fun hHeld => ?_)
    clear hK K hlit hne H5 HD5 hi hb hk hx' hf' hR' hgo6 k2 hgl hgc hc3 hf3 hput H4 HD hW5
    refine nw_ 26 ?_
    refine pv_ 7 (some 27) (bm 9 255) ?_
    refine last_ (i := 8) (N := none) #[true, true, true, true, true, true, true, true, true] rfl rfl (by kernel_rfl) (by decide) (fun K hK => ?_)
    have r0 := HC3.out
    have f0 := HF3.out
    refine skip_ (w1 := ?_) (by rfl) rfl ?_ ?_
    rotate_left
    ·go_simp
     rfl
    refine hK.out _ _ ?_
    clear hK K r0 f0 hHeld
    refine done_ (by kernel_rfl) ?_
    have m1 : gl ≠ w.heap.size := blk_ne HGC.out H.out.ba (by decide)
    have m2 : w.heap.size ≠ gl := fun e => m1 e.symm
    have m3 : gl ≠ b := blk_ne HGC.out H.out.bb (by decide)
    have m4 : b ≠ gl := fun e => m3 e.symm
    have hy0 : (W6.setCell ⟨gl, 3, none⟩ (.int .i64 p)).cell? ⟨b, 0, none⟩ = some (.slice (some ⟨go, 0, none⟩) X.length c) := (blk_cell (blk_far (p := ⟨gl, 3, none⟩) H.out.bb m4 _) 0).trans rfl
    have hz0 : (W6.setCell ⟨gl, 3, none⟩ (.int .i64 p)).cell? ⟨w.heap.size, 0, none⟩ = some (.slice none 0 0) := (blk_cell (blk_far (p := ⟨gl, 3, none⟩) H.out.ba m2 _) 0).trans rfl
    have hzf := blk_frozen (blk_far (p := ⟨gl, 3, none⟩) H.out.ba m2 (.int .i64 p)) 0
    go_wp2
    obtain ⟨d1, d2, d3, d4, d5⟩ := L2.done (v := .slice (some ⟨go, 0, none⟩) X.length c) (H.out.st.far (p := ⟨gl, 3, none⟩) (IsS107.ne_blk H.out.st HGC.out (by decide)) (.int .i64 p)) (keep_far (p := ⟨gl, 3, none⟩) H.out.keep HGL.out (.int .i64 p)) (below_set H.out.below (Nat.le_trans H.out.hw HGL.out)) H.out.hw (blk_far (p := ⟨gl, 3, none⟩) H.out.ba m2 (.int .i64 p)) (S_cut HPUT.out) H.out.ga
    refine bodyPost_ret (results_cell_row rfl _ _ w.heap.size 29 #[.slice (some ⟨go, 0, none⟩) X.length c] (0, 0) _ rfl d1 hu29 rfl (by kernel_rfl)) rfl ?_
    exact ⟨_, rfl, d2, d3, d4, d5⟩
   ·rw [if_neg hc] at h3
    cases h3
  ·rw [if_neg t1] at h3
   have e1 : (t == 1) = false := beq_eq_false_iff_ne.mpr t1
   by_cases t2 : t = 2
   ·subst t2
    rw [if_pos rfl] at h3
    simp only [Option.some.injEq, Prod.mk.injEq] at h3
    obtain ⟨rfl, rfl, rfl⟩ := h3
    go_wp2
    obtain ⟨d1, d2, d3, d4, d5⟩ := L2.done (v := .slice none 0 0) (H.out.st.far (p := ⟨b, 0, none⟩) (IsS107.ne_blk H.out.st H.out.bb (by decide)) (.slice none 0 0)) (keep_far (p := ⟨b, 0, none⟩) H.out.keep H.out.gb (.slice none 0 0)) (below_set H.out.below (Nat.le_trans H.out.hw H.out.gb)) H.out.hw (blk_far (p := ⟨b, 0, none⟩) H.out.ba H.out.ab (.slice none 0 0)) (Kd.S_nil _ _ _ _ _) H.out.ga
    refine bodyPost_ret (results_cell_row rfl _ _ w.heap.size 29 #[.slice none 0 0] (0, 0) _ rfl d1 hu29 rfl (by kernel_rfl)) rfl ?_
    exact ⟨_, rfl, d2, d3, d4, d5⟩
   ·rw [if_neg t2] at h3
    have e2 : (t == 2) = false := beq_eq_false_iff_ne.mpr t2
    simp only [Option.some.injEq, Prod.mk.injEq] at h3
    obtain ⟨rfl, rfl, rfl⟩ := h3
    go_wp2
    obtain ⟨d1, d2, d3, d4, d5⟩ := L2.done (v := .slice A X.length c) (H.out.st) (H.out.keep) (H.out.below) H.out.hw (H.out.ba) (S_cut H.out.row) H.out.ga
    refine bodyPost_ret (results_cell_row rfl _ _ w.heap.size 29 #[.slice A X.length c] (0, 0) _ rfl d1 hu29 rfl (by kernel_rfl)) rfl ?_
    exact ⟨_, rfl, d2, d3, d4, d5⟩
theorem spec_l2DrawRight.callsC (k : Nat) (g : Nat) (s0_0 : List Int) (s0_1 : Int) (s0_2 : Int) (r1 : List (List Int)) (r2 : Int) (r3 : Int) (w0 w : World) (hI : IsS107 w0 w g s0_0 s0_1 s0_2) (hB : Below w0.heap.size w0 w) (h : spec_l2DrawRight.f k s0_0 s0_1 s0_2 = some (r1, r2, r3)) :
  Calls Try.prog 69 #[.pointer (some ⟨g, 0, none⟩)] w fun e w' => ∃ v0_ : Value, e = .returned (.agg #[v0_]) ∧ Kd.S (cutK 3 (Kd.int .i64)) 30 w' w.heap.size (fun _ => True) v0_ r1 ∧ IsS107 w0 w' g s0_0 r2 r3 ∧ Below w0.heap.size w0 w' ∧ KeepBut w w' g none :=
 (spec_l2DrawRight.calls k g s0_0 s0_1 s0_2 r1 r2 r3 w0 w hI hB h).mono fun e w' ⟨v, he, hS, h2⟩ => ⟨v, he, S_cut hS, h2⟩

/-! ### spec_MemNew: function 88 -/
def spec_MemNew.f  : Option (List Int × Int) := if 512 ≤ 35184372088832 then (some ((List.replicate 512 0), 0)) else (none)
set_option maxHeartbeats 8000000 in
set_option maxRecDepth 100000 in
theorem spec_MemNew.calls  (r1 : List Int) (r2 : Int) (w : World) (h : spec_MemNew.f  = some (r1, r2)) :
  Calls Try.prog 88 #[] w fun e w' => ∃ v0_ : Value, e = .returned (.agg #[v0_, .int .i64 r2]) ∧ Kd.R (Kd.int .i64) 3 w' w.heap.size (fun _ => True) v0_ r1 ∧ Below w.heap.size w w' := by
 have hu32 := Try.underlying32
 have HB := Aside0.mk (Below.refl w.heap.size w)
 have H : (if 512 ≤ 35184372088832 then (some ((List.replicate 512 0), 0)) else (none)) = some (r1, r2) := h
 clear h
 by_cases c1 : 512 ≤ 35184372088832
 ·rw [if_pos c1] at H
  have c1b0 := eq_true c1
  have c1b1 : decide (512 ≤ 35184372088832) = true := decide_eq_true c1
  clear c1
  obtain ⟨y465, hy465⟩ : ∃ y_ : List Int, y_ = (List.replicate 512 0) := ⟨_, rfl⟩
  replace H : (some (y465, 0)) = some (r1, r2) := by first | (rw [hy465]; with_reducible exact H) | (have H2_ := (Option.bind_some _ _).symm.trans H; rw [hy465]; with_reducible exact H2_) | (have H2_ := (Option.bind_some _ _).symm.trans H; with_reducible exact H2_) | with_reducible exact H | (rw [hy465]; exact H) | exact H
  have Ny465 := Aside0.mk hy465
  clear hy465
  simp only [Option.some.injEq, Prod.mk.injEq] at H
  obtain ⟨rfl, rfl⟩ := H
  go_enter Try.func88, Try.ntmps88
  go_wp2_with (first | ((with_reducible refine gate_dst (N := 0) rfl ?_); refine bx (N := 0) (cs := #[.slice none 0 0, .int .i64 0]) (t := 32) ?_; intro gb464 hg w2 hbox hb; have BK464 := Aside0.mk (hbox); have GW464 := Aside0.mk ((gs hg (bw HB.out))); have GE464 := Aside0.mk ((gs hg (bw HB.out))); replace HB := Aside0.mk (below_step (bw HB.out) hb); clear hb hbox hg) | ((with_reducible refine gate_dst (N := 1) rfl ?_); refine Kd.R_make (Kd.int .i64) _ 3 rfl (N := 1) rfl 30 _ _ rfl 512 rfl rfl Try.underlying30 (.int .i64 0) 8 info3 rfl (by decide) (by omega) 0 (ok := fun _ => True) (okp := fun _ => True) rfl (fun _ hk => hk) trivial (by omega) (by omega) (Below.refl _ _) (Nat.le_refl _) ?_; intro v466 w3 ho4 hb hg_ hnew_; clear hg_ hnew_; (first | rw [← Ny465.out] at ho4 | (simp only [Int.reduceToNat] at ho4; rw [← Ny465.out] at ho4)); have HO467 := Aside0.mk (Kd.R_lower ho4 (below_size (bw HB.out))); replace BK464 := Aside0.mk (bb BK464 hb); replace HB := Aside0.mk (below_step (bw HB.out) hb); clear hb ho4; obtain ⟨Ao5, co5, eo5⟩ := Kd.R_slice HO467.out; subst eo5; obtain ⟨hcz6_0, hcz6_1⟩ := ce2 BK464; have hfz6_0 := blk_frozen BK464.out 0; have hfz6_1 := blk_frozen BK464.out 1))
  refine bodyPost_ret (results_cell_row rfl _ _ gb464 32 #[.slice Ao5 y465.length co5, .int .i64 0] (0, 0) _ rfl (bq BK464.out) Try.underlying32 rfl (by kernel_rfl)) rfl ?_
  exact ⟨_, rt, kr (Kd.R_mono (Kd.R_far (p := ⟨gb464, 1, none⟩) (Kd.R_far (p := ⟨gb464, 0, none⟩) (Kd.R_types HO467.out BK464.out (by decide)) (fun _ hk => hk.2) (.slice Ao5 y465.length co5)) (fun _ hk => hk.2) (.int .i64 0)) (fun _ hk => trivial)), bw HB.out⟩
 ·rw [if_neg c1] at H
  exact absurd H (by simp)

/-! ### spec_l1Max: function 117 -/
def spec_l1Max.f (a0 : Int) (a1 : Int) : Option (Int) := if a0 > a1 then (some a0) else (some a1)
set_option maxHeartbeats 8000000 in
set_option maxRecDepth 100000 in
theorem spec_l1Max.calls (a0 : Int) (a1 : Int) (r : Int) (w : World) (h : spec_l1Max.f a0 a1 = some r) :
  Calls Try.prog 117 #[.int .i64 a0, .int .i64 a1] w fun e w' => e = .returned (.int .i64 r) ∧ Drawn0 w w' := by
 have H : (if a0 > a1 then (some a0) else (some a1)) = some r := h
 clear h
 by_cases c3 : a0 > a1
 ·rw [if_pos c3] at H
  have c3b0 : decide (a1 < a0) = true := decide_eq_true c3
  clear c3
  obtain rfl := Option.some.inj H
  go_enter Try.func117, Try.ntmps117
  go_wp2
  go_ret
  exact ⟨by first | rfl | (simp; done) | (simp [*]; done), by repeat (first | exact Drawn0.refl _ | apply Drawn0.step)⟩
 ·rw [if_neg c3] at H
  have c3b0 : decide (a1 < a0) = false := decide_eq_false c3
  clear c3
  obtain rfl := Option.some.inj H
  go_enter Try.func117, Try.ntmps117
  go_wp2
  go_ret
  exact ⟨by first | rfl | (simp; done) | (simp [*]; done), by repeat (first | exact Drawn0.refl _ | apply Drawn0.step)⟩

/-! ### spec_l6DrawMem: function 103 -/
def spec_l6DrawMem.l0 : Nat → Int → List Int → Int → Int → List (List Int) → List Int → Int → Option (List Int × Int × Int × Int)
 | 0, _, _, _, _, _, _, _ => none
 | k + 1, x6, x1000, x1001, x1002, x469000, x475000, x475001 => if x6 < 20 then ((spec_l1PickInt.f x1000 x1001 x1002 (([0, 1, 16, 255, 256, 257, 510, 511, 258, 300] : List Int))).bind fun bt478 => ((spec_l1Below.f x1000 bt478.2.1 bt478.2.2 256).bind fun bt481 => (if 0 ≤ bt478.1 then (if bt478.1 < (x475000.length : Int) then (spec_l6DrawMem.l0 k (wrap64 (x6 + 1)) x1000 bt481.2.1 bt481.2.2 x469000 (x475000.set (bt478.1 : Int).toNat bt481.1) x475001) else (none)) else (none)))) else ((spec_l1Max.f (x469000.length : Int) 1).bind fun t485 => ((spec_l1Below.f x1000 x1001 x1002 t485).bind fun bt486 => ((spec_l1Below.f x1000 bt486.2.1 bt486.2.2 30).bind fun bt489 => (if bt489.1 = 0 then ((spec_l1PickInt.f x1000 bt489.2.1 bt489.2.2 (([(-1), 8] : List Int))).bind fun bt495 => (some (x475000, bt495.1, bt495.2.1, bt495.2.2))) else (if bt489.1 = 1 then (if 1 ≤ (x475000.length : Int) then (some ((x475000.drop (1 : Int).toNat), bt486.1, bt489.2.1, bt489.2.2)) else (none)) else (if bt489.1 = 2 then (if 256 < (x475000.length : Int) then (some ((x475000.set (256 : Int).toNat 256), bt486.1, bt489.2.1, bt489.2.2)) else (none)) else (some (x475000, bt486.1, bt489.2.1, bt489.2.2))))))))
def spec_l6DrawMem.f (k : Nat) (s0_0 : List Int) (s0_1 : Int) (s0_2 : Int) (l1_0 : List (List Int)) : Option (List Int × Int × Int × Int) := (spec_MemNew.f).bind fun bt470 => (spec_l6DrawMem.l0 k 0 s0_0 s0_1 s0_2 l1_0 bt470.1 bt470.2)
def spec_l6DrawMem.T5 : Bool × List (List Nat × List Nat) := (true, [([], []), ([0], [0]), ([], []), ([], []), ([2, 3], [2, 3]), ([], []), ([5, 4], [5]), ([1, 4, 0, 1, 2, 3, 4, 5, 6], [1, 4]), ([7, 6, 6, 0, 1, 2, 3, 4, 5, 6], [6, 7])])
def spec_l6DrawMem.B5 : List Nat := [0, 1, 0, 0, 12, 0, 60, 127, 255]
theorem spec_l6DrawMem.tab5 : rtab .any (opsOf Try.f103 5) = spec_l6DrawMem.T5 := by kernel_rfl
theorem spec_l6DrawMem.bits5 : waitsOk spec_l6DrawMem.T5.2 spec_l6DrawMem.B5 = true := by kernel_rfl
set_option maxHeartbeats 8000000 in
set_option maxRecDepth 100000 in
theorem spec_l6DrawMem.calls (k : Nat) (g : Nat) (s0_0 : List Int) (s0_1 : Int) (s0_2 : Int) (A1_0 : Option Addr) (c1_0 : Nat) (l1_0 : List (List Int)) (r1 : List Int) (r2 : Int) (r3 : Int) (r4 : Int) (w0 w : World) (hI : IsS107 w0 w g s0_0 s0_1 s0_2) (hB : Below w0.heap.size w0 w) (hr1_0 : ∀ W_, KeepBut w W_ g none → Kd.C (Kd.slice 3 (Kd.int .i64)) W_ A1_0 l1_0.length l1_0) (hc1_0 : l1_0.length ≤ c1_0) (h : spec_l6DrawMem.f k s0_0 s0_1 s0_2 l1_0 = some (r1, r2, r3, r4)) :
  Calls Try.prog 103 #[.pointer (some ⟨g, 0, none⟩), .agg #[.slice A1_0 l1_0.length c1_0]] w fun e w' => ∃ v0_ : Value, e = .returned (.agg #[v0_, .int .i64 r2]) ∧ Kd.Q (Kd.int .i64) 3 w' w.heap.size (fun _ => True) v0_ r1 ∧ IsS107 w0 w' g s0_0 r3 r4 ∧ Below w0.heap.size w0 w' ∧ KeepBut w w' g none := by
 have hu29 := Try.underlying29
 have hu32 := Try.underlying32
 have HR1_0 := Aside0.mk hr1_0
 have HC1_0 := Aside0.mk hc1_0
 clear hr1_0 hc1_0
 have HI0 := Aside0.mk hI
 have HK := Aside0.mk (KeepBut.refl w g none)
 have HL := Aside0.mk hB.size
 clear hI
 have HW0 := Aside0.mk hB.size
 have HB := Aside0.mk hB
 clear hB
 have H : ((spec_MemNew.f).bind fun bt470 => (spec_l6DrawMem.l0 k 0 s0_0 s0_1 s0_2 l1_0 bt470.1 bt470.2)) = some (r1, r2, r3, r4) := h
 clear h
 replace H := Option.bind_eq_some_iff.mp H
 obtain ⟨⟨t470, t473⟩, A30, H⟩ := H
 replace H : (spec_l6DrawMem.l0 k 0 s0_0 s0_1 s0_2 l1_0 t470 t473) = some (r1, r2, r3, r4) := H
 have A3 := Aside0.mk A30
 clear A30
 have H' := Aside0.mk H
 clear H
 go_enter Try.func103, Try.ntmps103
 go_wp2_with (first | ((with_reducible refine gate_dst (N := 3) rfl ?_); refine bx (N := 3) (cs := #[.slice A1_0 l1_0.length c1_0]) (t := 29) ?_; intro gb468 hg w4 hbox hb; have n0_ := Aside0.mk (IsS107.below (si HI0.out) hb); have n1_ := Aside0.mk (KeepBut.trans (kp HK.out) (KeepBut.of_below hb g none) (.inl rfl)); have n2_ := Aside0.mk (below_step (bi HB.out) hb); have n3_ := Aside0.mk (hbox); have n4_ := Aside0.mk ((by rw [hg]; exact (keep_size (w := w) (g := g) (row := none) (kp HK.out)) : w.heap.size ≤ gb468)); have n5_ := Aside0.mk ((Nat.le_trans HW0.out (by rw [hg]; exact (keep_size (w := w) (g := g) (row := none) (kp HK.out)) : w.heap.size ≤ gb468) : w0.heap.size ≤ gb468)); have n6_ := Aside0.mk ((by rw [hg]; exact Nat.ne_of_lt (IsS107.lt (show IsS107 w0 _ g s0_0 s0_1 s0_2 from si HI0.out)) : g ≠ gb468)); have n7_ := Aside0.mk ((by rw [hg]; exact Nat.ne_of_gt (IsS107.lt (show IsS107 w0 _ g s0_0 s0_1 s0_2 from si HI0.out)) : gb468 ≠ g)); clear HI0; clear HK; clear HB; have HI0 := n0_; have HK := n1_; have HB := n2_; have BK468 := n3_; have GW468 := n4_; have GE468 := n5_; have NB0_468 := n6_; have NB468_0 := n7_; clear n0_ n1_ n2_ n3_ n4_ n5_ n6_ n7_; clear hb hbox hg) | ((with_reducible refine gate_dst (N := 4) rfl ?_); refine bx (N := 4) (cs := #[.slice none 0 0, .int .i64 0]) (t := 32) ?_; intro gb469 hg w5 hbox hb; have n0_ := Aside0.mk (IsS107.below (si HI0.out) hb); have n1_ := Aside0.mk (bb BK468 hb); have n2_ := Aside0.mk (KeepBut.trans (kp HK.out) (KeepBut.of_below hb g none) (.inl rfl)); have n3_ := Aside0.mk (below_step (bi HB.out) hb); have n4_ := Aside0.mk (hbox); have n5_ := Aside0.mk ((by rw [hg]; exact (keep_size (w := w) (g := g) (row := none) (kp HK.out)) : w.heap.size ≤ gb469)); have n6_ := Aside0.mk ((Nat.le_trans HW0.out (by rw [hg]; exact (keep_size (w := w) (g := g) (row := none) (kp HK.out)) : w.heap.size ≤ gb469) : w0.heap.size ≤ gb469)); have n7_ := Aside0.mk ((ga hg BK468.out)); have n8_ := Aside0.mk ((gc hg BK468.out)); have n9_ := Aside0.mk ((by rw [hg]; exact Nat.ne_of_lt (IsS107.lt (show IsS107 w0 _ g s0_0 s0_1 s0_2 from si HI0.out)) : g ≠ gb469)); have n10_ := Aside0.mk ((by rw [hg]; exact Nat.ne_of_gt (IsS107.lt (show IsS107 w0 _ g s0_0 s0_1 s0_2 from si HI0.out)) : gb469 ≠ g)); clear HI0; clear BK468; clear HK; clear HB; have HI0 := n0_; have BK468 := n1_; have HK := n2_; have HB := n3_; have BK469 := n4_; have GW469 := n5_; have GE469 := n6_; have NB468_469 := n7_; have NB469_468 := n8_; have NB0_469 := n9_; have NB469_0 := n10_; clear n0_ n1_ n2_ n3_ n4_ n5_ n6_ n7_ n8_ n9_ n10_; clear hb hbox hg) | ((with_reducible refine gate_callee (f := 88) rfl ?_); refine goesM_ (some 7) rfl rfl Try.func88 #[] ?_; (with_reducible refine (spec_MemNew.calls  t470 t473 _ A3.out).mono ?_); rintro e w6 ⟨v471, rfl, ho0, hb⟩; refine ⟨_, rfl, ?_⟩; have HO472 := Aside0.mk (Kd.R_lower ho0 (keep_size (w := w) (g := g) (row := none) (kp HK.out))); replace HI0 := Aside0.mk (IsS107.below (si HI0.out) hb); replace BK468 := Aside0.mk (bb BK468 hb); replace BK469 := Aside0.mk (bb BK469 hb); replace HK := Aside0.mk (KeepBut.trans (kp HK.out) (KeepBut.of_below hb g none) (.inl rfl)); replace HB := Aside0.mk (below_step (bi HB.out) hb); (try clear hb); (try clear hb2); (try clear hk); (try clear hi); (try clear ho0)) | ((with_reducible refine gate_dst (N := 5) rfl ?_); refine bx (N := 5) (cs := #[.slice none 0 0, .int .i64 0]) (t := 32) ?_; intro gb474 hg w7 hbox hb; have n0_ := Aside0.mk (Kd.R_below (kr HO472.out) hb); have n1_ := Aside0.mk (IsS107.below (si HI0.out) hb); have n2_ := Aside0.mk (bb BK468 hb); have n3_ := Aside0.mk (bb BK469 hb); have n4_ := Aside0.mk (KeepBut.trans (kp HK.out) (KeepBut.of_below hb g none) (.inl rfl)); have n5_ := Aside0.mk (below_step (bi HB.out) hb); have n6_ := Aside0.mk (hbox); have n7_ := Aside0.mk ((by rw [hg]; exact (keep_size (w := w) (g := g) (row := none) (kp HK.out)) : w.heap.size ≤ gb474)); have n8_ := Aside0.mk ((Nat.le_trans HW0.out (by rw [hg]; exact (keep_size (w := w) (g := g) (row := none) (kp HK.out)) : w.heap.size ≤ gb474) : w0.heap.size ≤ gb474)); have n9_ := Aside0.mk ((ga hg BK468.out)); have n10_ := Aside0.mk ((gc hg BK468.out)); have n11_ := Aside0.mk ((ga hg BK469.out)); have n12_ := Aside0.mk ((gc hg BK469.out)); have n13_ := Aside0.mk ((by rw [hg]; exact Nat.ne_of_lt (IsS107.lt (show IsS107 w0 _ g s0_0 s0_1 s0_2 from si HI0.out)) : g ≠ gb474)); have n14_ := Aside0.mk ((by rw [hg]; exact Nat.ne_of_gt (IsS107.lt (show IsS107 w0 _ g s0_0 s0_1 s0_2 from si HI0.out)) : gb474 ≠ g)); clear HO472; clear HI0; clear BK468; clear BK469; clear HK; clear HB; have HO472 := n0_; have HI0 := n1_; have BK468 := n2_; have BK469 := n3_; have HK := n4_; have HB := n5_; have BK474 := n6_; have GW474 := n7_; have GE474 := n8_; have NB468_474 := n9_; have NB474_468 := n10_; have NB469_474 := n11_; have NB474_469 := n12_; have NB0_474 := n13_; have NB474_0 := n14_; clear n0_ n1_ n2_ n3_ n4_ n5_ n6_ n7_ n8_ n9_ n10_ n11_ n12_ n13_ n14_; clear hb hbox hg; obtain ⟨Ao8, co8, eo8⟩ := Kd.R_slice HO472.out; subst eo8; have hnb9 := NB474_468.out; have hnc9 := NB468_474.out; have hnb10 := NB474_469.out; have hnc10 := NB469_474.out; have hnb11 := NB474_0.out; have hnc11 := NB0_474.out; obtain ⟨hcz12_0, hcz12_1⟩ := ce2 BK474; have hfz12_0 := blk_frozen BK474.out 0; have hfz12_1 := blk_frozen BK474.out 1))
 go_loopg [6] k (fun kq v6 w' => ∃ (x6_1 : Int) (x1001_1 : Int) (x1002_1 : Int) (x475000_1 : List Int) (u475000 : Value), v6 = .int .i64 x6_1 ∧ Aside0 (spec_l6DrawMem.l0 kq x6_1 s0_0 x1001_1 x1002_1 l1_0 x475000_1 t473 = some (r1, r2, r3, r4)) ∧ Aside0 (kq ≤ k) ∧ Aside0 (Kd.Q (Kd.int .i64) 3 w' w.heap.size (fun _ => True) u475000 x475000_1) ∧ Aside0 (w'.heap[gb468]? = some (.cells #[(.slice A1_0 l1_0.length c1_0)] 29 (0, 0))) ∧ Aside0 (w'.heap[gb469]? = some (.cells #[(.slice none 0 0), .int .i64 0] 32 (0, 0))) ∧ Aside0 (w'.heap[gb474]? = some (.cells #[u475000, .int .i64 t473] 32 (0, 0))) ∧ Aside0 (IsS107 w0 w' g s0_0 x1001_1 x1002_1) ∧ Aside0 (KeepBut w w' g none) ∧ Aside0 (Below w0.heap.size w0 w'))
 case atStart => exact ⟨(0), (s0_1), (s0_2), (t470), (.slice Ao8 t470.length co8), (by first | rfl | (simp; done) | (simp [*]; done)), H', ⟨Nat.le_refl _⟩, ⟨Kd.Q_of_R (kr (Kd.R_mono (Kd.R_far (p := ⟨gb474, 1, none⟩) (Kd.R_far (p := ⟨gb474, 0, none⟩) (Kd.R_types HO472.out BK474.out (by decide)) (fun _ hk => hk.2) (.slice Ao8 t470.length co8)) (fun _ hk => hk.2) (.int .i64 t473)) (fun _ hk => trivial)))⟩, ⟨kf BK468.out⟩, ⟨kf BK469.out⟩, ⟨bq BK474.out⟩, ⟨si HI0.out⟩, ⟨kp HK.out⟩, ⟨bi HB.out⟩⟩
 case round =>
  clear H'
  (try clear c1); (try clear p2); (try clear c8); (try clear c9); (try clear c10); (try clear c11); (try clear hcz12_0); (try clear hcz12_1); (try clear hfz12_0); (try clear hfz12_1)
  obtain ⟨x6_1, x1001_1, x1002_1, x475000_1, u475000, rfl, HA, HK1, HO_475000, BK468, BK469, BK474, HI0, HK, HB⟩ := hrel
  cases gk with
  | zero => exact absurd HA.out (by simp [spec_l6DrawMem.l0])
  | succ k1 =>
   have H := HA.out
   clear HA
   simp only [spec_l6DrawMem.l0] at H
   by_cases c13 : x6_1 < 20
   ·rw [if_pos c13] at H
    have c13b0 : decide (x6_1 < 20) = true := decide_eq_true c13
    clear c13
    obtain ⟨y475, hy475⟩ : ∃ y_ : List Int, y_ = (([0, 1, 16, 255, 256, 257, 510, 511, 258, 300] : List Int)) := ⟨_, rfl⟩
    replace H : ((spec_l1PickInt.f s0_0 x1001_1 x1002_1 y475).bind fun bt478 => ((spec_l1Below.f s0_0 bt478.2.1 bt478.2.2 256).bind fun bt481 => (if 0 ≤ bt478.1 then (if bt478.1 < (x475000_1.length : Int) then (spec_l6DrawMem.l0 k1 (wrap64 (x6_1 + 1)) s0_0 bt481.2.1 bt481.2.2 l1_0 (x475000_1.set (bt478.1 : Int).toNat bt481.1) t473) else (none)) else (none)))) = some (r1, r2, r3, r4) := by first | (rw [hy475]; with_reducible exact H) | (have H2_ := (Option.bind_some _ _).symm.trans H; rw [hy475]; with_reducible exact H2_) | (have H2_ := (Option.bind_some _ _).symm.trans H; with_reducible exact H2_) | with_reducible exact H | (rw [hy475]; exact H) | exact H
    have Ny475 := Aside0.mk hy475
    clear hy475
    replace H := Option.bind_eq_some_iff.mp H
    obtain ⟨⟨t478, t479, t480⟩, A140, H⟩ := H
    replace H : ((spec_l1Below.f s0_0 t479 t480 256).bind fun bt481 => (if 0 ≤ t478 then (if t478 < (x475000_1.length : Int) then (spec_l6DrawMem.l0 k1 (wrap64 (x6_1 + 1)) s0_0 bt481.2.1 bt481.2.2 l1_0 (x475000_1.set (t478 : Int).toNat bt481.1) t473) else (none)) else (none))) = some (r1, r2, r3, r4) := H
    have A14 := Aside0.mk A140
    clear A140
    replace H := Option.bind_eq_some_iff.mp H
    obtain ⟨⟨t481, t482, t483⟩, A150, H⟩ := H
    replace H : (if 0 ≤ t478 then (if t478 < (x475000_1.length : Int) then (spec_l6DrawMem.l0 k1 (wrap64 (x6_1 + 1)) s0_0 t482 t483 l1_0 (x475000_1.set (t478 : Int).toNat t481) t473) else (none)) else (none)) = some (r1, r2, r3, r4) := H
    have A15 := Aside0.mk A150
    clear A150
    by_cases c16 : 0 ≤ t478
    ·rw [if_pos c16] at H
     have c16b0 : decide (0 ≤ t478) = true := decide_eq_true c16
     clear c16
     by_cases c17 : t478 < (x475000_1.length : Int)
     ·rw [if_pos c17] at H
      have c17b0 : decide (t478 < (x475000_1.length : Int)) = true := decide_eq_true c17
      clear c17
      obtain ⟨y484, hy484⟩ : ∃ y_ : List Int, y_ = (x475000_1.set (t478 : Int).toNat t481) := ⟨_, rfl⟩
      replace H : (spec_l6DrawMem.l0 k1 (wrap64 (x6_1 + 1)) s0_0 t482 t483 l1_0 y484 t473) = some (r1, r2, r3, r4) := by first | (rw [hy484]; with_reducible exact H) | (have H2_ := (Option.bind_some _ _).symm.trans H; rw [hy484]; with_reducible exact H2_) | (have H2_ := (Option.bind_some _ _).symm.trans H; with_reducible exact H2_) | with_reducible exact H | (rw [hy484]; exact H) | exact H
      have Ny484 := Aside0.mk hy484
      clear hy484
      have H' := Aside0.mk H
      clear H
      try go_wp2
      replace HO_475000 := Aside0.mk (Kd.Q_drew HO_475000.out)
      replace BK468 := Aside0.mk (blk_drew BK468.out)
      replace BK469 := Aside0.mk (blk_drew BK469.out)
      replace BK474 := Aside0.mk (blk_drew BK474.out)
      replace HI0 := Aside0.mk (IsS107.drew HI0.out)
      replace HK := Aside0.mk (keep_drew HK.out)
      replace HB := Aside0.mk (below_drew1 HB.out)
      refine start_ (n := 9) (S := fun w' => w'.cell? ⟨gb474, 0, none⟩ = some (u475000) ∧ w'.cell? ⟨gb474, 1, none⟩ = some (.int .i64 t473)) (ds := [8]) (bm 9 0) (by kernel_rfl) rfl (by kernel_rfl) ⟨cl BK474 0, cl BK474 1⟩ (fun hHeld => ?_); refine with_tabW spec_l6DrawMem.tab5 spec_l6DrawMem.bits5 (fun HT_ HW_ => ?_)
      generalize wr.drew = w19 at HO_475000 BK468 BK469 BK474 HI0 HK HB hHeld ⊢
      refine pw_ 0 (some 12) (bm 9 1) HT_ ?_
      refine pw_ 2 (some 14) (bm 9 5) HT_ ?_
      refine pw_ 5 (some 17) (bm 9 37) HT_ ?_
      refine tw_ 1 (some 13) (bm 9 39) HT_ HW_ hHeld ?_
      refine ow_ 3 (some 15) (bm 9 47) HT_ (fun K hK => ?_)
      refine Kd.R_lit_step (Kd.int .i64) _ 3 ?hg (N := 15) ?hd (xs := ([0, 1, 16, 255, 256, 257, 510, 511, 258, 300] : List Int)) (inner := [.int .i64 0, .int .i64 1, .int .i64 16, .int .i64 255, .int .i64 256, .int .i64 257, .int .i64 510, .int .i64 511, .int .i64 258, .int .i64 300]) (ok := fun _ => True) (okp := fun _ => True) ?hr ?hp (fun _ hk => hk) trivial (Below.refl _ _) (Nat.le_refl _) (by simp) ?_; (case hd => rfl); (case hg => rfl); (case hr => first | (go_simp; done) | (go_simp; rfl)); (case hp => exact (reI _))
      intro v476 w20 ho21 hb hg_ hnew_
      clear hg_ hnew_
      (first | rw [← Ny475.out] at ho21 | (simp only [Int.reduceToNat] at ho21; rw [← Ny475.out] at ho21))
      have HO477 := Aside0.mk (Kd.R_lower (Kd.R_new' ho21 (Kd.Q_lt (kq HO_475000.out))) (keep_size (w := w) (g := g) (row := none) (kp HK.out)))
      replace HO_475000 := Aside0.mk (Kd.Q_elder' (kq HO_475000.out) (Kd.R_base ho21) hb)
      replace BK468 := Aside0.mk (bb BK468 hb)
      replace BK469 := Aside0.mk (bb BK469 hb)
      replace BK474 := Aside0.mk (bb BK474 hb)
      replace HI0 := Aside0.mk (IsS107.below (si HI0.out) hb)
      replace HK := Aside0.mk (KeepBut.trans (kp HK.out) (KeepBut.of_below hb g none) (.inl rfl))
      replace HB := Aside0.mk (below_step (bi HB.out) hb)
      clear hb ho21
      obtain ⟨Ao22, co22, eo22⟩ := Kd.R_slice HO477.out
      (first | subst eo22 | (injection eo22 with f1_ f2_ f3_; have f4_ := f1_.symm; have f5_ := f3_.symm; clear f1_ f2_ f3_; subst f4_; subst f5_))
      refine hK.out _ _ ⟨cl BK474 0, cl BK474 1⟩ (fun hHeld => ?_)
      clear hK K
      refine nw_ 15 ?_
      refine ow_ 4 (some 16) (bm 9 63) HT_ (fun K hK => ?_)
      refine gw_ Try.func70 #[.pointer (some ⟨g, 0, none⟩), .slice Ao22 y475.length co22] ?_
      with_reducible refine (spec_l1PickInt.calls g s0_0 x1001_1 x1002_1 _ _ y475 t478 t479 t480 w0 _ ?side1 ?side2 ?side3 ?side4 ?side5 A14.out).mono ?_
      (case side1 => exact si HI0.out)
      (case side2 => exact bi HB.out)
      (case side3 => exact kc (Kd.R_reads' HO477.out).2.2)
      (case side4 => exact (Kd.R_reads' HO477.out).2.1)
      (case side5 => exact far_slice (IsS107.own_ne HI0.out HO477.out (by decide)))
      rintro e w23 ⟨rfl, hi, hb, hk⟩
      refine ⟨_, rfl, ?_⟩
      replace HO_475000 := Aside0.mk (Kd.Q_mono (Kd.Q_keep (IsS107.apartQ (show IsS107 w0 _ g s0_0 x1001_1 x1002_1 from si HI0.out) (kq HO_475000.out) (by decide)) hk (fun _ h => h.2)) (fun _ h => h.1))
      replace BK468 := Aside0.mk (kB hk (kb BK468.out) NB468_0)
      replace BK469 := Aside0.mk (kB hk (kb BK469.out) NB469_0)
      replace BK474 := Aside0.mk (kB hk (kb BK474.out) NB474_0)
      replace HO477 := Aside0.mk (Kd.R_mono (Kd.R_keep (IsS107.apart (show IsS107 w0 _ g s0_0 x1001_1 x1002_1 from si HI0.out) (kr HO477.out) (by decide)) hk (fun _ h => h.2)) (fun _ h => h.1))
      replace HK := Aside0.mk (KeepBut.trans (kp HK.out) hk (.inl rfl))
      replace HB := Aside0.mk (hb)
      replace HI0 := Aside0.mk (hi)
      (try clear hb); (try clear hb2); (try clear hk); (try clear hi)
      refine hK.out _ _ ⟨cl BK474 0, cl BK474 1⟩ (fun hHeld => ?_)
      clear hK K
      refine nw_ 16 ?_
      refine ow_ 6 (some 18) (bm 9 127) HT_ (fun K hK => ?_)
      refine gw_ Try.func60 #[.pointer (some ⟨g, 0, none⟩), .int .i64 256] ?_
      with_reducible refine (spec_l1Below.calls g s0_0 t479 t480 256 t481 t482 t483 w0 _ ?side1 ?side2 A15.out).mono ?_
      (case side1 => exact si HI0.out)
      (case side2 => exact bi HB.out)
      rintro e w24 ⟨rfl, hi, hb, hk⟩
      refine ⟨_, rfl, ?_⟩
      replace HO_475000 := Aside0.mk (Kd.Q_mono (Kd.Q_keep (IsS107.apartQ (show IsS107 w0 _ g s0_0 t479 t480 from si HI0.out) (kq HO_475000.out) (by decide)) hk (fun _ h => h.2)) (fun _ h => h.1))
      replace BK468 := Aside0.mk (kB hk (kb BK468.out) NB468_0)
      replace BK469 := Aside0.mk (kB hk (kb BK469.out) NB469_0)
      replace BK474 := Aside0.mk (kB hk (kb BK474.out) NB474_0)
      replace HO477 := Aside0.mk (Kd.R_mono (Kd.R_keep (IsS107.apart (show IsS107 w0 _ g s0_0 t479 t480 from si HI0.out) (kr HO477.out) (by decide)) hk (fun _ h => h.2)) (fun _ h => h.1))
      replace HK := Aside0.mk (KeepBut.trans (kp HK.out) hk (.inl rfl))
      replace HB := Aside0.mk (hb)
      replace HI0 := Aside0.mk (hi)
      (try clear hb); (try clear hb2); (try clear hk); (try clear hi)
      have p18 : 0 ≤ (t478 : Int) := dt
      have q18 : (t478 : Int) < ((x475000_1.length : Int) : Int) := dt
      obtain ⟨go18, oo18, co18, eo18, gb18, gl18, cl18, HG18⟩ := Kd.Q_form HO_475000.out (by omega)
      (first | cases eo18 | (injection eo18 with ea_ en_ ec_; (first | subst ea_ | (injection ea_ with ea_; subst ea_)); subst ec_; clear en_))
      have GB18 := Aside0.mk gb18
      have GG18 := Aside0.mk HG18
      clear gb18 gl18 HG18
      obtain ⟨hx18_0, hf18_0⟩ := Kd.Q_cell 0 HO_475000.out (t478 : Int) p18 q18
      replace p18 := eq_true p18
      replace q18 := eq_true q18
      have HN0_go18 := Aside0.mk (show g ≠ go18 from by have h_ := IsS107.own_neQ HI0.out HO_475000.out (by decide); intro e_; exact h_ (by rw [e_]; rfl))
      have HP25 := (Kd.Q_putg HO_475000.out (t478 : Int) dt (by have h_ : (t478 : Int) < ((x475000_1.length : Int) : Int) := dt; first | exact h_ | (have e_ := (Kd.Q_reads' HO_475000.out).1; omega) | simpa using h_) t481).1
      rw [← Ny484.out] at HP25
      have HQ25 := Aside0.mk HP25
      clear HP25
      refine hK.out _ _ ⟨cl BK474 0, cl BK474 1⟩ (fun hHeld => ?_)
      clear hK K
      refine nw_ 18 ?_
      refine pw_ 7 (some 19) (bm 9 255) HT_ ?_
      refine last_ (i := 8) (N := none) #[true, true, true, true, true, true, true, true, true] rfl rfl (one_of HT_.out (by kernel_rfl)) (by decide) (fun K hK => ?_)
      refine skip_ (w1 := ?_) (by rfl) rfl ?_ ?_
      rotate_left
      ·go_simp
       rfl
      refine hK.out _ _ ?_
      clear hK K
      refine done_ (done_of HT_.out (by kernel_rfl)) ?_
      try go_wp2
      go_roundg k1
      case measure => have := HK1.out; omega
      case rel => exact ⟨(wrap64 (x6_1 + 1)), (t482), (t483), (y484), (.slice (some ⟨go18, oo18, none⟩) x475000_1.length co18), (by first | rfl | (simp; done) | (simp [*]; done)), H', ⟨by have := HK1.out; omega⟩, ⟨kq (Kd.Q_mono HQ25.out (fun _ hk => trivial))⟩, ⟨by (with_reducible repeat (first | refine blk_drewN ?_ _ | refine blk_drew ?_ | refine blk_alloc ?_ _)); refine blk_far ?_ (by have h_ := Kd.Q_ne HO_475000.out BK468.out (by decide); intro e_; exact h_ (by rw [e_]; rfl)) _; (with_reducible repeat (first | refine blk_drewN ?_ _ | refine blk_drew ?_ | refine blk_alloc ?_ _)); exact BK468.out⟩, ⟨by (with_reducible repeat (first | refine blk_drewN ?_ _ | refine blk_drew ?_ | refine blk_alloc ?_ _)); refine blk_far ?_ (by have h_ := Kd.Q_ne HO_475000.out BK469.out (by decide); intro e_; exact h_ (by rw [e_]; rfl)) _; (with_reducible repeat (first | refine blk_drewN ?_ _ | refine blk_drew ?_ | refine blk_alloc ?_ _)); exact BK469.out⟩, ⟨by (with_reducible repeat (first | refine blk_drewN ?_ _ | refine blk_drew ?_ | refine blk_alloc ?_ _)); refine blk_far ?_ (by have h_ := Kd.Q_ne HO_475000.out BK474.out (by decide); intro e_; exact h_ (by rw [e_]; rfl)) _; (with_reducible repeat (first | refine blk_drewN ?_ _ | refine blk_drew ?_ | refine blk_alloc ?_ _)); exact BK474.out⟩, ⟨si HI0.out⟩, ⟨by repeat (first | (with_reducible first | exact HK.out | apply KeepBut.set_ | apply keep_drewN | apply keep_drew | apply keep_alloc | refine keep_far ?_ GB18.out _ | refine keep_far ?_ GW468.out _ | refine keep_far ?_ GW469.out _ | refine keep_far ?_ GW474.out _) | exact HK.out)⟩, ⟨by repeat (first | (with_reducible first | exact HB.out | apply below_alloc | apply pw_below_drewN | apply below_drew1 | refine below_set ?_ (Nat.le_trans HL.out GB18.out) | refine below_set ?_ (IsS107.ge HI0.out) | refine below_set ?_ GE468.out | refine below_set ?_ GE469.out | refine below_set ?_ GE474.out) | exact HB.out)⟩⟩
     ·rw [if_neg c17] at H
      exact absurd H (by simp)
    ·rw [if_neg c16] at H
     exact absurd H (by simp)
   ·rw [if_neg c13] at H
    have c13b0 : decide (x6_1 < 20) = false := decide_eq_false c13
    clear c13
    replace H := Option.bind_eq_some_iff.mp H
    obtain ⟨t485, A260, H⟩ := H
    replace H : ((spec_l1Below.f s0_0 x1001_1 x1002_1 t485).bind fun bt486 => ((spec_l1Below.f s0_0 bt486.2.1 bt486.2.2 30).bind fun bt489 => (if bt489.1 = 0 then ((spec_l1PickInt.f s0_0 bt489.2.1 bt489.2.2 (([(-1), 8] : List Int))).bind fun bt495 => (some (x475000_1, bt495.1, bt495.2.1, bt495.2.2))) else (if bt489.1 = 1 then (if 1 ≤ (x475000_1.length : Int) then (some ((x475000_1.drop (1 : Int).toNat), bt486.1, bt489.2.1, bt489.2.2)) else (none)) else (if bt489.1 = 2 then (if 256 < (x475000_1.length : Int) then (some ((x475000_1.set (256 : Int).toNat 256), bt486.1, bt489.2.1, bt489.2.2)) else (none)) else (some (x475000_1, bt486.1, bt489.2.1, bt489.2.2))))))) = some (r1, r2, r3, r4) := H
    have A26 := Aside0.mk A260
    clear A260
    replace H := Option.bind_eq_some_iff.mp H
    obtain ⟨⟨t486, t487, t488⟩, A270, H⟩ := H
    replace H : ((spec_l1Below.f s0_0 t487 t488 30).bind fun bt489 => (if bt489.1 = 0 then ((spec_l1PickInt.f s0_0 bt489.2.1 bt489.2.2 (([(-1), 8] : List Int))).bind fun bt495 => (some (x475000_1, bt495.1, bt495.2.1, bt495.2.2))) else (if bt489.1 = 1 then (if 1 ≤ (x475000_1.length : Int) then (some ((x475000_1.drop (1 : Int).toNat), t486, bt489.2.1, bt489.2.2)) else (none)) else (if bt489.1 = 2 then (if 256 < (x475000_1.length : Int) then (some ((x475000_1.set (256 : Int).toNat 256), t486, bt489.2.1, bt489.2.2)) else (none)) else (some (x475000_1, t486, bt489.2.1, bt489.2.2)))))) = some (r1, r2, r3, r4) := H
    have A27 := Aside0.mk A270
    clear A270
    replace H := Option.bind_eq_some_iff.mp H
    obtain ⟨⟨t489, t490, t491⟩, A280, H⟩ := H
    replace H : (if t489 = 0 then ((spec_l1PickInt.f s0_0 t490 t491 (([(-1), 8] : List Int))).bind fun bt495 => (some (x475000_1, bt495.1, bt495.2.1, bt495.2.2))) else (if t489 = 1 then (if 1 ≤ (x475000_1.length : Int) then (some ((x475000_1.drop (1 : Int).toNat), t486, t490, t491)) else (none)) else (if t489 = 2 then (if 256 < (x475000_1.length : Int) then (some ((x475000_1.set (256 : Int).toNat 256), t486, t490, t491)) else (none)) else (some (x475000_1, t486, t490, t491))))) = some (r1, r2, r3, r4) := H
    have A28 := Aside0.mk A280
    clear A280
    by_cases c29 : t489 = 0
    ·rw [if_pos c29] at H
     have c29b0 : (t489 == 0) = true := beq_iff_eq.mpr c29
     have c29b1 : (t489 != 0) = false := bne_eq_false_iff_eq.mpr c29
     clear c29
     obtain ⟨y492, hy492⟩ : ∃ y_ : List Int, y_ = (([(-1), 8] : List Int)) := ⟨_, rfl⟩
     replace H : ((spec_l1PickInt.f s0_0 t490 t491 y492).bind fun bt495 => (some (x475000_1, bt495.1, bt495.2.1, bt495.2.2))) = some (r1, r2, r3, r4) := by first | (rw [hy492]; with_reducible exact H) | (have H2_ := (Option.bind_some _ _).symm.trans H; rw [hy492]; with_reducible exact H2_) | (have H2_ := (Option.bind_some _ _).symm.trans H; with_reducible exact H2_) | with_reducible exact H | (rw [hy492]; exact H) | exact H
     have Ny492 := Aside0.mk hy492
     clear hy492
     replace H := Option.bind_eq_some_iff.mp H
     obtain ⟨⟨t495, t496, t497⟩, A300, H⟩ := H
     replace H : (some (x475000_1, t495, t496, t497)) = some (r1, r2, r3, r4) := H
     have A30 := Aside0.mk A300
     clear A300
     simp only [Option.some.injEq, Prod.mk.injEq] at H
     obtain ⟨rfl, rfl, rfl, rfl⟩ := H
     have hnb31 := NB468_469.out
     have hnc31 := NB469_468.out
     have hnb32 := NB468_474.out
     have hnc32 := NB474_468.out
     have hnb33 := NB468_0.out
     have hnc33 := NB0_468.out
     have hcz34_0 : wr.cell? ⟨gb468, 0, none⟩ = some (.slice A1_0 l1_0.length c1_0) := cl BK468 0
     have hfz34_0 := blk_frozen BK468.out 0
     go_wp2_with (first | ((with_reducible refine gate_callee (f := 117) rfl ?_); refine goesM_ (some 24) rfl rfl Try.func117 #[.int .i64 (l1_0.length : Int), .int .i64 1] ?_; (with_reducible refine (spec_l1Max.calls (l1_0.length : Int) 1 t485 _ A26.out).mono ?_); rintro e w' ⟨rfl, ⟨nd, rfl⟩⟩; refine ⟨_, rfl, ?_⟩; (try (rw [drewN_self wr]; generalize hq_ : World.drewN wr _ = wr; have n0_ : Aside0 (Kd.Q (Kd.int .i64) 3 wr w.heap.size (fun _ => True) u475000 x475000_1) := ⟨by rw [← hq_]; exact (kq HO_475000.out)⟩; have n1_ : Aside0 (wr.heap[gb468]? = some (.cells #[.slice A1_0 l1_0.length c1_0] 29 (0, 0))) := ⟨by rw [← hq_]; exact (kb BK468.out)⟩; have n2_ : Aside0 (wr.heap[gb469]? = some (.cells #[.slice none 0 0, .int .i64 0] 32 (0, 0))) := ⟨by rw [← hq_]; exact (kb BK469.out)⟩; have n3_ : Aside0 (wr.heap[gb474]? = some (.cells #[u475000, .int .i64 t473] 32 (0, 0))) := ⟨by rw [← hq_]; exact (kb BK474.out)⟩; have n4_ : Aside0 (IsS107 w0 wr g s0_0 x1001_1 x1002_1) := ⟨by rw [← hq_]; exact (si HI0.out)⟩; have n5_ : Aside0 (KeepBut w wr g none) := ⟨by rw [← hq_]; exact (kp HK.out)⟩; have n6_ : Aside0 (Below w0.heap.size w0 wr) := ⟨by rw [← hq_]; exact (bi HB.out)⟩; clear HO_475000 BK468 BK469 BK474 HI0 HK HB hq_; have HO_475000 := n0_; have BK468 := n1_; have BK469 := n2_; have BK474 := n3_; have HI0 := n4_; have HK := n5_; have HB := n6_; clear n0_ n1_ n2_ n3_ n4_ n5_ n6_))) | ((with_reducible refine gate_callee (f := 60) rfl ?_); refine goesM_ (some 25) rfl rfl Try.func60 #[.pointer (some ⟨g, 0, none⟩), .int .i64 t485] ?_; (with_reducible refine (spec_l1Below.calls g s0_0 x1001_1 x1002_1 t485 t486 t487 t488 w0 _ ?side1 ?side2 A27.out).mono ?_); (case side1 => exact si HI0.out); (case side2 => exact bi HB.out); rintro e w35 ⟨rfl, hi, hb, hk⟩; refine ⟨_, rfl, ?_⟩; replace HO_475000 := Aside0.mk (Kd.Q_mono (Kd.Q_keep (IsS107.apartQ (show IsS107 w0 _ g s0_0 x1001_1 x1002_1 from si HI0.out) (kq HO_475000.out) (by decide)) hk (fun _ h => h.2)) (fun _ h => h.1)); replace BK468 := Aside0.mk (kB hk (kb BK468.out) NB468_0); replace BK469 := Aside0.mk (kB hk (kb BK469.out) NB469_0); replace BK474 := Aside0.mk (kB hk (kb BK474.out) NB474_0); replace HK := Aside0.mk (KeepBut.trans (kp HK.out) hk (.inl rfl)); replace HB := Aside0.mk (hb); replace HI0 := Aside0.mk (hi); (try clear hb); (try clear hb2); (try clear hk); (try clear hi); have hnb36 := NB474_469.out; have hnc36 := NB469_474.out; have hnb37 := NB474_0.out; have hnc37 := NB0_474.out; obtain ⟨hcz38_0, hcz38_1⟩ := ce2 BK474; have hfz38_0 := blk_frozen BK474.out 0; have hfz38_1 := blk_frozen BK474.out 1) | ((with_reducible refine gate_callee (f := 60) rfl ?_); refine goesM_ (some 28) rfl rfl Try.func60 #[.pointer (some ⟨g, 0, none⟩), .int .i64 30] ?_; (with_reducible refine (spec_l1Below.calls g s0_0 t487 t488 30 t489 t490 t491 w0 _ ?side1 ?side2 A28.out).mono ?_); (case side1 => exact si HI0.out); (case side2 => exact bi HB.out); rintro e w39 ⟨rfl, hi, hb, hk⟩; refine ⟨_, rfl, ?_⟩; replace HO_475000 := Aside0.mk (Kd.Q_mono (Kd.Q_keep (IsS107.apartQ (show IsS107 w0 _ g s0_0 t487 t488 from si HI0.out) (kq ((Kd.Q_mono (Kd.Q_far (p := ⟨gb474, 1, none⟩) (Kd.Q_types HO_475000.out BK474.out (by decide)) (fun _ hk => hk.2) (.int .i64 t486)) (fun _ h_ => h_.1)))) (by decide)) hk (fun _ h => h.2)) (fun _ h => h.1)); replace BK468 := Aside0.mk (kB hk (kf BK468.out) NB468_0); replace BK469 := Aside0.mk (kB hk (kf BK469.out) NB469_0); replace BK474 := Aside0.mk (KeepBut.blk hk (g' := gb474) (o := .cells #[u475000, .int .i64 t486] 32 (0, 0)) (kt BK474.out) NB474_0.out (by simp)); replace HK := Aside0.mk (KeepBut.trans (kp HK.out) hk (.inl rfl)); replace HB := Aside0.mk (hb); replace HI0 := Aside0.mk (hi); (try clear hb); (try clear hb2); (try clear hk); (try clear hi)) | ((with_reducible refine gate_dst (N := 32) rfl ?_); refine Kd.R_lit (Kd.int .i64) _ 3 ?hg (N := 32) ?hd (xs := ([(-1), 8] : List Int)) (inner := [.int .i64 (-1), .int .i64 8]) (ok := fun _ => True) (okp := fun _ => True) ?hr ?hp (fun _ hk => hk) trivial (Below.refl _ _) (Nat.le_refl _) (by simp) ?_; (case hd => rfl); (case hg => rfl); (case hr => first | (go_simp; done) | (go_simp; rfl)); (case hp => exact (reI _)); intro v493 w40 ho41 hb hg_ hnew_; clear hg_ hnew_; (first | rw [← Ny492.out] at ho41 | (simp only [Int.reduceToNat] at ho41; rw [← Ny492.out] at ho41)); have HO494 := Aside0.mk (Kd.R_lower (Kd.R_new' ho41 (Kd.Q_lt (kq HO_475000.out))) (keep_size (w := w) (g := g) (row := none) (kp HK.out))); replace HO_475000 := Aside0.mk (Kd.Q_elder' (kq HO_475000.out) (Kd.R_base ho41) hb); replace BK468 := Aside0.mk (bb BK468 hb); replace BK469 := Aside0.mk (bb BK469 hb); replace BK474 := Aside0.mk (bb BK474 hb); replace HI0 := Aside0.mk (IsS107.below (si HI0.out) hb); replace HK := Aside0.mk (KeepBut.trans (kp HK.out) (KeepBut.of_below hb g none) (.inl rfl)); replace HB := Aside0.mk (below_step (bi HB.out) hb); clear hb ho41; obtain ⟨Ao42, co42, eo42⟩ := Kd.R_slice HO494.out; subst eo42) | ((with_reducible refine gate_callee (f := 70) rfl ?_); refine goesM_ (some 33) rfl rfl Try.func70 #[.pointer (some ⟨g, 0, none⟩), .slice Ao42 y492.length co42] ?_; (with_reducible refine (spec_l1PickInt.calls g s0_0 t490 t491 _ _ y492 t495 t496 t497 w0 _ ?side1 ?side2 ?side3 ?side4 ?side5 A30.out).mono ?_); (case side1 => exact si HI0.out); (case side2 => exact bi HB.out); (case side3 => exact kc (Kd.R_reads' HO494.out).2.2); (case side4 => exact (Kd.R_reads' HO494.out).2.1); (case side5 => exact far_slice (IsS107.own_ne HI0.out HO494.out (by decide))); rintro e w43 ⟨rfl, hi, hb, hk⟩; refine ⟨_, rfl, ?_⟩; replace HO_475000 := Aside0.mk (Kd.Q_mono (Kd.Q_keep (IsS107.apartQ (show IsS107 w0 _ g s0_0 t490 t491 from si HI0.out) (kq HO_475000.out) (by decide)) hk (fun _ h => h.2)) (fun _ h => h.1)); replace BK468 := Aside0.mk (kB hk (kb BK468.out) NB468_0); replace BK469 := Aside0.mk (kB hk (kb BK469.out) NB469_0); replace BK474 := Aside0.mk (kB hk (kb BK474.out) NB474_0); replace HO494 := Aside0.mk (Kd.R_mono (Kd.R_keep (IsS107.apart (show IsS107 w0 _ g s0_0 t490 t491 from si HI0.out) (kr HO494.out) (by decide)) hk (fun _ h => h.2)) (fun _ h => h.1)); replace HK := Aside0.mk (KeepBut.trans (kp HK.out) hk (.inl rfl)); replace HB := Aside0.mk (hb); replace HI0 := Aside0.mk (hi); (try clear hb); (try clear hb2); (try clear hk); (try clear hi); obtain ⟨hcz44_0, hcz44_1⟩ := ce2 BK474; obtain ⟨hfz44_0, hfz44_1⟩ := fz2 BK474; obtain ⟨Ao45, co45, eo45, _⟩ := Kd.Q_slice HO_475000.out; subst eo45; have hnb46 := NB469_0.out; have hnc46 := NB0_469.out; obtain ⟨hcz47_0, hcz47_1⟩ := ce2 BK469; have hfz47_0 := blk_frozen BK469.out 0; have hfz47_1 := blk_frozen BK469.out 1))
     refine bodyPost_ret (results_cell_row rfl _ _ gb469 32 #[.slice Ao45 x475000_1.length co45, .int .i64 t495] (0, 0) _ rfl (bf NB469_474 BK469.out) Try.underlying32 rfl (by kernel_rfl)) rfl ?_
     exact ⟨_, rt, kq (Kd.Q_mono (Kd.Q_far (p := ⟨gb469, 1, none⟩) (Kd.Q_far (p := ⟨gb469, 0, none⟩) (Kd.Q_far (p := ⟨gb474, 1, none⟩) (Kd.Q_types (Kd.Q_types HO_475000.out BK474.out (by decide)) BK469.out (by decide)) (fun _ hk => hk.1.2) (.int .i64 t495)) (fun _ hk => hk.2) (.slice Ao45 x475000_1.length co45)) (fun _ hk => hk.2) (.int .i64 t495)) (fun _ hk => trivial)), si HI0.out, bi HB.out, kp HK.out⟩
    ·rw [if_neg c29] at H
     have c29b0 : (t489 == 0) = false := beq_eq_false_iff_ne.mpr c29
     have c29b1 : (t489 != 0) = true := bne_iff_ne.mpr c29
     by_cases c48 : t489 = 1
     ·rw [if_pos c48] at H
      have c48b0 : (t489 == 1) = true := beq_iff_eq.mpr c48
      have c48b1 : (t489 != 1) = false := bne_eq_false_iff_eq.mpr c48
      clear c48
      by_cases c49 : 1 ≤ (x475000_1.length : Int)
      ·rw [if_pos c49] at H
       have c49b0 := eq_true c49
       have c49b1 : decide (1 ≤ (x475000_1.length : Int)) = true := decide_eq_true c49
       clear c49
       obtain ⟨y498, hy498⟩ : ∃ y_ : List Int, y_ = (x475000_1.drop (1 : Int).toNat) := ⟨_, rfl⟩
       replace H : (some (y498, t486, t490, t491)) = some (r1, r2, r3, r4) := by first | (rw [hy498]; with_reducible exact H) | (have H2_ := (Option.bind_some _ _).symm.trans H; rw [hy498]; with_reducible exact H2_) | (have H2_ := (Option.bind_some _ _).symm.trans H; with_reducible exact H2_) | with_reducible exact H | (rw [hy498]; exact H) | exact H
       have Ny498 := Aside0.mk hy498
       clear hy498
       simp only [Option.some.injEq, Prod.mk.injEq] at H
       obtain ⟨rfl, rfl, rfl, rfl⟩ := H
       have hnb50 := NB468_469.out
       have hnc50 := NB469_468.out
       have hnb51 := NB468_474.out
       have hnc51 := NB474_468.out
       have hnb52 := NB468_0.out
       have hnc52 := NB0_468.out
       have hcz53_0 : wr.cell? ⟨gb468, 0, none⟩ = some (.slice A1_0 l1_0.length c1_0) := cl BK468 0
       have hfz53_0 := blk_frozen BK468.out 0
       go_wp2_with (first | ((with_reducible refine gate_callee (f := 117) rfl ?_); refine goesM_ (some 24) rfl rfl Try.func117 #[.int .i64 (l1_0.length : Int), .int .i64 1] ?_; (with_reducible refine (spec_l1Max.calls (l1_0.length : Int) 1 t485 _ A26.out).mono ?_); rintro e w' ⟨rfl, ⟨nd, rfl⟩⟩; refine ⟨_, rfl, ?_⟩; (try (rw [drewN_self wr]; generalize hq_ : World.drewN wr _ = wr; have n0_ : Aside0 (Kd.Q (Kd.int .i64) 3 wr w.heap.size (fun _ => True) u475000 x475000_1) := ⟨by rw [← hq_]; exact (kq HO_475000.out)⟩; have n1_ : Aside0 (wr.heap[gb468]? = some (.cells #[.slice A1_0 l1_0.length c1_0] 29 (0, 0))) := ⟨by rw [← hq_]; exact (kb BK468.out)⟩; have n2_ : Aside0 (wr.heap[gb469]? = some (.cells #[.slice none 0 0, .int .i64 0] 32 (0, 0))) := ⟨by rw [← hq_]; exact (kb BK469.out)⟩; have n3_ : Aside0 (wr.heap[gb474]? = some (.cells #[u475000, .int .i64 t473] 32 (0, 0))) := ⟨by rw [← hq_]; exact (kb BK474.out)⟩; have n4_ : Aside0 (IsS107 w0 wr g s0_0 x1001_1 x1002_1) := ⟨by rw [← hq_]; exact (si HI0.out)⟩; have n5_ : Aside0 (KeepBut w wr g none) := ⟨by rw [← hq_]; exact (kp HK.out)⟩; have n6_ : Aside0 (Below w0.heap.size w0 wr) := ⟨by rw [← hq_]; exact (bi HB.out)⟩; clear HO_475000 BK468 BK469 BK474 HI0 HK HB hq_; have HO_475000 := n0_; have BK468 := n1_; have BK469 := n2_; have BK474 := n3_; have HI0 := n4_; have HK := n5_; have HB := n6_; clear n0_ n1_ n2_ n3_ n4_ n5_ n6_))) | ((with_reducible refine gate_callee (f := 60) rfl ?_); refine goesM_ (some 25) rfl rfl Try.func60 #[.pointer (some ⟨g, 0, none⟩), .int .i64 t485] ?_; (with_reducible refine (spec_l1Below.calls g s0_0 x1001_1 x1002_1 t485 t486 t487 t488 w0 _ ?side1 ?side2 A27.out).mono ?_); (case side1 => exact si HI0.out); (case side2 => exact bi HB.out); rintro e w54 ⟨rfl, hi, hb, hk⟩; refine ⟨_, rfl, ?_⟩; replace HO_475000 := Aside0.mk (Kd.Q_mono (Kd.Q_keep (IsS107.apartQ (show IsS107 w0 _ g s0_0 x1001_1 x1002_1 from si HI0.out) (kq HO_475000.out) (by decide)) hk (fun _ h => h.2)) (fun _ h => h.1)); replace BK468 := Aside0.mk (kB hk (kb BK468.out) NB468_0); replace BK469 := Aside0.mk (kB hk (kb BK469.out) NB469_0); replace BK474 := Aside0.mk (kB hk (kb BK474.out) NB474_0); replace HK := Aside0.mk (KeepBut.trans (kp HK.out) hk (.inl rfl)); replace HB := Aside0.mk (hb); replace HI0 := Aside0.mk (hi); (try clear hb); (try clear hb2); (try clear hk); (try clear hi); have hnb55 := NB474_469.out; have hnc55 := NB469_474.out; have hnb56 := NB474_0.out; have hnc56 := NB0_474.out; obtain ⟨hcz57_0, hcz57_1⟩ := ce2 BK474; have hfz57_0 := blk_frozen BK474.out 0; have hfz57_1 := blk_frozen BK474.out 1) | ((with_reducible refine gate_callee (f := 60) rfl ?_); refine goesM_ (some 28) rfl rfl Try.func60 #[.pointer (some ⟨g, 0, none⟩), .int .i64 30] ?_; (with_reducible refine (spec_l1Below.calls g s0_0 t487 t488 30 t489 t490 t491 w0 _ ?side1 ?side2 A28.out).mono ?_); (case side1 => exact si HI0.out); (case side2 => exact bi HB.out); rintro e w58 ⟨rfl, hi, hb, hk⟩; refine ⟨_, rfl, ?_⟩; replace HO_475000 := Aside0.mk (Kd.Q_mono (Kd.Q_keep (IsS107.apartQ (show IsS107 w0 _ g s0_0 t487 t488 from si HI0.out) (kq ((Kd.Q_mono (Kd.Q_far (p := ⟨gb474, 1, none⟩) (Kd.Q_types HO_475000.out BK474.out (by decide)) (fun _ hk => hk.2) (.int .i64 t486)) (fun _ h_ => h_.1)))) (by decide)) hk (fun _ h => h.2)) (fun _ h => h.1)); replace BK468 := Aside0.mk (kB hk (kf BK468.out) NB468_0); replace BK469 := Aside0.mk (kB hk (kf BK469.out) NB469_0); replace BK474 := Aside0.mk (KeepBut.blk hk (g' := gb474) (o := .cells #[u475000, .int .i64 t486] 32 (0, 0)) (kt BK474.out) NB474_0.out (by simp)); replace HK := Aside0.mk (KeepBut.trans (kp HK.out) hk (.inl rfl)); replace HB := Aside0.mk (hb); replace HI0 := Aside0.mk (hi); (try clear hb); (try clear hb2); (try clear hk); (try clear hi); obtain ⟨hcz59_0, hcz59_1⟩ := ce2 BK474; obtain ⟨hfz59_0, hfz59_1⟩ := fz2 BK474; obtain ⟨Ao60, co60, eo60, _⟩ := Kd.Q_slice HO_475000.out; subst eo60; have q61 : (1 : Int) ≤ ((x475000_1.length : Int) : Int) := dt; obtain ⟨i061, hi061, _, hsz61, _⟩ := info_parts info3; have hcut61 := cut_from (P := Try.prog) 30 3 .i64 Try.underlying30 hi061 1 hsz61 Ao60 x475000_1.length co60 1 (by omega) q61; have hr61 := Kd.Q_drop (k := (1 : Int).toNat) HO_475000.out (by omega); obtain ⟨A61, hA61⟩ : ∃ A1, A1 = (if co60 = (1 : Int).toNat then Ao60 else (Ao60 : Option Addr).map (·.add ((1 : Int).toNat * 1))) := ⟨_, rfl⟩; obtain ⟨c61, hc61⟩ : ∃ c1, c1 = co60 - (1 : Int).toNat := ⟨_, rfl⟩; have hy61 : y498.length = x475000_1.length - (1 : Int).toNat := (by rw [Ny498.out, List.length_drop]); rw [← Ny498.out] at hr61; rw [← hy61, ← hA61, ← hc61] at hcut61; replace hr61 : Kd.Q (Kd.int .i64) 3 w58 w.heap.size (fun _ => True) (.slice A61 y498.length c61) y498 := (by rw [hA61, hc61, hy61]; exact hr61); have HE61 : Aside0 ((Value.slice A61 y498.length c61).ownBlock = (.slice Ao60 x475000_1.length co60 : Value).ownBlock) := ⟨by rw [hA61]; split <;> (cases (Ao60 : Option Addr) <;> rfl)⟩; clear hy61 hi061 hsz61 HO_475000 hA61 hc61; have HO500 := Aside0.mk hr61; clear hr61; replace q61 := eq_true q61; have hnb62 := NB469_0.out; have hnc62 := NB0_469.out; obtain ⟨hcz63_0, hcz63_1⟩ := ce2 BK469; have hfz63_0 := blk_frozen BK469.out 0; have hfz63_1 := blk_frozen BK469.out 1))
       refine bodyPost_ret (results_cell_row rfl _ _ gb469 32 #[.slice A61 y498.length c61, .int .i64 t486] (0, 0) _ rfl (bf NB469_474 BK469.out) Try.underlying32 rfl (by kernel_rfl)) rfl ?_
       exact ⟨_, rt, kq (Kd.Q_mono (Kd.Q_far (p := ⟨gb469, 1, none⟩) (Kd.Q_far (p := ⟨gb469, 0, none⟩) (Kd.Q_far (p := ⟨gb474, 0, none⟩) (Kd.Q_types (Kd.Q_types HO500.out BK474.out (by decide)) BK469.out (by decide)) (fun _ hk => hk.1.2) (.slice A61 y498.length c61)) (fun _ hk => hk.2) (.slice A61 y498.length c61)) (fun _ hk => hk.2) (.int .i64 t486)) (fun _ hk => trivial)), si HI0.out, bi HB.out, kp HK.out⟩
      ·rw [if_neg c49] at H
       exact absurd H (by simp)
     ·rw [if_neg c48] at H
      have c48b0 : (t489 == 1) = false := beq_eq_false_iff_ne.mpr c48
      have c48b1 : (t489 != 1) = true := bne_iff_ne.mpr c48
      by_cases c64 : t489 = 2
      ·rw [if_pos c64] at H
       have c64b0 : (t489 == 2) = true := beq_iff_eq.mpr c64
       have c64b1 : (t489 != 2) = false := bne_eq_false_iff_eq.mpr c64
       clear c64
       by_cases c65 : 256 < (x475000_1.length : Int)
       ·rw [if_pos c65] at H
        have c65b0 : decide (256 < (x475000_1.length : Int)) = true := decide_eq_true c65
        have c65b1 : decide (256 < x475000_1.length) = true := decide_eq_true (by omega)
        clear c65
        obtain ⟨y501, hy501⟩ : ∃ y_ : List Int, y_ = (x475000_1.set (256 : Int).toNat 256) := ⟨_, rfl⟩
        replace H : (some (y501, t486, t490, t491)) = some (r1, r2, r3, r4) := by first | (rw [hy501]; with_reducible exact H) | (have H2_ := (Option.bind_some _ _).symm.trans H; rw [hy501]; with_reducible exact H2_) | (have H2_ := (Option.bind_some _ _).symm.trans H; with_reducible exact H2_) | with_reducible exact H | (rw [hy501]; exact H) | exact H
        have Ny501 := Aside0.mk hy501
        clear hy501
        simp only [Option.some.injEq, Prod.mk.injEq] at H
        obtain ⟨rfl, rfl, rfl, rfl⟩ := H
        have hnb67 := NB468_469.out
        have hnc67 := NB469_468.out
        have hnb68 := NB468_474.out
        have hnc68 := NB474_468.out
        have hnb69 := NB468_0.out
        have hnc69 := NB0_468.out
        have hcz70_0 : wr.cell? ⟨gb468, 0, none⟩ = some (.slice A1_0 l1_0.length c1_0) := cl BK468 0
        have hfz70_0 := blk_frozen BK468.out 0
        go_wp2_with (first | ((with_reducible refine gate_callee (f := 117) rfl ?_); refine goesM_ (some 24) rfl rfl Try.func117 #[.int .i64 (l1_0.length : Int), .int .i64 1] ?_; (with_reducible refine (spec_l1Max.calls (l1_0.length : Int) 1 t485 _ A26.out).mono ?_); rintro e w' ⟨rfl, ⟨nd, rfl⟩⟩; refine ⟨_, rfl, ?_⟩; (try (rw [drewN_self wr]; generalize hq_ : World.drewN wr _ = wr; have n0_ : Aside0 (Kd.Q (Kd.int .i64) 3 wr w.heap.size (fun _ => True) u475000 x475000_1) := ⟨by rw [← hq_]; exact (kq HO_475000.out)⟩; have n1_ : Aside0 (wr.heap[gb468]? = some (.cells #[.slice A1_0 l1_0.length c1_0] 29 (0, 0))) := ⟨by rw [← hq_]; exact (kb BK468.out)⟩; have n2_ : Aside0 (wr.heap[gb469]? = some (.cells #[.slice none 0 0, .int .i64 0] 32 (0, 0))) := ⟨by rw [← hq_]; exact (kb BK469.out)⟩; have n3_ : Aside0 (wr.heap[gb474]? = some (.cells #[u475000, .int .i64 t473] 32 (0, 0))) := ⟨by rw [← hq_]; exact (kb BK474.out)⟩; have n4_ : Aside0 (IsS107 w0 wr g s0_0 x1001_1 x1002_1) := ⟨by rw [← hq_]; exact (si HI0.out)⟩; have n5_ : Aside0 (KeepBut w wr g none) := ⟨by rw [← hq_]; exact (kp HK.out)⟩; have n6_ : Aside0 (Below w0.heap.size w0 wr) := ⟨by rw [← hq_]; exact (bi HB.out)⟩; clear HO_475000 BK468 BK469 BK474 HI0 HK HB hq_; have HO_475000 := n0_; have BK468 := n1_; have BK469 := n2_; have BK474 := n3_; have HI0 := n4_; have HK := n5_; have HB := n6_; clear n0_ n1_ n2_ n3_ n4_ n5_ n6_))) | ((with_reducible refine gate_callee (f := 60) rfl ?_); refine goesM_ (some 25) rfl rfl Try.func60 #[.pointer (some ⟨g, 0, none⟩), .int .i64 t485] ?_; (with_reducible refine (spec_l1Below.calls g s0_0 x1001_1 x1002_1 t485 t486 t487 t488 w0 _ ?side1 ?side2 A27.out).mono ?_); (case side1 => exact si HI0.out); (case side2 => exact bi HB.out); rintro e w71 ⟨rfl, hi, hb, hk⟩; refine ⟨_, rfl, ?_⟩; replace HO_475000 := Aside0.mk (Kd.Q_mono (Kd.Q_keep (IsS107.apartQ (show IsS107 w0 _ g s0_0 x1001_1 x1002_1 from si HI0.out) (kq HO_475000.out) (by decide)) hk (fun _ h => h.2)) (fun _ h => h.1)); replace BK468 := Aside0.mk (kB hk (kb BK468.out) NB468_0); replace BK469 := Aside0.mk (kB hk (kb BK469.out) NB469_0); replace BK474 := Aside0.mk (kB hk (kb BK474.out) NB474_0); replace HK := Aside0.mk (KeepBut.trans (kp HK.out) hk (.inl rfl)); replace HB := Aside0.mk (hb); replace HI0 := Aside0.mk (hi); (try clear hb); (try clear hb2); (try clear hk); (try clear hi); have hnb72 := NB474_469.out; have hnc72 := NB469_474.out; have hnb73 := NB474_0.out; have hnc73 := NB0_474.out; obtain ⟨hcz74_0, hcz74_1⟩ := ce2 BK474; have hfz74_0 := blk_frozen BK474.out 0; have hfz74_1 := blk_frozen BK474.out 1) | ((with_reducible refine gate_callee (f := 60) rfl ?_); refine goesM_ (some 28) rfl rfl Try.func60 #[.pointer (some ⟨g, 0, none⟩), .int .i64 30] ?_; (with_reducible refine (spec_l1Below.calls g s0_0 t487 t488 30 t489 t490 t491 w0 _ ?side1 ?side2 A28.out).mono ?_); (case side1 => exact si HI0.out); (case side2 => exact bi HB.out); rintro e w75 ⟨rfl, hi, hb, hk⟩; refine ⟨_, rfl, ?_⟩; replace HO_475000 := Aside0.mk (Kd.Q_mono (Kd.Q_keep (IsS107.apartQ (show IsS107 w0 _ g s0_0 t487 t488 from si HI0.out) (kq ((Kd.Q_mono (Kd.Q_far (p := ⟨gb474, 1, none⟩) (Kd.Q_types HO_475000.out BK474.out (by decide)) (fun _ hk => hk.2) (.int .i64 t486)) (fun _ h_ => h_.1)))) (by decide)) hk (fun _ h => h.2)) (fun _ h => h.1)); replace BK468 := Aside0.mk (kB hk (kf BK468.out) NB468_0); replace BK469 := Aside0.mk (kB hk (kf BK469.out) NB469_0); replace BK474 := Aside0.mk (KeepBut.blk hk (g' := gb474) (o := .cells #[u475000, .int .i64 t486] 32 (0, 0)) (kt BK474.out) NB474_0.out (by simp)); replace HK := Aside0.mk (KeepBut.trans (kp HK.out) hk (.inl rfl)); replace HB := Aside0.mk (hb); replace HI0 := Aside0.mk (hi); (try clear hb); (try clear hb2); (try clear hk); (try clear hi); obtain ⟨hcz76_0, hcz76_1⟩ := ce2 BK474; obtain ⟨hfz76_0, hfz76_1⟩ := fz2 BK474; have p66 : 0 ≤ (256 : Int) := (by omega); have q66 : (256 : Int) < ((x475000_1.length : Int) : Int) := dt; have qi66 : (256 < x475000_1.length) = True := eq_true (by omega); obtain ⟨go66, oo66, co66, eo66, gb66, gl66, cl66, HG66⟩ := Kd.Q_form HO_475000.out (by omega); (first | cases eo66 | (injection eo66 with ea_ en_ ec_; (first | subst ea_ | (injection ea_ with ea_; subst ea_)); subst ec_; clear en_)); have GB66 := Aside0.mk gb66; have GG66 := Aside0.mk HG66; clear gb66 gl66 HG66; obtain ⟨hx66_0, hf66_0⟩ := Kd.Q_cell 0 HO_475000.out (256 : Int) p66 q66; (try rw [show ((256 : Int)).toNat = 256 from rfl] at hx66_0); (try simp only [Nat.reduceMul, Nat.zero_mul, Nat.zero_add, Nat.reduceAdd] at hx66_0); (try rw [show ((256 : Int)).toNat = 256 from rfl] at hf66_0); (try simp only [Nat.reduceMul, Nat.zero_mul, Nat.zero_add, Nat.reduceAdd] at hf66_0); replace p66 := eq_true p66; replace q66 := eq_true q66; obtain ⟨hy77_, hz77_⟩ := Kd.Q_cell 0 HO_475000.out (256 : Int) (by omega) dt; (try simp only [Int.reduceToNat, Int.toNat_zero, Int.toNat_ofNat, Nat.reduceMul, Nat.zero_mul, Nat.zero_add] at hy77_ hz77_); (try rw [show ((256 : Int)).toNat = 256 from rfl] at hy77_); (try rw [show ((256 : Int)).toNat = 256 from rfl] at hz77_); have HP77 := Kd.Q_putg HO_475000.out (256 : Int) (by omega) (by have h_ : (256 : Int) < ((x475000_1.length : Int) : Int) := dt; first | exact h_ | (have e_ := (Kd.Q_reads' HO_475000.out).1; omega) | simpa using h_) 256) | ((with_reducible refine gate_store (t := 3) (p := 45) rfl ?_); refine store_event (t := 3) (p := 45) (v := ?vo_w78) (w1 := (w75.setCell ⟨go66, oo66 + (256 : Int).toNat, none⟩ (.int .i64 256))) ?hg ?ho ?hn ?hr ?_; (case ho => rfl); (case hg => rfl); (case hn => rfl); (case hr => first | (go_simp; done) | (go_simp; rfl)); intro w78 hw; have hg : w75.grownBy w78 (some go66) := (by rw [hw]; exact HP77.2); have hp_ : Kd.Q (Kd.int .i64) 3 w78 w.heap.size (fun _ => True) (.slice (some ⟨go66, oo66, none⟩) x475000_1.length co66) y501 := (by rw [hw, Ny501.out]; exact HP77.1); clear HP77; have n0_ := Aside0.mk (hp_); have n1_ := Aside0.mk (blk_grown (g := gb468) (o := .cells #[.slice A1_0 l1_0.length c1_0] 29 (0, 0)) (kb BK468.out) hg (Kd.Q_ne HO_475000.out BK468.out (by decide))); have n2_ := Aside0.mk (blk_grown (g := gb469) (o := .cells #[.slice none 0 0, .int .i64 0] 32 (0, 0)) (kb BK469.out) hg (Kd.Q_ne HO_475000.out BK469.out (by decide))); have n3_ := Aside0.mk (blk_grown (g := gb474) (o := .cells #[.slice (some ⟨go66, oo66, none⟩) x475000_1.length co66, .int .i64 t486] 32 (0, 0)) (kb BK474.out) hg (Kd.Q_ne HO_475000.out BK474.out (by decide))); have n4_ := Aside0.mk (IsS107.grown (si HI0.out) hg (IsS107.own_neQ HI0.out HO_475000.out (by decide))); have n5_ := Aside0.mk ((by rw [hw]; exact below_set (HB.out) (Nat.le_trans HL.out GB66.out) : Below w0.heap.size w0 w78)); have n6_ := Aside0.mk (KeepBut.trans (kp HK.out) (KeepBut.of_grown hg g) (Kd.Q_base2 HO_475000.out)); clear HO_475000; clear BK468; clear BK469; clear BK474; clear HI0; clear HB; clear HK; have HO_475000 := n0_; have BK468 := n1_; have BK469 := n2_; have BK474 := n3_; have HI0 := n4_; have HB := n5_; have HK := n6_; clear n0_ n1_ n2_ n3_ n4_ n5_ n6_; clear hg hw hp_; obtain ⟨hcz79_0, hcz79_1⟩ := ce2 BK474; obtain ⟨hfz79_0, hfz79_1⟩ := fz2 BK474; have hnb80 := NB469_0.out; have hnc80 := NB0_469.out; obtain ⟨hcz81_0, hcz81_1⟩ := ce2 BK469; have hfz81_0 := blk_frozen BK469.out 0; have hfz81_1 := blk_frozen BK469.out 1))
        refine bodyPost_ret (results_cell_row rfl _ _ gb469 32 #[.slice (some ⟨go66, oo66, none⟩) x475000_1.length co66, .int .i64 t486] (0, 0) _ rfl (bq BK469.out) Try.underlying32 rfl (by kernel_rfl)) rfl ?_
        exact ⟨_, rt, kq (Kd.Q_mono (Kd.Q_far (p := ⟨gb469, 1, none⟩) (Kd.Q_far (p := ⟨gb469, 0, none⟩) (Kd.Q_types HO_475000.out BK469.out (by decide)) (fun _ hk => hk.2) (.slice (some ⟨go66, oo66, none⟩) x475000_1.length co66)) (fun _ hk => hk.2) (.int .i64 t486)) (fun _ hk => trivial)), si HI0.out, bi HB.out, kp HK.out⟩
       ·rw [if_neg c65] at H
        exact absurd H (by simp)
      ·rw [if_neg c64] at H
       have c64b0 : (t489 == 2) = false := beq_eq_false_iff_ne.mpr c64
       have c64b1 : (t489 != 2) = true := bne_iff_ne.mpr c64
       simp only [Option.some.injEq, Prod.mk.injEq] at H
       obtain ⟨rfl, rfl, rfl, rfl⟩ := H
       have hnb82 := NB468_469.out
       have hnc82 := NB469_468.out
       have hnb83 := NB468_474.out
       have hnc83 := NB474_468.out
       have hnb84 := NB468_0.out
       have hnc84 := NB0_468.out
       have hcz85_0 : wr.cell? ⟨gb468, 0, none⟩ = some (.slice A1_0 l1_0.length c1_0) := cl BK468 0
       have hfz85_0 := blk_frozen BK468.out 0
       go_wp2_with (first | ((with_reducible refine gate_callee (f := 117) rfl ?_); refine goesM_ (some 24) rfl rfl Try.func117 #[.int .i64 (l1_0.length : Int), .int .i64 1] ?_; (with_reducible refine (spec_l1Max.calls (l1_0.length : Int) 1 t485 _ A26.out).mono ?_); rintro e w' ⟨rfl, ⟨nd, rfl⟩⟩; refine ⟨_, rfl, ?_⟩; (try (rw [drewN_self wr]; generalize hq_ : World.drewN wr _ = wr; have n0_ : Aside0 (Kd.Q (Kd.int .i64) 3 wr w.heap.size (fun _ => True) u475000 x475000_1) := ⟨by rw [← hq_]; exact (kq HO_475000.out)⟩; have n1_ : Aside0 (wr.heap[gb468]? = some (.cells #[.slice A1_0 l1_0.length c1_0] 29 (0, 0))) := ⟨by rw [← hq_]; exact (kb BK468.out)⟩; have n2_ : Aside0 (wr.heap[gb469]? = some (.cells #[.slice none 0 0, .int .i64 0] 32 (0, 0))) := ⟨by rw [← hq_]; exact (kb BK469.out)⟩; have n3_ : Aside0 (wr.heap[gb474]? = some (.cells #[u475000, .int .i64 t473] 32 (0, 0))) := ⟨by rw [← hq_]; exact (kb BK474.out)⟩; have n4_ : Aside0 (IsS107 w0 wr g s0_0 x1001_1 x1002_1) := ⟨by rw [← hq_]; exact (si HI0.out)⟩; have n5_ : Aside0 (KeepBut w wr g none) := ⟨by rw [← hq_]; exact (kp HK.out)⟩; have n6_ : Aside0 (Below w0.heap.size w0 wr) := ⟨by rw [← hq_]; exact (bi HB.out)⟩; clear HO_475000 BK468 BK469 BK474 HI0 HK HB hq_; have HO_475000 := n0_; have BK468 := n1_; have BK469 := n2_; have BK474 := n3_; have HI0 := n4_; have HK := n5_; have HB := n6_; clear n0_ n1_ n2_ n3_ n4_ n5_ n6_))) | ((with_reducible refine gate_callee (f := 60) rfl ?_); refine goesM_ (some 25) rfl rfl Try.func60 #[.pointer (some ⟨g, 0, none⟩), .int .i64 t485] ?_; (with_reducible refine (spec_l1Below.calls g s0_0 x1001_1 x1002_1 t485 t486 t487 t488 w0 _ ?side1 ?side2 A27.out).mono ?_); (case side1 => exact si HI0.out); (case side2 => exact bi HB.out); rintro e w86 ⟨rfl, hi, hb, hk⟩; refine ⟨_, rfl, ?_⟩; replace HO_475000 := Aside0.mk (Kd.Q_mono (Kd.Q_keep (IsS107.apartQ (show IsS107 w0 _ g s0_0 x1001_1 x1002_1 from si HI0.out) (kq HO_475000.out) (by decide)) hk (fun _ h => h.2)) (fun _ h => h.1)); replace BK468 := Aside0.mk (kB hk (kb BK468.out) NB468_0); replace BK469 := Aside0.mk (kB hk (kb BK469.out) NB469_0); replace BK474 := Aside0.mk (kB hk (kb BK474.out) NB474_0); replace HK := Aside0.mk (KeepBut.trans (kp HK.out) hk (.inl rfl)); replace HB := Aside0.mk (hb); replace HI0 := Aside0.mk (hi); (try clear hb); (try clear hb2); (try clear hk); (try clear hi); have hnb87 := NB474_469.out; have hnc87 := NB469_474.out; have hnb88 := NB474_0.out; have hnc88 := NB0_474.out; obtain ⟨hcz89_0, hcz89_1⟩ := ce2 BK474; have hfz89_0 := blk_frozen BK474.out 0; have hfz89_1 := blk_frozen BK474.out 1) | ((with_reducible refine gate_callee (f := 60) rfl ?_); refine goesM_ (some 28) rfl rfl Try.func60 #[.pointer (some ⟨g, 0, none⟩), .int .i64 30] ?_; (with_reducible refine (spec_l1Below.calls g s0_0 t487 t488 30 t489 t490 t491 w0 _ ?side1 ?side2 A28.out).mono ?_); (case side1 => exact si HI0.out); (case side2 => exact bi HB.out); rintro e w90 ⟨rfl, hi, hb, hk⟩; refine ⟨_, rfl, ?_⟩; replace HO_475000 := Aside0.mk (Kd.Q_mono (Kd.Q_keep (IsS107.apartQ (show IsS107 w0 _ g s0_0 t487 t488 from si HI0.out) (kq ((Kd.Q_mono (Kd.Q_far (p := ⟨gb474, 1, none⟩) (Kd.Q_types HO_475000.out BK474.out (by decide)) (fun _ hk => hk.2) (.int .i64 t486)) (fun _ h_ => h_.1)))) (by decide)) hk (fun _ h => h.2)) (fun _ h => h.1)); replace BK468 := Aside0.mk (kB hk (kf BK468.out) NB468_0); replace BK469 := Aside0.mk (kB hk (kf BK469.out) NB469_0); replace BK474 := Aside0.mk (KeepBut.blk hk (g' := gb474) (o := .cells #[u475000, .int .i64 t486] 32 (0, 0)) (kt BK474.out) NB474_0.out (by simp)); replace HK := Aside0.mk (KeepBut.trans (kp HK.out) hk (.inl rfl)); replace HB := Aside0.mk (hb); replace HI0 := Aside0.mk (hi); (try clear hb); (try clear hb2); (try clear hk); (try clear hi); obtain ⟨hcz91_0, hcz91_1⟩ := ce2 BK474; obtain ⟨hfz91_0, hfz91_1⟩ := fz2 BK474; obtain ⟨Ao92, co92, eo92, _⟩ := Kd.Q_slice HO_475000.out; subst eo92; have hnb93 := NB469_0.out; have hnc93 := NB0_469.out; obtain ⟨hcz94_0, hcz94_1⟩ := ce2 BK469; have hfz94_0 := blk_frozen BK469.out 0; have hfz94_1 := blk_frozen BK469.out 1))
       refine bodyPost_ret (results_cell_row rfl _ _ gb469 32 #[.slice Ao92 x475000_1.length co92, .int .i64 t486] (0, 0) _ rfl (bq BK469.out) Try.underlying32 rfl (by kernel_rfl)) rfl ?_
       exact ⟨_, rt, kq (Kd.Q_mono (Kd.Q_far (p := ⟨gb469, 1, none⟩) (Kd.Q_far (p := ⟨gb469, 0, none⟩) (Kd.Q_types HO_475000.out BK469.out (by decide)) (fun _ hk => hk.2) (.slice Ao92 x475000_1.length co92)) (fun _ hk => hk.2) (.int .i64 t486)) (fun _ hk => trivial)), si HI0.out, bi HB.out, kp HK.out⟩

/-! ### spec_l6Draw: function 62 -/
def spec_l6Draw.f (k : Nat) (s0_0 : List Int) (s0_1 : Int) (s0_2 : Int) : Option ((List (List Int)) × List Int × Int × Int × Int) := (spec_l2DrawRight.f k s0_0 s0_1 s0_2).bind fun bt504 => ((spec_l1Once.f s0_0 bt504.2.1 bt504.2.2 20).bind fun bt510 => (if bt510.1 = true then ((spec_l2Draw.f k s0_0 bt510.2.1 bt510.2.2).bind fun bt513 => ((spec_l6DrawMem.f k s0_0 bt513.2.1 bt513.2.2 bt513.1).bind fun bt518 => (some (bt513.1, bt518.1, bt518.2.1, bt518.2.2.1, bt518.2.2.2)))) else ((spec_l6DrawMem.f k s0_0 bt510.2.1 bt510.2.2 bt504.1).bind fun bt524 => (some (bt504.1, bt524.1, bt524.2.1, bt524.2.2.1, bt524.2.2.2)))))
set_option maxHeartbeats 8000000 in
set_option maxRecDepth 100000 in
theorem spec_l6Draw.calls (k : Nat) (g : Nat) (s0_0 : List Int) (s0_1 : Int) (s0_2 : Int) (r1 : List (List Int)) (r2 : List Int) (r3 : Int) (r4 : Int) (r5 : Int) (w0 w : World) (hI : IsS107 w0 w g s0_0 s0_1 s0_2) (hB : Below w0.heap.size w0 w) (h : spec_l6Draw.f k s0_0 s0_1 s0_2 = some (r1, r2, r3, r4, r5)) :
  Calls Try.prog 62 #[.pointer (some ⟨g, 0, none⟩)] w fun e w' => ∃ v0_ v1_ : Value, e = .returned (.tuple #[.agg #[v0_], .agg #[v1_, .int .i64 r3]]) ∧ Kd.S (cutK 3 (Kd.int .i64)) 30 w' w.heap.size (fun k_ => some k_ ≠ (v1_ : Value).ownBlock) v0_ r1 ∧ Kd.Q (Kd.int .i64) 3 w' w.heap.size (fun _ => True) v1_ r2 ∧ IsS107 w0 w' g s0_0 r4 r5 ∧ Below w0.heap.size w0 w' ∧ KeepBut w w' g none := by
 have hu29 := Try.underlying29
 have hu32 := Try.underlying32
 have HI0 := Aside0.mk hI
 have HK := Aside0.mk (KeepBut.refl w g none)
 have HL := Aside0.mk hB.size
 clear hI
 have HW0 := Aside0.mk hB.size
 have HB := Aside0.mk hB
 clear hB
 have H : ((spec_l2DrawRight.f k s0_0 s0_1 s0_2).bind fun bt504 => ((spec_l1Once.f s0_0 bt504.2.1 bt504.2.2 20).bind fun bt510 => (if bt510.1 = true then ((spec_l2Draw.f k s0_0 bt510.2.1 bt510.2.2).bind fun bt513 => ((spec_l6DrawMem.f k s0_0 bt513.2.1 bt513.2.2 bt513.1).bind fun bt518 => (some (bt513.1, bt518.1, bt518.2.1, bt518.2.2.1, bt518.2.2.2)))) else ((spec_l6DrawMem.f k s0_0 bt510.2.1 bt510.2.2 bt504.1).bind fun bt524 => (some (bt504.1, bt524.1, bt524.2.1, bt524.2.2.1, bt524.2.2.2)))))) = some (r1, r2, r3, r4, r5) := h
 clear h
 replace H := Option.bind_eq_some_iff.mp H
 obtain ⟨⟨t504, t507, t508⟩, A20, H⟩ := H
 replace H : ((spec_l1Once.f s0_0 t507 t508 20).bind fun bt510 => (if bt510.1 = true then ((spec_l2Draw.f k s0_0 bt510.2.1 bt510.2.2).bind fun bt513 => ((spec_l6DrawMem.f k s0_0 bt513.2.1 bt513.2.2 bt513.1).bind fun bt518 => (some (bt513.1, bt518.1, bt518.2.1, bt518.2.2.1, bt518.2.2.2)))) else ((spec_l6DrawMem.f k s0_0 bt510.2.1 bt510.2.2 t504).bind fun bt524 => (some (t504, bt524.1, bt524.2.1, bt524.2.2.1, bt524.2.2.2))))) = some (r1, r2, r3, r4, r5) := H
 have A2 := Aside0.mk A20
 clear A20
 replace H := Option.bind_eq_some_iff.mp H
 obtain ⟨⟨t510, t511, t512⟩, A30, H⟩ := H
 replace H : (if t510 = true then ((spec_l2Draw.f k s0_0 t511 t512).bind fun bt513 => ((spec_l6DrawMem.f k s0_0 bt513.2.1 bt513.2.2 bt513.1).bind fun bt518 => (some (bt513.1, bt518.1, bt518.2.1, bt518.2.2.1, bt518.2.2.2)))) else ((spec_l6DrawMem.f k s0_0 t511 t512 t504).bind fun bt524 => (some (t504, bt524.1, bt524.2.1, bt524.2.2.1, bt524.2.2.2)))) = some (r1, r2, r3, r4, r5) := H
 have A3 := Aside0.mk A30
 clear A30
 by_cases c4 : t510 = true
 ·subst c4
  have H1 : ((spec_l2Draw.f k s0_0 t511 t512).bind fun bt513 => ((spec_l6DrawMem.f k s0_0 bt513.2.1 bt513.2.2 bt513.1).bind fun bt518 => (some (bt513.1, bt518.1, bt518.2.1, bt518.2.2.1, bt518.2.2.2)))) = some (r1, r2, r3, r4, r5) := by rw [if_pos rfl] at H; exact H
  clear H
  have H := H1
  clear H1
  replace H := Option.bind_eq_some_iff.mp H
  obtain ⟨⟨t513, t516, t517⟩, A50, H⟩ := H
  replace H : ((spec_l6DrawMem.f k s0_0 t516 t517 t513).bind fun bt518 => (some (t513, bt518.1, bt518.2.1, bt518.2.2.1, bt518.2.2.2))) = some (r1, r2, r3, r4, r5) := H
  have A5 := Aside0.mk A50
  clear A50
  replace H := Option.bind_eq_some_iff.mp H
  obtain ⟨⟨t518, t521, t522, t523⟩, A60, H⟩ := H
  replace H : (some (t513, t518, t521, t522, t523)) = some (r1, r2, r3, r4, r5) := H
  have A6 := Aside0.mk A60
  clear A60
  simp only [Option.some.injEq, Prod.mk.injEq] at H
  obtain ⟨rfl, rfl, rfl, rfl, rfl⟩ := H
  go_enter Try.func62, Try.ntmps62
  try go_wp2_with (first | ((with_reducible refine gate_dst (N := 2) rfl ?_); refine bx (N := 2) (cs := #[.slice none 0 0]) (t := 29) ?_; intro gb502 hg w7 hbox hb; have n0_ := Aside0.mk (IsS107.below (si HI0.out) hb); have n1_ := Aside0.mk (KeepBut.trans (kp HK.out) (KeepBut.of_below hb g none) (.inl rfl)); have n2_ := Aside0.mk (below_step (bi HB.out) hb); have n3_ := Aside0.mk (hbox); have n4_ := Aside0.mk ((by rw [hg]; exact (keep_size (w := w) (g := g) (row := none) (kp HK.out)) : w.heap.size ≤ gb502)); have n5_ := Aside0.mk ((Nat.le_trans HW0.out (by rw [hg]; exact (keep_size (w := w) (g := g) (row := none) (kp HK.out)) : w.heap.size ≤ gb502) : w0.heap.size ≤ gb502)); have n6_ := Aside0.mk ((by rw [hg]; exact Nat.ne_of_lt (IsS107.lt (show IsS107 w0 _ g s0_0 s0_1 s0_2 from si HI0.out)) : g ≠ gb502)); have n7_ := Aside0.mk ((by rw [hg]; exact Nat.ne_of_gt (IsS107.lt (show IsS107 w0 _ g s0_0 s0_1 s0_2 from si HI0.out)) : gb502 ≠ g)); clear HI0; clear HK; clear HB; have HI0 := n0_; have HK := n1_; have HB := n2_; have BK502 := n3_; have GW502 := n4_; have GE502 := n5_; have NB0_502 := n6_; have NB502_0 := n7_; clear n0_ n1_ n2_ n3_ n4_ n5_ n6_ n7_; clear hb hbox hg) | ((with_reducible refine gate_dst (N := 3) rfl ?_); refine bx (N := 3) (cs := #[.slice none 0 0, .int .i64 0]) (t := 32) ?_; intro gb503 hg w8 hbox hb; have n0_ := Aside0.mk (IsS107.below (si HI0.out) hb); have n1_ := Aside0.mk (bb BK502 hb); have n2_ := Aside0.mk (KeepBut.trans (kp HK.out) (KeepBut.of_below hb g none) (.inl rfl)); have n3_ := Aside0.mk (below_step (bi HB.out) hb); have n4_ := Aside0.mk (hbox); have n5_ := Aside0.mk ((by rw [hg]; exact (keep_size (w := w) (g := g) (row := none) (kp HK.out)) : w.heap.size ≤ gb503)); have n6_ := Aside0.mk ((Nat.le_trans HW0.out (by rw [hg]; exact (keep_size (w := w) (g := g) (row := none) (kp HK.out)) : w.heap.size ≤ gb503) : w0.heap.size ≤ gb503)); have n7_ := Aside0.mk ((ga hg BK502.out)); have n8_ := Aside0.mk ((gc hg BK502.out)); have n9_ := Aside0.mk ((by rw [hg]; exact Nat.ne_of_lt (IsS107.lt (show IsS107 w0 _ g s0_0 s0_1 s0_2 from si HI0.out)) : g ≠ gb503)); have n10_ := Aside0.mk ((by rw [hg]; exact Nat.ne_of_gt (IsS107.lt (show IsS107 w0 _ g s0_0 s0_1 s0_2 from si HI0.out)) : gb503 ≠ g)); clear HI0; clear BK502; clear HK; clear HB; have HI0 := n0_; have BK502 := n1_; have HK := n2_; have HB := n3_; have BK503 := n4_; have GW503 := n5_; have GE503 := n6_; have NB502_503 := n7_; have NB503_502 := n8_; have NB0_503 := n9_; have NB503_0 := n10_; clear n0_ n1_ n2_ n3_ n4_ n5_ n6_ n7_ n8_ n9_ n10_; clear hb hbox hg) | ((with_reducible refine gate_callee (f := 69) rfl ?_); refine goesM_ (some 6) rfl rfl Try.func69 #[.pointer (some ⟨g, 0, none⟩)] ?_; (with_reducible refine (spec_l2DrawRight.callsC k g s0_0 s0_1 s0_2 t504 t507 t508 w0 _ ?side1 ?side2 A2.out).mono ?_); (case side1 => exact si HI0.out); (case side2 => exact bi HB.out); rintro e w9 ⟨v505, rfl, ho0, hi, hb, hk⟩; refine ⟨_, rfl, ?_⟩; replace BK502 := Aside0.mk (kB hk (kb BK502.out) NB502_0); replace BK503 := Aside0.mk (kB hk (kb BK503.out) NB503_0); have HO506 := Aside0.mk (Kd.S_lower ho0 (keep_size (w := w) (g := g) (row := none) (kp HK.out))); replace HK := Aside0.mk (KeepBut.trans (kp HK.out) hk (.inl rfl)); replace HB := Aside0.mk (hb); replace HI0 := Aside0.mk (hi); (try clear hb); (try clear hb2); (try clear hk); (try clear hi); (try clear ho0)) | ((with_reducible refine gate_dst (N := 4) rfl ?_); refine bx (N := 4) (cs := #[.slice none 0 0]) (t := 29) ?_; intro gb509 hg w10 hbox hb; have n0_ := Aside0.mk (Kd.S_below (ks HO506.out) hb); have n1_ := Aside0.mk (IsS107.below (si HI0.out) hb); have n2_ := Aside0.mk (bb BK502 hb); have n3_ := Aside0.mk (bb BK503 hb); have n4_ := Aside0.mk (KeepBut.trans (kp HK.out) (KeepBut.of_below hb g none) (.inl rfl)); have n5_ := Aside0.mk (below_step (bi HB.out) hb); have n6_ := Aside0.mk (hbox); have n7_ := Aside0.mk ((by rw [hg]; exact (keep_size (w := w) (g := g) (row := none) (kp HK.out)) : w.heap.size ≤ gb509)); have n8_ := Aside0.mk ((Nat.le_trans HW0.out (by rw [hg]; exact (keep_size (w := w) (g := g) (row := none) (kp HK.out)) : w.heap.size ≤ gb509) : w0.heap.size ≤ gb509)); have n9_ := Aside0.mk ((ga hg BK502.out)); have n10_ := Aside0.mk ((gc hg BK502.out)); have n11_ := Aside0.mk ((ga hg BK503.out)); have n12_ := Aside0.mk ((gc hg BK503.out)); have n13_ := Aside0.mk ((by rw [hg]; exact Nat.ne_of_lt (IsS107.lt (show IsS107 w0 _ g s0_0 t507 t508 from si HI0.out)) : g ≠ gb509)); have n14_ := Aside0.mk ((by rw [hg]; exact Nat.ne_of_gt (IsS107.lt (show IsS107 w0 _ g s0_0 t507 t508 from si HI0.out)) : gb509 ≠ g)); clear HO506; clear HI0; clear BK502; clear BK503; clear HK; clear HB; have HO506 := n0_; have HI0 := n1_; have BK502 := n2_; have BK503 := n3_; have HK := n4_; have HB := n5_; have BK509 := n6_; have GW509 := n7_; have GE509 := n8_; have NB502_509 := n9_; have NB509_502 := n10_; have NB503_509 := n11_; have NB509_503 := n12_; have NB0_509 := n13_; have NB509_0 := n14_; clear n0_ n1_ n2_ n3_ n4_ n5_ n6_ n7_ n8_ n9_ n10_ n11_ n12_ n13_ n14_; clear hb hbox hg; obtain ⟨Ao11, co11, eo11⟩ := Kd.S_slice HO506.out; subst eo11; have hnb12 := NB509_502.out; have hnc12 := NB502_509.out; have hnb13 := NB509_503.out; have hnc13 := NB503_509.out; have hnb14 := NB509_0.out; have hnc14 := NB0_509.out; have hcz15_0 : w10.cell? ⟨gb509, 0, none⟩ = some (.slice none 0 0) := cl BK509 0; have hfz15_0 := blk_frozen BK509.out 0) | ((with_reducible refine gate_callee (f := 58) rfl ?_); refine goesM_ (some 8) rfl rfl Try.func58 #[.pointer (some ⟨g, 0, none⟩), .int .i64 20] ?_; (with_reducible refine (spec_l1Once.calls g s0_0 t507 t508 20 true t511 t512 w0 _ ?side1 ?side2 A3.out).mono ?_); (case side1 => exact si HI0.out); (case side2 => exact bi HB.out); rintro e w16 ⟨rfl, hi, hb, hk⟩; refine ⟨_, rfl, ?_⟩; replace BK502 := Aside0.mk (kB hk (kf BK502.out) NB502_0); replace BK503 := Aside0.mk (kB hk (kf BK503.out) NB503_0); replace HO506 := Aside0.mk (Kd.S_mono (Kd.S_keep (IsS107.apartS (show IsS107 w0 _ g s0_0 t507 t508 from si HI0.out) (ks ((Kd.S_mono (Kd.S_far (p := ⟨gb509, 0, none⟩) (Kd.S_types HO506.out BK509.out (by decide)) (fun _ hk => hk.2) (.slice Ao11 t504.length co11)) (fun _ h_ => h_.1)))) (by decide)) hk (fun _ h => h.2)) (fun _ h => h.1)); replace BK509 := Aside0.mk (KeepBut.blk hk (g' := gb509) (o := .cells #[.slice Ao11 t504.length co11] 29 (0, 0)) (kt BK509.out) NB509_0.out (by simp)); replace HK := Aside0.mk (KeepBut.trans (kp HK.out) hk (.inl rfl)); replace HB := Aside0.mk (hb); replace HI0 := Aside0.mk (hi); (try clear hb); (try clear hb2); (try clear hk); (try clear hi)) | ((with_reducible refine gate_callee (f := 65) rfl ?_); refine goesM_ (some 10) rfl rfl Try.func65 #[.pointer (some ⟨g, 0, none⟩)] ?_; (with_reducible refine (spec_l2Draw.calls k g s0_0 t511 t512 t513 t516 t517 w0 _ ?side1 ?side2 A5.out).mono ?_); (case side1 => exact si HI0.out); (case side2 => exact bi HB.out); rintro e w17 ⟨v514, rfl, ho0, hi, hb, hk⟩; refine ⟨_, rfl, ?_⟩; replace BK502 := Aside0.mk (kB hk (kb BK502.out) NB502_0); replace BK503 := Aside0.mk (kB hk (kb BK503.out) NB503_0); replace BK509 := Aside0.mk (kB hk (kb BK509.out) NB509_0); have HO515 := Aside0.mk (Kd.S_lower (Kd.S_new' ho0 (Kd.S_lt (ks HO506.out))) (keep_size (w := w) (g := g) (row := none) (kp HK.out))); replace HO506 := Aside0.mk (Kd.S_mono (Kd.S_told (Kd.S_oldK (IsS107.apartS (show IsS107 w0 _ g s0_0 t511 t512 from si HI0.out) (ks HO506.out) (by decide)) hk) (Kd.S_base ho0)) (fun _ h_ => h_.1)); replace HK := Aside0.mk (KeepBut.trans (kp HK.out) hk (.inl rfl)); replace HB := Aside0.mk (hb); replace HI0 := Aside0.mk (hi); (try clear hb); (try clear hb2); (try clear hk); (try clear hi); (try clear ho0); obtain ⟨Ao18, co18, eo18⟩ := Kd.S_slice HO515.out; subst eo18; have hcz19_0 : w17.cell? ⟨gb509, 0, none⟩ = some (.slice Ao11 t504.length co11) := cl BK509 0; have hfz19_0 := blk_frozen BK509.out 0))
  have n0_ : Aside0 (Kd.S (cutK 3 (Kd.int .i64)) 30 (w17.setCell ⟨gb509, 0, none⟩ (.slice Ao18 t513.length co18)) w.heap.size (fun k_ => some k_ ≠ (.slice Ao18 t513.length co18 : Value).ownBlock) (.slice Ao11 t504.length co11) t504) := ⟨ks (Kd.S_mono (Kd.S_far (p := ⟨gb509, 0, none⟩) (Kd.S_types HO506.out BK509.out (by decide)) (fun _ hk => hk.2) (.slice Ao18 t513.length co18)) (fun _ hk => hk.1.2))⟩
  have n1_ : Aside0 (Kd.S (cutK 3 (Kd.int .i64)) 30 (w17.setCell ⟨gb509, 0, none⟩ (.slice Ao18 t513.length co18)) w.heap.size (fun k_ => some k_ ≠ (.slice Ao11 t504.length co11 : Value).ownBlock) (.slice Ao18 t513.length co18) t513) := ⟨ks (Kd.S_mono (Kd.S_far (p := ⟨gb509, 0, none⟩) (Kd.S_types HO515.out BK509.out (by decide)) (fun _ hk => hk.2) (.slice Ao18 t513.length co18)) (fun _ hk => hk.1.2))⟩
  have n2_ : Aside0 ((w17.setCell ⟨gb509, 0, none⟩ (.slice Ao18 t513.length co18)).heap[gb502]? = some (.cells #[.slice none 0 0] 29 (0, 0))) := ⟨kf BK502.out⟩
  have n3_ : Aside0 ((w17.setCell ⟨gb509, 0, none⟩ (.slice Ao18 t513.length co18)).heap[gb503]? = some (.cells #[.slice none 0 0, .int .i64 0] 32 (0, 0))) := ⟨kf BK503.out⟩
  have n4_ : Aside0 ((w17.setCell ⟨gb509, 0, none⟩ (.slice Ao18 t513.length co18)).heap[gb509]? = some (.cells #[.slice Ao18 t513.length co18] 29 (0, 0))) := ⟨kt BK509.out⟩
  have n5_ : Aside0 (IsS107 w0 (w17.setCell ⟨gb509, 0, none⟩ (.slice Ao18 t513.length co18)) g s0_0 t516 t517) := ⟨si HI0.out⟩
  have n6_ : Aside0 (KeepBut w (w17.setCell ⟨gb509, 0, none⟩ (.slice Ao18 t513.length co18)) g none) := ⟨kp HK.out⟩
  have n7_ : Aside0 (Below w0.heap.size w0 (w17.setCell ⟨gb509, 0, none⟩ (.slice Ao18 t513.length co18))) := ⟨bi HB.out⟩
  (try clear HO506); (try clear HO515); (try clear BK502); (try clear BK503); (try clear BK509); (try clear HI0); (try clear HK); (try clear HB)
  generalize (w17.setCell ⟨gb509, 0, none⟩ (.slice Ao18 t513.length co18)) = w20 at n0_ n1_ n2_ n3_ n4_ n5_ n6_ n7_ ⊢
  have HO506 := n0_; have HO515 := n1_; have BK502 := n2_; have BK503 := n3_; have BK509 := n4_; have HI0 := n5_; have HK := n6_; have HB := n7_; clear n0_ n1_ n2_ n3_ n4_ n5_ n6_ n7_
  replace HO506 := Aside0.mk (Kd.S_drew HO506.out)
  replace HO515 := Aside0.mk (Kd.S_drew HO515.out)
  replace BK502 := Aside0.mk (blk_drew BK502.out)
  replace BK503 := Aside0.mk (blk_drew BK503.out)
  replace BK509 := Aside0.mk (blk_drew BK509.out)
  replace HI0 := Aside0.mk (IsS107.drew HI0.out)
  replace HK := Aside0.mk (keep_drew HK.out)
  replace HB := Aside0.mk (below_drew1 HB.out)
  refine start_ (n := 6) (S := fun w' => w'.cell? ⟨gb509, 0, none⟩ = some (.slice Ao18 t513.length co18)) (ds := []) (bm 6 0) (by kernel_rfl) rfl (by kernel_rfl) (cl BK509 0) (fun hHeld => ?_)
  generalize w20.drew = w21 at HO506 HO515 BK502 BK503 BK509 HI0 HK HB hHeld ⊢
  refine pv_ 1 (some 12) (bm 6 2) ?_
  refine tv_ 0 (some 11) (bm 6 3) hHeld ?_
  refine tv_ 2 (some 13) (bm 6 7) hHeld ?_
  refine ov_ 3 (some 14) (bm 6 15) (fun K hK => ?_)
  refine gw_ Try.func103 #[.pointer (some ⟨g, 0, none⟩), .agg #[.slice Ao18 t513.length co18]] ?_
  with_reducible refine (spec_l6DrawMem.calls k g s0_0 t516 t517 _ _ t513 t518 t521 t522 t523 w0 _ ?side1 ?side2 ?side3 ?side4 A6.out).mono ?_
  (case side1 => exact si HI0.out)
  (case side2 => exact bi HB.out)
  (case side3 => exact (Kd.C_foot_own ((Kd.S_R (IsS107.apartS (show IsS107 w0 _ g s0_0 t516 t517 from si HI0.out) (ks HO515.out) (by decide)))) (fun _ h_ => h_.2) :))
  (case side4 => exact (Kd.S_reads' HO515.out).2.1)
  rintro e w22 ⟨v519, rfl, ho0, hi, hb, hk⟩
  refine ⟨_, rfl, ?_⟩
  replace BK502 := Aside0.mk (kB hk (kb BK502.out) NB502_0)
  replace BK503 := Aside0.mk (kB hk (kb BK503.out) NB503_0)
  replace HO506 := Aside0.mk (Kd.S_mono (Kd.S_told (Kd.S_oldK (IsS107.apartS (show IsS107 w0 _ g s0_0 t516 t517 from si HI0.out) (ks HO506.out) (by decide)) hk) (Kd.Q_base ho0)) (fun _ h_ => h_.1))
  replace BK509 := Aside0.mk (kB hk (kb BK509.out) NB509_0)
  replace HO515 := Aside0.mk (Kd.S_mono (Kd.S_told (Kd.S_oldK (IsS107.apartS (show IsS107 w0 _ g s0_0 t516 t517 from si HI0.out) (ks HO515.out) (by decide)) hk) (Kd.Q_base ho0)) (fun _ h_ => h_.1))
  have HO520 := Aside0.mk (Kd.Q_lower ho0 (keep_size (w := w) (g := g) (row := none) (kp HK.out)))
  replace HK := Aside0.mk (KeepBut.trans (kp HK.out) hk (.inl rfl))
  replace HB := Aside0.mk (hb)
  replace HI0 := Aside0.mk (hi)
  (try clear hb); (try clear hb2); (try clear hk); (try clear hi); (try clear ho0)
  obtain ⟨Ao24, co24, eo24, _⟩ := Kd.Q_slice HO520.out
  (first | subst eo24 | (injection eo24 with f1_ f2_ f3_; have f4_ := f1_.symm; have f5_ := f3_.symm; clear f1_ f2_ f3_; subst f4_; subst f5_))
  refine hK.out _ _ (cl BK509 0) (fun hHeld => ?_)
  clear hK K
  refine nw_ 14 ?_
  refine ov_ 4 none (bm 6 31) (fun K hK => ?_)
  have hs23 : w22.cell? ⟨gb502, 0, none⟩ = some (.slice none 0 0) := cl BK502 0
  have hfs23 := blk_frozen BK502.out 0
  have hns23_1 := NB503_502.out
  have hns23_2 := NB509_502.out
  have hms23_1 := NB502_503.out
  have hms23_2 := NB502_509.out
  refine skip_ (w1 := ?_) (by rfl) rfl ?_ ?_
  rotate_left
  ·go_simp
   rfl
  refine hK.out _ _ ((fr NB509_502 (hHeld))) (fun hHeld => ?_)
  clear hK K
  refine ov_ 5 none (bm 6 63) (fun K hK => ?_)
  have hs25 : w22.cell? ⟨gb503, 0, none⟩ = some (.slice none 0 0) := cl BK503 0
  have hfs25 := blk_frozen BK503.out 0
  have hns25_0 := NB502_503.out
  have hns25_2 := NB509_503.out
  have hms25_0 := NB503_502.out
  have hms25_2 := NB503_509.out
  have hs26 : w22.cell? ⟨gb503, 1, none⟩ = some (.int .i64 0) := cl BK503 1
  have hfs26 := blk_frozen BK503.out 1
  have hns26_0 := NB502_503.out
  have hns26_2 := NB509_503.out
  have hms26_0 := NB503_502.out
  have hms26_2 := NB503_509.out
  refine skip_ (w1 := ?_) (by rfl) rfl ?_ ?_
  rotate_left
  ·go_simp
   rfl
  refine hK.out _ _ ((fr NB509_503 (hHeld))) (fun hHeld => ?_)
  clear hK K
  refine done_ (by kernel_rfl) ?_
  try go_wp2
  refine bodyPost_ret (results_cc rfl _ _ gb502 gb503 29 32 #[.slice Ao18 t513.length co18] #[.slice Ao24 t518.length co24, .int .i64 t521] (0, 0) (0, 0) _ _ rfl (bf NB502_503 BK502.out) Try.underlying29 rfl (by kernel_rfl) rfl (bf NB503_502 BK503.out) Try.underlying32 rfl (by kernel_rfl)) rfl ?_
  exact ⟨_, _, rt, ks (Kd.S_mono (Kd.S_far (p := ⟨gb503, 1, none⟩) (Kd.S_far (p := ⟨gb503, 0, none⟩) (Kd.S_far (p := ⟨gb502, 0, none⟩) (Kd.S_types (Kd.S_types HO515.out BK502.out (by decide)) BK503.out (by decide)) (fun _ hk => hk.1.2) (.slice Ao18 t513.length co18)) (fun _ hk => hk.2) (.slice Ao24 t518.length co24)) (fun _ hk => hk.2) (.int .i64 t521)) (fun _ hk => hk.1.1.2)), kq (Kd.Q_mono (Kd.Q_far (p := ⟨gb503, 1, none⟩) (Kd.Q_far (p := ⟨gb503, 0, none⟩) (Kd.Q_far (p := ⟨gb502, 0, none⟩) (Kd.Q_types (Kd.Q_types HO520.out BK502.out (by decide)) BK503.out (by decide)) (fun _ hk => hk.1.2) (.slice Ao18 t513.length co18)) (fun _ hk => hk.2) (.slice Ao24 t518.length co24)) (fun _ hk => hk.2) (.int .i64 t521)) (fun _ hk => trivial)), si HI0.out, bi HB.out, kp HK.out⟩
 ·replace c4 := Bool.eq_false_iff.mpr c4
  subst c4
  have H1 : ((spec_l6DrawMem.f k s0_0 t511 t512 t504).bind fun bt524 => (some (t504, bt524.1, bt524.2.1, bt524.2.2.1, bt524.2.2.2))) = some (r1, r2, r3, r4, r5) := by rw [if_neg (show ¬ (false = true) by decide)] at H; exact H
  clear H
  have H := H1
  clear H1
  replace H := Option.bind_eq_some_iff.mp H
  obtain ⟨⟨t524, t527, t528, t529⟩, A270, H⟩ := H
  replace H : (some (t504, t524, t527, t528, t529)) = some (r1, r2, r3, r4, r5) := H
  have A27 := Aside0.mk A270
  clear A270
  simp only [Option.some.injEq, Prod.mk.injEq] at H
  obtain ⟨rfl, rfl, rfl, rfl, rfl⟩ := H
  go_enter Try.func62, Try.ntmps62
  try go_wp2_with (first | ((with_reducible refine gate_dst (N := 2) rfl ?_); refine bx (N := 2) (cs := #[.slice none 0 0]) (t := 29) ?_; intro gb502 hg w28 hbox hb; have n0_ := Aside0.mk (IsS107.below (si HI0.out) hb); have n1_ := Aside0.mk (KeepBut.trans (kp HK.out) (KeepBut.of_below hb g none) (.inl rfl)); have n2_ := Aside0.mk (below_step (bi HB.out) hb); have n3_ := Aside0.mk (hbox); have n4_ := Aside0.mk ((by rw [hg]; exact (keep_size (w := w) (g := g) (row := none) (kp HK.out)) : w.heap.size ≤ gb502)); have n5_ := Aside0.mk ((Nat.le_trans HW0.out (by rw [hg]; exact (keep_size (w := w) (g := g) (row := none) (kp HK.out)) : w.heap.size ≤ gb502) : w0.heap.size ≤ gb502)); have n6_ := Aside0.mk ((by rw [hg]; exact Nat.ne_of_lt (IsS107.lt (show IsS107 w0 _ g s0_0 s0_1 s0_2 from si HI0.out)) : g ≠ gb502)); have n7_ := Aside0.mk ((by rw [hg]; exact Nat.ne_of_gt (IsS107.lt (show IsS107 w0 _ g s0_0 s0_1 s0_2 from si HI0.out)) : gb502 ≠ g)); clear HI0; clear HK; clear HB; have HI0 := n0_; have HK := n1_; have HB := n2_; have BK502 := n3_; have GW502 := n4_; have GE502 := n5_; have NB0_502 := n6_; have NB502_0 := n7_; clear n0_ n1_ n2_ n3_ n4_ n5_ n6_ n7_; clear hb hbox hg) | ((with_reducible refine gate_dst (N := 3) rfl ?_); refine bx (N := 3) (cs := #[.slice none 0 0, .int .i64 0]) (t := 32) ?_; intro gb503 hg w29 hbox hb; have n0_ := Aside0.mk (IsS107.below (si HI0.out) hb); have n1_ := Aside0.mk (bb BK502 hb); have n2_ := Aside0.mk (KeepBut.trans (kp HK.out) (KeepBut.of_below hb g none) (.inl rfl)); have n3_ := Aside0.mk (below_step (bi HB.out) hb); have n4_ := Aside0.mk (hbox); have n5_ := Aside0.mk ((by rw [hg]; exact (keep_size (w := w) (g := g) (row := none) (kp HK.out)) : w.heap.size ≤ gb503)); have n6_ := Aside0.mk ((Nat.le_trans HW0.out (by rw [hg]; exact (keep_size (w := w) (g := g) (row := none) (kp HK.out)) : w.heap.size ≤ gb503) : w0.heap.size ≤ gb503)); have n7_ := Aside0.mk ((ga hg BK502.out)); have n8_ := Aside0.mk ((gc hg BK502.out)); have n9_ := Aside0.mk ((by rw [hg]; exact Nat.ne_of_lt (IsS107.lt (show IsS107 w0 _ g s0_0 s0_1 s0_2 from si HI0.out)) : g ≠ gb503)); have n10_ := Aside0.mk ((by rw [hg]; exact Nat.ne_of_gt (IsS107.lt (show IsS107 w0 _ g s0_0 s0_1 s0_2 from si HI0.out)) : gb503 ≠ g)); clear HI0; clear BK502; clear HK; clear HB; have HI0 := n0_; have BK502 := n1_; have HK := n2_; have HB := n3_; have BK503 := n4_; have GW503 := n5_; have GE503 := n6_; have NB502_503 := n7_; have NB503_502 := n8_; have NB0_503 := n9_; have NB503_0 := n10_; clear n0_ n1_ n2_ n3_ n4_ n5_ n6_ n7_ n8_ n9_ n10_; clear hb hbox hg) | ((with_reducible refine gate_callee (f := 69) rfl ?_); refine goesM_ (some 6) rfl rfl Try.func69 #[.pointer (some ⟨g, 0, none⟩)] ?_; (with_reducible refine (spec_l2DrawRight.callsC k g s0_0 s0_1 s0_2 t504 t507 t508 w0 _ ?side1 ?side2 A2.out).mono ?_); (case side1 => exact si HI0.out); (case side2 => exact bi HB.out); rintro e w30 ⟨v505, rfl, ho0, hi, hb, hk⟩; refine ⟨_, rfl, ?_⟩; replace BK502 := Aside0.mk (kB hk (kb BK502.out) NB502_0); replace BK503 := Aside0.mk (kB hk (kb BK503.out) NB503_0); have HO506 := Aside0.mk (Kd.S_lower ho0 (keep_size (w := w) (g := g) (row := none) (kp HK.out))); replace HK := Aside0.mk (KeepBut.trans (kp HK.out) hk (.inl rfl)); replace HB := Aside0.mk (hb); replace HI0 := Aside0.mk (hi); (try clear hb); (try clear hb2); (try clear hk); (try clear hi); (try clear ho0)) | ((with_reducible refine gate_dst (N := 4) rfl ?_); refine bx (N := 4) (cs := #[.slice none 0 0]) (t := 29) ?_; intro gb509 hg w31 hbox hb; have n0_ := Aside0.mk (Kd.S_below (ks HO506.out) hb); have n1_ := Aside0.mk (IsS107.below (si HI0.out) hb); have n2_ := Aside0.mk (bb BK502 hb); have n3_ := Aside0.mk (bb BK503 hb); have n4_ := Aside0.mk (KeepBut.trans (kp HK.out) (KeepBut.of_below hb g none) (.inl rfl)); have n5_ := Aside0.mk (below_step (bi HB.out) hb); have n6_ := Aside0.mk (hbox); have n7_ := Aside0.mk ((by rw [hg]; exact (keep_size (w := w) (g := g) (row := none) (kp HK.out)) : w.heap.size ≤ gb509)); have n8_ := Aside0.mk ((Nat.le_trans HW0.out (by rw [hg]; exact (keep_size (w := w) (g := g) (row := none) (kp HK.out)) : w.heap.size ≤ gb509) : w0.heap.size ≤ gb509)); have n9_ := Aside0.mk ((ga hg BK502.out)); have n10_ := Aside0.mk ((gc hg BK502.out)); have n11_ := Aside0.mk ((ga hg BK503.out)); have n12_ := Aside0.mk ((gc hg BK503.out)); have n13_ := Aside0.mk ((by rw [hg]; exact Nat.ne_of_lt (IsS107.lt (show IsS107 w0 _ g s0_0 t507 t508 from si HI0.out)) : g ≠ gb509)); have n14_ := Aside0.mk ((by rw [hg]; exact Nat.ne_of_gt (IsS107.lt (show IsS107 w0 _ g s0_0 t507 t508 from si HI0.out)) : gb509 ≠ g)); clear HO506; clear HI0; clear BK502; clear BK503; clear HK; clear HB; have HO506 := n0_; have HI0 := n1_; have BK502 := n2_; have BK503 := n3_; have HK := n4_; have HB := n5_; have BK509 := n6_; have GW509 := n7_; have GE509 := n8_; have NB502_509 := n9_; have NB509_502 := n10_; have NB503_509 := n11_; have NB509_503 := n12_; have NB0_509 := n13_; have NB509_0 := n14_; clear n0_ n1_ n2_ n3_ n4_ n5_ n6_ n7_ n8_ n9_ n10_ n11_ n12_ n13_ n14_; clear hb hbox hg; obtain ⟨Ao32, co32, eo32⟩ := Kd.S_slice HO506.out; subst eo32; have hnb33 := NB509_502.out; have hnc33 := NB502_509.out; have hnb34 := NB509_503.out; have hnc34 := NB503_509.out; have hnb35 := NB509_0.out; have hnc35 := NB0_509.out; have hcz36_0 : w31.cell? ⟨gb509, 0, none⟩ = some (.slice none 0 0) := cl BK509 0; have hfz36_0 := blk_frozen BK509.out 0) | ((with_reducible refine gate_callee (f := 58) rfl ?_); refine goesM_ (some 8) rfl rfl Try.func58 #[.pointer (some ⟨g, 0, none⟩), .int .i64 20] ?_; (with_reducible refine (spec_l1Once.calls g s0_0 t507 t508 20 false t511 t512 w0 _ ?side1 ?side2 A3.out).mono ?_); (case side1 => exact si HI0.out); (case side2 => exact bi HB.out); rintro e w37 ⟨rfl, hi, hb, hk⟩; refine ⟨_, rfl, ?_⟩; replace BK502 := Aside0.mk (kB hk (kf BK502.out) NB502_0); replace BK503 := Aside0.mk (kB hk (kf BK503.out) NB503_0); replace HO506 := Aside0.mk (Kd.S_mono (Kd.S_keep (IsS107.apartS (show IsS107 w0 _ g s0_0 t507 t508 from si HI0.out) (ks ((Kd.S_mono (Kd.S_far (p := ⟨gb509, 0, none⟩) (Kd.S_types HO506.out BK509.out (by decide)) (fun _ hk => hk.2) (.slice Ao32 t504.length co32)) (fun _ h_ => h_.1)))) (by decide)) hk (fun _ h => h.2)) (fun _ h => h.1)); replace BK509 := Aside0.mk (KeepBut.blk hk (g' := gb509) (o := .cells #[.slice Ao32 t504.length co32] 29 (0, 0)) (kt BK509.out) NB509_0.out (by simp)); replace HK := Aside0.mk (KeepBut.trans (kp HK.out) hk (.inl rfl)); replace HB := Aside0.mk (hb); replace HI0 := Aside0.mk (hi); (try clear hb); (try clear hb2); (try clear hk); (try clear hi)))
  replace HO506 := Aside0.mk (Kd.S_drew HO506.out)
  replace BK502 := Aside0.mk (blk_drew BK502.out)
  replace BK503 := Aside0.mk (blk_drew BK503.out)
  replace BK509 := Aside0.mk (blk_drew BK509.out)
  replace HI0 := Aside0.mk (IsS107.drew HI0.out)
  replace HK := Aside0.mk (keep_drew HK.out)
  replace HB := Aside0.mk (below_drew1 HB.out)
  refine start_ (n := 6) (S := fun w' => w'.cell? ⟨gb509, 0, none⟩ = some (.slice Ao32 t504.length co32)) (ds := []) (bm 6 0) (by kernel_rfl) rfl (by kernel_rfl) (cl BK509 0) (fun hHeld => ?_)
  generalize w37.drew = w38 at HO506 BK502 BK503 BK509 HI0 HK HB hHeld ⊢
  refine pv_ 1 (some 12) (bm 6 2) ?_
  refine tv_ 0 (some 11) (bm 6 3) hHeld ?_
  refine tv_ 2 (some 13) (bm 6 7) hHeld ?_
  refine ov_ 3 (some 14) (bm 6 15) (fun K hK => ?_)
  refine gw_ Try.func103 #[.pointer (some ⟨g, 0, none⟩), .agg #[.slice Ao32 t504.length co32]] ?_
  with_reducible refine (spec_l6DrawMem.calls k g s0_0 t511 t512 _ _ t504 t524 t527 t528 t529 w0 _ ?side1 ?side2 ?side3 ?side4 A27.out).mono ?_
  (case side1 => exact si HI0.out)
  (case side2 => exact bi HB.out)
  (case side3 => exact (Kd.C_foot_own ((Kd.S_R (IsS107.apartS (show IsS107 w0 _ g s0_0 t511 t512 from si HI0.out) (ks HO506.out) (by decide)))) (fun _ h_ => h_.2) :))
  (case side4 => exact (Kd.S_reads' HO506.out).2.1)
  rintro e w39 ⟨v525, rfl, ho0, hi, hb, hk⟩
  refine ⟨_, rfl, ?_⟩
  replace BK502 := Aside0.mk (kB hk (kb BK502.out) NB502_0)
  replace BK503 := Aside0.mk (kB hk (kb BK503.out) NB503_0)
  replace HO506 := Aside0.mk (Kd.S_mono (Kd.S_told (Kd.S_oldK (IsS107.apartS (show IsS107 w0 _ g s0_0 t511 t512 from si HI0.out) (ks HO506.out) (by decide)) hk) (Kd.Q_base ho0)) (fun _ h_ => h_.1))
  replace BK509 := Aside0.mk (kB hk (kb BK509.out) NB509_0)
  have HO526 := Aside0.mk (Kd.Q_lower ho0 (keep_size (w := w) (g := g) (row := none) (kp HK.out)))
  replace HK := Aside0.mk (KeepBut.trans (kp HK.out) hk (.inl rfl))
  replace HB := Aside0.mk (hb)
  replace HI0 := Aside0.mk (hi)
  (try clear hb); (try clear hb2); (try clear hk); (try clear hi); (try clear ho0)
  obtain ⟨Ao41, co41, eo41, _⟩ := Kd.Q_slice HO526.out
  (first | subst eo41 | (injection eo41 with f1_ f2_ f3_; have f4_ := f1_.symm; have f5_ := f3_.symm; clear f1_ f2_ f3_; subst f4_; subst f5_))
  refine hK.out _ _ (cl BK509 0) (fun hHeld => ?_)
  clear hK K
  refine nw_ 14 ?_
  refine ov_ 4 none (bm 6 31) (fun K hK => ?_)
  have hs40 : w39.cell? ⟨gb502, 0, none⟩ = some (.slice none 0 0) := cl BK502 0
  have hfs40 := blk_frozen BK502.out 0
  have hns40_1 := NB503_502.out
  have hns40_2 := NB509_502.out
  have hms40_1 := NB502_503.out
  have hms40_2 := NB502_509.out
  refine skip_ (w1 := ?_) (by rfl) rfl ?_ ?_
  rotate_left
  ·go_simp
   rfl
  refine hK.out _ _ ((fr NB509_502 (hHeld))) (fun hHeld => ?_)
  clear hK K
  refine ov_ 5 none (bm 6 63) (fun K hK => ?_)
  have hs42 : w39.cell? ⟨gb503, 0, none⟩ = some (.slice none 0 0) := cl BK503 0
  have hfs42 := blk_frozen BK503.out 0
  have hns42_0 := NB502_503.out
  have hns42_2 := NB509_503.out
  have hms42_0 := NB503_502.out
  have hms42_2 := NB503_509.out
  have hs43 : w39.cell? ⟨gb503, 1, none⟩ = some (.int .i64 0) := cl BK503 1
  have hfs43 := blk_frozen BK503.out 1
  have hns43_0 := NB502_503.out
  have hns43_2 := NB509_503.out
  have hms43_0 := NB503_502.out
  have hms43_2 := NB503_509.out
  refine skip_ (w1 := ?_) (by rfl) rfl ?_ ?_
  rotate_left
  ·go_simp
   rfl
  refine hK.out _ _ ((fr NB509_503 (hHeld))) (fun hHeld => ?_)
  clear hK K
  refine done_ (by kernel_rfl) ?_
  try go_wp2
  refine bodyPost_ret (results_cc rfl _ _ gb502 gb503 29 32 #[.slice Ao32 t504.length co32] #[.slice Ao41 t524.length co41, .int .i64 t527] (0, 0) (0, 0) _ _ rfl (bf NB502_503 BK502.out) Try.underlying29 rfl (by kernel_rfl) rfl (bf NB503_502 BK503.out) Try.underlying32 rfl (by kernel_rfl)) rfl ?_
  exact ⟨_, _, rt, ks (Kd.S_mono (Kd.S_far (p := ⟨gb503, 1, none⟩) (Kd.S_far (p := ⟨gb503, 0, none⟩) (Kd.S_far (p := ⟨gb502, 0, none⟩) (Kd.S_types (Kd.S_types HO506.out BK502.out (by decide)) BK503.out (by decide)) (fun _ hk => hk.1.2) (.slice Ao32 t504.length co32)) (fun _ hk => hk.2) (.slice Ao41 t524.length co41)) (fun _ hk => hk.2) (.int .i64 t527)) (fun _ hk => hk.1.1.2)), kq (Kd.Q_mono (Kd.Q_far (p := ⟨gb503, 1, none⟩) (Kd.Q_far (p := ⟨gb503, 0, none⟩) (Kd.Q_far (p := ⟨gb502, 0, none⟩) (Kd.Q_types (Kd.Q_types HO526.out BK502.out (by decide)) BK503.out (by decide)) (fun _ hk => hk.1.2) (.slice Ao32 t504.length co32)) (fun _ hk => hk.2) (.slice Ao41 t524.length co41)) (fun _ hk => hk.2) (.int .i64 t527)) (fun _ hk => trivial)), si HI0.out, bi HB.out, kp HK.out⟩

/-! ### spec_l1DrawInt: function 75 -/
def spec_l1DrawInt.f (s0_0 : List Int) (s0_1 : Int) (s0_2 : Int) : Option (Int × Int × Int) := (spec_l1Once.f s0_0 s0_1 s0_2 9).bind fun bt530 => (if bt530.1 = true then ((spec_l1PickInt.f s0_0 bt530.2.1 bt530.2.2 (([(-1), 256, 65535, 65536, 9223372036854775807, (-9223372036854775808), 511] : List Int))).bind fun bt536 => (some (bt536.1, bt536.2.1, bt536.2.2))) else ((spec_l1Below.f s0_0 bt530.2.1 bt530.2.2 256).bind fun bt539 => (some (bt539.1, bt539.2.1, bt539.2.2))))
set_option maxHeartbeats 8000000 in
set_option maxRecDepth 100000 in
theorem spec_l1DrawInt.calls (g : Nat) (s0_0 : List Int) (s0_1 : Int) (s0_2 : Int) (r1 : Int) (r2 : Int) (r3 : Int) (w0 w : World) (hI : IsS107 w0 w g s0_0 s0_1 s0_2) (hB : Below w0.heap.size w0 w) (h : spec_l1DrawInt.f s0_0 s0_1 s0_2 = some (r1, r2, r3)) :
  Calls Try.prog 75 #[.pointer (some ⟨g, 0, none⟩)] w fun e w' => e = .returned (.int .i64 r1) ∧ IsS107 w0 w' g s0_0 r2 r3 ∧ Below w0.heap.size w0 w' ∧ KeepBut w w' g none := by
 have HI0 := Aside0.mk hI
 have HK := Aside0.mk (KeepBut.refl w g none)
 have HL := Aside0.mk hB.size
 clear hI
 have HW0 := Aside0.mk hB.size
 have HB := Aside0.mk hB
 clear hB
 have H : ((spec_l1Once.f s0_0 s0_1 s0_2 9).bind fun bt530 => (if bt530.1 = true then ((spec_l1PickInt.f s0_0 bt530.2.1 bt530.2.2 (([(-1), 256, 65535, 65536, 9223372036854775807, (-9223372036854775808), 511] : List Int))).bind fun bt536 => (some (bt536.1, bt536.2.1, bt536.2.2))) else ((spec_l1Below.f s0_0 bt530.2.1 bt530.2.2 256).bind fun bt539 => (some (bt539.1, bt539.2.1, bt539.2.2))))) = some (r1, r2, r3) := h
 clear h
 replace H := Option.bind_eq_some_iff.mp H
 obtain ⟨⟨t530, t531, t532⟩, A20, H⟩ := H
 replace H : (if t530 = true then ((spec_l1PickInt.f s0_0 t531 t532 (([(-1), 256, 65535, 65536, 9223372036854775807, (-9223372036854775808), 511] : List Int))).bind fun bt536 => (some (bt536.1, bt536.2.1, bt536.2.2))) else ((spec_l1Below.f s0_0 t531 t532 256).bind fun bt539 => (some (bt539.1, bt539.2.1, bt539.2.2)))) = some (r1, r2, r3) := H
 have A2 := Aside0.mk A20
 clear A20
 by_cases c3 : t530 = true
 ·subst c3
  have H1 : ((spec_l1PickInt.f s0_0 t531 t532 (([(-1), 256, 65535, 65536, 9223372036854775807, (-9223372036854775808), 511] : List Int))).bind fun bt536 => (some (bt536.1, bt536.2.1, bt536.2.2))) = some (r1, r2, r3) := by rw [if_pos rfl] at H; exact H
  clear H
  have H := H1
  clear H1
  obtain ⟨y533, hy533⟩ : ∃ y_ : List Int, y_ = (([(-1), 256, 65535, 65536, 9223372036854775807, (-9223372036854775808), 511] : List Int)) := ⟨_, rfl⟩
  replace H : ((spec_l1PickInt.f s0_0 t531 t532 y533).bind fun bt536 => (some (bt536.1, bt536.2.1, bt536.2.2))) = some (r1, r2, r3) := by first | (rw [hy533]; with_reducible exact H) | (have H2_ := (Option.bind_some _ _).symm.trans H; rw [hy533]; with_reducible exact H2_) | (have H2_ := (Option.bind_some _ _).symm.trans H; with_reducible exact H2_) | with_reducible exact H | (rw [hy533]; exact H) | exact H
  have Ny533 := Aside0.mk hy533
  clear hy533
  replace H := Option.bind_eq_some_iff.mp H
  obtain ⟨⟨t536, t537, t538⟩, A40, H⟩ := H
  replace H : (some (t536, t537, t538)) = some (r1, r2, r3) := H
  have A4 := Aside0.mk A40
  clear A40
  simp only [Option.some.injEq, Prod.mk.injEq] at H
  obtain ⟨rfl, rfl, rfl⟩ := H
  go_enter Try.func75, Try.ntmps75
  go_wp2_with (first | ((with_reducible refine gate_callee (f := 58) rfl ?_); refine goesM_ (some 4) rfl rfl Try.func58 #[.pointer (some ⟨g, 0, none⟩), .int .i64 9] ?_; (with_reducible refine (spec_l1Once.calls g s0_0 s0_1 s0_2 9 true t531 t532 w0 _ ?side1 ?side2 A2.out).mono ?_); (case side1 => exact si HI0.out); (case side2 => exact bi HB.out); rintro e w5 ⟨rfl, hi, hb, hk⟩; refine ⟨_, rfl, ?_⟩; replace HK := Aside0.mk (KeepBut.trans (kp HK.out) hk (.inl rfl)); replace HB := Aside0.mk (hb); replace HI0 := Aside0.mk (hi); (try clear hb); (try clear hb2); (try clear hk); (try clear hi)) | ((with_reducible refine gate_dst (N := 6) rfl ?_); refine Kd.R_lit (Kd.int .i64) _ 3 ?hg (N := 6) ?hd (xs := ([(-1), 256, 65535, 65536, 9223372036854775807, (-9223372036854775808), 511] : List Int)) (inner := [.int .i64 (-1), .int .i64 256, .int .i64 65535, .int .i64 65536, .int .i64 9223372036854775807, .int .i64 (-9223372036854775808), .int .i64 511]) (ok := fun _ => True) (okp := fun _ => True) ?hr ?hp (fun _ hk => hk) trivial (Below.refl _ _) (Nat.le_refl _) (by simp) ?_; (case hd => rfl); (case hg => rfl); (case hr => first | (go_simp; done) | (go_simp; rfl)); (case hp => exact (reI _)); intro v534 w6 ho7 hb hg_ hnew_; clear hg_ hnew_; (first | rw [← Ny533.out] at ho7 | (simp only [Int.reduceToNat] at ho7; rw [← Ny533.out] at ho7)); have HO535 := Aside0.mk (Kd.R_lower ho7 (keep_size (w := w) (g := g) (row := none) (kp HK.out))); replace HI0 := Aside0.mk (IsS107.below (si HI0.out) hb); replace HK := Aside0.mk (KeepBut.trans (kp HK.out) (KeepBut.of_below hb g none) (.inl rfl)); replace HB := Aside0.mk (below_step (bi HB.out) hb); clear hb ho7; obtain ⟨Ao8, co8, eo8⟩ := Kd.R_slice HO535.out; subst eo8) | ((with_reducible refine gate_callee (f := 70) rfl ?_); refine goesM_ (some 7) rfl rfl Try.func70 #[.pointer (some ⟨g, 0, none⟩), .slice Ao8 y533.length co8] ?_; (with_reducible refine (spec_l1PickInt.calls g s0_0 t531 t532 _ _ y533 t536 t537 t538 w0 _ ?side1 ?side2 ?side3 ?side4 ?side5 A4.out).mono ?_); (case side1 => exact si HI0.out); (case side2 => exact bi HB.out); (case side3 => exact kc (Kd.R_reads' HO535.out).2.2); (case side4 => exact (Kd.R_reads' HO535.out).2.1); (case side5 => exact far_slice (IsS107.own_ne HI0.out HO535.out (by decide))); rintro e w9 ⟨rfl, hi, hb, hk⟩; refine ⟨_, rfl, ?_⟩; replace HO535 := Aside0.mk (Kd.R_mono (Kd.R_keep (IsS107.apart (show IsS107 w0 _ g s0_0 t531 t532 from si HI0.out) (kr HO535.out) (by decide)) hk (fun _ h => h.2)) (fun _ h => h.1)); replace HK := Aside0.mk (KeepBut.trans (kp HK.out) hk (.inl rfl)); replace HB := Aside0.mk (hb); replace HI0 := Aside0.mk (hi); (try clear hb); (try clear hb2); (try clear hk); (try clear hi)))
  go_ret
  exact ⟨rt, si HI0.out, bi HB.out, kp HK.out⟩
 ·replace c3 := Bool.eq_false_iff.mpr c3
  subst c3
  have H1 : ((spec_l1Below.f s0_0 t531 t532 256).bind fun bt539 => (some (bt539.1, bt539.2.1, bt539.2.2))) = some (r1, r2, r3) := by rw [if_neg (show ¬ (false = true) by decide)] at H; exact H
  clear H
  have H := H1
  clear H1
  replace H := Option.bind_eq_some_iff.mp H
  obtain ⟨⟨t539, t540, t541⟩, A100, H⟩ := H
  replace H : (some (t539, t540, t541)) = some (r1, r2, r3) := H
  have A10 := Aside0.mk A100
  clear A100
  simp only [Option.some.injEq, Prod.mk.injEq] at H
  obtain ⟨rfl, rfl, rfl⟩ := H
  go_enter Try.func75, Try.ntmps75
  go_wp2_with (first | ((with_reducible refine gate_callee (f := 58) rfl ?_); refine goesM_ (some 4) rfl rfl Try.func58 #[.pointer (some ⟨g, 0, none⟩), .int .i64 9] ?_; (with_reducible refine (spec_l1Once.calls g s0_0 s0_1 s0_2 9 false t531 t532 w0 _ ?side1 ?side2 A2.out).mono ?_); (case side1 => exact si HI0.out); (case side2 => exact bi HB.out); rintro e w11 ⟨rfl, hi, hb, hk⟩; refine ⟨_, rfl, ?_⟩; replace HK := Aside0.mk (KeepBut.trans (kp HK.out) hk (.inl rfl)); replace HB := Aside0.mk (hb); replace HI0 := Aside0.mk (hi); (try clear hb); (try clear hb2); (try clear hk); (try clear hi)) | ((with_reducible refine gate_callee (f := 60) rfl ?_); refine goesM_ (some 9) rfl rfl Try.func60 #[.pointer (some ⟨g, 0, none⟩), .int .i64 256] ?_; (with_reducible refine (spec_l1Below.calls g s0_0 t531 t532 256 t539 t540 t541 w0 _ ?side1 ?side2 A10.out).mono ?_); (case side1 => exact si HI0.out); (case side2 => exact bi HB.out); rintro e w12 ⟨rfl, hi, hb, hk⟩; refine ⟨_, rfl, ?_⟩; replace HK := Aside0.mk (KeepBut.trans (kp HK.out) hk (.inl rfl)); replace HB := Aside0.mk (hb); replace HI0 := Aside0.mk (hi); (try clear hb); (try clear hb2); (try clear hk); (try clear hi)))
  go_ret
  exact ⟨rt, si HI0.out, bi HB.out, kp HK.out⟩

/-! ### spec_WithFlags: function 95 -/
def spec_WithFlags.f (a0_0 : Int) (a0_1 : Int) (a0_2 : Int) (a0_3 : Int) (a0_4 : Bool) (a0_5 : Bool) (a0_6 : Bool) (a0_7 : Bool) (a1 : Int) : Option (Int × Int × Int × Int × Bool × Bool × Bool × Bool) := some (a0_0, a0_1, a0_2, a0_3, ((Go.bits .and .i64 a1 2) != 0), ((Go.bits .and .i64 a1 128) != 0), ((Go.bits .and .i64 a1 1) != 0), ((Go.bits .and .i64 a1 4) != 0))
set_option maxHeartbeats 8000000 in
set_option maxRecDepth 100000 in
theorem spec_WithFlags.calls (a0_0 : Int) (a0_1 : Int) (a0_2 : Int) (a0_3 : Int) (a0_4 : Bool) (a0_5 : Bool) (a0_6 : Bool) (a0_7 : Bool) (a1 : Int) (r1 : Int) (r2 : Int) (r3 : Int) (r4 : Int) (r5 : Bool) (r6 : Bool) (r7 : Bool) (r8 : Bool) (w : World) (h : spec_WithFlags.f a0_0 a0_1 a0_2 a0_3 a0_4 a0_5 a0_6 a0_7 a1 = some (r1, r2, r3, r4, r5, r6, r7, r8)) :
  Calls Try.prog 95 #[.agg #[.int .i64 a0_0, .int .i64 a0_1, .int .i64 a0_2, .int .i64 a0_3, .bool a0_4, .bool a0_5, .bool a0_6, .bool a0_7], .int .i64 a1] w fun e w' => e = .returned (.agg #[.int .i64 r1, .int .i64 r2, .int .i64 r3, .int .i64 r4, .bool r5, .bool r6, .bool r7, .bool r8]) ∧ Below w.heap.size w w' := by
 have hu55 := Try.underlying55
 have HB := Aside0.mk (Below.refl w.heap.size w)
 have H : (some (a0_0, a0_1, a0_2, a0_3, ((Go.bits .and .i64 a1 2) != 0), ((Go.bits .and .i64 a1 128) != 0), ((Go.bits .and .i64 a1 1) != 0), ((Go.bits .and .i64 a1 4) != 0))) = some (r1, r2, r3, r4, r5, r6, r7, r8) := h
 clear h
 simp only [Option.some.injEq, Prod.mk.injEq] at H
 obtain ⟨rfl, rfl, rfl, rfl, rfl, rfl, rfl, rfl⟩ := H
 go_enter Try.func95, Try.ntmps95
 go_wp2_with (first | ((with_reducible refine gate_dst (N := 2) rfl ?_); refine bx (N := 2) (cs := #[.int .i64 a0_0, .int .i64 a0_1, .int .i64 a0_2, .int .i64 a0_3, .bool a0_4, .bool a0_5, .bool a0_6, .bool a0_7]) (t := 55) ?_; intro gb542 hg w3 hbox hb; have BK542 := Aside0.mk (hbox); have GW542 := Aside0.mk ((gs hg (bw HB.out))); have GE542 := Aside0.mk ((gs hg (bw HB.out))); replace HB := Aside0.mk (below_step (bw HB.out) hb); clear hb hbox hg) | ((with_reducible refine gate_dst (N := 4) rfl ?_); refine bx (N := 4) (cs := #[.int .i64 0, .int .i64 0, .int .i64 0, .int .i64 0, .bool false, .bool false, .bool false, .bool false]) (t := 55) ?_; intro gb543 hg w4 hbox hb; have BK543 := Aside0.mk (hbox); have GW543 := Aside0.mk ((gs hg (bw HB.out))); have GE543 := Aside0.mk ((gs hg (bw HB.out))); replace HB := Aside0.mk (below_step (bw HB.out) hb); have NB542_543 := Aside0.mk ((ga hg BK542.out)); have NB543_542 := Aside0.mk ((gc hg BK542.out)); replace BK542 := Aside0.mk (bb BK542 hb); clear hb hbox hg; have hnb5 := NB542_543.out; have hnc5 := NB543_542.out; obtain ⟨hcz6_0, hcz6_1, hcz6_2, hcz6_3, hcz6_4, hcz6_5, hcz6_6, hcz6_7⟩ := ce8 BK542; obtain ⟨hfz6_0, hfz6_1, hfz6_2, hfz6_3, hfz6_4, hfz6_5, hfz6_6, hfz6_7⟩ := fz8 BK542; obtain ⟨hcz7_0, hcz7_1, hcz7_2, hcz7_3, hcz7_4, hcz7_5, hcz7_6, hcz7_7⟩ := ce8 BK543; have hfz7_0 := blk_frozen BK543.out 0; have hfz7_1 := blk_frozen BK543.out 1; have hfz7_2 := blk_frozen BK543.out 2; have hfz7_3 := blk_frozen BK543.out 3; have hfz7_4 := blk_frozen BK543.out 4; have hfz7_5 := blk_frozen BK543.out 5; have hfz7_6 := blk_frozen BK543.out 6; have hfz7_7 := blk_frozen BK543.out 7))
 refine bodyPost_ret (results_cell_row rfl _ _ gb543 55 #[.int .i64 a0_0, .int .i64 a0_1, .int .i64 a0_2, .int .i64 a0_3, .bool ((Go.bits .and .i64 a1 2) != 0), .bool ((Go.bits .and .i64 a1 128) != 0), .bool ((Go.bits .and .i64 a1 1) != 0), .bool ((Go.bits .and .i64 a1 4) != 0)] (0, 0) _ rfl (bf NB543_542 BK543.out) Try.underlying55 rfl (by kernel_rfl)) rfl ?_
 exact ⟨rt, bw HB.out⟩

/-! ### spec_l5DrawRight: function 108 -/
def spec_l5DrawRight.f (s0_0 : List Int) (s0_1 : Int) (s0_2 : Int) : Option (Int × Int × Int × Int × Bool × Bool × Bool × Bool × Int × Int) := (spec_l1Below.f s0_0 s0_1 s0_2 256).bind fun bt545 => ((spec_l1Below.f s0_0 bt545.2.1 bt545.2.2 256).bind fun bt548 => ((spec_l1PickInt.f s0_0 bt548.2.1 bt548.2.2 (([0, 1, 2, 255, 254, 128] : List Int))).bind fun bt554 => ((spec_l1PickInt.f s0_0 bt554.2.1 bt554.2.2 (([0, 49152, 49200, 65535, 65534, 32768, 8192, 511] : List Int))).bind fun bt560 => ((spec_l1Below.f s0_0 bt560.2.1 bt560.2.2 256).bind fun bt563 => ((spec_WithFlags.f bt545.1 bt548.1 bt554.1 bt560.1 false false false false bt563.1).bind fun bt566 => (some (bt566.1, bt566.2.1, bt566.2.2.1, bt566.2.2.2.1, bt566.2.2.2.2.1, bt566.2.2.2.2.2.1, bt566.2.2.2.2.2.2.1, bt566.2.2.2.2.2.2.2, bt563.2.1, bt563.2.2)))))))
set_option maxHeartbeats 8000000 in
set_option maxRecDepth 100000 in
theorem spec_l5DrawRight.calls (g : Nat) (s0_0 : List Int) (s0_1 : Int) (s0_2 : Int) (r1 : Int) (r2 : Int) (r3 : Int) (r4 : Int) (r5 : Bool) (r6 : Bool) (r7 : Bool) (r8 : Bool) (r9 : Int) (r10 : Int) (w0 w : World) (hI : IsS107 w0 w g s0_0 s0_1 s0_2) (hB : Below w0.heap.size w0 w) (h : spec_l5DrawRight.f s0_0 s0_1 s0_2 = some (r1, r2, r3, r4, r5, r6, r7, r8, r9, r10)) :
  Calls Try.prog 108 #[.pointer (some ⟨g, 0, none⟩)] w fun e w' => e = .returned (.agg #[.int .i64 r1, .int .i64 r2, .int .i64 r3, .int .i64 r4, .bool r5, .bool r6, .bool r7, .bool r8]) ∧ IsS107 w0 w' g s0_0 r9 r10 ∧ Below w0.heap.size w0 w' ∧ KeepBut w w' g none := by
 have hu55 := Try.underlying55
 have HI0 := Aside0.mk hI
 have HK := Aside0.mk (KeepBut.refl w g none)
 have HL := Aside0.mk hB.size
 clear hI
 have HW0 := Aside0.mk hB.size
 have HB := Aside0.mk hB
 clear hB
 have H : ((spec_l1Below.f s0_0 s0_1 s0_2 256).bind fun bt545 => ((spec_l1Below.f s0_0 bt545.2.1 bt545.2.2 256).bind fun bt548 => ((spec_l1PickInt.f s0_0 bt548.2.1 bt548.2.2 (([0, 1, 2, 255, 254, 128] : List Int))).bind fun bt554 => ((spec_l1PickInt.f s0_0 bt554.2.1 bt554.2.2 (([0, 49152, 49200, 65535, 65534, 32768, 8192, 511] : List Int))).bind fun bt560 => ((spec_l1Below.f s0_0 bt560.2.1 bt560.2.2 256).bind fun bt563 => ((spec_WithFlags.f bt545.1 bt548.1 bt554.1 bt560.1 false false false false bt563.1).bind fun bt566 => (some (bt566.1, bt566.2.1, bt566.2.2.1, bt566.2.2.2.1, bt566.2.2.2.2.1, bt566.2.2.2.2.2.1, bt566.2.2.2.2.2.2.1, bt566.2.2.2.2.2.2.2, bt563.2.1, bt563.2.2)))))))) = some (r1, r2, r3, r4, r5, r6, r7, r8, r9, r10) := h
 clear h
 replace H := Option.bind_eq_some_iff.mp H
 obtain ⟨⟨t545, t546, t547⟩, A20, H⟩ := H
 replace H : ((spec_l1Below.f s0_0 t546 t547 256).bind fun bt548 => ((spec_l1PickInt.f s0_0 bt548.2.1 bt548.2.2 (([0, 1, 2, 255, 254, 128] : List Int))).bind fun bt554 => ((spec_l1PickInt.f s0_0 bt554.2.1 bt554.2.2 (([0, 49152, 49200, 65535, 65534, 32768, 8192, 511] : List Int))).bind fun bt560 => ((spec_l1Below.f s0_0 bt560.2.1 bt560.2.2 256).bind fun bt563 => ((spec_WithFlags.f t545 bt548.1 bt554.1 bt560.1 false false false false bt563.1).bind fun bt566 => (some (bt566.1, bt566.2.1, bt566.2.2.1, bt566.2.2.2.1, bt566.2.2.2.2.1, bt566.2.2.2.2.2.1, bt566.2.2.2.2.2.2.1, bt566.2.2.2.2.2.2.2, bt563.2.1, bt563.2.2))))))) = some (r1, r2, r3, r4, r5, r6, r7, r8, r9, r10) := H
 have A2 := Aside0.mk A20
 clear A20
 replace H := Option.bind_eq_some_iff.mp H
 obtain ⟨⟨t548, t549, t550⟩, A30, H⟩ := H
 replace H : ((spec_l1PickInt.f s0_0 t549 t550 (([0, 1, 2, 255, 254, 128] : List Int))).bind fun bt554 => ((spec_l1PickInt.f s0_0 bt554.2.1 bt554.2.2 (([0, 49152, 49200, 65535, 65534, 32768, 8192, 511] : List Int))).bind fun bt560 => ((spec_l1Below.f s0_0 bt560.2.1 bt560.2.2 256).bind fun bt563 => ((spec_WithFlags.f t545 t548 bt554.1 bt560.1 false false false false bt563.1).bind fun bt566 => (some (bt566.1, bt566.2.1, bt566.2.2.1, bt566.2.2.2.1, bt566.2.2.2.2.1, bt566.2.2.2.2.2.1, bt566.2.2.2.2.2.2.1, bt566.2.2.2.2.2.2.2, bt563.2.1, bt563.2.2)))))) = some (r1, r2, r3, r4, r5, r6, r7, r8, r9, r10) := H
 have A3 := Aside0.mk A30
 clear A30
 obtain ⟨y551, hy551⟩ : ∃ y_ : List Int, y_ = (([0, 1, 2, 255, 254, 128] : List Int)) := ⟨_, rfl⟩
 replace H : ((spec_l1PickInt.f s0_0 t549 t550 y551).bind fun bt554 => ((spec_l1PickInt.f s0_0 bt554.2.1 bt554.2.2 (([0, 49152, 49200, 65535, 65534, 32768, 8192, 511] : List Int))).bind fun bt560 => ((spec_l1Below.f s0_0 bt560.2.1 bt560.2.2 256).bind fun bt563 => ((spec_WithFlags.f t545 t548 bt554.1 bt560.1 false false false false bt563.1).bind fun bt566 => (some (bt566.1, bt566.2.1, bt566.2.2.1, bt566.2.2.2.1, bt566.2.2.2.2.1, bt566.2.2.2.2.2.1, bt566.2.2.2.2.2.2.1, bt566.2.2.2.2.2.2.2, bt563.2.1, bt563.2.2)))))) = some (r1, r2, r3, r4, r5, r6, r7, r8, r9, r10) := by first | (rw [hy551]; with_reducible exact H) | (have H2_ := (Option.bind_some _ _).symm.trans H; rw [hy551]; with_reducible exact H2_) | (have H2_ := (Option.bind_some _ _).symm.trans H; with_reducible exact H2_) | with_reducible exact H | (rw [hy551]; exact H) | exact H
 have Ny551 := Aside0.mk hy551
 clear hy551
 replace H := Option.bind_eq_some_iff.mp H
 obtain ⟨⟨t554, t555, t556⟩, A40, H⟩ := H
 replace H : ((spec_l1PickInt.f s0_0 t555 t556 (([0, 49152, 49200, 65535, 65534, 32768, 8192, 511] : List Int))).bind fun bt560 => ((spec_l1Below.f s0_0 bt560.2.1 bt560.2.2 256).bind fun bt563 => ((spec_WithFlags.f t545 t548 t554 bt560.1 false false false false bt563.1).bind fun bt566 => (some (bt566.1, bt566.2.1, bt566.2.2.1, bt566.2.2.2.1, bt566.2.2.2.2.1, bt566.2.2.2.2.2.1, bt566.2.2.2.2.2.2.1, bt566.2.2.2.2.2.2.2, bt563.2.1, bt563.2.2))))) = some (r1, r2, r3, r4, r5, r6, r7, r8, r9, r10) := H
 have A4 := Aside0.mk A40
 clear A40
 obtain ⟨y557, hy557⟩ : ∃ y_ : List Int, y_ = (([0, 49152, 49200, 65535, 65534, 32768, 8192, 511] : List Int)) := ⟨_, rfl⟩
 replace H : ((spec_l1PickInt.f s0_0 t555 t556 y557).bind fun bt560 => ((spec_l1Below.f s0_0 bt560.2.1 bt560.2.2 256).bind fun bt563 => ((spec_WithFlags.f t545 t548 t554 bt560.1 false false false false bt563.1).bind fun bt566 => (some (bt566.1, bt566.2.1, bt566.2.2.1, bt566.2.2.2.1, bt566.2.2.2.2.1, bt566.2.2.2.2.2.1, bt566.2.2.2.2.2.2.1, bt566.2.2.2.2.2.2.2, bt563.2.1, bt563.2.2))))) = some (r1, r2, r3, r4, r5, r6, r7, r8, r9, r10) := by first | (rw [hy557]; with_reducible exact H) | (have H2_ := (Option.bind_some _ _).symm.trans H; rw [hy557]; with_reducible exact H2_) | (have H2_ := (Option.bind_some _ _).symm.trans H; with_reducible exact H2_) | with_reducible exact H | (rw [hy557]; exact H) | exact H
 have Ny557 := Aside0.mk hy557
 clear hy557
 replace H := Option.bind_eq_some_iff.mp H
 obtain ⟨⟨t560, t561, t562⟩, A50, H⟩ := H
 replace H : ((spec_l1Below.f s0_0 t561 t562 256).bind fun bt563 => ((spec_WithFlags.f t545 t548 t554 t560 false false false false bt563.1).bind fun bt566 => (some (bt566.1, bt566.2.1, bt566.2.2.1, bt566.2.2.2.1, bt566.2.2.2.2.1, bt566.2.2.2.2.2.1, bt566.2.2.2.2.2.2.1, bt566.2.2.2.2.2.2.2, bt563.2.1, bt563.2.2)))) = some (r1, r2, r3, r4, r5, r6, r7, r8, r9, r10) := H
 have A5 := Aside0.mk A50
 clear A50
 replace H := Option.bind_eq_some_iff.mp H
 obtain ⟨⟨t563, t564, t565⟩, A60, H⟩ := H
 replace H : ((spec_WithFlags.f t545 t548 t554 t560 false false false false t563).bind fun bt566 => (some (bt566.1, bt566.2.1, bt566.2.2.1, bt566.2.2.2.1, bt566.2.2.2.2.1, bt566.2.2.2.2.2.1, bt566.2.2.2.2.2.2.1, bt566.2.2.2.2.2.2.2, t564, t565))) = some (r1, r2, r3, r4, r5, r6, r7, r8, r9, r10) := H
 have A6 := Aside0.mk A60
 clear A60
 replace H := Option.bind_eq_some_iff.mp H
 obtain ⟨⟨t566, t567, t568, t569, t570, t571, t572, t573⟩, A70, H⟩ := H
 replace H : (some (t566, t567, t568, t569, t570, t571, t572, t573, t564, t565)) = some (r1, r2, r3, r4, r5, r6, r7, r8, r9, r10) := H
 have A7 := Aside0.mk A70
 clear A70
 simp only [Option.some.injEq, Prod.mk.injEq] at H
 obtain ⟨rfl, rfl, rfl, rfl, rfl, rfl, rfl, rfl, rfl, rfl⟩ := H
 go_enter Try.func108, Try.ntmps108
 go_wp2_with (first | ((with_reducible refine gate_dst (N := 2) rfl ?_); refine bx (N := 2) (cs := #[.int .i64 0, .int .i64 0, .int .i64 0, .int .i64 0, .bool false, .bool false, .bool false, .bool false]) (t := 55) ?_; intro gb544 hg w8 hbox hb; have n0_ := Aside0.mk (IsS107.below (si HI0.out) hb); have n1_ := Aside0.mk (KeepBut.trans (kp HK.out) (KeepBut.of_below hb g none) (.inl rfl)); have n2_ := Aside0.mk (below_step (bi HB.out) hb); have n3_ := Aside0.mk (hbox); have n4_ := Aside0.mk ((by rw [hg]; exact (keep_size (w := w) (g := g) (row := none) (kp HK.out)) : w.heap.size ≤ gb544)); have n5_ := Aside0.mk ((Nat.le_trans HW0.out (by rw [hg]; exact (keep_size (w := w) (g := g) (row := none) (kp HK.out)) : w.heap.size ≤ gb544) : w0.heap.size ≤ gb544)); have n6_ := Aside0.mk ((by rw [hg]; exact Nat.ne_of_lt (IsS107.lt (show IsS107 w0 _ g s0_0 s0_1 s0_2 from si HI0.out)) : g ≠ gb544)); have n7_ := Aside0.mk ((by rw [hg]; exact Nat.ne_of_gt (IsS107.lt (show IsS107 w0 _ g s0_0 s0_1 s0_2 from si HI0.out)) : gb544 ≠ g)); clear HI0; clear HK; clear HB; have HI0 := n0_; have HK := n1_; have HB := n2_; have BK544 := n3_; have GW544 := n4_; have GE544 := n5_; have NB0_544 := n6_; have NB544_0 := n7_; clear n0_ n1_ n2_ n3_ n4_ n5_ n6_ n7_; clear hb hbox hg) | ((with_reducible refine gate_callee (f := 60) rfl ?_); refine goesM_ (some 4) rfl rfl Try.func60 #[.pointer (some ⟨g, 0, none⟩), .int .i64 256] ?_; (with_reducible refine (spec_l1Below.calls g s0_0 s0_1 s0_2 256 t545 t546 t547 w0 _ ?side1 ?side2 A2.out).mono ?_); (case side1 => exact si HI0.out); (case side2 => exact bi HB.out); rintro e w9 ⟨rfl, hi, hb, hk⟩; refine ⟨_, rfl, ?_⟩; replace BK544 := Aside0.mk (kB hk (kb BK544.out) NB544_0); replace HK := Aside0.mk (KeepBut.trans (kp HK.out) hk (.inl rfl)); replace HB := Aside0.mk (hb); replace HI0 := Aside0.mk (hi); (try clear hb); (try clear hb2); (try clear hk); (try clear hi)) | ((with_reducible refine gate_callee (f := 60) rfl ?_); refine goesM_ (some 6) rfl rfl Try.func60 #[.pointer (some ⟨g, 0, none⟩), .int .i64 256] ?_; (with_reducible refine (spec_l1Below.calls g s0_0 t546 t547 256 t548 t549 t550 w0 _ ?side1 ?side2 A3.out).mono ?_); (case side1 => exact si HI0.out); (case side2 => exact bi HB.out); rintro e w10 ⟨rfl, hi, hb, hk⟩; refine ⟨_, rfl, ?_⟩; replace BK544 := Aside0.mk (kB hk (kb BK544.out) NB544_0); replace HK := Aside0.mk (KeepBut.trans (kp HK.out) hk (.inl rfl)); replace HB := Aside0.mk (hb); replace HI0 := Aside0.mk (hi); (try clear hb); (try clear hb2); (try clear hk); (try clear hi)) | ((with_reducible refine gate_dst (N := 8) rfl ?_); refine Kd.R_lit (Kd.int .i64) _ 3 ?hg (N := 8) ?hd (xs := ([0, 1, 2, 255, 254, 128] : List Int)) (inner := [.int .i64 0, .int .i64 1, .int .i64 2, .int .i64 255, .int .i64 254, .int .i64 128]) (ok := fun _ => True) (okp := fun _ => True) ?hr ?hp (fun _ hk => hk) trivial (Below.refl _ _) (Nat.le_refl _) (by simp) ?_; (case hd => rfl); (case hg => rfl); (case hr => first | (go_simp; done) | (go_simp; rfl)); (case hp => exact (reI _)); intro v552 w11 ho12 hb hg_ hnew_; clear hg_ hnew_; (first | rw [← Ny551.out] at ho12 | (simp only [Int.reduceToNat] at ho12; rw [← Ny551.out] at ho12)); have HO553 := Aside0.mk (Kd.R_lower ho12 (keep_size (w := w) (g := g) (row := none) (kp HK.out))); replace HI0 := Aside0.mk (IsS107.below (si HI0.out) hb); replace BK544 := Aside0.mk (bb BK544 hb); replace HK := Aside0.mk (KeepBut.trans (kp HK.out) (KeepBut.of_below hb g none) (.inl rfl)); replace HB := Aside0.mk (below_step (bi HB.out) hb); clear hb ho12; obtain ⟨Ao13, co13, eo13⟩ := Kd.R_slice HO553.out; subst eo13) | ((with_reducible refine gate_callee (f := 70) rfl ?_); refine goesM_ (some 9) rfl rfl Try.func70 #[.pointer (some ⟨g, 0, none⟩), .slice Ao13 y551.length co13] ?_; (with_reducible refine (spec_l1PickInt.calls g s0_0 t549 t550 _ _ y551 t554 t555 t556 w0 _ ?side1 ?side2 ?side3 ?side4 ?side5 A4.out).mono ?_); (case side1 => exact si HI0.out); (case side2 => exact bi HB.out); (case side3 => exact kc (Kd.R_reads' HO553.out).2.2); (case side4 => exact (Kd.R_reads' HO553.out).2.1); (case side5 => exact far_slice (IsS107.own_ne HI0.out HO553.out (by decide))); rintro e w14 ⟨rfl, hi, hb, hk⟩; refine ⟨_, rfl, ?_⟩; replace BK544 := Aside0.mk (kB hk (kb BK544.out) NB544_0); replace HO553 := Aside0.mk (Kd.R_mono (Kd.R_keep (IsS107.apart (show IsS107 w0 _ g s0_0 t549 t550 from si HI0.out) (kr HO553.out) (by decide)) hk (fun _ h => h.2)) (fun _ h => h.1)); replace HK := Aside0.mk (KeepBut.trans (kp HK.out) hk (.inl rfl)); replace HB := Aside0.mk (hb); replace HI0 := Aside0.mk (hi); (try clear hb); (try clear hb2); (try clear hk); (try clear hi)) | ((with_reducible refine gate_dst (N := 11) rfl ?_); refine Kd.R_lit (Kd.int .i64) _ 3 ?hg (N := 11) ?hd (xs := ([0, 49152, 49200, 65535, 65534, 32768, 8192, 511] : List Int)) (inner := [.int .i64 0, .int .i64 49152, .int .i64 49200, .int .i64 65535, .int .i64 65534, .int .i64 32768, .int .i64 8192, .int .i64 511]) (ok := fun _ => True) (okp := fun _ => True) ?hr ?hp (fun _ hk => hk) trivial (Below.refl _ _) (Nat.le_refl _) (by simp) ?_; (case hd => rfl); (case hg => rfl); (case hr => first | (go_simp; done) | (go_simp; rfl)); (case hp => exact (reI _)); intro v558 w15 ho16 hb hg_ hnew_; clear hg_ hnew_; (first | rw [← Ny557.out] at ho16 | (simp only [Int.reduceToNat] at ho16; rw [← Ny557.out] at ho16)); have HO559 := Aside0.mk (Kd.R_lower (Kd.R_new' ho16 (Kd.R_lt (kr HO553.out))) (keep_size (w := w) (g := g) (row := none) (kp HK.out))); replace HO553 := Aside0.mk (Kd.R_elder' (kr HO553.out) (Kd.R_base ho16) hb); replace HI0 := Aside0.mk (IsS107.below (si HI0.out) hb); replace BK544 := Aside0.mk (bb BK544 hb); replace HK := Aside0.mk (KeepBut.trans (kp HK.out) (KeepBut.of_below hb g none) (.inl rfl)); replace HB := Aside0.mk (below_step (bi HB.out) hb); clear hb ho16; obtain ⟨Ao17, co17, eo17⟩ := Kd.R_slice HO559.out; subst eo17) | ((with_reducible refine gate_callee (f := 70) rfl ?_); refine goesM_ (some 12) rfl rfl Try.func70 #[.pointer (some ⟨g, 0, none⟩), .slice Ao17 y557.length co17] ?_; (with_reducible refine (spec_l1PickInt.calls g s0_0 t555 t556 _ _ y557 t560 t561 t562 w0 _ ?side1 ?side2 ?side3 ?side4 ?side5 A5.out).mono ?_); (case side1 => exact si HI0.out); (case side2 => exact bi HB.out); (case side3 => exact kc (Kd.R_reads' HO559.out).2.2); (case side4 => exact (Kd.R_reads' HO559.out).2.1); (case side5 => exact far_slice (IsS107.own_ne HI0.out HO559.out (by decide))); rintro e w18 ⟨rfl, hi, hb, hk⟩; refine ⟨_, rfl, ?_⟩; replace BK544 := Aside0.mk (kB hk (kb BK544.out) NB544_0); replace HO553 := Aside0.mk (Kd.R_mono (Kd.R_keep (IsS107.apart (show IsS107 w0 _ g s0_0 t555 t556 from si HI0.out) (kr HO553.out) (by decide)) hk (fun _ h => h.2)) (fun _ h => h.1)); replace HO559 := Aside0.mk (Kd.R_mono (Kd.R_keep (IsS107.apart (show IsS107 w0 _ g s0_0 t555 t556 from si HI0.out) (kr HO559.out) (by decide)) hk (fun _ h => h.2)) (fun _ h => h.1)); replace HK := Aside0.mk (KeepBut.trans (kp HK.out) hk (.inl rfl)); replace HB := Aside0.mk (hb); replace HI0 := Aside0.mk (hi); (try clear hb); (try clear hb2); (try clear hk); (try clear hi)) | ((with_reducible refine gate_callee (f := 60) rfl ?_); refine goesM_ (some 15) rfl rfl Try.func60 #[.pointer (some ⟨g, 0, none⟩), .int .i64 256] ?_; (with_reducible refine (spec_l1Below.calls g s0_0 t561 t562 256 t563 t564 t565 w0 _ ?side1 ?side2 A6.out).mono ?_); (case side1 => exact si HI0.out); (case side2 => exact bi HB.out); rintro e w19 ⟨rfl, hi, hb, hk⟩; refine ⟨_, rfl, ?_⟩; replace BK544 := Aside0.mk (kB hk (kb BK544.out) NB544_0); replace HO553 := Aside0.mk (Kd.R_mono (Kd.R_keep (IsS107.apart (show IsS107 w0 _ g s0_0 t561 t562 from si HI0.out) (kr HO553.out) (by decide)) hk (fun _ h => h.2)) (fun _ h => h.1)); replace HO559 := Aside0.mk (Kd.R_mono (Kd.R_keep (IsS107.apart (show IsS107 w0 _ g s0_0 t561 t562 from si HI0.out) (kr HO559.out) (by decide)) hk (fun _ h => h.2)) (fun _ h => h.1)); replace HK := Aside0.mk (KeepBut.trans (kp HK.out) hk (.inl rfl)); replace HB := Aside0.mk (hb); replace HI0 := Aside0.mk (hi); (try clear hb); (try clear hb2); (try clear hk); (try clear hi)) | ((with_reducible refine gate_callee (f := 95) rfl ?_); refine goesM_ (some 16) rfl rfl Try.func95 #[.agg #[.int .i64 t545, .int .i64 t548, .int .i64 t554, .int .i64 t560, .bool false, .bool false, .bool false, .bool false], .int .i64 t563] ?_; (with_reducible refine (spec_WithFlags.calls t545 t548 t554 t560 false false false false t563 t566 t567 t568 t569 t570 t571 t572 t573 _ A7.out).mono ?_); rintro e w20 ⟨rfl, hb⟩; refine ⟨_, rfl, ?_⟩; replace HO553 := Aside0.mk (Kd.R_below (kr HO553.out) hb); replace HO559 := Aside0.mk (Kd.R_below (kr HO559.out) hb); replace HI0 := Aside0.mk (IsS107.below (si HI0.out) hb); replace BK544 := Aside0.mk (bb BK544 hb); replace HK := Aside0.mk (KeepBut.trans (kp HK.out) (KeepBut.of_below hb g none) (.inl rfl)); replace HB := Aside0.mk (below_step (bi HB.out) hb); (try clear hb); (try clear hb2); (try clear hk); (try clear hi); have hnb21 := NB544_0.out; have hnc21 := NB0_544.out; obtain ⟨hcz22_0, hcz22_1, hcz22_2, hcz22_3, hcz22_4, hcz22_5, hcz22_6, hcz22_7⟩ := ce8 BK544; have hfz22_0 := blk_frozen BK544.out 0; have hfz22_1 := blk_frozen BK544.out 1; have hfz22_2 := blk_frozen BK544.out 2; have hfz22_3 := blk_frozen BK544.out 3; have hfz22_4 := blk_frozen BK544.out 4; have hfz22_5 := blk_frozen BK544.out 5; have hfz22_6 := blk_frozen BK544.out 6; have hfz22_7 := blk_frozen BK544.out 7))
 refine bodyPost_ret (results_cell_row rfl _ _ gb544 55 #[.int .i64 t566, .int .i64 t567, .int .i64 t568, .int .i64 t569, .bool t570, .bool t571, .bool t572, .bool t573] (0, 0) _ rfl (bq BK544.out) Try.underlying55 rfl (by kernel_rfl)) rfl ?_
 exact ⟨rt, si HI0.out, bi HB.out, kp HK.out⟩

end Go.Proofs.Ytmkccgbfgebfbaa.MFnEntered
