/- Walks of functions that the law FnMemory reaches: each comes to just what its Lean function says. (Begun as the texts that print.sh wrote for this claim; some of them, and those that it does not write, are mine.) No condition. -/
import Derived.Test.YtmkccgbfgebfbaaMFnMemoryx2
namespace Go.Proofs.Ytmkccgbfgebfbaa.MFnMemory
open Go.RowKit Go.Proofs.YtmkccgbfgebfbaaW.PrintWords Go.Proofs.YtmkccgbfgebfbaaW.PrintLast Go.Proofs.YtmkccgbfgebfbaaW.PrintMore
attribute [local go_sem] max2_int min2_int max_two min_two max_three min_three max_four min_four   -- for this text's walks alone
set_option linter.unusedVariables false
set_option linter.unusedSimpArgs false

/-! ### spec_l2DrawRight: function 69 -/
def last6 (r : List Int) : List Int := (((((r.set 250 128).set 251 192).set 252 0).set 253 192).set 254 160).set 255 192
/-- The last bank, with what stands at its end. -/
def lastSix (x : List (List Int)) (i : Int) : List (List Int) := x.set i.toNat (last6 (rd_L2 x i))
def six (W : World) (g : Nat) : World := (((((W.setCell ⟨g, 250, none⟩ (.int .i64 128)).setCell ⟨g, 251, none⟩ (.int .i64 192)).setCell ⟨g, 252, none⟩ (.int .i64 0)).setCell ⟨g, 253, none⟩ (.int .i64 192)).setCell ⟨g, 254, none⟩ (.int .i64 160)).setCell ⟨g, 255, none⟩ (.int .i64 192)
theorem six_heap (W : World) (g k : Nat) (h : k ≠ g) : (six W g).heap[k]? = W.heap[k]? := by
 unfold six
 refine (Below.heap_setCell _ _ _ k h).trans ?_
 refine (Below.heap_setCell _ _ _ k h).trans ?_
 refine (Below.heap_setCell _ _ _ k h).trans ?_
 refine (Below.heap_setCell _ _ _ k h).trans ?_
 refine (Below.heap_setCell _ _ _ k h).trans ?_
 exact Below.heap_setCell _ _ _ k h
theorem six_below {B : World} {W : World} {g : Nat} (h : Below B.heap.size B W) (hg : B.heap.size ≤ g) : Below B.heap.size B (six W g) := below_set (below_set (below_set (below_set (below_set (below_set h hg) hg) hg) hg) hg) hg
theorem six_blk {W : World} {g b : Nat} {t : TypeId} {cs : Array Value} (h : W.heap[b]? = some (.cells cs t (0, 0))) (hne : b ≠ g) : (six W g).heap[b]? = some (.cells cs t (0, 0)) := (six_heap W g b hne).trans h
theorem six_keep {w W : World} {g gl : Nat} {row : Option Nat} (h : KeepBut w W g row) (hg : w.heap.size ≤ gl) : KeepBut w (six W gl) g row := keep_far (keep_far (keep_far (keep_far (keep_far (keep_far h hg _) hg _) hg _) hg _) hg _) hg _
theorem six_ok {W : World} {base : Nat} {ok : Nat → Prop} {ad : Addr} {n cap : Nat} {X : List (List Int)} (h : Kd.S (Kd.slice 3 (Kd.int .i64)) 30 W base ok (.slice (some ad) n cap) X) (i : Int) (h0 : 0 ≤ i) (h1 : i < (X.length : Int)) {A : Option Addr} {c : Nat}
  (hx : W.cell? (ad.add i.toNat) = some (.slice A (rd_L2 X i).length c)) (h256 : (rd_L2 X i).length = 256) :
  ∃ gl, A = some ⟨gl, 0, none⟩ ∧ base ≤ gl ∧ (∃ cells, W.heap[gl]? = some (.cells cells 3 (0, 0))) ∧ (∀ j : Nat, j < 256 → W.cell? ⟨gl, j, none⟩ = some (.int .i64 (rdOf 0 (rd_L2 X i) (j : Int))) ∧ W.frozen? ⟨gl, j, none⟩ = false) ∧
   Kd.S (Kd.slice 3 (Kd.int .i64)) 30 (six W gl) base ok (.slice (some ad) n cap) (lastSix X i) := by
 obtain ⟨go, rfl⟩ := Kd.R_head (Kd.S_R h)
 have hn := (Kd.S_reads' h).1
 obtain ⟨oki, cc, hcl, hM, hcc, hoki, hH⟩ := Kd.S_lend h [] i h0 (by omega)
 obtain ⟨v, rfl, hR⟩ : ∃ v, cc = [v] ∧ Kd.R (Kd.int .i64) 3 W base oki v (X.getD i.toNat []) := hM
 have hv := hcc 0 v rfl
 rw [add_plain] at hx
 have e1 : i.toNat * (Kd.slice 3 (Kd.int .i64)).sz + 0 = i.toNat := Nat.mul_one _
 rw [e1, hx] at hv
 obtain rfl := Option.some.inj hv
 have e2 : X.getD i.toNat [] = rd_L2 X i := rfl
 rw [e2] at hR
 obtain ⟨gl, cap', e3, hg, hgl, hcells⟩ := Kd.R_form hR (by omega)
 obtain ⟨rfl, _, rfl⟩ : A = some ⟨gl, 0, none⟩ ∧ True ∧ c = cap' := by
  injection e3 with a1 a2 a3
  exact ⟨a1, trivial, a3⟩
 have hok : oki gl := hR.1 gl rfl
 refine ⟨gl, rfl, hg, hcells, fun j j1 => Kd.R_celln 0 hR (j : Int) (by omega) (by omega), ?_⟩
 have r6 : Kd.R (Kd.int .i64) 3 (six W gl) base oki (.slice (some ⟨gl, 0, none⟩) (rd_L2 X i).length c) (last6 (rd_L2 X i)) := by
  unfold six last6
  exact Kd.R_putn (Kd.R_putn (Kd.R_putn (Kd.R_putn (Kd.R_putn (Kd.R_putn hR 250 128) 251 192) 252 0) 253 192) 254 160) 255 192
 exact Kd.H_back (Kd.H_step hH (fun k _ hn _ => six_heap W gl k (fun e => hn (e ▸ hok)))) ⟨_, rfl, r6⟩ (fun _ hk => hk)
theorem six_state {w0 W : World} {g gl : Nat} {f0 : List Int} {f1 f2 : Int} (h : IsS107 w0 W g f0 f1 f2) (hne : g ≠ gl) : IsS107 w0 (six W gl) g f0 f1 f2 :=
 (((((h.far (p := ⟨gl, 250, none⟩) hne _).far (p := ⟨gl, 251, none⟩) hne _).far (p := ⟨gl, 252, none⟩) hne _).far (p := ⟨gl, 253, none⟩) hne _).far (p := ⟨gl, 254, none⟩) hne _).far (p := ⟨gl, 255, none⟩) hne _
def spec_l2DrawRight.l0 : Nat → Int → Int → List Int → Int → Int → List (List Int) → Option ((List (List Int)) × Int × Int)
 | 0, _, _, _, _, _, _ => none
 | k + 1, x4, x5, x1000, x1001, x1002, x276000 => if x5 < x4 then ((spec_l2DrawBank.f k x1000 x1001 x1002).bind fun bt279 => (if x276000.length < 5864062014805 then (spec_l2DrawRight.l0 k x4 (wrap64 (x5 + 1)) x1000 bt279.2.1 bt279.2.2 (x276000 ++ [bt279.1])) else (none))) else ((spec_l1Once.f x1000 x1001 x1002 4).bind fun bt287 => (if bt287.1 = true then (if 0 ≤ (wrap64 (x4 - 1)) then (if (wrap64 (x4 - 1)) < (x276000.length : Int) then (if (rd_L2 x276000 (wrap64 (x4 - 1))).length = 256 then (some (lastSix x276000 (wrap64 (x4 - 1)), bt287.2.1, bt287.2.2)) else (none)) else (none)) else (none)) else ((spec_l2Main.f x1000 bt287.2.1 bt287.2.2).bind fun bt291 => ((spec_Assemble.f k bt291.1).bind fun bt294 => (if (bt294.1.length : Int) = 256 then (if 0 ≤ (wrap64 (x4 - 1)) then (if (wrap64 (x4 - 1)) < (x276000.length : Int) then (if (rd_L2 (x276000.set ((wrap64 (x4 - 1)) : Int).toNat bt294.1) (wrap64 (x4 - 1))).length = 256 then (some (lastSix (x276000.set ((wrap64 (x4 - 1)) : Int).toNat bt294.1) (wrap64 (x4 - 1)), bt291.2.1, bt291.2.2)) else (none)) else (none)) else (none)) else (if 0 ≤ (wrap64 (x4 - 1)) then (if (wrap64 (x4 - 1)) < (x276000.length : Int) then (if (rd_L2 x276000 (wrap64 (x4 - 1))).length = 256 then (some (lastSix x276000 (wrap64 (x4 - 1)), bt291.2.1, bt291.2.2)) else (none)) else (none)) else (none)))))))
def spec_l2DrawRight.f (k : Nat) (s0_0 : List Int) (s0_1 : Int) (s0_2 : Int) : Option ((List (List Int)) × Int × Int) := (spec_l1Below.f s0_0 s0_1 s0_2 3).bind fun bt276 => (spec_l2DrawRight.l0 k (wrap64 (1 + bt276.1)) 0 s0_0 bt276.2.1 bt276.2.2 ([] : List (List Int)))
theorem spec_l2DrawRight.mono_l : ∀ k, (∀ y0 y1 y2 y3 y4 y5, LeO (spec_l2DrawRight.l0 k y0 y1 y2 y3 y4 y5) (spec_l2DrawRight.l0 (k + 1) y0 y1 y2 y3 y4 y5))
 | 0 => fun _ _ _ _ _ _ r h => by simp [spec_l2DrawRight.l0] at h
 | k + 1 => by
  have ih0 := spec_l2DrawRight.mono_l k
  ·intro y0 y1 y2 y3 y4 y5
   unfold spec_l2DrawRight.l0
   repeat' first
   | (with_reducible exact ih0 _ _ _ _ _ _)
   | (with_reducible exact spec_Assemble.mono _ _)
   | (with_reducible exact spec_l2DrawBank.mono _ _ _ _)
   | (with_reducible exact LeO.refl _)
   | (with_reducible exact LeO.none _)
   | (with_reducible refine LeO.ite ?_ ?_)
   | (with_reducible refine LeO.bind ?_ (fun _ => ?_))
   | exact ih0 _ _ _ _ _ _
   | exact spec_Assemble.mono _ _
   | exact spec_l2DrawBank.mono _ _ _ _
   | exact LeO.none _
   | refine LeO.ite ?_ ?_
   | refine LeO.bind ?_ (fun _ => ?_)
theorem spec_l2DrawRight.mono : ∀ a0 a1 a2 k, LeO (spec_l2DrawRight.f k a0 a1 a2) (spec_l2DrawRight.f (k + 1) a0 a1 a2) := by
 intro a0 a1 a2 k
 have ih0 := spec_l2DrawRight.mono_l k
 unfold spec_l2DrawRight.f
 repeat' first
   | (with_reducible exact ih0 _ _ _ _ _ _)
   | (with_reducible exact spec_Assemble.mono _ _)
   | (with_reducible exact spec_l2DrawBank.mono _ _ _ _)
   | (with_reducible exact LeO.refl _)
   | (with_reducible exact LeO.none _)
   | (with_reducible refine LeO.ite ?_ ?_)
   | (with_reducible refine LeO.bind ?_ (fun _ => ?_))
   | exact ih0 _ _ _ _ _ _
   | exact spec_Assemble.mono _ _
   | exact spec_l2DrawBank.mono _ _ _ _
   | exact LeO.none _
   | refine LeO.ite ?_ ?_
   | refine LeO.bind ?_ (fun _ => ?_)
def spec_l2DrawRight.T6 : Bool × List (List Nat × List Nat) := (true, [([], []), ([0], [0]), ([], []), ([2], [2]), ([3], [3]), ([1, 4, 3], [1, 4]), ([0, 1, 2, 3, 4, 5], []), ([6, 5, 5, 0, 1, 2, 3, 4, 5], [5, 6])])
def spec_l2DrawRight.B6 : List Nat := [0, 1, 0, 4, 12, 31, 63, 127]
theorem spec_l2DrawRight.tab6 : rtab .any (opsOf Try.f69 6) = spec_l2DrawRight.T6 := by kernel_rfl
theorem spec_l2DrawRight.bits6 : waitsOk spec_l2DrawRight.T6.2 spec_l2DrawRight.B6 = true := by kernel_rfl
set_option maxHeartbeats 8000000 in
set_option maxRecDepth 100000 in
theorem spec_l2DrawRight.calls (k : Nat) (g : Nat) (s0_0 : List Int) (s0_1 : Int) (s0_2 : Int) (r1 : List (List Int)) (r2 : Int) (r3 : Int) (w0 w : World) (hI : IsS107 w0 w g s0_0 s0_1 s0_2) (hB : Below w0.heap.size w0 w) (h : spec_l2DrawRight.f k s0_0 s0_1 s0_2 = some (r1, r2, r3)) :
  Calls Try.prog 69 #[.pointer (some ⟨g, 0, none⟩)] w fun e w' => ∃ v0_ : Value, e = .returned (.agg #[v0_]) ∧ Kd.S (Kd.slice 3 (Kd.int .i64)) 30 w' w.heap.size (fun _ => True) v0_ r1 ∧ IsS107 w0 w' g s0_0 r2 r3 ∧ Below w0.heap.size w0 w' ∧ KeepBut w w' g none := by
 have hu29 := Try.underlying29
 have HI0 := Aside0.mk hI
 have HK := Aside0.mk (KeepBut.refl w g none)
 have HL := Aside0.mk hB.size
 clear hI
 have HW0 := Aside0.mk hB.size
 have HB := Aside0.mk hB
 clear hB
 have H : ((spec_l1Below.f s0_0 s0_1 s0_2 3).bind fun bt276 => (spec_l2DrawRight.l0 k (wrap64 (1 + bt276.1)) 0 s0_0 bt276.2.1 bt276.2.2 ([] : List (List Int)))) = some (r1, r2, r3) := h
 clear h
 replace H := Option.bind_eq_some_iff.mp H
 obtain ⟨⟨t276, t277, t278⟩, A20, H⟩ := H
 replace H : (spec_l2DrawRight.l0 k (wrap64 (1 + t276)) 0 s0_0 t277 t278 ([] : List (List Int))) = some (r1, r2, r3) := H
 have A2 := Aside0.mk A20
 clear A20
 have H' := Aside0.mk H
 clear H
 go_enter Try.func69, Try.ntmps69
 go_wp2_with (first | ((with_reducible refine gate_dst (N := 2) rfl ?_); refine bx (N := 2) (cs := #[.slice none 0 0]) (t := 29) ?_; intro gb274 hg w3 hbox hb; have n0_ := Aside0.mk (IsS107.below (si HI0.out) hb); have n1_ := Aside0.mk (KeepBut.trans (kp HK.out) (KeepBut.of_below hb g none) (.inl rfl)); have n2_ := Aside0.mk (below_step (bi HB.out) hb); have n3_ := Aside0.mk (hbox); have n4_ := Aside0.mk ((by rw [hg]; exact (keep_size (w := w) (g := g) (row := none) (kp HK.out)) : w.heap.size ≤ gb274)); have n5_ := Aside0.mk ((Nat.le_trans HW0.out (by rw [hg]; exact (keep_size (w := w) (g := g) (row := none) (kp HK.out)) : w.heap.size ≤ gb274) : w0.heap.size ≤ gb274)); have n6_ := Aside0.mk ((by rw [hg]; exact Nat.ne_of_lt (IsS107.lt (show IsS107 w0 _ g s0_0 s0_1 s0_2 from si HI0.out)) : g ≠ gb274)); have n7_ := Aside0.mk ((by rw [hg]; exact Nat.ne_of_gt (IsS107.lt (show IsS107 w0 _ g s0_0 s0_1 s0_2 from si HI0.out)) : gb274 ≠ g)); clear HI0; clear HK; clear HB; have HI0 := n0_; have HK := n1_; have HB := n2_; have BK274 := n3_; have GW274 := n4_; have GE274 := n5_; have NB0_274 := n6_; have NB274_0 := n7_; clear n0_ n1_ n2_ n3_ n4_ n5_ n6_ n7_; clear hb hbox hg) | ((with_reducible refine gate_dst (N := 3) rfl ?_); refine bx (N := 3) (cs := #[.slice none 0 0]) (t := 29) ?_; intro gb275 hg w4 hbox hb; have n0_ := Aside0.mk (IsS107.below (si HI0.out) hb); have n1_ := Aside0.mk (blk_below (g := gb274) (o := .cells #[.slice none 0 0] 29 (0, 0)) (kb BK274.out) hb); have n2_ := Aside0.mk (KeepBut.trans (kp HK.out) (KeepBut.of_below hb g none) (.inl rfl)); have n3_ := Aside0.mk (below_step (bi HB.out) hb); have n4_ := Aside0.mk (hbox); have n5_ := Aside0.mk ((by rw [hg]; exact (keep_size (w := w) (g := g) (row := none) (kp HK.out)) : w.heap.size ≤ gb275)); have n6_ := Aside0.mk ((Nat.le_trans HW0.out (by rw [hg]; exact (keep_size (w := w) (g := g) (row := none) (kp HK.out)) : w.heap.size ≤ gb275) : w0.heap.size ≤ gb275)); have n7_ := Aside0.mk ((ga hg BK274.out)); have n8_ := Aside0.mk ((gc hg BK274.out)); have n9_ := Aside0.mk ((by rw [hg]; exact Nat.ne_of_lt (IsS107.lt (show IsS107 w0 _ g s0_0 s0_1 s0_2 from si HI0.out)) : g ≠ gb275)); have n10_ := Aside0.mk ((by rw [hg]; exact Nat.ne_of_gt (IsS107.lt (show IsS107 w0 _ g s0_0 s0_1 s0_2 from si HI0.out)) : gb275 ≠ g)); clear HI0; clear BK274; clear HK; clear HB; have HI0 := n0_; have BK274 := n1_; have HK := n2_; have HB := n3_; have BK275 := n4_; have GW275 := n5_; have GE275 := n6_; have NB274_275 := n7_; have NB275_274 := n8_; have NB0_275 := n9_; have NB275_0 := n10_; clear n0_ n1_ n2_ n3_ n4_ n5_ n6_ n7_ n8_ n9_ n10_; clear hb hbox hg; have hnb5 := NB275_274.out; have hnc5 := NB274_275.out; have hnb6 := NB275_0.out; have hnc6 := NB0_275.out; have hcz7_0 : w4.cell? ⟨gb275, 0, none⟩ = some (.slice none 0 0) := (blk_cell BK275.out 0).trans rfl; have hfz7_0 := blk_frozen BK275.out 0) | ((with_reducible refine gate_callee (f := 60) rfl ?_); refine goesM_ (some 11) rfl rfl Try.func60 #[.pointer (some ⟨g, 0, none⟩), .int .i64 3] ?_; (with_reducible refine (spec_l1Below.calls g s0_0 s0_1 s0_2 3 t276 t277 t278 w0 _ ?side1 ?side2 A2.out).mono ?_); (case side1 => exact si HI0.out); (case side2 => exact bi HB.out); rintro e w8 ⟨rfl, hi, hb, hk⟩; refine ⟨_, rfl, ?_⟩; have n0_ := Aside0.mk (KeepBut.blk hk (g' := gb274) (o := .cells #[.slice none 0 0] 29 (0, 0)) (kf BK274.out) NB274_0.out (by simp)); have n1_ := Aside0.mk (KeepBut.blk hk (g' := gb275) (o := .cells #[.slice none 0 0] 29 (0, 0)) (kt BK275.out) NB275_0.out (by simp)); have n2_ := Aside0.mk (KeepBut.trans (kp HK.out) hk (.inl rfl)); have n3_ := Aside0.mk (hb); have n4_ := Aside0.mk (hi); clear BK274; clear BK275; clear HK; clear HB; clear HI0; have BK274 := n0_; have BK275 := n1_; have HK := n2_; have HB := n3_; have HI0 := n4_; clear n0_ n1_ n2_ n3_ n4_; (try clear hb); (try clear hb2); (try clear hk); (try clear hi)))
 go_loopg [5] k (fun kq v5 w' => ∃ (x5_1 : Int) (x1001_1 : Int) (x1002_1 : Int) (x276000_1 : List (List Int)) (u276000 : Value), v5 = .int .i64 x5_1 ∧ Aside0 (spec_l2DrawRight.l0 kq (wrap64 (1 + t276)) x5_1 s0_0 x1001_1 x1002_1 x276000_1 = some (r1, r2, r3)) ∧ Aside0 (kq ≤ k) ∧ Aside0 (Kd.S (Kd.slice 3 (Kd.int .i64)) 30 w' w.heap.size (fun _ => True) u276000 x276000_1) ∧ Aside0 (w'.heap[gb274]? = some (.cells #[(.slice none 0 0)] 29 (0, 0))) ∧ Aside0 (w'.heap[gb275]? = some (.cells #[u276000] 29 (0, 0))) ∧ Aside0 (IsS107 w0 w' g s0_0 x1001_1 x1002_1) ∧ Aside0 (KeepBut w w' g none) ∧ Aside0 (Below w0.heap.size w0 w'))
 case atStart => exact ⟨(0), (t277), (t278), (([] : List (List Int))), (.slice none 0 0), (by first | rfl | (simp; done) | (simp [*]; done)), H', ⟨Nat.le_refl _⟩, ⟨by first | exact Kd.S_nil _ _ _ _ _ | exact Kd.N_nil _ _ _ _ _ | exact Kd.V_nil _ _ _ _ _ | exact Kd.Q_nil _ _ _ _ _ | exact Kd.R_nil _ _ _ _ _⟩, ⟨kb BK274.out⟩, ⟨kb BK275.out⟩, ⟨si HI0.out⟩, ⟨kp HK.out⟩, ⟨bi HB.out⟩⟩
 case round =>
  clear H'
  (try clear p2); (try clear c5); (try clear c6); (try clear p6); (try clear hcz7_0); (try clear hfz7_0)
  obtain ⟨x5_1, x1001_1, x1002_1, x276000_1, u276000, rfl, HA, HK1, HO_276000, BK274, BK275, HI0, HK, HB⟩ := hrel
  cases gk with
  | zero => exact absurd HA.out (by simp [spec_l2DrawRight.l0])
  | succ k1 =>
   have H := HA.out
   clear HA
   simp only [spec_l2DrawRight.l0] at H
   by_cases c9 : x5_1 < (wrap64 (1 + t276))
   ·rw [if_pos c9] at H
    have c9b0 : decide (x5_1 < (wrap64 (1 + t276))) = true := decide_eq_true c9
    clear c9
    replace H := Option.bind_eq_some_iff.mp H
    obtain ⟨⟨t279, t282, t283⟩, A100, H⟩ := H
    replace H : (if x276000_1.length < 5864062014805 then (spec_l2DrawRight.l0 k1 (wrap64 (1 + t276)) (wrap64 (x5_1 + 1)) s0_0 t282 t283 (x276000_1 ++ [t279])) else (none)) = some (r1, r2, r3) := H
    have A10 := Aside0.mk A100
    clear A100
    by_cases c11 : x276000_1.length < 5864062014805
    ·rw [if_pos c11] at H
     have LMc11 := Aside0.mk c11
     clear c11
     obtain ⟨y284, hy284⟩ : ∃ y_ : List (List Int), y_ = (x276000_1 ++ [t279]) := ⟨_, rfl⟩
     replace H : (spec_l2DrawRight.l0 k1 (wrap64 (1 + t276)) (wrap64 (x5_1 + 1)) s0_0 t282 t283 y284) = some (r1, r2, r3) := by first | (rw [hy284]; with_reducible exact H) | (have H2_ := (Option.bind_some _ _).symm.trans H; rw [hy284]; with_reducible exact H2_) | (have H2_ := (Option.bind_some _ _).symm.trans H; with_reducible exact H2_) | with_reducible exact H | (rw [hy284]; exact H) | exact H
     have Ny284 := Aside0.mk hy284
     clear hy284
     have H' := Aside0.mk H
     clear H
     try go_wp2
     have n0_ := Aside0.mk (Kd.S_drew HO_276000.out)
     have n1_ := Aside0.mk (blk_drew BK274.out)
     have n2_ := Aside0.mk (blk_drew BK275.out)
     have n3_ := Aside0.mk (IsS107.drew HI0.out)
     have n4_ := Aside0.mk (keep_drew HK.out)
     have n5_ := Aside0.mk (below_drew1 HB.out)
     clear HO_276000; clear BK274; clear BK275; clear HI0; clear HK; clear HB; have HO_276000 := n0_; have BK274 := n1_; have BK275 := n2_; have HI0 := n3_; have HK := n4_; have HB := n5_; clear n0_ n1_ n2_ n3_ n4_ n5_
     refine start_ (n := 8) (S := fun w' => w'.cell? ⟨gb275, 0, none⟩ = some (u276000)) (ds := [7]) #[false, false, false, false, false, false, false, false] (by kernel_rfl) rfl rfl ((blk_cell BK275.out 0).trans rfl) (fun hHeld => ?_); refine with_tabW spec_l2DrawRight.tab6 spec_l2DrawRight.bits6 (fun HT_ HW_ => ?_)
     generalize wr.drew = w12 at HO_276000 BK274 BK275 HI0 HK HB hHeld ⊢
     refine pure_ (i := 0) (N := some 18) (v := ?_) (a' := ?_) #[true, false, false, false, false, false, false, false] rfl rfl (any_of HT_.out (by kernel_rfl)) (fun _ _ _ h => h) (Or.inl ⟨by rfl, ?_⟩) ?_ ?_
     rotate_left
     ·intro w'
      go_simp
      with_reducible rfl
     rotate_left
     ·simp only [Act.put, List.setIfInBounds_toArray, List.set_cons_zero, List.set_cons_succ, i64_w, i32_w]
      rfl
     refine pure_ (i := 2) (N := some 20) (v := ?_) (a' := ?_) #[true, false, true, false, false, false, false, false] rfl rfl (any_of HT_.out (by kernel_rfl)) (fun _ _ _ h => h) (Or.inl ⟨by rfl, ?_⟩) ?_ ?_
     rotate_left
     ·intro w'
      go_simp
      with_reducible rfl
     rotate_left
     ·simp only [Act.put, List.setIfInBounds_toArray, List.set_cons_zero, List.set_cons_succ, i64_w, i32_w]
      rfl
     refine take_ (i := 1) (N := some 19) (v := ?_) (a' := ?_) #[true, true, true, false, false, false, false, false] rfl rfl (take_ofW HT_.out HW_.out (by kernel_rfl)) (fun _ _ _ h => h) (Or.inl ⟨by rfl, ?_⟩) hHeld ?_ ?_
     rotate_left
     ·intro w' s0
      go_simp
      with_reducible rfl
     rotate_left
     ·simp only [Act.put, List.setIfInBounds_toArray, List.set_cons_zero, List.set_cons_succ, i64_w, i32_w]
      rfl
     refine one_ (i := 3) (N := some 21) #[true, true, true, true, false, false, false, false] rfl rfl (one_of HT_.out (by kernel_rfl)) (by decide) (fun K hK => ?_)
     refine goes_ Try.func105 (by kernel_rfl) rfl #[.pointer (some ⟨g, 0, none⟩)] (by rfl) rfl rfl (by (try simp only [List.map_toArray, List.map_cons, List.map_nil]); first | done | rfl | (simp only [List.length_drop, List.length_take]; rfl)) ?_
     with_reducible refine (spec_l2DrawBank.calls k1 g s0_0 x1001_1 x1002_1 t279 t282 t283 w0 _ ?side1 ?side2 A10.out).mono ?_
     (case side1 => exact si HI0.out)
     (case side2 => exact bi HB.out)
     rintro e w13 ⟨v280, rfl, ho0, hi, hb, hk⟩
     refine ⟨_, rfl, ?_⟩
     have n0_ := Aside0.mk (Kd.S_mono (Kd.S_told (Kd.S_oldK (IsS107.apartS (show IsS107 w0 _ g s0_0 x1001_1 x1002_1 from si HI0.out) (ks HO_276000.out) (by decide)) hk) (Kd.R_base ho0)) (fun _ h_ => h_.1))
     have n1_ := Aside0.mk (KeepBut.blk hk (g' := gb274) (o := .cells #[.slice none 0 0] 29 (0, 0)) (kb BK274.out) NB274_0.out (by simp))
     have n2_ := Aside0.mk (KeepBut.blk hk (g' := gb275) (o := .cells #[u276000] 29 (0, 0)) (kb BK275.out) NB275_0.out (by simp))
     have n3_ := Aside0.mk (Kd.R_lower ho0 (keep_size (w := w) (g := g) (row := none) (kp HK.out)))
     have n4_ := Aside0.mk (KeepBut.trans (kp HK.out) hk (.inl rfl))
     have n5_ := Aside0.mk (hb)
     have n6_ := Aside0.mk (hi)
     clear HO_276000; clear BK274; clear BK275; clear HK; clear HB; clear HI0; have HO_276000 := n0_; have BK274 := n1_; have BK275 := n2_; have HO281 := n3_; have HK := n4_; have HB := n5_; have HI0 := n6_; clear n0_ n1_ n2_ n3_ n4_ n5_ n6_; (try clear hb); (try clear hb2); (try clear hk); (try clear hi); (try clear ho0)
     obtain ⟨Ao15, co15, eo15⟩ := Kd.R_slice HO281.out
     (first | subst eo15 | (injection eo15 with f1_ f2_ f3_; have f4_ := f1_.symm; have f5_ := f3_.symm; clear f1_ f2_ f3_; subst f4_; subst f5_))
     refine hK.out _ _ ((blk_cell BK275.out 0).trans rfl) (fun hHeld => ?_)
     clear hK K
     refine norm_ (a' := ?_) ?_ ?_
     rotate_left
     ·show Act.put _ (some 21) _ = _
      simp only [Act.put, List.setIfInBounds_toArray, List.set_cons_zero, List.set_cons_succ, i64_w, i32_w]
      rfl
     refine one_ (i := 4) (N := some 22) #[true, true, true, true, true, false, false, false] rfl rfl (one_of HT_.out (by kernel_rfl)) (by decide) (fun K hK => ?_)
     refine value_ (w1 := ?_) (v := ?_) (by rfl) rfl ?_ ?_
     rotate_left 2
     ·go_simp
      constructor
      ·rfl
      ·rfl
     refine hK.out _ _ ((blk_cell (blk_alloc BK275.out _) 0).trans rfl) (fun hHeld => ?_)
     clear hK K
     refine norm_ (a' := ?_) ?_ ?_
     rotate_left
     ·show Act.put _ (some 22) _ = _
      simp only [Act.put, List.setIfInBounds_toArray, List.set_cons_zero, List.set_cons_succ, i64_w, i32_w]
      rfl
     refine one_ (i := 5) (N := some 23) #[true, true, true, true, true, true, false, false] rfl rfl (one_of HT_.out (by kernel_rfl)) (by decide) (fun K hK => ?_)
     refine Kd.S_append_step (Kd.slice 3 (Kd.int .i64)) w.heap.size (by rfl) (.tmp 19) (.tmp 22) 27 30 (.slice none 0 0) 24 rfl Try.underlying27 info30 rfl (by decide) (by omega) u276000 x276000_1 t279 [.slice Ao15 t279.length co15] (fun _ => True) (fun k_ => some k_ = (.slice Ao15 t279.length co15 : Value).ownBlock) rfl rfl ?aP (fun k_ hk_ => ((Kd.R_mono (ok' := fun k_ => ((fun _ => True)) k_ ∧ some k_ ≠ (u276000 : Value).ownBlock) (Kd.R_apart' (HO281.out) (Kd.S_typed HO_276000.out) (by decide)) (fun k_ hk => ⟨trivial, hk.2⟩))).1 k_ hk_.symm) ?aF ?aO (Below.refl _ _) ?aS ?aL ?_
     (case aP => exact Kd.M_row (Kd.R_mono (Kd.R_tight rfl (Kd.R_mono (ok' := fun k_ => ((fun _ => True)) k_ ∧ some k_ ≠ (u276000 : Value).ownBlock) (Kd.R_apart' (HO281.out) (Kd.S_typed HO_276000.out) (by decide)) (fun k_ hk => ⟨trivial, hk.2⟩))) (fun _ h_ => h_)))
     (case aF => exact (fun _ _ => trivial))
     (case aO => exact (ks (Kd.S_mono HO_276000.out (fun k_ hk => ⟨trivial, fun e_ => hk.2 e_⟩))))
     (case aS => exact (keep_size (w := w) (g := g) (row := none) (kp HK.out)))
     (case aL => have := LMc11.out; omega)
     intro v285 w14 ho hb hg hat
     rw [← Ny284.out] at ho
     have n0_ := Aside0.mk (blk_grown (g := gb274) (o := .cells #[.slice none 0 0] 29 (0, 0)) (kb BK274.out) hg (Kd.S_ne HO_276000.out BK274.out (by decide)))
     have n1_ := Aside0.mk (blk_grown (g := gb275) (o := .cells #[u276000] 29 (0, 0)) (kb BK275.out) hg (Kd.S_ne HO_276000.out BK275.out (by decide)))
     have n2_ := Aside0.mk (IsS107.grown (si HI0.out) hg (IsS107.own_neS HI0.out HO_276000.out (by decide)))
     have n3_ := Aside0.mk (below_weaken (bi HB.out) HL.out hb)
     have n4_ := Aside0.mk (KeepBut.trans (kp HK.out) (KeepBut.of_grown hg g) (Kd.S_base2 HO_276000.out))
     have n5_ := Aside0.mk (ho)
     clear BK274; clear BK275; clear HI0; clear HB; clear HK; clear HO_276000; clear HO281; have BK274 := n0_; have BK275 := n1_; have HI0 := n2_; have HB := n3_; have HK := n4_; have HO286 := n5_; clear n0_ n1_ n2_ n3_ n4_ n5_; clear ho hb hg hat
     obtain ⟨Ao16, co16, eo16⟩ := Kd.S_slice HO286.out
     (first | subst eo16 | (injection eo16 with f1_ f2_ f3_; have f4_ := f1_.symm; have f5_ := f3_.symm; clear f1_ f2_ f3_; subst f4_; subst f5_))
     refine hK.out _ _ ((blk_cell BK275.out 0).trans rfl) (fun hHeld => ?_)
     clear hK K
     refine norm_ (a' := ?_) ?_ ?_
     rotate_left
     ·show Act.put _ (some 23) _ = _
      simp only [Act.put, List.setIfInBounds_toArray, List.set_cons_zero, List.set_cons_succ, i64_w, i32_w]
      rfl
     refine pure_ (i := 6) (N := some 24) (v := ?_) (a' := ?_) #[true, true, true, true, true, true, true, false] rfl rfl (any_of HT_.out (by kernel_rfl)) (fun _ _ _ h => h) (Or.inl ⟨by rfl, ?_⟩) ?_ ?_
     rotate_left
     ·intro w'
      go_simp
      with_reducible rfl
     rotate_left
     ·simp only [Act.put, List.setIfInBounds_toArray, List.set_cons_zero, List.set_cons_succ, i64_w, i32_w]
      rfl
     refine last_ (i := 7) (N := none) #[true, true, true, true, true, true, true, true] rfl rfl (one_of HT_.out (by kernel_rfl)) (by decide) (fun K hK => ?_)
     have hs17 : w14.cell? ⟨gb275, 0, none⟩ = some (u276000) := (blk_cell BK275.out 0).trans rfl
     have hfs17 := blk_frozen BK275.out 0
     have hns17_0 := NB274_275.out
     have hms17_0 := NB275_274.out
     refine skip_ (w1 := ?_) (by rfl) rfl ?_ ?_
     rotate_left
     ·go_simp
      rfl
     refine hK.out _ _ ?_
     clear hK K
     refine done_ (done_of HT_.out (by kernel_rfl)) ?_
     try go_wp2
     go_roundg k1
     case measure => have := HK1.out; omega
     case rel => exact ⟨(wrap64 (x5_1 + 1)), (t282), (t283), (y284), (.slice Ao16 y284.length co16), (by first | rfl | (simp; done) | (simp [*]; done)), H', ⟨by have := HK1.out; omega⟩, ⟨ks (Kd.S_mono (Kd.S_far (p := ⟨gb275, 0, none⟩) (Kd.S_types HO286.out BK275.out (by decide)) (fun _ hk => hk.2) (.slice Ao16 y284.length co16)) (fun _ hk => trivial))⟩, ⟨kf BK274.out⟩, ⟨kt BK275.out⟩, ⟨si HI0.out⟩, ⟨kp HK.out⟩, ⟨bi HB.out⟩⟩
    ·rw [if_neg c11] at H
     exact absurd H (by simp)
   ·rw [if_neg c9] at H
    have c9b0 : decide (x5_1 < (wrap64 (1 + t276))) = false := decide_eq_false c9
    clear c9
    replace H := Option.bind_eq_some_iff.mp H
    obtain ⟨⟨t287, t288, t289⟩, A180, H⟩ := H
    replace H : (if t287 = true then (if 0 ≤ (wrap64 ((wrap64 (1 + t276)) - 1)) then (if (wrap64 ((wrap64 (1 + t276)) - 1)) < (x276000_1.length : Int) then (if (rd_L2 x276000_1 (wrap64 ((wrap64 (1 + t276)) - 1))).length = 256 then (some (lastSix x276000_1 (wrap64 ((wrap64 (1 + t276)) - 1)), t288, t289)) else (none)) else (none)) else (none)) else ((spec_l2Main.f s0_0 t288 t289).bind fun bt291 => ((spec_Assemble.f k1 bt291.1).bind fun bt294 => (if (bt294.1.length : Int) = 256 then (if 0 ≤ (wrap64 ((wrap64 (1 + t276)) - 1)) then (if (wrap64 ((wrap64 (1 + t276)) - 1)) < (x276000_1.length : Int) then (if (rd_L2 (x276000_1.set ((wrap64 ((wrap64 (1 + t276)) - 1)) : Int).toNat bt294.1) (wrap64 ((wrap64 (1 + t276)) - 1))).length = 256 then (some (lastSix (x276000_1.set ((wrap64 ((wrap64 (1 + t276)) - 1)) : Int).toNat bt294.1) (wrap64 ((wrap64 (1 + t276)) - 1)), bt291.2.1, bt291.2.2)) else (none)) else (none)) else (none)) else (if 0 ≤ (wrap64 ((wrap64 (1 + t276)) - 1)) then (if (wrap64 ((wrap64 (1 + t276)) - 1)) < (x276000_1.length : Int) then (if (rd_L2 x276000_1 (wrap64 ((wrap64 (1 + t276)) - 1))).length = 256 then (some (lastSix x276000_1 (wrap64 ((wrap64 (1 + t276)) - 1)), bt291.2.1, bt291.2.2)) else (none)) else (none)) else (none)))))) = some (r1, r2, r3) := H
    have A18 := Aside0.mk A180
    clear A180
    by_cases c19 : t287 = true
    ·subst c19
     have H1 : (if 0 ≤ (wrap64 ((wrap64 (1 + t276)) - 1)) then (if (wrap64 ((wrap64 (1 + t276)) - 1)) < (x276000_1.length : Int) then (if (rd_L2 x276000_1 (wrap64 ((wrap64 (1 + t276)) - 1))).length = 256 then (some (lastSix x276000_1 (wrap64 ((wrap64 (1 + t276)) - 1)), t288, t289)) else (none)) else (none)) else (none)) = some (r1, r2, r3) := by rw [if_pos rfl] at H; exact H
     clear H
     have H := H1
     clear H1
     obtain ⟨ji20, hji20⟩ : ∃ j_ : Int, (wrap64 ((wrap64 (1 + t276)) - 1)) = j_ := ⟨_, rfl⟩
     replace H : (if 0 ≤ (ji20) then (if (ji20) < (x276000_1.length : Int) then (if (rd_L2 x276000_1 (ji20)).length = 256 then (some (lastSix x276000_1 (ji20), t288, t289)) else (none)) else (none)) else (none)) = some (r1, r2, r3) := by first | (rw [hji20] at H; exact H) | (simp only [hji20] at H ⊢; exact H)
     (try rw [hji20] at A18)
     have hji20w : (IntKind.i64.wrap ((wrap64 (1 + t276)) - 1)) = ji20 := (i64_w _).trans hji20
     by_cases c21 : 0 ≤ (ji20)
     ·rw [if_pos c21] at H
      have c21b0 : decide (0 ≤ (ji20)) = true := decide_eq_true c21
      clear c21
      by_cases c22 : (ji20) < (x276000_1.length : Int)
      ·rw [if_pos c22] at H
       have c22b0 : decide ((ji20) < (x276000_1.length : Int)) = true := decide_eq_true c22
       clear c22
       by_cases c256 : (rd_L2 x276000_1 (ji20)).length = 256
       rotate_left
       ·rw [if_neg c256] at H
        exact absurd H (by simp)
       rw [if_pos c256] at H
       have C256 := Aside0.mk c256
       clear c256
       simp only [Option.some.injEq, Prod.mk.injEq] at H
       obtain ⟨rfl, rfl, rfl⟩ := H
       go_upto_region 12 with (first | ((with_reducible refine gate_callee (f := 58) rfl ?_); refine goesM_ (some 26) rfl rfl Try.func58 #[.pointer (some ⟨g, 0, none⟩), .int .i64 4] ?_; (with_reducible refine (spec_l1Once.calls g s0_0 x1001_1 x1002_1 4 true t288 t289 w0 _ ?side1 ?side2 A18.out).mono ?_); (case side1 => exact si HI0.out); (case side2 => exact bi HB.out); rintro e w23 ⟨rfl, hi, hb, hk⟩; refine ⟨_, rfl, ?_⟩; have n0_ := Aside0.mk (Kd.S_mono (Kd.S_keep (IsS107.apartS (show IsS107 w0 _ g s0_0 x1001_1 x1002_1 from si HI0.out) (ks HO_276000.out) (by decide)) hk (fun _ h => h.2)) (fun _ h => h.1)); have n1_ := Aside0.mk (KeepBut.blk hk (g' := gb274) (o := .cells #[.slice none 0 0] 29 (0, 0)) (kb BK274.out) NB274_0.out (by simp)); have n2_ := Aside0.mk (KeepBut.blk hk (g' := gb275) (o := .cells #[u276000] 29 (0, 0)) (kb BK275.out) NB275_0.out (by simp)); have n3_ := Aside0.mk (KeepBut.trans (kp HK.out) hk (.inl rfl)); have n4_ := Aside0.mk (hb); have n5_ := Aside0.mk (hi); clear HO_276000; clear BK274; clear BK275; clear HK; clear HB; clear HI0; have HO_276000 := n0_; have BK274 := n1_; have BK275 := n2_; have HK := n3_; have HB := n4_; have HI0 := n5_; clear n0_ n1_ n2_ n3_ n4_ n5_; (try clear hb); (try clear hb2); (try clear hk); (try clear hi); have hnb24 := NB275_274.out; have hnc24 := NB274_275.out; have hnb25 := NB275_0.out; have hnc25 := NB0_275.out; have hcz26_0 : w23.cell? ⟨gb275, 0, none⟩ = some (u276000) := (blk_cell BK275.out 0).trans rfl; have hfz26_0 := blk_frozen BK275.out 0; obtain ⟨Ao27, co27, eo27⟩ := Kd.S_slice HO_276000.out; subst eo27; have p290 : 0 ≤ ((ji20) : Int) := dt; have q290 : (ji20) < (x276000_1.length : Int) := dt; obtain ⟨ad290, A290_0, c290_0, e290, hx290_0, hl290_0, hi290_0⟩ := at_L2 (Kd.S_reads' HO_276000.out).2.2 (ji20) p290 q290; cases e290; obtain ⟨ce290, hce290, hMe290, hcc290⟩ := Kd.S_get HO_276000.out [] (ji20) p290 (by first | exact q290 | exact dt | (have e_ := (Kd.S_reads' HO_276000.out).1; omega)); obtain ⟨ve290_0, rfl, ge290_0⟩ := hMe290; have hv290_0 := hcc290 0 _ rfl; rw [Nat.add_zero, show ((Kd.slice 3 (Kd.int .i64))).sz = 1 from rfl, Nat.mul_one] at hv290_0; replace hv290_0 := Option.some.inj (hv290_0.symm.trans hx290_0); rw [hv290_0] at ge290_0; have HL290_0 := Aside0.mk (show Kd.R (Kd.int .i64) 3 _ _ _ _ (rd_L2 x276000_1 (ji20)) from ge290_0); clear hv290_0 ge290_0; clear hcc290 hce290; have HR290_0 := Aside0.mk hi290_0; have HC290_0 := Aside0.mk hl290_0; clear hi290_0 hl290_0; replace p290 := eq_true p290; replace q290 := eq_true q290; have hnb28 := NB274_0.out; have hnc28 := NB0_274.out; have hcz29_0 : w23.cell? ⟨gb274, 0, none⟩ = some (.slice none 0 0) := (blk_cell BK274.out 0).trans rfl; have hfz29_0 := blk_frozen BK274.out 0))
       have hji_ : (0 : Int) ≤ ji20 := of_decide_eq_true (by assumption)
       have hjl_ : ji20 < (x276000_1.length : Int) := by first | exact of_decide_eq_true (by assumption) | (rw [Ny0.out, List.length_set]; exact of_decide_eq_true (by assumption))
       obtain ⟨gl, eA_, hgl, ⟨clr, hbl⟩, hcl, hS6⟩ := six_ok HO_276000.out ji20 hji_ hjl_ (by first | exact hx290_0 | (rw [add_plain]; exact hx290_0)) C256.out
       subst eA_
       have GL := Aside0.mk hgl
       have HBL := Aside0.mk hbl
       have HS6 := Aside0.mk hS6
       have HLN := Aside0.mk C256.out
       have z0 := (hcl 250 (by omega)).1
       have z1 := (hcl 251 (by omega)).1
       have z2 := (hcl 252 (by omega)).1
       have z3 := (hcl 253 (by omega)).1
       have z4 := (hcl 254 (by omega)).1
       have z5 := (hcl 255 (by omega)).1
       have f0 := (hcl 250 (by omega)).2
       have f1 := (hcl 251 (by omega)).2
       have f2 := (hcl 252 (by omega)).2
       have f3 := (hcl 253 (by omega)).2
       have f4 := (hcl 254 (by omega)).2
       have f5 := (hcl 255 (by omega)).2
       have b0 : ((250 : Int) < ((rd_L2 x276000_1 ji20).length : Int)) = True := eq_true (by have := C256.out; omega)
       have b1 : ((251 : Int) < ((rd_L2 x276000_1 ji20).length : Int)) = True := eq_true (by have := C256.out; omega)
       have b2 : ((252 : Int) < ((rd_L2 x276000_1 ji20).length : Int)) = True := eq_true (by have := C256.out; omega)
       have b3 : ((253 : Int) < ((rd_L2 x276000_1 ji20).length : Int)) = True := eq_true (by have := C256.out; omega)
       have b4 : ((254 : Int) < ((rd_L2 x276000_1 ji20).length : Int)) = True := eq_true (by have := C256.out; omega)
       have b5 : ((255 : Int) < ((rd_L2 x276000_1 ji20).length : Int)) = True := eq_true (by have := C256.out; omega)
       have n1 : gl ≠ gb274 := blk_ne hbl BK274.out (by decide)
       have n2 : gb274 ≠ gl := fun e => n1 e.symm
       have n3 : gl ≠ gb275 := blk_ne hbl BK275.out (by decide)
       have n4 : gb275 ≠ gl := fun e => n3 e.symm
       clear hcl hbl hgl hS6 hji_ hjl_
       go_wp2
       refine bodyPost_ret (results_cell_row rfl _ _ gb274 29 #[.slice (some ad290) x276000_1.length co27] (0, 0) _ rfl (blk_put (cs := #[.slice none 0 0]) (six_blk BK274.out n2) 0 _ rfl) Try.underlying29 rfl (by kernel_rfl)) rfl ?_
       exact ⟨_, rfl, Kd.S_mono (Kd.S_far (p := ⟨gb274, 0, none⟩) (Kd.S_types HS6.out (six_blk BK274.out n2) (by decide)) (fun _ hk => hk.2) (.slice (some ad290) x276000_1.length co27)) (fun _ hk => trivial), (six_state HI0.out (IsS107.ne_blk HI0.out HBL.out (by decide))).far (p := ⟨gb274, 0, none⟩) NB0_274.out _, below_set (six_below HB.out (Nat.le_trans HW0.out GL.out)) GE274.out, keep_far (p := ⟨gb274, 0, none⟩) (six_keep HK.out GL.out) GW274.out _⟩
      ·rw [if_neg c22] at H
       exact absurd H (by simp)
     ·rw [if_neg c21] at H
      exact absurd H (by simp)
    ·replace c19 := Bool.eq_false_iff.mpr c19
     subst c19
     have H1 : ((spec_l2Main.f s0_0 t288 t289).bind fun bt291 => ((spec_Assemble.f k1 bt291.1).bind fun bt294 => (if (bt294.1.length : Int) = 256 then (if 0 ≤ (wrap64 ((wrap64 (1 + t276)) - 1)) then (if (wrap64 ((wrap64 (1 + t276)) - 1)) < (x276000_1.length : Int) then (if (rd_L2 (x276000_1.set ((wrap64 ((wrap64 (1 + t276)) - 1)) : Int).toNat bt294.1) (wrap64 ((wrap64 (1 + t276)) - 1))).length = 256 then (some (lastSix (x276000_1.set ((wrap64 ((wrap64 (1 + t276)) - 1)) : Int).toNat bt294.1) (wrap64 ((wrap64 (1 + t276)) - 1)), bt291.2.1, bt291.2.2)) else (none)) else (none)) else (none)) else (if 0 ≤ (wrap64 ((wrap64 (1 + t276)) - 1)) then (if (wrap64 ((wrap64 (1 + t276)) - 1)) < (x276000_1.length : Int) then (if (rd_L2 x276000_1 (wrap64 ((wrap64 (1 + t276)) - 1))).length = 256 then (some (lastSix x276000_1 (wrap64 ((wrap64 (1 + t276)) - 1)), bt291.2.1, bt291.2.2)) else (none)) else (none)) else (none))))) = some (r1, r2, r3) := by rw [if_neg (show ¬ (false = true) by decide)] at H; exact H
     clear H
     have H := H1
     clear H1
     replace H := Option.bind_eq_some_iff.mp H
     obtain ⟨⟨t291, t292, t293⟩, A300, H⟩ := H
     replace H : ((spec_Assemble.f k1 t291).bind fun bt294 => (if (bt294.1.length : Int) = 256 then (if 0 ≤ (wrap64 ((wrap64 (1 + t276)) - 1)) then (if (wrap64 ((wrap64 (1 + t276)) - 1)) < (x276000_1.length : Int) then (if (rd_L2 (x276000_1.set ((wrap64 ((wrap64 (1 + t276)) - 1)) : Int).toNat bt294.1) (wrap64 ((wrap64 (1 + t276)) - 1))).length = 256 then (some (lastSix (x276000_1.set ((wrap64 ((wrap64 (1 + t276)) - 1)) : Int).toNat bt294.1) (wrap64 ((wrap64 (1 + t276)) - 1)), t292, t293)) else (none)) else (none)) else (none)) else (if 0 ≤ (wrap64 ((wrap64 (1 + t276)) - 1)) then (if (wrap64 ((wrap64 (1 + t276)) - 1)) < (x276000_1.length : Int) then (if (rd_L2 x276000_1 (wrap64 ((wrap64 (1 + t276)) - 1))).length = 256 then (some (lastSix x276000_1 (wrap64 ((wrap64 (1 + t276)) - 1)), t292, t293)) else (none)) else (none)) else (none)))) = some (r1, r2, r3) := H
     have A30 := Aside0.mk A300
     clear A300
     replace H := Option.bind_eq_some_iff.mp H
     obtain ⟨⟨t294, t295⟩, A310, H⟩ := H
     replace H : (if (t294.length : Int) = 256 then (if 0 ≤ (wrap64 ((wrap64 (1 + t276)) - 1)) then (if (wrap64 ((wrap64 (1 + t276)) - 1)) < (x276000_1.length : Int) then (if (rd_L2 (x276000_1.set ((wrap64 ((wrap64 (1 + t276)) - 1)) : Int).toNat t294) (wrap64 ((wrap64 (1 + t276)) - 1))).length = 256 then (some (lastSix (x276000_1.set ((wrap64 ((wrap64 (1 + t276)) - 1)) : Int).toNat t294) (wrap64 ((wrap64 (1 + t276)) - 1)), t292, t293)) else (none)) else (none)) else (none)) else (if 0 ≤ (wrap64 ((wrap64 (1 + t276)) - 1)) then (if (wrap64 ((wrap64 (1 + t276)) - 1)) < (x276000_1.length : Int) then (if (rd_L2 x276000_1 (wrap64 ((wrap64 (1 + t276)) - 1))).length = 256 then (some (lastSix x276000_1 (wrap64 ((wrap64 (1 + t276)) - 1)), t292, t293)) else (none)) else (none)) else (none))) = some (r1, r2, r3) := H
     have A31 := Aside0.mk A310
     clear A310
     by_cases c32 : (t294.length : Int) = 256
     ·rw [if_pos c32] at H
      have c32b0 : ((t294.length : Int) == 256) = true := beq_iff_eq.mpr c32
      have c32b1 : ((t294.length : Int) != 256) = false := bne_eq_false_iff_eq.mpr c32
      clear c32
      obtain ⟨ji33, hji33⟩ : ∃ j_ : Int, (wrap64 ((wrap64 (1 + t276)) - 1)) = j_ := ⟨_, rfl⟩
      replace H : (if 0 ≤ (ji33) then (if (ji33) < (x276000_1.length : Int) then (if (rd_L2 (x276000_1.set ((ji33) : Int).toNat t294) (ji33)).length = 256 then (some (lastSix (x276000_1.set ((ji33) : Int).toNat t294) (ji33), t292, t293)) else (none)) else (none)) else (none)) = some (r1, r2, r3) := by first | (rw [hji33] at H; exact H) | (simp only [hji33] at H ⊢; exact H)
      (try rw [hji33] at A18)
      (try rw [hji33] at A30)
      (try rw [hji33] at A31)
      have hji33w : (IntKind.i64.wrap ((wrap64 (1 + t276)) - 1)) = ji33 := (i64_w _).trans hji33
      by_cases c34 : 0 ≤ (ji33)
      ·rw [if_pos c34] at H
       have c34b0 : decide (0 ≤ (ji33)) = true := decide_eq_true c34
       clear c34
       by_cases c35 : (ji33) < (x276000_1.length : Int)
       ·rw [if_pos c35] at H
        have c35b0 : decide ((ji33) < (x276000_1.length : Int)) = true := decide_eq_true c35
        clear c35
        obtain ⟨y298, hy298⟩ : ∃ y_ : List (List Int), y_ = (x276000_1.set ((ji33) : Int).toNat t294) := ⟨_, rfl⟩
        replace H : (if (rd_L2 y298 (ji33)).length = 256 then (some (lastSix y298 (ji33), t292, t293)) else (none)) = some (r1, r2, r3) := by first | (rw [hy298]; with_reducible exact H) | (have H2_ := (Option.bind_some _ _).symm.trans H; rw [hy298]; with_reducible exact H2_) | (have H2_ := (Option.bind_some _ _).symm.trans H; with_reducible exact H2_) | with_reducible exact H | (rw [hy298]; exact H) | exact H
        have Ny298 := Aside0.mk hy298
        clear hy298
        by_cases c256 : (rd_L2 y298 (ji33)).length = 256
        rotate_left
        ·rw [if_neg c256] at H
         exact absurd H (by simp)
        rw [if_pos c256] at H
        have C256 := Aside0.mk c256
        clear c256
        simp only [Option.some.injEq, Prod.mk.injEq] at H
        obtain ⟨rfl, rfl, rfl⟩ := H
        go_upto_region 12 with (first | ((with_reducible refine gate_callee (f := 58) rfl ?_); refine goesM_ (some 26) rfl rfl Try.func58 #[.pointer (some ⟨g, 0, none⟩), .int .i64 4] ?_; (with_reducible refine (spec_l1Once.calls g s0_0 x1001_1 x1002_1 4 false t288 t289 w0 _ ?side1 ?side2 A18.out).mono ?_); (case side1 => exact si HI0.out); (case side2 => exact bi HB.out); rintro e w37 ⟨rfl, hi, hb, hk⟩; refine ⟨_, rfl, ?_⟩; have n0_ := Aside0.mk (Kd.S_mono (Kd.S_keep (IsS107.apartS (show IsS107 w0 _ g s0_0 x1001_1 x1002_1 from si HI0.out) (ks HO_276000.out) (by decide)) hk (fun _ h => h.2)) (fun _ h => h.1)); have n1_ := Aside0.mk (KeepBut.blk hk (g' := gb274) (o := .cells #[.slice none 0 0] 29 (0, 0)) (kb BK274.out) NB274_0.out (by simp)); have n2_ := Aside0.mk (KeepBut.blk hk (g' := gb275) (o := .cells #[u276000] 29 (0, 0)) (kb BK275.out) NB275_0.out (by simp)); have n3_ := Aside0.mk (KeepBut.trans (kp HK.out) hk (.inl rfl)); have n4_ := Aside0.mk (hb); have n5_ := Aside0.mk (hi); clear HO_276000; clear BK274; clear BK275; clear HK; clear HB; clear HI0; have HO_276000 := n0_; have BK274 := n1_; have BK275 := n2_; have HK := n3_; have HB := n4_; have HI0 := n5_; clear n0_ n1_ n2_ n3_ n4_ n5_; (try clear hb); (try clear hb2); (try clear hk); (try clear hi)) | ((with_reducible refine gate_callee (f := 107) rfl ?_); refine goesM_ (some 30) rfl rfl Try.func107 #[.pointer (some ⟨g, 0, none⟩)] ?_; (with_reducible refine (spec_l2Main.calls g s0_0 t288 t289 t291 t292 t293 w0 _ ?side1 ?side2 A30.out).mono ?_); (case side1 => exact si HI0.out); (case side2 => exact bi HB.out); rintro e w38 ⟨rfl, hi, hb, hk⟩; refine ⟨_, rfl, ?_⟩; have n0_ := Aside0.mk (Kd.S_mono (Kd.S_keep (IsS107.apartS (show IsS107 w0 _ g s0_0 t288 t289 from si HI0.out) (ks HO_276000.out) (by decide)) hk (fun _ h => h.2)) (fun _ h => h.1)); have n1_ := Aside0.mk (KeepBut.blk hk (g' := gb274) (o := .cells #[.slice none 0 0] 29 (0, 0)) (kb BK274.out) NB274_0.out (by simp)); have n2_ := Aside0.mk (KeepBut.blk hk (g' := gb275) (o := .cells #[u276000] 29 (0, 0)) (kb BK275.out) NB275_0.out (by simp)); have n3_ := Aside0.mk (KeepBut.trans (kp HK.out) hk (.inl rfl)); have n4_ := Aside0.mk (hb); have n5_ := Aside0.mk (hi); clear HO_276000; clear BK274; clear BK275; clear HK; clear HB; clear HI0; have HO_276000 := n0_; have BK274 := n1_; have BK275 := n2_; have HK := n3_; have HB := n4_; have HI0 := n5_; clear n0_ n1_ n2_ n3_ n4_ n5_; (try clear hb); (try clear hb2); (try clear hk); (try clear hi)) | ((with_reducible refine gate_callee (f := 106) rfl ?_); refine goesM_ (some 31) rfl rfl Try.func106 #[.string t291] ?_; (with_reducible refine (spec_Assemble.calls k1 t291 t294 t295 _ A31.out).mono ?_); rintro e w39 ⟨v296, rfl, ho0, hb⟩; refine ⟨_, rfl, ?_⟩; have n0_ := Aside0.mk (Kd.S_elder' (ks HO_276000.out) (Kd.R_base ho0) hb); have n1_ := Aside0.mk (Kd.R_lower ho0 (keep_size (w := w) (g := g) (row := none) (kp HK.out))); have n2_ := Aside0.mk (blk_below (g := gb274) (o := .cells #[.slice none 0 0] 29 (0, 0)) (kb BK274.out) hb); have n3_ := Aside0.mk (blk_below (g := gb275) (o := .cells #[u276000] 29 (0, 0)) (kb BK275.out) hb); have n4_ := Aside0.mk (IsS107.below (si HI0.out) hb); have n5_ := Aside0.mk (KeepBut.trans (kp HK.out) (KeepBut.of_below hb g none) (.inl rfl)); have n6_ := Aside0.mk (below_step (bi HB.out) hb); clear HO_276000; clear BK274; clear BK275; clear HI0; clear HK; clear HB; have HO_276000 := n0_; have HO297 := n1_; have BK274 := n2_; have BK275 := n3_; have HI0 := n4_; have HK := n5_; have HB := n6_; clear n0_ n1_ n2_ n3_ n4_ n5_ n6_; (try clear hb); (try clear hb2); (try clear hk); (try clear hi); (try clear ho0); obtain ⟨Ao40, co40, eo40⟩ := Kd.R_slice HO297.out; subst eo40; have hnb41 := NB275_274.out; have hnc41 := NB274_275.out; have hnb42 := NB275_0.out; have hnc42 := NB0_275.out; have hcz43_0 : w39.cell? ⟨gb275, 0, none⟩ = some (u276000) := (blk_cell BK275.out 0).trans rfl; have hfz43_0 := blk_frozen BK275.out 0; have p36 : 0 ≤ ((ji33) : Int) := dt; have q36 : ((ji33) : Int) < ((x276000_1.length : Int) : Int) := dt; obtain ⟨go36, co36, eo36, gb36, gl36, cl36, HG36⟩ := Kd.S_form HO_276000.out (by omega); (first | cases eo36 | (injection eo36 with ea_ en_ ec_; (first | subst ea_ | (injection ea_ with ea_; subst ea_)); subst ec_; clear en_)); have GB36 := Aside0.mk gb36; have GG36 := Aside0.mk HG36; clear gb36 gl36 HG36; obtain ⟨_, ce36, hcl36, hM36, hcc36, hfr36, _, _⟩ := Kd.S_elem HO_276000.out [] ((ji33) : Int) p36 q36; obtain ⟨ve36_0, rfl, ge36_0⟩ := hM36; have hx36_0 := hcc36 0 _ rfl; have hf36_0 := hfr36 0; (try simp only [show ((Kd.slice 3 (Kd.int .i64))).sz = 1 from rfl, Nat.mul_one, Nat.add_zero] at hx36_0); (try simp only [show ((Kd.slice 3 (Kd.int .i64))).sz = 1 from rfl, Nat.mul_one, Nat.add_zero] at hf36_0); (try clear hM36); clear hcl36 hcc36 hfr36; replace p36 := eq_true p36; replace q36 := eq_true q36; have n_ := Aside0.mk (Kd.S_mono (ok' := (fun k_ => some k_ ≠ (.slice Ao40 t294.length co40 : Value).ownBlock)) HO_276000.out (fun k_ hk => hk.2)); clear HO_276000; have HO_276000 := n_; clear n_; have HX44 := Aside0.mk (show Kd.S (Kd.slice 3 (Kd.int .i64)) 30 w39 w.heap.size (fun k_ => ((fun _ => True)) k_ ∧ ¬ ((fun k_ => some k_ = (.slice Ao40 t294.length co40 : Value).ownBlock)) k_) (.slice (some ⟨go36, 0, none⟩) x276000_1.length co36) x276000_1 from (ks (Kd.S_mono HO_276000.out (fun k_ hk => ⟨trivial, fun e_ => hk e_⟩)))); obtain ⟨oki44, ce44, hcl44, hM44, hcc44, hfr44, hoki44, hH44⟩ := Kd.S_elem HX44.out [] ((ji33) : Int) dt (by have h_ : ((ji33) : Int) < ((x276000_1.length : Int) : Int) := dt; first | exact h_ | (have e_ := (Kd.S_reads' HO_276000.out).1; omega) | simpa using h_); obtain ⟨ve44_0, rfl, ge44_0⟩ := hM44; have HP44 := Kd.S_seg hH44 dt (by have h_ : ((ji33) : Int) < ((x276000_1.length : Int) : Int) := dt; first | exact h_ | (have e_ := (Kd.S_reads' HO_276000.out).1; omega) | simpa using h_) (seg := [.slice Ao40 t294.length co40]) (j := 0) (show 1 ≤ 1 from by decide) (x' := t294) (Kd.M_row (Kd.R_mono (Kd.R_tight rfl (Kd.R_mono (ok' := fun k_ => ((fun _ => True)) k_ ∧ k_ ≠ go36) (Kd.R_apart' (HO297.out) (Kd.S_typed HO_276000.out) (by decide)) (fun k_ hk => ⟨trivial, fun e_ => (hk.2) (by rw [e_]; rfl)⟩))) (fun _ h_ => Or.inr (h_)))) (fun _ hk => hk) (fun k_ hk_ => ((Kd.R_mono (ok' := fun k_ => ((fun _ => True)) k_ ∧ k_ ≠ go36) (Kd.R_apart' (HO297.out) (Kd.S_typed HO_276000.out) (by decide)) (fun k_ hk => ⟨trivial, fun e_ => (hk.2) (by rw [e_]; rfl)⟩))).1 k_ hk_.symm); have hx44_0 := hcc44 0 _ rfl; (try simp only [show ((Kd.slice 3 (Kd.int .i64))).sz = 1 from rfl, Nat.mul_one, Nat.add_zero] at hx44_0); have hf44_0 := hfr44 0; (try simp only [show ((Kd.slice 3 (Kd.int .i64))).sz = 1 from rfl, Nat.mul_one, Nat.add_zero] at hf44_0); (try clear hM44); clear hcl44 hcc44 hfr44 hoki44 hH44; (try simp only [show ((Kd.slice 3 (Kd.int .i64))).sz = 1 from rfl, Nat.mul_one, Nat.add_zero] at HP44)) | ((with_reducible refine gate_store (t := 30) (p := 42) rfl ?_); refine store_event (t := 30) (p := 42) (v := ?vo_w45) (w1 := (w39.setCell ⟨go36, ((ji33) : Int).toNat, none⟩ (.slice Ao40 t294.length co40))) ?hg ?ho ?hn ?hr ?_; (case ho => rfl); (case hg => rfl); (case hn => rfl); (case hr => first | (go_simp; done) | (go_simp; rfl)); intro w45 hw; have hg : w39.grownBy w45 (some go36) := (by rw [hw]; exact HP44.2); have hp_ : Kd.S (Kd.slice 3 (Kd.int .i64)) 30 w45 w.heap.size (fun _ => True) (.slice (some ⟨go36, 0, none⟩) x276000_1.length co36) y298 := (by rw [hw, Ny298.out]; exact HP44.1); clear HP44; have n0_ := Aside0.mk (hp_); have n1_ := Aside0.mk (blk_grown (g := gb274) (o := .cells #[.slice none 0 0] 29 (0, 0)) (kb BK274.out) hg (Kd.S_ne HO_276000.out BK274.out (by decide))); have n2_ := Aside0.mk (blk_grown (g := gb275) (o := .cells #[.slice (some ⟨go36, 0, none⟩) x276000_1.length co36] 29 (0, 0)) (kb BK275.out) hg (Kd.S_ne HO_276000.out BK275.out (by decide))); have n3_ := Aside0.mk (IsS107.grown (si HI0.out) hg (IsS107.own_neS HI0.out HO_276000.out (by decide))); have n4_ := Aside0.mk ((by rw [hw]; exact below_set (HB.out) (Nat.le_trans HL.out GB36.out) : Below w0.heap.size w0 w45)); have n5_ := Aside0.mk (KeepBut.trans (kp HK.out) (KeepBut.of_grown hg g) (Kd.S_base2 HO_276000.out)); clear HO_276000; clear BK274; clear BK275; clear HI0; clear HB; clear HK; clear HO297; have HO_276000 := n0_; have BK274 := n1_; have BK275 := n2_; have HI0 := n3_; have HB := n4_; have HK := n5_; clear n0_ n1_ n2_ n3_ n4_ n5_; clear hg hw hp_; have hcz46_0 : w45.cell? ⟨gb275, 0, none⟩ = some (.slice (some ⟨go36, 0, none⟩) x276000_1.length co36) := (blk_cell BK275.out 0).trans rfl; have hfz46_0 := blk_frozen BK275.out 0; have p299 : 0 ≤ ((ji33) : Int) := dt; have q299 : (ji33) < (y298.length : Int) := (by have h_ : ((ji33) : Int) < ((x276000_1.length : Int) : Int) := dt; first | (have e_ := (Kd.S_reads' HO_276000.out).1; omega) | simpa only [Ny298.out, List.length_set] using h_); have ql299 : (((ji33) : Int) < ((x276000_1.length : Int) : Int)) = True := eq_true dt; obtain ⟨ad299, A299_0, c299_0, e299, hx299_0, hl299_0, hi299_0⟩ := at_L2 (Kd.S_reads' HO_276000.out).2.2 (ji33) p299 q299; obtain rfl : (⟨go36, 0, none⟩ : Addr) = ad299 := (by injection e299); obtain ⟨ce299, hce299, hMe299, hcc299⟩ := Kd.S_get HO_276000.out [] (ji33) p299 (by first | exact q299 | exact dt | (have e_ := (Kd.S_reads' HO_276000.out).1; omega)); obtain ⟨ve299_0, rfl, ge299_0⟩ := hMe299; have hv299_0 := hcc299 0 _ rfl; rw [Nat.add_zero, show ((Kd.slice 3 (Kd.int .i64))).sz = 1 from rfl, Nat.mul_one] at hv299_0; replace hv299_0 := Option.some.inj (hv299_0.symm.trans hx299_0); rw [hv299_0] at ge299_0; have HL299_0 := Aside0.mk (show Kd.R (Kd.int .i64) 3 _ _ _ _ (rd_L2 y298 (ji33)) from ge299_0); clear hv299_0 ge299_0; clear hcc299 hce299; (first | simp only [add_plain] at hx299_0 | simp only [add_at] at hx299_0 | simp only [Addr.add, Nat.zero_add] at hx299_0 | skip); have HR299_0 := Aside0.mk hi299_0; have HC299_0 := Aside0.mk hl299_0; clear hi299_0 hl299_0; replace p299 := eq_true p299; replace q299 := eq_true q299; have hnb47 := NB274_0.out; have hnc47 := NB0_274.out; have hcz48_0 : w45.cell? ⟨gb274, 0, none⟩ = some (.slice none 0 0) := (blk_cell BK274.out 0).trans rfl; have hfz48_0 := blk_frozen BK274.out 0))
        have hji_ : (0 : Int) ≤ ji33 := of_decide_eq_true (by assumption)
        have hjl_ : ji33 < (y298.length : Int) := by first | exact of_decide_eq_true (by assumption) | (rw [Ny298.out, List.length_set]; exact of_decide_eq_true (by assumption))
        obtain ⟨gl, eA_, hgl, ⟨clr, hbl⟩, hcl, hS6⟩ := six_ok HO_276000.out ji33 hji_ hjl_ (by first | exact hx299_0 | (rw [add_plain]; exact hx299_0)) C256.out
        subst eA_
        have GL := Aside0.mk hgl
        have HBL := Aside0.mk hbl
        have HS6 := Aside0.mk hS6
        have HLN := Aside0.mk C256.out
        have z0 := (hcl 250 (by omega)).1
        have z1 := (hcl 251 (by omega)).1
        have z2 := (hcl 252 (by omega)).1
        have z3 := (hcl 253 (by omega)).1
        have z4 := (hcl 254 (by omega)).1
        have z5 := (hcl 255 (by omega)).1
        have f0 := (hcl 250 (by omega)).2
        have f1 := (hcl 251 (by omega)).2
        have f2 := (hcl 252 (by omega)).2
        have f3 := (hcl 253 (by omega)).2
        have f4 := (hcl 254 (by omega)).2
        have f5 := (hcl 255 (by omega)).2
        have b0 : ((250 : Int) < ((rd_L2 y298 ji33).length : Int)) = True := eq_true (by have := C256.out; omega)
        have b1 : ((251 : Int) < ((rd_L2 y298 ji33).length : Int)) = True := eq_true (by have := C256.out; omega)
        have b2 : ((252 : Int) < ((rd_L2 y298 ji33).length : Int)) = True := eq_true (by have := C256.out; omega)
        have b3 : ((253 : Int) < ((rd_L2 y298 ji33).length : Int)) = True := eq_true (by have := C256.out; omega)
        have b4 : ((254 : Int) < ((rd_L2 y298 ji33).length : Int)) = True := eq_true (by have := C256.out; omega)
        have b5 : ((255 : Int) < ((rd_L2 y298 ji33).length : Int)) = True := eq_true (by have := C256.out; omega)
        have n1 : gl ≠ gb274 := blk_ne hbl BK274.out (by decide)
        have n2 : gb274 ≠ gl := fun e => n1 e.symm
        have n3 : gl ≠ gb275 := blk_ne hbl BK275.out (by decide)
        have n4 : gb275 ≠ gl := fun e => n3 e.symm
        clear hcl hbl hgl hS6 hji_ hjl_
        go_wp2
        refine bodyPost_ret (results_cell_row rfl _ _ gb274 29 #[.slice (some ⟨go36, 0, none⟩) x276000_1.length co36] (0, 0) _ rfl (blk_put (cs := #[.slice none 0 0]) (six_blk BK274.out n2) 0 _ rfl) Try.underlying29 rfl (by kernel_rfl)) rfl ?_
        exact ⟨_, rfl, Kd.S_mono (Kd.S_far (p := ⟨gb274, 0, none⟩) (Kd.S_types HS6.out (six_blk BK274.out n2) (by decide)) (fun _ hk => hk.2) (.slice (some ⟨go36, 0, none⟩) x276000_1.length co36)) (fun _ hk => trivial), (six_state HI0.out (IsS107.ne_blk HI0.out HBL.out (by decide))).far (p := ⟨gb274, 0, none⟩) NB0_274.out _, below_set (six_below HB.out (Nat.le_trans HW0.out GL.out)) GE274.out, keep_far (p := ⟨gb274, 0, none⟩) (six_keep HK.out GL.out) GW274.out _⟩
       ·rw [if_neg c35] at H
        exact absurd H (by simp)
      ·rw [if_neg c34] at H
       exact absurd H (by simp)
     ·rw [if_neg c32] at H
      have c32b0 : ((t294.length : Int) == 256) = false := beq_eq_false_iff_ne.mpr c32
      have c32b1 : ((t294.length : Int) != 256) = true := bne_iff_ne.mpr c32
      obtain ⟨ji49, hji49⟩ : ∃ j_ : Int, (wrap64 ((wrap64 (1 + t276)) - 1)) = j_ := ⟨_, rfl⟩
      replace H : (if 0 ≤ (ji49) then (if (ji49) < (x276000_1.length : Int) then (if (rd_L2 x276000_1 (ji49)).length = 256 then (some (lastSix x276000_1 (ji49), t292, t293)) else (none)) else (none)) else (none)) = some (r1, r2, r3) := by first | (rw [hji49] at H; exact H) | (simp only [hji49] at H ⊢; exact H)
      (try rw [hji49] at A18)
      (try rw [hji49] at A30)
      (try rw [hji49] at A31)
      have hji49w : (IntKind.i64.wrap ((wrap64 (1 + t276)) - 1)) = ji49 := (i64_w _).trans hji49
      by_cases c50 : 0 ≤ (ji49)
      ·rw [if_pos c50] at H
       have c50b0 : decide (0 ≤ (ji49)) = true := decide_eq_true c50
       clear c50
       by_cases c51 : (ji49) < (x276000_1.length : Int)
       ·rw [if_pos c51] at H
        have c51b0 : decide ((ji49) < (x276000_1.length : Int)) = true := decide_eq_true c51
        clear c51
        by_cases c256 : (rd_L2 x276000_1 (ji49)).length = 256
        rotate_left
        ·rw [if_neg c256] at H
         exact absurd H (by simp)
        rw [if_pos c256] at H
        have C256 := Aside0.mk c256
        clear c256
        simp only [Option.some.injEq, Prod.mk.injEq] at H
        obtain ⟨rfl, rfl, rfl⟩ := H
        go_upto_region 12 with (first | ((with_reducible refine gate_callee (f := 58) rfl ?_); refine goesM_ (some 26) rfl rfl Try.func58 #[.pointer (some ⟨g, 0, none⟩), .int .i64 4] ?_; (with_reducible refine (spec_l1Once.calls g s0_0 x1001_1 x1002_1 4 false t288 t289 w0 _ ?side1 ?side2 A18.out).mono ?_); (case side1 => exact si HI0.out); (case side2 => exact bi HB.out); rintro e w52 ⟨rfl, hi, hb, hk⟩; refine ⟨_, rfl, ?_⟩; have n0_ := Aside0.mk (Kd.S_mono (Kd.S_keep (IsS107.apartS (show IsS107 w0 _ g s0_0 x1001_1 x1002_1 from si HI0.out) (ks HO_276000.out) (by decide)) hk (fun _ h => h.2)) (fun _ h => h.1)); have n1_ := Aside0.mk (KeepBut.blk hk (g' := gb274) (o := .cells #[.slice none 0 0] 29 (0, 0)) (kb BK274.out) NB274_0.out (by simp)); have n2_ := Aside0.mk (KeepBut.blk hk (g' := gb275) (o := .cells #[u276000] 29 (0, 0)) (kb BK275.out) NB275_0.out (by simp)); have n3_ := Aside0.mk (KeepBut.trans (kp HK.out) hk (.inl rfl)); have n4_ := Aside0.mk (hb); have n5_ := Aside0.mk (hi); clear HO_276000; clear BK274; clear BK275; clear HK; clear HB; clear HI0; have HO_276000 := n0_; have BK274 := n1_; have BK275 := n2_; have HK := n3_; have HB := n4_; have HI0 := n5_; clear n0_ n1_ n2_ n3_ n4_ n5_; (try clear hb); (try clear hb2); (try clear hk); (try clear hi)) | ((with_reducible refine gate_callee (f := 107) rfl ?_); refine goesM_ (some 30) rfl rfl Try.func107 #[.pointer (some ⟨g, 0, none⟩)] ?_; (with_reducible refine (spec_l2Main.calls g s0_0 t288 t289 t291 t292 t293 w0 _ ?side1 ?side2 A30.out).mono ?_); (case side1 => exact si HI0.out); (case side2 => exact bi HB.out); rintro e w53 ⟨rfl, hi, hb, hk⟩; refine ⟨_, rfl, ?_⟩; have n0_ := Aside0.mk (Kd.S_mono (Kd.S_keep (IsS107.apartS (show IsS107 w0 _ g s0_0 t288 t289 from si HI0.out) (ks HO_276000.out) (by decide)) hk (fun _ h => h.2)) (fun _ h => h.1)); have n1_ := Aside0.mk (KeepBut.blk hk (g' := gb274) (o := .cells #[.slice none 0 0] 29 (0, 0)) (kb BK274.out) NB274_0.out (by simp)); have n2_ := Aside0.mk (KeepBut.blk hk (g' := gb275) (o := .cells #[u276000] 29 (0, 0)) (kb BK275.out) NB275_0.out (by simp)); have n3_ := Aside0.mk (KeepBut.trans (kp HK.out) hk (.inl rfl)); have n4_ := Aside0.mk (hb); have n5_ := Aside0.mk (hi); clear HO_276000; clear BK274; clear BK275; clear HK; clear HB; clear HI0; have HO_276000 := n0_; have BK274 := n1_; have BK275 := n2_; have HK := n3_; have HB := n4_; have HI0 := n5_; clear n0_ n1_ n2_ n3_ n4_ n5_; (try clear hb); (try clear hb2); (try clear hk); (try clear hi)) | ((with_reducible refine gate_callee (f := 106) rfl ?_); refine goesM_ (some 31) rfl rfl Try.func106 #[.string t291] ?_; (with_reducible refine (spec_Assemble.calls k1 t291 t294 t295 _ A31.out).mono ?_); rintro e w54 ⟨v296, rfl, ho0, hb⟩; refine ⟨_, rfl, ?_⟩; have n0_ := Aside0.mk (Kd.S_elder' (ks HO_276000.out) (Kd.R_base ho0) hb); have n1_ := Aside0.mk (Kd.R_lower ho0 (keep_size (w := w) (g := g) (row := none) (kp HK.out))); have n2_ := Aside0.mk (blk_below (g := gb274) (o := .cells #[.slice none 0 0] 29 (0, 0)) (kb BK274.out) hb); have n3_ := Aside0.mk (blk_below (g := gb275) (o := .cells #[u276000] 29 (0, 0)) (kb BK275.out) hb); have n4_ := Aside0.mk (IsS107.below (si HI0.out) hb); have n5_ := Aside0.mk (KeepBut.trans (kp HK.out) (KeepBut.of_below hb g none) (.inl rfl)); have n6_ := Aside0.mk (below_step (bi HB.out) hb); clear HO_276000; clear BK274; clear BK275; clear HI0; clear HK; clear HB; have HO_276000 := n0_; have HO297 := n1_; have BK274 := n2_; have BK275 := n3_; have HI0 := n4_; have HK := n5_; have HB := n6_; clear n0_ n1_ n2_ n3_ n4_ n5_ n6_; (try clear hb); (try clear hb2); (try clear hk); (try clear hi); (try clear ho0); obtain ⟨Ao55, co55, eo55⟩ := Kd.R_slice HO297.out; subst eo55; have hnb56 := NB275_274.out; have hnc56 := NB274_275.out; have hnb57 := NB275_0.out; have hnc57 := NB0_275.out; have hcz58_0 : w54.cell? ⟨gb275, 0, none⟩ = some (u276000) := (blk_cell BK275.out 0).trans rfl; have hfz58_0 := blk_frozen BK275.out 0; obtain ⟨Ao59, co59, eo59⟩ := Kd.S_slice HO_276000.out; subst eo59; have p300 : 0 ≤ ((ji49) : Int) := dt; have q300 : (ji49) < (x276000_1.length : Int) := dt; obtain ⟨ad300, A300_0, c300_0, e300, hx300_0, hl300_0, hi300_0⟩ := at_L2 (Kd.S_reads' HO_276000.out).2.2 (ji49) p300 q300; cases e300; obtain ⟨ce300, hce300, hMe300, hcc300⟩ := Kd.S_get HO_276000.out [] (ji49) p300 (by first | exact q300 | exact dt | (have e_ := (Kd.S_reads' HO_276000.out).1; omega)); obtain ⟨ve300_0, rfl, ge300_0⟩ := hMe300; have hv300_0 := hcc300 0 _ rfl; rw [Nat.add_zero, show ((Kd.slice 3 (Kd.int .i64))).sz = 1 from rfl, Nat.mul_one] at hv300_0; replace hv300_0 := Option.some.inj (hv300_0.symm.trans hx300_0); rw [hv300_0] at ge300_0; have HL300_0 := Aside0.mk (show Kd.R (Kd.int .i64) 3 _ _ _ _ (rd_L2 x276000_1 (ji49)) from ge300_0); clear hv300_0 ge300_0; clear hcc300 hce300; have HR300_0 := Aside0.mk hi300_0; have HC300_0 := Aside0.mk hl300_0; clear hi300_0 hl300_0; replace p300 := eq_true p300; replace q300 := eq_true q300; have hnb60 := NB274_0.out; have hnc60 := NB0_274.out; have hcz61_0 : w54.cell? ⟨gb274, 0, none⟩ = some (.slice none 0 0) := (blk_cell BK274.out 0).trans rfl; have hfz61_0 := blk_frozen BK274.out 0))
        have hji_ : (0 : Int) ≤ ji49 := of_decide_eq_true (by assumption)
        have hjl_ : ji49 < (x276000_1.length : Int) := by first | exact of_decide_eq_true (by assumption) | (rw [Ny0.out, List.length_set]; exact of_decide_eq_true (by assumption))
        obtain ⟨gl, eA_, hgl, ⟨clr, hbl⟩, hcl, hS6⟩ := six_ok HO_276000.out ji49 hji_ hjl_ (by first | exact hx300_0 | (rw [add_plain]; exact hx300_0)) C256.out
        subst eA_
        have GL := Aside0.mk hgl
        have HBL := Aside0.mk hbl
        have HS6 := Aside0.mk hS6
        have HLN := Aside0.mk C256.out
        have z0 := (hcl 250 (by omega)).1
        have z1 := (hcl 251 (by omega)).1
        have z2 := (hcl 252 (by omega)).1
        have z3 := (hcl 253 (by omega)).1
        have z4 := (hcl 254 (by omega)).1
        have z5 := (hcl 255 (by omega)).1
        have f0 := (hcl 250 (by omega)).2
        have f1 := (hcl 251 (by omega)).2
        have f2 := (hcl 252 (by omega)).2
        have f3 := (hcl 253 (by omega)).2
        have f4 := (hcl 254 (by omega)).2
        have f5 := (hcl 255 (by omega)).2
        have b0 : ((250 : Int) < ((rd_L2 x276000_1 ji49).length : Int)) = True := eq_true (by have := C256.out; omega)
        have b1 : ((251 : Int) < ((rd_L2 x276000_1 ji49).length : Int)) = True := eq_true (by have := C256.out; omega)
        have b2 : ((252 : Int) < ((rd_L2 x276000_1 ji49).length : Int)) = True := eq_true (by have := C256.out; omega)
        have b3 : ((253 : Int) < ((rd_L2 x276000_1 ji49).length : Int)) = True := eq_true (by have := C256.out; omega)
        have b4 : ((254 : Int) < ((rd_L2 x276000_1 ji49).length : Int)) = True := eq_true (by have := C256.out; omega)
        have b5 : ((255 : Int) < ((rd_L2 x276000_1 ji49).length : Int)) = True := eq_true (by have := C256.out; omega)
        have n1 : gl ≠ gb274 := blk_ne hbl BK274.out (by decide)
        have n2 : gb274 ≠ gl := fun e => n1 e.symm
        have n3 : gl ≠ gb275 := blk_ne hbl BK275.out (by decide)
        have n4 : gb275 ≠ gl := fun e => n3 e.symm
        clear hcl hbl hgl hS6 hji_ hjl_
        go_wp2
        refine bodyPost_ret (results_cell_row rfl _ _ gb274 29 #[.slice (some ad300) x276000_1.length co59] (0, 0) _ rfl (blk_put (cs := #[.slice none 0 0]) (six_blk BK274.out n2) 0 _ rfl) Try.underlying29 rfl (by kernel_rfl)) rfl ?_
        exact ⟨_, rfl, Kd.S_mono (Kd.S_far (p := ⟨gb274, 0, none⟩) (Kd.S_types HS6.out (six_blk BK274.out n2) (by decide)) (fun _ hk => hk.2) (.slice (some ad300) x276000_1.length co59)) (fun _ hk => trivial), (six_state HI0.out (IsS107.ne_blk HI0.out HBL.out (by decide))).far (p := ⟨gb274, 0, none⟩) NB0_274.out _, below_set (six_below HB.out (Nat.le_trans HW0.out GL.out)) GE274.out, keep_far (p := ⟨gb274, 0, none⟩) (six_keep HK.out GL.out) GW274.out _⟩
       ·rw [if_neg c51] at H
        exact absurd H (by simp)
      ·rw [if_neg c50] at H
       exact absurd H (by simp)

/-! ### spec_l2Draw (mine) -/
/-- A row of the call's own that may begin inside its block, as an element. -/
def cutK {α : Type} (e : Nat) (d : Kd α) : Kd (List α) where
 sz := 1
 E := e :: d.E
 K := (Kd.slice e d).K
 M := fun w base ok xs cs => ∃ v, cs = [v] ∧ d.Q e w base ok v xs
 K_len := fun h => (Kd.slice e d).K_len h
 K_one := fun h => (Kd.slice e d).K_one h
 K_below := fun hb h => (Kd.slice e d).K_below hb h
 K_of_M := by
  rintro w base ok x cs ⟨v, rfl, h⟩
  obtain ⟨A, c, rfl, hl, hC⟩ := Kd.Q_reads h
  exact ⟨A, c, rfl, hl, hC⟩
 M_mono := by
  rintro w base ok ok' x cs hok ⟨v, rfl, h⟩
  exact ⟨v, rfl, Kd.Q_mono h hok⟩
 M_bound := by
  rintro w base ok x cs ⟨v, rfl, h⟩
  exact ⟨v, rfl, Kd.Q_bound h⟩
 M_move := by
  rintro w w1 base ok x cs hm ⟨v, rfl, h⟩
  exact ⟨v, rfl, Kd.Q_move h hm⟩
 M_lower := by
  rintro w base base' ok x cs hb ⟨v, rfl, h⟩
  exact ⟨v, rfl, Kd.Q_lower h hb⟩
theorem S_cut {α : Type} {e e' : Nat} {d : Kd α} {w : World} {base : Nat} {ok : Nat → Prop} {v : Value} {xs : List (List α)} (h : Kd.S (Kd.slice e d) e' w base ok v xs) : Kd.S (cutK e d) e' w base ok v xs := by
 obtain ⟨f, h0, inner, ho, hr⟩ := h
 refine ⟨f, h0, inner, ho, hr.1, fun j p hj => ?_⟩
 obtain ⟨u, hu, hR⟩ := hr.2 j p hj
 exact ⟨u, hu, Kd.Q_of_R hR⟩
theorem C_uncut {α : Type} {e : Nat} {d : Kd α} {w : World} {A : Option Addr} {n : Nat} {xs : List (List α)} (h : (cutK e d).C w A n xs) : (Kd.slice e d).C w A n xs := h
section
variable {W : World} {base go n cap : Nat} {ok : Nat → Prop} {X : List (List Int)}
/-- The first row's header. -/
theorem first_row (h : Kd.S (Kd.slice 3 (Kd.int .i64)) 30 W base ok (.slice (some ⟨go, 0, none⟩) n cap) X) (h0 : 0 < X.length) :
  ∃ A c, W.cell? ⟨go, 0, none⟩ = some (.slice A (rd_L2 X 0).length c) ∧ W.frozen? ⟨go, 0, none⟩ = false ∧ Kd.R (Kd.int .i64) 3 W base ok (.slice A (rd_L2 X 0).length c) (rd_L2 X 0) := by
 have hn := (Kd.S_reads' h).1
 obtain ⟨oki, cc, _, hM, hcc, hf, hoki, _⟩ := Kd.S_elem h [] 0 (by omega) (by omega)
 obtain ⟨v, rfl, hR⟩ : ∃ v, cc = [v] ∧ Kd.R (Kd.int .i64) 3 W base oki v (X.getD (0 : Int).toNat []) := hM
 obtain ⟨A, c, rfl⟩ := Kd.R_slice hR
 exact ⟨A, c, hcc 0 _ rfl, hf 0, Kd.R_mono hR (fun k hk => (hoki k hk).1)⟩
/-- The first row is a cut of what it was. -/
theorem first_cut (h : Kd.S (Kd.slice 3 (Kd.int .i64)) 30 W base ok (.slice (some ⟨go, 0, none⟩) n cap) X) (h0 : 0 < X.length) {A : Option Addr} {m c : Nat} (hx : W.cell? ⟨go, 0, none⟩ = some (.slice A m c)) (h1 : 1 ≤ (rd_L2 X 0).length) :
  Kd.S (cutK 3 (Kd.int .i64)) 30 (W.setCell ⟨go, 0, none⟩ (.slice (if c = 1 then A else A.map (·.add 1)) (m - 1) (c - 1))) base ok (.slice (some ⟨go, 0, none⟩) n cap) (X.set 0 ((rd_L2 X 0).drop 1)) := by
 have hn := (Kd.S_reads' h).1
 obtain ⟨oki, cc, _, hM, hcc, hf, hoki, hH⟩ := Kd.S_elem (S_cut h) [] 0 (by omega) (by omega)
 obtain ⟨v, rfl, hQ⟩ : ∃ v, cc = [v] ∧ Kd.Q (Kd.int .i64) 3 W base oki v (X.getD (0 : Int).toNat []) := hM
 have hv : W.cell? ⟨go, 0, none⟩ = some v := hcc 0 _ rfl
 rw [hx] at hv
 obtain rfl := Option.some.inj hv
 have hd := Kd.Q_drop (k := 1) hQ h1
 have := (Kd.S_seg (okg := fun _ => False) (okp := oki) (seg := [.slice (if c = 1 then A else A.map (·.add 1)) (m - 1) (c - 1)]) (j := 0) (Kd.H_mono hH (fun k hk => ⟨hk, fun h => h⟩)) (by omega) (by omega) (by show 0 + 1 ≤ 1; omega) (x' := (rd_L2 X 0).drop 1) ⟨_, rfl, hd⟩ (fun k hk => .inl hk) (fun k hk => hk.elim)).1
 exact this
/-- A store into the first row. -/
theorem first_put (h : Kd.S (Kd.slice 3 (Kd.int .i64)) 30 W base ok (.slice (some ⟨go, 0, none⟩) n cap) X) (h0 : 0 < X.length) {A : Option Addr} {m c : Nat} (hx : W.cell? ⟨go, 0, none⟩ = some (.slice A m c)) (h3 : 3 < (rd_L2 X 0).length) :
  ∃ gl, A = some ⟨gl, 0, none⟩ ∧ m = (rd_L2 X 0).length ∧ base ≤ gl ∧ (∃ cells, W.heap[gl]? = some (.cells cells 3 (0, 0))) ∧ (∃ u, W.cell? ⟨gl, 3, none⟩ = some (.int .i64 u)) ∧ W.frozen? ⟨gl, 3, none⟩ = false ∧
   ∀ p : Int, Kd.S (Kd.slice 3 (Kd.int .i64)) 30 (W.setCell ⟨gl, 3, none⟩ (.int .i64 p)) base ok (.slice (some ⟨go, 0, none⟩) n cap) (X.set 0 ((rd_L2 X 0).set 3 p)) := by
 have hn := (Kd.S_reads' h).1
 obtain ⟨oki, cc, _, hM, hcc, hf, hoki, hH⟩ := Kd.S_elem h [] 0 (by omega) (by omega)
 obtain ⟨v, rfl, hR⟩ : ∃ v, cc = [v] ∧ Kd.R (Kd.int .i64) 3 W base oki v (X.getD (0 : Int).toNat []) := hM
 have hv : W.cell? ⟨go, 0, none⟩ = some v := hcc 0 _ rfl
 rw [hx] at hv
 obtain rfl := Option.some.inj hv
 have e2 : X.getD (0 : Int).toNat [] = rd_L2 X 0 := rfl
 rw [e2] at hR
 obtain ⟨gl, cap', e3, hg, hgl, hcells⟩ := Kd.R_form hR (by omega)
 injection e3 with a1 a2 a3
 subst a1 a2 a3
 have hok : oki gl := hR.1 gl rfl
 obtain ⟨hc3, hf3⟩ := Kd.R_celln 0 hR 3 (by omega) (by omega)
 refine ⟨gl, rfl, rfl, hg, hcells, ⟨_, hc3⟩, hf3, fun p => ?_⟩
 exact Kd.H_back (i := 0) (Kd.H_step hH (fun k _ hn _ => Below.heap_setCell _ _ _ k (fun e => hn (by rw [e]; exact hok)))) ⟨_, rfl, Kd.R_putn hR 3 p⟩ (fun _ hk => hk)
end
def spec_l2Draw.f (k : Nat) (s0_0 : List Int) (s0_1 : Int) (s0_2 : Int) : Option ((List (List Int)) × Int × Int) :=
 (spec_l2DrawRight.f k s0_0 s0_1 s0_2).bind fun q => (spec_l1Below.f s0_0 q.2.1 q.2.2 15).bind fun b =>
  if b.1 = 0 then (if 0 < q.1.length ∧ 1 ≤ (rd_L2 q.1 0).length then some (q.1.set 0 ((rd_L2 q.1 0).drop 1), b.2.1, b.2.2) else none)
  else if b.1 = 1 then (if 0 < q.1.length ∧ 3 < (rd_L2 q.1 0).length then (spec_l1PickInt.f s0_0 b.2.1 b.2.2 [-1, 256]).bind fun p => some (q.1.set 0 ((rd_L2 q.1 0).set 3 p.1), p.2.1, p.2.2) else none)
  else if b.1 = 2 then some ([], b.2.1, b.2.2) else some (q.1, b.2.1, b.2.2)
theorem spec_l2Draw.mono : ∀ a0 a1 a2 k, LeO (spec_l2Draw.f k a0 a1 a2) (spec_l2Draw.f (k + 1) a0 a1 a2) := by
 intro a0 a1 a2 k
 unfold spec_l2Draw.f
 refine LeO.bind (spec_l2DrawRight.mono _ _ _ _) (fun q => LeO.refl _)
/-- What is known where the drawn image lies in its variable, and the cursor behind the draw of what becomes of it. -/
structure L2 (w0 w W : World) (g a b : Nat) (s0 : List Int) (x y : Int) (A : Option Addr) (c : Nat) (X : List (List Int)) : Prop where
 st : IsS107 w0 W g s0 x y
 keep : KeepBut w W g none
 below : Below w0.heap.size w0 W
 hw : w0.heap.size ≤ w.heap.size
 ba : W.heap[a]? = some (.cells #[.slice none 0 0] 29 (0, 0))
 bb : W.heap[b]? = some (.cells #[.slice A X.length c] 29 (0, 0))
 row : Kd.S (Kd.slice 3 (Kd.int .i64)) 30 W w.heap.size (fun _ => True) (.slice A X.length c) X
 ga : w.heap.size ≤ a
 gb : w.heap.size ≤ b
 ab : a ≠ b
theorem L2.call {w0 w W W' : World} {g a b : Nat} {s0 : List Int} {x y x' y' : Int} {A : Option Addr} {c : Nat} {X : List (List Int)} (h : L2 w0 w W g a b s0 x y A c X) (hi : IsS107 w0 W' g s0 x' y') (hb : Below w0.heap.size w0 W') (hk : KeepBut W W' g none) : L2 w0 w W' g a b s0 x' y' A c X :=
 ⟨hi, KeepBut.trans h.keep hk (.inl rfl), hb, h.hw, KeepBut.blk hk h.ba (fun e => IsS107.ne_blk h.st h.ba (by decide) e.symm) (by simp), KeepBut.blk hk h.bb (fun e => IsS107.ne_blk h.st h.bb (by decide) e.symm) (by simp),
  Kd.S_mono (Kd.S_keep (IsS107.apartS h.st h.row (by decide)) hk (fun _ h => h.2)) (fun _ _ => trivial), h.ga, h.gb, h.ab⟩
/-- The result's block, and the end. -/
theorem L2.done {w0 w W : World} {g a : Nat} {s0 : List Int} {x y : Int} {v : Value} {Y : List (List Int)} (st : IsS107 w0 W g s0 x y) (keep : KeepBut w W g none) (below : Below w0.heap.size w0 W) (hw : w0.heap.size ≤ w.heap.size)
  (ba : W.heap[a]? = some (.cells #[.slice none 0 0] 29 (0, 0))) (row : Kd.S (cutK 3 (Kd.int .i64)) 30 W w.heap.size (fun _ => True) v Y) (ga : w.heap.size ≤ a) :
  (W.setCell ⟨a, 0, none⟩ v).heap[a]? = some (.cells #[v] 29 (0, 0)) ∧ Kd.S (cutK 3 (Kd.int .i64)) 30 (W.setCell ⟨a, 0, none⟩ v) w.heap.size (fun _ => True) v Y ∧ IsS107 w0 (W.setCell ⟨a, 0, none⟩ v) g s0 x y ∧ Below w0.heap.size w0 (W.setCell ⟨a, 0, none⟩ v) ∧ KeepBut w (W.setCell ⟨a, 0, none⟩ v) g none :=
 ⟨blk_put ba 0 _ rfl, Kd.S_mono (Kd.S_far (p := ⟨a, 0, none⟩) (Kd.S_types row ba (by decide)) (fun _ hk => hk.2) v) (fun _ _ => trivial), st.far (p := ⟨a, 0, none⟩) (IsS107.ne_blk st ba (by decide)) v, below_set below (Nat.le_trans hw ga), keep_far (p := ⟨a, 0, none⟩) keep ga v⟩
set_option maxRecDepth 100000 in
set_option maxHeartbeats 4000000 in
theorem spec_l2Draw.calls (k : Nat) (g : Nat) (s0_0 : List Int) (s0_1 : Int) (s0_2 : Int) (r1 : List (List Int)) (r2 : Int) (r3 : Int) (w0 w : World) (hI : IsS107 w0 w g s0_0 s0_1 s0_2) (hB : Below w0.heap.size w0 w) (h : spec_l2Draw.f k s0_0 s0_1 s0_2 = some (r1, r2, r3)) :
  Calls Try.prog 65 #[.pointer (some ⟨g, 0, none⟩)] w fun e w' => ∃ v0_ : Value, e = .returned (.agg #[v0_]) ∧ Kd.S (cutK 3 (Kd.int .i64)) 30 w' w.heap.size (fun _ => True) v0_ r1 ∧ IsS107 w0 w' g s0_0 r2 r3 ∧ Below w0.heap.size w0 w' ∧ KeepBut w w' g none := by
 have hu29 := Try.underlying29
 unfold spec_l2Draw.f at h
 obtain ⟨⟨X, x1, x2⟩, hq, h2⟩ := Option.bind_eq_some_iff.mp h
 obtain ⟨⟨t, y1, y2⟩, hp, h3⟩ := Option.bind_eq_some_iff.mp h2
 clear h h2
 have HI := Aside0.mk hI
 have HB := Aside0.mk hB
 have HQ := Aside0.mk hq
 have HP := Aside0.mk hp
 have H3 := Aside0.mk h3
 clear hI hB hq hp h3
 go_enter Try.func65, Try.ntmps65
 go_wp2_with fail
 refine (spec_l2DrawRight.calls k g s0_0 s0_1 s0_2 X x1 x2 w0 _ ?i ?b HQ.out).mono ?_
 case i => exact IsS107.alloc HI.out _
 case b => exact below_alloc HB.out _
 rintro e W1 ⟨v0, rfl, hS, hi, hb, hk⟩
 obtain ⟨A, c, rfl⟩ := Kd.S_slice hS
 have hga : w.heap.size ≠ g := fun e => by have := IsS107.lt HI.out; omega
 have ba := KeepBut.blk hk (g' := w.heap.size) (alloc_at w _ _ rfl) hga (by simp)
 have hsz : w.heap.size + 1 ≤ W1.heap.size := by have := hk.1; rw [alloc_size] at this; omega
 have hl : L2 w0 w (W1.alloc (.cells #[.slice A X.length c] 29)) g w.heap.size W1.heap.size s0_0 x1 x2 A c X :=
  ⟨hi.alloc _, keep_alloc (KeepBut.trans (keep_alloc (KeepBut.refl w g none) _) hk (.inl rfl)) _, below_alloc hb _, HB.out.size, blk_alloc ba _, blk_new W1 _, Kd.S_alloc (Kd.S_lower hS (by rw [alloc_size]; omega)) _, Nat.le_refl _, by omega, by omega⟩
 have HL := Aside0.mk hl
 clear hS hi hb hk ba hl hsz
 go_wp2_with fail
 generalize W1.alloc (.cells #[.slice A X.length c] 29) = W2 at *
 generalize W1.heap.size = b at *
 refine (spec_l1Below.calls g s0_0 x1 x2 15 t y1 y2 w0 _ HL.out.st HL.out.below HP.out).mono ?_
 rintro e W3 ⟨rfl, hi, hb, hk⟩
 have H := Aside0.mk (HL.out.call hi hb hk)
 have h3 := H3.out
 clear HL hi hb hk H3 HQ HP HI HB W2
 have hy0 : W3.cell? ⟨b, 0, none⟩ = some (.slice A X.length c) := (blk_cell H.out.bb 0).trans rfl
 have hyf := blk_frozen H.out.bb 0
 have hz0 : W3.cell? ⟨w.heap.size, 0, none⟩ = some (.slice none 0 0) := (blk_cell H.out.ba 0).trans rfl
 have hzf := blk_frozen H.out.ba 0
 have hab := H.out.ab
 have hba : b ≠ w.heap.size := fun e => hab e.symm
 by_cases t0 : t = 0
 ·subst t0
  rw [if_pos rfl] at h3
  by_cases hc : 0 < X.length ∧ 1 ≤ (rd_L2 X 0).length
  ·rw [if_pos hc] at h3
   simp only [Option.some.injEq, Prod.mk.injEq] at h3
   obtain ⟨rfl, rfl, rfl⟩ := h3
   obtain ⟨go, cap, eA, hgo, _, ⟨cells, hgb⟩⟩ := Kd.S_form H.out.row hc.1
   injection eA with e1 e2 e3
   subst e1 e3
   obtain ⟨A1, c1, hx, hf, hR⟩ := first_row H.out.row hc.1
   have HCUT := Aside0.mk (first_cut H.out.row hc.1 hx hc.2)
   obtain ⟨i0, hi0, hzz⟩ := Option.map_eq_some_iff.1 info3
   simp only [Prod.mk.injEq] at hzz
   have hcut : ∀ W : World, (Instr.slice 30 (.slice A1 (rd_L2 X 0).length c1) (some (.int .i64 1)) none none).run Try.prog W = .ok (.slice (if c1 = 1 then A1 else A1.map (·.add 1)) ((rd_L2 X 0).length - 1) (c1 - 1)) W := cut_from 30 3 .i64 Try.underlying30 hi0 1 hzz.2.1 A1 (rd_L2 X 0).length c1 1 (by omega) (by have := hc.2; omega)
   have HG := Aside0.mk hgb
   have HGO := Aside0.mk hgo
   have hb1 : ((0 : Int) < ((X.length : Nat) : Int)) = True := eq_true (by have := hc.1; omega)
   have hb2 : 0 < X.length := hc.1
   have hb3 : X ≠ [] := fun e => by rw [e] at hb2; exact absurd hb2 (by decide)
   have n1 : go ≠ w.heap.size := blk_ne hgb H.out.ba (by decide)
   have n2 : w.heap.size ≠ go := fun e => n1 e.symm
   have n3 : go ≠ b := blk_ne hgb H.out.bb (by decide)
   have n4 : b ≠ go := fun e => n3 e.symm
   clear hc hR hi0 hzz e2 hgb hgo
   generalize (if c1 = 1 then A1 else A1.map (·.add 1)) = A3 at *
   generalize (rd_L2 X 0).length - 1 = m3 at *
   generalize c1 - 1 = c3 at *
   go_wp2
   go_still_tail 8, (by kernel_rfl)
   go_wp2
   obtain ⟨d1, d2, d3, d4, d5⟩ := L2.done (v := .slice (some ⟨go, 0, none⟩) X.length c) (H.out.st.far (p := ⟨go, 0, none⟩) (IsS107.ne_blk H.out.st HG.out (by decide)) (.slice A3 m3 c3)) (keep_far (p := ⟨go, 0, none⟩) H.out.keep HGO.out (.slice A3 m3 c3)) (below_set H.out.below (Nat.le_trans H.out.hw HGO.out)) H.out.hw (blk_far (p := ⟨go, 0, none⟩) H.out.ba n2 (.slice A3 m3 c3)) (HCUT.out) H.out.ga
   refine bodyPost_ret (results_cell_row rfl _ _ w.heap.size 29 #[.slice (some ⟨go, 0, none⟩) X.length c] (0, 0) _ rfl (blk_drew d1) hu29 rfl (by kernel_rfl)) rfl ?_
   exact ⟨_, rfl, Kd.S_drew d2, IsS107.drew d3, below_drew1 d4, keep_drew d5⟩
  ·rw [if_neg hc] at h3
   cases h3
 ·rw [if_neg t0] at h3
  have e0 : (t == 0) = false := beq_eq_false_iff_ne.mpr t0
  by_cases t1 : t = 1
  ·subst t1
   rw [if_pos rfl] at h3
   by_cases hc : 0 < X.length ∧ 3 < (rd_L2 X 0).length
   ·rw [if_pos hc] at h3
    obtain ⟨⟨p, q1, q2⟩, hpp, h4⟩ := Option.bind_eq_some_iff.mp h3
    simp only [Option.some.injEq, Prod.mk.injEq] at h4
    obtain ⟨rfl, rfl, rfl⟩ := h4
    clear h3 e0 t0
    have HPP := Aside0.mk hpp
    obtain ⟨go, cap, eA, hgo, _, ⟨cells, hgb⟩⟩ := Kd.S_form H.out.row hc.1
    injection eA with e1 e2 e3
    subst e1 e3
    obtain ⟨A1, c1, hx, hf, hR⟩ := first_row H.out.row hc.1
    have HX := Aside0.mk hx
    obtain ⟨gl, eA1, em, hgl, ⟨cl, hgc⟩, _⟩ := first_put H.out.row hc.1 hx hc.2
    subst eA1
    have HG := Aside0.mk hgb
    have HC := Aside0.mk hc
    have HGL := Aside0.mk hgl
    have hb1 : ((0 : Int) < ((X.length : Nat) : Int)) = True := eq_true (by have := hc.1; omega)
    have hb2 : 0 < X.length := hc.1
    have hb3 : X ≠ [] := fun e => by rw [e] at hb2; exact absurd hb2 (by decide)
    have hb4 : ((3 : Int) < (((rd_L2 X 0).length : Nat) : Int)) = True := eq_true (by have := hc.2; omega)
    have n3 : go ≠ b := blk_ne hgb H.out.bb (by decide)
    have n4 : b ≠ go := fun e => n3 e.symm
    clear hc hR e2 hgb hgo hpp hx hf hgc hgl em hy0 hyf hz0 hzf
    go_wp2
    refine start_ (n := 9) (S := fun w' => w'.cell? ⟨b, 0, none⟩ = some (.slice (some ⟨go, 0, none⟩) X.length c) ∧ w'.cell? ⟨go, 0, none⟩ = some (.slice (some ⟨gl, 0, none⟩) (rd_L2 X 0).length c1)) (ds := [8]) #[false, false, false, false, false, false, false, false, false] (by kernel_rfl) rfl rfl ⟨(blk_cell H.out.bb 0).trans rfl, HX.out⟩ (fun hHeld => ?_)
    have HD : Aside0 (W3.drew.cell? ⟨go, 0, none⟩ = some (.slice (some ⟨gl, 0, none⟩) (rd_L2 X 0).length c1)) := ⟨HX.out⟩
    have H4 : Aside0 (L2 w0 w W3.drew g w.heap.size b s0_0 y1 y2 (some ⟨go, 0, none⟩) c X) := ⟨⟨H.out.st.drew, keep_drew H.out.keep, below_drew1 H.out.below, H.out.hw, blk_drew H.out.ba, blk_drew H.out.bb, Kd.S_drew H.out.row, H.out.ga, H.out.gb, H.out.ab⟩⟩
    clear H HX
    generalize W3.drew = W4 at *
    refine pure_ (i := 0) (N := some 20) (v := ?_) (a' := ?_) #[true, false, false, false, false, false, false, false, false] rfl rfl (by kernel_rfl) (fun _ _ _ h => h) (Or.inl ⟨by rfl, ?_⟩) ?_ ?_
    rotate_left
    ·intro w'
     go_simp
     with_reducible rfl
    rotate_left
    ·simp only [Act.put, List.setIfInBounds_toArray, List.set_cons_zero, List.set_cons_succ, i64_w, i32_w]
     rfl
    refine take_ (i := 1) (N := some 21) (v := ?_) (a' := ?_) #[true, true, false, false, false, false, false, false, false] rfl rfl (by kernel_rfl) (fun _ _ _ h => h) (Or.inl ⟨by rfl, ?_⟩) hHeld ?_ ?_
    rotate_left
    ·rintro w' ⟨s0, s1⟩
     go_simp
     with_reducible rfl
    rotate_left
    ·simp only [Act.put, List.setIfInBounds_toArray, List.set_cons_zero, List.set_cons_succ, i64_w, i32_w]
     rfl
    refine pure_ (i := 2) (N := some 22) (v := ?_) (a' := ?_) #[true, true, true, false, false, false, false, false, false] rfl rfl (by kernel_rfl) (fun _ _ _ h => h) (Or.inl ⟨by rfl, ?_⟩) ?_ ?_
    rotate_left
    ·intro w'
     go_simp
     with_reducible rfl
    rotate_left
    ·simp only [Act.put, List.setIfInBounds_toArray, List.set_cons_zero, List.set_cons_succ, i64_w, i32_w]
     rfl
    refine take_ (i := 3) (N := some 23) (v := ?_) (a' := ?_) #[true, true, true, true, false, false, false, false, false] rfl rfl (by kernel_rfl) (fun _ _ _ h => h) (Or.inl ⟨by rfl, ?_⟩) hHeld ?_ ?_
    rotate_left
    ·rintro w' ⟨s0, s1⟩
     go_simp
     with_reducible rfl
    rotate_left
    ·simp only [Act.put, List.setIfInBounds_toArray, List.set_cons_zero, List.set_cons_succ, i64_w, i32_w]
     rfl
    refine pure_ (i := 4) (N := some 24) (v := ?_) (a' := ?_) #[true, true, true, true, true, false, false, false, false] rfl rfl (by kernel_rfl) (fun _ _ _ h => h) (Or.inl ⟨by rfl, ?_⟩) ?_ ?_
    rotate_left
    ·intro w'
     go_simp
     with_reducible rfl
    rotate_left
    ·simp only [Act.put, List.setIfInBounds_toArray, List.set_cons_zero, List.set_cons_succ, i64_w, i32_w]
     rfl
    refine one_ (i := 5) (N := some 25) #[true, true, true, true, true, true, false, false, false] rfl rfl (by kernel_rfl) (by decide) (fun K hK => ?_)
    refine value_ (w1 := W4.alloc (.cells #[.int .i64 (-1), .int .i64 256] 3)) (v := .slice (some ⟨W4.heap.size, 0, none⟩) 2 2) (by rfl) rfl ?_ ?_
    ·go_simp
    have hlit : Kd.R (Kd.int .i64) 3 (W4.alloc (.cells #[.int .i64 (-1), .int .i64 256] 3)) w.heap.size (fun _ => True) (.slice (some ⟨W4.heap.size, 0, none⟩) 2 2) [-1, 256] := Kd.R_of_own (own_lit W4 w.heap.size 3 .i64 [-1, 256] (keep_size H4.out.keep) (by decide)) (fun _ _ => trivial)
    have hne : W4.heap.size ≠ g := fun e => by have := IsS107.lt H4.out.st; omega
    have H5 : Aside0 (L2 w0 w (W4.alloc (.cells #[.int .i64 (-1), .int .i64 256] 3)) g w.heap.size b s0_0 y1 y2 (some ⟨go, 0, none⟩) c X) := ⟨⟨H4.out.st.alloc _, keep_alloc H4.out.keep _, below_alloc H4.out.below _, H4.out.hw, blk_alloc H4.out.ba _, blk_alloc H4.out.bb _, Kd.S_alloc H4.out.row _, H4.out.ga, H4.out.gb, H4.out.ab⟩⟩
    have HD5 := Aside0.mk (pw_cell_below (below_alloc (Below.refl _ _) (.cells #[.int .i64 (-1), .int .i64 256] 3)) HD.out)
    refine hK.out _ _ ⟨(blk_cell H5.out.bb 0).trans rfl, HD5.out⟩ (fun hHeld => ?_)
    clear hK K
    refine norm_ (a' := ?_) ?_ ?_
    rotate_left
    ·show Act.put _ (some 25) _ = _
     simp only [Act.put, List.setIfInBounds_toArray, List.set_cons_zero, List.set_cons_succ, i64_w, i32_w]
     rfl
    generalize hW5 : W4.alloc (.cells #[.int .i64 (-1), .int .i64 256] 3) = W5 at *
    refine one_ (i := 6) (N := some 26) #[true, true, true, true, true, true, true, false, false] rfl rfl (by kernel_rfl) (by decide) (fun K hK => ?_)
    refine goes_ Try.func70 (by kernel_rfl) rfl #[.pointer (some ⟨g, 0, none⟩), .slice (some ⟨W4.heap.size, 0, none⟩) 2 2] (by rfl) rfl rfl (by (try simp only [List.map_toArray, List.map_cons, List.map_nil]); first | done | rfl) ?_
    refine (spec_l1PickInt.calls g s0_0 y1 y2 (some ⟨W4.heap.size, 0, none⟩) 2 [-1, 256] p q1 q2 w0 W5 H5.out.st H5.out.below (Kd.R_reads' hlit).2.2 (by decide) (fun ad e _ => by injection e with e; rw [← e]; exact hne) HPP.out).mono ?_
    rintro e W6 ⟨rfl, hi, hb, hk⟩
    refine ⟨_, rfl, ?_⟩
    have H : Aside0 (L2 w0 w W6 g w.heap.size b s0_0 q1 q2 (some ⟨go, 0, none⟩) c X) := ⟨H5.out.call hi hb hk⟩
    obtain ⟨A1', c1', hx', hf', hR'⟩ := first_row H.out.row HC.out.1
    have hgo6 : go ≠ g := by
     obtain ⟨_, _, e1, _, _, ⟨cells6, hg6⟩⟩ := Kd.S_form H.out.row HC.out.1
     injection e1 with e1 _ _
     injection e1 with e1
     injection e1 with e1
     subst e1
     exact fun e => IsS107.ne_blk H.out.st hg6 (by decide) e.symm
    have hkx := keep_cell hk HD5.out hgo6
    rw [hx'] at hkx
    injection hkx with hkx
    injection hkx with k1 k2 k3
    subst k1 k3
    obtain ⟨gl', eA1, _, hgl, ⟨cl, hgc⟩, ⟨u3, hc3⟩, hf3, hput⟩ := first_put H.out.row HC.out.1 hx' HC.out.2
    injection eA1 with eA1
    injection eA1 with eA1
    subst eA1
    have HX := Aside0.mk hx'
    have HC3 := Aside0.mk hc3
    have HF3 := Aside0.mk hf3
    have HPUT := Aside0.mk (hput p)
    have HGC := Aside0.mk hgc
    have HGL := Aside0.mk hgl
    refine hK.out _ _ ⟨(blk_cell H.out.bb 0).trans rfl, hx'⟩ (fun hHeld => ?_)
    clear hK K hlit hne H5 HD5 hi hb hk hx' hf' hR' hgo6 k2 hgl hgc hc3 hf3 hput H4 HD hW5
    refine norm_ (a' := ?_) ?_ ?_
    rotate_left
    ·show Act.put _ (some 26) _ = _
     simp only [Act.put, List.setIfInBounds_toArray, List.set_cons_zero, List.set_cons_succ, i64_w, i32_w]
     rfl
    refine pure_ (i := 7) (N := some 27) (v := ?_) (a' := ?_) #[true, true, true, true, true, true, true, true, false] rfl rfl (by kernel_rfl) (fun _ _ _ h => h) (Or.inl ⟨by rfl, ?_⟩) ?_ ?_
    rotate_left
    ·intro w'
     go_simp
     with_reducible rfl
    rotate_left
    ·simp only [Act.put, List.setIfInBounds_toArray, List.set_cons_zero, List.set_cons_succ, i64_w, i32_w]
     rfl
    refine last_ (i := 8) (N := none) #[true, true, true, true, true, true, true, true, true] rfl rfl (by kernel_rfl) (by decide) (fun K hK => ?_)
    have r0 := HC3.out
    have f0 := HF3.out
    refine skip_ (w1 := ?_) (by rfl) rfl ?_ ?_
    rotate_left
    ·go_simp
     rfl
    refine hK.out _ _ ?_
    clear hK K r0 f0 hHeld
    refine done_ (by kernel_rfl) ?_
    have m1 : gl ≠ w.heap.size := blk_ne HGC.out H.out.ba (by decide)
    have m2 : w.heap.size ≠ gl := fun e => m1 e.symm
    have m3 : gl ≠ b := blk_ne HGC.out H.out.bb (by decide)
    have m4 : b ≠ gl := fun e => m3 e.symm
    have hy0 : (W6.setCell ⟨gl, 3, none⟩ (.int .i64 p)).cell? ⟨b, 0, none⟩ = some (.slice (some ⟨go, 0, none⟩) X.length c) := (blk_cell (blk_far (p := ⟨gl, 3, none⟩) H.out.bb m4 _) 0).trans rfl
    have hz0 : (W6.setCell ⟨gl, 3, none⟩ (.int .i64 p)).cell? ⟨w.heap.size, 0, none⟩ = some (.slice none 0 0) := (blk_cell (blk_far (p := ⟨gl, 3, none⟩) H.out.ba m2 _) 0).trans rfl
    have hzf := blk_frozen (blk_far (p := ⟨gl, 3, none⟩) H.out.ba m2 (.int .i64 p)) 0
    go_wp2
    obtain ⟨d1, d2, d3, d4, d5⟩ := L2.done (v := .slice (some ⟨go, 0, none⟩) X.length c) (H.out.st.far (p := ⟨gl, 3, none⟩) (IsS107.ne_blk H.out.st HGC.out (by decide)) (.int .i64 p)) (keep_far (p := ⟨gl, 3, none⟩) H.out.keep HGL.out (.int .i64 p)) (below_set H.out.below (Nat.le_trans H.out.hw HGL.out)) H.out.hw (blk_far (p := ⟨gl, 3, none⟩) H.out.ba m2 (.int .i64 p)) (S_cut HPUT.out) H.out.ga
    refine bodyPost_ret (results_cell_row rfl _ _ w.heap.size 29 #[.slice (some ⟨go, 0, none⟩) X.length c] (0, 0) _ rfl d1 hu29 rfl (by kernel_rfl)) rfl ?_
    exact ⟨_, rfl, d2, d3, d4, d5⟩
   ·rw [if_neg hc] at h3
    cases h3
  ·rw [if_neg t1] at h3
   have e1 : (t == 1) = false := beq_eq_false_iff_ne.mpr t1
   by_cases t2 : t = 2
   ·subst t2
    rw [if_pos rfl] at h3
    simp only [Option.some.injEq, Prod.mk.injEq] at h3
    obtain ⟨rfl, rfl, rfl⟩ := h3
    go_wp2
    obtain ⟨d1, d2, d3, d4, d5⟩ := L2.done (v := .slice none 0 0) (H.out.st.far (p := ⟨b, 0, none⟩) (IsS107.ne_blk H.out.st H.out.bb (by decide)) (.slice none 0 0)) (keep_far (p := ⟨b, 0, none⟩) H.out.keep H.out.gb (.slice none 0 0)) (below_set H.out.below (Nat.le_trans H.out.hw H.out.gb)) H.out.hw (blk_far (p := ⟨b, 0, none⟩) H.out.ba H.out.ab (.slice none 0 0)) (Kd.S_nil _ _ _ _ _) H.out.ga
    refine bodyPost_ret (results_cell_row rfl _ _ w.heap.size 29 #[.slice none 0 0] (0, 0) _ rfl d1 hu29 rfl (by kernel_rfl)) rfl ?_
    exact ⟨_, rfl, d2, d3, d4, d5⟩
   ·rw [if_neg t2] at h3
    have e2 : (t == 2) = false := beq_eq_false_iff_ne.mpr t2
    simp only [Option.some.injEq, Prod.mk.injEq] at h3
    obtain ⟨rfl, rfl, rfl⟩ := h3
    go_wp2
    obtain ⟨d1, d2, d3, d4, d5⟩ := L2.done (v := .slice A X.length c) (H.out.st) (H.out.keep) (H.out.below) H.out.hw (H.out.ba) (S_cut H.out.row) H.out.ga
    refine bodyPost_ret (results_cell_row rfl _ _ w.heap.size 29 #[.slice A X.length c] (0, 0) _ rfl d1 hu29 rfl (by kernel_rfl)) rfl ?_
    exact ⟨_, rfl, d2, d3, d4, d5⟩
theorem spec_l2DrawRight.callsC (k : Nat) (g : Nat) (s0_0 : List Int) (s0_1 : Int) (s0_2 : Int) (r1 : List (List Int)) (r2 : Int) (r3 : Int) (w0 w : World) (hI : IsS107 w0 w g s0_0 s0_1 s0_2) (hB : Below w0.heap.size w0 w) (h : spec_l2DrawRight.f k s0_0 s0_1 s0_2 = some (r1, r2, r3)) :
  Calls Try.prog 69 #[.pointer (some ⟨g, 0, none⟩)] w fun e w' => ∃ v0_ : Value, e = .returned (.agg #[v0_]) ∧ Kd.S (cutK 3 (Kd.int .i64)) 30 w' w.heap.size (fun _ => True) v0_ r1 ∧ IsS107 w0 w' g s0_0 r2 r3 ∧ Below w0.heap.size w0 w' ∧ KeepBut w w' g none :=
 (spec_l2DrawRight.calls k g s0_0 s0_1 s0_2 r1 r2 r3 w0 w hI hB h).mono fun e w' ⟨v, he, hS, h2⟩ => ⟨v, he, S_cut hS, h2⟩

/-! ### spec_MemNew: function 88 -/
def spec_MemNew.f  : Option (List Int × Int) := if 512 ≤ 35184372088832 then (some ((List.replicate 512 0), 0)) else (none)
set_option maxHeartbeats 8000000 in
set_option maxRecDepth 100000 in
theorem spec_MemNew.calls  (r1 : List Int) (r2 : Int) (w : World) (h : spec_MemNew.f  = some (r1, r2)) :
  Calls Try.prog 88 #[] w fun e w' => ∃ v0_ : Value, e = .returned (.agg #[v0_, .int .i64 r2]) ∧ Kd.R (Kd.int .i64) 3 w' w.heap.size (fun _ => True) v0_ r1 ∧ Below w.heap.size w w' := by
 have hu32 := Try.underlying32
 have HB := Aside0.mk (Below.refl w.heap.size w)
 have H : (if 512 ≤ 35184372088832 then (some ((List.replicate 512 0), 0)) else (none)) = some (r1, r2) := h
 clear h
 by_cases c1 : 512 ≤ 35184372088832
 ·rw [if_pos c1] at H
  have c1b0 := eq_true c1
  have c1b1 : decide (512 ≤ 35184372088832) = true := decide_eq_true c1
  clear c1
  obtain ⟨y329, hy329⟩ : ∃ y_ : List Int, y_ = (List.replicate 512 0) := ⟨_, rfl⟩
  replace H : (some (y329, 0)) = some (r1, r2) := by first | (rw [hy329]; with_reducible exact H) | (have H2_ := (Option.bind_some _ _).symm.trans H; rw [hy329]; with_reducible exact H2_) | (have H2_ := (Option.bind_some _ _).symm.trans H; with_reducible exact H2_) | with_reducible exact H | (rw [hy329]; exact H) | exact H
  have Ny329 := Aside0.mk hy329
  clear hy329
  simp only [Option.some.injEq, Prod.mk.injEq] at H
  obtain ⟨rfl, rfl⟩ := H
  go_enter Try.func88, Try.ntmps88
  go_wp2_with (first | ((with_reducible refine gate_dst (N := 0) rfl ?_); refine bx (N := 0) (cs := #[.slice none 0 0, .int .i64 0]) (t := 32) ?_; intro gb328 hg w2 hbox hb; have n0_ := Aside0.mk (below_step (bw HB.out) hb); have n1_ := Aside0.mk (hbox); have n2_ := Aside0.mk ((gs hg (bw HB.out))); have n3_ := Aside0.mk ((gs hg (bw HB.out))); clear HB; have HB := n0_; have BK328 := n1_; have GW328 := n2_; have GE328 := n3_; clear n0_ n1_ n2_ n3_; clear hb hbox hg) | ((with_reducible refine gate_dst (N := 1) rfl ?_); refine Kd.R_make (Kd.int .i64) _ 3 rfl (N := 1) rfl 30 _ _ rfl 512 rfl rfl Try.underlying30 (.int .i64 0) 8 info3 rfl (by decide) (by omega) 0 (ok := fun _ => True) (okp := fun _ => True) rfl (fun _ hk => hk) trivial (by omega) (by omega) (Below.refl _ _) (Nat.le_refl _) ?_; intro v330 w3 ho4 hb hg_ hnew_; clear hg_ hnew_; (first | rw [← Ny329.out] at ho4 | (simp only [Int.reduceToNat] at ho4; rw [← Ny329.out] at ho4)); have n0_ := Aside0.mk (Kd.R_lower ho4 (below_size (bw HB.out))); have n1_ := Aside0.mk (blk_below (g := gb328) (o := .cells #[.slice none 0 0, .int .i64 0] 32 (0, 0)) (kb BK328.out) hb); have n2_ := Aside0.mk (below_step (bw HB.out) hb); clear BK328; clear HB; have HO331 := n0_; have BK328 := n1_; have HB := n2_; clear n0_ n1_ n2_; clear hb ho4; obtain ⟨Ao5, co5, eo5⟩ := Kd.R_slice HO331.out; subst eo5; have hcz6_0 : w3.cell? ⟨gb328, 0, none⟩ = some (.slice none 0 0) := (blk_cell BK328.out 0).trans rfl; have hcz6_1 : w3.cell? ⟨gb328, 1, none⟩ = some (.int .i64 0) := (blk_cell BK328.out 1).trans rfl; have hfz6_0 := blk_frozen BK328.out 0; have hfz6_1 := blk_frozen BK328.out 1))
  refine bodyPost_ret (results_cell_row rfl _ _ gb328 32 #[.slice Ao5 y329.length co5, .int .i64 0] (0, 0) _ rfl (by (with_reducible repeat (first | refine blk_drewN ?_ _ | refine blk_drew ?_ | refine blk_alloc ?_ _)); refine blk_put (cs := #[.slice Ao5 y329.length co5, .int .i64 0]) ?_ 1 _ rfl; (with_reducible repeat (first | refine blk_drewN ?_ _ | refine blk_drew ?_ | refine blk_alloc ?_ _)); refine blk_put (cs := #[.slice none 0 0, .int .i64 0]) ?_ 0 _ rfl; (with_reducible repeat (first | refine blk_drewN ?_ _ | refine blk_drew ?_ | refine blk_alloc ?_ _)); exact BK328.out) Try.underlying32 rfl (by kernel_rfl)) rfl ?_
  exact ⟨_, rt, kr (Kd.R_mono (Kd.R_far (p := ⟨gb328, 1, none⟩) (Kd.R_far (p := ⟨gb328, 0, none⟩) (Kd.R_types HO331.out BK328.out (by decide)) (fun _ hk => hk.2) (.slice Ao5 y329.length co5)) (fun _ hk => hk.2) (.int .i64 0)) (fun _ hk => trivial)), bw HB.out⟩
 ·rw [if_neg c1] at H
  exact absurd H (by simp)

/-! ### spec_l1Max: function 117 -/
def spec_l1Max.f (a0 : Int) (a1 : Int) : Option (Int) := if a0 > a1 then (some a0) else (some a1)
set_option maxHeartbeats 8000000 in
set_option maxRecDepth 100000 in
theorem spec_l1Max.calls (a0 : Int) (a1 : Int) (r : Int) (w : World) (h : spec_l1Max.f a0 a1 = some r) :
  Calls Try.prog 117 #[.int .i64 a0, .int .i64 a1] w fun e w' => e = .returned (.int .i64 r) ∧ Drawn0 w w' := by
 have H : (if a0 > a1 then (some a0) else (some a1)) = some r := h
 clear h
 by_cases c3 : a0 > a1
 ·rw [if_pos c3] at H
  have c3b0 : decide (a1 < a0) = true := decide_eq_true c3
  clear c3
  obtain rfl := Option.some.inj H
  go_enter Try.func117, Try.ntmps117
  go_wp2
  go_ret
  exact ⟨by first | rfl | (simp; done) | (simp [*]; done), by repeat (first | exact Drawn0.refl _ | apply Drawn0.step)⟩
 ·rw [if_neg c3] at H
  have c3b0 : decide (a1 < a0) = false := decide_eq_false c3
  clear c3
  obtain rfl := Option.some.inj H
  go_enter Try.func117, Try.ntmps117
  go_wp2
  go_ret
  exact ⟨by first | rfl | (simp; done) | (simp [*]; done), by repeat (first | exact Drawn0.refl _ | apply Drawn0.step)⟩

/-! ### spec_l6DrawMem: function 103 -/
def spec_l6DrawMem.l0 : Nat → Int → List Int → Int → Int → List (List Int) → List Int → Int → Option (List Int × Int × Int × Int)
 | 0, _, _, _, _, _, _, _ => none
 | k + 1, x6, x1000, x1001, x1002, x333000, x339000, x339001 => if x6 < 20 then ((spec_l1PickInt.f x1000 x1001 x1002 (([0, 1, 16, 255, 256, 257, 510, 511, 258, 300] : List Int))).bind fun bt342 => ((spec_l1Below.f x1000 bt342.2.1 bt342.2.2 256).bind fun bt345 => (if 0 ≤ bt342.1 then (if bt342.1 < (x339000.length : Int) then (spec_l6DrawMem.l0 k (wrap64 (x6 + 1)) x1000 bt345.2.1 bt345.2.2 x333000 (x339000.set (bt342.1 : Int).toNat bt345.1) x339001) else (none)) else (none)))) else ((spec_l1Max.f (x333000.length : Int) 1).bind fun t349 => ((spec_l1Below.f x1000 x1001 x1002 t349).bind fun bt350 => ((spec_l1Below.f x1000 bt350.2.1 bt350.2.2 30).bind fun bt353 => (if bt353.1 = 0 then ((spec_l1PickInt.f x1000 bt353.2.1 bt353.2.2 (([(-1), 8] : List Int))).bind fun bt359 => (some (x339000, bt359.1, bt359.2.1, bt359.2.2))) else (if bt353.1 = 1 then (if 1 ≤ (x339000.length : Int) then (some ((x339000.drop (1 : Int).toNat), bt350.1, bt353.2.1, bt353.2.2)) else (none)) else (if bt353.1 = 2 then (if 256 < (x339000.length : Int) then (some ((x339000.set (256 : Int).toNat 256), bt350.1, bt353.2.1, bt353.2.2)) else (none)) else (some (x339000, bt350.1, bt353.2.1, bt353.2.2))))))))
def spec_l6DrawMem.f (k : Nat) (s0_0 : List Int) (s0_1 : Int) (s0_2 : Int) (l1_0 : List (List Int)) : Option (List Int × Int × Int × Int) := (spec_MemNew.f).bind fun bt334 => (spec_l6DrawMem.l0 k 0 s0_0 s0_1 s0_2 l1_0 bt334.1 bt334.2)
theorem spec_l6DrawMem.mono_l : ∀ k, (∀ y0 y1 y2 y3 y4 y5 y6, LeO (spec_l6DrawMem.l0 k y0 y1 y2 y3 y4 y5 y6) (spec_l6DrawMem.l0 (k + 1) y0 y1 y2 y3 y4 y5 y6))
 | 0 => fun _ _ _ _ _ _ _ r h => by simp [spec_l6DrawMem.l0] at h
 | k + 1 => by
  have ih0 := spec_l6DrawMem.mono_l k
  ·intro y0 y1 y2 y3 y4 y5 y6
   unfold spec_l6DrawMem.l0
   repeat' first
   | (with_reducible exact ih0 _ _ _ _ _ _ _)
   | (with_reducible exact LeO.refl _)
   | (with_reducible exact LeO.none _)
   | (with_reducible refine LeO.ite ?_ ?_)
   | (with_reducible refine LeO.bind ?_ (fun _ => ?_))
   | exact ih0 _ _ _ _ _ _ _
   | exact LeO.none _
   | refine LeO.ite ?_ ?_
   | refine LeO.bind ?_ (fun _ => ?_)
theorem spec_l6DrawMem.mono : ∀ a0 a1 a2 a3 k, LeO (spec_l6DrawMem.f k a0 a1 a2 a3) (spec_l6DrawMem.f (k + 1) a0 a1 a2 a3) := by
 intro a0 a1 a2 a3 k
 have ih0 := spec_l6DrawMem.mono_l k
 unfold spec_l6DrawMem.f
 repeat' first
   | (with_reducible exact ih0 _ _ _ _ _ _ _)
   | (with_reducible exact LeO.refl _)
   | (with_reducible exact LeO.none _)
   | (with_reducible refine LeO.ite ?_ ?_)
   | (with_reducible refine LeO.bind ?_ (fun _ => ?_))
   | exact ih0 _ _ _ _ _ _ _
   | exact LeO.none _
   | refine LeO.ite ?_ ?_
   | refine LeO.bind ?_ (fun _ => ?_)
def spec_l6DrawMem.T5 : Bool × List (List Nat × List Nat) := (true, [([], []), ([0], [0]), ([], []), ([], []), ([2, 3], [2, 3]), ([], []), ([5, 4], [5]), ([1, 4, 0, 1, 2, 3, 4, 5, 6], [1, 4]), ([7, 6, 6, 0, 1, 2, 3, 4, 5, 6], [6, 7])])
def spec_l6DrawMem.B5 : List Nat := [0, 1, 0, 0, 12, 0, 60, 127, 255]
theorem spec_l6DrawMem.tab5 : rtab .any (opsOf Try.f103 5) = spec_l6DrawMem.T5 := by kernel_rfl
theorem spec_l6DrawMem.bits5 : waitsOk spec_l6DrawMem.T5.2 spec_l6DrawMem.B5 = true := by kernel_rfl
set_option maxHeartbeats 8000000 in
set_option maxRecDepth 100000 in
theorem spec_l6DrawMem.calls (k : Nat) (g : Nat) (s0_0 : List Int) (s0_1 : Int) (s0_2 : Int) (A1_0 : Option Addr) (c1_0 : Nat) (l1_0 : List (List Int)) (r1 : List Int) (r2 : Int) (r3 : Int) (r4 : Int) (w0 w : World) (hI : IsS107 w0 w g s0_0 s0_1 s0_2) (hB : Below w0.heap.size w0 w) (hr1_0 : ∀ W_, KeepBut w W_ g none → Kd.C (Kd.slice 3 (Kd.int .i64)) W_ A1_0 l1_0.length l1_0) (hc1_0 : l1_0.length ≤ c1_0) (h : spec_l6DrawMem.f k s0_0 s0_1 s0_2 l1_0 = some (r1, r2, r3, r4)) :
  Calls Try.prog 103 #[.pointer (some ⟨g, 0, none⟩), .agg #[.slice A1_0 l1_0.length c1_0]] w fun e w' => ∃ v0_ : Value, e = .returned (.agg #[v0_, .int .i64 r2]) ∧ Kd.Q (Kd.int .i64) 3 w' w.heap.size (fun _ => True) v0_ r1 ∧ IsS107 w0 w' g s0_0 r3 r4 ∧ Below w0.heap.size w0 w' ∧ KeepBut w w' g none := by
 have hu29 := Try.underlying29
 have hu32 := Try.underlying32
 have HR1_0 := Aside0.mk hr1_0
 have HC1_0 := Aside0.mk hc1_0
 clear hr1_0 hc1_0
 have HI0 := Aside0.mk hI
 have HK := Aside0.mk (KeepBut.refl w g none)
 have HL := Aside0.mk hB.size
 clear hI
 have HW0 := Aside0.mk hB.size
 have HB := Aside0.mk hB
 clear hB
 have H : ((spec_MemNew.f).bind fun bt334 => (spec_l6DrawMem.l0 k 0 s0_0 s0_1 s0_2 l1_0 bt334.1 bt334.2)) = some (r1, r2, r3, r4) := h
 clear h
 replace H := Option.bind_eq_some_iff.mp H
 obtain ⟨⟨t334, t337⟩, A30, H⟩ := H
 replace H : (spec_l6DrawMem.l0 k 0 s0_0 s0_1 s0_2 l1_0 t334 t337) = some (r1, r2, r3, r4) := H
 have A3 := Aside0.mk A30
 clear A30
 have H' := Aside0.mk H
 clear H
 go_enter Try.func103, Try.ntmps103
 go_wp2_with (first | ((with_reducible refine gate_dst (N := 3) rfl ?_); refine bx (N := 3) (cs := #[.slice A1_0 l1_0.length c1_0]) (t := 29) ?_; intro gb332 hg w4 hbox hb; have n0_ := Aside0.mk (IsS107.below (si HI0.out) hb); have n1_ := Aside0.mk (KeepBut.trans (kp HK.out) (KeepBut.of_below hb g none) (.inl rfl)); have n2_ := Aside0.mk (below_step (bi HB.out) hb); have n3_ := Aside0.mk (hbox); have n4_ := Aside0.mk ((by rw [hg]; exact (keep_size (w := w) (g := g) (row := none) (kp HK.out)) : w.heap.size ≤ gb332)); have n5_ := Aside0.mk ((Nat.le_trans HW0.out (by rw [hg]; exact (keep_size (w := w) (g := g) (row := none) (kp HK.out)) : w.heap.size ≤ gb332) : w0.heap.size ≤ gb332)); have n6_ := Aside0.mk ((by rw [hg]; exact Nat.ne_of_lt (IsS107.lt (show IsS107 w0 _ g s0_0 s0_1 s0_2 from si HI0.out)) : g ≠ gb332)); have n7_ := Aside0.mk ((by rw [hg]; exact Nat.ne_of_gt (IsS107.lt (show IsS107 w0 _ g s0_0 s0_1 s0_2 from si HI0.out)) : gb332 ≠ g)); clear HI0; clear HK; clear HB; have HI0 := n0_; have HK := n1_; have HB := n2_; have BK332 := n3_; have GW332 := n4_; have GE332 := n5_; have NB0_332 := n6_; have NB332_0 := n7_; clear n0_ n1_ n2_ n3_ n4_ n5_ n6_ n7_; clear hb hbox hg) | ((with_reducible refine gate_dst (N := 4) rfl ?_); refine bx (N := 4) (cs := #[.slice none 0 0, .int .i64 0]) (t := 32) ?_; intro gb333 hg w5 hbox hb; have n0_ := Aside0.mk (IsS107.below (si HI0.out) hb); have n1_ := Aside0.mk (blk_below (g := gb332) (o := .cells #[.slice A1_0 l1_0.length c1_0] 29 (0, 0)) (kb BK332.out) hb); have n2_ := Aside0.mk (KeepBut.trans (kp HK.out) (KeepBut.of_below hb g none) (.inl rfl)); have n3_ := Aside0.mk (below_step (bi HB.out) hb); have n4_ := Aside0.mk (hbox); have n5_ := Aside0.mk ((by rw [hg]; exact (keep_size (w := w) (g := g) (row := none) (kp HK.out)) : w.heap.size ≤ gb333)); have n6_ := Aside0.mk ((Nat.le_trans HW0.out (by rw [hg]; exact (keep_size (w := w) (g := g) (row := none) (kp HK.out)) : w.heap.size ≤ gb333) : w0.heap.size ≤ gb333)); have n7_ := Aside0.mk ((ga hg BK332.out)); have n8_ := Aside0.mk ((gc hg BK332.out)); have n9_ := Aside0.mk ((by rw [hg]; exact Nat.ne_of_lt (IsS107.lt (show IsS107 w0 _ g s0_0 s0_1 s0_2 from si HI0.out)) : g ≠ gb333)); have n10_ := Aside0.mk ((by rw [hg]; exact Nat.ne_of_gt (IsS107.lt (show IsS107 w0 _ g s0_0 s0_1 s0_2 from si HI0.out)) : gb333 ≠ g)); clear HI0; clear BK332; clear HK; clear HB; have HI0 := n0_; have BK332 := n1_; have HK := n2_; have HB := n3_; have BK333 := n4_; have GW333 := n5_; have GE333 := n6_; have NB332_333 := n7_; have NB333_332 := n8_; have NB0_333 := n9_; have NB333_0 := n10_; clear n0_ n1_ n2_ n3_ n4_ n5_ n6_ n7_ n8_ n9_ n10_; clear hb hbox hg) | ((with_reducible refine gate_callee (f := 88) rfl ?_); refine goesM_ (some 7) rfl rfl Try.func88 #[] ?_; (with_reducible refine (spec_MemNew.calls  t334 t337 _ A3.out).mono ?_); rintro e w6 ⟨v335, rfl, ho0, hb⟩; refine ⟨_, rfl, ?_⟩; have n0_ := Aside0.mk (Kd.R_lower ho0 (keep_size (w := w) (g := g) (row := none) (kp HK.out))); have n1_ := Aside0.mk (IsS107.below (si HI0.out) hb); have n2_ := Aside0.mk (blk_below (g := gb332) (o := .cells #[.slice A1_0 l1_0.length c1_0] 29 (0, 0)) (kb BK332.out) hb); have n3_ := Aside0.mk (blk_below (g := gb333) (o := .cells #[.slice none 0 0, .int .i64 0] 32 (0, 0)) (kb BK333.out) hb); have n4_ := Aside0.mk (KeepBut.trans (kp HK.out) (KeepBut.of_below hb g none) (.inl rfl)); have n5_ := Aside0.mk (below_step (bi HB.out) hb); clear HI0; clear BK332; clear BK333; clear HK; clear HB; have HO336 := n0_; have HI0 := n1_; have BK332 := n2_; have BK333 := n3_; have HK := n4_; have HB := n5_; clear n0_ n1_ n2_ n3_ n4_ n5_; (try clear hb); (try clear hb2); (try clear hk); (try clear hi); (try clear ho0)) | ((with_reducible refine gate_dst (N := 5) rfl ?_); refine bx (N := 5) (cs := #[.slice none 0 0, .int .i64 0]) (t := 32) ?_; intro gb338 hg w7 hbox hb; have n0_ := Aside0.mk (Kd.R_below (kr HO336.out) hb); have n1_ := Aside0.mk (IsS107.below (si HI0.out) hb); have n2_ := Aside0.mk (blk_below (g := gb332) (o := .cells #[.slice A1_0 l1_0.length c1_0] 29 (0, 0)) (kb BK332.out) hb); have n3_ := Aside0.mk (blk_below (g := gb333) (o := .cells #[.slice none 0 0, .int .i64 0] 32 (0, 0)) (kb BK333.out) hb); have n4_ := Aside0.mk (KeepBut.trans (kp HK.out) (KeepBut.of_below hb g none) (.inl rfl)); have n5_ := Aside0.mk (below_step (bi HB.out) hb); have n6_ := Aside0.mk (hbox); have n7_ := Aside0.mk ((by rw [hg]; exact (keep_size (w := w) (g := g) (row := none) (kp HK.out)) : w.heap.size ≤ gb338)); have n8_ := Aside0.mk ((Nat.le_trans HW0.out (by rw [hg]; exact (keep_size (w := w) (g := g) (row := none) (kp HK.out)) : w.heap.size ≤ gb338) : w0.heap.size ≤ gb338)); have n9_ := Aside0.mk ((ga hg BK332.out)); have n10_ := Aside0.mk ((gc hg BK332.out)); have n11_ := Aside0.mk ((ga hg BK333.out)); have n12_ := Aside0.mk ((gc hg BK333.out)); have n13_ := Aside0.mk ((by rw [hg]; exact Nat.ne_of_lt (IsS107.lt (show IsS107 w0 _ g s0_0 s0_1 s0_2 from si HI0.out)) : g ≠ gb338)); have n14_ := Aside0.mk ((by rw [hg]; exact Nat.ne_of_gt (IsS107.lt (show IsS107 w0 _ g s0_0 s0_1 s0_2 from si HI0.out)) : gb338 ≠ g)); clear HO336; clear HI0; clear BK332; clear BK333; clear HK; clear HB; have HO336 := n0_; have HI0 := n1_; have BK332 := n2_; have BK333 := n3_; have HK := n4_; have HB := n5_; have BK338 := n6_; have GW338 := n7_; have GE338 := n8_; have NB332_338 := n9_; have NB338_332 := n10_; have NB333_338 := n11_; have NB338_333 := n12_; have NB0_338 := n13_; have NB338_0 := n14_; clear n0_ n1_ n2_ n3_ n4_ n5_ n6_ n7_ n8_ n9_ n10_ n11_ n12_ n13_ n14_; clear hb hbox hg; obtain ⟨Ao8, co8, eo8⟩ := Kd.R_slice HO336.out; subst eo8; have hnb9 := NB338_332.out; have hnc9 := NB332_338.out; have hnb10 := NB338_333.out; have hnc10 := NB333_338.out; have hnb11 := NB338_0.out; have hnc11 := NB0_338.out; have hcz12_0 : w7.cell? ⟨gb338, 0, none⟩ = some (.slice none 0 0) := (blk_cell BK338.out 0).trans rfl; have hcz12_1 : w7.cell? ⟨gb338, 1, none⟩ = some (.int .i64 0) := (blk_cell BK338.out 1).trans rfl; have hfz12_0 := blk_frozen BK338.out 0; have hfz12_1 := blk_frozen BK338.out 1))
 go_loopg [6] k (fun kq v6 w' => ∃ (x6_1 : Int) (x1001_1 : Int) (x1002_1 : Int) (x339000_1 : List Int) (u339000 : Value), v6 = .int .i64 x6_1 ∧ Aside0 (spec_l6DrawMem.l0 kq x6_1 s0_0 x1001_1 x1002_1 l1_0 x339000_1 t337 = some (r1, r2, r3, r4)) ∧ Aside0 (kq ≤ k) ∧ Aside0 (Kd.Q (Kd.int .i64) 3 w' w.heap.size (fun _ => True) u339000 x339000_1) ∧ Aside0 (w'.heap[gb332]? = some (.cells #[(.slice A1_0 l1_0.length c1_0)] 29 (0, 0))) ∧ Aside0 (w'.heap[gb333]? = some (.cells #[(.slice none 0 0), .int .i64 0] 32 (0, 0))) ∧ Aside0 (w'.heap[gb338]? = some (.cells #[u339000, .int .i64 t337] 32 (0, 0))) ∧ Aside0 (IsS107 w0 w' g s0_0 x1001_1 x1002_1) ∧ Aside0 (KeepBut w w' g none) ∧ Aside0 (Below w0.heap.size w0 w'))
 case atStart => exact ⟨(0), (s0_1), (s0_2), (t334), (.slice Ao8 t334.length co8), (by first | rfl | (simp; done) | (simp [*]; done)), H', ⟨Nat.le_refl _⟩, ⟨Kd.Q_of_R (kr (Kd.R_mono (Kd.R_far (p := ⟨gb338, 1, none⟩) (Kd.R_far (p := ⟨gb338, 0, none⟩) (Kd.R_types HO336.out BK338.out (by decide)) (fun _ hk => hk.2) (.slice Ao8 t334.length co8)) (fun _ hk => hk.2) (.int .i64 t337)) (fun _ hk => trivial)))⟩, ⟨kf BK332.out⟩, ⟨kf BK333.out⟩, ⟨by (with_reducible repeat (first | refine blk_drewN ?_ _ | refine blk_drew ?_ | refine blk_alloc ?_ _)); refine blk_put (cs := #[.slice Ao8 t334.length co8, .int .i64 0]) ?_ 1 _ rfl; (with_reducible repeat (first | refine blk_drewN ?_ _ | refine blk_drew ?_ | refine blk_alloc ?_ _)); refine blk_put (cs := #[.slice none 0 0, .int .i64 0]) ?_ 0 _ rfl; (with_reducible repeat (first | refine blk_drewN ?_ _ | refine blk_drew ?_ | refine blk_alloc ?_ _)); exact BK338.out⟩, ⟨si HI0.out⟩, ⟨kp HK.out⟩, ⟨bi HB.out⟩⟩
 case round =>
  clear H'
  (try clear c1); (try clear p2); (try clear c8); (try clear c9); (try clear c10); (try clear c11); (try clear hcz12_0); (try clear hcz12_1); (try clear hfz12_0); (try clear hfz12_1)
  obtain ⟨x6_1, x1001_1, x1002_1, x339000_1, u339000, rfl, HA, HK1, HO_339000, BK332, BK333, BK338, HI0, HK, HB⟩ := hrel
  cases gk with
  | zero => exact absurd HA.out (by simp [spec_l6DrawMem.l0])
  | succ k1 =>
   have H := HA.out
   clear HA
   simp only [spec_l6DrawMem.l0] at H
   by_cases c13 : x6_1 < 20
   ·rw [if_pos c13] at H
    have c13b0 : decide (x6_1 < 20) = true := decide_eq_true c13
    clear c13
    obtain ⟨y339, hy339⟩ : ∃ y_ : List Int, y_ = (([0, 1, 16, 255, 256, 257, 510, 511, 258, 300] : List Int)) := ⟨_, rfl⟩
    replace H : ((spec_l1PickInt.f s0_0 x1001_1 x1002_1 y339).bind fun bt342 => ((spec_l1Below.f s0_0 bt342.2.1 bt342.2.2 256).bind fun bt345 => (if 0 ≤ bt342.1 then (if bt342.1 < (x339000_1.length : Int) then (spec_l6DrawMem.l0 k1 (wrap64 (x6_1 + 1)) s0_0 bt345.2.1 bt345.2.2 l1_0 (x339000_1.set (bt342.1 : Int).toNat bt345.1) t337) else (none)) else (none)))) = some (r1, r2, r3, r4) := by first | (rw [hy339]; with_reducible exact H) | (have H2_ := (Option.bind_some _ _).symm.trans H; rw [hy339]; with_reducible exact H2_) | (have H2_ := (Option.bind_some _ _).symm.trans H; with_reducible exact H2_) | with_reducible exact H | (rw [hy339]; exact H) | exact H
    have Ny339 := Aside0.mk hy339
    clear hy339
    replace H := Option.bind_eq_some_iff.mp H
    obtain ⟨⟨t342, t343, t344⟩, A140, H⟩ := H
    replace H : ((spec_l1Below.f s0_0 t343 t344 256).bind fun bt345 => (if 0 ≤ t342 then (if t342 < (x339000_1.length : Int) then (spec_l6DrawMem.l0 k1 (wrap64 (x6_1 + 1)) s0_0 bt345.2.1 bt345.2.2 l1_0 (x339000_1.set (t342 : Int).toNat bt345.1) t337) else (none)) else (none))) = some (r1, r2, r3, r4) := H
    have A14 := Aside0.mk A140
    clear A140
    replace H := Option.bind_eq_some_iff.mp H
    obtain ⟨⟨t345, t346, t347⟩, A150, H⟩ := H
    replace H : (if 0 ≤ t342 then (if t342 < (x339000_1.length : Int) then (spec_l6DrawMem.l0 k1 (wrap64 (x6_1 + 1)) s0_0 t346 t347 l1_0 (x339000_1.set (t342 : Int).toNat t345) t337) else (none)) else (none)) = some (r1, r2, r3, r4) := H
    have A15 := Aside0.mk A150
    clear A150
    by_cases c16 : 0 ≤ t342
    ·rw [if_pos c16] at H
     have c16b0 : decide (0 ≤ t342) = true := decide_eq_true c16
     clear c16
     by_cases c17 : t342 < (x339000_1.length : Int)
     ·rw [if_pos c17] at H
      have c17b0 : decide (t342 < (x339000_1.length : Int)) = true := decide_eq_true c17
      clear c17
      obtain ⟨y348, hy348⟩ : ∃ y_ : List Int, y_ = (x339000_1.set (t342 : Int).toNat t345) := ⟨_, rfl⟩
      replace H : (spec_l6DrawMem.l0 k1 (wrap64 (x6_1 + 1)) s0_0 t346 t347 l1_0 y348 t337) = some (r1, r2, r3, r4) := by first | (rw [hy348]; with_reducible exact H) | (have H2_ := (Option.bind_some _ _).symm.trans H; rw [hy348]; with_reducible exact H2_) | (have H2_ := (Option.bind_some _ _).symm.trans H; with_reducible exact H2_) | with_reducible exact H | (rw [hy348]; exact H) | exact H
      have Ny348 := Aside0.mk hy348
      clear hy348
      have H' := Aside0.mk H
      clear H
      try go_wp2
      have n0_ := Aside0.mk (Kd.Q_drew HO_339000.out)
      have n1_ := Aside0.mk (blk_drew BK332.out)
      have n2_ := Aside0.mk (blk_drew BK333.out)
      have n3_ := Aside0.mk (blk_drew BK338.out)
      have n4_ := Aside0.mk (IsS107.drew HI0.out)
      have n5_ := Aside0.mk (keep_drew HK.out)
      have n6_ := Aside0.mk (below_drew1 HB.out)
      clear HO_339000; clear BK332; clear BK333; clear BK338; clear HI0; clear HK; clear HB; have HO_339000 := n0_; have BK332 := n1_; have BK333 := n2_; have BK338 := n3_; have HI0 := n4_; have HK := n5_; have HB := n6_; clear n0_ n1_ n2_ n3_ n4_ n5_ n6_
      refine start_ (n := 9) (S := fun w' => w'.cell? ⟨gb338, 0, none⟩ = some (u339000) ∧ w'.cell? ⟨gb338, 1, none⟩ = some (.int .i64 t337)) (ds := [8]) #[false, false, false, false, false, false, false, false, false] (by kernel_rfl) rfl rfl ⟨(blk_cell BK338.out 0).trans rfl, (blk_cell BK338.out 1).trans rfl⟩ (fun hHeld => ?_); refine with_tabW spec_l6DrawMem.tab5 spec_l6DrawMem.bits5 (fun HT_ HW_ => ?_)
      generalize wr.drew = w19 at HO_339000 BK332 BK333 BK338 HI0 HK HB hHeld ⊢
      refine pure_ (i := 0) (N := some 12) (v := ?_) (a' := ?_) #[true, false, false, false, false, false, false, false, false] rfl rfl (any_of HT_.out (by kernel_rfl)) (fun _ _ _ h => h) (Or.inl ⟨by rfl, ?_⟩) ?_ ?_
      rotate_left
      ·intro w'
       go_simp
       with_reducible rfl
      rotate_left
      ·simp only [Act.put, List.setIfInBounds_toArray, List.set_cons_zero, List.set_cons_succ, i64_w, i32_w]
       rfl
      refine pure_ (i := 2) (N := some 14) (v := ?_) (a' := ?_) #[true, false, true, false, false, false, false, false, false] rfl rfl (any_of HT_.out (by kernel_rfl)) (fun _ _ _ h => h) (Or.inl ⟨by rfl, ?_⟩) ?_ ?_
      rotate_left
      ·intro w'
       go_simp
       with_reducible rfl
      rotate_left
      ·simp only [Act.put, List.setIfInBounds_toArray, List.set_cons_zero, List.set_cons_succ, i64_w, i32_w]
       rfl
      refine pure_ (i := 5) (N := some 17) (v := ?_) (a' := ?_) #[true, false, true, false, false, true, false, false, false] rfl rfl (any_of HT_.out (by kernel_rfl)) (fun _ _ _ h => h) (Or.inl ⟨by rfl, ?_⟩) ?_ ?_
      rotate_left
      ·intro w'
       go_simp
       with_reducible rfl
      rotate_left
      ·simp only [Act.put, List.setIfInBounds_toArray, List.set_cons_zero, List.set_cons_succ, i64_w, i32_w]
       rfl
      refine take_ (i := 1) (N := some 13) (v := ?_) (a' := ?_) #[true, true, true, false, false, true, false, false, false] rfl rfl (take_ofW HT_.out HW_.out (by kernel_rfl)) (fun _ _ _ h => h) (Or.inl ⟨by rfl, ?_⟩) hHeld ?_ ?_
      rotate_left
      ·rintro w' ⟨s0, s1⟩
       go_simp
       with_reducible rfl
      rotate_left
      ·simp only [Act.put, List.setIfInBounds_toArray, List.set_cons_zero, List.set_cons_succ, i64_w, i32_w]
       rfl
      refine one_ (i := 3) (N := some 15) #[true, true, true, true, false, true, false, false, false] rfl rfl (one_of HT_.out (by kernel_rfl)) (by decide) (fun K hK => ?_)
      refine Kd.R_lit_step (Kd.int .i64) _ 3 ?hg (N := 15) ?hd (xs := ([0, 1, 16, 255, 256, 257, 510, 511, 258, 300] : List Int)) (inner := [.int .i64 0, .int .i64 1, .int .i64 16, .int .i64 255, .int .i64 256, .int .i64 257, .int .i64 510, .int .i64 511, .int .i64 258, .int .i64 300]) (ok := fun _ => True) (okp := fun _ => True) ?hr ?hp (fun _ hk => hk) trivial (Below.refl _ _) (Nat.le_refl _) (by simp) ?_; (case hd => rfl); (case hg => rfl); (case hr => first | (go_simp; done) | (go_simp; rfl)); (case hp => exact (Reps.one (show Kd.M (Kd.int .i64) _ _ _ 0 [.int .i64 0] from rfl) (Reps.one (show Kd.M (Kd.int .i64) _ _ _ 1 [.int .i64 1] from rfl) (Reps.one (show Kd.M (Kd.int .i64) _ _ _ 16 [.int .i64 16] from rfl) (Reps.one (show Kd.M (Kd.int .i64) _ _ _ 255 [.int .i64 255] from rfl) (Reps.one (show Kd.M (Kd.int .i64) _ _ _ 256 [.int .i64 256] from rfl) (Reps.one (show Kd.M (Kd.int .i64) _ _ _ 257 [.int .i64 257] from rfl) (Reps.one (show Kd.M (Kd.int .i64) _ _ _ 510 [.int .i64 510] from rfl) (Reps.one (show Kd.M (Kd.int .i64) _ _ _ 511 [.int .i64 511] from rfl) (Reps.one (show Kd.M (Kd.int .i64) _ _ _ 258 [.int .i64 258] from rfl) (Reps.one (show Kd.M (Kd.int .i64) _ _ _ 300 [.int .i64 300] from rfl) (Reps.none _ _))))))))))))
      intro v340 w20 ho21 hb hg_ hnew_
      clear hg_ hnew_
      (first | rw [← Ny339.out] at ho21 | (simp only [Int.reduceToNat] at ho21; rw [← Ny339.out] at ho21))
      have n0_ := Aside0.mk (Kd.Q_elder' (kq HO_339000.out) (Kd.R_base ho21) hb)
      have n1_ := Aside0.mk (Kd.R_lower (Kd.R_new' ho21 (Kd.Q_lt (kq HO_339000.out))) (keep_size (w := w) (g := g) (row := none) (kp HK.out)))
      have n2_ := Aside0.mk (blk_below (g := gb332) (o := .cells #[.slice A1_0 l1_0.length c1_0] 29 (0, 0)) (kb BK332.out) hb)
      have n3_ := Aside0.mk (blk_below (g := gb333) (o := .cells #[.slice none 0 0, .int .i64 0] 32 (0, 0)) (kb BK333.out) hb)
      have n4_ := Aside0.mk (blk_below (g := gb338) (o := .cells #[u339000, .int .i64 t337] 32 (0, 0)) (kb BK338.out) hb)
      have n5_ := Aside0.mk (IsS107.below (si HI0.out) hb)
      have n6_ := Aside0.mk (KeepBut.trans (kp HK.out) (KeepBut.of_below hb g none) (.inl rfl))
      have n7_ := Aside0.mk (below_step (bi HB.out) hb)
      clear HO_339000; clear BK332; clear BK333; clear BK338; clear HI0; clear HK; clear HB; have HO_339000 := n0_; have HO341 := n1_; have BK332 := n2_; have BK333 := n3_; have BK338 := n4_; have HI0 := n5_; have HK := n6_; have HB := n7_; clear n0_ n1_ n2_ n3_ n4_ n5_ n6_ n7_; clear hb ho21
      obtain ⟨Ao22, co22, eo22⟩ := Kd.R_slice HO341.out
      (first | subst eo22 | (injection eo22 with f1_ f2_ f3_; have f4_ := f1_.symm; have f5_ := f3_.symm; clear f1_ f2_ f3_; subst f4_; subst f5_))
      refine hK.out _ _ ⟨(blk_cell BK338.out 0).trans rfl, (blk_cell BK338.out 1).trans rfl⟩ (fun hHeld => ?_)
      clear hK K
      refine norm_ (a' := ?_) ?_ ?_
      rotate_left
      ·show Act.put _ (some 15) _ = _
       simp only [Act.put, List.setIfInBounds_toArray, List.set_cons_zero, List.set_cons_succ, i64_w, i32_w]
       rfl
      refine one_ (i := 4) (N := some 16) #[true, true, true, true, true, true, false, false, false] rfl rfl (one_of HT_.out (by kernel_rfl)) (by decide) (fun K hK => ?_)
      refine goes_ Try.func70 (by kernel_rfl) rfl #[.pointer (some ⟨g, 0, none⟩), .slice Ao22 y339.length co22] (by rfl) rfl rfl (by (try simp only [List.map_toArray, List.map_cons, List.map_nil]); first | done | rfl | (simp only [List.length_drop, List.length_take]; rfl)) ?_
      with_reducible refine (spec_l1PickInt.calls g s0_0 x1001_1 x1002_1 _ _ y339 t342 t343 t344 w0 _ ?side1 ?side2 ?side3 ?side4 ?side5 A14.out).mono ?_
      (case side1 => exact si HI0.out)
      (case side2 => exact bi HB.out)
      (case side3 => repeat (first | exact (Kd.R_reads' HO341.out).2.2 | (with_reducible refine Kd.C_alloc ?_ _) | (with_reducible refine Kd.C_drewN ?_ _) | (with_reducible refine Kd.C_drew ?_)))
      (case side4 => exact (Kd.R_reads' HO341.out).2.1)
      (case side5 => exact far_slice (IsS107.own_ne HI0.out HO341.out (by decide)))
      rintro e w23 ⟨rfl, hi, hb, hk⟩
      refine ⟨_, rfl, ?_⟩
      have n0_ := Aside0.mk (Kd.Q_mono (Kd.Q_keep (IsS107.apartQ (show IsS107 w0 _ g s0_0 x1001_1 x1002_1 from si HI0.out) (kq HO_339000.out) (by decide)) hk (fun _ h => h.2)) (fun _ h => h.1))
      have n1_ := Aside0.mk (KeepBut.blk hk (g' := gb332) (o := .cells #[.slice A1_0 l1_0.length c1_0] 29 (0, 0)) (kb BK332.out) NB332_0.out (by simp))
      have n2_ := Aside0.mk (KeepBut.blk hk (g' := gb333) (o := .cells #[.slice none 0 0, .int .i64 0] 32 (0, 0)) (kb BK333.out) NB333_0.out (by simp))
      have n3_ := Aside0.mk (KeepBut.blk hk (g' := gb338) (o := .cells #[u339000, .int .i64 t337] 32 (0, 0)) (kb BK338.out) NB338_0.out (by simp))
      have n4_ := Aside0.mk (Kd.R_mono (Kd.R_keep (IsS107.apart (show IsS107 w0 _ g s0_0 x1001_1 x1002_1 from si HI0.out) (kr HO341.out) (by decide)) hk (fun _ h => h.2)) (fun _ h => h.1))
      have n5_ := Aside0.mk (KeepBut.trans (kp HK.out) hk (.inl rfl))
      have n6_ := Aside0.mk (hb)
      have n7_ := Aside0.mk (hi)
      clear HO_339000; clear BK332; clear BK333; clear BK338; clear HO341; clear HK; clear HB; clear HI0; have HO_339000 := n0_; have BK332 := n1_; have BK333 := n2_; have BK338 := n3_; have HO341 := n4_; have HK := n5_; have HB := n6_; have HI0 := n7_; clear n0_ n1_ n2_ n3_ n4_ n5_ n6_ n7_; (try clear hb); (try clear hb2); (try clear hk); (try clear hi)
      refine hK.out _ _ ⟨(blk_cell BK338.out 0).trans rfl, (blk_cell BK338.out 1).trans rfl⟩ (fun hHeld => ?_)
      clear hK K
      refine norm_ (a' := ?_) ?_ ?_
      rotate_left
      ·show Act.put _ (some 16) _ = _
       simp only [Act.put, List.setIfInBounds_toArray, List.set_cons_zero, List.set_cons_succ, i64_w, i32_w]
       rfl
      refine one_ (i := 6) (N := some 18) #[true, true, true, true, true, true, true, false, false] rfl rfl (one_of HT_.out (by kernel_rfl)) (by decide) (fun K hK => ?_)
      refine goes_ Try.func60 (by kernel_rfl) rfl #[.pointer (some ⟨g, 0, none⟩), .int .i64 256] (by rfl) rfl rfl (by (try simp only [List.map_toArray, List.map_cons, List.map_nil]); first | done | rfl | (simp only [List.length_drop, List.length_take]; rfl)) ?_
      with_reducible refine (spec_l1Below.calls g s0_0 t343 t344 256 t345 t346 t347 w0 _ ?side1 ?side2 A15.out).mono ?_
      (case side1 => exact si HI0.out)
      (case side2 => exact bi HB.out)
      rintro e w24 ⟨rfl, hi, hb, hk⟩
      refine ⟨_, rfl, ?_⟩
      have n0_ := Aside0.mk (Kd.Q_mono (Kd.Q_keep (IsS107.apartQ (show IsS107 w0 _ g s0_0 t343 t344 from si HI0.out) (kq HO_339000.out) (by decide)) hk (fun _ h => h.2)) (fun _ h => h.1))
      have n1_ := Aside0.mk (KeepBut.blk hk (g' := gb332) (o := .cells #[.slice A1_0 l1_0.length c1_0] 29 (0, 0)) (kb BK332.out) NB332_0.out (by simp))
      have n2_ := Aside0.mk (KeepBut.blk hk (g' := gb333) (o := .cells #[.slice none 0 0, .int .i64 0] 32 (0, 0)) (kb BK333.out) NB333_0.out (by simp))
      have n3_ := Aside0.mk (KeepBut.blk hk (g' := gb338) (o := .cells #[u339000, .int .i64 t337] 32 (0, 0)) (kb BK338.out) NB338_0.out (by simp))
      have n4_ := Aside0.mk (Kd.R_mono (Kd.R_keep (IsS107.apart (show IsS107 w0 _ g s0_0 t343 t344 from si HI0.out) (kr HO341.out) (by decide)) hk (fun _ h => h.2)) (fun _ h => h.1))
      have n5_ := Aside0.mk (KeepBut.trans (kp HK.out) hk (.inl rfl))
      have n6_ := Aside0.mk (hb)
      have n7_ := Aside0.mk (hi)
      clear HO_339000; clear BK332; clear BK333; clear BK338; clear HO341; clear HK; clear HB; clear HI0; have HO_339000 := n0_; have BK332 := n1_; have BK333 := n2_; have BK338 := n3_; have HO341 := n4_; have HK := n5_; have HB := n6_; have HI0 := n7_; clear n0_ n1_ n2_ n3_ n4_ n5_ n6_ n7_; (try clear hb); (try clear hb2); (try clear hk); (try clear hi)
      have p18 : 0 ≤ (t342 : Int) := dt
      have q18 : (t342 : Int) < ((x339000_1.length : Int) : Int) := dt
      obtain ⟨go18, oo18, co18, eo18, gb18, gl18, cl18, HG18⟩ := Kd.Q_form HO_339000.out (by omega)
      (first | cases eo18 | (injection eo18 with ea_ en_ ec_; (first | subst ea_ | (injection ea_ with ea_; subst ea_)); subst ec_; clear en_))
      have GB18 := Aside0.mk gb18
      have GG18 := Aside0.mk HG18
      clear gb18 gl18 HG18
      obtain ⟨hx18_0, hf18_0⟩ := Kd.Q_cell 0 HO_339000.out (t342 : Int) p18 q18
      replace p18 := eq_true p18
      replace q18 := eq_true q18
      have HN0_go18 := Aside0.mk (show g ≠ go18 from by have h_ := IsS107.own_neQ HI0.out HO_339000.out (by decide); intro e_; exact h_ (by rw [e_]; rfl))
      have HP25 := (Kd.Q_putg HO_339000.out (t342 : Int) dt (by have h_ : (t342 : Int) < ((x339000_1.length : Int) : Int) := dt; first | exact h_ | (have e_ := (Kd.Q_reads' HO_339000.out).1; omega) | simpa using h_) t345).1
      rw [← Ny348.out] at HP25
      have HQ25 := Aside0.mk HP25
      clear HP25
      refine hK.out _ _ ⟨(blk_cell BK338.out 0).trans rfl, (blk_cell BK338.out 1).trans rfl⟩ (fun hHeld => ?_)
      clear hK K
      refine norm_ (a' := ?_) ?_ ?_
      rotate_left
      ·show Act.put _ (some 18) _ = _
       simp only [Act.put, List.setIfInBounds_toArray, List.set_cons_zero, List.set_cons_succ, i64_w, i32_w]
       rfl
      refine pure_ (i := 7) (N := some 19) (v := ?_) (a' := ?_) #[true, true, true, true, true, true, true, true, false] rfl rfl (any_of HT_.out (by kernel_rfl)) (fun _ _ _ h => h) (Or.inl ⟨by rfl, ?_⟩) ?_ ?_
      rotate_left
      ·intro w'
       go_simp
       with_reducible rfl
      rotate_left
      ·simp only [Act.put, List.setIfInBounds_toArray, List.set_cons_zero, List.set_cons_succ, i64_w, i32_w]
       rfl
      refine last_ (i := 8) (N := none) #[true, true, true, true, true, true, true, true, true] rfl rfl (one_of HT_.out (by kernel_rfl)) (by decide) (fun K hK => ?_)
      refine skip_ (w1 := ?_) (by rfl) rfl ?_ ?_
      rotate_left
      ·go_simp
       rfl
      refine hK.out _ _ ?_
      clear hK K
      refine done_ (done_of HT_.out (by kernel_rfl)) ?_
      try go_wp2
      go_roundg k1
      case measure => have := HK1.out; omega
      case rel => exact ⟨(wrap64 (x6_1 + 1)), (t346), (t347), (y348), (.slice (some ⟨go18, oo18, none⟩) x339000_1.length co18), (by first | rfl | (simp; done) | (simp [*]; done)), H', ⟨by have := HK1.out; omega⟩, ⟨kq (Kd.Q_mono HQ25.out (fun _ hk => trivial))⟩, ⟨by (with_reducible repeat (first | refine blk_drewN ?_ _ | refine blk_drew ?_ | refine blk_alloc ?_ _)); refine blk_far ?_ (by have h_ := Kd.Q_ne HO_339000.out BK332.out (by decide); intro e_; exact h_ (by rw [e_]; rfl)) _; (with_reducible repeat (first | refine blk_drewN ?_ _ | refine blk_drew ?_ | refine blk_alloc ?_ _)); exact BK332.out⟩, ⟨by (with_reducible repeat (first | refine blk_drewN ?_ _ | refine blk_drew ?_ | refine blk_alloc ?_ _)); refine blk_far ?_ (by have h_ := Kd.Q_ne HO_339000.out BK333.out (by decide); intro e_; exact h_ (by rw [e_]; rfl)) _; (with_reducible repeat (first | refine blk_drewN ?_ _ | refine blk_drew ?_ | refine blk_alloc ?_ _)); exact BK333.out⟩, ⟨by (with_reducible repeat (first | refine blk_drewN ?_ _ | refine blk_drew ?_ | refine blk_alloc ?_ _)); refine blk_far ?_ (by have h_ := Kd.Q_ne HO_339000.out BK338.out (by decide); intro e_; exact h_ (by rw [e_]; rfl)) _; (with_reducible repeat (first | refine blk_drewN ?_ _ | refine blk_drew ?_ | refine blk_alloc ?_ _)); exact BK338.out⟩, ⟨si HI0.out⟩, ⟨by repeat (first | (with_reducible first | exact HK.out | apply KeepBut.set_ | apply keep_drewN | apply keep_drew | apply keep_alloc | refine keep_far ?_ GB18.out _ | refine keep_far ?_ GW332.out _ | refine keep_far ?_ GW333.out _ | refine keep_far ?_ GW338.out _) | exact HK.out)⟩, ⟨by repeat (first | (with_reducible first | exact HB.out | apply below_alloc | apply pw_below_drewN | apply below_drew1 | refine below_set ?_ (Nat.le_trans HL.out GB18.out) | refine below_set ?_ (IsS107.ge HI0.out) | refine below_set ?_ GE332.out | refine below_set ?_ GE333.out | refine below_set ?_ GE338.out) | exact HB.out)⟩⟩
     ·rw [if_neg c17] at H
      exact absurd H (by simp)
    ·rw [if_neg c16] at H
     exact absurd H (by simp)
   ·rw [if_neg c13] at H
    have c13b0 : decide (x6_1 < 20) = false := decide_eq_false c13
    clear c13
    replace H := Option.bind_eq_some_iff.mp H
    obtain ⟨t349, A260, H⟩ := H
    replace H : ((spec_l1Below.f s0_0 x1001_1 x1002_1 t349).bind fun bt350 => ((spec_l1Below.f s0_0 bt350.2.1 bt350.2.2 30).bind fun bt353 => (if bt353.1 = 0 then ((spec_l1PickInt.f s0_0 bt353.2.1 bt353.2.2 (([(-1), 8] : List Int))).bind fun bt359 => (some (x339000_1, bt359.1, bt359.2.1, bt359.2.2))) else (if bt353.1 = 1 then (if 1 ≤ (x339000_1.length : Int) then (some ((x339000_1.drop (1 : Int).toNat), bt350.1, bt353.2.1, bt353.2.2)) else (none)) else (if bt353.1 = 2 then (if 256 < (x339000_1.length : Int) then (some ((x339000_1.set (256 : Int).toNat 256), bt350.1, bt353.2.1, bt353.2.2)) else (none)) else (some (x339000_1, bt350.1, bt353.2.1, bt353.2.2))))))) = some (r1, r2, r3, r4) := H
    have A26 := Aside0.mk A260
    clear A260
    replace H := Option.bind_eq_some_iff.mp H
    obtain ⟨⟨t350, t351, t352⟩, A270, H⟩ := H
    replace H : ((spec_l1Below.f s0_0 t351 t352 30).bind fun bt353 => (if bt353.1 = 0 then ((spec_l1PickInt.f s0_0 bt353.2.1 bt353.2.2 (([(-1), 8] : List Int))).bind fun bt359 => (some (x339000_1, bt359.1, bt359.2.1, bt359.2.2))) else (if bt353.1 = 1 then (if 1 ≤ (x339000_1.length : Int) then (some ((x339000_1.drop (1 : Int).toNat), t350, bt353.2.1, bt353.2.2)) else (none)) else (if bt353.1 = 2 then (if 256 < (x339000_1.length : Int) then (some ((x339000_1.set (256 : Int).toNat 256), t350, bt353.2.1, bt353.2.2)) else (none)) else (some (x339000_1, t350, bt353.2.1, bt353.2.2)))))) = some (r1, r2, r3, r4) := H
    have A27 := Aside0.mk A270
    clear A270
    replace H := Option.bind_eq_some_iff.mp H
    obtain ⟨⟨t353, t354, t355⟩, A280, H⟩ := H
    replace H : (if t353 = 0 then ((spec_l1PickInt.f s0_0 t354 t355 (([(-1), 8] : List Int))).bind fun bt359 => (some (x339000_1, bt359.1, bt359.2.1, bt359.2.2))) else (if t353 = 1 then (if 1 ≤ (x339000_1.length : Int) then (some ((x339000_1.drop (1 : Int).toNat), t350, t354, t355)) else (none)) else (if t353 = 2 then (if 256 < (x339000_1.length : Int) then (some ((x339000_1.set (256 : Int).toNat 256), t350, t354, t355)) else (none)) else (some (x339000_1, t350, t354, t355))))) = some (r1, r2, r3, r4) := H
    have A28 := Aside0.mk A280
    clear A280
    by_cases c29 : t353 = 0
    ·rw [if_pos c29] at H
     have c29b0 : (t353 == 0) = true := beq_iff_eq.mpr c29
     have c29b1 : (t353 != 0) = false := bne_eq_false_iff_eq.mpr c29
     clear c29
     obtain ⟨y356, hy356⟩ : ∃ y_ : List Int, y_ = (([(-1), 8] : List Int)) := ⟨_, rfl⟩
     replace H : ((spec_l1PickInt.f s0_0 t354 t355 y356).bind fun bt359 => (some (x339000_1, bt359.1, bt359.2.1, bt359.2.2))) = some (r1, r2, r3, r4) := by first | (rw [hy356]; with_reducible exact H) | (have H2_ := (Option.bind_some _ _).symm.trans H; rw [hy356]; with_reducible exact H2_) | (have H2_ := (Option.bind_some _ _).symm.trans H; with_reducible exact H2_) | with_reducible exact H | (rw [hy356]; exact H) | exact H
     have Ny356 := Aside0.mk hy356
     clear hy356
     replace H := Option.bind_eq_some_iff.mp H
     obtain ⟨⟨t359, t360, t361⟩, A300, H⟩ := H
     replace H : (some (x339000_1, t359, t360, t361)) = some (r1, r2, r3, r4) := H
     have A30 := Aside0.mk A300
     clear A300
     simp only [Option.some.injEq, Prod.mk.injEq] at H
     obtain ⟨rfl, rfl, rfl, rfl⟩ := H
     have hnb31 := NB332_333.out
     have hnc31 := NB333_332.out
     have hnb32 := NB332_338.out
     have hnc32 := NB338_332.out
     have hnb33 := NB332_0.out
     have hnc33 := NB0_332.out
     have hcz34_0 : wr.cell? ⟨gb332, 0, none⟩ = some (.slice A1_0 l1_0.length c1_0) := (blk_cell BK332.out 0).trans rfl
     have hfz34_0 := blk_frozen BK332.out 0
     go_wp2_with (first | ((with_reducible refine gate_callee (f := 117) rfl ?_); refine goesM_ (some 24) rfl rfl Try.func117 #[.int .i64 (l1_0.length : Int), .int .i64 1] ?_; (with_reducible refine (spec_l1Max.calls (l1_0.length : Int) 1 t349 _ A26.out).mono ?_); rintro e w' ⟨rfl, ⟨nd, rfl⟩⟩; refine ⟨_, rfl, ?_⟩; (try (rw [drewN_self wr]; generalize hq_ : World.drewN wr _ = wr; have n0_ : Aside0 (Kd.Q (Kd.int .i64) 3 wr w.heap.size (fun _ => True) u339000 x339000_1) := ⟨by rw [← hq_]; exact (kq HO_339000.out)⟩; have n1_ : Aside0 (wr.heap[gb332]? = some (.cells #[.slice A1_0 l1_0.length c1_0] 29 (0, 0))) := ⟨by rw [← hq_]; exact (kb BK332.out)⟩; have n2_ : Aside0 (wr.heap[gb333]? = some (.cells #[.slice none 0 0, .int .i64 0] 32 (0, 0))) := ⟨by rw [← hq_]; exact (kb BK333.out)⟩; have n3_ : Aside0 (wr.heap[gb338]? = some (.cells #[u339000, .int .i64 t337] 32 (0, 0))) := ⟨by rw [← hq_]; exact (kb BK338.out)⟩; have n4_ : Aside0 (IsS107 w0 wr g s0_0 x1001_1 x1002_1) := ⟨by rw [← hq_]; exact (si HI0.out)⟩; have n5_ : Aside0 (KeepBut w wr g none) := ⟨by rw [← hq_]; exact (kp HK.out)⟩; have n6_ : Aside0 (Below w0.heap.size w0 wr) := ⟨by rw [← hq_]; exact (bi HB.out)⟩; clear HO_339000 BK332 BK333 BK338 HI0 HK HB hq_; have HO_339000 := n0_; have BK332 := n1_; have BK333 := n2_; have BK338 := n3_; have HI0 := n4_; have HK := n5_; have HB := n6_; clear n0_ n1_ n2_ n3_ n4_ n5_ n6_))) | ((with_reducible refine gate_callee (f := 60) rfl ?_); refine goesM_ (some 25) rfl rfl Try.func60 #[.pointer (some ⟨g, 0, none⟩), .int .i64 t349] ?_; (with_reducible refine (spec_l1Below.calls g s0_0 x1001_1 x1002_1 t349 t350 t351 t352 w0 _ ?side1 ?side2 A27.out).mono ?_); (case side1 => exact si HI0.out); (case side2 => exact bi HB.out); rintro e w35 ⟨rfl, hi, hb, hk⟩; refine ⟨_, rfl, ?_⟩; have n0_ := Aside0.mk (Kd.Q_mono (Kd.Q_keep (IsS107.apartQ (show IsS107 w0 _ g s0_0 x1001_1 x1002_1 from si HI0.out) (kq HO_339000.out) (by decide)) hk (fun _ h => h.2)) (fun _ h => h.1)); have n1_ := Aside0.mk (KeepBut.blk hk (g' := gb332) (o := .cells #[.slice A1_0 l1_0.length c1_0] 29 (0, 0)) (kb BK332.out) NB332_0.out (by simp)); have n2_ := Aside0.mk (KeepBut.blk hk (g' := gb333) (o := .cells #[.slice none 0 0, .int .i64 0] 32 (0, 0)) (kb BK333.out) NB333_0.out (by simp)); have n3_ := Aside0.mk (KeepBut.blk hk (g' := gb338) (o := .cells #[u339000, .int .i64 t337] 32 (0, 0)) (kb BK338.out) NB338_0.out (by simp)); have n4_ := Aside0.mk (KeepBut.trans (kp HK.out) hk (.inl rfl)); have n5_ := Aside0.mk (hb); have n6_ := Aside0.mk (hi); clear HO_339000; clear BK332; clear BK333; clear BK338; clear HK; clear HB; clear HI0; have HO_339000 := n0_; have BK332 := n1_; have BK333 := n2_; have BK338 := n3_; have HK := n4_; have HB := n5_; have HI0 := n6_; clear n0_ n1_ n2_ n3_ n4_ n5_ n6_; (try clear hb); (try clear hb2); (try clear hk); (try clear hi); have hnb36 := NB338_333.out; have hnc36 := NB333_338.out; have hnb37 := NB338_0.out; have hnc37 := NB0_338.out; have hcz38_0 : w35.cell? ⟨gb338, 0, none⟩ = some (u339000) := (blk_cell BK338.out 0).trans rfl; have hcz38_1 : w35.cell? ⟨gb338, 1, none⟩ = some (.int .i64 t337) := (blk_cell BK338.out 1).trans rfl; have hfz38_0 := blk_frozen BK338.out 0; have hfz38_1 := blk_frozen BK338.out 1) | ((with_reducible refine gate_callee (f := 60) rfl ?_); refine goesM_ (some 28) rfl rfl Try.func60 #[.pointer (some ⟨g, 0, none⟩), .int .i64 30] ?_; (with_reducible refine (spec_l1Below.calls g s0_0 t351 t352 30 t353 t354 t355 w0 _ ?side1 ?side2 A28.out).mono ?_); (case side1 => exact si HI0.out); (case side2 => exact bi HB.out); rintro e w39 ⟨rfl, hi, hb, hk⟩; refine ⟨_, rfl, ?_⟩; have n0_ := Aside0.mk (Kd.Q_mono (Kd.Q_keep (IsS107.apartQ (show IsS107 w0 _ g s0_0 t351 t352 from si HI0.out) (kq ((Kd.Q_mono (Kd.Q_far (p := ⟨gb338, 1, none⟩) (Kd.Q_types HO_339000.out BK338.out (by decide)) (fun _ hk => hk.2) (.int .i64 t350)) (fun _ h_ => h_.1)))) (by decide)) hk (fun _ h => h.2)) (fun _ h => h.1)); have n1_ := Aside0.mk (KeepBut.blk hk (g' := gb332) (o := .cells #[.slice A1_0 l1_0.length c1_0] 29 (0, 0)) (kf BK332.out) NB332_0.out (by simp)); have n2_ := Aside0.mk (KeepBut.blk hk (g' := gb333) (o := .cells #[.slice none 0 0, .int .i64 0] 32 (0, 0)) (kf BK333.out) NB333_0.out (by simp)); have n3_ := Aside0.mk (KeepBut.blk hk (g' := gb338) (o := .cells #[u339000, .int .i64 t350] 32 (0, 0)) (kt BK338.out) NB338_0.out (by simp)); have n4_ := Aside0.mk (KeepBut.trans (kp HK.out) hk (.inl rfl)); have n5_ := Aside0.mk (hb); have n6_ := Aside0.mk (hi); clear HO_339000; clear BK332; clear BK333; clear BK338; clear HK; clear HB; clear HI0; have HO_339000 := n0_; have BK332 := n1_; have BK333 := n2_; have BK338 := n3_; have HK := n4_; have HB := n5_; have HI0 := n6_; clear n0_ n1_ n2_ n3_ n4_ n5_ n6_; (try clear hb); (try clear hb2); (try clear hk); (try clear hi)) | ((with_reducible refine gate_dst (N := 32) rfl ?_); refine Kd.R_lit (Kd.int .i64) _ 3 ?hg (N := 32) ?hd (xs := ([(-1), 8] : List Int)) (inner := [.int .i64 (-1), .int .i64 8]) (ok := fun _ => True) (okp := fun _ => True) ?hr ?hp (fun _ hk => hk) trivial (Below.refl _ _) (Nat.le_refl _) (by simp) ?_; (case hd => rfl); (case hg => rfl); (case hr => first | (go_simp; done) | (go_simp; rfl)); (case hp => exact (Reps.one (show Kd.M (Kd.int .i64) _ _ _ (-1) [.int .i64 (-1)] from rfl) (Reps.one (show Kd.M (Kd.int .i64) _ _ _ 8 [.int .i64 8] from rfl) (Reps.none _ _)))); intro v357 w40 ho41 hb hg_ hnew_; clear hg_ hnew_; (first | rw [← Ny356.out] at ho41 | (simp only [Int.reduceToNat] at ho41; rw [← Ny356.out] at ho41)); have n0_ := Aside0.mk (Kd.Q_elder' (kq HO_339000.out) (Kd.R_base ho41) hb); have n1_ := Aside0.mk (Kd.R_lower (Kd.R_new' ho41 (Kd.Q_lt (kq HO_339000.out))) (keep_size (w := w) (g := g) (row := none) (kp HK.out))); have n2_ := Aside0.mk (blk_below (g := gb332) (o := .cells #[.slice A1_0 l1_0.length c1_0] 29 (0, 0)) (kb BK332.out) hb); have n3_ := Aside0.mk (blk_below (g := gb333) (o := .cells #[.slice none 0 0, .int .i64 0] 32 (0, 0)) (kb BK333.out) hb); have n4_ := Aside0.mk (blk_below (g := gb338) (o := .cells #[u339000, .int .i64 t350] 32 (0, 0)) (kb BK338.out) hb); have n5_ := Aside0.mk (IsS107.below (si HI0.out) hb); have n6_ := Aside0.mk (KeepBut.trans (kp HK.out) (KeepBut.of_below hb g none) (.inl rfl)); have n7_ := Aside0.mk (below_step (bi HB.out) hb); clear HO_339000; clear BK332; clear BK333; clear BK338; clear HI0; clear HK; clear HB; have HO_339000 := n0_; have HO358 := n1_; have BK332 := n2_; have BK333 := n3_; have BK338 := n4_; have HI0 := n5_; have HK := n6_; have HB := n7_; clear n0_ n1_ n2_ n3_ n4_ n5_ n6_ n7_; clear hb ho41; obtain ⟨Ao42, co42, eo42⟩ := Kd.R_slice HO358.out; subst eo42) | ((with_reducible refine gate_callee (f := 70) rfl ?_); refine goesM_ (some 33) rfl rfl Try.func70 #[.pointer (some ⟨g, 0, none⟩), .slice Ao42 y356.length co42] ?_; (with_reducible refine (spec_l1PickInt.calls g s0_0 t354 t355 _ _ y356 t359 t360 t361 w0 _ ?side1 ?side2 ?side3 ?side4 ?side5 A30.out).mono ?_); (case side1 => exact si HI0.out); (case side2 => exact bi HB.out); (case side3 => repeat (first | exact (Kd.R_reads' HO358.out).2.2 | (with_reducible refine Kd.C_alloc ?_ _) | (with_reducible refine Kd.C_drewN ?_ _) | (with_reducible refine Kd.C_drew ?_))); (case side4 => exact (Kd.R_reads' HO358.out).2.1); (case side5 => exact far_slice (IsS107.own_ne HI0.out HO358.out (by decide))); rintro e w43 ⟨rfl, hi, hb, hk⟩; refine ⟨_, rfl, ?_⟩; have n0_ := Aside0.mk (Kd.Q_mono (Kd.Q_keep (IsS107.apartQ (show IsS107 w0 _ g s0_0 t354 t355 from si HI0.out) (kq HO_339000.out) (by decide)) hk (fun _ h => h.2)) (fun _ h => h.1)); have n1_ := Aside0.mk (KeepBut.blk hk (g' := gb332) (o := .cells #[.slice A1_0 l1_0.length c1_0] 29 (0, 0)) (kb BK332.out) NB332_0.out (by simp)); have n2_ := Aside0.mk (KeepBut.blk hk (g' := gb333) (o := .cells #[.slice none 0 0, .int .i64 0] 32 (0, 0)) (kb BK333.out) NB333_0.out (by simp)); have n3_ := Aside0.mk (KeepBut.blk hk (g' := gb338) (o := .cells #[u339000, .int .i64 t350] 32 (0, 0)) (kb BK338.out) NB338_0.out (by simp)); have n4_ := Aside0.mk (Kd.R_mono (Kd.R_keep (IsS107.apart (show IsS107 w0 _ g s0_0 t354 t355 from si HI0.out) (kr HO358.out) (by decide)) hk (fun _ h => h.2)) (fun _ h => h.1)); have n5_ := Aside0.mk (KeepBut.trans (kp HK.out) hk (.inl rfl)); have n6_ := Aside0.mk (hb); have n7_ := Aside0.mk (hi); clear HO_339000; clear BK332; clear BK333; clear BK338; clear HO358; clear HK; clear HB; clear HI0; have HO_339000 := n0_; have BK332 := n1_; have BK333 := n2_; have BK338 := n3_; have HO358 := n4_; have HK := n5_; have HB := n6_; have HI0 := n7_; clear n0_ n1_ n2_ n3_ n4_ n5_ n6_ n7_; (try clear hb); (try clear hb2); (try clear hk); (try clear hi); have hcz44_0 : w43.cell? ⟨gb338, 0, none⟩ = some (u339000) := (blk_cell BK338.out 0).trans rfl; have hcz44_1 : w43.cell? ⟨gb338, 1, none⟩ = some (.int .i64 t350) := (blk_cell BK338.out 1).trans rfl; have hfz44_0 := blk_frozen BK338.out 0; have hfz44_1 := blk_frozen BK338.out 1; obtain ⟨Ao45, co45, eo45, _⟩ := Kd.Q_slice HO_339000.out; subst eo45; have hnb46 := NB333_0.out; have hnc46 := NB0_333.out; have hcz47_0 : w43.cell? ⟨gb333, 0, none⟩ = some (.slice none 0 0) := (blk_cell BK333.out 0).trans rfl; have hcz47_1 : w43.cell? ⟨gb333, 1, none⟩ = some (.int .i64 0) := (blk_cell BK333.out 1).trans rfl; have hfz47_0 := blk_frozen BK333.out 0; have hfz47_1 := blk_frozen BK333.out 1))
     refine bodyPost_ret (results_cell_row rfl _ _ gb333 32 #[.slice Ao45 x339000_1.length co45, .int .i64 t359] (0, 0) _ rfl (by (with_reducible repeat (first | refine blk_drewN ?_ _ | refine blk_drew ?_ | refine blk_alloc ?_ _)); refine blk_put (cs := #[.slice Ao45 x339000_1.length co45, .int .i64 0]) ?_ 1 _ rfl; (with_reducible repeat (first | refine blk_drewN ?_ _ | refine blk_drew ?_ | refine blk_alloc ?_ _)); refine blk_put (cs := #[.slice none 0 0, .int .i64 0]) ?_ 0 _ rfl; (with_reducible repeat (first | refine blk_drewN ?_ _ | refine blk_drew ?_ | refine blk_alloc ?_ _)); refine blk_far ?_ NB333_338.out _; (with_reducible repeat (first | refine blk_drewN ?_ _ | refine blk_drew ?_ | refine blk_alloc ?_ _)); exact BK333.out) Try.underlying32 rfl (by kernel_rfl)) rfl ?_
     exact ⟨_, rt, kq (Kd.Q_mono (Kd.Q_far (p := ⟨gb333, 1, none⟩) (Kd.Q_far (p := ⟨gb333, 0, none⟩) (Kd.Q_far (p := ⟨gb338, 1, none⟩) (Kd.Q_types (Kd.Q_types HO_339000.out BK338.out (by decide)) BK333.out (by decide)) (fun _ hk => hk.1.2) (.int .i64 t359)) (fun _ hk => hk.2) (.slice Ao45 x339000_1.length co45)) (fun _ hk => hk.2) (.int .i64 t359)) (fun _ hk => trivial)), si HI0.out, bi HB.out, kp HK.out⟩
    ·rw [if_neg c29] at H
     have c29b0 : (t353 == 0) = false := beq_eq_false_iff_ne.mpr c29
     have c29b1 : (t353 != 0) = true := bne_iff_ne.mpr c29
     by_cases c48 : t353 = 1
     ·rw [if_pos c48] at H
      have c48b0 : (t353 == 1) = true := beq_iff_eq.mpr c48
      have c48b1 : (t353 != 1) = false := bne_eq_false_iff_eq.mpr c48
      clear c48
      by_cases c49 : 1 ≤ (x339000_1.length : Int)
      ·rw [if_pos c49] at H
       have c49b0 := eq_true c49
       have c49b1 : decide (1 ≤ (x339000_1.length : Int)) = true := decide_eq_true c49
       clear c49
       obtain ⟨y362, hy362⟩ : ∃ y_ : List Int, y_ = (x339000_1.drop (1 : Int).toNat) := ⟨_, rfl⟩
       replace H : (some (y362, t350, t354, t355)) = some (r1, r2, r3, r4) := by first | (rw [hy362]; with_reducible exact H) | (have H2_ := (Option.bind_some _ _).symm.trans H; rw [hy362]; with_reducible exact H2_) | (have H2_ := (Option.bind_some _ _).symm.trans H; with_reducible exact H2_) | with_reducible exact H | (rw [hy362]; exact H) | exact H
       have Ny362 := Aside0.mk hy362
       clear hy362
       simp only [Option.some.injEq, Prod.mk.injEq] at H
       obtain ⟨rfl, rfl, rfl, rfl⟩ := H
       have hnb50 := NB332_333.out
       have hnc50 := NB333_332.out
       have hnb51 := NB332_338.out
       have hnc51 := NB338_332.out
       have hnb52 := NB332_0.out
       have hnc52 := NB0_332.out
       have hcz53_0 : wr.cell? ⟨gb332, 0, none⟩ = some (.slice A1_0 l1_0.length c1_0) := (blk_cell BK332.out 0).trans rfl
       have hfz53_0 := blk_frozen BK332.out 0
       go_wp2_with (first | ((with_reducible refine gate_callee (f := 117) rfl ?_); refine goesM_ (some 24) rfl rfl Try.func117 #[.int .i64 (l1_0.length : Int), .int .i64 1] ?_; (with_reducible refine (spec_l1Max.calls (l1_0.length : Int) 1 t349 _ A26.out).mono ?_); rintro e w' ⟨rfl, ⟨nd, rfl⟩⟩; refine ⟨_, rfl, ?_⟩; (try (rw [drewN_self wr]; generalize hq_ : World.drewN wr _ = wr; have n0_ : Aside0 (Kd.Q (Kd.int .i64) 3 wr w.heap.size (fun _ => True) u339000 x339000_1) := ⟨by rw [← hq_]; exact (kq HO_339000.out)⟩; have n1_ : Aside0 (wr.heap[gb332]? = some (.cells #[.slice A1_0 l1_0.length c1_0] 29 (0, 0))) := ⟨by rw [← hq_]; exact (kb BK332.out)⟩; have n2_ : Aside0 (wr.heap[gb333]? = some (.cells #[.slice none 0 0, .int .i64 0] 32 (0, 0))) := ⟨by rw [← hq_]; exact (kb BK333.out)⟩; have n3_ : Aside0 (wr.heap[gb338]? = some (.cells #[u339000, .int .i64 t337] 32 (0, 0))) := ⟨by rw [← hq_]; exact (kb BK338.out)⟩; have n4_ : Aside0 (IsS107 w0 wr g s0_0 x1001_1 x1002_1) := ⟨by rw [← hq_]; exact (si HI0.out)⟩; have n5_ : Aside0 (KeepBut w wr g none) := ⟨by rw [← hq_]; exact (kp HK.out)⟩; have n6_ : Aside0 (Below w0.heap.size w0 wr) := ⟨by rw [← hq_]; exact (bi HB.out)⟩; clear HO_339000 BK332 BK333 BK338 HI0 HK HB hq_; have HO_339000 := n0_; have BK332 := n1_; have BK333 := n2_; have BK338 := n3_; have HI0 := n4_; have HK := n5_; have HB := n6_; clear n0_ n1_ n2_ n3_ n4_ n5_ n6_))) | ((with_reducible refine gate_callee (f := 60) rfl ?_); refine goesM_ (some 25) rfl rfl Try.func60 #[.pointer (some ⟨g, 0, none⟩), .int .i64 t349] ?_; (with_reducible refine (spec_l1Below.calls g s0_0 x1001_1 x1002_1 t349 t350 t351 t352 w0 _ ?side1 ?side2 A27.out).mono ?_); (case side1 => exact si HI0.out); (case side2 => exact bi HB.out); rintro e w54 ⟨rfl, hi, hb, hk⟩; refine ⟨_, rfl, ?_⟩; have n0_ := Aside0.mk (Kd.Q_mono (Kd.Q_keep (IsS107.apartQ (show IsS107 w0 _ g s0_0 x1001_1 x1002_1 from si HI0.out) (kq HO_339000.out) (by decide)) hk (fun _ h => h.2)) (fun _ h => h.1)); have n1_ := Aside0.mk (KeepBut.blk hk (g' := gb332) (o := .cells #[.slice A1_0 l1_0.length c1_0] 29 (0, 0)) (kb BK332.out) NB332_0.out (by simp)); have n2_ := Aside0.mk (KeepBut.blk hk (g' := gb333) (o := .cells #[.slice none 0 0, .int .i64 0] 32 (0, 0)) (kb BK333.out) NB333_0.out (by simp)); have n3_ := Aside0.mk (KeepBut.blk hk (g' := gb338) (o := .cells #[u339000, .int .i64 t337] 32 (0, 0)) (kb BK338.out) NB338_0.out (by simp)); have n4_ := Aside0.mk (KeepBut.trans (kp HK.out) hk (.inl rfl)); have n5_ := Aside0.mk (hb); have n6_ := Aside0.mk (hi); clear HO_339000; clear BK332; clear BK333; clear BK338; clear HK; clear HB; clear HI0; have HO_339000 := n0_; have BK332 := n1_; have BK333 := n2_; have BK338 := n3_; have HK := n4_; have HB := n5_; have HI0 := n6_; clear n0_ n1_ n2_ n3_ n4_ n5_ n6_; (try clear hb); (try clear hb2); (try clear hk); (try clear hi); have hnb55 := NB338_333.out; have hnc55 := NB333_338.out; have hnb56 := NB338_0.out; have hnc56 := NB0_338.out; have hcz57_0 : w54.cell? ⟨gb338, 0, none⟩ = some (u339000) := (blk_cell BK338.out 0).trans rfl; have hcz57_1 : w54.cell? ⟨gb338, 1, none⟩ = some (.int .i64 t337) := (blk_cell BK338.out 1).trans rfl; have hfz57_0 := blk_frozen BK338.out 0; have hfz57_1 := blk_frozen BK338.out 1) | ((with_reducible refine gate_callee (f := 60) rfl ?_); refine goesM_ (some 28) rfl rfl Try.func60 #[.pointer (some ⟨g, 0, none⟩), .int .i64 30] ?_; (with_reducible refine (spec_l1Below.calls g s0_0 t351 t352 30 t353 t354 t355 w0 _ ?side1 ?side2 A28.out).mono ?_); (case side1 => exact si HI0.out); (case side2 => exact bi HB.out); rintro e w58 ⟨rfl, hi, hb, hk⟩; refine ⟨_, rfl, ?_⟩; have n0_ := Aside0.mk (Kd.Q_mono (Kd.Q_keep (IsS107.apartQ (show IsS107 w0 _ g s0_0 t351 t352 from si HI0.out) (kq ((Kd.Q_mono (Kd.Q_far (p := ⟨gb338, 1, none⟩) (Kd.Q_types HO_339000.out BK338.out (by decide)) (fun _ hk => hk.2) (.int .i64 t350)) (fun _ h_ => h_.1)))) (by decide)) hk (fun _ h => h.2)) (fun _ h => h.1)); have n1_ := Aside0.mk (KeepBut.blk hk (g' := gb332) (o := .cells #[.slice A1_0 l1_0.length c1_0] 29 (0, 0)) (kf BK332.out) NB332_0.out (by simp)); have n2_ := Aside0.mk (KeepBut.blk hk (g' := gb333) (o := .cells #[.slice none 0 0, .int .i64 0] 32 (0, 0)) (kf BK333.out) NB333_0.out (by simp)); have n3_ := Aside0.mk (KeepBut.blk hk (g' := gb338) (o := .cells #[u339000, .int .i64 t350] 32 (0, 0)) (kt BK338.out) NB338_0.out (by simp)); have n4_ := Aside0.mk (KeepBut.trans (kp HK.out) hk (.inl rfl)); have n5_ := Aside0.mk (hb); have n6_ := Aside0.mk (hi); clear HO_339000; clear BK332; clear BK333; clear BK338; clear HK; clear HB; clear HI0; have HO_339000 := n0_; have BK332 := n1_; have BK333 := n2_; have BK338 := n3_; have HK := n4_; have HB := n5_; have HI0 := n6_; clear n0_ n1_ n2_ n3_ n4_ n5_ n6_; (try clear hb); (try clear hb2); (try clear hk); (try clear hi); have hcz59_0 : w58.cell? ⟨gb338, 0, none⟩ = some (u339000) := (blk_cell BK338.out 0).trans rfl; have hcz59_1 : w58.cell? ⟨gb338, 1, none⟩ = some (.int .i64 t350) := (blk_cell BK338.out 1).trans rfl; have hfz59_0 := blk_frozen BK338.out 0; have hfz59_1 := blk_frozen BK338.out 1; obtain ⟨Ao60, co60, eo60, _⟩ := Kd.Q_slice HO_339000.out; subst eo60; have q61 : (1 : Int) ≤ ((x339000_1.length : Int) : Int) := dt; obtain ⟨i061, hi061, _, hsz61, _⟩ := info_parts info3; have hcut61 := cut_from (P := Try.prog) 30 3 .i64 Try.underlying30 hi061 1 hsz61 Ao60 x339000_1.length co60 1 (by omega) q61; have hr61 := Kd.Q_drop (k := (1 : Int).toNat) HO_339000.out (by omega); obtain ⟨A61, hA61⟩ : ∃ A1, A1 = (if co60 = (1 : Int).toNat then Ao60 else (Ao60 : Option Addr).map (·.add ((1 : Int).toNat * 1))) := ⟨_, rfl⟩; obtain ⟨c61, hc61⟩ : ∃ c1, c1 = co60 - (1 : Int).toNat := ⟨_, rfl⟩; have hy61 : y362.length = x339000_1.length - (1 : Int).toNat := (by rw [Ny362.out, List.length_drop]); rw [← Ny362.out] at hr61; rw [← hy61, ← hA61, ← hc61] at hcut61; replace hr61 : Kd.Q (Kd.int .i64) 3 w58 w.heap.size (fun _ => True) (.slice A61 y362.length c61) y362 := (by rw [hA61, hc61, hy61]; exact hr61); have HE61 : Aside0 ((Value.slice A61 y362.length c61).ownBlock = (.slice Ao60 x339000_1.length co60 : Value).ownBlock) := ⟨by rw [hA61]; split <;> (cases (Ao60 : Option Addr) <;> rfl)⟩; clear hy61 hi061 hsz61 HO_339000 hA61 hc61; have HO364 := Aside0.mk hr61; clear hr61; replace q61 := eq_true q61; have hnb62 := NB333_0.out; have hnc62 := NB0_333.out; have hcz63_0 : w58.cell? ⟨gb333, 0, none⟩ = some (.slice none 0 0) := (blk_cell BK333.out 0).trans rfl; have hcz63_1 : w58.cell? ⟨gb333, 1, none⟩ = some (.int .i64 0) := (blk_cell BK333.out 1).trans rfl; have hfz63_0 := blk_frozen BK333.out 0; have hfz63_1 := blk_frozen BK333.out 1))
       refine bodyPost_ret (results_cell_row rfl _ _ gb333 32 #[.slice A61 y362.length c61, .int .i64 t350] (0, 0) _ rfl (by (with_reducible repeat (first | refine blk_drewN ?_ _ | refine blk_drew ?_ | refine blk_alloc ?_ _)); refine blk_put (cs := #[.slice A61 y362.length c61, .int .i64 0]) ?_ 1 _ rfl; (with_reducible repeat (first | refine blk_drewN ?_ _ | refine blk_drew ?_ | refine blk_alloc ?_ _)); refine blk_put (cs := #[.slice none 0 0, .int .i64 0]) ?_ 0 _ rfl; (with_reducible repeat (first | refine blk_drewN ?_ _ | refine blk_drew ?_ | refine blk_alloc ?_ _)); refine blk_far ?_ NB333_338.out _; (with_reducible repeat (first | refine blk_drewN ?_ _ | refine blk_drew ?_ | refine blk_alloc ?_ _)); exact BK333.out) Try.underlying32 rfl (by kernel_rfl)) rfl ?_
       exact ⟨_, rt, kq (Kd.Q_mono (Kd.Q_far (p := ⟨gb333, 1, none⟩) (Kd.Q_far (p := ⟨gb333, 0, none⟩) (Kd.Q_far (p := ⟨gb338, 0, none⟩) (Kd.Q_types (Kd.Q_types HO364.out BK338.out (by decide)) BK333.out (by decide)) (fun _ hk => hk.1.2) (.slice A61 y362.length c61)) (fun _ hk => hk.2) (.slice A61 y362.length c61)) (fun _ hk => hk.2) (.int .i64 t350)) (fun _ hk => trivial)), si HI0.out, bi HB.out, kp HK.out⟩
      ·rw [if_neg c49] at H
       exact absurd H (by simp)
     ·rw [if_neg c48] at H
      have c48b0 : (t353 == 1) = false := beq_eq_false_iff_ne.mpr c48
      have c48b1 : (t353 != 1) = true := bne_iff_ne.mpr c48
      by_cases c64 : t353 = 2
      ·rw [if_pos c64] at H
       have c64b0 : (t353 == 2) = true := beq_iff_eq.mpr c64
       have c64b1 : (t353 != 2) = false := bne_eq_false_iff_eq.mpr c64
       clear c64
       by_cases c65 : 256 < (x339000_1.length : Int)
       ·rw [if_pos c65] at H
        have c65b0 : decide (256 < (x339000_1.length : Int)) = true := decide_eq_true c65
        have c65b1 : decide (256 < x339000_1.length) = true := decide_eq_true (by omega)
        clear c65
        obtain ⟨y365, hy365⟩ : ∃ y_ : List Int, y_ = (x339000_1.set (256 : Int).toNat 256) := ⟨_, rfl⟩
        replace H : (some (y365, t350, t354, t355)) = some (r1, r2, r3, r4) := by first | (rw [hy365]; with_reducible exact H) | (have H2_ := (Option.bind_some _ _).symm.trans H; rw [hy365]; with_reducible exact H2_) | (have H2_ := (Option.bind_some _ _).symm.trans H; with_reducible exact H2_) | with_reducible exact H | (rw [hy365]; exact H) | exact H
        have Ny365 := Aside0.mk hy365
        clear hy365
        simp only [Option.some.injEq, Prod.mk.injEq] at H
        obtain ⟨rfl, rfl, rfl, rfl⟩ := H
        have hnb67 := NB332_333.out
        have hnc67 := NB333_332.out
        have hnb68 := NB332_338.out
        have hnc68 := NB338_332.out
        have hnb69 := NB332_0.out
        have hnc69 := NB0_332.out
        have hcz70_0 : wr.cell? ⟨gb332, 0, none⟩ = some (.slice A1_0 l1_0.length c1_0) := (blk_cell BK332.out 0).trans rfl
        have hfz70_0 := blk_frozen BK332.out 0
        go_wp2_with (first | ((with_reducible refine gate_callee (f := 117) rfl ?_); refine goesM_ (some 24) rfl rfl Try.func117 #[.int .i64 (l1_0.length : Int), .int .i64 1] ?_; (with_reducible refine (spec_l1Max.calls (l1_0.length : Int) 1 t349 _ A26.out).mono ?_); rintro e w' ⟨rfl, ⟨nd, rfl⟩⟩; refine ⟨_, rfl, ?_⟩; (try (rw [drewN_self wr]; generalize hq_ : World.drewN wr _ = wr; have n0_ : Aside0 (Kd.Q (Kd.int .i64) 3 wr w.heap.size (fun _ => True) u339000 x339000_1) := ⟨by rw [← hq_]; exact (kq HO_339000.out)⟩; have n1_ : Aside0 (wr.heap[gb332]? = some (.cells #[.slice A1_0 l1_0.length c1_0] 29 (0, 0))) := ⟨by rw [← hq_]; exact (kb BK332.out)⟩; have n2_ : Aside0 (wr.heap[gb333]? = some (.cells #[.slice none 0 0, .int .i64 0] 32 (0, 0))) := ⟨by rw [← hq_]; exact (kb BK333.out)⟩; have n3_ : Aside0 (wr.heap[gb338]? = some (.cells #[u339000, .int .i64 t337] 32 (0, 0))) := ⟨by rw [← hq_]; exact (kb BK338.out)⟩; have n4_ : Aside0 (IsS107 w0 wr g s0_0 x1001_1 x1002_1) := ⟨by rw [← hq_]; exact (si HI0.out)⟩; have n5_ : Aside0 (KeepBut w wr g none) := ⟨by rw [← hq_]; exact (kp HK.out)⟩; have n6_ : Aside0 (Below w0.heap.size w0 wr) := ⟨by rw [← hq_]; exact (bi HB.out)⟩; clear HO_339000 BK332 BK333 BK338 HI0 HK HB hq_; have HO_339000 := n0_; have BK332 := n1_; have BK333 := n2_; have BK338 := n3_; have HI0 := n4_; have HK := n5_; have HB := n6_; clear n0_ n1_ n2_ n3_ n4_ n5_ n6_))) | ((with_reducible refine gate_callee (f := 60) rfl ?_); refine goesM_ (some 25) rfl rfl Try.func60 #[.pointer (some ⟨g, 0, none⟩), .int .i64 t349] ?_; (with_reducible refine (spec_l1Below.calls g s0_0 x1001_1 x1002_1 t349 t350 t351 t352 w0 _ ?side1 ?side2 A27.out).mono ?_); (case side1 => exact si HI0.out); (case side2 => exact bi HB.out); rintro e w71 ⟨rfl, hi, hb, hk⟩; refine ⟨_, rfl, ?_⟩; have n0_ := Aside0.mk (Kd.Q_mono (Kd.Q_keep (IsS107.apartQ (show IsS107 w0 _ g s0_0 x1001_1 x1002_1 from si HI0.out) (kq HO_339000.out) (by decide)) hk (fun _ h => h.2)) (fun _ h => h.1)); have n1_ := Aside0.mk (KeepBut.blk hk (g' := gb332) (o := .cells #[.slice A1_0 l1_0.length c1_0] 29 (0, 0)) (kb BK332.out) NB332_0.out (by simp)); have n2_ := Aside0.mk (KeepBut.blk hk (g' := gb333) (o := .cells #[.slice none 0 0, .int .i64 0] 32 (0, 0)) (kb BK333.out) NB333_0.out (by simp)); have n3_ := Aside0.mk (KeepBut.blk hk (g' := gb338) (o := .cells #[u339000, .int .i64 t337] 32 (0, 0)) (kb BK338.out) NB338_0.out (by simp)); have n4_ := Aside0.mk (KeepBut.trans (kp HK.out) hk (.inl rfl)); have n5_ := Aside0.mk (hb); have n6_ := Aside0.mk (hi); clear HO_339000; clear BK332; clear BK333; clear BK338; clear HK; clear HB; clear HI0; have HO_339000 := n0_; have BK332 := n1_; have BK333 := n2_; have BK338 := n3_; have HK := n4_; have HB := n5_; have HI0 := n6_; clear n0_ n1_ n2_ n3_ n4_ n5_ n6_; (try clear hb); (try clear hb2); (try clear hk); (try clear hi); have hnb72 := NB338_333.out; have hnc72 := NB333_338.out; have hnb73 := NB338_0.out; have hnc73 := NB0_338.out; have hcz74_0 : w71.cell? ⟨gb338, 0, none⟩ = some (u339000) := (blk_cell BK338.out 0).trans rfl; have hcz74_1 : w71.cell? ⟨gb338, 1, none⟩ = some (.int .i64 t337) := (blk_cell BK338.out 1).trans rfl; have hfz74_0 := blk_frozen BK338.out 0; have hfz74_1 := blk_frozen BK338.out 1) | ((with_reducible refine gate_callee (f := 60) rfl ?_); refine goesM_ (some 28) rfl rfl Try.func60 #[.pointer (some ⟨g, 0, none⟩), .int .i64 30] ?_; (with_reducible refine (spec_l1Below.calls g s0_0 t351 t352 30 t353 t354 t355 w0 _ ?side1 ?side2 A28.out).mono ?_); (case side1 => exact si HI0.out); (case side2 => exact bi HB.out); rintro e w75 ⟨rfl, hi, hb, hk⟩; refine ⟨_, rfl, ?_⟩; have n0_ := Aside0.mk (Kd.Q_mono (Kd.Q_keep (IsS107.apartQ (show IsS107 w0 _ g s0_0 t351 t352 from si HI0.out) (kq ((Kd.Q_mono (Kd.Q_far (p := ⟨gb338, 1, none⟩) (Kd.Q_types HO_339000.out BK338.out (by decide)) (fun _ hk => hk.2) (.int .i64 t350)) (fun _ h_ => h_.1)))) (by decide)) hk (fun _ h => h.2)) (fun _ h => h.1)); have n1_ := Aside0.mk (KeepBut.blk hk (g' := gb332) (o := .cells #[.slice A1_0 l1_0.length c1_0] 29 (0, 0)) (kf BK332.out) NB332_0.out (by simp)); have n2_ := Aside0.mk (KeepBut.blk hk (g' := gb333) (o := .cells #[.slice none 0 0, .int .i64 0] 32 (0, 0)) (kf BK333.out) NB333_0.out (by simp)); have n3_ := Aside0.mk (KeepBut.blk hk (g' := gb338) (o := .cells #[u339000, .int .i64 t350] 32 (0, 0)) (kt BK338.out) NB338_0.out (by simp)); have n4_ := Aside0.mk (KeepBut.trans (kp HK.out) hk (.inl rfl)); have n5_ := Aside0.mk (hb); have n6_ := Aside0.mk (hi); clear HO_339000; clear BK332; clear BK333; clear BK338; clear HK; clear HB; clear HI0; have HO_339000 := n0_; have BK332 := n1_; have BK333 := n2_; have BK338 := n3_; have HK := n4_; have HB := n5_; have HI0 := n6_; clear n0_ n1_ n2_ n3_ n4_ n5_ n6_; (try clear hb); (try clear hb2); (try clear hk); (try clear hi); have hcz76_0 : w75.cell? ⟨gb338, 0, none⟩ = some (u339000) := (blk_cell BK338.out 0).trans rfl; have hcz76_1 : w75.cell? ⟨gb338, 1, none⟩ = some (.int .i64 t350) := (blk_cell BK338.out 1).trans rfl; have hfz76_0 := blk_frozen BK338.out 0; have hfz76_1 := blk_frozen BK338.out 1; have p66 : 0 ≤ (256 : Int) := (by omega); have q66 : (256 : Int) < ((x339000_1.length : Int) : Int) := dt; have qi66 : (256 < x339000_1.length) = True := eq_true (by omega); obtain ⟨go66, oo66, co66, eo66, gb66, gl66, cl66, HG66⟩ := Kd.Q_form HO_339000.out (by omega); (first | cases eo66 | (injection eo66 with ea_ en_ ec_; (first | subst ea_ | (injection ea_ with ea_; subst ea_)); subst ec_; clear en_)); have GB66 := Aside0.mk gb66; have GG66 := Aside0.mk HG66; clear gb66 gl66 HG66; obtain ⟨hx66_0, hf66_0⟩ := Kd.Q_cell 0 HO_339000.out (256 : Int) p66 q66; (try rw [show ((256 : Int)).toNat = 256 from rfl] at hx66_0); (try simp only [Nat.reduceMul, Nat.zero_mul, Nat.zero_add, Nat.reduceAdd] at hx66_0); (try rw [show ((256 : Int)).toNat = 256 from rfl] at hf66_0); (try simp only [Nat.reduceMul, Nat.zero_mul, Nat.zero_add, Nat.reduceAdd] at hf66_0); replace p66 := eq_true p66; replace q66 := eq_true q66; obtain ⟨hy77_, hz77_⟩ := Kd.Q_cell 0 HO_339000.out (256 : Int) (by omega) dt; (try simp only [Int.reduceToNat, Int.toNat_zero, Int.toNat_ofNat, Nat.reduceMul, Nat.zero_mul, Nat.zero_add] at hy77_ hz77_); (try rw [show ((256 : Int)).toNat = 256 from rfl] at hy77_); (try rw [show ((256 : Int)).toNat = 256 from rfl] at hz77_); have HP77 := Kd.Q_putg HO_339000.out (256 : Int) (by omega) (by have h_ : (256 : Int) < ((x339000_1.length : Int) : Int) := dt; first | exact h_ | (have e_ := (Kd.Q_reads' HO_339000.out).1; omega) | simpa using h_) 256) | ((with_reducible refine gate_store (t := 3) (p := 45) rfl ?_); refine store_event (t := 3) (p := 45) (v := ?vo_w78) (w1 := (w75.setCell ⟨go66, oo66 + (256 : Int).toNat, none⟩ (.int .i64 256))) ?hg ?ho ?hn ?hr ?_; (case ho => rfl); (case hg => rfl); (case hn => rfl); (case hr => first | (go_simp; done) | (go_simp; rfl)); intro w78 hw; have hg : w75.grownBy w78 (some go66) := (by rw [hw]; exact HP77.2); have hp_ : Kd.Q (Kd.int .i64) 3 w78 w.heap.size (fun _ => True) (.slice (some ⟨go66, oo66, none⟩) x339000_1.length co66) y365 := (by rw [hw, Ny365.out]; exact HP77.1); clear HP77; have n0_ := Aside0.mk (hp_); have n1_ := Aside0.mk (blk_grown (g := gb332) (o := .cells #[.slice A1_0 l1_0.length c1_0] 29 (0, 0)) (kb BK332.out) hg (Kd.Q_ne HO_339000.out BK332.out (by decide))); have n2_ := Aside0.mk (blk_grown (g := gb333) (o := .cells #[.slice none 0 0, .int .i64 0] 32 (0, 0)) (kb BK333.out) hg (Kd.Q_ne HO_339000.out BK333.out (by decide))); have n3_ := Aside0.mk (blk_grown (g := gb338) (o := .cells #[.slice (some ⟨go66, oo66, none⟩) x339000_1.length co66, .int .i64 t350] 32 (0, 0)) (kb BK338.out) hg (Kd.Q_ne HO_339000.out BK338.out (by decide))); have n4_ := Aside0.mk (IsS107.grown (si HI0.out) hg (IsS107.own_neQ HI0.out HO_339000.out (by decide))); have n5_ := Aside0.mk ((by rw [hw]; exact below_set (HB.out) (Nat.le_trans HL.out GB66.out) : Below w0.heap.size w0 w78)); have n6_ := Aside0.mk (KeepBut.trans (kp HK.out) (KeepBut.of_grown hg g) (Kd.Q_base2 HO_339000.out)); clear HO_339000; clear BK332; clear BK333; clear BK338; clear HI0; clear HB; clear HK; have HO_339000 := n0_; have BK332 := n1_; have BK333 := n2_; have BK338 := n3_; have HI0 := n4_; have HB := n5_; have HK := n6_; clear n0_ n1_ n2_ n3_ n4_ n5_ n6_; clear hg hw hp_; have hcz79_0 : w78.cell? ⟨gb338, 0, none⟩ = some (.slice (some ⟨go66, oo66, none⟩) x339000_1.length co66) := (blk_cell BK338.out 0).trans rfl; have hcz79_1 : w78.cell? ⟨gb338, 1, none⟩ = some (.int .i64 t350) := (blk_cell BK338.out 1).trans rfl; have hfz79_0 := blk_frozen BK338.out 0; have hfz79_1 := blk_frozen BK338.out 1; have hnb80 := NB333_0.out; have hnc80 := NB0_333.out; have hcz81_0 : w78.cell? ⟨gb333, 0, none⟩ = some (.slice none 0 0) := (blk_cell BK333.out 0).trans rfl; have hcz81_1 : w78.cell? ⟨gb333, 1, none⟩ = some (.int .i64 0) := (blk_cell BK333.out 1).trans rfl; have hfz81_0 := blk_frozen BK333.out 0; have hfz81_1 := blk_frozen BK333.out 1))
        refine bodyPost_ret (results_cell_row rfl _ _ gb333 32 #[.slice (some ⟨go66, oo66, none⟩) x339000_1.length co66, .int .i64 t350] (0, 0) _ rfl (by (with_reducible repeat (first | refine blk_drewN ?_ _ | refine blk_drew ?_ | refine blk_alloc ?_ _)); refine blk_put (cs := #[.slice (some ⟨go66, oo66, none⟩) x339000_1.length co66, .int .i64 0]) ?_ 1 _ rfl; (with_reducible repeat (first | refine blk_drewN ?_ _ | refine blk_drew ?_ | refine blk_alloc ?_ _)); refine blk_put (cs := #[.slice none 0 0, .int .i64 0]) ?_ 0 _ rfl; (with_reducible repeat (first | refine blk_drewN ?_ _ | refine blk_drew ?_ | refine blk_alloc ?_ _)); exact BK333.out) Try.underlying32 rfl (by kernel_rfl)) rfl ?_
        exact ⟨_, rt, kq (Kd.Q_mono (Kd.Q_far (p := ⟨gb333, 1, none⟩) (Kd.Q_far (p := ⟨gb333, 0, none⟩) (Kd.Q_types HO_339000.out BK333.out (by decide)) (fun _ hk => hk.2) (.slice (some ⟨go66, oo66, none⟩) x339000_1.length co66)) (fun _ hk => hk.2) (.int .i64 t350)) (fun _ hk => trivial)), si HI0.out, bi HB.out, kp HK.out⟩
       ·rw [if_neg c65] at H
        exact absurd H (by simp)
      ·rw [if_neg c64] at H
       have c64b0 : (t353 == 2) = false := beq_eq_false_iff_ne.mpr c64
       have c64b1 : (t353 != 2) = true := bne_iff_ne.mpr c64
       simp only [Option.some.injEq, Prod.mk.injEq] at H
       obtain ⟨rfl, rfl, rfl, rfl⟩ := H
       have hnb82 := NB332_333.out
       have hnc82 := NB333_332.out
       have hnb83 := NB332_338.out
       have hnc83 := NB338_332.out
       have hnb84 := NB332_0.out
       have hnc84 := NB0_332.out
       have hcz85_0 : wr.cell? ⟨gb332, 0, none⟩ = some (.slice A1_0 l1_0.length c1_0) := (blk_cell BK332.out 0).trans rfl
       have hfz85_0 := blk_frozen BK332.out 0
       go_wp2_with (first | ((with_reducible refine gate_callee (f := 117) rfl ?_); refine goesM_ (some 24) rfl rfl Try.func117 #[.int .i64 (l1_0.length : Int), .int .i64 1] ?_; (with_reducible refine (spec_l1Max.calls (l1_0.length : Int) 1 t349 _ A26.out).mono ?_); rintro e w' ⟨rfl, ⟨nd, rfl⟩⟩; refine ⟨_, rfl, ?_⟩; (try (rw [drewN_self wr]; generalize hq_ : World.drewN wr _ = wr; have n0_ : Aside0 (Kd.Q (Kd.int .i64) 3 wr w.heap.size (fun _ => True) u339000 x339000_1) := ⟨by rw [← hq_]; exact (kq HO_339000.out)⟩; have n1_ : Aside0 (wr.heap[gb332]? = some (.cells #[.slice A1_0 l1_0.length c1_0] 29 (0, 0))) := ⟨by rw [← hq_]; exact (kb BK332.out)⟩; have n2_ : Aside0 (wr.heap[gb333]? = some (.cells #[.slice none 0 0, .int .i64 0] 32 (0, 0))) := ⟨by rw [← hq_]; exact (kb BK333.out)⟩; have n3_ : Aside0 (wr.heap[gb338]? = some (.cells #[u339000, .int .i64 t337] 32 (0, 0))) := ⟨by rw [← hq_]; exact (kb BK338.out)⟩; have n4_ : Aside0 (IsS107 w0 wr g s0_0 x1001_1 x1002_1) := ⟨by rw [← hq_]; exact (si HI0.out)⟩; have n5_ : Aside0 (KeepBut w wr g none) := ⟨by rw [← hq_]; exact (kp HK.out)⟩; have n6_ : Aside0 (Below w0.heap.size w0 wr) := ⟨by rw [← hq_]; exact (bi HB.out)⟩; clear HO_339000 BK332 BK333 BK338 HI0 HK HB hq_; have HO_339000 := n0_; have BK332 := n1_; have BK333 := n2_; have BK338 := n3_; have HI0 := n4_; have HK := n5_; have HB := n6_; clear n0_ n1_ n2_ n3_ n4_ n5_ n6_))) | ((with_reducible refine gate_callee (f := 60) rfl ?_); refine goesM_ (some 25) rfl rfl Try.func60 #[.pointer (some ⟨g, 0, none⟩), .int .i64 t349] ?_; (with_reducible refine (spec_l1Below.calls g s0_0 x1001_1 x1002_1 t349 t350 t351 t352 w0 _ ?side1 ?side2 A27.out).mono ?_); (case side1 => exact si HI0.out); (case side2 => exact bi HB.out); rintro e w86 ⟨rfl, hi, hb, hk⟩; refine ⟨_, rfl, ?_⟩; have n0_ := Aside0.mk (Kd.Q_mono (Kd.Q_keep (IsS107.apartQ (show IsS107 w0 _ g s0_0 x1001_1 x1002_1 from si HI0.out) (kq HO_339000.out) (by decide)) hk (fun _ h => h.2)) (fun _ h => h.1)); have n1_ := Aside0.mk (KeepBut.blk hk (g' := gb332) (o := .cells #[.slice A1_0 l1_0.length c1_0] 29 (0, 0)) (kb BK332.out) NB332_0.out (by simp)); have n2_ := Aside0.mk (KeepBut.blk hk (g' := gb333) (o := .cells #[.slice none 0 0, .int .i64 0] 32 (0, 0)) (kb BK333.out) NB333_0.out (by simp)); have n3_ := Aside0.mk (KeepBut.blk hk (g' := gb338) (o := .cells #[u339000, .int .i64 t337] 32 (0, 0)) (kb BK338.out) NB338_0.out (by simp)); have n4_ := Aside0.mk (KeepBut.trans (kp HK.out) hk (.inl rfl)); have n5_ := Aside0.mk (hb); have n6_ := Aside0.mk (hi); clear HO_339000; clear BK332; clear BK333; clear BK338; clear HK; clear HB; clear HI0; have HO_339000 := n0_; have BK332 := n1_; have BK333 := n2_; have BK338 := n3_; have HK := n4_; have HB := n5_; have HI0 := n6_; clear n0_ n1_ n2_ n3_ n4_ n5_ n6_; (try clear hb); (try clear hb2); (try clear hk); (try clear hi); have hnb87 := NB338_333.out; have hnc87 := NB333_338.out; have hnb88 := NB338_0.out; have hnc88 := NB0_338.out; have hcz89_0 : w86.cell? ⟨gb338, 0, none⟩ = some (u339000) := (blk_cell BK338.out 0).trans rfl; have hcz89_1 : w86.cell? ⟨gb338, 1, none⟩ = some (.int .i64 t337) := (blk_cell BK338.out 1).trans rfl; have hfz89_0 := blk_frozen BK338.out 0; have hfz89_1 := blk_frozen BK338.out 1) | ((with_reducible refine gate_callee (f := 60) rfl ?_); refine goesM_ (some 28) rfl rfl Try.func60 #[.pointer (some ⟨g, 0, none⟩), .int .i64 30] ?_; (with_reducible refine (spec_l1Below.calls g s0_0 t351 t352 30 t353 t354 t355 w0 _ ?side1 ?side2 A28.out).mono ?_); (case side1 => exact si HI0.out); (case side2 => exact bi HB.out); rintro e w90 ⟨rfl, hi, hb, hk⟩; refine ⟨_, rfl, ?_⟩; have n0_ := Aside0.mk (Kd.Q_mono (Kd.Q_keep (IsS107.apartQ (show IsS107 w0 _ g s0_0 t351 t352 from si HI0.out) (kq ((Kd.Q_mono (Kd.Q_far (p := ⟨gb338, 1, none⟩) (Kd.Q_types HO_339000.out BK338.out (by decide)) (fun _ hk => hk.2) (.int .i64 t350)) (fun _ h_ => h_.1)))) (by decide)) hk (fun _ h => h.2)) (fun _ h => h.1)); have n1_ := Aside0.mk (KeepBut.blk hk (g' := gb332) (o := .cells #[.slice A1_0 l1_0.length c1_0] 29 (0, 0)) (kf BK332.out) NB332_0.out (by simp)); have n2_ := Aside0.mk (KeepBut.blk hk (g' := gb333) (o := .cells #[.slice none 0 0, .int .i64 0] 32 (0, 0)) (kf BK333.out) NB333_0.out (by simp)); have n3_ := Aside0.mk (KeepBut.blk hk (g' := gb338) (o := .cells #[u339000, .int .i64 t350] 32 (0, 0)) (kt BK338.out) NB338_0.out (by simp)); have n4_ := Aside0.mk (KeepBut.trans (kp HK.out) hk (.inl rfl)); have n5_ := Aside0.mk (hb); have n6_ := Aside0.mk (hi); clear HO_339000; clear BK332; clear BK333; clear BK338; clear HK; clear HB; clear HI0; have HO_339000 := n0_; have BK332 := n1_; have BK333 := n2_; have BK338 := n3_; have HK := n4_; have HB := n5_; have HI0 := n6_; clear n0_ n1_ n2_ n3_ n4_ n5_ n6_; (try clear hb); (try clear hb2); (try clear hk); (try clear hi); have hcz91_0 : w90.cell? ⟨gb338, 0, none⟩ = some (u339000) := (blk_cell BK338.out 0).trans rfl; have hcz91_1 : w90.cell? ⟨gb338, 1, none⟩ = some (.int .i64 t350) := (blk_cell BK338.out 1).trans rfl; have hfz91_0 := blk_frozen BK338.out 0; have hfz91_1 := blk_frozen BK338.out 1; obtain ⟨Ao92, co92, eo92, _⟩ := Kd.Q_slice HO_339000.out; subst eo92; have hnb93 := NB333_0.out; have hnc93 := NB0_333.out; have hcz94_0 : w90.cell? ⟨gb333, 0, none⟩ = some (.slice none 0 0) := (blk_cell BK333.out 0).trans rfl; have hcz94_1 : w90.cell? ⟨gb333, 1, none⟩ = some (.int .i64 0) := (blk_cell BK333.out 1).trans rfl; have hfz94_0 := blk_frozen BK333.out 0; have hfz94_1 := blk_frozen BK333.out 1))
       refine bodyPost_ret (results_cell_row rfl _ _ gb333 32 #[.slice Ao92 x339000_1.length co92, .int .i64 t350] (0, 0) _ rfl (by (with_reducible repeat (first | refine blk_drewN ?_ _ | refine blk_drew ?_ | refine blk_alloc ?_ _)); refine blk_put (cs := #[.slice Ao92 x339000_1.length co92, .int .i64 0]) ?_ 1 _ rfl; (with_reducible repeat (first | refine blk_drewN ?_ _ | refine blk_drew ?_ | refine blk_alloc ?_ _)); refine blk_put (cs := #[.slice none 0 0, .int .i64 0]) ?_ 0 _ rfl; (with_reducible repeat (first | refine blk_drewN ?_ _ | refine blk_drew ?_ | refine blk_alloc ?_ _)); exact BK333.out) Try.underlying32 rfl (by kernel_rfl)) rfl ?_
       exact ⟨_, rt, kq (Kd.Q_mono (Kd.Q_far (p := ⟨gb333, 1, none⟩) (Kd.Q_far (p := ⟨gb333, 0, none⟩) (Kd.Q_types HO_339000.out BK333.out (by decide)) (fun _ hk => hk.2) (.slice Ao92 x339000_1.length co92)) (fun _ hk => hk.2) (.int .i64 t350)) (fun _ hk => trivial)), si HI0.out, bi HB.out, kp HK.out⟩

end Go.Proofs.Ytmkccgbfgebfbaa.MFnMemory
