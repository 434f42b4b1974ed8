/- Walks of functions that the law FnRegions reaches: each comes to just what its Lean function says. (Begun as the texts that print.sh wrote for this claim; some of them, and those that it does not write, are mine.) No condition. -/
import Derived.Test.YtmkccgbfgebfbaaMFnRegionsx2
namespace Go.Proofs.Ytmkccgbfgebfbaa.MFnRegions
open Go.RowKit Go.Proofs.YtmkccgbfgebfbaaW.PrintWords Go.Proofs.YtmkccgbfgebfbaaW.PrintLast Go.Proofs.YtmkccgbfgebfbaaW.PrintMore
attribute [local go_sem] max2_int min2_int max_two min_two max_three min_three max_four min_four   -- for this text's walks alone
set_option linter.unusedVariables false
set_option linter.unusedSimpArgs false

/-! ### spec_l2DrawRight: function 69 -/
def last6 (r : List Int) : List Int := (((((r.set 250 128).set 251 192).set 252 0).set 253 192).set 254 160).set 255 192
/-- The last bank, with what stands at its end. -/
def lastSix (x : List (List Int)) (i : Int) : List (List Int) := x.set i.toNat (last6 (rd_L3 x i))
def six (W : World) (g : Nat) : World := (((((W.setCell ⟨g, 250, none⟩ (.int .i64 128)).setCell ⟨g, 251, none⟩ (.int .i64 192)).setCell ⟨g, 252, none⟩ (.int .i64 0)).setCell ⟨g, 253, none⟩ (.int .i64 192)).setCell ⟨g, 254, none⟩ (.int .i64 160)).setCell ⟨g, 255, none⟩ (.int .i64 192)
theorem six_heap (W : World) (g k : Nat) (h : k ≠ g) : (six W g).heap[k]? = W.heap[k]? := by
 unfold six
 refine (Below.heap_setCell _ _ _ k h).trans ?_
 refine (Below.heap_setCell _ _ _ k h).trans ?_
 refine (Below.heap_setCell _ _ _ k h).trans ?_
 refine (Below.heap_setCell _ _ _ k h).trans ?_
 refine (Below.heap_setCell _ _ _ k h).trans ?_
 exact Below.heap_setCell _ _ _ k h
theorem six_below {B : World} {W : World} {g : Nat} (h : Below B.heap.size B W) (hg : B.heap.size ≤ g) : Below B.heap.size B (six W g) := below_set (below_set (below_set (below_set (below_set (below_set h hg) hg) hg) hg) hg) hg
theorem six_blk {W : World} {g b : Nat} {t : TypeId} {cs : Array Value} (h : W.heap[b]? = some (.cells cs t (0, 0))) (hne : b ≠ g) : (six W g).heap[b]? = some (.cells cs t (0, 0)) := (six_heap W g b hne).trans h
theorem six_keep {w W : World} {g gl : Nat} {row : Option Nat} (h : KeepBut w W g row) (hg : w.heap.size ≤ gl) : KeepBut w (six W gl) g row := keep_far (keep_far (keep_far (keep_far (keep_far (keep_far h hg _) hg _) hg _) hg _) hg _) hg _
theorem six_ok {W : World} {base : Nat} {ok : Nat → Prop} {ad : Addr} {n cap : Nat} {X : List (List Int)} (h : Kd.S (Kd.slice 3 (Kd.int .i64)) 30 W base ok (.slice (some ad) n cap) X) (i : Int) (h0 : 0 ≤ i) (h1 : i < (X.length : Int)) {A : Option Addr} {c : Nat}
  (hx : W.cell? (ad.add i.toNat) = some (.slice A (rd_L3 X i).length c)) (h256 : (rd_L3 X i).length = 256) :
  ∃ gl, A = some ⟨gl, 0, none⟩ ∧ base ≤ gl ∧ (∃ cells, W.heap[gl]? = some (.cells cells 3 (0, 0))) ∧ (∀ j : Nat, j < 256 → W.cell? ⟨gl, j, none⟩ = some (.int .i64 (rdOf 0 (rd_L3 X i) (j : Int))) ∧ W.frozen? ⟨gl, j, none⟩ = false) ∧
   Kd.S (Kd.slice 3 (Kd.int .i64)) 30 (six W gl) base ok (.slice (some ad) n cap) (lastSix X i) := by
 obtain ⟨go, rfl⟩ := Kd.R_head (Kd.S_R h)
 have hn := (Kd.S_reads' h).1
 obtain ⟨oki, cc, hcl, hM, hcc, hoki, hH⟩ := Kd.S_lend h [] i h0 (by omega)
 obtain ⟨v, rfl, hR⟩ : ∃ v, cc = [v] ∧ Kd.R (Kd.int .i64) 3 W base oki v (X.getD i.toNat []) := hM
 have hv := hcc 0 v rfl
 rw [add_plain] at hx
 have e1 : i.toNat * (Kd.slice 3 (Kd.int .i64)).sz + 0 = i.toNat := Nat.mul_one _
 rw [e1, hx] at hv
 obtain rfl := Option.some.inj hv
 have e2 : X.getD i.toNat [] = rd_L3 X i := rfl
 rw [e2] at hR
 obtain ⟨gl, cap', e3, hg, hgl, hcells⟩ := Kd.R_form hR (by omega)
 obtain ⟨rfl, _, rfl⟩ : A = some ⟨gl, 0, none⟩ ∧ True ∧ c = cap' := by
  injection e3 with a1 a2 a3
  exact ⟨a1, trivial, a3⟩
 have hok : oki gl := hR.1 gl rfl
 refine ⟨gl, rfl, hg, hcells, fun j j1 => Kd.R_celln 0 hR (j : Int) (by omega) (by omega), ?_⟩
 have r6 : Kd.R (Kd.int .i64) 3 (six W gl) base oki (.slice (some ⟨gl, 0, none⟩) (rd_L3 X i).length c) (last6 (rd_L3 X i)) := by
  unfold six last6
  exact Kd.R_putn (Kd.R_putn (Kd.R_putn (Kd.R_putn (Kd.R_putn (Kd.R_putn hR 250 128) 251 192) 252 0) 253 192) 254 160) 255 192
 exact Kd.H_back (Kd.H_step hH (fun k _ hn _ => six_heap W gl k (fun e => hn (e ▸ hok)))) ⟨_, rfl, r6⟩ (fun _ hk => hk)
theorem six_state {w0 W : World} {g gl : Nat} {f0 : List Int} {f1 f2 : Int} (h : IsS107 w0 W g f0 f1 f2) (hne : g ≠ gl) : IsS107 w0 (six W gl) g f0 f1 f2 :=
 (((((h.far (p := ⟨gl, 250, none⟩) hne _).far (p := ⟨gl, 251, none⟩) hne _).far (p := ⟨gl, 252, none⟩) hne _).far (p := ⟨gl, 253, none⟩) hne _).far (p := ⟨gl, 254, none⟩) hne _).far (p := ⟨gl, 255, none⟩) hne _
def spec_l2DrawRight.l0 : Nat → Int → Int → List Int → Int → Int → List (List Int) → Option ((List (List Int)) × Int × Int)
 | 0, _, _, _, _, _, _ => none
 | k + 1, x4, x5, x1000, x1001, x1002, x253000 => if x5 < x4 then ((spec_l2DrawBank.f k x1000 x1001 x1002).bind fun bt256 => (if x253000.length < 5864062014805 then (spec_l2DrawRight.l0 k x4 (wrap64 (x5 + 1)) x1000 bt256.2.1 bt256.2.2 (x253000 ++ [bt256.1])) else (none))) else ((spec_l1Once.f x1000 x1001 x1002 4).bind fun bt264 => (if bt264.1 = true then (if 0 ≤ (wrap64 (x4 - 1)) then (if (wrap64 (x4 - 1)) < (x253000.length : Int) then (if (rd_L3 x253000 (wrap64 (x4 - 1))).length = 256 then (some (lastSix x253000 (wrap64 (x4 - 1)), bt264.2.1, bt264.2.2)) else (none)) else (none)) else (none)) else ((spec_l2Main.f x1000 bt264.2.1 bt264.2.2).bind fun bt268 => ((spec_Assemble.f k bt268.1).bind fun bt271 => (if (bt271.1.length : Int) = 256 then (if 0 ≤ (wrap64 (x4 - 1)) then (if (wrap64 (x4 - 1)) < (x253000.length : Int) then (if (rd_L3 (x253000.set ((wrap64 (x4 - 1)) : Int).toNat bt271.1) (wrap64 (x4 - 1))).length = 256 then (some (lastSix (x253000.set ((wrap64 (x4 - 1)) : Int).toNat bt271.1) (wrap64 (x4 - 1)), bt268.2.1, bt268.2.2)) else (none)) else (none)) else (none)) else (if 0 ≤ (wrap64 (x4 - 1)) then (if (wrap64 (x4 - 1)) < (x253000.length : Int) then (if (rd_L3 x253000 (wrap64 (x4 - 1))).length = 256 then (some (lastSix x253000 (wrap64 (x4 - 1)), bt268.2.1, bt268.2.2)) else (none)) else (none)) else (none)))))))
def spec_l2DrawRight.f (k : Nat) (s0_0 : List Int) (s0_1 : Int) (s0_2 : Int) : Option ((List (List Int)) × Int × Int) := (spec_l1Below.f s0_0 s0_1 s0_2 3).bind fun bt253 => (spec_l2DrawRight.l0 k (wrap64 (1 + bt253.1)) 0 s0_0 bt253.2.1 bt253.2.2 ([] : List (List Int)))
theorem spec_l2DrawRight.mono_l : ∀ k, (∀ y0 y1 y2 y3 y4 y5, LeO (spec_l2DrawRight.l0 k y0 y1 y2 y3 y4 y5) (spec_l2DrawRight.l0 (k + 1) y0 y1 y2 y3 y4 y5))
 | 0 => fun _ _ _ _ _ _ r h => by simp [spec_l2DrawRight.l0] at h
 | k + 1 => by
  have ih0 := spec_l2DrawRight.mono_l k
  ·intro y0 y1 y2 y3 y4 y5
   unfold spec_l2DrawRight.l0
   repeat' first
   | (with_reducible exact ih0 _ _ _ _ _ _)
   | (with_reducible exact spec_Assemble.mono _ _)
   | (with_reducible exact spec_l2DrawBank.mono _ _ _ _)
   | (with_reducible exact LeO.refl _)
   | (with_reducible exact LeO.none _)
   | (with_reducible refine LeO.ite ?_ ?_)
   | (with_reducible refine LeO.bind ?_ (fun _ => ?_))
   | exact ih0 _ _ _ _ _ _
   | exact spec_Assemble.mono _ _
   | exact spec_l2DrawBank.mono _ _ _ _
   | exact LeO.none _
   | refine LeO.ite ?_ ?_
   | refine LeO.bind ?_ (fun _ => ?_)
theorem spec_l2DrawRight.mono : ∀ a0 a1 a2 k, LeO (spec_l2DrawRight.f k a0 a1 a2) (spec_l2DrawRight.f (k + 1) a0 a1 a2) := by
 intro a0 a1 a2 k
 have ih0 := spec_l2DrawRight.mono_l k
 unfold spec_l2DrawRight.f
 repeat' first
   | (with_reducible exact ih0 _ _ _ _ _ _)
   | (with_reducible exact spec_Assemble.mono _ _)
   | (with_reducible exact spec_l2DrawBank.mono _ _ _ _)
   | (with_reducible exact LeO.refl _)
   | (with_reducible exact LeO.none _)
   | (with_reducible refine LeO.ite ?_ ?_)
   | (with_reducible refine LeO.bind ?_ (fun _ => ?_))
   | exact ih0 _ _ _ _ _ _
   | exact spec_Assemble.mono _ _
   | exact spec_l2DrawBank.mono _ _ _ _
   | exact LeO.none _
   | refine LeO.ite ?_ ?_
   | refine LeO.bind ?_ (fun _ => ?_)
def spec_l2DrawRight.T6 : Bool × List (List Nat × List Nat) := (true, [([], []), ([0], [0]), ([], []), ([2], [2]), ([3], [3]), ([1, 4, 3], [1, 4]), ([0, 1, 2, 3, 4, 5], []), ([6, 5, 5, 0, 1, 2, 3, 4, 5], [5, 6])])
def spec_l2DrawRight.B6 : List Nat := [0, 1, 0, 4, 12, 31, 63, 127]
theorem spec_l2DrawRight.tab6 : rtab .any (opsOf Try.f69 6) = spec_l2DrawRight.T6 := by kernel_rfl
theorem spec_l2DrawRight.bits6 : waitsOk spec_l2DrawRight.T6.2 spec_l2DrawRight.B6 = true := by kernel_rfl
set_option maxHeartbeats 8000000 in
set_option maxRecDepth 100000 in
theorem spec_l2DrawRight.calls (k : Nat) (g : Nat) (s0_0 : List Int) (s0_1 : Int) (s0_2 : Int) (r1 : List (List Int)) (r2 : Int) (r3 : Int) (w0 w : World) (hI : IsS107 w0 w g s0_0 s0_1 s0_2) (hB : Below w0.heap.size w0 w) (h : spec_l2DrawRight.f k s0_0 s0_1 s0_2 = some (r1, r2, r3)) :
  Calls Try.prog 69 #[.pointer (some ⟨g, 0, none⟩)] w fun e w' => ∃ v0_ : Value, e = .returned (.agg #[v0_]) ∧ Kd.S (Kd.slice 3 (Kd.int .i64)) 30 w' w.heap.size (fun _ => True) v0_ r1 ∧ IsS107 w0 w' g s0_0 r2 r3 ∧ Below w0.heap.size w0 w' ∧ KeepBut w w' g none := by
 have hu29 := Try.underlying29
 have HI0 := Aside0.mk hI
 have HK := Aside0.mk (KeepBut.refl w g none)
 have HL := Aside0.mk hB.size
 clear hI
 have HW0 := Aside0.mk hB.size
 have HB := Aside0.mk hB
 clear hB
 have H : ((spec_l1Below.f s0_0 s0_1 s0_2 3).bind fun bt253 => (spec_l2DrawRight.l0 k (wrap64 (1 + bt253.1)) 0 s0_0 bt253.2.1 bt253.2.2 ([] : List (List Int)))) = some (r1, r2, r3) := h
 clear h
 replace H := Option.bind_eq_some_iff.mp H
 obtain ⟨⟨t253, t254, t255⟩, A20, H⟩ := H
 replace H : (spec_l2DrawRight.l0 k (wrap64 (1 + t253)) 0 s0_0 t254 t255 ([] : List (List Int))) = some (r1, r2, r3) := H
 have A2 := Aside0.mk A20
 clear A20
 have H' := Aside0.mk H
 clear H
 go_enter Try.func69, Try.ntmps69
 go_wp2_with (first | ((with_reducible refine gate_dst (N := 2) rfl ?_); refine box_event ?hg (N := 2) ?hd (cs := #[.slice none 0 0]) (t := 29) ?hr ?_; (case hd => rfl); (case hg => rfl); (case hr => first | (go_simp; done) | (go_simp; rfl)); intro gb251 hg w3 hbox hb; have n0_ := Aside0.mk (IsS107.below (by repeat (first | (with_reducible first | exact HI0.out | apply IsS107.alloc | apply IsS107.drewN | apply IsS107.drew | apply IsS107.set_1 | apply IsS107.set_2) | exact HI0.out)) hb); have n1_ := Aside0.mk (KeepBut.trans (by repeat (first | (with_reducible first | exact HK.out | apply KeepBut.set_ | apply keep_drewN | apply keep_drew | apply keep_alloc) | exact HK.out)) (KeepBut.of_below hb g none) (.inl rfl)); have n2_ := Aside0.mk (below_step (by repeat (first | (with_reducible first | exact HB.out | apply below_alloc | apply pw_below_drewN | apply below_drew1 | refine below_set ?_ (IsS107.ge HI0.out)) | exact HB.out)) hb); have n3_ := Aside0.mk (hbox); have n4_ := Aside0.mk ((by rw [hg]; exact (keep_size (w := w) (g := g) (row := none) (by repeat (first | (with_reducible first | exact HK.out | apply KeepBut.set_ | apply keep_drewN | apply keep_drew | apply keep_alloc) | exact HK.out))) : w.heap.size ≤ gb251)); have n5_ := Aside0.mk ((Nat.le_trans HW0.out (by rw [hg]; exact (keep_size (w := w) (g := g) (row := none) (by repeat (first | (with_reducible first | exact HK.out | apply KeepBut.set_ | apply keep_drewN | apply keep_drew | apply keep_alloc) | exact HK.out))) : w.heap.size ≤ gb251) : w0.heap.size ≤ gb251)); have n6_ := Aside0.mk ((by rw [hg]; exact Nat.ne_of_lt (IsS107.lt (show IsS107 w0 _ g s0_0 s0_1 s0_2 from by repeat (first | (with_reducible first | exact HI0.out | apply IsS107.alloc | apply IsS107.drewN | apply IsS107.drew | apply IsS107.set_1 | apply IsS107.set_2) | exact HI0.out))) : g ≠ gb251)); have n7_ := Aside0.mk ((by rw [hg]; exact Nat.ne_of_gt (IsS107.lt (show IsS107 w0 _ g s0_0 s0_1 s0_2 from by repeat (first | (with_reducible first | exact HI0.out | apply IsS107.alloc | apply IsS107.drewN | apply IsS107.drew | apply IsS107.set_1 | apply IsS107.set_2) | exact HI0.out))) : gb251 ≠ g)); clear HI0; clear HK; clear HB; have HI0 := n0_; have HK := n1_; have HB := n2_; have BK251 := n3_; have GW251 := n4_; have GE251 := n5_; have NB0_251 := n6_; have NB251_0 := n7_; clear n0_ n1_ n2_ n3_ n4_ n5_ n6_ n7_; clear hb hbox hg) | ((with_reducible refine gate_dst (N := 3) rfl ?_); refine box_event ?hg (N := 3) ?hd (cs := #[.slice none 0 0]) (t := 29) ?hr ?_; (case hd => rfl); (case hg => rfl); (case hr => first | (go_simp; done) | (go_simp; rfl)); intro gb252 hg w4 hbox hb; have n0_ := Aside0.mk (IsS107.below (by repeat (first | (with_reducible first | exact HI0.out | apply IsS107.alloc | apply IsS107.drewN | apply IsS107.drew | apply IsS107.set_1 | apply IsS107.set_2 | refine IsS107.far ?_ NB0_251.out _) | exact HI0.out)) hb); have n1_ := Aside0.mk (blk_below (g := gb251) (o := .cells #[.slice none 0 0] 29 (0, 0)) (by (with_reducible repeat (first | refine blk_drewN ?_ _ | refine blk_drew ?_ | refine blk_alloc ?_ _)); exact BK251.out) hb); have n2_ := Aside0.mk (KeepBut.trans (by repeat (first | (with_reducible first | exact HK.out | apply KeepBut.set_ | apply keep_drewN | apply keep_drew | apply keep_alloc | refine keep_far ?_ GW251.out _) | exact HK.out)) (KeepBut.of_below hb g none) (.inl rfl)); have n3_ := Aside0.mk (below_step (by repeat (first | (with_reducible first | exact HB.out | apply below_alloc | apply pw_below_drewN | apply below_drew1 | refine below_set ?_ (IsS107.ge HI0.out) | refine below_set ?_ GE251.out) | exact HB.out)) hb); have n4_ := Aside0.mk (hbox); have n5_ := Aside0.mk ((by rw [hg]; exact (keep_size (w := w) (g := g) (row := none) (by repeat (first | (with_reducible first | exact HK.out | apply KeepBut.set_ | apply keep_drewN | apply keep_drew | apply keep_alloc | refine keep_far ?_ GW251.out _) | exact HK.out))) : w.heap.size ≤ gb252)); have n6_ := Aside0.mk ((Nat.le_trans HW0.out (by rw [hg]; exact (keep_size (w := w) (g := g) (row := none) (by repeat (first | (with_reducible first | exact HK.out | apply KeepBut.set_ | apply keep_drewN | apply keep_drew | apply keep_alloc | refine keep_far ?_ GW251.out _) | exact HK.out))) : w.heap.size ≤ gb252) : w0.heap.size ≤ gb252)); have n7_ := Aside0.mk ((by rw [hg]; exact Nat.ne_of_lt (blk_lt (g := gb251) (o := .cells #[.slice none 0 0] 29 (0, 0)) (by (with_reducible repeat (first | refine blk_drewN ?_ _ | refine blk_drew ?_ | refine blk_alloc ?_ _)); exact BK251.out)) : gb251 ≠ gb252)); have n8_ := Aside0.mk ((by rw [hg]; exact Nat.ne_of_gt (blk_lt (g := gb251) (o := .cells #[.slice none 0 0] 29 (0, 0)) (by (with_reducible repeat (first | refine blk_drewN ?_ _ | refine blk_drew ?_ | refine blk_alloc ?_ _)); exact BK251.out)) : gb252 ≠ gb251)); have n9_ := Aside0.mk ((by rw [hg]; exact Nat.ne_of_lt (IsS107.lt (show IsS107 w0 _ g s0_0 s0_1 s0_2 from by repeat (first | (with_reducible first | exact HI0.out | apply IsS107.alloc | apply IsS107.drewN | apply IsS107.drew | apply IsS107.set_1 | apply IsS107.set_2 | refine IsS107.far ?_ NB0_251.out _) | exact HI0.out))) : g ≠ gb252)); have n10_ := Aside0.mk ((by rw [hg]; exact Nat.ne_of_gt (IsS107.lt (show IsS107 w0 _ g s0_0 s0_1 s0_2 from by repeat (first | (with_reducible first | exact HI0.out | apply IsS107.alloc | apply IsS107.drewN | apply IsS107.drew | apply IsS107.set_1 | apply IsS107.set_2 | refine IsS107.far ?_ NB0_251.out _) | exact HI0.out))) : gb252 ≠ g)); clear HI0; clear BK251; clear HK; clear HB; have HI0 := n0_; have BK251 := n1_; have HK := n2_; have HB := n3_; have BK252 := n4_; have GW252 := n5_; have GE252 := n6_; have NB251_252 := n7_; have NB252_251 := n8_; have NB0_252 := n9_; have NB252_0 := n10_; clear n0_ n1_ n2_ n3_ n4_ n5_ n6_ n7_ n8_ n9_ n10_; clear hb hbox hg; have hnb5 := NB252_251.out; have hnc5 := NB251_252.out; have hnb6 := NB252_0.out; have hnc6 := NB0_252.out; have hcz7_0 : w4.cell? ⟨gb252, 0, none⟩ = some (.slice none 0 0) := (blk_cell BK252.out 0).trans rfl; have hfz7_0 := blk_frozen BK252.out 0) | ((with_reducible refine gate_callee (f := 60) rfl ?_); refine goesL_ (some 11) rfl rfl Try.func60 (by kernel_rfl) rfl #[.pointer (some ⟨g, 0, none⟩), .int .i64 3] rfl (by (try simp only [List.map_toArray, List.map_cons, List.map_nil]); first | done | rfl | (simp only [List.length_drop, List.length_take]; rfl)) ?_; (with_reducible refine (spec_l1Below.calls g s0_0 s0_1 s0_2 3 t253 t254 t255 w0 _ ?side1 ?side2 A2.out).mono ?_); (case side1 => repeat (first | (with_reducible first | exact HI0.out | apply IsS107.alloc | apply IsS107.drewN | apply IsS107.drew | apply IsS107.set_1 | apply IsS107.set_2 | refine IsS107.far ?_ NB0_251.out _ | refine IsS107.far ?_ NB0_252.out _) | exact HI0.out)); (case side2 => repeat (first | (with_reducible first | exact HB.out | apply below_alloc | apply pw_below_drewN | apply below_drew1 | refine below_set ?_ (IsS107.ge HI0.out) | refine below_set ?_ GE251.out | refine below_set ?_ GE252.out) | exact HB.out)); rintro e w8 ⟨rfl, hi, hb, hk⟩; refine ⟨_, rfl, ?_⟩; have n0_ := Aside0.mk (KeepBut.blk hk (g' := gb251) (o := .cells #[.slice none 0 0] 29 (0, 0)) (by (with_reducible repeat (first | refine blk_drewN ?_ _ | refine blk_drew ?_ | refine blk_alloc ?_ _)); refine blk_far ?_ NB251_252.out _; (with_reducible repeat (first | refine blk_drewN ?_ _ | refine blk_drew ?_ | refine blk_alloc ?_ _)); exact BK251.out) NB251_0.out (by simp)); have n1_ := Aside0.mk (KeepBut.blk hk (g' := gb252) (o := .cells #[.slice none 0 0] 29 (0, 0)) (by (with_reducible repeat (first | refine blk_drewN ?_ _ | refine blk_drew ?_ | refine blk_alloc ?_ _)); refine blk_put (cs := #[.slice none 0 0]) ?_ 0 _ rfl; (with_reducible repeat (first | refine blk_drewN ?_ _ | refine blk_drew ?_ | refine blk_alloc ?_ _)); exact BK252.out) NB252_0.out (by simp)); have n2_ := Aside0.mk (KeepBut.trans (by repeat (first | (with_reducible first | exact HK.out | apply KeepBut.set_ | apply keep_drewN | apply keep_drew | apply keep_alloc | refine keep_far ?_ GW251.out _ | refine keep_far ?_ GW252.out _) | exact HK.out)) hk (.inl rfl)); have n3_ := Aside0.mk (hb); have n4_ := Aside0.mk (hi); clear BK251; clear BK252; clear HK; clear HB; clear HI0; have BK251 := n0_; have BK252 := n1_; have HK := n2_; have HB := n3_; have HI0 := n4_; clear n0_ n1_ n2_ n3_ n4_; (try clear hb); (try clear hb2); (try clear hk); (try clear hi)))
 go_loopg [5] k (fun kq v5 w' => ∃ (x5_1 : Int) (x1001_1 : Int) (x1002_1 : Int) (x253000_1 : List (List Int)) (u253000 : Value), v5 = .int .i64 x5_1 ∧ Aside0 (spec_l2DrawRight.l0 kq (wrap64 (1 + t253)) x5_1 s0_0 x1001_1 x1002_1 x253000_1 = some (r1, r2, r3)) ∧ Aside0 (kq ≤ k) ∧ Aside0 (Kd.S (Kd.slice 3 (Kd.int .i64)) 30 w' w.heap.size (fun _ => True) u253000 x253000_1) ∧ Aside0 (w'.heap[gb251]? = some (.cells #[(.slice none 0 0)] 29 (0, 0))) ∧ Aside0 (w'.heap[gb252]? = some (.cells #[u253000] 29 (0, 0))) ∧ Aside0 (IsS107 w0 w' g s0_0 x1001_1 x1002_1) ∧ Aside0 (KeepBut w w' g none) ∧ Aside0 (Below w0.heap.size w0 w'))
 case atStart => exact ⟨(0), (t254), (t255), (([] : List (List Int))), (.slice none 0 0), (by first | rfl | (simp; done) | (simp [*]; done)), H', ⟨Nat.le_refl _⟩, ⟨by first | exact Kd.S_nil _ _ _ _ _ | exact Kd.N_nil _ _ _ _ _ | exact Kd.V_nil _ _ _ _ _ | exact Kd.Q_nil _ _ _ _ _ | exact Kd.R_nil _ _ _ _ _⟩, ⟨by (with_reducible repeat (first | refine blk_drewN ?_ _ | refine blk_drew ?_ | refine blk_alloc ?_ _)); exact BK251.out⟩, ⟨by (with_reducible repeat (first | refine blk_drewN ?_ _ | refine blk_drew ?_ | refine blk_alloc ?_ _)); exact BK252.out⟩, ⟨by repeat (first | (with_reducible first | exact HI0.out | apply IsS107.alloc | apply IsS107.drewN | apply IsS107.drew | apply IsS107.set_1 | apply IsS107.set_2 | refine IsS107.far ?_ NB0_251.out _ | refine IsS107.far ?_ NB0_252.out _) | exact HI0.out)⟩, ⟨by repeat (first | (with_reducible first | exact HK.out | apply KeepBut.set_ | apply keep_drewN | apply keep_drew | apply keep_alloc | refine keep_far ?_ GW251.out _ | refine keep_far ?_ GW252.out _) | exact HK.out)⟩, ⟨by repeat (first | (with_reducible first | exact HB.out | apply below_alloc | apply pw_below_drewN | apply below_drew1 | refine below_set ?_ (IsS107.ge HI0.out) | refine below_set ?_ GE251.out | refine below_set ?_ GE252.out) | exact HB.out)⟩⟩
 case round =>
  clear H'
  try clear p2
  try clear c5
  try clear c6
  try clear p6
  try clear hcz7_0
  try clear hfz7_0
  obtain ⟨x5_1, x1001_1, x1002_1, x253000_1, u253000, rfl, HA, HK1, HO_253000, BK251, BK252, HI0, HK, HB⟩ := hrel
  cases gk with
  | zero => exact absurd HA.out (by simp [spec_l2DrawRight.l0])
  | succ k1 =>
   have H := HA.out
   clear HA
   simp only [spec_l2DrawRight.l0] at H
   by_cases c9 : x5_1 < (wrap64 (1 + t253))
   ·rw [if_pos c9] at H
    have c9b0 : decide (x5_1 < (wrap64 (1 + t253))) = true := decide_eq_true c9
    clear c9
    replace H := Option.bind_eq_some_iff.mp H
    obtain ⟨⟨t256, t259, t260⟩, A100, H⟩ := H
    replace H : (if x253000_1.length < 5864062014805 then (spec_l2DrawRight.l0 k1 (wrap64 (1 + t253)) (wrap64 (x5_1 + 1)) s0_0 t259 t260 (x253000_1 ++ [t256])) else (none)) = some (r1, r2, r3) := H
    have A10 := Aside0.mk A100
    clear A100
    by_cases c11 : x253000_1.length < 5864062014805
    ·rw [if_pos c11] at H
     have LMc11 := Aside0.mk c11
     clear c11
     obtain ⟨y261, hy261⟩ : ∃ y_ : List (List Int), y_ = (x253000_1 ++ [t256]) := ⟨_, rfl⟩
     replace H : (spec_l2DrawRight.l0 k1 (wrap64 (1 + t253)) (wrap64 (x5_1 + 1)) s0_0 t259 t260 y261) = some (r1, r2, r3) := by first | (rw [hy261]; with_reducible exact H) | (have H2_ := (Option.bind_some _ _).symm.trans H; rw [hy261]; with_reducible exact H2_) | (have H2_ := (Option.bind_some _ _).symm.trans H; with_reducible exact H2_) | with_reducible exact H | (rw [hy261]; exact H) | exact H
     have Ny261 := Aside0.mk hy261
     clear hy261
     have H' := Aside0.mk H
     clear H
     try go_wp2
     have n0_ := Aside0.mk (Kd.S_drew HO_253000.out)
     have n1_ := Aside0.mk (blk_drew BK251.out)
     have n2_ := Aside0.mk (blk_drew BK252.out)
     have n3_ := Aside0.mk (IsS107.drew HI0.out)
     have n4_ := Aside0.mk (keep_drew HK.out)
     have n5_ := Aside0.mk (below_drew1 HB.out)
     clear HO_253000
     clear BK251
     clear BK252
     clear HI0
     clear HK
     clear HB
     have HO_253000 := n0_
     have BK251 := n1_
     have BK252 := n2_
     have HI0 := n3_
     have HK := n4_
     have HB := n5_
     clear n0_ n1_ n2_ n3_ n4_ n5_
     refine start_ (n := 8) (S := fun w' => w'.cell? ⟨gb252, 0, none⟩ = some (u253000)) (ds := [7]) #[false, false, false, false, false, false, false, false] (by kernel_rfl) rfl rfl ((blk_cell BK252.out 0).trans rfl) (fun hHeld => ?_); refine with_tabW spec_l2DrawRight.tab6 spec_l2DrawRight.bits6 (fun HT_ HW_ => ?_)
     generalize wr.drew = w12 at HO_253000 BK251 BK252 HI0 HK HB hHeld ⊢
     refine pure_ (i := 0) (N := some 18) (v := ?_) (a' := ?_) #[true, false, false, false, false, false, false, false] rfl rfl (any_of HT_.out (by kernel_rfl)) (fun _ _ _ h => h) (Or.inl ⟨by rfl, ?_⟩) ?_ ?_
     rotate_left
     ·intro w'
      go_simp
      with_reducible rfl
     rotate_left
     ·simp only [Act.put, List.setIfInBounds_toArray, List.set_cons_zero, List.set_cons_succ, i64_w, i32_w]
      rfl
     refine pure_ (i := 2) (N := some 20) (v := ?_) (a' := ?_) #[true, false, true, false, false, false, false, false] rfl rfl (any_of HT_.out (by kernel_rfl)) (fun _ _ _ h => h) (Or.inl ⟨by rfl, ?_⟩) ?_ ?_
     rotate_left
     ·intro w'
      go_simp
      with_reducible rfl
     rotate_left
     ·simp only [Act.put, List.setIfInBounds_toArray, List.set_cons_zero, List.set_cons_succ, i64_w, i32_w]
      rfl
     refine take_ (i := 1) (N := some 19) (v := ?_) (a' := ?_) #[true, true, true, false, false, false, false, false] rfl rfl (take_ofW HT_.out HW_.out (by kernel_rfl)) (fun _ _ _ h => h) (Or.inl ⟨by rfl, ?_⟩) hHeld ?_ ?_
     rotate_left
     ·intro w' s0
      go_simp
      with_reducible rfl
     rotate_left
     ·simp only [Act.put, List.setIfInBounds_toArray, List.set_cons_zero, List.set_cons_succ, i64_w, i32_w]
      rfl
     refine one_ (i := 3) (N := some 21) #[true, true, true, true, false, false, false, false] rfl rfl (one_of HT_.out (by kernel_rfl)) (by decide) (fun K hK => ?_)
     refine goes_ Try.func105 (by kernel_rfl) rfl #[.pointer (some ⟨g, 0, none⟩)] (by rfl) rfl rfl (by (try simp only [List.map_toArray, List.map_cons, List.map_nil]); first | done | rfl | (simp only [List.length_drop, List.length_take]; rfl)) ?_
     with_reducible refine (spec_l2DrawBank.calls k1 g s0_0 x1001_1 x1002_1 t256 t259 t260 w0 _ ?side1 ?side2 A10.out).mono ?_
     (case side1 => repeat (first | (with_reducible first | exact HI0.out | apply IsS107.alloc | apply IsS107.drewN | apply IsS107.drew | apply IsS107.set_1 | apply IsS107.set_2 | refine IsS107.far ?_ NB0_251.out _ | refine IsS107.far ?_ NB0_252.out _) | exact HI0.out))
     (case side2 => repeat (first | (with_reducible first | exact HB.out | apply below_alloc | apply pw_below_drewN | apply below_drew1 | refine below_set ?_ (IsS107.ge HI0.out) | refine below_set ?_ GE251.out | refine below_set ?_ GE252.out) | exact HB.out))
     rintro e w13 ⟨v257, rfl, ho0, hi, hb, hk⟩
     refine ⟨_, rfl, ?_⟩
     have n0_ := Aside0.mk (Kd.S_mono (Kd.S_told (Kd.S_oldK (IsS107.apartS (show IsS107 w0 _ g s0_0 x1001_1 x1002_1 from by repeat (first | (with_reducible first | exact HI0.out | apply IsS107.alloc | apply IsS107.drewN | apply IsS107.drew | apply IsS107.set_1 | apply IsS107.set_2 | refine IsS107.far ?_ NB0_251.out _ | refine IsS107.far ?_ NB0_252.out _) | exact HI0.out)) (by (with_reducible repeat (first | apply Kd.S_alloc | apply Kd.S_drewN | apply Kd.S_drew)); exact HO_253000.out) (by decide)) hk) (Kd.R_base ho0)) (fun _ h_ => h_.1))
     have n1_ := Aside0.mk (KeepBut.blk hk (g' := gb251) (o := .cells #[.slice none 0 0] 29 (0, 0)) (by (with_reducible repeat (first | refine blk_drewN ?_ _ | refine blk_drew ?_ | refine blk_alloc ?_ _)); exact BK251.out) NB251_0.out (by simp))
     have n2_ := Aside0.mk (KeepBut.blk hk (g' := gb252) (o := .cells #[u253000] 29 (0, 0)) (by (with_reducible repeat (first | refine blk_drewN ?_ _ | refine blk_drew ?_ | refine blk_alloc ?_ _)); exact BK252.out) NB252_0.out (by simp))
     have n3_ := Aside0.mk (Kd.R_lower ho0 (keep_size (w := w) (g := g) (row := none) (by repeat (first | (with_reducible first | exact HK.out | apply KeepBut.set_ | apply keep_drewN | apply keep_drew | apply keep_alloc | refine keep_far ?_ GW251.out _ | refine keep_far ?_ GW252.out _) | exact HK.out))))
     have n4_ := Aside0.mk (KeepBut.trans (by repeat (first | (with_reducible first | exact HK.out | apply KeepBut.set_ | apply keep_drewN | apply keep_drew | apply keep_alloc | refine keep_far ?_ GW251.out _ | refine keep_far ?_ GW252.out _) | exact HK.out)) hk (.inl rfl))
     have n5_ := Aside0.mk (hb)
     have n6_ := Aside0.mk (hi)
     clear HO_253000
     clear BK251
     clear BK252
     clear HK
     clear HB
     clear HI0
     have HO_253000 := n0_
     have BK251 := n1_
     have BK252 := n2_
     have HO258 := n3_
     have HK := n4_
     have HB := n5_
     have HI0 := n6_
     clear n0_ n1_ n2_ n3_ n4_ n5_ n6_
     (try clear hb)
     (try clear hb2)
     (try clear hk)
     (try clear hi)
     (try clear ho0)
     obtain ⟨Ao15, co15, eo15⟩ := Kd.R_slice HO258.out
     (first | subst eo15 | (injection eo15 with f1_ f2_ f3_; have f4_ := f1_.symm; have f5_ := f3_.symm; clear f1_ f2_ f3_; subst f4_; subst f5_))
     refine hK.out _ _ ((blk_cell BK252.out 0).trans rfl) (fun hHeld => ?_)
     clear hK K
     refine norm_ (a' := ?_) ?_ ?_
     rotate_left
     ·show Act.put _ (some 21) _ = _
      simp only [Act.put, List.setIfInBounds_toArray, List.set_cons_zero, List.set_cons_succ, i64_w, i32_w]
      rfl
     refine one_ (i := 4) (N := some 22) #[true, true, true, true, true, false, false, false] rfl rfl (one_of HT_.out (by kernel_rfl)) (by decide) (fun K hK => ?_)
     refine value_ (w1 := ?_) (v := ?_) (by rfl) rfl ?_ ?_
     rotate_left 2
     ·go_simp
      constructor
      ·rfl
      ·rfl
     refine hK.out _ _ ((blk_cell (blk_alloc BK252.out _) 0).trans rfl) (fun hHeld => ?_)
     clear hK K
     refine norm_ (a' := ?_) ?_ ?_
     rotate_left
     ·show Act.put _ (some 22) _ = _
      simp only [Act.put, List.setIfInBounds_toArray, List.set_cons_zero, List.set_cons_succ, i64_w, i32_w]
      rfl
     refine one_ (i := 5) (N := some 23) #[true, true, true, true, true, true, false, false] rfl rfl (one_of HT_.out (by kernel_rfl)) (by decide) (fun K hK => ?_)
     refine Kd.S_append_step (Kd.slice 3 (Kd.int .i64)) w.heap.size (by rfl) (.tmp 19) (.tmp 22) 27 30 (.slice none 0 0) 24 rfl Try.underlying27 info30 rfl (by decide) (by omega) u253000 x253000_1 t256 [.slice Ao15 t256.length co15] (fun _ => True) (fun k_ => some k_ = (.slice Ao15 t256.length co15 : Value).ownBlock) rfl rfl ?aP (fun k_ hk_ => ((Kd.R_mono (ok' := fun k_ => ((fun _ => True)) k_ ∧ some k_ ≠ (u253000 : Value).ownBlock) (Kd.R_apart' (HO258.out) (Kd.S_typed HO_253000.out) (by decide)) (fun k_ hk => ⟨trivial, hk.2⟩))).1 k_ hk_.symm) ?aF ?aO (Below.refl _ _) ?aS ?aL ?_
     (case aP => exact Kd.M_row (Kd.R_mono (Kd.R_tight rfl (Kd.R_mono (ok' := fun k_ => ((fun _ => True)) k_ ∧ some k_ ≠ (u253000 : Value).ownBlock) (Kd.R_apart' (HO258.out) (Kd.S_typed HO_253000.out) (by decide)) (fun k_ hk => ⟨trivial, hk.2⟩))) (fun _ h_ => h_)))
     (case aF => exact (fun _ _ => trivial))
     (case aO => exact (by (with_reducible repeat (first | apply Kd.S_alloc | apply Kd.S_drewN | apply Kd.S_drew)); exact Kd.S_mono HO_253000.out (fun k_ hk => ⟨trivial, fun e_ => hk.2 e_⟩)))
     (case aS => exact (keep_size (w := w) (g := g) (row := none) (by repeat (first | (with_reducible first | exact HK.out | apply KeepBut.set_ | apply keep_drewN | apply keep_drew | apply keep_alloc | refine keep_far ?_ GW251.out _ | refine keep_far ?_ GW252.out _) | exact HK.out))))
     (case aL => have := LMc11.out; omega)
     intro v262 w14 ho hb hg hat
     rw [← Ny261.out] at ho
     have n0_ := Aside0.mk (blk_grown (g := gb251) (o := .cells #[.slice none 0 0] 29 (0, 0)) (by (with_reducible repeat (first | refine blk_drewN ?_ _ | refine blk_drew ?_ | refine blk_alloc ?_ _)); exact BK251.out) hg (Kd.S_ne HO_253000.out BK251.out (by decide)))
     have n1_ := Aside0.mk (blk_grown (g := gb252) (o := .cells #[u253000] 29 (0, 0)) (by (with_reducible repeat (first | refine blk_drewN ?_ _ | refine blk_drew ?_ | refine blk_alloc ?_ _)); exact BK252.out) hg (Kd.S_ne HO_253000.out BK252.out (by decide)))
     have n2_ := Aside0.mk (IsS107.grown (by repeat (first | (with_reducible first | exact HI0.out | apply IsS107.alloc | apply IsS107.drewN | apply IsS107.drew | apply IsS107.set_1 | apply IsS107.set_2 | refine IsS107.far ?_ NB0_251.out _ | refine IsS107.far ?_ NB0_252.out _) | exact HI0.out)) hg (IsS107.own_neS HI0.out HO_253000.out (by decide)))
     have n3_ := Aside0.mk (below_weaken (by repeat (first | (with_reducible first | exact HB.out | apply below_alloc | apply pw_below_drewN | apply below_drew1 | refine below_set ?_ (IsS107.ge HI0.out) | refine below_set ?_ GE251.out | refine below_set ?_ GE252.out) | exact HB.out)) HL.out hb)
     have n4_ := Aside0.mk (KeepBut.trans (by repeat (first | (with_reducible first | exact HK.out | apply KeepBut.set_ | apply keep_drewN | apply keep_drew | apply keep_alloc | refine keep_far ?_ GW251.out _ | refine keep_far ?_ GW252.out _) | exact HK.out)) (KeepBut.of_grown hg g) (Kd.S_base2 HO_253000.out))
     have n5_ := Aside0.mk (ho)
     clear BK251
     clear BK252
     clear HI0
     clear HB
     clear HK
     clear HO_253000
     clear HO258
     have BK251 := n0_
     have BK252 := n1_
     have HI0 := n2_
     have HB := n3_
     have HK := n4_
     have HO263 := n5_
     clear n0_ n1_ n2_ n3_ n4_ n5_
     clear ho hb hg hat
     obtain ⟨Ao16, co16, eo16⟩ := Kd.S_slice HO263.out
     (first | subst eo16 | (injection eo16 with f1_ f2_ f3_; have f4_ := f1_.symm; have f5_ := f3_.symm; clear f1_ f2_ f3_; subst f4_; subst f5_))
     refine hK.out _ _ ((blk_cell BK252.out 0).trans rfl) (fun hHeld => ?_)
     clear hK K
     refine norm_ (a' := ?_) ?_ ?_
     rotate_left
     ·show Act.put _ (some 23) _ = _
      simp only [Act.put, List.setIfInBounds_toArray, List.set_cons_zero, List.set_cons_succ, i64_w, i32_w]
      rfl
     refine pure_ (i := 6) (N := some 24) (v := ?_) (a' := ?_) #[true, true, true, true, true, true, true, false] rfl rfl (any_of HT_.out (by kernel_rfl)) (fun _ _ _ h => h) (Or.inl ⟨by rfl, ?_⟩) ?_ ?_
     rotate_left
     ·intro w'
      go_simp
      with_reducible rfl
     rotate_left
     ·simp only [Act.put, List.setIfInBounds_toArray, List.set_cons_zero, List.set_cons_succ, i64_w, i32_w]
      rfl
     refine last_ (i := 7) (N := none) #[true, true, true, true, true, true, true, true] rfl rfl (one_of HT_.out (by kernel_rfl)) (by decide) (fun K hK => ?_)
     have hs17 : w14.cell? ⟨gb252, 0, none⟩ = some (u253000) := (blk_cell BK252.out 0).trans rfl
     have hfs17 := blk_frozen BK252.out 0
     have hns17_0 := NB251_252.out
     have hms17_0 := NB252_251.out
     refine skip_ (w1 := ?_) (by rfl) rfl ?_ ?_
     rotate_left
     ·go_simp
      rfl
     refine hK.out _ _ ?_
     clear hK K
     refine done_ (done_of HT_.out (by kernel_rfl)) ?_
     try go_wp2
     go_roundg k1
     case measure => have := HK1.out; omega
     case rel => exact ⟨(wrap64 (x5_1 + 1)), (t259), (t260), (y261), (.slice Ao16 y261.length co16), (by first | rfl | (simp; done) | (simp [*]; done)), H', ⟨by have := HK1.out; omega⟩, ⟨by (with_reducible repeat (first | apply Kd.S_alloc | apply Kd.S_drewN | apply Kd.S_drew)); exact Kd.S_mono (Kd.S_far (p := ⟨gb252, 0, none⟩) (Kd.S_types HO263.out BK252.out (by decide)) (fun _ hk => hk.2) (.slice Ao16 y261.length co16)) (fun _ hk => trivial)⟩, ⟨by (with_reducible repeat (first | refine blk_drewN ?_ _ | refine blk_drew ?_ | refine blk_alloc ?_ _)); refine blk_far ?_ NB251_252.out _; (with_reducible repeat (first | refine blk_drewN ?_ _ | refine blk_drew ?_ | refine blk_alloc ?_ _)); exact BK251.out⟩, ⟨by (with_reducible repeat (first | refine blk_drewN ?_ _ | refine blk_drew ?_ | refine blk_alloc ?_ _)); refine blk_put (cs := #[u253000]) ?_ 0 _ rfl; (with_reducible repeat (first | refine blk_drewN ?_ _ | refine blk_drew ?_ | refine blk_alloc ?_ _)); exact BK252.out⟩, ⟨by repeat (first | (with_reducible first | exact HI0.out | apply IsS107.alloc | apply IsS107.drewN | apply IsS107.drew | apply IsS107.set_1 | apply IsS107.set_2 | refine IsS107.far ?_ NB0_251.out _ | refine IsS107.far ?_ NB0_252.out _) | exact HI0.out)⟩, ⟨by repeat (first | (with_reducible first | exact HK.out | apply KeepBut.set_ | apply keep_drewN | apply keep_drew | apply keep_alloc | refine keep_far ?_ GW251.out _ | refine keep_far ?_ GW252.out _) | exact HK.out)⟩, ⟨by repeat (first | (with_reducible first | exact HB.out | apply below_alloc | apply pw_below_drewN | apply below_drew1 | refine below_set ?_ (IsS107.ge HI0.out) | refine below_set ?_ GE251.out | refine below_set ?_ GE252.out) | exact HB.out)⟩⟩
    ·rw [if_neg c11] at H
     exact absurd H (by simp)
   ·rw [if_neg c9] at H
    have c9b0 : decide (x5_1 < (wrap64 (1 + t253))) = false := decide_eq_false c9
    clear c9
    replace H := Option.bind_eq_some_iff.mp H
    obtain ⟨⟨t264, t265, t266⟩, A180, H⟩ := H
    replace H : (if t264 = true then (if 0 ≤ (wrap64 ((wrap64 (1 + t253)) - 1)) then (if (wrap64 ((wrap64 (1 + t253)) - 1)) < (x253000_1.length : Int) then (if (rd_L3 x253000_1 (wrap64 ((wrap64 (1 + t253)) - 1))).length = 256 then (some (lastSix x253000_1 (wrap64 ((wrap64 (1 + t253)) - 1)), t265, t266)) else (none)) else (none)) else (none)) else ((spec_l2Main.f s0_0 t265 t266).bind fun bt268 => ((spec_Assemble.f k1 bt268.1).bind fun bt271 => (if (bt271.1.length : Int) = 256 then (if 0 ≤ (wrap64 ((wrap64 (1 + t253)) - 1)) then (if (wrap64 ((wrap64 (1 + t253)) - 1)) < (x253000_1.length : Int) then (if (rd_L3 (x253000_1.set ((wrap64 ((wrap64 (1 + t253)) - 1)) : Int).toNat bt271.1) (wrap64 ((wrap64 (1 + t253)) - 1))).length = 256 then (some (lastSix (x253000_1.set ((wrap64 ((wrap64 (1 + t253)) - 1)) : Int).toNat bt271.1) (wrap64 ((wrap64 (1 + t253)) - 1)), bt268.2.1, bt268.2.2)) else (none)) else (none)) else (none)) else (if 0 ≤ (wrap64 ((wrap64 (1 + t253)) - 1)) then (if (wrap64 ((wrap64 (1 + t253)) - 1)) < (x253000_1.length : Int) then (if (rd_L3 x253000_1 (wrap64 ((wrap64 (1 + t253)) - 1))).length = 256 then (some (lastSix x253000_1 (wrap64 ((wrap64 (1 + t253)) - 1)), bt268.2.1, bt268.2.2)) else (none)) else (none)) else (none)))))) = some (r1, r2, r3) := H
    have A18 := Aside0.mk A180
    clear A180
    by_cases c19 : t264 = true
    ·subst c19
     have H1 : (if 0 ≤ (wrap64 ((wrap64 (1 + t253)) - 1)) then (if (wrap64 ((wrap64 (1 + t253)) - 1)) < (x253000_1.length : Int) then (if (rd_L3 x253000_1 (wrap64 ((wrap64 (1 + t253)) - 1))).length = 256 then (some (lastSix x253000_1 (wrap64 ((wrap64 (1 + t253)) - 1)), t265, t266)) else (none)) else (none)) else (none)) = some (r1, r2, r3) := by rw [if_pos rfl] at H; exact H
     clear H
     have H := H1
     clear H1
     obtain ⟨ji20, hji20⟩ : ∃ j_ : Int, (wrap64 ((wrap64 (1 + t253)) - 1)) = j_ := ⟨_, rfl⟩
     replace H : (if 0 ≤ (ji20) then (if (ji20) < (x253000_1.length : Int) then (if (rd_L3 x253000_1 (ji20)).length = 256 then (some (lastSix x253000_1 (ji20), t265, t266)) else (none)) else (none)) else (none)) = some (r1, r2, r3) := by first | (rw [hji20] at H; exact H) | (simp only [hji20] at H ⊢; exact H)
     (try rw [hji20] at A18)
     have hji20w : (IntKind.i64.wrap ((wrap64 (1 + t253)) - 1)) = ji20 := (i64_w _).trans hji20
     by_cases c21 : 0 ≤ (ji20)
     ·rw [if_pos c21] at H
      have c21b0 : decide (0 ≤ (ji20)) = true := decide_eq_true c21
      clear c21
      by_cases c22 : (ji20) < (x253000_1.length : Int)
      ·rw [if_pos c22] at H
       have c22b0 : decide ((ji20) < (x253000_1.length : Int)) = true := decide_eq_true c22
       clear c22
       by_cases c256 : (rd_L3 x253000_1 (ji20)).length = 256
       rotate_left
       ·rw [if_neg c256] at H
        exact absurd H (by simp)
       rw [if_pos c256] at H
       have C256 := Aside0.mk c256
       clear c256
       simp only [Option.some.injEq, Prod.mk.injEq] at H
       obtain ⟨rfl, rfl, rfl⟩ := H
       go_upto_region 12 with (first | ((with_reducible refine gate_callee (f := 58) rfl ?_); refine goesL_ (some 26) rfl rfl Try.func58 (by kernel_rfl) rfl #[.pointer (some ⟨g, 0, none⟩), .int .i64 4] rfl (by (try simp only [List.map_toArray, List.map_cons, List.map_nil]); first | done | rfl | (simp only [List.length_drop, List.length_take]; rfl)) ?_; (with_reducible refine (spec_l1Once.calls g s0_0 x1001_1 x1002_1 4 true t265 t266 w0 _ ?side1 ?side2 A18.out).mono ?_); (case side1 => repeat (first | (with_reducible first | exact HI0.out | apply IsS107.alloc | apply IsS107.drewN | apply IsS107.drew | apply IsS107.set_1 | apply IsS107.set_2 | refine IsS107.far ?_ NB0_251.out _ | refine IsS107.far ?_ NB0_252.out _) | exact HI0.out)); (case side2 => repeat (first | (with_reducible first | exact HB.out | apply below_alloc | apply pw_below_drewN | apply below_drew1 | refine below_set ?_ (IsS107.ge HI0.out) | refine below_set ?_ GE251.out | refine below_set ?_ GE252.out) | exact HB.out)); rintro e w23 ⟨rfl, hi, hb, hk⟩; refine ⟨_, rfl, ?_⟩; have n0_ := Aside0.mk (Kd.S_mono (Kd.S_keep (IsS107.apartS (show IsS107 w0 _ g s0_0 x1001_1 x1002_1 from by repeat (first | (with_reducible first | exact HI0.out | apply IsS107.alloc | apply IsS107.drewN | apply IsS107.drew | apply IsS107.set_1 | apply IsS107.set_2 | refine IsS107.far ?_ NB0_251.out _ | refine IsS107.far ?_ NB0_252.out _) | exact HI0.out)) (by (with_reducible repeat (first | apply Kd.S_alloc | apply Kd.S_drewN | apply Kd.S_drew)); exact HO_253000.out) (by decide)) hk (fun _ h => h.2)) (fun _ h => h.1)); have n1_ := Aside0.mk (KeepBut.blk hk (g' := gb251) (o := .cells #[.slice none 0 0] 29 (0, 0)) (by (with_reducible repeat (first | refine blk_drewN ?_ _ | refine blk_drew ?_ | refine blk_alloc ?_ _)); exact BK251.out) NB251_0.out (by simp)); have n2_ := Aside0.mk (KeepBut.blk hk (g' := gb252) (o := .cells #[u253000] 29 (0, 0)) (by (with_reducible repeat (first | refine blk_drewN ?_ _ | refine blk_drew ?_ | refine blk_alloc ?_ _)); exact BK252.out) NB252_0.out (by simp)); have n3_ := Aside0.mk (KeepBut.trans (by repeat (first | (with_reducible first | exact HK.out | apply KeepBut.set_ | apply keep_drewN | apply keep_drew | apply keep_alloc | refine keep_far ?_ GW251.out _ | refine keep_far ?_ GW252.out _) | exact HK.out)) hk (.inl rfl)); have n4_ := Aside0.mk (hb); have n5_ := Aside0.mk (hi); clear HO_253000; clear BK251; clear BK252; clear HK; clear HB; clear HI0; have HO_253000 := n0_; have BK251 := n1_; have BK252 := n2_; have HK := n3_; have HB := n4_; have HI0 := n5_; clear n0_ n1_ n2_ n3_ n4_ n5_; (try clear hb); (try clear hb2); (try clear hk); (try clear hi); have hnb24 := NB252_251.out; have hnc24 := NB251_252.out; have hnb25 := NB252_0.out; have hnc25 := NB0_252.out; have hcz26_0 : w23.cell? ⟨gb252, 0, none⟩ = some (u253000) := (blk_cell BK252.out 0).trans rfl; have hfz26_0 := blk_frozen BK252.out 0; obtain ⟨Ao27, co27, eo27⟩ := Kd.S_slice HO_253000.out; subst eo27; have p267 : 0 ≤ ((ji20) : Int) := of_decide_eq_true (by first | (with_reducible assumption) | assumption); have q267 : (ji20) < (x253000_1.length : Int) := of_decide_eq_true (by first | (with_reducible assumption) | assumption); obtain ⟨ad267, A267_0, c267_0, e267, hx267_0, hl267_0, hi267_0⟩ := at_L3 (Kd.S_reads' HO_253000.out).2.2 (ji20) p267 q267; cases e267; obtain ⟨ce267, hce267, hMe267, hcc267⟩ := Kd.S_get HO_253000.out [] (ji20) p267 (by first | exact q267 | exact of_decide_eq_true (by first | (with_reducible assumption) | assumption) | (have e_ := (Kd.S_reads' HO_253000.out).1; omega)); obtain ⟨ve267_0, rfl, ge267_0⟩ := hMe267; have hv267_0 := hcc267 0 _ rfl; rw [Nat.add_zero, show ((Kd.slice 3 (Kd.int .i64))).sz = 1 from rfl, Nat.mul_one] at hv267_0; replace hv267_0 := Option.some.inj (hv267_0.symm.trans hx267_0); rw [hv267_0] at ge267_0; have HL267_0 := Aside0.mk (show Kd.R (Kd.int .i64) 3 _ _ _ _ (rd_L3 x253000_1 (ji20)) from ge267_0); clear hv267_0 ge267_0; clear hcc267 hce267; have HR267_0 := Aside0.mk hi267_0; have HC267_0 := Aside0.mk hl267_0; clear hi267_0 hl267_0; replace p267 := eq_true p267; replace q267 := eq_true q267; have hnb28 := NB251_0.out; have hnc28 := NB0_251.out; have hcz29_0 : w23.cell? ⟨gb251, 0, none⟩ = some (.slice none 0 0) := (blk_cell BK251.out 0).trans rfl; have hfz29_0 := blk_frozen BK251.out 0))
       have hji_ : (0 : Int) ≤ ji20 := of_decide_eq_true (by assumption)
       have hjl_ : ji20 < (x253000_1.length : Int) := by first | exact of_decide_eq_true (by assumption) | (rw [Ny0.out, List.length_set]; exact of_decide_eq_true (by assumption))
       obtain ⟨gl, eA_, hgl, ⟨clr, hbl⟩, hcl, hS6⟩ := six_ok HO_253000.out ji20 hji_ hjl_ (by first | exact hx267_0 | (rw [add_plain]; exact hx267_0)) C256.out
       subst eA_
       have GL := Aside0.mk hgl
       have HBL := Aside0.mk hbl
       have HS6 := Aside0.mk hS6
       have HLN := Aside0.mk C256.out
       have z0 := (hcl 250 (by omega)).1
       have z1 := (hcl 251 (by omega)).1
       have z2 := (hcl 252 (by omega)).1
       have z3 := (hcl 253 (by omega)).1
       have z4 := (hcl 254 (by omega)).1
       have z5 := (hcl 255 (by omega)).1
       have f0 := (hcl 250 (by omega)).2
       have f1 := (hcl 251 (by omega)).2
       have f2 := (hcl 252 (by omega)).2
       have f3 := (hcl 253 (by omega)).2
       have f4 := (hcl 254 (by omega)).2
       have f5 := (hcl 255 (by omega)).2
       have b0 : ((250 : Int) < ((rd_L3 x253000_1 ji20).length : Int)) = True := eq_true (by have := C256.out; omega)
       have b1 : ((251 : Int) < ((rd_L3 x253000_1 ji20).length : Int)) = True := eq_true (by have := C256.out; omega)
       have b2 : ((252 : Int) < ((rd_L3 x253000_1 ji20).length : Int)) = True := eq_true (by have := C256.out; omega)
       have b3 : ((253 : Int) < ((rd_L3 x253000_1 ji20).length : Int)) = True := eq_true (by have := C256.out; omega)
       have b4 : ((254 : Int) < ((rd_L3 x253000_1 ji20).length : Int)) = True := eq_true (by have := C256.out; omega)
       have b5 : ((255 : Int) < ((rd_L3 x253000_1 ji20).length : Int)) = True := eq_true (by have := C256.out; omega)
       have n1 : gl ≠ gb251 := blk_ne hbl BK251.out (by decide)
       have n2 : gb251 ≠ gl := fun e => n1 e.symm
       have n3 : gl ≠ gb252 := blk_ne hbl BK252.out (by decide)
       have n4 : gb252 ≠ gl := fun e => n3 e.symm
       clear hcl hbl hgl hS6 hji_ hjl_
       go_wp2
       refine bodyPost_ret (results_cell_row rfl _ _ gb251 29 #[.slice (some ad267) x253000_1.length co27] (0, 0) _ rfl (blk_put (cs := #[.slice none 0 0]) (six_blk BK251.out n2) 0 _ rfl) Try.underlying29 rfl (by kernel_rfl)) rfl ?_
       exact ⟨_, rfl, Kd.S_mono (Kd.S_far (p := ⟨gb251, 0, none⟩) (Kd.S_types HS6.out (six_blk BK251.out n2) (by decide)) (fun _ hk => hk.2) (.slice (some ad267) x253000_1.length co27)) (fun _ hk => trivial), (six_state HI0.out (IsS107.ne_blk HI0.out HBL.out (by decide))).far (p := ⟨gb251, 0, none⟩) NB0_251.out _, below_set (six_below HB.out (Nat.le_trans HW0.out GL.out)) GE251.out, keep_far (p := ⟨gb251, 0, none⟩) (six_keep HK.out GL.out) GW251.out _⟩
      ·rw [if_neg c22] at H
       exact absurd H (by simp)
     ·rw [if_neg c21] at H
      exact absurd H (by simp)
    ·replace c19 := Bool.eq_false_iff.mpr c19
     subst c19
     have H1 : ((spec_l2Main.f s0_0 t265 t266).bind fun bt268 => ((spec_Assemble.f k1 bt268.1).bind fun bt271 => (if (bt271.1.length : Int) = 256 then (if 0 ≤ (wrap64 ((wrap64 (1 + t253)) - 1)) then (if (wrap64 ((wrap64 (1 + t253)) - 1)) < (x253000_1.length : Int) then (if (rd_L3 (x253000_1.set ((wrap64 ((wrap64 (1 + t253)) - 1)) : Int).toNat bt271.1) (wrap64 ((wrap64 (1 + t253)) - 1))).length = 256 then (some (lastSix (x253000_1.set ((wrap64 ((wrap64 (1 + t253)) - 1)) : Int).toNat bt271.1) (wrap64 ((wrap64 (1 + t253)) - 1)), bt268.2.1, bt268.2.2)) else (none)) else (none)) else (none)) else (if 0 ≤ (wrap64 ((wrap64 (1 + t253)) - 1)) then (if (wrap64 ((wrap64 (1 + t253)) - 1)) < (x253000_1.length : Int) then (if (rd_L3 x253000_1 (wrap64 ((wrap64 (1 + t253)) - 1))).length = 256 then (some (lastSix x253000_1 (wrap64 ((wrap64 (1 + t253)) - 1)), bt268.2.1, bt268.2.2)) else (none)) else (none)) else (none))))) = some (r1, r2, r3) := by rw [if_neg (show ¬ (false = true) by decide)] at H; exact H
     clear H
     have H := H1
     clear H1
     replace H := Option.bind_eq_some_iff.mp H
     obtain ⟨⟨t268, t269, t270⟩, A300, H⟩ := H
     replace H : ((spec_Assemble.f k1 t268).bind fun bt271 => (if (bt271.1.length : Int) = 256 then (if 0 ≤ (wrap64 ((wrap64 (1 + t253)) - 1)) then (if (wrap64 ((wrap64 (1 + t253)) - 1)) < (x253000_1.length : Int) then (if (rd_L3 (x253000_1.set ((wrap64 ((wrap64 (1 + t253)) - 1)) : Int).toNat bt271.1) (wrap64 ((wrap64 (1 + t253)) - 1))).length = 256 then (some (lastSix (x253000_1.set ((wrap64 ((wrap64 (1 + t253)) - 1)) : Int).toNat bt271.1) (wrap64 ((wrap64 (1 + t253)) - 1)), t269, t270)) else (none)) else (none)) else (none)) else (if 0 ≤ (wrap64 ((wrap64 (1 + t253)) - 1)) then (if (wrap64 ((wrap64 (1 + t253)) - 1)) < (x253000_1.length : Int) then (if (rd_L3 x253000_1 (wrap64 ((wrap64 (1 + t253)) - 1))).length = 256 then (some (lastSix x253000_1 (wrap64 ((wrap64 (1 + t253)) - 1)), t269, t270)) else (none)) else (none)) else (none)))) = some (r1, r2, r3) := H
     have A30 := Aside0.mk A300
     clear A300
     replace H := Option.bind_eq_some_iff.mp H
     obtain ⟨⟨t271, t272⟩, A310, H⟩ := H
     replace H : (if (t271.length : Int) = 256 then (if 0 ≤ (wrap64 ((wrap64 (1 + t253)) - 1)) then (if (wrap64 ((wrap64 (1 + t253)) - 1)) < (x253000_1.length : Int) then (if (rd_L3 (x253000_1.set ((wrap64 ((wrap64 (1 + t253)) - 1)) : Int).toNat t271) (wrap64 ((wrap64 (1 + t253)) - 1))).length = 256 then (some (lastSix (x253000_1.set ((wrap64 ((wrap64 (1 + t253)) - 1)) : Int).toNat t271) (wrap64 ((wrap64 (1 + t253)) - 1)), t269, t270)) else (none)) else (none)) else (none)) else (if 0 ≤ (wrap64 ((wrap64 (1 + t253)) - 1)) then (if (wrap64 ((wrap64 (1 + t253)) - 1)) < (x253000_1.length : Int) then (if (rd_L3 x253000_1 (wrap64 ((wrap64 (1 + t253)) - 1))).length = 256 then (some (lastSix x253000_1 (wrap64 ((wrap64 (1 + t253)) - 1)), t269, t270)) else (none)) else (none)) else (none))) = some (r1, r2, r3) := H
     have A31 := Aside0.mk A310
     clear A310
     by_cases c32 : (t271.length : Int) = 256
     ·rw [if_pos c32] at H
      have c32b0 : ((t271.length : Int) == 256) = true := beq_iff_eq.mpr c32
      have c32b1 : ((t271.length : Int) != 256) = false := bne_eq_false_iff_eq.mpr c32
      clear c32
      obtain ⟨ji33, hji33⟩ : ∃ j_ : Int, (wrap64 ((wrap64 (1 + t253)) - 1)) = j_ := ⟨_, rfl⟩
      replace H : (if 0 ≤ (ji33) then (if (ji33) < (x253000_1.length : Int) then (if (rd_L3 (x253000_1.set ((ji33) : Int).toNat t271) (ji33)).length = 256 then (some (lastSix (x253000_1.set ((ji33) : Int).toNat t271) (ji33), t269, t270)) else (none)) else (none)) else (none)) = some (r1, r2, r3) := by first | (rw [hji33] at H; exact H) | (simp only [hji33] at H ⊢; exact H)
      (try rw [hji33] at A18)
      (try rw [hji33] at A30)
      (try rw [hji33] at A31)
      have hji33w : (IntKind.i64.wrap ((wrap64 (1 + t253)) - 1)) = ji33 := (i64_w _).trans hji33
      by_cases c34 : 0 ≤ (ji33)
      ·rw [if_pos c34] at H
       have c34b0 : decide (0 ≤ (ji33)) = true := decide_eq_true c34
       clear c34
       by_cases c35 : (ji33) < (x253000_1.length : Int)
       ·rw [if_pos c35] at H
        have c35b0 : decide ((ji33) < (x253000_1.length : Int)) = true := decide_eq_true c35
        clear c35
        obtain ⟨y275, hy275⟩ : ∃ y_ : List (List Int), y_ = (x253000_1.set ((ji33) : Int).toNat t271) := ⟨_, rfl⟩
        replace H : (if (rd_L3 y275 (ji33)).length = 256 then (some (lastSix y275 (ji33), t269, t270)) else (none)) = some (r1, r2, r3) := by first | (rw [hy275]; with_reducible exact H) | (have H2_ := (Option.bind_some _ _).symm.trans H; rw [hy275]; with_reducible exact H2_) | (have H2_ := (Option.bind_some _ _).symm.trans H; with_reducible exact H2_) | with_reducible exact H | (rw [hy275]; exact H) | exact H
        have Ny275 := Aside0.mk hy275
        clear hy275
        by_cases c256 : (rd_L3 y275 (ji33)).length = 256
        rotate_left
        ·rw [if_neg c256] at H
         exact absurd H (by simp)
        rw [if_pos c256] at H
        have C256 := Aside0.mk c256
        clear c256
        simp only [Option.some.injEq, Prod.mk.injEq] at H
        obtain ⟨rfl, rfl, rfl⟩ := H
        go_upto_region 12 with (first | ((with_reducible refine gate_callee (f := 58) rfl ?_); refine goesL_ (some 26) rfl rfl Try.func58 (by kernel_rfl) rfl #[.pointer (some ⟨g, 0, none⟩), .int .i64 4] rfl (by (try simp only [List.map_toArray, List.map_cons, List.map_nil]); first | done | rfl | (simp only [List.length_drop, List.length_take]; rfl)) ?_; (with_reducible refine (spec_l1Once.calls g s0_0 x1001_1 x1002_1 4 false t265 t266 w0 _ ?side1 ?side2 A18.out).mono ?_); (case side1 => repeat (first | (with_reducible first | exact HI0.out | apply IsS107.alloc | apply IsS107.drewN | apply IsS107.drew | apply IsS107.set_1 | apply IsS107.set_2 | refine IsS107.far ?_ NB0_251.out _ | refine IsS107.far ?_ NB0_252.out _) | exact HI0.out)); (case side2 => repeat (first | (with_reducible first | exact HB.out | apply below_alloc | apply pw_below_drewN | apply below_drew1 | refine below_set ?_ (IsS107.ge HI0.out) | refine below_set ?_ GE251.out | refine below_set ?_ GE252.out) | exact HB.out)); rintro e w37 ⟨rfl, hi, hb, hk⟩; refine ⟨_, rfl, ?_⟩; have n0_ := Aside0.mk (Kd.S_mono (Kd.S_keep (IsS107.apartS (show IsS107 w0 _ g s0_0 x1001_1 x1002_1 from by repeat (first | (with_reducible first | exact HI0.out | apply IsS107.alloc | apply IsS107.drewN | apply IsS107.drew | apply IsS107.set_1 | apply IsS107.set_2 | refine IsS107.far ?_ NB0_251.out _ | refine IsS107.far ?_ NB0_252.out _) | exact HI0.out)) (by (with_reducible repeat (first | apply Kd.S_alloc | apply Kd.S_drewN | apply Kd.S_drew)); exact HO_253000.out) (by decide)) hk (fun _ h => h.2)) (fun _ h => h.1)); have n1_ := Aside0.mk (KeepBut.blk hk (g' := gb251) (o := .cells #[.slice none 0 0] 29 (0, 0)) (by (with_reducible repeat (first | refine blk_drewN ?_ _ | refine blk_drew ?_ | refine blk_alloc ?_ _)); exact BK251.out) NB251_0.out (by simp)); have n2_ := Aside0.mk (KeepBut.blk hk (g' := gb252) (o := .cells #[u253000] 29 (0, 0)) (by (with_reducible repeat (first | refine blk_drewN ?_ _ | refine blk_drew ?_ | refine blk_alloc ?_ _)); exact BK252.out) NB252_0.out (by simp)); have n3_ := Aside0.mk (KeepBut.trans (by repeat (first | (with_reducible first | exact HK.out | apply KeepBut.set_ | apply keep_drewN | apply keep_drew | apply keep_alloc | refine keep_far ?_ GW251.out _ | refine keep_far ?_ GW252.out _) | exact HK.out)) hk (.inl rfl)); have n4_ := Aside0.mk (hb); have n5_ := Aside0.mk (hi); clear HO_253000; clear BK251; clear BK252; clear HK; clear HB; clear HI0; have HO_253000 := n0_; have BK251 := n1_; have BK252 := n2_; have HK := n3_; have HB := n4_; have HI0 := n5_; clear n0_ n1_ n2_ n3_ n4_ n5_; (try clear hb); (try clear hb2); (try clear hk); (try clear hi)) | ((with_reducible refine gate_callee (f := 107) rfl ?_); refine goesL_ (some 30) rfl rfl Try.func107 (by kernel_rfl) rfl #[.pointer (some ⟨g, 0, none⟩)] rfl (by (try simp only [List.map_toArray, List.map_cons, List.map_nil]); first | done | rfl | (simp only [List.length_drop, List.length_take]; rfl)) ?_; (with_reducible refine (spec_l2Main.calls g s0_0 t265 t266 t268 t269 t270 w0 _ ?side1 ?side2 A30.out).mono ?_); (case side1 => repeat (first | (with_reducible first | exact HI0.out | apply IsS107.alloc | apply IsS107.drewN | apply IsS107.drew | apply IsS107.set_1 | apply IsS107.set_2 | refine IsS107.far ?_ NB0_251.out _ | refine IsS107.far ?_ NB0_252.out _) | exact HI0.out)); (case side2 => repeat (first | (with_reducible first | exact HB.out | apply below_alloc | apply pw_below_drewN | apply below_drew1 | refine below_set ?_ (IsS107.ge HI0.out) | refine below_set ?_ GE251.out | refine below_set ?_ GE252.out) | exact HB.out)); rintro e w38 ⟨rfl, hi, hb, hk⟩; refine ⟨_, rfl, ?_⟩; have n0_ := Aside0.mk (Kd.S_mono (Kd.S_keep (IsS107.apartS (show IsS107 w0 _ g s0_0 t265 t266 from by repeat (first | (with_reducible first | exact HI0.out | apply IsS107.alloc | apply IsS107.drewN | apply IsS107.drew | apply IsS107.set_1 | apply IsS107.set_2 | refine IsS107.far ?_ NB0_251.out _ | refine IsS107.far ?_ NB0_252.out _) | exact HI0.out)) (by (with_reducible repeat (first | apply Kd.S_alloc | apply Kd.S_drewN | apply Kd.S_drew)); exact HO_253000.out) (by decide)) hk (fun _ h => h.2)) (fun _ h => h.1)); have n1_ := Aside0.mk (KeepBut.blk hk (g' := gb251) (o := .cells #[.slice none 0 0] 29 (0, 0)) (by (with_reducible repeat (first | refine blk_drewN ?_ _ | refine blk_drew ?_ | refine blk_alloc ?_ _)); exact BK251.out) NB251_0.out (by simp)); have n2_ := Aside0.mk (KeepBut.blk hk (g' := gb252) (o := .cells #[u253000] 29 (0, 0)) (by (with_reducible repeat (first | refine blk_drewN ?_ _ | refine blk_drew ?_ | refine blk_alloc ?_ _)); exact BK252.out) NB252_0.out (by simp)); have n3_ := Aside0.mk (KeepBut.trans (by repeat (first | (with_reducible first | exact HK.out | apply KeepBut.set_ | apply keep_drewN | apply keep_drew | apply keep_alloc | refine keep_far ?_ GW251.out _ | refine keep_far ?_ GW252.out _) | exact HK.out)) hk (.inl rfl)); have n4_ := Aside0.mk (hb); have n5_ := Aside0.mk (hi); clear HO_253000; clear BK251; clear BK252; clear HK; clear HB; clear HI0; have HO_253000 := n0_; have BK251 := n1_; have BK252 := n2_; have HK := n3_; have HB := n4_; have HI0 := n5_; clear n0_ n1_ n2_ n3_ n4_ n5_; (try clear hb); (try clear hb2); (try clear hk); (try clear hi)) | ((with_reducible refine gate_callee (f := 106) rfl ?_); refine goesL_ (some 31) rfl rfl Try.func106 (by kernel_rfl) rfl #[.string t268] rfl (by (try simp only [List.map_toArray, List.map_cons, List.map_nil]); first | done | rfl | (simp only [List.length_drop, List.length_take]; rfl)) ?_; (with_reducible refine (spec_Assemble.calls k1 t268 t271 t272 _ A31.out).mono ?_); rintro e w39 ⟨v273, rfl, ho0, hb⟩; refine ⟨_, rfl, ?_⟩; have n0_ := Aside0.mk (Kd.S_elder' (by (with_reducible repeat (first | apply Kd.S_alloc | apply Kd.S_drewN | apply Kd.S_drew)); exact HO_253000.out) (Kd.R_base ho0) hb); have n1_ := Aside0.mk (Kd.R_lower ho0 (keep_size (w := w) (g := g) (row := none) (by repeat (first | (with_reducible first | exact HK.out | apply KeepBut.set_ | apply keep_drewN | apply keep_drew | apply keep_alloc | refine keep_far ?_ GW251.out _ | refine keep_far ?_ GW252.out _) | exact HK.out)))); have n2_ := Aside0.mk (blk_below (g := gb251) (o := .cells #[.slice none 0 0] 29 (0, 0)) (by (with_reducible repeat (first | refine blk_drewN ?_ _ | refine blk_drew ?_ | refine blk_alloc ?_ _)); exact BK251.out) hb); have n3_ := Aside0.mk (blk_below (g := gb252) (o := .cells #[u253000] 29 (0, 0)) (by (with_reducible repeat (first | refine blk_drewN ?_ _ | refine blk_drew ?_ | refine blk_alloc ?_ _)); exact BK252.out) hb); have n4_ := Aside0.mk (IsS107.below (by repeat (first | (with_reducible first | exact HI0.out | apply IsS107.alloc | apply IsS107.drewN | apply IsS107.drew | apply IsS107.set_1 | apply IsS107.set_2 | refine IsS107.far ?_ NB0_251.out _ | refine IsS107.far ?_ NB0_252.out _) | exact HI0.out)) hb); have n5_ := Aside0.mk (KeepBut.trans (by repeat (first | (with_reducible first | exact HK.out | apply KeepBut.set_ | apply keep_drewN | apply keep_drew | apply keep_alloc | refine keep_far ?_ GW251.out _ | refine keep_far ?_ GW252.out _) | exact HK.out)) (KeepBut.of_below hb g none) (.inl rfl)); have n6_ := Aside0.mk (below_step (by repeat (first | (with_reducible first | exact HB.out | apply below_alloc | apply pw_below_drewN | apply below_drew1 | refine below_set ?_ (IsS107.ge HI0.out) | refine below_set ?_ GE251.out | refine below_set ?_ GE252.out) | exact HB.out)) hb); clear HO_253000; clear BK251; clear BK252; clear HI0; clear HK; clear HB; have HO_253000 := n0_; have HO274 := n1_; have BK251 := n2_; have BK252 := n3_; have HI0 := n4_; have HK := n5_; have HB := n6_; clear n0_ n1_ n2_ n3_ n4_ n5_ n6_; (try clear hb); (try clear hb2); (try clear hk); (try clear hi); (try clear ho0); obtain ⟨Ao40, co40, eo40⟩ := Kd.R_slice HO274.out; subst eo40; have hnb41 := NB252_251.out; have hnc41 := NB251_252.out; have hnb42 := NB252_0.out; have hnc42 := NB0_252.out; have hcz43_0 : w39.cell? ⟨gb252, 0, none⟩ = some (u253000) := (blk_cell BK252.out 0).trans rfl; have hfz43_0 := blk_frozen BK252.out 0; have p36 : 0 ≤ ((ji33) : Int) := of_decide_eq_true (by first | (with_reducible assumption) | assumption); have q36 : ((ji33) : Int) < ((x253000_1.length : Int) : Int) := of_decide_eq_true (by first | (with_reducible assumption) | assumption); obtain ⟨go36, co36, eo36, gb36, gl36, cl36, HG36⟩ := Kd.S_form HO_253000.out (by omega); (first | cases eo36 | (injection eo36 with ea_ en_ ec_; (first | subst ea_ | (injection ea_ with ea_; subst ea_)); subst ec_; clear en_)); have GB36 := Aside0.mk gb36; have GG36 := Aside0.mk HG36; clear gb36 gl36 HG36; obtain ⟨_, ce36, hcl36, hM36, hcc36, hfr36, _, _⟩ := Kd.S_elem HO_253000.out [] ((ji33) : Int) p36 q36; obtain ⟨ve36_0, rfl, ge36_0⟩ := hM36; have hx36_0 := hcc36 0 _ rfl; have hf36_0 := hfr36 0; (try simp only [show ((Kd.slice 3 (Kd.int .i64))).sz = 1 from rfl, Nat.mul_one, Nat.add_zero] at hx36_0); (try simp only [show ((Kd.slice 3 (Kd.int .i64))).sz = 1 from rfl, Nat.mul_one, Nat.add_zero] at hf36_0); (try clear hM36); clear hcl36 hcc36 hfr36; replace p36 := eq_true p36; replace q36 := eq_true q36; have n_ := Aside0.mk (Kd.S_mono (ok' := (fun k_ => some k_ ≠ (.slice Ao40 t271.length co40 : Value).ownBlock)) HO_253000.out (fun k_ hk => hk.2)); clear HO_253000; have HO_253000 := n_; clear n_; have HX44 := Aside0.mk (show Kd.S (Kd.slice 3 (Kd.int .i64)) 30 w39 w.heap.size (fun k_ => ((fun _ => True)) k_ ∧ ¬ ((fun k_ => some k_ = (.slice Ao40 t271.length co40 : Value).ownBlock)) k_) (.slice (some ⟨go36, 0, none⟩) x253000_1.length co36) x253000_1 from (by (with_reducible repeat (first | apply Kd.S_alloc | apply Kd.S_drewN | apply Kd.S_drew)); exact Kd.S_mono HO_253000.out (fun k_ hk => ⟨trivial, fun e_ => hk e_⟩))); obtain ⟨oki44, ce44, hcl44, hM44, hcc44, hfr44, hoki44, hH44⟩ := Kd.S_elem HX44.out [] ((ji33) : Int) (of_decide_eq_true (by first | (with_reducible assumption) | assumption)) (by have h_ : ((ji33) : Int) < ((x253000_1.length : Int) : Int) := of_decide_eq_true (by first | (with_reducible assumption) | assumption); first | exact h_ | (have e_ := (Kd.S_reads' HO_253000.out).1; omega) | simpa using h_); obtain ⟨ve44_0, rfl, ge44_0⟩ := hM44; have HP44 := Kd.S_seg hH44 (of_decide_eq_true (by first | (with_reducible assumption) | assumption)) (by have h_ : ((ji33) : Int) < ((x253000_1.length : Int) : Int) := of_decide_eq_true (by first | (with_reducible assumption) | assumption); first | exact h_ | (have e_ := (Kd.S_reads' HO_253000.out).1; omega) | simpa using h_) (seg := [.slice Ao40 t271.length co40]) (j := 0) (show 1 ≤ 1 from by decide) (x' := t271) (Kd.M_row (Kd.R_mono (Kd.R_tight rfl (Kd.R_mono (ok' := fun k_ => ((fun _ => True)) k_ ∧ k_ ≠ go36) (Kd.R_apart' (HO274.out) (Kd.S_typed HO_253000.out) (by decide)) (fun k_ hk => ⟨trivial, fun e_ => (hk.2) (by rw [e_]; rfl)⟩))) (fun _ h_ => Or.inr (h_)))) (fun _ hk => hk) (fun k_ hk_ => ((Kd.R_mono (ok' := fun k_ => ((fun _ => True)) k_ ∧ k_ ≠ go36) (Kd.R_apart' (HO274.out) (Kd.S_typed HO_253000.out) (by decide)) (fun k_ hk => ⟨trivial, fun e_ => (hk.2) (by rw [e_]; rfl)⟩))).1 k_ hk_.symm); have hx44_0 := hcc44 0 _ rfl; (try simp only [show ((Kd.slice 3 (Kd.int .i64))).sz = 1 from rfl, Nat.mul_one, Nat.add_zero] at hx44_0); have hf44_0 := hfr44 0; (try simp only [show ((Kd.slice 3 (Kd.int .i64))).sz = 1 from rfl, Nat.mul_one, Nat.add_zero] at hf44_0); (try clear hM44); clear hcl44 hcc44 hfr44 hoki44 hH44; (try simp only [show ((Kd.slice 3 (Kd.int .i64))).sz = 1 from rfl, Nat.mul_one, Nat.add_zero] at HP44)) | ((with_reducible refine gate_store (t := 30) (p := 42) rfl ?_); refine store_event (t := 30) (p := 42) (v := ?vo_w45) (w1 := (w39.setCell ⟨go36, ((ji33) : Int).toNat, none⟩ (.slice Ao40 t271.length co40))) ?hg ?ho ?hn ?hr ?_; (case ho => rfl); (case hg => rfl); (case hn => rfl); (case hr => first | (go_simp; done) | (go_simp; rfl)); intro w45 hw; have hg : w39.grownBy w45 (some go36) := (by rw [hw]; exact HP44.2); have hp_ : Kd.S (Kd.slice 3 (Kd.int .i64)) 30 w45 w.heap.size (fun _ => True) (.slice (some ⟨go36, 0, none⟩) x253000_1.length co36) y275 := (by rw [hw, Ny275.out]; exact HP44.1); clear HP44; have n0_ := Aside0.mk (hp_); have n1_ := Aside0.mk (blk_grown (g := gb251) (o := .cells #[.slice none 0 0] 29 (0, 0)) (by (with_reducible repeat (first | refine blk_drewN ?_ _ | refine blk_drew ?_ | refine blk_alloc ?_ _)); exact BK251.out) hg (Kd.S_ne HO_253000.out BK251.out (by decide))); have n2_ := Aside0.mk (blk_grown (g := gb252) (o := .cells #[.slice (some ⟨go36, 0, none⟩) x253000_1.length co36] 29 (0, 0)) (by (with_reducible repeat (first | refine blk_drewN ?_ _ | refine blk_drew ?_ | refine blk_alloc ?_ _)); exact BK252.out) hg (Kd.S_ne HO_253000.out BK252.out (by decide))); have n3_ := Aside0.mk (IsS107.grown (by repeat (first | (with_reducible first | exact HI0.out | apply IsS107.alloc | apply IsS107.drewN | apply IsS107.drew | apply IsS107.set_1 | apply IsS107.set_2 | refine IsS107.far ?_ NB0_251.out _ | refine IsS107.far ?_ NB0_252.out _) | exact HI0.out)) hg (IsS107.own_neS HI0.out HO_253000.out (by decide))); have n4_ := Aside0.mk ((by rw [hw]; exact below_set (HB.out) (Nat.le_trans HL.out GB36.out) : Below w0.heap.size w0 w45)); have n5_ := Aside0.mk (KeepBut.trans (by repeat (first | (with_reducible first | exact HK.out | apply KeepBut.set_ | apply keep_drewN | apply keep_drew | apply keep_alloc | refine keep_far ?_ GW251.out _ | refine keep_far ?_ GW252.out _) | exact HK.out)) (KeepBut.of_grown hg g) (Kd.S_base2 HO_253000.out)); clear HO_253000; clear BK251; clear BK252; clear HI0; clear HB; clear HK; clear HO274; have HO_253000 := n0_; have BK251 := n1_; have BK252 := n2_; have HI0 := n3_; have HB := n4_; have HK := n5_; clear n0_ n1_ n2_ n3_ n4_ n5_; clear hg hw hp_; have hcz46_0 : w45.cell? ⟨gb252, 0, none⟩ = some (.slice (some ⟨go36, 0, none⟩) x253000_1.length co36) := (blk_cell BK252.out 0).trans rfl; have hfz46_0 := blk_frozen BK252.out 0; have p276 : 0 ≤ ((ji33) : Int) := of_decide_eq_true (by first | (with_reducible assumption) | assumption); have q276 : (ji33) < (y275.length : Int) := (by have h_ : ((ji33) : Int) < ((x253000_1.length : Int) : Int) := of_decide_eq_true (by first | (with_reducible assumption) | assumption); first | (have e_ := (Kd.S_reads' HO_253000.out).1; omega) | simpa only [Ny275.out, List.length_set] using h_); have ql276 : (((ji33) : Int) < ((x253000_1.length : Int) : Int)) = True := eq_true (of_decide_eq_true (by first | (with_reducible assumption) | assumption)); obtain ⟨ad276, A276_0, c276_0, e276, hx276_0, hl276_0, hi276_0⟩ := at_L3 (Kd.S_reads' HO_253000.out).2.2 (ji33) p276 q276; obtain rfl : (⟨go36, 0, none⟩ : Addr) = ad276 := (by injection e276); obtain ⟨ce276, hce276, hMe276, hcc276⟩ := Kd.S_get HO_253000.out [] (ji33) p276 (by first | exact q276 | exact of_decide_eq_true (by first | (with_reducible assumption) | assumption) | (have e_ := (Kd.S_reads' HO_253000.out).1; omega)); obtain ⟨ve276_0, rfl, ge276_0⟩ := hMe276; have hv276_0 := hcc276 0 _ rfl; rw [Nat.add_zero, show ((Kd.slice 3 (Kd.int .i64))).sz = 1 from rfl, Nat.mul_one] at hv276_0; replace hv276_0 := Option.some.inj (hv276_0.symm.trans hx276_0); rw [hv276_0] at ge276_0; have HL276_0 := Aside0.mk (show Kd.R (Kd.int .i64) 3 _ _ _ _ (rd_L3 y275 (ji33)) from ge276_0); clear hv276_0 ge276_0; clear hcc276 hce276; (first | simp only [add_plain] at hx276_0 | simp only [add_at] at hx276_0 | simp only [Addr.add, Nat.zero_add] at hx276_0 | skip); have HR276_0 := Aside0.mk hi276_0; have HC276_0 := Aside0.mk hl276_0; clear hi276_0 hl276_0; replace p276 := eq_true p276; replace q276 := eq_true q276; have hnb47 := NB251_0.out; have hnc47 := NB0_251.out; have hcz48_0 : w45.cell? ⟨gb251, 0, none⟩ = some (.slice none 0 0) := (blk_cell BK251.out 0).trans rfl; have hfz48_0 := blk_frozen BK251.out 0))
        have hji_ : (0 : Int) ≤ ji33 := of_decide_eq_true (by assumption)
        have hjl_ : ji33 < (y275.length : Int) := by first | exact of_decide_eq_true (by assumption) | (rw [Ny275.out, List.length_set]; exact of_decide_eq_true (by assumption))
        obtain ⟨gl, eA_, hgl, ⟨clr, hbl⟩, hcl, hS6⟩ := six_ok HO_253000.out ji33 hji_ hjl_ (by first | exact hx276_0 | (rw [add_plain]; exact hx276_0)) C256.out
        subst eA_
        have GL := Aside0.mk hgl
        have HBL := Aside0.mk hbl
        have HS6 := Aside0.mk hS6
        have HLN := Aside0.mk C256.out
        have z0 := (hcl 250 (by omega)).1
        have z1 := (hcl 251 (by omega)).1
        have z2 := (hcl 252 (by omega)).1
        have z3 := (hcl 253 (by omega)).1
        have z4 := (hcl 254 (by omega)).1
        have z5 := (hcl 255 (by omega)).1
        have f0 := (hcl 250 (by omega)).2
        have f1 := (hcl 251 (by omega)).2
        have f2 := (hcl 252 (by omega)).2
        have f3 := (hcl 253 (by omega)).2
        have f4 := (hcl 254 (by omega)).2
        have f5 := (hcl 255 (by omega)).2
        have b0 : ((250 : Int) < ((rd_L3 y275 ji33).length : Int)) = True := eq_true (by have := C256.out; omega)
        have b1 : ((251 : Int) < ((rd_L3 y275 ji33).length : Int)) = True := eq_true (by have := C256.out; omega)
        have b2 : ((252 : Int) < ((rd_L3 y275 ji33).length : Int)) = True := eq_true (by have := C256.out; omega)
        have b3 : ((253 : Int) < ((rd_L3 y275 ji33).length : Int)) = True := eq_true (by have := C256.out; omega)
        have b4 : ((254 : Int) < ((rd_L3 y275 ji33).length : Int)) = True := eq_true (by have := C256.out; omega)
        have b5 : ((255 : Int) < ((rd_L3 y275 ji33).length : Int)) = True := eq_true (by have := C256.out; omega)
        have n1 : gl ≠ gb251 := blk_ne hbl BK251.out (by decide)
        have n2 : gb251 ≠ gl := fun e => n1 e.symm
        have n3 : gl ≠ gb252 := blk_ne hbl BK252.out (by decide)
        have n4 : gb252 ≠ gl := fun e => n3 e.symm
        clear hcl hbl hgl hS6 hji_ hjl_
        go_wp2
        refine bodyPost_ret (results_cell_row rfl _ _ gb251 29 #[.slice (some ⟨go36, 0, none⟩) x253000_1.length co36] (0, 0) _ rfl (blk_put (cs := #[.slice none 0 0]) (six_blk BK251.out n2) 0 _ rfl) Try.underlying29 rfl (by kernel_rfl)) rfl ?_
        exact ⟨_, rfl, Kd.S_mono (Kd.S_far (p := ⟨gb251, 0, none⟩) (Kd.S_types HS6.out (six_blk BK251.out n2) (by decide)) (fun _ hk => hk.2) (.slice (some ⟨go36, 0, none⟩) x253000_1.length co36)) (fun _ hk => trivial), (six_state HI0.out (IsS107.ne_blk HI0.out HBL.out (by decide))).far (p := ⟨gb251, 0, none⟩) NB0_251.out _, below_set (six_below HB.out (Nat.le_trans HW0.out GL.out)) GE251.out, keep_far (p := ⟨gb251, 0, none⟩) (six_keep HK.out GL.out) GW251.out _⟩
       ·rw [if_neg c35] at H
        exact absurd H (by simp)
      ·rw [if_neg c34] at H
       exact absurd H (by simp)
     ·rw [if_neg c32] at H
      have c32b0 : ((t271.length : Int) == 256) = false := beq_eq_false_iff_ne.mpr c32
      have c32b1 : ((t271.length : Int) != 256) = true := bne_iff_ne.mpr c32
      obtain ⟨ji49, hji49⟩ : ∃ j_ : Int, (wrap64 ((wrap64 (1 + t253)) - 1)) = j_ := ⟨_, rfl⟩
      replace H : (if 0 ≤ (ji49) then (if (ji49) < (x253000_1.length : Int) then (if (rd_L3 x253000_1 (ji49)).length = 256 then (some (lastSix x253000_1 (ji49), t269, t270)) else (none)) else (none)) else (none)) = some (r1, r2, r3) := by first | (rw [hji49] at H; exact H) | (simp only [hji49] at H ⊢; exact H)
      (try rw [hji49] at A18)
      (try rw [hji49] at A30)
      (try rw [hji49] at A31)
      have hji49w : (IntKind.i64.wrap ((wrap64 (1 + t253)) - 1)) = ji49 := (i64_w _).trans hji49
      by_cases c50 : 0 ≤ (ji49)
      ·rw [if_pos c50] at H
       have c50b0 : decide (0 ≤ (ji49)) = true := decide_eq_true c50
       clear c50
       by_cases c51 : (ji49) < (x253000_1.length : Int)
       ·rw [if_pos c51] at H
        have c51b0 : decide ((ji49) < (x253000_1.length : Int)) = true := decide_eq_true c51
        clear c51
        by_cases c256 : (rd_L3 x253000_1 (ji49)).length = 256
        rotate_left
        ·rw [if_neg c256] at H
         exact absurd H (by simp)
        rw [if_pos c256] at H
        have C256 := Aside0.mk c256
        clear c256
        simp only [Option.some.injEq, Prod.mk.injEq] at H
        obtain ⟨rfl, rfl, rfl⟩ := H
        go_upto_region 12 with (first | ((with_reducible refine gate_callee (f := 58) rfl ?_); refine goesL_ (some 26) rfl rfl Try.func58 (by kernel_rfl) rfl #[.pointer (some ⟨g, 0, none⟩), .int .i64 4] rfl (by (try simp only [List.map_toArray, List.map_cons, List.map_nil]); first | done | rfl | (simp only [List.length_drop, List.length_take]; rfl)) ?_; (with_reducible refine (spec_l1Once.calls g s0_0 x1001_1 x1002_1 4 false t265 t266 w0 _ ?side1 ?side2 A18.out).mono ?_); (case side1 => repeat (first | (with_reducible first | exact HI0.out | apply IsS107.alloc | apply IsS107.drewN | apply IsS107.drew | apply IsS107.set_1 | apply IsS107.set_2 | refine IsS107.far ?_ NB0_251.out _ | refine IsS107.far ?_ NB0_252.out _) | exact HI0.out)); (case side2 => repeat (first | (with_reducible first | exact HB.out | apply below_alloc | apply pw_below_drewN | apply below_drew1 | refine below_set ?_ (IsS107.ge HI0.out) | refine below_set ?_ GE251.out | refine below_set ?_ GE252.out) | exact HB.out)); rintro e w52 ⟨rfl, hi, hb, hk⟩; refine ⟨_, rfl, ?_⟩; have n0_ := Aside0.mk (Kd.S_mono (Kd.S_keep (IsS107.apartS (show IsS107 w0 _ g s0_0 x1001_1 x1002_1 from by repeat (first | (with_reducible first | exact HI0.out | apply IsS107.alloc | apply IsS107.drewN | apply IsS107.drew | apply IsS107.set_1 | apply IsS107.set_2 | refine IsS107.far ?_ NB0_251.out _ | refine IsS107.far ?_ NB0_252.out _) | exact HI0.out)) (by (with_reducible repeat (first | apply Kd.S_alloc | apply Kd.S_drewN | apply Kd.S_drew)); exact HO_253000.out) (by decide)) hk (fun _ h => h.2)) (fun _ h => h.1)); have n1_ := Aside0.mk (KeepBut.blk hk (g' := gb251) (o := .cells #[.slice none 0 0] 29 (0, 0)) (by (with_reducible repeat (first | refine blk_drewN ?_ _ | refine blk_drew ?_ | refine blk_alloc ?_ _)); exact BK251.out) NB251_0.out (by simp)); have n2_ := Aside0.mk (KeepBut.blk hk (g' := gb252) (o := .cells #[u253000] 29 (0, 0)) (by (with_reducible repeat (first | refine blk_drewN ?_ _ | refine blk_drew ?_ | refine blk_alloc ?_ _)); exact BK252.out) NB252_0.out (by simp)); have n3_ := Aside0.mk (KeepBut.trans (by repeat (first | (with_reducible first | exact HK.out | apply KeepBut.set_ | apply keep_drewN | apply keep_drew | apply keep_alloc | refine keep_far ?_ GW251.out _ | refine keep_far ?_ GW252.out _) | exact HK.out)) hk (.inl rfl)); have n4_ := Aside0.mk (hb); have n5_ := Aside0.mk (hi); clear HO_253000; clear BK251; clear BK252; clear HK; clear HB; clear HI0; have HO_253000 := n0_; have BK251 := n1_; have BK252 := n2_; have HK := n3_; have HB := n4_; have HI0 := n5_; clear n0_ n1_ n2_ n3_ n4_ n5_; (try clear hb); (try clear hb2); (try clear hk); (try clear hi)) | ((with_reducible refine gate_callee (f := 107) rfl ?_); refine goesL_ (some 30) rfl rfl Try.func107 (by kernel_rfl) rfl #[.pointer (some ⟨g, 0, none⟩)] rfl (by (try simp only [List.map_toArray, List.map_cons, List.map_nil]); first | done | rfl | (simp only [List.length_drop, List.length_take]; rfl)) ?_; (with_reducible refine (spec_l2Main.calls g s0_0 t265 t266 t268 t269 t270 w0 _ ?side1 ?side2 A30.out).mono ?_); (case side1 => repeat (first | (with_reducible first | exact HI0.out | apply IsS107.alloc | apply IsS107.drewN | apply IsS107.drew | apply IsS107.set_1 | apply IsS107.set_2 | refine IsS107.far ?_ NB0_251.out _ | refine IsS107.far ?_ NB0_252.out _) | exact HI0.out)); (case side2 => repeat (first | (with_reducible first | exact HB.out | apply below_alloc | apply pw_below_drewN | apply below_drew1 | refine below_set ?_ (IsS107.ge HI0.out) | refine below_set ?_ GE251.out | refine below_set ?_ GE252.out) | exact HB.out)); rintro e w53 ⟨rfl, hi, hb, hk⟩; refine ⟨_, rfl, ?_⟩; have n0_ := Aside0.mk (Kd.S_mono (Kd.S_keep (IsS107.apartS (show IsS107 w0 _ g s0_0 t265 t266 from by repeat (first | (with_reducible first | exact HI0.out | apply IsS107.alloc | apply IsS107.drewN | apply IsS107.drew | apply IsS107.set_1 | apply IsS107.set_2 | refine IsS107.far ?_ NB0_251.out _ | refine IsS107.far ?_ NB0_252.out _) | exact HI0.out)) (by (with_reducible repeat (first | apply Kd.S_alloc | apply Kd.S_drewN | apply Kd.S_drew)); exact HO_253000.out) (by decide)) hk (fun _ h => h.2)) (fun _ h => h.1)); have n1_ := Aside0.mk (KeepBut.blk hk (g' := gb251) (o := .cells #[.slice none 0 0] 29 (0, 0)) (by (with_reducible repeat (first | refine blk_drewN ?_ _ | refine blk_drew ?_ | refine blk_alloc ?_ _)); exact BK251.out) NB251_0.out (by simp)); have n2_ := Aside0.mk (KeepBut.blk hk (g' := gb252) (o := .cells #[u253000] 29 (0, 0)) (by (with_reducible repeat (first | refine blk_drewN ?_ _ | refine blk_drew ?_ | refine blk_alloc ?_ _)); exact BK252.out) NB252_0.out (by simp)); have n3_ := Aside0.mk (KeepBut.trans (by repeat (first | (with_reducible first | exact HK.out | apply KeepBut.set_ | apply keep_drewN | apply keep_drew | apply keep_alloc | refine keep_far ?_ GW251.out _ | refine keep_far ?_ GW252.out _) | exact HK.out)) hk (.inl rfl)); have n4_ := Aside0.mk (hb); have n5_ := Aside0.mk (hi); clear HO_253000; clear BK251; clear BK252; clear HK; clear HB; clear HI0; have HO_253000 := n0_; have BK251 := n1_; have BK252 := n2_; have HK := n3_; have HB := n4_; have HI0 := n5_; clear n0_ n1_ n2_ n3_ n4_ n5_; (try clear hb); (try clear hb2); (try clear hk); (try clear hi)) | ((with_reducible refine gate_callee (f := 106) rfl ?_); refine goesL_ (some 31) rfl rfl Try.func106 (by kernel_rfl) rfl #[.string t268] rfl (by (try simp only [List.map_toArray, List.map_cons, List.map_nil]); first | done | rfl | (simp only [List.length_drop, List.length_take]; rfl)) ?_; (with_reducible refine (spec_Assemble.calls k1 t268 t271 t272 _ A31.out).mono ?_); rintro e w54 ⟨v273, rfl, ho0, hb⟩; refine ⟨_, rfl, ?_⟩; have n0_ := Aside0.mk (Kd.S_elder' (by (with_reducible repeat (first | apply Kd.S_alloc | apply Kd.S_drewN | apply Kd.S_drew)); exact HO_253000.out) (Kd.R_base ho0) hb); have n1_ := Aside0.mk (Kd.R_lower ho0 (keep_size (w := w) (g := g) (row := none) (by repeat (first | (with_reducible first | exact HK.out | apply KeepBut.set_ | apply keep_drewN | apply keep_drew | apply keep_alloc | refine keep_far ?_ GW251.out _ | refine keep_far ?_ GW252.out _) | exact HK.out)))); have n2_ := Aside0.mk (blk_below (g := gb251) (o := .cells #[.slice none 0 0] 29 (0, 0)) (by (with_reducible repeat (first | refine blk_drewN ?_ _ | refine blk_drew ?_ | refine blk_alloc ?_ _)); exact BK251.out) hb); have n3_ := Aside0.mk (blk_below (g := gb252) (o := .cells #[u253000] 29 (0, 0)) (by (with_reducible repeat (first | refine blk_drewN ?_ _ | refine blk_drew ?_ | refine blk_alloc ?_ _)); exact BK252.out) hb); have n4_ := Aside0.mk (IsS107.below (by repeat (first | (with_reducible first | exact HI0.out | apply IsS107.alloc | apply IsS107.drewN | apply IsS107.drew | apply IsS107.set_1 | apply IsS107.set_2 | refine IsS107.far ?_ NB0_251.out _ | refine IsS107.far ?_ NB0_252.out _) | exact HI0.out)) hb); have n5_ := Aside0.mk (KeepBut.trans (by repeat (first | (with_reducible first | exact HK.out | apply KeepBut.set_ | apply keep_drewN | apply keep_drew | apply keep_alloc | refine keep_far ?_ GW251.out _ | refine keep_far ?_ GW252.out _) | exact HK.out)) (KeepBut.of_below hb g none) (.inl rfl)); have n6_ := Aside0.mk (below_step (by repeat (first | (with_reducible first | exact HB.out | apply below_alloc | apply pw_below_drewN | apply below_drew1 | refine below_set ?_ (IsS107.ge HI0.out) | refine below_set ?_ GE251.out | refine below_set ?_ GE252.out) | exact HB.out)) hb); clear HO_253000; clear BK251; clear BK252; clear HI0; clear HK; clear HB; have HO_253000 := n0_; have HO274 := n1_; have BK251 := n2_; have BK252 := n3_; have HI0 := n4_; have HK := n5_; have HB := n6_; clear n0_ n1_ n2_ n3_ n4_ n5_ n6_; (try clear hb); (try clear hb2); (try clear hk); (try clear hi); (try clear ho0); obtain ⟨Ao55, co55, eo55⟩ := Kd.R_slice HO274.out; subst eo55; have hnb56 := NB252_251.out; have hnc56 := NB251_252.out; have hnb57 := NB252_0.out; have hnc57 := NB0_252.out; have hcz58_0 : w54.cell? ⟨gb252, 0, none⟩ = some (u253000) := (blk_cell BK252.out 0).trans rfl; have hfz58_0 := blk_frozen BK252.out 0; obtain ⟨Ao59, co59, eo59⟩ := Kd.S_slice HO_253000.out; subst eo59; have p277 : 0 ≤ ((ji49) : Int) := of_decide_eq_true (by first | (with_reducible assumption) | assumption); have q277 : (ji49) < (x253000_1.length : Int) := of_decide_eq_true (by first | (with_reducible assumption) | assumption); obtain ⟨ad277, A277_0, c277_0, e277, hx277_0, hl277_0, hi277_0⟩ := at_L3 (Kd.S_reads' HO_253000.out).2.2 (ji49) p277 q277; cases e277; obtain ⟨ce277, hce277, hMe277, hcc277⟩ := Kd.S_get HO_253000.out [] (ji49) p277 (by first | exact q277 | exact of_decide_eq_true (by first | (with_reducible assumption) | assumption) | (have e_ := (Kd.S_reads' HO_253000.out).1; omega)); obtain ⟨ve277_0, rfl, ge277_0⟩ := hMe277; have hv277_0 := hcc277 0 _ rfl; rw [Nat.add_zero, show ((Kd.slice 3 (Kd.int .i64))).sz = 1 from rfl, Nat.mul_one] at hv277_0; replace hv277_0 := Option.some.inj (hv277_0.symm.trans hx277_0); rw [hv277_0] at ge277_0; have HL277_0 := Aside0.mk (show Kd.R (Kd.int .i64) 3 _ _ _ _ (rd_L3 x253000_1 (ji49)) from ge277_0); clear hv277_0 ge277_0; clear hcc277 hce277; have HR277_0 := Aside0.mk hi277_0; have HC277_0 := Aside0.mk hl277_0; clear hi277_0 hl277_0; replace p277 := eq_true p277; replace q277 := eq_true q277; have hnb60 := NB251_0.out; have hnc60 := NB0_251.out; have hcz61_0 : w54.cell? ⟨gb251, 0, none⟩ = some (.slice none 0 0) := (blk_cell BK251.out 0).trans rfl; have hfz61_0 := blk_frozen BK251.out 0))
        have hji_ : (0 : Int) ≤ ji49 := of_decide_eq_true (by assumption)
        have hjl_ : ji49 < (x253000_1.length : Int) := by first | exact of_decide_eq_true (by assumption) | (rw [Ny0.out, List.length_set]; exact of_decide_eq_true (by assumption))
        obtain ⟨gl, eA_, hgl, ⟨clr, hbl⟩, hcl, hS6⟩ := six_ok HO_253000.out ji49 hji_ hjl_ (by first | exact hx277_0 | (rw [add_plain]; exact hx277_0)) C256.out
        subst eA_
        have GL := Aside0.mk hgl
        have HBL := Aside0.mk hbl
        have HS6 := Aside0.mk hS6
        have HLN := Aside0.mk C256.out
        have z0 := (hcl 250 (by omega)).1
        have z1 := (hcl 251 (by omega)).1
        have z2 := (hcl 252 (by omega)).1
        have z3 := (hcl 253 (by omega)).1
        have z4 := (hcl 254 (by omega)).1
        have z5 := (hcl 255 (by omega)).1
        have f0 := (hcl 250 (by omega)).2
        have f1 := (hcl 251 (by omega)).2
        have f2 := (hcl 252 (by omega)).2
        have f3 := (hcl 253 (by omega)).2
        have f4 := (hcl 254 (by omega)).2
        have f5 := (hcl 255 (by omega)).2
        have b0 : ((250 : Int) < ((rd_L3 x253000_1 ji49).length : Int)) = True := eq_true (by have := C256.out; omega)
        have b1 : ((251 : Int) < ((rd_L3 x253000_1 ji49).length : Int)) = True := eq_true (by have := C256.out; omega)
        have b2 : ((252 : Int) < ((rd_L3 x253000_1 ji49).length : Int)) = True := eq_true (by have := C256.out; omega)
        have b3 : ((253 : Int) < ((rd_L3 x253000_1 ji49).length : Int)) = True := eq_true (by have := C256.out; omega)
        have b4 : ((254 : Int) < ((rd_L3 x253000_1 ji49).length : Int)) = True := eq_true (by have := C256.out; omega)
        have b5 : ((255 : Int) < ((rd_L3 x253000_1 ji49).length : Int)) = True := eq_true (by have := C256.out; omega)
        have n1 : gl ≠ gb251 := blk_ne hbl BK251.out (by decide)
        have n2 : gb251 ≠ gl := fun e => n1 e.symm
        have n3 : gl ≠ gb252 := blk_ne hbl BK252.out (by decide)
        have n4 : gb252 ≠ gl := fun e => n3 e.symm
        clear hcl hbl hgl hS6 hji_ hjl_
        go_wp2
        refine bodyPost_ret (results_cell_row rfl _ _ gb251 29 #[.slice (some ad277) x253000_1.length co59] (0, 0) _ rfl (blk_put (cs := #[.slice none 0 0]) (six_blk BK251.out n2) 0 _ rfl) Try.underlying29 rfl (by kernel_rfl)) rfl ?_
        exact ⟨_, rfl, Kd.S_mono (Kd.S_far (p := ⟨gb251, 0, none⟩) (Kd.S_types HS6.out (six_blk BK251.out n2) (by decide)) (fun _ hk => hk.2) (.slice (some ad277) x253000_1.length co59)) (fun _ hk => trivial), (six_state HI0.out (IsS107.ne_blk HI0.out HBL.out (by decide))).far (p := ⟨gb251, 0, none⟩) NB0_251.out _, below_set (six_below HB.out (Nat.le_trans HW0.out GL.out)) GE251.out, keep_far (p := ⟨gb251, 0, none⟩) (six_keep HK.out GL.out) GW251.out _⟩
       ·rw [if_neg c51] at H
        exact absurd H (by simp)
      ·rw [if_neg c50] at H
       exact absurd H (by simp)

/-! ### spec_l2Draw (mine) -/
/-- A row of the call's own that may begin inside its block, as an element. -/
def cutK {α : Type} (e : Nat) (d : Kd α) : Kd (List α) where
 sz := 1
 E := e :: d.E
 K := (Kd.slice e d).K
 M := fun w base ok xs cs => ∃ v, cs = [v] ∧ d.Q e w base ok v xs
 K_len := fun h => (Kd.slice e d).K_len h
 K_one := fun h => (Kd.slice e d).K_one h
 K_below := fun hb h => (Kd.slice e d).K_below hb h
 K_of_M := by
  rintro w base ok x cs ⟨v, rfl, h⟩
  obtain ⟨A, c, rfl, hl, hC⟩ := Kd.Q_reads h
  exact ⟨A, c, rfl, hl, hC⟩
 M_mono := by
  rintro w base ok ok' x cs hok ⟨v, rfl, h⟩
  exact ⟨v, rfl, Kd.Q_mono h hok⟩
 M_bound := by
  rintro w base ok x cs ⟨v, rfl, h⟩
  exact ⟨v, rfl, Kd.Q_bound h⟩
 M_move := by
  rintro w w1 base ok x cs hm ⟨v, rfl, h⟩
  exact ⟨v, rfl, Kd.Q_move h hm⟩
 M_lower := by
  rintro w base base' ok x cs hb ⟨v, rfl, h⟩
  exact ⟨v, rfl, Kd.Q_lower h hb⟩
theorem S_cut {α : Type} {e e' : Nat} {d : Kd α} {w : World} {base : Nat} {ok : Nat → Prop} {v : Value} {xs : List (List α)} (h : Kd.S (Kd.slice e d) e' w base ok v xs) : Kd.S (cutK e d) e' w base ok v xs := by
 obtain ⟨f, h0, inner, ho, hr⟩ := h
 refine ⟨f, h0, inner, ho, hr.1, fun j p hj => ?_⟩
 obtain ⟨u, hu, hR⟩ := hr.2 j p hj
 exact ⟨u, hu, Kd.Q_of_R hR⟩
theorem C_uncut {α : Type} {e : Nat} {d : Kd α} {w : World} {A : Option Addr} {n : Nat} {xs : List (List α)} (h : (cutK e d).C w A n xs) : (Kd.slice e d).C w A n xs := h
section
variable {W : World} {base go n cap : Nat} {ok : Nat → Prop} {X : List (List Int)}
/-- The first row's header. -/
theorem first_row (h : Kd.S (Kd.slice 3 (Kd.int .i64)) 30 W base ok (.slice (some ⟨go, 0, none⟩) n cap) X) (h0 : 0 < X.length) :
  ∃ A c, W.cell? ⟨go, 0, none⟩ = some (.slice A (rd_L3 X 0).length c) ∧ W.frozen? ⟨go, 0, none⟩ = false ∧ Kd.R (Kd.int .i64) 3 W base ok (.slice A (rd_L3 X 0).length c) (rd_L3 X 0) := by
 have hn := (Kd.S_reads' h).1
 obtain ⟨oki, cc, _, hM, hcc, hf, hoki, _⟩ := Kd.S_elem h [] 0 (by omega) (by omega)
 obtain ⟨v, rfl, hR⟩ : ∃ v, cc = [v] ∧ Kd.R (Kd.int .i64) 3 W base oki v (X.getD (0 : Int).toNat []) := hM
 obtain ⟨A, c, rfl⟩ := Kd.R_slice hR
 exact ⟨A, c, hcc 0 _ rfl, hf 0, Kd.R_mono hR (fun k hk => (hoki k hk).1)⟩
/-- The first row is a cut of what it was. -/
theorem first_cut (h : Kd.S (Kd.slice 3 (Kd.int .i64)) 30 W base ok (.slice (some ⟨go, 0, none⟩) n cap) X) (h0 : 0 < X.length) {A : Option Addr} {m c : Nat} (hx : W.cell? ⟨go, 0, none⟩ = some (.slice A m c)) (h1 : 1 ≤ (rd_L3 X 0).length) :
  Kd.S (cutK 3 (Kd.int .i64)) 30 (W.setCell ⟨go, 0, none⟩ (.slice (if c = 1 then A else A.map (·.add 1)) (m - 1) (c - 1))) base ok (.slice (some ⟨go, 0, none⟩) n cap) (X.set 0 ((rd_L3 X 0).drop 1)) := by
 have hn := (Kd.S_reads' h).1
 obtain ⟨oki, cc, _, hM, hcc, hf, hoki, hH⟩ := Kd.S_elem (S_cut h) [] 0 (by omega) (by omega)
 obtain ⟨v, rfl, hQ⟩ : ∃ v, cc = [v] ∧ Kd.Q (Kd.int .i64) 3 W base oki v (X.getD (0 : Int).toNat []) := hM
 have hv : W.cell? ⟨go, 0, none⟩ = some v := hcc 0 _ rfl
 rw [hx] at hv
 obtain rfl := Option.some.inj hv
 have hd := Kd.Q_drop (k := 1) hQ h1
 have := (Kd.S_seg (okg := fun _ => False) (okp := oki) (seg := [.slice (if c = 1 then A else A.map (·.add 1)) (m - 1) (c - 1)]) (j := 0) (Kd.H_mono hH (fun k hk => ⟨hk, fun h => h⟩)) (by omega) (by omega) (by show 0 + 1 ≤ 1; omega) (x' := (rd_L3 X 0).drop 1) ⟨_, rfl, hd⟩ (fun k hk => .inl hk) (fun k hk => hk.elim)).1
 exact this
/-- A store into the first row. -/
theorem first_put (h : Kd.S (Kd.slice 3 (Kd.int .i64)) 30 W base ok (.slice (some ⟨go, 0, none⟩) n cap) X) (h0 : 0 < X.length) {A : Option Addr} {m c : Nat} (hx : W.cell? ⟨go, 0, none⟩ = some (.slice A m c)) (h3 : 3 < (rd_L3 X 0).length) :
  ∃ gl, A = some ⟨gl, 0, none⟩ ∧ m = (rd_L3 X 0).length ∧ base ≤ gl ∧ (∃ cells, W.heap[gl]? = some (.cells cells 3 (0, 0))) ∧ (∃ u, W.cell? ⟨gl, 3, none⟩ = some (.int .i64 u)) ∧ W.frozen? ⟨gl, 3, none⟩ = false ∧
   ∀ p : Int, Kd.S (Kd.slice 3 (Kd.int .i64)) 30 (W.setCell ⟨gl, 3, none⟩ (.int .i64 p)) base ok (.slice (some ⟨go, 0, none⟩) n cap) (X.set 0 ((rd_L3 X 0).set 3 p)) := by
 have hn := (Kd.S_reads' h).1
 obtain ⟨oki, cc, _, hM, hcc, hf, hoki, hH⟩ := Kd.S_elem h [] 0 (by omega) (by omega)
 obtain ⟨v, rfl, hR⟩ : ∃ v, cc = [v] ∧ Kd.R (Kd.int .i64) 3 W base oki v (X.getD (0 : Int).toNat []) := hM
 have hv : W.cell? ⟨go, 0, none⟩ = some v := hcc 0 _ rfl
 rw [hx] at hv
 obtain rfl := Option.some.inj hv
 have e2 : X.getD (0 : Int).toNat [] = rd_L3 X 0 := rfl
 rw [e2] at hR
 obtain ⟨gl, cap', e3, hg, hgl, hcells⟩ := Kd.R_form hR (by omega)
 injection e3 with a1 a2 a3
 subst a1 a2 a3
 have hok : oki gl := hR.1 gl rfl
 obtain ⟨hc3, hf3⟩ := Kd.R_celln 0 hR 3 (by omega) (by omega)
 refine ⟨gl, rfl, rfl, hg, hcells, ⟨_, hc3⟩, hf3, fun p => ?_⟩
 exact Kd.H_back (i := 0) (Kd.H_step hH (fun k _ hn _ => Below.heap_setCell _ _ _ k (fun e => hn (by rw [e]; exact hok)))) ⟨_, rfl, Kd.R_putn hR 3 p⟩ (fun _ hk => hk)
end
def spec_l2Draw.f (k : Nat) (s0_0 : List Int) (s0_1 : Int) (s0_2 : Int) : Option ((List (List Int)) × Int × Int) :=
 (spec_l2DrawRight.f k s0_0 s0_1 s0_2).bind fun q => (spec_l1Below.f s0_0 q.2.1 q.2.2 15).bind fun b =>
  if b.1 = 0 then (if 0 < q.1.length ∧ 1 ≤ (rd_L3 q.1 0).length then some (q.1.set 0 ((rd_L3 q.1 0).drop 1), b.2.1, b.2.2) else none)
  else if b.1 = 1 then (if 0 < q.1.length ∧ 3 < (rd_L3 q.1 0).length then (spec_l1PickInt.f s0_0 b.2.1 b.2.2 [-1, 256]).bind fun p => some (q.1.set 0 ((rd_L3 q.1 0).set 3 p.1), p.2.1, p.2.2) else none)
  else if b.1 = 2 then some ([], b.2.1, b.2.2) else some (q.1, b.2.1, b.2.2)
theorem spec_l2Draw.mono : ∀ a0 a1 a2 k, LeO (spec_l2Draw.f k a0 a1 a2) (spec_l2Draw.f (k + 1) a0 a1 a2) := by
 intro a0 a1 a2 k
 unfold spec_l2Draw.f
 refine LeO.bind (spec_l2DrawRight.mono _ _ _ _) (fun q => LeO.refl _)
/-- What is known where the drawn image lies in its variable, and the cursor behind the draw of what becomes of it. -/
structure L2 (w0 w W : World) (g a b : Nat) (s0 : List Int) (x y : Int) (A : Option Addr) (c : Nat) (X : List (List Int)) : Prop where
 st : IsS107 w0 W g s0 x y
 keep : KeepBut w W g none
 below : Below w0.heap.size w0 W
 hw : w0.heap.size ≤ w.heap.size
 ba : W.heap[a]? = some (.cells #[.slice none 0 0] 29 (0, 0))
 bb : W.heap[b]? = some (.cells #[.slice A X.length c] 29 (0, 0))
 row : Kd.S (Kd.slice 3 (Kd.int .i64)) 30 W w.heap.size (fun _ => True) (.slice A X.length c) X
 ga : w.heap.size ≤ a
 gb : w.heap.size ≤ b
 ab : a ≠ b
theorem L2.call {w0 w W W' : World} {g a b : Nat} {s0 : List Int} {x y x' y' : Int} {A : Option Addr} {c : Nat} {X : List (List Int)} (h : L2 w0 w W g a b s0 x y A c X) (hi : IsS107 w0 W' g s0 x' y') (hb : Below w0.heap.size w0 W') (hk : KeepBut W W' g none) : L2 w0 w W' g a b s0 x' y' A c X :=
 ⟨hi, KeepBut.trans h.keep hk (.inl rfl), hb, h.hw, KeepBut.blk hk h.ba (fun e => IsS107.ne_blk h.st h.ba (by decide) e.symm) (by simp), KeepBut.blk hk h.bb (fun e => IsS107.ne_blk h.st h.bb (by decide) e.symm) (by simp),
  Kd.S_mono (Kd.S_keep (IsS107.apartS h.st h.row (by decide)) hk (fun _ h => h.2)) (fun _ _ => trivial), h.ga, h.gb, h.ab⟩
/-- The result's block, and the end. -/
theorem L2.done {w0 w W : World} {g a : Nat} {s0 : List Int} {x y : Int} {v : Value} {Y : List (List Int)} (st : IsS107 w0 W g s0 x y) (keep : KeepBut w W g none) (below : Below w0.heap.size w0 W) (hw : w0.heap.size ≤ w.heap.size)
  (ba : W.heap[a]? = some (.cells #[.slice none 0 0] 29 (0, 0))) (row : Kd.S (cutK 3 (Kd.int .i64)) 30 W w.heap.size (fun _ => True) v Y) (ga : w.heap.size ≤ a) :
  (W.setCell ⟨a, 0, none⟩ v).heap[a]? = some (.cells #[v] 29 (0, 0)) ∧ Kd.S (cutK 3 (Kd.int .i64)) 30 (W.setCell ⟨a, 0, none⟩ v) w.heap.size (fun _ => True) v Y ∧ IsS107 w0 (W.setCell ⟨a, 0, none⟩ v) g s0 x y ∧ Below w0.heap.size w0 (W.setCell ⟨a, 0, none⟩ v) ∧ KeepBut w (W.setCell ⟨a, 0, none⟩ v) g none :=
 ⟨blk_put ba 0 _ rfl, Kd.S_mono (Kd.S_far (p := ⟨a, 0, none⟩) (Kd.S_types row ba (by decide)) (fun _ hk => hk.2) v) (fun _ _ => trivial), st.far (p := ⟨a, 0, none⟩) (IsS107.ne_blk st ba (by decide)) v, below_set below (Nat.le_trans hw ga), keep_far (p := ⟨a, 0, none⟩) keep ga v⟩
set_option maxRecDepth 100000 in
set_option maxHeartbeats 4000000 in
theorem spec_l2Draw.calls (k : Nat) (g : Nat) (s0_0 : List Int) (s0_1 : Int) (s0_2 : Int) (r1 : List (List Int)) (r2 : Int) (r3 : Int) (w0 w : World) (hI : IsS107 w0 w g s0_0 s0_1 s0_2) (hB : Below w0.heap.size w0 w) (h : spec_l2Draw.f k s0_0 s0_1 s0_2 = some (r1, r2, r3)) :
  Calls Try.prog 65 #[.pointer (some ⟨g, 0, none⟩)] w fun e w' => ∃ v0_ : Value, e = .returned (.agg #[v0_]) ∧ Kd.S (cutK 3 (Kd.int .i64)) 30 w' w.heap.size (fun _ => True) v0_ r1 ∧ IsS107 w0 w' g s0_0 r2 r3 ∧ Below w0.heap.size w0 w' ∧ KeepBut w w' g none := by
 have hu29 := Try.underlying29
 unfold spec_l2Draw.f at h
 obtain ⟨⟨X, x1, x2⟩, hq, h2⟩ := Option.bind_eq_some_iff.mp h
 obtain ⟨⟨t, y1, y2⟩, hp, h3⟩ := Option.bind_eq_some_iff.mp h2
 clear h h2
 have HI := Aside0.mk hI
 have HB := Aside0.mk hB
 have HQ := Aside0.mk hq
 have HP := Aside0.mk hp
 have H3 := Aside0.mk h3
 clear hI hB hq hp h3
 go_enter Try.func65, Try.ntmps65
 go_wp2_with fail
 refine (spec_l2DrawRight.calls k g s0_0 s0_1 s0_2 X x1 x2 w0 _ ?i ?b HQ.out).mono ?_
 case i => exact IsS107.alloc HI.out _
 case b => exact below_alloc HB.out _
 rintro e W1 ⟨v0, rfl, hS, hi, hb, hk⟩
 obtain ⟨A, c, rfl⟩ := Kd.S_slice hS
 have hga : w.heap.size ≠ g := fun e => by have := IsS107.lt HI.out; omega
 have ba := KeepBut.blk hk (g' := w.heap.size) (alloc_at w _ _ rfl) hga (by simp)
 have hsz : w.heap.size + 1 ≤ W1.heap.size := by have := hk.1; rw [alloc_size] at this; omega
 have hl : L2 w0 w (W1.alloc (.cells #[.slice A X.length c] 29)) g w.heap.size W1.heap.size s0_0 x1 x2 A c X :=
  ⟨hi.alloc _, keep_alloc (KeepBut.trans (keep_alloc (KeepBut.refl w g none) _) hk (.inl rfl)) _, below_alloc hb _, HB.out.size, blk_alloc ba _, blk_new W1 _, Kd.S_alloc (Kd.S_lower hS (by rw [alloc_size]; omega)) _, Nat.le_refl _, by omega, by omega⟩
 have HL := Aside0.mk hl
 clear hS hi hb hk ba hl hsz
 go_wp2_with fail
 generalize W1.alloc (.cells #[.slice A X.length c] 29) = W2 at *
 generalize W1.heap.size = b at *
 refine (spec_l1Below.calls g s0_0 x1 x2 15 t y1 y2 w0 _ HL.out.st HL.out.below HP.out).mono ?_
 rintro e W3 ⟨rfl, hi, hb, hk⟩
 have H := Aside0.mk (HL.out.call hi hb hk)
 have h3 := H3.out
 clear HL hi hb hk H3 HQ HP HI HB W2
 have hy0 : W3.cell? ⟨b, 0, none⟩ = some (.slice A X.length c) := (blk_cell H.out.bb 0).trans rfl
 have hyf := blk_frozen H.out.bb 0
 have hz0 : W3.cell? ⟨w.heap.size, 0, none⟩ = some (.slice none 0 0) := (blk_cell H.out.ba 0).trans rfl
 have hzf := blk_frozen H.out.ba 0
 have hab := H.out.ab
 have hba : b ≠ w.heap.size := fun e => hab e.symm
 by_cases t0 : t = 0
 ·subst t0
  rw [if_pos rfl] at h3
  by_cases hc : 0 < X.length ∧ 1 ≤ (rd_L3 X 0).length
  ·rw [if_pos hc] at h3
   simp only [Option.some.injEq, Prod.mk.injEq] at h3
   obtain ⟨rfl, rfl, rfl⟩ := h3
   obtain ⟨go, cap, eA, hgo, _, ⟨cells, hgb⟩⟩ := Kd.S_form H.out.row hc.1
   injection eA with e1 e2 e3
   subst e1 e3
   obtain ⟨A1, c1, hx, hf, hR⟩ := first_row H.out.row hc.1
   have HCUT := Aside0.mk (first_cut H.out.row hc.1 hx hc.2)
   obtain ⟨i0, hi0, hzz⟩ := Option.map_eq_some_iff.1 info3
   simp only [Prod.mk.injEq] at hzz
   have hcut : ∀ W : World, (Instr.slice 30 (.slice A1 (rd_L3 X 0).length c1) (some (.int .i64 1)) none none).run Try.prog W = .ok (.slice (if c1 = 1 then A1 else A1.map (·.add 1)) ((rd_L3 X 0).length - 1) (c1 - 1)) W := cut_from 30 3 .i64 Try.underlying30 hi0 1 hzz.2.1 A1 (rd_L3 X 0).length c1 1 (by omega) (by have := hc.2; omega)
   have HG := Aside0.mk hgb
   have HGO := Aside0.mk hgo
   have hb1 : ((0 : Int) < ((X.length : Nat) : Int)) = True := eq_true (by have := hc.1; omega)
   have hb2 : 0 < X.length := hc.1
   have hb3 : X ≠ [] := fun e => by rw [e] at hb2; exact absurd hb2 (by decide)
   have n1 : go ≠ w.heap.size := blk_ne hgb H.out.ba (by decide)
   have n2 : w.heap.size ≠ go := fun e => n1 e.symm
   have n3 : go ≠ b := blk_ne hgb H.out.bb (by decide)
   have n4 : b ≠ go := fun e => n3 e.symm
   clear hc hR hi0 hzz e2 hgb hgo
   generalize (if c1 = 1 then A1 else A1.map (·.add 1)) = A3 at *
   generalize (rd_L3 X 0).length - 1 = m3 at *
   generalize c1 - 1 = c3 at *
   go_wp2
   go_still_tail 8, (by kernel_rfl)
   go_wp2
   obtain ⟨d1, d2, d3, d4, d5⟩ := L2.done (v := .slice (some ⟨go, 0, none⟩) X.length c) (H.out.st.far (p := ⟨go, 0, none⟩) (IsS107.ne_blk H.out.st HG.out (by decide)) (.slice A3 m3 c3)) (keep_far (p := ⟨go, 0, none⟩) H.out.keep HGO.out (.slice A3 m3 c3)) (below_set H.out.below (Nat.le_trans H.out.hw HGO.out)) H.out.hw (blk_far (p := ⟨go, 0, none⟩) H.out.ba n2 (.slice A3 m3 c3)) (HCUT.out) H.out.ga
   refine bodyPost_ret (results_cell_row rfl _ _ w.heap.size 29 #[.slice (some ⟨go, 0, none⟩) X.length c] (0, 0) _ rfl (blk_drew d1) hu29 rfl (by kernel_rfl)) rfl ?_
   exact ⟨_, rfl, Kd.S_drew d2, IsS107.drew d3, below_drew1 d4, keep_drew d5⟩
  ·rw [if_neg hc] at h3
   cases h3
 ·rw [if_neg t0] at h3
  have e0 : (t == 0) = false := beq_eq_false_iff_ne.mpr t0
  by_cases t1 : t = 1
  ·subst t1
   rw [if_pos rfl] at h3
   by_cases hc : 0 < X.length ∧ 3 < (rd_L3 X 0).length
   ·rw [if_pos hc] at h3
    obtain ⟨⟨p, q1, q2⟩, hpp, h4⟩ := Option.bind_eq_some_iff.mp h3
    simp only [Option.some.injEq, Prod.mk.injEq] at h4
    obtain ⟨rfl, rfl, rfl⟩ := h4
    clear h3 e0 t0
    have HPP := Aside0.mk hpp
    obtain ⟨go, cap, eA, hgo, _, ⟨cells, hgb⟩⟩ := Kd.S_form H.out.row hc.1
    injection eA with e1 e2 e3
    subst e1 e3
    obtain ⟨A1, c1, hx, hf, hR⟩ := first_row H.out.row hc.1
    have HX := Aside0.mk hx
    obtain ⟨gl, eA1, em, hgl, ⟨cl, hgc⟩, _⟩ := first_put H.out.row hc.1 hx hc.2
    subst eA1
    have HG := Aside0.mk hgb
    have HC := Aside0.mk hc
    have HGL := Aside0.mk hgl
    have hb1 : ((0 : Int) < ((X.length : Nat) : Int)) = True := eq_true (by have := hc.1; omega)
    have hb2 : 0 < X.length := hc.1
    have hb3 : X ≠ [] := fun e => by rw [e] at hb2; exact absurd hb2 (by decide)
    have hb4 : ((3 : Int) < (((rd_L3 X 0).length : Nat) : Int)) = True := eq_true (by have := hc.2; omega)
    have n3 : go ≠ b := blk_ne hgb H.out.bb (by decide)
    have n4 : b ≠ go := fun e => n3 e.symm
    clear hc hR e2 hgb hgo hpp hx hf hgc hgl em hy0 hyf hz0 hzf
    go_wp2
    refine start_ (n := 9) (S := fun w' => w'.cell? ⟨b, 0, none⟩ = some (.slice (some ⟨go, 0, none⟩) X.length c) ∧ w'.cell? ⟨go, 0, none⟩ = some (.slice (some ⟨gl, 0, none⟩) (rd_L3 X 0).length c1)) (ds := [8]) #[false, false, false, false, false, false, false, false, false] (by kernel_rfl) rfl rfl ⟨(blk_cell H.out.bb 0).trans rfl, HX.out⟩ (fun hHeld => ?_)
    have HD : Aside0 (W3.drew.cell? ⟨go, 0, none⟩ = some (.slice (some ⟨gl, 0, none⟩) (rd_L3 X 0).length c1)) := ⟨HX.out⟩
    have H4 : Aside0 (L2 w0 w W3.drew g w.heap.size b s0_0 y1 y2 (some ⟨go, 0, none⟩) c X) := ⟨⟨H.out.st.drew, keep_drew H.out.keep, below_drew1 H.out.below, H.out.hw, blk_drew H.out.ba, blk_drew H.out.bb, Kd.S_drew H.out.row, H.out.ga, H.out.gb, H.out.ab⟩⟩
    clear H HX
    generalize W3.drew = W4 at *
    refine pure_ (i := 0) (N := some 20) (v := ?_) (a' := ?_) #[true, false, false, false, false, false, false, false, false] rfl rfl (by kernel_rfl) (fun _ _ _ h => h) (Or.inl ⟨by rfl, ?_⟩) ?_ ?_
    rotate_left
    ·intro w'
     go_simp
     with_reducible rfl
    rotate_left
    ·simp only [Act.put, List.setIfInBounds_toArray, List.set_cons_zero, List.set_cons_succ, i64_w, i32_w]
     rfl
    refine take_ (i := 1) (N := some 21) (v := ?_) (a' := ?_) #[true, true, false, false, false, false, false, false, false] rfl rfl (by kernel_rfl) (fun _ _ _ h => h) (Or.inl ⟨by rfl, ?_⟩) hHeld ?_ ?_
    rotate_left
    ·rintro w' ⟨s0, s1⟩
     go_simp
     with_reducible rfl
    rotate_left
    ·simp only [Act.put, List.setIfInBounds_toArray, List.set_cons_zero, List.set_cons_succ, i64_w, i32_w]
     rfl
    refine pure_ (i := 2) (N := some 22) (v := ?_) (a' := ?_) #[true, true, true, false, false, false, false, false, false] rfl rfl (by kernel_rfl) (fun _ _ _ h => h) (Or.inl ⟨by rfl, ?_⟩) ?_ ?_
    rotate_left
    ·intro w'
     go_simp
     with_reducible rfl
    rotate_left
    ·simp only [Act.put, List.setIfInBounds_toArray, List.set_cons_zero, List.set_cons_succ, i64_w, i32_w]
     rfl
    refine take_ (i := 3) (N := some 23) (v := ?_) (a' := ?_) #[true, true, true, true, false, false, false, false, false] rfl rfl (by kernel_rfl) (fun _ _ _ h => h) (Or.inl ⟨by rfl, ?_⟩) hHeld ?_ ?_
    rotate_left
    ·rintro w' ⟨s0, s1⟩
     go_simp
     with_reducible rfl
    rotate_left
    ·simp only [Act.put, List.setIfInBounds_toArray, List.set_cons_zero, List.set_cons_succ, i64_w, i32_w]
     rfl
    refine pure_ (i := 4) (N := some 24) (v := ?_) (a' := ?_) #[true, true, true, true, true, false, false, false, false] rfl rfl (by kernel_rfl) (fun _ _ _ h => h) (Or.inl ⟨by rfl, ?_⟩) ?_ ?_
    rotate_left
    ·intro w'
     go_simp
     with_reducible rfl
    rotate_left
    ·simp only [Act.put, List.setIfInBounds_toArray, List.set_cons_zero, List.set_cons_succ, i64_w, i32_w]
     rfl
    refine one_ (i := 5) (N := some 25) #[true, true, true, true, true, true, false, false, false] rfl rfl (by kernel_rfl) (by decide) (fun K hK => ?_)
    refine value_ (w1 := W4.alloc (.cells #[.int .i64 (-1), .int .i64 256] 3)) (v := .slice (some ⟨W4.heap.size, 0, none⟩) 2 2) (by rfl) rfl ?_ ?_
    ·go_simp
    have hlit : Kd.R (Kd.int .i64) 3 (W4.alloc (.cells #[.int .i64 (-1), .int .i64 256] 3)) w.heap.size (fun _ => True) (.slice (some ⟨W4.heap.size, 0, none⟩) 2 2) [-1, 256] := Kd.R_of_own (own_lit W4 w.heap.size 3 .i64 [-1, 256] (keep_size H4.out.keep) (by decide)) (fun _ _ => trivial)
    have hne : W4.heap.size ≠ g := fun e => by have := IsS107.lt H4.out.st; omega
    have H5 : Aside0 (L2 w0 w (W4.alloc (.cells #[.int .i64 (-1), .int .i64 256] 3)) g w.heap.size b s0_0 y1 y2 (some ⟨go, 0, none⟩) c X) := ⟨⟨H4.out.st.alloc _, keep_alloc H4.out.keep _, below_alloc H4.out.below _, H4.out.hw, blk_alloc H4.out.ba _, blk_alloc H4.out.bb _, Kd.S_alloc H4.out.row _, H4.out.ga, H4.out.gb, H4.out.ab⟩⟩
    have HD5 := Aside0.mk (pw_cell_below (below_alloc (Below.refl _ _) (.cells #[.int .i64 (-1), .int .i64 256] 3)) HD.out)
    refine hK.out _ _ ⟨(blk_cell H5.out.bb 0).trans rfl, HD5.out⟩ (fun hHeld => ?_)
    clear hK K
    refine norm_ (a' := ?_) ?_ ?_
    rotate_left
    ·show Act.put _ (some 25) _ = _
     simp only [Act.put, List.setIfInBounds_toArray, List.set_cons_zero, List.set_cons_succ, i64_w, i32_w]
     rfl
    generalize hW5 : W4.alloc (.cells #[.int .i64 (-1), .int .i64 256] 3) = W5 at *
    refine one_ (i := 6) (N := some 26) #[true, true, true, true, true, true, true, false, false] rfl rfl (by kernel_rfl) (by decide) (fun K hK => ?_)
    refine goes_ Try.func70 (by kernel_rfl) rfl #[.pointer (some ⟨g, 0, none⟩), .slice (some ⟨W4.heap.size, 0, none⟩) 2 2] (by rfl) rfl rfl (by (try simp only [List.map_toArray, List.map_cons, List.map_nil]); first | done | rfl) ?_
    refine (spec_l1PickInt.calls g s0_0 y1 y2 (some ⟨W4.heap.size, 0, none⟩) 2 [-1, 256] p q1 q2 w0 W5 H5.out.st H5.out.below (Kd.R_reads' hlit).2.2 (by decide) (fun ad e _ => by injection e with e; rw [← e]; exact hne) HPP.out).mono ?_
    rintro e W6 ⟨rfl, hi, hb, hk⟩
    refine ⟨_, rfl, ?_⟩
    have H : Aside0 (L2 w0 w W6 g w.heap.size b s0_0 q1 q2 (some ⟨go, 0, none⟩) c X) := ⟨H5.out.call hi hb hk⟩
    obtain ⟨A1', c1', hx', hf', hR'⟩ := first_row H.out.row HC.out.1
    have hgo6 : go ≠ g := by
     obtain ⟨_, _, e1, _, _, ⟨cells6, hg6⟩⟩ := Kd.S_form H.out.row HC.out.1
     injection e1 with e1 _ _
     injection e1 with e1
     injection e1 with e1
     subst e1
     exact fun e => IsS107.ne_blk H.out.st hg6 (by decide) e.symm
    have hkx := keep_cell hk HD5.out hgo6
    rw [hx'] at hkx
    injection hkx with hkx
    injection hkx with k1 k2 k3
    subst k1 k3
    obtain ⟨gl', eA1, _, hgl, ⟨cl, hgc⟩, ⟨u3, hc3⟩, hf3, hput⟩ := first_put H.out.row HC.out.1 hx' HC.out.2
    injection eA1 with eA1
    injection eA1 with eA1
    subst eA1
    have HX := Aside0.mk hx'
    have HC3 := Aside0.mk hc3
    have HF3 := Aside0.mk hf3
    have HPUT := Aside0.mk (hput p)
    have HGC := Aside0.mk hgc
    have HGL := Aside0.mk hgl
    refine hK.out _ _ ⟨(blk_cell H.out.bb 0).trans rfl, hx'⟩ (fun hHeld => ?_)
    clear hK K hlit hne H5 HD5 hi hb hk hx' hf' hR' hgo6 k2 hgl hgc hc3 hf3 hput H4 HD hW5
    refine norm_ (a' := ?_) ?_ ?_
    rotate_left
    ·show Act.put _ (some 26) _ = _
     simp only [Act.put, List.setIfInBounds_toArray, List.set_cons_zero, List.set_cons_succ, i64_w, i32_w]
     rfl
    refine pure_ (i := 7) (N := some 27) (v := ?_) (a' := ?_) #[true, true, true, true, true, true, true, true, false] rfl rfl (by kernel_rfl) (fun _ _ _ h => h) (Or.inl ⟨by rfl, ?_⟩) ?_ ?_
    rotate_left
    ·intro w'
     go_simp
     with_reducible rfl
    rotate_left
    ·simp only [Act.put, List.setIfInBounds_toArray, List.set_cons_zero, List.set_cons_succ, i64_w, i32_w]
     rfl
    refine last_ (i := 8) (N := none) #[true, true, true, true, true, true, true, true, true] rfl rfl (by kernel_rfl) (by decide) (fun K hK => ?_)
    have r0 := HC3.out
    have f0 := HF3.out
    refine skip_ (w1 := ?_) (by rfl) rfl ?_ ?_
    rotate_left
    ·go_simp
     rfl
    refine hK.out _ _ ?_
    clear hK K r0 f0 hHeld
    refine done_ (by kernel_rfl) ?_
    have m1 : gl ≠ w.heap.size := blk_ne HGC.out H.out.ba (by decide)
    have m2 : w.heap.size ≠ gl := fun e => m1 e.symm
    have m3 : gl ≠ b := blk_ne HGC.out H.out.bb (by decide)
    have m4 : b ≠ gl := fun e => m3 e.symm
    have hy0 : (W6.setCell ⟨gl, 3, none⟩ (.int .i64 p)).cell? ⟨b, 0, none⟩ = some (.slice (some ⟨go, 0, none⟩) X.length c) := (blk_cell (blk_far (p := ⟨gl, 3, none⟩) H.out.bb m4 _) 0).trans rfl
    have hz0 : (W6.setCell ⟨gl, 3, none⟩ (.int .i64 p)).cell? ⟨w.heap.size, 0, none⟩ = some (.slice none 0 0) := (blk_cell (blk_far (p := ⟨gl, 3, none⟩) H.out.ba m2 _) 0).trans rfl
    have hzf := blk_frozen (blk_far (p := ⟨gl, 3, none⟩) H.out.ba m2 (.int .i64 p)) 0
    go_wp2
    obtain ⟨d1, d2, d3, d4, d5⟩ := L2.done (v := .slice (some ⟨go, 0, none⟩) X.length c) (H.out.st.far (p := ⟨gl, 3, none⟩) (IsS107.ne_blk H.out.st HGC.out (by decide)) (.int .i64 p)) (keep_far (p := ⟨gl, 3, none⟩) H.out.keep HGL.out (.int .i64 p)) (below_set H.out.below (Nat.le_trans H.out.hw HGL.out)) H.out.hw (blk_far (p := ⟨gl, 3, none⟩) H.out.ba m2 (.int .i64 p)) (S_cut HPUT.out) H.out.ga
    refine bodyPost_ret (results_cell_row rfl _ _ w.heap.size 29 #[.slice (some ⟨go, 0, none⟩) X.length c] (0, 0) _ rfl d1 hu29 rfl (by kernel_rfl)) rfl ?_
    exact ⟨_, rfl, d2, d3, d4, d5⟩
   ·rw [if_neg hc] at h3
    cases h3
  ·rw [if_neg t1] at h3
   have e1 : (t == 1) = false := beq_eq_false_iff_ne.mpr t1
   by_cases t2 : t = 2
   ·subst t2
    rw [if_pos rfl] at h3
    simp only [Option.some.injEq, Prod.mk.injEq] at h3
    obtain ⟨rfl, rfl, rfl⟩ := h3
    go_wp2
    obtain ⟨d1, d2, d3, d4, d5⟩ := L2.done (v := .slice none 0 0) (H.out.st.far (p := ⟨b, 0, none⟩) (IsS107.ne_blk H.out.st H.out.bb (by decide)) (.slice none 0 0)) (keep_far (p := ⟨b, 0, none⟩) H.out.keep H.out.gb (.slice none 0 0)) (below_set H.out.below (Nat.le_trans H.out.hw H.out.gb)) H.out.hw (blk_far (p := ⟨b, 0, none⟩) H.out.ba H.out.ab (.slice none 0 0)) (Kd.S_nil _ _ _ _ _) H.out.ga
    refine bodyPost_ret (results_cell_row rfl _ _ w.heap.size 29 #[.slice none 0 0] (0, 0) _ rfl d1 hu29 rfl (by kernel_rfl)) rfl ?_
    exact ⟨_, rfl, d2, d3, d4, d5⟩
   ·rw [if_neg t2] at h3
    have e2 : (t == 2) = false := beq_eq_false_iff_ne.mpr t2
    simp only [Option.some.injEq, Prod.mk.injEq] at h3
    obtain ⟨rfl, rfl, rfl⟩ := h3
    go_wp2
    obtain ⟨d1, d2, d3, d4, d5⟩ := L2.done (v := .slice A X.length c) (H.out.st) (H.out.keep) (H.out.below) H.out.hw (H.out.ba) (S_cut H.out.row) H.out.ga
    refine bodyPost_ret (results_cell_row rfl _ _ w.heap.size 29 #[.slice A X.length c] (0, 0) _ rfl d1 hu29 rfl (by kernel_rfl)) rfl ?_
    exact ⟨_, rfl, d2, d3, d4, d5⟩
theorem spec_l2DrawRight.callsC (k : Nat) (g : Nat) (s0_0 : List Int) (s0_1 : Int) (s0_2 : Int) (r1 : List (List Int)) (r2 : Int) (r3 : Int) (w0 w : World) (hI : IsS107 w0 w g s0_0 s0_1 s0_2) (hB : Below w0.heap.size w0 w) (h : spec_l2DrawRight.f k s0_0 s0_1 s0_2 = some (r1, r2, r3)) :
  Calls Try.prog 69 #[.pointer (some ⟨g, 0, none⟩)] w fun e w' => ∃ v0_ : Value, e = .returned (.agg #[v0_]) ∧ Kd.S (cutK 3 (Kd.int .i64)) 30 w' w.heap.size (fun _ => True) v0_ r1 ∧ IsS107 w0 w' g s0_0 r2 r3 ∧ Below w0.heap.size w0 w' ∧ KeepBut w w' g none :=
 (spec_l2DrawRight.calls k g s0_0 s0_1 s0_2 r1 r2 r3 w0 w hI hB h).mono fun e w' ⟨v, he, hS, h2⟩ => ⟨v, he, S_cut hS, h2⟩

/-! ### spec_MemNew: function 88 -/
def spec_MemNew.f  : Option (List Int × Int) := if 512 ≤ 35184372088832 then (some ((List.replicate 512 0), 0)) else (none)
set_option maxHeartbeats 8000000 in
set_option maxRecDepth 100000 in
theorem spec_MemNew.calls  (r1 : List Int) (r2 : Int) (w : World) (h : spec_MemNew.f  = some (r1, r2)) :
  Calls Try.prog 88 #[] w fun e w' => ∃ v0_ : Value, e = .returned (.agg #[v0_, .int .i64 r2]) ∧ Kd.R (Kd.int .i64) 3 w' w.heap.size (fun _ => True) v0_ r1 ∧ Below w.heap.size w w' := by
 have hu32 := Try.underlying32
 have HB := Aside0.mk (Below.refl w.heap.size w)
 have H : (if 512 ≤ 35184372088832 then (some ((List.replicate 512 0), 0)) else (none)) = some (r1, r2) := h
 clear h
 by_cases c1 : 512 ≤ 35184372088832
 ·rw [if_pos c1] at H
  have c1b0 := eq_true c1
  have c1b1 : decide (512 ≤ 35184372088832) = true := decide_eq_true c1
  clear c1
  obtain ⟨y306, hy306⟩ : ∃ y_ : List Int, y_ = (List.replicate 512 0) := ⟨_, rfl⟩
  replace H : (some (y306, 0)) = some (r1, r2) := by first | (rw [hy306]; with_reducible exact H) | (have H2_ := (Option.bind_some _ _).symm.trans H; rw [hy306]; with_reducible exact H2_) | (have H2_ := (Option.bind_some _ _).symm.trans H; with_reducible exact H2_) | with_reducible exact H | (rw [hy306]; exact H) | exact H
  have Ny306 := Aside0.mk hy306
  clear hy306
  simp only [Option.some.injEq, Prod.mk.injEq] at H
  obtain ⟨rfl, rfl⟩ := H
  go_enter Try.func88, Try.ntmps88
  go_wp2_with (first | ((with_reducible refine gate_dst (N := 0) rfl ?_); refine box_event ?hg (N := 0) ?hd (cs := #[.slice none 0 0, .int .i64 0]) (t := 32) ?hr ?_; (case hd => rfl); (case hg => rfl); (case hr => first | (go_simp; done) | (go_simp; rfl)); intro gb305 hg w2 hbox hb; have n0_ := Aside0.mk (below_step (by repeat (first | (with_reducible first | exact HB.out | apply below_alloc | apply pw_below_drewN | apply below_drew1) | exact HB.out)) hb); have n1_ := Aside0.mk (hbox); have n2_ := Aside0.mk ((by rw [hg]; exact (below_size (by repeat (first | (with_reducible first | exact HB.out | apply below_alloc | apply pw_below_drewN | apply below_drew1) | exact HB.out))) : w.heap.size ≤ gb305)); have n3_ := Aside0.mk ((by rw [hg]; exact (below_size (by repeat (first | (with_reducible first | exact HB.out | apply below_alloc | apply pw_below_drewN | apply below_drew1) | exact HB.out))) : w.heap.size ≤ gb305)); clear HB; have HB := n0_; have BK305 := n1_; have GW305 := n2_; have GE305 := n3_; clear n0_ n1_ n2_ n3_; clear hb hbox hg) | ((with_reducible refine gate_dst (N := 1) rfl ?_); refine Kd.R_make (Kd.int .i64) _ 3 rfl (N := 1) rfl 30 _ _ rfl 512 rfl rfl Try.underlying30 (.int .i64 0) 8 info3 rfl (by decide) (by omega) 0 (ok := fun _ => True) (okp := fun _ => True) rfl (fun _ hk => hk) trivial (by omega) (by omega) (Below.refl _ _) (Nat.le_refl _) ?_; intro v307 w3 ho4 hb hg_ hnew_; clear hg_ hnew_; (first | rw [← Ny306.out] at ho4 | (simp only [Int.reduceToNat] at ho4; rw [← Ny306.out] at ho4)); have n0_ := Aside0.mk (Kd.R_lower ho4 (below_size (by repeat (first | (with_reducible first | exact HB.out | apply below_alloc | apply pw_below_drewN | apply below_drew1 | refine below_set ?_ GE305.out) | exact HB.out)))); have n1_ := Aside0.mk (blk_below (g := gb305) (o := .cells #[.slice none 0 0, .int .i64 0] 32 (0, 0)) (by (with_reducible repeat (first | refine blk_drewN ?_ _ | refine blk_drew ?_ | refine blk_alloc ?_ _)); exact BK305.out) hb); have n2_ := Aside0.mk (below_step (by repeat (first | (with_reducible first | exact HB.out | apply below_alloc | apply pw_below_drewN | apply below_drew1 | refine below_set ?_ GE305.out) | exact HB.out)) hb); clear BK305; clear HB; have HO308 := n0_; have BK305 := n1_; have HB := n2_; clear n0_ n1_ n2_; clear hb ho4; obtain ⟨Ao5, co5, eo5⟩ := Kd.R_slice HO308.out; subst eo5; have hcz6_0 : w3.cell? ⟨gb305, 0, none⟩ = some (.slice none 0 0) := (blk_cell BK305.out 0).trans rfl; have hcz6_1 : w3.cell? ⟨gb305, 1, none⟩ = some (.int .i64 0) := (blk_cell BK305.out 1).trans rfl; have hfz6_0 := blk_frozen BK305.out 0; have hfz6_1 := blk_frozen BK305.out 1))
  refine bodyPost_ret (results_cell_row rfl _ _ gb305 32 #[.slice Ao5 y306.length co5, .int .i64 0] (0, 0) _ rfl (by (with_reducible repeat (first | refine blk_drewN ?_ _ | refine blk_drew ?_ | refine blk_alloc ?_ _)); refine blk_put (cs := #[.slice Ao5 y306.length co5, .int .i64 0]) ?_ 1 _ rfl; (with_reducible repeat (first | refine blk_drewN ?_ _ | refine blk_drew ?_ | refine blk_alloc ?_ _)); refine blk_put (cs := #[.slice none 0 0, .int .i64 0]) ?_ 0 _ rfl; (with_reducible repeat (first | refine blk_drewN ?_ _ | refine blk_drew ?_ | refine blk_alloc ?_ _)); exact BK305.out) Try.underlying32 rfl (by kernel_rfl)) rfl ?_
  exact ⟨_, by first | rfl | (simp [errW_none, errW_some] <;> rfl) | (simp [*, errW_none, errW_some] <;> rfl), by (with_reducible repeat (first | apply Kd.R_alloc | apply Kd.R_drewN | apply Kd.R_drew)); exact Kd.R_mono (Kd.R_far (p := ⟨gb305, 1, none⟩) (Kd.R_far (p := ⟨gb305, 0, none⟩) (Kd.R_types HO308.out BK305.out (by decide)) (fun _ hk => hk.2) (.slice Ao5 y306.length co5)) (fun _ hk => hk.2) (.int .i64 0)) (fun _ hk => trivial), by repeat (first | (with_reducible first | exact HB.out | apply below_alloc | apply pw_below_drewN | apply below_drew1 | refine below_set ?_ GE305.out) | exact HB.out)⟩
 ·rw [if_neg c1] at H
  exact absurd H (by simp)

/-! ### spec_l1Max: function 117 -/
def spec_l1Max.f (a0 : Int) (a1 : Int) : Option (Int) := if a0 > a1 then (some a0) else (some a1)
set_option maxHeartbeats 8000000 in
set_option maxRecDepth 100000 in
theorem spec_l1Max.calls (a0 : Int) (a1 : Int) (r : Int) (w : World) (h : spec_l1Max.f a0 a1 = some r) :
  Calls Try.prog 117 #[.int .i64 a0, .int .i64 a1] w fun e w' => e = .returned (.int .i64 r) ∧ Drawn0 w w' := by
 have H : (if a0 > a1 then (some a0) else (some a1)) = some r := h
 clear h
 by_cases c3 : a0 > a1
 ·rw [if_pos c3] at H
  have c3b0 : decide (a1 < a0) = true := decide_eq_true c3
  clear c3
  obtain rfl := Option.some.inj H
  go_enter Try.func117, Try.ntmps117
  go_wp2
  go_ret
  exact ⟨by first | rfl | (simp; done) | (simp [*]; done), by repeat (first | exact Drawn0.refl _ | apply Drawn0.step)⟩
 ·rw [if_neg c3] at H
  have c3b0 : decide (a1 < a0) = false := decide_eq_false c3
  clear c3
  obtain rfl := Option.some.inj H
  go_enter Try.func117, Try.ntmps117
  go_wp2
  go_ret
  exact ⟨by first | rfl | (simp; done) | (simp [*]; done), by repeat (first | exact Drawn0.refl _ | apply Drawn0.step)⟩

end Go.Proofs.Ytmkccgbfgebfbaa.MFnRegions
