/- Walks of functions that the law FnFetched reaches: each comes to just what its Lean function says. (Begun as the texts that print.sh wrote for this claim; some of them, and those that it does not write, are mine.) No condition. -/
import Derived.Test.YtmkccgbfgebfbaaMFnFetchedx2
namespace Go.Proofs.Ytmkccgbfgebfbaa.MFnFetched
open Go.RowKit Go.Proofs.YtmkccgbfgebfbaaW.PrintWords Go.Proofs.YtmkccgbfgebfbaaW.PrintLast Go.Proofs.YtmkccgbfgebfbaaW.PrintMore
attribute [local go_sem] max2_int min2_int max_two min_two max_three min_three max_four min_four   -- for this text's walks alone
set_option linter.unusedVariables false
set_option linter.unusedSimpArgs false

/-! ### spec_l6DrawMem: function 103 -/
def spec_l6DrawMem.l0 : Nat → Int → List Int → Int → Int → List (List Int) → List Int → Int → Option (List Int × Int × Int × Int)
 | 0, _, _, _, _, _, _, _ => none
 | k + 1, x6, x1000, x1001, x1002, x318000, x324000, x324001 => if x6 < 20 then ((spec_l1PickInt.f x1000 x1001 x1002 (([0, 1, 16, 255, 256, 257, 510, 511, 258, 300] : List Int))).bind fun bt327 => ((spec_l1Below.f x1000 bt327.2.1 bt327.2.2 256).bind fun bt330 => (if 0 ≤ bt327.1 then (if bt327.1 < (x324000.length : Int) then (spec_l6DrawMem.l0 k (wrap64 (x6 + 1)) x1000 bt330.2.1 bt330.2.2 x318000 (x324000.set (bt327.1 : Int).toNat bt330.1) x324001) else (none)) else (none)))) else ((spec_l1Max.f (x318000.length : Int) 1).bind fun t334 => ((spec_l1Below.f x1000 x1001 x1002 t334).bind fun bt335 => ((spec_l1Below.f x1000 bt335.2.1 bt335.2.2 30).bind fun bt338 => (if bt338.1 = 0 then ((spec_l1PickInt.f x1000 bt338.2.1 bt338.2.2 (([(-1), 8] : List Int))).bind fun bt344 => (some (x324000, bt344.1, bt344.2.1, bt344.2.2))) else (if bt338.1 = 1 then (if 1 ≤ (x324000.length : Int) then (some ((x324000.drop (1 : Int).toNat), bt335.1, bt338.2.1, bt338.2.2)) else (none)) else (if bt338.1 = 2 then (if 256 < (x324000.length : Int) then (some ((x324000.set (256 : Int).toNat 256), bt335.1, bt338.2.1, bt338.2.2)) else (none)) else (some (x324000, bt335.1, bt338.2.1, bt338.2.2))))))))
def spec_l6DrawMem.f (k : Nat) (s0_0 : List Int) (s0_1 : Int) (s0_2 : Int) (l1_0 : List (List Int)) : Option (List Int × Int × Int × Int) := (spec_MemNew.f).bind fun bt319 => (spec_l6DrawMem.l0 k 0 s0_0 s0_1 s0_2 l1_0 bt319.1 bt319.2)
def spec_l6DrawMem.T5 : Bool × List (List Nat × List Nat) := (true, [([], []), ([0], [0]), ([], []), ([], []), ([2, 3], [2, 3]), ([], []), ([5, 4], [5]), ([1, 4, 0, 1, 2, 3, 4, 5, 6], [1, 4]), ([7, 6, 6, 0, 1, 2, 3, 4, 5, 6], [6, 7])])
def spec_l6DrawMem.B5 : List Nat := [0, 1, 0, 0, 12, 0, 60, 127, 255]
theorem spec_l6DrawMem.tab5 : rtab .any (opsOf Try.f103 5) = spec_l6DrawMem.T5 := by kernel_rfl
theorem spec_l6DrawMem.bits5 : waitsOk spec_l6DrawMem.T5.2 spec_l6DrawMem.B5 = true := by kernel_rfl
set_option maxHeartbeats 8000000 in
set_option maxRecDepth 100000 in
theorem spec_l6DrawMem.calls (k : Nat) (g : Nat) (s0_0 : List Int) (s0_1 : Int) (s0_2 : Int) (A1_0 : Option Addr) (c1_0 : Nat) (l1_0 : List (List Int)) (r1 : List Int) (r2 : Int) (r3 : Int) (r4 : Int) (w0 w : World) (hI : IsS107 w0 w g s0_0 s0_1 s0_2) (hB : Below w0.heap.size w0 w) (hr1_0 : ∀ W_, KeepBut w W_ g none → Kd.C (Kd.slice 3 (Kd.int .i64)) W_ A1_0 l1_0.length l1_0) (hc1_0 : l1_0.length ≤ c1_0) (h : spec_l6DrawMem.f k s0_0 s0_1 s0_2 l1_0 = some (r1, r2, r3, r4)) :
  Calls Try.prog 103 #[.pointer (some ⟨g, 0, none⟩), .agg #[.slice A1_0 l1_0.length c1_0]] w fun e w' => ∃ v0_ : Value, e = .returned (.agg #[v0_, .int .i64 r2]) ∧ Kd.Q (Kd.int .i64) 3 w' w.heap.size (fun _ => True) v0_ r1 ∧ IsS107 w0 w' g s0_0 r3 r4 ∧ Below w0.heap.size w0 w' ∧ KeepBut w w' g none := by
 have hu29 := Try.underlying29
 have hu32 := Try.underlying32
 have HR1_0 := Aside0.mk hr1_0
 have HC1_0 := Aside0.mk hc1_0
 clear hr1_0 hc1_0
 have HI0 := Aside0.mk hI
 have HK := Aside0.mk (KeepBut.refl w g none)
 have HL := Aside0.mk hB.size
 clear hI
 have HW0 := Aside0.mk hB.size
 have HB := Aside0.mk hB
 clear hB
 have H : ((spec_MemNew.f).bind fun bt319 => (spec_l6DrawMem.l0 k 0 s0_0 s0_1 s0_2 l1_0 bt319.1 bt319.2)) = some (r1, r2, r3, r4) := h
 clear h
 replace H := Option.bind_eq_some_iff.mp H
 obtain ⟨⟨t319, t322⟩, A30, H⟩ := H
 replace H : (spec_l6DrawMem.l0 k 0 s0_0 s0_1 s0_2 l1_0 t319 t322) = some (r1, r2, r3, r4) := H
 have A3 := Aside0.mk A30
 clear A30
 have H' := Aside0.mk H
 clear H
 go_enter Try.func103, Try.ntmps103
 go_wp2_with (first | ((with_reducible refine gate_dst (N := 3) rfl ?_); refine bx (N := 3) (cs := #[.slice A1_0 l1_0.length c1_0]) (t := 29) ?_; intro gb317 hg w4 hbox hb; have n0_ := Aside0.mk (IsS107.below (si HI0.out) hb); have n1_ := Aside0.mk (KeepBut.trans (kp HK.out) (KeepBut.of_below hb g none) (.inl rfl)); have n2_ := Aside0.mk (below_step (bi HB.out) hb); have n3_ := Aside0.mk (hbox); have n4_ := Aside0.mk ((by rw [hg]; exact (keep_size (w := w) (g := g) (row := none) (kp HK.out)) : w.heap.size ≤ gb317)); have n5_ := Aside0.mk ((Nat.le_trans HW0.out (by rw [hg]; exact (keep_size (w := w) (g := g) (row := none) (kp HK.out)) : w.heap.size ≤ gb317) : w0.heap.size ≤ gb317)); have n6_ := Aside0.mk ((by rw [hg]; exact Nat.ne_of_lt (IsS107.lt (show IsS107 w0 _ g s0_0 s0_1 s0_2 from si HI0.out)) : g ≠ gb317)); have n7_ := Aside0.mk ((by rw [hg]; exact Nat.ne_of_gt (IsS107.lt (show IsS107 w0 _ g s0_0 s0_1 s0_2 from si HI0.out)) : gb317 ≠ g)); clear HI0; clear HK; clear HB; have HI0 := n0_; have HK := n1_; have HB := n2_; have BK317 := n3_; have GW317 := n4_; have GE317 := n5_; have NB0_317 := n6_; have NB317_0 := n7_; clear n0_ n1_ n2_ n3_ n4_ n5_ n6_ n7_; clear hb hbox hg) | ((with_reducible refine gate_dst (N := 4) rfl ?_); refine bx (N := 4) (cs := #[.slice none 0 0, .int .i64 0]) (t := 32) ?_; intro gb318 hg w5 hbox hb; have n0_ := Aside0.mk (IsS107.below (si HI0.out) hb); have n1_ := Aside0.mk (blk_below (g := gb317) (o := .cells #[.slice A1_0 l1_0.length c1_0] 29 (0, 0)) (kb BK317.out) hb); have n2_ := Aside0.mk (KeepBut.trans (kp HK.out) (KeepBut.of_below hb g none) (.inl rfl)); have n3_ := Aside0.mk (below_step (bi HB.out) hb); have n4_ := Aside0.mk (hbox); have n5_ := Aside0.mk ((by rw [hg]; exact (keep_size (w := w) (g := g) (row := none) (kp HK.out)) : w.heap.size ≤ gb318)); have n6_ := Aside0.mk ((Nat.le_trans HW0.out (by rw [hg]; exact (keep_size (w := w) (g := g) (row := none) (kp HK.out)) : w.heap.size ≤ gb318) : w0.heap.size ≤ gb318)); have n7_ := Aside0.mk ((ga hg BK317.out)); have n8_ := Aside0.mk ((gc hg BK317.out)); have n9_ := Aside0.mk ((by rw [hg]; exact Nat.ne_of_lt (IsS107.lt (show IsS107 w0 _ g s0_0 s0_1 s0_2 from si HI0.out)) : g ≠ gb318)); have n10_ := Aside0.mk ((by rw [hg]; exact Nat.ne_of_gt (IsS107.lt (show IsS107 w0 _ g s0_0 s0_1 s0_2 from si HI0.out)) : gb318 ≠ g)); clear HI0; clear BK317; clear HK; clear HB; have HI0 := n0_; have BK317 := n1_; have HK := n2_; have HB := n3_; have BK318 := n4_; have GW318 := n5_; have GE318 := n6_; have NB317_318 := n7_; have NB318_317 := n8_; have NB0_318 := n9_; have NB318_0 := n10_; clear n0_ n1_ n2_ n3_ n4_ n5_ n6_ n7_ n8_ n9_ n10_; clear hb hbox hg) | ((with_reducible refine gate_callee (f := 88) rfl ?_); refine goesM_ (some 7) rfl rfl Try.func88 #[] ?_; (with_reducible refine (spec_MemNew.calls  t319 t322 _ A3.out).mono ?_); rintro e w6 ⟨v320, rfl, ho0, hb⟩; refine ⟨_, rfl, ?_⟩; have n0_ := Aside0.mk (Kd.R_lower ho0 (keep_size (w := w) (g := g) (row := none) (kp HK.out))); have n1_ := Aside0.mk (IsS107.below (si HI0.out) hb); have n2_ := Aside0.mk (blk_below (g := gb317) (o := .cells #[.slice A1_0 l1_0.length c1_0] 29 (0, 0)) (kb BK317.out) hb); have n3_ := Aside0.mk (blk_below (g := gb318) (o := .cells #[.slice none 0 0, .int .i64 0] 32 (0, 0)) (kb BK318.out) hb); have n4_ := Aside0.mk (KeepBut.trans (kp HK.out) (KeepBut.of_below hb g none) (.inl rfl)); have n5_ := Aside0.mk (below_step (bi HB.out) hb); clear HI0; clear BK317; clear BK318; clear HK; clear HB; have HO321 := n0_; have HI0 := n1_; have BK317 := n2_; have BK318 := n3_; have HK := n4_; have HB := n5_; clear n0_ n1_ n2_ n3_ n4_ n5_; (try clear hb); (try clear hb2); (try clear hk); (try clear hi); (try clear ho0)) | ((with_reducible refine gate_dst (N := 5) rfl ?_); refine bx (N := 5) (cs := #[.slice none 0 0, .int .i64 0]) (t := 32) ?_; intro gb323 hg w7 hbox hb; have n0_ := Aside0.mk (Kd.R_below (kr HO321.out) hb); have n1_ := Aside0.mk (IsS107.below (si HI0.out) hb); have n2_ := Aside0.mk (blk_below (g := gb317) (o := .cells #[.slice A1_0 l1_0.length c1_0] 29 (0, 0)) (kb BK317.out) hb); have n3_ := Aside0.mk (blk_below (g := gb318) (o := .cells #[.slice none 0 0, .int .i64 0] 32 (0, 0)) (kb BK318.out) hb); have n4_ := Aside0.mk (KeepBut.trans (kp HK.out) (KeepBut.of_below hb g none) (.inl rfl)); have n5_ := Aside0.mk (below_step (bi HB.out) hb); have n6_ := Aside0.mk (hbox); have n7_ := Aside0.mk ((by rw [hg]; exact (keep_size (w := w) (g := g) (row := none) (kp HK.out)) : w.heap.size ≤ gb323)); have n8_ := Aside0.mk ((Nat.le_trans HW0.out (by rw [hg]; exact (keep_size (w := w) (g := g) (row := none) (kp HK.out)) : w.heap.size ≤ gb323) : w0.heap.size ≤ gb323)); have n9_ := Aside0.mk ((ga hg BK317.out)); have n10_ := Aside0.mk ((gc hg BK317.out)); have n11_ := Aside0.mk ((ga hg BK318.out)); have n12_ := Aside0.mk ((gc hg BK318.out)); have n13_ := Aside0.mk ((by rw [hg]; exact Nat.ne_of_lt (IsS107.lt (show IsS107 w0 _ g s0_0 s0_1 s0_2 from si HI0.out)) : g ≠ gb323)); have n14_ := Aside0.mk ((by rw [hg]; exact Nat.ne_of_gt (IsS107.lt (show IsS107 w0 _ g s0_0 s0_1 s0_2 from si HI0.out)) : gb323 ≠ g)); clear HO321; clear HI0; clear BK317; clear BK318; clear HK; clear HB; have HO321 := n0_; have HI0 := n1_; have BK317 := n2_; have BK318 := n3_; have HK := n4_; have HB := n5_; have BK323 := n6_; have GW323 := n7_; have GE323 := n8_; have NB317_323 := n9_; have NB323_317 := n10_; have NB318_323 := n11_; have NB323_318 := n12_; have NB0_323 := n13_; have NB323_0 := n14_; clear n0_ n1_ n2_ n3_ n4_ n5_ n6_ n7_ n8_ n9_ n10_ n11_ n12_ n13_ n14_; clear hb hbox hg; obtain ⟨Ao8, co8, eo8⟩ := Kd.R_slice HO321.out; subst eo8; have hnb9 := NB323_317.out; have hnc9 := NB317_323.out; have hnb10 := NB323_318.out; have hnc10 := NB318_323.out; have hnb11 := NB323_0.out; have hnc11 := NB0_323.out; have hcz12_0 : w7.cell? ⟨gb323, 0, none⟩ = some (.slice none 0 0) := cl BK323 0; have hcz12_1 : w7.cell? ⟨gb323, 1, none⟩ = some (.int .i64 0) := cl BK323 1; have hfz12_0 := blk_frozen BK323.out 0; have hfz12_1 := blk_frozen BK323.out 1))
 go_loopg [6] k (fun kq v6 w' => ∃ (x6_1 : Int) (x1001_1 : Int) (x1002_1 : Int) (x324000_1 : List Int) (u324000 : Value), v6 = .int .i64 x6_1 ∧ Aside0 (spec_l6DrawMem.l0 kq x6_1 s0_0 x1001_1 x1002_1 l1_0 x324000_1 t322 = some (r1, r2, r3, r4)) ∧ Aside0 (kq ≤ k) ∧ Aside0 (Kd.Q (Kd.int .i64) 3 w' w.heap.size (fun _ => True) u324000 x324000_1) ∧ Aside0 (w'.heap[gb317]? = some (.cells #[(.slice A1_0 l1_0.length c1_0)] 29 (0, 0))) ∧ Aside0 (w'.heap[gb318]? = some (.cells #[(.slice none 0 0), .int .i64 0] 32 (0, 0))) ∧ Aside0 (w'.heap[gb323]? = some (.cells #[u324000, .int .i64 t322] 32 (0, 0))) ∧ Aside0 (IsS107 w0 w' g s0_0 x1001_1 x1002_1) ∧ Aside0 (KeepBut w w' g none) ∧ Aside0 (Below w0.heap.size w0 w'))
 case atStart => exact ⟨(0), (s0_1), (s0_2), (t319), (.slice Ao8 t319.length co8), (by first | rfl | (simp; done) | (simp [*]; done)), H', ⟨Nat.le_refl _⟩, ⟨Kd.Q_of_R (kr (Kd.R_mono (Kd.R_far (p := ⟨gb323, 1, none⟩) (Kd.R_far (p := ⟨gb323, 0, none⟩) (Kd.R_types HO321.out BK323.out (by decide)) (fun _ hk => hk.2) (.slice Ao8 t319.length co8)) (fun _ hk => hk.2) (.int .i64 t322)) (fun _ hk => trivial)))⟩, ⟨kf BK317.out⟩, ⟨kf BK318.out⟩, ⟨by (with_reducible repeat (first | refine blk_drewN ?_ _ | refine blk_drew ?_ | refine blk_alloc ?_ _)); refine blk_put (cs := #[.slice Ao8 t319.length co8, .int .i64 0]) ?_ 1 _ rfl; (with_reducible repeat (first | refine blk_drewN ?_ _ | refine blk_drew ?_ | refine blk_alloc ?_ _)); refine blk_put (cs := #[.slice none 0 0, .int .i64 0]) ?_ 0 _ rfl; (with_reducible repeat (first | refine blk_drewN ?_ _ | refine blk_drew ?_ | refine blk_alloc ?_ _)); exact BK323.out⟩, ⟨si HI0.out⟩, ⟨kp HK.out⟩, ⟨bi HB.out⟩⟩
 case round =>
  clear H'
  (try clear c1); (try clear p2); (try clear c8); (try clear c9); (try clear c10); (try clear c11); (try clear hcz12_0); (try clear hcz12_1); (try clear hfz12_0); (try clear hfz12_1)
  obtain ⟨x6_1, x1001_1, x1002_1, x324000_1, u324000, rfl, HA, HK1, HO_324000, BK317, BK318, BK323, HI0, HK, HB⟩ := hrel
  cases gk with
  | zero => exact absurd HA.out (by simp [spec_l6DrawMem.l0])
  | succ k1 =>
   have H := HA.out
   clear HA
   simp only [spec_l6DrawMem.l0] at H
   by_cases c13 : x6_1 < 20
   ·rw [if_pos c13] at H
    have c13b0 : decide (x6_1 < 20) = true := decide_eq_true c13
    clear c13
    obtain ⟨y324, hy324⟩ : ∃ y_ : List Int, y_ = (([0, 1, 16, 255, 256, 257, 510, 511, 258, 300] : List Int)) := ⟨_, rfl⟩
    replace H : ((spec_l1PickInt.f s0_0 x1001_1 x1002_1 y324).bind fun bt327 => ((spec_l1Below.f s0_0 bt327.2.1 bt327.2.2 256).bind fun bt330 => (if 0 ≤ bt327.1 then (if bt327.1 < (x324000_1.length : Int) then (spec_l6DrawMem.l0 k1 (wrap64 (x6_1 + 1)) s0_0 bt330.2.1 bt330.2.2 l1_0 (x324000_1.set (bt327.1 : Int).toNat bt330.1) t322) else (none)) else (none)))) = some (r1, r2, r3, r4) := by first | (rw [hy324]; with_reducible exact H) | (have H2_ := (Option.bind_some _ _).symm.trans H; rw [hy324]; with_reducible exact H2_) | (have H2_ := (Option.bind_some _ _).symm.trans H; with_reducible exact H2_) | with_reducible exact H | (rw [hy324]; exact H) | exact H
    have Ny324 := Aside0.mk hy324
    clear hy324
    replace H := Option.bind_eq_some_iff.mp H
    obtain ⟨⟨t327, t328, t329⟩, A140, H⟩ := H
    replace H : ((spec_l1Below.f s0_0 t328 t329 256).bind fun bt330 => (if 0 ≤ t327 then (if t327 < (x324000_1.length : Int) then (spec_l6DrawMem.l0 k1 (wrap64 (x6_1 + 1)) s0_0 bt330.2.1 bt330.2.2 l1_0 (x324000_1.set (t327 : Int).toNat bt330.1) t322) else (none)) else (none))) = some (r1, r2, r3, r4) := H
    have A14 := Aside0.mk A140
    clear A140
    replace H := Option.bind_eq_some_iff.mp H
    obtain ⟨⟨t330, t331, t332⟩, A150, H⟩ := H
    replace H : (if 0 ≤ t327 then (if t327 < (x324000_1.length : Int) then (spec_l6DrawMem.l0 k1 (wrap64 (x6_1 + 1)) s0_0 t331 t332 l1_0 (x324000_1.set (t327 : Int).toNat t330) t322) else (none)) else (none)) = some (r1, r2, r3, r4) := H
    have A15 := Aside0.mk A150
    clear A150
    by_cases c16 : 0 ≤ t327
    ·rw [if_pos c16] at H
     have c16b0 : decide (0 ≤ t327) = true := decide_eq_true c16
     clear c16
     by_cases c17 : t327 < (x324000_1.length : Int)
     ·rw [if_pos c17] at H
      have c17b0 : decide (t327 < (x324000_1.length : Int)) = true := decide_eq_true c17
      clear c17
      obtain ⟨y333, hy333⟩ : ∃ y_ : List Int, y_ = (x324000_1.set (t327 : Int).toNat t330) := ⟨_, rfl⟩
      replace H : (spec_l6DrawMem.l0 k1 (wrap64 (x6_1 + 1)) s0_0 t331 t332 l1_0 y333 t322) = some (r1, r2, r3, r4) := by first | (rw [hy333]; with_reducible exact H) | (have H2_ := (Option.bind_some _ _).symm.trans H; rw [hy333]; with_reducible exact H2_) | (have H2_ := (Option.bind_some _ _).symm.trans H; with_reducible exact H2_) | with_reducible exact H | (rw [hy333]; exact H) | exact H
      have Ny333 := Aside0.mk hy333
      clear hy333
      have H' := Aside0.mk H
      clear H
      try go_wp2
      have n0_ := Aside0.mk (Kd.Q_drew HO_324000.out)
      have n1_ := Aside0.mk (blk_drew BK317.out)
      have n2_ := Aside0.mk (blk_drew BK318.out)
      have n3_ := Aside0.mk (blk_drew BK323.out)
      have n4_ := Aside0.mk (IsS107.drew HI0.out)
      have n5_ := Aside0.mk (keep_drew HK.out)
      have n6_ := Aside0.mk (below_drew1 HB.out)
      clear HO_324000; clear BK317; clear BK318; clear BK323; clear HI0; clear HK; clear HB; have HO_324000 := n0_; have BK317 := n1_; have BK318 := n2_; have BK323 := n3_; have HI0 := n4_; have HK := n5_; have HB := n6_; clear n0_ n1_ n2_ n3_ n4_ n5_ n6_
      refine start_ (n := 9) (S := fun w' => w'.cell? ⟨gb323, 0, none⟩ = some (u324000) ∧ w'.cell? ⟨gb323, 1, none⟩ = some (.int .i64 t322)) (ds := [8]) (bm 9 0) (by kernel_rfl) rfl (by kernel_rfl) ⟨cl BK323 0, cl BK323 1⟩ (fun hHeld => ?_); refine with_tabW spec_l6DrawMem.tab5 spec_l6DrawMem.bits5 (fun HT_ HW_ => ?_)
      generalize wr.drew = w19 at HO_324000 BK317 BK318 BK323 HI0 HK HB hHeld ⊢
      refine pw_ 0 (some 12) (bm 9 1) HT_ ?_
      refine pw_ 2 (some 14) (bm 9 5) HT_ ?_
      refine pw_ 5 (some 17) (bm 9 37) HT_ ?_
      refine tw_ 1 (some 13) (bm 9 39) HT_ HW_ hHeld ?_
      refine ow_ 3 (some 15) (bm 9 47) HT_ (fun K hK => ?_)
      refine Kd.R_lit_step (Kd.int .i64) _ 3 ?hg (N := 15) ?hd (xs := ([0, 1, 16, 255, 256, 257, 510, 511, 258, 300] : List Int)) (inner := [.int .i64 0, .int .i64 1, .int .i64 16, .int .i64 255, .int .i64 256, .int .i64 257, .int .i64 510, .int .i64 511, .int .i64 258, .int .i64 300]) (ok := fun _ => True) (okp := fun _ => True) ?hr ?hp (fun _ hk => hk) trivial (Below.refl _ _) (Nat.le_refl _) (by simp) ?_; (case hd => rfl); (case hg => rfl); (case hr => first | (go_simp; done) | (go_simp; rfl)); (case hp => exact (Reps.one (show Kd.M (Kd.int .i64) _ _ _ 0 [.int .i64 0] from rfl) (Reps.one (show Kd.M (Kd.int .i64) _ _ _ 1 [.int .i64 1] from rfl) (Reps.one (show Kd.M (Kd.int .i64) _ _ _ 16 [.int .i64 16] from rfl) (Reps.one (show Kd.M (Kd.int .i64) _ _ _ 255 [.int .i64 255] from rfl) (Reps.one (show Kd.M (Kd.int .i64) _ _ _ 256 [.int .i64 256] from rfl) (Reps.one (show Kd.M (Kd.int .i64) _ _ _ 257 [.int .i64 257] from rfl) (Reps.one (show Kd.M (Kd.int .i64) _ _ _ 510 [.int .i64 510] from rfl) (Reps.one (show Kd.M (Kd.int .i64) _ _ _ 511 [.int .i64 511] from rfl) (Reps.one (show Kd.M (Kd.int .i64) _ _ _ 258 [.int .i64 258] from rfl) (Reps.one (show Kd.M (Kd.int .i64) _ _ _ 300 [.int .i64 300] from rfl) (Reps.none _ _))))))))))))
      intro v325 w20 ho21 hb hg_ hnew_
      clear hg_ hnew_
      (first | rw [← Ny324.out] at ho21 | (simp only [Int.reduceToNat] at ho21; rw [← Ny324.out] at ho21))
      have n0_ := Aside0.mk (Kd.Q_elder' (kq HO_324000.out) (Kd.R_base ho21) hb)
      have n1_ := Aside0.mk (Kd.R_lower (Kd.R_new' ho21 (Kd.Q_lt (kq HO_324000.out))) (keep_size (w := w) (g := g) (row := none) (kp HK.out)))
      have n2_ := Aside0.mk (blk_below (g := gb317) (o := .cells #[.slice A1_0 l1_0.length c1_0] 29 (0, 0)) (kb BK317.out) hb)
      have n3_ := Aside0.mk (blk_below (g := gb318) (o := .cells #[.slice none 0 0, .int .i64 0] 32 (0, 0)) (kb BK318.out) hb)
      have n4_ := Aside0.mk (blk_below (g := gb323) (o := .cells #[u324000, .int .i64 t322] 32 (0, 0)) (kb BK323.out) hb)
      have n5_ := Aside0.mk (IsS107.below (si HI0.out) hb)
      have n6_ := Aside0.mk (KeepBut.trans (kp HK.out) (KeepBut.of_below hb g none) (.inl rfl))
      have n7_ := Aside0.mk (below_step (bi HB.out) hb)
      clear HO_324000; clear BK317; clear BK318; clear BK323; clear HI0; clear HK; clear HB; have HO_324000 := n0_; have HO326 := n1_; have BK317 := n2_; have BK318 := n3_; have BK323 := n4_; have HI0 := n5_; have HK := n6_; have HB := n7_; clear n0_ n1_ n2_ n3_ n4_ n5_ n6_ n7_; clear hb ho21
      obtain ⟨Ao22, co22, eo22⟩ := Kd.R_slice HO326.out
      (first | subst eo22 | (injection eo22 with f1_ f2_ f3_; have f4_ := f1_.symm; have f5_ := f3_.symm; clear f1_ f2_ f3_; subst f4_; subst f5_))
      refine hK.out _ _ ⟨cl BK323 0, cl BK323 1⟩ (fun hHeld => ?_)
      clear hK K
      refine nw_ ?_
      refine ow_ 4 (some 16) (bm 9 63) HT_ (fun K hK => ?_)
      refine gw_ Try.func70 #[.pointer (some ⟨g, 0, none⟩), .slice Ao22 y324.length co22] ?_
      with_reducible refine (spec_l1PickInt.calls g s0_0 x1001_1 x1002_1 _ _ y324 t327 t328 t329 w0 _ ?side1 ?side2 ?side3 ?side4 ?side5 A14.out).mono ?_
      (case side1 => exact si HI0.out)
      (case side2 => exact bi HB.out)
      (case side3 => exact kc (Kd.R_reads' HO326.out).2.2)
      (case side4 => exact (Kd.R_reads' HO326.out).2.1)
      (case side5 => exact far_slice (IsS107.own_ne HI0.out HO326.out (by decide)))
      rintro e w23 ⟨rfl, hi, hb, hk⟩
      refine ⟨_, rfl, ?_⟩
      have n0_ := Aside0.mk (Kd.Q_mono (Kd.Q_keep (IsS107.apartQ (show IsS107 w0 _ g s0_0 x1001_1 x1002_1 from si HI0.out) (kq HO_324000.out) (by decide)) hk (fun _ h => h.2)) (fun _ h => h.1))
      have n1_ := Aside0.mk (KeepBut.blk hk (g' := gb317) (o := .cells #[.slice A1_0 l1_0.length c1_0] 29 (0, 0)) (kb BK317.out) NB317_0.out (by simp))
      have n2_ := Aside0.mk (KeepBut.blk hk (g' := gb318) (o := .cells #[.slice none 0 0, .int .i64 0] 32 (0, 0)) (kb BK318.out) NB318_0.out (by simp))
      have n3_ := Aside0.mk (KeepBut.blk hk (g' := gb323) (o := .cells #[u324000, .int .i64 t322] 32 (0, 0)) (kb BK323.out) NB323_0.out (by simp))
      have n4_ := Aside0.mk (Kd.R_mono (Kd.R_keep (IsS107.apart (show IsS107 w0 _ g s0_0 x1001_1 x1002_1 from si HI0.out) (kr HO326.out) (by decide)) hk (fun _ h => h.2)) (fun _ h => h.1))
      have n5_ := Aside0.mk (KeepBut.trans (kp HK.out) hk (.inl rfl))
      have n6_ := Aside0.mk (hb)
      have n7_ := Aside0.mk (hi)
      clear HO_324000; clear BK317; clear BK318; clear BK323; clear HO326; clear HK; clear HB; clear HI0; have HO_324000 := n0_; have BK317 := n1_; have BK318 := n2_; have BK323 := n3_; have HO326 := n4_; have HK := n5_; have HB := n6_; have HI0 := n7_; clear n0_ n1_ n2_ n3_ n4_ n5_ n6_ n7_; (try clear hb); (try clear hb2); (try clear hk); (try clear hi)
      refine hK.out _ _ ⟨cl BK323 0, cl BK323 1⟩ (fun hHeld => ?_)
      clear hK K
      refine nw_ ?_
      refine ow_ 6 (some 18) (bm 9 127) HT_ (fun K hK => ?_)
      refine gw_ Try.func60 #[.pointer (some ⟨g, 0, none⟩), .int .i64 256] ?_
      with_reducible refine (spec_l1Below.calls g s0_0 t328 t329 256 t330 t331 t332 w0 _ ?side1 ?side2 A15.out).mono ?_
      (case side1 => exact si HI0.out)
      (case side2 => exact bi HB.out)
      rintro e w24 ⟨rfl, hi, hb, hk⟩
      refine ⟨_, rfl, ?_⟩
      have n0_ := Aside0.mk (Kd.Q_mono (Kd.Q_keep (IsS107.apartQ (show IsS107 w0 _ g s0_0 t328 t329 from si HI0.out) (kq HO_324000.out) (by decide)) hk (fun _ h => h.2)) (fun _ h => h.1))
      have n1_ := Aside0.mk (KeepBut.blk hk (g' := gb317) (o := .cells #[.slice A1_0 l1_0.length c1_0] 29 (0, 0)) (kb BK317.out) NB317_0.out (by simp))
      have n2_ := Aside0.mk (KeepBut.blk hk (g' := gb318) (o := .cells #[.slice none 0 0, .int .i64 0] 32 (0, 0)) (kb BK318.out) NB318_0.out (by simp))
      have n3_ := Aside0.mk (KeepBut.blk hk (g' := gb323) (o := .cells #[u324000, .int .i64 t322] 32 (0, 0)) (kb BK323.out) NB323_0.out (by simp))
      have n4_ := Aside0.mk (Kd.R_mono (Kd.R_keep (IsS107.apart (show IsS107 w0 _ g s0_0 t328 t329 from si HI0.out) (kr HO326.out) (by decide)) hk (fun _ h => h.2)) (fun _ h => h.1))
      have n5_ := Aside0.mk (KeepBut.trans (kp HK.out) hk (.inl rfl))
      have n6_ := Aside0.mk (hb)
      have n7_ := Aside0.mk (hi)
      clear HO_324000; clear BK317; clear BK318; clear BK323; clear HO326; clear HK; clear HB; clear HI0; have HO_324000 := n0_; have BK317 := n1_; have BK318 := n2_; have BK323 := n3_; have HO326 := n4_; have HK := n5_; have HB := n6_; have HI0 := n7_; clear n0_ n1_ n2_ n3_ n4_ n5_ n6_ n7_; (try clear hb); (try clear hb2); (try clear hk); (try clear hi)
      have p18 : 0 ≤ (t327 : Int) := dt
      have q18 : (t327 : Int) < ((x324000_1.length : Int) : Int) := dt
      obtain ⟨go18, oo18, co18, eo18, gb18, gl18, cl18, HG18⟩ := Kd.Q_form HO_324000.out (by omega)
      (first | cases eo18 | (injection eo18 with ea_ en_ ec_; (first | subst ea_ | (injection ea_ with ea_; subst ea_)); subst ec_; clear en_))
      have GB18 := Aside0.mk gb18
      have GG18 := Aside0.mk HG18
      clear gb18 gl18 HG18
      obtain ⟨hx18_0, hf18_0⟩ := Kd.Q_cell 0 HO_324000.out (t327 : Int) p18 q18
      replace p18 := eq_true p18
      replace q18 := eq_true q18
      have HN0_go18 := Aside0.mk (show g ≠ go18 from by have h_ := IsS107.own_neQ HI0.out HO_324000.out (by decide); intro e_; exact h_ (by rw [e_]; rfl))
      have HP25 := (Kd.Q_putg HO_324000.out (t327 : Int) dt (by have h_ : (t327 : Int) < ((x324000_1.length : Int) : Int) := dt; first | exact h_ | (have e_ := (Kd.Q_reads' HO_324000.out).1; omega) | simpa using h_) t330).1
      rw [← Ny333.out] at HP25
      have HQ25 := Aside0.mk HP25
      clear HP25
      refine hK.out _ _ ⟨cl BK323 0, cl BK323 1⟩ (fun hHeld => ?_)
      clear hK K
      refine nw_ ?_
      refine pw_ 7 (some 19) (bm 9 255) HT_ ?_
      refine last_ (i := 8) (N := none) #[true, true, true, true, true, true, true, true, true] rfl rfl (one_of HT_.out (by kernel_rfl)) (by decide) (fun K hK => ?_)
      refine skip_ (w1 := ?_) (by rfl) rfl ?_ ?_
      rotate_left
      ·go_simp
       rfl
      refine hK.out _ _ ?_
      clear hK K
      refine done_ (done_of HT_.out (by kernel_rfl)) ?_
      try go_wp2
      go_roundg k1
      case measure => have := HK1.out; omega
      case rel => exact ⟨(wrap64 (x6_1 + 1)), (t331), (t332), (y333), (.slice (some ⟨go18, oo18, none⟩) x324000_1.length co18), (by first | rfl | (simp; done) | (simp [*]; done)), H', ⟨by have := HK1.out; omega⟩, ⟨kq (Kd.Q_mono HQ25.out (fun _ hk => trivial))⟩, ⟨by (with_reducible repeat (first | refine blk_drewN ?_ _ | refine blk_drew ?_ | refine blk_alloc ?_ _)); refine blk_far ?_ (by have h_ := Kd.Q_ne HO_324000.out BK317.out (by decide); intro e_; exact h_ (by rw [e_]; rfl)) _; (with_reducible repeat (first | refine blk_drewN ?_ _ | refine blk_drew ?_ | refine blk_alloc ?_ _)); exact BK317.out⟩, ⟨by (with_reducible repeat (first | refine blk_drewN ?_ _ | refine blk_drew ?_ | refine blk_alloc ?_ _)); refine blk_far ?_ (by have h_ := Kd.Q_ne HO_324000.out BK318.out (by decide); intro e_; exact h_ (by rw [e_]; rfl)) _; (with_reducible repeat (first | refine blk_drewN ?_ _ | refine blk_drew ?_ | refine blk_alloc ?_ _)); exact BK318.out⟩, ⟨by (with_reducible repeat (first | refine blk_drewN ?_ _ | refine blk_drew ?_ | refine blk_alloc ?_ _)); refine blk_far ?_ (by have h_ := Kd.Q_ne HO_324000.out BK323.out (by decide); intro e_; exact h_ (by rw [e_]; rfl)) _; (with_reducible repeat (first | refine blk_drewN ?_ _ | refine blk_drew ?_ | refine blk_alloc ?_ _)); exact BK323.out⟩, ⟨si HI0.out⟩, ⟨by repeat (first | (with_reducible first | exact HK.out | apply KeepBut.set_ | apply keep_drewN | apply keep_drew | apply keep_alloc | refine keep_far ?_ GB18.out _ | refine keep_far ?_ GW317.out _ | refine keep_far ?_ GW318.out _ | refine keep_far ?_ GW323.out _) | exact HK.out)⟩, ⟨by repeat (first | (with_reducible first | exact HB.out | apply below_alloc | apply pw_below_drewN | apply below_drew1 | refine below_set ?_ (Nat.le_trans HL.out GB18.out) | refine below_set ?_ (IsS107.ge HI0.out) | refine below_set ?_ GE317.out | refine below_set ?_ GE318.out | refine below_set ?_ GE323.out) | exact HB.out)⟩⟩
     ·rw [if_neg c17] at H
      exact absurd H (by simp)
    ·rw [if_neg c16] at H
     exact absurd H (by simp)
   ·rw [if_neg c13] at H
    have c13b0 : decide (x6_1 < 20) = false := decide_eq_false c13
    clear c13
    replace H := Option.bind_eq_some_iff.mp H
    obtain ⟨t334, A260, H⟩ := H
    replace H : ((spec_l1Below.f s0_0 x1001_1 x1002_1 t334).bind fun bt335 => ((spec_l1Below.f s0_0 bt335.2.1 bt335.2.2 30).bind fun bt338 => (if bt338.1 = 0 then ((spec_l1PickInt.f s0_0 bt338.2.1 bt338.2.2 (([(-1), 8] : List Int))).bind fun bt344 => (some (x324000_1, bt344.1, bt344.2.1, bt344.2.2))) else (if bt338.1 = 1 then (if 1 ≤ (x324000_1.length : Int) then (some ((x324000_1.drop (1 : Int).toNat), bt335.1, bt338.2.1, bt338.2.2)) else (none)) else (if bt338.1 = 2 then (if 256 < (x324000_1.length : Int) then (some ((x324000_1.set (256 : Int).toNat 256), bt335.1, bt338.2.1, bt338.2.2)) else (none)) else (some (x324000_1, bt335.1, bt338.2.1, bt338.2.2))))))) = some (r1, r2, r3, r4) := H
    have A26 := Aside0.mk A260
    clear A260
    replace H := Option.bind_eq_some_iff.mp H
    obtain ⟨⟨t335, t336, t337⟩, A270, H⟩ := H
    replace H : ((spec_l1Below.f s0_0 t336 t337 30).bind fun bt338 => (if bt338.1 = 0 then ((spec_l1PickInt.f s0_0 bt338.2.1 bt338.2.2 (([(-1), 8] : List Int))).bind fun bt344 => (some (x324000_1, bt344.1, bt344.2.1, bt344.2.2))) else (if bt338.1 = 1 then (if 1 ≤ (x324000_1.length : Int) then (some ((x324000_1.drop (1 : Int).toNat), t335, bt338.2.1, bt338.2.2)) else (none)) else (if bt338.1 = 2 then (if 256 < (x324000_1.length : Int) then (some ((x324000_1.set (256 : Int).toNat 256), t335, bt338.2.1, bt338.2.2)) else (none)) else (some (x324000_1, t335, bt338.2.1, bt338.2.2)))))) = some (r1, r2, r3, r4) := H
    have A27 := Aside0.mk A270
    clear A270
    replace H := Option.bind_eq_some_iff.mp H
    obtain ⟨⟨t338, t339, t340⟩, A280, H⟩ := H
    replace H : (if t338 = 0 then ((spec_l1PickInt.f s0_0 t339 t340 (([(-1), 8] : List Int))).bind fun bt344 => (some (x324000_1, bt344.1, bt344.2.1, bt344.2.2))) else (if t338 = 1 then (if 1 ≤ (x324000_1.length : Int) then (some ((x324000_1.drop (1 : Int).toNat), t335, t339, t340)) else (none)) else (if t338 = 2 then (if 256 < (x324000_1.length : Int) then (some ((x324000_1.set (256 : Int).toNat 256), t335, t339, t340)) else (none)) else (some (x324000_1, t335, t339, t340))))) = some (r1, r2, r3, r4) := H
    have A28 := Aside0.mk A280
    clear A280
    by_cases c29 : t338 = 0
    ·rw [if_pos c29] at H
     have c29b0 : (t338 == 0) = true := beq_iff_eq.mpr c29
     have c29b1 : (t338 != 0) = false := bne_eq_false_iff_eq.mpr c29
     clear c29
     obtain ⟨y341, hy341⟩ : ∃ y_ : List Int, y_ = (([(-1), 8] : List Int)) := ⟨_, rfl⟩
     replace H : ((spec_l1PickInt.f s0_0 t339 t340 y341).bind fun bt344 => (some (x324000_1, bt344.1, bt344.2.1, bt344.2.2))) = some (r1, r2, r3, r4) := by first | (rw [hy341]; with_reducible exact H) | (have H2_ := (Option.bind_some _ _).symm.trans H; rw [hy341]; with_reducible exact H2_) | (have H2_ := (Option.bind_some _ _).symm.trans H; with_reducible exact H2_) | with_reducible exact H | (rw [hy341]; exact H) | exact H
     have Ny341 := Aside0.mk hy341
     clear hy341
     replace H := Option.bind_eq_some_iff.mp H
     obtain ⟨⟨t344, t345, t346⟩, A300, H⟩ := H
     replace H : (some (x324000_1, t344, t345, t346)) = some (r1, r2, r3, r4) := H
     have A30 := Aside0.mk A300
     clear A300
     simp only [Option.some.injEq, Prod.mk.injEq] at H
     obtain ⟨rfl, rfl, rfl, rfl⟩ := H
     have hnb31 := NB317_318.out
     have hnc31 := NB318_317.out
     have hnb32 := NB317_323.out
     have hnc32 := NB323_317.out
     have hnb33 := NB317_0.out
     have hnc33 := NB0_317.out
     have hcz34_0 : wr.cell? ⟨gb317, 0, none⟩ = some (.slice A1_0 l1_0.length c1_0) := cl BK317 0
     have hfz34_0 := blk_frozen BK317.out 0
     go_wp2_with (first | ((with_reducible refine gate_callee (f := 117) rfl ?_); refine goesM_ (some 24) rfl rfl Try.func117 #[.int .i64 (l1_0.length : Int), .int .i64 1] ?_; (with_reducible refine (spec_l1Max.calls (l1_0.length : Int) 1 t334 _ A26.out).mono ?_); rintro e w' ⟨rfl, ⟨nd, rfl⟩⟩; refine ⟨_, rfl, ?_⟩; (try (rw [drewN_self wr]; generalize hq_ : World.drewN wr _ = wr; have n0_ : Aside0 (Kd.Q (Kd.int .i64) 3 wr w.heap.size (fun _ => True) u324000 x324000_1) := ⟨by rw [← hq_]; exact (kq HO_324000.out)⟩; have n1_ : Aside0 (wr.heap[gb317]? = some (.cells #[.slice A1_0 l1_0.length c1_0] 29 (0, 0))) := ⟨by rw [← hq_]; exact (kb BK317.out)⟩; have n2_ : Aside0 (wr.heap[gb318]? = some (.cells #[.slice none 0 0, .int .i64 0] 32 (0, 0))) := ⟨by rw [← hq_]; exact (kb BK318.out)⟩; have n3_ : Aside0 (wr.heap[gb323]? = some (.cells #[u324000, .int .i64 t322] 32 (0, 0))) := ⟨by rw [← hq_]; exact (kb BK323.out)⟩; have n4_ : Aside0 (IsS107 w0 wr g s0_0 x1001_1 x1002_1) := ⟨by rw [← hq_]; exact (si HI0.out)⟩; have n5_ : Aside0 (KeepBut w wr g none) := ⟨by rw [← hq_]; exact (kp HK.out)⟩; have n6_ : Aside0 (Below w0.heap.size w0 wr) := ⟨by rw [← hq_]; exact (bi HB.out)⟩; clear HO_324000 BK317 BK318 BK323 HI0 HK HB hq_; have HO_324000 := n0_; have BK317 := n1_; have BK318 := n2_; have BK323 := n3_; have HI0 := n4_; have HK := n5_; have HB := n6_; clear n0_ n1_ n2_ n3_ n4_ n5_ n6_))) | ((with_reducible refine gate_callee (f := 60) rfl ?_); refine goesM_ (some 25) rfl rfl Try.func60 #[.pointer (some ⟨g, 0, none⟩), .int .i64 t334] ?_; (with_reducible refine (spec_l1Below.calls g s0_0 x1001_1 x1002_1 t334 t335 t336 t337 w0 _ ?side1 ?side2 A27.out).mono ?_); (case side1 => exact si HI0.out); (case side2 => exact bi HB.out); rintro e w35 ⟨rfl, hi, hb, hk⟩; refine ⟨_, rfl, ?_⟩; have n0_ := Aside0.mk (Kd.Q_mono (Kd.Q_keep (IsS107.apartQ (show IsS107 w0 _ g s0_0 x1001_1 x1002_1 from si HI0.out) (kq HO_324000.out) (by decide)) hk (fun _ h => h.2)) (fun _ h => h.1)); have n1_ := Aside0.mk (KeepBut.blk hk (g' := gb317) (o := .cells #[.slice A1_0 l1_0.length c1_0] 29 (0, 0)) (kb BK317.out) NB317_0.out (by simp)); have n2_ := Aside0.mk (KeepBut.blk hk (g' := gb318) (o := .cells #[.slice none 0 0, .int .i64 0] 32 (0, 0)) (kb BK318.out) NB318_0.out (by simp)); have n3_ := Aside0.mk (KeepBut.blk hk (g' := gb323) (o := .cells #[u324000, .int .i64 t322] 32 (0, 0)) (kb BK323.out) NB323_0.out (by simp)); have n4_ := Aside0.mk (KeepBut.trans (kp HK.out) hk (.inl rfl)); have n5_ := Aside0.mk (hb); have n6_ := Aside0.mk (hi); clear HO_324000; clear BK317; clear BK318; clear BK323; clear HK; clear HB; clear HI0; have HO_324000 := n0_; have BK317 := n1_; have BK318 := n2_; have BK323 := n3_; have HK := n4_; have HB := n5_; have HI0 := n6_; clear n0_ n1_ n2_ n3_ n4_ n5_ n6_; (try clear hb); (try clear hb2); (try clear hk); (try clear hi); have hnb36 := NB323_318.out; have hnc36 := NB318_323.out; have hnb37 := NB323_0.out; have hnc37 := NB0_323.out; have hcz38_0 : w35.cell? ⟨gb323, 0, none⟩ = some (u324000) := cl BK323 0; have hcz38_1 : w35.cell? ⟨gb323, 1, none⟩ = some (.int .i64 t322) := cl BK323 1; have hfz38_0 := blk_frozen BK323.out 0; have hfz38_1 := blk_frozen BK323.out 1) | ((with_reducible refine gate_callee (f := 60) rfl ?_); refine goesM_ (some 28) rfl rfl Try.func60 #[.pointer (some ⟨g, 0, none⟩), .int .i64 30] ?_; (with_reducible refine (spec_l1Below.calls g s0_0 t336 t337 30 t338 t339 t340 w0 _ ?side1 ?side2 A28.out).mono ?_); (case side1 => exact si HI0.out); (case side2 => exact bi HB.out); rintro e w39 ⟨rfl, hi, hb, hk⟩; refine ⟨_, rfl, ?_⟩; have n0_ := Aside0.mk (Kd.Q_mono (Kd.Q_keep (IsS107.apartQ (show IsS107 w0 _ g s0_0 t336 t337 from si HI0.out) (kq ((Kd.Q_mono (Kd.Q_far (p := ⟨gb323, 1, none⟩) (Kd.Q_types HO_324000.out BK323.out (by decide)) (fun _ hk => hk.2) (.int .i64 t335)) (fun _ h_ => h_.1)))) (by decide)) hk (fun _ h => h.2)) (fun _ h => h.1)); have n1_ := Aside0.mk (KeepBut.blk hk (g' := gb317) (o := .cells #[.slice A1_0 l1_0.length c1_0] 29 (0, 0)) (kf BK317.out) NB317_0.out (by simp)); have n2_ := Aside0.mk (KeepBut.blk hk (g' := gb318) (o := .cells #[.slice none 0 0, .int .i64 0] 32 (0, 0)) (kf BK318.out) NB318_0.out (by simp)); have n3_ := Aside0.mk (KeepBut.blk hk (g' := gb323) (o := .cells #[u324000, .int .i64 t335] 32 (0, 0)) (kt BK323.out) NB323_0.out (by simp)); have n4_ := Aside0.mk (KeepBut.trans (kp HK.out) hk (.inl rfl)); have n5_ := Aside0.mk (hb); have n6_ := Aside0.mk (hi); clear HO_324000; clear BK317; clear BK318; clear BK323; clear HK; clear HB; clear HI0; have HO_324000 := n0_; have BK317 := n1_; have BK318 := n2_; have BK323 := n3_; have HK := n4_; have HB := n5_; have HI0 := n6_; clear n0_ n1_ n2_ n3_ n4_ n5_ n6_; (try clear hb); (try clear hb2); (try clear hk); (try clear hi)) | ((with_reducible refine gate_dst (N := 32) rfl ?_); refine Kd.R_lit (Kd.int .i64) _ 3 ?hg (N := 32) ?hd (xs := ([(-1), 8] : List Int)) (inner := [.int .i64 (-1), .int .i64 8]) (ok := fun _ => True) (okp := fun _ => True) ?hr ?hp (fun _ hk => hk) trivial (Below.refl _ _) (Nat.le_refl _) (by simp) ?_; (case hd => rfl); (case hg => rfl); (case hr => first | (go_simp; done) | (go_simp; rfl)); (case hp => exact (Reps.one (show Kd.M (Kd.int .i64) _ _ _ (-1) [.int .i64 (-1)] from rfl) (Reps.one (show Kd.M (Kd.int .i64) _ _ _ 8 [.int .i64 8] from rfl) (Reps.none _ _)))); intro v342 w40 ho41 hb hg_ hnew_; clear hg_ hnew_; (first | rw [← Ny341.out] at ho41 | (simp only [Int.reduceToNat] at ho41; rw [← Ny341.out] at ho41)); have n0_ := Aside0.mk (Kd.Q_elder' (kq HO_324000.out) (Kd.R_base ho41) hb); have n1_ := Aside0.mk (Kd.R_lower (Kd.R_new' ho41 (Kd.Q_lt (kq HO_324000.out))) (keep_size (w := w) (g := g) (row := none) (kp HK.out))); have n2_ := Aside0.mk (blk_below (g := gb317) (o := .cells #[.slice A1_0 l1_0.length c1_0] 29 (0, 0)) (kb BK317.out) hb); have n3_ := Aside0.mk (blk_below (g := gb318) (o := .cells #[.slice none 0 0, .int .i64 0] 32 (0, 0)) (kb BK318.out) hb); have n4_ := Aside0.mk (blk_below (g := gb323) (o := .cells #[u324000, .int .i64 t335] 32 (0, 0)) (kb BK323.out) hb); have n5_ := Aside0.mk (IsS107.below (si HI0.out) hb); have n6_ := Aside0.mk (KeepBut.trans (kp HK.out) (KeepBut.of_below hb g none) (.inl rfl)); have n7_ := Aside0.mk (below_step (bi HB.out) hb); clear HO_324000; clear BK317; clear BK318; clear BK323; clear HI0; clear HK; clear HB; have HO_324000 := n0_; have HO343 := n1_; have BK317 := n2_; have BK318 := n3_; have BK323 := n4_; have HI0 := n5_; have HK := n6_; have HB := n7_; clear n0_ n1_ n2_ n3_ n4_ n5_ n6_ n7_; clear hb ho41; obtain ⟨Ao42, co42, eo42⟩ := Kd.R_slice HO343.out; subst eo42) | ((with_reducible refine gate_callee (f := 70) rfl ?_); refine goesM_ (some 33) rfl rfl Try.func70 #[.pointer (some ⟨g, 0, none⟩), .slice Ao42 y341.length co42] ?_; (with_reducible refine (spec_l1PickInt.calls g s0_0 t339 t340 _ _ y341 t344 t345 t346 w0 _ ?side1 ?side2 ?side3 ?side4 ?side5 A30.out).mono ?_); (case side1 => exact si HI0.out); (case side2 => exact bi HB.out); (case side3 => exact kc (Kd.R_reads' HO343.out).2.2); (case side4 => exact (Kd.R_reads' HO343.out).2.1); (case side5 => exact far_slice (IsS107.own_ne HI0.out HO343.out (by decide))); rintro e w43 ⟨rfl, hi, hb, hk⟩; refine ⟨_, rfl, ?_⟩; have n0_ := Aside0.mk (Kd.Q_mono (Kd.Q_keep (IsS107.apartQ (show IsS107 w0 _ g s0_0 t339 t340 from si HI0.out) (kq HO_324000.out) (by decide)) hk (fun _ h => h.2)) (fun _ h => h.1)); have n1_ := Aside0.mk (KeepBut.blk hk (g' := gb317) (o := .cells #[.slice A1_0 l1_0.length c1_0] 29 (0, 0)) (kb BK317.out) NB317_0.out (by simp)); have n2_ := Aside0.mk (KeepBut.blk hk (g' := gb318) (o := .cells #[.slice none 0 0, .int .i64 0] 32 (0, 0)) (kb BK318.out) NB318_0.out (by simp)); have n3_ := Aside0.mk (KeepBut.blk hk (g' := gb323) (o := .cells #[u324000, .int .i64 t335] 32 (0, 0)) (kb BK323.out) NB323_0.out (by simp)); have n4_ := Aside0.mk (Kd.R_mono (Kd.R_keep (IsS107.apart (show IsS107 w0 _ g s0_0 t339 t340 from si HI0.out) (kr HO343.out) (by decide)) hk (fun _ h => h.2)) (fun _ h => h.1)); have n5_ := Aside0.mk (KeepBut.trans (kp HK.out) hk (.inl rfl)); have n6_ := Aside0.mk (hb); have n7_ := Aside0.mk (hi); clear HO_324000; clear BK317; clear BK318; clear BK323; clear HO343; clear HK; clear HB; clear HI0; have HO_324000 := n0_; have BK317 := n1_; have BK318 := n2_; have BK323 := n3_; have HO343 := n4_; have HK := n5_; have HB := n6_; have HI0 := n7_; clear n0_ n1_ n2_ n3_ n4_ n5_ n6_ n7_; (try clear hb); (try clear hb2); (try clear hk); (try clear hi); have hcz44_0 : w43.cell? ⟨gb323, 0, none⟩ = some (u324000) := cl BK323 0; have hcz44_1 : w43.cell? ⟨gb323, 1, none⟩ = some (.int .i64 t335) := cl BK323 1; have hfz44_0 := blk_frozen BK323.out 0; have hfz44_1 := blk_frozen BK323.out 1; obtain ⟨Ao45, co45, eo45, _⟩ := Kd.Q_slice HO_324000.out; subst eo45; have hnb46 := NB318_0.out; have hnc46 := NB0_318.out; have hcz47_0 : w43.cell? ⟨gb318, 0, none⟩ = some (.slice none 0 0) := cl BK318 0; have hcz47_1 : w43.cell? ⟨gb318, 1, none⟩ = some (.int .i64 0) := cl BK318 1; have hfz47_0 := blk_frozen BK318.out 0; have hfz47_1 := blk_frozen BK318.out 1))
     refine bodyPost_ret (results_cell_row rfl _ _ gb318 32 #[.slice Ao45 x324000_1.length co45, .int .i64 t344] (0, 0) _ rfl (by (with_reducible repeat (first | refine blk_drewN ?_ _ | refine blk_drew ?_ | refine blk_alloc ?_ _)); refine blk_put (cs := #[.slice Ao45 x324000_1.length co45, .int .i64 0]) ?_ 1 _ rfl; (with_reducible repeat (first | refine blk_drewN ?_ _ | refine blk_drew ?_ | refine blk_alloc ?_ _)); refine blk_put (cs := #[.slice none 0 0, .int .i64 0]) ?_ 0 _ rfl; (with_reducible repeat (first | refine blk_drewN ?_ _ | refine blk_drew ?_ | refine blk_alloc ?_ _)); refine blk_far ?_ NB318_323.out _; (with_reducible repeat (first | refine blk_drewN ?_ _ | refine blk_drew ?_ | refine blk_alloc ?_ _)); exact BK318.out) Try.underlying32 rfl (by kernel_rfl)) rfl ?_
     exact ⟨_, rt, kq (Kd.Q_mono (Kd.Q_far (p := ⟨gb318, 1, none⟩) (Kd.Q_far (p := ⟨gb318, 0, none⟩) (Kd.Q_far (p := ⟨gb323, 1, none⟩) (Kd.Q_types (Kd.Q_types HO_324000.out BK323.out (by decide)) BK318.out (by decide)) (fun _ hk => hk.1.2) (.int .i64 t344)) (fun _ hk => hk.2) (.slice Ao45 x324000_1.length co45)) (fun _ hk => hk.2) (.int .i64 t344)) (fun _ hk => trivial)), si HI0.out, bi HB.out, kp HK.out⟩
    ·rw [if_neg c29] at H
     have c29b0 : (t338 == 0) = false := beq_eq_false_iff_ne.mpr c29
     have c29b1 : (t338 != 0) = true := bne_iff_ne.mpr c29
     by_cases c48 : t338 = 1
     ·rw [if_pos c48] at H
      have c48b0 : (t338 == 1) = true := beq_iff_eq.mpr c48
      have c48b1 : (t338 != 1) = false := bne_eq_false_iff_eq.mpr c48
      clear c48
      by_cases c49 : 1 ≤ (x324000_1.length : Int)
      ·rw [if_pos c49] at H
       have c49b0 := eq_true c49
       have c49b1 : decide (1 ≤ (x324000_1.length : Int)) = true := decide_eq_true c49
       clear c49
       obtain ⟨y347, hy347⟩ : ∃ y_ : List Int, y_ = (x324000_1.drop (1 : Int).toNat) := ⟨_, rfl⟩
       replace H : (some (y347, t335, t339, t340)) = some (r1, r2, r3, r4) := by first | (rw [hy347]; with_reducible exact H) | (have H2_ := (Option.bind_some _ _).symm.trans H; rw [hy347]; with_reducible exact H2_) | (have H2_ := (Option.bind_some _ _).symm.trans H; with_reducible exact H2_) | with_reducible exact H | (rw [hy347]; exact H) | exact H
       have Ny347 := Aside0.mk hy347
       clear hy347
       simp only [Option.some.injEq, Prod.mk.injEq] at H
       obtain ⟨rfl, rfl, rfl, rfl⟩ := H
       have hnb50 := NB317_318.out
       have hnc50 := NB318_317.out
       have hnb51 := NB317_323.out
       have hnc51 := NB323_317.out
       have hnb52 := NB317_0.out
       have hnc52 := NB0_317.out
       have hcz53_0 : wr.cell? ⟨gb317, 0, none⟩ = some (.slice A1_0 l1_0.length c1_0) := cl BK317 0
       have hfz53_0 := blk_frozen BK317.out 0
       go_wp2_with (first | ((with_reducible refine gate_callee (f := 117) rfl ?_); refine goesM_ (some 24) rfl rfl Try.func117 #[.int .i64 (l1_0.length : Int), .int .i64 1] ?_; (with_reducible refine (spec_l1Max.calls (l1_0.length : Int) 1 t334 _ A26.out).mono ?_); rintro e w' ⟨rfl, ⟨nd, rfl⟩⟩; refine ⟨_, rfl, ?_⟩; (try (rw [drewN_self wr]; generalize hq_ : World.drewN wr _ = wr; have n0_ : Aside0 (Kd.Q (Kd.int .i64) 3 wr w.heap.size (fun _ => True) u324000 x324000_1) := ⟨by rw [← hq_]; exact (kq HO_324000.out)⟩; have n1_ : Aside0 (wr.heap[gb317]? = some (.cells #[.slice A1_0 l1_0.length c1_0] 29 (0, 0))) := ⟨by rw [← hq_]; exact (kb BK317.out)⟩; have n2_ : Aside0 (wr.heap[gb318]? = some (.cells #[.slice none 0 0, .int .i64 0] 32 (0, 0))) := ⟨by rw [← hq_]; exact (kb BK318.out)⟩; have n3_ : Aside0 (wr.heap[gb323]? = some (.cells #[u324000, .int .i64 t322] 32 (0, 0))) := ⟨by rw [← hq_]; exact (kb BK323.out)⟩; have n4_ : Aside0 (IsS107 w0 wr g s0_0 x1001_1 x1002_1) := ⟨by rw [← hq_]; exact (si HI0.out)⟩; have n5_ : Aside0 (KeepBut w wr g none) := ⟨by rw [← hq_]; exact (kp HK.out)⟩; have n6_ : Aside0 (Below w0.heap.size w0 wr) := ⟨by rw [← hq_]; exact (bi HB.out)⟩; clear HO_324000 BK317 BK318 BK323 HI0 HK HB hq_; have HO_324000 := n0_; have BK317 := n1_; have BK318 := n2_; have BK323 := n3_; have HI0 := n4_; have HK := n5_; have HB := n6_; clear n0_ n1_ n2_ n3_ n4_ n5_ n6_))) | ((with_reducible refine gate_callee (f := 60) rfl ?_); refine goesM_ (some 25) rfl rfl Try.func60 #[.pointer (some ⟨g, 0, none⟩), .int .i64 t334] ?_; (with_reducible refine (spec_l1Below.calls g s0_0 x1001_1 x1002_1 t334 t335 t336 t337 w0 _ ?side1 ?side2 A27.out).mono ?_); (case side1 => exact si HI0.out); (case side2 => exact bi HB.out); rintro e w54 ⟨rfl, hi, hb, hk⟩; refine ⟨_, rfl, ?_⟩; have n0_ := Aside0.mk (Kd.Q_mono (Kd.Q_keep (IsS107.apartQ (show IsS107 w0 _ g s0_0 x1001_1 x1002_1 from si HI0.out) (kq HO_324000.out) (by decide)) hk (fun _ h => h.2)) (fun _ h => h.1)); have n1_ := Aside0.mk (KeepBut.blk hk (g' := gb317) (o := .cells #[.slice A1_0 l1_0.length c1_0] 29 (0, 0)) (kb BK317.out) NB317_0.out (by simp)); have n2_ := Aside0.mk (KeepBut.blk hk (g' := gb318) (o := .cells #[.slice none 0 0, .int .i64 0] 32 (0, 0)) (kb BK318.out) NB318_0.out (by simp)); have n3_ := Aside0.mk (KeepBut.blk hk (g' := gb323) (o := .cells #[u324000, .int .i64 t322] 32 (0, 0)) (kb BK323.out) NB323_0.out (by simp)); have n4_ := Aside0.mk (KeepBut.trans (kp HK.out) hk (.inl rfl)); have n5_ := Aside0.mk (hb); have n6_ := Aside0.mk (hi); clear HO_324000; clear BK317; clear BK318; clear BK323; clear HK; clear HB; clear HI0; have HO_324000 := n0_; have BK317 := n1_; have BK318 := n2_; have BK323 := n3_; have HK := n4_; have HB := n5_; have HI0 := n6_; clear n0_ n1_ n2_ n3_ n4_ n5_ n6_; (try clear hb); (try clear hb2); (try clear hk); (try clear hi); have hnb55 := NB323_318.out; have hnc55 := NB318_323.out; have hnb56 := NB323_0.out; have hnc56 := NB0_323.out; have hcz57_0 : w54.cell? ⟨gb323, 0, none⟩ = some (u324000) := cl BK323 0; have hcz57_1 : w54.cell? ⟨gb323, 1, none⟩ = some (.int .i64 t322) := cl BK323 1; have hfz57_0 := blk_frozen BK323.out 0; have hfz57_1 := blk_frozen BK323.out 1) | ((with_reducible refine gate_callee (f := 60) rfl ?_); refine goesM_ (some 28) rfl rfl Try.func60 #[.pointer (some ⟨g, 0, none⟩), .int .i64 30] ?_; (with_reducible refine (spec_l1Below.calls g s0_0 t336 t337 30 t338 t339 t340 w0 _ ?side1 ?side2 A28.out).mono ?_); (case side1 => exact si HI0.out); (case side2 => exact bi HB.out); rintro e w58 ⟨rfl, hi, hb, hk⟩; refine ⟨_, rfl, ?_⟩; have n0_ := Aside0.mk (Kd.Q_mono (Kd.Q_keep (IsS107.apartQ (show IsS107 w0 _ g s0_0 t336 t337 from si HI0.out) (kq ((Kd.Q_mono (Kd.Q_far (p := ⟨gb323, 1, none⟩) (Kd.Q_types HO_324000.out BK323.out (by decide)) (fun _ hk => hk.2) (.int .i64 t335)) (fun _ h_ => h_.1)))) (by decide)) hk (fun _ h => h.2)) (fun _ h => h.1)); have n1_ := Aside0.mk (KeepBut.blk hk (g' := gb317) (o := .cells #[.slice A1_0 l1_0.length c1_0] 29 (0, 0)) (kf BK317.out) NB317_0.out (by simp)); have n2_ := Aside0.mk (KeepBut.blk hk (g' := gb318) (o := .cells #[.slice none 0 0, .int .i64 0] 32 (0, 0)) (kf BK318.out) NB318_0.out (by simp)); have n3_ := Aside0.mk (KeepBut.blk hk (g' := gb323) (o := .cells #[u324000, .int .i64 t335] 32 (0, 0)) (kt BK323.out) NB323_0.out (by simp)); have n4_ := Aside0.mk (KeepBut.trans (kp HK.out) hk (.inl rfl)); have n5_ := Aside0.mk (hb); have n6_ := Aside0.mk (hi); clear HO_324000; clear BK317; clear BK318; clear BK323; clear HK; clear HB; clear HI0; have HO_324000 := n0_; have BK317 := n1_; have BK318 := n2_; have BK323 := n3_; have HK := n4_; have HB := n5_; have HI0 := n6_; clear n0_ n1_ n2_ n3_ n4_ n5_ n6_; (try clear hb); (try clear hb2); (try clear hk); (try clear hi); have hcz59_0 : w58.cell? ⟨gb323, 0, none⟩ = some (u324000) := cl BK323 0; have hcz59_1 : w58.cell? ⟨gb323, 1, none⟩ = some (.int .i64 t335) := cl BK323 1; have hfz59_0 := blk_frozen BK323.out 0; have hfz59_1 := blk_frozen BK323.out 1; obtain ⟨Ao60, co60, eo60, _⟩ := Kd.Q_slice HO_324000.out; subst eo60; have q61 : (1 : Int) ≤ ((x324000_1.length : Int) : Int) := dt; obtain ⟨i061, hi061, _, hsz61, _⟩ := info_parts info3; have hcut61 := cut_from (P := Try.prog) 30 3 .i64 Try.underlying30 hi061 1 hsz61 Ao60 x324000_1.length co60 1 (by omega) q61; have hr61 := Kd.Q_drop (k := (1 : Int).toNat) HO_324000.out (by omega); obtain ⟨A61, hA61⟩ : ∃ A1, A1 = (if co60 = (1 : Int).toNat then Ao60 else (Ao60 : Option Addr).map (·.add ((1 : Int).toNat * 1))) := ⟨_, rfl⟩; obtain ⟨c61, hc61⟩ : ∃ c1, c1 = co60 - (1 : Int).toNat := ⟨_, rfl⟩; have hy61 : y347.length = x324000_1.length - (1 : Int).toNat := (by rw [Ny347.out, List.length_drop]); rw [← Ny347.out] at hr61; rw [← hy61, ← hA61, ← hc61] at hcut61; replace hr61 : Kd.Q (Kd.int .i64) 3 w58 w.heap.size (fun _ => True) (.slice A61 y347.length c61) y347 := (by rw [hA61, hc61, hy61]; exact hr61); have HE61 : Aside0 ((Value.slice A61 y347.length c61).ownBlock = (.slice Ao60 x324000_1.length co60 : Value).ownBlock) := ⟨by rw [hA61]; split <;> (cases (Ao60 : Option Addr) <;> rfl)⟩; clear hy61 hi061 hsz61 HO_324000 hA61 hc61; have HO349 := Aside0.mk hr61; clear hr61; replace q61 := eq_true q61; have hnb62 := NB318_0.out; have hnc62 := NB0_318.out; have hcz63_0 : w58.cell? ⟨gb318, 0, none⟩ = some (.slice none 0 0) := cl BK318 0; have hcz63_1 : w58.cell? ⟨gb318, 1, none⟩ = some (.int .i64 0) := cl BK318 1; have hfz63_0 := blk_frozen BK318.out 0; have hfz63_1 := blk_frozen BK318.out 1))
       refine bodyPost_ret (results_cell_row rfl _ _ gb318 32 #[.slice A61 y347.length c61, .int .i64 t335] (0, 0) _ rfl (by (with_reducible repeat (first | refine blk_drewN ?_ _ | refine blk_drew ?_ | refine blk_alloc ?_ _)); refine blk_put (cs := #[.slice A61 y347.length c61, .int .i64 0]) ?_ 1 _ rfl; (with_reducible repeat (first | refine blk_drewN ?_ _ | refine blk_drew ?_ | refine blk_alloc ?_ _)); refine blk_put (cs := #[.slice none 0 0, .int .i64 0]) ?_ 0 _ rfl; (with_reducible repeat (first | refine blk_drewN ?_ _ | refine blk_drew ?_ | refine blk_alloc ?_ _)); refine blk_far ?_ NB318_323.out _; (with_reducible repeat (first | refine blk_drewN ?_ _ | refine blk_drew ?_ | refine blk_alloc ?_ _)); exact BK318.out) Try.underlying32 rfl (by kernel_rfl)) rfl ?_
       exact ⟨_, rt, kq (Kd.Q_mono (Kd.Q_far (p := ⟨gb318, 1, none⟩) (Kd.Q_far (p := ⟨gb318, 0, none⟩) (Kd.Q_far (p := ⟨gb323, 0, none⟩) (Kd.Q_types (Kd.Q_types HO349.out BK323.out (by decide)) BK318.out (by decide)) (fun _ hk => hk.1.2) (.slice A61 y347.length c61)) (fun _ hk => hk.2) (.slice A61 y347.length c61)) (fun _ hk => hk.2) (.int .i64 t335)) (fun _ hk => trivial)), si HI0.out, bi HB.out, kp HK.out⟩
      ·rw [if_neg c49] at H
       exact absurd H (by simp)
     ·rw [if_neg c48] at H
      have c48b0 : (t338 == 1) = false := beq_eq_false_iff_ne.mpr c48
      have c48b1 : (t338 != 1) = true := bne_iff_ne.mpr c48
      by_cases c64 : t338 = 2
      ·rw [if_pos c64] at H
       have c64b0 : (t338 == 2) = true := beq_iff_eq.mpr c64
       have c64b1 : (t338 != 2) = false := bne_eq_false_iff_eq.mpr c64
       clear c64
       by_cases c65 : 256 < (x324000_1.length : Int)
       ·rw [if_pos c65] at H
        have c65b0 : decide (256 < (x324000_1.length : Int)) = true := decide_eq_true c65
        have c65b1 : decide (256 < x324000_1.length) = true := decide_eq_true (by omega)
        clear c65
        obtain ⟨y350, hy350⟩ : ∃ y_ : List Int, y_ = (x324000_1.set (256 : Int).toNat 256) := ⟨_, rfl⟩
        replace H : (some (y350, t335, t339, t340)) = some (r1, r2, r3, r4) := by first | (rw [hy350]; with_reducible exact H) | (have H2_ := (Option.bind_some _ _).symm.trans H; rw [hy350]; with_reducible exact H2_) | (have H2_ := (Option.bind_some _ _).symm.trans H; with_reducible exact H2_) | with_reducible exact H | (rw [hy350]; exact H) | exact H
        have Ny350 := Aside0.mk hy350
        clear hy350
        simp only [Option.some.injEq, Prod.mk.injEq] at H
        obtain ⟨rfl, rfl, rfl, rfl⟩ := H
        have hnb67 := NB317_318.out
        have hnc67 := NB318_317.out
        have hnb68 := NB317_323.out
        have hnc68 := NB323_317.out
        have hnb69 := NB317_0.out
        have hnc69 := NB0_317.out
        have hcz70_0 : wr.cell? ⟨gb317, 0, none⟩ = some (.slice A1_0 l1_0.length c1_0) := cl BK317 0
        have hfz70_0 := blk_frozen BK317.out 0
        go_wp2_with (first | ((with_reducible refine gate_callee (f := 117) rfl ?_); refine goesM_ (some 24) rfl rfl Try.func117 #[.int .i64 (l1_0.length : Int), .int .i64 1] ?_; (with_reducible refine (spec_l1Max.calls (l1_0.length : Int) 1 t334 _ A26.out).mono ?_); rintro e w' ⟨rfl, ⟨nd, rfl⟩⟩; refine ⟨_, rfl, ?_⟩; (try (rw [drewN_self wr]; generalize hq_ : World.drewN wr _ = wr; have n0_ : Aside0 (Kd.Q (Kd.int .i64) 3 wr w.heap.size (fun _ => True) u324000 x324000_1) := ⟨by rw [← hq_]; exact (kq HO_324000.out)⟩; have n1_ : Aside0 (wr.heap[gb317]? = some (.cells #[.slice A1_0 l1_0.length c1_0] 29 (0, 0))) := ⟨by rw [← hq_]; exact (kb BK317.out)⟩; have n2_ : Aside0 (wr.heap[gb318]? = some (.cells #[.slice none 0 0, .int .i64 0] 32 (0, 0))) := ⟨by rw [← hq_]; exact (kb BK318.out)⟩; have n3_ : Aside0 (wr.heap[gb323]? = some (.cells #[u324000, .int .i64 t322] 32 (0, 0))) := ⟨by rw [← hq_]; exact (kb BK323.out)⟩; have n4_ : Aside0 (IsS107 w0 wr g s0_0 x1001_1 x1002_1) := ⟨by rw [← hq_]; exact (si HI0.out)⟩; have n5_ : Aside0 (KeepBut w wr g none) := ⟨by rw [← hq_]; exact (kp HK.out)⟩; have n6_ : Aside0 (Below w0.heap.size w0 wr) := ⟨by rw [← hq_]; exact (bi HB.out)⟩; clear HO_324000 BK317 BK318 BK323 HI0 HK HB hq_; have HO_324000 := n0_; have BK317 := n1_; have BK318 := n2_; have BK323 := n3_; have HI0 := n4_; have HK := n5_; have HB := n6_; clear n0_ n1_ n2_ n3_ n4_ n5_ n6_))) | ((with_reducible refine gate_callee (f := 60) rfl ?_); refine goesM_ (some 25) rfl rfl Try.func60 #[.pointer (some ⟨g, 0, none⟩), .int .i64 t334] ?_; (with_reducible refine (spec_l1Below.calls g s0_0 x1001_1 x1002_1 t334 t335 t336 t337 w0 _ ?side1 ?side2 A27.out).mono ?_); (case side1 => exact si HI0.out); (case side2 => exact bi HB.out); rintro e w71 ⟨rfl, hi, hb, hk⟩; refine ⟨_, rfl, ?_⟩; have n0_ := Aside0.mk (Kd.Q_mono (Kd.Q_keep (IsS107.apartQ (show IsS107 w0 _ g s0_0 x1001_1 x1002_1 from si HI0.out) (kq HO_324000.out) (by decide)) hk (fun _ h => h.2)) (fun _ h => h.1)); have n1_ := Aside0.mk (KeepBut.blk hk (g' := gb317) (o := .cells #[.slice A1_0 l1_0.length c1_0] 29 (0, 0)) (kb BK317.out) NB317_0.out (by simp)); have n2_ := Aside0.mk (KeepBut.blk hk (g' := gb318) (o := .cells #[.slice none 0 0, .int .i64 0] 32 (0, 0)) (kb BK318.out) NB318_0.out (by simp)); have n3_ := Aside0.mk (KeepBut.blk hk (g' := gb323) (o := .cells #[u324000, .int .i64 t322] 32 (0, 0)) (kb BK323.out) NB323_0.out (by simp)); have n4_ := Aside0.mk (KeepBut.trans (kp HK.out) hk (.inl rfl)); have n5_ := Aside0.mk (hb); have n6_ := Aside0.mk (hi); clear HO_324000; clear BK317; clear BK318; clear BK323; clear HK; clear HB; clear HI0; have HO_324000 := n0_; have BK317 := n1_; have BK318 := n2_; have BK323 := n3_; have HK := n4_; have HB := n5_; have HI0 := n6_; clear n0_ n1_ n2_ n3_ n4_ n5_ n6_; (try clear hb); (try clear hb2); (try clear hk); (try clear hi); have hnb72 := NB323_318.out; have hnc72 := NB318_323.out; have hnb73 := NB323_0.out; have hnc73 := NB0_323.out; have hcz74_0 : w71.cell? ⟨gb323, 0, none⟩ = some (u324000) := cl BK323 0; have hcz74_1 : w71.cell? ⟨gb323, 1, none⟩ = some (.int .i64 t322) := cl BK323 1; have hfz74_0 := blk_frozen BK323.out 0; have hfz74_1 := blk_frozen BK323.out 1) | ((with_reducible refine gate_callee (f := 60) rfl ?_); refine goesM_ (some 28) rfl rfl Try.func60 #[.pointer (some ⟨g, 0, none⟩), .int .i64 30] ?_; (with_reducible refine (spec_l1Below.calls g s0_0 t336 t337 30 t338 t339 t340 w0 _ ?side1 ?side2 A28.out).mono ?_); (case side1 => exact si HI0.out); (case side2 => exact bi HB.out); rintro e w75 ⟨rfl, hi, hb, hk⟩; refine ⟨_, rfl, ?_⟩; have n0_ := Aside0.mk (Kd.Q_mono (Kd.Q_keep (IsS107.apartQ (show IsS107 w0 _ g s0_0 t336 t337 from si HI0.out) (kq ((Kd.Q_mono (Kd.Q_far (p := ⟨gb323, 1, none⟩) (Kd.Q_types HO_324000.out BK323.out (by decide)) (fun _ hk => hk.2) (.int .i64 t335)) (fun _ h_ => h_.1)))) (by decide)) hk (fun _ h => h.2)) (fun _ h => h.1)); have n1_ := Aside0.mk (KeepBut.blk hk (g' := gb317) (o := .cells #[.slice A1_0 l1_0.length c1_0] 29 (0, 0)) (kf BK317.out) NB317_0.out (by simp)); have n2_ := Aside0.mk (KeepBut.blk hk (g' := gb318) (o := .cells #[.slice none 0 0, .int .i64 0] 32 (0, 0)) (kf BK318.out) NB318_0.out (by simp)); have n3_ := Aside0.mk (KeepBut.blk hk (g' := gb323) (o := .cells #[u324000, .int .i64 t335] 32 (0, 0)) (kt BK323.out) NB323_0.out (by simp)); have n4_ := Aside0.mk (KeepBut.trans (kp HK.out) hk (.inl rfl)); have n5_ := Aside0.mk (hb); have n6_ := Aside0.mk (hi); clear HO_324000; clear BK317; clear BK318; clear BK323; clear HK; clear HB; clear HI0; have HO_324000 := n0_; have BK317 := n1_; have BK318 := n2_; have BK323 := n3_; have HK := n4_; have HB := n5_; have HI0 := n6_; clear n0_ n1_ n2_ n3_ n4_ n5_ n6_; (try clear hb); (try clear hb2); (try clear hk); (try clear hi); have hcz76_0 : w75.cell? ⟨gb323, 0, none⟩ = some (u324000) := cl BK323 0; have hcz76_1 : w75.cell? ⟨gb323, 1, none⟩ = some (.int .i64 t335) := cl BK323 1; have hfz76_0 := blk_frozen BK323.out 0; have hfz76_1 := blk_frozen BK323.out 1; have p66 : 0 ≤ (256 : Int) := (by omega); have q66 : (256 : Int) < ((x324000_1.length : Int) : Int) := dt; have qi66 : (256 < x324000_1.length) = True := eq_true (by omega); obtain ⟨go66, oo66, co66, eo66, gb66, gl66, cl66, HG66⟩ := Kd.Q_form HO_324000.out (by omega); (first | cases eo66 | (injection eo66 with ea_ en_ ec_; (first | subst ea_ | (injection ea_ with ea_; subst ea_)); subst ec_; clear en_)); have GB66 := Aside0.mk gb66; have GG66 := Aside0.mk HG66; clear gb66 gl66 HG66; obtain ⟨hx66_0, hf66_0⟩ := Kd.Q_cell 0 HO_324000.out (256 : Int) p66 q66; (try rw [show ((256 : Int)).toNat = 256 from rfl] at hx66_0); (try simp only [Nat.reduceMul, Nat.zero_mul, Nat.zero_add, Nat.reduceAdd] at hx66_0); (try rw [show ((256 : Int)).toNat = 256 from rfl] at hf66_0); (try simp only [Nat.reduceMul, Nat.zero_mul, Nat.zero_add, Nat.reduceAdd] at hf66_0); replace p66 := eq_true p66; replace q66 := eq_true q66; obtain ⟨hy77_, hz77_⟩ := Kd.Q_cell 0 HO_324000.out (256 : Int) (by omega) dt; (try simp only [Int.reduceToNat, Int.toNat_zero, Int.toNat_ofNat, Nat.reduceMul, Nat.zero_mul, Nat.zero_add] at hy77_ hz77_); (try rw [show ((256 : Int)).toNat = 256 from rfl] at hy77_); (try rw [show ((256 : Int)).toNat = 256 from rfl] at hz77_); have HP77 := Kd.Q_putg HO_324000.out (256 : Int) (by omega) (by have h_ : (256 : Int) < ((x324000_1.length : Int) : Int) := dt; first | exact h_ | (have e_ := (Kd.Q_reads' HO_324000.out).1; omega) | simpa using h_) 256) | ((with_reducible refine gate_store (t := 3) (p := 45) rfl ?_); refine store_event (t := 3) (p := 45) (v := ?vo_w78) (w1 := (w75.setCell ⟨go66, oo66 + (256 : Int).toNat, none⟩ (.int .i64 256))) ?hg ?ho ?hn ?hr ?_; (case ho => rfl); (case hg => rfl); (case hn => rfl); (case hr => first | (go_simp; done) | (go_simp; rfl)); intro w78 hw; have hg : w75.grownBy w78 (some go66) := (by rw [hw]; exact HP77.2); have hp_ : Kd.Q (Kd.int .i64) 3 w78 w.heap.size (fun _ => True) (.slice (some ⟨go66, oo66, none⟩) x324000_1.length co66) y350 := (by rw [hw, Ny350.out]; exact HP77.1); clear HP77; have n0_ := Aside0.mk (hp_); have n1_ := Aside0.mk (blk_grown (g := gb317) (o := .cells #[.slice A1_0 l1_0.length c1_0] 29 (0, 0)) (kb BK317.out) hg (Kd.Q_ne HO_324000.out BK317.out (by decide))); have n2_ := Aside0.mk (blk_grown (g := gb318) (o := .cells #[.slice none 0 0, .int .i64 0] 32 (0, 0)) (kb BK318.out) hg (Kd.Q_ne HO_324000.out BK318.out (by decide))); have n3_ := Aside0.mk (blk_grown (g := gb323) (o := .cells #[.slice (some ⟨go66, oo66, none⟩) x324000_1.length co66, .int .i64 t335] 32 (0, 0)) (kb BK323.out) hg (Kd.Q_ne HO_324000.out BK323.out (by decide))); have n4_ := Aside0.mk (IsS107.grown (si HI0.out) hg (IsS107.own_neQ HI0.out HO_324000.out (by decide))); have n5_ := Aside0.mk ((by rw [hw]; exact below_set (HB.out) (Nat.le_trans HL.out GB66.out) : Below w0.heap.size w0 w78)); have n6_ := Aside0.mk (KeepBut.trans (kp HK.out) (KeepBut.of_grown hg g) (Kd.Q_base2 HO_324000.out)); clear HO_324000; clear BK317; clear BK318; clear BK323; clear HI0; clear HB; clear HK; have HO_324000 := n0_; have BK317 := n1_; have BK318 := n2_; have BK323 := n3_; have HI0 := n4_; have HB := n5_; have HK := n6_; clear n0_ n1_ n2_ n3_ n4_ n5_ n6_; clear hg hw hp_; have hcz79_0 : w78.cell? ⟨gb323, 0, none⟩ = some (.slice (some ⟨go66, oo66, none⟩) x324000_1.length co66) := cl BK323 0; have hcz79_1 : w78.cell? ⟨gb323, 1, none⟩ = some (.int .i64 t335) := cl BK323 1; have hfz79_0 := blk_frozen BK323.out 0; have hfz79_1 := blk_frozen BK323.out 1; have hnb80 := NB318_0.out; have hnc80 := NB0_318.out; have hcz81_0 : w78.cell? ⟨gb318, 0, none⟩ = some (.slice none 0 0) := cl BK318 0; have hcz81_1 : w78.cell? ⟨gb318, 1, none⟩ = some (.int .i64 0) := cl BK318 1; have hfz81_0 := blk_frozen BK318.out 0; have hfz81_1 := blk_frozen BK318.out 1))
        refine bodyPost_ret (results_cell_row rfl _ _ gb318 32 #[.slice (some ⟨go66, oo66, none⟩) x324000_1.length co66, .int .i64 t335] (0, 0) _ rfl (by (with_reducible repeat (first | refine blk_drewN ?_ _ | refine blk_drew ?_ | refine blk_alloc ?_ _)); refine blk_put (cs := #[.slice (some ⟨go66, oo66, none⟩) x324000_1.length co66, .int .i64 0]) ?_ 1 _ rfl; (with_reducible repeat (first | refine blk_drewN ?_ _ | refine blk_drew ?_ | refine blk_alloc ?_ _)); refine blk_put (cs := #[.slice none 0 0, .int .i64 0]) ?_ 0 _ rfl; (with_reducible repeat (first | refine blk_drewN ?_ _ | refine blk_drew ?_ | refine blk_alloc ?_ _)); exact BK318.out) Try.underlying32 rfl (by kernel_rfl)) rfl ?_
        exact ⟨_, rt, kq (Kd.Q_mono (Kd.Q_far (p := ⟨gb318, 1, none⟩) (Kd.Q_far (p := ⟨gb318, 0, none⟩) (Kd.Q_types HO_324000.out BK318.out (by decide)) (fun _ hk => hk.2) (.slice (some ⟨go66, oo66, none⟩) x324000_1.length co66)) (fun _ hk => hk.2) (.int .i64 t335)) (fun _ hk => trivial)), si HI0.out, bi HB.out, kp HK.out⟩
       ·rw [if_neg c65] at H
        exact absurd H (by simp)
      ·rw [if_neg c64] at H
       have c64b0 : (t338 == 2) = false := beq_eq_false_iff_ne.mpr c64
       have c64b1 : (t338 != 2) = true := bne_iff_ne.mpr c64
       simp only [Option.some.injEq, Prod.mk.injEq] at H
       obtain ⟨rfl, rfl, rfl, rfl⟩ := H
       have hnb82 := NB317_318.out
       have hnc82 := NB318_317.out
       have hnb83 := NB317_323.out
       have hnc83 := NB323_317.out
       have hnb84 := NB317_0.out
       have hnc84 := NB0_317.out
       have hcz85_0 : wr.cell? ⟨gb317, 0, none⟩ = some (.slice A1_0 l1_0.length c1_0) := cl BK317 0
       have hfz85_0 := blk_frozen BK317.out 0
       go_wp2_with (first | ((with_reducible refine gate_callee (f := 117) rfl ?_); refine goesM_ (some 24) rfl rfl Try.func117 #[.int .i64 (l1_0.length : Int), .int .i64 1] ?_; (with_reducible refine (spec_l1Max.calls (l1_0.length : Int) 1 t334 _ A26.out).mono ?_); rintro e w' ⟨rfl, ⟨nd, rfl⟩⟩; refine ⟨_, rfl, ?_⟩; (try (rw [drewN_self wr]; generalize hq_ : World.drewN wr _ = wr; have n0_ : Aside0 (Kd.Q (Kd.int .i64) 3 wr w.heap.size (fun _ => True) u324000 x324000_1) := ⟨by rw [← hq_]; exact (kq HO_324000.out)⟩; have n1_ : Aside0 (wr.heap[gb317]? = some (.cells #[.slice A1_0 l1_0.length c1_0] 29 (0, 0))) := ⟨by rw [← hq_]; exact (kb BK317.out)⟩; have n2_ : Aside0 (wr.heap[gb318]? = some (.cells #[.slice none 0 0, .int .i64 0] 32 (0, 0))) := ⟨by rw [← hq_]; exact (kb BK318.out)⟩; have n3_ : Aside0 (wr.heap[gb323]? = some (.cells #[u324000, .int .i64 t322] 32 (0, 0))) := ⟨by rw [← hq_]; exact (kb BK323.out)⟩; have n4_ : Aside0 (IsS107 w0 wr g s0_0 x1001_1 x1002_1) := ⟨by rw [← hq_]; exact (si HI0.out)⟩; have n5_ : Aside0 (KeepBut w wr g none) := ⟨by rw [← hq_]; exact (kp HK.out)⟩; have n6_ : Aside0 (Below w0.heap.size w0 wr) := ⟨by rw [← hq_]; exact (bi HB.out)⟩; clear HO_324000 BK317 BK318 BK323 HI0 HK HB hq_; have HO_324000 := n0_; have BK317 := n1_; have BK318 := n2_; have BK323 := n3_; have HI0 := n4_; have HK := n5_; have HB := n6_; clear n0_ n1_ n2_ n3_ n4_ n5_ n6_))) | ((with_reducible refine gate_callee (f := 60) rfl ?_); refine goesM_ (some 25) rfl rfl Try.func60 #[.pointer (some ⟨g, 0, none⟩), .int .i64 t334] ?_; (with_reducible refine (spec_l1Below.calls g s0_0 x1001_1 x1002_1 t334 t335 t336 t337 w0 _ ?side1 ?side2 A27.out).mono ?_); (case side1 => exact si HI0.out); (case side2 => exact bi HB.out); rintro e w86 ⟨rfl, hi, hb, hk⟩; refine ⟨_, rfl, ?_⟩; have n0_ := Aside0.mk (Kd.Q_mono (Kd.Q_keep (IsS107.apartQ (show IsS107 w0 _ g s0_0 x1001_1 x1002_1 from si HI0.out) (kq HO_324000.out) (by decide)) hk (fun _ h => h.2)) (fun _ h => h.1)); have n1_ := Aside0.mk (KeepBut.blk hk (g' := gb317) (o := .cells #[.slice A1_0 l1_0.length c1_0] 29 (0, 0)) (kb BK317.out) NB317_0.out (by simp)); have n2_ := Aside0.mk (KeepBut.blk hk (g' := gb318) (o := .cells #[.slice none 0 0, .int .i64 0] 32 (0, 0)) (kb BK318.out) NB318_0.out (by simp)); have n3_ := Aside0.mk (KeepBut.blk hk (g' := gb323) (o := .cells #[u324000, .int .i64 t322] 32 (0, 0)) (kb BK323.out) NB323_0.out (by simp)); have n4_ := Aside0.mk (KeepBut.trans (kp HK.out) hk (.inl rfl)); have n5_ := Aside0.mk (hb); have n6_ := Aside0.mk (hi); clear HO_324000; clear BK317; clear BK318; clear BK323; clear HK; clear HB; clear HI0; have HO_324000 := n0_; have BK317 := n1_; have BK318 := n2_; have BK323 := n3_; have HK := n4_; have HB := n5_; have HI0 := n6_; clear n0_ n1_ n2_ n3_ n4_ n5_ n6_; (try clear hb); (try clear hb2); (try clear hk); (try clear hi); have hnb87 := NB323_318.out; have hnc87 := NB318_323.out; have hnb88 := NB323_0.out; have hnc88 := NB0_323.out; have hcz89_0 : w86.cell? ⟨gb323, 0, none⟩ = some (u324000) := cl BK323 0; have hcz89_1 : w86.cell? ⟨gb323, 1, none⟩ = some (.int .i64 t322) := cl BK323 1; have hfz89_0 := blk_frozen BK323.out 0; have hfz89_1 := blk_frozen BK323.out 1) | ((with_reducible refine gate_callee (f := 60) rfl ?_); refine goesM_ (some 28) rfl rfl Try.func60 #[.pointer (some ⟨g, 0, none⟩), .int .i64 30] ?_; (with_reducible refine (spec_l1Below.calls g s0_0 t336 t337 30 t338 t339 t340 w0 _ ?side1 ?side2 A28.out).mono ?_); (case side1 => exact si HI0.out); (case side2 => exact bi HB.out); rintro e w90 ⟨rfl, hi, hb, hk⟩; refine ⟨_, rfl, ?_⟩; have n0_ := Aside0.mk (Kd.Q_mono (Kd.Q_keep (IsS107.apartQ (show IsS107 w0 _ g s0_0 t336 t337 from si HI0.out) (kq ((Kd.Q_mono (Kd.Q_far (p := ⟨gb323, 1, none⟩) (Kd.Q_types HO_324000.out BK323.out (by decide)) (fun _ hk => hk.2) (.int .i64 t335)) (fun _ h_ => h_.1)))) (by decide)) hk (fun _ h => h.2)) (fun _ h => h.1)); have n1_ := Aside0.mk (KeepBut.blk hk (g' := gb317) (o := .cells #[.slice A1_0 l1_0.length c1_0] 29 (0, 0)) (kf BK317.out) NB317_0.out (by simp)); have n2_ := Aside0.mk (KeepBut.blk hk (g' := gb318) (o := .cells #[.slice none 0 0, .int .i64 0] 32 (0, 0)) (kf BK318.out) NB318_0.out (by simp)); have n3_ := Aside0.mk (KeepBut.blk hk (g' := gb323) (o := .cells #[u324000, .int .i64 t335] 32 (0, 0)) (kt BK323.out) NB323_0.out (by simp)); have n4_ := Aside0.mk (KeepBut.trans (kp HK.out) hk (.inl rfl)); have n5_ := Aside0.mk (hb); have n6_ := Aside0.mk (hi); clear HO_324000; clear BK317; clear BK318; clear BK323; clear HK; clear HB; clear HI0; have HO_324000 := n0_; have BK317 := n1_; have BK318 := n2_; have BK323 := n3_; have HK := n4_; have HB := n5_; have HI0 := n6_; clear n0_ n1_ n2_ n3_ n4_ n5_ n6_; (try clear hb); (try clear hb2); (try clear hk); (try clear hi); have hcz91_0 : w90.cell? ⟨gb323, 0, none⟩ = some (u324000) := cl BK323 0; have hcz91_1 : w90.cell? ⟨gb323, 1, none⟩ = some (.int .i64 t335) := cl BK323 1; have hfz91_0 := blk_frozen BK323.out 0; have hfz91_1 := blk_frozen BK323.out 1; obtain ⟨Ao92, co92, eo92, _⟩ := Kd.Q_slice HO_324000.out; subst eo92; have hnb93 := NB318_0.out; have hnc93 := NB0_318.out; have hcz94_0 : w90.cell? ⟨gb318, 0, none⟩ = some (.slice none 0 0) := cl BK318 0; have hcz94_1 : w90.cell? ⟨gb318, 1, none⟩ = some (.int .i64 0) := cl BK318 1; have hfz94_0 := blk_frozen BK318.out 0; have hfz94_1 := blk_frozen BK318.out 1))
       refine bodyPost_ret (results_cell_row rfl _ _ gb318 32 #[.slice Ao92 x324000_1.length co92, .int .i64 t335] (0, 0) _ rfl (by (with_reducible repeat (first | refine blk_drewN ?_ _ | refine blk_drew ?_ | refine blk_alloc ?_ _)); refine blk_put (cs := #[.slice Ao92 x324000_1.length co92, .int .i64 0]) ?_ 1 _ rfl; (with_reducible repeat (first | refine blk_drewN ?_ _ | refine blk_drew ?_ | refine blk_alloc ?_ _)); refine blk_put (cs := #[.slice none 0 0, .int .i64 0]) ?_ 0 _ rfl; (with_reducible repeat (first | refine blk_drewN ?_ _ | refine blk_drew ?_ | refine blk_alloc ?_ _)); exact BK318.out) Try.underlying32 rfl (by kernel_rfl)) rfl ?_
       exact ⟨_, rt, kq (Kd.Q_mono (Kd.Q_far (p := ⟨gb318, 1, none⟩) (Kd.Q_far (p := ⟨gb318, 0, none⟩) (Kd.Q_types HO_324000.out BK318.out (by decide)) (fun _ hk => hk.2) (.slice Ao92 x324000_1.length co92)) (fun _ hk => hk.2) (.int .i64 t335)) (fun _ hk => trivial)), si HI0.out, bi HB.out, kp HK.out⟩

/-! ### spec_l6Draw: function 62 -/
def spec_l6Draw.f (k : Nat) (s0_0 : List Int) (s0_1 : Int) (s0_2 : Int) : Option ((List (List Int)) × List Int × Int × Int × Int) := (spec_l2DrawRight.f k s0_0 s0_1 s0_2).bind fun bt353 => ((spec_l1Once.f s0_0 bt353.2.1 bt353.2.2 20).bind fun bt359 => (if bt359.1 = true then ((spec_l2Draw.f k s0_0 bt359.2.1 bt359.2.2).bind fun bt362 => ((spec_l6DrawMem.f k s0_0 bt362.2.1 bt362.2.2 bt362.1).bind fun bt367 => (some (bt362.1, bt367.1, bt367.2.1, bt367.2.2.1, bt367.2.2.2)))) else ((spec_l6DrawMem.f k s0_0 bt359.2.1 bt359.2.2 bt353.1).bind fun bt373 => (some (bt353.1, bt373.1, bt373.2.1, bt373.2.2.1, bt373.2.2.2)))))
set_option maxHeartbeats 8000000 in
set_option maxRecDepth 100000 in
theorem spec_l6Draw.calls (k : Nat) (g : Nat) (s0_0 : List Int) (s0_1 : Int) (s0_2 : Int) (r1 : List (List Int)) (r2 : List Int) (r3 : Int) (r4 : Int) (r5 : Int) (w0 w : World) (hI : IsS107 w0 w g s0_0 s0_1 s0_2) (hB : Below w0.heap.size w0 w) (h : spec_l6Draw.f k s0_0 s0_1 s0_2 = some (r1, r2, r3, r4, r5)) :
  Calls Try.prog 62 #[.pointer (some ⟨g, 0, none⟩)] w fun e w' => ∃ v0_ v1_ : Value, e = .returned (.tuple #[.agg #[v0_], .agg #[v1_, .int .i64 r3]]) ∧ Kd.S (cutK 3 (Kd.int .i64)) 30 w' w.heap.size (fun k_ => some k_ ≠ (v1_ : Value).ownBlock) v0_ r1 ∧ Kd.Q (Kd.int .i64) 3 w' w.heap.size (fun _ => True) v1_ r2 ∧ IsS107 w0 w' g s0_0 r4 r5 ∧ Below w0.heap.size w0 w' ∧ KeepBut w w' g none := by
 have hu29 := Try.underlying29
 have hu32 := Try.underlying32
 have HI0 := Aside0.mk hI
 have HK := Aside0.mk (KeepBut.refl w g none)
 have HL := Aside0.mk hB.size
 clear hI
 have HW0 := Aside0.mk hB.size
 have HB := Aside0.mk hB
 clear hB
 have H : ((spec_l2DrawRight.f k s0_0 s0_1 s0_2).bind fun bt353 => ((spec_l1Once.f s0_0 bt353.2.1 bt353.2.2 20).bind fun bt359 => (if bt359.1 = true then ((spec_l2Draw.f k s0_0 bt359.2.1 bt359.2.2).bind fun bt362 => ((spec_l6DrawMem.f k s0_0 bt362.2.1 bt362.2.2 bt362.1).bind fun bt367 => (some (bt362.1, bt367.1, bt367.2.1, bt367.2.2.1, bt367.2.2.2)))) else ((spec_l6DrawMem.f k s0_0 bt359.2.1 bt359.2.2 bt353.1).bind fun bt373 => (some (bt353.1, bt373.1, bt373.2.1, bt373.2.2.1, bt373.2.2.2)))))) = some (r1, r2, r3, r4, r5) := h
 clear h
 replace H := Option.bind_eq_some_iff.mp H
 obtain ⟨⟨t353, t356, t357⟩, A20, H⟩ := H
 replace H : ((spec_l1Once.f s0_0 t356 t357 20).bind fun bt359 => (if bt359.1 = true then ((spec_l2Draw.f k s0_0 bt359.2.1 bt359.2.2).bind fun bt362 => ((spec_l6DrawMem.f k s0_0 bt362.2.1 bt362.2.2 bt362.1).bind fun bt367 => (some (bt362.1, bt367.1, bt367.2.1, bt367.2.2.1, bt367.2.2.2)))) else ((spec_l6DrawMem.f k s0_0 bt359.2.1 bt359.2.2 t353).bind fun bt373 => (some (t353, bt373.1, bt373.2.1, bt373.2.2.1, bt373.2.2.2))))) = some (r1, r2, r3, r4, r5) := H
 have A2 := Aside0.mk A20
 clear A20
 replace H := Option.bind_eq_some_iff.mp H
 obtain ⟨⟨t359, t360, t361⟩, A30, H⟩ := H
 replace H : (if t359 = true then ((spec_l2Draw.f k s0_0 t360 t361).bind fun bt362 => ((spec_l6DrawMem.f k s0_0 bt362.2.1 bt362.2.2 bt362.1).bind fun bt367 => (some (bt362.1, bt367.1, bt367.2.1, bt367.2.2.1, bt367.2.2.2)))) else ((spec_l6DrawMem.f k s0_0 t360 t361 t353).bind fun bt373 => (some (t353, bt373.1, bt373.2.1, bt373.2.2.1, bt373.2.2.2)))) = some (r1, r2, r3, r4, r5) := H
 have A3 := Aside0.mk A30
 clear A30
 by_cases c4 : t359 = true
 ·subst c4
  have H1 : ((spec_l2Draw.f k s0_0 t360 t361).bind fun bt362 => ((spec_l6DrawMem.f k s0_0 bt362.2.1 bt362.2.2 bt362.1).bind fun bt367 => (some (bt362.1, bt367.1, bt367.2.1, bt367.2.2.1, bt367.2.2.2)))) = some (r1, r2, r3, r4, r5) := by rw [if_pos rfl] at H; exact H
  clear H
  have H := H1
  clear H1
  replace H := Option.bind_eq_some_iff.mp H
  obtain ⟨⟨t362, t365, t366⟩, A50, H⟩ := H
  replace H : ((spec_l6DrawMem.f k s0_0 t365 t366 t362).bind fun bt367 => (some (t362, bt367.1, bt367.2.1, bt367.2.2.1, bt367.2.2.2))) = some (r1, r2, r3, r4, r5) := H
  have A5 := Aside0.mk A50
  clear A50
  replace H := Option.bind_eq_some_iff.mp H
  obtain ⟨⟨t367, t370, t371, t372⟩, A60, H⟩ := H
  replace H : (some (t362, t367, t370, t371, t372)) = some (r1, r2, r3, r4, r5) := H
  have A6 := Aside0.mk A60
  clear A60
  simp only [Option.some.injEq, Prod.mk.injEq] at H
  obtain ⟨rfl, rfl, rfl, rfl, rfl⟩ := H
  go_enter Try.func62, Try.ntmps62
  try go_wp2_with (first | ((with_reducible refine gate_dst (N := 2) rfl ?_); refine bx (N := 2) (cs := #[.slice none 0 0]) (t := 29) ?_; intro gb351 hg w7 hbox hb; have n0_ := Aside0.mk (IsS107.below (si HI0.out) hb); have n1_ := Aside0.mk (KeepBut.trans (kp HK.out) (KeepBut.of_below hb g none) (.inl rfl)); have n2_ := Aside0.mk (below_step (bi HB.out) hb); have n3_ := Aside0.mk (hbox); have n4_ := Aside0.mk ((by rw [hg]; exact (keep_size (w := w) (g := g) (row := none) (kp HK.out)) : w.heap.size ≤ gb351)); have n5_ := Aside0.mk ((Nat.le_trans HW0.out (by rw [hg]; exact (keep_size (w := w) (g := g) (row := none) (kp HK.out)) : w.heap.size ≤ gb351) : w0.heap.size ≤ gb351)); have n6_ := Aside0.mk ((by rw [hg]; exact Nat.ne_of_lt (IsS107.lt (show IsS107 w0 _ g s0_0 s0_1 s0_2 from si HI0.out)) : g ≠ gb351)); have n7_ := Aside0.mk ((by rw [hg]; exact Nat.ne_of_gt (IsS107.lt (show IsS107 w0 _ g s0_0 s0_1 s0_2 from si HI0.out)) : gb351 ≠ g)); clear HI0; clear HK; clear HB; have HI0 := n0_; have HK := n1_; have HB := n2_; have BK351 := n3_; have GW351 := n4_; have GE351 := n5_; have NB0_351 := n6_; have NB351_0 := n7_; clear n0_ n1_ n2_ n3_ n4_ n5_ n6_ n7_; clear hb hbox hg) | ((with_reducible refine gate_dst (N := 3) rfl ?_); refine bx (N := 3) (cs := #[.slice none 0 0, .int .i64 0]) (t := 32) ?_; intro gb352 hg w8 hbox hb; have n0_ := Aside0.mk (IsS107.below (si HI0.out) hb); have n1_ := Aside0.mk (blk_below (g := gb351) (o := .cells #[.slice none 0 0] 29 (0, 0)) (kb BK351.out) hb); have n2_ := Aside0.mk (KeepBut.trans (kp HK.out) (KeepBut.of_below hb g none) (.inl rfl)); have n3_ := Aside0.mk (below_step (bi HB.out) hb); have n4_ := Aside0.mk (hbox); have n5_ := Aside0.mk ((by rw [hg]; exact (keep_size (w := w) (g := g) (row := none) (kp HK.out)) : w.heap.size ≤ gb352)); have n6_ := Aside0.mk ((Nat.le_trans HW0.out (by rw [hg]; exact (keep_size (w := w) (g := g) (row := none) (kp HK.out)) : w.heap.size ≤ gb352) : w0.heap.size ≤ gb352)); have n7_ := Aside0.mk ((ga hg BK351.out)); have n8_ := Aside0.mk ((gc hg BK351.out)); have n9_ := Aside0.mk ((by rw [hg]; exact Nat.ne_of_lt (IsS107.lt (show IsS107 w0 _ g s0_0 s0_1 s0_2 from si HI0.out)) : g ≠ gb352)); have n10_ := Aside0.mk ((by rw [hg]; exact Nat.ne_of_gt (IsS107.lt (show IsS107 w0 _ g s0_0 s0_1 s0_2 from si HI0.out)) : gb352 ≠ g)); clear HI0; clear BK351; clear HK; clear HB; have HI0 := n0_; have BK351 := n1_; have HK := n2_; have HB := n3_; have BK352 := n4_; have GW352 := n5_; have GE352 := n6_; have NB351_352 := n7_; have NB352_351 := n8_; have NB0_352 := n9_; have NB352_0 := n10_; clear n0_ n1_ n2_ n3_ n4_ n5_ n6_ n7_ n8_ n9_ n10_; clear hb hbox hg) | ((with_reducible refine gate_callee (f := 69) rfl ?_); refine goesM_ (some 6) rfl rfl Try.func69 #[.pointer (some ⟨g, 0, none⟩)] ?_; (with_reducible refine (spec_l2DrawRight.callsC k g s0_0 s0_1 s0_2 t353 t356 t357 w0 _ ?side1 ?side2 A2.out).mono ?_); (case side1 => exact si HI0.out); (case side2 => exact bi HB.out); rintro e w9 ⟨v354, rfl, ho0, hi, hb, hk⟩; refine ⟨_, rfl, ?_⟩; have n0_ := Aside0.mk (KeepBut.blk hk (g' := gb351) (o := .cells #[.slice none 0 0] 29 (0, 0)) (kb BK351.out) NB351_0.out (by simp)); have n1_ := Aside0.mk (KeepBut.blk hk (g' := gb352) (o := .cells #[.slice none 0 0, .int .i64 0] 32 (0, 0)) (kb BK352.out) NB352_0.out (by simp)); have n2_ := Aside0.mk (Kd.S_lower ho0 (keep_size (w := w) (g := g) (row := none) (kp HK.out))); have n3_ := Aside0.mk (KeepBut.trans (kp HK.out) hk (.inl rfl)); have n4_ := Aside0.mk (hb); have n5_ := Aside0.mk (hi); clear BK351; clear BK352; clear HK; clear HB; clear HI0; have BK351 := n0_; have BK352 := n1_; have HO355 := n2_; have HK := n3_; have HB := n4_; have HI0 := n5_; clear n0_ n1_ n2_ n3_ n4_ n5_; (try clear hb); (try clear hb2); (try clear hk); (try clear hi); (try clear ho0)) | ((with_reducible refine gate_dst (N := 4) rfl ?_); refine bx (N := 4) (cs := #[.slice none 0 0]) (t := 29) ?_; intro gb358 hg w10 hbox hb; have n0_ := Aside0.mk (Kd.S_below (ks HO355.out) hb); have n1_ := Aside0.mk (IsS107.below (si HI0.out) hb); have n2_ := Aside0.mk (blk_below (g := gb351) (o := .cells #[.slice none 0 0] 29 (0, 0)) (kb BK351.out) hb); have n3_ := Aside0.mk (blk_below (g := gb352) (o := .cells #[.slice none 0 0, .int .i64 0] 32 (0, 0)) (kb BK352.out) hb); have n4_ := Aside0.mk (KeepBut.trans (kp HK.out) (KeepBut.of_below hb g none) (.inl rfl)); have n5_ := Aside0.mk (below_step (bi HB.out) hb); have n6_ := Aside0.mk (hbox); have n7_ := Aside0.mk ((by rw [hg]; exact (keep_size (w := w) (g := g) (row := none) (kp HK.out)) : w.heap.size ≤ gb358)); have n8_ := Aside0.mk ((Nat.le_trans HW0.out (by rw [hg]; exact (keep_size (w := w) (g := g) (row := none) (kp HK.out)) : w.heap.size ≤ gb358) : w0.heap.size ≤ gb358)); have n9_ := Aside0.mk ((ga hg BK351.out)); have n10_ := Aside0.mk ((gc hg BK351.out)); have n11_ := Aside0.mk ((ga hg BK352.out)); have n12_ := Aside0.mk ((gc hg BK352.out)); have n13_ := Aside0.mk ((by rw [hg]; exact Nat.ne_of_lt (IsS107.lt (show IsS107 w0 _ g s0_0 t356 t357 from si HI0.out)) : g ≠ gb358)); have n14_ := Aside0.mk ((by rw [hg]; exact Nat.ne_of_gt (IsS107.lt (show IsS107 w0 _ g s0_0 t356 t357 from si HI0.out)) : gb358 ≠ g)); clear HO355; clear HI0; clear BK351; clear BK352; clear HK; clear HB; have HO355 := n0_; have HI0 := n1_; have BK351 := n2_; have BK352 := n3_; have HK := n4_; have HB := n5_; have BK358 := n6_; have GW358 := n7_; have GE358 := n8_; have NB351_358 := n9_; have NB358_351 := n10_; have NB352_358 := n11_; have NB358_352 := n12_; have NB0_358 := n13_; have NB358_0 := n14_; clear n0_ n1_ n2_ n3_ n4_ n5_ n6_ n7_ n8_ n9_ n10_ n11_ n12_ n13_ n14_; clear hb hbox hg; obtain ⟨Ao11, co11, eo11⟩ := Kd.S_slice HO355.out; subst eo11; have hnb12 := NB358_351.out; have hnc12 := NB351_358.out; have hnb13 := NB358_352.out; have hnc13 := NB352_358.out; have hnb14 := NB358_0.out; have hnc14 := NB0_358.out; have hcz15_0 : w10.cell? ⟨gb358, 0, none⟩ = some (.slice none 0 0) := cl BK358 0; have hfz15_0 := blk_frozen BK358.out 0) | ((with_reducible refine gate_callee (f := 58) rfl ?_); refine goesM_ (some 8) rfl rfl Try.func58 #[.pointer (some ⟨g, 0, none⟩), .int .i64 20] ?_; (with_reducible refine (spec_l1Once.calls g s0_0 t356 t357 20 true t360 t361 w0 _ ?side1 ?side2 A3.out).mono ?_); (case side1 => exact si HI0.out); (case side2 => exact bi HB.out); rintro e w16 ⟨rfl, hi, hb, hk⟩; refine ⟨_, rfl, ?_⟩; have n0_ := Aside0.mk (KeepBut.blk hk (g' := gb351) (o := .cells #[.slice none 0 0] 29 (0, 0)) (kf BK351.out) NB351_0.out (by simp)); have n1_ := Aside0.mk (KeepBut.blk hk (g' := gb352) (o := .cells #[.slice none 0 0, .int .i64 0] 32 (0, 0)) (kf BK352.out) NB352_0.out (by simp)); have n2_ := Aside0.mk (Kd.S_mono (Kd.S_keep (IsS107.apartS (show IsS107 w0 _ g s0_0 t356 t357 from si HI0.out) (ks ((Kd.S_mono (Kd.S_far (p := ⟨gb358, 0, none⟩) (Kd.S_types HO355.out BK358.out (by decide)) (fun _ hk => hk.2) (.slice Ao11 t353.length co11)) (fun _ h_ => h_.1)))) (by decide)) hk (fun _ h => h.2)) (fun _ h => h.1)); have n3_ := Aside0.mk (KeepBut.blk hk (g' := gb358) (o := .cells #[.slice Ao11 t353.length co11] 29 (0, 0)) (kt BK358.out) NB358_0.out (by simp)); have n4_ := Aside0.mk (KeepBut.trans (kp HK.out) hk (.inl rfl)); have n5_ := Aside0.mk (hb); have n6_ := Aside0.mk (hi); clear BK351; clear BK352; clear HO355; clear BK358; clear HK; clear HB; clear HI0; have BK351 := n0_; have BK352 := n1_; have HO355 := n2_; have BK358 := n3_; have HK := n4_; have HB := n5_; have HI0 := n6_; clear n0_ n1_ n2_ n3_ n4_ n5_ n6_; (try clear hb); (try clear hb2); (try clear hk); (try clear hi)) | ((with_reducible refine gate_callee (f := 65) rfl ?_); refine goesM_ (some 10) rfl rfl Try.func65 #[.pointer (some ⟨g, 0, none⟩)] ?_; (with_reducible refine (spec_l2Draw.calls k g s0_0 t360 t361 t362 t365 t366 w0 _ ?side1 ?side2 A5.out).mono ?_); (case side1 => exact si HI0.out); (case side2 => exact bi HB.out); rintro e w17 ⟨v363, rfl, ho0, hi, hb, hk⟩; refine ⟨_, rfl, ?_⟩; have n0_ := Aside0.mk (KeepBut.blk hk (g' := gb351) (o := .cells #[.slice none 0 0] 29 (0, 0)) (kb BK351.out) NB351_0.out (by simp)); have n1_ := Aside0.mk (KeepBut.blk hk (g' := gb352) (o := .cells #[.slice none 0 0, .int .i64 0] 32 (0, 0)) (kb BK352.out) NB352_0.out (by simp)); have n2_ := Aside0.mk (Kd.S_mono (Kd.S_told (Kd.S_oldK (IsS107.apartS (show IsS107 w0 _ g s0_0 t360 t361 from si HI0.out) (ks HO355.out) (by decide)) hk) (Kd.S_base ho0)) (fun _ h_ => h_.1)); have n3_ := Aside0.mk (KeepBut.blk hk (g' := gb358) (o := .cells #[.slice Ao11 t353.length co11] 29 (0, 0)) (kb BK358.out) NB358_0.out (by simp)); have n4_ := Aside0.mk (Kd.S_lower (Kd.S_new' ho0 (Kd.S_lt (ks HO355.out))) (keep_size (w := w) (g := g) (row := none) (kp HK.out))); have n5_ := Aside0.mk (KeepBut.trans (kp HK.out) hk (.inl rfl)); have n6_ := Aside0.mk (hb); have n7_ := Aside0.mk (hi); clear BK351; clear BK352; clear HO355; clear BK358; clear HK; clear HB; clear HI0; have BK351 := n0_; have BK352 := n1_; have HO355 := n2_; have BK358 := n3_; have HO364 := n4_; have HK := n5_; have HB := n6_; have HI0 := n7_; clear n0_ n1_ n2_ n3_ n4_ n5_ n6_ n7_; (try clear hb); (try clear hb2); (try clear hk); (try clear hi); (try clear ho0); obtain ⟨Ao18, co18, eo18⟩ := Kd.S_slice HO364.out; subst eo18; have hcz19_0 : w17.cell? ⟨gb358, 0, none⟩ = some (.slice Ao11 t353.length co11) := cl BK358 0; have hfz19_0 := blk_frozen BK358.out 0))
  have n0_ : Aside0 (Kd.S (cutK 3 (Kd.int .i64)) 30 (w17.setCell ⟨gb358, 0, none⟩ (.slice Ao18 t362.length co18)) w.heap.size (fun k_ => some k_ ≠ (.slice Ao18 t362.length co18 : Value).ownBlock) (.slice Ao11 t353.length co11) t353) := ⟨ks (Kd.S_mono (Kd.S_far (p := ⟨gb358, 0, none⟩) (Kd.S_types HO355.out BK358.out (by decide)) (fun _ hk => hk.2) (.slice Ao18 t362.length co18)) (fun _ hk => hk.1.2))⟩
  have n1_ : Aside0 (Kd.S (cutK 3 (Kd.int .i64)) 30 (w17.setCell ⟨gb358, 0, none⟩ (.slice Ao18 t362.length co18)) w.heap.size (fun k_ => some k_ ≠ (.slice Ao11 t353.length co11 : Value).ownBlock) (.slice Ao18 t362.length co18) t362) := ⟨ks (Kd.S_mono (Kd.S_far (p := ⟨gb358, 0, none⟩) (Kd.S_types HO364.out BK358.out (by decide)) (fun _ hk => hk.2) (.slice Ao18 t362.length co18)) (fun _ hk => hk.1.2))⟩
  have n2_ : Aside0 ((w17.setCell ⟨gb358, 0, none⟩ (.slice Ao18 t362.length co18)).heap[gb351]? = some (.cells #[.slice none 0 0] 29 (0, 0))) := ⟨kf BK351.out⟩
  have n3_ : Aside0 ((w17.setCell ⟨gb358, 0, none⟩ (.slice Ao18 t362.length co18)).heap[gb352]? = some (.cells #[.slice none 0 0, .int .i64 0] 32 (0, 0))) := ⟨kf BK352.out⟩
  have n4_ : Aside0 ((w17.setCell ⟨gb358, 0, none⟩ (.slice Ao18 t362.length co18)).heap[gb358]? = some (.cells #[.slice Ao18 t362.length co18] 29 (0, 0))) := ⟨kt BK358.out⟩
  have n5_ : Aside0 (IsS107 w0 (w17.setCell ⟨gb358, 0, none⟩ (.slice Ao18 t362.length co18)) g s0_0 t365 t366) := ⟨si HI0.out⟩
  have n6_ : Aside0 (KeepBut w (w17.setCell ⟨gb358, 0, none⟩ (.slice Ao18 t362.length co18)) g none) := ⟨kp HK.out⟩
  have n7_ : Aside0 (Below w0.heap.size w0 (w17.setCell ⟨gb358, 0, none⟩ (.slice Ao18 t362.length co18))) := ⟨bi HB.out⟩
  (try clear HO355); (try clear HO364); (try clear BK351); (try clear BK352); (try clear BK358); (try clear HI0); (try clear HK); (try clear HB)
  generalize (w17.setCell ⟨gb358, 0, none⟩ (.slice Ao18 t362.length co18)) = w20 at n0_ n1_ n2_ n3_ n4_ n5_ n6_ n7_ ⊢
  have HO355 := n0_; have HO364 := n1_; have BK351 := n2_; have BK352 := n3_; have BK358 := n4_; have HI0 := n5_; have HK := n6_; have HB := n7_; clear n0_ n1_ n2_ n3_ n4_ n5_ n6_ n7_
  have n0_ := Aside0.mk (Kd.S_drew HO355.out)
  have n1_ := Aside0.mk (Kd.S_drew HO364.out)
  have n2_ := Aside0.mk (blk_drew BK351.out)
  have n3_ := Aside0.mk (blk_drew BK352.out)
  have n4_ := Aside0.mk (blk_drew BK358.out)
  have n5_ := Aside0.mk (IsS107.drew HI0.out)
  have n6_ := Aside0.mk (keep_drew HK.out)
  have n7_ := Aside0.mk (below_drew1 HB.out)
  clear HO355; clear HO364; clear BK351; clear BK352; clear BK358; clear HI0; clear HK; clear HB; have HO355 := n0_; have HO364 := n1_; have BK351 := n2_; have BK352 := n3_; have BK358 := n4_; have HI0 := n5_; have HK := n6_; have HB := n7_; clear n0_ n1_ n2_ n3_ n4_ n5_ n6_ n7_
  refine start_ (n := 6) (S := fun w' => w'.cell? ⟨gb358, 0, none⟩ = some (.slice Ao18 t362.length co18)) (ds := []) (bm 6 0) (by kernel_rfl) rfl (by kernel_rfl) (cl BK358 0) (fun hHeld => ?_)
  generalize w20.drew = w21 at HO355 HO364 BK351 BK352 BK358 HI0 HK HB hHeld ⊢
  refine pv_ 1 (some 12) (bm 6 2) ?_
  refine tv_ 0 (some 11) (bm 6 3) hHeld ?_
  refine tv_ 2 (some 13) (bm 6 7) hHeld ?_
  refine ov_ 3 (some 14) (bm 6 15) (fun K hK => ?_)
  refine gw_ Try.func103 #[.pointer (some ⟨g, 0, none⟩), .agg #[.slice Ao18 t362.length co18]] ?_
  with_reducible refine (spec_l6DrawMem.calls k g s0_0 t365 t366 _ _ t362 t367 t370 t371 t372 w0 _ ?side1 ?side2 ?side3 ?side4 A6.out).mono ?_
  (case side1 => exact si HI0.out)
  (case side2 => exact bi HB.out)
  (case side3 => exact (Kd.C_foot_own ((Kd.S_R (IsS107.apartS (show IsS107 w0 _ g s0_0 t365 t366 from si HI0.out) (ks HO364.out) (by decide)))) (fun _ h_ => h_.2) :))
  (case side4 => exact (Kd.S_reads' HO364.out).2.1)
  rintro e w22 ⟨v368, rfl, ho0, hi, hb, hk⟩
  refine ⟨_, rfl, ?_⟩
  have n0_ := Aside0.mk (KeepBut.blk hk (g' := gb351) (o := .cells #[.slice none 0 0] 29 (0, 0)) (kb BK351.out) NB351_0.out (by simp))
  have n1_ := Aside0.mk (KeepBut.blk hk (g' := gb352) (o := .cells #[.slice none 0 0, .int .i64 0] 32 (0, 0)) (kb BK352.out) NB352_0.out (by simp))
  have n2_ := Aside0.mk (Kd.S_mono (Kd.S_told (Kd.S_oldK (IsS107.apartS (show IsS107 w0 _ g s0_0 t365 t366 from si HI0.out) (ks HO355.out) (by decide)) hk) (Kd.Q_base ho0)) (fun _ h_ => h_.1))
  have n3_ := Aside0.mk (KeepBut.blk hk (g' := gb358) (o := .cells #[.slice Ao18 t362.length co18] 29 (0, 0)) (kb BK358.out) NB358_0.out (by simp))
  have n4_ := Aside0.mk (Kd.S_mono (Kd.S_told (Kd.S_oldK (IsS107.apartS (show IsS107 w0 _ g s0_0 t365 t366 from si HI0.out) (ks HO364.out) (by decide)) hk) (Kd.Q_base ho0)) (fun _ h_ => h_.1))
  have n5_ := Aside0.mk (Kd.Q_lower ho0 (keep_size (w := w) (g := g) (row := none) (kp HK.out)))
  have n6_ := Aside0.mk (KeepBut.trans (kp HK.out) hk (.inl rfl))
  have n7_ := Aside0.mk (hb)
  have n8_ := Aside0.mk (hi)
  clear BK351; clear BK352; clear HO355; clear BK358; clear HO364; clear HK; clear HB; clear HI0; have BK351 := n0_; have BK352 := n1_; have HO355 := n2_; have BK358 := n3_; have HO364 := n4_; have HO369 := n5_; have HK := n6_; have HB := n7_; have HI0 := n8_; clear n0_ n1_ n2_ n3_ n4_ n5_ n6_ n7_ n8_; (try clear hb); (try clear hb2); (try clear hk); (try clear hi); (try clear ho0)
  obtain ⟨Ao24, co24, eo24, _⟩ := Kd.Q_slice HO369.out
  (first | subst eo24 | (injection eo24 with f1_ f2_ f3_; have f4_ := f1_.symm; have f5_ := f3_.symm; clear f1_ f2_ f3_; subst f4_; subst f5_))
  refine hK.out _ _ (cl BK358 0) (fun hHeld => ?_)
  clear hK K
  refine nw_ ?_
  refine ov_ 4 none (bm 6 31) (fun K hK => ?_)
  have hs23 : w22.cell? ⟨gb351, 0, none⟩ = some (.slice none 0 0) := cl BK351 0
  have hfs23 := blk_frozen BK351.out 0
  have hns23_1 := NB352_351.out
  have hns23_2 := NB358_351.out
  have hms23_1 := NB351_352.out
  have hms23_2 := NB351_358.out
  refine skip_ (w1 := ?_) (by rfl) rfl ?_ ?_
  rotate_left
  ·go_simp
   rfl
  refine hK.out _ _ (((cell_far (p := ⟨gb351, _, none⟩) NB358_351.out _).trans (hHeld))) (fun hHeld => ?_)
  clear hK K
  refine ov_ 5 none (bm 6 63) (fun K hK => ?_)
  have hs25 : w22.cell? ⟨gb352, 0, none⟩ = some (.slice none 0 0) := cl BK352 0
  have hfs25 := blk_frozen BK352.out 0
  have hns25_0 := NB351_352.out
  have hns25_2 := NB358_352.out
  have hms25_0 := NB352_351.out
  have hms25_2 := NB352_358.out
  have hs26 : w22.cell? ⟨gb352, 1, none⟩ = some (.int .i64 0) := cl BK352 1
  have hfs26 := blk_frozen BK352.out 1
  have hns26_0 := NB351_352.out
  have hns26_2 := NB358_352.out
  have hms26_0 := NB352_351.out
  have hms26_2 := NB352_358.out
  refine skip_ (w1 := ?_) (by rfl) rfl ?_ ?_
  rotate_left
  ·go_simp
   rfl
  refine hK.out _ _ (((cell_far (p := ⟨gb352, _, none⟩) NB358_352.out _).trans (((cell_far (p := ⟨gb352, _, none⟩) NB358_352.out _).trans (hHeld))))) (fun hHeld => ?_)
  clear hK K
  refine done_ (by kernel_rfl) ?_
  try go_wp2
  refine bodyPost_ret (results_cc rfl _ _ gb351 gb352 29 32 #[.slice Ao18 t362.length co18] #[.slice Ao24 t367.length co24, .int .i64 t370] (0, 0) (0, 0) _ _ rfl (by (with_reducible repeat (first | refine blk_drewN ?_ _ | refine blk_drew ?_ | refine blk_alloc ?_ _)); refine blk_far ?_ NB351_352.out _; (with_reducible repeat (first | refine blk_drewN ?_ _ | refine blk_drew ?_ | refine blk_alloc ?_ _)); refine blk_far ?_ NB351_352.out _; (with_reducible repeat (first | refine blk_drewN ?_ _ | refine blk_drew ?_ | refine blk_alloc ?_ _)); refine blk_put (cs := #[.slice none 0 0]) ?_ 0 _ rfl; (with_reducible repeat (first | refine blk_drewN ?_ _ | refine blk_drew ?_ | refine blk_alloc ?_ _)); exact BK351.out) Try.underlying29 rfl (by kernel_rfl) rfl (by (with_reducible repeat (first | refine blk_drewN ?_ _ | refine blk_drew ?_ | refine blk_alloc ?_ _)); refine blk_put (cs := #[.slice Ao24 t367.length co24, .int .i64 0]) ?_ 1 _ rfl; (with_reducible repeat (first | refine blk_drewN ?_ _ | refine blk_drew ?_ | refine blk_alloc ?_ _)); refine blk_put (cs := #[.slice none 0 0, .int .i64 0]) ?_ 0 _ rfl; (with_reducible repeat (first | refine blk_drewN ?_ _ | refine blk_drew ?_ | refine blk_alloc ?_ _)); refine blk_far ?_ NB352_351.out _; (with_reducible repeat (first | refine blk_drewN ?_ _ | refine blk_drew ?_ | refine blk_alloc ?_ _)); exact BK352.out) Try.underlying32 rfl (by kernel_rfl)) rfl ?_
  exact ⟨_, _, rt, ks (Kd.S_mono (Kd.S_far (p := ⟨gb352, 1, none⟩) (Kd.S_far (p := ⟨gb352, 0, none⟩) (Kd.S_far (p := ⟨gb351, 0, none⟩) (Kd.S_types (Kd.S_types HO364.out BK351.out (by decide)) BK352.out (by decide)) (fun _ hk => hk.1.2) (.slice Ao18 t362.length co18)) (fun _ hk => hk.2) (.slice Ao24 t367.length co24)) (fun _ hk => hk.2) (.int .i64 t370)) (fun _ hk => hk.1.1.2)), kq (Kd.Q_mono (Kd.Q_far (p := ⟨gb352, 1, none⟩) (Kd.Q_far (p := ⟨gb352, 0, none⟩) (Kd.Q_far (p := ⟨gb351, 0, none⟩) (Kd.Q_types (Kd.Q_types HO369.out BK351.out (by decide)) BK352.out (by decide)) (fun _ hk => hk.1.2) (.slice Ao18 t362.length co18)) (fun _ hk => hk.2) (.slice Ao24 t367.length co24)) (fun _ hk => hk.2) (.int .i64 t370)) (fun _ hk => trivial)), si HI0.out, bi HB.out, kp HK.out⟩
 ·replace c4 := Bool.eq_false_iff.mpr c4
  subst c4
  have H1 : ((spec_l6DrawMem.f k s0_0 t360 t361 t353).bind fun bt373 => (some (t353, bt373.1, bt373.2.1, bt373.2.2.1, bt373.2.2.2))) = some (r1, r2, r3, r4, r5) := by rw [if_neg (show ¬ (false = true) by decide)] at H; exact H
  clear H
  have H := H1
  clear H1
  replace H := Option.bind_eq_some_iff.mp H
  obtain ⟨⟨t373, t376, t377, t378⟩, A270, H⟩ := H
  replace H : (some (t353, t373, t376, t377, t378)) = some (r1, r2, r3, r4, r5) := H
  have A27 := Aside0.mk A270
  clear A270
  simp only [Option.some.injEq, Prod.mk.injEq] at H
  obtain ⟨rfl, rfl, rfl, rfl, rfl⟩ := H
  go_enter Try.func62, Try.ntmps62
  try go_wp2_with (first | ((with_reducible refine gate_dst (N := 2) rfl ?_); refine bx (N := 2) (cs := #[.slice none 0 0]) (t := 29) ?_; intro gb351 hg w28 hbox hb; have n0_ := Aside0.mk (IsS107.below (si HI0.out) hb); have n1_ := Aside0.mk (KeepBut.trans (kp HK.out) (KeepBut.of_below hb g none) (.inl rfl)); have n2_ := Aside0.mk (below_step (bi HB.out) hb); have n3_ := Aside0.mk (hbox); have n4_ := Aside0.mk ((by rw [hg]; exact (keep_size (w := w) (g := g) (row := none) (kp HK.out)) : w.heap.size ≤ gb351)); have n5_ := Aside0.mk ((Nat.le_trans HW0.out (by rw [hg]; exact (keep_size (w := w) (g := g) (row := none) (kp HK.out)) : w.heap.size ≤ gb351) : w0.heap.size ≤ gb351)); have n6_ := Aside0.mk ((by rw [hg]; exact Nat.ne_of_lt (IsS107.lt (show IsS107 w0 _ g s0_0 s0_1 s0_2 from si HI0.out)) : g ≠ gb351)); have n7_ := Aside0.mk ((by rw [hg]; exact Nat.ne_of_gt (IsS107.lt (show IsS107 w0 _ g s0_0 s0_1 s0_2 from si HI0.out)) : gb351 ≠ g)); clear HI0; clear HK; clear HB; have HI0 := n0_; have HK := n1_; have HB := n2_; have BK351 := n3_; have GW351 := n4_; have GE351 := n5_; have NB0_351 := n6_; have NB351_0 := n7_; clear n0_ n1_ n2_ n3_ n4_ n5_ n6_ n7_; clear hb hbox hg) | ((with_reducible refine gate_dst (N := 3) rfl ?_); refine bx (N := 3) (cs := #[.slice none 0 0, .int .i64 0]) (t := 32) ?_; intro gb352 hg w29 hbox hb; have n0_ := Aside0.mk (IsS107.below (si HI0.out) hb); have n1_ := Aside0.mk (blk_below (g := gb351) (o := .cells #[.slice none 0 0] 29 (0, 0)) (kb BK351.out) hb); have n2_ := Aside0.mk (KeepBut.trans (kp HK.out) (KeepBut.of_below hb g none) (.inl rfl)); have n3_ := Aside0.mk (below_step (bi HB.out) hb); have n4_ := Aside0.mk (hbox); have n5_ := Aside0.mk ((by rw [hg]; exact (keep_size (w := w) (g := g) (row := none) (kp HK.out)) : w.heap.size ≤ gb352)); have n6_ := Aside0.mk ((Nat.le_trans HW0.out (by rw [hg]; exact (keep_size (w := w) (g := g) (row := none) (kp HK.out)) : w.heap.size ≤ gb352) : w0.heap.size ≤ gb352)); have n7_ := Aside0.mk ((ga hg BK351.out)); have n8_ := Aside0.mk ((gc hg BK351.out)); have n9_ := Aside0.mk ((by rw [hg]; exact Nat.ne_of_lt (IsS107.lt (show IsS107 w0 _ g s0_0 s0_1 s0_2 from si HI0.out)) : g ≠ gb352)); have n10_ := Aside0.mk ((by rw [hg]; exact Nat.ne_of_gt (IsS107.lt (show IsS107 w0 _ g s0_0 s0_1 s0_2 from si HI0.out)) : gb352 ≠ g)); clear HI0; clear BK351; clear HK; clear HB; have HI0 := n0_; have BK351 := n1_; have HK := n2_; have HB := n3_; have BK352 := n4_; have GW352 := n5_; have GE352 := n6_; have NB351_352 := n7_; have NB352_351 := n8_; have NB0_352 := n9_; have NB352_0 := n10_; clear n0_ n1_ n2_ n3_ n4_ n5_ n6_ n7_ n8_ n9_ n10_; clear hb hbox hg) | ((with_reducible refine gate_callee (f := 69) rfl ?_); refine goesM_ (some 6) rfl rfl Try.func69 #[.pointer (some ⟨g, 0, none⟩)] ?_; (with_reducible refine (spec_l2DrawRight.callsC k g s0_0 s0_1 s0_2 t353 t356 t357 w0 _ ?side1 ?side2 A2.out).mono ?_); (case side1 => exact si HI0.out); (case side2 => exact bi HB.out); rintro e w30 ⟨v354, rfl, ho0, hi, hb, hk⟩; refine ⟨_, rfl, ?_⟩; have n0_ := Aside0.mk (KeepBut.blk hk (g' := gb351) (o := .cells #[.slice none 0 0] 29 (0, 0)) (kb BK351.out) NB351_0.out (by simp)); have n1_ := Aside0.mk (KeepBut.blk hk (g' := gb352) (o := .cells #[.slice none 0 0, .int .i64 0] 32 (0, 0)) (kb BK352.out) NB352_0.out (by simp)); have n2_ := Aside0.mk (Kd.S_lower ho0 (keep_size (w := w) (g := g) (row := none) (kp HK.out))); have n3_ := Aside0.mk (KeepBut.trans (kp HK.out) hk (.inl rfl)); have n4_ := Aside0.mk (hb); have n5_ := Aside0.mk (hi); clear BK351; clear BK352; clear HK; clear HB; clear HI0; have BK351 := n0_; have BK352 := n1_; have HO355 := n2_; have HK := n3_; have HB := n4_; have HI0 := n5_; clear n0_ n1_ n2_ n3_ n4_ n5_; (try clear hb); (try clear hb2); (try clear hk); (try clear hi); (try clear ho0)) | ((with_reducible refine gate_dst (N := 4) rfl ?_); refine bx (N := 4) (cs := #[.slice none 0 0]) (t := 29) ?_; intro gb358 hg w31 hbox hb; have n0_ := Aside0.mk (Kd.S_below (ks HO355.out) hb); have n1_ := Aside0.mk (IsS107.below (si HI0.out) hb); have n2_ := Aside0.mk (blk_below (g := gb351) (o := .cells #[.slice none 0 0] 29 (0, 0)) (kb BK351.out) hb); have n3_ := Aside0.mk (blk_below (g := gb352) (o := .cells #[.slice none 0 0, .int .i64 0] 32 (0, 0)) (kb BK352.out) hb); have n4_ := Aside0.mk (KeepBut.trans (kp HK.out) (KeepBut.of_below hb g none) (.inl rfl)); have n5_ := Aside0.mk (below_step (bi HB.out) hb); have n6_ := Aside0.mk (hbox); have n7_ := Aside0.mk ((by rw [hg]; exact (keep_size (w := w) (g := g) (row := none) (kp HK.out)) : w.heap.size ≤ gb358)); have n8_ := Aside0.mk ((Nat.le_trans HW0.out (by rw [hg]; exact (keep_size (w := w) (g := g) (row := none) (kp HK.out)) : w.heap.size ≤ gb358) : w0.heap.size ≤ gb358)); have n9_ := Aside0.mk ((ga hg BK351.out)); have n10_ := Aside0.mk ((gc hg BK351.out)); have n11_ := Aside0.mk ((ga hg BK352.out)); have n12_ := Aside0.mk ((gc hg BK352.out)); have n13_ := Aside0.mk ((by rw [hg]; exact Nat.ne_of_lt (IsS107.lt (show IsS107 w0 _ g s0_0 t356 t357 from si HI0.out)) : g ≠ gb358)); have n14_ := Aside0.mk ((by rw [hg]; exact Nat.ne_of_gt (IsS107.lt (show IsS107 w0 _ g s0_0 t356 t357 from si HI0.out)) : gb358 ≠ g)); clear HO355; clear HI0; clear BK351; clear BK352; clear HK; clear HB; have HO355 := n0_; have HI0 := n1_; have BK351 := n2_; have BK352 := n3_; have HK := n4_; have HB := n5_; have BK358 := n6_; have GW358 := n7_; have GE358 := n8_; have NB351_358 := n9_; have NB358_351 := n10_; have NB352_358 := n11_; have NB358_352 := n12_; have NB0_358 := n13_; have NB358_0 := n14_; clear n0_ n1_ n2_ n3_ n4_ n5_ n6_ n7_ n8_ n9_ n10_ n11_ n12_ n13_ n14_; clear hb hbox hg; obtain ⟨Ao32, co32, eo32⟩ := Kd.S_slice HO355.out; subst eo32; have hnb33 := NB358_351.out; have hnc33 := NB351_358.out; have hnb34 := NB358_352.out; have hnc34 := NB352_358.out; have hnb35 := NB358_0.out; have hnc35 := NB0_358.out; have hcz36_0 : w31.cell? ⟨gb358, 0, none⟩ = some (.slice none 0 0) := cl BK358 0; have hfz36_0 := blk_frozen BK358.out 0) | ((with_reducible refine gate_callee (f := 58) rfl ?_); refine goesM_ (some 8) rfl rfl Try.func58 #[.pointer (some ⟨g, 0, none⟩), .int .i64 20] ?_; (with_reducible refine (spec_l1Once.calls g s0_0 t356 t357 20 false t360 t361 w0 _ ?side1 ?side2 A3.out).mono ?_); (case side1 => exact si HI0.out); (case side2 => exact bi HB.out); rintro e w37 ⟨rfl, hi, hb, hk⟩; refine ⟨_, rfl, ?_⟩; have n0_ := Aside0.mk (KeepBut.blk hk (g' := gb351) (o := .cells #[.slice none 0 0] 29 (0, 0)) (kf BK351.out) NB351_0.out (by simp)); have n1_ := Aside0.mk (KeepBut.blk hk (g' := gb352) (o := .cells #[.slice none 0 0, .int .i64 0] 32 (0, 0)) (kf BK352.out) NB352_0.out (by simp)); have n2_ := Aside0.mk (Kd.S_mono (Kd.S_keep (IsS107.apartS (show IsS107 w0 _ g s0_0 t356 t357 from si HI0.out) (ks ((Kd.S_mono (Kd.S_far (p := ⟨gb358, 0, none⟩) (Kd.S_types HO355.out BK358.out (by decide)) (fun _ hk => hk.2) (.slice Ao32 t353.length co32)) (fun _ h_ => h_.1)))) (by decide)) hk (fun _ h => h.2)) (fun _ h => h.1)); have n3_ := Aside0.mk (KeepBut.blk hk (g' := gb358) (o := .cells #[.slice Ao32 t353.length co32] 29 (0, 0)) (kt BK358.out) NB358_0.out (by simp)); have n4_ := Aside0.mk (KeepBut.trans (kp HK.out) hk (.inl rfl)); have n5_ := Aside0.mk (hb); have n6_ := Aside0.mk (hi); clear BK351; clear BK352; clear HO355; clear BK358; clear HK; clear HB; clear HI0; have BK351 := n0_; have BK352 := n1_; have HO355 := n2_; have BK358 := n3_; have HK := n4_; have HB := n5_; have HI0 := n6_; clear n0_ n1_ n2_ n3_ n4_ n5_ n6_; (try clear hb); (try clear hb2); (try clear hk); (try clear hi)))
  have n0_ := Aside0.mk (Kd.S_drew HO355.out)
  have n1_ := Aside0.mk (blk_drew BK351.out)
  have n2_ := Aside0.mk (blk_drew BK352.out)
  have n3_ := Aside0.mk (blk_drew BK358.out)
  have n4_ := Aside0.mk (IsS107.drew HI0.out)
  have n5_ := Aside0.mk (keep_drew HK.out)
  have n6_ := Aside0.mk (below_drew1 HB.out)
  clear HO355; clear BK351; clear BK352; clear BK358; clear HI0; clear HK; clear HB; have HO355 := n0_; have BK351 := n1_; have BK352 := n2_; have BK358 := n3_; have HI0 := n4_; have HK := n5_; have HB := n6_; clear n0_ n1_ n2_ n3_ n4_ n5_ n6_
  refine start_ (n := 6) (S := fun w' => w'.cell? ⟨gb358, 0, none⟩ = some (.slice Ao32 t353.length co32)) (ds := []) (bm 6 0) (by kernel_rfl) rfl (by kernel_rfl) (cl BK358 0) (fun hHeld => ?_)
  generalize w37.drew = w38 at HO355 BK351 BK352 BK358 HI0 HK HB hHeld ⊢
  refine pv_ 1 (some 12) (bm 6 2) ?_
  refine tv_ 0 (some 11) (bm 6 3) hHeld ?_
  refine tv_ 2 (some 13) (bm 6 7) hHeld ?_
  refine ov_ 3 (some 14) (bm 6 15) (fun K hK => ?_)
  refine gw_ Try.func103 #[.pointer (some ⟨g, 0, none⟩), .agg #[.slice Ao32 t353.length co32]] ?_
  with_reducible refine (spec_l6DrawMem.calls k g s0_0 t360 t361 _ _ t353 t373 t376 t377 t378 w0 _ ?side1 ?side2 ?side3 ?side4 A27.out).mono ?_
  (case side1 => exact si HI0.out)
  (case side2 => exact bi HB.out)
  (case side3 => exact (Kd.C_foot_own ((Kd.S_R (IsS107.apartS (show IsS107 w0 _ g s0_0 t360 t361 from si HI0.out) (ks HO355.out) (by decide)))) (fun _ h_ => h_.2) :))
  (case side4 => exact (Kd.S_reads' HO355.out).2.1)
  rintro e w39 ⟨v374, rfl, ho0, hi, hb, hk⟩
  refine ⟨_, rfl, ?_⟩
  have n0_ := Aside0.mk (KeepBut.blk hk (g' := gb351) (o := .cells #[.slice none 0 0] 29 (0, 0)) (kb BK351.out) NB351_0.out (by simp))
  have n1_ := Aside0.mk (KeepBut.blk hk (g' := gb352) (o := .cells #[.slice none 0 0, .int .i64 0] 32 (0, 0)) (kb BK352.out) NB352_0.out (by simp))
  have n2_ := Aside0.mk (Kd.S_mono (Kd.S_told (Kd.S_oldK (IsS107.apartS (show IsS107 w0 _ g s0_0 t360 t361 from si HI0.out) (ks HO355.out) (by decide)) hk) (Kd.Q_base ho0)) (fun _ h_ => h_.1))
  have n3_ := Aside0.mk (KeepBut.blk hk (g' := gb358) (o := .cells #[.slice Ao32 t353.length co32] 29 (0, 0)) (kb BK358.out) NB358_0.out (by simp))
  have n4_ := Aside0.mk (Kd.Q_lower ho0 (keep_size (w := w) (g := g) (row := none) (kp HK.out)))
  have n5_ := Aside0.mk (KeepBut.trans (kp HK.out) hk (.inl rfl))
  have n6_ := Aside0.mk (hb)
  have n7_ := Aside0.mk (hi)
  clear BK351; clear BK352; clear HO355; clear BK358; clear HK; clear HB; clear HI0; have BK351 := n0_; have BK352 := n1_; have HO355 := n2_; have BK358 := n3_; have HO375 := n4_; have HK := n5_; have HB := n6_; have HI0 := n7_; clear n0_ n1_ n2_ n3_ n4_ n5_ n6_ n7_; (try clear hb); (try clear hb2); (try clear hk); (try clear hi); (try clear ho0)
  obtain ⟨Ao41, co41, eo41, _⟩ := Kd.Q_slice HO375.out
  (first | subst eo41 | (injection eo41 with f1_ f2_ f3_; have f4_ := f1_.symm; have f5_ := f3_.symm; clear f1_ f2_ f3_; subst f4_; subst f5_))
  refine hK.out _ _ (cl BK358 0) (fun hHeld => ?_)
  clear hK K
  refine nw_ ?_
  refine ov_ 4 none (bm 6 31) (fun K hK => ?_)
  have hs40 : w39.cell? ⟨gb351, 0, none⟩ = some (.slice none 0 0) := cl BK351 0
  have hfs40 := blk_frozen BK351.out 0
  have hns40_1 := NB352_351.out
  have hns40_2 := NB358_351.out
  have hms40_1 := NB351_352.out
  have hms40_2 := NB351_358.out
  refine skip_ (w1 := ?_) (by rfl) rfl ?_ ?_
  rotate_left
  ·go_simp
   rfl
  refine hK.out _ _ (((cell_far (p := ⟨gb351, _, none⟩) NB358_351.out _).trans (hHeld))) (fun hHeld => ?_)
  clear hK K
  refine ov_ 5 none (bm 6 63) (fun K hK => ?_)
  have hs42 : w39.cell? ⟨gb352, 0, none⟩ = some (.slice none 0 0) := cl BK352 0
  have hfs42 := blk_frozen BK352.out 0
  have hns42_0 := NB351_352.out
  have hns42_2 := NB358_352.out
  have hms42_0 := NB352_351.out
  have hms42_2 := NB352_358.out
  have hs43 : w39.cell? ⟨gb352, 1, none⟩ = some (.int .i64 0) := cl BK352 1
  have hfs43 := blk_frozen BK352.out 1
  have hns43_0 := NB351_352.out
  have hns43_2 := NB358_352.out
  have hms43_0 := NB352_351.out
  have hms43_2 := NB352_358.out
  refine skip_ (w1 := ?_) (by rfl) rfl ?_ ?_
  rotate_left
  ·go_simp
   rfl
  refine hK.out _ _ (((cell_far (p := ⟨gb352, _, none⟩) NB358_352.out _).trans (((cell_far (p := ⟨gb352, _, none⟩) NB358_352.out _).trans (hHeld))))) (fun hHeld => ?_)
  clear hK K
  refine done_ (by kernel_rfl) ?_
  try go_wp2
  refine bodyPost_ret (results_cc rfl _ _ gb351 gb352 29 32 #[.slice Ao32 t353.length co32] #[.slice Ao41 t373.length co41, .int .i64 t376] (0, 0) (0, 0) _ _ rfl (by (with_reducible repeat (first | refine blk_drewN ?_ _ | refine blk_drew ?_ | refine blk_alloc ?_ _)); refine blk_far ?_ NB351_352.out _; (with_reducible repeat (first | refine blk_drewN ?_ _ | refine blk_drew ?_ | refine blk_alloc ?_ _)); refine blk_far ?_ NB351_352.out _; (with_reducible repeat (first | refine blk_drewN ?_ _ | refine blk_drew ?_ | refine blk_alloc ?_ _)); refine blk_put (cs := #[.slice none 0 0]) ?_ 0 _ rfl; (with_reducible repeat (first | refine blk_drewN ?_ _ | refine blk_drew ?_ | refine blk_alloc ?_ _)); exact BK351.out) Try.underlying29 rfl (by kernel_rfl) rfl (by (with_reducible repeat (first | refine blk_drewN ?_ _ | refine blk_drew ?_ | refine blk_alloc ?_ _)); refine blk_put (cs := #[.slice Ao41 t373.length co41, .int .i64 0]) ?_ 1 _ rfl; (with_reducible repeat (first | refine blk_drewN ?_ _ | refine blk_drew ?_ | refine blk_alloc ?_ _)); refine blk_put (cs := #[.slice none 0 0, .int .i64 0]) ?_ 0 _ rfl; (with_reducible repeat (first | refine blk_drewN ?_ _ | refine blk_drew ?_ | refine blk_alloc ?_ _)); refine blk_far ?_ NB352_351.out _; (with_reducible repeat (first | refine blk_drewN ?_ _ | refine blk_drew ?_ | refine blk_alloc ?_ _)); exact BK352.out) Try.underlying32 rfl (by kernel_rfl)) rfl ?_
  exact ⟨_, _, rt, ks (Kd.S_mono (Kd.S_far (p := ⟨gb352, 1, none⟩) (Kd.S_far (p := ⟨gb352, 0, none⟩) (Kd.S_far (p := ⟨gb351, 0, none⟩) (Kd.S_types (Kd.S_types HO355.out BK351.out (by decide)) BK352.out (by decide)) (fun _ hk => hk.1.2) (.slice Ao32 t353.length co32)) (fun _ hk => hk.2) (.slice Ao41 t373.length co41)) (fun _ hk => hk.2) (.int .i64 t376)) (fun _ hk => hk.1.1.2)), kq (Kd.Q_mono (Kd.Q_far (p := ⟨gb352, 1, none⟩) (Kd.Q_far (p := ⟨gb352, 0, none⟩) (Kd.Q_far (p := ⟨gb351, 0, none⟩) (Kd.Q_types (Kd.Q_types HO375.out BK351.out (by decide)) BK352.out (by decide)) (fun _ hk => hk.1.2) (.slice Ao32 t353.length co32)) (fun _ hk => hk.2) (.slice Ao41 t373.length co41)) (fun _ hk => hk.2) (.int .i64 t376)) (fun _ hk => trivial)), si HI0.out, bi HB.out, kp HK.out⟩

/-! ### spec_DrawFetch: function 35 -/
def spec_DrawFetch.f (k : Nat) (l0 : List Int) : Option ((List (List Int)) × List Int × Int × Int) := (spec_l1New.f k l0).bind fun bt381 => ((spec_l6Draw.f k bt381.1 bt381.2.1 bt381.2.2).bind fun bt385 => ((spec_l6DrawAddr.f bt381.1 bt385.2.2.2.1 bt385.2.2.2.2).bind fun bt396 => ((spec_l1Once.f bt381.1 bt396.2.1 bt396.2.2 2).bind fun bt399 => (if bt399.1 = true then ((spec_l1Below.f bt381.1 bt399.2.1 bt399.2.2 256).bind fun bt402 => (some (bt385.1, bt385.2.1, bt385.2.2.1, wrap64 (49152 + bt402.1)))) else (some (bt385.1, bt385.2.1, bt385.2.2.1, bt396.1))))))
set_option maxHeartbeats 8000000 in
set_option maxRecDepth 100000 in
theorem spec_DrawFetch.calls (k : Nat) (A0 : Option Addr) (c0 : Nat) (l0 : List Int) (r1 : List (List Int)) (r2 : List Int) (r3 : Int) (r4 : Int) (w : World) (hr0 : Kd.C (Kd.int .u8) w A0 l0.length l0) (hc0 : l0.length ≤ c0) (h : spec_DrawFetch.f k l0 = some (r1, r2, r3, r4)) :
  Calls Try.prog 35 #[.slice A0 l0.length c0] w fun e w' => ∃ v0_ v1_ : Value, e = .returned (.tuple #[.agg #[v0_], .agg #[v1_, .int .i64 r3], .int .i64 r4]) ∧ Kd.S (cutK 3 (Kd.int .i64)) 30 w' w.heap.size (fun k_ => some k_ ≠ (v1_ : Value).ownBlock) v0_ r1 ∧ Kd.Q (Kd.int .i64) 3 w' w.heap.size (fun _ => True) v1_ r2 ∧ Below w.heap.size w w' := by
 have hu29 := Try.underlying29
 have hu32 := Try.underlying32
 have HR0 := Aside0.mk hr0
 have HC0 := Aside0.mk hc0
 clear hr0 hc0
 have HB := Aside0.mk (Below.refl w.heap.size w)
 have H : ((spec_l1New.f k l0).bind fun bt381 => ((spec_l6Draw.f k bt381.1 bt381.2.1 bt381.2.2).bind fun bt385 => ((spec_l6DrawAddr.f bt381.1 bt385.2.2.2.1 bt385.2.2.2.2).bind fun bt396 => ((spec_l1Once.f bt381.1 bt396.2.1 bt396.2.2 2).bind fun bt399 => (if bt399.1 = true then ((spec_l1Below.f bt381.1 bt399.2.1 bt399.2.2 256).bind fun bt402 => (some (bt385.1, bt385.2.1, bt385.2.2.1, wrap64 (49152 + bt402.1)))) else (some (bt385.1, bt385.2.1, bt385.2.2.1, bt396.1))))))) = some (r1, r2, r3, r4) := h
 clear h
 replace H := Option.bind_eq_some_iff.mp H
 obtain ⟨⟨t381, t382, t383⟩, A20, H⟩ := H
 replace H : ((spec_l6Draw.f k t381 t382 t383).bind fun bt385 => ((spec_l6DrawAddr.f t381 bt385.2.2.2.1 bt385.2.2.2.2).bind fun bt396 => ((spec_l1Once.f t381 bt396.2.1 bt396.2.2 2).bind fun bt399 => (if bt399.1 = true then ((spec_l1Below.f t381 bt399.2.1 bt399.2.2 256).bind fun bt402 => (some (bt385.1, bt385.2.1, bt385.2.2.1, wrap64 (49152 + bt402.1)))) else (some (bt385.1, bt385.2.1, bt385.2.2.1, bt396.1)))))) = some (r1, r2, r3, r4) := H
 have A2 := Aside0.mk A20
 clear A20
 replace H := Option.bind_eq_some_iff.mp H
 obtain ⟨⟨t385, t388, t391, t392, t393⟩, A30, H⟩ := H
 replace H : ((spec_l6DrawAddr.f t381 t392 t393).bind fun bt396 => ((spec_l1Once.f t381 bt396.2.1 bt396.2.2 2).bind fun bt399 => (if bt399.1 = true then ((spec_l1Below.f t381 bt399.2.1 bt399.2.2 256).bind fun bt402 => (some (t385, t388, t391, wrap64 (49152 + bt402.1)))) else (some (t385, t388, t391, bt396.1))))) = some (r1, r2, r3, r4) := H
 have A3 := Aside0.mk A30
 clear A30
 replace H := Option.bind_eq_some_iff.mp H
 obtain ⟨⟨t396, t397, t398⟩, A40, H⟩ := H
 replace H : ((spec_l1Once.f t381 t397 t398 2).bind fun bt399 => (if bt399.1 = true then ((spec_l1Below.f t381 bt399.2.1 bt399.2.2 256).bind fun bt402 => (some (t385, t388, t391, wrap64 (49152 + bt402.1)))) else (some (t385, t388, t391, t396)))) = some (r1, r2, r3, r4) := H
 have A4 := Aside0.mk A40
 clear A40
 replace H := Option.bind_eq_some_iff.mp H
 obtain ⟨⟨t399, t400, t401⟩, A50, H⟩ := H
 replace H : (if t399 = true then ((spec_l1Below.f t381 t400 t401 256).bind fun bt402 => (some (t385, t388, t391, wrap64 (49152 + bt402.1)))) else (some (t385, t388, t391, t396))) = some (r1, r2, r3, r4) := H
 have A5 := Aside0.mk A50
 clear A50
 by_cases c6 : t399 = true
 ·subst c6
  have H1 : ((spec_l1Below.f t381 t400 t401 256).bind fun bt402 => (some (t385, t388, t391, wrap64 (49152 + bt402.1)))) = some (r1, r2, r3, r4) := by rw [if_pos rfl] at H; exact H
  clear H
  have H := H1
  clear H1
  replace H := Option.bind_eq_some_iff.mp H
  obtain ⟨⟨t402, t403, t404⟩, A70, H⟩ := H
  replace H : (some (t385, t388, t391, wrap64 (49152 + t402))) = some (r1, r2, r3, r4) := H
  have A7 := Aside0.mk A70
  clear A70
  simp only [Option.some.injEq, Prod.mk.injEq] at H
  obtain ⟨rfl, rfl, rfl, rfl⟩ := H
  go_enter Try.func35, Try.ntmps35
  try go_wp2_with (first | ((with_reducible refine gate_dst (N := 2) rfl ?_); refine bx (N := 2) (cs := #[.slice none 0 0]) (t := 29) ?_; intro gb379 hg w8 hbox hb; have n0_ := Aside0.mk (below_step (bw HB.out) hb); have n1_ := Aside0.mk (hbox); have n2_ := Aside0.mk ((gs hg (bw HB.out))); have n3_ := Aside0.mk ((gs hg (bw HB.out))); clear HB; have HB := n0_; have BK379 := n1_; have GW379 := n2_; have GE379 := n3_; clear n0_ n1_ n2_ n3_; clear hb hbox hg) | ((with_reducible refine gate_dst (N := 3) rfl ?_); refine bx (N := 3) (cs := #[.slice none 0 0, .int .i64 0]) (t := 32) ?_; intro gb380 hg w9 hbox hb; have n0_ := Aside0.mk (blk_below (g := gb379) (o := .cells #[.slice none 0 0] 29 (0, 0)) (kb BK379.out) hb); have n1_ := Aside0.mk (below_step (bw HB.out) hb); have n2_ := Aside0.mk (hbox); have n3_ := Aside0.mk ((gs hg (bw HB.out))); have n4_ := Aside0.mk ((gs hg (bw HB.out))); have n5_ := Aside0.mk ((ga hg BK379.out)); have n6_ := Aside0.mk ((gc hg BK379.out)); clear BK379; clear HB; have BK379 := n0_; have HB := n1_; have BK380 := n2_; have GW380 := n3_; have GE380 := n4_; have NB379_380 := n5_; have NB380_379 := n6_; clear n0_ n1_ n2_ n3_ n4_ n5_ n6_; clear hb hbox hg) | ((with_reducible refine gate_callee (f := 57) rfl ?_); refine goesM_ (some 10) rfl rfl Try.func57 #[.slice A0 l0.length c0] ?_; (with_reducible refine (spec_l1New.calls k _ _ l0 t381 t382 t383 w _ ?side1 ?side2 ?side3 A2.out).mono ?_); (case side1 => exact bw HB.out); (case side2 => exact HR0.out); (case side3 => exact HC0.out); rintro e w10 ⟨g384, rfl, hi, hb, hb2⟩; refine ⟨_, rfl, ?_⟩; have n0_ := Aside0.mk (blk_below (g := gb379) (o := .cells #[.slice none 0 0] 29 (0, 0)) (kb BK379.out) hb2); have n1_ := Aside0.mk (blk_below (g := gb380) (o := .cells #[.slice none 0 0, .int .i64 0] 32 (0, 0)) (kb BK380.out) hb2); have n2_ := Aside0.mk (hb); have n3_ := Aside0.mk (hi); have n4_ := Aside0.mk (IsS107.ne_blk hi (blk_below (g := gb379) (o := .cells #[.slice none 0 0] 29 (0, 0)) (kb BK379.out) hb2) (by decide)); have n5_ := Aside0.mk (Ne.symm (IsS107.ne_blk hi (blk_below (g := gb379) (o := .cells #[.slice none 0 0] 29 (0, 0)) (kb BK379.out) hb2) (by decide))); have n6_ := Aside0.mk (IsS107.ne_blk hi (blk_below (g := gb380) (o := .cells #[.slice none 0 0, .int .i64 0] 32 (0, 0)) (kb BK380.out) hb2) (by decide)); have n7_ := Aside0.mk (Ne.symm (IsS107.ne_blk hi (blk_below (g := gb380) (o := .cells #[.slice none 0 0, .int .i64 0] 32 (0, 0)) (kb BK380.out) hb2) (by decide))); clear BK379; clear BK380; clear HB; have BK379 := n0_; have BK380 := n1_; have HB := n2_; have HI384 := n3_; have NB384_379 := n4_; have NB379_384 := n5_; have NB384_380 := n6_; have NB380_384 := n7_; clear n0_ n1_ n2_ n3_ n4_ n5_ n6_ n7_; (try clear hb); (try clear hb2); (try clear hk); (try clear hi)) | ((with_reducible refine gate_callee (f := 62) rfl ?_); refine goesM_ (some 13) rfl rfl Try.func62 #[.pointer (some ⟨g384, 0, none⟩)] ?_; (with_reducible refine (spec_l6Draw.calls k g384 t381 t382 t383 t385 t388 t391 t392 t393 w _ ?side1 ?side2 A3.out).mono ?_); (case side1 => exact si HI384.out); (case side2 => exact bi HB.out); rintro e w11 ⟨v386, v389, rfl, ho0, ho1, hi, hb, hk⟩; refine ⟨_, rfl, ?_⟩; have n0_ := Aside0.mk (KeepBut.blk hk (g' := gb379) (o := .cells #[.slice none 0 0] 29 (0, 0)) (kb BK379.out) NB379_384.out (by simp)); have n1_ := Aside0.mk (KeepBut.blk hk (g' := gb380) (o := .cells #[.slice none 0 0, .int .i64 0] 32 (0, 0)) (kb BK380.out) NB380_384.out (by simp)); have n2_ := Aside0.mk (Kd.S_lower ho0 (below_size (bi HB.out))); have n3_ := Aside0.mk (Kd.Q_lower ho1 (below_size (bi HB.out))); have n4_ := Aside0.mk (hb); have n5_ := Aside0.mk (hi); clear BK379; clear BK380; clear HB; clear HI384; have BK379 := n0_; have BK380 := n1_; have HO387 := n2_; have HO390 := n3_; have HB := n4_; have HI384 := n5_; clear n0_ n1_ n2_ n3_ n4_ n5_; (try clear hb); (try clear hb2); (try clear hk); (try clear hi); (try clear ho0); (try clear ho1)) | ((with_reducible refine gate_dst (N := 6) rfl ?_); refine bx (N := 6) (cs := #[.slice none 0 0]) (t := 29) ?_; intro gb394 hg w12 hbox hb; have n0_ := Aside0.mk (Kd.S_below (ks HO387.out) hb); have n1_ := Aside0.mk (Kd.Q_below (kq HO390.out) hb); have n2_ := Aside0.mk (blk_below (g := gb379) (o := .cells #[.slice none 0 0] 29 (0, 0)) (kb BK379.out) hb); have n3_ := Aside0.mk (blk_below (g := gb380) (o := .cells #[.slice none 0 0, .int .i64 0] 32 (0, 0)) (kb BK380.out) hb); have n4_ := Aside0.mk (IsS107.below (si HI384.out) hb); have n5_ := Aside0.mk (below_step (bi HB.out) hb); have n6_ := Aside0.mk (hbox); have n7_ := Aside0.mk ((gs hg (bi HB.out))); have n8_ := Aside0.mk ((gs hg (bi HB.out))); have n9_ := Aside0.mk ((ga hg BK379.out)); have n10_ := Aside0.mk ((gc hg BK379.out)); have n11_ := Aside0.mk ((ga hg BK380.out)); have n12_ := Aside0.mk ((gc hg BK380.out)); have n13_ := Aside0.mk ((by rw [hg]; exact Nat.ne_of_lt (IsS107.lt (show IsS107 w _ g384 t381 t392 t393 from si HI384.out)) : g384 ≠ gb394)); have n14_ := Aside0.mk ((by rw [hg]; exact Nat.ne_of_gt (IsS107.lt (show IsS107 w _ g384 t381 t392 t393 from si HI384.out)) : gb394 ≠ g384)); clear HO387; clear HO390; clear BK379; clear BK380; clear HI384; clear HB; have HO387 := n0_; have HO390 := n1_; have BK379 := n2_; have BK380 := n3_; have HI384 := n4_; have HB := n5_; have BK394 := n6_; have GW394 := n7_; have GE394 := n8_; have NB379_394 := n9_; have NB394_379 := n10_; have NB380_394 := n11_; have NB394_380 := n12_; have NB384_394 := n13_; have NB394_384 := n14_; clear n0_ n1_ n2_ n3_ n4_ n5_ n6_ n7_ n8_ n9_ n10_ n11_ n12_ n13_ n14_; clear hb hbox hg) | ((with_reducible refine gate_dst (N := 7) rfl ?_); refine bx (N := 7) (cs := #[.slice none 0 0, .int .i64 0]) (t := 32) ?_; intro gb395 hg w13 hbox hb; have n0_ := Aside0.mk (Kd.S_below (ks HO387.out) hb); have n1_ := Aside0.mk (Kd.Q_below (kq HO390.out) hb); have n2_ := Aside0.mk (blk_below (g := gb379) (o := .cells #[.slice none 0 0] 29 (0, 0)) (kb BK379.out) hb); have n3_ := Aside0.mk (blk_below (g := gb380) (o := .cells #[.slice none 0 0, .int .i64 0] 32 (0, 0)) (kb BK380.out) hb); have n4_ := Aside0.mk (IsS107.below (si HI384.out) hb); have n5_ := Aside0.mk (blk_below (g := gb394) (o := .cells #[.slice none 0 0] 29 (0, 0)) (kb BK394.out) hb); have n6_ := Aside0.mk (below_step (bi HB.out) hb); have n7_ := Aside0.mk (hbox); have n8_ := Aside0.mk ((gs hg (bi HB.out))); have n9_ := Aside0.mk ((gs hg (bi HB.out))); have n10_ := Aside0.mk ((ga hg BK379.out)); have n11_ := Aside0.mk ((gc hg BK379.out)); have n12_ := Aside0.mk ((ga hg BK380.out)); have n13_ := Aside0.mk ((gc hg BK380.out)); have n14_ := Aside0.mk ((ga hg BK394.out)); have n15_ := Aside0.mk ((gc hg BK394.out)); have n16_ := Aside0.mk ((by rw [hg]; exact Nat.ne_of_lt (IsS107.lt (show IsS107 w _ g384 t381 t392 t393 from si HI384.out)) : g384 ≠ gb395)); have n17_ := Aside0.mk ((by rw [hg]; exact Nat.ne_of_gt (IsS107.lt (show IsS107 w _ g384 t381 t392 t393 from si HI384.out)) : gb395 ≠ g384)); clear HO387; clear HO390; clear BK379; clear BK380; clear HI384; clear BK394; clear HB; have HO387 := n0_; have HO390 := n1_; have BK379 := n2_; have BK380 := n3_; have HI384 := n4_; have BK394 := n5_; have HB := n6_; have BK395 := n7_; have GW395 := n8_; have GE395 := n9_; have NB379_395 := n10_; have NB395_379 := n11_; have NB380_395 := n12_; have NB395_380 := n13_; have NB394_395 := n14_; have NB395_394 := n15_; have NB384_395 := n16_; have NB395_384 := n17_; clear n0_ n1_ n2_ n3_ n4_ n5_ n6_ n7_ n8_ n9_ n10_ n11_ n12_ n13_ n14_ n15_ n16_ n17_; clear hb hbox hg; obtain ⟨Ao14, co14, eo14⟩ := Kd.S_slice HO387.out; subst eo14; have hnb15 := NB394_379.out; have hnc15 := NB379_394.out; have hnb16 := NB394_380.out; have hnc16 := NB380_394.out; have hnb17 := NB394_395.out; have hnc17 := NB395_394.out; have hnb18 := NB394_384.out; have hnc18 := NB384_394.out; have hcz19_0 : w13.cell? ⟨gb394, 0, none⟩ = some (.slice none 0 0) := cl BK394 0; have hfz19_0 := blk_frozen BK394.out 0; obtain ⟨Ao20, co20, eo20, _⟩ := Kd.Q_slice HO390.out; subst eo20; have hnb21 := NB395_379.out; have hnc21 := NB379_395.out; have hnb22 := NB395_380.out; have hnc22 := NB380_395.out; have hnb23 := NB395_384.out; have hnc23 := NB384_395.out; have hcz24_0 : w13.cell? ⟨gb395, 0, none⟩ = some (.slice none 0 0) := cl BK395 0; have hcz24_1 : w13.cell? ⟨gb395, 1, none⟩ = some (.int .i64 0) := cl BK395 1; have hfz24_0 := blk_frozen BK395.out 0; have hfz24_1 := blk_frozen BK395.out 1) | ((with_reducible refine gate_callee (f := 59) rfl ?_); refine goesM_ (some 17) rfl rfl Try.func59 #[.pointer (some ⟨g384, 0, none⟩)] ?_; (with_reducible refine (spec_l6DrawAddr.calls g384 t381 t392 t393 t396 t397 t398 w _ ?side1 ?side2 A4.out).mono ?_); (case side1 => exact si HI384.out); (case side2 => exact bi HB.out); rintro e w25 ⟨rfl, hi, hb, hk⟩; refine ⟨_, rfl, ?_⟩; have n0_ := Aside0.mk (KeepBut.blk hk (g' := gb379) (o := .cells #[.slice none 0 0] 29 (0, 0)) (kf BK379.out) NB379_384.out (by simp)); have n1_ := Aside0.mk (KeepBut.blk hk (g' := gb380) (o := .cells #[.slice none 0 0, .int .i64 0] 32 (0, 0)) (kf BK380.out) NB380_384.out (by simp)); have n2_ := Aside0.mk (Kd.S_mono (Kd.S_keep (IsS107.apartS (show IsS107 w _ g384 t381 t392 t393 from si HI384.out) (ks ((Kd.S_mono (Kd.S_mono (Kd.S_far (p := ⟨gb395, 1, none⟩) (Kd.S_far (p := ⟨gb395, 0, none⟩) (Kd.S_far (p := ⟨gb394, 0, none⟩) (Kd.S_types (Kd.S_types HO387.out BK394.out (by decide)) BK395.out (by decide)) (fun _ hk => hk.1.2) (.slice Ao14 t385.length co14)) (fun _ hk => hk.2) (.slice Ao20 t388.length co20)) (fun _ hk => hk.2) (.int .i64 t391)) (fun _ h_ => h_.1)) (fun _ h_ => h_.1)))) (by decide)) hk (fun _ h => h.2)) (fun _ h => h.1)); have n3_ := Aside0.mk (Kd.Q_mono (Kd.Q_keep (IsS107.apartQ (show IsS107 w _ g384 t381 t392 t393 from si HI384.out) (kq ((Kd.Q_mono (Kd.Q_mono (Kd.Q_far (p := ⟨gb395, 1, none⟩) (Kd.Q_far (p := ⟨gb395, 0, none⟩) (Kd.Q_far (p := ⟨gb394, 0, none⟩) (Kd.Q_types (Kd.Q_types HO390.out BK394.out (by decide)) BK395.out (by decide)) (fun _ hk => hk.1.2) (.slice Ao14 t385.length co14)) (fun _ hk => hk.2) (.slice Ao20 t388.length co20)) (fun _ hk => hk.2) (.int .i64 t391)) (fun _ h_ => h_.1)) (fun _ h_ => h_.1)))) (by decide)) hk (fun _ h => h.2)) (fun _ h => h.1)); have n4_ := Aside0.mk (KeepBut.blk hk (g' := gb394) (o := .cells #[.slice Ao14 t385.length co14] 29 (0, 0)) (by (with_reducible repeat (first | refine blk_drewN ?_ _ | refine blk_drew ?_ | refine blk_alloc ?_ _)); refine blk_far ?_ NB394_395.out _; (with_reducible repeat (first | refine blk_drewN ?_ _ | refine blk_drew ?_ | refine blk_alloc ?_ _)); refine blk_far ?_ NB394_395.out _; (with_reducible repeat (first | refine blk_drewN ?_ _ | refine blk_drew ?_ | refine blk_alloc ?_ _)); refine blk_put (cs := #[.slice none 0 0]) ?_ 0 _ rfl; (with_reducible repeat (first | refine blk_drewN ?_ _ | refine blk_drew ?_ | refine blk_alloc ?_ _)); exact BK394.out) NB394_384.out (by simp)); have n5_ := Aside0.mk (KeepBut.blk hk (g' := gb395) (o := .cells #[.slice Ao20 t388.length co20, .int .i64 t391] 32 (0, 0)) (by (with_reducible repeat (first | refine blk_drewN ?_ _ | refine blk_drew ?_ | refine blk_alloc ?_ _)); refine blk_put (cs := #[.slice Ao20 t388.length co20, .int .i64 0]) ?_ 1 _ rfl; (with_reducible repeat (first | refine blk_drewN ?_ _ | refine blk_drew ?_ | refine blk_alloc ?_ _)); refine blk_put (cs := #[.slice none 0 0, .int .i64 0]) ?_ 0 _ rfl; (with_reducible repeat (first | refine blk_drewN ?_ _ | refine blk_drew ?_ | refine blk_alloc ?_ _)); refine blk_far ?_ NB395_394.out _; (with_reducible repeat (first | refine blk_drewN ?_ _ | refine blk_drew ?_ | refine blk_alloc ?_ _)); exact BK395.out) NB395_384.out (by simp)); have n6_ := Aside0.mk (hb); have n7_ := Aside0.mk (hi); clear BK379; clear BK380; clear HO387; clear HO390; clear BK394; clear BK395; clear HB; clear HI384; have BK379 := n0_; have BK380 := n1_; have HO387 := n2_; have HO390 := n3_; have BK394 := n4_; have BK395 := n5_; have HB := n6_; have HI384 := n7_; clear n0_ n1_ n2_ n3_ n4_ n5_ n6_ n7_; (try clear hb); (try clear hb2); (try clear hk); (try clear hi)) | ((with_reducible refine gate_callee (f := 58) rfl ?_); refine goesM_ (some 19) rfl rfl Try.func58 #[.pointer (some ⟨g384, 0, none⟩), .int .i64 2] ?_; (with_reducible refine (spec_l1Once.calls g384 t381 t397 t398 2 true t400 t401 w _ ?side1 ?side2 A5.out).mono ?_); (case side1 => exact si HI384.out); (case side2 => exact bi HB.out); rintro e w26 ⟨rfl, hi, hb, hk⟩; refine ⟨_, rfl, ?_⟩; have n0_ := Aside0.mk (KeepBut.blk hk (g' := gb379) (o := .cells #[.slice none 0 0] 29 (0, 0)) (kb BK379.out) NB379_384.out (by simp)); have n1_ := Aside0.mk (KeepBut.blk hk (g' := gb380) (o := .cells #[.slice none 0 0, .int .i64 0] 32 (0, 0)) (kb BK380.out) NB380_384.out (by simp)); have n2_ := Aside0.mk (Kd.S_mono (Kd.S_keep (IsS107.apartS (show IsS107 w _ g384 t381 t397 t398 from si HI384.out) (ks HO387.out) (by decide)) hk (fun _ h => h.2)) (fun _ h => h.1)); have n3_ := Aside0.mk (Kd.Q_mono (Kd.Q_keep (IsS107.apartQ (show IsS107 w _ g384 t381 t397 t398 from si HI384.out) (kq HO390.out) (by decide)) hk (fun _ h => h.2)) (fun _ h => h.1)); have n4_ := Aside0.mk (KeepBut.blk hk (g' := gb394) (o := .cells #[.slice Ao14 t385.length co14] 29 (0, 0)) (kb BK394.out) NB394_384.out (by simp)); have n5_ := Aside0.mk (KeepBut.blk hk (g' := gb395) (o := .cells #[.slice Ao20 t388.length co20, .int .i64 t391] 32 (0, 0)) (kb BK395.out) NB395_384.out (by simp)); have n6_ := Aside0.mk (hb); have n7_ := Aside0.mk (hi); clear BK379; clear BK380; clear HO387; clear HO390; clear BK394; clear BK395; clear HB; clear HI384; have BK379 := n0_; have BK380 := n1_; have HO387 := n2_; have HO390 := n3_; have BK394 := n4_; have BK395 := n5_; have HB := n6_; have HI384 := n7_; clear n0_ n1_ n2_ n3_ n4_ n5_ n6_ n7_; (try clear hb); (try clear hb2); (try clear hk); (try clear hi)) | ((with_reducible refine gate_callee (f := 60) rfl ?_); refine goesM_ (some 21) rfl rfl Try.func60 #[.pointer (some ⟨g384, 0, none⟩), .int .i64 256] ?_; (with_reducible refine (spec_l1Below.calls g384 t381 t400 t401 256 t402 t403 t404 w _ ?side1 ?side2 A7.out).mono ?_); (case side1 => exact si HI384.out); (case side2 => exact bi HB.out); rintro e w27 ⟨rfl, hi, hb, hk⟩; refine ⟨_, rfl, ?_⟩; have n0_ := Aside0.mk (KeepBut.blk hk (g' := gb379) (o := .cells #[.slice none 0 0] 29 (0, 0)) (kb BK379.out) NB379_384.out (by simp)); have n1_ := Aside0.mk (KeepBut.blk hk (g' := gb380) (o := .cells #[.slice none 0 0, .int .i64 0] 32 (0, 0)) (kb BK380.out) NB380_384.out (by simp)); have n2_ := Aside0.mk (Kd.S_mono (Kd.S_keep (IsS107.apartS (show IsS107 w _ g384 t381 t400 t401 from si HI384.out) (ks HO387.out) (by decide)) hk (fun _ h => h.2)) (fun _ h => h.1)); have n3_ := Aside0.mk (Kd.Q_mono (Kd.Q_keep (IsS107.apartQ (show IsS107 w _ g384 t381 t400 t401 from si HI384.out) (kq HO390.out) (by decide)) hk (fun _ h => h.2)) (fun _ h => h.1)); have n4_ := Aside0.mk (KeepBut.blk hk (g' := gb394) (o := .cells #[.slice Ao14 t385.length co14] 29 (0, 0)) (kb BK394.out) NB394_384.out (by simp)); have n5_ := Aside0.mk (KeepBut.blk hk (g' := gb395) (o := .cells #[.slice Ao20 t388.length co20, .int .i64 t391] 32 (0, 0)) (kb BK395.out) NB395_384.out (by simp)); have n6_ := Aside0.mk (hb); have n7_ := Aside0.mk (hi); clear BK379; clear BK380; clear HO387; clear HO390; clear BK394; clear BK395; clear HB; clear HI384; have BK379 := n0_; have BK380 := n1_; have HO387 := n2_; have HO390 := n3_; have BK394 := n4_; have BK395 := n5_; have HB := n6_; have HI384 := n7_; clear n0_ n1_ n2_ n3_ n4_ n5_ n6_ n7_; (try clear hb); (try clear hb2); (try clear hk); (try clear hi)))
  have n0_ := Aside0.mk (Kd.S_drew HO387.out)
  have n1_ := Aside0.mk (Kd.Q_drew HO390.out)
  have n2_ := Aside0.mk (blk_drew BK379.out)
  have n3_ := Aside0.mk (blk_drew BK380.out)
  have n4_ := Aside0.mk (blk_drew BK394.out)
  have n5_ := Aside0.mk (blk_drew BK395.out)
  have n6_ := Aside0.mk (IsS107.drew HI384.out)
  have n7_ := Aside0.mk (below_drew1 HB.out)
  clear HO387; clear HO390; clear BK379; clear BK380; clear BK394; clear BK395; clear HI384; clear HB; have HO387 := n0_; have HO390 := n1_; have BK379 := n2_; have BK380 := n3_; have BK394 := n4_; have BK395 := n5_; have HI384 := n6_; have HB := n7_; clear n0_ n1_ n2_ n3_ n4_ n5_ n6_ n7_
  refine start_ (n := 6) (S := fun w' => w'.cell? ⟨gb394, 0, none⟩ = some (.slice Ao14 t385.length co14) ∧ w'.cell? ⟨gb395, 0, none⟩ = some (.slice Ao20 t388.length co20) ∧ w'.cell? ⟨gb395, 1, none⟩ = some (.int .i64 t391)) (ds := []) (bm 6 0) (by kernel_rfl) rfl (by kernel_rfl) ⟨cl BK394 0, cl BK395 0, cl BK395 1⟩ (fun hHeld => ?_)
  generalize w27.drew = w28 at HO387 HO390 BK379 BK380 BK394 BK395 HI384 HB hHeld ⊢
  refine pv_ 2 (some 25) (bm 6 4) ?_
  refine tv_ 0 (some 23) (bm 6 5) hHeld ?_
  refine tv_ 1 (some 24) (bm 6 7) hHeld ?_
  refine ov_ 3 none (bm 6 15) (fun K hK => ?_)
  have hs29 : w28.cell? ⟨gb379, 0, none⟩ = some (.slice none 0 0) := cl BK379 0
  have hfs29 := blk_frozen BK379.out 0
  have hns29_1 := NB380_379.out
  have hns29_2 := NB394_379.out
  have hns29_3 := NB395_379.out
  have hms29_1 := NB379_380.out
  have hms29_2 := NB379_394.out
  have hms29_3 := NB379_395.out
  refine skip_ (w1 := ?_) (by rfl) rfl ?_ ?_
  rotate_left
  ·go_simp
   rfl
  refine hK.out _ _ ⟨((cell_far (p := ⟨gb379, _, none⟩) NB394_379.out _).trans (hHeld.1)), ((cell_far (p := ⟨gb379, _, none⟩) NB395_379.out _).trans (hHeld.2.1)), ((cell_far (p := ⟨gb379, _, none⟩) NB395_379.out _).trans (hHeld.2.2))⟩ (fun hHeld => ?_)
  clear hK K
  refine ov_ 4 none (bm 6 31) (fun K hK => ?_)
  have hs30 : w28.cell? ⟨gb380, 0, none⟩ = some (.slice none 0 0) := cl BK380 0
  have hfs30 := blk_frozen BK380.out 0
  have hns30_0 := NB379_380.out
  have hns30_2 := NB394_380.out
  have hns30_3 := NB395_380.out
  have hms30_0 := NB380_379.out
  have hms30_2 := NB380_394.out
  have hms30_3 := NB380_395.out
  have hs31 : w28.cell? ⟨gb380, 1, none⟩ = some (.int .i64 0) := cl BK380 1
  have hfs31 := blk_frozen BK380.out 1
  have hns31_0 := NB379_380.out
  have hns31_2 := NB394_380.out
  have hns31_3 := NB395_380.out
  have hms31_0 := NB380_379.out
  have hms31_2 := NB380_394.out
  have hms31_3 := NB380_395.out
  refine skip_ (w1 := ?_) (by rfl) rfl ?_ ?_
  rotate_left
  ·go_simp
   rfl
  refine hK.out _ _ ⟨((cell_far (p := ⟨gb380, _, none⟩) NB394_380.out _).trans (((cell_far (p := ⟨gb380, _, none⟩) NB394_380.out _).trans (hHeld.1)))), ((cell_far (p := ⟨gb380, _, none⟩) NB395_380.out _).trans (((cell_far (p := ⟨gb380, _, none⟩) NB395_380.out _).trans (hHeld.2.1)))), ((cell_far (p := ⟨gb380, _, none⟩) NB395_380.out _).trans (((cell_far (p := ⟨gb380, _, none⟩) NB395_380.out _).trans (hHeld.2.2))))⟩ (fun hHeld => ?_)
  clear hK K
  refine pv_ 5 (some 4) (bm 6 63) ?_
  refine done_ (by kernel_rfl) ?_
  try go_wp2
  refine bodyPost_ret (results_list (rs := [.cell 2 29, .cell 3 32, .tmp 4]) rfl (by simp) (.cell gb379 29 #[.slice Ao14 t385.length co14] (0, 0) _ rfl (by (with_reducible repeat (first | refine blk_drewN ?_ _ | refine blk_drew ?_ | refine blk_alloc ?_ _)); refine blk_far ?_ NB379_380.out _; (with_reducible repeat (first | refine blk_drewN ?_ _ | refine blk_drew ?_ | refine blk_alloc ?_ _)); refine blk_far ?_ NB379_380.out _; (with_reducible repeat (first | refine blk_drewN ?_ _ | refine blk_drew ?_ | refine blk_alloc ?_ _)); refine blk_put (cs := #[.slice none 0 0]) ?_ 0 _ rfl; (with_reducible repeat (first | refine blk_drewN ?_ _ | refine blk_drew ?_ | refine blk_alloc ?_ _)); exact BK379.out) Try.underlying29 rfl (by kernel_rfl) (.cell gb380 32 #[.slice Ao20 t388.length co20, .int .i64 t391] (0, 0) _ rfl (by (with_reducible repeat (first | refine blk_drewN ?_ _ | refine blk_drew ?_ | refine blk_alloc ?_ _)); refine blk_put (cs := #[.slice Ao20 t388.length co20, .int .i64 0]) ?_ 1 _ rfl; (with_reducible repeat (first | refine blk_drewN ?_ _ | refine blk_drew ?_ | refine blk_alloc ?_ _)); refine blk_put (cs := #[.slice none 0 0, .int .i64 0]) ?_ 0 _ rfl; (with_reducible repeat (first | refine blk_drewN ?_ _ | refine blk_drew ?_ | refine blk_alloc ?_ _)); refine blk_far ?_ NB380_379.out _; (with_reducible repeat (first | refine blk_drewN ?_ _ | refine blk_drew ?_ | refine blk_alloc ?_ _)); exact BK380.out) Try.underlying32 rfl (by kernel_rfl) (.tmp .nil)))) rfl ?_
  exact ⟨_, _, rt, ks (Kd.S_mono (Kd.S_far (p := ⟨gb380, 1, none⟩) (Kd.S_far (p := ⟨gb380, 0, none⟩) (Kd.S_far (p := ⟨gb379, 0, none⟩) (Kd.S_types (Kd.S_types HO387.out BK379.out (by decide)) BK380.out (by decide)) (fun _ hk => hk.1.2) (.slice Ao14 t385.length co14)) (fun _ hk => hk.2) (.slice Ao20 t388.length co20)) (fun _ hk => hk.2) (.int .i64 t391)) (fun _ hk => hk.1.1)), kq (Kd.Q_mono (Kd.Q_far (p := ⟨gb380, 1, none⟩) (Kd.Q_far (p := ⟨gb380, 0, none⟩) (Kd.Q_far (p := ⟨gb379, 0, none⟩) (Kd.Q_types (Kd.Q_types HO390.out BK379.out (by decide)) BK380.out (by decide)) (fun _ hk => hk.1.2) (.slice Ao14 t385.length co14)) (fun _ hk => hk.2) (.slice Ao20 t388.length co20)) (fun _ hk => hk.2) (.int .i64 t391)) (fun _ hk => trivial)), bi HB.out⟩
 ·replace c6 := Bool.eq_false_iff.mpr c6
  subst c6
  have H1 : (some (t385, t388, t391, t396)) = some (r1, r2, r3, r4) := by rw [if_neg (show ¬ (false = true) by decide)] at H; exact H
  clear H
  have H := H1
  clear H1
  simp only [Option.some.injEq, Prod.mk.injEq] at H
  obtain ⟨rfl, rfl, rfl, rfl⟩ := H
  go_enter Try.func35, Try.ntmps35
  try go_wp2_with (first | ((with_reducible refine gate_dst (N := 2) rfl ?_); refine bx (N := 2) (cs := #[.slice none 0 0]) (t := 29) ?_; intro gb379 hg w32 hbox hb; have n0_ := Aside0.mk (below_step (bw HB.out) hb); have n1_ := Aside0.mk (hbox); have n2_ := Aside0.mk ((gs hg (bw HB.out))); have n3_ := Aside0.mk ((gs hg (bw HB.out))); clear HB; have HB := n0_; have BK379 := n1_; have GW379 := n2_; have GE379 := n3_; clear n0_ n1_ n2_ n3_; clear hb hbox hg) | ((with_reducible refine gate_dst (N := 3) rfl ?_); refine bx (N := 3) (cs := #[.slice none 0 0, .int .i64 0]) (t := 32) ?_; intro gb380 hg w33 hbox hb; have n0_ := Aside0.mk (blk_below (g := gb379) (o := .cells #[.slice none 0 0] 29 (0, 0)) (kb BK379.out) hb); have n1_ := Aside0.mk (below_step (bw HB.out) hb); have n2_ := Aside0.mk (hbox); have n3_ := Aside0.mk ((gs hg (bw HB.out))); have n4_ := Aside0.mk ((gs hg (bw HB.out))); have n5_ := Aside0.mk ((ga hg BK379.out)); have n6_ := Aside0.mk ((gc hg BK379.out)); clear BK379; clear HB; have BK379 := n0_; have HB := n1_; have BK380 := n2_; have GW380 := n3_; have GE380 := n4_; have NB379_380 := n5_; have NB380_379 := n6_; clear n0_ n1_ n2_ n3_ n4_ n5_ n6_; clear hb hbox hg) | ((with_reducible refine gate_callee (f := 57) rfl ?_); refine goesM_ (some 10) rfl rfl Try.func57 #[.slice A0 l0.length c0] ?_; (with_reducible refine (spec_l1New.calls k _ _ l0 t381 t382 t383 w _ ?side1 ?side2 ?side3 A2.out).mono ?_); (case side1 => exact bw HB.out); (case side2 => exact HR0.out); (case side3 => exact HC0.out); rintro e w34 ⟨g384, rfl, hi, hb, hb2⟩; refine ⟨_, rfl, ?_⟩; have n0_ := Aside0.mk (blk_below (g := gb379) (o := .cells #[.slice none 0 0] 29 (0, 0)) (kb BK379.out) hb2); have n1_ := Aside0.mk (blk_below (g := gb380) (o := .cells #[.slice none 0 0, .int .i64 0] 32 (0, 0)) (kb BK380.out) hb2); have n2_ := Aside0.mk (hb); have n3_ := Aside0.mk (hi); have n4_ := Aside0.mk (IsS107.ne_blk hi (blk_below (g := gb379) (o := .cells #[.slice none 0 0] 29 (0, 0)) (kb BK379.out) hb2) (by decide)); have n5_ := Aside0.mk (Ne.symm (IsS107.ne_blk hi (blk_below (g := gb379) (o := .cells #[.slice none 0 0] 29 (0, 0)) (kb BK379.out) hb2) (by decide))); have n6_ := Aside0.mk (IsS107.ne_blk hi (blk_below (g := gb380) (o := .cells #[.slice none 0 0, .int .i64 0] 32 (0, 0)) (kb BK380.out) hb2) (by decide)); have n7_ := Aside0.mk (Ne.symm (IsS107.ne_blk hi (blk_below (g := gb380) (o := .cells #[.slice none 0 0, .int .i64 0] 32 (0, 0)) (kb BK380.out) hb2) (by decide))); clear BK379; clear BK380; clear HB; have BK379 := n0_; have BK380 := n1_; have HB := n2_; have HI384 := n3_; have NB384_379 := n4_; have NB379_384 := n5_; have NB384_380 := n6_; have NB380_384 := n7_; clear n0_ n1_ n2_ n3_ n4_ n5_ n6_ n7_; (try clear hb); (try clear hb2); (try clear hk); (try clear hi)) | ((with_reducible refine gate_callee (f := 62) rfl ?_); refine goesM_ (some 13) rfl rfl Try.func62 #[.pointer (some ⟨g384, 0, none⟩)] ?_; (with_reducible refine (spec_l6Draw.calls k g384 t381 t382 t383 t385 t388 t391 t392 t393 w _ ?side1 ?side2 A3.out).mono ?_); (case side1 => exact si HI384.out); (case side2 => exact bi HB.out); rintro e w35 ⟨v386, v389, rfl, ho0, ho1, hi, hb, hk⟩; refine ⟨_, rfl, ?_⟩; have n0_ := Aside0.mk (KeepBut.blk hk (g' := gb379) (o := .cells #[.slice none 0 0] 29 (0, 0)) (kb BK379.out) NB379_384.out (by simp)); have n1_ := Aside0.mk (KeepBut.blk hk (g' := gb380) (o := .cells #[.slice none 0 0, .int .i64 0] 32 (0, 0)) (kb BK380.out) NB380_384.out (by simp)); have n2_ := Aside0.mk (Kd.S_lower ho0 (below_size (bi HB.out))); have n3_ := Aside0.mk (Kd.Q_lower ho1 (below_size (bi HB.out))); have n4_ := Aside0.mk (hb); have n5_ := Aside0.mk (hi); clear BK379; clear BK380; clear HB; clear HI384; have BK379 := n0_; have BK380 := n1_; have HO387 := n2_; have HO390 := n3_; have HB := n4_; have HI384 := n5_; clear n0_ n1_ n2_ n3_ n4_ n5_; (try clear hb); (try clear hb2); (try clear hk); (try clear hi); (try clear ho0); (try clear ho1)) | ((with_reducible refine gate_dst (N := 6) rfl ?_); refine bx (N := 6) (cs := #[.slice none 0 0]) (t := 29) ?_; intro gb394 hg w36 hbox hb; have n0_ := Aside0.mk (Kd.S_below (ks HO387.out) hb); have n1_ := Aside0.mk (Kd.Q_below (kq HO390.out) hb); have n2_ := Aside0.mk (blk_below (g := gb379) (o := .cells #[.slice none 0 0] 29 (0, 0)) (kb BK379.out) hb); have n3_ := Aside0.mk (blk_below (g := gb380) (o := .cells #[.slice none 0 0, .int .i64 0] 32 (0, 0)) (kb BK380.out) hb); have n4_ := Aside0.mk (IsS107.below (si HI384.out) hb); have n5_ := Aside0.mk (below_step (bi HB.out) hb); have n6_ := Aside0.mk (hbox); have n7_ := Aside0.mk ((gs hg (bi HB.out))); have n8_ := Aside0.mk ((gs hg (bi HB.out))); have n9_ := Aside0.mk ((ga hg BK379.out)); have n10_ := Aside0.mk ((gc hg BK379.out)); have n11_ := Aside0.mk ((ga hg BK380.out)); have n12_ := Aside0.mk ((gc hg BK380.out)); have n13_ := Aside0.mk ((by rw [hg]; exact Nat.ne_of_lt (IsS107.lt (show IsS107 w _ g384 t381 t392 t393 from si HI384.out)) : g384 ≠ gb394)); have n14_ := Aside0.mk ((by rw [hg]; exact Nat.ne_of_gt (IsS107.lt (show IsS107 w _ g384 t381 t392 t393 from si HI384.out)) : gb394 ≠ g384)); clear HO387; clear HO390; clear BK379; clear BK380; clear HI384; clear HB; have HO387 := n0_; have HO390 := n1_; have BK379 := n2_; have BK380 := n3_; have HI384 := n4_; have HB := n5_; have BK394 := n6_; have GW394 := n7_; have GE394 := n8_; have NB379_394 := n9_; have NB394_379 := n10_; have NB380_394 := n11_; have NB394_380 := n12_; have NB384_394 := n13_; have NB394_384 := n14_; clear n0_ n1_ n2_ n3_ n4_ n5_ n6_ n7_ n8_ n9_ n10_ n11_ n12_ n13_ n14_; clear hb hbox hg) | ((with_reducible refine gate_dst (N := 7) rfl ?_); refine bx (N := 7) (cs := #[.slice none 0 0, .int .i64 0]) (t := 32) ?_; intro gb395 hg w37 hbox hb; have n0_ := Aside0.mk (Kd.S_below (ks HO387.out) hb); have n1_ := Aside0.mk (Kd.Q_below (kq HO390.out) hb); have n2_ := Aside0.mk (blk_below (g := gb379) (o := .cells #[.slice none 0 0] 29 (0, 0)) (kb BK379.out) hb); have n3_ := Aside0.mk (blk_below (g := gb380) (o := .cells #[.slice none 0 0, .int .i64 0] 32 (0, 0)) (kb BK380.out) hb); have n4_ := Aside0.mk (IsS107.below (si HI384.out) hb); have n5_ := Aside0.mk (blk_below (g := gb394) (o := .cells #[.slice none 0 0] 29 (0, 0)) (kb BK394.out) hb); have n6_ := Aside0.mk (below_step (bi HB.out) hb); have n7_ := Aside0.mk (hbox); have n8_ := Aside0.mk ((gs hg (bi HB.out))); have n9_ := Aside0.mk ((gs hg (bi HB.out))); have n10_ := Aside0.mk ((ga hg BK379.out)); have n11_ := Aside0.mk ((gc hg BK379.out)); have n12_ := Aside0.mk ((ga hg BK380.out)); have n13_ := Aside0.mk ((gc hg BK380.out)); have n14_ := Aside0.mk ((ga hg BK394.out)); have n15_ := Aside0.mk ((gc hg BK394.out)); have n16_ := Aside0.mk ((by rw [hg]; exact Nat.ne_of_lt (IsS107.lt (show IsS107 w _ g384 t381 t392 t393 from si HI384.out)) : g384 ≠ gb395)); have n17_ := Aside0.mk ((by rw [hg]; exact Nat.ne_of_gt (IsS107.lt (show IsS107 w _ g384 t381 t392 t393 from si HI384.out)) : gb395 ≠ g384)); clear HO387; clear HO390; clear BK379; clear BK380; clear HI384; clear BK394; clear HB; have HO387 := n0_; have HO390 := n1_; have BK379 := n2_; have BK380 := n3_; have HI384 := n4_; have BK394 := n5_; have HB := n6_; have BK395 := n7_; have GW395 := n8_; have GE395 := n9_; have NB379_395 := n10_; have NB395_379 := n11_; have NB380_395 := n12_; have NB395_380 := n13_; have NB394_395 := n14_; have NB395_394 := n15_; have NB384_395 := n16_; have NB395_384 := n17_; clear n0_ n1_ n2_ n3_ n4_ n5_ n6_ n7_ n8_ n9_ n10_ n11_ n12_ n13_ n14_ n15_ n16_ n17_; clear hb hbox hg; obtain ⟨Ao38, co38, eo38⟩ := Kd.S_slice HO387.out; subst eo38; have hnb39 := NB394_379.out; have hnc39 := NB379_394.out; have hnb40 := NB394_380.out; have hnc40 := NB380_394.out; have hnb41 := NB394_395.out; have hnc41 := NB395_394.out; have hnb42 := NB394_384.out; have hnc42 := NB384_394.out; have hcz43_0 : w37.cell? ⟨gb394, 0, none⟩ = some (.slice none 0 0) := cl BK394 0; have hfz43_0 := blk_frozen BK394.out 0; obtain ⟨Ao44, co44, eo44, _⟩ := Kd.Q_slice HO390.out; subst eo44; have hnb45 := NB395_379.out; have hnc45 := NB379_395.out; have hnb46 := NB395_380.out; have hnc46 := NB380_395.out; have hnb47 := NB395_384.out; have hnc47 := NB384_395.out; have hcz48_0 : w37.cell? ⟨gb395, 0, none⟩ = some (.slice none 0 0) := cl BK395 0; have hcz48_1 : w37.cell? ⟨gb395, 1, none⟩ = some (.int .i64 0) := cl BK395 1; have hfz48_0 := blk_frozen BK395.out 0; have hfz48_1 := blk_frozen BK395.out 1) | ((with_reducible refine gate_callee (f := 59) rfl ?_); refine goesM_ (some 17) rfl rfl Try.func59 #[.pointer (some ⟨g384, 0, none⟩)] ?_; (with_reducible refine (spec_l6DrawAddr.calls g384 t381 t392 t393 t396 t397 t398 w _ ?side1 ?side2 A4.out).mono ?_); (case side1 => exact si HI384.out); (case side2 => exact bi HB.out); rintro e w49 ⟨rfl, hi, hb, hk⟩; refine ⟨_, rfl, ?_⟩; have n0_ := Aside0.mk (KeepBut.blk hk (g' := gb379) (o := .cells #[.slice none 0 0] 29 (0, 0)) (kf BK379.out) NB379_384.out (by simp)); have n1_ := Aside0.mk (KeepBut.blk hk (g' := gb380) (o := .cells #[.slice none 0 0, .int .i64 0] 32 (0, 0)) (kf BK380.out) NB380_384.out (by simp)); have n2_ := Aside0.mk (Kd.S_mono (Kd.S_keep (IsS107.apartS (show IsS107 w _ g384 t381 t392 t393 from si HI384.out) (ks ((Kd.S_mono (Kd.S_mono (Kd.S_far (p := ⟨gb395, 1, none⟩) (Kd.S_far (p := ⟨gb395, 0, none⟩) (Kd.S_far (p := ⟨gb394, 0, none⟩) (Kd.S_types (Kd.S_types HO387.out BK394.out (by decide)) BK395.out (by decide)) (fun _ hk => hk.1.2) (.slice Ao38 t385.length co38)) (fun _ hk => hk.2) (.slice Ao44 t388.length co44)) (fun _ hk => hk.2) (.int .i64 t391)) (fun _ h_ => h_.1)) (fun _ h_ => h_.1)))) (by decide)) hk (fun _ h => h.2)) (fun _ h => h.1)); have n3_ := Aside0.mk (Kd.Q_mono (Kd.Q_keep (IsS107.apartQ (show IsS107 w _ g384 t381 t392 t393 from si HI384.out) (kq ((Kd.Q_mono (Kd.Q_mono (Kd.Q_far (p := ⟨gb395, 1, none⟩) (Kd.Q_far (p := ⟨gb395, 0, none⟩) (Kd.Q_far (p := ⟨gb394, 0, none⟩) (Kd.Q_types (Kd.Q_types HO390.out BK394.out (by decide)) BK395.out (by decide)) (fun _ hk => hk.1.2) (.slice Ao38 t385.length co38)) (fun _ hk => hk.2) (.slice Ao44 t388.length co44)) (fun _ hk => hk.2) (.int .i64 t391)) (fun _ h_ => h_.1)) (fun _ h_ => h_.1)))) (by decide)) hk (fun _ h => h.2)) (fun _ h => h.1)); have n4_ := Aside0.mk (KeepBut.blk hk (g' := gb394) (o := .cells #[.slice Ao38 t385.length co38] 29 (0, 0)) (by (with_reducible repeat (first | refine blk_drewN ?_ _ | refine blk_drew ?_ | refine blk_alloc ?_ _)); refine blk_far ?_ NB394_395.out _; (with_reducible repeat (first | refine blk_drewN ?_ _ | refine blk_drew ?_ | refine blk_alloc ?_ _)); refine blk_far ?_ NB394_395.out _; (with_reducible repeat (first | refine blk_drewN ?_ _ | refine blk_drew ?_ | refine blk_alloc ?_ _)); refine blk_put (cs := #[.slice none 0 0]) ?_ 0 _ rfl; (with_reducible repeat (first | refine blk_drewN ?_ _ | refine blk_drew ?_ | refine blk_alloc ?_ _)); exact BK394.out) NB394_384.out (by simp)); have n5_ := Aside0.mk (KeepBut.blk hk (g' := gb395) (o := .cells #[.slice Ao44 t388.length co44, .int .i64 t391] 32 (0, 0)) (by (with_reducible repeat (first | refine blk_drewN ?_ _ | refine blk_drew ?_ | refine blk_alloc ?_ _)); refine blk_put (cs := #[.slice Ao44 t388.length co44, .int .i64 0]) ?_ 1 _ rfl; (with_reducible repeat (first | refine blk_drewN ?_ _ | refine blk_drew ?_ | refine blk_alloc ?_ _)); refine blk_put (cs := #[.slice none 0 0, .int .i64 0]) ?_ 0 _ rfl; (with_reducible repeat (first | refine blk_drewN ?_ _ | refine blk_drew ?_ | refine blk_alloc ?_ _)); refine blk_far ?_ NB395_394.out _; (with_reducible repeat (first | refine blk_drewN ?_ _ | refine blk_drew ?_ | refine blk_alloc ?_ _)); exact BK395.out) NB395_384.out (by simp)); have n6_ := Aside0.mk (hb); have n7_ := Aside0.mk (hi); clear BK379; clear BK380; clear HO387; clear HO390; clear BK394; clear BK395; clear HB; clear HI384; have BK379 := n0_; have BK380 := n1_; have HO387 := n2_; have HO390 := n3_; have BK394 := n4_; have BK395 := n5_; have HB := n6_; have HI384 := n7_; clear n0_ n1_ n2_ n3_ n4_ n5_ n6_ n7_; (try clear hb); (try clear hb2); (try clear hk); (try clear hi)) | ((with_reducible refine gate_callee (f := 58) rfl ?_); refine goesM_ (some 19) rfl rfl Try.func58 #[.pointer (some ⟨g384, 0, none⟩), .int .i64 2] ?_; (with_reducible refine (spec_l1Once.calls g384 t381 t397 t398 2 false t400 t401 w _ ?side1 ?side2 A5.out).mono ?_); (case side1 => exact si HI384.out); (case side2 => exact bi HB.out); rintro e w50 ⟨rfl, hi, hb, hk⟩; refine ⟨_, rfl, ?_⟩; have n0_ := Aside0.mk (KeepBut.blk hk (g' := gb379) (o := .cells #[.slice none 0 0] 29 (0, 0)) (kb BK379.out) NB379_384.out (by simp)); have n1_ := Aside0.mk (KeepBut.blk hk (g' := gb380) (o := .cells #[.slice none 0 0, .int .i64 0] 32 (0, 0)) (kb BK380.out) NB380_384.out (by simp)); have n2_ := Aside0.mk (Kd.S_mono (Kd.S_keep (IsS107.apartS (show IsS107 w _ g384 t381 t397 t398 from si HI384.out) (ks HO387.out) (by decide)) hk (fun _ h => h.2)) (fun _ h => h.1)); have n3_ := Aside0.mk (Kd.Q_mono (Kd.Q_keep (IsS107.apartQ (show IsS107 w _ g384 t381 t397 t398 from si HI384.out) (kq HO390.out) (by decide)) hk (fun _ h => h.2)) (fun _ h => h.1)); have n4_ := Aside0.mk (KeepBut.blk hk (g' := gb394) (o := .cells #[.slice Ao38 t385.length co38] 29 (0, 0)) (kb BK394.out) NB394_384.out (by simp)); have n5_ := Aside0.mk (KeepBut.blk hk (g' := gb395) (o := .cells #[.slice Ao44 t388.length co44, .int .i64 t391] 32 (0, 0)) (kb BK395.out) NB395_384.out (by simp)); have n6_ := Aside0.mk (hb); have n7_ := Aside0.mk (hi); clear BK379; clear BK380; clear HO387; clear HO390; clear BK394; clear BK395; clear HB; clear HI384; have BK379 := n0_; have BK380 := n1_; have HO387 := n2_; have HO390 := n3_; have BK394 := n4_; have BK395 := n5_; have HB := n6_; have HI384 := n7_; clear n0_ n1_ n2_ n3_ n4_ n5_ n6_ n7_; (try clear hb); (try clear hb2); (try clear hk); (try clear hi)))
  have n0_ := Aside0.mk (Kd.S_drew HO387.out)
  have n1_ := Aside0.mk (Kd.Q_drew HO390.out)
  have n2_ := Aside0.mk (blk_drew BK379.out)
  have n3_ := Aside0.mk (blk_drew BK380.out)
  have n4_ := Aside0.mk (blk_drew BK394.out)
  have n5_ := Aside0.mk (blk_drew BK395.out)
  have n6_ := Aside0.mk (IsS107.drew HI384.out)
  have n7_ := Aside0.mk (below_drew1 HB.out)
  clear HO387; clear HO390; clear BK379; clear BK380; clear BK394; clear BK395; clear HI384; clear HB; have HO387 := n0_; have HO390 := n1_; have BK379 := n2_; have BK380 := n3_; have BK394 := n4_; have BK395 := n5_; have HI384 := n6_; have HB := n7_; clear n0_ n1_ n2_ n3_ n4_ n5_ n6_ n7_
  refine start_ (n := 6) (S := fun w' => w'.cell? ⟨gb394, 0, none⟩ = some (.slice Ao38 t385.length co38) ∧ w'.cell? ⟨gb395, 0, none⟩ = some (.slice Ao44 t388.length co44) ∧ w'.cell? ⟨gb395, 1, none⟩ = some (.int .i64 t391)) (ds := []) (bm 6 0) (by kernel_rfl) rfl (by kernel_rfl) ⟨cl BK394 0, cl BK395 0, cl BK395 1⟩ (fun hHeld => ?_)
  generalize w50.drew = w51 at HO387 HO390 BK379 BK380 BK394 BK395 HI384 HB hHeld ⊢
  refine pv_ 2 (some 25) (bm 6 4) ?_
  refine tv_ 0 (some 23) (bm 6 5) hHeld ?_
  refine tv_ 1 (some 24) (bm 6 7) hHeld ?_
  refine ov_ 3 none (bm 6 15) (fun K hK => ?_)
  have hs52 : w51.cell? ⟨gb379, 0, none⟩ = some (.slice none 0 0) := cl BK379 0
  have hfs52 := blk_frozen BK379.out 0
  have hns52_1 := NB380_379.out
  have hns52_2 := NB394_379.out
  have hns52_3 := NB395_379.out
  have hms52_1 := NB379_380.out
  have hms52_2 := NB379_394.out
  have hms52_3 := NB379_395.out
  refine skip_ (w1 := ?_) (by rfl) rfl ?_ ?_
  rotate_left
  ·go_simp
   rfl
  refine hK.out _ _ ⟨((cell_far (p := ⟨gb379, _, none⟩) NB394_379.out _).trans (hHeld.1)), ((cell_far (p := ⟨gb379, _, none⟩) NB395_379.out _).trans (hHeld.2.1)), ((cell_far (p := ⟨gb379, _, none⟩) NB395_379.out _).trans (hHeld.2.2))⟩ (fun hHeld => ?_)
  clear hK K
  refine ov_ 4 none (bm 6 31) (fun K hK => ?_)
  have hs53 : w51.cell? ⟨gb380, 0, none⟩ = some (.slice none 0 0) := cl BK380 0
  have hfs53 := blk_frozen BK380.out 0
  have hns53_0 := NB379_380.out
  have hns53_2 := NB394_380.out
  have hns53_3 := NB395_380.out
  have hms53_0 := NB380_379.out
  have hms53_2 := NB380_394.out
  have hms53_3 := NB380_395.out
  have hs54 : w51.cell? ⟨gb380, 1, none⟩ = some (.int .i64 0) := cl BK380 1
  have hfs54 := blk_frozen BK380.out 1
  have hns54_0 := NB379_380.out
  have hns54_2 := NB394_380.out
  have hns54_3 := NB395_380.out
  have hms54_0 := NB380_379.out
  have hms54_2 := NB380_394.out
  have hms54_3 := NB380_395.out
  refine skip_ (w1 := ?_) (by rfl) rfl ?_ ?_
  rotate_left
  ·go_simp
   rfl
  refine hK.out _ _ ⟨((cell_far (p := ⟨gb380, _, none⟩) NB394_380.out _).trans (((cell_far (p := ⟨gb380, _, none⟩) NB394_380.out _).trans (hHeld.1)))), ((cell_far (p := ⟨gb380, _, none⟩) NB395_380.out _).trans (((cell_far (p := ⟨gb380, _, none⟩) NB395_380.out _).trans (hHeld.2.1)))), ((cell_far (p := ⟨gb380, _, none⟩) NB395_380.out _).trans (((cell_far (p := ⟨gb380, _, none⟩) NB395_380.out _).trans (hHeld.2.2))))⟩ (fun hHeld => ?_)
  clear hK K
  refine pv_ 5 (some 4) (bm 6 63) ?_
  refine done_ (by kernel_rfl) ?_
  try go_wp2
  refine bodyPost_ret (results_list (rs := [.cell 2 29, .cell 3 32, .tmp 4]) rfl (by simp) (.cell gb379 29 #[.slice Ao38 t385.length co38] (0, 0) _ rfl (by (with_reducible repeat (first | refine blk_drewN ?_ _ | refine blk_drew ?_ | refine blk_alloc ?_ _)); refine blk_far ?_ NB379_380.out _; (with_reducible repeat (first | refine blk_drewN ?_ _ | refine blk_drew ?_ | refine blk_alloc ?_ _)); refine blk_far ?_ NB379_380.out _; (with_reducible repeat (first | refine blk_drewN ?_ _ | refine blk_drew ?_ | refine blk_alloc ?_ _)); refine blk_put (cs := #[.slice none 0 0]) ?_ 0 _ rfl; (with_reducible repeat (first | refine blk_drewN ?_ _ | refine blk_drew ?_ | refine blk_alloc ?_ _)); exact BK379.out) Try.underlying29 rfl (by kernel_rfl) (.cell gb380 32 #[.slice Ao44 t388.length co44, .int .i64 t391] (0, 0) _ rfl (by (with_reducible repeat (first | refine blk_drewN ?_ _ | refine blk_drew ?_ | refine blk_alloc ?_ _)); refine blk_put (cs := #[.slice Ao44 t388.length co44, .int .i64 0]) ?_ 1 _ rfl; (with_reducible repeat (first | refine blk_drewN ?_ _ | refine blk_drew ?_ | refine blk_alloc ?_ _)); refine blk_put (cs := #[.slice none 0 0, .int .i64 0]) ?_ 0 _ rfl; (with_reducible repeat (first | refine blk_drewN ?_ _ | refine blk_drew ?_ | refine blk_alloc ?_ _)); refine blk_far ?_ NB380_379.out _; (with_reducible repeat (first | refine blk_drewN ?_ _ | refine blk_drew ?_ | refine blk_alloc ?_ _)); exact BK380.out) Try.underlying32 rfl (by kernel_rfl) (.tmp .nil)))) rfl ?_
  exact ⟨_, _, rt, ks (Kd.S_mono (Kd.S_far (p := ⟨gb380, 1, none⟩) (Kd.S_far (p := ⟨gb380, 0, none⟩) (Kd.S_far (p := ⟨gb379, 0, none⟩) (Kd.S_types (Kd.S_types HO387.out BK379.out (by decide)) BK380.out (by decide)) (fun _ hk => hk.1.2) (.slice Ao38 t385.length co38)) (fun _ hk => hk.2) (.slice Ao44 t388.length co44)) (fun _ hk => hk.2) (.int .i64 t391)) (fun _ hk => hk.1.1)), kq (Kd.Q_mono (Kd.Q_far (p := ⟨gb380, 1, none⟩) (Kd.Q_far (p := ⟨gb380, 0, none⟩) (Kd.Q_far (p := ⟨gb379, 0, none⟩) (Kd.Q_types (Kd.Q_types HO390.out BK379.out (by decide)) BK380.out (by decide)) (fun _ hk => hk.1.2) (.slice Ao38 t385.length co38)) (fun _ hk => hk.2) (.slice Ao44 t388.length co44)) (fun _ hk => hk.2) (.int .i64 t391)) (fun _ hk => trivial)), bi HB.out⟩

/-! ### impl_OpLen: function 38 -/
def impl_OpLen.j0 : Nat → Int → Bool → Option (Int)
 | 0, _, _ => none
 | k + 1, x0, x3 => if x3 = true then (some 2) else (if x0 = 2 then (some 3) else (if x0 = 3 then (some 3) else ((impl_within.f x0 14 20).bind fun t406 => (if t406 = true then (some 3) else (if x0 = 29 then (some 3) else (some 1))))))
def impl_OpLen.f (k : Nat) (a0 : Int) : Option (Int) := if a0 = 1 then (impl_OpLen.j0 k a0 true) else ((impl_within.f a0 4 9).bind fun t405 => (impl_OpLen.j0 k a0 t405))
set_option maxHeartbeats 8000000 in
set_option maxRecDepth 100000 in
theorem impl_OpLen.calls (k : Nat) (a0 : Int) (r : Int) (w : World) (h : impl_OpLen.f k a0 = some r) :
  Calls Try.prog 38 #[.int .i64 a0] w fun e w' => e = .returned (.int .i64 r) ∧ Drawn0 w w' := by
 have H : (if a0 = 1 then (impl_OpLen.j0 k a0 true) else ((impl_within.f a0 4 9).bind fun t405 => (impl_OpLen.j0 k a0 t405))) = some r := h
 clear h
 have HC2 := Aside0.mk H
 clear H
 go_enter Try.func38, Try.ntmps38
 go_upto_region 1 with (fail)
 go_cut [3] (fun v3 wc => ∃ (kq : Nat) (x3_1 : Bool), v3 = .bool x3_1 ∧ Aside0 (impl_OpLen.j0 kq a0 x3_1 = some r) ∧ Aside0 (kq ≤ k) ∧ Drawn0 w wc)
 case first =>
  have H := HC2.out
  clear HC2
  by_cases c3 : a0 = 1
  ·rw [if_pos c3] at H
   have c3b0 : (a0 == 1) = true := beq_iff_eq.mpr c3
   have c3b1 : (a0 != 1) = false := bne_eq_false_iff_eq.mpr c3
   clear c3
   (first | rw [c3b0] | (simp only [i64_w, i32_w]; rw [c3b0]) | skip)
   have H' := Aside0.mk H
   clear H
   go_wp2
   go_meet
   case rel => exact ⟨_, (true), (by first | rfl | (simp; done) | (simp [*]; done)), H', ⟨by first | omega | exact Nat.le_refl _⟩, by repeat (first | exact Drawn0.refl _ | apply Drawn0.step)⟩
  ·rw [if_neg c3] at H
   have c3b0 : (a0 == 1) = false := beq_eq_false_iff_ne.mpr c3
   have c3b1 : (a0 != 1) = true := bne_iff_ne.mpr c3
   (first | rw [c3b0] | (simp only [i64_w, i32_w]; rw [c3b0]) | skip)
   replace H := Option.bind_eq_some_iff.mp H
   obtain ⟨t405, A40, H⟩ := H
   replace H : (impl_OpLen.j0 k a0 t405) = some r := H
   have A4 := Aside0.mk A40
   clear A40
   have H' := Aside0.mk H
   clear H
   go_wp2_with (first | (go_at_call 67; (with_reducible refine (impl_within.calls a0 4 9 t405 _ A4.out).mono ?_); rintro e w' ⟨rfl, ⟨nd, rfl⟩⟩))
   go_meet
   case rel => exact ⟨_, (t405), (by first | rfl | (simp; done) | (simp [*]; done)), H', ⟨by first | omega | exact Nat.le_refl _⟩, by repeat (first | exact Drawn0.refl _ | apply Drawn0.step)⟩
 case rest =>
  clear HC2; (try clear p2); (try clear c3); (try clear c3b0); (try clear c3b1)
  obtain ⟨kq, x3_1, rfl, HA, HJ1, ⟨mc1, rfl⟩⟩ := hcut
  cases kq with
  | zero => exact absurd HA.out (by simp [impl_OpLen.j0])
  | succ kj1 =>
   have H := HA.out
   clear HA
   simp only [impl_OpLen.j0] at H
   by_cases c5 : x3_1 = true
   ·subst c5
    have H1 : (some 2) = some r := by rw [if_pos rfl] at H; exact H
    clear H
    have H := H1
    clear H1
    obtain rfl := Option.some.inj H
    go_wp2
    go_ret
    exact ⟨by first | rfl | (simp; done) | (simp [*]; done), by repeat (first | exact Drawn0.refl _ | apply Drawn0.step)⟩
   ·replace c5 := Bool.eq_false_iff.mpr c5
    subst c5
    have H1 : (if a0 = 2 then (some 3) else (if a0 = 3 then (some 3) else ((impl_within.f a0 14 20).bind fun t406 => (if t406 = true then (some 3) else (if a0 = 29 then (some 3) else (some 1)))))) = some r := by rw [if_neg (show ¬ (false = true) by decide)] at H; exact H
    clear H
    have H := H1
    clear H1
    by_cases c6 : a0 = 2
    ·rw [if_pos c6] at H
     have c6b0 : (a0 == 2) = true := beq_iff_eq.mpr c6
     have c6b1 : (a0 != 2) = false := bne_eq_false_iff_eq.mpr c6
     clear c6
     obtain rfl := Option.some.inj H
     go_wp2
     go_ret
     exact ⟨by first | rfl | (simp; done) | (simp [*]; done), by repeat (first | exact Drawn0.refl _ | apply Drawn0.step)⟩
    ·rw [if_neg c6] at H
     have c6b0 : (a0 == 2) = false := beq_eq_false_iff_ne.mpr c6
     have c6b1 : (a0 != 2) = true := bne_iff_ne.mpr c6
     by_cases c7 : a0 = 3
     ·rw [if_pos c7] at H
      have c7b0 : (a0 == 3) = true := beq_iff_eq.mpr c7
      have c7b1 : (a0 != 3) = false := bne_eq_false_iff_eq.mpr c7
      clear c7
      obtain rfl := Option.some.inj H
      go_wp2
      go_ret
      exact ⟨by first | rfl | (simp; done) | (simp [*]; done), by repeat (first | exact Drawn0.refl _ | apply Drawn0.step)⟩
     ·rw [if_neg c7] at H
      have c7b0 : (a0 == 3) = false := beq_eq_false_iff_ne.mpr c7
      have c7b1 : (a0 != 3) = true := bne_iff_ne.mpr c7
      replace H := Option.bind_eq_some_iff.mp H
      obtain ⟨t406, A80, H⟩ := H
      replace H : (if t406 = true then (some 3) else (if a0 = 29 then (some 3) else (some 1))) = some r := H
      have A8 := Aside0.mk A80
      clear A80
      by_cases c9 : t406 = true
      ·subst c9
       have H1 : (some 3) = some r := by rw [if_pos rfl] at H; exact H
       clear H
       have H := H1
       clear H1
       obtain rfl := Option.some.inj H
       go_wp2_with (first | (go_at_call 67; (with_reducible refine (impl_within.calls a0 14 20 true _ A8.out).mono ?_); rintro e w' ⟨rfl, ⟨nd, rfl⟩⟩))
       go_ret
       exact ⟨by first | rfl | (simp; done) | (simp [*]; done), by repeat (first | exact Drawn0.refl _ | apply Drawn0.step)⟩
      ·replace c9 := Bool.eq_false_iff.mpr c9
       subst c9
       have H1 : (if a0 = 29 then (some 3) else (some 1)) = some r := by rw [if_neg (show ¬ (false = true) by decide)] at H; exact H
       clear H
       have H := H1
       clear H1
       by_cases c10 : a0 = 29
       ·rw [if_pos c10] at H
        have c10b0 : (a0 == 29) = true := beq_iff_eq.mpr c10
        have c10b1 : (a0 != 29) = false := bne_eq_false_iff_eq.mpr c10
        clear c10
        obtain rfl := Option.some.inj H
        go_wp2_with (first | (go_at_call 67; (with_reducible refine (impl_within.calls a0 14 20 false _ A8.out).mono ?_); rintro e w' ⟨rfl, ⟨nd, rfl⟩⟩))
        go_ret
        exact ⟨by first | rfl | (simp; done) | (simp [*]; done), by repeat (first | exact Drawn0.refl _ | apply Drawn0.step)⟩
       ·rw [if_neg c10] at H
        have c10b0 : (a0 == 29) = false := beq_eq_false_iff_ne.mpr c10
        have c10b1 : (a0 != 29) = true := bne_iff_ne.mpr c10
        obtain rfl := Option.some.inj H
        go_wp2_with (first | (go_at_call 67; (with_reducible refine (impl_within.calls a0 14 20 false _ A8.out).mono ?_); rintro e w' ⟨rfl, ⟨nd, rfl⟩⟩))
        go_ret
        exact ⟨by first | rfl | (simp; done) | (simp [*]; done), by repeat (first | exact Drawn0.refl _ | apply Drawn0.step)⟩

/-! ### impl_Byte: function 34 -/
def impl_Byte.f (a0 : Int) : Option (Int) := some (Go.bits .and .i64 a0 255)
set_option maxHeartbeats 8000000 in
set_option maxRecDepth 100000 in
theorem impl_Byte.calls (a0 : Int) (r : Int) (w : World) (h : impl_Byte.f a0 = some r) :
  Calls Try.prog 34 #[.int .i64 a0] w fun e w' => e = .returned (.int .i64 r) ∧ Drawn0 w w' := by
 have H : (some (Go.bits .and .i64 a0 255)) = some r := h
 clear h
 obtain rfl := Option.some.inj H
 go_enter Try.func34, Try.ntmps34
 go_wp2
 go_ret
 exact ⟨by first | rfl | (simp; done) | (simp [*]; done), by repeat (first | exact Drawn0.refl _ | apply Drawn0.step)⟩

/-! ### impl_Join: function 39 -/
def impl_Join.f (a0 : Int) (a1 : Int) : Option (Int) := (impl_Byte.f a0).bind fun t407 => ((impl_Byte.f a1).bind fun t408 => (some (wrap64 (t407 + (wrap64 (256 * t408))))))
set_option maxHeartbeats 8000000 in
set_option maxRecDepth 100000 in
theorem impl_Join.calls (a0 : Int) (a1 : Int) (r : Int) (w : World) (h : impl_Join.f a0 a1 = some r) :
  Calls Try.prog 39 #[.int .i64 a0, .int .i64 a1] w fun e w' => e = .returned (.int .i64 r) ∧ Drawn0 w w' := by
 have H : ((impl_Byte.f a0).bind fun t407 => ((impl_Byte.f a1).bind fun t408 => (some (wrap64 (t407 + (wrap64 (256 * t408))))))) = some r := h
 clear h
 replace H := Option.bind_eq_some_iff.mp H
 obtain ⟨t407, A30, H⟩ := H
 replace H : ((impl_Byte.f a1).bind fun t408 => (some (wrap64 (t407 + (wrap64 (256 * t408)))))) = some r := H
 have A3 := Aside0.mk A30
 clear A30
 replace H := Option.bind_eq_some_iff.mp H
 obtain ⟨t408, A40, H⟩ := H
 replace H : (some (wrap64 (t407 + (wrap64 (256 * t408))))) = some r := H
 have A4 := Aside0.mk A40
 clear A40
 obtain rfl := Option.some.inj H
 go_enter Try.func39, Try.ntmps39
 go_wp2_with (first | ((with_reducible refine gate_callee (f := 34) rfl ?_); refine goesM_ (some 6) rfl rfl Try.func34 #[.int .i64 a0] ?_; (with_reducible refine (impl_Byte.calls a0 t407 _ A3.out).mono ?_); rintro e w' ⟨rfl, ⟨nd, rfl⟩⟩; refine ⟨_, rfl, ?_⟩) | ((with_reducible refine gate_callee (f := 34) rfl ?_); refine goesM_ (some 8) rfl rfl Try.func34 #[.int .i64 a1] ?_; (with_reducible refine (impl_Byte.calls a1 t408 _ A4.out).mono ?_); rintro e w' ⟨rfl, ⟨nd, rfl⟩⟩; refine ⟨_, rfl, ?_⟩))
 go_ret
 exact ⟨by first | rfl | (simp; done) | (simp [*]; done), by repeat (first | exact Drawn0.refl _ | apply Drawn0.step)⟩

end Go.Proofs.Ytmkccgbfgebfbaa.MFnFetched
