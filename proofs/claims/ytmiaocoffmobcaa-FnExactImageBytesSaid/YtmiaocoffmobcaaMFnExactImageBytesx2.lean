/- Walks of functions that the law FnExactImageBytes reaches: each comes to just what its Lean function says. (Begun as the texts that print.sh wrote for this claim; some of them, and those that it does not write, are mine.) No condition. -/
import Derived.Test.YtmiaocoffmobcaaMFnExactImageBytesx1
namespace Go.Proofs.Ytmiaocoffmobcaa.MFnExactImageBytes
open Go.RowKit Go.Proofs.YtmiaocoffmobcaaW.PrintWords Go.Proofs.YtmiaocoffmobcaaW.PrintLast Go.Proofs.YtmiaocoffmobcaaW.PrintMore
attribute [local go_sem] max2_int min2_int max_two min_two max_three min_three max_four min_four   -- for this text's walks alone
set_option linter.unusedVariables false
set_option linter.unusedSimpArgs false

/-! ### spec_ImageBytes: function 43 -/
mutual
def spec_ImageBytes.l0 : Nat → List Int → Int → Int → List (List Int) → Option (List Int)
  | 0, _, _, _, _ => none
  | k + 1, x3, x4, x5, x145000 => if x5 < (x145000.length : Int) then (spec_ImageBytes.l1 k x3 x4 x5 0 x145000) else (if 5 < (x3.length : Int) then (some (x3.set (5 : Int).toNat ((x4) % 256))) else (none))
def spec_ImageBytes.l1 : Nat → List Int → Int → Int → Int → List (List Int) → Option (List Int)
  | 0, _, _, _, _, _ => none
  | k + 1, x3, x4, x5, x6, x145000 => if x6 < 256 then (if 0 ≤ x5 then (if x5 < (x145000.length : Int) then (if 0 ≤ x6 then (if x6 < ((rd_L1 x145000 x5).length : Int) then (if x3.length < 140737488355328 then (spec_ImageBytes.l1 k (x3 ++ [(rd (rd_L1 x145000 x5) x6) % 256]) (wrap64 (x4 + (rd (rd_L1 x145000 x5) x6))) x5 (wrap64 (x6 + 1)) x145000) else (none)) else (none)) else (none)) else (none)) else (none)) else (spec_ImageBytes.l0 k x3 x4 (wrap64 (x5 + 1)) x145000)
end
def spec_ImageBytes.f (k : Nat) (l0_0 : List (List Int)) : Option (List Int) := (spec_ImageOk.f k l0_0).bind fun t145 => (if t145 = true then ((some (([50, 67, 76, 75] : List Int) : List Int)).bind fun y149 => ((some (([((l0_0.length : Int)) % 256, 0] : List Int) : List Int)).bind fun y152 => (if y149.length + y152.length < 140737488355328 then (spec_ImageBytes.l0 k (y149 ++ y152) 0 0 l0_0) else (none)))) else (some (([] : List Int))))
theorem spec_ImageBytes.mono_l : ∀ k, (∀ y0 y1 y2 y3, LeO (spec_ImageBytes.l0 k y0 y1 y2 y3) (spec_ImageBytes.l0 (k + 1) y0 y1 y2 y3)) ∧ (∀ y0 y1 y2 y3 y4, LeO (spec_ImageBytes.l1 k y0 y1 y2 y3 y4) (spec_ImageBytes.l1 (k + 1) y0 y1 y2 y3 y4))
  | 0 => ⟨fun _ _ _ _ r h => by simp [spec_ImageBytes.l0] at h, fun _ _ _ _ _ r h => by simp [spec_ImageBytes.l1] at h⟩
  | k + 1 => by
    obtain ⟨ih0, ih1⟩ := spec_ImageBytes.mono_l k
    refine ⟨?_, ?_⟩
    · intro y0 y1 y2 y3
      unfold spec_ImageBytes.l0
      repeat' first
      | (with_reducible exact ih0 _ _ _ _)
      | (with_reducible exact ih1 _ _ _ _ _)
      | (with_reducible exact spec_ImageOk.mono _ _)
      | (with_reducible exact LeO.refl _)
      | (with_reducible exact LeO.none _)
      | (with_reducible refine LeO.ite ?_ ?_)
      | (with_reducible refine LeO.bind ?_ (fun _ => ?_))
      | exact ih0 _ _ _ _
      | exact ih1 _ _ _ _ _
      | exact spec_ImageOk.mono _ _
      | exact LeO.none _
      | refine LeO.ite ?_ ?_
      | refine LeO.bind ?_ (fun _ => ?_)
    · intro y0 y1 y2 y3 y4
      unfold spec_ImageBytes.l1
      repeat' first
      | (with_reducible exact ih0 _ _ _ _)
      | (with_reducible exact ih1 _ _ _ _ _)
      | (with_reducible exact spec_ImageOk.mono _ _)
      | (with_reducible exact LeO.refl _)
      | (with_reducible exact LeO.none _)
      | (with_reducible refine LeO.ite ?_ ?_)
      | (with_reducible refine LeO.bind ?_ (fun _ => ?_))
      | exact ih0 _ _ _ _
      | exact ih1 _ _ _ _ _
      | exact spec_ImageOk.mono _ _
      | exact LeO.none _
      | refine LeO.ite ?_ ?_
      | refine LeO.bind ?_ (fun _ => ?_)
theorem spec_ImageBytes.mono : ∀ a0 k, LeO (spec_ImageBytes.f k a0) (spec_ImageBytes.f (k + 1) a0) := by
  intro a0 k
  obtain ⟨ih0, ih1⟩ := spec_ImageBytes.mono_l k
  unfold spec_ImageBytes.f
  repeat' first
      | (with_reducible exact ih0 _ _ _ _)
      | (with_reducible exact ih1 _ _ _ _ _)
      | (with_reducible exact spec_ImageOk.mono _ _)
      | (with_reducible exact LeO.refl _)
      | (with_reducible exact LeO.none _)
      | (with_reducible refine LeO.ite ?_ ?_)
      | (with_reducible refine LeO.bind ?_ (fun _ => ?_))
      | exact ih0 _ _ _ _
      | exact ih1 _ _ _ _ _
      | exact spec_ImageOk.mono _ _
      | exact LeO.none _
      | refine LeO.ite ?_ ?_
      | refine LeO.bind ?_ (fun _ => ?_)
set_option maxHeartbeats 8000000 in
set_option maxRecDepth 100000 in
theorem spec_ImageBytes.calls (k : Nat) (A0_0 : Option Addr) (c0_0 : Nat) (l0_0 : List (List Int)) (r : List Int) (w : World) (hr0_0 : Kd.C (Kd.slice 3 (Kd.int .i64)) w A0_0 l0_0.length l0_0) (hc0_0 : l0_0.length ≤ c0_0) (h : spec_ImageBytes.f k l0_0 = some r) :
    Calls Try.prog 43 #[.agg #[.slice A0_0 l0_0.length c0_0]] w fun e w' => ∃ v0_ : Value, e = .returned (v0_) ∧ Kd.R (Kd.int .u8) 5 w' w.heap.size (fun _ => True) v0_ r ∧ Below w.heap.size w w' := by
  have hu27 := Try.underlying27
  have HR0_0 := Aside0.mk hr0_0
  have HC0_0 := Aside0.mk hc0_0
  clear hr0_0 hc0_0
  have HB := Aside0.mk (Below.refl w.heap.size w)
  have H : ((spec_ImageOk.f k l0_0).bind fun t145 => (if t145 = true then ((some (([50, 67, 76, 75] : List Int) : List Int)).bind fun y149 => ((some (([((l0_0.length : Int)) % 256, 0] : List Int) : List Int)).bind fun y152 => (if y149.length + y152.length < 140737488355328 then (spec_ImageBytes.l0 k (y149 ++ y152) 0 0 l0_0) else (none)))) else (some (([] : List Int))))) = some r := h
  clear h
  replace H := Option.bind_eq_some_iff.mp H
  obtain ⟨t145, A20, H⟩ := H
  replace H : (if t145 = true then ((some (([50, 67, 76, 75] : List Int) : List Int)).bind fun y149 => ((some (([((l0_0.length : Int)) % 256, 0] : List Int) : List Int)).bind fun y152 => (if y149.length + y152.length < 140737488355328 then (spec_ImageBytes.l0 k (y149 ++ y152) 0 0 l0_0) else (none)))) else (some (([] : List Int)))) = some r := H
  have A2 := Aside0.mk A20
  clear A20
  by_cases c3 : t145 = true
  · subst c3
    have H1 : ((some (([50, 67, 76, 75] : List Int) : List Int)).bind fun y149 => ((some (([((l0_0.length : Int)) % 256, 0] : List Int) : List Int)).bind fun y152 => (if y149.length + y152.length < 140737488355328 then (spec_ImageBytes.l0 k (y149 ++ y152) 0 0 l0_0) else (none)))) = some r := by rw [if_pos rfl] at H; exact H
    clear H
    have H := H1
    clear H1
    obtain ⟨y149, hy149⟩ : ∃ y_ : List Int, y_ = (([50, 67, 76, 75] : List Int)) := ⟨_, rfl⟩
    replace H : ((some (([((l0_0.length : Int)) % 256, 0] : List Int) : List Int)).bind fun y152 => (if y149.length + y152.length < 140737488355328 then (spec_ImageBytes.l0 k (y149 ++ y152) 0 0 l0_0) else (none))) = some r := by first | (rw [hy149]; with_reducible exact H) | (have H2_ := (Option.bind_some _ _).symm.trans H; rw [hy149]; with_reducible exact H2_) | (have H2_ := (Option.bind_some _ _).symm.trans H; with_reducible exact H2_) | with_reducible exact H | (rw [hy149]; exact H) | exact H
    have Ny149 := Aside0.mk hy149
    clear hy149
    obtain ⟨y152, hy152⟩ : ∃ y_ : List Int, y_ = (([((l0_0.length : Int)) % 256, 0] : List Int)) := ⟨_, rfl⟩
    replace H : (if y149.length + y152.length < 140737488355328 then (spec_ImageBytes.l0 k (y149 ++ y152) 0 0 l0_0) else (none)) = some r := by first | (rw [hy152]; with_reducible exact H) | (have H2_ := (Option.bind_some _ _).symm.trans H; rw [hy152]; with_reducible exact H2_) | (have H2_ := (Option.bind_some _ _).symm.trans H; with_reducible exact H2_) | with_reducible exact H | (rw [hy152]; exact H) | exact H
    have Ny152 := Aside0.mk hy152
    clear hy152
    by_cases c4 : y149.length + y152.length < 140737488355328
    · rw [if_pos c4] at H
      have LMc4 := Aside0.mk c4
      clear c4
      obtain ⟨y155, hy155⟩ : ∃ y_ : List Int, y_ = (y149 ++ y152) := ⟨_, rfl⟩
      replace H : (spec_ImageBytes.l0 k y155 0 0 l0_0) = some r := by first | (rw [hy155]; with_reducible exact H) | (have H2_ := (Option.bind_some _ _).symm.trans H; rw [hy155]; with_reducible exact H2_) | (have H2_ := (Option.bind_some _ _).symm.trans H; with_reducible exact H2_) | with_reducible exact H | (rw [hy155]; exact H) | exact H
      have Ny155 := Aside0.mk hy155
      clear hy155
      have H' := Aside0.mk H
      clear H
      go_enter Try.func43, Try.ntmps43
      go_wp2_with (first | ((with_reducible refine gate_dst (N := 1) rfl ?_); refine box_event ?hg (N := 1) ?hd (cs := #[.slice A0_0 l0_0.length c0_0]) (t := 27) ?hr ?_; (case hd => rfl); (case hg => rfl); (case hr => first | (go_simp; done) | (go_simp; rfl)); intro gb144 hg w5 hbox hb; have n0_ := Aside0.mk (below_step (by repeat (first | (with_reducible first | exact HB.out | apply below_alloc | apply pw_below_drewN | apply below_drew1) | exact HB.out)) hb); have n1_ := Aside0.mk (hbox); have n2_ := Aside0.mk ((by rw [hg]; exact (below_size (by repeat (first | (with_reducible first | exact HB.out | apply below_alloc | apply pw_below_drewN | apply below_drew1) | exact HB.out))) : w.heap.size ≤ gb144)); have n3_ := Aside0.mk ((by rw [hg]; exact (below_size (by repeat (first | (with_reducible first | exact HB.out | apply below_alloc | apply pw_below_drewN | apply below_drew1) | exact HB.out))) : w.heap.size ≤ gb144)); clear HB; have HB := n0_; have BK144 := n1_; have GW144 := n2_; have GE144 := n3_; clear n0_ n1_ n2_ n3_; clear hb hbox hg; have hcz6_0 : w5.cell? ⟨gb144, 0, none⟩ = some (.slice A0_0 l0_0.length c0_0) := (blk_cell BK144.out 0).trans rfl; have hfz6_0 := blk_frozen BK144.out 0) | ((with_reducible refine gate_callee (f := 16) rfl ?_); refine goesL_ (some 8) rfl rfl Try.func16 (by kernel_rfl) rfl #[.agg #[.slice A0_0 l0_0.length c0_0]] rfl (by (try simp only [List.map_toArray, List.map_cons, List.map_nil]); first | done | rfl | (simp only [List.length_drop, List.length_take]; rfl)) ?_; (with_reducible refine (spec_ImageOk.calls k _ _ l0_0 true _ ?side1 ?side2 A2.out).mono ?_); (case side1 => repeat (first | exact (Kd.C_below HR0_0.out HB.out) | (with_reducible refine Kd.C_alloc ?_ _) | (with_reducible refine Kd.C_drewN ?_ _) | (with_reducible refine Kd.C_drew ?_))); (case side2 => exact HC0_0.out); rintro e w7 ⟨rfl, hb⟩; refine ⟨_, rfl, ?_⟩; have n0_ := Aside0.mk (blk_below (g := gb144) (o := .cells #[.slice A0_0 l0_0.length c0_0] 27 (0, 0)) (by (with_reducible repeat (first | refine blk_drewN ?_ _ | refine blk_drew ?_ | refine blk_alloc ?_ _)); exact BK144.out) hb); have n1_ := Aside0.mk (below_step (by repeat (first | (with_reducible first | exact HB.out | apply below_alloc | apply pw_below_drewN | apply below_drew1 | refine below_set ?_ GE144.out) | exact HB.out)) hb); clear BK144; clear HB; have BK144 := n0_; have HB := n1_; clear n0_ n1_; (try clear hb); (try clear hb2); (try clear hk); (try clear hi)) | ((with_reducible refine gate_dst (N := 12) rfl ?_); refine conv_const rfl (N := some 12) rfl (.tmp 11) rfl rfl Try.underlying54 Try.underlying5 ?_; intro wC hb hcs; have HCS := Aside0.mk hcs; have n1_ := Aside0.mk (blk_below BK144.out hb); have n2_ := Aside0.mk (below_step (by repeat (first | exact HB.out | apply below_alloc | apply pw_below_drewN | apply below_drew1)) hb); clear BK144 HB hcs hb; have BK144 := n1_; have HB := n2_; clear n1_ n2_; have hczC : wC.cell? ⟨gb144, 0, none⟩ = some (.slice A0_0 l0_0.length c0_0) := (blk_cell BK144.out 0).trans rfl) | ((with_reducible refine gate_dst (N := 17) rfl ?_); refine Kd.R_lit (Kd.int .u8) _ 5 ?hg (N := 17) ?hd (xs := ([((l0_0.length : Int)) % 256, 0] : List Int)) (inner := [.int .u8 (((l0_0.length : Int)) % 256), .int .u8 0]) (ok := fun _ => True) (okp := fun _ => True) ?hr ?hp (fun _ hk => hk) trivial (Below.refl _ _) (Nat.le_refl _) (by simp) ?_; (case hd => rfl); (case hg => rfl); (case hr => first | (go_simp; done) | (go_simp; rfl)); (case hp => exact (Reps.one (show Kd.M (Kd.int .u8) _ _ _ (((l0_0.length : Int)) % 256) [.int .u8 (((l0_0.length : Int)) % 256)] from rfl) (Reps.one (show Kd.M (Kd.int .u8) _ _ _ 0 [.int .u8 0] from rfl) (Reps.none _ _)))); intro v153 w11 ho12 hb hg_ hnew_; clear hg_ hnew_; (first | rw [← Ny152.out] at ho12 | (simp only [Int.reduceToNat] at ho12; rw [← Ny152.out] at ho12)); have n0_ := Aside0.mk (fun j u h => (hb.cell (World.block_lt_of_cell? _ _ (HCS.out j u h))).trans (HCS.out j u h)); have n1_ := Aside0.mk (Kd.R_lower (ho12) (below_size (by repeat (first | (with_reducible first | exact HB.out | apply below_alloc | apply pw_below_drewN | apply below_drew1 | refine below_set ?_ GE144.out) | exact HB.out)))); have n2_ := Aside0.mk (blk_below (g := gb144) (o := .cells #[.slice A0_0 l0_0.length c0_0] 27 (0, 0)) (by (with_reducible repeat (first | refine blk_drewN ?_ _ | refine blk_drew ?_ | refine blk_alloc ?_ _)); exact BK144.out) hb); have n3_ := Aside0.mk (below_step (by repeat (first | (with_reducible first | exact HB.out | apply below_alloc | apply pw_below_drewN | apply below_drew1 | refine below_set ?_ GE144.out) | exact HB.out)) hb); clear HCS; clear BK144; clear HB; have HCS := n0_; have HO154 := n1_; have BK144 := n2_; have HB := n3_; clear n0_ n1_ n2_ n3_; clear hb ho12; obtain ⟨Ao14, co14, eo14⟩ := Kd.R_slice HO154.out; subst eo14) | ((with_reducible refine gate_builtin (b := .append) (xs := #[.tmp 12, .tmp 17]) rfl ?_); at_builtin; refine append_const (N := some 18) (xs := ([50, 67, 76, 75] : List Int)) rfl (.tmp 12) (.tmp 17) 54 rfl rfl Try.underlying54 info5 rfl (fun j u h => HCS.out j u (by simpa using h)) rfl HO154.out (by rw [Ny152.out]; simp) (by rw [Ny152.out]; simp) (by rw [Ny152.out]; simp) ?_; intro v156 w13 ho hb; have n0_ := Aside0.mk (blk_below BK144.out hb); have n1_ := Aside0.mk (Kd.R_below HO154.out hb); have n2_ := Aside0.mk (below_step (by repeat (first | exact HB.out | apply below_alloc | apply pw_below_drewN | apply below_drew1)) hb); have n3_ := Aside0.mk (show Kd.R (Kd.int .u8) 5 w13 w.heap.size (fun _ => True) v156 y155 from Kd.R_lower (by rw [Ny155.out, Ny149.out]; exact ho) (below_size (by repeat (first | exact HB.out | apply below_alloc | apply pw_below_drewN | apply below_drew1)))); clear BK144 HO154 HB HCS ho hb; have BK144 := n0_; have HO154 := n1_; have HB := n2_; have HO157 := n3_; clear n0_ n1_ n2_ n3_))
      go_loopg [3, 4, 5] k (fun kq v3 v4 v5 w' => ∃ (x3_1 : List Int) (x4_1 : Int) (x5_1 : Int), v4 = .int .i64 x4_1 ∧ v5 = .int .i64 x5_1 ∧ Aside0 (spec_ImageBytes.l0 kq x3_1 x4_1 x5_1 l0_0 = some r) ∧ Aside0 (kq ≤ k) ∧ Aside0 (Kd.R (Kd.int .u8) 5 w' w.heap.size (fun _ => True) v3 x3_1) ∧ Aside0 (w'.heap[gb144]? = some (.cells #[(.slice A0_0 l0_0.length c0_0)] 27 (0, 0))) ∧ Aside0 (Below w.heap.size w w'))
      case atStart => exact ⟨(y155), (0), (0), (by first | rfl | (simp; done) | (simp [*]; done)), (by first | rfl | (simp; done) | (simp [*]; done)), H', ⟨Nat.le_refl _⟩, ⟨by (with_reducible repeat (first | apply Kd.R_alloc | apply Kd.R_drewN | apply Kd.R_drew)); exact Kd.R_mono HO157.out (fun _ hk => trivial)⟩, ⟨by (with_reducible repeat (first | refine blk_drewN ?_ _ | refine blk_drew ?_ | refine blk_alloc ?_ _)); exact BK144.out⟩, ⟨by repeat (first | (with_reducible first | exact HB.out | apply below_alloc | apply pw_below_drewN | apply below_drew1 | refine below_set ?_ GE144.out) | exact HB.out)⟩⟩
      case round =>
        clear H'
        try clear c1
        try clear p2
        try clear c3
        try clear c4
        try clear hcz10_0
        try clear hcz6_0
        try clear hfz10_0
        try clear hfz6_0
        obtain ⟨x3_1, x4_1, x5_1, rfl, rfl, HA, HK1, HO_3, BK144, HB⟩ := hrel
        cases gk with
        | zero => exact absurd HA.out (by simp [spec_ImageBytes.l0])
        | succ k1 =>
          have H := HA.out
          clear HA
          simp only [spec_ImageBytes.l0] at H
          by_cases c15 : x5_1 < (l0_0.length : Int)
          · rw [if_pos c15] at H
            have c15b0 : decide (x5_1 < (l0_0.length : Int)) = true := decide_eq_true c15
            clear c15
            have H' := Aside0.mk H
            clear H
            have hcz16_0 : wr.cell? ⟨gb144, 0, none⟩ = some (.slice A0_0 l0_0.length c0_0) := (blk_cell BK144.out 0).trans rfl
            have hfz16_0 := blk_frozen BK144.out 0
            go_wp2
            go_loopg [3, 4, 6] k1 (fun kq v3 v4 v6 w' => ∃ (x3_2 : List Int) (x4_2 : Int) (x6_2 : Int), v4 = .int .i64 x4_2 ∧ v6 = .int .i64 x6_2 ∧ Aside0 (spec_ImageBytes.l1 kq x3_2 x4_2 x5_1 x6_2 l0_0 = some r) ∧ Aside0 (kq ≤ k1) ∧ Aside0 (Kd.R (Kd.int .u8) 5 w' w.heap.size (fun _ => True) v3 x3_2) ∧ Aside0 (w'.heap[gb144]? = some (.cells #[(.slice A0_0 l0_0.length c0_0)] 27 (0, 0))) ∧ Aside0 (Below w.heap.size w w'))
            case atStart => exact ⟨(x3_1), (x4_1), (0), (by first | rfl | (simp; done) | (simp [*]; done)), (by first | rfl | (simp; done) | (simp [*]; done)), H', ⟨Nat.le_refl _⟩, ⟨by (with_reducible repeat (first | apply Kd.R_alloc | apply Kd.R_drewN | apply Kd.R_drew)); exact HO_3.out⟩, ⟨by (with_reducible repeat (first | refine blk_drewN ?_ _ | refine blk_drew ?_ | refine blk_alloc ?_ _)); exact BK144.out⟩, ⟨by repeat (first | (with_reducible first | exact HB.out | apply below_alloc | apply pw_below_drewN | apply below_drew1 | refine below_set ?_ GE144.out) | exact HB.out)⟩⟩
            case round =>
              clear H'
              try clear c1
              try clear p2
              try clear c3
              try clear c4
              try clear c15
              try clear c15b0
              try clear c16
              try clear hcz10_0
              try clear hcz16_0
              try clear hcz6_0
              try clear hfz10_0
              try clear hfz16_0
              try clear hfz6_0
              try clear p2
              obtain ⟨x3_2, x4_2, x6_2, rfl, rfl, HA, HK2, HO_3, BK144, HB⟩ := hrel
              cases gk with
              | zero => exact absurd HA.out (by simp [spec_ImageBytes.l1])
              | succ k2 =>
                have H := HA.out
                clear HA
                simp only [spec_ImageBytes.l1] at H
                by_cases c17 : x6_2 < 256
                · rw [if_pos c17] at H
                  have c17b0 : decide (x6_2 < 256) = true := decide_eq_true c17
                  clear c17
                  by_cases c18 : 0 ≤ x5_1
                  · rw [if_pos c18] at H
                    have c18b0 : decide (0 ≤ x5_1) = true := decide_eq_true c18
                    clear c18
                    by_cases c19 : x5_1 < (l0_0.length : Int)
                    · rw [if_pos c19] at H
                      have c19b0 : decide (x5_1 < (l0_0.length : Int)) = true := decide_eq_true c19
                      clear c19
                      by_cases c20 : 0 ≤ x6_2
                      · rw [if_pos c20] at H
                        have c20b0 : decide (0 ≤ x6_2) = true := decide_eq_true c20
                        clear c20
                        by_cases c21 : x6_2 < ((rd_L1 l0_0 x5_1).length : Int)
                        · rw [if_pos c21] at H
                          have c21b0 : decide (x6_2 < ((rd_L1 l0_0 x5_1).length : Int)) = true := decide_eq_true c21
                          clear c21
                          by_cases c22 : x3_2.length < 140737488355328
                          · rw [if_pos c22] at H
                            have LMc22 := Aside0.mk c22
                            clear c22
                            obtain ⟨y161, hy161⟩ : ∃ y_ : List Int, y_ = (x3_2 ++ [(rd (rd_L1 l0_0 x5_1) x6_2) % 256]) := ⟨_, rfl⟩
                            replace H : (spec_ImageBytes.l1 k2 y161 (wrap64 (x4_2 + (rd (rd_L1 l0_0 x5_1) x6_2))) x5_1 (wrap64 (x6_2 + 1)) l0_0) = some r := by first | (rw [hy161]; with_reducible exact H) | (have H2_ := (Option.bind_some _ _).symm.trans H; rw [hy161]; with_reducible exact H2_) | (have H2_ := (Option.bind_some _ _).symm.trans H; with_reducible exact H2_) | with_reducible exact H | (rw [hy161]; exact H) | exact H
                            have Ny161 := Aside0.mk hy161
                            clear hy161
                            have H' := Aside0.mk H
                            clear H
                            have hcz23_0 : wr.cell? ⟨gb144, 0, none⟩ = some (.slice A0_0 l0_0.length c0_0) := (blk_cell BK144.out 0).trans rfl
                            have hfz23_0 := blk_frozen BK144.out 0
                            have p159 : 0 ≤ (x5_1 : Int) := of_decide_eq_true (by first | (with_reducible assumption) | assumption)
                            have q159 : x5_1 < (l0_0.length : Int) := of_decide_eq_true (by first | (with_reducible assumption) | assumption)
                            obtain ⟨ad159, A159_0, c159_0, e159, hx159_0, hl159_0, hi159_0⟩ := at_L1 HR0_0.out x5_1 p159 q159
                            cases e159
                            replace hx159_0 := (HB.out.cell (World.block_lt_of_cell? w _ hx159_0)).trans hx159_0
                            have HR159_0 := Aside0.mk hi159_0
                            have HC159_0 := Aside0.mk hl159_0
                            clear hi159_0 hl159_0
                            replace p159 := eq_true p159
                            replace q159 := eq_true q159
                            have p160 : 0 ≤ (x6_2 : Int) := of_decide_eq_true (by first | (with_reducible assumption) | assumption)
                            have q160 : x6_2 < ((rd_L1 l0_0 x5_1).length : Int) := of_decide_eq_true (by first | (with_reducible assumption) | assumption)
                            obtain ⟨ad160, e160, hx160_0⟩ := Kd.at_int HR159_0.out x6_2 p160 q160
                            cases e160
                            replace hx160_0 := (HB.out.cell (World.block_lt_of_cell? w _ hx160_0)).trans hx160_0
                            replace p160 := eq_true p160
                            replace q160 := eq_true q160
                            go_wp2_with (first | ((with_reducible refine gate_builtin (b := .append) (xs := #[.tmp 30, .tmp 40]) rfl ?_); at_builtin; refine Kd.R_append (Kd.int .u8) (w0 := w) w.heap.size rfl (.tmp 30) (.tmp 40) 54 5 (.int .u8 0) 1 rfl Try.underlying54 info5 rfl (by decide) (by omega) u3 x3_2 ((rd (rd_L1 l0_0 x5_1) x6_2) % 256) [.int .u8 ((rd (rd_L1 l0_0 x5_1) x6_2) % 256)] (fun _ => True) (fun _ => False) rfl rfl ?aP (fun _ hk => hk.elim) ?aF ?aO ?aB ?aS ?aL ?_; (case aP => exact rfl); (case aB => exact (by repeat (first | (with_reducible first | exact HB.out | apply below_alloc | apply pw_below_drewN | apply below_drew1 | refine below_set ?_ GE144.out) | exact HB.out))); (case aF => exact (fun _ _ => trivial)); (case aO => exact (by (with_reducible repeat (first | apply Kd.R_alloc | apply Kd.R_drewN | apply Kd.R_drew)); exact HO_3.out)); (case aS => exact (below_size (by repeat (first | (with_reducible first | exact HB.out | apply below_alloc | apply pw_below_drewN | apply below_drew1 | refine below_set ?_ GE144.out) | exact HB.out)))); (case aL => have := LMc22.out; omega); intro v162 w24 ho hb hg hat; rw [← Ny161.out] at ho; have n0_ := Aside0.mk (blk_grown (g := gb144) (o := .cells #[.slice (some ad159) l0_0.length c0_0] 27 (0, 0)) (by (with_reducible repeat (first | refine blk_drewN ?_ _ | refine blk_drew ?_ | refine blk_alloc ?_ _)); exact BK144.out) hg (Kd.R_ne HO_3.out BK144.out (by decide))); have n1_ := Aside0.mk (hb); have n2_ := Aside0.mk (ho); clear BK144; clear HB; clear HO_3; have BK144 := n0_; have HB := n1_; have HO163 := n2_; clear n0_ n1_ n2_; clear ho hb hg hat; have hcz25_0 : w24.cell? ⟨gb144, 0, none⟩ = some (.slice (some ad159) l0_0.length c0_0) := (blk_cell BK144.out 0).trans rfl; have hfz25_0 := blk_frozen BK144.out 0; have p164 : 0 ≤ (x5_1 : Int) := of_decide_eq_true (by first | (with_reducible assumption) | assumption); have q164 : x5_1 < (l0_0.length : Int) := of_decide_eq_true (by first | (with_reducible assumption) | assumption); obtain ⟨ad164, A164_0, c164_0, e164, hx164_0, hl164_0, hi164_0⟩ := at_L1 HR0_0.out x5_1 p164 q164; obtain rfl : ad159 = ad164 := (by injection e164); replace hx164_0 := (HB.out.cell (World.block_lt_of_cell? w _ hx164_0)).trans hx164_0; have HR164_0 := Aside0.mk hi164_0; have HC164_0 := Aside0.mk hl164_0; clear hi164_0 hl164_0; replace p164 := eq_true p164; replace q164 := eq_true q164; have p165 : 0 ≤ (x6_2 : Int) := of_decide_eq_true (by first | (with_reducible assumption) | assumption); have q165 : x6_2 < ((rd_L1 l0_0 x5_1).length : Int) := of_decide_eq_true (by first | (with_reducible assumption) | assumption); obtain ⟨ad165, e165, hx165_0⟩ := Kd.at_int HR164_0.out x6_2 p165 q165; cases e165; replace hx165_0 := (HB.out.cell (World.block_lt_of_cell? w _ hx165_0)).trans hx165_0; replace p165 := eq_true p165; replace q165 := eq_true q165))
                            go_roundg k2
                            case measure => have := HK1.out; have := HK2.out; omega
                            case rel => exact ⟨(y161), (wrap64 (x4_2 + (rd (rd_L1 l0_0 x5_1) x6_2))), (wrap64 (x6_2 + 1)), (by first | rfl | (simp; done) | (simp [*]; done)), (by first | rfl | (simp; done) | (simp [*]; done)), H', ⟨by have := HK1.out; have := HK2.out; omega⟩, ⟨by (with_reducible repeat (first | apply Kd.R_alloc | apply Kd.R_drewN | apply Kd.R_drew)); exact HO163.out⟩, ⟨by (with_reducible repeat (first | refine blk_drewN ?_ _ | refine blk_drew ?_ | refine blk_alloc ?_ _)); exact BK144.out⟩, ⟨by repeat (first | (with_reducible first | exact HB.out | apply below_alloc | apply pw_below_drewN | apply below_drew1 | refine below_set ?_ GE144.out) | exact HB.out)⟩⟩
                          · rw [if_neg c22] at H
                            exact absurd H (by simp)
                        · rw [if_neg c21] at H
                          exact absurd H (by simp)
                      · rw [if_neg c20] at H
                        exact absurd H (by simp)
                    · rw [if_neg c19] at H
                      exact absurd H (by simp)
                  · rw [if_neg c18] at H
                    exact absurd H (by simp)
                · rw [if_neg c17] at H
                  have c17b0 : decide (x6_2 < 256) = false := decide_eq_false c17
                  clear c17
                  have H' := Aside0.mk H
                  clear H
                  go_wp2
                  go_roundg k2
                  case measure => have := HK1.out; have := HK2.out; omega
                  case rel => exact ⟨(x3_2), (x4_2), (wrap64 (x5_1 + 1)), (by first | rfl | (simp; done) | (simp [*]; done)), (by first | rfl | (simp; done) | (simp [*]; done)), H', ⟨by have := HK1.out; have := HK2.out; omega⟩, ⟨by (with_reducible repeat (first | apply Kd.R_alloc | apply Kd.R_drewN | apply Kd.R_drew)); exact HO_3.out⟩, ⟨by (with_reducible repeat (first | refine blk_drewN ?_ _ | refine blk_drew ?_ | refine blk_alloc ?_ _)); exact BK144.out⟩, ⟨by repeat (first | (with_reducible first | exact HB.out | apply below_alloc | apply pw_below_drewN | apply below_drew1 | refine below_set ?_ GE144.out) | exact HB.out)⟩⟩
          · rw [if_neg c15] at H
            have c15b0 : decide (x5_1 < (l0_0.length : Int)) = false := decide_eq_false c15
            clear c15
            by_cases c26 : 5 < (x3_1.length : Int)
            · rw [if_pos c26] at H
              have c26b0 : decide (5 < (x3_1.length : Int)) = true := decide_eq_true c26
              have c26b1 : decide (5 < x3_1.length) = true := decide_eq_true (by omega)
              clear c26
              obtain ⟨y158, hy158⟩ : ∃ y_ : List Int, y_ = (x3_1.set (5 : Int).toNat ((x4_1) % 256)) := ⟨_, rfl⟩
              replace H : (some y158) = some r := by first | (rw [hy158]; with_reducible exact H) | (have H2_ := (Option.bind_some _ _).symm.trans H; rw [hy158]; with_reducible exact H2_) | (have H2_ := (Option.bind_some _ _).symm.trans H; with_reducible exact H2_) | with_reducible exact H | (rw [hy158]; exact H) | exact H
              have Ny158 := Aside0.mk hy158
              clear hy158
              obtain rfl := Option.some.inj H
              have hcz28_0 : wr.cell? ⟨gb144, 0, none⟩ = some (.slice A0_0 l0_0.length c0_0) := (blk_cell BK144.out 0).trans rfl
              have hfz28_0 := blk_frozen BK144.out 0
              have p27 : 0 ≤ (5 : Int) := (by omega)
              have q27 : (5 : Int) < ((x3_1.length : Int) : Int) := of_decide_eq_true (by first | (with_reducible assumption) | assumption)
              have qi27 : (5 < x3_1.length) = True := eq_true (by omega)
              obtain ⟨go27, co27, eo27, gb27, gl27, cl27, HG27⟩ := Kd.R_form HO_3.out (by omega)
              (first | cases eo27 | (injection eo27 with ea_ en_ ec_; (first | subst ea_ | (injection ea_ with ea_; subst ea_)); subst ec_; clear en_))
              have GB27 := Aside0.mk gb27
              have GG27 := Aside0.mk HG27
              clear gb27 gl27 HG27
              obtain ⟨hx27_0, hf27_0⟩ := Kd.R_celln 0 HO_3.out (5 : Int) p27 q27
              (try rw [show ((5 : Int)).toNat = 5 from rfl] at hx27_0)
              (try simp only [Nat.reduceMul, Nat.zero_mul, Nat.zero_add, Nat.reduceAdd] at hx27_0)
              (try rw [show ((5 : Int)).toNat = 5 from rfl] at hf27_0)
              (try simp only [Nat.reduceMul, Nat.zero_mul, Nat.zero_add, Nat.reduceAdd] at hf27_0)
              replace p27 := eq_true p27
              replace q27 := eq_true q27
              have HP29 := Kd.R_putg HO_3.out (5 : Int) ((x4_1) % 256)
              go_wp2_with (first | ((with_reducible refine gate_store (t := 5) (p := 55) rfl ?_); refine store_event (t := 5) (p := 55) (v := ?vo_w30) (w1 := (wr.setCell ⟨go27, (5 : Int).toNat, none⟩ (.int .u8 ((x4_1) % 256)))) ?hg ?ho ?hn ?hr ?_; (case ho => rfl); (case hg => rfl); (case hn => rfl); (case hr => first | (go_simp; done) | (go_simp; rfl)); intro w30 hw; have hg : wr.grownBy w30 (some go27) := (by rw [hw]; exact HP29.2); have hp_ : Kd.R (Kd.int .u8) 5 w30 w.heap.size (fun _ => True) (.slice (some ⟨go27, 0, none⟩) x3_1.length co27) y158 := (by rw [hw, Ny158.out]; exact HP29.1); clear HP29; have n0_ := Aside0.mk (hp_); have n1_ := Aside0.mk (blk_grown (g := gb144) (o := .cells #[.slice A0_0 l0_0.length c0_0] 27 (0, 0)) (by (with_reducible repeat (first | refine blk_drewN ?_ _ | refine blk_drew ?_ | refine blk_alloc ?_ _)); exact BK144.out) hg (Kd.R_ne HO_3.out BK144.out (by decide))); have n2_ := Aside0.mk ((by rw [hw]; exact below_set (HB.out) GB27.out : Below w.heap.size w w30)); clear HO_3; clear BK144; clear HB; have HO_3 := n0_; have BK144 := n1_; have HB := n2_; clear n0_ n1_ n2_; clear hg hw hp_))
              go_ret
              exact ⟨_, by first | rfl | (simp [errW_none, errW_some] <;> rfl) | (simp [*, errW_none, errW_some] <;> rfl), by (with_reducible repeat (first | apply Kd.R_alloc | apply Kd.R_drewN | apply Kd.R_drew)); exact HO_3.out, by repeat (first | (with_reducible first | exact HB.out | apply below_alloc | apply pw_below_drewN | apply below_drew1 | refine below_set ?_ GE144.out) | exact HB.out)⟩
            · rw [if_neg c26] at H
              exact absurd H (by simp)
    · rw [if_neg c4] at H
      exact absurd H (by simp)
  · replace c3 := Bool.eq_false_iff.mpr c3
    subst c3
    have H1 : (some (([] : List Int))) = some r := by rw [if_neg (show ¬ (false = true) by decide)] at H; exact H
    clear H
    have H := H1
    clear H1
    obtain ⟨y146, hy146⟩ : ∃ y_ : List Int, y_ = (([] : List Int)) := ⟨_, rfl⟩
    replace H : (some y146) = some r := by first | (rw [hy146]; with_reducible exact H) | (have H2_ := (Option.bind_some _ _).symm.trans H; rw [hy146]; with_reducible exact H2_) | (have H2_ := (Option.bind_some _ _).symm.trans H; with_reducible exact H2_) | with_reducible exact H | (rw [hy146]; exact H) | exact H
    have Ny146 := Aside0.mk hy146
    clear hy146
    obtain rfl := Option.some.inj H
    go_enter Try.func43, Try.ntmps43
    go_wp2_with (first | ((with_reducible refine gate_dst (N := 1) rfl ?_); refine box_event ?hg (N := 1) ?hd (cs := #[.slice A0_0 l0_0.length c0_0]) (t := 27) ?hr ?_; (case hd => rfl); (case hg => rfl); (case hr => first | (go_simp; done) | (go_simp; rfl)); intro gb144 hg w31 hbox hb; have n0_ := Aside0.mk (below_step (by repeat (first | (with_reducible first | exact HB.out | apply below_alloc | apply pw_below_drewN | apply below_drew1) | exact HB.out)) hb); have n1_ := Aside0.mk (hbox); have n2_ := Aside0.mk ((by rw [hg]; exact (below_size (by repeat (first | (with_reducible first | exact HB.out | apply below_alloc | apply pw_below_drewN | apply below_drew1) | exact HB.out))) : w.heap.size ≤ gb144)); have n3_ := Aside0.mk ((by rw [hg]; exact (below_size (by repeat (first | (with_reducible first | exact HB.out | apply below_alloc | apply pw_below_drewN | apply below_drew1) | exact HB.out))) : w.heap.size ≤ gb144)); clear HB; have HB := n0_; have BK144 := n1_; have GW144 := n2_; have GE144 := n3_; clear n0_ n1_ n2_ n3_; clear hb hbox hg; have hcz32_0 : w31.cell? ⟨gb144, 0, none⟩ = some (.slice A0_0 l0_0.length c0_0) := (blk_cell BK144.out 0).trans rfl; have hfz32_0 := blk_frozen BK144.out 0) | ((with_reducible refine gate_callee (f := 16) rfl ?_); refine goesL_ (some 8) rfl rfl Try.func16 (by kernel_rfl) rfl #[.agg #[.slice A0_0 l0_0.length c0_0]] rfl (by (try simp only [List.map_toArray, List.map_cons, List.map_nil]); first | done | rfl | (simp only [List.length_drop, List.length_take]; rfl)) ?_; (with_reducible refine (spec_ImageOk.calls k _ _ l0_0 false _ ?side1 ?side2 A2.out).mono ?_); (case side1 => repeat (first | exact (Kd.C_below HR0_0.out HB.out) | (with_reducible refine Kd.C_alloc ?_ _) | (with_reducible refine Kd.C_drewN ?_ _) | (with_reducible refine Kd.C_drew ?_))); (case side2 => exact HC0_0.out); rintro e w33 ⟨rfl, hb⟩; refine ⟨_, rfl, ?_⟩; have n0_ := Aside0.mk (blk_below (g := gb144) (o := .cells #[.slice A0_0 l0_0.length c0_0] 27 (0, 0)) (by (with_reducible repeat (first | refine blk_drewN ?_ _ | refine blk_drew ?_ | refine blk_alloc ?_ _)); exact BK144.out) hb); have n1_ := Aside0.mk (below_step (by repeat (first | (with_reducible first | exact HB.out | apply below_alloc | apply pw_below_drewN | apply below_drew1 | refine below_set ?_ GE144.out) | exact HB.out)) hb); clear BK144; clear HB; have BK144 := n0_; have HB := n1_; clear n0_ n1_; (try clear hb); (try clear hb2); (try clear hk); (try clear hi)) | ((with_reducible refine gate_dst (N := 10) rfl ?_); refine Kd.R_lit (Kd.int .u8) _ 5 ?hg (N := 10) ?hd (xs := ([] : List Int)) (inner := []) (ok := fun _ => True) (okp := fun _ => True) ?hr ?hp (fun _ hk => hk) trivial (Below.refl _ _) (Nat.le_refl _) (by simp) ?_; (case hd => rfl); (case hg => rfl); (case hr => first | (go_simp; done) | (go_simp; rfl)); (case hp => exact (Reps.none _ _)); intro v147 w34 ho35 hb hg_ hnew_; clear hg_ hnew_; (first | rw [← Ny146.out] at ho35 | (simp only [Int.reduceToNat] at ho35; rw [← Ny146.out] at ho35)); have n0_ := Aside0.mk (Kd.R_lower ho35 (below_size (by repeat (first | (with_reducible first | exact HB.out | apply below_alloc | apply pw_below_drewN | apply below_drew1 | refine below_set ?_ GE144.out) | exact HB.out)))); have n1_ := Aside0.mk (blk_below (g := gb144) (o := .cells #[.slice A0_0 l0_0.length c0_0] 27 (0, 0)) (by (with_reducible repeat (first | refine blk_drewN ?_ _ | refine blk_drew ?_ | refine blk_alloc ?_ _)); exact BK144.out) hb); have n2_ := Aside0.mk (below_step (by repeat (first | (with_reducible first | exact HB.out | apply below_alloc | apply pw_below_drewN | apply below_drew1 | refine below_set ?_ GE144.out) | exact HB.out)) hb); clear BK144; clear HB; have HO148 := n0_; have BK144 := n1_; have HB := n2_; clear n0_ n1_ n2_; clear hb ho35))
    go_ret
    exact ⟨_, by first | rfl | (simp [errW_none, errW_some] <;> rfl) | (simp [*, errW_none, errW_some] <;> rfl), by (with_reducible repeat (first | apply Kd.R_alloc | apply Kd.R_drewN | apply Kd.R_drew)); exact HO148.out, by repeat (first | (with_reducible first | exact HB.out | apply below_alloc | apply pw_below_drewN | apply below_drew1 | refine below_set ?_ GE144.out) | exact HB.out)⟩

/-! ### impl_within: function 64 -/
def impl_within.f (a0 : Int) (a1 : Int) (a2 : Int) : Option (Bool) := if a0 ≥ a1 then (some (decide (a0 ≤ a2))) else (some false)
set_option maxHeartbeats 8000000 in
set_option maxRecDepth 100000 in
theorem impl_within.calls (a0 : Int) (a1 : Int) (a2 : Int) (r : Bool) (w : World) (h : impl_within.f a0 a1 a2 = some r) :
    Calls Try.prog 64 #[.int .i64 a0, .int .i64 a1, .int .i64 a2] w fun e w' => e = .returned (.bool r) ∧ Drawn0 w w' := by
  have H : (if a0 ≥ a1 then (some (decide (a0 ≤ a2))) else (some false)) = some r := h
  clear h
  by_cases c4 : a0 ≥ a1
  · rw [if_pos c4] at H
    have c4b0 : decide (a1 ≤ a0) = true := decide_eq_true c4
    clear c4
    obtain rfl := Option.some.inj H
    go_enter Try.func64, Try.ntmps64
    go_wp2
    go_ret
    exact ⟨by first | rfl | (simp; done) | (simp [*]; done), by repeat (first | exact Drawn0.refl _ | apply Drawn0.step)⟩
  · rw [if_neg c4] at H
    have c4b0 : decide (a1 ≤ a0) = false := decide_eq_false c4
    clear c4
    obtain rfl := Option.some.inj H
    go_enter Try.func64, Try.ntmps64
    go_wp2
    go_ret
    exact ⟨by first | rfl | (simp; done) | (simp [*]; done), by repeat (first | exact Drawn0.refl _ | apply Drawn0.step)⟩

/-! ### impl_isByte: function 99 -/
def impl_isByte.f (a0 : Int) : Option (Bool) := (impl_within.f a0 0 255).bind fun t166 => (some t166)
set_option maxHeartbeats 8000000 in
set_option maxRecDepth 100000 in
theorem impl_isByte.calls (a0 : Int) (r : Bool) (w : World) (h : impl_isByte.f a0 = some r) :
    Calls Try.prog 99 #[.int .i64 a0] w fun e w' => e = .returned (.bool r) ∧ Drawn0 w w' := by
  have H : ((impl_within.f a0 0 255).bind fun t166 => (some t166)) = some r := h
  clear h
  replace H := Option.bind_eq_some_iff.mp H
  obtain ⟨t166, A20, H⟩ := H
  replace H : (some t166) = some r := H
  have A2 := Aside0.mk A20
  clear A20
  obtain rfl := Option.some.inj H
  go_enter Try.func99, Try.ntmps99
  go_wp2_with (first | ((with_reducible refine gate_callee (f := 64) rfl ?_); refine goesL_ (some 4) rfl rfl Try.func64 (by kernel_rfl) rfl #[.int .i64 a0, .int .i64 0, .int .i64 255] rfl (by (try simp only [List.map_toArray, List.map_cons, List.map_nil]); first | done | rfl | (simp only [List.length_drop, List.length_take]; rfl)) ?_; (with_reducible refine (impl_within.calls a0 0 255 t166 _ A2.out).mono ?_); rintro e w' ⟨rfl, ⟨nd, rfl⟩⟩; refine ⟨_, rfl, ?_⟩))
  go_ret
  exact ⟨by first | rfl | (simp; done) | (simp [*]; done), by repeat (first | exact Drawn0.refl _ | apply Drawn0.step)⟩

/-! ### impl_bytesOk: function 63 -/
def impl_bytesOk.l0 : Nat → List Int → Int → Int → Option (Bool)
  | 0, _, _, _ => none
  | k + 1, x5, x6, x7 => if x7 < x6 then (if 0 ≤ x7 then (if x7 < (x5.length : Int) then ((impl_isByte.f (rd x5 x7)).bind fun t168 => (if t168 = true then (impl_bytesOk.l0 k x5 x6 (wrap64 (x7 + 1))) else (some false))) else (none)) else (none)) else (some true)
def impl_bytesOk.f (k : Nat) (l0 : List Int) : Option (Bool) := impl_bytesOk.l0 k l0 (l0.length : Int) 0
theorem impl_bytesOk.mono_l : ∀ k, (∀ y0 y1 y2, LeO (impl_bytesOk.l0 k y0 y1 y2) (impl_bytesOk.l0 (k + 1) y0 y1 y2))
  | 0 => fun _ _ _ r h => by simp [impl_bytesOk.l0] at h
  | k + 1 => by
    have ih0 := impl_bytesOk.mono_l k
    · intro y0 y1 y2
      unfold impl_bytesOk.l0
      repeat' first
      | (with_reducible exact ih0 _ _ _)
      | (with_reducible exact LeO.refl _)
      | (with_reducible exact LeO.none _)
      | (with_reducible refine LeO.ite ?_ ?_)
      | (with_reducible refine LeO.bind ?_ (fun _ => ?_))
      | exact ih0 _ _ _
      | exact LeO.none _
      | refine LeO.ite ?_ ?_
      | refine LeO.bind ?_ (fun _ => ?_)
theorem impl_bytesOk.mono : ∀ a0 k, LeO (impl_bytesOk.f k a0) (impl_bytesOk.f (k + 1) a0) := by
  intro a0 k
  have ih0 := impl_bytesOk.mono_l k
  unfold impl_bytesOk.f
  repeat' first
      | (with_reducible exact ih0 _ _ _)
      | (with_reducible exact LeO.refl _)
      | (with_reducible exact LeO.none _)
      | (with_reducible refine LeO.ite ?_ ?_)
      | (with_reducible refine LeO.bind ?_ (fun _ => ?_))
      | exact ih0 _ _ _
      | exact LeO.none _
      | refine LeO.ite ?_ ?_
      | refine LeO.bind ?_ (fun _ => ?_)
set_option maxHeartbeats 8000000 in
set_option maxRecDepth 100000 in
theorem impl_bytesOk.calls (k : Nat) (A0 : Option Addr) (c0 : Nat) (l0 : List Int) (r : Bool) (w : World) (hr0 : Kd.C (Kd.int .i64) w A0 l0.length l0) (hc0 : l0.length ≤ c0) (h : impl_bytesOk.f k l0 = some r) :
    Calls Try.prog 63 #[.slice A0 l0.length c0] w fun e w' => e = .returned (.bool r) ∧ Drawn0 w w' := by
  have HR0 := Aside0.mk hr0
  have HC0 := Aside0.mk hc0
  clear hr0 hc0
  have H : (impl_bytesOk.l0 k l0 (l0.length : Int) 0) = some r := h
  clear h
  have H' := Aside0.mk H
  clear H
  go_enter Try.func63, Try.ntmps63
  go_wp2
  go_loopg [7] k (fun kq v7 w' => ∃ (x7_1 : Int), v7 = .int .i64 x7_1 ∧ Aside0 (impl_bytesOk.l0 kq l0 (l0.length : Int) x7_1 = some r) ∧ Aside0 (kq ≤ k) ∧ Drawn0 w w')
  case atStart => exact ⟨(0), (by first | rfl | (simp; done) | (simp [*]; done)), H', ⟨Nat.le_refl _⟩, by repeat (first | exact Drawn0.refl _ | apply Drawn0.step)⟩
  case round =>
    clear H'
    obtain ⟨x7_1, rfl, HA, HK1, ⟨m1, rfl⟩⟩ := hrel
    cases gk with
    | zero => exact absurd HA.out (by simp [impl_bytesOk.l0])
    | succ k1 =>
      have H := HA.out
      clear HA
      simp only [impl_bytesOk.l0] at H
      by_cases c2 : x7_1 < (l0.length : Int)
      · rw [if_pos c2] at H
        have c2b0 : decide (x7_1 < (l0.length : Int)) = true := decide_eq_true c2
        clear c2
        by_cases c3 : 0 ≤ x7_1
        · rw [if_pos c3] at H
          have c3b0 : decide (0 ≤ x7_1) = true := decide_eq_true c3
          clear c3
          by_cases c4 : x7_1 < (l0.length : Int)
          · rw [if_pos c4] at H
            have c4b0 : decide (x7_1 < (l0.length : Int)) = true := decide_eq_true c4
            clear c4
            replace H := Option.bind_eq_some_iff.mp H
            obtain ⟨t168, A50, H⟩ := H
            replace H : (if t168 = true then (impl_bytesOk.l0 k1 l0 (l0.length : Int) (wrap64 (x7_1 + 1))) else (some false)) = some r := H
            have A5 := Aside0.mk A50
            clear A50
            by_cases c6 : t168 = true
            · subst c6
              have H1 : (impl_bytesOk.l0 k1 l0 (l0.length : Int) (wrap64 (x7_1 + 1))) = some r := by rw [if_pos rfl] at H; exact H
              clear H
              have H := H1
              clear H1
              have H' := Aside0.mk H
              clear H
              have p167 : 0 ≤ (x7_1 : Int) := of_decide_eq_true (by first | (with_reducible assumption) | assumption)
              have q167 : x7_1 < (l0.length : Int) := of_decide_eq_true (by first | (with_reducible assumption) | assumption)
              obtain ⟨ad167, e167, hx167_0⟩ := Kd.at_int HR0.out x7_1 p167 q167
              cases e167
              replace p167 := eq_true p167
              replace q167 := eq_true q167
              go_wp2_with (first | ((with_reducible refine gate_callee (f := 99) rfl ?_); refine goesL_ (some 12) rfl rfl Try.func99 (by kernel_rfl) rfl #[.int .i64 (rd l0 x7_1)] rfl (by (try simp only [List.map_toArray, List.map_cons, List.map_nil]); first | done | rfl | (simp only [List.length_drop, List.length_take]; rfl)) ?_; (with_reducible refine (impl_isByte.calls (rd l0 x7_1) true _ A5.out).mono ?_); rintro e w' ⟨rfl, ⟨nd, rfl⟩⟩; refine ⟨_, rfl, ?_⟩))
              go_roundg k1
              case measure => have := HK1.out; omega
              case rel => exact ⟨(wrap64 (x7_1 + 1)), (by first | rfl | (simp; done) | (simp [*]; done)), H', ⟨by have := HK1.out; omega⟩, by repeat (first | exact Drawn0.refl _ | apply Drawn0.step)⟩
            · replace c6 := Bool.eq_false_iff.mpr c6
              subst c6
              have H1 : (some false) = some r := by rw [if_neg (show ¬ (false = true) by decide)] at H; exact H
              clear H
              have H := H1
              clear H1
              obtain rfl := Option.some.inj H
              have p167 : 0 ≤ (x7_1 : Int) := of_decide_eq_true (by first | (with_reducible assumption) | assumption)
              have q167 : x7_1 < (l0.length : Int) := of_decide_eq_true (by first | (with_reducible assumption) | assumption)
              obtain ⟨ad167, e167, hx167_0⟩ := Kd.at_int HR0.out x7_1 p167 q167
              cases e167
              replace p167 := eq_true p167
              replace q167 := eq_true q167
              go_wp2_with (first | ((with_reducible refine gate_callee (f := 99) rfl ?_); refine goesL_ (some 12) rfl rfl Try.func99 (by kernel_rfl) rfl #[.int .i64 (rd l0 x7_1)] rfl (by (try simp only [List.map_toArray, List.map_cons, List.map_nil]); first | done | rfl | (simp only [List.length_drop, List.length_take]; rfl)) ?_; (with_reducible refine (impl_isByte.calls (rd l0 x7_1) false _ A5.out).mono ?_); rintro e w' ⟨rfl, ⟨nd, rfl⟩⟩; refine ⟨_, rfl, ?_⟩))
              go_ret
              exact ⟨by first | rfl | (simp; done) | (simp [*]; done), by repeat (first | exact Drawn0.refl _ | apply Drawn0.step)⟩
          · rw [if_neg c4] at H
            exact absurd H (by simp)
        · rw [if_neg c3] at H
          exact absurd H (by simp)
      · rw [if_neg c2] at H
        have c2b0 : decide (x7_1 < (l0.length : Int)) = false := decide_eq_false c2
        clear c2
        obtain rfl := Option.some.inj H
        go_wp2
        go_ret
        exact ⟨by first | rfl | (simp; done) | (simp [*]; done), by repeat (first | exact Drawn0.refl _ | apply Drawn0.step)⟩

/-! ### impl_ImageOk: function 18 -/
def impl_ImageOk.l0 : Nat → List (List Int) → Int → Int → List (List Int) → Option (Bool)
  | 0, _, _, _, _ => none
  | k + 1, x6, x7, x8, x170000 => if x8 < x7 then (if 0 ≤ x8 then (if x8 < (x6.length : Int) then (if ((rd_L1 x6 x8).length : Int) = 256 then ((impl_bytesOk.f k (rd_L1 x6 x8)).bind fun t171 => (if t171 = true then (impl_ImageOk.l0 k x6 x7 (wrap64 (x8 + 1)) x170000) else (some false))) else (some false)) else (none)) else (none)) else ((impl_within.f (x170000.length : Int) 1 8).bind fun t172 => (some t172))
def impl_ImageOk.f (k : Nat) (l0_0 : List (List Int)) : Option (Bool) := impl_ImageOk.l0 k l0_0 (l0_0.length : Int) 0 l0_0
theorem impl_ImageOk.mono_l : ∀ k, (∀ y0 y1 y2 y3, LeO (impl_ImageOk.l0 k y0 y1 y2 y3) (impl_ImageOk.l0 (k + 1) y0 y1 y2 y3))
  | 0 => fun _ _ _ _ r h => by simp [impl_ImageOk.l0] at h
  | k + 1 => by
    have ih0 := impl_ImageOk.mono_l k
    · intro y0 y1 y2 y3
      unfold impl_ImageOk.l0
      repeat' first
      | (with_reducible exact ih0 _ _ _ _)
      | (with_reducible exact impl_bytesOk.mono _ _)
      | (with_reducible exact LeO.refl _)
      | (with_reducible exact LeO.none _)
      | (with_reducible refine LeO.ite ?_ ?_)
      | (with_reducible refine LeO.bind ?_ (fun _ => ?_))
      | exact ih0 _ _ _ _
      | exact impl_bytesOk.mono _ _
      | exact LeO.none _
      | refine LeO.ite ?_ ?_
      | refine LeO.bind ?_ (fun _ => ?_)
theorem impl_ImageOk.mono : ∀ a0 k, LeO (impl_ImageOk.f k a0) (impl_ImageOk.f (k + 1) a0) := by
  intro a0 k
  have ih0 := impl_ImageOk.mono_l k
  unfold impl_ImageOk.f
  repeat' first
      | (with_reducible exact ih0 _ _ _ _)
      | (with_reducible exact impl_bytesOk.mono _ _)
      | (with_reducible exact LeO.refl _)
      | (with_reducible exact LeO.none _)
      | (with_reducible refine LeO.ite ?_ ?_)
      | (with_reducible refine LeO.bind ?_ (fun _ => ?_))
      | exact ih0 _ _ _ _
      | exact impl_bytesOk.mono _ _
      | exact LeO.none _
      | refine LeO.ite ?_ ?_
      | refine LeO.bind ?_ (fun _ => ?_)
set_option maxHeartbeats 8000000 in
set_option maxRecDepth 100000 in
theorem impl_ImageOk.calls (k : Nat) (A0_0 : Option Addr) (c0_0 : Nat) (l0_0 : List (List Int)) (r : Bool) (w : World) (hr0_0 : Kd.C (Kd.slice 3 (Kd.int .i64)) w A0_0 l0_0.length l0_0) (hc0_0 : l0_0.length ≤ c0_0) (h : impl_ImageOk.f k l0_0 = some r) :
    Calls Try.prog 18 #[.agg #[.slice A0_0 l0_0.length c0_0]] w fun e w' => e = .returned (.bool r) ∧ Below w.heap.size w w' := by
  have hu27 := Try.underlying27
  have HR0_0 := Aside0.mk hr0_0
  have HC0_0 := Aside0.mk hc0_0
  clear hr0_0 hc0_0
  have HB := Aside0.mk (Below.refl w.heap.size w)
  have H : (impl_ImageOk.l0 k l0_0 (l0_0.length : Int) 0 l0_0) = some r := h
  clear h
  have H' := Aside0.mk H
  clear H
  go_enter Try.func18, Try.ntmps18
  go_wp2_with (first | ((with_reducible refine gate_dst (N := 1) rfl ?_); refine box_event ?hg (N := 1) ?hd (cs := #[.slice A0_0 l0_0.length c0_0]) (t := 27) ?hr ?_; (case hd => rfl); (case hg => rfl); (case hr => first | (go_simp; done) | (go_simp; rfl)); intro gb169 hg w2 hbox hb; have n0_ := Aside0.mk (below_step (by repeat (first | (with_reducible first | exact HB.out | apply below_alloc | apply pw_below_drewN | apply below_drew1) | exact HB.out)) hb); have n1_ := Aside0.mk (hbox); have n2_ := Aside0.mk ((by rw [hg]; exact (below_size (by repeat (first | (with_reducible first | exact HB.out | apply below_alloc | apply pw_below_drewN | apply below_drew1) | exact HB.out))) : w.heap.size ≤ gb169)); have n3_ := Aside0.mk ((by rw [hg]; exact (below_size (by repeat (first | (with_reducible first | exact HB.out | apply below_alloc | apply pw_below_drewN | apply below_drew1) | exact HB.out))) : w.heap.size ≤ gb169)); clear HB; have HB := n0_; have BK169 := n1_; have GW169 := n2_; have GE169 := n3_; clear n0_ n1_ n2_ n3_; clear hb hbox hg; have hcz3_0 : w2.cell? ⟨gb169, 0, none⟩ = some (.slice A0_0 l0_0.length c0_0) := (blk_cell BK169.out 0).trans rfl; have hfz3_0 := blk_frozen BK169.out 0))
  go_loopg [8] k (fun kq v8 w' => ∃ (x8_1 : Int), v8 = .int .i64 x8_1 ∧ Aside0 (impl_ImageOk.l0 kq l0_0 (l0_0.length : Int) x8_1 l0_0 = some r) ∧ Aside0 (kq ≤ k) ∧ Aside0 (w'.heap[gb169]? = some (.cells #[(.slice A0_0 l0_0.length c0_0)] 27 (0, 0))) ∧ Aside0 (Below w.heap.size w w'))
  case atStart => exact ⟨(0), (by first | rfl | (simp; done) | (simp [*]; done)), H', ⟨Nat.le_refl _⟩, ⟨by (with_reducible repeat (first | refine blk_drewN ?_ _ | refine blk_drew ?_ | refine blk_alloc ?_ _)); exact BK169.out⟩, ⟨by repeat (first | (with_reducible first | exact HB.out | apply below_alloc | apply pw_below_drewN | apply below_drew1 | refine below_set ?_ GE169.out) | exact HB.out)⟩⟩
  case round =>
    clear H'
    try clear c1
    try clear p2
    try clear hcz3_0
    try clear hfz3_0
    obtain ⟨x8_1, rfl, HA, HK1, BK169, HB⟩ := hrel
    cases gk with
    | zero => exact absurd HA.out (by simp [impl_ImageOk.l0])
    | succ k1 =>
      have H := HA.out
      clear HA
      simp only [impl_ImageOk.l0] at H
      by_cases c4 : x8_1 < (l0_0.length : Int)
      · rw [if_pos c4] at H
        have c4b0 : decide (x8_1 < (l0_0.length : Int)) = true := decide_eq_true c4
        clear c4
        by_cases c5 : 0 ≤ x8_1
        · rw [if_pos c5] at H
          have c5b0 : decide (0 ≤ x8_1) = true := decide_eq_true c5
          clear c5
          by_cases c6 : x8_1 < (l0_0.length : Int)
          · rw [if_pos c6] at H
            have c6b0 : decide (x8_1 < (l0_0.length : Int)) = true := decide_eq_true c6
            clear c6
            by_cases c7 : ((rd_L1 l0_0 x8_1).length : Int) = 256
            · rw [if_pos c7] at H
              have c7b0 : (((rd_L1 l0_0 x8_1).length : Int) == 256) = true := beq_iff_eq.mpr c7
              have c7b1 : (((rd_L1 l0_0 x8_1).length : Int) != 256) = false := bne_eq_false_iff_eq.mpr c7
              clear c7
              replace H := Option.bind_eq_some_iff.mp H
              obtain ⟨t171, A80, H⟩ := H
              replace H : (if t171 = true then (impl_ImageOk.l0 k1 l0_0 (l0_0.length : Int) (wrap64 (x8_1 + 1)) l0_0) else (some false)) = some r := H
              have A8 := Aside0.mk A80
              clear A80
              by_cases c9 : t171 = true
              · subst c9
                have H1 : (impl_ImageOk.l0 k1 l0_0 (l0_0.length : Int) (wrap64 (x8_1 + 1)) l0_0) = some r := by rw [if_pos rfl] at H; exact H
                clear H
                have H := H1
                clear H1
                have H' := Aside0.mk H
                clear H
                have p170 : 0 ≤ (x8_1 : Int) := of_decide_eq_true (by first | (with_reducible assumption) | assumption)
                have q170 : x8_1 < (l0_0.length : Int) := of_decide_eq_true (by first | (with_reducible assumption) | assumption)
                obtain ⟨ad170, A170_0, c170_0, e170, hx170_0, hl170_0, hi170_0⟩ := at_L1 HR0_0.out x8_1 p170 q170
                cases e170
                replace hx170_0 := (HB.out.cell (World.block_lt_of_cell? w _ hx170_0)).trans hx170_0
                have HR170_0 := Aside0.mk hi170_0
                have HC170_0 := Aside0.mk hl170_0
                clear hi170_0 hl170_0
                replace p170 := eq_true p170
                replace q170 := eq_true q170
                go_wp2_with (first | (go_at_call 63; (with_reducible refine (impl_bytesOk.calls k1 _ _ (rd_L1 l0_0 x8_1) true _ ?side1 ?side2 A8.out).mono ?_); (case side1 => repeat (first | exact (Kd.C_below HR170_0.out HB.out) | (with_reducible refine Kd.C_alloc ?_ _) | (with_reducible refine Kd.C_drewN ?_ _) | (with_reducible refine Kd.C_drew ?_))); (case side2 => exact HC170_0.out); rintro e w' ⟨rfl, ⟨nd, rfl⟩⟩))
                go_roundg k1
                case measure => have := HK1.out; omega
                case rel => exact ⟨(wrap64 (x8_1 + 1)), (by first | rfl | (simp; done) | (simp [*]; done)), H', ⟨by have := HK1.out; omega⟩, ⟨by (with_reducible repeat (first | refine blk_drewN ?_ _ | refine blk_drew ?_ | refine blk_alloc ?_ _)); exact BK169.out⟩, ⟨by repeat (first | (with_reducible first | exact HB.out | apply below_alloc | apply pw_below_drewN | apply below_drew1 | refine below_set ?_ GE169.out) | exact HB.out)⟩⟩
              · replace c9 := Bool.eq_false_iff.mpr c9
                subst c9
                have H1 : (some false) = some r := by rw [if_neg (show ¬ (false = true) by decide)] at H; exact H
                clear H
                have H := H1
                clear H1
                obtain rfl := Option.some.inj H
                have p170 : 0 ≤ (x8_1 : Int) := of_decide_eq_true (by first | (with_reducible assumption) | assumption)
                have q170 : x8_1 < (l0_0.length : Int) := of_decide_eq_true (by first | (with_reducible assumption) | assumption)
                obtain ⟨ad170, A170_0, c170_0, e170, hx170_0, hl170_0, hi170_0⟩ := at_L1 HR0_0.out x8_1 p170 q170
                cases e170
                replace hx170_0 := (HB.out.cell (World.block_lt_of_cell? w _ hx170_0)).trans hx170_0
                have HR170_0 := Aside0.mk hi170_0
                have HC170_0 := Aside0.mk hl170_0
                clear hi170_0 hl170_0
                replace p170 := eq_true p170
                replace q170 := eq_true q170
                go_wp2_with (first | (go_at_call 63; (with_reducible refine (impl_bytesOk.calls k1 _ _ (rd_L1 l0_0 x8_1) false _ ?side1 ?side2 A8.out).mono ?_); (case side1 => repeat (first | exact (Kd.C_below HR170_0.out HB.out) | (with_reducible refine Kd.C_alloc ?_ _) | (with_reducible refine Kd.C_drewN ?_ _) | (with_reducible refine Kd.C_drew ?_))); (case side2 => exact HC170_0.out); rintro e w' ⟨rfl, ⟨nd, rfl⟩⟩))
                go_ret
                exact ⟨by first | rfl | (simp [errW_none, errW_some] <;> rfl) | (simp [*, errW_none, errW_some] <;> rfl), by repeat (first | (with_reducible first | exact HB.out | apply below_alloc | apply pw_below_drewN | apply below_drew1 | refine below_set ?_ GE169.out) | exact HB.out)⟩
            · rw [if_neg c7] at H
              have c7b0 : (((rd_L1 l0_0 x8_1).length : Int) == 256) = false := beq_eq_false_iff_ne.mpr c7
              have c7b1 : (((rd_L1 l0_0 x8_1).length : Int) != 256) = true := bne_iff_ne.mpr c7
              obtain rfl := Option.some.inj H
              have p170 : 0 ≤ (x8_1 : Int) := of_decide_eq_true (by first | (with_reducible assumption) | assumption)
              have q170 : x8_1 < (l0_0.length : Int) := of_decide_eq_true (by first | (with_reducible assumption) | assumption)
              obtain ⟨ad170, A170_0, c170_0, e170, hx170_0, hl170_0, hi170_0⟩ := at_L1 HR0_0.out x8_1 p170 q170
              cases e170
              replace hx170_0 := (HB.out.cell (World.block_lt_of_cell? w _ hx170_0)).trans hx170_0
              have HR170_0 := Aside0.mk hi170_0
              have HC170_0 := Aside0.mk hl170_0
              clear hi170_0 hl170_0
              replace p170 := eq_true p170
              replace q170 := eq_true q170
              go_wp2
              go_ret
              exact ⟨by first | rfl | (simp [errW_none, errW_some] <;> rfl) | (simp [*, errW_none, errW_some] <;> rfl), by repeat (first | (with_reducible first | exact HB.out | apply below_alloc | apply pw_below_drewN | apply below_drew1 | refine below_set ?_ GE169.out) | exact HB.out)⟩
          · rw [if_neg c6] at H
            exact absurd H (by simp)
        · rw [if_neg c5] at H
          exact absurd H (by simp)
      · rw [if_neg c4] at H
        have c4b0 : decide (x8_1 < (l0_0.length : Int)) = false := decide_eq_false c4
        clear c4
        replace H := Option.bind_eq_some_iff.mp H
        obtain ⟨t172, A100, H⟩ := H
        replace H : (some t172) = some r := H
        have A10 := Aside0.mk A100
        clear A100
        obtain rfl := Option.some.inj H
        have hcz11_0 : wr.cell? ⟨gb169, 0, none⟩ = some (.slice A0_0 l0_0.length c0_0) := (blk_cell BK169.out 0).trans rfl
        have hfz11_0 := blk_frozen BK169.out 0
        go_wp2_with (first | ((with_reducible refine gate_callee (f := 64) rfl ?_); refine goesL_ (some 24) rfl rfl Try.func64 (by kernel_rfl) rfl #[.int .i64 (l0_0.length : Int), .int .i64 1, .int .i64 8] rfl (by (try simp only [List.map_toArray, List.map_cons, List.map_nil]); first | done | rfl | (simp only [List.length_drop, List.length_take]; rfl)) ?_; (with_reducible refine (impl_within.calls (l0_0.length : Int) 1 8 t172 _ A10.out).mono ?_); rintro e w' ⟨rfl, ⟨nd, rfl⟩⟩; refine ⟨_, rfl, ?_⟩))
        go_ret
        exact ⟨by first | rfl | (simp [errW_none, errW_some] <;> rfl) | (simp [*, errW_none, errW_some] <;> rfl), by repeat (first | (with_reducible first | exact HB.out | apply below_alloc | apply pw_below_drewN | apply below_drew1 | refine below_set ?_ GE169.out) | exact HB.out)⟩

/-! ### impl_Byte: function 77 -/
def impl_Byte.f (a0 : Int) : Option (Int) := some (Go.bits .and .i64 a0 255)
set_option maxHeartbeats 8000000 in
set_option maxRecDepth 100000 in
theorem impl_Byte.calls (a0 : Int) (r : Int) (w : World) (h : impl_Byte.f a0 = some r) :
    Calls Try.prog 77 #[.int .i64 a0] w fun e w' => e = .returned (.int .i64 r) ∧ Drawn0 w w' := by
  have H : (some (Go.bits .and .i64 a0 255)) = some r := h
  clear h
  obtain rfl := Option.some.inj H
  go_enter Try.func77, Try.ntmps77
  go_wp2
  go_ret
  exact ⟨by first | rfl | (simp; done) | (simp [*]; done), by repeat (first | exact Drawn0.refl _ | apply Drawn0.step)⟩

/-! ### impl_ImageBytes: function 44 -/
mutual
def impl_ImageBytes.l0 : Nat → List Int → Int → List (List Int) → Int → Int → List (List Int) → Option (List Int)
  | 0, _, _, _, _, _, _ => none
  | k + 1, x3, x4, x15, x16, x17, x174000 => if x17 < x16 then (if 0 ≤ x17 then (if x17 < (x15.length : Int) then (impl_ImageBytes.l1 k x3 x4 x15 x16 x17 (rd_L1 x15 x17) ((rd_L1 x15 x17).length : Int) 0 x174000) else (none)) else (none)) else ((some (([50, 67, 76, 75] : List Int) : List Int)).bind fun y178 => ((impl_Byte.f x4).bind fun t181 => ((some (([((x174000.length : Int)) % 256, (t181) % 256] : List Int) : List Int)).bind fun y182 => (if y178.length + y182.length < 140737488355328 then ((some (y178 ++ y182 : List Int)).bind fun y185 => (if y185.length + x3.length < 140737488355328 then (some (y185 ++ x3)) else (none))) else (none)))))
def impl_ImageBytes.l1 : Nat → List Int → Int → List (List Int) → Int → Int → List Int → Int → Int → List (List Int) → Option (List Int)
  | 0, _, _, _, _, _, _, _, _, _ => none
  | k + 1, x3, x4, x15, x16, x17, x21, x22, x23, x174000 => if x23 < x22 then (if 0 ≤ x23 then (if x23 < (x21.length : Int) then (if x3.length < 140737488355328 then (impl_ImageBytes.l1 k (x3 ++ [(rd x21 x23) % 256]) (wrap64 (x4 + (rd x21 x23))) x15 x16 x17 x21 x22 (wrap64 (x23 + 1)) x174000) else (none)) else (none)) else (none)) else (impl_ImageBytes.l0 k x3 x4 x15 x16 (wrap64 (x17 + 1)) x174000)
end
def impl_ImageBytes.f (k : Nat) (l0_0 : List (List Int)) : Option (List Int) := (impl_ImageOk.f k l0_0).bind fun t174 => (if t174 = true then (impl_ImageBytes.l0 k (([] : List Int)) 0 l0_0 (l0_0.length : Int) 0 l0_0) else (some ([] : List Int)))
theorem impl_ImageBytes.mono_l : ∀ k, (∀ y0 y1 y2 y3 y4 y5, LeO (impl_ImageBytes.l0 k y0 y1 y2 y3 y4 y5) (impl_ImageBytes.l0 (k + 1) y0 y1 y2 y3 y4 y5)) ∧ (∀ y0 y1 y2 y3 y4 y5 y6 y7 y8, LeO (impl_ImageBytes.l1 k y0 y1 y2 y3 y4 y5 y6 y7 y8) (impl_ImageBytes.l1 (k + 1) y0 y1 y2 y3 y4 y5 y6 y7 y8))
  | 0 => ⟨fun _ _ _ _ _ _ r h => by simp [impl_ImageBytes.l0] at h, fun _ _ _ _ _ _ _ _ _ r h => by simp [impl_ImageBytes.l1] at h⟩
  | k + 1 => by
    obtain ⟨ih0, ih1⟩ := impl_ImageBytes.mono_l k
    refine ⟨?_, ?_⟩
    · intro y0 y1 y2 y3 y4 y5
      unfold impl_ImageBytes.l0
      repeat' first
      | (with_reducible exact ih0 _ _ _ _ _ _)
      | (with_reducible exact ih1 _ _ _ _ _ _ _ _ _)
      | (with_reducible exact impl_ImageOk.mono _ _)
      | (with_reducible exact LeO.refl _)
      | (with_reducible exact LeO.none _)
      | (with_reducible refine LeO.ite ?_ ?_)
      | (with_reducible refine LeO.bind ?_ (fun _ => ?_))
      | exact ih0 _ _ _ _ _ _
      | exact ih1 _ _ _ _ _ _ _ _ _
      | exact impl_ImageOk.mono _ _
      | exact LeO.none _
      | refine LeO.ite ?_ ?_
      | refine LeO.bind ?_ (fun _ => ?_)
    · intro y0 y1 y2 y3 y4 y5 y6 y7 y8
      unfold impl_ImageBytes.l1
      repeat' first
      | (with_reducible exact ih0 _ _ _ _ _ _)
      | (with_reducible exact ih1 _ _ _ _ _ _ _ _ _)
      | (with_reducible exact impl_ImageOk.mono _ _)
      | (with_reducible exact LeO.refl _)
      | (with_reducible exact LeO.none _)
      | (with_reducible refine LeO.ite ?_ ?_)
      | (with_reducible refine LeO.bind ?_ (fun _ => ?_))
      | exact ih0 _ _ _ _ _ _
      | exact ih1 _ _ _ _ _ _ _ _ _
      | exact impl_ImageOk.mono _ _
      | exact LeO.none _
      | refine LeO.ite ?_ ?_
      | refine LeO.bind ?_ (fun _ => ?_)
theorem impl_ImageBytes.mono : ∀ a0 k, LeO (impl_ImageBytes.f k a0) (impl_ImageBytes.f (k + 1) a0) := by
  intro a0 k
  obtain ⟨ih0, ih1⟩ := impl_ImageBytes.mono_l k
  unfold impl_ImageBytes.f
  repeat' first
      | (with_reducible exact ih0 _ _ _ _ _ _)
      | (with_reducible exact ih1 _ _ _ _ _ _ _ _ _)
      | (with_reducible exact impl_ImageOk.mono _ _)
      | (with_reducible exact LeO.refl _)
      | (with_reducible exact LeO.none _)
      | (with_reducible refine LeO.ite ?_ ?_)
      | (with_reducible refine LeO.bind ?_ (fun _ => ?_))
      | exact ih0 _ _ _ _ _ _
      | exact ih1 _ _ _ _ _ _ _ _ _
      | exact impl_ImageOk.mono _ _
      | exact LeO.none _
      | refine LeO.ite ?_ ?_
      | refine LeO.bind ?_ (fun _ => ?_)
def impl_ImageBytes.T15 : Bool × List (List Nat × List Nat) := (true, [([], []), ([0], [0]), ([], []), ([2], [2]), ([3], [3]), ([4], [4]), ([], []), ([6], [6]), ([7], [7]), ([5, 8], [5, 8]), ([1, 9, 7], [1, 9]), ([10, 10, 0, 1, 2, 3, 4, 5, 6, 7, 8, 9, 10], [10])])
def impl_ImageBytes.B15 : List Nat := [0, 1, 0, 4, 12, 28, 0, 64, 192, 508, 1023, 2047]
theorem impl_ImageBytes.tab15 : rtab .any (opsOf Try.f44 15) = impl_ImageBytes.T15 := by kernel_rfl
theorem impl_ImageBytes.bits15 : waitsOk impl_ImageBytes.T15.2 impl_ImageBytes.B15 = true := by kernel_rfl
set_option maxHeartbeats 8000000 in
set_option maxRecDepth 100000 in
theorem impl_ImageBytes.calls (k : Nat) (A0_0 : Option Addr) (c0_0 : Nat) (l0_0 : List (List Int)) (r : List Int) (w : World) (hr0_0 : Kd.C (Kd.slice 3 (Kd.int .i64)) w A0_0 l0_0.length l0_0) (hc0_0 : l0_0.length ≤ c0_0) (h : impl_ImageBytes.f k l0_0 = some r) :
    Calls Try.prog 44 #[.agg #[.slice A0_0 l0_0.length c0_0]] w fun e w' => ∃ v0_ : Value, e = .returned (v0_) ∧ Kd.R (Kd.int .u8) 5 w' w.heap.size (fun _ => True) v0_ r ∧ Below w.heap.size w w' := by
  have hu27 := Try.underlying27
  have HR0_0 := Aside0.mk hr0_0
  have HC0_0 := Aside0.mk hc0_0
  clear hr0_0 hc0_0
  have HB := Aside0.mk (Below.refl w.heap.size w)
  have H : ((impl_ImageOk.f k l0_0).bind fun t174 => (if t174 = true then (impl_ImageBytes.l0 k (([] : List Int)) 0 l0_0 (l0_0.length : Int) 0 l0_0) else (some ([] : List Int)))) = some r := h
  clear h
  replace H := Option.bind_eq_some_iff.mp H
  obtain ⟨t174, A20, H⟩ := H
  replace H : (if t174 = true then (impl_ImageBytes.l0 k (([] : List Int)) 0 l0_0 (l0_0.length : Int) 0 l0_0) else (some ([] : List Int))) = some r := H
  have A2 := Aside0.mk A20
  clear A20
  by_cases c3 : t174 = true
  · subst c3
    have H1 : (impl_ImageBytes.l0 k (([] : List Int)) 0 l0_0 (l0_0.length : Int) 0 l0_0) = some r := by rw [if_pos rfl] at H; exact H
    clear H
    have H := H1
    clear H1
    obtain ⟨y175, hy175⟩ : ∃ y_ : List Int, y_ = (([] : List Int)) := ⟨_, rfl⟩
    replace H : (impl_ImageBytes.l0 k y175 0 l0_0 (l0_0.length : Int) 0 l0_0) = some r := by first | (rw [hy175]; with_reducible exact H) | (have H2_ := (Option.bind_some _ _).symm.trans H; rw [hy175]; with_reducible exact H2_) | (have H2_ := (Option.bind_some _ _).symm.trans H; with_reducible exact H2_) | with_reducible exact H | (rw [hy175]; exact H) | exact H
    have Ny175 := Aside0.mk hy175
    clear hy175
    have H' := Aside0.mk H
    clear H
    go_enter Try.func44, Try.ntmps44
    go_wp2_with (first | ((with_reducible refine gate_dst (N := 1) rfl ?_); refine box_event ?hg (N := 1) ?hd (cs := #[.slice A0_0 l0_0.length c0_0]) (t := 27) ?hr ?_; (case hd => rfl); (case hg => rfl); (case hr => first | (go_simp; done) | (go_simp; rfl)); intro gb173 hg w4 hbox hb; have n0_ := Aside0.mk (below_step (by repeat (first | (with_reducible first | exact HB.out | apply below_alloc | apply pw_below_drewN | apply below_drew1) | exact HB.out)) hb); have n1_ := Aside0.mk (hbox); have n2_ := Aside0.mk ((by rw [hg]; exact (below_size (by repeat (first | (with_reducible first | exact HB.out | apply below_alloc | apply pw_below_drewN | apply below_drew1) | exact HB.out))) : w.heap.size ≤ gb173)); have n3_ := Aside0.mk ((by rw [hg]; exact (below_size (by repeat (first | (with_reducible first | exact HB.out | apply below_alloc | apply pw_below_drewN | apply below_drew1) | exact HB.out))) : w.heap.size ≤ gb173)); clear HB; have HB := n0_; have BK173 := n1_; have GW173 := n2_; have GE173 := n3_; clear n0_ n1_ n2_ n3_; clear hb hbox hg; have hcz5_0 : w4.cell? ⟨gb173, 0, none⟩ = some (.slice A0_0 l0_0.length c0_0) := (blk_cell BK173.out 0).trans rfl; have hfz5_0 := blk_frozen BK173.out 0) | ((with_reducible refine gate_callee (f := 18) rfl ?_); refine goesL_ (some 11) rfl rfl Try.func18 (by kernel_rfl) rfl #[.agg #[.slice A0_0 l0_0.length c0_0]] rfl (by (try simp only [List.map_toArray, List.map_cons, List.map_nil]); first | done | rfl | (simp only [List.length_drop, List.length_take]; rfl)) ?_; (with_reducible refine (impl_ImageOk.calls k _ _ l0_0 true _ ?side1 ?side2 A2.out).mono ?_); (case side1 => repeat (first | exact (Kd.C_below HR0_0.out HB.out) | (with_reducible refine Kd.C_alloc ?_ _) | (with_reducible refine Kd.C_drewN ?_ _) | (with_reducible refine Kd.C_drew ?_))); (case side2 => exact HC0_0.out); rintro e w6 ⟨rfl, hb⟩; refine ⟨_, rfl, ?_⟩; have n0_ := Aside0.mk (blk_below (g := gb173) (o := .cells #[.slice A0_0 l0_0.length c0_0] 27 (0, 0)) (by (with_reducible repeat (first | refine blk_drewN ?_ _ | refine blk_drew ?_ | refine blk_alloc ?_ _)); exact BK173.out) hb); have n1_ := Aside0.mk (below_step (by repeat (first | (with_reducible first | exact HB.out | apply below_alloc | apply pw_below_drewN | apply below_drew1 | refine below_set ?_ GE173.out) | exact HB.out)) hb); clear BK173; clear HB; have BK173 := n0_; have HB := n1_; clear n0_ n1_; (try clear hb); (try clear hb2); (try clear hk); (try clear hi)) | ((with_reducible refine gate_dst (N := 13) rfl ?_); refine Kd.R_lit (Kd.int .u8) _ 5 ?hg (N := 13) ?hd (xs := ([] : List Int)) (inner := []) (ok := fun _ => True) (okp := fun _ => True) ?hr ?hp (fun _ hk => hk) trivial (Below.refl _ _) (Nat.le_refl _) (by simp) ?_; (case hd => rfl); (case hg => rfl); (case hr => first | (go_simp; done) | (go_simp; rfl)); (case hp => exact (Reps.none _ _)); intro v176 w7 ho8 hb hg_ hnew_; clear hg_ hnew_; (first | rw [← Ny175.out] at ho8 | (simp only [Int.reduceToNat] at ho8; rw [← Ny175.out] at ho8)); have n0_ := Aside0.mk (Kd.R_lower ho8 (below_size (by repeat (first | (with_reducible first | exact HB.out | apply below_alloc | apply pw_below_drewN | apply below_drew1 | refine below_set ?_ GE173.out) | exact HB.out)))); have n1_ := Aside0.mk (blk_below (g := gb173) (o := .cells #[.slice A0_0 l0_0.length c0_0] 27 (0, 0)) (by (with_reducible repeat (first | refine blk_drewN ?_ _ | refine blk_drew ?_ | refine blk_alloc ?_ _)); exact BK173.out) hb); have n2_ := Aside0.mk (below_step (by repeat (first | (with_reducible first | exact HB.out | apply below_alloc | apply pw_below_drewN | apply below_drew1 | refine below_set ?_ GE173.out) | exact HB.out)) hb); clear BK173; clear HB; have HO177 := n0_; have BK173 := n1_; have HB := n2_; clear n0_ n1_ n2_; clear hb ho8; have hcz9_0 : w7.cell? ⟨gb173, 0, none⟩ = some (.slice A0_0 l0_0.length c0_0) := (blk_cell BK173.out 0).trans rfl; have hfz9_0 := blk_frozen BK173.out 0))
    go_loopg [3, 4, 17] k (fun kq v3 v4 v17 w' => ∃ (x3_1 : List Int) (x4_1 : Int) (x17_1 : Int), v4 = .int .i64 x4_1 ∧ v17 = .int .i64 x17_1 ∧ Aside0 (impl_ImageBytes.l0 kq x3_1 x4_1 l0_0 (l0_0.length : Int) x17_1 l0_0 = some r) ∧ Aside0 (kq ≤ k) ∧ Aside0 (Kd.R (Kd.int .u8) 5 w' w.heap.size (fun _ => True) v3 x3_1) ∧ Aside0 (w'.heap[gb173]? = some (.cells #[(.slice A0_0 l0_0.length c0_0)] 27 (0, 0))) ∧ Aside0 (Below w.heap.size w w'))
    case atStart => exact ⟨(y175), (0), (0), (by first | rfl | (simp; done) | (simp [*]; done)), (by first | rfl | (simp; done) | (simp [*]; done)), H', ⟨Nat.le_refl _⟩, ⟨by (with_reducible repeat (first | apply Kd.R_alloc | apply Kd.R_drewN | apply Kd.R_drew)); exact HO177.out⟩, ⟨by (with_reducible repeat (first | refine blk_drewN ?_ _ | refine blk_drew ?_ | refine blk_alloc ?_ _)); exact BK173.out⟩, ⟨by repeat (first | (with_reducible first | exact HB.out | apply below_alloc | apply pw_below_drewN | apply below_drew1 | refine below_set ?_ GE173.out) | exact HB.out)⟩⟩
    case round =>
      clear H'
      try clear c1
      try clear p2
      try clear c3
      try clear c4
      try clear hcz5_0
      try clear hcz9_0
      try clear hfz5_0
      try clear hfz9_0
      obtain ⟨x3_1, x4_1, x17_1, rfl, rfl, HA, HK1, HO_3, BK173, HB⟩ := hrel
      cases gk with
      | zero => exact absurd HA.out (by simp [impl_ImageBytes.l0])
      | succ k1 =>
        have H := HA.out
        clear HA
        simp only [impl_ImageBytes.l0] at H
        by_cases c10 : x17_1 < (l0_0.length : Int)
        · rw [if_pos c10] at H
          have c10b0 : decide (x17_1 < (l0_0.length : Int)) = true := decide_eq_true c10
          clear c10
          by_cases c11 : 0 ≤ x17_1
          · rw [if_pos c11] at H
            have c11b0 : decide (0 ≤ x17_1) = true := decide_eq_true c11
            clear c11
            by_cases c12 : x17_1 < (l0_0.length : Int)
            · rw [if_pos c12] at H
              have c12b0 : decide (x17_1 < (l0_0.length : Int)) = true := decide_eq_true c12
              clear c12
              have H' := Aside0.mk H
              clear H
              have p191 : 0 ≤ (x17_1 : Int) := of_decide_eq_true (by first | (with_reducible assumption) | assumption)
              have q191 : x17_1 < (l0_0.length : Int) := of_decide_eq_true (by first | (with_reducible assumption) | assumption)
              obtain ⟨ad191, A191_0, c191_0, e191, hx191_0, hl191_0, hi191_0⟩ := at_L1 HR0_0.out x17_1 p191 q191
              cases e191
              replace hx191_0 := (HB.out.cell (World.block_lt_of_cell? w _ hx191_0)).trans hx191_0
              have HR191_0 := Aside0.mk hi191_0
              have HC191_0 := Aside0.mk hl191_0
              clear hi191_0 hl191_0
              replace p191 := eq_true p191
              replace q191 := eq_true q191
              go_wp2
              go_loopg [3, 4, 23] k1 (fun kq v3 v4 v23 w' => ∃ (x3_2 : List Int) (x4_2 : Int) (x23_2 : Int), v4 = .int .i64 x4_2 ∧ v23 = .int .i64 x23_2 ∧ Aside0 (impl_ImageBytes.l1 kq x3_2 x4_2 l0_0 (l0_0.length : Int) x17_1 (rd_L1 l0_0 x17_1) ((rd_L1 l0_0 x17_1).length : Int) x23_2 l0_0 = some r) ∧ Aside0 (kq ≤ k1) ∧ Aside0 (Kd.R (Kd.int .u8) 5 w' w.heap.size (fun _ => True) v3 x3_2) ∧ Aside0 (w'.heap[gb173]? = some (.cells #[(.slice (some ad191) l0_0.length c0_0)] 27 (0, 0))) ∧ Aside0 (Below w.heap.size w w'))
              case atStart => exact ⟨(x3_1), (x4_1), (0), (by first | rfl | (simp; done) | (simp [*]; done)), (by first | rfl | (simp; done) | (simp [*]; done)), H', ⟨Nat.le_refl _⟩, ⟨by (with_reducible repeat (first | apply Kd.R_alloc | apply Kd.R_drewN | apply Kd.R_drew)); exact HO_3.out⟩, ⟨by (with_reducible repeat (first | refine blk_drewN ?_ _ | refine blk_drew ?_ | refine blk_alloc ?_ _)); exact BK173.out⟩, ⟨by repeat (first | (with_reducible first | exact HB.out | apply below_alloc | apply pw_below_drewN | apply below_drew1 | refine below_set ?_ GE173.out) | exact HB.out)⟩⟩
              case round =>
                clear H'
                try clear c1
                try clear p1
                try clear q1
                try clear hx1
                try clear p2
                try clear c3
                try clear c4
                try clear c10
                try clear c10b0
                try clear c11
                try clear c11b0
                try clear c12
                try clear c12b0
                try clear hcz5_0
                try clear hcz9_0
                try clear hfz5_0
                try clear hfz9_0
                try clear hx191_0
                try clear p191
                try clear p2
                try clear q191
                obtain ⟨x3_2, x4_2, x23_2, rfl, rfl, HA, HK2, HO_3, BK173, HB⟩ := hrel
                cases gk with
                | zero => exact absurd HA.out (by simp [impl_ImageBytes.l1])
                | succ k2 =>
                  have H := HA.out
                  clear HA
                  simp only [impl_ImageBytes.l1] at H
                  by_cases c13 : x23_2 < ((rd_L1 l0_0 x17_1).length : Int)
                  · rw [if_pos c13] at H
                    have c13b0 : decide (x23_2 < ((rd_L1 l0_0 x17_1).length : Int)) = true := decide_eq_true c13
                    clear c13
                    by_cases c14 : 0 ≤ x23_2
                    · rw [if_pos c14] at H
                      have c14b0 : decide (0 ≤ x23_2) = true := decide_eq_true c14
                      clear c14
                      by_cases c15 : x23_2 < ((rd_L1 l0_0 x17_1).length : Int)
                      · rw [if_pos c15] at H
                        have c15b0 : decide (x23_2 < ((rd_L1 l0_0 x17_1).length : Int)) = true := decide_eq_true c15
                        clear c15
                        by_cases c16 : x3_2.length < 140737488355328
                        · rw [if_pos c16] at H
                          have LMc16 := Aside0.mk c16
                          clear c16
                          obtain ⟨y193, hy193⟩ : ∃ y_ : List Int, y_ = (x3_2 ++ [(rd (rd_L1 l0_0 x17_1) x23_2) % 256]) := ⟨_, rfl⟩
                          replace H : (impl_ImageBytes.l1 k2 y193 (wrap64 (x4_2 + (rd (rd_L1 l0_0 x17_1) x23_2))) l0_0 (l0_0.length : Int) x17_1 (rd_L1 l0_0 x17_1) ((rd_L1 l0_0 x17_1).length : Int) (wrap64 (x23_2 + 1)) l0_0) = some r := by first | (rw [hy193]; with_reducible exact H) | (have H2_ := (Option.bind_some _ _).symm.trans H; rw [hy193]; with_reducible exact H2_) | (have H2_ := (Option.bind_some _ _).symm.trans H; with_reducible exact H2_) | with_reducible exact H | (rw [hy193]; exact H) | exact H
                          have Ny193 := Aside0.mk hy193
                          clear hy193
                          have H' := Aside0.mk H
                          clear H
                          have p192 : 0 ≤ (x23_2 : Int) := of_decide_eq_true (by first | (with_reducible assumption) | assumption)
                          have q192 : x23_2 < ((rd_L1 l0_0 x17_1).length : Int) := of_decide_eq_true (by first | (with_reducible assumption) | assumption)
                          obtain ⟨ad192, e192, hx192_0⟩ := Kd.at_int HR191_0.out x23_2 p192 q192
                          cases e192
                          replace hx192_0 := (HB.out.cell (World.block_lt_of_cell? w _ hx192_0)).trans hx192_0
                          replace p192 := eq_true p192
                          replace q192 := eq_true q192
                          go_wp2_with (first | ((with_reducible refine gate_builtin (b := .append) (xs := #[.tmp 27, .tmp 30]) rfl ?_); at_builtin; refine Kd.R_append (Kd.int .u8) (w0 := w) w.heap.size rfl (.tmp 27) (.tmp 30) 54 5 (.int .u8 0) 1 rfl Try.underlying54 info5 rfl (by decide) (by omega) u3 x3_2 ((rd (rd_L1 l0_0 x17_1) x23_2) % 256) [.int .u8 ((rd (rd_L1 l0_0 x17_1) x23_2) % 256)] (fun _ => True) (fun _ => False) rfl rfl ?aP (fun _ hk => hk.elim) ?aF ?aO ?aB ?aS ?aL ?_; (case aP => exact rfl); (case aB => exact (by repeat (first | (with_reducible first | exact HB.out | apply below_alloc | apply pw_below_drewN | apply below_drew1 | refine below_set ?_ GE173.out) | exact HB.out))); (case aF => exact (fun _ _ => trivial)); (case aO => exact (by (with_reducible repeat (first | apply Kd.R_alloc | apply Kd.R_drewN | apply Kd.R_drew)); exact HO_3.out)); (case aS => exact (below_size (by repeat (first | (with_reducible first | exact HB.out | apply below_alloc | apply pw_below_drewN | apply below_drew1 | refine below_set ?_ GE173.out) | exact HB.out)))); (case aL => have := LMc16.out; omega); intro v194 w17 ho hb hg hat; rw [← Ny193.out] at ho; have n0_ := Aside0.mk (blk_grown (g := gb173) (o := .cells #[.slice (some ad191) l0_0.length c0_0] 27 (0, 0)) (by (with_reducible repeat (first | refine blk_drewN ?_ _ | refine blk_drew ?_ | refine blk_alloc ?_ _)); exact BK173.out) hg (Kd.R_ne HO_3.out BK173.out (by decide))); have n1_ := Aside0.mk (hb); have n2_ := Aside0.mk (ho); clear BK173; clear HB; clear HO_3; have BK173 := n0_; have HB := n1_; have HO195 := n2_; clear n0_ n1_ n2_; clear ho hb hg hat))
                          go_roundg k2
                          case measure => have := HK1.out; have := HK2.out; omega
                          case rel => exact ⟨(y193), (wrap64 (x4_2 + (rd (rd_L1 l0_0 x17_1) x23_2))), (wrap64 (x23_2 + 1)), (by first | rfl | (simp; done) | (simp [*]; done)), (by first | rfl | (simp; done) | (simp [*]; done)), H', ⟨by have := HK1.out; have := HK2.out; omega⟩, ⟨by (with_reducible repeat (first | apply Kd.R_alloc | apply Kd.R_drewN | apply Kd.R_drew)); exact HO195.out⟩, ⟨by (with_reducible repeat (first | refine blk_drewN ?_ _ | refine blk_drew ?_ | refine blk_alloc ?_ _)); exact BK173.out⟩, ⟨by repeat (first | (with_reducible first | exact HB.out | apply below_alloc | apply pw_below_drewN | apply below_drew1 | refine below_set ?_ GE173.out) | exact HB.out)⟩⟩
                        · rw [if_neg c16] at H
                          exact absurd H (by simp)
                      · rw [if_neg c15] at H
                        exact absurd H (by simp)
                    · rw [if_neg c14] at H
                      exact absurd H (by simp)
                  · rw [if_neg c13] at H
                    have c13b0 : decide (x23_2 < ((rd_L1 l0_0 x17_1).length : Int)) = false := decide_eq_false c13
                    clear c13
                    have H' := Aside0.mk H
                    clear H
                    go_wp2
                    go_roundg k2
                    case measure => have := HK1.out; have := HK2.out; omega
                    case rel => exact ⟨(x3_2), (x4_2), (wrap64 (x17_1 + 1)), (by first | rfl | (simp; done) | (simp [*]; done)), (by first | rfl | (simp; done) | (simp [*]; done)), H', ⟨by have := HK1.out; have := HK2.out; omega⟩, ⟨by (with_reducible repeat (first | apply Kd.R_alloc | apply Kd.R_drewN | apply Kd.R_drew)); exact HO_3.out⟩, ⟨by (with_reducible repeat (first | refine blk_drewN ?_ _ | refine blk_drew ?_ | refine blk_alloc ?_ _)); exact BK173.out⟩, ⟨by repeat (first | (with_reducible first | exact HB.out | apply below_alloc | apply pw_below_drewN | apply below_drew1 | refine below_set ?_ GE173.out) | exact HB.out)⟩⟩
            · rw [if_neg c12] at H
              exact absurd H (by simp)
          · rw [if_neg c11] at H
            exact absurd H (by simp)
        · rw [if_neg c10] at H
          have c10b0 : decide (x17_1 < (l0_0.length : Int)) = false := decide_eq_false c10
          clear c10
          obtain ⟨y178, hy178⟩ : ∃ y_ : List Int, y_ = (([50, 67, 76, 75] : List Int)) := ⟨_, rfl⟩
          replace H : ((impl_Byte.f x4_1).bind fun t181 => ((some (([((l0_0.length : Int)) % 256, (t181) % 256] : List Int) : List Int)).bind fun y182 => (if y178.length + y182.length < 140737488355328 then ((some (y178 ++ y182 : List Int)).bind fun y185 => (if y185.length + x3_1.length < 140737488355328 then (some (y185 ++ x3_1)) else (none))) else (none)))) = some r := by first | (rw [hy178]; with_reducible exact H) | (have H2_ := (Option.bind_some _ _).symm.trans H; rw [hy178]; with_reducible exact H2_) | (have H2_ := (Option.bind_some _ _).symm.trans H; with_reducible exact H2_) | with_reducible exact H | (rw [hy178]; exact H) | exact H
          have Ny178 := Aside0.mk hy178
          clear hy178
          replace H := Option.bind_eq_some_iff.mp H
          obtain ⟨t181, A180, H⟩ := H
          replace H : ((some (([((l0_0.length : Int)) % 256, (t181) % 256] : List Int) : List Int)).bind fun y182 => (if y178.length + y182.length < 140737488355328 then ((some (y178 ++ y182 : List Int)).bind fun y185 => (if y185.length + x3_1.length < 140737488355328 then (some (y185 ++ x3_1)) else (none))) else (none))) = some r := H
          have A18 := Aside0.mk A180
          clear A180
          obtain ⟨y182, hy182⟩ : ∃ y_ : List Int, y_ = (([((l0_0.length : Int)) % 256, (t181) % 256] : List Int)) := ⟨_, rfl⟩
          replace H : (if y178.length + y182.length < 140737488355328 then ((some (y178 ++ y182 : List Int)).bind fun y185 => (if y185.length + x3_1.length < 140737488355328 then (some (y185 ++ x3_1)) else (none))) else (none)) = some r := by first | (rw [hy182]; with_reducible exact H) | (have H2_ := (Option.bind_some _ _).symm.trans H; rw [hy182]; with_reducible exact H2_) | (have H2_ := (Option.bind_some _ _).symm.trans H; with_reducible exact H2_) | with_reducible exact H | (rw [hy182]; exact H) | exact H
          have Ny182 := Aside0.mk hy182
          clear hy182
          by_cases c19 : y178.length + y182.length < 140737488355328
          · rw [if_pos c19] at H
            have LMc19 := Aside0.mk c19
            clear c19
            obtain ⟨y185, hy185⟩ : ∃ y_ : List Int, y_ = (y178 ++ y182) := ⟨_, rfl⟩
            replace H : (if y185.length + x3_1.length < 140737488355328 then (some (y185 ++ x3_1)) else (none)) = some r := by first | (rw [hy185]; with_reducible exact H) | (have H2_ := (Option.bind_some _ _).symm.trans H; rw [hy185]; with_reducible exact H2_) | (have H2_ := (Option.bind_some _ _).symm.trans H; with_reducible exact H2_) | with_reducible exact H | (rw [hy185]; exact H) | exact H
            have Ny185 := Aside0.mk hy185
            clear hy185
            by_cases c20 : y185.length + x3_1.length < 140737488355328
            · rw [if_pos c20] at H
              have LMc20 := Aside0.mk c20
              clear c20
              obtain ⟨y188, hy188⟩ : ∃ y_ : List Int, y_ = (y185 ++ x3_1) := ⟨_, rfl⟩
              replace H : (some y188) = some r := by first | (rw [hy188]; with_reducible exact H) | (have H2_ := (Option.bind_some _ _).symm.trans H; rw [hy188]; with_reducible exact H2_) | (have H2_ := (Option.bind_some _ _).symm.trans H; with_reducible exact H2_) | with_reducible exact H | (rw [hy188]; exact H) | exact H
              have Ny188 := Aside0.mk hy188
              clear hy188
              obtain rfl := Option.some.inj H
              try go_wp2
              have n0_ := Aside0.mk (Kd.R_drew HO_3.out)
              have n1_ := Aside0.mk (blk_drew BK173.out)
              have n2_ := Aside0.mk (below_drew1 HB.out)
              clear HO_3
              clear BK173
              clear HB
              have HO_3 := n0_
              have BK173 := n1_
              have HB := n2_
              clear n0_ n1_ n2_
              refine freeR_ (n := 12) (e := 10) (g := 4) (T := (true, [([], []), ([0], [0]), ([], []), ([2], [2]), ([3], [3]), ([4], [4]), ([], []), ([6], [6]), ([7], [7]), ([5, 8], [5, 8]), ([1, 9, 7], [1, 9]), ([10, 10, 0, 1, 2, 3, 4, 5, 6, 7, 8, 9, 10], [10])])) #[true, true, true, true, true, true, true, true, true, true, false, false] #[true, true, true, true, false, true, true, true, true, true, false, false] [37, 38, 39, 40, 41, 42, 43, 44, 45, 46] (fun j u w' => match j with
                | 0 => isLit wr.heap.size u w'
                | 1 => isLit wr.heap.size u w'
                | 2 => u = .pointer (some ⟨gb173, 0, none⟩)
                | 3 => u = .slice A0_0 l0_0.length c0_0
                | 4 => u = .int .i64 (l0_0.length : Int)
                | 5 => u = .int .u8 ((l0_0.length : Int) % 256)
                | 6 => u = .int .i64 x4_1
                | 7 => u = .int .i64 t181
                | 8 => u = .int .u8 (t181 % 256)
                | 9 => isTwo wr.heap.size ((l0_0.length : Int) % 256) (t181 % 256) u w'
                | _ => False) (stepR wr.heap.size) (fun _ _ h => h.1)
                (by kernel_rfl) rfl (by kernel_rfl) (by kernel_rfl) (by kernel_rfl) (any_of (T := (true, [([], []), ([0], [0]), ([], []), ([2], [2]), ([3], [3]), ([4], [4]), ([], []), ([6], [6]), ([7], [7]), ([5, 8], [5, 8]), ([1, 9, 7], [1, 9]), ([10, 10, 0, 1, 2, 3, 4, 5, 6, 7, 8, 9, 10], [10])])) (by kernel_rfl) (by kernel_rfl)) (fun _ _ _ _ h => h) ?stableI ?stepI ?lagI ?lastI
              case stableI =>
                intro j u W W' h hb
                rcases j with _ | _ | _ | _ | _ | _ | _ | _ | _ | _ | j
                · exact isLit_step h hb
                · exact isLit_step h hb
                · exact h
                · exact h
                · exact h
                · exact h
                · exact h
                · exact h
                · exact h
                · exact isTwo_step h hb
                · exact h
              case stepI =>
                intro i hi o ho a W hB hout hneed K hK
                have HBW := Aside0.mk hB
                have hcase : i = 0 ∨ i = 1 ∨ i = 2 ∨ i = 3 ∨ i = 4 ∨ i = 5 ∨ i = 6 ∨ i = 7 ∨ i = 8 ∨ i = 9 := by omega
                clear hB
                have hself : stepR wr.heap.size W W := stepR_below HBW.out.size (Below.refl _ _)
                rcases hcase with rfl | rfl | rfl | rfl | rfl | rfl | rfl | rfl | rfl | rfl
                · obtain rfl := Option.some.inj ho
                  refine value_ (v := .slice (some ⟨W.heap.size, 0, none⟩) 4 4) (w1 := W.alloc (.cells LIT 5)) (by rfl) rfl ?_ (hK.out _ _ (stepR_below HBW.out.size (below_alloc (Below.refl _ _) _)) ⟨_, (0, 0), rfl, HBW.out.size, .inl rfl, alloc_at _ _ _ rfl⟩)
                  go_simp
                  rfl
                · obtain rfl := Option.some.inj ho
                  obtain ⟨g, fr, e0, hg, hf, hb⟩ : isLit _ (a.eval (.tmp 37)) W := hneed 0 (by decide)
                  obtain ⟨m1, m2⟩ := stepR_mark hg hf hb
                  refine value_ (v := .slice (some ⟨g, 0, none⟩) 4 4) (w1 := W.freeze ⟨g, 4, none⟩ 1) (by rfl) rfl ?_ (hK.out _ _ m1 ⟨g, (4, 5), rfl, hg, .inr rfl, m2⟩)
                  have hrun := run_mark (P := Try.prog) W 54 5 LIT fr g 4 4 Try.underlying54 Try.underlying5 hb
                  simp [execOp, e0, hrun, Result.andThen]
                  rfl
                · obtain rfl := Option.some.inj ho
                  have h3 : a.eval (.tmp 1) = .pointer (some ⟨gb173, 0, none⟩) := hout 1 (by decide)
                  have h3' := eval_get h3
                  refine value_ (v := .pointer (some ⟨gb173, 0, none⟩)) (w1 := W) (by rfl) rfl ?_ (hK.out _ _ hself rfl)
                  go_simp
                · obtain rfl := Option.some.inj ho
                  have e0 : a.eval (.tmp 39) = _ := hneed 2 (by decide)
                  have e0' := eval_get e0
                  have hb := blk_below (w := wr.drew) BK173.out HBW.out
                  have d0 := (blk_cell hb 0).trans rfl
                  refine value_ (v := .slice A0_0 l0_0.length c0_0) (w1 := W) (by rfl) rfl ?_ (hK.out _ _ hself rfl)
                  go_simp
                · obtain rfl := Option.some.inj ho
                  have e0 : a.eval (.tmp 40) = _ := hneed 3 (by decide)
                  have e0' := eval_get e0
                  refine value_ (v := .int .i64 (l0_0.length : Int)) (w1 := W) (by rfl) rfl ?_ (hK.out _ _ hself rfl)
                  go_simp
                · obtain rfl := Option.some.inj ho
                  have e0 : a.eval (.tmp 41) = _ := hneed 4 (by decide)
                  have e0' := eval_get e0
                  refine value_ (v := .int .u8 ((l0_0.length : Int) % 256)) (w1 := W) (by rfl) rfl ?_ (hK.out _ _ hself rfl)
                  go_simp
                  first | rfl | exact IntKind.wrap_u8 _ | (unfold IntKind.wrap; simp [IntKind.bits, IntKind.signed])
                · obtain rfl := Option.some.inj ho
                  have h3 : a.eval (.tmp 4) = .int .i64 x4_1 := hout 4 (by decide)
                  have h3' := eval_get h3
                  refine value_ (v := .int .i64 x4_1) (w1 := W) (by rfl) rfl ?_ (hK.out _ _ hself rfl)
                  go_simp
                · obtain rfl := Option.some.inj ho
                  have e0 : a.eval (.tmp 43) = _ := hneed 6 (by decide)
                  refine goes_ Try.func77 (by kernel_rfl) rfl #[.int .i64 x4_1] (by rfl) rfl rfl (by simp only [List.map_toArray, List.map_cons, List.map_nil, e0]) ?_
                  refine (impl_Byte.calls x4_1 t181 _ A18.out).mono ?_
                  rintro e w' ⟨rfl, hdr⟩
                  exact ⟨_, rfl, hK.out _ _ (stepR_below HBW.out.size (kept_drew hdr)) rfl⟩
                · obtain rfl := Option.some.inj ho
                  have e0 : a.eval (.tmp 44) = _ := hneed 7 (by decide)
                  have e0' := eval_get e0
                  refine value_ (v := .int .u8 (t181 % 256)) (w1 := W) (by rfl) rfl ?_ (hK.out _ _ hself rfl)
                  go_simp
                  first | rfl | exact IntKind.wrap_u8 _ | (unfold IntKind.wrap; simp [IntKind.bits, IntKind.signed])
                · obtain rfl := Option.some.inj ho
                  have e0 : a.eval (.tmp 42) = _ := hneed 5 (by decide)
                  have e1 : a.eval (.tmp 45) = _ := hneed 8 (by decide)
                  have e0' := eval_get e0
                  have e1' := eval_get e1
                  refine value_ (v := .slice (some ⟨W.heap.size, 0, none⟩) 2 2) (w1 := W.alloc (.cells #[.int .u8 ((l0_0.length : Int) % 256), .int .u8 (t181 % 256)] 5)) (by rfl) rfl ?_ (hK.out _ _ (stepR_below HBW.out.size (below_alloc (Below.refl _ _) _)) ⟨_, rfl, HBW.out.size, alloc_at _ _ _ rfl⟩)
                  go_simp
              case lagI =>
                intro o ho a W hneed
                obtain rfl := Option.some.inj ho
                have e0 : a.eval (.tmp 40) = _ := hneed 3 (by decide)
                have e0' := eval_get e0
                refine ⟨.int .i64 (l0_0.length : Int), rfl, Or.inl ⟨by rfl, ?_⟩⟩
                intro w'
                go_simp
              intro f vs W hB hE
              have HBW := Aside0.mk hB
              clear hB
              obtain ⟨g0, fr0, q0, _, _, _⟩ : isLit _ (vs 0) W := hE 0 (by decide)
              obtain ⟨g1, fr1, q1, hg1, hf1, hb1⟩ : isLit _ (vs 1) W := hE 1 (by decide)
              have q2 : vs 2 = _ := hE 2 (by decide)
              have q3 : vs 3 = _ := hE 3 (by decide)
              have q4 : vs 4 = _ := hE 4 (by decide)
              have q5 : vs 5 = _ := hE 5 (by decide)
              have q6 : vs 6 = _ := hE 6 (by decide)
              have q7 : vs 7 = _ := hE 7 (by decide)
              have q8 : vs 8 = _ := hE 8 (by decide)
              obtain ⟨g9, q9, hg9, hb9⟩ : isTwo _ _ _ (vs 9) W := hE 9 (by decide)
              show wpAnyLast _ _ _ _ _ _ (f + 2) _ (putAll _ [(37, vs 0), (38, vs 1), (39, vs 2), (40, vs 3), (41, vs 4), (42, vs 5), (43, vs 6), (44, vs 7), (45, vs 8), (46, vs 9)]) W
              rw [q0, q1, q2, q3, q4, q5, q6, q7, q8, q9]
              clear q0 q1 q2 q3 q4 q5 q6 q7 q8 q9 hE
              refine norm_ (a' := ?_) ?_ ?_
              rotate_left
              · simp only [putAll, Act.put, List.setIfInBounds_toArray, List.set_cons_zero, List.set_cons_succ]
                rfl
              obtain ⟨i0, hi0, hzz⟩ := Option.map_eq_some_iff.1 info5
              simp only [Prod.mk.injEq] at hzz
              obtain ⟨hz0, hz1, hz2⟩ := hzz
              obtain ⟨v186, w27, hrun, hown, hgr⟩ := run_append_arg_grows (P := Try.prog) W 54 54 5 i0 (.int .u8 0) 1 1 Try.underlying54 hi0 hz0 hz1 hz2 rfl (by decide) ⟨g1, 0, none⟩ 4 4 [.int .u8 50, .int .u8 67, .int .u8 76, .int .u8 75] rfl (fun j u hj => by
                rw [Addr.add_lit, Nat.zero_add, cell_of_row _ _ j _ _ _ hb1]
                simpa [LIT] using hj) ⟨g9, 0, none⟩ 2 2 [.int .u8 ((l0_0.length : Int) % 256), .int .u8 (t181 % 256)] rfl (fun j u hj => by
                rw [Addr.add_lit, Nat.zero_add, cell_of_row _ _ j _ _ _ hb9]
                simpa using hj) (by decide) (by decide) (by decide)
              refine one_ (i := 10) (N := some 47) #[true, true, true, true, true, true, true, true, true, true, true, false] rfl rfl (by kernel_rfl) (by decide) (fun K hK => ?_)
              refine value_ (v := v186) (w1 := w27) (by rfl) rfl ?_ ?_
              · simp [execOp, resolve, invoke, builtin, Act.eval, hrun, Result.andThen]
              refine hK.out _ _ trivial (fun _ => ?_)
              clear hK K
              have hb27 : Below W.heap.size W w27 := pw_below_grown (Below.refl _ W) none (Nat.le_refl _) hgr (fun k hk => by cases hk)
              have ho1 : Kd.R (Kd.int .u8) 5 w27 W.heap.size (fun _ => True) v186 y185 := by
                rw [Ny185.out, Ny178.out, Ny182.out]
                exact Kd.R_of_own (xs := [50, 67, 76, 75, (l0_0.length : Int) % 256, t181 % 256]) hown (fun _ _ => trivial)
              have hdW := Kd.R_below (w := wr.drew) HO_3.out HBW.out
              have hd27 := Aside0.mk (Kd.R_below hdW hb27)
              have hBW : Below w.heap.size w W := below_step (w := w) (W := wr.drew) HB.out HBW.out
              have HB27 := Aside0.mk (below_step hBW hb27)
              have HO187 := Aside0.mk (Kd.R_mono (Kd.R_lower (Kd.R_new' ho1 (Kd.R_lt hdW)) hBW.size) (fun _ hk => hk.2))
              clear hb27 ho1 hdW hBW HBW hb1 hb9 hrun hown hgr hg1 hf1 hg9 HO_3 BK173 HB hi0 hz0 hz1 hz2
              refine norm_ (a' := ?_) ?_ ?_
              rotate_left
              · show Act.put _ (some 47) _ = _
                simp only [Act.put, List.setIfInBounds_toArray, List.set_cons_zero, List.set_cons_succ, i64_w, i32_w]
                rfl
              refine pure_ (i := 11) (N := some 9) (v := ?_) (a' := ?_) #[true, true, true, true, true, true, true, true, true, true, true, true] rfl rfl (by kernel_rfl) (fun _ _ _ h => h) (Or.inl ⟨by rfl, ?_⟩) ?_ ?_
              rotate_left
              · intro w'
                go_simp
                with_reducible rfl
              rotate_left
              · simp only [Act.put, List.setIfInBounds_toArray, List.set_cons_zero, List.set_cons_succ, i64_w, i32_w]
                rfl
              refine done_ (by kernel_rfl) ?_
              obtain ⟨Ao30, co30, eo30⟩ := Kd.R_slice hd27.out
              subst eo30
              go_wp2_with ((with_reducible refine gate_builtin (b := .append) (xs := #[.tmp 48, .tmp 49]) rfl ?_); at_builtin; refine Kd.R_append_rows (Kd.int .u8) (w0 := w) w.heap.size rfl (.tmp 48) (.tmp 49) 54 5 (.int .u8 0) 1 rfl Try.underlying54 info5 rfl (by decide) (by omega) v186 y185 x3_1 _ _ _ (fun k_ => some k_ ≠ (.slice Ao30 x3_1.length co30 : Value).ownBlock) (fun _ => False) rfl rfl HO187.out (Kd.R_reads' hd27.out).2.2 (fun _ _ h => h) (fun _ h => h.elim) (fun k_ hk => Kd.fresh' (Kd.R_lt hd27.out) k_ hk) HB27.out HB27.out.size (by have := LMc20.out; omega) ?_; intro v190 w28 ho hb hg hat; have HO190 := Aside0.mk ho; have HB28 := Aside0.mk hb; clear ho hb hg hat)
              go_ret
              exact ⟨_, rfl, by rw [Ny188.out]; exact Kd.R_mono HO190.out (fun _ _ => trivial), HB28.out⟩
            · rw [if_neg c20] at H
              exact absurd H (by simp)
          · rw [if_neg c19] at H
            exact absurd H (by simp)
  · replace c3 := Bool.eq_false_iff.mpr c3
    subst c3
    have H1 : (some ([] : List Int)) = some r := by rw [if_neg (show ¬ (false = true) by decide)] at H; exact H
    clear H
    have H := H1
    clear H1
    obtain rfl := Option.some.inj H
    go_enter Try.func44, Try.ntmps44
    go_wp2_with (first | ((with_reducible refine gate_dst (N := 1) rfl ?_); refine box_event ?hg (N := 1) ?hd (cs := #[.slice A0_0 l0_0.length c0_0]) (t := 27) ?hr ?_; (case hd => rfl); (case hg => rfl); (case hr => first | (go_simp; done) | (go_simp; rfl)); intro gb173 hg w31 hbox hb; have n0_ := Aside0.mk (below_step (by repeat (first | (with_reducible first | exact HB.out | apply below_alloc | apply pw_below_drewN | apply below_drew1) | exact HB.out)) hb); have n1_ := Aside0.mk (hbox); have n2_ := Aside0.mk ((by rw [hg]; exact (below_size (by repeat (first | (with_reducible first | exact HB.out | apply below_alloc | apply pw_below_drewN | apply below_drew1) | exact HB.out))) : w.heap.size ≤ gb173)); have n3_ := Aside0.mk ((by rw [hg]; exact (below_size (by repeat (first | (with_reducible first | exact HB.out | apply below_alloc | apply pw_below_drewN | apply below_drew1) | exact HB.out))) : w.heap.size ≤ gb173)); clear HB; have HB := n0_; have BK173 := n1_; have GW173 := n2_; have GE173 := n3_; clear n0_ n1_ n2_ n3_; clear hb hbox hg; have hcz32_0 : w31.cell? ⟨gb173, 0, none⟩ = some (.slice A0_0 l0_0.length c0_0) := (blk_cell BK173.out 0).trans rfl; have hfz32_0 := blk_frozen BK173.out 0) | ((with_reducible refine gate_callee (f := 18) rfl ?_); refine goesL_ (some 11) rfl rfl Try.func18 (by kernel_rfl) rfl #[.agg #[.slice A0_0 l0_0.length c0_0]] rfl (by (try simp only [List.map_toArray, List.map_cons, List.map_nil]); first | done | rfl | (simp only [List.length_drop, List.length_take]; rfl)) ?_; (with_reducible refine (impl_ImageOk.calls k _ _ l0_0 false _ ?side1 ?side2 A2.out).mono ?_); (case side1 => repeat (first | exact (Kd.C_below HR0_0.out HB.out) | (with_reducible refine Kd.C_alloc ?_ _) | (with_reducible refine Kd.C_drewN ?_ _) | (with_reducible refine Kd.C_drew ?_))); (case side2 => exact HC0_0.out); rintro e w33 ⟨rfl, hb⟩; refine ⟨_, rfl, ?_⟩; have n0_ := Aside0.mk (blk_below (g := gb173) (o := .cells #[.slice A0_0 l0_0.length c0_0] 27 (0, 0)) (by (with_reducible repeat (first | refine blk_drewN ?_ _ | refine blk_drew ?_ | refine blk_alloc ?_ _)); exact BK173.out) hb); have n1_ := Aside0.mk (below_step (by repeat (first | (with_reducible first | exact HB.out | apply below_alloc | apply pw_below_drewN | apply below_drew1 | refine below_set ?_ GE173.out) | exact HB.out)) hb); clear BK173; clear HB; have BK173 := n0_; have HB := n1_; clear n0_ n1_; (try clear hb); (try clear hb2); (try clear hk); (try clear hi)))
    go_ret
    exact ⟨_, by first | rfl | (simp [errW_none, errW_some] <;> rfl) | (simp [*, errW_none, errW_some] <;> rfl), by first | exact Kd.R_nil _ _ _ _ _ | exact Kd.N_nil _ _ _ _ _ | exact Kd.V_nil _ _ _ _ _ | exact Kd.Q_nil _ _ _ _ _ | exact Kd.S_nil _ _ _ _ _, by repeat (first | (with_reducible first | exact HB.out | apply below_alloc | apply pw_below_drewN | apply below_drew1 | refine below_set ?_ GE173.out) | exact HB.out)⟩

/-! ### laws_heldByteS: function 45 -/
def laws_heldByteS.l0 : Nat → List Int → Int → Int → Option (Int)
  | 0, _, _, _ => none
  | k + 1, x0, x1, x5 => if x5 < (x0.length : Int) then (if 0 ≤ x5 then (if (rd x0 x5) = ((x1) % 256) then (laws_heldByteS.l0 k x0 (wrap64 (x1 + 1)) (wrap64 (x5 + 1))) else (some (-1))) else (none)) else (some x1)
def laws_heldByteS.f (k : Nat) (l0 : List Int) (a1 : Int) : Option (Int) := laws_heldByteS.l0 k l0 a1 0
theorem laws_heldByteS.mono_l : ∀ k, (∀ y0 y1 y2, LeO (laws_heldByteS.l0 k y0 y1 y2) (laws_heldByteS.l0 (k + 1) y0 y1 y2))
  | 0 => fun _ _ _ r h => by simp [laws_heldByteS.l0] at h
  | k + 1 => by
    have ih0 := laws_heldByteS.mono_l k
    · intro y0 y1 y2
      unfold laws_heldByteS.l0
      repeat' first
      | (with_reducible exact ih0 _ _ _)
      | (with_reducible exact LeO.refl _)
      | (with_reducible exact LeO.none _)
      | (with_reducible refine LeO.ite ?_ ?_)
      | (with_reducible refine LeO.bind ?_ (fun _ => ?_))
      | exact ih0 _ _ _
      | exact LeO.none _
      | refine LeO.ite ?_ ?_
      | refine LeO.bind ?_ (fun _ => ?_)
theorem laws_heldByteS.mono : ∀ a0 a1 k, LeO (laws_heldByteS.f k a0 a1) (laws_heldByteS.f (k + 1) a0 a1) := by
  intro a0 a1 k
  have ih0 := laws_heldByteS.mono_l k
  unfold laws_heldByteS.f
  repeat' first
      | (with_reducible exact ih0 _ _ _)
      | (with_reducible exact LeO.refl _)
      | (with_reducible exact LeO.none _)
      | (with_reducible refine LeO.ite ?_ ?_)
      | (with_reducible refine LeO.bind ?_ (fun _ => ?_))
      | exact ih0 _ _ _
      | exact LeO.none _
      | refine LeO.ite ?_ ?_
      | refine LeO.bind ?_ (fun _ => ?_)
set_option maxHeartbeats 8000000 in
set_option maxRecDepth 100000 in
theorem laws_heldByteS.calls (k : Nat) (A0 : Option Addr) (c0 : Nat) (l0 : List Int) (a1 : Int) (r : Int) (w : World) (hr0 : Kd.C (Kd.int .u8) w A0 l0.length l0) (hc0 : l0.length ≤ c0) (h : laws_heldByteS.f k l0 a1 = some r) :
    Calls Try.prog 45 #[.slice A0 l0.length c0, .int .i64 a1] w fun e w' => e = .returned (.int .i64 r) ∧ Drawn0 w w' := by
  have HR0 := Aside0.mk hr0
  have HC0 := Aside0.mk hc0
  clear hr0 hc0
  have H : (laws_heldByteS.l0 k l0 a1 0) = some r := h
  clear h
  have H' := Aside0.mk H
  clear H
  go_enter Try.func45, Try.ntmps45
  go_wp2
  go_loopg [1, 5] k (fun kq v1 v5 w' => ∃ (x1_1 : Int) (x5_1 : Int), v1 = .int .i64 x1_1 ∧ v5 = .int .i64 x5_1 ∧ Aside0 (laws_heldByteS.l0 kq l0 x1_1 x5_1 = some r) ∧ Aside0 (kq ≤ k) ∧ Drawn0 w w')
  case atStart => exact ⟨(a1), (0), (by first | rfl | (simp; done) | (simp [*]; done)), (by first | rfl | (simp; done) | (simp [*]; done)), H', ⟨Nat.le_refl _⟩, by repeat (first | exact Drawn0.refl _ | apply Drawn0.step)⟩
  case round =>
    clear H'
    try clear p2
    obtain ⟨x1_1, x5_1, rfl, rfl, HA, HK1, ⟨m1, rfl⟩⟩ := hrel
    cases gk with
    | zero => exact absurd HA.out (by simp [laws_heldByteS.l0])
    | succ k1 =>
      have H := HA.out
      clear HA
      simp only [laws_heldByteS.l0] at H
      by_cases c3 : x5_1 < (l0.length : Int)
      · rw [if_pos c3] at H
        have c3b0 : decide (x5_1 < (l0.length : Int)) = true := decide_eq_true c3
        clear c3
        by_cases c4 : 0 ≤ x5_1
        · rw [if_pos c4] at H
          have c4b0 : decide (0 ≤ x5_1) = true := decide_eq_true c4
          clear c4
          by_cases c5 : (rd l0 x5_1) = ((x1_1) % 256)
          · rw [if_pos c5] at H
            have c5b0 : ((rd l0 x5_1) == ((x1_1) % 256)) = true := beq_iff_eq.mpr c5
            have c5b1 : ((rd l0 x5_1) != ((x1_1) % 256)) = false := bne_eq_false_iff_eq.mpr c5
            clear c5
            have H' := Aside0.mk H
            clear H
            have p196 : 0 ≤ (x5_1 : Int) := of_decide_eq_true (by first | (with_reducible assumption) | assumption)
            have q196 : x5_1 < (l0.length : Int) := of_decide_eq_true (by first | (with_reducible assumption) | assumption)
            obtain ⟨ad196, e196, hx196_0⟩ := Kd.at_int HR0.out x5_1 p196 q196
            cases e196
            replace p196 := eq_true p196
            replace q196 := eq_true q196
            go_wp2
            go_roundg k1
            case measure => have := HK1.out; omega
            case rel => exact ⟨(wrap64 (x1_1 + 1)), (wrap64 (x5_1 + 1)), (by first | rfl | (simp; done) | (simp [*]; done)), (by first | rfl | (simp; done) | (simp [*]; done)), H', ⟨by have := HK1.out; omega⟩, by repeat (first | exact Drawn0.refl _ | apply Drawn0.step)⟩
          · rw [if_neg c5] at H
            have c5b0 : ((rd l0 x5_1) == ((x1_1) % 256)) = false := beq_eq_false_iff_ne.mpr c5
            have c5b1 : ((rd l0 x5_1) != ((x1_1) % 256)) = true := bne_iff_ne.mpr c5
            obtain rfl := Option.some.inj H
            have p196 : 0 ≤ (x5_1 : Int) := of_decide_eq_true (by first | (with_reducible assumption) | assumption)
            have q196 : x5_1 < (l0.length : Int) := of_decide_eq_true (by first | (with_reducible assumption) | assumption)
            obtain ⟨ad196, e196, hx196_0⟩ := Kd.at_int HR0.out x5_1 p196 q196
            cases e196
            replace p196 := eq_true p196
            replace q196 := eq_true q196
            go_wp2
            go_ret
            exact ⟨by first | rfl | (simp; done) | (simp [*]; done), by repeat (first | exact Drawn0.refl _ | apply Drawn0.step)⟩
        · rw [if_neg c4] at H
          exact absurd H (by simp)
      · rw [if_neg c3] at H
        have c3b0 : decide (x5_1 < (l0.length : Int)) = false := decide_eq_false c3
        clear c3
        obtain rfl := Option.some.inj H
        go_wp2
        go_ret
        exact ⟨by first | rfl | (simp; done) | (simp [*]; done), by repeat (first | exact Drawn0.refl _ | apply Drawn0.step)⟩

-- NOT PRINTED: function 8 (laws_FnExactImageBytes)

/-! ### laws_FnExactImageBytes (mine) -/
set_option maxRecDepth 100000 in
set_option maxHeartbeats 4000000 in
theorem lawImageBytes_true (k : Nat) (A0 : Option Addr) (c0 : Nat) (l0 : List (List Int)) (w : World) (hr : Kd.C (Kd.slice 3 (Kd.int .i64)) w A0 l0.length l0) (hc : l0.length ≤ c0)
    (t : Int) (hsz : laws_szImage.f k l0 1048576 = some t) (m1 : List (List Int)) (hm : laws_toImage.f k l0 = some m1) (r1 : List Int) (hs : spec_ImageBytes.f k m1 = some r1) (hi : impl_ImageBytes.f k m1 = some r1)
    (ht : ¬ t < 0) (he1 : laws_eqByteS.f k r1 r1 = some true) (he3 : laws_eqImage.f k m1 m1 = some true)
    (k1 : Int) (n1 : List (List Int)) (hk1 : laws_markIntSS.f k m1 1 = some (k1, n1)) (hk1' : ¬ k1 < 0) (k2 : Int) (n2 : List Int) (hk2 : laws_markByteS.f k r1 1 = some (k2, n2)) (hk2' : ¬ k2 < 0) (hh : laws_heldByteS.f k n2 1 = some k2) :
    Calls Try.prog 8 #[.agg #[.slice A0 l0.length c0]] w fun e w' => e = .returned (.bool true) ∧ Below w.heap.size w w' := by
  have hu24 := Try.underlying24
  have hu27 := Try.underlying27
  have HR := Aside0.mk hr
  have HC := Aside0.mk hc
  have Hsz := Aside0.mk hsz
  have Hm := Aside0.mk hm
  have Hs := Aside0.mk hs
  have Hi := Aside0.mk hi
  have He1 := Aside0.mk he1
  have He3 := Aside0.mk he3
  have Hk1 := Aside0.mk hk1
  have Hk2 := Aside0.mk hk2
  have Hh := Aside0.mk hh
  have ht0 : decide (t < 0) = false := decide_eq_false ht
  have Ht1 := Aside0.mk (decide_eq_false hk1')
  have Ht2 := Aside0.mk (decide_eq_false hk2')
  clear hr hc hsz hm hs hi he1 he3 hk1 hk2 hh ht hk1' hk2'
  go_enter Try.func8, Try.ntmps8
  go_wp2_with fail
  refine (laws_szImage.calls k A0 c0 l0 1048576 t _ ?hr HC.out Hsz.out).mono ?_
  case hr => repeat (first | exact HR.out | (with_reducible refine Kd.C_alloc ?_ _))
  rintro e W1 ⟨rfl, hB⟩
  have ARG : Aside0 (ArgI w W1 #[.slice A0 l0.length c0]) := ⟨⟨below_step (by repeat (first | exact Below.refl _ _ | apply below_alloc)) hB, blk_below (alloc_at _ _ _ rfl) hB⟩⟩
  clear hB
  have hlow : w.heap.size + 1 ≤ W1.heap.size := by have := blk_lt ARG.out.fst; omega
  have y0_ : W1.cell? ⟨w.heap.size, 0, none⟩ = some (.slice A0 l0.length c0) := (blk_cell ARG.out.fst 0).trans rfl
  go_wp2_with (go_at_call 17; refine stop_ ?_)
  refine ⟨?_⟩
  refine (laws_toImage.calls k A0 c0 l0 m1 _ (Kd.C_below HR.out ARG.out.below) HC.out Hm.out).mono ?_
  rintro e W2 ⟨u_, rfl, hS_, hb⟩
  clear y0_
  obtain ⟨Ay, cy, rfl⟩ := Kd.S_slice hS_
  have K_ := Kept.of_below hb (fun _ => False)
  have ARG_ := Aside0.mk (ARG.out.kept K_ (below_step ARG.out.below hb) (fun _ _ h => h))
  clear ARG 
  have ARG := ARG_
  clear ARG_
  clear K_
  have hle_ := hb.size
  clear hb
  obtain ⟨_, hcy, hCy⟩ := Kd.S_reads' hS_
  have h12 : W1.heap.size ≤ W2.heap.size := hle_
  go_wp2_with (go_at_call 43; refine stop_ ?_)
  refine ⟨?_⟩
  refine (spec_ImageBytes.calls k Ay cy m1 r1 _ hCy hcy Hs.out).mono ?_
  rintro e W3 ⟨u_, rfl, hR_, hb⟩
  obtain ⟨As, cs, rfl⟩ := Kd.R_slice hR_
  have Rs := Aside0.mk (RowBb.made ARG.out.below hR_)
  have K_ := Kept.of_below hb (fun _ => False)
  have ARG_ := Aside0.mk (ARG.out.kept K_ (below_step ARG.out.below hb) (fun _ _ h => h))
  clear ARG 
  have ARG := ARG_
  clear ARG_
  clear K_
  have h23 : W2.heap.size ≤ W3.heap.size := hb.size
  clear hb hR_
  clear hcy hCy hS_
  have hBW3 := Aside0.mk ARG.out.below
  have y0_ : W3.cell? ⟨w.heap.size, 0, none⟩ = some (.slice A0 l0.length c0) := (blk_cell ARG.out.fst 0).trans rfl
  go_wp2_with (go_at_call 17; refine stop_ ?_)
  refine ⟨?_⟩
  refine (laws_toImage.calls k A0 c0 l0 m1 _ (Kd.C_below HR.out ARG.out.below) HC.out Hm.out).mono ?_
  rintro e W4 ⟨u_, rfl, hS_, hb⟩
  clear y0_
  obtain ⟨Ax, cx, rfl⟩ := Kd.S_slice hS_
  have K_ := Kept.of_below hb (fun _ => False)
  have ARG_ := Aside0.mk (ARG.out.kept K_ (below_step ARG.out.below hb) (fun _ _ h => h))
  have Rs_ := Aside0.mk (Rs.out.kept K_ (fun _ _ _ h => h))
  clear ARG Rs
  have ARG := ARG_
  clear ARG_
  have Rs := Rs_
  clear Rs_
  clear K_
  have hle2_ := hb.size
  have hbb := hb
  clear hb
  go_wp2_with (go_at_call 44; refine stop_ ?_)
  have X : Aside0 (ImgB w (W4.alloc (.cells #[.slice Ax m1.length cx] 27)) W4.heap.size Ax cx m1 W3.heap.size (W4.alloc (.cells #[.slice Ax m1.length cx] 27)).heap.size) := ⟨ImgB.made hBW3.out (Kd.S_alloc hS_ _) (alloc_at _ _ _ rfl) hle2_⟩
  have hb : Below W4.heap.size W4 (W4.alloc (.cells #[.slice Ax m1.length cx] 27)) := below_alloc (Below.refl _ _) _
  have K_ := Kept.of_below hb (fun _ => False)
  have ARG_ := Aside0.mk (ARG.out.kept K_ (below_step ARG.out.below hb) (fun _ _ h => h))
  have Rs_ := Aside0.mk (Rs.out.kept K_ (fun _ _ _ h => h))
  clear ARG Rs
  have ARG := ARG_
  clear ARG_
  have Rs := Rs_
  clear Rs_
  clear K_
  have h45 : W4.heap.size < (W4.alloc (.cells #[.slice Ax m1.length cx] 27)).heap.size := by rw [alloc_size]; omega
  clear hb hS_ hbb hBW3
  generalize hW_ : W4.alloc (.cells #[.slice Ax m1.length cx] 27) = W5 at *
  generalize hg_ : W4.heap.size = gx at *
  clear hW_ hg_
  refine ⟨?_⟩
  refine (impl_ImageBytes.calls k Ax cx m1 r1 _ X.out.reads.2 X.out.reads.1 Hi.out).mono ?_
  rintro e W6 ⟨u_, rfl, hR_, hb⟩
  obtain ⟨Ag, cg, rfl⟩ := Kd.R_slice hR_
  have Rg := Aside0.mk (RowBb.made ARG.out.below hR_)
  have K_ := Kept.of_below hb (fun _ => False)
  have ARG_ := Aside0.mk (ARG.out.kept K_ (below_step ARG.out.below hb) (fun _ _ h => h))
  have Rs_ := Aside0.mk (Rs.out.kept K_ (fun _ _ _ h => h))
  have X_ := Aside0.mk (X.out.kept K_ (fun _ _ _ h => h))
  clear ARG Rs X
  have ARG := ARG_
  clear ARG_
  have Rs := Rs_
  clear Rs_
  have X := X_
  clear X_
  clear K_
  clear hb hR_
  go_wp2_with (go_at_call 40; refine stop_ ?_)
  refine ⟨?_⟩
  obtain ⟨_, hc1, hC1⟩ := Kd.R_reads' Rg.out.row
  obtain ⟨_, hc2, hC2⟩ := Kd.R_reads' Rs.out.row
  refine (laws_eqByteS.calls k Ag cg r1 As cs r1 true _ hC1 hc1 hC2 hc2 He1.out).mono ?_
  rintro e W7 ⟨rfl, hb0⟩
  have hb := kept_drew hb0
  clear hc1 hC1 hc2 hC2 hb0
  have K_ := Kept.of_below hb (fun _ => False)
  have ARG_ := Aside0.mk (ARG.out.kept K_ (below_step ARG.out.below hb) (fun _ _ h => h))
  have Rs_ := Aside0.mk (Rs.out.kept K_ (fun _ _ _ h => h))
  have X_ := Aside0.mk (X.out.kept K_ (fun _ _ _ h => h))
  have Rg_ := Aside0.mk (Rg.out.kept K_ (fun _ _ _ h => h))
  clear ARG Rs X Rg
  have ARG := ARG_
  clear ARG_
  have Rs := Rs_
  clear Rs_
  have X := X_
  clear X_
  have Rg := Rg_
  clear Rg_
  clear K_
  clear hb
  go_wp2
  refine start_ (n := 5) (S := fun w' => w'.heap[gx]? = some (.cells #[.slice Ax m1.length cx] 27 (0, 0)) ∧ w'.heap[w.heap.size]? = some (.cells #[.slice A0 l0.length c0] 24 (0, 0))) (ds := []) #[false, false, false, false, false] (by kernel_rfl) rfl rfl ⟨X.out.img, ARG.out.fst⟩ (fun hHeld => ?_)
  refine take_ (i := 0) (N := some 27) (v := ?_) (a' := ?_) #[true, false, false, false, false] rfl rfl (by kernel_rfl) (fun _ _ _ h => h) (Or.inl ⟨by rfl, ?_⟩) hHeld ?_ ?_
  rotate_left
  · rintro w' ⟨s0, s1⟩
    have a0 := (blk_cell s0 0).trans rfl
    clear s0 s1
    go_simp
    with_reducible rfl
  rotate_left
  · simp only [Act.put, List.setIfInBounds_toArray, List.set_cons_zero, List.set_cons_succ, i64_w, i32_w]
    rfl
  refine take_ (i := 1) (N := some 28) (v := ?_) (a' := ?_) #[true, true, false, false, false] rfl rfl (by kernel_rfl) (fun _ _ _ h => h) (Or.inl ⟨by rfl, ?_⟩) hHeld ?_ ?_
  rotate_left
  · rintro w' ⟨s0, s1⟩
    have a0 := (blk_cell s1 0).trans rfl
    clear s0 s1
    go_simp
    with_reducible rfl
  rotate_left
  · simp only [Act.put, List.setIfInBounds_toArray, List.set_cons_zero, List.set_cons_succ, i64_w, i32_w]
    rfl
  refine one_ (i := 2) (N := some 29) #[true, true, true, false, false] rfl rfl (by kernel_rfl) (by decide) (fun K hK => ?_)
  refine goes_ Try.func17 (by kernel_rfl) rfl #[.agg #[.slice A0 l0.length c0]] (by rfl) rfl rfl (by (try simp only [List.map_toArray, List.map_cons, List.map_nil]); first | done | rfl) ?_
  refine (laws_toImage.calls k A0 c0 l0 m1 W7.drew (Kd.C_below HR.out (below_drew1 ARG.out.below)) HC.out Hm.out).mono ?_
  rintro e W8 ⟨u, rfl, hS_, hb⟩
  refine ⟨_, rfl, ?_⟩
  have K_ : Kept W7 W8 (fun _ => False) := ⟨hb.size, fun i hi _ => hb.block i hi⟩
  have ARG_ := Aside0.mk (ARG.out.kept K_ (below_step (W := W7.drew) (below_drew1 ARG.out.below) hb) (fun _ _ h => h))
  have Rs_ := Aside0.mk (Rs.out.kept K_ (fun _ _ _ h => h))
  have X_ := Aside0.mk (X.out.kept K_ (fun _ _ _ h => h))
  have Rg_ := Aside0.mk (Rg.out.kept K_ (fun _ _ _ h => h))
  clear ARG Rs X Rg
  have ARG := ARG_
  clear ARG_
  have Rs := Rs_
  clear Rs_
  have X := X_
  clear X_
  have Rg := Rg_
  clear Rg_
  clear K_ hb hHeld
  obtain ⟨Az, cz, rfl⟩ := Kd.S_slice hS_
  refine hK.out _ _ ⟨X.out.img, ARG.out.fst⟩ (fun hHeld => ?_)
  clear hK K
  refine norm_ (a' := ?_) ?_ ?_
  rotate_left
  · show Act.put _ (some 29) _ = _
    simp only [Act.put, List.setIfInBounds_toArray, List.set_cons_zero, List.set_cons_succ, i64_w, i32_w]
    rfl
  refine one_ (i := 3) (N := some 30) #[true, true, true, true, false] rfl rfl (by kernel_rfl) (by decide) (fun K hK => ?_)
  refine goes_ Try.func19 (by kernel_rfl) rfl #[.agg #[.slice Ax m1.length cx], .agg #[.slice Az m1.length cz]] (by rfl) rfl rfl (by (try simp only [List.map_toArray, List.map_cons, List.map_nil]); first | done | rfl) ?_
  obtain ⟨_, hc2, hC2⟩ := Kd.S_reads' hS_
  refine (laws_eqImage.calls k Ax cx m1 Az cz m1 true _ X.out.reads.2 X.out.reads.1 hC2 hc2 He3.out).mono ?_
  rintro e W9 ⟨rfl, hb⟩
  refine ⟨_, rfl, ?_⟩
  clear hc2 hC2 hS_ hHeld
  have K_ := Kept.of_below hb (fun _ => False)
  have ARG_ := Aside0.mk (ARG.out.kept K_ (below_step ARG.out.below hb) (fun _ _ h => h))
  have Rs_ := Aside0.mk (Rs.out.kept K_ (fun _ _ _ h => h))
  have X_ := Aside0.mk (X.out.kept K_ (fun _ _ _ h => h))
  have Rg_ := Aside0.mk (Rg.out.kept K_ (fun _ _ _ h => h))
  clear ARG Rs X Rg
  have ARG := ARG_
  clear ARG_
  have Rs := Rs_
  clear Rs_
  have X := X_
  clear X_
  have Rg := Rg_
  clear Rg_
  clear K_
  clear hb
  refine hK.out _ _ ⟨X.out.img, ARG.out.fst⟩ (fun hHeld => ?_)
  clear hK K hHeld
  refine norm_ (a' := ?_) ?_ ?_
  rotate_left
  · show Act.put _ (some 30) _ = _
    simp only [Act.put, List.setIfInBounds_toArray, List.set_cons_zero, List.set_cons_succ, i64_w, i32_w]
    rfl
  refine pure_ (i := 4) (N := some 31) (v := ?_) (a' := ?_) #[true, true, true, true, true] rfl rfl (by kernel_rfl) (fun _ _ _ h => h) (Or.inl ⟨by rfl, ?_⟩) ?_ ?_
  rotate_left
  · intro w'
    go_simp
    with_reducible rfl
  rotate_left
  · simp only [Act.put, List.setIfInBounds_toArray, List.set_cons_zero, List.set_cons_succ, i64_w, i32_w]
    rfl
  refine done_ (by kernel_rfl) ?_
  have y1_ : W9.cell? ⟨gx, 0, none⟩ = some (.slice Ax m1.length cx) := (blk_cell X.out.img 0).trans rfl
  go_wp2_with (go_at_call 34; refine stop_ ?_)
  refine ⟨?_⟩
  refine (laws_markImage.calls k _ (.slice Ax m1.length cx) m1 1 k1 n1 w W9 ARG.out.below X.out.row Hk1.out).mono ?_
  rintro e W10 ⟨rfl, _, hb, hk⟩
  clear y1_
  have ARG_ := Aside0.mk (ARG.out.kept hk (hb) (fun k hk h => by omega))
  have Rs_ := Aside0.mk (Rs.out.kept hk (fun k h1 h2 h => by omega))
  have Rg_ := Aside0.mk (Rg.out.kept hk (fun k h1 h2 h => by omega))
  clear ARG Rs Rg
  have ARG := ARG_
  clear ARG_
  have Rs := Rs_
  clear Rs_
  have Rg := Rg_
  clear Rg_
  clear X hk hb
  have ht1 := Ht1.out
  go_wp2_with (go_at_call 40; refine stop_ ?_)
  refine ⟨?_⟩
  obtain ⟨_, hc1, hC1⟩ := Kd.R_reads' Rg.out.row
  obtain ⟨_, hc2, hC2⟩ := Kd.R_reads' Rs.out.row
  refine (laws_eqByteS.calls k Ag cg r1 As cs r1 true _ hC1 hc1 hC2 hc2 He1.out).mono ?_
  rintro e W11 ⟨rfl, hb0⟩
  have hb := kept_drew hb0
  clear hc1 hC1 hc2 hC2 hb0
  have K_ := Kept.of_below hb (fun _ => False)
  have ARG_ := Aside0.mk (ARG.out.kept K_ (below_step ARG.out.below hb) (fun _ _ h => h))
  have Rs_ := Aside0.mk (Rs.out.kept K_ (fun _ _ _ h => h))
  have Rg_ := Aside0.mk (Rg.out.kept K_ (fun _ _ _ h => h))
  clear ARG Rs Rg
  have ARG := ARG_
  clear ARG_
  have Rs := Rs_
  clear Rs_
  have Rg := Rg_
  clear Rg_
  clear K_
  clear hb
  go_wp2_with (go_at_call 41; refine stop_ ?_)
  refine ⟨?_⟩
  refine (laws_markByteS.calls k _ (.slice Ag r1.length cg) r1 1 k2 n2 w W11 ARG.out.below Rg.out.row Hk2.out).mono ?_
  rintro e W12 ⟨rfl, hR, hb, hk⟩
  have hl : r1.length = n2.length := (Kd.R_reads' hR).1
  have Og : Aside0 (RowOb w W12 Ag cg n2) := ⟨⟨_, by rw [← hl]; exact hR⟩⟩
  have ARG_ := Aside0.mk (ARG.out.kept hk (hb) (fun k hk h => by omega))
  have Rs_ := Aside0.mk (Rs.out.kept hk (fun k h1 h2 h => by omega))
  clear ARG Rs
  have ARG := ARG_
  clear ARG_
  have Rs := Rs_
  clear Rs_
  have Hl := Aside0.mk hl
  clear Rg hk hb hR hl
  have ht2 := Ht2.out
  have hkk : (k2 != k2) = false := by simp
  go_wp2_with (go_at_call 45; refine stop_ ?_)
  refine ⟨?_⟩
  refine calls_of_args (args' := #[.slice Ag n2.length cg, .int .i64 1]) (by rw [Hl.out]) ?_
  refine (laws_heldByteS.calls k Ag cg n2 1 k2 _ Og.out.reads.2 Og.out.reads.1 Hh.out).mono ?_
  rintro e W13 ⟨rfl, hb0⟩
  have hb := kept_drew hb0
  clear hb0
  have K_ := Kept.of_below hb (fun _ => False)
  have ARG_ := Aside0.mk (ARG.out.kept K_ (below_step ARG.out.below hb) (fun _ _ h => h))
  have Rs_ := Aside0.mk (Rs.out.kept K_ (fun _ _ _ h => h))
  have Og_ := Aside0.mk (Og.out.kept K_ (fun _ _ _ h => h))
  clear ARG Rs Og
  have ARG := ARG_
  clear ARG_
  have Rs := Rs_
  clear Rs_
  have Og := Og_
  clear Og_
  clear K_
  clear hb
  have y0_ : W13.cell? ⟨w.heap.size, 0, none⟩ = some (.slice A0 l0.length c0) := (blk_cell ARG.out.fst 0).trans rfl
  go_wp2_with (go_at_call 17; refine stop_ ?_)
  refine ⟨?_⟩
  refine (laws_toImage.calls k A0 c0 l0 m1 _ (Kd.C_below HR.out ARG.out.below) HC.out Hm.out).mono ?_
  rintro e W14 ⟨u_, rfl, hS_, hb⟩
  clear y0_
  obtain ⟨Av, cv, rfl⟩ := Kd.S_slice hS_
  have K_ := Kept.of_below hb (fun _ => False)
  have ARG_ := Aside0.mk (ARG.out.kept K_ (below_step ARG.out.below hb) (fun _ _ h => h))
  have Rs_ := Aside0.mk (Rs.out.kept K_ (fun _ _ _ h => h))
  have Og_ := Aside0.mk (Og.out.kept K_ (fun _ _ _ h => h))
  clear ARG Rs Og
  have ARG := ARG_
  clear ARG_
  have Rs := Rs_
  clear Rs_
  have Og := Og_
  clear Og_
  clear K_
  clear hb
  obtain ⟨_, hcv, hCv⟩ := Kd.S_reads' hS_
  go_wp2_with (go_at_call 44; refine stop_ ?_)
  refine ⟨?_⟩
  refine (impl_ImageBytes.calls k Av cv m1 r1 _ hCv hcv Hi.out).mono ?_
  rintro e W15 ⟨u_, rfl, hR_, hb⟩
  obtain ⟨Ah, ch, rfl⟩ := Kd.R_slice hR_
  have Rh := Aside0.mk (RowBb.made ARG.out.below hR_)
  have K_ := Kept.of_below hb (fun _ => False)
  have ARG_ := Aside0.mk (ARG.out.kept K_ (below_step ARG.out.below hb) (fun _ _ h => h))
  have Rs_ := Aside0.mk (Rs.out.kept K_ (fun _ _ _ h => h))
  have Og_ := Aside0.mk (Og.out.kept K_ (fun _ _ _ h => h))
  clear ARG Rs Og
  have ARG := ARG_
  clear ARG_
  have Rs := Rs_
  clear Rs_
  have Og := Og_
  clear Og_
  clear K_
  clear hb hR_
  clear hcv hCv hS_
  go_wp2_with (go_at_call 40; refine stop_ ?_)
  refine ⟨?_⟩
  obtain ⟨_, hc1, hC1⟩ := Kd.R_reads' Rh.out.row
  obtain ⟨_, hc2, hC2⟩ := Kd.R_reads' Rs.out.row
  refine (laws_eqByteS.calls k Ah ch r1 As cs r1 true _ hC1 hc1 hC2 hc2 He1.out).mono ?_
  rintro e W16 ⟨rfl, hb0⟩
  have hb := kept_drew hb0
  clear hc1 hC1 hc2 hC2 hb0
  have K_ := Kept.of_below hb (fun _ => False)
  have ARG_ := Aside0.mk (ARG.out.kept K_ (below_step ARG.out.below hb) (fun _ _ h => h))
  have Rs_ := Aside0.mk (Rs.out.kept K_ (fun _ _ _ h => h))
  have Og_ := Aside0.mk (Og.out.kept K_ (fun _ _ _ h => h))
  have Rh_ := Aside0.mk (Rh.out.kept K_ (fun _ _ _ h => h))
  clear ARG Rs Og Rh
  have ARG := ARG_
  clear ARG_
  have Rs := Rs_
  clear Rs_
  have Og := Og_
  clear Og_
  have Rh := Rh_
  clear Rh_
  clear K_
  clear hb
  go_wp2_with (go_at_call 45; refine stop_ ?_)
  refine ⟨?_⟩
  refine calls_of_args (args' := #[.slice Ag n2.length cg, .int .i64 1]) (by rw [Hl.out]) ?_
  refine (laws_heldByteS.calls k Ag cg n2 1 k2 _ Og.out.reads.2 Og.out.reads.1 Hh.out).mono ?_
  rintro e W17 ⟨rfl, hb0⟩
  have hb := kept_drew hb0
  clear hb0
  have K_ := Kept.of_below hb (fun _ => False)
  have ARG_ := Aside0.mk (ARG.out.kept K_ (below_step ARG.out.below hb) (fun _ _ h => h))
  have Rs_ := Aside0.mk (Rs.out.kept K_ (fun _ _ _ h => h))
  have Og_ := Aside0.mk (Og.out.kept K_ (fun _ _ _ h => h))
  have Rh_ := Aside0.mk (Rh.out.kept K_ (fun _ _ _ h => h))
  clear ARG Rs Og Rh
  have ARG := ARG_
  clear ARG_
  have Rs := Rs_
  clear Rs_
  have Og := Og_
  clear Og_
  have Rh := Rh_
  clear Rh_
  clear K_
  clear hb
  go_wp2
  go_ret
  exact ⟨rfl, ARG.out.below⟩
set_option maxRecDepth 100000 in
set_option maxHeartbeats 4000000 in
theorem lawImageBytes_big (k : Nat) (A0 : Option Addr) (c0 : Nat) (l0 : List (List Int)) (w : World) (hr : Kd.C (Kd.slice 3 (Kd.int .i64)) w A0 l0.length l0) (hc : l0.length ≤ c0)
    (t : Int) (hsz : laws_szImage.f k l0 1048576 = some t) (ht : t < 0) :
    Calls Try.prog 8 #[.agg #[.slice A0 l0.length c0]] w fun e w' => e = .returned (.bool true) ∧ Below w.heap.size w w' := by
  have hu24 := Try.underlying24
  have hu27 := Try.underlying27
  have HR := Aside0.mk hr
  have HC := Aside0.mk hc
  have Hsz := Aside0.mk hsz
  have ht0 : decide (t < 0) = true := decide_eq_true ht
  clear hr hc hsz ht
  go_enter Try.func8, Try.ntmps8
  go_wp2_with fail
  refine (laws_szImage.calls k A0 c0 l0 1048576 t _ ?hr HC.out Hsz.out).mono ?_
  case hr => repeat (first | exact HR.out | (with_reducible refine Kd.C_alloc ?_ _))
  rintro e W1 ⟨rfl, hB⟩
  have B1 : Below w.heap.size w W1 := below_step (by repeat (first | exact Below.refl _ _ | apply below_alloc)) hB
  go_wp2
  go_ret
  exact ⟨rfl, B1⟩
/-- What the law answers where all is well: true; nothing is said elsewhere. -/
def laws_FnExactImageBytes.f (k : Nat) (l0_0 : List (List Int)) : Option Bool := (laws_szImage.f k l0_0 1048576).bind fun t => if t < 0 then some true else
  (laws_toImage.f k l0_0).bind fun m => (spec_ImageBytes.f k m).bind fun s => (impl_ImageBytes.f k m).bind fun g =>
  (laws_eqByteS.f k s s).bind fun e1 => (laws_eqImage.f k m m).bind fun e3 =>
  (laws_markIntSS.f k m 1).bind fun q1 => (laws_markByteS.f k s 1).bind fun q2 => (laws_heldByteS.f k q2.2 1).bind fun h =>
  if g = s ∧ e1 = true ∧ e3 = true ∧ ¬ q1.1 < 0 ∧ ¬ q2.1 < 0 ∧ h = q2.1 then some true else none
theorem laws_FnExactImageBytes.calls (k : Nat) (A0_0 : Option Addr) (c0_0 : Nat) (l0_0 : List (List Int)) (r : Bool) (w : World) (hr0_0 : Kd.C (Kd.slice 3 (Kd.int .i64)) w A0_0 l0_0.length l0_0) (hc0_0 : l0_0.length ≤ c0_0) (h : laws_FnExactImageBytes.f k l0_0 = some r) (hrt : r = true) :
    Calls Try.prog 8 #[.agg #[.slice A0_0 l0_0.length c0_0]] w fun e w' => e = .returned (.bool r) ∧ Below w.heap.size w w' := by
  subst hrt
  unfold laws_FnExactImageBytes.f at h
  obtain ⟨t, hsz, h1⟩ := Option.bind_eq_some_iff.mp h
  clear h
  by_cases ht : t < 0
  · exact lawImageBytes_big k A0_0 c0_0 l0_0 w hr0_0 hc0_0 t hsz ht
  · rw [if_neg ht] at h1
    obtain ⟨m1, hm, h2⟩ := Option.bind_eq_some_iff.mp h1
    obtain ⟨r1, hs, h4⟩ := Option.bind_eq_some_iff.mp h2
    obtain ⟨g, hi, h5⟩ := Option.bind_eq_some_iff.mp h4
    obtain ⟨e1, he1, h6⟩ := Option.bind_eq_some_iff.mp h5
    obtain ⟨e3, he3, h8⟩ := Option.bind_eq_some_iff.mp h6
    obtain ⟨⟨k1, n1⟩, hk1, h9⟩ := Option.bind_eq_some_iff.mp h8
    obtain ⟨⟨k2, n2⟩, hk2, h10⟩ := Option.bind_eq_some_iff.mp h9
    obtain ⟨q, hh, h11⟩ := Option.bind_eq_some_iff.mp h10
    clear h1 h2 h4 h5 h6 h8 h9 h10
    by_cases hall : g = r1 ∧ e1 = true ∧ e3 = true ∧ ¬ k1 < 0 ∧ ¬ k2 < 0 ∧ q = k2
    · obtain ⟨rfl, rfl, rfl, hk1', hk2', rfl⟩ := hall
      exact lawImageBytes_true k A0_0 c0_0 l0_0 w hr0_0 hc0_0 t hsz m1 hm g hs hi ht he1 he3 k1 n1 hk1 hk1' q n2 hk2 hk2' hh
    · rw [if_neg hall] at h11
      cases h11

end Go.Proofs.Ytmiaocoffmobcaa.MFnExactImageBytes
