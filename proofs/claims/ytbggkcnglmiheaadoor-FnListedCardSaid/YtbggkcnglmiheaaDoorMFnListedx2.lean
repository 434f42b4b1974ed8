/- Walks of functions that the law FnListed reaches: each comes to just what its Lean function says. (Begun as the texts that print.sh wrote for this claim; some of them, and those that it does not write, are mine.) No condition. -/
import Derived.Test.YtbggkcnglmiheaaDoorMFnListedx1
namespace Go.Proofs.YtbggkcnglmiheaaDoor.MFnListed
open Go.RowKit Go.Proofs.YtbggkcnglmiheaaDoorW.PrintWords Go.Proofs.YtbggkcnglmiheaaDoorW.PrintLast Go.Proofs.YtbggkcnglmiheaaDoorW.PrintMore
attribute [local go_sem] max2_int min2_int max_two min_two max_three min_three max_four min_four   -- for this text's walks alone
set_option linter.unusedVariables false
set_option linter.unusedSimpArgs false

/-! ### spec_l2DrawBank: function 57 -/
def spec_l2DrawBank.l0 : Nat → List Int → Int → List Int → Int → Int → Option (List Int × Int × Int)
  | 0, _, _, _, _, _ => none
  | k + 1, x3, x4, x1000, x1001, x1002 => if x4 < 256 then ((spec_l1Below.f x1000 x1001 x1002 4).bind fun bt225 => (if bt225.1 = 0 then ((spec_l1Below.f x1000 bt225.2.1 bt225.2.2 30).bind fun bt228 => (if 0 ≤ x4 then (if x4 < (x3.length : Int) then (spec_l2DrawBank.l0 k (x3.set (x4 : Int).toNat bt228.1) (wrap64 (x4 + 1)) x1000 bt228.2.1 bt228.2.2) else (none)) else (none))) else (if bt225.1 = 1 then ((spec_l1PickInt.f x1000 bt225.2.1 bt225.2.2 (([32, 64, 0, 1, 22, 192, 128, 2, 4, 5] : List Int))).bind fun bt235 => (if 0 ≤ x4 then (if x4 < (x3.length : Int) then (spec_l2DrawBank.l0 k (x3.set (x4 : Int).toNat bt235.1) (wrap64 (x4 + 1)) x1000 bt235.2.1 bt235.2.2) else (none)) else (none))) else (if bt225.1 = 2 then ((spec_l1Below.f x1000 bt225.2.1 bt225.2.2 256).bind fun bt239 => (if 0 ≤ x4 then (if x4 < (x3.length : Int) then (spec_l2DrawBank.l0 k (x3.set (x4 : Int).toNat bt239.1) (wrap64 (x4 + 1)) x1000 bt239.2.1 bt239.2.2) else (none)) else (none))) else (spec_l2DrawBank.l0 k x3 (wrap64 (x4 + 1)) x1000 bt225.2.1 bt225.2.2))))) else (some (x3, x1001, x1002))
def spec_l2DrawBank.f (k : Nat) (s0_0 : List Int) (s0_1 : Int) (s0_2 : Int) : Option (List Int × Int × Int) := if 256 ≤ 35184372088832 then (spec_l2DrawBank.l0 k (List.replicate 256 0) 0 s0_0 s0_1 s0_2) else (none)
set_option maxHeartbeats 8000000 in
set_option maxRecDepth 100000 in
theorem spec_l2DrawBank.calls (k : Nat) (g : Nat) (s0_0 : List Int) (s0_1 : Int) (s0_2 : Int) (r1 : List Int) (r2 : Int) (r3 : Int) (w0 w : World) (hI : IsS75 w0 w g s0_0 s0_1 s0_2) (hB : Below w0.heap.size w0 w) (h : spec_l2DrawBank.f k s0_0 s0_1 s0_2 = some (r1, r2, r3)) :
    Calls Tryd.prog 57 #[.pointer (some ⟨g, 0, none⟩)] w fun e w' => ∃ v0_ : Value, e = .returned (v0_) ∧ Kd.R (Kd.int .i64) 3 w' w.heap.size (fun _ => True) v0_ r1 ∧ IsS75 w0 w' g s0_0 r2 r3 ∧ Below w0.heap.size w0 w' ∧ KeepBut w w' g none := by
  have HI0 := Aside0.mk hI
  have HK := Aside0.mk (KeepBut.refl w g none)
  have HL := Aside0.mk hB.size
  clear hI
  have HW0 := Aside0.mk hB.size
  have HB := Aside0.mk hB
  clear hB
  have H : (if 256 ≤ 35184372088832 then (spec_l2DrawBank.l0 k (List.replicate 256 0) 0 s0_0 s0_1 s0_2) else (none)) = some (r1, r2, r3) := h
  clear h
  by_cases c2 : 256 ≤ 35184372088832
  · rw [if_pos c2] at H
    have c2b0 := eq_true c2
    have c2b1 : decide (256 ≤ 35184372088832) = true := decide_eq_true c2
    clear c2
    obtain ⟨y222, hy222⟩ : ∃ y_ : List Int, y_ = (List.replicate 256 0) := ⟨_, rfl⟩
    replace H : (spec_l2DrawBank.l0 k y222 0 s0_0 s0_1 s0_2) = some (r1, r2, r3) := by first | (rw [hy222]; with_reducible exact H) | (have H2_ := (Option.bind_some _ _).symm.trans H; rw [hy222]; with_reducible exact H2_) | (have H2_ := (Option.bind_some _ _).symm.trans H; with_reducible exact H2_) | with_reducible exact H | (rw [hy222]; exact H) | exact H
    have Ny222 := Aside0.mk hy222
    clear hy222
    have H' := Aside0.mk H
    clear H
    go_enter Tryd.func57, Tryd.ntmps57
    go_wp2_with (first | ((with_reducible refine gate_dst (N := 5) rfl ?_); refine Kd.R_make (Kd.int .i64) _ 3 rfl (N := 5) rfl 22 _ _ rfl 256 rfl rfl Tryd.underlying22 (.int .i64 0) 8 info3 rfl (by decide) (by omega) 0 (ok := fun _ => True) (okp := fun _ => True) rfl (fun _ hk => hk) trivial (by omega) (by omega) (Below.refl _ _) (Nat.le_refl _) ?_; intro v223 w3 ho4 hb hg_ hnew_; clear hg_ hnew_; (first | rw [← Ny222.out] at ho4 | (simp only [Int.reduceToNat] at ho4; rw [← Ny222.out] at ho4)); have n0_ := Aside0.mk (Kd.R_lower ho4 (keep_size (w := w) (g := g) (row := none) (by repeat (first | (with_reducible first | exact HK.out | apply KeepBut.set_ | apply keep_drewN | apply keep_drew | apply keep_alloc) | exact HK.out)))); have n1_ := Aside0.mk (IsS75.below (by repeat (first | (with_reducible first | exact HI0.out | apply IsS75.alloc | apply IsS75.drewN | apply IsS75.drew | apply IsS75.set_1 | apply IsS75.set_2) | exact HI0.out)) hb); have n2_ := Aside0.mk (KeepBut.trans (by repeat (first | (with_reducible first | exact HK.out | apply KeepBut.set_ | apply keep_drewN | apply keep_drew | apply keep_alloc) | exact HK.out)) (KeepBut.of_below hb g none) (.inl rfl)); have n3_ := Aside0.mk (below_step (by repeat (first | (with_reducible first | exact HB.out | apply below_alloc | apply pw_below_drewN | apply below_drew1 | refine below_set ?_ (IsS75.ge HI0.out)) | exact HB.out)) hb); clear HI0; clear HK; clear HB; have HO224 := n0_; have HI0 := n1_; have HK := n2_; have HB := n3_; clear n0_ n1_ n2_ n3_; clear hb ho4))
    go_loopg [4] k (fun kq v4 w' => ∃ (x3_1 : List Int) (x4_1 : Int) (x1001_1 : Int) (x1002_1 : Int), v4 = .int .i64 x4_1 ∧ Aside0 (spec_l2DrawBank.l0 kq x3_1 x4_1 s0_0 x1001_1 x1002_1 = some (r1, r2, r3)) ∧ Aside0 (kq ≤ k) ∧ Aside0 (Kd.R (Kd.int .i64) 3 w' w.heap.size (fun _ => True) v223 x3_1) ∧ Aside0 (IsS75 w0 w' g s0_0 x1001_1 x1002_1) ∧ Aside0 (KeepBut w w' g none) ∧ Aside0 (Below w0.heap.size w0 w'))
    case atStart => exact ⟨(y222), (0), (s0_1), (s0_2), (by first | rfl | (simp; done) | (simp [*]; done)), H', ⟨Nat.le_refl _⟩, ⟨by (with_reducible repeat (first | apply Kd.R_alloc | apply Kd.R_drewN | apply Kd.R_drew)); exact HO224.out⟩, ⟨by repeat (first | (with_reducible first | exact HI0.out | apply IsS75.alloc | apply IsS75.drewN | apply IsS75.drew | apply IsS75.set_1 | apply IsS75.set_2) | exact HI0.out)⟩, ⟨by repeat (first | (with_reducible first | exact HK.out | apply KeepBut.set_ | apply keep_drewN | apply keep_drew | apply keep_alloc) | exact HK.out)⟩, ⟨by repeat (first | (with_reducible first | exact HB.out | apply below_alloc | apply pw_below_drewN | apply below_drew1 | refine below_set ?_ (IsS75.ge HI0.out)) | exact HB.out)⟩⟩
    case round =>
      clear H'
      try clear c2
      try clear c2b0
      try clear c2b1
      try clear p2
      obtain ⟨x3_1, x4_1, x1001_1, x1002_1, rfl, HA, HK1, HO_3, HI0, HK, HB⟩ := hrel
      cases gk with
      | zero => exact absurd HA.out (by simp [spec_l2DrawBank.l0])
      | succ k1 =>
        have H := HA.out
        clear HA
        simp only [spec_l2DrawBank.l0] at H
        by_cases c5 : x4_1 < 256
        · rw [if_pos c5] at H
          have c5b0 : decide (x4_1 < 256) = true := decide_eq_true c5
          clear c5
          replace H := Option.bind_eq_some_iff.mp H
          obtain ⟨⟨t225, t226, t227⟩, A60, H⟩ := H
          replace H : (if t225 = 0 then ((spec_l1Below.f s0_0 t226 t227 30).bind fun bt228 => (if 0 ≤ x4_1 then (if x4_1 < (x3_1.length : Int) then (spec_l2DrawBank.l0 k1 (x3_1.set (x4_1 : Int).toNat bt228.1) (wrap64 (x4_1 + 1)) s0_0 bt228.2.1 bt228.2.2) else (none)) else (none))) else (if t225 = 1 then ((spec_l1PickInt.f s0_0 t226 t227 (([32, 64, 0, 1, 22, 192, 128, 2, 4, 5] : List Int))).bind fun bt235 => (if 0 ≤ x4_1 then (if x4_1 < (x3_1.length : Int) then (spec_l2DrawBank.l0 k1 (x3_1.set (x4_1 : Int).toNat bt235.1) (wrap64 (x4_1 + 1)) s0_0 bt235.2.1 bt235.2.2) else (none)) else (none))) else (if t225 = 2 then ((spec_l1Below.f s0_0 t226 t227 256).bind fun bt239 => (if 0 ≤ x4_1 then (if x4_1 < (x3_1.length : Int) then (spec_l2DrawBank.l0 k1 (x3_1.set (x4_1 : Int).toNat bt239.1) (wrap64 (x4_1 + 1)) s0_0 bt239.2.1 bt239.2.2) else (none)) else (none))) else (spec_l2DrawBank.l0 k1 x3_1 (wrap64 (x4_1 + 1)) s0_0 t226 t227)))) = some (r1, r2, r3) := H
          have A6 := Aside0.mk A60
          clear A60
          by_cases c7 : t225 = 0
          · rw [if_pos c7] at H
            have c7b0 : (t225 == 0) = true := beq_iff_eq.mpr c7
            have c7b1 : (t225 != 0) = false := bne_eq_false_iff_eq.mpr c7
            clear c7
            replace H := Option.bind_eq_some_iff.mp H
            obtain ⟨⟨t228, t229, t230⟩, A80, H⟩ := H
            replace H : (if 0 ≤ x4_1 then (if x4_1 < (x3_1.length : Int) then (spec_l2DrawBank.l0 k1 (x3_1.set (x4_1 : Int).toNat t228) (wrap64 (x4_1 + 1)) s0_0 t229 t230) else (none)) else (none)) = some (r1, r2, r3) := H
            have A8 := Aside0.mk A80
            clear A80
            by_cases c9 : 0 ≤ x4_1
            · rw [if_pos c9] at H
              have c9b0 : decide (0 ≤ x4_1) = true := decide_eq_true c9
              clear c9
              by_cases c10 : x4_1 < (x3_1.length : Int)
              · rw [if_pos c10] at H
                have c10b0 : decide (x4_1 < (x3_1.length : Int)) = true := decide_eq_true c10
                clear c10
                obtain ⟨y231, hy231⟩ : ∃ y_ : List Int, y_ = (x3_1.set (x4_1 : Int).toNat t228) := ⟨_, rfl⟩
                replace H : (spec_l2DrawBank.l0 k1 y231 (wrap64 (x4_1 + 1)) s0_0 t229 t230) = some (r1, r2, r3) := by first | (rw [hy231]; with_reducible exact H) | (have H2_ := (Option.bind_some _ _).symm.trans H; rw [hy231]; with_reducible exact H2_) | (have H2_ := (Option.bind_some _ _).symm.trans H; with_reducible exact H2_) | with_reducible exact H | (rw [hy231]; exact H) | exact H
                have Ny231 := Aside0.mk hy231
                clear hy231
                have H' := Aside0.mk H
                clear H
                go_wp2_with (first | ((with_reducible refine gate_callee (f := 47) rfl ?_); refine goesL_ (some 11) rfl rfl Tryd.func47 (by kernel_rfl) rfl #[.pointer (some ⟨g, 0, none⟩), .int .i64 4] rfl (by (try simp only [List.map_toArray, List.map_cons, List.map_nil]); first | done | rfl | (simp only [List.length_drop, List.length_take]; rfl)) ?_; (with_reducible refine (spec_l1Below.calls g s0_0 x1001_1 x1002_1 4 t225 t226 t227 w0 _ ?side1 ?side2 A6.out).mono ?_); (case side1 => repeat (first | (with_reducible first | exact HI0.out | apply IsS75.alloc | apply IsS75.drewN | apply IsS75.drew | apply IsS75.set_1 | apply IsS75.set_2) | exact HI0.out)); (case side2 => repeat (first | (with_reducible first | exact HB.out | apply below_alloc | apply pw_below_drewN | apply below_drew1 | refine below_set ?_ (IsS75.ge HI0.out)) | exact HB.out)); rintro e w12 ⟨rfl, hi, hb, hk⟩; refine ⟨_, rfl, ?_⟩; have n0_ := Aside0.mk (Kd.R_mono (Kd.R_keep (IsS75.apart (show IsS75 w0 _ g s0_0 x1001_1 x1002_1 from by repeat (first | (with_reducible first | exact HI0.out | apply IsS75.alloc | apply IsS75.drewN | apply IsS75.drew | apply IsS75.set_1 | apply IsS75.set_2) | exact HI0.out)) (by (with_reducible repeat (first | apply Kd.R_alloc | apply Kd.R_drewN | apply Kd.R_drew)); exact HO_3.out) (by decide)) hk (fun _ h => h.2)) (fun _ h => h.1)); have n1_ := Aside0.mk (KeepBut.trans (by repeat (first | (with_reducible first | exact HK.out | apply KeepBut.set_ | apply keep_drewN | apply keep_drew | apply keep_alloc) | exact HK.out)) hk (.inl rfl)); have n2_ := Aside0.mk (hb); have n3_ := Aside0.mk (hi); clear HO_3; clear HK; clear HB; clear HI0; have HO_3 := n0_; have HK := n1_; have HB := n2_; have HI0 := n3_; clear n0_ n1_ n2_ n3_; (try clear hb); (try clear hb2); (try clear hk); (try clear hi)) | ((with_reducible refine gate_callee (f := 47) rfl ?_); refine goesL_ (some 17) rfl rfl Tryd.func47 (by kernel_rfl) rfl #[.pointer (some ⟨g, 0, none⟩), .int .i64 30] rfl (by (try simp only [List.map_toArray, List.map_cons, List.map_nil]); first | done | rfl | (simp only [List.length_drop, List.length_take]; rfl)) ?_; (with_reducible refine (spec_l1Below.calls g s0_0 t226 t227 30 t228 t229 t230 w0 _ ?side1 ?side2 A8.out).mono ?_); (case side1 => repeat (first | (with_reducible first | exact HI0.out | apply IsS75.alloc | apply IsS75.drewN | apply IsS75.drew | apply IsS75.set_1 | apply IsS75.set_2) | exact HI0.out)); (case side2 => repeat (first | (with_reducible first | exact HB.out | apply below_alloc | apply pw_below_drewN | apply below_drew1 | refine below_set ?_ (IsS75.ge HI0.out)) | exact HB.out)); rintro e w13 ⟨rfl, hi, hb, hk⟩; refine ⟨_, rfl, ?_⟩; have n0_ := Aside0.mk (Kd.R_mono (Kd.R_keep (IsS75.apart (show IsS75 w0 _ g s0_0 t226 t227 from by repeat (first | (with_reducible first | exact HI0.out | apply IsS75.alloc | apply IsS75.drewN | apply IsS75.drew | apply IsS75.set_1 | apply IsS75.set_2) | exact HI0.out)) (by (with_reducible repeat (first | apply Kd.R_alloc | apply Kd.R_drewN | apply Kd.R_drew)); exact HO_3.out) (by decide)) hk (fun _ h => h.2)) (fun _ h => h.1)); have n1_ := Aside0.mk (KeepBut.trans (by repeat (first | (with_reducible first | exact HK.out | apply KeepBut.set_ | apply keep_drewN | apply keep_drew | apply keep_alloc) | exact HK.out)) hk (.inl rfl)); have n2_ := Aside0.mk (hb); have n3_ := Aside0.mk (hi); clear HO_3; clear HK; clear HB; clear HI0; have HO_3 := n0_; have HK := n1_; have HB := n2_; have HI0 := n3_; clear n0_ n1_ n2_ n3_; (try clear hb); (try clear hb2); (try clear hk); (try clear hi); have p11 : 0 ≤ (x4_1 : Int) := of_decide_eq_true (by first | (with_reducible assumption) | assumption); have q11 : (x4_1 : Int) < ((x3_1.length : Int) : Int) := of_decide_eq_true (by first | (with_reducible assumption) | assumption); obtain ⟨go11, co11, eo11, gb11, gl11, cl11, HG11⟩ := Kd.R_form HO_3.out (by omega); (first | cases eo11 | (injection eo11 with ea_ en_ ec_; (first | subst ea_ | (injection ea_ with ea_; subst ea_)); subst ec_; clear en_)); have GB11 := Aside0.mk gb11; have GG11 := Aside0.mk HG11; clear gb11 gl11 HG11; obtain ⟨hx11_0, hf11_0⟩ := Kd.R_celln 0 HO_3.out (x4_1 : Int) p11 q11; replace p11 := eq_true p11; replace q11 := eq_true q11; obtain ⟨hy14_, hz14_⟩ := Kd.R_celln 0 HO_3.out (x4_1 : Int) (of_decide_eq_true (by first | (with_reducible assumption) | assumption)) (of_decide_eq_true (by first | (with_reducible assumption) | assumption)); have HP14 := Kd.R_putg HO_3.out (x4_1 : Int) t228) | ((with_reducible refine gate_store (t := 3) (p := 18) rfl ?_); refine store_event (t := 3) (p := 18) (v := ?vo_w15) (w1 := (w13.setCell ⟨go11, (x4_1 : Int).toNat, none⟩ (.int .i64 t228))) ?hg ?ho ?hn ?hr ?_; (case ho => rfl); (case hg => rfl); (case hn => rfl); (case hr => first | (go_simp; done) | (go_simp; rfl)); intro w15 hw; have hg : w13.grownBy w15 (some go11) := (by rw [hw]; exact HP14.2); have hp_ : Kd.R (Kd.int .i64) 3 w15 w.heap.size (fun _ => True) (.slice (some ⟨go11, 0, none⟩) x3_1.length co11) y231 := (by rw [hw, Ny231.out]; exact HP14.1); clear HP14; have n0_ := Aside0.mk (hp_); have n1_ := Aside0.mk (IsS75.grown (by repeat (first | (with_reducible first | exact HI0.out | apply IsS75.alloc | apply IsS75.drewN | apply IsS75.drew | apply IsS75.set_1 | apply IsS75.set_2) | exact HI0.out)) hg (IsS75.own_ne HI0.out HO_3.out (by decide))); have n2_ := Aside0.mk ((by rw [hw]; exact below_set (HB.out) (Nat.le_trans HL.out GB11.out) : Below w0.heap.size w0 w15)); have n3_ := Aside0.mk (KeepBut.trans (by repeat (first | (with_reducible first | exact HK.out | apply KeepBut.set_ | apply keep_drewN | apply keep_drew | apply keep_alloc) | exact HK.out)) (KeepBut.of_grown hg g) (Kd.R_base2 HO_3.out)); clear HO_3; clear HI0; clear HB; clear HK; have HO_3 := n0_; have HI0 := n1_; have HB := n2_; have HK := n3_; clear n0_ n1_ n2_ n3_; clear hg hw hp_))
                go_roundg k1
                case measure => have := HK1.out; omega
                case rel => exact ⟨(y231), (wrap64 (x4_1 + 1)), (t229), (t230), (by first | rfl | (simp; done) | (simp [*]; done)), H', ⟨by have := HK1.out; omega⟩, ⟨by (with_reducible repeat (first | apply Kd.R_alloc | apply Kd.R_drewN | apply Kd.R_drew)); exact HO_3.out⟩, ⟨by repeat (first | (with_reducible first | exact HI0.out | apply IsS75.alloc | apply IsS75.drewN | apply IsS75.drew | apply IsS75.set_1 | apply IsS75.set_2) | exact HI0.out)⟩, ⟨by repeat (first | (with_reducible first | exact HK.out | apply KeepBut.set_ | apply keep_drewN | apply keep_drew | apply keep_alloc) | exact HK.out)⟩, ⟨by repeat (first | (with_reducible first | exact HB.out | apply below_alloc | apply pw_below_drewN | apply below_drew1 | refine below_set ?_ (IsS75.ge HI0.out)) | exact HB.out)⟩⟩
              · rw [if_neg c10] at H
                exact absurd H (by simp)
            · rw [if_neg c9] at H
              exact absurd H (by simp)
          · rw [if_neg c7] at H
            have c7b0 : (t225 == 0) = false := beq_eq_false_iff_ne.mpr c7
            have c7b1 : (t225 != 0) = true := bne_iff_ne.mpr c7
            by_cases c16 : t225 = 1
            · rw [if_pos c16] at H
              have c16b0 : (t225 == 1) = true := beq_iff_eq.mpr c16
              have c16b1 : (t225 != 1) = false := bne_eq_false_iff_eq.mpr c16
              clear c16
              obtain ⟨y232, hy232⟩ : ∃ y_ : List Int, y_ = (([32, 64, 0, 1, 22, 192, 128, 2, 4, 5] : List Int)) := ⟨_, rfl⟩
              replace H : ((spec_l1PickInt.f s0_0 t226 t227 y232).bind fun bt235 => (if 0 ≤ x4_1 then (if x4_1 < (x3_1.length : Int) then (spec_l2DrawBank.l0 k1 (x3_1.set (x4_1 : Int).toNat bt235.1) (wrap64 (x4_1 + 1)) s0_0 bt235.2.1 bt235.2.2) else (none)) else (none))) = some (r1, r2, r3) := by first | (rw [hy232]; with_reducible exact H) | (have H2_ := (Option.bind_some _ _).symm.trans H; rw [hy232]; with_reducible exact H2_) | (have H2_ := (Option.bind_some _ _).symm.trans H; with_reducible exact H2_) | with_reducible exact H | (rw [hy232]; exact H) | exact H
              have Ny232 := Aside0.mk hy232
              clear hy232
              replace H := Option.bind_eq_some_iff.mp H
              obtain ⟨⟨t235, t236, t237⟩, A170, H⟩ := H
              replace H : (if 0 ≤ x4_1 then (if x4_1 < (x3_1.length : Int) then (spec_l2DrawBank.l0 k1 (x3_1.set (x4_1 : Int).toNat t235) (wrap64 (x4_1 + 1)) s0_0 t236 t237) else (none)) else (none)) = some (r1, r2, r3) := H
              have A17 := Aside0.mk A170
              clear A170
              by_cases c18 : 0 ≤ x4_1
              · rw [if_pos c18] at H
                have c18b0 : decide (0 ≤ x4_1) = true := decide_eq_true c18
                clear c18
                by_cases c19 : x4_1 < (x3_1.length : Int)
                · rw [if_pos c19] at H
                  have c19b0 : decide (x4_1 < (x3_1.length : Int)) = true := decide_eq_true c19
                  clear c19
                  obtain ⟨y238, hy238⟩ : ∃ y_ : List Int, y_ = (x3_1.set (x4_1 : Int).toNat t235) := ⟨_, rfl⟩
                  replace H : (spec_l2DrawBank.l0 k1 y238 (wrap64 (x4_1 + 1)) s0_0 t236 t237) = some (r1, r2, r3) := by first | (rw [hy238]; with_reducible exact H) | (have H2_ := (Option.bind_some _ _).symm.trans H; rw [hy238]; with_reducible exact H2_) | (have H2_ := (Option.bind_some _ _).symm.trans H; with_reducible exact H2_) | with_reducible exact H | (rw [hy238]; exact H) | exact H
                  have Ny238 := Aside0.mk hy238
                  clear hy238
                  have H' := Aside0.mk H
                  clear H
                  go_wp2_with (first | ((with_reducible refine gate_callee (f := 47) rfl ?_); refine goesL_ (some 11) rfl rfl Tryd.func47 (by kernel_rfl) rfl #[.pointer (some ⟨g, 0, none⟩), .int .i64 4] rfl (by (try simp only [List.map_toArray, List.map_cons, List.map_nil]); first | done | rfl | (simp only [List.length_drop, List.length_take]; rfl)) ?_; (with_reducible refine (spec_l1Below.calls g s0_0 x1001_1 x1002_1 4 t225 t226 t227 w0 _ ?side1 ?side2 A6.out).mono ?_); (case side1 => repeat (first | (with_reducible first | exact HI0.out | apply IsS75.alloc | apply IsS75.drewN | apply IsS75.drew | apply IsS75.set_1 | apply IsS75.set_2) | exact HI0.out)); (case side2 => repeat (first | (with_reducible first | exact HB.out | apply below_alloc | apply pw_below_drewN | apply below_drew1 | refine below_set ?_ (IsS75.ge HI0.out)) | exact HB.out)); rintro e w21 ⟨rfl, hi, hb, hk⟩; refine ⟨_, rfl, ?_⟩; have n0_ := Aside0.mk (Kd.R_mono (Kd.R_keep (IsS75.apart (show IsS75 w0 _ g s0_0 x1001_1 x1002_1 from by repeat (first | (with_reducible first | exact HI0.out | apply IsS75.alloc | apply IsS75.drewN | apply IsS75.drew | apply IsS75.set_1 | apply IsS75.set_2) | exact HI0.out)) (by (with_reducible repeat (first | apply Kd.R_alloc | apply Kd.R_drewN | apply Kd.R_drew)); exact HO_3.out) (by decide)) hk (fun _ h => h.2)) (fun _ h => h.1)); have n1_ := Aside0.mk (KeepBut.trans (by repeat (first | (with_reducible first | exact HK.out | apply KeepBut.set_ | apply keep_drewN | apply keep_drew | apply keep_alloc) | exact HK.out)) hk (.inl rfl)); have n2_ := Aside0.mk (hb); have n3_ := Aside0.mk (hi); clear HO_3; clear HK; clear HB; clear HI0; have HO_3 := n0_; have HK := n1_; have HB := n2_; have HI0 := n3_; clear n0_ n1_ n2_ n3_; (try clear hb); (try clear hb2); (try clear hk); (try clear hi)) | ((with_reducible refine gate_dst (N := 24) rfl ?_); refine Kd.R_lit (Kd.int .i64) _ 3 ?hg (N := 24) ?hd (xs := ([32, 64, 0, 1, 22, 192, 128, 2, 4, 5] : List Int)) (inner := [.int .i64 32, .int .i64 64, .int .i64 0, .int .i64 1, .int .i64 22, .int .i64 192, .int .i64 128, .int .i64 2, .int .i64 4, .int .i64 5]) (ok := fun _ => True) (okp := fun _ => True) ?hr ?hp (fun _ hk => hk) trivial (Below.refl _ _) (Nat.le_refl _) (by simp) ?_; (case hd => rfl); (case hg => rfl); (case hr => first | (go_simp; done) | (go_simp; rfl)); (case hp => exact (Reps.one (show Kd.M (Kd.int .i64) _ _ _ 32 [.int .i64 32] from rfl) (Reps.one (show Kd.M (Kd.int .i64) _ _ _ 64 [.int .i64 64] from rfl) (Reps.one (show Kd.M (Kd.int .i64) _ _ _ 0 [.int .i64 0] from rfl) (Reps.one (show Kd.M (Kd.int .i64) _ _ _ 1 [.int .i64 1] from rfl) (Reps.one (show Kd.M (Kd.int .i64) _ _ _ 22 [.int .i64 22] from rfl) (Reps.one (show Kd.M (Kd.int .i64) _ _ _ 192 [.int .i64 192] from rfl) (Reps.one (show Kd.M (Kd.int .i64) _ _ _ 128 [.int .i64 128] from rfl) (Reps.one (show Kd.M (Kd.int .i64) _ _ _ 2 [.int .i64 2] from rfl) (Reps.one (show Kd.M (Kd.int .i64) _ _ _ 4 [.int .i64 4] from rfl) (Reps.one (show Kd.M (Kd.int .i64) _ _ _ 5 [.int .i64 5] from rfl) (Reps.none _ _)))))))))))); intro v233 w22 ho23 hb hg_ hnew_; clear hg_ hnew_; (first | rw [← Ny232.out] at ho23 | (simp only [Int.reduceToNat] at ho23; rw [← Ny232.out] at ho23)); have n0_ := Aside0.mk (Kd.R_elder' (by (with_reducible repeat (first | apply Kd.R_alloc | apply Kd.R_drewN | apply Kd.R_drew)); exact HO_3.out) (Kd.R_base ho23) hb); have n1_ := Aside0.mk (Kd.R_lower (Kd.R_new' ho23 (Kd.R_lt (by (with_reducible repeat (first | apply Kd.R_alloc | apply Kd.R_drewN | apply Kd.R_drew)); exact HO_3.out))) (keep_size (w := w) (g := g) (row := none) (by repeat (first | (with_reducible first | exact HK.out | apply KeepBut.set_ | apply keep_drewN | apply keep_drew | apply keep_alloc) | exact HK.out)))); have n2_ := Aside0.mk (IsS75.below (by repeat (first | (with_reducible first | exact HI0.out | apply IsS75.alloc | apply IsS75.drewN | apply IsS75.drew | apply IsS75.set_1 | apply IsS75.set_2) | exact HI0.out)) hb); have n3_ := Aside0.mk (KeepBut.trans (by repeat (first | (with_reducible first | exact HK.out | apply KeepBut.set_ | apply keep_drewN | apply keep_drew | apply keep_alloc) | exact HK.out)) (KeepBut.of_below hb g none) (.inl rfl)); have n4_ := Aside0.mk (below_step (by repeat (first | (with_reducible first | exact HB.out | apply below_alloc | apply pw_below_drewN | apply below_drew1 | refine below_set ?_ (IsS75.ge HI0.out)) | exact HB.out)) hb); clear HO_3; clear HI0; clear HK; clear HB; have HO_3 := n0_; have HO234 := n1_; have HI0 := n2_; have HK := n3_; have HB := n4_; clear n0_ n1_ n2_ n3_ n4_; clear hb ho23; obtain ⟨Ao24, co24, eo24⟩ := Kd.R_slice HO234.out; subst eo24) | ((with_reducible refine gate_callee (f := 31) rfl ?_); refine goesL_ (some 25) rfl rfl Tryd.func31 (by kernel_rfl) rfl #[.pointer (some ⟨g, 0, none⟩), .slice Ao24 y232.length co24] rfl (by (try simp only [List.map_toArray, List.map_cons, List.map_nil]); first | done | rfl | (simp only [List.length_drop, List.length_take]; rfl)) ?_; (with_reducible refine (spec_l1PickInt.calls g s0_0 t226 t227 _ _ y232 t235 t236 t237 w0 _ ?side1 ?side2 ?side3 ?side4 ?side5 A17.out).mono ?_); (case side1 => repeat (first | (with_reducible first | exact HI0.out | apply IsS75.alloc | apply IsS75.drewN | apply IsS75.drew | apply IsS75.set_1 | apply IsS75.set_2) | exact HI0.out)); (case side2 => repeat (first | (with_reducible first | exact HB.out | apply below_alloc | apply pw_below_drewN | apply below_drew1 | refine below_set ?_ (IsS75.ge HI0.out)) | exact HB.out)); (case side3 => repeat (first | exact (Kd.R_reads' HO234.out).2.2 | (with_reducible refine Kd.C_alloc ?_ _) | (with_reducible refine Kd.C_drewN ?_ _) | (with_reducible refine Kd.C_drew ?_))); (case side4 => exact (Kd.R_reads' HO234.out).2.1); (case side5 => exact far_slice (IsS75.own_ne HI0.out HO234.out (by decide))); rintro e w25 ⟨rfl, hi, hb, hk⟩; refine ⟨_, rfl, ?_⟩; have n0_ := Aside0.mk (Kd.R_mono (Kd.R_keep (IsS75.apart (show IsS75 w0 _ g s0_0 t226 t227 from by repeat (first | (with_reducible first | exact HI0.out | apply IsS75.alloc | apply IsS75.drewN | apply IsS75.drew | apply IsS75.set_1 | apply IsS75.set_2) | exact HI0.out)) (by (with_reducible repeat (first | apply Kd.R_alloc | apply Kd.R_drewN | apply Kd.R_drew)); exact HO_3.out) (by decide)) hk (fun _ h => h.2)) (fun _ h => h.1)); have n1_ := Aside0.mk (Kd.R_mono (Kd.R_keep (IsS75.apart (show IsS75 w0 _ g s0_0 t226 t227 from by repeat (first | (with_reducible first | exact HI0.out | apply IsS75.alloc | apply IsS75.drewN | apply IsS75.drew | apply IsS75.set_1 | apply IsS75.set_2) | exact HI0.out)) (by (with_reducible repeat (first | apply Kd.R_alloc | apply Kd.R_drewN | apply Kd.R_drew)); exact HO234.out) (by decide)) hk (fun _ h => h.2)) (fun _ h => h.1)); have n2_ := Aside0.mk (KeepBut.trans (by repeat (first | (with_reducible first | exact HK.out | apply KeepBut.set_ | apply keep_drewN | apply keep_drew | apply keep_alloc) | exact HK.out)) hk (.inl rfl)); have n3_ := Aside0.mk (hb); have n4_ := Aside0.mk (hi); clear HO_3; clear HO234; clear HK; clear HB; clear HI0; have HO_3 := n0_; have HO234 := n1_; have HK := n2_; have HB := n3_; have HI0 := n4_; clear n0_ n1_ n2_ n3_ n4_; (try clear hb); (try clear hb2); (try clear hk); (try clear hi); have p20 : 0 ≤ (x4_1 : Int) := of_decide_eq_true (by first | (with_reducible assumption) | assumption); have q20 : (x4_1 : Int) < ((x3_1.length : Int) : Int) := of_decide_eq_true (by first | (with_reducible assumption) | assumption); obtain ⟨go20, co20, eo20, gb20, gl20, cl20, HG20⟩ := Kd.R_form HO_3.out (by omega); (first | cases eo20 | (injection eo20 with ea_ en_ ec_; (first | subst ea_ | (injection ea_ with ea_; subst ea_)); subst ec_; clear en_)); have GB20 := Aside0.mk gb20; have GG20 := Aside0.mk HG20; clear gb20 gl20 HG20; obtain ⟨hx20_0, hf20_0⟩ := Kd.R_celln 0 HO_3.out (x4_1 : Int) p20 q20; replace p20 := eq_true p20; replace q20 := eq_true q20; have n_ := Aside0.mk (Kd.R_mono (ok' := (fun k_ => some k_ ≠ (.slice Ao24 y232.length co24 : Value).ownBlock)) HO_3.out (fun k_ hk => hk.2)); clear HO_3; have HO_3 := n_; clear n_; obtain ⟨hy26_, hz26_⟩ := Kd.R_celln 0 HO_3.out (x4_1 : Int) (of_decide_eq_true (by first | (with_reducible assumption) | assumption)) (of_decide_eq_true (by first | (with_reducible assumption) | assumption)); have HP26 := Kd.R_putg HO_3.out (x4_1 : Int) t235) | ((with_reducible refine gate_store (t := 3) (p := 26) rfl ?_); refine store_event (t := 3) (p := 26) (v := ?vo_w27) (w1 := (w25.setCell ⟨go20, (x4_1 : Int).toNat, none⟩ (.int .i64 t235))) ?hg ?ho ?hn ?hr ?_; (case ho => rfl); (case hg => rfl); (case hn => rfl); (case hr => first | (go_simp; done) | (go_simp; rfl)); intro w27 hw; have hg : w25.grownBy w27 (some go20) := (by rw [hw]; exact HP26.2); have hp_ : Kd.R (Kd.int .i64) 3 w27 w.heap.size (fun k_ => some k_ ≠ (.slice Ao24 y232.length co24 : Value).ownBlock) (.slice (some ⟨go20, 0, none⟩) x3_1.length co20) y238 := (by rw [hw, Ny238.out]; exact HP26.1); clear HP26; have n0_ := Aside0.mk (hp_); have n1_ := Aside0.mk (IsS75.grown (by repeat (first | (with_reducible first | exact HI0.out | apply IsS75.alloc | apply IsS75.drewN | apply IsS75.drew | apply IsS75.set_1 | apply IsS75.set_2) | exact HI0.out)) hg (IsS75.own_ne HI0.out HO_3.out (by decide))); have n2_ := Aside0.mk (Kd.R_after (v := (.slice (some ⟨go20, 0, none⟩) x3_1.length co20)) (v1 := (.slice (some ⟨go20, 0, none⟩) x3_1.length co20)) (ok := (fun _ => True)) (by (with_reducible repeat (first | apply Kd.R_alloc | apply Kd.R_drewN | apply Kd.R_drew)); exact HO234.out) hg (.inl rfl)); have n3_ := Aside0.mk ((by rw [hw]; exact below_set (HB.out) (Nat.le_trans HL.out GB20.out) : Below w0.heap.size w0 w27)); have n4_ := Aside0.mk (KeepBut.trans (by repeat (first | (with_reducible first | exact HK.out | apply KeepBut.set_ | apply keep_drewN | apply keep_drew | apply keep_alloc) | exact HK.out)) (KeepBut.of_grown hg g) (Kd.R_base2 HO_3.out)); clear HO_3; clear HI0; clear HO234; clear HB; clear HK; have HO_3 := n0_; have HI0 := n1_; have HO234 := n2_; have HB := n3_; have HK := n4_; clear n0_ n1_ n2_ n3_ n4_; clear hg hw hp_))
                  go_roundg k1
                  case measure => have := HK1.out; omega
                  case rel => exact ⟨(y238), (wrap64 (x4_1 + 1)), (t236), (t237), (by first | rfl | (simp; done) | (simp [*]; done)), H', ⟨by have := HK1.out; omega⟩, ⟨by (with_reducible repeat (first | apply Kd.R_alloc | apply Kd.R_drewN | apply Kd.R_drew)); exact Kd.R_mono HO_3.out (fun _ hk => trivial)⟩, ⟨by repeat (first | (with_reducible first | exact HI0.out | apply IsS75.alloc | apply IsS75.drewN | apply IsS75.drew | apply IsS75.set_1 | apply IsS75.set_2) | exact HI0.out)⟩, ⟨by repeat (first | (with_reducible first | exact HK.out | apply KeepBut.set_ | apply keep_drewN | apply keep_drew | apply keep_alloc) | exact HK.out)⟩, ⟨by repeat (first | (with_reducible first | exact HB.out | apply below_alloc | apply pw_below_drewN | apply below_drew1 | refine below_set ?_ (IsS75.ge HI0.out)) | exact HB.out)⟩⟩
                · rw [if_neg c19] at H
                  exact absurd H (by simp)
              · rw [if_neg c18] at H
                exact absurd H (by simp)
            · rw [if_neg c16] at H
              have c16b0 : (t225 == 1) = false := beq_eq_false_iff_ne.mpr c16
              have c16b1 : (t225 != 1) = true := bne_iff_ne.mpr c16
              by_cases c28 : t225 = 2
              · rw [if_pos c28] at H
                have c28b0 : (t225 == 2) = true := beq_iff_eq.mpr c28
                have c28b1 : (t225 != 2) = false := bne_eq_false_iff_eq.mpr c28
                clear c28
                replace H := Option.bind_eq_some_iff.mp H
                obtain ⟨⟨t239, t240, t241⟩, A290, H⟩ := H
                replace H : (if 0 ≤ x4_1 then (if x4_1 < (x3_1.length : Int) then (spec_l2DrawBank.l0 k1 (x3_1.set (x4_1 : Int).toNat t239) (wrap64 (x4_1 + 1)) s0_0 t240 t241) else (none)) else (none)) = some (r1, r2, r3) := H
                have A29 := Aside0.mk A290
                clear A290
                by_cases c30 : 0 ≤ x4_1
                · rw [if_pos c30] at H
                  have c30b0 : decide (0 ≤ x4_1) = true := decide_eq_true c30
                  clear c30
                  by_cases c31 : x4_1 < (x3_1.length : Int)
                  · rw [if_pos c31] at H
                    have c31b0 : decide (x4_1 < (x3_1.length : Int)) = true := decide_eq_true c31
                    clear c31
                    obtain ⟨y242, hy242⟩ : ∃ y_ : List Int, y_ = (x3_1.set (x4_1 : Int).toNat t239) := ⟨_, rfl⟩
                    replace H : (spec_l2DrawBank.l0 k1 y242 (wrap64 (x4_1 + 1)) s0_0 t240 t241) = some (r1, r2, r3) := by first | (rw [hy242]; with_reducible exact H) | (have H2_ := (Option.bind_some _ _).symm.trans H; rw [hy242]; with_reducible exact H2_) | (have H2_ := (Option.bind_some _ _).symm.trans H; with_reducible exact H2_) | with_reducible exact H | (rw [hy242]; exact H) | exact H
                    have Ny242 := Aside0.mk hy242
                    clear hy242
                    have H' := Aside0.mk H
                    clear H
                    go_wp2_with (first | ((with_reducible refine gate_callee (f := 47) rfl ?_); refine goesL_ (some 11) rfl rfl Tryd.func47 (by kernel_rfl) rfl #[.pointer (some ⟨g, 0, none⟩), .int .i64 4] rfl (by (try simp only [List.map_toArray, List.map_cons, List.map_nil]); first | done | rfl | (simp only [List.length_drop, List.length_take]; rfl)) ?_; (with_reducible refine (spec_l1Below.calls g s0_0 x1001_1 x1002_1 4 t225 t226 t227 w0 _ ?side1 ?side2 A6.out).mono ?_); (case side1 => repeat (first | (with_reducible first | exact HI0.out | apply IsS75.alloc | apply IsS75.drewN | apply IsS75.drew | apply IsS75.set_1 | apply IsS75.set_2) | exact HI0.out)); (case side2 => repeat (first | (with_reducible first | exact HB.out | apply below_alloc | apply pw_below_drewN | apply below_drew1 | refine below_set ?_ (IsS75.ge HI0.out)) | exact HB.out)); rintro e w33 ⟨rfl, hi, hb, hk⟩; refine ⟨_, rfl, ?_⟩; have n0_ := Aside0.mk (Kd.R_mono (Kd.R_keep (IsS75.apart (show IsS75 w0 _ g s0_0 x1001_1 x1002_1 from by repeat (first | (with_reducible first | exact HI0.out | apply IsS75.alloc | apply IsS75.drewN | apply IsS75.drew | apply IsS75.set_1 | apply IsS75.set_2) | exact HI0.out)) (by (with_reducible repeat (first | apply Kd.R_alloc | apply Kd.R_drewN | apply Kd.R_drew)); exact HO_3.out) (by decide)) hk (fun _ h => h.2)) (fun _ h => h.1)); have n1_ := Aside0.mk (KeepBut.trans (by repeat (first | (with_reducible first | exact HK.out | apply KeepBut.set_ | apply keep_drewN | apply keep_drew | apply keep_alloc) | exact HK.out)) hk (.inl rfl)); have n2_ := Aside0.mk (hb); have n3_ := Aside0.mk (hi); clear HO_3; clear HK; clear HB; clear HI0; have HO_3 := n0_; have HK := n1_; have HB := n2_; have HI0 := n3_; clear n0_ n1_ n2_ n3_; (try clear hb); (try clear hb2); (try clear hk); (try clear hi)) | ((with_reducible refine gate_callee (f := 47) rfl ?_); refine goesL_ (some 32) rfl rfl Tryd.func47 (by kernel_rfl) rfl #[.pointer (some ⟨g, 0, none⟩), .int .i64 256] rfl (by (try simp only [List.map_toArray, List.map_cons, List.map_nil]); first | done | rfl | (simp only [List.length_drop, List.length_take]; rfl)) ?_; (with_reducible refine (spec_l1Below.calls g s0_0 t226 t227 256 t239 t240 t241 w0 _ ?side1 ?side2 A29.out).mono ?_); (case side1 => repeat (first | (with_reducible first | exact HI0.out | apply IsS75.alloc | apply IsS75.drewN | apply IsS75.drew | apply IsS75.set_1 | apply IsS75.set_2) | exact HI0.out)); (case side2 => repeat (first | (with_reducible first | exact HB.out | apply below_alloc | apply pw_below_drewN | apply below_drew1 | refine below_set ?_ (IsS75.ge HI0.out)) | exact HB.out)); rintro e w34 ⟨rfl, hi, hb, hk⟩; refine ⟨_, rfl, ?_⟩; have n0_ := Aside0.mk (Kd.R_mono (Kd.R_keep (IsS75.apart (show IsS75 w0 _ g s0_0 t226 t227 from by repeat (first | (with_reducible first | exact HI0.out | apply IsS75.alloc | apply IsS75.drewN | apply IsS75.drew | apply IsS75.set_1 | apply IsS75.set_2) | exact HI0.out)) (by (with_reducible repeat (first | apply Kd.R_alloc | apply Kd.R_drewN | apply Kd.R_drew)); exact HO_3.out) (by decide)) hk (fun _ h => h.2)) (fun _ h => h.1)); have n1_ := Aside0.mk (KeepBut.trans (by repeat (first | (with_reducible first | exact HK.out | apply KeepBut.set_ | apply keep_drewN | apply keep_drew | apply keep_alloc) | exact HK.out)) hk (.inl rfl)); have n2_ := Aside0.mk (hb); have n3_ := Aside0.mk (hi); clear HO_3; clear HK; clear HB; clear HI0; have HO_3 := n0_; have HK := n1_; have HB := n2_; have HI0 := n3_; clear n0_ n1_ n2_ n3_; (try clear hb); (try clear hb2); (try clear hk); (try clear hi); have p32 : 0 ≤ (x4_1 : Int) := of_decide_eq_true (by first | (with_reducible assumption) | assumption); have q32 : (x4_1 : Int) < ((x3_1.length : Int) : Int) := of_decide_eq_true (by first | (with_reducible assumption) | assumption); obtain ⟨go32, co32, eo32, gb32, gl32, cl32, HG32⟩ := Kd.R_form HO_3.out (by omega); (first | cases eo32 | (injection eo32 with ea_ en_ ec_; (first | subst ea_ | (injection ea_ with ea_; subst ea_)); subst ec_; clear en_)); have GB32 := Aside0.mk gb32; have GG32 := Aside0.mk HG32; clear gb32 gl32 HG32; obtain ⟨hx32_0, hf32_0⟩ := Kd.R_celln 0 HO_3.out (x4_1 : Int) p32 q32; replace p32 := eq_true p32; replace q32 := eq_true q32; obtain ⟨hy35_, hz35_⟩ := Kd.R_celln 0 HO_3.out (x4_1 : Int) (of_decide_eq_true (by first | (with_reducible assumption) | assumption)) (of_decide_eq_true (by first | (with_reducible assumption) | assumption)); have HP35 := Kd.R_putg HO_3.out (x4_1 : Int) t239) | ((with_reducible refine gate_store (t := 3) (p := 33) rfl ?_); refine store_event (t := 3) (p := 33) (v := ?vo_w36) (w1 := (w34.setCell ⟨go32, (x4_1 : Int).toNat, none⟩ (.int .i64 t239))) ?hg ?ho ?hn ?hr ?_; (case ho => rfl); (case hg => rfl); (case hn => rfl); (case hr => first | (go_simp; done) | (go_simp; rfl)); intro w36 hw; have hg : w34.grownBy w36 (some go32) := (by rw [hw]; exact HP35.2); have hp_ : Kd.R (Kd.int .i64) 3 w36 w.heap.size (fun _ => True) (.slice (some ⟨go32, 0, none⟩) x3_1.length co32) y242 := (by rw [hw, Ny242.out]; exact HP35.1); clear HP35; have n0_ := Aside0.mk (hp_); have n1_ := Aside0.mk (IsS75.grown (by repeat (first | (with_reducible first | exact HI0.out | apply IsS75.alloc | apply IsS75.drewN | apply IsS75.drew | apply IsS75.set_1 | apply IsS75.set_2) | exact HI0.out)) hg (IsS75.own_ne HI0.out HO_3.out (by decide))); have n2_ := Aside0.mk ((by rw [hw]; exact below_set (HB.out) (Nat.le_trans HL.out GB32.out) : Below w0.heap.size w0 w36)); have n3_ := Aside0.mk (KeepBut.trans (by repeat (first | (with_reducible first | exact HK.out | apply KeepBut.set_ | apply keep_drewN | apply keep_drew | apply keep_alloc) | exact HK.out)) (KeepBut.of_grown hg g) (Kd.R_base2 HO_3.out)); clear HO_3; clear HI0; clear HB; clear HK; have HO_3 := n0_; have HI0 := n1_; have HB := n2_; have HK := n3_; clear n0_ n1_ n2_ n3_; clear hg hw hp_))
                    go_roundg k1
                    case measure => have := HK1.out; omega
                    case rel => exact ⟨(y242), (wrap64 (x4_1 + 1)), (t240), (t241), (by first | rfl | (simp; done) | (simp [*]; done)), H', ⟨by have := HK1.out; omega⟩, ⟨by (with_reducible repeat (first | apply Kd.R_alloc | apply Kd.R_drewN | apply Kd.R_drew)); exact HO_3.out⟩, ⟨by repeat (first | (with_reducible first | exact HI0.out | apply IsS75.alloc | apply IsS75.drewN | apply IsS75.drew | apply IsS75.set_1 | apply IsS75.set_2) | exact HI0.out)⟩, ⟨by repeat (first | (with_reducible first | exact HK.out | apply KeepBut.set_ | apply keep_drewN | apply keep_drew | apply keep_alloc) | exact HK.out)⟩, ⟨by repeat (first | (with_reducible first | exact HB.out | apply below_alloc | apply pw_below_drewN | apply below_drew1 | refine below_set ?_ (IsS75.ge HI0.out)) | exact HB.out)⟩⟩
                  · rw [if_neg c31] at H
                    exact absurd H (by simp)
                · rw [if_neg c30] at H
                  exact absurd H (by simp)
              · rw [if_neg c28] at H
                have c28b0 : (t225 == 2) = false := beq_eq_false_iff_ne.mpr c28
                have c28b1 : (t225 != 2) = true := bne_iff_ne.mpr c28
                have H' := Aside0.mk H
                clear H
                go_wp2_with (first | ((with_reducible refine gate_callee (f := 47) rfl ?_); refine goesL_ (some 11) rfl rfl Tryd.func47 (by kernel_rfl) rfl #[.pointer (some ⟨g, 0, none⟩), .int .i64 4] rfl (by (try simp only [List.map_toArray, List.map_cons, List.map_nil]); first | done | rfl | (simp only [List.length_drop, List.length_take]; rfl)) ?_; (with_reducible refine (spec_l1Below.calls g s0_0 x1001_1 x1002_1 4 t225 t226 t227 w0 _ ?side1 ?side2 A6.out).mono ?_); (case side1 => repeat (first | (with_reducible first | exact HI0.out | apply IsS75.alloc | apply IsS75.drewN | apply IsS75.drew | apply IsS75.set_1 | apply IsS75.set_2) | exact HI0.out)); (case side2 => repeat (first | (with_reducible first | exact HB.out | apply below_alloc | apply pw_below_drewN | apply below_drew1 | refine below_set ?_ (IsS75.ge HI0.out)) | exact HB.out)); rintro e w37 ⟨rfl, hi, hb, hk⟩; refine ⟨_, rfl, ?_⟩; have n0_ := Aside0.mk (Kd.R_mono (Kd.R_keep (IsS75.apart (show IsS75 w0 _ g s0_0 x1001_1 x1002_1 from by repeat (first | (with_reducible first | exact HI0.out | apply IsS75.alloc | apply IsS75.drewN | apply IsS75.drew | apply IsS75.set_1 | apply IsS75.set_2) | exact HI0.out)) (by (with_reducible repeat (first | apply Kd.R_alloc | apply Kd.R_drewN | apply Kd.R_drew)); exact HO_3.out) (by decide)) hk (fun _ h => h.2)) (fun _ h => h.1)); have n1_ := Aside0.mk (KeepBut.trans (by repeat (first | (with_reducible first | exact HK.out | apply KeepBut.set_ | apply keep_drewN | apply keep_drew | apply keep_alloc) | exact HK.out)) hk (.inl rfl)); have n2_ := Aside0.mk (hb); have n3_ := Aside0.mk (hi); clear HO_3; clear HK; clear HB; clear HI0; have HO_3 := n0_; have HK := n1_; have HB := n2_; have HI0 := n3_; clear n0_ n1_ n2_ n3_; (try clear hb); (try clear hb2); (try clear hk); (try clear hi)))
                go_roundg k1
                case measure => have := HK1.out; omega
                case rel => exact ⟨(x3_1), (wrap64 (x4_1 + 1)), (t226), (t227), (by first | rfl | (simp; done) | (simp [*]; done)), H', ⟨by have := HK1.out; omega⟩, ⟨by (with_reducible repeat (first | apply Kd.R_alloc | apply Kd.R_drewN | apply Kd.R_drew)); exact HO_3.out⟩, ⟨by repeat (first | (with_reducible first | exact HI0.out | apply IsS75.alloc | apply IsS75.drewN | apply IsS75.drew | apply IsS75.set_1 | apply IsS75.set_2) | exact HI0.out)⟩, ⟨by repeat (first | (with_reducible first | exact HK.out | apply KeepBut.set_ | apply keep_drewN | apply keep_drew | apply keep_alloc) | exact HK.out)⟩, ⟨by repeat (first | (with_reducible first | exact HB.out | apply below_alloc | apply pw_below_drewN | apply below_drew1 | refine below_set ?_ (IsS75.ge HI0.out)) | exact HB.out)⟩⟩
        · rw [if_neg c5] at H
          have c5b0 : decide (x4_1 < 256) = false := decide_eq_false c5
          clear c5
          simp only [Option.some.injEq, Prod.mk.injEq] at H
          obtain ⟨rfl, rfl, rfl⟩ := H
          go_wp2
          go_ret
          exact ⟨_, by first | rfl | (simp [errW_none, errW_some] <;> rfl) | (simp [*, errW_none, errW_some] <;> rfl), by (with_reducible repeat (first | apply Kd.R_alloc | apply Kd.R_drewN | apply Kd.R_drew)); exact HO_3.out, by repeat (first | (with_reducible first | exact HI0.out | apply IsS75.alloc | apply IsS75.drewN | apply IsS75.drew | apply IsS75.set_1 | apply IsS75.set_2) | exact HI0.out), by repeat (first | (with_reducible first | exact HB.out | apply below_alloc | apply pw_below_drewN | apply below_drew1 | refine below_set ?_ (IsS75.ge HI0.out)) | exact HB.out), by repeat (first | (with_reducible first | exact HK.out | apply KeepBut.set_ | apply keep_drewN | apply keep_drew | apply keep_alloc) | exact HK.out)⟩
  · rw [if_neg c2] at H
    exact absurd H (by simp)

/-! ### spec_DrawLineOf: function 29 -/
def spec_DrawLineOf.f (k : Nat) (l0 : List Int) : Option (List Int × Int) := (spec_l1New.f k l0).bind fun bt243 => ((spec_l2DrawBank.f k bt243.1 bt243.2.1 bt243.2.2).bind fun bt247 => ((spec_l1Once.f bt243.1 bt247.2.1 bt247.2.2 9).bind fun bt252 => (if bt252.1 = true then (if 0 < (bt247.1.length : Int) then ((spec_l1PickInt.f bt243.1 bt252.2.1 bt252.2.2 (([256, 3, 9, 0] : List Int))).bind fun bt259 => (if 0 ≤ bt259.1 then (if bt259.1 ≤ (bt247.1.length : Int) then ((spec_l1PickInt.f bt243.1 bt259.2.1 bt259.2.2 (([0, 1, 2, 5, 100, 254, 255, 256, (-1)] : List Int))).bind fun bt268 => (some (((bt247.1.set (0 : Int).toNat 300).take (bt259.1 : Int).toNat), bt268.1))) else (none)) else (none))) else (none)) else ((spec_l1PickInt.f bt243.1 bt252.2.1 bt252.2.2 (([256, 3, 9, 0] : List Int))).bind fun bt274 => (if 0 ≤ bt274.1 then (if bt274.1 ≤ (bt247.1.length : Int) then ((spec_l1PickInt.f bt243.1 bt274.2.1 bt274.2.2 (([0, 1, 2, 5, 100, 254, 255, 256, (-1)] : List Int))).bind fun bt283 => (some ((bt247.1.take (bt274.1 : Int).toNat), bt283.1))) else (none)) else (none))))))
def spec_DrawLineOf.T5 : Bool × List (List Nat × List Nat) := (true, [([], []), ([], []), ([], []), ([1, 2], [1, 2]), ([0, 3], [0, 3]), ([], []), ([], []), ([5, 6, 3], [5, 6]), ([4, 7, 0, 1, 2, 3, 4], [4]), ([7, 8, 0, 1, 2, 3, 4, 5, 6, 7, 8], [7])])
def spec_DrawLineOf.B5 : List Nat := [0, 0, 0, 6, 15, 0, 0, 110, 255, 511]
theorem spec_DrawLineOf.tab5 : rtab .any (opsOf Tryd.f29 5) = spec_DrawLineOf.T5 := by kernel_rfl
theorem spec_DrawLineOf.bits5 : waitsOk spec_DrawLineOf.T5.2 spec_DrawLineOf.B5 = true := by kernel_rfl
set_option maxHeartbeats 8000000 in
set_option maxRecDepth 100000 in
theorem spec_DrawLineOf.calls (k : Nat) (A0 : Option Addr) (c0 : Nat) (l0 : List Int) (r1 : List Int) (r2 : Int) (w : World) (hr0 : Kd.C (Kd.int .u8) w A0 l0.length l0) (hc0 : l0.length ≤ c0) (h : spec_DrawLineOf.f k l0 = some (r1, r2)) :
    Calls Tryd.prog 29 #[.slice A0 l0.length c0] w fun e w' => ∃ v0_ : Value, e = .returned (.tuple #[v0_, .int .i64 r2]) ∧ Kd.R (Kd.int .i64) 3 w' w.heap.size (fun _ => True) v0_ r1 ∧ Below w.heap.size w w' := by
  have HR0 := Aside0.mk hr0
  have HC0 := Aside0.mk hc0
  clear hr0 hc0
  have HB := Aside0.mk (Below.refl w.heap.size w)
  have H : ((spec_l1New.f k l0).bind fun bt243 => ((spec_l2DrawBank.f k bt243.1 bt243.2.1 bt243.2.2).bind fun bt247 => ((spec_l1Once.f bt243.1 bt247.2.1 bt247.2.2 9).bind fun bt252 => (if bt252.1 = true then (if 0 < (bt247.1.length : Int) then ((spec_l1PickInt.f bt243.1 bt252.2.1 bt252.2.2 (([256, 3, 9, 0] : List Int))).bind fun bt259 => (if 0 ≤ bt259.1 then (if bt259.1 ≤ (bt247.1.length : Int) then ((spec_l1PickInt.f bt243.1 bt259.2.1 bt259.2.2 (([0, 1, 2, 5, 100, 254, 255, 256, (-1)] : List Int))).bind fun bt268 => (some (((bt247.1.set (0 : Int).toNat 300).take (bt259.1 : Int).toNat), bt268.1))) else (none)) else (none))) else (none)) else ((spec_l1PickInt.f bt243.1 bt252.2.1 bt252.2.2 (([256, 3, 9, 0] : List Int))).bind fun bt274 => (if 0 ≤ bt274.1 then (if bt274.1 ≤ (bt247.1.length : Int) then ((spec_l1PickInt.f bt243.1 bt274.2.1 bt274.2.2 (([0, 1, 2, 5, 100, 254, 255, 256, (-1)] : List Int))).bind fun bt283 => (some ((bt247.1.take (bt274.1 : Int).toNat), bt283.1))) else (none)) else (none))))))) = some (r1, r2) := h
  clear h
  replace H := Option.bind_eq_some_iff.mp H
  obtain ⟨⟨t243, t244, t245⟩, A20, H⟩ := H
  replace H : ((spec_l2DrawBank.f k t243 t244 t245).bind fun bt247 => ((spec_l1Once.f t243 bt247.2.1 bt247.2.2 9).bind fun bt252 => (if bt252.1 = true then (if 0 < (bt247.1.length : Int) then ((spec_l1PickInt.f t243 bt252.2.1 bt252.2.2 (([256, 3, 9, 0] : List Int))).bind fun bt259 => (if 0 ≤ bt259.1 then (if bt259.1 ≤ (bt247.1.length : Int) then ((spec_l1PickInt.f t243 bt259.2.1 bt259.2.2 (([0, 1, 2, 5, 100, 254, 255, 256, (-1)] : List Int))).bind fun bt268 => (some (((bt247.1.set (0 : Int).toNat 300).take (bt259.1 : Int).toNat), bt268.1))) else (none)) else (none))) else (none)) else ((spec_l1PickInt.f t243 bt252.2.1 bt252.2.2 (([256, 3, 9, 0] : List Int))).bind fun bt274 => (if 0 ≤ bt274.1 then (if bt274.1 ≤ (bt247.1.length : Int) then ((spec_l1PickInt.f t243 bt274.2.1 bt274.2.2 (([0, 1, 2, 5, 100, 254, 255, 256, (-1)] : List Int))).bind fun bt283 => (some ((bt247.1.take (bt274.1 : Int).toNat), bt283.1))) else (none)) else (none)))))) = some (r1, r2) := H
  have A2 := Aside0.mk A20
  clear A20
  replace H := Option.bind_eq_some_iff.mp H
  obtain ⟨⟨t247, t250, t251⟩, A30, H⟩ := H
  replace H : ((spec_l1Once.f t243 t250 t251 9).bind fun bt252 => (if bt252.1 = true then (if 0 < (t247.length : Int) then ((spec_l1PickInt.f t243 bt252.2.1 bt252.2.2 (([256, 3, 9, 0] : List Int))).bind fun bt259 => (if 0 ≤ bt259.1 then (if bt259.1 ≤ (t247.length : Int) then ((spec_l1PickInt.f t243 bt259.2.1 bt259.2.2 (([0, 1, 2, 5, 100, 254, 255, 256, (-1)] : List Int))).bind fun bt268 => (some (((t247.set (0 : Int).toNat 300).take (bt259.1 : Int).toNat), bt268.1))) else (none)) else (none))) else (none)) else ((spec_l1PickInt.f t243 bt252.2.1 bt252.2.2 (([256, 3, 9, 0] : List Int))).bind fun bt274 => (if 0 ≤ bt274.1 then (if bt274.1 ≤ (t247.length : Int) then ((spec_l1PickInt.f t243 bt274.2.1 bt274.2.2 (([0, 1, 2, 5, 100, 254, 255, 256, (-1)] : List Int))).bind fun bt283 => (some ((t247.take (bt274.1 : Int).toNat), bt283.1))) else (none)) else (none))))) = some (r1, r2) := H
  have A3 := Aside0.mk A30
  clear A30
  replace H := Option.bind_eq_some_iff.mp H
  obtain ⟨⟨t252, t253, t254⟩, A40, H⟩ := H
  replace H : (if t252 = true then (if 0 < (t247.length : Int) then ((spec_l1PickInt.f t243 t253 t254 (([256, 3, 9, 0] : List Int))).bind fun bt259 => (if 0 ≤ bt259.1 then (if bt259.1 ≤ (t247.length : Int) then ((spec_l1PickInt.f t243 bt259.2.1 bt259.2.2 (([0, 1, 2, 5, 100, 254, 255, 256, (-1)] : List Int))).bind fun bt268 => (some (((t247.set (0 : Int).toNat 300).take (bt259.1 : Int).toNat), bt268.1))) else (none)) else (none))) else (none)) else ((spec_l1PickInt.f t243 t253 t254 (([256, 3, 9, 0] : List Int))).bind fun bt274 => (if 0 ≤ bt274.1 then (if bt274.1 ≤ (t247.length : Int) then ((spec_l1PickInt.f t243 bt274.2.1 bt274.2.2 (([0, 1, 2, 5, 100, 254, 255, 256, (-1)] : List Int))).bind fun bt283 => (some ((t247.take (bt274.1 : Int).toNat), bt283.1))) else (none)) else (none)))) = some (r1, r2) := H
  have A4 := Aside0.mk A40
  clear A40
  by_cases c5 : t252 = true
  · subst c5
    have H1 : (if 0 < (t247.length : Int) then ((spec_l1PickInt.f t243 t253 t254 (([256, 3, 9, 0] : List Int))).bind fun bt259 => (if 0 ≤ bt259.1 then (if bt259.1 ≤ (t247.length : Int) then ((spec_l1PickInt.f t243 bt259.2.1 bt259.2.2 (([0, 1, 2, 5, 100, 254, 255, 256, (-1)] : List Int))).bind fun bt268 => (some (((t247.set (0 : Int).toNat 300).take (bt259.1 : Int).toNat), bt268.1))) else (none)) else (none))) else (none)) = some (r1, r2) := by rw [if_pos rfl] at H; exact H
    clear H
    have H := H1
    clear H1
    by_cases c6 : 0 < (t247.length : Int)
    · rw [if_pos c6] at H
      have c6b0 : decide (0 < (t247.length : Int)) = true := decide_eq_true c6
      have c6b1 : decide (0 < t247.length) = true := decide_eq_true (by omega)
      clear c6
      obtain ⟨y255, hy255⟩ : ∃ y_ : List Int, y_ = (t247.set (0 : Int).toNat 300) := ⟨_, rfl⟩
      replace H : ((spec_l1PickInt.f t243 t253 t254 (([256, 3, 9, 0] : List Int))).bind fun bt259 => (if 0 ≤ bt259.1 then (if bt259.1 ≤ (t247.length : Int) then ((spec_l1PickInt.f t243 bt259.2.1 bt259.2.2 (([0, 1, 2, 5, 100, 254, 255, 256, (-1)] : List Int))).bind fun bt268 => (some ((y255.take (bt259.1 : Int).toNat), bt268.1))) else (none)) else (none))) = some (r1, r2) := by first | (rw [hy255]; with_reducible exact H) | (have H2_ := (Option.bind_some _ _).symm.trans H; rw [hy255]; with_reducible exact H2_) | (have H2_ := (Option.bind_some _ _).symm.trans H; with_reducible exact H2_) | with_reducible exact H | (rw [hy255]; exact H) | exact H
      have Ny255 := Aside0.mk hy255
      clear hy255
      obtain ⟨y256, hy256⟩ : ∃ y_ : List Int, y_ = (([256, 3, 9, 0] : List Int)) := ⟨_, rfl⟩
      replace H : ((spec_l1PickInt.f t243 t253 t254 y256).bind fun bt259 => (if 0 ≤ bt259.1 then (if bt259.1 ≤ (t247.length : Int) then ((spec_l1PickInt.f t243 bt259.2.1 bt259.2.2 (([0, 1, 2, 5, 100, 254, 255, 256, (-1)] : List Int))).bind fun bt268 => (some ((y255.take (bt259.1 : Int).toNat), bt268.1))) else (none)) else (none))) = some (r1, r2) := by first | (rw [hy256]; with_reducible exact H) | (have H2_ := (Option.bind_some _ _).symm.trans H; rw [hy256]; with_reducible exact H2_) | (have H2_ := (Option.bind_some _ _).symm.trans H; with_reducible exact H2_) | with_reducible exact H | (rw [hy256]; exact H) | exact H
      have Ny256 := Aside0.mk hy256
      clear hy256
      replace H := Option.bind_eq_some_iff.mp H
      obtain ⟨⟨t259, t260, t261⟩, A80, H⟩ := H
      replace H : (if 0 ≤ t259 then (if t259 ≤ (t247.length : Int) then ((spec_l1PickInt.f t243 t260 t261 (([0, 1, 2, 5, 100, 254, 255, 256, (-1)] : List Int))).bind fun bt268 => (some ((y255.take (t259 : Int).toNat), bt268.1))) else (none)) else (none)) = some (r1, r2) := H
      have A8 := Aside0.mk A80
      clear A80
      by_cases c9 : 0 ≤ t259
      · rw [if_pos c9] at H
        have c9b0 := eq_true c9
        have c9b1 : decide (0 ≤ t259) = true := decide_eq_true c9
        clear c9
        by_cases c10 : t259 ≤ (t247.length : Int)
        · rw [if_pos c10] at H
          have c10b0 := eq_true c10
          have c10b1 : decide (t259 ≤ (t247.length : Int)) = true := decide_eq_true c10
          clear c10
          obtain ⟨y262, hy262⟩ : ∃ y_ : List Int, y_ = (y255.take (t259 : Int).toNat) := ⟨_, rfl⟩
          replace H : ((spec_l1PickInt.f t243 t260 t261 (([0, 1, 2, 5, 100, 254, 255, 256, (-1)] : List Int))).bind fun bt268 => (some (y262, bt268.1))) = some (r1, r2) := by first | (rw [hy262]; with_reducible exact H) | (have H2_ := (Option.bind_some _ _).symm.trans H; rw [hy262]; with_reducible exact H2_) | (have H2_ := (Option.bind_some _ _).symm.trans H; with_reducible exact H2_) | with_reducible exact H | (rw [hy262]; exact H) | exact H
          have Ny262 := Aside0.mk hy262
          clear hy262
          obtain ⟨y265, hy265⟩ : ∃ y_ : List Int, y_ = (([0, 1, 2, 5, 100, 254, 255, 256, (-1)] : List Int)) := ⟨_, rfl⟩
          replace H : ((spec_l1PickInt.f t243 t260 t261 y265).bind fun bt268 => (some (y262, bt268.1))) = some (r1, r2) := by first | (rw [hy265]; with_reducible exact H) | (have H2_ := (Option.bind_some _ _).symm.trans H; rw [hy265]; with_reducible exact H2_) | (have H2_ := (Option.bind_some _ _).symm.trans H; with_reducible exact H2_) | with_reducible exact H | (rw [hy265]; exact H) | exact H
          have Ny265 := Aside0.mk hy265
          clear hy265
          replace H := Option.bind_eq_some_iff.mp H
          obtain ⟨⟨t268, t269, t270⟩, A110, H⟩ := H
          replace H : (some (y262, t268)) = some (r1, r2) := H
          have A11 := Aside0.mk A110
          clear A110
          simp only [Option.some.injEq, Prod.mk.injEq] at H
          obtain ⟨rfl, rfl⟩ := H
          go_enter Tryd.func29, Tryd.ntmps29
          try go_wp2_with (first | ((with_reducible refine gate_callee (f := 30) rfl ?_); refine goesL_ (some 7) rfl rfl Tryd.func30 (by kernel_rfl) rfl #[.slice A0 l0.length c0] rfl (by (try simp only [List.map_toArray, List.map_cons, List.map_nil]); first | done | rfl | (simp only [List.length_drop, List.length_take]; rfl)) ?_; (with_reducible refine (spec_l1New.calls k _ _ l0 t243 t244 t245 w _ ?side1 ?side2 ?side3 A2.out).mono ?_); (case side1 => repeat (first | (with_reducible first | exact HB.out | apply below_alloc | apply pw_below_drewN | apply below_drew1) | exact HB.out)); (case side2 => exact HR0.out); (case side3 => exact HC0.out); rintro e w12 ⟨g246, rfl, hi, hb, hb2⟩; refine ⟨_, rfl, ?_⟩; have n0_ := Aside0.mk (hb); have n1_ := Aside0.mk (hi); clear HB; have HB := n0_; have HI246 := n1_; clear n0_ n1_; (try clear hb); (try clear hb2); (try clear hk); (try clear hi)) | ((with_reducible refine gate_callee (f := 57) rfl ?_); refine goesL_ (some 9) rfl rfl Tryd.func57 (by kernel_rfl) rfl #[.pointer (some ⟨g246, 0, none⟩)] rfl (by (try simp only [List.map_toArray, List.map_cons, List.map_nil]); first | done | rfl | (simp only [List.length_drop, List.length_take]; rfl)) ?_; (with_reducible refine (spec_l2DrawBank.calls k g246 t243 t244 t245 t247 t250 t251 w _ ?side1 ?side2 A3.out).mono ?_); (case side1 => repeat (first | (with_reducible first | exact HI246.out | apply IsS75.alloc | apply IsS75.drewN | apply IsS75.drew | apply IsS75.set_1 | apply IsS75.set_2) | exact HI246.out)); (case side2 => repeat (first | (with_reducible first | exact HB.out | apply below_alloc | apply pw_below_drewN | apply below_drew1 | refine below_set ?_ (IsS75.ge HI246.out)) | exact HB.out)); rintro e w13 ⟨v248, rfl, ho0, hi, hb, hk⟩; refine ⟨_, rfl, ?_⟩; have n0_ := Aside0.mk (Kd.R_lower ho0 (below_size (by repeat (first | (with_reducible first | exact HB.out | apply below_alloc | apply pw_below_drewN | apply below_drew1 | refine below_set ?_ (IsS75.ge HI246.out)) | exact HB.out)))); have n1_ := Aside0.mk (hb); have n2_ := Aside0.mk (hi); clear HB; clear HI246; have HO249 := n0_; have HB := n1_; have HI246 := n2_; clear n0_ n1_ n2_; (try clear hb); (try clear hb2); (try clear hk); (try clear hi); (try clear ho0)) | ((with_reducible refine gate_callee (f := 49) rfl ?_); refine goesL_ (some 11) rfl rfl Tryd.func49 (by kernel_rfl) rfl #[.pointer (some ⟨g246, 0, none⟩), .int .i64 9] rfl (by (try simp only [List.map_toArray, List.map_cons, List.map_nil]); first | done | rfl | (simp only [List.length_drop, List.length_take]; rfl)) ?_; (with_reducible refine (spec_l1Once.calls g246 t243 t250 t251 9 true t253 t254 w _ ?side1 ?side2 A4.out).mono ?_); (case side1 => repeat (first | (with_reducible first | exact HI246.out | apply IsS75.alloc | apply IsS75.drewN | apply IsS75.drew | apply IsS75.set_1 | apply IsS75.set_2) | exact HI246.out)); (case side2 => repeat (first | (with_reducible first | exact HB.out | apply below_alloc | apply pw_below_drewN | apply below_drew1 | refine below_set ?_ (IsS75.ge HI246.out)) | exact HB.out)); rintro e w14 ⟨rfl, hi, hb, hk⟩; refine ⟨_, rfl, ?_⟩; have n0_ := Aside0.mk (Kd.R_mono (Kd.R_keep (IsS75.apart (show IsS75 w _ g246 t243 t250 t251 from by repeat (first | (with_reducible first | exact HI246.out | apply IsS75.alloc | apply IsS75.drewN | apply IsS75.drew | apply IsS75.set_1 | apply IsS75.set_2) | exact HI246.out)) (by (with_reducible repeat (first | apply Kd.R_alloc | apply Kd.R_drewN | apply Kd.R_drew)); exact HO249.out) (by decide)) hk (fun _ h => h.2)) (fun _ h => h.1)); have n1_ := Aside0.mk (hb); have n2_ := Aside0.mk (hi); clear HO249; clear HB; clear HI246; have HO249 := n0_; have HB := n1_; have HI246 := n2_; clear n0_ n1_ n2_; (try clear hb); (try clear hb2); (try clear hk); (try clear hi); have p7 : 0 ≤ (0 : Int) := (by omega); have q7 : (0 : Int) < ((t247.length : Int) : Int) := of_decide_eq_true (by first | (with_reducible assumption) | assumption); have qi7 : (0 < t247.length) = True := eq_true (by omega); obtain ⟨go7, co7, eo7, gb7, gl7, cl7, HG7⟩ := Kd.R_form HO249.out (by omega); (first | cases eo7 | (injection eo7 with ea_ en_ ec_; (first | subst ea_ | (injection ea_ with ea_; subst ea_)); subst ec_; clear en_)); have GB7 := Aside0.mk gb7; have GG7 := Aside0.mk HG7; clear gb7 gl7 HG7; obtain ⟨hx7_0, hf7_0⟩ := Kd.R_celln 0 HO249.out (0 : Int) p7 q7; (try rw [show ((0 : Int)).toNat = 0 from rfl] at hx7_0); (try simp only [Nat.reduceMul, Nat.zero_mul, Nat.zero_add, Nat.reduceAdd] at hx7_0); (try rw [show ((0 : Int)).toNat = 0 from rfl] at hf7_0); (try simp only [Nat.reduceMul, Nat.zero_mul, Nat.zero_add, Nat.reduceAdd] at hf7_0); replace p7 := eq_true p7; replace q7 := eq_true q7; obtain ⟨hy15_, hz15_⟩ := Kd.R_celln 0 HO249.out (0 : Int) (by omega) (of_decide_eq_true (by first | (with_reducible assumption) | assumption)); (try simp only [Int.reduceToNat, Int.toNat_zero, Int.toNat_ofNat, Nat.reduceMul, Nat.zero_mul, Nat.zero_add] at hy15_ hz15_); (try rw [show ((0 : Int)).toNat = 0 from rfl] at hy15_); (try rw [show ((0 : Int)).toNat = 0 from rfl] at hz15_); have HP15 := Kd.R_putg HO249.out (0 : Int) 300) | ((with_reducible refine gate_store (t := 3) (p := 13) rfl ?_); refine store_event (t := 3) (p := 13) (v := ?vo_w16) (w1 := (w14.setCell ⟨go7, (0 : Int).toNat, none⟩ (.int .i64 300))) ?hg ?ho ?hn ?hr ?_; (case ho => rfl); (case hg => rfl); (case hn => rfl); (case hr => first | (go_simp; done) | (go_simp; rfl)); intro w16 hw; have hg : w14.grownBy w16 (some go7) := (by rw [hw]; exact HP15.2); have hp_ : Kd.R (Kd.int .i64) 3 w16 w.heap.size (fun _ => True) (.slice (some ⟨go7, 0, none⟩) t247.length co7) y255 := (by rw [hw, Ny255.out]; exact HP15.1); clear HP15; have n0_ := Aside0.mk (IsS75.grown (by repeat (first | (with_reducible first | exact HI246.out | apply IsS75.alloc | apply IsS75.drewN | apply IsS75.drew | apply IsS75.set_1 | apply IsS75.set_2) | exact HI246.out)) hg (IsS75.own_ne HI246.out HO249.out (by decide))); have n1_ := Aside0.mk (hp_); have n2_ := Aside0.mk ((by rw [hw]; exact below_set (HB.out) GB7.out : Below w.heap.size w w16)); clear HI246; clear HO249; clear HB; have HI246 := n0_; have HO249 := n1_; have HB := n2_; clear n0_ n1_ n2_; clear hg hw hp_))
          have n0_ := Aside0.mk (Kd.R_drew HO249.out)
          have n1_ := Aside0.mk (IsS75.drew HI246.out)
          have n2_ := Aside0.mk (below_drew1 HB.out)
          clear HO249
          clear HI246
          clear HB
          have HO249 := n0_
          have HI246 := n1_
          have HB := n2_
          clear n0_ n1_ n2_
          refine start_ (n := 10) (S := fun w' => True) (ds := []) #[false, false, false, false, false, false, false, false, false, false] (by kernel_rfl) rfl rfl trivial (fun hHeld => ?_); refine with_tabW spec_DrawLineOf.tab5 spec_DrawLineOf.bits5 (fun HT_ HW_ => ?_)
          generalize w16.drew = w17 at HO249 HI246 HB hHeld ⊢
          refine pure_ (i := 0) (N := some 14) (v := ?_) (a' := ?_) #[true, false, false, false, false, false, false, false, false, false] rfl rfl (any_of HT_.out (by kernel_rfl)) (fun _ _ _ h => h) (Or.inl ⟨by rfl, ?_⟩) ?_ ?_
          rotate_left
          · intro w'
            go_simp
            with_reducible rfl
          rotate_left
          · simp only [Act.put, List.setIfInBounds_toArray, List.set_cons_zero, List.set_cons_succ, i64_w, i32_w]
            rfl
          refine pure_ (i := 1) (N := some 15) (v := ?_) (a' := ?_) #[true, true, false, false, false, false, false, false, false, false] rfl rfl (any_of HT_.out (by kernel_rfl)) (fun _ _ _ h => h) (Or.inl ⟨by rfl, ?_⟩) ?_ ?_
          rotate_left
          · intro w'
            go_simp
            with_reducible rfl
          rotate_left
          · simp only [Act.put, List.setIfInBounds_toArray, List.set_cons_zero, List.set_cons_succ, i64_w, i32_w]
            rfl
          refine pure_ (i := 5) (N := some 19) (v := ?_) (a' := ?_) #[true, true, false, false, false, true, false, false, false, false] rfl rfl (any_of HT_.out (by kernel_rfl)) (fun _ _ _ h => h) (Or.inl ⟨by rfl, ?_⟩) ?_ ?_
          rotate_left
          · intro w'
            go_simp
            with_reducible rfl
          rotate_left
          · simp only [Act.put, List.setIfInBounds_toArray, List.set_cons_zero, List.set_cons_succ, i64_w, i32_w]
            rfl
          have q25 : (t259 : Int) ≤ ((t247.length : Int) : Int) := of_decide_eq_true (by first | (with_reducible assumption) | assumption)
          obtain ⟨i025, hi025, _, hsz25, _⟩ := info_parts info3
          have hcut25 := cut_to (P := Tryd.prog) 22 3 .i64 Tryd.underlying22 hi025 (some ⟨go7, 0, none⟩) t247.length co7 t259 (of_decide_eq_true (by first | (with_reducible assumption) | assumption)) q25 (Kd.R_reads' HO249.out).2.1
          have hmA25 := Aside0.mk (show (t259 : Int).toNat ≤ y255.length from by rw [Ny255.out, List.length_set]; omega)
          have hy25 : y262.length = (t259 : Int).toNat := (by rw [Ny262.out, List.length_take, Ny255.out, List.length_set]; omega)
          rw [← hy25] at hcut25
          have hyA25 := Aside0.mk hy25
          clear hy25 hi025 hsz25
          replace q25 := eq_true q25
          refine join_ (σ := Value × Value) 3 #[true, true, true, true, true, true, true, false, false, false] (fun s_ => [(16, s_.1), (17, .int .i64 t259), (20, s_.2), (18, .slice (some ⟨go7, 0, none⟩) y262.length co7)]) (fun s_ w' => (Kd.R (Kd.int .i64) 3 w' w.heap.size (fun k_ => some k_ ≠ (s_.1 : Value).ownBlock ∧ some k_ ≠ (s_.2 : Value).ownBlock) (.slice (some ⟨go7, 0, none⟩) t247.length co7) y255) ∧ (Kd.R (Kd.int .i64) 3 w' w.heap.size (fun k_ => some k_ ≠ (.slice (some ⟨go7, 0, none⟩) t247.length co7 : Value).ownBlock ∧ some k_ ≠ (s_.2 : Value).ownBlock) s_.1 y256) ∧ (Kd.R (Kd.int .i64) 3 w' w.heap.size (fun k_ => some k_ ≠ (.slice (some ⟨go7, 0, none⟩) t247.length co7 : Value).ownBlock ∧ some k_ ≠ (s_.1 : Value).ownBlock) s_.2 y265) ∧ (IsS75 w w' g246 t243 t260 t261) ∧ (Below w.heap.size w w')) ?_ ?_
          rotate_left
          · intro hCont
            refine two_ (i := 2) (j := 6) (Ni := some 16) (Nj := some 20) #[true, true, true, false, false, true, false, false, false, false] #[true, true, false, false, false, true, true, false, false, false] rfl rfl rfl rfl (two_of HT_.out (by kernel_rfl)) (by decide) (by decide) (fun K hK => ?_) (fun K hK => ?_)
            · skip
              refine Kd.R_lit_step (Kd.int .i64) _ 3 ?hg (N := 16) ?hd (xs := ([256, 3, 9, 0] : List Int)) (inner := [.int .i64 256, .int .i64 3, .int .i64 9, .int .i64 0]) (ok := fun _ => True) (okp := fun _ => True) ?hr ?hp (fun _ hk => hk) trivial (Below.refl _ _) (Nat.le_refl _) (by simp) ?_; (case hd => rfl); (case hg => rfl); (case hr => first | (go_simp; done) | (go_simp; rfl)); (case hp => exact (Reps.one (show Kd.M (Kd.int .i64) _ _ _ 256 [.int .i64 256] from rfl) (Reps.one (show Kd.M (Kd.int .i64) _ _ _ 3 [.int .i64 3] from rfl) (Reps.one (show Kd.M (Kd.int .i64) _ _ _ 9 [.int .i64 9] from rfl) (Reps.one (show Kd.M (Kd.int .i64) _ _ _ 0 [.int .i64 0] from rfl) (Reps.none _ _))))))
              intro v257 w18 ho19 hb hg_ hnew_
              clear hg_ hnew_
              (first | rw [← Ny256.out] at ho19 | (simp only [Int.reduceToNat] at ho19; rw [← Ny256.out] at ho19))
              have n0_ := Aside0.mk (Kd.R_elder' (by (with_reducible repeat (first | apply Kd.R_alloc | apply Kd.R_drewN | apply Kd.R_drew)); exact HO249.out) (Kd.R_base ho19) hb)
              have n1_ := Aside0.mk (Kd.R_lower (Kd.R_new' ho19 (Kd.R_lt (by (with_reducible repeat (first | apply Kd.R_alloc | apply Kd.R_drewN | apply Kd.R_drew)); exact HO249.out))) (below_size (by repeat (first | (with_reducible first | exact HB.out | apply below_alloc | apply pw_below_drewN | apply below_drew1 | refine below_set ?_ (IsS75.ge HI246.out)) | exact HB.out))))
              have n2_ := Aside0.mk (IsS75.below (by repeat (first | (with_reducible first | exact HI246.out | apply IsS75.alloc | apply IsS75.drewN | apply IsS75.drew | apply IsS75.set_1 | apply IsS75.set_2) | exact HI246.out)) hb)
              have n3_ := Aside0.mk (below_step (by repeat (first | (with_reducible first | exact HB.out | apply below_alloc | apply pw_below_drewN | apply below_drew1 | refine below_set ?_ (IsS75.ge HI246.out)) | exact HB.out)) hb)
              clear HO249
              clear HI246
              clear HB
              have HO249 := n0_
              have HO258 := n1_
              have HI246 := n2_
              have HB := n3_
              clear n0_ n1_ n2_ n3_
              clear hb ho19
              obtain ⟨Ao20, co20, eo20⟩ := Kd.R_slice HO258.out
              (first | subst eo20 | (injection eo20 with f1_ f2_ f3_; have f4_ := f1_.symm; have f5_ := f3_.symm; clear f1_ f2_ f3_; subst f4_; subst f5_))
              refine hK.out _ _ trivial (fun hHeld => ?_)
              clear hK K
              refine norm_ (a' := ?_) ?_ ?_
              rotate_left
              · show Act.put _ (some 16) _ = _
                simp only [Act.put, List.setIfInBounds_toArray, List.set_cons_zero, List.set_cons_succ, i64_w, i32_w]
                rfl
              refine two_ (i := 3) (j := 6) (Ni := some 17) (Nj := some 20) #[true, true, true, true, false, true, false, false, false, false] #[true, true, true, false, false, true, true, false, false, false] rfl rfl rfl rfl (two_of HT_.out (by kernel_rfl)) (by decide) (by decide) (fun K hK => ?_) (fun K hK => ?_)
              · skip
                refine goes_ Tryd.func31 (by kernel_rfl) rfl #[.pointer (some ⟨g246, 0, none⟩), .slice Ao20 y256.length co20] (by rfl) rfl rfl (by (try simp only [List.map_toArray, List.map_cons, List.map_nil]); first | done | rfl | (simp only [List.length_drop, List.length_take]; rfl)) ?_
                with_reducible refine (spec_l1PickInt.calls g246 t243 t253 t254 _ _ y256 t259 t260 t261 w _ ?side1 ?side2 ?side3 ?side4 ?side5 A8.out).mono ?_
                (case side1 => repeat (first | (with_reducible first | exact HI246.out | apply IsS75.alloc | apply IsS75.drewN | apply IsS75.drew | apply IsS75.set_1 | apply IsS75.set_2) | exact HI246.out))
                (case side2 => repeat (first | (with_reducible first | exact HB.out | apply below_alloc | apply pw_below_drewN | apply below_drew1 | refine below_set ?_ (IsS75.ge HI246.out)) | exact HB.out))
                (case side3 => repeat (first | exact (Kd.R_reads' HO258.out).2.2 | (with_reducible refine Kd.C_alloc ?_ _) | (with_reducible refine Kd.C_drewN ?_ _) | (with_reducible refine Kd.C_drew ?_)))
                (case side4 => exact (Kd.R_reads' HO258.out).2.1)
                (case side5 => exact far_slice (IsS75.own_ne HI246.out HO258.out (by decide)))
                rintro e w21 ⟨rfl, hi, hb, hk⟩
                refine ⟨_, rfl, ?_⟩
                have n0_ := Aside0.mk (Kd.R_mono (Kd.R_keep (IsS75.apart (show IsS75 w _ g246 t243 t253 t254 from by repeat (first | (with_reducible first | exact HI246.out | apply IsS75.alloc | apply IsS75.drewN | apply IsS75.drew | apply IsS75.set_1 | apply IsS75.set_2) | exact HI246.out)) (by (with_reducible repeat (first | apply Kd.R_alloc | apply Kd.R_drewN | apply Kd.R_drew)); exact HO249.out) (by decide)) hk (fun _ h => h.2)) (fun _ h => h.1))
                have n1_ := Aside0.mk (Kd.R_mono (Kd.R_keep (IsS75.apart (show IsS75 w _ g246 t243 t253 t254 from by repeat (first | (with_reducible first | exact HI246.out | apply IsS75.alloc | apply IsS75.drewN | apply IsS75.drew | apply IsS75.set_1 | apply IsS75.set_2) | exact HI246.out)) (by (with_reducible repeat (first | apply Kd.R_alloc | apply Kd.R_drewN | apply Kd.R_drew)); exact HO258.out) (by decide)) hk (fun _ h => h.2)) (fun _ h => h.1))
                have n2_ := Aside0.mk (hb)
                have n3_ := Aside0.mk (hi)
                clear HO249
                clear HO258
                clear HB
                clear HI246
                have HO249 := n0_
                have HO258 := n1_
                have HB := n2_
                have HI246 := n3_
                clear n0_ n1_ n2_ n3_
                (try clear hb)
                (try clear hb2)
                (try clear hk)
                (try clear hi)
                refine hK.out _ _ trivial (fun hHeld => ?_)
                clear hK K
                refine norm_ (a' := ?_) ?_ ?_
                rotate_left
                · show Act.put _ (some 17) _ = _
                  simp only [Act.put, List.setIfInBounds_toArray, List.set_cons_zero, List.set_cons_succ, i64_w, i32_w]
                  rfl
                refine pure_ (i := 4) (N := some 18) (v := ?_) (a' := ?_) #[true, true, true, true, true, true, false, false, false, false] rfl rfl (any_of HT_.out (by kernel_rfl)) (fun _ _ _ h => h) (Or.inl ⟨by rfl, ?_⟩) ?_ ?_
                rotate_left
                · intro w'
                  go_simp
                  with_reducible rfl
                rotate_left
                · simp only [Act.put, List.setIfInBounds_toArray, List.set_cons_zero, List.set_cons_succ, i64_w, i32_w]
                  rfl
                refine one_ (i := 6) (N := some 20) #[true, true, true, true, true, true, true, false, false, false] rfl rfl (one_of HT_.out (by kernel_rfl)) (by decide) (fun K hK => ?_)
                refine Kd.R_lit_step (Kd.int .i64) _ 3 ?hg (N := 20) ?hd (xs := ([0, 1, 2, 5, 100, 254, 255, 256, (-1)] : List Int)) (inner := [.int .i64 0, .int .i64 1, .int .i64 2, .int .i64 5, .int .i64 100, .int .i64 254, .int .i64 255, .int .i64 256, .int .i64 (-1)]) (ok := fun _ => True) (okp := fun _ => True) ?hr ?hp (fun _ hk => hk) trivial (Below.refl _ _) (Nat.le_refl _) (by simp) ?_; (case hd => rfl); (case hg => rfl); (case hr => first | (go_simp; done) | (go_simp; rfl)); (case hp => exact (Reps.one (show Kd.M (Kd.int .i64) _ _ _ 0 [.int .i64 0] from rfl) (Reps.one (show Kd.M (Kd.int .i64) _ _ _ 1 [.int .i64 1] from rfl) (Reps.one (show Kd.M (Kd.int .i64) _ _ _ 2 [.int .i64 2] from rfl) (Reps.one (show Kd.M (Kd.int .i64) _ _ _ 5 [.int .i64 5] from rfl) (Reps.one (show Kd.M (Kd.int .i64) _ _ _ 100 [.int .i64 100] from rfl) (Reps.one (show Kd.M (Kd.int .i64) _ _ _ 254 [.int .i64 254] from rfl) (Reps.one (show Kd.M (Kd.int .i64) _ _ _ 255 [.int .i64 255] from rfl) (Reps.one (show Kd.M (Kd.int .i64) _ _ _ 256 [.int .i64 256] from rfl) (Reps.one (show Kd.M (Kd.int .i64) _ _ _ (-1) [.int .i64 (-1)] from rfl) (Reps.none _ _)))))))))))
                intro v266 w22 ho23 hb hg_ hnew_
                clear hg_ hnew_
                (first | rw [← Ny265.out] at ho23 | (simp only [Int.reduceToNat] at ho23; rw [← Ny265.out] at ho23))
                have n0_ := Aside0.mk (Kd.R_elder' (by (with_reducible repeat (first | apply Kd.R_alloc | apply Kd.R_drewN | apply Kd.R_drew)); exact HO249.out) (Kd.R_base ho23) hb)
                have n1_ := Aside0.mk (Kd.R_elder' (by (with_reducible repeat (first | apply Kd.R_alloc | apply Kd.R_drewN | apply Kd.R_drew)); exact HO258.out) (Kd.R_base ho23) hb)
                have n2_ := Aside0.mk (Kd.R_lower (Kd.R_new' (Kd.R_new' ho23 (Kd.R_lt (by (with_reducible repeat (first | apply Kd.R_alloc | apply Kd.R_drewN | apply Kd.R_drew)); exact HO249.out))) (Kd.R_lt (by (with_reducible repeat (first | apply Kd.R_alloc | apply Kd.R_drewN | apply Kd.R_drew)); exact HO258.out))) (below_size (by repeat (first | (with_reducible first | exact HB.out | apply below_alloc | apply pw_below_drewN | apply below_drew1 | refine below_set ?_ (IsS75.ge HI246.out)) | exact HB.out))))
                have n3_ := Aside0.mk (IsS75.below (by repeat (first | (with_reducible first | exact HI246.out | apply IsS75.alloc | apply IsS75.drewN | apply IsS75.drew | apply IsS75.set_1 | apply IsS75.set_2) | exact HI246.out)) hb)
                have n4_ := Aside0.mk (below_step (by repeat (first | (with_reducible first | exact HB.out | apply below_alloc | apply pw_below_drewN | apply below_drew1 | refine below_set ?_ (IsS75.ge HI246.out)) | exact HB.out)) hb)
                clear HO249
                clear HO258
                clear HI246
                clear HB
                have HO249 := n0_
                have HO258 := n1_
                have HO267 := n2_
                have HI246 := n3_
                have HB := n4_
                clear n0_ n1_ n2_ n3_ n4_
                clear hb ho23
                refine hK.out _ _ trivial (fun hHeld => ?_)
                clear hK K
                refine norm_ (a' := ?_) ?_ ?_
                rotate_left
                · show Act.put _ (some 20) _ = _
                  simp only [Act.put, List.setIfInBounds_toArray, List.set_cons_zero, List.set_cons_succ, i64_w, i32_w]
                  rfl
                exact norm_ (by simp only [putAll, Act.put, List.setIfInBounds_toArray, List.set_cons_zero, List.set_cons_succ]) (hCont (.slice Ao20 y256.length co20, v266) _ ⟨(by (with_reducible repeat (first | apply Kd.R_alloc | apply Kd.R_drewN | apply Kd.R_drew)); exact Kd.R_mono HO249.out (fun _ hk => ⟨hk.1.2, hk.2⟩)), (by (with_reducible repeat (first | apply Kd.R_alloc | apply Kd.R_drewN | apply Kd.R_drew)); exact Kd.R_mono HO258.out (fun _ hk => ⟨hk.1.2, hk.2⟩)), (by (with_reducible repeat (first | apply Kd.R_alloc | apply Kd.R_drewN | apply Kd.R_drew)); exact Kd.R_mono HO267.out (fun _ hk => ⟨hk.1.2, hk.2⟩)), (by repeat (first | (with_reducible first | exact HI246.out | apply IsS75.alloc | apply IsS75.drewN | apply IsS75.drew | apply IsS75.set_1 | apply IsS75.set_2) | exact HI246.out)), (by repeat (first | (with_reducible first | exact HB.out | apply below_alloc | apply pw_below_drewN | apply below_drew1 | refine below_set ?_ (IsS75.ge HI246.out)) | exact HB.out))⟩)
              · skip
                refine Kd.R_lit_step (Kd.int .i64) _ 3 ?hg (N := 20) ?hd (xs := ([0, 1, 2, 5, 100, 254, 255, 256, (-1)] : List Int)) (inner := [.int .i64 0, .int .i64 1, .int .i64 2, .int .i64 5, .int .i64 100, .int .i64 254, .int .i64 255, .int .i64 256, .int .i64 (-1)]) (ok := fun _ => True) (okp := fun _ => True) ?hr ?hp (fun _ hk => hk) trivial (Below.refl _ _) (Nat.le_refl _) (by simp) ?_; (case hd => rfl); (case hg => rfl); (case hr => first | (go_simp; done) | (go_simp; rfl)); (case hp => exact (Reps.one (show Kd.M (Kd.int .i64) _ _ _ 0 [.int .i64 0] from rfl) (Reps.one (show Kd.M (Kd.int .i64) _ _ _ 1 [.int .i64 1] from rfl) (Reps.one (show Kd.M (Kd.int .i64) _ _ _ 2 [.int .i64 2] from rfl) (Reps.one (show Kd.M (Kd.int .i64) _ _ _ 5 [.int .i64 5] from rfl) (Reps.one (show Kd.M (Kd.int .i64) _ _ _ 100 [.int .i64 100] from rfl) (Reps.one (show Kd.M (Kd.int .i64) _ _ _ 254 [.int .i64 254] from rfl) (Reps.one (show Kd.M (Kd.int .i64) _ _ _ 255 [.int .i64 255] from rfl) (Reps.one (show Kd.M (Kd.int .i64) _ _ _ 256 [.int .i64 256] from rfl) (Reps.one (show Kd.M (Kd.int .i64) _ _ _ (-1) [.int .i64 (-1)] from rfl) (Reps.none _ _)))))))))))
                intro v266 w20 ho21 hb hg_ hnew_
                clear hg_ hnew_
                (first | rw [← Ny265.out] at ho21 | (simp only [Int.reduceToNat] at ho21; rw [← Ny265.out] at ho21))
                have n0_ := Aside0.mk (Kd.R_elder' (by (with_reducible repeat (first | apply Kd.R_alloc | apply Kd.R_drewN | apply Kd.R_drew)); exact HO249.out) (Kd.R_base ho21) hb)
                have n1_ := Aside0.mk (Kd.R_elder' (by (with_reducible repeat (first | apply Kd.R_alloc | apply Kd.R_drewN | apply Kd.R_drew)); exact HO258.out) (Kd.R_base ho21) hb)
                have n2_ := Aside0.mk (Kd.R_lower (Kd.R_new' (Kd.R_new' ho21 (Kd.R_lt (by (with_reducible repeat (first | apply Kd.R_alloc | apply Kd.R_drewN | apply Kd.R_drew)); exact HO249.out))) (Kd.R_lt (by (with_reducible repeat (first | apply Kd.R_alloc | apply Kd.R_drewN | apply Kd.R_drew)); exact HO258.out))) (below_size (by repeat (first | (with_reducible first | exact HB.out | apply below_alloc | apply pw_below_drewN | apply below_drew1 | refine below_set ?_ (IsS75.ge HI246.out)) | exact HB.out))))
                have n3_ := Aside0.mk (IsS75.below (by repeat (first | (with_reducible first | exact HI246.out | apply IsS75.alloc | apply IsS75.drewN | apply IsS75.drew | apply IsS75.set_1 | apply IsS75.set_2) | exact HI246.out)) hb)
                have n4_ := Aside0.mk (below_step (by repeat (first | (with_reducible first | exact HB.out | apply below_alloc | apply pw_below_drewN | apply below_drew1 | refine below_set ?_ (IsS75.ge HI246.out)) | exact HB.out)) hb)
                clear HO249
                clear HO258
                clear HI246
                clear HB
                have HO249 := n0_
                have HO258 := n1_
                have HO267 := n2_
                have HI246 := n3_
                have HB := n4_
                clear n0_ n1_ n2_ n3_ n4_
                clear hb ho21
                obtain ⟨Ao22, co22, eo22⟩ := Kd.R_slice HO258.out
                (first | subst eo22 | (injection eo22 with f1_ f2_ f3_; have f4_ := f1_.symm; have f5_ := f3_.symm; clear f1_ f2_ f3_; subst f4_; subst f5_))
                refine hK.out _ _ trivial (fun hHeld => ?_)
                clear hK K
                refine norm_ (a' := ?_) ?_ ?_
                rotate_left
                · show Act.put _ (some 20) _ = _
                  simp only [Act.put, List.setIfInBounds_toArray, List.set_cons_zero, List.set_cons_succ, i64_w, i32_w]
                  rfl
                refine one_ (i := 3) (N := some 17) #[true, true, true, true, false, true, true, false, false, false] rfl rfl (one_of HT_.out (by kernel_rfl)) (by decide) (fun K hK => ?_)
                refine goes_ Tryd.func31 (by kernel_rfl) rfl #[.pointer (some ⟨g246, 0, none⟩), .slice Ao22 y256.length co22] (by rfl) rfl rfl (by (try simp only [List.map_toArray, List.map_cons, List.map_nil]); first | done | rfl | (simp only [List.length_drop, List.length_take]; rfl)) ?_
                with_reducible refine (spec_l1PickInt.calls g246 t243 t253 t254 _ _ y256 t259 t260 t261 w _ ?side1 ?side2 ?side3 ?side4 ?side5 A8.out).mono ?_
                (case side1 => repeat (first | (with_reducible first | exact HI246.out | apply IsS75.alloc | apply IsS75.drewN | apply IsS75.drew | apply IsS75.set_1 | apply IsS75.set_2) | exact HI246.out))
                (case side2 => repeat (first | (with_reducible first | exact HB.out | apply below_alloc | apply pw_below_drewN | apply below_drew1 | refine below_set ?_ (IsS75.ge HI246.out)) | exact HB.out))
                (case side3 => repeat (first | exact (Kd.R_reads' HO258.out).2.2 | (with_reducible refine Kd.C_alloc ?_ _) | (with_reducible refine Kd.C_drewN ?_ _) | (with_reducible refine Kd.C_drew ?_)))
                (case side4 => exact (Kd.R_reads' HO258.out).2.1)
                (case side5 => exact far_slice (IsS75.own_ne HI246.out HO258.out (by decide)))
                rintro e w23 ⟨rfl, hi, hb, hk⟩
                refine ⟨_, rfl, ?_⟩
                have n0_ := Aside0.mk (Kd.R_mono (Kd.R_keep (IsS75.apart (show IsS75 w _ g246 t243 t253 t254 from by repeat (first | (with_reducible first | exact HI246.out | apply IsS75.alloc | apply IsS75.drewN | apply IsS75.drew | apply IsS75.set_1 | apply IsS75.set_2) | exact HI246.out)) (by (with_reducible repeat (first | apply Kd.R_alloc | apply Kd.R_drewN | apply Kd.R_drew)); exact HO249.out) (by decide)) hk (fun _ h => h.2)) (fun _ h => h.1))
                have n1_ := Aside0.mk (Kd.R_mono (Kd.R_keep (IsS75.apart (show IsS75 w _ g246 t243 t253 t254 from by repeat (first | (with_reducible first | exact HI246.out | apply IsS75.alloc | apply IsS75.drewN | apply IsS75.drew | apply IsS75.set_1 | apply IsS75.set_2) | exact HI246.out)) (by (with_reducible repeat (first | apply Kd.R_alloc | apply Kd.R_drewN | apply Kd.R_drew)); exact HO258.out) (by decide)) hk (fun _ h => h.2)) (fun _ h => h.1))
                have n2_ := Aside0.mk (Kd.R_mono (Kd.R_keep (IsS75.apart (show IsS75 w _ g246 t243 t253 t254 from by repeat (first | (with_reducible first | exact HI246.out | apply IsS75.alloc | apply IsS75.drewN | apply IsS75.drew | apply IsS75.set_1 | apply IsS75.set_2) | exact HI246.out)) (by (with_reducible repeat (first | apply Kd.R_alloc | apply Kd.R_drewN | apply Kd.R_drew)); exact HO267.out) (by decide)) hk (fun _ h => h.2)) (fun _ h => h.1))
                have n3_ := Aside0.mk (hb)
                have n4_ := Aside0.mk (hi)
                clear HO249
                clear HO258
                clear HO267
                clear HB
                clear HI246
                have HO249 := n0_
                have HO258 := n1_
                have HO267 := n2_
                have HB := n3_
                have HI246 := n4_
                clear n0_ n1_ n2_ n3_ n4_
                (try clear hb)
                (try clear hb2)
                (try clear hk)
                (try clear hi)
                refine hK.out _ _ trivial (fun hHeld => ?_)
                clear hK K
                refine norm_ (a' := ?_) ?_ ?_
                rotate_left
                · show Act.put _ (some 17) _ = _
                  simp only [Act.put, List.setIfInBounds_toArray, List.set_cons_zero, List.set_cons_succ, i64_w, i32_w]
                  rfl
                refine pure_ (i := 4) (N := some 18) (v := ?_) (a' := ?_) #[true, true, true, true, true, true, true, false, false, false] rfl rfl (any_of HT_.out (by kernel_rfl)) (fun _ _ _ h => h) (Or.inl ⟨by rfl, ?_⟩) ?_ ?_
                rotate_left
                · intro w'
                  go_simp
                  with_reducible rfl
                rotate_left
                · simp only [Act.put, List.setIfInBounds_toArray, List.set_cons_zero, List.set_cons_succ, i64_w, i32_w]
                  rfl
                exact norm_ (by simp only [putAll, Act.put, List.setIfInBounds_toArray, List.set_cons_zero, List.set_cons_succ]) (hCont (.slice Ao22 y256.length co22, v266) _ ⟨(by (with_reducible repeat (first | apply Kd.R_alloc | apply Kd.R_drewN | apply Kd.R_drew)); exact Kd.R_mono HO249.out (fun _ hk => ⟨hk.1.2, hk.2⟩)), (by (with_reducible repeat (first | apply Kd.R_alloc | apply Kd.R_drewN | apply Kd.R_drew)); exact Kd.R_mono HO258.out (fun _ hk => ⟨hk.1.2, hk.2⟩)), (by (with_reducible repeat (first | apply Kd.R_alloc | apply Kd.R_drewN | apply Kd.R_drew)); exact Kd.R_mono HO267.out (fun _ hk => ⟨hk.1.2, hk.2⟩)), (by repeat (first | (with_reducible first | exact HI246.out | apply IsS75.alloc | apply IsS75.drewN | apply IsS75.drew | apply IsS75.set_1 | apply IsS75.set_2) | exact HI246.out)), (by repeat (first | (with_reducible first | exact HB.out | apply below_alloc | apply pw_below_drewN | apply below_drew1 | refine below_set ?_ (IsS75.ge HI246.out)) | exact HB.out))⟩)
            · skip
              refine Kd.R_lit_step (Kd.int .i64) _ 3 ?hg (N := 20) ?hd (xs := ([0, 1, 2, 5, 100, 254, 255, 256, (-1)] : List Int)) (inner := [.int .i64 0, .int .i64 1, .int .i64 2, .int .i64 5, .int .i64 100, .int .i64 254, .int .i64 255, .int .i64 256, .int .i64 (-1)]) (ok := fun _ => True) (okp := fun _ => True) ?hr ?hp (fun _ hk => hk) trivial (Below.refl _ _) (Nat.le_refl _) (by simp) ?_; (case hd => rfl); (case hg => rfl); (case hr => first | (go_simp; done) | (go_simp; rfl)); (case hp => exact (Reps.one (show Kd.M (Kd.int .i64) _ _ _ 0 [.int .i64 0] from rfl) (Reps.one (show Kd.M (Kd.int .i64) _ _ _ 1 [.int .i64 1] from rfl) (Reps.one (show Kd.M (Kd.int .i64) _ _ _ 2 [.int .i64 2] from rfl) (Reps.one (show Kd.M (Kd.int .i64) _ _ _ 5 [.int .i64 5] from rfl) (Reps.one (show Kd.M (Kd.int .i64) _ _ _ 100 [.int .i64 100] from rfl) (Reps.one (show Kd.M (Kd.int .i64) _ _ _ 254 [.int .i64 254] from rfl) (Reps.one (show Kd.M (Kd.int .i64) _ _ _ 255 [.int .i64 255] from rfl) (Reps.one (show Kd.M (Kd.int .i64) _ _ _ 256 [.int .i64 256] from rfl) (Reps.one (show Kd.M (Kd.int .i64) _ _ _ (-1) [.int .i64 (-1)] from rfl) (Reps.none _ _)))))))))))
              intro v266 w18 ho19 hb hg_ hnew_
              clear hg_ hnew_
              (first | rw [← Ny265.out] at ho19 | (simp only [Int.reduceToNat] at ho19; rw [← Ny265.out] at ho19))
              have n0_ := Aside0.mk (Kd.R_elder' (by (with_reducible repeat (first | apply Kd.R_alloc | apply Kd.R_drewN | apply Kd.R_drew)); exact HO249.out) (Kd.R_base ho19) hb)
              have n1_ := Aside0.mk (Kd.R_lower (Kd.R_new' ho19 (Kd.R_lt (by (with_reducible repeat (first | apply Kd.R_alloc | apply Kd.R_drewN | apply Kd.R_drew)); exact HO249.out))) (below_size (by repeat (first | (with_reducible first | exact HB.out | apply below_alloc | apply pw_below_drewN | apply below_drew1 | refine below_set ?_ (IsS75.ge HI246.out)) | exact HB.out))))
              have n2_ := Aside0.mk (IsS75.below (by repeat (first | (with_reducible first | exact HI246.out | apply IsS75.alloc | apply IsS75.drewN | apply IsS75.drew | apply IsS75.set_1 | apply IsS75.set_2) | exact HI246.out)) hb)
              have n3_ := Aside0.mk (below_step (by repeat (first | (with_reducible first | exact HB.out | apply below_alloc | apply pw_below_drewN | apply below_drew1 | refine below_set ?_ (IsS75.ge HI246.out)) | exact HB.out)) hb)
              clear HO249
              clear HI246
              clear HB
              have HO249 := n0_
              have HO267 := n1_
              have HI246 := n2_
              have HB := n3_
              clear n0_ n1_ n2_ n3_
              clear hb ho19
              refine hK.out _ _ trivial (fun hHeld => ?_)
              clear hK K
              refine norm_ (a' := ?_) ?_ ?_
              rotate_left
              · show Act.put _ (some 20) _ = _
                simp only [Act.put, List.setIfInBounds_toArray, List.set_cons_zero, List.set_cons_succ, i64_w, i32_w]
                rfl
              refine one_ (i := 2) (N := some 16) #[true, true, true, false, false, true, true, false, false, false] rfl rfl (one_of HT_.out (by kernel_rfl)) (by decide) (fun K hK => ?_)
              refine Kd.R_lit_step (Kd.int .i64) _ 3 ?hg (N := 16) ?hd (xs := ([256, 3, 9, 0] : List Int)) (inner := [.int .i64 256, .int .i64 3, .int .i64 9, .int .i64 0]) (ok := fun _ => True) (okp := fun _ => True) ?hr ?hp (fun _ hk => hk) trivial (Below.refl _ _) (Nat.le_refl _) (by simp) ?_; (case hd => rfl); (case hg => rfl); (case hr => first | (go_simp; done) | (go_simp; rfl)); (case hp => exact (Reps.one (show Kd.M (Kd.int .i64) _ _ _ 256 [.int .i64 256] from rfl) (Reps.one (show Kd.M (Kd.int .i64) _ _ _ 3 [.int .i64 3] from rfl) (Reps.one (show Kd.M (Kd.int .i64) _ _ _ 9 [.int .i64 9] from rfl) (Reps.one (show Kd.M (Kd.int .i64) _ _ _ 0 [.int .i64 0] from rfl) (Reps.none _ _))))))
              intro v257 w20 ho21 hb hg_ hnew_
              clear hg_ hnew_
              (first | rw [← Ny256.out] at ho21 | (simp only [Int.reduceToNat] at ho21; rw [← Ny256.out] at ho21))
              have n0_ := Aside0.mk (Kd.R_elder' (by (with_reducible repeat (first | apply Kd.R_alloc | apply Kd.R_drewN | apply Kd.R_drew)); exact HO249.out) (Kd.R_base ho21) hb)
              have n1_ := Aside0.mk (Kd.R_elder' (by (with_reducible repeat (first | apply Kd.R_alloc | apply Kd.R_drewN | apply Kd.R_drew)); exact HO267.out) (Kd.R_base ho21) hb)
              have n2_ := Aside0.mk (Kd.R_lower (Kd.R_new' (Kd.R_new' ho21 (Kd.R_lt (by (with_reducible repeat (first | apply Kd.R_alloc | apply Kd.R_drewN | apply Kd.R_drew)); exact HO249.out))) (Kd.R_lt (by (with_reducible repeat (first | apply Kd.R_alloc | apply Kd.R_drewN | apply Kd.R_drew)); exact HO267.out))) (below_size (by repeat (first | (with_reducible first | exact HB.out | apply below_alloc | apply pw_below_drewN | apply below_drew1 | refine below_set ?_ (IsS75.ge HI246.out)) | exact HB.out))))
              have n3_ := Aside0.mk (IsS75.below (by repeat (first | (with_reducible first | exact HI246.out | apply IsS75.alloc | apply IsS75.drewN | apply IsS75.drew | apply IsS75.set_1 | apply IsS75.set_2) | exact HI246.out)) hb)
              have n4_ := Aside0.mk (below_step (by repeat (first | (with_reducible first | exact HB.out | apply below_alloc | apply pw_below_drewN | apply below_drew1 | refine below_set ?_ (IsS75.ge HI246.out)) | exact HB.out)) hb)
              clear HO249
              clear HO267
              clear HI246
              clear HB
              have HO249 := n0_
              have HO267 := n1_
              have HO258 := n2_
              have HI246 := n3_
              have HB := n4_
              clear n0_ n1_ n2_ n3_ n4_
              clear hb ho21
              obtain ⟨Ao22, co22, eo22⟩ := Kd.R_slice HO258.out
              (first | subst eo22 | (injection eo22 with f1_ f2_ f3_; have f4_ := f1_.symm; have f5_ := f3_.symm; clear f1_ f2_ f3_; subst f4_; subst f5_))
              refine hK.out _ _ trivial (fun hHeld => ?_)
              clear hK K
              refine norm_ (a' := ?_) ?_ ?_
              rotate_left
              · show Act.put _ (some 16) _ = _
                simp only [Act.put, List.setIfInBounds_toArray, List.set_cons_zero, List.set_cons_succ, i64_w, i32_w]
                rfl
              refine one_ (i := 3) (N := some 17) #[true, true, true, true, false, true, true, false, false, false] rfl rfl (one_of HT_.out (by kernel_rfl)) (by decide) (fun K hK => ?_)
              refine goes_ Tryd.func31 (by kernel_rfl) rfl #[.pointer (some ⟨g246, 0, none⟩), .slice Ao22 y256.length co22] (by rfl) rfl rfl (by (try simp only [List.map_toArray, List.map_cons, List.map_nil]); first | done | rfl | (simp only [List.length_drop, List.length_take]; rfl)) ?_
              with_reducible refine (spec_l1PickInt.calls g246 t243 t253 t254 _ _ y256 t259 t260 t261 w _ ?side1 ?side2 ?side3 ?side4 ?side5 A8.out).mono ?_
              (case side1 => repeat (first | (with_reducible first | exact HI246.out | apply IsS75.alloc | apply IsS75.drewN | apply IsS75.drew | apply IsS75.set_1 | apply IsS75.set_2) | exact HI246.out))
              (case side2 => repeat (first | (with_reducible first | exact HB.out | apply below_alloc | apply pw_below_drewN | apply below_drew1 | refine below_set ?_ (IsS75.ge HI246.out)) | exact HB.out))
              (case side3 => repeat (first | exact (Kd.R_reads' HO258.out).2.2 | (with_reducible refine Kd.C_alloc ?_ _) | (with_reducible refine Kd.C_drewN ?_ _) | (with_reducible refine Kd.C_drew ?_)))
              (case side4 => exact (Kd.R_reads' HO258.out).2.1)
              (case side5 => exact far_slice (IsS75.own_ne HI246.out HO258.out (by decide)))
              rintro e w23 ⟨rfl, hi, hb, hk⟩
              refine ⟨_, rfl, ?_⟩
              have n0_ := Aside0.mk (Kd.R_mono (Kd.R_keep (IsS75.apart (show IsS75 w _ g246 t243 t253 t254 from by repeat (first | (with_reducible first | exact HI246.out | apply IsS75.alloc | apply IsS75.drewN | apply IsS75.drew | apply IsS75.set_1 | apply IsS75.set_2) | exact HI246.out)) (by (with_reducible repeat (first | apply Kd.R_alloc | apply Kd.R_drewN | apply Kd.R_drew)); exact HO249.out) (by decide)) hk (fun _ h => h.2)) (fun _ h => h.1))
              have n1_ := Aside0.mk (Kd.R_mono (Kd.R_keep (IsS75.apart (show IsS75 w _ g246 t243 t253 t254 from by repeat (first | (with_reducible first | exact HI246.out | apply IsS75.alloc | apply IsS75.drewN | apply IsS75.drew | apply IsS75.set_1 | apply IsS75.set_2) | exact HI246.out)) (by (with_reducible repeat (first | apply Kd.R_alloc | apply Kd.R_drewN | apply Kd.R_drew)); exact HO267.out) (by decide)) hk (fun _ h => h.2)) (fun _ h => h.1))
              have n2_ := Aside0.mk (Kd.R_mono (Kd.R_keep (IsS75.apart (show IsS75 w _ g246 t243 t253 t254 from by repeat (first | (with_reducible first | exact HI246.out | apply IsS75.alloc | apply IsS75.drewN | apply IsS75.drew | apply IsS75.set_1 | apply IsS75.set_2) | exact HI246.out)) (by (with_reducible repeat (first | apply Kd.R_alloc | apply Kd.R_drewN | apply Kd.R_drew)); exact HO258.out) (by decide)) hk (fun _ h => h.2)) (fun _ h => h.1))
              have n3_ := Aside0.mk (hb)
              have n4_ := Aside0.mk (hi)
              clear HO249
              clear HO267
              clear HO258
              clear HB
              clear HI246
              have HO249 := n0_
              have HO267 := n1_
              have HO258 := n2_
              have HB := n3_
              have HI246 := n4_
              clear n0_ n1_ n2_ n3_ n4_
              (try clear hb)
              (try clear hb2)
              (try clear hk)
              (try clear hi)
              refine hK.out _ _ trivial (fun hHeld => ?_)
              clear hK K
              refine norm_ (a' := ?_) ?_ ?_
              rotate_left
              · show Act.put _ (some 17) _ = _
                simp only [Act.put, List.setIfInBounds_toArray, List.set_cons_zero, List.set_cons_succ, i64_w, i32_w]
                rfl
              refine pure_ (i := 4) (N := some 18) (v := ?_) (a' := ?_) #[true, true, true, true, true, true, true, false, false, false] rfl rfl (any_of HT_.out (by kernel_rfl)) (fun _ _ _ h => h) (Or.inl ⟨by rfl, ?_⟩) ?_ ?_
              rotate_left
              · intro w'
                go_simp
                with_reducible rfl
              rotate_left
              · simp only [Act.put, List.setIfInBounds_toArray, List.set_cons_zero, List.set_cons_succ, i64_w, i32_w]
                rfl
              exact norm_ (by simp only [putAll, Act.put, List.setIfInBounds_toArray, List.set_cons_zero, List.set_cons_succ]) (hCont (.slice Ao22 y256.length co22, v266) _ ⟨(by (with_reducible repeat (first | apply Kd.R_alloc | apply Kd.R_drewN | apply Kd.R_drew)); exact Kd.R_mono HO249.out (fun _ hk => ⟨hk.2, hk.1.2⟩)), (by (with_reducible repeat (first | apply Kd.R_alloc | apply Kd.R_drewN | apply Kd.R_drew)); exact Kd.R_mono HO258.out (fun _ hk => ⟨hk.1.2, hk.2⟩)), (by (with_reducible repeat (first | apply Kd.R_alloc | apply Kd.R_drewN | apply Kd.R_drew)); exact Kd.R_mono HO267.out (fun _ hk => ⟨hk.1.2, hk.2⟩)), (by repeat (first | (with_reducible first | exact HI246.out | apply IsS75.alloc | apply IsS75.drewN | apply IsS75.drew | apply IsS75.set_1 | apply IsS75.set_2) | exact HI246.out)), (by repeat (first | (with_reducible first | exact HB.out | apply below_alloc | apply pw_below_drewN | apply below_drew1 | refine below_set ?_ (IsS75.ge HI246.out)) | exact HB.out))⟩)
          rintro ⟨v257, v266⟩ w24 ⟨h0_, h1_, h2_, h3_, h4_⟩
          have n0_ : Aside0 (Kd.R (Kd.int .i64) 3 w24 w.heap.size (fun k_ => some k_ ≠ (v257 : Value).ownBlock ∧ some k_ ≠ (v266 : Value).ownBlock) (.slice (some ⟨go7, 0, none⟩) t247.length co7) y255) := ⟨h0_⟩
          have n1_ : Aside0 (Kd.R (Kd.int .i64) 3 w24 w.heap.size (fun k_ => some k_ ≠ (.slice (some ⟨go7, 0, none⟩) t247.length co7 : Value).ownBlock ∧ some k_ ≠ (v266 : Value).ownBlock) v257 y256) := ⟨h1_⟩
          have n2_ : Aside0 (Kd.R (Kd.int .i64) 3 w24 w.heap.size (fun k_ => some k_ ≠ (.slice (some ⟨go7, 0, none⟩) t247.length co7 : Value).ownBlock ∧ some k_ ≠ (v257 : Value).ownBlock) v266 y265) := ⟨h2_⟩
          have n3_ : Aside0 (IsS75 w w24 g246 t243 t260 t261) := ⟨h3_⟩
          have n4_ : Aside0 (Below w.heap.size w w24) := ⟨h4_⟩
          clear HO249
          clear HI246
          clear HB
          clear h0_ h1_ h2_ h3_ h4_
          have HO249 := n0_
          have HO258 := n1_
          have HO267 := n2_
          have HI246 := n3_
          have HB := n4_
          clear n0_ n1_ n2_ n3_ n4_
          have hHeld := trivial
          have hr25 := Kd.R_take (m := (t259 : Int).toNat) HO249.out hmA25.out
          have hy25 := hyA25.out
          rw [← Ny262.out] at hr25
          rw [← hy25] at hr25
          clear hy25 HO249
          have HO264 := Aside0.mk hr25
          clear hr25
          obtain ⟨Ao26, co26, eo26⟩ := Kd.R_slice HO267.out
          (first | subst eo26 | (injection eo26 with f1_ f2_ f3_; have f4_ := f1_.symm; have f5_ := f3_.symm; clear f1_ f2_ f3_; subst f4_; subst f5_))
          refine norm_ (a' := ?_) ?_ ?_
          rotate_left
          · simp only [putAll, Act.put, List.setIfInBounds_toArray, List.set_cons_zero, List.set_cons_succ]
            rfl
          refine one_ (i := 7) (N := some 21) #[true, true, true, true, true, true, true, true, false, false] rfl rfl (one_of HT_.out (by kernel_rfl)) (by decide) (fun K hK => ?_)
          refine goes_ Tryd.func31 (by kernel_rfl) rfl #[.pointer (some ⟨g246, 0, none⟩), .slice Ao26 y265.length co26] (by rfl) rfl rfl (by (try simp only [List.map_toArray, List.map_cons, List.map_nil]); first | done | rfl | (simp only [List.length_drop, List.length_take]; rfl)) ?_
          with_reducible refine (spec_l1PickInt.calls g246 t243 t260 t261 _ _ y265 t268 t269 t270 w _ ?side1 ?side2 ?side3 ?side4 ?side5 A11.out).mono ?_
          (case side1 => repeat (first | (with_reducible first | exact HI246.out | apply IsS75.alloc | apply IsS75.drewN | apply IsS75.drew | apply IsS75.set_1 | apply IsS75.set_2) | exact HI246.out))
          (case side2 => repeat (first | (with_reducible first | exact HB.out | apply below_alloc | apply pw_below_drewN | apply below_drew1 | refine below_set ?_ (IsS75.ge HI246.out)) | exact HB.out))
          (case side3 => repeat (first | exact (Kd.R_reads' HO267.out).2.2 | (with_reducible refine Kd.C_alloc ?_ _) | (with_reducible refine Kd.C_drewN ?_ _) | (with_reducible refine Kd.C_drew ?_)))
          (case side4 => exact (Kd.R_reads' HO267.out).2.1)
          (case side5 => exact far_slice (IsS75.own_ne HI246.out HO267.out (by decide)))
          rintro e w27 ⟨rfl, hi, hb, hk⟩
          refine ⟨_, rfl, ?_⟩
          have n0_ := Aside0.mk (Kd.R_mono (Kd.R_keep (IsS75.apart (show IsS75 w _ g246 t243 t260 t261 from by repeat (first | (with_reducible first | exact HI246.out | apply IsS75.alloc | apply IsS75.drewN | apply IsS75.drew | apply IsS75.set_1 | apply IsS75.set_2) | exact HI246.out)) (by (with_reducible repeat (first | apply Kd.R_alloc | apply Kd.R_drewN | apply Kd.R_drew)); exact HO264.out) (by decide)) hk (fun _ h => h.2)) (fun _ h => h.1))
          have n1_ := Aside0.mk (Kd.R_mono (Kd.R_keep (IsS75.apart (show IsS75 w _ g246 t243 t260 t261 from by repeat (first | (with_reducible first | exact HI246.out | apply IsS75.alloc | apply IsS75.drewN | apply IsS75.drew | apply IsS75.set_1 | apply IsS75.set_2) | exact HI246.out)) (by (with_reducible repeat (first | apply Kd.R_alloc | apply Kd.R_drewN | apply Kd.R_drew)); exact HO258.out) (by decide)) hk (fun _ h => h.2)) (fun _ h => h.1))
          have n2_ := Aside0.mk (Kd.R_mono (Kd.R_keep (IsS75.apart (show IsS75 w _ g246 t243 t260 t261 from by repeat (first | (with_reducible first | exact HI246.out | apply IsS75.alloc | apply IsS75.drewN | apply IsS75.drew | apply IsS75.set_1 | apply IsS75.set_2) | exact HI246.out)) (by (with_reducible repeat (first | apply Kd.R_alloc | apply Kd.R_drewN | apply Kd.R_drew)); exact HO267.out) (by decide)) hk (fun _ h => h.2)) (fun _ h => h.1))
          have n3_ := Aside0.mk (hb)
          have n4_ := Aside0.mk (hi)
          clear HO264
          clear HO258
          clear HO267
          clear HB
          clear HI246
          have HO264 := n0_
          have HO258 := n1_
          have HO267 := n2_
          have HB := n3_
          have HI246 := n4_
          clear n0_ n1_ n2_ n3_ n4_
          (try clear hb)
          (try clear hb2)
          (try clear hk)
          (try clear hi)
          refine hK.out _ _ trivial (fun hHeld => ?_)
          clear hK K
          refine norm_ (a' := ?_) ?_ ?_
          rotate_left
          · show Act.put _ (some 21) _ = _
            simp only [Act.put, List.setIfInBounds_toArray, List.set_cons_zero, List.set_cons_succ, i64_w, i32_w]
            rfl
          refine pure_ (i := 8) (N := some 2) (v := ?_) (a' := ?_) #[true, true, true, true, true, true, true, true, true, false] rfl rfl (any_of HT_.out (by kernel_rfl)) (fun _ _ _ h => h) (Or.inl ⟨by rfl, ?_⟩) ?_ ?_
          rotate_left
          · intro w'
            go_simp
            with_reducible rfl
          rotate_left
          · simp only [Act.put, List.setIfInBounds_toArray, List.set_cons_zero, List.set_cons_succ, i64_w, i32_w]
            rfl
          refine pure_ (i := 9) (N := some 3) (v := ?_) (a' := ?_) #[true, true, true, true, true, true, true, true, true, true] rfl rfl (any_of HT_.out (by kernel_rfl)) (fun _ _ _ h => h) (Or.inl ⟨by rfl, ?_⟩) ?_ ?_
          rotate_left
          · intro w'
            go_simp
            with_reducible rfl
          rotate_left
          · simp only [Act.put, List.setIfInBounds_toArray, List.set_cons_zero, List.set_cons_succ, i64_w, i32_w]
            rfl
          refine done_ (done_of HT_.out (by kernel_rfl)) ?_
          try go_wp2
          go_ret2
          exact ⟨_, by first | rfl | (simp [errW_none, errW_some] <;> rfl) | (simp [*, errW_none, errW_some] <;> rfl), by (with_reducible repeat (first | apply Kd.R_alloc | apply Kd.R_drewN | apply Kd.R_drew)); exact Kd.R_mono HO264.out (fun _ hk => trivial), by repeat (first | (with_reducible first | exact HB.out | apply below_alloc | apply pw_below_drewN | apply below_drew1 | refine below_set ?_ (IsS75.ge HI246.out)) | exact HB.out)⟩
        · rw [if_neg c10] at H
          exact absurd H (by simp)
      · rw [if_neg c9] at H
        exact absurd H (by simp)
    · rw [if_neg c6] at H
      exact absurd H (by simp)
  · replace c5 := Bool.eq_false_iff.mpr c5
    subst c5
    have H1 : ((spec_l1PickInt.f t243 t253 t254 (([256, 3, 9, 0] : List Int))).bind fun bt274 => (if 0 ≤ bt274.1 then (if bt274.1 ≤ (t247.length : Int) then ((spec_l1PickInt.f t243 bt274.2.1 bt274.2.2 (([0, 1, 2, 5, 100, 254, 255, 256, (-1)] : List Int))).bind fun bt283 => (some ((t247.take (bt274.1 : Int).toNat), bt283.1))) else (none)) else (none))) = some (r1, r2) := by rw [if_neg (show ¬ (false = true) by decide)] at H; exact H
    clear H
    have H := H1
    clear H1
    obtain ⟨y271, hy271⟩ : ∃ y_ : List Int, y_ = (([256, 3, 9, 0] : List Int)) := ⟨_, rfl⟩
    replace H : ((spec_l1PickInt.f t243 t253 t254 y271).bind fun bt274 => (if 0 ≤ bt274.1 then (if bt274.1 ≤ (t247.length : Int) then ((spec_l1PickInt.f t243 bt274.2.1 bt274.2.2 (([0, 1, 2, 5, 100, 254, 255, 256, (-1)] : List Int))).bind fun bt283 => (some ((t247.take (bt274.1 : Int).toNat), bt283.1))) else (none)) else (none))) = some (r1, r2) := by first | (rw [hy271]; with_reducible exact H) | (have H2_ := (Option.bind_some _ _).symm.trans H; rw [hy271]; with_reducible exact H2_) | (have H2_ := (Option.bind_some _ _).symm.trans H; with_reducible exact H2_) | with_reducible exact H | (rw [hy271]; exact H) | exact H
    have Ny271 := Aside0.mk hy271
    clear hy271
    replace H := Option.bind_eq_some_iff.mp H
    obtain ⟨⟨t274, t275, t276⟩, A280, H⟩ := H
    replace H : (if 0 ≤ t274 then (if t274 ≤ (t247.length : Int) then ((spec_l1PickInt.f t243 t275 t276 (([0, 1, 2, 5, 100, 254, 255, 256, (-1)] : List Int))).bind fun bt283 => (some ((t247.take (t274 : Int).toNat), bt283.1))) else (none)) else (none)) = some (r1, r2) := H
    have A28 := Aside0.mk A280
    clear A280
    by_cases c29 : 0 ≤ t274
    · rw [if_pos c29] at H
      have c29b0 := eq_true c29
      have c29b1 : decide (0 ≤ t274) = true := decide_eq_true c29
      clear c29
      by_cases c30 : t274 ≤ (t247.length : Int)
      · rw [if_pos c30] at H
        have c30b0 := eq_true c30
        have c30b1 : decide (t274 ≤ (t247.length : Int)) = true := decide_eq_true c30
        clear c30
        obtain ⟨y277, hy277⟩ : ∃ y_ : List Int, y_ = (t247.take (t274 : Int).toNat) := ⟨_, rfl⟩
        replace H : ((spec_l1PickInt.f t243 t275 t276 (([0, 1, 2, 5, 100, 254, 255, 256, (-1)] : List Int))).bind fun bt283 => (some (y277, bt283.1))) = some (r1, r2) := by first | (rw [hy277]; with_reducible exact H) | (have H2_ := (Option.bind_some _ _).symm.trans H; rw [hy277]; with_reducible exact H2_) | (have H2_ := (Option.bind_some _ _).symm.trans H; with_reducible exact H2_) | with_reducible exact H | (rw [hy277]; exact H) | exact H
        have Ny277 := Aside0.mk hy277
        clear hy277
        obtain ⟨y280, hy280⟩ : ∃ y_ : List Int, y_ = (([0, 1, 2, 5, 100, 254, 255, 256, (-1)] : List Int)) := ⟨_, rfl⟩
        replace H : ((spec_l1PickInt.f t243 t275 t276 y280).bind fun bt283 => (some (y277, bt283.1))) = some (r1, r2) := by first | (rw [hy280]; with_reducible exact H) | (have H2_ := (Option.bind_some _ _).symm.trans H; rw [hy280]; with_reducible exact H2_) | (have H2_ := (Option.bind_some _ _).symm.trans H; with_reducible exact H2_) | with_reducible exact H | (rw [hy280]; exact H) | exact H
        have Ny280 := Aside0.mk hy280
        clear hy280
        replace H := Option.bind_eq_some_iff.mp H
        obtain ⟨⟨t283, t284, t285⟩, A310, H⟩ := H
        replace H : (some (y277, t283)) = some (r1, r2) := H
        have A31 := Aside0.mk A310
        clear A310
        simp only [Option.some.injEq, Prod.mk.injEq] at H
        obtain ⟨rfl, rfl⟩ := H
        go_enter Tryd.func29, Tryd.ntmps29
        try go_wp2_with (first | ((with_reducible refine gate_callee (f := 30) rfl ?_); refine goesL_ (some 7) rfl rfl Tryd.func30 (by kernel_rfl) rfl #[.slice A0 l0.length c0] rfl (by (try simp only [List.map_toArray, List.map_cons, List.map_nil]); first | done | rfl | (simp only [List.length_drop, List.length_take]; rfl)) ?_; (with_reducible refine (spec_l1New.calls k _ _ l0 t243 t244 t245 w _ ?side1 ?side2 ?side3 A2.out).mono ?_); (case side1 => repeat (first | (with_reducible first | exact HB.out | apply below_alloc | apply pw_below_drewN | apply below_drew1) | exact HB.out)); (case side2 => exact HR0.out); (case side3 => exact HC0.out); rintro e w32 ⟨g246, rfl, hi, hb, hb2⟩; refine ⟨_, rfl, ?_⟩; have n0_ := Aside0.mk (hb); have n1_ := Aside0.mk (hi); clear HB; have HB := n0_; have HI246 := n1_; clear n0_ n1_; (try clear hb); (try clear hb2); (try clear hk); (try clear hi)) | ((with_reducible refine gate_callee (f := 57) rfl ?_); refine goesL_ (some 9) rfl rfl Tryd.func57 (by kernel_rfl) rfl #[.pointer (some ⟨g246, 0, none⟩)] rfl (by (try simp only [List.map_toArray, List.map_cons, List.map_nil]); first | done | rfl | (simp only [List.length_drop, List.length_take]; rfl)) ?_; (with_reducible refine (spec_l2DrawBank.calls k g246 t243 t244 t245 t247 t250 t251 w _ ?side1 ?side2 A3.out).mono ?_); (case side1 => repeat (first | (with_reducible first | exact HI246.out | apply IsS75.alloc | apply IsS75.drewN | apply IsS75.drew | apply IsS75.set_1 | apply IsS75.set_2) | exact HI246.out)); (case side2 => repeat (first | (with_reducible first | exact HB.out | apply below_alloc | apply pw_below_drewN | apply below_drew1 | refine below_set ?_ (IsS75.ge HI246.out)) | exact HB.out)); rintro e w33 ⟨v248, rfl, ho0, hi, hb, hk⟩; refine ⟨_, rfl, ?_⟩; have n0_ := Aside0.mk (Kd.R_lower ho0 (below_size (by repeat (first | (with_reducible first | exact HB.out | apply below_alloc | apply pw_below_drewN | apply below_drew1 | refine below_set ?_ (IsS75.ge HI246.out)) | exact HB.out)))); have n1_ := Aside0.mk (hb); have n2_ := Aside0.mk (hi); clear HB; clear HI246; have HO249 := n0_; have HB := n1_; have HI246 := n2_; clear n0_ n1_ n2_; (try clear hb); (try clear hb2); (try clear hk); (try clear hi); (try clear ho0)) | ((with_reducible refine gate_callee (f := 49) rfl ?_); refine goesL_ (some 11) rfl rfl Tryd.func49 (by kernel_rfl) rfl #[.pointer (some ⟨g246, 0, none⟩), .int .i64 9] rfl (by (try simp only [List.map_toArray, List.map_cons, List.map_nil]); first | done | rfl | (simp only [List.length_drop, List.length_take]; rfl)) ?_; (with_reducible refine (spec_l1Once.calls g246 t243 t250 t251 9 false t253 t254 w _ ?side1 ?side2 A4.out).mono ?_); (case side1 => repeat (first | (with_reducible first | exact HI246.out | apply IsS75.alloc | apply IsS75.drewN | apply IsS75.drew | apply IsS75.set_1 | apply IsS75.set_2) | exact HI246.out)); (case side2 => repeat (first | (with_reducible first | exact HB.out | apply below_alloc | apply pw_below_drewN | apply below_drew1 | refine below_set ?_ (IsS75.ge HI246.out)) | exact HB.out)); rintro e w34 ⟨rfl, hi, hb, hk⟩; refine ⟨_, rfl, ?_⟩; have n0_ := Aside0.mk (Kd.R_mono (Kd.R_keep (IsS75.apart (show IsS75 w _ g246 t243 t250 t251 from by repeat (first | (with_reducible first | exact HI246.out | apply IsS75.alloc | apply IsS75.drewN | apply IsS75.drew | apply IsS75.set_1 | apply IsS75.set_2) | exact HI246.out)) (by (with_reducible repeat (first | apply Kd.R_alloc | apply Kd.R_drewN | apply Kd.R_drew)); exact HO249.out) (by decide)) hk (fun _ h => h.2)) (fun _ h => h.1)); have n1_ := Aside0.mk (hb); have n2_ := Aside0.mk (hi); clear HO249; clear HB; clear HI246; have HO249 := n0_; have HB := n1_; have HI246 := n2_; clear n0_ n1_ n2_; (try clear hb); (try clear hb2); (try clear hk); (try clear hi)))
        have n0_ := Aside0.mk (Kd.R_drew HO249.out)
        have n1_ := Aside0.mk (IsS75.drew HI246.out)
        have n2_ := Aside0.mk (below_drew1 HB.out)
        clear HO249
        clear HI246
        clear HB
        have HO249 := n0_
        have HI246 := n1_
        have HB := n2_
        clear n0_ n1_ n2_
        refine start_ (n := 10) (S := fun w' => True) (ds := []) #[false, false, false, false, false, false, false, false, false, false] (by kernel_rfl) rfl rfl trivial (fun hHeld => ?_); refine with_tabW spec_DrawLineOf.tab5 spec_DrawLineOf.bits5 (fun HT_ HW_ => ?_)
        generalize w34.drew = w35 at HO249 HI246 HB hHeld ⊢
        refine pure_ (i := 0) (N := some 14) (v := ?_) (a' := ?_) #[true, false, false, false, false, false, false, false, false, false] rfl rfl (any_of HT_.out (by kernel_rfl)) (fun _ _ _ h => h) (Or.inl ⟨by rfl, ?_⟩) ?_ ?_
        rotate_left
        · intro w'
          go_simp
          with_reducible rfl
        rotate_left
        · simp only [Act.put, List.setIfInBounds_toArray, List.set_cons_zero, List.set_cons_succ, i64_w, i32_w]
          rfl
        refine pure_ (i := 1) (N := some 15) (v := ?_) (a' := ?_) #[true, true, false, false, false, false, false, false, false, false] rfl rfl (any_of HT_.out (by kernel_rfl)) (fun _ _ _ h => h) (Or.inl ⟨by rfl, ?_⟩) ?_ ?_
        rotate_left
        · intro w'
          go_simp
          with_reducible rfl
        rotate_left
        · simp only [Act.put, List.setIfInBounds_toArray, List.set_cons_zero, List.set_cons_succ, i64_w, i32_w]
          rfl
        refine pure_ (i := 5) (N := some 19) (v := ?_) (a' := ?_) #[true, true, false, false, false, true, false, false, false, false] rfl rfl (any_of HT_.out (by kernel_rfl)) (fun _ _ _ h => h) (Or.inl ⟨by rfl, ?_⟩) ?_ ?_
        rotate_left
        · intro w'
          go_simp
          with_reducible rfl
        rotate_left
        · simp only [Act.put, List.setIfInBounds_toArray, List.set_cons_zero, List.set_cons_succ, i64_w, i32_w]
          rfl
        obtain ⟨Ao43, co43, eo43⟩ := Kd.R_slice HO249.out
        (first | subst eo43 | (injection eo43 with f1_ f2_ f3_; have f4_ := f1_.symm; have f5_ := f3_.symm; clear f1_ f2_ f3_; subst f4_; subst f5_))
        have q44 : (t274 : Int) ≤ ((t247.length : Int) : Int) := of_decide_eq_true (by first | (with_reducible assumption) | assumption)
        obtain ⟨i044, hi044, _, hsz44, _⟩ := info_parts info3
        have hcut44 := cut_to (P := Tryd.prog) 22 3 .i64 Tryd.underlying22 hi044 Ao43 t247.length co43 t274 (of_decide_eq_true (by first | (with_reducible assumption) | assumption)) q44 (Kd.R_reads' HO249.out).2.1
        have hmA44 := Aside0.mk (show (t274 : Int).toNat ≤ t247.length from by omega)
        have hy44 : y277.length = (t274 : Int).toNat := (by rw [Ny277.out, List.length_take]; omega)
        rw [← hy44] at hcut44
        have hyA44 := Aside0.mk hy44
        clear hy44 hi044 hsz44
        replace q44 := eq_true q44
        refine join_ (σ := Value × Value) 3 #[true, true, true, true, true, true, true, false, false, false] (fun s_ => [(16, s_.1), (17, .int .i64 t274), (20, s_.2), (18, .slice Ao43 y277.length co43)]) (fun s_ w' => (Kd.R (Kd.int .i64) 3 w' w.heap.size (fun k_ => some k_ ≠ (s_.1 : Value).ownBlock ∧ some k_ ≠ (s_.2 : Value).ownBlock) (.slice Ao43 t247.length co43) t247) ∧ (Kd.R (Kd.int .i64) 3 w' w.heap.size (fun k_ => some k_ ≠ ((.slice Ao43 t247.length co43) : Value).ownBlock ∧ some k_ ≠ (s_.2 : Value).ownBlock) s_.1 y271) ∧ (Kd.R (Kd.int .i64) 3 w' w.heap.size (fun k_ => some k_ ≠ ((.slice Ao43 t247.length co43) : Value).ownBlock ∧ some k_ ≠ (s_.1 : Value).ownBlock) s_.2 y280) ∧ (IsS75 w w' g246 t243 t275 t276) ∧ (Below w.heap.size w w')) ?_ ?_
        rotate_left
        · intro hCont
          refine two_ (i := 2) (j := 6) (Ni := some 16) (Nj := some 20) #[true, true, true, false, false, true, false, false, false, false] #[true, true, false, false, false, true, true, false, false, false] rfl rfl rfl rfl (two_of HT_.out (by kernel_rfl)) (by decide) (by decide) (fun K hK => ?_) (fun K hK => ?_)
          · skip
            refine Kd.R_lit_step (Kd.int .i64) _ 3 ?hg (N := 16) ?hd (xs := ([256, 3, 9, 0] : List Int)) (inner := [.int .i64 256, .int .i64 3, .int .i64 9, .int .i64 0]) (ok := fun _ => True) (okp := fun _ => True) ?hr ?hp (fun _ hk => hk) trivial (Below.refl _ _) (Nat.le_refl _) (by simp) ?_; (case hd => rfl); (case hg => rfl); (case hr => first | (go_simp; done) | (go_simp; rfl)); (case hp => exact (Reps.one (show Kd.M (Kd.int .i64) _ _ _ 256 [.int .i64 256] from rfl) (Reps.one (show Kd.M (Kd.int .i64) _ _ _ 3 [.int .i64 3] from rfl) (Reps.one (show Kd.M (Kd.int .i64) _ _ _ 9 [.int .i64 9] from rfl) (Reps.one (show Kd.M (Kd.int .i64) _ _ _ 0 [.int .i64 0] from rfl) (Reps.none _ _))))))
            intro v272 w36 ho37 hb hg_ hnew_
            clear hg_ hnew_
            (first | rw [← Ny271.out] at ho37 | (simp only [Int.reduceToNat] at ho37; rw [← Ny271.out] at ho37))
            have n0_ := Aside0.mk (Kd.R_elder' (by (with_reducible repeat (first | apply Kd.R_alloc | apply Kd.R_drewN | apply Kd.R_drew)); exact HO249.out) (Kd.R_base ho37) hb)
            have n1_ := Aside0.mk (Kd.R_lower (Kd.R_new' ho37 (Kd.R_lt (by (with_reducible repeat (first | apply Kd.R_alloc | apply Kd.R_drewN | apply Kd.R_drew)); exact HO249.out))) (below_size (by repeat (first | (with_reducible first | exact HB.out | apply below_alloc | apply pw_below_drewN | apply below_drew1 | refine below_set ?_ (IsS75.ge HI246.out)) | exact HB.out))))
            have n2_ := Aside0.mk (IsS75.below (by repeat (first | (with_reducible first | exact HI246.out | apply IsS75.alloc | apply IsS75.drewN | apply IsS75.drew | apply IsS75.set_1 | apply IsS75.set_2) | exact HI246.out)) hb)
            have n3_ := Aside0.mk (below_step (by repeat (first | (with_reducible first | exact HB.out | apply below_alloc | apply pw_below_drewN | apply below_drew1 | refine below_set ?_ (IsS75.ge HI246.out)) | exact HB.out)) hb)
            clear HO249
            clear HI246
            clear HB
            have HO249 := n0_
            have HO273 := n1_
            have HI246 := n2_
            have HB := n3_
            clear n0_ n1_ n2_ n3_
            clear hb ho37
            obtain ⟨Ao38, co38, eo38⟩ := Kd.R_slice HO273.out
            (first | subst eo38 | (injection eo38 with f1_ f2_ f3_; have f4_ := f1_.symm; have f5_ := f3_.symm; clear f1_ f2_ f3_; subst f4_; subst f5_))
            refine hK.out _ _ trivial (fun hHeld => ?_)
            clear hK K
            refine norm_ (a' := ?_) ?_ ?_
            rotate_left
            · show Act.put _ (some 16) _ = _
              simp only [Act.put, List.setIfInBounds_toArray, List.set_cons_zero, List.set_cons_succ, i64_w, i32_w]
              rfl
            refine two_ (i := 3) (j := 6) (Ni := some 17) (Nj := some 20) #[true, true, true, true, false, true, false, false, false, false] #[true, true, true, false, false, true, true, false, false, false] rfl rfl rfl rfl (two_of HT_.out (by kernel_rfl)) (by decide) (by decide) (fun K hK => ?_) (fun K hK => ?_)
            · skip
              refine goes_ Tryd.func31 (by kernel_rfl) rfl #[.pointer (some ⟨g246, 0, none⟩), .slice Ao38 y271.length co38] (by rfl) rfl rfl (by (try simp only [List.map_toArray, List.map_cons, List.map_nil]); first | done | rfl | (simp only [List.length_drop, List.length_take]; rfl)) ?_
              with_reducible refine (spec_l1PickInt.calls g246 t243 t253 t254 _ _ y271 t274 t275 t276 w _ ?side1 ?side2 ?side3 ?side4 ?side5 A28.out).mono ?_
              (case side1 => repeat (first | (with_reducible first | exact HI246.out | apply IsS75.alloc | apply IsS75.drewN | apply IsS75.drew | apply IsS75.set_1 | apply IsS75.set_2) | exact HI246.out))
              (case side2 => repeat (first | (with_reducible first | exact HB.out | apply below_alloc | apply pw_below_drewN | apply below_drew1 | refine below_set ?_ (IsS75.ge HI246.out)) | exact HB.out))
              (case side3 => repeat (first | exact (Kd.R_reads' HO273.out).2.2 | (with_reducible refine Kd.C_alloc ?_ _) | (with_reducible refine Kd.C_drewN ?_ _) | (with_reducible refine Kd.C_drew ?_)))
              (case side4 => exact (Kd.R_reads' HO273.out).2.1)
              (case side5 => exact far_slice (IsS75.own_ne HI246.out HO273.out (by decide)))
              rintro e w39 ⟨rfl, hi, hb, hk⟩
              refine ⟨_, rfl, ?_⟩
              have n0_ := Aside0.mk (Kd.R_mono (Kd.R_keep (IsS75.apart (show IsS75 w _ g246 t243 t253 t254 from by repeat (first | (with_reducible first | exact HI246.out | apply IsS75.alloc | apply IsS75.drewN | apply IsS75.drew | apply IsS75.set_1 | apply IsS75.set_2) | exact HI246.out)) (by (with_reducible repeat (first | apply Kd.R_alloc | apply Kd.R_drewN | apply Kd.R_drew)); exact HO249.out) (by decide)) hk (fun _ h => h.2)) (fun _ h => h.1))
              have n1_ := Aside0.mk (Kd.R_mono (Kd.R_keep (IsS75.apart (show IsS75 w _ g246 t243 t253 t254 from by repeat (first | (with_reducible first | exact HI246.out | apply IsS75.alloc | apply IsS75.drewN | apply IsS75.drew | apply IsS75.set_1 | apply IsS75.set_2) | exact HI246.out)) (by (with_reducible repeat (first | apply Kd.R_alloc | apply Kd.R_drewN | apply Kd.R_drew)); exact HO273.out) (by decide)) hk (fun _ h => h.2)) (fun _ h => h.1))
              have n2_ := Aside0.mk (hb)
              have n3_ := Aside0.mk (hi)
              clear HO249
              clear HO273
              clear HB
              clear HI246
              have HO249 := n0_
              have HO273 := n1_
              have HB := n2_
              have HI246 := n3_
              clear n0_ n1_ n2_ n3_
              (try clear hb)
              (try clear hb2)
              (try clear hk)
              (try clear hi)
              refine hK.out _ _ trivial (fun hHeld => ?_)
              clear hK K
              refine norm_ (a' := ?_) ?_ ?_
              rotate_left
              · show Act.put _ (some 17) _ = _
                simp only [Act.put, List.setIfInBounds_toArray, List.set_cons_zero, List.set_cons_succ, i64_w, i32_w]
                rfl
              refine pure_ (i := 4) (N := some 18) (v := ?_) (a' := ?_) #[true, true, true, true, true, true, false, false, false, false] rfl rfl (any_of HT_.out (by kernel_rfl)) (fun _ _ _ h => h) (Or.inl ⟨by rfl, ?_⟩) ?_ ?_
              rotate_left
              · intro w'
                go_simp
                with_reducible rfl
              rotate_left
              · simp only [Act.put, List.setIfInBounds_toArray, List.set_cons_zero, List.set_cons_succ, i64_w, i32_w]
                rfl
              refine one_ (i := 6) (N := some 20) #[true, true, true, true, true, true, true, false, false, false] rfl rfl (one_of HT_.out (by kernel_rfl)) (by decide) (fun K hK => ?_)
              refine Kd.R_lit_step (Kd.int .i64) _ 3 ?hg (N := 20) ?hd (xs := ([0, 1, 2, 5, 100, 254, 255, 256, (-1)] : List Int)) (inner := [.int .i64 0, .int .i64 1, .int .i64 2, .int .i64 5, .int .i64 100, .int .i64 254, .int .i64 255, .int .i64 256, .int .i64 (-1)]) (ok := fun _ => True) (okp := fun _ => True) ?hr ?hp (fun _ hk => hk) trivial (Below.refl _ _) (Nat.le_refl _) (by simp) ?_; (case hd => rfl); (case hg => rfl); (case hr => first | (go_simp; done) | (go_simp; rfl)); (case hp => exact (Reps.one (show Kd.M (Kd.int .i64) _ _ _ 0 [.int .i64 0] from rfl) (Reps.one (show Kd.M (Kd.int .i64) _ _ _ 1 [.int .i64 1] from rfl) (Reps.one (show Kd.M (Kd.int .i64) _ _ _ 2 [.int .i64 2] from rfl) (Reps.one (show Kd.M (Kd.int .i64) _ _ _ 5 [.int .i64 5] from rfl) (Reps.one (show Kd.M (Kd.int .i64) _ _ _ 100 [.int .i64 100] from rfl) (Reps.one (show Kd.M (Kd.int .i64) _ _ _ 254 [.int .i64 254] from rfl) (Reps.one (show Kd.M (Kd.int .i64) _ _ _ 255 [.int .i64 255] from rfl) (Reps.one (show Kd.M (Kd.int .i64) _ _ _ 256 [.int .i64 256] from rfl) (Reps.one (show Kd.M (Kd.int .i64) _ _ _ (-1) [.int .i64 (-1)] from rfl) (Reps.none _ _)))))))))))
              intro v281 w40 ho41 hb hg_ hnew_
              clear hg_ hnew_
              (first | rw [← Ny280.out] at ho41 | (simp only [Int.reduceToNat] at ho41; rw [← Ny280.out] at ho41))
              have n0_ := Aside0.mk (Kd.R_elder' (by (with_reducible repeat (first | apply Kd.R_alloc | apply Kd.R_drewN | apply Kd.R_drew)); exact HO249.out) (Kd.R_base ho41) hb)
              have n1_ := Aside0.mk (Kd.R_elder' (by (with_reducible repeat (first | apply Kd.R_alloc | apply Kd.R_drewN | apply Kd.R_drew)); exact HO273.out) (Kd.R_base ho41) hb)
              have n2_ := Aside0.mk (Kd.R_lower (Kd.R_new' (Kd.R_new' ho41 (Kd.R_lt (by (with_reducible repeat (first | apply Kd.R_alloc | apply Kd.R_drewN | apply Kd.R_drew)); exact HO249.out))) (Kd.R_lt (by (with_reducible repeat (first | apply Kd.R_alloc | apply Kd.R_drewN | apply Kd.R_drew)); exact HO273.out))) (below_size (by repeat (first | (with_reducible first | exact HB.out | apply below_alloc | apply pw_below_drewN | apply below_drew1 | refine below_set ?_ (IsS75.ge HI246.out)) | exact HB.out))))
              have n3_ := Aside0.mk (IsS75.below (by repeat (first | (with_reducible first | exact HI246.out | apply IsS75.alloc | apply IsS75.drewN | apply IsS75.drew | apply IsS75.set_1 | apply IsS75.set_2) | exact HI246.out)) hb)
              have n4_ := Aside0.mk (below_step (by repeat (first | (with_reducible first | exact HB.out | apply below_alloc | apply pw_below_drewN | apply below_drew1 | refine below_set ?_ (IsS75.ge HI246.out)) | exact HB.out)) hb)
              clear HO249
              clear HO273
              clear HI246
              clear HB
              have HO249 := n0_
              have HO273 := n1_
              have HO282 := n2_
              have HI246 := n3_
              have HB := n4_
              clear n0_ n1_ n2_ n3_ n4_
              clear hb ho41
              refine hK.out _ _ trivial (fun hHeld => ?_)
              clear hK K
              refine norm_ (a' := ?_) ?_ ?_
              rotate_left
              · show Act.put _ (some 20) _ = _
                simp only [Act.put, List.setIfInBounds_toArray, List.set_cons_zero, List.set_cons_succ, i64_w, i32_w]
                rfl
              exact norm_ (by simp only [putAll, Act.put, List.setIfInBounds_toArray, List.set_cons_zero, List.set_cons_succ]) (hCont (.slice Ao38 y271.length co38, v281) _ ⟨(by (with_reducible repeat (first | apply Kd.R_alloc | apply Kd.R_drewN | apply Kd.R_drew)); exact Kd.R_mono HO249.out (fun _ hk => ⟨hk.1.2, hk.2⟩)), (by (with_reducible repeat (first | apply Kd.R_alloc | apply Kd.R_drewN | apply Kd.R_drew)); exact Kd.R_mono HO273.out (fun _ hk => ⟨hk.1.2, hk.2⟩)), (by (with_reducible repeat (first | apply Kd.R_alloc | apply Kd.R_drewN | apply Kd.R_drew)); exact Kd.R_mono HO282.out (fun _ hk => ⟨hk.1.2, hk.2⟩)), (by repeat (first | (with_reducible first | exact HI246.out | apply IsS75.alloc | apply IsS75.drewN | apply IsS75.drew | apply IsS75.set_1 | apply IsS75.set_2) | exact HI246.out)), (by repeat (first | (with_reducible first | exact HB.out | apply below_alloc | apply pw_below_drewN | apply below_drew1 | refine below_set ?_ (IsS75.ge HI246.out)) | exact HB.out))⟩)
            · skip
              refine Kd.R_lit_step (Kd.int .i64) _ 3 ?hg (N := 20) ?hd (xs := ([0, 1, 2, 5, 100, 254, 255, 256, (-1)] : List Int)) (inner := [.int .i64 0, .int .i64 1, .int .i64 2, .int .i64 5, .int .i64 100, .int .i64 254, .int .i64 255, .int .i64 256, .int .i64 (-1)]) (ok := fun _ => True) (okp := fun _ => True) ?hr ?hp (fun _ hk => hk) trivial (Below.refl _ _) (Nat.le_refl _) (by simp) ?_; (case hd => rfl); (case hg => rfl); (case hr => first | (go_simp; done) | (go_simp; rfl)); (case hp => exact (Reps.one (show Kd.M (Kd.int .i64) _ _ _ 0 [.int .i64 0] from rfl) (Reps.one (show Kd.M (Kd.int .i64) _ _ _ 1 [.int .i64 1] from rfl) (Reps.one (show Kd.M (Kd.int .i64) _ _ _ 2 [.int .i64 2] from rfl) (Reps.one (show Kd.M (Kd.int .i64) _ _ _ 5 [.int .i64 5] from rfl) (Reps.one (show Kd.M (Kd.int .i64) _ _ _ 100 [.int .i64 100] from rfl) (Reps.one (show Kd.M (Kd.int .i64) _ _ _ 254 [.int .i64 254] from rfl) (Reps.one (show Kd.M (Kd.int .i64) _ _ _ 255 [.int .i64 255] from rfl) (Reps.one (show Kd.M (Kd.int .i64) _ _ _ 256 [.int .i64 256] from rfl) (Reps.one (show Kd.M (Kd.int .i64) _ _ _ (-1) [.int .i64 (-1)] from rfl) (Reps.none _ _)))))))))))
              intro v281 w38 ho39 hb hg_ hnew_
              clear hg_ hnew_
              (first | rw [← Ny280.out] at ho39 | (simp only [Int.reduceToNat] at ho39; rw [← Ny280.out] at ho39))
              have n0_ := Aside0.mk (Kd.R_elder' (by (with_reducible repeat (first | apply Kd.R_alloc | apply Kd.R_drewN | apply Kd.R_drew)); exact HO249.out) (Kd.R_base ho39) hb)
              have n1_ := Aside0.mk (Kd.R_elder' (by (with_reducible repeat (first | apply Kd.R_alloc | apply Kd.R_drewN | apply Kd.R_drew)); exact HO273.out) (Kd.R_base ho39) hb)
              have n2_ := Aside0.mk (Kd.R_lower (Kd.R_new' (Kd.R_new' ho39 (Kd.R_lt (by (with_reducible repeat (first | apply Kd.R_alloc | apply Kd.R_drewN | apply Kd.R_drew)); exact HO249.out))) (Kd.R_lt (by (with_reducible repeat (first | apply Kd.R_alloc | apply Kd.R_drewN | apply Kd.R_drew)); exact HO273.out))) (below_size (by repeat (first | (with_reducible first | exact HB.out | apply below_alloc | apply pw_below_drewN | apply below_drew1 | refine below_set ?_ (IsS75.ge HI246.out)) | exact HB.out))))
              have n3_ := Aside0.mk (IsS75.below (by repeat (first | (with_reducible first | exact HI246.out | apply IsS75.alloc | apply IsS75.drewN | apply IsS75.drew | apply IsS75.set_1 | apply IsS75.set_2) | exact HI246.out)) hb)
              have n4_ := Aside0.mk (below_step (by repeat (first | (with_reducible first | exact HB.out | apply below_alloc | apply pw_below_drewN | apply below_drew1 | refine below_set ?_ (IsS75.ge HI246.out)) | exact HB.out)) hb)
              clear HO249
              clear HO273
              clear HI246
              clear HB
              have HO249 := n0_
              have HO273 := n1_
              have HO282 := n2_
              have HI246 := n3_
              have HB := n4_
              clear n0_ n1_ n2_ n3_ n4_
              clear hb ho39
              obtain ⟨Ao40, co40, eo40⟩ := Kd.R_slice HO273.out
              (first | subst eo40 | (injection eo40 with f1_ f2_ f3_; have f4_ := f1_.symm; have f5_ := f3_.symm; clear f1_ f2_ f3_; subst f4_; subst f5_))
              refine hK.out _ _ trivial (fun hHeld => ?_)
              clear hK K
              refine norm_ (a' := ?_) ?_ ?_
              rotate_left
              · show Act.put _ (some 20) _ = _
                simp only [Act.put, List.setIfInBounds_toArray, List.set_cons_zero, List.set_cons_succ, i64_w, i32_w]
                rfl
              refine one_ (i := 3) (N := some 17) #[true, true, true, true, false, true, true, false, false, false] rfl rfl (one_of HT_.out (by kernel_rfl)) (by decide) (fun K hK => ?_)
              refine goes_ Tryd.func31 (by kernel_rfl) rfl #[.pointer (some ⟨g246, 0, none⟩), .slice Ao40 y271.length co40] (by rfl) rfl rfl (by (try simp only [List.map_toArray, List.map_cons, List.map_nil]); first | done | rfl | (simp only [List.length_drop, List.length_take]; rfl)) ?_
              with_reducible refine (spec_l1PickInt.calls g246 t243 t253 t254 _ _ y271 t274 t275 t276 w _ ?side1 ?side2 ?side3 ?side4 ?side5 A28.out).mono ?_
              (case side1 => repeat (first | (with_reducible first | exact HI246.out | apply IsS75.alloc | apply IsS75.drewN | apply IsS75.drew | apply IsS75.set_1 | apply IsS75.set_2) | exact HI246.out))
              (case side2 => repeat (first | (with_reducible first | exact HB.out | apply below_alloc | apply pw_below_drewN | apply below_drew1 | refine below_set ?_ (IsS75.ge HI246.out)) | exact HB.out))
              (case side3 => repeat (first | exact (Kd.R_reads' HO273.out).2.2 | (with_reducible refine Kd.C_alloc ?_ _) | (with_reducible refine Kd.C_drewN ?_ _) | (with_reducible refine Kd.C_drew ?_)))
              (case side4 => exact (Kd.R_reads' HO273.out).2.1)
              (case side5 => exact far_slice (IsS75.own_ne HI246.out HO273.out (by decide)))
              rintro e w41 ⟨rfl, hi, hb, hk⟩
              refine ⟨_, rfl, ?_⟩
              have n0_ := Aside0.mk (Kd.R_mono (Kd.R_keep (IsS75.apart (show IsS75 w _ g246 t243 t253 t254 from by repeat (first | (with_reducible first | exact HI246.out | apply IsS75.alloc | apply IsS75.drewN | apply IsS75.drew | apply IsS75.set_1 | apply IsS75.set_2) | exact HI246.out)) (by (with_reducible repeat (first | apply Kd.R_alloc | apply Kd.R_drewN | apply Kd.R_drew)); exact HO249.out) (by decide)) hk (fun _ h => h.2)) (fun _ h => h.1))
              have n1_ := Aside0.mk (Kd.R_mono (Kd.R_keep (IsS75.apart (show IsS75 w _ g246 t243 t253 t254 from by repeat (first | (with_reducible first | exact HI246.out | apply IsS75.alloc | apply IsS75.drewN | apply IsS75.drew | apply IsS75.set_1 | apply IsS75.set_2) | exact HI246.out)) (by (with_reducible repeat (first | apply Kd.R_alloc | apply Kd.R_drewN | apply Kd.R_drew)); exact HO273.out) (by decide)) hk (fun _ h => h.2)) (fun _ h => h.1))
              have n2_ := Aside0.mk (Kd.R_mono (Kd.R_keep (IsS75.apart (show IsS75 w _ g246 t243 t253 t254 from by repeat (first | (with_reducible first | exact HI246.out | apply IsS75.alloc | apply IsS75.drewN | apply IsS75.drew | apply IsS75.set_1 | apply IsS75.set_2) | exact HI246.out)) (by (with_reducible repeat (first | apply Kd.R_alloc | apply Kd.R_drewN | apply Kd.R_drew)); exact HO282.out) (by decide)) hk (fun _ h => h.2)) (fun _ h => h.1))
              have n3_ := Aside0.mk (hb)
              have n4_ := Aside0.mk (hi)
              clear HO249
              clear HO273
              clear HO282
              clear HB
              clear HI246
              have HO249 := n0_
              have HO273 := n1_
              have HO282 := n2_
              have HB := n3_
              have HI246 := n4_
              clear n0_ n1_ n2_ n3_ n4_
              (try clear hb)
              (try clear hb2)
              (try clear hk)
              (try clear hi)
              refine hK.out _ _ trivial (fun hHeld => ?_)
              clear hK K
              refine norm_ (a' := ?_) ?_ ?_
              rotate_left
              · show Act.put _ (some 17) _ = _
                simp only [Act.put, List.setIfInBounds_toArray, List.set_cons_zero, List.set_cons_succ, i64_w, i32_w]
                rfl
              refine pure_ (i := 4) (N := some 18) (v := ?_) (a' := ?_) #[true, true, true, true, true, true, true, false, false, false] rfl rfl (any_of HT_.out (by kernel_rfl)) (fun _ _ _ h => h) (Or.inl ⟨by rfl, ?_⟩) ?_ ?_
              rotate_left
              · intro w'
                go_simp
                with_reducible rfl
              rotate_left
              · simp only [Act.put, List.setIfInBounds_toArray, List.set_cons_zero, List.set_cons_succ, i64_w, i32_w]
                rfl
              exact norm_ (by simp only [putAll, Act.put, List.setIfInBounds_toArray, List.set_cons_zero, List.set_cons_succ]) (hCont (.slice Ao40 y271.length co40, v281) _ ⟨(by (with_reducible repeat (first | apply Kd.R_alloc | apply Kd.R_drewN | apply Kd.R_drew)); exact Kd.R_mono HO249.out (fun _ hk => ⟨hk.1.2, hk.2⟩)), (by (with_reducible repeat (first | apply Kd.R_alloc | apply Kd.R_drewN | apply Kd.R_drew)); exact Kd.R_mono HO273.out (fun _ hk => ⟨hk.1.2, hk.2⟩)), (by (with_reducible repeat (first | apply Kd.R_alloc | apply Kd.R_drewN | apply Kd.R_drew)); exact Kd.R_mono HO282.out (fun _ hk => ⟨hk.1.2, hk.2⟩)), (by repeat (first | (with_reducible first | exact HI246.out | apply IsS75.alloc | apply IsS75.drewN | apply IsS75.drew | apply IsS75.set_1 | apply IsS75.set_2) | exact HI246.out)), (by repeat (first | (with_reducible first | exact HB.out | apply below_alloc | apply pw_below_drewN | apply below_drew1 | refine below_set ?_ (IsS75.ge HI246.out)) | exact HB.out))⟩)
          · skip
            refine Kd.R_lit_step (Kd.int .i64) _ 3 ?hg (N := 20) ?hd (xs := ([0, 1, 2, 5, 100, 254, 255, 256, (-1)] : List Int)) (inner := [.int .i64 0, .int .i64 1, .int .i64 2, .int .i64 5, .int .i64 100, .int .i64 254, .int .i64 255, .int .i64 256, .int .i64 (-1)]) (ok := fun _ => True) (okp := fun _ => True) ?hr ?hp (fun _ hk => hk) trivial (Below.refl _ _) (Nat.le_refl _) (by simp) ?_; (case hd => rfl); (case hg => rfl); (case hr => first | (go_simp; done) | (go_simp; rfl)); (case hp => exact (Reps.one (show Kd.M (Kd.int .i64) _ _ _ 0 [.int .i64 0] from rfl) (Reps.one (show Kd.M (Kd.int .i64) _ _ _ 1 [.int .i64 1] from rfl) (Reps.one (show Kd.M (Kd.int .i64) _ _ _ 2 [.int .i64 2] from rfl) (Reps.one (show Kd.M (Kd.int .i64) _ _ _ 5 [.int .i64 5] from rfl) (Reps.one (show Kd.M (Kd.int .i64) _ _ _ 100 [.int .i64 100] from rfl) (Reps.one (show Kd.M (Kd.int .i64) _ _ _ 254 [.int .i64 254] from rfl) (Reps.one (show Kd.M (Kd.int .i64) _ _ _ 255 [.int .i64 255] from rfl) (Reps.one (show Kd.M (Kd.int .i64) _ _ _ 256 [.int .i64 256] from rfl) (Reps.one (show Kd.M (Kd.int .i64) _ _ _ (-1) [.int .i64 (-1)] from rfl) (Reps.none _ _)))))))))))
            intro v281 w36 ho37 hb hg_ hnew_
            clear hg_ hnew_
            (first | rw [← Ny280.out] at ho37 | (simp only [Int.reduceToNat] at ho37; rw [← Ny280.out] at ho37))
            have n0_ := Aside0.mk (Kd.R_elder' (by (with_reducible repeat (first | apply Kd.R_alloc | apply Kd.R_drewN | apply Kd.R_drew)); exact HO249.out) (Kd.R_base ho37) hb)
            have n1_ := Aside0.mk (Kd.R_lower (Kd.R_new' ho37 (Kd.R_lt (by (with_reducible repeat (first | apply Kd.R_alloc | apply Kd.R_drewN | apply Kd.R_drew)); exact HO249.out))) (below_size (by repeat (first | (with_reducible first | exact HB.out | apply below_alloc | apply pw_below_drewN | apply below_drew1 | refine below_set ?_ (IsS75.ge HI246.out)) | exact HB.out))))
            have n2_ := Aside0.mk (IsS75.below (by repeat (first | (with_reducible first | exact HI246.out | apply IsS75.alloc | apply IsS75.drewN | apply IsS75.drew | apply IsS75.set_1 | apply IsS75.set_2) | exact HI246.out)) hb)
            have n3_ := Aside0.mk (below_step (by repeat (first | (with_reducible first | exact HB.out | apply below_alloc | apply pw_below_drewN | apply below_drew1 | refine below_set ?_ (IsS75.ge HI246.out)) | exact HB.out)) hb)
            clear HO249
            clear HI246
            clear HB
            have HO249 := n0_
            have HO282 := n1_
            have HI246 := n2_
            have HB := n3_
            clear n0_ n1_ n2_ n3_
            clear hb ho37
            refine hK.out _ _ trivial (fun hHeld => ?_)
            clear hK K
            refine norm_ (a' := ?_) ?_ ?_
            rotate_left
            · show Act.put _ (some 20) _ = _
              simp only [Act.put, List.setIfInBounds_toArray, List.set_cons_zero, List.set_cons_succ, i64_w, i32_w]
              rfl
            refine one_ (i := 2) (N := some 16) #[true, true, true, false, false, true, true, false, false, false] rfl rfl (one_of HT_.out (by kernel_rfl)) (by decide) (fun K hK => ?_)
            refine Kd.R_lit_step (Kd.int .i64) _ 3 ?hg (N := 16) ?hd (xs := ([256, 3, 9, 0] : List Int)) (inner := [.int .i64 256, .int .i64 3, .int .i64 9, .int .i64 0]) (ok := fun _ => True) (okp := fun _ => True) ?hr ?hp (fun _ hk => hk) trivial (Below.refl _ _) (Nat.le_refl _) (by simp) ?_; (case hd => rfl); (case hg => rfl); (case hr => first | (go_simp; done) | (go_simp; rfl)); (case hp => exact (Reps.one (show Kd.M (Kd.int .i64) _ _ _ 256 [.int .i64 256] from rfl) (Reps.one (show Kd.M (Kd.int .i64) _ _ _ 3 [.int .i64 3] from rfl) (Reps.one (show Kd.M (Kd.int .i64) _ _ _ 9 [.int .i64 9] from rfl) (Reps.one (show Kd.M (Kd.int .i64) _ _ _ 0 [.int .i64 0] from rfl) (Reps.none _ _))))))
            intro v272 w38 ho39 hb hg_ hnew_
            clear hg_ hnew_
            (first | rw [← Ny271.out] at ho39 | (simp only [Int.reduceToNat] at ho39; rw [← Ny271.out] at ho39))
            have n0_ := Aside0.mk (Kd.R_elder' (by (with_reducible repeat (first | apply Kd.R_alloc | apply Kd.R_drewN | apply Kd.R_drew)); exact HO249.out) (Kd.R_base ho39) hb)
            have n1_ := Aside0.mk (Kd.R_elder' (by (with_reducible repeat (first | apply Kd.R_alloc | apply Kd.R_drewN | apply Kd.R_drew)); exact HO282.out) (Kd.R_base ho39) hb)
            have n2_ := Aside0.mk (Kd.R_lower (Kd.R_new' (Kd.R_new' ho39 (Kd.R_lt (by (with_reducible repeat (first | apply Kd.R_alloc | apply Kd.R_drewN | apply Kd.R_drew)); exact HO249.out))) (Kd.R_lt (by (with_reducible repeat (first | apply Kd.R_alloc | apply Kd.R_drewN | apply Kd.R_drew)); exact HO282.out))) (below_size (by repeat (first | (with_reducible first | exact HB.out | apply below_alloc | apply pw_below_drewN | apply below_drew1 | refine below_set ?_ (IsS75.ge HI246.out)) | exact HB.out))))
            have n3_ := Aside0.mk (IsS75.below (by repeat (first | (with_reducible first | exact HI246.out | apply IsS75.alloc | apply IsS75.drewN | apply IsS75.drew | apply IsS75.set_1 | apply IsS75.set_2) | exact HI246.out)) hb)
            have n4_ := Aside0.mk (below_step (by repeat (first | (with_reducible first | exact HB.out | apply below_alloc | apply pw_below_drewN | apply below_drew1 | refine below_set ?_ (IsS75.ge HI246.out)) | exact HB.out)) hb)
            clear HO249
            clear HO282
            clear HI246
            clear HB
            have HO249 := n0_
            have HO282 := n1_
            have HO273 := n2_
            have HI246 := n3_
            have HB := n4_
            clear n0_ n1_ n2_ n3_ n4_
            clear hb ho39
            obtain ⟨Ao40, co40, eo40⟩ := Kd.R_slice HO273.out
            (first | subst eo40 | (injection eo40 with f1_ f2_ f3_; have f4_ := f1_.symm; have f5_ := f3_.symm; clear f1_ f2_ f3_; subst f4_; subst f5_))
            refine hK.out _ _ trivial (fun hHeld => ?_)
            clear hK K
            refine norm_ (a' := ?_) ?_ ?_
            rotate_left
            · show Act.put _ (some 16) _ = _
              simp only [Act.put, List.setIfInBounds_toArray, List.set_cons_zero, List.set_cons_succ, i64_w, i32_w]
              rfl
            refine one_ (i := 3) (N := some 17) #[true, true, true, true, false, true, true, false, false, false] rfl rfl (one_of HT_.out (by kernel_rfl)) (by decide) (fun K hK => ?_)
            refine goes_ Tryd.func31 (by kernel_rfl) rfl #[.pointer (some ⟨g246, 0, none⟩), .slice Ao40 y271.length co40] (by rfl) rfl rfl (by (try simp only [List.map_toArray, List.map_cons, List.map_nil]); first | done | rfl | (simp only [List.length_drop, List.length_take]; rfl)) ?_
            with_reducible refine (spec_l1PickInt.calls g246 t243 t253 t254 _ _ y271 t274 t275 t276 w _ ?side1 ?side2 ?side3 ?side4 ?side5 A28.out).mono ?_
            (case side1 => repeat (first | (with_reducible first | exact HI246.out | apply IsS75.alloc | apply IsS75.drewN | apply IsS75.drew | apply IsS75.set_1 | apply IsS75.set_2) | exact HI246.out))
            (case side2 => repeat (first | (with_reducible first | exact HB.out | apply below_alloc | apply pw_below_drewN | apply below_drew1 | refine below_set ?_ (IsS75.ge HI246.out)) | exact HB.out))
            (case side3 => repeat (first | exact (Kd.R_reads' HO273.out).2.2 | (with_reducible refine Kd.C_alloc ?_ _) | (with_reducible refine Kd.C_drewN ?_ _) | (with_reducible refine Kd.C_drew ?_)))
            (case side4 => exact (Kd.R_reads' HO273.out).2.1)
            (case side5 => exact far_slice (IsS75.own_ne HI246.out HO273.out (by decide)))
            rintro e w41 ⟨rfl, hi, hb, hk⟩
            refine ⟨_, rfl, ?_⟩
            have n0_ := Aside0.mk (Kd.R_mono (Kd.R_keep (IsS75.apart (show IsS75 w _ g246 t243 t253 t254 from by repeat (first | (with_reducible first | exact HI246.out | apply IsS75.alloc | apply IsS75.drewN | apply IsS75.drew | apply IsS75.set_1 | apply IsS75.set_2) | exact HI246.out)) (by (with_reducible repeat (first | apply Kd.R_alloc | apply Kd.R_drewN | apply Kd.R_drew)); exact HO249.out) (by decide)) hk (fun _ h => h.2)) (fun _ h => h.1))
            have n1_ := Aside0.mk (Kd.R_mono (Kd.R_keep (IsS75.apart (show IsS75 w _ g246 t243 t253 t254 from by repeat (first | (with_reducible first | exact HI246.out | apply IsS75.alloc | apply IsS75.drewN | apply IsS75.drew | apply IsS75.set_1 | apply IsS75.set_2) | exact HI246.out)) (by (with_reducible repeat (first | apply Kd.R_alloc | apply Kd.R_drewN | apply Kd.R_drew)); exact HO282.out) (by decide)) hk (fun _ h => h.2)) (fun _ h => h.1))
            have n2_ := Aside0.mk (Kd.R_mono (Kd.R_keep (IsS75.apart (show IsS75 w _ g246 t243 t253 t254 from by repeat (first | (with_reducible first | exact HI246.out | apply IsS75.alloc | apply IsS75.drewN | apply IsS75.drew | apply IsS75.set_1 | apply IsS75.set_2) | exact HI246.out)) (by (with_reducible repeat (first | apply Kd.R_alloc | apply Kd.R_drewN | apply Kd.R_drew)); exact HO273.out) (by decide)) hk (fun _ h => h.2)) (fun _ h => h.1))
            have n3_ := Aside0.mk (hb)
            have n4_ := Aside0.mk (hi)
            clear HO249
            clear HO282
            clear HO273
            clear HB
            clear HI246
            have HO249 := n0_
            have HO282 := n1_
            have HO273 := n2_
            have HB := n3_
            have HI246 := n4_
            clear n0_ n1_ n2_ n3_ n4_
            (try clear hb)
            (try clear hb2)
            (try clear hk)
            (try clear hi)
            refine hK.out _ _ trivial (fun hHeld => ?_)
            clear hK K
            refine norm_ (a' := ?_) ?_ ?_
            rotate_left
            · show Act.put _ (some 17) _ = _
              simp only [Act.put, List.setIfInBounds_toArray, List.set_cons_zero, List.set_cons_succ, i64_w, i32_w]
              rfl
            refine pure_ (i := 4) (N := some 18) (v := ?_) (a' := ?_) #[true, true, true, true, true, true, true, false, false, false] rfl rfl (any_of HT_.out (by kernel_rfl)) (fun _ _ _ h => h) (Or.inl ⟨by rfl, ?_⟩) ?_ ?_
            rotate_left
            · intro w'
              go_simp
              with_reducible rfl
            rotate_left
            · simp only [Act.put, List.setIfInBounds_toArray, List.set_cons_zero, List.set_cons_succ, i64_w, i32_w]
              rfl
            exact norm_ (by simp only [putAll, Act.put, List.setIfInBounds_toArray, List.set_cons_zero, List.set_cons_succ]) (hCont (.slice Ao40 y271.length co40, v281) _ ⟨(by (with_reducible repeat (first | apply Kd.R_alloc | apply Kd.R_drewN | apply Kd.R_drew)); exact Kd.R_mono HO249.out (fun _ hk => ⟨hk.2, hk.1.2⟩)), (by (with_reducible repeat (first | apply Kd.R_alloc | apply Kd.R_drewN | apply Kd.R_drew)); exact Kd.R_mono HO273.out (fun _ hk => ⟨hk.1.2, hk.2⟩)), (by (with_reducible repeat (first | apply Kd.R_alloc | apply Kd.R_drewN | apply Kd.R_drew)); exact Kd.R_mono HO282.out (fun _ hk => ⟨hk.1.2, hk.2⟩)), (by repeat (first | (with_reducible first | exact HI246.out | apply IsS75.alloc | apply IsS75.drewN | apply IsS75.drew | apply IsS75.set_1 | apply IsS75.set_2) | exact HI246.out)), (by repeat (first | (with_reducible first | exact HB.out | apply below_alloc | apply pw_below_drewN | apply below_drew1 | refine below_set ?_ (IsS75.ge HI246.out)) | exact HB.out))⟩)
        rintro ⟨v272, v281⟩ w42 ⟨h0_, h1_, h2_, h3_, h4_⟩
        have n0_ : Aside0 (Kd.R (Kd.int .i64) 3 w42 w.heap.size (fun k_ => some k_ ≠ (v272 : Value).ownBlock ∧ some k_ ≠ (v281 : Value).ownBlock) (.slice Ao43 t247.length co43) t247) := ⟨h0_⟩
        have n1_ : Aside0 (Kd.R (Kd.int .i64) 3 w42 w.heap.size (fun k_ => some k_ ≠ ((.slice Ao43 t247.length co43) : Value).ownBlock ∧ some k_ ≠ (v281 : Value).ownBlock) v272 y271) := ⟨h1_⟩
        have n2_ : Aside0 (Kd.R (Kd.int .i64) 3 w42 w.heap.size (fun k_ => some k_ ≠ ((.slice Ao43 t247.length co43) : Value).ownBlock ∧ some k_ ≠ (v272 : Value).ownBlock) v281 y280) := ⟨h2_⟩
        have n3_ : Aside0 (IsS75 w w42 g246 t243 t275 t276) := ⟨h3_⟩
        have n4_ : Aside0 (Below w.heap.size w w42) := ⟨h4_⟩
        clear HO249
        clear HI246
        clear HB
        clear h0_ h1_ h2_ h3_ h4_
        have HO249 := n0_
        have HO273 := n1_
        have HO282 := n2_
        have HI246 := n3_
        have HB := n4_
        clear n0_ n1_ n2_ n3_ n4_
        have hHeld := trivial
        have hr44 := Kd.R_take (m := (t274 : Int).toNat) HO249.out hmA44.out
        have hy44 := hyA44.out
        rw [← Ny277.out] at hr44
        rw [← hy44] at hr44
        clear hy44 HO249
        have HO279 := Aside0.mk hr44
        clear hr44
        obtain ⟨Ao45, co45, eo45⟩ := Kd.R_slice HO282.out
        (first | subst eo45 | (injection eo45 with f1_ f2_ f3_; have f4_ := f1_.symm; have f5_ := f3_.symm; clear f1_ f2_ f3_; subst f4_; subst f5_))
        refine norm_ (a' := ?_) ?_ ?_
        rotate_left
        · simp only [putAll, Act.put, List.setIfInBounds_toArray, List.set_cons_zero, List.set_cons_succ]
          rfl
        refine one_ (i := 7) (N := some 21) #[true, true, true, true, true, true, true, true, false, false] rfl rfl (one_of HT_.out (by kernel_rfl)) (by decide) (fun K hK => ?_)
        refine goes_ Tryd.func31 (by kernel_rfl) rfl #[.pointer (some ⟨g246, 0, none⟩), .slice Ao45 y280.length co45] (by rfl) rfl rfl (by (try simp only [List.map_toArray, List.map_cons, List.map_nil]); first | done | rfl | (simp only [List.length_drop, List.length_take]; rfl)) ?_
        with_reducible refine (spec_l1PickInt.calls g246 t243 t275 t276 _ _ y280 t283 t284 t285 w _ ?side1 ?side2 ?side3 ?side4 ?side5 A31.out).mono ?_
        (case side1 => repeat (first | (with_reducible first | exact HI246.out | apply IsS75.alloc | apply IsS75.drewN | apply IsS75.drew | apply IsS75.set_1 | apply IsS75.set_2) | exact HI246.out))
        (case side2 => repeat (first | (with_reducible first | exact HB.out | apply below_alloc | apply pw_below_drewN | apply below_drew1 | refine below_set ?_ (IsS75.ge HI246.out)) | exact HB.out))
        (case side3 => repeat (first | exact (Kd.R_reads' HO282.out).2.2 | (with_reducible refine Kd.C_alloc ?_ _) | (with_reducible refine Kd.C_drewN ?_ _) | (with_reducible refine Kd.C_drew ?_)))
        (case side4 => exact (Kd.R_reads' HO282.out).2.1)
        (case side5 => exact far_slice (IsS75.own_ne HI246.out HO282.out (by decide)))
        rintro e w46 ⟨rfl, hi, hb, hk⟩
        refine ⟨_, rfl, ?_⟩
        have n0_ := Aside0.mk (Kd.R_mono (Kd.R_keep (IsS75.apart (show IsS75 w _ g246 t243 t275 t276 from by repeat (first | (with_reducible first | exact HI246.out | apply IsS75.alloc | apply IsS75.drewN | apply IsS75.drew | apply IsS75.set_1 | apply IsS75.set_2) | exact HI246.out)) (by (with_reducible repeat (first | apply Kd.R_alloc | apply Kd.R_drewN | apply Kd.R_drew)); exact HO279.out) (by decide)) hk (fun _ h => h.2)) (fun _ h => h.1))
        have n1_ := Aside0.mk (Kd.R_mono (Kd.R_keep (IsS75.apart (show IsS75 w _ g246 t243 t275 t276 from by repeat (first | (with_reducible first | exact HI246.out | apply IsS75.alloc | apply IsS75.drewN | apply IsS75.drew | apply IsS75.set_1 | apply IsS75.set_2) | exact HI246.out)) (by (with_reducible repeat (first | apply Kd.R_alloc | apply Kd.R_drewN | apply Kd.R_drew)); exact HO273.out) (by decide)) hk (fun _ h => h.2)) (fun _ h => h.1))
        have n2_ := Aside0.mk (Kd.R_mono (Kd.R_keep (IsS75.apart (show IsS75 w _ g246 t243 t275 t276 from by repeat (first | (with_reducible first | exact HI246.out | apply IsS75.alloc | apply IsS75.drewN | apply IsS75.drew | apply IsS75.set_1 | apply IsS75.set_2) | exact HI246.out)) (by (with_reducible repeat (first | apply Kd.R_alloc | apply Kd.R_drewN | apply Kd.R_drew)); exact HO282.out) (by decide)) hk (fun _ h => h.2)) (fun _ h => h.1))
        have n3_ := Aside0.mk (hb)
        have n4_ := Aside0.mk (hi)
        clear HO279
        clear HO273
        clear HO282
        clear HB
        clear HI246
        have HO279 := n0_
        have HO273 := n1_
        have HO282 := n2_
        have HB := n3_
        have HI246 := n4_
        clear n0_ n1_ n2_ n3_ n4_
        (try clear hb)
        (try clear hb2)
        (try clear hk)
        (try clear hi)
        refine hK.out _ _ trivial (fun hHeld => ?_)
        clear hK K
        refine norm_ (a' := ?_) ?_ ?_
        rotate_left
        · show Act.put _ (some 21) _ = _
          simp only [Act.put, List.setIfInBounds_toArray, List.set_cons_zero, List.set_cons_succ, i64_w, i32_w]
          rfl
        refine pure_ (i := 8) (N := some 2) (v := ?_) (a' := ?_) #[true, true, true, true, true, true, true, true, true, false] rfl rfl (any_of HT_.out (by kernel_rfl)) (fun _ _ _ h => h) (Or.inl ⟨by rfl, ?_⟩) ?_ ?_
        rotate_left
        · intro w'
          go_simp
          with_reducible rfl
        rotate_left
        · simp only [Act.put, List.setIfInBounds_toArray, List.set_cons_zero, List.set_cons_succ, i64_w, i32_w]
          rfl
        refine pure_ (i := 9) (N := some 3) (v := ?_) (a' := ?_) #[true, true, true, true, true, true, true, true, true, true] rfl rfl (any_of HT_.out (by kernel_rfl)) (fun _ _ _ h => h) (Or.inl ⟨by rfl, ?_⟩) ?_ ?_
        rotate_left
        · intro w'
          go_simp
          with_reducible rfl
        rotate_left
        · simp only [Act.put, List.setIfInBounds_toArray, List.set_cons_zero, List.set_cons_succ, i64_w, i32_w]
          rfl
        refine done_ (done_of HT_.out (by kernel_rfl)) ?_
        try go_wp2
        go_ret2
        exact ⟨_, by first | rfl | (simp [errW_none, errW_some] <;> rfl) | (simp [*, errW_none, errW_some] <;> rfl), by (with_reducible repeat (first | apply Kd.R_alloc | apply Kd.R_drewN | apply Kd.R_drew)); exact Kd.R_mono HO279.out (fun _ hk => trivial), by repeat (first | (with_reducible first | exact HB.out | apply below_alloc | apply pw_below_drewN | apply below_drew1 | refine below_set ?_ (IsS75.ge HI246.out)) | exact HB.out)⟩
      · rw [if_neg c30] at H
        exact absurd H (by simp)
    · rw [if_neg c29] at H
      exact absurd H (by simp)

/-! ### spec_DrawListing: function 14 -/
def spec_DrawListing.f (k : Nat) (l0 : List Int) : Option (List Int × Int × Int) := (spec_DrawLineOf.f k l0).bind fun bt286 => ((spec_l1New.f k l0).bind fun bt290 => ((spec_l1PickInt.f bt290.1 bt290.2.1 bt290.2.2 (([3, 9, 0, (-1), 300] : List Int))).bind fun bt297 => (some (bt286.1, bt286.2, bt297.1))))
set_option maxHeartbeats 8000000 in
set_option maxRecDepth 100000 in
theorem spec_DrawListing.calls (k : Nat) (A0 : Option Addr) (c0 : Nat) (l0 : List Int) (r1 : List Int) (r2 : Int) (r3 : Int) (w : World) (hr0 : Kd.C (Kd.int .u8) w A0 l0.length l0) (hc0 : l0.length ≤ c0) (h : spec_DrawListing.f k l0 = some (r1, r2, r3)) :
    Calls Tryd.prog 14 #[.slice A0 l0.length c0] w fun e w' => ∃ v0_ : Value, e = .returned (.tuple #[v0_, .int .i64 r2, .int .i64 r3]) ∧ Kd.R (Kd.int .i64) 3 w' w.heap.size (fun _ => True) v0_ r1 ∧ Below w.heap.size w w' := by
  have HR0 := Aside0.mk hr0
  have HC0 := Aside0.mk hc0
  clear hr0 hc0
  have HB := Aside0.mk (Below.refl w.heap.size w)
  have H : ((spec_DrawLineOf.f k l0).bind fun bt286 => ((spec_l1New.f k l0).bind fun bt290 => ((spec_l1PickInt.f bt290.1 bt290.2.1 bt290.2.2 (([3, 9, 0, (-1), 300] : List Int))).bind fun bt297 => (some (bt286.1, bt286.2, bt297.1))))) = some (r1, r2, r3) := h
  clear h
  replace H := Option.bind_eq_some_iff.mp H
  obtain ⟨⟨t286, t287⟩, A20, H⟩ := H
  replace H : ((spec_l1New.f k l0).bind fun bt290 => ((spec_l1PickInt.f bt290.1 bt290.2.1 bt290.2.2 (([3, 9, 0, (-1), 300] : List Int))).bind fun bt297 => (some (t286, t287, bt297.1)))) = some (r1, r2, r3) := H
  have A2 := Aside0.mk A20
  clear A20
  replace H := Option.bind_eq_some_iff.mp H
  obtain ⟨⟨t290, t291, t292⟩, A30, H⟩ := H
  replace H : ((spec_l1PickInt.f t290 t291 t292 (([3, 9, 0, (-1), 300] : List Int))).bind fun bt297 => (some (t286, t287, bt297.1))) = some (r1, r2, r3) := H
  have A3 := Aside0.mk A30
  clear A30
  obtain ⟨y294, hy294⟩ : ∃ y_ : List Int, y_ = (([3, 9, 0, (-1), 300] : List Int)) := ⟨_, rfl⟩
  replace H : ((spec_l1PickInt.f t290 t291 t292 y294).bind fun bt297 => (some (t286, t287, bt297.1))) = some (r1, r2, r3) := by first | (rw [hy294]; with_reducible exact H) | (have H2_ := (Option.bind_some _ _).symm.trans H; rw [hy294]; with_reducible exact H2_) | (have H2_ := (Option.bind_some _ _).symm.trans H; with_reducible exact H2_) | with_reducible exact H | (rw [hy294]; exact H) | exact H
  have Ny294 := Aside0.mk hy294
  clear hy294
  replace H := Option.bind_eq_some_iff.mp H
  obtain ⟨⟨t297, t298, t299⟩, A40, H⟩ := H
  replace H : (some (t286, t287, t297)) = some (r1, r2, r3) := H
  have A4 := Aside0.mk A40
  clear A40
  simp only [Option.some.injEq, Prod.mk.injEq] at H
  obtain ⟨rfl, rfl, rfl⟩ := H
  go_enter Tryd.func14, Tryd.ntmps14
  go_wp2_with (first | ((with_reducible refine gate_callee (f := 29) rfl ?_); refine goesL_ (some 10) rfl rfl Tryd.func29 (by kernel_rfl) rfl #[.slice A0 l0.length c0] rfl (by (try simp only [List.map_toArray, List.map_cons, List.map_nil]); first | done | rfl | (simp only [List.length_drop, List.length_take]; rfl)) ?_; (with_reducible refine (spec_DrawLineOf.calls k _ _ l0 t286 t287 _ ?side1 ?side2 A2.out).mono ?_); (case side1 => repeat (first | exact HR0.out | (with_reducible refine Kd.C_alloc ?_ _) | (with_reducible refine Kd.C_drewN ?_ _) | (with_reducible refine Kd.C_drew ?_))); (case side2 => exact HC0.out); rintro e w5 ⟨v288, rfl, ho0, hb⟩; refine ⟨_, rfl, ?_⟩; have n0_ := Aside0.mk (Kd.R_lower ho0 (below_size (by repeat (first | (with_reducible first | exact HB.out | apply below_alloc | apply pw_below_drewN | apply below_drew1) | exact HB.out)))); have n1_ := Aside0.mk (below_step (by repeat (first | (with_reducible first | exact HB.out | apply below_alloc | apply pw_below_drewN | apply below_drew1) | exact HB.out)) hb); clear HB; have HO289 := n0_; have HB := n1_; clear n0_ n1_; (try clear hb); (try clear hb2); (try clear hk); (try clear hi); (try clear ho0)) | ((with_reducible refine gate_callee (f := 30) rfl ?_); refine goesL_ (some 14) rfl rfl Tryd.func30 (by kernel_rfl) rfl #[.slice A0 l0.length c0] rfl (by (try simp only [List.map_toArray, List.map_cons, List.map_nil]); first | done | rfl | (simp only [List.length_drop, List.length_take]; rfl)) ?_; (with_reducible refine (spec_l1New.calls k _ _ l0 t290 t291 t292 w _ ?side1 ?side2 ?side3 A3.out).mono ?_); (case side1 => repeat (first | (with_reducible first | exact HB.out | apply below_alloc | apply pw_below_drewN | apply below_drew1) | exact HB.out)); (case side2 => exact HR0.out); (case side3 => exact HC0.out); rintro e w6 ⟨g293, rfl, hi, hb, hb2⟩; refine ⟨_, rfl, ?_⟩; have n0_ := Aside0.mk (Kd.R_below (by (with_reducible repeat (first | apply Kd.R_alloc | apply Kd.R_drewN | apply Kd.R_drew)); exact HO289.out) hb2); have n1_ := Aside0.mk (hb); have n2_ := Aside0.mk (hi); clear HO289; clear HB; have HO289 := n0_; have HB := n1_; have HI293 := n2_; clear n0_ n1_ n2_; (try clear hb); (try clear hb2); (try clear hk); (try clear hi)) | ((with_reducible refine gate_dst (N := 18) rfl ?_); refine Kd.R_lit (Kd.int .i64) _ 3 ?hg (N := 18) ?hd (xs := ([3, 9, 0, (-1), 300] : List Int)) (inner := [.int .i64 3, .int .i64 9, .int .i64 0, .int .i64 (-1), .int .i64 300]) (ok := fun _ => True) (okp := fun _ => True) ?hr ?hp (fun _ hk => hk) trivial (Below.refl _ _) (Nat.le_refl _) (by simp) ?_; (case hd => rfl); (case hg => rfl); (case hr => first | (go_simp; done) | (go_simp; rfl)); (case hp => exact (Reps.one (show Kd.M (Kd.int .i64) _ _ _ 3 [.int .i64 3] from rfl) (Reps.one (show Kd.M (Kd.int .i64) _ _ _ 9 [.int .i64 9] from rfl) (Reps.one (show Kd.M (Kd.int .i64) _ _ _ 0 [.int .i64 0] from rfl) (Reps.one (show Kd.M (Kd.int .i64) _ _ _ (-1) [.int .i64 (-1)] from rfl) (Reps.one (show Kd.M (Kd.int .i64) _ _ _ 300 [.int .i64 300] from rfl) (Reps.none _ _))))))); intro v295 w7 ho8 hb hg_ hnew_; clear hg_ hnew_; (first | rw [← Ny294.out] at ho8 | (simp only [Int.reduceToNat] at ho8; rw [← Ny294.out] at ho8)); have n0_ := Aside0.mk (Kd.R_elder' (by (with_reducible repeat (first | apply Kd.R_alloc | apply Kd.R_drewN | apply Kd.R_drew)); exact HO289.out) (Kd.R_base ho8) hb); have n1_ := Aside0.mk (Kd.R_lower (Kd.R_new' ho8 (Kd.R_lt (by (with_reducible repeat (first | apply Kd.R_alloc | apply Kd.R_drewN | apply Kd.R_drew)); exact HO289.out))) (below_size (by repeat (first | (with_reducible first | exact HB.out | apply below_alloc | apply pw_below_drewN | apply below_drew1 | refine below_set ?_ (IsS75.ge HI293.out)) | exact HB.out)))); have n2_ := Aside0.mk (IsS75.below (by repeat (first | (with_reducible first | exact HI293.out | apply IsS75.alloc | apply IsS75.drewN | apply IsS75.drew | apply IsS75.set_1 | apply IsS75.set_2) | exact HI293.out)) hb); have n3_ := Aside0.mk (below_step (by repeat (first | (with_reducible first | exact HB.out | apply below_alloc | apply pw_below_drewN | apply below_drew1 | refine below_set ?_ (IsS75.ge HI293.out)) | exact HB.out)) hb); clear HO289; clear HI293; clear HB; have HO289 := n0_; have HO296 := n1_; have HI293 := n2_; have HB := n3_; clear n0_ n1_ n2_ n3_; clear hb ho8; obtain ⟨Ao9, co9, eo9⟩ := Kd.R_slice HO296.out; subst eo9) | ((with_reducible refine gate_callee (f := 31) rfl ?_); refine goesL_ (some 19) rfl rfl Tryd.func31 (by kernel_rfl) rfl #[.pointer (some ⟨g293, 0, none⟩), .slice Ao9 y294.length co9] rfl (by (try simp only [List.map_toArray, List.map_cons, List.map_nil]); first | done | rfl | (simp only [List.length_drop, List.length_take]; rfl)) ?_; (with_reducible refine (spec_l1PickInt.calls g293 t290 t291 t292 _ _ y294 t297 t298 t299 w _ ?side1 ?side2 ?side3 ?side4 ?side5 A4.out).mono ?_); (case side1 => repeat (first | (with_reducible first | exact HI293.out | apply IsS75.alloc | apply IsS75.drewN | apply IsS75.drew | apply IsS75.set_1 | apply IsS75.set_2) | exact HI293.out)); (case side2 => repeat (first | (with_reducible first | exact HB.out | apply below_alloc | apply pw_below_drewN | apply below_drew1 | refine below_set ?_ (IsS75.ge HI293.out)) | exact HB.out)); (case side3 => repeat (first | exact (Kd.R_reads' HO296.out).2.2 | (with_reducible refine Kd.C_alloc ?_ _) | (with_reducible refine Kd.C_drewN ?_ _) | (with_reducible refine Kd.C_drew ?_))); (case side4 => exact (Kd.R_reads' HO296.out).2.1); (case side5 => exact far_slice (IsS75.own_ne HI293.out HO296.out (by decide))); rintro e w10 ⟨rfl, hi, hb, hk⟩; refine ⟨_, rfl, ?_⟩; have n0_ := Aside0.mk (Kd.R_mono (Kd.R_keep (IsS75.apart (show IsS75 w _ g293 t290 t291 t292 from by repeat (first | (with_reducible first | exact HI293.out | apply IsS75.alloc | apply IsS75.drewN | apply IsS75.drew | apply IsS75.set_1 | apply IsS75.set_2) | exact HI293.out)) (by (with_reducible repeat (first | apply Kd.R_alloc | apply Kd.R_drewN | apply Kd.R_drew)); exact HO289.out) (by decide)) hk (fun _ h => h.2)) (fun _ h => h.1)); have n1_ := Aside0.mk (Kd.R_mono (Kd.R_keep (IsS75.apart (show IsS75 w _ g293 t290 t291 t292 from by repeat (first | (with_reducible first | exact HI293.out | apply IsS75.alloc | apply IsS75.drewN | apply IsS75.drew | apply IsS75.set_1 | apply IsS75.set_2) | exact HI293.out)) (by (with_reducible repeat (first | apply Kd.R_alloc | apply Kd.R_drewN | apply Kd.R_drew)); exact HO296.out) (by decide)) hk (fun _ h => h.2)) (fun _ h => h.1)); have n2_ := Aside0.mk (hb); have n3_ := Aside0.mk (hi); clear HO289; clear HO296; clear HB; clear HI293; have HO289 := n0_; have HO296 := n1_; have HB := n2_; have HI293 := n3_; clear n0_ n1_ n2_ n3_; (try clear hb); (try clear hb2); (try clear hk); (try clear hi)))
  go_ret3
  exact ⟨_, by first | rfl | (simp [errW_none, errW_some] <;> rfl) | (simp [*, errW_none, errW_some] <;> rfl), by (with_reducible repeat (first | apply Kd.R_alloc | apply Kd.R_drewN | apply Kd.R_drew)); exact Kd.R_mono HO289.out (fun _ hk => trivial), by repeat (first | (with_reducible first | exact HB.out | apply below_alloc | apply pw_below_drewN | apply below_drew1 | refine below_set ?_ (IsS75.ge HI293.out)) | exact HB.out)⟩

/-! ### impl_Byte: function 19 -/
def impl_Byte.f (a0 : Int) : Option (Int) := some (Go.bits .and .i64 a0 255)
set_option maxHeartbeats 8000000 in
set_option maxRecDepth 100000 in
theorem impl_Byte.calls (a0 : Int) (r : Int) (w : World) (h : impl_Byte.f a0 = some r) :
    Calls Tryd.prog 19 #[.int .i64 a0] w fun e w' => e = .returned (.int .i64 r) ∧ Drawn0 w w' := by
  have H : (some (Go.bits .and .i64 a0 255)) = some r := h
  clear h
  obtain rfl := Option.some.inj H
  go_enter Tryd.func19, Tryd.ntmps19
  go_wp2
  go_ret
  exact ⟨by first | rfl | (simp; done) | (simp [*]; done), by repeat (first | exact Drawn0.refl _ | apply Drawn0.step)⟩

/-! ### impl_byteAt: function 34 -/
def impl_byteAt.f (l0 : List Int) (a1 : Int) : Option (Int) := if a1 ≥ (l0.length : Int) then (some 0) else (if 0 ≤ a1 then (if a1 < (l0.length : Int) then ((impl_Byte.f (rd l0 a1)).bind fun t301 => (some t301)) else (none)) else (none))
set_option maxHeartbeats 8000000 in
set_option maxRecDepth 100000 in
theorem impl_byteAt.calls (A0 : Option Addr) (c0 : Nat) (l0 : List Int) (a1 : Int) (r : Int) (w : World) (hr0 : Kd.C (Kd.int .i64) w A0 l0.length l0) (hc0 : l0.length ≤ c0) (h : impl_byteAt.f l0 a1 = some r) :
    Calls Tryd.prog 34 #[.slice A0 l0.length c0, .int .i64 a1] w fun e w' => e = .returned (.int .i64 r) ∧ Drawn0 w w' := by
  have HR0 := Aside0.mk hr0
  have HC0 := Aside0.mk hc0
  clear hr0 hc0
  have H : (if a1 ≥ (l0.length : Int) then (some 0) else (if 0 ≤ a1 then (if a1 < (l0.length : Int) then ((impl_Byte.f (rd l0 a1)).bind fun t301 => (some t301)) else (none)) else (none))) = some r := h
  clear h
  by_cases c3 : a1 ≥ (l0.length : Int)
  · rw [if_pos c3] at H
    have c3b0 : decide ((l0.length : Int) ≤ a1) = true := decide_eq_true c3
    clear c3
    obtain rfl := Option.some.inj H
    go_enter Tryd.func34, Tryd.ntmps34
    go_wp2
    go_ret
    exact ⟨by first | rfl | (simp; done) | (simp [*]; done), by repeat (first | exact Drawn0.refl _ | apply Drawn0.step)⟩
  · rw [if_neg c3] at H
    have c3b0 : decide ((l0.length : Int) ≤ a1) = false := decide_eq_false c3
    clear c3
    by_cases c4 : 0 ≤ a1
    · rw [if_pos c4] at H
      have c4b0 : decide (0 ≤ a1) = true := decide_eq_true c4
      clear c4
      by_cases c5 : a1 < (l0.length : Int)
      · rw [if_pos c5] at H
        have c5b0 : decide (a1 < (l0.length : Int)) = true := decide_eq_true c5
        clear c5
        replace H := Option.bind_eq_some_iff.mp H
        obtain ⟨t301, A60, H⟩ := H
        replace H : (some t301) = some r := H
        have A6 := Aside0.mk A60
        clear A60
        obtain rfl := Option.some.inj H
        have p300 : 0 ≤ (a1 : Int) := of_decide_eq_true (by first | (with_reducible assumption) | assumption)
        have q300 : a1 < (l0.length : Int) := of_decide_eq_true (by first | (with_reducible assumption) | assumption)
        obtain ⟨ad300, e300, hx300_0⟩ := Kd.at_int HR0.out a1 p300 q300
        cases e300
        replace p300 := eq_true p300
        replace q300 := eq_true q300
        go_enter Tryd.func34, Tryd.ntmps34
        go_wp2_with (first | ((with_reducible refine gate_callee (f := 19) rfl ?_); refine goesL_ (some 13) rfl rfl Tryd.func19 (by kernel_rfl) rfl #[.int .i64 (rd l0 a1)] rfl (by (try simp only [List.map_toArray, List.map_cons, List.map_nil]); first | done | rfl | (simp only [List.length_drop, List.length_take]; rfl)) ?_; (with_reducible refine (impl_Byte.calls (rd l0 a1) t301 _ A6.out).mono ?_); rintro e w' ⟨rfl, ⟨nd, rfl⟩⟩; refine ⟨_, rfl, ?_⟩))
        go_ret
        exact ⟨by first | rfl | (simp; done) | (simp [*]; done), by repeat (first | exact Drawn0.refl _ | apply Drawn0.step)⟩
      · rw [if_neg c5] at H
        exact absurd H (by simp)
    · rw [if_neg c4] at H
      exact absurd H (by simp)

/-! ### impl_isOp: function 35 -/
def impl_isOp.f (a0 : Int) : Option (Bool) := (impl_within.f a0 0 29).bind fun t302 => (some t302)
set_option maxHeartbeats 8000000 in
set_option maxRecDepth 100000 in
theorem impl_isOp.calls (a0 : Int) (r : Bool) (w : World) (h : impl_isOp.f a0 = some r) :
    Calls Tryd.prog 35 #[.int .i64 a0] w fun e w' => e = .returned (.bool r) ∧ Drawn0 w w' := by
  have H : ((impl_within.f a0 0 29).bind fun t302 => (some t302)) = some r := h
  clear h
  replace H := Option.bind_eq_some_iff.mp H
  obtain ⟨t302, A20, H⟩ := H
  replace H : (some t302) = some r := H
  have A2 := Aside0.mk A20
  clear A20
  obtain rfl := Option.some.inj H
  go_enter Tryd.func35, Tryd.ntmps35
  go_wp2_with (first | ((with_reducible refine gate_callee (f := 33) rfl ?_); refine goesL_ (some 4) rfl rfl Tryd.func33 (by kernel_rfl) rfl #[.int .i64 a0, .int .i64 0, .int .i64 29] rfl (by (try simp only [List.map_toArray, List.map_cons, List.map_nil]); first | done | rfl | (simp only [List.length_drop, List.length_take]; rfl)) ?_; (with_reducible refine (impl_within.calls a0 0 29 t302 _ A2.out).mono ?_); rintro e w' ⟨rfl, ⟨nd, rfl⟩⟩; refine ⟨_, rfl, ?_⟩))
  go_ret
  exact ⟨by first | rfl | (simp; done) | (simp [*]; done), by repeat (first | exact Drawn0.refl _ | apply Drawn0.step)⟩

/-! ### impl_OpName: function 38 -/
def impl_OpName.f (a0 : Int) : Option (ByteArray) := (impl_isOp.f a0).bind fun t303 => (if t303 = true then ((impl_opNames.f).bind fun t304 => (if 0 ≤ a0 then (if a0 < (t304.length : Int) then (some (rdOf ByteArray.empty t304 a0)) else (none)) else (none))) else (some (⟨#[]⟩ : ByteArray)))
set_option maxHeartbeats 8000000 in
set_option maxRecDepth 100000 in
theorem impl_OpName.calls (a0 : Int) (r : ByteArray) (w : World) (h : impl_OpName.f a0 = some r) :
    Calls Tryd.prog 38 #[.int .i64 a0] w fun e w' => e = .returned (.string r) ∧ Below w.heap.size w w' := by
  have HB := Aside0.mk (Below.refl w.heap.size w)
  have H : ((impl_isOp.f a0).bind fun t303 => (if t303 = true then ((impl_opNames.f).bind fun t304 => (if 0 ≤ a0 then (if a0 < (t304.length : Int) then (some (rdOf ByteArray.empty t304 a0)) else (none)) else (none))) else (some (⟨#[]⟩ : ByteArray)))) = some r := h
  clear h
  replace H := Option.bind_eq_some_iff.mp H
  obtain ⟨t303, A20, H⟩ := H
  replace H : (if t303 = true then ((impl_opNames.f).bind fun t304 => (if 0 ≤ a0 then (if a0 < (t304.length : Int) then (some (rdOf ByteArray.empty t304 a0)) else (none)) else (none))) else (some (⟨#[]⟩ : ByteArray))) = some r := H
  have A2 := Aside0.mk A20
  clear A20
  by_cases c3 : t303 = true
  · subst c3
    have H1 : ((impl_opNames.f).bind fun t304 => (if 0 ≤ a0 then (if a0 < (t304.length : Int) then (some (rdOf ByteArray.empty t304 a0)) else (none)) else (none))) = some r := by rw [if_pos rfl] at H; exact H
    clear H
    have H := H1
    clear H1
    replace H := Option.bind_eq_some_iff.mp H
    obtain ⟨t304, A40, H⟩ := H
    replace H : (if 0 ≤ a0 then (if a0 < (t304.length : Int) then (some (rdOf ByteArray.empty t304 a0)) else (none)) else (none)) = some r := H
    have A4 := Aside0.mk A40
    clear A40
    by_cases c5 : 0 ≤ a0
    · rw [if_pos c5] at H
      have c5b0 : decide (0 ≤ a0) = true := decide_eq_true c5
      clear c5
      by_cases c6 : a0 < (t304.length : Int)
      · rw [if_pos c6] at H
        have c6b0 : decide (a0 < (t304.length : Int)) = true := decide_eq_true c6
        clear c6
        obtain rfl := Option.some.inj H
        go_enter Tryd.func38, Tryd.ntmps38
        go_wp2_with (first | ((with_reducible refine gate_callee (f := 35) rfl ?_); refine goesL_ (some 4) rfl rfl Tryd.func35 (by kernel_rfl) rfl #[.int .i64 a0] rfl (by (try simp only [List.map_toArray, List.map_cons, List.map_nil]); first | done | rfl | (simp only [List.length_drop, List.length_take]; rfl)) ?_; (with_reducible refine (impl_isOp.calls a0 true _ A2.out).mono ?_); rintro e w' ⟨rfl, ⟨nd, rfl⟩⟩; refine ⟨_, rfl, ?_⟩) | ((with_reducible refine gate_callee (f := 59) rfl ?_); refine goesL_ (some 6) rfl rfl Tryd.func59 (by kernel_rfl) rfl #[] rfl (by (try simp only [List.map_toArray, List.map_cons, List.map_nil]); first | done | rfl | (simp only [List.length_drop, List.length_take]; rfl)) ?_; (with_reducible refine (impl_opNames.calls  t304 _ A4.out).mono ?_); rintro e w7 ⟨v305, rfl, ho0, hb⟩; refine ⟨_, rfl, ?_⟩; have n0_ := Aside0.mk (Kd.R_lower ho0 (below_size (by repeat (first | (with_reducible first | exact HB.out | apply below_alloc | apply pw_below_drewN | apply below_drew1) | exact HB.out)))); have n1_ := Aside0.mk (below_step (by repeat (first | (with_reducible first | exact HB.out | apply below_alloc | apply pw_below_drewN | apply below_drew1) | exact HB.out)) hb); clear HB; have HO306 := n0_; have HB := n1_; clear n0_ n1_; (try clear hb); (try clear hb2); (try clear hk); (try clear hi); (try clear ho0); obtain ⟨Ao8, co8, eo8⟩ := Kd.R_slice HO306.out; subst eo8; have p307 : 0 ≤ (a0 : Int) := of_decide_eq_true (by first | (with_reducible assumption) | assumption); have q307 : a0 < (t304.length : Int) := of_decide_eq_true (by first | (with_reducible assumption) | assumption); obtain ⟨ad307, e307, hx307_0⟩ := Kd.at_string (Kd.R_reads' HO306.out).2.2 a0 p307 q307; cases e307; replace p307 := eq_true p307; replace q307 := eq_true q307))
        go_ret
        exact ⟨by first | rfl | (simp [errW_none, errW_some] <;> rfl) | (simp [*, errW_none, errW_some] <;> rfl), by repeat (first | (with_reducible first | exact HB.out | apply below_alloc | apply pw_below_drewN | apply below_drew1) | exact HB.out)⟩
      · rw [if_neg c6] at H
        exact absurd H (by simp)
    · rw [if_neg c5] at H
      exact absurd H (by simp)
  · replace c3 := Bool.eq_false_iff.mpr c3
    subst c3
    have H1 : (some (⟨#[]⟩ : ByteArray)) = some r := by rw [if_neg (show ¬ (false = true) by decide)] at H; exact H
    clear H
    have H := H1
    clear H1
    obtain rfl := Option.some.inj H
    go_enter Tryd.func38, Tryd.ntmps38
    go_wp2_with (first | ((with_reducible refine gate_callee (f := 35) rfl ?_); refine goesL_ (some 4) rfl rfl Tryd.func35 (by kernel_rfl) rfl #[.int .i64 a0] rfl (by (try simp only [List.map_toArray, List.map_cons, List.map_nil]); first | done | rfl | (simp only [List.length_drop, List.length_take]; rfl)) ?_; (with_reducible refine (impl_isOp.calls a0 false _ A2.out).mono ?_); rintro e w' ⟨rfl, ⟨nd, rfl⟩⟩; refine ⟨_, rfl, ?_⟩))
    go_ret
    exact ⟨by first | rfl | (simp [errW_none, errW_some] <;> rfl) | (simp [*, errW_none, errW_some] <;> rfl), by repeat (first | (with_reducible first | exact HB.out | apply below_alloc | apply pw_below_drewN | apply below_drew1) | exact HB.out)⟩

/-! ### impl_Join: function 39 -/
def impl_Join.f (a0 : Int) (a1 : Int) : Option (Int) := (impl_Byte.f a0).bind fun t308 => ((impl_Byte.f a1).bind fun t309 => (some (wrap64 (t308 + (wrap64 (256 * t309))))))
set_option maxHeartbeats 8000000 in
set_option maxRecDepth 100000 in
theorem impl_Join.calls (a0 : Int) (a1 : Int) (r : Int) (w : World) (h : impl_Join.f a0 a1 = some r) :
    Calls Tryd.prog 39 #[.int .i64 a0, .int .i64 a1] w fun e w' => e = .returned (.int .i64 r) ∧ Drawn0 w w' := by
  have H : ((impl_Byte.f a0).bind fun t308 => ((impl_Byte.f a1).bind fun t309 => (some (wrap64 (t308 + (wrap64 (256 * t309))))))) = some r := h
  clear h
  replace H := Option.bind_eq_some_iff.mp H
  obtain ⟨t308, A30, H⟩ := H
  replace H : ((impl_Byte.f a1).bind fun t309 => (some (wrap64 (t308 + (wrap64 (256 * t309)))))) = some r := H
  have A3 := Aside0.mk A30
  clear A30
  replace H := Option.bind_eq_some_iff.mp H
  obtain ⟨t309, A40, H⟩ := H
  replace H : (some (wrap64 (t308 + (wrap64 (256 * t309))))) = some r := H
  have A4 := Aside0.mk A40
  clear A40
  obtain rfl := Option.some.inj H
  go_enter Tryd.func39, Tryd.ntmps39
  go_wp2_with (first | ((with_reducible refine gate_callee (f := 19) rfl ?_); refine goesL_ (some 6) rfl rfl Tryd.func19 (by kernel_rfl) rfl #[.int .i64 a0] rfl (by (try simp only [List.map_toArray, List.map_cons, List.map_nil]); first | done | rfl | (simp only [List.length_drop, List.length_take]; rfl)) ?_; (with_reducible refine (impl_Byte.calls a0 t308 _ A3.out).mono ?_); rintro e w' ⟨rfl, ⟨nd, rfl⟩⟩; refine ⟨_, rfl, ?_⟩) | ((with_reducible refine gate_callee (f := 19) rfl ?_); refine goesL_ (some 8) rfl rfl Tryd.func19 (by kernel_rfl) rfl #[.int .i64 a1] rfl (by (try simp only [List.map_toArray, List.map_cons, List.map_nil]); first | done | rfl | (simp only [List.length_drop, List.length_take]; rfl)) ?_; (with_reducible refine (impl_Byte.calls a1 t309 _ A4.out).mono ?_); rintro e w' ⟨rfl, ⟨nd, rfl⟩⟩; refine ⟨_, rfl, ?_⟩))
  go_ret
  exact ⟨by first | rfl | (simp; done) | (simp [*]; done), by repeat (first | exact Drawn0.refl _ | apply Drawn0.step)⟩

end Go.Proofs.YtbggkcnglmiheaaDoor.MFnListed
