/- Walks of functions that the law FnExactPoke reaches: each comes to just what its Lean function says. (Begun as the texts that print.sh wrote for this claim; some of them, and those that it does not write, are mine.) No condition. -/
import Derived.Test.YtmiaocoffmobcaaMFnExactPokex3
namespace Go.Proofs.Ytmiaocoffmobcaa.MFnExactPoke
open Go.RowKit Go.Proofs.YtmiaocoffmobcaaW.PrintWords Go.Proofs.YtmiaocoffmobcaaW.PrintLast Go.Proofs.YtmiaocoffmobcaaW.PrintMore
attribute [local go_sem] max2_int min2_int max_two min_two max_three min_three max_four min_four   -- for this text's walks alone
set_option linter.unusedVariables false
set_option linter.unusedSimpArgs false

/-! ### impl_copyInts: function 74 -/
def impl_copyInts.f (l0 : List Int) : Option (List Int) := (some (([] : List Int) : List Int)).bind fun y201 => (if y201.length + l0.length < 17592186044416 then (some (y201 ++ l0)) else (none))
set_option maxHeartbeats 8000000 in
set_option maxRecDepth 100000 in
theorem impl_copyInts.calls (A0 : Option Addr) (c0 : Nat) (l0 : List Int) (r : List Int) (w : World) (hr0 : Kd.C (Kd.int .i64) w A0 l0.length l0) (hc0 : l0.length ≤ c0) (h : impl_copyInts.f l0 = some r) :
    Calls Try.prog 74 #[.slice A0 l0.length c0] w fun e w' => ∃ v0_ : Value, e = .returned (v0_) ∧ Kd.R (Kd.int .i64) 3 w' w.heap.size (fun _ => True) v0_ r ∧ Below w.heap.size w w' := by
  have HR0 := Aside0.mk hr0
  have HC0 := Aside0.mk hc0
  clear hr0 hc0
  have HB := Aside0.mk (Below.refl w.heap.size w)
  have H : ((some (([] : List Int) : List Int)).bind fun y201 => (if y201.length + l0.length < 17592186044416 then (some (y201 ++ l0)) else (none))) = some r := h
  clear h
  obtain ⟨y201, hy201⟩ : ∃ y_ : List Int, y_ = (([] : List Int)) := ⟨_, rfl⟩
  replace H : (if y201.length + l0.length < 17592186044416 then (some (y201 ++ l0)) else (none)) = some r := by first | (rw [hy201]; with_reducible exact H) | (have H2_ := (Option.bind_some _ _).symm.trans H; rw [hy201]; with_reducible exact H2_) | (have H2_ := (Option.bind_some _ _).symm.trans H; with_reducible exact H2_) | with_reducible exact H | (rw [hy201]; exact H) | exact H
  have Ny201 := Aside0.mk hy201
  clear hy201
  by_cases c2 : y201.length + l0.length < 17592186044416
  · rw [if_pos c2] at H
    have LMc2 := Aside0.mk c2
    clear c2
    obtain ⟨y204, hy204⟩ : ∃ y_ : List Int, y_ = (y201 ++ l0) := ⟨_, rfl⟩
    replace H : (some y204) = some r := by first | (rw [hy204]; with_reducible exact H) | (have H2_ := (Option.bind_some _ _).symm.trans H; rw [hy204]; with_reducible exact H2_) | (have H2_ := (Option.bind_some _ _).symm.trans H; with_reducible exact H2_) | with_reducible exact H | (rw [hy204]; exact H) | exact H
    have Ny204 := Aside0.mk hy204
    clear hy204
    obtain rfl := Option.some.inj H
    go_enter Try.func74, Try.ntmps74
    go_wp2_with (first | ((with_reducible refine gate_dst (N := 3) rfl ?_); refine Kd.R_lit (Kd.int .i64) _ 3 ?hg (N := 3) ?hd (xs := ([] : List Int)) (inner := []) (ok := fun _ => True) (okp := fun _ => True) ?hr ?hp (fun _ hk => hk) trivial (Below.refl _ _) (Nat.le_refl _) (by simp) ?_; (case hd => rfl); (case hg => rfl); (case hr => first | (go_simp; done) | (go_simp; rfl)); (case hp => exact (Reps.none _ _)); intro v202 w3 ho4 hb hg_ hnew_; clear hg_ hnew_; (first | rw [← Ny201.out] at ho4 | (simp only [Int.reduceToNat] at ho4; rw [← Ny201.out] at ho4)); have n0_ := Aside0.mk (Kd.R_lower ho4 (below_size (by repeat (first | (with_reducible first | exact HB.out | apply below_alloc | apply pw_below_drewN | apply below_drew1) | exact HB.out)))); have n1_ := Aside0.mk (below_step (by repeat (first | (with_reducible first | exact HB.out | apply below_alloc | apply pw_below_drewN | apply below_drew1) | exact HB.out)) hb); clear HB; have HO203 := n0_; have HB := n1_; clear n0_ n1_; clear hb ho4) | ((with_reducible refine gate_builtin (b := .append) (xs := #[.tmp 3, .tmp 4]) rfl ?_); at_builtin; refine Kd.R_append_rows (Kd.int .i64) (w0 := w) w.heap.size rfl (.tmp 3) (.tmp 4) 31 3 (.int .i64 0) 8 rfl Try.underlying31 info3 rfl (by decide) (by omega) v202 y201 l0 _ _ _ (fun _ => True) (fun _ => False) rfl rfl ?aO ?aR (fun _ _ h => h) (fun _ h => h.elim) ?aF ?aB ?aS ?aL ?_; (case aR => repeat (first | exact (Kd.C_below HR0.out HB.out) | (with_reducible refine Kd.C_alloc ?_ _) | (with_reducible refine Kd.C_drewN ?_ _) | (with_reducible refine Kd.C_drew ?_))); (case aB => exact (by repeat (first | (with_reducible first | exact HB.out | apply below_alloc | apply pw_below_drewN | apply below_drew1) | exact HB.out))); (case aF => exact (fun _ _ => trivial)); (case aO => exact (by (with_reducible repeat (first | apply Kd.R_alloc | apply Kd.R_drewN | apply Kd.R_drew)); exact HO203.out)); (case aS => exact (below_size (by repeat (first | (with_reducible first | exact HB.out | apply below_alloc | apply pw_below_drewN | apply below_drew1) | exact HB.out)))); (case aL => have := LMc2.out; omega); intro v205 w5 ho hb hg hat; rw [← Ny204.out] at ho; have n0_ := Aside0.mk (hb); have n1_ := Aside0.mk (ho); clear HB; clear HO203; have HB := n0_; have HO206 := n1_; clear n0_ n1_; clear ho hb hg hat))
    go_ret
    exact ⟨_, by first | rfl | (simp [errW_none, errW_some] <;> rfl) | (simp [*, errW_none, errW_some] <;> rfl), by (with_reducible repeat (first | apply Kd.R_alloc | apply Kd.R_drewN | apply Kd.R_drew)); exact HO206.out, by repeat (first | (with_reducible first | exact HB.out | apply below_alloc | apply pw_below_drewN | apply below_drew1) | exact HB.out)⟩
  · rw [if_neg c2] at H
    exact absurd H (by simp)

/-! ### impl_copyMem: function 70 -/
def impl_copyMem.f (l0_0 : List Int) (a0_1 : Int) : Option (List Int × Int) := (impl_copyInts.f l0_0).bind fun t209 => (some (t209, a0_1))
set_option maxHeartbeats 8000000 in
set_option maxRecDepth 100000 in
theorem impl_copyMem.calls (A0_0 : Option Addr) (c0_0 : Nat) (l0_0 : List Int) (a0_1 : Int) (r1 : List Int) (r2 : Int) (w : World) (hr0_0 : Kd.C (Kd.int .i64) w A0_0 l0_0.length l0_0) (hc0_0 : l0_0.length ≤ c0_0) (h : impl_copyMem.f l0_0 a0_1 = some (r1, r2)) :
    Calls Try.prog 70 #[.agg #[.slice A0_0 l0_0.length c0_0, .int .i64 a0_1]] w fun e w' => ∃ v0_ : Value, e = .returned (.agg #[v0_, .int .i64 r2]) ∧ Kd.R (Kd.int .i64) 3 w' w.heap.size (fun _ => True) v0_ r1 ∧ Below w.heap.size w w' := by
  have hu37 := Try.underlying37
  have HR0_0 := Aside0.mk hr0_0
  have HC0_0 := Aside0.mk hc0_0
  clear hr0_0 hc0_0
  have HB := Aside0.mk (Below.refl w.heap.size w)
  have H : ((impl_copyInts.f l0_0).bind fun t209 => (some (t209, a0_1))) = some (r1, r2) := h
  clear h
  replace H := Option.bind_eq_some_iff.mp H
  obtain ⟨t209, A20, H⟩ := H
  replace H : (some (t209, a0_1)) = some (r1, r2) := H
  have A2 := Aside0.mk A20
  clear A20
  simp only [Option.some.injEq, Prod.mk.injEq] at H
  obtain ⟨rfl, rfl⟩ := H
  go_enter Try.func70, Try.ntmps70
  try go_wp2_with (first | ((with_reducible refine gate_dst (N := 1) rfl ?_); refine box_event ?hg (N := 1) ?hd (cs := #[.slice A0_0 l0_0.length c0_0, .int .i64 a0_1]) (t := 37) ?hr ?_; (case hd => rfl); (case hg => rfl); (case hr => first | (go_simp; done) | (go_simp; rfl)); intro gb207 hg w3 hbox hb; have n0_ := Aside0.mk (below_step (by repeat (first | (with_reducible first | exact HB.out | apply below_alloc | apply pw_below_drewN | apply below_drew1) | exact HB.out)) hb); have n1_ := Aside0.mk (hbox); have n2_ := Aside0.mk ((by rw [hg]; exact (below_size (by repeat (first | (with_reducible first | exact HB.out | apply below_alloc | apply pw_below_drewN | apply below_drew1) | exact HB.out))) : w.heap.size ≤ gb207)); have n3_ := Aside0.mk ((by rw [hg]; exact (below_size (by repeat (first | (with_reducible first | exact HB.out | apply below_alloc | apply pw_below_drewN | apply below_drew1) | exact HB.out))) : w.heap.size ≤ gb207)); clear HB; have HB := n0_; have BK207 := n1_; have GW207 := n2_; have GE207 := n3_; clear n0_ n1_ n2_ n3_; clear hb hbox hg) | ((with_reducible refine gate_dst (N := 2) rfl ?_); refine box_event ?hg (N := 2) ?hd (cs := #[.slice none 0 0, .int .i64 0]) (t := 37) ?hr ?_; (case hd => rfl); (case hg => rfl); (case hr => first | (go_simp; done) | (go_simp; rfl)); intro gb208 hg w4 hbox hb; have n0_ := Aside0.mk (blk_below (g := gb207) (o := .cells #[.slice A0_0 l0_0.length c0_0, .int .i64 a0_1] 37 (0, 0)) (by (with_reducible repeat (first | refine blk_drewN ?_ _ | refine blk_drew ?_ | refine blk_alloc ?_ _)); exact BK207.out) hb); have n1_ := Aside0.mk (below_step (by repeat (first | (with_reducible first | exact HB.out | apply below_alloc | apply pw_below_drewN | apply below_drew1 | refine below_set ?_ GE207.out) | exact HB.out)) hb); have n2_ := Aside0.mk (hbox); have n3_ := Aside0.mk ((by rw [hg]; exact (below_size (by repeat (first | (with_reducible first | exact HB.out | apply below_alloc | apply pw_below_drewN | apply below_drew1 | refine below_set ?_ GE207.out) | exact HB.out))) : w.heap.size ≤ gb208)); have n4_ := Aside0.mk ((by rw [hg]; exact (below_size (by repeat (first | (with_reducible first | exact HB.out | apply below_alloc | apply pw_below_drewN | apply below_drew1 | refine below_set ?_ GE207.out) | exact HB.out))) : w.heap.size ≤ gb208)); have n5_ := Aside0.mk ((by rw [hg]; exact Nat.ne_of_lt (blk_lt (g := gb207) (o := .cells #[.slice A0_0 l0_0.length c0_0, .int .i64 a0_1] 37 (0, 0)) (by (with_reducible repeat (first | refine blk_drewN ?_ _ | refine blk_drew ?_ | refine blk_alloc ?_ _)); exact BK207.out)) : gb207 ≠ gb208)); have n6_ := Aside0.mk ((by rw [hg]; exact Nat.ne_of_gt (blk_lt (g := gb207) (o := .cells #[.slice A0_0 l0_0.length c0_0, .int .i64 a0_1] 37 (0, 0)) (by (with_reducible repeat (first | refine blk_drewN ?_ _ | refine blk_drew ?_ | refine blk_alloc ?_ _)); exact BK207.out)) : gb208 ≠ gb207)); clear BK207; clear HB; have BK207 := n0_; have HB := n1_; have BK208 := n2_; have GW208 := n3_; have GE208 := n4_; have NB207_208 := n5_; have NB208_207 := n6_; clear n0_ n1_ n2_ n3_ n4_ n5_ n6_; clear hb hbox hg))
  have n0_ := Aside0.mk (blk_drew BK207.out)
  have n1_ := Aside0.mk (blk_drew BK208.out)
  have n2_ := Aside0.mk (below_drew1 HB.out)
  clear BK207
  clear BK208
  clear HB
  have BK207 := n0_
  have BK208 := n1_
  have HB := n2_
  clear n0_ n1_ n2_
  refine start_ (n := 7) (S := fun w' => w'.cell? ⟨gb207, 0, none⟩ = some (.slice A0_0 l0_0.length c0_0) ∧ w'.cell? ⟨gb207, 1, none⟩ = some (.int .i64 a0_1)) (ds := []) #[false, false, false, false, false, false, false] (by kernel_rfl) rfl rfl ⟨(blk_cell BK207.out 0).trans rfl, (blk_cell BK207.out 1).trans rfl⟩ (fun hHeld => ?_)
  generalize w4.drew = w5 at BK207 BK208 HB hHeld ⊢
  refine pure_ (i := 0) (N := some 3) (v := ?_) (a' := ?_) #[true, false, false, false, false, false, false] rfl rfl (by kernel_rfl) (fun _ _ _ h => h) (Or.inl ⟨by rfl, ?_⟩) ?_ ?_
  rotate_left
  · intro w'
    go_simp
    with_reducible rfl
  rotate_left
  · simp only [Act.put, List.setIfInBounds_toArray, List.set_cons_zero, List.set_cons_succ, i64_w, i32_w]
    rfl
  refine pure_ (i := 3) (N := some 6) (v := ?_) (a' := ?_) #[true, false, false, true, false, false, false] rfl rfl (by kernel_rfl) (fun _ _ _ h => h) (Or.inl ⟨by rfl, ?_⟩) ?_ ?_
  rotate_left
  · intro w'
    go_simp
    with_reducible rfl
  rotate_left
  · simp only [Act.put, List.setIfInBounds_toArray, List.set_cons_zero, List.set_cons_succ, i64_w, i32_w]
    rfl
  refine take_ (i := 1) (N := some 4) (v := ?_) (a' := ?_) #[true, true, false, true, false, false, false] rfl rfl (by kernel_rfl) (fun _ _ _ h => h) (Or.inl ⟨by rfl, ?_⟩) hHeld ?_ ?_
  rotate_left
  · rintro w' ⟨s0, s1⟩
    go_simp
    with_reducible rfl
  rotate_left
  · simp only [Act.put, List.setIfInBounds_toArray, List.set_cons_zero, List.set_cons_succ, i64_w, i32_w]
    rfl
  refine take_ (i := 4) (N := some 7) (v := ?_) (a' := ?_) #[true, true, false, true, true, false, false] rfl rfl (by kernel_rfl) (fun _ _ _ h => h) (Or.inl ⟨by rfl, ?_⟩) hHeld ?_ ?_
  rotate_left
  · rintro w' ⟨s0, s1⟩
    go_simp
    with_reducible rfl
  rotate_left
  · simp only [Act.put, List.setIfInBounds_toArray, List.set_cons_zero, List.set_cons_succ, i64_w, i32_w]
    rfl
  refine one_ (i := 2) (N := some 5) #[true, true, true, true, true, false, false] rfl rfl (by kernel_rfl) (by decide) (fun K hK => ?_)
  refine goes_ Try.func74 (by kernel_rfl) rfl #[.slice A0_0 l0_0.length c0_0] (by rfl) rfl rfl (by (try simp only [List.map_toArray, List.map_cons, List.map_nil]); first | done | rfl | (simp only [List.length_drop, List.length_take]; rfl)) ?_
  with_reducible refine (impl_copyInts.calls _ _ l0_0 t209 _ ?side1 ?side2 A2.out).mono ?_
  (case side1 => repeat (first | exact (Kd.C_below HR0_0.out HB.out) | (with_reducible refine Kd.C_alloc ?_ _) | (with_reducible refine Kd.C_drewN ?_ _) | (with_reducible refine Kd.C_drew ?_)))
  (case side2 => exact HC0_0.out)
  rintro e w6 ⟨v210, rfl, ho0, hb⟩
  refine ⟨_, rfl, ?_⟩
  have n0_ := Aside0.mk (Kd.R_lower ho0 (below_size (by repeat (first | (with_reducible first | exact HB.out | apply below_alloc | apply pw_below_drewN | apply below_drew1 | refine below_set ?_ GE207.out | refine below_set ?_ GE208.out) | exact HB.out))))
  have n1_ := Aside0.mk (blk_below (g := gb207) (o := .cells #[.slice A0_0 l0_0.length c0_0, .int .i64 a0_1] 37 (0, 0)) (by (with_reducible repeat (first | refine blk_drewN ?_ _ | refine blk_drew ?_ | refine blk_alloc ?_ _)); exact BK207.out) hb)
  have n2_ := Aside0.mk (blk_below (g := gb208) (o := .cells #[.slice none 0 0, .int .i64 0] 37 (0, 0)) (by (with_reducible repeat (first | refine blk_drewN ?_ _ | refine blk_drew ?_ | refine blk_alloc ?_ _)); exact BK208.out) hb)
  have n3_ := Aside0.mk (below_step (by repeat (first | (with_reducible first | exact HB.out | apply below_alloc | apply pw_below_drewN | apply below_drew1 | refine below_set ?_ GE207.out | refine below_set ?_ GE208.out) | exact HB.out)) hb)
  clear BK207
  clear BK208
  clear HB
  have HO211 := n0_
  have BK207 := n1_
  have BK208 := n2_
  have HB := n3_
  clear n0_ n1_ n2_ n3_
  (try clear hb)
  (try clear hb2)
  (try clear hk)
  (try clear hi)
  (try clear ho0)
  obtain ⟨Ao7, co7, eo7⟩ := Kd.R_slice HO211.out
  (first | subst eo7 | (injection eo7 with f1_ f2_ f3_; have f4_ := f1_.symm; have f5_ := f3_.symm; clear f1_ f2_ f3_; subst f4_; subst f5_))
  refine hK.out _ _ ⟨(blk_cell BK207.out 0).trans rfl, (blk_cell BK207.out 1).trans rfl⟩ (fun hHeld => ?_)
  clear hK K
  refine norm_ (a' := ?_) ?_ ?_
  rotate_left
  · show Act.put _ (some 5) _ = _
    simp only [Act.put, List.setIfInBounds_toArray, List.set_cons_zero, List.set_cons_succ, i64_w, i32_w]
    rfl
  refine pure_ (i := 5) (N := some 8) (v := ?_) (a' := ?_) #[true, true, true, true, true, true, false] rfl rfl (by kernel_rfl) (fun _ _ _ h => h) (Or.inl ⟨by rfl, ?_⟩) ?_ ?_
  rotate_left
  · intro w'
    go_simp
    with_reducible rfl
  rotate_left
  · simp only [Act.put, List.setIfInBounds_toArray, List.set_cons_zero, List.set_cons_succ, i64_w, i32_w]
    rfl
  refine one_ (i := 6) (N := none) #[true, true, true, true, true, true, true] rfl rfl (by kernel_rfl) (by decide) (fun K hK => ?_)
  have hs8 : w6.cell? ⟨gb208, 0, none⟩ = some (.slice none 0 0) := (blk_cell BK208.out 0).trans rfl
  have hfs8 := blk_frozen BK208.out 0
  have hns8_0 := NB207_208.out
  have hms8_0 := NB208_207.out
  have hs9 : w6.cell? ⟨gb208, 1, none⟩ = some (.int .i64 0) := (blk_cell BK208.out 1).trans rfl
  have hfs9 := blk_frozen BK208.out 1
  have hns9_0 := NB207_208.out
  have hms9_0 := NB208_207.out
  refine skip_ (w1 := ?_) (by rfl) rfl ?_ ?_
  rotate_left
  · go_simp
    rfl
  refine hK.out _ _ ⟨((cell_far (p := ⟨gb208, _, none⟩) NB207_208.out _).trans (((cell_far (p := ⟨gb208, _, none⟩) NB207_208.out _).trans (hHeld.1)))), ((cell_far (p := ⟨gb208, _, none⟩) NB207_208.out _).trans (((cell_far (p := ⟨gb208, _, none⟩) NB207_208.out _).trans (hHeld.2))))⟩ (fun hHeld => ?_)
  clear hK K
  refine done_ (by kernel_rfl) ?_
  try go_wp2
  refine bodyPost_ret (results_cell_row rfl _ _ gb208 37 #[.slice Ao7 t209.length co7, .int .i64 a0_1] (0, 0) _ rfl (by (with_reducible repeat (first | refine blk_drewN ?_ _ | refine blk_drew ?_ | refine blk_alloc ?_ _)); refine blk_put (cs := #[.slice Ao7 t209.length co7, .int .i64 0]) ?_ 1 _ rfl; (with_reducible repeat (first | refine blk_drewN ?_ _ | refine blk_drew ?_ | refine blk_alloc ?_ _)); refine blk_put (cs := #[.slice none 0 0, .int .i64 0]) ?_ 0 _ rfl; (with_reducible repeat (first | refine blk_drewN ?_ _ | refine blk_drew ?_ | refine blk_alloc ?_ _)); exact BK208.out) Try.underlying37 rfl (by kernel_rfl)) rfl ?_
  exact ⟨_, by first | rfl | (simp [errW_none, errW_some] <;> rfl) | (simp [*, errW_none, errW_some] <;> rfl), by (with_reducible repeat (first | apply Kd.R_alloc | apply Kd.R_drewN | apply Kd.R_drew)); exact Kd.R_mono (Kd.R_far (p := ⟨gb208, 1, none⟩) (Kd.R_far (p := ⟨gb208, 0, none⟩) (Kd.R_types HO211.out BK208.out (by decide)) (fun _ hk => hk.2) (.slice Ao7 t209.length co7)) (fun _ hk => hk.2) (.int .i64 a0_1)) (fun _ hk => trivial), by repeat (first | (with_reducible first | exact HB.out | apply below_alloc | apply pw_below_drewN | apply below_drew1 | refine below_set ?_ GE207.out | refine below_set ?_ GE208.out) | exact HB.out)⟩

/-! ### impl_Byte: function 77 -/
def impl_Byte.f (a0 : Int) : Option (Int) := some (Go.bits .and .i64 a0 255)
set_option maxHeartbeats 8000000 in
set_option maxRecDepth 100000 in
theorem impl_Byte.calls (a0 : Int) (r : Int) (w : World) (h : impl_Byte.f a0 = some r) :
    Calls Try.prog 77 #[.int .i64 a0] w fun e w' => e = .returned (.int .i64 r) ∧ Drawn0 w w' := by
  have H : (some (Go.bits .and .i64 a0 255)) = some r := h
  clear h
  obtain rfl := Option.some.inj H
  go_enter Try.func77, Try.ntmps77
  go_wp2
  go_ret
  exact ⟨by first | rfl | (simp; done) | (simp [*]; done), by repeat (first | exact Drawn0.refl _ | apply Drawn0.step)⟩

/-! ### mine_words (mine) -/
theorem and_low (n : Int) (j : Nat) (m : Int) (hj : j < 64) (hm : (BitVec.ofInt 64 m).toNat = 2 ^ j - 1) : Go.bits .and .i64 n m = n % (2 ^ j : Nat) := by
  have key : (BitVec.ofInt 64 n &&& BitVec.ofInt 64 m).toNat = (n % ((2 ^ 64 : Nat) : Int)).toNat % 2 ^ j := by
    rw [BitVec.toNat_and, BitVec.toNat_ofInt, hm, Nat.and_two_pow_sub_one_eq_mod]
  show IntKind.i64.wrap ((BitVec.ofInt 64 n &&& BitVec.ofInt 64 m).toNat : Nat) = n % (2 ^ j : Nat)
  have hd : ((2 ^ j : Nat) : Int) ∣ ((2 ^ 64 : Nat) : Int) := by
    exact_mod_cast Nat.pow_dvd_pow 2 (Nat.le_of_lt hj)
  have hp : (0 : Int) < ((2 ^ j : Nat) : Int) := by exact_mod_cast Nat.two_pow_pos j
  have hle : ((2 ^ j : Nat) : Int) ≤ ((2 ^ 63 : Nat) : Int) := by
    exact_mod_cast Nat.pow_le_pow_right (by decide) (by omega)
  have e : (((n % ((2 ^ 64 : Nat) : Int)).toNat % 2 ^ j : Nat) : Int) = n % ((2 ^ j : Nat) : Int) := by
    rw [Int.natCast_emod, Int.toNat_of_nonneg (Int.emod_nonneg _ (by decide)), Int.emod_emod_of_dvd _ hd]
  rw [key, e, IntKind.wrap_i64]
  have h0 := Int.emod_nonneg n (Int.ne_of_gt hp)
  have h1 := Int.emod_lt_of_pos n hp
  generalize n % ((2 ^ j : Nat) : Int) = x at *
  generalize ((2 ^ j : Nat) : Int) = y at *
  have : ((2 ^ 63 : Nat) : Int) = 9223372036854775808 := by decide
  omega
theorem and255 (n : Int) : Go.bits .and .i64 n 255 = n % 256 := and_low n 8 255 (by decide) (by decide)
theorem and65535 (n : Int) : Go.bits .and .i64 n 65535 = n % 65536 := and_low n 16 65535 (by decide) (by decide)
/-- A processor's registers and flags. -/
structure Cp where
  A : Int
  X : Int
  S : Int
  P : Int
  Z : Bool
  N : Bool
  C : Bool
  I : Bool
def Cp.cells (k : Cp) : Array Value := #[.int .i64 k.A, .int .i64 k.X, .int .i64 k.S, .int .i64 k.P, .bool k.Z, .bool k.N, .bool k.C, .bool k.I]
/-- A memory at x and a processor at c, both of the call's own; rv is the memory's row. -/
structure MC (w0 w : World) (x c : Nat) (rv : Value) (b : Int) (k : Cp) (ram : List Int) : Prop where
  mem : w.heap[x]? = some (.cells #[rv, .int .i64 b] 37 (0, 0))
  cpu : w.heap[c]? = some (.cells k.cells 38 (0, 0))
  row : Kd.R (Kd.int .i64) 3 w w0.heap.size (fun _ => True) rv ram
  hx : w0.heap.size ≤ x
  hc : w0.heap.size ≤ c
  below : Below w0.heap.size w0 w
theorem MC.ne {w0 w : World} {x c : Nat} {rv : Value} {b : Int} {k : Cp} {ram : List Int} (h : MC w0 w x c rv b k ram) : x ≠ c := blk_ne h.mem h.cpu (by decide)
theorem MC.far {w0 w : World} {x c : Nat} {rv : Value} {b : Int} {k : Cp} {ram : List Int} (h : MC w0 w x c rv b k ram) : some x ≠ rv.ownBlock ∧ some c ≠ rv.ownBlock := ⟨Kd.R_ne h.row h.mem (by decide), Kd.R_ne h.row h.cpu (by decide)⟩
/-- A world that differs only above. -/
theorem MC.later {w0 w w1 : World} {x c : Nat} {rv : Value} {b : Int} {k : Cp} {ram : List Int} (h : MC w0 w x c rv b k ram) (hb : Below w.heap.size w w1) : MC w0 w1 x c rv b k ram :=
  ⟨blk_below h.mem hb, blk_below h.cpu hb, Kd.R_below h.row hb, h.hx, h.hc, below_then h.below h.below.size hb⟩
theorem MC.drewN {w0 w : World} {x c : Nat} {rv : Value} {b : Int} {k : Cp} {ram : List Int} (h : MC w0 w x c rv b k ram) (n : Nat) : MC w0 (w.drewN n) x c rv b k ram := h.later (pw_below_drewN (Below.refl _ _) n)
theorem MC.drew {w0 w : World} {x c : Nat} {rv : Value} {b : Int} {k : Cp} {ram : List Int} (h : MC w0 w x c rv b k ram) : MC w0 w.drew x c rv b k ram := h.later (below_drew1 (Below.refl _ _))
/-- A store into the processor. -/
theorem MC.setC {w0 w : World} {x c : Nat} {rv : Value} {b : Int} {k k' : Cp} {ram : List Int} (h : MC w0 w x c rv b k ram) (i : Nat) (u : Value) (e : k.cells.setIfInBounds i u = k'.cells) : MC w0 (w.setCell ⟨c, i, none⟩ u) x c rv b k' ram :=
  ⟨blk_far h.mem h.ne u, blk_put h.cpu i u e, Kd.R_mono (Kd.R_far (p := ⟨c, i, none⟩) (Kd.R_types h.row h.cpu (by decide)) (fun _ hk => hk.2) u) (fun _ hk => hk.1), h.hx, h.hc, below_set h.below h.hc⟩
/-- A store into the memory's row. -/
theorem MC.setR {w0 w : World} {x c g cap : Nat} {b : Int} {k : Cp} {ram : List Int} (h : MC w0 w x c (.slice (some ⟨g, 0, none⟩) ram.length cap) b k ram) (hg : w0.heap.size ≤ g) (i v : Int) :
    MC w0 (w.setCell ⟨g, i.toNat, none⟩ (.int .i64 v)) x c (.slice (some ⟨g, 0, none⟩) ram.length cap) b k (ram.set i.toNat v) :=
  ⟨blk_far h.mem (fun e => h.far.1 (by rw [e]; rfl)) _, blk_far h.cpu (fun e => h.far.2 (by rw [e]; rfl)) _, Kd.R_putn h.row i v, h.hx, h.hc, below_set h.below hg⟩
theorem kept_set {w W : World} {S : Nat → Prop} (h : Kept w W S) {g i : Nat} (hg : S g) (u : Value) : Kept w (W.setCell ⟨g, i, none⟩ u) S := h.setCell (.inl hg) u
theorem byte_same (a : Int) (w : World) : Calls Try.prog 77 #[.int .i64 a] w fun e w' => e = .returned (.int .i64 (a % 256)) ∧ w' = w := by
  rw [← and255]
  go_enter Try.func77, Try.ntmps77
  go_wp2
  go_ret
  exact ⟨rfl, rfl⟩

/-! ### mine_rows (mine) -/
section
variable {w : World} {r : Nat} {t : TypeId}
theorem heap2 (w : World) (r k : Nat) (u0 u1 : Value) (h : k ≠ r) : ((w.setCell ⟨r, 0, none⟩ u0).setCell ⟨r, 1, none⟩ u1).heap[k]? = w.heap[k]? := by
  refine (Below.heap_setCell _ _ _ k h).trans ?_
  exact Below.heap_setCell _ _ _ k h
theorem put2 {o0 o1 : Value} (h : w.heap[r]? = some (.cells #[o0, o1] t (0, 0))) (u0 u1 : Value) : ((w.setCell ⟨r, 0, none⟩ u0).setCell ⟨r, 1, none⟩ u1).heap[r]? = some (.cells #[u0, u1] t (0, 0)) := by
  refine blk_put (cs := #[u0, o1]) ?_ 1 _ rfl
  exact blk_put h 0 _ rfl
theorem heap8 (w : World) (r k : Nat) (u0 u1 u2 u3 u4 u5 u6 u7 : Value) (h : k ≠ r) : ((((((((w.setCell ⟨r, 0, none⟩ u0).setCell ⟨r, 1, none⟩ u1).setCell ⟨r, 2, none⟩ u2).setCell ⟨r, 3, none⟩ u3).setCell ⟨r, 4, none⟩ u4).setCell ⟨r, 5, none⟩ u5).setCell ⟨r, 6, none⟩ u6).setCell ⟨r, 7, none⟩ u7).heap[k]? = w.heap[k]? := by
  refine (Below.heap_setCell _ _ _ k h).trans ?_
  refine (Below.heap_setCell _ _ _ k h).trans ?_
  refine (Below.heap_setCell _ _ _ k h).trans ?_
  refine (Below.heap_setCell _ _ _ k h).trans ?_
  refine (Below.heap_setCell _ _ _ k h).trans ?_
  refine (Below.heap_setCell _ _ _ k h).trans ?_
  refine (Below.heap_setCell _ _ _ k h).trans ?_
  exact Below.heap_setCell _ _ _ k h
theorem put8 {o0 o1 o2 o3 o4 o5 o6 o7 : Value} (h : w.heap[r]? = some (.cells #[o0, o1, o2, o3, o4, o5, o6, o7] t (0, 0))) (u0 u1 u2 u3 u4 u5 u6 u7 : Value) :
    ((((((((w.setCell ⟨r, 0, none⟩ u0).setCell ⟨r, 1, none⟩ u1).setCell ⟨r, 2, none⟩ u2).setCell ⟨r, 3, none⟩ u3).setCell ⟨r, 4, none⟩ u4).setCell ⟨r, 5, none⟩ u5).setCell ⟨r, 6, none⟩ u6).setCell ⟨r, 7, none⟩ u7).heap[r]? = some (.cells #[u0, u1, u2, u3, u4, u5, u6, u7] t (0, 0)) := by
  refine blk_put (cs := #[u0, u1, u2, u3, u4, u5, u6, o7]) ?_ 7 _ rfl
  refine blk_put (cs := #[u0, u1, u2, u3, u4, u5, o6, o7]) ?_ 6 _ rfl
  refine blk_put (cs := #[u0, u1, u2, u3, u4, o5, o6, o7]) ?_ 5 _ rfl
  refine blk_put (cs := #[u0, u1, u2, u3, o4, o5, o6, o7]) ?_ 4 _ rfl
  refine blk_put (cs := #[u0, u1, u2, o3, o4, o5, o6, o7]) ?_ 3 _ rfl
  refine blk_put (cs := #[u0, u1, o2, o3, o4, o5, o6, o7]) ?_ 2 _ rfl
  refine blk_put (cs := #[u0, o1, o2, o3, o4, o5, o6, o7]) ?_ 1 _ rfl
  exact blk_put h 0 _ rfl
end
theorem row8 {w : World} {r m : Nat} {rv : Value} {ram : List Int} {o0 o1 o2 o3 o4 o5 o6 o7 : Value} (h : Kd.R (Kd.int .i64) 3 w m (fun _ => True) rv ram) (hb : w.heap[r]? = some (.cells #[o0, o1, o2, o3, o4, o5, o6, o7] 38 (0, 0))) (u0 u1 u2 u3 u4 u5 u6 u7 : Value) :
    Kd.R (Kd.int .i64) 3 ((((((((w.setCell ⟨r, 0, none⟩ u0).setCell ⟨r, 1, none⟩ u1).setCell ⟨r, 2, none⟩ u2).setCell ⟨r, 3, none⟩ u3).setCell ⟨r, 4, none⟩ u4).setCell ⟨r, 5, none⟩ u5).setCell ⟨r, 6, none⟩ u6).setCell ⟨r, 7, none⟩ u7) m (fun _ => True) rv ram :=
  Kd.R_mono (Kd.R_far (p := ⟨r, 7, none⟩) (Kd.R_far (p := ⟨r, 6, none⟩) (Kd.R_far (p := ⟨r, 5, none⟩) (Kd.R_far (p := ⟨r, 4, none⟩) (Kd.R_far (p := ⟨r, 3, none⟩) (Kd.R_far (p := ⟨r, 2, none⟩) (Kd.R_far (p := ⟨r, 1, none⟩) (Kd.R_far (p := ⟨r, 0, none⟩) (Kd.R_types h hb (by decide)) (fun _ hk => hk.2) u0) (fun _ hk => hk.2) u1) (fun _ hk => hk.2) u2) (fun _ hk => hk.2) u3) (fun _ hk => hk.2) u4) (fun _ hk => hk.2) u5) (fun _ hk => hk.2) u6) (fun _ hk => hk.2) u7) (fun _ _ => trivial)
theorem below8 {w W : World} {r : Nat} (h : Below w.heap.size w W) (hr : w.heap.size ≤ r) (u0 u1 u2 u3 u4 u5 u6 u7 : Value) : Below w.heap.size w ((((((((W.setCell ⟨r, 0, none⟩ u0).setCell ⟨r, 1, none⟩ u1).setCell ⟨r, 2, none⟩ u2).setCell ⟨r, 3, none⟩ u3).setCell ⟨r, 4, none⟩ u4).setCell ⟨r, 5, none⟩ u5).setCell ⟨r, 6, none⟩ u6).setCell ⟨r, 7, none⟩ u7) :=
  (below_set (below_set (below_set (below_set (below_set (below_set (below_set (below_set h hr) hr) hr) hr) hr) hr) hr) hr)

/-! ### mem_events (mine) -/
theorem eval_get {a : Act} {t : Nat} {v : Value} (h : a.eval (.tmp t) = v) : a.tmps[t]?.getD undef = v := by
  rw [← h]
  show _ = a.tmps.getD t undef
  rw [Array.getD_eq_getD_getElem?]
/-- What an operation of such a region may put: a memory in a row of its own; a memory beside a processor; a new block. -/
def isMem (lo : Nat) (xs : List Int) (b : Int) (v : Value) (w : World) : Prop := ∃ u, v = .agg #[u, .int .i64 b] ∧ Kd.R (Kd.int .i64) 3 w lo (fun _ => True) u xs
def isPair (lo : Nat) (xs : List Int) (b : Int) (c : Value) (v : Value) (w : World) : Prop := ∃ u, v = .tuple #[.agg #[u, .int .i64 b], c] ∧ Kd.R (Kd.int .i64) 3 w lo (fun _ => True) u xs
def isNew (lo : Nat) (t : TypeId) (cs : Array Value) (v : Value) (w : World) : Prop := ∃ g, v = .pointer (some ⟨g, 0, none⟩) ∧ lo ≤ g ∧ w.heap[g]? = some (.cells cs t (0, 0))
theorem isMem_below {lo : Nat} {xs : List Int} {b : Int} {v : Value} {w w' : World} (h : isMem lo xs b v w) (hb : Below w.heap.size w w') : isMem lo xs b v w' := by
  obtain ⟨u, e, r⟩ := h
  exact ⟨u, e, Kd.R_below r hb⟩
theorem isPair_below {lo : Nat} {xs : List Int} {b : Int} {c v : Value} {w w' : World} (h : isPair lo xs b c v w) (hb : Below w.heap.size w w') : isPair lo xs b c v w' := by
  obtain ⟨u, e, r⟩ := h
  exact ⟨u, e, Kd.R_below r hb⟩
theorem isNew_below {lo : Nat} {t : TypeId} {cs : Array Value} {v : Value} {w w' : World} (h : isNew lo t cs v w) (hb : Below w.heap.size w w') : isNew lo t cs v w' := by
  obtain ⟨g, e, hl, hg⟩ := h
  exact ⟨g, e, hl, blk_below hg hb⟩
theorem rowS2 {w : World} {r m : Nat} {ok : Nat → Prop} {rv : Value} {ram : List Int} {o0 o1 : Value} (h : Kd.R (Kd.int .i64) 3 w m ok rv ram) (hb : w.heap[r]? = some (.cells #[o0, o1] 37 (0, 0))) (u0 u1 : Value) :
    Kd.R (Kd.int .i64) 3 ((w.setCell ⟨r, 0, none⟩ u0).setCell ⟨r, 1, none⟩ u1) m ok rv ram :=
  Kd.R_mono (Kd.R_far (p := ⟨r, 1, none⟩) (Kd.R_far (p := ⟨r, 0, none⟩) (Kd.R_types h hb (by decide)) (fun _ hk => hk.2) u0) (fun _ hk => hk.2) u1) (fun _ hk => hk.1)
theorem rowS8 {w : World} {r m : Nat} {ok : Nat → Prop} {rv : Value} {ram : List Int} {o0 o1 o2 o3 o4 o5 o6 o7 : Value} (h : Kd.R (Kd.int .i64) 3 w m ok rv ram) (hb : w.heap[r]? = some (.cells #[o0, o1, o2, o3, o4, o5, o6, o7] 38 (0, 0))) (u0 u1 u2 u3 u4 u5 u6 u7 : Value) :
    Kd.R (Kd.int .i64) 3 ((((((((w.setCell ⟨r, 0, none⟩ u0).setCell ⟨r, 1, none⟩ u1).setCell ⟨r, 2, none⟩ u2).setCell ⟨r, 3, none⟩ u3).setCell ⟨r, 4, none⟩ u4).setCell ⟨r, 5, none⟩ u5).setCell ⟨r, 6, none⟩ u6).setCell ⟨r, 7, none⟩ u7) m ok rv ram :=
  Kd.R_mono (Kd.R_far (p := ⟨r, 7, none⟩) (Kd.R_far (p := ⟨r, 6, none⟩) (Kd.R_far (p := ⟨r, 5, none⟩) (Kd.R_far (p := ⟨r, 4, none⟩) (Kd.R_far (p := ⟨r, 3, none⟩) (Kd.R_far (p := ⟨r, 2, none⟩) (Kd.R_far (p := ⟨r, 1, none⟩) (Kd.R_far (p := ⟨r, 0, none⟩) (Kd.R_types h hb (by decide)) (fun _ hk => hk.2) u0) (fun _ hk => hk.2) u1) (fun _ hk => hk.2) u2) (fun _ hk => hk.2) u3) (fun _ hk => hk.2) u4) (fun _ hk => hk.2) u5) (fun _ hk => hk.2) u6) (fun _ hk => hk.2) u7) (fun _ hk => hk.1)
theorem below2 {w W : World} {r : Nat} (h : Below w.heap.size w W) (hr : w.heap.size ≤ r) (u0 u1 : Value) : Below w.heap.size w ((W.setCell ⟨r, 0, none⟩ u0).setCell ⟨r, 1, none⟩ u1) := below_set (below_set h hr) hr
/-- Behind the stores of a memory and of a processor into blocks of their own. -/
theorem stored {W : World} {g1 g2 : Nat} {q0 q1 : Value} {o0 o1 o2 o3 o4 o5 o6 o7 : Value} (hb1 : W.heap[g1]? = some (.cells #[q0, q1] 37 (0, 0))) (hb2 : W.heap[g2]? = some (.cells #[o0, o1, o2, o3, o4, o5, o6, o7] 38 (0, 0))) (p0 p1 : Value) (u0 u1 u2 u3 u4 u5 u6 u7 : Value) :
    ((((((((((W.setCell ⟨g1, 0, none⟩ p0).setCell ⟨g1, 1, none⟩ p1).setCell ⟨g2, 0, none⟩ u0).setCell ⟨g2, 1, none⟩ u1).setCell ⟨g2, 2, none⟩ u2).setCell ⟨g2, 3, none⟩ u3).setCell ⟨g2, 4, none⟩ u4).setCell ⟨g2, 5, none⟩ u5).setCell ⟨g2, 6, none⟩ u6).setCell ⟨g2, 7, none⟩ u7).heap[g1]? = some (.cells #[p0, p1] 37 (0, 0)) ∧ ((((((((((W.setCell ⟨g1, 0, none⟩ p0).setCell ⟨g1, 1, none⟩ p1).setCell ⟨g2, 0, none⟩ u0).setCell ⟨g2, 1, none⟩ u1).setCell ⟨g2, 2, none⟩ u2).setCell ⟨g2, 3, none⟩ u3).setCell ⟨g2, 4, none⟩ u4).setCell ⟨g2, 5, none⟩ u5).setCell ⟨g2, 6, none⟩ u6).setCell ⟨g2, 7, none⟩ u7).heap[g2]? = some (.cells #[u0, u1, u2, u3, u4, u5, u6, u7] 38 (0, 0)) ∧ (∀ k, k ≠ g1 → k ≠ g2 → ((((((((((W.setCell ⟨g1, 0, none⟩ p0).setCell ⟨g1, 1, none⟩ p1).setCell ⟨g2, 0, none⟩ u0).setCell ⟨g2, 1, none⟩ u1).setCell ⟨g2, 2, none⟩ u2).setCell ⟨g2, 3, none⟩ u3).setCell ⟨g2, 4, none⟩ u4).setCell ⟨g2, 5, none⟩ u5).setCell ⟨g2, 6, none⟩ u6).setCell ⟨g2, 7, none⟩ u7).heap[k]? = W.heap[k]?) ∧
      (∀ lo ok u xs, Kd.R (Kd.int .i64) 3 W lo ok u xs → Kd.R (Kd.int .i64) 3 ((((((((((W.setCell ⟨g1, 0, none⟩ p0).setCell ⟨g1, 1, none⟩ p1).setCell ⟨g2, 0, none⟩ u0).setCell ⟨g2, 1, none⟩ u1).setCell ⟨g2, 2, none⟩ u2).setCell ⟨g2, 3, none⟩ u3).setCell ⟨g2, 4, none⟩ u4).setCell ⟨g2, 5, none⟩ u5).setCell ⟨g2, 6, none⟩ u6).setCell ⟨g2, 7, none⟩ u7) lo ok u xs) ∧ (∀ w : World, Below w.heap.size w W → w.heap.size ≤ g1 → w.heap.size ≤ g2 → Below w.heap.size w ((((((((((W.setCell ⟨g1, 0, none⟩ p0).setCell ⟨g1, 1, none⟩ p1).setCell ⟨g2, 0, none⟩ u0).setCell ⟨g2, 1, none⟩ u1).setCell ⟨g2, 2, none⟩ u2).setCell ⟨g2, 3, none⟩ u3).setCell ⟨g2, 4, none⟩ u4).setCell ⟨g2, 5, none⟩ u5).setCell ⟨g2, 6, none⟩ u6).setCell ⟨g2, 7, none⟩ u7)) := by
  have hne : g1 ≠ g2 := blk_ne hb1 hb2 (by decide)
  have h2 : ((W.setCell ⟨g1, 0, none⟩ p0).setCell ⟨g1, 1, none⟩ p1).heap[g2]? = some (.cells #[o0, o1, o2, o3, o4, o5, o6, o7] 38 (0, 0)) := (heap2 _ _ _ _ _ hne.symm).trans hb2
  exact ⟨(heap8 _ _ _ _ _ _ _ _ _ _ _ hne).trans (put2 hb1 _ _), put8 h2 _ _ _ _ _ _ _ _, fun k h h' => (heap8 _ _ _ _ _ _ _ _ _ _ _ h').trans (heap2 _ _ _ _ _ h),
    fun lo ok u xs h => rowS8 (rowS2 h hb1 _ _) h2 _ _ _ _ _ _ _ _, fun w h k1 k2 => below8 (below2 h k1 _ _) k2 _ _ _ _ _ _ _ _⟩

/-! ### mem_pairs (mine) -/
/-- The boxes of the law's own arguments, at the call's first blocks. -/
structure ArgW (w W : World) (a b : Array Value) : Prop where
  below : Below w.heap.size w W
  fst : W.heap[w.heap.size]? = some (.cells a 33 (0, 0))
  snd : W.heap[w.heap.size + 1]? = some (.cells b 35 (0, 0))
theorem ArgW.kept {w W W' : World} {a b : Array Value} {S : Nat → Prop} (h : ArgW w W a b) (hk : Kept W W' S) (hb : Below w.heap.size w W') (hS : ∀ k, k < w.heap.size + 2 → ¬ S k) : ArgW w W' a b :=
  ⟨hb, blk_kept h.fst hk (hS _ (by omega)), blk_kept h.snd hk (hS _ (by omega))⟩
/-- A memory and a processor in blocks of their own, between two heights. -/
structure PairW (w W : World) (g1 g2 : Nat) (A : Option Addr) (c : Nat) (xs : List Int) (b : Int) (cs : Array Value) (lo hi : Nat) : Prop where
  mem : W.heap[g1]? = some (.cells #[.slice A xs.length c, .int .i64 b] 37 (0, 0))
  cpu : W.heap[g2]? = some (.cells cs 38 (0, 0))
  row : Kd.R (Kd.int .i64) 3 W w.heap.size (fun k => lo ≤ k ∧ k < hi ∧ k ≠ g1 ∧ k ≠ g2) (.slice A xs.length c) xs
  h1 : lo ≤ g1 ∧ g1 < hi
  h2 : lo ≤ g2 ∧ g2 < hi
theorem PairW.kept {w W W' : World} {g1 g2 : Nat} {A : Option Addr} {c : Nat} {xs : List Int} {b : Int} {cs : Array Value} {lo hi : Nat} {S : Nat → Prop} (h : PairW w W g1 g2 A c xs b cs lo hi) (hk : Kept W W' S) (hS : ∀ k, lo ≤ k → k < hi → ¬ S k) : PairW w W' g1 g2 A c xs b cs lo hi :=
  ⟨blk_kept h.mem hk (hS _ h.h1.1 h.h1.2), blk_kept h.cpu hk (hS _ h.h2.1 h.h2.2), Kd.R_kept h.row hk (fun k hk => hS k hk.1 hk.2.1), h.h1, h.h2⟩
/-- A memory alone. -/
structure MemW (w W : World) (g : Nat) (A : Option Addr) (c : Nat) (xs : List Int) (b : Int) (lo hi : Nat) : Prop where
  mem : W.heap[g]? = some (.cells #[.slice A xs.length c, .int .i64 b] 37 (0, 0))
  row : Kd.R (Kd.int .i64) 3 W w.heap.size (fun k => lo ≤ k ∧ k < hi ∧ k ≠ g) (.slice A xs.length c) xs
  h1 : lo ≤ g ∧ g < hi
theorem MemW.kept {w W W' : World} {g : Nat} {A : Option Addr} {c : Nat} {xs : List Int} {b : Int} {lo hi : Nat} {S : Nat → Prop} (h : MemW w W g A c xs b lo hi) (hk : Kept W W' S) (hS : ∀ k, lo ≤ k → k < hi → ¬ S k) : MemW w W' g A c xs b lo hi :=
  ⟨blk_kept h.mem hk (hS _ h.h1.1 h.h1.2), Kd.R_kept h.row hk (fun k hk => hS k hk.1 hk.2.1), h.h1⟩
theorem R_between {W : World} {lo base : Nat} {u : Value} {xs : List Int} {ok : Nat → Prop} (h : Kd.R (Kd.int .i64) 3 W lo ok u xs) (hb : base ≤ lo) : Kd.R (Kd.int .i64) 3 W base (fun k => ok k ∧ lo ≤ k ∧ k < W.heap.size) u xs :=
  Kd.R_lower (Kd.R_mono (Kd.R_bound h) (fun k hk => ⟨hk.1, hk.2.1, hk.2.2.1⟩)) hb
theorem pair_made {w W1 W : World} {g1 g2 : Nat} {u : Value} {xs : List Int} {q0 q1 o0 o1 o2 o3 o4 o5 o6 o7 : Value} (hB : Below w.heap.size w W1) (hW : Below W1.heap.size W1.drew W) (hR : Kd.R (Kd.int .i64) 3 W W1.heap.size (fun _ => True) u xs)
    (hb1 : W.heap[g1]? = some (.cells #[q0, q1] 37 (0, 0))) (hb2 : W.heap[g2]? = some (.cells #[o0, o1, o2, o3, o4, o5, o6, o7] 38 (0, 0))) (hg1 : W1.heap.size ≤ g1) (hg2 : W1.heap.size ≤ g2) (b : Int) (u0 u1 u2 u3 u4 u5 u6 u7 : Value) :
    ∃ A c, u = .slice A xs.length c ∧ PairW w ((((((((((W.setCell ⟨g1, 0, none⟩ u).setCell ⟨g1, 1, none⟩ (.int .i64 b)).setCell ⟨g2, 0, none⟩ u0).setCell ⟨g2, 1, none⟩ u1).setCell ⟨g2, 2, none⟩ u2).setCell ⟨g2, 3, none⟩ u3).setCell ⟨g2, 4, none⟩ u4).setCell ⟨g2, 5, none⟩ u5).setCell ⟨g2, 6, none⟩ u6).setCell ⟨g2, 7, none⟩ u7) g1 g2 A c xs b #[u0, u1, u2, u3, u4, u5, u6, u7] W1.heap.size ((((((((((W.setCell ⟨g1, 0, none⟩ u).setCell ⟨g1, 1, none⟩ (.int .i64 b)).setCell ⟨g2, 0, none⟩ u0).setCell ⟨g2, 1, none⟩ u1).setCell ⟨g2, 2, none⟩ u2).setCell ⟨g2, 3, none⟩ u3).setCell ⟨g2, 4, none⟩ u4).setCell ⟨g2, 5, none⟩ u5).setCell ⟨g2, 6, none⟩ u6).setCell ⟨g2, 7, none⟩ u7).heap.size ∧ Kept W1 ((((((((((W.setCell ⟨g1, 0, none⟩ u).setCell ⟨g1, 1, none⟩ (.int .i64 b)).setCell ⟨g2, 0, none⟩ u0).setCell ⟨g2, 1, none⟩ u1).setCell ⟨g2, 2, none⟩ u2).setCell ⟨g2, 3, none⟩ u3).setCell ⟨g2, 4, none⟩ u4).setCell ⟨g2, 5, none⟩ u5).setCell ⟨g2, 6, none⟩ u6).setCell ⟨g2, 7, none⟩ u7) (fun _ => False) ∧ Below w.heap.size w ((((((((((W.setCell ⟨g1, 0, none⟩ u).setCell ⟨g1, 1, none⟩ (.int .i64 b)).setCell ⟨g2, 0, none⟩ u0).setCell ⟨g2, 1, none⟩ u1).setCell ⟨g2, 2, none⟩ u2).setCell ⟨g2, 3, none⟩ u3).setCell ⟨g2, 4, none⟩ u4).setCell ⟨g2, 5, none⟩ u5).setCell ⟨g2, 6, none⟩ u6).setCell ⟨g2, 7, none⟩ u7) := by
  obtain ⟨A, c, rfl⟩ := Kd.R_slice hR
  obtain ⟨s1, s2, s3, s4, s5⟩ := stored hb1 hb2 (.slice A xs.length c) (.int .i64 b) u0 u1 u2 u3 u4 u5 u6 u7
  have hsz := hB.size
  have hb := s5 w (below_step (w := w) (W := W1.drew) (below_drew1 hB) hW) (by omega) (by omega)
  have hk := s5 W1.drew hW hg1 hg2
  have r := s4 _ _ _ _ hR
  generalize ((((((((((W.setCell ⟨g1, 0, none⟩ (.slice A xs.length c)).setCell ⟨g1, 1, none⟩ (.int .i64 b)).setCell ⟨g2, 0, none⟩ u0).setCell ⟨g2, 1, none⟩ u1).setCell ⟨g2, 2, none⟩ u2).setCell ⟨g2, 3, none⟩ u3).setCell ⟨g2, 4, none⟩ u4).setCell ⟨g2, 5, none⟩ u5).setCell ⟨g2, 6, none⟩ u6).setCell ⟨g2, 7, none⟩ u7) = Z at *
  have k1 := blk_lt s1
  have k2 := blk_lt s2
  refine ⟨A, c, rfl, ⟨s1, s2, ?_, ⟨hg1, k1⟩, ⟨hg2, k2⟩⟩, ⟨hk.size, fun i hi _ => hk.block i hi⟩, hb⟩
  exact Kd.R_mono (Kd.R_types (Kd.R_types (R_between r hsz) s1 (by decide)) s2 (by decide)) (fun k hk => ⟨hk.1.1.2.1, hk.1.1.2.2, hk.1.2, hk.2⟩)
theorem mem_made {w W1 W : World} {g1 : Nat} {u : Value} {xs : List Int} {q0 q1 : Value} (hB : Below w.heap.size w W1) (hW : Below W1.heap.size W1 W) (hR : Kd.R (Kd.int .i64) 3 W W1.heap.size (fun _ => True) u xs)
    (hb1 : W.heap[g1]? = some (.cells #[q0, q1] 37 (0, 0))) (hg1 : W1.heap.size ≤ g1) (b : Int) :
    ∃ A c, u = .slice A xs.length c ∧ MemW w ((W.setCell ⟨g1, 0, none⟩ u).setCell ⟨g1, 1, none⟩ (.int .i64 b)) g1 A c xs b W1.heap.size ((W.setCell ⟨g1, 0, none⟩ u).setCell ⟨g1, 1, none⟩ (.int .i64 b)).heap.size ∧ Kept W1 ((W.setCell ⟨g1, 0, none⟩ u).setCell ⟨g1, 1, none⟩ (.int .i64 b)) (fun _ => False) ∧ Below w.heap.size w ((W.setCell ⟨g1, 0, none⟩ u).setCell ⟨g1, 1, none⟩ (.int .i64 b)) := by
  obtain ⟨A, c, rfl⟩ := Kd.R_slice hR
  have hsz := hB.size
  have s1 := put2 hb1 (.slice A xs.length c) (.int .i64 b)
  have hb := below2 (below_step hB hW) (show w.heap.size ≤ g1 by omega) (.slice A xs.length c) (.int .i64 b)
  have hk := below2 (w := W1) hW hg1 (.slice A xs.length c) (.int .i64 b)
  have r := rowS2 hR hb1 (.slice A xs.length c) (.int .i64 b)
  generalize ((W.setCell ⟨g1, 0, none⟩ (.slice A xs.length c)).setCell ⟨g1, 1, none⟩ (.int .i64 b)) = Z at *
  have k1 := blk_lt s1
  refine ⟨A, c, rfl, ⟨s1, ?_, ⟨hg1, k1⟩⟩, ⟨hk.size, fun i hi _ => hk.block i hi⟩, hb⟩
  exact Kd.R_mono (Kd.R_types (R_between r hsz) s1 (by decide)) (fun k hk => ⟨hk.1.2.1, hk.1.2.2, hk.2⟩)
theorem mem_made0 {w W1 W : World} {g1 : Nat} {A : Option Addr} {c : Nat} {xs : List Int} {b : Int} (hB : Below w.heap.size w W1) (hW : Below W1.heap.size W1 W) (hR : Kd.R (Kd.int .i64) 3 W W1.heap.size (fun _ => True) (.slice A xs.length c) xs)
    (hb1 : W.heap[g1]? = some (.cells #[.slice A xs.length c, .int .i64 b] 37 (0, 0))) (hg1 : W1.heap.size ≤ g1) : MemW w W g1 A c xs b W1.heap.size W.heap.size ∧ Kept W1 W (fun _ => False) ∧ Below w.heap.size w W := by
  have hsz := hB.size
  have k1 := blk_lt hb1
  refine ⟨⟨hb1, ?_, ⟨hg1, k1⟩⟩, ⟨hW.size, fun i hi _ => hW.block i hi⟩, below_step hB hW⟩
  exact Kd.R_mono (Kd.R_types (R_between hR hsz) hb1 (by decide)) (fun k hk => ⟨hk.1.2.1, hk.1.2.2, hk.2⟩)
/-- A memory of the call's own, to be read only. -/
structure OwnW (w W : World) (g : Nat) (A : Option Addr) (c : Nat) (xs : List Int) (b : Int) : Prop where
  mem : W.heap[g]? = some (.cells #[.slice A xs.length c, .int .i64 b] 37 (0, 0))
  row : ∃ ok, Kd.R (Kd.int .i64) 3 W w.heap.size ok (.slice A xs.length c) xs
theorem OwnW.kept {w W W' : World} {g : Nat} {A : Option Addr} {c : Nat} {xs : List Int} {b : Int} {S : Nat → Prop} (h : OwnW w W g A c xs b) (hk : Kept W W' S) (hS : ∀ k : Nat, True → True → ¬ S k) : OwnW w W' g A c xs b := by
  obtain ⟨ok, hr⟩ := h.row
  exact ⟨blk_kept h.mem hk (hS _ trivial trivial), ok, Kd.R_kept hr hk (fun k _ => hS k trivial trivial)⟩
theorem OwnW.reads {w W : World} {g : Nat} {A : Option Addr} {c : Nat} {xs : List Int} {b : Int} (h : OwnW w W g A c xs b) : xs.length ≤ c ∧ Kd.C (Kd.int .i64) W A xs.length xs := by
  obtain ⟨ok, hr⟩ := h.row
  obtain ⟨_, h1, h2⟩ := Kd.R_reads' hr
  exact ⟨h1, h2⟩

/-! ### impl_Addr: function 109 -/
def impl_Addr.f (a0 : Int) : Option (Int) := some (Go.bits .and .i64 a0 65535)
set_option maxHeartbeats 8000000 in
set_option maxRecDepth 100000 in
theorem impl_Addr.calls (a0 : Int) (r : Int) (w : World) (h : impl_Addr.f a0 = some r) :
    Calls Try.prog 109 #[.int .i64 a0] w fun e w' => e = .returned (.int .i64 r) ∧ Drawn0 w w' := by
  have H : (some (Go.bits .and .i64 a0 65535)) = some r := h
  clear h
  obtain rfl := Option.some.inj H
  go_enter Try.func109, Try.ntmps109
  go_wp2
  go_ret
  exact ⟨by first | rfl | (simp; done) | (simp [*]; done), by repeat (first | exact Drawn0.refl _ | apply Drawn0.step)⟩

/-! ### impl_Region: function 100 -/
def impl_Region.f (a0 : Int) : Option (Int × Int) := (impl_Addr.f a0).bind fun t212 => (if t212 < 8192 then (some (1, Int.tmod t212 512)) else (if t212 < 16384 then (some (2, Int.tmod t212 8)) else (if t212 < 16388 then (some (3, Int.tmod t212 4)) else (if t212 = 16406 then (some (4, 0)) else (if t212 < 32768 then (some (7, 0)) else (if t212 < 49152 then (some (5, Int.tmod t212 256)) else (some (6, Int.tmod t212 256))))))))
set_option maxHeartbeats 8000000 in
set_option maxRecDepth 100000 in
theorem impl_Region.calls (a0 : Int) (r1 : Int) (r2 : Int) (w : World) (h : impl_Region.f a0 = some (r1, r2)) :
    Calls Try.prog 100 #[.int .i64 a0] w fun e w' => e = .returned (.tuple #[.int .i64 r1, .int .i64 r2]) ∧ Drawn0 w w' := by
  have H : ((impl_Addr.f a0).bind fun t212 => (if t212 < 8192 then (some (1, Int.tmod t212 512)) else (if t212 < 16384 then (some (2, Int.tmod t212 8)) else (if t212 < 16388 then (some (3, Int.tmod t212 4)) else (if t212 = 16406 then (some (4, 0)) else (if t212 < 32768 then (some (7, 0)) else (if t212 < 49152 then (some (5, Int.tmod t212 256)) else (some (6, Int.tmod t212 256))))))))) = some (r1, r2) := h
  clear h
  replace H := Option.bind_eq_some_iff.mp H
  obtain ⟨t212, A20, H⟩ := H
  replace H : (if t212 < 8192 then (some (1, Int.tmod t212 512)) else (if t212 < 16384 then (some (2, Int.tmod t212 8)) else (if t212 < 16388 then (some (3, Int.tmod t212 4)) else (if t212 = 16406 then (some (4, 0)) else (if t212 < 32768 then (some (7, 0)) else (if t212 < 49152 then (some (5, Int.tmod t212 256)) else (some (6, Int.tmod t212 256)))))))) = some (r1, r2) := H
  have A2 := Aside0.mk A20
  clear A20
  by_cases c3 : t212 < 8192
  · rw [if_pos c3] at H
    have c3b0 : decide (t212 < 8192) = true := decide_eq_true c3
    clear c3
    simp only [Option.some.injEq, Prod.mk.injEq] at H
    obtain ⟨rfl, rfl⟩ := H
    go_enter Try.func100, Try.ntmps100
    go_wp2_with (first | ((with_reducible refine gate_callee (f := 109) rfl ?_); refine goesL_ (some 5) rfl rfl Try.func109 (by kernel_rfl) rfl #[.int .i64 a0] rfl (by (try simp only [List.map_toArray, List.map_cons, List.map_nil]); first | done | rfl | (simp only [List.length_drop, List.length_take]; rfl)) ?_; (with_reducible refine (impl_Addr.calls a0 t212 _ A2.out).mono ?_); rintro e w' ⟨rfl, ⟨nd, rfl⟩⟩; refine ⟨_, rfl, ?_⟩))
    go_ret2
    exact ⟨by first | rfl | (simp; done) | (simp [*]; done), by repeat (first | exact Drawn0.refl _ | apply Drawn0.step)⟩
  · rw [if_neg c3] at H
    have c3b0 : decide (t212 < 8192) = false := decide_eq_false c3
    clear c3
    by_cases c4 : t212 < 16384
    · rw [if_pos c4] at H
      have c4b0 : decide (t212 < 16384) = true := decide_eq_true c4
      clear c4
      simp only [Option.some.injEq, Prod.mk.injEq] at H
      obtain ⟨rfl, rfl⟩ := H
      go_enter Try.func100, Try.ntmps100
      go_wp2_with (first | ((with_reducible refine gate_callee (f := 109) rfl ?_); refine goesL_ (some 5) rfl rfl Try.func109 (by kernel_rfl) rfl #[.int .i64 a0] rfl (by (try simp only [List.map_toArray, List.map_cons, List.map_nil]); first | done | rfl | (simp only [List.length_drop, List.length_take]; rfl)) ?_; (with_reducible refine (impl_Addr.calls a0 t212 _ A2.out).mono ?_); rintro e w' ⟨rfl, ⟨nd, rfl⟩⟩; refine ⟨_, rfl, ?_⟩))
      go_ret2
      exact ⟨by first | rfl | (simp; done) | (simp [*]; done), by repeat (first | exact Drawn0.refl _ | apply Drawn0.step)⟩
    · rw [if_neg c4] at H
      have c4b0 : decide (t212 < 16384) = false := decide_eq_false c4
      clear c4
      by_cases c5 : t212 < 16388
      · rw [if_pos c5] at H
        have c5b0 : decide (t212 < 16388) = true := decide_eq_true c5
        clear c5
        simp only [Option.some.injEq, Prod.mk.injEq] at H
        obtain ⟨rfl, rfl⟩ := H
        go_enter Try.func100, Try.ntmps100
        go_wp2_with (first | ((with_reducible refine gate_callee (f := 109) rfl ?_); refine goesL_ (some 5) rfl rfl Try.func109 (by kernel_rfl) rfl #[.int .i64 a0] rfl (by (try simp only [List.map_toArray, List.map_cons, List.map_nil]); first | done | rfl | (simp only [List.length_drop, List.length_take]; rfl)) ?_; (with_reducible refine (impl_Addr.calls a0 t212 _ A2.out).mono ?_); rintro e w' ⟨rfl, ⟨nd, rfl⟩⟩; refine ⟨_, rfl, ?_⟩))
        go_ret2
        exact ⟨by first | rfl | (simp; done) | (simp [*]; done), by repeat (first | exact Drawn0.refl _ | apply Drawn0.step)⟩
      · rw [if_neg c5] at H
        have c5b0 : decide (t212 < 16388) = false := decide_eq_false c5
        clear c5
        by_cases c6 : t212 = 16406
        · rw [if_pos c6] at H
          have c6b0 : (t212 == 16406) = true := beq_iff_eq.mpr c6
          have c6b1 : (t212 != 16406) = false := bne_eq_false_iff_eq.mpr c6
          clear c6
          simp only [Option.some.injEq, Prod.mk.injEq] at H
          obtain ⟨rfl, rfl⟩ := H
          go_enter Try.func100, Try.ntmps100
          go_wp2_with (first | ((with_reducible refine gate_callee (f := 109) rfl ?_); refine goesL_ (some 5) rfl rfl Try.func109 (by kernel_rfl) rfl #[.int .i64 a0] rfl (by (try simp only [List.map_toArray, List.map_cons, List.map_nil]); first | done | rfl | (simp only [List.length_drop, List.length_take]; rfl)) ?_; (with_reducible refine (impl_Addr.calls a0 t212 _ A2.out).mono ?_); rintro e w' ⟨rfl, ⟨nd, rfl⟩⟩; refine ⟨_, rfl, ?_⟩))
          go_ret2
          exact ⟨by first | rfl | (simp; done) | (simp [*]; done), by repeat (first | exact Drawn0.refl _ | apply Drawn0.step)⟩
        · rw [if_neg c6] at H
          have c6b0 : (t212 == 16406) = false := beq_eq_false_iff_ne.mpr c6
          have c6b1 : (t212 != 16406) = true := bne_iff_ne.mpr c6
          by_cases c7 : t212 < 32768
          · rw [if_pos c7] at H
            have c7b0 : decide (t212 < 32768) = true := decide_eq_true c7
            clear c7
            simp only [Option.some.injEq, Prod.mk.injEq] at H
            obtain ⟨rfl, rfl⟩ := H
            go_enter Try.func100, Try.ntmps100
            go_wp2_with (first | ((with_reducible refine gate_callee (f := 109) rfl ?_); refine goesL_ (some 5) rfl rfl Try.func109 (by kernel_rfl) rfl #[.int .i64 a0] rfl (by (try simp only [List.map_toArray, List.map_cons, List.map_nil]); first | done | rfl | (simp only [List.length_drop, List.length_take]; rfl)) ?_; (with_reducible refine (impl_Addr.calls a0 t212 _ A2.out).mono ?_); rintro e w' ⟨rfl, ⟨nd, rfl⟩⟩; refine ⟨_, rfl, ?_⟩))
            go_ret2
            exact ⟨by first | rfl | (simp; done) | (simp [*]; done), by repeat (first | exact Drawn0.refl _ | apply Drawn0.step)⟩
          · rw [if_neg c7] at H
            have c7b0 : decide (t212 < 32768) = false := decide_eq_false c7
            clear c7
            by_cases c8 : t212 < 49152
            · rw [if_pos c8] at H
              have c8b0 : decide (t212 < 49152) = true := decide_eq_true c8
              clear c8
              simp only [Option.some.injEq, Prod.mk.injEq] at H
              obtain ⟨rfl, rfl⟩ := H
              go_enter Try.func100, Try.ntmps100
              go_wp2_with (first | ((with_reducible refine gate_callee (f := 109) rfl ?_); refine goesL_ (some 5) rfl rfl Try.func109 (by kernel_rfl) rfl #[.int .i64 a0] rfl (by (try simp only [List.map_toArray, List.map_cons, List.map_nil]); first | done | rfl | (simp only [List.length_drop, List.length_take]; rfl)) ?_; (with_reducible refine (impl_Addr.calls a0 t212 _ A2.out).mono ?_); rintro e w' ⟨rfl, ⟨nd, rfl⟩⟩; refine ⟨_, rfl, ?_⟩))
              go_ret2
              exact ⟨by first | rfl | (simp; done) | (simp [*]; done), by repeat (first | exact Drawn0.refl _ | apply Drawn0.step)⟩
            · rw [if_neg c8] at H
              have c8b0 : decide (t212 < 49152) = false := decide_eq_false c8
              clear c8
              simp only [Option.some.injEq, Prod.mk.injEq] at H
              obtain ⟨rfl, rfl⟩ := H
              go_enter Try.func100, Try.ntmps100
              go_wp2_with (first | ((with_reducible refine gate_callee (f := 109) rfl ?_); refine goesL_ (some 5) rfl rfl Try.func109 (by kernel_rfl) rfl #[.int .i64 a0] rfl (by (try simp only [List.map_toArray, List.map_cons, List.map_nil]); first | done | rfl | (simp only [List.length_drop, List.length_take]; rfl)) ?_; (with_reducible refine (impl_Addr.calls a0 t212 _ A2.out).mono ?_); rintro e w' ⟨rfl, ⟨nd, rfl⟩⟩; refine ⟨_, rfl, ?_⟩))
              go_ret2
              exact ⟨by first | rfl | (simp; done) | (simp [*]; done), by repeat (first | exact Drawn0.refl _ | apply Drawn0.step)⟩

-- NOT PRINTED: function 86 (impl_Mem_poke)

-- NOT PRINTED: function 51 (impl_Poke)

-- NOT PRINTED: function 11 (laws_FnExactPoke)

/-! ### mem_poke (mine) -/
/-- A memory at x of the call's own; rv is its row. -/
structure MO (w0 w : World) (x : Nat) (rv : Value) (b : Int) (ram : List Int) : Prop where
  mem : w.heap[x]? = some (.cells #[rv, .int .i64 b] 37 (0, 0))
  row : Kd.R (Kd.int .i64) 3 w w0.heap.size (fun _ => True) rv ram
  hx : w0.heap.size ≤ x
  below : Below w0.heap.size w0 w
theorem MO.far {w0 w : World} {x : Nat} {rv : Value} {b : Int} {ram : List Int} (h : MO w0 w x rv b ram) : some x ≠ rv.ownBlock := Kd.R_ne h.row h.mem (by decide)
theorem MO.later {w0 w w1 : World} {x : Nat} {rv : Value} {b : Int} {ram : List Int} (h : MO w0 w x rv b ram) (hb : Below w.heap.size w w1) : MO w0 w1 x rv b ram :=
  ⟨blk_below h.mem hb, Kd.R_below h.row hb, h.hx, below_then h.below h.below.size hb⟩
theorem MO.drewN {w0 w : World} {x : Nat} {rv : Value} {b : Int} {ram : List Int} (h : MO w0 w x rv b ram) (n : Nat) : MO w0 (w.drewN n) x rv b ram := h.later (pw_below_drewN (Below.refl _ _) n)
theorem MO.drew {w0 w : World} {x : Nat} {rv : Value} {b : Int} {ram : List Int} (h : MO w0 w x rv b ram) : MO w0 w.drew x rv b ram := h.later (below_drew1 (Below.refl _ _))
theorem MO.setB {w0 w : World} {x : Nat} {rv : Value} {b : Int} {ram : List Int} (h : MO w0 w x rv b ram) (b' : Int) : MO w0 (w.setCell ⟨x, 1, none⟩ (.int .i64 b')) x rv b' ram :=
  ⟨blk_put h.mem 1 _ rfl, Kd.R_mono (Kd.R_far (p := ⟨x, 1, none⟩) (Kd.R_types h.row h.mem (by decide)) (fun _ hk => hk.2) _) (fun _ hk => hk.1), h.hx, below_set h.below h.hx⟩
theorem MO.setR {w0 w : World} {x g cap : Nat} {b : Int} {ram : List Int} (h : MO w0 w x (.slice (some ⟨g, 0, none⟩) ram.length cap) b ram) (hg : w0.heap.size ≤ g) (i v : Int) :
    MO w0 (w.setCell ⟨g, i.toNat, none⟩ (.int .i64 v)) x (.slice (some ⟨g, 0, none⟩) ram.length cap) b (ram.set i.toNat v) :=
  ⟨blk_far h.mem (fun e => h.far (by rw [e]; rfl)) _, Kd.R_putn h.row i v, h.hx, below_set h.below hg⟩
def pokeF (n : Int) (ram : List Int) (b rg a v : Int) : List Int × Int := if rg = 1 then (ram.set a.toNat (v % 256), b) else if rg = 5 ∨ rg = 6 then (ram, Int.tmod (v % 256) n) else (ram, b)
theorem frozen_below {w w1 : World} (h : Below w.heap.size w w1) {a : Addr} (ha : a.block < w.heap.size) (hc : w.frozen? a = false) : w1.frozen? a = false := (h.frozen ha).trans hc
set_option maxRecDepth 100000 in
set_option maxHeartbeats 1000000 in
theorem poke_ram (x g cap : Nat) (ram : List Int) (img : Array Value) (addr a v old : Int) (w : World) (hi : impl_Region.f addr = some (1, a))
    (hx0 : w.cell? ⟨x, 0, none⟩ = some (.slice (some ⟨g, 0, none⟩) ram.length cap)) (hgl : g < w.heap.size)
    (ha0 : 0 ≤ a) (ha1 : a < (ram.length : Int)) (hcg : w.cell? ⟨g, a.toNat, none⟩ = some (.int .i64 old)) (hfg : w.frozen? ⟨g, a.toNat, none⟩ = false) :
    Calls Try.prog 86 #[.pointer (some ⟨x, 0, none⟩), .agg img, .int .i64 addr, .int .i64 v] w fun e w' => e = .returned (.tuple #[]) ∧
      ∃ W m, Below w.heap.size w W ∧ w' = (W.setCell ⟨g, a.toNat, none⟩ (.int .i64 (v % 256))).drewN m := by
  have hu37 := Try.underlying37
  have A2 : Aside0 (∀ w, Calls Try.prog 77 #[.int .i64 v] w fun e w' => e = .returned (.int .i64 (v % 256)) ∧ w' = w) := ⟨byte_same v⟩
  have HI := Aside0.mk hi
  generalize v % 256 = vb at *
  have hb1 : (a < (ram.length : Int)) = True := eq_true ha1
  have hb0 : (0 ≤ a) = True := eq_true ha0
  clear hi ha0 ha1
  go_enter Try.func86, Try.ntmps86
  go_wp2_with fail
  refine (impl_Region.calls addr 1 a _ HI.out).mono ?_
  rintro e W ⟨rfl, hd⟩
  have hbW : Below w.heap.size w W := below_step (below_alloc (Below.refl _ _) _) hd.below
  have hx := pw_cell_below hbW hx0
  have hc := pw_cell_below hbW hcg
  have hf := frozen_below hbW hgl hfg
  have HB := Aside0.mk hbW
  clear hd hbW hx0 hcg hfg
  go_wp2
  go_still_tail 8, (by kernel_rfl)
  still_call (A2.out _)
  repeat still_step
  try refine wpStill_nil ?_
  go_wp2
  go_end0
  exact ⟨rfl, W, 1, HB.out, rfl⟩
set_option maxRecDepth 100000 in
set_option maxHeartbeats 1000000 in
theorem poke_bank (x b : Nat) (A0 : Option Addr) (c0 n : Nat) (ob : Int) (rg addr a v : Int) (w : World) (hi : impl_Region.f addr = some (rg, a)) (hrg : rg = 5 ∨ rg = 6)
    (hx1 : w.cell? ⟨x, 1, none⟩ = some (.int .i64 ob)) (hfx : w.frozen? ⟨x, 1, none⟩ = false) (hxl : x < w.heap.size) (hn0 : 0 < n) (hn1 : n ≤ 8) :
    Calls Try.prog 86 #[.pointer (some ⟨x, 0, none⟩), .agg #[.slice A0 n c0], .int .i64 addr, .int .i64 v] w fun e w' => e = .returned (.tuple #[]) ∧
      ∃ W m, Below w.heap.size w W ∧ w' = (W.setCell ⟨x, 1, none⟩ (.int .i64 (Int.tmod (v % 256) n))).drewN m := by
  have hu37 := Try.underlying37
  have hu27 := Try.underlying27
  have A2 : Aside0 (∀ w, Calls Try.prog 77 #[.int .i64 v] w fun e w' => e = .returned (.int .i64 (v % 256)) ∧ w' = w) := ⟨byte_same v⟩
  have HI := Aside0.mk hi
  generalize v % 256 = vb at *
  have hn2 : n ≠ 0 := by omega
  have hn3 : (((n : Nat) : Int) = 0) = False := eq_false (by omega)
  have hn4 : (((n : Nat) : Int) == 0) = false := by simpa using hn2
  have HN := Aside0.mk hn1
  clear hi hn0 hn1
  rcases hrg with rfl | rfl
  all_goals
    go_enter Try.func86, Try.ntmps86
    go_wp2_with fail
    refine (impl_Region.calls addr _ a _ HI.out).mono ?_
    rintro e W ⟨rfl, hd⟩
    have hbW : Below w.heap.size w W := below_step (below_alloc (Below.refl _ _) _) hd.below
    have hbx : W.heap[w.heap.size]? = some (.cells #[.slice A0 n c0] 27 (0, 0)) := blk_below (alloc_at _ _ _ rfl) hd.below
    have hi0 : W.cell? ⟨w.heap.size, 0, none⟩ = some (.slice A0 n c0) := (blk_cell hbx 0).trans rfl
    have hx := pw_cell_below hbW hx1
    have hf := frozen_below hbW hxl hfx
    have HB := Aside0.mk hbW
    clear hd hbW hbx
    go_wp2
    go_still_tail 9, (by kernel_rfl)
    still_call (A2.out _)
    repeat still_step
    try refine wpStill_nil ?_
    go_wp2
    go_end0
    exact ⟨rfl, W, 1, HB.out, rfl⟩
set_option maxRecDepth 100000 in
set_option maxHeartbeats 1000000 in
theorem poke_none (x : Nat) (img : Array Value) (rg addr a v : Int) (w : World) (hi : impl_Region.f addr = some (rg, a)) (h1 : (rg == 1) = false) (h5 : (rg == 5) = false) (h6 : (rg == 6) = false) :
    Calls Try.prog 86 #[.pointer (some ⟨x, 0, none⟩), .agg img, .int .i64 addr, .int .i64 v] w fun e w' => e = .returned (.tuple #[]) ∧ Below w.heap.size w w' := by
  have HI := Aside0.mk hi
  clear hi
  go_enter Try.func86, Try.ntmps86
  go_wp2_with fail
  refine (impl_Region.calls addr rg a _ HI.out).mono ?_
  rintro e W ⟨rfl, hd⟩
  have hbW : Below w.heap.size w W := below_step (below_alloc (Below.refl _ _) _) hd.below
  have HB := Aside0.mk hbW
  clear hd hbW
  go_wp2
  go_end0
  exact ⟨rfl, HB.out⟩
theorem poke_calls {w0 w : World} {x : Nat} {rv : Value} {b : Int} {ram : List Int} (h : MO w0 w x rv b ram) (A0 : Option Addr) (c0 n : Nat) (rg a addr v : Int) (hn0 : 0 < n) (hn1 : n ≤ 8) (h512 : ram.length = 512) (hi : impl_Region.f addr = some (rg, a)) (ha0 : 0 ≤ a) (ha1 : a < 512) :
    Calls Try.prog 86 #[.pointer (some ⟨x, 0, none⟩), .agg #[.slice A0 n c0], .int .i64 addr, .int .i64 v] w fun e w' => e = .returned (.tuple #[]) ∧ MO w0 w' x rv (pokeF n ram b rg a v).2 (pokeF n ram b rg a v).1 ∧ Kept w w' (fun j => j = x ∨ some j = rv.ownBlock) := by
  unfold pokeF
  by_cases h1 : rg = 1
  · subst h1
    rw [if_pos rfl]
    obtain ⟨g, cap, rfl, hg, hgl, _⟩ := Kd.R_form h.row (by omega)
    obtain ⟨hcg, hfg⟩ := Kd.R_celln 0 h.row a ha0 (by omega)
    refine (poke_ram x g cap ram _ addr a v _ w hi ((blk_cell h.mem 0).trans rfl) hgl ha0 (by omega) hcg hfg).mono ?_
    rintro e w' ⟨rfl, W, m, hW, rfl⟩
    refine ⟨rfl, ((h.later hW).setR hg a (v % 256)).drewN m, ?_⟩
    exact (kept_set (Kept.of_below hW _) (.inr rfl) _).drewN m
  · rw [if_neg h1]
    by_cases h56 : rg = 5 ∨ rg = 6
    · rw [if_pos h56]
      refine (poke_bank x n A0 c0 n b rg addr a v w hi h56 ((blk_cell h.mem 1).trans rfl) (blk_frozen h.mem 1) (blk_lt h.mem) hn0 hn1).mono ?_
      rintro e w' ⟨rfl, W, m, hW, rfl⟩
      refine ⟨rfl, ((h.later hW).setB _).drewN m, ?_⟩
      exact (kept_set (Kept.of_below hW _) (.inl rfl) _).drewN m
    · rw [if_neg h56]
      refine (poke_none x _ rg addr a v w hi (by simpa using h1) (by simpa using fun e => h56 (.inl e)) (by simpa using fun e => h56 (.inr e))).mono ?_
      rintro e w' ⟨rfl, hW⟩
      exact ⟨rfl, h.later hW, Kept.of_below hW _⟩

/-! ### impl_Poke (mine) -/
theorem copyMem_just {l0 r1 : List Int} {b r2 : Int} (h : impl_copyMem.f l0 b = some (r1, r2)) : r1 = l0 ∧ r2 = b := by
  unfold impl_copyMem.f impl_copyInts.f at h
  simp only [Option.bind_some] at h
  split at h
  · simp only [Option.bind_some, Option.some.injEq, Prod.mk.injEq, List.nil_append] at h
    exact ⟨h.1.symm, h.2.symm⟩
  · simp at h
set_option maxRecDepth 100000 in
set_option maxHeartbeats 2000000 in
theorem implPoke_yes (k : Nat) (A0 : Option Addr) (c0 : Nat) (l0 : List (List Int)) (A1 : Option Addr) (c1 : Nat) (l1 : List Int) (b addr v rg a : Int) (w : World) (hr : Kd.C (Kd.slice 3 (Kd.int .i64)) w A0 l0.length l0) (hc : l0.length ≤ c0) (hr1 : Kd.C (Kd.int .i64) w A1 l1.length l1) (hc1 : l1.length ≤ c1)
    (h : impl_copyMem.f l1 b = some (l1, b)) (hok : impl_MemOk.f k l0 l1 b = some true) (hi : impl_Region.f addr = some (rg, a)) (hn0 : 0 < l0.length) (hn1 : l0.length ≤ 8) (h512 : l1.length = 512) (ha0 : 0 ≤ a) (ha1 : a < 512) :
    Calls Try.prog 51 #[.agg #[.slice A0 l0.length c0], .agg #[.slice A1 l1.length c1, .int .i64 b], .int .i64 addr, .int .i64 v] w fun e w' => ∃ v0_ : Value, e = .returned (.agg #[v0_, .int .i64 (pokeF l0.length l1 b rg a v).2]) ∧ Kd.R (Kd.int .i64) 3 w' w.heap.size (fun _ => True) v0_ (pokeF l0.length l1 b rg a v).1 ∧ Below w.heap.size w w' := by
  have hu37 := Try.underlying37
  have hu27 := Try.underlying27
  have HR := Aside0.mk hr
  have HC := Aside0.mk hc
  have HR1 := Aside0.mk hr1
  have HC1 := Aside0.mk hc1
  have H := Aside0.mk h
  have HOK := Aside0.mk hok
  have HI := Aside0.mk hi
  have HN := Aside0.mk (show (0 < l0.length ∧ l0.length ≤ 8) ∧ l1.length = 512 ∧ 0 ≤ a ∧ a < 512 from ⟨⟨hn0, hn1⟩, h512, ha0, ha1⟩)
  clear hr hc h hr1 hc1 hok hi hn0 hn1 h512 ha0 ha1
  go_enter Try.func51, Try.ntmps51
  go_wp2_with fail
  refine (impl_copyMem.calls A1 c1 l1 b l1 b _ ?hr HC1.out H.out).mono ?_
  case hr => repeat (first | exact HR1.out | (with_reducible refine Kd.C_alloc ?_ _))
  rintro e W2 ⟨v0, rfl, hR, hB⟩
  obtain ⟨A2, c2, rfl⟩ := Kd.R_slice hR
  have b0 : W2.heap[w.heap.size]? = some (.cells #[.slice A0 l0.length c0] 27 (0, 0)) := blk_below (blk_alloc (blk_alloc (alloc_at _ _ _ rfl) _) _) hB
  have b1 : W2.heap[w.heap.size + 1]? = some (.cells #[.slice A1 l1.length c1, .int .i64 b] 37 (0, 0)) := blk_below (blk_alloc (alloc_at _ _ _ (by simp only [alloc_size])) _) hB
  have b2 : W2.heap[w.heap.size + 2]? = some (.cells #[.slice none 0 0, .int .i64 0] 37 (0, 0)) := blk_below (alloc_at _ _ _ (by simp only [alloc_size])) hB
  have hsz : w.heap.size + 3 ≤ W2.heap.size := by have := hB.size; simp only [alloc_size] at this; omega
  have hbel : Below w.heap.size w W2 := below_step (by repeat (first | exact Below.refl _ _ | apply below_alloc)) hB
  have hR' := Kd.R_lower hR (show w.heap.size ≤ _ by simp only [alloc_size]; omega)
  have RR := Aside0.mk hR'
  have BB := Aside0.mk hbel
  have B0 := Aside0.mk b0
  have B1 := Aside0.mk b1
  have B2 := Aside0.mk b2
  have hM : Aside0 (MO w (W2.alloc (.cells #[.slice A2 l1.length c2, .int .i64 b] 37)) W2.heap.size (.slice A2 l1.length c2) b l1) :=
    ⟨⟨blk_new W2 _, Kd.R_alloc RR.out _, by omega, below_alloc hbel _⟩⟩
  clear hR hB hR' hbel b0 b1 b2
  have y0 : (W2.alloc (.cells #[.slice A2 l1.length c2, .int .i64 b] 37)).cell? ⟨w.heap.size, 0, none⟩ = some (.slice A0 l0.length c0) := (blk_cell (blk_alloc B0.out _) 0).trans rfl
  have y1 : (W2.alloc (.cells #[.slice A2 l1.length c2, .int .i64 b] 37)).cell? ⟨w.heap.size + 1, 0, none⟩ = some (.slice A1 l1.length c1) := (blk_cell (blk_alloc B1.out _) 0).trans rfl
  have y2 : (W2.alloc (.cells #[.slice A2 l1.length c2, .int .i64 b] 37)).cell? ⟨w.heap.size + 1, 1, none⟩ = some (.int .i64 b) := (blk_cell (blk_alloc B1.out _) 1).trans rfl
  have HSZ := Aside0.mk hsz
  clear hsz
  go_wp2_with fail
  have c0_ := Aside0.mk (blk_alloc B0.out (.cells #[.slice A2 l1.length c2, .int .i64 b] 37))
  have c2_ := Aside0.mk (blk_alloc B2.out (.cells #[.slice A2 l1.length c2, .int .i64 b] 37))
  have cb_ := Aside0.mk (below_alloc BB.out (.cells #[.slice A2 l1.length c2, .int .i64 b] 37))
  clear y0 y1 y2 B0 B1 B2 BB RR
  generalize W2.alloc (.cells #[.slice A2 l1.length c2, .int .i64 b] 37) = W3 at *
  generalize W2.heap.size = gx at *
  refine (impl_MemOk.calls k A0 c0 l0 A1 c1 l1 b true _ (Kd.C_below HR.out cb_.out) HC.out (Kd.C_below HR1.out cb_.out) HC1.out HOK.out).mono ?_
  rintro e W4 ⟨rfl, hB4⟩
  have M4 := Aside0.mk (hM.out.later hB4)
  have d0_ := Aside0.mk (blk_below c0_.out hB4)
  have d2_ := Aside0.mk (blk_below c2_.out hB4)
  clear hB4 hM c0_ c2_ cb_ HR HC HR1 HC1 H HOK
  have y0 : W4.cell? ⟨w.heap.size, 0, none⟩ = some (.slice A0 l0.length c0) := (blk_cell d0_.out 0).trans rfl
  go_wp2_with fail
  refine (poke_calls M4.out A0 c0 l0.length rg a addr v HN.out.1.1 HN.out.1.2 HN.out.2.1 HI.out HN.out.2.2.1 HN.out.2.2.2).mono ?_
  rintro e W5 ⟨rfl, h5, k5⟩
  have e2 := blk_kept d2_.out k5 (fun h => h.elim (fun h => by have := HSZ.out; omega) (fun h => Kd.R_ne M4.out.row d2_.out (by decide) h))
  clear y0 k5 d0_ d2_ HI HN
  have z0 : W5.cell? ⟨gx, 0, none⟩ = some (.slice A2 l1.length c2) := (blk_cell h5.mem 0).trans rfl
  have z1 := (blk_cell h5.mem 1).trans rfl
  have z2 : W5.cell? ⟨w.heap.size + 1 + 1, 0, none⟩ = some (.slice none 0 0) := (blk_cell e2 0).trans rfl
  have z3 : W5.cell? ⟨w.heap.size + 1 + 1, 1, none⟩ = some (.int .i64 0) := (blk_cell e2 1).trans rfl
  have z4 := blk_frozen e2 0
  have z5 := blk_frozen e2 1
  have H5 := Aside0.mk h5
  have E2 := Aside0.mk e2
  clear h5 e2 M4
  go_wp2
  refine bodyPost_ret (results_cell_row rfl _ _ (w.heap.size + 2) 37 #[.slice A2 l1.length c2, .int .i64 (pokeF l0.length l1 b rg a v).2] (0, 0) _ rfl (put2 E2.out _ _) hu37 rfl (by kernel_rfl)) rfl ?_
  exact ⟨_, rfl, rowS2 H5.out.row E2.out _ _, below2 H5.out.below (by omega) _ _⟩
set_option maxRecDepth 100000 in
set_option maxHeartbeats 2000000 in
theorem implPoke_no (k : Nat) (A0 : Option Addr) (c0 : Nat) (l0 : List (List Int)) (A1 : Option Addr) (c1 : Nat) (l1 : List Int) (b addr v : Int) (w : World) (hr : Kd.C (Kd.slice 3 (Kd.int .i64)) w A0 l0.length l0) (hc : l0.length ≤ c0) (hr1 : Kd.C (Kd.int .i64) w A1 l1.length l1) (hc1 : l1.length ≤ c1)
    (h : impl_copyMem.f l1 b = some (l1, b)) (hok : impl_MemOk.f k l0 l1 b = some false) :
    Calls Try.prog 51 #[.agg #[.slice A0 l0.length c0], .agg #[.slice A1 l1.length c1, .int .i64 b], .int .i64 addr, .int .i64 v] w fun e w' => ∃ v0_ : Value, e = .returned (.agg #[v0_, .int .i64 b]) ∧ Kd.R (Kd.int .i64) 3 w' w.heap.size (fun _ => True) v0_ l1 ∧ Below w.heap.size w w' := by
  have hu37 := Try.underlying37
  have hu27 := Try.underlying27
  have HR := Aside0.mk hr
  have HC := Aside0.mk hc
  have HR1 := Aside0.mk hr1
  have HC1 := Aside0.mk hc1
  have H := Aside0.mk h
  have HOK := Aside0.mk hok
  clear hr hc h hr1 hc1 hok
  go_enter Try.func51, Try.ntmps51
  go_wp2_with fail
  refine (impl_copyMem.calls A1 c1 l1 b l1 b _ ?hr HC1.out H.out).mono ?_
  case hr => repeat (first | exact HR1.out | (with_reducible refine Kd.C_alloc ?_ _))
  rintro e W2 ⟨v0, rfl, hR, hB⟩
  obtain ⟨A2, c2, rfl⟩ := Kd.R_slice hR
  have b0 : W2.heap[w.heap.size]? = some (.cells #[.slice A0 l0.length c0] 27 (0, 0)) := blk_below (blk_alloc (blk_alloc (alloc_at _ _ _ rfl) _) _) hB
  have b1 : W2.heap[w.heap.size + 1]? = some (.cells #[.slice A1 l1.length c1, .int .i64 b] 37 (0, 0)) := blk_below (blk_alloc (alloc_at _ _ _ (by simp only [alloc_size])) _) hB
  have b2 : W2.heap[w.heap.size + 2]? = some (.cells #[.slice none 0 0, .int .i64 0] 37 (0, 0)) := blk_below (alloc_at _ _ _ (by simp only [alloc_size])) hB
  have hsz : w.heap.size + 3 ≤ W2.heap.size := by have := hB.size; simp only [alloc_size] at this; omega
  have hbel : Below w.heap.size w W2 := below_step (by repeat (first | exact Below.refl _ _ | apply below_alloc)) hB
  have hR' := Kd.R_lower hR (show w.heap.size ≤ _ by simp only [alloc_size]; omega)
  have RR := Aside0.mk hR'
  have BB := Aside0.mk hbel
  have B0 := Aside0.mk b0
  have B1 := Aside0.mk b1
  have B2 := Aside0.mk b2
  have hM : Aside0 (MO w (W2.alloc (.cells #[.slice A2 l1.length c2, .int .i64 b] 37)) W2.heap.size (.slice A2 l1.length c2) b l1) :=
    ⟨⟨blk_new W2 _, Kd.R_alloc RR.out _, by omega, below_alloc hbel _⟩⟩
  clear hR hB hR' hbel b0 b1 b2
  have y0 : (W2.alloc (.cells #[.slice A2 l1.length c2, .int .i64 b] 37)).cell? ⟨w.heap.size, 0, none⟩ = some (.slice A0 l0.length c0) := (blk_cell (blk_alloc B0.out _) 0).trans rfl
  have y1 : (W2.alloc (.cells #[.slice A2 l1.length c2, .int .i64 b] 37)).cell? ⟨w.heap.size + 1, 0, none⟩ = some (.slice A1 l1.length c1) := (blk_cell (blk_alloc B1.out _) 0).trans rfl
  have y2 : (W2.alloc (.cells #[.slice A2 l1.length c2, .int .i64 b] 37)).cell? ⟨w.heap.size + 1, 1, none⟩ = some (.int .i64 b) := (blk_cell (blk_alloc B1.out _) 1).trans rfl
  have HSZ := Aside0.mk hsz
  clear hsz
  go_wp2_with fail
  have c0_ := Aside0.mk (blk_alloc B0.out (.cells #[.slice A2 l1.length c2, .int .i64 b] 37))
  have c2_ := Aside0.mk (blk_alloc B2.out (.cells #[.slice A2 l1.length c2, .int .i64 b] 37))
  have cb_ := Aside0.mk (below_alloc BB.out (.cells #[.slice A2 l1.length c2, .int .i64 b] 37))
  clear y0 y1 y2 B0 B1 B2 BB RR
  generalize W2.alloc (.cells #[.slice A2 l1.length c2, .int .i64 b] 37) = W3 at *
  generalize W2.heap.size = gx at *
  refine (impl_MemOk.calls k A0 c0 l0 A1 c1 l1 b false _ (Kd.C_below HR.out cb_.out) HC.out (Kd.C_below HR1.out cb_.out) HC1.out HOK.out).mono ?_
  rintro e W4 ⟨rfl, hB4⟩
  have M4 := Aside0.mk (hM.out.later hB4)
  have d0_ := Aside0.mk (blk_below c0_.out hB4)
  have d2_ := Aside0.mk (blk_below c2_.out hB4)
  clear hB4 hM c0_ c2_ cb_ HR HC HR1 HC1 H HOK
  have h5 := M4.out
  have e2 := d2_.out
  clear d0_ d2_
  have z0 : W4.cell? ⟨gx, 0, none⟩ = some (.slice A2 l1.length c2) := (blk_cell h5.mem 0).trans rfl
  have z1 := (blk_cell h5.mem 1).trans rfl
  have z2 : W4.cell? ⟨w.heap.size + 1 + 1, 0, none⟩ = some (.slice none 0 0) := (blk_cell e2 0).trans rfl
  have z3 : W4.cell? ⟨w.heap.size + 1 + 1, 1, none⟩ = some (.int .i64 0) := (blk_cell e2 1).trans rfl
  have z4 := blk_frozen e2 0
  have z5 := blk_frozen e2 1
  have H5 := Aside0.mk h5
  have E2 := Aside0.mk e2
  clear h5 e2 M4
  go_wp2
  refine bodyPost_ret (results_cell_row rfl _ _ (w.heap.size + 2) 37 #[.slice A2 l1.length c2, .int .i64 b] (0, 0) _ rfl (put2 E2.out _ _) hu37 rfl (by kernel_rfl)) rfl ?_
  exact ⟨_, rfl, rowS2 H5.out.row E2.out _ _, below2 H5.out.below (by omega) _ _⟩
def impl_Poke.f (k : Nat) (l0_0 : List (List Int)) (l1_0 : List Int) (a1_1 : Int) (a2 : Int) (a3 : Int) : Option (List Int × Int) :=
  (impl_copyMem.f l1_0 a1_1).bind fun q => (impl_MemOk.f k l0_0 l1_0 a1_1).bind fun ok => if ok = true then (impl_Region.f a2).bind fun g =>
    if (0 < l0_0.length ∧ l0_0.length ≤ 8) ∧ l1_0.length = 512 ∧ 0 ≤ g.2 ∧ g.2 < 512 then some (pokeF l0_0.length l1_0 a1_1 g.1 g.2 a3) else none else some (l1_0, a1_1)
theorem impl_Poke.calls (k : Nat) (A0_0 : Option Addr) (c0_0 : Nat) (l0_0 : List (List Int)) (A1_0 : Option Addr) (c1_0 : Nat) (l1_0 : List Int) (a1_1 : Int) (a2 : Int) (a3 : Int) (r1 : List Int) (r2 : Int) (w : World) (hr0_0 : Kd.C (Kd.slice 3 (Kd.int .i64)) w A0_0 l0_0.length l0_0) (hc0_0 : l0_0.length ≤ c0_0) (hr1_0 : Kd.C (Kd.int .i64) w A1_0 l1_0.length l1_0) (hc1_0 : l1_0.length ≤ c1_0) (h : impl_Poke.f k l0_0 l1_0 a1_1 a2 a3 = some (r1, r2)) :
    Calls Try.prog 51 #[.agg #[.slice A0_0 l0_0.length c0_0], .agg #[.slice A1_0 l1_0.length c1_0, .int .i64 a1_1], .int .i64 a2, .int .i64 a3] w fun e w' => ∃ v0_ : Value, e = .returned (.agg #[v0_, .int .i64 r2]) ∧ Kd.R (Kd.int .i64) 3 w' w.heap.size (fun _ => True) v0_ r1 ∧ Below w.heap.size w w' := by
  unfold impl_Poke.f at h
  obtain ⟨⟨q1, q2⟩, hq, h2⟩ := Option.bind_eq_some_iff.mp h
  obtain ⟨ok, hok, h3⟩ := Option.bind_eq_some_iff.mp h2
  clear h h2
  obtain ⟨rfl, rfl⟩ := copyMem_just hq
  cases ok with
  | true =>
    rw [if_pos rfl] at h3
    obtain ⟨⟨rg, a⟩, hi, h4⟩ := Option.bind_eq_some_iff.mp h3
    clear h3
    by_cases hall : (0 < l0_0.length ∧ l0_0.length ≤ 8) ∧ q1.length = 512 ∧ 0 ≤ a ∧ a < 512
    · rw [if_pos hall] at h4
      have e := Option.some.inj h4
      have e1 : (pokeF l0_0.length q1 q2 rg a a3).1 = r1 := by rw [e]
      have e2 : (pokeF l0_0.length q1 q2 rg a a3).2 = r2 := by rw [e]
      subst e1 e2
      exact implPoke_yes k A0_0 c0_0 l0_0 A1_0 c1_0 q1 q2 a2 a3 rg a w hr0_0 hc0_0 hr1_0 hc1_0 hq hok hi hall.1.1 hall.1.2 hall.2.1 hall.2.2.1 hall.2.2.2
    · rw [if_neg hall] at h4
      cases h4
  | false =>
    rw [if_neg (by decide)] at h3
    cases h3
    exact implPoke_no k A0_0 c0_0 l0_0 A1_0 c1_0 _ _ a2 a3 w hr0_0 hc0_0 hr1_0 hc1_0 hq hok

/-! ### laws_FnExactPoke (mine) -/
def isImg (lo : Nat) (xs : List (List Int)) (v : Value) (w : World) : Prop := ∃ u, v = .agg #[u] ∧ Kd.S (Kd.slice 3 (Kd.int .i64)) 31 w lo (fun _ => True) u xs
theorem isImg_below {lo : Nat} {xs : List (List Int)} {v : Value} {w w' : World} (h : isImg lo xs v w) (hb : Below w.heap.size w w') : isImg lo xs v w' := by
  obtain ⟨u, e, r⟩ := h
  exact ⟨u, e, Kd.S_below r hb⟩
/-- The boxes of the law's own arguments, at the call's first blocks. -/
structure ArgZ (w W : World) (a0 a1 : Array Value) : Prop where
  below : Below w.heap.size w W
  f0 : W.heap[w.heap.size]? = some (.cells a0 24 (0, 0))
  f1 : W.heap[w.heap.size + 1]? = some (.cells a1 33 (0, 0))
theorem ArgZ.kept {w W W' : World} {a0 a1 : Array Value} {S : Nat → Prop} (h : ArgZ w W a0 a1) (hk : Kept W W' S) (hb : Below w.heap.size w W') (hS : ∀ k, k < w.heap.size + 2 → ¬ S k) : ArgZ w W' a0 a1 :=
  ⟨hb, blk_kept h.f0 hk (hS _ (by omega)), blk_kept h.f1 hk (hS _ (by omega))⟩
set_option maxRecDepth 100000 in
set_option maxHeartbeats 4000000 in
theorem lawPoke_true (k : Nat) (A0 : Option Addr) (c0 : Nat) (l0 : List (List Int)) (A1 : Option Addr) (c1 : Nat) (l1 : List Int) (b : Int) (v2 : Int) (v3 : Int) (w : World) (hr0 : Kd.C (Kd.slice 3 (Kd.int .i64)) w A0 l0.length l0) (hc0 : l0.length ≤ c0) (hr1 : Kd.C (Kd.int .i64) w A1 l1.length l1) (hc1 : l1.length ≤ c1)
    (t : Int) (hsz : laws_szImage.f k l0 1048576 = some t) (t2 : Int) (hsz2 : laws_szMem.f l1 b t = some t2)
    (mi : List (List Int)) (hmi : laws_toImage.f k l0 = some mi) (m1 : List Int) (m2 : Int) (hm : laws_toMem.f k l1 b = some (m1, m2))
    (r1 : List Int) (r2 : Int) (hs : spec_Poke.f k mi m1 m2 v2 v3 = some (r1, r2)) (hi : impl_Poke.f k mi m1 m2 v2 v3 = some (r1, r2))
    (ht : ¬ t < 0) (ht2 : ¬ t2 < 0) (he1 : laws_eqMem.f k r1 r2 r1 r2 = some true) (hei : laws_eqImage.f k mi mi = some true) (he3 : laws_eqMem.f k m1 m2 m1 m2 = some true)
    (k1 : Int) (n1 : List (List Int)) (hk1 : laws_markIntSS.f k mi 1 = some (k1, n1)) (ka : Int) (na : List Int) (hka : laws_markMem.f k m1 m2 k1 = some (ka, na)) (hka' : ¬ ka < 0) (kr : Int) (nr : List Int) (hkr : laws_markMem.f k r1 r2 1 = some (kr, nr)) (hkr' : ¬ kr < 0) (hh : laws_heldMem.f k nr r2 1 = some kr) :
    Calls Try.prog 11 #[.agg #[.slice A0 l0.length c0], .agg #[.slice A1 l1.length c1, .int .i64 b], .int .i64 v2, .int .i64 v3] w fun e w' => e = .returned (.bool true) ∧ Below w.heap.size w w' := by
  have hl_image := Try.underlying24
  have hi_image := Try.underlying27
  have hl_mem := Try.underlying33
  have hi_mem := Try.underlying37
  have HR0 := Aside0.mk hr0
  have HC0 := Aside0.mk hc0
  have HR1 := Aside0.mk hr1
  have HC1 := Aside0.mk hc1
  have Hsz := Aside0.mk hsz
  have Hsz2 := Aside0.mk hsz2
  have Hmi := Aside0.mk hmi
  have Hm := Aside0.mk hm
  have Hs := Aside0.mk hs
  have Hi := Aside0.mk hi
  have He1 := Aside0.mk he1
  have Hei := Aside0.mk hei
  have He3 := Aside0.mk he3
  have Hk1 := Aside0.mk hk1
  have Hka := Aside0.mk hka
  have Hkr := Aside0.mk hkr
  have Hh := Aside0.mk hh
  have ht0 : decide (t < 0) = false := decide_eq_false ht
  have ht20 : decide (t2 < 0) = false := decide_eq_false ht2
  have Ht1 := Aside0.mk (decide_eq_false hka')
  have Ht2 := Aside0.mk (decide_eq_false hkr')
  clear hr0 hc0 hr1 hc1 hsz hsz2 hmi hm hs hi he1 hei he3 hk1 hka hkr hh ht ht2 hka' hkr'
  go_enter Try.func11, Try.ntmps11
  go_wp2_with fail
  refine (laws_szImage.calls k A0 c0 l0 1048576 t _ ?hr HC0.out Hsz.out).mono ?_
  case hr => repeat (first | exact HR0.out | (with_reducible refine Kd.C_alloc ?_ _))
  rintro e W1 ⟨rfl, hB⟩
  have ARG : Aside0 (ArgZ w W1 #[.slice A0 l0.length c0] #[.slice A1 l1.length c1, .int .i64 b]) := ⟨⟨below_step (by repeat (first | exact Below.refl _ _ | apply below_alloc)) hB, blk_below (by repeat (first | exact alloc_at _ _ _ (by simp only [alloc_size]) | refine blk_alloc ?_ _)) hB, blk_below (by repeat (first | exact alloc_at _ _ _ (by simp only [alloc_size]) | refine blk_alloc ?_ _)) hB⟩⟩
  clear hB
  have q0_ : W1.cell? ⟨w.heap.size + 1, 0, none⟩ = some (.slice A1 l1.length c1) := (blk_cell ARG.out.f1 0).trans rfl
  have q1_ : W1.cell? ⟨w.heap.size + 1, 1, none⟩ = some (.int .i64 b) := (blk_cell ARG.out.f1 1).trans rfl
  go_wp2_with fail
  refine (laws_szMem.calls A1 c1 l1 b t t2 _ (Kd.C_below HR1.out ARG.out.below) HC1.out Hsz2.out).mono ?_
  rintro e W2 ⟨rfl, hb⟩
  clear q0_ q1_
  have K_ := Kept.of_below hb (fun _ => False)
  have ARG_ := Aside0.mk (ARG.out.kept K_ (below_step ARG.out.below hb) (fun _ _ h => h))
  clear ARG 
  have ARG := ARG_
  clear ARG_
  clear K_
  clear hb
  have hlow : w.heap.size + 2 ≤ W2.heap.size := by have := blk_lt ARG.out.f1; omega
  go_wp2
  refine free_ (n := 9) (e := 8) (g := 4) (T := (true, [([], []), ([0], [0]), ([], []), ([2, 1], [2]), ([], []), ([], []), ([1, 3, 4, 5, 3], [1, 3, 4, 5]), ([], []), ([7, 6, 6, 0, 1, 2, 3, 4, 5, 6, 7], [6, 7])])) #[true, true, true, true, true, true, true, true, false] #[true, true, true, true, false, true, true, true, false] [28, 29, 30, 31, 32, 33, 34, 10] (fun j u w' => match j with
    | 0 => u = .agg #[.slice A0 l0.length c0]
    | 1 => isImg W2.heap.size mi u w'
    | 2 => u = .agg #[.slice A1 l1.length c1, .int .i64 b]
    | 3 => isMem W2.heap.size m1 m2 u w'
    | 4 => u = .int .i64 v2
    | 5 => u = .int .i64 v3
    | 6 => isMem W2.heap.size r1 r2 u w'
    | 7 => isNew W2.heap.size 37 #[.slice none 0 0, .int .i64 0] u w'
    | _ => False)
    (by kernel_rfl) rfl (by kernel_rfl) (by kernel_rfl) (by kernel_rfl) (any_of (T := (true, [([], []), ([0], [0]), ([], []), ([2, 1], [2]), ([], []), ([], []), ([1, 3, 4, 5, 3], [1, 3, 4, 5]), ([], []), ([7, 6, 6, 0, 1, 2, 3, 4, 5, 6, 7], [6, 7])])) (by kernel_rfl) (by kernel_rfl)) (fun _ _ _ _ h => h) ?stables ?steps ?lags ?lasts
  case stables =>
    intro j u W W' h hb
    rcases j with _ | _ | _ | _ | _ | _ | _ | _ | j
    · exact h
    · exact isImg_below h hb
    · exact h
    · exact isMem_below h hb
    · exact h
    · exact h
    · exact isMem_below h hb
    · exact isNew_below h hb
    · exact h
  case steps =>
    intro i hi o ho a W hB hout hneed K hK
    have HBW := Aside0.mk hB
    have hcase : i = 0 ∨ i = 1 ∨ i = 2 ∨ i = 3 ∨ i = 4 ∨ i = 5 ∨ i = 6 ∨ i = 7 := by omega
    clear hB
    rcases hcase with rfl | rfl | rfl | rfl | rfl | rfl | rfl | rfl
    · obtain rfl := Option.some.inj ho
      have h3 : a.eval (.tmp 4) = .pointer (some ⟨w.heap.size, 0, none⟩) := hout 4 (by decide)
      have h3' := eval_get h3
      have hb := blk_below (w := W2.drew) ARG.out.f0 HBW.out
      have d0 := (blk_cell hb 0).trans rfl
      refine value_ (v := .agg #[.slice A0 l0.length c0]) (w1 := W) (by rfl) rfl ?_ (hK.out _ _ (Below.refl _ _) rfl)
      go_simp
    · obtain rfl := Option.some.inj ho
      have e0 : a.eval (.tmp 28) = _ := hneed 0 (by decide)
      refine goes_ Try.func17 (by kernel_rfl) rfl #[.agg #[.slice A0 l0.length c0]] (by rfl) rfl rfl (by simp only [List.map_toArray, List.map_cons, List.map_nil, e0]) ?_
      refine (laws_toImage.calls k A0 c0 l0 mi W (Kd.C_below HR0.out (below_step (w := w) (W := W2.drew) (below_drew1 ARG.out.below) HBW.out)) HC0.out Hmi.out).mono ?_
      rintro e w' ⟨u, rfl, hR, hb⟩
      exact ⟨_, rfl, hK.out _ _ hb ⟨u, rfl, Kd.S_lower hR HBW.out.size⟩⟩
    · obtain rfl := Option.some.inj ho
      have h3 : a.eval (.tmp 5) = .pointer (some ⟨w.heap.size + 1, 0, none⟩) := hout 5 (by decide)
      have h3' := eval_get h3
      have hb := blk_below (w := W2.drew) ARG.out.f1 HBW.out
      have d0 := (blk_cell hb 0).trans rfl
      have d1 := (blk_cell hb 1).trans rfl
      refine value_ (v := .agg #[.slice A1 l1.length c1, .int .i64 b]) (w1 := W) (by rfl) rfl ?_ (hK.out _ _ (Below.refl _ _) rfl)
      go_simp
    · obtain rfl := Option.some.inj ho
      have e0 : a.eval (.tmp 30) = _ := hneed 2 (by decide)
      refine goes_ Try.func22 (by kernel_rfl) rfl #[.agg #[.slice A1 l1.length c1, .int .i64 b]] (by rfl) rfl rfl (by simp only [List.map_toArray, List.map_cons, List.map_nil, e0]) ?_
      refine (laws_toMem.calls k A1 c1 l1 b m1 m2 W (Kd.C_below HR1.out (below_step (w := w) (W := W2.drew) (below_drew1 ARG.out.below) HBW.out)) HC1.out Hm.out).mono ?_
      rintro e w' ⟨u, rfl, hR, hb⟩
      exact ⟨_, rfl, hK.out _ _ hb ⟨u, rfl, Kd.R_lower hR HBW.out.size⟩⟩
    · obtain rfl := Option.some.inj ho
      have h3 : a.eval (.tmp 2) = .int .i64 v2 := hout 2 (by decide)
      have h3' := eval_get h3
      refine value_ (v := .int .i64 v2) (w1 := W) (by rfl) rfl ?_ (hK.out _ _ (Below.refl _ _) rfl)
      go_simp
    · obtain rfl := Option.some.inj ho
      have h3 : a.eval (.tmp 3) = .int .i64 v3 := hout 3 (by decide)
      have h3' := eval_get h3
      refine value_ (v := .int .i64 v3) (w1 := W) (by rfl) rfl ?_ (hK.out _ _ (Below.refl _ _) rfl)
      go_simp
    · obtain rfl := Option.some.inj ho
      obtain ⟨ui, ei, hRi⟩ : isImg _ _ (a.eval (.tmp 29)) W := hneed 1 (by decide)
      obtain ⟨Ai, ci, rfl⟩ := Kd.S_slice hRi
      obtain ⟨_, hci, hCi⟩ := Kd.S_reads' hRi
      obtain ⟨um, em, hRm⟩ : isMem _ _ _ (a.eval (.tmp 31)) W := hneed 3 (by decide)
      obtain ⟨Am, cm, rfl⟩ := Kd.R_slice hRm
      obtain ⟨_, hcm, hCm⟩ := Kd.R_reads' hRm
      have eo4 : a.eval (.tmp 32) = _ := hneed 4 (by decide)
      have eo5 : a.eval (.tmp 33) = _ := hneed 5 (by decide)
      refine goes_ Try.func50 (by kernel_rfl) rfl #[.agg #[.slice Ai mi.length ci], .agg #[.slice Am m1.length cm, .int .i64 m2], .int .i64 v2, .int .i64 v3] (by rfl) rfl rfl (by simp only [List.map_toArray, List.map_cons, List.map_nil, ei, em, eo4, eo5]) ?_
      refine (spec_Poke.calls k Ai ci mi Am cm m1 m2 v2 v3 r1 r2 W hCi hci hCm hcm Hs.out).mono ?_
      rintro e w' ⟨u, rfl, hR, hb⟩
      exact ⟨_, rfl, hK.out _ _ hb ⟨u, rfl, Kd.R_lower hR HBW.out.size⟩⟩
    · obtain rfl := Option.some.inj ho
      refine value_ (v := .pointer (some ⟨W.heap.size, 0, none⟩)) (w1 := W.alloc (.cells #[.slice none 0 0, .int .i64 0] 37)) (by rfl) rfl ?_ (hK.out _ _ (below_alloc (Below.refl _ _) _) ⟨_, rfl, HBW.out.size, alloc_at _ _ _ rfl⟩)
      go_simp
  case lags =>
    intro o ho a W hout hneed
    obtain rfl := Option.some.inj ho
    have h3 : a.eval (.tmp 2) = .int .i64 v2 := hout 2 (by decide)
    have h3' := eval_get h3
    refine ⟨.int .i64 v2, rfl, Or.inl ⟨by rfl, ?_⟩⟩
    intro w'
    go_simp
  intro f vs W3 hB hE
  have HBW := Aside0.mk hB
  clear hB
  have q0 : vs 0 = _ := hE 0 (by decide)
  obtain ⟨u1s, q1, hR1⟩ : isImg _ _ (vs 1) W3 := hE 1 (by decide)
  have q2 : vs 2 = _ := hE 2 (by decide)
  obtain ⟨u3s, q3, hR3⟩ : isMem _ _ _ (vs 3) W3 := hE 3 (by decide)
  have q4 : vs 4 = _ := hE 4 (by decide)
  have q5 : vs 5 = _ := hE 5 (by decide)
  obtain ⟨u6s, q6, hR6⟩ : isMem _ _ _ (vs 6) W3 := hE 6 (by decide)
  obtain ⟨g1s, q7, hg1, hb1⟩ : isNew _ _ _ (vs 7) W3 := hE 7 (by decide)
  show wpAnyLast _ _ _ _ _ _ (f + 1) _ (putAll _ [(28, vs 0), (29, vs 1), (30, vs 2), (31, vs 3), (32, vs 4), (33, vs 5), (34, vs 6), (10, vs 7)]) W3
  rw [q0, q1, q2, q3, q4, q5, q6, q7]
  clear q0 q1 q2 q3 q4 q5 q6 q7 hE
  refine norm_ (a' := ?_) ?_ ?_
  rotate_left
  · simp only [putAll, Act.put, List.setIfInBounds_toArray, List.set_cons_zero, List.set_cons_succ]
    rfl
  obtain ⟨As, cs, rfl⟩ := Kd.R_slice hR6
  refine one_ (i := 8) (N := none) #[true, true, true, true, true, true, true, true, true] rfl rfl (by kernel_rfl) (by decide) (fun K hK => ?_)
  refine skip_ (w1 := ?_) (by rfl) rfl ?_ ?_
  rotate_left
  · skip
    have r0 : W3.cell? ⟨g1s, 0, none⟩ = some (.slice none 0 0) := (blk_cell hb1 0).trans rfl
    have f0 := blk_frozen hb1 0
    have r1 : W3.cell? ⟨g1s, 1, none⟩ = some (.int .i64 0) := (blk_cell hb1 1).trans rfl
    have f1 := blk_frozen hb1 1
    go_simp
    rfl
  refine hK.out _ _ trivial (fun _ => ?_)
  clear hK K
  refine done_ (by kernel_rfl) ?_
  obtain ⟨A_, c_, e_, P, Kp, B⟩ := mem_made (w := w) (W1 := W2.drew) (below_drew1 ARG.out.below) HBW.out hR6 hb1 hg1 r2
  cases e_
  have hz_W4 : W2.heap.size ≤ _ := Kp.1
  have ARG_ := Aside0.mk (ARG.out.kept Kp (B) (fun _ _ h => h))
  clear ARG 
  have ARG := ARG_
  clear ARG_
  have Ps := Aside0.mk P
  clear P Kp B hR6 hb1 hg1 HBW
  generalize hW_ : ((W3.setCell ⟨g1s, 0, none⟩ (.slice As r1.length cs)).setCell ⟨g1s, 1, none⟩ (.int .i64 r2)) = W4 at *
  clear hW_
  have q0_ : W4.cell? ⟨w.heap.size, 0, none⟩ = some (.slice A0 l0.length c0) := (blk_cell ARG.out.f0 0).trans rfl
  go_wp2_with fail
  refine (laws_toImage.calls k A0 c0 l0 mi _ (Kd.C_below HR0.out ARG.out.below) HC0.out Hmi.out).mono ?_
  rintro e W5 ⟨u_, rfl, hS_, hb⟩
  clear q0_
  obtain ⟨Ax, cx, rfl⟩ := Kd.S_slice hS_
  have HW0_ := Aside0.mk ARG.out.below
  have hle_ := hb.size
  have K_ := Kept.of_below hb (fun _ => False)
  have ARG_ := Aside0.mk (ARG.out.kept K_ (below_step ARG.out.below hb) (fun _ _ h => h))
  have Ps_ := Aside0.mk (Ps.out.kept K_ (fun _ _ _ h => h))
  clear ARG Ps
  have ARG := ARG_
  clear ARG_
  have Ps := Ps_
  clear Ps_
  clear K_
  have q0_ : (W5.alloc (.cells #[.slice Ax mi.length cx] 27)).cell? ⟨w.heap.size + 1, 0, none⟩ = some (.slice A1 l1.length c1) := (blk_cell (blk_alloc ARG.out.f1 (.cells #[.slice Ax mi.length cx] 27)) 0).trans rfl
  have q1_ : (W5.alloc (.cells #[.slice Ax mi.length cx] 27)).cell? ⟨w.heap.size + 1, 1, none⟩ = some (.int .i64 b) := (blk_cell (blk_alloc ARG.out.f1 (.cells #[.slice Ax mi.length cx] 27)) 1).trans rfl
  go_wp2_with fail
  have X0 : Aside0 (ImgB w (W5.alloc (.cells #[.slice Ax mi.length cx] 27)) W5.heap.size Ax cx mi W4.heap.size (W5.alloc (.cells #[.slice Ax mi.length cx] 27)).heap.size) := ⟨ImgB.made HW0_.out (Kd.S_alloc hS_ _) (alloc_at _ _ _ rfl) hle_⟩
  have hb2_ : Below W5.heap.size W5 (W5.alloc (.cells #[.slice Ax mi.length cx] 27)) := below_alloc (Below.refl _ _) _
  have K_ := Kept.of_below hb2_ (fun _ => False)
  have ARG_ := Aside0.mk (ARG.out.kept K_ (below_step ARG.out.below hb2_) (fun _ _ h => h))
  have Ps_ := Aside0.mk (Ps.out.kept K_ (fun _ _ _ h => h))
  clear ARG Ps
  have ARG := ARG_
  clear ARG_
  have Ps := Ps_
  clear Ps_
  clear K_
  have hz_W6 : W4.heap.size ≤ (W5.alloc (.cells #[.slice Ax mi.length cx] 27)).heap.size := by rw [alloc_size]; omega
  clear hb hS_ HW0_ hb2_ hle_
  generalize hW_ : (W5.alloc (.cells #[.slice Ax mi.length cx] 27)) = W6 at *
  generalize hg_ : W5.heap.size = gx at *
  clear hW_ hg_
  clear q0_ q1_
  refine (laws_toMem.calls k A1 c1 l1 b m1 m2 _ (Kd.C_below HR1.out ARG.out.below) HC1.out Hm.out).mono ?_
  rintro e W7 ⟨u_, rfl, hS_, hb⟩
  obtain ⟨Ay, cy, rfl⟩ := Kd.R_slice hS_
  have HW0_ := Aside0.mk ARG.out.below
  have hle_ := hb.size
  have K_ := Kept.of_below hb (fun _ => False)
  have ARG_ := Aside0.mk (ARG.out.kept K_ (below_step ARG.out.below hb) (fun _ _ h => h))
  have Ps_ := Aside0.mk (Ps.out.kept K_ (fun _ _ _ h => h))
  have X0_ := Aside0.mk (X0.out.kept K_ (fun _ _ _ h => h))
  clear ARG Ps X0
  have ARG := ARG_
  clear ARG_
  have Ps := Ps_
  clear Ps_
  have X0 := X0_
  clear X0_
  clear K_
  have q0_ : (W7.alloc (.cells #[.slice Ay m1.length cy, .int .i64 m2] 37)).cell? ⟨gx, 0, none⟩ = some (.slice Ax mi.length cx) := (blk_cell (blk_alloc X0.out.img (.cells #[.slice Ay m1.length cy, .int .i64 m2] 37)) 0).trans rfl
  go_wp2_with fail
  obtain ⟨M_, Kp_, B_⟩ := mem_made0 (W := (W7.alloc (.cells #[.slice Ay m1.length cy, .int .i64 m2] 37))) HW0_.out (below_alloc hb _) (Kd.R_alloc hS_ _) (alloc_at _ _ _ rfl) hle_
  have X1 := Aside0.mk M_
  clear M_ Kp_ B_
  have hb2_ : Below W7.heap.size W7 (W7.alloc (.cells #[.slice Ay m1.length cy, .int .i64 m2] 37)) := below_alloc (Below.refl _ _) _
  have K_ := Kept.of_below hb2_ (fun _ => False)
  have ARG_ := Aside0.mk (ARG.out.kept K_ (below_step ARG.out.below hb2_) (fun _ _ h => h))
  have Ps_ := Aside0.mk (Ps.out.kept K_ (fun _ _ _ h => h))
  have X0_ := Aside0.mk (X0.out.kept K_ (fun _ _ _ h => h))
  clear ARG Ps X0
  have ARG := ARG_
  clear ARG_
  have Ps := Ps_
  clear Ps_
  have X0 := X0_
  clear X0_
  clear K_
  have hz_W8 : W6.heap.size ≤ (W7.alloc (.cells #[.slice Ay m1.length cy, .int .i64 m2] 37)).heap.size := by rw [alloc_size]; omega
  clear hb hS_ HW0_ hb2_ hle_
  generalize hW_ : (W7.alloc (.cells #[.slice Ay m1.length cy, .int .i64 m2] 37)) = W8 at *
  generalize hg_ : W7.heap.size = gm at *
  clear hW_ hg_
  clear q0_
  obtain ⟨_, hci_, hCi_⟩ := Kd.S_reads' X0.out.row
  obtain ⟨_, hcm_, hCm_⟩ := Kd.R_reads' X1.out.row
  refine (impl_Poke.calls k Ax cx mi Ay cy m1 m2 v2 v3 r1 r2 _ hCi_ hci_ hCm_ hcm_ Hi.out).mono ?_
  rintro e W9 ⟨u_, rfl, hS_, hb⟩
  clear hCi_ hci_ hCm_ hcm_
  obtain ⟨Ag, cg, rfl⟩ := Kd.R_slice hS_
  have HW0_ := Aside0.mk ARG.out.below
  have hle_ := hb.size
  have K_ := Kept.of_below hb (fun _ => False)
  have ARG_ := Aside0.mk (ARG.out.kept K_ (below_step ARG.out.below hb) (fun _ _ h => h))
  have Ps_ := Aside0.mk (Ps.out.kept K_ (fun _ _ _ h => h))
  have X0_ := Aside0.mk (X0.out.kept K_ (fun _ _ _ h => h))
  have X1_ := Aside0.mk (X1.out.kept K_ (fun _ _ _ h => h))
  clear ARG Ps X0 X1
  have ARG := ARG_
  clear ARG_
  have Ps := Ps_
  clear Ps_
  have X0 := X0_
  clear X0_
  have X1 := X1_
  clear X1_
  clear K_
  have q0_ : (W9.alloc (.cells #[.slice Ag r1.length cg, .int .i64 r2] 37)).cell? ⟨g1s, 0, none⟩ = some (.slice As r1.length cs) := (blk_cell (blk_alloc Ps.out.mem (.cells #[.slice Ag r1.length cg, .int .i64 r2] 37)) 0).trans rfl
  have q1_ : (W9.alloc (.cells #[.slice Ag r1.length cg, .int .i64 r2] 37)).cell? ⟨g1s, 1, none⟩ = some (.int .i64 r2) := (blk_cell (blk_alloc Ps.out.mem (.cells #[.slice Ag r1.length cg, .int .i64 r2] 37)) 1).trans rfl
  go_wp2_with fail
  clear q0_ q1_
  obtain ⟨M_, Kp_, B_⟩ := mem_made0 (W := (W9.alloc (.cells #[.slice Ag r1.length cg, .int .i64 r2] 37))) HW0_.out (below_alloc hb _) (Kd.R_alloc hS_ _) (alloc_at _ _ _ rfl) hle_
  have Pg := Aside0.mk M_
  clear M_ Kp_ B_
  have hb2_ : Below W9.heap.size W9 (W9.alloc (.cells #[.slice Ag r1.length cg, .int .i64 r2] 37)) := below_alloc (Below.refl _ _) _
  have K_ := Kept.of_below hb2_ (fun _ => False)
  have ARG_ := Aside0.mk (ARG.out.kept K_ (below_step ARG.out.below hb2_) (fun _ _ h => h))
  have Ps_ := Aside0.mk (Ps.out.kept K_ (fun _ _ _ h => h))
  have X0_ := Aside0.mk (X0.out.kept K_ (fun _ _ _ h => h))
  have X1_ := Aside0.mk (X1.out.kept K_ (fun _ _ _ h => h))
  clear ARG Ps X0 X1
  have ARG := ARG_
  clear ARG_
  have Ps := Ps_
  clear Ps_
  have X0 := X0_
  clear X0_
  have X1 := X1_
  clear X1_
  clear K_
  have hz_W10 : W8.heap.size ≤ (W9.alloc (.cells #[.slice Ag r1.length cg, .int .i64 r2] 37)).heap.size := by rw [alloc_size]; omega
  clear hb hS_ HW0_ hb2_ hle_
  generalize hW_ : (W9.alloc (.cells #[.slice Ag r1.length cg, .int .i64 r2] 37)) = W10 at *
  generalize hg_ : W9.heap.size = g1g at *
  clear hW_ hg_
  obtain ⟨_, hc1_, hC1_⟩ := Kd.R_reads' Pg.out.row
  obtain ⟨_, hc2_, hC2_⟩ := Kd.R_reads' Ps.out.row
  refine (laws_eqMem.calls k Ag cg r1 r2 As cs r1 r2 true _ hC1_ hc1_ hC2_ hc2_ He1.out).mono ?_
  rintro e W11 ⟨rfl, hb⟩
  clear hc1_ hC1_ hc2_ hC2_
  have K_ := Kept.of_below hb (fun _ => False)
  have ARG_ := Aside0.mk (ARG.out.kept K_ (below_step ARG.out.below hb) (fun _ _ h => h))
  have Ps_ := Aside0.mk (Ps.out.kept K_ (fun _ _ _ h => h))
  have X0_ := Aside0.mk (X0.out.kept K_ (fun _ _ _ h => h))
  have X1_ := Aside0.mk (X1.out.kept K_ (fun _ _ _ h => h))
  have Pg_ := Aside0.mk (Pg.out.kept K_ (fun _ _ _ h => h))
  clear ARG Ps X0 X1 Pg
  have ARG := ARG_
  clear ARG_
  have Ps := Ps_
  clear Ps_
  have X0 := X0_
  clear X0_
  have X1 := X1_
  clear X1_
  have Pg := Pg_
  clear Pg_
  clear K_
  clear hb
  go_wp2
  refine start_ (n := 5) (S := fun w' => w'.heap[gx]? = some (.cells #[.slice Ax mi.length cx] 27 (0, 0)) ∧ w'.heap[w.heap.size]? = some (.cells #[.slice A0 l0.length c0] 24 (0, 0))) (ds := []) #[false, false, false, false, false] (by kernel_rfl) rfl rfl ⟨X0.out.img, ARG.out.f0⟩ (fun hHeld => ?_)
  refine take_ (i := 0) (N := some 48) (v := ?_) (a' := ?_) #[true, false, false, false, false] rfl rfl (by kernel_rfl) (fun _ _ _ h => h) (Or.inl ⟨by rfl, ?_⟩) hHeld ?_ ?_
  rotate_left
  · rintro w' ⟨s0, s1⟩
    have a0 := (blk_cell s0 0).trans rfl
    clear s0 s1
    go_simp
    with_reducible rfl
  rotate_left
  · simp only [Act.put, List.setIfInBounds_toArray, List.set_cons_zero, List.set_cons_succ, i64_w, i32_w]
    rfl
  refine take_ (i := 1) (N := some 49) (v := ?_) (a' := ?_) #[true, true, false, false, false] rfl rfl (by kernel_rfl) (fun _ _ _ h => h) (Or.inl ⟨by rfl, ?_⟩) hHeld ?_ ?_
  rotate_left
  · rintro w' ⟨s0, s1⟩
    have a0 := (blk_cell s1 0).trans rfl
    clear s0 s1
    go_simp
    with_reducible rfl
  rotate_left
  · simp only [Act.put, List.setIfInBounds_toArray, List.set_cons_zero, List.set_cons_succ, i64_w, i32_w]
    rfl
  refine one_ (i := 2) (N := some 50) #[true, true, true, false, false] rfl rfl (by kernel_rfl) (by decide) (fun K hK => ?_)
  refine goes_ Try.func17 (by kernel_rfl) rfl #[.agg #[.slice A0 l0.length c0]] (by rfl) rfl rfl (by (try simp only [List.map_toArray, List.map_cons, List.map_nil]); first | done | rfl) ?_
  refine (laws_toImage.calls k A0 c0 l0 mi W11.drew (Kd.C_below HR0.out (below_drew1 ARG.out.below)) HC0.out Hmi.out).mono ?_
  rintro e W12 ⟨u, rfl, hS_, hb⟩
  refine ⟨_, rfl, ?_⟩
  have K_ : Kept W11 W12 (fun _ => False) := ⟨hb.size, fun i hi _ => hb.block i hi⟩
  have ARG_ := Aside0.mk (ARG.out.kept K_ (below_step (W := W11.drew) (below_drew1 ARG.out.below) hb) (fun _ _ h => h))
  have Ps_ := Aside0.mk (Ps.out.kept K_ (fun _ _ _ h => h))
  have X0_ := Aside0.mk (X0.out.kept K_ (fun _ _ _ h => h))
  have X1_ := Aside0.mk (X1.out.kept K_ (fun _ _ _ h => h))
  have Pg_ := Aside0.mk (Pg.out.kept K_ (fun _ _ _ h => h))
  clear ARG Ps X0 X1 Pg
  have ARG := ARG_
  clear ARG_
  have Ps := Ps_
  clear Ps_
  have X0 := X0_
  clear X0_
  have X1 := X1_
  clear X1_
  have Pg := Pg_
  clear Pg_
  clear K_ hb hHeld
  obtain ⟨Az, cz, rfl⟩ := Kd.S_slice hS_
  refine hK.out _ _ ⟨X0.out.img, ARG.out.f0⟩ (fun hHeld => ?_)
  clear hK K
  refine norm_ (a' := ?_) ?_ ?_
  rotate_left
  · show Act.put _ (some 50) _ = _
    simp only [Act.put, List.setIfInBounds_toArray, List.set_cons_zero, List.set_cons_succ, i64_w, i32_w]
    rfl
  refine one_ (i := 3) (N := some 51) #[true, true, true, true, false] rfl rfl (by kernel_rfl) (by decide) (fun K hK => ?_)
  refine goes_ Try.func19 (by kernel_rfl) rfl #[.agg #[.slice Ax mi.length cx], .agg #[.slice Az mi.length cz]] (by rfl) rfl rfl (by (try simp only [List.map_toArray, List.map_cons, List.map_nil]); first | done | rfl) ?_
  obtain ⟨_, hc1_, hC1_⟩ := Kd.S_reads' X0.out.row
  obtain ⟨_, hc2_, hC2_⟩ := Kd.S_reads' hS_
  refine (laws_eqImage.calls k Ax cx mi Az cz mi true _ hC1_ hc1_ hC2_ hc2_ Hei.out).mono ?_
  rintro e W13 ⟨rfl, hb⟩
  refine ⟨_, rfl, ?_⟩
  clear hc1_ hC1_ hc2_ hC2_ hS_ hHeld
  have K_ := Kept.of_below hb (fun _ => False)
  have ARG_ := Aside0.mk (ARG.out.kept K_ (below_step ARG.out.below hb) (fun _ _ h => h))
  have Ps_ := Aside0.mk (Ps.out.kept K_ (fun _ _ _ h => h))
  have X0_ := Aside0.mk (X0.out.kept K_ (fun _ _ _ h => h))
  have X1_ := Aside0.mk (X1.out.kept K_ (fun _ _ _ h => h))
  have Pg_ := Aside0.mk (Pg.out.kept K_ (fun _ _ _ h => h))
  clear ARG Ps X0 X1 Pg
  have ARG := ARG_
  clear ARG_
  have Ps := Ps_
  clear Ps_
  have X0 := X0_
  clear X0_
  have X1 := X1_
  clear X1_
  have Pg := Pg_
  clear Pg_
  clear K_
  clear hb
  refine hK.out _ _ ⟨X0.out.img, ARG.out.f0⟩ (fun hHeld => ?_)
  clear hK K hHeld
  refine norm_ (a' := ?_) ?_ ?_
  rotate_left
  · show Act.put _ (some 51) _ = _
    simp only [Act.put, List.setIfInBounds_toArray, List.set_cons_zero, List.set_cons_succ, i64_w, i32_w]
    rfl
  refine pure_ (i := 4) (N := some 52) (v := ?_) (a' := ?_) #[true, true, true, true, true] rfl rfl (by kernel_rfl) (fun _ _ _ h => h) (Or.inl ⟨by rfl, ?_⟩) ?_ ?_
  rotate_left
  · intro w'
    go_simp
    with_reducible rfl
  rotate_left
  · simp only [Act.put, List.setIfInBounds_toArray, List.set_cons_zero, List.set_cons_succ, i64_w, i32_w]
    rfl
  refine done_ (by kernel_rfl) ?_
  go_wp2
  refine start_ (n := 5) (S := fun w' => w'.heap[gm]? = some (.cells #[.slice Ay m1.length cy, .int .i64 m2] 37 (0, 0)) ∧ w'.heap[w.heap.size + 1]? = some (.cells #[.slice A1 l1.length c1, .int .i64 b] 33 (0, 0))) (ds := []) #[false, false, false, false, false] (by kernel_rfl) rfl rfl ⟨X1.out.mem, ARG.out.f1⟩ (fun hHeld => ?_)
  refine take_ (i := 0) (N := some 53) (v := ?_) (a' := ?_) #[true, false, false, false, false] rfl rfl (by kernel_rfl) (fun _ _ _ h => h) (Or.inl ⟨by rfl, ?_⟩) hHeld ?_ ?_
  rotate_left
  · rintro w' ⟨s0, s1⟩
    have a0 := (blk_cell s0 0).trans rfl
    have a1 := (blk_cell s0 1).trans rfl
    clear s0 s1
    go_simp
    with_reducible rfl
  rotate_left
  · simp only [Act.put, List.setIfInBounds_toArray, List.set_cons_zero, List.set_cons_succ, i64_w, i32_w]
    rfl
  refine take_ (i := 1) (N := some 54) (v := ?_) (a' := ?_) #[true, true, false, false, false] rfl rfl (by kernel_rfl) (fun _ _ _ h => h) (Or.inl ⟨by rfl, ?_⟩) hHeld ?_ ?_
  rotate_left
  · rintro w' ⟨s0, s1⟩
    have a0 := (blk_cell s1 0).trans rfl
    have a1 := (blk_cell s1 1).trans rfl
    clear s0 s1
    go_simp
    with_reducible rfl
  rotate_left
  · simp only [Act.put, List.setIfInBounds_toArray, List.set_cons_zero, List.set_cons_succ, i64_w, i32_w]
    rfl
  refine one_ (i := 2) (N := some 55) #[true, true, true, false, false] rfl rfl (by kernel_rfl) (by decide) (fun K hK => ?_)
  refine goes_ Try.func22 (by kernel_rfl) rfl #[.agg #[.slice A1 l1.length c1, .int .i64 b]] (by rfl) rfl rfl (by (try simp only [List.map_toArray, List.map_cons, List.map_nil]); first | done | rfl) ?_
  refine (laws_toMem.calls k A1 c1 l1 b m1 m2 W13.drew (Kd.C_below HR1.out (below_drew1 ARG.out.below)) HC1.out Hm.out).mono ?_
  rintro e W14 ⟨u, rfl, hS_, hb⟩
  refine ⟨_, rfl, ?_⟩
  have K_ : Kept W13 W14 (fun _ => False) := ⟨hb.size, fun i hi _ => hb.block i hi⟩
  have ARG_ := Aside0.mk (ARG.out.kept K_ (below_step (W := W13.drew) (below_drew1 ARG.out.below) hb) (fun _ _ h => h))
  have Ps_ := Aside0.mk (Ps.out.kept K_ (fun _ _ _ h => h))
  have X0_ := Aside0.mk (X0.out.kept K_ (fun _ _ _ h => h))
  have X1_ := Aside0.mk (X1.out.kept K_ (fun _ _ _ h => h))
  have Pg_ := Aside0.mk (Pg.out.kept K_ (fun _ _ _ h => h))
  clear ARG Ps X0 X1 Pg
  have ARG := ARG_
  clear ARG_
  have Ps := Ps_
  clear Ps_
  have X0 := X0_
  clear X0_
  have X1 := X1_
  clear X1_
  have Pg := Pg_
  clear Pg_
  clear K_ hb hHeld
  obtain ⟨Az, cz, rfl⟩ := Kd.R_slice hS_
  refine hK.out _ _ ⟨X1.out.mem, ARG.out.f1⟩ (fun hHeld => ?_)
  clear hK K
  refine norm_ (a' := ?_) ?_ ?_
  rotate_left
  · show Act.put _ (some 55) _ = _
    simp only [Act.put, List.setIfInBounds_toArray, List.set_cons_zero, List.set_cons_succ, i64_w, i32_w]
    rfl
  refine one_ (i := 3) (N := some 56) #[true, true, true, true, false] rfl rfl (by kernel_rfl) (by decide) (fun K hK => ?_)
  refine goes_ Try.func25 (by kernel_rfl) rfl #[.agg #[.slice Ay m1.length cy, .int .i64 m2], .agg #[.slice Az m1.length cz, .int .i64 m2]] (by rfl) rfl rfl (by (try simp only [List.map_toArray, List.map_cons, List.map_nil]); first | done | rfl) ?_
  obtain ⟨_, hc1_, hC1_⟩ := Kd.R_reads' X1.out.row
  obtain ⟨_, hc2_, hC2_⟩ := Kd.R_reads' hS_
  refine (laws_eqMem.calls k Ay cy m1 m2 Az cz m1 m2 true _ hC1_ hc1_ hC2_ hc2_ He3.out).mono ?_
  rintro e W15 ⟨rfl, hb⟩
  refine ⟨_, rfl, ?_⟩
  clear hc1_ hC1_ hc2_ hC2_ hS_ hHeld
  have K_ := Kept.of_below hb (fun _ => False)
  have ARG_ := Aside0.mk (ARG.out.kept K_ (below_step ARG.out.below hb) (fun _ _ h => h))
  have Ps_ := Aside0.mk (Ps.out.kept K_ (fun _ _ _ h => h))
  have X0_ := Aside0.mk (X0.out.kept K_ (fun _ _ _ h => h))
  have X1_ := Aside0.mk (X1.out.kept K_ (fun _ _ _ h => h))
  have Pg_ := Aside0.mk (Pg.out.kept K_ (fun _ _ _ h => h))
  clear ARG Ps X0 X1 Pg
  have ARG := ARG_
  clear ARG_
  have Ps := Ps_
  clear Ps_
  have X0 := X0_
  clear X0_
  have X1 := X1_
  clear X1_
  have Pg := Pg_
  clear Pg_
  clear K_
  clear hb
  refine hK.out _ _ ⟨X1.out.mem, ARG.out.f1⟩ (fun hHeld => ?_)
  clear hK K hHeld
  refine norm_ (a' := ?_) ?_ ?_
  rotate_left
  · show Act.put _ (some 56) _ = _
    simp only [Act.put, List.setIfInBounds_toArray, List.set_cons_zero, List.set_cons_succ, i64_w, i32_w]
    rfl
  refine pure_ (i := 4) (N := some 57) (v := ?_) (a' := ?_) #[true, true, true, true, true] rfl rfl (by kernel_rfl) (fun _ _ _ h => h) (Or.inl ⟨by rfl, ?_⟩) ?_ ?_
  rotate_left
  · intro w'
    go_simp
    with_reducible rfl
  rotate_left
  · simp only [Act.put, List.setIfInBounds_toArray, List.set_cons_zero, List.set_cons_succ, i64_w, i32_w]
    rfl
  refine done_ (by kernel_rfl) ?_
  have q0_ : W15.cell? ⟨gx, 0, none⟩ = some (.slice Ax mi.length cx) := (blk_cell X0.out.img 0).trans rfl
  go_wp2_with fail
  refine (laws_markImage.calls k _ (.slice Ax mi.length cx) mi 1 k1 n1 w W15 ARG.out.below X0.out.row Hk1.out).mono ?_
  rintro e W16 ⟨rfl, _, hb, hk⟩
  clear q0_
  have ARG_ := Aside0.mk (ARG.out.kept hk (hb) (fun k hk h => by omega))
  have Ps_ := Aside0.mk (Ps.out.kept hk (fun k h1 h2 h => by omega))
  have X1_ := Aside0.mk (X1.out.kept hk (fun k h1 h2 h => by omega))
  have Pg_ := Aside0.mk (Pg.out.kept hk (fun k h1 h2 h => by omega))
  clear ARG Ps X1 Pg
  have ARG := ARG_
  clear ARG_
  have Ps := Ps_
  clear Ps_
  have X1 := X1_
  clear X1_
  have Pg := Pg_
  clear Pg_
  clear X0 hk hb
  have q0_ : W16.cell? ⟨gm, 0, none⟩ = some (.slice Ay m1.length cy) := (blk_cell X1.out.mem 0).trans rfl
  have q1_ : W16.cell? ⟨gm, 1, none⟩ = some (.int .i64 m2) := (blk_cell X1.out.mem 1).trans rfl
  go_wp2_with fail
  refine (laws_markMem.calls k _ (.slice Ay m1.length cy) m1 m2 k1 ka na w W16 ARG.out.below X1.out.row Hka.out).mono ?_
  rintro e W17 ⟨rfl, _, hb, hk⟩
  clear q0_ q1_
  have ARG_ := Aside0.mk (ARG.out.kept hk (hb) (fun k hk h => by omega))
  have Ps_ := Aside0.mk (Ps.out.kept hk (fun k h1 h2 h => by omega))
  have Pg_ := Aside0.mk (Pg.out.kept hk (fun k h1 h2 h => by omega))
  clear ARG Ps Pg
  have ARG := ARG_
  clear ARG_
  have Ps := Ps_
  clear Ps_
  have Pg := Pg_
  clear Pg_
  clear X1 hk hb
  have ht1 := Ht1.out
  have q0_ : W17.cell? ⟨g1g, 0, none⟩ = some (.slice Ag r1.length cg) := (blk_cell Pg.out.mem 0).trans rfl
  have q1_ : W17.cell? ⟨g1g, 1, none⟩ = some (.int .i64 r2) := (blk_cell Pg.out.mem 1).trans rfl
  have q2_ : W17.cell? ⟨g1s, 0, none⟩ = some (.slice As r1.length cs) := (blk_cell Ps.out.mem 0).trans rfl
  have q3_ : W17.cell? ⟨g1s, 1, none⟩ = some (.int .i64 r2) := (blk_cell Ps.out.mem 1).trans rfl
  go_wp2_with fail
  obtain ⟨_, hc1_, hC1_⟩ := Kd.R_reads' Pg.out.row
  obtain ⟨_, hc2_, hC2_⟩ := Kd.R_reads' Ps.out.row
  refine (laws_eqMem.calls k Ag cg r1 r2 As cs r1 r2 true _ hC1_ hc1_ hC2_ hc2_ He1.out).mono ?_
  rintro e W18 ⟨rfl, hb⟩
  clear hc1_ hC1_ hc2_ hC2_
  clear q0_ q1_ q2_ q3_
  have K_ := Kept.of_below hb (fun _ => False)
  have ARG_ := Aside0.mk (ARG.out.kept K_ (below_step ARG.out.below hb) (fun _ _ h => h))
  have Ps_ := Aside0.mk (Ps.out.kept K_ (fun _ _ _ h => h))
  have Pg_ := Aside0.mk (Pg.out.kept K_ (fun _ _ _ h => h))
  clear ARG Ps Pg
  have ARG := ARG_
  clear ARG_
  have Ps := Ps_
  clear Ps_
  have Pg := Pg_
  clear Pg_
  clear K_
  clear hb
  have q0_ : W18.cell? ⟨g1g, 0, none⟩ = some (.slice Ag r1.length cg) := (blk_cell Pg.out.mem 0).trans rfl
  have q1_ : W18.cell? ⟨g1g, 1, none⟩ = some (.int .i64 r2) := (blk_cell Pg.out.mem 1).trans rfl
  go_wp2_with fail
  refine (laws_markMem.calls k _ (.slice Ag r1.length cg) r1 r2 1 kr nr w W18 ARG.out.below Pg.out.row Hkr.out).mono ?_
  rintro e W19 ⟨rfl, hR, hb, hk⟩
  clear q0_ q1_
  have hl : r1.length = nr.length := (Kd.R_reads' hR).1
  have Og : Aside0 (OwnW w W19 g1g Ag cg nr r2) := ⟨⟨by rw [← hl]; exact blk_kept Pg.out.mem hk (fun h => h.2.2 rfl), _, by rw [← hl]; exact hR⟩⟩
  have ARG_ := Aside0.mk (ARG.out.kept hk (hb) (fun k hk h => by omega))
  have Ps_ := Aside0.mk (Ps.out.kept hk (fun k h1 h2 h => by omega))
  clear ARG Ps
  have ARG := ARG_
  clear ARG_
  have Ps := Ps_
  clear Ps_
  clear Pg hk hb hR hl
  have q0_ : W19.cell? ⟨g1g, 0, none⟩ = some (.slice Ag nr.length cg) := (blk_cell Og.out.mem 0).trans rfl
  have q1_ : W19.cell? ⟨g1g, 1, none⟩ = some (.int .i64 r2) := (blk_cell Og.out.mem 1).trans rfl
  have ht2 := Ht2.out
  have hkk : (kr != kr) = false := by simp
  go_wp2_with fail
  refine (laws_heldMem.calls k Ag cg nr r2 1 kr _ Og.out.reads.2 Og.out.reads.1 Hh.out).mono ?_
  rintro e W20 ⟨rfl, hb⟩
  clear q0_ q1_
  have K_ := Kept.of_below hb (fun _ => False)
  have ARG_ := Aside0.mk (ARG.out.kept K_ (below_step ARG.out.below hb) (fun _ _ h => h))
  have Ps_ := Aside0.mk (Ps.out.kept K_ (fun _ _ _ h => h))
  have Og_ := Aside0.mk (Og.out.kept K_ (fun _ _ _ h => h))
  clear ARG Ps Og
  have ARG := ARG_
  clear ARG_
  have Ps := Ps_
  clear Ps_
  have Og := Og_
  clear Og_
  clear K_
  clear hb
  go_wp2
  clear ht2 hkk
  refine free_ (n := 9) (e := 8) (g := 4) (T := (true, [([], []), ([0], [0]), ([], []), ([2, 1], [2]), ([], []), ([], []), ([1, 3, 4, 5, 3], [1, 3, 4, 5]), ([], []), ([7, 6, 6, 0, 1, 2, 3, 4, 5, 6, 7], [6, 7])])) #[true, true, true, true, true, true, true, true, false] #[true, true, true, true, false, true, true, true, false] [83, 84, 85, 86, 87, 88, 89, 17] (fun j u w' => match j with
    | 0 => u = .agg #[.slice A0 l0.length c0]
    | 1 => isImg W20.heap.size mi u w'
    | 2 => u = .agg #[.slice A1 l1.length c1, .int .i64 b]
    | 3 => isMem W20.heap.size m1 m2 u w'
    | 4 => u = .int .i64 v2
    | 5 => u = .int .i64 v3
    | 6 => isMem W20.heap.size r1 r2 u w'
    | 7 => isNew W20.heap.size 37 #[.slice none 0 0, .int .i64 0] u w'
    | _ => False)
    (by kernel_rfl) rfl (by kernel_rfl) (by kernel_rfl) (by kernel_rfl) (any_of (T := (true, [([], []), ([0], [0]), ([], []), ([2, 1], [2]), ([], []), ([], []), ([1, 3, 4, 5, 3], [1, 3, 4, 5]), ([], []), ([7, 6, 6, 0, 1, 2, 3, 4, 5, 6, 7], [6, 7])])) (by kernel_rfl) (by kernel_rfl)) (fun _ _ _ _ h => h) ?stableh ?steph ?lagh ?lasth
  case stableh =>
    intro j u W W' h hb
    rcases j with _ | _ | _ | _ | _ | _ | _ | _ | j
    · exact h
    · exact isImg_below h hb
    · exact h
    · exact isMem_below h hb
    · exact h
    · exact h
    · exact isMem_below h hb
    · exact isNew_below h hb
    · exact h
  case steph =>
    intro i hi o ho a W hB hout hneed K hK
    have HBW := Aside0.mk hB
    have hcase : i = 0 ∨ i = 1 ∨ i = 2 ∨ i = 3 ∨ i = 4 ∨ i = 5 ∨ i = 6 ∨ i = 7 := by omega
    clear hB
    rcases hcase with rfl | rfl | rfl | rfl | rfl | rfl | rfl | rfl
    · obtain rfl := Option.some.inj ho
      have h3 : a.eval (.tmp 4) = .pointer (some ⟨w.heap.size, 0, none⟩) := hout 4 (by decide)
      have h3' := eval_get h3
      have hb := blk_below (w := W20.drew) ARG.out.f0 HBW.out
      have d0 := (blk_cell hb 0).trans rfl
      refine value_ (v := .agg #[.slice A0 l0.length c0]) (w1 := W) (by rfl) rfl ?_ (hK.out _ _ (Below.refl _ _) rfl)
      go_simp
    · obtain rfl := Option.some.inj ho
      have e0 : a.eval (.tmp 83) = _ := hneed 0 (by decide)
      refine goes_ Try.func17 (by kernel_rfl) rfl #[.agg #[.slice A0 l0.length c0]] (by rfl) rfl rfl (by simp only [List.map_toArray, List.map_cons, List.map_nil, e0]) ?_
      refine (laws_toImage.calls k A0 c0 l0 mi W (Kd.C_below HR0.out (below_step (w := w) (W := W20.drew) (below_drew1 ARG.out.below) HBW.out)) HC0.out Hmi.out).mono ?_
      rintro e w' ⟨u, rfl, hR, hb⟩
      exact ⟨_, rfl, hK.out _ _ hb ⟨u, rfl, Kd.S_lower hR HBW.out.size⟩⟩
    · obtain rfl := Option.some.inj ho
      have h3 : a.eval (.tmp 5) = .pointer (some ⟨w.heap.size + 1, 0, none⟩) := hout 5 (by decide)
      have h3' := eval_get h3
      have hb := blk_below (w := W20.drew) ARG.out.f1 HBW.out
      have d0 := (blk_cell hb 0).trans rfl
      have d1 := (blk_cell hb 1).trans rfl
      refine value_ (v := .agg #[.slice A1 l1.length c1, .int .i64 b]) (w1 := W) (by rfl) rfl ?_ (hK.out _ _ (Below.refl _ _) rfl)
      go_simp
    · obtain rfl := Option.some.inj ho
      have e0 : a.eval (.tmp 85) = _ := hneed 2 (by decide)
      refine goes_ Try.func22 (by kernel_rfl) rfl #[.agg #[.slice A1 l1.length c1, .int .i64 b]] (by rfl) rfl rfl (by simp only [List.map_toArray, List.map_cons, List.map_nil, e0]) ?_
      refine (laws_toMem.calls k A1 c1 l1 b m1 m2 W (Kd.C_below HR1.out (below_step (w := w) (W := W20.drew) (below_drew1 ARG.out.below) HBW.out)) HC1.out Hm.out).mono ?_
      rintro e w' ⟨u, rfl, hR, hb⟩
      exact ⟨_, rfl, hK.out _ _ hb ⟨u, rfl, Kd.R_lower hR HBW.out.size⟩⟩
    · obtain rfl := Option.some.inj ho
      have h3 : a.eval (.tmp 2) = .int .i64 v2 := hout 2 (by decide)
      have h3' := eval_get h3
      refine value_ (v := .int .i64 v2) (w1 := W) (by rfl) rfl ?_ (hK.out _ _ (Below.refl _ _) rfl)
      go_simp
    · obtain rfl := Option.some.inj ho
      have h3 : a.eval (.tmp 3) = .int .i64 v3 := hout 3 (by decide)
      have h3' := eval_get h3
      refine value_ (v := .int .i64 v3) (w1 := W) (by rfl) rfl ?_ (hK.out _ _ (Below.refl _ _) rfl)
      go_simp
    · obtain rfl := Option.some.inj ho
      obtain ⟨ui, ei, hRi⟩ : isImg _ _ (a.eval (.tmp 84)) W := hneed 1 (by decide)
      obtain ⟨Ai, ci, rfl⟩ := Kd.S_slice hRi
      obtain ⟨_, hci, hCi⟩ := Kd.S_reads' hRi
      obtain ⟨um, em, hRm⟩ : isMem _ _ _ (a.eval (.tmp 86)) W := hneed 3 (by decide)
      obtain ⟨Am, cm, rfl⟩ := Kd.R_slice hRm
      obtain ⟨_, hcm, hCm⟩ := Kd.R_reads' hRm
      have eo4 : a.eval (.tmp 87) = _ := hneed 4 (by decide)
      have eo5 : a.eval (.tmp 88) = _ := hneed 5 (by decide)
      refine goes_ Try.func51 (by kernel_rfl) rfl #[.agg #[.slice Ai mi.length ci], .agg #[.slice Am m1.length cm, .int .i64 m2], .int .i64 v2, .int .i64 v3] (by rfl) rfl rfl (by simp only [List.map_toArray, List.map_cons, List.map_nil, ei, em, eo4, eo5]) ?_
      refine (impl_Poke.calls k Ai ci mi Am cm m1 m2 v2 v3 r1 r2 W hCi hci hCm hcm Hi.out).mono ?_
      rintro e w' ⟨u, rfl, hR, hb⟩
      exact ⟨_, rfl, hK.out _ _ hb ⟨u, rfl, Kd.R_lower hR HBW.out.size⟩⟩
    · obtain rfl := Option.some.inj ho
      refine value_ (v := .pointer (some ⟨W.heap.size, 0, none⟩)) (w1 := W.alloc (.cells #[.slice none 0 0, .int .i64 0] 37)) (by rfl) rfl ?_ (hK.out _ _ (below_alloc (Below.refl _ _) _) ⟨_, rfl, HBW.out.size, alloc_at _ _ _ rfl⟩)
      go_simp
  case lagh =>
    intro o ho a W hout hneed
    obtain rfl := Option.some.inj ho
    have h3 : a.eval (.tmp 2) = .int .i64 v2 := hout 2 (by decide)
    have h3' := eval_get h3
    refine ⟨.int .i64 v2, rfl, Or.inl ⟨by rfl, ?_⟩⟩
    intro w'
    go_simp
  intro f vs W21 hB hE
  have HBW := Aside0.mk hB
  clear hB
  have q0 : vs 0 = _ := hE 0 (by decide)
  obtain ⟨u1h, q1, hR1⟩ : isImg _ _ (vs 1) W21 := hE 1 (by decide)
  have q2 : vs 2 = _ := hE 2 (by decide)
  obtain ⟨u3h, q3, hR3⟩ : isMem _ _ _ (vs 3) W21 := hE 3 (by decide)
  have q4 : vs 4 = _ := hE 4 (by decide)
  have q5 : vs 5 = _ := hE 5 (by decide)
  obtain ⟨u6h, q6, hR6⟩ : isMem _ _ _ (vs 6) W21 := hE 6 (by decide)
  obtain ⟨g1h, q7, hg1, hb1⟩ : isNew _ _ _ (vs 7) W21 := hE 7 (by decide)
  show wpAnyLast _ _ _ _ _ _ (f + 1) _ (putAll _ [(83, vs 0), (84, vs 1), (85, vs 2), (86, vs 3), (87, vs 4), (88, vs 5), (89, vs 6), (17, vs 7)]) W21
  rw [q0, q1, q2, q3, q4, q5, q6, q7]
  clear q0 q1 q2 q3 q4 q5 q6 q7 hE
  refine norm_ (a' := ?_) ?_ ?_
  rotate_left
  · simp only [putAll, Act.put, List.setIfInBounds_toArray, List.set_cons_zero, List.set_cons_succ]
    rfl
  obtain ⟨Ah, ch, rfl⟩ := Kd.R_slice hR6
  refine one_ (i := 8) (N := none) #[true, true, true, true, true, true, true, true, true] rfl rfl (by kernel_rfl) (by decide) (fun K hK => ?_)
  refine skip_ (w1 := ?_) (by rfl) rfl ?_ ?_
  rotate_left
  · skip
    have r0 : W21.cell? ⟨g1h, 0, none⟩ = some (.slice none 0 0) := (blk_cell hb1 0).trans rfl
    have f0 := blk_frozen hb1 0
    have r1 : W21.cell? ⟨g1h, 1, none⟩ = some (.int .i64 0) := (blk_cell hb1 1).trans rfl
    have f1 := blk_frozen hb1 1
    go_simp
    rfl
  refine hK.out _ _ trivial (fun _ => ?_)
  clear hK K
  refine done_ (by kernel_rfl) ?_
  obtain ⟨A_, c_, e_, P, Kp, B⟩ := mem_made (w := w) (W1 := W20.drew) (below_drew1 ARG.out.below) HBW.out hR6 hb1 hg1 r2
  cases e_
  have hz_W22 : W20.heap.size ≤ _ := Kp.1
  have ARG_ := Aside0.mk (ARG.out.kept Kp (B) (fun _ _ h => h))
  have Ps_ := Aside0.mk (Ps.out.kept Kp (fun _ _ _ h => h))
  have Og_ := Aside0.mk (Og.out.kept Kp (fun _ _ _ h => h))
  clear ARG Ps Og
  have ARG := ARG_
  clear ARG_
  have Ps := Ps_
  clear Ps_
  have Og := Og_
  clear Og_
  have Ph := Aside0.mk P
  clear P Kp B hR6 hb1 hg1 HBW
  generalize hW_ : ((W21.setCell ⟨g1h, 0, none⟩ (.slice Ah r1.length ch)).setCell ⟨g1h, 1, none⟩ (.int .i64 r2)) = W22 at *
  clear hW_
  have q0_ : W22.cell? ⟨g1h, 0, none⟩ = some (.slice Ah r1.length ch) := (blk_cell Ph.out.mem 0).trans rfl
  have q1_ : W22.cell? ⟨g1h, 1, none⟩ = some (.int .i64 r2) := (blk_cell Ph.out.mem 1).trans rfl
  have q2_ : W22.cell? ⟨g1s, 0, none⟩ = some (.slice As r1.length cs) := (blk_cell Ps.out.mem 0).trans rfl
  have q3_ : W22.cell? ⟨g1s, 1, none⟩ = some (.int .i64 r2) := (blk_cell Ps.out.mem 1).trans rfl
  go_wp2_with fail
  obtain ⟨_, hc1_, hC1_⟩ := Kd.R_reads' Ph.out.row
  obtain ⟨_, hc2_, hC2_⟩ := Kd.R_reads' Ps.out.row
  refine (laws_eqMem.calls k Ah ch r1 r2 As cs r1 r2 true _ hC1_ hc1_ hC2_ hc2_ He1.out).mono ?_
  rintro e W23 ⟨rfl, hb⟩
  clear hc1_ hC1_ hc2_ hC2_
  clear q0_ q1_ q2_ q3_
  have K_ := Kept.of_below hb (fun _ => False)
  have ARG_ := Aside0.mk (ARG.out.kept K_ (below_step ARG.out.below hb) (fun _ _ h => h))
  have Ps_ := Aside0.mk (Ps.out.kept K_ (fun _ _ _ h => h))
  have Og_ := Aside0.mk (Og.out.kept K_ (fun _ _ _ h => h))
  have Ph_ := Aside0.mk (Ph.out.kept K_ (fun _ _ _ h => h))
  clear ARG Ps Og Ph
  have ARG := ARG_
  clear ARG_
  have Ps := Ps_
  clear Ps_
  have Og := Og_
  clear Og_
  have Ph := Ph_
  clear Ph_
  clear K_
  clear hb
  have q0_ : W23.cell? ⟨g1g, 0, none⟩ = some (.slice Ag nr.length cg) := (blk_cell Og.out.mem 0).trans rfl
  have q1_ : W23.cell? ⟨g1g, 1, none⟩ = some (.int .i64 r2) := (blk_cell Og.out.mem 1).trans rfl
  have ht2 := Ht2.out
  have hkk : (kr != kr) = false := by simp
  go_wp2_with fail
  refine (laws_heldMem.calls k Ag cg nr r2 1 kr _ Og.out.reads.2 Og.out.reads.1 Hh.out).mono ?_
  rintro e W24 ⟨rfl, hb⟩
  clear q0_ q1_
  have K_ := Kept.of_below hb (fun _ => False)
  have ARG_ := Aside0.mk (ARG.out.kept K_ (below_step ARG.out.below hb) (fun _ _ h => h))
  have Ps_ := Aside0.mk (Ps.out.kept K_ (fun _ _ _ h => h))
  have Og_ := Aside0.mk (Og.out.kept K_ (fun _ _ _ h => h))
  have Ph_ := Aside0.mk (Ph.out.kept K_ (fun _ _ _ h => h))
  clear ARG Ps Og Ph
  have ARG := ARG_
  clear ARG_
  have Ps := Ps_
  clear Ps_
  have Og := Og_
  clear Og_
  have Ph := Ph_
  clear Ph_
  clear K_
  clear hb
  go_wp2
  clear ht2 hkk
  go_ret
  exact ⟨rfl, ARG.out.below⟩
set_option maxRecDepth 100000 in
set_option maxHeartbeats 4000000 in
theorem lawPoke_big1 (k : Nat) (A0 : Option Addr) (c0 : Nat) (l0 : List (List Int)) (A1 : Option Addr) (c1 : Nat) (l1 : List Int) (b : Int) (v2 : Int) (v3 : Int) (w : World) (hr0 : Kd.C (Kd.slice 3 (Kd.int .i64)) w A0 l0.length l0) (hc0 : l0.length ≤ c0) (hr1 : Kd.C (Kd.int .i64) w A1 l1.length l1) (hc1 : l1.length ≤ c1)
    (t : Int) (hsz : laws_szImage.f k l0 1048576 = some t) (ht : t < 0) :
    Calls Try.prog 11 #[.agg #[.slice A0 l0.length c0], .agg #[.slice A1 l1.length c1, .int .i64 b], .int .i64 v2, .int .i64 v3] w fun e w' => e = .returned (.bool true) ∧ Below w.heap.size w w' := by
  have hl_image := Try.underlying24
  have hi_image := Try.underlying27
  have hl_mem := Try.underlying33
  have hi_mem := Try.underlying37
  have HR0 := Aside0.mk hr0
  have HC0 := Aside0.mk hc0
  have HR1 := Aside0.mk hr1
  have HC1 := Aside0.mk hc1
  have Hsz := Aside0.mk hsz
  have ht0 : decide (t < 0) = true := decide_eq_true ht
  clear hr0 hc0 hr1 hc1 hsz ht
  go_enter Try.func11, Try.ntmps11
  go_wp2_with fail
  refine (laws_szImage.calls k A0 c0 l0 1048576 t _ ?hr HC0.out Hsz.out).mono ?_
  case hr => repeat (first | exact HR0.out | (with_reducible refine Kd.C_alloc ?_ _))
  rintro e W1 ⟨rfl, hB⟩
  have ARG : Aside0 (ArgZ w W1 #[.slice A0 l0.length c0] #[.slice A1 l1.length c1, .int .i64 b]) := ⟨⟨below_step (by repeat (first | exact Below.refl _ _ | apply below_alloc)) hB, blk_below (by repeat (first | exact alloc_at _ _ _ (by simp only [alloc_size]) | refine blk_alloc ?_ _)) hB, blk_below (by repeat (first | exact alloc_at _ _ _ (by simp only [alloc_size]) | refine blk_alloc ?_ _)) hB⟩⟩
  clear hB
  go_wp2
  go_ret
  exact ⟨rfl, ARG.out.below⟩
set_option maxRecDepth 100000 in
set_option maxHeartbeats 4000000 in
theorem lawPoke_big2 (k : Nat) (A0 : Option Addr) (c0 : Nat) (l0 : List (List Int)) (A1 : Option Addr) (c1 : Nat) (l1 : List Int) (b : Int) (v2 : Int) (v3 : Int) (w : World) (hr0 : Kd.C (Kd.slice 3 (Kd.int .i64)) w A0 l0.length l0) (hc0 : l0.length ≤ c0) (hr1 : Kd.C (Kd.int .i64) w A1 l1.length l1) (hc1 : l1.length ≤ c1)
    (t : Int) (hsz : laws_szImage.f k l0 1048576 = some t) (t2 : Int) (hsz2 : laws_szMem.f l1 b t = some t2) (ht : ¬ t < 0) (ht2 : t2 < 0) :
    Calls Try.prog 11 #[.agg #[.slice A0 l0.length c0], .agg #[.slice A1 l1.length c1, .int .i64 b], .int .i64 v2, .int .i64 v3] w fun e w' => e = .returned (.bool true) ∧ Below w.heap.size w w' := by
  have hl_image := Try.underlying24
  have hi_image := Try.underlying27
  have hl_mem := Try.underlying33
  have hi_mem := Try.underlying37
  have HR0 := Aside0.mk hr0
  have HC0 := Aside0.mk hc0
  have HR1 := Aside0.mk hr1
  have HC1 := Aside0.mk hc1
  have Hsz := Aside0.mk hsz
  have ht0 : decide (t < 0) = false := decide_eq_false ht
  have Hsz2 := Aside0.mk hsz2
  have ht20 : decide (t2 < 0) = true := decide_eq_true ht2
  clear hr0 hc0 hr1 hc1 hsz ht hsz2 ht2
  go_enter Try.func11, Try.ntmps11
  go_wp2_with fail
  refine (laws_szImage.calls k A0 c0 l0 1048576 t _ ?hr HC0.out Hsz.out).mono ?_
  case hr => repeat (first | exact HR0.out | (with_reducible refine Kd.C_alloc ?_ _))
  rintro e W1 ⟨rfl, hB⟩
  have ARG : Aside0 (ArgZ w W1 #[.slice A0 l0.length c0] #[.slice A1 l1.length c1, .int .i64 b]) := ⟨⟨below_step (by repeat (first | exact Below.refl _ _ | apply below_alloc)) hB, blk_below (by repeat (first | exact alloc_at _ _ _ (by simp only [alloc_size]) | refine blk_alloc ?_ _)) hB, blk_below (by repeat (first | exact alloc_at _ _ _ (by simp only [alloc_size]) | refine blk_alloc ?_ _)) hB⟩⟩
  clear hB
  have q0_ : W1.cell? ⟨w.heap.size + 1, 0, none⟩ = some (.slice A1 l1.length c1) := (blk_cell ARG.out.f1 0).trans rfl
  have q1_ : W1.cell? ⟨w.heap.size + 1, 1, none⟩ = some (.int .i64 b) := (blk_cell ARG.out.f1 1).trans rfl
  go_wp2_with fail
  refine (laws_szMem.calls A1 c1 l1 b t t2 _ (Kd.C_below HR1.out ARG.out.below) HC1.out Hsz2.out).mono ?_
  rintro e W2 ⟨rfl, hb⟩
  clear q0_ q1_
  have K_ := Kept.of_below hb (fun _ => False)
  have ARG_ := Aside0.mk (ARG.out.kept K_ (below_step ARG.out.below hb) (fun _ _ h => h))
  clear ARG 
  have ARG := ARG_
  clear ARG_
  clear K_
  clear hb
  go_wp2
  go_ret
  exact ⟨rfl, ARG.out.below⟩
/-- What the law answers where all is well: true; nothing is said elsewhere. -/
def laws_FnExactPoke.f (k : Nat) (l0_0 : List (List Int)) (l1_0 : List Int) (a1_1 : Int) (a2 : Int) (a3 : Int) : Option Bool :=
  (laws_szImage.f k l0_0 1048576).bind fun t =>
  if t < 0 then some true else
  (laws_szMem.f l1_0 a1_1 t).bind fun t2 =>
  if t2 < 0 then some true else
  (laws_toImage.f k l0_0).bind fun m0 =>
  (laws_toMem.f k l1_0 a1_1).bind fun m =>
  (spec_Poke.f k m0 m.1 m.2 a2 a3).bind fun s =>
  (impl_Poke.f k m0 m.1 m.2 a2 a3).bind fun g =>
  (laws_eqMem.f k s.1 s.2 s.1 s.2).bind fun e1 =>
  (laws_eqImage.f k m0 m0).bind fun ei =>
  (laws_eqMem.f k m.1 m.2 m.1 m.2).bind fun e3 =>
  (laws_markIntSS.f k m0 1).bind fun q1 =>
  (laws_markMem.f k m.1 m.2 q1.1).bind fun qa =>
  (laws_markMem.f k s.1 s.2 1).bind fun qr =>
  (laws_heldMem.f k qr.2 s.2 1).bind fun h =>
  if g = s ∧ e1 = true ∧ ei = true ∧ e3 = true ∧ ¬ qa.1 < 0 ∧ ¬ qr.1 < 0 ∧ h = qr.1 then some true else none
theorem laws_FnExactPoke.calls (k : Nat) (A0_0 : Option Addr) (c0_0 : Nat) (l0_0 : List (List Int)) (A1_0 : Option Addr) (c1_0 : Nat) (l1_0 : List Int) (a1_1 : Int) (a2 : Int) (a3 : Int) (r : Bool) (w : World) (hr0_0 : Kd.C (Kd.slice 3 (Kd.int .i64)) w A0_0 l0_0.length l0_0) (hc0_0 : l0_0.length ≤ c0_0) (hr1_0 : Kd.C (Kd.int .i64) w A1_0 l1_0.length l1_0) (hc1_0 : l1_0.length ≤ c1_0) (h : laws_FnExactPoke.f k l0_0 l1_0 a1_1 a2 a3 = some r) (hrt : r = true) :
    Calls Try.prog 11 #[.agg #[.slice A0_0 l0_0.length c0_0], .agg #[.slice A1_0 l1_0.length c1_0, .int .i64 a1_1], .int .i64 a2, .int .i64 a3] w fun e w' => e = .returned (.bool r) ∧ Below w.heap.size w w' := by
  subst hrt
  unfold laws_FnExactPoke.f at h
  obtain ⟨t, hsz, h1_⟩ := Option.bind_eq_some_iff.mp h
  clear h
  by_cases ht : t < 0
  · exact lawPoke_big1 k A0_0 c0_0 l0_0 A1_0 c1_0 l1_0 a1_1 a2 a3 w hr0_0 hc0_0 hr1_0 hc1_0 t hsz ht
  · rw [if_neg ht] at h1_
    obtain ⟨t2, hsz2, h2_⟩ := Option.bind_eq_some_iff.mp h1_
    clear h1_
    by_cases ht2 : t2 < 0
    · exact lawPoke_big2 k A0_0 c0_0 l0_0 A1_0 c1_0 l1_0 a1_1 a2 a3 w hr0_0 hc0_0 hr1_0 hc1_0 t hsz t2 hsz2 ht ht2
    · rw [if_neg ht2] at h2_
      obtain ⟨mi, hmi, h3_⟩ := Option.bind_eq_some_iff.mp h2_
      clear h2_
      obtain ⟨⟨m1, m2⟩, hm, h4_⟩ := Option.bind_eq_some_iff.mp h3_
      clear h3_
      obtain ⟨⟨r1, r2⟩, hs, h5_⟩ := Option.bind_eq_some_iff.mp h4_
      clear h4_
      obtain ⟨g, hi, h6_⟩ := Option.bind_eq_some_iff.mp h5_
      clear h5_
      obtain ⟨e1, he1, h7_⟩ := Option.bind_eq_some_iff.mp h6_
      clear h6_
      obtain ⟨ei, hei, h8_⟩ := Option.bind_eq_some_iff.mp h7_
      clear h7_
      obtain ⟨e3, he3, h9_⟩ := Option.bind_eq_some_iff.mp h8_
      clear h8_
      obtain ⟨⟨k1, n1⟩, hk1, h10_⟩ := Option.bind_eq_some_iff.mp h9_
      clear h9_
      obtain ⟨⟨ka, na⟩, hka, h11_⟩ := Option.bind_eq_some_iff.mp h10_
      clear h10_
      obtain ⟨⟨kr, nr⟩, hkr, h12_⟩ := Option.bind_eq_some_iff.mp h11_
      clear h11_
      obtain ⟨q, hh, h13_⟩ := Option.bind_eq_some_iff.mp h12_
      clear h12_
      by_cases hall : g = (r1, r2) ∧ e1 = true ∧ ei = true ∧ e3 = true ∧ ¬ ka < 0 ∧ ¬ kr < 0 ∧ q = kr
      · obtain ⟨rfl, rfl, rfl, rfl, hka', hkr', rfl⟩ := hall
        exact lawPoke_true k A0_0 c0_0 l0_0 A1_0 c1_0 l1_0 a1_1 a2 a3 w hr0_0 hc0_0 hr1_0 hc1_0 t hsz t2 hsz2 mi hmi m1 m2 hm r1 r2 hs hi ht ht2 he1 hei he3 k1 n1 hk1 ka na hka hka' q nr hkr hkr' hh
      · rw [if_neg hall] at h13_
        cases h13_

end Go.Proofs.Ytmiaocoffmobcaa.MFnExactPoke
