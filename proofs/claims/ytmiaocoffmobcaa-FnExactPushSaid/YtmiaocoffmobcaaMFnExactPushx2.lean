/- Walks of functions that the law FnExactPush reaches: each comes to just what its Lean function says. (Begun as the texts that print.sh wrote for this claim; some of them, and those that it does not write, are mine.) No condition. -/
import Derived.Test.YtmiaocoffmobcaaMFnExactPushx1
namespace Go.Proofs.Ytmiaocoffmobcaa.MFnExactPush
open Go.RowKit Go.Proofs.YtmiaocoffmobcaaW.PrintWords Go.Proofs.YtmiaocoffmobcaaW.PrintLast Go.Proofs.YtmiaocoffmobcaaW.PrintMore
attribute [local go_sem] max2_int min2_int max_two min_two max_three min_three max_four min_four   -- for this text's walks alone
set_option linter.unusedVariables false
set_option linter.unusedSimpArgs false

/-! ### impl_copyMem: function 70 -/
def impl_copyMem.f (l0_0 : List Int) (a0_1 : Int) : Option (List Int × Int) := (impl_copyInts.f l0_0).bind fun t146 => (some (t146, a0_1))
set_option maxHeartbeats 8000000 in
set_option maxRecDepth 100000 in
theorem impl_copyMem.calls (A0_0 : Option Addr) (c0_0 : Nat) (l0_0 : List Int) (a0_1 : Int) (r1 : List Int) (r2 : Int) (w : World) (hr0_0 : Kd.C (Kd.int .i64) w A0_0 l0_0.length l0_0) (hc0_0 : l0_0.length ≤ c0_0) (h : impl_copyMem.f l0_0 a0_1 = some (r1, r2)) :
    Calls Try.prog 70 #[.agg #[.slice A0_0 l0_0.length c0_0, .int .i64 a0_1]] w fun e w' => ∃ v0_ : Value, e = .returned (.agg #[v0_, .int .i64 r2]) ∧ Kd.R (Kd.int .i64) 3 w' w.heap.size (fun _ => True) v0_ r1 ∧ Below w.heap.size w w' := by
  have hu37 := Try.underlying37
  have HR0_0 := Aside0.mk hr0_0
  have HC0_0 := Aside0.mk hc0_0
  clear hr0_0 hc0_0
  have HB := Aside0.mk (Below.refl w.heap.size w)
  have H : ((impl_copyInts.f l0_0).bind fun t146 => (some (t146, a0_1))) = some (r1, r2) := h
  clear h
  replace H := Option.bind_eq_some_iff.mp H
  obtain ⟨t146, A20, H⟩ := H
  replace H : (some (t146, a0_1)) = some (r1, r2) := H
  have A2 := Aside0.mk A20
  clear A20
  simp only [Option.some.injEq, Prod.mk.injEq] at H
  obtain ⟨rfl, rfl⟩ := H
  go_enter Try.func70, Try.ntmps70
  try go_wp2_with (first | ((with_reducible refine gate_dst (N := 1) rfl ?_); refine box_event ?hg (N := 1) ?hd (cs := #[.slice A0_0 l0_0.length c0_0, .int .i64 a0_1]) (t := 37) ?hr ?_; (case hd => rfl); (case hg => rfl); (case hr => first | (go_simp; done) | (go_simp; rfl)); intro gb144 hg w3 hbox hb; have n0_ := Aside0.mk (below_step (by repeat (first | (with_reducible first | exact HB.out | apply below_alloc | apply pw_below_drewN | apply below_drew1) | exact HB.out)) hb); have n1_ := Aside0.mk (hbox); have n2_ := Aside0.mk ((by rw [hg]; exact (below_size (by repeat (first | (with_reducible first | exact HB.out | apply below_alloc | apply pw_below_drewN | apply below_drew1) | exact HB.out))) : w.heap.size ≤ gb144)); have n3_ := Aside0.mk ((by rw [hg]; exact (below_size (by repeat (first | (with_reducible first | exact HB.out | apply below_alloc | apply pw_below_drewN | apply below_drew1) | exact HB.out))) : w.heap.size ≤ gb144)); clear HB; have HB := n0_; have BK144 := n1_; have GW144 := n2_; have GE144 := n3_; clear n0_ n1_ n2_ n3_; clear hb hbox hg) | ((with_reducible refine gate_dst (N := 2) rfl ?_); refine box_event ?hg (N := 2) ?hd (cs := #[.slice none 0 0, .int .i64 0]) (t := 37) ?hr ?_; (case hd => rfl); (case hg => rfl); (case hr => first | (go_simp; done) | (go_simp; rfl)); intro gb145 hg w4 hbox hb; have n0_ := Aside0.mk (blk_below (g := gb144) (o := .cells #[.slice A0_0 l0_0.length c0_0, .int .i64 a0_1] 37 (0, 0)) (by (with_reducible repeat (first | refine blk_drewN ?_ _ | refine blk_drew ?_ | refine blk_alloc ?_ _)); exact BK144.out) hb); have n1_ := Aside0.mk (below_step (by repeat (first | (with_reducible first | exact HB.out | apply below_alloc | apply pw_below_drewN | apply below_drew1 | refine below_set ?_ GE144.out) | exact HB.out)) hb); have n2_ := Aside0.mk (hbox); have n3_ := Aside0.mk ((by rw [hg]; exact (below_size (by repeat (first | (with_reducible first | exact HB.out | apply below_alloc | apply pw_below_drewN | apply below_drew1 | refine below_set ?_ GE144.out) | exact HB.out))) : w.heap.size ≤ gb145)); have n4_ := Aside0.mk ((by rw [hg]; exact (below_size (by repeat (first | (with_reducible first | exact HB.out | apply below_alloc | apply pw_below_drewN | apply below_drew1 | refine below_set ?_ GE144.out) | exact HB.out))) : w.heap.size ≤ gb145)); have n5_ := Aside0.mk ((by rw [hg]; exact Nat.ne_of_lt (blk_lt (g := gb144) (o := .cells #[.slice A0_0 l0_0.length c0_0, .int .i64 a0_1] 37 (0, 0)) (by (with_reducible repeat (first | refine blk_drewN ?_ _ | refine blk_drew ?_ | refine blk_alloc ?_ _)); exact BK144.out)) : gb144 ≠ gb145)); have n6_ := Aside0.mk ((by rw [hg]; exact Nat.ne_of_gt (blk_lt (g := gb144) (o := .cells #[.slice A0_0 l0_0.length c0_0, .int .i64 a0_1] 37 (0, 0)) (by (with_reducible repeat (first | refine blk_drewN ?_ _ | refine blk_drew ?_ | refine blk_alloc ?_ _)); exact BK144.out)) : gb145 ≠ gb144)); clear BK144; clear HB; have BK144 := n0_; have HB := n1_; have BK145 := n2_; have GW145 := n3_; have GE145 := n4_; have NB144_145 := n5_; have NB145_144 := n6_; clear n0_ n1_ n2_ n3_ n4_ n5_ n6_; clear hb hbox hg))
  have n0_ := Aside0.mk (blk_drew BK144.out)
  have n1_ := Aside0.mk (blk_drew BK145.out)
  have n2_ := Aside0.mk (below_drew1 HB.out)
  clear BK144
  clear BK145
  clear HB
  have BK144 := n0_
  have BK145 := n1_
  have HB := n2_
  clear n0_ n1_ n2_
  refine start_ (n := 7) (S := fun w' => w'.cell? ⟨gb144, 0, none⟩ = some (.slice A0_0 l0_0.length c0_0) ∧ w'.cell? ⟨gb144, 1, none⟩ = some (.int .i64 a0_1)) (ds := []) #[false, false, false, false, false, false, false] (by kernel_rfl) rfl rfl ⟨(blk_cell BK144.out 0).trans rfl, (blk_cell BK144.out 1).trans rfl⟩ (fun hHeld => ?_)
  generalize w4.drew = w5 at BK144 BK145 HB hHeld ⊢
  refine pure_ (i := 0) (N := some 3) (v := ?_) (a' := ?_) #[true, false, false, false, false, false, false] rfl rfl (by kernel_rfl) (fun _ _ _ h => h) (Or.inl ⟨by rfl, ?_⟩) ?_ ?_
  rotate_left
  · intro w'
    go_simp
    with_reducible rfl
  rotate_left
  · simp only [Act.put, List.setIfInBounds_toArray, List.set_cons_zero, List.set_cons_succ, i64_w, i32_w]
    rfl
  refine pure_ (i := 3) (N := some 6) (v := ?_) (a' := ?_) #[true, false, false, true, false, false, false] rfl rfl (by kernel_rfl) (fun _ _ _ h => h) (Or.inl ⟨by rfl, ?_⟩) ?_ ?_
  rotate_left
  · intro w'
    go_simp
    with_reducible rfl
  rotate_left
  · simp only [Act.put, List.setIfInBounds_toArray, List.set_cons_zero, List.set_cons_succ, i64_w, i32_w]
    rfl
  refine take_ (i := 1) (N := some 4) (v := ?_) (a' := ?_) #[true, true, false, true, false, false, false] rfl rfl (by kernel_rfl) (fun _ _ _ h => h) (Or.inl ⟨by rfl, ?_⟩) hHeld ?_ ?_
  rotate_left
  · rintro w' ⟨s0, s1⟩
    go_simp
    with_reducible rfl
  rotate_left
  · simp only [Act.put, List.setIfInBounds_toArray, List.set_cons_zero, List.set_cons_succ, i64_w, i32_w]
    rfl
  refine take_ (i := 4) (N := some 7) (v := ?_) (a' := ?_) #[true, true, false, true, true, false, false] rfl rfl (by kernel_rfl) (fun _ _ _ h => h) (Or.inl ⟨by rfl, ?_⟩) hHeld ?_ ?_
  rotate_left
  · rintro w' ⟨s0, s1⟩
    go_simp
    with_reducible rfl
  rotate_left
  · simp only [Act.put, List.setIfInBounds_toArray, List.set_cons_zero, List.set_cons_succ, i64_w, i32_w]
    rfl
  refine one_ (i := 2) (N := some 5) #[true, true, true, true, true, false, false] rfl rfl (by kernel_rfl) (by decide) (fun K hK => ?_)
  refine goes_ Try.func74 (by kernel_rfl) rfl #[.slice A0_0 l0_0.length c0_0] (by rfl) rfl rfl (by (try simp only [List.map_toArray, List.map_cons, List.map_nil]); first | done | rfl | (simp only [List.length_drop, List.length_take]; rfl)) ?_
  with_reducible refine (impl_copyInts.calls _ _ l0_0 t146 _ ?side1 ?side2 A2.out).mono ?_
  (case side1 => repeat (first | exact (Kd.C_below HR0_0.out HB.out) | (with_reducible refine Kd.C_alloc ?_ _) | (with_reducible refine Kd.C_drewN ?_ _) | (with_reducible refine Kd.C_drew ?_)))
  (case side2 => exact HC0_0.out)
  rintro e w6 ⟨v147, rfl, ho0, hb⟩
  refine ⟨_, rfl, ?_⟩
  have n0_ := Aside0.mk (Kd.R_lower ho0 (below_size (by repeat (first | (with_reducible first | exact HB.out | apply below_alloc | apply pw_below_drewN | apply below_drew1 | refine below_set ?_ GE144.out | refine below_set ?_ GE145.out) | exact HB.out))))
  have n1_ := Aside0.mk (blk_below (g := gb144) (o := .cells #[.slice A0_0 l0_0.length c0_0, .int .i64 a0_1] 37 (0, 0)) (by (with_reducible repeat (first | refine blk_drewN ?_ _ | refine blk_drew ?_ | refine blk_alloc ?_ _)); exact BK144.out) hb)
  have n2_ := Aside0.mk (blk_below (g := gb145) (o := .cells #[.slice none 0 0, .int .i64 0] 37 (0, 0)) (by (with_reducible repeat (first | refine blk_drewN ?_ _ | refine blk_drew ?_ | refine blk_alloc ?_ _)); exact BK145.out) hb)
  have n3_ := Aside0.mk (below_step (by repeat (first | (with_reducible first | exact HB.out | apply below_alloc | apply pw_below_drewN | apply below_drew1 | refine below_set ?_ GE144.out | refine below_set ?_ GE145.out) | exact HB.out)) hb)
  clear BK144
  clear BK145
  clear HB
  have HO148 := n0_
  have BK144 := n1_
  have BK145 := n2_
  have HB := n3_
  clear n0_ n1_ n2_ n3_
  (try clear hb)
  (try clear hb2)
  (try clear hk)
  (try clear hi)
  (try clear ho0)
  obtain ⟨Ao7, co7, eo7⟩ := Kd.R_slice HO148.out
  (first | subst eo7 | (injection eo7 with f1_ f2_ f3_; have f4_ := f1_.symm; have f5_ := f3_.symm; clear f1_ f2_ f3_; subst f4_; subst f5_))
  refine hK.out _ _ ⟨(blk_cell BK144.out 0).trans rfl, (blk_cell BK144.out 1).trans rfl⟩ (fun hHeld => ?_)
  clear hK K
  refine norm_ (a' := ?_) ?_ ?_
  rotate_left
  · show Act.put _ (some 5) _ = _
    simp only [Act.put, List.setIfInBounds_toArray, List.set_cons_zero, List.set_cons_succ, i64_w, i32_w]
    rfl
  refine pure_ (i := 5) (N := some 8) (v := ?_) (a' := ?_) #[true, true, true, true, true, true, false] rfl rfl (by kernel_rfl) (fun _ _ _ h => h) (Or.inl ⟨by rfl, ?_⟩) ?_ ?_
  rotate_left
  · intro w'
    go_simp
    with_reducible rfl
  rotate_left
  · simp only [Act.put, List.setIfInBounds_toArray, List.set_cons_zero, List.set_cons_succ, i64_w, i32_w]
    rfl
  refine one_ (i := 6) (N := none) #[true, true, true, true, true, true, true] rfl rfl (by kernel_rfl) (by decide) (fun K hK => ?_)
  have hs8 : w6.cell? ⟨gb145, 0, none⟩ = some (.slice none 0 0) := (blk_cell BK145.out 0).trans rfl
  have hfs8 := blk_frozen BK145.out 0
  have hns8_0 := NB144_145.out
  have hms8_0 := NB145_144.out
  have hs9 : w6.cell? ⟨gb145, 1, none⟩ = some (.int .i64 0) := (blk_cell BK145.out 1).trans rfl
  have hfs9 := blk_frozen BK145.out 1
  have hns9_0 := NB144_145.out
  have hms9_0 := NB145_144.out
  refine skip_ (w1 := ?_) (by rfl) rfl ?_ ?_
  rotate_left
  · go_simp
    rfl
  refine hK.out _ _ ⟨((cell_far (p := ⟨gb145, _, none⟩) NB144_145.out _).trans (((cell_far (p := ⟨gb145, _, none⟩) NB144_145.out _).trans (hHeld.1)))), ((cell_far (p := ⟨gb145, _, none⟩) NB144_145.out _).trans (((cell_far (p := ⟨gb145, _, none⟩) NB144_145.out _).trans (hHeld.2))))⟩ (fun hHeld => ?_)
  clear hK K
  refine done_ (by kernel_rfl) ?_
  try go_wp2
  refine bodyPost_ret (results_cell_row rfl _ _ gb145 37 #[.slice Ao7 t146.length co7, .int .i64 a0_1] (0, 0) _ rfl (by (with_reducible repeat (first | refine blk_drewN ?_ _ | refine blk_drew ?_ | refine blk_alloc ?_ _)); refine blk_put (cs := #[.slice Ao7 t146.length co7, .int .i64 0]) ?_ 1 _ rfl; (with_reducible repeat (first | refine blk_drewN ?_ _ | refine blk_drew ?_ | refine blk_alloc ?_ _)); refine blk_put (cs := #[.slice none 0 0, .int .i64 0]) ?_ 0 _ rfl; (with_reducible repeat (first | refine blk_drewN ?_ _ | refine blk_drew ?_ | refine blk_alloc ?_ _)); exact BK145.out) Try.underlying37 rfl (by kernel_rfl)) rfl ?_
  exact ⟨_, by first | rfl | (simp [errW_none, errW_some] <;> rfl) | (simp [*, errW_none, errW_some] <;> rfl), by (with_reducible repeat (first | apply Kd.R_alloc | apply Kd.R_drewN | apply Kd.R_drew)); exact Kd.R_mono (Kd.R_far (p := ⟨gb145, 1, none⟩) (Kd.R_far (p := ⟨gb145, 0, none⟩) (Kd.R_types HO148.out BK145.out (by decide)) (fun _ hk => hk.2) (.slice Ao7 t146.length co7)) (fun _ hk => hk.2) (.int .i64 a0_1)) (fun _ hk => trivial), by repeat (first | (with_reducible first | exact HB.out | apply below_alloc | apply pw_below_drewN | apply below_drew1 | refine below_set ?_ GE144.out | refine below_set ?_ GE145.out) | exact HB.out)⟩

/-! ### impl_Byte: function 77 -/
def impl_Byte.f (a0 : Int) : Option (Int) := some (Go.bits .and .i64 a0 255)
set_option maxHeartbeats 8000000 in
set_option maxRecDepth 100000 in
theorem impl_Byte.calls (a0 : Int) (r : Int) (w : World) (h : impl_Byte.f a0 = some r) :
    Calls Try.prog 77 #[.int .i64 a0] w fun e w' => e = .returned (.int .i64 r) ∧ Drawn0 w w' := by
  have H : (some (Go.bits .and .i64 a0 255)) = some r := h
  clear h
  obtain rfl := Option.some.inj H
  go_enter Try.func77, Try.ntmps77
  go_wp2
  go_ret
  exact ⟨by first | rfl | (simp; done) | (simp [*]; done), by repeat (first | exact Drawn0.refl _ | apply Drawn0.step)⟩

-- NOT PRINTED: function 71 (impl_Mem_push)

-- NOT PRINTED: function 24 (impl_Push)

/-! ### mine_words (mine) -/
theorem and_low (n : Int) (j : Nat) (m : Int) (hj : j < 64) (hm : (BitVec.ofInt 64 m).toNat = 2 ^ j - 1) : Go.bits .and .i64 n m = n % (2 ^ j : Nat) := by
  have key : (BitVec.ofInt 64 n &&& BitVec.ofInt 64 m).toNat = (n % ((2 ^ 64 : Nat) : Int)).toNat % 2 ^ j := by
    rw [BitVec.toNat_and, BitVec.toNat_ofInt, hm, Nat.and_two_pow_sub_one_eq_mod]
  show IntKind.i64.wrap ((BitVec.ofInt 64 n &&& BitVec.ofInt 64 m).toNat : Nat) = n % (2 ^ j : Nat)
  have hd : ((2 ^ j : Nat) : Int) ∣ ((2 ^ 64 : Nat) : Int) := by
    exact_mod_cast Nat.pow_dvd_pow 2 (Nat.le_of_lt hj)
  have hp : (0 : Int) < ((2 ^ j : Nat) : Int) := by exact_mod_cast Nat.two_pow_pos j
  have hle : ((2 ^ j : Nat) : Int) ≤ ((2 ^ 63 : Nat) : Int) := by
    exact_mod_cast Nat.pow_le_pow_right (by decide) (by omega)
  have e : (((n % ((2 ^ 64 : Nat) : Int)).toNat % 2 ^ j : Nat) : Int) = n % ((2 ^ j : Nat) : Int) := by
    rw [Int.natCast_emod, Int.toNat_of_nonneg (Int.emod_nonneg _ (by decide)), Int.emod_emod_of_dvd _ hd]
  rw [key, e, IntKind.wrap_i64]
  have h0 := Int.emod_nonneg n (Int.ne_of_gt hp)
  have h1 := Int.emod_lt_of_pos n hp
  generalize n % ((2 ^ j : Nat) : Int) = x at *
  generalize ((2 ^ j : Nat) : Int) = y at *
  have : ((2 ^ 63 : Nat) : Int) = 9223372036854775808 := by decide
  omega
theorem and255 (n : Int) : Go.bits .and .i64 n 255 = n % 256 := and_low n 8 255 (by decide) (by decide)
theorem and65535 (n : Int) : Go.bits .and .i64 n 65535 = n % 65536 := and_low n 16 65535 (by decide) (by decide)
/-- A processor's registers and flags. -/
structure Cp where
  A : Int
  X : Int
  S : Int
  P : Int
  Z : Bool
  N : Bool
  C : Bool
  I : Bool
def Cp.cells (k : Cp) : Array Value := #[.int .i64 k.A, .int .i64 k.X, .int .i64 k.S, .int .i64 k.P, .bool k.Z, .bool k.N, .bool k.C, .bool k.I]
/-- A memory at x and a processor at c, both of the call's own; rv is the memory's row. -/
structure MC (w0 w : World) (x c : Nat) (rv : Value) (b : Int) (k : Cp) (ram : List Int) : Prop where
  mem : w.heap[x]? = some (.cells #[rv, .int .i64 b] 37 (0, 0))
  cpu : w.heap[c]? = some (.cells k.cells 38 (0, 0))
  row : Kd.R (Kd.int .i64) 3 w w0.heap.size (fun _ => True) rv ram
  hx : w0.heap.size ≤ x
  hc : w0.heap.size ≤ c
  below : Below w0.heap.size w0 w
theorem MC.ne {w0 w : World} {x c : Nat} {rv : Value} {b : Int} {k : Cp} {ram : List Int} (h : MC w0 w x c rv b k ram) : x ≠ c := blk_ne h.mem h.cpu (by decide)
theorem MC.far {w0 w : World} {x c : Nat} {rv : Value} {b : Int} {k : Cp} {ram : List Int} (h : MC w0 w x c rv b k ram) : some x ≠ rv.ownBlock ∧ some c ≠ rv.ownBlock := ⟨Kd.R_ne h.row h.mem (by decide), Kd.R_ne h.row h.cpu (by decide)⟩
/-- A world that differs only above. -/
theorem MC.later {w0 w w1 : World} {x c : Nat} {rv : Value} {b : Int} {k : Cp} {ram : List Int} (h : MC w0 w x c rv b k ram) (hb : Below w.heap.size w w1) : MC w0 w1 x c rv b k ram :=
  ⟨blk_below h.mem hb, blk_below h.cpu hb, Kd.R_below h.row hb, h.hx, h.hc, below_then h.below h.below.size hb⟩
theorem MC.drewN {w0 w : World} {x c : Nat} {rv : Value} {b : Int} {k : Cp} {ram : List Int} (h : MC w0 w x c rv b k ram) (n : Nat) : MC w0 (w.drewN n) x c rv b k ram := h.later (pw_below_drewN (Below.refl _ _) n)
theorem MC.drew {w0 w : World} {x c : Nat} {rv : Value} {b : Int} {k : Cp} {ram : List Int} (h : MC w0 w x c rv b k ram) : MC w0 w.drew x c rv b k ram := h.later (below_drew1 (Below.refl _ _))
/-- A store into the processor. -/
theorem MC.setC {w0 w : World} {x c : Nat} {rv : Value} {b : Int} {k k' : Cp} {ram : List Int} (h : MC w0 w x c rv b k ram) (i : Nat) (u : Value) (e : k.cells.setIfInBounds i u = k'.cells) : MC w0 (w.setCell ⟨c, i, none⟩ u) x c rv b k' ram :=
  ⟨blk_far h.mem h.ne u, blk_put h.cpu i u e, Kd.R_mono (Kd.R_far (p := ⟨c, i, none⟩) (Kd.R_types h.row h.cpu (by decide)) (fun _ hk => hk.2) u) (fun _ hk => hk.1), h.hx, h.hc, below_set h.below h.hc⟩
/-- A store into the memory's row. -/
theorem MC.setR {w0 w : World} {x c g cap : Nat} {b : Int} {k : Cp} {ram : List Int} (h : MC w0 w x c (.slice (some ⟨g, 0, none⟩) ram.length cap) b k ram) (hg : w0.heap.size ≤ g) (i v : Int) :
    MC w0 (w.setCell ⟨g, i.toNat, none⟩ (.int .i64 v)) x c (.slice (some ⟨g, 0, none⟩) ram.length cap) b k (ram.set i.toNat v) :=
  ⟨blk_far h.mem (fun e => h.far.1 (by rw [e]; rfl)) _, blk_far h.cpu (fun e => h.far.2 (by rw [e]; rfl)) _, Kd.R_putn h.row i v, h.hx, h.hc, below_set h.below hg⟩
theorem kept_set {w W : World} {S : Nat → Prop} (h : Kept w W S) {g i : Nat} (hg : S g) (u : Value) : Kept w (W.setCell ⟨g, i, none⟩ u) S := h.setCell (.inl hg) u
theorem byte_same (a : Int) (w : World) : Calls Try.prog 77 #[.int .i64 a] w fun e w' => e = .returned (.int .i64 (a % 256)) ∧ w' = w := by
  rw [← and255]
  go_enter Try.func77, Try.ntmps77
  go_wp2
  go_ret
  exact ⟨rfl, rfl⟩

/-! ### mem_push (mine) -/
def pushF (ram : List Int) (k : Cp) (v : Int) : List Int × Cp := if ram.length = 512 then (ram.set (256 + k.S % 256).toNat (v % 256), { k with S := wrap64 (k.S - 1) % 256 }) else (ram, k)
set_option maxRecDepth 100000 in
set_option maxHeartbeats 1000000 in
theorem push_yes (x c g cap : Nat) (ram : List Int) (S v old : Int) (w : World)
    (hx0 : w.cell? ⟨x, 0, none⟩ = some (.slice (some ⟨g, 0, none⟩) ram.length cap)) (hc2 : w.cell? ⟨c, 2, none⟩ = some (.int .i64 S))
    (hlen : ram.length = 512) (hcg : w.cell? ⟨g, (256 + S % 256).toNat, none⟩ = some (.int .i64 old)) (hfg : w.frozen? ⟨g, (256 + S % 256).toNat, none⟩ = false) (hfc : w.frozen? ⟨c, 2, none⟩ = false) (hgc : g ≠ c) (hgx : g ≠ x) (hcx : c ≠ x) :
    Calls Try.prog 71 #[.pointer (some ⟨x, 0, none⟩), .pointer (some ⟨c, 0, none⟩), .int .i64 v] w fun e w' => e = .returned (.tuple #[]) ∧
      w' = ((w.setCell ⟨g, (256 + S % 256).toNat, none⟩ (.int .i64 (v % 256))).setCell ⟨c, 2, none⟩ (.int .i64 (wrap64 (S - 1) % 256))).drew := by
  have hu37 := Try.underlying37
  have hu38 := Try.underlying38
  have hl : (((ram.length : Nat) : Int) != 512) = false := by simp; omega
  have A1 : Aside0 (∀ w, Calls Try.prog 77 #[.int .i64 S] w fun e w' => e = .returned (.int .i64 (S % 256)) ∧ w' = w) := ⟨byte_same S⟩
  have A2 : Aside0 (∀ w, Calls Try.prog 77 #[.int .i64 v] w fun e w' => e = .returned (.int .i64 (v % 256)) ∧ w' = w) := ⟨byte_same v⟩
  have A3 : Aside0 (∀ w, Calls Try.prog 77 #[.int .i64 (wrap64 (S - 1))] w fun e w' => e = .returned (.int .i64 (wrap64 (S - 1) % 256)) ∧ w' = w) := ⟨byte_same _⟩
  have hs0 : 0 ≤ S % 256 := by omega
  have hs1 : S % 256 < 256 := by omega
  generalize wrap64 (S - 1) % 256 = s2 at *
  generalize S % 256 = sb at *
  generalize v % 256 = vb at *
  have hsum : IntKind.i64.wrap (256 + sb) = 256 + sb := by rw [IntKind.wrap_i64]; omega
  have hb1 : (256 + sb < (ram.length : Int)) = True := eq_true (by omega)
  have hb0 : (0 ≤ 256 + sb) = True := eq_true (by omega)
  clear hlen
  go_enter Try.func71, Try.ntmps71
  go_wp2
  go_still_tail 13, (by kernel_rfl)
  still_call (A1.out _)
  repeat still_step
  still_call (A2.out _)
  repeat still_step
  try refine wpStill_nil ?_
  change wpList _ _ _ _ _ w.drew
  go_wp2_with (go_at_call 77; refine (A3.out _).mono ?_; rintro e w' ⟨rfl, rfl⟩)
  go_end0
  exact ⟨rfl, rfl⟩
set_option maxRecDepth 100000 in
set_option maxHeartbeats 1000000 in
theorem push_no (x c : Nat) (A : Option Addr) (cap : Nat) (ram : List Int) (v : Int) (w : World)
    (hx0 : w.cell? ⟨x, 0, none⟩ = some (.slice A ram.length cap)) (hlen : ram.length ≠ 512) :
    Calls Try.prog 71 #[.pointer (some ⟨x, 0, none⟩), .pointer (some ⟨c, 0, none⟩), .int .i64 v] w fun e w' => e = .returned (.tuple #[]) ∧ w' = w := by
  have hu37 := Try.underlying37
  have hl : (((ram.length : Nat) : Int) != 512) = true := by simp; omega
  clear hlen
  go_enter Try.func71, Try.ntmps71
  go_wp2
  refine bodyPost_ret (results_none rfl _ _ _) rfl ?_
  exact ⟨rfl, rfl⟩
theorem push_calls {w0 w : World} {x c : Nat} {rv : Value} {b : Int} {k : Cp} {ram : List Int} (h : MC w0 w x c rv b k ram) (v : Int) :
    Calls Try.prog 71 #[.pointer (some ⟨x, 0, none⟩), .pointer (some ⟨c, 0, none⟩), .int .i64 v] w fun e w' => e = .returned (.tuple #[]) ∧
      MC w0 w' x c rv b (pushF ram k v).2 (pushF ram k v).1 ∧ Kept w w' (fun j => j = c ∨ some j = rv.ownBlock) := by
  unfold pushF
  by_cases hl : ram.length = 512
  · rw [if_pos hl]
    obtain ⟨g, cap, rfl, hg, _, _⟩ := Kd.R_form h.row (by omega)
    obtain ⟨hcg, hfg⟩ := Kd.R_celln 0 h.row (256 + k.S % 256) (by omega) (by omega)
    refine (push_yes x c g cap ram k.S v _ w ((blk_cell h.mem 0).trans rfl) ((blk_cell h.cpu 2).trans rfl) hl hcg hfg (blk_frozen h.cpu 2) (fun e => h.far.2 (by rw [e]; rfl)) (fun e => h.far.1 (by rw [e]; rfl)) (Ne.symm h.ne)).mono ?_
    rintro e w' ⟨rfl, rfl⟩
    refine ⟨rfl, (((h.setR hg (256 + k.S % 256) (v % 256)).setC (k' := { k with S := wrap64 (k.S - 1) % 256 }) 2 _ rfl).drew), ?_⟩
    exact ((kept_set (kept_set (Kept.refl w _) (.inr rfl) _) (.inl rfl) _).drew)
  · rw [if_neg hl]
    obtain ⟨A, cap, rfl⟩ := Kd.R_slice h.row
    refine (push_no x c A cap ram v w ((blk_cell h.mem 0).trans rfl) hl).mono ?_
    rintro e w' ⟨rfl, rfl⟩
    exact ⟨rfl, h, Kept.refl _ _⟩

/-! ### mine_rows (mine) -/
section
variable {w : World} {r : Nat} {t : TypeId}
theorem heap2 (w : World) (r k : Nat) (u0 u1 : Value) (h : k ≠ r) : ((w.setCell ⟨r, 0, none⟩ u0).setCell ⟨r, 1, none⟩ u1).heap[k]? = w.heap[k]? := by
  refine (Below.heap_setCell _ _ _ k h).trans ?_
  exact Below.heap_setCell _ _ _ k h
theorem put2 {o0 o1 : Value} (h : w.heap[r]? = some (.cells #[o0, o1] t (0, 0))) (u0 u1 : Value) : ((w.setCell ⟨r, 0, none⟩ u0).setCell ⟨r, 1, none⟩ u1).heap[r]? = some (.cells #[u0, u1] t (0, 0)) := by
  refine blk_put (cs := #[u0, o1]) ?_ 1 _ rfl
  exact blk_put h 0 _ rfl
theorem heap8 (w : World) (r k : Nat) (u0 u1 u2 u3 u4 u5 u6 u7 : Value) (h : k ≠ r) : ((((((((w.setCell ⟨r, 0, none⟩ u0).setCell ⟨r, 1, none⟩ u1).setCell ⟨r, 2, none⟩ u2).setCell ⟨r, 3, none⟩ u3).setCell ⟨r, 4, none⟩ u4).setCell ⟨r, 5, none⟩ u5).setCell ⟨r, 6, none⟩ u6).setCell ⟨r, 7, none⟩ u7).heap[k]? = w.heap[k]? := by
  refine (Below.heap_setCell _ _ _ k h).trans ?_
  refine (Below.heap_setCell _ _ _ k h).trans ?_
  refine (Below.heap_setCell _ _ _ k h).trans ?_
  refine (Below.heap_setCell _ _ _ k h).trans ?_
  refine (Below.heap_setCell _ _ _ k h).trans ?_
  refine (Below.heap_setCell _ _ _ k h).trans ?_
  refine (Below.heap_setCell _ _ _ k h).trans ?_
  exact Below.heap_setCell _ _ _ k h
theorem put8 {o0 o1 o2 o3 o4 o5 o6 o7 : Value} (h : w.heap[r]? = some (.cells #[o0, o1, o2, o3, o4, o5, o6, o7] t (0, 0))) (u0 u1 u2 u3 u4 u5 u6 u7 : Value) :
    ((((((((w.setCell ⟨r, 0, none⟩ u0).setCell ⟨r, 1, none⟩ u1).setCell ⟨r, 2, none⟩ u2).setCell ⟨r, 3, none⟩ u3).setCell ⟨r, 4, none⟩ u4).setCell ⟨r, 5, none⟩ u5).setCell ⟨r, 6, none⟩ u6).setCell ⟨r, 7, none⟩ u7).heap[r]? = some (.cells #[u0, u1, u2, u3, u4, u5, u6, u7] t (0, 0)) := by
  refine blk_put (cs := #[u0, u1, u2, u3, u4, u5, u6, o7]) ?_ 7 _ rfl
  refine blk_put (cs := #[u0, u1, u2, u3, u4, u5, o6, o7]) ?_ 6 _ rfl
  refine blk_put (cs := #[u0, u1, u2, u3, u4, o5, o6, o7]) ?_ 5 _ rfl
  refine blk_put (cs := #[u0, u1, u2, u3, o4, o5, o6, o7]) ?_ 4 _ rfl
  refine blk_put (cs := #[u0, u1, u2, o3, o4, o5, o6, o7]) ?_ 3 _ rfl
  refine blk_put (cs := #[u0, u1, o2, o3, o4, o5, o6, o7]) ?_ 2 _ rfl
  refine blk_put (cs := #[u0, o1, o2, o3, o4, o5, o6, o7]) ?_ 1 _ rfl
  exact blk_put h 0 _ rfl
end
theorem heap_drew (w : World) (k : Nat) : w.drew.heap[k]? = w.heap[k]? := rfl
theorem alloc_size (w : World) (o : Obj) : (w.alloc o).heap.size = w.heap.size + 1 := by
  show (w.heap.push o).size = _
  simp
theorem alloc_at (w : World) (o : Obj) (g : Nat) (h : g = w.heap.size) : (w.alloc o).heap[g]? = some o := by
  subst h
  exact blk_new w o
theorem row8 {w : World} {r m : Nat} {rv : Value} {ram : List Int} {o0 o1 o2 o3 o4 o5 o6 o7 : Value} (h : Kd.R (Kd.int .i64) 3 w m (fun _ => True) rv ram) (hb : w.heap[r]? = some (.cells #[o0, o1, o2, o3, o4, o5, o6, o7] 38 (0, 0))) (u0 u1 u2 u3 u4 u5 u6 u7 : Value) :
    Kd.R (Kd.int .i64) 3 ((((((((w.setCell ⟨r, 0, none⟩ u0).setCell ⟨r, 1, none⟩ u1).setCell ⟨r, 2, none⟩ u2).setCell ⟨r, 3, none⟩ u3).setCell ⟨r, 4, none⟩ u4).setCell ⟨r, 5, none⟩ u5).setCell ⟨r, 6, none⟩ u6).setCell ⟨r, 7, none⟩ u7) m (fun _ => True) rv ram :=
  Kd.R_mono (Kd.R_far (p := ⟨r, 7, none⟩) (Kd.R_far (p := ⟨r, 6, none⟩) (Kd.R_far (p := ⟨r, 5, none⟩) (Kd.R_far (p := ⟨r, 4, none⟩) (Kd.R_far (p := ⟨r, 3, none⟩) (Kd.R_far (p := ⟨r, 2, none⟩) (Kd.R_far (p := ⟨r, 1, none⟩) (Kd.R_far (p := ⟨r, 0, none⟩) (Kd.R_types h hb (by decide)) (fun _ hk => hk.2) u0) (fun _ hk => hk.2) u1) (fun _ hk => hk.2) u2) (fun _ hk => hk.2) u3) (fun _ hk => hk.2) u4) (fun _ hk => hk.2) u5) (fun _ hk => hk.2) u6) (fun _ hk => hk.2) u7) (fun _ _ => trivial)
theorem below8 {w W : World} {r : Nat} (h : Below w.heap.size w W) (hr : w.heap.size ≤ r) (u0 u1 u2 u3 u4 u5 u6 u7 : Value) : Below w.heap.size w ((((((((W.setCell ⟨r, 0, none⟩ u0).setCell ⟨r, 1, none⟩ u1).setCell ⟨r, 2, none⟩ u2).setCell ⟨r, 3, none⟩ u3).setCell ⟨r, 4, none⟩ u4).setCell ⟨r, 5, none⟩ u5).setCell ⟨r, 6, none⟩ u6).setCell ⟨r, 7, none⟩ u7) :=
  (below_set (below_set (below_set (below_set (below_set (below_set (below_set (below_set h hr) hr) hr) hr) hr) hr) hr) hr)

/-! ### mine_implPush (mine) -/
set_option maxRecDepth 100000 in
set_option maxHeartbeats 2000000 in
theorem implPush_calls (A0 : Option Addr) (c0 : Nat) (l0 : List Int) (b : Int) (k : Cp) (v : Int) (w : World) (hr : Kd.C (Kd.int .i64) w A0 l0.length l0) (hc : l0.length ≤ c0) (h : impl_copyMem.f l0 b = some (l0, b)) :
    Calls Try.prog 24 #[.agg #[.slice A0 l0.length c0, .int .i64 b], .agg k.cells, .int .i64 v] w fun e w' => ∃ v0_ : Value, e = .returned (.tuple #[.agg #[v0_, .int .i64 b], .agg (pushF l0 k v).2.cells]) ∧ Kd.R (Kd.int .i64) 3 w' w.heap.size (fun _ => True) v0_ (pushF l0 k v).1 ∧ Below w.heap.size w w' := by
  have hu37 := Try.underlying37
  have hu38 := Try.underlying38
  have HR := Aside0.mk hr
  have HC := Aside0.mk hc
  have H := Aside0.mk h
  clear hr hc h
  go_enter Try.func24, Try.ntmps24
  unfold Cp.cells
  go_wp2_with fail
  refine (impl_copyMem.calls A0 c0 l0 b l0 b _ ?hr HC.out H.out).mono ?_
  case hr => repeat (first | exact HR.out | (with_reducible refine Kd.C_alloc ?_ _))
  rintro e W2 ⟨v0, rfl, hR, hB⟩
  obtain ⟨A1, c1, rfl⟩ := Kd.R_slice hR
  have RR := Aside0.mk hR
  have BB := Aside0.mk hB
  clear hR hB
  go_wp2_with fail
  have hbc : W2.heap[w.heap.size + 1]? = some (.cells k.cells 38 (0, 0)) := blk_below (blk_alloc (blk_alloc (alloc_at _ _ _ (by simp only [alloc_size])) _) _) BB.out
  have hr1 : W2.heap[w.heap.size + 2]? = some (.cells #[.slice none 0 0, .int .i64 0] 37 (0, 0)) := blk_below (blk_alloc (alloc_at _ _ _ (by simp only [alloc_size])) _) BB.out
  have hr2 : W2.heap[w.heap.size + 3]? = some (.cells #[.int .i64 0, .int .i64 0, .int .i64 0, .int .i64 0, .bool false, .bool false, .bool false, .bool false] 38 (0, 0)) := blk_below (alloc_at _ _ _ (by simp only [alloc_size])) BB.out
  have hsz : w.heap.size + 4 ≤ W2.heap.size := by have := BB.out.size; simp only [alloc_size] at this; omega
  have hbel : Below w.heap.size w W2 := below_step (by repeat (first | exact Below.refl _ _ | apply below_alloc)) BB.out
  have hM : MC w (W2.alloc (.cells #[.slice A1 l0.length c1, .int .i64 b] 37)) W2.heap.size (w.heap.size + 1) (.slice A1 l0.length c1) b k l0 :=
    ⟨blk_new W2 _, blk_alloc hbc _, Kd.R_alloc (Kd.R_lower RR.out (by simp only [alloc_size]; omega)) _, by omega, by omega, below_alloc hbel _⟩
  refine (push_calls hM v).mono ?_
  rintro e W4 ⟨rfl, h4, k4⟩
  have hne1 : some (w.heap.size + 2) ≠ (Value.slice A1 l0.length c1).ownBlock := Kd.R_ne RR.out hr1 (by decide)
  have hne2 : some (w.heap.size + 3) ≠ (Value.slice A1 l0.length c1).ownBlock := Kd.R_ne RR.out hr2 (by decide)
  have hr1' : W4.heap[w.heap.size + 2]? = some (.cells #[.slice none 0 0, .int .i64 0] 37 (0, 0)) :=
    (k4.2 _ (by simp only [alloc_size]; omega) (fun h => h.elim (fun h => by omega) (fun h => hne1 h))).trans (blk_alloc hr1 _)
  have hr2' : W4.heap[w.heap.size + 3]? = some (.cells #[.int .i64 0, .int .i64 0, .int .i64 0, .int .i64 0, .bool false, .bool false, .bool false, .bool false] 38 (0, 0)) :=
    (k4.2 _ (by simp only [alloc_size]; omega) (fun h => h.elim (fun h => by omega) (fun h => hne2 h))).trans (blk_alloc hr2 _)
  clear hr1 hr2 hbc hM k4 hne1 hne2 RR BB HR HC H hbel
  generalize hq : pushF l0 k v = q at *
  obtain ⟨ram2, ⟨qa, qx, qs, qp, qz, qn, qc, qi⟩⟩ := q
  have HQ := Aside0.mk hq
  clear hq
  simp only [Cp.cells] at *
  have hne12 : w.heap.size + 2 ≠ w.heap.size + 3 := by omega
  have hne21 : w.heap.size + 3 ≠ w.heap.size + 2 := by omega
  have o1 : W2.heap.size ≠ w.heap.size + 2 := by omega
  have o2 : W2.heap.size ≠ w.heap.size + 3 := by omega
  have o3 : w.heap.size + 1 ≠ w.heap.size + 2 := by omega
  have o4 : w.heap.size + 1 ≠ w.heap.size + 3 := by omega
  have hm4 := h4.mem
  have hc4 : W4.heap[w.heap.size + 1]? = some (.cells #[.int .i64 qa, .int .i64 qx, .int .i64 qs, .int .i64 qp, .bool qz, .bool qn, .bool qc, .bool qi] 38 (0, 0)) := h4.cpu
  have HB1 := Aside0.mk hr1'
  have HB2 := Aside0.mk hr2'
  have HM4 := Aside0.mk hm4
  have HC4 := Aside0.mk hc4
  clear hr1' hr2' hm4 hc4
  go_wp2
  refine start_ (n := 4) (S := fun w' => w'.heap[W2.heap.size]? = some (.cells #[.slice A1 l0.length c1, .int .i64 b] 37 (0, 0)) ∧ w'.heap[w.heap.size + 1]? = some (.cells #[.int .i64 qa, .int .i64 qx, .int .i64 qs, .int .i64 qp, .bool qz, .bool qn, .bool qc, .bool qi] 38 (0, 0))) (ds := []) #[false, false, false, false] (by kernel_rfl) rfl rfl ⟨HM4.out, HC4.out⟩ (fun hHeld => ?_)
  refine take_ (i := 0) (N := some 13) (v := ?_) (a' := ?_) #[true, false, false, false] rfl rfl (by kernel_rfl) (fun _ _ _ h => h) (Or.inl ⟨by rfl, ?_⟩) hHeld ?_ ?_
  rotate_left
  · rintro w' ⟨s0, s1⟩
    have a0 : w'.cell? ⟨W2.heap.size, 0, none⟩ = some (.slice A1 l0.length c1) := (blk_cell s0 0).trans rfl
    have a1 : w'.cell? ⟨W2.heap.size, 1, none⟩ = some (.int .i64 b) := (blk_cell s0 1).trans rfl
    clear s0 s1
    go_simp
    with_reducible rfl
  rotate_left
  · simp only [Act.put, List.setIfInBounds_toArray, List.set_cons_zero, List.set_cons_succ, i64_w, i32_w]
    rfl
  refine take_ (i := 1) (N := some 14) (v := ?_) (a' := ?_) #[true, true, false, false] rfl rfl (by kernel_rfl) (fun _ _ _ h => h) (Or.inl ⟨by rfl, ?_⟩) hHeld ?_ ?_
  rotate_left
  · rintro w' ⟨s0, s1⟩
    have b0 : w'.cell? ⟨w.heap.size + 1, 0, none⟩ = some (.int .i64 qa) := (blk_cell s1 0).trans rfl
    have b1 : w'.cell? ⟨w.heap.size + 1, 1, none⟩ = some (.int .i64 qx) := (blk_cell s1 1).trans rfl
    have b2 : w'.cell? ⟨w.heap.size + 1, 2, none⟩ = some (.int .i64 qs) := (blk_cell s1 2).trans rfl
    have b3 : w'.cell? ⟨w.heap.size + 1, 3, none⟩ = some (.int .i64 qp) := (blk_cell s1 3).trans rfl
    have b4 : w'.cell? ⟨w.heap.size + 1, 4, none⟩ = some (.bool qz) := (blk_cell s1 4).trans rfl
    have b5 : w'.cell? ⟨w.heap.size + 1, 5, none⟩ = some (.bool qn) := (blk_cell s1 5).trans rfl
    have b6 : w'.cell? ⟨w.heap.size + 1, 6, none⟩ = some (.bool qc) := (blk_cell s1 6).trans rfl
    have b7 : w'.cell? ⟨w.heap.size + 1, 7, none⟩ = some (.bool qi) := (blk_cell s1 7).trans rfl
    clear s0 s1
    go_simp
    with_reducible rfl
  rotate_left
  · simp only [Act.put, List.setIfInBounds_toArray, List.set_cons_zero, List.set_cons_succ, i64_w, i32_w]
    rfl
  refine one_ (i := 2) (N := none) #[true, true, true, false] rfl rfl (by kernel_rfl) (by decide) (fun K hK => ?_)
  refine skip_ (w1 := ?_) (by rfl) rfl ?_ ?_
  rotate_left
  · have r0 : W4.cell? ⟨w.heap.size + 2, 0, none⟩ = some (.slice none 0 0) := (blk_cell HB1.out 0).trans rfl
    have r1 : W4.cell? ⟨w.heap.size + 2, 1, none⟩ = some (.int .i64 0) := (blk_cell HB1.out 1).trans rfl
    have f0 := blk_frozen HB1.out 0
    have f1 := blk_frozen HB1.out 1
    go_simp
    rfl
  refine hK.out _ _ ⟨(heap2 _ _ _ _ _ o1).trans hHeld.1, (heap2 _ _ _ _ _ o3).trans hHeld.2⟩ (fun hHeld => ?_)
  clear hK K
  have g0 := (heap_drew _ _).symm.trans hHeld.1
  have g1 := (heap_drew _ _).symm.trans hHeld.2
  have g2 : ((W4.setCell ⟨w.heap.size + 1 + 1, 0, none⟩ (.slice A1 l0.length c1)).setCell ⟨w.heap.size + 1 + 1, 1, none⟩ (.int .i64 b)).heap[w.heap.size + 3]? = _ := (heap2 W4 (w.heap.size + 2) (w.heap.size + 3) (.slice A1 l0.length c1) (.int .i64 b) hne21).trans HB2.out
  have g3 : ((W4.setCell ⟨w.heap.size + 1 + 1, 0, none⟩ (.slice A1 l0.length c1)).setCell ⟨w.heap.size + 1 + 1, 1, none⟩ (.int .i64 b)).heap[w.heap.size + 2]? = _ := put2 HB1.out (.slice A1 l0.length c1) (.int .i64 b)
  have g4 : Kd.R (Kd.int .i64) 3 ((W4.setCell ⟨w.heap.size + 1 + 1, 0, none⟩ (.slice A1 l0.length c1)).setCell ⟨w.heap.size + 1 + 1, 1, none⟩ (.int .i64 b)) w.heap.size (fun _ => True) (.slice A1 l0.length c1) ram2 :=
    Kd.R_mono (Kd.R_far (p := ⟨w.heap.size + 2, 1, none⟩) (Kd.R_far (p := ⟨w.heap.size + 2, 0, none⟩) (Kd.R_types h4.row HB1.out (by decide)) (fun _ hk => hk.2) (.slice A1 l0.length c1)) (fun _ hk => hk.2) (.int .i64 b)) (fun _ hk => trivial)
  have g5 : Below w.heap.size w ((W4.setCell ⟨w.heap.size + 1 + 1, 0, none⟩ (.slice A1 l0.length c1)).setCell ⟨w.heap.size + 1 + 1, 1, none⟩ (.int .i64 b)) := below_set (below_set h4.below (by omega)) (by omega)
  clear HB1 HB2 HM4 HC4 h4
  generalize ((W4.setCell ⟨w.heap.size + 1 + 1, 0, none⟩ (.slice A1 l0.length c1)).setCell ⟨w.heap.size + 1 + 1, 1, none⟩ (.int .i64 b)) = W5 at *
  have G2 := Aside0.mk g2
  have G3 := Aside0.mk g3
  have G4 := Aside0.mk g4
  have G5 := Aside0.mk g5
  have G0 := Aside0.mk g0
  have G1 := Aside0.mk g1
  clear g0 g1 g2 g3 g4 g5
  refine one_ (i := 3) (N := none) #[true, true, true, true] rfl rfl (by kernel_rfl) (by decide) (fun K hK => ?_)
  refine skip_ (w1 := ?_) (by rfl) rfl ?_ ?_
  rotate_left
  · skip
    have r0 : W5.cell? ⟨w.heap.size + 3, 0, none⟩ = some (.int .i64 0) := (blk_cell G2.out 0).trans rfl
    have f0 := blk_frozen G2.out 0
    have r1 : W5.cell? ⟨w.heap.size + 3, 1, none⟩ = some (.int .i64 0) := (blk_cell G2.out 1).trans rfl
    have f1 := blk_frozen G2.out 1
    have r2 : W5.cell? ⟨w.heap.size + 3, 2, none⟩ = some (.int .i64 0) := (blk_cell G2.out 2).trans rfl
    have f2 := blk_frozen G2.out 2
    have r3 : W5.cell? ⟨w.heap.size + 3, 3, none⟩ = some (.int .i64 0) := (blk_cell G2.out 3).trans rfl
    have f3 := blk_frozen G2.out 3
    have r4 : W5.cell? ⟨w.heap.size + 3, 4, none⟩ = some (.bool false) := (blk_cell G2.out 4).trans rfl
    have f4 := blk_frozen G2.out 4
    have r5 : W5.cell? ⟨w.heap.size + 3, 5, none⟩ = some (.bool false) := (blk_cell G2.out 5).trans rfl
    have f5 := blk_frozen G2.out 5
    have r6 : W5.cell? ⟨w.heap.size + 3, 6, none⟩ = some (.bool false) := (blk_cell G2.out 6).trans rfl
    have f6 := blk_frozen G2.out 6
    have r7 : W5.cell? ⟨w.heap.size + 3, 7, none⟩ = some (.bool false) := (blk_cell G2.out 7).trans rfl
    have f7 := blk_frozen G2.out 7
    go_simp
    rfl
  refine hK.out _ _ ⟨(heap_drew _ _).trans ((heap8 W5 (w.heap.size + 3) _ _ _ _ _ _ _ _ _ o2).trans G0.out), (heap_drew _ _).trans ((heap8 W5 (w.heap.size + 3) _ _ _ _ _ _ _ _ _ o4).trans G1.out)⟩ (fun hHeld => ?_)
  clear hK K
  refine done_ (by kernel_rfl) ?_
  try go_wp2
  refine bodyPost_ret (results_cc rfl _ _ (w.heap.size + 2) (w.heap.size + 3) 37 38 #[.slice A1 l0.length c1, .int .i64 b] #[.int .i64 qa, .int .i64 qx, .int .i64 qs, .int .i64 qp, .bool qz, .bool qn, .bool qc, .bool qi] (0, 0) (0, 0) _ _ rfl ((heap_drew _ _).trans ((heap8 W5 (w.heap.size + 3) _ _ _ _ _ _ _ _ _ hne12).trans G3.out)) hu37 rfl (by kernel_rfl) rfl ((heap_drew _ _).trans (put8 G2.out _ _ _ _ _ _ _ _)) hu38 rfl (by kernel_rfl)) rfl ?_
  rw [HQ.out]
  exact ⟨_, rfl, Kd.R_drew (row8 G4.out G2.out _ _ _ _ _ _ _ _), below_drew1 (below8 G5.out (by omega) _ _ _ _ _ _ _ _)⟩

/-! ### impl_Push (mine) -/
theorem copyMem_just {l0 r1 : List Int} {b r2 : Int} (h : impl_copyMem.f l0 b = some (r1, r2)) : r1 = l0 ∧ r2 = b := by
  unfold impl_copyMem.f impl_copyInts.f at h
  simp only [Option.bind_some] at h
  split at h
  · simp only [Option.bind_some, Option.some.injEq, Prod.mk.injEq, List.nil_append] at h
    exact ⟨h.1.symm, h.2.symm⟩
  · simp at h
def impl_Push.f (l0_0 : List Int) (a0_1 : Int) (a1_0 : Int) (a1_1 : Int) (a1_2 : Int) (a1_3 : Int) (a1_4 : Bool) (a1_5 : Bool) (a1_6 : Bool) (a1_7 : Bool) (a2 : Int) : Option (List Int × Int × Int × Int × Int × Int × Bool × Bool × Bool × Bool) :=
  (impl_copyMem.f l0_0 a0_1).bind fun q => some ((pushF q.1 ⟨a1_0, a1_1, a1_2, a1_3, a1_4, a1_5, a1_6, a1_7⟩ a2).1, q.2, (pushF q.1 ⟨a1_0, a1_1, a1_2, a1_3, a1_4, a1_5, a1_6, a1_7⟩ a2).2.A, (pushF q.1 ⟨a1_0, a1_1, a1_2, a1_3, a1_4, a1_5, a1_6, a1_7⟩ a2).2.X, (pushF q.1 ⟨a1_0, a1_1, a1_2, a1_3, a1_4, a1_5, a1_6, a1_7⟩ a2).2.S, (pushF q.1 ⟨a1_0, a1_1, a1_2, a1_3, a1_4, a1_5, a1_6, a1_7⟩ a2).2.P, (pushF q.1 ⟨a1_0, a1_1, a1_2, a1_3, a1_4, a1_5, a1_6, a1_7⟩ a2).2.Z, (pushF q.1 ⟨a1_0, a1_1, a1_2, a1_3, a1_4, a1_5, a1_6, a1_7⟩ a2).2.N, (pushF q.1 ⟨a1_0, a1_1, a1_2, a1_3, a1_4, a1_5, a1_6, a1_7⟩ a2).2.C, (pushF q.1 ⟨a1_0, a1_1, a1_2, a1_3, a1_4, a1_5, a1_6, a1_7⟩ a2).2.I)
theorem impl_Push.calls (A0_0 : Option Addr) (c0_0 : Nat) (l0_0 : List Int) (a0_1 : Int) (a1_0 : Int) (a1_1 : Int) (a1_2 : Int) (a1_3 : Int) (a1_4 : Bool) (a1_5 : Bool) (a1_6 : Bool) (a1_7 : Bool) (a2 : Int) (r1 : List Int) (r2 : Int) (r3 : Int) (r4 : Int) (r5 : Int) (r6 : Int) (r7 : Bool) (r8 : Bool) (r9 : Bool) (r10 : Bool) (w : World) (hr0_0 : Kd.C (Kd.int .i64) w A0_0 l0_0.length l0_0) (hc0_0 : l0_0.length ≤ c0_0) (h : impl_Push.f l0_0 a0_1 a1_0 a1_1 a1_2 a1_3 a1_4 a1_5 a1_6 a1_7 a2 = some (r1, r2, r3, r4, r5, r6, r7, r8, r9, r10)) :
    Calls Try.prog 24 #[.agg #[.slice A0_0 l0_0.length c0_0, .int .i64 a0_1], .agg #[.int .i64 a1_0, .int .i64 a1_1, .int .i64 a1_2, .int .i64 a1_3, .bool a1_4, .bool a1_5, .bool a1_6, .bool a1_7], .int .i64 a2] w fun e w' => ∃ v0_ : Value, e = .returned (.tuple #[.agg #[v0_, .int .i64 r2], .agg #[.int .i64 r3, .int .i64 r4, .int .i64 r5, .int .i64 r6, .bool r7, .bool r8, .bool r9, .bool r10]]) ∧ Kd.R (Kd.int .i64) 3 w' w.heap.size (fun _ => True) v0_ r1 ∧ Below w.heap.size w w' := by
  unfold impl_Push.f at h
  obtain ⟨⟨q1, q2⟩, hq, h2⟩ := Option.bind_eq_some_iff.mp h
  clear h
  obtain ⟨rfl, rfl⟩ := copyMem_just hq
  cases h2
  exact implPush_calls A0_0 c0_0 _ _ ⟨a1_0, a1_1, a1_2, a1_3, a1_4, a1_5, a1_6, a1_7⟩ a2 w hr0_0 hc0_0 hq

/-! ### free_region (mine) -/
/-! A region whose operations may come in any order, where each of the first e puts a value into a temporary and changes nothing that stood before: told once for each operation, not for each order. -/
/-- What is asked of the region's table: what waits stands later; what comes behind the first e waits for all of them but g; g clashes with nothing that it does not wait for. -/
def freeChk (T : List (List Nat × List Nat)) (n e g : Nat) (le lg : Array Bool) (N : List Nat) (sz : Nat) : Bool :=
  (le.size == n) && (lg.size == n) && ((List.range n).all fun j => le.getD j true == decide (j < e)) && ((List.range n).all fun j => lg.getD j true == (decide (j < e) && !(j == g))) &&
  (le.toList.count false == n - e) && decide (e < n) && decide (g < e) &&
  ((List.range n).all fun i => (T.getD i ([], [])).1.all fun j => decide (j < i)) &&
  ((List.range n).all fun i => decide (i < e) || (List.range e).all fun j => j == g || (T.getD i ([], [])).1.contains j) &&
  ((List.range e).all fun i => decide (N.getD i 0 < sz)) && ((List.range e).all fun i => (List.range e).all fun j => i == j || !(N.getD i 0 == N.getD j 0))
theorem all_range {n : Nat} {p : Nat → Bool} (h : (List.range n).all p = true) (i : Nat) (hi : i < n) : p i = true := List.all_eq_true.1 h i (List.mem_range.2 hi)
theorem eval_put {a : Act} {N t : Nat} {v : Value} (h : N ≠ t) : (a.put (some N) v).eval (.tmp t) = a.eval (.tmp t) := by
  show (a.tmps.setIfInBounds N v).getD t undef = a.tmps.getD t undef
  simp only [Array.getD_eq_getD_getElem?, Array.getElem?_setIfInBounds]
  rw [if_neg h]
theorem eval_put_same {a : Act} {N : Nat} {v : Value} (h : N < a.tmps.size) : (a.put (some N) v).eval (.tmp N) = v := by
  show (a.tmps.setIfInBounds N v).getD N undef = v
  simp [Array.getD_eq_getD_getElem?, Array.getElem?_setIfInBounds, h]
theorem putAll_eval (L : List (Tmp × Value)) : ∀ (a0 a : Act), a.defers = a0.defers → a.tmps.size = a0.tmps.size → (∀ p ∈ L, p.1 < a0.tmps.size ∧ a.eval (.tmp p.1) = p.2) → (∀ t, (∀ p ∈ L, p.1 ≠ t) → a.eval (.tmp t) = a0.eval (.tmp t)) → a = putAll a0 L := by
  induction L with
  | nil =>
    intro a0 a hd hs _ h
    obtain ⟨t0, d0⟩ := a0
    obtain ⟨t, d⟩ := a
    simp only at hd hs
    subst hd
    show (⟨t, d⟩ : Act) = ⟨t0, d⟩
    congr 1
    refine Array.ext hs (fun i h1 h2 => ?_)
    have := h i (by simp)
    simpa [Act.eval, Array.getD_eq_getD_getElem?, h1, h2] using this
  | cons p L ih =>
    obtain ⟨N, v⟩ := p
    intro a0 a hd hs hp h
    show a = putAll (a0.put (some N) v) L
    have hz : (a0.put (some N) v).tmps.size = a0.tmps.size := Array.size_setIfInBounds
    refine ih _ _ hd (hs.trans hz.symm) (fun p hpL => by rw [hz]; exact hp p (List.mem_cons_of_mem _ hpL)) (fun t ht => ?_)
    by_cases hN : N = t
    · subst hN
      have := hp (N, v) List.mem_cons_self
      rw [eval_put_same this.1]
      exact this.2
    · rw [eval_put hN]
      exact h t (fun p hp' => by
        rcases List.mem_cons.1 hp' with rfl | hp'
        · exact hN
        · exact ht p hp')
section
variable {P : Program} {ops : Array Oper} {Q : Exit → Act → World → Prop}
theorem listed_set {l : Array Bool} {i j : Nat} (hi : i < l.size) : (l.setIfInBounds i true).getD j true = if i = j then true else l.getD j true := by
  simp only [Array.getD_eq_getD_getElem?, Array.getElem?_setIfInBounds]
  by_cases h : i = j
  · subst h; simp [hi]
  · simp [h]
theorem same_listed {l le : Array Bool} {n : Nat} (h1 : l.size = n) (h2 : le.size = n) (h : ∀ j, j < n → l.getD j true = le.getD j true) : l = le := by
  refine Array.ext (h1.trans h2.symm) (fun i hi hj => ?_)
  have := h i (h1 ▸ hi)
  simpa [Array.getD_eq_getD_getElem?, hi, hj] using this
theorem count_set {l : Array Bool} {i : Nat} (hi : i < l.size) (h : l.getD i true = false) : (l.setIfInBounds i true).toList.count false + 1 = l.toList.count false := by
  have h' : l[i] = false := by simpa [Array.getD_eq_getD_getElem?, hi] using h
  rw [Array.toList_setIfInBounds, List.count_set (by simpa using hi)]
  have hm : false ∈ l.toList := by rw [← h']; simp
  have := List.count_pos_iff.2 hm
  have hb : (l.toList[i]'(by simpa using hi) == false) = true := by simp [h']
  rw [if_pos hb, if_neg (by decide)]
  omega
theorem getD_any {l : Array Bool} {j : Nat} (hj : j < l.size) (b : Bool) : l.getD j b = l.getD j true := by
  simp [Array.getD_eq_getD_getElem?, hj]
theorem free_ {id n e g : Nat} {a0 : Act} {w0 : World} {T : Bool × List (List Nat × List Nat)} (le lg : Array Bool) (N : List Nat) (E : Nat → Value → World → Prop)
    (hm : P.follows .mixedOrders = true) (hn : ops.size = n) (hT : rtab .any ops = T) (hc : freeChk T.2 n e g le lg N a0.tmps.size = true)
    (hd : ((List.range e).all fun i => ((ops[i]?).bind (·.dst)) == some (N.getD i 0)) = true) (hg : anyB .any ops lg le g = true)
    (hQ : ∀ c (a : Act) w v, Q (.panic c) (a.put (some (N.getD g 0)) v) w → Q (.panic c) a w)
    (hE : ∀ j v w w', E j v w → Below w.heap.size w w' → E j v w')
    (step : ∀ i, i < e → ∀ o, ops[i]? = some o → ∀ (a : Act) (w : World), Below w0.heap.size w0.drew w → (∀ t, (∀ i, i < e → N.getD i 0 ≠ t) → a.eval (.tmp t) = a0.eval (.tmp t)) →
      (∀ j ∈ (T.2.getD i ([], [])).1, E j (a.eval (.tmp (N.getD j 0))) w) → ∀ K, Shut (∀ v w', Below w.heap.size w w' → E i v w' → K (a.put (some (N.getD i 0)) v) w') →
      if Region.wanted o (yielded ops a.tmps) = true then Oper.wp P o a w K Q else K (a.put o.dst undef) w)
    (lag : ∀ o, ops[g]? = some o → ∀ (a : Act) (w : World), (∀ j ∈ (T.2.getD g ([], [])).1, E j (a.eval (.tmp (N.getD j 0))) w) → ∃ v, E g v w ∧ Yields P ops o v a)
    (last : ∀ (f : Nat) (vs : Nat → Value) (w : World), Below w0.heap.size w0.drew w → (∀ j, j < e → E j (vs j) w) → wpAnyLast P .any ops Q (fun _ => True) [] (f + (n - e)) le (putAll a0 ((List.range e).map fun j => (N.getD j 0, vs j))) w) :
    (Code.region id ops true).wp P Q a0 w0 := by
  unfold freeChk at hc
  simp only [Bool.and_eq_true] at hc
  obtain ⟨⟨⟨⟨⟨⟨⟨⟨⟨⟨h1, h2⟩, h3⟩, h4⟩, h5⟩, h6⟩, h7⟩, h8⟩, h9⟩, h10⟩, h11⟩ := hc
  have z1 := beq_iff_eq.1 h1
  have z2 := beq_iff_eq.1 h2
  have z5 := beq_iff_eq.1 h5
  have z6 := of_decide_eq_true h6
  have z7 := of_decide_eq_true h7
  have z3 := fun j hj => beq_iff_eq.1 (all_range h3 j hj)
  have z4 := fun j hj => beq_iff_eq.1 (all_range h4 j hj)
  have z8 := fun i hi j hj => of_decide_eq_true (List.all_eq_true.1 (all_range h8 i hi) j hj)
  have z10 := fun i hi => of_decide_eq_true (all_range h10 i hi)
  have zd : ∀ i o, i < e → ops[i]? = some o → o.dst = some (N.getD i 0) := fun i o hi ho => by
    have := all_range hd i hi
    rw [ho] at this
    simpa using this
  have z11 : ∀ i j, i < e → j < e → i ≠ j → N.getD i 0 ≠ N.getD j 0 := fun i j hi hj hne => by
    have := all_range (all_range h11 i hi) j hj
    intro hh
    rw [hh] at this
    simp [hne] at this
  have hneed : ∀ i o, ops[i]? = some o → (T.2.getD i ([], [])).1 = needsOf .any o := fun i o ho => by
    subst hT
    rw [List.getD_eq_getElem?_getD, rtab_some ho]
    rfl
  have hlt : ∀ i o, ops[i]? = some o → i < n := fun i o ho => hn ▸ (Array.getElem?_eq_some_iff.1 ho).1
  have claim : ∀ (fuel : Nat) (l : Array Bool) (a : Act) (w : World), l.size = n → Below w0.heap.size w0.drew w → a.defers = a0.defers → a.tmps.size = a0.tmps.size →
      (∀ t, (∀ i, i < e → N.getD i 0 ≠ t) → a.eval (.tmp t) = a0.eval (.tmp t)) → (∀ i, e ≤ i → i < n → l.getD i true = false) → (∀ j, j < e → l.getD j true = true → E j (a.eval (.tmp (N.getD j 0))) w) →
      l.toList.count false ≤ fuel → wpAnyLast P .any ops Q (fun _ => True) [] fuel l a w := by
    intro fuel
    induction fuel with
    | zero =>
      intro l a w hl _ _ _ _ hlate _ hcount
      exfalso
      have hf := hlate e (Nat.le_refl _) z6
      have : false ∈ l.toList := by
        have he : e < l.size := by omega
        have : l[e] = false := by simpa [Array.getD_eq_getD_getElem?, he] using hf
        rw [← this]
        simp
      have := List.count_pos_iff.2 this
      omega
    | succ fuel ih =>
      intro l a w hl hB hdf hsz hout hlate hD hcount
      by_cases hall : ∀ j, j < e → j ≠ g → l.getD j true = true
      · by_cases hgl : l.getD g true = true
        · have hle : l = le := same_listed hl z1 (fun j hj => by
            rw [z3 j hj]
            by_cases hje : j < e
            · by_cases hjg : j = g
              · subst hjg; simp [hgl, hje]
              · simp [hall j hje hjg, hje]
            · simp [hlate j (by omega) hj, hje])
          subst hle
          rw [z5] at hcount
          have hfu : fuel + 1 = (fuel + 1 - (n - e)) + (n - e) := by omega
          rw [hfu]
          have ha := putAll_eval ((List.range e).map fun j => (N.getD j 0, a.eval (.tmp (N.getD j 0)))) a0 a hdf hsz (fun p hp => by
            obtain ⟨j, hj, rfl⟩ := List.mem_map.1 hp
            exact ⟨z10 j (List.mem_range.1 hj), rfl⟩) (fun t ht => hout t (fun i hi hh => ht (N.getD i 0, a.eval (.tmp (N.getD i 0))) (List.mem_map.2 ⟨i, List.mem_range.2 hi, rfl⟩) hh))
          rw [ha]
          exact last _ _ w hB (fun j hj => hD j hj (by
            by_cases hjg : j = g
            · subst hjg; exact hgl
            · exact hall j hj hjg))
        · have hgl' : l.getD g true = false := by simpa using hgl
          have hlg : l = lg := same_listed hl z2 (fun j hj => by
            rw [z4 j hj]
            by_cases hje : j < e
            · by_cases hjg : j = g
              · subst hjg; simp [hgl']
              · simp [hall j hje hjg, hje, hjg]
            · simp [hlate j (by omega) hj, hje])
          subst hlg
          have hset : l.setIfInBounds g true = le := same_listed (by simp [hl]) z1 (fun j hj => by
            rw [listed_set (by omega), z3 j hj]
            by_cases hjg : g = j
            · subst hjg; simp [z7]
            · rw [if_neg hjg, z4 j hj]
              have : (j == g) = false := by simpa using fun h => hjg h.symm
              simp [this])
          have hcs := count_set (l := l) (i := g) (by omega) hgl'
          rw [hset, z5] at hcs
          have hfu : fuel = (fuel - (n - e)) + (n - e) := by omega
          obtain ⟨og, hog⟩ : ∃ o, ops[g]? = some o := ⟨ops[g]'(by omega), Array.getElem?_eq_some_iff.2 ⟨by omega, rfl⟩⟩
          have hng := hneed g og hog
          have hready : ∀ j ∈ (T.2.getD g ([], [])).1, j < e ∧ j ≠ g := fun j hj => by
            have := z8 g (by omega) j hj
            exact ⟨by omega, by omega⟩
          obtain ⟨v, hv, hy⟩ := lag og hog a w (fun j hj => hD j (hready j hj).1 (hall j (hready j hj).1 (hready j hj).2))
          have hdst := zd g og z7 hog
          refine pure_ le hog hdst hg (fun c a w => by rw [hdst]; exact hQ c a w v) hy rfl ?_
          have hE' : ∀ j, j < e → E j ((a.put (some (N.getD g 0)) v).eval (.tmp (N.getD j 0))) w := fun j hj => by
            by_cases hjg : j = g
            · subst hjg
              rw [eval_put_same (by rw [hsz]; exact z10 j hj)]
              exact hv
            · rw [eval_put (z11 g j z7 hj (fun h => hjg h.symm))]
              exact hD j hj (hall j hj hjg)
          have ha := putAll_eval ((List.range e).map fun j => (N.getD j 0, (a.put (some (N.getD g 0)) v).eval (.tmp (N.getD j 0)))) a0 (a.put (some (N.getD g 0)) v) hdf (Array.size_setIfInBounds.trans hsz) (fun p hp => by
            obtain ⟨j, hj, rfl⟩ := List.mem_map.1 hp
            exact ⟨z10 j (List.mem_range.1 hj), rfl⟩) (fun t ht => by
              rw [eval_put (fun hh => ht (N.getD g 0, _) (List.mem_map.2 ⟨g, List.mem_range.2 z7, rfl⟩) hh)]
              exact hout t (fun i hi hh => ht (N.getD i 0, _) (List.mem_map.2 ⟨i, List.mem_range.2 hi, rfl⟩) hh))
          rw [ha, hfu]
          exact last _ _ w hB hE'
      · have hneeds : ∀ i o, ops[i]? = some o → (∀ x ∈ o.after, Region.binds .any x = true → l.getD x.on false = true) → ∀ j ∈ (T.2.getD i ([], [])).1, l.getD j false = true := fun i o ho hx j hj => by
          rw [hneed i o ho] at hj
          unfold needsOf at hj
          obtain ⟨x, hx', rfl⟩ := List.mem_map.1 hj
          have hx' := List.mem_filter.1 hx'
          exact hx x (by simpa using hx'.1) hx'.2
        refine ⟨fun hr => ?_, fun i hi => ?_⟩
        · exfalso
          have hev : ∀ i, i < e → l.getD i true = true := by
            intro i
            induction i using Nat.strongRecOn with
            | _ i ihi =>
              intro hie
              by_cases hh : l.getD i true = true
              · exact hh
              · exfalso
                obtain ⟨o, ho⟩ : ∃ o, ops[i]? = some o := ⟨ops[i]'(by omega), Array.getElem?_eq_some_iff.2 ⟨by omega, rfl⟩⟩
                have : i ∈ Region.ready .any ops l := mem_ready.2 ⟨by simpa using hh, o, ho, fun x hx hb => by
                  have hxn : x.on ∈ (T.2.getD i ([], [])).1 := by
                    rw [hneed i o ho]
                    exact List.mem_map.2 ⟨x, List.mem_filter.2 ⟨by simpa using hx, hb⟩, rfl⟩
                  have hlt' := z8 i (by omega) x.on hxn
                  rw [getD_any (by omega)]
                  exact ihi x.on hlt' (by omega)⟩
                rw [hr] at this
                cases this
          exact hall (fun j hj _ => hev j hj)
        · obtain ⟨hun, o, ho, hx⟩ := mem_ready.1 hi
          have hin := hlt i o ho
          have hnd := hneeds i o ho hx
          have hie : i < e := by
            by_cases hie : i < e
            · exact hie
            · exfalso
              refine hall (fun j hj hjg => ?_)
              have := all_range h9 i hin
              simp only [hie, decide_false, Bool.false_or] at this
              have := all_range this j hj
              simp only [Bool.or_eq_true, beq_iff_eq, hjg, false_or, List.contains_iff_mem] at this
              rw [← getD_any (by omega) false]
              exact hnd j this
          refine wpOp_step ho (fun K hK => ?_)
          refine step i hie o ho a w hB hout (fun j hj => ?_) K (fun v w' hb hv => ?_)
          · have := z8 i hin j hj
            exact hD j (by omega) (by rw [← getD_any (by omega) false]; exact hnd j hj)
          · refine hK _ _ ⟨fun _ _ => trivial, ?_⟩
            refine ih _ _ _ (by simp [hl]) (below_step (w := w0.drew) hB hb) hdf (Array.size_setIfInBounds.trans hsz) (fun t ht => ?_) (fun j h1 h2 => ?_) (fun j hj hjl => ?_) ?_
            · rw [eval_put (ht i hie)]
              exact hout t ht
            · rw [listed_set (by omega), if_neg (by omega)]
              exact hlate j h1 h2
            · by_cases hij : i = j
              · subst hij
                rw [eval_put_same (by rw [hsz]; exact z10 i hie)]
                exact hv
              · rw [eval_put (z11 i j hie hj hij)]
                rw [listed_set (by omega), if_neg hij] at hjl
                exact hE j _ _ _ (hD j hj hjl) hb
            · have := count_set (l := l) (i := i) (by omega) hun
              omega
  refine wp_region_last (S := fun _ => True) (ds := []) hm ?_
  have hno : ∀ j, (Array.replicate ops.size false).getD j true = true → n ≤ j := fun j hj => by
    by_cases hjn : j < n
    · rw [Array.getD_eq_getD_getElem?] at hj
      simp [hn, hjn] at hj
    · omega
  refine claim _ _ _ _ (by simp [hn]) (Below.refl _ _) rfl rfl (fun _ _ => rfl) (fun i h1 h2 => ?_) (fun j hj hl => ?_) ?_
  · rw [Array.getD_eq_getD_getElem?]
    simp [hn, h2]
  · have := hno j hl
    omega
  · refine Nat.le_trans List.count_le_length ?_
    simp
end

/-! ### mem_events (mine) -/
theorem eval_get {a : Act} {t : Nat} {v : Value} (h : a.eval (.tmp t) = v) : a.tmps[t]?.getD undef = v := by
  rw [← h]
  show _ = a.tmps.getD t undef
  rw [Array.getD_eq_getD_getElem?]
/-- What an operation of such a region may put: a memory in a row of its own; a memory beside a processor; a new block. -/
def isMem (lo : Nat) (xs : List Int) (b : Int) (v : Value) (w : World) : Prop := ∃ u, v = .agg #[u, .int .i64 b] ∧ Kd.R (Kd.int .i64) 3 w lo (fun _ => True) u xs
def isPair (lo : Nat) (xs : List Int) (b : Int) (c : Value) (v : Value) (w : World) : Prop := ∃ u, v = .tuple #[.agg #[u, .int .i64 b], c] ∧ Kd.R (Kd.int .i64) 3 w lo (fun _ => True) u xs
def isNew (lo : Nat) (t : TypeId) (cs : Array Value) (v : Value) (w : World) : Prop := ∃ g, v = .pointer (some ⟨g, 0, none⟩) ∧ lo ≤ g ∧ w.heap[g]? = some (.cells cs t (0, 0))
theorem isMem_below {lo : Nat} {xs : List Int} {b : Int} {v : Value} {w w' : World} (h : isMem lo xs b v w) (hb : Below w.heap.size w w') : isMem lo xs b v w' := by
  obtain ⟨u, e, r⟩ := h
  exact ⟨u, e, Kd.R_below r hb⟩
theorem isPair_below {lo : Nat} {xs : List Int} {b : Int} {c v : Value} {w w' : World} (h : isPair lo xs b c v w) (hb : Below w.heap.size w w') : isPair lo xs b c v w' := by
  obtain ⟨u, e, r⟩ := h
  exact ⟨u, e, Kd.R_below r hb⟩
theorem isNew_below {lo : Nat} {t : TypeId} {cs : Array Value} {v : Value} {w w' : World} (h : isNew lo t cs v w) (hb : Below w.heap.size w w') : isNew lo t cs v w' := by
  obtain ⟨g, e, hl, hg⟩ := h
  exact ⟨g, e, hl, blk_below hg hb⟩
theorem rowS2 {w : World} {r m : Nat} {ok : Nat → Prop} {rv : Value} {ram : List Int} {o0 o1 : Value} (h : Kd.R (Kd.int .i64) 3 w m ok rv ram) (hb : w.heap[r]? = some (.cells #[o0, o1] 37 (0, 0))) (u0 u1 : Value) :
    Kd.R (Kd.int .i64) 3 ((w.setCell ⟨r, 0, none⟩ u0).setCell ⟨r, 1, none⟩ u1) m ok rv ram :=
  Kd.R_mono (Kd.R_far (p := ⟨r, 1, none⟩) (Kd.R_far (p := ⟨r, 0, none⟩) (Kd.R_types h hb (by decide)) (fun _ hk => hk.2) u0) (fun _ hk => hk.2) u1) (fun _ hk => hk.1)
theorem rowS8 {w : World} {r m : Nat} {ok : Nat → Prop} {rv : Value} {ram : List Int} {o0 o1 o2 o3 o4 o5 o6 o7 : Value} (h : Kd.R (Kd.int .i64) 3 w m ok rv ram) (hb : w.heap[r]? = some (.cells #[o0, o1, o2, o3, o4, o5, o6, o7] 38 (0, 0))) (u0 u1 u2 u3 u4 u5 u6 u7 : Value) :
    Kd.R (Kd.int .i64) 3 ((((((((w.setCell ⟨r, 0, none⟩ u0).setCell ⟨r, 1, none⟩ u1).setCell ⟨r, 2, none⟩ u2).setCell ⟨r, 3, none⟩ u3).setCell ⟨r, 4, none⟩ u4).setCell ⟨r, 5, none⟩ u5).setCell ⟨r, 6, none⟩ u6).setCell ⟨r, 7, none⟩ u7) m ok rv ram :=
  Kd.R_mono (Kd.R_far (p := ⟨r, 7, none⟩) (Kd.R_far (p := ⟨r, 6, none⟩) (Kd.R_far (p := ⟨r, 5, none⟩) (Kd.R_far (p := ⟨r, 4, none⟩) (Kd.R_far (p := ⟨r, 3, none⟩) (Kd.R_far (p := ⟨r, 2, none⟩) (Kd.R_far (p := ⟨r, 1, none⟩) (Kd.R_far (p := ⟨r, 0, none⟩) (Kd.R_types h hb (by decide)) (fun _ hk => hk.2) u0) (fun _ hk => hk.2) u1) (fun _ hk => hk.2) u2) (fun _ hk => hk.2) u3) (fun _ hk => hk.2) u4) (fun _ hk => hk.2) u5) (fun _ hk => hk.2) u6) (fun _ hk => hk.2) u7) (fun _ hk => hk.1)
theorem below2 {w W : World} {r : Nat} (h : Below w.heap.size w W) (hr : w.heap.size ≤ r) (u0 u1 : Value) : Below w.heap.size w ((W.setCell ⟨r, 0, none⟩ u0).setCell ⟨r, 1, none⟩ u1) := below_set (below_set h hr) hr
/-- Behind the stores of a memory and of a processor into blocks of their own. -/
theorem stored {W : World} {g1 g2 : Nat} {q0 q1 : Value} {o0 o1 o2 o3 o4 o5 o6 o7 : Value} (hb1 : W.heap[g1]? = some (.cells #[q0, q1] 37 (0, 0))) (hb2 : W.heap[g2]? = some (.cells #[o0, o1, o2, o3, o4, o5, o6, o7] 38 (0, 0))) (p0 p1 : Value) (u0 u1 u2 u3 u4 u5 u6 u7 : Value) :
    ((((((((((W.setCell ⟨g1, 0, none⟩ p0).setCell ⟨g1, 1, none⟩ p1).setCell ⟨g2, 0, none⟩ u0).setCell ⟨g2, 1, none⟩ u1).setCell ⟨g2, 2, none⟩ u2).setCell ⟨g2, 3, none⟩ u3).setCell ⟨g2, 4, none⟩ u4).setCell ⟨g2, 5, none⟩ u5).setCell ⟨g2, 6, none⟩ u6).setCell ⟨g2, 7, none⟩ u7).heap[g1]? = some (.cells #[p0, p1] 37 (0, 0)) ∧ ((((((((((W.setCell ⟨g1, 0, none⟩ p0).setCell ⟨g1, 1, none⟩ p1).setCell ⟨g2, 0, none⟩ u0).setCell ⟨g2, 1, none⟩ u1).setCell ⟨g2, 2, none⟩ u2).setCell ⟨g2, 3, none⟩ u3).setCell ⟨g2, 4, none⟩ u4).setCell ⟨g2, 5, none⟩ u5).setCell ⟨g2, 6, none⟩ u6).setCell ⟨g2, 7, none⟩ u7).heap[g2]? = some (.cells #[u0, u1, u2, u3, u4, u5, u6, u7] 38 (0, 0)) ∧ (∀ k, k ≠ g1 → k ≠ g2 → ((((((((((W.setCell ⟨g1, 0, none⟩ p0).setCell ⟨g1, 1, none⟩ p1).setCell ⟨g2, 0, none⟩ u0).setCell ⟨g2, 1, none⟩ u1).setCell ⟨g2, 2, none⟩ u2).setCell ⟨g2, 3, none⟩ u3).setCell ⟨g2, 4, none⟩ u4).setCell ⟨g2, 5, none⟩ u5).setCell ⟨g2, 6, none⟩ u6).setCell ⟨g2, 7, none⟩ u7).heap[k]? = W.heap[k]?) ∧
      (∀ lo ok u xs, Kd.R (Kd.int .i64) 3 W lo ok u xs → Kd.R (Kd.int .i64) 3 ((((((((((W.setCell ⟨g1, 0, none⟩ p0).setCell ⟨g1, 1, none⟩ p1).setCell ⟨g2, 0, none⟩ u0).setCell ⟨g2, 1, none⟩ u1).setCell ⟨g2, 2, none⟩ u2).setCell ⟨g2, 3, none⟩ u3).setCell ⟨g2, 4, none⟩ u4).setCell ⟨g2, 5, none⟩ u5).setCell ⟨g2, 6, none⟩ u6).setCell ⟨g2, 7, none⟩ u7) lo ok u xs) ∧ (∀ w : World, Below w.heap.size w W → w.heap.size ≤ g1 → w.heap.size ≤ g2 → Below w.heap.size w ((((((((((W.setCell ⟨g1, 0, none⟩ p0).setCell ⟨g1, 1, none⟩ p1).setCell ⟨g2, 0, none⟩ u0).setCell ⟨g2, 1, none⟩ u1).setCell ⟨g2, 2, none⟩ u2).setCell ⟨g2, 3, none⟩ u3).setCell ⟨g2, 4, none⟩ u4).setCell ⟨g2, 5, none⟩ u5).setCell ⟨g2, 6, none⟩ u6).setCell ⟨g2, 7, none⟩ u7)) := by
  have hne : g1 ≠ g2 := blk_ne hb1 hb2 (by decide)
  have h2 : ((W.setCell ⟨g1, 0, none⟩ p0).setCell ⟨g1, 1, none⟩ p1).heap[g2]? = some (.cells #[o0, o1, o2, o3, o4, o5, o6, o7] 38 (0, 0)) := (heap2 _ _ _ _ _ hne.symm).trans hb2
  exact ⟨(heap8 _ _ _ _ _ _ _ _ _ _ _ hne).trans (put2 hb1 _ _), put8 h2 _ _ _ _ _ _ _ _, fun k h h' => (heap8 _ _ _ _ _ _ _ _ _ _ _ h').trans (heap2 _ _ _ _ _ h),
    fun lo ok u xs h => rowS8 (rowS2 h hb1 _ _) h2 _ _ _ _ _ _ _ _, fun w h k1 k2 => below8 (below2 h k1 _ _) k2 _ _ _ _ _ _ _ _⟩

/-! ### mem_pairs (mine) -/
/-- The boxes of the law's own arguments, at the call's first blocks. -/
structure ArgW (w W : World) (a b : Array Value) : Prop where
  below : Below w.heap.size w W
  fst : W.heap[w.heap.size]? = some (.cells a 33 (0, 0))
  snd : W.heap[w.heap.size + 1]? = some (.cells b 35 (0, 0))
theorem ArgW.kept {w W W' : World} {a b : Array Value} {S : Nat → Prop} (h : ArgW w W a b) (hk : Kept W W' S) (hb : Below w.heap.size w W') (hS : ∀ k, k < w.heap.size + 2 → ¬ S k) : ArgW w W' a b :=
  ⟨hb, blk_kept h.fst hk (hS _ (by omega)), blk_kept h.snd hk (hS _ (by omega))⟩
/-- A memory and a processor in blocks of their own, between two heights. -/
structure PairW (w W : World) (g1 g2 : Nat) (A : Option Addr) (c : Nat) (xs : List Int) (b : Int) (cs : Array Value) (lo hi : Nat) : Prop where
  mem : W.heap[g1]? = some (.cells #[.slice A xs.length c, .int .i64 b] 37 (0, 0))
  cpu : W.heap[g2]? = some (.cells cs 38 (0, 0))
  row : Kd.R (Kd.int .i64) 3 W w.heap.size (fun k => lo ≤ k ∧ k < hi ∧ k ≠ g1 ∧ k ≠ g2) (.slice A xs.length c) xs
  h1 : lo ≤ g1 ∧ g1 < hi
  h2 : lo ≤ g2 ∧ g2 < hi
theorem PairW.kept {w W W' : World} {g1 g2 : Nat} {A : Option Addr} {c : Nat} {xs : List Int} {b : Int} {cs : Array Value} {lo hi : Nat} {S : Nat → Prop} (h : PairW w W g1 g2 A c xs b cs lo hi) (hk : Kept W W' S) (hS : ∀ k, lo ≤ k → k < hi → ¬ S k) : PairW w W' g1 g2 A c xs b cs lo hi :=
  ⟨blk_kept h.mem hk (hS _ h.h1.1 h.h1.2), blk_kept h.cpu hk (hS _ h.h2.1 h.h2.2), Kd.R_kept h.row hk (fun k hk => hS k hk.1 hk.2.1), h.h1, h.h2⟩
/-- A memory alone. -/
structure MemW (w W : World) (g : Nat) (A : Option Addr) (c : Nat) (xs : List Int) (b : Int) (lo hi : Nat) : Prop where
  mem : W.heap[g]? = some (.cells #[.slice A xs.length c, .int .i64 b] 37 (0, 0))
  row : Kd.R (Kd.int .i64) 3 W w.heap.size (fun k => lo ≤ k ∧ k < hi ∧ k ≠ g) (.slice A xs.length c) xs
  h1 : lo ≤ g ∧ g < hi
theorem MemW.kept {w W W' : World} {g : Nat} {A : Option Addr} {c : Nat} {xs : List Int} {b : Int} {lo hi : Nat} {S : Nat → Prop} (h : MemW w W g A c xs b lo hi) (hk : Kept W W' S) (hS : ∀ k, lo ≤ k → k < hi → ¬ S k) : MemW w W' g A c xs b lo hi :=
  ⟨blk_kept h.mem hk (hS _ h.h1.1 h.h1.2), Kd.R_kept h.row hk (fun k hk => hS k hk.1 hk.2.1), h.h1⟩
theorem R_between {W : World} {lo base : Nat} {u : Value} {xs : List Int} {ok : Nat → Prop} (h : Kd.R (Kd.int .i64) 3 W lo ok u xs) (hb : base ≤ lo) : Kd.R (Kd.int .i64) 3 W base (fun k => ok k ∧ lo ≤ k ∧ k < W.heap.size) u xs :=
  Kd.R_lower (Kd.R_mono (Kd.R_bound h) (fun k hk => ⟨hk.1, hk.2.1, hk.2.2.1⟩)) hb
theorem pair_made {w W1 W : World} {g1 g2 : Nat} {u : Value} {xs : List Int} {q0 q1 o0 o1 o2 o3 o4 o5 o6 o7 : Value} (hB : Below w.heap.size w W1) (hW : Below W1.heap.size W1.drew W) (hR : Kd.R (Kd.int .i64) 3 W W1.heap.size (fun _ => True) u xs)
    (hb1 : W.heap[g1]? = some (.cells #[q0, q1] 37 (0, 0))) (hb2 : W.heap[g2]? = some (.cells #[o0, o1, o2, o3, o4, o5, o6, o7] 38 (0, 0))) (hg1 : W1.heap.size ≤ g1) (hg2 : W1.heap.size ≤ g2) (b : Int) (u0 u1 u2 u3 u4 u5 u6 u7 : Value) :
    ∃ A c, u = .slice A xs.length c ∧ PairW w ((((((((((W.setCell ⟨g1, 0, none⟩ u).setCell ⟨g1, 1, none⟩ (.int .i64 b)).setCell ⟨g2, 0, none⟩ u0).setCell ⟨g2, 1, none⟩ u1).setCell ⟨g2, 2, none⟩ u2).setCell ⟨g2, 3, none⟩ u3).setCell ⟨g2, 4, none⟩ u4).setCell ⟨g2, 5, none⟩ u5).setCell ⟨g2, 6, none⟩ u6).setCell ⟨g2, 7, none⟩ u7) g1 g2 A c xs b #[u0, u1, u2, u3, u4, u5, u6, u7] W1.heap.size ((((((((((W.setCell ⟨g1, 0, none⟩ u).setCell ⟨g1, 1, none⟩ (.int .i64 b)).setCell ⟨g2, 0, none⟩ u0).setCell ⟨g2, 1, none⟩ u1).setCell ⟨g2, 2, none⟩ u2).setCell ⟨g2, 3, none⟩ u3).setCell ⟨g2, 4, none⟩ u4).setCell ⟨g2, 5, none⟩ u5).setCell ⟨g2, 6, none⟩ u6).setCell ⟨g2, 7, none⟩ u7).heap.size ∧ Kept W1 ((((((((((W.setCell ⟨g1, 0, none⟩ u).setCell ⟨g1, 1, none⟩ (.int .i64 b)).setCell ⟨g2, 0, none⟩ u0).setCell ⟨g2, 1, none⟩ u1).setCell ⟨g2, 2, none⟩ u2).setCell ⟨g2, 3, none⟩ u3).setCell ⟨g2, 4, none⟩ u4).setCell ⟨g2, 5, none⟩ u5).setCell ⟨g2, 6, none⟩ u6).setCell ⟨g2, 7, none⟩ u7) (fun _ => False) ∧ Below w.heap.size w ((((((((((W.setCell ⟨g1, 0, none⟩ u).setCell ⟨g1, 1, none⟩ (.int .i64 b)).setCell ⟨g2, 0, none⟩ u0).setCell ⟨g2, 1, none⟩ u1).setCell ⟨g2, 2, none⟩ u2).setCell ⟨g2, 3, none⟩ u3).setCell ⟨g2, 4, none⟩ u4).setCell ⟨g2, 5, none⟩ u5).setCell ⟨g2, 6, none⟩ u6).setCell ⟨g2, 7, none⟩ u7) := by
  obtain ⟨A, c, rfl⟩ := Kd.R_slice hR
  obtain ⟨s1, s2, s3, s4, s5⟩ := stored hb1 hb2 (.slice A xs.length c) (.int .i64 b) u0 u1 u2 u3 u4 u5 u6 u7
  have hsz := hB.size
  have hb := s5 w (below_step (w := w) (W := W1.drew) (below_drew1 hB) hW) (by omega) (by omega)
  have hk := s5 W1.drew hW hg1 hg2
  have r := s4 _ _ _ _ hR
  generalize ((((((((((W.setCell ⟨g1, 0, none⟩ (.slice A xs.length c)).setCell ⟨g1, 1, none⟩ (.int .i64 b)).setCell ⟨g2, 0, none⟩ u0).setCell ⟨g2, 1, none⟩ u1).setCell ⟨g2, 2, none⟩ u2).setCell ⟨g2, 3, none⟩ u3).setCell ⟨g2, 4, none⟩ u4).setCell ⟨g2, 5, none⟩ u5).setCell ⟨g2, 6, none⟩ u6).setCell ⟨g2, 7, none⟩ u7) = Z at *
  have k1 := blk_lt s1
  have k2 := blk_lt s2
  refine ⟨A, c, rfl, ⟨s1, s2, ?_, ⟨hg1, k1⟩, ⟨hg2, k2⟩⟩, ⟨hk.size, fun i hi _ => hk.block i hi⟩, hb⟩
  exact Kd.R_mono (Kd.R_types (Kd.R_types (R_between r hsz) s1 (by decide)) s2 (by decide)) (fun k hk => ⟨hk.1.1.2.1, hk.1.1.2.2, hk.1.2, hk.2⟩)
theorem mem_made {w W1 W : World} {g1 : Nat} {u : Value} {xs : List Int} {q0 q1 : Value} (hB : Below w.heap.size w W1) (hW : Below W1.heap.size W1 W) (hR : Kd.R (Kd.int .i64) 3 W W1.heap.size (fun _ => True) u xs)
    (hb1 : W.heap[g1]? = some (.cells #[q0, q1] 37 (0, 0))) (hg1 : W1.heap.size ≤ g1) (b : Int) :
    ∃ A c, u = .slice A xs.length c ∧ MemW w ((W.setCell ⟨g1, 0, none⟩ u).setCell ⟨g1, 1, none⟩ (.int .i64 b)) g1 A c xs b W1.heap.size ((W.setCell ⟨g1, 0, none⟩ u).setCell ⟨g1, 1, none⟩ (.int .i64 b)).heap.size ∧ Kept W1 ((W.setCell ⟨g1, 0, none⟩ u).setCell ⟨g1, 1, none⟩ (.int .i64 b)) (fun _ => False) ∧ Below w.heap.size w ((W.setCell ⟨g1, 0, none⟩ u).setCell ⟨g1, 1, none⟩ (.int .i64 b)) := by
  obtain ⟨A, c, rfl⟩ := Kd.R_slice hR
  have hsz := hB.size
  have s1 := put2 hb1 (.slice A xs.length c) (.int .i64 b)
  have hb := below2 (below_step hB hW) (show w.heap.size ≤ g1 by omega) (.slice A xs.length c) (.int .i64 b)
  have hk := below2 (w := W1) hW hg1 (.slice A xs.length c) (.int .i64 b)
  have r := rowS2 hR hb1 (.slice A xs.length c) (.int .i64 b)
  generalize ((W.setCell ⟨g1, 0, none⟩ (.slice A xs.length c)).setCell ⟨g1, 1, none⟩ (.int .i64 b)) = Z at *
  have k1 := blk_lt s1
  refine ⟨A, c, rfl, ⟨s1, ?_, ⟨hg1, k1⟩⟩, ⟨hk.size, fun i hi _ => hk.block i hi⟩, hb⟩
  exact Kd.R_mono (Kd.R_types (R_between r hsz) s1 (by decide)) (fun k hk => ⟨hk.1.2.1, hk.1.2.2, hk.2⟩)
theorem mem_made0 {w W1 W : World} {g1 : Nat} {A : Option Addr} {c : Nat} {xs : List Int} {b : Int} (hB : Below w.heap.size w W1) (hW : Below W1.heap.size W1 W) (hR : Kd.R (Kd.int .i64) 3 W W1.heap.size (fun _ => True) (.slice A xs.length c) xs)
    (hb1 : W.heap[g1]? = some (.cells #[.slice A xs.length c, .int .i64 b] 37 (0, 0))) (hg1 : W1.heap.size ≤ g1) : MemW w W g1 A c xs b W1.heap.size W.heap.size ∧ Kept W1 W (fun _ => False) ∧ Below w.heap.size w W := by
  have hsz := hB.size
  have k1 := blk_lt hb1
  refine ⟨⟨hb1, ?_, ⟨hg1, k1⟩⟩, ⟨hW.size, fun i hi _ => hW.block i hi⟩, below_step hB hW⟩
  exact Kd.R_mono (Kd.R_types (R_between hR hsz) hb1 (by decide)) (fun k hk => ⟨hk.1.2.1, hk.1.2.2, hk.2⟩)
/-- A memory of the call's own, to be read only. -/
structure OwnW (w W : World) (g : Nat) (A : Option Addr) (c : Nat) (xs : List Int) (b : Int) : Prop where
  mem : W.heap[g]? = some (.cells #[.slice A xs.length c, .int .i64 b] 37 (0, 0))
  row : ∃ ok, Kd.R (Kd.int .i64) 3 W w.heap.size ok (.slice A xs.length c) xs
theorem OwnW.kept {w W W' : World} {g : Nat} {A : Option Addr} {c : Nat} {xs : List Int} {b : Int} {S : Nat → Prop} (h : OwnW w W g A c xs b) (hk : Kept W W' S) (hS : ∀ k : Nat, True → True → ¬ S k) : OwnW w W' g A c xs b := by
  obtain ⟨ok, hr⟩ := h.row
  exact ⟨blk_kept h.mem hk (hS _ trivial trivial), ok, Kd.R_kept hr hk (fun k _ => hS k trivial trivial)⟩
theorem OwnW.reads {w W : World} {g : Nat} {A : Option Addr} {c : Nat} {xs : List Int} {b : Int} (h : OwnW w W g A c xs b) : xs.length ≤ c ∧ Kd.C (Kd.int .i64) W A xs.length xs := by
  obtain ⟨ok, hr⟩ := h.row
  obtain ⟨_, h1, h2⟩ := Kd.R_reads' hr
  exact ⟨h1, h2⟩

/-! ### laws_eqIntS: function 33 -/
def laws_eqIntS.l0 : Nat → List Int → List Int → Int → Option (Bool)
  | 0, _, _, _ => none
  | k + 1, x0, x1, x5 => if x5 < (x0.length : Int) then (if 0 ≤ x5 then (if x5 < (x1.length : Int) then (if (rd x0 x5) = (rd x1 x5) then (laws_eqIntS.l0 k x0 x1 (wrap64 (x5 + 1))) else (some false)) else (none)) else (none)) else (some true)
def laws_eqIntS.f (k : Nat) (l0 : List Int) (l1 : List Int) : Option (Bool) := if (l0.length : Int) = (l1.length : Int) then (laws_eqIntS.l0 k l0 l1 0) else (some false)
theorem laws_eqIntS.mono_l : ∀ k, (∀ y0 y1 y2, LeO (laws_eqIntS.l0 k y0 y1 y2) (laws_eqIntS.l0 (k + 1) y0 y1 y2))
  | 0 => fun _ _ _ r h => by simp [laws_eqIntS.l0] at h
  | k + 1 => by
    have ih0 := laws_eqIntS.mono_l k
    · intro y0 y1 y2
      unfold laws_eqIntS.l0
      repeat' first
      | (with_reducible exact ih0 _ _ _)
      | (with_reducible exact LeO.refl _)
      | (with_reducible exact LeO.none _)
      | (with_reducible refine LeO.ite ?_ ?_)
      | (with_reducible refine LeO.bind ?_ (fun _ => ?_))
      | exact ih0 _ _ _
      | exact LeO.none _
      | refine LeO.ite ?_ ?_
      | refine LeO.bind ?_ (fun _ => ?_)
theorem laws_eqIntS.mono : ∀ a0 a1 k, LeO (laws_eqIntS.f k a0 a1) (laws_eqIntS.f (k + 1) a0 a1) := by
  intro a0 a1 k
  have ih0 := laws_eqIntS.mono_l k
  unfold laws_eqIntS.f
  repeat' first
      | (with_reducible exact ih0 _ _ _)
      | (with_reducible exact LeO.refl _)
      | (with_reducible exact LeO.none _)
      | (with_reducible refine LeO.ite ?_ ?_)
      | (with_reducible refine LeO.bind ?_ (fun _ => ?_))
      | exact ih0 _ _ _
      | exact LeO.none _
      | refine LeO.ite ?_ ?_
      | refine LeO.bind ?_ (fun _ => ?_)
set_option maxHeartbeats 8000000 in
set_option maxRecDepth 100000 in
theorem laws_eqIntS.calls (k : Nat) (A0 : Option Addr) (c0 : Nat) (l0 : List Int) (A1 : Option Addr) (c1 : Nat) (l1 : List Int) (r : Bool) (w : World) (hr0 : Kd.C (Kd.int .i64) w A0 l0.length l0) (hc0 : l0.length ≤ c0) (hr1 : Kd.C (Kd.int .i64) w A1 l1.length l1) (hc1 : l1.length ≤ c1) (h : laws_eqIntS.f k l0 l1 = some r) :
    Calls Try.prog 33 #[.slice A0 l0.length c0, .slice A1 l1.length c1] w fun e w' => e = .returned (.bool r) ∧ Drawn0 w w' := by
  have HR0 := Aside0.mk hr0
  have HC0 := Aside0.mk hc0
  clear hr0 hc0
  have HR1 := Aside0.mk hr1
  have HC1 := Aside0.mk hc1
  clear hr1 hc1
  have H : (if (l0.length : Int) = (l1.length : Int) then (laws_eqIntS.l0 k l0 l1 0) else (some false)) = some r := h
  clear h
  by_cases c3 : (l0.length : Int) = (l1.length : Int)
  · rw [if_pos c3] at H
    have c3b0 : ((l0.length : Int) == (l1.length : Int)) = true := beq_iff_eq.mpr c3
    have c3b1 : ((l0.length : Int) != (l1.length : Int)) = false := bne_eq_false_iff_eq.mpr c3
    have c3b2 : (l0.length == l1.length) = true := by first | simpa using c3 | (simp at c3 ⊢; omega)
    clear c3
    have H' := Aside0.mk H
    clear H
    go_enter Try.func33, Try.ntmps33
    go_wp2
    repeat (go_quiet (fail); try go_wp2)
    go_loopg [5] k (fun kq v5 w' => ∃ (x5_1 : Int), v5 = .int .i64 x5_1 ∧ Aside0 (laws_eqIntS.l0 kq l0 l1 x5_1 = some r) ∧ Aside0 (kq ≤ k) ∧ Drawn0 w w')
    case atStart => exact ⟨(0), (by first | rfl | (simp; done) | (simp [*]; done)), H', ⟨Nat.le_refl _⟩, by repeat (first | exact Drawn0.refl _ | apply Drawn0.step)⟩
    case round =>
      clear H'
      try clear c1
      try clear p2
      try clear c3
      try clear c3b0
      try clear c3b1
      try clear c3b2
      obtain ⟨x5_1, rfl, HA, HK1, ⟨m1, rfl⟩⟩ := hrel
      cases gk with
      | zero => exact absurd HA.out (by simp [laws_eqIntS.l0])
      | succ k1 =>
        have H := HA.out
        clear HA
        simp only [laws_eqIntS.l0] at H
        by_cases c4 : x5_1 < (l0.length : Int)
        · rw [if_pos c4] at H
          have c4b0 : decide (x5_1 < (l0.length : Int)) = true := decide_eq_true c4
          clear c4
          by_cases c5 : 0 ≤ x5_1
          · rw [if_pos c5] at H
            have c5b0 : decide (0 ≤ x5_1) = true := decide_eq_true c5
            clear c5
            by_cases c6 : x5_1 < (l1.length : Int)
            · rw [if_pos c6] at H
              have c6b0 : decide (x5_1 < (l1.length : Int)) = true := decide_eq_true c6
              clear c6
              by_cases c7 : (rd l0 x5_1) = (rd l1 x5_1)
              · rw [if_pos c7] at H
                have c7b0 : ((rd l0 x5_1) == (rd l1 x5_1)) = true := beq_iff_eq.mpr c7
                have c7b1 : ((rd l0 x5_1) != (rd l1 x5_1)) = false := bne_eq_false_iff_eq.mpr c7
                clear c7
                have H' := Aside0.mk H
                clear H
                have p158 : 0 ≤ (x5_1 : Int) := of_decide_eq_true (by first | (with_reducible assumption) | assumption)
                have q158 : x5_1 < (l0.length : Int) := of_decide_eq_true (by first | (with_reducible assumption) | assumption)
                obtain ⟨ad158, e158, hx158_0⟩ := Kd.at_int HR0.out x5_1 p158 q158
                cases e158
                replace p158 := eq_true p158
                replace q158 := eq_true q158
                have p159 : 0 ≤ (x5_1 : Int) := of_decide_eq_true (by first | (with_reducible assumption) | assumption)
                have q159 : x5_1 < (l1.length : Int) := of_decide_eq_true (by first | (with_reducible assumption) | assumption)
                obtain ⟨ad159, e159, hx159_0⟩ := Kd.at_int HR1.out x5_1 p159 q159
                cases e159
                replace p159 := eq_true p159
                replace q159 := eq_true q159
                go_wp2
                repeat (go_quiet (fail); try go_wp2)
                go_roundg k1
                case measure => have := HK1.out; omega
                case rel => exact ⟨(wrap64 (x5_1 + 1)), (by first | rfl | (simp; done) | (simp [*]; done)), H', ⟨by have := HK1.out; omega⟩, by repeat (first | exact Drawn0.refl _ | apply Drawn0.step)⟩
              · rw [if_neg c7] at H
                have c7b0 : ((rd l0 x5_1) == (rd l1 x5_1)) = false := beq_eq_false_iff_ne.mpr c7
                have c7b1 : ((rd l0 x5_1) != (rd l1 x5_1)) = true := bne_iff_ne.mpr c7
                obtain rfl := Option.some.inj H
                have p158 : 0 ≤ (x5_1 : Int) := of_decide_eq_true (by first | (with_reducible assumption) | assumption)
                have q158 : x5_1 < (l0.length : Int) := of_decide_eq_true (by first | (with_reducible assumption) | assumption)
                obtain ⟨ad158, e158, hx158_0⟩ := Kd.at_int HR0.out x5_1 p158 q158
                cases e158
                replace p158 := eq_true p158
                replace q158 := eq_true q158
                have p159 : 0 ≤ (x5_1 : Int) := of_decide_eq_true (by first | (with_reducible assumption) | assumption)
                have q159 : x5_1 < (l1.length : Int) := of_decide_eq_true (by first | (with_reducible assumption) | assumption)
                obtain ⟨ad159, e159, hx159_0⟩ := Kd.at_int HR1.out x5_1 p159 q159
                cases e159
                replace p159 := eq_true p159
                replace q159 := eq_true q159
                go_wp2
                repeat (go_quiet (fail); try go_wp2)
                go_ret
                exact ⟨by first | rfl | (simp; done) | (simp [*]; done), by repeat (first | exact Drawn0.refl _ | apply Drawn0.step)⟩
            · rw [if_neg c6] at H
              exact absurd H (by simp)
          · rw [if_neg c5] at H
            exact absurd H (by simp)
        · rw [if_neg c4] at H
          have c4b0 : decide (x5_1 < (l0.length : Int)) = false := decide_eq_false c4
          clear c4
          obtain rfl := Option.some.inj H
          go_wp2
          repeat (go_quiet (fail); try go_wp2)
          go_ret
          exact ⟨by first | rfl | (simp; done) | (simp [*]; done), by repeat (first | exact Drawn0.refl _ | apply Drawn0.step)⟩
  · rw [if_neg c3] at H
    have c3b0 : ((l0.length : Int) == (l1.length : Int)) = false := beq_eq_false_iff_ne.mpr c3
    have c3b1 : ((l0.length : Int) != (l1.length : Int)) = true := bne_iff_ne.mpr c3
    have c3b2 : (l0.length == l1.length) = false := by first | simpa using c3 | (simp at c3 ⊢; omega)
    obtain rfl := Option.some.inj H
    go_enter Try.func33, Try.ntmps33
    go_wp2
    repeat (go_quiet (fail); try go_wp2)
    go_ret
    exact ⟨by first | rfl | (simp; done) | (simp [*]; done), by repeat (first | exact Drawn0.refl _ | apply Drawn0.step)⟩

/-! ### laws_eqMem: function 25 -/
def laws_eqMem.f (k : Nat) (l0_0 : List Int) (a0_1 : Int) (l1_0 : List Int) (a1_1 : Int) : Option (Bool) := (laws_eqIntS.f k l0_0 l1_0).bind fun t162 => (if t162 = true then (if a0_1 = a1_1 then (some true) else (some false)) else (some false))
theorem laws_eqMem.mono : ∀ a0 a1 a2 a3 k, LeO (laws_eqMem.f k a0 a1 a2 a3) (laws_eqMem.f (k + 1) a0 a1 a2 a3) := by
  intro a0 a1 a2 a3 k
  unfold laws_eqMem.f
  repeat' first
      | (with_reducible exact laws_eqIntS.mono _ _ _)
      | (with_reducible exact LeO.refl _)
      | (with_reducible exact LeO.none _)
      | (with_reducible refine LeO.ite ?_ ?_)
      | (with_reducible refine LeO.bind ?_ (fun _ => ?_))
      | exact laws_eqIntS.mono _ _ _
      | exact LeO.none _
      | refine LeO.ite ?_ ?_
      | refine LeO.bind ?_ (fun _ => ?_)
set_option maxHeartbeats 8000000 in
set_option maxRecDepth 100000 in
theorem laws_eqMem.calls (k : Nat) (A0_0 : Option Addr) (c0_0 : Nat) (l0_0 : List Int) (a0_1 : Int) (A1_0 : Option Addr) (c1_0 : Nat) (l1_0 : List Int) (a1_1 : Int) (r : Bool) (w : World) (hr0_0 : Kd.C (Kd.int .i64) w A0_0 l0_0.length l0_0) (hc0_0 : l0_0.length ≤ c0_0) (hr1_0 : Kd.C (Kd.int .i64) w A1_0 l1_0.length l1_0) (hc1_0 : l1_0.length ≤ c1_0) (h : laws_eqMem.f k l0_0 a0_1 l1_0 a1_1 = some r) :
    Calls Try.prog 25 #[.agg #[.slice A0_0 l0_0.length c0_0, .int .i64 a0_1], .agg #[.slice A1_0 l1_0.length c1_0, .int .i64 a1_1]] w fun e w' => e = .returned (.bool r) ∧ Below w.heap.size w w' := by
  have hu37 := Try.underlying37
  have HR0_0 := Aside0.mk hr0_0
  have HC0_0 := Aside0.mk hc0_0
  clear hr0_0 hc0_0
  have HR1_0 := Aside0.mk hr1_0
  have HC1_0 := Aside0.mk hc1_0
  clear hr1_0 hc1_0
  have HB := Aside0.mk (Below.refl w.heap.size w)
  have H : ((laws_eqIntS.f k l0_0 l1_0).bind fun t162 => (if t162 = true then (if a0_1 = a1_1 then (some true) else (some false)) else (some false))) = some r := h
  clear h
  replace H := Option.bind_eq_some_iff.mp H
  obtain ⟨t162, A30, H⟩ := H
  replace H : (if t162 = true then (if a0_1 = a1_1 then (some true) else (some false)) else (some false)) = some r := H
  have A3 := Aside0.mk A30
  clear A30
  by_cases c4 : t162 = true
  · subst c4
    have H1 : (if a0_1 = a1_1 then (some true) else (some false)) = some r := by rw [if_pos rfl] at H; exact H
    clear H
    have H := H1
    clear H1
    by_cases c5 : a0_1 = a1_1
    · rw [if_pos c5] at H
      have c5b0 : (a0_1 == a1_1) = true := beq_iff_eq.mpr c5
      have c5b1 : (a0_1 != a1_1) = false := bne_eq_false_iff_eq.mpr c5
      clear c5
      obtain rfl := Option.some.inj H
      go_enter Try.func25, Try.ntmps25
      go_wp2_with (first | ((with_reducible refine gate_dst (N := 2) rfl ?_); refine box_event ?hg (N := 2) ?hd (cs := #[.slice A0_0 l0_0.length c0_0, .int .i64 a0_1]) (t := 37) ?hr ?_; (case hd => rfl); (case hg => rfl); (case hr => first | (go_simp; done) | (go_simp; rfl)); intro gb160 hg w6 hbox hb; have n0_ := Aside0.mk (below_step (by repeat (first | (with_reducible first | exact HB.out | apply below_alloc | apply pw_below_drewN | apply below_drew1) | exact HB.out)) hb); have n1_ := Aside0.mk (hbox); have n2_ := Aside0.mk ((by rw [hg]; exact (below_size (by repeat (first | (with_reducible first | exact HB.out | apply below_alloc | apply pw_below_drewN | apply below_drew1) | exact HB.out))) : w.heap.size ≤ gb160)); have n3_ := Aside0.mk ((by rw [hg]; exact (below_size (by repeat (first | (with_reducible first | exact HB.out | apply below_alloc | apply pw_below_drewN | apply below_drew1) | exact HB.out))) : w.heap.size ≤ gb160)); clear HB; have HB := n0_; have BK160 := n1_; have GW160 := n2_; have GE160 := n3_; clear n0_ n1_ n2_ n3_; clear hb hbox hg) | ((with_reducible refine gate_dst (N := 3) rfl ?_); refine box_event ?hg (N := 3) ?hd (cs := #[.slice A1_0 l1_0.length c1_0, .int .i64 a1_1]) (t := 37) ?hr ?_; (case hd => rfl); (case hg => rfl); (case hr => first | (go_simp; done) | (go_simp; rfl)); intro gb161 hg w7 hbox hb; have n0_ := Aside0.mk (blk_below (g := gb160) (o := .cells #[.slice A0_0 l0_0.length c0_0, .int .i64 a0_1] 37 (0, 0)) (by (with_reducible repeat (first | refine blk_drewN ?_ _ | refine blk_drew ?_ | refine blk_alloc ?_ _)); exact BK160.out) hb); have n1_ := Aside0.mk (below_step (by repeat (first | (with_reducible first | exact HB.out | apply below_alloc | apply pw_below_drewN | apply below_drew1 | refine below_set ?_ GE160.out) | exact HB.out)) hb); have n2_ := Aside0.mk (hbox); have n3_ := Aside0.mk ((by rw [hg]; exact (below_size (by repeat (first | (with_reducible first | exact HB.out | apply below_alloc | apply pw_below_drewN | apply below_drew1 | refine below_set ?_ GE160.out) | exact HB.out))) : w.heap.size ≤ gb161)); have n4_ := Aside0.mk ((by rw [hg]; exact (below_size (by repeat (first | (with_reducible first | exact HB.out | apply below_alloc | apply pw_below_drewN | apply below_drew1 | refine below_set ?_ GE160.out) | exact HB.out))) : w.heap.size ≤ gb161)); have n5_ := Aside0.mk ((by rw [hg]; exact Nat.ne_of_lt (blk_lt (g := gb160) (o := .cells #[.slice A0_0 l0_0.length c0_0, .int .i64 a0_1] 37 (0, 0)) (by (with_reducible repeat (first | refine blk_drewN ?_ _ | refine blk_drew ?_ | refine blk_alloc ?_ _)); exact BK160.out)) : gb160 ≠ gb161)); have n6_ := Aside0.mk ((by rw [hg]; exact Nat.ne_of_gt (blk_lt (g := gb160) (o := .cells #[.slice A0_0 l0_0.length c0_0, .int .i64 a0_1] 37 (0, 0)) (by (with_reducible repeat (first | refine blk_drewN ?_ _ | refine blk_drew ?_ | refine blk_alloc ?_ _)); exact BK160.out)) : gb161 ≠ gb160)); clear BK160; clear HB; have BK160 := n0_; have HB := n1_; have BK161 := n2_; have GW161 := n3_; have GE161 := n4_; have NB160_161 := n5_; have NB161_160 := n6_; clear n0_ n1_ n2_ n3_ n4_ n5_ n6_; clear hb hbox hg; have hnb8 := NB160_161.out; have hnc8 := NB161_160.out; have hcz9_0 : w7.cell? ⟨gb160, 0, none⟩ = some (.slice A0_0 l0_0.length c0_0) := (blk_cell BK160.out 0).trans rfl; have hcz9_1 : w7.cell? ⟨gb160, 1, none⟩ = some (.int .i64 a0_1) := (blk_cell BK160.out 1).trans rfl; have hfz9_0 := blk_frozen BK160.out 0; have hfz9_1 := blk_frozen BK160.out 1; have hcz10_0 : w7.cell? ⟨gb161, 0, none⟩ = some (.slice A1_0 l1_0.length c1_0) := (blk_cell BK161.out 0).trans rfl; have hcz10_1 : w7.cell? ⟨gb161, 1, none⟩ = some (.int .i64 a1_1) := (blk_cell BK161.out 1).trans rfl; have hfz10_0 := blk_frozen BK161.out 0; have hfz10_1 := blk_frozen BK161.out 1) | ((with_reducible refine gate_callee (f := 33) rfl ?_); refine goesL_ (some 9) rfl rfl Try.func33 (by kernel_rfl) rfl #[.slice A0_0 l0_0.length c0_0, .slice A1_0 l1_0.length c1_0] rfl (by (try simp only [List.map_toArray, List.map_cons, List.map_nil]); first | done | rfl | (simp only [List.length_drop, List.length_take]; rfl)) ?_; (with_reducible refine (laws_eqIntS.calls k _ _ l0_0 _ _ l1_0 true _ ?side1 ?side2 ?side3 ?side4 A3.out).mono ?_); (case side1 => repeat (first | exact (Kd.C_below HR0_0.out HB.out) | (with_reducible refine Kd.C_alloc ?_ _) | (with_reducible refine Kd.C_drewN ?_ _) | (with_reducible refine Kd.C_drew ?_))); (case side2 => exact HC0_0.out); (case side3 => repeat (first | exact (Kd.C_below HR1_0.out HB.out) | (with_reducible refine Kd.C_alloc ?_ _) | (with_reducible refine Kd.C_drewN ?_ _) | (with_reducible refine Kd.C_drew ?_))); (case side4 => exact HC1_0.out); rintro e w' ⟨rfl, ⟨nd, rfl⟩⟩; refine ⟨_, rfl, ?_⟩))
      go_ret
      exact ⟨by first | rfl | (simp [errW_none, errW_some] <;> rfl) | (simp [*, errW_none, errW_some] <;> rfl), by repeat (first | (with_reducible first | exact HB.out | apply below_alloc | apply pw_below_drewN | apply below_drew1 | refine below_set ?_ GE160.out | refine below_set ?_ GE161.out) | exact HB.out)⟩
    · rw [if_neg c5] at H
      have c5b0 : (a0_1 == a1_1) = false := beq_eq_false_iff_ne.mpr c5
      have c5b1 : (a0_1 != a1_1) = true := bne_iff_ne.mpr c5
      obtain rfl := Option.some.inj H
      go_enter Try.func25, Try.ntmps25
      go_wp2_with (first | ((with_reducible refine gate_dst (N := 2) rfl ?_); refine box_event ?hg (N := 2) ?hd (cs := #[.slice A0_0 l0_0.length c0_0, .int .i64 a0_1]) (t := 37) ?hr ?_; (case hd => rfl); (case hg => rfl); (case hr => first | (go_simp; done) | (go_simp; rfl)); intro gb160 hg w11 hbox hb; have n0_ := Aside0.mk (below_step (by repeat (first | (with_reducible first | exact HB.out | apply below_alloc | apply pw_below_drewN | apply below_drew1) | exact HB.out)) hb); have n1_ := Aside0.mk (hbox); have n2_ := Aside0.mk ((by rw [hg]; exact (below_size (by repeat (first | (with_reducible first | exact HB.out | apply below_alloc | apply pw_below_drewN | apply below_drew1) | exact HB.out))) : w.heap.size ≤ gb160)); have n3_ := Aside0.mk ((by rw [hg]; exact (below_size (by repeat (first | (with_reducible first | exact HB.out | apply below_alloc | apply pw_below_drewN | apply below_drew1) | exact HB.out))) : w.heap.size ≤ gb160)); clear HB; have HB := n0_; have BK160 := n1_; have GW160 := n2_; have GE160 := n3_; clear n0_ n1_ n2_ n3_; clear hb hbox hg) | ((with_reducible refine gate_dst (N := 3) rfl ?_); refine box_event ?hg (N := 3) ?hd (cs := #[.slice A1_0 l1_0.length c1_0, .int .i64 a1_1]) (t := 37) ?hr ?_; (case hd => rfl); (case hg => rfl); (case hr => first | (go_simp; done) | (go_simp; rfl)); intro gb161 hg w12 hbox hb; have n0_ := Aside0.mk (blk_below (g := gb160) (o := .cells #[.slice A0_0 l0_0.length c0_0, .int .i64 a0_1] 37 (0, 0)) (by (with_reducible repeat (first | refine blk_drewN ?_ _ | refine blk_drew ?_ | refine blk_alloc ?_ _)); exact BK160.out) hb); have n1_ := Aside0.mk (below_step (by repeat (first | (with_reducible first | exact HB.out | apply below_alloc | apply pw_below_drewN | apply below_drew1 | refine below_set ?_ GE160.out) | exact HB.out)) hb); have n2_ := Aside0.mk (hbox); have n3_ := Aside0.mk ((by rw [hg]; exact (below_size (by repeat (first | (with_reducible first | exact HB.out | apply below_alloc | apply pw_below_drewN | apply below_drew1 | refine below_set ?_ GE160.out) | exact HB.out))) : w.heap.size ≤ gb161)); have n4_ := Aside0.mk ((by rw [hg]; exact (below_size (by repeat (first | (with_reducible first | exact HB.out | apply below_alloc | apply pw_below_drewN | apply below_drew1 | refine below_set ?_ GE160.out) | exact HB.out))) : w.heap.size ≤ gb161)); have n5_ := Aside0.mk ((by rw [hg]; exact Nat.ne_of_lt (blk_lt (g := gb160) (o := .cells #[.slice A0_0 l0_0.length c0_0, .int .i64 a0_1] 37 (0, 0)) (by (with_reducible repeat (first | refine blk_drewN ?_ _ | refine blk_drew ?_ | refine blk_alloc ?_ _)); exact BK160.out)) : gb160 ≠ gb161)); have n6_ := Aside0.mk ((by rw [hg]; exact Nat.ne_of_gt (blk_lt (g := gb160) (o := .cells #[.slice A0_0 l0_0.length c0_0, .int .i64 a0_1] 37 (0, 0)) (by (with_reducible repeat (first | refine blk_drewN ?_ _ | refine blk_drew ?_ | refine blk_alloc ?_ _)); exact BK160.out)) : gb161 ≠ gb160)); clear BK160; clear HB; have BK160 := n0_; have HB := n1_; have BK161 := n2_; have GW161 := n3_; have GE161 := n4_; have NB160_161 := n5_; have NB161_160 := n6_; clear n0_ n1_ n2_ n3_ n4_ n5_ n6_; clear hb hbox hg; have hnb13 := NB160_161.out; have hnc13 := NB161_160.out; have hcz14_0 : w12.cell? ⟨gb160, 0, none⟩ = some (.slice A0_0 l0_0.length c0_0) := (blk_cell BK160.out 0).trans rfl; have hcz14_1 : w12.cell? ⟨gb160, 1, none⟩ = some (.int .i64 a0_1) := (blk_cell BK160.out 1).trans rfl; have hfz14_0 := blk_frozen BK160.out 0; have hfz14_1 := blk_frozen BK160.out 1; have hcz15_0 : w12.cell? ⟨gb161, 0, none⟩ = some (.slice A1_0 l1_0.length c1_0) := (blk_cell BK161.out 0).trans rfl; have hcz15_1 : w12.cell? ⟨gb161, 1, none⟩ = some (.int .i64 a1_1) := (blk_cell BK161.out 1).trans rfl; have hfz15_0 := blk_frozen BK161.out 0; have hfz15_1 := blk_frozen BK161.out 1) | ((with_reducible refine gate_callee (f := 33) rfl ?_); refine goesL_ (some 9) rfl rfl Try.func33 (by kernel_rfl) rfl #[.slice A0_0 l0_0.length c0_0, .slice A1_0 l1_0.length c1_0] rfl (by (try simp only [List.map_toArray, List.map_cons, List.map_nil]); first | done | rfl | (simp only [List.length_drop, List.length_take]; rfl)) ?_; (with_reducible refine (laws_eqIntS.calls k _ _ l0_0 _ _ l1_0 true _ ?side1 ?side2 ?side3 ?side4 A3.out).mono ?_); (case side1 => repeat (first | exact (Kd.C_below HR0_0.out HB.out) | (with_reducible refine Kd.C_alloc ?_ _) | (with_reducible refine Kd.C_drewN ?_ _) | (with_reducible refine Kd.C_drew ?_))); (case side2 => exact HC0_0.out); (case side3 => repeat (first | exact (Kd.C_below HR1_0.out HB.out) | (with_reducible refine Kd.C_alloc ?_ _) | (with_reducible refine Kd.C_drewN ?_ _) | (with_reducible refine Kd.C_drew ?_))); (case side4 => exact HC1_0.out); rintro e w' ⟨rfl, ⟨nd, rfl⟩⟩; refine ⟨_, rfl, ?_⟩))
      go_ret
      exact ⟨by first | rfl | (simp [errW_none, errW_some] <;> rfl) | (simp [*, errW_none, errW_some] <;> rfl), by repeat (first | (with_reducible first | exact HB.out | apply below_alloc | apply pw_below_drewN | apply below_drew1 | refine below_set ?_ GE160.out | refine below_set ?_ GE161.out) | exact HB.out)⟩
  · replace c4 := Bool.eq_false_iff.mpr c4
    subst c4
    have H1 : (some false) = some r := by rw [if_neg (show ¬ (false = true) by decide)] at H; exact H
    clear H
    have H := H1
    clear H1
    obtain rfl := Option.some.inj H
    go_enter Try.func25, Try.ntmps25
    go_wp2_with (first | ((with_reducible refine gate_dst (N := 2) rfl ?_); refine box_event ?hg (N := 2) ?hd (cs := #[.slice A0_0 l0_0.length c0_0, .int .i64 a0_1]) (t := 37) ?hr ?_; (case hd => rfl); (case hg => rfl); (case hr => first | (go_simp; done) | (go_simp; rfl)); intro gb160 hg w16 hbox hb; have n0_ := Aside0.mk (below_step (by repeat (first | (with_reducible first | exact HB.out | apply below_alloc | apply pw_below_drewN | apply below_drew1) | exact HB.out)) hb); have n1_ := Aside0.mk (hbox); have n2_ := Aside0.mk ((by rw [hg]; exact (below_size (by repeat (first | (with_reducible first | exact HB.out | apply below_alloc | apply pw_below_drewN | apply below_drew1) | exact HB.out))) : w.heap.size ≤ gb160)); have n3_ := Aside0.mk ((by rw [hg]; exact (below_size (by repeat (first | (with_reducible first | exact HB.out | apply below_alloc | apply pw_below_drewN | apply below_drew1) | exact HB.out))) : w.heap.size ≤ gb160)); clear HB; have HB := n0_; have BK160 := n1_; have GW160 := n2_; have GE160 := n3_; clear n0_ n1_ n2_ n3_; clear hb hbox hg) | ((with_reducible refine gate_dst (N := 3) rfl ?_); refine box_event ?hg (N := 3) ?hd (cs := #[.slice A1_0 l1_0.length c1_0, .int .i64 a1_1]) (t := 37) ?hr ?_; (case hd => rfl); (case hg => rfl); (case hr => first | (go_simp; done) | (go_simp; rfl)); intro gb161 hg w17 hbox hb; have n0_ := Aside0.mk (blk_below (g := gb160) (o := .cells #[.slice A0_0 l0_0.length c0_0, .int .i64 a0_1] 37 (0, 0)) (by (with_reducible repeat (first | refine blk_drewN ?_ _ | refine blk_drew ?_ | refine blk_alloc ?_ _)); exact BK160.out) hb); have n1_ := Aside0.mk (below_step (by repeat (first | (with_reducible first | exact HB.out | apply below_alloc | apply pw_below_drewN | apply below_drew1 | refine below_set ?_ GE160.out) | exact HB.out)) hb); have n2_ := Aside0.mk (hbox); have n3_ := Aside0.mk ((by rw [hg]; exact (below_size (by repeat (first | (with_reducible first | exact HB.out | apply below_alloc | apply pw_below_drewN | apply below_drew1 | refine below_set ?_ GE160.out) | exact HB.out))) : w.heap.size ≤ gb161)); have n4_ := Aside0.mk ((by rw [hg]; exact (below_size (by repeat (first | (with_reducible first | exact HB.out | apply below_alloc | apply pw_below_drewN | apply below_drew1 | refine below_set ?_ GE160.out) | exact HB.out))) : w.heap.size ≤ gb161)); have n5_ := Aside0.mk ((by rw [hg]; exact Nat.ne_of_lt (blk_lt (g := gb160) (o := .cells #[.slice A0_0 l0_0.length c0_0, .int .i64 a0_1] 37 (0, 0)) (by (with_reducible repeat (first | refine blk_drewN ?_ _ | refine blk_drew ?_ | refine blk_alloc ?_ _)); exact BK160.out)) : gb160 ≠ gb161)); have n6_ := Aside0.mk ((by rw [hg]; exact Nat.ne_of_gt (blk_lt (g := gb160) (o := .cells #[.slice A0_0 l0_0.length c0_0, .int .i64 a0_1] 37 (0, 0)) (by (with_reducible repeat (first | refine blk_drewN ?_ _ | refine blk_drew ?_ | refine blk_alloc ?_ _)); exact BK160.out)) : gb161 ≠ gb160)); clear BK160; clear HB; have BK160 := n0_; have HB := n1_; have BK161 := n2_; have GW161 := n3_; have GE161 := n4_; have NB160_161 := n5_; have NB161_160 := n6_; clear n0_ n1_ n2_ n3_ n4_ n5_ n6_; clear hb hbox hg; have hnb18 := NB160_161.out; have hnc18 := NB161_160.out; have hcz19_0 : w17.cell? ⟨gb160, 0, none⟩ = some (.slice A0_0 l0_0.length c0_0) := (blk_cell BK160.out 0).trans rfl; have hcz19_1 : w17.cell? ⟨gb160, 1, none⟩ = some (.int .i64 a0_1) := (blk_cell BK160.out 1).trans rfl; have hfz19_0 := blk_frozen BK160.out 0; have hfz19_1 := blk_frozen BK160.out 1; have hcz20_0 : w17.cell? ⟨gb161, 0, none⟩ = some (.slice A1_0 l1_0.length c1_0) := (blk_cell BK161.out 0).trans rfl; have hcz20_1 : w17.cell? ⟨gb161, 1, none⟩ = some (.int .i64 a1_1) := (blk_cell BK161.out 1).trans rfl; have hfz20_0 := blk_frozen BK161.out 0; have hfz20_1 := blk_frozen BK161.out 1) | ((with_reducible refine gate_callee (f := 33) rfl ?_); refine goesL_ (some 9) rfl rfl Try.func33 (by kernel_rfl) rfl #[.slice A0_0 l0_0.length c0_0, .slice A1_0 l1_0.length c1_0] rfl (by (try simp only [List.map_toArray, List.map_cons, List.map_nil]); first | done | rfl | (simp only [List.length_drop, List.length_take]; rfl)) ?_; (with_reducible refine (laws_eqIntS.calls k _ _ l0_0 _ _ l1_0 false _ ?side1 ?side2 ?side3 ?side4 A3.out).mono ?_); (case side1 => repeat (first | exact (Kd.C_below HR0_0.out HB.out) | (with_reducible refine Kd.C_alloc ?_ _) | (with_reducible refine Kd.C_drewN ?_ _) | (with_reducible refine Kd.C_drew ?_))); (case side2 => exact HC0_0.out); (case side3 => repeat (first | exact (Kd.C_below HR1_0.out HB.out) | (with_reducible refine Kd.C_alloc ?_ _) | (with_reducible refine Kd.C_drewN ?_ _) | (with_reducible refine Kd.C_drew ?_))); (case side4 => exact HC1_0.out); rintro e w' ⟨rfl, ⟨nd, rfl⟩⟩; refine ⟨_, rfl, ?_⟩))
    go_ret
    exact ⟨by first | rfl | (simp [errW_none, errW_some] <;> rfl) | (simp [*, errW_none, errW_some] <;> rfl), by repeat (first | (with_reducible first | exact HB.out | apply below_alloc | apply pw_below_drewN | apply below_drew1 | refine below_set ?_ GE160.out | refine below_set ?_ GE161.out) | exact HB.out)⟩

/-! ### laws_eqCpu: function 26 -/
def laws_eqCpu.f (a0_0 : Int) (a0_1 : Int) (a0_2 : Int) (a0_3 : Int) (a0_4 : Bool) (a0_5 : Bool) (a0_6 : Bool) (a0_7 : Bool) (a1_0 : Int) (a1_1 : Int) (a1_2 : Int) (a1_3 : Int) (a1_4 : Bool) (a1_5 : Bool) (a1_6 : Bool) (a1_7 : Bool) : Option (Bool) := if a0_0 = a1_0 then (if a0_1 = a1_1 then (if a0_2 = a1_2 then (if a0_3 = a1_3 then (if (a0_4 != a1_4) = true then (some false) else (if (a0_5 != a1_5) = true then (some false) else (if (a0_6 != a1_6) = true then (some false) else (if (a0_7 != a1_7) = true then (some false) else (some true))))) else (some false)) else (some false)) else (some false)) else (some false)
set_option maxHeartbeats 8000000 in
set_option maxRecDepth 100000 in
theorem laws_eqCpu.calls (a0_0 : Int) (a0_1 : Int) (a0_2 : Int) (a0_3 : Int) (a0_4 : Bool) (a0_5 : Bool) (a0_6 : Bool) (a0_7 : Bool) (a1_0 : Int) (a1_1 : Int) (a1_2 : Int) (a1_3 : Int) (a1_4 : Bool) (a1_5 : Bool) (a1_6 : Bool) (a1_7 : Bool) (r : Bool) (w : World) (h : laws_eqCpu.f a0_0 a0_1 a0_2 a0_3 a0_4 a0_5 a0_6 a0_7 a1_0 a1_1 a1_2 a1_3 a1_4 a1_5 a1_6 a1_7 = some r) :
    Calls Try.prog 26 #[.agg #[.int .i64 a0_0, .int .i64 a0_1, .int .i64 a0_2, .int .i64 a0_3, .bool a0_4, .bool a0_5, .bool a0_6, .bool a0_7], .agg #[.int .i64 a1_0, .int .i64 a1_1, .int .i64 a1_2, .int .i64 a1_3, .bool a1_4, .bool a1_5, .bool a1_6, .bool a1_7]] w fun e w' => e = .returned (.bool r) ∧ Below w.heap.size w w' := by
  have hu38 := Try.underlying38
  have HB := Aside0.mk (Below.refl w.heap.size w)
  have H : (if a0_0 = a1_0 then (if a0_1 = a1_1 then (if a0_2 = a1_2 then (if a0_3 = a1_3 then (if (a0_4 != a1_4) = true then (some false) else (if (a0_5 != a1_5) = true then (some false) else (if (a0_6 != a1_6) = true then (some false) else (if (a0_7 != a1_7) = true then (some false) else (some true))))) else (some false)) else (some false)) else (some false)) else (some false)) = some r := h
  clear h
  by_cases c3 : a0_0 = a1_0
  · rw [if_pos c3] at H
    have c3b0 : (a0_0 == a1_0) = true := beq_iff_eq.mpr c3
    have c3b1 : (a0_0 != a1_0) = false := bne_eq_false_iff_eq.mpr c3
    clear c3
    by_cases c4 : a0_1 = a1_1
    · rw [if_pos c4] at H
      have c4b0 : (a0_1 == a1_1) = true := beq_iff_eq.mpr c4
      have c4b1 : (a0_1 != a1_1) = false := bne_eq_false_iff_eq.mpr c4
      clear c4
      by_cases c5 : a0_2 = a1_2
      · rw [if_pos c5] at H
        have c5b0 : (a0_2 == a1_2) = true := beq_iff_eq.mpr c5
        have c5b1 : (a0_2 != a1_2) = false := bne_eq_false_iff_eq.mpr c5
        clear c5
        by_cases c6 : a0_3 = a1_3
        · rw [if_pos c6] at H
          have c6b0 : (a0_3 == a1_3) = true := beq_iff_eq.mpr c6
          have c6b1 : (a0_3 != a1_3) = false := bne_eq_false_iff_eq.mpr c6
          clear c6
          by_cases c7 : (a0_4 != a1_4) = true
          · rw [if_pos c7] at H
            have c7b0 : (a0_4 != a1_4) = true := c7
            (try (have c7b1 : decide (a0_4 = a1_4) = false := by simpa using c7))
            (try (have c7b2 : (a0_4 == a1_4) = false := by simpa using c7))
            (try (have c7b3 : ¬ (a0_4 = a1_4) := by simpa using c7))
            clear c7
            obtain rfl := Option.some.inj H
            go_enter Try.func26, Try.ntmps26
            go_wp2_with (first | ((with_reducible refine gate_dst (N := 2) rfl ?_); refine box_event ?hg (N := 2) ?hd (cs := #[.int .i64 a0_0, .int .i64 a0_1, .int .i64 a0_2, .int .i64 a0_3, .bool a0_4, .bool a0_5, .bool a0_6, .bool a0_7]) (t := 38) ?hr ?_; (case hd => rfl); (case hg => rfl); (case hr => first | (go_simp; done) | (go_simp; rfl)); intro gb163 hg w8 hbox hb; have n0_ := Aside0.mk (below_step (by repeat (first | (with_reducible first | exact HB.out | apply below_alloc | apply pw_below_drewN | apply below_drew1) | exact HB.out)) hb); have n1_ := Aside0.mk (hbox); have n2_ := Aside0.mk ((by rw [hg]; exact (below_size (by repeat (first | (with_reducible first | exact HB.out | apply below_alloc | apply pw_below_drewN | apply below_drew1) | exact HB.out))) : w.heap.size ≤ gb163)); have n3_ := Aside0.mk ((by rw [hg]; exact (below_size (by repeat (first | (with_reducible first | exact HB.out | apply below_alloc | apply pw_below_drewN | apply below_drew1) | exact HB.out))) : w.heap.size ≤ gb163)); clear HB; have HB := n0_; have BK163 := n1_; have GW163 := n2_; have GE163 := n3_; clear n0_ n1_ n2_ n3_; clear hb hbox hg) | ((with_reducible refine gate_dst (N := 3) rfl ?_); refine box_event ?hg (N := 3) ?hd (cs := #[.int .i64 a1_0, .int .i64 a1_1, .int .i64 a1_2, .int .i64 a1_3, .bool a1_4, .bool a1_5, .bool a1_6, .bool a1_7]) (t := 38) ?hr ?_; (case hd => rfl); (case hg => rfl); (case hr => first | (go_simp; done) | (go_simp; rfl)); intro gb164 hg w9 hbox hb; have n0_ := Aside0.mk (blk_below (g := gb163) (o := .cells #[.int .i64 a0_0, .int .i64 a0_1, .int .i64 a0_2, .int .i64 a0_3, .bool a0_4, .bool a0_5, .bool a0_6, .bool a0_7] 38 (0, 0)) (by (with_reducible repeat (first | refine blk_drewN ?_ _ | refine blk_drew ?_ | refine blk_alloc ?_ _)); exact BK163.out) hb); have n1_ := Aside0.mk (below_step (by repeat (first | (with_reducible first | exact HB.out | apply below_alloc | apply pw_below_drewN | apply below_drew1 | refine below_set ?_ GE163.out) | exact HB.out)) hb); have n2_ := Aside0.mk (hbox); have n3_ := Aside0.mk ((by rw [hg]; exact (below_size (by repeat (first | (with_reducible first | exact HB.out | apply below_alloc | apply pw_below_drewN | apply below_drew1 | refine below_set ?_ GE163.out) | exact HB.out))) : w.heap.size ≤ gb164)); have n4_ := Aside0.mk ((by rw [hg]; exact (below_size (by repeat (first | (with_reducible first | exact HB.out | apply below_alloc | apply pw_below_drewN | apply below_drew1 | refine below_set ?_ GE163.out) | exact HB.out))) : w.heap.size ≤ gb164)); have n5_ := Aside0.mk ((by rw [hg]; exact Nat.ne_of_lt (blk_lt (g := gb163) (o := .cells #[.int .i64 a0_0, .int .i64 a0_1, .int .i64 a0_2, .int .i64 a0_3, .bool a0_4, .bool a0_5, .bool a0_6, .bool a0_7] 38 (0, 0)) (by (with_reducible repeat (first | refine blk_drewN ?_ _ | refine blk_drew ?_ | refine blk_alloc ?_ _)); exact BK163.out)) : gb163 ≠ gb164)); have n6_ := Aside0.mk ((by rw [hg]; exact Nat.ne_of_gt (blk_lt (g := gb163) (o := .cells #[.int .i64 a0_0, .int .i64 a0_1, .int .i64 a0_2, .int .i64 a0_3, .bool a0_4, .bool a0_5, .bool a0_6, .bool a0_7] 38 (0, 0)) (by (with_reducible repeat (first | refine blk_drewN ?_ _ | refine blk_drew ?_ | refine blk_alloc ?_ _)); exact BK163.out)) : gb164 ≠ gb163)); clear BK163; clear HB; have BK163 := n0_; have HB := n1_; have BK164 := n2_; have GW164 := n3_; have GE164 := n4_; have NB163_164 := n5_; have NB164_163 := n6_; clear n0_ n1_ n2_ n3_ n4_ n5_ n6_; clear hb hbox hg; have hnb10 := NB163_164.out; have hnc10 := NB164_163.out; have hcz11_0 : w9.cell? ⟨gb163, 0, none⟩ = some (.int .i64 a0_0) := (blk_cell BK163.out 0).trans rfl; have hcz11_1 : w9.cell? ⟨gb163, 1, none⟩ = some (.int .i64 a0_1) := (blk_cell BK163.out 1).trans rfl; have hcz11_2 : w9.cell? ⟨gb163, 2, none⟩ = some (.int .i64 a0_2) := (blk_cell BK163.out 2).trans rfl; have hcz11_3 : w9.cell? ⟨gb163, 3, none⟩ = some (.int .i64 a0_3) := (blk_cell BK163.out 3).trans rfl; have hcz11_4 : w9.cell? ⟨gb163, 4, none⟩ = some (.bool a0_4) := (blk_cell BK163.out 4).trans rfl; have hcz11_5 : w9.cell? ⟨gb163, 5, none⟩ = some (.bool a0_5) := (blk_cell BK163.out 5).trans rfl; have hcz11_6 : w9.cell? ⟨gb163, 6, none⟩ = some (.bool a0_6) := (blk_cell BK163.out 6).trans rfl; have hcz11_7 : w9.cell? ⟨gb163, 7, none⟩ = some (.bool a0_7) := (blk_cell BK163.out 7).trans rfl; have hfz11_0 := blk_frozen BK163.out 0; have hfz11_1 := blk_frozen BK163.out 1; have hfz11_2 := blk_frozen BK163.out 2; have hfz11_3 := blk_frozen BK163.out 3; have hfz11_4 := blk_frozen BK163.out 4; have hfz11_5 := blk_frozen BK163.out 5; have hfz11_6 := blk_frozen BK163.out 6; have hfz11_7 := blk_frozen BK163.out 7; have hcz12_0 : w9.cell? ⟨gb164, 0, none⟩ = some (.int .i64 a1_0) := (blk_cell BK164.out 0).trans rfl; have hcz12_1 : w9.cell? ⟨gb164, 1, none⟩ = some (.int .i64 a1_1) := (blk_cell BK164.out 1).trans rfl; have hcz12_2 : w9.cell? ⟨gb164, 2, none⟩ = some (.int .i64 a1_2) := (blk_cell BK164.out 2).trans rfl; have hcz12_3 : w9.cell? ⟨gb164, 3, none⟩ = some (.int .i64 a1_3) := (blk_cell BK164.out 3).trans rfl; have hcz12_4 : w9.cell? ⟨gb164, 4, none⟩ = some (.bool a1_4) := (blk_cell BK164.out 4).trans rfl; have hcz12_5 : w9.cell? ⟨gb164, 5, none⟩ = some (.bool a1_5) := (blk_cell BK164.out 5).trans rfl; have hcz12_6 : w9.cell? ⟨gb164, 6, none⟩ = some (.bool a1_6) := (blk_cell BK164.out 6).trans rfl; have hcz12_7 : w9.cell? ⟨gb164, 7, none⟩ = some (.bool a1_7) := (blk_cell BK164.out 7).trans rfl; have hfz12_0 := blk_frozen BK164.out 0; have hfz12_1 := blk_frozen BK164.out 1; have hfz12_2 := blk_frozen BK164.out 2; have hfz12_3 := blk_frozen BK164.out 3; have hfz12_4 := blk_frozen BK164.out 4; have hfz12_5 := blk_frozen BK164.out 5; have hfz12_6 := blk_frozen BK164.out 6; have hfz12_7 := blk_frozen BK164.out 7))
            go_ret
            exact ⟨by first | rfl | (simp [errW_none, errW_some] <;> rfl) | (simp [*, errW_none, errW_some] <;> rfl), by repeat (first | (with_reducible first | exact HB.out | apply below_alloc | apply pw_below_drewN | apply below_drew1 | refine below_set ?_ GE163.out | refine below_set ?_ GE164.out) | exact HB.out)⟩
          · rw [if_neg c7] at H
            have c7b0 : (a0_4 != a1_4) = false := by simpa using c7
            (try (have c7b1 : decide (a0_4 = a1_4) = true := by simpa using c7))
            (try (have c7b2 : (a0_4 == a1_4) = true := by simpa using c7))
            clear c7
            by_cases c13 : (a0_5 != a1_5) = true
            · rw [if_pos c13] at H
              have c13b0 : (a0_5 != a1_5) = true := c13
              (try (have c13b1 : decide (a0_5 = a1_5) = false := by simpa using c13))
              (try (have c13b2 : (a0_5 == a1_5) = false := by simpa using c13))
              (try (have c13b3 : ¬ (a0_5 = a1_5) := by simpa using c13))
              clear c13
              obtain rfl := Option.some.inj H
              go_enter Try.func26, Try.ntmps26
              go_wp2_with (first | ((with_reducible refine gate_dst (N := 2) rfl ?_); refine box_event ?hg (N := 2) ?hd (cs := #[.int .i64 a0_0, .int .i64 a0_1, .int .i64 a0_2, .int .i64 a0_3, .bool a0_4, .bool a0_5, .bool a0_6, .bool a0_7]) (t := 38) ?hr ?_; (case hd => rfl); (case hg => rfl); (case hr => first | (go_simp; done) | (go_simp; rfl)); intro gb163 hg w14 hbox hb; have n0_ := Aside0.mk (below_step (by repeat (first | (with_reducible first | exact HB.out | apply below_alloc | apply pw_below_drewN | apply below_drew1) | exact HB.out)) hb); have n1_ := Aside0.mk (hbox); have n2_ := Aside0.mk ((by rw [hg]; exact (below_size (by repeat (first | (with_reducible first | exact HB.out | apply below_alloc | apply pw_below_drewN | apply below_drew1) | exact HB.out))) : w.heap.size ≤ gb163)); have n3_ := Aside0.mk ((by rw [hg]; exact (below_size (by repeat (first | (with_reducible first | exact HB.out | apply below_alloc | apply pw_below_drewN | apply below_drew1) | exact HB.out))) : w.heap.size ≤ gb163)); clear HB; have HB := n0_; have BK163 := n1_; have GW163 := n2_; have GE163 := n3_; clear n0_ n1_ n2_ n3_; clear hb hbox hg) | ((with_reducible refine gate_dst (N := 3) rfl ?_); refine box_event ?hg (N := 3) ?hd (cs := #[.int .i64 a1_0, .int .i64 a1_1, .int .i64 a1_2, .int .i64 a1_3, .bool a1_4, .bool a1_5, .bool a1_6, .bool a1_7]) (t := 38) ?hr ?_; (case hd => rfl); (case hg => rfl); (case hr => first | (go_simp; done) | (go_simp; rfl)); intro gb164 hg w15 hbox hb; have n0_ := Aside0.mk (blk_below (g := gb163) (o := .cells #[.int .i64 a0_0, .int .i64 a0_1, .int .i64 a0_2, .int .i64 a0_3, .bool a0_4, .bool a0_5, .bool a0_6, .bool a0_7] 38 (0, 0)) (by (with_reducible repeat (first | refine blk_drewN ?_ _ | refine blk_drew ?_ | refine blk_alloc ?_ _)); exact BK163.out) hb); have n1_ := Aside0.mk (below_step (by repeat (first | (with_reducible first | exact HB.out | apply below_alloc | apply pw_below_drewN | apply below_drew1 | refine below_set ?_ GE163.out) | exact HB.out)) hb); have n2_ := Aside0.mk (hbox); have n3_ := Aside0.mk ((by rw [hg]; exact (below_size (by repeat (first | (with_reducible first | exact HB.out | apply below_alloc | apply pw_below_drewN | apply below_drew1 | refine below_set ?_ GE163.out) | exact HB.out))) : w.heap.size ≤ gb164)); have n4_ := Aside0.mk ((by rw [hg]; exact (below_size (by repeat (first | (with_reducible first | exact HB.out | apply below_alloc | apply pw_below_drewN | apply below_drew1 | refine below_set ?_ GE163.out) | exact HB.out))) : w.heap.size ≤ gb164)); have n5_ := Aside0.mk ((by rw [hg]; exact Nat.ne_of_lt (blk_lt (g := gb163) (o := .cells #[.int .i64 a0_0, .int .i64 a0_1, .int .i64 a0_2, .int .i64 a0_3, .bool a0_4, .bool a0_5, .bool a0_6, .bool a0_7] 38 (0, 0)) (by (with_reducible repeat (first | refine blk_drewN ?_ _ | refine blk_drew ?_ | refine blk_alloc ?_ _)); exact BK163.out)) : gb163 ≠ gb164)); have n6_ := Aside0.mk ((by rw [hg]; exact Nat.ne_of_gt (blk_lt (g := gb163) (o := .cells #[.int .i64 a0_0, .int .i64 a0_1, .int .i64 a0_2, .int .i64 a0_3, .bool a0_4, .bool a0_5, .bool a0_6, .bool a0_7] 38 (0, 0)) (by (with_reducible repeat (first | refine blk_drewN ?_ _ | refine blk_drew ?_ | refine blk_alloc ?_ _)); exact BK163.out)) : gb164 ≠ gb163)); clear BK163; clear HB; have BK163 := n0_; have HB := n1_; have BK164 := n2_; have GW164 := n3_; have GE164 := n4_; have NB163_164 := n5_; have NB164_163 := n6_; clear n0_ n1_ n2_ n3_ n4_ n5_ n6_; clear hb hbox hg; have hnb16 := NB163_164.out; have hnc16 := NB164_163.out; have hcz17_0 : w15.cell? ⟨gb163, 0, none⟩ = some (.int .i64 a0_0) := (blk_cell BK163.out 0).trans rfl; have hcz17_1 : w15.cell? ⟨gb163, 1, none⟩ = some (.int .i64 a0_1) := (blk_cell BK163.out 1).trans rfl; have hcz17_2 : w15.cell? ⟨gb163, 2, none⟩ = some (.int .i64 a0_2) := (blk_cell BK163.out 2).trans rfl; have hcz17_3 : w15.cell? ⟨gb163, 3, none⟩ = some (.int .i64 a0_3) := (blk_cell BK163.out 3).trans rfl; have hcz17_4 : w15.cell? ⟨gb163, 4, none⟩ = some (.bool a0_4) := (blk_cell BK163.out 4).trans rfl; have hcz17_5 : w15.cell? ⟨gb163, 5, none⟩ = some (.bool a0_5) := (blk_cell BK163.out 5).trans rfl; have hcz17_6 : w15.cell? ⟨gb163, 6, none⟩ = some (.bool a0_6) := (blk_cell BK163.out 6).trans rfl; have hcz17_7 : w15.cell? ⟨gb163, 7, none⟩ = some (.bool a0_7) := (blk_cell BK163.out 7).trans rfl; have hfz17_0 := blk_frozen BK163.out 0; have hfz17_1 := blk_frozen BK163.out 1; have hfz17_2 := blk_frozen BK163.out 2; have hfz17_3 := blk_frozen BK163.out 3; have hfz17_4 := blk_frozen BK163.out 4; have hfz17_5 := blk_frozen BK163.out 5; have hfz17_6 := blk_frozen BK163.out 6; have hfz17_7 := blk_frozen BK163.out 7; have hcz18_0 : w15.cell? ⟨gb164, 0, none⟩ = some (.int .i64 a1_0) := (blk_cell BK164.out 0).trans rfl; have hcz18_1 : w15.cell? ⟨gb164, 1, none⟩ = some (.int .i64 a1_1) := (blk_cell BK164.out 1).trans rfl; have hcz18_2 : w15.cell? ⟨gb164, 2, none⟩ = some (.int .i64 a1_2) := (blk_cell BK164.out 2).trans rfl; have hcz18_3 : w15.cell? ⟨gb164, 3, none⟩ = some (.int .i64 a1_3) := (blk_cell BK164.out 3).trans rfl; have hcz18_4 : w15.cell? ⟨gb164, 4, none⟩ = some (.bool a1_4) := (blk_cell BK164.out 4).trans rfl; have hcz18_5 : w15.cell? ⟨gb164, 5, none⟩ = some (.bool a1_5) := (blk_cell BK164.out 5).trans rfl; have hcz18_6 : w15.cell? ⟨gb164, 6, none⟩ = some (.bool a1_6) := (blk_cell BK164.out 6).trans rfl; have hcz18_7 : w15.cell? ⟨gb164, 7, none⟩ = some (.bool a1_7) := (blk_cell BK164.out 7).trans rfl; have hfz18_0 := blk_frozen BK164.out 0; have hfz18_1 := blk_frozen BK164.out 1; have hfz18_2 := blk_frozen BK164.out 2; have hfz18_3 := blk_frozen BK164.out 3; have hfz18_4 := blk_frozen BK164.out 4; have hfz18_5 := blk_frozen BK164.out 5; have hfz18_6 := blk_frozen BK164.out 6; have hfz18_7 := blk_frozen BK164.out 7))
              go_ret
              exact ⟨by first | rfl | (simp [errW_none, errW_some] <;> rfl) | (simp [*, errW_none, errW_some] <;> rfl), by repeat (first | (with_reducible first | exact HB.out | apply below_alloc | apply pw_below_drewN | apply below_drew1 | refine below_set ?_ GE163.out | refine below_set ?_ GE164.out) | exact HB.out)⟩
            · rw [if_neg c13] at H
              have c13b0 : (a0_5 != a1_5) = false := by simpa using c13
              (try (have c13b1 : decide (a0_5 = a1_5) = true := by simpa using c13))
              (try (have c13b2 : (a0_5 == a1_5) = true := by simpa using c13))
              clear c13
              by_cases c19 : (a0_6 != a1_6) = true
              · rw [if_pos c19] at H
                have c19b0 : (a0_6 != a1_6) = true := c19
                (try (have c19b1 : decide (a0_6 = a1_6) = false := by simpa using c19))
                (try (have c19b2 : (a0_6 == a1_6) = false := by simpa using c19))
                (try (have c19b3 : ¬ (a0_6 = a1_6) := by simpa using c19))
                clear c19
                obtain rfl := Option.some.inj H
                go_enter Try.func26, Try.ntmps26
                go_wp2_with (first | ((with_reducible refine gate_dst (N := 2) rfl ?_); refine box_event ?hg (N := 2) ?hd (cs := #[.int .i64 a0_0, .int .i64 a0_1, .int .i64 a0_2, .int .i64 a0_3, .bool a0_4, .bool a0_5, .bool a0_6, .bool a0_7]) (t := 38) ?hr ?_; (case hd => rfl); (case hg => rfl); (case hr => first | (go_simp; done) | (go_simp; rfl)); intro gb163 hg w20 hbox hb; have n0_ := Aside0.mk (below_step (by repeat (first | (with_reducible first | exact HB.out | apply below_alloc | apply pw_below_drewN | apply below_drew1) | exact HB.out)) hb); have n1_ := Aside0.mk (hbox); have n2_ := Aside0.mk ((by rw [hg]; exact (below_size (by repeat (first | (with_reducible first | exact HB.out | apply below_alloc | apply pw_below_drewN | apply below_drew1) | exact HB.out))) : w.heap.size ≤ gb163)); have n3_ := Aside0.mk ((by rw [hg]; exact (below_size (by repeat (first | (with_reducible first | exact HB.out | apply below_alloc | apply pw_below_drewN | apply below_drew1) | exact HB.out))) : w.heap.size ≤ gb163)); clear HB; have HB := n0_; have BK163 := n1_; have GW163 := n2_; have GE163 := n3_; clear n0_ n1_ n2_ n3_; clear hb hbox hg) | ((with_reducible refine gate_dst (N := 3) rfl ?_); refine box_event ?hg (N := 3) ?hd (cs := #[.int .i64 a1_0, .int .i64 a1_1, .int .i64 a1_2, .int .i64 a1_3, .bool a1_4, .bool a1_5, .bool a1_6, .bool a1_7]) (t := 38) ?hr ?_; (case hd => rfl); (case hg => rfl); (case hr => first | (go_simp; done) | (go_simp; rfl)); intro gb164 hg w21 hbox hb; have n0_ := Aside0.mk (blk_below (g := gb163) (o := .cells #[.int .i64 a0_0, .int .i64 a0_1, .int .i64 a0_2, .int .i64 a0_3, .bool a0_4, .bool a0_5, .bool a0_6, .bool a0_7] 38 (0, 0)) (by (with_reducible repeat (first | refine blk_drewN ?_ _ | refine blk_drew ?_ | refine blk_alloc ?_ _)); exact BK163.out) hb); have n1_ := Aside0.mk (below_step (by repeat (first | (with_reducible first | exact HB.out | apply below_alloc | apply pw_below_drewN | apply below_drew1 | refine below_set ?_ GE163.out) | exact HB.out)) hb); have n2_ := Aside0.mk (hbox); have n3_ := Aside0.mk ((by rw [hg]; exact (below_size (by repeat (first | (with_reducible first | exact HB.out | apply below_alloc | apply pw_below_drewN | apply below_drew1 | refine below_set ?_ GE163.out) | exact HB.out))) : w.heap.size ≤ gb164)); have n4_ := Aside0.mk ((by rw [hg]; exact (below_size (by repeat (first | (with_reducible first | exact HB.out | apply below_alloc | apply pw_below_drewN | apply below_drew1 | refine below_set ?_ GE163.out) | exact HB.out))) : w.heap.size ≤ gb164)); have n5_ := Aside0.mk ((by rw [hg]; exact Nat.ne_of_lt (blk_lt (g := gb163) (o := .cells #[.int .i64 a0_0, .int .i64 a0_1, .int .i64 a0_2, .int .i64 a0_3, .bool a0_4, .bool a0_5, .bool a0_6, .bool a0_7] 38 (0, 0)) (by (with_reducible repeat (first | refine blk_drewN ?_ _ | refine blk_drew ?_ | refine blk_alloc ?_ _)); exact BK163.out)) : gb163 ≠ gb164)); have n6_ := Aside0.mk ((by rw [hg]; exact Nat.ne_of_gt (blk_lt (g := gb163) (o := .cells #[.int .i64 a0_0, .int .i64 a0_1, .int .i64 a0_2, .int .i64 a0_3, .bool a0_4, .bool a0_5, .bool a0_6, .bool a0_7] 38 (0, 0)) (by (with_reducible repeat (first | refine blk_drewN ?_ _ | refine blk_drew ?_ | refine blk_alloc ?_ _)); exact BK163.out)) : gb164 ≠ gb163)); clear BK163; clear HB; have BK163 := n0_; have HB := n1_; have BK164 := n2_; have GW164 := n3_; have GE164 := n4_; have NB163_164 := n5_; have NB164_163 := n6_; clear n0_ n1_ n2_ n3_ n4_ n5_ n6_; clear hb hbox hg; have hnb22 := NB163_164.out; have hnc22 := NB164_163.out; have hcz23_0 : w21.cell? ⟨gb163, 0, none⟩ = some (.int .i64 a0_0) := (blk_cell BK163.out 0).trans rfl; have hcz23_1 : w21.cell? ⟨gb163, 1, none⟩ = some (.int .i64 a0_1) := (blk_cell BK163.out 1).trans rfl; have hcz23_2 : w21.cell? ⟨gb163, 2, none⟩ = some (.int .i64 a0_2) := (blk_cell BK163.out 2).trans rfl; have hcz23_3 : w21.cell? ⟨gb163, 3, none⟩ = some (.int .i64 a0_3) := (blk_cell BK163.out 3).trans rfl; have hcz23_4 : w21.cell? ⟨gb163, 4, none⟩ = some (.bool a0_4) := (blk_cell BK163.out 4).trans rfl; have hcz23_5 : w21.cell? ⟨gb163, 5, none⟩ = some (.bool a0_5) := (blk_cell BK163.out 5).trans rfl; have hcz23_6 : w21.cell? ⟨gb163, 6, none⟩ = some (.bool a0_6) := (blk_cell BK163.out 6).trans rfl; have hcz23_7 : w21.cell? ⟨gb163, 7, none⟩ = some (.bool a0_7) := (blk_cell BK163.out 7).trans rfl; have hfz23_0 := blk_frozen BK163.out 0; have hfz23_1 := blk_frozen BK163.out 1; have hfz23_2 := blk_frozen BK163.out 2; have hfz23_3 := blk_frozen BK163.out 3; have hfz23_4 := blk_frozen BK163.out 4; have hfz23_5 := blk_frozen BK163.out 5; have hfz23_6 := blk_frozen BK163.out 6; have hfz23_7 := blk_frozen BK163.out 7; have hcz24_0 : w21.cell? ⟨gb164, 0, none⟩ = some (.int .i64 a1_0) := (blk_cell BK164.out 0).trans rfl; have hcz24_1 : w21.cell? ⟨gb164, 1, none⟩ = some (.int .i64 a1_1) := (blk_cell BK164.out 1).trans rfl; have hcz24_2 : w21.cell? ⟨gb164, 2, none⟩ = some (.int .i64 a1_2) := (blk_cell BK164.out 2).trans rfl; have hcz24_3 : w21.cell? ⟨gb164, 3, none⟩ = some (.int .i64 a1_3) := (blk_cell BK164.out 3).trans rfl; have hcz24_4 : w21.cell? ⟨gb164, 4, none⟩ = some (.bool a1_4) := (blk_cell BK164.out 4).trans rfl; have hcz24_5 : w21.cell? ⟨gb164, 5, none⟩ = some (.bool a1_5) := (blk_cell BK164.out 5).trans rfl; have hcz24_6 : w21.cell? ⟨gb164, 6, none⟩ = some (.bool a1_6) := (blk_cell BK164.out 6).trans rfl; have hcz24_7 : w21.cell? ⟨gb164, 7, none⟩ = some (.bool a1_7) := (blk_cell BK164.out 7).trans rfl; have hfz24_0 := blk_frozen BK164.out 0; have hfz24_1 := blk_frozen BK164.out 1; have hfz24_2 := blk_frozen BK164.out 2; have hfz24_3 := blk_frozen BK164.out 3; have hfz24_4 := blk_frozen BK164.out 4; have hfz24_5 := blk_frozen BK164.out 5; have hfz24_6 := blk_frozen BK164.out 6; have hfz24_7 := blk_frozen BK164.out 7))
                go_ret
                exact ⟨by first | rfl | (simp [errW_none, errW_some] <;> rfl) | (simp [*, errW_none, errW_some] <;> rfl), by repeat (first | (with_reducible first | exact HB.out | apply below_alloc | apply pw_below_drewN | apply below_drew1 | refine below_set ?_ GE163.out | refine below_set ?_ GE164.out) | exact HB.out)⟩
              · rw [if_neg c19] at H
                have c19b0 : (a0_6 != a1_6) = false := by simpa using c19
                (try (have c19b1 : decide (a0_6 = a1_6) = true := by simpa using c19))
                (try (have c19b2 : (a0_6 == a1_6) = true := by simpa using c19))
                clear c19
                by_cases c25 : (a0_7 != a1_7) = true
                · rw [if_pos c25] at H
                  have c25b0 : (a0_7 != a1_7) = true := c25
                  (try (have c25b1 : decide (a0_7 = a1_7) = false := by simpa using c25))
                  (try (have c25b2 : (a0_7 == a1_7) = false := by simpa using c25))
                  (try (have c25b3 : ¬ (a0_7 = a1_7) := by simpa using c25))
                  clear c25
                  obtain rfl := Option.some.inj H
                  go_enter Try.func26, Try.ntmps26
                  go_wp2_with (first | ((with_reducible refine gate_dst (N := 2) rfl ?_); refine box_event ?hg (N := 2) ?hd (cs := #[.int .i64 a0_0, .int .i64 a0_1, .int .i64 a0_2, .int .i64 a0_3, .bool a0_4, .bool a0_5, .bool a0_6, .bool a0_7]) (t := 38) ?hr ?_; (case hd => rfl); (case hg => rfl); (case hr => first | (go_simp; done) | (go_simp; rfl)); intro gb163 hg w26 hbox hb; have n0_ := Aside0.mk (below_step (by repeat (first | (with_reducible first | exact HB.out | apply below_alloc | apply pw_below_drewN | apply below_drew1) | exact HB.out)) hb); have n1_ := Aside0.mk (hbox); have n2_ := Aside0.mk ((by rw [hg]; exact (below_size (by repeat (first | (with_reducible first | exact HB.out | apply below_alloc | apply pw_below_drewN | apply below_drew1) | exact HB.out))) : w.heap.size ≤ gb163)); have n3_ := Aside0.mk ((by rw [hg]; exact (below_size (by repeat (first | (with_reducible first | exact HB.out | apply below_alloc | apply pw_below_drewN | apply below_drew1) | exact HB.out))) : w.heap.size ≤ gb163)); clear HB; have HB := n0_; have BK163 := n1_; have GW163 := n2_; have GE163 := n3_; clear n0_ n1_ n2_ n3_; clear hb hbox hg) | ((with_reducible refine gate_dst (N := 3) rfl ?_); refine box_event ?hg (N := 3) ?hd (cs := #[.int .i64 a1_0, .int .i64 a1_1, .int .i64 a1_2, .int .i64 a1_3, .bool a1_4, .bool a1_5, .bool a1_6, .bool a1_7]) (t := 38) ?hr ?_; (case hd => rfl); (case hg => rfl); (case hr => first | (go_simp; done) | (go_simp; rfl)); intro gb164 hg w27 hbox hb; have n0_ := Aside0.mk (blk_below (g := gb163) (o := .cells #[.int .i64 a0_0, .int .i64 a0_1, .int .i64 a0_2, .int .i64 a0_3, .bool a0_4, .bool a0_5, .bool a0_6, .bool a0_7] 38 (0, 0)) (by (with_reducible repeat (first | refine blk_drewN ?_ _ | refine blk_drew ?_ | refine blk_alloc ?_ _)); exact BK163.out) hb); have n1_ := Aside0.mk (below_step (by repeat (first | (with_reducible first | exact HB.out | apply below_alloc | apply pw_below_drewN | apply below_drew1 | refine below_set ?_ GE163.out) | exact HB.out)) hb); have n2_ := Aside0.mk (hbox); have n3_ := Aside0.mk ((by rw [hg]; exact (below_size (by repeat (first | (with_reducible first | exact HB.out | apply below_alloc | apply pw_below_drewN | apply below_drew1 | refine below_set ?_ GE163.out) | exact HB.out))) : w.heap.size ≤ gb164)); have n4_ := Aside0.mk ((by rw [hg]; exact (below_size (by repeat (first | (with_reducible first | exact HB.out | apply below_alloc | apply pw_below_drewN | apply below_drew1 | refine below_set ?_ GE163.out) | exact HB.out))) : w.heap.size ≤ gb164)); have n5_ := Aside0.mk ((by rw [hg]; exact Nat.ne_of_lt (blk_lt (g := gb163) (o := .cells #[.int .i64 a0_0, .int .i64 a0_1, .int .i64 a0_2, .int .i64 a0_3, .bool a0_4, .bool a0_5, .bool a0_6, .bool a0_7] 38 (0, 0)) (by (with_reducible repeat (first | refine blk_drewN ?_ _ | refine blk_drew ?_ | refine blk_alloc ?_ _)); exact BK163.out)) : gb163 ≠ gb164)); have n6_ := Aside0.mk ((by rw [hg]; exact Nat.ne_of_gt (blk_lt (g := gb163) (o := .cells #[.int .i64 a0_0, .int .i64 a0_1, .int .i64 a0_2, .int .i64 a0_3, .bool a0_4, .bool a0_5, .bool a0_6, .bool a0_7] 38 (0, 0)) (by (with_reducible repeat (first | refine blk_drewN ?_ _ | refine blk_drew ?_ | refine blk_alloc ?_ _)); exact BK163.out)) : gb164 ≠ gb163)); clear BK163; clear HB; have BK163 := n0_; have HB := n1_; have BK164 := n2_; have GW164 := n3_; have GE164 := n4_; have NB163_164 := n5_; have NB164_163 := n6_; clear n0_ n1_ n2_ n3_ n4_ n5_ n6_; clear hb hbox hg; have hnb28 := NB163_164.out; have hnc28 := NB164_163.out; have hcz29_0 : w27.cell? ⟨gb163, 0, none⟩ = some (.int .i64 a0_0) := (blk_cell BK163.out 0).trans rfl; have hcz29_1 : w27.cell? ⟨gb163, 1, none⟩ = some (.int .i64 a0_1) := (blk_cell BK163.out 1).trans rfl; have hcz29_2 : w27.cell? ⟨gb163, 2, none⟩ = some (.int .i64 a0_2) := (blk_cell BK163.out 2).trans rfl; have hcz29_3 : w27.cell? ⟨gb163, 3, none⟩ = some (.int .i64 a0_3) := (blk_cell BK163.out 3).trans rfl; have hcz29_4 : w27.cell? ⟨gb163, 4, none⟩ = some (.bool a0_4) := (blk_cell BK163.out 4).trans rfl; have hcz29_5 : w27.cell? ⟨gb163, 5, none⟩ = some (.bool a0_5) := (blk_cell BK163.out 5).trans rfl; have hcz29_6 : w27.cell? ⟨gb163, 6, none⟩ = some (.bool a0_6) := (blk_cell BK163.out 6).trans rfl; have hcz29_7 : w27.cell? ⟨gb163, 7, none⟩ = some (.bool a0_7) := (blk_cell BK163.out 7).trans rfl; have hfz29_0 := blk_frozen BK163.out 0; have hfz29_1 := blk_frozen BK163.out 1; have hfz29_2 := blk_frozen BK163.out 2; have hfz29_3 := blk_frozen BK163.out 3; have hfz29_4 := blk_frozen BK163.out 4; have hfz29_5 := blk_frozen BK163.out 5; have hfz29_6 := blk_frozen BK163.out 6; have hfz29_7 := blk_frozen BK163.out 7; have hcz30_0 : w27.cell? ⟨gb164, 0, none⟩ = some (.int .i64 a1_0) := (blk_cell BK164.out 0).trans rfl; have hcz30_1 : w27.cell? ⟨gb164, 1, none⟩ = some (.int .i64 a1_1) := (blk_cell BK164.out 1).trans rfl; have hcz30_2 : w27.cell? ⟨gb164, 2, none⟩ = some (.int .i64 a1_2) := (blk_cell BK164.out 2).trans rfl; have hcz30_3 : w27.cell? ⟨gb164, 3, none⟩ = some (.int .i64 a1_3) := (blk_cell BK164.out 3).trans rfl; have hcz30_4 : w27.cell? ⟨gb164, 4, none⟩ = some (.bool a1_4) := (blk_cell BK164.out 4).trans rfl; have hcz30_5 : w27.cell? ⟨gb164, 5, none⟩ = some (.bool a1_5) := (blk_cell BK164.out 5).trans rfl; have hcz30_6 : w27.cell? ⟨gb164, 6, none⟩ = some (.bool a1_6) := (blk_cell BK164.out 6).trans rfl; have hcz30_7 : w27.cell? ⟨gb164, 7, none⟩ = some (.bool a1_7) := (blk_cell BK164.out 7).trans rfl; have hfz30_0 := blk_frozen BK164.out 0; have hfz30_1 := blk_frozen BK164.out 1; have hfz30_2 := blk_frozen BK164.out 2; have hfz30_3 := blk_frozen BK164.out 3; have hfz30_4 := blk_frozen BK164.out 4; have hfz30_5 := blk_frozen BK164.out 5; have hfz30_6 := blk_frozen BK164.out 6; have hfz30_7 := blk_frozen BK164.out 7))
                  go_ret
                  exact ⟨by first | rfl | (simp [errW_none, errW_some] <;> rfl) | (simp [*, errW_none, errW_some] <;> rfl), by repeat (first | (with_reducible first | exact HB.out | apply below_alloc | apply pw_below_drewN | apply below_drew1 | refine below_set ?_ GE163.out | refine below_set ?_ GE164.out) | exact HB.out)⟩
                · rw [if_neg c25] at H
                  have c25b0 : (a0_7 != a1_7) = false := by simpa using c25
                  (try (have c25b1 : decide (a0_7 = a1_7) = true := by simpa using c25))
                  (try (have c25b2 : (a0_7 == a1_7) = true := by simpa using c25))
                  clear c25
                  obtain rfl := Option.some.inj H
                  go_enter Try.func26, Try.ntmps26
                  go_wp2_with (first | ((with_reducible refine gate_dst (N := 2) rfl ?_); refine box_event ?hg (N := 2) ?hd (cs := #[.int .i64 a0_0, .int .i64 a0_1, .int .i64 a0_2, .int .i64 a0_3, .bool a0_4, .bool a0_5, .bool a0_6, .bool a0_7]) (t := 38) ?hr ?_; (case hd => rfl); (case hg => rfl); (case hr => first | (go_simp; done) | (go_simp; rfl)); intro gb163 hg w31 hbox hb; have n0_ := Aside0.mk (below_step (by repeat (first | (with_reducible first | exact HB.out | apply below_alloc | apply pw_below_drewN | apply below_drew1) | exact HB.out)) hb); have n1_ := Aside0.mk (hbox); have n2_ := Aside0.mk ((by rw [hg]; exact (below_size (by repeat (first | (with_reducible first | exact HB.out | apply below_alloc | apply pw_below_drewN | apply below_drew1) | exact HB.out))) : w.heap.size ≤ gb163)); have n3_ := Aside0.mk ((by rw [hg]; exact (below_size (by repeat (first | (with_reducible first | exact HB.out | apply below_alloc | apply pw_below_drewN | apply below_drew1) | exact HB.out))) : w.heap.size ≤ gb163)); clear HB; have HB := n0_; have BK163 := n1_; have GW163 := n2_; have GE163 := n3_; clear n0_ n1_ n2_ n3_; clear hb hbox hg) | ((with_reducible refine gate_dst (N := 3) rfl ?_); refine box_event ?hg (N := 3) ?hd (cs := #[.int .i64 a1_0, .int .i64 a1_1, .int .i64 a1_2, .int .i64 a1_3, .bool a1_4, .bool a1_5, .bool a1_6, .bool a1_7]) (t := 38) ?hr ?_; (case hd => rfl); (case hg => rfl); (case hr => first | (go_simp; done) | (go_simp; rfl)); intro gb164 hg w32 hbox hb; have n0_ := Aside0.mk (blk_below (g := gb163) (o := .cells #[.int .i64 a0_0, .int .i64 a0_1, .int .i64 a0_2, .int .i64 a0_3, .bool a0_4, .bool a0_5, .bool a0_6, .bool a0_7] 38 (0, 0)) (by (with_reducible repeat (first | refine blk_drewN ?_ _ | refine blk_drew ?_ | refine blk_alloc ?_ _)); exact BK163.out) hb); have n1_ := Aside0.mk (below_step (by repeat (first | (with_reducible first | exact HB.out | apply below_alloc | apply pw_below_drewN | apply below_drew1 | refine below_set ?_ GE163.out) | exact HB.out)) hb); have n2_ := Aside0.mk (hbox); have n3_ := Aside0.mk ((by rw [hg]; exact (below_size (by repeat (first | (with_reducible first | exact HB.out | apply below_alloc | apply pw_below_drewN | apply below_drew1 | refine below_set ?_ GE163.out) | exact HB.out))) : w.heap.size ≤ gb164)); have n4_ := Aside0.mk ((by rw [hg]; exact (below_size (by repeat (first | (with_reducible first | exact HB.out | apply below_alloc | apply pw_below_drewN | apply below_drew1 | refine below_set ?_ GE163.out) | exact HB.out))) : w.heap.size ≤ gb164)); have n5_ := Aside0.mk ((by rw [hg]; exact Nat.ne_of_lt (blk_lt (g := gb163) (o := .cells #[.int .i64 a0_0, .int .i64 a0_1, .int .i64 a0_2, .int .i64 a0_3, .bool a0_4, .bool a0_5, .bool a0_6, .bool a0_7] 38 (0, 0)) (by (with_reducible repeat (first | refine blk_drewN ?_ _ | refine blk_drew ?_ | refine blk_alloc ?_ _)); exact BK163.out)) : gb163 ≠ gb164)); have n6_ := Aside0.mk ((by rw [hg]; exact Nat.ne_of_gt (blk_lt (g := gb163) (o := .cells #[.int .i64 a0_0, .int .i64 a0_1, .int .i64 a0_2, .int .i64 a0_3, .bool a0_4, .bool a0_5, .bool a0_6, .bool a0_7] 38 (0, 0)) (by (with_reducible repeat (first | refine blk_drewN ?_ _ | refine blk_drew ?_ | refine blk_alloc ?_ _)); exact BK163.out)) : gb164 ≠ gb163)); clear BK163; clear HB; have BK163 := n0_; have HB := n1_; have BK164 := n2_; have GW164 := n3_; have GE164 := n4_; have NB163_164 := n5_; have NB164_163 := n6_; clear n0_ n1_ n2_ n3_ n4_ n5_ n6_; clear hb hbox hg; have hnb33 := NB163_164.out; have hnc33 := NB164_163.out; have hcz34_0 : w32.cell? ⟨gb163, 0, none⟩ = some (.int .i64 a0_0) := (blk_cell BK163.out 0).trans rfl; have hcz34_1 : w32.cell? ⟨gb163, 1, none⟩ = some (.int .i64 a0_1) := (blk_cell BK163.out 1).trans rfl; have hcz34_2 : w32.cell? ⟨gb163, 2, none⟩ = some (.int .i64 a0_2) := (blk_cell BK163.out 2).trans rfl; have hcz34_3 : w32.cell? ⟨gb163, 3, none⟩ = some (.int .i64 a0_3) := (blk_cell BK163.out 3).trans rfl; have hcz34_4 : w32.cell? ⟨gb163, 4, none⟩ = some (.bool a0_4) := (blk_cell BK163.out 4).trans rfl; have hcz34_5 : w32.cell? ⟨gb163, 5, none⟩ = some (.bool a0_5) := (blk_cell BK163.out 5).trans rfl; have hcz34_6 : w32.cell? ⟨gb163, 6, none⟩ = some (.bool a0_6) := (blk_cell BK163.out 6).trans rfl; have hcz34_7 : w32.cell? ⟨gb163, 7, none⟩ = some (.bool a0_7) := (blk_cell BK163.out 7).trans rfl; have hfz34_0 := blk_frozen BK163.out 0; have hfz34_1 := blk_frozen BK163.out 1; have hfz34_2 := blk_frozen BK163.out 2; have hfz34_3 := blk_frozen BK163.out 3; have hfz34_4 := blk_frozen BK163.out 4; have hfz34_5 := blk_frozen BK163.out 5; have hfz34_6 := blk_frozen BK163.out 6; have hfz34_7 := blk_frozen BK163.out 7; have hcz35_0 : w32.cell? ⟨gb164, 0, none⟩ = some (.int .i64 a1_0) := (blk_cell BK164.out 0).trans rfl; have hcz35_1 : w32.cell? ⟨gb164, 1, none⟩ = some (.int .i64 a1_1) := (blk_cell BK164.out 1).trans rfl; have hcz35_2 : w32.cell? ⟨gb164, 2, none⟩ = some (.int .i64 a1_2) := (blk_cell BK164.out 2).trans rfl; have hcz35_3 : w32.cell? ⟨gb164, 3, none⟩ = some (.int .i64 a1_3) := (blk_cell BK164.out 3).trans rfl; have hcz35_4 : w32.cell? ⟨gb164, 4, none⟩ = some (.bool a1_4) := (blk_cell BK164.out 4).trans rfl; have hcz35_5 : w32.cell? ⟨gb164, 5, none⟩ = some (.bool a1_5) := (blk_cell BK164.out 5).trans rfl; have hcz35_6 : w32.cell? ⟨gb164, 6, none⟩ = some (.bool a1_6) := (blk_cell BK164.out 6).trans rfl; have hcz35_7 : w32.cell? ⟨gb164, 7, none⟩ = some (.bool a1_7) := (blk_cell BK164.out 7).trans rfl; have hfz35_0 := blk_frozen BK164.out 0; have hfz35_1 := blk_frozen BK164.out 1; have hfz35_2 := blk_frozen BK164.out 2; have hfz35_3 := blk_frozen BK164.out 3; have hfz35_4 := blk_frozen BK164.out 4; have hfz35_5 := blk_frozen BK164.out 5; have hfz35_6 := blk_frozen BK164.out 6; have hfz35_7 := blk_frozen BK164.out 7))
                  go_ret
                  exact ⟨by first | rfl | (simp [errW_none, errW_some] <;> rfl) | (simp [*, errW_none, errW_some] <;> rfl), by repeat (first | (with_reducible first | exact HB.out | apply below_alloc | apply pw_below_drewN | apply below_drew1 | refine below_set ?_ GE163.out | refine below_set ?_ GE164.out) | exact HB.out)⟩
        · rw [if_neg c6] at H
          have c6b0 : (a0_3 == a1_3) = false := beq_eq_false_iff_ne.mpr c6
          have c6b1 : (a0_3 != a1_3) = true := bne_iff_ne.mpr c6
          obtain rfl := Option.some.inj H
          go_enter Try.func26, Try.ntmps26
          go_wp2_with (first | ((with_reducible refine gate_dst (N := 2) rfl ?_); refine box_event ?hg (N := 2) ?hd (cs := #[.int .i64 a0_0, .int .i64 a0_1, .int .i64 a0_2, .int .i64 a0_3, .bool a0_4, .bool a0_5, .bool a0_6, .bool a0_7]) (t := 38) ?hr ?_; (case hd => rfl); (case hg => rfl); (case hr => first | (go_simp; done) | (go_simp; rfl)); intro gb163 hg w36 hbox hb; have n0_ := Aside0.mk (below_step (by repeat (first | (with_reducible first | exact HB.out | apply below_alloc | apply pw_below_drewN | apply below_drew1) | exact HB.out)) hb); have n1_ := Aside0.mk (hbox); have n2_ := Aside0.mk ((by rw [hg]; exact (below_size (by repeat (first | (with_reducible first | exact HB.out | apply below_alloc | apply pw_below_drewN | apply below_drew1) | exact HB.out))) : w.heap.size ≤ gb163)); have n3_ := Aside0.mk ((by rw [hg]; exact (below_size (by repeat (first | (with_reducible first | exact HB.out | apply below_alloc | apply pw_below_drewN | apply below_drew1) | exact HB.out))) : w.heap.size ≤ gb163)); clear HB; have HB := n0_; have BK163 := n1_; have GW163 := n2_; have GE163 := n3_; clear n0_ n1_ n2_ n3_; clear hb hbox hg) | ((with_reducible refine gate_dst (N := 3) rfl ?_); refine box_event ?hg (N := 3) ?hd (cs := #[.int .i64 a1_0, .int .i64 a1_1, .int .i64 a1_2, .int .i64 a1_3, .bool a1_4, .bool a1_5, .bool a1_6, .bool a1_7]) (t := 38) ?hr ?_; (case hd => rfl); (case hg => rfl); (case hr => first | (go_simp; done) | (go_simp; rfl)); intro gb164 hg w37 hbox hb; have n0_ := Aside0.mk (blk_below (g := gb163) (o := .cells #[.int .i64 a0_0, .int .i64 a0_1, .int .i64 a0_2, .int .i64 a0_3, .bool a0_4, .bool a0_5, .bool a0_6, .bool a0_7] 38 (0, 0)) (by (with_reducible repeat (first | refine blk_drewN ?_ _ | refine blk_drew ?_ | refine blk_alloc ?_ _)); exact BK163.out) hb); have n1_ := Aside0.mk (below_step (by repeat (first | (with_reducible first | exact HB.out | apply below_alloc | apply pw_below_drewN | apply below_drew1 | refine below_set ?_ GE163.out) | exact HB.out)) hb); have n2_ := Aside0.mk (hbox); have n3_ := Aside0.mk ((by rw [hg]; exact (below_size (by repeat (first | (with_reducible first | exact HB.out | apply below_alloc | apply pw_below_drewN | apply below_drew1 | refine below_set ?_ GE163.out) | exact HB.out))) : w.heap.size ≤ gb164)); have n4_ := Aside0.mk ((by rw [hg]; exact (below_size (by repeat (first | (with_reducible first | exact HB.out | apply below_alloc | apply pw_below_drewN | apply below_drew1 | refine below_set ?_ GE163.out) | exact HB.out))) : w.heap.size ≤ gb164)); have n5_ := Aside0.mk ((by rw [hg]; exact Nat.ne_of_lt (blk_lt (g := gb163) (o := .cells #[.int .i64 a0_0, .int .i64 a0_1, .int .i64 a0_2, .int .i64 a0_3, .bool a0_4, .bool a0_5, .bool a0_6, .bool a0_7] 38 (0, 0)) (by (with_reducible repeat (first | refine blk_drewN ?_ _ | refine blk_drew ?_ | refine blk_alloc ?_ _)); exact BK163.out)) : gb163 ≠ gb164)); have n6_ := Aside0.mk ((by rw [hg]; exact Nat.ne_of_gt (blk_lt (g := gb163) (o := .cells #[.int .i64 a0_0, .int .i64 a0_1, .int .i64 a0_2, .int .i64 a0_3, .bool a0_4, .bool a0_5, .bool a0_6, .bool a0_7] 38 (0, 0)) (by (with_reducible repeat (first | refine blk_drewN ?_ _ | refine blk_drew ?_ | refine blk_alloc ?_ _)); exact BK163.out)) : gb164 ≠ gb163)); clear BK163; clear HB; have BK163 := n0_; have HB := n1_; have BK164 := n2_; have GW164 := n3_; have GE164 := n4_; have NB163_164 := n5_; have NB164_163 := n6_; clear n0_ n1_ n2_ n3_ n4_ n5_ n6_; clear hb hbox hg; have hnb38 := NB163_164.out; have hnc38 := NB164_163.out; have hcz39_0 : w37.cell? ⟨gb163, 0, none⟩ = some (.int .i64 a0_0) := (blk_cell BK163.out 0).trans rfl; have hcz39_1 : w37.cell? ⟨gb163, 1, none⟩ = some (.int .i64 a0_1) := (blk_cell BK163.out 1).trans rfl; have hcz39_2 : w37.cell? ⟨gb163, 2, none⟩ = some (.int .i64 a0_2) := (blk_cell BK163.out 2).trans rfl; have hcz39_3 : w37.cell? ⟨gb163, 3, none⟩ = some (.int .i64 a0_3) := (blk_cell BK163.out 3).trans rfl; have hcz39_4 : w37.cell? ⟨gb163, 4, none⟩ = some (.bool a0_4) := (blk_cell BK163.out 4).trans rfl; have hcz39_5 : w37.cell? ⟨gb163, 5, none⟩ = some (.bool a0_5) := (blk_cell BK163.out 5).trans rfl; have hcz39_6 : w37.cell? ⟨gb163, 6, none⟩ = some (.bool a0_6) := (blk_cell BK163.out 6).trans rfl; have hcz39_7 : w37.cell? ⟨gb163, 7, none⟩ = some (.bool a0_7) := (blk_cell BK163.out 7).trans rfl; have hfz39_0 := blk_frozen BK163.out 0; have hfz39_1 := blk_frozen BK163.out 1; have hfz39_2 := blk_frozen BK163.out 2; have hfz39_3 := blk_frozen BK163.out 3; have hfz39_4 := blk_frozen BK163.out 4; have hfz39_5 := blk_frozen BK163.out 5; have hfz39_6 := blk_frozen BK163.out 6; have hfz39_7 := blk_frozen BK163.out 7; have hcz40_0 : w37.cell? ⟨gb164, 0, none⟩ = some (.int .i64 a1_0) := (blk_cell BK164.out 0).trans rfl; have hcz40_1 : w37.cell? ⟨gb164, 1, none⟩ = some (.int .i64 a1_1) := (blk_cell BK164.out 1).trans rfl; have hcz40_2 : w37.cell? ⟨gb164, 2, none⟩ = some (.int .i64 a1_2) := (blk_cell BK164.out 2).trans rfl; have hcz40_3 : w37.cell? ⟨gb164, 3, none⟩ = some (.int .i64 a1_3) := (blk_cell BK164.out 3).trans rfl; have hcz40_4 : w37.cell? ⟨gb164, 4, none⟩ = some (.bool a1_4) := (blk_cell BK164.out 4).trans rfl; have hcz40_5 : w37.cell? ⟨gb164, 5, none⟩ = some (.bool a1_5) := (blk_cell BK164.out 5).trans rfl; have hcz40_6 : w37.cell? ⟨gb164, 6, none⟩ = some (.bool a1_6) := (blk_cell BK164.out 6).trans rfl; have hcz40_7 : w37.cell? ⟨gb164, 7, none⟩ = some (.bool a1_7) := (blk_cell BK164.out 7).trans rfl; have hfz40_0 := blk_frozen BK164.out 0; have hfz40_1 := blk_frozen BK164.out 1; have hfz40_2 := blk_frozen BK164.out 2; have hfz40_3 := blk_frozen BK164.out 3; have hfz40_4 := blk_frozen BK164.out 4; have hfz40_5 := blk_frozen BK164.out 5; have hfz40_6 := blk_frozen BK164.out 6; have hfz40_7 := blk_frozen BK164.out 7))
          go_ret
          exact ⟨by first | rfl | (simp [errW_none, errW_some] <;> rfl) | (simp [*, errW_none, errW_some] <;> rfl), by repeat (first | (with_reducible first | exact HB.out | apply below_alloc | apply pw_below_drewN | apply below_drew1 | refine below_set ?_ GE163.out | refine below_set ?_ GE164.out) | exact HB.out)⟩
      · rw [if_neg c5] at H
        have c5b0 : (a0_2 == a1_2) = false := beq_eq_false_iff_ne.mpr c5
        have c5b1 : (a0_2 != a1_2) = true := bne_iff_ne.mpr c5
        obtain rfl := Option.some.inj H
        go_enter Try.func26, Try.ntmps26
        go_wp2_with (first | ((with_reducible refine gate_dst (N := 2) rfl ?_); refine box_event ?hg (N := 2) ?hd (cs := #[.int .i64 a0_0, .int .i64 a0_1, .int .i64 a0_2, .int .i64 a0_3, .bool a0_4, .bool a0_5, .bool a0_6, .bool a0_7]) (t := 38) ?hr ?_; (case hd => rfl); (case hg => rfl); (case hr => first | (go_simp; done) | (go_simp; rfl)); intro gb163 hg w41 hbox hb; have n0_ := Aside0.mk (below_step (by repeat (first | (with_reducible first | exact HB.out | apply below_alloc | apply pw_below_drewN | apply below_drew1) | exact HB.out)) hb); have n1_ := Aside0.mk (hbox); have n2_ := Aside0.mk ((by rw [hg]; exact (below_size (by repeat (first | (with_reducible first | exact HB.out | apply below_alloc | apply pw_below_drewN | apply below_drew1) | exact HB.out))) : w.heap.size ≤ gb163)); have n3_ := Aside0.mk ((by rw [hg]; exact (below_size (by repeat (first | (with_reducible first | exact HB.out | apply below_alloc | apply pw_below_drewN | apply below_drew1) | exact HB.out))) : w.heap.size ≤ gb163)); clear HB; have HB := n0_; have BK163 := n1_; have GW163 := n2_; have GE163 := n3_; clear n0_ n1_ n2_ n3_; clear hb hbox hg) | ((with_reducible refine gate_dst (N := 3) rfl ?_); refine box_event ?hg (N := 3) ?hd (cs := #[.int .i64 a1_0, .int .i64 a1_1, .int .i64 a1_2, .int .i64 a1_3, .bool a1_4, .bool a1_5, .bool a1_6, .bool a1_7]) (t := 38) ?hr ?_; (case hd => rfl); (case hg => rfl); (case hr => first | (go_simp; done) | (go_simp; rfl)); intro gb164 hg w42 hbox hb; have n0_ := Aside0.mk (blk_below (g := gb163) (o := .cells #[.int .i64 a0_0, .int .i64 a0_1, .int .i64 a0_2, .int .i64 a0_3, .bool a0_4, .bool a0_5, .bool a0_6, .bool a0_7] 38 (0, 0)) (by (with_reducible repeat (first | refine blk_drewN ?_ _ | refine blk_drew ?_ | refine blk_alloc ?_ _)); exact BK163.out) hb); have n1_ := Aside0.mk (below_step (by repeat (first | (with_reducible first | exact HB.out | apply below_alloc | apply pw_below_drewN | apply below_drew1 | refine below_set ?_ GE163.out) | exact HB.out)) hb); have n2_ := Aside0.mk (hbox); have n3_ := Aside0.mk ((by rw [hg]; exact (below_size (by repeat (first | (with_reducible first | exact HB.out | apply below_alloc | apply pw_below_drewN | apply below_drew1 | refine below_set ?_ GE163.out) | exact HB.out))) : w.heap.size ≤ gb164)); have n4_ := Aside0.mk ((by rw [hg]; exact (below_size (by repeat (first | (with_reducible first | exact HB.out | apply below_alloc | apply pw_below_drewN | apply below_drew1 | refine below_set ?_ GE163.out) | exact HB.out))) : w.heap.size ≤ gb164)); have n5_ := Aside0.mk ((by rw [hg]; exact Nat.ne_of_lt (blk_lt (g := gb163) (o := .cells #[.int .i64 a0_0, .int .i64 a0_1, .int .i64 a0_2, .int .i64 a0_3, .bool a0_4, .bool a0_5, .bool a0_6, .bool a0_7] 38 (0, 0)) (by (with_reducible repeat (first | refine blk_drewN ?_ _ | refine blk_drew ?_ | refine blk_alloc ?_ _)); exact BK163.out)) : gb163 ≠ gb164)); have n6_ := Aside0.mk ((by rw [hg]; exact Nat.ne_of_gt (blk_lt (g := gb163) (o := .cells #[.int .i64 a0_0, .int .i64 a0_1, .int .i64 a0_2, .int .i64 a0_3, .bool a0_4, .bool a0_5, .bool a0_6, .bool a0_7] 38 (0, 0)) (by (with_reducible repeat (first | refine blk_drewN ?_ _ | refine blk_drew ?_ | refine blk_alloc ?_ _)); exact BK163.out)) : gb164 ≠ gb163)); clear BK163; clear HB; have BK163 := n0_; have HB := n1_; have BK164 := n2_; have GW164 := n3_; have GE164 := n4_; have NB163_164 := n5_; have NB164_163 := n6_; clear n0_ n1_ n2_ n3_ n4_ n5_ n6_; clear hb hbox hg; have hnb43 := NB163_164.out; have hnc43 := NB164_163.out; have hcz44_0 : w42.cell? ⟨gb163, 0, none⟩ = some (.int .i64 a0_0) := (blk_cell BK163.out 0).trans rfl; have hcz44_1 : w42.cell? ⟨gb163, 1, none⟩ = some (.int .i64 a0_1) := (blk_cell BK163.out 1).trans rfl; have hcz44_2 : w42.cell? ⟨gb163, 2, none⟩ = some (.int .i64 a0_2) := (blk_cell BK163.out 2).trans rfl; have hcz44_3 : w42.cell? ⟨gb163, 3, none⟩ = some (.int .i64 a0_3) := (blk_cell BK163.out 3).trans rfl; have hcz44_4 : w42.cell? ⟨gb163, 4, none⟩ = some (.bool a0_4) := (blk_cell BK163.out 4).trans rfl; have hcz44_5 : w42.cell? ⟨gb163, 5, none⟩ = some (.bool a0_5) := (blk_cell BK163.out 5).trans rfl; have hcz44_6 : w42.cell? ⟨gb163, 6, none⟩ = some (.bool a0_6) := (blk_cell BK163.out 6).trans rfl; have hcz44_7 : w42.cell? ⟨gb163, 7, none⟩ = some (.bool a0_7) := (blk_cell BK163.out 7).trans rfl; have hfz44_0 := blk_frozen BK163.out 0; have hfz44_1 := blk_frozen BK163.out 1; have hfz44_2 := blk_frozen BK163.out 2; have hfz44_3 := blk_frozen BK163.out 3; have hfz44_4 := blk_frozen BK163.out 4; have hfz44_5 := blk_frozen BK163.out 5; have hfz44_6 := blk_frozen BK163.out 6; have hfz44_7 := blk_frozen BK163.out 7; have hcz45_0 : w42.cell? ⟨gb164, 0, none⟩ = some (.int .i64 a1_0) := (blk_cell BK164.out 0).trans rfl; have hcz45_1 : w42.cell? ⟨gb164, 1, none⟩ = some (.int .i64 a1_1) := (blk_cell BK164.out 1).trans rfl; have hcz45_2 : w42.cell? ⟨gb164, 2, none⟩ = some (.int .i64 a1_2) := (blk_cell BK164.out 2).trans rfl; have hcz45_3 : w42.cell? ⟨gb164, 3, none⟩ = some (.int .i64 a1_3) := (blk_cell BK164.out 3).trans rfl; have hcz45_4 : w42.cell? ⟨gb164, 4, none⟩ = some (.bool a1_4) := (blk_cell BK164.out 4).trans rfl; have hcz45_5 : w42.cell? ⟨gb164, 5, none⟩ = some (.bool a1_5) := (blk_cell BK164.out 5).trans rfl; have hcz45_6 : w42.cell? ⟨gb164, 6, none⟩ = some (.bool a1_6) := (blk_cell BK164.out 6).trans rfl; have hcz45_7 : w42.cell? ⟨gb164, 7, none⟩ = some (.bool a1_7) := (blk_cell BK164.out 7).trans rfl; have hfz45_0 := blk_frozen BK164.out 0; have hfz45_1 := blk_frozen BK164.out 1; have hfz45_2 := blk_frozen BK164.out 2; have hfz45_3 := blk_frozen BK164.out 3; have hfz45_4 := blk_frozen BK164.out 4; have hfz45_5 := blk_frozen BK164.out 5; have hfz45_6 := blk_frozen BK164.out 6; have hfz45_7 := blk_frozen BK164.out 7))
        go_ret
        exact ⟨by first | rfl | (simp [errW_none, errW_some] <;> rfl) | (simp [*, errW_none, errW_some] <;> rfl), by repeat (first | (with_reducible first | exact HB.out | apply below_alloc | apply pw_below_drewN | apply below_drew1 | refine below_set ?_ GE163.out | refine below_set ?_ GE164.out) | exact HB.out)⟩
    · rw [if_neg c4] at H
      have c4b0 : (a0_1 == a1_1) = false := beq_eq_false_iff_ne.mpr c4
      have c4b1 : (a0_1 != a1_1) = true := bne_iff_ne.mpr c4
      obtain rfl := Option.some.inj H
      go_enter Try.func26, Try.ntmps26
      go_wp2_with (first | ((with_reducible refine gate_dst (N := 2) rfl ?_); refine box_event ?hg (N := 2) ?hd (cs := #[.int .i64 a0_0, .int .i64 a0_1, .int .i64 a0_2, .int .i64 a0_3, .bool a0_4, .bool a0_5, .bool a0_6, .bool a0_7]) (t := 38) ?hr ?_; (case hd => rfl); (case hg => rfl); (case hr => first | (go_simp; done) | (go_simp; rfl)); intro gb163 hg w46 hbox hb; have n0_ := Aside0.mk (below_step (by repeat (first | (with_reducible first | exact HB.out | apply below_alloc | apply pw_below_drewN | apply below_drew1) | exact HB.out)) hb); have n1_ := Aside0.mk (hbox); have n2_ := Aside0.mk ((by rw [hg]; exact (below_size (by repeat (first | (with_reducible first | exact HB.out | apply below_alloc | apply pw_below_drewN | apply below_drew1) | exact HB.out))) : w.heap.size ≤ gb163)); have n3_ := Aside0.mk ((by rw [hg]; exact (below_size (by repeat (first | (with_reducible first | exact HB.out | apply below_alloc | apply pw_below_drewN | apply below_drew1) | exact HB.out))) : w.heap.size ≤ gb163)); clear HB; have HB := n0_; have BK163 := n1_; have GW163 := n2_; have GE163 := n3_; clear n0_ n1_ n2_ n3_; clear hb hbox hg) | ((with_reducible refine gate_dst (N := 3) rfl ?_); refine box_event ?hg (N := 3) ?hd (cs := #[.int .i64 a1_0, .int .i64 a1_1, .int .i64 a1_2, .int .i64 a1_3, .bool a1_4, .bool a1_5, .bool a1_6, .bool a1_7]) (t := 38) ?hr ?_; (case hd => rfl); (case hg => rfl); (case hr => first | (go_simp; done) | (go_simp; rfl)); intro gb164 hg w47 hbox hb; have n0_ := Aside0.mk (blk_below (g := gb163) (o := .cells #[.int .i64 a0_0, .int .i64 a0_1, .int .i64 a0_2, .int .i64 a0_3, .bool a0_4, .bool a0_5, .bool a0_6, .bool a0_7] 38 (0, 0)) (by (with_reducible repeat (first | refine blk_drewN ?_ _ | refine blk_drew ?_ | refine blk_alloc ?_ _)); exact BK163.out) hb); have n1_ := Aside0.mk (below_step (by repeat (first | (with_reducible first | exact HB.out | apply below_alloc | apply pw_below_drewN | apply below_drew1 | refine below_set ?_ GE163.out) | exact HB.out)) hb); have n2_ := Aside0.mk (hbox); have n3_ := Aside0.mk ((by rw [hg]; exact (below_size (by repeat (first | (with_reducible first | exact HB.out | apply below_alloc | apply pw_below_drewN | apply below_drew1 | refine below_set ?_ GE163.out) | exact HB.out))) : w.heap.size ≤ gb164)); have n4_ := Aside0.mk ((by rw [hg]; exact (below_size (by repeat (first | (with_reducible first | exact HB.out | apply below_alloc | apply pw_below_drewN | apply below_drew1 | refine below_set ?_ GE163.out) | exact HB.out))) : w.heap.size ≤ gb164)); have n5_ := Aside0.mk ((by rw [hg]; exact Nat.ne_of_lt (blk_lt (g := gb163) (o := .cells #[.int .i64 a0_0, .int .i64 a0_1, .int .i64 a0_2, .int .i64 a0_3, .bool a0_4, .bool a0_5, .bool a0_6, .bool a0_7] 38 (0, 0)) (by (with_reducible repeat (first | refine blk_drewN ?_ _ | refine blk_drew ?_ | refine blk_alloc ?_ _)); exact BK163.out)) : gb163 ≠ gb164)); have n6_ := Aside0.mk ((by rw [hg]; exact Nat.ne_of_gt (blk_lt (g := gb163) (o := .cells #[.int .i64 a0_0, .int .i64 a0_1, .int .i64 a0_2, .int .i64 a0_3, .bool a0_4, .bool a0_5, .bool a0_6, .bool a0_7] 38 (0, 0)) (by (with_reducible repeat (first | refine blk_drewN ?_ _ | refine blk_drew ?_ | refine blk_alloc ?_ _)); exact BK163.out)) : gb164 ≠ gb163)); clear BK163; clear HB; have BK163 := n0_; have HB := n1_; have BK164 := n2_; have GW164 := n3_; have GE164 := n4_; have NB163_164 := n5_; have NB164_163 := n6_; clear n0_ n1_ n2_ n3_ n4_ n5_ n6_; clear hb hbox hg; have hnb48 := NB163_164.out; have hnc48 := NB164_163.out; have hcz49_0 : w47.cell? ⟨gb163, 0, none⟩ = some (.int .i64 a0_0) := (blk_cell BK163.out 0).trans rfl; have hcz49_1 : w47.cell? ⟨gb163, 1, none⟩ = some (.int .i64 a0_1) := (blk_cell BK163.out 1).trans rfl; have hcz49_2 : w47.cell? ⟨gb163, 2, none⟩ = some (.int .i64 a0_2) := (blk_cell BK163.out 2).trans rfl; have hcz49_3 : w47.cell? ⟨gb163, 3, none⟩ = some (.int .i64 a0_3) := (blk_cell BK163.out 3).trans rfl; have hcz49_4 : w47.cell? ⟨gb163, 4, none⟩ = some (.bool a0_4) := (blk_cell BK163.out 4).trans rfl; have hcz49_5 : w47.cell? ⟨gb163, 5, none⟩ = some (.bool a0_5) := (blk_cell BK163.out 5).trans rfl; have hcz49_6 : w47.cell? ⟨gb163, 6, none⟩ = some (.bool a0_6) := (blk_cell BK163.out 6).trans rfl; have hcz49_7 : w47.cell? ⟨gb163, 7, none⟩ = some (.bool a0_7) := (blk_cell BK163.out 7).trans rfl; have hfz49_0 := blk_frozen BK163.out 0; have hfz49_1 := blk_frozen BK163.out 1; have hfz49_2 := blk_frozen BK163.out 2; have hfz49_3 := blk_frozen BK163.out 3; have hfz49_4 := blk_frozen BK163.out 4; have hfz49_5 := blk_frozen BK163.out 5; have hfz49_6 := blk_frozen BK163.out 6; have hfz49_7 := blk_frozen BK163.out 7; have hcz50_0 : w47.cell? ⟨gb164, 0, none⟩ = some (.int .i64 a1_0) := (blk_cell BK164.out 0).trans rfl; have hcz50_1 : w47.cell? ⟨gb164, 1, none⟩ = some (.int .i64 a1_1) := (blk_cell BK164.out 1).trans rfl; have hcz50_2 : w47.cell? ⟨gb164, 2, none⟩ = some (.int .i64 a1_2) := (blk_cell BK164.out 2).trans rfl; have hcz50_3 : w47.cell? ⟨gb164, 3, none⟩ = some (.int .i64 a1_3) := (blk_cell BK164.out 3).trans rfl; have hcz50_4 : w47.cell? ⟨gb164, 4, none⟩ = some (.bool a1_4) := (blk_cell BK164.out 4).trans rfl; have hcz50_5 : w47.cell? ⟨gb164, 5, none⟩ = some (.bool a1_5) := (blk_cell BK164.out 5).trans rfl; have hcz50_6 : w47.cell? ⟨gb164, 6, none⟩ = some (.bool a1_6) := (blk_cell BK164.out 6).trans rfl; have hcz50_7 : w47.cell? ⟨gb164, 7, none⟩ = some (.bool a1_7) := (blk_cell BK164.out 7).trans rfl; have hfz50_0 := blk_frozen BK164.out 0; have hfz50_1 := blk_frozen BK164.out 1; have hfz50_2 := blk_frozen BK164.out 2; have hfz50_3 := blk_frozen BK164.out 3; have hfz50_4 := blk_frozen BK164.out 4; have hfz50_5 := blk_frozen BK164.out 5; have hfz50_6 := blk_frozen BK164.out 6; have hfz50_7 := blk_frozen BK164.out 7))
      go_ret
      exact ⟨by first | rfl | (simp [errW_none, errW_some] <;> rfl) | (simp [*, errW_none, errW_some] <;> rfl), by repeat (first | (with_reducible first | exact HB.out | apply below_alloc | apply pw_below_drewN | apply below_drew1 | refine below_set ?_ GE163.out | refine below_set ?_ GE164.out) | exact HB.out)⟩
  · rw [if_neg c3] at H
    have c3b0 : (a0_0 == a1_0) = false := beq_eq_false_iff_ne.mpr c3
    have c3b1 : (a0_0 != a1_0) = true := bne_iff_ne.mpr c3
    obtain rfl := Option.some.inj H
    go_enter Try.func26, Try.ntmps26
    go_wp2_with (first | ((with_reducible refine gate_dst (N := 2) rfl ?_); refine box_event ?hg (N := 2) ?hd (cs := #[.int .i64 a0_0, .int .i64 a0_1, .int .i64 a0_2, .int .i64 a0_3, .bool a0_4, .bool a0_5, .bool a0_6, .bool a0_7]) (t := 38) ?hr ?_; (case hd => rfl); (case hg => rfl); (case hr => first | (go_simp; done) | (go_simp; rfl)); intro gb163 hg w51 hbox hb; have n0_ := Aside0.mk (below_step (by repeat (first | (with_reducible first | exact HB.out | apply below_alloc | apply pw_below_drewN | apply below_drew1) | exact HB.out)) hb); have n1_ := Aside0.mk (hbox); have n2_ := Aside0.mk ((by rw [hg]; exact (below_size (by repeat (first | (with_reducible first | exact HB.out | apply below_alloc | apply pw_below_drewN | apply below_drew1) | exact HB.out))) : w.heap.size ≤ gb163)); have n3_ := Aside0.mk ((by rw [hg]; exact (below_size (by repeat (first | (with_reducible first | exact HB.out | apply below_alloc | apply pw_below_drewN | apply below_drew1) | exact HB.out))) : w.heap.size ≤ gb163)); clear HB; have HB := n0_; have BK163 := n1_; have GW163 := n2_; have GE163 := n3_; clear n0_ n1_ n2_ n3_; clear hb hbox hg) | ((with_reducible refine gate_dst (N := 3) rfl ?_); refine box_event ?hg (N := 3) ?hd (cs := #[.int .i64 a1_0, .int .i64 a1_1, .int .i64 a1_2, .int .i64 a1_3, .bool a1_4, .bool a1_5, .bool a1_6, .bool a1_7]) (t := 38) ?hr ?_; (case hd => rfl); (case hg => rfl); (case hr => first | (go_simp; done) | (go_simp; rfl)); intro gb164 hg w52 hbox hb; have n0_ := Aside0.mk (blk_below (g := gb163) (o := .cells #[.int .i64 a0_0, .int .i64 a0_1, .int .i64 a0_2, .int .i64 a0_3, .bool a0_4, .bool a0_5, .bool a0_6, .bool a0_7] 38 (0, 0)) (by (with_reducible repeat (first | refine blk_drewN ?_ _ | refine blk_drew ?_ | refine blk_alloc ?_ _)); exact BK163.out) hb); have n1_ := Aside0.mk (below_step (by repeat (first | (with_reducible first | exact HB.out | apply below_alloc | apply pw_below_drewN | apply below_drew1 | refine below_set ?_ GE163.out) | exact HB.out)) hb); have n2_ := Aside0.mk (hbox); have n3_ := Aside0.mk ((by rw [hg]; exact (below_size (by repeat (first | (with_reducible first | exact HB.out | apply below_alloc | apply pw_below_drewN | apply below_drew1 | refine below_set ?_ GE163.out) | exact HB.out))) : w.heap.size ≤ gb164)); have n4_ := Aside0.mk ((by rw [hg]; exact (below_size (by repeat (first | (with_reducible first | exact HB.out | apply below_alloc | apply pw_below_drewN | apply below_drew1 | refine below_set ?_ GE163.out) | exact HB.out))) : w.heap.size ≤ gb164)); have n5_ := Aside0.mk ((by rw [hg]; exact Nat.ne_of_lt (blk_lt (g := gb163) (o := .cells #[.int .i64 a0_0, .int .i64 a0_1, .int .i64 a0_2, .int .i64 a0_3, .bool a0_4, .bool a0_5, .bool a0_6, .bool a0_7] 38 (0, 0)) (by (with_reducible repeat (first | refine blk_drewN ?_ _ | refine blk_drew ?_ | refine blk_alloc ?_ _)); exact BK163.out)) : gb163 ≠ gb164)); have n6_ := Aside0.mk ((by rw [hg]; exact Nat.ne_of_gt (blk_lt (g := gb163) (o := .cells #[.int .i64 a0_0, .int .i64 a0_1, .int .i64 a0_2, .int .i64 a0_3, .bool a0_4, .bool a0_5, .bool a0_6, .bool a0_7] 38 (0, 0)) (by (with_reducible repeat (first | refine blk_drewN ?_ _ | refine blk_drew ?_ | refine blk_alloc ?_ _)); exact BK163.out)) : gb164 ≠ gb163)); clear BK163; clear HB; have BK163 := n0_; have HB := n1_; have BK164 := n2_; have GW164 := n3_; have GE164 := n4_; have NB163_164 := n5_; have NB164_163 := n6_; clear n0_ n1_ n2_ n3_ n4_ n5_ n6_; clear hb hbox hg; have hnb53 := NB163_164.out; have hnc53 := NB164_163.out; have hcz54_0 : w52.cell? ⟨gb163, 0, none⟩ = some (.int .i64 a0_0) := (blk_cell BK163.out 0).trans rfl; have hcz54_1 : w52.cell? ⟨gb163, 1, none⟩ = some (.int .i64 a0_1) := (blk_cell BK163.out 1).trans rfl; have hcz54_2 : w52.cell? ⟨gb163, 2, none⟩ = some (.int .i64 a0_2) := (blk_cell BK163.out 2).trans rfl; have hcz54_3 : w52.cell? ⟨gb163, 3, none⟩ = some (.int .i64 a0_3) := (blk_cell BK163.out 3).trans rfl; have hcz54_4 : w52.cell? ⟨gb163, 4, none⟩ = some (.bool a0_4) := (blk_cell BK163.out 4).trans rfl; have hcz54_5 : w52.cell? ⟨gb163, 5, none⟩ = some (.bool a0_5) := (blk_cell BK163.out 5).trans rfl; have hcz54_6 : w52.cell? ⟨gb163, 6, none⟩ = some (.bool a0_6) := (blk_cell BK163.out 6).trans rfl; have hcz54_7 : w52.cell? ⟨gb163, 7, none⟩ = some (.bool a0_7) := (blk_cell BK163.out 7).trans rfl; have hfz54_0 := blk_frozen BK163.out 0; have hfz54_1 := blk_frozen BK163.out 1; have hfz54_2 := blk_frozen BK163.out 2; have hfz54_3 := blk_frozen BK163.out 3; have hfz54_4 := blk_frozen BK163.out 4; have hfz54_5 := blk_frozen BK163.out 5; have hfz54_6 := blk_frozen BK163.out 6; have hfz54_7 := blk_frozen BK163.out 7; have hcz55_0 : w52.cell? ⟨gb164, 0, none⟩ = some (.int .i64 a1_0) := (blk_cell BK164.out 0).trans rfl; have hcz55_1 : w52.cell? ⟨gb164, 1, none⟩ = some (.int .i64 a1_1) := (blk_cell BK164.out 1).trans rfl; have hcz55_2 : w52.cell? ⟨gb164, 2, none⟩ = some (.int .i64 a1_2) := (blk_cell BK164.out 2).trans rfl; have hcz55_3 : w52.cell? ⟨gb164, 3, none⟩ = some (.int .i64 a1_3) := (blk_cell BK164.out 3).trans rfl; have hcz55_4 : w52.cell? ⟨gb164, 4, none⟩ = some (.bool a1_4) := (blk_cell BK164.out 4).trans rfl; have hcz55_5 : w52.cell? ⟨gb164, 5, none⟩ = some (.bool a1_5) := (blk_cell BK164.out 5).trans rfl; have hcz55_6 : w52.cell? ⟨gb164, 6, none⟩ = some (.bool a1_6) := (blk_cell BK164.out 6).trans rfl; have hcz55_7 : w52.cell? ⟨gb164, 7, none⟩ = some (.bool a1_7) := (blk_cell BK164.out 7).trans rfl; have hfz55_0 := blk_frozen BK164.out 0; have hfz55_1 := blk_frozen BK164.out 1; have hfz55_2 := blk_frozen BK164.out 2; have hfz55_3 := blk_frozen BK164.out 3; have hfz55_4 := blk_frozen BK164.out 4; have hfz55_5 := blk_frozen BK164.out 5; have hfz55_6 := blk_frozen BK164.out 6; have hfz55_7 := blk_frozen BK164.out 7))
    go_ret
    exact ⟨by first | rfl | (simp [errW_none, errW_some] <;> rfl) | (simp [*, errW_none, errW_some] <;> rfl), by repeat (first | (with_reducible first | exact HB.out | apply below_alloc | apply pw_below_drewN | apply below_drew1 | refine below_set ?_ GE163.out | refine below_set ?_ GE164.out) | exact HB.out)⟩

/-! ### laws_markIntS: function 35 -/
def laws_markIntS.l0 : Nat → List Int → Int → Int → Option (Int × List Int)
  | 0, _, _, _ => none
  | k + 1, x0, x1, x5 => if x5 < (x0.length : Int) then (if 0 ≤ x5 then (laws_markIntS.l0 k (x0.set (x5 : Int).toNat x1) (wrap64 (x1 + 1)) (wrap64 (x5 + 1))) else (none)) else (some (x1, x0))
def laws_markIntS.f (k : Nat) (l0 : List Int) (a1 : Int) : Option (Int × List Int) := laws_markIntS.l0 k l0 a1 0
theorem laws_markIntS.mono_l : ∀ k, (∀ y0 y1 y2, LeO (laws_markIntS.l0 k y0 y1 y2) (laws_markIntS.l0 (k + 1) y0 y1 y2))
  | 0 => fun _ _ _ r h => by simp [laws_markIntS.l0] at h
  | k + 1 => by
    have ih0 := laws_markIntS.mono_l k
    · intro y0 y1 y2
      unfold laws_markIntS.l0
      repeat' first
      | (with_reducible exact ih0 _ _ _)
      | (with_reducible exact LeO.refl _)
      | (with_reducible exact LeO.none _)
      | (with_reducible refine LeO.ite ?_ ?_)
      | (with_reducible refine LeO.bind ?_ (fun _ => ?_))
      | exact ih0 _ _ _
      | exact LeO.none _
      | refine LeO.ite ?_ ?_
      | refine LeO.bind ?_ (fun _ => ?_)
theorem laws_markIntS.mono : ∀ a0 a1 k, LeO (laws_markIntS.f k a0 a1) (laws_markIntS.f (k + 1) a0 a1) := by
  intro a0 a1 k
  have ih0 := laws_markIntS.mono_l k
  unfold laws_markIntS.f
  repeat' first
      | (with_reducible exact ih0 _ _ _)
      | (with_reducible exact LeO.refl _)
      | (with_reducible exact LeO.none _)
      | (with_reducible refine LeO.ite ?_ ?_)
      | (with_reducible refine LeO.bind ?_ (fun _ => ?_))
      | exact ih0 _ _ _
      | exact LeO.none _
      | refine LeO.ite ?_ ?_
      | refine LeO.bind ?_ (fun _ => ?_)
set_option maxHeartbeats 8000000 in
set_option maxRecDepth 100000 in
theorem laws_markIntS.calls (k : Nat) (P0_ : Nat → Prop) (u9000_ : Value) (l0 : List Int) (a1 : Int) (r1 : Int) (r2 : List Int) (w0 w : World) (hB : Below w0.heap.size w0 w) (ho0 : Kd.R (Kd.int .i64) 3 w w0.heap.size P0_ u9000_ l0) (h : laws_markIntS.f k l0 a1 = some (r1, r2)) :
    Calls Try.prog 35 #[u9000_, .int .i64 a1] w fun e w' => e = .returned (.int .i64 r1) ∧ Kd.R (Kd.int .i64) 3 w' w0.heap.size (fun k_ => (P0_ k_ ∨ w.heap.size ≤ k_)) u9000_ r2 ∧ Below w0.heap.size w0 w' ∧ Kept w w' (fun k_ => P0_ k_) := by
  have HO0 := Aside0.mk (show Kd.R (Kd.int .i64) 3 w w0.heap.size (fun k_ => (P0_ k_ ∨ w.heap.size ≤ k_)) u9000_ l0 from Kd.R_mono ho0 (fun k_ hk => (.inl hk)))
  have HK := Aside0.mk (Kept.refl w (fun k_ => P0_ k_))
  have HW0 := Aside0.mk hB.size
  have HB := Aside0.mk hB
  clear hB
  have H : (laws_markIntS.l0 k l0 a1 0) = some (r1, r2) := h
  clear h
  have H' := Aside0.mk H
  clear H
  go_enter Try.func35, Try.ntmps35
  go_wp2
  go_loopg [1, 5] k (fun kq v1 v5 w' => ∃ (x0_1 : List Int) (x1_1 : Int) (x5_1 : Int), v1 = .int .i64 x1_1 ∧ v5 = .int .i64 x5_1 ∧ Aside0 (laws_markIntS.l0 kq x0_1 x1_1 x5_1 = some (r1, r2)) ∧ Aside0 (kq ≤ k) ∧ Aside0 (Kd.R (Kd.int .i64) 3 w' w0.heap.size (fun k_ => (P0_ k_ ∨ w.heap.size ≤ k_)) u9000_ x0_1) ∧ Aside0 (Kept w w' (fun k_ => P0_ k_)) ∧ Aside0 (Below w0.heap.size w0 w'))
  case atStart => exact ⟨(l0), (a1), (0), (by first | rfl | (simp; done) | (simp [*]; done)), (by first | rfl | (simp; done) | (simp [*]; done)), H', ⟨Nat.le_refl _⟩, ⟨by (with_reducible repeat (first | apply Kd.R_alloc | apply Kd.R_drewN | apply Kd.R_drew)); exact HO0.out⟩, ⟨by repeat (first | (with_reducible first | exact HK.out | apply Kept.alloc | apply Kept.drewN | apply Kept.drew) | exact HK.out)⟩, ⟨by repeat (first | (with_reducible first | exact HB.out | apply below_alloc | apply pw_below_drewN | apply below_drew1) | exact HB.out)⟩⟩
  case round =>
    clear H'
    try clear p2
    obtain ⟨x0_1, x1_1, x5_1, rfl, rfl, HA, HK1, HO_0, HK, HB⟩ := hrel
    cases gk with
    | zero => exact absurd HA.out (by simp [laws_markIntS.l0])
    | succ k1 =>
      have H := HA.out
      clear HA
      simp only [laws_markIntS.l0] at H
      by_cases c3 : x5_1 < (x0_1.length : Int)
      · rw [if_pos c3] at H
        have c3b0 : decide (x5_1 < (x0_1.length : Int)) = true := decide_eq_true c3
        clear c3
        by_cases c4 : 0 ≤ x5_1
        · rw [if_pos c4] at H
          have c4b0 : decide (0 ≤ x5_1) = true := decide_eq_true c4
          clear c4
          obtain ⟨y165, hy165⟩ : ∃ y_ : List Int, y_ = (x0_1.set (x5_1 : Int).toNat x1_1) := ⟨_, rfl⟩
          replace H : (laws_markIntS.l0 k1 y165 (wrap64 (x1_1 + 1)) (wrap64 (x5_1 + 1))) = some (r1, r2) := by first | (rw [hy165]; with_reducible exact H) | (have H2_ := (Option.bind_some _ _).symm.trans H; rw [hy165]; with_reducible exact H2_) | (have H2_ := (Option.bind_some _ _).symm.trans H; with_reducible exact H2_) | with_reducible exact H | (rw [hy165]; exact H) | exact H
          have Ny165 := Aside0.mk hy165
          clear hy165
          have H' := Aside0.mk H
          clear H
          obtain ⟨Ao6, co6, eo6⟩ := Kd.R_slice HO_0.out
          subst eo6
          have p5 : 0 ≤ (x5_1 : Int) := of_decide_eq_true (by first | (with_reducible assumption) | assumption)
          have q5 : (x5_1 : Int) < ((x0_1.length : Int) : Int) := of_decide_eq_true (by first | (with_reducible assumption) | assumption)
          obtain ⟨go5, co5, eo5, gb5, gl5, cl5, HG5⟩ := Kd.R_form HO_0.out (by omega)
          (first | cases eo5 | (injection eo5 with ea_ en_ ec_; (first | subst ea_ | (injection ea_ with ea_; subst ea_)); subst ec_; clear en_))
          have GB5 := Aside0.mk gb5
          have GG5 := Aside0.mk HG5
          clear gb5 gl5 HG5
          have HMgo5 := Aside0.mk (show (P0_ go5 ∨ w.heap.size ≤ go5) from (HO_0.out.1 _ rfl))
          obtain ⟨hx5_0, hf5_0⟩ := Kd.R_celln 0 HO_0.out (x5_1 : Int) p5 q5
          replace p5 := eq_true p5
          replace q5 := eq_true q5
          have HP7 := Kd.R_putg HO_0.out (x5_1 : Int) x1_1
          go_wp2_with (first | ((with_reducible refine gate_store (t := 3) (p := 15) rfl ?_); refine store_event (t := 3) (p := 15) (v := ?vo_w8) (w1 := (wr.setCell ⟨go5, (x5_1 : Int).toNat, none⟩ (.int .i64 x1_1))) ?hg ?ho ?hn ?hr ?_; (case ho => rfl); (case hg => rfl); (case hn => rfl); (case hr => first | (go_simp; done) | (go_simp; rfl)); intro w8 hw; have hg : wr.grownBy w8 (some go5) := (by rw [hw]; exact HP7.2); have hp_ : Kd.R (Kd.int .i64) 3 w8 w0.heap.size (fun k_ => (P0_ k_ ∨ w.heap.size ≤ k_)) (.slice (some ⟨go5, 0, none⟩) x0_1.length co6) y165 := (by rw [hw, Ny165.out]; exact HP7.1); clear HP7; have n0_ := Aside0.mk (hp_); have n1_ := Aside0.mk ((by rw [hw]; exact below_set (HB.out) GB5.out : Below w0.heap.size w0 w8)); have n2_ := Aside0.mk (Kept.of_grown (S := (fun k_ => P0_ k_)) hg (by repeat (first | (with_reducible first | exact HK.out | apply Kept.alloc | apply Kept.drewN | apply Kept.drew) | exact HK.out)) (fun k_ e_ => (HO_0.out.1 k_ e_))); clear HO_0; clear HB; clear HK; have HO_0 := n0_; have HB := n1_; have HK := n2_; clear n0_ n1_ n2_; clear hg hw hp_))
          go_roundg k1
          case measure => have := HK1.out; omega
          case rel => exact ⟨(y165), (wrap64 (x1_1 + 1)), (wrap64 (x5_1 + 1)), (by first | rfl | (simp; done) | (simp [*]; done)), (by first | rfl | (simp; done) | (simp [*]; done)), H', ⟨by have := HK1.out; omega⟩, ⟨by (with_reducible repeat (first | apply Kd.R_alloc | apply Kd.R_drewN | apply Kd.R_drew)); exact HO_0.out⟩, ⟨by repeat (first | (with_reducible first | exact HK.out | apply Kept.alloc | apply Kept.drewN | apply Kept.drew) | exact HK.out)⟩, ⟨by repeat (first | (with_reducible first | exact HB.out | apply below_alloc | apply pw_below_drewN | apply below_drew1) | exact HB.out)⟩⟩
        · rw [if_neg c4] at H
          exact absurd H (by simp)
      · rw [if_neg c3] at H
        have c3b0 : decide (x5_1 < (x0_1.length : Int)) = false := decide_eq_false c3
        clear c3
        simp only [Option.some.injEq, Prod.mk.injEq] at H
        obtain ⟨rfl, rfl⟩ := H
        obtain ⟨Ao9, co9, eo9⟩ := Kd.R_slice HO_0.out
        subst eo9
        go_wp2
        go_ret
        exact ⟨by first | rfl | (simp [errW_none, errW_some] <;> rfl) | (simp [*, errW_none, errW_some] <;> rfl), by (with_reducible repeat (first | apply Kd.R_alloc | apply Kd.R_drewN | apply Kd.R_drew)); exact HO_0.out, by repeat (first | (with_reducible first | exact HB.out | apply below_alloc | apply pw_below_drewN | apply below_drew1) | exact HB.out), by repeat (first | (with_reducible first | exact HK.out | apply Kept.alloc | apply Kept.drewN | apply Kept.drew) | exact HK.out)⟩

/-! ### laws_markMem: function 27 -/
def laws_markMem.f (k : Nat) (l0_0 : List Int) (a0_1 : Int) (a1 : Int) : Option (Int × List Int) := (laws_markIntS.f k l0_0 a1).bind fun bt167 => (some (bt167.1, bt167.2))
theorem laws_markMem.mono : ∀ a0 a1 a2 k, LeO (laws_markMem.f k a0 a1 a2) (laws_markMem.f (k + 1) a0 a1 a2) := by
  intro a0 a1 a2 k
  unfold laws_markMem.f
  repeat' first
      | (with_reducible exact laws_markIntS.mono _ _ _)
      | (with_reducible exact LeO.refl _)
      | (with_reducible exact LeO.none _)
      | (with_reducible refine LeO.ite ?_ ?_)
      | (with_reducible refine LeO.bind ?_ (fun _ => ?_))
      | exact laws_markIntS.mono _ _ _
      | exact LeO.none _
      | refine LeO.ite ?_ ?_
      | refine LeO.bind ?_ (fun _ => ?_)
set_option maxHeartbeats 8000000 in
set_option maxRecDepth 100000 in
theorem laws_markMem.calls (k : Nat) (P0_0_ : Nat → Prop) (u9000_ : Value) (l0_0 : List Int) (a0_1 : Int) (a1 : Int) (r1 : Int) (r2 : List Int) (w0 w : World) (hB : Below w0.heap.size w0 w) (ho0_0 : Kd.R (Kd.int .i64) 3 w w0.heap.size P0_0_ u9000_ l0_0) (h : laws_markMem.f k l0_0 a0_1 a1 = some (r1, r2)) :
    Calls Try.prog 27 #[.agg #[u9000_, .int .i64 a0_1], .int .i64 a1] w fun e w' => e = .returned (.int .i64 r1) ∧ Kd.R (Kd.int .i64) 3 w' w0.heap.size (fun k_ => (P0_0_ k_ ∨ w.heap.size ≤ k_)) u9000_ r2 ∧ Below w0.heap.size w0 w' ∧ Kept w w' (fun k_ => P0_0_ k_) := by
  have hu37 := Try.underlying37
  have HO0_0 := Aside0.mk (show Kd.R (Kd.int .i64) 3 w w0.heap.size (fun k_ => (P0_0_ k_ ∨ w.heap.size ≤ k_)) u9000_ l0_0 from Kd.R_mono ho0_0 (fun k_ hk => (.inl hk)))
  have HK := Aside0.mk (Kept.refl w (fun k_ => P0_0_ k_))
  have HW0 := Aside0.mk hB.size
  have HB := Aside0.mk hB
  clear hB
  have H : ((laws_markIntS.f k l0_0 a1).bind fun bt167 => (some (bt167.1, bt167.2))) = some (r1, r2) := h
  clear h
  replace H := Option.bind_eq_some_iff.mp H
  obtain ⟨⟨t167, t168⟩, A30, H⟩ := H
  replace H : (some (t167, t168)) = some (r1, r2) := H
  have A3 := Aside0.mk A30
  clear A30
  simp only [Option.some.injEq, Prod.mk.injEq] at H
  obtain ⟨rfl, rfl⟩ := H
  obtain ⟨Ao4, co4, eo4⟩ := Kd.R_slice HO0_0.out
  subst eo4
  go_enter Try.func27, Try.ntmps27
  go_wp2_with (first | ((with_reducible refine gate_dst (N := 2) rfl ?_); refine box_event ?hg (N := 2) ?hd (cs := #[.slice Ao4 l0_0.length co4, .int .i64 a0_1]) (t := 37) ?hr ?_; (case hd => rfl); (case hg => rfl); (case hr => first | (go_simp; done) | (go_simp; rfl)); intro gb166 hg w5 hbox hb; have n0_ := Aside0.mk (Kd.R_below (by (with_reducible repeat (first | apply Kd.R_alloc | apply Kd.R_drewN | apply Kd.R_drew)); exact HO0_0.out) hb); have n1_ := Aside0.mk (Kept.below (S := (fun k_ => P0_0_ k_)) (by repeat (first | (with_reducible first | exact HK.out | apply Kept.alloc | apply Kept.drewN | apply Kept.drew) | exact HK.out)) hb); have n2_ := Aside0.mk (below_step (by repeat (first | (with_reducible first | exact HB.out | apply below_alloc | apply pw_below_drewN | apply below_drew1) | exact HB.out)) hb); have n3_ := Aside0.mk (hbox); have n4_ := Aside0.mk ((by rw [hg]; exact (by first | exact HK.out.1 | exact (show Kept w _ (fun k_ => P0_0_ k_) from by repeat (first | (with_reducible first | exact HK.out | apply Kept.alloc | apply Kept.drewN | apply Kept.drew) | exact HK.out)).1) : w.heap.size ≤ gb166)); have n5_ := Aside0.mk ((by rw [hg]; exact (below_size (by repeat (first | (with_reducible first | exact HB.out | apply below_alloc | apply pw_below_drewN | apply below_drew1) | exact HB.out))) : w0.heap.size ≤ gb166)); clear HO0_0; clear HK; clear HB; have HO0_0 := n0_; have HK := n1_; have HB := n2_; have BK166 := n3_; have GW166 := n4_; have GE166 := n5_; clear n0_ n1_ n2_ n3_ n4_ n5_; clear hb hbox hg; have hcz6_0 : w5.cell? ⟨gb166, 0, none⟩ = some (.slice Ao4 l0_0.length co4) := (blk_cell BK166.out 0).trans rfl; have hcz6_1 : w5.cell? ⟨gb166, 1, none⟩ = some (.int .i64 a0_1) := (blk_cell BK166.out 1).trans rfl; have hfz6_0 := blk_frozen BK166.out 0; have hfz6_1 := blk_frozen BK166.out 1) | ((with_reducible refine gate_callee (f := 35) rfl ?_); refine goesL_ (some 8) rfl rfl Try.func35 (by kernel_rfl) rfl #[.slice Ao4 l0_0.length co4, .int .i64 a1] rfl (by (try simp only [List.map_toArray, List.map_cons, List.map_nil]); first | done | rfl | (simp only [List.length_drop, List.length_take]; rfl)) ?_; (with_reducible refine (laws_markIntS.calls k (fun k_ => some k_ = (.slice Ao4 l0_0.length co4 : Value).ownBlock) (.slice Ao4 l0_0.length co4) l0_0 a1 t167 t168 w0 _ ?side1 ?side2 A3.out).mono ?_); (case side1 => repeat (first | (with_reducible first | exact HB.out | apply below_alloc | apply pw_below_drewN | apply below_drew1 | refine below_set ?_ GE166.out) | exact HB.out)); (case side2 => exact Kd.R_tight rfl HO0_0.out); rintro e w7 ⟨rfl, hy0, hb, hkp⟩; refine ⟨_, rfl, ?_⟩; have n0_ := Aside0.mk (Kd.R_reok rfl hy0 (fun k_ e_ => HO0_0.out.1 k_ e_)); have n1_ := Aside0.mk (blk_kept (by (with_reducible repeat (first | refine blk_drewN ?_ _ | refine blk_drew ?_ | refine blk_alloc ?_ _)); exact BK166.out) hkp (fun hs_ => (fun e_ => (Kd.R_ne HO0_0.out BK166.out (by decide)) e_) hs_)); have n2_ := Aside0.mk (Kept.then_ (S := (fun k_ => P0_0_ k_)) (by repeat (first | (with_reducible first | exact HK.out | apply Kept.alloc | apply Kept.drewN | apply Kept.drew | refine Kept.setCell ?_ (.inr GW166.out) _) | exact HK.out)) hkp (fun k_ hs_ => (fun e_ => (HO0_0.out.1 k_ e_.symm)) hs_)); have n3_ := Aside0.mk (hb); clear HO0_0; clear BK166; clear HK; clear HB; have HO0_0 := n0_; have BK166 := n1_; have HK := n2_; have HB := n3_; clear n0_ n1_ n2_ n3_; (try clear hb); (try clear hkp); (try clear hy0)))
  go_ret
  exact ⟨by first | rfl | (simp [errW_none, errW_some] <;> rfl) | (simp [*, errW_none, errW_some] <;> rfl), by (with_reducible repeat (first | apply Kd.R_alloc | apply Kd.R_drewN | apply Kd.R_drew)); exact HO0_0.out, by repeat (first | (with_reducible first | exact HB.out | apply below_alloc | apply pw_below_drewN | apply below_drew1 | refine below_set ?_ GE166.out) | exact HB.out), by repeat (first | (with_reducible first | exact HK.out | apply Kept.alloc | apply Kept.drewN | apply Kept.drew | refine Kept.setCell ?_ (.inr GW166.out) _) | exact HK.out)⟩

/-! ### laws_heldIntS: function 36 -/
def laws_heldIntS.l0 : Nat → List Int → Int → Int → Option (Int)
  | 0, _, _, _ => none
  | k + 1, x0, x1, x5 => if x5 < (x0.length : Int) then (if 0 ≤ x5 then (if (rd x0 x5) = x1 then (laws_heldIntS.l0 k x0 (wrap64 (x1 + 1)) (wrap64 (x5 + 1))) else (some (-1))) else (none)) else (some x1)
def laws_heldIntS.f (k : Nat) (l0 : List Int) (a1 : Int) : Option (Int) := laws_heldIntS.l0 k l0 a1 0
theorem laws_heldIntS.mono_l : ∀ k, (∀ y0 y1 y2, LeO (laws_heldIntS.l0 k y0 y1 y2) (laws_heldIntS.l0 (k + 1) y0 y1 y2))
  | 0 => fun _ _ _ r h => by simp [laws_heldIntS.l0] at h
  | k + 1 => by
    have ih0 := laws_heldIntS.mono_l k
    · intro y0 y1 y2
      unfold laws_heldIntS.l0
      repeat' first
      | (with_reducible exact ih0 _ _ _)
      | (with_reducible exact LeO.refl _)
      | (with_reducible exact LeO.none _)
      | (with_reducible refine LeO.ite ?_ ?_)
      | (with_reducible refine LeO.bind ?_ (fun _ => ?_))
      | exact ih0 _ _ _
      | exact LeO.none _
      | refine LeO.ite ?_ ?_
      | refine LeO.bind ?_ (fun _ => ?_)
theorem laws_heldIntS.mono : ∀ a0 a1 k, LeO (laws_heldIntS.f k a0 a1) (laws_heldIntS.f (k + 1) a0 a1) := by
  intro a0 a1 k
  have ih0 := laws_heldIntS.mono_l k
  unfold laws_heldIntS.f
  repeat' first
      | (with_reducible exact ih0 _ _ _)
      | (with_reducible exact LeO.refl _)
      | (with_reducible exact LeO.none _)
      | (with_reducible refine LeO.ite ?_ ?_)
      | (with_reducible refine LeO.bind ?_ (fun _ => ?_))
      | exact ih0 _ _ _
      | exact LeO.none _
      | refine LeO.ite ?_ ?_
      | refine LeO.bind ?_ (fun _ => ?_)
set_option maxHeartbeats 8000000 in
set_option maxRecDepth 100000 in
theorem laws_heldIntS.calls (k : Nat) (A0 : Option Addr) (c0 : Nat) (l0 : List Int) (a1 : Int) (r : Int) (w : World) (hr0 : Kd.C (Kd.int .i64) w A0 l0.length l0) (hc0 : l0.length ≤ c0) (h : laws_heldIntS.f k l0 a1 = some r) :
    Calls Try.prog 36 #[.slice A0 l0.length c0, .int .i64 a1] w fun e w' => e = .returned (.int .i64 r) ∧ Drawn0 w w' := by
  have HR0 := Aside0.mk hr0
  have HC0 := Aside0.mk hc0
  clear hr0 hc0
  have H : (laws_heldIntS.l0 k l0 a1 0) = some r := h
  clear h
  have H' := Aside0.mk H
  clear H
  go_enter Try.func36, Try.ntmps36
  go_wp2
  go_loopg [1, 5] k (fun kq v1 v5 w' => ∃ (x1_1 : Int) (x5_1 : Int), v1 = .int .i64 x1_1 ∧ v5 = .int .i64 x5_1 ∧ Aside0 (laws_heldIntS.l0 kq l0 x1_1 x5_1 = some r) ∧ Aside0 (kq ≤ k) ∧ Drawn0 w w')
  case atStart => exact ⟨(a1), (0), (by first | rfl | (simp; done) | (simp [*]; done)), (by first | rfl | (simp; done) | (simp [*]; done)), H', ⟨Nat.le_refl _⟩, by repeat (first | exact Drawn0.refl _ | apply Drawn0.step)⟩
  case round =>
    clear H'
    try clear p2
    obtain ⟨x1_1, x5_1, rfl, rfl, HA, HK1, ⟨m1, rfl⟩⟩ := hrel
    cases gk with
    | zero => exact absurd HA.out (by simp [laws_heldIntS.l0])
    | succ k1 =>
      have H := HA.out
      clear HA
      simp only [laws_heldIntS.l0] at H
      by_cases c3 : x5_1 < (l0.length : Int)
      · rw [if_pos c3] at H
        have c3b0 : decide (x5_1 < (l0.length : Int)) = true := decide_eq_true c3
        clear c3
        by_cases c4 : 0 ≤ x5_1
        · rw [if_pos c4] at H
          have c4b0 : decide (0 ≤ x5_1) = true := decide_eq_true c4
          clear c4
          by_cases c5 : (rd l0 x5_1) = x1_1
          · rw [if_pos c5] at H
            have c5b0 : ((rd l0 x5_1) == x1_1) = true := beq_iff_eq.mpr c5
            have c5b1 : ((rd l0 x5_1) != x1_1) = false := bne_eq_false_iff_eq.mpr c5
            clear c5
            have H' := Aside0.mk H
            clear H
            have p169 : 0 ≤ (x5_1 : Int) := of_decide_eq_true (by first | (with_reducible assumption) | assumption)
            have q169 : x5_1 < (l0.length : Int) := of_decide_eq_true (by first | (with_reducible assumption) | assumption)
            obtain ⟨ad169, e169, hx169_0⟩ := Kd.at_int HR0.out x5_1 p169 q169
            cases e169
            replace p169 := eq_true p169
            replace q169 := eq_true q169
            go_wp2
            go_roundg k1
            case measure => have := HK1.out; omega
            case rel => exact ⟨(wrap64 (x1_1 + 1)), (wrap64 (x5_1 + 1)), (by first | rfl | (simp; done) | (simp [*]; done)), (by first | rfl | (simp; done) | (simp [*]; done)), H', ⟨by have := HK1.out; omega⟩, by repeat (first | exact Drawn0.refl _ | apply Drawn0.step)⟩
          · rw [if_neg c5] at H
            have c5b0 : ((rd l0 x5_1) == x1_1) = false := beq_eq_false_iff_ne.mpr c5
            have c5b1 : ((rd l0 x5_1) != x1_1) = true := bne_iff_ne.mpr c5
            obtain rfl := Option.some.inj H
            have p169 : 0 ≤ (x5_1 : Int) := of_decide_eq_true (by first | (with_reducible assumption) | assumption)
            have q169 : x5_1 < (l0.length : Int) := of_decide_eq_true (by first | (with_reducible assumption) | assumption)
            obtain ⟨ad169, e169, hx169_0⟩ := Kd.at_int HR0.out x5_1 p169 q169
            cases e169
            replace p169 := eq_true p169
            replace q169 := eq_true q169
            go_wp2
            go_ret
            exact ⟨by first | rfl | (simp; done) | (simp [*]; done), by repeat (first | exact Drawn0.refl _ | apply Drawn0.step)⟩
        · rw [if_neg c4] at H
          exact absurd H (by simp)
      · rw [if_neg c3] at H
        have c3b0 : decide (x5_1 < (l0.length : Int)) = false := decide_eq_false c3
        clear c3
        obtain rfl := Option.some.inj H
        go_wp2
        go_ret
        exact ⟨by first | rfl | (simp; done) | (simp [*]; done), by repeat (first | exact Drawn0.refl _ | apply Drawn0.step)⟩

/-! ### laws_heldMem: function 28 -/
def laws_heldMem.f (k : Nat) (l0_0 : List Int) (a0_1 : Int) (a1 : Int) : Option (Int) := (laws_heldIntS.f k l0_0 a1).bind fun t171 => (if t171 < 0 then (some (-1)) else (some t171))
theorem laws_heldMem.mono : ∀ a0 a1 a2 k, LeO (laws_heldMem.f k a0 a1 a2) (laws_heldMem.f (k + 1) a0 a1 a2) := by
  intro a0 a1 a2 k
  unfold laws_heldMem.f
  repeat' first
      | (with_reducible exact laws_heldIntS.mono _ _ _)
      | (with_reducible exact LeO.refl _)
      | (with_reducible exact LeO.none _)
      | (with_reducible refine LeO.ite ?_ ?_)
      | (with_reducible refine LeO.bind ?_ (fun _ => ?_))
      | exact laws_heldIntS.mono _ _ _
      | exact LeO.none _
      | refine LeO.ite ?_ ?_
      | refine LeO.bind ?_ (fun _ => ?_)
set_option maxHeartbeats 8000000 in
set_option maxRecDepth 100000 in
theorem laws_heldMem.calls (k : Nat) (A0_0 : Option Addr) (c0_0 : Nat) (l0_0 : List Int) (a0_1 : Int) (a1 : Int) (r : Int) (w : World) (hr0_0 : Kd.C (Kd.int .i64) w A0_0 l0_0.length l0_0) (hc0_0 : l0_0.length ≤ c0_0) (h : laws_heldMem.f k l0_0 a0_1 a1 = some r) :
    Calls Try.prog 28 #[.agg #[.slice A0_0 l0_0.length c0_0, .int .i64 a0_1], .int .i64 a1] w fun e w' => e = .returned (.int .i64 r) ∧ Below w.heap.size w w' := by
  have hu37 := Try.underlying37
  have HR0_0 := Aside0.mk hr0_0
  have HC0_0 := Aside0.mk hc0_0
  clear hr0_0 hc0_0
  have HB := Aside0.mk (Below.refl w.heap.size w)
  have H : ((laws_heldIntS.f k l0_0 a1).bind fun t171 => (if t171 < 0 then (some (-1)) else (some t171))) = some r := h
  clear h
  replace H := Option.bind_eq_some_iff.mp H
  obtain ⟨t171, A30, H⟩ := H
  replace H : (if t171 < 0 then (some (-1)) else (some t171)) = some r := H
  have A3 := Aside0.mk A30
  clear A30
  by_cases c4 : t171 < 0
  · rw [if_pos c4] at H
    have c4b0 : decide (t171 < 0) = true := decide_eq_true c4
    clear c4
    obtain rfl := Option.some.inj H
    go_enter Try.func28, Try.ntmps28
    go_wp2_with (first | ((with_reducible refine gate_dst (N := 2) rfl ?_); refine box_event ?hg (N := 2) ?hd (cs := #[.slice A0_0 l0_0.length c0_0, .int .i64 a0_1]) (t := 37) ?hr ?_; (case hd => rfl); (case hg => rfl); (case hr => first | (go_simp; done) | (go_simp; rfl)); intro gb170 hg w5 hbox hb; have n0_ := Aside0.mk (below_step (by repeat (first | (with_reducible first | exact HB.out | apply below_alloc | apply pw_below_drewN | apply below_drew1) | exact HB.out)) hb); have n1_ := Aside0.mk (hbox); have n2_ := Aside0.mk ((by rw [hg]; exact (below_size (by repeat (first | (with_reducible first | exact HB.out | apply below_alloc | apply pw_below_drewN | apply below_drew1) | exact HB.out))) : w.heap.size ≤ gb170)); have n3_ := Aside0.mk ((by rw [hg]; exact (below_size (by repeat (first | (with_reducible first | exact HB.out | apply below_alloc | apply pw_below_drewN | apply below_drew1) | exact HB.out))) : w.heap.size ≤ gb170)); clear HB; have HB := n0_; have BK170 := n1_; have GW170 := n2_; have GE170 := n3_; clear n0_ n1_ n2_ n3_; clear hb hbox hg; have hcz6_0 : w5.cell? ⟨gb170, 0, none⟩ = some (.slice A0_0 l0_0.length c0_0) := (blk_cell BK170.out 0).trans rfl; have hcz6_1 : w5.cell? ⟨gb170, 1, none⟩ = some (.int .i64 a0_1) := (blk_cell BK170.out 1).trans rfl; have hfz6_0 := blk_frozen BK170.out 0; have hfz6_1 := blk_frozen BK170.out 1) | ((with_reducible refine gate_callee (f := 36) rfl ?_); refine goesL_ (some 8) rfl rfl Try.func36 (by kernel_rfl) rfl #[.slice A0_0 l0_0.length c0_0, .int .i64 a1] rfl (by (try simp only [List.map_toArray, List.map_cons, List.map_nil]); first | done | rfl | (simp only [List.length_drop, List.length_take]; rfl)) ?_; (with_reducible refine (laws_heldIntS.calls k _ _ l0_0 a1 t171 _ ?side1 ?side2 A3.out).mono ?_); (case side1 => repeat (first | exact (Kd.C_below HR0_0.out HB.out) | (with_reducible refine Kd.C_alloc ?_ _) | (with_reducible refine Kd.C_drewN ?_ _) | (with_reducible refine Kd.C_drew ?_))); (case side2 => exact HC0_0.out); rintro e w' ⟨rfl, ⟨nd, rfl⟩⟩; refine ⟨_, rfl, ?_⟩))
    go_ret
    exact ⟨by first | rfl | (simp [errW_none, errW_some] <;> rfl) | (simp [*, errW_none, errW_some] <;> rfl), by repeat (first | (with_reducible first | exact HB.out | apply below_alloc | apply pw_below_drewN | apply below_drew1 | refine below_set ?_ GE170.out) | exact HB.out)⟩
  · rw [if_neg c4] at H
    have c4b0 : decide (t171 < 0) = false := decide_eq_false c4
    clear c4
    obtain rfl := Option.some.inj H
    go_enter Try.func28, Try.ntmps28
    go_wp2_with (first | ((with_reducible refine gate_dst (N := 2) rfl ?_); refine box_event ?hg (N := 2) ?hd (cs := #[.slice A0_0 l0_0.length c0_0, .int .i64 a0_1]) (t := 37) ?hr ?_; (case hd => rfl); (case hg => rfl); (case hr => first | (go_simp; done) | (go_simp; rfl)); intro gb170 hg w7 hbox hb; have n0_ := Aside0.mk (below_step (by repeat (first | (with_reducible first | exact HB.out | apply below_alloc | apply pw_below_drewN | apply below_drew1) | exact HB.out)) hb); have n1_ := Aside0.mk (hbox); have n2_ := Aside0.mk ((by rw [hg]; exact (below_size (by repeat (first | (with_reducible first | exact HB.out | apply below_alloc | apply pw_below_drewN | apply below_drew1) | exact HB.out))) : w.heap.size ≤ gb170)); have n3_ := Aside0.mk ((by rw [hg]; exact (below_size (by repeat (first | (with_reducible first | exact HB.out | apply below_alloc | apply pw_below_drewN | apply below_drew1) | exact HB.out))) : w.heap.size ≤ gb170)); clear HB; have HB := n0_; have BK170 := n1_; have GW170 := n2_; have GE170 := n3_; clear n0_ n1_ n2_ n3_; clear hb hbox hg; have hcz8_0 : w7.cell? ⟨gb170, 0, none⟩ = some (.slice A0_0 l0_0.length c0_0) := (blk_cell BK170.out 0).trans rfl; have hcz8_1 : w7.cell? ⟨gb170, 1, none⟩ = some (.int .i64 a0_1) := (blk_cell BK170.out 1).trans rfl; have hfz8_0 := blk_frozen BK170.out 0; have hfz8_1 := blk_frozen BK170.out 1) | ((with_reducible refine gate_callee (f := 36) rfl ?_); refine goesL_ (some 8) rfl rfl Try.func36 (by kernel_rfl) rfl #[.slice A0_0 l0_0.length c0_0, .int .i64 a1] rfl (by (try simp only [List.map_toArray, List.map_cons, List.map_nil]); first | done | rfl | (simp only [List.length_drop, List.length_take]; rfl)) ?_; (with_reducible refine (laws_heldIntS.calls k _ _ l0_0 a1 t171 _ ?side1 ?side2 A3.out).mono ?_); (case side1 => repeat (first | exact (Kd.C_below HR0_0.out HB.out) | (with_reducible refine Kd.C_alloc ?_ _) | (with_reducible refine Kd.C_drewN ?_ _) | (with_reducible refine Kd.C_drew ?_))); (case side2 => exact HC0_0.out); rintro e w' ⟨rfl, ⟨nd, rfl⟩⟩; refine ⟨_, rfl, ?_⟩))
    go_ret
    exact ⟨by first | rfl | (simp [errW_none, errW_some] <;> rfl) | (simp [*, errW_none, errW_some] <;> rfl), by repeat (first | (with_reducible first | exact HB.out | apply below_alloc | apply pw_below_drewN | apply below_drew1 | refine below_set ?_ GE170.out) | exact HB.out)⟩

-- NOT PRINTED: function 4 (laws_FnExactPush)

end Go.Proofs.Ytmiaocoffmobcaa.MFnExactPush
