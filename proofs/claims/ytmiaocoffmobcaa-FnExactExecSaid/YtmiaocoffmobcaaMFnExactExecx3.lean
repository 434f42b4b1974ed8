/- Walks of functions that the law FnExactExec reaches: each comes to just what its Lean function says. (Begun as the texts that print.sh wrote for this claim; some of them, and those that it does not write, are mine.) No condition. -/
import Derived.Test.YtmiaocoffmobcaaMFnExactExecx2
namespace Go.Proofs.Ytmiaocoffmobcaa.MFnExactExec
open Go.RowKit Go.Proofs.YtmiaocoffmobcaaW.PrintWords Go.Proofs.YtmiaocoffmobcaaW.PrintLast Go.Proofs.YtmiaocoffmobcaaW.PrintMore
attribute [local go_sem] max2_int min2_int max_two min_two max_three min_three max_four min_four   -- for this text's walks alone
set_option linter.unusedVariables false
set_option linter.unusedSimpArgs false

/-! ### impl_copyMem: function 70 -/
def impl_copyMem.f (l0_0 : List Int) (a0_1 : Int) : Option (List Int × Int) := (impl_copyInts.f l0_0).bind fun t470 => (some (t470, a0_1))
set_option maxHeartbeats 8000000 in
set_option maxRecDepth 100000 in
theorem impl_copyMem.calls (A0_0 : Option Addr) (c0_0 : Nat) (l0_0 : List Int) (a0_1 : Int) (r1 : List Int) (r2 : Int) (w : World) (hr0_0 : Kd.C (Kd.int .i64) w A0_0 l0_0.length l0_0) (hc0_0 : l0_0.length ≤ c0_0) (h : impl_copyMem.f l0_0 a0_1 = some (r1, r2)) :
  Calls Try.prog 70 #[.agg #[.slice A0_0 l0_0.length c0_0, .int .i64 a0_1]] w fun e w' => ∃ v0_ : Value, e = .returned (.agg #[v0_, .int .i64 r2]) ∧ Kd.R (Kd.int .i64) 3 w' w.heap.size (fun _ => True) v0_ r1 ∧ Below w.heap.size w w' := by
 have hu37 := Try.underlying37
 have HR0_0 := Aside0.mk hr0_0
 have HC0_0 := Aside0.mk hc0_0
 clear hr0_0 hc0_0
 have HB := Aside0.mk (Below.refl w.heap.size w)
 have H : ((impl_copyInts.f l0_0).bind fun t470 => (some (t470, a0_1))) = some (r1, r2) := h
 clear h
 replace H := Option.bind_eq_some_iff.mp H
 obtain ⟨t470, A20, H⟩ := H
 replace H : (some (t470, a0_1)) = some (r1, r2) := H
 have A2 := Aside0.mk A20
 clear A20
 simp only [Option.some.injEq, Prod.mk.injEq] at H
 obtain ⟨rfl, rfl⟩ := H
 go_enter Try.func70, Try.ntmps70
 try go_wp2_with (first | ((with_reducible refine gate_dst (N := 1) rfl ?_); refine bx (N := 1) (cs := #[.slice A0_0 l0_0.length c0_0, .int .i64 a0_1]) (t := 37) ?_; intro gb468 hg w3 hbox hb; have n0_ := Aside0.mk (below_step (bw HB.out) hb); have n1_ := Aside0.mk (hbox); have n2_ := Aside0.mk ((gs hg (bw HB.out))); have n3_ := Aside0.mk ((gs hg (bw HB.out))); clear HB; have HB := n0_; have BK468 := n1_; have GW468 := n2_; have GE468 := n3_; clear n0_ n1_ n2_ n3_; clear hb hbox hg) | ((with_reducible refine gate_dst (N := 2) rfl ?_); refine bx (N := 2) (cs := #[.slice none 0 0, .int .i64 0]) (t := 37) ?_; intro gb469 hg w4 hbox hb; have n0_ := Aside0.mk (blk_below (g := gb468) (o := .cells #[.slice A0_0 l0_0.length c0_0, .int .i64 a0_1] 37 (0, 0)) (kb BK468.out) hb); have n1_ := Aside0.mk (below_step (bw HB.out) hb); have n2_ := Aside0.mk (hbox); have n3_ := Aside0.mk ((gs hg (bw HB.out))); have n4_ := Aside0.mk ((gs hg (bw HB.out))); have n5_ := Aside0.mk ((ga hg BK468.out)); have n6_ := Aside0.mk ((gc hg BK468.out)); clear BK468; clear HB; have BK468 := n0_; have HB := n1_; have BK469 := n2_; have GW469 := n3_; have GE469 := n4_; have NB468_469 := n5_; have NB469_468 := n6_; clear n0_ n1_ n2_ n3_ n4_ n5_ n6_; clear hb hbox hg))
 have n0_ := Aside0.mk (blk_drew BK468.out)
 have n1_ := Aside0.mk (blk_drew BK469.out)
 have n2_ := Aside0.mk (below_drew1 HB.out)
 clear BK468; clear BK469; clear HB; have BK468 := n0_; have BK469 := n1_; have HB := n2_; clear n0_ n1_ n2_
 refine start_ (n := 7) (S := fun w' => w'.cell? ⟨gb468, 0, none⟩ = some (.slice A0_0 l0_0.length c0_0) ∧ w'.cell? ⟨gb468, 1, none⟩ = some (.int .i64 a0_1)) (ds := []) #[false, false, false, false, false, false, false] (by kernel_rfl) rfl rfl ⟨(blk_cell BK468.out 0).trans rfl, (blk_cell BK468.out 1).trans rfl⟩ (fun hHeld => ?_)
 generalize w4.drew = w5 at BK468 BK469 HB hHeld ⊢
 refine pure_ (i := 0) (N := some 3) (v := ?_) (a' := ?_) #[true, false, false, false, false, false, false] rfl rfl (by kernel_rfl) (fun _ _ _ h => h) (Or.inl ⟨by rfl, ?_⟩) ?_ ?_
 rotate_left
 ·intro w'
  go_simp
  with_reducible rfl
 rotate_left
 ·simp only [Act.put, List.setIfInBounds_toArray, List.set_cons_zero, List.set_cons_succ, i64_w, i32_w]
  rfl
 refine pure_ (i := 3) (N := some 6) (v := ?_) (a' := ?_) #[true, false, false, true, false, false, false] rfl rfl (by kernel_rfl) (fun _ _ _ h => h) (Or.inl ⟨by rfl, ?_⟩) ?_ ?_
 rotate_left
 ·intro w'
  go_simp
  with_reducible rfl
 rotate_left
 ·simp only [Act.put, List.setIfInBounds_toArray, List.set_cons_zero, List.set_cons_succ, i64_w, i32_w]
  rfl
 refine take_ (i := 1) (N := some 4) (v := ?_) (a' := ?_) #[true, true, false, true, false, false, false] rfl rfl (by kernel_rfl) (fun _ _ _ h => h) (Or.inl ⟨by rfl, ?_⟩) hHeld ?_ ?_
 rotate_left
 ·rintro w' ⟨s0, s1⟩
  go_simp
  with_reducible rfl
 rotate_left
 ·simp only [Act.put, List.setIfInBounds_toArray, List.set_cons_zero, List.set_cons_succ, i64_w, i32_w]
  rfl
 refine take_ (i := 4) (N := some 7) (v := ?_) (a' := ?_) #[true, true, false, true, true, false, false] rfl rfl (by kernel_rfl) (fun _ _ _ h => h) (Or.inl ⟨by rfl, ?_⟩) hHeld ?_ ?_
 rotate_left
 ·rintro w' ⟨s0, s1⟩
  go_simp
  with_reducible rfl
 rotate_left
 ·simp only [Act.put, List.setIfInBounds_toArray, List.set_cons_zero, List.set_cons_succ, i64_w, i32_w]
  rfl
 refine one_ (i := 2) (N := some 5) #[true, true, true, true, true, false, false] rfl rfl (by kernel_rfl) (by decide) (fun K hK => ?_)
 refine goes_ Try.func74 (by kernel_rfl) rfl #[.slice A0_0 l0_0.length c0_0] (by rfl) rfl rfl (by (try simp only [List.map_toArray, List.map_cons, List.map_nil]); first | done | rfl | (simp only [List.length_drop, List.length_take]; rfl)) ?_
 with_reducible refine (impl_copyInts.calls _ _ l0_0 t470 _ ?side1 ?side2 A2.out).mono ?_
 (case side1 => exact kc (Kd.C_below HR0_0.out HB.out))
 (case side2 => exact HC0_0.out)
 rintro e w6 ⟨v471, rfl, ho0, hb⟩
 refine ⟨_, rfl, ?_⟩
 have n0_ := Aside0.mk (Kd.R_lower ho0 (below_size (bw HB.out)))
 have n1_ := Aside0.mk (blk_below (g := gb468) (o := .cells #[.slice A0_0 l0_0.length c0_0, .int .i64 a0_1] 37 (0, 0)) (kb BK468.out) hb)
 have n2_ := Aside0.mk (blk_below (g := gb469) (o := .cells #[.slice none 0 0, .int .i64 0] 37 (0, 0)) (kb BK469.out) hb)
 have n3_ := Aside0.mk (below_step (bw HB.out) hb)
 clear BK468; clear BK469; clear HB; have HO472 := n0_; have BK468 := n1_; have BK469 := n2_; have HB := n3_; clear n0_ n1_ n2_ n3_; (try clear hb); (try clear hb2); (try clear hk); (try clear hi); (try clear ho0)
 obtain ⟨Ao7, co7, eo7⟩ := Kd.R_slice HO472.out
 (first | subst eo7 | (injection eo7 with f1_ f2_ f3_; have f4_ := f1_.symm; have f5_ := f3_.symm; clear f1_ f2_ f3_; subst f4_; subst f5_))
 refine hK.out _ _ ⟨(blk_cell BK468.out 0).trans rfl, (blk_cell BK468.out 1).trans rfl⟩ (fun hHeld => ?_)
 clear hK K
 refine norm_ (a' := ?_) ?_ ?_
 rotate_left
 ·show Act.put _ (some 5) _ = _
  simp only [Act.put, List.setIfInBounds_toArray, List.set_cons_zero, List.set_cons_succ, i64_w, i32_w]
  rfl
 refine pure_ (i := 5) (N := some 8) (v := ?_) (a' := ?_) #[true, true, true, true, true, true, false] rfl rfl (by kernel_rfl) (fun _ _ _ h => h) (Or.inl ⟨by rfl, ?_⟩) ?_ ?_
 rotate_left
 ·intro w'
  go_simp
  with_reducible rfl
 rotate_left
 ·simp only [Act.put, List.setIfInBounds_toArray, List.set_cons_zero, List.set_cons_succ, i64_w, i32_w]
  rfl
 refine one_ (i := 6) (N := none) #[true, true, true, true, true, true, true] rfl rfl (by kernel_rfl) (by decide) (fun K hK => ?_)
 have hs8 : w6.cell? ⟨gb469, 0, none⟩ = some (.slice none 0 0) := (blk_cell BK469.out 0).trans rfl
 have hfs8 := blk_frozen BK469.out 0
 have hns8_0 := NB468_469.out
 have hms8_0 := NB469_468.out
 have hs9 : w6.cell? ⟨gb469, 1, none⟩ = some (.int .i64 0) := (blk_cell BK469.out 1).trans rfl
 have hfs9 := blk_frozen BK469.out 1
 have hns9_0 := NB468_469.out
 have hms9_0 := NB469_468.out
 refine skip_ (w1 := ?_) (by rfl) rfl ?_ ?_
 rotate_left
 ·go_simp
  rfl
 refine hK.out _ _ ⟨((cell_far (p := ⟨gb469, _, none⟩) NB468_469.out _).trans (((cell_far (p := ⟨gb469, _, none⟩) NB468_469.out _).trans (hHeld.1)))), ((cell_far (p := ⟨gb469, _, none⟩) NB468_469.out _).trans (((cell_far (p := ⟨gb469, _, none⟩) NB468_469.out _).trans (hHeld.2))))⟩ (fun hHeld => ?_)
 clear hK K
 refine done_ (by kernel_rfl) ?_
 try go_wp2
 refine bodyPost_ret (results_cell_row rfl _ _ gb469 37 #[.slice Ao7 t470.length co7, .int .i64 a0_1] (0, 0) _ rfl (by (with_reducible repeat (first | refine blk_drewN ?_ _ | refine blk_drew ?_ | refine blk_alloc ?_ _)); refine blk_put (cs := #[.slice Ao7 t470.length co7, .int .i64 0]) ?_ 1 _ rfl; (with_reducible repeat (first | refine blk_drewN ?_ _ | refine blk_drew ?_ | refine blk_alloc ?_ _)); refine blk_put (cs := #[.slice none 0 0, .int .i64 0]) ?_ 0 _ rfl; (with_reducible repeat (first | refine blk_drewN ?_ _ | refine blk_drew ?_ | refine blk_alloc ?_ _)); exact BK469.out) Try.underlying37 rfl (by kernel_rfl)) rfl ?_
 exact ⟨_, rt, kr (Kd.R_mono (Kd.R_far (p := ⟨gb469, 1, none⟩) (Kd.R_far (p := ⟨gb469, 0, none⟩) (Kd.R_types HO472.out BK469.out (by decide)) (fun _ hk => hk.2) (.slice Ao7 t470.length co7)) (fun _ hk => hk.2) (.int .i64 a0_1)) (fun _ hk => trivial)), bw HB.out⟩

/-! ### impl_Byte: function 77 -/
def impl_Byte.f (a0 : Int) : Option (Int) := some (Go.bits .and .i64 a0 255)
set_option maxHeartbeats 8000000 in
set_option maxRecDepth 100000 in
theorem impl_Byte.calls (a0 : Int) (r : Int) (w : World) (h : impl_Byte.f a0 = some r) :
  Calls Try.prog 77 #[.int .i64 a0] w fun e w' => e = .returned (.int .i64 r) ∧ Drawn0 w w' := by
 have H : (some (Go.bits .and .i64 a0 255)) = some r := h
 clear h
 obtain rfl := Option.some.inj H
 go_enter Try.func77, Try.ntmps77
 go_wp2
 go_ret
 exact ⟨by first | rfl | (simp; done) | (simp [*]; done), by repeat (first | exact Drawn0.refl _ | apply Drawn0.step)⟩

/-! ### mine_words (mine) -/
theorem and_low (n : Int) (j : Nat) (m : Int) (hj : j < 64) (hm : (BitVec.ofInt 64 m).toNat = 2 ^ j - 1) : Go.bits .and .i64 n m = n % (2 ^ j : Nat) := by
 have key : (BitVec.ofInt 64 n &&& BitVec.ofInt 64 m).toNat = (n % ((2 ^ 64 : Nat) : Int)).toNat % 2 ^ j := by
  rw [BitVec.toNat_and, BitVec.toNat_ofInt, hm, Nat.and_two_pow_sub_one_eq_mod]
 show IntKind.i64.wrap ((BitVec.ofInt 64 n &&& BitVec.ofInt 64 m).toNat : Nat) = n % (2 ^ j : Nat)
 have hd : ((2 ^ j : Nat) : Int) ∣ ((2 ^ 64 : Nat) : Int) := by
  exact_mod_cast Nat.pow_dvd_pow 2 (Nat.le_of_lt hj)
 have hp : (0 : Int) < ((2 ^ j : Nat) : Int) := by exact_mod_cast Nat.two_pow_pos j
 have hle : ((2 ^ j : Nat) : Int) ≤ ((2 ^ 63 : Nat) : Int) := by
  exact_mod_cast Nat.pow_le_pow_right (by decide) (by omega)
 have e : (((n % ((2 ^ 64 : Nat) : Int)).toNat % 2 ^ j : Nat) : Int) = n % ((2 ^ j : Nat) : Int) := by
  rw [Int.natCast_emod, Int.toNat_of_nonneg (Int.emod_nonneg _ (by decide)), Int.emod_emod_of_dvd _ hd]
 rw [key, e, IntKind.wrap_i64]
 have h0 := Int.emod_nonneg n (Int.ne_of_gt hp)
 have h1 := Int.emod_lt_of_pos n hp
 generalize n % ((2 ^ j : Nat) : Int) = x at *
 generalize ((2 ^ j : Nat) : Int) = y at *
 have : ((2 ^ 63 : Nat) : Int) = 9223372036854775808 := by decide
 omega
theorem and255 (n : Int) : Go.bits .and .i64 n 255 = n % 256 := and_low n 8 255 (by decide) (by decide)
theorem and65535 (n : Int) : Go.bits .and .i64 n 65535 = n % 65536 := and_low n 16 65535 (by decide) (by decide)
/-- A processor's registers and flags. -/
structure Cp where
 A : Int
 X : Int
 S : Int
 P : Int
 Z : Bool
 N : Bool
 C : Bool
 I : Bool
def Cp.cells (k : Cp) : Array Value := #[.int .i64 k.A, .int .i64 k.X, .int .i64 k.S, .int .i64 k.P, .bool k.Z, .bool k.N, .bool k.C, .bool k.I]
/-- A memory at x and a processor at c, both of the call's own; rv is the memory's row. -/
structure MC (w0 w : World) (x c : Nat) (rv : Value) (b : Int) (k : Cp) (ram : List Int) : Prop where
 mem : w.heap[x]? = some (.cells #[rv, .int .i64 b] 37 (0, 0))
 cpu : w.heap[c]? = some (.cells k.cells 38 (0, 0))
 row : Kd.R (Kd.int .i64) 3 w w0.heap.size (fun _ => True) rv ram
 hx : w0.heap.size ≤ x
 hc : w0.heap.size ≤ c
 below : Below w0.heap.size w0 w
theorem MC.ne {w0 w : World} {x c : Nat} {rv : Value} {b : Int} {k : Cp} {ram : List Int} (h : MC w0 w x c rv b k ram) : x ≠ c := blk_ne h.mem h.cpu (by decide)
theorem MC.far {w0 w : World} {x c : Nat} {rv : Value} {b : Int} {k : Cp} {ram : List Int} (h : MC w0 w x c rv b k ram) : some x ≠ rv.ownBlock ∧ some c ≠ rv.ownBlock := ⟨Kd.R_ne h.row h.mem (by decide), Kd.R_ne h.row h.cpu (by decide)⟩
/-- A world that differs only above. -/
theorem MC.later {w0 w w1 : World} {x c : Nat} {rv : Value} {b : Int} {k : Cp} {ram : List Int} (h : MC w0 w x c rv b k ram) (hb : Below w.heap.size w w1) : MC w0 w1 x c rv b k ram :=
 ⟨blk_below h.mem hb, blk_below h.cpu hb, Kd.R_below h.row hb, h.hx, h.hc, below_then h.below h.below.size hb⟩
theorem MC.drewN {w0 w : World} {x c : Nat} {rv : Value} {b : Int} {k : Cp} {ram : List Int} (h : MC w0 w x c rv b k ram) (n : Nat) : MC w0 (w.drewN n) x c rv b k ram := h.later (pw_below_drewN (Below.refl _ _) n)
theorem MC.drew {w0 w : World} {x c : Nat} {rv : Value} {b : Int} {k : Cp} {ram : List Int} (h : MC w0 w x c rv b k ram) : MC w0 w.drew x c rv b k ram := h.later (below_drew1 (Below.refl _ _))
/-- A store into the processor. -/
theorem MC.setC {w0 w : World} {x c : Nat} {rv : Value} {b : Int} {k k' : Cp} {ram : List Int} (h : MC w0 w x c rv b k ram) (i : Nat) (u : Value) (e : k.cells.setIfInBounds i u = k'.cells) : MC w0 (w.setCell ⟨c, i, none⟩ u) x c rv b k' ram :=
 ⟨blk_far h.mem h.ne u, blk_put h.cpu i u e, Kd.R_mono (Kd.R_far (p := ⟨c, i, none⟩) (Kd.R_types h.row h.cpu (by decide)) (fun _ hk => hk.2) u) (fun _ hk => hk.1), h.hx, h.hc, below_set h.below h.hc⟩
/-- A store into the memory's row. -/
theorem MC.setR {w0 w : World} {x c g cap : Nat} {b : Int} {k : Cp} {ram : List Int} (h : MC w0 w x c (.slice (some ⟨g, 0, none⟩) ram.length cap) b k ram) (hg : w0.heap.size ≤ g) (i v : Int) :
  MC w0 (w.setCell ⟨g, i.toNat, none⟩ (.int .i64 v)) x c (.slice (some ⟨g, 0, none⟩) ram.length cap) b k (ram.set i.toNat v) :=
 ⟨blk_far h.mem (fun e => h.far.1 (by rw [e]; rfl)) _, blk_far h.cpu (fun e => h.far.2 (by rw [e]; rfl)) _, Kd.R_putn h.row i v, h.hx, h.hc, below_set h.below hg⟩
theorem kept_set {w W : World} {S : Nat → Prop} (h : Kept w W S) {g i : Nat} (hg : S g) (u : Value) : Kept w (W.setCell ⟨g, i, none⟩ u) S := h.setCell (.inl hg) u
theorem byte_same (a : Int) (w : World) : Calls Try.prog 77 #[.int .i64 a] w fun e w' => e = .returned (.int .i64 (a % 256)) ∧ w' = w := by
 rw [← and255]
 go_enter Try.func77, Try.ntmps77
 go_wp2
 go_ret
 exact ⟨rfl, rfl⟩

/-! ### mine_rows (mine) -/
section
variable {w : World} {r : Nat} {t : TypeId}
theorem heap2 (w : World) (r k : Nat) (u0 u1 : Value) (h : k ≠ r) : ((w.setCell ⟨r, 0, none⟩ u0).setCell ⟨r, 1, none⟩ u1).heap[k]? = w.heap[k]? := by
 refine (Below.heap_setCell _ _ _ k h).trans ?_
 exact Below.heap_setCell _ _ _ k h
theorem put2 {o0 o1 : Value} (h : w.heap[r]? = some (.cells #[o0, o1] t (0, 0))) (u0 u1 : Value) : ((w.setCell ⟨r, 0, none⟩ u0).setCell ⟨r, 1, none⟩ u1).heap[r]? = some (.cells #[u0, u1] t (0, 0)) := by
 refine blk_put (cs := #[u0, o1]) ?_ 1 _ rfl
 exact blk_put h 0 _ rfl
theorem heap8 (w : World) (r k : Nat) (u0 u1 u2 u3 u4 u5 u6 u7 : Value) (h : k ≠ r) : ((((((((w.setCell ⟨r, 0, none⟩ u0).setCell ⟨r, 1, none⟩ u1).setCell ⟨r, 2, none⟩ u2).setCell ⟨r, 3, none⟩ u3).setCell ⟨r, 4, none⟩ u4).setCell ⟨r, 5, none⟩ u5).setCell ⟨r, 6, none⟩ u6).setCell ⟨r, 7, none⟩ u7).heap[k]? = w.heap[k]? := by
 refine (Below.heap_setCell _ _ _ k h).trans ?_
 refine (Below.heap_setCell _ _ _ k h).trans ?_
 refine (Below.heap_setCell _ _ _ k h).trans ?_
 refine (Below.heap_setCell _ _ _ k h).trans ?_
 refine (Below.heap_setCell _ _ _ k h).trans ?_
 refine (Below.heap_setCell _ _ _ k h).trans ?_
 refine (Below.heap_setCell _ _ _ k h).trans ?_
 exact Below.heap_setCell _ _ _ k h
theorem put8 {o0 o1 o2 o3 o4 o5 o6 o7 : Value} (h : w.heap[r]? = some (.cells #[o0, o1, o2, o3, o4, o5, o6, o7] t (0, 0))) (u0 u1 u2 u3 u4 u5 u6 u7 : Value) :
  ((((((((w.setCell ⟨r, 0, none⟩ u0).setCell ⟨r, 1, none⟩ u1).setCell ⟨r, 2, none⟩ u2).setCell ⟨r, 3, none⟩ u3).setCell ⟨r, 4, none⟩ u4).setCell ⟨r, 5, none⟩ u5).setCell ⟨r, 6, none⟩ u6).setCell ⟨r, 7, none⟩ u7).heap[r]? = some (.cells #[u0, u1, u2, u3, u4, u5, u6, u7] t (0, 0)) := by
 refine blk_put (cs := #[u0, u1, u2, u3, u4, u5, u6, o7]) ?_ 7 _ rfl
 refine blk_put (cs := #[u0, u1, u2, u3, u4, u5, o6, o7]) ?_ 6 _ rfl
 refine blk_put (cs := #[u0, u1, u2, u3, u4, o5, o6, o7]) ?_ 5 _ rfl
 refine blk_put (cs := #[u0, u1, u2, u3, o4, o5, o6, o7]) ?_ 4 _ rfl
 refine blk_put (cs := #[u0, u1, u2, o3, o4, o5, o6, o7]) ?_ 3 _ rfl
 refine blk_put (cs := #[u0, u1, o2, o3, o4, o5, o6, o7]) ?_ 2 _ rfl
 refine blk_put (cs := #[u0, o1, o2, o3, o4, o5, o6, o7]) ?_ 1 _ rfl
 exact blk_put h 0 _ rfl
end
theorem row8 {w : World} {r m : Nat} {rv : Value} {ram : List Int} {o0 o1 o2 o3 o4 o5 o6 o7 : Value} (h : Kd.R (Kd.int .i64) 3 w m (fun _ => True) rv ram) (hb : w.heap[r]? = some (.cells #[o0, o1, o2, o3, o4, o5, o6, o7] 38 (0, 0))) (u0 u1 u2 u3 u4 u5 u6 u7 : Value) :
  Kd.R (Kd.int .i64) 3 ((((((((w.setCell ⟨r, 0, none⟩ u0).setCell ⟨r, 1, none⟩ u1).setCell ⟨r, 2, none⟩ u2).setCell ⟨r, 3, none⟩ u3).setCell ⟨r, 4, none⟩ u4).setCell ⟨r, 5, none⟩ u5).setCell ⟨r, 6, none⟩ u6).setCell ⟨r, 7, none⟩ u7) m (fun _ => True) rv ram :=
 Kd.R_mono (Kd.R_far (p := ⟨r, 7, none⟩) (Kd.R_far (p := ⟨r, 6, none⟩) (Kd.R_far (p := ⟨r, 5, none⟩) (Kd.R_far (p := ⟨r, 4, none⟩) (Kd.R_far (p := ⟨r, 3, none⟩) (Kd.R_far (p := ⟨r, 2, none⟩) (Kd.R_far (p := ⟨r, 1, none⟩) (Kd.R_far (p := ⟨r, 0, none⟩) (Kd.R_types h hb (by decide)) (fun _ hk => hk.2) u0) (fun _ hk => hk.2) u1) (fun _ hk => hk.2) u2) (fun _ hk => hk.2) u3) (fun _ hk => hk.2) u4) (fun _ hk => hk.2) u5) (fun _ hk => hk.2) u6) (fun _ hk => hk.2) u7) (fun _ _ => trivial)
theorem below8 {w W : World} {r : Nat} (h : Below w.heap.size w W) (hr : w.heap.size ≤ r) (u0 u1 u2 u3 u4 u5 u6 u7 : Value) : Below w.heap.size w ((((((((W.setCell ⟨r, 0, none⟩ u0).setCell ⟨r, 1, none⟩ u1).setCell ⟨r, 2, none⟩ u2).setCell ⟨r, 3, none⟩ u3).setCell ⟨r, 4, none⟩ u4).setCell ⟨r, 5, none⟩ u5).setCell ⟨r, 6, none⟩ u6).setCell ⟨r, 7, none⟩ u7) :=
 (below_set (below_set (below_set (below_set (below_set (below_set (below_set (below_set h hr) hr) hr) hr) hr) hr) hr) hr)

/-! ### mem_events (mine) -/
theorem eval_get {a : Act} {t : Nat} {v : Value} (h : a.eval (.tmp t) = v) : a.tmps[t]?.getD undef = v := by
 rw [← h]
 show _ = a.tmps.getD t undef
 rw [Array.getD_eq_getD_getElem?]
/-- What an operation of such a region may put: a memory in a row of its own; a memory beside a processor; a new block. -/
def isMem (lo : Nat) (xs : List Int) (b : Int) (v : Value) (w : World) : Prop := ∃ u, v = .agg #[u, .int .i64 b] ∧ Kd.R (Kd.int .i64) 3 w lo (fun _ => True) u xs
def isPair (lo : Nat) (xs : List Int) (b : Int) (c : Value) (v : Value) (w : World) : Prop := ∃ u, v = .tuple #[.agg #[u, .int .i64 b], c] ∧ Kd.R (Kd.int .i64) 3 w lo (fun _ => True) u xs
def isNew (lo : Nat) (t : TypeId) (cs : Array Value) (v : Value) (w : World) : Prop := ∃ g, v = .pointer (some ⟨g, 0, none⟩) ∧ lo ≤ g ∧ w.heap[g]? = some (.cells cs t (0, 0))
theorem isMem_below {lo : Nat} {xs : List Int} {b : Int} {v : Value} {w w' : World} (h : isMem lo xs b v w) (hb : Below w.heap.size w w') : isMem lo xs b v w' := by
 obtain ⟨u, e, r⟩ := h
 exact ⟨u, e, Kd.R_below r hb⟩
theorem isPair_below {lo : Nat} {xs : List Int} {b : Int} {c v : Value} {w w' : World} (h : isPair lo xs b c v w) (hb : Below w.heap.size w w') : isPair lo xs b c v w' := by
 obtain ⟨u, e, r⟩ := h
 exact ⟨u, e, Kd.R_below r hb⟩
theorem isNew_below {lo : Nat} {t : TypeId} {cs : Array Value} {v : Value} {w w' : World} (h : isNew lo t cs v w) (hb : Below w.heap.size w w') : isNew lo t cs v w' := by
 obtain ⟨g, e, hl, hg⟩ := h
 exact ⟨g, e, hl, blk_below hg hb⟩
theorem rowS2 {w : World} {r m : Nat} {ok : Nat → Prop} {rv : Value} {ram : List Int} {o0 o1 : Value} (h : Kd.R (Kd.int .i64) 3 w m ok rv ram) (hb : w.heap[r]? = some (.cells #[o0, o1] 37 (0, 0))) (u0 u1 : Value) :
  Kd.R (Kd.int .i64) 3 ((w.setCell ⟨r, 0, none⟩ u0).setCell ⟨r, 1, none⟩ u1) m ok rv ram :=
 Kd.R_mono (Kd.R_far (p := ⟨r, 1, none⟩) (Kd.R_far (p := ⟨r, 0, none⟩) (Kd.R_types h hb (by decide)) (fun _ hk => hk.2) u0) (fun _ hk => hk.2) u1) (fun _ hk => hk.1)
theorem rowS8 {w : World} {r m : Nat} {ok : Nat → Prop} {rv : Value} {ram : List Int} {o0 o1 o2 o3 o4 o5 o6 o7 : Value} (h : Kd.R (Kd.int .i64) 3 w m ok rv ram) (hb : w.heap[r]? = some (.cells #[o0, o1, o2, o3, o4, o5, o6, o7] 38 (0, 0))) (u0 u1 u2 u3 u4 u5 u6 u7 : Value) :
  Kd.R (Kd.int .i64) 3 ((((((((w.setCell ⟨r, 0, none⟩ u0).setCell ⟨r, 1, none⟩ u1).setCell ⟨r, 2, none⟩ u2).setCell ⟨r, 3, none⟩ u3).setCell ⟨r, 4, none⟩ u4).setCell ⟨r, 5, none⟩ u5).setCell ⟨r, 6, none⟩ u6).setCell ⟨r, 7, none⟩ u7) m ok rv ram :=
 Kd.R_mono (Kd.R_far (p := ⟨r, 7, none⟩) (Kd.R_far (p := ⟨r, 6, none⟩) (Kd.R_far (p := ⟨r, 5, none⟩) (Kd.R_far (p := ⟨r, 4, none⟩) (Kd.R_far (p := ⟨r, 3, none⟩) (Kd.R_far (p := ⟨r, 2, none⟩) (Kd.R_far (p := ⟨r, 1, none⟩) (Kd.R_far (p := ⟨r, 0, none⟩) (Kd.R_types h hb (by decide)) (fun _ hk => hk.2) u0) (fun _ hk => hk.2) u1) (fun _ hk => hk.2) u2) (fun _ hk => hk.2) u3) (fun _ hk => hk.2) u4) (fun _ hk => hk.2) u5) (fun _ hk => hk.2) u6) (fun _ hk => hk.2) u7) (fun _ hk => hk.1)
theorem below2 {w W : World} {r : Nat} (h : Below w.heap.size w W) (hr : w.heap.size ≤ r) (u0 u1 : Value) : Below w.heap.size w ((W.setCell ⟨r, 0, none⟩ u0).setCell ⟨r, 1, none⟩ u1) := below_set (below_set h hr) hr
/-- Behind the stores of a memory and of a processor into blocks of their own. -/
theorem stored {W : World} {g1 g2 : Nat} {q0 q1 : Value} {o0 o1 o2 o3 o4 o5 o6 o7 : Value} (hb1 : W.heap[g1]? = some (.cells #[q0, q1] 37 (0, 0))) (hb2 : W.heap[g2]? = some (.cells #[o0, o1, o2, o3, o4, o5, o6, o7] 38 (0, 0))) (p0 p1 : Value) (u0 u1 u2 u3 u4 u5 u6 u7 : Value) :
  ((((((((((W.setCell ⟨g1, 0, none⟩ p0).setCell ⟨g1, 1, none⟩ p1).setCell ⟨g2, 0, none⟩ u0).setCell ⟨g2, 1, none⟩ u1).setCell ⟨g2, 2, none⟩ u2).setCell ⟨g2, 3, none⟩ u3).setCell ⟨g2, 4, none⟩ u4).setCell ⟨g2, 5, none⟩ u5).setCell ⟨g2, 6, none⟩ u6).setCell ⟨g2, 7, none⟩ u7).heap[g1]? = some (.cells #[p0, p1] 37 (0, 0)) ∧ ((((((((((W.setCell ⟨g1, 0, none⟩ p0).setCell ⟨g1, 1, none⟩ p1).setCell ⟨g2, 0, none⟩ u0).setCell ⟨g2, 1, none⟩ u1).setCell ⟨g2, 2, none⟩ u2).setCell ⟨g2, 3, none⟩ u3).setCell ⟨g2, 4, none⟩ u4).setCell ⟨g2, 5, none⟩ u5).setCell ⟨g2, 6, none⟩ u6).setCell ⟨g2, 7, none⟩ u7).heap[g2]? = some (.cells #[u0, u1, u2, u3, u4, u5, u6, u7] 38 (0, 0)) ∧ (∀ k, k ≠ g1 → k ≠ g2 → ((((((((((W.setCell ⟨g1, 0, none⟩ p0).setCell ⟨g1, 1, none⟩ p1).setCell ⟨g2, 0, none⟩ u0).setCell ⟨g2, 1, none⟩ u1).setCell ⟨g2, 2, none⟩ u2).setCell ⟨g2, 3, none⟩ u3).setCell ⟨g2, 4, none⟩ u4).setCell ⟨g2, 5, none⟩ u5).setCell ⟨g2, 6, none⟩ u6).setCell ⟨g2, 7, none⟩ u7).heap[k]? = W.heap[k]?) ∧
   (∀ lo ok u xs, Kd.R (Kd.int .i64) 3 W lo ok u xs → Kd.R (Kd.int .i64) 3 ((((((((((W.setCell ⟨g1, 0, none⟩ p0).setCell ⟨g1, 1, none⟩ p1).setCell ⟨g2, 0, none⟩ u0).setCell ⟨g2, 1, none⟩ u1).setCell ⟨g2, 2, none⟩ u2).setCell ⟨g2, 3, none⟩ u3).setCell ⟨g2, 4, none⟩ u4).setCell ⟨g2, 5, none⟩ u5).setCell ⟨g2, 6, none⟩ u6).setCell ⟨g2, 7, none⟩ u7) lo ok u xs) ∧ (∀ w : World, Below w.heap.size w W → w.heap.size ≤ g1 → w.heap.size ≤ g2 → Below w.heap.size w ((((((((((W.setCell ⟨g1, 0, none⟩ p0).setCell ⟨g1, 1, none⟩ p1).setCell ⟨g2, 0, none⟩ u0).setCell ⟨g2, 1, none⟩ u1).setCell ⟨g2, 2, none⟩ u2).setCell ⟨g2, 3, none⟩ u3).setCell ⟨g2, 4, none⟩ u4).setCell ⟨g2, 5, none⟩ u5).setCell ⟨g2, 6, none⟩ u6).setCell ⟨g2, 7, none⟩ u7)) := by
 have hne : g1 ≠ g2 := blk_ne hb1 hb2 (by decide)
 have h2 : ((W.setCell ⟨g1, 0, none⟩ p0).setCell ⟨g1, 1, none⟩ p1).heap[g2]? = some (.cells #[o0, o1, o2, o3, o4, o5, o6, o7] 38 (0, 0)) := (heap2 _ _ _ _ _ hne.symm).trans hb2
 exact ⟨(heap8 _ _ _ _ _ _ _ _ _ _ _ hne).trans (put2 hb1 _ _), put8 h2 _ _ _ _ _ _ _ _, fun k h h' => (heap8 _ _ _ _ _ _ _ _ _ _ _ h').trans (heap2 _ _ _ _ _ h),
  fun lo ok u xs h => rowS8 (rowS2 h hb1 _ _) h2 _ _ _ _ _ _ _ _, fun w h k1 k2 => below8 (below2 h k1 _ _) k2 _ _ _ _ _ _ _ _⟩

/-! ### mem_pairs (mine) -/
/-- The boxes of the law's own arguments, at the call's first blocks. -/
structure ArgW (w W : World) (a b : Array Value) : Prop where
 below : Below w.heap.size w W
 fst : W.heap[w.heap.size]? = some (.cells a 33 (0, 0))
 snd : W.heap[w.heap.size + 1]? = some (.cells b 35 (0, 0))
theorem ArgW.kept {w W W' : World} {a b : Array Value} {S : Nat → Prop} (h : ArgW w W a b) (hk : Kept W W' S) (hb : Below w.heap.size w W') (hS : ∀ k, k < w.heap.size + 2 → ¬ S k) : ArgW w W' a b :=
 ⟨hb, blk_kept h.fst hk (hS _ (by omega)), blk_kept h.snd hk (hS _ (by omega))⟩
/-- A memory and a processor in blocks of their own, between two heights. -/
structure PairW (w W : World) (g1 g2 : Nat) (A : Option Addr) (c : Nat) (xs : List Int) (b : Int) (cs : Array Value) (lo hi : Nat) : Prop where
 mem : W.heap[g1]? = some (.cells #[.slice A xs.length c, .int .i64 b] 37 (0, 0))
 cpu : W.heap[g2]? = some (.cells cs 38 (0, 0))
 row : Kd.R (Kd.int .i64) 3 W w.heap.size (fun k => lo ≤ k ∧ k < hi ∧ k ≠ g1 ∧ k ≠ g2) (.slice A xs.length c) xs
 h1 : lo ≤ g1 ∧ g1 < hi
 h2 : lo ≤ g2 ∧ g2 < hi
theorem PairW.kept {w W W' : World} {g1 g2 : Nat} {A : Option Addr} {c : Nat} {xs : List Int} {b : Int} {cs : Array Value} {lo hi : Nat} {S : Nat → Prop} (h : PairW w W g1 g2 A c xs b cs lo hi) (hk : Kept W W' S) (hS : ∀ k, lo ≤ k → k < hi → ¬ S k) : PairW w W' g1 g2 A c xs b cs lo hi :=
 ⟨blk_kept h.mem hk (hS _ h.h1.1 h.h1.2), blk_kept h.cpu hk (hS _ h.h2.1 h.h2.2), Kd.R_kept h.row hk (fun k hk => hS k hk.1 hk.2.1), h.h1, h.h2⟩
/-- A memory alone. -/
structure MemW (w W : World) (g : Nat) (A : Option Addr) (c : Nat) (xs : List Int) (b : Int) (lo hi : Nat) : Prop where
 mem : W.heap[g]? = some (.cells #[.slice A xs.length c, .int .i64 b] 37 (0, 0))
 row : Kd.R (Kd.int .i64) 3 W w.heap.size (fun k => lo ≤ k ∧ k < hi ∧ k ≠ g) (.slice A xs.length c) xs
 h1 : lo ≤ g ∧ g < hi
theorem MemW.kept {w W W' : World} {g : Nat} {A : Option Addr} {c : Nat} {xs : List Int} {b : Int} {lo hi : Nat} {S : Nat → Prop} (h : MemW w W g A c xs b lo hi) (hk : Kept W W' S) (hS : ∀ k, lo ≤ k → k < hi → ¬ S k) : MemW w W' g A c xs b lo hi :=
 ⟨blk_kept h.mem hk (hS _ h.h1.1 h.h1.2), Kd.R_kept h.row hk (fun k hk => hS k hk.1 hk.2.1), h.h1⟩
theorem R_between {W : World} {lo base : Nat} {u : Value} {xs : List Int} {ok : Nat → Prop} (h : Kd.R (Kd.int .i64) 3 W lo ok u xs) (hb : base ≤ lo) : Kd.R (Kd.int .i64) 3 W base (fun k => ok k ∧ lo ≤ k ∧ k < W.heap.size) u xs :=
 Kd.R_lower (Kd.R_mono (Kd.R_bound h) (fun k hk => ⟨hk.1, hk.2.1, hk.2.2.1⟩)) hb
theorem pair_made {w W1 W : World} {g1 g2 : Nat} {u : Value} {xs : List Int} {q0 q1 o0 o1 o2 o3 o4 o5 o6 o7 : Value} (hB : Below w.heap.size w W1) (hW : Below W1.heap.size W1.drew W) (hR : Kd.R (Kd.int .i64) 3 W W1.heap.size (fun _ => True) u xs)
  (hb1 : W.heap[g1]? = some (.cells #[q0, q1] 37 (0, 0))) (hb2 : W.heap[g2]? = some (.cells #[o0, o1, o2, o3, o4, o5, o6, o7] 38 (0, 0))) (hg1 : W1.heap.size ≤ g1) (hg2 : W1.heap.size ≤ g2) (b : Int) (u0 u1 u2 u3 u4 u5 u6 u7 : Value) :
  ∃ A c, u = .slice A xs.length c ∧ PairW w ((((((((((W.setCell ⟨g1, 0, none⟩ u).setCell ⟨g1, 1, none⟩ (.int .i64 b)).setCell ⟨g2, 0, none⟩ u0).setCell ⟨g2, 1, none⟩ u1).setCell ⟨g2, 2, none⟩ u2).setCell ⟨g2, 3, none⟩ u3).setCell ⟨g2, 4, none⟩ u4).setCell ⟨g2, 5, none⟩ u5).setCell ⟨g2, 6, none⟩ u6).setCell ⟨g2, 7, none⟩ u7) g1 g2 A c xs b #[u0, u1, u2, u3, u4, u5, u6, u7] W1.heap.size ((((((((((W.setCell ⟨g1, 0, none⟩ u).setCell ⟨g1, 1, none⟩ (.int .i64 b)).setCell ⟨g2, 0, none⟩ u0).setCell ⟨g2, 1, none⟩ u1).setCell ⟨g2, 2, none⟩ u2).setCell ⟨g2, 3, none⟩ u3).setCell ⟨g2, 4, none⟩ u4).setCell ⟨g2, 5, none⟩ u5).setCell ⟨g2, 6, none⟩ u6).setCell ⟨g2, 7, none⟩ u7).heap.size ∧ Kept W1 ((((((((((W.setCell ⟨g1, 0, none⟩ u).setCell ⟨g1, 1, none⟩ (.int .i64 b)).setCell ⟨g2, 0, none⟩ u0).setCell ⟨g2, 1, none⟩ u1).setCell ⟨g2, 2, none⟩ u2).setCell ⟨g2, 3, none⟩ u3).setCell ⟨g2, 4, none⟩ u4).setCell ⟨g2, 5, none⟩ u5).setCell ⟨g2, 6, none⟩ u6).setCell ⟨g2, 7, none⟩ u7) (fun _ => False) ∧ Below w.heap.size w ((((((((((W.setCell ⟨g1, 0, none⟩ u).setCell ⟨g1, 1, none⟩ (.int .i64 b)).setCell ⟨g2, 0, none⟩ u0).setCell ⟨g2, 1, none⟩ u1).setCell ⟨g2, 2, none⟩ u2).setCell ⟨g2, 3, none⟩ u3).setCell ⟨g2, 4, none⟩ u4).setCell ⟨g2, 5, none⟩ u5).setCell ⟨g2, 6, none⟩ u6).setCell ⟨g2, 7, none⟩ u7) := by
 obtain ⟨A, c, rfl⟩ := Kd.R_slice hR
 obtain ⟨s1, s2, s3, s4, s5⟩ := stored hb1 hb2 (.slice A xs.length c) (.int .i64 b) u0 u1 u2 u3 u4 u5 u6 u7
 have hsz := hB.size
 have hb := s5 w (below_step (w := w) (W := W1.drew) (below_drew1 hB) hW) (by omega) (by omega)
 have hk := s5 W1.drew hW hg1 hg2
 have r := s4 _ _ _ _ hR
 generalize ((((((((((W.setCell ⟨g1, 0, none⟩ (.slice A xs.length c)).setCell ⟨g1, 1, none⟩ (.int .i64 b)).setCell ⟨g2, 0, none⟩ u0).setCell ⟨g2, 1, none⟩ u1).setCell ⟨g2, 2, none⟩ u2).setCell ⟨g2, 3, none⟩ u3).setCell ⟨g2, 4, none⟩ u4).setCell ⟨g2, 5, none⟩ u5).setCell ⟨g2, 6, none⟩ u6).setCell ⟨g2, 7, none⟩ u7) = Z at *
 have k1 := blk_lt s1
 have k2 := blk_lt s2
 refine ⟨A, c, rfl, ⟨s1, s2, ?_, ⟨hg1, k1⟩, ⟨hg2, k2⟩⟩, ⟨hk.size, fun i hi _ => hk.block i hi⟩, hb⟩
 exact Kd.R_mono (Kd.R_types (Kd.R_types (R_between r hsz) s1 (by decide)) s2 (by decide)) (fun k hk => ⟨hk.1.1.2.1, hk.1.1.2.2, hk.1.2, hk.2⟩)
theorem mem_made {w W1 W : World} {g1 : Nat} {u : Value} {xs : List Int} {q0 q1 : Value} (hB : Below w.heap.size w W1) (hW : Below W1.heap.size W1 W) (hR : Kd.R (Kd.int .i64) 3 W W1.heap.size (fun _ => True) u xs)
  (hb1 : W.heap[g1]? = some (.cells #[q0, q1] 37 (0, 0))) (hg1 : W1.heap.size ≤ g1) (b : Int) :
  ∃ A c, u = .slice A xs.length c ∧ MemW w ((W.setCell ⟨g1, 0, none⟩ u).setCell ⟨g1, 1, none⟩ (.int .i64 b)) g1 A c xs b W1.heap.size ((W.setCell ⟨g1, 0, none⟩ u).setCell ⟨g1, 1, none⟩ (.int .i64 b)).heap.size ∧ Kept W1 ((W.setCell ⟨g1, 0, none⟩ u).setCell ⟨g1, 1, none⟩ (.int .i64 b)) (fun _ => False) ∧ Below w.heap.size w ((W.setCell ⟨g1, 0, none⟩ u).setCell ⟨g1, 1, none⟩ (.int .i64 b)) := by
 obtain ⟨A, c, rfl⟩ := Kd.R_slice hR
 have hsz := hB.size
 have s1 := put2 hb1 (.slice A xs.length c) (.int .i64 b)
 have hb := below2 (below_step hB hW) (show w.heap.size ≤ g1 by omega) (.slice A xs.length c) (.int .i64 b)
 have hk := below2 (w := W1) hW hg1 (.slice A xs.length c) (.int .i64 b)
 have r := rowS2 hR hb1 (.slice A xs.length c) (.int .i64 b)
 generalize ((W.setCell ⟨g1, 0, none⟩ (.slice A xs.length c)).setCell ⟨g1, 1, none⟩ (.int .i64 b)) = Z at *
 have k1 := blk_lt s1
 refine ⟨A, c, rfl, ⟨s1, ?_, ⟨hg1, k1⟩⟩, ⟨hk.size, fun i hi _ => hk.block i hi⟩, hb⟩
 exact Kd.R_mono (Kd.R_types (R_between r hsz) s1 (by decide)) (fun k hk => ⟨hk.1.2.1, hk.1.2.2, hk.2⟩)
theorem mem_made0 {w W1 W : World} {g1 : Nat} {A : Option Addr} {c : Nat} {xs : List Int} {b : Int} (hB : Below w.heap.size w W1) (hW : Below W1.heap.size W1 W) (hR : Kd.R (Kd.int .i64) 3 W W1.heap.size (fun _ => True) (.slice A xs.length c) xs)
  (hb1 : W.heap[g1]? = some (.cells #[.slice A xs.length c, .int .i64 b] 37 (0, 0))) (hg1 : W1.heap.size ≤ g1) : MemW w W g1 A c xs b W1.heap.size W.heap.size ∧ Kept W1 W (fun _ => False) ∧ Below w.heap.size w W := by
 have hsz := hB.size
 have k1 := blk_lt hb1
 refine ⟨⟨hb1, ?_, ⟨hg1, k1⟩⟩, ⟨hW.size, fun i hi _ => hW.block i hi⟩, below_step hB hW⟩
 exact Kd.R_mono (Kd.R_types (R_between hR hsz) hb1 (by decide)) (fun k hk => ⟨hk.1.2.1, hk.1.2.2, hk.2⟩)
/-- A memory of the call's own, to be read only. -/
structure OwnW (w W : World) (g : Nat) (A : Option Addr) (c : Nat) (xs : List Int) (b : Int) : Prop where
 mem : W.heap[g]? = some (.cells #[.slice A xs.length c, .int .i64 b] 37 (0, 0))
 row : ∃ ok, Kd.R (Kd.int .i64) 3 W w.heap.size ok (.slice A xs.length c) xs
theorem OwnW.kept {w W W' : World} {g : Nat} {A : Option Addr} {c : Nat} {xs : List Int} {b : Int} {S : Nat → Prop} (h : OwnW w W g A c xs b) (hk : Kept W W' S) (hS : ∀ k : Nat, True → True → ¬ S k) : OwnW w W' g A c xs b := by
 obtain ⟨ok, hr⟩ := h.row
 exact ⟨blk_kept h.mem hk (hS _ trivial trivial), ok, Kd.R_kept hr hk (fun k _ => hS k trivial trivial)⟩
theorem OwnW.reads {w W : World} {g : Nat} {A : Option Addr} {c : Nat} {xs : List Int} {b : Int} (h : OwnW w W g A c xs b) : xs.length ≤ c ∧ Kd.C (Kd.int .i64) W A xs.length xs := by
 obtain ⟨ok, hr⟩ := h.row
 obtain ⟨_, h1, h2⟩ := Kd.R_reads' hr
 exact ⟨h1, h2⟩

/-! ### mem_push (mine) -/
def pushF (ram : List Int) (k : Cp) (v : Int) : List Int × Cp := if ram.length = 512 then (ram.set (256 + k.S % 256).toNat (v % 256), { k with S := wrap64 (k.S - 1) % 256 }) else (ram, k)
set_option maxRecDepth 100000 in
set_option maxHeartbeats 1000000 in
theorem push_yes (x c g cap : Nat) (ram : List Int) (S v old : Int) (w : World)
  (hx0 : w.cell? ⟨x, 0, none⟩ = some (.slice (some ⟨g, 0, none⟩) ram.length cap)) (hc2 : w.cell? ⟨c, 2, none⟩ = some (.int .i64 S))
  (hlen : ram.length = 512) (hcg : w.cell? ⟨g, (256 + S % 256).toNat, none⟩ = some (.int .i64 old)) (hfg : w.frozen? ⟨g, (256 + S % 256).toNat, none⟩ = false) (hfc : w.frozen? ⟨c, 2, none⟩ = false) (hgc : g ≠ c) (hgx : g ≠ x) (hcx : c ≠ x) :
  Calls Try.prog 71 #[.pointer (some ⟨x, 0, none⟩), .pointer (some ⟨c, 0, none⟩), .int .i64 v] w fun e w' => e = .returned (.tuple #[]) ∧
   w' = ((w.setCell ⟨g, (256 + S % 256).toNat, none⟩ (.int .i64 (v % 256))).setCell ⟨c, 2, none⟩ (.int .i64 (wrap64 (S - 1) % 256))).drew := by
 have hu37 := Try.underlying37
 have hu38 := Try.underlying38
 have hl : (((ram.length : Nat) : Int) != 512) = false := by simp; omega
 have A1 : Aside0 (∀ w, Calls Try.prog 77 #[.int .i64 S] w fun e w' => e = .returned (.int .i64 (S % 256)) ∧ w' = w) := ⟨byte_same S⟩
 have A2 : Aside0 (∀ w, Calls Try.prog 77 #[.int .i64 v] w fun e w' => e = .returned (.int .i64 (v % 256)) ∧ w' = w) := ⟨byte_same v⟩
 have A3 : Aside0 (∀ w, Calls Try.prog 77 #[.int .i64 (wrap64 (S - 1))] w fun e w' => e = .returned (.int .i64 (wrap64 (S - 1) % 256)) ∧ w' = w) := ⟨byte_same _⟩
 have hs0 : 0 ≤ S % 256 := by omega
 have hs1 : S % 256 < 256 := by omega
 generalize wrap64 (S - 1) % 256 = s2 at *
 generalize S % 256 = sb at *
 generalize v % 256 = vb at *
 have hsum : IntKind.i64.wrap (256 + sb) = 256 + sb := by rw [IntKind.wrap_i64]; omega
 have hb1 : (256 + sb < (ram.length : Int)) = True := eq_true (by omega)
 have hb0 : (0 ≤ 256 + sb) = True := eq_true (by omega)
 clear hlen
 go_enter Try.func71, Try.ntmps71
 go_wp2
 go_still_tail 13, (by kernel_rfl)
 still_call (A1.out _)
 repeat still_step
 still_call (A2.out _)
 repeat still_step
 try refine wpStill_nil ?_
 change wpList _ _ _ _ _ w.drew
 go_wp2_with (go_at_call 77; refine (A3.out _).mono ?_; rintro e w' ⟨rfl, rfl⟩)
 go_end0
 exact ⟨rfl, rfl⟩
set_option maxRecDepth 100000 in
set_option maxHeartbeats 1000000 in
theorem push_no (x c : Nat) (A : Option Addr) (cap : Nat) (ram : List Int) (v : Int) (w : World)
  (hx0 : w.cell? ⟨x, 0, none⟩ = some (.slice A ram.length cap)) (hlen : ram.length ≠ 512) :
  Calls Try.prog 71 #[.pointer (some ⟨x, 0, none⟩), .pointer (some ⟨c, 0, none⟩), .int .i64 v] w fun e w' => e = .returned (.tuple #[]) ∧ w' = w := by
 have hu37 := Try.underlying37
 have hl : (((ram.length : Nat) : Int) != 512) = true := by simp; omega
 clear hlen
 go_enter Try.func71, Try.ntmps71
 go_wp2
 refine bodyPost_ret (results_none rfl _ _ _) rfl ?_
 exact ⟨rfl, rfl⟩
theorem push_calls {w0 w : World} {x c : Nat} {rv : Value} {b : Int} {k : Cp} {ram : List Int} (h : MC w0 w x c rv b k ram) (v : Int) :
  Calls Try.prog 71 #[.pointer (some ⟨x, 0, none⟩), .pointer (some ⟨c, 0, none⟩), .int .i64 v] w fun e w' => e = .returned (.tuple #[]) ∧
   MC w0 w' x c rv b (pushF ram k v).2 (pushF ram k v).1 ∧ Kept w w' (fun j => j = c ∨ some j = rv.ownBlock) := by
 unfold pushF
 by_cases hl : ram.length = 512
 ·rw [if_pos hl]
  obtain ⟨g, cap, rfl, hg, _, _⟩ := Kd.R_form h.row (by omega)
  obtain ⟨hcg, hfg⟩ := Kd.R_celln 0 h.row (256 + k.S % 256) (by omega) (by omega)
  refine (push_yes x c g cap ram k.S v _ w ((blk_cell h.mem 0).trans rfl) ((blk_cell h.cpu 2).trans rfl) hl hcg hfg (blk_frozen h.cpu 2) (fun e => h.far.2 (by rw [e]; rfl)) (fun e => h.far.1 (by rw [e]; rfl)) (Ne.symm h.ne)).mono ?_
  rintro e w' ⟨rfl, rfl⟩
  refine ⟨rfl, (((h.setR hg (256 + k.S % 256) (v % 256)).setC (k' := { k with S := wrap64 (k.S - 1) % 256 }) 2 _ rfl).drew), ?_⟩
  exact ((kept_set (kept_set (Kept.refl w _) (.inr rfl) _) (.inl rfl) _).drew)
 ·rw [if_neg hl]
  obtain ⟨A, cap, rfl⟩ := Kd.R_slice h.row
  refine (push_no x c A cap ram v w ((blk_cell h.mem 0).trans rfl) hl).mono ?_
  rintro e w' ⟨rfl, rfl⟩
  exact ⟨rfl, h, Kept.refl _ _⟩

/-! ### impl_within: function 64 -/
def impl_within.f (a0 : Int) (a1 : Int) (a2 : Int) : Option (Bool) := if a0 ≥ a1 then (some (decide (a0 ≤ a2))) else (some false)
set_option maxHeartbeats 8000000 in
set_option maxRecDepth 100000 in
theorem impl_within.calls (a0 : Int) (a1 : Int) (a2 : Int) (r : Bool) (w : World) (h : impl_within.f a0 a1 a2 = some r) :
  Calls Try.prog 64 #[.int .i64 a0, .int .i64 a1, .int .i64 a2] w fun e w' => e = .returned (.bool r) ∧ Drawn0 w w' := by
 have H : (if a0 ≥ a1 then (some (decide (a0 ≤ a2))) else (some false)) = some r := h
 clear h
 by_cases c4 : a0 ≥ a1
 ·rw [if_pos c4] at H
  have c4b0 : decide (a1 ≤ a0) = true := decide_eq_true c4
  clear c4
  obtain rfl := Option.some.inj H
  go_enter Try.func64, Try.ntmps64
  go_wp2
  go_ret
  exact ⟨by first | rfl | (simp; done) | (simp [*]; done), by repeat (first | exact Drawn0.refl _ | apply Drawn0.step)⟩
 ·rw [if_neg c4] at H
  have c4b0 : decide (a1 ≤ a0) = false := decide_eq_false c4
  clear c4
  obtain rfl := Option.some.inj H
  go_enter Try.func64, Try.ntmps64
  go_wp2
  go_ret
  exact ⟨by first | rfl | (simp; done) | (simp [*]; done), by repeat (first | exact Drawn0.refl _ | apply Drawn0.step)⟩

/-! ### impl_OpLen: function 102 -/
def impl_OpLen.j0 : Nat → Int → Bool → Option (Int)
 | 0, _, _ => none
 | k + 1, x0, x3 => if x3 = true then (some 2) else (if x0 = 2 then (some 3) else (if x0 = 3 then (some 3) else ((impl_within.f x0 14 20).bind fun t474 => (if t474 = true then (some 3) else (if x0 = 29 then (some 3) else (some 1))))))
def impl_OpLen.f (k : Nat) (a0 : Int) : Option (Int) := if a0 = 1 then (impl_OpLen.j0 k a0 true) else ((impl_within.f a0 4 9).bind fun t473 => (impl_OpLen.j0 k a0 t473))
theorem impl_OpLen.mono_l : ∀ k, (∀ y0 y1, LeO (impl_OpLen.j0 k y0 y1) (impl_OpLen.j0 (k + 1) y0 y1))
 | 0 => fun _ _ r h => by simp [impl_OpLen.j0] at h
 | k + 1 => by
  have ih0 := impl_OpLen.mono_l k
  ·intro y0 y1
   unfold impl_OpLen.j0
   repeat' first
   | (with_reducible exact ih0 _ _)
   | (with_reducible exact LeO.refl _)
   | (with_reducible exact LeO.none _)
   | (with_reducible refine LeO.ite ?_ ?_)
   | (with_reducible refine LeO.bind ?_ (fun _ => ?_))
   | exact ih0 _ _
   | exact LeO.none _
   | refine LeO.ite ?_ ?_
   | refine LeO.bind ?_ (fun _ => ?_)
theorem impl_OpLen.mono : ∀ a0 k, LeO (impl_OpLen.f k a0) (impl_OpLen.f (k + 1) a0) := by
 intro a0 k
 have ih0 := impl_OpLen.mono_l k
 unfold impl_OpLen.f
 repeat' first
   | (with_reducible exact ih0 _ _)
   | (with_reducible exact LeO.refl _)
   | (with_reducible exact LeO.none _)
   | (with_reducible refine LeO.ite ?_ ?_)
   | (with_reducible refine LeO.bind ?_ (fun _ => ?_))
   | exact ih0 _ _
   | exact LeO.none _
   | refine LeO.ite ?_ ?_
   | refine LeO.bind ?_ (fun _ => ?_)
set_option maxHeartbeats 8000000 in
set_option maxRecDepth 100000 in
theorem impl_OpLen.calls (k : Nat) (a0 : Int) (r : Int) (w : World) (h : impl_OpLen.f k a0 = some r) :
  Calls Try.prog 102 #[.int .i64 a0] w fun e w' => e = .returned (.int .i64 r) ∧ Drawn0 w w' := by
 have H : (if a0 = 1 then (impl_OpLen.j0 k a0 true) else ((impl_within.f a0 4 9).bind fun t473 => (impl_OpLen.j0 k a0 t473))) = some r := h
 clear h
 have HC2 := Aside0.mk H
 clear H
 go_enter Try.func102, Try.ntmps102
 go_upto_region 1 with (fail)
 go_cut [3] (fun v3 wc => ∃ (kq : Nat) (x3_1 : Bool), v3 = .bool x3_1 ∧ Aside0 (impl_OpLen.j0 kq a0 x3_1 = some r) ∧ Aside0 (kq ≤ k) ∧ Drawn0 w wc)
 case first =>
  have H := HC2.out
  clear HC2
  by_cases c3 : a0 = 1
  ·rw [if_pos c3] at H
   have c3b0 : (a0 == 1) = true := beq_iff_eq.mpr c3
   have c3b1 : (a0 != 1) = false := bne_eq_false_iff_eq.mpr c3
   clear c3
   (first | rw [c3b0] | (simp only [i64_w, i32_w]; rw [c3b0]) | skip)
   have H' := Aside0.mk H
   clear H
   go_wp2
   go_meet
   case rel => exact ⟨_, (true), (by first | rfl | (simp; done) | (simp [*]; done)), H', ⟨by first | omega | exact Nat.le_refl _⟩, by repeat (first | exact Drawn0.refl _ | apply Drawn0.step)⟩
  ·rw [if_neg c3] at H
   have c3b0 : (a0 == 1) = false := beq_eq_false_iff_ne.mpr c3
   have c3b1 : (a0 != 1) = true := bne_iff_ne.mpr c3
   (first | rw [c3b0] | (simp only [i64_w, i32_w]; rw [c3b0]) | skip)
   replace H := Option.bind_eq_some_iff.mp H
   obtain ⟨t473, A40, H⟩ := H
   replace H : (impl_OpLen.j0 k a0 t473) = some r := H
   have A4 := Aside0.mk A40
   clear A40
   have H' := Aside0.mk H
   clear H
   go_wp2_with (first | (go_at_call 64; (with_reducible refine (impl_within.calls a0 4 9 t473 _ A4.out).mono ?_); rintro e w' ⟨rfl, ⟨nd, rfl⟩⟩))
   go_meet
   case rel => exact ⟨_, (t473), (by first | rfl | (simp; done) | (simp [*]; done)), H', ⟨by first | omega | exact Nat.le_refl _⟩, by repeat (first | exact Drawn0.refl _ | apply Drawn0.step)⟩
 case rest =>
  clear HC2; (try clear c1); (try clear p2); (try clear c3); (try clear c3b0); (try clear c3b1)
  obtain ⟨kq, x3_1, rfl, HA, HJ1, ⟨mc1, rfl⟩⟩ := hcut
  cases kq with
  | zero => exact absurd HA.out (by simp [impl_OpLen.j0])
  | succ kj1 =>
   have H := HA.out
   clear HA
   simp only [impl_OpLen.j0] at H
   by_cases c5 : x3_1 = true
   ·subst c5
    have H1 : (some 2) = some r := by rw [if_pos rfl] at H; exact H
    clear H
    have H := H1
    clear H1
    obtain rfl := Option.some.inj H
    go_wp2
    go_ret
    exact ⟨by first | rfl | (simp; done) | (simp [*]; done), by repeat (first | exact Drawn0.refl _ | apply Drawn0.step)⟩
   ·replace c5 := Bool.eq_false_iff.mpr c5
    subst c5
    have H1 : (if a0 = 2 then (some 3) else (if a0 = 3 then (some 3) else ((impl_within.f a0 14 20).bind fun t474 => (if t474 = true then (some 3) else (if a0 = 29 then (some 3) else (some 1)))))) = some r := by rw [if_neg (show ¬ (false = true) by decide)] at H; exact H
    clear H
    have H := H1
    clear H1
    by_cases c6 : a0 = 2
    ·rw [if_pos c6] at H
     have c6b0 : (a0 == 2) = true := beq_iff_eq.mpr c6
     have c6b1 : (a0 != 2) = false := bne_eq_false_iff_eq.mpr c6
     clear c6
     obtain rfl := Option.some.inj H
     go_wp2
     go_ret
     exact ⟨by first | rfl | (simp; done) | (simp [*]; done), by repeat (first | exact Drawn0.refl _ | apply Drawn0.step)⟩
    ·rw [if_neg c6] at H
     have c6b0 : (a0 == 2) = false := beq_eq_false_iff_ne.mpr c6
     have c6b1 : (a0 != 2) = true := bne_iff_ne.mpr c6
     by_cases c7 : a0 = 3
     ·rw [if_pos c7] at H
      have c7b0 : (a0 == 3) = true := beq_iff_eq.mpr c7
      have c7b1 : (a0 != 3) = false := bne_eq_false_iff_eq.mpr c7
      clear c7
      obtain rfl := Option.some.inj H
      go_wp2
      go_ret
      exact ⟨by first | rfl | (simp; done) | (simp [*]; done), by repeat (first | exact Drawn0.refl _ | apply Drawn0.step)⟩
     ·rw [if_neg c7] at H
      have c7b0 : (a0 == 3) = false := beq_eq_false_iff_ne.mpr c7
      have c7b1 : (a0 != 3) = true := bne_iff_ne.mpr c7
      replace H := Option.bind_eq_some_iff.mp H
      obtain ⟨t474, A80, H⟩ := H
      replace H : (if t474 = true then (some 3) else (if a0 = 29 then (some 3) else (some 1))) = some r := H
      have A8 := Aside0.mk A80
      clear A80
      by_cases c9 : t474 = true
      ·subst c9
       have H1 : (some 3) = some r := by rw [if_pos rfl] at H; exact H
       clear H
       have H := H1
       clear H1
       obtain rfl := Option.some.inj H
       go_wp2_with (first | (go_at_call 64; (with_reducible refine (impl_within.calls a0 14 20 true _ A8.out).mono ?_); rintro e w' ⟨rfl, ⟨nd, rfl⟩⟩))
       go_ret
       exact ⟨by first | rfl | (simp; done) | (simp [*]; done), by repeat (first | exact Drawn0.refl _ | apply Drawn0.step)⟩
      ·replace c9 := Bool.eq_false_iff.mpr c9
       subst c9
       have H1 : (if a0 = 29 then (some 3) else (some 1)) = some r := by rw [if_neg (show ¬ (false = true) by decide)] at H; exact H
       clear H
       have H := H1
       clear H1
       by_cases c10 : a0 = 29
       ·rw [if_pos c10] at H
        have c10b0 : (a0 == 29) = true := beq_iff_eq.mpr c10
        have c10b1 : (a0 != 29) = false := bne_eq_false_iff_eq.mpr c10
        clear c10
        obtain rfl := Option.some.inj H
        go_wp2_with (first | (go_at_call 64; (with_reducible refine (impl_within.calls a0 14 20 false _ A8.out).mono ?_); rintro e w' ⟨rfl, ⟨nd, rfl⟩⟩))
        go_ret
        exact ⟨by first | rfl | (simp; done) | (simp [*]; done), by repeat (first | exact Drawn0.refl _ | apply Drawn0.step)⟩
       ·rw [if_neg c10] at H
        have c10b0 : (a0 == 29) = false := beq_eq_false_iff_ne.mpr c10
        have c10b1 : (a0 != 29) = true := bne_iff_ne.mpr c10
        obtain rfl := Option.some.inj H
        go_wp2_with (first | (go_at_call 64; (with_reducible refine (impl_within.calls a0 14 20 false _ A8.out).mono ?_); rintro e w' ⟨rfl, ⟨nd, rfl⟩⟩))
        go_ret
        exact ⟨by first | rfl | (simp; done) | (simp [*]; done), by repeat (first | exact Drawn0.refl _ | apply Drawn0.step)⟩

/-! ### impl_Addr: function 109 -/
def impl_Addr.f (a0 : Int) : Option (Int) := some (Go.bits .and .i64 a0 65535)
set_option maxHeartbeats 8000000 in
set_option maxRecDepth 100000 in
theorem impl_Addr.calls (a0 : Int) (r : Int) (w : World) (h : impl_Addr.f a0 = some r) :
  Calls Try.prog 109 #[.int .i64 a0] w fun e w' => e = .returned (.int .i64 r) ∧ Drawn0 w w' := by
 have H : (some (Go.bits .and .i64 a0 65535)) = some r := h
 clear h
 obtain rfl := Option.some.inj H
 go_enter Try.func109, Try.ntmps109
 go_wp2
 go_ret
 exact ⟨by first | rfl | (simp; done) | (simp [*]; done), by repeat (first | exact Drawn0.refl _ | apply Drawn0.step)⟩

/-! ### impl_Signs: function 117 -/
def impl_Signs.f (a0 : Int) : Option (Bool × Bool) := (impl_Byte.f a0).bind fun t475 => ((impl_Byte.f a0).bind fun t476 => (some ((t475 == 0), decide (t476 > 127))))
set_option maxHeartbeats 8000000 in
set_option maxRecDepth 100000 in
theorem impl_Signs.calls (a0 : Int) (r1 : Bool) (r2 : Bool) (w : World) (h : impl_Signs.f a0 = some (r1, r2)) :
  Calls Try.prog 117 #[.int .i64 a0] w fun e w' => e = .returned (.tuple #[.bool r1, .bool r2]) ∧ Drawn0 w w' := by
 have H : ((impl_Byte.f a0).bind fun t475 => ((impl_Byte.f a0).bind fun t476 => (some ((t475 == 0), decide (t476 > 127))))) = some (r1, r2) := h
 clear h
 replace H := Option.bind_eq_some_iff.mp H
 obtain ⟨t475, A20, H⟩ := H
 replace H : ((impl_Byte.f a0).bind fun t476 => (some ((t475 == 0), decide (t476 > 127)))) = some (r1, r2) := H
 have A2 := Aside0.mk A20
 clear A20
 replace H := Option.bind_eq_some_iff.mp H
 obtain ⟨t476, A30, H⟩ := H
 replace H : (some ((t475 == 0), decide (t476 > 127))) = some (r1, r2) := H
 have A3 := Aside0.mk A30
 clear A30
 simp only [Option.some.injEq, Prod.mk.injEq] at H
 obtain ⟨rfl, rfl⟩ := H
 go_enter Try.func117, Try.ntmps117
 go_wp2_with (first | ((with_reducible refine gate_callee (f := 77) rfl ?_); refine goesM_ (some 5) rfl rfl Try.func77 #[.int .i64 a0] ?_; (with_reducible refine (impl_Byte.calls a0 t475 _ A2.out).mono ?_); rintro e w' ⟨rfl, ⟨nd, rfl⟩⟩; refine ⟨_, rfl, ?_⟩) | ((with_reducible refine gate_callee (f := 77) rfl ?_); refine goesM_ (some 8) rfl rfl Try.func77 #[.int .i64 a0] ?_; (with_reducible refine (impl_Byte.calls a0 t476 _ A3.out).mono ?_); rintro e w' ⟨rfl, ⟨nd, rfl⟩⟩; refine ⟨_, rfl, ?_⟩))
 go_ret2
 exact ⟨by first | rfl | (simp; done) | (simp [*]; done), by repeat (first | exact Drawn0.refl _ | apply Drawn0.step)⟩

/-! ### impl_SetA: function 114 -/
def impl_SetA.f (a0_0 : Int) (a0_1 : Int) (a0_2 : Int) (a0_3 : Int) (a0_4 : Bool) (a0_5 : Bool) (a0_6 : Bool) (a0_7 : Bool) (a1 : Int) : Option (Int × Int × Int × Int × Bool × Bool × Bool × Bool) := (impl_Byte.f a1).bind fun t479 => ((impl_Signs.f a1).bind fun bt480 => (some (t479, a0_1, a0_2, a0_3, bt480.1, bt480.2, a0_6, a0_7)))
set_option maxHeartbeats 8000000 in
set_option maxRecDepth 100000 in
theorem impl_SetA.calls (a0_0 : Int) (a0_1 : Int) (a0_2 : Int) (a0_3 : Int) (a0_4 : Bool) (a0_5 : Bool) (a0_6 : Bool) (a0_7 : Bool) (a1 : Int) (r1 : Int) (r2 : Int) (r3 : Int) (r4 : Int) (r5 : Bool) (r6 : Bool) (r7 : Bool) (r8 : Bool) (w : World) (h : impl_SetA.f a0_0 a0_1 a0_2 a0_3 a0_4 a0_5 a0_6 a0_7 a1 = some (r1, r2, r3, r4, r5, r6, r7, r8)) :
  Calls Try.prog 114 #[.agg #[.int .i64 a0_0, .int .i64 a0_1, .int .i64 a0_2, .int .i64 a0_3, .bool a0_4, .bool a0_5, .bool a0_6, .bool a0_7], .int .i64 a1] w fun e w' => e = .returned (.agg #[.int .i64 r1, .int .i64 r2, .int .i64 r3, .int .i64 r4, .bool r5, .bool r6, .bool r7, .bool r8]) ∧ Below w.heap.size w w' := by
 have hu38 := Try.underlying38
 have HB := Aside0.mk (Below.refl w.heap.size w)
 have H : ((impl_Byte.f a1).bind fun t479 => ((impl_Signs.f a1).bind fun bt480 => (some (t479, a0_1, a0_2, a0_3, bt480.1, bt480.2, a0_6, a0_7)))) = some (r1, r2, r3, r4, r5, r6, r7, r8) := h
 clear h
 replace H := Option.bind_eq_some_iff.mp H
 obtain ⟨t479, A30, H⟩ := H
 replace H : ((impl_Signs.f a1).bind fun bt480 => (some (t479, a0_1, a0_2, a0_3, bt480.1, bt480.2, a0_6, a0_7))) = some (r1, r2, r3, r4, r5, r6, r7, r8) := H
 have A3 := Aside0.mk A30
 clear A30
 replace H := Option.bind_eq_some_iff.mp H
 obtain ⟨⟨t480, t481⟩, A40, H⟩ := H
 replace H : (some (t479, a0_1, a0_2, a0_3, t480, t481, a0_6, a0_7)) = some (r1, r2, r3, r4, r5, r6, r7, r8) := H
 have A4 := Aside0.mk A40
 clear A40
 simp only [Option.some.injEq, Prod.mk.injEq] at H
 obtain ⟨rfl, rfl, rfl, rfl, rfl, rfl, rfl, rfl⟩ := H
 go_enter Try.func114, Try.ntmps114
 go_wp2_with (first | ((with_reducible refine gate_dst (N := 2) rfl ?_); refine bx (N := 2) (cs := #[.int .i64 a0_0, .int .i64 a0_1, .int .i64 a0_2, .int .i64 a0_3, .bool a0_4, .bool a0_5, .bool a0_6, .bool a0_7]) (t := 38) ?_; intro gb477 hg w5 hbox hb; have n0_ := Aside0.mk (below_step (bw HB.out) hb); have n1_ := Aside0.mk (hbox); have n2_ := Aside0.mk ((gs hg (bw HB.out))); have n3_ := Aside0.mk ((gs hg (bw HB.out))); clear HB; have HB := n0_; have BK477 := n1_; have GW477 := n2_; have GE477 := n3_; clear n0_ n1_ n2_ n3_; clear hb hbox hg) | ((with_reducible refine gate_dst (N := 4) rfl ?_); refine bx (N := 4) (cs := #[.int .i64 0, .int .i64 0, .int .i64 0, .int .i64 0, .bool false, .bool false, .bool false, .bool false]) (t := 38) ?_; intro gb478 hg w6 hbox hb; have n0_ := Aside0.mk (blk_below (g := gb477) (o := .cells #[.int .i64 a0_0, .int .i64 a0_1, .int .i64 a0_2, .int .i64 a0_3, .bool a0_4, .bool a0_5, .bool a0_6, .bool a0_7] 38 (0, 0)) (kb BK477.out) hb); have n1_ := Aside0.mk (below_step (bw HB.out) hb); have n2_ := Aside0.mk (hbox); have n3_ := Aside0.mk ((gs hg (bw HB.out))); have n4_ := Aside0.mk ((gs hg (bw HB.out))); have n5_ := Aside0.mk ((ga hg BK477.out)); have n6_ := Aside0.mk ((gc hg BK477.out)); clear BK477; clear HB; have BK477 := n0_; have HB := n1_; have BK478 := n2_; have GW478 := n3_; have GE478 := n4_; have NB477_478 := n5_; have NB478_477 := n6_; clear n0_ n1_ n2_ n3_ n4_ n5_ n6_; clear hb hbox hg) | ((with_reducible refine gate_callee (f := 77) rfl ?_); refine goesM_ (some 6) rfl rfl Try.func77 #[.int .i64 a1] ?_; (with_reducible refine (impl_Byte.calls a1 t479 _ A3.out).mono ?_); rintro e w' ⟨rfl, ⟨nd, rfl⟩⟩; refine ⟨_, rfl, ?_⟩; (try (rw [drewN_self w6]; generalize hq_ : World.drewN w6 _ = w6; have n0_ : Aside0 (w6.heap[gb477]? = some (.cells #[.int .i64 a0_0, .int .i64 a0_1, .int .i64 a0_2, .int .i64 a0_3, .bool a0_4, .bool a0_5, .bool a0_6, .bool a0_7] 38 (0, 0))) := ⟨by rw [← hq_]; exact (kb BK477.out)⟩; have n1_ : Aside0 (w6.heap[gb478]? = some (.cells #[.int .i64 0, .int .i64 0, .int .i64 0, .int .i64 0, .bool false, .bool false, .bool false, .bool false] 38 (0, 0))) := ⟨by rw [← hq_]; exact (kb BK478.out)⟩; have n2_ : Aside0 (Below w.heap.size w w6) := ⟨by rw [← hq_]; exact (bw HB.out)⟩; clear BK477 BK478 HB hq_; have BK477 := n0_; have BK478 := n1_; have HB := n2_; clear n0_ n1_ n2_; (try (have hcz8_0 : w6.cell? ⟨gb477, 0, none⟩ = some (.int .i64 a0_0) := (blk_cell BK477.out 0).trans rfl)); (try (have hcz8_1 : w6.cell? ⟨gb477, 1, none⟩ = some (.int .i64 a0_1) := (blk_cell BK477.out 1).trans rfl)); (try (have hcz8_2 : w6.cell? ⟨gb477, 2, none⟩ = some (.int .i64 a0_2) := (blk_cell BK477.out 2).trans rfl)); (try (have hcz8_3 : w6.cell? ⟨gb477, 3, none⟩ = some (.int .i64 a0_3) := (blk_cell BK477.out 3).trans rfl)); (try (have hcz8_4 : w6.cell? ⟨gb477, 4, none⟩ = some (.bool a0_4) := (blk_cell BK477.out 4).trans rfl)); (try (have hcz8_5 : w6.cell? ⟨gb477, 5, none⟩ = some (.bool a0_5) := (blk_cell BK477.out 5).trans rfl)); (try (have hcz8_6 : w6.cell? ⟨gb477, 6, none⟩ = some (.bool a0_6) := (blk_cell BK477.out 6).trans rfl)); (try (have hcz8_7 : w6.cell? ⟨gb477, 7, none⟩ = some (.bool a0_7) := (blk_cell BK477.out 7).trans rfl)); (try (have hfz8_0 := blk_frozen BK477.out 0)); (try (have hfz8_1 := blk_frozen BK477.out 1)); (try (have hfz8_2 := blk_frozen BK477.out 2)); (try (have hfz8_3 := blk_frozen BK477.out 3)); (try (have hfz8_4 := blk_frozen BK477.out 4)); (try (have hfz8_5 := blk_frozen BK477.out 5)); (try (have hfz8_6 := blk_frozen BK477.out 6)); (try (have hfz8_7 := blk_frozen BK477.out 7)); (try (have hcz9_0 : w6.cell? ⟨gb478, 0, none⟩ = some (.int .i64 0) := (blk_cell BK478.out 0).trans rfl)); (try (have hcz9_1 : w6.cell? ⟨gb478, 1, none⟩ = some (.int .i64 0) := (blk_cell BK478.out 1).trans rfl)); (try (have hcz9_2 : w6.cell? ⟨gb478, 2, none⟩ = some (.int .i64 0) := (blk_cell BK478.out 2).trans rfl)); (try (have hcz9_3 : w6.cell? ⟨gb478, 3, none⟩ = some (.int .i64 0) := (blk_cell BK478.out 3).trans rfl)); (try (have hcz9_4 : w6.cell? ⟨gb478, 4, none⟩ = some (.bool false) := (blk_cell BK478.out 4).trans rfl)); (try (have hcz9_5 : w6.cell? ⟨gb478, 5, none⟩ = some (.bool false) := (blk_cell BK478.out 5).trans rfl)); (try (have hcz9_6 : w6.cell? ⟨gb478, 6, none⟩ = some (.bool false) := (blk_cell BK478.out 6).trans rfl)); (try (have hcz9_7 : w6.cell? ⟨gb478, 7, none⟩ = some (.bool false) := (blk_cell BK478.out 7).trans rfl)); (try (have hfz9_0 := blk_frozen BK478.out 0)); (try (have hfz9_1 := blk_frozen BK478.out 1)); (try (have hfz9_2 := blk_frozen BK478.out 2)); (try (have hfz9_3 := blk_frozen BK478.out 3)); (try (have hfz9_4 := blk_frozen BK478.out 4)); (try (have hfz9_5 := blk_frozen BK478.out 5)); (try (have hfz9_6 := blk_frozen BK478.out 6)); (try (have hfz9_7 := blk_frozen BK478.out 7)))); have hnb7 := NB477_478.out; have hnc7 := NB478_477.out; have hcz8_0 : w6.cell? ⟨gb477, 0, none⟩ = some (.int .i64 a0_0) := (blk_cell BK477.out 0).trans rfl; have hcz8_1 : w6.cell? ⟨gb477, 1, none⟩ = some (.int .i64 a0_1) := (blk_cell BK477.out 1).trans rfl; have hcz8_2 : w6.cell? ⟨gb477, 2, none⟩ = some (.int .i64 a0_2) := (blk_cell BK477.out 2).trans rfl; have hcz8_3 : w6.cell? ⟨gb477, 3, none⟩ = some (.int .i64 a0_3) := (blk_cell BK477.out 3).trans rfl; have hcz8_4 : w6.cell? ⟨gb477, 4, none⟩ = some (.bool a0_4) := (blk_cell BK477.out 4).trans rfl; have hcz8_5 : w6.cell? ⟨gb477, 5, none⟩ = some (.bool a0_5) := (blk_cell BK477.out 5).trans rfl; have hcz8_6 : w6.cell? ⟨gb477, 6, none⟩ = some (.bool a0_6) := (blk_cell BK477.out 6).trans rfl; have hcz8_7 : w6.cell? ⟨gb477, 7, none⟩ = some (.bool a0_7) := (blk_cell BK477.out 7).trans rfl; have hfz8_0 := blk_frozen BK477.out 0; have hfz8_1 := blk_frozen BK477.out 1; have hfz8_2 := blk_frozen BK477.out 2; have hfz8_3 := blk_frozen BK477.out 3; have hfz8_4 := blk_frozen BK477.out 4; have hfz8_5 := blk_frozen BK477.out 5; have hfz8_6 := blk_frozen BK477.out 6; have hfz8_7 := blk_frozen BK477.out 7) | ((with_reducible refine gate_callee (f := 117) rfl ?_); refine goesM_ (some 10) rfl rfl Try.func117 #[.int .i64 a1] ?_; (with_reducible refine (impl_Signs.calls a1 t480 t481 _ A4.out).mono ?_); rintro e w' ⟨rfl, ⟨nd, rfl⟩⟩; refine ⟨_, rfl, ?_⟩; have hcz9_0 : w6.cell? ⟨gb478, 0, none⟩ = some (.int .i64 0) := (blk_cell BK478.out 0).trans rfl; have hcz9_1 : w6.cell? ⟨gb478, 1, none⟩ = some (.int .i64 0) := (blk_cell BK478.out 1).trans rfl; have hcz9_2 : w6.cell? ⟨gb478, 2, none⟩ = some (.int .i64 0) := (blk_cell BK478.out 2).trans rfl; have hcz9_3 : w6.cell? ⟨gb478, 3, none⟩ = some (.int .i64 0) := (blk_cell BK478.out 3).trans rfl; have hcz9_4 : w6.cell? ⟨gb478, 4, none⟩ = some (.bool false) := (blk_cell BK478.out 4).trans rfl; have hcz9_5 : w6.cell? ⟨gb478, 5, none⟩ = some (.bool false) := (blk_cell BK478.out 5).trans rfl; have hcz9_6 : w6.cell? ⟨gb478, 6, none⟩ = some (.bool false) := (blk_cell BK478.out 6).trans rfl; have hcz9_7 : w6.cell? ⟨gb478, 7, none⟩ = some (.bool false) := (blk_cell BK478.out 7).trans rfl; have hfz9_0 := blk_frozen BK478.out 0; have hfz9_1 := blk_frozen BK478.out 1; have hfz9_2 := blk_frozen BK478.out 2; have hfz9_3 := blk_frozen BK478.out 3; have hfz9_4 := blk_frozen BK478.out 4; have hfz9_5 := blk_frozen BK478.out 5; have hfz9_6 := blk_frozen BK478.out 6; have hfz9_7 := blk_frozen BK478.out 7))
 refine bodyPost_ret (results_cell_row rfl _ _ gb478 38 #[.int .i64 t479, .int .i64 a0_1, .int .i64 a0_2, .int .i64 a0_3, .bool t480, .bool t481, .bool a0_6, .bool a0_7] (0, 0) _ rfl (by (with_reducible repeat (first | refine blk_drewN ?_ _ | refine blk_drew ?_ | refine blk_alloc ?_ _)); refine blk_put (cs := #[.int .i64 t479, .int .i64 a0_1, .int .i64 a0_2, .int .i64 a0_3, .bool t480, .bool t481, .bool a0_6, .bool false]) ?_ 7 _ rfl; (with_reducible repeat (first | refine blk_drewN ?_ _ | refine blk_drew ?_ | refine blk_alloc ?_ _)); refine blk_put (cs := #[.int .i64 t479, .int .i64 a0_1, .int .i64 a0_2, .int .i64 a0_3, .bool t480, .bool t481, .bool false, .bool false]) ?_ 6 _ rfl; (with_reducible repeat (first | refine blk_drewN ?_ _ | refine blk_drew ?_ | refine blk_alloc ?_ _)); refine blk_put (cs := #[.int .i64 t479, .int .i64 a0_1, .int .i64 a0_2, .int .i64 a0_3, .bool t480, .bool false, .bool false, .bool false]) ?_ 5 _ rfl; (with_reducible repeat (first | refine blk_drewN ?_ _ | refine blk_drew ?_ | refine blk_alloc ?_ _)); refine blk_put (cs := #[.int .i64 t479, .int .i64 a0_1, .int .i64 a0_2, .int .i64 a0_3, .bool false, .bool false, .bool false, .bool false]) ?_ 4 _ rfl; (with_reducible repeat (first | refine blk_drewN ?_ _ | refine blk_drew ?_ | refine blk_alloc ?_ _)); refine blk_put (cs := #[.int .i64 t479, .int .i64 a0_1, .int .i64 a0_2, .int .i64 0, .bool false, .bool false, .bool false, .bool false]) ?_ 3 _ rfl; (with_reducible repeat (first | refine blk_drewN ?_ _ | refine blk_drew ?_ | refine blk_alloc ?_ _)); refine blk_put (cs := #[.int .i64 t479, .int .i64 a0_1, .int .i64 0, .int .i64 0, .bool false, .bool false, .bool false, .bool false]) ?_ 2 _ rfl; (with_reducible repeat (first | refine blk_drewN ?_ _ | refine blk_drew ?_ | refine blk_alloc ?_ _)); refine blk_put (cs := #[.int .i64 t479, .int .i64 0, .int .i64 0, .int .i64 0, .bool false, .bool false, .bool false, .bool false]) ?_ 1 _ rfl; (with_reducible repeat (first | refine blk_drewN ?_ _ | refine blk_drew ?_ | refine blk_alloc ?_ _)); refine blk_put (cs := #[.int .i64 0, .int .i64 0, .int .i64 0, .int .i64 0, .bool false, .bool false, .bool false, .bool false]) ?_ 0 _ rfl; (with_reducible repeat (first | refine blk_drewN ?_ _ | refine blk_drew ?_ | refine blk_alloc ?_ _)); refine blk_far ?_ NB478_477.out _; (with_reducible repeat (first | refine blk_drewN ?_ _ | refine blk_drew ?_ | refine blk_alloc ?_ _)); refine blk_far ?_ NB478_477.out _; (with_reducible repeat (first | refine blk_drewN ?_ _ | refine blk_drew ?_ | refine blk_alloc ?_ _)); refine blk_far ?_ NB478_477.out _; (with_reducible repeat (first | refine blk_drewN ?_ _ | refine blk_drew ?_ | refine blk_alloc ?_ _)); exact BK478.out) Try.underlying38 rfl (by kernel_rfl)) rfl ?_
 exact ⟨rt, bw HB.out⟩

/-! ### impl_flag: function 104 -/
def impl_flag.f (a0 : Bool) : Option (Int) := if a0 = true then (some 1) else (some 0)
set_option maxHeartbeats 8000000 in
set_option maxRecDepth 100000 in
theorem impl_flag.calls (a0 : Bool) (r : Int) (w : World) (h : impl_flag.f a0 = some r) :
  Calls Try.prog 104 #[.bool a0] w fun e w' => e = .returned (.int .i64 r) ∧ Drawn0 w w' := by
 have H : (if a0 = true then (some 1) else (some 0)) = some r := h
 clear h
 by_cases c2 : a0 = true
 ·subst c2
  have H1 : (some 1) = some r := by rw [if_pos rfl] at H; exact H
  clear H
  have H := H1
  clear H1
  obtain rfl := Option.some.inj H
  go_enter Try.func104, Try.ntmps104
  go_wp2
  go_ret
  exact ⟨by first | rfl | (simp; done) | (simp [*]; done), by repeat (first | exact Drawn0.refl _ | apply Drawn0.step)⟩
 ·replace c2 := Bool.eq_false_iff.mpr c2
  subst c2
  have H1 : (some 0) = some r := by rw [if_neg (show ¬ (false = true) by decide)] at H; exact H
  clear H
  have H := H1
  clear H1
  obtain rfl := Option.some.inj H
  go_enter Try.func104, Try.ntmps104
  go_wp2
  go_ret
  exact ⟨by first | rfl | (simp; done) | (simp [*]; done), by repeat (first | exact Drawn0.refl _ | apply Drawn0.step)⟩

/-! ### impl_Add8: function 115 -/
def impl_Add8.f (a0 : Int) (a1 : Int) (a2 : Bool) : Option (Int × Bool) := (impl_Byte.f a0).bind fun t482 => ((impl_Byte.f a1).bind fun t483 => ((impl_flag.f a2).bind fun t484 => ((impl_Byte.f (wrap64 ((wrap64 (t482 + t483)) + t484))).bind fun t485 => (some (t485, decide ((wrap64 ((wrap64 (t482 + t483)) + t484)) > 255))))))
set_option maxHeartbeats 8000000 in
set_option maxRecDepth 100000 in
theorem impl_Add8.calls (a0 : Int) (a1 : Int) (a2 : Bool) (r1 : Int) (r2 : Bool) (w : World) (h : impl_Add8.f a0 a1 a2 = some (r1, r2)) :
  Calls Try.prog 115 #[.int .i64 a0, .int .i64 a1, .bool a2] w fun e w' => e = .returned (.tuple #[.int .i64 r1, .bool r2]) ∧ Drawn0 w w' := by
 have H : ((impl_Byte.f a0).bind fun t482 => ((impl_Byte.f a1).bind fun t483 => ((impl_flag.f a2).bind fun t484 => ((impl_Byte.f (wrap64 ((wrap64 (t482 + t483)) + t484))).bind fun t485 => (some (t485, decide ((wrap64 ((wrap64 (t482 + t483)) + t484)) > 255))))))) = some (r1, r2) := h
 clear h
 replace H := Option.bind_eq_some_iff.mp H
 obtain ⟨t482, A40, H⟩ := H
 replace H : ((impl_Byte.f a1).bind fun t483 => ((impl_flag.f a2).bind fun t484 => ((impl_Byte.f (wrap64 ((wrap64 (t482 + t483)) + t484))).bind fun t485 => (some (t485, decide ((wrap64 ((wrap64 (t482 + t483)) + t484)) > 255)))))) = some (r1, r2) := H
 have A4 := Aside0.mk A40
 clear A40
 replace H := Option.bind_eq_some_iff.mp H
 obtain ⟨t483, A50, H⟩ := H
 replace H : ((impl_flag.f a2).bind fun t484 => ((impl_Byte.f (wrap64 ((wrap64 (t482 + t483)) + t484))).bind fun t485 => (some (t485, decide ((wrap64 ((wrap64 (t482 + t483)) + t484)) > 255))))) = some (r1, r2) := H
 have A5 := Aside0.mk A50
 clear A50
 replace H := Option.bind_eq_some_iff.mp H
 obtain ⟨t484, A60, H⟩ := H
 replace H : ((impl_Byte.f (wrap64 ((wrap64 (t482 + t483)) + t484))).bind fun t485 => (some (t485, decide ((wrap64 ((wrap64 (t482 + t483)) + t484)) > 255)))) = some (r1, r2) := H
 have A6 := Aside0.mk A60
 clear A60
 replace H := Option.bind_eq_some_iff.mp H
 obtain ⟨t485, A70, H⟩ := H
 replace H : (some (t485, decide ((wrap64 ((wrap64 (t482 + t483)) + t484)) > 255))) = some (r1, r2) := H
 have A7 := Aside0.mk A70
 clear A70
 simp only [Option.some.injEq, Prod.mk.injEq] at H
 obtain ⟨rfl, rfl⟩ := H
 go_enter Try.func115, Try.ntmps115
 go_wp2_with (first | ((with_reducible refine gate_callee (f := 77) rfl ?_); refine goesM_ (some 10) rfl rfl Try.func77 #[.int .i64 a0] ?_; (with_reducible refine (impl_Byte.calls a0 t482 _ A4.out).mono ?_); rintro e w' ⟨rfl, ⟨nd, rfl⟩⟩; refine ⟨_, rfl, ?_⟩) | ((with_reducible refine gate_callee (f := 77) rfl ?_); refine goesM_ (some 12) rfl rfl Try.func77 #[.int .i64 a1] ?_; (with_reducible refine (impl_Byte.calls a1 t483 _ A5.out).mono ?_); rintro e w' ⟨rfl, ⟨nd, rfl⟩⟩; refine ⟨_, rfl, ?_⟩) | ((with_reducible refine gate_callee (f := 104) rfl ?_); refine goesM_ (some 15) rfl rfl Try.func104 #[.bool a2] ?_; (with_reducible refine (impl_flag.calls a2 t484 _ A6.out).mono ?_); rintro e w' ⟨rfl, ⟨nd, rfl⟩⟩; refine ⟨_, rfl, ?_⟩) | ((with_reducible refine gate_callee (f := 77) rfl ?_); refine goesM_ (some 18) rfl rfl Try.func77 #[.int .i64 (wrap64 ((wrap64 (t482 + t483)) + t484))] ?_; (with_reducible refine (impl_Byte.calls (wrap64 ((wrap64 (t482 + t483)) + t484)) t485 _ A7.out).mono ?_); rintro e w' ⟨rfl, ⟨nd, rfl⟩⟩; refine ⟨_, rfl, ?_⟩))
 go_ret2
 exact ⟨by first | rfl | (simp; done) | (simp [*]; done), by repeat (first | exact Drawn0.refl _ | apply Drawn0.step)⟩

/-! ### impl_Sub8: function 116 -/
def impl_Sub8.f (a0 : Int) (a1 : Int) (a2 : Bool) : Option (Int × Bool) := (impl_Byte.f a0).bind fun t486 => ((impl_Byte.f a1).bind fun t487 => ((impl_flag.f (!a2)).bind fun t488 => ((impl_Byte.f (wrap64 ((wrap64 (t486 - t487)) - t488))).bind fun t489 => (some (t489, decide ((wrap64 ((wrap64 (t486 - t487)) - t488)) ≥ 0))))))
set_option maxHeartbeats 8000000 in
set_option maxRecDepth 100000 in
theorem impl_Sub8.calls (a0 : Int) (a1 : Int) (a2 : Bool) (r1 : Int) (r2 : Bool) (w : World) (h : impl_Sub8.f a0 a1 a2 = some (r1, r2)) :
  Calls Try.prog 116 #[.int .i64 a0, .int .i64 a1, .bool a2] w fun e w' => e = .returned (.tuple #[.int .i64 r1, .bool r2]) ∧ Drawn0 w w' := by
 have H : ((impl_Byte.f a0).bind fun t486 => ((impl_Byte.f a1).bind fun t487 => ((impl_flag.f (!a2)).bind fun t488 => ((impl_Byte.f (wrap64 ((wrap64 (t486 - t487)) - t488))).bind fun t489 => (some (t489, decide ((wrap64 ((wrap64 (t486 - t487)) - t488)) ≥ 0))))))) = some (r1, r2) := h
 clear h
 replace H := Option.bind_eq_some_iff.mp H
 obtain ⟨t486, A40, H⟩ := H
 replace H : ((impl_Byte.f a1).bind fun t487 => ((impl_flag.f (!a2)).bind fun t488 => ((impl_Byte.f (wrap64 ((wrap64 (t486 - t487)) - t488))).bind fun t489 => (some (t489, decide ((wrap64 ((wrap64 (t486 - t487)) - t488)) ≥ 0)))))) = some (r1, r2) := H
 have A4 := Aside0.mk A40
 clear A40
 replace H := Option.bind_eq_some_iff.mp H
 obtain ⟨t487, A50, H⟩ := H
 replace H : ((impl_flag.f (!a2)).bind fun t488 => ((impl_Byte.f (wrap64 ((wrap64 (t486 - t487)) - t488))).bind fun t489 => (some (t489, decide ((wrap64 ((wrap64 (t486 - t487)) - t488)) ≥ 0))))) = some (r1, r2) := H
 have A5 := Aside0.mk A50
 clear A50
 replace H := Option.bind_eq_some_iff.mp H
 obtain ⟨t488, A60, H⟩ := H
 replace H : ((impl_Byte.f (wrap64 ((wrap64 (t486 - t487)) - t488))).bind fun t489 => (some (t489, decide ((wrap64 ((wrap64 (t486 - t487)) - t488)) ≥ 0)))) = some (r1, r2) := H
 have A6 := Aside0.mk A60
 clear A60
 replace H := Option.bind_eq_some_iff.mp H
 obtain ⟨t489, A70, H⟩ := H
 replace H : (some (t489, decide ((wrap64 ((wrap64 (t486 - t487)) - t488)) ≥ 0))) = some (r1, r2) := H
 have A7 := Aside0.mk A70
 clear A70
 simp only [Option.some.injEq, Prod.mk.injEq] at H
 obtain ⟨rfl, rfl⟩ := H
 go_enter Try.func116, Try.ntmps116
 go_wp2_with (first | ((with_reducible refine gate_callee (f := 77) rfl ?_); refine goesM_ (some 10) rfl rfl Try.func77 #[.int .i64 a0] ?_; (with_reducible refine (impl_Byte.calls a0 t486 _ A4.out).mono ?_); rintro e w' ⟨rfl, ⟨nd, rfl⟩⟩; refine ⟨_, rfl, ?_⟩) | ((with_reducible refine gate_callee (f := 77) rfl ?_); refine goesM_ (some 12) rfl rfl Try.func77 #[.int .i64 a1] ?_; (with_reducible refine (impl_Byte.calls a1 t487 _ A5.out).mono ?_); rintro e w' ⟨rfl, ⟨nd, rfl⟩⟩; refine ⟨_, rfl, ?_⟩) | ((with_reducible refine gate_callee (f := 104) rfl ?_); refine goesM_ (some 16) rfl rfl Try.func104 #[.bool (!a2)] ?_; (with_reducible refine (impl_flag.calls (!a2) t488 _ A6.out).mono ?_); rintro e w' ⟨rfl, ⟨nd, rfl⟩⟩; refine ⟨_, rfl, ?_⟩) | ((with_reducible refine gate_callee (f := 77) rfl ?_); refine goesM_ (some 19) rfl rfl Try.func77 #[.int .i64 (wrap64 ((wrap64 (t486 - t487)) - t488))] ?_; (with_reducible refine (impl_Byte.calls (wrap64 ((wrap64 (t486 - t487)) - t488)) t489 _ A7.out).mono ?_); rintro e w' ⟨rfl, ⟨nd, rfl⟩⟩; refine ⟨_, rfl, ?_⟩))
 go_ret2
 exact ⟨by first | rfl | (simp; done) | (simp [*]; done), by repeat (first | exact Drawn0.refl _ | apply Drawn0.step)⟩

-- NOT PRINTED: function 110 (impl_Cpu_reckon)

/-! ### impl_SetX: function 118 -/
def impl_SetX.f (a0_0 : Int) (a0_1 : Int) (a0_2 : Int) (a0_3 : Int) (a0_4 : Bool) (a0_5 : Bool) (a0_6 : Bool) (a0_7 : Bool) (a1 : Int) : Option (Int × Int × Int × Int × Bool × Bool × Bool × Bool) := (impl_Byte.f a1).bind fun t567 => ((impl_Signs.f a1).bind fun bt568 => (some (a0_0, t567, a0_2, a0_3, bt568.1, bt568.2, a0_6, a0_7)))
set_option maxHeartbeats 8000000 in
set_option maxRecDepth 100000 in
theorem impl_SetX.calls (a0_0 : Int) (a0_1 : Int) (a0_2 : Int) (a0_3 : Int) (a0_4 : Bool) (a0_5 : Bool) (a0_6 : Bool) (a0_7 : Bool) (a1 : Int) (r1 : Int) (r2 : Int) (r3 : Int) (r4 : Int) (r5 : Bool) (r6 : Bool) (r7 : Bool) (r8 : Bool) (w : World) (h : impl_SetX.f a0_0 a0_1 a0_2 a0_3 a0_4 a0_5 a0_6 a0_7 a1 = some (r1, r2, r3, r4, r5, r6, r7, r8)) :
  Calls Try.prog 118 #[.agg #[.int .i64 a0_0, .int .i64 a0_1, .int .i64 a0_2, .int .i64 a0_3, .bool a0_4, .bool a0_5, .bool a0_6, .bool a0_7], .int .i64 a1] w fun e w' => e = .returned (.agg #[.int .i64 r1, .int .i64 r2, .int .i64 r3, .int .i64 r4, .bool r5, .bool r6, .bool r7, .bool r8]) ∧ Below w.heap.size w w' := by
 have hu38 := Try.underlying38
 have HB := Aside0.mk (Below.refl w.heap.size w)
 have H : ((impl_Byte.f a1).bind fun t567 => ((impl_Signs.f a1).bind fun bt568 => (some (a0_0, t567, a0_2, a0_3, bt568.1, bt568.2, a0_6, a0_7)))) = some (r1, r2, r3, r4, r5, r6, r7, r8) := h
 clear h
 replace H := Option.bind_eq_some_iff.mp H
 obtain ⟨t567, A30, H⟩ := H
 replace H : ((impl_Signs.f a1).bind fun bt568 => (some (a0_0, t567, a0_2, a0_3, bt568.1, bt568.2, a0_6, a0_7))) = some (r1, r2, r3, r4, r5, r6, r7, r8) := H
 have A3 := Aside0.mk A30
 clear A30
 replace H := Option.bind_eq_some_iff.mp H
 obtain ⟨⟨t568, t569⟩, A40, H⟩ := H
 replace H : (some (a0_0, t567, a0_2, a0_3, t568, t569, a0_6, a0_7)) = some (r1, r2, r3, r4, r5, r6, r7, r8) := H
 have A4 := Aside0.mk A40
 clear A40
 simp only [Option.some.injEq, Prod.mk.injEq] at H
 obtain ⟨rfl, rfl, rfl, rfl, rfl, rfl, rfl, rfl⟩ := H
 go_enter Try.func118, Try.ntmps118
 go_wp2_with (first | ((with_reducible refine gate_dst (N := 2) rfl ?_); refine bx (N := 2) (cs := #[.int .i64 a0_0, .int .i64 a0_1, .int .i64 a0_2, .int .i64 a0_3, .bool a0_4, .bool a0_5, .bool a0_6, .bool a0_7]) (t := 38) ?_; intro gb565 hg w5 hbox hb; have n0_ := Aside0.mk (below_step (bw HB.out) hb); have n1_ := Aside0.mk (hbox); have n2_ := Aside0.mk ((gs hg (bw HB.out))); have n3_ := Aside0.mk ((gs hg (bw HB.out))); clear HB; have HB := n0_; have BK565 := n1_; have GW565 := n2_; have GE565 := n3_; clear n0_ n1_ n2_ n3_; clear hb hbox hg) | ((with_reducible refine gate_dst (N := 4) rfl ?_); refine bx (N := 4) (cs := #[.int .i64 0, .int .i64 0, .int .i64 0, .int .i64 0, .bool false, .bool false, .bool false, .bool false]) (t := 38) ?_; intro gb566 hg w6 hbox hb; have n0_ := Aside0.mk (blk_below (g := gb565) (o := .cells #[.int .i64 a0_0, .int .i64 a0_1, .int .i64 a0_2, .int .i64 a0_3, .bool a0_4, .bool a0_5, .bool a0_6, .bool a0_7] 38 (0, 0)) (kb BK565.out) hb); have n1_ := Aside0.mk (below_step (bw HB.out) hb); have n2_ := Aside0.mk (hbox); have n3_ := Aside0.mk ((gs hg (bw HB.out))); have n4_ := Aside0.mk ((gs hg (bw HB.out))); have n5_ := Aside0.mk ((ga hg BK565.out)); have n6_ := Aside0.mk ((gc hg BK565.out)); clear BK565; clear HB; have BK565 := n0_; have HB := n1_; have BK566 := n2_; have GW566 := n3_; have GE566 := n4_; have NB565_566 := n5_; have NB566_565 := n6_; clear n0_ n1_ n2_ n3_ n4_ n5_ n6_; clear hb hbox hg) | ((with_reducible refine gate_callee (f := 77) rfl ?_); refine goesM_ (some 6) rfl rfl Try.func77 #[.int .i64 a1] ?_; (with_reducible refine (impl_Byte.calls a1 t567 _ A3.out).mono ?_); rintro e w' ⟨rfl, ⟨nd, rfl⟩⟩; refine ⟨_, rfl, ?_⟩; (try (rw [drewN_self w6]; generalize hq_ : World.drewN w6 _ = w6; have n0_ : Aside0 (w6.heap[gb565]? = some (.cells #[.int .i64 a0_0, .int .i64 a0_1, .int .i64 a0_2, .int .i64 a0_3, .bool a0_4, .bool a0_5, .bool a0_6, .bool a0_7] 38 (0, 0))) := ⟨by rw [← hq_]; exact (kb BK565.out)⟩; have n1_ : Aside0 (w6.heap[gb566]? = some (.cells #[.int .i64 0, .int .i64 0, .int .i64 0, .int .i64 0, .bool false, .bool false, .bool false, .bool false] 38 (0, 0))) := ⟨by rw [← hq_]; exact (kb BK566.out)⟩; have n2_ : Aside0 (Below w.heap.size w w6) := ⟨by rw [← hq_]; exact (bw HB.out)⟩; clear BK565 BK566 HB hq_; have BK565 := n0_; have BK566 := n1_; have HB := n2_; clear n0_ n1_ n2_; (try (have hcz8_0 : w6.cell? ⟨gb565, 0, none⟩ = some (.int .i64 a0_0) := (blk_cell BK565.out 0).trans rfl)); (try (have hcz8_1 : w6.cell? ⟨gb565, 1, none⟩ = some (.int .i64 a0_1) := (blk_cell BK565.out 1).trans rfl)); (try (have hcz8_2 : w6.cell? ⟨gb565, 2, none⟩ = some (.int .i64 a0_2) := (blk_cell BK565.out 2).trans rfl)); (try (have hcz8_3 : w6.cell? ⟨gb565, 3, none⟩ = some (.int .i64 a0_3) := (blk_cell BK565.out 3).trans rfl)); (try (have hcz8_4 : w6.cell? ⟨gb565, 4, none⟩ = some (.bool a0_4) := (blk_cell BK565.out 4).trans rfl)); (try (have hcz8_5 : w6.cell? ⟨gb565, 5, none⟩ = some (.bool a0_5) := (blk_cell BK565.out 5).trans rfl)); (try (have hcz8_6 : w6.cell? ⟨gb565, 6, none⟩ = some (.bool a0_6) := (blk_cell BK565.out 6).trans rfl)); (try (have hcz8_7 : w6.cell? ⟨gb565, 7, none⟩ = some (.bool a0_7) := (blk_cell BK565.out 7).trans rfl)); (try (have hfz8_0 := blk_frozen BK565.out 0)); (try (have hfz8_1 := blk_frozen BK565.out 1)); (try (have hfz8_2 := blk_frozen BK565.out 2)); (try (have hfz8_3 := blk_frozen BK565.out 3)); (try (have hfz8_4 := blk_frozen BK565.out 4)); (try (have hfz8_5 := blk_frozen BK565.out 5)); (try (have hfz8_6 := blk_frozen BK565.out 6)); (try (have hfz8_7 := blk_frozen BK565.out 7)); (try (have hcz9_0 : w6.cell? ⟨gb566, 0, none⟩ = some (.int .i64 0) := (blk_cell BK566.out 0).trans rfl)); (try (have hcz9_1 : w6.cell? ⟨gb566, 1, none⟩ = some (.int .i64 0) := (blk_cell BK566.out 1).trans rfl)); (try (have hcz9_2 : w6.cell? ⟨gb566, 2, none⟩ = some (.int .i64 0) := (blk_cell BK566.out 2).trans rfl)); (try (have hcz9_3 : w6.cell? ⟨gb566, 3, none⟩ = some (.int .i64 0) := (blk_cell BK566.out 3).trans rfl)); (try (have hcz9_4 : w6.cell? ⟨gb566, 4, none⟩ = some (.bool false) := (blk_cell BK566.out 4).trans rfl)); (try (have hcz9_5 : w6.cell? ⟨gb566, 5, none⟩ = some (.bool false) := (blk_cell BK566.out 5).trans rfl)); (try (have hcz9_6 : w6.cell? ⟨gb566, 6, none⟩ = some (.bool false) := (blk_cell BK566.out 6).trans rfl)); (try (have hcz9_7 : w6.cell? ⟨gb566, 7, none⟩ = some (.bool false) := (blk_cell BK566.out 7).trans rfl)); (try (have hfz9_0 := blk_frozen BK566.out 0)); (try (have hfz9_1 := blk_frozen BK566.out 1)); (try (have hfz9_2 := blk_frozen BK566.out 2)); (try (have hfz9_3 := blk_frozen BK566.out 3)); (try (have hfz9_4 := blk_frozen BK566.out 4)); (try (have hfz9_5 := blk_frozen BK566.out 5)); (try (have hfz9_6 := blk_frozen BK566.out 6)); (try (have hfz9_7 := blk_frozen BK566.out 7)))); have hnb7 := NB565_566.out; have hnc7 := NB566_565.out; have hcz8_0 : w6.cell? ⟨gb565, 0, none⟩ = some (.int .i64 a0_0) := (blk_cell BK565.out 0).trans rfl; have hcz8_1 : w6.cell? ⟨gb565, 1, none⟩ = some (.int .i64 a0_1) := (blk_cell BK565.out 1).trans rfl; have hcz8_2 : w6.cell? ⟨gb565, 2, none⟩ = some (.int .i64 a0_2) := (blk_cell BK565.out 2).trans rfl; have hcz8_3 : w6.cell? ⟨gb565, 3, none⟩ = some (.int .i64 a0_3) := (blk_cell BK565.out 3).trans rfl; have hcz8_4 : w6.cell? ⟨gb565, 4, none⟩ = some (.bool a0_4) := (blk_cell BK565.out 4).trans rfl; have hcz8_5 : w6.cell? ⟨gb565, 5, none⟩ = some (.bool a0_5) := (blk_cell BK565.out 5).trans rfl; have hcz8_6 : w6.cell? ⟨gb565, 6, none⟩ = some (.bool a0_6) := (blk_cell BK565.out 6).trans rfl; have hcz8_7 : w6.cell? ⟨gb565, 7, none⟩ = some (.bool a0_7) := (blk_cell BK565.out 7).trans rfl; have hfz8_0 := blk_frozen BK565.out 0; have hfz8_1 := blk_frozen BK565.out 1; have hfz8_2 := blk_frozen BK565.out 2; have hfz8_3 := blk_frozen BK565.out 3; have hfz8_4 := blk_frozen BK565.out 4; have hfz8_5 := blk_frozen BK565.out 5; have hfz8_6 := blk_frozen BK565.out 6; have hfz8_7 := blk_frozen BK565.out 7) | ((with_reducible refine gate_callee (f := 117) rfl ?_); refine goesM_ (some 10) rfl rfl Try.func117 #[.int .i64 a1] ?_; (with_reducible refine (impl_Signs.calls a1 t568 t569 _ A4.out).mono ?_); rintro e w' ⟨rfl, ⟨nd, rfl⟩⟩; refine ⟨_, rfl, ?_⟩; have hcz9_0 : w6.cell? ⟨gb566, 0, none⟩ = some (.int .i64 0) := (blk_cell BK566.out 0).trans rfl; have hcz9_1 : w6.cell? ⟨gb566, 1, none⟩ = some (.int .i64 0) := (blk_cell BK566.out 1).trans rfl; have hcz9_2 : w6.cell? ⟨gb566, 2, none⟩ = some (.int .i64 0) := (blk_cell BK566.out 2).trans rfl; have hcz9_3 : w6.cell? ⟨gb566, 3, none⟩ = some (.int .i64 0) := (blk_cell BK566.out 3).trans rfl; have hcz9_4 : w6.cell? ⟨gb566, 4, none⟩ = some (.bool false) := (blk_cell BK566.out 4).trans rfl; have hcz9_5 : w6.cell? ⟨gb566, 5, none⟩ = some (.bool false) := (blk_cell BK566.out 5).trans rfl; have hcz9_6 : w6.cell? ⟨gb566, 6, none⟩ = some (.bool false) := (blk_cell BK566.out 6).trans rfl; have hcz9_7 : w6.cell? ⟨gb566, 7, none⟩ = some (.bool false) := (blk_cell BK566.out 7).trans rfl; have hfz9_0 := blk_frozen BK566.out 0; have hfz9_1 := blk_frozen BK566.out 1; have hfz9_2 := blk_frozen BK566.out 2; have hfz9_3 := blk_frozen BK566.out 3; have hfz9_4 := blk_frozen BK566.out 4; have hfz9_5 := blk_frozen BK566.out 5; have hfz9_6 := blk_frozen BK566.out 6; have hfz9_7 := blk_frozen BK566.out 7))
 refine bodyPost_ret (results_cell_row rfl _ _ gb566 38 #[.int .i64 a0_0, .int .i64 t567, .int .i64 a0_2, .int .i64 a0_3, .bool t568, .bool t569, .bool a0_6, .bool a0_7] (0, 0) _ rfl (by (with_reducible repeat (first | refine blk_drewN ?_ _ | refine blk_drew ?_ | refine blk_alloc ?_ _)); refine blk_put (cs := #[.int .i64 a0_0, .int .i64 t567, .int .i64 a0_2, .int .i64 a0_3, .bool t568, .bool t569, .bool a0_6, .bool false]) ?_ 7 _ rfl; (with_reducible repeat (first | refine blk_drewN ?_ _ | refine blk_drew ?_ | refine blk_alloc ?_ _)); refine blk_put (cs := #[.int .i64 a0_0, .int .i64 t567, .int .i64 a0_2, .int .i64 a0_3, .bool t568, .bool t569, .bool false, .bool false]) ?_ 6 _ rfl; (with_reducible repeat (first | refine blk_drewN ?_ _ | refine blk_drew ?_ | refine blk_alloc ?_ _)); refine blk_put (cs := #[.int .i64 a0_0, .int .i64 t567, .int .i64 a0_2, .int .i64 a0_3, .bool t568, .bool false, .bool false, .bool false]) ?_ 5 _ rfl; (with_reducible repeat (first | refine blk_drewN ?_ _ | refine blk_drew ?_ | refine blk_alloc ?_ _)); refine blk_put (cs := #[.int .i64 a0_0, .int .i64 t567, .int .i64 a0_2, .int .i64 a0_3, .bool false, .bool false, .bool false, .bool false]) ?_ 4 _ rfl; (with_reducible repeat (first | refine blk_drewN ?_ _ | refine blk_drew ?_ | refine blk_alloc ?_ _)); refine blk_put (cs := #[.int .i64 a0_0, .int .i64 t567, .int .i64 a0_2, .int .i64 0, .bool false, .bool false, .bool false, .bool false]) ?_ 3 _ rfl; (with_reducible repeat (first | refine blk_drewN ?_ _ | refine blk_drew ?_ | refine blk_alloc ?_ _)); refine blk_put (cs := #[.int .i64 a0_0, .int .i64 t567, .int .i64 0, .int .i64 0, .bool false, .bool false, .bool false, .bool false]) ?_ 2 _ rfl; (with_reducible repeat (first | refine blk_drewN ?_ _ | refine blk_drew ?_ | refine blk_alloc ?_ _)); refine blk_put (cs := #[.int .i64 a0_0, .int .i64 0, .int .i64 0, .int .i64 0, .bool false, .bool false, .bool false, .bool false]) ?_ 1 _ rfl; (with_reducible repeat (first | refine blk_drewN ?_ _ | refine blk_drew ?_ | refine blk_alloc ?_ _)); refine blk_put (cs := #[.int .i64 0, .int .i64 0, .int .i64 0, .int .i64 0, .bool false, .bool false, .bool false, .bool false]) ?_ 0 _ rfl; (with_reducible repeat (first | refine blk_drewN ?_ _ | refine blk_drew ?_ | refine blk_alloc ?_ _)); refine blk_far ?_ NB566_565.out _; (with_reducible repeat (first | refine blk_drewN ?_ _ | refine blk_drew ?_ | refine blk_alloc ?_ _)); refine blk_far ?_ NB566_565.out _; (with_reducible repeat (first | refine blk_drewN ?_ _ | refine blk_drew ?_ | refine blk_alloc ?_ _)); refine blk_far ?_ NB566_565.out _; (with_reducible repeat (first | refine blk_drewN ?_ _ | refine blk_drew ?_ | refine blk_alloc ?_ _)); exact BK566.out) Try.underlying38 rfl (by kernel_rfl)) rfl ?_
 exact ⟨rt, bw HB.out⟩

-- NOT PRINTED: function 111 (impl_Cpu_turn)

-- NOT PRINTED: function 71 (impl_Mem_push)

-- NOT PRINTED: function 90 (impl_Mem_pushPc)

/-! ### impl_Join: function 101 -/
def impl_Join.f (a0 : Int) (a1 : Int) : Option (Int) := (impl_Byte.f a0).bind fun t603 => ((impl_Byte.f a1).bind fun t604 => (some (wrap64 (t603 + (wrap64 (256 * t604))))))
set_option maxHeartbeats 8000000 in
set_option maxRecDepth 100000 in
theorem impl_Join.calls (a0 : Int) (a1 : Int) (r : Int) (w : World) (h : impl_Join.f a0 a1 = some r) :
  Calls Try.prog 101 #[.int .i64 a0, .int .i64 a1] w fun e w' => e = .returned (.int .i64 r) ∧ Drawn0 w w' := by
 have H : ((impl_Byte.f a0).bind fun t603 => ((impl_Byte.f a1).bind fun t604 => (some (wrap64 (t603 + (wrap64 (256 * t604))))))) = some r := h
 clear h
 replace H := Option.bind_eq_some_iff.mp H
 obtain ⟨t603, A30, H⟩ := H
 replace H : ((impl_Byte.f a1).bind fun t604 => (some (wrap64 (t603 + (wrap64 (256 * t604)))))) = some r := H
 have A3 := Aside0.mk A30
 clear A30
 replace H := Option.bind_eq_some_iff.mp H
 obtain ⟨t604, A40, H⟩ := H
 replace H : (some (wrap64 (t603 + (wrap64 (256 * t604))))) = some r := H
 have A4 := Aside0.mk A40
 clear A40
 obtain rfl := Option.some.inj H
 go_enter Try.func101, Try.ntmps101
 go_wp2_with (first | ((with_reducible refine gate_callee (f := 77) rfl ?_); refine goesM_ (some 6) rfl rfl Try.func77 #[.int .i64 a0] ?_; (with_reducible refine (impl_Byte.calls a0 t603 _ A3.out).mono ?_); rintro e w' ⟨rfl, ⟨nd, rfl⟩⟩; refine ⟨_, rfl, ?_⟩) | ((with_reducible refine gate_callee (f := 77) rfl ?_); refine goesM_ (some 8) rfl rfl Try.func77 #[.int .i64 a1] ?_; (with_reducible refine (impl_Byte.calls a1 t604 _ A4.out).mono ?_); rintro e w' ⟨rfl, ⟨nd, rfl⟩⟩; refine ⟨_, rfl, ?_⟩))
 go_ret
 exact ⟨by first | rfl | (simp; done) | (simp [*]; done), by repeat (first | exact Drawn0.refl _ | apply Drawn0.step)⟩

-- NOT PRINTED: function 120 (impl_Mem_pull)

-- NOT PRINTED: function 119 (impl_Mem_back)

/-! ### mem_pull (mine) -/
theorem pushF_keeps (ram : List Int) (k : Cp) (v : Int) : (pushF ram k v).2 = { k with S := (pushF ram k v).2.S } ∧ (pushF ram k v).1.length = ram.length := by
 unfold pushF
 split <;> simp
theorem blkP {w : World} {c : Nat} {k : Cp} {t : TypeId} (h : w.heap[c]? = some (.cells k.cells t (0, 0))) : w.cell? ⟨c, 3, none⟩ = some (.int .i64 k.P) := (blk_cell h 3).trans rfl
def pushPcF (ram : List Int) (k : Cp) : List Int × Cp := pushF (pushF ram k (k.P / 256)).1 (pushF ram k (k.P / 256)).2 k.P
set_option maxRecDepth 100000 in
theorem pushPc_calls {w0 w : World} {x c : Nat} {rv : Value} {b : Int} {k : Cp} {ram : List Int} (h : MC w0 w x c rv b k ram) :
  Calls Try.prog 90 #[.pointer (some ⟨x, 0, none⟩), .pointer (some ⟨c, 0, none⟩)] w fun e w' => e = .returned (.tuple #[]) ∧
   MC w0 w' x c rv b (pushPcF ram k).2 (pushPcF ram k).1 ∧ Kept w w' (fun j => j = c ∨ some j = rv.ownBlock) := by
 have hu37 := Try.underlying37
 have hu38 := Try.underlying38
 have hP := blkP h.cpu
 have eP : (pushF ram k (k.P / 256)).2.P = k.P := by rw [(pushF_keeps ram k (k.P / 256)).1]
 have eq : pushPcF ram k = pushF (pushF ram k (k.P / 256)).1 (pushF ram k (k.P / 256)).2 k.P := rfl
 rw [eq]
 clear eq
 have EP := Aside0.mk eP
 clear eP
 have E8 : Aside0 (∀ q : Int, shr .i64 q 8 = q / 256) := ⟨fun q => rfl⟩
 generalize k.P = p at *
 go_enter Try.func90, Try.ntmps90
 go_wp2_with fail
 refine (push_calls h _).mono ?_
 rintro e w' ⟨rfl, h1, k1⟩
 have hP1 := blkP h1.cpu
 rw [EP.out] at hP1
 clear hP
 generalize hq : pushF ram k (p / 256) = q at *
 have HQ := Aside0.mk hq
 clear hq
 go_wp2_with fail
 refine (push_calls h1 _).mono ?_
 rintro e w2 ⟨rfl, h2, k2⟩
 go_wp2
 go_end0
 obtain rfl := HQ.out
 exact ⟨rfl, h2, k1.then_ k2 (fun j hj => .inl hj)⟩
def pullF (ram : List Int) (k : Cp) : Cp × Int := if ram.length = 512 then ({ k with S := wrap64 (k.S + 1) % 256 }, rd ram (256 + wrap64 (k.S + 1) % 256)) else (k, 0)
set_option maxRecDepth 100000 in
set_option maxHeartbeats 1000000 in
theorem pull_yes (x c g cap : Nat) (ram : List Int) (S val : Int) (w : World)
  (hx0 : w.cell? ⟨x, 0, none⟩ = some (.slice (some ⟨g, 0, none⟩) ram.length cap)) (hc2 : w.cell? ⟨c, 2, none⟩ = some (.int .i64 S))
  (hlen : ram.length = 512) (hcg : w.cell? ⟨g, (256 + wrap64 (S + 1) % 256).toNat, none⟩ = some (.int .i64 val)) (hfc : w.frozen? ⟨c, 2, none⟩ = false) (hgc : g ≠ c) (hgx : g ≠ x) (hcx : c ≠ x) (hxc : x ≠ c) :
  Calls Try.prog 120 #[.pointer (some ⟨x, 0, none⟩), .pointer (some ⟨c, 0, none⟩)] w fun e w' => e = .returned (.int .i64 val) ∧
   ∃ n, w' = (w.setCell ⟨c, 2, none⟩ (.int .i64 (wrap64 (S + 1) % 256))).drewN n := by
 have hu37 := Try.underlying37
 have hu38 := Try.underlying38
 have hl : (((ram.length : Nat) : Int) != 512) = false := by simp; omega
 have A3 : Aside0 (∀ w, Calls Try.prog 77 #[.int .i64 (wrap64 (S + 1))] w fun e w' => e = .returned (.int .i64 (wrap64 (S + 1) % 256)) ∧ w' = w) := ⟨byte_same _⟩
 have hs0 : 0 ≤ wrap64 (S + 1) % 256 := by omega
 have hs1 : wrap64 (S + 1) % 256 < 256 := by omega
 generalize wrap64 (S + 1) % 256 = sb at *
 have hsum : IntKind.i64.wrap (256 + sb) = 256 + sb := by rw [IntKind.wrap_i64]; omega
 have hb1 : (256 + sb < (ram.length : Int)) = True := eq_true (by omega)
 have hb0 : (0 ≤ 256 + sb) = True := eq_true (by omega)
 clear hlen
 go_enter Try.func120, Try.ntmps120
 go_wp2_with (go_at_call 77; refine (A3.out _).mono ?_; rintro e w' ⟨rfl, rfl⟩)
 go_quiet (fail)
 go_wp2
 go_ret
 exact ⟨rfl, _, rfl⟩
set_option maxRecDepth 100000 in
theorem pull_no (x c : Nat) (A : Option Addr) (cap : Nat) (ram : List Int) (w : World)
  (hx0 : w.cell? ⟨x, 0, none⟩ = some (.slice A ram.length cap)) (hlen : ram.length ≠ 512) :
  Calls Try.prog 120 #[.pointer (some ⟨x, 0, none⟩), .pointer (some ⟨c, 0, none⟩)] w fun e w' => e = .returned (.int .i64 0) ∧ w' = w := by
 have hu37 := Try.underlying37
 have hl : (((ram.length : Nat) : Int) != 512) = true := by simp; omega
 clear hlen
 go_enter Try.func120, Try.ntmps120
 go_wp2
 go_ret
 exact ⟨rfl, rfl⟩
theorem pull_calls {w0 w : World} {x c : Nat} {rv : Value} {b : Int} {k : Cp} {ram : List Int} (h : MC w0 w x c rv b k ram) :
  Calls Try.prog 120 #[.pointer (some ⟨x, 0, none⟩), .pointer (some ⟨c, 0, none⟩)] w fun e w' => e = .returned (.int .i64 (pullF ram k).2) ∧
   MC w0 w' x c rv b (pullF ram k).1 ram ∧ Kept w w' (fun j => j = c ∨ some j = rv.ownBlock) := by
 unfold pullF
 by_cases hl : ram.length = 512
 ·rw [if_pos hl]
  obtain ⟨g, cap, rfl, hg, _, _⟩ := Kd.R_form h.row (by omega)
  obtain ⟨hcg, _⟩ := Kd.R_celln 0 h.row (256 + wrap64 (k.S + 1) % 256) (by omega) (by omega)
  refine (pull_yes x c g cap ram k.S _ w ((blk_cell h.mem 0).trans rfl) ((blk_cell h.cpu 2).trans rfl) hl hcg (blk_frozen h.cpu 2) (fun e => h.far.2 (by rw [e]; rfl)) (fun e => h.far.1 (by rw [e]; rfl)) (Ne.symm h.ne) h.ne).mono ?_
  rintro e w' ⟨rfl, n, rfl⟩
  refine ⟨rfl, ((h.setC (k' := { k with S := wrap64 (k.S + 1) % 256 }) 2 _ rfl).drewN n), ?_⟩
  exact ((kept_set (Kept.refl w _) (.inl rfl) _).drewN n)
 ·rw [if_neg hl]
  obtain ⟨A, cap, rfl⟩ := Kd.R_slice h.row
  refine (pull_no x c A cap ram w ((blk_cell h.mem 0).trans rfl) hl).mono ?_
  rintro e w' ⟨rfl, rfl⟩
  exact ⟨rfl, h, Kept.refl _ _⟩
theorem implJoin (a b : Int) : impl_Join.f a b = some (a % 256 + 256 * (b % 256)) := by
 unfold impl_Join.f impl_Byte.f
 simp only [Option.bind_some, and255]
 rw [show wrap64 (256 * (b % 256)) = 256 * (b % 256) by unfold wrap64; omega, show wrap64 (a % 256 + 256 * (b % 256)) = a % 256 + 256 * (b % 256) by unfold wrap64; omega]
def backF (ram : List Int) (k : Cp) : Cp := { (pullF ram (pullF ram k).1).1 with P := (pullF ram k).2 % 256 + 256 * ((pullF ram (pullF ram k).1).2 % 256) }
set_option maxRecDepth 100000 in
theorem back_calls {w0 w : World} {x c : Nat} {rv : Value} {b : Int} {k : Cp} {ram : List Int} (h : MC w0 w x c rv b k ram) :
  Calls Try.prog 119 #[.pointer (some ⟨x, 0, none⟩), .pointer (some ⟨c, 0, none⟩)] w fun e w' => e = .returned (.tuple #[]) ∧
   MC w0 w' x c rv b (backF ram k) ram ∧ Kept w w' (fun j => j = c ∨ some j = rv.ownBlock) := by
 have hu37 := Try.underlying37
 have hu38 := Try.underlying38
 unfold backF
 go_enter Try.func119, Try.ntmps119
 go_wp2_with fail
 refine (pull_calls h).mono ?_
 rintro e w1 ⟨rfl, h1, k1⟩
 generalize hq : pullF ram k = q at *
 have HQ := Aside0.mk hq
 clear hq
 go_wp2_with fail
 refine (pull_calls h1).mono ?_
 rintro e w2 ⟨rfl, h2, k2⟩
 generalize hr : pullF ram q.1 = r at *
 have HR := Aside0.mk hr
 clear hr
 have HJ := Aside0.mk (implJoin q.2 r.2)
 generalize hj : q.2 % 256 + 256 * (r.2 % 256) = j at *
 have HJ2 := Aside0.mk hj
 clear hj
 go_wp2_with fail
 refine (impl_Join.calls _ _ _ _ HJ.out).mono ?_
 rintro e w3 ⟨rfl, n, rfl⟩
 have h3 := h2.drewN n
 have hfc : w2.frozen? ⟨c, 3, none⟩ = false := blk_frozen h2.cpu 3
 have hcc := blkP h2.cpu
 go_wp2
 go_end0
 obtain rfl := HJ2.out
 obtain rfl := HR.out
 obtain rfl := HQ.out
 refine ⟨rfl, (h3.setC 3 _ rfl), ?_⟩
 exact kept_set ((k1.then_ k2 (fun j hj => .inl hj)).drewN n) (.inl rfl) _

/-! ### impl_reckon (mine) -/
theorem cells8 {w : World} {g : Nat} {t : TypeId} {a0 a1 a2 a3 a4 a5 a6 a7 : Value} (h : w.heap[g]? = some (.cells #[a0, a1, a2, a3, a4, a5, a6, a7] t (0, 0))) : (w.cell? ⟨g, 0, none⟩ = some a0 ∧ w.cell? ⟨g, 1, none⟩ = some a1 ∧ w.cell? ⟨g, 2, none⟩ = some a2 ∧ w.cell? ⟨g, 3, none⟩ = some a3 ∧ w.cell? ⟨g, 4, none⟩ = some a4 ∧ w.cell? ⟨g, 5, none⟩ = some a5 ∧ w.cell? ⟨g, 6, none⟩ = some a6 ∧ w.cell? ⟨g, 7, none⟩ = some a7) ∧ (w.frozen? ⟨g, 0, none⟩ = false ∧ w.frozen? ⟨g, 1, none⟩ = false ∧ w.frozen? ⟨g, 2, none⟩ = false ∧ w.frozen? ⟨g, 3, none⟩ = false ∧ w.frozen? ⟨g, 4, none⟩ = false ∧ w.frozen? ⟨g, 5, none⟩ = false ∧ w.frozen? ⟨g, 6, none⟩ = false ∧ w.frozen? ⟨g, 7, none⟩ = false) :=
 ⟨⟨(blk_cell h 0).trans rfl, (blk_cell h 1).trans rfl, (blk_cell h 2).trans rfl, (blk_cell h 3).trans rfl, (blk_cell h 4).trans rfl, (blk_cell h 5).trans rfl, (blk_cell h 6).trans rfl, (blk_cell h 7).trans rfl⟩, ⟨blk_frozen h 0, blk_frozen h 1, blk_frozen h 2, blk_frozen h 3, blk_frozen h 4, blk_frozen h 5, blk_frozen h 6, blk_frozen h 7⟩⟩
def setAK (k : Cp) (v : Int) : Cp := { k with A := v % 256, Z := v % 256 == 0, N := decide (v % 256 > 127) }
def setXK (k : Cp) (v : Int) : Cp := { k with X := v % 256, Z := v % 256 == 0, N := decide (v % 256 > 127) }
theorem seta_ex (k : Cp) (v : Int) : ∃ s1 sz sn, impl_SetA.f k.A k.X k.S k.P k.Z k.N k.C k.I v = some (s1, k.X, k.S, k.P, sz, sn, k.C, k.I) ∧ setAK k v = ⟨s1, k.X, k.S, k.P, sz, sn, k.C, k.I⟩ := by
 refine ⟨_, _, _, ?_, rfl⟩
 unfold impl_SetA.f impl_Signs.f impl_Byte.f
 simp only [Option.bind_some, and255]
theorem setx_ex (k : Cp) (v : Int) : ∃ s1 sz sn, impl_SetX.f k.A k.X k.S k.P k.Z k.N k.C k.I v = some (k.A, s1, k.S, k.P, sz, sn, k.C, k.I) ∧ setXK k v = ⟨k.A, s1, k.S, k.P, sz, sn, k.C, k.I⟩ := by
 refine ⟨_, _, _, ?_, rfl⟩
 unfold impl_SetX.f impl_Signs.f impl_Byte.f
 simp only [Option.bind_some, and255]
/-- A call that changes the processor alone. -/
structure KeptC (w W : World) (c : Nat) : Prop where
 kept : Kept w W (fun j => j = c)
 os : W.os = w.os
 tape : W.tape = w.tape
 out : W.output = w.output
theorem KeptC.of_below {w W : World} {c : Nat} (h : Below w.heap.size w W) : KeptC w W c := ⟨Kept.of_below h _, h.os, h.tape, h.output⟩
theorem KeptC.drew {w W : World} {c : Nat} (h : KeptC w W c) : KeptC w W.drew c := ⟨h.kept.drew, h.os, h.tape, h.out⟩
theorem KeptC.drewN {w W : World} {c : Nat} (h : KeptC w W c) (m : Nat) : KeptC w (W.drewN m) c := ⟨h.kept.drewN m, h.os, h.tape, h.out⟩
theorem KeptC.below {w W W2 : World} {c : Nat} (h : KeptC w W c) (hb : Below W.heap.size W W2) : KeptC w W2 c := ⟨h.kept.below hb, hb.os.trans h.os, hb.tape.trans h.tape, hb.output.trans h.out⟩
theorem kept1 {w W : World} {r : Nat} (h : KeptC w W r) (i : Nat) (u : Value) : KeptC w (W.setCell ⟨r, i, none⟩ u) r := ⟨kept_set h.kept rfl u, h.os, h.tape, h.out⟩
theorem kept8 {w W : World} {r : Nat} (h : KeptC w W r) (u0 u1 u2 u3 u4 u5 u6 u7 : Value) :
  KeptC w ((((((((W.setCell ⟨r, 0, none⟩ u0).setCell ⟨r, 1, none⟩ u1).setCell ⟨r, 2, none⟩ u2).setCell ⟨r, 3, none⟩ u3).setCell ⟨r, 4, none⟩ u4).setCell ⟨r, 5, none⟩ u5).setCell ⟨r, 6, none⟩ u6).setCell ⟨r, 7, none⟩ u7) r :=
 kept1 (kept1 (kept1 (kept1 (kept1 (kept1 (kept1 (kept1 h _ _) _ _) _ _) _ _) _ _) _ _) _ _) _ _
theorem MC.cpuTo {w0 w W : World} {x c : Nat} {rv : Value} {b : Int} {k k' : Cp} {ram : List Int} (h : MC w0 w x c rv b k ram) (hc : W.heap[c]? = some (.cells k'.cells 38 (0, 0))) (hk : KeptC w W c) : MC w0 W x c rv b k' ram :=
 ⟨blk_kept h.mem hk.kept h.ne, hc, Kd.R_mono (Kd.R_kept (Kd.R_types h.row h.cpu (by decide)) hk.kept (fun _ hk => hk.2)) (fun _ hk => hk.1), h.hx, h.hc,
  ⟨hk.os.trans h.below.os, hk.tape.trans h.below.tape, hk.out.trans h.below.output, Nat.le_trans h.below.size hk.kept.1, fun j hj => (hk.kept.2 j (by have := h.below.size; omega) (by have := h.hc; omega)).trans (h.below.block j hj)⟩⟩
def addK (k : Cp) (v : Int) : Cp := { setAK k ((impl_Add8.f k.A v k.C).getD (0, false)).1 with C := ((impl_Add8.f k.A v k.C).getD (0, false)).2 }
def subK (k : Cp) (v : Int) : Cp := { setAK k ((impl_Sub8.f k.A v k.C).getD (0, false)).1 with C := ((impl_Sub8.f k.A v k.C).getD (0, false)).2 }
def cmpK (k : Cp) (v : Int) : Cp := { k with Z := ((impl_Sub8.f k.A v true).getD (0, false)).1 % 256 == 0, N := decide (((impl_Sub8.f k.A v true).getD (0, false)).1 % 256 > 127), C := ((impl_Sub8.f k.A v true).getD (0, false)).2 }
theorem add8_ex (a b : Int) (c : Bool) : ∃ s q, impl_Add8.f a b c = some (s, q) := by
 unfold impl_Add8.f impl_Byte.f impl_flag.f
 cases c <;> exact ⟨_, _, rfl⟩
theorem sub8_ex (a b : Int) (c : Bool) : ∃ s q, impl_Sub8.f a b c = some (s, q) := by
 unfold impl_Sub8.f impl_Byte.f impl_flag.f
 cases c <;> exact ⟨_, _, rfl⟩
theorem signs_ex (a : Int) : ∃ z n, impl_Signs.f a = some (z, n) ∧ (a % 256 == 0) = z ∧ decide (a % 256 > 127) = n := by
 refine ⟨_, _, ?_, rfl, rfl⟩
 unfold impl_Signs.f impl_Byte.f
 simp only [Option.bind_some, and255]
theorem addK_ex (k : Cp) (v : Int) : ∃ sm cy s1 sz sn, impl_Add8.f k.A v k.C = some (sm, cy) ∧ impl_SetA.f k.A k.X k.S k.P k.Z k.N k.C k.I sm = some (s1, k.X, k.S, k.P, sz, sn, k.C, k.I) ∧ addK k v = ⟨s1, k.X, k.S, k.P, sz, sn, cy, k.I⟩ := by
 obtain ⟨sm, cy, h⟩ := add8_ex k.A v k.C
 obtain ⟨s1, sz, sn, hf, ek⟩ := seta_ex k sm
 refine ⟨sm, cy, s1, sz, sn, h, hf, ?_⟩
 unfold addK
 rw [h, Option.getD_some, ek]
theorem subK_ex (k : Cp) (v : Int) : ∃ sm cy s1 sz sn, impl_Sub8.f k.A v k.C = some (sm, cy) ∧ impl_SetA.f k.A k.X k.S k.P k.Z k.N k.C k.I sm = some (s1, k.X, k.S, k.P, sz, sn, k.C, k.I) ∧ subK k v = ⟨s1, k.X, k.S, k.P, sz, sn, cy, k.I⟩ := by
 obtain ⟨sm, cy, h⟩ := sub8_ex k.A v k.C
 obtain ⟨s1, sz, sn, hf, ek⟩ := seta_ex k sm
 refine ⟨sm, cy, s1, sz, sn, h, hf, ?_⟩
 unfold subK
 rw [h, Option.getD_some, ek]
theorem cmpK_ex (k : Cp) (v : Int) : ∃ sm cy sz sn, impl_Sub8.f k.A v true = some (sm, cy) ∧ impl_Signs.f sm = some (sz, sn) ∧ cmpK k v = ⟨k.A, k.X, k.S, k.P, sz, sn, cy, k.I⟩ := by
 obtain ⟨sm, cy, h⟩ := sub8_ex k.A v true
 obtain ⟨sz, sn, hs, e1, e2⟩ := signs_ex sm
 refine ⟨sm, cy, sz, sn, h, hs, ?_⟩
 unfold cmpK
 rw [h, Option.getD_some, e1, e2]
set_option maxRecDepth 100000 in
set_option maxHeartbeats 4000000 in
theorem reckon_1 {w : World} {c : Nat} {A X S P : Int} {Z N C I : Bool} (hc : w.heap[c]? = some (.cells #[.int .i64 A, .int .i64 X, .int .i64 S, .int .i64 P, .bool Z, .bool N, .bool C, .bool I] 38 (0, 0))) (arg v : Int) :
  Calls Try.prog 110 #[.pointer (some ⟨c, 0, none⟩), .agg #[.int .i64 1, .int .i64 arg], .int .i64 v] w fun e w' => e = .returned (.bool true) ∧ w'.heap[c]? = some (.cells (setAK (⟨A, X, S, P, Z, N, C, I⟩ : Cp) arg).cells 38 (0, 0)) ∧ KeptC w w' c := by
 obtain ⟨s1, sz, sn, hf, ek⟩ := seta_ex (⟨A, X, S, P, Z, N, C, I⟩ : Cp) arg
 rw [ek]
 clear ek
 have HF := Aside0.mk hf
 clear hf
 have hu38 := Try.underlying38
 have hu68 := Try.underlying68
 have HC0 := Aside0.mk hc
 clear hc
 go_enter Try.func110, Try.ntmps110
 go_wp2_with (first | ((with_reducible refine gate_dst (N := 4) rfl ?_); refine bx (N := 4) (cs := #[.int .i64 1, .int .i64 arg]) (t := 68) ?_; intro g hg w1 hbox hb; have HC := Aside0.mk (blk_below HC0.out hb); have HG := Aside0.mk hbox; have HB1 := Aside0.mk hb; have hb1 : w1.cell? ⟨g, 0, none⟩ = some (.int .i64 1) := (blk_cell hbox 0).trans rfl; have hb2 : w1.cell? ⟨g, 1, none⟩ = some (.int .i64 arg) := (blk_cell hbox 1).trans rfl; clear HC0 hb hbox hg; obtain ⟨⟨y0, y1, y2, y3, y4, y5, y6, y7⟩, ⟨fy0, fy1, fy2, fy3, fy4, fy5, fy6, fy7⟩⟩ := cells8 (HC.out)))
 refine free_ (n := 9) (e := 7) (g := 0) (T := (true, [([], []), ([], []), ([1], [1]), ([2], [2]), ([], []), ([4], [4]), ([3, 5], [3, 5]), ([0, 0, 1, 2, 3, 4, 5, 6], [0]), ([7, 6, 6, 0, 1, 2, 3, 4, 5, 6], [6, 7])])) #[true, true, true, true, true, true, true, false, false] #[false, true, true, true, true, true, true, false, false] [18, 19, 20, 21, 22, 23, 24] (fun j u w' => match j with
  | 0 => u = .pointer (some ⟨c, 0, none⟩)
  | 1 => u = .pointer (some ⟨c, 0, none⟩)
  | 2 => u = .pointer (some ⟨c, 0, none⟩)
  | 3 => u = .agg #[.int .i64 A, .int .i64 X, .int .i64 S, .int .i64 P, .bool Z, .bool N, .bool C, .bool I]
  | 4 => u = .pointer (some ⟨g, 1, none⟩)
  | 5 => u = .int .i64 arg
  | 6 => u = .agg #[.int .i64 s1, .int .i64 X, .int .i64 S, .int .i64 P, .bool sz, .bool sn, .bool C, .bool I]
  | _ => False)
  (by kernel_rfl) rfl (by kernel_rfl) (by kernel_rfl) (by kernel_rfl) (any_of (T := (true, [([], []), ([], []), ([1], [1]), ([2], [2]), ([], []), ([4], [4]), ([3, 5], [3, 5]), ([0, 0, 1, 2, 3, 4, 5, 6], [0]), ([7, 6, 6, 0, 1, 2, 3, 4, 5, 6], [6, 7])])) (by kernel_rfl) (by kernel_rfl)) (fun _ _ _ _ h => h) ?streckon1 ?spreckon1 ?lareckon1 ?enreckon1
 case streckon1 =>
  intro j u W W' h hb
  exact h
 case spreckon1 =>
  intro i hi o ho a W hB hout hneed K hK
  have HBW := Aside0.mk hB
  have hcase : i = 0 ∨ i = 1 ∨ i = 2 ∨ i = 3 ∨ i = 4 ∨ i = 5 ∨ i = 6 := by omega
  clear hB
  rcases hcase with rfl | rfl | rfl | rfl | rfl | rfl | rfl
  ·obtain rfl := Option.some.inj ho
   have h0 : a.eval (.tmp 0) = .pointer (some ⟨c, 0, none⟩) := hout 0 (by decide)
   have h0' := eval_get h0
   refine value_ (v := .pointer (some ⟨c, 0, none⟩)) (w1 := W) (by rfl) rfl ?_ (hK.out _ _ (Below.refl _ _) rfl)
   go_simp
  ·obtain rfl := Option.some.inj ho
   have h0 : a.eval (.tmp 0) = .pointer (some ⟨c, 0, none⟩) := hout 0 (by decide)
   have h0' := eval_get h0
   refine value_ (v := .pointer (some ⟨c, 0, none⟩)) (w1 := W) (by rfl) rfl ?_ (hK.out _ _ (Below.refl _ _) rfl)
   go_simp
  ·obtain rfl := Option.some.inj ho
   have e1 : a.eval (.tmp 19) = _ := hneed 1 (by decide)
   have e1' := eval_get e1
   refine value_ (v := .pointer (some ⟨c, 0, none⟩)) (w1 := W) (by rfl) rfl ?_ (hK.out _ _ (Below.refl _ _) rfl)
   go_simp
  ·obtain rfl := Option.some.inj ho
   have e2 : a.eval (.tmp 20) = _ := hneed 2 (by decide)
   have e2' := eval_get e2
   have hb := blk_below (w := w1.drew) HC.out HBW.out
   obtain ⟨⟨d0, d1, d2, d3, d4, d5, d6, d7⟩, -⟩ := cells8 hb
   refine value_ (v := .agg #[.int .i64 A, .int .i64 X, .int .i64 S, .int .i64 P, .bool Z, .bool N, .bool C, .bool I]) (w1 := W) (by rfl) rfl ?_ (hK.out _ _ (Below.refl _ _) rfl)
   go_simp
  ·obtain rfl := Option.some.inj ho
   have h4 : a.eval (.tmp 4) = .pointer (some ⟨g, 0, none⟩) := hout 4 (by decide)
   have h4' := eval_get h4
   refine value_ (v := .pointer (some ⟨g, 1, none⟩)) (w1 := W) (by rfl) rfl ?_ (hK.out _ _ (Below.refl _ _) rfl)
   go_simp
  ·obtain rfl := Option.some.inj ho
   have e4 : a.eval (.tmp 22) = _ := hneed 4 (by decide)
   have e4' := eval_get e4
   have hb := blk_below (w := w1.drew) HG.out HBW.out
   have d0 := (blk_cell hb 1).trans rfl
   refine value_ (v := .int .i64 arg) (w1 := W) (by rfl) rfl ?_ (hK.out _ _ (Below.refl _ _) rfl)
   go_simp
  ·obtain rfl := Option.some.inj ho
   have e3 : a.eval (.tmp 21) = _ := hneed 3 (by decide)
   have e3' := eval_get e3
   have e5 : a.eval (.tmp 23) = _ := hneed 5 (by decide)
   have e5' := eval_get e5
   refine goes_ Try.func114 (by kernel_rfl) rfl #[.agg #[.int .i64 A, .int .i64 X, .int .i64 S, .int .i64 P, .bool Z, .bool N, .bool C, .bool I], .int .i64 arg] (by rfl) rfl rfl (by simp only [List.map_toArray, List.map_cons, List.map_nil, e3, e5]) ?_
   refine (impl_SetA.calls A X S P Z N C I _ s1 X S P sz sn C I W HF.out).mono ?_
   rintro e w' ⟨rfl, hb⟩
   exact ⟨_, rfl, hK.out _ _ hb rfl⟩
 case lareckon1 =>
  intro o ho a W hout hneed
  obtain rfl := Option.some.inj ho
  have h0 : a.eval (.tmp 0) = .pointer (some ⟨c, 0, none⟩) := hout 0 (by decide)
  have h0' := eval_get h0
  refine ⟨.pointer (some ⟨c, 0, none⟩), rfl, Or.inl ⟨by rfl, ?_⟩⟩
  intro w'
  go_simp
 intro f vs W2 hB hE
 have HBW := Aside0.mk hB
 clear hB
 have q0 : vs 0 = _ := hE 0 (by decide)
 have q1 : vs 1 = _ := hE 1 (by decide)
 have q2 : vs 2 = _ := hE 2 (by decide)
 have q3 : vs 3 = _ := hE 3 (by decide)
 have q4 : vs 4 = _ := hE 4 (by decide)
 have q5 : vs 5 = _ := hE 5 (by decide)
 have q6 : vs 6 = _ := hE 6 (by decide)
 show wpAnyLast _ _ _ _ _ _ (f + 2) _ (putAll _ [(18, vs 0), (19, vs 1), (20, vs 2), (21, vs 3), (22, vs 4), (23, vs 5), (24, vs 6)]) W2
 rw [q0, q1, q2, q3, q4, q5, q6]
 clear q0 q1 q2 q3 q4 q5 q6 hE
 refine norm_ (a' := ?_) ?_ ?_
 rotate_left
 ·simp only [putAll, Act.put, List.setIfInBounds_toArray, List.set_cons_zero, List.set_cons_succ]
  rfl
 refine pure_ (i := 7) (N := some 25) (v := ?_) (a' := ?_) #[true, true, true, true, true, true, true, true, false] rfl rfl (by kernel_rfl) (fun _ _ _ h => h) (Or.inl ⟨by rfl, ?_⟩) ?_ ?_
 rotate_left
 ·intro w'
  go_simp
  with_reducible rfl
 rotate_left
 ·simp only [Act.put, List.setIfInBounds_toArray, List.set_cons_zero, List.set_cons_succ, i64_w, i32_w]
  rfl
 refine one_ (i := 8) (N := none) #[true, true, true, true, true, true, true, true, true] rfl rfl (by kernel_rfl) (by decide) (fun K hK => ?_)
 refine skip_ (w1 := ?_) (by rfl) rfl ?_ ?_
 rotate_left
 ·skip
  have hcW := blk_below (w := w1.drew) HC.out HBW.out
  obtain ⟨⟨r0, r1, r2, r3, r4, r5, r6, r7⟩, ⟨fr0, fr1, fr2, fr3, fr4, fr5, fr6, fr7⟩⟩ := cells8 (hcW)
  go_simp
  rfl
 refine hK.out _ _ trivial (fun _ => ?_)
 clear hK K
 refine done_ (by kernel_rfl) ?_
 go_wp2
 go_ret
 exact ⟨rfl, put8 (blk_below (w := w1.drew) HC.out HBW.out) _ _ _ _ _ _ _ _, kept8 (((KeptC.of_below HB1.out).drew).below HBW.out) _ _ _ _ _ _ _ _⟩
set_option maxRecDepth 100000 in
set_option maxHeartbeats 4000000 in
theorem reckon_2 {w : World} {c : Nat} {A X S P : Int} {Z N C I : Bool} (hc : w.heap[c]? = some (.cells #[.int .i64 A, .int .i64 X, .int .i64 S, .int .i64 P, .bool Z, .bool N, .bool C, .bool I] 38 (0, 0))) (arg v : Int) :
  Calls Try.prog 110 #[.pointer (some ⟨c, 0, none⟩), .agg #[.int .i64 2, .int .i64 arg], .int .i64 v] w fun e w' => e = .returned (.bool true) ∧ w'.heap[c]? = some (.cells (setAK (⟨A, X, S, P, Z, N, C, I⟩ : Cp) v).cells 38 (0, 0)) ∧ KeptC w w' c := by
 obtain ⟨s1, sz, sn, hf, ek⟩ := seta_ex (⟨A, X, S, P, Z, N, C, I⟩ : Cp) v
 rw [ek]
 clear ek
 have HF := Aside0.mk hf
 clear hf
 have hu38 := Try.underlying38
 have hu68 := Try.underlying68
 have HC0 := Aside0.mk hc
 clear hc
 go_enter Try.func110, Try.ntmps110
 go_wp2_with (first | ((with_reducible refine gate_dst (N := 4) rfl ?_); refine bx (N := 4) (cs := #[.int .i64 2, .int .i64 arg]) (t := 68) ?_; intro g hg w1 hbox hb; have HC := Aside0.mk (blk_below HC0.out hb); have HG := Aside0.mk hbox; have HB1 := Aside0.mk hb; have hb1 : w1.cell? ⟨g, 0, none⟩ = some (.int .i64 2) := (blk_cell hbox 0).trans rfl; have hb2 : w1.cell? ⟨g, 1, none⟩ = some (.int .i64 arg) := (blk_cell hbox 1).trans rfl; clear HC0 hb hbox hg; obtain ⟨⟨y0, y1, y2, y3, y4, y5, y6, y7⟩, ⟨fy0, fy1, fy2, fy3, fy4, fy5, fy6, fy7⟩⟩ := cells8 (HC.out)) | (go_at_call 114; refine (impl_SetA.calls A X S P Z N C I _ s1 X S P sz sn C I _ HF.out).mono ?_; rintro e w2 ⟨rfl, hb⟩; have HC2 := Aside0.mk (blk_below HC.out hb); have HB2 := Aside0.mk hb; clear hb; obtain ⟨⟨r0, r1, r2, r3, r4, r5, r6, r7⟩, ⟨fr0, fr1, fr2, fr3, fr4, fr5, fr6, fr7⟩⟩ := cells8 (HC2.out)))
 go_ret
 exact ⟨rfl, put8 HC2.out _ _ _ _ _ _ _ _, kept8 ((KeptC.of_below HB1.out).below HB2.out) _ _ _ _ _ _ _ _⟩
set_option maxRecDepth 100000 in
set_option maxHeartbeats 4000000 in
theorem reckon_14 {w : World} {c : Nat} {A X S P : Int} {Z N C I : Bool} (hc : w.heap[c]? = some (.cells #[.int .i64 A, .int .i64 X, .int .i64 S, .int .i64 P, .bool Z, .bool N, .bool C, .bool I] 38 (0, 0))) (arg v : Int) :
  Calls Try.prog 110 #[.pointer (some ⟨c, 0, none⟩), .agg #[.int .i64 14, .int .i64 arg], .int .i64 v] w fun e w' => e = .returned (.bool true) ∧ w'.heap[c]? = some (.cells (setAK (⟨A, X, S, P, Z, N, C, I⟩ : Cp) v).cells 38 (0, 0)) ∧ KeptC w w' c := by
 obtain ⟨s1, sz, sn, hf, ek⟩ := seta_ex (⟨A, X, S, P, Z, N, C, I⟩ : Cp) v
 rw [ek]
 clear ek
 have HF := Aside0.mk hf
 clear hf
 have hu38 := Try.underlying38
 have hu68 := Try.underlying68
 have HC0 := Aside0.mk hc
 clear hc
 go_enter Try.func110, Try.ntmps110
 go_wp2_with (first | ((with_reducible refine gate_dst (N := 4) rfl ?_); refine bx (N := 4) (cs := #[.int .i64 14, .int .i64 arg]) (t := 68) ?_; intro g hg w1 hbox hb; have HC := Aside0.mk (blk_below HC0.out hb); have HG := Aside0.mk hbox; have HB1 := Aside0.mk hb; have hb1 : w1.cell? ⟨g, 0, none⟩ = some (.int .i64 14) := (blk_cell hbox 0).trans rfl; have hb2 : w1.cell? ⟨g, 1, none⟩ = some (.int .i64 arg) := (blk_cell hbox 1).trans rfl; clear HC0 hb hbox hg; obtain ⟨⟨y0, y1, y2, y3, y4, y5, y6, y7⟩, ⟨fy0, fy1, fy2, fy3, fy4, fy5, fy6, fy7⟩⟩ := cells8 (HC.out)) | (go_at_call 114; refine (impl_SetA.calls A X S P Z N C I _ s1 X S P sz sn C I _ HF.out).mono ?_; rintro e w2 ⟨rfl, hb⟩; have HC2 := Aside0.mk (blk_below HC.out hb); have HB2 := Aside0.mk hb; clear hb; obtain ⟨⟨r0, r1, r2, r3, r4, r5, r6, r7⟩, ⟨fr0, fr1, fr2, fr3, fr4, fr5, fr6, fr7⟩⟩ := cells8 (HC2.out)))
 go_ret
 exact ⟨rfl, put8 HC2.out _ _ _ _ _ _ _ _, kept8 ((KeptC.of_below HB1.out).below HB2.out) _ _ _ _ _ _ _ _⟩
set_option maxRecDepth 100000 in
set_option maxHeartbeats 4000000 in
theorem reckon_6 {w : World} {c : Nat} {A X S P : Int} {Z N C I : Bool} (hc : w.heap[c]? = some (.cells #[.int .i64 A, .int .i64 X, .int .i64 S, .int .i64 P, .bool Z, .bool N, .bool C, .bool I] 38 (0, 0))) (arg v : Int) :
  Calls Try.prog 110 #[.pointer (some ⟨c, 0, none⟩), .agg #[.int .i64 6, .int .i64 arg], .int .i64 v] w fun e w' => e = .returned (.bool true) ∧ w'.heap[c]? = some (.cells (setAK (⟨A, X, S, P, Z, N, C, I⟩ : Cp) (Go.bits .and .i64 A arg)).cells 38 (0, 0)) ∧ KeptC w w' c := by
 obtain ⟨s1, sz, sn, hf, ek⟩ := seta_ex (⟨A, X, S, P, Z, N, C, I⟩ : Cp) (Go.bits .and .i64 A arg)
 rw [ek]
 clear ek
 have HF := Aside0.mk hf
 clear hf
 have hu38 := Try.underlying38
 have hu68 := Try.underlying68
 have HC0 := Aside0.mk hc
 clear hc
 go_enter Try.func110, Try.ntmps110
 go_wp2_with (first | ((with_reducible refine gate_dst (N := 4) rfl ?_); refine bx (N := 4) (cs := #[.int .i64 6, .int .i64 arg]) (t := 68) ?_; intro g hg w1 hbox hb; have HC := Aside0.mk (blk_below HC0.out hb); have HG := Aside0.mk hbox; have HB1 := Aside0.mk hb; have hb1 : w1.cell? ⟨g, 0, none⟩ = some (.int .i64 6) := (blk_cell hbox 0).trans rfl; have hb2 : w1.cell? ⟨g, 1, none⟩ = some (.int .i64 arg) := (blk_cell hbox 1).trans rfl; clear HC0 hb hbox hg; obtain ⟨⟨y0, y1, y2, y3, y4, y5, y6, y7⟩, ⟨fy0, fy1, fy2, fy3, fy4, fy5, fy6, fy7⟩⟩ := cells8 (HC.out)))
 refine free_ (n := 14) (e := 12) (g := 0) (T := (true, [([], []), ([], []), ([1], [1]), ([2], [2]), ([], []), ([4], [4]), ([5], [5]), ([6], [6]), ([], []), ([8], [8]), ([7, 9], [7, 9]), ([3, 10], [3, 10]), ([0, 0, 1, 2, 3, 4, 5, 6, 7, 8, 9, 10, 11], [0]), ([12, 11, 11, 0, 1, 2, 3, 4, 5, 6, 7, 8, 9, 10, 11], [11, 12])])) #[true, true, true, true, true, true, true, true, true, true, true, true, false, false] #[false, true, true, true, true, true, true, true, true, true, true, true, false, false] [98, 99, 100, 101, 102, 103, 104, 105, 106, 107, 108, 109] (fun j u w' => match j with
  | 0 => u = .pointer (some ⟨c, 0, none⟩)
  | 1 => u = .pointer (some ⟨c, 0, none⟩)
  | 2 => u = .pointer (some ⟨c, 0, none⟩)
  | 3 => u = .agg #[.int .i64 A, .int .i64 X, .int .i64 S, .int .i64 P, .bool Z, .bool N, .bool C, .bool I]
  | 4 => u = .pointer (some ⟨c, 0, none⟩)
  | 5 => u = .pointer (some ⟨c, 0, none⟩)
  | 6 => u = .pointer (some ⟨c, 0, none⟩)
  | 7 => u = .int .i64 A
  | 8 => u = .pointer (some ⟨g, 1, none⟩)
  | 9 => u = .int .i64 arg
  | 10 => u = .int .i64 (Go.bits .and .i64 A arg)
  | 11 => u = .agg #[.int .i64 s1, .int .i64 X, .int .i64 S, .int .i64 P, .bool sz, .bool sn, .bool C, .bool I]
  | _ => False)
  (by kernel_rfl) rfl (by kernel_rfl) (by kernel_rfl) (by kernel_rfl) (any_of (T := (true, [([], []), ([], []), ([1], [1]), ([2], [2]), ([], []), ([4], [4]), ([5], [5]), ([6], [6]), ([], []), ([8], [8]), ([7, 9], [7, 9]), ([3, 10], [3, 10]), ([0, 0, 1, 2, 3, 4, 5, 6, 7, 8, 9, 10, 11], [0]), ([12, 11, 11, 0, 1, 2, 3, 4, 5, 6, 7, 8, 9, 10, 11], [11, 12])])) (by kernel_rfl) (by kernel_rfl)) (fun _ _ _ _ h => h) ?streckon6 ?spreckon6 ?lareckon6 ?enreckon6
 case streckon6 =>
  intro j u W W' h hb
  exact h
 case spreckon6 =>
  intro i hi o ho a W hB hout hneed K hK
  have HBW := Aside0.mk hB
  have hcase : i = 0 ∨ i = 1 ∨ i = 2 ∨ i = 3 ∨ i = 4 ∨ i = 5 ∨ i = 6 ∨ i = 7 ∨ i = 8 ∨ i = 9 ∨ i = 10 ∨ i = 11 := by omega
  clear hB
  rcases hcase with rfl | rfl | rfl | rfl | rfl | rfl | rfl | rfl | rfl | rfl | rfl | rfl
  ·obtain rfl := Option.some.inj ho
   have h0 : a.eval (.tmp 0) = .pointer (some ⟨c, 0, none⟩) := hout 0 (by decide)
   have h0' := eval_get h0
   refine value_ (v := .pointer (some ⟨c, 0, none⟩)) (w1 := W) (by rfl) rfl ?_ (hK.out _ _ (Below.refl _ _) rfl)
   go_simp
  ·obtain rfl := Option.some.inj ho
   have h0 : a.eval (.tmp 0) = .pointer (some ⟨c, 0, none⟩) := hout 0 (by decide)
   have h0' := eval_get h0
   refine value_ (v := .pointer (some ⟨c, 0, none⟩)) (w1 := W) (by rfl) rfl ?_ (hK.out _ _ (Below.refl _ _) rfl)
   go_simp
  ·obtain rfl := Option.some.inj ho
   have e1 : a.eval (.tmp 99) = _ := hneed 1 (by decide)
   have e1' := eval_get e1
   refine value_ (v := .pointer (some ⟨c, 0, none⟩)) (w1 := W) (by rfl) rfl ?_ (hK.out _ _ (Below.refl _ _) rfl)
   go_simp
  ·obtain rfl := Option.some.inj ho
   have e2 : a.eval (.tmp 100) = _ := hneed 2 (by decide)
   have e2' := eval_get e2
   have hb := blk_below (w := w1.drew) HC.out HBW.out
   obtain ⟨⟨d0, d1, d2, d3, d4, d5, d6, d7⟩, -⟩ := cells8 hb
   refine value_ (v := .agg #[.int .i64 A, .int .i64 X, .int .i64 S, .int .i64 P, .bool Z, .bool N, .bool C, .bool I]) (w1 := W) (by rfl) rfl ?_ (hK.out _ _ (Below.refl _ _) rfl)
   go_simp
  ·obtain rfl := Option.some.inj ho
   have h0 : a.eval (.tmp 0) = .pointer (some ⟨c, 0, none⟩) := hout 0 (by decide)
   have h0' := eval_get h0
   refine value_ (v := .pointer (some ⟨c, 0, none⟩)) (w1 := W) (by rfl) rfl ?_ (hK.out _ _ (Below.refl _ _) rfl)
   go_simp
  ·obtain rfl := Option.some.inj ho
   have e4 : a.eval (.tmp 102) = _ := hneed 4 (by decide)
   have e4' := eval_get e4
   refine value_ (v := .pointer (some ⟨c, 0, none⟩)) (w1 := W) (by rfl) rfl ?_ (hK.out _ _ (Below.refl _ _) rfl)
   go_simp
  ·obtain rfl := Option.some.inj ho
   have e5 : a.eval (.tmp 103) = _ := hneed 5 (by decide)
   have e5' := eval_get e5
   refine value_ (v := .pointer (some ⟨c, 0, none⟩)) (w1 := W) (by rfl) rfl ?_ (hK.out _ _ (Below.refl _ _) rfl)
   go_simp
  ·obtain rfl := Option.some.inj ho
   have e6 : a.eval (.tmp 104) = _ := hneed 6 (by decide)
   have e6' := eval_get e6
   have hb := blk_below (w := w1.drew) HC.out HBW.out
   have d0 := (blk_cell hb 0).trans rfl
   refine value_ (v := .int .i64 A) (w1 := W) (by rfl) rfl ?_ (hK.out _ _ (Below.refl _ _) rfl)
   go_simp
  ·obtain rfl := Option.some.inj ho
   have h4 : a.eval (.tmp 4) = .pointer (some ⟨g, 0, none⟩) := hout 4 (by decide)
   have h4' := eval_get h4
   refine value_ (v := .pointer (some ⟨g, 1, none⟩)) (w1 := W) (by rfl) rfl ?_ (hK.out _ _ (Below.refl _ _) rfl)
   go_simp
  ·obtain rfl := Option.some.inj ho
   have e8 : a.eval (.tmp 106) = _ := hneed 8 (by decide)
   have e8' := eval_get e8
   have hb := blk_below (w := w1.drew) HG.out HBW.out
   have d0 := (blk_cell hb 1).trans rfl
   refine value_ (v := .int .i64 arg) (w1 := W) (by rfl) rfl ?_ (hK.out _ _ (Below.refl _ _) rfl)
   go_simp
  ·obtain rfl := Option.some.inj ho
   have e7 : a.eval (.tmp 105) = _ := hneed 7 (by decide)
   have e7' := eval_get e7
   have e9 : a.eval (.tmp 107) = _ := hneed 9 (by decide)
   have e9' := eval_get e9
   refine value_ (v := .int .i64 (Go.bits .and .i64 A arg)) (w1 := W) (by rfl) rfl ?_ (hK.out _ _ (Below.refl _ _) rfl)
   go_simp
  ·obtain rfl := Option.some.inj ho
   have e3 : a.eval (.tmp 101) = _ := hneed 3 (by decide)
   have e3' := eval_get e3
   have e10 : a.eval (.tmp 108) = _ := hneed 10 (by decide)
   have e10' := eval_get e10
   refine goes_ Try.func114 (by kernel_rfl) rfl #[.agg #[.int .i64 A, .int .i64 X, .int .i64 S, .int .i64 P, .bool Z, .bool N, .bool C, .bool I], .int .i64 (Go.bits .and .i64 A arg)] (by rfl) rfl rfl (by simp only [List.map_toArray, List.map_cons, List.map_nil, e3, e10]) ?_
   refine (impl_SetA.calls A X S P Z N C I _ s1 X S P sz sn C I W HF.out).mono ?_
   rintro e w' ⟨rfl, hb⟩
   exact ⟨_, rfl, hK.out _ _ hb rfl⟩
 case lareckon6 =>
  intro o ho a W hout hneed
  obtain rfl := Option.some.inj ho
  have h0 : a.eval (.tmp 0) = .pointer (some ⟨c, 0, none⟩) := hout 0 (by decide)
  have h0' := eval_get h0
  refine ⟨.pointer (some ⟨c, 0, none⟩), rfl, Or.inl ⟨by rfl, ?_⟩⟩
  intro w'
  go_simp
 intro f vs W2 hB hE
 have HBW := Aside0.mk hB
 clear hB
 have q0 : vs 0 = _ := hE 0 (by decide)
 have q1 : vs 1 = _ := hE 1 (by decide)
 have q2 : vs 2 = _ := hE 2 (by decide)
 have q3 : vs 3 = _ := hE 3 (by decide)
 have q4 : vs 4 = _ := hE 4 (by decide)
 have q5 : vs 5 = _ := hE 5 (by decide)
 have q6 : vs 6 = _ := hE 6 (by decide)
 have q7 : vs 7 = _ := hE 7 (by decide)
 have q8 : vs 8 = _ := hE 8 (by decide)
 have q9 : vs 9 = _ := hE 9 (by decide)
 have q10 : vs 10 = _ := hE 10 (by decide)
 have q11 : vs 11 = _ := hE 11 (by decide)
 show wpAnyLast _ _ _ _ _ _ (f + 2) _ (putAll _ [(98, vs 0), (99, vs 1), (100, vs 2), (101, vs 3), (102, vs 4), (103, vs 5), (104, vs 6), (105, vs 7), (106, vs 8), (107, vs 9), (108, vs 10), (109, vs 11)]) W2
 rw [q0, q1, q2, q3, q4, q5, q6, q7, q8, q9, q10, q11]
 clear q0 q1 q2 q3 q4 q5 q6 q7 q8 q9 q10 q11 hE
 refine norm_ (a' := ?_) ?_ ?_
 rotate_left
 ·simp only [putAll, Act.put, List.setIfInBounds_toArray, List.set_cons_zero, List.set_cons_succ]
  rfl
 refine pure_ (i := 12) (N := some 110) (v := ?_) (a' := ?_) #[true, true, true, true, true, true, true, true, true, true, true, true, true, false] rfl rfl (by kernel_rfl) (fun _ _ _ h => h) (Or.inl ⟨by rfl, ?_⟩) ?_ ?_
 rotate_left
 ·intro w'
  go_simp
  with_reducible rfl
 rotate_left
 ·simp only [Act.put, List.setIfInBounds_toArray, List.set_cons_zero, List.set_cons_succ, i64_w, i32_w]
  rfl
 refine one_ (i := 13) (N := none) #[true, true, true, true, true, true, true, true, true, true, true, true, true, true] rfl rfl (by kernel_rfl) (by decide) (fun K hK => ?_)
 refine skip_ (w1 := ?_) (by rfl) rfl ?_ ?_
 rotate_left
 ·skip
  have hcW := blk_below (w := w1.drew) HC.out HBW.out
  obtain ⟨⟨r0, r1, r2, r3, r4, r5, r6, r7⟩, ⟨fr0, fr1, fr2, fr3, fr4, fr5, fr6, fr7⟩⟩ := cells8 (hcW)
  go_simp
  rfl
 refine hK.out _ _ trivial (fun _ => ?_)
 clear hK K
 refine done_ (by kernel_rfl) ?_
 go_wp2
 go_ret
 exact ⟨rfl, put8 (blk_below (w := w1.drew) HC.out HBW.out) _ _ _ _ _ _ _ _, kept8 (((KeptC.of_below HB1.out).drew).below HBW.out) _ _ _ _ _ _ _ _⟩
set_option maxRecDepth 100000 in
set_option maxHeartbeats 4000000 in
theorem reckon_7 {w : World} {c : Nat} {A X S P : Int} {Z N C I : Bool} (hc : w.heap[c]? = some (.cells #[.int .i64 A, .int .i64 X, .int .i64 S, .int .i64 P, .bool Z, .bool N, .bool C, .bool I] 38 (0, 0))) (arg v : Int) :
  Calls Try.prog 110 #[.pointer (some ⟨c, 0, none⟩), .agg #[.int .i64 7, .int .i64 arg], .int .i64 v] w fun e w' => e = .returned (.bool true) ∧ w'.heap[c]? = some (.cells (setAK (⟨A, X, S, P, Z, N, C, I⟩ : Cp) (Go.bits .or .i64 A arg)).cells 38 (0, 0)) ∧ KeptC w w' c := by
 obtain ⟨s1, sz, sn, hf, ek⟩ := seta_ex (⟨A, X, S, P, Z, N, C, I⟩ : Cp) (Go.bits .or .i64 A arg)
 rw [ek]
 clear ek
 have HF := Aside0.mk hf
 clear hf
 have hu38 := Try.underlying38
 have hu68 := Try.underlying68
 have HC0 := Aside0.mk hc
 clear hc
 go_enter Try.func110, Try.ntmps110
 go_wp2_with (first | ((with_reducible refine gate_dst (N := 4) rfl ?_); refine bx (N := 4) (cs := #[.int .i64 7, .int .i64 arg]) (t := 68) ?_; intro g hg w1 hbox hb; have HC := Aside0.mk (blk_below HC0.out hb); have HG := Aside0.mk hbox; have HB1 := Aside0.mk hb; have hb1 : w1.cell? ⟨g, 0, none⟩ = some (.int .i64 7) := (blk_cell hbox 0).trans rfl; have hb2 : w1.cell? ⟨g, 1, none⟩ = some (.int .i64 arg) := (blk_cell hbox 1).trans rfl; clear HC0 hb hbox hg; obtain ⟨⟨y0, y1, y2, y3, y4, y5, y6, y7⟩, ⟨fy0, fy1, fy2, fy3, fy4, fy5, fy6, fy7⟩⟩ := cells8 (HC.out)))
 refine free_ (n := 14) (e := 12) (g := 0) (T := (true, [([], []), ([], []), ([1], [1]), ([2], [2]), ([], []), ([4], [4]), ([5], [5]), ([6], [6]), ([], []), ([8], [8]), ([7, 9], [7, 9]), ([3, 10], [3, 10]), ([0, 0, 1, 2, 3, 4, 5, 6, 7, 8, 9, 10, 11], [0]), ([12, 11, 11, 0, 1, 2, 3, 4, 5, 6, 7, 8, 9, 10, 11], [11, 12])])) #[true, true, true, true, true, true, true, true, true, true, true, true, false, false] #[false, true, true, true, true, true, true, true, true, true, true, true, false, false] [113, 114, 115, 116, 117, 118, 119, 120, 121, 122, 123, 124] (fun j u w' => match j with
  | 0 => u = .pointer (some ⟨c, 0, none⟩)
  | 1 => u = .pointer (some ⟨c, 0, none⟩)
  | 2 => u = .pointer (some ⟨c, 0, none⟩)
  | 3 => u = .agg #[.int .i64 A, .int .i64 X, .int .i64 S, .int .i64 P, .bool Z, .bool N, .bool C, .bool I]
  | 4 => u = .pointer (some ⟨c, 0, none⟩)
  | 5 => u = .pointer (some ⟨c, 0, none⟩)
  | 6 => u = .pointer (some ⟨c, 0, none⟩)
  | 7 => u = .int .i64 A
  | 8 => u = .pointer (some ⟨g, 1, none⟩)
  | 9 => u = .int .i64 arg
  | 10 => u = .int .i64 (Go.bits .or .i64 A arg)
  | 11 => u = .agg #[.int .i64 s1, .int .i64 X, .int .i64 S, .int .i64 P, .bool sz, .bool sn, .bool C, .bool I]
  | _ => False)
  (by kernel_rfl) rfl (by kernel_rfl) (by kernel_rfl) (by kernel_rfl) (any_of (T := (true, [([], []), ([], []), ([1], [1]), ([2], [2]), ([], []), ([4], [4]), ([5], [5]), ([6], [6]), ([], []), ([8], [8]), ([7, 9], [7, 9]), ([3, 10], [3, 10]), ([0, 0, 1, 2, 3, 4, 5, 6, 7, 8, 9, 10, 11], [0]), ([12, 11, 11, 0, 1, 2, 3, 4, 5, 6, 7, 8, 9, 10, 11], [11, 12])])) (by kernel_rfl) (by kernel_rfl)) (fun _ _ _ _ h => h) ?streckon7 ?spreckon7 ?lareckon7 ?enreckon7
 case streckon7 =>
  intro j u W W' h hb
  exact h
 case spreckon7 =>
  intro i hi o ho a W hB hout hneed K hK
  have HBW := Aside0.mk hB
  have hcase : i = 0 ∨ i = 1 ∨ i = 2 ∨ i = 3 ∨ i = 4 ∨ i = 5 ∨ i = 6 ∨ i = 7 ∨ i = 8 ∨ i = 9 ∨ i = 10 ∨ i = 11 := by omega
  clear hB
  rcases hcase with rfl | rfl | rfl | rfl | rfl | rfl | rfl | rfl | rfl | rfl | rfl | rfl
  ·obtain rfl := Option.some.inj ho
   have h0 : a.eval (.tmp 0) = .pointer (some ⟨c, 0, none⟩) := hout 0 (by decide)
   have h0' := eval_get h0
   refine value_ (v := .pointer (some ⟨c, 0, none⟩)) (w1 := W) (by rfl) rfl ?_ (hK.out _ _ (Below.refl _ _) rfl)
   go_simp
  ·obtain rfl := Option.some.inj ho
   have h0 : a.eval (.tmp 0) = .pointer (some ⟨c, 0, none⟩) := hout 0 (by decide)
   have h0' := eval_get h0
   refine value_ (v := .pointer (some ⟨c, 0, none⟩)) (w1 := W) (by rfl) rfl ?_ (hK.out _ _ (Below.refl _ _) rfl)
   go_simp
  ·obtain rfl := Option.some.inj ho
   have e1 : a.eval (.tmp 114) = _ := hneed 1 (by decide)
   have e1' := eval_get e1
   refine value_ (v := .pointer (some ⟨c, 0, none⟩)) (w1 := W) (by rfl) rfl ?_ (hK.out _ _ (Below.refl _ _) rfl)
   go_simp
  ·obtain rfl := Option.some.inj ho
   have e2 : a.eval (.tmp 115) = _ := hneed 2 (by decide)
   have e2' := eval_get e2
   have hb := blk_below (w := w1.drew) HC.out HBW.out
   obtain ⟨⟨d0, d1, d2, d3, d4, d5, d6, d7⟩, -⟩ := cells8 hb
   refine value_ (v := .agg #[.int .i64 A, .int .i64 X, .int .i64 S, .int .i64 P, .bool Z, .bool N, .bool C, .bool I]) (w1 := W) (by rfl) rfl ?_ (hK.out _ _ (Below.refl _ _) rfl)
   go_simp
  ·obtain rfl := Option.some.inj ho
   have h0 : a.eval (.tmp 0) = .pointer (some ⟨c, 0, none⟩) := hout 0 (by decide)
   have h0' := eval_get h0
   refine value_ (v := .pointer (some ⟨c, 0, none⟩)) (w1 := W) (by rfl) rfl ?_ (hK.out _ _ (Below.refl _ _) rfl)
   go_simp
  ·obtain rfl := Option.some.inj ho
   have e4 : a.eval (.tmp 117) = _ := hneed 4 (by decide)
   have e4' := eval_get e4
   refine value_ (v := .pointer (some ⟨c, 0, none⟩)) (w1 := W) (by rfl) rfl ?_ (hK.out _ _ (Below.refl _ _) rfl)
   go_simp
  ·obtain rfl := Option.some.inj ho
   have e5 : a.eval (.tmp 118) = _ := hneed 5 (by decide)
   have e5' := eval_get e5
   refine value_ (v := .pointer (some ⟨c, 0, none⟩)) (w1 := W) (by rfl) rfl ?_ (hK.out _ _ (Below.refl _ _) rfl)
   go_simp
  ·obtain rfl := Option.some.inj ho
   have e6 : a.eval (.tmp 119) = _ := hneed 6 (by decide)
   have e6' := eval_get e6
   have hb := blk_below (w := w1.drew) HC.out HBW.out
   have d0 := (blk_cell hb 0).trans rfl
   refine value_ (v := .int .i64 A) (w1 := W) (by rfl) rfl ?_ (hK.out _ _ (Below.refl _ _) rfl)
   go_simp
  ·obtain rfl := Option.some.inj ho
   have h4 : a.eval (.tmp 4) = .pointer (some ⟨g, 0, none⟩) := hout 4 (by decide)
   have h4' := eval_get h4
   refine value_ (v := .pointer (some ⟨g, 1, none⟩)) (w1 := W) (by rfl) rfl ?_ (hK.out _ _ (Below.refl _ _) rfl)
   go_simp
  ·obtain rfl := Option.some.inj ho
   have e8 : a.eval (.tmp 121) = _ := hneed 8 (by decide)
   have e8' := eval_get e8
   have hb := blk_below (w := w1.drew) HG.out HBW.out
   have d0 := (blk_cell hb 1).trans rfl
   refine value_ (v := .int .i64 arg) (w1 := W) (by rfl) rfl ?_ (hK.out _ _ (Below.refl _ _) rfl)
   go_simp
  ·obtain rfl := Option.some.inj ho
   have e7 : a.eval (.tmp 120) = _ := hneed 7 (by decide)
   have e7' := eval_get e7
   have e9 : a.eval (.tmp 122) = _ := hneed 9 (by decide)
   have e9' := eval_get e9
   refine value_ (v := .int .i64 (Go.bits .or .i64 A arg)) (w1 := W) (by rfl) rfl ?_ (hK.out _ _ (Below.refl _ _) rfl)
   go_simp
  ·obtain rfl := Option.some.inj ho
   have e3 : a.eval (.tmp 116) = _ := hneed 3 (by decide)
   have e3' := eval_get e3
   have e10 : a.eval (.tmp 123) = _ := hneed 10 (by decide)
   have e10' := eval_get e10
   refine goes_ Try.func114 (by kernel_rfl) rfl #[.agg #[.int .i64 A, .int .i64 X, .int .i64 S, .int .i64 P, .bool Z, .bool N, .bool C, .bool I], .int .i64 (Go.bits .or .i64 A arg)] (by rfl) rfl rfl (by simp only [List.map_toArray, List.map_cons, List.map_nil, e3, e10]) ?_
   refine (impl_SetA.calls A X S P Z N C I _ s1 X S P sz sn C I W HF.out).mono ?_
   rintro e w' ⟨rfl, hb⟩
   exact ⟨_, rfl, hK.out _ _ hb rfl⟩
 case lareckon7 =>
  intro o ho a W hout hneed
  obtain rfl := Option.some.inj ho
  have h0 : a.eval (.tmp 0) = .pointer (some ⟨c, 0, none⟩) := hout 0 (by decide)
  have h0' := eval_get h0
  refine ⟨.pointer (some ⟨c, 0, none⟩), rfl, Or.inl ⟨by rfl, ?_⟩⟩
  intro w'
  go_simp
 intro f vs W2 hB hE
 have HBW := Aside0.mk hB
 clear hB
 have q0 : vs 0 = _ := hE 0 (by decide)
 have q1 : vs 1 = _ := hE 1 (by decide)
 have q2 : vs 2 = _ := hE 2 (by decide)
 have q3 : vs 3 = _ := hE 3 (by decide)
 have q4 : vs 4 = _ := hE 4 (by decide)
 have q5 : vs 5 = _ := hE 5 (by decide)
 have q6 : vs 6 = _ := hE 6 (by decide)
 have q7 : vs 7 = _ := hE 7 (by decide)
 have q8 : vs 8 = _ := hE 8 (by decide)
 have q9 : vs 9 = _ := hE 9 (by decide)
 have q10 : vs 10 = _ := hE 10 (by decide)
 have q11 : vs 11 = _ := hE 11 (by decide)
 show wpAnyLast _ _ _ _ _ _ (f + 2) _ (putAll _ [(113, vs 0), (114, vs 1), (115, vs 2), (116, vs 3), (117, vs 4), (118, vs 5), (119, vs 6), (120, vs 7), (121, vs 8), (122, vs 9), (123, vs 10), (124, vs 11)]) W2
 rw [q0, q1, q2, q3, q4, q5, q6, q7, q8, q9, q10, q11]
 clear q0 q1 q2 q3 q4 q5 q6 q7 q8 q9 q10 q11 hE
 refine norm_ (a' := ?_) ?_ ?_
 rotate_left
 ·simp only [putAll, Act.put, List.setIfInBounds_toArray, List.set_cons_zero, List.set_cons_succ]
  rfl
 refine pure_ (i := 12) (N := some 125) (v := ?_) (a' := ?_) #[true, true, true, true, true, true, true, true, true, true, true, true, true, false] rfl rfl (by kernel_rfl) (fun _ _ _ h => h) (Or.inl ⟨by rfl, ?_⟩) ?_ ?_
 rotate_left
 ·intro w'
  go_simp
  with_reducible rfl
 rotate_left
 ·simp only [Act.put, List.setIfInBounds_toArray, List.set_cons_zero, List.set_cons_succ, i64_w, i32_w]
  rfl
 refine one_ (i := 13) (N := none) #[true, true, true, true, true, true, true, true, true, true, true, true, true, true] rfl rfl (by kernel_rfl) (by decide) (fun K hK => ?_)
 refine skip_ (w1 := ?_) (by rfl) rfl ?_ ?_
 rotate_left
 ·skip
  have hcW := blk_below (w := w1.drew) HC.out HBW.out
  obtain ⟨⟨r0, r1, r2, r3, r4, r5, r6, r7⟩, ⟨fr0, fr1, fr2, fr3, fr4, fr5, fr6, fr7⟩⟩ := cells8 (hcW)
  go_simp
  rfl
 refine hK.out _ _ trivial (fun _ => ?_)
 clear hK K
 refine done_ (by kernel_rfl) ?_
 go_wp2
 go_ret
 exact ⟨rfl, put8 (blk_below (w := w1.drew) HC.out HBW.out) _ _ _ _ _ _ _ _, kept8 (((KeptC.of_below HB1.out).drew).below HBW.out) _ _ _ _ _ _ _ _⟩
set_option maxRecDepth 100000 in
set_option maxHeartbeats 4000000 in
theorem reckon_8 {w : World} {c : Nat} {A X S P : Int} {Z N C I : Bool} (hc : w.heap[c]? = some (.cells #[.int .i64 A, .int .i64 X, .int .i64 S, .int .i64 P, .bool Z, .bool N, .bool C, .bool I] 38 (0, 0))) (arg v : Int) :
  Calls Try.prog 110 #[.pointer (some ⟨c, 0, none⟩), .agg #[.int .i64 8, .int .i64 arg], .int .i64 v] w fun e w' => e = .returned (.bool true) ∧ w'.heap[c]? = some (.cells (setAK (⟨A, X, S, P, Z, N, C, I⟩ : Cp) (Go.bits .xor .i64 A arg)).cells 38 (0, 0)) ∧ KeptC w w' c := by
 obtain ⟨s1, sz, sn, hf, ek⟩ := seta_ex (⟨A, X, S, P, Z, N, C, I⟩ : Cp) (Go.bits .xor .i64 A arg)
 rw [ek]
 clear ek
 have HF := Aside0.mk hf
 clear hf
 have hu38 := Try.underlying38
 have hu68 := Try.underlying68
 have HC0 := Aside0.mk hc
 clear hc
 go_enter Try.func110, Try.ntmps110
 go_wp2_with (first | ((with_reducible refine gate_dst (N := 4) rfl ?_); refine bx (N := 4) (cs := #[.int .i64 8, .int .i64 arg]) (t := 68) ?_; intro g hg w1 hbox hb; have HC := Aside0.mk (blk_below HC0.out hb); have HG := Aside0.mk hbox; have HB1 := Aside0.mk hb; have hb1 : w1.cell? ⟨g, 0, none⟩ = some (.int .i64 8) := (blk_cell hbox 0).trans rfl; have hb2 : w1.cell? ⟨g, 1, none⟩ = some (.int .i64 arg) := (blk_cell hbox 1).trans rfl; clear HC0 hb hbox hg; obtain ⟨⟨y0, y1, y2, y3, y4, y5, y6, y7⟩, ⟨fy0, fy1, fy2, fy3, fy4, fy5, fy6, fy7⟩⟩ := cells8 (HC.out)))
 refine free_ (n := 14) (e := 12) (g := 0) (T := (true, [([], []), ([], []), ([1], [1]), ([2], [2]), ([], []), ([4], [4]), ([5], [5]), ([6], [6]), ([], []), ([8], [8]), ([7, 9], [7, 9]), ([3, 10], [3, 10]), ([0, 0, 1, 2, 3, 4, 5, 6, 7, 8, 9, 10, 11], [0]), ([12, 11, 11, 0, 1, 2, 3, 4, 5, 6, 7, 8, 9, 10, 11], [11, 12])])) #[true, true, true, true, true, true, true, true, true, true, true, true, false, false] #[false, true, true, true, true, true, true, true, true, true, true, true, false, false] [128, 129, 130, 131, 132, 133, 134, 135, 136, 137, 138, 139] (fun j u w' => match j with
  | 0 => u = .pointer (some ⟨c, 0, none⟩)
  | 1 => u = .pointer (some ⟨c, 0, none⟩)
  | 2 => u = .pointer (some ⟨c, 0, none⟩)
  | 3 => u = .agg #[.int .i64 A, .int .i64 X, .int .i64 S, .int .i64 P, .bool Z, .bool N, .bool C, .bool I]
  | 4 => u = .pointer (some ⟨c, 0, none⟩)
  | 5 => u = .pointer (some ⟨c, 0, none⟩)
  | 6 => u = .pointer (some ⟨c, 0, none⟩)
  | 7 => u = .int .i64 A
  | 8 => u = .pointer (some ⟨g, 1, none⟩)
  | 9 => u = .int .i64 arg
  | 10 => u = .int .i64 (Go.bits .xor .i64 A arg)
  | 11 => u = .agg #[.int .i64 s1, .int .i64 X, .int .i64 S, .int .i64 P, .bool sz, .bool sn, .bool C, .bool I]
  | _ => False)
  (by kernel_rfl) rfl (by kernel_rfl) (by kernel_rfl) (by kernel_rfl) (any_of (T := (true, [([], []), ([], []), ([1], [1]), ([2], [2]), ([], []), ([4], [4]), ([5], [5]), ([6], [6]), ([], []), ([8], [8]), ([7, 9], [7, 9]), ([3, 10], [3, 10]), ([0, 0, 1, 2, 3, 4, 5, 6, 7, 8, 9, 10, 11], [0]), ([12, 11, 11, 0, 1, 2, 3, 4, 5, 6, 7, 8, 9, 10, 11], [11, 12])])) (by kernel_rfl) (by kernel_rfl)) (fun _ _ _ _ h => h) ?streckon8 ?spreckon8 ?lareckon8 ?enreckon8
 case streckon8 =>
  intro j u W W' h hb
  exact h
 case spreckon8 =>
  intro i hi o ho a W hB hout hneed K hK
  have HBW := Aside0.mk hB
  have hcase : i = 0 ∨ i = 1 ∨ i = 2 ∨ i = 3 ∨ i = 4 ∨ i = 5 ∨ i = 6 ∨ i = 7 ∨ i = 8 ∨ i = 9 ∨ i = 10 ∨ i = 11 := by omega
  clear hB
  rcases hcase with rfl | rfl | rfl | rfl | rfl | rfl | rfl | rfl | rfl | rfl | rfl | rfl
  ·obtain rfl := Option.some.inj ho
   have h0 : a.eval (.tmp 0) = .pointer (some ⟨c, 0, none⟩) := hout 0 (by decide)
   have h0' := eval_get h0
   refine value_ (v := .pointer (some ⟨c, 0, none⟩)) (w1 := W) (by rfl) rfl ?_ (hK.out _ _ (Below.refl _ _) rfl)
   go_simp
  ·obtain rfl := Option.some.inj ho
   have h0 : a.eval (.tmp 0) = .pointer (some ⟨c, 0, none⟩) := hout 0 (by decide)
   have h0' := eval_get h0
   refine value_ (v := .pointer (some ⟨c, 0, none⟩)) (w1 := W) (by rfl) rfl ?_ (hK.out _ _ (Below.refl _ _) rfl)
   go_simp
  ·obtain rfl := Option.some.inj ho
   have e1 : a.eval (.tmp 129) = _ := hneed 1 (by decide)
   have e1' := eval_get e1
   refine value_ (v := .pointer (some ⟨c, 0, none⟩)) (w1 := W) (by rfl) rfl ?_ (hK.out _ _ (Below.refl _ _) rfl)
   go_simp
  ·obtain rfl := Option.some.inj ho
   have e2 : a.eval (.tmp 130) = _ := hneed 2 (by decide)
   have e2' := eval_get e2
   have hb := blk_below (w := w1.drew) HC.out HBW.out
   obtain ⟨⟨d0, d1, d2, d3, d4, d5, d6, d7⟩, -⟩ := cells8 hb
   refine value_ (v := .agg #[.int .i64 A, .int .i64 X, .int .i64 S, .int .i64 P, .bool Z, .bool N, .bool C, .bool I]) (w1 := W) (by rfl) rfl ?_ (hK.out _ _ (Below.refl _ _) rfl)
   go_simp
  ·obtain rfl := Option.some.inj ho
   have h0 : a.eval (.tmp 0) = .pointer (some ⟨c, 0, none⟩) := hout 0 (by decide)
   have h0' := eval_get h0
   refine value_ (v := .pointer (some ⟨c, 0, none⟩)) (w1 := W) (by rfl) rfl ?_ (hK.out _ _ (Below.refl _ _) rfl)
   go_simp
  ·obtain rfl := Option.some.inj ho
   have e4 : a.eval (.tmp 132) = _ := hneed 4 (by decide)
   have e4' := eval_get e4
   refine value_ (v := .pointer (some ⟨c, 0, none⟩)) (w1 := W) (by rfl) rfl ?_ (hK.out _ _ (Below.refl _ _) rfl)
   go_simp
  ·obtain rfl := Option.some.inj ho
   have e5 : a.eval (.tmp 133) = _ := hneed 5 (by decide)
   have e5' := eval_get e5
   refine value_ (v := .pointer (some ⟨c, 0, none⟩)) (w1 := W) (by rfl) rfl ?_ (hK.out _ _ (Below.refl _ _) rfl)
   go_simp
  ·obtain rfl := Option.some.inj ho
   have e6 : a.eval (.tmp 134) = _ := hneed 6 (by decide)
   have e6' := eval_get e6
   have hb := blk_below (w := w1.drew) HC.out HBW.out
   have d0 := (blk_cell hb 0).trans rfl
   refine value_ (v := .int .i64 A) (w1 := W) (by rfl) rfl ?_ (hK.out _ _ (Below.refl _ _) rfl)
   go_simp
  ·obtain rfl := Option.some.inj ho
   have h4 : a.eval (.tmp 4) = .pointer (some ⟨g, 0, none⟩) := hout 4 (by decide)
   have h4' := eval_get h4
   refine value_ (v := .pointer (some ⟨g, 1, none⟩)) (w1 := W) (by rfl) rfl ?_ (hK.out _ _ (Below.refl _ _) rfl)
   go_simp
  ·obtain rfl := Option.some.inj ho
   have e8 : a.eval (.tmp 136) = _ := hneed 8 (by decide)
   have e8' := eval_get e8
   have hb := blk_below (w := w1.drew) HG.out HBW.out
   have d0 := (blk_cell hb 1).trans rfl
   refine value_ (v := .int .i64 arg) (w1 := W) (by rfl) rfl ?_ (hK.out _ _ (Below.refl _ _) rfl)
   go_simp
  ·obtain rfl := Option.some.inj ho
   have e7 : a.eval (.tmp 135) = _ := hneed 7 (by decide)
   have e7' := eval_get e7
   have e9 : a.eval (.tmp 137) = _ := hneed 9 (by decide)
   have e9' := eval_get e9
   refine value_ (v := .int .i64 (Go.bits .xor .i64 A arg)) (w1 := W) (by rfl) rfl ?_ (hK.out _ _ (Below.refl _ _) rfl)
   go_simp
  ·obtain rfl := Option.some.inj ho
   have e3 : a.eval (.tmp 131) = _ := hneed 3 (by decide)
   have e3' := eval_get e3
   have e10 : a.eval (.tmp 138) = _ := hneed 10 (by decide)
   have e10' := eval_get e10
   refine goes_ Try.func114 (by kernel_rfl) rfl #[.agg #[.int .i64 A, .int .i64 X, .int .i64 S, .int .i64 P, .bool Z, .bool N, .bool C, .bool I], .int .i64 (Go.bits .xor .i64 A arg)] (by rfl) rfl rfl (by simp only [List.map_toArray, List.map_cons, List.map_nil, e3, e10]) ?_
   refine (impl_SetA.calls A X S P Z N C I _ s1 X S P sz sn C I W HF.out).mono ?_
   rintro e w' ⟨rfl, hb⟩
   exact ⟨_, rfl, hK.out _ _ hb rfl⟩
 case lareckon8 =>
  intro o ho a W hout hneed
  obtain rfl := Option.some.inj ho
  have h0 : a.eval (.tmp 0) = .pointer (some ⟨c, 0, none⟩) := hout 0 (by decide)
  have h0' := eval_get h0
  refine ⟨.pointer (some ⟨c, 0, none⟩), rfl, Or.inl ⟨by rfl, ?_⟩⟩
  intro w'
  go_simp
 intro f vs W2 hB hE
 have HBW := Aside0.mk hB
 clear hB
 have q0 : vs 0 = _ := hE 0 (by decide)
 have q1 : vs 1 = _ := hE 1 (by decide)
 have q2 : vs 2 = _ := hE 2 (by decide)
 have q3 : vs 3 = _ := hE 3 (by decide)
 have q4 : vs 4 = _ := hE 4 (by decide)
 have q5 : vs 5 = _ := hE 5 (by decide)
 have q6 : vs 6 = _ := hE 6 (by decide)
 have q7 : vs 7 = _ := hE 7 (by decide)
 have q8 : vs 8 = _ := hE 8 (by decide)
 have q9 : vs 9 = _ := hE 9 (by decide)
 have q10 : vs 10 = _ := hE 10 (by decide)
 have q11 : vs 11 = _ := hE 11 (by decide)
 show wpAnyLast _ _ _ _ _ _ (f + 2) _ (putAll _ [(128, vs 0), (129, vs 1), (130, vs 2), (131, vs 3), (132, vs 4), (133, vs 5), (134, vs 6), (135, vs 7), (136, vs 8), (137, vs 9), (138, vs 10), (139, vs 11)]) W2
 rw [q0, q1, q2, q3, q4, q5, q6, q7, q8, q9, q10, q11]
 clear q0 q1 q2 q3 q4 q5 q6 q7 q8 q9 q10 q11 hE
 refine norm_ (a' := ?_) ?_ ?_
 rotate_left
 ·simp only [putAll, Act.put, List.setIfInBounds_toArray, List.set_cons_zero, List.set_cons_succ]
  rfl
 refine pure_ (i := 12) (N := some 140) (v := ?_) (a' := ?_) #[true, true, true, true, true, true, true, true, true, true, true, true, true, false] rfl rfl (by kernel_rfl) (fun _ _ _ h => h) (Or.inl ⟨by rfl, ?_⟩) ?_ ?_
 rotate_left
 ·intro w'
  go_simp
  with_reducible rfl
 rotate_left
 ·simp only [Act.put, List.setIfInBounds_toArray, List.set_cons_zero, List.set_cons_succ, i64_w, i32_w]
  rfl
 refine one_ (i := 13) (N := none) #[true, true, true, true, true, true, true, true, true, true, true, true, true, true] rfl rfl (by kernel_rfl) (by decide) (fun K hK => ?_)
 refine skip_ (w1 := ?_) (by rfl) rfl ?_ ?_
 rotate_left
 ·skip
  have hcW := blk_below (w := w1.drew) HC.out HBW.out
  obtain ⟨⟨r0, r1, r2, r3, r4, r5, r6, r7⟩, ⟨fr0, fr1, fr2, fr3, fr4, fr5, fr6, fr7⟩⟩ := cells8 (hcW)
  go_simp
  rfl
 refine hK.out _ _ trivial (fun _ => ?_)
 clear hK K
 refine done_ (by kernel_rfl) ?_
 go_wp2
 go_ret
 exact ⟨rfl, put8 (blk_below (w := w1.drew) HC.out HBW.out) _ _ _ _ _ _ _ _, kept8 (((KeptC.of_below HB1.out).drew).below HBW.out) _ _ _ _ _ _ _ _⟩
set_option maxRecDepth 100000 in
set_option maxHeartbeats 4000000 in
theorem reckon_4 {w : World} {c : Nat} {A X S P : Int} {Z N C I : Bool} (hc : w.heap[c]? = some (.cells #[.int .i64 A, .int .i64 X, .int .i64 S, .int .i64 P, .bool Z, .bool N, .bool C, .bool I] 38 (0, 0))) (arg v : Int) :
  Calls Try.prog 110 #[.pointer (some ⟨c, 0, none⟩), .agg #[.int .i64 4, .int .i64 arg], .int .i64 v] w fun e w' => e = .returned (.bool true) ∧ w'.heap[c]? = some (.cells (addK (⟨A, X, S, P, Z, N, C, I⟩ : Cp) arg).cells 38 (0, 0)) ∧ KeptC w w' c := by
 obtain ⟨sm, cy, s1, sz, sn, ha, hf, ek⟩ := addK_ex (⟨A, X, S, P, Z, N, C, I⟩ : Cp) arg
 rw [ek]
 clear ek
 have HA := Aside0.mk ha
 have HF := Aside0.mk hf
 clear ha hf
 have hu38 := Try.underlying38
 have hu68 := Try.underlying68
 have HC0 := Aside0.mk hc
 clear hc
 go_enter Try.func110, Try.ntmps110
 go_wp2_with (first | ((with_reducible refine gate_dst (N := 4) rfl ?_); refine bx (N := 4) (cs := #[.int .i64 4, .int .i64 arg]) (t := 68) ?_; intro g hg w1 hbox hb; have HC := Aside0.mk (blk_below HC0.out hb); have HG := Aside0.mk hbox; have HB1 := Aside0.mk hb; have hb1 : w1.cell? ⟨g, 0, none⟩ = some (.int .i64 4) := (blk_cell hbox 0).trans rfl; have hb2 : w1.cell? ⟨g, 1, none⟩ = some (.int .i64 arg) := (blk_cell hbox 1).trans rfl; clear HC0 hb hbox hg; obtain ⟨⟨y0, y1, y2, y3, y4, y5, y6, y7⟩, ⟨fy0, fy1, fy2, fy3, fy4, fy5, fy6, fy7⟩⟩ := cells8 (HC.out)))
 go_quiet (first | (go_at_call 115; refine (impl_Add8.calls A arg C sm cy _ HA.out).mono ?_; rintro e wq ⟨rfl, nd, rfl⟩; exact ⟨rfl, _, World.drewN_drewN _ _ _⟩))
 go_wp2_with (go_at_call 114; refine (impl_SetA.calls A X S P Z N C I _ s1 X S P sz sn C I _ HF.out).mono ?_; rintro e w2 ⟨rfl, hb⟩; have HC2 := Aside0.mk (blk_below (w := w1.drewN nq) HC.out hb); have HB2 := Aside0.mk hb; clear hb; obtain ⟨⟨r0, r1, r2, r3, r4, r5, r6, r7⟩, ⟨fr0, fr1, fr2, fr3, fr4, fr5, fr6, fr7⟩⟩ := cells8 (HC2.out))
 go_ret
 exact ⟨rfl, blk_put (put8 HC2.out _ _ _ _ _ _ _ _) 6 _ rfl, kept1 (kept8 (((KeptC.of_below HB1.out).drewN nq).below HB2.out) _ _ _ _ _ _ _ _) _ _⟩
set_option maxRecDepth 100000 in
set_option maxHeartbeats 4000000 in
theorem reckon_29 {w : World} {c : Nat} {A X S P : Int} {Z N C I : Bool} (hc : w.heap[c]? = some (.cells #[.int .i64 A, .int .i64 X, .int .i64 S, .int .i64 P, .bool Z, .bool N, .bool C, .bool I] 38 (0, 0))) (arg v : Int) :
  Calls Try.prog 110 #[.pointer (some ⟨c, 0, none⟩), .agg #[.int .i64 29, .int .i64 arg], .int .i64 v] w fun e w' => e = .returned (.bool true) ∧ w'.heap[c]? = some (.cells (addK (⟨A, X, S, P, Z, N, C, I⟩ : Cp) v).cells 38 (0, 0)) ∧ KeptC w w' c := by
 obtain ⟨sm, cy, s1, sz, sn, ha, hf, ek⟩ := addK_ex (⟨A, X, S, P, Z, N, C, I⟩ : Cp) v
 rw [ek]
 clear ek
 have HA := Aside0.mk ha
 have HF := Aside0.mk hf
 clear ha hf
 have hu38 := Try.underlying38
 have hu68 := Try.underlying68
 have HC0 := Aside0.mk hc
 clear hc
 go_enter Try.func110, Try.ntmps110
 go_wp2_with (first | ((with_reducible refine gate_dst (N := 4) rfl ?_); refine bx (N := 4) (cs := #[.int .i64 29, .int .i64 arg]) (t := 68) ?_; intro g hg w1 hbox hb; have HC := Aside0.mk (blk_below HC0.out hb); have HG := Aside0.mk hbox; have HB1 := Aside0.mk hb; have hb1 : w1.cell? ⟨g, 0, none⟩ = some (.int .i64 29) := (blk_cell hbox 0).trans rfl; have hb2 : w1.cell? ⟨g, 1, none⟩ = some (.int .i64 arg) := (blk_cell hbox 1).trans rfl; clear HC0 hb hbox hg; obtain ⟨⟨y0, y1, y2, y3, y4, y5, y6, y7⟩, ⟨fy0, fy1, fy2, fy3, fy4, fy5, fy6, fy7⟩⟩ := cells8 (HC.out)))
 go_quiet (first | (go_at_call 115; refine (impl_Add8.calls A v C sm cy _ HA.out).mono ?_; rintro e wq ⟨rfl, nd, rfl⟩; exact ⟨rfl, _, World.drewN_drewN _ _ _⟩))
 go_wp2_with (go_at_call 114; refine (impl_SetA.calls A X S P Z N C I _ s1 X S P sz sn C I _ HF.out).mono ?_; rintro e w2 ⟨rfl, hb⟩; have HC2 := Aside0.mk (blk_below (w := w1.drewN nq) HC.out hb); have HB2 := Aside0.mk hb; clear hb; obtain ⟨⟨r0, r1, r2, r3, r4, r5, r6, r7⟩, ⟨fr0, fr1, fr2, fr3, fr4, fr5, fr6, fr7⟩⟩ := cells8 (HC2.out))
 go_ret
 exact ⟨rfl, blk_put (put8 HC2.out _ _ _ _ _ _ _ _) 6 _ rfl, kept1 (kept8 (((KeptC.of_below HB1.out).drewN nq).below HB2.out) _ _ _ _ _ _ _ _) _ _⟩
set_option maxRecDepth 100000 in
set_option maxHeartbeats 4000000 in
theorem reckon_5 {w : World} {c : Nat} {A X S P : Int} {Z N C I : Bool} (hc : w.heap[c]? = some (.cells #[.int .i64 A, .int .i64 X, .int .i64 S, .int .i64 P, .bool Z, .bool N, .bool C, .bool I] 38 (0, 0))) (arg v : Int) :
  Calls Try.prog 110 #[.pointer (some ⟨c, 0, none⟩), .agg #[.int .i64 5, .int .i64 arg], .int .i64 v] w fun e w' => e = .returned (.bool true) ∧ w'.heap[c]? = some (.cells (subK (⟨A, X, S, P, Z, N, C, I⟩ : Cp) arg).cells 38 (0, 0)) ∧ KeptC w w' c := by
 obtain ⟨sm, cy, s1, sz, sn, ha, hf, ek⟩ := subK_ex (⟨A, X, S, P, Z, N, C, I⟩ : Cp) arg
 rw [ek]
 clear ek
 have HA := Aside0.mk ha
 have HF := Aside0.mk hf
 clear ha hf
 have hu38 := Try.underlying38
 have hu68 := Try.underlying68
 have HC0 := Aside0.mk hc
 clear hc
 go_enter Try.func110, Try.ntmps110
 go_wp2_with (first | ((with_reducible refine gate_dst (N := 4) rfl ?_); refine bx (N := 4) (cs := #[.int .i64 5, .int .i64 arg]) (t := 68) ?_; intro g hg w1 hbox hb; have HC := Aside0.mk (blk_below HC0.out hb); have HG := Aside0.mk hbox; have HB1 := Aside0.mk hb; have hb1 : w1.cell? ⟨g, 0, none⟩ = some (.int .i64 5) := (blk_cell hbox 0).trans rfl; have hb2 : w1.cell? ⟨g, 1, none⟩ = some (.int .i64 arg) := (blk_cell hbox 1).trans rfl; clear HC0 hb hbox hg; obtain ⟨⟨y0, y1, y2, y3, y4, y5, y6, y7⟩, ⟨fy0, fy1, fy2, fy3, fy4, fy5, fy6, fy7⟩⟩ := cells8 (HC.out)))
 go_quiet (first | (go_at_call 116; refine (impl_Sub8.calls A arg C sm cy _ HA.out).mono ?_; rintro e wq ⟨rfl, nd, rfl⟩; exact ⟨rfl, _, World.drewN_drewN _ _ _⟩))
 go_wp2_with (go_at_call 114; refine (impl_SetA.calls A X S P Z N C I _ s1 X S P sz sn C I _ HF.out).mono ?_; rintro e w2 ⟨rfl, hb⟩; have HC2 := Aside0.mk (blk_below (w := w1.drewN nq) HC.out hb); have HB2 := Aside0.mk hb; clear hb; obtain ⟨⟨r0, r1, r2, r3, r4, r5, r6, r7⟩, ⟨fr0, fr1, fr2, fr3, fr4, fr5, fr6, fr7⟩⟩ := cells8 (HC2.out))
 go_ret
 exact ⟨rfl, blk_put (put8 HC2.out _ _ _ _ _ _ _ _) 6 _ rfl, kept1 (kept8 (((KeptC.of_below HB1.out).drewN nq).below HB2.out) _ _ _ _ _ _ _ _) _ _⟩
set_option maxRecDepth 100000 in
set_option maxHeartbeats 4000000 in
theorem reckon_9 {w : World} {c : Nat} {A X S P : Int} {Z N C I : Bool} (hc : w.heap[c]? = some (.cells #[.int .i64 A, .int .i64 X, .int .i64 S, .int .i64 P, .bool Z, .bool N, .bool C, .bool I] 38 (0, 0))) (arg v : Int) :
  Calls Try.prog 110 #[.pointer (some ⟨c, 0, none⟩), .agg #[.int .i64 9, .int .i64 arg], .int .i64 v] w fun e w' => e = .returned (.bool true) ∧ w'.heap[c]? = some (.cells (cmpK (⟨A, X, S, P, Z, N, C, I⟩ : Cp) arg).cells 38 (0, 0)) ∧ KeptC w w' c := by
 obtain ⟨sm, cy, sz, sn, ha, hs, ek⟩ := cmpK_ex (⟨A, X, S, P, Z, N, C, I⟩ : Cp) arg
 rw [ek]
 clear ek
 have HA := Aside0.mk ha
 have HS := Aside0.mk hs
 clear ha hs
 have hu38 := Try.underlying38
 have hu68 := Try.underlying68
 have HC0 := Aside0.mk hc
 clear hc
 go_enter Try.func110, Try.ntmps110
 go_wp2_with (first | ((with_reducible refine gate_dst (N := 4) rfl ?_); refine bx (N := 4) (cs := #[.int .i64 9, .int .i64 arg]) (t := 68) ?_; intro g hg w1 hbox hb; have HC := Aside0.mk (blk_below HC0.out hb); have HG := Aside0.mk hbox; have HB1 := Aside0.mk hb; have hb1 : w1.cell? ⟨g, 0, none⟩ = some (.int .i64 9) := (blk_cell hbox 0).trans rfl; have hb2 : w1.cell? ⟨g, 1, none⟩ = some (.int .i64 arg) := (blk_cell hbox 1).trans rfl; clear HC0 hb hbox hg; obtain ⟨⟨y0, y1, y2, y3, y4, y5, y6, y7⟩, ⟨fy0, fy1, fy2, fy3, fy4, fy5, fy6, fy7⟩⟩ := cells8 (HC.out)))
 go_quiet (first | (go_at_call 116; refine (impl_Sub8.calls A arg true sm cy _ HA.out).mono ?_; rintro e wq ⟨rfl, nd, rfl⟩; exact ⟨rfl, _, World.drewN_drewN _ _ _⟩))
 go_wp2_with (go_at_call 117; refine (impl_Signs.calls sm sz sn _ HS.out).mono ?_; rintro e w2 ⟨rfl, n, rfl⟩)
 go_ret
 exact ⟨rfl, blk_put (blk_put (blk_put HC.out 4 _ rfl) 5 _ rfl) 6 _ rfl, kept1 (kept1 (kept1 ((KeptC.of_below HB1.out).drewN (nq + n)) _ _) _ _) _ _⟩
set_option maxRecDepth 100000 in
set_option maxHeartbeats 4000000 in
theorem reckon_no {w : World} {c : Nat} {A X S P : Int} {Z N C I : Bool} (hc : w.heap[c]? = some (.cells #[.int .i64 A, .int .i64 X, .int .i64 S, .int .i64 P, .bool Z, .bool N, .bool C, .bool I] 38 (0, 0))) (op arg v : Int) (n1 : (op == 1) = false) (n2 : (op == 2) = false) (n14 : (op == 14) = false) (n4 : (op == 4) = false) (n29 : (op == 29) = false) (n5 : (op == 5) = false) (n6 : (op == 6) = false) (n7 : (op == 7) = false) (n8 : (op == 8) = false) (n9 : (op == 9) = false) :
  Calls Try.prog 110 #[.pointer (some ⟨c, 0, none⟩), .agg #[.int .i64 op, .int .i64 arg], .int .i64 v] w fun e w' => e = .returned (.bool false) ∧ w'.heap[c]? = some (.cells (⟨A, X, S, P, Z, N, C, I⟩ : Cp).cells 38 (0, 0)) ∧ KeptC w w' c := by
 have hu38 := Try.underlying38
 have hu68 := Try.underlying68
 have HC0 := Aside0.mk hc
 clear hc
 go_enter Try.func110, Try.ntmps110
 go_wp2_with (first | ((with_reducible refine gate_dst (N := 4) rfl ?_); refine bx (N := 4) (cs := #[.int .i64 op, .int .i64 arg]) (t := 68) ?_; intro g hg w1 hbox hb; have HC := Aside0.mk (blk_below HC0.out hb); have HG := Aside0.mk hbox; have HB1 := Aside0.mk hb; have hb1 : w1.cell? ⟨g, 0, none⟩ = some (.int .i64 op) := (blk_cell hbox 0).trans rfl; have hb2 : w1.cell? ⟨g, 1, none⟩ = some (.int .i64 arg) := (blk_cell hbox 1).trans rfl; clear HC0 hb hbox hg; obtain ⟨⟨y0, y1, y2, y3, y4, y5, y6, y7⟩, ⟨fy0, fy1, fy2, fy3, fy4, fy5, fy6, fy7⟩⟩ := cells8 (HC.out)))
 go_ret
 exact ⟨rfl, HC.out, KeptC.of_below HB1.out⟩
def reckonF (k : Cp) (op arg v : Int) : Cp × Bool := if op = 1 then (setAK k arg, true) else if op = 2 then (setAK k v, true) else if op = 14 then (setAK k v, true) else if op = 4 then (addK k arg, true) else if op = 29 then (addK k v, true) else if op = 5 then (subK k arg, true) else if op = 6 then (setAK k (Go.bits .and .i64 k.A arg), true) else if op = 7 then (setAK k (Go.bits .or .i64 k.A arg), true) else if op = 8 then (setAK k (Go.bits .xor .i64 k.A arg), true) else if op = 9 then (cmpK k arg, true) else (k, false)
theorem reckon_calls {w : World} {c : Nat} {k : Cp} (hc : w.heap[c]? = some (.cells k.cells 38 (0, 0))) (op arg v : Int) :
  Calls Try.prog 110 #[.pointer (some ⟨c, 0, none⟩), .agg #[.int .i64 op, .int .i64 arg], .int .i64 v] w fun e w' => e = .returned (.bool (reckonF k op arg v).2) ∧ w'.heap[c]? = some (.cells (reckonF k op arg v).1.cells 38 (0, 0)) ∧ KeptC w w' c := by
 obtain ⟨A, X, S, P, Z, N, C, I⟩ := k
 unfold reckonF
 by_cases h1 : op = 1
 ·rw [if_pos h1, h1]
  exact reckon_1 hc arg v
 rw [if_neg h1]
 by_cases h2 : op = 2
 ·rw [if_pos h2, h2]
  exact reckon_2 hc arg v
 rw [if_neg h2]
 by_cases h14 : op = 14
 ·rw [if_pos h14, h14]
  exact reckon_14 hc arg v
 rw [if_neg h14]
 by_cases h4 : op = 4
 ·rw [if_pos h4, h4]
  exact reckon_4 hc arg v
 rw [if_neg h4]
 by_cases h29 : op = 29
 ·rw [if_pos h29, h29]
  exact reckon_29 hc arg v
 rw [if_neg h29]
 by_cases h5 : op = 5
 ·rw [if_pos h5, h5]
  exact reckon_5 hc arg v
 rw [if_neg h5]
 by_cases h6 : op = 6
 ·rw [if_pos h6, h6]
  exact reckon_6 hc arg v
 rw [if_neg h6]
 by_cases h7 : op = 7
 ·rw [if_pos h7, h7]
  exact reckon_7 hc arg v
 rw [if_neg h7]
 by_cases h8 : op = 8
 ·rw [if_pos h8, h8]
  exact reckon_8 hc arg v
 rw [if_neg h8]
 by_cases h9 : op = 9
 ·rw [if_pos h9, h9]
  exact reckon_9 hc arg v
 rw [if_neg h9]
 exact reckon_no hc op arg v (beq_eq_false_iff_ne.mpr h1) (beq_eq_false_iff_ne.mpr h2) (beq_eq_false_iff_ne.mpr h14) (beq_eq_false_iff_ne.mpr h4) (beq_eq_false_iff_ne.mpr h29) (beq_eq_false_iff_ne.mpr h5) (beq_eq_false_iff_ne.mpr h6) (beq_eq_false_iff_ne.mpr h7) (beq_eq_false_iff_ne.mpr h8) (beq_eq_false_iff_ne.mpr h9)

/-! ### impl_turn (mine) -/
set_option maxRecDepth 100000 in
set_option maxHeartbeats 4000000 in
theorem turn_10 {w : World} {c : Nat} {A X S P : Int} {Z N C I : Bool} (hc : w.heap[c]? = some (.cells #[.int .i64 A, .int .i64 X, .int .i64 S, .int .i64 P, .bool Z, .bool N, .bool C, .bool I] 38 (0, 0))) (arg : Int) :
  Calls Try.prog 111 #[.pointer (some ⟨c, 0, none⟩), .agg #[.int .i64 10, .int .i64 arg]] w fun e w' => e = .returned (.bool true) ∧ w'.heap[c]? = some (.cells (setXK (⟨A, X, S, P, Z, N, C, I⟩ : Cp) A).cells 38 (0, 0)) ∧ KeptC w w' c := by
 obtain ⟨s1, sz, sn, hf, ek⟩ := setx_ex (⟨A, X, S, P, Z, N, C, I⟩ : Cp) A
 rw [ek]
 clear ek
 have HF := Aside0.mk hf
 clear hf
 have hu38 := Try.underlying38
 have hu68 := Try.underlying68
 have HC0 := Aside0.mk hc
 clear hc
 go_enter Try.func111, Try.ntmps111
 go_wp2_with (first | ((with_reducible refine gate_dst (N := 3) rfl ?_); refine bx (N := 3) (cs := #[.int .i64 10, .int .i64 arg]) (t := 68) ?_; intro g hg w1 hbox hb; have HC := Aside0.mk (blk_below HC0.out hb); have HG := Aside0.mk hbox; have HB1 := Aside0.mk hb; have hb1 : w1.cell? ⟨g, 0, none⟩ = some (.int .i64 10) := (blk_cell hbox 0).trans rfl; have hb2 : w1.cell? ⟨g, 1, none⟩ = some (.int .i64 arg) := (blk_cell hbox 1).trans rfl; clear HC0 hb hbox hg; obtain ⟨⟨y0, y1, y2, y3, y4, y5, y6, y7⟩, ⟨fy0, fy1, fy2, fy3, fy4, fy5, fy6, fy7⟩⟩ := cells8 (HC.out)))
 refine free_ (n := 11) (e := 9) (g := 0) (T := (true, [([], []), ([], []), ([1], [1]), ([2], [2]), ([], []), ([4], [4]), ([5], [5]), ([6], [6]), ([3, 7], [3, 7]), ([0, 0, 1, 2, 3, 4, 5, 6, 7, 8], [0]), ([9, 8, 8, 0, 1, 2, 3, 4, 5, 6, 7, 8], [8, 9])])) #[true, true, true, true, true, true, true, true, true, false, false] #[false, true, true, true, true, true, true, true, true, false, false] [9, 10, 11, 12, 13, 14, 15, 16, 17] (fun j u w' => match j with
  | 0 => u = .pointer (some ⟨c, 0, none⟩)
  | 1 => u = .pointer (some ⟨c, 0, none⟩)
  | 2 => u = .pointer (some ⟨c, 0, none⟩)
  | 3 => u = .agg #[.int .i64 A, .int .i64 X, .int .i64 S, .int .i64 P, .bool Z, .bool N, .bool C, .bool I]
  | 4 => u = .pointer (some ⟨c, 0, none⟩)
  | 5 => u = .pointer (some ⟨c, 0, none⟩)
  | 6 => u = .pointer (some ⟨c, 0, none⟩)
  | 7 => u = .int .i64 A
  | 8 => u = .agg #[.int .i64 A, .int .i64 s1, .int .i64 S, .int .i64 P, .bool sz, .bool sn, .bool C, .bool I]
  | _ => False)
  (by kernel_rfl) rfl (by kernel_rfl) (by kernel_rfl) (by kernel_rfl) (any_of (T := (true, [([], []), ([], []), ([1], [1]), ([2], [2]), ([], []), ([4], [4]), ([5], [5]), ([6], [6]), ([3, 7], [3, 7]), ([0, 0, 1, 2, 3, 4, 5, 6, 7, 8], [0]), ([9, 8, 8, 0, 1, 2, 3, 4, 5, 6, 7, 8], [8, 9])])) (by kernel_rfl) (by kernel_rfl)) (fun _ _ _ _ h => h) ?stturn10 ?spturn10 ?laturn10 ?enturn10
 case stturn10 =>
  intro j u W W' h hb
  exact h
 case spturn10 =>
  intro i hi o ho a W hB hout hneed K hK
  have HBW := Aside0.mk hB
  have hcase : i = 0 ∨ i = 1 ∨ i = 2 ∨ i = 3 ∨ i = 4 ∨ i = 5 ∨ i = 6 ∨ i = 7 ∨ i = 8 := by omega
  clear hB
  rcases hcase with rfl | rfl | rfl | rfl | rfl | rfl | rfl | rfl | rfl
  ·obtain rfl := Option.some.inj ho
   have h0 : a.eval (.tmp 0) = .pointer (some ⟨c, 0, none⟩) := hout 0 (by decide)
   have h0' := eval_get h0
   refine value_ (v := .pointer (some ⟨c, 0, none⟩)) (w1 := W) (by rfl) rfl ?_ (hK.out _ _ (Below.refl _ _) rfl)
   go_simp
  ·obtain rfl := Option.some.inj ho
   have h0 : a.eval (.tmp 0) = .pointer (some ⟨c, 0, none⟩) := hout 0 (by decide)
   have h0' := eval_get h0
   refine value_ (v := .pointer (some ⟨c, 0, none⟩)) (w1 := W) (by rfl) rfl ?_ (hK.out _ _ (Below.refl _ _) rfl)
   go_simp
  ·obtain rfl := Option.some.inj ho
   have e1 : a.eval (.tmp 10) = _ := hneed 1 (by decide)
   have e1' := eval_get e1
   refine value_ (v := .pointer (some ⟨c, 0, none⟩)) (w1 := W) (by rfl) rfl ?_ (hK.out _ _ (Below.refl _ _) rfl)
   go_simp
  ·obtain rfl := Option.some.inj ho
   have e2 : a.eval (.tmp 11) = _ := hneed 2 (by decide)
   have e2' := eval_get e2
   have hb := blk_below (w := w1.drew) HC.out HBW.out
   obtain ⟨⟨d0, d1, d2, d3, d4, d5, d6, d7⟩, -⟩ := cells8 hb
   refine value_ (v := .agg #[.int .i64 A, .int .i64 X, .int .i64 S, .int .i64 P, .bool Z, .bool N, .bool C, .bool I]) (w1 := W) (by rfl) rfl ?_ (hK.out _ _ (Below.refl _ _) rfl)
   go_simp
  ·obtain rfl := Option.some.inj ho
   have h0 : a.eval (.tmp 0) = .pointer (some ⟨c, 0, none⟩) := hout 0 (by decide)
   have h0' := eval_get h0
   refine value_ (v := .pointer (some ⟨c, 0, none⟩)) (w1 := W) (by rfl) rfl ?_ (hK.out _ _ (Below.refl _ _) rfl)
   go_simp
  ·obtain rfl := Option.some.inj ho
   have e4 : a.eval (.tmp 13) = _ := hneed 4 (by decide)
   have e4' := eval_get e4
   refine value_ (v := .pointer (some ⟨c, 0, none⟩)) (w1 := W) (by rfl) rfl ?_ (hK.out _ _ (Below.refl _ _) rfl)
   go_simp
  ·obtain rfl := Option.some.inj ho
   have e5 : a.eval (.tmp 14) = _ := hneed 5 (by decide)
   have e5' := eval_get e5
   refine value_ (v := .pointer (some ⟨c, 0, none⟩)) (w1 := W) (by rfl) rfl ?_ (hK.out _ _ (Below.refl _ _) rfl)
   go_simp
  ·obtain rfl := Option.some.inj ho
   have e6 : a.eval (.tmp 15) = _ := hneed 6 (by decide)
   have e6' := eval_get e6
   have hb := blk_below (w := w1.drew) HC.out HBW.out
   have d0 := (blk_cell hb 0).trans rfl
   refine value_ (v := .int .i64 A) (w1 := W) (by rfl) rfl ?_ (hK.out _ _ (Below.refl _ _) rfl)
   go_simp
  ·obtain rfl := Option.some.inj ho
   have e3 : a.eval (.tmp 12) = _ := hneed 3 (by decide)
   have e3' := eval_get e3
   have e7 : a.eval (.tmp 16) = _ := hneed 7 (by decide)
   have e7' := eval_get e7
   refine goes_ Try.func118 (by kernel_rfl) rfl #[.agg #[.int .i64 A, .int .i64 X, .int .i64 S, .int .i64 P, .bool Z, .bool N, .bool C, .bool I], .int .i64 A] (by rfl) rfl rfl (by simp only [List.map_toArray, List.map_cons, List.map_nil, e3, e7]) ?_
   refine (impl_SetX.calls A X S P Z N C I _ A s1 S P sz sn C I W HF.out).mono ?_
   rintro e w' ⟨rfl, hb⟩
   exact ⟨_, rfl, hK.out _ _ hb rfl⟩
 case laturn10 =>
  intro o ho a W hout hneed
  obtain rfl := Option.some.inj ho
  have h0 : a.eval (.tmp 0) = .pointer (some ⟨c, 0, none⟩) := hout 0 (by decide)
  have h0' := eval_get h0
  refine ⟨.pointer (some ⟨c, 0, none⟩), rfl, Or.inl ⟨by rfl, ?_⟩⟩
  intro w'
  go_simp
 intro f vs W2 hB hE
 have HBW := Aside0.mk hB
 clear hB
 have q0 : vs 0 = _ := hE 0 (by decide)
 have q1 : vs 1 = _ := hE 1 (by decide)
 have q2 : vs 2 = _ := hE 2 (by decide)
 have q3 : vs 3 = _ := hE 3 (by decide)
 have q4 : vs 4 = _ := hE 4 (by decide)
 have q5 : vs 5 = _ := hE 5 (by decide)
 have q6 : vs 6 = _ := hE 6 (by decide)
 have q7 : vs 7 = _ := hE 7 (by decide)
 have q8 : vs 8 = _ := hE 8 (by decide)
 show wpAnyLast _ _ _ _ _ _ (f + 2) _ (putAll _ [(9, vs 0), (10, vs 1), (11, vs 2), (12, vs 3), (13, vs 4), (14, vs 5), (15, vs 6), (16, vs 7), (17, vs 8)]) W2
 rw [q0, q1, q2, q3, q4, q5, q6, q7, q8]
 clear q0 q1 q2 q3 q4 q5 q6 q7 q8 hE
 refine norm_ (a' := ?_) ?_ ?_
 rotate_left
 ·simp only [putAll, Act.put, List.setIfInBounds_toArray, List.set_cons_zero, List.set_cons_succ]
  rfl
 refine pure_ (i := 9) (N := some 18) (v := ?_) (a' := ?_) #[true, true, true, true, true, true, true, true, true, true, false] rfl rfl (by kernel_rfl) (fun _ _ _ h => h) (Or.inl ⟨by rfl, ?_⟩) ?_ ?_
 rotate_left
 ·intro w'
  go_simp
  with_reducible rfl
 rotate_left
 ·simp only [Act.put, List.setIfInBounds_toArray, List.set_cons_zero, List.set_cons_succ, i64_w, i32_w]
  rfl
 refine one_ (i := 10) (N := none) #[true, true, true, true, true, true, true, true, true, true, true] rfl rfl (by kernel_rfl) (by decide) (fun K hK => ?_)
 refine skip_ (w1 := ?_) (by rfl) rfl ?_ ?_
 rotate_left
 ·skip
  have hcW := blk_below (w := w1.drew) HC.out HBW.out
  obtain ⟨⟨r0, r1, r2, r3, r4, r5, r6, r7⟩, ⟨fr0, fr1, fr2, fr3, fr4, fr5, fr6, fr7⟩⟩ := cells8 (hcW)
  go_simp
  rfl
 refine hK.out _ _ trivial (fun _ => ?_)
 clear hK K
 refine done_ (by kernel_rfl) ?_
 go_wp2
 go_ret
 exact ⟨rfl, put8 (blk_below (w := w1.drew) HC.out HBW.out) _ _ _ _ _ _ _ _, kept8 (((KeptC.of_below HB1.out).drew).below HBW.out) _ _ _ _ _ _ _ _⟩
set_option maxRecDepth 100000 in
set_option maxHeartbeats 4000000 in
theorem turn_11 {w : World} {c : Nat} {A X S P : Int} {Z N C I : Bool} (hc : w.heap[c]? = some (.cells #[.int .i64 A, .int .i64 X, .int .i64 S, .int .i64 P, .bool Z, .bool N, .bool C, .bool I] 38 (0, 0))) (arg : Int) :
  Calls Try.prog 111 #[.pointer (some ⟨c, 0, none⟩), .agg #[.int .i64 11, .int .i64 arg]] w fun e w' => e = .returned (.bool true) ∧ w'.heap[c]? = some (.cells (setAK (⟨A, X, S, P, Z, N, C, I⟩ : Cp) X).cells 38 (0, 0)) ∧ KeptC w w' c := by
 obtain ⟨s1, sz, sn, hf, ek⟩ := seta_ex (⟨A, X, S, P, Z, N, C, I⟩ : Cp) X
 rw [ek]
 clear ek
 have HF := Aside0.mk hf
 clear hf
 have hu38 := Try.underlying38
 have hu68 := Try.underlying68
 have HC0 := Aside0.mk hc
 clear hc
 go_enter Try.func111, Try.ntmps111
 go_wp2_with (first | ((with_reducible refine gate_dst (N := 3) rfl ?_); refine bx (N := 3) (cs := #[.int .i64 11, .int .i64 arg]) (t := 68) ?_; intro g hg w1 hbox hb; have HC := Aside0.mk (blk_below HC0.out hb); have HG := Aside0.mk hbox; have HB1 := Aside0.mk hb; have hb1 : w1.cell? ⟨g, 0, none⟩ = some (.int .i64 11) := (blk_cell hbox 0).trans rfl; have hb2 : w1.cell? ⟨g, 1, none⟩ = some (.int .i64 arg) := (blk_cell hbox 1).trans rfl; clear HC0 hb hbox hg; obtain ⟨⟨y0, y1, y2, y3, y4, y5, y6, y7⟩, ⟨fy0, fy1, fy2, fy3, fy4, fy5, fy6, fy7⟩⟩ := cells8 (HC.out)))
 refine free_ (n := 11) (e := 9) (g := 0) (T := (true, [([], []), ([], []), ([1], [1]), ([2], [2]), ([], []), ([4], [4]), ([5], [5]), ([6], [6]), ([3, 7], [3, 7]), ([0, 0, 1, 2, 3, 4, 5, 6, 7, 8], [0]), ([9, 8, 8, 0, 1, 2, 3, 4, 5, 6, 7, 8], [8, 9])])) #[true, true, true, true, true, true, true, true, true, false, false] #[false, true, true, true, true, true, true, true, true, false, false] [21, 22, 23, 24, 25, 26, 27, 28, 29] (fun j u w' => match j with
  | 0 => u = .pointer (some ⟨c, 0, none⟩)
  | 1 => u = .pointer (some ⟨c, 0, none⟩)
  | 2 => u = .pointer (some ⟨c, 0, none⟩)
  | 3 => u = .agg #[.int .i64 A, .int .i64 X, .int .i64 S, .int .i64 P, .bool Z, .bool N, .bool C, .bool I]
  | 4 => u = .pointer (some ⟨c, 0, none⟩)
  | 5 => u = .pointer (some ⟨c, 0, none⟩)
  | 6 => u = .pointer (some ⟨c, 1, none⟩)
  | 7 => u = .int .i64 X
  | 8 => u = .agg #[.int .i64 s1, .int .i64 X, .int .i64 S, .int .i64 P, .bool sz, .bool sn, .bool C, .bool I]
  | _ => False)
  (by kernel_rfl) rfl (by kernel_rfl) (by kernel_rfl) (by kernel_rfl) (any_of (T := (true, [([], []), ([], []), ([1], [1]), ([2], [2]), ([], []), ([4], [4]), ([5], [5]), ([6], [6]), ([3, 7], [3, 7]), ([0, 0, 1, 2, 3, 4, 5, 6, 7, 8], [0]), ([9, 8, 8, 0, 1, 2, 3, 4, 5, 6, 7, 8], [8, 9])])) (by kernel_rfl) (by kernel_rfl)) (fun _ _ _ _ h => h) ?stturn11 ?spturn11 ?laturn11 ?enturn11
 case stturn11 =>
  intro j u W W' h hb
  exact h
 case spturn11 =>
  intro i hi o ho a W hB hout hneed K hK
  have HBW := Aside0.mk hB
  have hcase : i = 0 ∨ i = 1 ∨ i = 2 ∨ i = 3 ∨ i = 4 ∨ i = 5 ∨ i = 6 ∨ i = 7 ∨ i = 8 := by omega
  clear hB
  rcases hcase with rfl | rfl | rfl | rfl | rfl | rfl | rfl | rfl | rfl
  ·obtain rfl := Option.some.inj ho
   have h0 : a.eval (.tmp 0) = .pointer (some ⟨c, 0, none⟩) := hout 0 (by decide)
   have h0' := eval_get h0
   refine value_ (v := .pointer (some ⟨c, 0, none⟩)) (w1 := W) (by rfl) rfl ?_ (hK.out _ _ (Below.refl _ _) rfl)
   go_simp
  ·obtain rfl := Option.some.inj ho
   have h0 : a.eval (.tmp 0) = .pointer (some ⟨c, 0, none⟩) := hout 0 (by decide)
   have h0' := eval_get h0
   refine value_ (v := .pointer (some ⟨c, 0, none⟩)) (w1 := W) (by rfl) rfl ?_ (hK.out _ _ (Below.refl _ _) rfl)
   go_simp
  ·obtain rfl := Option.some.inj ho
   have e1 : a.eval (.tmp 22) = _ := hneed 1 (by decide)
   have e1' := eval_get e1
   refine value_ (v := .pointer (some ⟨c, 0, none⟩)) (w1 := W) (by rfl) rfl ?_ (hK.out _ _ (Below.refl _ _) rfl)
   go_simp
  ·obtain rfl := Option.some.inj ho
   have e2 : a.eval (.tmp 23) = _ := hneed 2 (by decide)
   have e2' := eval_get e2
   have hb := blk_below (w := w1.drew) HC.out HBW.out
   obtain ⟨⟨d0, d1, d2, d3, d4, d5, d6, d7⟩, -⟩ := cells8 hb
   refine value_ (v := .agg #[.int .i64 A, .int .i64 X, .int .i64 S, .int .i64 P, .bool Z, .bool N, .bool C, .bool I]) (w1 := W) (by rfl) rfl ?_ (hK.out _ _ (Below.refl _ _) rfl)
   go_simp
  ·obtain rfl := Option.some.inj ho
   have h0 : a.eval (.tmp 0) = .pointer (some ⟨c, 0, none⟩) := hout 0 (by decide)
   have h0' := eval_get h0
   refine value_ (v := .pointer (some ⟨c, 0, none⟩)) (w1 := W) (by rfl) rfl ?_ (hK.out _ _ (Below.refl _ _) rfl)
   go_simp
  ·obtain rfl := Option.some.inj ho
   have e4 : a.eval (.tmp 25) = _ := hneed 4 (by decide)
   have e4' := eval_get e4
   refine value_ (v := .pointer (some ⟨c, 0, none⟩)) (w1 := W) (by rfl) rfl ?_ (hK.out _ _ (Below.refl _ _) rfl)
   go_simp
  ·obtain rfl := Option.some.inj ho
   have e5 : a.eval (.tmp 26) = _ := hneed 5 (by decide)
   have e5' := eval_get e5
   refine value_ (v := .pointer (some ⟨c, 1, none⟩)) (w1 := W) (by rfl) rfl ?_ (hK.out _ _ (Below.refl _ _) rfl)
   go_simp
  ·obtain rfl := Option.some.inj ho
   have e6 : a.eval (.tmp 27) = _ := hneed 6 (by decide)
   have e6' := eval_get e6
   have hb := blk_below (w := w1.drew) HC.out HBW.out
   have d0 := (blk_cell hb 1).trans rfl
   refine value_ (v := .int .i64 X) (w1 := W) (by rfl) rfl ?_ (hK.out _ _ (Below.refl _ _) rfl)
   go_simp
  ·obtain rfl := Option.some.inj ho
   have e3 : a.eval (.tmp 24) = _ := hneed 3 (by decide)
   have e3' := eval_get e3
   have e7 : a.eval (.tmp 28) = _ := hneed 7 (by decide)
   have e7' := eval_get e7
   refine goes_ Try.func114 (by kernel_rfl) rfl #[.agg #[.int .i64 A, .int .i64 X, .int .i64 S, .int .i64 P, .bool Z, .bool N, .bool C, .bool I], .int .i64 X] (by rfl) rfl rfl (by simp only [List.map_toArray, List.map_cons, List.map_nil, e3, e7]) ?_
   refine (impl_SetA.calls A X S P Z N C I _ s1 X S P sz sn C I W HF.out).mono ?_
   rintro e w' ⟨rfl, hb⟩
   exact ⟨_, rfl, hK.out _ _ hb rfl⟩
 case laturn11 =>
  intro o ho a W hout hneed
  obtain rfl := Option.some.inj ho
  have h0 : a.eval (.tmp 0) = .pointer (some ⟨c, 0, none⟩) := hout 0 (by decide)
  have h0' := eval_get h0
  refine ⟨.pointer (some ⟨c, 0, none⟩), rfl, Or.inl ⟨by rfl, ?_⟩⟩
  intro w'
  go_simp
 intro f vs W2 hB hE
 have HBW := Aside0.mk hB
 clear hB
 have q0 : vs 0 = _ := hE 0 (by decide)
 have q1 : vs 1 = _ := hE 1 (by decide)
 have q2 : vs 2 = _ := hE 2 (by decide)
 have q3 : vs 3 = _ := hE 3 (by decide)
 have q4 : vs 4 = _ := hE 4 (by decide)
 have q5 : vs 5 = _ := hE 5 (by decide)
 have q6 : vs 6 = _ := hE 6 (by decide)
 have q7 : vs 7 = _ := hE 7 (by decide)
 have q8 : vs 8 = _ := hE 8 (by decide)
 show wpAnyLast _ _ _ _ _ _ (f + 2) _ (putAll _ [(21, vs 0), (22, vs 1), (23, vs 2), (24, vs 3), (25, vs 4), (26, vs 5), (27, vs 6), (28, vs 7), (29, vs 8)]) W2
 rw [q0, q1, q2, q3, q4, q5, q6, q7, q8]
 clear q0 q1 q2 q3 q4 q5 q6 q7 q8 hE
 refine norm_ (a' := ?_) ?_ ?_
 rotate_left
 ·simp only [putAll, Act.put, List.setIfInBounds_toArray, List.set_cons_zero, List.set_cons_succ]
  rfl
 refine pure_ (i := 9) (N := some 30) (v := ?_) (a' := ?_) #[true, true, true, true, true, true, true, true, true, true, false] rfl rfl (by kernel_rfl) (fun _ _ _ h => h) (Or.inl ⟨by rfl, ?_⟩) ?_ ?_
 rotate_left
 ·intro w'
  go_simp
  with_reducible rfl
 rotate_left
 ·simp only [Act.put, List.setIfInBounds_toArray, List.set_cons_zero, List.set_cons_succ, i64_w, i32_w]
  rfl
 refine one_ (i := 10) (N := none) #[true, true, true, true, true, true, true, true, true, true, true] rfl rfl (by kernel_rfl) (by decide) (fun K hK => ?_)
 refine skip_ (w1 := ?_) (by rfl) rfl ?_ ?_
 rotate_left
 ·skip
  have hcW := blk_below (w := w1.drew) HC.out HBW.out
  obtain ⟨⟨r0, r1, r2, r3, r4, r5, r6, r7⟩, ⟨fr0, fr1, fr2, fr3, fr4, fr5, fr6, fr7⟩⟩ := cells8 (hcW)
  go_simp
  rfl
 refine hK.out _ _ trivial (fun _ => ?_)
 clear hK K
 refine done_ (by kernel_rfl) ?_
 go_wp2
 go_ret
 exact ⟨rfl, put8 (blk_below (w := w1.drew) HC.out HBW.out) _ _ _ _ _ _ _ _, kept8 (((KeptC.of_below HB1.out).drew).below HBW.out) _ _ _ _ _ _ _ _⟩
set_option maxRecDepth 100000 in
set_option maxHeartbeats 4000000 in
theorem turn_12 {w : World} {c : Nat} {A X S P : Int} {Z N C I : Bool} (hc : w.heap[c]? = some (.cells #[.int .i64 A, .int .i64 X, .int .i64 S, .int .i64 P, .bool Z, .bool N, .bool C, .bool I] 38 (0, 0))) (arg : Int) :
  Calls Try.prog 111 #[.pointer (some ⟨c, 0, none⟩), .agg #[.int .i64 12, .int .i64 arg]] w fun e w' => e = .returned (.bool true) ∧ w'.heap[c]? = some (.cells (setXK (⟨A, X, S, P, Z, N, C, I⟩ : Cp) (wrap64 (X + 1))).cells 38 (0, 0)) ∧ KeptC w w' c := by
 obtain ⟨s1, sz, sn, hf, ek⟩ := setx_ex (⟨A, X, S, P, Z, N, C, I⟩ : Cp) (wrap64 (X + 1))
 rw [ek]
 clear ek
 have HF := Aside0.mk hf
 clear hf
 have hu38 := Try.underlying38
 have hu68 := Try.underlying68
 have HC0 := Aside0.mk hc
 clear hc
 go_enter Try.func111, Try.ntmps111
 go_wp2_with (first | ((with_reducible refine gate_dst (N := 3) rfl ?_); refine bx (N := 3) (cs := #[.int .i64 12, .int .i64 arg]) (t := 68) ?_; intro g hg w1 hbox hb; have HC := Aside0.mk (blk_below HC0.out hb); have HG := Aside0.mk hbox; have HB1 := Aside0.mk hb; have hb1 : w1.cell? ⟨g, 0, none⟩ = some (.int .i64 12) := (blk_cell hbox 0).trans rfl; have hb2 : w1.cell? ⟨g, 1, none⟩ = some (.int .i64 arg) := (blk_cell hbox 1).trans rfl; clear HC0 hb hbox hg; obtain ⟨⟨y0, y1, y2, y3, y4, y5, y6, y7⟩, ⟨fy0, fy1, fy2, fy3, fy4, fy5, fy6, fy7⟩⟩ := cells8 (HC.out)))
 refine free_ (n := 12) (e := 10) (g := 0) (T := (true, [([], []), ([], []), ([1], [1]), ([2], [2]), ([], []), ([4], [4]), ([5], [5]), ([6], [6]), ([7], [7]), ([3, 8], [3, 8]), ([0, 0, 1, 2, 3, 4, 5, 6, 7, 8, 9], [0]), ([10, 9, 9, 0, 1, 2, 3, 4, 5, 6, 7, 8, 9], [9, 10])])) #[true, true, true, true, true, true, true, true, true, true, false, false] #[false, true, true, true, true, true, true, true, true, true, false, false] [33, 34, 35, 36, 37, 38, 39, 40, 41, 42] (fun j u w' => match j with
  | 0 => u = .pointer (some ⟨c, 0, none⟩)
  | 1 => u = .pointer (some ⟨c, 0, none⟩)
  | 2 => u = .pointer (some ⟨c, 0, none⟩)
  | 3 => u = .agg #[.int .i64 A, .int .i64 X, .int .i64 S, .int .i64 P, .bool Z, .bool N, .bool C, .bool I]
  | 4 => u = .pointer (some ⟨c, 0, none⟩)
  | 5 => u = .pointer (some ⟨c, 0, none⟩)
  | 6 => u = .pointer (some ⟨c, 1, none⟩)
  | 7 => u = .int .i64 X
  | 8 => u = .int .i64 (wrap64 (X + 1))
  | 9 => u = .agg #[.int .i64 A, .int .i64 s1, .int .i64 S, .int .i64 P, .bool sz, .bool sn, .bool C, .bool I]
  | _ => False)
  (by kernel_rfl) rfl (by kernel_rfl) (by kernel_rfl) (by kernel_rfl) (any_of (T := (true, [([], []), ([], []), ([1], [1]), ([2], [2]), ([], []), ([4], [4]), ([5], [5]), ([6], [6]), ([7], [7]), ([3, 8], [3, 8]), ([0, 0, 1, 2, 3, 4, 5, 6, 7, 8, 9], [0]), ([10, 9, 9, 0, 1, 2, 3, 4, 5, 6, 7, 8, 9], [9, 10])])) (by kernel_rfl) (by kernel_rfl)) (fun _ _ _ _ h => h) ?stturn12 ?spturn12 ?laturn12 ?enturn12
 case stturn12 =>
  intro j u W W' h hb
  exact h
 case spturn12 =>
  intro i hi o ho a W hB hout hneed K hK
  have HBW := Aside0.mk hB
  have hcase : i = 0 ∨ i = 1 ∨ i = 2 ∨ i = 3 ∨ i = 4 ∨ i = 5 ∨ i = 6 ∨ i = 7 ∨ i = 8 ∨ i = 9 := by omega
  clear hB
  rcases hcase with rfl | rfl | rfl | rfl | rfl | rfl | rfl | rfl | rfl | rfl
  ·obtain rfl := Option.some.inj ho
   have h0 : a.eval (.tmp 0) = .pointer (some ⟨c, 0, none⟩) := hout 0 (by decide)
   have h0' := eval_get h0
   refine value_ (v := .pointer (some ⟨c, 0, none⟩)) (w1 := W) (by rfl) rfl ?_ (hK.out _ _ (Below.refl _ _) rfl)
   go_simp
  ·obtain rfl := Option.some.inj ho
   have h0 : a.eval (.tmp 0) = .pointer (some ⟨c, 0, none⟩) := hout 0 (by decide)
   have h0' := eval_get h0
   refine value_ (v := .pointer (some ⟨c, 0, none⟩)) (w1 := W) (by rfl) rfl ?_ (hK.out _ _ (Below.refl _ _) rfl)
   go_simp
  ·obtain rfl := Option.some.inj ho
   have e1 : a.eval (.tmp 34) = _ := hneed 1 (by decide)
   have e1' := eval_get e1
   refine value_ (v := .pointer (some ⟨c, 0, none⟩)) (w1 := W) (by rfl) rfl ?_ (hK.out _ _ (Below.refl _ _) rfl)
   go_simp
  ·obtain rfl := Option.some.inj ho
   have e2 : a.eval (.tmp 35) = _ := hneed 2 (by decide)
   have e2' := eval_get e2
   have hb := blk_below (w := w1.drew) HC.out HBW.out
   obtain ⟨⟨d0, d1, d2, d3, d4, d5, d6, d7⟩, -⟩ := cells8 hb
   refine value_ (v := .agg #[.int .i64 A, .int .i64 X, .int .i64 S, .int .i64 P, .bool Z, .bool N, .bool C, .bool I]) (w1 := W) (by rfl) rfl ?_ (hK.out _ _ (Below.refl _ _) rfl)
   go_simp
  ·obtain rfl := Option.some.inj ho
   have h0 : a.eval (.tmp 0) = .pointer (some ⟨c, 0, none⟩) := hout 0 (by decide)
   have h0' := eval_get h0
   refine value_ (v := .pointer (some ⟨c, 0, none⟩)) (w1 := W) (by rfl) rfl ?_ (hK.out _ _ (Below.refl _ _) rfl)
   go_simp
  ·obtain rfl := Option.some.inj ho
   have e4 : a.eval (.tmp 37) = _ := hneed 4 (by decide)
   have e4' := eval_get e4
   refine value_ (v := .pointer (some ⟨c, 0, none⟩)) (w1 := W) (by rfl) rfl ?_ (hK.out _ _ (Below.refl _ _) rfl)
   go_simp
  ·obtain rfl := Option.some.inj ho
   have e5 : a.eval (.tmp 38) = _ := hneed 5 (by decide)
   have e5' := eval_get e5
   refine value_ (v := .pointer (some ⟨c, 1, none⟩)) (w1 := W) (by rfl) rfl ?_ (hK.out _ _ (Below.refl _ _) rfl)
   go_simp
  ·obtain rfl := Option.some.inj ho
   have e6 : a.eval (.tmp 39) = _ := hneed 6 (by decide)
   have e6' := eval_get e6
   have hb := blk_below (w := w1.drew) HC.out HBW.out
   have d0 := (blk_cell hb 1).trans rfl
   refine value_ (v := .int .i64 X) (w1 := W) (by rfl) rfl ?_ (hK.out _ _ (Below.refl _ _) rfl)
   go_simp
  ·obtain rfl := Option.some.inj ho
   have e7 : a.eval (.tmp 40) = _ := hneed 7 (by decide)
   have e7' := eval_get e7
   refine value_ (v := .int .i64 (wrap64 (X + 1))) (w1 := W) (by rfl) rfl ?_ (hK.out _ _ (Below.refl _ _) rfl)
   go_simp
   first | done | rfl | simp only [i64_w]
  ·obtain rfl := Option.some.inj ho
   have e3 : a.eval (.tmp 36) = _ := hneed 3 (by decide)
   have e3' := eval_get e3
   have e8 : a.eval (.tmp 41) = _ := hneed 8 (by decide)
   have e8' := eval_get e8
   refine goes_ Try.func118 (by kernel_rfl) rfl #[.agg #[.int .i64 A, .int .i64 X, .int .i64 S, .int .i64 P, .bool Z, .bool N, .bool C, .bool I], .int .i64 (wrap64 (X + 1))] (by rfl) rfl rfl (by simp only [List.map_toArray, List.map_cons, List.map_nil, e3, e8]) ?_
   refine (impl_SetX.calls A X S P Z N C I _ A s1 S P sz sn C I W HF.out).mono ?_
   rintro e w' ⟨rfl, hb⟩
   exact ⟨_, rfl, hK.out _ _ hb rfl⟩
 case laturn12 =>
  intro o ho a W hout hneed
  obtain rfl := Option.some.inj ho
  have h0 : a.eval (.tmp 0) = .pointer (some ⟨c, 0, none⟩) := hout 0 (by decide)
  have h0' := eval_get h0
  refine ⟨.pointer (some ⟨c, 0, none⟩), rfl, Or.inl ⟨by rfl, ?_⟩⟩
  intro w'
  go_simp
 intro f vs W2 hB hE
 have HBW := Aside0.mk hB
 clear hB
 have q0 : vs 0 = _ := hE 0 (by decide)
 have q1 : vs 1 = _ := hE 1 (by decide)
 have q2 : vs 2 = _ := hE 2 (by decide)
 have q3 : vs 3 = _ := hE 3 (by decide)
 have q4 : vs 4 = _ := hE 4 (by decide)
 have q5 : vs 5 = _ := hE 5 (by decide)
 have q6 : vs 6 = _ := hE 6 (by decide)
 have q7 : vs 7 = _ := hE 7 (by decide)
 have q8 : vs 8 = _ := hE 8 (by decide)
 have q9 : vs 9 = _ := hE 9 (by decide)
 show wpAnyLast _ _ _ _ _ _ (f + 2) _ (putAll _ [(33, vs 0), (34, vs 1), (35, vs 2), (36, vs 3), (37, vs 4), (38, vs 5), (39, vs 6), (40, vs 7), (41, vs 8), (42, vs 9)]) W2
 rw [q0, q1, q2, q3, q4, q5, q6, q7, q8, q9]
 clear q0 q1 q2 q3 q4 q5 q6 q7 q8 q9 hE
 refine norm_ (a' := ?_) ?_ ?_
 rotate_left
 ·simp only [putAll, Act.put, List.setIfInBounds_toArray, List.set_cons_zero, List.set_cons_succ]
  rfl
 refine pure_ (i := 10) (N := some 43) (v := ?_) (a' := ?_) #[true, true, true, true, true, true, true, true, true, true, true, false] rfl rfl (by kernel_rfl) (fun _ _ _ h => h) (Or.inl ⟨by rfl, ?_⟩) ?_ ?_
 rotate_left
 ·intro w'
  go_simp
  with_reducible rfl
 rotate_left
 ·simp only [Act.put, List.setIfInBounds_toArray, List.set_cons_zero, List.set_cons_succ, i64_w, i32_w]
  rfl
 refine one_ (i := 11) (N := none) #[true, true, true, true, true, true, true, true, true, true, true, true] rfl rfl (by kernel_rfl) (by decide) (fun K hK => ?_)
 refine skip_ (w1 := ?_) (by rfl) rfl ?_ ?_
 rotate_left
 ·skip
  have hcW := blk_below (w := w1.drew) HC.out HBW.out
  obtain ⟨⟨r0, r1, r2, r3, r4, r5, r6, r7⟩, ⟨fr0, fr1, fr2, fr3, fr4, fr5, fr6, fr7⟩⟩ := cells8 (hcW)
  go_simp
  rfl
 refine hK.out _ _ trivial (fun _ => ?_)
 clear hK K
 refine done_ (by kernel_rfl) ?_
 go_wp2
 go_ret
 exact ⟨rfl, put8 (blk_below (w := w1.drew) HC.out HBW.out) _ _ _ _ _ _ _ _, kept8 (((KeptC.of_below HB1.out).drew).below HBW.out) _ _ _ _ _ _ _ _⟩
set_option maxRecDepth 100000 in
set_option maxHeartbeats 4000000 in
theorem turn_13 {w : World} {c : Nat} {A X S P : Int} {Z N C I : Bool} (hc : w.heap[c]? = some (.cells #[.int .i64 A, .int .i64 X, .int .i64 S, .int .i64 P, .bool Z, .bool N, .bool C, .bool I] 38 (0, 0))) (arg : Int) :
  Calls Try.prog 111 #[.pointer (some ⟨c, 0, none⟩), .agg #[.int .i64 13, .int .i64 arg]] w fun e w' => e = .returned (.bool true) ∧ w'.heap[c]? = some (.cells (setXK (⟨A, X, S, P, Z, N, C, I⟩ : Cp) (wrap64 (X - 1))).cells 38 (0, 0)) ∧ KeptC w w' c := by
 obtain ⟨s1, sz, sn, hf, ek⟩ := setx_ex (⟨A, X, S, P, Z, N, C, I⟩ : Cp) (wrap64 (X - 1))
 rw [ek]
 clear ek
 have HF := Aside0.mk hf
 clear hf
 have hu38 := Try.underlying38
 have hu68 := Try.underlying68
 have HC0 := Aside0.mk hc
 clear hc
 go_enter Try.func111, Try.ntmps111
 go_wp2_with (first | ((with_reducible refine gate_dst (N := 3) rfl ?_); refine bx (N := 3) (cs := #[.int .i64 13, .int .i64 arg]) (t := 68) ?_; intro g hg w1 hbox hb; have HC := Aside0.mk (blk_below HC0.out hb); have HG := Aside0.mk hbox; have HB1 := Aside0.mk hb; have hb1 : w1.cell? ⟨g, 0, none⟩ = some (.int .i64 13) := (blk_cell hbox 0).trans rfl; have hb2 : w1.cell? ⟨g, 1, none⟩ = some (.int .i64 arg) := (blk_cell hbox 1).trans rfl; clear HC0 hb hbox hg; obtain ⟨⟨y0, y1, y2, y3, y4, y5, y6, y7⟩, ⟨fy0, fy1, fy2, fy3, fy4, fy5, fy6, fy7⟩⟩ := cells8 (HC.out)))
 refine free_ (n := 12) (e := 10) (g := 0) (T := (true, [([], []), ([], []), ([1], [1]), ([2], [2]), ([], []), ([4], [4]), ([5], [5]), ([6], [6]), ([7], [7]), ([3, 8], [3, 8]), ([0, 0, 1, 2, 3, 4, 5, 6, 7, 8, 9], [0]), ([10, 9, 9, 0, 1, 2, 3, 4, 5, 6, 7, 8, 9], [9, 10])])) #[true, true, true, true, true, true, true, true, true, true, false, false] #[false, true, true, true, true, true, true, true, true, true, false, false] [46, 47, 48, 49, 50, 51, 52, 53, 54, 55] (fun j u w' => match j with
  | 0 => u = .pointer (some ⟨c, 0, none⟩)
  | 1 => u = .pointer (some ⟨c, 0, none⟩)
  | 2 => u = .pointer (some ⟨c, 0, none⟩)
  | 3 => u = .agg #[.int .i64 A, .int .i64 X, .int .i64 S, .int .i64 P, .bool Z, .bool N, .bool C, .bool I]
  | 4 => u = .pointer (some ⟨c, 0, none⟩)
  | 5 => u = .pointer (some ⟨c, 0, none⟩)
  | 6 => u = .pointer (some ⟨c, 1, none⟩)
  | 7 => u = .int .i64 X
  | 8 => u = .int .i64 (wrap64 (X - 1))
  | 9 => u = .agg #[.int .i64 A, .int .i64 s1, .int .i64 S, .int .i64 P, .bool sz, .bool sn, .bool C, .bool I]
  | _ => False)
  (by kernel_rfl) rfl (by kernel_rfl) (by kernel_rfl) (by kernel_rfl) (any_of (T := (true, [([], []), ([], []), ([1], [1]), ([2], [2]), ([], []), ([4], [4]), ([5], [5]), ([6], [6]), ([7], [7]), ([3, 8], [3, 8]), ([0, 0, 1, 2, 3, 4, 5, 6, 7, 8, 9], [0]), ([10, 9, 9, 0, 1, 2, 3, 4, 5, 6, 7, 8, 9], [9, 10])])) (by kernel_rfl) (by kernel_rfl)) (fun _ _ _ _ h => h) ?stturn13 ?spturn13 ?laturn13 ?enturn13
 case stturn13 =>
  intro j u W W' h hb
  exact h
 case spturn13 =>
  intro i hi o ho a W hB hout hneed K hK
  have HBW := Aside0.mk hB
  have hcase : i = 0 ∨ i = 1 ∨ i = 2 ∨ i = 3 ∨ i = 4 ∨ i = 5 ∨ i = 6 ∨ i = 7 ∨ i = 8 ∨ i = 9 := by omega
  clear hB
  rcases hcase with rfl | rfl | rfl | rfl | rfl | rfl | rfl | rfl | rfl | rfl
  ·obtain rfl := Option.some.inj ho
   have h0 : a.eval (.tmp 0) = .pointer (some ⟨c, 0, none⟩) := hout 0 (by decide)
   have h0' := eval_get h0
   refine value_ (v := .pointer (some ⟨c, 0, none⟩)) (w1 := W) (by rfl) rfl ?_ (hK.out _ _ (Below.refl _ _) rfl)
   go_simp
  ·obtain rfl := Option.some.inj ho
   have h0 : a.eval (.tmp 0) = .pointer (some ⟨c, 0, none⟩) := hout 0 (by decide)
   have h0' := eval_get h0
   refine value_ (v := .pointer (some ⟨c, 0, none⟩)) (w1 := W) (by rfl) rfl ?_ (hK.out _ _ (Below.refl _ _) rfl)
   go_simp
  ·obtain rfl := Option.some.inj ho
   have e1 : a.eval (.tmp 47) = _ := hneed 1 (by decide)
   have e1' := eval_get e1
   refine value_ (v := .pointer (some ⟨c, 0, none⟩)) (w1 := W) (by rfl) rfl ?_ (hK.out _ _ (Below.refl _ _) rfl)
   go_simp
  ·obtain rfl := Option.some.inj ho
   have e2 : a.eval (.tmp 48) = _ := hneed 2 (by decide)
   have e2' := eval_get e2
   have hb := blk_below (w := w1.drew) HC.out HBW.out
   obtain ⟨⟨d0, d1, d2, d3, d4, d5, d6, d7⟩, -⟩ := cells8 hb
   refine value_ (v := .agg #[.int .i64 A, .int .i64 X, .int .i64 S, .int .i64 P, .bool Z, .bool N, .bool C, .bool I]) (w1 := W) (by rfl) rfl ?_ (hK.out _ _ (Below.refl _ _) rfl)
   go_simp
  ·obtain rfl := Option.some.inj ho
   have h0 : a.eval (.tmp 0) = .pointer (some ⟨c, 0, none⟩) := hout 0 (by decide)
   have h0' := eval_get h0
   refine value_ (v := .pointer (some ⟨c, 0, none⟩)) (w1 := W) (by rfl) rfl ?_ (hK.out _ _ (Below.refl _ _) rfl)
   go_simp
  ·obtain rfl := Option.some.inj ho
   have e4 : a.eval (.tmp 50) = _ := hneed 4 (by decide)
   have e4' := eval_get e4
   refine value_ (v := .pointer (some ⟨c, 0, none⟩)) (w1 := W) (by rfl) rfl ?_ (hK.out _ _ (Below.refl _ _) rfl)
   go_simp
  ·obtain rfl := Option.some.inj ho
   have e5 : a.eval (.tmp 51) = _ := hneed 5 (by decide)
   have e5' := eval_get e5
   refine value_ (v := .pointer (some ⟨c, 1, none⟩)) (w1 := W) (by rfl) rfl ?_ (hK.out _ _ (Below.refl _ _) rfl)
   go_simp
  ·obtain rfl := Option.some.inj ho
   have e6 : a.eval (.tmp 52) = _ := hneed 6 (by decide)
   have e6' := eval_get e6
   have hb := blk_below (w := w1.drew) HC.out HBW.out
   have d0 := (blk_cell hb 1).trans rfl
   refine value_ (v := .int .i64 X) (w1 := W) (by rfl) rfl ?_ (hK.out _ _ (Below.refl _ _) rfl)
   go_simp
  ·obtain rfl := Option.some.inj ho
   have e7 : a.eval (.tmp 53) = _ := hneed 7 (by decide)
   have e7' := eval_get e7
   refine value_ (v := .int .i64 (wrap64 (X - 1))) (w1 := W) (by rfl) rfl ?_ (hK.out _ _ (Below.refl _ _) rfl)
   go_simp
   first | done | rfl | simp only [i64_w]
  ·obtain rfl := Option.some.inj ho
   have e3 : a.eval (.tmp 49) = _ := hneed 3 (by decide)
   have e3' := eval_get e3
   have e8 : a.eval (.tmp 54) = _ := hneed 8 (by decide)
   have e8' := eval_get e8
   refine goes_ Try.func118 (by kernel_rfl) rfl #[.agg #[.int .i64 A, .int .i64 X, .int .i64 S, .int .i64 P, .bool Z, .bool N, .bool C, .bool I], .int .i64 (wrap64 (X - 1))] (by rfl) rfl rfl (by simp only [List.map_toArray, List.map_cons, List.map_nil, e3, e8]) ?_
   refine (impl_SetX.calls A X S P Z N C I _ A s1 S P sz sn C I W HF.out).mono ?_
   rintro e w' ⟨rfl, hb⟩
   exact ⟨_, rfl, hK.out _ _ hb rfl⟩
 case laturn13 =>
  intro o ho a W hout hneed
  obtain rfl := Option.some.inj ho
  have h0 : a.eval (.tmp 0) = .pointer (some ⟨c, 0, none⟩) := hout 0 (by decide)
  have h0' := eval_get h0
  refine ⟨.pointer (some ⟨c, 0, none⟩), rfl, Or.inl ⟨by rfl, ?_⟩⟩
  intro w'
  go_simp
 intro f vs W2 hB hE
 have HBW := Aside0.mk hB
 clear hB
 have q0 : vs 0 = _ := hE 0 (by decide)
 have q1 : vs 1 = _ := hE 1 (by decide)
 have q2 : vs 2 = _ := hE 2 (by decide)
 have q3 : vs 3 = _ := hE 3 (by decide)
 have q4 : vs 4 = _ := hE 4 (by decide)
 have q5 : vs 5 = _ := hE 5 (by decide)
 have q6 : vs 6 = _ := hE 6 (by decide)
 have q7 : vs 7 = _ := hE 7 (by decide)
 have q8 : vs 8 = _ := hE 8 (by decide)
 have q9 : vs 9 = _ := hE 9 (by decide)
 show wpAnyLast _ _ _ _ _ _ (f + 2) _ (putAll _ [(46, vs 0), (47, vs 1), (48, vs 2), (49, vs 3), (50, vs 4), (51, vs 5), (52, vs 6), (53, vs 7), (54, vs 8), (55, vs 9)]) W2
 rw [q0, q1, q2, q3, q4, q5, q6, q7, q8, q9]
 clear q0 q1 q2 q3 q4 q5 q6 q7 q8 q9 hE
 refine norm_ (a' := ?_) ?_ ?_
 rotate_left
 ·simp only [putAll, Act.put, List.setIfInBounds_toArray, List.set_cons_zero, List.set_cons_succ]
  rfl
 refine pure_ (i := 10) (N := some 56) (v := ?_) (a' := ?_) #[true, true, true, true, true, true, true, true, true, true, true, false] rfl rfl (by kernel_rfl) (fun _ _ _ h => h) (Or.inl ⟨by rfl, ?_⟩) ?_ ?_
 rotate_left
 ·intro w'
  go_simp
  with_reducible rfl
 rotate_left
 ·simp only [Act.put, List.setIfInBounds_toArray, List.set_cons_zero, List.set_cons_succ, i64_w, i32_w]
  rfl
 refine one_ (i := 11) (N := none) #[true, true, true, true, true, true, true, true, true, true, true, true] rfl rfl (by kernel_rfl) (by decide) (fun K hK => ?_)
 refine skip_ (w1 := ?_) (by rfl) rfl ?_ ?_
 rotate_left
 ·skip
  have hcW := blk_below (w := w1.drew) HC.out HBW.out
  obtain ⟨⟨r0, r1, r2, r3, r4, r5, r6, r7⟩, ⟨fr0, fr1, fr2, fr3, fr4, fr5, fr6, fr7⟩⟩ := cells8 (hcW)
  go_simp
  rfl
 refine hK.out _ _ trivial (fun _ => ?_)
 clear hK K
 refine done_ (by kernel_rfl) ?_
 go_wp2
 go_ret
 exact ⟨rfl, put8 (blk_below (w := w1.drew) HC.out HBW.out) _ _ _ _ _ _ _ _, kept8 (((KeptC.of_below HB1.out).drew).below HBW.out) _ _ _ _ _ _ _ _⟩
set_option maxRecDepth 100000 in
set_option maxHeartbeats 4000000 in
theorem turn_25 {w : World} {c : Nat} {A X S P : Int} {Z N C I : Bool} (hc : w.heap[c]? = some (.cells #[.int .i64 A, .int .i64 X, .int .i64 S, .int .i64 P, .bool Z, .bool N, .bool C, .bool I] 38 (0, 0))) (arg : Int) :
  Calls Try.prog 111 #[.pointer (some ⟨c, 0, none⟩), .agg #[.int .i64 25, .int .i64 arg]] w fun e w' => e = .returned (.bool true) ∧ w'.heap[c]? = some (.cells (⟨A, X, S, P, Z, N, C, true⟩ : Cp).cells 38 (0, 0)) ∧ KeptC w w' c := by
 have hu38 := Try.underlying38
 have hu68 := Try.underlying68
 have HC0 := Aside0.mk hc
 clear hc
 go_enter Try.func111, Try.ntmps111
 go_wp2_with (first | ((with_reducible refine gate_dst (N := 3) rfl ?_); refine bx (N := 3) (cs := #[.int .i64 25, .int .i64 arg]) (t := 68) ?_; intro g hg w1 hbox hb; have HC := Aside0.mk (blk_below HC0.out hb); have HG := Aside0.mk hbox; have HB1 := Aside0.mk hb; have hb1 : w1.cell? ⟨g, 0, none⟩ = some (.int .i64 25) := (blk_cell hbox 0).trans rfl; have hb2 : w1.cell? ⟨g, 1, none⟩ = some (.int .i64 arg) := (blk_cell hbox 1).trans rfl; clear HC0 hb hbox hg; obtain ⟨⟨y0, y1, y2, y3, y4, y5, y6, y7⟩, ⟨fy0, fy1, fy2, fy3, fy4, fy5, fy6, fy7⟩⟩ := cells8 (HC.out)))
 go_ret
 exact ⟨rfl, blk_put HC.out 7 _ rfl, kept1 (KeptC.of_below HB1.out) _ _⟩
set_option maxRecDepth 100000 in
set_option maxHeartbeats 4000000 in
theorem turn_26 {w : World} {c : Nat} {A X S P : Int} {Z N C I : Bool} (hc : w.heap[c]? = some (.cells #[.int .i64 A, .int .i64 X, .int .i64 S, .int .i64 P, .bool Z, .bool N, .bool C, .bool I] 38 (0, 0))) (arg : Int) :
  Calls Try.prog 111 #[.pointer (some ⟨c, 0, none⟩), .agg #[.int .i64 26, .int .i64 arg]] w fun e w' => e = .returned (.bool true) ∧ w'.heap[c]? = some (.cells (⟨A, X, S, P, Z, N, C, false⟩ : Cp).cells 38 (0, 0)) ∧ KeptC w w' c := by
 have hu38 := Try.underlying38
 have hu68 := Try.underlying68
 have HC0 := Aside0.mk hc
 clear hc
 go_enter Try.func111, Try.ntmps111
 go_wp2_with (first | ((with_reducible refine gate_dst (N := 3) rfl ?_); refine bx (N := 3) (cs := #[.int .i64 26, .int .i64 arg]) (t := 68) ?_; intro g hg w1 hbox hb; have HC := Aside0.mk (blk_below HC0.out hb); have HG := Aside0.mk hbox; have HB1 := Aside0.mk hb; have hb1 : w1.cell? ⟨g, 0, none⟩ = some (.int .i64 26) := (blk_cell hbox 0).trans rfl; have hb2 : w1.cell? ⟨g, 1, none⟩ = some (.int .i64 arg) := (blk_cell hbox 1).trans rfl; clear HC0 hb hbox hg; obtain ⟨⟨y0, y1, y2, y3, y4, y5, y6, y7⟩, ⟨fy0, fy1, fy2, fy3, fy4, fy5, fy6, fy7⟩⟩ := cells8 (HC.out)))
 go_ret
 exact ⟨rfl, blk_put HC.out 7 _ rfl, kept1 (KeptC.of_below HB1.out) _ _⟩
set_option maxRecDepth 100000 in
set_option maxHeartbeats 4000000 in
theorem turn_27 {w : World} {c : Nat} {A X S P : Int} {Z N C I : Bool} (hc : w.heap[c]? = some (.cells #[.int .i64 A, .int .i64 X, .int .i64 S, .int .i64 P, .bool Z, .bool N, .bool C, .bool I] 38 (0, 0))) (arg : Int) :
  Calls Try.prog 111 #[.pointer (some ⟨c, 0, none⟩), .agg #[.int .i64 27, .int .i64 arg]] w fun e w' => e = .returned (.bool true) ∧ w'.heap[c]? = some (.cells (⟨A, X, S, P, Z, N, true, I⟩ : Cp).cells 38 (0, 0)) ∧ KeptC w w' c := by
 have hu38 := Try.underlying38
 have hu68 := Try.underlying68
 have HC0 := Aside0.mk hc
 clear hc
 go_enter Try.func111, Try.ntmps111
 go_wp2_with (first | ((with_reducible refine gate_dst (N := 3) rfl ?_); refine bx (N := 3) (cs := #[.int .i64 27, .int .i64 arg]) (t := 68) ?_; intro g hg w1 hbox hb; have HC := Aside0.mk (blk_below HC0.out hb); have HG := Aside0.mk hbox; have HB1 := Aside0.mk hb; have hb1 : w1.cell? ⟨g, 0, none⟩ = some (.int .i64 27) := (blk_cell hbox 0).trans rfl; have hb2 : w1.cell? ⟨g, 1, none⟩ = some (.int .i64 arg) := (blk_cell hbox 1).trans rfl; clear HC0 hb hbox hg; obtain ⟨⟨y0, y1, y2, y3, y4, y5, y6, y7⟩, ⟨fy0, fy1, fy2, fy3, fy4, fy5, fy6, fy7⟩⟩ := cells8 (HC.out)))
 go_ret
 exact ⟨rfl, blk_put HC.out 6 _ rfl, kept1 (KeptC.of_below HB1.out) _ _⟩
set_option maxRecDepth 100000 in
set_option maxHeartbeats 4000000 in
theorem turn_28 {w : World} {c : Nat} {A X S P : Int} {Z N C I : Bool} (hc : w.heap[c]? = some (.cells #[.int .i64 A, .int .i64 X, .int .i64 S, .int .i64 P, .bool Z, .bool N, .bool C, .bool I] 38 (0, 0))) (arg : Int) :
  Calls Try.prog 111 #[.pointer (some ⟨c, 0, none⟩), .agg #[.int .i64 28, .int .i64 arg]] w fun e w' => e = .returned (.bool true) ∧ w'.heap[c]? = some (.cells (⟨A, X, S, P, Z, N, false, I⟩ : Cp).cells 38 (0, 0)) ∧ KeptC w w' c := by
 have hu38 := Try.underlying38
 have hu68 := Try.underlying68
 have HC0 := Aside0.mk hc
 clear hc
 go_enter Try.func111, Try.ntmps111
 go_wp2_with (first | ((with_reducible refine gate_dst (N := 3) rfl ?_); refine bx (N := 3) (cs := #[.int .i64 28, .int .i64 arg]) (t := 68) ?_; intro g hg w1 hbox hb; have HC := Aside0.mk (blk_below HC0.out hb); have HG := Aside0.mk hbox; have HB1 := Aside0.mk hb; have hb1 : w1.cell? ⟨g, 0, none⟩ = some (.int .i64 28) := (blk_cell hbox 0).trans rfl; have hb2 : w1.cell? ⟨g, 1, none⟩ = some (.int .i64 arg) := (blk_cell hbox 1).trans rfl; clear HC0 hb hbox hg; obtain ⟨⟨y0, y1, y2, y3, y4, y5, y6, y7⟩, ⟨fy0, fy1, fy2, fy3, fy4, fy5, fy6, fy7⟩⟩ := cells8 (HC.out)))
 go_ret
 exact ⟨rfl, blk_put HC.out 6 _ rfl, kept1 (KeptC.of_below HB1.out) _ _⟩
set_option maxRecDepth 100000 in
set_option maxHeartbeats 4000000 in
theorem turn_no {w : World} {c : Nat} {A X S P : Int} {Z N C I : Bool} (hc : w.heap[c]? = some (.cells #[.int .i64 A, .int .i64 X, .int .i64 S, .int .i64 P, .bool Z, .bool N, .bool C, .bool I] 38 (0, 0))) (op arg : Int) (n10 : (op == 10) = false) (n11 : (op == 11) = false) (n12 : (op == 12) = false) (n13 : (op == 13) = false) (n25 : (op == 25) = false) (n26 : (op == 26) = false) (n27 : (op == 27) = false) (n28 : (op == 28) = false) :
  Calls Try.prog 111 #[.pointer (some ⟨c, 0, none⟩), .agg #[.int .i64 op, .int .i64 arg]] w fun e w' => e = .returned (.bool false) ∧ w'.heap[c]? = some (.cells (⟨A, X, S, P, Z, N, C, I⟩ : Cp).cells 38 (0, 0)) ∧ KeptC w w' c := by
 have hu38 := Try.underlying38
 have hu68 := Try.underlying68
 have HC0 := Aside0.mk hc
 clear hc
 go_enter Try.func111, Try.ntmps111
 go_wp2_with (first | ((with_reducible refine gate_dst (N := 3) rfl ?_); refine bx (N := 3) (cs := #[.int .i64 op, .int .i64 arg]) (t := 68) ?_; intro g hg w1 hbox hb; have HC := Aside0.mk (blk_below HC0.out hb); have HG := Aside0.mk hbox; have HB1 := Aside0.mk hb; have hb1 : w1.cell? ⟨g, 0, none⟩ = some (.int .i64 op) := (blk_cell hbox 0).trans rfl; have hb2 : w1.cell? ⟨g, 1, none⟩ = some (.int .i64 arg) := (blk_cell hbox 1).trans rfl; clear HC0 hb hbox hg; obtain ⟨⟨y0, y1, y2, y3, y4, y5, y6, y7⟩, ⟨fy0, fy1, fy2, fy3, fy4, fy5, fy6, fy7⟩⟩ := cells8 (HC.out)))
 go_ret
 exact ⟨rfl, HC.out, KeptC.of_below HB1.out⟩
def turnF (k : Cp) (op : Int) : Cp × Bool := if op = 10 then (setXK k k.A, true) else if op = 11 then (setAK k k.X, true) else if op = 12 then (setXK k (wrap64 (k.X + 1)), true) else if op = 13 then (setXK k (wrap64 (k.X - 1)), true) else if op = 25 then ({ k with I := true }, true) else if op = 26 then ({ k with I := false }, true) else if op = 27 then ({ k with C := true }, true) else if op = 28 then ({ k with C := false }, true) else (k, false)
theorem turn_calls {w : World} {c : Nat} {k : Cp} (hc : w.heap[c]? = some (.cells k.cells 38 (0, 0))) (op arg : Int) :
  Calls Try.prog 111 #[.pointer (some ⟨c, 0, none⟩), .agg #[.int .i64 op, .int .i64 arg]] w fun e w' => e = .returned (.bool (turnF k op).2) ∧ w'.heap[c]? = some (.cells (turnF k op).1.cells 38 (0, 0)) ∧ KeptC w w' c := by
 obtain ⟨A, X, S, P, Z, N, C, I⟩ := k
 unfold turnF
 by_cases h10 : op = 10
 ·rw [if_pos h10, h10]
  exact turn_10 hc arg
 rw [if_neg h10]
 by_cases h11 : op = 11
 ·rw [if_pos h11, h11]
  exact turn_11 hc arg
 rw [if_neg h11]
 by_cases h12 : op = 12
 ·rw [if_pos h12, h12]
  exact turn_12 hc arg
 rw [if_neg h12]
 by_cases h13 : op = 13
 ·rw [if_pos h13, h13]
  exact turn_13 hc arg
 rw [if_neg h13]
 by_cases h25 : op = 25
 ·rw [if_pos h25, h25]
  exact turn_25 hc arg
 rw [if_neg h25]
 by_cases h26 : op = 26
 ·rw [if_pos h26, h26]
  exact turn_26 hc arg
 rw [if_neg h26]
 by_cases h27 : op = 27
 ·rw [if_pos h27, h27]
  exact turn_27 hc arg
 rw [if_neg h27]
 by_cases h28 : op = 28
 ·rw [if_pos h28, h28]
  exact turn_28 hc arg
 rw [if_neg h28]
 exact turn_no hc op arg (beq_eq_false_iff_ne.mpr h10) (beq_eq_false_iff_ne.mpr h11) (beq_eq_false_iff_ne.mpr h12) (beq_eq_false_iff_ne.mpr h13) (beq_eq_false_iff_ne.mpr h25) (beq_eq_false_iff_ne.mpr h26) (beq_eq_false_iff_ne.mpr h27) (beq_eq_false_iff_ne.mpr h28)

end Go.Proofs.Ytmiaocoffmobcaa.MFnExactExec
