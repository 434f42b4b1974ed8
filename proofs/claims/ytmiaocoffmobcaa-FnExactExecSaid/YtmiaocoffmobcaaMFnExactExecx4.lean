/- Walks of functions that the law FnExactExec reaches: each comes to just what its Lean function says. (Begun as the texts that print.sh wrote for this claim; some of them, and those that it does not write, are mine.) No condition. -/
import Derived.Test.YtmiaocoffmobcaaMFnExactExecx3
namespace Go.Proofs.Ytmiaocoffmobcaa.MFnExactExec
open Go.RowKit Go.Proofs.YtmiaocoffmobcaaW.PrintWords Go.Proofs.YtmiaocoffmobcaaW.PrintLast Go.Proofs.YtmiaocoffmobcaaW.PrintMore
attribute [local go_sem] max2_int min2_int max_two min_two max_three min_three max_four min_four   -- for this text's walks alone
set_option linter.unusedVariables false
set_option linter.unusedSimpArgs false

/-! ### spec_l7Alu (mine) -/
theorem sbyte_ex (a : Int) : ∃ q, spec_Byte.f a = some q ∧ a % 256 = q := by
 refine ⟨_, ?_, rfl⟩
 unfold spec_Byte.f
 rw [and255]
theorem seta_sx (k : Cp) (v : Int) : ∃ s1 sz sn, spec_SetA.f k.A k.X k.S k.P k.Z k.N k.C k.I v = some (s1, k.X, k.S, k.P, sz, sn, k.C, k.I) ∧ setAK k v = ⟨s1, k.X, k.S, k.P, sz, sn, k.C, k.I⟩ := by
 refine ⟨_, _, _, ?_, rfl⟩
 unfold spec_SetA.f spec_Signs.f spec_Byte.f
 simp only [Option.bind_some, and255]
theorem setx_sx (k : Cp) (v : Int) : ∃ s1 sz sn, spec_SetX.f k.A k.X k.S k.P k.Z k.N k.C k.I v = some (k.A, s1, k.S, k.P, sz, sn, k.C, k.I) ∧ setXK k v = ⟨k.A, s1, k.S, k.P, sz, sn, k.C, k.I⟩ := by
 refine ⟨_, _, _, ?_, rfl⟩
 unfold spec_SetX.f spec_Signs.f spec_Byte.f
 simp only [Option.bind_some, and255]
theorem sadd8_is (a b : Int) (c : Bool) : spec_Add8.f a b c = impl_Add8.f a b c := by
 unfold spec_Add8.f impl_Add8.f spec_Byte.f impl_Byte.f spec_l1Bit.f impl_flag.f
 rfl
theorem saddK_ex (k : Cp) (v : Int) : ∃ sm cy s1 sz sn, spec_Add8.f k.A v k.C = some (sm, cy) ∧ spec_SetA.f k.A k.X k.S k.P k.Z k.N k.C k.I sm = some (s1, k.X, k.S, k.P, sz, sn, k.C, k.I) ∧ addK k v = ⟨s1, k.X, k.S, k.P, sz, sn, cy, k.I⟩ := by
 obtain ⟨sm, cy, h⟩ := add8_ex k.A v k.C
 obtain ⟨s1, sz, sn, hf, ek⟩ := seta_sx k sm
 refine ⟨sm, cy, s1, sz, sn, (sadd8_is _ _ _).trans h, hf, ?_⟩
 unfold addK
 rw [h, Option.getD_some, ek]
def subS (k : Cp) (v : Int) : Cp := { setAK k ((spec_Sub8.f k.A v k.C).getD (0, false)).1 with C := ((spec_Sub8.f k.A v k.C).getD (0, false)).2 }
theorem ssubK_ex (k : Cp) (v : Int) : ∃ sm cy s1 sz sn, spec_Sub8.f k.A v k.C = some (sm, cy) ∧ spec_SetA.f k.A k.X k.S k.P k.Z k.N k.C k.I sm = some (s1, k.X, k.S, k.P, sz, sn, k.C, k.I) ∧ subS k v = ⟨s1, k.X, k.S, k.P, sz, sn, cy, k.I⟩ := by
 obtain ⟨sm, cy, h⟩ : ∃ s q, spec_Sub8.f k.A v k.C = some (s, q) := by
  unfold spec_Sub8.f spec_Byte.f spec_l1Bit.f
  cases k.C <;> exact ⟨_, _, rfl⟩
 obtain ⟨s1, sz, sn, hf, ek⟩ := seta_sx k sm
 refine ⟨sm, cy, s1, sz, sn, h, hf, ?_⟩
 unfold subS
 rw [h, Option.getD_some, ek]
theorem ssigns_ex (a : Int) : ∃ z n, spec_Signs.f a = some (z, n) ∧ (a % 256 == 0) = z ∧ decide (a % 256 > 127) = n := by
 refine ⟨_, _, ?_, rfl, rfl⟩
 unfold spec_Signs.f spec_Byte.f
 simp only [Option.bind_some, and255]
def andS (k : Cp) (v : Int) : Cp := setAK k (Go.bits .and .i64 (k.A % 256) (v % 256))
def orS (k : Cp) (v : Int) : Cp := setAK k (Go.bits .or .i64 (k.A % 256) (v % 256))
def xorS (k : Cp) (v : Int) : Cp := setAK k (Go.bits .xor .i64 (k.A % 256) (v % 256))
def incS (k : Cp) : Cp := setXK k (wrap64 (k.X % 256 + 1))
def decS (k : Cp) : Cp := setXK k (wrap64 (k.X % 256 - 1))
def cmpS (k : Cp) (v : Int) : Cp := { k with Z := wrap64 (k.A % 256 - v % 256) % 256 == 0, N := decide (wrap64 (k.A % 256 - v % 256) % 256 > 127), C := decide (k.A % 256 ≥ v % 256) }
theorem far9 {w : World} {r g : Nat} {o : Obj} (h : w.heap[g]? = some o) (hn : g ≠ r) (u0 u1 u2 u3 u4 u5 u6 u7 u8 : Value) :
  ((((((((((w.setCell ⟨r, 0, none⟩ u0).setCell ⟨r, 1, none⟩ u1).setCell ⟨r, 2, none⟩ u2).setCell ⟨r, 3, none⟩ u3).setCell ⟨r, 4, none⟩ u4).setCell ⟨r, 5, none⟩ u5).setCell ⟨r, 6, none⟩ u6).setCell ⟨r, 7, none⟩ u7).setCell ⟨r, 6, none⟩ u8).heap)[g]? = some o :=
 ((Below.heap_setCell _ _ _ g hn).trans (heap8 _ _ g _ _ _ _ _ _ _ _ hn)).trans h
set_option maxRecDepth 100000 in
set_option maxHeartbeats 4000000 in
theorem sadd_calls (A X S P : Int) (Z N C I : Bool) (v : Int) (s1 : Int) (sz sn cy : Bool) (sm : Int) (ha : spec_Add8.f A v C = some (sm, cy)) (hf : spec_SetA.f A X S P Z N C I sm = some (s1, X, S, P, sz, sn, C, I)) (w : World) :
  Calls Try.prog 105 #[.agg #[.int .i64 A, .int .i64 X, .int .i64 S, .int .i64 P, .bool Z, .bool N, .bool C, .bool I], .int .i64 v] w fun e w' => e = .returned (.agg #[.int .i64 s1, .int .i64 X, .int .i64 S, .int .i64 P, .bool sz, .bool sn, .bool cy, .bool I]) ∧ Below w.heap.size w w' := by
 have hu38 := Try.underlying38
 have HA := Aside0.mk ha
 have HF := Aside0.mk hf
 clear ha hf
 go_enter Try.func105, Try.ntmps105
 go_upto_region 4 with (first | ((with_reducible refine gate_dst (N := 2) rfl ?_); refine bx (N := 2) (cs := #[.int .i64 A, .int .i64 X, .int .i64 S, .int .i64 P, .bool Z, .bool N, .bool C, .bool I]) (t := 38) ?_; intro g3 hg w1 hbox hb; have A3 := Aside0.mk hbox; have HB := Aside0.mk (below_step (Below.refl w.heap.size w) hb); have G3 : Aside0 (w.heap.size ≤ g3) := ⟨by rw [hg]; exact Nat.le_refl _⟩; clear hbox hb hg) | ((with_reducible refine gate_dst (N := 4) rfl ?_); refine bx (N := 4) (cs := #[.int .i64 0, .int .i64 0, .int .i64 0, .int .i64 0, .bool false, .bool false, .bool false, .bool false]) (t := 38) ?_; intro g6 hg w3 hbox hb; have n3 : g3 ≠ g6 := (by rw [hg]; exact Nat.ne_of_lt (blk_lt A3.out)); have n6 : g6 ≠ g3 := Ne.symm n3; have NE := Aside0.mk n6; have HC := Aside0.mk (blk_below A3.out hb); have HR := Aside0.mk hbox; have G6 : Aside0 (w.heap.size ≤ g6) := ⟨by rw [hg]; exact below_size HB.out⟩; have HB2 := Aside0.mk (below_step HB.out hb); clear hbox hb hg A3 HB; have HB := HB2; clear HB2; obtain ⟨⟨y0, y1, y2, y3, y4, y5, y6, y7⟩, ⟨fy0, fy1, fy2, fy3, fy4, fy5, fy6, fy7⟩⟩ := cells8 (HC.out); obtain ⟨⟨r0, r1, r2, r3, r4, r5, r6, r7⟩, ⟨fr0, fr1, fr2, fr3, fr4, fr5, fr6, fr7⟩⟩ := cells8 (HR.out)) | (go_at_call 113; refine (spec_Add8.calls A v C sm cy _ HA.out).mono ?_; rintro e w4 ⟨rfl, nd, rfl⟩) | (go_at_call 96; refine (spec_SetA.calls A X S P Z N C I _ s1 X S P sz sn C I _ HF.out).mono ?_; rintro e w5 ⟨rfl, hb⟩; have HC2 := Aside0.mk (blk_below (w := w3.drewN nd) HC.out hb); have HR2 := Aside0.mk (blk_below (w := w3.drewN nd) HR.out hb); have HB2 := Aside0.mk (below_step (pw_below_drewN HB.out nd) hb); clear hb; obtain ⟨⟨u0, u1, u2, u3, u4, u5, u6, u7⟩, ⟨fu0, fu1, fu2, fu3, fu4, fu5, fu6, fu7⟩⟩ := cells8 (HC2.out); obtain ⟨⟨sc0, sc1, sc2, sc3, sc4, sc5, sc6, sc7⟩, ⟨fsc0, fsc1, fsc2, fsc3, fsc4, fsc5, fsc6, fsc7⟩⟩ := cells8 (HR2.out)))
 have HC3 : Aside0 ((((((((((w5.setCell ⟨g3, 0, none⟩ (.int .i64 s1)).setCell ⟨g3, 1, none⟩ (.int .i64 X)).setCell ⟨g3, 2, none⟩ (.int .i64 S)).setCell ⟨g3, 3, none⟩ (.int .i64 P)).setCell ⟨g3, 4, none⟩ (.bool sz)).setCell ⟨g3, 5, none⟩ (.bool sn)).setCell ⟨g3, 6, none⟩ (.bool C)).setCell ⟨g3, 7, none⟩ (.bool I)).setCell ⟨g3, 6, none⟩ (.bool cy)).heap[g3]? = some (.cells #[.int .i64 s1, .int .i64 X, .int .i64 S, .int .i64 P, .bool sz, .bool sn, .bool cy, .bool I] 38 (0, 0))) := ⟨blk_put (put8 HC2.out _ _ _ _ _ _ _ _) 6 _ rfl⟩
 have HR3 : Aside0 ((((((((((w5.setCell ⟨g3, 0, none⟩ (.int .i64 s1)).setCell ⟨g3, 1, none⟩ (.int .i64 X)).setCell ⟨g3, 2, none⟩ (.int .i64 S)).setCell ⟨g3, 3, none⟩ (.int .i64 P)).setCell ⟨g3, 4, none⟩ (.bool sz)).setCell ⟨g3, 5, none⟩ (.bool sn)).setCell ⟨g3, 6, none⟩ (.bool C)).setCell ⟨g3, 7, none⟩ (.bool I)).setCell ⟨g3, 6, none⟩ (.bool cy)).heap[g6]? = some (.cells #[.int .i64 0, .int .i64 0, .int .i64 0, .int .i64 0, .bool false, .bool false, .bool false, .bool false] 38 (0, 0))) := ⟨far9 HR2.out NE.out _ _ _ _ _ _ _ _ _⟩
 have HB3 : Aside0 (Below w.heap.size w (((((((((w5.setCell ⟨g3, 0, none⟩ (.int .i64 s1)).setCell ⟨g3, 1, none⟩ (.int .i64 X)).setCell ⟨g3, 2, none⟩ (.int .i64 S)).setCell ⟨g3, 3, none⟩ (.int .i64 P)).setCell ⟨g3, 4, none⟩ (.bool sz)).setCell ⟨g3, 5, none⟩ (.bool sn)).setCell ⟨g3, 6, none⟩ (.bool C)).setCell ⟨g3, 7, none⟩ (.bool I)).setCell ⟨g3, 6, none⟩ (.bool cy))) := ⟨below_set (below8 HB2.out G3.out _ _ _ _ _ _ _ _) G3.out⟩
 generalize (((((((((w5.setCell ⟨g3, 0, none⟩ (.int .i64 s1)).setCell ⟨g3, 1, none⟩ (.int .i64 X)).setCell ⟨g3, 2, none⟩ (.int .i64 S)).setCell ⟨g3, 3, none⟩ (.int .i64 P)).setCell ⟨g3, 4, none⟩ (.bool sz)).setCell ⟨g3, 5, none⟩ (.bool sn)).setCell ⟨g3, 6, none⟩ (.bool C)).setCell ⟨g3, 7, none⟩ (.bool I)).setCell ⟨g3, 6, none⟩ (.bool cy)) = w6 at HC3 HR3 HB3 ⊢
 obtain ⟨⟨wc0, wc1, wc2, wc3, wc4, wc5, wc6, wc7⟩, ⟨fwc0, fwc1, fwc2, fwc3, fwc4, fwc5, fwc6, fwc7⟩⟩ := cells8 (HC3.out)
 obtain ⟨⟨wr0, wr1, wr2, wr3, wr4, wr5, wr6, wr7⟩, ⟨fwr0, fwr1, fwr2, fwr3, fwr4, fwr5, fwr6, fwr7⟩⟩ := cells8 (HR3.out)
 go_wp2
 refine bodyPost_ret (results_cell_row rfl _ _ g6 38 #[.int .i64 s1, .int .i64 X, .int .i64 S, .int .i64 P, .bool sz, .bool sn, .bool cy, .bool I] (0, 0) _ rfl (put8 HR3.out _ _ _ _ _ _ _ _) hu38 rfl (by kernel_rfl)) rfl ?_
 exact ⟨rfl, below8 HB3.out G6.out _ _ _ _ _ _ _ _⟩
theorem sadd_ex (k : Cp) (v : Int) : ∃ s1 sz sn cy, (∀ w : World, Calls Try.prog 105 #[.agg k.cells, .int .i64 v] w fun e w' => e = .returned (.agg #[.int .i64 s1, .int .i64 k.X, .int .i64 k.S, .int .i64 k.P, .bool sz, .bool sn, .bool cy, .bool k.I]) ∧ Below w.heap.size w w') ∧ addK k v = ⟨s1, k.X, k.S, k.P, sz, sn, cy, k.I⟩ := by
 obtain ⟨sm, cy, s1, sz, sn, ha, hf, e⟩ := saddK_ex k v
 exact ⟨s1, sz, sn, cy, fun w => sadd_calls _ _ _ _ _ _ _ _ _ _ _ _ _ _ ha hf w, e⟩
set_option maxRecDepth 100000 in
set_option maxHeartbeats 4000000 in
theorem alu_1 (A X S P : Int) (Z N C I : Bool) (arg v : Int) (w : World) :
  Calls Try.prog 93 #[.agg #[.int .i64 A, .int .i64 X, .int .i64 S, .int .i64 P, .bool Z, .bool N, .bool C, .bool I], .agg #[.int .i64 1, .int .i64 arg], .int .i64 v] w fun e w' => e = .returned (.tuple #[.agg (setAK (⟨A, X, S, P, Z, N, C, I⟩ : Cp) arg).cells, .bool true]) ∧ Below w.heap.size w w' := by
 obtain ⟨s1, sz, sn, hf, ek⟩ := seta_sx (⟨A, X, S, P, Z, N, C, I⟩ : Cp) arg
 rw [ek]
 clear ek
 have HF := Aside0.mk hf
 clear hf
 have hu38 := Try.underlying38
 have hu68 := Try.underlying68
 go_enter Try.func93, Try.ntmps93
 go_wp2_with (first | ((with_reducible refine gate_dst (N := 3) rfl ?_); refine bx (N := 3) (cs := #[.int .i64 A, .int .i64 X, .int .i64 S, .int .i64 P, .bool Z, .bool N, .bool C, .bool I]) (t := 38) ?_; intro g3 hg w1 hbox hb; have A3 := Aside0.mk hbox; have HB := Aside0.mk (below_step (Below.refl w.heap.size w) hb); have G3 : Aside0 (w.heap.size ≤ g3) := ⟨by rw [hg]; exact Nat.le_refl _⟩; clear hbox hb hg) | ((with_reducible refine gate_dst (N := 4) rfl ?_); refine bx (N := 4) (cs := #[.int .i64 1, .int .i64 arg]) (t := 68) ?_; intro g4 hg w2 hbox hb; have B3 := Aside0.mk (blk_below A3.out hb); have B4 := Aside0.mk hbox; have HB2 := Aside0.mk (below_step HB.out hb); clear hbox hb hg A3 HB; have HB := HB2; clear HB2) | ((with_reducible refine gate_dst (N := 6) rfl ?_); refine bx (N := 6) (cs := #[.int .i64 0, .int .i64 0, .int .i64 0, .int .i64 0, .bool false, .bool false, .bool false, .bool false]) (t := 38) ?_; intro g6 hg w3 hbox hb; have n3 : g3 ≠ g6 := (by rw [hg]; exact Nat.ne_of_lt (blk_lt B3.out)); have n6 : g6 ≠ g3 := Ne.symm n3; have NE := Aside0.mk n6; have HC := Aside0.mk (blk_below B3.out hb); have HG := Aside0.mk (blk_below B4.out hb); have HR := Aside0.mk hbox; have G6 : Aside0 (w.heap.size ≤ g6) := ⟨by rw [hg]; exact below_size HB.out⟩; have HB2 := Aside0.mk (below_step HB.out hb); clear hbox hb hg B3 B4 HB; have HB := HB2; clear HB2; obtain ⟨⟨y0, y1, y2, y3, y4, y5, y6, y7⟩, ⟨fy0, fy1, fy2, fy3, fy4, fy5, fy6, fy7⟩⟩ := cells8 (HC.out); have z0 : w3.cell? ⟨g4, 0, none⟩ = some (.int .i64 1) := (blk_cell HG.out 0).trans rfl; have z1 : w3.cell? ⟨g4, 1, none⟩ = some (.int .i64 arg) := (blk_cell HG.out 1).trans rfl; obtain ⟨⟨r0, r1, r2, r3, r4, r5, r6, r7⟩, ⟨fr0, fr1, fr2, fr3, fr4, fr5, fr6, fr7⟩⟩ := cells8 (HR.out)) | (go_at_call 96; refine (spec_SetA.calls A X S P Z N C I _ s1 X S P sz sn C I _ HF.out).mono ?_; rintro e w4 ⟨rfl, hb⟩; have HR2 := Aside0.mk (blk_below HR.out hb); have HB2 := Aside0.mk (below_step HB.out hb); clear hb; obtain ⟨⟨sc0, sc1, sc2, sc3, sc4, sc5, sc6, sc7⟩, ⟨fsc0, fsc1, fsc2, fsc3, fsc4, fsc5, fsc6, fsc7⟩⟩ := cells8 (HR2.out)))
 refine bodyPost_ret (results_ct rfl _ _ g6 38 #[.int .i64 s1, .int .i64 X, .int .i64 S, .int .i64 P, .bool sz, .bool sn, .bool C, .bool I] (0, 0) _ rfl (put8 HR2.out _ _ _ _ _ _ _ _) hu38 rfl (by kernel_rfl)) rfl ?_
 exact ⟨rfl, below8 HB2.out G6.out _ _ _ _ _ _ _ _⟩
set_option maxRecDepth 100000 in
set_option maxHeartbeats 4000000 in
theorem alu_2 (A X S P : Int) (Z N C I : Bool) (arg v : Int) (w : World) :
  Calls Try.prog 93 #[.agg #[.int .i64 A, .int .i64 X, .int .i64 S, .int .i64 P, .bool Z, .bool N, .bool C, .bool I], .agg #[.int .i64 2, .int .i64 arg], .int .i64 v] w fun e w' => e = .returned (.tuple #[.agg (setAK (⟨A, X, S, P, Z, N, C, I⟩ : Cp) v).cells, .bool true]) ∧ Below w.heap.size w w' := by
 obtain ⟨s1, sz, sn, hf, ek⟩ := seta_sx (⟨A, X, S, P, Z, N, C, I⟩ : Cp) v
 rw [ek]
 clear ek
 have HF := Aside0.mk hf
 clear hf
 have hu38 := Try.underlying38
 have hu68 := Try.underlying68
 go_enter Try.func93, Try.ntmps93
 go_wp2_with (first | ((with_reducible refine gate_dst (N := 3) rfl ?_); refine bx (N := 3) (cs := #[.int .i64 A, .int .i64 X, .int .i64 S, .int .i64 P, .bool Z, .bool N, .bool C, .bool I]) (t := 38) ?_; intro g3 hg w1 hbox hb; have A3 := Aside0.mk hbox; have HB := Aside0.mk (below_step (Below.refl w.heap.size w) hb); have G3 : Aside0 (w.heap.size ≤ g3) := ⟨by rw [hg]; exact Nat.le_refl _⟩; clear hbox hb hg) | ((with_reducible refine gate_dst (N := 4) rfl ?_); refine bx (N := 4) (cs := #[.int .i64 2, .int .i64 arg]) (t := 68) ?_; intro g4 hg w2 hbox hb; have B3 := Aside0.mk (blk_below A3.out hb); have B4 := Aside0.mk hbox; have HB2 := Aside0.mk (below_step HB.out hb); clear hbox hb hg A3 HB; have HB := HB2; clear HB2) | ((with_reducible refine gate_dst (N := 6) rfl ?_); refine bx (N := 6) (cs := #[.int .i64 0, .int .i64 0, .int .i64 0, .int .i64 0, .bool false, .bool false, .bool false, .bool false]) (t := 38) ?_; intro g6 hg w3 hbox hb; have n3 : g3 ≠ g6 := (by rw [hg]; exact Nat.ne_of_lt (blk_lt B3.out)); have n6 : g6 ≠ g3 := Ne.symm n3; have NE := Aside0.mk n6; have HC := Aside0.mk (blk_below B3.out hb); have HG := Aside0.mk (blk_below B4.out hb); have HR := Aside0.mk hbox; have G6 : Aside0 (w.heap.size ≤ g6) := ⟨by rw [hg]; exact below_size HB.out⟩; have HB2 := Aside0.mk (below_step HB.out hb); clear hbox hb hg B3 B4 HB; have HB := HB2; clear HB2; obtain ⟨⟨y0, y1, y2, y3, y4, y5, y6, y7⟩, ⟨fy0, fy1, fy2, fy3, fy4, fy5, fy6, fy7⟩⟩ := cells8 (HC.out); have z0 : w3.cell? ⟨g4, 0, none⟩ = some (.int .i64 2) := (blk_cell HG.out 0).trans rfl; have z1 : w3.cell? ⟨g4, 1, none⟩ = some (.int .i64 arg) := (blk_cell HG.out 1).trans rfl; obtain ⟨⟨r0, r1, r2, r3, r4, r5, r6, r7⟩, ⟨fr0, fr1, fr2, fr3, fr4, fr5, fr6, fr7⟩⟩ := cells8 (HR.out)) | (go_at_call 96; refine (spec_SetA.calls A X S P Z N C I _ s1 X S P sz sn C I _ HF.out).mono ?_; rintro e w4 ⟨rfl, hb⟩; have HR2 := Aside0.mk (blk_below HR.out hb); have HB2 := Aside0.mk (below_step HB.out hb); clear hb; obtain ⟨⟨sc0, sc1, sc2, sc3, sc4, sc5, sc6, sc7⟩, ⟨fsc0, fsc1, fsc2, fsc3, fsc4, fsc5, fsc6, fsc7⟩⟩ := cells8 (HR2.out)))
 refine bodyPost_ret (results_ct rfl _ _ g6 38 #[.int .i64 s1, .int .i64 X, .int .i64 S, .int .i64 P, .bool sz, .bool sn, .bool C, .bool I] (0, 0) _ rfl (put8 HR2.out _ _ _ _ _ _ _ _) hu38 rfl (by kernel_rfl)) rfl ?_
 exact ⟨rfl, below8 HB2.out G6.out _ _ _ _ _ _ _ _⟩
set_option maxRecDepth 100000 in
set_option maxHeartbeats 4000000 in
theorem alu_14 (A X S P : Int) (Z N C I : Bool) (arg v : Int) (w : World) :
  Calls Try.prog 93 #[.agg #[.int .i64 A, .int .i64 X, .int .i64 S, .int .i64 P, .bool Z, .bool N, .bool C, .bool I], .agg #[.int .i64 14, .int .i64 arg], .int .i64 v] w fun e w' => e = .returned (.tuple #[.agg (setAK (⟨A, X, S, P, Z, N, C, I⟩ : Cp) v).cells, .bool true]) ∧ Below w.heap.size w w' := by
 obtain ⟨s1, sz, sn, hf, ek⟩ := seta_sx (⟨A, X, S, P, Z, N, C, I⟩ : Cp) v
 rw [ek]
 clear ek
 have HF := Aside0.mk hf
 clear hf
 have hu38 := Try.underlying38
 have hu68 := Try.underlying68
 go_enter Try.func93, Try.ntmps93
 go_wp2_with (first | ((with_reducible refine gate_dst (N := 3) rfl ?_); refine bx (N := 3) (cs := #[.int .i64 A, .int .i64 X, .int .i64 S, .int .i64 P, .bool Z, .bool N, .bool C, .bool I]) (t := 38) ?_; intro g3 hg w1 hbox hb; have A3 := Aside0.mk hbox; have HB := Aside0.mk (below_step (Below.refl w.heap.size w) hb); have G3 : Aside0 (w.heap.size ≤ g3) := ⟨by rw [hg]; exact Nat.le_refl _⟩; clear hbox hb hg) | ((with_reducible refine gate_dst (N := 4) rfl ?_); refine bx (N := 4) (cs := #[.int .i64 14, .int .i64 arg]) (t := 68) ?_; intro g4 hg w2 hbox hb; have B3 := Aside0.mk (blk_below A3.out hb); have B4 := Aside0.mk hbox; have HB2 := Aside0.mk (below_step HB.out hb); clear hbox hb hg A3 HB; have HB := HB2; clear HB2) | ((with_reducible refine gate_dst (N := 6) rfl ?_); refine bx (N := 6) (cs := #[.int .i64 0, .int .i64 0, .int .i64 0, .int .i64 0, .bool false, .bool false, .bool false, .bool false]) (t := 38) ?_; intro g6 hg w3 hbox hb; have n3 : g3 ≠ g6 := (by rw [hg]; exact Nat.ne_of_lt (blk_lt B3.out)); have n6 : g6 ≠ g3 := Ne.symm n3; have NE := Aside0.mk n6; have HC := Aside0.mk (blk_below B3.out hb); have HG := Aside0.mk (blk_below B4.out hb); have HR := Aside0.mk hbox; have G6 : Aside0 (w.heap.size ≤ g6) := ⟨by rw [hg]; exact below_size HB.out⟩; have HB2 := Aside0.mk (below_step HB.out hb); clear hbox hb hg B3 B4 HB; have HB := HB2; clear HB2; obtain ⟨⟨y0, y1, y2, y3, y4, y5, y6, y7⟩, ⟨fy0, fy1, fy2, fy3, fy4, fy5, fy6, fy7⟩⟩ := cells8 (HC.out); have z0 : w3.cell? ⟨g4, 0, none⟩ = some (.int .i64 14) := (blk_cell HG.out 0).trans rfl; have z1 : w3.cell? ⟨g4, 1, none⟩ = some (.int .i64 arg) := (blk_cell HG.out 1).trans rfl; obtain ⟨⟨r0, r1, r2, r3, r4, r5, r6, r7⟩, ⟨fr0, fr1, fr2, fr3, fr4, fr5, fr6, fr7⟩⟩ := cells8 (HR.out)) | (go_at_call 96; refine (spec_SetA.calls A X S P Z N C I _ s1 X S P sz sn C I _ HF.out).mono ?_; rintro e w4 ⟨rfl, hb⟩; have HR2 := Aside0.mk (blk_below HR.out hb); have HB2 := Aside0.mk (below_step HB.out hb); clear hb; obtain ⟨⟨sc0, sc1, sc2, sc3, sc4, sc5, sc6, sc7⟩, ⟨fsc0, fsc1, fsc2, fsc3, fsc4, fsc5, fsc6, fsc7⟩⟩ := cells8 (HR2.out)))
 refine bodyPost_ret (results_ct rfl _ _ g6 38 #[.int .i64 s1, .int .i64 X, .int .i64 S, .int .i64 P, .bool sz, .bool sn, .bool C, .bool I] (0, 0) _ rfl (put8 HR2.out _ _ _ _ _ _ _ _) hu38 rfl (by kernel_rfl)) rfl ?_
 exact ⟨rfl, below8 HB2.out G6.out _ _ _ _ _ _ _ _⟩
set_option maxRecDepth 100000 in
set_option maxHeartbeats 4000000 in
theorem alu_4 (A X S P : Int) (Z N C I : Bool) (arg v : Int) (w : World) :
  Calls Try.prog 93 #[.agg #[.int .i64 A, .int .i64 X, .int .i64 S, .int .i64 P, .bool Z, .bool N, .bool C, .bool I], .agg #[.int .i64 4, .int .i64 arg], .int .i64 v] w fun e w' => e = .returned (.tuple #[.agg (addK (⟨A, X, S, P, Z, N, C, I⟩ : Cp) arg).cells, .bool true]) ∧ Below w.heap.size w w' := by
 obtain ⟨s1, sz, sn, cy, hf, ek⟩ := sadd_ex (⟨A, X, S, P, Z, N, C, I⟩ : Cp) arg
 rw [ek]
 clear ek
 have HF := Aside0.mk hf
 clear hf
 have hu38 := Try.underlying38
 have hu68 := Try.underlying68
 go_enter Try.func93, Try.ntmps93
 go_wp2_with (first | ((with_reducible refine gate_dst (N := 3) rfl ?_); refine bx (N := 3) (cs := #[.int .i64 A, .int .i64 X, .int .i64 S, .int .i64 P, .bool Z, .bool N, .bool C, .bool I]) (t := 38) ?_; intro g3 hg w1 hbox hb; have A3 := Aside0.mk hbox; have HB := Aside0.mk (below_step (Below.refl w.heap.size w) hb); have G3 : Aside0 (w.heap.size ≤ g3) := ⟨by rw [hg]; exact Nat.le_refl _⟩; clear hbox hb hg) | ((with_reducible refine gate_dst (N := 4) rfl ?_); refine bx (N := 4) (cs := #[.int .i64 4, .int .i64 arg]) (t := 68) ?_; intro g4 hg w2 hbox hb; have B3 := Aside0.mk (blk_below A3.out hb); have B4 := Aside0.mk hbox; have HB2 := Aside0.mk (below_step HB.out hb); clear hbox hb hg A3 HB; have HB := HB2; clear HB2) | ((with_reducible refine gate_dst (N := 6) rfl ?_); refine bx (N := 6) (cs := #[.int .i64 0, .int .i64 0, .int .i64 0, .int .i64 0, .bool false, .bool false, .bool false, .bool false]) (t := 38) ?_; intro g6 hg w3 hbox hb; have n3 : g3 ≠ g6 := (by rw [hg]; exact Nat.ne_of_lt (blk_lt B3.out)); have n6 : g6 ≠ g3 := Ne.symm n3; have NE := Aside0.mk n6; have HC := Aside0.mk (blk_below B3.out hb); have HG := Aside0.mk (blk_below B4.out hb); have HR := Aside0.mk hbox; have G6 : Aside0 (w.heap.size ≤ g6) := ⟨by rw [hg]; exact below_size HB.out⟩; have HB2 := Aside0.mk (below_step HB.out hb); clear hbox hb hg B3 B4 HB; have HB := HB2; clear HB2; obtain ⟨⟨y0, y1, y2, y3, y4, y5, y6, y7⟩, ⟨fy0, fy1, fy2, fy3, fy4, fy5, fy6, fy7⟩⟩ := cells8 (HC.out); have z0 : w3.cell? ⟨g4, 0, none⟩ = some (.int .i64 4) := (blk_cell HG.out 0).trans rfl; have z1 : w3.cell? ⟨g4, 1, none⟩ = some (.int .i64 arg) := (blk_cell HG.out 1).trans rfl; obtain ⟨⟨r0, r1, r2, r3, r4, r5, r6, r7⟩, ⟨fr0, fr1, fr2, fr3, fr4, fr5, fr6, fr7⟩⟩ := cells8 (HR.out)) | (go_at_call 105; refine (HF.out _).mono ?_; rintro e w4 ⟨rfl, hb⟩; have HR2 := Aside0.mk (blk_below HR.out hb); have HB2 := Aside0.mk (below_step HB.out hb); clear hb; obtain ⟨⟨sc0, sc1, sc2, sc3, sc4, sc5, sc6, sc7⟩, ⟨fsc0, fsc1, fsc2, fsc3, fsc4, fsc5, fsc6, fsc7⟩⟩ := cells8 (HR2.out)))
 refine bodyPost_ret (results_ct rfl _ _ g6 38 #[.int .i64 s1, .int .i64 X, .int .i64 S, .int .i64 P, .bool sz, .bool sn, .bool cy, .bool I] (0, 0) _ rfl (put8 HR2.out _ _ _ _ _ _ _ _) hu38 rfl (by kernel_rfl)) rfl ?_
 exact ⟨rfl, below8 HB2.out G6.out _ _ _ _ _ _ _ _⟩
set_option maxRecDepth 100000 in
set_option maxHeartbeats 4000000 in
theorem alu_29 (A X S P : Int) (Z N C I : Bool) (arg v : Int) (w : World) :
  Calls Try.prog 93 #[.agg #[.int .i64 A, .int .i64 X, .int .i64 S, .int .i64 P, .bool Z, .bool N, .bool C, .bool I], .agg #[.int .i64 29, .int .i64 arg], .int .i64 v] w fun e w' => e = .returned (.tuple #[.agg (addK (⟨A, X, S, P, Z, N, C, I⟩ : Cp) v).cells, .bool true]) ∧ Below w.heap.size w w' := by
 obtain ⟨s1, sz, sn, cy, hf, ek⟩ := sadd_ex (⟨A, X, S, P, Z, N, C, I⟩ : Cp) v
 rw [ek]
 clear ek
 have HF := Aside0.mk hf
 clear hf
 have hu38 := Try.underlying38
 have hu68 := Try.underlying68
 go_enter Try.func93, Try.ntmps93
 go_wp2_with (first | ((with_reducible refine gate_dst (N := 3) rfl ?_); refine bx (N := 3) (cs := #[.int .i64 A, .int .i64 X, .int .i64 S, .int .i64 P, .bool Z, .bool N, .bool C, .bool I]) (t := 38) ?_; intro g3 hg w1 hbox hb; have A3 := Aside0.mk hbox; have HB := Aside0.mk (below_step (Below.refl w.heap.size w) hb); have G3 : Aside0 (w.heap.size ≤ g3) := ⟨by rw [hg]; exact Nat.le_refl _⟩; clear hbox hb hg) | ((with_reducible refine gate_dst (N := 4) rfl ?_); refine bx (N := 4) (cs := #[.int .i64 29, .int .i64 arg]) (t := 68) ?_; intro g4 hg w2 hbox hb; have B3 := Aside0.mk (blk_below A3.out hb); have B4 := Aside0.mk hbox; have HB2 := Aside0.mk (below_step HB.out hb); clear hbox hb hg A3 HB; have HB := HB2; clear HB2) | ((with_reducible refine gate_dst (N := 6) rfl ?_); refine bx (N := 6) (cs := #[.int .i64 0, .int .i64 0, .int .i64 0, .int .i64 0, .bool false, .bool false, .bool false, .bool false]) (t := 38) ?_; intro g6 hg w3 hbox hb; have n3 : g3 ≠ g6 := (by rw [hg]; exact Nat.ne_of_lt (blk_lt B3.out)); have n6 : g6 ≠ g3 := Ne.symm n3; have NE := Aside0.mk n6; have HC := Aside0.mk (blk_below B3.out hb); have HG := Aside0.mk (blk_below B4.out hb); have HR := Aside0.mk hbox; have G6 : Aside0 (w.heap.size ≤ g6) := ⟨by rw [hg]; exact below_size HB.out⟩; have HB2 := Aside0.mk (below_step HB.out hb); clear hbox hb hg B3 B4 HB; have HB := HB2; clear HB2; obtain ⟨⟨y0, y1, y2, y3, y4, y5, y6, y7⟩, ⟨fy0, fy1, fy2, fy3, fy4, fy5, fy6, fy7⟩⟩ := cells8 (HC.out); have z0 : w3.cell? ⟨g4, 0, none⟩ = some (.int .i64 29) := (blk_cell HG.out 0).trans rfl; have z1 : w3.cell? ⟨g4, 1, none⟩ = some (.int .i64 arg) := (blk_cell HG.out 1).trans rfl; obtain ⟨⟨r0, r1, r2, r3, r4, r5, r6, r7⟩, ⟨fr0, fr1, fr2, fr3, fr4, fr5, fr6, fr7⟩⟩ := cells8 (HR.out)) | (go_at_call 105; refine (HF.out _).mono ?_; rintro e w4 ⟨rfl, hb⟩; have HR2 := Aside0.mk (blk_below HR.out hb); have HB2 := Aside0.mk (below_step HB.out hb); clear hb; obtain ⟨⟨sc0, sc1, sc2, sc3, sc4, sc5, sc6, sc7⟩, ⟨fsc0, fsc1, fsc2, fsc3, fsc4, fsc5, fsc6, fsc7⟩⟩ := cells8 (HR2.out)))
 refine bodyPost_ret (results_ct rfl _ _ g6 38 #[.int .i64 s1, .int .i64 X, .int .i64 S, .int .i64 P, .bool sz, .bool sn, .bool cy, .bool I] (0, 0) _ rfl (put8 HR2.out _ _ _ _ _ _ _ _) hu38 rfl (by kernel_rfl)) rfl ?_
 exact ⟨rfl, below8 HB2.out G6.out _ _ _ _ _ _ _ _⟩
set_option maxRecDepth 100000 in
set_option maxHeartbeats 4000000 in
theorem alu_10 (A X S P : Int) (Z N C I : Bool) (arg v : Int) (w : World) :
  Calls Try.prog 93 #[.agg #[.int .i64 A, .int .i64 X, .int .i64 S, .int .i64 P, .bool Z, .bool N, .bool C, .bool I], .agg #[.int .i64 10, .int .i64 arg], .int .i64 v] w fun e w' => e = .returned (.tuple #[.agg (setXK (⟨A, X, S, P, Z, N, C, I⟩ : Cp) A).cells, .bool true]) ∧ Below w.heap.size w w' := by
 obtain ⟨s1, sz, sn, hf, ek⟩ := setx_sx (⟨A, X, S, P, Z, N, C, I⟩ : Cp) A
 rw [ek]
 clear ek
 have HF := Aside0.mk hf
 clear hf
 have hu38 := Try.underlying38
 have hu68 := Try.underlying68
 go_enter Try.func93, Try.ntmps93
 go_wp2_with (first | ((with_reducible refine gate_dst (N := 3) rfl ?_); refine bx (N := 3) (cs := #[.int .i64 A, .int .i64 X, .int .i64 S, .int .i64 P, .bool Z, .bool N, .bool C, .bool I]) (t := 38) ?_; intro g3 hg w1 hbox hb; have A3 := Aside0.mk hbox; have HB := Aside0.mk (below_step (Below.refl w.heap.size w) hb); have G3 : Aside0 (w.heap.size ≤ g3) := ⟨by rw [hg]; exact Nat.le_refl _⟩; clear hbox hb hg) | ((with_reducible refine gate_dst (N := 4) rfl ?_); refine bx (N := 4) (cs := #[.int .i64 10, .int .i64 arg]) (t := 68) ?_; intro g4 hg w2 hbox hb; have B3 := Aside0.mk (blk_below A3.out hb); have B4 := Aside0.mk hbox; have HB2 := Aside0.mk (below_step HB.out hb); clear hbox hb hg A3 HB; have HB := HB2; clear HB2) | ((with_reducible refine gate_dst (N := 6) rfl ?_); refine bx (N := 6) (cs := #[.int .i64 0, .int .i64 0, .int .i64 0, .int .i64 0, .bool false, .bool false, .bool false, .bool false]) (t := 38) ?_; intro g6 hg w3 hbox hb; have n3 : g3 ≠ g6 := (by rw [hg]; exact Nat.ne_of_lt (blk_lt B3.out)); have n6 : g6 ≠ g3 := Ne.symm n3; have NE := Aside0.mk n6; have HC := Aside0.mk (blk_below B3.out hb); have HG := Aside0.mk (blk_below B4.out hb); have HR := Aside0.mk hbox; have G6 : Aside0 (w.heap.size ≤ g6) := ⟨by rw [hg]; exact below_size HB.out⟩; have HB2 := Aside0.mk (below_step HB.out hb); clear hbox hb hg B3 B4 HB; have HB := HB2; clear HB2; obtain ⟨⟨y0, y1, y2, y3, y4, y5, y6, y7⟩, ⟨fy0, fy1, fy2, fy3, fy4, fy5, fy6, fy7⟩⟩ := cells8 (HC.out); have z0 : w3.cell? ⟨g4, 0, none⟩ = some (.int .i64 10) := (blk_cell HG.out 0).trans rfl; have z1 : w3.cell? ⟨g4, 1, none⟩ = some (.int .i64 arg) := (blk_cell HG.out 1).trans rfl; obtain ⟨⟨r0, r1, r2, r3, r4, r5, r6, r7⟩, ⟨fr0, fr1, fr2, fr3, fr4, fr5, fr6, fr7⟩⟩ := cells8 (HR.out)) | (go_at_call 108; refine (spec_SetX.calls A X S P Z N C I _ A s1 S P sz sn C I _ HF.out).mono ?_; rintro e w4 ⟨rfl, hb⟩; have HR2 := Aside0.mk (blk_below HR.out hb); have HB2 := Aside0.mk (below_step HB.out hb); clear hb; obtain ⟨⟨sc0, sc1, sc2, sc3, sc4, sc5, sc6, sc7⟩, ⟨fsc0, fsc1, fsc2, fsc3, fsc4, fsc5, fsc6, fsc7⟩⟩ := cells8 (HR2.out)))
 refine bodyPost_ret (results_ct rfl _ _ g6 38 #[.int .i64 A, .int .i64 s1, .int .i64 S, .int .i64 P, .bool sz, .bool sn, .bool C, .bool I] (0, 0) _ rfl (put8 HR2.out _ _ _ _ _ _ _ _) hu38 rfl (by kernel_rfl)) rfl ?_
 exact ⟨rfl, below8 HB2.out G6.out _ _ _ _ _ _ _ _⟩
set_option maxRecDepth 100000 in
set_option maxHeartbeats 4000000 in
theorem alu_11 (A X S P : Int) (Z N C I : Bool) (arg v : Int) (w : World) :
  Calls Try.prog 93 #[.agg #[.int .i64 A, .int .i64 X, .int .i64 S, .int .i64 P, .bool Z, .bool N, .bool C, .bool I], .agg #[.int .i64 11, .int .i64 arg], .int .i64 v] w fun e w' => e = .returned (.tuple #[.agg (setAK (⟨A, X, S, P, Z, N, C, I⟩ : Cp) X).cells, .bool true]) ∧ Below w.heap.size w w' := by
 obtain ⟨s1, sz, sn, hf, ek⟩ := seta_sx (⟨A, X, S, P, Z, N, C, I⟩ : Cp) X
 rw [ek]
 clear ek
 have HF := Aside0.mk hf
 clear hf
 have hu38 := Try.underlying38
 have hu68 := Try.underlying68
 go_enter Try.func93, Try.ntmps93
 go_wp2_with (first | ((with_reducible refine gate_dst (N := 3) rfl ?_); refine bx (N := 3) (cs := #[.int .i64 A, .int .i64 X, .int .i64 S, .int .i64 P, .bool Z, .bool N, .bool C, .bool I]) (t := 38) ?_; intro g3 hg w1 hbox hb; have A3 := Aside0.mk hbox; have HB := Aside0.mk (below_step (Below.refl w.heap.size w) hb); have G3 : Aside0 (w.heap.size ≤ g3) := ⟨by rw [hg]; exact Nat.le_refl _⟩; clear hbox hb hg) | ((with_reducible refine gate_dst (N := 4) rfl ?_); refine bx (N := 4) (cs := #[.int .i64 11, .int .i64 arg]) (t := 68) ?_; intro g4 hg w2 hbox hb; have B3 := Aside0.mk (blk_below A3.out hb); have B4 := Aside0.mk hbox; have HB2 := Aside0.mk (below_step HB.out hb); clear hbox hb hg A3 HB; have HB := HB2; clear HB2) | ((with_reducible refine gate_dst (N := 6) rfl ?_); refine bx (N := 6) (cs := #[.int .i64 0, .int .i64 0, .int .i64 0, .int .i64 0, .bool false, .bool false, .bool false, .bool false]) (t := 38) ?_; intro g6 hg w3 hbox hb; have n3 : g3 ≠ g6 := (by rw [hg]; exact Nat.ne_of_lt (blk_lt B3.out)); have n6 : g6 ≠ g3 := Ne.symm n3; have NE := Aside0.mk n6; have HC := Aside0.mk (blk_below B3.out hb); have HG := Aside0.mk (blk_below B4.out hb); have HR := Aside0.mk hbox; have G6 : Aside0 (w.heap.size ≤ g6) := ⟨by rw [hg]; exact below_size HB.out⟩; have HB2 := Aside0.mk (below_step HB.out hb); clear hbox hb hg B3 B4 HB; have HB := HB2; clear HB2; obtain ⟨⟨y0, y1, y2, y3, y4, y5, y6, y7⟩, ⟨fy0, fy1, fy2, fy3, fy4, fy5, fy6, fy7⟩⟩ := cells8 (HC.out); have z0 : w3.cell? ⟨g4, 0, none⟩ = some (.int .i64 11) := (blk_cell HG.out 0).trans rfl; have z1 : w3.cell? ⟨g4, 1, none⟩ = some (.int .i64 arg) := (blk_cell HG.out 1).trans rfl; obtain ⟨⟨r0, r1, r2, r3, r4, r5, r6, r7⟩, ⟨fr0, fr1, fr2, fr3, fr4, fr5, fr6, fr7⟩⟩ := cells8 (HR.out)) | (go_at_call 96; refine (spec_SetA.calls A X S P Z N C I _ s1 X S P sz sn C I _ HF.out).mono ?_; rintro e w4 ⟨rfl, hb⟩; have HR2 := Aside0.mk (blk_below HR.out hb); have HB2 := Aside0.mk (below_step HB.out hb); clear hb; obtain ⟨⟨sc0, sc1, sc2, sc3, sc4, sc5, sc6, sc7⟩, ⟨fsc0, fsc1, fsc2, fsc3, fsc4, fsc5, fsc6, fsc7⟩⟩ := cells8 (HR2.out)))
 refine bodyPost_ret (results_ct rfl _ _ g6 38 #[.int .i64 s1, .int .i64 X, .int .i64 S, .int .i64 P, .bool sz, .bool sn, .bool C, .bool I] (0, 0) _ rfl (put8 HR2.out _ _ _ _ _ _ _ _) hu38 rfl (by kernel_rfl)) rfl ?_
 exact ⟨rfl, below8 HB2.out G6.out _ _ _ _ _ _ _ _⟩
set_option maxRecDepth 100000 in
set_option maxHeartbeats 4000000 in
theorem alu_6 (A X S P : Int) (Z N C I : Bool) (arg v : Int) (w : World) :
  Calls Try.prog 93 #[.agg #[.int .i64 A, .int .i64 X, .int .i64 S, .int .i64 P, .bool Z, .bool N, .bool C, .bool I], .agg #[.int .i64 6, .int .i64 arg], .int .i64 v] w fun e w' => e = .returned (.tuple #[.agg (andS (⟨A, X, S, P, Z, N, C, I⟩ : Cp) arg).cells, .bool true]) ∧ Below w.heap.size w w' := by
 obtain ⟨ba, hba, eba⟩ := sbyte_ex A
 have Hba := Aside0.mk hba
 clear hba
 obtain ⟨bb, hbb, ebb⟩ := sbyte_ex arg
 have Hbb := Aside0.mk hbb
 clear hbb
 obtain ⟨s1, sz, sn, hf, ek⟩ := seta_sx (⟨A, X, S, P, Z, N, C, I⟩ : Cp) (Go.bits .and .i64 ba bb)
 unfold andS
 simp only [eba, ebb]
 rw [ek]
 clear ek eba ebb
 have HF := Aside0.mk hf
 clear hf
 have hu38 := Try.underlying38
 have hu68 := Try.underlying68
 go_enter Try.func93, Try.ntmps93
 go_wp2_with (first | ((with_reducible refine gate_dst (N := 3) rfl ?_); refine bx (N := 3) (cs := #[.int .i64 A, .int .i64 X, .int .i64 S, .int .i64 P, .bool Z, .bool N, .bool C, .bool I]) (t := 38) ?_; intro g3 hg w1 hbox hb; have A3 := Aside0.mk hbox; have HB := Aside0.mk (below_step (Below.refl w.heap.size w) hb); have G3 : Aside0 (w.heap.size ≤ g3) := ⟨by rw [hg]; exact Nat.le_refl _⟩; clear hbox hb hg) | ((with_reducible refine gate_dst (N := 4) rfl ?_); refine bx (N := 4) (cs := #[.int .i64 6, .int .i64 arg]) (t := 68) ?_; intro g4 hg w2 hbox hb; have B3 := Aside0.mk (blk_below A3.out hb); have B4 := Aside0.mk hbox; have HB2 := Aside0.mk (below_step HB.out hb); clear hbox hb hg A3 HB; have HB := HB2; clear HB2) | ((with_reducible refine gate_dst (N := 6) rfl ?_); refine bx (N := 6) (cs := #[.int .i64 0, .int .i64 0, .int .i64 0, .int .i64 0, .bool false, .bool false, .bool false, .bool false]) (t := 38) ?_; intro g6 hg w3 hbox hb; have n3 : g3 ≠ g6 := (by rw [hg]; exact Nat.ne_of_lt (blk_lt B3.out)); have n6 : g6 ≠ g3 := Ne.symm n3; have NE := Aside0.mk n6; have HC := Aside0.mk (blk_below B3.out hb); have HG := Aside0.mk (blk_below B4.out hb); have HR := Aside0.mk hbox; have G6 : Aside0 (w.heap.size ≤ g6) := ⟨by rw [hg]; exact below_size HB.out⟩; have HB2 := Aside0.mk (below_step HB.out hb); clear hbox hb hg B3 B4 HB; have HB := HB2; clear HB2; obtain ⟨⟨y0, y1, y2, y3, y4, y5, y6, y7⟩, ⟨fy0, fy1, fy2, fy3, fy4, fy5, fy6, fy7⟩⟩ := cells8 (HC.out); have z0 : w3.cell? ⟨g4, 0, none⟩ = some (.int .i64 6) := (blk_cell HG.out 0).trans rfl; have z1 : w3.cell? ⟨g4, 1, none⟩ = some (.int .i64 arg) := (blk_cell HG.out 1).trans rfl; obtain ⟨⟨r0, r1, r2, r3, r4, r5, r6, r7⟩, ⟨fr0, fr1, fr2, fr3, fr4, fr5, fr6, fr7⟩⟩ := cells8 (HR.out)))
 refine free_ (n := 11) (e := 9) (g := 1) (T := (true, [([], []), ([], []), ([1], [1]), ([2], [2]), ([], []), ([4], [4]), ([5, 3], [5]), ([3, 6], [3, 6]), ([0, 7, 6], [0, 7]), ([8, 8, 0, 1, 2, 3, 4, 5, 6, 7, 8], [8]), ([9, 0, 1, 2, 3, 4, 5, 6, 7, 8, 9], [])])) #[true, true, true, true, true, true, true, true, true, false, false] #[true, false, true, true, true, true, true, true, true, false, false] [55, 56, 57, 58, 59, 60, 61, 62, 63] (fun j u w' => match j with
  | 0 => u = .agg #[.int .i64 A, .int .i64 X, .int .i64 S, .int .i64 P, .bool Z, .bool N, .bool C, .bool I]
  | 1 => u = .pointer (some ⟨g3, 0, none⟩)
  | 2 => u = .int .i64 A
  | 3 => u = .int .i64 ba
  | 4 => u = .pointer (some ⟨g4, 1, none⟩)
  | 5 => u = .int .i64 arg
  | 6 => u = .int .i64 bb
  | 7 => u = .int .i64 (Go.bits .and .i64 ba bb)
  | 8 => u = .agg #[.int .i64 s1, .int .i64 X, .int .i64 S, .int .i64 P, .bool sz, .bool sn, .bool C, .bool I]
  | _ => False)
  (by kernel_rfl) rfl (by kernel_rfl) (by kernel_rfl) (by kernel_rfl) (any_of (T := (true, [([], []), ([], []), ([1], [1]), ([2], [2]), ([], []), ([4], [4]), ([5, 3], [5]), ([3, 6], [3, 6]), ([0, 7, 6], [0, 7]), ([8, 8, 0, 1, 2, 3, 4, 5, 6, 7, 8], [8]), ([9, 0, 1, 2, 3, 4, 5, 6, 7, 8, 9], [])])) (by kernel_rfl) (by kernel_rfl)) (fun _ _ _ _ h => h) ?stalu6 ?spalu6 ?laalu6 ?enalu6
 case stalu6 =>
  intro j u W W' h hb
  exact h
 case spalu6 =>
  intro i hi o ho a W hB hout hneed K hK
  have HBW := Aside0.mk hB
  have hcase : i = 0 ∨ i = 1 ∨ i = 2 ∨ i = 3 ∨ i = 4 ∨ i = 5 ∨ i = 6 ∨ i = 7 ∨ i = 8 := by omega
  clear hB
  rcases hcase with rfl | rfl | rfl | rfl | rfl | rfl | rfl | rfl | rfl
  ·obtain rfl := Option.some.inj ho
   have h3 : a.eval (.tmp 3) = .pointer (some ⟨g3, 0, none⟩) := hout 3 (by decide)
   have h3' := eval_get h3
   have hb := blk_below (w := w3.drew) HC.out HBW.out
   obtain ⟨⟨d0, d1, d2, d3, d4, d5, d6, d7⟩, -⟩ := cells8 hb
   refine value_ (v := .agg #[.int .i64 A, .int .i64 X, .int .i64 S, .int .i64 P, .bool Z, .bool N, .bool C, .bool I]) (w1 := W) (by rfl) rfl ?_ (hK.out _ _ (Below.refl _ _) rfl)
   go_simp
  ·obtain rfl := Option.some.inj ho
   have h3 : a.eval (.tmp 3) = .pointer (some ⟨g3, 0, none⟩) := hout 3 (by decide)
   have h3' := eval_get h3
   refine value_ (v := .pointer (some ⟨g3, 0, none⟩)) (w1 := W) (by rfl) rfl ?_ (hK.out _ _ (Below.refl _ _) rfl)
   go_simp
  ·obtain rfl := Option.some.inj ho
   have e1 : a.eval (.tmp 56) = _ := hneed 1 (by decide)
   have e1' := eval_get e1
   have hb := blk_below (w := w3.drew) HC.out HBW.out
   have d0 := (blk_cell hb 0).trans rfl
   refine value_ (v := .int .i64 A) (w1 := W) (by rfl) rfl ?_ (hK.out _ _ (Below.refl _ _) rfl)
   go_simp
  ·obtain rfl := Option.some.inj ho
   have e2 : a.eval (.tmp 57) = _ := hneed 2 (by decide)
   have e2' := eval_get e2
   refine goes_ Try.func68 (by kernel_rfl) rfl #[.int .i64 A] (by rfl) rfl rfl (by simp only [List.map_toArray, List.map_cons, List.map_nil, e2]) ?_
   refine (spec_Byte.calls A ba W Hba.out).mono ?_
   rintro e w' ⟨rfl, nd, rfl⟩
   exact ⟨_, rfl, hK.out _ _ (pw_below_drewN (Below.refl _ _) nd) rfl⟩
  ·obtain rfl := Option.some.inj ho
   have h4 : a.eval (.tmp 4) = .pointer (some ⟨g4, 0, none⟩) := hout 4 (by decide)
   have h4' := eval_get h4
   refine value_ (v := .pointer (some ⟨g4, 1, none⟩)) (w1 := W) (by rfl) rfl ?_ (hK.out _ _ (Below.refl _ _) rfl)
   go_simp
  ·obtain rfl := Option.some.inj ho
   have e4 : a.eval (.tmp 59) = _ := hneed 4 (by decide)
   have e4' := eval_get e4
   have hb := blk_below (w := w3.drew) HG.out HBW.out
   have d1 := (blk_cell hb 1).trans rfl
   refine value_ (v := .int .i64 arg) (w1 := W) (by rfl) rfl ?_ (hK.out _ _ (Below.refl _ _) rfl)
   go_simp
  ·obtain rfl := Option.some.inj ho
   have e5 : a.eval (.tmp 60) = _ := hneed 5 (by decide)
   have e5' := eval_get e5
   refine goes_ Try.func68 (by kernel_rfl) rfl #[.int .i64 arg] (by rfl) rfl rfl (by simp only [List.map_toArray, List.map_cons, List.map_nil, e5]) ?_
   refine (spec_Byte.calls arg bb W Hbb.out).mono ?_
   rintro e w' ⟨rfl, nd, rfl⟩
   exact ⟨_, rfl, hK.out _ _ (pw_below_drewN (Below.refl _ _) nd) rfl⟩
  ·obtain rfl := Option.some.inj ho
   have e3 : a.eval (.tmp 58) = _ := hneed 3 (by decide)
   have e3' := eval_get e3
   have e6 : a.eval (.tmp 61) = _ := hneed 6 (by decide)
   have e6' := eval_get e6
   refine value_ (v := .int .i64 (Go.bits .and .i64 ba bb)) (w1 := W) (by rfl) rfl ?_ (hK.out _ _ (Below.refl _ _) rfl)
   go_simp
  ·obtain rfl := Option.some.inj ho
   have e0 : a.eval (.tmp 55) = _ := hneed 0 (by decide)
   have e0' := eval_get e0
   have e7 : a.eval (.tmp 62) = _ := hneed 7 (by decide)
   have e7' := eval_get e7
   refine goes_ Try.func96 (by kernel_rfl) rfl #[.agg #[.int .i64 A, .int .i64 X, .int .i64 S, .int .i64 P, .bool Z, .bool N, .bool C, .bool I], .int .i64 (Go.bits .and .i64 ba bb)] (by rfl) rfl rfl (by simp only [List.map_toArray, List.map_cons, List.map_nil, e0, e7]) ?_
   refine (spec_SetA.calls A X S P Z N C I _ s1 X S P sz sn C I W HF.out).mono ?_
   rintro e w' ⟨rfl, hb⟩
   exact ⟨_, rfl, hK.out _ _ hb rfl⟩
 case laalu6 =>
  intro o ho a W hout hneed
  obtain rfl := Option.some.inj ho
  have h3 : a.eval (.tmp 3) = .pointer (some ⟨g3, 0, none⟩) := hout 3 (by decide)
  have h3' := eval_get h3
  refine ⟨.pointer (some ⟨g3, 0, none⟩), rfl, Or.inl ⟨by rfl, ?_⟩⟩
  intro w'
  go_simp
 intro f vs W2 hB hE
 have HBW := Aside0.mk hB
 clear hB
 have q0 : vs 0 = _ := hE 0 (by decide)
 have q1 : vs 1 = _ := hE 1 (by decide)
 have q2 : vs 2 = _ := hE 2 (by decide)
 have q3 : vs 3 = _ := hE 3 (by decide)
 have q4 : vs 4 = _ := hE 4 (by decide)
 have q5 : vs 5 = _ := hE 5 (by decide)
 have q6 : vs 6 = _ := hE 6 (by decide)
 have q7 : vs 7 = _ := hE 7 (by decide)
 have q8 : vs 8 = _ := hE 8 (by decide)
 show wpAnyLast _ _ _ _ _ _ (f + 2) _ (putAll _ [(55, vs 0), (56, vs 1), (57, vs 2), (58, vs 3), (59, vs 4), (60, vs 5), (61, vs 6), (62, vs 7), (63, vs 8)]) W2
 rw [q0, q1, q2, q3, q4, q5, q6, q7, q8]
 clear q0 q1 q2 q3 q4 q5 q6 q7 q8 hE
 refine norm_ (a' := ?_) ?_ ?_
 rotate_left
 ·simp only [putAll, Act.put, List.setIfInBounds_toArray, List.set_cons_zero, List.set_cons_succ]
  rfl
 refine one_ (i := 9) (N := none) #[true, true, true, true, true, true, true, true, true, true, false] rfl rfl (by kernel_rfl) (by decide) (fun K hK => ?_)
 refine skip_ (w1 := ?_) (by rfl) rfl ?_ ?_
 rotate_left
 ·skip
  have hcW := blk_below (w := w3.drew) HR.out HBW.out
  obtain ⟨⟨t0, t1, t2, t3, t4, t5, t6, t7⟩, ⟨ft0, ft1, ft2, ft3, ft4, ft5, ft6, ft7⟩⟩ := cells8 (hcW)
  go_simp
  rfl
 refine hK.out _ _ trivial (fun _ => ?_)
 clear hK K
 refine pure_ (i := 10) (N := some 7) (v := ?_) (a' := ?_) #[true, true, true, true, true, true, true, true, true, true, true] rfl rfl (by kernel_rfl) (fun _ _ _ h => h) (Or.inl ⟨by rfl, ?_⟩) ?_ ?_
 rotate_left
 ·intro w'
  go_simp
  with_reducible rfl
 rotate_left
 ·simp only [Act.put, List.setIfInBounds_toArray, List.set_cons_zero, List.set_cons_succ, i64_w, i32_w]
  rfl
 refine done_ (by kernel_rfl) ?_
 go_wp2
 refine bodyPost_ret (results_ct rfl _ _ g6 38 #[.int .i64 s1, .int .i64 X, .int .i64 S, .int .i64 P, .bool sz, .bool sn, .bool C, .bool I] (0, 0) _ rfl (put8 (blk_below (w := w3.drew) HR.out HBW.out) _ _ _ _ _ _ _ _) hu38 rfl (by kernel_rfl)) rfl ?_
 exact ⟨rfl, below8 (below_step (w := w) (W := w3.drew) (below_drew1 HB.out) HBW.out) G6.out _ _ _ _ _ _ _ _⟩
set_option maxRecDepth 100000 in
set_option maxHeartbeats 4000000 in
theorem alu_7 (A X S P : Int) (Z N C I : Bool) (arg v : Int) (w : World) :
  Calls Try.prog 93 #[.agg #[.int .i64 A, .int .i64 X, .int .i64 S, .int .i64 P, .bool Z, .bool N, .bool C, .bool I], .agg #[.int .i64 7, .int .i64 arg], .int .i64 v] w fun e w' => e = .returned (.tuple #[.agg (orS (⟨A, X, S, P, Z, N, C, I⟩ : Cp) arg).cells, .bool true]) ∧ Below w.heap.size w w' := by
 obtain ⟨ba, hba, eba⟩ := sbyte_ex A
 have Hba := Aside0.mk hba
 clear hba
 obtain ⟨bb, hbb, ebb⟩ := sbyte_ex arg
 have Hbb := Aside0.mk hbb
 clear hbb
 obtain ⟨s1, sz, sn, hf, ek⟩ := seta_sx (⟨A, X, S, P, Z, N, C, I⟩ : Cp) (Go.bits .or .i64 ba bb)
 unfold orS
 simp only [eba, ebb]
 rw [ek]
 clear ek eba ebb
 have HF := Aside0.mk hf
 clear hf
 have hu38 := Try.underlying38
 have hu68 := Try.underlying68
 go_enter Try.func93, Try.ntmps93
 go_wp2_with (first | ((with_reducible refine gate_dst (N := 3) rfl ?_); refine bx (N := 3) (cs := #[.int .i64 A, .int .i64 X, .int .i64 S, .int .i64 P, .bool Z, .bool N, .bool C, .bool I]) (t := 38) ?_; intro g3 hg w1 hbox hb; have A3 := Aside0.mk hbox; have HB := Aside0.mk (below_step (Below.refl w.heap.size w) hb); have G3 : Aside0 (w.heap.size ≤ g3) := ⟨by rw [hg]; exact Nat.le_refl _⟩; clear hbox hb hg) | ((with_reducible refine gate_dst (N := 4) rfl ?_); refine bx (N := 4) (cs := #[.int .i64 7, .int .i64 arg]) (t := 68) ?_; intro g4 hg w2 hbox hb; have B3 := Aside0.mk (blk_below A3.out hb); have B4 := Aside0.mk hbox; have HB2 := Aside0.mk (below_step HB.out hb); clear hbox hb hg A3 HB; have HB := HB2; clear HB2) | ((with_reducible refine gate_dst (N := 6) rfl ?_); refine bx (N := 6) (cs := #[.int .i64 0, .int .i64 0, .int .i64 0, .int .i64 0, .bool false, .bool false, .bool false, .bool false]) (t := 38) ?_; intro g6 hg w3 hbox hb; have n3 : g3 ≠ g6 := (by rw [hg]; exact Nat.ne_of_lt (blk_lt B3.out)); have n6 : g6 ≠ g3 := Ne.symm n3; have NE := Aside0.mk n6; have HC := Aside0.mk (blk_below B3.out hb); have HG := Aside0.mk (blk_below B4.out hb); have HR := Aside0.mk hbox; have G6 : Aside0 (w.heap.size ≤ g6) := ⟨by rw [hg]; exact below_size HB.out⟩; have HB2 := Aside0.mk (below_step HB.out hb); clear hbox hb hg B3 B4 HB; have HB := HB2; clear HB2; obtain ⟨⟨y0, y1, y2, y3, y4, y5, y6, y7⟩, ⟨fy0, fy1, fy2, fy3, fy4, fy5, fy6, fy7⟩⟩ := cells8 (HC.out); have z0 : w3.cell? ⟨g4, 0, none⟩ = some (.int .i64 7) := (blk_cell HG.out 0).trans rfl; have z1 : w3.cell? ⟨g4, 1, none⟩ = some (.int .i64 arg) := (blk_cell HG.out 1).trans rfl; obtain ⟨⟨r0, r1, r2, r3, r4, r5, r6, r7⟩, ⟨fr0, fr1, fr2, fr3, fr4, fr5, fr6, fr7⟩⟩ := cells8 (HR.out)))
 refine free_ (n := 11) (e := 9) (g := 1) (T := (true, [([], []), ([], []), ([1], [1]), ([2], [2]), ([], []), ([4], [4]), ([5, 3], [5]), ([3, 6], [3, 6]), ([0, 7, 6], [0, 7]), ([8, 8, 0, 1, 2, 3, 4, 5, 6, 7, 8], [8]), ([9, 0, 1, 2, 3, 4, 5, 6, 7, 8, 9], [])])) #[true, true, true, true, true, true, true, true, true, false, false] #[true, false, true, true, true, true, true, true, true, false, false] [66, 67, 68, 69, 70, 71, 72, 73, 74] (fun j u w' => match j with
  | 0 => u = .agg #[.int .i64 A, .int .i64 X, .int .i64 S, .int .i64 P, .bool Z, .bool N, .bool C, .bool I]
  | 1 => u = .pointer (some ⟨g3, 0, none⟩)
  | 2 => u = .int .i64 A
  | 3 => u = .int .i64 ba
  | 4 => u = .pointer (some ⟨g4, 1, none⟩)
  | 5 => u = .int .i64 arg
  | 6 => u = .int .i64 bb
  | 7 => u = .int .i64 (Go.bits .or .i64 ba bb)
  | 8 => u = .agg #[.int .i64 s1, .int .i64 X, .int .i64 S, .int .i64 P, .bool sz, .bool sn, .bool C, .bool I]
  | _ => False)
  (by kernel_rfl) rfl (by kernel_rfl) (by kernel_rfl) (by kernel_rfl) (any_of (T := (true, [([], []), ([], []), ([1], [1]), ([2], [2]), ([], []), ([4], [4]), ([5, 3], [5]), ([3, 6], [3, 6]), ([0, 7, 6], [0, 7]), ([8, 8, 0, 1, 2, 3, 4, 5, 6, 7, 8], [8]), ([9, 0, 1, 2, 3, 4, 5, 6, 7, 8, 9], [])])) (by kernel_rfl) (by kernel_rfl)) (fun _ _ _ _ h => h) ?stalu7 ?spalu7 ?laalu7 ?enalu7
 case stalu7 =>
  intro j u W W' h hb
  exact h
 case spalu7 =>
  intro i hi o ho a W hB hout hneed K hK
  have HBW := Aside0.mk hB
  have hcase : i = 0 ∨ i = 1 ∨ i = 2 ∨ i = 3 ∨ i = 4 ∨ i = 5 ∨ i = 6 ∨ i = 7 ∨ i = 8 := by omega
  clear hB
  rcases hcase with rfl | rfl | rfl | rfl | rfl | rfl | rfl | rfl | rfl
  ·obtain rfl := Option.some.inj ho
   have h3 : a.eval (.tmp 3) = .pointer (some ⟨g3, 0, none⟩) := hout 3 (by decide)
   have h3' := eval_get h3
   have hb := blk_below (w := w3.drew) HC.out HBW.out
   obtain ⟨⟨d0, d1, d2, d3, d4, d5, d6, d7⟩, -⟩ := cells8 hb
   refine value_ (v := .agg #[.int .i64 A, .int .i64 X, .int .i64 S, .int .i64 P, .bool Z, .bool N, .bool C, .bool I]) (w1 := W) (by rfl) rfl ?_ (hK.out _ _ (Below.refl _ _) rfl)
   go_simp
  ·obtain rfl := Option.some.inj ho
   have h3 : a.eval (.tmp 3) = .pointer (some ⟨g3, 0, none⟩) := hout 3 (by decide)
   have h3' := eval_get h3
   refine value_ (v := .pointer (some ⟨g3, 0, none⟩)) (w1 := W) (by rfl) rfl ?_ (hK.out _ _ (Below.refl _ _) rfl)
   go_simp
  ·obtain rfl := Option.some.inj ho
   have e1 : a.eval (.tmp 67) = _ := hneed 1 (by decide)
   have e1' := eval_get e1
   have hb := blk_below (w := w3.drew) HC.out HBW.out
   have d0 := (blk_cell hb 0).trans rfl
   refine value_ (v := .int .i64 A) (w1 := W) (by rfl) rfl ?_ (hK.out _ _ (Below.refl _ _) rfl)
   go_simp
  ·obtain rfl := Option.some.inj ho
   have e2 : a.eval (.tmp 68) = _ := hneed 2 (by decide)
   have e2' := eval_get e2
   refine goes_ Try.func68 (by kernel_rfl) rfl #[.int .i64 A] (by rfl) rfl rfl (by simp only [List.map_toArray, List.map_cons, List.map_nil, e2]) ?_
   refine (spec_Byte.calls A ba W Hba.out).mono ?_
   rintro e w' ⟨rfl, nd, rfl⟩
   exact ⟨_, rfl, hK.out _ _ (pw_below_drewN (Below.refl _ _) nd) rfl⟩
  ·obtain rfl := Option.some.inj ho
   have h4 : a.eval (.tmp 4) = .pointer (some ⟨g4, 0, none⟩) := hout 4 (by decide)
   have h4' := eval_get h4
   refine value_ (v := .pointer (some ⟨g4, 1, none⟩)) (w1 := W) (by rfl) rfl ?_ (hK.out _ _ (Below.refl _ _) rfl)
   go_simp
  ·obtain rfl := Option.some.inj ho
   have e4 : a.eval (.tmp 70) = _ := hneed 4 (by decide)
   have e4' := eval_get e4
   have hb := blk_below (w := w3.drew) HG.out HBW.out
   have d1 := (blk_cell hb 1).trans rfl
   refine value_ (v := .int .i64 arg) (w1 := W) (by rfl) rfl ?_ (hK.out _ _ (Below.refl _ _) rfl)
   go_simp
  ·obtain rfl := Option.some.inj ho
   have e5 : a.eval (.tmp 71) = _ := hneed 5 (by decide)
   have e5' := eval_get e5
   refine goes_ Try.func68 (by kernel_rfl) rfl #[.int .i64 arg] (by rfl) rfl rfl (by simp only [List.map_toArray, List.map_cons, List.map_nil, e5]) ?_
   refine (spec_Byte.calls arg bb W Hbb.out).mono ?_
   rintro e w' ⟨rfl, nd, rfl⟩
   exact ⟨_, rfl, hK.out _ _ (pw_below_drewN (Below.refl _ _) nd) rfl⟩
  ·obtain rfl := Option.some.inj ho
   have e3 : a.eval (.tmp 69) = _ := hneed 3 (by decide)
   have e3' := eval_get e3
   have e6 : a.eval (.tmp 72) = _ := hneed 6 (by decide)
   have e6' := eval_get e6
   refine value_ (v := .int .i64 (Go.bits .or .i64 ba bb)) (w1 := W) (by rfl) rfl ?_ (hK.out _ _ (Below.refl _ _) rfl)
   go_simp
  ·obtain rfl := Option.some.inj ho
   have e0 : a.eval (.tmp 66) = _ := hneed 0 (by decide)
   have e0' := eval_get e0
   have e7 : a.eval (.tmp 73) = _ := hneed 7 (by decide)
   have e7' := eval_get e7
   refine goes_ Try.func96 (by kernel_rfl) rfl #[.agg #[.int .i64 A, .int .i64 X, .int .i64 S, .int .i64 P, .bool Z, .bool N, .bool C, .bool I], .int .i64 (Go.bits .or .i64 ba bb)] (by rfl) rfl rfl (by simp only [List.map_toArray, List.map_cons, List.map_nil, e0, e7]) ?_
   refine (spec_SetA.calls A X S P Z N C I _ s1 X S P sz sn C I W HF.out).mono ?_
   rintro e w' ⟨rfl, hb⟩
   exact ⟨_, rfl, hK.out _ _ hb rfl⟩
 case laalu7 =>
  intro o ho a W hout hneed
  obtain rfl := Option.some.inj ho
  have h3 : a.eval (.tmp 3) = .pointer (some ⟨g3, 0, none⟩) := hout 3 (by decide)
  have h3' := eval_get h3
  refine ⟨.pointer (some ⟨g3, 0, none⟩), rfl, Or.inl ⟨by rfl, ?_⟩⟩
  intro w'
  go_simp
 intro f vs W2 hB hE
 have HBW := Aside0.mk hB
 clear hB
 have q0 : vs 0 = _ := hE 0 (by decide)
 have q1 : vs 1 = _ := hE 1 (by decide)
 have q2 : vs 2 = _ := hE 2 (by decide)
 have q3 : vs 3 = _ := hE 3 (by decide)
 have q4 : vs 4 = _ := hE 4 (by decide)
 have q5 : vs 5 = _ := hE 5 (by decide)
 have q6 : vs 6 = _ := hE 6 (by decide)
 have q7 : vs 7 = _ := hE 7 (by decide)
 have q8 : vs 8 = _ := hE 8 (by decide)
 show wpAnyLast _ _ _ _ _ _ (f + 2) _ (putAll _ [(66, vs 0), (67, vs 1), (68, vs 2), (69, vs 3), (70, vs 4), (71, vs 5), (72, vs 6), (73, vs 7), (74, vs 8)]) W2
 rw [q0, q1, q2, q3, q4, q5, q6, q7, q8]
 clear q0 q1 q2 q3 q4 q5 q6 q7 q8 hE
 refine norm_ (a' := ?_) ?_ ?_
 rotate_left
 ·simp only [putAll, Act.put, List.setIfInBounds_toArray, List.set_cons_zero, List.set_cons_succ]
  rfl
 refine one_ (i := 9) (N := none) #[true, true, true, true, true, true, true, true, true, true, false] rfl rfl (by kernel_rfl) (by decide) (fun K hK => ?_)
 refine skip_ (w1 := ?_) (by rfl) rfl ?_ ?_
 rotate_left
 ·skip
  have hcW := blk_below (w := w3.drew) HR.out HBW.out
  obtain ⟨⟨t0, t1, t2, t3, t4, t5, t6, t7⟩, ⟨ft0, ft1, ft2, ft3, ft4, ft5, ft6, ft7⟩⟩ := cells8 (hcW)
  go_simp
  rfl
 refine hK.out _ _ trivial (fun _ => ?_)
 clear hK K
 refine pure_ (i := 10) (N := some 7) (v := ?_) (a' := ?_) #[true, true, true, true, true, true, true, true, true, true, true] rfl rfl (by kernel_rfl) (fun _ _ _ h => h) (Or.inl ⟨by rfl, ?_⟩) ?_ ?_
 rotate_left
 ·intro w'
  go_simp
  with_reducible rfl
 rotate_left
 ·simp only [Act.put, List.setIfInBounds_toArray, List.set_cons_zero, List.set_cons_succ, i64_w, i32_w]
  rfl
 refine done_ (by kernel_rfl) ?_
 go_wp2
 refine bodyPost_ret (results_ct rfl _ _ g6 38 #[.int .i64 s1, .int .i64 X, .int .i64 S, .int .i64 P, .bool sz, .bool sn, .bool C, .bool I] (0, 0) _ rfl (put8 (blk_below (w := w3.drew) HR.out HBW.out) _ _ _ _ _ _ _ _) hu38 rfl (by kernel_rfl)) rfl ?_
 exact ⟨rfl, below8 (below_step (w := w) (W := w3.drew) (below_drew1 HB.out) HBW.out) G6.out _ _ _ _ _ _ _ _⟩
set_option maxRecDepth 100000 in
set_option maxHeartbeats 4000000 in
theorem alu_8 (A X S P : Int) (Z N C I : Bool) (arg v : Int) (w : World) :
  Calls Try.prog 93 #[.agg #[.int .i64 A, .int .i64 X, .int .i64 S, .int .i64 P, .bool Z, .bool N, .bool C, .bool I], .agg #[.int .i64 8, .int .i64 arg], .int .i64 v] w fun e w' => e = .returned (.tuple #[.agg (xorS (⟨A, X, S, P, Z, N, C, I⟩ : Cp) arg).cells, .bool true]) ∧ Below w.heap.size w w' := by
 obtain ⟨ba, hba, eba⟩ := sbyte_ex A
 have Hba := Aside0.mk hba
 clear hba
 obtain ⟨bb, hbb, ebb⟩ := sbyte_ex arg
 have Hbb := Aside0.mk hbb
 clear hbb
 obtain ⟨s1, sz, sn, hf, ek⟩ := seta_sx (⟨A, X, S, P, Z, N, C, I⟩ : Cp) (Go.bits .xor .i64 ba bb)
 unfold xorS
 simp only [eba, ebb]
 rw [ek]
 clear ek eba ebb
 have HF := Aside0.mk hf
 clear hf
 have hu38 := Try.underlying38
 have hu68 := Try.underlying68
 go_enter Try.func93, Try.ntmps93
 go_wp2_with (first | ((with_reducible refine gate_dst (N := 3) rfl ?_); refine bx (N := 3) (cs := #[.int .i64 A, .int .i64 X, .int .i64 S, .int .i64 P, .bool Z, .bool N, .bool C, .bool I]) (t := 38) ?_; intro g3 hg w1 hbox hb; have A3 := Aside0.mk hbox; have HB := Aside0.mk (below_step (Below.refl w.heap.size w) hb); have G3 : Aside0 (w.heap.size ≤ g3) := ⟨by rw [hg]; exact Nat.le_refl _⟩; clear hbox hb hg) | ((with_reducible refine gate_dst (N := 4) rfl ?_); refine bx (N := 4) (cs := #[.int .i64 8, .int .i64 arg]) (t := 68) ?_; intro g4 hg w2 hbox hb; have B3 := Aside0.mk (blk_below A3.out hb); have B4 := Aside0.mk hbox; have HB2 := Aside0.mk (below_step HB.out hb); clear hbox hb hg A3 HB; have HB := HB2; clear HB2) | ((with_reducible refine gate_dst (N := 6) rfl ?_); refine bx (N := 6) (cs := #[.int .i64 0, .int .i64 0, .int .i64 0, .int .i64 0, .bool false, .bool false, .bool false, .bool false]) (t := 38) ?_; intro g6 hg w3 hbox hb; have n3 : g3 ≠ g6 := (by rw [hg]; exact Nat.ne_of_lt (blk_lt B3.out)); have n6 : g6 ≠ g3 := Ne.symm n3; have NE := Aside0.mk n6; have HC := Aside0.mk (blk_below B3.out hb); have HG := Aside0.mk (blk_below B4.out hb); have HR := Aside0.mk hbox; have G6 : Aside0 (w.heap.size ≤ g6) := ⟨by rw [hg]; exact below_size HB.out⟩; have HB2 := Aside0.mk (below_step HB.out hb); clear hbox hb hg B3 B4 HB; have HB := HB2; clear HB2; obtain ⟨⟨y0, y1, y2, y3, y4, y5, y6, y7⟩, ⟨fy0, fy1, fy2, fy3, fy4, fy5, fy6, fy7⟩⟩ := cells8 (HC.out); have z0 : w3.cell? ⟨g4, 0, none⟩ = some (.int .i64 8) := (blk_cell HG.out 0).trans rfl; have z1 : w3.cell? ⟨g4, 1, none⟩ = some (.int .i64 arg) := (blk_cell HG.out 1).trans rfl; obtain ⟨⟨r0, r1, r2, r3, r4, r5, r6, r7⟩, ⟨fr0, fr1, fr2, fr3, fr4, fr5, fr6, fr7⟩⟩ := cells8 (HR.out)))
 refine free_ (n := 11) (e := 9) (g := 1) (T := (true, [([], []), ([], []), ([1], [1]), ([2], [2]), ([], []), ([4], [4]), ([5, 3], [5]), ([3, 6], [3, 6]), ([0, 7, 6], [0, 7]), ([8, 8, 0, 1, 2, 3, 4, 5, 6, 7, 8], [8]), ([9, 0, 1, 2, 3, 4, 5, 6, 7, 8, 9], [])])) #[true, true, true, true, true, true, true, true, true, false, false] #[true, false, true, true, true, true, true, true, true, false, false] [77, 78, 79, 80, 81, 82, 83, 84, 85] (fun j u w' => match j with
  | 0 => u = .agg #[.int .i64 A, .int .i64 X, .int .i64 S, .int .i64 P, .bool Z, .bool N, .bool C, .bool I]
  | 1 => u = .pointer (some ⟨g3, 0, none⟩)
  | 2 => u = .int .i64 A
  | 3 => u = .int .i64 ba
  | 4 => u = .pointer (some ⟨g4, 1, none⟩)
  | 5 => u = .int .i64 arg
  | 6 => u = .int .i64 bb
  | 7 => u = .int .i64 (Go.bits .xor .i64 ba bb)
  | 8 => u = .agg #[.int .i64 s1, .int .i64 X, .int .i64 S, .int .i64 P, .bool sz, .bool sn, .bool C, .bool I]
  | _ => False)
  (by kernel_rfl) rfl (by kernel_rfl) (by kernel_rfl) (by kernel_rfl) (any_of (T := (true, [([], []), ([], []), ([1], [1]), ([2], [2]), ([], []), ([4], [4]), ([5, 3], [5]), ([3, 6], [3, 6]), ([0, 7, 6], [0, 7]), ([8, 8, 0, 1, 2, 3, 4, 5, 6, 7, 8], [8]), ([9, 0, 1, 2, 3, 4, 5, 6, 7, 8, 9], [])])) (by kernel_rfl) (by kernel_rfl)) (fun _ _ _ _ h => h) ?stalu8 ?spalu8 ?laalu8 ?enalu8
 case stalu8 =>
  intro j u W W' h hb
  exact h
 case spalu8 =>
  intro i hi o ho a W hB hout hneed K hK
  have HBW := Aside0.mk hB
  have hcase : i = 0 ∨ i = 1 ∨ i = 2 ∨ i = 3 ∨ i = 4 ∨ i = 5 ∨ i = 6 ∨ i = 7 ∨ i = 8 := by omega
  clear hB
  rcases hcase with rfl | rfl | rfl | rfl | rfl | rfl | rfl | rfl | rfl
  ·obtain rfl := Option.some.inj ho
   have h3 : a.eval (.tmp 3) = .pointer (some ⟨g3, 0, none⟩) := hout 3 (by decide)
   have h3' := eval_get h3
   have hb := blk_below (w := w3.drew) HC.out HBW.out
   obtain ⟨⟨d0, d1, d2, d3, d4, d5, d6, d7⟩, -⟩ := cells8 hb
   refine value_ (v := .agg #[.int .i64 A, .int .i64 X, .int .i64 S, .int .i64 P, .bool Z, .bool N, .bool C, .bool I]) (w1 := W) (by rfl) rfl ?_ (hK.out _ _ (Below.refl _ _) rfl)
   go_simp
  ·obtain rfl := Option.some.inj ho
   have h3 : a.eval (.tmp 3) = .pointer (some ⟨g3, 0, none⟩) := hout 3 (by decide)
   have h3' := eval_get h3
   refine value_ (v := .pointer (some ⟨g3, 0, none⟩)) (w1 := W) (by rfl) rfl ?_ (hK.out _ _ (Below.refl _ _) rfl)
   go_simp
  ·obtain rfl := Option.some.inj ho
   have e1 : a.eval (.tmp 78) = _ := hneed 1 (by decide)
   have e1' := eval_get e1
   have hb := blk_below (w := w3.drew) HC.out HBW.out
   have d0 := (blk_cell hb 0).trans rfl
   refine value_ (v := .int .i64 A) (w1 := W) (by rfl) rfl ?_ (hK.out _ _ (Below.refl _ _) rfl)
   go_simp
  ·obtain rfl := Option.some.inj ho
   have e2 : a.eval (.tmp 79) = _ := hneed 2 (by decide)
   have e2' := eval_get e2
   refine goes_ Try.func68 (by kernel_rfl) rfl #[.int .i64 A] (by rfl) rfl rfl (by simp only [List.map_toArray, List.map_cons, List.map_nil, e2]) ?_
   refine (spec_Byte.calls A ba W Hba.out).mono ?_
   rintro e w' ⟨rfl, nd, rfl⟩
   exact ⟨_, rfl, hK.out _ _ (pw_below_drewN (Below.refl _ _) nd) rfl⟩
  ·obtain rfl := Option.some.inj ho
   have h4 : a.eval (.tmp 4) = .pointer (some ⟨g4, 0, none⟩) := hout 4 (by decide)
   have h4' := eval_get h4
   refine value_ (v := .pointer (some ⟨g4, 1, none⟩)) (w1 := W) (by rfl) rfl ?_ (hK.out _ _ (Below.refl _ _) rfl)
   go_simp
  ·obtain rfl := Option.some.inj ho
   have e4 : a.eval (.tmp 81) = _ := hneed 4 (by decide)
   have e4' := eval_get e4
   have hb := blk_below (w := w3.drew) HG.out HBW.out
   have d1 := (blk_cell hb 1).trans rfl
   refine value_ (v := .int .i64 arg) (w1 := W) (by rfl) rfl ?_ (hK.out _ _ (Below.refl _ _) rfl)
   go_simp
  ·obtain rfl := Option.some.inj ho
   have e5 : a.eval (.tmp 82) = _ := hneed 5 (by decide)
   have e5' := eval_get e5
   refine goes_ Try.func68 (by kernel_rfl) rfl #[.int .i64 arg] (by rfl) rfl rfl (by simp only [List.map_toArray, List.map_cons, List.map_nil, e5]) ?_
   refine (spec_Byte.calls arg bb W Hbb.out).mono ?_
   rintro e w' ⟨rfl, nd, rfl⟩
   exact ⟨_, rfl, hK.out _ _ (pw_below_drewN (Below.refl _ _) nd) rfl⟩
  ·obtain rfl := Option.some.inj ho
   have e3 : a.eval (.tmp 80) = _ := hneed 3 (by decide)
   have e3' := eval_get e3
   have e6 : a.eval (.tmp 83) = _ := hneed 6 (by decide)
   have e6' := eval_get e6
   refine value_ (v := .int .i64 (Go.bits .xor .i64 ba bb)) (w1 := W) (by rfl) rfl ?_ (hK.out _ _ (Below.refl _ _) rfl)
   go_simp
  ·obtain rfl := Option.some.inj ho
   have e0 : a.eval (.tmp 77) = _ := hneed 0 (by decide)
   have e0' := eval_get e0
   have e7 : a.eval (.tmp 84) = _ := hneed 7 (by decide)
   have e7' := eval_get e7
   refine goes_ Try.func96 (by kernel_rfl) rfl #[.agg #[.int .i64 A, .int .i64 X, .int .i64 S, .int .i64 P, .bool Z, .bool N, .bool C, .bool I], .int .i64 (Go.bits .xor .i64 ba bb)] (by rfl) rfl rfl (by simp only [List.map_toArray, List.map_cons, List.map_nil, e0, e7]) ?_
   refine (spec_SetA.calls A X S P Z N C I _ s1 X S P sz sn C I W HF.out).mono ?_
   rintro e w' ⟨rfl, hb⟩
   exact ⟨_, rfl, hK.out _ _ hb rfl⟩
 case laalu8 =>
  intro o ho a W hout hneed
  obtain rfl := Option.some.inj ho
  have h3 : a.eval (.tmp 3) = .pointer (some ⟨g3, 0, none⟩) := hout 3 (by decide)
  have h3' := eval_get h3
  refine ⟨.pointer (some ⟨g3, 0, none⟩), rfl, Or.inl ⟨by rfl, ?_⟩⟩
  intro w'
  go_simp
 intro f vs W2 hB hE
 have HBW := Aside0.mk hB
 clear hB
 have q0 : vs 0 = _ := hE 0 (by decide)
 have q1 : vs 1 = _ := hE 1 (by decide)
 have q2 : vs 2 = _ := hE 2 (by decide)
 have q3 : vs 3 = _ := hE 3 (by decide)
 have q4 : vs 4 = _ := hE 4 (by decide)
 have q5 : vs 5 = _ := hE 5 (by decide)
 have q6 : vs 6 = _ := hE 6 (by decide)
 have q7 : vs 7 = _ := hE 7 (by decide)
 have q8 : vs 8 = _ := hE 8 (by decide)
 show wpAnyLast _ _ _ _ _ _ (f + 2) _ (putAll _ [(77, vs 0), (78, vs 1), (79, vs 2), (80, vs 3), (81, vs 4), (82, vs 5), (83, vs 6), (84, vs 7), (85, vs 8)]) W2
 rw [q0, q1, q2, q3, q4, q5, q6, q7, q8]
 clear q0 q1 q2 q3 q4 q5 q6 q7 q8 hE
 refine norm_ (a' := ?_) ?_ ?_
 rotate_left
 ·simp only [putAll, Act.put, List.setIfInBounds_toArray, List.set_cons_zero, List.set_cons_succ]
  rfl
 refine one_ (i := 9) (N := none) #[true, true, true, true, true, true, true, true, true, true, false] rfl rfl (by kernel_rfl) (by decide) (fun K hK => ?_)
 refine skip_ (w1 := ?_) (by rfl) rfl ?_ ?_
 rotate_left
 ·skip
  have hcW := blk_below (w := w3.drew) HR.out HBW.out
  obtain ⟨⟨t0, t1, t2, t3, t4, t5, t6, t7⟩, ⟨ft0, ft1, ft2, ft3, ft4, ft5, ft6, ft7⟩⟩ := cells8 (hcW)
  go_simp
  rfl
 refine hK.out _ _ trivial (fun _ => ?_)
 clear hK K
 refine pure_ (i := 10) (N := some 7) (v := ?_) (a' := ?_) #[true, true, true, true, true, true, true, true, true, true, true] rfl rfl (by kernel_rfl) (fun _ _ _ h => h) (Or.inl ⟨by rfl, ?_⟩) ?_ ?_
 rotate_left
 ·intro w'
  go_simp
  with_reducible rfl
 rotate_left
 ·simp only [Act.put, List.setIfInBounds_toArray, List.set_cons_zero, List.set_cons_succ, i64_w, i32_w]
  rfl
 refine done_ (by kernel_rfl) ?_
 go_wp2
 refine bodyPost_ret (results_ct rfl _ _ g6 38 #[.int .i64 s1, .int .i64 X, .int .i64 S, .int .i64 P, .bool sz, .bool sn, .bool C, .bool I] (0, 0) _ rfl (put8 (blk_below (w := w3.drew) HR.out HBW.out) _ _ _ _ _ _ _ _) hu38 rfl (by kernel_rfl)) rfl ?_
 exact ⟨rfl, below8 (below_step (w := w) (W := w3.drew) (below_drew1 HB.out) HBW.out) G6.out _ _ _ _ _ _ _ _⟩
set_option maxRecDepth 100000 in
set_option maxHeartbeats 4000000 in
theorem alu_12 (A X S P : Int) (Z N C I : Bool) (arg v : Int) (w : World) :
  Calls Try.prog 93 #[.agg #[.int .i64 A, .int .i64 X, .int .i64 S, .int .i64 P, .bool Z, .bool N, .bool C, .bool I], .agg #[.int .i64 12, .int .i64 arg], .int .i64 v] w fun e w' => e = .returned (.tuple #[.agg (incS (⟨A, X, S, P, Z, N, C, I⟩ : Cp)).cells, .bool true]) ∧ Below w.heap.size w w' := by
 obtain ⟨bq, hbq, ebq⟩ := sbyte_ex X
 have Hbq := Aside0.mk hbq
 clear hbq
 obtain ⟨s1, sz, sn, hf, ek⟩ := setx_sx (⟨A, X, S, P, Z, N, C, I⟩ : Cp) (wrap64 (bq + 1))
 unfold incS
 simp only [ebq]
 rw [ek]
 clear ek ebq
 have HF := Aside0.mk hf
 clear hf
 have hu38 := Try.underlying38
 have hu68 := Try.underlying68
 go_enter Try.func93, Try.ntmps93
 go_wp2_with (first | ((with_reducible refine gate_dst (N := 3) rfl ?_); refine bx (N := 3) (cs := #[.int .i64 A, .int .i64 X, .int .i64 S, .int .i64 P, .bool Z, .bool N, .bool C, .bool I]) (t := 38) ?_; intro g3 hg w1 hbox hb; have A3 := Aside0.mk hbox; have HB := Aside0.mk (below_step (Below.refl w.heap.size w) hb); have G3 : Aside0 (w.heap.size ≤ g3) := ⟨by rw [hg]; exact Nat.le_refl _⟩; clear hbox hb hg) | ((with_reducible refine gate_dst (N := 4) rfl ?_); refine bx (N := 4) (cs := #[.int .i64 12, .int .i64 arg]) (t := 68) ?_; intro g4 hg w2 hbox hb; have B3 := Aside0.mk (blk_below A3.out hb); have B4 := Aside0.mk hbox; have HB2 := Aside0.mk (below_step HB.out hb); clear hbox hb hg A3 HB; have HB := HB2; clear HB2) | ((with_reducible refine gate_dst (N := 6) rfl ?_); refine bx (N := 6) (cs := #[.int .i64 0, .int .i64 0, .int .i64 0, .int .i64 0, .bool false, .bool false, .bool false, .bool false]) (t := 38) ?_; intro g6 hg w3 hbox hb; have n3 : g3 ≠ g6 := (by rw [hg]; exact Nat.ne_of_lt (blk_lt B3.out)); have n6 : g6 ≠ g3 := Ne.symm n3; have NE := Aside0.mk n6; have HC := Aside0.mk (blk_below B3.out hb); have HG := Aside0.mk (blk_below B4.out hb); have HR := Aside0.mk hbox; have G6 : Aside0 (w.heap.size ≤ g6) := ⟨by rw [hg]; exact below_size HB.out⟩; have HB2 := Aside0.mk (below_step HB.out hb); clear hbox hb hg B3 B4 HB; have HB := HB2; clear HB2; obtain ⟨⟨y0, y1, y2, y3, y4, y5, y6, y7⟩, ⟨fy0, fy1, fy2, fy3, fy4, fy5, fy6, fy7⟩⟩ := cells8 (HC.out); have z0 : w3.cell? ⟨g4, 0, none⟩ = some (.int .i64 12) := (blk_cell HG.out 0).trans rfl; have z1 : w3.cell? ⟨g4, 1, none⟩ = some (.int .i64 arg) := (blk_cell HG.out 1).trans rfl; obtain ⟨⟨r0, r1, r2, r3, r4, r5, r6, r7⟩, ⟨fr0, fr1, fr2, fr3, fr4, fr5, fr6, fr7⟩⟩ := cells8 (HR.out)))
 refine free_ (n := 8) (e := 6) (g := 1) (T := (true, [([], []), ([], []), ([1], [1]), ([2], [2]), ([3], [3]), ([0, 4, 3], [0, 4]), ([5, 5, 0, 1, 2, 3, 4, 5], [5]), ([6, 0, 1, 2, 3, 4, 5, 6], [])])) #[true, true, true, true, true, true, false, false] #[true, false, true, true, true, true, false, false] [124, 125, 126, 127, 128, 129] (fun j u w' => match j with
  | 0 => u = .agg #[.int .i64 A, .int .i64 X, .int .i64 S, .int .i64 P, .bool Z, .bool N, .bool C, .bool I]
  | 1 => u = .pointer (some ⟨g3, 1, none⟩)
  | 2 => u = .int .i64 X
  | 3 => u = .int .i64 bq
  | 4 => u = .int .i64 (wrap64 (bq + 1))
  | 5 => u = .agg #[.int .i64 A, .int .i64 s1, .int .i64 S, .int .i64 P, .bool sz, .bool sn, .bool C, .bool I]
  | _ => False)
  (by kernel_rfl) rfl (by kernel_rfl) (by kernel_rfl) (by kernel_rfl) (any_of (T := (true, [([], []), ([], []), ([1], [1]), ([2], [2]), ([3], [3]), ([0, 4, 3], [0, 4]), ([5, 5, 0, 1, 2, 3, 4, 5], [5]), ([6, 0, 1, 2, 3, 4, 5, 6], [])])) (by kernel_rfl) (by kernel_rfl)) (fun _ _ _ _ h => h) ?stalu12 ?spalu12 ?laalu12 ?enalu12
 case stalu12 =>
  intro j u W W' h hb
  exact h
 case spalu12 =>
  intro i hi o ho a W hB hout hneed K hK
  have HBW := Aside0.mk hB
  have hcase : i = 0 ∨ i = 1 ∨ i = 2 ∨ i = 3 ∨ i = 4 ∨ i = 5 := by omega
  clear hB
  rcases hcase with rfl | rfl | rfl | rfl | rfl | rfl
  ·obtain rfl := Option.some.inj ho
   have h3 : a.eval (.tmp 3) = .pointer (some ⟨g3, 0, none⟩) := hout 3 (by decide)
   have h3' := eval_get h3
   have hb := blk_below (w := w3.drew) HC.out HBW.out
   obtain ⟨⟨d0, d1, d2, d3, d4, d5, d6, d7⟩, -⟩ := cells8 hb
   refine value_ (v := .agg #[.int .i64 A, .int .i64 X, .int .i64 S, .int .i64 P, .bool Z, .bool N, .bool C, .bool I]) (w1 := W) (by rfl) rfl ?_ (hK.out _ _ (Below.refl _ _) rfl)
   go_simp
  ·obtain rfl := Option.some.inj ho
   have h3 : a.eval (.tmp 3) = .pointer (some ⟨g3, 0, none⟩) := hout 3 (by decide)
   have h3' := eval_get h3
   refine value_ (v := .pointer (some ⟨g3, 1, none⟩)) (w1 := W) (by rfl) rfl ?_ (hK.out _ _ (Below.refl _ _) rfl)
   go_simp
  ·obtain rfl := Option.some.inj ho
   have e1 : a.eval (.tmp 125) = _ := hneed 1 (by decide)
   have e1' := eval_get e1
   have hb := blk_below (w := w3.drew) HC.out HBW.out
   have d1 := (blk_cell hb 1).trans rfl
   refine value_ (v := .int .i64 X) (w1 := W) (by rfl) rfl ?_ (hK.out _ _ (Below.refl _ _) rfl)
   go_simp
  ·obtain rfl := Option.some.inj ho
   have e2 : a.eval (.tmp 126) = _ := hneed 2 (by decide)
   have e2' := eval_get e2
   refine goes_ Try.func68 (by kernel_rfl) rfl #[.int .i64 X] (by rfl) rfl rfl (by simp only [List.map_toArray, List.map_cons, List.map_nil, e2]) ?_
   refine (spec_Byte.calls X bq W Hbq.out).mono ?_
   rintro e w' ⟨rfl, nd, rfl⟩
   exact ⟨_, rfl, hK.out _ _ (pw_below_drewN (Below.refl _ _) nd) rfl⟩
  ·obtain rfl := Option.some.inj ho
   have e3 : a.eval (.tmp 127) = _ := hneed 3 (by decide)
   have e3' := eval_get e3
   refine value_ (v := .int .i64 (wrap64 (bq + 1))) (w1 := W) (by rfl) rfl ?_ (hK.out _ _ (Below.refl _ _) rfl)
   go_simp
   first | done | rfl | simp only [i64_w]
  ·obtain rfl := Option.some.inj ho
   have e0 : a.eval (.tmp 124) = _ := hneed 0 (by decide)
   have e0' := eval_get e0
   have e4 : a.eval (.tmp 128) = _ := hneed 4 (by decide)
   have e4' := eval_get e4
   refine goes_ Try.func108 (by kernel_rfl) rfl #[.agg #[.int .i64 A, .int .i64 X, .int .i64 S, .int .i64 P, .bool Z, .bool N, .bool C, .bool I], .int .i64 (wrap64 (bq + 1))] (by rfl) rfl rfl (by simp only [List.map_toArray, List.map_cons, List.map_nil, e0, e4]) ?_
   refine (spec_SetX.calls A X S P Z N C I _ A s1 S P sz sn C I W HF.out).mono ?_
   rintro e w' ⟨rfl, hb⟩
   exact ⟨_, rfl, hK.out _ _ hb rfl⟩
 case laalu12 =>
  intro o ho a W hout hneed
  obtain rfl := Option.some.inj ho
  have h3 : a.eval (.tmp 3) = .pointer (some ⟨g3, 0, none⟩) := hout 3 (by decide)
  have h3' := eval_get h3
  refine ⟨.pointer (some ⟨g3, 1, none⟩), rfl, Or.inl ⟨by rfl, ?_⟩⟩
  intro w'
  go_simp
 intro f vs W2 hB hE
 have HBW := Aside0.mk hB
 clear hB
 have q0 : vs 0 = _ := hE 0 (by decide)
 have q1 : vs 1 = _ := hE 1 (by decide)
 have q2 : vs 2 = _ := hE 2 (by decide)
 have q3 : vs 3 = _ := hE 3 (by decide)
 have q4 : vs 4 = _ := hE 4 (by decide)
 have q5 : vs 5 = _ := hE 5 (by decide)
 show wpAnyLast _ _ _ _ _ _ (f + 2) _ (putAll _ [(124, vs 0), (125, vs 1), (126, vs 2), (127, vs 3), (128, vs 4), (129, vs 5)]) W2
 rw [q0, q1, q2, q3, q4, q5]
 clear q0 q1 q2 q3 q4 q5 hE
 refine norm_ (a' := ?_) ?_ ?_
 rotate_left
 ·simp only [putAll, Act.put, List.setIfInBounds_toArray, List.set_cons_zero, List.set_cons_succ]
  rfl
 refine one_ (i := 6) (N := none) #[true, true, true, true, true, true, true, false] rfl rfl (by kernel_rfl) (by decide) (fun K hK => ?_)
 refine skip_ (w1 := ?_) (by rfl) rfl ?_ ?_
 rotate_left
 ·skip
  have hcW := blk_below (w := w3.drew) HR.out HBW.out
  obtain ⟨⟨t0, t1, t2, t3, t4, t5, t6, t7⟩, ⟨ft0, ft1, ft2, ft3, ft4, ft5, ft6, ft7⟩⟩ := cells8 (hcW)
  go_simp
  rfl
 refine hK.out _ _ trivial (fun _ => ?_)
 clear hK K
 refine pure_ (i := 7) (N := some 7) (v := ?_) (a' := ?_) #[true, true, true, true, true, true, true, true] rfl rfl (by kernel_rfl) (fun _ _ _ h => h) (Or.inl ⟨by rfl, ?_⟩) ?_ ?_
 rotate_left
 ·intro w'
  go_simp
  with_reducible rfl
 rotate_left
 ·simp only [Act.put, List.setIfInBounds_toArray, List.set_cons_zero, List.set_cons_succ, i64_w, i32_w]
  rfl
 refine done_ (by kernel_rfl) ?_
 go_wp2
 refine bodyPost_ret (results_ct rfl _ _ g6 38 #[.int .i64 A, .int .i64 s1, .int .i64 S, .int .i64 P, .bool sz, .bool sn, .bool C, .bool I] (0, 0) _ rfl (put8 (blk_below (w := w3.drew) HR.out HBW.out) _ _ _ _ _ _ _ _) hu38 rfl (by kernel_rfl)) rfl ?_
 exact ⟨rfl, below8 (below_step (w := w) (W := w3.drew) (below_drew1 HB.out) HBW.out) G6.out _ _ _ _ _ _ _ _⟩
set_option maxRecDepth 100000 in
set_option maxHeartbeats 4000000 in
theorem alu_13 (A X S P : Int) (Z N C I : Bool) (arg v : Int) (w : World) :
  Calls Try.prog 93 #[.agg #[.int .i64 A, .int .i64 X, .int .i64 S, .int .i64 P, .bool Z, .bool N, .bool C, .bool I], .agg #[.int .i64 13, .int .i64 arg], .int .i64 v] w fun e w' => e = .returned (.tuple #[.agg (decS (⟨A, X, S, P, Z, N, C, I⟩ : Cp)).cells, .bool true]) ∧ Below w.heap.size w w' := by
 obtain ⟨bq, hbq, ebq⟩ := sbyte_ex X
 have Hbq := Aside0.mk hbq
 clear hbq
 obtain ⟨s1, sz, sn, hf, ek⟩ := setx_sx (⟨A, X, S, P, Z, N, C, I⟩ : Cp) (wrap64 (bq - 1))
 unfold decS
 simp only [ebq]
 rw [ek]
 clear ek ebq
 have HF := Aside0.mk hf
 clear hf
 have hu38 := Try.underlying38
 have hu68 := Try.underlying68
 go_enter Try.func93, Try.ntmps93
 go_wp2_with (first | ((with_reducible refine gate_dst (N := 3) rfl ?_); refine bx (N := 3) (cs := #[.int .i64 A, .int .i64 X, .int .i64 S, .int .i64 P, .bool Z, .bool N, .bool C, .bool I]) (t := 38) ?_; intro g3 hg w1 hbox hb; have A3 := Aside0.mk hbox; have HB := Aside0.mk (below_step (Below.refl w.heap.size w) hb); have G3 : Aside0 (w.heap.size ≤ g3) := ⟨by rw [hg]; exact Nat.le_refl _⟩; clear hbox hb hg) | ((with_reducible refine gate_dst (N := 4) rfl ?_); refine bx (N := 4) (cs := #[.int .i64 13, .int .i64 arg]) (t := 68) ?_; intro g4 hg w2 hbox hb; have B3 := Aside0.mk (blk_below A3.out hb); have B4 := Aside0.mk hbox; have HB2 := Aside0.mk (below_step HB.out hb); clear hbox hb hg A3 HB; have HB := HB2; clear HB2) | ((with_reducible refine gate_dst (N := 6) rfl ?_); refine bx (N := 6) (cs := #[.int .i64 0, .int .i64 0, .int .i64 0, .int .i64 0, .bool false, .bool false, .bool false, .bool false]) (t := 38) ?_; intro g6 hg w3 hbox hb; have n3 : g3 ≠ g6 := (by rw [hg]; exact Nat.ne_of_lt (blk_lt B3.out)); have n6 : g6 ≠ g3 := Ne.symm n3; have NE := Aside0.mk n6; have HC := Aside0.mk (blk_below B3.out hb); have HG := Aside0.mk (blk_below B4.out hb); have HR := Aside0.mk hbox; have G6 : Aside0 (w.heap.size ≤ g6) := ⟨by rw [hg]; exact below_size HB.out⟩; have HB2 := Aside0.mk (below_step HB.out hb); clear hbox hb hg B3 B4 HB; have HB := HB2; clear HB2; obtain ⟨⟨y0, y1, y2, y3, y4, y5, y6, y7⟩, ⟨fy0, fy1, fy2, fy3, fy4, fy5, fy6, fy7⟩⟩ := cells8 (HC.out); have z0 : w3.cell? ⟨g4, 0, none⟩ = some (.int .i64 13) := (blk_cell HG.out 0).trans rfl; have z1 : w3.cell? ⟨g4, 1, none⟩ = some (.int .i64 arg) := (blk_cell HG.out 1).trans rfl; obtain ⟨⟨r0, r1, r2, r3, r4, r5, r6, r7⟩, ⟨fr0, fr1, fr2, fr3, fr4, fr5, fr6, fr7⟩⟩ := cells8 (HR.out)))
 refine free_ (n := 8) (e := 6) (g := 1) (T := (true, [([], []), ([], []), ([1], [1]), ([2], [2]), ([3], [3]), ([0, 4, 3], [0, 4]), ([5, 5, 0, 1, 2, 3, 4, 5], [5]), ([6, 0, 1, 2, 3, 4, 5, 6], [])])) #[true, true, true, true, true, true, false, false] #[true, false, true, true, true, true, false, false] [132, 133, 134, 135, 136, 137] (fun j u w' => match j with
  | 0 => u = .agg #[.int .i64 A, .int .i64 X, .int .i64 S, .int .i64 P, .bool Z, .bool N, .bool C, .bool I]
  | 1 => u = .pointer (some ⟨g3, 1, none⟩)
  | 2 => u = .int .i64 X
  | 3 => u = .int .i64 bq
  | 4 => u = .int .i64 (wrap64 (bq - 1))
  | 5 => u = .agg #[.int .i64 A, .int .i64 s1, .int .i64 S, .int .i64 P, .bool sz, .bool sn, .bool C, .bool I]
  | _ => False)
  (by kernel_rfl) rfl (by kernel_rfl) (by kernel_rfl) (by kernel_rfl) (any_of (T := (true, [([], []), ([], []), ([1], [1]), ([2], [2]), ([3], [3]), ([0, 4, 3], [0, 4]), ([5, 5, 0, 1, 2, 3, 4, 5], [5]), ([6, 0, 1, 2, 3, 4, 5, 6], [])])) (by kernel_rfl) (by kernel_rfl)) (fun _ _ _ _ h => h) ?stalu13 ?spalu13 ?laalu13 ?enalu13
 case stalu13 =>
  intro j u W W' h hb
  exact h
 case spalu13 =>
  intro i hi o ho a W hB hout hneed K hK
  have HBW := Aside0.mk hB
  have hcase : i = 0 ∨ i = 1 ∨ i = 2 ∨ i = 3 ∨ i = 4 ∨ i = 5 := by omega
  clear hB
  rcases hcase with rfl | rfl | rfl | rfl | rfl | rfl
  ·obtain rfl := Option.some.inj ho
   have h3 : a.eval (.tmp 3) = .pointer (some ⟨g3, 0, none⟩) := hout 3 (by decide)
   have h3' := eval_get h3
   have hb := blk_below (w := w3.drew) HC.out HBW.out
   obtain ⟨⟨d0, d1, d2, d3, d4, d5, d6, d7⟩, -⟩ := cells8 hb
   refine value_ (v := .agg #[.int .i64 A, .int .i64 X, .int .i64 S, .int .i64 P, .bool Z, .bool N, .bool C, .bool I]) (w1 := W) (by rfl) rfl ?_ (hK.out _ _ (Below.refl _ _) rfl)
   go_simp
  ·obtain rfl := Option.some.inj ho
   have h3 : a.eval (.tmp 3) = .pointer (some ⟨g3, 0, none⟩) := hout 3 (by decide)
   have h3' := eval_get h3
   refine value_ (v := .pointer (some ⟨g3, 1, none⟩)) (w1 := W) (by rfl) rfl ?_ (hK.out _ _ (Below.refl _ _) rfl)
   go_simp
  ·obtain rfl := Option.some.inj ho
   have e1 : a.eval (.tmp 133) = _ := hneed 1 (by decide)
   have e1' := eval_get e1
   have hb := blk_below (w := w3.drew) HC.out HBW.out
   have d1 := (blk_cell hb 1).trans rfl
   refine value_ (v := .int .i64 X) (w1 := W) (by rfl) rfl ?_ (hK.out _ _ (Below.refl _ _) rfl)
   go_simp
  ·obtain rfl := Option.some.inj ho
   have e2 : a.eval (.tmp 134) = _ := hneed 2 (by decide)
   have e2' := eval_get e2
   refine goes_ Try.func68 (by kernel_rfl) rfl #[.int .i64 X] (by rfl) rfl rfl (by simp only [List.map_toArray, List.map_cons, List.map_nil, e2]) ?_
   refine (spec_Byte.calls X bq W Hbq.out).mono ?_
   rintro e w' ⟨rfl, nd, rfl⟩
   exact ⟨_, rfl, hK.out _ _ (pw_below_drewN (Below.refl _ _) nd) rfl⟩
  ·obtain rfl := Option.some.inj ho
   have e3 : a.eval (.tmp 135) = _ := hneed 3 (by decide)
   have e3' := eval_get e3
   refine value_ (v := .int .i64 (wrap64 (bq - 1))) (w1 := W) (by rfl) rfl ?_ (hK.out _ _ (Below.refl _ _) rfl)
   go_simp
   first | done | rfl | simp only [i64_w]
  ·obtain rfl := Option.some.inj ho
   have e0 : a.eval (.tmp 132) = _ := hneed 0 (by decide)
   have e0' := eval_get e0
   have e4 : a.eval (.tmp 136) = _ := hneed 4 (by decide)
   have e4' := eval_get e4
   refine goes_ Try.func108 (by kernel_rfl) rfl #[.agg #[.int .i64 A, .int .i64 X, .int .i64 S, .int .i64 P, .bool Z, .bool N, .bool C, .bool I], .int .i64 (wrap64 (bq - 1))] (by rfl) rfl rfl (by simp only [List.map_toArray, List.map_cons, List.map_nil, e0, e4]) ?_
   refine (spec_SetX.calls A X S P Z N C I _ A s1 S P sz sn C I W HF.out).mono ?_
   rintro e w' ⟨rfl, hb⟩
   exact ⟨_, rfl, hK.out _ _ hb rfl⟩
 case laalu13 =>
  intro o ho a W hout hneed
  obtain rfl := Option.some.inj ho
  have h3 : a.eval (.tmp 3) = .pointer (some ⟨g3, 0, none⟩) := hout 3 (by decide)
  have h3' := eval_get h3
  refine ⟨.pointer (some ⟨g3, 1, none⟩), rfl, Or.inl ⟨by rfl, ?_⟩⟩
  intro w'
  go_simp
 intro f vs W2 hB hE
 have HBW := Aside0.mk hB
 clear hB
 have q0 : vs 0 = _ := hE 0 (by decide)
 have q1 : vs 1 = _ := hE 1 (by decide)
 have q2 : vs 2 = _ := hE 2 (by decide)
 have q3 : vs 3 = _ := hE 3 (by decide)
 have q4 : vs 4 = _ := hE 4 (by decide)
 have q5 : vs 5 = _ := hE 5 (by decide)
 show wpAnyLast _ _ _ _ _ _ (f + 2) _ (putAll _ [(132, vs 0), (133, vs 1), (134, vs 2), (135, vs 3), (136, vs 4), (137, vs 5)]) W2
 rw [q0, q1, q2, q3, q4, q5]
 clear q0 q1 q2 q3 q4 q5 hE
 refine norm_ (a' := ?_) ?_ ?_
 rotate_left
 ·simp only [putAll, Act.put, List.setIfInBounds_toArray, List.set_cons_zero, List.set_cons_succ]
  rfl
 refine one_ (i := 6) (N := none) #[true, true, true, true, true, true, true, false] rfl rfl (by kernel_rfl) (by decide) (fun K hK => ?_)
 refine skip_ (w1 := ?_) (by rfl) rfl ?_ ?_
 rotate_left
 ·skip
  have hcW := blk_below (w := w3.drew) HR.out HBW.out
  obtain ⟨⟨t0, t1, t2, t3, t4, t5, t6, t7⟩, ⟨ft0, ft1, ft2, ft3, ft4, ft5, ft6, ft7⟩⟩ := cells8 (hcW)
  go_simp
  rfl
 refine hK.out _ _ trivial (fun _ => ?_)
 clear hK K
 refine pure_ (i := 7) (N := some 7) (v := ?_) (a' := ?_) #[true, true, true, true, true, true, true, true] rfl rfl (by kernel_rfl) (fun _ _ _ h => h) (Or.inl ⟨by rfl, ?_⟩) ?_ ?_
 rotate_left
 ·intro w'
  go_simp
  with_reducible rfl
 rotate_left
 ·simp only [Act.put, List.setIfInBounds_toArray, List.set_cons_zero, List.set_cons_succ, i64_w, i32_w]
  rfl
 refine done_ (by kernel_rfl) ?_
 go_wp2
 refine bodyPost_ret (results_ct rfl _ _ g6 38 #[.int .i64 A, .int .i64 s1, .int .i64 S, .int .i64 P, .bool sz, .bool sn, .bool C, .bool I] (0, 0) _ rfl (put8 (blk_below (w := w3.drew) HR.out HBW.out) _ _ _ _ _ _ _ _) hu38 rfl (by kernel_rfl)) rfl ?_
 exact ⟨rfl, below8 (below_step (w := w) (W := w3.drew) (below_drew1 HB.out) HBW.out) G6.out _ _ _ _ _ _ _ _⟩
set_option maxRecDepth 100000 in
set_option maxHeartbeats 4000000 in
theorem alu_5 (A X S P : Int) (Z N C I : Bool) (arg v : Int) (w : World) :
  Calls Try.prog 93 #[.agg #[.int .i64 A, .int .i64 X, .int .i64 S, .int .i64 P, .bool Z, .bool N, .bool C, .bool I], .agg #[.int .i64 5, .int .i64 arg], .int .i64 v] w fun e w' => e = .returned (.tuple #[.agg (subS (⟨A, X, S, P, Z, N, C, I⟩ : Cp) arg).cells, .bool true]) ∧ Below w.heap.size w w' := by
 obtain ⟨sm, cy, s1, sz, sn, ha, hf, ek⟩ := ssubK_ex (⟨A, X, S, P, Z, N, C, I⟩ : Cp) arg
 rw [ek]
 clear ek
 have HA := Aside0.mk ha
 have HF := Aside0.mk hf
 clear ha hf
 have hu38 := Try.underlying38
 have hu68 := Try.underlying68
 go_enter Try.func93, Try.ntmps93
 go_upto_region 15 with (first | ((with_reducible refine gate_dst (N := 3) rfl ?_); refine bx (N := 3) (cs := #[.int .i64 A, .int .i64 X, .int .i64 S, .int .i64 P, .bool Z, .bool N, .bool C, .bool I]) (t := 38) ?_; intro g3 hg w1 hbox hb; have A3 := Aside0.mk hbox; have HB := Aside0.mk (below_step (Below.refl w.heap.size w) hb); have G3 : Aside0 (w.heap.size ≤ g3) := ⟨by rw [hg]; exact Nat.le_refl _⟩; clear hbox hb hg) | ((with_reducible refine gate_dst (N := 4) rfl ?_); refine bx (N := 4) (cs := #[.int .i64 5, .int .i64 arg]) (t := 68) ?_; intro g4 hg w2 hbox hb; have B3 := Aside0.mk (blk_below A3.out hb); have B4 := Aside0.mk hbox; have HB2 := Aside0.mk (below_step HB.out hb); clear hbox hb hg A3 HB; have HB := HB2; clear HB2) | ((with_reducible refine gate_dst (N := 6) rfl ?_); refine bx (N := 6) (cs := #[.int .i64 0, .int .i64 0, .int .i64 0, .int .i64 0, .bool false, .bool false, .bool false, .bool false]) (t := 38) ?_; intro g6 hg w3 hbox hb; have n3 : g3 ≠ g6 := (by rw [hg]; exact Nat.ne_of_lt (blk_lt B3.out)); have n6 : g6 ≠ g3 := Ne.symm n3; have NE := Aside0.mk n6; have HC := Aside0.mk (blk_below B3.out hb); have HG := Aside0.mk (blk_below B4.out hb); have HR := Aside0.mk hbox; have G6 : Aside0 (w.heap.size ≤ g6) := ⟨by rw [hg]; exact below_size HB.out⟩; have HB2 := Aside0.mk (below_step HB.out hb); clear hbox hb hg B3 B4 HB; have HB := HB2; clear HB2; obtain ⟨⟨y0, y1, y2, y3, y4, y5, y6, y7⟩, ⟨fy0, fy1, fy2, fy3, fy4, fy5, fy6, fy7⟩⟩ := cells8 (HC.out); have z0 : w3.cell? ⟨g4, 0, none⟩ = some (.int .i64 5) := (blk_cell HG.out 0).trans rfl; have z1 : w3.cell? ⟨g4, 1, none⟩ = some (.int .i64 arg) := (blk_cell HG.out 1).trans rfl; obtain ⟨⟨r0, r1, r2, r3, r4, r5, r6, r7⟩, ⟨fr0, fr1, fr2, fr3, fr4, fr5, fr6, fr7⟩⟩ := cells8 (HR.out)) | (go_at_call 106; refine (spec_Sub8.calls A arg C sm cy _ HA.out).mono ?_; rintro e w4 ⟨rfl, nd, rfl⟩) | (go_at_call 96; refine (spec_SetA.calls A X S P Z N C I _ s1 X S P sz sn C I _ HF.out).mono ?_; rintro e w5 ⟨rfl, hb⟩; have HC2 := Aside0.mk (blk_below (w := w3.drewN nd) HC.out hb); have HR2 := Aside0.mk (blk_below (w := w3.drewN nd) HR.out hb); have HB2 := Aside0.mk (below_step (pw_below_drewN HB.out nd) hb); clear hb; obtain ⟨⟨u0, u1, u2, u3, u4, u5, u6, u7⟩, ⟨fu0, fu1, fu2, fu3, fu4, fu5, fu6, fu7⟩⟩ := cells8 (HC2.out); obtain ⟨⟨sc0, sc1, sc2, sc3, sc4, sc5, sc6, sc7⟩, ⟨fsc0, fsc1, fsc2, fsc3, fsc4, fsc5, fsc6, fsc7⟩⟩ := cells8 (HR2.out)))
 have HC3 : Aside0 ((((((((((w5.setCell ⟨g3, 0, none⟩ (.int .i64 s1)).setCell ⟨g3, 1, none⟩ (.int .i64 X)).setCell ⟨g3, 2, none⟩ (.int .i64 S)).setCell ⟨g3, 3, none⟩ (.int .i64 P)).setCell ⟨g3, 4, none⟩ (.bool sz)).setCell ⟨g3, 5, none⟩ (.bool sn)).setCell ⟨g3, 6, none⟩ (.bool C)).setCell ⟨g3, 7, none⟩ (.bool I)).setCell ⟨g3, 6, none⟩ (.bool cy)).heap[g3]? = some (.cells #[.int .i64 s1, .int .i64 X, .int .i64 S, .int .i64 P, .bool sz, .bool sn, .bool cy, .bool I] 38 (0, 0))) := ⟨blk_put (put8 HC2.out _ _ _ _ _ _ _ _) 6 _ rfl⟩
 have HR3 : Aside0 ((((((((((w5.setCell ⟨g3, 0, none⟩ (.int .i64 s1)).setCell ⟨g3, 1, none⟩ (.int .i64 X)).setCell ⟨g3, 2, none⟩ (.int .i64 S)).setCell ⟨g3, 3, none⟩ (.int .i64 P)).setCell ⟨g3, 4, none⟩ (.bool sz)).setCell ⟨g3, 5, none⟩ (.bool sn)).setCell ⟨g3, 6, none⟩ (.bool C)).setCell ⟨g3, 7, none⟩ (.bool I)).setCell ⟨g3, 6, none⟩ (.bool cy)).heap[g6]? = some (.cells #[.int .i64 0, .int .i64 0, .int .i64 0, .int .i64 0, .bool false, .bool false, .bool false, .bool false] 38 (0, 0))) := ⟨far9 HR2.out NE.out _ _ _ _ _ _ _ _ _⟩
 have HB3 : Aside0 (Below w.heap.size w (((((((((w5.setCell ⟨g3, 0, none⟩ (.int .i64 s1)).setCell ⟨g3, 1, none⟩ (.int .i64 X)).setCell ⟨g3, 2, none⟩ (.int .i64 S)).setCell ⟨g3, 3, none⟩ (.int .i64 P)).setCell ⟨g3, 4, none⟩ (.bool sz)).setCell ⟨g3, 5, none⟩ (.bool sn)).setCell ⟨g3, 6, none⟩ (.bool C)).setCell ⟨g3, 7, none⟩ (.bool I)).setCell ⟨g3, 6, none⟩ (.bool cy))) := ⟨below_set (below8 HB2.out G3.out _ _ _ _ _ _ _ _) G3.out⟩
 generalize (((((((((w5.setCell ⟨g3, 0, none⟩ (.int .i64 s1)).setCell ⟨g3, 1, none⟩ (.int .i64 X)).setCell ⟨g3, 2, none⟩ (.int .i64 S)).setCell ⟨g3, 3, none⟩ (.int .i64 P)).setCell ⟨g3, 4, none⟩ (.bool sz)).setCell ⟨g3, 5, none⟩ (.bool sn)).setCell ⟨g3, 6, none⟩ (.bool C)).setCell ⟨g3, 7, none⟩ (.bool I)).setCell ⟨g3, 6, none⟩ (.bool cy)) = w6 at HC3 HR3 HB3 ⊢
 obtain ⟨⟨wc0, wc1, wc2, wc3, wc4, wc5, wc6, wc7⟩, ⟨fwc0, fwc1, fwc2, fwc3, fwc4, fwc5, fwc6, fwc7⟩⟩ := cells8 (HC3.out)
 obtain ⟨⟨wr0, wr1, wr2, wr3, wr4, wr5, wr6, wr7⟩, ⟨fwr0, fwr1, fwr2, fwr3, fwr4, fwr5, fwr6, fwr7⟩⟩ := cells8 (HR3.out)
 go_wp2
 refine bodyPost_ret (results_ct rfl _ _ g6 38 #[.int .i64 s1, .int .i64 X, .int .i64 S, .int .i64 P, .bool sz, .bool sn, .bool cy, .bool I] (0, 0) _ rfl (put8 HR3.out _ _ _ _ _ _ _ _) hu38 rfl (by kernel_rfl)) rfl ?_
 exact ⟨rfl, below8 HB3.out G6.out _ _ _ _ _ _ _ _⟩
set_option maxRecDepth 100000 in
set_option maxHeartbeats 4000000 in
theorem alu_9 (A X S P : Int) (Z N C I : Bool) (arg v : Int) (w : World) :
  Calls Try.prog 93 #[.agg #[.int .i64 A, .int .i64 X, .int .i64 S, .int .i64 P, .bool Z, .bool N, .bool C, .bool I], .agg #[.int .i64 9, .int .i64 arg], .int .i64 v] w fun e w' => e = .returned (.tuple #[.agg (cmpS (⟨A, X, S, P, Z, N, C, I⟩ : Cp) arg).cells, .bool true]) ∧ Below w.heap.size w w' := by
 obtain ⟨ba, hba, eba⟩ := sbyte_ex A
 have Hba := Aside0.mk hba
 clear hba
 obtain ⟨bb, hbb, ebb⟩ := sbyte_ex arg
 have Hbb := Aside0.mk hbb
 clear hbb
 obtain ⟨sz, sn, hs, e1, e2⟩ := ssigns_ex (wrap64 (ba - bb))
 unfold cmpS
 simp only [eba, ebb, e1, e2]
 clear eba ebb e1 e2
 have HS := Aside0.mk hs
 clear hs
 have hu38 := Try.underlying38
 have hu68 := Try.underlying68
 go_enter Try.func93, Try.ntmps93
 go_wp2_with (first | ((with_reducible refine gate_dst (N := 3) rfl ?_); refine bx (N := 3) (cs := #[.int .i64 A, .int .i64 X, .int .i64 S, .int .i64 P, .bool Z, .bool N, .bool C, .bool I]) (t := 38) ?_; intro g3 hg w1 hbox hb; have A3 := Aside0.mk hbox; have HB := Aside0.mk (below_step (Below.refl w.heap.size w) hb); have G3 : Aside0 (w.heap.size ≤ g3) := ⟨by rw [hg]; exact Nat.le_refl _⟩; clear hbox hb hg) | ((with_reducible refine gate_dst (N := 4) rfl ?_); refine bx (N := 4) (cs := #[.int .i64 9, .int .i64 arg]) (t := 68) ?_; intro g4 hg w2 hbox hb; have B3 := Aside0.mk (blk_below A3.out hb); have B4 := Aside0.mk hbox; have HB2 := Aside0.mk (below_step HB.out hb); clear hbox hb hg A3 HB; have HB := HB2; clear HB2) | ((with_reducible refine gate_dst (N := 6) rfl ?_); refine bx (N := 6) (cs := #[.int .i64 0, .int .i64 0, .int .i64 0, .int .i64 0, .bool false, .bool false, .bool false, .bool false]) (t := 38) ?_; intro g6 hg w3 hbox hb; have n3 : g3 ≠ g6 := (by rw [hg]; exact Nat.ne_of_lt (blk_lt B3.out)); have n6 : g6 ≠ g3 := Ne.symm n3; have NE := Aside0.mk n6; have HC := Aside0.mk (blk_below B3.out hb); have HG := Aside0.mk (blk_below B4.out hb); have HR := Aside0.mk hbox; have G6 : Aside0 (w.heap.size ≤ g6) := ⟨by rw [hg]; exact below_size HB.out⟩; have HB2 := Aside0.mk (below_step HB.out hb); clear hbox hb hg B3 B4 HB; have HB := HB2; clear HB2; obtain ⟨⟨y0, y1, y2, y3, y4, y5, y6, y7⟩, ⟨fy0, fy1, fy2, fy3, fy4, fy5, fy6, fy7⟩⟩ := cells8 (HC.out); have z0 : w3.cell? ⟨g4, 0, none⟩ = some (.int .i64 9) := (blk_cell HG.out 0).trans rfl; have z1 : w3.cell? ⟨g4, 1, none⟩ = some (.int .i64 arg) := (blk_cell HG.out 1).trans rfl; obtain ⟨⟨r0, r1, r2, r3, r4, r5, r6, r7⟩, ⟨fr0, fr1, fr2, fr3, fr4, fr5, fr6, fr7⟩⟩ := cells8 (HR.out)))
 refine free_ (n := 15) (e := 11) (g := 10) (T := (true, [([], []), ([0], [0]), ([1], [1]), ([], []), ([3], [3]), ([4, 2], [4]), ([2, 5], [2, 5]), ([6, 5], [6]), ([7], [7]), ([8], [8]), ([8], [8]), ([0, 1, 2, 3, 4, 5, 6, 7, 8, 9], []), ([11, 9, 7, 0, 1, 2, 3, 4, 5, 6, 7, 8, 9], [9, 11]), ([0, 1, 2, 3, 4, 5, 6, 7, 8, 9, 10, 11, 12], []), ([13, 10, 12, 0, 1, 2, 3, 4, 5, 6, 7, 8, 9, 10, 11, 12], [10, 13])])) #[true, true, true, true, true, true, true, true, true, true, true, false, false, false, false] #[true, true, true, true, true, true, true, true, true, true, false, false, false, false, false] [89, 90, 91, 92, 93, 94, 95, 96, 88, 97, 98] (fun j u w' => match j with
  | 0 => u = .pointer (some ⟨g3, 0, none⟩)
  | 1 => u = .int .i64 A
  | 2 => u = .int .i64 ba
  | 3 => u = .pointer (some ⟨g4, 1, none⟩)
  | 4 => u = .int .i64 arg
  | 5 => u = .int .i64 bb
  | 6 => u = .int .i64 (wrap64 (ba - bb))
  | 7 => u = .tuple #[.bool sz, .bool sn]
  | 8 => u = .tuple #[.bool sz, .bool sn]
  | 9 => u = .bool sz
  | 10 => u = .bool sn
  | _ => False)
  (by kernel_rfl) rfl (by kernel_rfl) (by kernel_rfl) (by kernel_rfl) (any_of (T := (true, [([], []), ([0], [0]), ([1], [1]), ([], []), ([3], [3]), ([4, 2], [4]), ([2, 5], [2, 5]), ([6, 5], [6]), ([7], [7]), ([8], [8]), ([8], [8]), ([0, 1, 2, 3, 4, 5, 6, 7, 8, 9], []), ([11, 9, 7, 0, 1, 2, 3, 4, 5, 6, 7, 8, 9], [9, 11]), ([0, 1, 2, 3, 4, 5, 6, 7, 8, 9, 10, 11, 12], []), ([13, 10, 12, 0, 1, 2, 3, 4, 5, 6, 7, 8, 9, 10, 11, 12], [10, 13])])) (by kernel_rfl) (by kernel_rfl)) (fun _ _ _ _ h => h) ?stalu9a ?spalu9a ?laalu9a ?enalu9a
 case stalu9a =>
  intro j u W W' h hb
  exact h
 case spalu9a =>
  intro i hi o ho a W hB hout hneed K hK
  have HBW := Aside0.mk hB
  have hcase : i = 0 ∨ i = 1 ∨ i = 2 ∨ i = 3 ∨ i = 4 ∨ i = 5 ∨ i = 6 ∨ i = 7 ∨ i = 8 ∨ i = 9 ∨ i = 10 := by omega
  clear hB
  rcases hcase with rfl | rfl | rfl | rfl | rfl | rfl | rfl | rfl | rfl | rfl | rfl
  ·obtain rfl := Option.some.inj ho
   have h3 : a.eval (.tmp 3) = .pointer (some ⟨g3, 0, none⟩) := hout 3 (by decide)
   have h3' := eval_get h3
   refine value_ (v := .pointer (some ⟨g3, 0, none⟩)) (w1 := W) (by rfl) rfl ?_ (hK.out _ _ (Below.refl _ _) rfl)
   go_simp
  ·obtain rfl := Option.some.inj ho
   have e0 : a.eval (.tmp 89) = _ := hneed 0 (by decide)
   have e0' := eval_get e0
   have hb := blk_below (w := w3.drew) HC.out HBW.out
   have d0 := (blk_cell hb 0).trans rfl
   refine value_ (v := .int .i64 A) (w1 := W) (by rfl) rfl ?_ (hK.out _ _ (Below.refl _ _) rfl)
   go_simp
  ·obtain rfl := Option.some.inj ho
   have e1 : a.eval (.tmp 90) = _ := hneed 1 (by decide)
   have e1' := eval_get e1
   refine goes_ Try.func68 (by kernel_rfl) rfl #[.int .i64 A] (by rfl) rfl rfl (by simp only [List.map_toArray, List.map_cons, List.map_nil, e1]) ?_
   refine (spec_Byte.calls A ba W Hba.out).mono ?_
   rintro e w' ⟨rfl, nd, rfl⟩
   exact ⟨_, rfl, hK.out _ _ (pw_below_drewN (Below.refl _ _) nd) rfl⟩
  ·obtain rfl := Option.some.inj ho
   have h4 : a.eval (.tmp 4) = .pointer (some ⟨g4, 0, none⟩) := hout 4 (by decide)
   have h4' := eval_get h4
   refine value_ (v := .pointer (some ⟨g4, 1, none⟩)) (w1 := W) (by rfl) rfl ?_ (hK.out _ _ (Below.refl _ _) rfl)
   go_simp
  ·obtain rfl := Option.some.inj ho
   have e3 : a.eval (.tmp 92) = _ := hneed 3 (by decide)
   have e3' := eval_get e3
   have hb := blk_below (w := w3.drew) HG.out HBW.out
   have d1 := (blk_cell hb 1).trans rfl
   refine value_ (v := .int .i64 arg) (w1 := W) (by rfl) rfl ?_ (hK.out _ _ (Below.refl _ _) rfl)
   go_simp
  ·obtain rfl := Option.some.inj ho
   have e4 : a.eval (.tmp 93) = _ := hneed 4 (by decide)
   have e4' := eval_get e4
   refine goes_ Try.func68 (by kernel_rfl) rfl #[.int .i64 arg] (by rfl) rfl rfl (by simp only [List.map_toArray, List.map_cons, List.map_nil, e4]) ?_
   refine (spec_Byte.calls arg bb W Hbb.out).mono ?_
   rintro e w' ⟨rfl, nd, rfl⟩
   exact ⟨_, rfl, hK.out _ _ (pw_below_drewN (Below.refl _ _) nd) rfl⟩
  ·obtain rfl := Option.some.inj ho
   have e2 : a.eval (.tmp 91) = _ := hneed 2 (by decide)
   have e2' := eval_get e2
   have e5 : a.eval (.tmp 94) = _ := hneed 5 (by decide)
   have e5' := eval_get e5
   refine value_ (v := .int .i64 (wrap64 (ba - bb))) (w1 := W) (by rfl) rfl ?_ (hK.out _ _ (Below.refl _ _) rfl)
   go_simp
   first | done | rfl | simp only [i64_w]
  ·obtain rfl := Option.some.inj ho
   have e6 : a.eval (.tmp 95) = _ := hneed 6 (by decide)
   have e6' := eval_get e6
   refine goes_ Try.func107 (by kernel_rfl) rfl #[.int .i64 (wrap64 (ba - bb))] (by rfl) rfl rfl (by simp only [List.map_toArray, List.map_cons, List.map_nil, e6]) ?_
   refine (spec_Signs.calls (wrap64 (ba - bb)) sz sn W HS.out).mono ?_
   rintro e w' ⟨rfl, nd, rfl⟩
   exact ⟨_, rfl, hK.out _ _ (pw_below_drewN (Below.refl _ _) nd) rfl⟩
  ·obtain rfl := Option.some.inj ho
   have e7 : a.eval (.tmp 96) = _ := hneed 7 (by decide)
   have e7' := eval_get e7
   refine value_ (v := .tuple #[.bool sz, .bool sn]) (w1 := W) (by rfl) rfl ?_ (hK.out _ _ (Below.refl _ _) rfl)
   go_simp
  ·obtain rfl := Option.some.inj ho
   have e8 : a.eval (.tmp 88) = _ := hneed 8 (by decide)
   have e8' := eval_get e8
   refine value_ (v := .bool sz) (w1 := W) (by rfl) rfl ?_ (hK.out _ _ (Below.refl _ _) rfl)
   go_simp
  ·obtain rfl := Option.some.inj ho
   have e8 : a.eval (.tmp 88) = _ := hneed 8 (by decide)
   have e8' := eval_get e8
   refine value_ (v := .bool sn) (w1 := W) (by rfl) rfl ?_ (hK.out _ _ (Below.refl _ _) rfl)
   go_simp
 case laalu9a =>
  intro o ho a W hout hneed
  obtain rfl := Option.some.inj ho
  have e8 : a.eval (.tmp 88) = _ := hneed 8 (by decide)
  have e8' := eval_get e8
  refine ⟨.bool sn, rfl, Or.inl ⟨by rfl, ?_⟩⟩
  intro w'
  go_simp
 intro f vs W2 hB hE
 have HBW := Aside0.mk hB
 clear hB
 have q0 : vs 0 = _ := hE 0 (by decide)
 have q1 : vs 1 = _ := hE 1 (by decide)
 have q2 : vs 2 = _ := hE 2 (by decide)
 have q3 : vs 3 = _ := hE 3 (by decide)
 have q4 : vs 4 = _ := hE 4 (by decide)
 have q5 : vs 5 = _ := hE 5 (by decide)
 have q6 : vs 6 = _ := hE 6 (by decide)
 have q7 : vs 7 = _ := hE 7 (by decide)
 have q8 : vs 8 = _ := hE 8 (by decide)
 have q9 : vs 9 = _ := hE 9 (by decide)
 have q10 : vs 10 = _ := hE 10 (by decide)
 show wpAnyLast _ _ _ _ _ _ (f + 4) _ (putAll _ [(89, vs 0), (90, vs 1), (91, vs 2), (92, vs 3), (93, vs 4), (94, vs 5), (95, vs 6), (96, vs 7), (88, vs 8), (97, vs 9), (98, vs 10)]) W2
 rw [q0, q1, q2, q3, q4, q5, q6, q7, q8, q9, q10]
 clear q0 q1 q2 q3 q4 q5 q6 q7 q8 q9 q10 hE
 refine norm_ (a' := ?_) ?_ ?_
 rotate_left
 ·simp only [putAll, Act.put, List.setIfInBounds_toArray, List.set_cons_zero, List.set_cons_succ]
  rfl
 refine pure_ (i := 11) (N := some 99) (v := ?_) (a' := ?_) #[true, true, true, true, true, true, true, true, true, true, true, true, false, false, false] rfl rfl (by kernel_rfl) (fun _ _ _ h => h) (Or.inl ⟨by rfl, ?_⟩) ?_ ?_
 rotate_left
 ·intro w'
  go_simp
  with_reducible rfl
 rotate_left
 ·simp only [Act.put, List.setIfInBounds_toArray, List.set_cons_zero, List.set_cons_succ, i64_w, i32_w]
  rfl
 refine one_ (i := 12) (N := none) #[true, true, true, true, true, true, true, true, true, true, true, true, true, false, false] rfl rfl (by kernel_rfl) (by decide) (fun K hK => ?_)
 refine skip_ (w1 := ?_) (by rfl) rfl ?_ ?_
 rotate_left
 ·skip
  have hcW := blk_below (w := w3.drew) HC.out HBW.out
  obtain ⟨⟨t0, t1, t2, t3, t4, t5, t6, t7⟩, ⟨ft0, ft1, ft2, ft3, ft4, ft5, ft6, ft7⟩⟩ := cells8 (hcW)
  go_simp
  rfl
 refine hK.out _ _ trivial (fun _ => ?_)
 clear hK K
 refine pure_ (i := 13) (N := some 100) (v := ?_) (a' := ?_) #[true, true, true, true, true, true, true, true, true, true, true, true, true, true, false] rfl rfl (by kernel_rfl) (fun _ _ _ h => h) (Or.inl ⟨by rfl, ?_⟩) ?_ ?_
 rotate_left
 ·intro w'
  go_simp
  with_reducible rfl
 rotate_left
 ·simp only [Act.put, List.setIfInBounds_toArray, List.set_cons_zero, List.set_cons_succ, i64_w, i32_w]
  rfl
 refine one_ (i := 14) (N := none) #[true, true, true, true, true, true, true, true, true, true, true, true, true, true, true] rfl rfl (by kernel_rfl) (by decide) (fun K hK => ?_)
 refine skip_ (w1 := ?_) (by rfl) rfl ?_ ?_
 rotate_left
 ·skip
  have hcW := blk_below (w := w3.drew) HC.out HBW.out
  have hcV := blk_put (cs' := #[.int .i64 A, .int .i64 X, .int .i64 S, .int .i64 P, .bool sz, .bool N, .bool C, .bool I]) hcW 4 (.bool sz) rfl
  obtain ⟨⟨t0, t1, t2, t3, t4, t5, t6, t7⟩, ⟨ft0, ft1, ft2, ft3, ft4, ft5, ft6, ft7⟩⟩ := cells8 (hcV)
  go_simp
  rfl
 refine hK.out _ _ trivial (fun _ => ?_)
 clear hK K
 refine done_ (by kernel_rfl) ?_
 have HC3 : Aside0 (((W2.setCell ⟨g3, 4, none⟩ (.bool sz)).setCell ⟨g3, 5, none⟩ (.bool sn)).heap[g3]? = some (.cells #[.int .i64 A, .int .i64 X, .int .i64 S, .int .i64 P, .bool sz, .bool sn, .bool C, .bool I] 38 (0, 0))) := ⟨blk_put (blk_put (blk_below (w := w3.drew) HC.out HBW.out) 4 _ rfl) 5 _ rfl⟩
 have HG3 : Aside0 (((W2.setCell ⟨g3, 4, none⟩ (.bool sz)).setCell ⟨g3, 5, none⟩ (.bool sn)).heap[g4]? = some (.cells #[.int .i64 9, .int .i64 arg] 68 (0, 0))) := ⟨blk_far (blk_far (blk_below (w := w3.drew) HG.out HBW.out) (blk_ne (blk_below (w := w3.drew) HG.out HBW.out) (blk_below (w := w3.drew) HC.out HBW.out) (by decide)) _) (blk_ne (blk_below (w := w3.drew) HG.out HBW.out) (blk_below (w := w3.drew) HC.out HBW.out) (by decide)) _⟩
 have HR3 : Aside0 (((W2.setCell ⟨g3, 4, none⟩ (.bool sz)).setCell ⟨g3, 5, none⟩ (.bool sn)).heap[g6]? = some (.cells #[.int .i64 0, .int .i64 0, .int .i64 0, .int .i64 0, .bool false, .bool false, .bool false, .bool false] 38 (0, 0))) := ⟨blk_far (blk_far (blk_below (w := w3.drew) HR.out HBW.out) NE.out _) NE.out _⟩
 have HB3 : Aside0 (Below w.heap.size w ((W2.setCell ⟨g3, 4, none⟩ (.bool sz)).setCell ⟨g3, 5, none⟩ (.bool sn))) := ⟨below_set (below_set (below_step (w := w) (W := w3.drew) (below_drew1 HB.out) HBW.out) G3.out) G3.out⟩
 generalize ((W2.setCell ⟨g3, 4, none⟩ (.bool sz)).setCell ⟨g3, 5, none⟩ (.bool sn)) = w6 at HC3 HG3 HR3 HB3 ⊢
 clear HC HG HR HB HBW
 have HC := HC3
 have HG := HG3
 have HR := HR3
 have HB := HB3
 clear HC3 HG3 HR3 HB3
 obtain ⟨⟨wc0, wc1, wc2, wc3, wc4, wc5, wc6, wc7⟩, ⟨fwc0, fwc1, fwc2, fwc3, fwc4, fwc5, fwc6, fwc7⟩⟩ := cells8 (HC.out)
 have wg0 : w6.cell? ⟨g4, 0, none⟩ = some (.int .i64 9) := (blk_cell HG.out 0).trans rfl
 have wg1 : w6.cell? ⟨g4, 1, none⟩ = some (.int .i64 arg) := (blk_cell HG.out 1).trans rfl
 go_wp2
 refine free_ (n := 9) (e := 7) (g := 0) (T := (true, [([], []), ([0], [0]), ([1], [1]), ([], []), ([3], [3]), ([4, 2], [4]), ([2, 5], [2, 5]), ([0, 1, 2, 3, 4, 5, 6], []), ([7, 6, 5, 0, 1, 2, 3, 4, 5, 6], [6, 7])])) #[true, true, true, true, true, true, true, false, false] #[false, true, true, true, true, true, true, false, false] [101, 102, 103, 104, 105, 106, 107] (fun j u w' => match j with
  | 0 => u = .pointer (some ⟨g3, 0, none⟩)
  | 1 => u = .int .i64 A
  | 2 => u = .int .i64 ba
  | 3 => u = .pointer (some ⟨g4, 1, none⟩)
  | 4 => u = .int .i64 arg
  | 5 => u = .int .i64 bb
  | 6 => u = .bool (decide (ba ≥ bb))
  | _ => False)
  (by kernel_rfl) rfl (by kernel_rfl) (by kernel_rfl) (by kernel_rfl) (any_of (T := (true, [([], []), ([0], [0]), ([1], [1]), ([], []), ([3], [3]), ([4, 2], [4]), ([2, 5], [2, 5]), ([0, 1, 2, 3, 4, 5, 6], []), ([7, 6, 5, 0, 1, 2, 3, 4, 5, 6], [6, 7])])) (by kernel_rfl) (by kernel_rfl)) (fun _ _ _ _ h => h) ?stalu9b ?spalu9b ?laalu9b ?enalu9b
 case stalu9b =>
  intro j u W W' h hb
  exact h
 case spalu9b =>
  intro i hi o ho a W hB hout hneed K hK
  have HBW := Aside0.mk hB
  have hcase : i = 0 ∨ i = 1 ∨ i = 2 ∨ i = 3 ∨ i = 4 ∨ i = 5 ∨ i = 6 := by omega
  clear hB
  rcases hcase with rfl | rfl | rfl | rfl | rfl | rfl | rfl
  ·obtain rfl := Option.some.inj ho
   have h3 : a.eval (.tmp 3) = .pointer (some ⟨g3, 0, none⟩) := hout 3 (by decide)
   have h3' := eval_get h3
   refine value_ (v := .pointer (some ⟨g3, 0, none⟩)) (w1 := W) (by rfl) rfl ?_ (hK.out _ _ (Below.refl _ _) rfl)
   go_simp
  ·obtain rfl := Option.some.inj ho
   have e0 : a.eval (.tmp 101) = _ := hneed 0 (by decide)
   have e0' := eval_get e0
   have hb := blk_below (w := w6.drew) HC.out HBW.out
   have d0 := (blk_cell hb 0).trans rfl
   refine value_ (v := .int .i64 A) (w1 := W) (by rfl) rfl ?_ (hK.out _ _ (Below.refl _ _) rfl)
   go_simp
  ·obtain rfl := Option.some.inj ho
   have e1 : a.eval (.tmp 102) = _ := hneed 1 (by decide)
   have e1' := eval_get e1
   refine goes_ Try.func68 (by kernel_rfl) rfl #[.int .i64 A] (by rfl) rfl rfl (by simp only [List.map_toArray, List.map_cons, List.map_nil, e1]) ?_
   refine (spec_Byte.calls A ba W Hba.out).mono ?_
   rintro e w' ⟨rfl, nd, rfl⟩
   exact ⟨_, rfl, hK.out _ _ (pw_below_drewN (Below.refl _ _) nd) rfl⟩
  ·obtain rfl := Option.some.inj ho
   have h4 : a.eval (.tmp 4) = .pointer (some ⟨g4, 0, none⟩) := hout 4 (by decide)
   have h4' := eval_get h4
   refine value_ (v := .pointer (some ⟨g4, 1, none⟩)) (w1 := W) (by rfl) rfl ?_ (hK.out _ _ (Below.refl _ _) rfl)
   go_simp
  ·obtain rfl := Option.some.inj ho
   have e3 : a.eval (.tmp 104) = _ := hneed 3 (by decide)
   have e3' := eval_get e3
   have hb := blk_below (w := w6.drew) HG.out HBW.out
   have d1 := (blk_cell hb 1).trans rfl
   refine value_ (v := .int .i64 arg) (w1 := W) (by rfl) rfl ?_ (hK.out _ _ (Below.refl _ _) rfl)
   go_simp
  ·obtain rfl := Option.some.inj ho
   have e4 : a.eval (.tmp 105) = _ := hneed 4 (by decide)
   have e4' := eval_get e4
   refine goes_ Try.func68 (by kernel_rfl) rfl #[.int .i64 arg] (by rfl) rfl rfl (by simp only [List.map_toArray, List.map_cons, List.map_nil, e4]) ?_
   refine (spec_Byte.calls arg bb W Hbb.out).mono ?_
   rintro e w' ⟨rfl, nd, rfl⟩
   exact ⟨_, rfl, hK.out _ _ (pw_below_drewN (Below.refl _ _) nd) rfl⟩
  ·obtain rfl := Option.some.inj ho
   have e2 : a.eval (.tmp 103) = _ := hneed 2 (by decide)
   have e2' := eval_get e2
   have e5 : a.eval (.tmp 106) = _ := hneed 5 (by decide)
   have e5' := eval_get e5
   refine value_ (v := .bool (decide (ba ≥ bb))) (w1 := W) (by rfl) rfl ?_ (hK.out _ _ (Below.refl _ _) rfl)
   go_simp
   first | done | rfl
 case laalu9b =>
  intro o ho a W hout hneed
  obtain rfl := Option.some.inj ho
  have h3 : a.eval (.tmp 3) = .pointer (some ⟨g3, 0, none⟩) := hout 3 (by decide)
  have h3' := eval_get h3
  refine ⟨.pointer (some ⟨g3, 0, none⟩), rfl, Or.inl ⟨by rfl, ?_⟩⟩
  intro w'
  go_simp
 intro f vs W2 hB hE
 have HBW := Aside0.mk hB
 clear hB
 have q0 : vs 0 = _ := hE 0 (by decide)
 have q1 : vs 1 = _ := hE 1 (by decide)
 have q2 : vs 2 = _ := hE 2 (by decide)
 have q3 : vs 3 = _ := hE 3 (by decide)
 have q4 : vs 4 = _ := hE 4 (by decide)
 have q5 : vs 5 = _ := hE 5 (by decide)
 have q6 : vs 6 = _ := hE 6 (by decide)
 show wpAnyLast _ _ _ _ _ _ (f + 2) _ (putAll _ [(101, vs 0), (102, vs 1), (103, vs 2), (104, vs 3), (105, vs 4), (106, vs 5), (107, vs 6)]) W2
 rw [q0, q1, q2, q3, q4, q5, q6]
 clear q0 q1 q2 q3 q4 q5 q6 hE
 refine norm_ (a' := ?_) ?_ ?_
 rotate_left
 ·simp only [putAll, Act.put, List.setIfInBounds_toArray, List.set_cons_zero, List.set_cons_succ]
  rfl
 refine pure_ (i := 7) (N := some 108) (v := ?_) (a' := ?_) #[true, true, true, true, true, true, true, true, false] rfl rfl (by kernel_rfl) (fun _ _ _ h => h) (Or.inl ⟨by rfl, ?_⟩) ?_ ?_
 rotate_left
 ·intro w'
  go_simp
  with_reducible rfl
 rotate_left
 ·simp only [Act.put, List.setIfInBounds_toArray, List.set_cons_zero, List.set_cons_succ, i64_w, i32_w]
  rfl
 refine one_ (i := 8) (N := none) #[true, true, true, true, true, true, true, true, true] rfl rfl (by kernel_rfl) (by decide) (fun K hK => ?_)
 refine skip_ (w1 := ?_) (by rfl) rfl ?_ ?_
 rotate_left
 ·skip
  have hcW := blk_below (w := w6.drew) HC.out HBW.out
  obtain ⟨⟨t0, t1, t2, t3, t4, t5, t6, t7⟩, ⟨ft0, ft1, ft2, ft3, ft4, ft5, ft6, ft7⟩⟩ := cells8 (hcW)
  go_simp
  rfl
 refine hK.out _ _ trivial (fun _ => ?_)
 clear hK K
 refine done_ (by kernel_rfl) ?_
 have HC3 : Aside0 ((W2.setCell ⟨g3, 6, none⟩ (.bool (decide (ba ≥ bb)))).heap[g3]? = some (.cells #[.int .i64 A, .int .i64 X, .int .i64 S, .int .i64 P, .bool sz, .bool sn, .bool (decide (ba ≥ bb)), .bool I] 38 (0, 0))) := ⟨blk_put (blk_below (w := w6.drew) HC.out HBW.out) 6 _ rfl⟩
 have HR3 : Aside0 ((W2.setCell ⟨g3, 6, none⟩ (.bool (decide (ba ≥ bb)))).heap[g6]? = some (.cells #[.int .i64 0, .int .i64 0, .int .i64 0, .int .i64 0, .bool false, .bool false, .bool false, .bool false] 38 (0, 0))) := ⟨blk_far (blk_below (w := w6.drew) HR.out HBW.out) NE.out _⟩
 have HB3 : Aside0 (Below w.heap.size w (W2.setCell ⟨g3, 6, none⟩ (.bool (decide (ba ≥ bb))))) := ⟨below_set (below_step (w := w) (W := w6.drew) (below_drew1 HB.out) HBW.out) G3.out⟩
 generalize (W2.setCell ⟨g3, 6, none⟩ (.bool (decide (ba ≥ bb)))) = w7 at HC3 HR3 HB3 ⊢
 obtain ⟨⟨xc0, xc1, xc2, xc3, xc4, xc5, xc6, xc7⟩, ⟨fxc0, fxc1, fxc2, fxc3, fxc4, fxc5, fxc6, fxc7⟩⟩ := cells8 (HC3.out)
 obtain ⟨⟨xr0, xr1, xr2, xr3, xr4, xr5, xr6, xr7⟩, ⟨fxr0, fxr1, fxr2, fxr3, fxr4, fxr5, fxr6, fxr7⟩⟩ := cells8 (HR3.out)
 go_wp2
 refine bodyPost_ret (results_ct rfl _ _ g6 38 #[.int .i64 A, .int .i64 X, .int .i64 S, .int .i64 P, .bool sz, .bool sn, .bool (decide (ba ≥ bb)), .bool I] (0, 0) _ rfl (put8 HR3.out _ _ _ _ _ _ _ _) hu38 rfl (by kernel_rfl)) rfl ?_
 exact ⟨rfl, below8 HB3.out G6.out _ _ _ _ _ _ _ _⟩
set_option maxRecDepth 100000 in
set_option maxHeartbeats 4000000 in
theorem alu_no (A X S P : Int) (Z N C I : Bool) (op arg v : Int) (n1 : (op == 1) = false) (n2 : (op == 2) = false) (n14 : (op == 14) = false) (n4 : (op == 4) = false) (n29 : (op == 29) = false) (n5 : (op == 5) = false) (n6 : (op == 6) = false) (n7 : (op == 7) = false) (n8 : (op == 8) = false) (n9 : (op == 9) = false) (n10 : (op == 10) = false) (n11 : (op == 11) = false) (n12 : (op == 12) = false) (n13 : (op == 13) = false) (w : World) :
  Calls Try.prog 93 #[.agg #[.int .i64 A, .int .i64 X, .int .i64 S, .int .i64 P, .bool Z, .bool N, .bool C, .bool I], .agg #[.int .i64 op, .int .i64 arg], .int .i64 v] w fun e w' => e = .returned (.tuple #[.agg (⟨A, X, S, P, Z, N, C, I⟩ : Cp).cells, .bool false]) ∧ Below w.heap.size w w' := by
 have hu38 := Try.underlying38
 have hu68 := Try.underlying68
 go_enter Try.func93, Try.ntmps93
 go_wp2_with (first | ((with_reducible refine gate_dst (N := 3) rfl ?_); refine bx (N := 3) (cs := #[.int .i64 A, .int .i64 X, .int .i64 S, .int .i64 P, .bool Z, .bool N, .bool C, .bool I]) (t := 38) ?_; intro g3 hg w1 hbox hb; have A3 := Aside0.mk hbox; have HB := Aside0.mk (below_step (Below.refl w.heap.size w) hb); have G3 : Aside0 (w.heap.size ≤ g3) := ⟨by rw [hg]; exact Nat.le_refl _⟩; clear hbox hb hg) | ((with_reducible refine gate_dst (N := 4) rfl ?_); refine bx (N := 4) (cs := #[.int .i64 op, .int .i64 arg]) (t := 68) ?_; intro g4 hg w2 hbox hb; have B3 := Aside0.mk (blk_below A3.out hb); have B4 := Aside0.mk hbox; have HB2 := Aside0.mk (below_step HB.out hb); clear hbox hb hg A3 HB; have HB := HB2; clear HB2) | ((with_reducible refine gate_dst (N := 6) rfl ?_); refine bx (N := 6) (cs := #[.int .i64 0, .int .i64 0, .int .i64 0, .int .i64 0, .bool false, .bool false, .bool false, .bool false]) (t := 38) ?_; intro g6 hg w3 hbox hb; have n3 : g3 ≠ g6 := (by rw [hg]; exact Nat.ne_of_lt (blk_lt B3.out)); have n6 : g6 ≠ g3 := Ne.symm n3; have NE := Aside0.mk n6; have HC := Aside0.mk (blk_below B3.out hb); have HG := Aside0.mk (blk_below B4.out hb); have HR := Aside0.mk hbox; have G6 : Aside0 (w.heap.size ≤ g6) := ⟨by rw [hg]; exact below_size HB.out⟩; have HB2 := Aside0.mk (below_step HB.out hb); clear hbox hb hg B3 B4 HB; have HB := HB2; clear HB2; obtain ⟨⟨y0, y1, y2, y3, y4, y5, y6, y7⟩, ⟨fy0, fy1, fy2, fy3, fy4, fy5, fy6, fy7⟩⟩ := cells8 (HC.out); have z0 : w3.cell? ⟨g4, 0, none⟩ = some (.int .i64 op) := (blk_cell HG.out 0).trans rfl; have z1 : w3.cell? ⟨g4, 1, none⟩ = some (.int .i64 arg) := (blk_cell HG.out 1).trans rfl; obtain ⟨⟨r0, r1, r2, r3, r4, r5, r6, r7⟩, ⟨fr0, fr1, fr2, fr3, fr4, fr5, fr6, fr7⟩⟩ := cells8 (HR.out)))
 refine bodyPost_ret (results_ct rfl _ _ g6 38 #[.int .i64 A, .int .i64 X, .int .i64 S, .int .i64 P, .bool Z, .bool N, .bool C, .bool I] (0, 0) _ rfl (put8 HR.out _ _ _ _ _ _ _ _) hu38 rfl (by kernel_rfl)) rfl ?_
 exact ⟨rfl, below8 HB.out G6.out _ _ _ _ _ _ _ _⟩
def aluF (k : Cp) (op arg v : Int) : Cp × Bool := if op = 1 then (setAK k arg, true) else if op = 2 then (setAK k v, true) else if op = 14 then (setAK k v, true) else if op = 4 then (addK k arg, true) else if op = 29 then (addK k v, true) else if op = 5 then (subS k arg, true) else if op = 6 then (andS k arg, true) else if op = 7 then (orS k arg, true) else if op = 8 then (xorS k arg, true) else if op = 9 then (cmpS k arg, true) else if op = 10 then (setXK k k.A, true) else if op = 11 then (setAK k k.X, true) else if op = 12 then (incS k, true) else if op = 13 then (decS k, true) else (k, false)
theorem alu_calls (k : Cp) (op arg v : Int) (w : World) :
  Calls Try.prog 93 #[.agg k.cells, .agg #[.int .i64 op, .int .i64 arg], .int .i64 v] w fun e w' => e = .returned (.tuple #[.agg (aluF k op arg v).1.cells, .bool (aluF k op arg v).2]) ∧ Below w.heap.size w w' := by
 obtain ⟨A, X, S, P, Z, N, C, I⟩ := k
 unfold aluF
 by_cases h1 : op = 1
 ·rw [if_pos h1, h1]
  exact alu_1 A X S P Z N C I arg v w
 rw [if_neg h1]
 by_cases h2 : op = 2
 ·rw [if_pos h2, h2]
  exact alu_2 A X S P Z N C I arg v w
 rw [if_neg h2]
 by_cases h14 : op = 14
 ·rw [if_pos h14, h14]
  exact alu_14 A X S P Z N C I arg v w
 rw [if_neg h14]
 by_cases h4 : op = 4
 ·rw [if_pos h4, h4]
  exact alu_4 A X S P Z N C I arg v w
 rw [if_neg h4]
 by_cases h29 : op = 29
 ·rw [if_pos h29, h29]
  exact alu_29 A X S P Z N C I arg v w
 rw [if_neg h29]
 by_cases h5 : op = 5
 ·rw [if_pos h5, h5]
  exact alu_5 A X S P Z N C I arg v w
 rw [if_neg h5]
 by_cases h6 : op = 6
 ·rw [if_pos h6, h6]
  exact alu_6 A X S P Z N C I arg v w
 rw [if_neg h6]
 by_cases h7 : op = 7
 ·rw [if_pos h7, h7]
  exact alu_7 A X S P Z N C I arg v w
 rw [if_neg h7]
 by_cases h8 : op = 8
 ·rw [if_pos h8, h8]
  exact alu_8 A X S P Z N C I arg v w
 rw [if_neg h8]
 by_cases h9 : op = 9
 ·rw [if_pos h9, h9]
  exact alu_9 A X S P Z N C I arg v w
 rw [if_neg h9]
 by_cases h10 : op = 10
 ·rw [if_pos h10, h10]
  exact alu_10 A X S P Z N C I arg v w
 rw [if_neg h10]
 by_cases h11 : op = 11
 ·rw [if_pos h11, h11]
  exact alu_11 A X S P Z N C I arg v w
 rw [if_neg h11]
 by_cases h12 : op = 12
 ·rw [if_pos h12, h12]
  exact alu_12 A X S P Z N C I arg v w
 rw [if_neg h12]
 by_cases h13 : op = 13
 ·rw [if_pos h13, h13]
  exact alu_13 A X S P Z N C I arg v w
 rw [if_neg h13]
 exact alu_no A X S P Z N C I op arg v (beq_eq_false_iff_ne.mpr h1) (beq_eq_false_iff_ne.mpr h2) (beq_eq_false_iff_ne.mpr h14) (beq_eq_false_iff_ne.mpr h4) (beq_eq_false_iff_ne.mpr h29) (beq_eq_false_iff_ne.mpr h5) (beq_eq_false_iff_ne.mpr h6) (beq_eq_false_iff_ne.mpr h7) (beq_eq_false_iff_ne.mpr h8) (beq_eq_false_iff_ne.mpr h9) (beq_eq_false_iff_ne.mpr h10) (beq_eq_false_iff_ne.mpr h11) (beq_eq_false_iff_ne.mpr h12) (beq_eq_false_iff_ne.mpr h13) w

/-! ### spec_l7Back (mine) -/
def spullF (ram : List Int) (k : Cp) : Cp × Int := if ram.length = 512 then ({ k with S := wrap64 (k.S + 1) % 256 }, rd ram (256 + wrap64 (k.S + 1) % 256) % 256) else (k, 0)
theorem spull_ex (ram : List Int) (b : Int) (k : Cp) : ∃ s1 a, spec_Pull.f ram b k.A k.X k.S k.P k.Z k.N k.C k.I = some (k.A, k.X, s1, k.P, k.Z, k.N, k.C, k.I, a) ∧ spullF ram k = (⟨k.A, k.X, s1, k.P, k.Z, k.N, k.C, k.I⟩, a) := by
 unfold spullF spec_Pull.f
 by_cases h : ram.length = 512
 ·refine ⟨wrap64 (k.S + 1) % 256, rd ram (256 + wrap64 (k.S + 1) % 256) % 256, ?_, by rw [if_pos h]⟩
  rw [if_pos (by omega)]
  unfold spec_Byte.f
  simp only [Option.bind_some, and255]
  rw [show wrap64 (256 + wrap64 (k.S + 1) % 256) = 256 + wrap64 (k.S + 1) % 256 by unfold wrap64; omega, if_pos (by omega), if_pos (by omega)]
 ·refine ⟨k.S, 0, ?_, by rw [if_neg h]⟩
  rw [if_neg (by omega)]
theorem sjoin_is (a b : Int) : spec_Join.f a b = some (a % 256 + 256 * (b % 256)) := by
 unfold spec_Join.f spec_Byte.f
 simp only [Option.bind_some, and255]
 rw [show wrap64 (256 * (b % 256)) = 256 * (b % 256) by unfold wrap64; omega, show wrap64 (a % 256 + 256 * (b % 256)) = a % 256 + 256 * (b % 256) by unfold wrap64; omega]
def sbackF (ram : List Int) (k : Cp) : Cp := { (spullF ram (spullF ram k).1).1 with P := (spullF ram k).2 % 256 + 256 * ((spullF ram (spullF ram k).1).2 % 256) }
theorem blk8 {w : World} {r g : Nat} {o : Obj} (h : w.heap[g]? = some o) (hn : g ≠ r) (u0 u1 u2 u3 u4 u5 u6 u7 : Value) :
  ((((((((w.setCell ⟨r, 0, none⟩ u0).setCell ⟨r, 1, none⟩ u1).setCell ⟨r, 2, none⟩ u2).setCell ⟨r, 3, none⟩ u3).setCell ⟨r, 4, none⟩ u4).setCell ⟨r, 5, none⟩ u5).setCell ⟨r, 6, none⟩ u6).setCell ⟨r, 7, none⟩ u7).heap[g]? = some o := (heap8 _ _ g _ _ _ _ _ _ _ _ hn).trans h
set_option maxRecDepth 100000 in
set_option maxHeartbeats 4000000 in
theorem sback_calls (A0 : Option Addr) (c0 : Nat) (l0 : List Int) (b : Int) (k : Cp) (w : World) (hr : Kd.C (Kd.int .i64) w A0 l0.length l0) (hc : l0.length ≤ c0) :
  Calls Try.prog 94 #[.agg #[.slice A0 l0.length c0, .int .i64 b], .agg k.cells] w fun e w' => e = .returned (.agg (sbackF l0 k).cells) ∧ Below w.heap.size w w' := by
 obtain ⟨A, X, S, P, Z, N, C, I⟩ := k
 obtain ⟨s1, a1, hp1, e1⟩ := spull_ex l0 b ⟨A, X, S, P, Z, N, C, I⟩
 obtain ⟨s2, a2, hp2, e2⟩ := spull_ex l0 b ⟨A, X, s1, P, Z, N, C, I⟩
 unfold sbackF
 rw [e1]
 simp only
 simp only at e2
 rw [e2]
 have hj := sjoin_is a1 a2
 generalize a1 % 256 + 256 * (a2 % 256) = pj at *
 have HP1 := Aside0.mk hp1
 have HP2 := Aside0.mk hp2
 have HJ := Aside0.mk hj
 have HR := Aside0.mk hr
 have HC := Aside0.mk hc
 clear hp1 hp2 hj hr hc e1 e2
 have hu37 := Try.underlying37
 have hu38 := Try.underlying38
 go_enter Try.func94, Try.ntmps94
 go_upto_region 2 with (first | ((with_reducible refine gate_dst (N := 2) rfl ?_); refine bx (N := 2) (cs := #[.slice A0 l0.length c0, .int .i64 b]) (t := 37) ?_; intro g2 hg w1 hbox hb; have A2 := Aside0.mk hbox; have HB := Aside0.mk (below_step (Below.refl w.heap.size w) hb); have G2 : Aside0 (w.heap.size ≤ g2) := ⟨by rw [hg]; exact Nat.le_refl _⟩; clear hbox hb hg) | ((with_reducible refine gate_dst (N := 3) rfl ?_); refine bx (N := 3) (cs := #[.int .i64 A, .int .i64 X, .int .i64 S, .int .i64 P, .bool Z, .bool N, .bool C, .bool I]) (t := 38) ?_; intro g3 hg w2 hbox hb; have B2 := Aside0.mk (blk_below A2.out hb); have B3 := Aside0.mk hbox; have G3 : Aside0 (w.heap.size ≤ g3) := ⟨by rw [hg]; exact below_size HB.out⟩; have HB2 := Aside0.mk (below_step HB.out hb); clear hbox hb hg A2 HB; have HB := HB2; clear HB2) | ((with_reducible refine gate_dst (N := 4) rfl ?_); refine bx (N := 4) (cs := #[.int .i64 0, .int .i64 0, .int .i64 0, .int .i64 0, .bool false, .bool false, .bool false, .bool false]) (t := 38) ?_; intro g6 hg w3 hbox hb; have n3 : g3 ≠ g6 := (by rw [hg]; exact Nat.ne_of_lt (blk_lt B3.out)); have n6 : g6 ≠ g3 := Ne.symm n3; have NE := Aside0.mk n6; have H2 := Aside0.mk (blk_below B2.out hb); have H3 := Aside0.mk (blk_below B3.out hb); have H6 := Aside0.mk hbox; have G6 : Aside0 (w.heap.size ≤ g6) := ⟨by rw [hg]; exact below_size HB.out⟩; have HB2 := Aside0.mk (below_step HB.out hb); clear hbox hb hg B2 B3 HB; have HB := HB2; clear HB2; have z0 : w3.cell? ⟨g2, 0, none⟩ = some (.slice A0 l0.length c0) := (blk_cell H2.out 0).trans rfl; have z1 : w3.cell? ⟨g2, 1, none⟩ = some (.int .i64 b) := (blk_cell H2.out 1).trans rfl; obtain ⟨⟨y0, y1, y2, y3, y4, y5, y6, y7⟩, ⟨fy0, fy1, fy2, fy3, fy4, fy5, fy6, fy7⟩⟩ := cells8 (H3.out)) | (go_at_call 95; refine (spec_Pull.calls A0 c0 l0 b A X S P Z N C I A X s1 P Z N C I a1 _ (Kd.C_below HR.out HB.out) HC.out HP1.out).mono ?_; rintro e w5 ⟨rfl, hb⟩; have I2 := Aside0.mk (blk_below H2.out hb); have I3 := Aside0.mk (blk_below H3.out hb); have I6 := Aside0.mk (blk_below H6.out hb); have IB := Aside0.mk (below_step HB.out hb); clear hb; obtain ⟨⟨p0, p1, p2, p3, p4, p5, p6, p7⟩, ⟨fp0, fp1, fp2, fp3, fp4, fp5, fp6, fp7⟩⟩ := cells8 (I3.out)))
 have J3 : Aside0 (((((((((w5.setCell ⟨g3, 0, none⟩ (.int .i64 A)).setCell ⟨g3, 1, none⟩ (.int .i64 X)).setCell ⟨g3, 2, none⟩ (.int .i64 s1)).setCell ⟨g3, 3, none⟩ (.int .i64 P)).setCell ⟨g3, 4, none⟩ (.bool Z)).setCell ⟨g3, 5, none⟩ (.bool N)).setCell ⟨g3, 6, none⟩ (.bool C)).setCell ⟨g3, 7, none⟩ (.bool I)).heap[g3]? = some (.cells #[.int .i64 A, .int .i64 X, .int .i64 s1, .int .i64 P, .bool Z, .bool N, .bool C, .bool I] 38 (0, 0))) := ⟨put8 I3.out _ _ _ _ _ _ _ _⟩
 have J2 : Aside0 (((((((((w5.setCell ⟨g3, 0, none⟩ (.int .i64 A)).setCell ⟨g3, 1, none⟩ (.int .i64 X)).setCell ⟨g3, 2, none⟩ (.int .i64 s1)).setCell ⟨g3, 3, none⟩ (.int .i64 P)).setCell ⟨g3, 4, none⟩ (.bool Z)).setCell ⟨g3, 5, none⟩ (.bool N)).setCell ⟨g3, 6, none⟩ (.bool C)).setCell ⟨g3, 7, none⟩ (.bool I)).heap[g2]? = some (.cells #[.slice A0 l0.length c0, .int .i64 b] 37 (0, 0))) := ⟨blk8 I2.out (blk_ne I2.out I3.out (by decide)) _ _ _ _ _ _ _ _⟩
 have J6 : Aside0 (((((((((w5.setCell ⟨g3, 0, none⟩ (.int .i64 A)).setCell ⟨g3, 1, none⟩ (.int .i64 X)).setCell ⟨g3, 2, none⟩ (.int .i64 s1)).setCell ⟨g3, 3, none⟩ (.int .i64 P)).setCell ⟨g3, 4, none⟩ (.bool Z)).setCell ⟨g3, 5, none⟩ (.bool N)).setCell ⟨g3, 6, none⟩ (.bool C)).setCell ⟨g3, 7, none⟩ (.bool I)).heap[g6]? = some (.cells #[.int .i64 0, .int .i64 0, .int .i64 0, .int .i64 0, .bool false, .bool false, .bool false, .bool false] 38 (0, 0))) := ⟨blk8 I6.out NE.out _ _ _ _ _ _ _ _⟩
 have JB : Aside0 (Below w.heap.size w ((((((((w5.setCell ⟨g3, 0, none⟩ (.int .i64 A)).setCell ⟨g3, 1, none⟩ (.int .i64 X)).setCell ⟨g3, 2, none⟩ (.int .i64 s1)).setCell ⟨g3, 3, none⟩ (.int .i64 P)).setCell ⟨g3, 4, none⟩ (.bool Z)).setCell ⟨g3, 5, none⟩ (.bool N)).setCell ⟨g3, 6, none⟩ (.bool C)).setCell ⟨g3, 7, none⟩ (.bool I))) := ⟨below8 IB.out G3.out _ _ _ _ _ _ _ _⟩
 generalize ((((((((w5.setCell ⟨g3, 0, none⟩ (.int .i64 A)).setCell ⟨g3, 1, none⟩ (.int .i64 X)).setCell ⟨g3, 2, none⟩ (.int .i64 s1)).setCell ⟨g3, 3, none⟩ (.int .i64 P)).setCell ⟨g3, 4, none⟩ (.bool Z)).setCell ⟨g3, 5, none⟩ (.bool N)).setCell ⟨g3, 6, none⟩ (.bool C)).setCell ⟨g3, 7, none⟩ (.bool I)) = w6 at J3 J2 J6 JB ⊢
 clear H2 H3 H6 HB I2 I3 I6 IB
 have H2 := J2
 have H3 := J3
 have H6 := J6
 have HB := JB
 clear J2 J3 J6 JB
 have qz0 : w6.cell? ⟨g2, 0, none⟩ = some (.slice A0 l0.length c0) := (blk_cell H2.out 0).trans rfl
 have qz1 : w6.cell? ⟨g2, 1, none⟩ = some (.int .i64 b) := (blk_cell H2.out 1).trans rfl
 obtain ⟨⟨q0, q1, q2, q3, q4, q5, q6, q7⟩, ⟨fq0, fq1, fq2, fq3, fq4, fq5, fq6, fq7⟩⟩ := cells8 (H3.out)
 go_upto_region 3 with (go_at_call 95; refine (spec_Pull.calls A0 c0 l0 b A X s1 P Z N C I A X s2 P Z N C I a2 _ (Kd.C_below HR.out HB.out) HC.out HP2.out).mono ?_; rintro e w7 ⟨rfl, hb⟩; have I2 := Aside0.mk (blk_below H2.out hb); have I3 := Aside0.mk (blk_below H3.out hb); have I6 := Aside0.mk (blk_below H6.out hb); have IB := Aside0.mk (below_step HB.out hb); clear hb; obtain ⟨⟨u0, u1, u2, u3, u4, u5, u6, u7⟩, ⟨fu0, fu1, fu2, fu3, fu4, fu5, fu6, fu7⟩⟩ := cells8 (I3.out))
 have J3 : Aside0 (((((((((w7.setCell ⟨g3, 0, none⟩ (.int .i64 A)).setCell ⟨g3, 1, none⟩ (.int .i64 X)).setCell ⟨g3, 2, none⟩ (.int .i64 s2)).setCell ⟨g3, 3, none⟩ (.int .i64 P)).setCell ⟨g3, 4, none⟩ (.bool Z)).setCell ⟨g3, 5, none⟩ (.bool N)).setCell ⟨g3, 6, none⟩ (.bool C)).setCell ⟨g3, 7, none⟩ (.bool I)).heap[g3]? = some (.cells #[.int .i64 A, .int .i64 X, .int .i64 s2, .int .i64 P, .bool Z, .bool N, .bool C, .bool I] 38 (0, 0))) := ⟨put8 I3.out _ _ _ _ _ _ _ _⟩
 have J2 : Aside0 (((((((((w7.setCell ⟨g3, 0, none⟩ (.int .i64 A)).setCell ⟨g3, 1, none⟩ (.int .i64 X)).setCell ⟨g3, 2, none⟩ (.int .i64 s2)).setCell ⟨g3, 3, none⟩ (.int .i64 P)).setCell ⟨g3, 4, none⟩ (.bool Z)).setCell ⟨g3, 5, none⟩ (.bool N)).setCell ⟨g3, 6, none⟩ (.bool C)).setCell ⟨g3, 7, none⟩ (.bool I)).heap[g2]? = some (.cells #[.slice A0 l0.length c0, .int .i64 b] 37 (0, 0))) := ⟨blk8 I2.out (blk_ne I2.out I3.out (by decide)) _ _ _ _ _ _ _ _⟩
 have J6 : Aside0 (((((((((w7.setCell ⟨g3, 0, none⟩ (.int .i64 A)).setCell ⟨g3, 1, none⟩ (.int .i64 X)).setCell ⟨g3, 2, none⟩ (.int .i64 s2)).setCell ⟨g3, 3, none⟩ (.int .i64 P)).setCell ⟨g3, 4, none⟩ (.bool Z)).setCell ⟨g3, 5, none⟩ (.bool N)).setCell ⟨g3, 6, none⟩ (.bool C)).setCell ⟨g3, 7, none⟩ (.bool I)).heap[g6]? = some (.cells #[.int .i64 0, .int .i64 0, .int .i64 0, .int .i64 0, .bool false, .bool false, .bool false, .bool false] 38 (0, 0))) := ⟨blk8 I6.out NE.out _ _ _ _ _ _ _ _⟩
 have JB : Aside0 (Below w.heap.size w ((((((((w7.setCell ⟨g3, 0, none⟩ (.int .i64 A)).setCell ⟨g3, 1, none⟩ (.int .i64 X)).setCell ⟨g3, 2, none⟩ (.int .i64 s2)).setCell ⟨g3, 3, none⟩ (.int .i64 P)).setCell ⟨g3, 4, none⟩ (.bool Z)).setCell ⟨g3, 5, none⟩ (.bool N)).setCell ⟨g3, 6, none⟩ (.bool C)).setCell ⟨g3, 7, none⟩ (.bool I))) := ⟨below8 IB.out G3.out _ _ _ _ _ _ _ _⟩
 generalize ((((((((w7.setCell ⟨g3, 0, none⟩ (.int .i64 A)).setCell ⟨g3, 1, none⟩ (.int .i64 X)).setCell ⟨g3, 2, none⟩ (.int .i64 s2)).setCell ⟨g3, 3, none⟩ (.int .i64 P)).setCell ⟨g3, 4, none⟩ (.bool Z)).setCell ⟨g3, 5, none⟩ (.bool N)).setCell ⟨g3, 6, none⟩ (.bool C)).setCell ⟨g3, 7, none⟩ (.bool I)) = w9 at J3 J2 J6 JB ⊢
 clear H2 H3 H6 HB I2 I3 I6 IB
 have H2 := J2
 have H3 := J3
 have H6 := J6
 have HB := JB
 clear J2 J3 J6 JB
 have vz0 : w9.cell? ⟨g2, 0, none⟩ = some (.slice A0 l0.length c0) := (blk_cell H2.out 0).trans rfl
 have vz1 : w9.cell? ⟨g2, 1, none⟩ = some (.int .i64 b) := (blk_cell H2.out 1).trans rfl
 obtain ⟨⟨v0, v1, v2, v3, v4, v5, v6, v7⟩, ⟨fv0, fv1, fv2, fv3, fv4, fv5, fv6, fv7⟩⟩ := cells8 (H3.out)
 go_wp2_with (go_at_call 82; refine (spec_Join.calls a1 a2 pj _ HJ.out).mono ?_; rintro e w8 ⟨rfl, nd, rfl⟩; obtain ⟨⟨x0, x1, x2, x3, x4, x5, x6, x7⟩, ⟨fx0, fx1, fx2, fx3, fx4, fx5, fx6, fx7⟩⟩ := cells8 (H6.out))
 refine bodyPost_ret (results_cell_row rfl _ _ g6 38 #[.int .i64 A, .int .i64 X, .int .i64 s2, .int .i64 pj, .bool Z, .bool N, .bool C, .bool I] (0, 0) _ rfl (put8 (blk_far (blk_drewN H6.out nd) NE.out _) _ _ _ _ _ _ _ _) hu38 rfl (by kernel_rfl)) rfl ?_
 exact ⟨rfl, below8 (below_set (pw_below_drewN HB.out nd) G3.out) G6.out _ _ _ _ _ _ _ _⟩

/-! ### impl_WithFlags: function 121 -/
def impl_WithFlags.f (a0_0 : Int) (a0_1 : Int) (a0_2 : Int) (a0_3 : Int) (a0_4 : Bool) (a0_5 : Bool) (a0_6 : Bool) (a0_7 : Bool) (a1 : Int) : Option (Int × Int × Int × Int × Bool × Bool × Bool × Bool) := some (a0_0, a0_1, a0_2, a0_3, ((Go.bits .and .i64 a1 2) != 0), ((Go.bits .and .i64 a1 128) != 0), ((Go.bits .and .i64 a1 1) != 0), ((Go.bits .and .i64 a1 4) != 0))
set_option maxHeartbeats 8000000 in
set_option maxRecDepth 100000 in
theorem impl_WithFlags.calls (a0_0 : Int) (a0_1 : Int) (a0_2 : Int) (a0_3 : Int) (a0_4 : Bool) (a0_5 : Bool) (a0_6 : Bool) (a0_7 : Bool) (a1 : Int) (r1 : Int) (r2 : Int) (r3 : Int) (r4 : Int) (r5 : Bool) (r6 : Bool) (r7 : Bool) (r8 : Bool) (w : World) (h : impl_WithFlags.f a0_0 a0_1 a0_2 a0_3 a0_4 a0_5 a0_6 a0_7 a1 = some (r1, r2, r3, r4, r5, r6, r7, r8)) :
  Calls Try.prog 121 #[.agg #[.int .i64 a0_0, .int .i64 a0_1, .int .i64 a0_2, .int .i64 a0_3, .bool a0_4, .bool a0_5, .bool a0_6, .bool a0_7], .int .i64 a1] w fun e w' => e = .returned (.agg #[.int .i64 r1, .int .i64 r2, .int .i64 r3, .int .i64 r4, .bool r5, .bool r6, .bool r7, .bool r8]) ∧ Below w.heap.size w w' := by
 have hu38 := Try.underlying38
 have HB := Aside0.mk (Below.refl w.heap.size w)
 have H : (some (a0_0, a0_1, a0_2, a0_3, ((Go.bits .and .i64 a1 2) != 0), ((Go.bits .and .i64 a1 128) != 0), ((Go.bits .and .i64 a1 1) != 0), ((Go.bits .and .i64 a1 4) != 0))) = some (r1, r2, r3, r4, r5, r6, r7, r8) := h
 clear h
 simp only [Option.some.injEq, Prod.mk.injEq] at H
 obtain ⟨rfl, rfl, rfl, rfl, rfl, rfl, rfl, rfl⟩ := H
 go_enter Try.func121, Try.ntmps121
 go_wp2_with (first | ((with_reducible refine gate_dst (N := 2) rfl ?_); refine bx (N := 2) (cs := #[.int .i64 a0_0, .int .i64 a0_1, .int .i64 a0_2, .int .i64 a0_3, .bool a0_4, .bool a0_5, .bool a0_6, .bool a0_7]) (t := 38) ?_; intro gb605 hg w3 hbox hb; have n0_ := Aside0.mk (below_step (bw HB.out) hb); have n1_ := Aside0.mk (hbox); have n2_ := Aside0.mk ((gs hg (bw HB.out))); have n3_ := Aside0.mk ((gs hg (bw HB.out))); clear HB; have HB := n0_; have BK605 := n1_; have GW605 := n2_; have GE605 := n3_; clear n0_ n1_ n2_ n3_; clear hb hbox hg) | ((with_reducible refine gate_dst (N := 4) rfl ?_); refine bx (N := 4) (cs := #[.int .i64 0, .int .i64 0, .int .i64 0, .int .i64 0, .bool false, .bool false, .bool false, .bool false]) (t := 38) ?_; intro gb606 hg w4 hbox hb; have n0_ := Aside0.mk (blk_below (g := gb605) (o := .cells #[.int .i64 a0_0, .int .i64 a0_1, .int .i64 a0_2, .int .i64 a0_3, .bool a0_4, .bool a0_5, .bool a0_6, .bool a0_7] 38 (0, 0)) (kb BK605.out) hb); have n1_ := Aside0.mk (below_step (bw HB.out) hb); have n2_ := Aside0.mk (hbox); have n3_ := Aside0.mk ((gs hg (bw HB.out))); have n4_ := Aside0.mk ((gs hg (bw HB.out))); have n5_ := Aside0.mk ((ga hg BK605.out)); have n6_ := Aside0.mk ((gc hg BK605.out)); clear BK605; clear HB; have BK605 := n0_; have HB := n1_; have BK606 := n2_; have GW606 := n3_; have GE606 := n4_; have NB605_606 := n5_; have NB606_605 := n6_; clear n0_ n1_ n2_ n3_ n4_ n5_ n6_; clear hb hbox hg; have hnb5 := NB605_606.out; have hnc5 := NB606_605.out; have hcz6_0 : w4.cell? ⟨gb605, 0, none⟩ = some (.int .i64 a0_0) := (blk_cell BK605.out 0).trans rfl; have hcz6_1 : w4.cell? ⟨gb605, 1, none⟩ = some (.int .i64 a0_1) := (blk_cell BK605.out 1).trans rfl; have hcz6_2 : w4.cell? ⟨gb605, 2, none⟩ = some (.int .i64 a0_2) := (blk_cell BK605.out 2).trans rfl; have hcz6_3 : w4.cell? ⟨gb605, 3, none⟩ = some (.int .i64 a0_3) := (blk_cell BK605.out 3).trans rfl; have hcz6_4 : w4.cell? ⟨gb605, 4, none⟩ = some (.bool a0_4) := (blk_cell BK605.out 4).trans rfl; have hcz6_5 : w4.cell? ⟨gb605, 5, none⟩ = some (.bool a0_5) := (blk_cell BK605.out 5).trans rfl; have hcz6_6 : w4.cell? ⟨gb605, 6, none⟩ = some (.bool a0_6) := (blk_cell BK605.out 6).trans rfl; have hcz6_7 : w4.cell? ⟨gb605, 7, none⟩ = some (.bool a0_7) := (blk_cell BK605.out 7).trans rfl; have hfz6_0 := blk_frozen BK605.out 0; have hfz6_1 := blk_frozen BK605.out 1; have hfz6_2 := blk_frozen BK605.out 2; have hfz6_3 := blk_frozen BK605.out 3; have hfz6_4 := blk_frozen BK605.out 4; have hfz6_5 := blk_frozen BK605.out 5; have hfz6_6 := blk_frozen BK605.out 6; have hfz6_7 := blk_frozen BK605.out 7; have hcz7_0 : w4.cell? ⟨gb606, 0, none⟩ = some (.int .i64 0) := (blk_cell BK606.out 0).trans rfl; have hcz7_1 : w4.cell? ⟨gb606, 1, none⟩ = some (.int .i64 0) := (blk_cell BK606.out 1).trans rfl; have hcz7_2 : w4.cell? ⟨gb606, 2, none⟩ = some (.int .i64 0) := (blk_cell BK606.out 2).trans rfl; have hcz7_3 : w4.cell? ⟨gb606, 3, none⟩ = some (.int .i64 0) := (blk_cell BK606.out 3).trans rfl; have hcz7_4 : w4.cell? ⟨gb606, 4, none⟩ = some (.bool false) := (blk_cell BK606.out 4).trans rfl; have hcz7_5 : w4.cell? ⟨gb606, 5, none⟩ = some (.bool false) := (blk_cell BK606.out 5).trans rfl; have hcz7_6 : w4.cell? ⟨gb606, 6, none⟩ = some (.bool false) := (blk_cell BK606.out 6).trans rfl; have hcz7_7 : w4.cell? ⟨gb606, 7, none⟩ = some (.bool false) := (blk_cell BK606.out 7).trans rfl; have hfz7_0 := blk_frozen BK606.out 0; have hfz7_1 := blk_frozen BK606.out 1; have hfz7_2 := blk_frozen BK606.out 2; have hfz7_3 := blk_frozen BK606.out 3; have hfz7_4 := blk_frozen BK606.out 4; have hfz7_5 := blk_frozen BK606.out 5; have hfz7_6 := blk_frozen BK606.out 6; have hfz7_7 := blk_frozen BK606.out 7))
 refine bodyPost_ret (results_cell_row rfl _ _ gb606 38 #[.int .i64 a0_0, .int .i64 a0_1, .int .i64 a0_2, .int .i64 a0_3, .bool ((Go.bits .and .i64 a1 2) != 0), .bool ((Go.bits .and .i64 a1 128) != 0), .bool ((Go.bits .and .i64 a1 1) != 0), .bool ((Go.bits .and .i64 a1 4) != 0)] (0, 0) _ rfl (by (with_reducible repeat (first | refine blk_drewN ?_ _ | refine blk_drew ?_ | refine blk_alloc ?_ _)); refine blk_put (cs := #[.int .i64 a0_0, .int .i64 a0_1, .int .i64 a0_2, .int .i64 a0_3, .bool ((Go.bits .and .i64 a1 2) != 0), .bool ((Go.bits .and .i64 a1 128) != 0), .bool ((Go.bits .and .i64 a1 1) != 0), .bool false]) ?_ 7 _ rfl; (with_reducible repeat (first | refine blk_drewN ?_ _ | refine blk_drew ?_ | refine blk_alloc ?_ _)); refine blk_put (cs := #[.int .i64 a0_0, .int .i64 a0_1, .int .i64 a0_2, .int .i64 a0_3, .bool ((Go.bits .and .i64 a1 2) != 0), .bool ((Go.bits .and .i64 a1 128) != 0), .bool false, .bool false]) ?_ 6 _ rfl; (with_reducible repeat (first | refine blk_drewN ?_ _ | refine blk_drew ?_ | refine blk_alloc ?_ _)); refine blk_put (cs := #[.int .i64 a0_0, .int .i64 a0_1, .int .i64 a0_2, .int .i64 a0_3, .bool ((Go.bits .and .i64 a1 2) != 0), .bool false, .bool false, .bool false]) ?_ 5 _ rfl; (with_reducible repeat (first | refine blk_drewN ?_ _ | refine blk_drew ?_ | refine blk_alloc ?_ _)); refine blk_put (cs := #[.int .i64 a0_0, .int .i64 a0_1, .int .i64 a0_2, .int .i64 a0_3, .bool false, .bool false, .bool false, .bool false]) ?_ 4 _ rfl; (with_reducible repeat (first | refine blk_drewN ?_ _ | refine blk_drew ?_ | refine blk_alloc ?_ _)); refine blk_put (cs := #[.int .i64 a0_0, .int .i64 a0_1, .int .i64 a0_2, .int .i64 0, .bool false, .bool false, .bool false, .bool false]) ?_ 3 _ rfl; (with_reducible repeat (first | refine blk_drewN ?_ _ | refine blk_drew ?_ | refine blk_alloc ?_ _)); refine blk_put (cs := #[.int .i64 a0_0, .int .i64 a0_1, .int .i64 0, .int .i64 0, .bool false, .bool false, .bool false, .bool false]) ?_ 2 _ rfl; (with_reducible repeat (first | refine blk_drewN ?_ _ | refine blk_drew ?_ | refine blk_alloc ?_ _)); refine blk_put (cs := #[.int .i64 a0_0, .int .i64 0, .int .i64 0, .int .i64 0, .bool false, .bool false, .bool false, .bool false]) ?_ 1 _ rfl; (with_reducible repeat (first | refine blk_drewN ?_ _ | refine blk_drew ?_ | refine blk_alloc ?_ _)); refine blk_put (cs := #[.int .i64 0, .int .i64 0, .int .i64 0, .int .i64 0, .bool false, .bool false, .bool false, .bool false]) ?_ 0 _ rfl; (with_reducible repeat (first | refine blk_drewN ?_ _ | refine blk_drew ?_ | refine blk_alloc ?_ _)); refine blk_far ?_ NB606_605.out _; (with_reducible repeat (first | refine blk_drewN ?_ _ | refine blk_drew ?_ | refine blk_alloc ?_ _)); refine blk_far ?_ NB606_605.out _; (with_reducible repeat (first | refine blk_drewN ?_ _ | refine blk_drew ?_ | refine blk_alloc ?_ _)); refine blk_far ?_ NB606_605.out _; (with_reducible repeat (first | refine blk_drewN ?_ _ | refine blk_drew ?_ | refine blk_alloc ?_ _)); refine blk_far ?_ NB606_605.out _; (with_reducible repeat (first | refine blk_drewN ?_ _ | refine blk_drew ?_ | refine blk_alloc ?_ _)); exact BK606.out) Try.underlying38 rfl (by kernel_rfl)) rfl ?_
 exact ⟨rt, bw HB.out⟩

-- NOT PRINTED: function 112 (impl_Mem_flow)

-- NOT PRINTED: function 98 (impl_Mem_exec)

-- NOT PRINTED: function 59 (impl_Exec)

-- NOT PRINTED: function 14 (laws_FnExactExec)

/-! ### impl_flow (mine) -/
theorem addr_ex (a : Int) : ∃ t, impl_Addr.f a = some t ∧ a % 65536 = t := by
 refine ⟨_, ?_, rfl⟩
 unfold impl_Addr.f
 rw [and65535]
def flagK (k : Cp) (v : Int) : Cp := { k with Z := Go.bits .and .i64 v 2 != 0, N := Go.bits .and .i64 v 128 != 0, C := Go.bits .and .i64 v 1 != 0, I := Go.bits .and .i64 v 4 != 0 }
theorem flag_ex (k : Cp) (v : Int) : ∃ z n c i, impl_WithFlags.f k.A k.X k.S k.P k.Z k.N k.C k.I v = some (k.A, k.X, k.S, k.P, z, n, c, i) ∧ flagK k v = ⟨k.A, k.X, k.S, k.P, z, n, c, i⟩ := by
 refine ⟨_, _, _, _, ?_, rfl⟩
 unfold impl_WithFlags.f
 rfl
theorem MC.put8 {w0 w : World} {x c : Nat} {rv : Value} {b : Int} {k : Cp} {ram : List Int} (h : MC w0 w x c rv b k ram) (a x1 s p : Int) (z n cc i : Bool) :
  MC w0 ((((((((w.setCell ⟨c, 0, none⟩ (.int .i64 a)).setCell ⟨c, 1, none⟩ (.int .i64 x1)).setCell ⟨c, 2, none⟩ (.int .i64 s)).setCell ⟨c, 3, none⟩ (.int .i64 p)).setCell ⟨c, 4, none⟩ (.bool z)).setCell ⟨c, 5, none⟩ (.bool n)).setCell ⟨c, 6, none⟩ (.bool cc)).setCell ⟨c, 7, none⟩ (.bool i)) x c rv b ⟨a, x1, s, p, z, n, cc, i⟩ ram :=
 (((((((h.setC (k' := ⟨a, k.X, k.S, k.P, k.Z, k.N, k.C, k.I⟩) 0 _ rfl).setC (k' := ⟨a, x1, k.S, k.P, k.Z, k.N, k.C, k.I⟩) 1 _ rfl).setC (k' := ⟨a, x1, s, k.P, k.Z, k.N, k.C, k.I⟩) 2 _ rfl).setC (k' := ⟨a, x1, s, p, k.Z, k.N, k.C, k.I⟩) 3 _ rfl).setC (k' := ⟨a, x1, s, p, z, k.N, k.C, k.I⟩) 4 _ rfl).setC (k' := ⟨a, x1, s, p, z, n, k.C, k.I⟩) 5 _ rfl).setC (k' := ⟨a, x1, s, p, z, n, cc, k.I⟩) 6 _ rfl).setC (k' := ⟨a, x1, s, p, z, n, cc, i⟩) 7 _ rfl
theorem keptM8 {w W : World} {r : Nat} {Q : Nat → Prop} (h : Kept w W (fun j => j = r ∨ Q j)) (u0 u1 u2 u3 u4 u5 u6 u7 : Value) :
  Kept w ((((((((W.setCell ⟨r, 0, none⟩ u0).setCell ⟨r, 1, none⟩ u1).setCell ⟨r, 2, none⟩ u2).setCell ⟨r, 3, none⟩ u3).setCell ⟨r, 4, none⟩ u4).setCell ⟨r, 5, none⟩ u5).setCell ⟨r, 6, none⟩ u6).setCell ⟨r, 7, none⟩ u7) (fun j => j = r ∨ Q j) :=
 kept_set (kept_set (kept_set (kept_set (kept_set (kept_set (kept_set (kept_set h (.inl rfl) _) (.inl rfl) _) (.inl rfl) _) (.inl rfl) _) (.inl rfl) _) (.inl rfl) _) (.inl rfl) _) (.inl rfl) _
set_option maxRecDepth 100000 in
set_option maxHeartbeats 4000000 in
theorem flow_16_true {w0 w : World} {x c : Nat} {rv : Value} {b : Int} {A X S P : Int} {N C I : Bool} {ram : List Int} (h : MC w0 w x c rv b (⟨A, X, S, P, true, N, C, I⟩ : Cp) ram) (arg : Int) :
  Calls Try.prog 112 #[.pointer (some ⟨x, 0, none⟩), .pointer (some ⟨c, 0, none⟩), .agg #[.int .i64 16, .int .i64 arg]] w fun e w' => e = .returned (.tuple #[]) ∧ MC w0 w' x c rv b (⟨A, X, S, P, true, N, C, I⟩ : Cp) ram ∧ Kept w w' (fun j => j = c ∨ some j = rv.ownBlock) := by
 obtain ⟨tgt, ht, et⟩ := addr_ex arg
 have HT := Aside0.mk ht
 have ET := Aside0.mk et
 clear ht et
 have hu37 := Try.underlying37
 have hu38 := Try.underlying38
 have hu68 := Try.underlying68
 have H0 := Aside0.mk h
 clear h
 go_enter Try.func112, Try.ntmps112
 go_wp2_with (first | ((with_reducible refine gate_dst (N := 5) rfl ?_); refine bx (N := 5) (cs := #[.int .i64 16, .int .i64 arg]) (t := 68) ?_; intro g hg w1 hbox hb; have H1 := Aside0.mk (H0.out.later hb); have HB1 := Aside0.mk hb; have hb1 : w1.cell? ⟨g, 0, none⟩ = some (.int .i64 16) := (blk_cell hbox 0).trans rfl; have hb2 : w1.cell? ⟨g, 1, none⟩ = some (.int .i64 arg) := (blk_cell hbox 1).trans rfl; clear hbox hb hg H0; obtain ⟨⟨y0, y1, y2, y3, y4, y5, y6, y7⟩, ⟨fy0, fy1, fy2, fy3, fy4, fy5, fy6, fy7⟩⟩ := cells8 (H1.out.cpu)) | (go_at_call 109; refine (impl_Addr.calls arg tgt _ HT.out).mono ?_; rintro e w2 ⟨rfl, nd, rfl⟩))
 go_end0
 exact ⟨rfl, H1.out.drewN nd, ((Kept.of_below HB1.out _).drewN nd)⟩
set_option maxRecDepth 100000 in
set_option maxHeartbeats 4000000 in
theorem flow_16_false {w0 w : World} {x c : Nat} {rv : Value} {b : Int} {A X S P : Int} {N C I : Bool} {ram : List Int} (h : MC w0 w x c rv b (⟨A, X, S, P, false, N, C, I⟩ : Cp) ram) (arg : Int) :
  Calls Try.prog 112 #[.pointer (some ⟨x, 0, none⟩), .pointer (some ⟨c, 0, none⟩), .agg #[.int .i64 16, .int .i64 arg]] w fun e w' => e = .returned (.tuple #[]) ∧ MC w0 w' x c rv b ({ (⟨A, X, S, P, false, N, C, I⟩ : Cp) with P := arg % 65536 }) ram ∧ Kept w w' (fun j => j = c ∨ some j = rv.ownBlock) := by
 obtain ⟨tgt, ht, et⟩ := addr_ex arg
 have HT := Aside0.mk ht
 have ET := Aside0.mk et
 clear ht et
 have hu37 := Try.underlying37
 have hu38 := Try.underlying38
 have hu68 := Try.underlying68
 have H0 := Aside0.mk h
 clear h
 go_enter Try.func112, Try.ntmps112
 go_wp2_with (first | ((with_reducible refine gate_dst (N := 5) rfl ?_); refine bx (N := 5) (cs := #[.int .i64 16, .int .i64 arg]) (t := 68) ?_; intro g hg w1 hbox hb; have H1 := Aside0.mk (H0.out.later hb); have HB1 := Aside0.mk hb; have hb1 : w1.cell? ⟨g, 0, none⟩ = some (.int .i64 16) := (blk_cell hbox 0).trans rfl; have hb2 : w1.cell? ⟨g, 1, none⟩ = some (.int .i64 arg) := (blk_cell hbox 1).trans rfl; clear hbox hb hg H0; obtain ⟨⟨y0, y1, y2, y3, y4, y5, y6, y7⟩, ⟨fy0, fy1, fy2, fy3, fy4, fy5, fy6, fy7⟩⟩ := cells8 (H1.out.cpu)) | (go_at_call 109; refine (impl_Addr.calls arg tgt _ HT.out).mono ?_; rintro e w2 ⟨rfl, nd, rfl⟩))
 go_end0
 rw [ET.out]
 exact ⟨rfl, (H1.out.drewN nd).setC 3 _ rfl, kept_set ((Kept.of_below HB1.out _).drewN nd) (.inl rfl) _⟩
set_option maxRecDepth 100000 in
set_option maxHeartbeats 4000000 in
theorem flow_17_true {w0 w : World} {x c : Nat} {rv : Value} {b : Int} {A X S P : Int} {N C I : Bool} {ram : List Int} (h : MC w0 w x c rv b (⟨A, X, S, P, true, N, C, I⟩ : Cp) ram) (arg : Int) :
  Calls Try.prog 112 #[.pointer (some ⟨x, 0, none⟩), .pointer (some ⟨c, 0, none⟩), .agg #[.int .i64 17, .int .i64 arg]] w fun e w' => e = .returned (.tuple #[]) ∧ MC w0 w' x c rv b ({ (⟨A, X, S, P, true, N, C, I⟩ : Cp) with P := arg % 65536 }) ram ∧ Kept w w' (fun j => j = c ∨ some j = rv.ownBlock) := by
 obtain ⟨tgt, ht, et⟩ := addr_ex arg
 have HT := Aside0.mk ht
 have ET := Aside0.mk et
 clear ht et
 have hu37 := Try.underlying37
 have hu38 := Try.underlying38
 have hu68 := Try.underlying68
 have H0 := Aside0.mk h
 clear h
 go_enter Try.func112, Try.ntmps112
 go_wp2_with (first | ((with_reducible refine gate_dst (N := 5) rfl ?_); refine bx (N := 5) (cs := #[.int .i64 17, .int .i64 arg]) (t := 68) ?_; intro g hg w1 hbox hb; have H1 := Aside0.mk (H0.out.later hb); have HB1 := Aside0.mk hb; have hb1 : w1.cell? ⟨g, 0, none⟩ = some (.int .i64 17) := (blk_cell hbox 0).trans rfl; have hb2 : w1.cell? ⟨g, 1, none⟩ = some (.int .i64 arg) := (blk_cell hbox 1).trans rfl; clear hbox hb hg H0; obtain ⟨⟨y0, y1, y2, y3, y4, y5, y6, y7⟩, ⟨fy0, fy1, fy2, fy3, fy4, fy5, fy6, fy7⟩⟩ := cells8 (H1.out.cpu)) | (go_at_call 109; refine (impl_Addr.calls arg tgt _ HT.out).mono ?_; rintro e w2 ⟨rfl, nd, rfl⟩))
 go_end0
 rw [ET.out]
 exact ⟨rfl, (H1.out.drewN nd).setC 3 _ rfl, kept_set ((Kept.of_below HB1.out _).drewN nd) (.inl rfl) _⟩
set_option maxRecDepth 100000 in
set_option maxHeartbeats 4000000 in
theorem flow_17_false {w0 w : World} {x c : Nat} {rv : Value} {b : Int} {A X S P : Int} {N C I : Bool} {ram : List Int} (h : MC w0 w x c rv b (⟨A, X, S, P, false, N, C, I⟩ : Cp) ram) (arg : Int) :
  Calls Try.prog 112 #[.pointer (some ⟨x, 0, none⟩), .pointer (some ⟨c, 0, none⟩), .agg #[.int .i64 17, .int .i64 arg]] w fun e w' => e = .returned (.tuple #[]) ∧ MC w0 w' x c rv b (⟨A, X, S, P, false, N, C, I⟩ : Cp) ram ∧ Kept w w' (fun j => j = c ∨ some j = rv.ownBlock) := by
 obtain ⟨tgt, ht, et⟩ := addr_ex arg
 have HT := Aside0.mk ht
 have ET := Aside0.mk et
 clear ht et
 have hu37 := Try.underlying37
 have hu38 := Try.underlying38
 have hu68 := Try.underlying68
 have H0 := Aside0.mk h
 clear h
 go_enter Try.func112, Try.ntmps112
 go_wp2_with (first | ((with_reducible refine gate_dst (N := 5) rfl ?_); refine bx (N := 5) (cs := #[.int .i64 17, .int .i64 arg]) (t := 68) ?_; intro g hg w1 hbox hb; have H1 := Aside0.mk (H0.out.later hb); have HB1 := Aside0.mk hb; have hb1 : w1.cell? ⟨g, 0, none⟩ = some (.int .i64 17) := (blk_cell hbox 0).trans rfl; have hb2 : w1.cell? ⟨g, 1, none⟩ = some (.int .i64 arg) := (blk_cell hbox 1).trans rfl; clear hbox hb hg H0; obtain ⟨⟨y0, y1, y2, y3, y4, y5, y6, y7⟩, ⟨fy0, fy1, fy2, fy3, fy4, fy5, fy6, fy7⟩⟩ := cells8 (H1.out.cpu)) | (go_at_call 109; refine (impl_Addr.calls arg tgt _ HT.out).mono ?_; rintro e w2 ⟨rfl, nd, rfl⟩))
 go_end0
 exact ⟨rfl, H1.out.drewN nd, ((Kept.of_below HB1.out _).drewN nd)⟩
set_option maxRecDepth 100000 in
set_option maxHeartbeats 4000000 in
theorem flow_18_true {w0 w : World} {x c : Nat} {rv : Value} {b : Int} {A X S P : Int} {Z N I : Bool} {ram : List Int} (h : MC w0 w x c rv b (⟨A, X, S, P, Z, N, true, I⟩ : Cp) ram) (arg : Int) :
  Calls Try.prog 112 #[.pointer (some ⟨x, 0, none⟩), .pointer (some ⟨c, 0, none⟩), .agg #[.int .i64 18, .int .i64 arg]] w fun e w' => e = .returned (.tuple #[]) ∧ MC w0 w' x c rv b ({ (⟨A, X, S, P, Z, N, true, I⟩ : Cp) with P := arg % 65536 }) ram ∧ Kept w w' (fun j => j = c ∨ some j = rv.ownBlock) := by
 obtain ⟨tgt, ht, et⟩ := addr_ex arg
 have HT := Aside0.mk ht
 have ET := Aside0.mk et
 clear ht et
 have hu37 := Try.underlying37
 have hu38 := Try.underlying38
 have hu68 := Try.underlying68
 have H0 := Aside0.mk h
 clear h
 go_enter Try.func112, Try.ntmps112
 go_wp2_with (first | ((with_reducible refine gate_dst (N := 5) rfl ?_); refine bx (N := 5) (cs := #[.int .i64 18, .int .i64 arg]) (t := 68) ?_; intro g hg w1 hbox hb; have H1 := Aside0.mk (H0.out.later hb); have HB1 := Aside0.mk hb; have hb1 : w1.cell? ⟨g, 0, none⟩ = some (.int .i64 18) := (blk_cell hbox 0).trans rfl; have hb2 : w1.cell? ⟨g, 1, none⟩ = some (.int .i64 arg) := (blk_cell hbox 1).trans rfl; clear hbox hb hg H0; obtain ⟨⟨y0, y1, y2, y3, y4, y5, y6, y7⟩, ⟨fy0, fy1, fy2, fy3, fy4, fy5, fy6, fy7⟩⟩ := cells8 (H1.out.cpu)) | (go_at_call 109; refine (impl_Addr.calls arg tgt _ HT.out).mono ?_; rintro e w2 ⟨rfl, nd, rfl⟩))
 go_end0
 rw [ET.out]
 exact ⟨rfl, (H1.out.drewN nd).setC 3 _ rfl, kept_set ((Kept.of_below HB1.out _).drewN nd) (.inl rfl) _⟩
set_option maxRecDepth 100000 in
set_option maxHeartbeats 4000000 in
theorem flow_18_false {w0 w : World} {x c : Nat} {rv : Value} {b : Int} {A X S P : Int} {Z N I : Bool} {ram : List Int} (h : MC w0 w x c rv b (⟨A, X, S, P, Z, N, false, I⟩ : Cp) ram) (arg : Int) :
  Calls Try.prog 112 #[.pointer (some ⟨x, 0, none⟩), .pointer (some ⟨c, 0, none⟩), .agg #[.int .i64 18, .int .i64 arg]] w fun e w' => e = .returned (.tuple #[]) ∧ MC w0 w' x c rv b (⟨A, X, S, P, Z, N, false, I⟩ : Cp) ram ∧ Kept w w' (fun j => j = c ∨ some j = rv.ownBlock) := by
 obtain ⟨tgt, ht, et⟩ := addr_ex arg
 have HT := Aside0.mk ht
 have ET := Aside0.mk et
 clear ht et
 have hu37 := Try.underlying37
 have hu38 := Try.underlying38
 have hu68 := Try.underlying68
 have H0 := Aside0.mk h
 clear h
 go_enter Try.func112, Try.ntmps112
 go_wp2_with (first | ((with_reducible refine gate_dst (N := 5) rfl ?_); refine bx (N := 5) (cs := #[.int .i64 18, .int .i64 arg]) (t := 68) ?_; intro g hg w1 hbox hb; have H1 := Aside0.mk (H0.out.later hb); have HB1 := Aside0.mk hb; have hb1 : w1.cell? ⟨g, 0, none⟩ = some (.int .i64 18) := (blk_cell hbox 0).trans rfl; have hb2 : w1.cell? ⟨g, 1, none⟩ = some (.int .i64 arg) := (blk_cell hbox 1).trans rfl; clear hbox hb hg H0; obtain ⟨⟨y0, y1, y2, y3, y4, y5, y6, y7⟩, ⟨fy0, fy1, fy2, fy3, fy4, fy5, fy6, fy7⟩⟩ := cells8 (H1.out.cpu)) | (go_at_call 109; refine (impl_Addr.calls arg tgt _ HT.out).mono ?_; rintro e w2 ⟨rfl, nd, rfl⟩))
 go_end0
 exact ⟨rfl, H1.out.drewN nd, ((Kept.of_below HB1.out _).drewN nd)⟩
set_option maxRecDepth 100000 in
set_option maxHeartbeats 4000000 in
theorem flow_19 {w0 w : World} {x c : Nat} {rv : Value} {b : Int} {A X S P : Int} {Z N C I : Bool} {ram : List Int} (h : MC w0 w x c rv b (⟨A, X, S, P, Z, N, C, I⟩ : Cp) ram) (arg : Int) :
  Calls Try.prog 112 #[.pointer (some ⟨x, 0, none⟩), .pointer (some ⟨c, 0, none⟩), .agg #[.int .i64 19, .int .i64 arg]] w fun e w' => e = .returned (.tuple #[]) ∧ MC w0 w' x c rv b ({ (⟨A, X, S, P, Z, N, C, I⟩ : Cp) with P := arg % 65536 }) ram ∧ Kept w w' (fun j => j = c ∨ some j = rv.ownBlock) := by
 obtain ⟨tgt, ht, et⟩ := addr_ex arg
 have HT := Aside0.mk ht
 have ET := Aside0.mk et
 clear ht et
 have hu37 := Try.underlying37
 have hu38 := Try.underlying38
 have hu68 := Try.underlying68
 have H0 := Aside0.mk h
 clear h
 go_enter Try.func112, Try.ntmps112
 go_wp2_with (first | ((with_reducible refine gate_dst (N := 5) rfl ?_); refine bx (N := 5) (cs := #[.int .i64 19, .int .i64 arg]) (t := 68) ?_; intro g hg w1 hbox hb; have H1 := Aside0.mk (H0.out.later hb); have HB1 := Aside0.mk hb; have hb1 : w1.cell? ⟨g, 0, none⟩ = some (.int .i64 19) := (blk_cell hbox 0).trans rfl; have hb2 : w1.cell? ⟨g, 1, none⟩ = some (.int .i64 arg) := (blk_cell hbox 1).trans rfl; clear hbox hb hg H0; obtain ⟨⟨y0, y1, y2, y3, y4, y5, y6, y7⟩, ⟨fy0, fy1, fy2, fy3, fy4, fy5, fy6, fy7⟩⟩ := cells8 (H1.out.cpu)) | (go_at_call 109; refine (impl_Addr.calls arg tgt _ HT.out).mono ?_; rintro e w2 ⟨rfl, nd, rfl⟩))
 go_end0
 rw [ET.out]
 exact ⟨rfl, (H1.out.drewN nd).setC 3 _ rfl, kept_set ((Kept.of_below HB1.out _).drewN nd) (.inl rfl) _⟩
set_option maxRecDepth 100000 in
set_option maxHeartbeats 4000000 in
theorem flow_20 {w0 w : World} {x c : Nat} {rv : Value} {b : Int} {A X S P : Int} {Z N C I : Bool} {ram : List Int} (h : MC w0 w x c rv b (⟨A, X, S, P, Z, N, C, I⟩ : Cp) ram) (arg : Int) :
  Calls Try.prog 112 #[.pointer (some ⟨x, 0, none⟩), .pointer (some ⟨c, 0, none⟩), .agg #[.int .i64 20, .int .i64 arg]] w fun e w' => e = .returned (.tuple #[]) ∧ MC w0 w' x c rv b { (pushPcF ram (⟨A, X, S, P, Z, N, C, I⟩ : Cp)).2 with P := arg % 65536 } (pushPcF ram (⟨A, X, S, P, Z, N, C, I⟩ : Cp)).1 ∧ Kept w w' (fun j => j = c ∨ some j = rv.ownBlock) := by
 obtain ⟨tgt, ht, et⟩ := addr_ex arg
 have HT := Aside0.mk ht
 have ET := Aside0.mk et
 clear ht et
 have hu37 := Try.underlying37
 have hu38 := Try.underlying38
 have hu68 := Try.underlying68
 have H0 := Aside0.mk h
 clear h
 go_enter Try.func112, Try.ntmps112
 go_wp2_with (first | ((with_reducible refine gate_dst (N := 5) rfl ?_); refine bx (N := 5) (cs := #[.int .i64 20, .int .i64 arg]) (t := 68) ?_; intro g hg w1 hbox hb; have H1 := Aside0.mk (H0.out.later hb); have HB1 := Aside0.mk hb; have hb1 : w1.cell? ⟨g, 0, none⟩ = some (.int .i64 20) := (blk_cell hbox 0).trans rfl; have hb2 : w1.cell? ⟨g, 1, none⟩ = some (.int .i64 arg) := (blk_cell hbox 1).trans rfl; clear hbox hb hg H0; obtain ⟨⟨y0, y1, y2, y3, y4, y5, y6, y7⟩, ⟨fy0, fy1, fy2, fy3, fy4, fy5, fy6, fy7⟩⟩ := cells8 (H1.out.cpu)) | (go_at_call 109; refine (impl_Addr.calls arg tgt _ HT.out).mono ?_; rintro e w2 ⟨rfl, nd, rfl⟩))
 refine (pushPc_calls (H1.out.drewN nd)).mono ?_
 rintro e w4 ⟨rfl, h4, k4⟩
 generalize hq : pushPcF ram (⟨A, X, S, P, Z, N, C, I⟩ : Cp) = q at *
 have HQ := Aside0.mk hq
 clear hq
 have H4 := Aside0.mk h4
 have hP := blkP h4.cpu
 have fP := blk_frozen h4.cpu 3
 clear h4
 go_wp2
 go_end0
 rw [ET.out, HQ.out]
 exact ⟨rfl, H4.out.setC 3 _ rfl, kept_set (((Kept.of_below HB1.out _).drewN nd).then_ k4 (fun j hj => .inl hj)) (.inl rfl) _⟩
set_option maxRecDepth 100000 in
set_option maxHeartbeats 4000000 in
theorem flow_21 {w0 w : World} {x c : Nat} {rv : Value} {b : Int} {A X S P : Int} {Z N C I : Bool} {ram : List Int} (h : MC w0 w x c rv b (⟨A, X, S, P, Z, N, C, I⟩ : Cp) ram) (arg : Int) :
  Calls Try.prog 112 #[.pointer (some ⟨x, 0, none⟩), .pointer (some ⟨c, 0, none⟩), .agg #[.int .i64 21, .int .i64 arg]] w fun e w' => e = .returned (.tuple #[]) ∧ MC w0 w' x c rv b (backF ram (⟨A, X, S, P, Z, N, C, I⟩ : Cp)) ram ∧ Kept w w' (fun j => j = c ∨ some j = rv.ownBlock) := by
 obtain ⟨tgt, ht, et⟩ := addr_ex arg
 have HT := Aside0.mk ht
 have ET := Aside0.mk et
 clear ht et
 have hu37 := Try.underlying37
 have hu38 := Try.underlying38
 have hu68 := Try.underlying68
 have H0 := Aside0.mk h
 clear h
 go_enter Try.func112, Try.ntmps112
 go_wp2_with (first | ((with_reducible refine gate_dst (N := 5) rfl ?_); refine bx (N := 5) (cs := #[.int .i64 21, .int .i64 arg]) (t := 68) ?_; intro g hg w1 hbox hb; have H1 := Aside0.mk (H0.out.later hb); have HB1 := Aside0.mk hb; have hb1 : w1.cell? ⟨g, 0, none⟩ = some (.int .i64 21) := (blk_cell hbox 0).trans rfl; have hb2 : w1.cell? ⟨g, 1, none⟩ = some (.int .i64 arg) := (blk_cell hbox 1).trans rfl; clear hbox hb hg H0; obtain ⟨⟨y0, y1, y2, y3, y4, y5, y6, y7⟩, ⟨fy0, fy1, fy2, fy3, fy4, fy5, fy6, fy7⟩⟩ := cells8 (H1.out.cpu)) | (go_at_call 109; refine (impl_Addr.calls arg tgt _ HT.out).mono ?_; rintro e w2 ⟨rfl, nd, rfl⟩))
 refine (back_calls (H1.out.drewN nd)).mono ?_
 rintro e w4 ⟨rfl, h4, k4⟩
 have H4 := Aside0.mk h4
 clear h4
 go_wp2
 go_end0
 exact ⟨rfl, H4.out, (((Kept.of_below HB1.out _).drewN nd).then_ k4 (fun j hj => .inl hj))⟩
set_option maxRecDepth 100000 in
set_option maxHeartbeats 4000000 in
theorem flow_22 {w0 w : World} {x c : Nat} {rv : Value} {b : Int} {A X S P : Int} {Z N C I : Bool} {ram : List Int} (h : MC w0 w x c rv b (⟨A, X, S, P, Z, N, C, I⟩ : Cp) ram) (arg : Int) :
  Calls Try.prog 112 #[.pointer (some ⟨x, 0, none⟩), .pointer (some ⟨c, 0, none⟩), .agg #[.int .i64 22, .int .i64 arg]] w fun e w' => e = .returned (.tuple #[]) ∧ MC w0 w' x c rv b (pushF ram (⟨A, X, S, P, Z, N, C, I⟩ : Cp) A).2 (pushF ram (⟨A, X, S, P, Z, N, C, I⟩ : Cp) A).1 ∧ Kept w w' (fun j => j = c ∨ some j = rv.ownBlock) := by
 obtain ⟨tgt, ht, et⟩ := addr_ex arg
 have HT := Aside0.mk ht
 have ET := Aside0.mk et
 clear ht et
 have hu37 := Try.underlying37
 have hu38 := Try.underlying38
 have hu68 := Try.underlying68
 have H0 := Aside0.mk h
 clear h
 go_enter Try.func112, Try.ntmps112
 go_wp2_with (first | ((with_reducible refine gate_dst (N := 5) rfl ?_); refine bx (N := 5) (cs := #[.int .i64 22, .int .i64 arg]) (t := 68) ?_; intro g hg w1 hbox hb; have H1 := Aside0.mk (H0.out.later hb); have HB1 := Aside0.mk hb; have hb1 : w1.cell? ⟨g, 0, none⟩ = some (.int .i64 22) := (blk_cell hbox 0).trans rfl; have hb2 : w1.cell? ⟨g, 1, none⟩ = some (.int .i64 arg) := (blk_cell hbox 1).trans rfl; clear hbox hb hg H0; obtain ⟨⟨y0, y1, y2, y3, y4, y5, y6, y7⟩, ⟨fy0, fy1, fy2, fy3, fy4, fy5, fy6, fy7⟩⟩ := cells8 (H1.out.cpu)) | (go_at_call 109; refine (impl_Addr.calls arg tgt _ HT.out).mono ?_; rintro e w2 ⟨rfl, nd, rfl⟩))
 refine (push_calls (H1.out.drewN nd) A).mono ?_
 rintro e w4 ⟨rfl, h4, k4⟩
 have H4 := Aside0.mk h4
 clear h4
 go_wp2
 go_end0
 exact ⟨rfl, H4.out, (((Kept.of_below HB1.out _).drewN nd).then_ k4 (fun j hj => .inl hj))⟩
set_option maxRecDepth 100000 in
set_option maxHeartbeats 4000000 in
theorem flow_23 {w0 w : World} {x c : Nat} {rv : Value} {b : Int} {A X S P : Int} {Z N C I : Bool} {ram : List Int} (h : MC w0 w x c rv b (⟨A, X, S, P, Z, N, C, I⟩ : Cp) ram) (arg : Int) :
  Calls Try.prog 112 #[.pointer (some ⟨x, 0, none⟩), .pointer (some ⟨c, 0, none⟩), .agg #[.int .i64 23, .int .i64 arg]] w fun e w' => e = .returned (.tuple #[]) ∧ MC w0 w' x c rv b (setAK (pullF ram (⟨A, X, S, P, Z, N, C, I⟩ : Cp)).1 (pullF ram (⟨A, X, S, P, Z, N, C, I⟩ : Cp)).2) ram ∧ Kept w w' (fun j => j = c ∨ some j = rv.ownBlock) := by
 obtain ⟨tgt, ht, et⟩ := addr_ex arg
 have HT := Aside0.mk ht
 have ET := Aside0.mk et
 clear ht et
 have hu37 := Try.underlying37
 have hu38 := Try.underlying38
 have hu68 := Try.underlying68
 have H0 := Aside0.mk h
 clear h
 go_enter Try.func112, Try.ntmps112
 go_wp2_with (first | ((with_reducible refine gate_dst (N := 5) rfl ?_); refine bx (N := 5) (cs := #[.int .i64 23, .int .i64 arg]) (t := 68) ?_; intro g hg w1 hbox hb; have H1 := Aside0.mk (H0.out.later hb); have HB1 := Aside0.mk hb; have hb1 : w1.cell? ⟨g, 0, none⟩ = some (.int .i64 23) := (blk_cell hbox 0).trans rfl; have hb2 : w1.cell? ⟨g, 1, none⟩ = some (.int .i64 arg) := (blk_cell hbox 1).trans rfl; clear hbox hb hg H0; obtain ⟨⟨y0, y1, y2, y3, y4, y5, y6, y7⟩, ⟨fy0, fy1, fy2, fy3, fy4, fy5, fy6, fy7⟩⟩ := cells8 (H1.out.cpu)) | (go_at_call 109; refine (impl_Addr.calls arg tgt _ HT.out).mono ?_; rintro e w2 ⟨rfl, nd, rfl⟩))
 refine (pull_calls (H1.out.drewN nd)).mono ?_
 rintro e w4 ⟨rfl, h4, k4⟩
 generalize hq : pullF ram (⟨A, X, S, P, Z, N, C, I⟩ : Cp) = q at *
 have HQ := Aside0.mk hq
 clear hq
 obtain ⟨⟨qa, qx, qs, qp, qz, qn, qc, qi⟩, qv⟩ := q
 simp only at h4
 obtain ⟨s1, sz, sn, hf, ek⟩ := seta_ex (⟨qa, qx, qs, qp, qz, qn, qc, qi⟩ : Cp) qv
 have EK := Aside0.mk ek
 clear ek
 have HF := Aside0.mk hf
 have H4 := Aside0.mk h4
 clear hf
 obtain ⟨⟨p0, p1, p2, p3, p4, p5, p6, p7⟩, -⟩ := cells8 h4.cpu
 clear h4
 go_wp2_with (go_at_call 114; refine (impl_SetA.calls qa qx qs qp qz qn qc qi qv s1 qx qs qp sz sn qc qi _ HF.out).mono ?_; rintro e w5 ⟨rfl, hb⟩; have H5 := Aside0.mk (H4.out.later hb); have HB5 := Aside0.mk hb; clear hb; obtain ⟨⟨r0, r1, r2, r3, r4, r5, r6, r7⟩, ⟨f0, f1, f2, f3, f4, f5, f6, f7⟩⟩ := cells8 H5.out.cpu)
 go_end0
 rw [HQ.out]
 simp only
 rw [EK.out]
 exact ⟨trivial, H5.out.put8 _ _ _ _ _ _ _ _, keptM8 ((((Kept.of_below HB1.out _).drewN nd).then_ k4 (fun j hj => .inl hj)).below HB5.out) _ _ _ _ _ _ _ _⟩
set_option maxRecDepth 100000 in
set_option maxHeartbeats 4000000 in
theorem flow_24 {w0 w : World} {x c : Nat} {rv : Value} {b : Int} {A X S P : Int} {Z N C I : Bool} {ram : List Int} (h : MC w0 w x c rv b (⟨A, X, S, P, Z, N, C, I⟩ : Cp) ram) (arg : Int) :
  Calls Try.prog 112 #[.pointer (some ⟨x, 0, none⟩), .pointer (some ⟨c, 0, none⟩), .agg #[.int .i64 24, .int .i64 arg]] w fun e w' => e = .returned (.tuple #[]) ∧ MC w0 w' x c rv b (backF ram (flagK (pullF ram (⟨A, X, S, P, Z, N, C, I⟩ : Cp)).1 (pullF ram (⟨A, X, S, P, Z, N, C, I⟩ : Cp)).2)) ram ∧ Kept w w' (fun j => j = c ∨ some j = rv.ownBlock) := by
 obtain ⟨tgt, ht, et⟩ := addr_ex arg
 have HT := Aside0.mk ht
 have ET := Aside0.mk et
 clear ht et
 have hu37 := Try.underlying37
 have hu38 := Try.underlying38
 have hu68 := Try.underlying68
 have H0 := Aside0.mk h
 clear h
 go_enter Try.func112, Try.ntmps112
 go_wp2_with (first | ((with_reducible refine gate_dst (N := 5) rfl ?_); refine bx (N := 5) (cs := #[.int .i64 24, .int .i64 arg]) (t := 68) ?_; intro g hg w1 hbox hb; have H1 := Aside0.mk (H0.out.later hb); have HB1 := Aside0.mk hb; have hb1 : w1.cell? ⟨g, 0, none⟩ = some (.int .i64 24) := (blk_cell hbox 0).trans rfl; have hb2 : w1.cell? ⟨g, 1, none⟩ = some (.int .i64 arg) := (blk_cell hbox 1).trans rfl; clear hbox hb hg H0; obtain ⟨⟨y0, y1, y2, y3, y4, y5, y6, y7⟩, ⟨fy0, fy1, fy2, fy3, fy4, fy5, fy6, fy7⟩⟩ := cells8 (H1.out.cpu)) | (go_at_call 109; refine (impl_Addr.calls arg tgt _ HT.out).mono ?_; rintro e w2 ⟨rfl, nd, rfl⟩))
 refine (pull_calls (H1.out.drewN nd)).mono ?_
 rintro e w4 ⟨rfl, h4, k4⟩
 generalize hq : pullF ram (⟨A, X, S, P, Z, N, C, I⟩ : Cp) = q at *
 have HQ := Aside0.mk hq
 clear hq
 obtain ⟨⟨qa, qx, qs, qp, qz, qn, qc, qi⟩, qv⟩ := q
 simp only at h4
 obtain ⟨vz, vn, vc, vi, hf, ek⟩ := flag_ex (⟨qa, qx, qs, qp, qz, qn, qc, qi⟩ : Cp) qv
 have EK := Aside0.mk ek
 clear ek
 have HF := Aside0.mk hf
 have H4 := Aside0.mk h4
 clear hf
 obtain ⟨⟨p0, p1, p2, p3, p4, p5, p6, p7⟩, -⟩ := cells8 h4.cpu
 clear h4
 go_wp2_with (go_at_call 121; refine (impl_WithFlags.calls qa qx qs qp qz qn qc qi qv qa qx qs qp vz vn vc vi _ HF.out).mono ?_; rintro e w5 ⟨rfl, hb⟩; have H5 := Aside0.mk (H4.out.later hb); have HB5 := Aside0.mk hb; clear hb; obtain ⟨⟨r0, r1, r2, r3, r4, r5, r6, r7⟩, ⟨f0, f1, f2, f3, f4, f5, f6, f7⟩⟩ := cells8 H5.out.cpu)
 refine (back_calls (H5.out.put8 _ _ _ _ _ _ _ _)).mono ?_
 rintro e w6 ⟨rfl, h6, k6⟩
 have H6 := Aside0.mk h6
 clear h6
 go_wp2
 go_end0
 rw [HQ.out]
 simp only
 rw [EK.out]
 exact ⟨trivial, H6.out, (keptM8 ((((Kept.of_below HB1.out _).drewN nd).then_ k4 (fun j hj => .inl hj)).below HB5.out) _ _ _ _ _ _ _ _).then_ k6 (fun j hj => .inl hj)⟩
set_option maxRecDepth 100000 in
set_option maxHeartbeats 4000000 in
theorem flow_no {w0 w : World} {x c : Nat} {rv : Value} {b : Int} {A X S P : Int} {Z N C I : Bool} {ram : List Int} (h : MC w0 w x c rv b (⟨A, X, S, P, Z, N, C, I⟩ : Cp) ram) (op arg : Int) (n16 : (op == 16) = false) (n17 : (op == 17) = false) (n18 : (op == 18) = false) (n19 : (op == 19) = false) (n20 : (op == 20) = false) (n21 : (op == 21) = false) (n22 : (op == 22) = false) (n23 : (op == 23) = false) (n24 : (op == 24) = false) :
  Calls Try.prog 112 #[.pointer (some ⟨x, 0, none⟩), .pointer (some ⟨c, 0, none⟩), .agg #[.int .i64 op, .int .i64 arg]] w fun e w' => e = .returned (.tuple #[]) ∧ MC w0 w' x c rv b (⟨A, X, S, P, Z, N, C, I⟩ : Cp) ram ∧ Kept w w' (fun j => j = c ∨ some j = rv.ownBlock) := by
 obtain ⟨tgt, ht, et⟩ := addr_ex arg
 have HT := Aside0.mk ht
 have ET := Aside0.mk et
 clear ht et
 have hu37 := Try.underlying37
 have hu38 := Try.underlying38
 have hu68 := Try.underlying68
 have H0 := Aside0.mk h
 clear h
 go_enter Try.func112, Try.ntmps112
 go_wp2_with (first | ((with_reducible refine gate_dst (N := 5) rfl ?_); refine bx (N := 5) (cs := #[.int .i64 op, .int .i64 arg]) (t := 68) ?_; intro g hg w1 hbox hb; have H1 := Aside0.mk (H0.out.later hb); have HB1 := Aside0.mk hb; have hb1 : w1.cell? ⟨g, 0, none⟩ = some (.int .i64 op) := (blk_cell hbox 0).trans rfl; have hb2 : w1.cell? ⟨g, 1, none⟩ = some (.int .i64 arg) := (blk_cell hbox 1).trans rfl; clear hbox hb hg H0; obtain ⟨⟨y0, y1, y2, y3, y4, y5, y6, y7⟩, ⟨fy0, fy1, fy2, fy3, fy4, fy5, fy6, fy7⟩⟩ := cells8 (H1.out.cpu)) | (go_at_call 109; refine (impl_Addr.calls arg tgt _ HT.out).mono ?_; rintro e w2 ⟨rfl, nd, rfl⟩))
 go_end0
 exact ⟨rfl, H1.out.drewN nd, ((Kept.of_below HB1.out _).drewN nd)⟩
def flowF (ram : List Int) (k : Cp) (op arg : Int) : List Int × Cp := if op = 16 then (ram, if k.Z = true then k else { k with P := arg % 65536 }) else if op = 17 then (ram, if k.Z = true then { k with P := arg % 65536 } else k) else if op = 18 then (ram, if k.C = true then { k with P := arg % 65536 } else k) else if op = 19 then (ram, { k with P := arg % 65536 }) else if op = 20 then ((pushPcF ram k).1, { (pushPcF ram k).2 with P := arg % 65536 }) else if op = 21 then (ram, backF ram k) else if op = 22 then pushF ram k k.A else if op = 23 then (ram, setAK (pullF ram k).1 (pullF ram k).2) else if op = 24 then (ram, backF ram (flagK (pullF ram k).1 (pullF ram k).2)) else (ram, k)
theorem flow_calls {w0 w : World} {x c : Nat} {rv : Value} {b : Int} {k : Cp} {ram : List Int} (h : MC w0 w x c rv b k ram) (op arg : Int) :
  Calls Try.prog 112 #[.pointer (some ⟨x, 0, none⟩), .pointer (some ⟨c, 0, none⟩), .agg #[.int .i64 op, .int .i64 arg]] w fun e w' => e = .returned (.tuple #[]) ∧ MC w0 w' x c rv b (flowF ram k op arg).2 (flowF ram k op arg).1 ∧ Kept w w' (fun j => j = c ∨ some j = rv.ownBlock) := by
 obtain ⟨A, X, S, P, Z, N, C, I⟩ := k
 unfold flowF
 by_cases h16 : op = 16
 ·rw [if_pos h16, h16]
  cases Z
  ·exact flow_16_false h arg
  ·exact flow_16_true h arg
 rw [if_neg h16]
 by_cases h17 : op = 17
 ·rw [if_pos h17, h17]
  cases Z
  ·exact flow_17_false h arg
  ·exact flow_17_true h arg
 rw [if_neg h17]
 by_cases h18 : op = 18
 ·rw [if_pos h18, h18]
  cases C
  ·exact flow_18_false h arg
  ·exact flow_18_true h arg
 rw [if_neg h18]
 by_cases h19 : op = 19
 ·rw [if_pos h19, h19]
  exact flow_19 h arg
 rw [if_neg h19]
 by_cases h20 : op = 20
 ·rw [if_pos h20, h20]
  exact flow_20 h arg
 rw [if_neg h20]
 by_cases h21 : op = 21
 ·rw [if_pos h21, h21]
  exact flow_21 h arg
 rw [if_neg h21]
 by_cases h22 : op = 22
 ·rw [if_pos h22, h22]
  exact flow_22 h arg
 rw [if_neg h22]
 by_cases h23 : op = 23
 ·rw [if_pos h23, h23]
  exact flow_23 h arg
 rw [if_neg h23]
 by_cases h24 : op = 24
 ·rw [if_pos h24, h24]
  exact flow_24 h arg
 rw [if_neg h24]
 exact flow_no h op arg (beq_eq_false_iff_ne.mpr h16) (beq_eq_false_iff_ne.mpr h17) (beq_eq_false_iff_ne.mpr h18) (beq_eq_false_iff_ne.mpr h19) (beq_eq_false_iff_ne.mpr h20) (beq_eq_false_iff_ne.mpr h21) (beq_eq_false_iff_ne.mpr h22) (beq_eq_false_iff_ne.mpr h23) (beq_eq_false_iff_ne.mpr h24)

/-! ### impl_Exec (mine) -/
def execF (ram : List Int) (k : Cp) (op arg v ln : Int) : List Int × Cp := if (reckonF { k with P := wrap64 (k.P + ln) % 65536 } op arg (v % 256)).2 = true then (ram, (reckonF { k with P := wrap64 (k.P + ln) % 65536 } op arg (v % 256)).1) else if (turnF (reckonF { k with P := wrap64 (k.P + ln) % 65536 } op arg (v % 256)).1 op).2 = true then (ram, (turnF (reckonF { k with P := wrap64 (k.P + ln) % 65536 } op arg (v % 256)).1 op).1) else flowF ram (turnF (reckonF { k with P := wrap64 (k.P + ln) % 65536 } op arg (v % 256)).1 op).1 op arg
set_option maxRecDepth 100000 in
set_option maxHeartbeats 4000000 in
theorem exec_calls {w0 w : World} {x c : Nat} {rv : Value} {b : Int} {k : Cp} {ram : List Int} (h : MC w0 w x c rv b k ram) (op arg v : Int) (n : Nat) (ln : Int) (hl : impl_OpLen.f n op = some ln) :
  Calls Try.prog 98 #[.pointer (some ⟨x, 0, none⟩), .pointer (some ⟨c, 0, none⟩), .agg #[.int .i64 op, .int .i64 arg], .int .i64 v] w fun e w' => e = .returned (.tuple #[]) ∧ MC w0 w' x c rv b (execF ram k op arg v ln).2 (execF ram k op arg v ln).1 ∧ Kept w w' (fun j => j = c ∨ some j = rv.ownBlock) := by
 obtain ⟨A, X, S, P, Z, N, C, I⟩ := k
 obtain ⟨pc, hp, ep⟩ := addr_ex (wrap64 (P + ln))
 obtain ⟨vb, hv⟩ : ∃ vb, v % 256 = vb := ⟨_, rfl⟩
 have HBY : Aside0 (∀ w, Calls Try.prog 77 #[.int .i64 v] w fun e w' => e = .returned (.int .i64 vb) ∧ w' = w) := ⟨fun w => hv ▸ byte_same v w⟩
 have HL := Aside0.mk hl
 have HP := Aside0.mk hp
 have EP := Aside0.mk ep
 have HV := Aside0.mk hv
 have H0 := Aside0.mk h
 clear h hl hp ep hv
 have hu37 := Try.underlying37
 have hu38 := Try.underlying38
 have hu68 := Try.underlying68
 go_enter Try.func98, Try.ntmps98
 go_wp2_with ((with_reducible refine gate_dst (N := 6) rfl ?_); refine bx (N := 6) (cs := #[.int .i64 op, .int .i64 arg]) (t := 68) ?_; intro g hg w1 hbox hb; have H1 := Aside0.mk (H0.out.later hb); have HB1 := Aside0.mk hb; have HG := Aside0.mk hbox; have HCU : Aside0 (w1.heap[c]? = some (.cells #[.int .i64 A, .int .i64 X, .int .i64 S, .int .i64 P, .bool Z, .bool N, .bool C, .bool I] 38 (0, 0))) := ⟨H1.out.cpu⟩; have NG := Aside0.mk (blk_ne hbox H1.out.cpu (by decide)); clear hbox hb hg H0)
 refine free_ (n := 13) (e := 10) (g := 0) (T := (true, [([], []), ([], []), ([1], [1]), ([2], [2]), ([3], [3]), ([], []), ([5], [5]), ([6], [6]), ([4, 7], [4, 7]), ([8, 7], [8]), ([0, 0, 1, 2, 3, 4, 5, 6, 7, 8, 9], [0]), ([10, 0, 1, 2, 3, 4, 5, 6, 7, 8, 9], [10]), ([11, 9, 9, 0, 1, 2, 3, 4, 5, 6, 7, 8, 9], [9, 11])])) #[true, true, true, true, true, true, true, true, true, true, false, false, false] #[false, true, true, true, true, true, true, true, true, true, false, false, false] [8, 9, 10, 11, 12, 13, 14, 15, 16, 17] (fun j u w' => match j with
  | 0 => u = .pointer (some ⟨c, 0, none⟩)
  | 1 => u = .pointer (some ⟨c, 0, none⟩)
  | 2 => u = .pointer (some ⟨c, 0, none⟩)
  | 3 => u = .pointer (some ⟨c, 3, none⟩)
  | 4 => u = .int .i64 P
  | 5 => u = .pointer (some ⟨g, 0, none⟩)
  | 6 => u = .int .i64 op
  | 7 => u = .int .i64 ln
  | 8 => u = .int .i64 (wrap64 (P + ln))
  | 9 => u = .int .i64 pc
  | _ => False)
  (by kernel_rfl) rfl (by kernel_rfl) (by kernel_rfl) (by kernel_rfl) (any_of (T := (true, [([], []), ([], []), ([1], [1]), ([2], [2]), ([3], [3]), ([], []), ([5], [5]), ([6], [6]), ([4, 7], [4, 7]), ([8, 7], [8]), ([0, 0, 1, 2, 3, 4, 5, 6, 7, 8, 9], [0]), ([10, 0, 1, 2, 3, 4, 5, 6, 7, 8, 9], [10]), ([11, 9, 9, 0, 1, 2, 3, 4, 5, 6, 7, 8, 9], [9, 11])])) (by kernel_rfl) (by kernel_rfl)) (fun _ _ _ _ h => h) ?stex ?spex ?laex ?enex
 case stex =>
  intro j u W W' h hb
  exact h
 case spex =>
  intro i hi o ho a W hB hout hneed K hK
  have HBW := Aside0.mk hB
  have hcase : i = 0 ∨ i = 1 ∨ i = 2 ∨ i = 3 ∨ i = 4 ∨ i = 5 ∨ i = 6 ∨ i = 7 ∨ i = 8 ∨ i = 9 := by omega
  clear hB
  rcases hcase with rfl | rfl | rfl | rfl | rfl | rfl | rfl | rfl | rfl | rfl
  ·obtain rfl := Option.some.inj ho
   have h1 : a.eval (.tmp 1) = .pointer (some ⟨c, 0, none⟩) := hout 1 (by decide)
   have h1' := eval_get h1
   refine value_ (v := .pointer (some ⟨c, 0, none⟩)) (w1 := W) (by rfl) rfl ?_ (hK.out _ _ (Below.refl _ _) rfl)
   go_simp
  ·obtain rfl := Option.some.inj ho
   have h1 : a.eval (.tmp 1) = .pointer (some ⟨c, 0, none⟩) := hout 1 (by decide)
   have h1' := eval_get h1
   refine value_ (v := .pointer (some ⟨c, 0, none⟩)) (w1 := W) (by rfl) rfl ?_ (hK.out _ _ (Below.refl _ _) rfl)
   go_simp
  ·obtain rfl := Option.some.inj ho
   have e1 : a.eval (.tmp 9) = _ := hneed 1 (by decide)
   have e1' := eval_get e1
   refine value_ (v := .pointer (some ⟨c, 0, none⟩)) (w1 := W) (by rfl) rfl ?_ (hK.out _ _ (Below.refl _ _) rfl)
   go_simp
  ·obtain rfl := Option.some.inj ho
   have e2 : a.eval (.tmp 10) = _ := hneed 2 (by decide)
   have e2' := eval_get e2
   refine value_ (v := .pointer (some ⟨c, 3, none⟩)) (w1 := W) (by rfl) rfl ?_ (hK.out _ _ (Below.refl _ _) rfl)
   go_simp
  ·obtain rfl := Option.some.inj ho
   have e3 : a.eval (.tmp 11) = _ := hneed 3 (by decide)
   have e3' := eval_get e3
   have hb := blk_below (w := w1.drew) HCU.out HBW.out
   have d3 := (blk_cell hb 3).trans rfl
   refine value_ (v := .int .i64 P) (w1 := W) (by rfl) rfl ?_ (hK.out _ _ (Below.refl _ _) rfl)
   go_simp
  ·obtain rfl := Option.some.inj ho
   have h6 : a.eval (.tmp 6) = .pointer (some ⟨g, 0, none⟩) := hout 6 (by decide)
   have h6' := eval_get h6
   refine value_ (v := .pointer (some ⟨g, 0, none⟩)) (w1 := W) (by rfl) rfl ?_ (hK.out _ _ (Below.refl _ _) rfl)
   go_simp
  ·obtain rfl := Option.some.inj ho
   have e5 : a.eval (.tmp 13) = _ := hneed 5 (by decide)
   have e5' := eval_get e5
   have hb := blk_below (w := w1.drew) HG.out HBW.out
   have d0 := (blk_cell hb 0).trans rfl
   refine value_ (v := .int .i64 op) (w1 := W) (by rfl) rfl ?_ (hK.out _ _ (Below.refl _ _) rfl)
   go_simp
  ·obtain rfl := Option.some.inj ho
   have e6 : a.eval (.tmp 14) = _ := hneed 6 (by decide)
   have e6' := eval_get e6
   refine goes_ Try.func102 (by kernel_rfl) rfl #[.int .i64 op] (by rfl) rfl rfl (by simp only [List.map_toArray, List.map_cons, List.map_nil, e6]) ?_
   refine (impl_OpLen.calls n op ln W HL.out).mono ?_
   rintro e w' ⟨rfl, nd, rfl⟩
   exact ⟨_, rfl, hK.out _ _ (pw_below_drewN (Below.refl _ _) nd) rfl⟩
  ·obtain rfl := Option.some.inj ho
   have e4 : a.eval (.tmp 12) = _ := hneed 4 (by decide)
   have e4' := eval_get e4
   have e7 : a.eval (.tmp 15) = _ := hneed 7 (by decide)
   have e7' := eval_get e7
   refine value_ (v := .int .i64 (wrap64 (P + ln))) (w1 := W) (by rfl) rfl ?_ (hK.out _ _ (Below.refl _ _) rfl)
   go_simp
   first | done | rfl | simp only [i64_w]
  ·obtain rfl := Option.some.inj ho
   have e8 : a.eval (.tmp 16) = _ := hneed 8 (by decide)
   have e8' := eval_get e8
   refine goes_ Try.func109 (by kernel_rfl) rfl #[.int .i64 (wrap64 (P + ln))] (by rfl) rfl rfl (by simp only [List.map_toArray, List.map_cons, List.map_nil, e8]) ?_
   refine (impl_Addr.calls (wrap64 (P + ln)) pc W HP.out).mono ?_
   rintro e w' ⟨rfl, nd, rfl⟩
   exact ⟨_, rfl, hK.out _ _ (pw_below_drewN (Below.refl _ _) nd) rfl⟩
 case laex =>
  intro o ho a W hout hneed
  obtain rfl := Option.some.inj ho
  have h1 : a.eval (.tmp 1) = .pointer (some ⟨c, 0, none⟩) := hout 1 (by decide)
  have h1' := eval_get h1
  refine ⟨.pointer (some ⟨c, 0, none⟩), rfl, Or.inl ⟨by rfl, ?_⟩⟩
  intro w'
  go_simp
 intro f vs W2 hB hE
 have HBW := Aside0.mk hB
 clear hB
 have q0 : vs 0 = _ := hE 0 (by decide)
 have q1 : vs 1 = _ := hE 1 (by decide)
 have q2 : vs 2 = _ := hE 2 (by decide)
 have q3 : vs 3 = _ := hE 3 (by decide)
 have q4 : vs 4 = _ := hE 4 (by decide)
 have q5 : vs 5 = _ := hE 5 (by decide)
 have q6 : vs 6 = _ := hE 6 (by decide)
 have q7 : vs 7 = _ := hE 7 (by decide)
 have q8 : vs 8 = _ := hE 8 (by decide)
 have q9 : vs 9 = _ := hE 9 (by decide)
 show wpAnyLast _ _ _ _ _ _ (f + 3) _ (putAll _ [(8, vs 0), (9, vs 1), (10, vs 2), (11, vs 3), (12, vs 4), (13, vs 5), (14, vs 6), (15, vs 7), (16, vs 8), (17, vs 9)]) W2
 rw [q0, q1, q2, q3, q4, q5, q6, q7, q8, q9]
 clear q0 q1 q2 q3 q4 q5 q6 q7 q8 q9 hE
 refine norm_ (a' := ?_) ?_ ?_
 rotate_left
 ·simp only [putAll, Act.put, List.setIfInBounds_toArray, List.set_cons_zero, List.set_cons_succ]
  rfl
 refine pure_ (i := 10) (N := some 18) (v := ?_) (a' := ?_) #[true, true, true, true, true, true, true, true, true, true, true, false, false] rfl rfl (by kernel_rfl) (fun _ _ _ h => h) (Or.inl ⟨by rfl, ?_⟩) ?_ ?_
 rotate_left
 ·intro w'
  go_simp
  with_reducible rfl
 rotate_left
 ·simp only [Act.put, List.setIfInBounds_toArray, List.set_cons_zero, List.set_cons_succ, i64_w, i32_w]
  rfl
 refine pure_ (i := 11) (N := some 19) (v := ?_) (a' := ?_) #[true, true, true, true, true, true, true, true, true, true, true, true, false] rfl rfl (by kernel_rfl) (fun _ _ _ h => h) (Or.inl ⟨by rfl, ?_⟩) ?_ ?_
 rotate_left
 ·intro w'
  go_simp
  with_reducible rfl
 rotate_left
 ·simp only [Act.put, List.setIfInBounds_toArray, List.set_cons_zero, List.set_cons_succ, i64_w, i32_w]
  rfl
 refine one_ (i := 12) (N := none) #[true, true, true, true, true, true, true, true, true, true, true, true, true] rfl rfl (by kernel_rfl) (by decide) (fun K hK => ?_)
 refine skip_ (w1 := ?_) (by rfl) rfl ?_ ?_
 rotate_left
 ·skip
  have hcW := blk_below (w := w1.drew) HCU.out HBW.out
  obtain ⟨⟨t0, t1, t2, t3, t4, t5, t6, t7⟩, ⟨ft0, ft1, ft2, ft3, ft4, ft5, ft6, ft7⟩⟩ := cells8 (hcW)
  go_simp
  rfl
 refine hK.out _ _ trivial (fun _ => ?_)
 clear hK K
 refine done_ (by kernel_rfl) ?_
 have h3 : Aside0 (MC w0 (W2.setCell ⟨c, 3, none⟩ (.int .i64 pc)) x c rv b (⟨A, X, S, pc, Z, N, C, I⟩ : Cp) ram) := ⟨(H1.out.drew.later HBW.out).setC 3 _ rfl⟩
 have k3 : Aside0 (Kept w (W2.setCell ⟨c, 3, none⟩ (.int .i64 pc)) (fun j => j = c ∨ some j = rv.ownBlock)) := ⟨kept_set (((Kept.of_below HB1.out _).drew).below HBW.out) (.inl rfl) _⟩
 have g3 : Aside0 ((W2.setCell ⟨c, 3, none⟩ (.int .i64 pc)).heap[g]? = some (.cells #[.int .i64 op, .int .i64 arg] 68 (0, 0))) := ⟨blk_far (blk_below (w := w1.drew) HG.out HBW.out) NG.out _⟩
 clear H1 HB1 HG HCU HBW
 generalize W2.setCell ⟨c, 3, none⟩ (.int .i64 pc) = w3 at h3 k3 g3 ⊢
 go_wp2
 have H4 := Aside0.mk h3.out.drew
 have K4 := Aside0.mk k3.out.drew
 have G4 : Aside0 (w3.drew.heap[g]? = some (.cells #[.int .i64 op, .int .i64 arg] 68 (0, 0))) := ⟨g3.out⟩
 clear h3 k3
 refine start_ (n := 12) (S := fun w' => w'.heap[g]? = some (.cells #[.int .i64 op, .int .i64 arg] 68 (0, 0))) (ds := []) #[false, false, false, false, false, false, false, false, false, false, false, false] (by kernel_rfl) rfl rfl G4.out (fun hHeld => ?_)
 clear g3
 generalize w3.drew = w4 at H4 K4 G4 hHeld ⊢
 refine pure_ (i := 0) (N := some 20) (v := ?_) (a' := ?_) #[true, false, false, false, false, false, false, false, false, false, false, false] rfl rfl (by kernel_rfl) (fun _ _ _ h => h) (Or.inl ⟨by rfl, ?_⟩) ?_ ?_
 rotate_left
 ·intro w'
  go_simp
  with_reducible rfl
 rotate_left
 ·simp only [Act.put, List.setIfInBounds_toArray, List.set_cons_zero, List.set_cons_succ, i64_w, i32_w]
  rfl
 refine pure_ (i := 2) (N := some 22) (v := ?_) (a' := ?_) #[true, false, true, false, false, false, false, false, false, false, false, false] rfl rfl (by kernel_rfl) (fun _ _ _ h => h) (Or.inl ⟨by rfl, ?_⟩) ?_ ?_
 rotate_left
 ·intro w'
  go_simp
  with_reducible rfl
 rotate_left
 ·simp only [Act.put, List.setIfInBounds_toArray, List.set_cons_zero, List.set_cons_succ, i64_w, i32_w]
  rfl
 refine take_ (i := 1) (N := some 21) (v := ?_) (a' := ?_) #[true, true, true, false, false, false, false, false, false, false, false, false] rfl rfl (by kernel_rfl) (fun _ _ _ h => h) (Or.inl ⟨by rfl, ?_⟩) hHeld ?_ ?_
 rotate_left
 ·intro w' s0
  have z0 : w'.cell? ⟨g, 0, none⟩ = some (.int .i64 op) := (blk_cell s0 0).trans rfl
  have z1 : w'.cell? ⟨g, 1, none⟩ = some (.int .i64 arg) := (blk_cell s0 1).trans rfl
  clear s0
  go_simp
  with_reducible rfl
 rotate_left
 ·simp only [Act.put, List.setIfInBounds_toArray, List.set_cons_zero, List.set_cons_succ, i64_w, i32_w]
  rfl
 refine one_ (i := 3) (N := some 23) #[true, true, true, true, false, false, false, false, false, false, false, false] rfl rfl (by kernel_rfl) (by decide) (fun K hK => ?_)
 refine goes_ Try.func77 (by kernel_rfl) rfl #[.int .i64 v] (by rfl) rfl rfl (by (try simp only [List.map_toArray, List.map_cons, List.map_nil]); first | done | rfl) ?_
 refine (HBY.out _).mono ?_
 rintro e w' ⟨rfl, rfl⟩
 refine ⟨_, rfl, ?_⟩
 refine hK.out _ _ hHeld (fun hHeld => ?_)
 clear hK K
 refine norm_ (a' := ?_) ?_ ?_
 rotate_left
 ·show Act.put _ (some 23) _ = _
  simp only [Act.put, List.setIfInBounds_toArray, List.set_cons_zero, List.set_cons_succ, i64_w, i32_w]
  rfl
 refine one_ (i := 4) (N := some 24) #[true, true, true, true, true, false, false, false, false, false, false, false] rfl rfl (by kernel_rfl) (by decide) (fun K hK => ?_)
 refine goes_ Try.func110 (by kernel_rfl) rfl #[.pointer (some ⟨c, 0, none⟩), .agg #[.int .i64 op, .int .i64 arg], .int .i64 vb] (by rfl) rfl rfl (by (try simp only [List.map_toArray, List.map_cons, List.map_nil]); first | done | rfl) ?_
 refine (reckon_calls H4.out.cpu op arg vb).mono ?_
 rintro e w5 ⟨rfl, hc5, hk5⟩
 generalize hr : reckonF (⟨A, X, S, pc, Z, N, C, I⟩ : Cp) op arg vb = q at *
 obtain ⟨k5, b5⟩ := q
 have HR := Aside0.mk hr
 have H5 := Aside0.mk (H4.out.cpuTo hc5 hk5)
 have K5 := Aside0.mk (K4.out.then_ hk5.kept (fun j hj => .inl (.inl hj)))
 have G5 := Aside0.mk (blk_kept G4.out hk5.kept NG.out)
 clear hr hc5 hk5 H4 K4 G4 hHeld
 refine ⟨_, rfl, ?_⟩
 refine hK.out _ _ G5.out (fun hHeld => ?_)
 clear hK K
 refine norm_ (a' := ?_) ?_ ?_
 rotate_left
 ·show Act.put _ (some 24) _ = _
  simp only [Act.put, List.setIfInBounds_toArray, List.set_cons_zero, List.set_cons_succ, i64_w, i32_w]
  rfl
 cases b5 with
 | true =>
  refine pure_ (i := 5) (N := some 25) (v := ?_) (a' := ?_) #[true, true, true, true, true, true, false, false, false, false, false, false] rfl rfl (by kernel_rfl) (fun _ _ _ h => h) (Or.inl ⟨by rfl, ?_⟩) ?_ ?_
  rotate_left
  ·intro w'
   go_simp
   with_reducible rfl
  rotate_left
  ·simp only [Act.put, List.setIfInBounds_toArray, List.set_cons_zero, List.set_cons_succ, i64_w, i32_w]
   rfl
  refine pure_ (i := 6) (N := some 26) (v := ?_) (a' := ?_) #[true, true, true, true, true, true, true, false, false, false, false, false] rfl rfl (by kernel_rfl) (fun _ _ _ h => h) (Or.inl ⟨by rfl, ?_⟩) ?_ ?_
  rotate_left
  ·intro w'
   go_simp
   with_reducible rfl
  rotate_left
  ·simp only [Act.put, List.setIfInBounds_toArray, List.set_cons_zero, List.set_cons_succ, i64_w, i32_w]
   rfl
  refine pure_ (i := 7) (N := some 27) (v := undef) (a' := ?_) #[true, true, true, true, true, true, true, true, false, false, false, false] rfl rfl (by kernel_rfl) (fun _ _ _ h => h) (Or.inr ⟨by rfl, rfl⟩) ?_ ?_
  rotate_left
  ·simp only [Act.put, List.setIfInBounds_toArray, List.set_cons_zero, List.set_cons_succ, i64_w, i32_w]
   rfl
  refine pure_ (i := 8) (N := some 28) (v := undef) (a' := ?_) #[true, true, true, true, true, true, true, true, true, false, false, false] rfl rfl (by kernel_rfl) (fun _ _ _ h => h) (Or.inr ⟨by rfl, rfl⟩) ?_ ?_
  rotate_left
  ·simp only [Act.put, List.setIfInBounds_toArray, List.set_cons_zero, List.set_cons_succ, i64_w, i32_w]
   rfl
  refine pure_ (i := 9) (N := some 29) (v := undef) (a' := ?_) #[true, true, true, true, true, true, true, true, true, true, false, false] rfl rfl (by kernel_rfl) (fun _ _ _ h => h) (Or.inr ⟨by rfl, rfl⟩) ?_ ?_
  rotate_left
  ·simp only [Act.put, List.setIfInBounds_toArray, List.set_cons_zero, List.set_cons_succ, i64_w, i32_w]
   rfl
  refine pure_ (i := 10) (N := some 30) (v := undef) (a' := ?_) #[true, true, true, true, true, true, true, true, true, true, true, false] rfl rfl (by kernel_rfl) (fun _ _ _ h => h) (Or.inr ⟨by rfl, rfl⟩) ?_ ?_
  rotate_left
  ·simp only [Act.put, List.setIfInBounds_toArray, List.set_cons_zero, List.set_cons_succ, i64_w, i32_w]
   rfl
  refine pure_ (i := 11) (N := some 31) (v := ?_) (a' := ?_) #[true, true, true, true, true, true, true, true, true, true, true, true] rfl rfl (by kernel_rfl) (fun _ _ _ h => h) (Or.inl ⟨by rfl, ?_⟩) ?_ ?_
  rotate_left
  ·intro w'
   go_simp
   with_reducible rfl
  rotate_left
  ·simp only [Act.put, List.setIfInBounds_toArray, List.set_cons_zero, List.set_cons_succ, i64_w, i32_w]
   rfl
  refine done_ (by kernel_rfl) ?_
  go_wp2
  go_end0
  have e_ : execF ram (⟨A, X, S, P, Z, N, C, I⟩ : Cp) op arg v ln = (ram, k5) := by
   unfold execF
   simp only [EP.out, HV.out, HR.out, if_true]
  rw [e_]
  exact ⟨rfl, H5.out, K5.out⟩
 | false =>
  refine pure_ (i := 5) (N := some 25) (v := ?_) (a' := ?_) #[true, true, true, true, true, true, false, false, false, false, false, false] rfl rfl (by kernel_rfl) (fun _ _ _ h => h) (Or.inl ⟨by rfl, ?_⟩) ?_ ?_
  rotate_left
  ·intro w'
   go_simp
   with_reducible rfl
  rotate_left
  ·simp only [Act.put, List.setIfInBounds_toArray, List.set_cons_zero, List.set_cons_succ, i64_w, i32_w]
   rfl
  refine pure_ (i := 6) (N := some 26) (v := ?_) (a' := ?_) #[true, true, true, true, true, true, true, false, false, false, false, false] rfl rfl (by kernel_rfl) (fun _ _ _ h => h) (Or.inl ⟨by rfl, ?_⟩) ?_ ?_
  rotate_left
  ·intro w'
   go_simp
   with_reducible rfl
  rotate_left
  ·simp only [Act.put, List.setIfInBounds_toArray, List.set_cons_zero, List.set_cons_succ, i64_w, i32_w]
   rfl
  refine pure_ (i := 7) (N := some 27) (v := ?_) (a' := ?_) #[true, true, true, true, true, true, true, true, false, false, false, false] rfl rfl (by kernel_rfl) (fun _ _ _ h => h) (Or.inl ⟨by rfl, ?_⟩) ?_ ?_
  rotate_left
  ·intro w'
   go_simp
   with_reducible rfl
  rotate_left
  ·simp only [Act.put, List.setIfInBounds_toArray, List.set_cons_zero, List.set_cons_succ, i64_w, i32_w]
   rfl
  refine take_ (i := 8) (N := some 28) (v := ?_) (a' := ?_) #[true, true, true, true, true, true, true, true, true, false, false, false] rfl rfl (by kernel_rfl) (fun _ _ _ h => h) (Or.inl ⟨by rfl, ?_⟩) hHeld ?_ ?_
  rotate_left
  ·intro w' s0
   have z0 : w'.cell? ⟨g, 0, none⟩ = some (.int .i64 op) := (blk_cell s0 0).trans rfl
   have z1 : w'.cell? ⟨g, 1, none⟩ = some (.int .i64 arg) := (blk_cell s0 1).trans rfl
   clear s0
   go_simp
   with_reducible rfl
  rotate_left
  ·simp only [Act.put, List.setIfInBounds_toArray, List.set_cons_zero, List.set_cons_succ, i64_w, i32_w]
   rfl
  refine one_ (i := 9) (N := some 29) #[true, true, true, true, true, true, true, true, true, true, false, false] rfl rfl (by kernel_rfl) (by decide) (fun K hK => ?_)
  refine goes_ Try.func111 (by kernel_rfl) rfl #[.pointer (some ⟨c, 0, none⟩), .agg #[.int .i64 op, .int .i64 arg]] (by rfl) rfl rfl (by (try simp only [List.map_toArray, List.map_cons, List.map_nil]); first | done | rfl) ?_
  refine (turn_calls H5.out.cpu op arg).mono ?_
  rintro e w6 ⟨rfl, hc6, hk6⟩
  generalize ht : turnF k5 op = q at *
  obtain ⟨k6, b6⟩ := q
  have HT := Aside0.mk ht
  have H6 := Aside0.mk (H5.out.cpuTo hc6 hk6)
  have K6 := Aside0.mk (K5.out.then_ hk6.kept (fun j hj => .inl (.inl hj)))
  have G6 := Aside0.mk (blk_kept G5.out hk6.kept NG.out)
  clear ht hc6 hk6 H5 K5 G5 hHeld
  refine ⟨_, rfl, ?_⟩
  refine hK.out _ _ G6.out (fun hHeld => ?_)
  clear hK K
  refine norm_ (a' := ?_) ?_ ?_
  rotate_left
  ·show Act.put _ (some 29) _ = _
   simp only [Act.put, List.setIfInBounds_toArray, List.set_cons_zero, List.set_cons_succ, i64_w, i32_w]
   rfl
  cases b6 with
  | true =>
   refine pure_ (i := 10) (N := some 30) (v := ?_) (a' := ?_) #[true, true, true, true, true, true, true, true, true, true, true, false] rfl rfl (by kernel_rfl) (fun _ _ _ h => h) (Or.inl ⟨by rfl, ?_⟩) ?_ ?_
   rotate_left
   ·intro w'
    go_simp
    with_reducible rfl
   rotate_left
   ·simp only [Act.put, List.setIfInBounds_toArray, List.set_cons_zero, List.set_cons_succ, i64_w, i32_w]
    rfl
   refine pure_ (i := 11) (N := some 31) (v := ?_) (a' := ?_) #[true, true, true, true, true, true, true, true, true, true, true, true] rfl rfl (by kernel_rfl) (fun _ _ _ h => h) (Or.inl ⟨by rfl, ?_⟩) ?_ ?_
   rotate_left
   ·intro w'
    go_simp
    with_reducible rfl
   rotate_left
   ·simp only [Act.put, List.setIfInBounds_toArray, List.set_cons_zero, List.set_cons_succ, i64_w, i32_w]
    rfl
   refine done_ (by kernel_rfl) ?_
   go_wp2
   go_end0
   have e_ : execF ram (⟨A, X, S, P, Z, N, C, I⟩ : Cp) op arg v ln = (ram, k6) := by
    unfold execF
    simp only [EP.out, HV.out, HR.out, HT.out, if_true, Bool.false_eq_true, if_false]
   rw [e_]
   exact ⟨rfl, H6.out, K6.out⟩
  | false =>
   refine pure_ (i := 10) (N := some 30) (v := ?_) (a' := ?_) #[true, true, true, true, true, true, true, true, true, true, true, false] rfl rfl (by kernel_rfl) (fun _ _ _ h => h) (Or.inl ⟨by rfl, ?_⟩) ?_ ?_
   rotate_left
   ·intro w'
    go_simp
    with_reducible rfl
   rotate_left
   ·simp only [Act.put, List.setIfInBounds_toArray, List.set_cons_zero, List.set_cons_succ, i64_w, i32_w]
    rfl
   refine pure_ (i := 11) (N := some 31) (v := ?_) (a' := ?_) #[true, true, true, true, true, true, true, true, true, true, true, true] rfl rfl (by kernel_rfl) (fun _ _ _ h => h) (Or.inl ⟨by rfl, ?_⟩) ?_ ?_
   rotate_left
   ·intro w'
    go_simp
    with_reducible rfl
   rotate_left
   ·simp only [Act.put, List.setIfInBounds_toArray, List.set_cons_zero, List.set_cons_succ, i64_w, i32_w]
    rfl
   refine done_ (by kernel_rfl) ?_
   have z0 : w6.cell? ⟨g, 0, none⟩ = some (.int .i64 op) := (blk_cell G6.out 0).trans rfl
   have z1 : w6.cell? ⟨g, 1, none⟩ = some (.int .i64 arg) := (blk_cell G6.out 1).trans rfl
   go_wp2_with fail
   refine (flow_calls H6.out op arg).mono ?_
   rintro e w7 ⟨rfl, h7, k7⟩
   have H7 := Aside0.mk h7
   clear h7
   go_wp2
   go_end0
   have e_ : execF ram (⟨A, X, S, P, Z, N, C, I⟩ : Cp) op arg v ln = flowF ram k6 op arg := by
    unfold execF
    simp only [EP.out, HV.out, HR.out, HT.out, Bool.false_eq_true, if_false]
   rw [e_]
   exact ⟨rfl, H7.out, K6.out.then_ k7 (fun j hj => .inl hj)⟩
set_option maxRecDepth 100000 in
set_option maxHeartbeats 4000000 in
theorem implExec_calls (A1 : Option Addr) (c1 : Nat) (l1 : List Int) (b : Int) (k : Cp) (op arg v : Int) (w : World) (hr1 : Kd.C (Kd.int .i64) w A1 l1.length l1) (hc1 : l1.length ≤ c1)
  (h : impl_copyMem.f l1 b = some (l1, b)) (n : Nat) (ln : Int) (hl : impl_OpLen.f n op = some ln) :
  Calls Try.prog 59 #[.agg #[.slice A1 l1.length c1, .int .i64 b], .agg k.cells, .agg #[.int .i64 op, .int .i64 arg], .int .i64 v] w fun e w' => ∃ v0_ : Value, e = .returned (.tuple #[.agg #[v0_, .int .i64 b], .agg (execF l1 k op arg v ln).2.cells]) ∧ Kd.R (Kd.int .i64) 3 w' w.heap.size (fun _ => True) v0_ (execF l1 k op arg v ln).1 ∧ Below w.heap.size w w' := by
 have hu37 := Try.underlying37
 have hu38 := Try.underlying38
 have hu68 := Try.underlying68
 have HR1 := Aside0.mk hr1
 have HC1 := Aside0.mk hc1
 have H := Aside0.mk h
 have HL := Aside0.mk hl
 clear hr1 hc1 h hl
 go_enter Try.func59, Try.ntmps59
 unfold Cp.cells
 go_wp2_with fail
 refine (impl_copyMem.calls A1 c1 l1 b l1 b _ ?hr HC1.out H.out).mono ?_
 case hr => repeat (first | exact HR1.out | (with_reducible refine Kd.C_alloc ?_ _))
 rintro e W2 ⟨v0, rfl, hR, hB⟩
 obtain ⟨A2, c2, rfl⟩ := Kd.R_slice hR
 have b1 : W2.heap[w.heap.size + 1]? = some (.cells k.cells 38 (0, 0)) := blk_below (by repeat (first | exact alloc_at _ _ _ (by simp only [alloc_size]) | refine blk_alloc ?_ _)) hB
 have b2 : W2.heap[w.heap.size + 2]? = some (.cells #[.int .i64 op, .int .i64 arg] 68 (0, 0)) := blk_below (by repeat (first | exact alloc_at _ _ _ (by simp only [alloc_size]) | refine blk_alloc ?_ _)) hB
 have b3 : W2.heap[w.heap.size + 3]? = some (.cells #[.slice none 0 0, .int .i64 0] 37 (0, 0)) := blk_below (by repeat (first | exact alloc_at _ _ _ (by simp only [alloc_size]) | refine blk_alloc ?_ _)) hB
 have b4 : W2.heap[w.heap.size + 4]? = some (.cells #[.int .i64 0, .int .i64 0, .int .i64 0, .int .i64 0, .bool false, .bool false, .bool false, .bool false] 38 (0, 0)) := blk_below (by repeat (first | exact alloc_at _ _ _ (by simp only [alloc_size]) | refine blk_alloc ?_ _)) hB
 have hsz : w.heap.size + 5 ≤ W2.heap.size := by have := hB.size; simp only [alloc_size] at this; omega
 have hbel : Below w.heap.size w W2 := below_step (by repeat (first | exact Below.refl _ _ | apply below_alloc)) hB
 have hM : MC w (W2.alloc (.cells #[.slice A2 l1.length c2, .int .i64 b] 37)) W2.heap.size (w.heap.size + 1) (.slice A2 l1.length c2) b k l1 :=
  ⟨blk_new W2 _, blk_alloc b1 _, Kd.R_alloc (Kd.R_lower hR (by simp only [alloc_size]; omega)) _, by omega, by omega, below_alloc hbel _⟩
 have HSZ := Aside0.mk hsz
 have HM := Aside0.mk hM
 have z0 : (W2.alloc (.cells #[.slice A2 l1.length c2, .int .i64 b] 37)).cell? ⟨w.heap.size + 2, 0, none⟩ = some (.int .i64 op) := (blk_cell (blk_alloc b2 _) 0).trans rfl
 have z1 : (W2.alloc (.cells #[.slice A2 l1.length c2, .int .i64 b] 37)).cell? ⟨w.heap.size + 2, 1, none⟩ = some (.int .i64 arg) := (blk_cell (blk_alloc b2 _) 1).trans rfl
 have B3 := Aside0.mk (blk_alloc b3 (.cells #[.slice A2 l1.length c2, .int .i64 b] 37))
 have B4 := Aside0.mk (blk_alloc b4 (.cells #[.slice A2 l1.length c2, .int .i64 b] 37))
 clear hR hB b1 b2 b3 b4 hsz hbel hM
 go_wp2_with fail
 generalize W2.alloc (.cells #[.slice A2 l1.length c2, .int .i64 b] 37) = W3 at *
 generalize W2.heap.size = x at *
 refine (exec_calls HM.out op arg v n ln HL.out).mono ?_
 rintro e W4 ⟨rfl, h4, k4⟩
 generalize hq : execF l1 k op arg v ln = q at *
 obtain ⟨ram2, ⟨qa, qx, qs, qp, qz, qn, qc, qi⟩⟩ := q
 have HQ := Aside0.mk hq
 clear hq z0 z1
 have HB1 := Aside0.mk (blk_kept B3.out k4 (fun h => h.elim (fun h => by omega) (fun h => Kd.R_ne HM.out.row B3.out (by decide) h)))
 have HB2 := Aside0.mk (blk_kept B4.out k4 (fun h => h.elim (fun h => by omega) (fun h => Kd.R_ne HM.out.row B4.out (by decide) h)))
 have h4 : MC w W4 x (w.heap.size + 1) (.slice A2 l1.length c2) b ⟨qa, qx, qs, qp, qz, qn, qc, qi⟩ ram2 := h4
 have hz_ := HSZ.out
 have HM4 := Aside0.mk h4.mem
 have HC4 : Aside0 (W4.heap[w.heap.size + 1]? = some (.cells #[.int .i64 qa, .int .i64 qx, .int .i64 qs, .int .i64 qp, .bool qz, .bool qn, .bool qc, .bool qi] 38 (0, 0))) := ⟨h4.cpu⟩
 clear k4 B3 B4 HM
 go_wp2
 have hne12 : w.heap.size + 3 ≠ w.heap.size + 4 := by omega
 have hne21 : w.heap.size + 4 ≠ w.heap.size + 3 := by omega
 have o1 : x ≠ w.heap.size + 3 := by omega
 have o2 : x ≠ w.heap.size + 4 := by omega
 have o3 : w.heap.size + 1 ≠ w.heap.size + 3 := by omega
 have o4 : w.heap.size + 1 ≠ w.heap.size + 4 := by omega
 refine start_ (n := 4) (S := fun w' => w'.heap[x]? = some (.cells #[.slice A2 l1.length c2, .int .i64 b] 37 (0, 0)) ∧ w'.heap[w.heap.size + 1]? = some (.cells #[.int .i64 qa, .int .i64 qx, .int .i64 qs, .int .i64 qp, .bool qz, .bool qn, .bool qc, .bool qi] 38 (0, 0))) (ds := []) #[false, false, false, false] (by kernel_rfl) rfl rfl ⟨HM4.out, HC4.out⟩ (fun hHeld => ?_)
 refine take_ (i := 0) (N := some 16) (v := ?_) (a' := ?_) #[true, false, false, false] rfl rfl (by kernel_rfl) (fun _ _ _ h => h) (Or.inl ⟨by rfl, ?_⟩) hHeld ?_ ?_
 rotate_left
 ·rintro w' ⟨s0, s1⟩
  have a0 : w'.cell? ⟨x, 0, none⟩ = some (.slice A2 l1.length c2) := (blk_cell s0 0).trans rfl
  have a1 : w'.cell? ⟨x, 1, none⟩ = some (.int .i64 b) := (blk_cell s0 1).trans rfl
  clear s0 s1
  go_simp
  with_reducible rfl
 rotate_left
 ·simp only [Act.put, List.setIfInBounds_toArray, List.set_cons_zero, List.set_cons_succ, i64_w, i32_w]
  rfl
 refine take_ (i := 1) (N := some 17) (v := ?_) (a' := ?_) #[true, true, false, false] rfl rfl (by kernel_rfl) (fun _ _ _ h => h) (Or.inl ⟨by rfl, ?_⟩) hHeld ?_ ?_
 rotate_left
 ·rintro w' ⟨s0, s1⟩
  have b0 : w'.cell? ⟨w.heap.size + 1, 0, none⟩ = some (.int .i64 qa) := (blk_cell s1 0).trans rfl
  have b1 : w'.cell? ⟨w.heap.size + 1, 1, none⟩ = some (.int .i64 qx) := (blk_cell s1 1).trans rfl
  have b2 : w'.cell? ⟨w.heap.size + 1, 2, none⟩ = some (.int .i64 qs) := (blk_cell s1 2).trans rfl
  have b3 : w'.cell? ⟨w.heap.size + 1, 3, none⟩ = some (.int .i64 qp) := (blk_cell s1 3).trans rfl
  have b4 : w'.cell? ⟨w.heap.size + 1, 4, none⟩ = some (.bool qz) := (blk_cell s1 4).trans rfl
  have b5 : w'.cell? ⟨w.heap.size + 1, 5, none⟩ = some (.bool qn) := (blk_cell s1 5).trans rfl
  have b6 : w'.cell? ⟨w.heap.size + 1, 6, none⟩ = some (.bool qc) := (blk_cell s1 6).trans rfl
  have b7 : w'.cell? ⟨w.heap.size + 1, 7, none⟩ = some (.bool qi) := (blk_cell s1 7).trans rfl
  clear s0 s1
  go_simp
  with_reducible rfl
 rotate_left
 ·simp only [Act.put, List.setIfInBounds_toArray, List.set_cons_zero, List.set_cons_succ, i64_w, i32_w]
  rfl
 refine one_ (i := 2) (N := none) #[true, true, true, false] rfl rfl (by kernel_rfl) (by decide) (fun K hK => ?_)
 refine skip_ (w1 := ?_) (by rfl) rfl ?_ ?_
 rotate_left
 ·have r0 : W4.cell? ⟨w.heap.size + 3, 0, none⟩ = some (.slice none 0 0) := (blk_cell HB1.out 0).trans rfl
  have r1 : W4.cell? ⟨w.heap.size + 3, 1, none⟩ = some (.int .i64 0) := (blk_cell HB1.out 1).trans rfl
  have f0 := blk_frozen HB1.out 0
  have f1 := blk_frozen HB1.out 1
  go_simp
  rfl
 refine hK.out _ _ ⟨(heap2 _ _ _ _ _ o1).trans hHeld.1, (heap2 _ _ _ _ _ o3).trans hHeld.2⟩ (fun hHeld => ?_)
 clear hK K
 have g0 := (heap_drew _ _).symm.trans hHeld.1
 have g1 := (heap_drew _ _).symm.trans hHeld.2
 have g2 : ((W4.setCell ⟨w.heap.size + 1 + 1 + 1, 0, none⟩ (.slice A2 l1.length c2)).setCell ⟨w.heap.size + 1 + 1 + 1, 1, none⟩ (.int .i64 b)).heap[w.heap.size + 4]? = _ := (heap2 W4 (w.heap.size + 3) (w.heap.size + 4) (.slice A2 l1.length c2) (.int .i64 b) hne21).trans HB2.out
 have g3 : ((W4.setCell ⟨w.heap.size + 1 + 1 + 1, 0, none⟩ (.slice A2 l1.length c2)).setCell ⟨w.heap.size + 1 + 1 + 1, 1, none⟩ (.int .i64 b)).heap[w.heap.size + 3]? = _ := put2 HB1.out (.slice A2 l1.length c2) (.int .i64 b)
 have g4 : Kd.R (Kd.int .i64) 3 ((W4.setCell ⟨w.heap.size + 1 + 1 + 1, 0, none⟩ (.slice A2 l1.length c2)).setCell ⟨w.heap.size + 1 + 1 + 1, 1, none⟩ (.int .i64 b)) w.heap.size (fun _ => True) (.slice A2 l1.length c2) ram2 :=
  Kd.R_mono (Kd.R_far (p := ⟨w.heap.size + 3, 1, none⟩) (Kd.R_far (p := ⟨w.heap.size + 3, 0, none⟩) (Kd.R_types h4.row HB1.out (by decide)) (fun _ hk => hk.2) (.slice A2 l1.length c2)) (fun _ hk => hk.2) (.int .i64 b)) (fun _ hk => trivial)
 have g5 : Below w.heap.size w ((W4.setCell ⟨w.heap.size + 1 + 1 + 1, 0, none⟩ (.slice A2 l1.length c2)).setCell ⟨w.heap.size + 1 + 1 + 1, 1, none⟩ (.int .i64 b)) := below_set (below_set h4.below (by omega)) (by omega)
 clear HB1 HB2 HM4 HC4 h4
 generalize ((W4.setCell ⟨w.heap.size + 1 + 1 + 1, 0, none⟩ (.slice A2 l1.length c2)).setCell ⟨w.heap.size + 1 + 1 + 1, 1, none⟩ (.int .i64 b)) = W5 at *
 have G2 := Aside0.mk g2
 have G3 := Aside0.mk g3
 have G4 := Aside0.mk g4
 have G5 := Aside0.mk g5
 have G0 := Aside0.mk g0
 have G1 := Aside0.mk g1
 clear g0 g1 g2 g3 g4 g5
 refine one_ (i := 3) (N := none) #[true, true, true, true] rfl rfl (by kernel_rfl) (by decide) (fun K hK => ?_)
 refine skip_ (w1 := ?_) (by rfl) rfl ?_ ?_
 rotate_left
 ·skip
  have r0 : W5.cell? ⟨w.heap.size + 4, 0, none⟩ = some (.int .i64 0) := (blk_cell G2.out 0).trans rfl
  have f0 := blk_frozen G2.out 0
  have r1 : W5.cell? ⟨w.heap.size + 4, 1, none⟩ = some (.int .i64 0) := (blk_cell G2.out 1).trans rfl
  have f1 := blk_frozen G2.out 1
  have r2 : W5.cell? ⟨w.heap.size + 4, 2, none⟩ = some (.int .i64 0) := (blk_cell G2.out 2).trans rfl
  have f2 := blk_frozen G2.out 2
  have r3 : W5.cell? ⟨w.heap.size + 4, 3, none⟩ = some (.int .i64 0) := (blk_cell G2.out 3).trans rfl
  have f3 := blk_frozen G2.out 3
  have r4 : W5.cell? ⟨w.heap.size + 4, 4, none⟩ = some (.bool false) := (blk_cell G2.out 4).trans rfl
  have f4 := blk_frozen G2.out 4
  have r5 : W5.cell? ⟨w.heap.size + 4, 5, none⟩ = some (.bool false) := (blk_cell G2.out 5).trans rfl
  have f5 := blk_frozen G2.out 5
  have r6 : W5.cell? ⟨w.heap.size + 4, 6, none⟩ = some (.bool false) := (blk_cell G2.out 6).trans rfl
  have f6 := blk_frozen G2.out 6
  have r7 : W5.cell? ⟨w.heap.size + 4, 7, none⟩ = some (.bool false) := (blk_cell G2.out 7).trans rfl
  have f7 := blk_frozen G2.out 7
  go_simp
  rfl
 refine hK.out _ _ ⟨(heap_drew _ _).trans ((heap8 W5 (w.heap.size + 4) _ _ _ _ _ _ _ _ _ o2).trans G0.out), (heap_drew _ _).trans ((heap8 W5 (w.heap.size + 4) _ _ _ _ _ _ _ _ _ o4).trans G1.out)⟩ (fun hHeld => ?_)
 clear hK K
 refine done_ (by kernel_rfl) ?_
 try go_wp2
 refine bodyPost_ret (results_cc rfl _ _ (w.heap.size + 3) (w.heap.size + 4) 37 38 #[.slice A2 l1.length c2, .int .i64 b] #[.int .i64 qa, .int .i64 qx, .int .i64 qs, .int .i64 qp, .bool qz, .bool qn, .bool qc, .bool qi] (0, 0) (0, 0) _ _ rfl ((heap_drew _ _).trans ((heap8 W5 (w.heap.size + 4) _ _ _ _ _ _ _ _ _ hne12).trans G3.out)) hu37 rfl (by kernel_rfl) rfl ((heap_drew _ _).trans (put8 G2.out _ _ _ _ _ _ _ _)) hu38 rfl (by kernel_rfl)) rfl ?_
 rw [HQ.out]
 exact ⟨_, rfl, Kd.R_drew (row8 G4.out G2.out _ _ _ _ _ _ _ _), below_drew1 (below8 G5.out (by omega) _ _ _ _ _ _ _ _)⟩
theorem copyMem_eq {l0 r1 : List Int} {b r2 : Int} (h : impl_copyMem.f l0 b = some (r1, r2)) : r1 = l0 ∧ r2 = b := by
 unfold impl_copyMem.f impl_copyInts.f at h
 simp only [Option.bind_some] at h
 split at h
 ·simp only [Option.bind_some, Option.some.injEq, Prod.mk.injEq, List.nil_append] at h
  exact ⟨h.1.symm, h.2.symm⟩
 ·simp at h
def impl_Exec.f (k : Nat) (l0_0 : List Int) (a0_1 : Int) (a1_0 a1_1 a1_2 a1_3 : Int) (a1_4 a1_5 a1_6 a1_7 : Bool) (a2_0 a2_1 : Int) (a3 : Int) : Option (List Int × Int × Int × Int × Int × Int × Bool × Bool × Bool × Bool) :=
 (impl_copyMem.f l0_0 a0_1).bind fun q => (impl_OpLen.f k a2_0).bind fun ln => some ((execF q.1 ⟨a1_0, a1_1, a1_2, a1_3, a1_4, a1_5, a1_6, a1_7⟩ a2_0 a2_1 a3 ln).1, q.2, (execF q.1 ⟨a1_0, a1_1, a1_2, a1_3, a1_4, a1_5, a1_6, a1_7⟩ a2_0 a2_1 a3 ln).2.A, (execF q.1 ⟨a1_0, a1_1, a1_2, a1_3, a1_4, a1_5, a1_6, a1_7⟩ a2_0 a2_1 a3 ln).2.X, (execF q.1 ⟨a1_0, a1_1, a1_2, a1_3, a1_4, a1_5, a1_6, a1_7⟩ a2_0 a2_1 a3 ln).2.S, (execF q.1 ⟨a1_0, a1_1, a1_2, a1_3, a1_4, a1_5, a1_6, a1_7⟩ a2_0 a2_1 a3 ln).2.P, (execF q.1 ⟨a1_0, a1_1, a1_2, a1_3, a1_4, a1_5, a1_6, a1_7⟩ a2_0 a2_1 a3 ln).2.Z, (execF q.1 ⟨a1_0, a1_1, a1_2, a1_3, a1_4, a1_5, a1_6, a1_7⟩ a2_0 a2_1 a3 ln).2.N, (execF q.1 ⟨a1_0, a1_1, a1_2, a1_3, a1_4, a1_5, a1_6, a1_7⟩ a2_0 a2_1 a3 ln).2.C, (execF q.1 ⟨a1_0, a1_1, a1_2, a1_3, a1_4, a1_5, a1_6, a1_7⟩ a2_0 a2_1 a3 ln).2.I)
theorem impl_Exec.calls (k : Nat) (A0_0 : Option Addr) (c0_0 : Nat) (l0_0 : List Int) (a0_1 : Int) (a1_0 a1_1 a1_2 a1_3 : Int) (a1_4 a1_5 a1_6 a1_7 : Bool) (a2_0 a2_1 : Int) (a3 : Int) (r1 : List Int) (r2 : Int) (r3 : Int) (r4 : Int) (r5 : Int) (r6 : Int) (r7 : Bool) (r8 : Bool) (r9 : Bool) (r10 : Bool) (w : World) (hr0_0 : Kd.C (Kd.int .i64) w A0_0 l0_0.length l0_0) (hc0_0 : l0_0.length ≤ c0_0) (h : impl_Exec.f k l0_0 a0_1 a1_0 a1_1 a1_2 a1_3 a1_4 a1_5 a1_6 a1_7 a2_0 a2_1 a3 = some (r1, r2, r3, r4, r5, r6, r7, r8, r9, r10)) :
  Calls Try.prog 59 #[.agg #[.slice A0_0 l0_0.length c0_0, .int .i64 a0_1], .agg #[.int .i64 a1_0, .int .i64 a1_1, .int .i64 a1_2, .int .i64 a1_3, .bool a1_4, .bool a1_5, .bool a1_6, .bool a1_7], .agg #[.int .i64 a2_0, .int .i64 a2_1], .int .i64 a3] w fun e w' => ∃ v0_ : Value, e = .returned (.tuple #[.agg #[v0_, .int .i64 r2], .agg #[.int .i64 r3, .int .i64 r4, .int .i64 r5, .int .i64 r6, .bool r7, .bool r8, .bool r9, .bool r10]]) ∧ Kd.R (Kd.int .i64) 3 w' w.heap.size (fun _ => True) v0_ r1 ∧ Below w.heap.size w w' := by
 unfold impl_Exec.f at h
 obtain ⟨⟨q1, q2⟩, hq, h2⟩ := Option.bind_eq_some_iff.mp h
 obtain ⟨ln, hl, h3⟩ := Option.bind_eq_some_iff.mp h2
 clear h h2
 obtain ⟨rfl, rfl⟩ := copyMem_eq hq
 cases h3
 exact implExec_calls A0_0 c0_0 _ _ ⟨a1_0, a1_1, a1_2, a1_3, a1_4, a1_5, a1_6, a1_7⟩ a2_0 a2_1 a3 w hr0_0 hc0_0 hq k ln hl

end Go.Proofs.Ytmiaocoffmobcaa.MFnExactExec
