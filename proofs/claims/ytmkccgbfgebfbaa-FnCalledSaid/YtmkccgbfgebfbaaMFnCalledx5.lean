/- Walks of functions that the law FnCalled reaches: each comes to just what its Lean function says. (Begun as the texts that print.sh wrote for this claim; some of them, and those that it does not write, are mine.) No condition. -/
import Derived.Test.YtmkccgbfgebfbaaMFnCalledx4
namespace Go.Proofs.Ytmkccgbfgebfbaa.MFnCalled
open Go.RowKit Go.Proofs.YtmkccgbfgebfbaaW.PrintWords Go.Proofs.YtmkccgbfgebfbaaW.PrintLast Go.Proofs.YtmkccgbfgebfbaaW.PrintMore
attribute [local go_sem] max2_int min2_int max_two min_two max_three min_three max_four min_four   -- for this text's walks alone
set_option maxHeartbeats 8000000
set_option maxRecDepth 100000
set_option linter.unusedVariables false
set_option linter.unusedSimpArgs false

/-! ### spec_l7Alu (mine) -/
theorem sbyte_ex (a : Int) : ∃ q, spec_Byte.f a = some q ∧ a % 256 = q := by
 refine ⟨_, ?_, rfl⟩
 unfold spec_Byte.f
 rw [and255]
theorem seta_sx (k : Cp) (v : Int) : ∃ s1 sz sn, spec_SetA.f k.A k.X k.S k.P k.Z k.N k.C k.I v = some (s1, k.X, k.S, k.P, sz, sn, k.C, k.I) ∧ setAK k v = ⟨s1, k.X, k.S, k.P, sz, sn, k.C, k.I⟩ := by
 refine ⟨_, _, _, ?_, rfl⟩
 unfold spec_SetA.f spec_Signs.f spec_Byte.f
 simp only [Option.bind_some, and255]
theorem setx_sx (k : Cp) (v : Int) : ∃ s1 sz sn, spec_SetX.f k.A k.X k.S k.P k.Z k.N k.C k.I v = some (k.A, s1, k.S, k.P, sz, sn, k.C, k.I) ∧ setXK k v = ⟨k.A, s1, k.S, k.P, sz, sn, k.C, k.I⟩ := by
 refine ⟨_, _, _, ?_, rfl⟩
 unfold spec_SetX.f spec_Signs.f spec_Byte.f
 simp only [Option.bind_some, and255]
theorem sadd8_is (a b : Int) (c : Bool) : spec_Add8.f a b c = impl_Add8.f a b c := by
 unfold spec_Add8.f impl_Add8.f spec_Byte.f impl_Byte.f spec_l1Bit.f impl_flag.f
 rfl
theorem saddK_ex (k : Cp) (v : Int) : ∃ sm cy s1 sz sn, spec_Add8.f k.A v k.C = some (sm, cy) ∧ spec_SetA.f k.A k.X k.S k.P k.Z k.N k.C k.I sm = some (s1, k.X, k.S, k.P, sz, sn, k.C, k.I) ∧ addK k v = ⟨s1, k.X, k.S, k.P, sz, sn, cy, k.I⟩ := by
 obtain ⟨sm, cy, h⟩ := add8_ex k.A v k.C
 obtain ⟨s1, sz, sn, hf, ek⟩ := seta_sx k sm
 refine ⟨sm, cy, s1, sz, sn, (sadd8_is _ _ _).trans h, hf, ?_⟩
 unfold addK
 rw [h, Option.getD_some, ek]
def subS (k : Cp) (v : Int) : Cp := { setAK k ((spec_Sub8.f k.A v k.C).getD (0, false)).1 with C := ((spec_Sub8.f k.A v k.C).getD (0, false)).2 }
theorem ssubK_ex (k : Cp) (v : Int) : ∃ sm cy s1 sz sn, spec_Sub8.f k.A v k.C = some (sm, cy) ∧ spec_SetA.f k.A k.X k.S k.P k.Z k.N k.C k.I sm = some (s1, k.X, k.S, k.P, sz, sn, k.C, k.I) ∧ subS k v = ⟨s1, k.X, k.S, k.P, sz, sn, cy, k.I⟩ := by
 obtain ⟨sm, cy, h⟩ : ∃ s q, spec_Sub8.f k.A v k.C = some (s, q) := by
  unfold spec_Sub8.f spec_Byte.f spec_l1Bit.f
  cases k.C <;> exact ⟨_, _, rfl⟩
 obtain ⟨s1, sz, sn, hf, ek⟩ := seta_sx k sm
 refine ⟨sm, cy, s1, sz, sn, h, hf, ?_⟩
 unfold subS
 rw [h, Option.getD_some, ek]
theorem ssigns_ex (a : Int) : ∃ z n, spec_Signs.f a = some (z, n) ∧ (a % 256 == 0) = z ∧ decide (a % 256 > 127) = n := by
 refine ⟨_, _, ?_, rfl, rfl⟩
 unfold spec_Signs.f spec_Byte.f
 simp only [Option.bind_some, and255]
def andS (k : Cp) (v : Int) : Cp := setAK k (Go.bits .and .i64 (k.A % 256) (v % 256))
def orS (k : Cp) (v : Int) : Cp := setAK k (Go.bits .or .i64 (k.A % 256) (v % 256))
def xorS (k : Cp) (v : Int) : Cp := setAK k (Go.bits .xor .i64 (k.A % 256) (v % 256))
def incS (k : Cp) : Cp := setXK k (wrap64 (k.X % 256 + 1))
def decS (k : Cp) : Cp := setXK k (wrap64 (k.X % 256 - 1))
def cmpS (k : Cp) (v : Int) : Cp := { k with Z := wrap64 (k.A % 256 - v % 256) % 256 == 0, N := decide (wrap64 (k.A % 256 - v % 256) % 256 > 127), C := decide (k.A % 256 ≥ v % 256) }
theorem far9 {w : World} {r g : Nat} {o : Obj} (h : w.heap[g]? = some o) (hn : g ≠ r) (u0 u1 u2 u3 u4 u5 u6 u7 u8 : Value) :
  ((((((((((w.setCell ⟨r, 0, none⟩ u0).setCell ⟨r, 1, none⟩ u1).setCell ⟨r, 2, none⟩ u2).setCell ⟨r, 3, none⟩ u3).setCell ⟨r, 4, none⟩ u4).setCell ⟨r, 5, none⟩ u5).setCell ⟨r, 6, none⟩ u6).setCell ⟨r, 7, none⟩ u7).setCell ⟨r, 6, none⟩ u8).heap)[g]? = some o :=
 ((Below.heap_setCell _ _ _ g hn).trans (heap8 _ _ g _ _ _ _ _ _ _ _ hn)).trans h
theorem sadd_calls (A X S P : Int) (Z N C I : Bool) (v : Int) (s1 : Int) (sz sn cy : Bool) (sm : Int) (ha : spec_Add8.f A v C = some (sm, cy)) (hf : spec_SetA.f A X S P Z N C I sm = some (s1, X, S, P, sz, sn, C, I)) (w : World) :
  Calls Try.prog 112 #[.agg #[.int .i64 A, .int .i64 X, .int .i64 S, .int .i64 P, .bool Z, .bool N, .bool C, .bool I], .int .i64 v] w fun e w' => e = .returned (.agg #[.int .i64 s1, .int .i64 X, .int .i64 S, .int .i64 P, .bool sz, .bool sn, .bool cy, .bool I]) ∧ Below w.heap.size w w' := by
 have hu38 := Try.underlying55
 have HA := am ha
 have HF := am hf
 clear ha hf
 go_enter Try.func112, Try.ntmps112
 go_upto_region 4 with (first | ((with_reducible refine gd 2 ?_); refine bx (N := 2) (cs := #[.int .i64 A, .int .i64 X, .int .i64 S, .int .i64 P, .bool Z, .bool N, .bool C, .bool I]) (t := 55) ?_; intro g3 hg w1 hbox hb; have A3 := am hbox; have HB := am (below_step (Below.refl w.heap.size w) hb); have G3 : Aside0 (w.heap.size ≤ g3) := ⟨by rw [hg]; exact Nat.le_refl _⟩; clear hbox hb hg) | ((with_reducible refine gd 4 ?_); refine bz (N := 4) ?_; intro g6 hg w3 hbox hb; have n3 : g3 ≠ g6 := (by rw [hg]; exact Nat.ne_of_lt (blk_lt A3.out)); have n6 : g6 ≠ g3 := Ne.symm n3; have NE := am n6; have HC := am (blk_below A3.out hb); have HR := am hbox; have G6 : Aside0 (w.heap.size ≤ g6) := ⟨by rw [hg]; exact below_size HB.out⟩; have HB2 := am (below_step HB.out hb); clear hbox hb hg A3 HB; have HB := HB2; clear HB2; obtain ⟨⟨y0, y1, y2, y3, y4, y5, y6, y7⟩, ⟨fy0, fy1, fy2, fy3, fy4, fy5, fy6, fy7⟩⟩ := cells8 (HC.out); obtain ⟨⟨r0, r1, r2, r3, r4, r5, r6, r7⟩, ⟨fr0, fr1, fr2, fr3, fr4, fr5, fr6, fr7⟩⟩ := cells8 (HR.out)) | (go_at_call 128; refine (spec_Add8.calls A v C sm cy _ HA.out).mono ?_; rintro e w4 ⟨rfl, nd, rfl⟩) | (go_at_call 94; refine (spec_SetA.calls A X S P Z N C I _ s1 X S P sz sn C I _ HF.out).mono ?_; rintro e w5 ⟨rfl, hb⟩; have HC2 := am (blk_below (w := w3.drewN nd) HC.out hb); have HR2 := am (blk_below (w := w3.drewN nd) HR.out hb); have HB2 := am (below_step (pw_below_drewN HB.out nd) hb); clear hb; obtain ⟨⟨u0, u1, u2, u3, u4, u5, u6, u7⟩, ⟨fu0, fu1, fu2, fu3, fu4, fu5, fu6, fu7⟩⟩ := cells8 (HC2.out); obtain ⟨⟨sc0, sc1, sc2, sc3, sc4, sc5, sc6, sc7⟩, ⟨fsc0, fsc1, fsc2, fsc3, fsc4, fsc5, fsc6, fsc7⟩⟩ := cells8 (HR2.out)))
 have HC3 : Aside0 ((((((((((w5.setCell ⟨g3, 0, none⟩ (.int .i64 s1)).setCell ⟨g3, 1, none⟩ (.int .i64 X)).setCell ⟨g3, 2, none⟩ (.int .i64 S)).setCell ⟨g3, 3, none⟩ (.int .i64 P)).setCell ⟨g3, 4, none⟩ (.bool sz)).setCell ⟨g3, 5, none⟩ (.bool sn)).setCell ⟨g3, 6, none⟩ (.bool C)).setCell ⟨g3, 7, none⟩ (.bool I)).setCell ⟨g3, 6, none⟩ (.bool cy)).heap[g3]? = some (.cells #[.int .i64 s1, .int .i64 X, .int .i64 S, .int .i64 P, .bool sz, .bool sn, .bool cy, .bool I] 55 (0, 0))) := ⟨blk_put (put8 HC2.out _ _ _ _ _ _ _ _) 6 _ rfl⟩
 have HR3 : Aside0 ((((((((((w5.setCell ⟨g3, 0, none⟩ (.int .i64 s1)).setCell ⟨g3, 1, none⟩ (.int .i64 X)).setCell ⟨g3, 2, none⟩ (.int .i64 S)).setCell ⟨g3, 3, none⟩ (.int .i64 P)).setCell ⟨g3, 4, none⟩ (.bool sz)).setCell ⟨g3, 5, none⟩ (.bool sn)).setCell ⟨g3, 6, none⟩ (.bool C)).setCell ⟨g3, 7, none⟩ (.bool I)).setCell ⟨g3, 6, none⟩ (.bool cy)).heap[g6]? = some (.cells #[.int .i64 0, .int .i64 0, .int .i64 0, .int .i64 0, .bool false, .bool false, .bool false, .bool false] 55 (0, 0))) := ⟨far9 HR2.out NE.out _ _ _ _ _ _ _ _ _⟩
 have HB3 : Aside0 (Below w.heap.size w (((((((((w5.setCell ⟨g3, 0, none⟩ (.int .i64 s1)).setCell ⟨g3, 1, none⟩ (.int .i64 X)).setCell ⟨g3, 2, none⟩ (.int .i64 S)).setCell ⟨g3, 3, none⟩ (.int .i64 P)).setCell ⟨g3, 4, none⟩ (.bool sz)).setCell ⟨g3, 5, none⟩ (.bool sn)).setCell ⟨g3, 6, none⟩ (.bool C)).setCell ⟨g3, 7, none⟩ (.bool I)).setCell ⟨g3, 6, none⟩ (.bool cy))) := ⟨below_set (below8 HB2.out G3.out _ _ _ _ _ _ _ _) G3.out⟩
 generalize (((((((((w5.setCell ⟨g3, 0, none⟩ (.int .i64 s1)).setCell ⟨g3, 1, none⟩ (.int .i64 X)).setCell ⟨g3, 2, none⟩ (.int .i64 S)).setCell ⟨g3, 3, none⟩ (.int .i64 P)).setCell ⟨g3, 4, none⟩ (.bool sz)).setCell ⟨g3, 5, none⟩ (.bool sn)).setCell ⟨g3, 6, none⟩ (.bool C)).setCell ⟨g3, 7, none⟩ (.bool I)).setCell ⟨g3, 6, none⟩ (.bool cy)) = w6 at HC3 HR3 HB3 ⊢
 obtain ⟨⟨wc0, wc1, wc2, wc3, wc4, wc5, wc6, wc7⟩, ⟨fwc0, fwc1, fwc2, fwc3, fwc4, fwc5, fwc6, fwc7⟩⟩ := cells8 (HC3.out)
 obtain ⟨⟨wr0, wr1, wr2, wr3, wr4, wr5, wr6, wr7⟩, ⟨fwr0, fwr1, fwr2, fwr3, fwr4, fwr5, fwr6, fwr7⟩⟩ := cells8 (HR3.out)
 go_wp2
 refine bodyPost_ret (results_cell_row rfl _ _ g6 55 #[.int .i64 s1, .int .i64 X, .int .i64 S, .int .i64 P, .bool sz, .bool sn, .bool cy, .bool I] (0, 0) _ rfl (put8 HR3.out _ _ _ _ _ _ _ _) hu38 rfl (by kernel_rfl)) rfl ?_
 exact ⟨rfl, below8 HB3.out G6.out _ _ _ _ _ _ _ _⟩
theorem sadd_ex (k : Cp) (v : Int) : ∃ s1 sz sn cy, (∀ w : World, Calls Try.prog 112 #[.agg k.cells, .int .i64 v] w fun e w' => e = .returned (.agg #[.int .i64 s1, .int .i64 k.X, .int .i64 k.S, .int .i64 k.P, .bool sz, .bool sn, .bool cy, .bool k.I]) ∧ Below w.heap.size w w') ∧ addK k v = ⟨s1, k.X, k.S, k.P, sz, sn, cy, k.I⟩ := by
 obtain ⟨sm, cy, s1, sz, sn, ha, hf, e⟩ := saddK_ex k v
 exact ⟨s1, sz, sn, cy, fun w => sadd_calls _ _ _ _ _ _ _ _ _ _ _ _ _ _ ha hf w, e⟩
theorem alu_1 (A X S P : Int) (Z N C I : Bool) (arg v : Int) (w : World) :
  Calls Try.prog 90 #[.agg #[.int .i64 A, .int .i64 X, .int .i64 S, .int .i64 P, .bool Z, .bool N, .bool C, .bool I], .agg #[.int .i64 1, .int .i64 arg], .int .i64 v] w fun e w' => e = .returned (.tuple #[.agg (setAK (⟨A, X, S, P, Z, N, C, I⟩ : Cp) arg).cells, .bool true]) ∧ Below w.heap.size w w' := by
 obtain ⟨s1, sz, sn, hf, ek⟩ := seta_sx (⟨A, X, S, P, Z, N, C, I⟩ : Cp) arg
 rw [ek]
 clear ek
 have HF := am hf
 clear hf
 have hu38 := Try.underlying55
 have hu68 := Try.underlying51
 go_enter Try.func90, Try.ntmps90
 go_wp2_with (first | ((with_reducible refine gd 3 ?_); refine bx (N := 3) (cs := #[.int .i64 A, .int .i64 X, .int .i64 S, .int .i64 P, .bool Z, .bool N, .bool C, .bool I]) (t := 55) ?_; intro g3 hg w1 hbox hb; have A3 := am hbox; have HB := am (below_step (Below.refl w.heap.size w) hb); have G3 : Aside0 (w.heap.size ≤ g3) := ⟨by rw [hg]; exact Nat.le_refl _⟩; clear hbox hb hg) | ((with_reducible refine gd 4 ?_); refine bx (N := 4) (cs := #[.int .i64 1, .int .i64 arg]) (t := 51) ?_; intro g4 hg w2 hbox hb; have B3 := am (blk_below A3.out hb); have B4 := am hbox; have HB2 := am (below_step HB.out hb); clear hbox hb hg A3 HB; have HB := HB2; clear HB2) | ((with_reducible refine gd 6 ?_); refine bz (N := 6) ?_; intro g6 hg w3 hbox hb; have n3 : g3 ≠ g6 := (by rw [hg]; exact Nat.ne_of_lt (blk_lt B3.out)); have n6 : g6 ≠ g3 := Ne.symm n3; have NE := am n6; have HC := am (blk_below B3.out hb); have HG := am (blk_below B4.out hb); have HR := am hbox; have G6 : Aside0 (w.heap.size ≤ g6) := ⟨by rw [hg]; exact below_size HB.out⟩; have HB2 := am (below_step HB.out hb); clear hbox hb hg B3 B4 HB; have HB := HB2; clear HB2; obtain ⟨⟨y0, y1, y2, y3, y4, y5, y6, y7⟩, ⟨fy0, fy1, fy2, fy3, fy4, fy5, fy6, fy7⟩⟩ := cells8 (HC.out); have z0 : w3.cell? ⟨g4, 0, none⟩ = some (.int .i64 1) := (blk_cell HG.out 0).trans rfl; have z1 : w3.cell? ⟨g4, 1, none⟩ = some (.int .i64 arg) := (blk_cell HG.out 1).trans rfl; obtain ⟨⟨r0, r1, r2, r3, r4, r5, r6, r7⟩, ⟨fr0, fr1, fr2, fr3, fr4, fr5, fr6, fr7⟩⟩ := cells8 (HR.out)) | (go_at_call 94; refine (spec_SetA.calls A X S P Z N C I _ s1 X S P sz sn C I _ HF.out).mono ?_; rintro e w4 ⟨rfl, hb⟩; have HR2 := am (blk_below HR.out hb); have HB2 := am (below_step HB.out hb); clear hb; obtain ⟨⟨sc0, sc1, sc2, sc3, sc4, sc5, sc6, sc7⟩, ⟨fsc0, fsc1, fsc2, fsc3, fsc4, fsc5, fsc6, fsc7⟩⟩ := cells8 (HR2.out)))
 refine bodyPost_ret (results_ct rfl _ _ g6 55 #[.int .i64 s1, .int .i64 X, .int .i64 S, .int .i64 P, .bool sz, .bool sn, .bool C, .bool I] (0, 0) _ rfl (put8 HR2.out _ _ _ _ _ _ _ _) hu38 rfl (by kernel_rfl)) rfl ?_
 exact ⟨rfl, below8 HB2.out G6.out _ _ _ _ _ _ _ _⟩
theorem alu_2 (A X S P : Int) (Z N C I : Bool) (arg v : Int) (w : World) :
  Calls Try.prog 90 #[.agg #[.int .i64 A, .int .i64 X, .int .i64 S, .int .i64 P, .bool Z, .bool N, .bool C, .bool I], .agg #[.int .i64 2, .int .i64 arg], .int .i64 v] w fun e w' => e = .returned (.tuple #[.agg (setAK (⟨A, X, S, P, Z, N, C, I⟩ : Cp) v).cells, .bool true]) ∧ Below w.heap.size w w' := by
 obtain ⟨s1, sz, sn, hf, ek⟩ := seta_sx (⟨A, X, S, P, Z, N, C, I⟩ : Cp) v
 rw [ek]
 clear ek
 have HF := am hf
 clear hf
 have hu38 := Try.underlying55
 have hu68 := Try.underlying51
 go_enter Try.func90, Try.ntmps90
 go_wp2_with (first | ((with_reducible refine gd 3 ?_); refine bx (N := 3) (cs := #[.int .i64 A, .int .i64 X, .int .i64 S, .int .i64 P, .bool Z, .bool N, .bool C, .bool I]) (t := 55) ?_; intro g3 hg w1 hbox hb; have A3 := am hbox; have HB := am (below_step (Below.refl w.heap.size w) hb); have G3 : Aside0 (w.heap.size ≤ g3) := ⟨by rw [hg]; exact Nat.le_refl _⟩; clear hbox hb hg) | ((with_reducible refine gd 4 ?_); refine bx (N := 4) (cs := #[.int .i64 2, .int .i64 arg]) (t := 51) ?_; intro g4 hg w2 hbox hb; have B3 := am (blk_below A3.out hb); have B4 := am hbox; have HB2 := am (below_step HB.out hb); clear hbox hb hg A3 HB; have HB := HB2; clear HB2) | ((with_reducible refine gd 6 ?_); refine bz (N := 6) ?_; intro g6 hg w3 hbox hb; have n3 : g3 ≠ g6 := (by rw [hg]; exact Nat.ne_of_lt (blk_lt B3.out)); have n6 : g6 ≠ g3 := Ne.symm n3; have NE := am n6; have HC := am (blk_below B3.out hb); have HG := am (blk_below B4.out hb); have HR := am hbox; have G6 : Aside0 (w.heap.size ≤ g6) := ⟨by rw [hg]; exact below_size HB.out⟩; have HB2 := am (below_step HB.out hb); clear hbox hb hg B3 B4 HB; have HB := HB2; clear HB2; obtain ⟨⟨y0, y1, y2, y3, y4, y5, y6, y7⟩, ⟨fy0, fy1, fy2, fy3, fy4, fy5, fy6, fy7⟩⟩ := cells8 (HC.out); have z0 : w3.cell? ⟨g4, 0, none⟩ = some (.int .i64 2) := (blk_cell HG.out 0).trans rfl; have z1 : w3.cell? ⟨g4, 1, none⟩ = some (.int .i64 arg) := (blk_cell HG.out 1).trans rfl; obtain ⟨⟨r0, r1, r2, r3, r4, r5, r6, r7⟩, ⟨fr0, fr1, fr2, fr3, fr4, fr5, fr6, fr7⟩⟩ := cells8 (HR.out)) | (go_at_call 94; refine (spec_SetA.calls A X S P Z N C I _ s1 X S P sz sn C I _ HF.out).mono ?_; rintro e w4 ⟨rfl, hb⟩; have HR2 := am (blk_below HR.out hb); have HB2 := am (below_step HB.out hb); clear hb; obtain ⟨⟨sc0, sc1, sc2, sc3, sc4, sc5, sc6, sc7⟩, ⟨fsc0, fsc1, fsc2, fsc3, fsc4, fsc5, fsc6, fsc7⟩⟩ := cells8 (HR2.out)))
 refine bodyPost_ret (results_ct rfl _ _ g6 55 #[.int .i64 s1, .int .i64 X, .int .i64 S, .int .i64 P, .bool sz, .bool sn, .bool C, .bool I] (0, 0) _ rfl (put8 HR2.out _ _ _ _ _ _ _ _) hu38 rfl (by kernel_rfl)) rfl ?_
 exact ⟨rfl, below8 HB2.out G6.out _ _ _ _ _ _ _ _⟩
theorem alu_14 (A X S P : Int) (Z N C I : Bool) (arg v : Int) (w : World) :
  Calls Try.prog 90 #[.agg #[.int .i64 A, .int .i64 X, .int .i64 S, .int .i64 P, .bool Z, .bool N, .bool C, .bool I], .agg #[.int .i64 14, .int .i64 arg], .int .i64 v] w fun e w' => e = .returned (.tuple #[.agg (setAK (⟨A, X, S, P, Z, N, C, I⟩ : Cp) v).cells, .bool true]) ∧ Below w.heap.size w w' := by
 obtain ⟨s1, sz, sn, hf, ek⟩ := seta_sx (⟨A, X, S, P, Z, N, C, I⟩ : Cp) v
 rw [ek]
 clear ek
 have HF := am hf
 clear hf
 have hu38 := Try.underlying55
 have hu68 := Try.underlying51
 go_enter Try.func90, Try.ntmps90
 go_wp2_with (first | ((with_reducible refine gd 3 ?_); refine bx (N := 3) (cs := #[.int .i64 A, .int .i64 X, .int .i64 S, .int .i64 P, .bool Z, .bool N, .bool C, .bool I]) (t := 55) ?_; intro g3 hg w1 hbox hb; have A3 := am hbox; have HB := am (below_step (Below.refl w.heap.size w) hb); have G3 : Aside0 (w.heap.size ≤ g3) := ⟨by rw [hg]; exact Nat.le_refl _⟩; clear hbox hb hg) | ((with_reducible refine gd 4 ?_); refine bx (N := 4) (cs := #[.int .i64 14, .int .i64 arg]) (t := 51) ?_; intro g4 hg w2 hbox hb; have B3 := am (blk_below A3.out hb); have B4 := am hbox; have HB2 := am (below_step HB.out hb); clear hbox hb hg A3 HB; have HB := HB2; clear HB2) | ((with_reducible refine gd 6 ?_); refine bz (N := 6) ?_; intro g6 hg w3 hbox hb; have n3 : g3 ≠ g6 := (by rw [hg]; exact Nat.ne_of_lt (blk_lt B3.out)); have n6 : g6 ≠ g3 := Ne.symm n3; have NE := am n6; have HC := am (blk_below B3.out hb); have HG := am (blk_below B4.out hb); have HR := am hbox; have G6 : Aside0 (w.heap.size ≤ g6) := ⟨by rw [hg]; exact below_size HB.out⟩; have HB2 := am (below_step HB.out hb); clear hbox hb hg B3 B4 HB; have HB := HB2; clear HB2; obtain ⟨⟨y0, y1, y2, y3, y4, y5, y6, y7⟩, ⟨fy0, fy1, fy2, fy3, fy4, fy5, fy6, fy7⟩⟩ := cells8 (HC.out); have z0 : w3.cell? ⟨g4, 0, none⟩ = some (.int .i64 14) := (blk_cell HG.out 0).trans rfl; have z1 : w3.cell? ⟨g4, 1, none⟩ = some (.int .i64 arg) := (blk_cell HG.out 1).trans rfl; obtain ⟨⟨r0, r1, r2, r3, r4, r5, r6, r7⟩, ⟨fr0, fr1, fr2, fr3, fr4, fr5, fr6, fr7⟩⟩ := cells8 (HR.out)) | (go_at_call 94; refine (spec_SetA.calls A X S P Z N C I _ s1 X S P sz sn C I _ HF.out).mono ?_; rintro e w4 ⟨rfl, hb⟩; have HR2 := am (blk_below HR.out hb); have HB2 := am (below_step HB.out hb); clear hb; obtain ⟨⟨sc0, sc1, sc2, sc3, sc4, sc5, sc6, sc7⟩, ⟨fsc0, fsc1, fsc2, fsc3, fsc4, fsc5, fsc6, fsc7⟩⟩ := cells8 (HR2.out)))
 refine bodyPost_ret (results_ct rfl _ _ g6 55 #[.int .i64 s1, .int .i64 X, .int .i64 S, .int .i64 P, .bool sz, .bool sn, .bool C, .bool I] (0, 0) _ rfl (put8 HR2.out _ _ _ _ _ _ _ _) hu38 rfl (by kernel_rfl)) rfl ?_
 exact ⟨rfl, below8 HB2.out G6.out _ _ _ _ _ _ _ _⟩
theorem alu_4 (A X S P : Int) (Z N C I : Bool) (arg v : Int) (w : World) :
  Calls Try.prog 90 #[.agg #[.int .i64 A, .int .i64 X, .int .i64 S, .int .i64 P, .bool Z, .bool N, .bool C, .bool I], .agg #[.int .i64 4, .int .i64 arg], .int .i64 v] w fun e w' => e = .returned (.tuple #[.agg (addK (⟨A, X, S, P, Z, N, C, I⟩ : Cp) arg).cells, .bool true]) ∧ Below w.heap.size w w' := by
 obtain ⟨s1, sz, sn, cy, hf, ek⟩ := sadd_ex (⟨A, X, S, P, Z, N, C, I⟩ : Cp) arg
 rw [ek]
 clear ek
 have HF := am hf
 clear hf
 have hu38 := Try.underlying55
 have hu68 := Try.underlying51
 go_enter Try.func90, Try.ntmps90
 go_wp2_with (first | ((with_reducible refine gd 3 ?_); refine bx (N := 3) (cs := #[.int .i64 A, .int .i64 X, .int .i64 S, .int .i64 P, .bool Z, .bool N, .bool C, .bool I]) (t := 55) ?_; intro g3 hg w1 hbox hb; have A3 := am hbox; have HB := am (below_step (Below.refl w.heap.size w) hb); have G3 : Aside0 (w.heap.size ≤ g3) := ⟨by rw [hg]; exact Nat.le_refl _⟩; clear hbox hb hg) | ((with_reducible refine gd 4 ?_); refine bx (N := 4) (cs := #[.int .i64 4, .int .i64 arg]) (t := 51) ?_; intro g4 hg w2 hbox hb; have B3 := am (blk_below A3.out hb); have B4 := am hbox; have HB2 := am (below_step HB.out hb); clear hbox hb hg A3 HB; have HB := HB2; clear HB2) | ((with_reducible refine gd 6 ?_); refine bz (N := 6) ?_; intro g6 hg w3 hbox hb; have n3 : g3 ≠ g6 := (by rw [hg]; exact Nat.ne_of_lt (blk_lt B3.out)); have n6 : g6 ≠ g3 := Ne.symm n3; have NE := am n6; have HC := am (blk_below B3.out hb); have HG := am (blk_below B4.out hb); have HR := am hbox; have G6 : Aside0 (w.heap.size ≤ g6) := ⟨by rw [hg]; exact below_size HB.out⟩; have HB2 := am (below_step HB.out hb); clear hbox hb hg B3 B4 HB; have HB := HB2; clear HB2; obtain ⟨⟨y0, y1, y2, y3, y4, y5, y6, y7⟩, ⟨fy0, fy1, fy2, fy3, fy4, fy5, fy6, fy7⟩⟩ := cells8 (HC.out); have z0 : w3.cell? ⟨g4, 0, none⟩ = some (.int .i64 4) := (blk_cell HG.out 0).trans rfl; have z1 : w3.cell? ⟨g4, 1, none⟩ = some (.int .i64 arg) := (blk_cell HG.out 1).trans rfl; obtain ⟨⟨r0, r1, r2, r3, r4, r5, r6, r7⟩, ⟨fr0, fr1, fr2, fr3, fr4, fr5, fr6, fr7⟩⟩ := cells8 (HR.out)) | (go_at_call 112; refine (HF.out _).mono ?_; rintro e w4 ⟨rfl, hb⟩; have HR2 := am (blk_below HR.out hb); have HB2 := am (below_step HB.out hb); clear hb; obtain ⟨⟨sc0, sc1, sc2, sc3, sc4, sc5, sc6, sc7⟩, ⟨fsc0, fsc1, fsc2, fsc3, fsc4, fsc5, fsc6, fsc7⟩⟩ := cells8 (HR2.out)))
 refine bodyPost_ret (results_ct rfl _ _ g6 55 #[.int .i64 s1, .int .i64 X, .int .i64 S, .int .i64 P, .bool sz, .bool sn, .bool cy, .bool I] (0, 0) _ rfl (put8 HR2.out _ _ _ _ _ _ _ _) hu38 rfl (by kernel_rfl)) rfl ?_
 exact ⟨rfl, below8 HB2.out G6.out _ _ _ _ _ _ _ _⟩
theorem alu_29 (A X S P : Int) (Z N C I : Bool) (arg v : Int) (w : World) :
  Calls Try.prog 90 #[.agg #[.int .i64 A, .int .i64 X, .int .i64 S, .int .i64 P, .bool Z, .bool N, .bool C, .bool I], .agg #[.int .i64 29, .int .i64 arg], .int .i64 v] w fun e w' => e = .returned (.tuple #[.agg (addK (⟨A, X, S, P, Z, N, C, I⟩ : Cp) v).cells, .bool true]) ∧ Below w.heap.size w w' := by
 obtain ⟨s1, sz, sn, cy, hf, ek⟩ := sadd_ex (⟨A, X, S, P, Z, N, C, I⟩ : Cp) v
 rw [ek]
 clear ek
 have HF := am hf
 clear hf
 have hu38 := Try.underlying55
 have hu68 := Try.underlying51
 go_enter Try.func90, Try.ntmps90
 go_wp2_with (first | ((with_reducible refine gd 3 ?_); refine bx (N := 3) (cs := #[.int .i64 A, .int .i64 X, .int .i64 S, .int .i64 P, .bool Z, .bool N, .bool C, .bool I]) (t := 55) ?_; intro g3 hg w1 hbox hb; have A3 := am hbox; have HB := am (below_step (Below.refl w.heap.size w) hb); have G3 : Aside0 (w.heap.size ≤ g3) := ⟨by rw [hg]; exact Nat.le_refl _⟩; clear hbox hb hg) | ((with_reducible refine gd 4 ?_); refine bx (N := 4) (cs := #[.int .i64 29, .int .i64 arg]) (t := 51) ?_; intro g4 hg w2 hbox hb; have B3 := am (blk_below A3.out hb); have B4 := am hbox; have HB2 := am (below_step HB.out hb); clear hbox hb hg A3 HB; have HB := HB2; clear HB2) | ((with_reducible refine gd 6 ?_); refine bz (N := 6) ?_; intro g6 hg w3 hbox hb; have n3 : g3 ≠ g6 := (by rw [hg]; exact Nat.ne_of_lt (blk_lt B3.out)); have n6 : g6 ≠ g3 := Ne.symm n3; have NE := am n6; have HC := am (blk_below B3.out hb); have HG := am (blk_below B4.out hb); have HR := am hbox; have G6 : Aside0 (w.heap.size ≤ g6) := ⟨by rw [hg]; exact below_size HB.out⟩; have HB2 := am (below_step HB.out hb); clear hbox hb hg B3 B4 HB; have HB := HB2; clear HB2; obtain ⟨⟨y0, y1, y2, y3, y4, y5, y6, y7⟩, ⟨fy0, fy1, fy2, fy3, fy4, fy5, fy6, fy7⟩⟩ := cells8 (HC.out); have z0 : w3.cell? ⟨g4, 0, none⟩ = some (.int .i64 29) := (blk_cell HG.out 0).trans rfl; have z1 : w3.cell? ⟨g4, 1, none⟩ = some (.int .i64 arg) := (blk_cell HG.out 1).trans rfl; obtain ⟨⟨r0, r1, r2, r3, r4, r5, r6, r7⟩, ⟨fr0, fr1, fr2, fr3, fr4, fr5, fr6, fr7⟩⟩ := cells8 (HR.out)) | (go_at_call 112; refine (HF.out _).mono ?_; rintro e w4 ⟨rfl, hb⟩; have HR2 := am (blk_below HR.out hb); have HB2 := am (below_step HB.out hb); clear hb; obtain ⟨⟨sc0, sc1, sc2, sc3, sc4, sc5, sc6, sc7⟩, ⟨fsc0, fsc1, fsc2, fsc3, fsc4, fsc5, fsc6, fsc7⟩⟩ := cells8 (HR2.out)))
 refine bodyPost_ret (results_ct rfl _ _ g6 55 #[.int .i64 s1, .int .i64 X, .int .i64 S, .int .i64 P, .bool sz, .bool sn, .bool cy, .bool I] (0, 0) _ rfl (put8 HR2.out _ _ _ _ _ _ _ _) hu38 rfl (by kernel_rfl)) rfl ?_
 exact ⟨rfl, below8 HB2.out G6.out _ _ _ _ _ _ _ _⟩
theorem alu_10 (A X S P : Int) (Z N C I : Bool) (arg v : Int) (w : World) :
  Calls Try.prog 90 #[.agg #[.int .i64 A, .int .i64 X, .int .i64 S, .int .i64 P, .bool Z, .bool N, .bool C, .bool I], .agg #[.int .i64 10, .int .i64 arg], .int .i64 v] w fun e w' => e = .returned (.tuple #[.agg (setXK (⟨A, X, S, P, Z, N, C, I⟩ : Cp) A).cells, .bool true]) ∧ Below w.heap.size w w' := by
 obtain ⟨s1, sz, sn, hf, ek⟩ := setx_sx (⟨A, X, S, P, Z, N, C, I⟩ : Cp) A
 rw [ek]
 clear ek
 have HF := am hf
 clear hf
 have hu38 := Try.underlying55
 have hu68 := Try.underlying51
 go_enter Try.func90, Try.ntmps90
 go_wp2_with (first | ((with_reducible refine gd 3 ?_); refine bx (N := 3) (cs := #[.int .i64 A, .int .i64 X, .int .i64 S, .int .i64 P, .bool Z, .bool N, .bool C, .bool I]) (t := 55) ?_; intro g3 hg w1 hbox hb; have A3 := am hbox; have HB := am (below_step (Below.refl w.heap.size w) hb); have G3 : Aside0 (w.heap.size ≤ g3) := ⟨by rw [hg]; exact Nat.le_refl _⟩; clear hbox hb hg) | ((with_reducible refine gd 4 ?_); refine bx (N := 4) (cs := #[.int .i64 10, .int .i64 arg]) (t := 51) ?_; intro g4 hg w2 hbox hb; have B3 := am (blk_below A3.out hb); have B4 := am hbox; have HB2 := am (below_step HB.out hb); clear hbox hb hg A3 HB; have HB := HB2; clear HB2) | ((with_reducible refine gd 6 ?_); refine bz (N := 6) ?_; intro g6 hg w3 hbox hb; have n3 : g3 ≠ g6 := (by rw [hg]; exact Nat.ne_of_lt (blk_lt B3.out)); have n6 : g6 ≠ g3 := Ne.symm n3; have NE := am n6; have HC := am (blk_below B3.out hb); have HG := am (blk_below B4.out hb); have HR := am hbox; have G6 : Aside0 (w.heap.size ≤ g6) := ⟨by rw [hg]; exact below_size HB.out⟩; have HB2 := am (below_step HB.out hb); clear hbox hb hg B3 B4 HB; have HB := HB2; clear HB2; obtain ⟨⟨y0, y1, y2, y3, y4, y5, y6, y7⟩, ⟨fy0, fy1, fy2, fy3, fy4, fy5, fy6, fy7⟩⟩ := cells8 (HC.out); have z0 : w3.cell? ⟨g4, 0, none⟩ = some (.int .i64 10) := (blk_cell HG.out 0).trans rfl; have z1 : w3.cell? ⟨g4, 1, none⟩ = some (.int .i64 arg) := (blk_cell HG.out 1).trans rfl; obtain ⟨⟨r0, r1, r2, r3, r4, r5, r6, r7⟩, ⟨fr0, fr1, fr2, fr3, fr4, fr5, fr6, fr7⟩⟩ := cells8 (HR.out)) | (go_at_call 115; refine (spec_SetX.calls A X S P Z N C I _ A s1 S P sz sn C I _ HF.out).mono ?_; rintro e w4 ⟨rfl, hb⟩; have HR2 := am (blk_below HR.out hb); have HB2 := am (below_step HB.out hb); clear hb; obtain ⟨⟨sc0, sc1, sc2, sc3, sc4, sc5, sc6, sc7⟩, ⟨fsc0, fsc1, fsc2, fsc3, fsc4, fsc5, fsc6, fsc7⟩⟩ := cells8 (HR2.out)))
 refine bodyPost_ret (results_ct rfl _ _ g6 55 #[.int .i64 A, .int .i64 s1, .int .i64 S, .int .i64 P, .bool sz, .bool sn, .bool C, .bool I] (0, 0) _ rfl (put8 HR2.out _ _ _ _ _ _ _ _) hu38 rfl (by kernel_rfl)) rfl ?_
 exact ⟨rfl, below8 HB2.out G6.out _ _ _ _ _ _ _ _⟩
theorem alu_11 (A X S P : Int) (Z N C I : Bool) (arg v : Int) (w : World) :
  Calls Try.prog 90 #[.agg #[.int .i64 A, .int .i64 X, .int .i64 S, .int .i64 P, .bool Z, .bool N, .bool C, .bool I], .agg #[.int .i64 11, .int .i64 arg], .int .i64 v] w fun e w' => e = .returned (.tuple #[.agg (setAK (⟨A, X, S, P, Z, N, C, I⟩ : Cp) X).cells, .bool true]) ∧ Below w.heap.size w w' := by
 obtain ⟨s1, sz, sn, hf, ek⟩ := seta_sx (⟨A, X, S, P, Z, N, C, I⟩ : Cp) X
 rw [ek]
 clear ek
 have HF := am hf
 clear hf
 have hu38 := Try.underlying55
 have hu68 := Try.underlying51
 go_enter Try.func90, Try.ntmps90
 go_wp2_with (first | ((with_reducible refine gd 3 ?_); refine bx (N := 3) (cs := #[.int .i64 A, .int .i64 X, .int .i64 S, .int .i64 P, .bool Z, .bool N, .bool C, .bool I]) (t := 55) ?_; intro g3 hg w1 hbox hb; have A3 := am hbox; have HB := am (below_step (Below.refl w.heap.size w) hb); have G3 : Aside0 (w.heap.size ≤ g3) := ⟨by rw [hg]; exact Nat.le_refl _⟩; clear hbox hb hg) | ((with_reducible refine gd 4 ?_); refine bx (N := 4) (cs := #[.int .i64 11, .int .i64 arg]) (t := 51) ?_; intro g4 hg w2 hbox hb; have B3 := am (blk_below A3.out hb); have B4 := am hbox; have HB2 := am (below_step HB.out hb); clear hbox hb hg A3 HB; have HB := HB2; clear HB2) | ((with_reducible refine gd 6 ?_); refine bz (N := 6) ?_; intro g6 hg w3 hbox hb; have n3 : g3 ≠ g6 := (by rw [hg]; exact Nat.ne_of_lt (blk_lt B3.out)); have n6 : g6 ≠ g3 := Ne.symm n3; have NE := am n6; have HC := am (blk_below B3.out hb); have HG := am (blk_below B4.out hb); have HR := am hbox; have G6 : Aside0 (w.heap.size ≤ g6) := ⟨by rw [hg]; exact below_size HB.out⟩; have HB2 := am (below_step HB.out hb); clear hbox hb hg B3 B4 HB; have HB := HB2; clear HB2; obtain ⟨⟨y0, y1, y2, y3, y4, y5, y6, y7⟩, ⟨fy0, fy1, fy2, fy3, fy4, fy5, fy6, fy7⟩⟩ := cells8 (HC.out); have z0 : w3.cell? ⟨g4, 0, none⟩ = some (.int .i64 11) := (blk_cell HG.out 0).trans rfl; have z1 : w3.cell? ⟨g4, 1, none⟩ = some (.int .i64 arg) := (blk_cell HG.out 1).trans rfl; obtain ⟨⟨r0, r1, r2, r3, r4, r5, r6, r7⟩, ⟨fr0, fr1, fr2, fr3, fr4, fr5, fr6, fr7⟩⟩ := cells8 (HR.out)) | (go_at_call 94; refine (spec_SetA.calls A X S P Z N C I _ s1 X S P sz sn C I _ HF.out).mono ?_; rintro e w4 ⟨rfl, hb⟩; have HR2 := am (blk_below HR.out hb); have HB2 := am (below_step HB.out hb); clear hb; obtain ⟨⟨sc0, sc1, sc2, sc3, sc4, sc5, sc6, sc7⟩, ⟨fsc0, fsc1, fsc2, fsc3, fsc4, fsc5, fsc6, fsc7⟩⟩ := cells8 (HR2.out)))
 refine bodyPost_ret (results_ct rfl _ _ g6 55 #[.int .i64 s1, .int .i64 X, .int .i64 S, .int .i64 P, .bool sz, .bool sn, .bool C, .bool I] (0, 0) _ rfl (put8 HR2.out _ _ _ _ _ _ _ _) hu38 rfl (by kernel_rfl)) rfl ?_
 exact ⟨rfl, below8 HB2.out G6.out _ _ _ _ _ _ _ _⟩
theorem alu_6 (A X S P : Int) (Z N C I : Bool) (arg v : Int) (w : World) :
  Calls Try.prog 90 #[.agg #[.int .i64 A, .int .i64 X, .int .i64 S, .int .i64 P, .bool Z, .bool N, .bool C, .bool I], .agg #[.int .i64 6, .int .i64 arg], .int .i64 v] w fun e w' => e = .returned (.tuple #[.agg (andS (⟨A, X, S, P, Z, N, C, I⟩ : Cp) arg).cells, .bool true]) ∧ Below w.heap.size w w' := by
 obtain ⟨ba, hba, eba⟩ := sbyte_ex A
 have Hba := am hba
 clear hba
 obtain ⟨bb, hbb, ebb⟩ := sbyte_ex arg
 have Hbb := am hbb
 clear hbb
 obtain ⟨s1, sz, sn, hf, ek⟩ := seta_sx (⟨A, X, S, P, Z, N, C, I⟩ : Cp) (Go.bits .and .i64 ba bb)
 unfold andS
 simp only [eba, ebb]
 rw [ek]
 clear ek eba ebb
 have HF := am hf
 clear hf
 have hu38 := Try.underlying55
 have hu68 := Try.underlying51
 go_enter Try.func90, Try.ntmps90
 go_wp2_with (first | ((with_reducible refine gd 3 ?_); refine bx (N := 3) (cs := #[.int .i64 A, .int .i64 X, .int .i64 S, .int .i64 P, .bool Z, .bool N, .bool C, .bool I]) (t := 55) ?_; intro g3 hg w1 hbox hb; have A3 := am hbox; have HB := am (below_step (Below.refl w.heap.size w) hb); have G3 : Aside0 (w.heap.size ≤ g3) := ⟨by rw [hg]; exact Nat.le_refl _⟩; clear hbox hb hg) | ((with_reducible refine gd 4 ?_); refine bx (N := 4) (cs := #[.int .i64 6, .int .i64 arg]) (t := 51) ?_; intro g4 hg w2 hbox hb; have B3 := am (blk_below A3.out hb); have B4 := am hbox; have HB2 := am (below_step HB.out hb); clear hbox hb hg A3 HB; have HB := HB2; clear HB2) | ((with_reducible refine gd 6 ?_); refine bz (N := 6) ?_; intro g6 hg w3 hbox hb; have n3 : g3 ≠ g6 := (by rw [hg]; exact Nat.ne_of_lt (blk_lt B3.out)); have n6 : g6 ≠ g3 := Ne.symm n3; have NE := am n6; have HC := am (blk_below B3.out hb); have HG := am (blk_below B4.out hb); have HR := am hbox; have G6 : Aside0 (w.heap.size ≤ g6) := ⟨by rw [hg]; exact below_size HB.out⟩; have HB2 := am (below_step HB.out hb); clear hbox hb hg B3 B4 HB; have HB := HB2; clear HB2; obtain ⟨⟨y0, y1, y2, y3, y4, y5, y6, y7⟩, ⟨fy0, fy1, fy2, fy3, fy4, fy5, fy6, fy7⟩⟩ := cells8 (HC.out); have z0 : w3.cell? ⟨g4, 0, none⟩ = some (.int .i64 6) := (blk_cell HG.out 0).trans rfl; have z1 : w3.cell? ⟨g4, 1, none⟩ = some (.int .i64 arg) := (blk_cell HG.out 1).trans rfl; obtain ⟨⟨r0, r1, r2, r3, r4, r5, r6, r7⟩, ⟨fr0, fr1, fr2, fr3, fr4, fr5, fr6, fr7⟩⟩ := cells8 (HR.out)))
 refine fre_ (n := 11) (e := 9) (g := 1) (T := (true, [([], []), ([], []), ([1], [1]), ([2], [2]), ([], []), ([4], [4]), ([5, 3], [5]), ([3, 6], [3, 6]), ([0, 7, 6], [0, 7]), ([8, 8, 0, 1, 2, 3, 4, 5, 6, 7, 8], [8]), ([9, 0, 1, 2, 3, 4, 5, 6, 7, 8, 9], [])])) (bm 11 511) (bm 11 509) [55, 56, 57, 58, 59, 60, 61, 62, 63] (fun j u w' => match j with
  | 0 => u = .agg #[.int .i64 A, .int .i64 X, .int .i64 S, .int .i64 P, .bool Z, .bool N, .bool C, .bool I]
  | 1 => u = .pointer (some ⟨g3, 0, none⟩)
  | 2 => u = .int .i64 A
  | 3 => u = .int .i64 ba
  | 4 => u = .pointer (some ⟨g4, 1, none⟩)
  | 5 => u = .int .i64 arg
  | 6 => u = .int .i64 bb
  | 7 => u = .int .i64 (Go.bits .and .i64 ba bb)
  | 8 => u = .agg #[.int .i64 s1, .int .i64 X, .int .i64 S, .int .i64 P, .bool sz, .bool sn, .bool C, .bool I]
  | _ => False)
  (by kernel_rfl) rfl (by kernel_rfl) (by kernel_rfl) (by kernel_rfl) (by kernel_rfl) (fun _ _ _ _ h => h) ?stalu6 ?spalu6 ?laalu6 ?enalu6
 case stalu6 =>
  intro j u W W' h hb
  exact h
 case spalu6 =>
  intro i hi o ho a W hB hout hneed K hK
  have HBW := am hB
  have hcase : i = 0 ∨ i = 1 ∨ i = 2 ∨ i = 3 ∨ i = 4 ∨ i = 5 ∨ i = 6 ∨ i = 7 ∨ i = 8 := by omega
  clear hB
  rcases hcase with rfl | rfl | rfl | rfl | rfl | rfl | rfl | rfl | rfl
  ·obtain rfl := oj ho
   have h3 : a.eval (.tmp 3) = .pointer (some ⟨g3, 0, none⟩) := hout 3 (by decide)
   have h3' := eval_get h3
   have hb := blk_below (w := w3.drew) HC.out HBW.out
   obtain ⟨⟨d0, d1, d2, d3, d4, d5, d6, d7⟩, -⟩ := cells8 hb
   exact va_ (.agg #[.int .i64 A, .int .i64 X, .int .i64 S, .int .i64 P, .bool Z, .bool N, .bool C, .bool I]) hK rfl
  ·obtain rfl := oj ho
   have h3 : a.eval (.tmp 3) = .pointer (some ⟨g3, 0, none⟩) := hout 3 (by decide)
   have h3' := eval_get h3
   exact va_ (.pointer (some ⟨g3, 0, none⟩)) hK rfl
  ·obtain rfl := oj ho
   obtain ⟨e1, e1'⟩ := eg (show a.eval (.tmp 56) = _ from hneed 1 (by decide))
   have hb := blk_below (w := w3.drew) HC.out HBW.out
   have d0 := (blk_cell hb 0).trans rfl
   exact va_ (.int .i64 A) hK rfl
  ·obtain rfl := oj ho
   obtain ⟨e2, e2'⟩ := eg (show a.eval (.tmp 57) = _ from hneed 2 (by decide))
   refine goes_ Try.func71 (by kernel_rfl) rfl #[.int .i64 A] (by rfl) rfl rfl (by simp only [List.map_toArray, List.map_cons, List.map_nil, e2]) ?_
   refine (spec_Byte.calls A ba W Hba.out).mono ?_
   rintro e w' ⟨rfl, nd, rfl⟩
   exact ⟨_, rfl, hK.out _ _ (pw_below_drewN (Below.refl _ _) nd) rfl⟩
  ·obtain rfl := oj ho
   have h4 : a.eval (.tmp 4) = .pointer (some ⟨g4, 0, none⟩) := hout 4 (by decide)
   have h4' := eval_get h4
   exact va_ (.pointer (some ⟨g4, 1, none⟩)) hK rfl
  ·obtain rfl := oj ho
   obtain ⟨e4, e4'⟩ := eg (show a.eval (.tmp 59) = _ from hneed 4 (by decide))
   have hb := blk_below (w := w3.drew) HG.out HBW.out
   have d1 := (blk_cell hb 1).trans rfl
   exact va_ (.int .i64 arg) hK rfl
  ·obtain rfl := oj ho
   obtain ⟨e5, e5'⟩ := eg (show a.eval (.tmp 60) = _ from hneed 5 (by decide))
   refine goes_ Try.func71 (by kernel_rfl) rfl #[.int .i64 arg] (by rfl) rfl rfl (by simp only [List.map_toArray, List.map_cons, List.map_nil, e5]) ?_
   refine (spec_Byte.calls arg bb W Hbb.out).mono ?_
   rintro e w' ⟨rfl, nd, rfl⟩
   exact ⟨_, rfl, hK.out _ _ (pw_below_drewN (Below.refl _ _) nd) rfl⟩
  ·obtain rfl := oj ho
   obtain ⟨e3, e3'⟩ := eg (show a.eval (.tmp 58) = _ from hneed 3 (by decide))
   obtain ⟨e6, e6'⟩ := eg (show a.eval (.tmp 61) = _ from hneed 6 (by decide))
   exact va_ (.int .i64 (Go.bits .and .i64 ba bb)) hK rfl
  ·obtain rfl := oj ho
   obtain ⟨e0, e0'⟩ := eg (show a.eval (.tmp 55) = _ from hneed 0 (by decide))
   obtain ⟨e7, e7'⟩ := eg (show a.eval (.tmp 62) = _ from hneed 7 (by decide))
   refine goes_ Try.func94 (by kernel_rfl) rfl #[.agg #[.int .i64 A, .int .i64 X, .int .i64 S, .int .i64 P, .bool Z, .bool N, .bool C, .bool I], .int .i64 (Go.bits .and .i64 ba bb)] (by rfl) rfl rfl (by simp only [List.map_toArray, List.map_cons, List.map_nil, e0, e7]) ?_
   refine (spec_SetA.calls A X S P Z N C I _ s1 X S P sz sn C I W HF.out).mono ?_
   rintro e w' ⟨rfl, hb⟩
   exact ⟨_, rfl, hK.out _ _ hb rfl⟩
 case laalu6 =>
  intro o ho a W hout hneed
  obtain rfl := oj ho
  have h3 : a.eval (.tmp 3) = .pointer (some ⟨g3, 0, none⟩) := hout 3 (by decide)
  have h3' := eval_get h3
  refine ⟨.pointer (some ⟨g3, 0, none⟩), rfl, Or.inl ⟨by rfl, ?_⟩⟩
  intro w'
  go_simp
 intro f vs W2 hB hE
 have HBW := am hB
 clear hB
 have q0 : vs 0 = _ := hE 0 (by decide)
 have q1 : vs 1 = _ := hE 1 (by decide)
 have q2 : vs 2 = _ := hE 2 (by decide)
 have q3 : vs 3 = _ := hE 3 (by decide)
 have q4 : vs 4 = _ := hE 4 (by decide)
 have q5 : vs 5 = _ := hE 5 (by decide)
 have q6 : vs 6 = _ := hE 6 (by decide)
 have q7 : vs 7 = _ := hE 7 (by decide)
 have q8 : vs 8 = _ := hE 8 (by decide)
 show wpAnyLast _ _ _ _ _ _ (f + 2) _ (putAll _ [(55, vs 0), (56, vs 1), (57, vs 2), (58, vs 3), (59, vs 4), (60, vs 5), (61, vs 6), (62, vs 7), (63, vs 8)]) W2
 rw [q0, q1, q2, q3, q4, q5, q6, q7, q8]
 clear q0 q1 q2 q3 q4 q5 q6 q7 q8 hE
 refine norm_ (a' := ?_) ?_ ?_
 rotate_left
 ·simp only [putAll, Act.put, List.setIfInBounds_toArray, List.set_cons_zero, List.set_cons_succ]
  rfl
 refine ov_ 9 none (bm 11 1023) (fun K hK => ?_)
 refine skip_ (w1 := ?_) (by rfl) rfl ?_ ?_
 rotate_left
 ·skip
  have hcW := blk_below (w := w3.drew) HR.out HBW.out
  obtain ⟨⟨t0, t1, t2, t3, t4, t5, t6, t7⟩, ⟨ft0, ft1, ft2, ft3, ft4, ft5, ft6, ft7⟩⟩ := cells8 (hcW)
  go_simp
  rfl
 refine hK.out _ _ trivial (fun _ => ?_)
 clear hK K
 refine pv_ 10 (some 7) (bm 11 2047) ?_
 refine done_ (by kernel_rfl) ?_
 go_wp2
 refine bodyPost_ret (results_ct rfl _ _ g6 55 #[.int .i64 s1, .int .i64 X, .int .i64 S, .int .i64 P, .bool sz, .bool sn, .bool C, .bool I] (0, 0) _ rfl (put8 (blk_below (w := w3.drew) HR.out HBW.out) _ _ _ _ _ _ _ _) hu38 rfl (by kernel_rfl)) rfl ?_
 exact ⟨rfl, below8 (below_step (w := w) (W := w3.drew) (below_drew1 HB.out) HBW.out) G6.out _ _ _ _ _ _ _ _⟩
theorem alu_7 (A X S P : Int) (Z N C I : Bool) (arg v : Int) (w : World) :
  Calls Try.prog 90 #[.agg #[.int .i64 A, .int .i64 X, .int .i64 S, .int .i64 P, .bool Z, .bool N, .bool C, .bool I], .agg #[.int .i64 7, .int .i64 arg], .int .i64 v] w fun e w' => e = .returned (.tuple #[.agg (orS (⟨A, X, S, P, Z, N, C, I⟩ : Cp) arg).cells, .bool true]) ∧ Below w.heap.size w w' := by
 obtain ⟨ba, hba, eba⟩ := sbyte_ex A
 have Hba := am hba
 clear hba
 obtain ⟨bb, hbb, ebb⟩ := sbyte_ex arg
 have Hbb := am hbb
 clear hbb
 obtain ⟨s1, sz, sn, hf, ek⟩ := seta_sx (⟨A, X, S, P, Z, N, C, I⟩ : Cp) (Go.bits .or .i64 ba bb)
 unfold orS
 simp only [eba, ebb]
 rw [ek]
 clear ek eba ebb
 have HF := am hf
 clear hf
 have hu38 := Try.underlying55
 have hu68 := Try.underlying51
 go_enter Try.func90, Try.ntmps90
 go_wp2_with (first | ((with_reducible refine gd 3 ?_); refine bx (N := 3) (cs := #[.int .i64 A, .int .i64 X, .int .i64 S, .int .i64 P, .bool Z, .bool N, .bool C, .bool I]) (t := 55) ?_; intro g3 hg w1 hbox hb; have A3 := am hbox; have HB := am (below_step (Below.refl w.heap.size w) hb); have G3 : Aside0 (w.heap.size ≤ g3) := ⟨by rw [hg]; exact Nat.le_refl _⟩; clear hbox hb hg) | ((with_reducible refine gd 4 ?_); refine bx (N := 4) (cs := #[.int .i64 7, .int .i64 arg]) (t := 51) ?_; intro g4 hg w2 hbox hb; have B3 := am (blk_below A3.out hb); have B4 := am hbox; have HB2 := am (below_step HB.out hb); clear hbox hb hg A3 HB; have HB := HB2; clear HB2) | ((with_reducible refine gd 6 ?_); refine bz (N := 6) ?_; intro g6 hg w3 hbox hb; have n3 : g3 ≠ g6 := (by rw [hg]; exact Nat.ne_of_lt (blk_lt B3.out)); have n6 : g6 ≠ g3 := Ne.symm n3; have NE := am n6; have HC := am (blk_below B3.out hb); have HG := am (blk_below B4.out hb); have HR := am hbox; have G6 : Aside0 (w.heap.size ≤ g6) := ⟨by rw [hg]; exact below_size HB.out⟩; have HB2 := am (below_step HB.out hb); clear hbox hb hg B3 B4 HB; have HB := HB2; clear HB2; obtain ⟨⟨y0, y1, y2, y3, y4, y5, y6, y7⟩, ⟨fy0, fy1, fy2, fy3, fy4, fy5, fy6, fy7⟩⟩ := cells8 (HC.out); have z0 : w3.cell? ⟨g4, 0, none⟩ = some (.int .i64 7) := (blk_cell HG.out 0).trans rfl; have z1 : w3.cell? ⟨g4, 1, none⟩ = some (.int .i64 arg) := (blk_cell HG.out 1).trans rfl; obtain ⟨⟨r0, r1, r2, r3, r4, r5, r6, r7⟩, ⟨fr0, fr1, fr2, fr3, fr4, fr5, fr6, fr7⟩⟩ := cells8 (HR.out)))
 refine fre_ (n := 11) (e := 9) (g := 1) (T := (true, [([], []), ([], []), ([1], [1]), ([2], [2]), ([], []), ([4], [4]), ([5, 3], [5]), ([3, 6], [3, 6]), ([0, 7, 6], [0, 7]), ([8, 8, 0, 1, 2, 3, 4, 5, 6, 7, 8], [8]), ([9, 0, 1, 2, 3, 4, 5, 6, 7, 8, 9], [])])) (bm 11 511) (bm 11 509) [66, 67, 68, 69, 70, 71, 72, 73, 74] (fun j u w' => match j with
  | 0 => u = .agg #[.int .i64 A, .int .i64 X, .int .i64 S, .int .i64 P, .bool Z, .bool N, .bool C, .bool I]
  | 1 => u = .pointer (some ⟨g3, 0, none⟩)
  | 2 => u = .int .i64 A
  | 3 => u = .int .i64 ba
  | 4 => u = .pointer (some ⟨g4, 1, none⟩)
  | 5 => u = .int .i64 arg
  | 6 => u = .int .i64 bb
  | 7 => u = .int .i64 (Go.bits .or .i64 ba bb)
  | 8 => u = .agg #[.int .i64 s1, .int .i64 X, .int .i64 S, .int .i64 P, .bool sz, .bool sn, .bool C, .bool I]
  | _ => False)
  (by kernel_rfl) rfl (by kernel_rfl) (by kernel_rfl) (by kernel_rfl) (by kernel_rfl) (fun _ _ _ _ h => h) ?stalu7 ?spalu7 ?laalu7 ?enalu7
 case stalu7 =>
  intro j u W W' h hb
  exact h
 case spalu7 =>
  intro i hi o ho a W hB hout hneed K hK
  have HBW := am hB
  have hcase : i = 0 ∨ i = 1 ∨ i = 2 ∨ i = 3 ∨ i = 4 ∨ i = 5 ∨ i = 6 ∨ i = 7 ∨ i = 8 := by omega
  clear hB
  rcases hcase with rfl | rfl | rfl | rfl | rfl | rfl | rfl | rfl | rfl
  ·obtain rfl := oj ho
   have h3 : a.eval (.tmp 3) = .pointer (some ⟨g3, 0, none⟩) := hout 3 (by decide)
   have h3' := eval_get h3
   have hb := blk_below (w := w3.drew) HC.out HBW.out
   obtain ⟨⟨d0, d1, d2, d3, d4, d5, d6, d7⟩, -⟩ := cells8 hb
   exact va_ (.agg #[.int .i64 A, .int .i64 X, .int .i64 S, .int .i64 P, .bool Z, .bool N, .bool C, .bool I]) hK rfl
  ·obtain rfl := oj ho
   have h3 : a.eval (.tmp 3) = .pointer (some ⟨g3, 0, none⟩) := hout 3 (by decide)
   have h3' := eval_get h3
   exact va_ (.pointer (some ⟨g3, 0, none⟩)) hK rfl
  ·obtain rfl := oj ho
   obtain ⟨e1, e1'⟩ := eg (show a.eval (.tmp 67) = _ from hneed 1 (by decide))
   have hb := blk_below (w := w3.drew) HC.out HBW.out
   have d0 := (blk_cell hb 0).trans rfl
   exact va_ (.int .i64 A) hK rfl
  ·obtain rfl := oj ho
   obtain ⟨e2, e2'⟩ := eg (show a.eval (.tmp 68) = _ from hneed 2 (by decide))
   refine goes_ Try.func71 (by kernel_rfl) rfl #[.int .i64 A] (by rfl) rfl rfl (by simp only [List.map_toArray, List.map_cons, List.map_nil, e2]) ?_
   refine (spec_Byte.calls A ba W Hba.out).mono ?_
   rintro e w' ⟨rfl, nd, rfl⟩
   exact ⟨_, rfl, hK.out _ _ (pw_below_drewN (Below.refl _ _) nd) rfl⟩
  ·obtain rfl := oj ho
   have h4 : a.eval (.tmp 4) = .pointer (some ⟨g4, 0, none⟩) := hout 4 (by decide)
   have h4' := eval_get h4
   exact va_ (.pointer (some ⟨g4, 1, none⟩)) hK rfl
  ·obtain rfl := oj ho
   obtain ⟨e4, e4'⟩ := eg (show a.eval (.tmp 70) = _ from hneed 4 (by decide))
   have hb := blk_below (w := w3.drew) HG.out HBW.out
   have d1 := (blk_cell hb 1).trans rfl
   exact va_ (.int .i64 arg) hK rfl
  ·obtain rfl := oj ho
   obtain ⟨e5, e5'⟩ := eg (show a.eval (.tmp 71) = _ from hneed 5 (by decide))
   refine goes_ Try.func71 (by kernel_rfl) rfl #[.int .i64 arg] (by rfl) rfl rfl (by simp only [List.map_toArray, List.map_cons, List.map_nil, e5]) ?_
   refine (spec_Byte.calls arg bb W Hbb.out).mono ?_
   rintro e w' ⟨rfl, nd, rfl⟩
   exact ⟨_, rfl, hK.out _ _ (pw_below_drewN (Below.refl _ _) nd) rfl⟩
  ·obtain rfl := oj ho
   obtain ⟨e3, e3'⟩ := eg (show a.eval (.tmp 69) = _ from hneed 3 (by decide))
   obtain ⟨e6, e6'⟩ := eg (show a.eval (.tmp 72) = _ from hneed 6 (by decide))
   exact va_ (.int .i64 (Go.bits .or .i64 ba bb)) hK rfl
  ·obtain rfl := oj ho
   obtain ⟨e0, e0'⟩ := eg (show a.eval (.tmp 66) = _ from hneed 0 (by decide))
   obtain ⟨e7, e7'⟩ := eg (show a.eval (.tmp 73) = _ from hneed 7 (by decide))
   refine goes_ Try.func94 (by kernel_rfl) rfl #[.agg #[.int .i64 A, .int .i64 X, .int .i64 S, .int .i64 P, .bool Z, .bool N, .bool C, .bool I], .int .i64 (Go.bits .or .i64 ba bb)] (by rfl) rfl rfl (by simp only [List.map_toArray, List.map_cons, List.map_nil, e0, e7]) ?_
   refine (spec_SetA.calls A X S P Z N C I _ s1 X S P sz sn C I W HF.out).mono ?_
   rintro e w' ⟨rfl, hb⟩
   exact ⟨_, rfl, hK.out _ _ hb rfl⟩
 case laalu7 =>
  intro o ho a W hout hneed
  obtain rfl := oj ho
  have h3 : a.eval (.tmp 3) = .pointer (some ⟨g3, 0, none⟩) := hout 3 (by decide)
  have h3' := eval_get h3
  refine ⟨.pointer (some ⟨g3, 0, none⟩), rfl, Or.inl ⟨by rfl, ?_⟩⟩
  intro w'
  go_simp
 intro f vs W2 hB hE
 have HBW := am hB
 clear hB
 have q0 : vs 0 = _ := hE 0 (by decide)
 have q1 : vs 1 = _ := hE 1 (by decide)
 have q2 : vs 2 = _ := hE 2 (by decide)
 have q3 : vs 3 = _ := hE 3 (by decide)
 have q4 : vs 4 = _ := hE 4 (by decide)
 have q5 : vs 5 = _ := hE 5 (by decide)
 have q6 : vs 6 = _ := hE 6 (by decide)
 have q7 : vs 7 = _ := hE 7 (by decide)
 have q8 : vs 8 = _ := hE 8 (by decide)
 show wpAnyLast _ _ _ _ _ _ (f + 2) _ (putAll _ [(66, vs 0), (67, vs 1), (68, vs 2), (69, vs 3), (70, vs 4), (71, vs 5), (72, vs 6), (73, vs 7), (74, vs 8)]) W2
 rw [q0, q1, q2, q3, q4, q5, q6, q7, q8]
 clear q0 q1 q2 q3 q4 q5 q6 q7 q8 hE
 refine norm_ (a' := ?_) ?_ ?_
 rotate_left
 ·simp only [putAll, Act.put, List.setIfInBounds_toArray, List.set_cons_zero, List.set_cons_succ]
  rfl
 refine ov_ 9 none (bm 11 1023) (fun K hK => ?_)
 refine skip_ (w1 := ?_) (by rfl) rfl ?_ ?_
 rotate_left
 ·skip
  have hcW := blk_below (w := w3.drew) HR.out HBW.out
  obtain ⟨⟨t0, t1, t2, t3, t4, t5, t6, t7⟩, ⟨ft0, ft1, ft2, ft3, ft4, ft5, ft6, ft7⟩⟩ := cells8 (hcW)
  go_simp
  rfl
 refine hK.out _ _ trivial (fun _ => ?_)
 clear hK K
 refine pv_ 10 (some 7) (bm 11 2047) ?_
 refine done_ (by kernel_rfl) ?_
 go_wp2
 refine bodyPost_ret (results_ct rfl _ _ g6 55 #[.int .i64 s1, .int .i64 X, .int .i64 S, .int .i64 P, .bool sz, .bool sn, .bool C, .bool I] (0, 0) _ rfl (put8 (blk_below (w := w3.drew) HR.out HBW.out) _ _ _ _ _ _ _ _) hu38 rfl (by kernel_rfl)) rfl ?_
 exact ⟨rfl, below8 (below_step (w := w) (W := w3.drew) (below_drew1 HB.out) HBW.out) G6.out _ _ _ _ _ _ _ _⟩
theorem alu_8 (A X S P : Int) (Z N C I : Bool) (arg v : Int) (w : World) :
  Calls Try.prog 90 #[.agg #[.int .i64 A, .int .i64 X, .int .i64 S, .int .i64 P, .bool Z, .bool N, .bool C, .bool I], .agg #[.int .i64 8, .int .i64 arg], .int .i64 v] w fun e w' => e = .returned (.tuple #[.agg (xorS (⟨A, X, S, P, Z, N, C, I⟩ : Cp) arg).cells, .bool true]) ∧ Below w.heap.size w w' := by
 obtain ⟨ba, hba, eba⟩ := sbyte_ex A
 have Hba := am hba
 clear hba
 obtain ⟨bb, hbb, ebb⟩ := sbyte_ex arg
 have Hbb := am hbb
 clear hbb
 obtain ⟨s1, sz, sn, hf, ek⟩ := seta_sx (⟨A, X, S, P, Z, N, C, I⟩ : Cp) (Go.bits .xor .i64 ba bb)
 unfold xorS
 simp only [eba, ebb]
 rw [ek]
 clear ek eba ebb
 have HF := am hf
 clear hf
 have hu38 := Try.underlying55
 have hu68 := Try.underlying51
 go_enter Try.func90, Try.ntmps90
 go_wp2_with (first | ((with_reducible refine gd 3 ?_); refine bx (N := 3) (cs := #[.int .i64 A, .int .i64 X, .int .i64 S, .int .i64 P, .bool Z, .bool N, .bool C, .bool I]) (t := 55) ?_; intro g3 hg w1 hbox hb; have A3 := am hbox; have HB := am (below_step (Below.refl w.heap.size w) hb); have G3 : Aside0 (w.heap.size ≤ g3) := ⟨by rw [hg]; exact Nat.le_refl _⟩; clear hbox hb hg) | ((with_reducible refine gd 4 ?_); refine bx (N := 4) (cs := #[.int .i64 8, .int .i64 arg]) (t := 51) ?_; intro g4 hg w2 hbox hb; have B3 := am (blk_below A3.out hb); have B4 := am hbox; have HB2 := am (below_step HB.out hb); clear hbox hb hg A3 HB; have HB := HB2; clear HB2) | ((with_reducible refine gd 6 ?_); refine bz (N := 6) ?_; intro g6 hg w3 hbox hb; have n3 : g3 ≠ g6 := (by rw [hg]; exact Nat.ne_of_lt (blk_lt B3.out)); have n6 : g6 ≠ g3 := Ne.symm n3; have NE := am n6; have HC := am (blk_below B3.out hb); have HG := am (blk_below B4.out hb); have HR := am hbox; have G6 : Aside0 (w.heap.size ≤ g6) := ⟨by rw [hg]; exact below_size HB.out⟩; have HB2 := am (below_step HB.out hb); clear hbox hb hg B3 B4 HB; have HB := HB2; clear HB2; obtain ⟨⟨y0, y1, y2, y3, y4, y5, y6, y7⟩, ⟨fy0, fy1, fy2, fy3, fy4, fy5, fy6, fy7⟩⟩ := cells8 (HC.out); have z0 : w3.cell? ⟨g4, 0, none⟩ = some (.int .i64 8) := (blk_cell HG.out 0).trans rfl; have z1 : w3.cell? ⟨g4, 1, none⟩ = some (.int .i64 arg) := (blk_cell HG.out 1).trans rfl; obtain ⟨⟨r0, r1, r2, r3, r4, r5, r6, r7⟩, ⟨fr0, fr1, fr2, fr3, fr4, fr5, fr6, fr7⟩⟩ := cells8 (HR.out)))
 refine fre_ (n := 11) (e := 9) (g := 1) (T := (true, [([], []), ([], []), ([1], [1]), ([2], [2]), ([], []), ([4], [4]), ([5, 3], [5]), ([3, 6], [3, 6]), ([0, 7, 6], [0, 7]), ([8, 8, 0, 1, 2, 3, 4, 5, 6, 7, 8], [8]), ([9, 0, 1, 2, 3, 4, 5, 6, 7, 8, 9], [])])) (bm 11 511) (bm 11 509) [77, 78, 79, 80, 81, 82, 83, 84, 85] (fun j u w' => match j with
  | 0 => u = .agg #[.int .i64 A, .int .i64 X, .int .i64 S, .int .i64 P, .bool Z, .bool N, .bool C, .bool I]
  | 1 => u = .pointer (some ⟨g3, 0, none⟩)
  | 2 => u = .int .i64 A
  | 3 => u = .int .i64 ba
  | 4 => u = .pointer (some ⟨g4, 1, none⟩)
  | 5 => u = .int .i64 arg
  | 6 => u = .int .i64 bb
  | 7 => u = .int .i64 (Go.bits .xor .i64 ba bb)
  | 8 => u = .agg #[.int .i64 s1, .int .i64 X, .int .i64 S, .int .i64 P, .bool sz, .bool sn, .bool C, .bool I]
  | _ => False)
  (by kernel_rfl) rfl (by kernel_rfl) (by kernel_rfl) (by kernel_rfl) (by kernel_rfl) (fun _ _ _ _ h => h) ?stalu8 ?spalu8 ?laalu8 ?enalu8
 case stalu8 =>
  intro j u W W' h hb
  exact h
 case spalu8 =>
  intro i hi o ho a W hB hout hneed K hK
  have HBW := am hB
  have hcase : i = 0 ∨ i = 1 ∨ i = 2 ∨ i = 3 ∨ i = 4 ∨ i = 5 ∨ i = 6 ∨ i = 7 ∨ i = 8 := by omega
  clear hB
  rcases hcase with rfl | rfl | rfl | rfl | rfl | rfl | rfl | rfl | rfl
  ·obtain rfl := oj ho
   have h3 : a.eval (.tmp 3) = .pointer (some ⟨g3, 0, none⟩) := hout 3 (by decide)
   have h3' := eval_get h3
   have hb := blk_below (w := w3.drew) HC.out HBW.out
   obtain ⟨⟨d0, d1, d2, d3, d4, d5, d6, d7⟩, -⟩ := cells8 hb
   exact va_ (.agg #[.int .i64 A, .int .i64 X, .int .i64 S, .int .i64 P, .bool Z, .bool N, .bool C, .bool I]) hK rfl
  ·obtain rfl := oj ho
   have h3 : a.eval (.tmp 3) = .pointer (some ⟨g3, 0, none⟩) := hout 3 (by decide)
   have h3' := eval_get h3
   exact va_ (.pointer (some ⟨g3, 0, none⟩)) hK rfl
  ·obtain rfl := oj ho
   obtain ⟨e1, e1'⟩ := eg (show a.eval (.tmp 78) = _ from hneed 1 (by decide))
   have hb := blk_below (w := w3.drew) HC.out HBW.out
   have d0 := (blk_cell hb 0).trans rfl
   exact va_ (.int .i64 A) hK rfl
  ·obtain rfl := oj ho
   obtain ⟨e2, e2'⟩ := eg (show a.eval (.tmp 79) = _ from hneed 2 (by decide))
   refine goes_ Try.func71 (by kernel_rfl) rfl #[.int .i64 A] (by rfl) rfl rfl (by simp only [List.map_toArray, List.map_cons, List.map_nil, e2]) ?_
   refine (spec_Byte.calls A ba W Hba.out).mono ?_
   rintro e w' ⟨rfl, nd, rfl⟩
   exact ⟨_, rfl, hK.out _ _ (pw_below_drewN (Below.refl _ _) nd) rfl⟩
  ·obtain rfl := oj ho
   have h4 : a.eval (.tmp 4) = .pointer (some ⟨g4, 0, none⟩) := hout 4 (by decide)
   have h4' := eval_get h4
   exact va_ (.pointer (some ⟨g4, 1, none⟩)) hK rfl
  ·obtain rfl := oj ho
   obtain ⟨e4, e4'⟩ := eg (show a.eval (.tmp 81) = _ from hneed 4 (by decide))
   have hb := blk_below (w := w3.drew) HG.out HBW.out
   have d1 := (blk_cell hb 1).trans rfl
   exact va_ (.int .i64 arg) hK rfl
  ·obtain rfl := oj ho
   obtain ⟨e5, e5'⟩ := eg (show a.eval (.tmp 82) = _ from hneed 5 (by decide))
   refine goes_ Try.func71 (by kernel_rfl) rfl #[.int .i64 arg] (by rfl) rfl rfl (by simp only [List.map_toArray, List.map_cons, List.map_nil, e5]) ?_
   refine (spec_Byte.calls arg bb W Hbb.out).mono ?_
   rintro e w' ⟨rfl, nd, rfl⟩
   exact ⟨_, rfl, hK.out _ _ (pw_below_drewN (Below.refl _ _) nd) rfl⟩
  ·obtain rfl := oj ho
   obtain ⟨e3, e3'⟩ := eg (show a.eval (.tmp 80) = _ from hneed 3 (by decide))
   obtain ⟨e6, e6'⟩ := eg (show a.eval (.tmp 83) = _ from hneed 6 (by decide))
   exact va_ (.int .i64 (Go.bits .xor .i64 ba bb)) hK rfl
  ·obtain rfl := oj ho
   obtain ⟨e0, e0'⟩ := eg (show a.eval (.tmp 77) = _ from hneed 0 (by decide))
   obtain ⟨e7, e7'⟩ := eg (show a.eval (.tmp 84) = _ from hneed 7 (by decide))
   refine goes_ Try.func94 (by kernel_rfl) rfl #[.agg #[.int .i64 A, .int .i64 X, .int .i64 S, .int .i64 P, .bool Z, .bool N, .bool C, .bool I], .int .i64 (Go.bits .xor .i64 ba bb)] (by rfl) rfl rfl (by simp only [List.map_toArray, List.map_cons, List.map_nil, e0, e7]) ?_
   refine (spec_SetA.calls A X S P Z N C I _ s1 X S P sz sn C I W HF.out).mono ?_
   rintro e w' ⟨rfl, hb⟩
   exact ⟨_, rfl, hK.out _ _ hb rfl⟩
 case laalu8 =>
  intro o ho a W hout hneed
  obtain rfl := oj ho
  have h3 : a.eval (.tmp 3) = .pointer (some ⟨g3, 0, none⟩) := hout 3 (by decide)
  have h3' := eval_get h3
  refine ⟨.pointer (some ⟨g3, 0, none⟩), rfl, Or.inl ⟨by rfl, ?_⟩⟩
  intro w'
  go_simp
 intro f vs W2 hB hE
 have HBW := am hB
 clear hB
 have q0 : vs 0 = _ := hE 0 (by decide)
 have q1 : vs 1 = _ := hE 1 (by decide)
 have q2 : vs 2 = _ := hE 2 (by decide)
 have q3 : vs 3 = _ := hE 3 (by decide)
 have q4 : vs 4 = _ := hE 4 (by decide)
 have q5 : vs 5 = _ := hE 5 (by decide)
 have q6 : vs 6 = _ := hE 6 (by decide)
 have q7 : vs 7 = _ := hE 7 (by decide)
 have q8 : vs 8 = _ := hE 8 (by decide)
 show wpAnyLast _ _ _ _ _ _ (f + 2) _ (putAll _ [(77, vs 0), (78, vs 1), (79, vs 2), (80, vs 3), (81, vs 4), (82, vs 5), (83, vs 6), (84, vs 7), (85, vs 8)]) W2
 rw [q0, q1, q2, q3, q4, q5, q6, q7, q8]
 clear q0 q1 q2 q3 q4 q5 q6 q7 q8 hE
 refine norm_ (a' := ?_) ?_ ?_
 rotate_left
 ·simp only [putAll, Act.put, List.setIfInBounds_toArray, List.set_cons_zero, List.set_cons_succ]
  rfl
 refine ov_ 9 none (bm 11 1023) (fun K hK => ?_)
 refine skip_ (w1 := ?_) (by rfl) rfl ?_ ?_
 rotate_left
 ·skip
  have hcW := blk_below (w := w3.drew) HR.out HBW.out
  obtain ⟨⟨t0, t1, t2, t3, t4, t5, t6, t7⟩, ⟨ft0, ft1, ft2, ft3, ft4, ft5, ft6, ft7⟩⟩ := cells8 (hcW)
  go_simp
  rfl
 refine hK.out _ _ trivial (fun _ => ?_)
 clear hK K
 refine pv_ 10 (some 7) (bm 11 2047) ?_
 refine done_ (by kernel_rfl) ?_
 go_wp2
 refine bodyPost_ret (results_ct rfl _ _ g6 55 #[.int .i64 s1, .int .i64 X, .int .i64 S, .int .i64 P, .bool sz, .bool sn, .bool C, .bool I] (0, 0) _ rfl (put8 (blk_below (w := w3.drew) HR.out HBW.out) _ _ _ _ _ _ _ _) hu38 rfl (by kernel_rfl)) rfl ?_
 exact ⟨rfl, below8 (below_step (w := w) (W := w3.drew) (below_drew1 HB.out) HBW.out) G6.out _ _ _ _ _ _ _ _⟩
theorem alu_12 (A X S P : Int) (Z N C I : Bool) (arg v : Int) (w : World) :
  Calls Try.prog 90 #[.agg #[.int .i64 A, .int .i64 X, .int .i64 S, .int .i64 P, .bool Z, .bool N, .bool C, .bool I], .agg #[.int .i64 12, .int .i64 arg], .int .i64 v] w fun e w' => e = .returned (.tuple #[.agg (incS (⟨A, X, S, P, Z, N, C, I⟩ : Cp)).cells, .bool true]) ∧ Below w.heap.size w w' := by
 obtain ⟨bq, hbq, ebq⟩ := sbyte_ex X
 have Hbq := am hbq
 clear hbq
 obtain ⟨s1, sz, sn, hf, ek⟩ := setx_sx (⟨A, X, S, P, Z, N, C, I⟩ : Cp) (wrap64 (bq + 1))
 unfold incS
 simp only [ebq]
 rw [ek]
 clear ek ebq
 have HF := am hf
 clear hf
 have hu38 := Try.underlying55
 have hu68 := Try.underlying51
 go_enter Try.func90, Try.ntmps90
 go_wp2_with (first | ((with_reducible refine gd 3 ?_); refine bx (N := 3) (cs := #[.int .i64 A, .int .i64 X, .int .i64 S, .int .i64 P, .bool Z, .bool N, .bool C, .bool I]) (t := 55) ?_; intro g3 hg w1 hbox hb; have A3 := am hbox; have HB := am (below_step (Below.refl w.heap.size w) hb); have G3 : Aside0 (w.heap.size ≤ g3) := ⟨by rw [hg]; exact Nat.le_refl _⟩; clear hbox hb hg) | ((with_reducible refine gd 4 ?_); refine bx (N := 4) (cs := #[.int .i64 12, .int .i64 arg]) (t := 51) ?_; intro g4 hg w2 hbox hb; have B3 := am (blk_below A3.out hb); have B4 := am hbox; have HB2 := am (below_step HB.out hb); clear hbox hb hg A3 HB; have HB := HB2; clear HB2) | ((with_reducible refine gd 6 ?_); refine bz (N := 6) ?_; intro g6 hg w3 hbox hb; have n3 : g3 ≠ g6 := (by rw [hg]; exact Nat.ne_of_lt (blk_lt B3.out)); have n6 : g6 ≠ g3 := Ne.symm n3; have NE := am n6; have HC := am (blk_below B3.out hb); have HG := am (blk_below B4.out hb); have HR := am hbox; have G6 : Aside0 (w.heap.size ≤ g6) := ⟨by rw [hg]; exact below_size HB.out⟩; have HB2 := am (below_step HB.out hb); clear hbox hb hg B3 B4 HB; have HB := HB2; clear HB2; obtain ⟨⟨y0, y1, y2, y3, y4, y5, y6, y7⟩, ⟨fy0, fy1, fy2, fy3, fy4, fy5, fy6, fy7⟩⟩ := cells8 (HC.out); have z0 : w3.cell? ⟨g4, 0, none⟩ = some (.int .i64 12) := (blk_cell HG.out 0).trans rfl; have z1 : w3.cell? ⟨g4, 1, none⟩ = some (.int .i64 arg) := (blk_cell HG.out 1).trans rfl; obtain ⟨⟨r0, r1, r2, r3, r4, r5, r6, r7⟩, ⟨fr0, fr1, fr2, fr3, fr4, fr5, fr6, fr7⟩⟩ := cells8 (HR.out)))
 refine fre_ (n := 8) (e := 6) (g := 1) (T := (true, [([], []), ([], []), ([1], [1]), ([2], [2]), ([3], [3]), ([0, 4, 3], [0, 4]), ([5, 5, 0, 1, 2, 3, 4, 5], [5]), ([6, 0, 1, 2, 3, 4, 5, 6], [])])) (bm 8 63) (bm 8 61) [124, 125, 126, 127, 128, 129] (fun j u w' => match j with
  | 0 => u = .agg #[.int .i64 A, .int .i64 X, .int .i64 S, .int .i64 P, .bool Z, .bool N, .bool C, .bool I]
  | 1 => u = .pointer (some ⟨g3, 1, none⟩)
  | 2 => u = .int .i64 X
  | 3 => u = .int .i64 bq
  | 4 => u = .int .i64 (wrap64 (bq + 1))
  | 5 => u = .agg #[.int .i64 A, .int .i64 s1, .int .i64 S, .int .i64 P, .bool sz, .bool sn, .bool C, .bool I]
  | _ => False)
  (by kernel_rfl) rfl (by kernel_rfl) (by kernel_rfl) (by kernel_rfl) (by kernel_rfl) (fun _ _ _ _ h => h) ?stalu12 ?spalu12 ?laalu12 ?enalu12
 case stalu12 =>
  intro j u W W' h hb
  exact h
 case spalu12 =>
  intro i hi o ho a W hB hout hneed K hK
  have HBW := am hB
  have hcase : i = 0 ∨ i = 1 ∨ i = 2 ∨ i = 3 ∨ i = 4 ∨ i = 5 := by omega
  clear hB
  rcases hcase with rfl | rfl | rfl | rfl | rfl | rfl
  ·obtain rfl := oj ho
   have h3 : a.eval (.tmp 3) = .pointer (some ⟨g3, 0, none⟩) := hout 3 (by decide)
   have h3' := eval_get h3
   have hb := blk_below (w := w3.drew) HC.out HBW.out
   obtain ⟨⟨d0, d1, d2, d3, d4, d5, d6, d7⟩, -⟩ := cells8 hb
   exact va_ (.agg #[.int .i64 A, .int .i64 X, .int .i64 S, .int .i64 P, .bool Z, .bool N, .bool C, .bool I]) hK rfl
  ·obtain rfl := oj ho
   have h3 : a.eval (.tmp 3) = .pointer (some ⟨g3, 0, none⟩) := hout 3 (by decide)
   have h3' := eval_get h3
   exact va_ (.pointer (some ⟨g3, 1, none⟩)) hK rfl
  ·obtain rfl := oj ho
   obtain ⟨e1, e1'⟩ := eg (show a.eval (.tmp 125) = _ from hneed 1 (by decide))
   have hb := blk_below (w := w3.drew) HC.out HBW.out
   have d1 := (blk_cell hb 1).trans rfl
   exact va_ (.int .i64 X) hK rfl
  ·obtain rfl := oj ho
   obtain ⟨e2, e2'⟩ := eg (show a.eval (.tmp 126) = _ from hneed 2 (by decide))
   refine goes_ Try.func71 (by kernel_rfl) rfl #[.int .i64 X] (by rfl) rfl rfl (by simp only [List.map_toArray, List.map_cons, List.map_nil, e2]) ?_
   refine (spec_Byte.calls X bq W Hbq.out).mono ?_
   rintro e w' ⟨rfl, nd, rfl⟩
   exact ⟨_, rfl, hK.out _ _ (pw_below_drewN (Below.refl _ _) nd) rfl⟩
  ·obtain rfl := oj ho
   obtain ⟨e3, e3'⟩ := eg (show a.eval (.tmp 127) = _ from hneed 3 (by decide))
   exact va_ (.int .i64 (wrap64 (bq + 1))) hK rfl (by go_simp; first | done | rfl | simp only [i64_w])
  ·obtain rfl := oj ho
   obtain ⟨e0, e0'⟩ := eg (show a.eval (.tmp 124) = _ from hneed 0 (by decide))
   obtain ⟨e4, e4'⟩ := eg (show a.eval (.tmp 128) = _ from hneed 4 (by decide))
   refine goes_ Try.func115 (by kernel_rfl) rfl #[.agg #[.int .i64 A, .int .i64 X, .int .i64 S, .int .i64 P, .bool Z, .bool N, .bool C, .bool I], .int .i64 (wrap64 (bq + 1))] (by rfl) rfl rfl (by simp only [List.map_toArray, List.map_cons, List.map_nil, e0, e4]) ?_
   refine (spec_SetX.calls A X S P Z N C I _ A s1 S P sz sn C I W HF.out).mono ?_
   rintro e w' ⟨rfl, hb⟩
   exact ⟨_, rfl, hK.out _ _ hb rfl⟩
 case laalu12 =>
  intro o ho a W hout hneed
  obtain rfl := oj ho
  have h3 : a.eval (.tmp 3) = .pointer (some ⟨g3, 0, none⟩) := hout 3 (by decide)
  have h3' := eval_get h3
  refine ⟨.pointer (some ⟨g3, 1, none⟩), rfl, Or.inl ⟨by rfl, ?_⟩⟩
  intro w'
  go_simp
 intro f vs W2 hB hE
 have HBW := am hB
 clear hB
 have q0 : vs 0 = _ := hE 0 (by decide)
 have q1 : vs 1 = _ := hE 1 (by decide)
 have q2 : vs 2 = _ := hE 2 (by decide)
 have q3 : vs 3 = _ := hE 3 (by decide)
 have q4 : vs 4 = _ := hE 4 (by decide)
 have q5 : vs 5 = _ := hE 5 (by decide)
 show wpAnyLast _ _ _ _ _ _ (f + 2) _ (putAll _ [(124, vs 0), (125, vs 1), (126, vs 2), (127, vs 3), (128, vs 4), (129, vs 5)]) W2
 rw [q0, q1, q2, q3, q4, q5]
 clear q0 q1 q2 q3 q4 q5 hE
 refine norm_ (a' := ?_) ?_ ?_
 rotate_left
 ·simp only [putAll, Act.put, List.setIfInBounds_toArray, List.set_cons_zero, List.set_cons_succ]
  rfl
 refine ov_ 6 none (bm 8 127) (fun K hK => ?_)
 refine skip_ (w1 := ?_) (by rfl) rfl ?_ ?_
 rotate_left
 ·skip
  have hcW := blk_below (w := w3.drew) HR.out HBW.out
  obtain ⟨⟨t0, t1, t2, t3, t4, t5, t6, t7⟩, ⟨ft0, ft1, ft2, ft3, ft4, ft5, ft6, ft7⟩⟩ := cells8 (hcW)
  go_simp
  rfl
 refine hK.out _ _ trivial (fun _ => ?_)
 clear hK K
 refine pv_ 7 (some 7) (bm 8 255) ?_
 refine done_ (by kernel_rfl) ?_
 go_wp2
 refine bodyPost_ret (results_ct rfl _ _ g6 55 #[.int .i64 A, .int .i64 s1, .int .i64 S, .int .i64 P, .bool sz, .bool sn, .bool C, .bool I] (0, 0) _ rfl (put8 (blk_below (w := w3.drew) HR.out HBW.out) _ _ _ _ _ _ _ _) hu38 rfl (by kernel_rfl)) rfl ?_
 exact ⟨rfl, below8 (below_step (w := w) (W := w3.drew) (below_drew1 HB.out) HBW.out) G6.out _ _ _ _ _ _ _ _⟩
theorem alu_13 (A X S P : Int) (Z N C I : Bool) (arg v : Int) (w : World) :
  Calls Try.prog 90 #[.agg #[.int .i64 A, .int .i64 X, .int .i64 S, .int .i64 P, .bool Z, .bool N, .bool C, .bool I], .agg #[.int .i64 13, .int .i64 arg], .int .i64 v] w fun e w' => e = .returned (.tuple #[.agg (decS (⟨A, X, S, P, Z, N, C, I⟩ : Cp)).cells, .bool true]) ∧ Below w.heap.size w w' := by
 obtain ⟨bq, hbq, ebq⟩ := sbyte_ex X
 have Hbq := am hbq
 clear hbq
 obtain ⟨s1, sz, sn, hf, ek⟩ := setx_sx (⟨A, X, S, P, Z, N, C, I⟩ : Cp) (wrap64 (bq - 1))
 unfold decS
 simp only [ebq]
 rw [ek]
 clear ek ebq
 have HF := am hf
 clear hf
 have hu38 := Try.underlying55
 have hu68 := Try.underlying51
 go_enter Try.func90, Try.ntmps90
 go_wp2_with (first | ((with_reducible refine gd 3 ?_); refine bx (N := 3) (cs := #[.int .i64 A, .int .i64 X, .int .i64 S, .int .i64 P, .bool Z, .bool N, .bool C, .bool I]) (t := 55) ?_; intro g3 hg w1 hbox hb; have A3 := am hbox; have HB := am (below_step (Below.refl w.heap.size w) hb); have G3 : Aside0 (w.heap.size ≤ g3) := ⟨by rw [hg]; exact Nat.le_refl _⟩; clear hbox hb hg) | ((with_reducible refine gd 4 ?_); refine bx (N := 4) (cs := #[.int .i64 13, .int .i64 arg]) (t := 51) ?_; intro g4 hg w2 hbox hb; have B3 := am (blk_below A3.out hb); have B4 := am hbox; have HB2 := am (below_step HB.out hb); clear hbox hb hg A3 HB; have HB := HB2; clear HB2) | ((with_reducible refine gd 6 ?_); refine bz (N := 6) ?_; intro g6 hg w3 hbox hb; have n3 : g3 ≠ g6 := (by rw [hg]; exact Nat.ne_of_lt (blk_lt B3.out)); have n6 : g6 ≠ g3 := Ne.symm n3; have NE := am n6; have HC := am (blk_below B3.out hb); have HG := am (blk_below B4.out hb); have HR := am hbox; have G6 : Aside0 (w.heap.size ≤ g6) := ⟨by rw [hg]; exact below_size HB.out⟩; have HB2 := am (below_step HB.out hb); clear hbox hb hg B3 B4 HB; have HB := HB2; clear HB2; obtain ⟨⟨y0, y1, y2, y3, y4, y5, y6, y7⟩, ⟨fy0, fy1, fy2, fy3, fy4, fy5, fy6, fy7⟩⟩ := cells8 (HC.out); have z0 : w3.cell? ⟨g4, 0, none⟩ = some (.int .i64 13) := (blk_cell HG.out 0).trans rfl; have z1 : w3.cell? ⟨g4, 1, none⟩ = some (.int .i64 arg) := (blk_cell HG.out 1).trans rfl; obtain ⟨⟨r0, r1, r2, r3, r4, r5, r6, r7⟩, ⟨fr0, fr1, fr2, fr3, fr4, fr5, fr6, fr7⟩⟩ := cells8 (HR.out)))
 refine fre_ (n := 8) (e := 6) (g := 1) (T := (true, [([], []), ([], []), ([1], [1]), ([2], [2]), ([3], [3]), ([0, 4, 3], [0, 4]), ([5, 5, 0, 1, 2, 3, 4, 5], [5]), ([6, 0, 1, 2, 3, 4, 5, 6], [])])) (bm 8 63) (bm 8 61) [132, 133, 134, 135, 136, 137] (fun j u w' => match j with
  | 0 => u = .agg #[.int .i64 A, .int .i64 X, .int .i64 S, .int .i64 P, .bool Z, .bool N, .bool C, .bool I]
  | 1 => u = .pointer (some ⟨g3, 1, none⟩)
  | 2 => u = .int .i64 X
  | 3 => u = .int .i64 bq
  | 4 => u = .int .i64 (wrap64 (bq - 1))
  | 5 => u = .agg #[.int .i64 A, .int .i64 s1, .int .i64 S, .int .i64 P, .bool sz, .bool sn, .bool C, .bool I]
  | _ => False)
  (by kernel_rfl) rfl (by kernel_rfl) (by kernel_rfl) (by kernel_rfl) (by kernel_rfl) (fun _ _ _ _ h => h) ?stalu13 ?spalu13 ?laalu13 ?enalu13
 case stalu13 =>
  intro j u W W' h hb
  exact h
 case spalu13 =>
  intro i hi o ho a W hB hout hneed K hK
  have HBW := am hB
  have hcase : i = 0 ∨ i = 1 ∨ i = 2 ∨ i = 3 ∨ i = 4 ∨ i = 5 := by omega
  clear hB
  rcases hcase with rfl | rfl | rfl | rfl | rfl | rfl
  ·obtain rfl := oj ho
   have h3 : a.eval (.tmp 3) = .pointer (some ⟨g3, 0, none⟩) := hout 3 (by decide)
   have h3' := eval_get h3
   have hb := blk_below (w := w3.drew) HC.out HBW.out
   obtain ⟨⟨d0, d1, d2, d3, d4, d5, d6, d7⟩, -⟩ := cells8 hb
   exact va_ (.agg #[.int .i64 A, .int .i64 X, .int .i64 S, .int .i64 P, .bool Z, .bool N, .bool C, .bool I]) hK rfl
  ·obtain rfl := oj ho
   have h3 : a.eval (.tmp 3) = .pointer (some ⟨g3, 0, none⟩) := hout 3 (by decide)
   have h3' := eval_get h3
   exact va_ (.pointer (some ⟨g3, 1, none⟩)) hK rfl
  ·obtain rfl := oj ho
   obtain ⟨e1, e1'⟩ := eg (show a.eval (.tmp 133) = _ from hneed 1 (by decide))
   have hb := blk_below (w := w3.drew) HC.out HBW.out
   have d1 := (blk_cell hb 1).trans rfl
   exact va_ (.int .i64 X) hK rfl
  ·obtain rfl := oj ho
   obtain ⟨e2, e2'⟩ := eg (show a.eval (.tmp 134) = _ from hneed 2 (by decide))
   refine goes_ Try.func71 (by kernel_rfl) rfl #[.int .i64 X] (by rfl) rfl rfl (by simp only [List.map_toArray, List.map_cons, List.map_nil, e2]) ?_
   refine (spec_Byte.calls X bq W Hbq.out).mono ?_
   rintro e w' ⟨rfl, nd, rfl⟩
   exact ⟨_, rfl, hK.out _ _ (pw_below_drewN (Below.refl _ _) nd) rfl⟩
  ·obtain rfl := oj ho
   obtain ⟨e3, e3'⟩ := eg (show a.eval (.tmp 135) = _ from hneed 3 (by decide))
   exact va_ (.int .i64 (wrap64 (bq - 1))) hK rfl (by go_simp; first | done | rfl | simp only [i64_w])
  ·obtain rfl := oj ho
   obtain ⟨e0, e0'⟩ := eg (show a.eval (.tmp 132) = _ from hneed 0 (by decide))
   obtain ⟨e4, e4'⟩ := eg (show a.eval (.tmp 136) = _ from hneed 4 (by decide))
   refine goes_ Try.func115 (by kernel_rfl) rfl #[.agg #[.int .i64 A, .int .i64 X, .int .i64 S, .int .i64 P, .bool Z, .bool N, .bool C, .bool I], .int .i64 (wrap64 (bq - 1))] (by rfl) rfl rfl (by simp only [List.map_toArray, List.map_cons, List.map_nil, e0, e4]) ?_
   refine (spec_SetX.calls A X S P Z N C I _ A s1 S P sz sn C I W HF.out).mono ?_
   rintro e w' ⟨rfl, hb⟩
   exact ⟨_, rfl, hK.out _ _ hb rfl⟩
 case laalu13 =>
  intro o ho a W hout hneed
  obtain rfl := oj ho
  have h3 : a.eval (.tmp 3) = .pointer (some ⟨g3, 0, none⟩) := hout 3 (by decide)
  have h3' := eval_get h3
  refine ⟨.pointer (some ⟨g3, 1, none⟩), rfl, Or.inl ⟨by rfl, ?_⟩⟩
  intro w'
  go_simp
 intro f vs W2 hB hE
 have HBW := am hB
 clear hB
 have q0 : vs 0 = _ := hE 0 (by decide)
 have q1 : vs 1 = _ := hE 1 (by decide)
 have q2 : vs 2 = _ := hE 2 (by decide)
 have q3 : vs 3 = _ := hE 3 (by decide)
 have q4 : vs 4 = _ := hE 4 (by decide)
 have q5 : vs 5 = _ := hE 5 (by decide)
 show wpAnyLast _ _ _ _ _ _ (f + 2) _ (putAll _ [(132, vs 0), (133, vs 1), (134, vs 2), (135, vs 3), (136, vs 4), (137, vs 5)]) W2
 rw [q0, q1, q2, q3, q4, q5]
 clear q0 q1 q2 q3 q4 q5 hE
 refine norm_ (a' := ?_) ?_ ?_
 rotate_left
 ·simp only [putAll, Act.put, List.setIfInBounds_toArray, List.set_cons_zero, List.set_cons_succ]
  rfl
 refine ov_ 6 none (bm 8 127) (fun K hK => ?_)
 refine skip_ (w1 := ?_) (by rfl) rfl ?_ ?_
 rotate_left
 ·skip
  have hcW := blk_below (w := w3.drew) HR.out HBW.out
  obtain ⟨⟨t0, t1, t2, t3, t4, t5, t6, t7⟩, ⟨ft0, ft1, ft2, ft3, ft4, ft5, ft6, ft7⟩⟩ := cells8 (hcW)
  go_simp
  rfl
 refine hK.out _ _ trivial (fun _ => ?_)
 clear hK K
 refine pv_ 7 (some 7) (bm 8 255) ?_
 refine done_ (by kernel_rfl) ?_
 go_wp2
 refine bodyPost_ret (results_ct rfl _ _ g6 55 #[.int .i64 A, .int .i64 s1, .int .i64 S, .int .i64 P, .bool sz, .bool sn, .bool C, .bool I] (0, 0) _ rfl (put8 (blk_below (w := w3.drew) HR.out HBW.out) _ _ _ _ _ _ _ _) hu38 rfl (by kernel_rfl)) rfl ?_
 exact ⟨rfl, below8 (below_step (w := w) (W := w3.drew) (below_drew1 HB.out) HBW.out) G6.out _ _ _ _ _ _ _ _⟩
theorem alu_5 (A X S P : Int) (Z N C I : Bool) (arg v : Int) (w : World) :
  Calls Try.prog 90 #[.agg #[.int .i64 A, .int .i64 X, .int .i64 S, .int .i64 P, .bool Z, .bool N, .bool C, .bool I], .agg #[.int .i64 5, .int .i64 arg], .int .i64 v] w fun e w' => e = .returned (.tuple #[.agg (subS (⟨A, X, S, P, Z, N, C, I⟩ : Cp) arg).cells, .bool true]) ∧ Below w.heap.size w w' := by
 obtain ⟨sm, cy, s1, sz, sn, ha, hf, ek⟩ := ssubK_ex (⟨A, X, S, P, Z, N, C, I⟩ : Cp) arg
 rw [ek]
 clear ek
 have HA := am ha
 have HF := am hf
 clear ha hf
 have hu38 := Try.underlying55
 have hu68 := Try.underlying51
 go_enter Try.func90, Try.ntmps90
 go_upto_region 15 with (first | ((with_reducible refine gd 3 ?_); refine bx (N := 3) (cs := #[.int .i64 A, .int .i64 X, .int .i64 S, .int .i64 P, .bool Z, .bool N, .bool C, .bool I]) (t := 55) ?_; intro g3 hg w1 hbox hb; have A3 := am hbox; have HB := am (below_step (Below.refl w.heap.size w) hb); have G3 : Aside0 (w.heap.size ≤ g3) := ⟨by rw [hg]; exact Nat.le_refl _⟩; clear hbox hb hg) | ((with_reducible refine gd 4 ?_); refine bx (N := 4) (cs := #[.int .i64 5, .int .i64 arg]) (t := 51) ?_; intro g4 hg w2 hbox hb; have B3 := am (blk_below A3.out hb); have B4 := am hbox; have HB2 := am (below_step HB.out hb); clear hbox hb hg A3 HB; have HB := HB2; clear HB2) | ((with_reducible refine gd 6 ?_); refine bz (N := 6) ?_; intro g6 hg w3 hbox hb; have n3 : g3 ≠ g6 := (by rw [hg]; exact Nat.ne_of_lt (blk_lt B3.out)); have n6 : g6 ≠ g3 := Ne.symm n3; have NE := am n6; have HC := am (blk_below B3.out hb); have HG := am (blk_below B4.out hb); have HR := am hbox; have G6 : Aside0 (w.heap.size ≤ g6) := ⟨by rw [hg]; exact below_size HB.out⟩; have HB2 := am (below_step HB.out hb); clear hbox hb hg B3 B4 HB; have HB := HB2; clear HB2; obtain ⟨⟨y0, y1, y2, y3, y4, y5, y6, y7⟩, ⟨fy0, fy1, fy2, fy3, fy4, fy5, fy6, fy7⟩⟩ := cells8 (HC.out); have z0 : w3.cell? ⟨g4, 0, none⟩ = some (.int .i64 5) := (blk_cell HG.out 0).trans rfl; have z1 : w3.cell? ⟨g4, 1, none⟩ = some (.int .i64 arg) := (blk_cell HG.out 1).trans rfl; obtain ⟨⟨r0, r1, r2, r3, r4, r5, r6, r7⟩, ⟨fr0, fr1, fr2, fr3, fr4, fr5, fr6, fr7⟩⟩ := cells8 (HR.out)) | (go_at_call 113; refine (spec_Sub8.calls A arg C sm cy _ HA.out).mono ?_; rintro e w4 ⟨rfl, nd, rfl⟩) | (go_at_call 94; refine (spec_SetA.calls A X S P Z N C I _ s1 X S P sz sn C I _ HF.out).mono ?_; rintro e w5 ⟨rfl, hb⟩; have HC2 := am (blk_below (w := w3.drewN nd) HC.out hb); have HR2 := am (blk_below (w := w3.drewN nd) HR.out hb); have HB2 := am (below_step (pw_below_drewN HB.out nd) hb); clear hb; obtain ⟨⟨u0, u1, u2, u3, u4, u5, u6, u7⟩, ⟨fu0, fu1, fu2, fu3, fu4, fu5, fu6, fu7⟩⟩ := cells8 (HC2.out); obtain ⟨⟨sc0, sc1, sc2, sc3, sc4, sc5, sc6, sc7⟩, ⟨fsc0, fsc1, fsc2, fsc3, fsc4, fsc5, fsc6, fsc7⟩⟩ := cells8 (HR2.out)))
 have HC3 : Aside0 ((((((((((w5.setCell ⟨g3, 0, none⟩ (.int .i64 s1)).setCell ⟨g3, 1, none⟩ (.int .i64 X)).setCell ⟨g3, 2, none⟩ (.int .i64 S)).setCell ⟨g3, 3, none⟩ (.int .i64 P)).setCell ⟨g3, 4, none⟩ (.bool sz)).setCell ⟨g3, 5, none⟩ (.bool sn)).setCell ⟨g3, 6, none⟩ (.bool C)).setCell ⟨g3, 7, none⟩ (.bool I)).setCell ⟨g3, 6, none⟩ (.bool cy)).heap[g3]? = some (.cells #[.int .i64 s1, .int .i64 X, .int .i64 S, .int .i64 P, .bool sz, .bool sn, .bool cy, .bool I] 55 (0, 0))) := ⟨blk_put (put8 HC2.out _ _ _ _ _ _ _ _) 6 _ rfl⟩
 have HR3 : Aside0 ((((((((((w5.setCell ⟨g3, 0, none⟩ (.int .i64 s1)).setCell ⟨g3, 1, none⟩ (.int .i64 X)).setCell ⟨g3, 2, none⟩ (.int .i64 S)).setCell ⟨g3, 3, none⟩ (.int .i64 P)).setCell ⟨g3, 4, none⟩ (.bool sz)).setCell ⟨g3, 5, none⟩ (.bool sn)).setCell ⟨g3, 6, none⟩ (.bool C)).setCell ⟨g3, 7, none⟩ (.bool I)).setCell ⟨g3, 6, none⟩ (.bool cy)).heap[g6]? = some (.cells #[.int .i64 0, .int .i64 0, .int .i64 0, .int .i64 0, .bool false, .bool false, .bool false, .bool false] 55 (0, 0))) := ⟨far9 HR2.out NE.out _ _ _ _ _ _ _ _ _⟩
 have HB3 : Aside0 (Below w.heap.size w (((((((((w5.setCell ⟨g3, 0, none⟩ (.int .i64 s1)).setCell ⟨g3, 1, none⟩ (.int .i64 X)).setCell ⟨g3, 2, none⟩ (.int .i64 S)).setCell ⟨g3, 3, none⟩ (.int .i64 P)).setCell ⟨g3, 4, none⟩ (.bool sz)).setCell ⟨g3, 5, none⟩ (.bool sn)).setCell ⟨g3, 6, none⟩ (.bool C)).setCell ⟨g3, 7, none⟩ (.bool I)).setCell ⟨g3, 6, none⟩ (.bool cy))) := ⟨below_set (below8 HB2.out G3.out _ _ _ _ _ _ _ _) G3.out⟩
 generalize (((((((((w5.setCell ⟨g3, 0, none⟩ (.int .i64 s1)).setCell ⟨g3, 1, none⟩ (.int .i64 X)).setCell ⟨g3, 2, none⟩ (.int .i64 S)).setCell ⟨g3, 3, none⟩ (.int .i64 P)).setCell ⟨g3, 4, none⟩ (.bool sz)).setCell ⟨g3, 5, none⟩ (.bool sn)).setCell ⟨g3, 6, none⟩ (.bool C)).setCell ⟨g3, 7, none⟩ (.bool I)).setCell ⟨g3, 6, none⟩ (.bool cy)) = w6 at HC3 HR3 HB3 ⊢
 obtain ⟨⟨wc0, wc1, wc2, wc3, wc4, wc5, wc6, wc7⟩, ⟨fwc0, fwc1, fwc2, fwc3, fwc4, fwc5, fwc6, fwc7⟩⟩ := cells8 (HC3.out)
 obtain ⟨⟨wr0, wr1, wr2, wr3, wr4, wr5, wr6, wr7⟩, ⟨fwr0, fwr1, fwr2, fwr3, fwr4, fwr5, fwr6, fwr7⟩⟩ := cells8 (HR3.out)
 go_wp2
 refine bodyPost_ret (results_ct rfl _ _ g6 55 #[.int .i64 s1, .int .i64 X, .int .i64 S, .int .i64 P, .bool sz, .bool sn, .bool cy, .bool I] (0, 0) _ rfl (put8 HR3.out _ _ _ _ _ _ _ _) hu38 rfl (by kernel_rfl)) rfl ?_
 exact ⟨rfl, below8 HB3.out G6.out _ _ _ _ _ _ _ _⟩
theorem alu_9 (A X S P : Int) (Z N C I : Bool) (arg v : Int) (w : World) :
  Calls Try.prog 90 #[.agg #[.int .i64 A, .int .i64 X, .int .i64 S, .int .i64 P, .bool Z, .bool N, .bool C, .bool I], .agg #[.int .i64 9, .int .i64 arg], .int .i64 v] w fun e w' => e = .returned (.tuple #[.agg (cmpS (⟨A, X, S, P, Z, N, C, I⟩ : Cp) arg).cells, .bool true]) ∧ Below w.heap.size w w' := by
 obtain ⟨ba, hba, eba⟩ := sbyte_ex A
 have Hba := am hba
 clear hba
 obtain ⟨bb, hbb, ebb⟩ := sbyte_ex arg
 have Hbb := am hbb
 clear hbb
 obtain ⟨sz, sn, hs, e1, e2⟩ := ssigns_ex (wrap64 (ba - bb))
 unfold cmpS
 simp only [eba, ebb, e1, e2]
 clear eba ebb e1 e2
 have HS := am hs
 clear hs
 have hu38 := Try.underlying55
 have hu68 := Try.underlying51
 go_enter Try.func90, Try.ntmps90
 go_wp2_with (first | ((with_reducible refine gd 3 ?_); refine bx (N := 3) (cs := #[.int .i64 A, .int .i64 X, .int .i64 S, .int .i64 P, .bool Z, .bool N, .bool C, .bool I]) (t := 55) ?_; intro g3 hg w1 hbox hb; have A3 := am hbox; have HB := am (below_step (Below.refl w.heap.size w) hb); have G3 : Aside0 (w.heap.size ≤ g3) := ⟨by rw [hg]; exact Nat.le_refl _⟩; clear hbox hb hg) | ((with_reducible refine gd 4 ?_); refine bx (N := 4) (cs := #[.int .i64 9, .int .i64 arg]) (t := 51) ?_; intro g4 hg w2 hbox hb; have B3 := am (blk_below A3.out hb); have B4 := am hbox; have HB2 := am (below_step HB.out hb); clear hbox hb hg A3 HB; have HB := HB2; clear HB2) | ((with_reducible refine gd 6 ?_); refine bz (N := 6) ?_; intro g6 hg w3 hbox hb; have n3 : g3 ≠ g6 := (by rw [hg]; exact Nat.ne_of_lt (blk_lt B3.out)); have n6 : g6 ≠ g3 := Ne.symm n3; have NE := am n6; have HC := am (blk_below B3.out hb); have HG := am (blk_below B4.out hb); have HR := am hbox; have G6 : Aside0 (w.heap.size ≤ g6) := ⟨by rw [hg]; exact below_size HB.out⟩; have HB2 := am (below_step HB.out hb); clear hbox hb hg B3 B4 HB; have HB := HB2; clear HB2; obtain ⟨⟨y0, y1, y2, y3, y4, y5, y6, y7⟩, ⟨fy0, fy1, fy2, fy3, fy4, fy5, fy6, fy7⟩⟩ := cells8 (HC.out); have z0 : w3.cell? ⟨g4, 0, none⟩ = some (.int .i64 9) := (blk_cell HG.out 0).trans rfl; have z1 : w3.cell? ⟨g4, 1, none⟩ = some (.int .i64 arg) := (blk_cell HG.out 1).trans rfl; obtain ⟨⟨r0, r1, r2, r3, r4, r5, r6, r7⟩, ⟨fr0, fr1, fr2, fr3, fr4, fr5, fr6, fr7⟩⟩ := cells8 (HR.out)))
 refine fre_ (n := 15) (e := 11) (g := 10) (T := (true, [([], []), ([0], [0]), ([1], [1]), ([], []), ([3], [3]), ([4, 2], [4]), ([2, 5], [2, 5]), ([6, 5], [6]), ([7], [7]), ([8], [8]), ([8], [8]), ([0, 1, 2, 3, 4, 5, 6, 7, 8, 9], []), ([11, 9, 7, 0, 1, 2, 3, 4, 5, 6, 7, 8, 9], [9, 11]), ([0, 1, 2, 3, 4, 5, 6, 7, 8, 9, 10, 11, 12], []), ([13, 10, 12, 0, 1, 2, 3, 4, 5, 6, 7, 8, 9, 10, 11, 12], [10, 13])])) (bm 15 2047) (bm 15 1023) [89, 90, 91, 92, 93, 94, 95, 96, 88, 97, 98] (fun j u w' => match j with
  | 0 => u = .pointer (some ⟨g3, 0, none⟩)
  | 1 => u = .int .i64 A
  | 2 => u = .int .i64 ba
  | 3 => u = .pointer (some ⟨g4, 1, none⟩)
  | 4 => u = .int .i64 arg
  | 5 => u = .int .i64 bb
  | 6 => u = .int .i64 (wrap64 (ba - bb))
  | 7 => u = .tuple #[.bool sz, .bool sn]
  | 8 => u = .tuple #[.bool sz, .bool sn]
  | 9 => u = .bool sz
  | 10 => u = .bool sn
  | _ => False)
  (by kernel_rfl) rfl (by kernel_rfl) (by kernel_rfl) (by kernel_rfl) (by kernel_rfl) (fun _ _ _ _ h => h) ?stalu9a ?spalu9a ?laalu9a ?enalu9a
 case stalu9a =>
  intro j u W W' h hb
  exact h
 case spalu9a =>
  intro i hi o ho a W hB hout hneed K hK
  have HBW := am hB
  have hcase : i = 0 ∨ i = 1 ∨ i = 2 ∨ i = 3 ∨ i = 4 ∨ i = 5 ∨ i = 6 ∨ i = 7 ∨ i = 8 ∨ i = 9 ∨ i = 10 := by omega
  clear hB
  rcases hcase with rfl | rfl | rfl | rfl | rfl | rfl | rfl | rfl | rfl | rfl | rfl
  ·obtain rfl := oj ho
   have h3 : a.eval (.tmp 3) = .pointer (some ⟨g3, 0, none⟩) := hout 3 (by decide)
   have h3' := eval_get h3
   exact va_ (.pointer (some ⟨g3, 0, none⟩)) hK rfl
  ·obtain rfl := oj ho
   obtain ⟨e0, e0'⟩ := eg (show a.eval (.tmp 89) = _ from hneed 0 (by decide))
   have hb := blk_below (w := w3.drew) HC.out HBW.out
   have d0 := (blk_cell hb 0).trans rfl
   exact va_ (.int .i64 A) hK rfl
  ·obtain rfl := oj ho
   obtain ⟨e1, e1'⟩ := eg (show a.eval (.tmp 90) = _ from hneed 1 (by decide))
   refine goes_ Try.func71 (by kernel_rfl) rfl #[.int .i64 A] (by rfl) rfl rfl (by simp only [List.map_toArray, List.map_cons, List.map_nil, e1]) ?_
   refine (spec_Byte.calls A ba W Hba.out).mono ?_
   rintro e w' ⟨rfl, nd, rfl⟩
   exact ⟨_, rfl, hK.out _ _ (pw_below_drewN (Below.refl _ _) nd) rfl⟩
  ·obtain rfl := oj ho
   have h4 : a.eval (.tmp 4) = .pointer (some ⟨g4, 0, none⟩) := hout 4 (by decide)
   have h4' := eval_get h4
   exact va_ (.pointer (some ⟨g4, 1, none⟩)) hK rfl
  ·obtain rfl := oj ho
   obtain ⟨e3, e3'⟩ := eg (show a.eval (.tmp 92) = _ from hneed 3 (by decide))
   have hb := blk_below (w := w3.drew) HG.out HBW.out
   have d1 := (blk_cell hb 1).trans rfl
   exact va_ (.int .i64 arg) hK rfl
  ·obtain rfl := oj ho
   obtain ⟨e4, e4'⟩ := eg (show a.eval (.tmp 93) = _ from hneed 4 (by decide))
   refine goes_ Try.func71 (by kernel_rfl) rfl #[.int .i64 arg] (by rfl) rfl rfl (by simp only [List.map_toArray, List.map_cons, List.map_nil, e4]) ?_
   refine (spec_Byte.calls arg bb W Hbb.out).mono ?_
   rintro e w' ⟨rfl, nd, rfl⟩
   exact ⟨_, rfl, hK.out _ _ (pw_below_drewN (Below.refl _ _) nd) rfl⟩
  ·obtain rfl := oj ho
   obtain ⟨e2, e2'⟩ := eg (show a.eval (.tmp 91) = _ from hneed 2 (by decide))
   obtain ⟨e5, e5'⟩ := eg (show a.eval (.tmp 94) = _ from hneed 5 (by decide))
   exact va_ (.int .i64 (wrap64 (ba - bb))) hK rfl (by go_simp; first | done | rfl | simp only [i64_w])
  ·obtain rfl := oj ho
   obtain ⟨e6, e6'⟩ := eg (show a.eval (.tmp 95) = _ from hneed 6 (by decide))
   refine goes_ Try.func114 (by kernel_rfl) rfl #[.int .i64 (wrap64 (ba - bb))] (by rfl) rfl rfl (by simp only [List.map_toArray, List.map_cons, List.map_nil, e6]) ?_
   refine (spec_Signs.calls (wrap64 (ba - bb)) sz sn W HS.out).mono ?_
   rintro e w' ⟨rfl, nd, rfl⟩
   exact ⟨_, rfl, hK.out _ _ (pw_below_drewN (Below.refl _ _) nd) rfl⟩
  ·obtain rfl := oj ho
   obtain ⟨e7, e7'⟩ := eg (show a.eval (.tmp 96) = _ from hneed 7 (by decide))
   exact va_ (.tuple #[.bool sz, .bool sn]) hK rfl
  ·obtain rfl := oj ho
   obtain ⟨e8, e8'⟩ := eg (show a.eval (.tmp 88) = _ from hneed 8 (by decide))
   exact va_ (.bool sz) hK rfl
  ·obtain rfl := oj ho
   obtain ⟨e8, e8'⟩ := eg (show a.eval (.tmp 88) = _ from hneed 8 (by decide))
   exact va_ (.bool sn) hK rfl
 case laalu9a =>
  intro o ho a W hout hneed
  obtain rfl := oj ho
  obtain ⟨e8, e8'⟩ := eg (show a.eval (.tmp 88) = _ from hneed 8 (by decide))
  refine ⟨.bool sn, rfl, Or.inl ⟨by rfl, ?_⟩⟩
  intro w'
  go_simp
 intro f vs W2 hB hE
 have HBW := am hB
 clear hB
 have q0 : vs 0 = _ := hE 0 (by decide)
 have q1 : vs 1 = _ := hE 1 (by decide)
 have q2 : vs 2 = _ := hE 2 (by decide)
 have q3 : vs 3 = _ := hE 3 (by decide)
 have q4 : vs 4 = _ := hE 4 (by decide)
 have q5 : vs 5 = _ := hE 5 (by decide)
 have q6 : vs 6 = _ := hE 6 (by decide)
 have q7 : vs 7 = _ := hE 7 (by decide)
 have q8 : vs 8 = _ := hE 8 (by decide)
 have q9 : vs 9 = _ := hE 9 (by decide)
 have q10 : vs 10 = _ := hE 10 (by decide)
 show wpAnyLast _ _ _ _ _ _ (f + 4) _ (putAll _ [(89, vs 0), (90, vs 1), (91, vs 2), (92, vs 3), (93, vs 4), (94, vs 5), (95, vs 6), (96, vs 7), (88, vs 8), (97, vs 9), (98, vs 10)]) W2
 rw [q0, q1, q2, q3, q4, q5, q6, q7, q8, q9, q10]
 clear q0 q1 q2 q3 q4 q5 q6 q7 q8 q9 q10 hE
 refine norm_ (a' := ?_) ?_ ?_
 rotate_left
 ·simp only [putAll, Act.put, List.setIfInBounds_toArray, List.set_cons_zero, List.set_cons_succ]
  rfl
 refine pv_ 11 (some 99) (bm 15 4095) ?_
 refine ov_ 12 none (bm 15 8191) (fun K hK => ?_)
 refine skip_ (w1 := ?_) (by rfl) rfl ?_ ?_
 rotate_left
 ·skip
  have hcW := blk_below (w := w3.drew) HC.out HBW.out
  obtain ⟨⟨t0, t1, t2, t3, t4, t5, t6, t7⟩, ⟨ft0, ft1, ft2, ft3, ft4, ft5, ft6, ft7⟩⟩ := cells8 (hcW)
  go_simp
  rfl
 refine hK.out _ _ trivial (fun _ => ?_)
 clear hK K
 refine pv_ 13 (some 100) (bm 15 16383) ?_
 refine ov_ 14 none (bm 15 32767) (fun K hK => ?_)
 refine skip_ (w1 := ?_) (by rfl) rfl ?_ ?_
 rotate_left
 ·skip
  have hcW := blk_below (w := w3.drew) HC.out HBW.out
  have hcV := blk_put (cs' := #[.int .i64 A, .int .i64 X, .int .i64 S, .int .i64 P, .bool sz, .bool N, .bool C, .bool I]) hcW 4 (.bool sz) rfl
  obtain ⟨⟨t0, t1, t2, t3, t4, t5, t6, t7⟩, ⟨ft0, ft1, ft2, ft3, ft4, ft5, ft6, ft7⟩⟩ := cells8 (hcV)
  go_simp
  rfl
 refine hK.out _ _ trivial (fun _ => ?_)
 clear hK K
 refine done_ (by kernel_rfl) ?_
 have HC3 : Aside0 (((W2.setCell ⟨g3, 4, none⟩ (.bool sz)).setCell ⟨g3, 5, none⟩ (.bool sn)).heap[g3]? = some (.cells #[.int .i64 A, .int .i64 X, .int .i64 S, .int .i64 P, .bool sz, .bool sn, .bool C, .bool I] 55 (0, 0))) := ⟨blk_put (blk_put (blk_below (w := w3.drew) HC.out HBW.out) 4 _ rfl) 5 _ rfl⟩
 have HG3 : Aside0 (((W2.setCell ⟨g3, 4, none⟩ (.bool sz)).setCell ⟨g3, 5, none⟩ (.bool sn)).heap[g4]? = some (.cells #[.int .i64 9, .int .i64 arg] 51 (0, 0))) := ⟨blk_far (blk_far (blk_below (w := w3.drew) HG.out HBW.out) (blk_ne (blk_below (w := w3.drew) HG.out HBW.out) (blk_below (w := w3.drew) HC.out HBW.out) (by decide)) _) (blk_ne (blk_below (w := w3.drew) HG.out HBW.out) (blk_below (w := w3.drew) HC.out HBW.out) (by decide)) _⟩
 have HR3 : Aside0 (((W2.setCell ⟨g3, 4, none⟩ (.bool sz)).setCell ⟨g3, 5, none⟩ (.bool sn)).heap[g6]? = some (.cells #[.int .i64 0, .int .i64 0, .int .i64 0, .int .i64 0, .bool false, .bool false, .bool false, .bool false] 55 (0, 0))) := ⟨blk_far (blk_far (blk_below (w := w3.drew) HR.out HBW.out) NE.out _) NE.out _⟩
 have HB3 : Aside0 (Below w.heap.size w ((W2.setCell ⟨g3, 4, none⟩ (.bool sz)).setCell ⟨g3, 5, none⟩ (.bool sn))) := ⟨below_set (below_set (below_step (w := w) (W := w3.drew) (below_drew1 HB.out) HBW.out) G3.out) G3.out⟩
 generalize ((W2.setCell ⟨g3, 4, none⟩ (.bool sz)).setCell ⟨g3, 5, none⟩ (.bool sn)) = w6 at HC3 HG3 HR3 HB3 ⊢
 clear HC HG HR HB HBW
 have HC := HC3
 have HG := HG3
 have HR := HR3
 have HB := HB3
 clear HC3 HG3 HR3 HB3
 obtain ⟨⟨wc0, wc1, wc2, wc3, wc4, wc5, wc6, wc7⟩, ⟨fwc0, fwc1, fwc2, fwc3, fwc4, fwc5, fwc6, fwc7⟩⟩ := cells8 (HC.out)
 have wg0 : w6.cell? ⟨g4, 0, none⟩ = some (.int .i64 9) := (blk_cell HG.out 0).trans rfl
 have wg1 : w6.cell? ⟨g4, 1, none⟩ = some (.int .i64 arg) := (blk_cell HG.out 1).trans rfl
 go_wp2
 refine fre_ (n := 9) (e := 7) (g := 0) (T := (true, [([], []), ([0], [0]), ([1], [1]), ([], []), ([3], [3]), ([4, 2], [4]), ([2, 5], [2, 5]), ([0, 1, 2, 3, 4, 5, 6], []), ([7, 6, 5, 0, 1, 2, 3, 4, 5, 6], [6, 7])])) (bm 9 127) (bm 9 126) [101, 102, 103, 104, 105, 106, 107] (fun j u w' => match j with
  | 0 => u = .pointer (some ⟨g3, 0, none⟩)
  | 1 => u = .int .i64 A
  | 2 => u = .int .i64 ba
  | 3 => u = .pointer (some ⟨g4, 1, none⟩)
  | 4 => u = .int .i64 arg
  | 5 => u = .int .i64 bb
  | 6 => u = .bool (decide (ba ≥ bb))
  | _ => False)
  (by kernel_rfl) rfl (by kernel_rfl) (by kernel_rfl) (by kernel_rfl) (by kernel_rfl) (fun _ _ _ _ h => h) ?stalu9b ?spalu9b ?laalu9b ?enalu9b
 case stalu9b =>
  intro j u W W' h hb
  exact h
 case spalu9b =>
  intro i hi o ho a W hB hout hneed K hK
  have HBW := am hB
  have hcase : i = 0 ∨ i = 1 ∨ i = 2 ∨ i = 3 ∨ i = 4 ∨ i = 5 ∨ i = 6 := by omega
  clear hB
  rcases hcase with rfl | rfl | rfl | rfl | rfl | rfl | rfl
  ·obtain rfl := oj ho
   have h3 : a.eval (.tmp 3) = .pointer (some ⟨g3, 0, none⟩) := hout 3 (by decide)
   have h3' := eval_get h3
   exact va_ (.pointer (some ⟨g3, 0, none⟩)) hK rfl
  ·obtain rfl := oj ho
   obtain ⟨e0, e0'⟩ := eg (show a.eval (.tmp 101) = _ from hneed 0 (by decide))
   have hb := blk_below (w := w6.drew) HC.out HBW.out
   have d0 := (blk_cell hb 0).trans rfl
   exact va_ (.int .i64 A) hK rfl
  ·obtain rfl := oj ho
   obtain ⟨e1, e1'⟩ := eg (show a.eval (.tmp 102) = _ from hneed 1 (by decide))
   refine goes_ Try.func71 (by kernel_rfl) rfl #[.int .i64 A] (by rfl) rfl rfl (by simp only [List.map_toArray, List.map_cons, List.map_nil, e1]) ?_
   refine (spec_Byte.calls A ba W Hba.out).mono ?_
   rintro e w' ⟨rfl, nd, rfl⟩
   exact ⟨_, rfl, hK.out _ _ (pw_below_drewN (Below.refl _ _) nd) rfl⟩
  ·obtain rfl := oj ho
   have h4 : a.eval (.tmp 4) = .pointer (some ⟨g4, 0, none⟩) := hout 4 (by decide)
   have h4' := eval_get h4
   exact va_ (.pointer (some ⟨g4, 1, none⟩)) hK rfl
  ·obtain rfl := oj ho
   obtain ⟨e3, e3'⟩ := eg (show a.eval (.tmp 104) = _ from hneed 3 (by decide))
   have hb := blk_below (w := w6.drew) HG.out HBW.out
   have d1 := (blk_cell hb 1).trans rfl
   exact va_ (.int .i64 arg) hK rfl
  ·obtain rfl := oj ho
   obtain ⟨e4, e4'⟩ := eg (show a.eval (.tmp 105) = _ from hneed 4 (by decide))
   refine goes_ Try.func71 (by kernel_rfl) rfl #[.int .i64 arg] (by rfl) rfl rfl (by simp only [List.map_toArray, List.map_cons, List.map_nil, e4]) ?_
   refine (spec_Byte.calls arg bb W Hbb.out).mono ?_
   rintro e w' ⟨rfl, nd, rfl⟩
   exact ⟨_, rfl, hK.out _ _ (pw_below_drewN (Below.refl _ _) nd) rfl⟩
  ·obtain rfl := oj ho
   obtain ⟨e2, e2'⟩ := eg (show a.eval (.tmp 103) = _ from hneed 2 (by decide))
   obtain ⟨e5, e5'⟩ := eg (show a.eval (.tmp 106) = _ from hneed 5 (by decide))
   exact va_ (.bool (decide (ba ≥ bb))) hK rfl
   first | done | rfl
 case laalu9b =>
  intro o ho a W hout hneed
  obtain rfl := oj ho
  have h3 : a.eval (.tmp 3) = .pointer (some ⟨g3, 0, none⟩) := hout 3 (by decide)
  have h3' := eval_get h3
  refine ⟨.pointer (some ⟨g3, 0, none⟩), rfl, Or.inl ⟨by rfl, ?_⟩⟩
  intro w'
  go_simp
 intro f vs W2 hB hE
 have HBW := am hB
 clear hB
 have q0 : vs 0 = _ := hE 0 (by decide)
 have q1 : vs 1 = _ := hE 1 (by decide)
 have q2 : vs 2 = _ := hE 2 (by decide)
 have q3 : vs 3 = _ := hE 3 (by decide)
 have q4 : vs 4 = _ := hE 4 (by decide)
 have q5 : vs 5 = _ := hE 5 (by decide)
 have q6 : vs 6 = _ := hE 6 (by decide)
 show wpAnyLast _ _ _ _ _ _ (f + 2) _ (putAll _ [(101, vs 0), (102, vs 1), (103, vs 2), (104, vs 3), (105, vs 4), (106, vs 5), (107, vs 6)]) W2
 rw [q0, q1, q2, q3, q4, q5, q6]
 clear q0 q1 q2 q3 q4 q5 q6 hE
 refine norm_ (a' := ?_) ?_ ?_
 rotate_left
 ·simp only [putAll, Act.put, List.setIfInBounds_toArray, List.set_cons_zero, List.set_cons_succ]
  rfl
 refine pv_ 7 (some 108) (bm 9 255) ?_
 refine ov_ 8 none (bm 9 511) (fun K hK => ?_)
 refine skip_ (w1 := ?_) (by rfl) rfl ?_ ?_
 rotate_left
 ·skip
  have hcW := blk_below (w := w6.drew) HC.out HBW.out
  obtain ⟨⟨t0, t1, t2, t3, t4, t5, t6, t7⟩, ⟨ft0, ft1, ft2, ft3, ft4, ft5, ft6, ft7⟩⟩ := cells8 (hcW)
  go_simp
  rfl
 refine hK.out _ _ trivial (fun _ => ?_)
 clear hK K
 refine done_ (by kernel_rfl) ?_
 have HC3 : Aside0 ((W2.setCell ⟨g3, 6, none⟩ (.bool (decide (ba ≥ bb)))).heap[g3]? = some (.cells #[.int .i64 A, .int .i64 X, .int .i64 S, .int .i64 P, .bool sz, .bool sn, .bool (decide (ba ≥ bb)), .bool I] 55 (0, 0))) := ⟨blk_put (blk_below (w := w6.drew) HC.out HBW.out) 6 _ rfl⟩
 have HR3 : Aside0 ((W2.setCell ⟨g3, 6, none⟩ (.bool (decide (ba ≥ bb)))).heap[g6]? = some (.cells #[.int .i64 0, .int .i64 0, .int .i64 0, .int .i64 0, .bool false, .bool false, .bool false, .bool false] 55 (0, 0))) := ⟨blk_far (blk_below (w := w6.drew) HR.out HBW.out) NE.out _⟩
 have HB3 : Aside0 (Below w.heap.size w (W2.setCell ⟨g3, 6, none⟩ (.bool (decide (ba ≥ bb))))) := ⟨below_set (below_step (w := w) (W := w6.drew) (below_drew1 HB.out) HBW.out) G3.out⟩
 generalize (W2.setCell ⟨g3, 6, none⟩ (.bool (decide (ba ≥ bb)))) = w7 at HC3 HR3 HB3 ⊢
 obtain ⟨⟨xc0, xc1, xc2, xc3, xc4, xc5, xc6, xc7⟩, ⟨fxc0, fxc1, fxc2, fxc3, fxc4, fxc5, fxc6, fxc7⟩⟩ := cells8 (HC3.out)
 obtain ⟨⟨xr0, xr1, xr2, xr3, xr4, xr5, xr6, xr7⟩, ⟨fxr0, fxr1, fxr2, fxr3, fxr4, fxr5, fxr6, fxr7⟩⟩ := cells8 (HR3.out)
 go_wp2
 refine bodyPost_ret (results_ct rfl _ _ g6 55 #[.int .i64 A, .int .i64 X, .int .i64 S, .int .i64 P, .bool sz, .bool sn, .bool (decide (ba ≥ bb)), .bool I] (0, 0) _ rfl (put8 HR3.out _ _ _ _ _ _ _ _) hu38 rfl (by kernel_rfl)) rfl ?_
 exact ⟨rfl, below8 HB3.out G6.out _ _ _ _ _ _ _ _⟩
theorem alu_no (A X S P : Int) (Z N C I : Bool) (op arg v : Int) (n1 : (op == 1) = false) (n2 : (op == 2) = false) (n14 : (op == 14) = false) (n4 : (op == 4) = false) (n29 : (op == 29) = false) (n5 : (op == 5) = false) (n6 : (op == 6) = false) (n7 : (op == 7) = false) (n8 : (op == 8) = false) (n9 : (op == 9) = false) (n10 : (op == 10) = false) (n11 : (op == 11) = false) (n12 : (op == 12) = false) (n13 : (op == 13) = false) (w : World) :
  Calls Try.prog 90 #[.agg #[.int .i64 A, .int .i64 X, .int .i64 S, .int .i64 P, .bool Z, .bool N, .bool C, .bool I], .agg #[.int .i64 op, .int .i64 arg], .int .i64 v] w fun e w' => e = .returned (.tuple #[.agg (⟨A, X, S, P, Z, N, C, I⟩ : Cp).cells, .bool false]) ∧ Below w.heap.size w w' := by
 have hu38 := Try.underlying55
 have hu68 := Try.underlying51
 go_enter Try.func90, Try.ntmps90
 go_wp2_with (first | ((with_reducible refine gd 3 ?_); refine bx (N := 3) (cs := #[.int .i64 A, .int .i64 X, .int .i64 S, .int .i64 P, .bool Z, .bool N, .bool C, .bool I]) (t := 55) ?_; intro g3 hg w1 hbox hb; have A3 := am hbox; have HB := am (below_step (Below.refl w.heap.size w) hb); have G3 : Aside0 (w.heap.size ≤ g3) := ⟨by rw [hg]; exact Nat.le_refl _⟩; clear hbox hb hg) | ((with_reducible refine gd 4 ?_); refine bx (N := 4) (cs := #[.int .i64 op, .int .i64 arg]) (t := 51) ?_; intro g4 hg w2 hbox hb; have B3 := am (blk_below A3.out hb); have B4 := am hbox; have HB2 := am (below_step HB.out hb); clear hbox hb hg A3 HB; have HB := HB2; clear HB2) | ((with_reducible refine gd 6 ?_); refine bz (N := 6) ?_; intro g6 hg w3 hbox hb; have n3 : g3 ≠ g6 := (by rw [hg]; exact Nat.ne_of_lt (blk_lt B3.out)); have n6 : g6 ≠ g3 := Ne.symm n3; have NE := am n6; have HC := am (blk_below B3.out hb); have HG := am (blk_below B4.out hb); have HR := am hbox; have G6 : Aside0 (w.heap.size ≤ g6) := ⟨by rw [hg]; exact below_size HB.out⟩; have HB2 := am (below_step HB.out hb); clear hbox hb hg B3 B4 HB; have HB := HB2; clear HB2; obtain ⟨⟨y0, y1, y2, y3, y4, y5, y6, y7⟩, ⟨fy0, fy1, fy2, fy3, fy4, fy5, fy6, fy7⟩⟩ := cells8 (HC.out); have z0 : w3.cell? ⟨g4, 0, none⟩ = some (.int .i64 op) := (blk_cell HG.out 0).trans rfl; have z1 : w3.cell? ⟨g4, 1, none⟩ = some (.int .i64 arg) := (blk_cell HG.out 1).trans rfl; obtain ⟨⟨r0, r1, r2, r3, r4, r5, r6, r7⟩, ⟨fr0, fr1, fr2, fr3, fr4, fr5, fr6, fr7⟩⟩ := cells8 (HR.out)))
 refine bodyPost_ret (results_ct rfl _ _ g6 55 #[.int .i64 A, .int .i64 X, .int .i64 S, .int .i64 P, .bool Z, .bool N, .bool C, .bool I] (0, 0) _ rfl (put8 HR.out _ _ _ _ _ _ _ _) hu38 rfl (by kernel_rfl)) rfl ?_
 exact ⟨rfl, below8 HB.out G6.out _ _ _ _ _ _ _ _⟩
def aluF (k : Cp) (op arg v : Int) : Cp × Bool := if op = 1 then (setAK k arg, true) else if op = 2 then (setAK k v, true) else if op = 14 then (setAK k v, true) else if op = 4 then (addK k arg, true) else if op = 29 then (addK k v, true) else if op = 5 then (subS k arg, true) else if op = 6 then (andS k arg, true) else if op = 7 then (orS k arg, true) else if op = 8 then (xorS k arg, true) else if op = 9 then (cmpS k arg, true) else if op = 10 then (setXK k k.A, true) else if op = 11 then (setAK k k.X, true) else if op = 12 then (incS k, true) else if op = 13 then (decS k, true) else (k, false)
theorem alu_calls (k : Cp) (op arg v : Int) (w : World) :
  Calls Try.prog 90 #[.agg k.cells, .agg #[.int .i64 op, .int .i64 arg], .int .i64 v] w fun e w' => e = .returned (.tuple #[.agg (aluF k op arg v).1.cells, .bool (aluF k op arg v).2]) ∧ Below w.heap.size w w' := by
 obtain ⟨A, X, S, P, Z, N, C, I⟩ := k
 unfold aluF
 by_cases h1 : op = 1
 ·rw [if_pos h1, h1]
  exact alu_1 A X S P Z N C I arg v w
 rw [if_neg h1]
 by_cases h2 : op = 2
 ·rw [if_pos h2, h2]
  exact alu_2 A X S P Z N C I arg v w
 rw [if_neg h2]
 by_cases h14 : op = 14
 ·rw [if_pos h14, h14]
  exact alu_14 A X S P Z N C I arg v w
 rw [if_neg h14]
 by_cases h4 : op = 4
 ·rw [if_pos h4, h4]
  exact alu_4 A X S P Z N C I arg v w
 rw [if_neg h4]
 by_cases h29 : op = 29
 ·rw [if_pos h29, h29]
  exact alu_29 A X S P Z N C I arg v w
 rw [if_neg h29]
 by_cases h5 : op = 5
 ·rw [if_pos h5, h5]
  exact alu_5 A X S P Z N C I arg v w
 rw [if_neg h5]
 by_cases h6 : op = 6
 ·rw [if_pos h6, h6]
  exact alu_6 A X S P Z N C I arg v w
 rw [if_neg h6]
 by_cases h7 : op = 7
 ·rw [if_pos h7, h7]
  exact alu_7 A X S P Z N C I arg v w
 rw [if_neg h7]
 by_cases h8 : op = 8
 ·rw [if_pos h8, h8]
  exact alu_8 A X S P Z N C I arg v w
 rw [if_neg h8]
 by_cases h9 : op = 9
 ·rw [if_pos h9, h9]
  exact alu_9 A X S P Z N C I arg v w
 rw [if_neg h9]
 by_cases h10 : op = 10
 ·rw [if_pos h10, h10]
  exact alu_10 A X S P Z N C I arg v w
 rw [if_neg h10]
 by_cases h11 : op = 11
 ·rw [if_pos h11, h11]
  exact alu_11 A X S P Z N C I arg v w
 rw [if_neg h11]
 by_cases h12 : op = 12
 ·rw [if_pos h12, h12]
  exact alu_12 A X S P Z N C I arg v w
 rw [if_neg h12]
 by_cases h13 : op = 13
 ·rw [if_pos h13, h13]
  exact alu_13 A X S P Z N C I arg v w
 rw [if_neg h13]
 exact alu_no A X S P Z N C I op arg v (beq_eq_false_iff_ne.mpr h1) (beq_eq_false_iff_ne.mpr h2) (beq_eq_false_iff_ne.mpr h14) (beq_eq_false_iff_ne.mpr h4) (beq_eq_false_iff_ne.mpr h29) (beq_eq_false_iff_ne.mpr h5) (beq_eq_false_iff_ne.mpr h6) (beq_eq_false_iff_ne.mpr h7) (beq_eq_false_iff_ne.mpr h8) (beq_eq_false_iff_ne.mpr h9) (beq_eq_false_iff_ne.mpr h10) (beq_eq_false_iff_ne.mpr h11) (beq_eq_false_iff_ne.mpr h12) (beq_eq_false_iff_ne.mpr h13) w

/-! ### spec_Push: function 91 -/
def spec_Push.f (l0_0 : List Int) (a0_1 : Int) (a1_0 : Int) (a1_1 : Int) (a1_2 : Int) (a1_3 : Int) (a1_4 : Bool) (a1_5 : Bool) (a1_6 : Bool) (a1_7 : Bool) (a2 : Int) : Option (List Int × Int × Int × Int × Int × Int × Bool × Bool × Bool × Bool) := (spec_l6Copy.f l0_0 a0_1).bind fun bt787 => (if (l0_0.length : Int) = 512 then ((spec_Byte.f a1_2).bind fun t792 => ((spec_Byte.f a2).bind fun t793 => (if 0 ≤ (wrap64 (256 + t792)) then (if (wrap64 (256 + t792)) < (bt787.1.length : Int) then ((spec_Byte.f (wrap64 (a1_2 - 1))).bind fun t795 => (some ((bt787.1.set ((wrap64 (256 + t792)) : Int).toNat t793), bt787.2, a1_0, a1_1, t795, a1_3, a1_4, a1_5, a1_6, a1_7))) else (none)) else (none)))) else (some (bt787.1, bt787.2, a1_0, a1_1, a1_2, a1_3, a1_4, a1_5, a1_6, a1_7)))
def spec_Push.T4 : Bool × List (List Nat × List Nat) := (true, [([], []), ([0], [0]), ([], []), ([2], [2]), ([3], [3]), ([4], [4]), ([], []), ([6, 4], [6]), ([1, 5, 0, 1, 2, 3, 4, 5, 6, 7], [1, 5]), ([8, 7, 7, 0, 1, 2, 3, 4, 5, 6, 7], [7, 8])])
def spec_Push.B4 : List Nat := [0, 1, 0, 4, 12, 28, 0, 92, 255, 511]
theorem spec_Push.tab4 : rtab .any (opsOf Try.f91 4) = spec_Push.T4 := by kernel_rfl
theorem spec_Push.bits4 : waitsOk spec_Push.T4.2 spec_Push.B4 = true := by kernel_rfl
theorem spec_Push.calls (A0_0 : Option Addr) (c0_0 : Nat) (l0_0 : List Int) (a0_1 : Int) (a1_0 : Int) (a1_1 : Int) (a1_2 : Int) (a1_3 : Int) (a1_4 : Bool) (a1_5 : Bool) (a1_6 : Bool) (a1_7 : Bool) (a2 : Int) (r1 : List Int) (r2 : Int) (r3 : Int) (r4 : Int) (r5 : Int) (r6 : Int) (r7 : Bool) (r8 : Bool) (r9 : Bool) (r10 : Bool) (w : World) (hr0_0 : Kd.C (Kd.int .i64) w A0_0 l0_0.length l0_0) (hc0_0 : l0_0.length ≤ c0_0) (h : spec_Push.f l0_0 a0_1 a1_0 a1_1 a1_2 a1_3 a1_4 a1_5 a1_6 a1_7 a2 = some (r1, r2, r3, r4, r5, r6, r7, r8, r9, r10)) :
  Calls Try.prog 91 #[.agg #[.slice A0_0 l0_0.length c0_0, .int .i64 a0_1], .agg #[.int .i64 a1_0, .int .i64 a1_1, .int .i64 a1_2, .int .i64 a1_3, .bool a1_4, .bool a1_5, .bool a1_6, .bool a1_7], .int .i64 a2] w fun e w' => ∃ v0_ : Value, e = .returned (.tuple #[.agg #[v0_, .int .i64 r2], .agg #[.int .i64 r3, .int .i64 r4, .int .i64 r5, .int .i64 r6, .bool r7, .bool r8, .bool r9, .bool r10]]) ∧ Kd.R (Kd.int .i64) 3 w' w.heap.size (fun _ => True) v0_ r1 ∧ Below w.heap.size w w' := by
 have hu32 := Try.underlying32
 have hu55 := Try.underlying55
 have HR0_0 := am hr0_0
 have HC0_0 := am hc0_0
 clear hr0_0 hc0_0
 have HB := am (Below.refl w.heap.size w)
 have H : ((spec_l6Copy.f l0_0 a0_1).bind fun bt787 => (if (l0_0.length : Int) = 512 then ((spec_Byte.f a1_2).bind fun t792 => ((spec_Byte.f a2).bind fun t793 => (if 0 ≤ (wrap64 (256 + t792)) then (if (wrap64 (256 + t792)) < (bt787.1.length : Int) then ((spec_Byte.f (wrap64 (a1_2 - 1))).bind fun t795 => (some ((bt787.1.set ((wrap64 (256 + t792)) : Int).toNat t793), bt787.2, a1_0, a1_1, t795, a1_3, a1_4, a1_5, a1_6, a1_7))) else (none)) else (none)))) else (some (bt787.1, bt787.2, a1_0, a1_1, a1_2, a1_3, a1_4, a1_5, a1_6, a1_7)))) = some (r1, r2, r3, r4, r5, r6, r7, r8, r9, r10) := h
 clear h
 replace H := bs H
 obtain ⟨⟨t787, t790⟩, A40, H⟩ := H
 replace H : (if (l0_0.length : Int) = 512 then ((spec_Byte.f a1_2).bind fun t792 => ((spec_Byte.f a2).bind fun t793 => (if 0 ≤ (wrap64 (256 + t792)) then (if (wrap64 (256 + t792)) < (t787.length : Int) then ((spec_Byte.f (wrap64 (a1_2 - 1))).bind fun t795 => (some ((t787.set ((wrap64 (256 + t792)) : Int).toNat t793), t790, a1_0, a1_1, t795, a1_3, a1_4, a1_5, a1_6, a1_7))) else (none)) else (none)))) else (some (t787, t790, a1_0, a1_1, a1_2, a1_3, a1_4, a1_5, a1_6, a1_7))) = some (r1, r2, r3, r4, r5, r6, r7, r8, r9, r10) := H
 have A4 := am A40
 clear A40
 by_cases c5 : (l0_0.length : Int) = 512
 ·rw [if_pos c5] at H
  have c5b0 : ((l0_0.length : Int) == 512) = true := beq_iff_eq.mpr c5
  have c5b1 : ((l0_0.length : Int) != 512) = false := bne_eq_false_iff_eq.mpr c5
  clear c5
  replace H := bs H
  obtain ⟨t792, A60, H⟩ := H
  replace H : ((spec_Byte.f a2).bind fun t793 => (if 0 ≤ (wrap64 (256 + t792)) then (if (wrap64 (256 + t792)) < (t787.length : Int) then ((spec_Byte.f (wrap64 (a1_2 - 1))).bind fun t795 => (some ((t787.set ((wrap64 (256 + t792)) : Int).toNat t793), t790, a1_0, a1_1, t795, a1_3, a1_4, a1_5, a1_6, a1_7))) else (none)) else (none))) = some (r1, r2, r3, r4, r5, r6, r7, r8, r9, r10) := H
  have A6 := am A60
  clear A60
  replace H := bs H
  obtain ⟨t793, A70, H⟩ := H
  replace H : (if 0 ≤ (wrap64 (256 + t792)) then (if (wrap64 (256 + t792)) < (t787.length : Int) then ((spec_Byte.f (wrap64 (a1_2 - 1))).bind fun t795 => (some ((t787.set ((wrap64 (256 + t792)) : Int).toNat t793), t790, a1_0, a1_1, t795, a1_3, a1_4, a1_5, a1_6, a1_7))) else (none)) else (none)) = some (r1, r2, r3, r4, r5, r6, r7, r8, r9, r10) := H
  have A7 := am A70
  clear A70
  obtain ⟨ji8, hji8⟩ : ∃ j_ : Int, (wrap64 (256 + t792)) = j_ := ⟨_, rfl⟩
  replace H : (if 0 ≤ (ji8) then (if (ji8) < (t787.length : Int) then ((spec_Byte.f (wrap64 (a1_2 - 1))).bind fun t795 => (some ((t787.set ((ji8) : Int).toNat t793), t790, a1_0, a1_1, t795, a1_3, a1_4, a1_5, a1_6, a1_7))) else (none)) else (none)) = some (r1, r2, r3, r4, r5, r6, r7, r8, r9, r10) := by first | (rw [hji8] at H; exact H) | (simp only [hji8] at H ⊢; exact H)
  (try rw [hji8] at A4)
  (try rw [hji8] at A6)
  (try rw [hji8] at A7)
  have hji8w : (IntKind.i64.wrap (256 + t792)) = ji8 := (i64_w _).trans hji8
  by_cases c9 : 0 ≤ (ji8)
  ·rw [if_pos c9] at H
   have c9b0 : decide (0 ≤ (ji8)) = true := decide_eq_true c9
   clear c9
   by_cases c10 : (ji8) < (t787.length : Int)
   ·rw [if_pos c10] at H
    have c10b0 : decide ((ji8) < (t787.length : Int)) = true := decide_eq_true c10
    clear c10
    obtain ⟨y794, hy794⟩ : ∃ y_ : List Int, y_ = (t787.set ((ji8) : Int).toNat t793) := ⟨_, rfl⟩
    replace H : ((spec_Byte.f (wrap64 (a1_2 - 1))).bind fun t795 => (some (y794, t790, a1_0, a1_1, t795, a1_3, a1_4, a1_5, a1_6, a1_7))) = some (r1, r2, r3, r4, r5, r6, r7, r8, r9, r10) := by first | (rw [hy794]; with_reducible exact H) | (have H2_ := (Option.bind_some _ _).symm.trans H; rw [hy794]; with_reducible exact H2_) | (have H2_ := (Option.bind_some _ _).symm.trans H; with_reducible exact H2_) | with_reducible exact H | (rw [hy794]; exact H) | exact H
    have Ny794 := am hy794
    clear hy794
    replace H := bs H
    obtain ⟨t795, A120, H⟩ := H
    replace H : (some (y794, t790, a1_0, a1_1, t795, a1_3, a1_4, a1_5, a1_6, a1_7)) = some (r1, r2, r3, r4, r5, r6, r7, r8, r9, r10) := H
    have A12 := am A120
    clear A120
    simp only [Option.some.injEq, Prod.mk.injEq] at H
    obtain ⟨rfl, rfl, rfl, rfl, rfl, rfl, rfl, rfl, rfl, rfl⟩ := H
    go_enter Try.func91, Try.ntmps91
    try go_wp2_with (first | ((with_reducible refine gd 3 ?_); refine bx (N := 3) (cs := #[.slice A0_0 l0_0.length c0_0, .int .i64 a0_1]) (t := 32) ?_; intro gb783 hg w13 hbox hb; have BK783 := am (hbox); have GW783 := am ((gs hg (bw HB.out))); have GE783 := am ((gs hg (bw HB.out))); replace HB := am (below_step (bw HB.out) hb); clear hb hbox hg) | ((with_reducible refine gd 4 ?_); refine bx (N := 4) (cs := #[.int .i64 a1_0, .int .i64 a1_1, .int .i64 a1_2, .int .i64 a1_3, .bool a1_4, .bool a1_5, .bool a1_6, .bool a1_7]) (t := 55) ?_; intro gb784 hg w14 hbox hb; have BK784 := am (hbox); have GW784 := am ((gs hg (bw HB.out))); have GE784 := am ((gs hg (bw HB.out))); replace HB := am (below_step (bw HB.out) hb); have NB783_784 := am ((ga hg BK783.out)); have NB784_783 := am ((gc hg BK783.out)); replace BK783 := am (bb BK783 hb); clear hb hbox hg) | ((with_reducible refine gd 6 ?_); refine bx (N := 6) (cs := #[.slice none 0 0, .int .i64 0]) (t := 32) ?_; intro gb785 hg w15 hbox hb; have BK785 := am (hbox); have GW785 := am ((gs hg (bw HB.out))); have GE785 := am ((gs hg (bw HB.out))); replace HB := am (below_step (bw HB.out) hb); have NB783_785 := am ((ga hg BK783.out)); have NB785_783 := am ((gc hg BK783.out)); replace BK783 := am (bb BK783 hb); have NB784_785 := am ((ga hg BK784.out)); have NB785_784 := am ((gc hg BK784.out)); replace BK784 := am (bb BK784 hb); clear hb hbox hg) | ((with_reducible refine gd 7 ?_); refine bz (N := 7) ?_; intro gb786 hg w16 hbox hb; have BK786 := am (hbox); have GW786 := am ((gs hg (bw HB.out))); have GE786 := am ((gs hg (bw HB.out))); replace HB := am (below_step (bw HB.out) hb); have NB783_786 := am ((ga hg BK783.out)); have NB786_783 := am ((gc hg BK783.out)); replace BK783 := am (bb BK783 hb); have NB784_786 := am ((ga hg BK784.out)); have NB786_784 := am ((gc hg BK784.out)); replace BK784 := am (bb BK784 hb); have NB785_786 := am ((ga hg BK785.out)); have NB786_785 := am ((gc hg BK785.out)); replace BK785 := am (bb BK785 hb); clear hb hbox hg; have p_ := NB783_784.out; have p_ := NB783_785.out; have p_ := NB783_786.out; obtain ⟨hcz20_0, hcz20_1⟩ := ce2 BK783; obtain ⟨hfz20_0, hfz20_1⟩ := fz2 BK783) | ((with_reducible refine gate_callee (f := 78) rfl ?_); refine goesM_ (some 10) rfl rfl Try.func78 #[.agg #[.slice A0_0 l0_0.length c0_0, .int .i64 a0_1]] ?_; (with_reducible refine (spec_l6Copy.calls _ _ l0_0 a0_1 t787 t790 _ ?side1 ?side2 A4.out).mono ?_); (case side1 => exact kc (Kd.C_below HR0_0.out HB.out)); (case side2 => exact HC0_0.out); rintro e w21 ⟨v788, rfl, ho0, hb⟩; refine ⟨_, rfl, ?_⟩; have HO789 := am (Kd.R_lower ho0 (below_size (bw HB.out))); replace BK783 := am (bb BK783 hb); replace BK784 := am (bb BK784 hb); replace BK785 := am (bb BK785 hb); replace BK786 := am (bb BK786 hb); replace HB := am (below_step (bw HB.out) hb); (try clear hb); (try clear hk); (try clear ho0)) | ((with_reducible refine gd 8 ?_); refine bx (N := 8) (cs := #[.slice none 0 0, .int .i64 0]) (t := 32) ?_; intro gb791 hg w22 hbox hb; replace HO789 := am (Kd.R_below (kr HO789.out) hb); have BK791 := am (hbox); have GW791 := am ((gs hg (bw HB.out))); have GE791 := am ((gs hg (bw HB.out))); replace HB := am (below_step (bw HB.out) hb); have NB783_791 := am ((ga hg BK783.out)); have NB791_783 := am ((gc hg BK783.out)); replace BK783 := am (bb BK783 hb); have NB784_791 := am ((ga hg BK784.out)); have NB791_784 := am ((gc hg BK784.out)); replace BK784 := am (bb BK784 hb); have NB785_791 := am ((ga hg BK785.out)); have NB791_785 := am ((gc hg BK785.out)); replace BK785 := am (bb BK785 hb); have NB786_791 := am ((ga hg BK786.out)); have NB791_786 := am ((gc hg BK786.out)); replace BK786 := am (bb BK786 hb); clear hb hbox hg; obtain ⟨Ao23, co23, eo23⟩ := Kd.R_slice HO789.out; subst eo23; have p_ := NB791_783.out; have p_ := NB791_784.out; have p_ := NB791_785.out; have p_ := NB791_786.out; obtain ⟨hcz28_0, hcz28_1⟩ := ce2 BK791; obtain ⟨hfz28_0, hfz28_1⟩ := fz2 BK791; obtain ⟨hcz29_0, hcz29_1⟩ := ce2 BK783; obtain ⟨hfz29_0, hfz29_1⟩ := fz2 BK783))
    have n0_ : Aside0 (Kd.R (Kd.int .i64) 3 ((w22.setCell ⟨gb791, 0, none⟩ (.slice Ao23 t787.length co23)).setCell ⟨gb791, 1, none⟩ (.int .i64 t790)) w.heap.size (fun _ => True) (.slice Ao23 t787.length co23) t787) := ⟨kr (Kd.R_mono (Kd.R_far (p := ⟨gb791, 1, none⟩) (Kd.R_far (p := ⟨gb791, 0, none⟩) (Kd.R_types HO789.out BK791.out (by decide)) (fun _ hk => hk.2) (.slice Ao23 t787.length co23)) (fun _ hk => hk.2) (.int .i64 t790)) (fun _ hk => trivial))⟩
    have n1_ : Aside0 (((w22.setCell ⟨gb791, 0, none⟩ (.slice Ao23 t787.length co23)).setCell ⟨gb791, 1, none⟩ (.int .i64 t790)).heap[gb783]? = some (.cells #[.slice A0_0 l0_0.length c0_0, .int .i64 a0_1] 32 (0, 0))) := ⟨kf BK783.out⟩
    have n2_ : Aside0 (((w22.setCell ⟨gb791, 0, none⟩ (.slice Ao23 t787.length co23)).setCell ⟨gb791, 1, none⟩ (.int .i64 t790)).heap[gb784]? = some (.cells #[.int .i64 a1_0, .int .i64 a1_1, .int .i64 a1_2, .int .i64 a1_3, .bool a1_4, .bool a1_5, .bool a1_6, .bool a1_7] 55 (0, 0))) := ⟨kf BK784.out⟩
    have n3_ : Aside0 (((w22.setCell ⟨gb791, 0, none⟩ (.slice Ao23 t787.length co23)).setCell ⟨gb791, 1, none⟩ (.int .i64 t790)).heap[gb785]? = some (.cells #[.slice none 0 0, .int .i64 0] 32 (0, 0))) := ⟨kf BK785.out⟩
    have n4_ : Aside0 (((w22.setCell ⟨gb791, 0, none⟩ (.slice Ao23 t787.length co23)).setCell ⟨gb791, 1, none⟩ (.int .i64 t790)).heap[gb786]? = some (.cells #[.int .i64 0, .int .i64 0, .int .i64 0, .int .i64 0, .bool false, .bool false, .bool false, .bool false] 55 (0, 0))) := ⟨kf BK786.out⟩
    have n5_ : Aside0 (((w22.setCell ⟨gb791, 0, none⟩ (.slice Ao23 t787.length co23)).setCell ⟨gb791, 1, none⟩ (.int .i64 t790)).heap[gb791]? = some (.cells #[.slice Ao23 t787.length co23, .int .i64 t790] 32 (0, 0))) := ⟨bq BK791.out⟩
    have n6_ : Aside0 (Below w.heap.size w ((w22.setCell ⟨gb791, 0, none⟩ (.slice Ao23 t787.length co23)).setCell ⟨gb791, 1, none⟩ (.int .i64 t790))) := ⟨bw HB.out⟩
    (try clear HO789); (try clear BK783); (try clear BK784); (try clear BK785); (try clear BK786); (try clear BK791); (try clear HB)
    generalize ((w22.setCell ⟨gb791, 0, none⟩ (.slice Ao23 t787.length co23)).setCell ⟨gb791, 1, none⟩ (.int .i64 t790)) = w30 at n0_ n1_ n2_ n3_ n4_ n5_ n6_ ⊢
    have HO789 := n0_; have BK783 := n1_; have BK784 := n2_; have BK785 := n3_; have BK786 := n4_; have BK791 := n5_; have HB := n6_; clear n0_ n1_ n2_ n3_ n4_ n5_ n6_
    replace HO789 := am (Kd.R_drew HO789.out)
    replace BK783 := am (blk_drew BK783.out)
    replace BK784 := am (blk_drew BK784.out)
    replace BK785 := am (blk_drew BK785.out)
    replace BK786 := am (blk_drew BK786.out)
    replace BK791 := am (blk_drew BK791.out)
    replace HB := am (below_drew1 HB.out)
    refine start_ (n := 10) (S := fun w' => w'.cell? ⟨gb791, 0, none⟩ = some (.slice Ao23 t787.length co23) ∧ w'.cell? ⟨gb791, 1, none⟩ = some (.int .i64 t790) ∧ w'.cell? ⟨gb784, 0, none⟩ = some (.int .i64 a1_0) ∧ w'.cell? ⟨gb784, 1, none⟩ = some (.int .i64 a1_1) ∧ w'.cell? ⟨gb784, 2, none⟩ = some (.int .i64 a1_2) ∧ w'.cell? ⟨gb784, 3, none⟩ = some (.int .i64 a1_3) ∧ w'.cell? ⟨gb784, 4, none⟩ = some (.bool a1_4) ∧ w'.cell? ⟨gb784, 5, none⟩ = some (.bool a1_5) ∧ w'.cell? ⟨gb784, 6, none⟩ = some (.bool a1_6) ∧ w'.cell? ⟨gb784, 7, none⟩ = some (.bool a1_7)) (ds := [9]) (bm 10 0) (by kernel_rfl) rfl (by kernel_rfl) ⟨cl BK791 0, cl BK791 1, cl BK784 0, cl BK784 1, cl BK784 2, cl BK784 3, cl BK784 4, cl BK784 5, cl BK784 6, cl BK784 7⟩ (fun hHeld => ?_); refine with_tabW spec_Push.tab4 spec_Push.bits4 (fun HT_ HW_ => ?_)
    generalize w30.drew = w31 at HO789 BK783 BK784 BK785 BK786 BK791 HB hHeld ⊢
    refine pw_ 0 (some 17) (bm 10 1) HT_ ?_
    refine pw_ 2 (some 19) (bm 10 5) HT_ ?_
    refine pw_ 6 (some 23) (bm 10 69) HT_ ?_
    refine tw_ 1 (some 18) (bm 10 71) HT_ HW_ hHeld ?_
    refine tw_ 3 (some 20) (bm 10 79) HT_ HW_ hHeld ?_
    refine ow_ 4 (some 21) (bm 10 95) HT_ (fun K hK => ?_)
    refine gw_ Try.func71 #[.int .i64 a1_2] ?_
    with_reducible refine (spec_Byte.calls a1_2 t792 _ A6.out).mono ?_
    rintro e w' ⟨rfl, ⟨nd, rfl⟩⟩
    refine ⟨_, rfl, ?_⟩
    replace HO789 := am (Kd.R_drewN HO789.out nd)
    replace BK783 := am (blk_drewN BK783.out nd)
    replace BK784 := am (blk_drewN BK784.out nd)
    replace BK785 := am (blk_drewN BK785.out nd)
    replace BK786 := am (blk_drewN BK786.out nd)
    replace BK791 := am (blk_drewN BK791.out nd)
    replace HB := am (pw_below_drewN HB.out nd)
    generalize w31.drewN nd = w31 at HO789 BK783 BK784 BK785 BK786 BK791 HB ⊢
    refine hK.out _ _ ⟨cl BK791 0, cl BK791 1, cl BK784 0, cl BK784 1, cl BK784 2, cl BK784 3, cl BK784 4, cl BK784 5, cl BK784 6, cl BK784 7⟩ (fun hHeld => ?_)
    clear hK K
    refine nw_ 21 ?_
    refine pw_ 5 (some 22) (bm 10 127) HT_ ?_
    refine ow_ 7 (some 24) (bm 10 255) HT_ (fun K hK => ?_)
    refine gw_ Try.func71 #[.int .i64 a2] ?_
    with_reducible refine (spec_Byte.calls a2 t793 _ A7.out).mono ?_
    rintro e w' ⟨rfl, ⟨nd, rfl⟩⟩
    refine ⟨_, rfl, ?_⟩
    replace HO789 := am (Kd.R_drewN HO789.out nd)
    replace BK783 := am (blk_drewN BK783.out nd)
    replace BK784 := am (blk_drewN BK784.out nd)
    replace BK785 := am (blk_drewN BK785.out nd)
    replace BK786 := am (blk_drewN BK786.out nd)
    replace BK791 := am (blk_drewN BK791.out nd)
    replace HB := am (pw_below_drewN HB.out nd)
    generalize w31.drewN nd = w31 at HO789 BK783 BK784 BK785 BK786 BK791 HB ⊢
    have p11 : 0 ≤ ((ji8) : Int) := dt
    have q11 : ((ji8) : Int) < ((t787.length : Int) : Int) := dt
    obtain ⟨go11, co11, eo11, gb11, gl11, cl11, HG11⟩ := Kd.R_form HO789.out (by omega)
    (first | cases eo11 | (injection eo11 with ea_ en_ ec_; (first | subst ea_ | (injection ea_ with ea_; subst ea_)); subst ec_; clear en_))
    have GB11 := am gb11
    have GG11 := am HG11
    clear gb11 gl11 HG11
    obtain ⟨hx11_0, hf11_0⟩ := Kd.R_celln 0 HO789.out ((ji8) : Int) p11 q11
    replace p11 := eq_true p11
    replace q11 := eq_true q11
    have HP32 := Kd.R_putn HO789.out ((ji8) : Int) t793
    rw [← Ny794.out] at HP32
    have HQ32 := am HP32
    clear HP32
    refine hK.out _ _ ⟨cl BK791 0, cl BK791 1, cl BK784 0, cl BK784 1, cl BK784 2, cl BK784 3, cl BK784 4, cl BK784 5, cl BK784 6, cl BK784 7⟩ (fun hHeld => ?_)
    clear hK K
    refine nw_ 24 ?_
    refine pw_ 8 (some 25) (bm 10 511) HT_ ?_
    refine last_ (i := 9) (N := none) (bm 10 1023) rfl rfl (one_of HT_.out (by kernel_rfl)) (by decide) (fun K hK => ?_)
    refine skip_ (w1 := ?_) (by rfl) rfl ?_ ?_
    rotate_left
    ·go_simp
     rfl
    refine hK.out _ _ ?_
    clear hK K
    refine done_ (done_of HT_.out (by kernel_rfl)) ?_
    have n0_ : Aside0 (Kd.R (Kd.int .i64) 3 (w31.setCell ⟨go11, ((ji8) : Int).toNat, none⟩ (.int .i64 t793)) w.heap.size (fun _ => True) (.slice (some ⟨go11, 0, none⟩) t787.length co23) y794) := ⟨kr HQ32.out⟩
    have n1_ : Aside0 ((w31.setCell ⟨go11, ((ji8) : Int).toNat, none⟩ (.int .i64 t793)).heap[gb783]? = some (.cells #[.slice A0_0 l0_0.length c0_0, .int .i64 a0_1] 32 (0, 0))) := ⟨by (with_reducible repeat (first | refine blk_drewN ?_ _ | refine blk_drew ?_ | refine blk_alloc ?_ _)); refine blk_far ?_ (by have h_ := Kd.R_ne HO789.out BK783.out (by decide); intro e_; exact h_ (by rw [e_]; rfl)) _; (with_reducible repeat (first | refine blk_drewN ?_ _ | refine blk_drew ?_ | refine blk_alloc ?_ _)); exact BK783.out⟩
    have n2_ : Aside0 ((w31.setCell ⟨go11, ((ji8) : Int).toNat, none⟩ (.int .i64 t793)).heap[gb784]? = some (.cells #[.int .i64 a1_0, .int .i64 a1_1, .int .i64 a1_2, .int .i64 a1_3, .bool a1_4, .bool a1_5, .bool a1_6, .bool a1_7] 55 (0, 0))) := ⟨by (with_reducible repeat (first | refine blk_drewN ?_ _ | refine blk_drew ?_ | refine blk_alloc ?_ _)); refine blk_far ?_ (by have h_ := Kd.R_ne HO789.out BK784.out (by decide); intro e_; exact h_ (by rw [e_]; rfl)) _; (with_reducible repeat (first | refine blk_drewN ?_ _ | refine blk_drew ?_ | refine blk_alloc ?_ _)); exact BK784.out⟩
    have n3_ : Aside0 ((w31.setCell ⟨go11, ((ji8) : Int).toNat, none⟩ (.int .i64 t793)).heap[gb785]? = some (.cells #[.slice none 0 0, .int .i64 0] 32 (0, 0))) := ⟨by (with_reducible repeat (first | refine blk_drewN ?_ _ | refine blk_drew ?_ | refine blk_alloc ?_ _)); refine blk_far ?_ (by have h_ := Kd.R_ne HO789.out BK785.out (by decide); intro e_; exact h_ (by rw [e_]; rfl)) _; (with_reducible repeat (first | refine blk_drewN ?_ _ | refine blk_drew ?_ | refine blk_alloc ?_ _)); exact BK785.out⟩
    have n4_ : Aside0 ((w31.setCell ⟨go11, ((ji8) : Int).toNat, none⟩ (.int .i64 t793)).heap[gb786]? = some (.cells #[.int .i64 0, .int .i64 0, .int .i64 0, .int .i64 0, .bool false, .bool false, .bool false, .bool false] 55 (0, 0))) := ⟨by (with_reducible repeat (first | refine blk_drewN ?_ _ | refine blk_drew ?_ | refine blk_alloc ?_ _)); refine blk_far ?_ (by have h_ := Kd.R_ne HO789.out BK786.out (by decide); intro e_; exact h_ (by rw [e_]; rfl)) _; (with_reducible repeat (first | refine blk_drewN ?_ _ | refine blk_drew ?_ | refine blk_alloc ?_ _)); exact BK786.out⟩
    have n5_ : Aside0 ((w31.setCell ⟨go11, ((ji8) : Int).toNat, none⟩ (.int .i64 t793)).heap[gb791]? = some (.cells #[.slice (some ⟨go11, 0, none⟩) t787.length co23, .int .i64 t790] 32 (0, 0))) := ⟨by (with_reducible repeat (first | refine blk_drewN ?_ _ | refine blk_drew ?_ | refine blk_alloc ?_ _)); refine blk_far ?_ (by have h_ := Kd.R_ne HO789.out BK791.out (by decide); intro e_; exact h_ (by rw [e_]; rfl)) _; (with_reducible repeat (first | refine blk_drewN ?_ _ | refine blk_drew ?_ | refine blk_alloc ?_ _)); exact BK791.out⟩
    have n6_ : Aside0 (Below w.heap.size w (w31.setCell ⟨go11, ((ji8) : Int).toNat, none⟩ (.int .i64 t793))) := ⟨by repeat (first | (with_reducible first | exact HB.out | apply below_alloc | apply pw_below_drewN | apply below_drew1 | refine below_set ?_ GB11.out | refine below_set ?_ GE783.out | refine below_set ?_ GE784.out | refine below_set ?_ GE785.out | refine below_set ?_ GE786.out | refine below_set ?_ GE791.out) | exact HB.out)⟩
    (try clear HO789); (try clear BK783); (try clear BK784); (try clear BK785); (try clear BK786); (try clear BK791); (try clear HB)
    generalize (w31.setCell ⟨go11, ((ji8) : Int).toNat, none⟩ (.int .i64 t793)) = w33 at n0_ n1_ n2_ n3_ n4_ n5_ n6_ ⊢
    have HO789 := n0_; have BK783 := n1_; have BK784 := n2_; have BK785 := n3_; have BK786 := n4_; have BK791 := n5_; have HB := n6_; clear n0_ n1_ n2_ n3_ n4_ n5_ n6_
    have p_ := NB784_785.out
    have p_ := NB784_786.out
    obtain ⟨hcz36_0, hcz36_1, hcz36_2, hcz36_3, hcz36_4, hcz36_5, hcz36_6, hcz36_7⟩ := ce8 BK784
    obtain ⟨hfz36_0, hfz36_1, hfz36_2, hfz36_3, hfz36_4, hfz36_5, hfz36_6, hfz36_7⟩ := fz8 BK784
    try go_wp2_with (first | ((with_reducible refine gate_callee (f := 71) rfl ?_); refine goesM_ (some 29) rfl rfl Try.func71 #[.int .i64 (wrap64 (a1_2 - 1))] ?_; (with_reducible refine (spec_Byte.calls (wrap64 (a1_2 - 1)) t795 _ A12.out).mono ?_); rintro e w' ⟨rfl, ⟨nd, rfl⟩⟩; refine ⟨_, rfl, ?_⟩; (try (rw [drewN_self w33]; generalize hq_ : World.drewN w33 _ = w33; have n0_ : Aside0 (Kd.R (Kd.int .i64) 3 w33 w.heap.size (fun _ => True) (.slice (some ⟨go11, 0, none⟩) t787.length co23) y794) := ⟨by rw [← hq_]; exact (kr HO789.out)⟩; have n1_ : Aside0 (w33.heap[gb783]? = some (.cells #[.slice A0_0 l0_0.length c0_0, .int .i64 a0_1] 32 (0, 0))) := ⟨by rw [← hq_]; exact (kb BK783.out)⟩; have n2_ : Aside0 (w33.heap[gb784]? = some (.cells #[.int .i64 a1_0, .int .i64 a1_1, .int .i64 a1_2, .int .i64 a1_3, .bool a1_4, .bool a1_5, .bool a1_6, .bool a1_7] 55 (0, 0))) := ⟨by rw [← hq_]; exact (kb BK784.out)⟩; have n3_ : Aside0 (w33.heap[gb785]? = some (.cells #[.slice none 0 0, .int .i64 0] 32 (0, 0))) := ⟨by rw [← hq_]; exact (kb BK785.out)⟩; have n4_ : Aside0 (w33.heap[gb786]? = some (.cells #[.int .i64 0, .int .i64 0, .int .i64 0, .int .i64 0, .bool false, .bool false, .bool false, .bool false] 55 (0, 0))) := ⟨by rw [← hq_]; exact (kb BK786.out)⟩; have n5_ : Aside0 (w33.heap[gb791]? = some (.cells #[.slice (some ⟨go11, 0, none⟩) t787.length co23, .int .i64 t790] 32 (0, 0))) := ⟨by rw [← hq_]; exact (kb BK791.out)⟩; have n6_ : Aside0 (Below w.heap.size w w33) := ⟨by rw [← hq_]; exact (bw HB.out)⟩; clear HO789 BK783 BK784 BK785 BK786 BK791 HB hq_; have HO789 := n0_; have BK783 := n1_; have BK784 := n2_; have BK785 := n3_; have BK786 := n4_; have BK791 := n5_; have HB := n6_; clear n0_ n1_ n2_ n3_ n4_ n5_ n6_; obtain ⟨hcz36_0, hcz36_1, hcz36_2, hcz36_3, hcz36_4, hcz36_5, hcz36_6, hcz36_7⟩ := ce8 BK784; obtain ⟨hfz36_0, hfz36_1, hfz36_2, hfz36_3, hfz36_4, hfz36_5, hfz36_6, hfz36_7⟩ := fz8 BK784))))
    have n0_ : Aside0 (Kd.R (Kd.int .i64) 3 (w33.setCell ⟨gb784, 2, none⟩ (.int .i64 t795)) w.heap.size (fun _ => True) (.slice (some ⟨go11, 0, none⟩) t787.length co23) y794) := ⟨kr (Kd.R_mono (Kd.R_far (p := ⟨gb784, 2, none⟩) (Kd.R_types HO789.out BK784.out (by decide)) (fun _ hk => hk.2) (.int .i64 t795)) (fun _ hk => trivial))⟩
    have n1_ : Aside0 ((w33.setCell ⟨gb784, 2, none⟩ (.int .i64 t795)).heap[gb783]? = some (.cells #[.slice A0_0 l0_0.length c0_0, .int .i64 a0_1] 32 (0, 0))) := ⟨kf BK783.out⟩
    have n2_ : Aside0 ((w33.setCell ⟨gb784, 2, none⟩ (.int .i64 t795)).heap[gb784]? = some (.cells #[.int .i64 a1_0, .int .i64 a1_1, .int .i64 t795, .int .i64 a1_3, .bool a1_4, .bool a1_5, .bool a1_6, .bool a1_7] 55 (0, 0))) := ⟨kt BK784.out⟩
    have n3_ : Aside0 ((w33.setCell ⟨gb784, 2, none⟩ (.int .i64 t795)).heap[gb785]? = some (.cells #[.slice none 0 0, .int .i64 0] 32 (0, 0))) := ⟨kf BK785.out⟩
    have n4_ : Aside0 ((w33.setCell ⟨gb784, 2, none⟩ (.int .i64 t795)).heap[gb786]? = some (.cells #[.int .i64 0, .int .i64 0, .int .i64 0, .int .i64 0, .bool false, .bool false, .bool false, .bool false] 55 (0, 0))) := ⟨kf BK786.out⟩
    have n5_ : Aside0 ((w33.setCell ⟨gb784, 2, none⟩ (.int .i64 t795)).heap[gb791]? = some (.cells #[.slice (some ⟨go11, 0, none⟩) t787.length co23, .int .i64 t790] 32 (0, 0))) := ⟨kf BK791.out⟩
    have n6_ : Aside0 (Below w.heap.size w (w33.setCell ⟨gb784, 2, none⟩ (.int .i64 t795))) := ⟨bw HB.out⟩
    (try clear HO789); (try clear BK783); (try clear BK784); (try clear BK785); (try clear BK786); (try clear BK791); (try clear HB)
    generalize (w33.setCell ⟨gb784, 2, none⟩ (.int .i64 t795)) = w37 at n0_ n1_ n2_ n3_ n4_ n5_ n6_ ⊢
    have HO789 := n0_; have BK783 := n1_; have BK784 := n2_; have BK785 := n3_; have BK786 := n4_; have BK791 := n5_; have HB := n6_; clear n0_ n1_ n2_ n3_ n4_ n5_ n6_
    replace HO789 := am (Kd.R_drew HO789.out)
    replace BK783 := am (blk_drew BK783.out)
    replace BK784 := am (blk_drew BK784.out)
    replace BK785 := am (blk_drew BK785.out)
    replace BK786 := am (blk_drew BK786.out)
    replace BK791 := am (blk_drew BK791.out)
    replace HB := am (below_drew1 HB.out)
    refine start_ (n := 4) (S := fun w' => w'.cell? ⟨gb791, 0, none⟩ = some (.slice (some ⟨go11, 0, none⟩) t787.length co23) ∧ w'.cell? ⟨gb791, 1, none⟩ = some (.int .i64 t790) ∧ w'.cell? ⟨gb784, 0, none⟩ = some (.int .i64 a1_0) ∧ w'.cell? ⟨gb784, 1, none⟩ = some (.int .i64 a1_1) ∧ w'.cell? ⟨gb784, 2, none⟩ = some (.int .i64 t795) ∧ w'.cell? ⟨gb784, 3, none⟩ = some (.int .i64 a1_3) ∧ w'.cell? ⟨gb784, 4, none⟩ = some (.bool a1_4) ∧ w'.cell? ⟨gb784, 5, none⟩ = some (.bool a1_5) ∧ w'.cell? ⟨gb784, 6, none⟩ = some (.bool a1_6) ∧ w'.cell? ⟨gb784, 7, none⟩ = some (.bool a1_7)) (ds := []) (bm 4 0) (by kernel_rfl) rfl (by kernel_rfl) ⟨cl BK791 0, cl BK791 1, cl BK784 0, cl BK784 1, cl BK784 2, cl BK784 3, cl BK784 4, cl BK784 5, cl BK784 6, cl BK784 7⟩ (fun hHeld => ?_)
    generalize w37.drew = w38 at HO789 BK783 BK784 BK785 BK786 BK791 HB hHeld ⊢
    refine tv_ 0 (some 31) (bm 4 1) hHeld ?_
    refine tv_ 1 (some 32) (bm 4 3) hHeld ?_
    refine ov_ 2 none (bm 4 7) (fun K hK => ?_)
    refine skip_ (w1 := ?_) (by rfl) rfl ?_ ?_
    rotate_left
    ·obtain ⟨a0, a1⟩ := ce2 BK785
     obtain ⟨f0, f1⟩ := fz2 BK785
     have p_ := NB783_785.out
     have p_ := NB784_785.out
     have p_ := NB786_785.out
     have p_ := NB791_785.out
     go_simp
     rfl
    refine hK.out _ _ ?_ (fun hHeld => ?_)
    ·exact ⟨(fr NB791_785 (hHeld.1)), (fr NB791_785 (hHeld.2.1)), (fr NB784_785 (hHeld.2.2.1)), (fr NB784_785 (hHeld.2.2.2.1)), (fr NB784_785 (hHeld.2.2.2.2.1)), (fr NB784_785 (hHeld.2.2.2.2.2.1)), (fr NB784_785 (hHeld.2.2.2.2.2.2.1)), (fr NB784_785 (hHeld.2.2.2.2.2.2.2.1)), (fr NB784_785 (hHeld.2.2.2.2.2.2.2.2.1)), (fr NB784_785 (hHeld.2.2.2.2.2.2.2.2.2))⟩
    clear hK K
    refine ov_ 3 none (bm 4 15) (fun K hK => ?_)
    refine skip_ (w1 := ?_) (by rfl) rfl ?_ ?_
    rotate_left
    ·obtain ⟨a0, a1, a2, a3, a4, a5, a6, a7⟩ := ce8 BK786
     obtain ⟨f0, f1, f2, f3, f4, f5, f6, f7⟩ := fz8 BK786
     have p_ := NB783_786.out
     have p_ := NB784_786.out
     have p_ := NB785_786.out
     have p_ := NB791_786.out
     go_simp
     rfl
    refine hK.out _ _ ?_ (fun hHeld => ?_)
    ·exact ⟨(fr NB791_786 (hHeld.1)), (fr NB791_786 (hHeld.2.1)), (fr NB784_786 (hHeld.2.2.1)), (fr NB784_786 (hHeld.2.2.2.1)), (fr NB784_786 (hHeld.2.2.2.2.1)), (fr NB784_786 (hHeld.2.2.2.2.2.1)), (fr NB784_786 (hHeld.2.2.2.2.2.2.1)), (fr NB784_786 (hHeld.2.2.2.2.2.2.2.1)), (fr NB784_786 (hHeld.2.2.2.2.2.2.2.2.1)), (fr NB784_786 (hHeld.2.2.2.2.2.2.2.2.2))⟩
    clear hK K
    refine done_ (by kernel_rfl) ?_
    try go_wp2
    refine bodyPost_ret (results_cc rfl _ _ gb785 gb786 32 55 #[.slice (some ⟨go11, 0, none⟩) t787.length co23, .int .i64 t790] #[.int .i64 a1_0, .int .i64 a1_1, .int .i64 t795, .int .i64 a1_3, .bool a1_4, .bool a1_5, .bool a1_6, .bool a1_7] (0, 0) (0, 0) _ _ rfl (bf NB785_786 BK785.out) Try.underlying32 rfl (by kernel_rfl) rfl (bf NB786_785 BK786.out) Try.underlying55 rfl (by kernel_rfl)) rfl ?_
    exact ⟨_, by first | rfl | (simp [errW_none, errW_some] <;> rfl) | (simp only [← hji8]; first | rfl | (simp [errW_none, errW_some] <;> rfl)) | (simp [*, errW_none, errW_some] <;> rfl), kr (Kd.R_mono (Kd.R_far (p := ⟨gb786, 7, none⟩) (Kd.R_far (p := ⟨gb786, 6, none⟩) (Kd.R_far (p := ⟨gb786, 5, none⟩) (Kd.R_far (p := ⟨gb786, 4, none⟩) (Kd.R_far (p := ⟨gb786, 3, none⟩) (Kd.R_far (p := ⟨gb786, 2, none⟩) (Kd.R_far (p := ⟨gb786, 1, none⟩) (Kd.R_far (p := ⟨gb786, 0, none⟩) (Kd.R_far (p := ⟨gb785, 1, none⟩) (Kd.R_far (p := ⟨gb785, 0, none⟩) (Kd.R_types (Kd.R_types HO789.out BK785.out (by decide)) BK786.out (by decide)) (fun _ hk => hk.1.2) (.slice (some ⟨go11, 0, none⟩) t787.length co23)) (fun _ hk => hk.1.2) (.int .i64 t790)) (fun _ hk => hk.2) (.int .i64 a1_0)) (fun _ hk => hk.2) (.int .i64 a1_1)) (fun _ hk => hk.2) (.int .i64 t795)) (fun _ hk => hk.2) (.int .i64 a1_3)) (fun _ hk => hk.2) (.bool a1_4)) (fun _ hk => hk.2) (.bool a1_5)) (fun _ hk => hk.2) (.bool a1_6)) (fun _ hk => hk.2) (.bool a1_7)) (fun _ hk => trivial)), bw HB.out⟩
   ·rw [if_neg c10] at H
    exact absurd H (by simp)
  ·rw [if_neg c9] at H
   exact absurd H (by simp)
 ·rw [if_neg c5] at H
  have c5b0 : ((l0_0.length : Int) == 512) = false := beq_eq_false_iff_ne.mpr c5
  have c5b1 : ((l0_0.length : Int) != 512) = true := bne_iff_ne.mpr c5
  simp only [Option.some.injEq, Prod.mk.injEq] at H
  obtain ⟨rfl, rfl, rfl, rfl, rfl, rfl, rfl, rfl, rfl, rfl⟩ := H
  go_enter Try.func91, Try.ntmps91
  try go_wp2_with (first | ((with_reducible refine gd 3 ?_); refine bx (N := 3) (cs := #[.slice A0_0 l0_0.length c0_0, .int .i64 a0_1]) (t := 32) ?_; intro gb783 hg w49 hbox hb; have BK783 := am (hbox); have GW783 := am ((gs hg (bw HB.out))); have GE783 := am ((gs hg (bw HB.out))); replace HB := am (below_step (bw HB.out) hb); clear hb hbox hg) | ((with_reducible refine gd 4 ?_); refine bx (N := 4) (cs := #[.int .i64 a1_0, .int .i64 a1_1, .int .i64 a1_2, .int .i64 a1_3, .bool a1_4, .bool a1_5, .bool a1_6, .bool a1_7]) (t := 55) ?_; intro gb784 hg w50 hbox hb; have BK784 := am (hbox); have GW784 := am ((gs hg (bw HB.out))); have GE784 := am ((gs hg (bw HB.out))); replace HB := am (below_step (bw HB.out) hb); have NB783_784 := am ((ga hg BK783.out)); have NB784_783 := am ((gc hg BK783.out)); replace BK783 := am (bb BK783 hb); clear hb hbox hg) | ((with_reducible refine gd 6 ?_); refine bx (N := 6) (cs := #[.slice none 0 0, .int .i64 0]) (t := 32) ?_; intro gb785 hg w51 hbox hb; have BK785 := am (hbox); have GW785 := am ((gs hg (bw HB.out))); have GE785 := am ((gs hg (bw HB.out))); replace HB := am (below_step (bw HB.out) hb); have NB783_785 := am ((ga hg BK783.out)); have NB785_783 := am ((gc hg BK783.out)); replace BK783 := am (bb BK783 hb); have NB784_785 := am ((ga hg BK784.out)); have NB785_784 := am ((gc hg BK784.out)); replace BK784 := am (bb BK784 hb); clear hb hbox hg) | ((with_reducible refine gd 7 ?_); refine bz (N := 7) ?_; intro gb786 hg w52 hbox hb; have BK786 := am (hbox); have GW786 := am ((gs hg (bw HB.out))); have GE786 := am ((gs hg (bw HB.out))); replace HB := am (below_step (bw HB.out) hb); have NB783_786 := am ((ga hg BK783.out)); have NB786_783 := am ((gc hg BK783.out)); replace BK783 := am (bb BK783 hb); have NB784_786 := am ((ga hg BK784.out)); have NB786_784 := am ((gc hg BK784.out)); replace BK784 := am (bb BK784 hb); have NB785_786 := am ((ga hg BK785.out)); have NB786_785 := am ((gc hg BK785.out)); replace BK785 := am (bb BK785 hb); clear hb hbox hg; have p_ := NB783_784.out; have p_ := NB783_785.out; have p_ := NB783_786.out; obtain ⟨hcz56_0, hcz56_1⟩ := ce2 BK783; obtain ⟨hfz56_0, hfz56_1⟩ := fz2 BK783) | ((with_reducible refine gate_callee (f := 78) rfl ?_); refine goesM_ (some 10) rfl rfl Try.func78 #[.agg #[.slice A0_0 l0_0.length c0_0, .int .i64 a0_1]] ?_; (with_reducible refine (spec_l6Copy.calls _ _ l0_0 a0_1 t787 t790 _ ?side1 ?side2 A4.out).mono ?_); (case side1 => exact kc (Kd.C_below HR0_0.out HB.out)); (case side2 => exact HC0_0.out); rintro e w57 ⟨v788, rfl, ho0, hb⟩; refine ⟨_, rfl, ?_⟩; have HO789 := am (Kd.R_lower ho0 (below_size (bw HB.out))); replace BK783 := am (bb BK783 hb); replace BK784 := am (bb BK784 hb); replace BK785 := am (bb BK785 hb); replace BK786 := am (bb BK786 hb); replace HB := am (below_step (bw HB.out) hb); (try clear hb); (try clear hk); (try clear ho0)) | ((with_reducible refine gd 8 ?_); refine bx (N := 8) (cs := #[.slice none 0 0, .int .i64 0]) (t := 32) ?_; intro gb791 hg w58 hbox hb; replace HO789 := am (Kd.R_below (kr HO789.out) hb); have BK791 := am (hbox); have GW791 := am ((gs hg (bw HB.out))); have GE791 := am ((gs hg (bw HB.out))); replace HB := am (below_step (bw HB.out) hb); have NB783_791 := am ((ga hg BK783.out)); have NB791_783 := am ((gc hg BK783.out)); replace BK783 := am (bb BK783 hb); have NB784_791 := am ((ga hg BK784.out)); have NB791_784 := am ((gc hg BK784.out)); replace BK784 := am (bb BK784 hb); have NB785_791 := am ((ga hg BK785.out)); have NB791_785 := am ((gc hg BK785.out)); replace BK785 := am (bb BK785 hb); have NB786_791 := am ((ga hg BK786.out)); have NB791_786 := am ((gc hg BK786.out)); replace BK786 := am (bb BK786 hb); clear hb hbox hg; obtain ⟨Ao59, co59, eo59⟩ := Kd.R_slice HO789.out; subst eo59; have p_ := NB791_783.out; have p_ := NB791_784.out; have p_ := NB791_785.out; have p_ := NB791_786.out; obtain ⟨hcz64_0, hcz64_1⟩ := ce2 BK791; obtain ⟨hfz64_0, hfz64_1⟩ := fz2 BK791; obtain ⟨hcz65_0, hcz65_1⟩ := ce2 BK783; obtain ⟨hfz65_0, hfz65_1⟩ := fz2 BK783))
  have n0_ : Aside0 (Kd.R (Kd.int .i64) 3 ((w58.setCell ⟨gb791, 0, none⟩ (.slice Ao59 t787.length co59)).setCell ⟨gb791, 1, none⟩ (.int .i64 t790)) w.heap.size (fun _ => True) (.slice Ao59 t787.length co59) t787) := ⟨kr (Kd.R_mono (Kd.R_far (p := ⟨gb791, 1, none⟩) (Kd.R_far (p := ⟨gb791, 0, none⟩) (Kd.R_types HO789.out BK791.out (by decide)) (fun _ hk => hk.2) (.slice Ao59 t787.length co59)) (fun _ hk => hk.2) (.int .i64 t790)) (fun _ hk => trivial))⟩
  have n1_ : Aside0 (((w58.setCell ⟨gb791, 0, none⟩ (.slice Ao59 t787.length co59)).setCell ⟨gb791, 1, none⟩ (.int .i64 t790)).heap[gb783]? = some (.cells #[.slice A0_0 l0_0.length c0_0, .int .i64 a0_1] 32 (0, 0))) := ⟨kf BK783.out⟩
  have n2_ : Aside0 (((w58.setCell ⟨gb791, 0, none⟩ (.slice Ao59 t787.length co59)).setCell ⟨gb791, 1, none⟩ (.int .i64 t790)).heap[gb784]? = some (.cells #[.int .i64 a1_0, .int .i64 a1_1, .int .i64 a1_2, .int .i64 a1_3, .bool a1_4, .bool a1_5, .bool a1_6, .bool a1_7] 55 (0, 0))) := ⟨kf BK784.out⟩
  have n3_ : Aside0 (((w58.setCell ⟨gb791, 0, none⟩ (.slice Ao59 t787.length co59)).setCell ⟨gb791, 1, none⟩ (.int .i64 t790)).heap[gb785]? = some (.cells #[.slice none 0 0, .int .i64 0] 32 (0, 0))) := ⟨kf BK785.out⟩
  have n4_ : Aside0 (((w58.setCell ⟨gb791, 0, none⟩ (.slice Ao59 t787.length co59)).setCell ⟨gb791, 1, none⟩ (.int .i64 t790)).heap[gb786]? = some (.cells #[.int .i64 0, .int .i64 0, .int .i64 0, .int .i64 0, .bool false, .bool false, .bool false, .bool false] 55 (0, 0))) := ⟨kf BK786.out⟩
  have n5_ : Aside0 (((w58.setCell ⟨gb791, 0, none⟩ (.slice Ao59 t787.length co59)).setCell ⟨gb791, 1, none⟩ (.int .i64 t790)).heap[gb791]? = some (.cells #[.slice Ao59 t787.length co59, .int .i64 t790] 32 (0, 0))) := ⟨bq BK791.out⟩
  have n6_ : Aside0 (Below w.heap.size w ((w58.setCell ⟨gb791, 0, none⟩ (.slice Ao59 t787.length co59)).setCell ⟨gb791, 1, none⟩ (.int .i64 t790))) := ⟨bw HB.out⟩
  (try clear HO789); (try clear BK783); (try clear BK784); (try clear BK785); (try clear BK786); (try clear BK791); (try clear HB)
  generalize ((w58.setCell ⟨gb791, 0, none⟩ (.slice Ao59 t787.length co59)).setCell ⟨gb791, 1, none⟩ (.int .i64 t790)) = w66 at n0_ n1_ n2_ n3_ n4_ n5_ n6_ ⊢
  have HO789 := n0_; have BK783 := n1_; have BK784 := n2_; have BK785 := n3_; have BK786 := n4_; have BK791 := n5_; have HB := n6_; clear n0_ n1_ n2_ n3_ n4_ n5_ n6_
  replace HO789 := am (Kd.R_drew HO789.out)
  replace BK783 := am (blk_drew BK783.out)
  replace BK784 := am (blk_drew BK784.out)
  replace BK785 := am (blk_drew BK785.out)
  replace BK786 := am (blk_drew BK786.out)
  replace BK791 := am (blk_drew BK791.out)
  replace HB := am (below_drew1 HB.out)
  refine start_ (n := 4) (S := fun w' => w'.cell? ⟨gb791, 0, none⟩ = some (.slice Ao59 t787.length co59) ∧ w'.cell? ⟨gb791, 1, none⟩ = some (.int .i64 t790) ∧ w'.cell? ⟨gb784, 0, none⟩ = some (.int .i64 a1_0) ∧ w'.cell? ⟨gb784, 1, none⟩ = some (.int .i64 a1_1) ∧ w'.cell? ⟨gb784, 2, none⟩ = some (.int .i64 a1_2) ∧ w'.cell? ⟨gb784, 3, none⟩ = some (.int .i64 a1_3) ∧ w'.cell? ⟨gb784, 4, none⟩ = some (.bool a1_4) ∧ w'.cell? ⟨gb784, 5, none⟩ = some (.bool a1_5) ∧ w'.cell? ⟨gb784, 6, none⟩ = some (.bool a1_6) ∧ w'.cell? ⟨gb784, 7, none⟩ = some (.bool a1_7)) (ds := []) (bm 4 0) (by kernel_rfl) rfl (by kernel_rfl) ⟨cl BK791 0, cl BK791 1, cl BK784 0, cl BK784 1, cl BK784 2, cl BK784 3, cl BK784 4, cl BK784 5, cl BK784 6, cl BK784 7⟩ (fun hHeld => ?_)
  generalize w66.drew = w67 at HO789 BK783 BK784 BK785 BK786 BK791 HB hHeld ⊢
  refine tv_ 0 (some 15) (bm 4 1) hHeld ?_
  refine tv_ 1 (some 16) (bm 4 3) hHeld ?_
  refine ov_ 2 none (bm 4 7) (fun K hK => ?_)
  refine skip_ (w1 := ?_) (by rfl) rfl ?_ ?_
  rotate_left
  ·obtain ⟨a0, a1⟩ := ce2 BK785
   obtain ⟨f0, f1⟩ := fz2 BK785
   have p_ := NB783_785.out
   have p_ := NB784_785.out
   have p_ := NB786_785.out
   have p_ := NB791_785.out
   go_simp
   rfl
  refine hK.out _ _ ?_ (fun hHeld => ?_)
  ·exact ⟨(fr NB791_785 (hHeld.1)), (fr NB791_785 (hHeld.2.1)), (fr NB784_785 (hHeld.2.2.1)), (fr NB784_785 (hHeld.2.2.2.1)), (fr NB784_785 (hHeld.2.2.2.2.1)), (fr NB784_785 (hHeld.2.2.2.2.2.1)), (fr NB784_785 (hHeld.2.2.2.2.2.2.1)), (fr NB784_785 (hHeld.2.2.2.2.2.2.2.1)), (fr NB784_785 (hHeld.2.2.2.2.2.2.2.2.1)), (fr NB784_785 (hHeld.2.2.2.2.2.2.2.2.2))⟩
  clear hK K
  refine ov_ 3 none (bm 4 15) (fun K hK => ?_)
  refine skip_ (w1 := ?_) (by rfl) rfl ?_ ?_
  rotate_left
  ·obtain ⟨a0, a1, a2, a3, a4, a5, a6, a7⟩ := ce8 BK786
   obtain ⟨f0, f1, f2, f3, f4, f5, f6, f7⟩ := fz8 BK786
   have p_ := NB783_786.out
   have p_ := NB784_786.out
   have p_ := NB785_786.out
   have p_ := NB791_786.out
   go_simp
   rfl
  refine hK.out _ _ ?_ (fun hHeld => ?_)
  ·exact ⟨(fr NB791_786 (hHeld.1)), (fr NB791_786 (hHeld.2.1)), (fr NB784_786 (hHeld.2.2.1)), (fr NB784_786 (hHeld.2.2.2.1)), (fr NB784_786 (hHeld.2.2.2.2.1)), (fr NB784_786 (hHeld.2.2.2.2.2.1)), (fr NB784_786 (hHeld.2.2.2.2.2.2.1)), (fr NB784_786 (hHeld.2.2.2.2.2.2.2.1)), (fr NB784_786 (hHeld.2.2.2.2.2.2.2.2.1)), (fr NB784_786 (hHeld.2.2.2.2.2.2.2.2.2))⟩
  clear hK K
  refine done_ (by kernel_rfl) ?_
  try go_wp2
  refine bodyPost_ret (results_cc rfl _ _ gb785 gb786 32 55 #[.slice Ao59 t787.length co59, .int .i64 t790] #[.int .i64 a1_0, .int .i64 a1_1, .int .i64 a1_2, .int .i64 a1_3, .bool a1_4, .bool a1_5, .bool a1_6, .bool a1_7] (0, 0) (0, 0) _ _ rfl (bf NB785_786 BK785.out) Try.underlying32 rfl (by kernel_rfl) rfl (bf NB786_785 BK786.out) Try.underlying55 rfl (by kernel_rfl)) rfl ?_
  exact ⟨_, rt, kr (Kd.R_mono (Kd.R_far (p := ⟨gb786, 7, none⟩) (Kd.R_far (p := ⟨gb786, 6, none⟩) (Kd.R_far (p := ⟨gb786, 5, none⟩) (Kd.R_far (p := ⟨gb786, 4, none⟩) (Kd.R_far (p := ⟨gb786, 3, none⟩) (Kd.R_far (p := ⟨gb786, 2, none⟩) (Kd.R_far (p := ⟨gb786, 1, none⟩) (Kd.R_far (p := ⟨gb786, 0, none⟩) (Kd.R_far (p := ⟨gb785, 1, none⟩) (Kd.R_far (p := ⟨gb785, 0, none⟩) (Kd.R_types (Kd.R_types HO789.out BK785.out (by decide)) BK786.out (by decide)) (fun _ hk => hk.1.2) (.slice Ao59 t787.length co59)) (fun _ hk => hk.1.2) (.int .i64 t790)) (fun _ hk => hk.2) (.int .i64 a1_0)) (fun _ hk => hk.2) (.int .i64 a1_1)) (fun _ hk => hk.2) (.int .i64 a1_2)) (fun _ hk => hk.2) (.int .i64 a1_3)) (fun _ hk => hk.2) (.bool a1_4)) (fun _ hk => hk.2) (.bool a1_5)) (fun _ hk => hk.2) (.bool a1_6)) (fun _ hk => hk.2) (.bool a1_7)) (fun _ hk => trivial)), bw HB.out⟩

/-! ### spec_Join: function 82 -/
def spec_Join.f (a0 : Int) (a1 : Int) : Option (Int) := (spec_Byte.f a0).bind fun t796 => ((spec_Byte.f a1).bind fun t797 => (some (wrap64 (t796 + (wrap64 (256 * t797))))))
theorem spec_Join.calls (a0 : Int) (a1 : Int) (r : Int) (w : World) (h : spec_Join.f a0 a1 = some r) :
  Calls Try.prog 82 #[.int .i64 a0, .int .i64 a1] w fun e w' => e = .returned (.int .i64 r) ∧ Drawn0 w w' := by
 have H : ((spec_Byte.f a0).bind fun t796 => ((spec_Byte.f a1).bind fun t797 => (some (wrap64 (t796 + (wrap64 (256 * t797))))))) = some r := h
 clear h
 replace H := bs H
 obtain ⟨t796, A30, H⟩ := H
 replace H : ((spec_Byte.f a1).bind fun t797 => (some (wrap64 (t796 + (wrap64 (256 * t797)))))) = some r := H
 have A3 := am A30
 clear A30
 replace H := bs H
 obtain ⟨t797, A40, H⟩ := H
 replace H : (some (wrap64 (t796 + (wrap64 (256 * t797))))) = some r := H
 have A4 := am A40
 clear A40
 obtain rfl := oj H
 go_enter Try.func82, Try.ntmps82
 go_wp2_with (first | ((with_reducible refine gate_callee (f := 71) rfl ?_); refine goesM_ (some 6) rfl rfl Try.func71 #[.int .i64 a0] ?_; (with_reducible refine (spec_Byte.calls a0 t796 _ A3.out).mono ?_); rintro e w' ⟨rfl, ⟨nd, rfl⟩⟩; refine ⟨_, rfl, ?_⟩) | ((with_reducible refine gate_callee (f := 71) rfl ?_); refine goesM_ (some 8) rfl rfl Try.func71 #[.int .i64 a1] ?_; (with_reducible refine (spec_Byte.calls a1 t797 _ A4.out).mono ?_); rintro e w' ⟨rfl, ⟨nd, rfl⟩⟩; refine ⟨_, rfl, ?_⟩))
 go_ret
 exact ⟨by first | rfl | (simp; done) | (simp [*]; done), by repeat (first | exact Drawn0.refl _ | apply Drawn0.step)⟩

/-! ### spec_Pull: function 93 -/
def spec_Pull.f (l0_0 : List Int) (a0_1 : Int) (a1_0 : Int) (a1_1 : Int) (a1_2 : Int) (a1_3 : Int) (a1_4 : Bool) (a1_5 : Bool) (a1_6 : Bool) (a1_7 : Bool) : Option (Int × Int × Int × Int × Bool × Bool × Bool × Bool × Int) := if (l0_0.length : Int) = 512 then ((spec_Byte.f (wrap64 (a1_2 + 1))).bind fun t801 => (if 0 ≤ (wrap64 (256 + t801)) then (if (wrap64 (256 + t801)) < (l0_0.length : Int) then ((spec_Byte.f (rd l0_0 (wrap64 (256 + t801)))).bind fun t803 => (some (a1_0, a1_1, t801, a1_3, a1_4, a1_5, a1_6, a1_7, t803))) else (none)) else (none))) else (some (a1_0, a1_1, a1_2, a1_3, a1_4, a1_5, a1_6, a1_7, 0))
def spec_Pull.T4 : Bool × List (List Nat × List Nat) := (true, [([], []), ([], []), ([1], [1]), ([], []), ([3], [3]), ([4], [4]), ([2, 5], [2, 5]), ([6], [6]), ([7], [7]), ([0, 8, 0], [0]), ([8, 9, 0, 1, 2, 3, 4, 5, 6, 7, 8, 9], [8])])
def spec_Pull.B4 : List Nat := [0, 0, 2, 0, 8, 24, 62, 126, 254, 511, 1023]
theorem spec_Pull.tab4 : rtab .any (opsOf Try.f93 4) = spec_Pull.T4 := by kernel_rfl
theorem spec_Pull.bits4 : waitsOk spec_Pull.T4.2 spec_Pull.B4 = true := by kernel_rfl
theorem spec_Pull.calls (A0_0 : Option Addr) (c0_0 : Nat) (l0_0 : List Int) (a0_1 : Int) (a1_0 : Int) (a1_1 : Int) (a1_2 : Int) (a1_3 : Int) (a1_4 : Bool) (a1_5 : Bool) (a1_6 : Bool) (a1_7 : Bool) (r1 : Int) (r2 : Int) (r3 : Int) (r4 : Int) (r5 : Bool) (r6 : Bool) (r7 : Bool) (r8 : Bool) (r9 : Int) (w : World) (hr0_0 : Kd.C (Kd.int .i64) w A0_0 l0_0.length l0_0) (hc0_0 : l0_0.length ≤ c0_0) (h : spec_Pull.f l0_0 a0_1 a1_0 a1_1 a1_2 a1_3 a1_4 a1_5 a1_6 a1_7 = some (r1, r2, r3, r4, r5, r6, r7, r8, r9)) :
  Calls Try.prog 93 #[.agg #[.slice A0_0 l0_0.length c0_0, .int .i64 a0_1], .agg #[.int .i64 a1_0, .int .i64 a1_1, .int .i64 a1_2, .int .i64 a1_3, .bool a1_4, .bool a1_5, .bool a1_6, .bool a1_7]] w fun e w' => e = .returned (.tuple #[.agg #[.int .i64 r1, .int .i64 r2, .int .i64 r3, .int .i64 r4, .bool r5, .bool r6, .bool r7, .bool r8], .int .i64 r9]) ∧ Below w.heap.size w w' := by
 have hu32 := Try.underlying32
 have hu55 := Try.underlying55
 have HR0_0 := am hr0_0
 have HC0_0 := am hc0_0
 clear hr0_0 hc0_0
 have HB := am (Below.refl w.heap.size w)
 have H : (if (l0_0.length : Int) = 512 then ((spec_Byte.f (wrap64 (a1_2 + 1))).bind fun t801 => (if 0 ≤ (wrap64 (256 + t801)) then (if (wrap64 (256 + t801)) < (l0_0.length : Int) then ((spec_Byte.f (rd l0_0 (wrap64 (256 + t801)))).bind fun t803 => (some (a1_0, a1_1, t801, a1_3, a1_4, a1_5, a1_6, a1_7, t803))) else (none)) else (none))) else (some (a1_0, a1_1, a1_2, a1_3, a1_4, a1_5, a1_6, a1_7, 0))) = some (r1, r2, r3, r4, r5, r6, r7, r8, r9) := h
 clear h
 by_cases c3 : (l0_0.length : Int) = 512
 ·rw [if_pos c3] at H
  have c3b0 : ((l0_0.length : Int) == 512) = true := beq_iff_eq.mpr c3
  have c3b1 : ((l0_0.length : Int) != 512) = false := bne_eq_false_iff_eq.mpr c3
  clear c3
  replace H := bs H
  obtain ⟨t801, A40, H⟩ := H
  replace H : (if 0 ≤ (wrap64 (256 + t801)) then (if (wrap64 (256 + t801)) < (l0_0.length : Int) then ((spec_Byte.f (rd l0_0 (wrap64 (256 + t801)))).bind fun t803 => (some (a1_0, a1_1, t801, a1_3, a1_4, a1_5, a1_6, a1_7, t803))) else (none)) else (none)) = some (r1, r2, r3, r4, r5, r6, r7, r8, r9) := H
  have A4 := am A40
  clear A40
  obtain ⟨ji5, hji5⟩ : ∃ j_ : Int, (wrap64 (256 + t801)) = j_ := ⟨_, rfl⟩
  replace H : (if 0 ≤ (ji5) then (if (ji5) < (l0_0.length : Int) then ((spec_Byte.f (rd l0_0 (ji5))).bind fun t803 => (some (a1_0, a1_1, t801, a1_3, a1_4, a1_5, a1_6, a1_7, t803))) else (none)) else (none)) = some (r1, r2, r3, r4, r5, r6, r7, r8, r9) := by first | (rw [hji5] at H; exact H) | (simp only [hji5] at H ⊢; exact H)
  (try rw [hji5] at A4)
  have hji5w : (IntKind.i64.wrap (256 + t801)) = ji5 := (i64_w _).trans hji5
  by_cases c6 : 0 ≤ (ji5)
  ·rw [if_pos c6] at H
   have c6b0 : decide (0 ≤ (ji5)) = true := decide_eq_true c6
   clear c6
   by_cases c7 : (ji5) < (l0_0.length : Int)
   ·rw [if_pos c7] at H
    have c7b0 : decide ((ji5) < (l0_0.length : Int)) = true := decide_eq_true c7
    clear c7
    replace H := bs H
    obtain ⟨t803, A80, H⟩ := H
    replace H : (some (a1_0, a1_1, t801, a1_3, a1_4, a1_5, a1_6, a1_7, t803)) = some (r1, r2, r3, r4, r5, r6, r7, r8, r9) := H
    have A8 := am A80
    clear A80
    simp only [Option.some.injEq, Prod.mk.injEq] at H
    obtain ⟨rfl, rfl, rfl, rfl, rfl, rfl, rfl, rfl, rfl⟩ := H
    go_enter Try.func93, Try.ntmps93
    try go_wp2_with (first | ((with_reducible refine gd 2 ?_); refine bx (N := 2) (cs := #[.slice A0_0 l0_0.length c0_0, .int .i64 a0_1]) (t := 32) ?_; intro gb798 hg w9 hbox hb; have BK798 := am (hbox); have GW798 := am ((gs hg (bw HB.out))); have GE798 := am ((gs hg (bw HB.out))); replace HB := am (below_step (bw HB.out) hb); clear hb hbox hg) | ((with_reducible refine gd 3 ?_); refine bx (N := 3) (cs := #[.int .i64 a1_0, .int .i64 a1_1, .int .i64 a1_2, .int .i64 a1_3, .bool a1_4, .bool a1_5, .bool a1_6, .bool a1_7]) (t := 55) ?_; intro gb799 hg w10 hbox hb; have BK799 := am (hbox); have GW799 := am ((gs hg (bw HB.out))); have GE799 := am ((gs hg (bw HB.out))); replace HB := am (below_step (bw HB.out) hb); have NB798_799 := am ((ga hg BK798.out)); have NB799_798 := am ((gc hg BK798.out)); replace BK798 := am (bb BK798 hb); clear hb hbox hg) | ((with_reducible refine gd 4 ?_); refine bz (N := 4) ?_; intro gb800 hg w11 hbox hb; have BK800 := am (hbox); have GW800 := am ((gs hg (bw HB.out))); have GE800 := am ((gs hg (bw HB.out))); replace HB := am (below_step (bw HB.out) hb); have NB798_800 := am ((ga hg BK798.out)); have NB800_798 := am ((gc hg BK798.out)); replace BK798 := am (bb BK798 hb); have NB799_800 := am ((ga hg BK799.out)); have NB800_799 := am ((gc hg BK799.out)); replace BK799 := am (bb BK799 hb); clear hb hbox hg; have p_ := NB798_799.out; have p_ := NB798_800.out; obtain ⟨hcz14_0, hcz14_1⟩ := ce2 BK798; obtain ⟨hfz14_0, hfz14_1⟩ := fz2 BK798; have p_ := NB799_800.out; obtain ⟨hcz16_0, hcz16_1, hcz16_2, hcz16_3, hcz16_4, hcz16_5, hcz16_6, hcz16_7⟩ := ce8 BK799; obtain ⟨hfz16_0, hfz16_1, hfz16_2, hfz16_3, hfz16_4, hfz16_5, hfz16_6, hfz16_7⟩ := fz8 BK799) | ((with_reducible refine gate_callee (f := 71) rfl ?_); refine goesM_ (some 14) rfl rfl Try.func71 #[.int .i64 (wrap64 (a1_2 + 1))] ?_; (with_reducible refine (spec_Byte.calls (wrap64 (a1_2 + 1)) t801 _ A4.out).mono ?_); rintro e w' ⟨rfl, ⟨nd, rfl⟩⟩; refine ⟨_, rfl, ?_⟩; (try (rw [drewN_self w11]; generalize hq_ : World.drewN w11 _ = w11; have n0_ : Aside0 (w11.heap[gb798]? = some (.cells #[.slice A0_0 l0_0.length c0_0, .int .i64 a0_1] 32 (0, 0))) := ⟨by rw [← hq_]; exact (kb BK798.out)⟩; have n1_ : Aside0 (w11.heap[gb799]? = some (.cells #[.int .i64 a1_0, .int .i64 a1_1, .int .i64 a1_2, .int .i64 a1_3, .bool a1_4, .bool a1_5, .bool a1_6, .bool a1_7] 55 (0, 0))) := ⟨by rw [← hq_]; exact (kb BK799.out)⟩; have n2_ : Aside0 (w11.heap[gb800]? = some (.cells #[.int .i64 0, .int .i64 0, .int .i64 0, .int .i64 0, .bool false, .bool false, .bool false, .bool false] 55 (0, 0))) := ⟨by rw [← hq_]; exact (kb BK800.out)⟩; have n3_ : Aside0 (Below w.heap.size w w11) := ⟨by rw [← hq_]; exact (bw HB.out)⟩; clear BK798 BK799 BK800 HB hq_; have BK798 := n0_; have BK799 := n1_; have BK800 := n2_; have HB := n3_; clear n0_ n1_ n2_ n3_; (try obtain ⟨hcz14_0, hcz14_1⟩ := ce2 BK798); (try obtain ⟨hfz14_0, hfz14_1⟩ := fz2 BK798); (try obtain ⟨hcz16_0, hcz16_1, hcz16_2, hcz16_3, hcz16_4, hcz16_5, hcz16_6, hcz16_7⟩ := ce8 BK799); (try obtain ⟨hfz16_0, hfz16_1, hfz16_2, hfz16_3, hfz16_4, hfz16_5, hfz16_6, hfz16_7⟩ := fz8 BK799)))))
    have n0_ : Aside0 ((w11.setCell ⟨gb799, 2, none⟩ (.int .i64 t801)).heap[gb798]? = some (.cells #[.slice A0_0 l0_0.length c0_0, .int .i64 a0_1] 32 (0, 0))) := ⟨kf BK798.out⟩
    have n1_ : Aside0 ((w11.setCell ⟨gb799, 2, none⟩ (.int .i64 t801)).heap[gb799]? = some (.cells #[.int .i64 a1_0, .int .i64 a1_1, .int .i64 t801, .int .i64 a1_3, .bool a1_4, .bool a1_5, .bool a1_6, .bool a1_7] 55 (0, 0))) := ⟨kt BK799.out⟩
    have n2_ : Aside0 ((w11.setCell ⟨gb799, 2, none⟩ (.int .i64 t801)).heap[gb800]? = some (.cells #[.int .i64 0, .int .i64 0, .int .i64 0, .int .i64 0, .bool false, .bool false, .bool false, .bool false] 55 (0, 0))) := ⟨kf BK800.out⟩
    have n3_ : Aside0 (Below w.heap.size w (w11.setCell ⟨gb799, 2, none⟩ (.int .i64 t801))) := ⟨bw HB.out⟩
    (try clear BK798); (try clear BK799); (try clear BK800); (try clear HB)
    generalize (w11.setCell ⟨gb799, 2, none⟩ (.int .i64 t801)) = w17 at n0_ n1_ n2_ n3_ ⊢
    have BK798 := n0_; have BK799 := n1_; have BK800 := n2_; have HB := n3_; clear n0_ n1_ n2_ n3_
    replace BK798 := am (blk_drew BK798.out)
    replace BK799 := am (blk_drew BK799.out)
    replace BK800 := am (blk_drew BK800.out)
    replace HB := am (below_drew1 HB.out)
    have p802 : 0 ≤ ((ji5) : Int) := dt
    have q802 : (ji5) < (l0_0.length : Int) := dt
    obtain ⟨ad802, e802, hx802_0⟩ := Kd.at_int HR0_0.out (ji5) p802 q802
    have hw802_0 := hx802_0
    cases e802
    replace hx802_0 := (HB.out.cell (World.block_lt_of_cell? w _ hx802_0)).trans hx802_0
    replace p802 := eq_true p802
    replace q802 := eq_true q802
    refine start_ (n := 11) (S := fun w' => w'.cell? ⟨gb799, 0, none⟩ = some (.int .i64 a1_0) ∧ w'.cell? ⟨gb799, 1, none⟩ = some (.int .i64 a1_1) ∧ w'.cell? ⟨gb799, 2, none⟩ = some (.int .i64 t801) ∧ w'.cell? ⟨gb799, 3, none⟩ = some (.int .i64 a1_3) ∧ w'.cell? ⟨gb799, 4, none⟩ = some (.bool a1_4) ∧ w'.cell? ⟨gb799, 5, none⟩ = some (.bool a1_5) ∧ w'.cell? ⟨gb799, 6, none⟩ = some (.bool a1_6) ∧ w'.cell? ⟨gb799, 7, none⟩ = some (.bool a1_7) ∧ w'.cell? ⟨gb798, 0, none⟩ = some (.slice (some ad802) l0_0.length c0_0) ∧ w'.cell? ⟨gb798, 1, none⟩ = some (.int .i64 a0_1) ∧ w'.cell? (ad802.add ((ji5)).toNat) = some (.int .i64 (rd l0_0 (ji5)))) (ds := []) (bm 11 0) (by kernel_rfl) rfl (by kernel_rfl) ⟨cl BK799 0, cl BK799 1, cl BK799 2, cl BK799 3, cl BK799 4, cl BK799 5, cl BK799 6, cl BK799 7, cl BK798 0, cl BK798 1, ((HB.out.cell (World.block_lt_of_cell? w _ hw802_0)).trans hw802_0)⟩ (fun hHeld => ?_); refine with_tabW spec_Pull.tab4 spec_Pull.bits4 (fun HT_ HW_ => ?_)
    generalize w17.drew = w18 at BK798 BK799 BK800 HB hx802_0 hHeld ⊢
    refine pw_ 1 (some 17) (bm 11 2) HT_ ?_
    refine pw_ 3 (some 19) (bm 11 10) HT_ ?_
    refine tw_ 0 (some 16) (bm 11 11) HT_ HW_ hHeld ?_
    refine tw_ 2 (some 18) (bm 11 15) HT_ HW_ hHeld ?_
    refine tw_ 4 (some 20) (bm 11 31) HT_ HW_ hHeld ?_
    refine pw_ 5 (some 21) (bm 11 63) HT_ ?_
    refine pw_ 6 (some 22) (bm 11 127) HT_ ?_
    refine tw_ 7 (some 23) (bm 11 255) HT_ HW_ hHeld ?_
    refine ow_ 8 (some 24) (bm 11 511) HT_ (fun K hK => ?_)
    refine goes_ Try.func71 (by kernel_rfl) rfl #[.int .i64 (rd l0_0 (ji5))] (by rfl) rfl rfl (by (try simp only [List.map_toArray, List.map_cons, List.map_nil]); first | done | (simp only [hji5]; rfl) | rfl | (simp only [List.length_drop, List.length_take]; rfl)) ?_
    with_reducible refine (spec_Byte.calls (rd l0_0 (ji5)) t803 _ A8.out).mono ?_
    rintro e w' ⟨rfl, ⟨nd, rfl⟩⟩
    refine ⟨_, rfl, ?_⟩
    refine hK.out _ _ ⟨cl BK799 0, cl BK799 1, cl BK799 2, cl BK799 3, cl BK799 4, cl BK799 5, cl BK799 6, cl BK799 7, cl BK798 0, cl BK798 1, ((HB.out.cell (World.block_lt_of_cell? w _ hw802_0)).trans hw802_0)⟩ (fun hHeld => ?_)
    clear hK K
    refine nw_ 24 ?_
    refine ow_ 9 none (bm 11 1023) HT_ (fun K hK => ?_)
    refine skip_ (w1 := ?_) (by rfl) rfl ?_ ?_
    rotate_left
    ·obtain ⟨a0, a1, a2, a3, a4, a5, a6, a7⟩ := ce8 BK800
     obtain ⟨f0, f1, f2, f3, f4, f5, f6, f7⟩ := fz8 BK800
     have p_ := NB798_800.out
     have p_ := NB799_800.out
     go_simp
     rfl
    refine hK.out _ _ ?_ (fun hHeld => ?_)
    ·exact ⟨(fr NB799_800 (hHeld.1)), (fr NB799_800 (hHeld.2.1)), (fr NB799_800 (hHeld.2.2.1)), (fr NB799_800 (hHeld.2.2.2.1)), (fr NB799_800 (hHeld.2.2.2.2.1)), (fr NB799_800 (hHeld.2.2.2.2.2.1)), (fr NB799_800 (hHeld.2.2.2.2.2.2.1)), (fr NB799_800 (hHeld.2.2.2.2.2.2.2.1)), (fr NB798_800 (hHeld.2.2.2.2.2.2.2.2.1)), (fr NB798_800 (hHeld.2.2.2.2.2.2.2.2.2.1)), ((cell_far (p := ⟨gb800, _, none⟩) (by first | exact Nat.ne_of_lt (Nat.lt_of_lt_of_le (by have := World.block_lt_of_cell? _ _ hw802_0; first | rwa [add_block] at this | exact this) GW800.out) | (rw [add_block]; exact Nat.ne_of_lt (Nat.lt_of_lt_of_le (by have := World.block_lt_of_cell? _ _ hw802_0; first | rwa [add_block] at this | exact this) GW800.out)) | (show (Addr.add _ _).block ≠ _; rw [add_block]; exact Nat.ne_of_lt (Nat.lt_of_lt_of_le (by have := World.block_lt_of_cell? _ _ hw802_0; first | rwa [add_block] at this | exact this) GW800.out)) | (dsimp only; exact Nat.ne_of_lt (Nat.lt_of_lt_of_le (by have := World.block_lt_of_cell? _ _ hw802_0; first | rwa [add_block] at this | exact this) GW800.out))) _).trans (((cell_far (p := ⟨gb800, _, none⟩) (by first | exact Nat.ne_of_lt (Nat.lt_of_lt_of_le (by have := World.block_lt_of_cell? _ _ hw802_0; first | rwa [add_block] at this | exact this) GW800.out) | (rw [add_block]; exact Nat.ne_of_lt (Nat.lt_of_lt_of_le (by have := World.block_lt_of_cell? _ _ hw802_0; first | rwa [add_block] at this | exact this) GW800.out)) | (show (Addr.add _ _).block ≠ _; rw [add_block]; exact Nat.ne_of_lt (Nat.lt_of_lt_of_le (by have := World.block_lt_of_cell? _ _ hw802_0; first | rwa [add_block] at this | exact this) GW800.out)) | (dsimp only; exact Nat.ne_of_lt (Nat.lt_of_lt_of_le (by have := World.block_lt_of_cell? _ _ hw802_0; first | rwa [add_block] at this | exact this) GW800.out))) _).trans (((cell_far (p := ⟨gb800, _, none⟩) (by first | exact Nat.ne_of_lt (Nat.lt_of_lt_of_le (by have := World.block_lt_of_cell? _ _ hw802_0; first | rwa [add_block] at this | exact this) GW800.out) | (rw [add_block]; exact Nat.ne_of_lt (Nat.lt_of_lt_of_le (by have := World.block_lt_of_cell? _ _ hw802_0; first | rwa [add_block] at this | exact this) GW800.out)) | (show (Addr.add _ _).block ≠ _; rw [add_block]; exact Nat.ne_of_lt (Nat.lt_of_lt_of_le (by have := World.block_lt_of_cell? _ _ hw802_0; first | rwa [add_block] at this | exact this) GW800.out)) | (dsimp only; exact Nat.ne_of_lt (Nat.lt_of_lt_of_le (by have := World.block_lt_of_cell? _ _ hw802_0; first | rwa [add_block] at this | exact this) GW800.out))) _).trans (((cell_far (p := ⟨gb800, _, none⟩) (by first | exact Nat.ne_of_lt (Nat.lt_of_lt_of_le (by have := World.block_lt_of_cell? _ _ hw802_0; first | rwa [add_block] at this | exact this) GW800.out) | (rw [add_block]; exact Nat.ne_of_lt (Nat.lt_of_lt_of_le (by have := World.block_lt_of_cell? _ _ hw802_0; first | rwa [add_block] at this | exact this) GW800.out)) | (show (Addr.add _ _).block ≠ _; rw [add_block]; exact Nat.ne_of_lt (Nat.lt_of_lt_of_le (by have := World.block_lt_of_cell? _ _ hw802_0; first | rwa [add_block] at this | exact this) GW800.out)) | (dsimp only; exact Nat.ne_of_lt (Nat.lt_of_lt_of_le (by have := World.block_lt_of_cell? _ _ hw802_0; first | rwa [add_block] at this | exact this) GW800.out))) _).trans (((cell_far (p := ⟨gb800, _, none⟩) (by first | exact Nat.ne_of_lt (Nat.lt_of_lt_of_le (by have := World.block_lt_of_cell? _ _ hw802_0; first | rwa [add_block] at this | exact this) GW800.out) | (rw [add_block]; exact Nat.ne_of_lt (Nat.lt_of_lt_of_le (by have := World.block_lt_of_cell? _ _ hw802_0; first | rwa [add_block] at this | exact this) GW800.out)) | (show (Addr.add _ _).block ≠ _; rw [add_block]; exact Nat.ne_of_lt (Nat.lt_of_lt_of_le (by have := World.block_lt_of_cell? _ _ hw802_0; first | rwa [add_block] at this | exact this) GW800.out)) | (dsimp only; exact Nat.ne_of_lt (Nat.lt_of_lt_of_le (by have := World.block_lt_of_cell? _ _ hw802_0; first | rwa [add_block] at this | exact this) GW800.out))) _).trans (((cell_far (p := ⟨gb800, _, none⟩) (by first | exact Nat.ne_of_lt (Nat.lt_of_lt_of_le (by have := World.block_lt_of_cell? _ _ hw802_0; first | rwa [add_block] at this | exact this) GW800.out) | (rw [add_block]; exact Nat.ne_of_lt (Nat.lt_of_lt_of_le (by have := World.block_lt_of_cell? _ _ hw802_0; first | rwa [add_block] at this | exact this) GW800.out)) | (show (Addr.add _ _).block ≠ _; rw [add_block]; exact Nat.ne_of_lt (Nat.lt_of_lt_of_le (by have := World.block_lt_of_cell? _ _ hw802_0; first | rwa [add_block] at this | exact this) GW800.out)) | (dsimp only; exact Nat.ne_of_lt (Nat.lt_of_lt_of_le (by have := World.block_lt_of_cell? _ _ hw802_0; first | rwa [add_block] at this | exact this) GW800.out))) _).trans (((cell_far (p := ⟨gb800, _, none⟩) (by first | exact Nat.ne_of_lt (Nat.lt_of_lt_of_le (by have := World.block_lt_of_cell? _ _ hw802_0; first | rwa [add_block] at this | exact this) GW800.out) | (rw [add_block]; exact Nat.ne_of_lt (Nat.lt_of_lt_of_le (by have := World.block_lt_of_cell? _ _ hw802_0; first | rwa [add_block] at this | exact this) GW800.out)) | (show (Addr.add _ _).block ≠ _; rw [add_block]; exact Nat.ne_of_lt (Nat.lt_of_lt_of_le (by have := World.block_lt_of_cell? _ _ hw802_0; first | rwa [add_block] at this | exact this) GW800.out)) | (dsimp only; exact Nat.ne_of_lt (Nat.lt_of_lt_of_le (by have := World.block_lt_of_cell? _ _ hw802_0; first | rwa [add_block] at this | exact this) GW800.out))) _).trans (((cell_far (p := ⟨gb800, _, none⟩) (by first | exact Nat.ne_of_lt (Nat.lt_of_lt_of_le (by have := World.block_lt_of_cell? _ _ hw802_0; first | rwa [add_block] at this | exact this) GW800.out) | (rw [add_block]; exact Nat.ne_of_lt (Nat.lt_of_lt_of_le (by have := World.block_lt_of_cell? _ _ hw802_0; first | rwa [add_block] at this | exact this) GW800.out)) | (show (Addr.add _ _).block ≠ _; rw [add_block]; exact Nat.ne_of_lt (Nat.lt_of_lt_of_le (by have := World.block_lt_of_cell? _ _ hw802_0; first | rwa [add_block] at this | exact this) GW800.out)) | (dsimp only; exact Nat.ne_of_lt (Nat.lt_of_lt_of_le (by have := World.block_lt_of_cell? _ _ hw802_0; first | rwa [add_block] at this | exact this) GW800.out))) _).trans (hHeld.2.2.2.2.2.2.2.2.2.2))))))))))))))))⟩
    clear hK K
    refine pw_ 10 (some 5) (bm 11 2047) HT_ ?_
    refine done_ (done_of HT_.out (by kernel_rfl)) ?_
    try go_wp2
    refine bodyPost_ret (results_ct rfl _ _ gb800 55 #[.int .i64 a1_0, .int .i64 a1_1, .int .i64 t801, .int .i64 a1_3, .bool a1_4, .bool a1_5, .bool a1_6, .bool a1_7] (0, 0) _ rfl (bq BK800.out) Try.underlying55 rfl (by kernel_rfl)) rfl ?_
    exact ⟨by first | rfl | (simp [errW_none, errW_some] <;> rfl) | (simp only [← hji5]; first | rfl | (simp [errW_none, errW_some] <;> rfl)) | (simp [*, errW_none, errW_some] <;> rfl), bw HB.out⟩
   ·rw [if_neg c7] at H
    exact absurd H (by simp)
  ·rw [if_neg c6] at H
   exact absurd H (by simp)
 ·rw [if_neg c3] at H
  have c3b0 : ((l0_0.length : Int) == 512) = false := beq_eq_false_iff_ne.mpr c3
  have c3b1 : ((l0_0.length : Int) != 512) = true := bne_iff_ne.mpr c3
  simp only [Option.some.injEq, Prod.mk.injEq] at H
  obtain ⟨rfl, rfl, rfl, rfl, rfl, rfl, rfl, rfl, rfl⟩ := H
  go_enter Try.func93, Try.ntmps93
  go_wp2_with (first | ((with_reducible refine gd 2 ?_); refine bx (N := 2) (cs := #[.slice A0_0 l0_0.length c0_0, .int .i64 a0_1]) (t := 32) ?_; intro gb798 hg w27 hbox hb; have BK798 := am (hbox); have GW798 := am ((gs hg (bw HB.out))); have GE798 := am ((gs hg (bw HB.out))); replace HB := am (below_step (bw HB.out) hb); clear hb hbox hg) | ((with_reducible refine gd 3 ?_); refine bx (N := 3) (cs := #[.int .i64 a1_0, .int .i64 a1_1, .int .i64 a1_2, .int .i64 a1_3, .bool a1_4, .bool a1_5, .bool a1_6, .bool a1_7]) (t := 55) ?_; intro gb799 hg w28 hbox hb; have BK799 := am (hbox); have GW799 := am ((gs hg (bw HB.out))); have GE799 := am ((gs hg (bw HB.out))); replace HB := am (below_step (bw HB.out) hb); have NB798_799 := am ((ga hg BK798.out)); have NB799_798 := am ((gc hg BK798.out)); replace BK798 := am (bb BK798 hb); clear hb hbox hg) | ((with_reducible refine gd 4 ?_); refine bz (N := 4) ?_; intro gb800 hg w29 hbox hb; have BK800 := am (hbox); have GW800 := am ((gs hg (bw HB.out))); have GE800 := am ((gs hg (bw HB.out))); replace HB := am (below_step (bw HB.out) hb); have NB798_800 := am ((ga hg BK798.out)); have NB800_798 := am ((gc hg BK798.out)); replace BK798 := am (bb BK798 hb); have NB799_800 := am ((ga hg BK799.out)); have NB800_799 := am ((gc hg BK799.out)); replace BK799 := am (bb BK799 hb); clear hb hbox hg; have p_ := NB798_799.out; have p_ := NB798_800.out; obtain ⟨hcz32_0, hcz32_1⟩ := ce2 BK798; obtain ⟨hfz32_0, hfz32_1⟩ := fz2 BK798; have p_ := NB799_800.out; obtain ⟨hcz34_0, hcz34_1, hcz34_2, hcz34_3, hcz34_4, hcz34_5, hcz34_6, hcz34_7⟩ := ce8 BK799; obtain ⟨hfz34_0, hfz34_1, hfz34_2, hfz34_3, hfz34_4, hfz34_5, hfz34_6, hfz34_7⟩ := fz8 BK799; obtain ⟨hcz35_0, hcz35_1, hcz35_2, hcz35_3, hcz35_4, hcz35_5, hcz35_6, hcz35_7⟩ := ce8 BK800; obtain ⟨hfz35_0, hfz35_1, hfz35_2, hfz35_3, hfz35_4, hfz35_5, hfz35_6, hfz35_7⟩ := fz8 BK800))
  refine bodyPost_ret (results_ct rfl _ _ gb800 55 #[.int .i64 a1_0, .int .i64 a1_1, .int .i64 a1_2, .int .i64 a1_3, .bool a1_4, .bool a1_5, .bool a1_6, .bool a1_7] (0, 0) _ rfl (bq BK800.out) Try.underlying55 rfl (by kernel_rfl)) rfl ?_
  exact ⟨rt, bw HB.out⟩

/-! ### spec_l7Back (mine) -/
def spullF (ram : List Int) (k : Cp) : Cp × Int := if ram.length = 512 then ({ k with S := wrap64 (k.S + 1) % 256 }, rd ram (256 + wrap64 (k.S + 1) % 256) % 256) else (k, 0)
theorem spull_ex (ram : List Int) (b : Int) (k : Cp) : ∃ s1 a, spec_Pull.f ram b k.A k.X k.S k.P k.Z k.N k.C k.I = some (k.A, k.X, s1, k.P, k.Z, k.N, k.C, k.I, a) ∧ spullF ram k = (⟨k.A, k.X, s1, k.P, k.Z, k.N, k.C, k.I⟩, a) := by
 unfold spullF spec_Pull.f
 by_cases h : ram.length = 512
 ·refine ⟨wrap64 (k.S + 1) % 256, rd ram (256 + wrap64 (k.S + 1) % 256) % 256, ?_, by rw [if_pos h]⟩
  rw [if_pos (by omega)]
  unfold spec_Byte.f
  simp only [Option.bind_some, and255]
  rw [show wrap64 (256 + wrap64 (k.S + 1) % 256) = 256 + wrap64 (k.S + 1) % 256 by unfold wrap64; omega, if_pos (by omega), if_pos (by omega)]
 ·refine ⟨k.S, 0, ?_, by rw [if_neg h]⟩
  rw [if_neg (by omega)]
theorem sjoin_is (a b : Int) : spec_Join.f a b = some (a % 256 + 256 * (b % 256)) := by
 unfold spec_Join.f spec_Byte.f
 simp only [Option.bind_some, and255]
 rw [show wrap64 (256 * (b % 256)) = 256 * (b % 256) by unfold wrap64; omega, show wrap64 (a % 256 + 256 * (b % 256)) = a % 256 + 256 * (b % 256) by unfold wrap64; omega]
def sbackF (ram : List Int) (k : Cp) : Cp := { (spullF ram (spullF ram k).1).1 with P := (spullF ram k).2 % 256 + 256 * ((spullF ram (spullF ram k).1).2 % 256) }
theorem blk8 {w : World} {r g : Nat} {o : Obj} (h : w.heap[g]? = some o) (hn : g ≠ r) (u0 u1 u2 u3 u4 u5 u6 u7 : Value) :
  ((((((((w.setCell ⟨r, 0, none⟩ u0).setCell ⟨r, 1, none⟩ u1).setCell ⟨r, 2, none⟩ u2).setCell ⟨r, 3, none⟩ u3).setCell ⟨r, 4, none⟩ u4).setCell ⟨r, 5, none⟩ u5).setCell ⟨r, 6, none⟩ u6).setCell ⟨r, 7, none⟩ u7).heap[g]? = some o := (heap8 _ _ g _ _ _ _ _ _ _ _ hn).trans h
theorem sback_calls (A0 : Option Addr) (c0 : Nat) (l0 : List Int) (b : Int) (k : Cp) (w : World) (hr : Kd.C (Kd.int .i64) w A0 l0.length l0) (hc : l0.length ≤ c0) :
  Calls Try.prog 92 #[.agg #[.slice A0 l0.length c0, .int .i64 b], .agg k.cells] w fun e w' => e = .returned (.agg (sbackF l0 k).cells) ∧ Below w.heap.size w w' := by
 obtain ⟨A, X, S, P, Z, N, C, I⟩ := k
 obtain ⟨s1, a1, hp1, e1⟩ := spull_ex l0 b ⟨A, X, S, P, Z, N, C, I⟩
 obtain ⟨s2, a2, hp2, e2⟩ := spull_ex l0 b ⟨A, X, s1, P, Z, N, C, I⟩
 unfold sbackF
 rw [e1]
 simp only
 simp only at e2
 rw [e2]
 have hj := sjoin_is a1 a2
 generalize a1 % 256 + 256 * (a2 % 256) = pj at *
 have HP1 := am hp1
 have HP2 := am hp2
 have HJ := am hj
 have HR := am hr
 have HC := am hc
 clear hp1 hp2 hj hr hc e1 e2
 have hu37 := Try.underlying32
 have hu38 := Try.underlying55
 go_enter Try.func92, Try.ntmps92
 go_upto_region 2 with (first | ((with_reducible refine gd 2 ?_); refine bx (N := 2) (cs := #[.slice A0 l0.length c0, .int .i64 b]) (t := 32) ?_; intro g2 hg w1 hbox hb; have A2 := am hbox; have HB := am (below_step (Below.refl w.heap.size w) hb); have G2 : Aside0 (w.heap.size ≤ g2) := ⟨by rw [hg]; exact Nat.le_refl _⟩; clear hbox hb hg) | ((with_reducible refine gd 3 ?_); refine bx (N := 3) (cs := #[.int .i64 A, .int .i64 X, .int .i64 S, .int .i64 P, .bool Z, .bool N, .bool C, .bool I]) (t := 55) ?_; intro g3 hg w2 hbox hb; have B2 := am (blk_below A2.out hb); have B3 := am hbox; have G3 : Aside0 (w.heap.size ≤ g3) := ⟨by rw [hg]; exact below_size HB.out⟩; have HB2 := am (below_step HB.out hb); clear hbox hb hg A2 HB; have HB := HB2; clear HB2) | ((with_reducible refine gd 4 ?_); refine bz (N := 4) ?_; intro g6 hg w3 hbox hb; have n3 : g3 ≠ g6 := (by rw [hg]; exact Nat.ne_of_lt (blk_lt B3.out)); have n6 : g6 ≠ g3 := Ne.symm n3; have NE := am n6; have H2 := am (blk_below B2.out hb); have H3 := am (blk_below B3.out hb); have H6 := am hbox; have G6 : Aside0 (w.heap.size ≤ g6) := ⟨by rw [hg]; exact below_size HB.out⟩; have HB2 := am (below_step HB.out hb); clear hbox hb hg B2 B3 HB; have HB := HB2; clear HB2; have z0 : w3.cell? ⟨g2, 0, none⟩ = some (.slice A0 l0.length c0) := (blk_cell H2.out 0).trans rfl; have z1 : w3.cell? ⟨g2, 1, none⟩ = some (.int .i64 b) := (blk_cell H2.out 1).trans rfl; obtain ⟨⟨y0, y1, y2, y3, y4, y5, y6, y7⟩, ⟨fy0, fy1, fy2, fy3, fy4, fy5, fy6, fy7⟩⟩ := cells8 (H3.out)) | (go_at_call 93; refine (spec_Pull.calls A0 c0 l0 b A X S P Z N C I A X s1 P Z N C I a1 _ (Kd.C_below HR.out HB.out) HC.out HP1.out).mono ?_; rintro e w5 ⟨rfl, hb⟩; have I2 := am (blk_below H2.out hb); have I3 := am (blk_below H3.out hb); have I6 := am (blk_below H6.out hb); have IB := am (below_step HB.out hb); clear hb; obtain ⟨⟨p0, p1, p2, p3, p4, p5, p6, p7⟩, ⟨fp0, fp1, fp2, fp3, fp4, fp5, fp6, fp7⟩⟩ := cells8 (I3.out)))
 have J3 : Aside0 (((((((((w5.setCell ⟨g3, 0, none⟩ (.int .i64 A)).setCell ⟨g3, 1, none⟩ (.int .i64 X)).setCell ⟨g3, 2, none⟩ (.int .i64 s1)).setCell ⟨g3, 3, none⟩ (.int .i64 P)).setCell ⟨g3, 4, none⟩ (.bool Z)).setCell ⟨g3, 5, none⟩ (.bool N)).setCell ⟨g3, 6, none⟩ (.bool C)).setCell ⟨g3, 7, none⟩ (.bool I)).heap[g3]? = some (.cells #[.int .i64 A, .int .i64 X, .int .i64 s1, .int .i64 P, .bool Z, .bool N, .bool C, .bool I] 55 (0, 0))) := ⟨put8 I3.out _ _ _ _ _ _ _ _⟩
 have J2 : Aside0 (((((((((w5.setCell ⟨g3, 0, none⟩ (.int .i64 A)).setCell ⟨g3, 1, none⟩ (.int .i64 X)).setCell ⟨g3, 2, none⟩ (.int .i64 s1)).setCell ⟨g3, 3, none⟩ (.int .i64 P)).setCell ⟨g3, 4, none⟩ (.bool Z)).setCell ⟨g3, 5, none⟩ (.bool N)).setCell ⟨g3, 6, none⟩ (.bool C)).setCell ⟨g3, 7, none⟩ (.bool I)).heap[g2]? = some (.cells #[.slice A0 l0.length c0, .int .i64 b] 32 (0, 0))) := ⟨blk8 I2.out (blk_ne I2.out I3.out (by decide)) _ _ _ _ _ _ _ _⟩
 have J6 : Aside0 (((((((((w5.setCell ⟨g3, 0, none⟩ (.int .i64 A)).setCell ⟨g3, 1, none⟩ (.int .i64 X)).setCell ⟨g3, 2, none⟩ (.int .i64 s1)).setCell ⟨g3, 3, none⟩ (.int .i64 P)).setCell ⟨g3, 4, none⟩ (.bool Z)).setCell ⟨g3, 5, none⟩ (.bool N)).setCell ⟨g3, 6, none⟩ (.bool C)).setCell ⟨g3, 7, none⟩ (.bool I)).heap[g6]? = some (.cells #[.int .i64 0, .int .i64 0, .int .i64 0, .int .i64 0, .bool false, .bool false, .bool false, .bool false] 55 (0, 0))) := ⟨blk8 I6.out NE.out _ _ _ _ _ _ _ _⟩
 have JB : Aside0 (Below w.heap.size w ((((((((w5.setCell ⟨g3, 0, none⟩ (.int .i64 A)).setCell ⟨g3, 1, none⟩ (.int .i64 X)).setCell ⟨g3, 2, none⟩ (.int .i64 s1)).setCell ⟨g3, 3, none⟩ (.int .i64 P)).setCell ⟨g3, 4, none⟩ (.bool Z)).setCell ⟨g3, 5, none⟩ (.bool N)).setCell ⟨g3, 6, none⟩ (.bool C)).setCell ⟨g3, 7, none⟩ (.bool I))) := ⟨below8 IB.out G3.out _ _ _ _ _ _ _ _⟩
 generalize ((((((((w5.setCell ⟨g3, 0, none⟩ (.int .i64 A)).setCell ⟨g3, 1, none⟩ (.int .i64 X)).setCell ⟨g3, 2, none⟩ (.int .i64 s1)).setCell ⟨g3, 3, none⟩ (.int .i64 P)).setCell ⟨g3, 4, none⟩ (.bool Z)).setCell ⟨g3, 5, none⟩ (.bool N)).setCell ⟨g3, 6, none⟩ (.bool C)).setCell ⟨g3, 7, none⟩ (.bool I)) = w6 at J3 J2 J6 JB ⊢
 clear H2 H3 H6 HB I2 I3 I6 IB
 have H2 := J2
 have H3 := J3
 have H6 := J6
 have HB := JB
 clear J2 J3 J6 JB
 have qz0 : w6.cell? ⟨g2, 0, none⟩ = some (.slice A0 l0.length c0) := (blk_cell H2.out 0).trans rfl
 have qz1 : w6.cell? ⟨g2, 1, none⟩ = some (.int .i64 b) := (blk_cell H2.out 1).trans rfl
 obtain ⟨⟨q0, q1, q2, q3, q4, q5, q6, q7⟩, ⟨fq0, fq1, fq2, fq3, fq4, fq5, fq6, fq7⟩⟩ := cells8 (H3.out)
 go_upto_region 3 with (go_at_call 93; refine (spec_Pull.calls A0 c0 l0 b A X s1 P Z N C I A X s2 P Z N C I a2 _ (Kd.C_below HR.out HB.out) HC.out HP2.out).mono ?_; rintro e w7 ⟨rfl, hb⟩; have I2 := am (blk_below H2.out hb); have I3 := am (blk_below H3.out hb); have I6 := am (blk_below H6.out hb); have IB := am (below_step HB.out hb); clear hb; obtain ⟨⟨u0, u1, u2, u3, u4, u5, u6, u7⟩, ⟨fu0, fu1, fu2, fu3, fu4, fu5, fu6, fu7⟩⟩ := cells8 (I3.out))
 have J3 : Aside0 (((((((((w7.setCell ⟨g3, 0, none⟩ (.int .i64 A)).setCell ⟨g3, 1, none⟩ (.int .i64 X)).setCell ⟨g3, 2, none⟩ (.int .i64 s2)).setCell ⟨g3, 3, none⟩ (.int .i64 P)).setCell ⟨g3, 4, none⟩ (.bool Z)).setCell ⟨g3, 5, none⟩ (.bool N)).setCell ⟨g3, 6, none⟩ (.bool C)).setCell ⟨g3, 7, none⟩ (.bool I)).heap[g3]? = some (.cells #[.int .i64 A, .int .i64 X, .int .i64 s2, .int .i64 P, .bool Z, .bool N, .bool C, .bool I] 55 (0, 0))) := ⟨put8 I3.out _ _ _ _ _ _ _ _⟩
 have J2 : Aside0 (((((((((w7.setCell ⟨g3, 0, none⟩ (.int .i64 A)).setCell ⟨g3, 1, none⟩ (.int .i64 X)).setCell ⟨g3, 2, none⟩ (.int .i64 s2)).setCell ⟨g3, 3, none⟩ (.int .i64 P)).setCell ⟨g3, 4, none⟩ (.bool Z)).setCell ⟨g3, 5, none⟩ (.bool N)).setCell ⟨g3, 6, none⟩ (.bool C)).setCell ⟨g3, 7, none⟩ (.bool I)).heap[g2]? = some (.cells #[.slice A0 l0.length c0, .int .i64 b] 32 (0, 0))) := ⟨blk8 I2.out (blk_ne I2.out I3.out (by decide)) _ _ _ _ _ _ _ _⟩
 have J6 : Aside0 (((((((((w7.setCell ⟨g3, 0, none⟩ (.int .i64 A)).setCell ⟨g3, 1, none⟩ (.int .i64 X)).setCell ⟨g3, 2, none⟩ (.int .i64 s2)).setCell ⟨g3, 3, none⟩ (.int .i64 P)).setCell ⟨g3, 4, none⟩ (.bool Z)).setCell ⟨g3, 5, none⟩ (.bool N)).setCell ⟨g3, 6, none⟩ (.bool C)).setCell ⟨g3, 7, none⟩ (.bool I)).heap[g6]? = some (.cells #[.int .i64 0, .int .i64 0, .int .i64 0, .int .i64 0, .bool false, .bool false, .bool false, .bool false] 55 (0, 0))) := ⟨blk8 I6.out NE.out _ _ _ _ _ _ _ _⟩
 have JB : Aside0 (Below w.heap.size w ((((((((w7.setCell ⟨g3, 0, none⟩ (.int .i64 A)).setCell ⟨g3, 1, none⟩ (.int .i64 X)).setCell ⟨g3, 2, none⟩ (.int .i64 s2)).setCell ⟨g3, 3, none⟩ (.int .i64 P)).setCell ⟨g3, 4, none⟩ (.bool Z)).setCell ⟨g3, 5, none⟩ (.bool N)).setCell ⟨g3, 6, none⟩ (.bool C)).setCell ⟨g3, 7, none⟩ (.bool I))) := ⟨below8 IB.out G3.out _ _ _ _ _ _ _ _⟩
 generalize ((((((((w7.setCell ⟨g3, 0, none⟩ (.int .i64 A)).setCell ⟨g3, 1, none⟩ (.int .i64 X)).setCell ⟨g3, 2, none⟩ (.int .i64 s2)).setCell ⟨g3, 3, none⟩ (.int .i64 P)).setCell ⟨g3, 4, none⟩ (.bool Z)).setCell ⟨g3, 5, none⟩ (.bool N)).setCell ⟨g3, 6, none⟩ (.bool C)).setCell ⟨g3, 7, none⟩ (.bool I)) = w9 at J3 J2 J6 JB ⊢
 clear H2 H3 H6 HB I2 I3 I6 IB
 have H2 := J2
 have H3 := J3
 have H6 := J6
 have HB := JB
 clear J2 J3 J6 JB
 have vz0 : w9.cell? ⟨g2, 0, none⟩ = some (.slice A0 l0.length c0) := (blk_cell H2.out 0).trans rfl
 have vz1 : w9.cell? ⟨g2, 1, none⟩ = some (.int .i64 b) := (blk_cell H2.out 1).trans rfl
 obtain ⟨⟨v0, v1, v2, v3, v4, v5, v6, v7⟩, ⟨fv0, fv1, fv2, fv3, fv4, fv5, fv6, fv7⟩⟩ := cells8 (H3.out)
 go_wp2_with (go_at_call 82; refine (spec_Join.calls a1 a2 pj _ HJ.out).mono ?_; rintro e w8 ⟨rfl, nd, rfl⟩; obtain ⟨⟨x0, x1, x2, x3, x4, x5, x6, x7⟩, ⟨fx0, fx1, fx2, fx3, fx4, fx5, fx6, fx7⟩⟩ := cells8 (H6.out))
 refine bodyPost_ret (results_cell_row rfl _ _ g6 55 #[.int .i64 A, .int .i64 X, .int .i64 s2, .int .i64 pj, .bool Z, .bool N, .bool C, .bool I] (0, 0) _ rfl (put8 (blk_far (blk_drewN H6.out nd) NE.out _) _ _ _ _ _ _ _ _) hu38 rfl (by kernel_rfl)) rfl ?_
 exact ⟨rfl, below8 (below_set (pw_below_drewN HB.out nd) G3.out) G6.out _ _ _ _ _ _ _ _⟩

end Go.Proofs.Ytmkccgbfgebfbaa.MFnCalled
