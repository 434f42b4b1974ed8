/- Walks of functions that the law FnEntered reaches: each comes to just what its Lean function says. (Begun as the texts that print.sh wrote for this claim; some of them, and those that it does not write, are mine.) No condition. -/
import Derived.Test.YtmkccgbfgebfbaaMFnEnteredx1
namespace Go.Proofs.Ytmkccgbfgebfbaa.MFnEntered
open Go.RowKit Go.Proofs.YtmkccgbfgebfbaaW.PrintWords Go.Proofs.YtmkccgbfgebfbaaW.PrintLast Go.Proofs.YtmkccgbfgebfbaaW.PrintMore
attribute [local go_sem] max2_int min2_int max_two min_two max_three min_three max_four min_four   -- for this text's walks alone
set_option linter.unusedVariables false
set_option linter.unusedSimpArgs false

/-! ### impl_reckon (mine) -/
theorem cells8 {w : World} {g : Nat} {t : TypeId} {a0 a1 a2 a3 a4 a5 a6 a7 : Value} (h : w.heap[g]? = some (.cells #[a0, a1, a2, a3, a4, a5, a6, a7] t (0, 0))) : (w.cell? ⟨g, 0, none⟩ = some a0 ∧ w.cell? ⟨g, 1, none⟩ = some a1 ∧ w.cell? ⟨g, 2, none⟩ = some a2 ∧ w.cell? ⟨g, 3, none⟩ = some a3 ∧ w.cell? ⟨g, 4, none⟩ = some a4 ∧ w.cell? ⟨g, 5, none⟩ = some a5 ∧ w.cell? ⟨g, 6, none⟩ = some a6 ∧ w.cell? ⟨g, 7, none⟩ = some a7) ∧ (w.frozen? ⟨g, 0, none⟩ = false ∧ w.frozen? ⟨g, 1, none⟩ = false ∧ w.frozen? ⟨g, 2, none⟩ = false ∧ w.frozen? ⟨g, 3, none⟩ = false ∧ w.frozen? ⟨g, 4, none⟩ = false ∧ w.frozen? ⟨g, 5, none⟩ = false ∧ w.frozen? ⟨g, 6, none⟩ = false ∧ w.frozen? ⟨g, 7, none⟩ = false) :=
 ⟨⟨(blk_cell h 0).trans rfl, (blk_cell h 1).trans rfl, (blk_cell h 2).trans rfl, (blk_cell h 3).trans rfl, (blk_cell h 4).trans rfl, (blk_cell h 5).trans rfl, (blk_cell h 6).trans rfl, (blk_cell h 7).trans rfl⟩, ⟨blk_frozen h 0, blk_frozen h 1, blk_frozen h 2, blk_frozen h 3, blk_frozen h 4, blk_frozen h 5, blk_frozen h 6, blk_frozen h 7⟩⟩
def setAK (k : Cp) (v : Int) : Cp := { k with A := v % 256, Z := v % 256 == 0, N := decide (v % 256 > 127) }
def setXK (k : Cp) (v : Int) : Cp := { k with X := v % 256, Z := v % 256 == 0, N := decide (v % 256 > 127) }
theorem seta_ex (k : Cp) (v : Int) : ∃ s1 sz sn, impl_SetA.f k.A k.X k.S k.P k.Z k.N k.C k.I v = some (s1, k.X, k.S, k.P, sz, sn, k.C, k.I) ∧ setAK k v = ⟨s1, k.X, k.S, k.P, sz, sn, k.C, k.I⟩ := by
 refine ⟨_, _, _, ?_, rfl⟩
 unfold impl_SetA.f impl_Signs.f impl_Byte.f
 simp only [Option.bind_some, and255]
theorem setx_ex (k : Cp) (v : Int) : ∃ s1 sz sn, impl_SetX.f k.A k.X k.S k.P k.Z k.N k.C k.I v = some (k.A, s1, k.S, k.P, sz, sn, k.C, k.I) ∧ setXK k v = ⟨k.A, s1, k.S, k.P, sz, sn, k.C, k.I⟩ := by
 refine ⟨_, _, _, ?_, rfl⟩
 unfold impl_SetX.f impl_Signs.f impl_Byte.f
 simp only [Option.bind_some, and255]
/-- A call that changes the processor alone. -/
structure KeptC (w W : World) (c : Nat) : Prop where
 kept : Kept w W (fun j => j = c)
 os : W.os = w.os
 tape : W.tape = w.tape
 out : W.output = w.output
theorem KeptC.of_below {w W : World} {c : Nat} (h : Below w.heap.size w W) : KeptC w W c := ⟨Kept.of_below h _, h.os, h.tape, h.output⟩
theorem KeptC.drew {w W : World} {c : Nat} (h : KeptC w W c) : KeptC w W.drew c := ⟨h.kept.drew, h.os, h.tape, h.out⟩
theorem KeptC.drewN {w W : World} {c : Nat} (h : KeptC w W c) (m : Nat) : KeptC w (W.drewN m) c := ⟨h.kept.drewN m, h.os, h.tape, h.out⟩
theorem KeptC.below {w W W2 : World} {c : Nat} (h : KeptC w W c) (hb : Below W.heap.size W W2) : KeptC w W2 c := ⟨h.kept.below hb, hb.os.trans h.os, hb.tape.trans h.tape, hb.output.trans h.out⟩
theorem kept1 {w W : World} {r : Nat} (h : KeptC w W r) (i : Nat) (u : Value) : KeptC w (W.setCell ⟨r, i, none⟩ u) r := ⟨kept_set h.kept rfl u, h.os, h.tape, h.out⟩
theorem kept8 {w W : World} {r : Nat} (h : KeptC w W r) (u0 u1 u2 u3 u4 u5 u6 u7 : Value) :
  KeptC w ((((((((W.setCell ⟨r, 0, none⟩ u0).setCell ⟨r, 1, none⟩ u1).setCell ⟨r, 2, none⟩ u2).setCell ⟨r, 3, none⟩ u3).setCell ⟨r, 4, none⟩ u4).setCell ⟨r, 5, none⟩ u5).setCell ⟨r, 6, none⟩ u6).setCell ⟨r, 7, none⟩ u7) r :=
 kept1 (kept1 (kept1 (kept1 (kept1 (kept1 (kept1 (kept1 h _ _) _ _) _ _) _ _) _ _) _ _) _ _) _ _
theorem MC.cpuTo {w0 w W : World} {x c : Nat} {rv : Value} {b : Int} {k k' : Cp} {ram : List Int} (h : MC w0 w x c rv b k ram) (hc : W.heap[c]? = some (.cells k'.cells 55 (0, 0))) (hk : KeptC w W c) : MC w0 W x c rv b k' ram :=
 ⟨blk_kept h.mem hk.kept h.ne, hc, Kd.R_mono (Kd.R_kept (Kd.R_types h.row h.cpu (by decide)) hk.kept (fun _ hk => hk.2)) (fun _ hk => hk.1), h.hx, h.hc,
  ⟨hk.os.trans h.below.os, hk.tape.trans h.below.tape, hk.out.trans h.below.output, Nat.le_trans h.below.size hk.kept.1, fun j hj => (hk.kept.2 j (by have := h.below.size; omega) (by have := h.hc; omega)).trans (h.below.block j hj)⟩⟩
def addK (k : Cp) (v : Int) : Cp := { setAK k ((impl_Add8.f k.A v k.C).getD (0, false)).1 with C := ((impl_Add8.f k.A v k.C).getD (0, false)).2 }
def subK (k : Cp) (v : Int) : Cp := { setAK k ((impl_Sub8.f k.A v k.C).getD (0, false)).1 with C := ((impl_Sub8.f k.A v k.C).getD (0, false)).2 }
def cmpK (k : Cp) (v : Int) : Cp := { k with Z := ((impl_Sub8.f k.A v true).getD (0, false)).1 % 256 == 0, N := decide (((impl_Sub8.f k.A v true).getD (0, false)).1 % 256 > 127), C := ((impl_Sub8.f k.A v true).getD (0, false)).2 }
theorem add8_ex (a b : Int) (c : Bool) : ∃ s q, impl_Add8.f a b c = some (s, q) := by
 unfold impl_Add8.f impl_Byte.f impl_flag.f
 cases c <;> exact ⟨_, _, rfl⟩
theorem sub8_ex (a b : Int) (c : Bool) : ∃ s q, impl_Sub8.f a b c = some (s, q) := by
 unfold impl_Sub8.f impl_Byte.f impl_flag.f
 cases c <;> exact ⟨_, _, rfl⟩
theorem signs_ex (a : Int) : ∃ z n, impl_Signs.f a = some (z, n) ∧ (a % 256 == 0) = z ∧ decide (a % 256 > 127) = n := by
 refine ⟨_, _, ?_, rfl, rfl⟩
 unfold impl_Signs.f impl_Byte.f
 simp only [Option.bind_some, and255]
theorem addK_ex (k : Cp) (v : Int) : ∃ sm cy s1 sz sn, impl_Add8.f k.A v k.C = some (sm, cy) ∧ impl_SetA.f k.A k.X k.S k.P k.Z k.N k.C k.I sm = some (s1, k.X, k.S, k.P, sz, sn, k.C, k.I) ∧ addK k v = ⟨s1, k.X, k.S, k.P, sz, sn, cy, k.I⟩ := by
 obtain ⟨sm, cy, h⟩ := add8_ex k.A v k.C
 obtain ⟨s1, sz, sn, hf, ek⟩ := seta_ex k sm
 refine ⟨sm, cy, s1, sz, sn, h, hf, ?_⟩
 unfold addK
 rw [h, Option.getD_some, ek]
theorem subK_ex (k : Cp) (v : Int) : ∃ sm cy s1 sz sn, impl_Sub8.f k.A v k.C = some (sm, cy) ∧ impl_SetA.f k.A k.X k.S k.P k.Z k.N k.C k.I sm = some (s1, k.X, k.S, k.P, sz, sn, k.C, k.I) ∧ subK k v = ⟨s1, k.X, k.S, k.P, sz, sn, cy, k.I⟩ := by
 obtain ⟨sm, cy, h⟩ := sub8_ex k.A v k.C
 obtain ⟨s1, sz, sn, hf, ek⟩ := seta_ex k sm
 refine ⟨sm, cy, s1, sz, sn, h, hf, ?_⟩
 unfold subK
 rw [h, Option.getD_some, ek]
theorem cmpK_ex (k : Cp) (v : Int) : ∃ sm cy sz sn, impl_Sub8.f k.A v true = some (sm, cy) ∧ impl_Signs.f sm = some (sz, sn) ∧ cmpK k v = ⟨k.A, k.X, k.S, k.P, sz, sn, cy, k.I⟩ := by
 obtain ⟨sm, cy, h⟩ := sub8_ex k.A v true
 obtain ⟨sz, sn, hs, e1, e2⟩ := signs_ex sm
 refine ⟨sm, cy, sz, sn, h, hs, ?_⟩
 unfold cmpK
 rw [h, Option.getD_some, e1, e2]
set_option maxRecDepth 100000 in
set_option maxHeartbeats 4000000 in
theorem reckon_1 {w : World} {c : Nat} {A X S P : Int} {Z N C I : Bool} (hc : w.heap[c]? = some (.cells #[.int .i64 A, .int .i64 X, .int .i64 S, .int .i64 P, .bool Z, .bool N, .bool C, .bool I] 55 (0, 0))) (arg v : Int) :
  Calls Try.prog 109 #[.pointer (some ⟨c, 0, none⟩), .agg #[.int .i64 1, .int .i64 arg], .int .i64 v] w fun e w' => e = .returned (.bool true) ∧ w'.heap[c]? = some (.cells (setAK (⟨A, X, S, P, Z, N, C, I⟩ : Cp) arg).cells 55 (0, 0)) ∧ KeptC w w' c := by
 obtain ⟨s1, sz, sn, hf, ek⟩ := seta_ex (⟨A, X, S, P, Z, N, C, I⟩ : Cp) arg
 rw [ek]
 clear ek
 have HF := Aside0.mk hf
 clear hf
 have hu38 := Try.underlying55
 have hu68 := Try.underlying51
 have HC0 := Aside0.mk hc
 clear hc
 go_enter Try.func109, Try.ntmps109
 go_wp2_with (first | ((with_reducible refine gate_dst (N := 4) rfl ?_); refine bx (N := 4) (cs := #[.int .i64 1, .int .i64 arg]) (t := 51) ?_; intro g hg w1 hbox hb; have HC := Aside0.mk (blk_below HC0.out hb); have HG := Aside0.mk hbox; have HB1 := Aside0.mk hb; have hb1 : w1.cell? ⟨g, 0, none⟩ = some (.int .i64 1) := (blk_cell hbox 0).trans rfl; have hb2 : w1.cell? ⟨g, 1, none⟩ = some (.int .i64 arg) := (blk_cell hbox 1).trans rfl; clear HC0 hb hbox hg; obtain ⟨⟨y0, y1, y2, y3, y4, y5, y6, y7⟩, ⟨fy0, fy1, fy2, fy3, fy4, fy5, fy6, fy7⟩⟩ := cells8 (HC.out)))
 refine free_ (n := 9) (e := 7) (g := 0) (T := (true, [([], []), ([], []), ([1], [1]), ([2], [2]), ([], []), ([4], [4]), ([3, 5], [3, 5]), ([0, 0, 1, 2, 3, 4, 5, 6], [0]), ([7, 6, 6, 0, 1, 2, 3, 4, 5, 6], [6, 7])])) #[true, true, true, true, true, true, true, false, false] #[false, true, true, true, true, true, true, false, false] [18, 19, 20, 21, 22, 23, 24] (fun j u w' => match j with
  | 0 => u = .pointer (some ⟨c, 0, none⟩)
  | 1 => u = .pointer (some ⟨c, 0, none⟩)
  | 2 => u = .pointer (some ⟨c, 0, none⟩)
  | 3 => u = .agg #[.int .i64 A, .int .i64 X, .int .i64 S, .int .i64 P, .bool Z, .bool N, .bool C, .bool I]
  | 4 => u = .pointer (some ⟨g, 1, none⟩)
  | 5 => u = .int .i64 arg
  | 6 => u = .agg #[.int .i64 s1, .int .i64 X, .int .i64 S, .int .i64 P, .bool sz, .bool sn, .bool C, .bool I]
  | _ => False)
  (by kernel_rfl) rfl (by kernel_rfl) (by kernel_rfl) (by kernel_rfl) (any_of (T := (true, [([], []), ([], []), ([1], [1]), ([2], [2]), ([], []), ([4], [4]), ([3, 5], [3, 5]), ([0, 0, 1, 2, 3, 4, 5, 6], [0]), ([7, 6, 6, 0, 1, 2, 3, 4, 5, 6], [6, 7])])) (by kernel_rfl) (by kernel_rfl)) (fun _ _ _ _ h => h) ?streckon1 ?spreckon1 ?lareckon1 ?enreckon1
 case streckon1 =>
  intro j u W W' h hb
  exact h
 case spreckon1 =>
  intro i hi o ho a W hB hout hneed K hK
  have HBW := Aside0.mk hB
  have hcase : i = 0 ∨ i = 1 ∨ i = 2 ∨ i = 3 ∨ i = 4 ∨ i = 5 ∨ i = 6 := by omega
  clear hB
  rcases hcase with rfl | rfl | rfl | rfl | rfl | rfl | rfl
  ·obtain rfl := Option.some.inj ho
   have h0 : a.eval (.tmp 0) = .pointer (some ⟨c, 0, none⟩) := hout 0 (by decide)
   have h0' := eval_get h0
   refine value_ (v := .pointer (some ⟨c, 0, none⟩)) (w1 := W) (by rfl) rfl ?_ (hK.out _ _ (Below.refl _ _) rfl)
   go_simp
  ·obtain rfl := Option.some.inj ho
   have h0 : a.eval (.tmp 0) = .pointer (some ⟨c, 0, none⟩) := hout 0 (by decide)
   have h0' := eval_get h0
   refine value_ (v := .pointer (some ⟨c, 0, none⟩)) (w1 := W) (by rfl) rfl ?_ (hK.out _ _ (Below.refl _ _) rfl)
   go_simp
  ·obtain rfl := Option.some.inj ho
   have e1 : a.eval (.tmp 19) = _ := hneed 1 (by decide)
   have e1' := eval_get e1
   refine value_ (v := .pointer (some ⟨c, 0, none⟩)) (w1 := W) (by rfl) rfl ?_ (hK.out _ _ (Below.refl _ _) rfl)
   go_simp
  ·obtain rfl := Option.some.inj ho
   have e2 : a.eval (.tmp 20) = _ := hneed 2 (by decide)
   have e2' := eval_get e2
   have hb := blk_below (w := w1.drew) HC.out HBW.out
   obtain ⟨⟨d0, d1, d2, d3, d4, d5, d6, d7⟩, -⟩ := cells8 hb
   refine value_ (v := .agg #[.int .i64 A, .int .i64 X, .int .i64 S, .int .i64 P, .bool Z, .bool N, .bool C, .bool I]) (w1 := W) (by rfl) rfl ?_ (hK.out _ _ (Below.refl _ _) rfl)
   go_simp
  ·obtain rfl := Option.some.inj ho
   have h4 : a.eval (.tmp 4) = .pointer (some ⟨g, 0, none⟩) := hout 4 (by decide)
   have h4' := eval_get h4
   refine value_ (v := .pointer (some ⟨g, 1, none⟩)) (w1 := W) (by rfl) rfl ?_ (hK.out _ _ (Below.refl _ _) rfl)
   go_simp
  ·obtain rfl := Option.some.inj ho
   have e4 : a.eval (.tmp 22) = _ := hneed 4 (by decide)
   have e4' := eval_get e4
   have hb := blk_below (w := w1.drew) HG.out HBW.out
   have d0 := (blk_cell hb 1).trans rfl
   refine value_ (v := .int .i64 arg) (w1 := W) (by rfl) rfl ?_ (hK.out _ _ (Below.refl _ _) rfl)
   go_simp
  ·obtain rfl := Option.some.inj ho
   have e3 : a.eval (.tmp 21) = _ := hneed 3 (by decide)
   have e3' := eval_get e3
   have e5 : a.eval (.tmp 23) = _ := hneed 5 (by decide)
   have e5' := eval_get e5
   refine goes_ Try.func120 (by kernel_rfl) rfl #[.agg #[.int .i64 A, .int .i64 X, .int .i64 S, .int .i64 P, .bool Z, .bool N, .bool C, .bool I], .int .i64 arg] (by rfl) rfl rfl (by simp only [List.map_toArray, List.map_cons, List.map_nil, e3, e5]) ?_
   refine (impl_SetA.calls A X S P Z N C I _ s1 X S P sz sn C I W HF.out).mono ?_
   rintro e w' ⟨rfl, hb⟩
   exact ⟨_, rfl, hK.out _ _ hb rfl⟩
 case lareckon1 =>
  intro o ho a W hout hneed
  obtain rfl := Option.some.inj ho
  have h0 : a.eval (.tmp 0) = .pointer (some ⟨c, 0, none⟩) := hout 0 (by decide)
  have h0' := eval_get h0
  refine ⟨.pointer (some ⟨c, 0, none⟩), rfl, Or.inl ⟨by rfl, ?_⟩⟩
  intro w'
  go_simp
 intro f vs W2 hB hE
 have HBW := Aside0.mk hB
 clear hB
 have q0 : vs 0 = _ := hE 0 (by decide)
 have q1 : vs 1 = _ := hE 1 (by decide)
 have q2 : vs 2 = _ := hE 2 (by decide)
 have q3 : vs 3 = _ := hE 3 (by decide)
 have q4 : vs 4 = _ := hE 4 (by decide)
 have q5 : vs 5 = _ := hE 5 (by decide)
 have q6 : vs 6 = _ := hE 6 (by decide)
 show wpAnyLast _ _ _ _ _ _ (f + 2) _ (putAll _ [(18, vs 0), (19, vs 1), (20, vs 2), (21, vs 3), (22, vs 4), (23, vs 5), (24, vs 6)]) W2
 rw [q0, q1, q2, q3, q4, q5, q6]
 clear q0 q1 q2 q3 q4 q5 q6 hE
 refine norm_ (a' := ?_) ?_ ?_
 rotate_left
 ·simp only [putAll, Act.put, List.setIfInBounds_toArray, List.set_cons_zero, List.set_cons_succ]
  rfl
 refine pv_ 7 (some 25) (bm 9 255) ?_
 refine ov_ 8 none (bm 9 511) (fun K hK => ?_)
 refine skip_ (w1 := ?_) (by rfl) rfl ?_ ?_
 rotate_left
 ·skip
  have hcW := blk_below (w := w1.drew) HC.out HBW.out
  obtain ⟨⟨r0, r1, r2, r3, r4, r5, r6, r7⟩, ⟨fr0, fr1, fr2, fr3, fr4, fr5, fr6, fr7⟩⟩ := cells8 (hcW)
  go_simp
  rfl
 refine hK.out _ _ trivial (fun _ => ?_)
 clear hK K
 refine done_ (by kernel_rfl) ?_
 go_wp2
 go_ret
 exact ⟨rfl, put8 (blk_below (w := w1.drew) HC.out HBW.out) _ _ _ _ _ _ _ _, kept8 (((KeptC.of_below HB1.out).drew).below HBW.out) _ _ _ _ _ _ _ _⟩
set_option maxRecDepth 100000 in
set_option maxHeartbeats 4000000 in
theorem reckon_2 {w : World} {c : Nat} {A X S P : Int} {Z N C I : Bool} (hc : w.heap[c]? = some (.cells #[.int .i64 A, .int .i64 X, .int .i64 S, .int .i64 P, .bool Z, .bool N, .bool C, .bool I] 55 (0, 0))) (arg v : Int) :
  Calls Try.prog 109 #[.pointer (some ⟨c, 0, none⟩), .agg #[.int .i64 2, .int .i64 arg], .int .i64 v] w fun e w' => e = .returned (.bool true) ∧ w'.heap[c]? = some (.cells (setAK (⟨A, X, S, P, Z, N, C, I⟩ : Cp) v).cells 55 (0, 0)) ∧ KeptC w w' c := by
 obtain ⟨s1, sz, sn, hf, ek⟩ := seta_ex (⟨A, X, S, P, Z, N, C, I⟩ : Cp) v
 rw [ek]
 clear ek
 have HF := Aside0.mk hf
 clear hf
 have hu38 := Try.underlying55
 have hu68 := Try.underlying51
 have HC0 := Aside0.mk hc
 clear hc
 go_enter Try.func109, Try.ntmps109
 go_wp2_with (first | ((with_reducible refine gate_dst (N := 4) rfl ?_); refine bx (N := 4) (cs := #[.int .i64 2, .int .i64 arg]) (t := 51) ?_; intro g hg w1 hbox hb; have HC := Aside0.mk (blk_below HC0.out hb); have HG := Aside0.mk hbox; have HB1 := Aside0.mk hb; have hb1 : w1.cell? ⟨g, 0, none⟩ = some (.int .i64 2) := (blk_cell hbox 0).trans rfl; have hb2 : w1.cell? ⟨g, 1, none⟩ = some (.int .i64 arg) := (blk_cell hbox 1).trans rfl; clear HC0 hb hbox hg; obtain ⟨⟨y0, y1, y2, y3, y4, y5, y6, y7⟩, ⟨fy0, fy1, fy2, fy3, fy4, fy5, fy6, fy7⟩⟩ := cells8 (HC.out)) | (go_at_call 120; refine (impl_SetA.calls A X S P Z N C I _ s1 X S P sz sn C I _ HF.out).mono ?_; rintro e w2 ⟨rfl, hb⟩; have HC2 := Aside0.mk (blk_below HC.out hb); have HB2 := Aside0.mk hb; clear hb; obtain ⟨⟨r0, r1, r2, r3, r4, r5, r6, r7⟩, ⟨fr0, fr1, fr2, fr3, fr4, fr5, fr6, fr7⟩⟩ := cells8 (HC2.out)))
 go_ret
 exact ⟨rfl, put8 HC2.out _ _ _ _ _ _ _ _, kept8 ((KeptC.of_below HB1.out).below HB2.out) _ _ _ _ _ _ _ _⟩
set_option maxRecDepth 100000 in
set_option maxHeartbeats 4000000 in
theorem reckon_14 {w : World} {c : Nat} {A X S P : Int} {Z N C I : Bool} (hc : w.heap[c]? = some (.cells #[.int .i64 A, .int .i64 X, .int .i64 S, .int .i64 P, .bool Z, .bool N, .bool C, .bool I] 55 (0, 0))) (arg v : Int) :
  Calls Try.prog 109 #[.pointer (some ⟨c, 0, none⟩), .agg #[.int .i64 14, .int .i64 arg], .int .i64 v] w fun e w' => e = .returned (.bool true) ∧ w'.heap[c]? = some (.cells (setAK (⟨A, X, S, P, Z, N, C, I⟩ : Cp) v).cells 55 (0, 0)) ∧ KeptC w w' c := by
 obtain ⟨s1, sz, sn, hf, ek⟩ := seta_ex (⟨A, X, S, P, Z, N, C, I⟩ : Cp) v
 rw [ek]
 clear ek
 have HF := Aside0.mk hf
 clear hf
 have hu38 := Try.underlying55
 have hu68 := Try.underlying51
 have HC0 := Aside0.mk hc
 clear hc
 go_enter Try.func109, Try.ntmps109
 go_wp2_with (first | ((with_reducible refine gate_dst (N := 4) rfl ?_); refine bx (N := 4) (cs := #[.int .i64 14, .int .i64 arg]) (t := 51) ?_; intro g hg w1 hbox hb; have HC := Aside0.mk (blk_below HC0.out hb); have HG := Aside0.mk hbox; have HB1 := Aside0.mk hb; have hb1 : w1.cell? ⟨g, 0, none⟩ = some (.int .i64 14) := (blk_cell hbox 0).trans rfl; have hb2 : w1.cell? ⟨g, 1, none⟩ = some (.int .i64 arg) := (blk_cell hbox 1).trans rfl; clear HC0 hb hbox hg; obtain ⟨⟨y0, y1, y2, y3, y4, y5, y6, y7⟩, ⟨fy0, fy1, fy2, fy3, fy4, fy5, fy6, fy7⟩⟩ := cells8 (HC.out)) | (go_at_call 120; refine (impl_SetA.calls A X S P Z N C I _ s1 X S P sz sn C I _ HF.out).mono ?_; rintro e w2 ⟨rfl, hb⟩; have HC2 := Aside0.mk (blk_below HC.out hb); have HB2 := Aside0.mk hb; clear hb; obtain ⟨⟨r0, r1, r2, r3, r4, r5, r6, r7⟩, ⟨fr0, fr1, fr2, fr3, fr4, fr5, fr6, fr7⟩⟩ := cells8 (HC2.out)))
 go_ret
 exact ⟨rfl, put8 HC2.out _ _ _ _ _ _ _ _, kept8 ((KeptC.of_below HB1.out).below HB2.out) _ _ _ _ _ _ _ _⟩
set_option maxRecDepth 100000 in
set_option maxHeartbeats 4000000 in
theorem reckon_6 {w : World} {c : Nat} {A X S P : Int} {Z N C I : Bool} (hc : w.heap[c]? = some (.cells #[.int .i64 A, .int .i64 X, .int .i64 S, .int .i64 P, .bool Z, .bool N, .bool C, .bool I] 55 (0, 0))) (arg v : Int) :
  Calls Try.prog 109 #[.pointer (some ⟨c, 0, none⟩), .agg #[.int .i64 6, .int .i64 arg], .int .i64 v] w fun e w' => e = .returned (.bool true) ∧ w'.heap[c]? = some (.cells (setAK (⟨A, X, S, P, Z, N, C, I⟩ : Cp) (Go.bits .and .i64 A arg)).cells 55 (0, 0)) ∧ KeptC w w' c := by
 obtain ⟨s1, sz, sn, hf, ek⟩ := seta_ex (⟨A, X, S, P, Z, N, C, I⟩ : Cp) (Go.bits .and .i64 A arg)
 rw [ek]
 clear ek
 have HF := Aside0.mk hf
 clear hf
 have hu38 := Try.underlying55
 have hu68 := Try.underlying51
 have HC0 := Aside0.mk hc
 clear hc
 go_enter Try.func109, Try.ntmps109
 go_wp2_with (first | ((with_reducible refine gate_dst (N := 4) rfl ?_); refine bx (N := 4) (cs := #[.int .i64 6, .int .i64 arg]) (t := 51) ?_; intro g hg w1 hbox hb; have HC := Aside0.mk (blk_below HC0.out hb); have HG := Aside0.mk hbox; have HB1 := Aside0.mk hb; have hb1 : w1.cell? ⟨g, 0, none⟩ = some (.int .i64 6) := (blk_cell hbox 0).trans rfl; have hb2 : w1.cell? ⟨g, 1, none⟩ = some (.int .i64 arg) := (blk_cell hbox 1).trans rfl; clear HC0 hb hbox hg; obtain ⟨⟨y0, y1, y2, y3, y4, y5, y6, y7⟩, ⟨fy0, fy1, fy2, fy3, fy4, fy5, fy6, fy7⟩⟩ := cells8 (HC.out)))
 refine free_ (n := 14) (e := 12) (g := 0) (T := (true, [([], []), ([], []), ([1], [1]), ([2], [2]), ([], []), ([4], [4]), ([5], [5]), ([6], [6]), ([], []), ([8], [8]), ([7, 9], [7, 9]), ([3, 10], [3, 10]), ([0, 0, 1, 2, 3, 4, 5, 6, 7, 8, 9, 10, 11], [0]), ([12, 11, 11, 0, 1, 2, 3, 4, 5, 6, 7, 8, 9, 10, 11], [11, 12])])) #[true, true, true, true, true, true, true, true, true, true, true, true, false, false] #[false, true, true, true, true, true, true, true, true, true, true, true, false, false] [98, 99, 100, 101, 102, 103, 104, 105, 106, 107, 108, 109] (fun j u w' => match j with
  | 0 => u = .pointer (some ⟨c, 0, none⟩)
  | 1 => u = .pointer (some ⟨c, 0, none⟩)
  | 2 => u = .pointer (some ⟨c, 0, none⟩)
  | 3 => u = .agg #[.int .i64 A, .int .i64 X, .int .i64 S, .int .i64 P, .bool Z, .bool N, .bool C, .bool I]
  | 4 => u = .pointer (some ⟨c, 0, none⟩)
  | 5 => u = .pointer (some ⟨c, 0, none⟩)
  | 6 => u = .pointer (some ⟨c, 0, none⟩)
  | 7 => u = .int .i64 A
  | 8 => u = .pointer (some ⟨g, 1, none⟩)
  | 9 => u = .int .i64 arg
  | 10 => u = .int .i64 (Go.bits .and .i64 A arg)
  | 11 => u = .agg #[.int .i64 s1, .int .i64 X, .int .i64 S, .int .i64 P, .bool sz, .bool sn, .bool C, .bool I]
  | _ => False)
  (by kernel_rfl) rfl (by kernel_rfl) (by kernel_rfl) (by kernel_rfl) (any_of (T := (true, [([], []), ([], []), ([1], [1]), ([2], [2]), ([], []), ([4], [4]), ([5], [5]), ([6], [6]), ([], []), ([8], [8]), ([7, 9], [7, 9]), ([3, 10], [3, 10]), ([0, 0, 1, 2, 3, 4, 5, 6, 7, 8, 9, 10, 11], [0]), ([12, 11, 11, 0, 1, 2, 3, 4, 5, 6, 7, 8, 9, 10, 11], [11, 12])])) (by kernel_rfl) (by kernel_rfl)) (fun _ _ _ _ h => h) ?streckon6 ?spreckon6 ?lareckon6 ?enreckon6
 case streckon6 =>
  intro j u W W' h hb
  exact h
 case spreckon6 =>
  intro i hi o ho a W hB hout hneed K hK
  have HBW := Aside0.mk hB
  have hcase : i = 0 ∨ i = 1 ∨ i = 2 ∨ i = 3 ∨ i = 4 ∨ i = 5 ∨ i = 6 ∨ i = 7 ∨ i = 8 ∨ i = 9 ∨ i = 10 ∨ i = 11 := by omega
  clear hB
  rcases hcase with rfl | rfl | rfl | rfl | rfl | rfl | rfl | rfl | rfl | rfl | rfl | rfl
  ·obtain rfl := Option.some.inj ho
   have h0 : a.eval (.tmp 0) = .pointer (some ⟨c, 0, none⟩) := hout 0 (by decide)
   have h0' := eval_get h0
   refine value_ (v := .pointer (some ⟨c, 0, none⟩)) (w1 := W) (by rfl) rfl ?_ (hK.out _ _ (Below.refl _ _) rfl)
   go_simp
  ·obtain rfl := Option.some.inj ho
   have h0 : a.eval (.tmp 0) = .pointer (some ⟨c, 0, none⟩) := hout 0 (by decide)
   have h0' := eval_get h0
   refine value_ (v := .pointer (some ⟨c, 0, none⟩)) (w1 := W) (by rfl) rfl ?_ (hK.out _ _ (Below.refl _ _) rfl)
   go_simp
  ·obtain rfl := Option.some.inj ho
   have e1 : a.eval (.tmp 99) = _ := hneed 1 (by decide)
   have e1' := eval_get e1
   refine value_ (v := .pointer (some ⟨c, 0, none⟩)) (w1 := W) (by rfl) rfl ?_ (hK.out _ _ (Below.refl _ _) rfl)
   go_simp
  ·obtain rfl := Option.some.inj ho
   have e2 : a.eval (.tmp 100) = _ := hneed 2 (by decide)
   have e2' := eval_get e2
   have hb := blk_below (w := w1.drew) HC.out HBW.out
   obtain ⟨⟨d0, d1, d2, d3, d4, d5, d6, d7⟩, -⟩ := cells8 hb
   refine value_ (v := .agg #[.int .i64 A, .int .i64 X, .int .i64 S, .int .i64 P, .bool Z, .bool N, .bool C, .bool I]) (w1 := W) (by rfl) rfl ?_ (hK.out _ _ (Below.refl _ _) rfl)
   go_simp
  ·obtain rfl := Option.some.inj ho
   have h0 : a.eval (.tmp 0) = .pointer (some ⟨c, 0, none⟩) := hout 0 (by decide)
   have h0' := eval_get h0
   refine value_ (v := .pointer (some ⟨c, 0, none⟩)) (w1 := W) (by rfl) rfl ?_ (hK.out _ _ (Below.refl _ _) rfl)
   go_simp
  ·obtain rfl := Option.some.inj ho
   have e4 : a.eval (.tmp 102) = _ := hneed 4 (by decide)
   have e4' := eval_get e4
   refine value_ (v := .pointer (some ⟨c, 0, none⟩)) (w1 := W) (by rfl) rfl ?_ (hK.out _ _ (Below.refl _ _) rfl)
   go_simp
  ·obtain rfl := Option.some.inj ho
   have e5 : a.eval (.tmp 103) = _ := hneed 5 (by decide)
   have e5' := eval_get e5
   refine value_ (v := .pointer (some ⟨c, 0, none⟩)) (w1 := W) (by rfl) rfl ?_ (hK.out _ _ (Below.refl _ _) rfl)
   go_simp
  ·obtain rfl := Option.some.inj ho
   have e6 : a.eval (.tmp 104) = _ := hneed 6 (by decide)
   have e6' := eval_get e6
   have hb := blk_below (w := w1.drew) HC.out HBW.out
   have d0 := (blk_cell hb 0).trans rfl
   refine value_ (v := .int .i64 A) (w1 := W) (by rfl) rfl ?_ (hK.out _ _ (Below.refl _ _) rfl)
   go_simp
  ·obtain rfl := Option.some.inj ho
   have h4 : a.eval (.tmp 4) = .pointer (some ⟨g, 0, none⟩) := hout 4 (by decide)
   have h4' := eval_get h4
   refine value_ (v := .pointer (some ⟨g, 1, none⟩)) (w1 := W) (by rfl) rfl ?_ (hK.out _ _ (Below.refl _ _) rfl)
   go_simp
  ·obtain rfl := Option.some.inj ho
   have e8 : a.eval (.tmp 106) = _ := hneed 8 (by decide)
   have e8' := eval_get e8
   have hb := blk_below (w := w1.drew) HG.out HBW.out
   have d0 := (blk_cell hb 1).trans rfl
   refine value_ (v := .int .i64 arg) (w1 := W) (by rfl) rfl ?_ (hK.out _ _ (Below.refl _ _) rfl)
   go_simp
  ·obtain rfl := Option.some.inj ho
   have e7 : a.eval (.tmp 105) = _ := hneed 7 (by decide)
   have e7' := eval_get e7
   have e9 : a.eval (.tmp 107) = _ := hneed 9 (by decide)
   have e9' := eval_get e9
   refine value_ (v := .int .i64 (Go.bits .and .i64 A arg)) (w1 := W) (by rfl) rfl ?_ (hK.out _ _ (Below.refl _ _) rfl)
   go_simp
  ·obtain rfl := Option.some.inj ho
   have e3 : a.eval (.tmp 101) = _ := hneed 3 (by decide)
   have e3' := eval_get e3
   have e10 : a.eval (.tmp 108) = _ := hneed 10 (by decide)
   have e10' := eval_get e10
   refine goes_ Try.func120 (by kernel_rfl) rfl #[.agg #[.int .i64 A, .int .i64 X, .int .i64 S, .int .i64 P, .bool Z, .bool N, .bool C, .bool I], .int .i64 (Go.bits .and .i64 A arg)] (by rfl) rfl rfl (by simp only [List.map_toArray, List.map_cons, List.map_nil, e3, e10]) ?_
   refine (impl_SetA.calls A X S P Z N C I _ s1 X S P sz sn C I W HF.out).mono ?_
   rintro e w' ⟨rfl, hb⟩
   exact ⟨_, rfl, hK.out _ _ hb rfl⟩
 case lareckon6 =>
  intro o ho a W hout hneed
  obtain rfl := Option.some.inj ho
  have h0 : a.eval (.tmp 0) = .pointer (some ⟨c, 0, none⟩) := hout 0 (by decide)
  have h0' := eval_get h0
  refine ⟨.pointer (some ⟨c, 0, none⟩), rfl, Or.inl ⟨by rfl, ?_⟩⟩
  intro w'
  go_simp
 intro f vs W2 hB hE
 have HBW := Aside0.mk hB
 clear hB
 have q0 : vs 0 = _ := hE 0 (by decide)
 have q1 : vs 1 = _ := hE 1 (by decide)
 have q2 : vs 2 = _ := hE 2 (by decide)
 have q3 : vs 3 = _ := hE 3 (by decide)
 have q4 : vs 4 = _ := hE 4 (by decide)
 have q5 : vs 5 = _ := hE 5 (by decide)
 have q6 : vs 6 = _ := hE 6 (by decide)
 have q7 : vs 7 = _ := hE 7 (by decide)
 have q8 : vs 8 = _ := hE 8 (by decide)
 have q9 : vs 9 = _ := hE 9 (by decide)
 have q10 : vs 10 = _ := hE 10 (by decide)
 have q11 : vs 11 = _ := hE 11 (by decide)
 show wpAnyLast _ _ _ _ _ _ (f + 2) _ (putAll _ [(98, vs 0), (99, vs 1), (100, vs 2), (101, vs 3), (102, vs 4), (103, vs 5), (104, vs 6), (105, vs 7), (106, vs 8), (107, vs 9), (108, vs 10), (109, vs 11)]) W2
 rw [q0, q1, q2, q3, q4, q5, q6, q7, q8, q9, q10, q11]
 clear q0 q1 q2 q3 q4 q5 q6 q7 q8 q9 q10 q11 hE
 refine norm_ (a' := ?_) ?_ ?_
 rotate_left
 ·simp only [putAll, Act.put, List.setIfInBounds_toArray, List.set_cons_zero, List.set_cons_succ]
  rfl
 refine pv_ 12 (some 110) (bm 14 8191) ?_
 refine ov_ 13 none (bm 14 16383) (fun K hK => ?_)
 refine skip_ (w1 := ?_) (by rfl) rfl ?_ ?_
 rotate_left
 ·skip
  have hcW := blk_below (w := w1.drew) HC.out HBW.out
  obtain ⟨⟨r0, r1, r2, r3, r4, r5, r6, r7⟩, ⟨fr0, fr1, fr2, fr3, fr4, fr5, fr6, fr7⟩⟩ := cells8 (hcW)
  go_simp
  rfl
 refine hK.out _ _ trivial (fun _ => ?_)
 clear hK K
 refine done_ (by kernel_rfl) ?_
 go_wp2
 go_ret
 exact ⟨rfl, put8 (blk_below (w := w1.drew) HC.out HBW.out) _ _ _ _ _ _ _ _, kept8 (((KeptC.of_below HB1.out).drew).below HBW.out) _ _ _ _ _ _ _ _⟩
set_option maxRecDepth 100000 in
set_option maxHeartbeats 4000000 in
theorem reckon_7 {w : World} {c : Nat} {A X S P : Int} {Z N C I : Bool} (hc : w.heap[c]? = some (.cells #[.int .i64 A, .int .i64 X, .int .i64 S, .int .i64 P, .bool Z, .bool N, .bool C, .bool I] 55 (0, 0))) (arg v : Int) :
  Calls Try.prog 109 #[.pointer (some ⟨c, 0, none⟩), .agg #[.int .i64 7, .int .i64 arg], .int .i64 v] w fun e w' => e = .returned (.bool true) ∧ w'.heap[c]? = some (.cells (setAK (⟨A, X, S, P, Z, N, C, I⟩ : Cp) (Go.bits .or .i64 A arg)).cells 55 (0, 0)) ∧ KeptC w w' c := by
 obtain ⟨s1, sz, sn, hf, ek⟩ := seta_ex (⟨A, X, S, P, Z, N, C, I⟩ : Cp) (Go.bits .or .i64 A arg)
 rw [ek]
 clear ek
 have HF := Aside0.mk hf
 clear hf
 have hu38 := Try.underlying55
 have hu68 := Try.underlying51
 have HC0 := Aside0.mk hc
 clear hc
 go_enter Try.func109, Try.ntmps109
 go_wp2_with (first | ((with_reducible refine gate_dst (N := 4) rfl ?_); refine bx (N := 4) (cs := #[.int .i64 7, .int .i64 arg]) (t := 51) ?_; intro g hg w1 hbox hb; have HC := Aside0.mk (blk_below HC0.out hb); have HG := Aside0.mk hbox; have HB1 := Aside0.mk hb; have hb1 : w1.cell? ⟨g, 0, none⟩ = some (.int .i64 7) := (blk_cell hbox 0).trans rfl; have hb2 : w1.cell? ⟨g, 1, none⟩ = some (.int .i64 arg) := (blk_cell hbox 1).trans rfl; clear HC0 hb hbox hg; obtain ⟨⟨y0, y1, y2, y3, y4, y5, y6, y7⟩, ⟨fy0, fy1, fy2, fy3, fy4, fy5, fy6, fy7⟩⟩ := cells8 (HC.out)))
 refine free_ (n := 14) (e := 12) (g := 0) (T := (true, [([], []), ([], []), ([1], [1]), ([2], [2]), ([], []), ([4], [4]), ([5], [5]), ([6], [6]), ([], []), ([8], [8]), ([7, 9], [7, 9]), ([3, 10], [3, 10]), ([0, 0, 1, 2, 3, 4, 5, 6, 7, 8, 9, 10, 11], [0]), ([12, 11, 11, 0, 1, 2, 3, 4, 5, 6, 7, 8, 9, 10, 11], [11, 12])])) #[true, true, true, true, true, true, true, true, true, true, true, true, false, false] #[false, true, true, true, true, true, true, true, true, true, true, true, false, false] [113, 114, 115, 116, 117, 118, 119, 120, 121, 122, 123, 124] (fun j u w' => match j with
  | 0 => u = .pointer (some ⟨c, 0, none⟩)
  | 1 => u = .pointer (some ⟨c, 0, none⟩)
  | 2 => u = .pointer (some ⟨c, 0, none⟩)
  | 3 => u = .agg #[.int .i64 A, .int .i64 X, .int .i64 S, .int .i64 P, .bool Z, .bool N, .bool C, .bool I]
  | 4 => u = .pointer (some ⟨c, 0, none⟩)
  | 5 => u = .pointer (some ⟨c, 0, none⟩)
  | 6 => u = .pointer (some ⟨c, 0, none⟩)
  | 7 => u = .int .i64 A
  | 8 => u = .pointer (some ⟨g, 1, none⟩)
  | 9 => u = .int .i64 arg
  | 10 => u = .int .i64 (Go.bits .or .i64 A arg)
  | 11 => u = .agg #[.int .i64 s1, .int .i64 X, .int .i64 S, .int .i64 P, .bool sz, .bool sn, .bool C, .bool I]
  | _ => False)
  (by kernel_rfl) rfl (by kernel_rfl) (by kernel_rfl) (by kernel_rfl) (any_of (T := (true, [([], []), ([], []), ([1], [1]), ([2], [2]), ([], []), ([4], [4]), ([5], [5]), ([6], [6]), ([], []), ([8], [8]), ([7, 9], [7, 9]), ([3, 10], [3, 10]), ([0, 0, 1, 2, 3, 4, 5, 6, 7, 8, 9, 10, 11], [0]), ([12, 11, 11, 0, 1, 2, 3, 4, 5, 6, 7, 8, 9, 10, 11], [11, 12])])) (by kernel_rfl) (by kernel_rfl)) (fun _ _ _ _ h => h) ?streckon7 ?spreckon7 ?lareckon7 ?enreckon7
 case streckon7 =>
  intro j u W W' h hb
  exact h
 case spreckon7 =>
  intro i hi o ho a W hB hout hneed K hK
  have HBW := Aside0.mk hB
  have hcase : i = 0 ∨ i = 1 ∨ i = 2 ∨ i = 3 ∨ i = 4 ∨ i = 5 ∨ i = 6 ∨ i = 7 ∨ i = 8 ∨ i = 9 ∨ i = 10 ∨ i = 11 := by omega
  clear hB
  rcases hcase with rfl | rfl | rfl | rfl | rfl | rfl | rfl | rfl | rfl | rfl | rfl | rfl
  ·obtain rfl := Option.some.inj ho
   have h0 : a.eval (.tmp 0) = .pointer (some ⟨c, 0, none⟩) := hout 0 (by decide)
   have h0' := eval_get h0
   refine value_ (v := .pointer (some ⟨c, 0, none⟩)) (w1 := W) (by rfl) rfl ?_ (hK.out _ _ (Below.refl _ _) rfl)
   go_simp
  ·obtain rfl := Option.some.inj ho
   have h0 : a.eval (.tmp 0) = .pointer (some ⟨c, 0, none⟩) := hout 0 (by decide)
   have h0' := eval_get h0
   refine value_ (v := .pointer (some ⟨c, 0, none⟩)) (w1 := W) (by rfl) rfl ?_ (hK.out _ _ (Below.refl _ _) rfl)
   go_simp
  ·obtain rfl := Option.some.inj ho
   have e1 : a.eval (.tmp 114) = _ := hneed 1 (by decide)
   have e1' := eval_get e1
   refine value_ (v := .pointer (some ⟨c, 0, none⟩)) (w1 := W) (by rfl) rfl ?_ (hK.out _ _ (Below.refl _ _) rfl)
   go_simp
  ·obtain rfl := Option.some.inj ho
   have e2 : a.eval (.tmp 115) = _ := hneed 2 (by decide)
   have e2' := eval_get e2
   have hb := blk_below (w := w1.drew) HC.out HBW.out
   obtain ⟨⟨d0, d1, d2, d3, d4, d5, d6, d7⟩, -⟩ := cells8 hb
   refine value_ (v := .agg #[.int .i64 A, .int .i64 X, .int .i64 S, .int .i64 P, .bool Z, .bool N, .bool C, .bool I]) (w1 := W) (by rfl) rfl ?_ (hK.out _ _ (Below.refl _ _) rfl)
   go_simp
  ·obtain rfl := Option.some.inj ho
   have h0 : a.eval (.tmp 0) = .pointer (some ⟨c, 0, none⟩) := hout 0 (by decide)
   have h0' := eval_get h0
   refine value_ (v := .pointer (some ⟨c, 0, none⟩)) (w1 := W) (by rfl) rfl ?_ (hK.out _ _ (Below.refl _ _) rfl)
   go_simp
  ·obtain rfl := Option.some.inj ho
   have e4 : a.eval (.tmp 117) = _ := hneed 4 (by decide)
   have e4' := eval_get e4
   refine value_ (v := .pointer (some ⟨c, 0, none⟩)) (w1 := W) (by rfl) rfl ?_ (hK.out _ _ (Below.refl _ _) rfl)
   go_simp
  ·obtain rfl := Option.some.inj ho
   have e5 : a.eval (.tmp 118) = _ := hneed 5 (by decide)
   have e5' := eval_get e5
   refine value_ (v := .pointer (some ⟨c, 0, none⟩)) (w1 := W) (by rfl) rfl ?_ (hK.out _ _ (Below.refl _ _) rfl)
   go_simp
  ·obtain rfl := Option.some.inj ho
   have e6 : a.eval (.tmp 119) = _ := hneed 6 (by decide)
   have e6' := eval_get e6
   have hb := blk_below (w := w1.drew) HC.out HBW.out
   have d0 := (blk_cell hb 0).trans rfl
   refine value_ (v := .int .i64 A) (w1 := W) (by rfl) rfl ?_ (hK.out _ _ (Below.refl _ _) rfl)
   go_simp
  ·obtain rfl := Option.some.inj ho
   have h4 : a.eval (.tmp 4) = .pointer (some ⟨g, 0, none⟩) := hout 4 (by decide)
   have h4' := eval_get h4
   refine value_ (v := .pointer (some ⟨g, 1, none⟩)) (w1 := W) (by rfl) rfl ?_ (hK.out _ _ (Below.refl _ _) rfl)
   go_simp
  ·obtain rfl := Option.some.inj ho
   have e8 : a.eval (.tmp 121) = _ := hneed 8 (by decide)
   have e8' := eval_get e8
   have hb := blk_below (w := w1.drew) HG.out HBW.out
   have d0 := (blk_cell hb 1).trans rfl
   refine value_ (v := .int .i64 arg) (w1 := W) (by rfl) rfl ?_ (hK.out _ _ (Below.refl _ _) rfl)
   go_simp
  ·obtain rfl := Option.some.inj ho
   have e7 : a.eval (.tmp 120) = _ := hneed 7 (by decide)
   have e7' := eval_get e7
   have e9 : a.eval (.tmp 122) = _ := hneed 9 (by decide)
   have e9' := eval_get e9
   refine value_ (v := .int .i64 (Go.bits .or .i64 A arg)) (w1 := W) (by rfl) rfl ?_ (hK.out _ _ (Below.refl _ _) rfl)
   go_simp
  ·obtain rfl := Option.some.inj ho
   have e3 : a.eval (.tmp 116) = _ := hneed 3 (by decide)
   have e3' := eval_get e3
   have e10 : a.eval (.tmp 123) = _ := hneed 10 (by decide)
   have e10' := eval_get e10
   refine goes_ Try.func120 (by kernel_rfl) rfl #[.agg #[.int .i64 A, .int .i64 X, .int .i64 S, .int .i64 P, .bool Z, .bool N, .bool C, .bool I], .int .i64 (Go.bits .or .i64 A arg)] (by rfl) rfl rfl (by simp only [List.map_toArray, List.map_cons, List.map_nil, e3, e10]) ?_
   refine (impl_SetA.calls A X S P Z N C I _ s1 X S P sz sn C I W HF.out).mono ?_
   rintro e w' ⟨rfl, hb⟩
   exact ⟨_, rfl, hK.out _ _ hb rfl⟩
 case lareckon7 =>
  intro o ho a W hout hneed
  obtain rfl := Option.some.inj ho
  have h0 : a.eval (.tmp 0) = .pointer (some ⟨c, 0, none⟩) := hout 0 (by decide)
  have h0' := eval_get h0
  refine ⟨.pointer (some ⟨c, 0, none⟩), rfl, Or.inl ⟨by rfl, ?_⟩⟩
  intro w'
  go_simp
 intro f vs W2 hB hE
 have HBW := Aside0.mk hB
 clear hB
 have q0 : vs 0 = _ := hE 0 (by decide)
 have q1 : vs 1 = _ := hE 1 (by decide)
 have q2 : vs 2 = _ := hE 2 (by decide)
 have q3 : vs 3 = _ := hE 3 (by decide)
 have q4 : vs 4 = _ := hE 4 (by decide)
 have q5 : vs 5 = _ := hE 5 (by decide)
 have q6 : vs 6 = _ := hE 6 (by decide)
 have q7 : vs 7 = _ := hE 7 (by decide)
 have q8 : vs 8 = _ := hE 8 (by decide)
 have q9 : vs 9 = _ := hE 9 (by decide)
 have q10 : vs 10 = _ := hE 10 (by decide)
 have q11 : vs 11 = _ := hE 11 (by decide)
 show wpAnyLast _ _ _ _ _ _ (f + 2) _ (putAll _ [(113, vs 0), (114, vs 1), (115, vs 2), (116, vs 3), (117, vs 4), (118, vs 5), (119, vs 6), (120, vs 7), (121, vs 8), (122, vs 9), (123, vs 10), (124, vs 11)]) W2
 rw [q0, q1, q2, q3, q4, q5, q6, q7, q8, q9, q10, q11]
 clear q0 q1 q2 q3 q4 q5 q6 q7 q8 q9 q10 q11 hE
 refine norm_ (a' := ?_) ?_ ?_
 rotate_left
 ·simp only [putAll, Act.put, List.setIfInBounds_toArray, List.set_cons_zero, List.set_cons_succ]
  rfl
 refine pv_ 12 (some 125) (bm 14 8191) ?_
 refine ov_ 13 none (bm 14 16383) (fun K hK => ?_)
 refine skip_ (w1 := ?_) (by rfl) rfl ?_ ?_
 rotate_left
 ·skip
  have hcW := blk_below (w := w1.drew) HC.out HBW.out
  obtain ⟨⟨r0, r1, r2, r3, r4, r5, r6, r7⟩, ⟨fr0, fr1, fr2, fr3, fr4, fr5, fr6, fr7⟩⟩ := cells8 (hcW)
  go_simp
  rfl
 refine hK.out _ _ trivial (fun _ => ?_)
 clear hK K
 refine done_ (by kernel_rfl) ?_
 go_wp2
 go_ret
 exact ⟨rfl, put8 (blk_below (w := w1.drew) HC.out HBW.out) _ _ _ _ _ _ _ _, kept8 (((KeptC.of_below HB1.out).drew).below HBW.out) _ _ _ _ _ _ _ _⟩
set_option maxRecDepth 100000 in
set_option maxHeartbeats 4000000 in
theorem reckon_8 {w : World} {c : Nat} {A X S P : Int} {Z N C I : Bool} (hc : w.heap[c]? = some (.cells #[.int .i64 A, .int .i64 X, .int .i64 S, .int .i64 P, .bool Z, .bool N, .bool C, .bool I] 55 (0, 0))) (arg v : Int) :
  Calls Try.prog 109 #[.pointer (some ⟨c, 0, none⟩), .agg #[.int .i64 8, .int .i64 arg], .int .i64 v] w fun e w' => e = .returned (.bool true) ∧ w'.heap[c]? = some (.cells (setAK (⟨A, X, S, P, Z, N, C, I⟩ : Cp) (Go.bits .xor .i64 A arg)).cells 55 (0, 0)) ∧ KeptC w w' c := by
 obtain ⟨s1, sz, sn, hf, ek⟩ := seta_ex (⟨A, X, S, P, Z, N, C, I⟩ : Cp) (Go.bits .xor .i64 A arg)
 rw [ek]
 clear ek
 have HF := Aside0.mk hf
 clear hf
 have hu38 := Try.underlying55
 have hu68 := Try.underlying51
 have HC0 := Aside0.mk hc
 clear hc
 go_enter Try.func109, Try.ntmps109
 go_wp2_with (first | ((with_reducible refine gate_dst (N := 4) rfl ?_); refine bx (N := 4) (cs := #[.int .i64 8, .int .i64 arg]) (t := 51) ?_; intro g hg w1 hbox hb; have HC := Aside0.mk (blk_below HC0.out hb); have HG := Aside0.mk hbox; have HB1 := Aside0.mk hb; have hb1 : w1.cell? ⟨g, 0, none⟩ = some (.int .i64 8) := (blk_cell hbox 0).trans rfl; have hb2 : w1.cell? ⟨g, 1, none⟩ = some (.int .i64 arg) := (blk_cell hbox 1).trans rfl; clear HC0 hb hbox hg; obtain ⟨⟨y0, y1, y2, y3, y4, y5, y6, y7⟩, ⟨fy0, fy1, fy2, fy3, fy4, fy5, fy6, fy7⟩⟩ := cells8 (HC.out)))
 refine free_ (n := 14) (e := 12) (g := 0) (T := (true, [([], []), ([], []), ([1], [1]), ([2], [2]), ([], []), ([4], [4]), ([5], [5]), ([6], [6]), ([], []), ([8], [8]), ([7, 9], [7, 9]), ([3, 10], [3, 10]), ([0, 0, 1, 2, 3, 4, 5, 6, 7, 8, 9, 10, 11], [0]), ([12, 11, 11, 0, 1, 2, 3, 4, 5, 6, 7, 8, 9, 10, 11], [11, 12])])) #[true, true, true, true, true, true, true, true, true, true, true, true, false, false] #[false, true, true, true, true, true, true, true, true, true, true, true, false, false] [128, 129, 130, 131, 132, 133, 134, 135, 136, 137, 138, 139] (fun j u w' => match j with
  | 0 => u = .pointer (some ⟨c, 0, none⟩)
  | 1 => u = .pointer (some ⟨c, 0, none⟩)
  | 2 => u = .pointer (some ⟨c, 0, none⟩)
  | 3 => u = .agg #[.int .i64 A, .int .i64 X, .int .i64 S, .int .i64 P, .bool Z, .bool N, .bool C, .bool I]
  | 4 => u = .pointer (some ⟨c, 0, none⟩)
  | 5 => u = .pointer (some ⟨c, 0, none⟩)
  | 6 => u = .pointer (some ⟨c, 0, none⟩)
  | 7 => u = .int .i64 A
  | 8 => u = .pointer (some ⟨g, 1, none⟩)
  | 9 => u = .int .i64 arg
  | 10 => u = .int .i64 (Go.bits .xor .i64 A arg)
  | 11 => u = .agg #[.int .i64 s1, .int .i64 X, .int .i64 S, .int .i64 P, .bool sz, .bool sn, .bool C, .bool I]
  | _ => False)
  (by kernel_rfl) rfl (by kernel_rfl) (by kernel_rfl) (by kernel_rfl) (any_of (T := (true, [([], []), ([], []), ([1], [1]), ([2], [2]), ([], []), ([4], [4]), ([5], [5]), ([6], [6]), ([], []), ([8], [8]), ([7, 9], [7, 9]), ([3, 10], [3, 10]), ([0, 0, 1, 2, 3, 4, 5, 6, 7, 8, 9, 10, 11], [0]), ([12, 11, 11, 0, 1, 2, 3, 4, 5, 6, 7, 8, 9, 10, 11], [11, 12])])) (by kernel_rfl) (by kernel_rfl)) (fun _ _ _ _ h => h) ?streckon8 ?spreckon8 ?lareckon8 ?enreckon8
 case streckon8 =>
  intro j u W W' h hb
  exact h
 case spreckon8 =>
  intro i hi o ho a W hB hout hneed K hK
  have HBW := Aside0.mk hB
  have hcase : i = 0 ∨ i = 1 ∨ i = 2 ∨ i = 3 ∨ i = 4 ∨ i = 5 ∨ i = 6 ∨ i = 7 ∨ i = 8 ∨ i = 9 ∨ i = 10 ∨ i = 11 := by omega
  clear hB
  rcases hcase with rfl | rfl | rfl | rfl | rfl | rfl | rfl | rfl | rfl | rfl | rfl | rfl
  ·obtain rfl := Option.some.inj ho
   have h0 : a.eval (.tmp 0) = .pointer (some ⟨c, 0, none⟩) := hout 0 (by decide)
   have h0' := eval_get h0
   refine value_ (v := .pointer (some ⟨c, 0, none⟩)) (w1 := W) (by rfl) rfl ?_ (hK.out _ _ (Below.refl _ _) rfl)
   go_simp
  ·obtain rfl := Option.some.inj ho
   have h0 : a.eval (.tmp 0) = .pointer (some ⟨c, 0, none⟩) := hout 0 (by decide)
   have h0' := eval_get h0
   refine value_ (v := .pointer (some ⟨c, 0, none⟩)) (w1 := W) (by rfl) rfl ?_ (hK.out _ _ (Below.refl _ _) rfl)
   go_simp
  ·obtain rfl := Option.some.inj ho
   have e1 : a.eval (.tmp 129) = _ := hneed 1 (by decide)
   have e1' := eval_get e1
   refine value_ (v := .pointer (some ⟨c, 0, none⟩)) (w1 := W) (by rfl) rfl ?_ (hK.out _ _ (Below.refl _ _) rfl)
   go_simp
  ·obtain rfl := Option.some.inj ho
   have e2 : a.eval (.tmp 130) = _ := hneed 2 (by decide)
   have e2' := eval_get e2
   have hb := blk_below (w := w1.drew) HC.out HBW.out
   obtain ⟨⟨d0, d1, d2, d3, d4, d5, d6, d7⟩, -⟩ := cells8 hb
   refine value_ (v := .agg #[.int .i64 A, .int .i64 X, .int .i64 S, .int .i64 P, .bool Z, .bool N, .bool C, .bool I]) (w1 := W) (by rfl) rfl ?_ (hK.out _ _ (Below.refl _ _) rfl)
   go_simp
  ·obtain rfl := Option.some.inj ho
   have h0 : a.eval (.tmp 0) = .pointer (some ⟨c, 0, none⟩) := hout 0 (by decide)
   have h0' := eval_get h0
   refine value_ (v := .pointer (some ⟨c, 0, none⟩)) (w1 := W) (by rfl) rfl ?_ (hK.out _ _ (Below.refl _ _) rfl)
   go_simp
  ·obtain rfl := Option.some.inj ho
   have e4 : a.eval (.tmp 132) = _ := hneed 4 (by decide)
   have e4' := eval_get e4
   refine value_ (v := .pointer (some ⟨c, 0, none⟩)) (w1 := W) (by rfl) rfl ?_ (hK.out _ _ (Below.refl _ _) rfl)
   go_simp
  ·obtain rfl := Option.some.inj ho
   have e5 : a.eval (.tmp 133) = _ := hneed 5 (by decide)
   have e5' := eval_get e5
   refine value_ (v := .pointer (some ⟨c, 0, none⟩)) (w1 := W) (by rfl) rfl ?_ (hK.out _ _ (Below.refl _ _) rfl)
   go_simp
  ·obtain rfl := Option.some.inj ho
   have e6 : a.eval (.tmp 134) = _ := hneed 6 (by decide)
   have e6' := eval_get e6
   have hb := blk_below (w := w1.drew) HC.out HBW.out
   have d0 := (blk_cell hb 0).trans rfl
   refine value_ (v := .int .i64 A) (w1 := W) (by rfl) rfl ?_ (hK.out _ _ (Below.refl _ _) rfl)
   go_simp
  ·obtain rfl := Option.some.inj ho
   have h4 : a.eval (.tmp 4) = .pointer (some ⟨g, 0, none⟩) := hout 4 (by decide)
   have h4' := eval_get h4
   refine value_ (v := .pointer (some ⟨g, 1, none⟩)) (w1 := W) (by rfl) rfl ?_ (hK.out _ _ (Below.refl _ _) rfl)
   go_simp
  ·obtain rfl := Option.some.inj ho
   have e8 : a.eval (.tmp 136) = _ := hneed 8 (by decide)
   have e8' := eval_get e8
   have hb := blk_below (w := w1.drew) HG.out HBW.out
   have d0 := (blk_cell hb 1).trans rfl
   refine value_ (v := .int .i64 arg) (w1 := W) (by rfl) rfl ?_ (hK.out _ _ (Below.refl _ _) rfl)
   go_simp
  ·obtain rfl := Option.some.inj ho
   have e7 : a.eval (.tmp 135) = _ := hneed 7 (by decide)
   have e7' := eval_get e7
   have e9 : a.eval (.tmp 137) = _ := hneed 9 (by decide)
   have e9' := eval_get e9
   refine value_ (v := .int .i64 (Go.bits .xor .i64 A arg)) (w1 := W) (by rfl) rfl ?_ (hK.out _ _ (Below.refl _ _) rfl)
   go_simp
  ·obtain rfl := Option.some.inj ho
   have e3 : a.eval (.tmp 131) = _ := hneed 3 (by decide)
   have e3' := eval_get e3
   have e10 : a.eval (.tmp 138) = _ := hneed 10 (by decide)
   have e10' := eval_get e10
   refine goes_ Try.func120 (by kernel_rfl) rfl #[.agg #[.int .i64 A, .int .i64 X, .int .i64 S, .int .i64 P, .bool Z, .bool N, .bool C, .bool I], .int .i64 (Go.bits .xor .i64 A arg)] (by rfl) rfl rfl (by simp only [List.map_toArray, List.map_cons, List.map_nil, e3, e10]) ?_
   refine (impl_SetA.calls A X S P Z N C I _ s1 X S P sz sn C I W HF.out).mono ?_
   rintro e w' ⟨rfl, hb⟩
   exact ⟨_, rfl, hK.out _ _ hb rfl⟩
 case lareckon8 =>
  intro o ho a W hout hneed
  obtain rfl := Option.some.inj ho
  have h0 : a.eval (.tmp 0) = .pointer (some ⟨c, 0, none⟩) := hout 0 (by decide)
  have h0' := eval_get h0
  refine ⟨.pointer (some ⟨c, 0, none⟩), rfl, Or.inl ⟨by rfl, ?_⟩⟩
  intro w'
  go_simp
 intro f vs W2 hB hE
 have HBW := Aside0.mk hB
 clear hB
 have q0 : vs 0 = _ := hE 0 (by decide)
 have q1 : vs 1 = _ := hE 1 (by decide)
 have q2 : vs 2 = _ := hE 2 (by decide)
 have q3 : vs 3 = _ := hE 3 (by decide)
 have q4 : vs 4 = _ := hE 4 (by decide)
 have q5 : vs 5 = _ := hE 5 (by decide)
 have q6 : vs 6 = _ := hE 6 (by decide)
 have q7 : vs 7 = _ := hE 7 (by decide)
 have q8 : vs 8 = _ := hE 8 (by decide)
 have q9 : vs 9 = _ := hE 9 (by decide)
 have q10 : vs 10 = _ := hE 10 (by decide)
 have q11 : vs 11 = _ := hE 11 (by decide)
 show wpAnyLast _ _ _ _ _ _ (f + 2) _ (putAll _ [(128, vs 0), (129, vs 1), (130, vs 2), (131, vs 3), (132, vs 4), (133, vs 5), (134, vs 6), (135, vs 7), (136, vs 8), (137, vs 9), (138, vs 10), (139, vs 11)]) W2
 rw [q0, q1, q2, q3, q4, q5, q6, q7, q8, q9, q10, q11]
 clear q0 q1 q2 q3 q4 q5 q6 q7 q8 q9 q10 q11 hE
 refine norm_ (a' := ?_) ?_ ?_
 rotate_left
 ·simp only [putAll, Act.put, List.setIfInBounds_toArray, List.set_cons_zero, List.set_cons_succ]
  rfl
 refine pv_ 12 (some 140) (bm 14 8191) ?_
 refine ov_ 13 none (bm 14 16383) (fun K hK => ?_)
 refine skip_ (w1 := ?_) (by rfl) rfl ?_ ?_
 rotate_left
 ·skip
  have hcW := blk_below (w := w1.drew) HC.out HBW.out
  obtain ⟨⟨r0, r1, r2, r3, r4, r5, r6, r7⟩, ⟨fr0, fr1, fr2, fr3, fr4, fr5, fr6, fr7⟩⟩ := cells8 (hcW)
  go_simp
  rfl
 refine hK.out _ _ trivial (fun _ => ?_)
 clear hK K
 refine done_ (by kernel_rfl) ?_
 go_wp2
 go_ret
 exact ⟨rfl, put8 (blk_below (w := w1.drew) HC.out HBW.out) _ _ _ _ _ _ _ _, kept8 (((KeptC.of_below HB1.out).drew).below HBW.out) _ _ _ _ _ _ _ _⟩
set_option maxRecDepth 100000 in
set_option maxHeartbeats 4000000 in
theorem reckon_4 {w : World} {c : Nat} {A X S P : Int} {Z N C I : Bool} (hc : w.heap[c]? = some (.cells #[.int .i64 A, .int .i64 X, .int .i64 S, .int .i64 P, .bool Z, .bool N, .bool C, .bool I] 55 (0, 0))) (arg v : Int) :
  Calls Try.prog 109 #[.pointer (some ⟨c, 0, none⟩), .agg #[.int .i64 4, .int .i64 arg], .int .i64 v] w fun e w' => e = .returned (.bool true) ∧ w'.heap[c]? = some (.cells (addK (⟨A, X, S, P, Z, N, C, I⟩ : Cp) arg).cells 55 (0, 0)) ∧ KeptC w w' c := by
 obtain ⟨sm, cy, s1, sz, sn, ha, hf, ek⟩ := addK_ex (⟨A, X, S, P, Z, N, C, I⟩ : Cp) arg
 rw [ek]
 clear ek
 have HA := Aside0.mk ha
 have HF := Aside0.mk hf
 clear ha hf
 have hu38 := Try.underlying55
 have hu68 := Try.underlying51
 have HC0 := Aside0.mk hc
 clear hc
 go_enter Try.func109, Try.ntmps109
 go_wp2_with (first | ((with_reducible refine gate_dst (N := 4) rfl ?_); refine bx (N := 4) (cs := #[.int .i64 4, .int .i64 arg]) (t := 51) ?_; intro g hg w1 hbox hb; have HC := Aside0.mk (blk_below HC0.out hb); have HG := Aside0.mk hbox; have HB1 := Aside0.mk hb; have hb1 : w1.cell? ⟨g, 0, none⟩ = some (.int .i64 4) := (blk_cell hbox 0).trans rfl; have hb2 : w1.cell? ⟨g, 1, none⟩ = some (.int .i64 arg) := (blk_cell hbox 1).trans rfl; clear HC0 hb hbox hg; obtain ⟨⟨y0, y1, y2, y3, y4, y5, y6, y7⟩, ⟨fy0, fy1, fy2, fy3, fy4, fy5, fy6, fy7⟩⟩ := cells8 (HC.out)))
 go_quiet (first | (go_at_call 121; refine (impl_Add8.calls A arg C sm cy _ HA.out).mono ?_; rintro e wq ⟨rfl, nd, rfl⟩; exact ⟨rfl, _, World.drewN_drewN _ _ _⟩))
 go_wp2_with (go_at_call 120; refine (impl_SetA.calls A X S P Z N C I _ s1 X S P sz sn C I _ HF.out).mono ?_; rintro e w2 ⟨rfl, hb⟩; have HC2 := Aside0.mk (blk_below (w := w1.drewN nq) HC.out hb); have HB2 := Aside0.mk hb; clear hb; obtain ⟨⟨r0, r1, r2, r3, r4, r5, r6, r7⟩, ⟨fr0, fr1, fr2, fr3, fr4, fr5, fr6, fr7⟩⟩ := cells8 (HC2.out))
 go_ret
 exact ⟨rfl, blk_put (put8 HC2.out _ _ _ _ _ _ _ _) 6 _ rfl, kept1 (kept8 (((KeptC.of_below HB1.out).drewN nq).below HB2.out) _ _ _ _ _ _ _ _) _ _⟩
set_option maxRecDepth 100000 in
set_option maxHeartbeats 4000000 in
theorem reckon_29 {w : World} {c : Nat} {A X S P : Int} {Z N C I : Bool} (hc : w.heap[c]? = some (.cells #[.int .i64 A, .int .i64 X, .int .i64 S, .int .i64 P, .bool Z, .bool N, .bool C, .bool I] 55 (0, 0))) (arg v : Int) :
  Calls Try.prog 109 #[.pointer (some ⟨c, 0, none⟩), .agg #[.int .i64 29, .int .i64 arg], .int .i64 v] w fun e w' => e = .returned (.bool true) ∧ w'.heap[c]? = some (.cells (addK (⟨A, X, S, P, Z, N, C, I⟩ : Cp) v).cells 55 (0, 0)) ∧ KeptC w w' c := by
 obtain ⟨sm, cy, s1, sz, sn, ha, hf, ek⟩ := addK_ex (⟨A, X, S, P, Z, N, C, I⟩ : Cp) v
 rw [ek]
 clear ek
 have HA := Aside0.mk ha
 have HF := Aside0.mk hf
 clear ha hf
 have hu38 := Try.underlying55
 have hu68 := Try.underlying51
 have HC0 := Aside0.mk hc
 clear hc
 go_enter Try.func109, Try.ntmps109
 go_wp2_with (first | ((with_reducible refine gate_dst (N := 4) rfl ?_); refine bx (N := 4) (cs := #[.int .i64 29, .int .i64 arg]) (t := 51) ?_; intro g hg w1 hbox hb; have HC := Aside0.mk (blk_below HC0.out hb); have HG := Aside0.mk hbox; have HB1 := Aside0.mk hb; have hb1 : w1.cell? ⟨g, 0, none⟩ = some (.int .i64 29) := (blk_cell hbox 0).trans rfl; have hb2 : w1.cell? ⟨g, 1, none⟩ = some (.int .i64 arg) := (blk_cell hbox 1).trans rfl; clear HC0 hb hbox hg; obtain ⟨⟨y0, y1, y2, y3, y4, y5, y6, y7⟩, ⟨fy0, fy1, fy2, fy3, fy4, fy5, fy6, fy7⟩⟩ := cells8 (HC.out)))
 go_quiet (first | (go_at_call 121; refine (impl_Add8.calls A v C sm cy _ HA.out).mono ?_; rintro e wq ⟨rfl, nd, rfl⟩; exact ⟨rfl, _, World.drewN_drewN _ _ _⟩))
 go_wp2_with (go_at_call 120; refine (impl_SetA.calls A X S P Z N C I _ s1 X S P sz sn C I _ HF.out).mono ?_; rintro e w2 ⟨rfl, hb⟩; have HC2 := Aside0.mk (blk_below (w := w1.drewN nq) HC.out hb); have HB2 := Aside0.mk hb; clear hb; obtain ⟨⟨r0, r1, r2, r3, r4, r5, r6, r7⟩, ⟨fr0, fr1, fr2, fr3, fr4, fr5, fr6, fr7⟩⟩ := cells8 (HC2.out))
 go_ret
 exact ⟨rfl, blk_put (put8 HC2.out _ _ _ _ _ _ _ _) 6 _ rfl, kept1 (kept8 (((KeptC.of_below HB1.out).drewN nq).below HB2.out) _ _ _ _ _ _ _ _) _ _⟩
set_option maxRecDepth 100000 in
set_option maxHeartbeats 4000000 in
theorem reckon_5 {w : World} {c : Nat} {A X S P : Int} {Z N C I : Bool} (hc : w.heap[c]? = some (.cells #[.int .i64 A, .int .i64 X, .int .i64 S, .int .i64 P, .bool Z, .bool N, .bool C, .bool I] 55 (0, 0))) (arg v : Int) :
  Calls Try.prog 109 #[.pointer (some ⟨c, 0, none⟩), .agg #[.int .i64 5, .int .i64 arg], .int .i64 v] w fun e w' => e = .returned (.bool true) ∧ w'.heap[c]? = some (.cells (subK (⟨A, X, S, P, Z, N, C, I⟩ : Cp) arg).cells 55 (0, 0)) ∧ KeptC w w' c := by
 obtain ⟨sm, cy, s1, sz, sn, ha, hf, ek⟩ := subK_ex (⟨A, X, S, P, Z, N, C, I⟩ : Cp) arg
 rw [ek]
 clear ek
 have HA := Aside0.mk ha
 have HF := Aside0.mk hf
 clear ha hf
 have hu38 := Try.underlying55
 have hu68 := Try.underlying51
 have HC0 := Aside0.mk hc
 clear hc
 go_enter Try.func109, Try.ntmps109
 go_wp2_with (first | ((with_reducible refine gate_dst (N := 4) rfl ?_); refine bx (N := 4) (cs := #[.int .i64 5, .int .i64 arg]) (t := 51) ?_; intro g hg w1 hbox hb; have HC := Aside0.mk (blk_below HC0.out hb); have HG := Aside0.mk hbox; have HB1 := Aside0.mk hb; have hb1 : w1.cell? ⟨g, 0, none⟩ = some (.int .i64 5) := (blk_cell hbox 0).trans rfl; have hb2 : w1.cell? ⟨g, 1, none⟩ = some (.int .i64 arg) := (blk_cell hbox 1).trans rfl; clear HC0 hb hbox hg; obtain ⟨⟨y0, y1, y2, y3, y4, y5, y6, y7⟩, ⟨fy0, fy1, fy2, fy3, fy4, fy5, fy6, fy7⟩⟩ := cells8 (HC.out)))
 go_quiet (first | (go_at_call 122; refine (impl_Sub8.calls A arg C sm cy _ HA.out).mono ?_; rintro e wq ⟨rfl, nd, rfl⟩; exact ⟨rfl, _, World.drewN_drewN _ _ _⟩))
 go_wp2_with (go_at_call 120; refine (impl_SetA.calls A X S P Z N C I _ s1 X S P sz sn C I _ HF.out).mono ?_; rintro e w2 ⟨rfl, hb⟩; have HC2 := Aside0.mk (blk_below (w := w1.drewN nq) HC.out hb); have HB2 := Aside0.mk hb; clear hb; obtain ⟨⟨r0, r1, r2, r3, r4, r5, r6, r7⟩, ⟨fr0, fr1, fr2, fr3, fr4, fr5, fr6, fr7⟩⟩ := cells8 (HC2.out))
 go_ret
 exact ⟨rfl, blk_put (put8 HC2.out _ _ _ _ _ _ _ _) 6 _ rfl, kept1 (kept8 (((KeptC.of_below HB1.out).drewN nq).below HB2.out) _ _ _ _ _ _ _ _) _ _⟩
set_option maxRecDepth 100000 in
set_option maxHeartbeats 4000000 in
theorem reckon_9 {w : World} {c : Nat} {A X S P : Int} {Z N C I : Bool} (hc : w.heap[c]? = some (.cells #[.int .i64 A, .int .i64 X, .int .i64 S, .int .i64 P, .bool Z, .bool N, .bool C, .bool I] 55 (0, 0))) (arg v : Int) :
  Calls Try.prog 109 #[.pointer (some ⟨c, 0, none⟩), .agg #[.int .i64 9, .int .i64 arg], .int .i64 v] w fun e w' => e = .returned (.bool true) ∧ w'.heap[c]? = some (.cells (cmpK (⟨A, X, S, P, Z, N, C, I⟩ : Cp) arg).cells 55 (0, 0)) ∧ KeptC w w' c := by
 obtain ⟨sm, cy, sz, sn, ha, hs, ek⟩ := cmpK_ex (⟨A, X, S, P, Z, N, C, I⟩ : Cp) arg
 rw [ek]
 clear ek
 have HA := Aside0.mk ha
 have HS := Aside0.mk hs
 clear ha hs
 have hu38 := Try.underlying55
 have hu68 := Try.underlying51
 have HC0 := Aside0.mk hc
 clear hc
 go_enter Try.func109, Try.ntmps109
 go_wp2_with (first | ((with_reducible refine gate_dst (N := 4) rfl ?_); refine bx (N := 4) (cs := #[.int .i64 9, .int .i64 arg]) (t := 51) ?_; intro g hg w1 hbox hb; have HC := Aside0.mk (blk_below HC0.out hb); have HG := Aside0.mk hbox; have HB1 := Aside0.mk hb; have hb1 : w1.cell? ⟨g, 0, none⟩ = some (.int .i64 9) := (blk_cell hbox 0).trans rfl; have hb2 : w1.cell? ⟨g, 1, none⟩ = some (.int .i64 arg) := (blk_cell hbox 1).trans rfl; clear HC0 hb hbox hg; obtain ⟨⟨y0, y1, y2, y3, y4, y5, y6, y7⟩, ⟨fy0, fy1, fy2, fy3, fy4, fy5, fy6, fy7⟩⟩ := cells8 (HC.out)))
 go_quiet (first | (go_at_call 122; refine (impl_Sub8.calls A arg true sm cy _ HA.out).mono ?_; rintro e wq ⟨rfl, nd, rfl⟩; exact ⟨rfl, _, World.drewN_drewN _ _ _⟩))
 go_wp2_with (go_at_call 123; refine (impl_Signs.calls sm sz sn _ HS.out).mono ?_; rintro e w2 ⟨rfl, n, rfl⟩)
 go_ret
 exact ⟨rfl, blk_put (blk_put (blk_put HC.out 4 _ rfl) 5 _ rfl) 6 _ rfl, kept1 (kept1 (kept1 ((KeptC.of_below HB1.out).drewN (nq + n)) _ _) _ _) _ _⟩
set_option maxRecDepth 100000 in
set_option maxHeartbeats 4000000 in
theorem reckon_no {w : World} {c : Nat} {A X S P : Int} {Z N C I : Bool} (hc : w.heap[c]? = some (.cells #[.int .i64 A, .int .i64 X, .int .i64 S, .int .i64 P, .bool Z, .bool N, .bool C, .bool I] 55 (0, 0))) (op arg v : Int) (n1 : (op == 1) = false) (n2 : (op == 2) = false) (n14 : (op == 14) = false) (n4 : (op == 4) = false) (n29 : (op == 29) = false) (n5 : (op == 5) = false) (n6 : (op == 6) = false) (n7 : (op == 7) = false) (n8 : (op == 8) = false) (n9 : (op == 9) = false) :
  Calls Try.prog 109 #[.pointer (some ⟨c, 0, none⟩), .agg #[.int .i64 op, .int .i64 arg], .int .i64 v] w fun e w' => e = .returned (.bool false) ∧ w'.heap[c]? = some (.cells (⟨A, X, S, P, Z, N, C, I⟩ : Cp).cells 55 (0, 0)) ∧ KeptC w w' c := by
 have hu38 := Try.underlying55
 have hu68 := Try.underlying51
 have HC0 := Aside0.mk hc
 clear hc
 go_enter Try.func109, Try.ntmps109
 go_wp2_with (first | ((with_reducible refine gate_dst (N := 4) rfl ?_); refine bx (N := 4) (cs := #[.int .i64 op, .int .i64 arg]) (t := 51) ?_; intro g hg w1 hbox hb; have HC := Aside0.mk (blk_below HC0.out hb); have HG := Aside0.mk hbox; have HB1 := Aside0.mk hb; have hb1 : w1.cell? ⟨g, 0, none⟩ = some (.int .i64 op) := (blk_cell hbox 0).trans rfl; have hb2 : w1.cell? ⟨g, 1, none⟩ = some (.int .i64 arg) := (blk_cell hbox 1).trans rfl; clear HC0 hb hbox hg; obtain ⟨⟨y0, y1, y2, y3, y4, y5, y6, y7⟩, ⟨fy0, fy1, fy2, fy3, fy4, fy5, fy6, fy7⟩⟩ := cells8 (HC.out)))
 go_ret
 exact ⟨rfl, HC.out, KeptC.of_below HB1.out⟩
def reckonF (k : Cp) (op arg v : Int) : Cp × Bool := if op = 1 then (setAK k arg, true) else if op = 2 then (setAK k v, true) else if op = 14 then (setAK k v, true) else if op = 4 then (addK k arg, true) else if op = 29 then (addK k v, true) else if op = 5 then (subK k arg, true) else if op = 6 then (setAK k (Go.bits .and .i64 k.A arg), true) else if op = 7 then (setAK k (Go.bits .or .i64 k.A arg), true) else if op = 8 then (setAK k (Go.bits .xor .i64 k.A arg), true) else if op = 9 then (cmpK k arg, true) else (k, false)
theorem reckon_calls {w : World} {c : Nat} {k : Cp} (hc : w.heap[c]? = some (.cells k.cells 55 (0, 0))) (op arg v : Int) :
  Calls Try.prog 109 #[.pointer (some ⟨c, 0, none⟩), .agg #[.int .i64 op, .int .i64 arg], .int .i64 v] w fun e w' => e = .returned (.bool (reckonF k op arg v).2) ∧ w'.heap[c]? = some (.cells (reckonF k op arg v).1.cells 55 (0, 0)) ∧ KeptC w w' c := by
 obtain ⟨A, X, S, P, Z, N, C, I⟩ := k
 unfold reckonF
 by_cases h1 : op = 1
 ·rw [if_pos h1, h1]
  exact reckon_1 hc arg v
 rw [if_neg h1]
 by_cases h2 : op = 2
 ·rw [if_pos h2, h2]
  exact reckon_2 hc arg v
 rw [if_neg h2]
 by_cases h14 : op = 14
 ·rw [if_pos h14, h14]
  exact reckon_14 hc arg v
 rw [if_neg h14]
 by_cases h4 : op = 4
 ·rw [if_pos h4, h4]
  exact reckon_4 hc arg v
 rw [if_neg h4]
 by_cases h29 : op = 29
 ·rw [if_pos h29, h29]
  exact reckon_29 hc arg v
 rw [if_neg h29]
 by_cases h5 : op = 5
 ·rw [if_pos h5, h5]
  exact reckon_5 hc arg v
 rw [if_neg h5]
 by_cases h6 : op = 6
 ·rw [if_pos h6, h6]
  exact reckon_6 hc arg v
 rw [if_neg h6]
 by_cases h7 : op = 7
 ·rw [if_pos h7, h7]
  exact reckon_7 hc arg v
 rw [if_neg h7]
 by_cases h8 : op = 8
 ·rw [if_pos h8, h8]
  exact reckon_8 hc arg v
 rw [if_neg h8]
 by_cases h9 : op = 9
 ·rw [if_pos h9, h9]
  exact reckon_9 hc arg v
 rw [if_neg h9]
 exact reckon_no hc op arg v (beq_eq_false_iff_ne.mpr h1) (beq_eq_false_iff_ne.mpr h2) (beq_eq_false_iff_ne.mpr h14) (beq_eq_false_iff_ne.mpr h4) (beq_eq_false_iff_ne.mpr h29) (beq_eq_false_iff_ne.mpr h5) (beq_eq_false_iff_ne.mpr h6) (beq_eq_false_iff_ne.mpr h7) (beq_eq_false_iff_ne.mpr h8) (beq_eq_false_iff_ne.mpr h9)

/-! ### impl_turn (mine) -/
set_option maxRecDepth 100000 in
set_option maxHeartbeats 4000000 in
theorem turn_10 {w : World} {c : Nat} {A X S P : Int} {Z N C I : Bool} (hc : w.heap[c]? = some (.cells #[.int .i64 A, .int .i64 X, .int .i64 S, .int .i64 P, .bool Z, .bool N, .bool C, .bool I] 55 (0, 0))) (arg : Int) :
  Calls Try.prog 110 #[.pointer (some ⟨c, 0, none⟩), .agg #[.int .i64 10, .int .i64 arg]] w fun e w' => e = .returned (.bool true) ∧ w'.heap[c]? = some (.cells (setXK (⟨A, X, S, P, Z, N, C, I⟩ : Cp) A).cells 55 (0, 0)) ∧ KeptC w w' c := by
 obtain ⟨s1, sz, sn, hf, ek⟩ := setx_ex (⟨A, X, S, P, Z, N, C, I⟩ : Cp) A
 rw [ek]
 clear ek
 have HF := Aside0.mk hf
 clear hf
 have hu38 := Try.underlying55
 have hu68 := Try.underlying51
 have HC0 := Aside0.mk hc
 clear hc
 go_enter Try.func110, Try.ntmps110
 go_wp2_with (first | ((with_reducible refine gate_dst (N := 3) rfl ?_); refine bx (N := 3) (cs := #[.int .i64 10, .int .i64 arg]) (t := 51) ?_; intro g hg w1 hbox hb; have HC := Aside0.mk (blk_below HC0.out hb); have HG := Aside0.mk hbox; have HB1 := Aside0.mk hb; have hb1 : w1.cell? ⟨g, 0, none⟩ = some (.int .i64 10) := (blk_cell hbox 0).trans rfl; have hb2 : w1.cell? ⟨g, 1, none⟩ = some (.int .i64 arg) := (blk_cell hbox 1).trans rfl; clear HC0 hb hbox hg; obtain ⟨⟨y0, y1, y2, y3, y4, y5, y6, y7⟩, ⟨fy0, fy1, fy2, fy3, fy4, fy5, fy6, fy7⟩⟩ := cells8 (HC.out)))
 refine free_ (n := 11) (e := 9) (g := 0) (T := (true, [([], []), ([], []), ([1], [1]), ([2], [2]), ([], []), ([4], [4]), ([5], [5]), ([6], [6]), ([3, 7], [3, 7]), ([0, 0, 1, 2, 3, 4, 5, 6, 7, 8], [0]), ([9, 8, 8, 0, 1, 2, 3, 4, 5, 6, 7, 8], [8, 9])])) #[true, true, true, true, true, true, true, true, true, false, false] #[false, true, true, true, true, true, true, true, true, false, false] [9, 10, 11, 12, 13, 14, 15, 16, 17] (fun j u w' => match j with
  | 0 => u = .pointer (some ⟨c, 0, none⟩)
  | 1 => u = .pointer (some ⟨c, 0, none⟩)
  | 2 => u = .pointer (some ⟨c, 0, none⟩)
  | 3 => u = .agg #[.int .i64 A, .int .i64 X, .int .i64 S, .int .i64 P, .bool Z, .bool N, .bool C, .bool I]
  | 4 => u = .pointer (some ⟨c, 0, none⟩)
  | 5 => u = .pointer (some ⟨c, 0, none⟩)
  | 6 => u = .pointer (some ⟨c, 0, none⟩)
  | 7 => u = .int .i64 A
  | 8 => u = .agg #[.int .i64 A, .int .i64 s1, .int .i64 S, .int .i64 P, .bool sz, .bool sn, .bool C, .bool I]
  | _ => False)
  (by kernel_rfl) rfl (by kernel_rfl) (by kernel_rfl) (by kernel_rfl) (any_of (T := (true, [([], []), ([], []), ([1], [1]), ([2], [2]), ([], []), ([4], [4]), ([5], [5]), ([6], [6]), ([3, 7], [3, 7]), ([0, 0, 1, 2, 3, 4, 5, 6, 7, 8], [0]), ([9, 8, 8, 0, 1, 2, 3, 4, 5, 6, 7, 8], [8, 9])])) (by kernel_rfl) (by kernel_rfl)) (fun _ _ _ _ h => h) ?stturn10 ?spturn10 ?laturn10 ?enturn10
 case stturn10 =>
  intro j u W W' h hb
  exact h
 case spturn10 =>
  intro i hi o ho a W hB hout hneed K hK
  have HBW := Aside0.mk hB
  have hcase : i = 0 ∨ i = 1 ∨ i = 2 ∨ i = 3 ∨ i = 4 ∨ i = 5 ∨ i = 6 ∨ i = 7 ∨ i = 8 := by omega
  clear hB
  rcases hcase with rfl | rfl | rfl | rfl | rfl | rfl | rfl | rfl | rfl
  ·obtain rfl := Option.some.inj ho
   have h0 : a.eval (.tmp 0) = .pointer (some ⟨c, 0, none⟩) := hout 0 (by decide)
   have h0' := eval_get h0
   refine value_ (v := .pointer (some ⟨c, 0, none⟩)) (w1 := W) (by rfl) rfl ?_ (hK.out _ _ (Below.refl _ _) rfl)
   go_simp
  ·obtain rfl := Option.some.inj ho
   have h0 : a.eval (.tmp 0) = .pointer (some ⟨c, 0, none⟩) := hout 0 (by decide)
   have h0' := eval_get h0
   refine value_ (v := .pointer (some ⟨c, 0, none⟩)) (w1 := W) (by rfl) rfl ?_ (hK.out _ _ (Below.refl _ _) rfl)
   go_simp
  ·obtain rfl := Option.some.inj ho
   have e1 : a.eval (.tmp 10) = _ := hneed 1 (by decide)
   have e1' := eval_get e1
   refine value_ (v := .pointer (some ⟨c, 0, none⟩)) (w1 := W) (by rfl) rfl ?_ (hK.out _ _ (Below.refl _ _) rfl)
   go_simp
  ·obtain rfl := Option.some.inj ho
   have e2 : a.eval (.tmp 11) = _ := hneed 2 (by decide)
   have e2' := eval_get e2
   have hb := blk_below (w := w1.drew) HC.out HBW.out
   obtain ⟨⟨d0, d1, d2, d3, d4, d5, d6, d7⟩, -⟩ := cells8 hb
   refine value_ (v := .agg #[.int .i64 A, .int .i64 X, .int .i64 S, .int .i64 P, .bool Z, .bool N, .bool C, .bool I]) (w1 := W) (by rfl) rfl ?_ (hK.out _ _ (Below.refl _ _) rfl)
   go_simp
  ·obtain rfl := Option.some.inj ho
   have h0 : a.eval (.tmp 0) = .pointer (some ⟨c, 0, none⟩) := hout 0 (by decide)
   have h0' := eval_get h0
   refine value_ (v := .pointer (some ⟨c, 0, none⟩)) (w1 := W) (by rfl) rfl ?_ (hK.out _ _ (Below.refl _ _) rfl)
   go_simp
  ·obtain rfl := Option.some.inj ho
   have e4 : a.eval (.tmp 13) = _ := hneed 4 (by decide)
   have e4' := eval_get e4
   refine value_ (v := .pointer (some ⟨c, 0, none⟩)) (w1 := W) (by rfl) rfl ?_ (hK.out _ _ (Below.refl _ _) rfl)
   go_simp
  ·obtain rfl := Option.some.inj ho
   have e5 : a.eval (.tmp 14) = _ := hneed 5 (by decide)
   have e5' := eval_get e5
   refine value_ (v := .pointer (some ⟨c, 0, none⟩)) (w1 := W) (by rfl) rfl ?_ (hK.out _ _ (Below.refl _ _) rfl)
   go_simp
  ·obtain rfl := Option.some.inj ho
   have e6 : a.eval (.tmp 15) = _ := hneed 6 (by decide)
   have e6' := eval_get e6
   have hb := blk_below (w := w1.drew) HC.out HBW.out
   have d0 := (blk_cell hb 0).trans rfl
   refine value_ (v := .int .i64 A) (w1 := W) (by rfl) rfl ?_ (hK.out _ _ (Below.refl _ _) rfl)
   go_simp
  ·obtain rfl := Option.some.inj ho
   have e3 : a.eval (.tmp 12) = _ := hneed 3 (by decide)
   have e3' := eval_get e3
   have e7 : a.eval (.tmp 16) = _ := hneed 7 (by decide)
   have e7' := eval_get e7
   refine goes_ Try.func124 (by kernel_rfl) rfl #[.agg #[.int .i64 A, .int .i64 X, .int .i64 S, .int .i64 P, .bool Z, .bool N, .bool C, .bool I], .int .i64 A] (by rfl) rfl rfl (by simp only [List.map_toArray, List.map_cons, List.map_nil, e3, e7]) ?_
   refine (impl_SetX.calls A X S P Z N C I _ A s1 S P sz sn C I W HF.out).mono ?_
   rintro e w' ⟨rfl, hb⟩
   exact ⟨_, rfl, hK.out _ _ hb rfl⟩
 case laturn10 =>
  intro o ho a W hout hneed
  obtain rfl := Option.some.inj ho
  have h0 : a.eval (.tmp 0) = .pointer (some ⟨c, 0, none⟩) := hout 0 (by decide)
  have h0' := eval_get h0
  refine ⟨.pointer (some ⟨c, 0, none⟩), rfl, Or.inl ⟨by rfl, ?_⟩⟩
  intro w'
  go_simp
 intro f vs W2 hB hE
 have HBW := Aside0.mk hB
 clear hB
 have q0 : vs 0 = _ := hE 0 (by decide)
 have q1 : vs 1 = _ := hE 1 (by decide)
 have q2 : vs 2 = _ := hE 2 (by decide)
 have q3 : vs 3 = _ := hE 3 (by decide)
 have q4 : vs 4 = _ := hE 4 (by decide)
 have q5 : vs 5 = _ := hE 5 (by decide)
 have q6 : vs 6 = _ := hE 6 (by decide)
 have q7 : vs 7 = _ := hE 7 (by decide)
 have q8 : vs 8 = _ := hE 8 (by decide)
 show wpAnyLast _ _ _ _ _ _ (f + 2) _ (putAll _ [(9, vs 0), (10, vs 1), (11, vs 2), (12, vs 3), (13, vs 4), (14, vs 5), (15, vs 6), (16, vs 7), (17, vs 8)]) W2
 rw [q0, q1, q2, q3, q4, q5, q6, q7, q8]
 clear q0 q1 q2 q3 q4 q5 q6 q7 q8 hE
 refine norm_ (a' := ?_) ?_ ?_
 rotate_left
 ·simp only [putAll, Act.put, List.setIfInBounds_toArray, List.set_cons_zero, List.set_cons_succ]
  rfl
 refine pv_ 9 (some 18) (bm 11 1023) ?_
 refine ov_ 10 none (bm 11 2047) (fun K hK => ?_)
 refine skip_ (w1 := ?_) (by rfl) rfl ?_ ?_
 rotate_left
 ·skip
  have hcW := blk_below (w := w1.drew) HC.out HBW.out
  obtain ⟨⟨r0, r1, r2, r3, r4, r5, r6, r7⟩, ⟨fr0, fr1, fr2, fr3, fr4, fr5, fr6, fr7⟩⟩ := cells8 (hcW)
  go_simp
  rfl
 refine hK.out _ _ trivial (fun _ => ?_)
 clear hK K
 refine done_ (by kernel_rfl) ?_
 go_wp2
 go_ret
 exact ⟨rfl, put8 (blk_below (w := w1.drew) HC.out HBW.out) _ _ _ _ _ _ _ _, kept8 (((KeptC.of_below HB1.out).drew).below HBW.out) _ _ _ _ _ _ _ _⟩
set_option maxRecDepth 100000 in
set_option maxHeartbeats 4000000 in
theorem turn_11 {w : World} {c : Nat} {A X S P : Int} {Z N C I : Bool} (hc : w.heap[c]? = some (.cells #[.int .i64 A, .int .i64 X, .int .i64 S, .int .i64 P, .bool Z, .bool N, .bool C, .bool I] 55 (0, 0))) (arg : Int) :
  Calls Try.prog 110 #[.pointer (some ⟨c, 0, none⟩), .agg #[.int .i64 11, .int .i64 arg]] w fun e w' => e = .returned (.bool true) ∧ w'.heap[c]? = some (.cells (setAK (⟨A, X, S, P, Z, N, C, I⟩ : Cp) X).cells 55 (0, 0)) ∧ KeptC w w' c := by
 obtain ⟨s1, sz, sn, hf, ek⟩ := seta_ex (⟨A, X, S, P, Z, N, C, I⟩ : Cp) X
 rw [ek]
 clear ek
 have HF := Aside0.mk hf
 clear hf
 have hu38 := Try.underlying55
 have hu68 := Try.underlying51
 have HC0 := Aside0.mk hc
 clear hc
 go_enter Try.func110, Try.ntmps110
 go_wp2_with (first | ((with_reducible refine gate_dst (N := 3) rfl ?_); refine bx (N := 3) (cs := #[.int .i64 11, .int .i64 arg]) (t := 51) ?_; intro g hg w1 hbox hb; have HC := Aside0.mk (blk_below HC0.out hb); have HG := Aside0.mk hbox; have HB1 := Aside0.mk hb; have hb1 : w1.cell? ⟨g, 0, none⟩ = some (.int .i64 11) := (blk_cell hbox 0).trans rfl; have hb2 : w1.cell? ⟨g, 1, none⟩ = some (.int .i64 arg) := (blk_cell hbox 1).trans rfl; clear HC0 hb hbox hg; obtain ⟨⟨y0, y1, y2, y3, y4, y5, y6, y7⟩, ⟨fy0, fy1, fy2, fy3, fy4, fy5, fy6, fy7⟩⟩ := cells8 (HC.out)))
 refine free_ (n := 11) (e := 9) (g := 0) (T := (true, [([], []), ([], []), ([1], [1]), ([2], [2]), ([], []), ([4], [4]), ([5], [5]), ([6], [6]), ([3, 7], [3, 7]), ([0, 0, 1, 2, 3, 4, 5, 6, 7, 8], [0]), ([9, 8, 8, 0, 1, 2, 3, 4, 5, 6, 7, 8], [8, 9])])) #[true, true, true, true, true, true, true, true, true, false, false] #[false, true, true, true, true, true, true, true, true, false, false] [21, 22, 23, 24, 25, 26, 27, 28, 29] (fun j u w' => match j with
  | 0 => u = .pointer (some ⟨c, 0, none⟩)
  | 1 => u = .pointer (some ⟨c, 0, none⟩)
  | 2 => u = .pointer (some ⟨c, 0, none⟩)
  | 3 => u = .agg #[.int .i64 A, .int .i64 X, .int .i64 S, .int .i64 P, .bool Z, .bool N, .bool C, .bool I]
  | 4 => u = .pointer (some ⟨c, 0, none⟩)
  | 5 => u = .pointer (some ⟨c, 0, none⟩)
  | 6 => u = .pointer (some ⟨c, 1, none⟩)
  | 7 => u = .int .i64 X
  | 8 => u = .agg #[.int .i64 s1, .int .i64 X, .int .i64 S, .int .i64 P, .bool sz, .bool sn, .bool C, .bool I]
  | _ => False)
  (by kernel_rfl) rfl (by kernel_rfl) (by kernel_rfl) (by kernel_rfl) (any_of (T := (true, [([], []), ([], []), ([1], [1]), ([2], [2]), ([], []), ([4], [4]), ([5], [5]), ([6], [6]), ([3, 7], [3, 7]), ([0, 0, 1, 2, 3, 4, 5, 6, 7, 8], [0]), ([9, 8, 8, 0, 1, 2, 3, 4, 5, 6, 7, 8], [8, 9])])) (by kernel_rfl) (by kernel_rfl)) (fun _ _ _ _ h => h) ?stturn11 ?spturn11 ?laturn11 ?enturn11
 case stturn11 =>
  intro j u W W' h hb
  exact h
 case spturn11 =>
  intro i hi o ho a W hB hout hneed K hK
  have HBW := Aside0.mk hB
  have hcase : i = 0 ∨ i = 1 ∨ i = 2 ∨ i = 3 ∨ i = 4 ∨ i = 5 ∨ i = 6 ∨ i = 7 ∨ i = 8 := by omega
  clear hB
  rcases hcase with rfl | rfl | rfl | rfl | rfl | rfl | rfl | rfl | rfl
  ·obtain rfl := Option.some.inj ho
   have h0 : a.eval (.tmp 0) = .pointer (some ⟨c, 0, none⟩) := hout 0 (by decide)
   have h0' := eval_get h0
   refine value_ (v := .pointer (some ⟨c, 0, none⟩)) (w1 := W) (by rfl) rfl ?_ (hK.out _ _ (Below.refl _ _) rfl)
   go_simp
  ·obtain rfl := Option.some.inj ho
   have h0 : a.eval (.tmp 0) = .pointer (some ⟨c, 0, none⟩) := hout 0 (by decide)
   have h0' := eval_get h0
   refine value_ (v := .pointer (some ⟨c, 0, none⟩)) (w1 := W) (by rfl) rfl ?_ (hK.out _ _ (Below.refl _ _) rfl)
   go_simp
  ·obtain rfl := Option.some.inj ho
   have e1 : a.eval (.tmp 22) = _ := hneed 1 (by decide)
   have e1' := eval_get e1
   refine value_ (v := .pointer (some ⟨c, 0, none⟩)) (w1 := W) (by rfl) rfl ?_ (hK.out _ _ (Below.refl _ _) rfl)
   go_simp
  ·obtain rfl := Option.some.inj ho
   have e2 : a.eval (.tmp 23) = _ := hneed 2 (by decide)
   have e2' := eval_get e2
   have hb := blk_below (w := w1.drew) HC.out HBW.out
   obtain ⟨⟨d0, d1, d2, d3, d4, d5, d6, d7⟩, -⟩ := cells8 hb
   refine value_ (v := .agg #[.int .i64 A, .int .i64 X, .int .i64 S, .int .i64 P, .bool Z, .bool N, .bool C, .bool I]) (w1 := W) (by rfl) rfl ?_ (hK.out _ _ (Below.refl _ _) rfl)
   go_simp
  ·obtain rfl := Option.some.inj ho
   have h0 : a.eval (.tmp 0) = .pointer (some ⟨c, 0, none⟩) := hout 0 (by decide)
   have h0' := eval_get h0
   refine value_ (v := .pointer (some ⟨c, 0, none⟩)) (w1 := W) (by rfl) rfl ?_ (hK.out _ _ (Below.refl _ _) rfl)
   go_simp
  ·obtain rfl := Option.some.inj ho
   have e4 : a.eval (.tmp 25) = _ := hneed 4 (by decide)
   have e4' := eval_get e4
   refine value_ (v := .pointer (some ⟨c, 0, none⟩)) (w1 := W) (by rfl) rfl ?_ (hK.out _ _ (Below.refl _ _) rfl)
   go_simp
  ·obtain rfl := Option.some.inj ho
   have e5 : a.eval (.tmp 26) = _ := hneed 5 (by decide)
   have e5' := eval_get e5
   refine value_ (v := .pointer (some ⟨c, 1, none⟩)) (w1 := W) (by rfl) rfl ?_ (hK.out _ _ (Below.refl _ _) rfl)
   go_simp
  ·obtain rfl := Option.some.inj ho
   have e6 : a.eval (.tmp 27) = _ := hneed 6 (by decide)
   have e6' := eval_get e6
   have hb := blk_below (w := w1.drew) HC.out HBW.out
   have d0 := (blk_cell hb 1).trans rfl
   refine value_ (v := .int .i64 X) (w1 := W) (by rfl) rfl ?_ (hK.out _ _ (Below.refl _ _) rfl)
   go_simp
  ·obtain rfl := Option.some.inj ho
   have e3 : a.eval (.tmp 24) = _ := hneed 3 (by decide)
   have e3' := eval_get e3
   have e7 : a.eval (.tmp 28) = _ := hneed 7 (by decide)
   have e7' := eval_get e7
   refine goes_ Try.func120 (by kernel_rfl) rfl #[.agg #[.int .i64 A, .int .i64 X, .int .i64 S, .int .i64 P, .bool Z, .bool N, .bool C, .bool I], .int .i64 X] (by rfl) rfl rfl (by simp only [List.map_toArray, List.map_cons, List.map_nil, e3, e7]) ?_
   refine (impl_SetA.calls A X S P Z N C I _ s1 X S P sz sn C I W HF.out).mono ?_
   rintro e w' ⟨rfl, hb⟩
   exact ⟨_, rfl, hK.out _ _ hb rfl⟩
 case laturn11 =>
  intro o ho a W hout hneed
  obtain rfl := Option.some.inj ho
  have h0 : a.eval (.tmp 0) = .pointer (some ⟨c, 0, none⟩) := hout 0 (by decide)
  have h0' := eval_get h0
  refine ⟨.pointer (some ⟨c, 0, none⟩), rfl, Or.inl ⟨by rfl, ?_⟩⟩
  intro w'
  go_simp
 intro f vs W2 hB hE
 have HBW := Aside0.mk hB
 clear hB
 have q0 : vs 0 = _ := hE 0 (by decide)
 have q1 : vs 1 = _ := hE 1 (by decide)
 have q2 : vs 2 = _ := hE 2 (by decide)
 have q3 : vs 3 = _ := hE 3 (by decide)
 have q4 : vs 4 = _ := hE 4 (by decide)
 have q5 : vs 5 = _ := hE 5 (by decide)
 have q6 : vs 6 = _ := hE 6 (by decide)
 have q7 : vs 7 = _ := hE 7 (by decide)
 have q8 : vs 8 = _ := hE 8 (by decide)
 show wpAnyLast _ _ _ _ _ _ (f + 2) _ (putAll _ [(21, vs 0), (22, vs 1), (23, vs 2), (24, vs 3), (25, vs 4), (26, vs 5), (27, vs 6), (28, vs 7), (29, vs 8)]) W2
 rw [q0, q1, q2, q3, q4, q5, q6, q7, q8]
 clear q0 q1 q2 q3 q4 q5 q6 q7 q8 hE
 refine norm_ (a' := ?_) ?_ ?_
 rotate_left
 ·simp only [putAll, Act.put, List.setIfInBounds_toArray, List.set_cons_zero, List.set_cons_succ]
  rfl
 refine pv_ 9 (some 30) (bm 11 1023) ?_
 refine ov_ 10 none (bm 11 2047) (fun K hK => ?_)
 refine skip_ (w1 := ?_) (by rfl) rfl ?_ ?_
 rotate_left
 ·skip
  have hcW := blk_below (w := w1.drew) HC.out HBW.out
  obtain ⟨⟨r0, r1, r2, r3, r4, r5, r6, r7⟩, ⟨fr0, fr1, fr2, fr3, fr4, fr5, fr6, fr7⟩⟩ := cells8 (hcW)
  go_simp
  rfl
 refine hK.out _ _ trivial (fun _ => ?_)
 clear hK K
 refine done_ (by kernel_rfl) ?_
 go_wp2
 go_ret
 exact ⟨rfl, put8 (blk_below (w := w1.drew) HC.out HBW.out) _ _ _ _ _ _ _ _, kept8 (((KeptC.of_below HB1.out).drew).below HBW.out) _ _ _ _ _ _ _ _⟩
set_option maxRecDepth 100000 in
set_option maxHeartbeats 4000000 in
theorem turn_12 {w : World} {c : Nat} {A X S P : Int} {Z N C I : Bool} (hc : w.heap[c]? = some (.cells #[.int .i64 A, .int .i64 X, .int .i64 S, .int .i64 P, .bool Z, .bool N, .bool C, .bool I] 55 (0, 0))) (arg : Int) :
  Calls Try.prog 110 #[.pointer (some ⟨c, 0, none⟩), .agg #[.int .i64 12, .int .i64 arg]] w fun e w' => e = .returned (.bool true) ∧ w'.heap[c]? = some (.cells (setXK (⟨A, X, S, P, Z, N, C, I⟩ : Cp) (wrap64 (X + 1))).cells 55 (0, 0)) ∧ KeptC w w' c := by
 obtain ⟨s1, sz, sn, hf, ek⟩ := setx_ex (⟨A, X, S, P, Z, N, C, I⟩ : Cp) (wrap64 (X + 1))
 rw [ek]
 clear ek
 have HF := Aside0.mk hf
 clear hf
 have hu38 := Try.underlying55
 have hu68 := Try.underlying51
 have HC0 := Aside0.mk hc
 clear hc
 go_enter Try.func110, Try.ntmps110
 go_wp2_with (first | ((with_reducible refine gate_dst (N := 3) rfl ?_); refine bx (N := 3) (cs := #[.int .i64 12, .int .i64 arg]) (t := 51) ?_; intro g hg w1 hbox hb; have HC := Aside0.mk (blk_below HC0.out hb); have HG := Aside0.mk hbox; have HB1 := Aside0.mk hb; have hb1 : w1.cell? ⟨g, 0, none⟩ = some (.int .i64 12) := (blk_cell hbox 0).trans rfl; have hb2 : w1.cell? ⟨g, 1, none⟩ = some (.int .i64 arg) := (blk_cell hbox 1).trans rfl; clear HC0 hb hbox hg; obtain ⟨⟨y0, y1, y2, y3, y4, y5, y6, y7⟩, ⟨fy0, fy1, fy2, fy3, fy4, fy5, fy6, fy7⟩⟩ := cells8 (HC.out)))
 refine free_ (n := 12) (e := 10) (g := 0) (T := (true, [([], []), ([], []), ([1], [1]), ([2], [2]), ([], []), ([4], [4]), ([5], [5]), ([6], [6]), ([7], [7]), ([3, 8], [3, 8]), ([0, 0, 1, 2, 3, 4, 5, 6, 7, 8, 9], [0]), ([10, 9, 9, 0, 1, 2, 3, 4, 5, 6, 7, 8, 9], [9, 10])])) #[true, true, true, true, true, true, true, true, true, true, false, false] #[false, true, true, true, true, true, true, true, true, true, false, false] [33, 34, 35, 36, 37, 38, 39, 40, 41, 42] (fun j u w' => match j with
  | 0 => u = .pointer (some ⟨c, 0, none⟩)
  | 1 => u = .pointer (some ⟨c, 0, none⟩)
  | 2 => u = .pointer (some ⟨c, 0, none⟩)
  | 3 => u = .agg #[.int .i64 A, .int .i64 X, .int .i64 S, .int .i64 P, .bool Z, .bool N, .bool C, .bool I]
  | 4 => u = .pointer (some ⟨c, 0, none⟩)
  | 5 => u = .pointer (some ⟨c, 0, none⟩)
  | 6 => u = .pointer (some ⟨c, 1, none⟩)
  | 7 => u = .int .i64 X
  | 8 => u = .int .i64 (wrap64 (X + 1))
  | 9 => u = .agg #[.int .i64 A, .int .i64 s1, .int .i64 S, .int .i64 P, .bool sz, .bool sn, .bool C, .bool I]
  | _ => False)
  (by kernel_rfl) rfl (by kernel_rfl) (by kernel_rfl) (by kernel_rfl) (any_of (T := (true, [([], []), ([], []), ([1], [1]), ([2], [2]), ([], []), ([4], [4]), ([5], [5]), ([6], [6]), ([7], [7]), ([3, 8], [3, 8]), ([0, 0, 1, 2, 3, 4, 5, 6, 7, 8, 9], [0]), ([10, 9, 9, 0, 1, 2, 3, 4, 5, 6, 7, 8, 9], [9, 10])])) (by kernel_rfl) (by kernel_rfl)) (fun _ _ _ _ h => h) ?stturn12 ?spturn12 ?laturn12 ?enturn12
 case stturn12 =>
  intro j u W W' h hb
  exact h
 case spturn12 =>
  intro i hi o ho a W hB hout hneed K hK
  have HBW := Aside0.mk hB
  have hcase : i = 0 ∨ i = 1 ∨ i = 2 ∨ i = 3 ∨ i = 4 ∨ i = 5 ∨ i = 6 ∨ i = 7 ∨ i = 8 ∨ i = 9 := by omega
  clear hB
  rcases hcase with rfl | rfl | rfl | rfl | rfl | rfl | rfl | rfl | rfl | rfl
  ·obtain rfl := Option.some.inj ho
   have h0 : a.eval (.tmp 0) = .pointer (some ⟨c, 0, none⟩) := hout 0 (by decide)
   have h0' := eval_get h0
   refine value_ (v := .pointer (some ⟨c, 0, none⟩)) (w1 := W) (by rfl) rfl ?_ (hK.out _ _ (Below.refl _ _) rfl)
   go_simp
  ·obtain rfl := Option.some.inj ho
   have h0 : a.eval (.tmp 0) = .pointer (some ⟨c, 0, none⟩) := hout 0 (by decide)
   have h0' := eval_get h0
   refine value_ (v := .pointer (some ⟨c, 0, none⟩)) (w1 := W) (by rfl) rfl ?_ (hK.out _ _ (Below.refl _ _) rfl)
   go_simp
  ·obtain rfl := Option.some.inj ho
   have e1 : a.eval (.tmp 34) = _ := hneed 1 (by decide)
   have e1' := eval_get e1
   refine value_ (v := .pointer (some ⟨c, 0, none⟩)) (w1 := W) (by rfl) rfl ?_ (hK.out _ _ (Below.refl _ _) rfl)
   go_simp
  ·obtain rfl := Option.some.inj ho
   have e2 : a.eval (.tmp 35) = _ := hneed 2 (by decide)
   have e2' := eval_get e2
   have hb := blk_below (w := w1.drew) HC.out HBW.out
   obtain ⟨⟨d0, d1, d2, d3, d4, d5, d6, d7⟩, -⟩ := cells8 hb
   refine value_ (v := .agg #[.int .i64 A, .int .i64 X, .int .i64 S, .int .i64 P, .bool Z, .bool N, .bool C, .bool I]) (w1 := W) (by rfl) rfl ?_ (hK.out _ _ (Below.refl _ _) rfl)
   go_simp
  ·obtain rfl := Option.some.inj ho
   have h0 : a.eval (.tmp 0) = .pointer (some ⟨c, 0, none⟩) := hout 0 (by decide)
   have h0' := eval_get h0
   refine value_ (v := .pointer (some ⟨c, 0, none⟩)) (w1 := W) (by rfl) rfl ?_ (hK.out _ _ (Below.refl _ _) rfl)
   go_simp
  ·obtain rfl := Option.some.inj ho
   have e4 : a.eval (.tmp 37) = _ := hneed 4 (by decide)
   have e4' := eval_get e4
   refine value_ (v := .pointer (some ⟨c, 0, none⟩)) (w1 := W) (by rfl) rfl ?_ (hK.out _ _ (Below.refl _ _) rfl)
   go_simp
  ·obtain rfl := Option.some.inj ho
   have e5 : a.eval (.tmp 38) = _ := hneed 5 (by decide)
   have e5' := eval_get e5
   refine value_ (v := .pointer (some ⟨c, 1, none⟩)) (w1 := W) (by rfl) rfl ?_ (hK.out _ _ (Below.refl _ _) rfl)
   go_simp
  ·obtain rfl := Option.some.inj ho
   have e6 : a.eval (.tmp 39) = _ := hneed 6 (by decide)
   have e6' := eval_get e6
   have hb := blk_below (w := w1.drew) HC.out HBW.out
   have d0 := (blk_cell hb 1).trans rfl
   refine value_ (v := .int .i64 X) (w1 := W) (by rfl) rfl ?_ (hK.out _ _ (Below.refl _ _) rfl)
   go_simp
  ·obtain rfl := Option.some.inj ho
   have e7 : a.eval (.tmp 40) = _ := hneed 7 (by decide)
   have e7' := eval_get e7
   refine value_ (v := .int .i64 (wrap64 (X + 1))) (w1 := W) (by rfl) rfl ?_ (hK.out _ _ (Below.refl _ _) rfl)
   go_simp
   first | done | rfl | simp only [i64_w]
  ·obtain rfl := Option.some.inj ho
   have e3 : a.eval (.tmp 36) = _ := hneed 3 (by decide)
   have e3' := eval_get e3
   have e8 : a.eval (.tmp 41) = _ := hneed 8 (by decide)
   have e8' := eval_get e8
   refine goes_ Try.func124 (by kernel_rfl) rfl #[.agg #[.int .i64 A, .int .i64 X, .int .i64 S, .int .i64 P, .bool Z, .bool N, .bool C, .bool I], .int .i64 (wrap64 (X + 1))] (by rfl) rfl rfl (by simp only [List.map_toArray, List.map_cons, List.map_nil, e3, e8]) ?_
   refine (impl_SetX.calls A X S P Z N C I _ A s1 S P sz sn C I W HF.out).mono ?_
   rintro e w' ⟨rfl, hb⟩
   exact ⟨_, rfl, hK.out _ _ hb rfl⟩
 case laturn12 =>
  intro o ho a W hout hneed
  obtain rfl := Option.some.inj ho
  have h0 : a.eval (.tmp 0) = .pointer (some ⟨c, 0, none⟩) := hout 0 (by decide)
  have h0' := eval_get h0
  refine ⟨.pointer (some ⟨c, 0, none⟩), rfl, Or.inl ⟨by rfl, ?_⟩⟩
  intro w'
  go_simp
 intro f vs W2 hB hE
 have HBW := Aside0.mk hB
 clear hB
 have q0 : vs 0 = _ := hE 0 (by decide)
 have q1 : vs 1 = _ := hE 1 (by decide)
 have q2 : vs 2 = _ := hE 2 (by decide)
 have q3 : vs 3 = _ := hE 3 (by decide)
 have q4 : vs 4 = _ := hE 4 (by decide)
 have q5 : vs 5 = _ := hE 5 (by decide)
 have q6 : vs 6 = _ := hE 6 (by decide)
 have q7 : vs 7 = _ := hE 7 (by decide)
 have q8 : vs 8 = _ := hE 8 (by decide)
 have q9 : vs 9 = _ := hE 9 (by decide)
 show wpAnyLast _ _ _ _ _ _ (f + 2) _ (putAll _ [(33, vs 0), (34, vs 1), (35, vs 2), (36, vs 3), (37, vs 4), (38, vs 5), (39, vs 6), (40, vs 7), (41, vs 8), (42, vs 9)]) W2
 rw [q0, q1, q2, q3, q4, q5, q6, q7, q8, q9]
 clear q0 q1 q2 q3 q4 q5 q6 q7 q8 q9 hE
 refine norm_ (a' := ?_) ?_ ?_
 rotate_left
 ·simp only [putAll, Act.put, List.setIfInBounds_toArray, List.set_cons_zero, List.set_cons_succ]
  rfl
 refine pv_ 10 (some 43) (bm 12 2047) ?_
 refine ov_ 11 none (bm 12 4095) (fun K hK => ?_)
 refine skip_ (w1 := ?_) (by rfl) rfl ?_ ?_
 rotate_left
 ·skip
  have hcW := blk_below (w := w1.drew) HC.out HBW.out
  obtain ⟨⟨r0, r1, r2, r3, r4, r5, r6, r7⟩, ⟨fr0, fr1, fr2, fr3, fr4, fr5, fr6, fr7⟩⟩ := cells8 (hcW)
  go_simp
  rfl
 refine hK.out _ _ trivial (fun _ => ?_)
 clear hK K
 refine done_ (by kernel_rfl) ?_
 go_wp2
 go_ret
 exact ⟨rfl, put8 (blk_below (w := w1.drew) HC.out HBW.out) _ _ _ _ _ _ _ _, kept8 (((KeptC.of_below HB1.out).drew).below HBW.out) _ _ _ _ _ _ _ _⟩
set_option maxRecDepth 100000 in
set_option maxHeartbeats 4000000 in
theorem turn_13 {w : World} {c : Nat} {A X S P : Int} {Z N C I : Bool} (hc : w.heap[c]? = some (.cells #[.int .i64 A, .int .i64 X, .int .i64 S, .int .i64 P, .bool Z, .bool N, .bool C, .bool I] 55 (0, 0))) (arg : Int) :
  Calls Try.prog 110 #[.pointer (some ⟨c, 0, none⟩), .agg #[.int .i64 13, .int .i64 arg]] w fun e w' => e = .returned (.bool true) ∧ w'.heap[c]? = some (.cells (setXK (⟨A, X, S, P, Z, N, C, I⟩ : Cp) (wrap64 (X - 1))).cells 55 (0, 0)) ∧ KeptC w w' c := by
 obtain ⟨s1, sz, sn, hf, ek⟩ := setx_ex (⟨A, X, S, P, Z, N, C, I⟩ : Cp) (wrap64 (X - 1))
 rw [ek]
 clear ek
 have HF := Aside0.mk hf
 clear hf
 have hu38 := Try.underlying55
 have hu68 := Try.underlying51
 have HC0 := Aside0.mk hc
 clear hc
 go_enter Try.func110, Try.ntmps110
 go_wp2_with (first | ((with_reducible refine gate_dst (N := 3) rfl ?_); refine bx (N := 3) (cs := #[.int .i64 13, .int .i64 arg]) (t := 51) ?_; intro g hg w1 hbox hb; have HC := Aside0.mk (blk_below HC0.out hb); have HG := Aside0.mk hbox; have HB1 := Aside0.mk hb; have hb1 : w1.cell? ⟨g, 0, none⟩ = some (.int .i64 13) := (blk_cell hbox 0).trans rfl; have hb2 : w1.cell? ⟨g, 1, none⟩ = some (.int .i64 arg) := (blk_cell hbox 1).trans rfl; clear HC0 hb hbox hg; obtain ⟨⟨y0, y1, y2, y3, y4, y5, y6, y7⟩, ⟨fy0, fy1, fy2, fy3, fy4, fy5, fy6, fy7⟩⟩ := cells8 (HC.out)))
 refine free_ (n := 12) (e := 10) (g := 0) (T := (true, [([], []), ([], []), ([1], [1]), ([2], [2]), ([], []), ([4], [4]), ([5], [5]), ([6], [6]), ([7], [7]), ([3, 8], [3, 8]), ([0, 0, 1, 2, 3, 4, 5, 6, 7, 8, 9], [0]), ([10, 9, 9, 0, 1, 2, 3, 4, 5, 6, 7, 8, 9], [9, 10])])) #[true, true, true, true, true, true, true, true, true, true, false, false] #[false, true, true, true, true, true, true, true, true, true, false, false] [46, 47, 48, 49, 50, 51, 52, 53, 54, 55] (fun j u w' => match j with
  | 0 => u = .pointer (some ⟨c, 0, none⟩)
  | 1 => u = .pointer (some ⟨c, 0, none⟩)
  | 2 => u = .pointer (some ⟨c, 0, none⟩)
  | 3 => u = .agg #[.int .i64 A, .int .i64 X, .int .i64 S, .int .i64 P, .bool Z, .bool N, .bool C, .bool I]
  | 4 => u = .pointer (some ⟨c, 0, none⟩)
  | 5 => u = .pointer (some ⟨c, 0, none⟩)
  | 6 => u = .pointer (some ⟨c, 1, none⟩)
  | 7 => u = .int .i64 X
  | 8 => u = .int .i64 (wrap64 (X - 1))
  | 9 => u = .agg #[.int .i64 A, .int .i64 s1, .int .i64 S, .int .i64 P, .bool sz, .bool sn, .bool C, .bool I]
  | _ => False)
  (by kernel_rfl) rfl (by kernel_rfl) (by kernel_rfl) (by kernel_rfl) (any_of (T := (true, [([], []), ([], []), ([1], [1]), ([2], [2]), ([], []), ([4], [4]), ([5], [5]), ([6], [6]), ([7], [7]), ([3, 8], [3, 8]), ([0, 0, 1, 2, 3, 4, 5, 6, 7, 8, 9], [0]), ([10, 9, 9, 0, 1, 2, 3, 4, 5, 6, 7, 8, 9], [9, 10])])) (by kernel_rfl) (by kernel_rfl)) (fun _ _ _ _ h => h) ?stturn13 ?spturn13 ?laturn13 ?enturn13
 case stturn13 =>
  intro j u W W' h hb
  exact h
 case spturn13 =>
  intro i hi o ho a W hB hout hneed K hK
  have HBW := Aside0.mk hB
  have hcase : i = 0 ∨ i = 1 ∨ i = 2 ∨ i = 3 ∨ i = 4 ∨ i = 5 ∨ i = 6 ∨ i = 7 ∨ i = 8 ∨ i = 9 := by omega
  clear hB
  rcases hcase with rfl | rfl | rfl | rfl | rfl | rfl | rfl | rfl | rfl | rfl
  ·obtain rfl := Option.some.inj ho
   have h0 : a.eval (.tmp 0) = .pointer (some ⟨c, 0, none⟩) := hout 0 (by decide)
   have h0' := eval_get h0
   refine value_ (v := .pointer (some ⟨c, 0, none⟩)) (w1 := W) (by rfl) rfl ?_ (hK.out _ _ (Below.refl _ _) rfl)
   go_simp
  ·obtain rfl := Option.some.inj ho
   have h0 : a.eval (.tmp 0) = .pointer (some ⟨c, 0, none⟩) := hout 0 (by decide)
   have h0' := eval_get h0
   refine value_ (v := .pointer (some ⟨c, 0, none⟩)) (w1 := W) (by rfl) rfl ?_ (hK.out _ _ (Below.refl _ _) rfl)
   go_simp
  ·obtain rfl := Option.some.inj ho
   have e1 : a.eval (.tmp 47) = _ := hneed 1 (by decide)
   have e1' := eval_get e1
   refine value_ (v := .pointer (some ⟨c, 0, none⟩)) (w1 := W) (by rfl) rfl ?_ (hK.out _ _ (Below.refl _ _) rfl)
   go_simp
  ·obtain rfl := Option.some.inj ho
   have e2 : a.eval (.tmp 48) = _ := hneed 2 (by decide)
   have e2' := eval_get e2
   have hb := blk_below (w := w1.drew) HC.out HBW.out
   obtain ⟨⟨d0, d1, d2, d3, d4, d5, d6, d7⟩, -⟩ := cells8 hb
   refine value_ (v := .agg #[.int .i64 A, .int .i64 X, .int .i64 S, .int .i64 P, .bool Z, .bool N, .bool C, .bool I]) (w1 := W) (by rfl) rfl ?_ (hK.out _ _ (Below.refl _ _) rfl)
   go_simp
  ·obtain rfl := Option.some.inj ho
   have h0 : a.eval (.tmp 0) = .pointer (some ⟨c, 0, none⟩) := hout 0 (by decide)
   have h0' := eval_get h0
   refine value_ (v := .pointer (some ⟨c, 0, none⟩)) (w1 := W) (by rfl) rfl ?_ (hK.out _ _ (Below.refl _ _) rfl)
   go_simp
  ·obtain rfl := Option.some.inj ho
   have e4 : a.eval (.tmp 50) = _ := hneed 4 (by decide)
   have e4' := eval_get e4
   refine value_ (v := .pointer (some ⟨c, 0, none⟩)) (w1 := W) (by rfl) rfl ?_ (hK.out _ _ (Below.refl _ _) rfl)
   go_simp
  ·obtain rfl := Option.some.inj ho
   have e5 : a.eval (.tmp 51) = _ := hneed 5 (by decide)
   have e5' := eval_get e5
   refine value_ (v := .pointer (some ⟨c, 1, none⟩)) (w1 := W) (by rfl) rfl ?_ (hK.out _ _ (Below.refl _ _) rfl)
   go_simp
  ·obtain rfl := Option.some.inj ho
   have e6 : a.eval (.tmp 52) = _ := hneed 6 (by decide)
   have e6' := eval_get e6
   have hb := blk_below (w := w1.drew) HC.out HBW.out
   have d0 := (blk_cell hb 1).trans rfl
   refine value_ (v := .int .i64 X) (w1 := W) (by rfl) rfl ?_ (hK.out _ _ (Below.refl _ _) rfl)
   go_simp
  ·obtain rfl := Option.some.inj ho
   have e7 : a.eval (.tmp 53) = _ := hneed 7 (by decide)
   have e7' := eval_get e7
   refine value_ (v := .int .i64 (wrap64 (X - 1))) (w1 := W) (by rfl) rfl ?_ (hK.out _ _ (Below.refl _ _) rfl)
   go_simp
   first | done | rfl | simp only [i64_w]
  ·obtain rfl := Option.some.inj ho
   have e3 : a.eval (.tmp 49) = _ := hneed 3 (by decide)
   have e3' := eval_get e3
   have e8 : a.eval (.tmp 54) = _ := hneed 8 (by decide)
   have e8' := eval_get e8
   refine goes_ Try.func124 (by kernel_rfl) rfl #[.agg #[.int .i64 A, .int .i64 X, .int .i64 S, .int .i64 P, .bool Z, .bool N, .bool C, .bool I], .int .i64 (wrap64 (X - 1))] (by rfl) rfl rfl (by simp only [List.map_toArray, List.map_cons, List.map_nil, e3, e8]) ?_
   refine (impl_SetX.calls A X S P Z N C I _ A s1 S P sz sn C I W HF.out).mono ?_
   rintro e w' ⟨rfl, hb⟩
   exact ⟨_, rfl, hK.out _ _ hb rfl⟩
 case laturn13 =>
  intro o ho a W hout hneed
  obtain rfl := Option.some.inj ho
  have h0 : a.eval (.tmp 0) = .pointer (some ⟨c, 0, none⟩) := hout 0 (by decide)
  have h0' := eval_get h0
  refine ⟨.pointer (some ⟨c, 0, none⟩), rfl, Or.inl ⟨by rfl, ?_⟩⟩
  intro w'
  go_simp
 intro f vs W2 hB hE
 have HBW := Aside0.mk hB
 clear hB
 have q0 : vs 0 = _ := hE 0 (by decide)
 have q1 : vs 1 = _ := hE 1 (by decide)
 have q2 : vs 2 = _ := hE 2 (by decide)
 have q3 : vs 3 = _ := hE 3 (by decide)
 have q4 : vs 4 = _ := hE 4 (by decide)
 have q5 : vs 5 = _ := hE 5 (by decide)
 have q6 : vs 6 = _ := hE 6 (by decide)
 have q7 : vs 7 = _ := hE 7 (by decide)
 have q8 : vs 8 = _ := hE 8 (by decide)
 have q9 : vs 9 = _ := hE 9 (by decide)
 show wpAnyLast _ _ _ _ _ _ (f + 2) _ (putAll _ [(46, vs 0), (47, vs 1), (48, vs 2), (49, vs 3), (50, vs 4), (51, vs 5), (52, vs 6), (53, vs 7), (54, vs 8), (55, vs 9)]) W2
 rw [q0, q1, q2, q3, q4, q5, q6, q7, q8, q9]
 clear q0 q1 q2 q3 q4 q5 q6 q7 q8 q9 hE
 refine norm_ (a' := ?_) ?_ ?_
 rotate_left
 ·simp only [putAll, Act.put, List.setIfInBounds_toArray, List.set_cons_zero, List.set_cons_succ]
  rfl
 refine pv_ 10 (some 56) (bm 12 2047) ?_
 refine ov_ 11 none (bm 12 4095) (fun K hK => ?_)
 refine skip_ (w1 := ?_) (by rfl) rfl ?_ ?_
 rotate_left
 ·skip
  have hcW := blk_below (w := w1.drew) HC.out HBW.out
  obtain ⟨⟨r0, r1, r2, r3, r4, r5, r6, r7⟩, ⟨fr0, fr1, fr2, fr3, fr4, fr5, fr6, fr7⟩⟩ := cells8 (hcW)
  go_simp
  rfl
 refine hK.out _ _ trivial (fun _ => ?_)
 clear hK K
 refine done_ (by kernel_rfl) ?_
 go_wp2
 go_ret
 exact ⟨rfl, put8 (blk_below (w := w1.drew) HC.out HBW.out) _ _ _ _ _ _ _ _, kept8 (((KeptC.of_below HB1.out).drew).below HBW.out) _ _ _ _ _ _ _ _⟩
set_option maxRecDepth 100000 in
set_option maxHeartbeats 4000000 in
theorem turn_25 {w : World} {c : Nat} {A X S P : Int} {Z N C I : Bool} (hc : w.heap[c]? = some (.cells #[.int .i64 A, .int .i64 X, .int .i64 S, .int .i64 P, .bool Z, .bool N, .bool C, .bool I] 55 (0, 0))) (arg : Int) :
  Calls Try.prog 110 #[.pointer (some ⟨c, 0, none⟩), .agg #[.int .i64 25, .int .i64 arg]] w fun e w' => e = .returned (.bool true) ∧ w'.heap[c]? = some (.cells (⟨A, X, S, P, Z, N, C, true⟩ : Cp).cells 55 (0, 0)) ∧ KeptC w w' c := by
 have hu38 := Try.underlying55
 have hu68 := Try.underlying51
 have HC0 := Aside0.mk hc
 clear hc
 go_enter Try.func110, Try.ntmps110
 go_wp2_with (first | ((with_reducible refine gate_dst (N := 3) rfl ?_); refine bx (N := 3) (cs := #[.int .i64 25, .int .i64 arg]) (t := 51) ?_; intro g hg w1 hbox hb; have HC := Aside0.mk (blk_below HC0.out hb); have HG := Aside0.mk hbox; have HB1 := Aside0.mk hb; have hb1 : w1.cell? ⟨g, 0, none⟩ = some (.int .i64 25) := (blk_cell hbox 0).trans rfl; have hb2 : w1.cell? ⟨g, 1, none⟩ = some (.int .i64 arg) := (blk_cell hbox 1).trans rfl; clear HC0 hb hbox hg; obtain ⟨⟨y0, y1, y2, y3, y4, y5, y6, y7⟩, ⟨fy0, fy1, fy2, fy3, fy4, fy5, fy6, fy7⟩⟩ := cells8 (HC.out)))
 go_ret
 exact ⟨rfl, blk_put HC.out 7 _ rfl, kept1 (KeptC.of_below HB1.out) _ _⟩
set_option maxRecDepth 100000 in
set_option maxHeartbeats 4000000 in
theorem turn_26 {w : World} {c : Nat} {A X S P : Int} {Z N C I : Bool} (hc : w.heap[c]? = some (.cells #[.int .i64 A, .int .i64 X, .int .i64 S, .int .i64 P, .bool Z, .bool N, .bool C, .bool I] 55 (0, 0))) (arg : Int) :
  Calls Try.prog 110 #[.pointer (some ⟨c, 0, none⟩), .agg #[.int .i64 26, .int .i64 arg]] w fun e w' => e = .returned (.bool true) ∧ w'.heap[c]? = some (.cells (⟨A, X, S, P, Z, N, C, false⟩ : Cp).cells 55 (0, 0)) ∧ KeptC w w' c := by
 have hu38 := Try.underlying55
 have hu68 := Try.underlying51
 have HC0 := Aside0.mk hc
 clear hc
 go_enter Try.func110, Try.ntmps110
 go_wp2_with (first | ((with_reducible refine gate_dst (N := 3) rfl ?_); refine bx (N := 3) (cs := #[.int .i64 26, .int .i64 arg]) (t := 51) ?_; intro g hg w1 hbox hb; have HC := Aside0.mk (blk_below HC0.out hb); have HG := Aside0.mk hbox; have HB1 := Aside0.mk hb; have hb1 : w1.cell? ⟨g, 0, none⟩ = some (.int .i64 26) := (blk_cell hbox 0).trans rfl; have hb2 : w1.cell? ⟨g, 1, none⟩ = some (.int .i64 arg) := (blk_cell hbox 1).trans rfl; clear HC0 hb hbox hg; obtain ⟨⟨y0, y1, y2, y3, y4, y5, y6, y7⟩, ⟨fy0, fy1, fy2, fy3, fy4, fy5, fy6, fy7⟩⟩ := cells8 (HC.out)))
 go_ret
 exact ⟨rfl, blk_put HC.out 7 _ rfl, kept1 (KeptC.of_below HB1.out) _ _⟩
set_option maxRecDepth 100000 in
set_option maxHeartbeats 4000000 in
theorem turn_27 {w : World} {c : Nat} {A X S P : Int} {Z N C I : Bool} (hc : w.heap[c]? = some (.cells #[.int .i64 A, .int .i64 X, .int .i64 S, .int .i64 P, .bool Z, .bool N, .bool C, .bool I] 55 (0, 0))) (arg : Int) :
  Calls Try.prog 110 #[.pointer (some ⟨c, 0, none⟩), .agg #[.int .i64 27, .int .i64 arg]] w fun e w' => e = .returned (.bool true) ∧ w'.heap[c]? = some (.cells (⟨A, X, S, P, Z, N, true, I⟩ : Cp).cells 55 (0, 0)) ∧ KeptC w w' c := by
 have hu38 := Try.underlying55
 have hu68 := Try.underlying51
 have HC0 := Aside0.mk hc
 clear hc
 go_enter Try.func110, Try.ntmps110
 go_wp2_with (first | ((with_reducible refine gate_dst (N := 3) rfl ?_); refine bx (N := 3) (cs := #[.int .i64 27, .int .i64 arg]) (t := 51) ?_; intro g hg w1 hbox hb; have HC := Aside0.mk (blk_below HC0.out hb); have HG := Aside0.mk hbox; have HB1 := Aside0.mk hb; have hb1 : w1.cell? ⟨g, 0, none⟩ = some (.int .i64 27) := (blk_cell hbox 0).trans rfl; have hb2 : w1.cell? ⟨g, 1, none⟩ = some (.int .i64 arg) := (blk_cell hbox 1).trans rfl; clear HC0 hb hbox hg; obtain ⟨⟨y0, y1, y2, y3, y4, y5, y6, y7⟩, ⟨fy0, fy1, fy2, fy3, fy4, fy5, fy6, fy7⟩⟩ := cells8 (HC.out)))
 go_ret
 exact ⟨rfl, blk_put HC.out 6 _ rfl, kept1 (KeptC.of_below HB1.out) _ _⟩
set_option maxRecDepth 100000 in
set_option maxHeartbeats 4000000 in
theorem turn_28 {w : World} {c : Nat} {A X S P : Int} {Z N C I : Bool} (hc : w.heap[c]? = some (.cells #[.int .i64 A, .int .i64 X, .int .i64 S, .int .i64 P, .bool Z, .bool N, .bool C, .bool I] 55 (0, 0))) (arg : Int) :
  Calls Try.prog 110 #[.pointer (some ⟨c, 0, none⟩), .agg #[.int .i64 28, .int .i64 arg]] w fun e w' => e = .returned (.bool true) ∧ w'.heap[c]? = some (.cells (⟨A, X, S, P, Z, N, false, I⟩ : Cp).cells 55 (0, 0)) ∧ KeptC w w' c := by
 have hu38 := Try.underlying55
 have hu68 := Try.underlying51
 have HC0 := Aside0.mk hc
 clear hc
 go_enter Try.func110, Try.ntmps110
 go_wp2_with (first | ((with_reducible refine gate_dst (N := 3) rfl ?_); refine bx (N := 3) (cs := #[.int .i64 28, .int .i64 arg]) (t := 51) ?_; intro g hg w1 hbox hb; have HC := Aside0.mk (blk_below HC0.out hb); have HG := Aside0.mk hbox; have HB1 := Aside0.mk hb; have hb1 : w1.cell? ⟨g, 0, none⟩ = some (.int .i64 28) := (blk_cell hbox 0).trans rfl; have hb2 : w1.cell? ⟨g, 1, none⟩ = some (.int .i64 arg) := (blk_cell hbox 1).trans rfl; clear HC0 hb hbox hg; obtain ⟨⟨y0, y1, y2, y3, y4, y5, y6, y7⟩, ⟨fy0, fy1, fy2, fy3, fy4, fy5, fy6, fy7⟩⟩ := cells8 (HC.out)))
 go_ret
 exact ⟨rfl, blk_put HC.out 6 _ rfl, kept1 (KeptC.of_below HB1.out) _ _⟩
set_option maxRecDepth 100000 in
set_option maxHeartbeats 4000000 in
theorem turn_no {w : World} {c : Nat} {A X S P : Int} {Z N C I : Bool} (hc : w.heap[c]? = some (.cells #[.int .i64 A, .int .i64 X, .int .i64 S, .int .i64 P, .bool Z, .bool N, .bool C, .bool I] 55 (0, 0))) (op arg : Int) (n10 : (op == 10) = false) (n11 : (op == 11) = false) (n12 : (op == 12) = false) (n13 : (op == 13) = false) (n25 : (op == 25) = false) (n26 : (op == 26) = false) (n27 : (op == 27) = false) (n28 : (op == 28) = false) :
  Calls Try.prog 110 #[.pointer (some ⟨c, 0, none⟩), .agg #[.int .i64 op, .int .i64 arg]] w fun e w' => e = .returned (.bool false) ∧ w'.heap[c]? = some (.cells (⟨A, X, S, P, Z, N, C, I⟩ : Cp).cells 55 (0, 0)) ∧ KeptC w w' c := by
 have hu38 := Try.underlying55
 have hu68 := Try.underlying51
 have HC0 := Aside0.mk hc
 clear hc
 go_enter Try.func110, Try.ntmps110
 go_wp2_with (first | ((with_reducible refine gate_dst (N := 3) rfl ?_); refine bx (N := 3) (cs := #[.int .i64 op, .int .i64 arg]) (t := 51) ?_; intro g hg w1 hbox hb; have HC := Aside0.mk (blk_below HC0.out hb); have HG := Aside0.mk hbox; have HB1 := Aside0.mk hb; have hb1 : w1.cell? ⟨g, 0, none⟩ = some (.int .i64 op) := (blk_cell hbox 0).trans rfl; have hb2 : w1.cell? ⟨g, 1, none⟩ = some (.int .i64 arg) := (blk_cell hbox 1).trans rfl; clear HC0 hb hbox hg; obtain ⟨⟨y0, y1, y2, y3, y4, y5, y6, y7⟩, ⟨fy0, fy1, fy2, fy3, fy4, fy5, fy6, fy7⟩⟩ := cells8 (HC.out)))
 go_ret
 exact ⟨rfl, HC.out, KeptC.of_below HB1.out⟩
def turnF (k : Cp) (op : Int) : Cp × Bool := if op = 10 then (setXK k k.A, true) else if op = 11 then (setAK k k.X, true) else if op = 12 then (setXK k (wrap64 (k.X + 1)), true) else if op = 13 then (setXK k (wrap64 (k.X - 1)), true) else if op = 25 then ({ k with I := true }, true) else if op = 26 then ({ k with I := false }, true) else if op = 27 then ({ k with C := true }, true) else if op = 28 then ({ k with C := false }, true) else (k, false)
theorem turn_calls {w : World} {c : Nat} {k : Cp} (hc : w.heap[c]? = some (.cells k.cells 55 (0, 0))) (op arg : Int) :
  Calls Try.prog 110 #[.pointer (some ⟨c, 0, none⟩), .agg #[.int .i64 op, .int .i64 arg]] w fun e w' => e = .returned (.bool (turnF k op).2) ∧ w'.heap[c]? = some (.cells (turnF k op).1.cells 55 (0, 0)) ∧ KeptC w w' c := by
 obtain ⟨A, X, S, P, Z, N, C, I⟩ := k
 unfold turnF
 by_cases h10 : op = 10
 ·rw [if_pos h10, h10]
  exact turn_10 hc arg
 rw [if_neg h10]
 by_cases h11 : op = 11
 ·rw [if_pos h11, h11]
  exact turn_11 hc arg
 rw [if_neg h11]
 by_cases h12 : op = 12
 ·rw [if_pos h12, h12]
  exact turn_12 hc arg
 rw [if_neg h12]
 by_cases h13 : op = 13
 ·rw [if_pos h13, h13]
  exact turn_13 hc arg
 rw [if_neg h13]
 by_cases h25 : op = 25
 ·rw [if_pos h25, h25]
  exact turn_25 hc arg
 rw [if_neg h25]
 by_cases h26 : op = 26
 ·rw [if_pos h26, h26]
  exact turn_26 hc arg
 rw [if_neg h26]
 by_cases h27 : op = 27
 ·rw [if_pos h27, h27]
  exact turn_27 hc arg
 rw [if_neg h27]
 by_cases h28 : op = 28
 ·rw [if_pos h28, h28]
  exact turn_28 hc arg
 rw [if_neg h28]
 exact turn_no hc op arg (beq_eq_false_iff_ne.mpr h10) (beq_eq_false_iff_ne.mpr h11) (beq_eq_false_iff_ne.mpr h12) (beq_eq_false_iff_ne.mpr h13) (beq_eq_false_iff_ne.mpr h25) (beq_eq_false_iff_ne.mpr h26) (beq_eq_false_iff_ne.mpr h27) (beq_eq_false_iff_ne.mpr h28)

/-! ### impl_WithFlags: function 127 -/
def impl_WithFlags.f (a0_0 : Int) (a0_1 : Int) (a0_2 : Int) (a0_3 : Int) (a0_4 : Bool) (a0_5 : Bool) (a0_6 : Bool) (a0_7 : Bool) (a1 : Int) : Option (Int × Int × Int × Int × Bool × Bool × Bool × Bool) := some (a0_0, a0_1, a0_2, a0_3, ((Go.bits .and .i64 a1 2) != 0), ((Go.bits .and .i64 a1 128) != 0), ((Go.bits .and .i64 a1 1) != 0), ((Go.bits .and .i64 a1 4) != 0))
set_option maxHeartbeats 8000000 in
set_option maxRecDepth 100000 in
theorem impl_WithFlags.calls (a0_0 : Int) (a0_1 : Int) (a0_2 : Int) (a0_3 : Int) (a0_4 : Bool) (a0_5 : Bool) (a0_6 : Bool) (a0_7 : Bool) (a1 : Int) (r1 : Int) (r2 : Int) (r3 : Int) (r4 : Int) (r5 : Bool) (r6 : Bool) (r7 : Bool) (r8 : Bool) (w : World) (h : impl_WithFlags.f a0_0 a0_1 a0_2 a0_3 a0_4 a0_5 a0_6 a0_7 a1 = some (r1, r2, r3, r4, r5, r6, r7, r8)) :
  Calls Try.prog 127 #[.agg #[.int .i64 a0_0, .int .i64 a0_1, .int .i64 a0_2, .int .i64 a0_3, .bool a0_4, .bool a0_5, .bool a0_6, .bool a0_7], .int .i64 a1] w fun e w' => e = .returned (.agg #[.int .i64 r1, .int .i64 r2, .int .i64 r3, .int .i64 r4, .bool r5, .bool r6, .bool r7, .bool r8]) ∧ Below w.heap.size w w' := by
 have hu55 := Try.underlying55
 have HB := Aside0.mk (Below.refl w.heap.size w)
 have H : (some (a0_0, a0_1, a0_2, a0_3, ((Go.bits .and .i64 a1 2) != 0), ((Go.bits .and .i64 a1 128) != 0), ((Go.bits .and .i64 a1 1) != 0), ((Go.bits .and .i64 a1 4) != 0))) = some (r1, r2, r3, r4, r5, r6, r7, r8) := h
 clear h
 simp only [Option.some.injEq, Prod.mk.injEq] at H
 obtain ⟨rfl, rfl, rfl, rfl, rfl, rfl, rfl, rfl⟩ := H
 go_enter Try.func127, Try.ntmps127
 go_wp2_with (first | ((with_reducible refine gate_dst (N := 2) rfl ?_); refine bx (N := 2) (cs := #[.int .i64 a0_0, .int .i64 a0_1, .int .i64 a0_2, .int .i64 a0_3, .bool a0_4, .bool a0_5, .bool a0_6, .bool a0_7]) (t := 55) ?_; intro gb259 hg w3 hbox hb; have BK259 := Aside0.mk (hbox); have GW259 := Aside0.mk ((gs hg (bw HB.out))); have GE259 := Aside0.mk ((gs hg (bw HB.out))); replace HB := Aside0.mk (below_step (bw HB.out) hb); clear hb hbox hg) | ((with_reducible refine gate_dst (N := 4) rfl ?_); refine bx (N := 4) (cs := #[.int .i64 0, .int .i64 0, .int .i64 0, .int .i64 0, .bool false, .bool false, .bool false, .bool false]) (t := 55) ?_; intro gb260 hg w4 hbox hb; have BK260 := Aside0.mk (hbox); have GW260 := Aside0.mk ((gs hg (bw HB.out))); have GE260 := Aside0.mk ((gs hg (bw HB.out))); replace HB := Aside0.mk (below_step (bw HB.out) hb); have NB259_260 := Aside0.mk ((ga hg BK259.out)); have NB260_259 := Aside0.mk ((gc hg BK259.out)); replace BK259 := Aside0.mk (bb BK259 hb); clear hb hbox hg; have hnb5 := NB259_260.out; have hnc5 := NB260_259.out; obtain ⟨hcz6_0, hcz6_1, hcz6_2, hcz6_3, hcz6_4, hcz6_5, hcz6_6, hcz6_7⟩ := ce8 BK259; obtain ⟨hfz6_0, hfz6_1, hfz6_2, hfz6_3, hfz6_4, hfz6_5, hfz6_6, hfz6_7⟩ := fz8 BK259; obtain ⟨hcz7_0, hcz7_1, hcz7_2, hcz7_3, hcz7_4, hcz7_5, hcz7_6, hcz7_7⟩ := ce8 BK260; have hfz7_0 := blk_frozen BK260.out 0; have hfz7_1 := blk_frozen BK260.out 1; have hfz7_2 := blk_frozen BK260.out 2; have hfz7_3 := blk_frozen BK260.out 3; have hfz7_4 := blk_frozen BK260.out 4; have hfz7_5 := blk_frozen BK260.out 5; have hfz7_6 := blk_frozen BK260.out 6; have hfz7_7 := blk_frozen BK260.out 7))
 refine bodyPost_ret (results_cell_row rfl _ _ gb260 55 #[.int .i64 a0_0, .int .i64 a0_1, .int .i64 a0_2, .int .i64 a0_3, .bool ((Go.bits .and .i64 a1 2) != 0), .bool ((Go.bits .and .i64 a1 128) != 0), .bool ((Go.bits .and .i64 a1 1) != 0), .bool ((Go.bits .and .i64 a1 4) != 0)] (0, 0) _ rfl (bf NB260_259 BK260.out) Try.underlying55 rfl (by kernel_rfl)) rfl ?_
 exact ⟨rt, bw HB.out⟩

-- NOT PRINTED: function 111 (impl_Mem_flow)

-- NOT PRINTED: function 89 (impl_Mem_exec)

/-! ### impl_flow (mine) -/
theorem addr_ex (a : Int) : ∃ t, impl_Addr.f a = some t ∧ a % 65536 = t := by
 refine ⟨_, ?_, rfl⟩
 unfold impl_Addr.f
 rw [and65535]
def flagK (k : Cp) (v : Int) : Cp := { k with Z := Go.bits .and .i64 v 2 != 0, N := Go.bits .and .i64 v 128 != 0, C := Go.bits .and .i64 v 1 != 0, I := Go.bits .and .i64 v 4 != 0 }
theorem flag_ex (k : Cp) (v : Int) : ∃ z n c i, impl_WithFlags.f k.A k.X k.S k.P k.Z k.N k.C k.I v = some (k.A, k.X, k.S, k.P, z, n, c, i) ∧ flagK k v = ⟨k.A, k.X, k.S, k.P, z, n, c, i⟩ := by
 refine ⟨_, _, _, _, ?_, rfl⟩
 unfold impl_WithFlags.f
 rfl
theorem MC.put8 {w0 w : World} {x c : Nat} {rv : Value} {b : Int} {k : Cp} {ram : List Int} (h : MC w0 w x c rv b k ram) (a x1 s p : Int) (z n cc i : Bool) :
  MC w0 ((((((((w.setCell ⟨c, 0, none⟩ (.int .i64 a)).setCell ⟨c, 1, none⟩ (.int .i64 x1)).setCell ⟨c, 2, none⟩ (.int .i64 s)).setCell ⟨c, 3, none⟩ (.int .i64 p)).setCell ⟨c, 4, none⟩ (.bool z)).setCell ⟨c, 5, none⟩ (.bool n)).setCell ⟨c, 6, none⟩ (.bool cc)).setCell ⟨c, 7, none⟩ (.bool i)) x c rv b ⟨a, x1, s, p, z, n, cc, i⟩ ram :=
 (((((((h.setC (k' := ⟨a, k.X, k.S, k.P, k.Z, k.N, k.C, k.I⟩) 0 _ rfl).setC (k' := ⟨a, x1, k.S, k.P, k.Z, k.N, k.C, k.I⟩) 1 _ rfl).setC (k' := ⟨a, x1, s, k.P, k.Z, k.N, k.C, k.I⟩) 2 _ rfl).setC (k' := ⟨a, x1, s, p, k.Z, k.N, k.C, k.I⟩) 3 _ rfl).setC (k' := ⟨a, x1, s, p, z, k.N, k.C, k.I⟩) 4 _ rfl).setC (k' := ⟨a, x1, s, p, z, n, k.C, k.I⟩) 5 _ rfl).setC (k' := ⟨a, x1, s, p, z, n, cc, k.I⟩) 6 _ rfl).setC (k' := ⟨a, x1, s, p, z, n, cc, i⟩) 7 _ rfl
theorem keptM8 {w W : World} {r : Nat} {Q : Nat → Prop} (h : Kept w W (fun j => j = r ∨ Q j)) (u0 u1 u2 u3 u4 u5 u6 u7 : Value) :
  Kept w ((((((((W.setCell ⟨r, 0, none⟩ u0).setCell ⟨r, 1, none⟩ u1).setCell ⟨r, 2, none⟩ u2).setCell ⟨r, 3, none⟩ u3).setCell ⟨r, 4, none⟩ u4).setCell ⟨r, 5, none⟩ u5).setCell ⟨r, 6, none⟩ u6).setCell ⟨r, 7, none⟩ u7) (fun j => j = r ∨ Q j) :=
 kept_set (kept_set (kept_set (kept_set (kept_set (kept_set (kept_set (kept_set h (.inl rfl) _) (.inl rfl) _) (.inl rfl) _) (.inl rfl) _) (.inl rfl) _) (.inl rfl) _) (.inl rfl) _) (.inl rfl) _
set_option maxRecDepth 100000 in
set_option maxHeartbeats 4000000 in
theorem flow_16_true {w0 w : World} {x c : Nat} {rv : Value} {b : Int} {A X S P : Int} {N C I : Bool} {ram : List Int} (h : MC w0 w x c rv b (⟨A, X, S, P, true, N, C, I⟩ : Cp) ram) (arg : Int) :
  Calls Try.prog 111 #[.pointer (some ⟨x, 0, none⟩), .pointer (some ⟨c, 0, none⟩), .agg #[.int .i64 16, .int .i64 arg]] w fun e w' => e = .returned (.tuple #[]) ∧ MC w0 w' x c rv b (⟨A, X, S, P, true, N, C, I⟩ : Cp) ram ∧ Kept w w' (fun j => j = c ∨ some j = rv.ownBlock) := by
 obtain ⟨tgt, ht, et⟩ := addr_ex arg
 have HT := Aside0.mk ht
 have ET := Aside0.mk et
 clear ht et
 have hu37 := Try.underlying32
 have hu38 := Try.underlying55
 have hu68 := Try.underlying51
 have H0 := Aside0.mk h
 clear h
 go_enter Try.func111, Try.ntmps111
 go_wp2_with (first | ((with_reducible refine gate_dst (N := 5) rfl ?_); refine bx (N := 5) (cs := #[.int .i64 16, .int .i64 arg]) (t := 51) ?_; intro g hg w1 hbox hb; have H1 := Aside0.mk (H0.out.later hb); have HB1 := Aside0.mk hb; have hb1 : w1.cell? ⟨g, 0, none⟩ = some (.int .i64 16) := (blk_cell hbox 0).trans rfl; have hb2 : w1.cell? ⟨g, 1, none⟩ = some (.int .i64 arg) := (blk_cell hbox 1).trans rfl; clear hbox hb hg H0; obtain ⟨⟨y0, y1, y2, y3, y4, y5, y6, y7⟩, ⟨fy0, fy1, fy2, fy3, fy4, fy5, fy6, fy7⟩⟩ := cells8 (H1.out.cpu)) | (go_at_call 52; refine (impl_Addr.calls arg tgt _ HT.out).mono ?_; rintro e w2 ⟨rfl, nd, rfl⟩))
 go_end0
 exact ⟨rfl, H1.out.drewN nd, ((Kept.of_below HB1.out _).drewN nd)⟩
set_option maxRecDepth 100000 in
set_option maxHeartbeats 4000000 in
theorem flow_16_false {w0 w : World} {x c : Nat} {rv : Value} {b : Int} {A X S P : Int} {N C I : Bool} {ram : List Int} (h : MC w0 w x c rv b (⟨A, X, S, P, false, N, C, I⟩ : Cp) ram) (arg : Int) :
  Calls Try.prog 111 #[.pointer (some ⟨x, 0, none⟩), .pointer (some ⟨c, 0, none⟩), .agg #[.int .i64 16, .int .i64 arg]] w fun e w' => e = .returned (.tuple #[]) ∧ MC w0 w' x c rv b ({ (⟨A, X, S, P, false, N, C, I⟩ : Cp) with P := arg % 65536 }) ram ∧ Kept w w' (fun j => j = c ∨ some j = rv.ownBlock) := by
 obtain ⟨tgt, ht, et⟩ := addr_ex arg
 have HT := Aside0.mk ht
 have ET := Aside0.mk et
 clear ht et
 have hu37 := Try.underlying32
 have hu38 := Try.underlying55
 have hu68 := Try.underlying51
 have H0 := Aside0.mk h
 clear h
 go_enter Try.func111, Try.ntmps111
 go_wp2_with (first | ((with_reducible refine gate_dst (N := 5) rfl ?_); refine bx (N := 5) (cs := #[.int .i64 16, .int .i64 arg]) (t := 51) ?_; intro g hg w1 hbox hb; have H1 := Aside0.mk (H0.out.later hb); have HB1 := Aside0.mk hb; have hb1 : w1.cell? ⟨g, 0, none⟩ = some (.int .i64 16) := (blk_cell hbox 0).trans rfl; have hb2 : w1.cell? ⟨g, 1, none⟩ = some (.int .i64 arg) := (blk_cell hbox 1).trans rfl; clear hbox hb hg H0; obtain ⟨⟨y0, y1, y2, y3, y4, y5, y6, y7⟩, ⟨fy0, fy1, fy2, fy3, fy4, fy5, fy6, fy7⟩⟩ := cells8 (H1.out.cpu)) | (go_at_call 52; refine (impl_Addr.calls arg tgt _ HT.out).mono ?_; rintro e w2 ⟨rfl, nd, rfl⟩))
 go_end0
 rw [ET.out]
 exact ⟨rfl, (H1.out.drewN nd).setC 3 _ rfl, kept_set ((Kept.of_below HB1.out _).drewN nd) (.inl rfl) _⟩
set_option maxRecDepth 100000 in
set_option maxHeartbeats 4000000 in
theorem flow_17_true {w0 w : World} {x c : Nat} {rv : Value} {b : Int} {A X S P : Int} {N C I : Bool} {ram : List Int} (h : MC w0 w x c rv b (⟨A, X, S, P, true, N, C, I⟩ : Cp) ram) (arg : Int) :
  Calls Try.prog 111 #[.pointer (some ⟨x, 0, none⟩), .pointer (some ⟨c, 0, none⟩), .agg #[.int .i64 17, .int .i64 arg]] w fun e w' => e = .returned (.tuple #[]) ∧ MC w0 w' x c rv b ({ (⟨A, X, S, P, true, N, C, I⟩ : Cp) with P := arg % 65536 }) ram ∧ Kept w w' (fun j => j = c ∨ some j = rv.ownBlock) := by
 obtain ⟨tgt, ht, et⟩ := addr_ex arg
 have HT := Aside0.mk ht
 have ET := Aside0.mk et
 clear ht et
 have hu37 := Try.underlying32
 have hu38 := Try.underlying55
 have hu68 := Try.underlying51
 have H0 := Aside0.mk h
 clear h
 go_enter Try.func111, Try.ntmps111
 go_wp2_with (first | ((with_reducible refine gate_dst (N := 5) rfl ?_); refine bx (N := 5) (cs := #[.int .i64 17, .int .i64 arg]) (t := 51) ?_; intro g hg w1 hbox hb; have H1 := Aside0.mk (H0.out.later hb); have HB1 := Aside0.mk hb; have hb1 : w1.cell? ⟨g, 0, none⟩ = some (.int .i64 17) := (blk_cell hbox 0).trans rfl; have hb2 : w1.cell? ⟨g, 1, none⟩ = some (.int .i64 arg) := (blk_cell hbox 1).trans rfl; clear hbox hb hg H0; obtain ⟨⟨y0, y1, y2, y3, y4, y5, y6, y7⟩, ⟨fy0, fy1, fy2, fy3, fy4, fy5, fy6, fy7⟩⟩ := cells8 (H1.out.cpu)) | (go_at_call 52; refine (impl_Addr.calls arg tgt _ HT.out).mono ?_; rintro e w2 ⟨rfl, nd, rfl⟩))
 go_end0
 rw [ET.out]
 exact ⟨rfl, (H1.out.drewN nd).setC 3 _ rfl, kept_set ((Kept.of_below HB1.out _).drewN nd) (.inl rfl) _⟩
set_option maxRecDepth 100000 in
set_option maxHeartbeats 4000000 in
theorem flow_17_false {w0 w : World} {x c : Nat} {rv : Value} {b : Int} {A X S P : Int} {N C I : Bool} {ram : List Int} (h : MC w0 w x c rv b (⟨A, X, S, P, false, N, C, I⟩ : Cp) ram) (arg : Int) :
  Calls Try.prog 111 #[.pointer (some ⟨x, 0, none⟩), .pointer (some ⟨c, 0, none⟩), .agg #[.int .i64 17, .int .i64 arg]] w fun e w' => e = .returned (.tuple #[]) ∧ MC w0 w' x c rv b (⟨A, X, S, P, false, N, C, I⟩ : Cp) ram ∧ Kept w w' (fun j => j = c ∨ some j = rv.ownBlock) := by
 obtain ⟨tgt, ht, et⟩ := addr_ex arg
 have HT := Aside0.mk ht
 have ET := Aside0.mk et
 clear ht et
 have hu37 := Try.underlying32
 have hu38 := Try.underlying55
 have hu68 := Try.underlying51
 have H0 := Aside0.mk h
 clear h
 go_enter Try.func111, Try.ntmps111
 go_wp2_with (first | ((with_reducible refine gate_dst (N := 5) rfl ?_); refine bx (N := 5) (cs := #[.int .i64 17, .int .i64 arg]) (t := 51) ?_; intro g hg w1 hbox hb; have H1 := Aside0.mk (H0.out.later hb); have HB1 := Aside0.mk hb; have hb1 : w1.cell? ⟨g, 0, none⟩ = some (.int .i64 17) := (blk_cell hbox 0).trans rfl; have hb2 : w1.cell? ⟨g, 1, none⟩ = some (.int .i64 arg) := (blk_cell hbox 1).trans rfl; clear hbox hb hg H0; obtain ⟨⟨y0, y1, y2, y3, y4, y5, y6, y7⟩, ⟨fy0, fy1, fy2, fy3, fy4, fy5, fy6, fy7⟩⟩ := cells8 (H1.out.cpu)) | (go_at_call 52; refine (impl_Addr.calls arg tgt _ HT.out).mono ?_; rintro e w2 ⟨rfl, nd, rfl⟩))
 go_end0
 exact ⟨rfl, H1.out.drewN nd, ((Kept.of_below HB1.out _).drewN nd)⟩
set_option maxRecDepth 100000 in
set_option maxHeartbeats 4000000 in
theorem flow_18_true {w0 w : World} {x c : Nat} {rv : Value} {b : Int} {A X S P : Int} {Z N I : Bool} {ram : List Int} (h : MC w0 w x c rv b (⟨A, X, S, P, Z, N, true, I⟩ : Cp) ram) (arg : Int) :
  Calls Try.prog 111 #[.pointer (some ⟨x, 0, none⟩), .pointer (some ⟨c, 0, none⟩), .agg #[.int .i64 18, .int .i64 arg]] w fun e w' => e = .returned (.tuple #[]) ∧ MC w0 w' x c rv b ({ (⟨A, X, S, P, Z, N, true, I⟩ : Cp) with P := arg % 65536 }) ram ∧ Kept w w' (fun j => j = c ∨ some j = rv.ownBlock) := by
 obtain ⟨tgt, ht, et⟩ := addr_ex arg
 have HT := Aside0.mk ht
 have ET := Aside0.mk et
 clear ht et
 have hu37 := Try.underlying32
 have hu38 := Try.underlying55
 have hu68 := Try.underlying51
 have H0 := Aside0.mk h
 clear h
 go_enter Try.func111, Try.ntmps111
 go_wp2_with (first | ((with_reducible refine gate_dst (N := 5) rfl ?_); refine bx (N := 5) (cs := #[.int .i64 18, .int .i64 arg]) (t := 51) ?_; intro g hg w1 hbox hb; have H1 := Aside0.mk (H0.out.later hb); have HB1 := Aside0.mk hb; have hb1 : w1.cell? ⟨g, 0, none⟩ = some (.int .i64 18) := (blk_cell hbox 0).trans rfl; have hb2 : w1.cell? ⟨g, 1, none⟩ = some (.int .i64 arg) := (blk_cell hbox 1).trans rfl; clear hbox hb hg H0; obtain ⟨⟨y0, y1, y2, y3, y4, y5, y6, y7⟩, ⟨fy0, fy1, fy2, fy3, fy4, fy5, fy6, fy7⟩⟩ := cells8 (H1.out.cpu)) | (go_at_call 52; refine (impl_Addr.calls arg tgt _ HT.out).mono ?_; rintro e w2 ⟨rfl, nd, rfl⟩))
 go_end0
 rw [ET.out]
 exact ⟨rfl, (H1.out.drewN nd).setC 3 _ rfl, kept_set ((Kept.of_below HB1.out _).drewN nd) (.inl rfl) _⟩
set_option maxRecDepth 100000 in
set_option maxHeartbeats 4000000 in
theorem flow_18_false {w0 w : World} {x c : Nat} {rv : Value} {b : Int} {A X S P : Int} {Z N I : Bool} {ram : List Int} (h : MC w0 w x c rv b (⟨A, X, S, P, Z, N, false, I⟩ : Cp) ram) (arg : Int) :
  Calls Try.prog 111 #[.pointer (some ⟨x, 0, none⟩), .pointer (some ⟨c, 0, none⟩), .agg #[.int .i64 18, .int .i64 arg]] w fun e w' => e = .returned (.tuple #[]) ∧ MC w0 w' x c rv b (⟨A, X, S, P, Z, N, false, I⟩ : Cp) ram ∧ Kept w w' (fun j => j = c ∨ some j = rv.ownBlock) := by
 obtain ⟨tgt, ht, et⟩ := addr_ex arg
 have HT := Aside0.mk ht
 have ET := Aside0.mk et
 clear ht et
 have hu37 := Try.underlying32
 have hu38 := Try.underlying55
 have hu68 := Try.underlying51
 have H0 := Aside0.mk h
 clear h
 go_enter Try.func111, Try.ntmps111
 go_wp2_with (first | ((with_reducible refine gate_dst (N := 5) rfl ?_); refine bx (N := 5) (cs := #[.int .i64 18, .int .i64 arg]) (t := 51) ?_; intro g hg w1 hbox hb; have H1 := Aside0.mk (H0.out.later hb); have HB1 := Aside0.mk hb; have hb1 : w1.cell? ⟨g, 0, none⟩ = some (.int .i64 18) := (blk_cell hbox 0).trans rfl; have hb2 : w1.cell? ⟨g, 1, none⟩ = some (.int .i64 arg) := (blk_cell hbox 1).trans rfl; clear hbox hb hg H0; obtain ⟨⟨y0, y1, y2, y3, y4, y5, y6, y7⟩, ⟨fy0, fy1, fy2, fy3, fy4, fy5, fy6, fy7⟩⟩ := cells8 (H1.out.cpu)) | (go_at_call 52; refine (impl_Addr.calls arg tgt _ HT.out).mono ?_; rintro e w2 ⟨rfl, nd, rfl⟩))
 go_end0
 exact ⟨rfl, H1.out.drewN nd, ((Kept.of_below HB1.out _).drewN nd)⟩
set_option maxRecDepth 100000 in
set_option maxHeartbeats 4000000 in
theorem flow_19 {w0 w : World} {x c : Nat} {rv : Value} {b : Int} {A X S P : Int} {Z N C I : Bool} {ram : List Int} (h : MC w0 w x c rv b (⟨A, X, S, P, Z, N, C, I⟩ : Cp) ram) (arg : Int) :
  Calls Try.prog 111 #[.pointer (some ⟨x, 0, none⟩), .pointer (some ⟨c, 0, none⟩), .agg #[.int .i64 19, .int .i64 arg]] w fun e w' => e = .returned (.tuple #[]) ∧ MC w0 w' x c rv b ({ (⟨A, X, S, P, Z, N, C, I⟩ : Cp) with P := arg % 65536 }) ram ∧ Kept w w' (fun j => j = c ∨ some j = rv.ownBlock) := by
 obtain ⟨tgt, ht, et⟩ := addr_ex arg
 have HT := Aside0.mk ht
 have ET := Aside0.mk et
 clear ht et
 have hu37 := Try.underlying32
 have hu38 := Try.underlying55
 have hu68 := Try.underlying51
 have H0 := Aside0.mk h
 clear h
 go_enter Try.func111, Try.ntmps111
 go_wp2_with (first | ((with_reducible refine gate_dst (N := 5) rfl ?_); refine bx (N := 5) (cs := #[.int .i64 19, .int .i64 arg]) (t := 51) ?_; intro g hg w1 hbox hb; have H1 := Aside0.mk (H0.out.later hb); have HB1 := Aside0.mk hb; have hb1 : w1.cell? ⟨g, 0, none⟩ = some (.int .i64 19) := (blk_cell hbox 0).trans rfl; have hb2 : w1.cell? ⟨g, 1, none⟩ = some (.int .i64 arg) := (blk_cell hbox 1).trans rfl; clear hbox hb hg H0; obtain ⟨⟨y0, y1, y2, y3, y4, y5, y6, y7⟩, ⟨fy0, fy1, fy2, fy3, fy4, fy5, fy6, fy7⟩⟩ := cells8 (H1.out.cpu)) | (go_at_call 52; refine (impl_Addr.calls arg tgt _ HT.out).mono ?_; rintro e w2 ⟨rfl, nd, rfl⟩))
 go_end0
 rw [ET.out]
 exact ⟨rfl, (H1.out.drewN nd).setC 3 _ rfl, kept_set ((Kept.of_below HB1.out _).drewN nd) (.inl rfl) _⟩
set_option maxRecDepth 100000 in
set_option maxHeartbeats 4000000 in
theorem flow_20 {w0 w : World} {x c : Nat} {rv : Value} {b : Int} {A X S P : Int} {Z N C I : Bool} {ram : List Int} (h : MC w0 w x c rv b (⟨A, X, S, P, Z, N, C, I⟩ : Cp) ram) (arg : Int) :
  Calls Try.prog 111 #[.pointer (some ⟨x, 0, none⟩), .pointer (some ⟨c, 0, none⟩), .agg #[.int .i64 20, .int .i64 arg]] w fun e w' => e = .returned (.tuple #[]) ∧ MC w0 w' x c rv b { (pushPcF ram (⟨A, X, S, P, Z, N, C, I⟩ : Cp)).2 with P := arg % 65536 } (pushPcF ram (⟨A, X, S, P, Z, N, C, I⟩ : Cp)).1 ∧ Kept w w' (fun j => j = c ∨ some j = rv.ownBlock) := by
 obtain ⟨tgt, ht, et⟩ := addr_ex arg
 have HT := Aside0.mk ht
 have ET := Aside0.mk et
 clear ht et
 have hu37 := Try.underlying32
 have hu38 := Try.underlying55
 have hu68 := Try.underlying51
 have H0 := Aside0.mk h
 clear h
 go_enter Try.func111, Try.ntmps111
 go_wp2_with (first | ((with_reducible refine gate_dst (N := 5) rfl ?_); refine bx (N := 5) (cs := #[.int .i64 20, .int .i64 arg]) (t := 51) ?_; intro g hg w1 hbox hb; have H1 := Aside0.mk (H0.out.later hb); have HB1 := Aside0.mk hb; have hb1 : w1.cell? ⟨g, 0, none⟩ = some (.int .i64 20) := (blk_cell hbox 0).trans rfl; have hb2 : w1.cell? ⟨g, 1, none⟩ = some (.int .i64 arg) := (blk_cell hbox 1).trans rfl; clear hbox hb hg H0; obtain ⟨⟨y0, y1, y2, y3, y4, y5, y6, y7⟩, ⟨fy0, fy1, fy2, fy3, fy4, fy5, fy6, fy7⟩⟩ := cells8 (H1.out.cpu)) | (go_at_call 52; refine (impl_Addr.calls arg tgt _ HT.out).mono ?_; rintro e w2 ⟨rfl, nd, rfl⟩))
 refine (pushPc_calls (H1.out.drewN nd)).mono ?_
 rintro e w4 ⟨rfl, h4, k4⟩
 generalize hq : pushPcF ram (⟨A, X, S, P, Z, N, C, I⟩ : Cp) = q at *
 have HQ := Aside0.mk hq
 clear hq
 have H4 := Aside0.mk h4
 have hP := blkP h4.cpu
 have fP := blk_frozen h4.cpu 3
 clear h4
 go_wp2
 go_end0
 rw [ET.out, HQ.out]
 exact ⟨rfl, H4.out.setC 3 _ rfl, kept_set (((Kept.of_below HB1.out _).drewN nd).then_ k4 (fun j hj => .inl hj)) (.inl rfl) _⟩
set_option maxRecDepth 100000 in
set_option maxHeartbeats 4000000 in
theorem flow_21 {w0 w : World} {x c : Nat} {rv : Value} {b : Int} {A X S P : Int} {Z N C I : Bool} {ram : List Int} (h : MC w0 w x c rv b (⟨A, X, S, P, Z, N, C, I⟩ : Cp) ram) (arg : Int) :
  Calls Try.prog 111 #[.pointer (some ⟨x, 0, none⟩), .pointer (some ⟨c, 0, none⟩), .agg #[.int .i64 21, .int .i64 arg]] w fun e w' => e = .returned (.tuple #[]) ∧ MC w0 w' x c rv b (backF ram (⟨A, X, S, P, Z, N, C, I⟩ : Cp)) ram ∧ Kept w w' (fun j => j = c ∨ some j = rv.ownBlock) := by
 obtain ⟨tgt, ht, et⟩ := addr_ex arg
 have HT := Aside0.mk ht
 have ET := Aside0.mk et
 clear ht et
 have hu37 := Try.underlying32
 have hu38 := Try.underlying55
 have hu68 := Try.underlying51
 have H0 := Aside0.mk h
 clear h
 go_enter Try.func111, Try.ntmps111
 go_wp2_with (first | ((with_reducible refine gate_dst (N := 5) rfl ?_); refine bx (N := 5) (cs := #[.int .i64 21, .int .i64 arg]) (t := 51) ?_; intro g hg w1 hbox hb; have H1 := Aside0.mk (H0.out.later hb); have HB1 := Aside0.mk hb; have hb1 : w1.cell? ⟨g, 0, none⟩ = some (.int .i64 21) := (blk_cell hbox 0).trans rfl; have hb2 : w1.cell? ⟨g, 1, none⟩ = some (.int .i64 arg) := (blk_cell hbox 1).trans rfl; clear hbox hb hg H0; obtain ⟨⟨y0, y1, y2, y3, y4, y5, y6, y7⟩, ⟨fy0, fy1, fy2, fy3, fy4, fy5, fy6, fy7⟩⟩ := cells8 (H1.out.cpu)) | (go_at_call 52; refine (impl_Addr.calls arg tgt _ HT.out).mono ?_; rintro e w2 ⟨rfl, nd, rfl⟩))
 refine (back_calls (H1.out.drewN nd)).mono ?_
 rintro e w4 ⟨rfl, h4, k4⟩
 have H4 := Aside0.mk h4
 clear h4
 go_wp2
 go_end0
 exact ⟨rfl, H4.out, (((Kept.of_below HB1.out _).drewN nd).then_ k4 (fun j hj => .inl hj))⟩
set_option maxRecDepth 100000 in
set_option maxHeartbeats 4000000 in
theorem flow_22 {w0 w : World} {x c : Nat} {rv : Value} {b : Int} {A X S P : Int} {Z N C I : Bool} {ram : List Int} (h : MC w0 w x c rv b (⟨A, X, S, P, Z, N, C, I⟩ : Cp) ram) (arg : Int) :
  Calls Try.prog 111 #[.pointer (some ⟨x, 0, none⟩), .pointer (some ⟨c, 0, none⟩), .agg #[.int .i64 22, .int .i64 arg]] w fun e w' => e = .returned (.tuple #[]) ∧ MC w0 w' x c rv b (pushF ram (⟨A, X, S, P, Z, N, C, I⟩ : Cp) A).2 (pushF ram (⟨A, X, S, P, Z, N, C, I⟩ : Cp) A).1 ∧ Kept w w' (fun j => j = c ∨ some j = rv.ownBlock) := by
 obtain ⟨tgt, ht, et⟩ := addr_ex arg
 have HT := Aside0.mk ht
 have ET := Aside0.mk et
 clear ht et
 have hu37 := Try.underlying32
 have hu38 := Try.underlying55
 have hu68 := Try.underlying51
 have H0 := Aside0.mk h
 clear h
 go_enter Try.func111, Try.ntmps111
 go_wp2_with (first | ((with_reducible refine gate_dst (N := 5) rfl ?_); refine bx (N := 5) (cs := #[.int .i64 22, .int .i64 arg]) (t := 51) ?_; intro g hg w1 hbox hb; have H1 := Aside0.mk (H0.out.later hb); have HB1 := Aside0.mk hb; have hb1 : w1.cell? ⟨g, 0, none⟩ = some (.int .i64 22) := (blk_cell hbox 0).trans rfl; have hb2 : w1.cell? ⟨g, 1, none⟩ = some (.int .i64 arg) := (blk_cell hbox 1).trans rfl; clear hbox hb hg H0; obtain ⟨⟨y0, y1, y2, y3, y4, y5, y6, y7⟩, ⟨fy0, fy1, fy2, fy3, fy4, fy5, fy6, fy7⟩⟩ := cells8 (H1.out.cpu)) | (go_at_call 52; refine (impl_Addr.calls arg tgt _ HT.out).mono ?_; rintro e w2 ⟨rfl, nd, rfl⟩))
 refine (push_calls (H1.out.drewN nd) A).mono ?_
 rintro e w4 ⟨rfl, h4, k4⟩
 have H4 := Aside0.mk h4
 clear h4
 go_wp2
 go_end0
 exact ⟨rfl, H4.out, (((Kept.of_below HB1.out _).drewN nd).then_ k4 (fun j hj => .inl hj))⟩
set_option maxRecDepth 100000 in
set_option maxHeartbeats 4000000 in
theorem flow_23 {w0 w : World} {x c : Nat} {rv : Value} {b : Int} {A X S P : Int} {Z N C I : Bool} {ram : List Int} (h : MC w0 w x c rv b (⟨A, X, S, P, Z, N, C, I⟩ : Cp) ram) (arg : Int) :
  Calls Try.prog 111 #[.pointer (some ⟨x, 0, none⟩), .pointer (some ⟨c, 0, none⟩), .agg #[.int .i64 23, .int .i64 arg]] w fun e w' => e = .returned (.tuple #[]) ∧ MC w0 w' x c rv b (setAK (pullF ram (⟨A, X, S, P, Z, N, C, I⟩ : Cp)).1 (pullF ram (⟨A, X, S, P, Z, N, C, I⟩ : Cp)).2) ram ∧ Kept w w' (fun j => j = c ∨ some j = rv.ownBlock) := by
 obtain ⟨tgt, ht, et⟩ := addr_ex arg
 have HT := Aside0.mk ht
 have ET := Aside0.mk et
 clear ht et
 have hu37 := Try.underlying32
 have hu38 := Try.underlying55
 have hu68 := Try.underlying51
 have H0 := Aside0.mk h
 clear h
 go_enter Try.func111, Try.ntmps111
 go_wp2_with (first | ((with_reducible refine gate_dst (N := 5) rfl ?_); refine bx (N := 5) (cs := #[.int .i64 23, .int .i64 arg]) (t := 51) ?_; intro g hg w1 hbox hb; have H1 := Aside0.mk (H0.out.later hb); have HB1 := Aside0.mk hb; have hb1 : w1.cell? ⟨g, 0, none⟩ = some (.int .i64 23) := (blk_cell hbox 0).trans rfl; have hb2 : w1.cell? ⟨g, 1, none⟩ = some (.int .i64 arg) := (blk_cell hbox 1).trans rfl; clear hbox hb hg H0; obtain ⟨⟨y0, y1, y2, y3, y4, y5, y6, y7⟩, ⟨fy0, fy1, fy2, fy3, fy4, fy5, fy6, fy7⟩⟩ := cells8 (H1.out.cpu)) | (go_at_call 52; refine (impl_Addr.calls arg tgt _ HT.out).mono ?_; rintro e w2 ⟨rfl, nd, rfl⟩))
 refine (pull_calls (H1.out.drewN nd)).mono ?_
 rintro e w4 ⟨rfl, h4, k4⟩
 generalize hq : pullF ram (⟨A, X, S, P, Z, N, C, I⟩ : Cp) = q at *
 have HQ := Aside0.mk hq
 clear hq
 obtain ⟨⟨qa, qx, qs, qp, qz, qn, qc, qi⟩, qv⟩ := q
 simp only at h4
 obtain ⟨s1, sz, sn, hf, ek⟩ := seta_ex (⟨qa, qx, qs, qp, qz, qn, qc, qi⟩ : Cp) qv
 have EK := Aside0.mk ek
 clear ek
 have HF := Aside0.mk hf
 have H4 := Aside0.mk h4
 clear hf
 obtain ⟨⟨p0, p1, p2, p3, p4, p5, p6, p7⟩, -⟩ := cells8 h4.cpu
 clear h4
 go_wp2_with (go_at_call 120; refine (impl_SetA.calls qa qx qs qp qz qn qc qi qv s1 qx qs qp sz sn qc qi _ HF.out).mono ?_; rintro e w5 ⟨rfl, hb⟩; have H5 := Aside0.mk (H4.out.later hb); have HB5 := Aside0.mk hb; clear hb; obtain ⟨⟨r0, r1, r2, r3, r4, r5, r6, r7⟩, ⟨f0, f1, f2, f3, f4, f5, f6, f7⟩⟩ := cells8 H5.out.cpu)
 go_end0
 rw [HQ.out]
 simp only
 rw [EK.out]
 exact ⟨trivial, H5.out.put8 _ _ _ _ _ _ _ _, keptM8 ((((Kept.of_below HB1.out _).drewN nd).then_ k4 (fun j hj => .inl hj)).below HB5.out) _ _ _ _ _ _ _ _⟩
set_option maxRecDepth 100000 in
set_option maxHeartbeats 4000000 in
theorem flow_24 {w0 w : World} {x c : Nat} {rv : Value} {b : Int} {A X S P : Int} {Z N C I : Bool} {ram : List Int} (h : MC w0 w x c rv b (⟨A, X, S, P, Z, N, C, I⟩ : Cp) ram) (arg : Int) :
  Calls Try.prog 111 #[.pointer (some ⟨x, 0, none⟩), .pointer (some ⟨c, 0, none⟩), .agg #[.int .i64 24, .int .i64 arg]] w fun e w' => e = .returned (.tuple #[]) ∧ MC w0 w' x c rv b (backF ram (flagK (pullF ram (⟨A, X, S, P, Z, N, C, I⟩ : Cp)).1 (pullF ram (⟨A, X, S, P, Z, N, C, I⟩ : Cp)).2)) ram ∧ Kept w w' (fun j => j = c ∨ some j = rv.ownBlock) := by
 obtain ⟨tgt, ht, et⟩ := addr_ex arg
 have HT := Aside0.mk ht
 have ET := Aside0.mk et
 clear ht et
 have hu37 := Try.underlying32
 have hu38 := Try.underlying55
 have hu68 := Try.underlying51
 have H0 := Aside0.mk h
 clear h
 go_enter Try.func111, Try.ntmps111
 go_wp2_with (first | ((with_reducible refine gate_dst (N := 5) rfl ?_); refine bx (N := 5) (cs := #[.int .i64 24, .int .i64 arg]) (t := 51) ?_; intro g hg w1 hbox hb; have H1 := Aside0.mk (H0.out.later hb); have HB1 := Aside0.mk hb; have hb1 : w1.cell? ⟨g, 0, none⟩ = some (.int .i64 24) := (blk_cell hbox 0).trans rfl; have hb2 : w1.cell? ⟨g, 1, none⟩ = some (.int .i64 arg) := (blk_cell hbox 1).trans rfl; clear hbox hb hg H0; obtain ⟨⟨y0, y1, y2, y3, y4, y5, y6, y7⟩, ⟨fy0, fy1, fy2, fy3, fy4, fy5, fy6, fy7⟩⟩ := cells8 (H1.out.cpu)) | (go_at_call 52; refine (impl_Addr.calls arg tgt _ HT.out).mono ?_; rintro e w2 ⟨rfl, nd, rfl⟩))
 refine (pull_calls (H1.out.drewN nd)).mono ?_
 rintro e w4 ⟨rfl, h4, k4⟩
 generalize hq : pullF ram (⟨A, X, S, P, Z, N, C, I⟩ : Cp) = q at *
 have HQ := Aside0.mk hq
 clear hq
 obtain ⟨⟨qa, qx, qs, qp, qz, qn, qc, qi⟩, qv⟩ := q
 simp only at h4
 obtain ⟨vz, vn, vc, vi, hf, ek⟩ := flag_ex (⟨qa, qx, qs, qp, qz, qn, qc, qi⟩ : Cp) qv
 have EK := Aside0.mk ek
 clear ek
 have HF := Aside0.mk hf
 have H4 := Aside0.mk h4
 clear hf
 obtain ⟨⟨p0, p1, p2, p3, p4, p5, p6, p7⟩, -⟩ := cells8 h4.cpu
 clear h4
 go_wp2_with (go_at_call 127; refine (impl_WithFlags.calls qa qx qs qp qz qn qc qi qv qa qx qs qp vz vn vc vi _ HF.out).mono ?_; rintro e w5 ⟨rfl, hb⟩; have H5 := Aside0.mk (H4.out.later hb); have HB5 := Aside0.mk hb; clear hb; obtain ⟨⟨r0, r1, r2, r3, r4, r5, r6, r7⟩, ⟨f0, f1, f2, f3, f4, f5, f6, f7⟩⟩ := cells8 H5.out.cpu)
 refine (back_calls (H5.out.put8 _ _ _ _ _ _ _ _)).mono ?_
 rintro e w6 ⟨rfl, h6, k6⟩
 have H6 := Aside0.mk h6
 clear h6
 go_wp2
 go_end0
 rw [HQ.out]
 simp only
 rw [EK.out]
 exact ⟨trivial, H6.out, (keptM8 ((((Kept.of_below HB1.out _).drewN nd).then_ k4 (fun j hj => .inl hj)).below HB5.out) _ _ _ _ _ _ _ _).then_ k6 (fun j hj => .inl hj)⟩
set_option maxRecDepth 100000 in
set_option maxHeartbeats 4000000 in
theorem flow_no {w0 w : World} {x c : Nat} {rv : Value} {b : Int} {A X S P : Int} {Z N C I : Bool} {ram : List Int} (h : MC w0 w x c rv b (⟨A, X, S, P, Z, N, C, I⟩ : Cp) ram) (op arg : Int) (n16 : (op == 16) = false) (n17 : (op == 17) = false) (n18 : (op == 18) = false) (n19 : (op == 19) = false) (n20 : (op == 20) = false) (n21 : (op == 21) = false) (n22 : (op == 22) = false) (n23 : (op == 23) = false) (n24 : (op == 24) = false) :
  Calls Try.prog 111 #[.pointer (some ⟨x, 0, none⟩), .pointer (some ⟨c, 0, none⟩), .agg #[.int .i64 op, .int .i64 arg]] w fun e w' => e = .returned (.tuple #[]) ∧ MC w0 w' x c rv b (⟨A, X, S, P, Z, N, C, I⟩ : Cp) ram ∧ Kept w w' (fun j => j = c ∨ some j = rv.ownBlock) := by
 obtain ⟨tgt, ht, et⟩ := addr_ex arg
 have HT := Aside0.mk ht
 have ET := Aside0.mk et
 clear ht et
 have hu37 := Try.underlying32
 have hu38 := Try.underlying55
 have hu68 := Try.underlying51
 have H0 := Aside0.mk h
 clear h
 go_enter Try.func111, Try.ntmps111
 go_wp2_with (first | ((with_reducible refine gate_dst (N := 5) rfl ?_); refine bx (N := 5) (cs := #[.int .i64 op, .int .i64 arg]) (t := 51) ?_; intro g hg w1 hbox hb; have H1 := Aside0.mk (H0.out.later hb); have HB1 := Aside0.mk hb; have hb1 : w1.cell? ⟨g, 0, none⟩ = some (.int .i64 op) := (blk_cell hbox 0).trans rfl; have hb2 : w1.cell? ⟨g, 1, none⟩ = some (.int .i64 arg) := (blk_cell hbox 1).trans rfl; clear hbox hb hg H0; obtain ⟨⟨y0, y1, y2, y3, y4, y5, y6, y7⟩, ⟨fy0, fy1, fy2, fy3, fy4, fy5, fy6, fy7⟩⟩ := cells8 (H1.out.cpu)) | (go_at_call 52; refine (impl_Addr.calls arg tgt _ HT.out).mono ?_; rintro e w2 ⟨rfl, nd, rfl⟩))
 go_end0
 exact ⟨rfl, H1.out.drewN nd, ((Kept.of_below HB1.out _).drewN nd)⟩
def flowF (ram : List Int) (k : Cp) (op arg : Int) : List Int × Cp := if op = 16 then (ram, if k.Z = true then k else { k with P := arg % 65536 }) else if op = 17 then (ram, if k.Z = true then { k with P := arg % 65536 } else k) else if op = 18 then (ram, if k.C = true then { k with P := arg % 65536 } else k) else if op = 19 then (ram, { k with P := arg % 65536 }) else if op = 20 then ((pushPcF ram k).1, { (pushPcF ram k).2 with P := arg % 65536 }) else if op = 21 then (ram, backF ram k) else if op = 22 then pushF ram k k.A else if op = 23 then (ram, setAK (pullF ram k).1 (pullF ram k).2) else if op = 24 then (ram, backF ram (flagK (pullF ram k).1 (pullF ram k).2)) else (ram, k)
theorem flow_calls {w0 w : World} {x c : Nat} {rv : Value} {b : Int} {k : Cp} {ram : List Int} (h : MC w0 w x c rv b k ram) (op arg : Int) :
  Calls Try.prog 111 #[.pointer (some ⟨x, 0, none⟩), .pointer (some ⟨c, 0, none⟩), .agg #[.int .i64 op, .int .i64 arg]] w fun e w' => e = .returned (.tuple #[]) ∧ MC w0 w' x c rv b (flowF ram k op arg).2 (flowF ram k op arg).1 ∧ Kept w w' (fun j => j = c ∨ some j = rv.ownBlock) := by
 obtain ⟨A, X, S, P, Z, N, C, I⟩ := k
 unfold flowF
 by_cases h16 : op = 16
 ·rw [if_pos h16, h16]
  cases Z
  ·exact flow_16_false h arg
  ·exact flow_16_true h arg
 rw [if_neg h16]
 by_cases h17 : op = 17
 ·rw [if_pos h17, h17]
  cases Z
  ·exact flow_17_false h arg
  ·exact flow_17_true h arg
 rw [if_neg h17]
 by_cases h18 : op = 18
 ·rw [if_pos h18, h18]
  cases C
  ·exact flow_18_false h arg
  ·exact flow_18_true h arg
 rw [if_neg h18]
 by_cases h19 : op = 19
 ·rw [if_pos h19, h19]
  exact flow_19 h arg
 rw [if_neg h19]
 by_cases h20 : op = 20
 ·rw [if_pos h20, h20]
  exact flow_20 h arg
 rw [if_neg h20]
 by_cases h21 : op = 21
 ·rw [if_pos h21, h21]
  exact flow_21 h arg
 rw [if_neg h21]
 by_cases h22 : op = 22
 ·rw [if_pos h22, h22]
  exact flow_22 h arg
 rw [if_neg h22]
 by_cases h23 : op = 23
 ·rw [if_pos h23, h23]
  exact flow_23 h arg
 rw [if_neg h23]
 by_cases h24 : op = 24
 ·rw [if_pos h24, h24]
  exact flow_24 h arg
 rw [if_neg h24]
 exact flow_no h op arg (beq_eq_false_iff_ne.mpr h16) (beq_eq_false_iff_ne.mpr h17) (beq_eq_false_iff_ne.mpr h18) (beq_eq_false_iff_ne.mpr h19) (beq_eq_false_iff_ne.mpr h20) (beq_eq_false_iff_ne.mpr h21) (beq_eq_false_iff_ne.mpr h22) (beq_eq_false_iff_ne.mpr h23) (beq_eq_false_iff_ne.mpr h24)

/-! ### impl_Exec (mine) -/
def execF (ram : List Int) (k : Cp) (op arg v ln : Int) : List Int × Cp := if (reckonF { k with P := wrap64 (k.P + ln) % 65536 } op arg (v % 256)).2 = true then (ram, (reckonF { k with P := wrap64 (k.P + ln) % 65536 } op arg (v % 256)).1) else if (turnF (reckonF { k with P := wrap64 (k.P + ln) % 65536 } op arg (v % 256)).1 op).2 = true then (ram, (turnF (reckonF { k with P := wrap64 (k.P + ln) % 65536 } op arg (v % 256)).1 op).1) else flowF ram (turnF (reckonF { k with P := wrap64 (k.P + ln) % 65536 } op arg (v % 256)).1 op).1 op arg
set_option maxRecDepth 100000 in
set_option maxHeartbeats 4000000 in
theorem exec_calls {w0 w : World} {x c : Nat} {rv : Value} {b : Int} {k : Cp} {ram : List Int} (h : MC w0 w x c rv b k ram) (op arg v : Int) (n : Nat) (ln : Int) (hl : impl_OpLen.f n op = some ln) :
  Calls Try.prog 89 #[.pointer (some ⟨x, 0, none⟩), .pointer (some ⟨c, 0, none⟩), .agg #[.int .i64 op, .int .i64 arg], .int .i64 v] w fun e w' => e = .returned (.tuple #[]) ∧ MC w0 w' x c rv b (execF ram k op arg v ln).2 (execF ram k op arg v ln).1 ∧ Kept w w' (fun j => j = c ∨ some j = rv.ownBlock) := by
 obtain ⟨A, X, S, P, Z, N, C, I⟩ := k
 obtain ⟨pc, hp, ep⟩ := addr_ex (wrap64 (P + ln))
 obtain ⟨vb, hv⟩ : ∃ vb, v % 256 = vb := ⟨_, rfl⟩
 have HBY : Aside0 (∀ w, Calls Try.prog 34 #[.int .i64 v] w fun e w' => e = .returned (.int .i64 vb) ∧ w' = w) := ⟨fun w => hv ▸ byte_same v w⟩
 have HL := Aside0.mk hl
 have HP := Aside0.mk hp
 have EP := Aside0.mk ep
 have HV := Aside0.mk hv
 have H0 := Aside0.mk h
 clear h hl hp ep hv
 have hu37 := Try.underlying32
 have hu38 := Try.underlying55
 have hu68 := Try.underlying51
 go_enter Try.func89, Try.ntmps89
 go_wp2_with ((with_reducible refine gate_dst (N := 6) rfl ?_); refine bx (N := 6) (cs := #[.int .i64 op, .int .i64 arg]) (t := 51) ?_; intro g hg w1 hbox hb; have H1 := Aside0.mk (H0.out.later hb); have HB1 := Aside0.mk hb; have HG := Aside0.mk hbox; have HCU : Aside0 (w1.heap[c]? = some (.cells #[.int .i64 A, .int .i64 X, .int .i64 S, .int .i64 P, .bool Z, .bool N, .bool C, .bool I] 55 (0, 0))) := ⟨H1.out.cpu⟩; have NG := Aside0.mk (blk_ne hbox H1.out.cpu (by decide)); clear hbox hb hg H0)
 refine free_ (n := 13) (e := 10) (g := 0) (T := (true, [([], []), ([], []), ([1], [1]), ([2], [2]), ([3], [3]), ([], []), ([5], [5]), ([6], [6]), ([4, 7], [4, 7]), ([8, 7], [8]), ([0, 0, 1, 2, 3, 4, 5, 6, 7, 8, 9], [0]), ([10, 0, 1, 2, 3, 4, 5, 6, 7, 8, 9], [10]), ([11, 9, 9, 0, 1, 2, 3, 4, 5, 6, 7, 8, 9], [9, 11])])) #[true, true, true, true, true, true, true, true, true, true, false, false, false] #[false, true, true, true, true, true, true, true, true, true, false, false, false] [8, 9, 10, 11, 12, 13, 14, 15, 16, 17] (fun j u w' => match j with
  | 0 => u = .pointer (some ⟨c, 0, none⟩)
  | 1 => u = .pointer (some ⟨c, 0, none⟩)
  | 2 => u = .pointer (some ⟨c, 0, none⟩)
  | 3 => u = .pointer (some ⟨c, 3, none⟩)
  | 4 => u = .int .i64 P
  | 5 => u = .pointer (some ⟨g, 0, none⟩)
  | 6 => u = .int .i64 op
  | 7 => u = .int .i64 ln
  | 8 => u = .int .i64 (wrap64 (P + ln))
  | 9 => u = .int .i64 pc
  | _ => False)
  (by kernel_rfl) rfl (by kernel_rfl) (by kernel_rfl) (by kernel_rfl) (any_of (T := (true, [([], []), ([], []), ([1], [1]), ([2], [2]), ([3], [3]), ([], []), ([5], [5]), ([6], [6]), ([4, 7], [4, 7]), ([8, 7], [8]), ([0, 0, 1, 2, 3, 4, 5, 6, 7, 8, 9], [0]), ([10, 0, 1, 2, 3, 4, 5, 6, 7, 8, 9], [10]), ([11, 9, 9, 0, 1, 2, 3, 4, 5, 6, 7, 8, 9], [9, 11])])) (by kernel_rfl) (by kernel_rfl)) (fun _ _ _ _ h => h) ?stex ?spex ?laex ?enex
 case stex =>
  intro j u W W' h hb
  exact h
 case spex =>
  intro i hi o ho a W hB hout hneed K hK
  have HBW := Aside0.mk hB
  have hcase : i = 0 ∨ i = 1 ∨ i = 2 ∨ i = 3 ∨ i = 4 ∨ i = 5 ∨ i = 6 ∨ i = 7 ∨ i = 8 ∨ i = 9 := by omega
  clear hB
  rcases hcase with rfl | rfl | rfl | rfl | rfl | rfl | rfl | rfl | rfl | rfl
  ·obtain rfl := Option.some.inj ho
   have h1 : a.eval (.tmp 1) = .pointer (some ⟨c, 0, none⟩) := hout 1 (by decide)
   have h1' := eval_get h1
   refine value_ (v := .pointer (some ⟨c, 0, none⟩)) (w1 := W) (by rfl) rfl ?_ (hK.out _ _ (Below.refl _ _) rfl)
   go_simp
  ·obtain rfl := Option.some.inj ho
   have h1 : a.eval (.tmp 1) = .pointer (some ⟨c, 0, none⟩) := hout 1 (by decide)
   have h1' := eval_get h1
   refine value_ (v := .pointer (some ⟨c, 0, none⟩)) (w1 := W) (by rfl) rfl ?_ (hK.out _ _ (Below.refl _ _) rfl)
   go_simp
  ·obtain rfl := Option.some.inj ho
   have e1 : a.eval (.tmp 9) = _ := hneed 1 (by decide)
   have e1' := eval_get e1
   refine value_ (v := .pointer (some ⟨c, 0, none⟩)) (w1 := W) (by rfl) rfl ?_ (hK.out _ _ (Below.refl _ _) rfl)
   go_simp
  ·obtain rfl := Option.some.inj ho
   have e2 : a.eval (.tmp 10) = _ := hneed 2 (by decide)
   have e2' := eval_get e2
   refine value_ (v := .pointer (some ⟨c, 3, none⟩)) (w1 := W) (by rfl) rfl ?_ (hK.out _ _ (Below.refl _ _) rfl)
   go_simp
  ·obtain rfl := Option.some.inj ho
   have e3 : a.eval (.tmp 11) = _ := hneed 3 (by decide)
   have e3' := eval_get e3
   have hb := blk_below (w := w1.drew) HCU.out HBW.out
   have d3 := (blk_cell hb 3).trans rfl
   refine value_ (v := .int .i64 P) (w1 := W) (by rfl) rfl ?_ (hK.out _ _ (Below.refl _ _) rfl)
   go_simp
  ·obtain rfl := Option.some.inj ho
   have h6 : a.eval (.tmp 6) = .pointer (some ⟨g, 0, none⟩) := hout 6 (by decide)
   have h6' := eval_get h6
   refine value_ (v := .pointer (some ⟨g, 0, none⟩)) (w1 := W) (by rfl) rfl ?_ (hK.out _ _ (Below.refl _ _) rfl)
   go_simp
  ·obtain rfl := Option.some.inj ho
   have e5 : a.eval (.tmp 13) = _ := hneed 5 (by decide)
   have e5' := eval_get e5
   have hb := blk_below (w := w1.drew) HG.out HBW.out
   have d0 := (blk_cell hb 0).trans rfl
   refine value_ (v := .int .i64 op) (w1 := W) (by rfl) rfl ?_ (hK.out _ _ (Below.refl _ _) rfl)
   go_simp
  ·obtain rfl := Option.some.inj ho
   have e6 : a.eval (.tmp 14) = _ := hneed 6 (by decide)
   have e6' := eval_get e6
   refine goes_ Try.func38 (by kernel_rfl) rfl #[.int .i64 op] (by rfl) rfl rfl (by simp only [List.map_toArray, List.map_cons, List.map_nil, e6]) ?_
   refine (impl_OpLen.calls n op ln W HL.out).mono ?_
   rintro e w' ⟨rfl, nd, rfl⟩
   exact ⟨_, rfl, hK.out _ _ (pw_below_drewN (Below.refl _ _) nd) rfl⟩
  ·obtain rfl := Option.some.inj ho
   have e4 : a.eval (.tmp 12) = _ := hneed 4 (by decide)
   have e4' := eval_get e4
   have e7 : a.eval (.tmp 15) = _ := hneed 7 (by decide)
   have e7' := eval_get e7
   refine value_ (v := .int .i64 (wrap64 (P + ln))) (w1 := W) (by rfl) rfl ?_ (hK.out _ _ (Below.refl _ _) rfl)
   go_simp
   first | done | rfl | simp only [i64_w]
  ·obtain rfl := Option.some.inj ho
   have e8 : a.eval (.tmp 16) = _ := hneed 8 (by decide)
   have e8' := eval_get e8
   refine goes_ Try.func52 (by kernel_rfl) rfl #[.int .i64 (wrap64 (P + ln))] (by rfl) rfl rfl (by simp only [List.map_toArray, List.map_cons, List.map_nil, e8]) ?_
   refine (impl_Addr.calls (wrap64 (P + ln)) pc W HP.out).mono ?_
   rintro e w' ⟨rfl, nd, rfl⟩
   exact ⟨_, rfl, hK.out _ _ (pw_below_drewN (Below.refl _ _) nd) rfl⟩
 case laex =>
  intro o ho a W hout hneed
  obtain rfl := Option.some.inj ho
  have h1 : a.eval (.tmp 1) = .pointer (some ⟨c, 0, none⟩) := hout 1 (by decide)
  have h1' := eval_get h1
  refine ⟨.pointer (some ⟨c, 0, none⟩), rfl, Or.inl ⟨by rfl, ?_⟩⟩
  intro w'
  go_simp
 intro f vs W2 hB hE
 have HBW := Aside0.mk hB
 clear hB
 have q0 : vs 0 = _ := hE 0 (by decide)
 have q1 : vs 1 = _ := hE 1 (by decide)
 have q2 : vs 2 = _ := hE 2 (by decide)
 have q3 : vs 3 = _ := hE 3 (by decide)
 have q4 : vs 4 = _ := hE 4 (by decide)
 have q5 : vs 5 = _ := hE 5 (by decide)
 have q6 : vs 6 = _ := hE 6 (by decide)
 have q7 : vs 7 = _ := hE 7 (by decide)
 have q8 : vs 8 = _ := hE 8 (by decide)
 have q9 : vs 9 = _ := hE 9 (by decide)
 show wpAnyLast _ _ _ _ _ _ (f + 3) _ (putAll _ [(8, vs 0), (9, vs 1), (10, vs 2), (11, vs 3), (12, vs 4), (13, vs 5), (14, vs 6), (15, vs 7), (16, vs 8), (17, vs 9)]) W2
 rw [q0, q1, q2, q3, q4, q5, q6, q7, q8, q9]
 clear q0 q1 q2 q3 q4 q5 q6 q7 q8 q9 hE
 refine norm_ (a' := ?_) ?_ ?_
 rotate_left
 ·simp only [putAll, Act.put, List.setIfInBounds_toArray, List.set_cons_zero, List.set_cons_succ]
  rfl
 refine pv_ 10 (some 18) (bm 13 2047) ?_
 refine pv_ 11 (some 19) (bm 13 4095) ?_
 refine ov_ 12 none (bm 13 8191) (fun K hK => ?_)
 refine skip_ (w1 := ?_) (by rfl) rfl ?_ ?_
 rotate_left
 ·skip
  have hcW := blk_below (w := w1.drew) HCU.out HBW.out
  obtain ⟨⟨t0, t1, t2, t3, t4, t5, t6, t7⟩, ⟨ft0, ft1, ft2, ft3, ft4, ft5, ft6, ft7⟩⟩ := cells8 (hcW)
  go_simp
  rfl
 refine hK.out _ _ trivial (fun _ => ?_)
 clear hK K
 refine done_ (by kernel_rfl) ?_
 have h3 : Aside0 (MC w0 (W2.setCell ⟨c, 3, none⟩ (.int .i64 pc)) x c rv b (⟨A, X, S, pc, Z, N, C, I⟩ : Cp) ram) := ⟨(H1.out.drew.later HBW.out).setC 3 _ rfl⟩
 have k3 : Aside0 (Kept w (W2.setCell ⟨c, 3, none⟩ (.int .i64 pc)) (fun j => j = c ∨ some j = rv.ownBlock)) := ⟨kept_set (((Kept.of_below HB1.out _).drew).below HBW.out) (.inl rfl) _⟩
 have g3 : Aside0 ((W2.setCell ⟨c, 3, none⟩ (.int .i64 pc)).heap[g]? = some (.cells #[.int .i64 op, .int .i64 arg] 51 (0, 0))) := ⟨blk_far (blk_below (w := w1.drew) HG.out HBW.out) NG.out _⟩
 clear H1 HB1 HG HCU HBW
 generalize W2.setCell ⟨c, 3, none⟩ (.int .i64 pc) = w3 at h3 k3 g3 ⊢
 go_wp2
 have H4 := Aside0.mk h3.out.drew
 have K4 := Aside0.mk k3.out.drew
 have G4 : Aside0 (w3.drew.heap[g]? = some (.cells #[.int .i64 op, .int .i64 arg] 51 (0, 0))) := ⟨g3.out⟩
 clear h3 k3
 refine start_ (n := 12) (S := fun w' => w'.heap[g]? = some (.cells #[.int .i64 op, .int .i64 arg] 51 (0, 0))) (ds := []) (bm 12 0) (by kernel_rfl) rfl (by kernel_rfl) G4.out (fun hHeld => ?_)
 clear g3
 generalize w3.drew = w4 at H4 K4 G4 hHeld ⊢
 refine pv_ 0 (some 20) (bm 12 1) ?_
 refine pv_ 2 (some 22) (bm 12 5) ?_
 refine take_ (i := 1) (N := some 21) (v := ?_) (a' := ?_) #[true, true, true, false, false, false, false, false, false, false, false, false] rfl rfl (by kernel_rfl) (fun _ _ _ h => h) (Or.inl ⟨by rfl, ?_⟩) hHeld ?_ ?_
 rotate_left
 ·intro w' s0
  have z0 : w'.cell? ⟨g, 0, none⟩ = some (.int .i64 op) := (blk_cell s0 0).trans rfl
  have z1 : w'.cell? ⟨g, 1, none⟩ = some (.int .i64 arg) := (blk_cell s0 1).trans rfl
  clear s0
  go_simp
  with_reducible rfl
 rotate_left
 ·simp only [Act.put, List.setIfInBounds_toArray, List.set_cons_zero, List.set_cons_succ, i64_w, i32_w]
  rfl
 refine ov_ 3 (some 23) (bm 12 15) (fun K hK => ?_)
 refine gw_ Try.func34 #[.int .i64 v] ?_
 refine (HBY.out _).mono ?_
 rintro e w' ⟨rfl, rfl⟩
 refine ⟨_, rfl, ?_⟩
 refine hK.out _ _ hHeld (fun hHeld => ?_)
 clear hK K
 refine nw_ 23 ?_
 refine ov_ 4 (some 24) (bm 12 31) (fun K hK => ?_)
 refine gw_ Try.func109 #[.pointer (some ⟨c, 0, none⟩), .agg #[.int .i64 op, .int .i64 arg], .int .i64 vb] ?_
 refine (reckon_calls H4.out.cpu op arg vb).mono ?_
 rintro e w5 ⟨rfl, hc5, hk5⟩
 generalize hr : reckonF (⟨A, X, S, pc, Z, N, C, I⟩ : Cp) op arg vb = q at *
 obtain ⟨k5, b5⟩ := q
 have HR := Aside0.mk hr
 have H5 := Aside0.mk (H4.out.cpuTo hc5 hk5)
 have K5 := Aside0.mk (K4.out.then_ hk5.kept (fun j hj => .inl (.inl hj)))
 have G5 := Aside0.mk (blk_kept G4.out hk5.kept NG.out)
 clear hr hc5 hk5 H4 K4 G4 hHeld
 refine ⟨_, rfl, ?_⟩
 refine hK.out _ _ G5.out (fun hHeld => ?_)
 clear hK K
 refine nw_ 24 ?_
 cases b5 with
 | true =>
  refine pv_ 5 (some 25) (bm 12 63) ?_
  refine pv_ 6 (some 26) (bm 12 127) ?_
  refine pure_ (i := 7) (N := some 27) (v := undef) (a' := ?_) #[true, true, true, true, true, true, true, true, false, false, false, false] rfl rfl (by kernel_rfl) (fun _ _ _ h => h) (Or.inr ⟨by rfl, rfl⟩) ?_ ?_
  rotate_left
  ·simp only [Act.put, List.setIfInBounds_toArray, List.set_cons_zero, List.set_cons_succ, i64_w, i32_w]
   rfl
  refine pure_ (i := 8) (N := some 28) (v := undef) (a' := ?_) #[true, true, true, true, true, true, true, true, true, false, false, false] rfl rfl (by kernel_rfl) (fun _ _ _ h => h) (Or.inr ⟨by rfl, rfl⟩) ?_ ?_
  rotate_left
  ·simp only [Act.put, List.setIfInBounds_toArray, List.set_cons_zero, List.set_cons_succ, i64_w, i32_w]
   rfl
  refine pure_ (i := 9) (N := some 29) (v := undef) (a' := ?_) #[true, true, true, true, true, true, true, true, true, true, false, false] rfl rfl (by kernel_rfl) (fun _ _ _ h => h) (Or.inr ⟨by rfl, rfl⟩) ?_ ?_
  rotate_left
  ·simp only [Act.put, List.setIfInBounds_toArray, List.set_cons_zero, List.set_cons_succ, i64_w, i32_w]
   rfl
  refine pure_ (i := 10) (N := some 30) (v := undef) (a' := ?_) #[true, true, true, true, true, true, true, true, true, true, true, false] rfl rfl (by kernel_rfl) (fun _ _ _ h => h) (Or.inr ⟨by rfl, rfl⟩) ?_ ?_
  rotate_left
  ·simp only [Act.put, List.setIfInBounds_toArray, List.set_cons_zero, List.set_cons_succ, i64_w, i32_w]
   rfl
  refine pv_ 11 (some 31) (bm 12 4095) ?_
  refine done_ (by kernel_rfl) ?_
  go_wp2
  go_end0
  have e_ : execF ram (⟨A, X, S, P, Z, N, C, I⟩ : Cp) op arg v ln = (ram, k5) := by
   unfold execF
   simp only [EP.out, HV.out, HR.out, if_true]
  rw [e_]
  exact ⟨rfl, H5.out, K5.out⟩
 | false =>
  refine pv_ 5 (some 25) (bm 12 63) ?_
  refine pv_ 6 (some 26) (bm 12 127) ?_
  refine pv_ 7 (some 27) (bm 12 255) ?_
  refine take_ (i := 8) (N := some 28) (v := ?_) (a' := ?_) #[true, true, true, true, true, true, true, true, true, false, false, false] rfl rfl (by kernel_rfl) (fun _ _ _ h => h) (Or.inl ⟨by rfl, ?_⟩) hHeld ?_ ?_
  rotate_left
  ·intro w' s0
   have z0 : w'.cell? ⟨g, 0, none⟩ = some (.int .i64 op) := (blk_cell s0 0).trans rfl
   have z1 : w'.cell? ⟨g, 1, none⟩ = some (.int .i64 arg) := (blk_cell s0 1).trans rfl
   clear s0
   go_simp
   with_reducible rfl
  rotate_left
  ·simp only [Act.put, List.setIfInBounds_toArray, List.set_cons_zero, List.set_cons_succ, i64_w, i32_w]
   rfl
  refine ov_ 9 (some 29) (bm 12 1023) (fun K hK => ?_)
  refine gw_ Try.func110 #[.pointer (some ⟨c, 0, none⟩), .agg #[.int .i64 op, .int .i64 arg]] ?_
  refine (turn_calls H5.out.cpu op arg).mono ?_
  rintro e w6 ⟨rfl, hc6, hk6⟩
  generalize ht : turnF k5 op = q at *
  obtain ⟨k6, b6⟩ := q
  have HT := Aside0.mk ht
  have H6 := Aside0.mk (H5.out.cpuTo hc6 hk6)
  have K6 := Aside0.mk (K5.out.then_ hk6.kept (fun j hj => .inl (.inl hj)))
  have G6 := Aside0.mk (blk_kept G5.out hk6.kept NG.out)
  clear ht hc6 hk6 H5 K5 G5 hHeld
  refine ⟨_, rfl, ?_⟩
  refine hK.out _ _ G6.out (fun hHeld => ?_)
  clear hK K
  refine nw_ 29 ?_
  cases b6 with
  | true =>
   refine pv_ 10 (some 30) (bm 12 2047) ?_
   refine pv_ 11 (some 31) (bm 12 4095) ?_
   refine done_ (by kernel_rfl) ?_
   go_wp2
   go_end0
   have e_ : execF ram (⟨A, X, S, P, Z, N, C, I⟩ : Cp) op arg v ln = (ram, k6) := by
    unfold execF
    simp only [EP.out, HV.out, HR.out, HT.out, if_true, Bool.false_eq_true, if_false]
   rw [e_]
   exact ⟨rfl, H6.out, K6.out⟩
  | false =>
   refine pv_ 10 (some 30) (bm 12 2047) ?_
   refine pv_ 11 (some 31) (bm 12 4095) ?_
   refine done_ (by kernel_rfl) ?_
   have z0 : w6.cell? ⟨g, 0, none⟩ = some (.int .i64 op) := (blk_cell G6.out 0).trans rfl
   have z1 : w6.cell? ⟨g, 1, none⟩ = some (.int .i64 arg) := (blk_cell G6.out 1).trans rfl
   go_wp2_with fail
   refine (flow_calls H6.out op arg).mono ?_
   rintro e w7 ⟨rfl, h7, k7⟩
   have H7 := Aside0.mk h7
   clear h7
   go_wp2
   go_end0
   have e_ : execF ram (⟨A, X, S, P, Z, N, C, I⟩ : Cp) op arg v ln = flowF ram k6 op arg := by
    unfold execF
    simp only [EP.out, HV.out, HR.out, HT.out, Bool.false_eq_true, if_false]
   rw [e_]
   exact ⟨rfl, H7.out, K6.out.then_ k7 (fun j hj => .inl hj)⟩
set_option maxRecDepth 100000 in
set_option maxHeartbeats 4000000 in
theorem implExec_calls (A1 : Option Addr) (c1 : Nat) (l1 : List Int) (b : Int) (k : Cp) (op arg v : Int) (w : World) (hr1 : Kd.C (Kd.int .i64) w A1 l1.length l1) (hc1 : l1.length ≤ c1)
  (h : impl_copyMem.f l1 b = some (l1, b)) (n : Nat) (ln : Int) (hl : impl_OpLen.f n op = some ln) :
  Calls Try.prog 48 #[.agg #[.slice A1 l1.length c1, .int .i64 b], .agg k.cells, .agg #[.int .i64 op, .int .i64 arg], .int .i64 v] w fun e w' => ∃ v0_ : Value, e = .returned (.tuple #[.agg #[v0_, .int .i64 b], .agg (execF l1 k op arg v ln).2.cells]) ∧ Kd.R (Kd.int .i64) 3 w' w.heap.size (fun _ => True) v0_ (execF l1 k op arg v ln).1 ∧ Below w.heap.size w w' := by
 have hu37 := Try.underlying32
 have hu38 := Try.underlying55
 have hu68 := Try.underlying51
 have HR1 := Aside0.mk hr1
 have HC1 := Aside0.mk hc1
 have H := Aside0.mk h
 have HL := Aside0.mk hl
 clear hr1 hc1 h hl
 go_enter Try.func48, Try.ntmps48
 unfold Cp.cells
 go_wp2_with fail
 refine (impl_copyMem.calls A1 c1 l1 b l1 b _ ?hr HC1.out H.out).mono ?_
 case hr => repeat (first | exact HR1.out | (with_reducible refine Kd.C_alloc ?_ _))
 rintro e W2 ⟨v0, rfl, hR, hB⟩
 obtain ⟨A2, c2, rfl⟩ := Kd.R_slice hR
 have b1 : W2.heap[w.heap.size + 1]? = some (.cells k.cells 55 (0, 0)) := blk_below (by repeat (first | exact alloc_at _ _ _ (by simp only [alloc_size]) | refine blk_alloc ?_ _)) hB
 have b2 : W2.heap[w.heap.size + 2]? = some (.cells #[.int .i64 op, .int .i64 arg] 51 (0, 0)) := blk_below (by repeat (first | exact alloc_at _ _ _ (by simp only [alloc_size]) | refine blk_alloc ?_ _)) hB
 have b3 : W2.heap[w.heap.size + 3]? = some (.cells #[.slice none 0 0, .int .i64 0] 32 (0, 0)) := blk_below (by repeat (first | exact alloc_at _ _ _ (by simp only [alloc_size]) | refine blk_alloc ?_ _)) hB
 have b4 : W2.heap[w.heap.size + 4]? = some (.cells #[.int .i64 0, .int .i64 0, .int .i64 0, .int .i64 0, .bool false, .bool false, .bool false, .bool false] 55 (0, 0)) := blk_below (by repeat (first | exact alloc_at _ _ _ (by simp only [alloc_size]) | refine blk_alloc ?_ _)) hB
 have hsz : w.heap.size + 5 ≤ W2.heap.size := by have := hB.size; simp only [alloc_size] at this; omega
 have hbel : Below w.heap.size w W2 := below_step (by repeat (first | exact Below.refl _ _ | apply below_alloc)) hB
 have hM : MC w (W2.alloc (.cells #[.slice A2 l1.length c2, .int .i64 b] 32)) W2.heap.size (w.heap.size + 1) (.slice A2 l1.length c2) b k l1 :=
  ⟨blk_new W2 _, blk_alloc b1 _, Kd.R_alloc (Kd.R_lower hR (by simp only [alloc_size]; omega)) _, by omega, by omega, below_alloc hbel _⟩
 have HSZ := Aside0.mk hsz
 have HM := Aside0.mk hM
 have z0 : (W2.alloc (.cells #[.slice A2 l1.length c2, .int .i64 b] 32)).cell? ⟨w.heap.size + 2, 0, none⟩ = some (.int .i64 op) := (blk_cell (blk_alloc b2 _) 0).trans rfl
 have z1 : (W2.alloc (.cells #[.slice A2 l1.length c2, .int .i64 b] 32)).cell? ⟨w.heap.size + 2, 1, none⟩ = some (.int .i64 arg) := (blk_cell (blk_alloc b2 _) 1).trans rfl
 have B3 := Aside0.mk (blk_alloc b3 (.cells #[.slice A2 l1.length c2, .int .i64 b] 32))
 have B4 := Aside0.mk (blk_alloc b4 (.cells #[.slice A2 l1.length c2, .int .i64 b] 32))
 clear hR hB b1 b2 b3 b4 hsz hbel hM
 go_wp2_with fail
 generalize W2.alloc (.cells #[.slice A2 l1.length c2, .int .i64 b] 32) = W3 at *
 generalize W2.heap.size = x at *
 refine (exec_calls HM.out op arg v n ln HL.out).mono ?_
 rintro e W4 ⟨rfl, h4, k4⟩
 generalize hq : execF l1 k op arg v ln = q at *
 obtain ⟨ram2, ⟨qa, qx, qs, qp, qz, qn, qc, qi⟩⟩ := q
 have HQ := Aside0.mk hq
 clear hq z0 z1
 have HB1 := Aside0.mk (blk_kept B3.out k4 (fun h => h.elim (fun h => by omega) (fun h => Kd.R_ne HM.out.row B3.out (by decide) h)))
 have HB2 := Aside0.mk (blk_kept B4.out k4 (fun h => h.elim (fun h => by omega) (fun h => Kd.R_ne HM.out.row B4.out (by decide) h)))
 have h4 : MC w W4 x (w.heap.size + 1) (.slice A2 l1.length c2) b ⟨qa, qx, qs, qp, qz, qn, qc, qi⟩ ram2 := h4
 have hz_ := HSZ.out
 have HM4 := Aside0.mk h4.mem
 have HC4 : Aside0 (W4.heap[w.heap.size + 1]? = some (.cells #[.int .i64 qa, .int .i64 qx, .int .i64 qs, .int .i64 qp, .bool qz, .bool qn, .bool qc, .bool qi] 55 (0, 0))) := ⟨h4.cpu⟩
 clear k4 B3 B4 HM
 go_wp2
 have hne12 : w.heap.size + 3 ≠ w.heap.size + 4 := by omega
 have hne21 : w.heap.size + 4 ≠ w.heap.size + 3 := by omega
 have o1 : x ≠ w.heap.size + 3 := by omega
 have o2 : x ≠ w.heap.size + 4 := by omega
 have o3 : w.heap.size + 1 ≠ w.heap.size + 3 := by omega
 have o4 : w.heap.size + 1 ≠ w.heap.size + 4 := by omega
 refine start_ (n := 4) (S := fun w' => w'.heap[x]? = some (.cells #[.slice A2 l1.length c2, .int .i64 b] 32 (0, 0)) ∧ w'.heap[w.heap.size + 1]? = some (.cells #[.int .i64 qa, .int .i64 qx, .int .i64 qs, .int .i64 qp, .bool qz, .bool qn, .bool qc, .bool qi] 55 (0, 0))) (ds := []) (bm 4 0) (by kernel_rfl) rfl (by kernel_rfl) ⟨HM4.out, HC4.out⟩ (fun hHeld => ?_)
 refine take_ (i := 0) (N := some 16) (v := ?_) (a' := ?_) #[true, false, false, false] rfl rfl (by kernel_rfl) (fun _ _ _ h => h) (Or.inl ⟨by rfl, ?_⟩) hHeld ?_ ?_
 rotate_left
 ·rintro w' ⟨s0, s1⟩
  have a0 : w'.cell? ⟨x, 0, none⟩ = some (.slice A2 l1.length c2) := (blk_cell s0 0).trans rfl
  have a1 : w'.cell? ⟨x, 1, none⟩ = some (.int .i64 b) := (blk_cell s0 1).trans rfl
  clear s0 s1
  go_simp
  with_reducible rfl
 rotate_left
 ·simp only [Act.put, List.setIfInBounds_toArray, List.set_cons_zero, List.set_cons_succ, i64_w, i32_w]
  rfl
 refine take_ (i := 1) (N := some 17) (v := ?_) (a' := ?_) #[true, true, false, false] rfl rfl (by kernel_rfl) (fun _ _ _ h => h) (Or.inl ⟨by rfl, ?_⟩) hHeld ?_ ?_
 rotate_left
 ·rintro w' ⟨s0, s1⟩
  have b0 : w'.cell? ⟨w.heap.size + 1, 0, none⟩ = some (.int .i64 qa) := (blk_cell s1 0).trans rfl
  have b1 : w'.cell? ⟨w.heap.size + 1, 1, none⟩ = some (.int .i64 qx) := (blk_cell s1 1).trans rfl
  have b2 : w'.cell? ⟨w.heap.size + 1, 2, none⟩ = some (.int .i64 qs) := (blk_cell s1 2).trans rfl
  have b3 : w'.cell? ⟨w.heap.size + 1, 3, none⟩ = some (.int .i64 qp) := (blk_cell s1 3).trans rfl
  have b4 : w'.cell? ⟨w.heap.size + 1, 4, none⟩ = some (.bool qz) := (blk_cell s1 4).trans rfl
  have b5 : w'.cell? ⟨w.heap.size + 1, 5, none⟩ = some (.bool qn) := (blk_cell s1 5).trans rfl
  have b6 : w'.cell? ⟨w.heap.size + 1, 6, none⟩ = some (.bool qc) := (blk_cell s1 6).trans rfl
  have b7 : w'.cell? ⟨w.heap.size + 1, 7, none⟩ = some (.bool qi) := (blk_cell s1 7).trans rfl
  clear s0 s1
  go_simp
  with_reducible rfl
 rotate_left
 ·simp only [Act.put, List.setIfInBounds_toArray, List.set_cons_zero, List.set_cons_succ, i64_w, i32_w]
  rfl
 refine ov_ 2 none (bm 4 7) (fun K hK => ?_)
 refine skip_ (w1 := ?_) (by rfl) rfl ?_ ?_
 rotate_left
 ·have r0 : W4.cell? ⟨w.heap.size + 3, 0, none⟩ = some (.slice none 0 0) := (blk_cell HB1.out 0).trans rfl
  have r1 : W4.cell? ⟨w.heap.size + 3, 1, none⟩ = some (.int .i64 0) := (blk_cell HB1.out 1).trans rfl
  have f0 := blk_frozen HB1.out 0
  have f1 := blk_frozen HB1.out 1
  go_simp
  rfl
 refine hK.out _ _ ⟨(heap2 _ _ _ _ _ o1).trans hHeld.1, (heap2 _ _ _ _ _ o3).trans hHeld.2⟩ (fun hHeld => ?_)
 clear hK K
 have g0 := (heap_drew _ _).symm.trans hHeld.1
 have g1 := (heap_drew _ _).symm.trans hHeld.2
 have g2 : ((W4.setCell ⟨w.heap.size + 1 + 1 + 1, 0, none⟩ (.slice A2 l1.length c2)).setCell ⟨w.heap.size + 1 + 1 + 1, 1, none⟩ (.int .i64 b)).heap[w.heap.size + 4]? = _ := (heap2 W4 (w.heap.size + 3) (w.heap.size + 4) (.slice A2 l1.length c2) (.int .i64 b) hne21).trans HB2.out
 have g3 : ((W4.setCell ⟨w.heap.size + 1 + 1 + 1, 0, none⟩ (.slice A2 l1.length c2)).setCell ⟨w.heap.size + 1 + 1 + 1, 1, none⟩ (.int .i64 b)).heap[w.heap.size + 3]? = _ := put2 HB1.out (.slice A2 l1.length c2) (.int .i64 b)
 have g4 : Kd.R (Kd.int .i64) 3 ((W4.setCell ⟨w.heap.size + 1 + 1 + 1, 0, none⟩ (.slice A2 l1.length c2)).setCell ⟨w.heap.size + 1 + 1 + 1, 1, none⟩ (.int .i64 b)) w.heap.size (fun _ => True) (.slice A2 l1.length c2) ram2 :=
  Kd.R_mono (Kd.R_far (p := ⟨w.heap.size + 3, 1, none⟩) (Kd.R_far (p := ⟨w.heap.size + 3, 0, none⟩) (Kd.R_types h4.row HB1.out (by decide)) (fun _ hk => hk.2) (.slice A2 l1.length c2)) (fun _ hk => hk.2) (.int .i64 b)) (fun _ hk => trivial)
 have g5 : Below w.heap.size w ((W4.setCell ⟨w.heap.size + 1 + 1 + 1, 0, none⟩ (.slice A2 l1.length c2)).setCell ⟨w.heap.size + 1 + 1 + 1, 1, none⟩ (.int .i64 b)) := below_set (below_set h4.below (by omega)) (by omega)
 clear HB1 HB2 HM4 HC4 h4
 generalize ((W4.setCell ⟨w.heap.size + 1 + 1 + 1, 0, none⟩ (.slice A2 l1.length c2)).setCell ⟨w.heap.size + 1 + 1 + 1, 1, none⟩ (.int .i64 b)) = W5 at *
 have G2 := Aside0.mk g2
 have G3 := Aside0.mk g3
 have G4 := Aside0.mk g4
 have G5 := Aside0.mk g5
 have G0 := Aside0.mk g0
 have G1 := Aside0.mk g1
 clear g0 g1 g2 g3 g4 g5
 refine ov_ 3 none (bm 4 15) (fun K hK => ?_)
 refine skip_ (w1 := ?_) (by rfl) rfl ?_ ?_
 rotate_left
 ·skip
  have r0 : W5.cell? ⟨w.heap.size + 4, 0, none⟩ = some (.int .i64 0) := (blk_cell G2.out 0).trans rfl
  have f0 := blk_frozen G2.out 0
  have r1 : W5.cell? ⟨w.heap.size + 4, 1, none⟩ = some (.int .i64 0) := (blk_cell G2.out 1).trans rfl
  have f1 := blk_frozen G2.out 1
  have r2 : W5.cell? ⟨w.heap.size + 4, 2, none⟩ = some (.int .i64 0) := (blk_cell G2.out 2).trans rfl
  have f2 := blk_frozen G2.out 2
  have r3 : W5.cell? ⟨w.heap.size + 4, 3, none⟩ = some (.int .i64 0) := (blk_cell G2.out 3).trans rfl
  have f3 := blk_frozen G2.out 3
  have r4 : W5.cell? ⟨w.heap.size + 4, 4, none⟩ = some (.bool false) := (blk_cell G2.out 4).trans rfl
  have f4 := blk_frozen G2.out 4
  have r5 : W5.cell? ⟨w.heap.size + 4, 5, none⟩ = some (.bool false) := (blk_cell G2.out 5).trans rfl
  have f5 := blk_frozen G2.out 5
  have r6 : W5.cell? ⟨w.heap.size + 4, 6, none⟩ = some (.bool false) := (blk_cell G2.out 6).trans rfl
  have f6 := blk_frozen G2.out 6
  have r7 : W5.cell? ⟨w.heap.size + 4, 7, none⟩ = some (.bool false) := (blk_cell G2.out 7).trans rfl
  have f7 := blk_frozen G2.out 7
  go_simp
  rfl
 refine hK.out _ _ ⟨(heap_drew _ _).trans ((heap8 W5 (w.heap.size + 4) _ _ _ _ _ _ _ _ _ o2).trans G0.out), (heap_drew _ _).trans ((heap8 W5 (w.heap.size + 4) _ _ _ _ _ _ _ _ _ o4).trans G1.out)⟩ (fun hHeld => ?_)
 clear hK K
 refine done_ (by kernel_rfl) ?_
 try go_wp2
 refine bodyPost_ret (results_cc rfl _ _ (w.heap.size + 3) (w.heap.size + 4) 32 55 #[.slice A2 l1.length c2, .int .i64 b] #[.int .i64 qa, .int .i64 qx, .int .i64 qs, .int .i64 qp, .bool qz, .bool qn, .bool qc, .bool qi] (0, 0) (0, 0) _ _ rfl ((heap_drew _ _).trans ((heap8 W5 (w.heap.size + 4) _ _ _ _ _ _ _ _ _ hne12).trans G3.out)) hu37 rfl (by kernel_rfl) rfl ((heap_drew _ _).trans (put8 G2.out _ _ _ _ _ _ _ _)) hu38 rfl (by kernel_rfl)) rfl ?_
 rw [HQ.out]
 exact ⟨_, rfl, Kd.R_drew (row8 G4.out G2.out _ _ _ _ _ _ _ _), below_drew1 (below8 G5.out (by omega) _ _ _ _ _ _ _ _)⟩
theorem copyMem_eq {l0 r1 : List Int} {b r2 : Int} (h : impl_copyMem.f l0 b = some (r1, r2)) : r1 = l0 ∧ r2 = b := by
 unfold impl_copyMem.f impl_copyInts.f at h
 simp only [Option.bind_some] at h
 split at h
 ·simp only [Option.bind_some, Option.some.injEq, Prod.mk.injEq, List.nil_append] at h
  exact ⟨h.1.symm, h.2.symm⟩
 ·simp at h
def impl_Exec.f (k : Nat) (l0_0 : List Int) (a0_1 : Int) (a1_0 a1_1 a1_2 a1_3 : Int) (a1_4 a1_5 a1_6 a1_7 : Bool) (a2_0 a2_1 : Int) (a3 : Int) : Option (List Int × Int × Int × Int × Int × Int × Bool × Bool × Bool × Bool) :=
 (impl_copyMem.f l0_0 a0_1).bind fun q => (impl_OpLen.f k a2_0).bind fun ln => some ((execF q.1 ⟨a1_0, a1_1, a1_2, a1_3, a1_4, a1_5, a1_6, a1_7⟩ a2_0 a2_1 a3 ln).1, q.2, (execF q.1 ⟨a1_0, a1_1, a1_2, a1_3, a1_4, a1_5, a1_6, a1_7⟩ a2_0 a2_1 a3 ln).2.A, (execF q.1 ⟨a1_0, a1_1, a1_2, a1_3, a1_4, a1_5, a1_6, a1_7⟩ a2_0 a2_1 a3 ln).2.X, (execF q.1 ⟨a1_0, a1_1, a1_2, a1_3, a1_4, a1_5, a1_6, a1_7⟩ a2_0 a2_1 a3 ln).2.S, (execF q.1 ⟨a1_0, a1_1, a1_2, a1_3, a1_4, a1_5, a1_6, a1_7⟩ a2_0 a2_1 a3 ln).2.P, (execF q.1 ⟨a1_0, a1_1, a1_2, a1_3, a1_4, a1_5, a1_6, a1_7⟩ a2_0 a2_1 a3 ln).2.Z, (execF q.1 ⟨a1_0, a1_1, a1_2, a1_3, a1_4, a1_5, a1_6, a1_7⟩ a2_0 a2_1 a3 ln).2.N, (execF q.1 ⟨a1_0, a1_1, a1_2, a1_3, a1_4, a1_5, a1_6, a1_7⟩ a2_0 a2_1 a3 ln).2.C, (execF q.1 ⟨a1_0, a1_1, a1_2, a1_3, a1_4, a1_5, a1_6, a1_7⟩ a2_0 a2_1 a3 ln).2.I)
theorem impl_Exec.calls (k : Nat) (A0_0 : Option Addr) (c0_0 : Nat) (l0_0 : List Int) (a0_1 : Int) (a1_0 a1_1 a1_2 a1_3 : Int) (a1_4 a1_5 a1_6 a1_7 : Bool) (a2_0 a2_1 : Int) (a3 : Int) (r1 : List Int) (r2 : Int) (r3 : Int) (r4 : Int) (r5 : Int) (r6 : Int) (r7 : Bool) (r8 : Bool) (r9 : Bool) (r10 : Bool) (w : World) (hr0_0 : Kd.C (Kd.int .i64) w A0_0 l0_0.length l0_0) (hc0_0 : l0_0.length ≤ c0_0) (h : impl_Exec.f k l0_0 a0_1 a1_0 a1_1 a1_2 a1_3 a1_4 a1_5 a1_6 a1_7 a2_0 a2_1 a3 = some (r1, r2, r3, r4, r5, r6, r7, r8, r9, r10)) :
  Calls Try.prog 48 #[.agg #[.slice A0_0 l0_0.length c0_0, .int .i64 a0_1], .agg #[.int .i64 a1_0, .int .i64 a1_1, .int .i64 a1_2, .int .i64 a1_3, .bool a1_4, .bool a1_5, .bool a1_6, .bool a1_7], .agg #[.int .i64 a2_0, .int .i64 a2_1], .int .i64 a3] w fun e w' => ∃ v0_ : Value, e = .returned (.tuple #[.agg #[v0_, .int .i64 r2], .agg #[.int .i64 r3, .int .i64 r4, .int .i64 r5, .int .i64 r6, .bool r7, .bool r8, .bool r9, .bool r10]]) ∧ Kd.R (Kd.int .i64) 3 w' w.heap.size (fun _ => True) v0_ r1 ∧ Below w.heap.size w w' := by
 unfold impl_Exec.f at h
 obtain ⟨⟨q1, q2⟩, hq, h2⟩ := Option.bind_eq_some_iff.mp h
 obtain ⟨ln, hl, h3⟩ := Option.bind_eq_some_iff.mp h2
 clear h h2
 obtain ⟨rfl, rfl⟩ := copyMem_eq hq
 cases h3
 exact implExec_calls A0_0 c0_0 _ _ ⟨a1_0, a1_1, a1_2, a1_3, a1_4, a1_5, a1_6, a1_7⟩ a2_0 a2_1 a3 w hr0_0 hc0_0 hq k ln hl

/-! ### spec_CpuOk: function 50 -/
def spec_CpuOk.f (a0_0 : Int) (a0_1 : Int) (a0_2 : Int) (a0_3 : Int) (a0_4 : Bool) (a0_5 : Bool) (a0_6 : Bool) (a0_7 : Bool) : Option (Bool) := (spec_l5Byte.f a0_0).bind fun t272 => (if t272 = true then ((spec_l5Byte.f a0_1).bind fun t273 => (if t273 = true then ((spec_l5Byte.f a0_2).bind fun t274 => (if t274 = true then ((spec_l1In.f a0_3 0 65535).bind fun t275 => (some t275)) else (some false))) else (some false))) else (some false))
set_option maxHeartbeats 8000000 in
set_option maxRecDepth 100000 in
theorem spec_CpuOk.calls (a0_0 : Int) (a0_1 : Int) (a0_2 : Int) (a0_3 : Int) (a0_4 : Bool) (a0_5 : Bool) (a0_6 : Bool) (a0_7 : Bool) (r : Bool) (w : World) (h : spec_CpuOk.f a0_0 a0_1 a0_2 a0_3 a0_4 a0_5 a0_6 a0_7 = some r) :
  Calls Try.prog 50 #[.agg #[.int .i64 a0_0, .int .i64 a0_1, .int .i64 a0_2, .int .i64 a0_3, .bool a0_4, .bool a0_5, .bool a0_6, .bool a0_7]] w fun e w' => e = .returned (.bool r) ∧ Below w.heap.size w w' := by
 have hu55 := Try.underlying55
 have HB := Aside0.mk (Below.refl w.heap.size w)
 have H : ((spec_l5Byte.f a0_0).bind fun t272 => (if t272 = true then ((spec_l5Byte.f a0_1).bind fun t273 => (if t273 = true then ((spec_l5Byte.f a0_2).bind fun t274 => (if t274 = true then ((spec_l1In.f a0_3 0 65535).bind fun t275 => (some t275)) else (some false))) else (some false))) else (some false))) = some r := h
 clear h
 replace H := Option.bind_eq_some_iff.mp H
 obtain ⟨t272, A20, H⟩ := H
 replace H : (if t272 = true then ((spec_l5Byte.f a0_1).bind fun t273 => (if t273 = true then ((spec_l5Byte.f a0_2).bind fun t274 => (if t274 = true then ((spec_l1In.f a0_3 0 65535).bind fun t275 => (some t275)) else (some false))) else (some false))) else (some false)) = some r := H
 have A2 := Aside0.mk A20
 clear A20
 by_cases c3 : t272 = true
 ·subst c3
  have H1 : ((spec_l5Byte.f a0_1).bind fun t273 => (if t273 = true then ((spec_l5Byte.f a0_2).bind fun t274 => (if t274 = true then ((spec_l1In.f a0_3 0 65535).bind fun t275 => (some t275)) else (some false))) else (some false))) = some r := by rw [if_pos rfl] at H; exact H
  clear H
  have H := H1
  clear H1
  replace H := Option.bind_eq_some_iff.mp H
  obtain ⟨t273, A40, H⟩ := H
  replace H : (if t273 = true then ((spec_l5Byte.f a0_2).bind fun t274 => (if t274 = true then ((spec_l1In.f a0_3 0 65535).bind fun t275 => (some t275)) else (some false))) else (some false)) = some r := H
  have A4 := Aside0.mk A40
  clear A40
  by_cases c5 : t273 = true
  ·subst c5
   have H1 : ((spec_l5Byte.f a0_2).bind fun t274 => (if t274 = true then ((spec_l1In.f a0_3 0 65535).bind fun t275 => (some t275)) else (some false))) = some r := by rw [if_pos rfl] at H; exact H
   clear H
   have H := H1
   clear H1
   replace H := Option.bind_eq_some_iff.mp H
   obtain ⟨t274, A60, H⟩ := H
   replace H : (if t274 = true then ((spec_l1In.f a0_3 0 65535).bind fun t275 => (some t275)) else (some false)) = some r := H
   have A6 := Aside0.mk A60
   clear A60
   by_cases c7 : t274 = true
   ·subst c7
    have H1 : ((spec_l1In.f a0_3 0 65535).bind fun t275 => (some t275)) = some r := by rw [if_pos rfl] at H; exact H
    clear H
    have H := H1
    clear H1
    replace H := Option.bind_eq_some_iff.mp H
    obtain ⟨t275, A80, H⟩ := H
    replace H : (some t275) = some r := H
    have A8 := Aside0.mk A80
    clear A80
    obtain rfl := Option.some.inj H
    go_enter Try.func50, Try.ntmps50
    go_wp2_with (first | ((with_reducible refine gate_dst (N := 1) rfl ?_); refine bx (N := 1) (cs := #[.int .i64 a0_0, .int .i64 a0_1, .int .i64 a0_2, .int .i64 a0_3, .bool a0_4, .bool a0_5, .bool a0_6, .bool a0_7]) (t := 55) ?_; intro gb271 hg w9 hbox hb; have BK271 := Aside0.mk (hbox); have GW271 := Aside0.mk ((gs hg (bw HB.out))); have GE271 := Aside0.mk ((gs hg (bw HB.out))); replace HB := Aside0.mk (below_step (bw HB.out) hb); clear hb hbox hg; obtain ⟨hcz10_0, hcz10_1, hcz10_2, hcz10_3, hcz10_4, hcz10_5, hcz10_6, hcz10_7⟩ := ce8 BK271; have hfz10_0 := blk_frozen BK271.out 0; have hfz10_1 := blk_frozen BK271.out 1; have hfz10_2 := blk_frozen BK271.out 2; have hfz10_3 := blk_frozen BK271.out 3; have hfz10_4 := blk_frozen BK271.out 4; have hfz10_5 := blk_frozen BK271.out 5; have hfz10_6 := blk_frozen BK271.out 6; have hfz10_7 := blk_frozen BK271.out 7) | ((with_reducible refine gate_callee (f := 79) rfl ?_); refine goesM_ (some 5) rfl rfl Try.func79 #[.int .i64 a0_0] ?_; (with_reducible refine (spec_l5Byte.calls a0_0 true _ A2.out).mono ?_); rintro e w' ⟨rfl, ⟨nd, rfl⟩⟩; refine ⟨_, rfl, ?_⟩) | (go_at_call 79; (with_reducible refine (spec_l5Byte.calls a0_1 true _ A4.out).mono ?_); rintro e w' ⟨rfl, ⟨nd, rfl⟩⟩) | (go_at_call 79; (with_reducible refine (spec_l5Byte.calls a0_2 true _ A6.out).mono ?_); rintro e w' ⟨rfl, ⟨nd, rfl⟩⟩) | (go_at_call 68; (with_reducible refine (spec_l1In.calls a0_3 0 65535 t275 _ A8.out).mono ?_); rintro e w' ⟨rfl, ⟨nd, rfl⟩⟩))
    go_ret
    exact ⟨rt, bw HB.out⟩
   ·replace c7 := Bool.eq_false_iff.mpr c7
    subst c7
    have H1 : (some false) = some r := by rw [if_neg (show ¬ (false = true) by decide)] at H; exact H
    clear H
    have H := H1
    clear H1
    obtain rfl := Option.some.inj H
    go_enter Try.func50, Try.ntmps50
    go_wp2_with (first | ((with_reducible refine gate_dst (N := 1) rfl ?_); refine bx (N := 1) (cs := #[.int .i64 a0_0, .int .i64 a0_1, .int .i64 a0_2, .int .i64 a0_3, .bool a0_4, .bool a0_5, .bool a0_6, .bool a0_7]) (t := 55) ?_; intro gb271 hg w11 hbox hb; have BK271 := Aside0.mk (hbox); have GW271 := Aside0.mk ((gs hg (bw HB.out))); have GE271 := Aside0.mk ((gs hg (bw HB.out))); replace HB := Aside0.mk (below_step (bw HB.out) hb); clear hb hbox hg; obtain ⟨hcz12_0, hcz12_1, hcz12_2, hcz12_3, hcz12_4, hcz12_5, hcz12_6, hcz12_7⟩ := ce8 BK271; have hfz12_0 := blk_frozen BK271.out 0; have hfz12_1 := blk_frozen BK271.out 1; have hfz12_2 := blk_frozen BK271.out 2; have hfz12_3 := blk_frozen BK271.out 3; have hfz12_4 := blk_frozen BK271.out 4; have hfz12_5 := blk_frozen BK271.out 5; have hfz12_6 := blk_frozen BK271.out 6; have hfz12_7 := blk_frozen BK271.out 7) | ((with_reducible refine gate_callee (f := 79) rfl ?_); refine goesM_ (some 5) rfl rfl Try.func79 #[.int .i64 a0_0] ?_; (with_reducible refine (spec_l5Byte.calls a0_0 true _ A2.out).mono ?_); rintro e w' ⟨rfl, ⟨nd, rfl⟩⟩; refine ⟨_, rfl, ?_⟩) | (go_at_call 79; (with_reducible refine (spec_l5Byte.calls a0_1 true _ A4.out).mono ?_); rintro e w' ⟨rfl, ⟨nd, rfl⟩⟩) | (go_at_call 79; (with_reducible refine (spec_l5Byte.calls a0_2 false _ A6.out).mono ?_); rintro e w' ⟨rfl, ⟨nd, rfl⟩⟩))
    go_ret
    exact ⟨rt, bw HB.out⟩
  ·replace c5 := Bool.eq_false_iff.mpr c5
   subst c5
   have H1 : (some false) = some r := by rw [if_neg (show ¬ (false = true) by decide)] at H; exact H
   clear H
   have H := H1
   clear H1
   obtain rfl := Option.some.inj H
   go_enter Try.func50, Try.ntmps50
   go_wp2_with (first | ((with_reducible refine gate_dst (N := 1) rfl ?_); refine bx (N := 1) (cs := #[.int .i64 a0_0, .int .i64 a0_1, .int .i64 a0_2, .int .i64 a0_3, .bool a0_4, .bool a0_5, .bool a0_6, .bool a0_7]) (t := 55) ?_; intro gb271 hg w13 hbox hb; have BK271 := Aside0.mk (hbox); have GW271 := Aside0.mk ((gs hg (bw HB.out))); have GE271 := Aside0.mk ((gs hg (bw HB.out))); replace HB := Aside0.mk (below_step (bw HB.out) hb); clear hb hbox hg; obtain ⟨hcz14_0, hcz14_1, hcz14_2, hcz14_3, hcz14_4, hcz14_5, hcz14_6, hcz14_7⟩ := ce8 BK271; have hfz14_0 := blk_frozen BK271.out 0; have hfz14_1 := blk_frozen BK271.out 1; have hfz14_2 := blk_frozen BK271.out 2; have hfz14_3 := blk_frozen BK271.out 3; have hfz14_4 := blk_frozen BK271.out 4; have hfz14_5 := blk_frozen BK271.out 5; have hfz14_6 := blk_frozen BK271.out 6; have hfz14_7 := blk_frozen BK271.out 7) | ((with_reducible refine gate_callee (f := 79) rfl ?_); refine goesM_ (some 5) rfl rfl Try.func79 #[.int .i64 a0_0] ?_; (with_reducible refine (spec_l5Byte.calls a0_0 true _ A2.out).mono ?_); rintro e w' ⟨rfl, ⟨nd, rfl⟩⟩; refine ⟨_, rfl, ?_⟩) | (go_at_call 79; (with_reducible refine (spec_l5Byte.calls a0_1 false _ A4.out).mono ?_); rintro e w' ⟨rfl, ⟨nd, rfl⟩⟩))
   go_ret
   exact ⟨rt, bw HB.out⟩
 ·replace c3 := Bool.eq_false_iff.mpr c3
  subst c3
  have H1 : (some false) = some r := by rw [if_neg (show ¬ (false = true) by decide)] at H; exact H
  clear H
  have H := H1
  clear H1
  obtain rfl := Option.some.inj H
  go_enter Try.func50, Try.ntmps50
  go_wp2_with (first | ((with_reducible refine gate_dst (N := 1) rfl ?_); refine bx (N := 1) (cs := #[.int .i64 a0_0, .int .i64 a0_1, .int .i64 a0_2, .int .i64 a0_3, .bool a0_4, .bool a0_5, .bool a0_6, .bool a0_7]) (t := 55) ?_; intro gb271 hg w15 hbox hb; have BK271 := Aside0.mk (hbox); have GW271 := Aside0.mk ((gs hg (bw HB.out))); have GE271 := Aside0.mk ((gs hg (bw HB.out))); replace HB := Aside0.mk (below_step (bw HB.out) hb); clear hb hbox hg; obtain ⟨hcz16_0, hcz16_1, hcz16_2, hcz16_3, hcz16_4, hcz16_5, hcz16_6, hcz16_7⟩ := ce8 BK271; have hfz16_0 := blk_frozen BK271.out 0; have hfz16_1 := blk_frozen BK271.out 1; have hfz16_2 := blk_frozen BK271.out 2; have hfz16_3 := blk_frozen BK271.out 3; have hfz16_4 := blk_frozen BK271.out 4; have hfz16_5 := blk_frozen BK271.out 5; have hfz16_6 := blk_frozen BK271.out 6; have hfz16_7 := blk_frozen BK271.out 7) | ((with_reducible refine gate_callee (f := 79) rfl ?_); refine goesM_ (some 5) rfl rfl Try.func79 #[.int .i64 a0_0] ?_; (with_reducible refine (spec_l5Byte.calls a0_0 false _ A2.out).mono ?_); rintro e w' ⟨rfl, ⟨nd, rfl⟩⟩; refine ⟨_, rfl, ?_⟩))
  go_ret
  exact ⟨rt, bw HB.out⟩

/-! ### slices_Index_string_string: function 96 -/
def slices_Index_string_string.l0 : Nat → List ByteArray → ByteArray → Int → Int → Option (Int)
 | 0, _, _, _, _ => none
 | k + 1, x0, x1, x7, x8 => if x8 < x7 then (if 0 ≤ x8 then (if x8 < (x0.length : Int) then (if x1.toList = (rdOf ByteArray.empty x0 x8).toList then (some x8) else (slices_Index_string_string.l0 k x0 x1 x7 (wrap64 (x8 + 1)))) else (none)) else (none)) else (some (-1))
def slices_Index_string_string.f (k : Nat) (l0 : List ByteArray) (a1 : ByteArray) : Option (Int) := slices_Index_string_string.l0 k l0 a1 (l0.length : Int) 0
set_option maxHeartbeats 8000000 in
set_option maxRecDepth 100000 in
theorem slices_Index_string_string.calls (k : Nat) (A0 : Option Addr) (c0 : Nat) (l0 : List ByteArray) (a1 : ByteArray) (r : Int) (w : World) (hr0 : Kd.C Kd.string w A0 l0.length l0) (hc0 : l0.length ≤ c0) (h : slices_Index_string_string.f k l0 a1 = some r) :
  Calls Try.prog 96 #[.slice A0 l0.length c0, .string a1] w fun e w' => e = .returned (.int .i64 r) ∧ Drawn0 w w' := by
 have HR0 := Aside0.mk hr0
 have HC0 := Aside0.mk hc0
 clear hr0 hc0
 have H : (slices_Index_string_string.l0 k l0 a1 (l0.length : Int) 0) = some r := h
 clear h
 have H' := Aside0.mk H
 clear H
 go_enter Try.func96, Try.ntmps96
 go_wp2
 go_loopg [8] k (fun kq v8 w' => ∃ (x8_1 : Int), v8 = .int .i64 x8_1 ∧ Aside0 (slices_Index_string_string.l0 kq l0 a1 (l0.length : Int) x8_1 = some r) ∧ Aside0 (kq ≤ k) ∧ Drawn0 w w')
 case atStart => exact ⟨(0), (by first | rfl | (simp; done) | (simp [*]; done)), H', ⟨Nat.le_refl _⟩, by repeat (first | exact Drawn0.refl _ | apply Drawn0.step)⟩
 case round =>
  clear H'
  (try clear p2)
  obtain ⟨x8_1, rfl, HA, HK1, ⟨m1, rfl⟩⟩ := hrel
  cases gk with
  | zero => exact absurd HA.out (by simp [slices_Index_string_string.l0])
  | succ k1 =>
   have H := HA.out
   clear HA
   simp only [slices_Index_string_string.l0] at H
   by_cases c3 : x8_1 < (l0.length : Int)
   ·rw [if_pos c3] at H
    have c3b0 : decide (x8_1 < (l0.length : Int)) = true := decide_eq_true c3
    clear c3
    by_cases c4 : 0 ≤ x8_1
    ·rw [if_pos c4] at H
     have c4b0 : decide (0 ≤ x8_1) = true := decide_eq_true c4
     clear c4
     by_cases c5 : x8_1 < (l0.length : Int)
     ·rw [if_pos c5] at H
      have c5b0 : decide (x8_1 < (l0.length : Int)) = true := decide_eq_true c5
      clear c5
      by_cases c6 : a1.toList = (rdOf ByteArray.empty l0 x8_1).toList
      ·rw [if_pos c6] at H
       have c6b0 : (a1.toList == (rdOf ByteArray.empty l0 x8_1).toList) = true := beq_iff_eq.mpr c6
       have c6b1 : (a1.toList != (rdOf ByteArray.empty l0 x8_1).toList) = false := bne_eq_false_iff_eq.mpr c6
       clear c6
       obtain rfl := Option.some.inj H
       have p276 : 0 ≤ (x8_1 : Int) := dt
       have q276 : x8_1 < (l0.length : Int) := dt
       obtain ⟨ad276, e276, hx276_0⟩ := Kd.at_string HR0.out x8_1 p276 q276
       cases e276
       replace p276 := eq_true p276
       replace q276 := eq_true q276
       go_wp2
       go_ret
       exact ⟨by first | rfl | (simp; done) | (simp [*]; done), by repeat (first | exact Drawn0.refl _ | apply Drawn0.step)⟩
      ·rw [if_neg c6] at H
       have c6b0 : (a1.toList == (rdOf ByteArray.empty l0 x8_1).toList) = false := beq_eq_false_iff_ne.mpr c6
       have c6b1 : (a1.toList != (rdOf ByteArray.empty l0 x8_1).toList) = true := bne_iff_ne.mpr c6
       have H' := Aside0.mk H
       clear H
       have p276 : 0 ≤ (x8_1 : Int) := dt
       have q276 : x8_1 < (l0.length : Int) := dt
       obtain ⟨ad276, e276, hx276_0⟩ := Kd.at_string HR0.out x8_1 p276 q276
       cases e276
       replace p276 := eq_true p276
       replace q276 := eq_true q276
       go_wp2
       go_roundg k1
       case measure => have := HK1.out; omega
       case rel => exact ⟨(wrap64 (x8_1 + 1)), (by first | rfl | (simp; done) | (simp [*]; done)), H', ⟨by have := HK1.out; omega⟩, by repeat (first | exact Drawn0.refl _ | apply Drawn0.step)⟩
     ·rw [if_neg c5] at H
      exact absurd H (by simp)
    ·rw [if_neg c4] at H
     exact absurd H (by simp)
   ·rw [if_neg c3] at H
    have c3b0 : decide (x8_1 < (l0.length : Int)) = false := decide_eq_false c3
    clear c3
    obtain rfl := Option.some.inj H
    go_wp2
    go_ret
    exact ⟨by first | rfl | (simp; done) | (simp [*]; done), by repeat (first | exact Drawn0.refl _ | apply Drawn0.step)⟩

/-! ### impl_opNames: function 97 -/
def impl_opNames.f  : Option (List ByteArray) := some (([(⟨#[110, 111, 112]⟩ : ByteArray), (⟨#[108, 100, 105]⟩ : ByteArray), (⟨#[108, 100, 97]⟩ : ByteArray), (⟨#[115, 116, 97]⟩ : ByteArray), (⟨#[97, 100, 105]⟩ : ByteArray), (⟨#[115, 98, 105]⟩ : ByteArray), (⟨#[97, 110, 105]⟩ : ByteArray), (⟨#[111, 114, 105]⟩ : ByteArray), (⟨#[120, 114, 105]⟩ : ByteArray), (⟨#[99, 112, 105]⟩ : ByteArray), (⟨#[116, 97, 120]⟩ : ByteArray), (⟨#[116, 120, 97]⟩ : ByteArray), (⟨#[105, 110, 120]⟩ : ByteArray), (⟨#[100, 101, 120]⟩ : ByteArray), (⟨#[108, 97, 120]⟩ : ByteArray), (⟨#[115, 97, 120]⟩ : ByteArray), (⟨#[98, 110, 101]⟩ : ByteArray), (⟨#[98, 101, 113]⟩ : ByteArray), (⟨#[98, 99, 115]⟩ : ByteArray), (⟨#[106, 109, 112]⟩ : ByteArray), (⟨#[106, 115, 114]⟩ : ByteArray), (⟨#[114, 116, 115]⟩ : ByteArray), (⟨#[112, 104, 97]⟩ : ByteArray), (⟨#[112, 108, 97]⟩ : ByteArray), (⟨#[114, 116, 105]⟩ : ByteArray), (⟨#[115, 101, 105]⟩ : ByteArray), (⟨#[99, 108, 105]⟩ : ByteArray), (⟨#[115, 101, 99]⟩ : ByteArray), (⟨#[99, 108, 99]⟩ : ByteArray), (⟨#[97, 100, 97]⟩ : ByteArray)] : List ByteArray))
set_option maxHeartbeats 8000000 in
set_option maxRecDepth 100000 in
theorem impl_opNames.calls  (r : List ByteArray) (w : World) (h : impl_opNames.f  = some r) :
  Calls Try.prog 97 #[] w fun e w' => ∃ v0_ : Value, e = .returned (v0_) ∧ Kd.R Kd.string 9 w' w.heap.size (fun _ => True) v0_ r ∧ Below w.heap.size w w' := by
 have HB := Aside0.mk (Below.refl w.heap.size w)
 have H : (some (([(⟨#[110, 111, 112]⟩ : ByteArray), (⟨#[108, 100, 105]⟩ : ByteArray), (⟨#[108, 100, 97]⟩ : ByteArray), (⟨#[115, 116, 97]⟩ : ByteArray), (⟨#[97, 100, 105]⟩ : ByteArray), (⟨#[115, 98, 105]⟩ : ByteArray), (⟨#[97, 110, 105]⟩ : ByteArray), (⟨#[111, 114, 105]⟩ : ByteArray), (⟨#[120, 114, 105]⟩ : ByteArray), (⟨#[99, 112, 105]⟩ : ByteArray), (⟨#[116, 97, 120]⟩ : ByteArray), (⟨#[116, 120, 97]⟩ : ByteArray), (⟨#[105, 110, 120]⟩ : ByteArray), (⟨#[100, 101, 120]⟩ : ByteArray), (⟨#[108, 97, 120]⟩ : ByteArray), (⟨#[115, 97, 120]⟩ : ByteArray), (⟨#[98, 110, 101]⟩ : ByteArray), (⟨#[98, 101, 113]⟩ : ByteArray), (⟨#[98, 99, 115]⟩ : ByteArray), (⟨#[106, 109, 112]⟩ : ByteArray), (⟨#[106, 115, 114]⟩ : ByteArray), (⟨#[114, 116, 115]⟩ : ByteArray), (⟨#[112, 104, 97]⟩ : ByteArray), (⟨#[112, 108, 97]⟩ : ByteArray), (⟨#[114, 116, 105]⟩ : ByteArray), (⟨#[115, 101, 105]⟩ : ByteArray), (⟨#[99, 108, 105]⟩ : ByteArray), (⟨#[115, 101, 99]⟩ : ByteArray), (⟨#[99, 108, 99]⟩ : ByteArray), (⟨#[97, 100, 97]⟩ : ByteArray)] : List ByteArray))) = some r := h
 clear h
 obtain ⟨y277, hy277⟩ : ∃ y_ : List ByteArray, y_ = (([(⟨#[110, 111, 112]⟩ : ByteArray), (⟨#[108, 100, 105]⟩ : ByteArray), (⟨#[108, 100, 97]⟩ : ByteArray), (⟨#[115, 116, 97]⟩ : ByteArray), (⟨#[97, 100, 105]⟩ : ByteArray), (⟨#[115, 98, 105]⟩ : ByteArray), (⟨#[97, 110, 105]⟩ : ByteArray), (⟨#[111, 114, 105]⟩ : ByteArray), (⟨#[120, 114, 105]⟩ : ByteArray), (⟨#[99, 112, 105]⟩ : ByteArray), (⟨#[116, 97, 120]⟩ : ByteArray), (⟨#[116, 120, 97]⟩ : ByteArray), (⟨#[105, 110, 120]⟩ : ByteArray), (⟨#[100, 101, 120]⟩ : ByteArray), (⟨#[108, 97, 120]⟩ : ByteArray), (⟨#[115, 97, 120]⟩ : ByteArray), (⟨#[98, 110, 101]⟩ : ByteArray), (⟨#[98, 101, 113]⟩ : ByteArray), (⟨#[98, 99, 115]⟩ : ByteArray), (⟨#[106, 109, 112]⟩ : ByteArray), (⟨#[106, 115, 114]⟩ : ByteArray), (⟨#[114, 116, 115]⟩ : ByteArray), (⟨#[112, 104, 97]⟩ : ByteArray), (⟨#[112, 108, 97]⟩ : ByteArray), (⟨#[114, 116, 105]⟩ : ByteArray), (⟨#[115, 101, 105]⟩ : ByteArray), (⟨#[99, 108, 105]⟩ : ByteArray), (⟨#[115, 101, 99]⟩ : ByteArray), (⟨#[99, 108, 99]⟩ : ByteArray), (⟨#[97, 100, 97]⟩ : ByteArray)] : List ByteArray)) := ⟨_, rfl⟩
 replace H : (some y277) = some r := by first | (rw [hy277]; with_reducible exact H) | (have H2_ := (Option.bind_some _ _).symm.trans H; rw [hy277]; with_reducible exact H2_) | (have H2_ := (Option.bind_some _ _).symm.trans H; with_reducible exact H2_) | with_reducible exact H | (rw [hy277]; exact H) | exact H
 have Ny277 := Aside0.mk hy277
 clear hy277
 obtain rfl := Option.some.inj H
 go_enter Try.func97, Try.ntmps97
 go_wp2_with (first | ((with_reducible refine gate_dst (N := 1) rfl ?_); refine Kd.R_lit Kd.string _ 9 ?hg (N := 1) ?hd (xs := ([(⟨#[110, 111, 112]⟩ : ByteArray), (⟨#[108, 100, 105]⟩ : ByteArray), (⟨#[108, 100, 97]⟩ : ByteArray), (⟨#[115, 116, 97]⟩ : ByteArray), (⟨#[97, 100, 105]⟩ : ByteArray), (⟨#[115, 98, 105]⟩ : ByteArray), (⟨#[97, 110, 105]⟩ : ByteArray), (⟨#[111, 114, 105]⟩ : ByteArray), (⟨#[120, 114, 105]⟩ : ByteArray), (⟨#[99, 112, 105]⟩ : ByteArray), (⟨#[116, 97, 120]⟩ : ByteArray), (⟨#[116, 120, 97]⟩ : ByteArray), (⟨#[105, 110, 120]⟩ : ByteArray), (⟨#[100, 101, 120]⟩ : ByteArray), (⟨#[108, 97, 120]⟩ : ByteArray), (⟨#[115, 97, 120]⟩ : ByteArray), (⟨#[98, 110, 101]⟩ : ByteArray), (⟨#[98, 101, 113]⟩ : ByteArray), (⟨#[98, 99, 115]⟩ : ByteArray), (⟨#[106, 109, 112]⟩ : ByteArray), (⟨#[106, 115, 114]⟩ : ByteArray), (⟨#[114, 116, 115]⟩ : ByteArray), (⟨#[112, 104, 97]⟩ : ByteArray), (⟨#[112, 108, 97]⟩ : ByteArray), (⟨#[114, 116, 105]⟩ : ByteArray), (⟨#[115, 101, 105]⟩ : ByteArray), (⟨#[99, 108, 105]⟩ : ByteArray), (⟨#[115, 101, 99]⟩ : ByteArray), (⟨#[99, 108, 99]⟩ : ByteArray), (⟨#[97, 100, 97]⟩ : ByteArray)] : List ByteArray)) (inner := [.string (⟨#[110, 111, 112]⟩ : ByteArray), .string (⟨#[108, 100, 105]⟩ : ByteArray), .string (⟨#[108, 100, 97]⟩ : ByteArray), .string (⟨#[115, 116, 97]⟩ : ByteArray), .string (⟨#[97, 100, 105]⟩ : ByteArray), .string (⟨#[115, 98, 105]⟩ : ByteArray), .string (⟨#[97, 110, 105]⟩ : ByteArray), .string (⟨#[111, 114, 105]⟩ : ByteArray), .string (⟨#[120, 114, 105]⟩ : ByteArray), .string (⟨#[99, 112, 105]⟩ : ByteArray), .string (⟨#[116, 97, 120]⟩ : ByteArray), .string (⟨#[116, 120, 97]⟩ : ByteArray), .string (⟨#[105, 110, 120]⟩ : ByteArray), .string (⟨#[100, 101, 120]⟩ : ByteArray), .string (⟨#[108, 97, 120]⟩ : ByteArray), .string (⟨#[115, 97, 120]⟩ : ByteArray), .string (⟨#[98, 110, 101]⟩ : ByteArray), .string (⟨#[98, 101, 113]⟩ : ByteArray), .string (⟨#[98, 99, 115]⟩ : ByteArray), .string (⟨#[106, 109, 112]⟩ : ByteArray), .string (⟨#[106, 115, 114]⟩ : ByteArray), .string (⟨#[114, 116, 115]⟩ : ByteArray), .string (⟨#[112, 104, 97]⟩ : ByteArray), .string (⟨#[112, 108, 97]⟩ : ByteArray), .string (⟨#[114, 116, 105]⟩ : ByteArray), .string (⟨#[115, 101, 105]⟩ : ByteArray), .string (⟨#[99, 108, 105]⟩ : ByteArray), .string (⟨#[115, 101, 99]⟩ : ByteArray), .string (⟨#[99, 108, 99]⟩ : ByteArray), .string (⟨#[97, 100, 97]⟩ : ByteArray)]) (ok := fun _ => True) (okp := fun _ => True) ?hr ?hp (fun _ hk => hk) trivial (Below.refl _ _) (Nat.le_refl _) (by simp) ?_; (case hd => rfl); (case hg => rfl); (case hr => first | (go_simp; done) | (go_simp; rfl)); (case hp => exact (reS _)); intro v278 w1 ho2 hb hg_ hnew_; clear hg_ hnew_; (first | rw [← Ny277.out] at ho2 | (simp only [Int.reduceToNat] at ho2; rw [← Ny277.out] at ho2)); have HO279 := Aside0.mk (Kd.R_lower ho2 (below_size (bw HB.out))); replace HB := Aside0.mk (below_step (bw HB.out) hb); clear hb ho2))
 go_ret
 exact ⟨_, rt, kr HO279.out, bw HB.out⟩

/-! ### impl_OpOf: function 51 -/
def impl_OpOf.f (k : Nat) (a0 : ByteArray) : Option (Int) := (impl_opNames.f).bind fun t280 => ((slices_Index_string_string.f k t280 a0).bind fun t283 => (some t283))
set_option maxHeartbeats 8000000 in
set_option maxRecDepth 100000 in
theorem impl_OpOf.calls (k : Nat) (a0 : ByteArray) (r : Int) (w : World) (h : impl_OpOf.f k a0 = some r) :
  Calls Try.prog 51 #[.string a0] w fun e w' => e = .returned (.int .i64 r) ∧ Below w.heap.size w w' := by
 have HB := Aside0.mk (Below.refl w.heap.size w)
 have H : ((impl_opNames.f).bind fun t280 => ((slices_Index_string_string.f k t280 a0).bind fun t283 => (some t283))) = some r := h
 clear h
 replace H := Option.bind_eq_some_iff.mp H
 obtain ⟨t280, A20, H⟩ := H
 replace H : ((slices_Index_string_string.f k t280 a0).bind fun t283 => (some t283)) = some r := H
 have A2 := Aside0.mk A20
 clear A20
 replace H := Option.bind_eq_some_iff.mp H
 obtain ⟨t283, A30, H⟩ := H
 replace H : (some t283) = some r := H
 have A3 := Aside0.mk A30
 clear A30
 obtain rfl := Option.some.inj H
 go_enter Try.func51, Try.ntmps51
 go_wp2_with (first | ((with_reducible refine gate_callee (f := 97) rfl ?_); refine goesM_ (some 3) rfl rfl Try.func97 #[] ?_; (with_reducible refine (impl_opNames.calls  t280 _ A2.out).mono ?_); rintro e w4 ⟨v281, rfl, ho0, hb⟩; refine ⟨_, rfl, ?_⟩; have HO282 := Aside0.mk (Kd.R_lower ho0 (below_size (bw HB.out))); replace HB := Aside0.mk (below_step (bw HB.out) hb); (try clear hb); (try clear hb2); (try clear hk); (try clear hi); (try clear ho0); obtain ⟨Ao5, co5, eo5⟩ := Kd.R_slice HO282.out; subst eo5) | ((with_reducible refine gate_callee (f := 96) rfl ?_); refine goesM_ (some 5) rfl rfl Try.func96 #[.slice Ao5 t280.length co5, .string a0] ?_; (with_reducible refine (slices_Index_string_string.calls k _ _ t280 a0 t283 _ ?side1 ?side2 A3.out).mono ?_); (case side1 => exact kc (Kd.R_reads' HO282.out).2.2); (case side2 => exact (Kd.R_reads' HO282.out).2.1); rintro e w' ⟨rfl, ⟨nd, rfl⟩⟩; refine ⟨_, rfl, ?_⟩))
 go_ret
 exact ⟨rt, bw HB.out⟩

/-- A state of type 107 at block g of W; what its slices lead to came in by w0. -/
def IsS107 (w0 W : World) (g : Nat) (f0 : List Int) (f1 : Int) (f2 : Int) : Prop := ∃ A0 c0, W.heap[g]? = some (.cells #[.slice A0 f0.length c0, .int .i64 f1, .int .i64 f2] 107 (0, 0)) ∧ w0.heap.size ≤ g ∧ Kd.C (Kd.int .u8) w0 A0 f0.length f0
theorem IsS107.grown {w0 W : World} {g : Nat} {f0 : List Int} {f1 : Int} {f2 : Int} {W1 : World} {row : Option Nat} (h : IsS107 w0 W g f0 f1 f2) (hw : W.grownBy W1 row) (hne : some g ≠ row) : IsS107 w0 W1 g f0 f1 f2 := by
 obtain ⟨A0, c0, hb, hg, hr0⟩ := h
 exact ⟨A0, c0, blk_grown hb hw hne, hg, hr0⟩
theorem IsS107.own_neN {w0 W : World} {g : Nat} {f0 : List Int} {f1 : Int} {f2 : Int} {α : Type} {d : Kd α} {e : Nat} {base : Nat} {ok : Nat → Prop} {v : Value} {xs : List α} (h : IsS107 w0 W g f0 f1 f2) (ho : Kd.N d e W base ok v xs) (ht : e ≠ 107) : some g ≠ v.ownBlock := by
 obtain ⟨A0, c0, hb, hg, hr0⟩ := h
 exact Kd.N_ne ho hb ht
theorem IsS107.fresh {w0 W : World} {g : Nat} {f0 : List Int} {f1 : Int} {f2 : Int} (h : IsS107 w0 W g f0 f1 f2) : ∀ k, W.heap.size ≤ k → k ≠ g := by
 obtain ⟨A0, c0, hb, hg, hr0⟩ := h
 exact Kd.freshB hb
theorem IsS107.kept {w0 W : World} {g : Nat} {f0 : List Int} {f1 : Int} {f2 : Int} {W1 : World} {S : Nat → Prop} (h : IsS107 w0 W g f0 f1 f2) (hk : Kept W W1 S) (hne : ¬ S g) : IsS107 w0 W1 g f0 f1 f2 := by
 obtain ⟨A0, c0, hb, hg, hr0⟩ := h
 exact ⟨A0, c0, blk_kept hb hk hne, hg, hr0⟩
theorem IsS107.below {w0 W : World} {g : Nat} {f0 : List Int} {f1 : Int} {f2 : Int} {W1 : World} (h : IsS107 w0 W g f0 f1 f2) (hw : Below W.heap.size W W1) : IsS107 w0 W1 g f0 f1 f2 := h.grown (grown_of_below hw none) (by simp)
theorem IsS107.alloc {w0 W : World} {g : Nat} {f0 : List Int} {f1 : Int} {f2 : Int} (h : IsS107 w0 W g f0 f1 f2) (o : Obj) : IsS107 w0 (W.alloc o) g f0 f1 f2 := h.below (below_alloc (Below.refl _ _) o)
theorem IsS107.drewN {w0 W : World} {g : Nat} {f0 : List Int} {f1 : Int} {f2 : Int} (h : IsS107 w0 W g f0 f1 f2) (m : Nat) : IsS107 w0 (W.drewN m) g f0 f1 f2 := h
theorem IsS107.drew {w0 W : World} {g : Nat} {f0 : List Int} {f1 : Int} {f2 : Int} (h : IsS107 w0 W g f0 f1 f2) : IsS107 w0 W.drew g f0 f1 f2 := h
theorem IsS107.at_ {w0 W : World} {g : Nat} {f0 : List Int} {f1 : Int} {f2 : Int} {w' : World} {m : Nat} (hq : W.drewN m = w') (h : IsS107 w0 W g f0 f1 f2) : IsS107 w0 w' g f0 f1 f2 := by subst hq; exact IsS107.drewN h m
theorem IsS107.apart {w0 W : World} {g : Nat} {f0 : List Int} {f1 : Int} {f2 : Int} {α : Type} {d : Kd α} {e : Nat} {base : Nat} {ok : Nat → Prop} {v : Value} {xs : List α} (h : IsS107 w0 W g f0 f1 f2) (ho : d.R e W base ok v xs) (ht : ∀ q, q ∈ e :: d.E → q ≠ 107) : d.R e W base (fun k => ok k ∧ k ≠ g) v xs := by
 obtain ⟨A0, c0, hb, hg, hr0⟩ := h
 exact Kd.R_types ho hb ht
theorem IsS107.own_ne {w0 W : World} {g : Nat} {f0 : List Int} {f1 : Int} {f2 : Int} {α : Type} {d : Kd α} {e : Nat} {base : Nat} {ok : Nat → Prop} {v : Value} {xs : List α} (h : IsS107 w0 W g f0 f1 f2) (ho : d.R e W base ok v xs) (ht : e ≠ 107) : some g ≠ v.ownBlock := by
 obtain ⟨A0, c0, hb, hg, hr0⟩ := h
 exact Kd.R_ne ho hb ht
theorem IsS107.apartQ {w0 W : World} {g : Nat} {f0 : List Int} {f1 : Int} {f2 : Int} {α : Type} {d : Kd α} {e : Nat} {base : Nat} {ok : Nat → Prop} {v : Value} {xs : List α} (h : IsS107 w0 W g f0 f1 f2) (ho : d.Q e W base ok v xs) (ht : ∀ q, q ∈ e :: d.E → q ≠ 107) : d.Q e W base (fun k => ok k ∧ k ≠ g) v xs := by
 obtain ⟨A0, c0, hb, hg, hr0⟩ := h
 exact Kd.Q_types ho hb ht
theorem IsS107.own_neQ {w0 W : World} {g : Nat} {f0 : List Int} {f1 : Int} {f2 : Int} {α : Type} {d : Kd α} {e : Nat} {base : Nat} {ok : Nat → Prop} {v : Value} {xs : List α} (h : IsS107 w0 W g f0 f1 f2) (ho : d.Q e W base ok v xs) (ht : e ≠ 107) : some g ≠ v.ownBlock := by
 obtain ⟨A0, c0, hb, hg, hr0⟩ := h
 exact Kd.Q_ne ho hb ht
theorem IsS107.apartS {w0 W : World} {g : Nat} {f0 : List Int} {f1 : Int} {f2 : Int} {α : Type} {d : Kd α} {e : Nat} {base : Nat} {ok : Nat → Prop} {v : Value} {xs : List α} (h : IsS107 w0 W g f0 f1 f2) (ho : d.S e W base ok v xs) (ht : ∀ q, q ∈ e :: d.E → q ≠ 107) : d.S e W base (fun k => ok k ∧ k ≠ g) v xs := by
 obtain ⟨A0, c0, hb, hg, hr0⟩ := h
 exact Kd.S_types ho hb ht
theorem IsS107.own_neS {w0 W : World} {g : Nat} {f0 : List Int} {f1 : Int} {f2 : Int} {α : Type} {d : Kd α} {e : Nat} {base : Nat} {ok : Nat → Prop} {v : Value} {xs : List α} (h : IsS107 w0 W g f0 f1 f2) (ho : d.S e W base ok v xs) (ht : e ≠ 107) : some g ≠ v.ownBlock := by
 obtain ⟨A0, c0, hb, hg, hr0⟩ := h
 exact Kd.S_ne ho hb ht
theorem IsS107.lt {w0 W : World} {g : Nat} {f0 : List Int} {f1 : Int} {f2 : Int} (h : IsS107 w0 W g f0 f1 f2) : g < W.heap.size := by
 obtain ⟨A0, c0, hb, hg, hr0⟩ := h
 exact blk_lt hb
theorem IsS107.ge {w0 W : World} {g : Nat} {f0 : List Int} {f1 : Int} {f2 : Int} (h : IsS107 w0 W g f0 f1 f2) : w0.heap.size ≤ g := by
 obtain ⟨A0, c0, hb, hg, hr0⟩ := h
 exact hg
theorem IsS107.ne_blk {w0 W : World} {g : Nat} {f0 : List Int} {f1 : Int} {f2 : Int} {a : Nat} {cs : Array Value} {t : TypeId} {fr : Nat × Nat} (h : IsS107 w0 W g f0 f1 f2) (hb2 : W.heap[a]? = some (.cells cs t fr)) (ht : t ≠ 107) : g ≠ a := by
 obtain ⟨A0, c0, hb, hg, hr0⟩ := h
 rintro rfl
 rw [hb] at hb2
 injection hb2 with hb2
 injection hb2 with _ ht2
 exact ht ht2.symm
theorem IsS107.far {w0 W : World} {g : Nat} {f0 : List Int} {f1 : Int} {f2 : Int} {p : Addr} (h : IsS107 w0 W g f0 f1 f2) (hne : g ≠ p.block) (u : Value) : IsS107 w0 (W.setCell p u) g f0 f1 f2 := by
 obtain ⟨A0, c0, hb, hg, hr0⟩ := h
 exact ⟨A0, c0, blk_far hb hne u, hg, hr0⟩
theorem cellS107_0 {W : World} {g : Nat} {A0 : Option Addr} {c0 : Nat} {f0 : List Int} {f1 : Int} {f2 : Int} (h : W.heap[g]? = some (.cells #[.slice A0 f0.length c0, .int .i64 f1, .int .i64 f2] 107 (0, 0))) : W.cell? ⟨g, 0, none⟩ = some (.slice A0 f0.length c0) := (blk_cell h 0).trans rfl
theorem cellS107_1 {W : World} {g : Nat} {A0 : Option Addr} {c0 : Nat} {f0 : List Int} {f1 : Int} {f2 : Int} (h : W.heap[g]? = some (.cells #[.slice A0 f0.length c0, .int .i64 f1, .int .i64 f2] 107 (0, 0))) : W.cell? ⟨g, 1, none⟩ = some (.int .i64 f1) := (blk_cell h 1).trans rfl
theorem IsS107.set_1 {w0 W : World} {g : Nat} {f0 : List Int} {f1 : Int} {f2 : Int} (h : IsS107 w0 W g f0 f1 f2) (x : Int) : IsS107 w0 (W.setCell ⟨g, 1, none⟩ (.int .i64 x)) g f0 x f2 := by
 obtain ⟨A0, c0, hb, hg, hr0⟩ := h
 exact ⟨A0, c0, by simpa using blk_set hb 1 (.int .i64 x), hg, hr0⟩
theorem cellS107_2 {W : World} {g : Nat} {A0 : Option Addr} {c0 : Nat} {f0 : List Int} {f1 : Int} {f2 : Int} (h : W.heap[g]? = some (.cells #[.slice A0 f0.length c0, .int .i64 f1, .int .i64 f2] 107 (0, 0))) : W.cell? ⟨g, 2, none⟩ = some (.int .i64 f2) := (blk_cell h 2).trans rfl
theorem IsS107.set_2 {w0 W : World} {g : Nat} {f0 : List Int} {f1 : Int} {f2 : Int} (h : IsS107 w0 W g f0 f1 f2) (x : Int) : IsS107 w0 (W.setCell ⟨g, 2, none⟩ (.int .i64 x)) g f0 f1 x := by
 obtain ⟨A0, c0, hb, hg, hr0⟩ := h
 exact ⟨A0, c0, by simpa using blk_set hb 2 (.int .i64 x), hg, hr0⟩
theorem IsS107.new (w0 W : World) (A0 : Option Addr) (c0 : Nat) (f0 : List Int) (f1 : Int) (f2 : Int) (hB : Below w0.heap.size w0 W) (hr0 : Kd.C (Kd.int .u8) w0 A0 f0.length f0) : IsS107 w0 (W.alloc (.cells #[.slice A0 f0.length c0, .int .i64 f1, .int .i64 f2] 107)) W.heap.size f0 f1 f2 := ⟨A0, c0, by simpa using heap_alloc_new W _, hB.size, hr0⟩

/-! ### spec_l1New: function 57 -/
def spec_l1New.l0 : Nat → List Int → Int → Int → Option (List Int × Int × Int)
 | 0, _, _, _ => none
 | k + 1, x0, x3, x4 => if x4 < (x0.length : Int) then (if x4 < 4000 then (if 0 ≤ x4 then (spec_l1New.l0 k x0 (Go.bits .and .i64 (wrap64 ((wrap64 ((wrap64 (x3 * 131)) + (wrap64 (rd x0 x4)))) + 7)) 1073741823) (wrap64 (x4 + 1))) else (none)) else (some (x0, 0, x3))) else (some (x0, 0, x3))
def spec_l1New.f (k : Nat) (l0 : List Int) : Option (List Int × Int × Int) := spec_l1New.l0 k l0 (wrap64 (18554 + (l0.length : Int))) 0
set_option maxHeartbeats 8000000 in
set_option maxRecDepth 100000 in
theorem spec_l1New.calls (k : Nat) (A0 : Option Addr) (c0 : Nat) (l0 : List Int) (r1 : List Int) (r2 : Int) (r3 : Int) (w0 w : World) (hB : Below w0.heap.size w0 w) (hr0 : Kd.C (Kd.int .u8) w0 A0 l0.length l0) (hc0 : l0.length ≤ c0) (h : spec_l1New.f k l0 = some (r1, r2, r3)) :
  Calls Try.prog 57 #[.slice A0 l0.length c0] w fun e w' => ∃ g_ : Nat, e = .returned (.pointer (some ⟨g_, 0, none⟩)) ∧ IsS107 w0 w' g_ r1 r2 r3 ∧ Below w0.heap.size w0 w' ∧ Below w.heap.size w w' := by
 have hu107 := Try.underlying107
 have HR0 := Aside0.mk hr0
 have HC0 := Aside0.mk hc0
 clear hr0 hc0
 have HBW := Aside0.mk (Below.refl w.heap.size w)
 have HW0 := Aside0.mk hB.size
 have HB := Aside0.mk hB
 clear hB
 have H : (spec_l1New.l0 k l0 (wrap64 (18554 + (l0.length : Int))) 0) = some (r1, r2, r3) := h
 clear h
 have H' := Aside0.mk H
 clear H
 go_enter Try.func57, Try.ntmps57
 go_wp2
 go_loopg [3, 4] k (fun kq v3 v4 w' => ∃ (x3_1 : Int) (x4_1 : Int), v3 = .int .i64 x3_1 ∧ v4 = .int .i64 x4_1 ∧ Aside0 (spec_l1New.l0 kq l0 x3_1 x4_1 = some (r1, r2, r3)) ∧ Aside0 (kq ≤ k) ∧ Aside0 (Below w0.heap.size w0 w') ∧ Aside0 (Below w.heap.size w w'))
 case atStart => exact ⟨(wrap64 (18554 + (l0.length : Int))), (0), (by first | rfl | (simp; done) | (simp [*]; done)), (by first | rfl | (simp; done) | (simp [*]; done)), H', ⟨Nat.le_refl _⟩, ⟨bw HB.out⟩, ⟨bw HBW.out⟩⟩
 case round =>
  clear H'
  obtain ⟨x3_1, x4_1, rfl, rfl, HA, HK1, HB, HBW⟩ := hrel
  cases gk with
  | zero => exact absurd HA.out (by simp [spec_l1New.l0])
  | succ k1 =>
   have H := HA.out
   clear HA
   simp only [spec_l1New.l0] at H
   by_cases c2 : x4_1 < (l0.length : Int)
   ·rw [if_pos c2] at H
    have c2b0 : decide (x4_1 < (l0.length : Int)) = true := decide_eq_true c2
    clear c2
    by_cases c3 : x4_1 < 4000
    ·rw [if_pos c3] at H
     have c3b0 : decide (x4_1 < 4000) = true := decide_eq_true c3
     clear c3
     by_cases c4 : 0 ≤ x4_1
     ·rw [if_pos c4] at H
      have c4b0 : decide (0 ≤ x4_1) = true := decide_eq_true c4
      clear c4
      have H' := Aside0.mk H
      clear H
      have p284 : 0 ≤ (x4_1 : Int) := dt
      have q284 : x4_1 < (l0.length : Int) := dt
      obtain ⟨ad284, e284, hx284_0⟩ := Kd.at_int HR0.out x4_1 p284 q284
      cases e284
      replace hx284_0 := pw_cell_below HB.out hx284_0
      replace p284 := eq_true p284
      replace q284 := eq_true q284
      go_wp2
      go_roundg k1
      case measure => have := HK1.out; omega
      case rel => exact ⟨(Go.bits .and .i64 (wrap64 ((wrap64 ((wrap64 (x3_1 * 131)) + (wrap64 (rd l0 x4_1)))) + 7)) 1073741823), (wrap64 (x4_1 + 1)), (by first | rfl | (simp; done) | (simp [*]; done)), (by first | rfl | (simp; done) | (simp [*]; done)), H', ⟨by have := HK1.out; omega⟩, ⟨bw HB.out⟩, ⟨bw HBW.out⟩⟩
     ·rw [if_neg c4] at H
      exact absurd H (by simp)
    ·rw [if_neg c3] at H
     have c3b0 : decide (x4_1 < 4000) = false := decide_eq_false c3
     clear c3
     simp only [Option.some.injEq, Prod.mk.injEq] at H
     obtain ⟨rfl, rfl, rfl⟩ := H
     go_wp2_with (first | ((with_reducible refine gate_dst (N := 31) rfl ?_); refine bx (N := 31) (cs := #[.slice A0 l0.length c0, .int .i64 0, .int .i64 x3_1]) (t := 107) ?_; intro gb285 hg w5 hbox hb; replace HB := Aside0.mk (below_step (bw HB.out) hb); have BK285 := Aside0.mk (hbox); have GW285 := Aside0.mk ((gs hg (bw HBW.out))); have GE285 := Aside0.mk ((Nat.le_trans HW0.out (gs hg (bw HBW.out)) : w0.heap.size ≤ gb285)); replace HBW := Aside0.mk (below_step HBW.out hb); clear hb hbox hg))
     go_ret
     exact ⟨_, rfl, (show IsS107 w0 _ gb285 l0 0 x3_1 from ⟨_, _, kb BK285.out, GE285.out, HR0.out⟩), bw HB.out, by repeat (first | (with_reducible first | exact HBW.out | apply below_alloc | apply pw_below_drewN | apply below_drew1 | refine below_set ?_ GW285.out) | exact HBW.out)⟩
   ·rw [if_neg c2] at H
    have c2b0 : decide (x4_1 < (l0.length : Int)) = false := decide_eq_false c2
    clear c2
    simp only [Option.some.injEq, Prod.mk.injEq] at H
    obtain ⟨rfl, rfl, rfl⟩ := H
    go_wp2_with (first | ((with_reducible refine gate_dst (N := 31) rfl ?_); refine bx (N := 31) (cs := #[.slice A0 l0.length c0, .int .i64 0, .int .i64 x3_1]) (t := 107) ?_; intro gb286 hg w6 hbox hb; replace HB := Aside0.mk (below_step (bw HB.out) hb); have BK286 := Aside0.mk (hbox); have GW286 := Aside0.mk ((gs hg (bw HBW.out))); have GE286 := Aside0.mk ((Nat.le_trans HW0.out (gs hg (bw HBW.out)) : w0.heap.size ≤ gb286)); replace HBW := Aside0.mk (below_step HBW.out hb); clear hb hbox hg))
    go_ret
    exact ⟨_, rfl, (show IsS107 w0 _ gb286 l0 0 x3_1 from ⟨_, _, kb BK286.out, GE286.out, HR0.out⟩), bw HB.out, by repeat (first | (with_reducible first | exact HBW.out | apply below_alloc | apply pw_below_drewN | apply below_drew1 | refine below_set ?_ GW286.out) | exact HBW.out)⟩

/-! ### short_cur (mine) -/
theorem si {w0 W W' : World} {g : Nat} {f0 : List Int} {f1 f2 p1 p2 : Int} (h : IsS107 w0 W g f0 f1 f2) (f : IsS107 w0 W g f0 f1 f2 → IsS107 w0 W' g f0 p1 p2 := by intro h_; repeat (first | (with_reducible first | exact h_ | apply IsS107.alloc | apply IsS107.drewN | apply IsS107.drew | apply IsS107.set_1 | apply IsS107.set_2 | refine IsS107.far ?_ (Aside0.out (by assumption)) _) | exact h_)) : IsS107 w0 W' g f0 p1 p2 := f h
theorem bi {w W W' : World} (h : Below w.heap.size w W) (f : Below w.heap.size w W → Below w.heap.size w W' := by intro h_; repeat (first | (with_reducible first | exact h_ | apply below_alloc | apply pw_below_drewN | apply below_drew1 | refine below_set ?_ (IsS107.ge (Aside0.out (by assumption))) | refine below_set ?_ (Aside0.out (by assumption))) | exact h_)) : Below w.heap.size w W' := f h

end Go.Proofs.Ytmkccgbfgebfbaa.MFnEntered
