/- Walks of functions that the law FnCalled reaches: each comes to just what its Lean function says. (Begun as the texts that print.sh wrote for this claim; some of them, and those that it does not write, are mine.) No condition. -/
import Derived.Test.YtmkccgbfgebfbaaMFnCalledx3
namespace Go.Proofs.Ytmkccgbfgebfbaa.MFnCalled
open Go.RowKit Go.Proofs.YtmkccgbfgebfbaaW.PrintWords Go.Proofs.YtmkccgbfgebfbaaW.PrintLast Go.Proofs.YtmkccgbfgebfbaaW.PrintMore
attribute [local go_sem] max2_int min2_int max_two min_two max_three min_three max_four min_four   -- for this text's walks alone
set_option maxHeartbeats 8000000
set_option maxRecDepth 100000
set_option linter.unusedVariables false
set_option linter.unusedSimpArgs false

/-! ### impl_SetX: function 124 -/
def impl_SetX.f (a0_0 : Int) (a0_1 : Int) (a0_2 : Int) (a0_3 : Int) (a0_4 : Bool) (a0_5 : Bool) (a0_6 : Bool) (a0_7 : Bool) (a1 : Int) : Option (Int × Int × Int × Int × Bool × Bool × Bool × Bool) := (impl_Byte.f a1).bind fun t578 => ((impl_Signs.f a1).bind fun bt579 => (some (a0_0, t578, a0_2, a0_3, bt579.1, bt579.2, a0_6, a0_7)))
theorem impl_SetX.calls (a0_0 : Int) (a0_1 : Int) (a0_2 : Int) (a0_3 : Int) (a0_4 : Bool) (a0_5 : Bool) (a0_6 : Bool) (a0_7 : Bool) (a1 : Int) (r1 : Int) (r2 : Int) (r3 : Int) (r4 : Int) (r5 : Bool) (r6 : Bool) (r7 : Bool) (r8 : Bool) (w : World) (h : impl_SetX.f a0_0 a0_1 a0_2 a0_3 a0_4 a0_5 a0_6 a0_7 a1 = some (r1, r2, r3, r4, r5, r6, r7, r8)) :
  Calls Try.prog 124 #[.agg #[.int .i64 a0_0, .int .i64 a0_1, .int .i64 a0_2, .int .i64 a0_3, .bool a0_4, .bool a0_5, .bool a0_6, .bool a0_7], .int .i64 a1] w fun e w' => e = .returned (.agg #[.int .i64 r1, .int .i64 r2, .int .i64 r3, .int .i64 r4, .bool r5, .bool r6, .bool r7, .bool r8]) ∧ Below w.heap.size w w' := by
 have hu55 := Try.underlying55
 have HB := am (Below.refl w.heap.size w)
 have H : ((impl_Byte.f a1).bind fun t578 => ((impl_Signs.f a1).bind fun bt579 => (some (a0_0, t578, a0_2, a0_3, bt579.1, bt579.2, a0_6, a0_7)))) = some (r1, r2, r3, r4, r5, r6, r7, r8) := h
 clear h
 replace H := bs H
 obtain ⟨t578, A30, H⟩ := H
 replace H : ((impl_Signs.f a1).bind fun bt579 => (some (a0_0, t578, a0_2, a0_3, bt579.1, bt579.2, a0_6, a0_7))) = some (r1, r2, r3, r4, r5, r6, r7, r8) := H
 have A3 := am A30
 clear A30
 replace H := bs H
 obtain ⟨⟨t579, t580⟩, A40, H⟩ := H
 replace H : (some (a0_0, t578, a0_2, a0_3, t579, t580, a0_6, a0_7)) = some (r1, r2, r3, r4, r5, r6, r7, r8) := H
 have A4 := am A40
 clear A40
 simp only [Option.some.injEq, Prod.mk.injEq] at H
 obtain ⟨rfl, rfl, rfl, rfl, rfl, rfl, rfl, rfl⟩ := H
 go_enter Try.func124, Try.ntmps124
 go_wp2_with (first | ((with_reducible refine gd 2 ?_); refine bx (N := 2) (cs := #[.int .i64 a0_0, .int .i64 a0_1, .int .i64 a0_2, .int .i64 a0_3, .bool a0_4, .bool a0_5, .bool a0_6, .bool a0_7]) (t := 55) ?_; intro gb576 hg w5 hbox hb; have BK576 := am (hbox); have GW576 := am ((gs hg (bw HB.out))); have GE576 := am ((gs hg (bw HB.out))); replace HB := am (below_step (bw HB.out) hb); clear hb hbox hg) | ((with_reducible refine gd 4 ?_); refine bz (N := 4) ?_; intro gb577 hg w6 hbox hb; have BK577 := am (hbox); have GW577 := am ((gs hg (bw HB.out))); have GE577 := am ((gs hg (bw HB.out))); replace HB := am (below_step (bw HB.out) hb); have NB576_577 := am ((ga hg BK576.out)); have NB577_576 := am ((gc hg BK576.out)); replace BK576 := am (bb BK576 hb); clear hb hbox hg) | ((with_reducible refine gate_callee (f := 34) rfl ?_); refine goesM_ (some 6) rfl rfl Try.func34 #[.int .i64 a1] ?_; (with_reducible refine (impl_Byte.calls a1 t578 _ A3.out).mono ?_); rintro e w' ⟨rfl, ⟨nd, rfl⟩⟩; refine ⟨_, rfl, ?_⟩; (try (rw [drewN_self w6]; generalize hq_ : World.drewN w6 _ = w6; have n0_ : Aside0 (w6.heap[gb576]? = some (.cells #[.int .i64 a0_0, .int .i64 a0_1, .int .i64 a0_2, .int .i64 a0_3, .bool a0_4, .bool a0_5, .bool a0_6, .bool a0_7] 55 (0, 0))) := ⟨by rw [← hq_]; exact (kb BK576.out)⟩; have n1_ : Aside0 (w6.heap[gb577]? = some (.cells #[.int .i64 0, .int .i64 0, .int .i64 0, .int .i64 0, .bool false, .bool false, .bool false, .bool false] 55 (0, 0))) := ⟨by rw [← hq_]; exact (kb BK577.out)⟩; have n2_ : Aside0 (Below w.heap.size w w6) := ⟨by rw [← hq_]; exact (bw HB.out)⟩; clear BK576 BK577 HB hq_; have BK576 := n0_; have BK577 := n1_; have HB := n2_; clear n0_ n1_ n2_; (try obtain ⟨hcz8_0, hcz8_1, hcz8_2, hcz8_3, hcz8_4, hcz8_5, hcz8_6, hcz8_7⟩ := ce8 BK576); (try obtain ⟨hfz8_0, hfz8_1, hfz8_2, hfz8_3, hfz8_4, hfz8_5, hfz8_6, hfz8_7⟩ := fz8 BK576); (try obtain ⟨hcz9_0, hcz9_1, hcz9_2, hcz9_3, hcz9_4, hcz9_5, hcz9_6, hcz9_7⟩ := ce8 BK577); (try obtain ⟨hfz9_0, hfz9_1, hfz9_2, hfz9_3, hfz9_4, hfz9_5, hfz9_6, hfz9_7⟩ := fz8 BK577))); have p_ := NB576_577.out; obtain ⟨hcz8_0, hcz8_1, hcz8_2, hcz8_3, hcz8_4, hcz8_5, hcz8_6, hcz8_7⟩ := ce8 BK576; obtain ⟨hfz8_0, hfz8_1, hfz8_2, hfz8_3, hfz8_4, hfz8_5, hfz8_6, hfz8_7⟩ := fz8 BK576) | ((with_reducible refine gate_callee (f := 123) rfl ?_); refine goesM_ (some 10) rfl rfl Try.func123 #[.int .i64 a1] ?_; (with_reducible refine (impl_Signs.calls a1 t579 t580 _ A4.out).mono ?_); rintro e w' ⟨rfl, ⟨nd, rfl⟩⟩; refine ⟨_, rfl, ?_⟩; obtain ⟨hcz9_0, hcz9_1, hcz9_2, hcz9_3, hcz9_4, hcz9_5, hcz9_6, hcz9_7⟩ := ce8 BK577; obtain ⟨hfz9_0, hfz9_1, hfz9_2, hfz9_3, hfz9_4, hfz9_5, hfz9_6, hfz9_7⟩ := fz8 BK577))
 refine bodyPost_ret (results_cell_row rfl _ _ gb577 55 #[.int .i64 a0_0, .int .i64 t578, .int .i64 a0_2, .int .i64 a0_3, .bool t579, .bool t580, .bool a0_6, .bool a0_7] (0, 0) _ rfl (bf NB577_576 BK577.out) Try.underlying55 rfl (by kernel_rfl)) rfl ?_
 exact ⟨rt, bw HB.out⟩

-- NOT PRINTED: function 110 (impl_Cpu_turn)

-- NOT PRINTED: function 99 (impl_Mem_push)

-- NOT PRINTED: function 98 (impl_Mem_pushPc)

/-! ### impl_Join: function 39 -/
def impl_Join.f (a0 : Int) (a1 : Int) : Option (Int) := (impl_Byte.f a0).bind fun t614 => ((impl_Byte.f a1).bind fun t615 => (some (wrap64 (t614 + (wrap64 (256 * t615))))))
theorem impl_Join.calls (a0 : Int) (a1 : Int) (r : Int) (w : World) (h : impl_Join.f a0 a1 = some r) :
  Calls Try.prog 39 #[.int .i64 a0, .int .i64 a1] w fun e w' => e = .returned (.int .i64 r) ∧ Drawn0 w w' := by
 have H : ((impl_Byte.f a0).bind fun t614 => ((impl_Byte.f a1).bind fun t615 => (some (wrap64 (t614 + (wrap64 (256 * t615))))))) = some r := h
 clear h
 replace H := bs H
 obtain ⟨t614, A30, H⟩ := H
 replace H : ((impl_Byte.f a1).bind fun t615 => (some (wrap64 (t614 + (wrap64 (256 * t615)))))) = some r := H
 have A3 := am A30
 clear A30
 replace H := bs H
 obtain ⟨t615, A40, H⟩ := H
 replace H : (some (wrap64 (t614 + (wrap64 (256 * t615))))) = some r := H
 have A4 := am A40
 clear A40
 obtain rfl := oj H
 go_enter Try.func39, Try.ntmps39
 go_wp2_with (first | ((with_reducible refine gate_callee (f := 34) rfl ?_); refine goesM_ (some 6) rfl rfl Try.func34 #[.int .i64 a0] ?_; (with_reducible refine (impl_Byte.calls a0 t614 _ A3.out).mono ?_); rintro e w' ⟨rfl, ⟨nd, rfl⟩⟩; refine ⟨_, rfl, ?_⟩) | ((with_reducible refine gate_callee (f := 34) rfl ?_); refine goesM_ (some 8) rfl rfl Try.func34 #[.int .i64 a1] ?_; (with_reducible refine (impl_Byte.calls a1 t615 _ A4.out).mono ?_); rintro e w' ⟨rfl, ⟨nd, rfl⟩⟩; refine ⟨_, rfl, ?_⟩))
 go_ret
 exact ⟨by first | rfl | (simp; done) | (simp [*]; done), by repeat (first | exact Drawn0.refl _ | apply Drawn0.step)⟩

-- NOT PRINTED: function 126 (impl_Mem_pull)

-- NOT PRINTED: function 125 (impl_Mem_back)

/-! ### mem_pull (mine) -/
theorem pushF_keeps (ram : List Int) (k : Cp) (v : Int) : (pushF ram k v).2 = { k with S := (pushF ram k v).2.S } ∧ (pushF ram k v).1.length = ram.length := by
 unfold pushF
 split <;> simp
theorem blkP {w : World} {c : Nat} {k : Cp} {t : TypeId} (h : w.heap[c]? = some (.cells k.cells t (0, 0))) : w.cell? ⟨c, 3, none⟩ = some (.int .i64 k.P) := (blk_cell h 3).trans rfl
def pushPcF (ram : List Int) (k : Cp) : List Int × Cp := pushF (pushF ram k (k.P / 256)).1 (pushF ram k (k.P / 256)).2 k.P
theorem pushPc_calls {w0 w : World} {x c : Nat} {rv : Value} {b : Int} {k : Cp} {ram : List Int} (h : MC w0 w x c rv b k ram) :
  Calls Try.prog 98 #[.pointer (some ⟨x, 0, none⟩), .pointer (some ⟨c, 0, none⟩)] w fun e w' => e = .returned (.tuple #[]) ∧
   MC w0 w' x c rv b (pushPcF ram k).2 (pushPcF ram k).1 ∧ Kept w w' (fun j => j = c ∨ some j = rv.ownBlock) := by
 have hu37 := Try.underlying32
 have hu38 := Try.underlying55
 have hP := blkP h.cpu
 have eP : (pushF ram k (k.P / 256)).2.P = k.P := by rw [(pushF_keeps ram k (k.P / 256)).1]
 have eq : pushPcF ram k = pushF (pushF ram k (k.P / 256)).1 (pushF ram k (k.P / 256)).2 k.P := rfl
 rw [eq]
 clear eq
 have EP := am eP
 clear eP
 have E8 : Aside0 (∀ q : Int, shr .i64 q 8 = q / 256) := ⟨fun q => rfl⟩
 generalize k.P = p at *
 go_enter Try.func98, Try.ntmps98
 go_wp2_with fail
 refine (push_calls h _).mono ?_
 rintro e w' ⟨rfl, h1, k1⟩
 have hP1 := blkP h1.cpu
 rw [EP.out] at hP1
 clear hP
 generalize hq : pushF ram k (p / 256) = q at *
 have HQ := am hq
 clear hq
 go_wp2_with fail
 refine (push_calls h1 _).mono ?_
 rintro e w2 ⟨rfl, h2, k2⟩
 go_wp2
 go_end0
 obtain rfl := HQ.out
 exact ⟨rfl, h2, k1.then_ k2 (fun j hj => .inl hj)⟩
def pullF (ram : List Int) (k : Cp) : Cp × Int := if ram.length = 512 then ({ k with S := wrap64 (k.S + 1) % 256 }, rd ram (256 + wrap64 (k.S + 1) % 256)) else (k, 0)
theorem pull_yes (x c g cap : Nat) (ram : List Int) (S val : Int) (w : World)
  (hx0 : w.cell? ⟨x, 0, none⟩ = some (.slice (some ⟨g, 0, none⟩) ram.length cap)) (hc2 : w.cell? ⟨c, 2, none⟩ = some (.int .i64 S))
  (hlen : ram.length = 512) (hcg : w.cell? ⟨g, (256 + wrap64 (S + 1) % 256).toNat, none⟩ = some (.int .i64 val)) (hfc : w.frozen? ⟨c, 2, none⟩ = false) (hgc : g ≠ c) (hgx : g ≠ x) (hcx : c ≠ x) (hxc : x ≠ c) :
  Calls Try.prog 126 #[.pointer (some ⟨x, 0, none⟩), .pointer (some ⟨c, 0, none⟩)] w fun e w' => e = .returned (.int .i64 val) ∧
   ∃ n, w' = (w.setCell ⟨c, 2, none⟩ (.int .i64 (wrap64 (S + 1) % 256))).drewN n := by
 have hu37 := Try.underlying32
 have hu38 := Try.underlying55
 have hl : (((ram.length : Nat) : Int) != 512) = false := by simp; omega
 have A3 : Aside0 (∀ w, Calls Try.prog 34 #[.int .i64 (wrap64 (S + 1))] w fun e w' => e = .returned (.int .i64 (wrap64 (S + 1) % 256)) ∧ w' = w) := ⟨byte_same _⟩
 have hs0 : 0 ≤ wrap64 (S + 1) % 256 := by omega
 have hs1 : wrap64 (S + 1) % 256 < 256 := by omega
 generalize wrap64 (S + 1) % 256 = sb at *
 have hsum : IntKind.i64.wrap (256 + sb) = 256 + sb := by rw [IntKind.wrap_i64]; omega
 have hb1 : (256 + sb < (ram.length : Int)) = True := eq_true (by omega)
 have hb0 : (0 ≤ 256 + sb) = True := eq_true (by omega)
 clear hlen
 go_enter Try.func126, Try.ntmps126
 go_wp2_with (go_at_call 34; refine (A3.out _).mono ?_; rintro e w' ⟨rfl, rfl⟩)
 go_quiet (fail)
 go_wp2
 go_ret
 exact ⟨rfl, _, rfl⟩
theorem pull_no (x c : Nat) (A : Option Addr) (cap : Nat) (ram : List Int) (w : World)
  (hx0 : w.cell? ⟨x, 0, none⟩ = some (.slice A ram.length cap)) (hlen : ram.length ≠ 512) :
  Calls Try.prog 126 #[.pointer (some ⟨x, 0, none⟩), .pointer (some ⟨c, 0, none⟩)] w fun e w' => e = .returned (.int .i64 0) ∧ w' = w := by
 have hu37 := Try.underlying32
 have hl : (((ram.length : Nat) : Int) != 512) = true := by simp; omega
 clear hlen
 go_enter Try.func126, Try.ntmps126
 go_wp2
 go_ret
 exact ⟨rfl, rfl⟩
theorem pull_calls {w0 w : World} {x c : Nat} {rv : Value} {b : Int} {k : Cp} {ram : List Int} (h : MC w0 w x c rv b k ram) :
  Calls Try.prog 126 #[.pointer (some ⟨x, 0, none⟩), .pointer (some ⟨c, 0, none⟩)] w fun e w' => e = .returned (.int .i64 (pullF ram k).2) ∧
   MC w0 w' x c rv b (pullF ram k).1 ram ∧ Kept w w' (fun j => j = c ∨ some j = rv.ownBlock) := by
 unfold pullF
 by_cases hl : ram.length = 512
 ·rw [if_pos hl]
  obtain ⟨g, cap, rfl, hg, _, _⟩ := Kd.R_form h.row (by omega)
  obtain ⟨hcg, _⟩ := Kd.R_celln 0 h.row (256 + wrap64 (k.S + 1) % 256) (by omega) (by omega)
  refine (pull_yes x c g cap ram k.S _ w ((blk_cell h.mem 0).trans rfl) ((blk_cell h.cpu 2).trans rfl) hl hcg (blk_frozen h.cpu 2) (fun e => h.far.2 (by rw [e]; rfl)) (fun e => h.far.1 (by rw [e]; rfl)) (Ne.symm h.ne) h.ne).mono ?_
  rintro e w' ⟨rfl, n, rfl⟩
  refine ⟨rfl, ((h.setC (k' := { k with S := wrap64 (k.S + 1) % 256 }) 2 _ rfl).drewN n), ?_⟩
  exact ((kept_set (Kept.refl w _) (.inl rfl) _).drewN n)
 ·rw [if_neg hl]
  obtain ⟨A, cap, rfl⟩ := Kd.R_slice h.row
  refine (pull_no x c A cap ram w ((blk_cell h.mem 0).trans rfl) hl).mono ?_
  rintro e w' ⟨rfl, rfl⟩
  exact ⟨rfl, h, Kept.refl _ _⟩
theorem implJoin (a b : Int) : impl_Join.f a b = some (a % 256 + 256 * (b % 256)) := by
 unfold impl_Join.f impl_Byte.f
 simp only [Option.bind_some, and255]
 rw [show wrap64 (256 * (b % 256)) = 256 * (b % 256) by unfold wrap64; omega, show wrap64 (a % 256 + 256 * (b % 256)) = a % 256 + 256 * (b % 256) by unfold wrap64; omega]
def backF (ram : List Int) (k : Cp) : Cp := { (pullF ram (pullF ram k).1).1 with P := (pullF ram k).2 % 256 + 256 * ((pullF ram (pullF ram k).1).2 % 256) }
theorem back_calls {w0 w : World} {x c : Nat} {rv : Value} {b : Int} {k : Cp} {ram : List Int} (h : MC w0 w x c rv b k ram) :
  Calls Try.prog 125 #[.pointer (some ⟨x, 0, none⟩), .pointer (some ⟨c, 0, none⟩)] w fun e w' => e = .returned (.tuple #[]) ∧
   MC w0 w' x c rv b (backF ram k) ram ∧ Kept w w' (fun j => j = c ∨ some j = rv.ownBlock) := by
 have hu37 := Try.underlying32
 have hu38 := Try.underlying55
 unfold backF
 go_enter Try.func125, Try.ntmps125
 go_wp2_with fail
 refine (pull_calls h).mono ?_
 rintro e w1 ⟨rfl, h1, k1⟩
 generalize hq : pullF ram k = q at *
 have HQ := am hq
 clear hq
 go_wp2_with fail
 refine (pull_calls h1).mono ?_
 rintro e w2 ⟨rfl, h2, k2⟩
 generalize hr : pullF ram q.1 = r at *
 have HR := am hr
 clear hr
 have HJ := am (implJoin q.2 r.2)
 generalize hj : q.2 % 256 + 256 * (r.2 % 256) = j at *
 have HJ2 := am hj
 clear hj
 go_wp2_with fail
 refine (impl_Join.calls _ _ _ _ HJ.out).mono ?_
 rintro e w3 ⟨rfl, n, rfl⟩
 have h3 := h2.drewN n
 have hfc : w2.frozen? ⟨c, 3, none⟩ = false := blk_frozen h2.cpu 3
 have hcc := blkP h2.cpu
 go_wp2
 go_end0
 obtain rfl := HJ2.out
 obtain rfl := HR.out
 obtain rfl := HQ.out
 refine ⟨rfl, (h3.setC 3 _ rfl), ?_⟩
 exact kept_set ((k1.then_ k2 (fun j hj => .inl hj)).drewN n) (.inl rfl) _

/-! ### impl_reckon (mine) -/
theorem cells8 {w : World} {g : Nat} {t : TypeId} {a0 a1 a2 a3 a4 a5 a6 a7 : Value} (h : w.heap[g]? = some (.cells #[a0, a1, a2, a3, a4, a5, a6, a7] t (0, 0))) : (w.cell? ⟨g, 0, none⟩ = some a0 ∧ w.cell? ⟨g, 1, none⟩ = some a1 ∧ w.cell? ⟨g, 2, none⟩ = some a2 ∧ w.cell? ⟨g, 3, none⟩ = some a3 ∧ w.cell? ⟨g, 4, none⟩ = some a4 ∧ w.cell? ⟨g, 5, none⟩ = some a5 ∧ w.cell? ⟨g, 6, none⟩ = some a6 ∧ w.cell? ⟨g, 7, none⟩ = some a7) ∧ (w.frozen? ⟨g, 0, none⟩ = false ∧ w.frozen? ⟨g, 1, none⟩ = false ∧ w.frozen? ⟨g, 2, none⟩ = false ∧ w.frozen? ⟨g, 3, none⟩ = false ∧ w.frozen? ⟨g, 4, none⟩ = false ∧ w.frozen? ⟨g, 5, none⟩ = false ∧ w.frozen? ⟨g, 6, none⟩ = false ∧ w.frozen? ⟨g, 7, none⟩ = false) :=
 ⟨⟨(blk_cell h 0).trans rfl, (blk_cell h 1).trans rfl, (blk_cell h 2).trans rfl, (blk_cell h 3).trans rfl, (blk_cell h 4).trans rfl, (blk_cell h 5).trans rfl, (blk_cell h 6).trans rfl, (blk_cell h 7).trans rfl⟩, ⟨blk_frozen h 0, blk_frozen h 1, blk_frozen h 2, blk_frozen h 3, blk_frozen h 4, blk_frozen h 5, blk_frozen h 6, blk_frozen h 7⟩⟩
def setAK (k : Cp) (v : Int) : Cp := { k with A := v % 256, Z := v % 256 == 0, N := decide (v % 256 > 127) }
def setXK (k : Cp) (v : Int) : Cp := { k with X := v % 256, Z := v % 256 == 0, N := decide (v % 256 > 127) }
theorem seta_ex (k : Cp) (v : Int) : ∃ s1 sz sn, impl_SetA.f k.A k.X k.S k.P k.Z k.N k.C k.I v = some (s1, k.X, k.S, k.P, sz, sn, k.C, k.I) ∧ setAK k v = ⟨s1, k.X, k.S, k.P, sz, sn, k.C, k.I⟩ := by
 refine ⟨_, _, _, ?_, rfl⟩
 unfold impl_SetA.f impl_Signs.f impl_Byte.f
 simp only [Option.bind_some, and255]
theorem setx_ex (k : Cp) (v : Int) : ∃ s1 sz sn, impl_SetX.f k.A k.X k.S k.P k.Z k.N k.C k.I v = some (k.A, s1, k.S, k.P, sz, sn, k.C, k.I) ∧ setXK k v = ⟨k.A, s1, k.S, k.P, sz, sn, k.C, k.I⟩ := by
 refine ⟨_, _, _, ?_, rfl⟩
 unfold impl_SetX.f impl_Signs.f impl_Byte.f
 simp only [Option.bind_some, and255]
/-- A call that changes the processor alone. -/
structure KeptC (w W : World) (c : Nat) : Prop where
 kept : Kept w W (fun j => j = c)
 os : W.os = w.os
 tape : W.tape = w.tape
 out : W.output = w.output
theorem KeptC.of_below {w W : World} {c : Nat} (h : Below w.heap.size w W) : KeptC w W c := ⟨Kept.of_below h _, h.os, h.tape, h.output⟩
theorem KeptC.drew {w W : World} {c : Nat} (h : KeptC w W c) : KeptC w W.drew c := ⟨h.kept.drew, h.os, h.tape, h.out⟩
theorem KeptC.drewN {w W : World} {c : Nat} (h : KeptC w W c) (m : Nat) : KeptC w (W.drewN m) c := ⟨h.kept.drewN m, h.os, h.tape, h.out⟩
theorem KeptC.below {w W W2 : World} {c : Nat} (h : KeptC w W c) (hb : Below W.heap.size W W2) : KeptC w W2 c := ⟨h.kept.below hb, hb.os.trans h.os, hb.tape.trans h.tape, hb.output.trans h.out⟩
theorem kept1 {w W : World} {r : Nat} (h : KeptC w W r) (i : Nat) (u : Value) : KeptC w (W.setCell ⟨r, i, none⟩ u) r := ⟨kept_set h.kept rfl u, h.os, h.tape, h.out⟩
theorem kept8 {w W : World} {r : Nat} (h : KeptC w W r) (u0 u1 u2 u3 u4 u5 u6 u7 : Value) :
  KeptC w ((((((((W.setCell ⟨r, 0, none⟩ u0).setCell ⟨r, 1, none⟩ u1).setCell ⟨r, 2, none⟩ u2).setCell ⟨r, 3, none⟩ u3).setCell ⟨r, 4, none⟩ u4).setCell ⟨r, 5, none⟩ u5).setCell ⟨r, 6, none⟩ u6).setCell ⟨r, 7, none⟩ u7) r :=
 kept1 (kept1 (kept1 (kept1 (kept1 (kept1 (kept1 (kept1 h _ _) _ _) _ _) _ _) _ _) _ _) _ _) _ _
theorem MC.cpuTo {w0 w W : World} {x c : Nat} {rv : Value} {b : Int} {k k' : Cp} {ram : List Int} (h : MC w0 w x c rv b k ram) (hc : W.heap[c]? = some (.cells k'.cells 55 (0, 0))) (hk : KeptC w W c) : MC w0 W x c rv b k' ram :=
 ⟨blk_kept h.mem hk.kept h.ne, hc, Kd.R_mono (Kd.R_kept (Kd.R_types h.row h.cpu (by decide)) hk.kept (fun _ hk => hk.2)) (fun _ hk => hk.1), h.hx, h.hc,
  ⟨hk.os.trans h.below.os, hk.tape.trans h.below.tape, hk.out.trans h.below.output, Nat.le_trans h.below.size hk.kept.1, fun j hj => (hk.kept.2 j (by have := h.below.size; omega) (by have := h.hc; omega)).trans (h.below.block j hj)⟩⟩
def addK (k : Cp) (v : Int) : Cp := { setAK k ((impl_Add8.f k.A v k.C).getD (0, false)).1 with C := ((impl_Add8.f k.A v k.C).getD (0, false)).2 }
def subK (k : Cp) (v : Int) : Cp := { setAK k ((impl_Sub8.f k.A v k.C).getD (0, false)).1 with C := ((impl_Sub8.f k.A v k.C).getD (0, false)).2 }
def cmpK (k : Cp) (v : Int) : Cp := { k with Z := ((impl_Sub8.f k.A v true).getD (0, false)).1 % 256 == 0, N := decide (((impl_Sub8.f k.A v true).getD (0, false)).1 % 256 > 127), C := ((impl_Sub8.f k.A v true).getD (0, false)).2 }
theorem add8_ex (a b : Int) (c : Bool) : ∃ s q, impl_Add8.f a b c = some (s, q) := by
 unfold impl_Add8.f impl_Byte.f impl_flag.f
 cases c <;> exact ⟨_, _, rfl⟩
theorem sub8_ex (a b : Int) (c : Bool) : ∃ s q, impl_Sub8.f a b c = some (s, q) := by
 unfold impl_Sub8.f impl_Byte.f impl_flag.f
 cases c <;> exact ⟨_, _, rfl⟩
theorem signs_ex (a : Int) : ∃ z n, impl_Signs.f a = some (z, n) ∧ (a % 256 == 0) = z ∧ decide (a % 256 > 127) = n := by
 refine ⟨_, _, ?_, rfl, rfl⟩
 unfold impl_Signs.f impl_Byte.f
 simp only [Option.bind_some, and255]
theorem addK_ex (k : Cp) (v : Int) : ∃ sm cy s1 sz sn, impl_Add8.f k.A v k.C = some (sm, cy) ∧ impl_SetA.f k.A k.X k.S k.P k.Z k.N k.C k.I sm = some (s1, k.X, k.S, k.P, sz, sn, k.C, k.I) ∧ addK k v = ⟨s1, k.X, k.S, k.P, sz, sn, cy, k.I⟩ := by
 obtain ⟨sm, cy, h⟩ := add8_ex k.A v k.C
 obtain ⟨s1, sz, sn, hf, ek⟩ := seta_ex k sm
 refine ⟨sm, cy, s1, sz, sn, h, hf, ?_⟩
 unfold addK
 rw [h, Option.getD_some, ek]
theorem subK_ex (k : Cp) (v : Int) : ∃ sm cy s1 sz sn, impl_Sub8.f k.A v k.C = some (sm, cy) ∧ impl_SetA.f k.A k.X k.S k.P k.Z k.N k.C k.I sm = some (s1, k.X, k.S, k.P, sz, sn, k.C, k.I) ∧ subK k v = ⟨s1, k.X, k.S, k.P, sz, sn, cy, k.I⟩ := by
 obtain ⟨sm, cy, h⟩ := sub8_ex k.A v k.C
 obtain ⟨s1, sz, sn, hf, ek⟩ := seta_ex k sm
 refine ⟨sm, cy, s1, sz, sn, h, hf, ?_⟩
 unfold subK
 rw [h, Option.getD_some, ek]
theorem cmpK_ex (k : Cp) (v : Int) : ∃ sm cy sz sn, impl_Sub8.f k.A v true = some (sm, cy) ∧ impl_Signs.f sm = some (sz, sn) ∧ cmpK k v = ⟨k.A, k.X, k.S, k.P, sz, sn, cy, k.I⟩ := by
 obtain ⟨sm, cy, h⟩ := sub8_ex k.A v true
 obtain ⟨sz, sn, hs, e1, e2⟩ := signs_ex sm
 refine ⟨sm, cy, sz, sn, h, hs, ?_⟩
 unfold cmpK
 rw [h, Option.getD_some, e1, e2]
theorem reckon_1 {w : World} {c : Nat} {A X S P : Int} {Z N C I : Bool} (hc : w.heap[c]? = some (.cells #[.int .i64 A, .int .i64 X, .int .i64 S, .int .i64 P, .bool Z, .bool N, .bool C, .bool I] 55 (0, 0))) (arg v : Int) :
  Calls Try.prog 109 #[.pointer (some ⟨c, 0, none⟩), .agg #[.int .i64 1, .int .i64 arg], .int .i64 v] w fun e w' => e = .returned (.bool true) ∧ w'.heap[c]? = some (.cells (setAK (⟨A, X, S, P, Z, N, C, I⟩ : Cp) arg).cells 55 (0, 0)) ∧ KeptC w w' c := by
 obtain ⟨s1, sz, sn, hf, ek⟩ := seta_ex (⟨A, X, S, P, Z, N, C, I⟩ : Cp) arg
 rw [ek]
 clear ek
 have HF := am hf
 clear hf
 have hu38 := Try.underlying55
 have hu68 := Try.underlying51
 have HC0 := am hc
 clear hc
 go_enter Try.func109, Try.ntmps109
 go_wp2_with (first | ((with_reducible refine gd 4 ?_); refine bx (N := 4) (cs := #[.int .i64 1, .int .i64 arg]) (t := 51) ?_; intro g hg w1 hbox hb; have HC := am (blk_below HC0.out hb); have HG := am hbox; have HB1 := am hb; have hb1 : w1.cell? ⟨g, 0, none⟩ = some (.int .i64 1) := (blk_cell hbox 0).trans rfl; have hb2 : w1.cell? ⟨g, 1, none⟩ = some (.int .i64 arg) := (blk_cell hbox 1).trans rfl; clear HC0 hb hbox hg; obtain ⟨⟨y0, y1, y2, y3, y4, y5, y6, y7⟩, ⟨fy0, fy1, fy2, fy3, fy4, fy5, fy6, fy7⟩⟩ := cells8 (HC.out)))
 refine fre_ (n := 9) (e := 7) (g := 0) (T := (true, [([], []), ([], []), ([1], [1]), ([2], [2]), ([], []), ([4], [4]), ([3, 5], [3, 5]), ([0, 0, 1, 2, 3, 4, 5, 6], [0]), ([7, 6, 6, 0, 1, 2, 3, 4, 5, 6], [6, 7])])) (bm 9 127) (bm 9 126) [18, 19, 20, 21, 22, 23, 24] (fun j u w' => match j with
  | 0 => u = .pointer (some ⟨c, 0, none⟩)
  | 1 => u = .pointer (some ⟨c, 0, none⟩)
  | 2 => u = .pointer (some ⟨c, 0, none⟩)
  | 3 => u = .agg #[.int .i64 A, .int .i64 X, .int .i64 S, .int .i64 P, .bool Z, .bool N, .bool C, .bool I]
  | 4 => u = .pointer (some ⟨g, 1, none⟩)
  | 5 => u = .int .i64 arg
  | 6 => u = .agg #[.int .i64 s1, .int .i64 X, .int .i64 S, .int .i64 P, .bool sz, .bool sn, .bool C, .bool I]
  | _ => False)
  (by kernel_rfl) rfl (by kernel_rfl) (by kernel_rfl) (by kernel_rfl) (by kernel_rfl) (fun _ _ _ _ h => h) ?streckon1 ?spreckon1 ?lareckon1 ?enreckon1
 case streckon1 =>
  intro j u W W' h hb
  exact h
 case spreckon1 =>
  intro i hi o ho a W hB hout hneed K hK
  have HBW := am hB
  have hcase : i = 0 ∨ i = 1 ∨ i = 2 ∨ i = 3 ∨ i = 4 ∨ i = 5 ∨ i = 6 := by omega
  clear hB
  rcases hcase with rfl | rfl | rfl | rfl | rfl | rfl | rfl
  ·obtain rfl := oj ho
   have h0 : a.eval (.tmp 0) = .pointer (some ⟨c, 0, none⟩) := hout 0 (by decide)
   have h0' := eval_get h0
   exact va_ (.pointer (some ⟨c, 0, none⟩)) hK rfl
  ·obtain rfl := oj ho
   have h0 : a.eval (.tmp 0) = .pointer (some ⟨c, 0, none⟩) := hout 0 (by decide)
   have h0' := eval_get h0
   exact va_ (.pointer (some ⟨c, 0, none⟩)) hK rfl
  ·obtain rfl := oj ho
   obtain ⟨e1, e1'⟩ := eg (show a.eval (.tmp 19) = _ from hneed 1 (by decide))
   exact va_ (.pointer (some ⟨c, 0, none⟩)) hK rfl
  ·obtain rfl := oj ho
   obtain ⟨e2, e2'⟩ := eg (show a.eval (.tmp 20) = _ from hneed 2 (by decide))
   have hb := blk_below (w := w1.drew) HC.out HBW.out
   obtain ⟨⟨d0, d1, d2, d3, d4, d5, d6, d7⟩, -⟩ := cells8 hb
   exact va_ (.agg #[.int .i64 A, .int .i64 X, .int .i64 S, .int .i64 P, .bool Z, .bool N, .bool C, .bool I]) hK rfl
  ·obtain rfl := oj ho
   have h4 : a.eval (.tmp 4) = .pointer (some ⟨g, 0, none⟩) := hout 4 (by decide)
   have h4' := eval_get h4
   exact va_ (.pointer (some ⟨g, 1, none⟩)) hK rfl
  ·obtain rfl := oj ho
   obtain ⟨e4, e4'⟩ := eg (show a.eval (.tmp 22) = _ from hneed 4 (by decide))
   have hb := blk_below (w := w1.drew) HG.out HBW.out
   have d0 := (blk_cell hb 1).trans rfl
   exact va_ (.int .i64 arg) hK rfl
  ·obtain rfl := oj ho
   obtain ⟨e3, e3'⟩ := eg (show a.eval (.tmp 21) = _ from hneed 3 (by decide))
   obtain ⟨e5, e5'⟩ := eg (show a.eval (.tmp 23) = _ from hneed 5 (by decide))
   refine goes_ Try.func120 (by kernel_rfl) rfl #[.agg #[.int .i64 A, .int .i64 X, .int .i64 S, .int .i64 P, .bool Z, .bool N, .bool C, .bool I], .int .i64 arg] (by rfl) rfl rfl (by simp only [List.map_toArray, List.map_cons, List.map_nil, e3, e5]) ?_
   refine (impl_SetA.calls A X S P Z N C I _ s1 X S P sz sn C I W HF.out).mono ?_
   rintro e w' ⟨rfl, hb⟩
   exact ⟨_, rfl, hK.out _ _ hb rfl⟩
 case lareckon1 =>
  intro o ho a W hout hneed
  obtain rfl := oj ho
  have h0 : a.eval (.tmp 0) = .pointer (some ⟨c, 0, none⟩) := hout 0 (by decide)
  have h0' := eval_get h0
  refine ⟨.pointer (some ⟨c, 0, none⟩), rfl, Or.inl ⟨by rfl, ?_⟩⟩
  intro w'
  go_simp
 intro f vs W2 hB hE
 have HBW := am hB
 clear hB
 have q0 : vs 0 = _ := hE 0 (by decide)
 have q1 : vs 1 = _ := hE 1 (by decide)
 have q2 : vs 2 = _ := hE 2 (by decide)
 have q3 : vs 3 = _ := hE 3 (by decide)
 have q4 : vs 4 = _ := hE 4 (by decide)
 have q5 : vs 5 = _ := hE 5 (by decide)
 have q6 : vs 6 = _ := hE 6 (by decide)
 show wpAnyLast _ _ _ _ _ _ (f + 2) _ (putAll _ [(18, vs 0), (19, vs 1), (20, vs 2), (21, vs 3), (22, vs 4), (23, vs 5), (24, vs 6)]) W2
 rw [q0, q1, q2, q3, q4, q5, q6]
 clear q0 q1 q2 q3 q4 q5 q6 hE
 refine norm_ (a' := ?_) ?_ ?_
 rotate_left
 ·simp only [putAll, Act.put, List.setIfInBounds_toArray, List.set_cons_zero, List.set_cons_succ]
  rfl
 refine pv_ 7 (some 25) (bm 9 255) ?_
 refine ov_ 8 none (bm 9 511) (fun K hK => ?_)
 refine skip_ (w1 := ?_) (by rfl) rfl ?_ ?_
 rotate_left
 ·skip
  have hcW := blk_below (w := w1.drew) HC.out HBW.out
  obtain ⟨⟨r0, r1, r2, r3, r4, r5, r6, r7⟩, ⟨fr0, fr1, fr2, fr3, fr4, fr5, fr6, fr7⟩⟩ := cells8 (hcW)
  go_simp
  rfl
 refine hK.out _ _ trivial (fun _ => ?_)
 clear hK K
 refine done_ (by kernel_rfl) ?_
 go_wp2
 go_ret
 exact ⟨rfl, put8 (blk_below (w := w1.drew) HC.out HBW.out) _ _ _ _ _ _ _ _, kept8 (((KeptC.of_below HB1.out).drew).below HBW.out) _ _ _ _ _ _ _ _⟩
theorem reckon_2 {w : World} {c : Nat} {A X S P : Int} {Z N C I : Bool} (hc : w.heap[c]? = some (.cells #[.int .i64 A, .int .i64 X, .int .i64 S, .int .i64 P, .bool Z, .bool N, .bool C, .bool I] 55 (0, 0))) (arg v : Int) :
  Calls Try.prog 109 #[.pointer (some ⟨c, 0, none⟩), .agg #[.int .i64 2, .int .i64 arg], .int .i64 v] w fun e w' => e = .returned (.bool true) ∧ w'.heap[c]? = some (.cells (setAK (⟨A, X, S, P, Z, N, C, I⟩ : Cp) v).cells 55 (0, 0)) ∧ KeptC w w' c := by
 obtain ⟨s1, sz, sn, hf, ek⟩ := seta_ex (⟨A, X, S, P, Z, N, C, I⟩ : Cp) v
 rw [ek]
 clear ek
 have HF := am hf
 clear hf
 have hu38 := Try.underlying55
 have hu68 := Try.underlying51
 have HC0 := am hc
 clear hc
 go_enter Try.func109, Try.ntmps109
 go_wp2_with (first | ((with_reducible refine gd 4 ?_); refine bx (N := 4) (cs := #[.int .i64 2, .int .i64 arg]) (t := 51) ?_; intro g hg w1 hbox hb; have HC := am (blk_below HC0.out hb); have HG := am hbox; have HB1 := am hb; have hb1 : w1.cell? ⟨g, 0, none⟩ = some (.int .i64 2) := (blk_cell hbox 0).trans rfl; have hb2 : w1.cell? ⟨g, 1, none⟩ = some (.int .i64 arg) := (blk_cell hbox 1).trans rfl; clear HC0 hb hbox hg; obtain ⟨⟨y0, y1, y2, y3, y4, y5, y6, y7⟩, ⟨fy0, fy1, fy2, fy3, fy4, fy5, fy6, fy7⟩⟩ := cells8 (HC.out)) | (go_at_call 120; refine (impl_SetA.calls A X S P Z N C I _ s1 X S P sz sn C I _ HF.out).mono ?_; rintro e w2 ⟨rfl, hb⟩; have HC2 := am (blk_below HC.out hb); have HB2 := am hb; clear hb; obtain ⟨⟨r0, r1, r2, r3, r4, r5, r6, r7⟩, ⟨fr0, fr1, fr2, fr3, fr4, fr5, fr6, fr7⟩⟩ := cells8 (HC2.out)))
 go_ret
 exact ⟨rfl, put8 HC2.out _ _ _ _ _ _ _ _, kept8 ((KeptC.of_below HB1.out).below HB2.out) _ _ _ _ _ _ _ _⟩
theorem reckon_14 {w : World} {c : Nat} {A X S P : Int} {Z N C I : Bool} (hc : w.heap[c]? = some (.cells #[.int .i64 A, .int .i64 X, .int .i64 S, .int .i64 P, .bool Z, .bool N, .bool C, .bool I] 55 (0, 0))) (arg v : Int) :
  Calls Try.prog 109 #[.pointer (some ⟨c, 0, none⟩), .agg #[.int .i64 14, .int .i64 arg], .int .i64 v] w fun e w' => e = .returned (.bool true) ∧ w'.heap[c]? = some (.cells (setAK (⟨A, X, S, P, Z, N, C, I⟩ : Cp) v).cells 55 (0, 0)) ∧ KeptC w w' c := by
 obtain ⟨s1, sz, sn, hf, ek⟩ := seta_ex (⟨A, X, S, P, Z, N, C, I⟩ : Cp) v
 rw [ek]
 clear ek
 have HF := am hf
 clear hf
 have hu38 := Try.underlying55
 have hu68 := Try.underlying51
 have HC0 := am hc
 clear hc
 go_enter Try.func109, Try.ntmps109
 go_wp2_with (first | ((with_reducible refine gd 4 ?_); refine bx (N := 4) (cs := #[.int .i64 14, .int .i64 arg]) (t := 51) ?_; intro g hg w1 hbox hb; have HC := am (blk_below HC0.out hb); have HG := am hbox; have HB1 := am hb; have hb1 : w1.cell? ⟨g, 0, none⟩ = some (.int .i64 14) := (blk_cell hbox 0).trans rfl; have hb2 : w1.cell? ⟨g, 1, none⟩ = some (.int .i64 arg) := (blk_cell hbox 1).trans rfl; clear HC0 hb hbox hg; obtain ⟨⟨y0, y1, y2, y3, y4, y5, y6, y7⟩, ⟨fy0, fy1, fy2, fy3, fy4, fy5, fy6, fy7⟩⟩ := cells8 (HC.out)) | (go_at_call 120; refine (impl_SetA.calls A X S P Z N C I _ s1 X S P sz sn C I _ HF.out).mono ?_; rintro e w2 ⟨rfl, hb⟩; have HC2 := am (blk_below HC.out hb); have HB2 := am hb; clear hb; obtain ⟨⟨r0, r1, r2, r3, r4, r5, r6, r7⟩, ⟨fr0, fr1, fr2, fr3, fr4, fr5, fr6, fr7⟩⟩ := cells8 (HC2.out)))
 go_ret
 exact ⟨rfl, put8 HC2.out _ _ _ _ _ _ _ _, kept8 ((KeptC.of_below HB1.out).below HB2.out) _ _ _ _ _ _ _ _⟩
theorem reckon_6 {w : World} {c : Nat} {A X S P : Int} {Z N C I : Bool} (hc : w.heap[c]? = some (.cells #[.int .i64 A, .int .i64 X, .int .i64 S, .int .i64 P, .bool Z, .bool N, .bool C, .bool I] 55 (0, 0))) (arg v : Int) :
  Calls Try.prog 109 #[.pointer (some ⟨c, 0, none⟩), .agg #[.int .i64 6, .int .i64 arg], .int .i64 v] w fun e w' => e = .returned (.bool true) ∧ w'.heap[c]? = some (.cells (setAK (⟨A, X, S, P, Z, N, C, I⟩ : Cp) (Go.bits .and .i64 A arg)).cells 55 (0, 0)) ∧ KeptC w w' c := by
 obtain ⟨s1, sz, sn, hf, ek⟩ := seta_ex (⟨A, X, S, P, Z, N, C, I⟩ : Cp) (Go.bits .and .i64 A arg)
 rw [ek]
 clear ek
 have HF := am hf
 clear hf
 have hu38 := Try.underlying55
 have hu68 := Try.underlying51
 have HC0 := am hc
 clear hc
 go_enter Try.func109, Try.ntmps109
 go_wp2_with (first | ((with_reducible refine gd 4 ?_); refine bx (N := 4) (cs := #[.int .i64 6, .int .i64 arg]) (t := 51) ?_; intro g hg w1 hbox hb; have HC := am (blk_below HC0.out hb); have HG := am hbox; have HB1 := am hb; have hb1 : w1.cell? ⟨g, 0, none⟩ = some (.int .i64 6) := (blk_cell hbox 0).trans rfl; have hb2 : w1.cell? ⟨g, 1, none⟩ = some (.int .i64 arg) := (blk_cell hbox 1).trans rfl; clear HC0 hb hbox hg; obtain ⟨⟨y0, y1, y2, y3, y4, y5, y6, y7⟩, ⟨fy0, fy1, fy2, fy3, fy4, fy5, fy6, fy7⟩⟩ := cells8 (HC.out)))
 refine fre_ (n := 14) (e := 12) (g := 0) (T := (true, [([], []), ([], []), ([1], [1]), ([2], [2]), ([], []), ([4], [4]), ([5], [5]), ([6], [6]), ([], []), ([8], [8]), ([7, 9], [7, 9]), ([3, 10], [3, 10]), ([0, 0, 1, 2, 3, 4, 5, 6, 7, 8, 9, 10, 11], [0]), ([12, 11, 11, 0, 1, 2, 3, 4, 5, 6, 7, 8, 9, 10, 11], [11, 12])])) (bm 14 4095) (bm 14 4094) [98, 99, 100, 101, 102, 103, 104, 105, 106, 107, 108, 109] (fun j u w' => match j with
  | 0 => u = .pointer (some ⟨c, 0, none⟩)
  | 1 => u = .pointer (some ⟨c, 0, none⟩)
  | 2 => u = .pointer (some ⟨c, 0, none⟩)
  | 3 => u = .agg #[.int .i64 A, .int .i64 X, .int .i64 S, .int .i64 P, .bool Z, .bool N, .bool C, .bool I]
  | 4 => u = .pointer (some ⟨c, 0, none⟩)
  | 5 => u = .pointer (some ⟨c, 0, none⟩)
  | 6 => u = .pointer (some ⟨c, 0, none⟩)
  | 7 => u = .int .i64 A
  | 8 => u = .pointer (some ⟨g, 1, none⟩)
  | 9 => u = .int .i64 arg
  | 10 => u = .int .i64 (Go.bits .and .i64 A arg)
  | 11 => u = .agg #[.int .i64 s1, .int .i64 X, .int .i64 S, .int .i64 P, .bool sz, .bool sn, .bool C, .bool I]
  | _ => False)
  (by kernel_rfl) rfl (by kernel_rfl) (by kernel_rfl) (by kernel_rfl) (by kernel_rfl) (fun _ _ _ _ h => h) ?streckon6 ?spreckon6 ?lareckon6 ?enreckon6
 case streckon6 =>
  intro j u W W' h hb
  exact h
 case spreckon6 =>
  intro i hi o ho a W hB hout hneed K hK
  have HBW := am hB
  have hcase : i = 0 ∨ i = 1 ∨ i = 2 ∨ i = 3 ∨ i = 4 ∨ i = 5 ∨ i = 6 ∨ i = 7 ∨ i = 8 ∨ i = 9 ∨ i = 10 ∨ i = 11 := by omega
  clear hB
  rcases hcase with rfl | rfl | rfl | rfl | rfl | rfl | rfl | rfl | rfl | rfl | rfl | rfl
  ·obtain rfl := oj ho
   have h0 : a.eval (.tmp 0) = .pointer (some ⟨c, 0, none⟩) := hout 0 (by decide)
   have h0' := eval_get h0
   exact va_ (.pointer (some ⟨c, 0, none⟩)) hK rfl
  ·obtain rfl := oj ho
   have h0 : a.eval (.tmp 0) = .pointer (some ⟨c, 0, none⟩) := hout 0 (by decide)
   have h0' := eval_get h0
   exact va_ (.pointer (some ⟨c, 0, none⟩)) hK rfl
  ·obtain rfl := oj ho
   obtain ⟨e1, e1'⟩ := eg (show a.eval (.tmp 99) = _ from hneed 1 (by decide))
   exact va_ (.pointer (some ⟨c, 0, none⟩)) hK rfl
  ·obtain rfl := oj ho
   obtain ⟨e2, e2'⟩ := eg (show a.eval (.tmp 100) = _ from hneed 2 (by decide))
   have hb := blk_below (w := w1.drew) HC.out HBW.out
   obtain ⟨⟨d0, d1, d2, d3, d4, d5, d6, d7⟩, -⟩ := cells8 hb
   exact va_ (.agg #[.int .i64 A, .int .i64 X, .int .i64 S, .int .i64 P, .bool Z, .bool N, .bool C, .bool I]) hK rfl
  ·obtain rfl := oj ho
   have h0 : a.eval (.tmp 0) = .pointer (some ⟨c, 0, none⟩) := hout 0 (by decide)
   have h0' := eval_get h0
   exact va_ (.pointer (some ⟨c, 0, none⟩)) hK rfl
  ·obtain rfl := oj ho
   obtain ⟨e4, e4'⟩ := eg (show a.eval (.tmp 102) = _ from hneed 4 (by decide))
   exact va_ (.pointer (some ⟨c, 0, none⟩)) hK rfl
  ·obtain rfl := oj ho
   obtain ⟨e5, e5'⟩ := eg (show a.eval (.tmp 103) = _ from hneed 5 (by decide))
   exact va_ (.pointer (some ⟨c, 0, none⟩)) hK rfl
  ·obtain rfl := oj ho
   obtain ⟨e6, e6'⟩ := eg (show a.eval (.tmp 104) = _ from hneed 6 (by decide))
   have hb := blk_below (w := w1.drew) HC.out HBW.out
   have d0 := (blk_cell hb 0).trans rfl
   exact va_ (.int .i64 A) hK rfl
  ·obtain rfl := oj ho
   have h4 : a.eval (.tmp 4) = .pointer (some ⟨g, 0, none⟩) := hout 4 (by decide)
   have h4' := eval_get h4
   exact va_ (.pointer (some ⟨g, 1, none⟩)) hK rfl
  ·obtain rfl := oj ho
   obtain ⟨e8, e8'⟩ := eg (show a.eval (.tmp 106) = _ from hneed 8 (by decide))
   have hb := blk_below (w := w1.drew) HG.out HBW.out
   have d0 := (blk_cell hb 1).trans rfl
   exact va_ (.int .i64 arg) hK rfl
  ·obtain rfl := oj ho
   obtain ⟨e7, e7'⟩ := eg (show a.eval (.tmp 105) = _ from hneed 7 (by decide))
   obtain ⟨e9, e9'⟩ := eg (show a.eval (.tmp 107) = _ from hneed 9 (by decide))
   exact va_ (.int .i64 (Go.bits .and .i64 A arg)) hK rfl
  ·obtain rfl := oj ho
   obtain ⟨e3, e3'⟩ := eg (show a.eval (.tmp 101) = _ from hneed 3 (by decide))
   obtain ⟨e10, e10'⟩ := eg (show a.eval (.tmp 108) = _ from hneed 10 (by decide))
   refine goes_ Try.func120 (by kernel_rfl) rfl #[.agg #[.int .i64 A, .int .i64 X, .int .i64 S, .int .i64 P, .bool Z, .bool N, .bool C, .bool I], .int .i64 (Go.bits .and .i64 A arg)] (by rfl) rfl rfl (by simp only [List.map_toArray, List.map_cons, List.map_nil, e3, e10]) ?_
   refine (impl_SetA.calls A X S P Z N C I _ s1 X S P sz sn C I W HF.out).mono ?_
   rintro e w' ⟨rfl, hb⟩
   exact ⟨_, rfl, hK.out _ _ hb rfl⟩
 case lareckon6 =>
  intro o ho a W hout hneed
  obtain rfl := oj ho
  have h0 : a.eval (.tmp 0) = .pointer (some ⟨c, 0, none⟩) := hout 0 (by decide)
  have h0' := eval_get h0
  refine ⟨.pointer (some ⟨c, 0, none⟩), rfl, Or.inl ⟨by rfl, ?_⟩⟩
  intro w'
  go_simp
 intro f vs W2 hB hE
 have HBW := am hB
 clear hB
 have q0 : vs 0 = _ := hE 0 (by decide)
 have q1 : vs 1 = _ := hE 1 (by decide)
 have q2 : vs 2 = _ := hE 2 (by decide)
 have q3 : vs 3 = _ := hE 3 (by decide)
 have q4 : vs 4 = _ := hE 4 (by decide)
 have q5 : vs 5 = _ := hE 5 (by decide)
 have q6 : vs 6 = _ := hE 6 (by decide)
 have q7 : vs 7 = _ := hE 7 (by decide)
 have q8 : vs 8 = _ := hE 8 (by decide)
 have q9 : vs 9 = _ := hE 9 (by decide)
 have q10 : vs 10 = _ := hE 10 (by decide)
 have q11 : vs 11 = _ := hE 11 (by decide)
 show wpAnyLast _ _ _ _ _ _ (f + 2) _ (putAll _ [(98, vs 0), (99, vs 1), (100, vs 2), (101, vs 3), (102, vs 4), (103, vs 5), (104, vs 6), (105, vs 7), (106, vs 8), (107, vs 9), (108, vs 10), (109, vs 11)]) W2
 rw [q0, q1, q2, q3, q4, q5, q6, q7, q8, q9, q10, q11]
 clear q0 q1 q2 q3 q4 q5 q6 q7 q8 q9 q10 q11 hE
 refine norm_ (a' := ?_) ?_ ?_
 rotate_left
 ·simp only [putAll, Act.put, List.setIfInBounds_toArray, List.set_cons_zero, List.set_cons_succ]
  rfl
 refine pv_ 12 (some 110) (bm 14 8191) ?_
 refine ov_ 13 none (bm 14 16383) (fun K hK => ?_)
 refine skip_ (w1 := ?_) (by rfl) rfl ?_ ?_
 rotate_left
 ·skip
  have hcW := blk_below (w := w1.drew) HC.out HBW.out
  obtain ⟨⟨r0, r1, r2, r3, r4, r5, r6, r7⟩, ⟨fr0, fr1, fr2, fr3, fr4, fr5, fr6, fr7⟩⟩ := cells8 (hcW)
  go_simp
  rfl
 refine hK.out _ _ trivial (fun _ => ?_)
 clear hK K
 refine done_ (by kernel_rfl) ?_
 go_wp2
 go_ret
 exact ⟨rfl, put8 (blk_below (w := w1.drew) HC.out HBW.out) _ _ _ _ _ _ _ _, kept8 (((KeptC.of_below HB1.out).drew).below HBW.out) _ _ _ _ _ _ _ _⟩
theorem reckon_7 {w : World} {c : Nat} {A X S P : Int} {Z N C I : Bool} (hc : w.heap[c]? = some (.cells #[.int .i64 A, .int .i64 X, .int .i64 S, .int .i64 P, .bool Z, .bool N, .bool C, .bool I] 55 (0, 0))) (arg v : Int) :
  Calls Try.prog 109 #[.pointer (some ⟨c, 0, none⟩), .agg #[.int .i64 7, .int .i64 arg], .int .i64 v] w fun e w' => e = .returned (.bool true) ∧ w'.heap[c]? = some (.cells (setAK (⟨A, X, S, P, Z, N, C, I⟩ : Cp) (Go.bits .or .i64 A arg)).cells 55 (0, 0)) ∧ KeptC w w' c := by
 obtain ⟨s1, sz, sn, hf, ek⟩ := seta_ex (⟨A, X, S, P, Z, N, C, I⟩ : Cp) (Go.bits .or .i64 A arg)
 rw [ek]
 clear ek
 have HF := am hf
 clear hf
 have hu38 := Try.underlying55
 have hu68 := Try.underlying51
 have HC0 := am hc
 clear hc
 go_enter Try.func109, Try.ntmps109
 go_wp2_with (first | ((with_reducible refine gd 4 ?_); refine bx (N := 4) (cs := #[.int .i64 7, .int .i64 arg]) (t := 51) ?_; intro g hg w1 hbox hb; have HC := am (blk_below HC0.out hb); have HG := am hbox; have HB1 := am hb; have hb1 : w1.cell? ⟨g, 0, none⟩ = some (.int .i64 7) := (blk_cell hbox 0).trans rfl; have hb2 : w1.cell? ⟨g, 1, none⟩ = some (.int .i64 arg) := (blk_cell hbox 1).trans rfl; clear HC0 hb hbox hg; obtain ⟨⟨y0, y1, y2, y3, y4, y5, y6, y7⟩, ⟨fy0, fy1, fy2, fy3, fy4, fy5, fy6, fy7⟩⟩ := cells8 (HC.out)))
 refine fre_ (n := 14) (e := 12) (g := 0) (T := (true, [([], []), ([], []), ([1], [1]), ([2], [2]), ([], []), ([4], [4]), ([5], [5]), ([6], [6]), ([], []), ([8], [8]), ([7, 9], [7, 9]), ([3, 10], [3, 10]), ([0, 0, 1, 2, 3, 4, 5, 6, 7, 8, 9, 10, 11], [0]), ([12, 11, 11, 0, 1, 2, 3, 4, 5, 6, 7, 8, 9, 10, 11], [11, 12])])) (bm 14 4095) (bm 14 4094) [113, 114, 115, 116, 117, 118, 119, 120, 121, 122, 123, 124] (fun j u w' => match j with
  | 0 => u = .pointer (some ⟨c, 0, none⟩)
  | 1 => u = .pointer (some ⟨c, 0, none⟩)
  | 2 => u = .pointer (some ⟨c, 0, none⟩)
  | 3 => u = .agg #[.int .i64 A, .int .i64 X, .int .i64 S, .int .i64 P, .bool Z, .bool N, .bool C, .bool I]
  | 4 => u = .pointer (some ⟨c, 0, none⟩)
  | 5 => u = .pointer (some ⟨c, 0, none⟩)
  | 6 => u = .pointer (some ⟨c, 0, none⟩)
  | 7 => u = .int .i64 A
  | 8 => u = .pointer (some ⟨g, 1, none⟩)
  | 9 => u = .int .i64 arg
  | 10 => u = .int .i64 (Go.bits .or .i64 A arg)
  | 11 => u = .agg #[.int .i64 s1, .int .i64 X, .int .i64 S, .int .i64 P, .bool sz, .bool sn, .bool C, .bool I]
  | _ => False)
  (by kernel_rfl) rfl (by kernel_rfl) (by kernel_rfl) (by kernel_rfl) (by kernel_rfl) (fun _ _ _ _ h => h) ?streckon7 ?spreckon7 ?lareckon7 ?enreckon7
 case streckon7 =>
  intro j u W W' h hb
  exact h
 case spreckon7 =>
  intro i hi o ho a W hB hout hneed K hK
  have HBW := am hB
  have hcase : i = 0 ∨ i = 1 ∨ i = 2 ∨ i = 3 ∨ i = 4 ∨ i = 5 ∨ i = 6 ∨ i = 7 ∨ i = 8 ∨ i = 9 ∨ i = 10 ∨ i = 11 := by omega
  clear hB
  rcases hcase with rfl | rfl | rfl | rfl | rfl | rfl | rfl | rfl | rfl | rfl | rfl | rfl
  ·obtain rfl := oj ho
   have h0 : a.eval (.tmp 0) = .pointer (some ⟨c, 0, none⟩) := hout 0 (by decide)
   have h0' := eval_get h0
   exact va_ (.pointer (some ⟨c, 0, none⟩)) hK rfl
  ·obtain rfl := oj ho
   have h0 : a.eval (.tmp 0) = .pointer (some ⟨c, 0, none⟩) := hout 0 (by decide)
   have h0' := eval_get h0
   exact va_ (.pointer (some ⟨c, 0, none⟩)) hK rfl
  ·obtain rfl := oj ho
   obtain ⟨e1, e1'⟩ := eg (show a.eval (.tmp 114) = _ from hneed 1 (by decide))
   exact va_ (.pointer (some ⟨c, 0, none⟩)) hK rfl
  ·obtain rfl := oj ho
   obtain ⟨e2, e2'⟩ := eg (show a.eval (.tmp 115) = _ from hneed 2 (by decide))
   have hb := blk_below (w := w1.drew) HC.out HBW.out
   obtain ⟨⟨d0, d1, d2, d3, d4, d5, d6, d7⟩, -⟩ := cells8 hb
   exact va_ (.agg #[.int .i64 A, .int .i64 X, .int .i64 S, .int .i64 P, .bool Z, .bool N, .bool C, .bool I]) hK rfl
  ·obtain rfl := oj ho
   have h0 : a.eval (.tmp 0) = .pointer (some ⟨c, 0, none⟩) := hout 0 (by decide)
   have h0' := eval_get h0
   exact va_ (.pointer (some ⟨c, 0, none⟩)) hK rfl
  ·obtain rfl := oj ho
   obtain ⟨e4, e4'⟩ := eg (show a.eval (.tmp 117) = _ from hneed 4 (by decide))
   exact va_ (.pointer (some ⟨c, 0, none⟩)) hK rfl
  ·obtain rfl := oj ho
   obtain ⟨e5, e5'⟩ := eg (show a.eval (.tmp 118) = _ from hneed 5 (by decide))
   exact va_ (.pointer (some ⟨c, 0, none⟩)) hK rfl
  ·obtain rfl := oj ho
   obtain ⟨e6, e6'⟩ := eg (show a.eval (.tmp 119) = _ from hneed 6 (by decide))
   have hb := blk_below (w := w1.drew) HC.out HBW.out
   have d0 := (blk_cell hb 0).trans rfl
   exact va_ (.int .i64 A) hK rfl
  ·obtain rfl := oj ho
   have h4 : a.eval (.tmp 4) = .pointer (some ⟨g, 0, none⟩) := hout 4 (by decide)
   have h4' := eval_get h4
   exact va_ (.pointer (some ⟨g, 1, none⟩)) hK rfl
  ·obtain rfl := oj ho
   obtain ⟨e8, e8'⟩ := eg (show a.eval (.tmp 121) = _ from hneed 8 (by decide))
   have hb := blk_below (w := w1.drew) HG.out HBW.out
   have d0 := (blk_cell hb 1).trans rfl
   exact va_ (.int .i64 arg) hK rfl
  ·obtain rfl := oj ho
   obtain ⟨e7, e7'⟩ := eg (show a.eval (.tmp 120) = _ from hneed 7 (by decide))
   obtain ⟨e9, e9'⟩ := eg (show a.eval (.tmp 122) = _ from hneed 9 (by decide))
   exact va_ (.int .i64 (Go.bits .or .i64 A arg)) hK rfl
  ·obtain rfl := oj ho
   obtain ⟨e3, e3'⟩ := eg (show a.eval (.tmp 116) = _ from hneed 3 (by decide))
   obtain ⟨e10, e10'⟩ := eg (show a.eval (.tmp 123) = _ from hneed 10 (by decide))
   refine goes_ Try.func120 (by kernel_rfl) rfl #[.agg #[.int .i64 A, .int .i64 X, .int .i64 S, .int .i64 P, .bool Z, .bool N, .bool C, .bool I], .int .i64 (Go.bits .or .i64 A arg)] (by rfl) rfl rfl (by simp only [List.map_toArray, List.map_cons, List.map_nil, e3, e10]) ?_
   refine (impl_SetA.calls A X S P Z N C I _ s1 X S P sz sn C I W HF.out).mono ?_
   rintro e w' ⟨rfl, hb⟩
   exact ⟨_, rfl, hK.out _ _ hb rfl⟩
 case lareckon7 =>
  intro o ho a W hout hneed
  obtain rfl := oj ho
  have h0 : a.eval (.tmp 0) = .pointer (some ⟨c, 0, none⟩) := hout 0 (by decide)
  have h0' := eval_get h0
  refine ⟨.pointer (some ⟨c, 0, none⟩), rfl, Or.inl ⟨by rfl, ?_⟩⟩
  intro w'
  go_simp
 intro f vs W2 hB hE
 have HBW := am hB
 clear hB
 have q0 : vs 0 = _ := hE 0 (by decide)
 have q1 : vs 1 = _ := hE 1 (by decide)
 have q2 : vs 2 = _ := hE 2 (by decide)
 have q3 : vs 3 = _ := hE 3 (by decide)
 have q4 : vs 4 = _ := hE 4 (by decide)
 have q5 : vs 5 = _ := hE 5 (by decide)
 have q6 : vs 6 = _ := hE 6 (by decide)
 have q7 : vs 7 = _ := hE 7 (by decide)
 have q8 : vs 8 = _ := hE 8 (by decide)
 have q9 : vs 9 = _ := hE 9 (by decide)
 have q10 : vs 10 = _ := hE 10 (by decide)
 have q11 : vs 11 = _ := hE 11 (by decide)
 show wpAnyLast _ _ _ _ _ _ (f + 2) _ (putAll _ [(113, vs 0), (114, vs 1), (115, vs 2), (116, vs 3), (117, vs 4), (118, vs 5), (119, vs 6), (120, vs 7), (121, vs 8), (122, vs 9), (123, vs 10), (124, vs 11)]) W2
 rw [q0, q1, q2, q3, q4, q5, q6, q7, q8, q9, q10, q11]
 clear q0 q1 q2 q3 q4 q5 q6 q7 q8 q9 q10 q11 hE
 refine norm_ (a' := ?_) ?_ ?_
 rotate_left
 ·simp only [putAll, Act.put, List.setIfInBounds_toArray, List.set_cons_zero, List.set_cons_succ]
  rfl
 refine pv_ 12 (some 125) (bm 14 8191) ?_
 refine ov_ 13 none (bm 14 16383) (fun K hK => ?_)
 refine skip_ (w1 := ?_) (by rfl) rfl ?_ ?_
 rotate_left
 ·skip
  have hcW := blk_below (w := w1.drew) HC.out HBW.out
  obtain ⟨⟨r0, r1, r2, r3, r4, r5, r6, r7⟩, ⟨fr0, fr1, fr2, fr3, fr4, fr5, fr6, fr7⟩⟩ := cells8 (hcW)
  go_simp
  rfl
 refine hK.out _ _ trivial (fun _ => ?_)
 clear hK K
 refine done_ (by kernel_rfl) ?_
 go_wp2
 go_ret
 exact ⟨rfl, put8 (blk_below (w := w1.drew) HC.out HBW.out) _ _ _ _ _ _ _ _, kept8 (((KeptC.of_below HB1.out).drew).below HBW.out) _ _ _ _ _ _ _ _⟩
theorem reckon_8 {w : World} {c : Nat} {A X S P : Int} {Z N C I : Bool} (hc : w.heap[c]? = some (.cells #[.int .i64 A, .int .i64 X, .int .i64 S, .int .i64 P, .bool Z, .bool N, .bool C, .bool I] 55 (0, 0))) (arg v : Int) :
  Calls Try.prog 109 #[.pointer (some ⟨c, 0, none⟩), .agg #[.int .i64 8, .int .i64 arg], .int .i64 v] w fun e w' => e = .returned (.bool true) ∧ w'.heap[c]? = some (.cells (setAK (⟨A, X, S, P, Z, N, C, I⟩ : Cp) (Go.bits .xor .i64 A arg)).cells 55 (0, 0)) ∧ KeptC w w' c := by
 obtain ⟨s1, sz, sn, hf, ek⟩ := seta_ex (⟨A, X, S, P, Z, N, C, I⟩ : Cp) (Go.bits .xor .i64 A arg)
 rw [ek]
 clear ek
 have HF := am hf
 clear hf
 have hu38 := Try.underlying55
 have hu68 := Try.underlying51
 have HC0 := am hc
 clear hc
 go_enter Try.func109, Try.ntmps109
 go_wp2_with (first | ((with_reducible refine gd 4 ?_); refine bx (N := 4) (cs := #[.int .i64 8, .int .i64 arg]) (t := 51) ?_; intro g hg w1 hbox hb; have HC := am (blk_below HC0.out hb); have HG := am hbox; have HB1 := am hb; have hb1 : w1.cell? ⟨g, 0, none⟩ = some (.int .i64 8) := (blk_cell hbox 0).trans rfl; have hb2 : w1.cell? ⟨g, 1, none⟩ = some (.int .i64 arg) := (blk_cell hbox 1).trans rfl; clear HC0 hb hbox hg; obtain ⟨⟨y0, y1, y2, y3, y4, y5, y6, y7⟩, ⟨fy0, fy1, fy2, fy3, fy4, fy5, fy6, fy7⟩⟩ := cells8 (HC.out)))
 refine fre_ (n := 14) (e := 12) (g := 0) (T := (true, [([], []), ([], []), ([1], [1]), ([2], [2]), ([], []), ([4], [4]), ([5], [5]), ([6], [6]), ([], []), ([8], [8]), ([7, 9], [7, 9]), ([3, 10], [3, 10]), ([0, 0, 1, 2, 3, 4, 5, 6, 7, 8, 9, 10, 11], [0]), ([12, 11, 11, 0, 1, 2, 3, 4, 5, 6, 7, 8, 9, 10, 11], [11, 12])])) (bm 14 4095) (bm 14 4094) [128, 129, 130, 131, 132, 133, 134, 135, 136, 137, 138, 139] (fun j u w' => match j with
  | 0 => u = .pointer (some ⟨c, 0, none⟩)
  | 1 => u = .pointer (some ⟨c, 0, none⟩)
  | 2 => u = .pointer (some ⟨c, 0, none⟩)
  | 3 => u = .agg #[.int .i64 A, .int .i64 X, .int .i64 S, .int .i64 P, .bool Z, .bool N, .bool C, .bool I]
  | 4 => u = .pointer (some ⟨c, 0, none⟩)
  | 5 => u = .pointer (some ⟨c, 0, none⟩)
  | 6 => u = .pointer (some ⟨c, 0, none⟩)
  | 7 => u = .int .i64 A
  | 8 => u = .pointer (some ⟨g, 1, none⟩)
  | 9 => u = .int .i64 arg
  | 10 => u = .int .i64 (Go.bits .xor .i64 A arg)
  | 11 => u = .agg #[.int .i64 s1, .int .i64 X, .int .i64 S, .int .i64 P, .bool sz, .bool sn, .bool C, .bool I]
  | _ => False)
  (by kernel_rfl) rfl (by kernel_rfl) (by kernel_rfl) (by kernel_rfl) (by kernel_rfl) (fun _ _ _ _ h => h) ?streckon8 ?spreckon8 ?lareckon8 ?enreckon8
 case streckon8 =>
  intro j u W W' h hb
  exact h
 case spreckon8 =>
  intro i hi o ho a W hB hout hneed K hK
  have HBW := am hB
  have hcase : i = 0 ∨ i = 1 ∨ i = 2 ∨ i = 3 ∨ i = 4 ∨ i = 5 ∨ i = 6 ∨ i = 7 ∨ i = 8 ∨ i = 9 ∨ i = 10 ∨ i = 11 := by omega
  clear hB
  rcases hcase with rfl | rfl | rfl | rfl | rfl | rfl | rfl | rfl | rfl | rfl | rfl | rfl
  ·obtain rfl := oj ho
   have h0 : a.eval (.tmp 0) = .pointer (some ⟨c, 0, none⟩) := hout 0 (by decide)
   have h0' := eval_get h0
   exact va_ (.pointer (some ⟨c, 0, none⟩)) hK rfl
  ·obtain rfl := oj ho
   have h0 : a.eval (.tmp 0) = .pointer (some ⟨c, 0, none⟩) := hout 0 (by decide)
   have h0' := eval_get h0
   exact va_ (.pointer (some ⟨c, 0, none⟩)) hK rfl
  ·obtain rfl := oj ho
   obtain ⟨e1, e1'⟩ := eg (show a.eval (.tmp 129) = _ from hneed 1 (by decide))
   exact va_ (.pointer (some ⟨c, 0, none⟩)) hK rfl
  ·obtain rfl := oj ho
   obtain ⟨e2, e2'⟩ := eg (show a.eval (.tmp 130) = _ from hneed 2 (by decide))
   have hb := blk_below (w := w1.drew) HC.out HBW.out
   obtain ⟨⟨d0, d1, d2, d3, d4, d5, d6, d7⟩, -⟩ := cells8 hb
   exact va_ (.agg #[.int .i64 A, .int .i64 X, .int .i64 S, .int .i64 P, .bool Z, .bool N, .bool C, .bool I]) hK rfl
  ·obtain rfl := oj ho
   have h0 : a.eval (.tmp 0) = .pointer (some ⟨c, 0, none⟩) := hout 0 (by decide)
   have h0' := eval_get h0
   exact va_ (.pointer (some ⟨c, 0, none⟩)) hK rfl
  ·obtain rfl := oj ho
   obtain ⟨e4, e4'⟩ := eg (show a.eval (.tmp 132) = _ from hneed 4 (by decide))
   exact va_ (.pointer (some ⟨c, 0, none⟩)) hK rfl
  ·obtain rfl := oj ho
   obtain ⟨e5, e5'⟩ := eg (show a.eval (.tmp 133) = _ from hneed 5 (by decide))
   exact va_ (.pointer (some ⟨c, 0, none⟩)) hK rfl
  ·obtain rfl := oj ho
   obtain ⟨e6, e6'⟩ := eg (show a.eval (.tmp 134) = _ from hneed 6 (by decide))
   have hb := blk_below (w := w1.drew) HC.out HBW.out
   have d0 := (blk_cell hb 0).trans rfl
   exact va_ (.int .i64 A) hK rfl
  ·obtain rfl := oj ho
   have h4 : a.eval (.tmp 4) = .pointer (some ⟨g, 0, none⟩) := hout 4 (by decide)
   have h4' := eval_get h4
   exact va_ (.pointer (some ⟨g, 1, none⟩)) hK rfl
  ·obtain rfl := oj ho
   obtain ⟨e8, e8'⟩ := eg (show a.eval (.tmp 136) = _ from hneed 8 (by decide))
   have hb := blk_below (w := w1.drew) HG.out HBW.out
   have d0 := (blk_cell hb 1).trans rfl
   exact va_ (.int .i64 arg) hK rfl
  ·obtain rfl := oj ho
   obtain ⟨e7, e7'⟩ := eg (show a.eval (.tmp 135) = _ from hneed 7 (by decide))
   obtain ⟨e9, e9'⟩ := eg (show a.eval (.tmp 137) = _ from hneed 9 (by decide))
   exact va_ (.int .i64 (Go.bits .xor .i64 A arg)) hK rfl
  ·obtain rfl := oj ho
   obtain ⟨e3, e3'⟩ := eg (show a.eval (.tmp 131) = _ from hneed 3 (by decide))
   obtain ⟨e10, e10'⟩ := eg (show a.eval (.tmp 138) = _ from hneed 10 (by decide))
   refine goes_ Try.func120 (by kernel_rfl) rfl #[.agg #[.int .i64 A, .int .i64 X, .int .i64 S, .int .i64 P, .bool Z, .bool N, .bool C, .bool I], .int .i64 (Go.bits .xor .i64 A arg)] (by rfl) rfl rfl (by simp only [List.map_toArray, List.map_cons, List.map_nil, e3, e10]) ?_
   refine (impl_SetA.calls A X S P Z N C I _ s1 X S P sz sn C I W HF.out).mono ?_
   rintro e w' ⟨rfl, hb⟩
   exact ⟨_, rfl, hK.out _ _ hb rfl⟩
 case lareckon8 =>
  intro o ho a W hout hneed
  obtain rfl := oj ho
  have h0 : a.eval (.tmp 0) = .pointer (some ⟨c, 0, none⟩) := hout 0 (by decide)
  have h0' := eval_get h0
  refine ⟨.pointer (some ⟨c, 0, none⟩), rfl, Or.inl ⟨by rfl, ?_⟩⟩
  intro w'
  go_simp
 intro f vs W2 hB hE
 have HBW := am hB
 clear hB
 have q0 : vs 0 = _ := hE 0 (by decide)
 have q1 : vs 1 = _ := hE 1 (by decide)
 have q2 : vs 2 = _ := hE 2 (by decide)
 have q3 : vs 3 = _ := hE 3 (by decide)
 have q4 : vs 4 = _ := hE 4 (by decide)
 have q5 : vs 5 = _ := hE 5 (by decide)
 have q6 : vs 6 = _ := hE 6 (by decide)
 have q7 : vs 7 = _ := hE 7 (by decide)
 have q8 : vs 8 = _ := hE 8 (by decide)
 have q9 : vs 9 = _ := hE 9 (by decide)
 have q10 : vs 10 = _ := hE 10 (by decide)
 have q11 : vs 11 = _ := hE 11 (by decide)
 show wpAnyLast _ _ _ _ _ _ (f + 2) _ (putAll _ [(128, vs 0), (129, vs 1), (130, vs 2), (131, vs 3), (132, vs 4), (133, vs 5), (134, vs 6), (135, vs 7), (136, vs 8), (137, vs 9), (138, vs 10), (139, vs 11)]) W2
 rw [q0, q1, q2, q3, q4, q5, q6, q7, q8, q9, q10, q11]
 clear q0 q1 q2 q3 q4 q5 q6 q7 q8 q9 q10 q11 hE
 refine norm_ (a' := ?_) ?_ ?_
 rotate_left
 ·simp only [putAll, Act.put, List.setIfInBounds_toArray, List.set_cons_zero, List.set_cons_succ]
  rfl
 refine pv_ 12 (some 140) (bm 14 8191) ?_
 refine ov_ 13 none (bm 14 16383) (fun K hK => ?_)
 refine skip_ (w1 := ?_) (by rfl) rfl ?_ ?_
 rotate_left
 ·skip
  have hcW := blk_below (w := w1.drew) HC.out HBW.out
  obtain ⟨⟨r0, r1, r2, r3, r4, r5, r6, r7⟩, ⟨fr0, fr1, fr2, fr3, fr4, fr5, fr6, fr7⟩⟩ := cells8 (hcW)
  go_simp
  rfl
 refine hK.out _ _ trivial (fun _ => ?_)
 clear hK K
 refine done_ (by kernel_rfl) ?_
 go_wp2
 go_ret
 exact ⟨rfl, put8 (blk_below (w := w1.drew) HC.out HBW.out) _ _ _ _ _ _ _ _, kept8 (((KeptC.of_below HB1.out).drew).below HBW.out) _ _ _ _ _ _ _ _⟩
theorem reckon_4 {w : World} {c : Nat} {A X S P : Int} {Z N C I : Bool} (hc : w.heap[c]? = some (.cells #[.int .i64 A, .int .i64 X, .int .i64 S, .int .i64 P, .bool Z, .bool N, .bool C, .bool I] 55 (0, 0))) (arg v : Int) :
  Calls Try.prog 109 #[.pointer (some ⟨c, 0, none⟩), .agg #[.int .i64 4, .int .i64 arg], .int .i64 v] w fun e w' => e = .returned (.bool true) ∧ w'.heap[c]? = some (.cells (addK (⟨A, X, S, P, Z, N, C, I⟩ : Cp) arg).cells 55 (0, 0)) ∧ KeptC w w' c := by
 obtain ⟨sm, cy, s1, sz, sn, ha, hf, ek⟩ := addK_ex (⟨A, X, S, P, Z, N, C, I⟩ : Cp) arg
 rw [ek]
 clear ek
 have HA := am ha
 have HF := am hf
 clear ha hf
 have hu38 := Try.underlying55
 have hu68 := Try.underlying51
 have HC0 := am hc
 clear hc
 go_enter Try.func109, Try.ntmps109
 go_wp2_with (first | ((with_reducible refine gd 4 ?_); refine bx (N := 4) (cs := #[.int .i64 4, .int .i64 arg]) (t := 51) ?_; intro g hg w1 hbox hb; have HC := am (blk_below HC0.out hb); have HG := am hbox; have HB1 := am hb; have hb1 : w1.cell? ⟨g, 0, none⟩ = some (.int .i64 4) := (blk_cell hbox 0).trans rfl; have hb2 : w1.cell? ⟨g, 1, none⟩ = some (.int .i64 arg) := (blk_cell hbox 1).trans rfl; clear HC0 hb hbox hg; obtain ⟨⟨y0, y1, y2, y3, y4, y5, y6, y7⟩, ⟨fy0, fy1, fy2, fy3, fy4, fy5, fy6, fy7⟩⟩ := cells8 (HC.out)))
 go_quiet (first | (go_at_call 121; refine (impl_Add8.calls A arg C sm cy _ HA.out).mono ?_; rintro e wq ⟨rfl, nd, rfl⟩; exact ⟨rfl, _, World.drewN_drewN _ _ _⟩))
 go_wp2_with (go_at_call 120; refine (impl_SetA.calls A X S P Z N C I _ s1 X S P sz sn C I _ HF.out).mono ?_; rintro e w2 ⟨rfl, hb⟩; have HC2 := am (blk_below (w := w1.drewN nq) HC.out hb); have HB2 := am hb; clear hb; obtain ⟨⟨r0, r1, r2, r3, r4, r5, r6, r7⟩, ⟨fr0, fr1, fr2, fr3, fr4, fr5, fr6, fr7⟩⟩ := cells8 (HC2.out))
 go_ret
 exact ⟨rfl, blk_put (put8 HC2.out _ _ _ _ _ _ _ _) 6 _ rfl, kept1 (kept8 (((KeptC.of_below HB1.out).drewN nq).below HB2.out) _ _ _ _ _ _ _ _) _ _⟩
theorem reckon_29 {w : World} {c : Nat} {A X S P : Int} {Z N C I : Bool} (hc : w.heap[c]? = some (.cells #[.int .i64 A, .int .i64 X, .int .i64 S, .int .i64 P, .bool Z, .bool N, .bool C, .bool I] 55 (0, 0))) (arg v : Int) :
  Calls Try.prog 109 #[.pointer (some ⟨c, 0, none⟩), .agg #[.int .i64 29, .int .i64 arg], .int .i64 v] w fun e w' => e = .returned (.bool true) ∧ w'.heap[c]? = some (.cells (addK (⟨A, X, S, P, Z, N, C, I⟩ : Cp) v).cells 55 (0, 0)) ∧ KeptC w w' c := by
 obtain ⟨sm, cy, s1, sz, sn, ha, hf, ek⟩ := addK_ex (⟨A, X, S, P, Z, N, C, I⟩ : Cp) v
 rw [ek]
 clear ek
 have HA := am ha
 have HF := am hf
 clear ha hf
 have hu38 := Try.underlying55
 have hu68 := Try.underlying51
 have HC0 := am hc
 clear hc
 go_enter Try.func109, Try.ntmps109
 go_wp2_with (first | ((with_reducible refine gd 4 ?_); refine bx (N := 4) (cs := #[.int .i64 29, .int .i64 arg]) (t := 51) ?_; intro g hg w1 hbox hb; have HC := am (blk_below HC0.out hb); have HG := am hbox; have HB1 := am hb; have hb1 : w1.cell? ⟨g, 0, none⟩ = some (.int .i64 29) := (blk_cell hbox 0).trans rfl; have hb2 : w1.cell? ⟨g, 1, none⟩ = some (.int .i64 arg) := (blk_cell hbox 1).trans rfl; clear HC0 hb hbox hg; obtain ⟨⟨y0, y1, y2, y3, y4, y5, y6, y7⟩, ⟨fy0, fy1, fy2, fy3, fy4, fy5, fy6, fy7⟩⟩ := cells8 (HC.out)))
 go_quiet (first | (go_at_call 121; refine (impl_Add8.calls A v C sm cy _ HA.out).mono ?_; rintro e wq ⟨rfl, nd, rfl⟩; exact ⟨rfl, _, World.drewN_drewN _ _ _⟩))
 go_wp2_with (go_at_call 120; refine (impl_SetA.calls A X S P Z N C I _ s1 X S P sz sn C I _ HF.out).mono ?_; rintro e w2 ⟨rfl, hb⟩; have HC2 := am (blk_below (w := w1.drewN nq) HC.out hb); have HB2 := am hb; clear hb; obtain ⟨⟨r0, r1, r2, r3, r4, r5, r6, r7⟩, ⟨fr0, fr1, fr2, fr3, fr4, fr5, fr6, fr7⟩⟩ := cells8 (HC2.out))
 go_ret
 exact ⟨rfl, blk_put (put8 HC2.out _ _ _ _ _ _ _ _) 6 _ rfl, kept1 (kept8 (((KeptC.of_below HB1.out).drewN nq).below HB2.out) _ _ _ _ _ _ _ _) _ _⟩
theorem reckon_5 {w : World} {c : Nat} {A X S P : Int} {Z N C I : Bool} (hc : w.heap[c]? = some (.cells #[.int .i64 A, .int .i64 X, .int .i64 S, .int .i64 P, .bool Z, .bool N, .bool C, .bool I] 55 (0, 0))) (arg v : Int) :
  Calls Try.prog 109 #[.pointer (some ⟨c, 0, none⟩), .agg #[.int .i64 5, .int .i64 arg], .int .i64 v] w fun e w' => e = .returned (.bool true) ∧ w'.heap[c]? = some (.cells (subK (⟨A, X, S, P, Z, N, C, I⟩ : Cp) arg).cells 55 (0, 0)) ∧ KeptC w w' c := by
 obtain ⟨sm, cy, s1, sz, sn, ha, hf, ek⟩ := subK_ex (⟨A, X, S, P, Z, N, C, I⟩ : Cp) arg
 rw [ek]
 clear ek
 have HA := am ha
 have HF := am hf
 clear ha hf
 have hu38 := Try.underlying55
 have hu68 := Try.underlying51
 have HC0 := am hc
 clear hc
 go_enter Try.func109, Try.ntmps109
 go_wp2_with (first | ((with_reducible refine gd 4 ?_); refine bx (N := 4) (cs := #[.int .i64 5, .int .i64 arg]) (t := 51) ?_; intro g hg w1 hbox hb; have HC := am (blk_below HC0.out hb); have HG := am hbox; have HB1 := am hb; have hb1 : w1.cell? ⟨g, 0, none⟩ = some (.int .i64 5) := (blk_cell hbox 0).trans rfl; have hb2 : w1.cell? ⟨g, 1, none⟩ = some (.int .i64 arg) := (blk_cell hbox 1).trans rfl; clear HC0 hb hbox hg; obtain ⟨⟨y0, y1, y2, y3, y4, y5, y6, y7⟩, ⟨fy0, fy1, fy2, fy3, fy4, fy5, fy6, fy7⟩⟩ := cells8 (HC.out)))
 go_quiet (first | (go_at_call 122; refine (impl_Sub8.calls A arg C sm cy _ HA.out).mono ?_; rintro e wq ⟨rfl, nd, rfl⟩; exact ⟨rfl, _, World.drewN_drewN _ _ _⟩))
 go_wp2_with (go_at_call 120; refine (impl_SetA.calls A X S P Z N C I _ s1 X S P sz sn C I _ HF.out).mono ?_; rintro e w2 ⟨rfl, hb⟩; have HC2 := am (blk_below (w := w1.drewN nq) HC.out hb); have HB2 := am hb; clear hb; obtain ⟨⟨r0, r1, r2, r3, r4, r5, r6, r7⟩, ⟨fr0, fr1, fr2, fr3, fr4, fr5, fr6, fr7⟩⟩ := cells8 (HC2.out))
 go_ret
 exact ⟨rfl, blk_put (put8 HC2.out _ _ _ _ _ _ _ _) 6 _ rfl, kept1 (kept8 (((KeptC.of_below HB1.out).drewN nq).below HB2.out) _ _ _ _ _ _ _ _) _ _⟩
theorem reckon_9 {w : World} {c : Nat} {A X S P : Int} {Z N C I : Bool} (hc : w.heap[c]? = some (.cells #[.int .i64 A, .int .i64 X, .int .i64 S, .int .i64 P, .bool Z, .bool N, .bool C, .bool I] 55 (0, 0))) (arg v : Int) :
  Calls Try.prog 109 #[.pointer (some ⟨c, 0, none⟩), .agg #[.int .i64 9, .int .i64 arg], .int .i64 v] w fun e w' => e = .returned (.bool true) ∧ w'.heap[c]? = some (.cells (cmpK (⟨A, X, S, P, Z, N, C, I⟩ : Cp) arg).cells 55 (0, 0)) ∧ KeptC w w' c := by
 obtain ⟨sm, cy, sz, sn, ha, hs, ek⟩ := cmpK_ex (⟨A, X, S, P, Z, N, C, I⟩ : Cp) arg
 rw [ek]
 clear ek
 have HA := am ha
 have HS := am hs
 clear ha hs
 have hu38 := Try.underlying55
 have hu68 := Try.underlying51
 have HC0 := am hc
 clear hc
 go_enter Try.func109, Try.ntmps109
 go_wp2_with (first | ((with_reducible refine gd 4 ?_); refine bx (N := 4) (cs := #[.int .i64 9, .int .i64 arg]) (t := 51) ?_; intro g hg w1 hbox hb; have HC := am (blk_below HC0.out hb); have HG := am hbox; have HB1 := am hb; have hb1 : w1.cell? ⟨g, 0, none⟩ = some (.int .i64 9) := (blk_cell hbox 0).trans rfl; have hb2 : w1.cell? ⟨g, 1, none⟩ = some (.int .i64 arg) := (blk_cell hbox 1).trans rfl; clear HC0 hb hbox hg; obtain ⟨⟨y0, y1, y2, y3, y4, y5, y6, y7⟩, ⟨fy0, fy1, fy2, fy3, fy4, fy5, fy6, fy7⟩⟩ := cells8 (HC.out)))
 go_quiet (first | (go_at_call 122; refine (impl_Sub8.calls A arg true sm cy _ HA.out).mono ?_; rintro e wq ⟨rfl, nd, rfl⟩; exact ⟨rfl, _, World.drewN_drewN _ _ _⟩))
 go_wp2_with (go_at_call 123; refine (impl_Signs.calls sm sz sn _ HS.out).mono ?_; rintro e w2 ⟨rfl, n, rfl⟩)
 go_ret
 exact ⟨rfl, blk_put (blk_put (blk_put HC.out 4 _ rfl) 5 _ rfl) 6 _ rfl, kept1 (kept1 (kept1 ((KeptC.of_below HB1.out).drewN (nq + n)) _ _) _ _) _ _⟩
theorem reckon_no {w : World} {c : Nat} {A X S P : Int} {Z N C I : Bool} (hc : w.heap[c]? = some (.cells #[.int .i64 A, .int .i64 X, .int .i64 S, .int .i64 P, .bool Z, .bool N, .bool C, .bool I] 55 (0, 0))) (op arg v : Int) (n1 : (op == 1) = false) (n2 : (op == 2) = false) (n14 : (op == 14) = false) (n4 : (op == 4) = false) (n29 : (op == 29) = false) (n5 : (op == 5) = false) (n6 : (op == 6) = false) (n7 : (op == 7) = false) (n8 : (op == 8) = false) (n9 : (op == 9) = false) :
  Calls Try.prog 109 #[.pointer (some ⟨c, 0, none⟩), .agg #[.int .i64 op, .int .i64 arg], .int .i64 v] w fun e w' => e = .returned (.bool false) ∧ w'.heap[c]? = some (.cells (⟨A, X, S, P, Z, N, C, I⟩ : Cp).cells 55 (0, 0)) ∧ KeptC w w' c := by
 have hu38 := Try.underlying55
 have hu68 := Try.underlying51
 have HC0 := am hc
 clear hc
 go_enter Try.func109, Try.ntmps109
 go_wp2_with (first | ((with_reducible refine gd 4 ?_); refine bx (N := 4) (cs := #[.int .i64 op, .int .i64 arg]) (t := 51) ?_; intro g hg w1 hbox hb; have HC := am (blk_below HC0.out hb); have HG := am hbox; have HB1 := am hb; have hb1 : w1.cell? ⟨g, 0, none⟩ = some (.int .i64 op) := (blk_cell hbox 0).trans rfl; have hb2 : w1.cell? ⟨g, 1, none⟩ = some (.int .i64 arg) := (blk_cell hbox 1).trans rfl; clear HC0 hb hbox hg; obtain ⟨⟨y0, y1, y2, y3, y4, y5, y6, y7⟩, ⟨fy0, fy1, fy2, fy3, fy4, fy5, fy6, fy7⟩⟩ := cells8 (HC.out)))
 go_ret
 exact ⟨rfl, HC.out, KeptC.of_below HB1.out⟩
def reckonF (k : Cp) (op arg v : Int) : Cp × Bool := if op = 1 then (setAK k arg, true) else if op = 2 then (setAK k v, true) else if op = 14 then (setAK k v, true) else if op = 4 then (addK k arg, true) else if op = 29 then (addK k v, true) else if op = 5 then (subK k arg, true) else if op = 6 then (setAK k (Go.bits .and .i64 k.A arg), true) else if op = 7 then (setAK k (Go.bits .or .i64 k.A arg), true) else if op = 8 then (setAK k (Go.bits .xor .i64 k.A arg), true) else if op = 9 then (cmpK k arg, true) else (k, false)
theorem reckon_calls {w : World} {c : Nat} {k : Cp} (hc : w.heap[c]? = some (.cells k.cells 55 (0, 0))) (op arg v : Int) :
  Calls Try.prog 109 #[.pointer (some ⟨c, 0, none⟩), .agg #[.int .i64 op, .int .i64 arg], .int .i64 v] w fun e w' => e = .returned (.bool (reckonF k op arg v).2) ∧ w'.heap[c]? = some (.cells (reckonF k op arg v).1.cells 55 (0, 0)) ∧ KeptC w w' c := by
 obtain ⟨A, X, S, P, Z, N, C, I⟩ := k
 unfold reckonF
 by_cases h1 : op = 1
 ·rw [if_pos h1, h1]
  exact reckon_1 hc arg v
 rw [if_neg h1]
 by_cases h2 : op = 2
 ·rw [if_pos h2, h2]
  exact reckon_2 hc arg v
 rw [if_neg h2]
 by_cases h14 : op = 14
 ·rw [if_pos h14, h14]
  exact reckon_14 hc arg v
 rw [if_neg h14]
 by_cases h4 : op = 4
 ·rw [if_pos h4, h4]
  exact reckon_4 hc arg v
 rw [if_neg h4]
 by_cases h29 : op = 29
 ·rw [if_pos h29, h29]
  exact reckon_29 hc arg v
 rw [if_neg h29]
 by_cases h5 : op = 5
 ·rw [if_pos h5, h5]
  exact reckon_5 hc arg v
 rw [if_neg h5]
 by_cases h6 : op = 6
 ·rw [if_pos h6, h6]
  exact reckon_6 hc arg v
 rw [if_neg h6]
 by_cases h7 : op = 7
 ·rw [if_pos h7, h7]
  exact reckon_7 hc arg v
 rw [if_neg h7]
 by_cases h8 : op = 8
 ·rw [if_pos h8, h8]
  exact reckon_8 hc arg v
 rw [if_neg h8]
 by_cases h9 : op = 9
 ·rw [if_pos h9, h9]
  exact reckon_9 hc arg v
 rw [if_neg h9]
 exact reckon_no hc op arg v (beq_eq_false_iff_ne.mpr h1) (beq_eq_false_iff_ne.mpr h2) (beq_eq_false_iff_ne.mpr h14) (beq_eq_false_iff_ne.mpr h4) (beq_eq_false_iff_ne.mpr h29) (beq_eq_false_iff_ne.mpr h5) (beq_eq_false_iff_ne.mpr h6) (beq_eq_false_iff_ne.mpr h7) (beq_eq_false_iff_ne.mpr h8) (beq_eq_false_iff_ne.mpr h9)

/-! ### impl_turn (mine) -/
theorem turn_10 {w : World} {c : Nat} {A X S P : Int} {Z N C I : Bool} (hc : w.heap[c]? = some (.cells #[.int .i64 A, .int .i64 X, .int .i64 S, .int .i64 P, .bool Z, .bool N, .bool C, .bool I] 55 (0, 0))) (arg : Int) :
  Calls Try.prog 110 #[.pointer (some ⟨c, 0, none⟩), .agg #[.int .i64 10, .int .i64 arg]] w fun e w' => e = .returned (.bool true) ∧ w'.heap[c]? = some (.cells (setXK (⟨A, X, S, P, Z, N, C, I⟩ : Cp) A).cells 55 (0, 0)) ∧ KeptC w w' c := by
 obtain ⟨s1, sz, sn, hf, ek⟩ := setx_ex (⟨A, X, S, P, Z, N, C, I⟩ : Cp) A
 rw [ek]
 clear ek
 have HF := am hf
 clear hf
 have hu38 := Try.underlying55
 have hu68 := Try.underlying51
 have HC0 := am hc
 clear hc
 go_enter Try.func110, Try.ntmps110
 go_wp2_with (first | ((with_reducible refine gd 3 ?_); refine bx (N := 3) (cs := #[.int .i64 10, .int .i64 arg]) (t := 51) ?_; intro g hg w1 hbox hb; have HC := am (blk_below HC0.out hb); have HG := am hbox; have HB1 := am hb; have hb1 : w1.cell? ⟨g, 0, none⟩ = some (.int .i64 10) := (blk_cell hbox 0).trans rfl; have hb2 : w1.cell? ⟨g, 1, none⟩ = some (.int .i64 arg) := (blk_cell hbox 1).trans rfl; clear HC0 hb hbox hg; obtain ⟨⟨y0, y1, y2, y3, y4, y5, y6, y7⟩, ⟨fy0, fy1, fy2, fy3, fy4, fy5, fy6, fy7⟩⟩ := cells8 (HC.out)))
 refine fre_ (n := 11) (e := 9) (g := 0) (T := (true, [([], []), ([], []), ([1], [1]), ([2], [2]), ([], []), ([4], [4]), ([5], [5]), ([6], [6]), ([3, 7], [3, 7]), ([0, 0, 1, 2, 3, 4, 5, 6, 7, 8], [0]), ([9, 8, 8, 0, 1, 2, 3, 4, 5, 6, 7, 8], [8, 9])])) (bm 11 511) (bm 11 510) [9, 10, 11, 12, 13, 14, 15, 16, 17] (fun j u w' => match j with
  | 0 => u = .pointer (some ⟨c, 0, none⟩)
  | 1 => u = .pointer (some ⟨c, 0, none⟩)
  | 2 => u = .pointer (some ⟨c, 0, none⟩)
  | 3 => u = .agg #[.int .i64 A, .int .i64 X, .int .i64 S, .int .i64 P, .bool Z, .bool N, .bool C, .bool I]
  | 4 => u = .pointer (some ⟨c, 0, none⟩)
  | 5 => u = .pointer (some ⟨c, 0, none⟩)
  | 6 => u = .pointer (some ⟨c, 0, none⟩)
  | 7 => u = .int .i64 A
  | 8 => u = .agg #[.int .i64 A, .int .i64 s1, .int .i64 S, .int .i64 P, .bool sz, .bool sn, .bool C, .bool I]
  | _ => False)
  (by kernel_rfl) rfl (by kernel_rfl) (by kernel_rfl) (by kernel_rfl) (by kernel_rfl) (fun _ _ _ _ h => h) ?stturn10 ?spturn10 ?laturn10 ?enturn10
 case stturn10 =>
  intro j u W W' h hb
  exact h
 case spturn10 =>
  intro i hi o ho a W hB hout hneed K hK
  have HBW := am hB
  have hcase : i = 0 ∨ i = 1 ∨ i = 2 ∨ i = 3 ∨ i = 4 ∨ i = 5 ∨ i = 6 ∨ i = 7 ∨ i = 8 := by omega
  clear hB
  rcases hcase with rfl | rfl | rfl | rfl | rfl | rfl | rfl | rfl | rfl
  ·obtain rfl := oj ho
   have h0 : a.eval (.tmp 0) = .pointer (some ⟨c, 0, none⟩) := hout 0 (by decide)
   have h0' := eval_get h0
   exact va_ (.pointer (some ⟨c, 0, none⟩)) hK rfl
  ·obtain rfl := oj ho
   have h0 : a.eval (.tmp 0) = .pointer (some ⟨c, 0, none⟩) := hout 0 (by decide)
   have h0' := eval_get h0
   exact va_ (.pointer (some ⟨c, 0, none⟩)) hK rfl
  ·obtain rfl := oj ho
   obtain ⟨e1, e1'⟩ := eg (show a.eval (.tmp 10) = _ from hneed 1 (by decide))
   exact va_ (.pointer (some ⟨c, 0, none⟩)) hK rfl
  ·obtain rfl := oj ho
   obtain ⟨e2, e2'⟩ := eg (show a.eval (.tmp 11) = _ from hneed 2 (by decide))
   have hb := blk_below (w := w1.drew) HC.out HBW.out
   obtain ⟨⟨d0, d1, d2, d3, d4, d5, d6, d7⟩, -⟩ := cells8 hb
   exact va_ (.agg #[.int .i64 A, .int .i64 X, .int .i64 S, .int .i64 P, .bool Z, .bool N, .bool C, .bool I]) hK rfl
  ·obtain rfl := oj ho
   have h0 : a.eval (.tmp 0) = .pointer (some ⟨c, 0, none⟩) := hout 0 (by decide)
   have h0' := eval_get h0
   exact va_ (.pointer (some ⟨c, 0, none⟩)) hK rfl
  ·obtain rfl := oj ho
   obtain ⟨e4, e4'⟩ := eg (show a.eval (.tmp 13) = _ from hneed 4 (by decide))
   exact va_ (.pointer (some ⟨c, 0, none⟩)) hK rfl
  ·obtain rfl := oj ho
   obtain ⟨e5, e5'⟩ := eg (show a.eval (.tmp 14) = _ from hneed 5 (by decide))
   exact va_ (.pointer (some ⟨c, 0, none⟩)) hK rfl
  ·obtain rfl := oj ho
   obtain ⟨e6, e6'⟩ := eg (show a.eval (.tmp 15) = _ from hneed 6 (by decide))
   have hb := blk_below (w := w1.drew) HC.out HBW.out
   have d0 := (blk_cell hb 0).trans rfl
   exact va_ (.int .i64 A) hK rfl
  ·obtain rfl := oj ho
   obtain ⟨e3, e3'⟩ := eg (show a.eval (.tmp 12) = _ from hneed 3 (by decide))
   obtain ⟨e7, e7'⟩ := eg (show a.eval (.tmp 16) = _ from hneed 7 (by decide))
   refine goes_ Try.func124 (by kernel_rfl) rfl #[.agg #[.int .i64 A, .int .i64 X, .int .i64 S, .int .i64 P, .bool Z, .bool N, .bool C, .bool I], .int .i64 A] (by rfl) rfl rfl (by simp only [List.map_toArray, List.map_cons, List.map_nil, e3, e7]) ?_
   refine (impl_SetX.calls A X S P Z N C I _ A s1 S P sz sn C I W HF.out).mono ?_
   rintro e w' ⟨rfl, hb⟩
   exact ⟨_, rfl, hK.out _ _ hb rfl⟩
 case laturn10 =>
  intro o ho a W hout hneed
  obtain rfl := oj ho
  have h0 : a.eval (.tmp 0) = .pointer (some ⟨c, 0, none⟩) := hout 0 (by decide)
  have h0' := eval_get h0
  refine ⟨.pointer (some ⟨c, 0, none⟩), rfl, Or.inl ⟨by rfl, ?_⟩⟩
  intro w'
  go_simp
 intro f vs W2 hB hE
 have HBW := am hB
 clear hB
 have q0 : vs 0 = _ := hE 0 (by decide)
 have q1 : vs 1 = _ := hE 1 (by decide)
 have q2 : vs 2 = _ := hE 2 (by decide)
 have q3 : vs 3 = _ := hE 3 (by decide)
 have q4 : vs 4 = _ := hE 4 (by decide)
 have q5 : vs 5 = _ := hE 5 (by decide)
 have q6 : vs 6 = _ := hE 6 (by decide)
 have q7 : vs 7 = _ := hE 7 (by decide)
 have q8 : vs 8 = _ := hE 8 (by decide)
 show wpAnyLast _ _ _ _ _ _ (f + 2) _ (putAll _ [(9, vs 0), (10, vs 1), (11, vs 2), (12, vs 3), (13, vs 4), (14, vs 5), (15, vs 6), (16, vs 7), (17, vs 8)]) W2
 rw [q0, q1, q2, q3, q4, q5, q6, q7, q8]
 clear q0 q1 q2 q3 q4 q5 q6 q7 q8 hE
 refine norm_ (a' := ?_) ?_ ?_
 rotate_left
 ·simp only [putAll, Act.put, List.setIfInBounds_toArray, List.set_cons_zero, List.set_cons_succ]
  rfl
 refine pv_ 9 (some 18) (bm 11 1023) ?_
 refine ov_ 10 none (bm 11 2047) (fun K hK => ?_)
 refine skip_ (w1 := ?_) (by rfl) rfl ?_ ?_
 rotate_left
 ·skip
  have hcW := blk_below (w := w1.drew) HC.out HBW.out
  obtain ⟨⟨r0, r1, r2, r3, r4, r5, r6, r7⟩, ⟨fr0, fr1, fr2, fr3, fr4, fr5, fr6, fr7⟩⟩ := cells8 (hcW)
  go_simp
  rfl
 refine hK.out _ _ trivial (fun _ => ?_)
 clear hK K
 refine done_ (by kernel_rfl) ?_
 go_wp2
 go_ret
 exact ⟨rfl, put8 (blk_below (w := w1.drew) HC.out HBW.out) _ _ _ _ _ _ _ _, kept8 (((KeptC.of_below HB1.out).drew).below HBW.out) _ _ _ _ _ _ _ _⟩
theorem turn_11 {w : World} {c : Nat} {A X S P : Int} {Z N C I : Bool} (hc : w.heap[c]? = some (.cells #[.int .i64 A, .int .i64 X, .int .i64 S, .int .i64 P, .bool Z, .bool N, .bool C, .bool I] 55 (0, 0))) (arg : Int) :
  Calls Try.prog 110 #[.pointer (some ⟨c, 0, none⟩), .agg #[.int .i64 11, .int .i64 arg]] w fun e w' => e = .returned (.bool true) ∧ w'.heap[c]? = some (.cells (setAK (⟨A, X, S, P, Z, N, C, I⟩ : Cp) X).cells 55 (0, 0)) ∧ KeptC w w' c := by
 obtain ⟨s1, sz, sn, hf, ek⟩ := seta_ex (⟨A, X, S, P, Z, N, C, I⟩ : Cp) X
 rw [ek]
 clear ek
 have HF := am hf
 clear hf
 have hu38 := Try.underlying55
 have hu68 := Try.underlying51
 have HC0 := am hc
 clear hc
 go_enter Try.func110, Try.ntmps110
 go_wp2_with (first | ((with_reducible refine gd 3 ?_); refine bx (N := 3) (cs := #[.int .i64 11, .int .i64 arg]) (t := 51) ?_; intro g hg w1 hbox hb; have HC := am (blk_below HC0.out hb); have HG := am hbox; have HB1 := am hb; have hb1 : w1.cell? ⟨g, 0, none⟩ = some (.int .i64 11) := (blk_cell hbox 0).trans rfl; have hb2 : w1.cell? ⟨g, 1, none⟩ = some (.int .i64 arg) := (blk_cell hbox 1).trans rfl; clear HC0 hb hbox hg; obtain ⟨⟨y0, y1, y2, y3, y4, y5, y6, y7⟩, ⟨fy0, fy1, fy2, fy3, fy4, fy5, fy6, fy7⟩⟩ := cells8 (HC.out)))
 refine fre_ (n := 11) (e := 9) (g := 0) (T := (true, [([], []), ([], []), ([1], [1]), ([2], [2]), ([], []), ([4], [4]), ([5], [5]), ([6], [6]), ([3, 7], [3, 7]), ([0, 0, 1, 2, 3, 4, 5, 6, 7, 8], [0]), ([9, 8, 8, 0, 1, 2, 3, 4, 5, 6, 7, 8], [8, 9])])) (bm 11 511) (bm 11 510) [21, 22, 23, 24, 25, 26, 27, 28, 29] (fun j u w' => match j with
  | 0 => u = .pointer (some ⟨c, 0, none⟩)
  | 1 => u = .pointer (some ⟨c, 0, none⟩)
  | 2 => u = .pointer (some ⟨c, 0, none⟩)
  | 3 => u = .agg #[.int .i64 A, .int .i64 X, .int .i64 S, .int .i64 P, .bool Z, .bool N, .bool C, .bool I]
  | 4 => u = .pointer (some ⟨c, 0, none⟩)
  | 5 => u = .pointer (some ⟨c, 0, none⟩)
  | 6 => u = .pointer (some ⟨c, 1, none⟩)
  | 7 => u = .int .i64 X
  | 8 => u = .agg #[.int .i64 s1, .int .i64 X, .int .i64 S, .int .i64 P, .bool sz, .bool sn, .bool C, .bool I]
  | _ => False)
  (by kernel_rfl) rfl (by kernel_rfl) (by kernel_rfl) (by kernel_rfl) (by kernel_rfl) (fun _ _ _ _ h => h) ?stturn11 ?spturn11 ?laturn11 ?enturn11
 case stturn11 =>
  intro j u W W' h hb
  exact h
 case spturn11 =>
  intro i hi o ho a W hB hout hneed K hK
  have HBW := am hB
  have hcase : i = 0 ∨ i = 1 ∨ i = 2 ∨ i = 3 ∨ i = 4 ∨ i = 5 ∨ i = 6 ∨ i = 7 ∨ i = 8 := by omega
  clear hB
  rcases hcase with rfl | rfl | rfl | rfl | rfl | rfl | rfl | rfl | rfl
  ·obtain rfl := oj ho
   have h0 : a.eval (.tmp 0) = .pointer (some ⟨c, 0, none⟩) := hout 0 (by decide)
   have h0' := eval_get h0
   exact va_ (.pointer (some ⟨c, 0, none⟩)) hK rfl
  ·obtain rfl := oj ho
   have h0 : a.eval (.tmp 0) = .pointer (some ⟨c, 0, none⟩) := hout 0 (by decide)
   have h0' := eval_get h0
   exact va_ (.pointer (some ⟨c, 0, none⟩)) hK rfl
  ·obtain rfl := oj ho
   obtain ⟨e1, e1'⟩ := eg (show a.eval (.tmp 22) = _ from hneed 1 (by decide))
   exact va_ (.pointer (some ⟨c, 0, none⟩)) hK rfl
  ·obtain rfl := oj ho
   obtain ⟨e2, e2'⟩ := eg (show a.eval (.tmp 23) = _ from hneed 2 (by decide))
   have hb := blk_below (w := w1.drew) HC.out HBW.out
   obtain ⟨⟨d0, d1, d2, d3, d4, d5, d6, d7⟩, -⟩ := cells8 hb
   exact va_ (.agg #[.int .i64 A, .int .i64 X, .int .i64 S, .int .i64 P, .bool Z, .bool N, .bool C, .bool I]) hK rfl
  ·obtain rfl := oj ho
   have h0 : a.eval (.tmp 0) = .pointer (some ⟨c, 0, none⟩) := hout 0 (by decide)
   have h0' := eval_get h0
   exact va_ (.pointer (some ⟨c, 0, none⟩)) hK rfl
  ·obtain rfl := oj ho
   obtain ⟨e4, e4'⟩ := eg (show a.eval (.tmp 25) = _ from hneed 4 (by decide))
   exact va_ (.pointer (some ⟨c, 0, none⟩)) hK rfl
  ·obtain rfl := oj ho
   obtain ⟨e5, e5'⟩ := eg (show a.eval (.tmp 26) = _ from hneed 5 (by decide))
   exact va_ (.pointer (some ⟨c, 1, none⟩)) hK rfl
  ·obtain rfl := oj ho
   obtain ⟨e6, e6'⟩ := eg (show a.eval (.tmp 27) = _ from hneed 6 (by decide))
   have hb := blk_below (w := w1.drew) HC.out HBW.out
   have d0 := (blk_cell hb 1).trans rfl
   exact va_ (.int .i64 X) hK rfl
  ·obtain rfl := oj ho
   obtain ⟨e3, e3'⟩ := eg (show a.eval (.tmp 24) = _ from hneed 3 (by decide))
   obtain ⟨e7, e7'⟩ := eg (show a.eval (.tmp 28) = _ from hneed 7 (by decide))
   refine goes_ Try.func120 (by kernel_rfl) rfl #[.agg #[.int .i64 A, .int .i64 X, .int .i64 S, .int .i64 P, .bool Z, .bool N, .bool C, .bool I], .int .i64 X] (by rfl) rfl rfl (by simp only [List.map_toArray, List.map_cons, List.map_nil, e3, e7]) ?_
   refine (impl_SetA.calls A X S P Z N C I _ s1 X S P sz sn C I W HF.out).mono ?_
   rintro e w' ⟨rfl, hb⟩
   exact ⟨_, rfl, hK.out _ _ hb rfl⟩
 case laturn11 =>
  intro o ho a W hout hneed
  obtain rfl := oj ho
  have h0 : a.eval (.tmp 0) = .pointer (some ⟨c, 0, none⟩) := hout 0 (by decide)
  have h0' := eval_get h0
  refine ⟨.pointer (some ⟨c, 0, none⟩), rfl, Or.inl ⟨by rfl, ?_⟩⟩
  intro w'
  go_simp
 intro f vs W2 hB hE
 have HBW := am hB
 clear hB
 have q0 : vs 0 = _ := hE 0 (by decide)
 have q1 : vs 1 = _ := hE 1 (by decide)
 have q2 : vs 2 = _ := hE 2 (by decide)
 have q3 : vs 3 = _ := hE 3 (by decide)
 have q4 : vs 4 = _ := hE 4 (by decide)
 have q5 : vs 5 = _ := hE 5 (by decide)
 have q6 : vs 6 = _ := hE 6 (by decide)
 have q7 : vs 7 = _ := hE 7 (by decide)
 have q8 : vs 8 = _ := hE 8 (by decide)
 show wpAnyLast _ _ _ _ _ _ (f + 2) _ (putAll _ [(21, vs 0), (22, vs 1), (23, vs 2), (24, vs 3), (25, vs 4), (26, vs 5), (27, vs 6), (28, vs 7), (29, vs 8)]) W2
 rw [q0, q1, q2, q3, q4, q5, q6, q7, q8]
 clear q0 q1 q2 q3 q4 q5 q6 q7 q8 hE
 refine norm_ (a' := ?_) ?_ ?_
 rotate_left
 ·simp only [putAll, Act.put, List.setIfInBounds_toArray, List.set_cons_zero, List.set_cons_succ]
  rfl
 refine pv_ 9 (some 30) (bm 11 1023) ?_
 refine ov_ 10 none (bm 11 2047) (fun K hK => ?_)
 refine skip_ (w1 := ?_) (by rfl) rfl ?_ ?_
 rotate_left
 ·skip
  have hcW := blk_below (w := w1.drew) HC.out HBW.out
  obtain ⟨⟨r0, r1, r2, r3, r4, r5, r6, r7⟩, ⟨fr0, fr1, fr2, fr3, fr4, fr5, fr6, fr7⟩⟩ := cells8 (hcW)
  go_simp
  rfl
 refine hK.out _ _ trivial (fun _ => ?_)
 clear hK K
 refine done_ (by kernel_rfl) ?_
 go_wp2
 go_ret
 exact ⟨rfl, put8 (blk_below (w := w1.drew) HC.out HBW.out) _ _ _ _ _ _ _ _, kept8 (((KeptC.of_below HB1.out).drew).below HBW.out) _ _ _ _ _ _ _ _⟩
theorem turn_12 {w : World} {c : Nat} {A X S P : Int} {Z N C I : Bool} (hc : w.heap[c]? = some (.cells #[.int .i64 A, .int .i64 X, .int .i64 S, .int .i64 P, .bool Z, .bool N, .bool C, .bool I] 55 (0, 0))) (arg : Int) :
  Calls Try.prog 110 #[.pointer (some ⟨c, 0, none⟩), .agg #[.int .i64 12, .int .i64 arg]] w fun e w' => e = .returned (.bool true) ∧ w'.heap[c]? = some (.cells (setXK (⟨A, X, S, P, Z, N, C, I⟩ : Cp) (wrap64 (X + 1))).cells 55 (0, 0)) ∧ KeptC w w' c := by
 obtain ⟨s1, sz, sn, hf, ek⟩ := setx_ex (⟨A, X, S, P, Z, N, C, I⟩ : Cp) (wrap64 (X + 1))
 rw [ek]
 clear ek
 have HF := am hf
 clear hf
 have hu38 := Try.underlying55
 have hu68 := Try.underlying51
 have HC0 := am hc
 clear hc
 go_enter Try.func110, Try.ntmps110
 go_wp2_with (first | ((with_reducible refine gd 3 ?_); refine bx (N := 3) (cs := #[.int .i64 12, .int .i64 arg]) (t := 51) ?_; intro g hg w1 hbox hb; have HC := am (blk_below HC0.out hb); have HG := am hbox; have HB1 := am hb; have hb1 : w1.cell? ⟨g, 0, none⟩ = some (.int .i64 12) := (blk_cell hbox 0).trans rfl; have hb2 : w1.cell? ⟨g, 1, none⟩ = some (.int .i64 arg) := (blk_cell hbox 1).trans rfl; clear HC0 hb hbox hg; obtain ⟨⟨y0, y1, y2, y3, y4, y5, y6, y7⟩, ⟨fy0, fy1, fy2, fy3, fy4, fy5, fy6, fy7⟩⟩ := cells8 (HC.out)))
 refine fre_ (n := 12) (e := 10) (g := 0) (T := (true, [([], []), ([], []), ([1], [1]), ([2], [2]), ([], []), ([4], [4]), ([5], [5]), ([6], [6]), ([7], [7]), ([3, 8], [3, 8]), ([0, 0, 1, 2, 3, 4, 5, 6, 7, 8, 9], [0]), ([10, 9, 9, 0, 1, 2, 3, 4, 5, 6, 7, 8, 9], [9, 10])])) (bm 12 1023) (bm 12 1022) [33, 34, 35, 36, 37, 38, 39, 40, 41, 42] (fun j u w' => match j with
  | 0 => u = .pointer (some ⟨c, 0, none⟩)
  | 1 => u = .pointer (some ⟨c, 0, none⟩)
  | 2 => u = .pointer (some ⟨c, 0, none⟩)
  | 3 => u = .agg #[.int .i64 A, .int .i64 X, .int .i64 S, .int .i64 P, .bool Z, .bool N, .bool C, .bool I]
  | 4 => u = .pointer (some ⟨c, 0, none⟩)
  | 5 => u = .pointer (some ⟨c, 0, none⟩)
  | 6 => u = .pointer (some ⟨c, 1, none⟩)
  | 7 => u = .int .i64 X
  | 8 => u = .int .i64 (wrap64 (X + 1))
  | 9 => u = .agg #[.int .i64 A, .int .i64 s1, .int .i64 S, .int .i64 P, .bool sz, .bool sn, .bool C, .bool I]
  | _ => False)
  (by kernel_rfl) rfl (by kernel_rfl) (by kernel_rfl) (by kernel_rfl) (by kernel_rfl) (fun _ _ _ _ h => h) ?stturn12 ?spturn12 ?laturn12 ?enturn12
 case stturn12 =>
  intro j u W W' h hb
  exact h
 case spturn12 =>
  intro i hi o ho a W hB hout hneed K hK
  have HBW := am hB
  have hcase : i = 0 ∨ i = 1 ∨ i = 2 ∨ i = 3 ∨ i = 4 ∨ i = 5 ∨ i = 6 ∨ i = 7 ∨ i = 8 ∨ i = 9 := by omega
  clear hB
  rcases hcase with rfl | rfl | rfl | rfl | rfl | rfl | rfl | rfl | rfl | rfl
  ·obtain rfl := oj ho
   have h0 : a.eval (.tmp 0) = .pointer (some ⟨c, 0, none⟩) := hout 0 (by decide)
   have h0' := eval_get h0
   exact va_ (.pointer (some ⟨c, 0, none⟩)) hK rfl
  ·obtain rfl := oj ho
   have h0 : a.eval (.tmp 0) = .pointer (some ⟨c, 0, none⟩) := hout 0 (by decide)
   have h0' := eval_get h0
   exact va_ (.pointer (some ⟨c, 0, none⟩)) hK rfl
  ·obtain rfl := oj ho
   obtain ⟨e1, e1'⟩ := eg (show a.eval (.tmp 34) = _ from hneed 1 (by decide))
   exact va_ (.pointer (some ⟨c, 0, none⟩)) hK rfl
  ·obtain rfl := oj ho
   obtain ⟨e2, e2'⟩ := eg (show a.eval (.tmp 35) = _ from hneed 2 (by decide))
   have hb := blk_below (w := w1.drew) HC.out HBW.out
   obtain ⟨⟨d0, d1, d2, d3, d4, d5, d6, d7⟩, -⟩ := cells8 hb
   exact va_ (.agg #[.int .i64 A, .int .i64 X, .int .i64 S, .int .i64 P, .bool Z, .bool N, .bool C, .bool I]) hK rfl
  ·obtain rfl := oj ho
   have h0 : a.eval (.tmp 0) = .pointer (some ⟨c, 0, none⟩) := hout 0 (by decide)
   have h0' := eval_get h0
   exact va_ (.pointer (some ⟨c, 0, none⟩)) hK rfl
  ·obtain rfl := oj ho
   obtain ⟨e4, e4'⟩ := eg (show a.eval (.tmp 37) = _ from hneed 4 (by decide))
   exact va_ (.pointer (some ⟨c, 0, none⟩)) hK rfl
  ·obtain rfl := oj ho
   obtain ⟨e5, e5'⟩ := eg (show a.eval (.tmp 38) = _ from hneed 5 (by decide))
   exact va_ (.pointer (some ⟨c, 1, none⟩)) hK rfl
  ·obtain rfl := oj ho
   obtain ⟨e6, e6'⟩ := eg (show a.eval (.tmp 39) = _ from hneed 6 (by decide))
   have hb := blk_below (w := w1.drew) HC.out HBW.out
   have d0 := (blk_cell hb 1).trans rfl
   exact va_ (.int .i64 X) hK rfl
  ·obtain rfl := oj ho
   obtain ⟨e7, e7'⟩ := eg (show a.eval (.tmp 40) = _ from hneed 7 (by decide))
   exact va_ (.int .i64 (wrap64 (X + 1))) hK rfl (by go_simp; first | done | rfl | simp only [i64_w])
  ·obtain rfl := oj ho
   obtain ⟨e3, e3'⟩ := eg (show a.eval (.tmp 36) = _ from hneed 3 (by decide))
   obtain ⟨e8, e8'⟩ := eg (show a.eval (.tmp 41) = _ from hneed 8 (by decide))
   refine goes_ Try.func124 (by kernel_rfl) rfl #[.agg #[.int .i64 A, .int .i64 X, .int .i64 S, .int .i64 P, .bool Z, .bool N, .bool C, .bool I], .int .i64 (wrap64 (X + 1))] (by rfl) rfl rfl (by simp only [List.map_toArray, List.map_cons, List.map_nil, e3, e8]) ?_
   refine (impl_SetX.calls A X S P Z N C I _ A s1 S P sz sn C I W HF.out).mono ?_
   rintro e w' ⟨rfl, hb⟩
   exact ⟨_, rfl, hK.out _ _ hb rfl⟩
 case laturn12 =>
  intro o ho a W hout hneed
  obtain rfl := oj ho
  have h0 : a.eval (.tmp 0) = .pointer (some ⟨c, 0, none⟩) := hout 0 (by decide)
  have h0' := eval_get h0
  refine ⟨.pointer (some ⟨c, 0, none⟩), rfl, Or.inl ⟨by rfl, ?_⟩⟩
  intro w'
  go_simp
 intro f vs W2 hB hE
 have HBW := am hB
 clear hB
 have q0 : vs 0 = _ := hE 0 (by decide)
 have q1 : vs 1 = _ := hE 1 (by decide)
 have q2 : vs 2 = _ := hE 2 (by decide)
 have q3 : vs 3 = _ := hE 3 (by decide)
 have q4 : vs 4 = _ := hE 4 (by decide)
 have q5 : vs 5 = _ := hE 5 (by decide)
 have q6 : vs 6 = _ := hE 6 (by decide)
 have q7 : vs 7 = _ := hE 7 (by decide)
 have q8 : vs 8 = _ := hE 8 (by decide)
 have q9 : vs 9 = _ := hE 9 (by decide)
 show wpAnyLast _ _ _ _ _ _ (f + 2) _ (putAll _ [(33, vs 0), (34, vs 1), (35, vs 2), (36, vs 3), (37, vs 4), (38, vs 5), (39, vs 6), (40, vs 7), (41, vs 8), (42, vs 9)]) W2
 rw [q0, q1, q2, q3, q4, q5, q6, q7, q8, q9]
 clear q0 q1 q2 q3 q4 q5 q6 q7 q8 q9 hE
 refine norm_ (a' := ?_) ?_ ?_
 rotate_left
 ·simp only [putAll, Act.put, List.setIfInBounds_toArray, List.set_cons_zero, List.set_cons_succ]
  rfl
 refine pv_ 10 (some 43) (bm 12 2047) ?_
 refine ov_ 11 none (bm 12 4095) (fun K hK => ?_)
 refine skip_ (w1 := ?_) (by rfl) rfl ?_ ?_
 rotate_left
 ·skip
  have hcW := blk_below (w := w1.drew) HC.out HBW.out
  obtain ⟨⟨r0, r1, r2, r3, r4, r5, r6, r7⟩, ⟨fr0, fr1, fr2, fr3, fr4, fr5, fr6, fr7⟩⟩ := cells8 (hcW)
  go_simp
  rfl
 refine hK.out _ _ trivial (fun _ => ?_)
 clear hK K
 refine done_ (by kernel_rfl) ?_
 go_wp2
 go_ret
 exact ⟨rfl, put8 (blk_below (w := w1.drew) HC.out HBW.out) _ _ _ _ _ _ _ _, kept8 (((KeptC.of_below HB1.out).drew).below HBW.out) _ _ _ _ _ _ _ _⟩
theorem turn_13 {w : World} {c : Nat} {A X S P : Int} {Z N C I : Bool} (hc : w.heap[c]? = some (.cells #[.int .i64 A, .int .i64 X, .int .i64 S, .int .i64 P, .bool Z, .bool N, .bool C, .bool I] 55 (0, 0))) (arg : Int) :
  Calls Try.prog 110 #[.pointer (some ⟨c, 0, none⟩), .agg #[.int .i64 13, .int .i64 arg]] w fun e w' => e = .returned (.bool true) ∧ w'.heap[c]? = some (.cells (setXK (⟨A, X, S, P, Z, N, C, I⟩ : Cp) (wrap64 (X - 1))).cells 55 (0, 0)) ∧ KeptC w w' c := by
 obtain ⟨s1, sz, sn, hf, ek⟩ := setx_ex (⟨A, X, S, P, Z, N, C, I⟩ : Cp) (wrap64 (X - 1))
 rw [ek]
 clear ek
 have HF := am hf
 clear hf
 have hu38 := Try.underlying55
 have hu68 := Try.underlying51
 have HC0 := am hc
 clear hc
 go_enter Try.func110, Try.ntmps110
 go_wp2_with (first | ((with_reducible refine gd 3 ?_); refine bx (N := 3) (cs := #[.int .i64 13, .int .i64 arg]) (t := 51) ?_; intro g hg w1 hbox hb; have HC := am (blk_below HC0.out hb); have HG := am hbox; have HB1 := am hb; have hb1 : w1.cell? ⟨g, 0, none⟩ = some (.int .i64 13) := (blk_cell hbox 0).trans rfl; have hb2 : w1.cell? ⟨g, 1, none⟩ = some (.int .i64 arg) := (blk_cell hbox 1).trans rfl; clear HC0 hb hbox hg; obtain ⟨⟨y0, y1, y2, y3, y4, y5, y6, y7⟩, ⟨fy0, fy1, fy2, fy3, fy4, fy5, fy6, fy7⟩⟩ := cells8 (HC.out)))
 refine fre_ (n := 12) (e := 10) (g := 0) (T := (true, [([], []), ([], []), ([1], [1]), ([2], [2]), ([], []), ([4], [4]), ([5], [5]), ([6], [6]), ([7], [7]), ([3, 8], [3, 8]), ([0, 0, 1, 2, 3, 4, 5, 6, 7, 8, 9], [0]), ([10, 9, 9, 0, 1, 2, 3, 4, 5, 6, 7, 8, 9], [9, 10])])) (bm 12 1023) (bm 12 1022) [46, 47, 48, 49, 50, 51, 52, 53, 54, 55] (fun j u w' => match j with
  | 0 => u = .pointer (some ⟨c, 0, none⟩)
  | 1 => u = .pointer (some ⟨c, 0, none⟩)
  | 2 => u = .pointer (some ⟨c, 0, none⟩)
  | 3 => u = .agg #[.int .i64 A, .int .i64 X, .int .i64 S, .int .i64 P, .bool Z, .bool N, .bool C, .bool I]
  | 4 => u = .pointer (some ⟨c, 0, none⟩)
  | 5 => u = .pointer (some ⟨c, 0, none⟩)
  | 6 => u = .pointer (some ⟨c, 1, none⟩)
  | 7 => u = .int .i64 X
  | 8 => u = .int .i64 (wrap64 (X - 1))
  | 9 => u = .agg #[.int .i64 A, .int .i64 s1, .int .i64 S, .int .i64 P, .bool sz, .bool sn, .bool C, .bool I]
  | _ => False)
  (by kernel_rfl) rfl (by kernel_rfl) (by kernel_rfl) (by kernel_rfl) (by kernel_rfl) (fun _ _ _ _ h => h) ?stturn13 ?spturn13 ?laturn13 ?enturn13
 case stturn13 =>
  intro j u W W' h hb
  exact h
 case spturn13 =>
  intro i hi o ho a W hB hout hneed K hK
  have HBW := am hB
  have hcase : i = 0 ∨ i = 1 ∨ i = 2 ∨ i = 3 ∨ i = 4 ∨ i = 5 ∨ i = 6 ∨ i = 7 ∨ i = 8 ∨ i = 9 := by omega
  clear hB
  rcases hcase with rfl | rfl | rfl | rfl | rfl | rfl | rfl | rfl | rfl | rfl
  ·obtain rfl := oj ho
   have h0 : a.eval (.tmp 0) = .pointer (some ⟨c, 0, none⟩) := hout 0 (by decide)
   have h0' := eval_get h0
   exact va_ (.pointer (some ⟨c, 0, none⟩)) hK rfl
  ·obtain rfl := oj ho
   have h0 : a.eval (.tmp 0) = .pointer (some ⟨c, 0, none⟩) := hout 0 (by decide)
   have h0' := eval_get h0
   exact va_ (.pointer (some ⟨c, 0, none⟩)) hK rfl
  ·obtain rfl := oj ho
   obtain ⟨e1, e1'⟩ := eg (show a.eval (.tmp 47) = _ from hneed 1 (by decide))
   exact va_ (.pointer (some ⟨c, 0, none⟩)) hK rfl
  ·obtain rfl := oj ho
   obtain ⟨e2, e2'⟩ := eg (show a.eval (.tmp 48) = _ from hneed 2 (by decide))
   have hb := blk_below (w := w1.drew) HC.out HBW.out
   obtain ⟨⟨d0, d1, d2, d3, d4, d5, d6, d7⟩, -⟩ := cells8 hb
   exact va_ (.agg #[.int .i64 A, .int .i64 X, .int .i64 S, .int .i64 P, .bool Z, .bool N, .bool C, .bool I]) hK rfl
  ·obtain rfl := oj ho
   have h0 : a.eval (.tmp 0) = .pointer (some ⟨c, 0, none⟩) := hout 0 (by decide)
   have h0' := eval_get h0
   exact va_ (.pointer (some ⟨c, 0, none⟩)) hK rfl
  ·obtain rfl := oj ho
   obtain ⟨e4, e4'⟩ := eg (show a.eval (.tmp 50) = _ from hneed 4 (by decide))
   exact va_ (.pointer (some ⟨c, 0, none⟩)) hK rfl
  ·obtain rfl := oj ho
   obtain ⟨e5, e5'⟩ := eg (show a.eval (.tmp 51) = _ from hneed 5 (by decide))
   exact va_ (.pointer (some ⟨c, 1, none⟩)) hK rfl
  ·obtain rfl := oj ho
   obtain ⟨e6, e6'⟩ := eg (show a.eval (.tmp 52) = _ from hneed 6 (by decide))
   have hb := blk_below (w := w1.drew) HC.out HBW.out
   have d0 := (blk_cell hb 1).trans rfl
   exact va_ (.int .i64 X) hK rfl
  ·obtain rfl := oj ho
   obtain ⟨e7, e7'⟩ := eg (show a.eval (.tmp 53) = _ from hneed 7 (by decide))
   exact va_ (.int .i64 (wrap64 (X - 1))) hK rfl (by go_simp; first | done | rfl | simp only [i64_w])
  ·obtain rfl := oj ho
   obtain ⟨e3, e3'⟩ := eg (show a.eval (.tmp 49) = _ from hneed 3 (by decide))
   obtain ⟨e8, e8'⟩ := eg (show a.eval (.tmp 54) = _ from hneed 8 (by decide))
   refine goes_ Try.func124 (by kernel_rfl) rfl #[.agg #[.int .i64 A, .int .i64 X, .int .i64 S, .int .i64 P, .bool Z, .bool N, .bool C, .bool I], .int .i64 (wrap64 (X - 1))] (by rfl) rfl rfl (by simp only [List.map_toArray, List.map_cons, List.map_nil, e3, e8]) ?_
   refine (impl_SetX.calls A X S P Z N C I _ A s1 S P sz sn C I W HF.out).mono ?_
   rintro e w' ⟨rfl, hb⟩
   exact ⟨_, rfl, hK.out _ _ hb rfl⟩
 case laturn13 =>
  intro o ho a W hout hneed
  obtain rfl := oj ho
  have h0 : a.eval (.tmp 0) = .pointer (some ⟨c, 0, none⟩) := hout 0 (by decide)
  have h0' := eval_get h0
  refine ⟨.pointer (some ⟨c, 0, none⟩), rfl, Or.inl ⟨by rfl, ?_⟩⟩
  intro w'
  go_simp
 intro f vs W2 hB hE
 have HBW := am hB
 clear hB
 have q0 : vs 0 = _ := hE 0 (by decide)
 have q1 : vs 1 = _ := hE 1 (by decide)
 have q2 : vs 2 = _ := hE 2 (by decide)
 have q3 : vs 3 = _ := hE 3 (by decide)
 have q4 : vs 4 = _ := hE 4 (by decide)
 have q5 : vs 5 = _ := hE 5 (by decide)
 have q6 : vs 6 = _ := hE 6 (by decide)
 have q7 : vs 7 = _ := hE 7 (by decide)
 have q8 : vs 8 = _ := hE 8 (by decide)
 have q9 : vs 9 = _ := hE 9 (by decide)
 show wpAnyLast _ _ _ _ _ _ (f + 2) _ (putAll _ [(46, vs 0), (47, vs 1), (48, vs 2), (49, vs 3), (50, vs 4), (51, vs 5), (52, vs 6), (53, vs 7), (54, vs 8), (55, vs 9)]) W2
 rw [q0, q1, q2, q3, q4, q5, q6, q7, q8, q9]
 clear q0 q1 q2 q3 q4 q5 q6 q7 q8 q9 hE
 refine norm_ (a' := ?_) ?_ ?_
 rotate_left
 ·simp only [putAll, Act.put, List.setIfInBounds_toArray, List.set_cons_zero, List.set_cons_succ]
  rfl
 refine pv_ 10 (some 56) (bm 12 2047) ?_
 refine ov_ 11 none (bm 12 4095) (fun K hK => ?_)
 refine skip_ (w1 := ?_) (by rfl) rfl ?_ ?_
 rotate_left
 ·skip
  have hcW := blk_below (w := w1.drew) HC.out HBW.out
  obtain ⟨⟨r0, r1, r2, r3, r4, r5, r6, r7⟩, ⟨fr0, fr1, fr2, fr3, fr4, fr5, fr6, fr7⟩⟩ := cells8 (hcW)
  go_simp
  rfl
 refine hK.out _ _ trivial (fun _ => ?_)
 clear hK K
 refine done_ (by kernel_rfl) ?_
 go_wp2
 go_ret
 exact ⟨rfl, put8 (blk_below (w := w1.drew) HC.out HBW.out) _ _ _ _ _ _ _ _, kept8 (((KeptC.of_below HB1.out).drew).below HBW.out) _ _ _ _ _ _ _ _⟩
theorem turn_25 {w : World} {c : Nat} {A X S P : Int} {Z N C I : Bool} (hc : w.heap[c]? = some (.cells #[.int .i64 A, .int .i64 X, .int .i64 S, .int .i64 P, .bool Z, .bool N, .bool C, .bool I] 55 (0, 0))) (arg : Int) :
  Calls Try.prog 110 #[.pointer (some ⟨c, 0, none⟩), .agg #[.int .i64 25, .int .i64 arg]] w fun e w' => e = .returned (.bool true) ∧ w'.heap[c]? = some (.cells (⟨A, X, S, P, Z, N, C, true⟩ : Cp).cells 55 (0, 0)) ∧ KeptC w w' c := by
 have hu38 := Try.underlying55
 have hu68 := Try.underlying51
 have HC0 := am hc
 clear hc
 go_enter Try.func110, Try.ntmps110
 go_wp2_with (first | ((with_reducible refine gd 3 ?_); refine bx (N := 3) (cs := #[.int .i64 25, .int .i64 arg]) (t := 51) ?_; intro g hg w1 hbox hb; have HC := am (blk_below HC0.out hb); have HG := am hbox; have HB1 := am hb; have hb1 : w1.cell? ⟨g, 0, none⟩ = some (.int .i64 25) := (blk_cell hbox 0).trans rfl; have hb2 : w1.cell? ⟨g, 1, none⟩ = some (.int .i64 arg) := (blk_cell hbox 1).trans rfl; clear HC0 hb hbox hg; obtain ⟨⟨y0, y1, y2, y3, y4, y5, y6, y7⟩, ⟨fy0, fy1, fy2, fy3, fy4, fy5, fy6, fy7⟩⟩ := cells8 (HC.out)))
 go_ret
 exact ⟨rfl, blk_put HC.out 7 _ rfl, kept1 (KeptC.of_below HB1.out) _ _⟩
theorem turn_26 {w : World} {c : Nat} {A X S P : Int} {Z N C I : Bool} (hc : w.heap[c]? = some (.cells #[.int .i64 A, .int .i64 X, .int .i64 S, .int .i64 P, .bool Z, .bool N, .bool C, .bool I] 55 (0, 0))) (arg : Int) :
  Calls Try.prog 110 #[.pointer (some ⟨c, 0, none⟩), .agg #[.int .i64 26, .int .i64 arg]] w fun e w' => e = .returned (.bool true) ∧ w'.heap[c]? = some (.cells (⟨A, X, S, P, Z, N, C, false⟩ : Cp).cells 55 (0, 0)) ∧ KeptC w w' c := by
 have hu38 := Try.underlying55
 have hu68 := Try.underlying51
 have HC0 := am hc
 clear hc
 go_enter Try.func110, Try.ntmps110
 go_wp2_with (first | ((with_reducible refine gd 3 ?_); refine bx (N := 3) (cs := #[.int .i64 26, .int .i64 arg]) (t := 51) ?_; intro g hg w1 hbox hb; have HC := am (blk_below HC0.out hb); have HG := am hbox; have HB1 := am hb; have hb1 : w1.cell? ⟨g, 0, none⟩ = some (.int .i64 26) := (blk_cell hbox 0).trans rfl; have hb2 : w1.cell? ⟨g, 1, none⟩ = some (.int .i64 arg) := (blk_cell hbox 1).trans rfl; clear HC0 hb hbox hg; obtain ⟨⟨y0, y1, y2, y3, y4, y5, y6, y7⟩, ⟨fy0, fy1, fy2, fy3, fy4, fy5, fy6, fy7⟩⟩ := cells8 (HC.out)))
 go_ret
 exact ⟨rfl, blk_put HC.out 7 _ rfl, kept1 (KeptC.of_below HB1.out) _ _⟩
theorem turn_27 {w : World} {c : Nat} {A X S P : Int} {Z N C I : Bool} (hc : w.heap[c]? = some (.cells #[.int .i64 A, .int .i64 X, .int .i64 S, .int .i64 P, .bool Z, .bool N, .bool C, .bool I] 55 (0, 0))) (arg : Int) :
  Calls Try.prog 110 #[.pointer (some ⟨c, 0, none⟩), .agg #[.int .i64 27, .int .i64 arg]] w fun e w' => e = .returned (.bool true) ∧ w'.heap[c]? = some (.cells (⟨A, X, S, P, Z, N, true, I⟩ : Cp).cells 55 (0, 0)) ∧ KeptC w w' c := by
 have hu38 := Try.underlying55
 have hu68 := Try.underlying51
 have HC0 := am hc
 clear hc
 go_enter Try.func110, Try.ntmps110
 go_wp2_with (first | ((with_reducible refine gd 3 ?_); refine bx (N := 3) (cs := #[.int .i64 27, .int .i64 arg]) (t := 51) ?_; intro g hg w1 hbox hb; have HC := am (blk_below HC0.out hb); have HG := am hbox; have HB1 := am hb; have hb1 : w1.cell? ⟨g, 0, none⟩ = some (.int .i64 27) := (blk_cell hbox 0).trans rfl; have hb2 : w1.cell? ⟨g, 1, none⟩ = some (.int .i64 arg) := (blk_cell hbox 1).trans rfl; clear HC0 hb hbox hg; obtain ⟨⟨y0, y1, y2, y3, y4, y5, y6, y7⟩, ⟨fy0, fy1, fy2, fy3, fy4, fy5, fy6, fy7⟩⟩ := cells8 (HC.out)))
 go_ret
 exact ⟨rfl, blk_put HC.out 6 _ rfl, kept1 (KeptC.of_below HB1.out) _ _⟩
theorem turn_28 {w : World} {c : Nat} {A X S P : Int} {Z N C I : Bool} (hc : w.heap[c]? = some (.cells #[.int .i64 A, .int .i64 X, .int .i64 S, .int .i64 P, .bool Z, .bool N, .bool C, .bool I] 55 (0, 0))) (arg : Int) :
  Calls Try.prog 110 #[.pointer (some ⟨c, 0, none⟩), .agg #[.int .i64 28, .int .i64 arg]] w fun e w' => e = .returned (.bool true) ∧ w'.heap[c]? = some (.cells (⟨A, X, S, P, Z, N, false, I⟩ : Cp).cells 55 (0, 0)) ∧ KeptC w w' c := by
 have hu38 := Try.underlying55
 have hu68 := Try.underlying51
 have HC0 := am hc
 clear hc
 go_enter Try.func110, Try.ntmps110
 go_wp2_with (first | ((with_reducible refine gd 3 ?_); refine bx (N := 3) (cs := #[.int .i64 28, .int .i64 arg]) (t := 51) ?_; intro g hg w1 hbox hb; have HC := am (blk_below HC0.out hb); have HG := am hbox; have HB1 := am hb; have hb1 : w1.cell? ⟨g, 0, none⟩ = some (.int .i64 28) := (blk_cell hbox 0).trans rfl; have hb2 : w1.cell? ⟨g, 1, none⟩ = some (.int .i64 arg) := (blk_cell hbox 1).trans rfl; clear HC0 hb hbox hg; obtain ⟨⟨y0, y1, y2, y3, y4, y5, y6, y7⟩, ⟨fy0, fy1, fy2, fy3, fy4, fy5, fy6, fy7⟩⟩ := cells8 (HC.out)))
 go_ret
 exact ⟨rfl, blk_put HC.out 6 _ rfl, kept1 (KeptC.of_below HB1.out) _ _⟩
theorem turn_no {w : World} {c : Nat} {A X S P : Int} {Z N C I : Bool} (hc : w.heap[c]? = some (.cells #[.int .i64 A, .int .i64 X, .int .i64 S, .int .i64 P, .bool Z, .bool N, .bool C, .bool I] 55 (0, 0))) (op arg : Int) (n10 : (op == 10) = false) (n11 : (op == 11) = false) (n12 : (op == 12) = false) (n13 : (op == 13) = false) (n25 : (op == 25) = false) (n26 : (op == 26) = false) (n27 : (op == 27) = false) (n28 : (op == 28) = false) :
  Calls Try.prog 110 #[.pointer (some ⟨c, 0, none⟩), .agg #[.int .i64 op, .int .i64 arg]] w fun e w' => e = .returned (.bool false) ∧ w'.heap[c]? = some (.cells (⟨A, X, S, P, Z, N, C, I⟩ : Cp).cells 55 (0, 0)) ∧ KeptC w w' c := by
 have hu38 := Try.underlying55
 have hu68 := Try.underlying51
 have HC0 := am hc
 clear hc
 go_enter Try.func110, Try.ntmps110
 go_wp2_with (first | ((with_reducible refine gd 3 ?_); refine bx (N := 3) (cs := #[.int .i64 op, .int .i64 arg]) (t := 51) ?_; intro g hg w1 hbox hb; have HC := am (blk_below HC0.out hb); have HG := am hbox; have HB1 := am hb; have hb1 : w1.cell? ⟨g, 0, none⟩ = some (.int .i64 op) := (blk_cell hbox 0).trans rfl; have hb2 : w1.cell? ⟨g, 1, none⟩ = some (.int .i64 arg) := (blk_cell hbox 1).trans rfl; clear HC0 hb hbox hg; obtain ⟨⟨y0, y1, y2, y3, y4, y5, y6, y7⟩, ⟨fy0, fy1, fy2, fy3, fy4, fy5, fy6, fy7⟩⟩ := cells8 (HC.out)))
 go_ret
 exact ⟨rfl, HC.out, KeptC.of_below HB1.out⟩
def turnF (k : Cp) (op : Int) : Cp × Bool := if op = 10 then (setXK k k.A, true) else if op = 11 then (setAK k k.X, true) else if op = 12 then (setXK k (wrap64 (k.X + 1)), true) else if op = 13 then (setXK k (wrap64 (k.X - 1)), true) else if op = 25 then ({ k with I := true }, true) else if op = 26 then ({ k with I := false }, true) else if op = 27 then ({ k with C := true }, true) else if op = 28 then ({ k with C := false }, true) else (k, false)
theorem turn_calls {w : World} {c : Nat} {k : Cp} (hc : w.heap[c]? = some (.cells k.cells 55 (0, 0))) (op arg : Int) :
  Calls Try.prog 110 #[.pointer (some ⟨c, 0, none⟩), .agg #[.int .i64 op, .int .i64 arg]] w fun e w' => e = .returned (.bool (turnF k op).2) ∧ w'.heap[c]? = some (.cells (turnF k op).1.cells 55 (0, 0)) ∧ KeptC w w' c := by
 obtain ⟨A, X, S, P, Z, N, C, I⟩ := k
 unfold turnF
 by_cases h10 : op = 10
 ·rw [if_pos h10, h10]
  exact turn_10 hc arg
 rw [if_neg h10]
 by_cases h11 : op = 11
 ·rw [if_pos h11, h11]
  exact turn_11 hc arg
 rw [if_neg h11]
 by_cases h12 : op = 12
 ·rw [if_pos h12, h12]
  exact turn_12 hc arg
 rw [if_neg h12]
 by_cases h13 : op = 13
 ·rw [if_pos h13, h13]
  exact turn_13 hc arg
 rw [if_neg h13]
 by_cases h25 : op = 25
 ·rw [if_pos h25, h25]
  exact turn_25 hc arg
 rw [if_neg h25]
 by_cases h26 : op = 26
 ·rw [if_pos h26, h26]
  exact turn_26 hc arg
 rw [if_neg h26]
 by_cases h27 : op = 27
 ·rw [if_pos h27, h27]
  exact turn_27 hc arg
 rw [if_neg h27]
 by_cases h28 : op = 28
 ·rw [if_pos h28, h28]
  exact turn_28 hc arg
 rw [if_neg h28]
 exact turn_no hc op arg (beq_eq_false_iff_ne.mpr h10) (beq_eq_false_iff_ne.mpr h11) (beq_eq_false_iff_ne.mpr h12) (beq_eq_false_iff_ne.mpr h13) (beq_eq_false_iff_ne.mpr h25) (beq_eq_false_iff_ne.mpr h26) (beq_eq_false_iff_ne.mpr h27) (beq_eq_false_iff_ne.mpr h28)

/-! ### impl_WithFlags: function 127 -/
def impl_WithFlags.f (a0_0 : Int) (a0_1 : Int) (a0_2 : Int) (a0_3 : Int) (a0_4 : Bool) (a0_5 : Bool) (a0_6 : Bool) (a0_7 : Bool) (a1 : Int) : Option (Int × Int × Int × Int × Bool × Bool × Bool × Bool) := some (a0_0, a0_1, a0_2, a0_3, ((Go.bits .and .i64 a1 2) != 0), ((Go.bits .and .i64 a1 128) != 0), ((Go.bits .and .i64 a1 1) != 0), ((Go.bits .and .i64 a1 4) != 0))
theorem impl_WithFlags.calls (a0_0 : Int) (a0_1 : Int) (a0_2 : Int) (a0_3 : Int) (a0_4 : Bool) (a0_5 : Bool) (a0_6 : Bool) (a0_7 : Bool) (a1 : Int) (r1 : Int) (r2 : Int) (r3 : Int) (r4 : Int) (r5 : Bool) (r6 : Bool) (r7 : Bool) (r8 : Bool) (w : World) (h : impl_WithFlags.f a0_0 a0_1 a0_2 a0_3 a0_4 a0_5 a0_6 a0_7 a1 = some (r1, r2, r3, r4, r5, r6, r7, r8)) :
  Calls Try.prog 127 #[.agg #[.int .i64 a0_0, .int .i64 a0_1, .int .i64 a0_2, .int .i64 a0_3, .bool a0_4, .bool a0_5, .bool a0_6, .bool a0_7], .int .i64 a1] w fun e w' => e = .returned (.agg #[.int .i64 r1, .int .i64 r2, .int .i64 r3, .int .i64 r4, .bool r5, .bool r6, .bool r7, .bool r8]) ∧ Below w.heap.size w w' := by
 have hu55 := Try.underlying55
 have HB := am (Below.refl w.heap.size w)
 have H : (some (a0_0, a0_1, a0_2, a0_3, ((Go.bits .and .i64 a1 2) != 0), ((Go.bits .and .i64 a1 128) != 0), ((Go.bits .and .i64 a1 1) != 0), ((Go.bits .and .i64 a1 4) != 0))) = some (r1, r2, r3, r4, r5, r6, r7, r8) := h
 clear h
 simp only [Option.some.injEq, Prod.mk.injEq] at H
 obtain ⟨rfl, rfl, rfl, rfl, rfl, rfl, rfl, rfl⟩ := H
 go_enter Try.func127, Try.ntmps127
 go_wp2_with (first | ((with_reducible refine gd 2 ?_); refine bx (N := 2) (cs := #[.int .i64 a0_0, .int .i64 a0_1, .int .i64 a0_2, .int .i64 a0_3, .bool a0_4, .bool a0_5, .bool a0_6, .bool a0_7]) (t := 55) ?_; intro gb616 hg w3 hbox hb; have BK616 := am (hbox); have GW616 := am ((gs hg (bw HB.out))); have GE616 := am ((gs hg (bw HB.out))); replace HB := am (below_step (bw HB.out) hb); clear hb hbox hg) | ((with_reducible refine gd 4 ?_); refine bz (N := 4) ?_; intro gb617 hg w4 hbox hb; have BK617 := am (hbox); have GW617 := am ((gs hg (bw HB.out))); have GE617 := am ((gs hg (bw HB.out))); replace HB := am (below_step (bw HB.out) hb); have NB616_617 := am ((ga hg BK616.out)); have NB617_616 := am ((gc hg BK616.out)); replace BK616 := am (bb BK616 hb); clear hb hbox hg; have p_ := NB616_617.out; obtain ⟨hcz6_0, hcz6_1, hcz6_2, hcz6_3, hcz6_4, hcz6_5, hcz6_6, hcz6_7⟩ := ce8 BK616; obtain ⟨hfz6_0, hfz6_1, hfz6_2, hfz6_3, hfz6_4, hfz6_5, hfz6_6, hfz6_7⟩ := fz8 BK616; obtain ⟨hcz7_0, hcz7_1, hcz7_2, hcz7_3, hcz7_4, hcz7_5, hcz7_6, hcz7_7⟩ := ce8 BK617; obtain ⟨hfz7_0, hfz7_1, hfz7_2, hfz7_3, hfz7_4, hfz7_5, hfz7_6, hfz7_7⟩ := fz8 BK617))
 refine bodyPost_ret (results_cell_row rfl _ _ gb617 55 #[.int .i64 a0_0, .int .i64 a0_1, .int .i64 a0_2, .int .i64 a0_3, .bool ((Go.bits .and .i64 a1 2) != 0), .bool ((Go.bits .and .i64 a1 128) != 0), .bool ((Go.bits .and .i64 a1 1) != 0), .bool ((Go.bits .and .i64 a1 4) != 0)] (0, 0) _ rfl (bf NB617_616 BK617.out) Try.underlying55 rfl (by kernel_rfl)) rfl ?_
 exact ⟨rt, bw HB.out⟩

-- NOT PRINTED: function 111 (impl_Mem_flow)

-- NOT PRINTED: function 89 (impl_Mem_exec)

/-! ### impl_flow (mine) -/
theorem addr_ex (a : Int) : ∃ t, impl_Addr.f a = some t ∧ a % 65536 = t := by
 refine ⟨_, ?_, rfl⟩
 unfold impl_Addr.f
 rw [and65535]
def flagK (k : Cp) (v : Int) : Cp := { k with Z := Go.bits .and .i64 v 2 != 0, N := Go.bits .and .i64 v 128 != 0, C := Go.bits .and .i64 v 1 != 0, I := Go.bits .and .i64 v 4 != 0 }
theorem flag_ex (k : Cp) (v : Int) : ∃ z n c i, impl_WithFlags.f k.A k.X k.S k.P k.Z k.N k.C k.I v = some (k.A, k.X, k.S, k.P, z, n, c, i) ∧ flagK k v = ⟨k.A, k.X, k.S, k.P, z, n, c, i⟩ := by
 refine ⟨_, _, _, _, ?_, rfl⟩
 unfold impl_WithFlags.f
 rfl
theorem MC.put8 {w0 w : World} {x c : Nat} {rv : Value} {b : Int} {k : Cp} {ram : List Int} (h : MC w0 w x c rv b k ram) (a x1 s p : Int) (z n cc i : Bool) :
  MC w0 ((((((((w.setCell ⟨c, 0, none⟩ (.int .i64 a)).setCell ⟨c, 1, none⟩ (.int .i64 x1)).setCell ⟨c, 2, none⟩ (.int .i64 s)).setCell ⟨c, 3, none⟩ (.int .i64 p)).setCell ⟨c, 4, none⟩ (.bool z)).setCell ⟨c, 5, none⟩ (.bool n)).setCell ⟨c, 6, none⟩ (.bool cc)).setCell ⟨c, 7, none⟩ (.bool i)) x c rv b ⟨a, x1, s, p, z, n, cc, i⟩ ram :=
 (((((((h.setC (k' := ⟨a, k.X, k.S, k.P, k.Z, k.N, k.C, k.I⟩) 0 _ rfl).setC (k' := ⟨a, x1, k.S, k.P, k.Z, k.N, k.C, k.I⟩) 1 _ rfl).setC (k' := ⟨a, x1, s, k.P, k.Z, k.N, k.C, k.I⟩) 2 _ rfl).setC (k' := ⟨a, x1, s, p, k.Z, k.N, k.C, k.I⟩) 3 _ rfl).setC (k' := ⟨a, x1, s, p, z, k.N, k.C, k.I⟩) 4 _ rfl).setC (k' := ⟨a, x1, s, p, z, n, k.C, k.I⟩) 5 _ rfl).setC (k' := ⟨a, x1, s, p, z, n, cc, k.I⟩) 6 _ rfl).setC (k' := ⟨a, x1, s, p, z, n, cc, i⟩) 7 _ rfl
theorem keptM8 {w W : World} {r : Nat} {Q : Nat → Prop} (h : Kept w W (fun j => j = r ∨ Q j)) (u0 u1 u2 u3 u4 u5 u6 u7 : Value) :
  Kept w ((((((((W.setCell ⟨r, 0, none⟩ u0).setCell ⟨r, 1, none⟩ u1).setCell ⟨r, 2, none⟩ u2).setCell ⟨r, 3, none⟩ u3).setCell ⟨r, 4, none⟩ u4).setCell ⟨r, 5, none⟩ u5).setCell ⟨r, 6, none⟩ u6).setCell ⟨r, 7, none⟩ u7) (fun j => j = r ∨ Q j) :=
 kept_set (kept_set (kept_set (kept_set (kept_set (kept_set (kept_set (kept_set h (.inl rfl) _) (.inl rfl) _) (.inl rfl) _) (.inl rfl) _) (.inl rfl) _) (.inl rfl) _) (.inl rfl) _) (.inl rfl) _
theorem flow_16_true {w0 w : World} {x c : Nat} {rv : Value} {b : Int} {A X S P : Int} {N C I : Bool} {ram : List Int} (h : MC w0 w x c rv b (⟨A, X, S, P, true, N, C, I⟩ : Cp) ram) (arg : Int) :
  Calls Try.prog 111 #[.pointer (some ⟨x, 0, none⟩), .pointer (some ⟨c, 0, none⟩), .agg #[.int .i64 16, .int .i64 arg]] w fun e w' => e = .returned (.tuple #[]) ∧ MC w0 w' x c rv b (⟨A, X, S, P, true, N, C, I⟩ : Cp) ram ∧ Kept w w' (fun j => j = c ∨ some j = rv.ownBlock) := by
 obtain ⟨tgt, ht, et⟩ := addr_ex arg
 have HT := am ht
 have ET := am et
 clear ht et
 have hu37 := Try.underlying32
 have hu38 := Try.underlying55
 have hu68 := Try.underlying51
 have H0 := am h
 clear h
 go_enter Try.func111, Try.ntmps111
 go_wp2_with (first | ((with_reducible refine gd 5 ?_); refine bx (N := 5) (cs := #[.int .i64 16, .int .i64 arg]) (t := 51) ?_; intro g hg w1 hbox hb; have H1 := am (H0.out.later hb); have HB1 := am hb; have hb1 : w1.cell? ⟨g, 0, none⟩ = some (.int .i64 16) := (blk_cell hbox 0).trans rfl; have hb2 : w1.cell? ⟨g, 1, none⟩ = some (.int .i64 arg) := (blk_cell hbox 1).trans rfl; clear hbox hb hg H0; obtain ⟨⟨y0, y1, y2, y3, y4, y5, y6, y7⟩, ⟨fy0, fy1, fy2, fy3, fy4, fy5, fy6, fy7⟩⟩ := cells8 (H1.out.cpu)) | (go_at_call 52; refine (impl_Addr.calls arg tgt _ HT.out).mono ?_; rintro e w2 ⟨rfl, nd, rfl⟩))
 go_end0
 exact ⟨rfl, H1.out.drewN nd, ((Kept.of_below HB1.out _).drewN nd)⟩
theorem flow_16_false {w0 w : World} {x c : Nat} {rv : Value} {b : Int} {A X S P : Int} {N C I : Bool} {ram : List Int} (h : MC w0 w x c rv b (⟨A, X, S, P, false, N, C, I⟩ : Cp) ram) (arg : Int) :
  Calls Try.prog 111 #[.pointer (some ⟨x, 0, none⟩), .pointer (some ⟨c, 0, none⟩), .agg #[.int .i64 16, .int .i64 arg]] w fun e w' => e = .returned (.tuple #[]) ∧ MC w0 w' x c rv b ({ (⟨A, X, S, P, false, N, C, I⟩ : Cp) with P := arg % 65536 }) ram ∧ Kept w w' (fun j => j = c ∨ some j = rv.ownBlock) := by
 obtain ⟨tgt, ht, et⟩ := addr_ex arg
 have HT := am ht
 have ET := am et
 clear ht et
 have hu37 := Try.underlying32
 have hu38 := Try.underlying55
 have hu68 := Try.underlying51
 have H0 := am h
 clear h
 go_enter Try.func111, Try.ntmps111
 go_wp2_with (first | ((with_reducible refine gd 5 ?_); refine bx (N := 5) (cs := #[.int .i64 16, .int .i64 arg]) (t := 51) ?_; intro g hg w1 hbox hb; have H1 := am (H0.out.later hb); have HB1 := am hb; have hb1 : w1.cell? ⟨g, 0, none⟩ = some (.int .i64 16) := (blk_cell hbox 0).trans rfl; have hb2 : w1.cell? ⟨g, 1, none⟩ = some (.int .i64 arg) := (blk_cell hbox 1).trans rfl; clear hbox hb hg H0; obtain ⟨⟨y0, y1, y2, y3, y4, y5, y6, y7⟩, ⟨fy0, fy1, fy2, fy3, fy4, fy5, fy6, fy7⟩⟩ := cells8 (H1.out.cpu)) | (go_at_call 52; refine (impl_Addr.calls arg tgt _ HT.out).mono ?_; rintro e w2 ⟨rfl, nd, rfl⟩))
 go_end0
 rw [ET.out]
 exact ⟨rfl, (H1.out.drewN nd).setC 3 _ rfl, kept_set ((Kept.of_below HB1.out _).drewN nd) (.inl rfl) _⟩
theorem flow_17_true {w0 w : World} {x c : Nat} {rv : Value} {b : Int} {A X S P : Int} {N C I : Bool} {ram : List Int} (h : MC w0 w x c rv b (⟨A, X, S, P, true, N, C, I⟩ : Cp) ram) (arg : Int) :
  Calls Try.prog 111 #[.pointer (some ⟨x, 0, none⟩), .pointer (some ⟨c, 0, none⟩), .agg #[.int .i64 17, .int .i64 arg]] w fun e w' => e = .returned (.tuple #[]) ∧ MC w0 w' x c rv b ({ (⟨A, X, S, P, true, N, C, I⟩ : Cp) with P := arg % 65536 }) ram ∧ Kept w w' (fun j => j = c ∨ some j = rv.ownBlock) := by
 obtain ⟨tgt, ht, et⟩ := addr_ex arg
 have HT := am ht
 have ET := am et
 clear ht et
 have hu37 := Try.underlying32
 have hu38 := Try.underlying55
 have hu68 := Try.underlying51
 have H0 := am h
 clear h
 go_enter Try.func111, Try.ntmps111
 go_wp2_with (first | ((with_reducible refine gd 5 ?_); refine bx (N := 5) (cs := #[.int .i64 17, .int .i64 arg]) (t := 51) ?_; intro g hg w1 hbox hb; have H1 := am (H0.out.later hb); have HB1 := am hb; have hb1 : w1.cell? ⟨g, 0, none⟩ = some (.int .i64 17) := (blk_cell hbox 0).trans rfl; have hb2 : w1.cell? ⟨g, 1, none⟩ = some (.int .i64 arg) := (blk_cell hbox 1).trans rfl; clear hbox hb hg H0; obtain ⟨⟨y0, y1, y2, y3, y4, y5, y6, y7⟩, ⟨fy0, fy1, fy2, fy3, fy4, fy5, fy6, fy7⟩⟩ := cells8 (H1.out.cpu)) | (go_at_call 52; refine (impl_Addr.calls arg tgt _ HT.out).mono ?_; rintro e w2 ⟨rfl, nd, rfl⟩))
 go_end0
 rw [ET.out]
 exact ⟨rfl, (H1.out.drewN nd).setC 3 _ rfl, kept_set ((Kept.of_below HB1.out _).drewN nd) (.inl rfl) _⟩
theorem flow_17_false {w0 w : World} {x c : Nat} {rv : Value} {b : Int} {A X S P : Int} {N C I : Bool} {ram : List Int} (h : MC w0 w x c rv b (⟨A, X, S, P, false, N, C, I⟩ : Cp) ram) (arg : Int) :
  Calls Try.prog 111 #[.pointer (some ⟨x, 0, none⟩), .pointer (some ⟨c, 0, none⟩), .agg #[.int .i64 17, .int .i64 arg]] w fun e w' => e = .returned (.tuple #[]) ∧ MC w0 w' x c rv b (⟨A, X, S, P, false, N, C, I⟩ : Cp) ram ∧ Kept w w' (fun j => j = c ∨ some j = rv.ownBlock) := by
 obtain ⟨tgt, ht, et⟩ := addr_ex arg
 have HT := am ht
 have ET := am et
 clear ht et
 have hu37 := Try.underlying32
 have hu38 := Try.underlying55
 have hu68 := Try.underlying51
 have H0 := am h
 clear h
 go_enter Try.func111, Try.ntmps111
 go_wp2_with (first | ((with_reducible refine gd 5 ?_); refine bx (N := 5) (cs := #[.int .i64 17, .int .i64 arg]) (t := 51) ?_; intro g hg w1 hbox hb; have H1 := am (H0.out.later hb); have HB1 := am hb; have hb1 : w1.cell? ⟨g, 0, none⟩ = some (.int .i64 17) := (blk_cell hbox 0).trans rfl; have hb2 : w1.cell? ⟨g, 1, none⟩ = some (.int .i64 arg) := (blk_cell hbox 1).trans rfl; clear hbox hb hg H0; obtain ⟨⟨y0, y1, y2, y3, y4, y5, y6, y7⟩, ⟨fy0, fy1, fy2, fy3, fy4, fy5, fy6, fy7⟩⟩ := cells8 (H1.out.cpu)) | (go_at_call 52; refine (impl_Addr.calls arg tgt _ HT.out).mono ?_; rintro e w2 ⟨rfl, nd, rfl⟩))
 go_end0
 exact ⟨rfl, H1.out.drewN nd, ((Kept.of_below HB1.out _).drewN nd)⟩
theorem flow_18_true {w0 w : World} {x c : Nat} {rv : Value} {b : Int} {A X S P : Int} {Z N I : Bool} {ram : List Int} (h : MC w0 w x c rv b (⟨A, X, S, P, Z, N, true, I⟩ : Cp) ram) (arg : Int) :
  Calls Try.prog 111 #[.pointer (some ⟨x, 0, none⟩), .pointer (some ⟨c, 0, none⟩), .agg #[.int .i64 18, .int .i64 arg]] w fun e w' => e = .returned (.tuple #[]) ∧ MC w0 w' x c rv b ({ (⟨A, X, S, P, Z, N, true, I⟩ : Cp) with P := arg % 65536 }) ram ∧ Kept w w' (fun j => j = c ∨ some j = rv.ownBlock) := by
 obtain ⟨tgt, ht, et⟩ := addr_ex arg
 have HT := am ht
 have ET := am et
 clear ht et
 have hu37 := Try.underlying32
 have hu38 := Try.underlying55
 have hu68 := Try.underlying51
 have H0 := am h
 clear h
 go_enter Try.func111, Try.ntmps111
 go_wp2_with (first | ((with_reducible refine gd 5 ?_); refine bx (N := 5) (cs := #[.int .i64 18, .int .i64 arg]) (t := 51) ?_; intro g hg w1 hbox hb; have H1 := am (H0.out.later hb); have HB1 := am hb; have hb1 : w1.cell? ⟨g, 0, none⟩ = some (.int .i64 18) := (blk_cell hbox 0).trans rfl; have hb2 : w1.cell? ⟨g, 1, none⟩ = some (.int .i64 arg) := (blk_cell hbox 1).trans rfl; clear hbox hb hg H0; obtain ⟨⟨y0, y1, y2, y3, y4, y5, y6, y7⟩, ⟨fy0, fy1, fy2, fy3, fy4, fy5, fy6, fy7⟩⟩ := cells8 (H1.out.cpu)) | (go_at_call 52; refine (impl_Addr.calls arg tgt _ HT.out).mono ?_; rintro e w2 ⟨rfl, nd, rfl⟩))
 go_end0
 rw [ET.out]
 exact ⟨rfl, (H1.out.drewN nd).setC 3 _ rfl, kept_set ((Kept.of_below HB1.out _).drewN nd) (.inl rfl) _⟩
theorem flow_18_false {w0 w : World} {x c : Nat} {rv : Value} {b : Int} {A X S P : Int} {Z N I : Bool} {ram : List Int} (h : MC w0 w x c rv b (⟨A, X, S, P, Z, N, false, I⟩ : Cp) ram) (arg : Int) :
  Calls Try.prog 111 #[.pointer (some ⟨x, 0, none⟩), .pointer (some ⟨c, 0, none⟩), .agg #[.int .i64 18, .int .i64 arg]] w fun e w' => e = .returned (.tuple #[]) ∧ MC w0 w' x c rv b (⟨A, X, S, P, Z, N, false, I⟩ : Cp) ram ∧ Kept w w' (fun j => j = c ∨ some j = rv.ownBlock) := by
 obtain ⟨tgt, ht, et⟩ := addr_ex arg
 have HT := am ht
 have ET := am et
 clear ht et
 have hu37 := Try.underlying32
 have hu38 := Try.underlying55
 have hu68 := Try.underlying51
 have H0 := am h
 clear h
 go_enter Try.func111, Try.ntmps111
 go_wp2_with (first | ((with_reducible refine gd 5 ?_); refine bx (N := 5) (cs := #[.int .i64 18, .int .i64 arg]) (t := 51) ?_; intro g hg w1 hbox hb; have H1 := am (H0.out.later hb); have HB1 := am hb; have hb1 : w1.cell? ⟨g, 0, none⟩ = some (.int .i64 18) := (blk_cell hbox 0).trans rfl; have hb2 : w1.cell? ⟨g, 1, none⟩ = some (.int .i64 arg) := (blk_cell hbox 1).trans rfl; clear hbox hb hg H0; obtain ⟨⟨y0, y1, y2, y3, y4, y5, y6, y7⟩, ⟨fy0, fy1, fy2, fy3, fy4, fy5, fy6, fy7⟩⟩ := cells8 (H1.out.cpu)) | (go_at_call 52; refine (impl_Addr.calls arg tgt _ HT.out).mono ?_; rintro e w2 ⟨rfl, nd, rfl⟩))
 go_end0
 exact ⟨rfl, H1.out.drewN nd, ((Kept.of_below HB1.out _).drewN nd)⟩
theorem flow_19 {w0 w : World} {x c : Nat} {rv : Value} {b : Int} {A X S P : Int} {Z N C I : Bool} {ram : List Int} (h : MC w0 w x c rv b (⟨A, X, S, P, Z, N, C, I⟩ : Cp) ram) (arg : Int) :
  Calls Try.prog 111 #[.pointer (some ⟨x, 0, none⟩), .pointer (some ⟨c, 0, none⟩), .agg #[.int .i64 19, .int .i64 arg]] w fun e w' => e = .returned (.tuple #[]) ∧ MC w0 w' x c rv b ({ (⟨A, X, S, P, Z, N, C, I⟩ : Cp) with P := arg % 65536 }) ram ∧ Kept w w' (fun j => j = c ∨ some j = rv.ownBlock) := by
 obtain ⟨tgt, ht, et⟩ := addr_ex arg
 have HT := am ht
 have ET := am et
 clear ht et
 have hu37 := Try.underlying32
 have hu38 := Try.underlying55
 have hu68 := Try.underlying51
 have H0 := am h
 clear h
 go_enter Try.func111, Try.ntmps111
 go_wp2_with (first | ((with_reducible refine gd 5 ?_); refine bx (N := 5) (cs := #[.int .i64 19, .int .i64 arg]) (t := 51) ?_; intro g hg w1 hbox hb; have H1 := am (H0.out.later hb); have HB1 := am hb; have hb1 : w1.cell? ⟨g, 0, none⟩ = some (.int .i64 19) := (blk_cell hbox 0).trans rfl; have hb2 : w1.cell? ⟨g, 1, none⟩ = some (.int .i64 arg) := (blk_cell hbox 1).trans rfl; clear hbox hb hg H0; obtain ⟨⟨y0, y1, y2, y3, y4, y5, y6, y7⟩, ⟨fy0, fy1, fy2, fy3, fy4, fy5, fy6, fy7⟩⟩ := cells8 (H1.out.cpu)) | (go_at_call 52; refine (impl_Addr.calls arg tgt _ HT.out).mono ?_; rintro e w2 ⟨rfl, nd, rfl⟩))
 go_end0
 rw [ET.out]
 exact ⟨rfl, (H1.out.drewN nd).setC 3 _ rfl, kept_set ((Kept.of_below HB1.out _).drewN nd) (.inl rfl) _⟩
theorem flow_20 {w0 w : World} {x c : Nat} {rv : Value} {b : Int} {A X S P : Int} {Z N C I : Bool} {ram : List Int} (h : MC w0 w x c rv b (⟨A, X, S, P, Z, N, C, I⟩ : Cp) ram) (arg : Int) :
  Calls Try.prog 111 #[.pointer (some ⟨x, 0, none⟩), .pointer (some ⟨c, 0, none⟩), .agg #[.int .i64 20, .int .i64 arg]] w fun e w' => e = .returned (.tuple #[]) ∧ MC w0 w' x c rv b { (pushPcF ram (⟨A, X, S, P, Z, N, C, I⟩ : Cp)).2 with P := arg % 65536 } (pushPcF ram (⟨A, X, S, P, Z, N, C, I⟩ : Cp)).1 ∧ Kept w w' (fun j => j = c ∨ some j = rv.ownBlock) := by
 obtain ⟨tgt, ht, et⟩ := addr_ex arg
 have HT := am ht
 have ET := am et
 clear ht et
 have hu37 := Try.underlying32
 have hu38 := Try.underlying55
 have hu68 := Try.underlying51
 have H0 := am h
 clear h
 go_enter Try.func111, Try.ntmps111
 go_wp2_with (first | ((with_reducible refine gd 5 ?_); refine bx (N := 5) (cs := #[.int .i64 20, .int .i64 arg]) (t := 51) ?_; intro g hg w1 hbox hb; have H1 := am (H0.out.later hb); have HB1 := am hb; have hb1 : w1.cell? ⟨g, 0, none⟩ = some (.int .i64 20) := (blk_cell hbox 0).trans rfl; have hb2 : w1.cell? ⟨g, 1, none⟩ = some (.int .i64 arg) := (blk_cell hbox 1).trans rfl; clear hbox hb hg H0; obtain ⟨⟨y0, y1, y2, y3, y4, y5, y6, y7⟩, ⟨fy0, fy1, fy2, fy3, fy4, fy5, fy6, fy7⟩⟩ := cells8 (H1.out.cpu)) | (go_at_call 52; refine (impl_Addr.calls arg tgt _ HT.out).mono ?_; rintro e w2 ⟨rfl, nd, rfl⟩))
 refine (pushPc_calls (H1.out.drewN nd)).mono ?_
 rintro e w4 ⟨rfl, h4, k4⟩
 generalize hq : pushPcF ram (⟨A, X, S, P, Z, N, C, I⟩ : Cp) = q at *
 have HQ := am hq
 clear hq
 have H4 := am h4
 have hP := blkP h4.cpu
 have fP := blk_frozen h4.cpu 3
 clear h4
 go_wp2
 go_end0
 rw [ET.out, HQ.out]
 exact ⟨rfl, H4.out.setC 3 _ rfl, kept_set (((Kept.of_below HB1.out _).drewN nd).then_ k4 (fun j hj => .inl hj)) (.inl rfl) _⟩
theorem flow_21 {w0 w : World} {x c : Nat} {rv : Value} {b : Int} {A X S P : Int} {Z N C I : Bool} {ram : List Int} (h : MC w0 w x c rv b (⟨A, X, S, P, Z, N, C, I⟩ : Cp) ram) (arg : Int) :
  Calls Try.prog 111 #[.pointer (some ⟨x, 0, none⟩), .pointer (some ⟨c, 0, none⟩), .agg #[.int .i64 21, .int .i64 arg]] w fun e w' => e = .returned (.tuple #[]) ∧ MC w0 w' x c rv b (backF ram (⟨A, X, S, P, Z, N, C, I⟩ : Cp)) ram ∧ Kept w w' (fun j => j = c ∨ some j = rv.ownBlock) := by
 obtain ⟨tgt, ht, et⟩ := addr_ex arg
 have HT := am ht
 have ET := am et
 clear ht et
 have hu37 := Try.underlying32
 have hu38 := Try.underlying55
 have hu68 := Try.underlying51
 have H0 := am h
 clear h
 go_enter Try.func111, Try.ntmps111
 go_wp2_with (first | ((with_reducible refine gd 5 ?_); refine bx (N := 5) (cs := #[.int .i64 21, .int .i64 arg]) (t := 51) ?_; intro g hg w1 hbox hb; have H1 := am (H0.out.later hb); have HB1 := am hb; have hb1 : w1.cell? ⟨g, 0, none⟩ = some (.int .i64 21) := (blk_cell hbox 0).trans rfl; have hb2 : w1.cell? ⟨g, 1, none⟩ = some (.int .i64 arg) := (blk_cell hbox 1).trans rfl; clear hbox hb hg H0; obtain ⟨⟨y0, y1, y2, y3, y4, y5, y6, y7⟩, ⟨fy0, fy1, fy2, fy3, fy4, fy5, fy6, fy7⟩⟩ := cells8 (H1.out.cpu)) | (go_at_call 52; refine (impl_Addr.calls arg tgt _ HT.out).mono ?_; rintro e w2 ⟨rfl, nd, rfl⟩))
 refine (back_calls (H1.out.drewN nd)).mono ?_
 rintro e w4 ⟨rfl, h4, k4⟩
 have H4 := am h4
 clear h4
 go_wp2
 go_end0
 exact ⟨rfl, H4.out, (((Kept.of_below HB1.out _).drewN nd).then_ k4 (fun j hj => .inl hj))⟩
theorem flow_22 {w0 w : World} {x c : Nat} {rv : Value} {b : Int} {A X S P : Int} {Z N C I : Bool} {ram : List Int} (h : MC w0 w x c rv b (⟨A, X, S, P, Z, N, C, I⟩ : Cp) ram) (arg : Int) :
  Calls Try.prog 111 #[.pointer (some ⟨x, 0, none⟩), .pointer (some ⟨c, 0, none⟩), .agg #[.int .i64 22, .int .i64 arg]] w fun e w' => e = .returned (.tuple #[]) ∧ MC w0 w' x c rv b (pushF ram (⟨A, X, S, P, Z, N, C, I⟩ : Cp) A).2 (pushF ram (⟨A, X, S, P, Z, N, C, I⟩ : Cp) A).1 ∧ Kept w w' (fun j => j = c ∨ some j = rv.ownBlock) := by
 obtain ⟨tgt, ht, et⟩ := addr_ex arg
 have HT := am ht
 have ET := am et
 clear ht et
 have hu37 := Try.underlying32
 have hu38 := Try.underlying55
 have hu68 := Try.underlying51
 have H0 := am h
 clear h
 go_enter Try.func111, Try.ntmps111
 go_wp2_with (first | ((with_reducible refine gd 5 ?_); refine bx (N := 5) (cs := #[.int .i64 22, .int .i64 arg]) (t := 51) ?_; intro g hg w1 hbox hb; have H1 := am (H0.out.later hb); have HB1 := am hb; have hb1 : w1.cell? ⟨g, 0, none⟩ = some (.int .i64 22) := (blk_cell hbox 0).trans rfl; have hb2 : w1.cell? ⟨g, 1, none⟩ = some (.int .i64 arg) := (blk_cell hbox 1).trans rfl; clear hbox hb hg H0; obtain ⟨⟨y0, y1, y2, y3, y4, y5, y6, y7⟩, ⟨fy0, fy1, fy2, fy3, fy4, fy5, fy6, fy7⟩⟩ := cells8 (H1.out.cpu)) | (go_at_call 52; refine (impl_Addr.calls arg tgt _ HT.out).mono ?_; rintro e w2 ⟨rfl, nd, rfl⟩))
 refine (push_calls (H1.out.drewN nd) A).mono ?_
 rintro e w4 ⟨rfl, h4, k4⟩
 have H4 := am h4
 clear h4
 go_wp2
 go_end0
 exact ⟨rfl, H4.out, (((Kept.of_below HB1.out _).drewN nd).then_ k4 (fun j hj => .inl hj))⟩
theorem flow_23 {w0 w : World} {x c : Nat} {rv : Value} {b : Int} {A X S P : Int} {Z N C I : Bool} {ram : List Int} (h : MC w0 w x c rv b (⟨A, X, S, P, Z, N, C, I⟩ : Cp) ram) (arg : Int) :
  Calls Try.prog 111 #[.pointer (some ⟨x, 0, none⟩), .pointer (some ⟨c, 0, none⟩), .agg #[.int .i64 23, .int .i64 arg]] w fun e w' => e = .returned (.tuple #[]) ∧ MC w0 w' x c rv b (setAK (pullF ram (⟨A, X, S, P, Z, N, C, I⟩ : Cp)).1 (pullF ram (⟨A, X, S, P, Z, N, C, I⟩ : Cp)).2) ram ∧ Kept w w' (fun j => j = c ∨ some j = rv.ownBlock) := by
 obtain ⟨tgt, ht, et⟩ := addr_ex arg
 have HT := am ht
 have ET := am et
 clear ht et
 have hu37 := Try.underlying32
 have hu38 := Try.underlying55
 have hu68 := Try.underlying51
 have H0 := am h
 clear h
 go_enter Try.func111, Try.ntmps111
 go_wp2_with (first | ((with_reducible refine gd 5 ?_); refine bx (N := 5) (cs := #[.int .i64 23, .int .i64 arg]) (t := 51) ?_; intro g hg w1 hbox hb; have H1 := am (H0.out.later hb); have HB1 := am hb; have hb1 : w1.cell? ⟨g, 0, none⟩ = some (.int .i64 23) := (blk_cell hbox 0).trans rfl; have hb2 : w1.cell? ⟨g, 1, none⟩ = some (.int .i64 arg) := (blk_cell hbox 1).trans rfl; clear hbox hb hg H0; obtain ⟨⟨y0, y1, y2, y3, y4, y5, y6, y7⟩, ⟨fy0, fy1, fy2, fy3, fy4, fy5, fy6, fy7⟩⟩ := cells8 (H1.out.cpu)) | (go_at_call 52; refine (impl_Addr.calls arg tgt _ HT.out).mono ?_; rintro e w2 ⟨rfl, nd, rfl⟩))
 refine (pull_calls (H1.out.drewN nd)).mono ?_
 rintro e w4 ⟨rfl, h4, k4⟩
 generalize hq : pullF ram (⟨A, X, S, P, Z, N, C, I⟩ : Cp) = q at *
 have HQ := am hq
 clear hq
 obtain ⟨⟨qa, qx, qs, qp, qz, qn, qc, qi⟩, qv⟩ := q
 simp only at h4
 obtain ⟨s1, sz, sn, hf, ek⟩ := seta_ex (⟨qa, qx, qs, qp, qz, qn, qc, qi⟩ : Cp) qv
 have EK := am ek
 clear ek
 have HF := am hf
 have H4 := am h4
 clear hf
 obtain ⟨⟨p0, p1, p2, p3, p4, p5, p6, p7⟩, -⟩ := cells8 h4.cpu
 clear h4
 go_wp2_with (go_at_call 120; refine (impl_SetA.calls qa qx qs qp qz qn qc qi qv s1 qx qs qp sz sn qc qi _ HF.out).mono ?_; rintro e w5 ⟨rfl, hb⟩; have H5 := am (H4.out.later hb); have HB5 := am hb; clear hb; obtain ⟨⟨r0, r1, r2, r3, r4, r5, r6, r7⟩, ⟨f0, f1, f2, f3, f4, f5, f6, f7⟩⟩ := cells8 H5.out.cpu)
 go_end0
 rw [HQ.out]
 simp only
 rw [EK.out]
 exact ⟨trivial, H5.out.put8 _ _ _ _ _ _ _ _, keptM8 ((((Kept.of_below HB1.out _).drewN nd).then_ k4 (fun j hj => .inl hj)).below HB5.out) _ _ _ _ _ _ _ _⟩
theorem flow_24 {w0 w : World} {x c : Nat} {rv : Value} {b : Int} {A X S P : Int} {Z N C I : Bool} {ram : List Int} (h : MC w0 w x c rv b (⟨A, X, S, P, Z, N, C, I⟩ : Cp) ram) (arg : Int) :
  Calls Try.prog 111 #[.pointer (some ⟨x, 0, none⟩), .pointer (some ⟨c, 0, none⟩), .agg #[.int .i64 24, .int .i64 arg]] w fun e w' => e = .returned (.tuple #[]) ∧ MC w0 w' x c rv b (backF ram (flagK (pullF ram (⟨A, X, S, P, Z, N, C, I⟩ : Cp)).1 (pullF ram (⟨A, X, S, P, Z, N, C, I⟩ : Cp)).2)) ram ∧ Kept w w' (fun j => j = c ∨ some j = rv.ownBlock) := by
 obtain ⟨tgt, ht, et⟩ := addr_ex arg
 have HT := am ht
 have ET := am et
 clear ht et
 have hu37 := Try.underlying32
 have hu38 := Try.underlying55
 have hu68 := Try.underlying51
 have H0 := am h
 clear h
 go_enter Try.func111, Try.ntmps111
 go_wp2_with (first | ((with_reducible refine gd 5 ?_); refine bx (N := 5) (cs := #[.int .i64 24, .int .i64 arg]) (t := 51) ?_; intro g hg w1 hbox hb; have H1 := am (H0.out.later hb); have HB1 := am hb; have hb1 : w1.cell? ⟨g, 0, none⟩ = some (.int .i64 24) := (blk_cell hbox 0).trans rfl; have hb2 : w1.cell? ⟨g, 1, none⟩ = some (.int .i64 arg) := (blk_cell hbox 1).trans rfl; clear hbox hb hg H0; obtain ⟨⟨y0, y1, y2, y3, y4, y5, y6, y7⟩, ⟨fy0, fy1, fy2, fy3, fy4, fy5, fy6, fy7⟩⟩ := cells8 (H1.out.cpu)) | (go_at_call 52; refine (impl_Addr.calls arg tgt _ HT.out).mono ?_; rintro e w2 ⟨rfl, nd, rfl⟩))
 refine (pull_calls (H1.out.drewN nd)).mono ?_
 rintro e w4 ⟨rfl, h4, k4⟩
 generalize hq : pullF ram (⟨A, X, S, P, Z, N, C, I⟩ : Cp) = q at *
 have HQ := am hq
 clear hq
 obtain ⟨⟨qa, qx, qs, qp, qz, qn, qc, qi⟩, qv⟩ := q
 simp only at h4
 obtain ⟨vz, vn, vc, vi, hf, ek⟩ := flag_ex (⟨qa, qx, qs, qp, qz, qn, qc, qi⟩ : Cp) qv
 have EK := am ek
 clear ek
 have HF := am hf
 have H4 := am h4
 clear hf
 obtain ⟨⟨p0, p1, p2, p3, p4, p5, p6, p7⟩, -⟩ := cells8 h4.cpu
 clear h4
 go_wp2_with (go_at_call 127; refine (impl_WithFlags.calls qa qx qs qp qz qn qc qi qv qa qx qs qp vz vn vc vi _ HF.out).mono ?_; rintro e w5 ⟨rfl, hb⟩; have H5 := am (H4.out.later hb); have HB5 := am hb; clear hb; obtain ⟨⟨r0, r1, r2, r3, r4, r5, r6, r7⟩, ⟨f0, f1, f2, f3, f4, f5, f6, f7⟩⟩ := cells8 H5.out.cpu)
 refine (back_calls (H5.out.put8 _ _ _ _ _ _ _ _)).mono ?_
 rintro e w6 ⟨rfl, h6, k6⟩
 have H6 := am h6
 clear h6
 go_wp2
 go_end0
 rw [HQ.out]
 simp only
 rw [EK.out]
 exact ⟨trivial, H6.out, (keptM8 ((((Kept.of_below HB1.out _).drewN nd).then_ k4 (fun j hj => .inl hj)).below HB5.out) _ _ _ _ _ _ _ _).then_ k6 (fun j hj => .inl hj)⟩
theorem flow_no {w0 w : World} {x c : Nat} {rv : Value} {b : Int} {A X S P : Int} {Z N C I : Bool} {ram : List Int} (h : MC w0 w x c rv b (⟨A, X, S, P, Z, N, C, I⟩ : Cp) ram) (op arg : Int) (n16 : (op == 16) = false) (n17 : (op == 17) = false) (n18 : (op == 18) = false) (n19 : (op == 19) = false) (n20 : (op == 20) = false) (n21 : (op == 21) = false) (n22 : (op == 22) = false) (n23 : (op == 23) = false) (n24 : (op == 24) = false) :
  Calls Try.prog 111 #[.pointer (some ⟨x, 0, none⟩), .pointer (some ⟨c, 0, none⟩), .agg #[.int .i64 op, .int .i64 arg]] w fun e w' => e = .returned (.tuple #[]) ∧ MC w0 w' x c rv b (⟨A, X, S, P, Z, N, C, I⟩ : Cp) ram ∧ Kept w w' (fun j => j = c ∨ some j = rv.ownBlock) := by
 obtain ⟨tgt, ht, et⟩ := addr_ex arg
 have HT := am ht
 have ET := am et
 clear ht et
 have hu37 := Try.underlying32
 have hu38 := Try.underlying55
 have hu68 := Try.underlying51
 have H0 := am h
 clear h
 go_enter Try.func111, Try.ntmps111
 go_wp2_with (first | ((with_reducible refine gd 5 ?_); refine bx (N := 5) (cs := #[.int .i64 op, .int .i64 arg]) (t := 51) ?_; intro g hg w1 hbox hb; have H1 := am (H0.out.later hb); have HB1 := am hb; have hb1 : w1.cell? ⟨g, 0, none⟩ = some (.int .i64 op) := (blk_cell hbox 0).trans rfl; have hb2 : w1.cell? ⟨g, 1, none⟩ = some (.int .i64 arg) := (blk_cell hbox 1).trans rfl; clear hbox hb hg H0; obtain ⟨⟨y0, y1, y2, y3, y4, y5, y6, y7⟩, ⟨fy0, fy1, fy2, fy3, fy4, fy5, fy6, fy7⟩⟩ := cells8 (H1.out.cpu)) | (go_at_call 52; refine (impl_Addr.calls arg tgt _ HT.out).mono ?_; rintro e w2 ⟨rfl, nd, rfl⟩))
 go_end0
 exact ⟨rfl, H1.out.drewN nd, ((Kept.of_below HB1.out _).drewN nd)⟩
def flowF (ram : List Int) (k : Cp) (op arg : Int) : List Int × Cp := if op = 16 then (ram, if k.Z = true then k else { k with P := arg % 65536 }) else if op = 17 then (ram, if k.Z = true then { k with P := arg % 65536 } else k) else if op = 18 then (ram, if k.C = true then { k with P := arg % 65536 } else k) else if op = 19 then (ram, { k with P := arg % 65536 }) else if op = 20 then ((pushPcF ram k).1, { (pushPcF ram k).2 with P := arg % 65536 }) else if op = 21 then (ram, backF ram k) else if op = 22 then pushF ram k k.A else if op = 23 then (ram, setAK (pullF ram k).1 (pullF ram k).2) else if op = 24 then (ram, backF ram (flagK (pullF ram k).1 (pullF ram k).2)) else (ram, k)
theorem flow_calls {w0 w : World} {x c : Nat} {rv : Value} {b : Int} {k : Cp} {ram : List Int} (h : MC w0 w x c rv b k ram) (op arg : Int) :
  Calls Try.prog 111 #[.pointer (some ⟨x, 0, none⟩), .pointer (some ⟨c, 0, none⟩), .agg #[.int .i64 op, .int .i64 arg]] w fun e w' => e = .returned (.tuple #[]) ∧ MC w0 w' x c rv b (flowF ram k op arg).2 (flowF ram k op arg).1 ∧ Kept w w' (fun j => j = c ∨ some j = rv.ownBlock) := by
 obtain ⟨A, X, S, P, Z, N, C, I⟩ := k
 unfold flowF
 by_cases h16 : op = 16
 ·rw [if_pos h16, h16]
  cases Z
  ·exact flow_16_false h arg
  ·exact flow_16_true h arg
 rw [if_neg h16]
 by_cases h17 : op = 17
 ·rw [if_pos h17, h17]
  cases Z
  ·exact flow_17_false h arg
  ·exact flow_17_true h arg
 rw [if_neg h17]
 by_cases h18 : op = 18
 ·rw [if_pos h18, h18]
  cases C
  ·exact flow_18_false h arg
  ·exact flow_18_true h arg
 rw [if_neg h18]
 by_cases h19 : op = 19
 ·rw [if_pos h19, h19]
  exact flow_19 h arg
 rw [if_neg h19]
 by_cases h20 : op = 20
 ·rw [if_pos h20, h20]
  exact flow_20 h arg
 rw [if_neg h20]
 by_cases h21 : op = 21
 ·rw [if_pos h21, h21]
  exact flow_21 h arg
 rw [if_neg h21]
 by_cases h22 : op = 22
 ·rw [if_pos h22, h22]
  exact flow_22 h arg
 rw [if_neg h22]
 by_cases h23 : op = 23
 ·rw [if_pos h23, h23]
  exact flow_23 h arg
 rw [if_neg h23]
 by_cases h24 : op = 24
 ·rw [if_pos h24, h24]
  exact flow_24 h arg
 rw [if_neg h24]
 exact flow_no h op arg (beq_eq_false_iff_ne.mpr h16) (beq_eq_false_iff_ne.mpr h17) (beq_eq_false_iff_ne.mpr h18) (beq_eq_false_iff_ne.mpr h19) (beq_eq_false_iff_ne.mpr h20) (beq_eq_false_iff_ne.mpr h21) (beq_eq_false_iff_ne.mpr h22) (beq_eq_false_iff_ne.mpr h23) (beq_eq_false_iff_ne.mpr h24)

/-! ### impl_Exec (mine) -/
def execF (ram : List Int) (k : Cp) (op arg v ln : Int) : List Int × Cp := if (reckonF { k with P := wrap64 (k.P + ln) % 65536 } op arg (v % 256)).2 = true then (ram, (reckonF { k with P := wrap64 (k.P + ln) % 65536 } op arg (v % 256)).1) else if (turnF (reckonF { k with P := wrap64 (k.P + ln) % 65536 } op arg (v % 256)).1 op).2 = true then (ram, (turnF (reckonF { k with P := wrap64 (k.P + ln) % 65536 } op arg (v % 256)).1 op).1) else flowF ram (turnF (reckonF { k with P := wrap64 (k.P + ln) % 65536 } op arg (v % 256)).1 op).1 op arg
theorem exec_calls {w0 w : World} {x c : Nat} {rv : Value} {b : Int} {k : Cp} {ram : List Int} (h : MC w0 w x c rv b k ram) (op arg v : Int) (n : Nat) (ln : Int) (hl : impl_OpLen.f n op = some ln) :
  Calls Try.prog 89 #[.pointer (some ⟨x, 0, none⟩), .pointer (some ⟨c, 0, none⟩), .agg #[.int .i64 op, .int .i64 arg], .int .i64 v] w fun e w' => e = .returned (.tuple #[]) ∧ MC w0 w' x c rv b (execF ram k op arg v ln).2 (execF ram k op arg v ln).1 ∧ Kept w w' (fun j => j = c ∨ some j = rv.ownBlock) := by
 obtain ⟨A, X, S, P, Z, N, C, I⟩ := k
 obtain ⟨pc, hp, ep⟩ := addr_ex (wrap64 (P + ln))
 obtain ⟨vb, hv⟩ : ∃ vb, v % 256 = vb := ⟨_, rfl⟩
 have HBY : Aside0 (∀ w, Calls Try.prog 34 #[.int .i64 v] w fun e w' => e = .returned (.int .i64 vb) ∧ w' = w) := ⟨fun w => hv ▸ byte_same v w⟩
 have HL := am hl
 have HP := am hp
 have EP := am ep
 have HV := am hv
 have H0 := am h
 clear h hl hp ep hv
 have hu37 := Try.underlying32
 have hu38 := Try.underlying55
 have hu68 := Try.underlying51
 go_enter Try.func89, Try.ntmps89
 go_wp2_with ((with_reducible refine gd 6 ?_); refine bx (N := 6) (cs := #[.int .i64 op, .int .i64 arg]) (t := 51) ?_; intro g hg w1 hbox hb; have H1 := am (H0.out.later hb); have HB1 := am hb; have HG := am hbox; have HCU : Aside0 (w1.heap[c]? = some (.cells #[.int .i64 A, .int .i64 X, .int .i64 S, .int .i64 P, .bool Z, .bool N, .bool C, .bool I] 55 (0, 0))) := ⟨H1.out.cpu⟩; have NG := am (blk_ne hbox H1.out.cpu (by decide)); clear hbox hb hg H0)
 refine fre_ (n := 13) (e := 10) (g := 0) (T := (true, [([], []), ([], []), ([1], [1]), ([2], [2]), ([3], [3]), ([], []), ([5], [5]), ([6], [6]), ([4, 7], [4, 7]), ([8, 7], [8]), ([0, 0, 1, 2, 3, 4, 5, 6, 7, 8, 9], [0]), ([10, 0, 1, 2, 3, 4, 5, 6, 7, 8, 9], [10]), ([11, 9, 9, 0, 1, 2, 3, 4, 5, 6, 7, 8, 9], [9, 11])])) (bm 13 1023) (bm 13 1022) [8, 9, 10, 11, 12, 13, 14, 15, 16, 17] (fun j u w' => match j with
  | 0 => u = .pointer (some ⟨c, 0, none⟩)
  | 1 => u = .pointer (some ⟨c, 0, none⟩)
  | 2 => u = .pointer (some ⟨c, 0, none⟩)
  | 3 => u = .pointer (some ⟨c, 3, none⟩)
  | 4 => u = .int .i64 P
  | 5 => u = .pointer (some ⟨g, 0, none⟩)
  | 6 => u = .int .i64 op
  | 7 => u = .int .i64 ln
  | 8 => u = .int .i64 (wrap64 (P + ln))
  | 9 => u = .int .i64 pc
  | _ => False)
  (by kernel_rfl) rfl (by kernel_rfl) (by kernel_rfl) (by kernel_rfl) (by kernel_rfl) (fun _ _ _ _ h => h) ?stex ?spex ?laex ?enex
 case stex =>
  intro j u W W' h hb
  exact h
 case spex =>
  intro i hi o ho a W hB hout hneed K hK
  have HBW := am hB
  have hcase : i = 0 ∨ i = 1 ∨ i = 2 ∨ i = 3 ∨ i = 4 ∨ i = 5 ∨ i = 6 ∨ i = 7 ∨ i = 8 ∨ i = 9 := by omega
  clear hB
  rcases hcase with rfl | rfl | rfl | rfl | rfl | rfl | rfl | rfl | rfl | rfl
  ·obtain rfl := oj ho
   have h1 : a.eval (.tmp 1) = .pointer (some ⟨c, 0, none⟩) := hout 1 (by decide)
   have h1' := eval_get h1
   exact va_ (.pointer (some ⟨c, 0, none⟩)) hK rfl
  ·obtain rfl := oj ho
   have h1 : a.eval (.tmp 1) = .pointer (some ⟨c, 0, none⟩) := hout 1 (by decide)
   have h1' := eval_get h1
   exact va_ (.pointer (some ⟨c, 0, none⟩)) hK rfl
  ·obtain rfl := oj ho
   obtain ⟨e1, e1'⟩ := eg (show a.eval (.tmp 9) = _ from hneed 1 (by decide))
   exact va_ (.pointer (some ⟨c, 0, none⟩)) hK rfl
  ·obtain rfl := oj ho
   obtain ⟨e2, e2'⟩ := eg (show a.eval (.tmp 10) = _ from hneed 2 (by decide))
   exact va_ (.pointer (some ⟨c, 3, none⟩)) hK rfl
  ·obtain rfl := oj ho
   obtain ⟨e3, e3'⟩ := eg (show a.eval (.tmp 11) = _ from hneed 3 (by decide))
   have hb := blk_below (w := w1.drew) HCU.out HBW.out
   have d3 := (blk_cell hb 3).trans rfl
   exact va_ (.int .i64 P) hK rfl
  ·obtain rfl := oj ho
   have h6 : a.eval (.tmp 6) = .pointer (some ⟨g, 0, none⟩) := hout 6 (by decide)
   have h6' := eval_get h6
   exact va_ (.pointer (some ⟨g, 0, none⟩)) hK rfl
  ·obtain rfl := oj ho
   obtain ⟨e5, e5'⟩ := eg (show a.eval (.tmp 13) = _ from hneed 5 (by decide))
   have hb := blk_below (w := w1.drew) HG.out HBW.out
   have d0 := (blk_cell hb 0).trans rfl
   exact va_ (.int .i64 op) hK rfl
  ·obtain rfl := oj ho
   obtain ⟨e6, e6'⟩ := eg (show a.eval (.tmp 14) = _ from hneed 6 (by decide))
   refine goes_ Try.func38 (by kernel_rfl) rfl #[.int .i64 op] (by rfl) rfl rfl (by simp only [List.map_toArray, List.map_cons, List.map_nil, e6]) ?_
   refine (impl_OpLen.calls n op ln W HL.out).mono ?_
   rintro e w' ⟨rfl, nd, rfl⟩
   exact ⟨_, rfl, hK.out _ _ (pw_below_drewN (Below.refl _ _) nd) rfl⟩
  ·obtain rfl := oj ho
   obtain ⟨e4, e4'⟩ := eg (show a.eval (.tmp 12) = _ from hneed 4 (by decide))
   obtain ⟨e7, e7'⟩ := eg (show a.eval (.tmp 15) = _ from hneed 7 (by decide))
   exact va_ (.int .i64 (wrap64 (P + ln))) hK rfl (by go_simp; first | done | rfl | simp only [i64_w])
  ·obtain rfl := oj ho
   obtain ⟨e8, e8'⟩ := eg (show a.eval (.tmp 16) = _ from hneed 8 (by decide))
   refine goes_ Try.func52 (by kernel_rfl) rfl #[.int .i64 (wrap64 (P + ln))] (by rfl) rfl rfl (by simp only [List.map_toArray, List.map_cons, List.map_nil, e8]) ?_
   refine (impl_Addr.calls (wrap64 (P + ln)) pc W HP.out).mono ?_
   rintro e w' ⟨rfl, nd, rfl⟩
   exact ⟨_, rfl, hK.out _ _ (pw_below_drewN (Below.refl _ _) nd) rfl⟩
 case laex =>
  intro o ho a W hout hneed
  obtain rfl := oj ho
  have h1 : a.eval (.tmp 1) = .pointer (some ⟨c, 0, none⟩) := hout 1 (by decide)
  have h1' := eval_get h1
  refine ⟨.pointer (some ⟨c, 0, none⟩), rfl, Or.inl ⟨by rfl, ?_⟩⟩
  intro w'
  go_simp
 intro f vs W2 hB hE
 have HBW := am hB
 clear hB
 have q0 : vs 0 = _ := hE 0 (by decide)
 have q1 : vs 1 = _ := hE 1 (by decide)
 have q2 : vs 2 = _ := hE 2 (by decide)
 have q3 : vs 3 = _ := hE 3 (by decide)
 have q4 : vs 4 = _ := hE 4 (by decide)
 have q5 : vs 5 = _ := hE 5 (by decide)
 have q6 : vs 6 = _ := hE 6 (by decide)
 have q7 : vs 7 = _ := hE 7 (by decide)
 have q8 : vs 8 = _ := hE 8 (by decide)
 have q9 : vs 9 = _ := hE 9 (by decide)
 show wpAnyLast _ _ _ _ _ _ (f + 3) _ (putAll _ [(8, vs 0), (9, vs 1), (10, vs 2), (11, vs 3), (12, vs 4), (13, vs 5), (14, vs 6), (15, vs 7), (16, vs 8), (17, vs 9)]) W2
 rw [q0, q1, q2, q3, q4, q5, q6, q7, q8, q9]
 clear q0 q1 q2 q3 q4 q5 q6 q7 q8 q9 hE
 refine norm_ (a' := ?_) ?_ ?_
 rotate_left
 ·simp only [putAll, Act.put, List.setIfInBounds_toArray, List.set_cons_zero, List.set_cons_succ]
  rfl
 refine pv_ 10 (some 18) (bm 13 2047) ?_
 refine pv_ 11 (some 19) (bm 13 4095) ?_
 refine ov_ 12 none (bm 13 8191) (fun K hK => ?_)
 refine skip_ (w1 := ?_) (by rfl) rfl ?_ ?_
 rotate_left
 ·skip
  have hcW := blk_below (w := w1.drew) HCU.out HBW.out
  obtain ⟨⟨t0, t1, t2, t3, t4, t5, t6, t7⟩, ⟨ft0, ft1, ft2, ft3, ft4, ft5, ft6, ft7⟩⟩ := cells8 (hcW)
  go_simp
  rfl
 refine hK.out _ _ trivial (fun _ => ?_)
 clear hK K
 refine done_ (by kernel_rfl) ?_
 have h3 : Aside0 (MC w0 (W2.setCell ⟨c, 3, none⟩ (.int .i64 pc)) x c rv b (⟨A, X, S, pc, Z, N, C, I⟩ : Cp) ram) := ⟨(H1.out.drew.later HBW.out).setC 3 _ rfl⟩
 have k3 : Aside0 (Kept w (W2.setCell ⟨c, 3, none⟩ (.int .i64 pc)) (fun j => j = c ∨ some j = rv.ownBlock)) := ⟨kept_set (((Kept.of_below HB1.out _).drew).below HBW.out) (.inl rfl) _⟩
 have g3 : Aside0 ((W2.setCell ⟨c, 3, none⟩ (.int .i64 pc)).heap[g]? = some (.cells #[.int .i64 op, .int .i64 arg] 51 (0, 0))) := ⟨blk_far (blk_below (w := w1.drew) HG.out HBW.out) NG.out _⟩
 clear H1 HB1 HG HCU HBW
 generalize W2.setCell ⟨c, 3, none⟩ (.int .i64 pc) = w3 at h3 k3 g3 ⊢
 go_wp2
 have H4 := am h3.out.drew
 have K4 := am k3.out.drew
 have G4 : Aside0 (w3.drew.heap[g]? = some (.cells #[.int .i64 op, .int .i64 arg] 51 (0, 0))) := ⟨g3.out⟩
 clear h3 k3
 refine start_ (n := 12) (S := fun w' => w'.heap[g]? = some (.cells #[.int .i64 op, .int .i64 arg] 51 (0, 0))) (ds := []) (bm 12 0) (by kernel_rfl) rfl (by kernel_rfl) G4.out (fun hHeld => ?_)
 clear g3
 generalize w3.drew = w4 at H4 K4 G4 hHeld ⊢
 refine pv_ 0 (some 20) (bm 12 1) ?_
 refine pv_ 2 (some 22) (bm 12 5) ?_
 refine take_ (i := 1) (N := some 21) (v := ?_) (a' := ?_) (bm 12 7) rfl rfl (by kernel_rfl) (fun _ _ _ h => h) (Or.inl ⟨by rfl, ?_⟩) hHeld ?_ ?_
 rotate_left
 ·intro w' s0
  have z0 : w'.cell? ⟨g, 0, none⟩ = some (.int .i64 op) := (blk_cell s0 0).trans rfl
  have z1 : w'.cell? ⟨g, 1, none⟩ = some (.int .i64 arg) := (blk_cell s0 1).trans rfl
  clear s0
  go_simp
  with_reducible rfl
 rotate_left
 ·simp only [Act.put, List.setIfInBounds_toArray, List.set_cons_zero, List.set_cons_succ, i64_w, i32_w]
  rfl
 refine ov_ 3 (some 23) (bm 12 15) (fun K hK => ?_)
 refine gw_ Try.func34 #[.int .i64 v] ?_
 refine (HBY.out _).mono ?_
 rintro e w' ⟨rfl, rfl⟩
 refine ⟨_, rfl, ?_⟩
 refine hK.out _ _ hHeld (fun hHeld => ?_)
 clear hK K
 refine nw_ 23 ?_
 refine ov_ 4 (some 24) (bm 12 31) (fun K hK => ?_)
 refine gw_ Try.func109 #[.pointer (some ⟨c, 0, none⟩), .agg #[.int .i64 op, .int .i64 arg], .int .i64 vb] ?_
 refine (reckon_calls H4.out.cpu op arg vb).mono ?_
 rintro e w5 ⟨rfl, hc5, hk5⟩
 generalize hr : reckonF (⟨A, X, S, pc, Z, N, C, I⟩ : Cp) op arg vb = q at *
 obtain ⟨k5, b5⟩ := q
 have HR := am hr
 have H5 := am (H4.out.cpuTo hc5 hk5)
 have K5 := am (K4.out.then_ hk5.kept (fun j hj => .inl (.inl hj)))
 have G5 := am (blk_kept G4.out hk5.kept NG.out)
 clear hr hc5 hk5 H4 K4 G4 hHeld
 refine ⟨_, rfl, ?_⟩
 refine hK.out _ _ G5.out (fun hHeld => ?_)
 clear hK K
 refine nw_ 24 ?_
 cases b5 with
 | true =>
  refine pv_ 5 (some 25) (bm 12 63) ?_
  refine pv_ 6 (some 26) (bm 12 127) ?_
  refine pure_ (i := 7) (N := some 27) (v := undef) (a' := ?_) (bm 12 255) rfl rfl (by kernel_rfl) (fun _ _ _ h => h) (Or.inr ⟨by rfl, rfl⟩) ?_ ?_
  rotate_left
  ·simp only [Act.put, List.setIfInBounds_toArray, List.set_cons_zero, List.set_cons_succ, i64_w, i32_w]
   rfl
  refine pure_ (i := 8) (N := some 28) (v := undef) (a' := ?_) (bm 12 511) rfl rfl (by kernel_rfl) (fun _ _ _ h => h) (Or.inr ⟨by rfl, rfl⟩) ?_ ?_
  rotate_left
  ·simp only [Act.put, List.setIfInBounds_toArray, List.set_cons_zero, List.set_cons_succ, i64_w, i32_w]
   rfl
  refine pure_ (i := 9) (N := some 29) (v := undef) (a' := ?_) (bm 12 1023) rfl rfl (by kernel_rfl) (fun _ _ _ h => h) (Or.inr ⟨by rfl, rfl⟩) ?_ ?_
  rotate_left
  ·simp only [Act.put, List.setIfInBounds_toArray, List.set_cons_zero, List.set_cons_succ, i64_w, i32_w]
   rfl
  refine pure_ (i := 10) (N := some 30) (v := undef) (a' := ?_) (bm 12 2047) rfl rfl (by kernel_rfl) (fun _ _ _ h => h) (Or.inr ⟨by rfl, rfl⟩) ?_ ?_
  rotate_left
  ·simp only [Act.put, List.setIfInBounds_toArray, List.set_cons_zero, List.set_cons_succ, i64_w, i32_w]
   rfl
  refine pv_ 11 (some 31) (bm 12 4095) ?_
  refine done_ (by kernel_rfl) ?_
  go_wp2
  go_end0
  have e_ : execF ram (⟨A, X, S, P, Z, N, C, I⟩ : Cp) op arg v ln = (ram, k5) := by
   unfold execF
   simp only [EP.out, HV.out, HR.out, if_true]
  rw [e_]
  exact ⟨rfl, H5.out, K5.out⟩
 | false =>
  refine pv_ 5 (some 25) (bm 12 63) ?_
  refine pv_ 6 (some 26) (bm 12 127) ?_
  refine pv_ 7 (some 27) (bm 12 255) ?_
  refine take_ (i := 8) (N := some 28) (v := ?_) (a' := ?_) (bm 12 511) rfl rfl (by kernel_rfl) (fun _ _ _ h => h) (Or.inl ⟨by rfl, ?_⟩) hHeld ?_ ?_
  rotate_left
  ·intro w' s0
   have z0 : w'.cell? ⟨g, 0, none⟩ = some (.int .i64 op) := (blk_cell s0 0).trans rfl
   have z1 : w'.cell? ⟨g, 1, none⟩ = some (.int .i64 arg) := (blk_cell s0 1).trans rfl
   clear s0
   go_simp
   with_reducible rfl
  rotate_left
  ·simp only [Act.put, List.setIfInBounds_toArray, List.set_cons_zero, List.set_cons_succ, i64_w, i32_w]
   rfl
  refine ov_ 9 (some 29) (bm 12 1023) (fun K hK => ?_)
  refine gw_ Try.func110 #[.pointer (some ⟨c, 0, none⟩), .agg #[.int .i64 op, .int .i64 arg]] ?_
  refine (turn_calls H5.out.cpu op arg).mono ?_
  rintro e w6 ⟨rfl, hc6, hk6⟩
  generalize ht : turnF k5 op = q at *
  obtain ⟨k6, b6⟩ := q
  have HT := am ht
  have H6 := am (H5.out.cpuTo hc6 hk6)
  have K6 := am (K5.out.then_ hk6.kept (fun j hj => .inl (.inl hj)))
  have G6 := am (blk_kept G5.out hk6.kept NG.out)
  clear ht hc6 hk6 H5 K5 G5 hHeld
  refine ⟨_, rfl, ?_⟩
  refine hK.out _ _ G6.out (fun hHeld => ?_)
  clear hK K
  refine nw_ 29 ?_
  cases b6 with
  | true =>
   refine pv_ 10 (some 30) (bm 12 2047) ?_
   refine pv_ 11 (some 31) (bm 12 4095) ?_
   refine done_ (by kernel_rfl) ?_
   go_wp2
   go_end0
   have e_ : execF ram (⟨A, X, S, P, Z, N, C, I⟩ : Cp) op arg v ln = (ram, k6) := by
    unfold execF
    simp only [EP.out, HV.out, HR.out, HT.out, if_true, Bool.false_eq_true, if_false]
   rw [e_]
   exact ⟨rfl, H6.out, K6.out⟩
  | false =>
   refine pv_ 10 (some 30) (bm 12 2047) ?_
   refine pv_ 11 (some 31) (bm 12 4095) ?_
   refine done_ (by kernel_rfl) ?_
   have z0 : w6.cell? ⟨g, 0, none⟩ = some (.int .i64 op) := (blk_cell G6.out 0).trans rfl
   have z1 : w6.cell? ⟨g, 1, none⟩ = some (.int .i64 arg) := (blk_cell G6.out 1).trans rfl
   go_wp2_with fail
   refine (flow_calls H6.out op arg).mono ?_
   rintro e w7 ⟨rfl, h7, k7⟩
   have H7 := am h7
   clear h7
   go_wp2
   go_end0
   have e_ : execF ram (⟨A, X, S, P, Z, N, C, I⟩ : Cp) op arg v ln = flowF ram k6 op arg := by
    unfold execF
    simp only [EP.out, HV.out, HR.out, HT.out, Bool.false_eq_true, if_false]
   rw [e_]
   exact ⟨rfl, H7.out, K6.out.then_ k7 (fun j hj => .inl hj)⟩
theorem implExec_calls (A1 : Option Addr) (c1 : Nat) (l1 : List Int) (b : Int) (k : Cp) (op arg v : Int) (w : World) (hr1 : Kd.C (Kd.int .i64) w A1 l1.length l1) (hc1 : l1.length ≤ c1)
  (h : impl_copyMem.f l1 b = some (l1, b)) (n : Nat) (ln : Int) (hl : impl_OpLen.f n op = some ln) :
  Calls Try.prog 48 #[.agg #[.slice A1 l1.length c1, .int .i64 b], .agg k.cells, .agg #[.int .i64 op, .int .i64 arg], .int .i64 v] w fun e w' => ∃ v0_ : Value, e = .returned (.tuple #[.agg #[v0_, .int .i64 b], .agg (execF l1 k op arg v ln).2.cells]) ∧ Kd.R (Kd.int .i64) 3 w' w.heap.size (fun _ => True) v0_ (execF l1 k op arg v ln).1 ∧ Below w.heap.size w w' := by
 have hu37 := Try.underlying32
 have hu38 := Try.underlying55
 have hu68 := Try.underlying51
 have HR1 := am hr1
 have HC1 := am hc1
 have H := am h
 have HL := am hl
 clear hr1 hc1 h hl
 go_enter Try.func48, Try.ntmps48
 unfold Cp.cells
 go_wp2_with fail
 refine (impl_copyMem.calls A1 c1 l1 b l1 b _ ?hr HC1.out H.out).mono ?_
 case hr => repeat (first | exact HR1.out | (with_reducible refine Kd.C_alloc ?_ _))
 rintro e W2 ⟨v0, rfl, hR, hB⟩
 obtain ⟨A2, c2, rfl⟩ := Kd.R_slice hR
 have b1 : W2.heap[w.heap.size + 1]? = some (.cells k.cells 55 (0, 0)) := blk_below (by repeat (first | exact alloc_at _ _ _ (by simp only [alloc_size]) | refine blk_alloc ?_ _)) hB
 have b2 : W2.heap[w.heap.size + 2]? = some (.cells #[.int .i64 op, .int .i64 arg] 51 (0, 0)) := blk_below (by repeat (first | exact alloc_at _ _ _ (by simp only [alloc_size]) | refine blk_alloc ?_ _)) hB
 have b3 : W2.heap[w.heap.size + 3]? = some (.cells #[.slice none 0 0, .int .i64 0] 32 (0, 0)) := blk_below (by repeat (first | exact alloc_at _ _ _ (by simp only [alloc_size]) | refine blk_alloc ?_ _)) hB
 have b4 : W2.heap[w.heap.size + 4]? = some (.cells #[.int .i64 0, .int .i64 0, .int .i64 0, .int .i64 0, .bool false, .bool false, .bool false, .bool false] 55 (0, 0)) := blk_below (by repeat (first | exact alloc_at _ _ _ (by simp only [alloc_size]) | refine blk_alloc ?_ _)) hB
 have hsz : w.heap.size + 5 ≤ W2.heap.size := by have := hB.size; simp only [alloc_size] at this; omega
 have hbel : Below w.heap.size w W2 := below_step (by repeat (first | exact Below.refl _ _ | apply below_alloc)) hB
 have hM : MC w (W2.alloc (.cells #[.slice A2 l1.length c2, .int .i64 b] 32)) W2.heap.size (w.heap.size + 1) (.slice A2 l1.length c2) b k l1 :=
  ⟨blk_new W2 _, blk_alloc b1 _, Kd.R_alloc (Kd.R_lower hR (by simp only [alloc_size]; omega)) _, by omega, by omega, below_alloc hbel _⟩
 have HSZ := am hsz
 have HM := am hM
 have z0 : (W2.alloc (.cells #[.slice A2 l1.length c2, .int .i64 b] 32)).cell? ⟨w.heap.size + 2, 0, none⟩ = some (.int .i64 op) := (blk_cell (blk_alloc b2 _) 0).trans rfl
 have z1 : (W2.alloc (.cells #[.slice A2 l1.length c2, .int .i64 b] 32)).cell? ⟨w.heap.size + 2, 1, none⟩ = some (.int .i64 arg) := (blk_cell (blk_alloc b2 _) 1).trans rfl
 have B3 := am (blk_alloc b3 (.cells #[.slice A2 l1.length c2, .int .i64 b] 32))
 have B4 := am (blk_alloc b4 (.cells #[.slice A2 l1.length c2, .int .i64 b] 32))
 clear hR hB b1 b2 b3 b4 hsz hbel hM
 go_wp2_with fail
 generalize W2.alloc (.cells #[.slice A2 l1.length c2, .int .i64 b] 32) = W3 at *
 generalize W2.heap.size = x at *
 refine (exec_calls HM.out op arg v n ln HL.out).mono ?_
 rintro e W4 ⟨rfl, h4, k4⟩
 generalize hq : execF l1 k op arg v ln = q at *
 obtain ⟨ram2, ⟨qa, qx, qs, qp, qz, qn, qc, qi⟩⟩ := q
 have HQ := am hq
 clear hq z0 z1
 have HB1 := am (blk_kept B3.out k4 (fun h => h.elim (fun h => by omega) (fun h => Kd.R_ne HM.out.row B3.out (by decide) h)))
 have HB2 := am (blk_kept B4.out k4 (fun h => h.elim (fun h => by omega) (fun h => Kd.R_ne HM.out.row B4.out (by decide) h)))
 have h4 : MC w W4 x (w.heap.size + 1) (.slice A2 l1.length c2) b ⟨qa, qx, qs, qp, qz, qn, qc, qi⟩ ram2 := h4
 have hz_ := HSZ.out
 have HM4 := am h4.mem
 have HC4 : Aside0 (W4.heap[w.heap.size + 1]? = some (.cells #[.int .i64 qa, .int .i64 qx, .int .i64 qs, .int .i64 qp, .bool qz, .bool qn, .bool qc, .bool qi] 55 (0, 0))) := ⟨h4.cpu⟩
 clear k4 B3 B4 HM
 go_wp2
 have hne12 : w.heap.size + 3 ≠ w.heap.size + 4 := by omega
 have hne21 : w.heap.size + 4 ≠ w.heap.size + 3 := by omega
 have o1 : x ≠ w.heap.size + 3 := by omega
 have o2 : x ≠ w.heap.size + 4 := by omega
 have o3 : w.heap.size + 1 ≠ w.heap.size + 3 := by omega
 have o4 : w.heap.size + 1 ≠ w.heap.size + 4 := by omega
 refine start_ (n := 4) (S := fun w' => w'.heap[x]? = some (.cells #[.slice A2 l1.length c2, .int .i64 b] 32 (0, 0)) ∧ w'.heap[w.heap.size + 1]? = some (.cells #[.int .i64 qa, .int .i64 qx, .int .i64 qs, .int .i64 qp, .bool qz, .bool qn, .bool qc, .bool qi] 55 (0, 0))) (ds := []) (bm 4 0) (by kernel_rfl) rfl (by kernel_rfl) ⟨HM4.out, HC4.out⟩ (fun hHeld => ?_)
 refine take_ (i := 0) (N := some 16) (v := ?_) (a' := ?_) #[true, false, false, false] rfl rfl (by kernel_rfl) (fun _ _ _ h => h) (Or.inl ⟨by rfl, ?_⟩) hHeld ?_ ?_
 rotate_left
 ·rintro w' ⟨s0, s1⟩
  have a0 : w'.cell? ⟨x, 0, none⟩ = some (.slice A2 l1.length c2) := (blk_cell s0 0).trans rfl
  have a1 : w'.cell? ⟨x, 1, none⟩ = some (.int .i64 b) := (blk_cell s0 1).trans rfl
  clear s0 s1
  go_simp
  with_reducible rfl
 rotate_left
 ·simp only [Act.put, List.setIfInBounds_toArray, List.set_cons_zero, List.set_cons_succ, i64_w, i32_w]
  rfl
 refine take_ (i := 1) (N := some 17) (v := ?_) (a' := ?_) #[true, true, false, false] rfl rfl (by kernel_rfl) (fun _ _ _ h => h) (Or.inl ⟨by rfl, ?_⟩) hHeld ?_ ?_
 rotate_left
 ·rintro w' ⟨s0, s1⟩
  have b0 : w'.cell? ⟨w.heap.size + 1, 0, none⟩ = some (.int .i64 qa) := (blk_cell s1 0).trans rfl
  have b1 : w'.cell? ⟨w.heap.size + 1, 1, none⟩ = some (.int .i64 qx) := (blk_cell s1 1).trans rfl
  have b2 : w'.cell? ⟨w.heap.size + 1, 2, none⟩ = some (.int .i64 qs) := (blk_cell s1 2).trans rfl
  have b3 : w'.cell? ⟨w.heap.size + 1, 3, none⟩ = some (.int .i64 qp) := (blk_cell s1 3).trans rfl
  have b4 : w'.cell? ⟨w.heap.size + 1, 4, none⟩ = some (.bool qz) := (blk_cell s1 4).trans rfl
  have b5 : w'.cell? ⟨w.heap.size + 1, 5, none⟩ = some (.bool qn) := (blk_cell s1 5).trans rfl
  have b6 : w'.cell? ⟨w.heap.size + 1, 6, none⟩ = some (.bool qc) := (blk_cell s1 6).trans rfl
  have b7 : w'.cell? ⟨w.heap.size + 1, 7, none⟩ = some (.bool qi) := (blk_cell s1 7).trans rfl
  clear s0 s1
  go_simp
  with_reducible rfl
 rotate_left
 ·simp only [Act.put, List.setIfInBounds_toArray, List.set_cons_zero, List.set_cons_succ, i64_w, i32_w]
  rfl
 refine ov_ 2 none (bm 4 7) (fun K hK => ?_)
 refine skip_ (w1 := ?_) (by rfl) rfl ?_ ?_
 rotate_left
 ·have r0 : W4.cell? ⟨w.heap.size + 3, 0, none⟩ = some (.slice none 0 0) := (blk_cell HB1.out 0).trans rfl
  have r1 : W4.cell? ⟨w.heap.size + 3, 1, none⟩ = some (.int .i64 0) := (blk_cell HB1.out 1).trans rfl
  have f0 := blk_frozen HB1.out 0
  have f1 := blk_frozen HB1.out 1
  go_simp
  rfl
 refine hK.out _ _ ⟨(heap2 _ _ _ _ _ o1).trans hHeld.1, (heap2 _ _ _ _ _ o3).trans hHeld.2⟩ (fun hHeld => ?_)
 clear hK K
 have g0 := (heap_drew _ _).symm.trans hHeld.1
 have g1 := (heap_drew _ _).symm.trans hHeld.2
 have g2 : ((W4.setCell ⟨w.heap.size + 1 + 1 + 1, 0, none⟩ (.slice A2 l1.length c2)).setCell ⟨w.heap.size + 1 + 1 + 1, 1, none⟩ (.int .i64 b)).heap[w.heap.size + 4]? = _ := (heap2 W4 (w.heap.size + 3) (w.heap.size + 4) (.slice A2 l1.length c2) (.int .i64 b) hne21).trans HB2.out
 have g3 : ((W4.setCell ⟨w.heap.size + 1 + 1 + 1, 0, none⟩ (.slice A2 l1.length c2)).setCell ⟨w.heap.size + 1 + 1 + 1, 1, none⟩ (.int .i64 b)).heap[w.heap.size + 3]? = _ := put2 HB1.out (.slice A2 l1.length c2) (.int .i64 b)
 have g4 : Kd.R (Kd.int .i64) 3 ((W4.setCell ⟨w.heap.size + 1 + 1 + 1, 0, none⟩ (.slice A2 l1.length c2)).setCell ⟨w.heap.size + 1 + 1 + 1, 1, none⟩ (.int .i64 b)) w.heap.size (fun _ => True) (.slice A2 l1.length c2) ram2 :=
  Kd.R_mono (Kd.R_far (p := ⟨w.heap.size + 3, 1, none⟩) (Kd.R_far (p := ⟨w.heap.size + 3, 0, none⟩) (Kd.R_types h4.row HB1.out (by decide)) (fun _ hk => hk.2) (.slice A2 l1.length c2)) (fun _ hk => hk.2) (.int .i64 b)) (fun _ hk => trivial)
 have g5 : Below w.heap.size w ((W4.setCell ⟨w.heap.size + 1 + 1 + 1, 0, none⟩ (.slice A2 l1.length c2)).setCell ⟨w.heap.size + 1 + 1 + 1, 1, none⟩ (.int .i64 b)) := below_set (below_set h4.below (by omega)) (by omega)
 clear HB1 HB2 HM4 HC4 h4
 generalize ((W4.setCell ⟨w.heap.size + 1 + 1 + 1, 0, none⟩ (.slice A2 l1.length c2)).setCell ⟨w.heap.size + 1 + 1 + 1, 1, none⟩ (.int .i64 b)) = W5 at *
 have G2 := am g2
 have G3 := am g3
 have G4 := am g4
 have G5 := am g5
 have G0 := am g0
 have G1 := am g1
 clear g0 g1 g2 g3 g4 g5
 refine ov_ 3 none (bm 4 15) (fun K hK => ?_)
 refine skip_ (w1 := ?_) (by rfl) rfl ?_ ?_
 rotate_left
 ·skip
  have r0 : W5.cell? ⟨w.heap.size + 4, 0, none⟩ = some (.int .i64 0) := (blk_cell G2.out 0).trans rfl
  have f0 := blk_frozen G2.out 0
  have r1 : W5.cell? ⟨w.heap.size + 4, 1, none⟩ = some (.int .i64 0) := (blk_cell G2.out 1).trans rfl
  have f1 := blk_frozen G2.out 1
  have r2 : W5.cell? ⟨w.heap.size + 4, 2, none⟩ = some (.int .i64 0) := (blk_cell G2.out 2).trans rfl
  have f2 := blk_frozen G2.out 2
  have r3 : W5.cell? ⟨w.heap.size + 4, 3, none⟩ = some (.int .i64 0) := (blk_cell G2.out 3).trans rfl
  have f3 := blk_frozen G2.out 3
  have r4 : W5.cell? ⟨w.heap.size + 4, 4, none⟩ = some (.bool false) := (blk_cell G2.out 4).trans rfl
  have f4 := blk_frozen G2.out 4
  have r5 : W5.cell? ⟨w.heap.size + 4, 5, none⟩ = some (.bool false) := (blk_cell G2.out 5).trans rfl
  have f5 := blk_frozen G2.out 5
  have r6 : W5.cell? ⟨w.heap.size + 4, 6, none⟩ = some (.bool false) := (blk_cell G2.out 6).trans rfl
  have f6 := blk_frozen G2.out 6
  have r7 : W5.cell? ⟨w.heap.size + 4, 7, none⟩ = some (.bool false) := (blk_cell G2.out 7).trans rfl
  have f7 := blk_frozen G2.out 7
  go_simp
  rfl
 refine hK.out _ _ ⟨(heap_drew _ _).trans ((heap8 W5 (w.heap.size + 4) _ _ _ _ _ _ _ _ _ o2).trans G0.out), (heap_drew _ _).trans ((heap8 W5 (w.heap.size + 4) _ _ _ _ _ _ _ _ _ o4).trans G1.out)⟩ (fun hHeld => ?_)
 clear hK K
 refine done_ (by kernel_rfl) ?_
 try go_wp2
 refine bodyPost_ret (results_cc rfl _ _ (w.heap.size + 3) (w.heap.size + 4) 32 55 #[.slice A2 l1.length c2, .int .i64 b] #[.int .i64 qa, .int .i64 qx, .int .i64 qs, .int .i64 qp, .bool qz, .bool qn, .bool qc, .bool qi] (0, 0) (0, 0) _ _ rfl ((heap_drew _ _).trans ((heap8 W5 (w.heap.size + 4) _ _ _ _ _ _ _ _ _ hne12).trans G3.out)) hu37 rfl (by kernel_rfl) rfl ((heap_drew _ _).trans (put8 G2.out _ _ _ _ _ _ _ _)) hu38 rfl (by kernel_rfl)) rfl ?_
 rw [HQ.out]
 exact ⟨_, rfl, Kd.R_drew (row8 G4.out G2.out _ _ _ _ _ _ _ _), below_drew1 (below8 G5.out (by omega) _ _ _ _ _ _ _ _)⟩
theorem copyMem_eq {l0 r1 : List Int} {b r2 : Int} (h : impl_copyMem.f l0 b = some (r1, r2)) : r1 = l0 ∧ r2 = b := by
 unfold impl_copyMem.f impl_copyInts.f at h
 simp only [Option.bind_some] at h
 split at h
 ·simp only [Option.bind_some, Option.some.injEq, Prod.mk.injEq, List.nil_append] at h
  exact ⟨h.1.symm, h.2.symm⟩
 ·simp at h
def impl_Exec.f (k : Nat) (l0_0 : List Int) (a0_1 : Int) (a1_0 a1_1 a1_2 a1_3 : Int) (a1_4 a1_5 a1_6 a1_7 : Bool) (a2_0 a2_1 : Int) (a3 : Int) : Option (List Int × Int × Int × Int × Int × Int × Bool × Bool × Bool × Bool) :=
 (impl_copyMem.f l0_0 a0_1).bind fun q => (impl_OpLen.f k a2_0).bind fun ln => some ((execF q.1 ⟨a1_0, a1_1, a1_2, a1_3, a1_4, a1_5, a1_6, a1_7⟩ a2_0 a2_1 a3 ln).1, q.2, (execF q.1 ⟨a1_0, a1_1, a1_2, a1_3, a1_4, a1_5, a1_6, a1_7⟩ a2_0 a2_1 a3 ln).2.A, (execF q.1 ⟨a1_0, a1_1, a1_2, a1_3, a1_4, a1_5, a1_6, a1_7⟩ a2_0 a2_1 a3 ln).2.X, (execF q.1 ⟨a1_0, a1_1, a1_2, a1_3, a1_4, a1_5, a1_6, a1_7⟩ a2_0 a2_1 a3 ln).2.S, (execF q.1 ⟨a1_0, a1_1, a1_2, a1_3, a1_4, a1_5, a1_6, a1_7⟩ a2_0 a2_1 a3 ln).2.P, (execF q.1 ⟨a1_0, a1_1, a1_2, a1_3, a1_4, a1_5, a1_6, a1_7⟩ a2_0 a2_1 a3 ln).2.Z, (execF q.1 ⟨a1_0, a1_1, a1_2, a1_3, a1_4, a1_5, a1_6, a1_7⟩ a2_0 a2_1 a3 ln).2.N, (execF q.1 ⟨a1_0, a1_1, a1_2, a1_3, a1_4, a1_5, a1_6, a1_7⟩ a2_0 a2_1 a3 ln).2.C, (execF q.1 ⟨a1_0, a1_1, a1_2, a1_3, a1_4, a1_5, a1_6, a1_7⟩ a2_0 a2_1 a3 ln).2.I)
theorem impl_Exec.calls (k : Nat) (A0_0 : Option Addr) (c0_0 : Nat) (l0_0 : List Int) (a0_1 : Int) (a1_0 a1_1 a1_2 a1_3 : Int) (a1_4 a1_5 a1_6 a1_7 : Bool) (a2_0 a2_1 : Int) (a3 : Int) (r1 : List Int) (r2 : Int) (r3 : Int) (r4 : Int) (r5 : Int) (r6 : Int) (r7 : Bool) (r8 : Bool) (r9 : Bool) (r10 : Bool) (w : World) (hr0_0 : Kd.C (Kd.int .i64) w A0_0 l0_0.length l0_0) (hc0_0 : l0_0.length ≤ c0_0) (h : impl_Exec.f k l0_0 a0_1 a1_0 a1_1 a1_2 a1_3 a1_4 a1_5 a1_6 a1_7 a2_0 a2_1 a3 = some (r1, r2, r3, r4, r5, r6, r7, r8, r9, r10)) :
  Calls Try.prog 48 #[.agg #[.slice A0_0 l0_0.length c0_0, .int .i64 a0_1], .agg #[.int .i64 a1_0, .int .i64 a1_1, .int .i64 a1_2, .int .i64 a1_3, .bool a1_4, .bool a1_5, .bool a1_6, .bool a1_7], .agg #[.int .i64 a2_0, .int .i64 a2_1], .int .i64 a3] w fun e w' => ∃ v0_ : Value, e = .returned (.tuple #[.agg #[v0_, .int .i64 r2], .agg #[.int .i64 r3, .int .i64 r4, .int .i64 r5, .int .i64 r6, .bool r7, .bool r8, .bool r9, .bool r10]]) ∧ Kd.R (Kd.int .i64) 3 w' w.heap.size (fun _ => True) v0_ r1 ∧ Below w.heap.size w w' := by
 unfold impl_Exec.f at h
 obtain ⟨⟨q1, q2⟩, hq, h2⟩ := Option.bind_eq_some_iff.mp h
 obtain ⟨ln, hl, h3⟩ := Option.bind_eq_some_iff.mp h2
 clear h h2
 obtain ⟨rfl, rfl⟩ := copyMem_eq hq
 cases h3
 exact implExec_calls A0_0 c0_0 _ _ ⟨a1_0, a1_1, a1_2, a1_3, a1_4, a1_5, a1_6, a1_7⟩ a2_0 a2_1 a3 w hr0_0 hc0_0 hq k ln hl

/-! ### called_words (mine) -/
/-! What an operation puts in a region that finds an operation's number, lets impl.Exec run and makes two structs of what it gives. -/
def XE (lo : Nat) (M C J N q a : Value) (op : Int) (xs : List Int) (b : Int) : Nat → Value → World → Prop
 | 0, u, _ => u = M
 | 1, u, _ => u = C
 | 2, u, _ => u = .int .i64 op
 | 3, u, _ => u = J
 | 4, u, w => isPair lo xs b N u w
 | 5, u, w => isPair lo xs b N u w
 | 6, u, w => isMem lo xs b u w
 | 7, u, _ => u = N
 | 8, u, w => isNew lo 32 #[.slice none 0 0, .int .i64 0] u w
 | 9, u, w => isNew lo 55 #[.int .i64 0, .int .i64 0, .int .i64 0, .int .i64 0, .bool false, .bool false, .bool false, .bool false] u w
 | 10, u, _ => u = q
 | 11, u, _ => u = a
 | _, _, _ => False
theorem XE_below {lo : Nat} {M C J N q a : Value} {op : Int} {xs : List Int} {b : Int} : ∀ (j : Nat) (u : Value) (W W' : World), XE lo M C J N q a op xs b j u W → Below W.heap.size W W' → XE lo M C J N q a op xs b j u W' := by
 intro j u W W' h hb
 rcases j with _ | _ | _ | _ | _ | _ | _ | _ | _ | _ | _ | _ | j
 ·exact h
 ·exact h
 ·exact h
 ·exact h
 ·exact isPair_below h hb
 ·exact isPair_below h hb
 ·exact isMem_below h hb
 ·exact h
 ·exact isNew_below h hb
 ·exact isNew_below h hb
 ·exact h
 ·exact h
 ·exact h
section
variable {P : Program} {ops : Array Oper} {Q : Exit → Act → World → Prop} {oi : Oper} {t : Tmp} {a : Act} {w : World} {K : Act → World → Prop}
theorem an_ {lo : Nat} {E : Value → World → Prop} (ty : TypeId) (cs : Array Value) (hK : Shut (∀ v w', Below w.heap.size w w' → E v w' → K (a.put (some t) v) w')) (hl : lo ≤ w.heap.size) (e : ∀ v w', isNew lo ty cs v w' → E v w') (hrun : (execOp a.eval oi).run P w = .ok (.value (.pointer (some ⟨w.heap.size, 0, none⟩))) (w.alloc (.cells cs ty (0, 0))) := by go_simp) (hw : Region.wanted oi (yielded ops a.tmps) = true := by rfl) (hN : oi.dst = some t := by rfl) :
  if Region.wanted oi (yielded ops a.tmps) = true then Oper.wp P oi a w K Q else K (a.put oi.dst undef) w := by
 have h := value_ (ops := ops) (Q := Q) hw hN hrun (hK.out _ _ (below_alloc (Below.refl _ _) _) (e _ _ ⟨_, rfl, hl, alloc_at _ _ _ rfl⟩))
 rw [hN]
 exact h
end
theorem stored_ {W V : World} {g1 g2 lo : Nat} {q0 q1 : Value} {o0 o1 o2 o3 o4 o5 o6 o7 : Value} {A : Option Addr} {c : Nat} {xs : List Int} (hR : Kd.R (Kd.int .i64) 3 W lo (fun _ => True) (.slice A xs.length c) xs) (hb1 : W.heap[g1]? = some (.cells #[q0, q1] 32 (0, 0))) (hb2 : W.heap[g2]? = some (.cells #[o0, o1, o2, o3, o4, o5, o6, o7] 55 (0, 0))) (hV : Below V.heap.size V.drew W) (h1 : V.heap.size ≤ g1) (h2 : V.heap.size ≤ g2) (b p0 p1 p2 p3 : Int) (z n d i : Bool) :
  ∃ Z, ((((((((((W.setCell ⟨g1, 0, none⟩ (.slice A xs.length c)).setCell ⟨g1, 1, none⟩ (.int .i64 b)).setCell ⟨g2, 0, none⟩ (.int .i64 p0)).setCell ⟨g2, 1, none⟩ (.int .i64 p1)).setCell ⟨g2, 2, none⟩ (.int .i64 p2)).setCell ⟨g2, 3, none⟩ (.int .i64 p3)).setCell ⟨g2, 4, none⟩ (.bool z)).setCell ⟨g2, 5, none⟩ (.bool n)).setCell ⟨g2, 6, none⟩ (.bool d)).setCell ⟨g2, 7, none⟩ (.bool i)) = Z ∧ Z.heap[g1]? = some (.cells #[.slice A xs.length c, .int .i64 b] 32 (0, 0)) ∧ Z.heap[g2]? = some (.cells #[.int .i64 p0, .int .i64 p1, .int .i64 p2, .int .i64 p3, .bool z, .bool n, .bool d, .bool i] 55 (0, 0)) ∧
   Kd.Q (Kd.int .i64) 3 Z lo (fun _ => True) (.slice A xs.length c) xs ∧ Below V.heap.size V.drew Z := by
 obtain ⟨s1, s2, _, s4, s5⟩ := stored hb1 hb2 (.slice A xs.length c) (.int .i64 b) (.int .i64 p0) (.int .i64 p1) (.int .i64 p2) (.int .i64 p3) (.bool z) (.bool n) (.bool d) (.bool i)
 exact ⟨_, rfl, s1, s2, Kd.Q_of_R (s4 _ _ _ _ hR), s5 V.drew hV h1 h2⟩

/-! ### spec_Addr: function 61 -/
def spec_Addr.f (a0 : Int) : Option (Int) := some (Go.bits .and .i64 a0 65535)
theorem spec_Addr.calls (a0 : Int) (r : Int) (w : World) (h : spec_Addr.f a0 = some r) :
  Calls Try.prog 61 #[.int .i64 a0] w fun e w' => e = .returned (.int .i64 r) ∧ Drawn0 w w' := by
 have H : (some (Go.bits .and .i64 a0 65535)) = some r := h
 clear h
 obtain rfl := oj H
 go_enter Try.func61, Try.ntmps61
 go_wp2
 go_ret
 exact ⟨by first | rfl | (simp; done) | (simp [*]; done), by repeat (first | exact Drawn0.refl _ | apply Drawn0.step)⟩

/-! ### spec_l6Copy: function 78 -/
def spec_l6Copy.f (l0_0 : List Int) (a0_1 : Int) : Option (List Int × Int) := (some (([] : List Int) : List Int)).bind fun y630 => (if y630.length + l0_0.length < 17592186044416 then (some ((y630 ++ l0_0), a0_1)) else (none))
def spec_l6Copy.T1 : Bool × List (List Nat × List Nat) := (true, [([], []), ([], []), ([1], [1]), ([0, 2], [0, 2]), ([], []), ([4], [4]), ([3, 5], [3, 5]), ([6, 3, 0, 1, 2, 3, 4, 5, 6], [6])])
def spec_l6Copy.B1 : List Nat := [0, 0, 2, 7, 0, 16, 63, 127]
theorem spec_l6Copy.tab1 : rtab .any (opsOf Try.f78 1) = spec_l6Copy.T1 := by kernel_rfl
theorem spec_l6Copy.bits1 : waitsOk spec_l6Copy.T1.2 spec_l6Copy.B1 = true := by kernel_rfl
theorem spec_l6Copy.calls (A0_0 : Option Addr) (c0_0 : Nat) (l0_0 : List Int) (a0_1 : Int) (r1 : List Int) (r2 : Int) (w : World) (hr0_0 : Kd.C (Kd.int .i64) w A0_0 l0_0.length l0_0) (hc0_0 : l0_0.length ≤ c0_0) (h : spec_l6Copy.f l0_0 a0_1 = some (r1, r2)) :
  Calls Try.prog 78 #[.agg #[.slice A0_0 l0_0.length c0_0, .int .i64 a0_1]] w fun e w' => ∃ v0_ : Value, e = .returned (.agg #[v0_, .int .i64 r2]) ∧ Kd.R (Kd.int .i64) 3 w' w.heap.size (fun _ => True) v0_ r1 ∧ Below w.heap.size w w' := by
 have hu32 := Try.underlying32
 have HR0_0 := am hr0_0
 have HC0_0 := am hc0_0
 clear hr0_0 hc0_0
 have HB := am (Below.refl w.heap.size w)
 have H : ((some (([] : List Int) : List Int)).bind fun y630 => (if y630.length + l0_0.length < 17592186044416 then (some ((y630 ++ l0_0), a0_1)) else (none))) = some (r1, r2) := h
 clear h
 obtain ⟨y630, hy630⟩ : ∃ y_ : List Int, y_ = (([] : List Int)) := ⟨_, rfl⟩
 replace H : (if y630.length + l0_0.length < 17592186044416 then (some ((y630 ++ l0_0), a0_1)) else (none)) = some (r1, r2) := by first | (rw [hy630]; with_reducible exact H) | (have H2_ := (Option.bind_some _ _).symm.trans H; rw [hy630]; with_reducible exact H2_) | (have H2_ := (Option.bind_some _ _).symm.trans H; with_reducible exact H2_) | with_reducible exact H | (rw [hy630]; exact H) | exact H
 have Ny630 := am hy630
 clear hy630
 by_cases c2 : y630.length + l0_0.length < 17592186044416
 ·rw [if_pos c2] at H
  have LMc2 := am c2
  clear c2
  obtain ⟨y633, hy633⟩ : ∃ y_ : List Int, y_ = (y630 ++ l0_0) := ⟨_, rfl⟩
  replace H : (some (y633, a0_1)) = some (r1, r2) := by first | (rw [hy633]; with_reducible exact H) | (have H2_ := (Option.bind_some _ _).symm.trans H; rw [hy633]; with_reducible exact H2_) | (have H2_ := (Option.bind_some _ _).symm.trans H; with_reducible exact H2_) | with_reducible exact H | (rw [hy633]; exact H) | exact H
  have Ny633 := am hy633
  clear hy633
  simp only [Option.some.injEq, Prod.mk.injEq] at H
  obtain ⟨rfl, rfl⟩ := H
  go_enter Try.func78, Try.ntmps78
  try go_wp2_with (first | ((with_reducible refine gd 1 ?_); refine bx (N := 1) (cs := #[.slice A0_0 l0_0.length c0_0, .int .i64 a0_1]) (t := 32) ?_; intro gb628 hg w3 hbox hb; have BK628 := am (hbox); have GW628 := am ((gs hg (bw HB.out))); have GE628 := am ((gs hg (bw HB.out))); replace HB := am (below_step (bw HB.out) hb); clear hb hbox hg) | ((with_reducible refine gd 2 ?_); refine bx (N := 2) (cs := #[.slice none 0 0, .int .i64 0]) (t := 32) ?_; intro gb629 hg w4 hbox hb; have BK629 := am (hbox); have GW629 := am ((gs hg (bw HB.out))); have GE629 := am ((gs hg (bw HB.out))); replace HB := am (below_step (bw HB.out) hb); have NB628_629 := am ((ga hg BK628.out)); have NB629_628 := am ((gc hg BK628.out)); replace BK628 := am (bb BK628 hb); clear hb hbox hg))
  replace BK628 := am (blk_drew BK628.out)
  replace BK629 := am (blk_drew BK629.out)
  replace HB := am (below_drew1 HB.out)
  refine start_ (n := 8) (S := fun w' => w'.cell? ⟨gb628, 0, none⟩ = some (.slice A0_0 l0_0.length c0_0) ∧ w'.cell? ⟨gb628, 1, none⟩ = some (.int .i64 a0_1)) (ds := []) (bm 8 0) (by kernel_rfl) rfl (by kernel_rfl) ⟨cl BK628 0, cl BK628 1⟩ (fun hHeld => ?_); refine with_tabW spec_l6Copy.tab1 spec_l6Copy.bits1 (fun HT_ HW_ => ?_)
  generalize w4.drew = w5 at BK628 BK629 HB hHeld ⊢
  refine pw_ 1 (some 4) (bm 8 2) HT_ ?_
  refine pw_ 4 (some 7) (bm 8 18) HT_ ?_
  refine tw_ 2 (some 5) (bm 8 22) HT_ HW_ hHeld ?_
  refine tw_ 5 (some 8) (bm 8 54) HT_ HW_ hHeld ?_
  refine ow_ 0 (some 3) (bm 8 55) HT_ (fun K hK => ?_)
  refine Kd.R_lit_step (Kd.int .i64) _ 3 ?hg (N := 3) ?hd (xs := ([] : List Int)) (inner := []) (ok := fun _ => True) (okp := fun _ => True) ?hr ?hp (fun _ hk => hk) trivial (Below.refl _ _) (Nat.le_refl _) (by simp) ?_; (case hd => rfl); (case hg => rfl); (case hr => first | (go_simp; done) | (go_simp; rfl)); (case hp => exact (Reps.none _ _))
  intro v631 w6 ho7 hb hg_ hnew_
  clear hg_ hnew_
  (first | rw [← Ny630.out] at ho7 | (simp only [Int.reduceToNat] at ho7; rw [← Ny630.out] at ho7))
  have HO632 := am (Kd.R_lower ho7 (below_size (bw HB.out)))
  replace BK628 := am (bb BK628 hb)
  replace BK629 := am (bb BK629 hb)
  replace HB := am (below_step (bw HB.out) hb)
  clear hb ho7
  refine hK.out _ _ ⟨cl BK628 0, cl BK628 1⟩ (fun hHeld => ?_)
  clear hK K
  refine nw_ 3 ?_
  refine ow_ 3 (some 6) (bm 8 63) HT_ (fun K hK => ?_)
  refine Kd.R_append_rows_step (Kd.int .i64) (w0 := w) w.heap.size (by rfl) (.tmp 3) (.tmp 5) 30 3 (.int .i64 0) 8 rfl Try.underlying30 info3 rfl (by decide) (by omega) v631 y630 l0_0 _ _ _ (fun _ => True) (fun _ => False) rfl rfl ?aO ?aR (fun _ _ h => h) (fun _ h => h.elim) ?aF ?aB ?aS ?aL ?_
  (case aR => exact kc (Kd.C_below HR0_0.out HB.out))
  (case aB => exact (bw HB.out))
  (case aF => exact (fun _ _ => trivial))
  (case aO => exact (kr HO632.out))
  (case aS => exact (below_size (bw HB.out)))
  (case aL => have := LMc2.out; omega)
  intro v634 w8 ho hb hg hat
  rw [← Ny633.out] at ho
  have n0_ := am (blk_grown (g := gb628) (o := .cells #[.slice A0_0 l0_0.length c0_0, .int .i64 a0_1] 32 (0, 0)) (kb BK628.out) hg (Kd.R_ne HO632.out BK628.out (by decide)))
  have n1_ := am (blk_grown (g := gb629) (o := .cells #[.slice none 0 0, .int .i64 0] 32 (0, 0)) (kb BK629.out) hg (Kd.R_ne HO632.out BK629.out (by decide)))
  have n2_ := am (hb)
  have n3_ := am (ho)
  clear BK628; clear BK629; clear HB; clear HO632; have BK628 := n0_; have BK629 := n1_; have HB := n2_; have HO635 := n3_; clear n0_ n1_ n2_ n3_; clear ho hb hg hat
  obtain ⟨Ao9, co9, eo9⟩ := Kd.R_slice HO635.out
  (first | subst eo9 | (injection eo9 with f1_ f2_ f3_; have f4_ := f1_.symm; have f5_ := f3_.symm; clear f1_ f2_ f3_; subst f4_; subst f5_))
  refine hK.out _ _ ⟨cl BK628 0, cl BK628 1⟩ (fun hHeld => ?_)
  clear hK K
  refine nw_ 6 ?_
  refine pw_ 6 (some 9) (bm 8 127) HT_ ?_
  refine ow_ 7 none (bm 8 255) HT_ (fun K hK => ?_)
  refine skip_ (w1 := ?_) (by rfl) rfl ?_ ?_
  rotate_left
  ·obtain ⟨a0, a1⟩ := ce2 BK629
   obtain ⟨f0, f1⟩ := fz2 BK629
   have p_ := NB628_629.out
   go_simp
   rfl
  refine hK.out _ _ ?_ (fun hHeld => ?_)
  ·exact ⟨(fr NB628_629 (hHeld.1)), (fr NB628_629 (hHeld.2))⟩
  clear hK K
  refine done_ (done_of HT_.out (by kernel_rfl)) ?_
  try go_wp2
  refine bodyPost_ret (results_cell_row rfl _ _ gb629 32 #[.slice Ao9 y633.length co9, .int .i64 a0_1] (0, 0) _ rfl (bq BK629.out) Try.underlying32 rfl (by kernel_rfl)) rfl ?_
  exact ⟨_, rt, kr (Kd.R_mono (Kd.R_far (p := ⟨gb629, 1, none⟩) (Kd.R_far (p := ⟨gb629, 0, none⟩) (Kd.R_types HO635.out BK629.out (by decide)) (fun _ hk => hk.2) (.slice Ao9 y633.length co9)) (fun _ hk => hk.2) (.int .i64 a0_1)) (fun _ hk => trivial)), bw HB.out⟩
 ·rw [if_neg c2] at H
  exact absurd H (by simp)

/-! ### spec_Signs: function 114 -/
def spec_Signs.f (a0 : Int) : Option (Bool × Bool) := (spec_Byte.f a0).bind fun t636 => ((spec_Byte.f a0).bind fun t637 => (some ((t636 == 0), decide (t637 > 127))))
theorem spec_Signs.calls (a0 : Int) (r1 : Bool) (r2 : Bool) (w : World) (h : spec_Signs.f a0 = some (r1, r2)) :
  Calls Try.prog 114 #[.int .i64 a0] w fun e w' => e = .returned (.tuple #[.bool r1, .bool r2]) ∧ Drawn0 w w' := by
 have H : ((spec_Byte.f a0).bind fun t636 => ((spec_Byte.f a0).bind fun t637 => (some ((t636 == 0), decide (t637 > 127))))) = some (r1, r2) := h
 clear h
 replace H := bs H
 obtain ⟨t636, A20, H⟩ := H
 replace H : ((spec_Byte.f a0).bind fun t637 => (some ((t636 == 0), decide (t637 > 127)))) = some (r1, r2) := H
 have A2 := am A20
 clear A20
 replace H := bs H
 obtain ⟨t637, A30, H⟩ := H
 replace H : (some ((t636 == 0), decide (t637 > 127))) = some (r1, r2) := H
 have A3 := am A30
 clear A30
 simp only [Option.some.injEq, Prod.mk.injEq] at H
 obtain ⟨rfl, rfl⟩ := H
 go_enter Try.func114, Try.ntmps114
 go_wp2_with (first | ((with_reducible refine gate_callee (f := 71) rfl ?_); refine goesM_ (some 5) rfl rfl Try.func71 #[.int .i64 a0] ?_; (with_reducible refine (spec_Byte.calls a0 t636 _ A2.out).mono ?_); rintro e w' ⟨rfl, ⟨nd, rfl⟩⟩; refine ⟨_, rfl, ?_⟩) | ((with_reducible refine gate_callee (f := 71) rfl ?_); refine goesM_ (some 8) rfl rfl Try.func71 #[.int .i64 a0] ?_; (with_reducible refine (spec_Byte.calls a0 t637 _ A3.out).mono ?_); rintro e w' ⟨rfl, ⟨nd, rfl⟩⟩; refine ⟨_, rfl, ?_⟩))
 go_ret2
 exact ⟨by first | rfl | (simp; done) | (simp [*]; done), by repeat (first | exact Drawn0.refl _ | apply Drawn0.step)⟩

/-! ### spec_SetA: function 94 -/
def spec_SetA.f (a0_0 : Int) (a0_1 : Int) (a0_2 : Int) (a0_3 : Int) (a0_4 : Bool) (a0_5 : Bool) (a0_6 : Bool) (a0_7 : Bool) (a1 : Int) : Option (Int × Int × Int × Int × Bool × Bool × Bool × Bool) := (spec_Byte.f a1).bind fun t640 => ((spec_Signs.f a1).bind fun bt641 => (some (t640, a0_1, a0_2, a0_3, bt641.1, bt641.2, a0_6, a0_7)))
theorem spec_SetA.calls (a0_0 : Int) (a0_1 : Int) (a0_2 : Int) (a0_3 : Int) (a0_4 : Bool) (a0_5 : Bool) (a0_6 : Bool) (a0_7 : Bool) (a1 : Int) (r1 : Int) (r2 : Int) (r3 : Int) (r4 : Int) (r5 : Bool) (r6 : Bool) (r7 : Bool) (r8 : Bool) (w : World) (h : spec_SetA.f a0_0 a0_1 a0_2 a0_3 a0_4 a0_5 a0_6 a0_7 a1 = some (r1, r2, r3, r4, r5, r6, r7, r8)) :
  Calls Try.prog 94 #[.agg #[.int .i64 a0_0, .int .i64 a0_1, .int .i64 a0_2, .int .i64 a0_3, .bool a0_4, .bool a0_5, .bool a0_6, .bool a0_7], .int .i64 a1] w fun e w' => e = .returned (.agg #[.int .i64 r1, .int .i64 r2, .int .i64 r3, .int .i64 r4, .bool r5, .bool r6, .bool r7, .bool r8]) ∧ Below w.heap.size w w' := by
 have hu55 := Try.underlying55
 have HB := am (Below.refl w.heap.size w)
 have H : ((spec_Byte.f a1).bind fun t640 => ((spec_Signs.f a1).bind fun bt641 => (some (t640, a0_1, a0_2, a0_3, bt641.1, bt641.2, a0_6, a0_7)))) = some (r1, r2, r3, r4, r5, r6, r7, r8) := h
 clear h
 replace H := bs H
 obtain ⟨t640, A30, H⟩ := H
 replace H : ((spec_Signs.f a1).bind fun bt641 => (some (t640, a0_1, a0_2, a0_3, bt641.1, bt641.2, a0_6, a0_7))) = some (r1, r2, r3, r4, r5, r6, r7, r8) := H
 have A3 := am A30
 clear A30
 replace H := bs H
 obtain ⟨⟨t641, t642⟩, A40, H⟩ := H
 replace H : (some (t640, a0_1, a0_2, a0_3, t641, t642, a0_6, a0_7)) = some (r1, r2, r3, r4, r5, r6, r7, r8) := H
 have A4 := am A40
 clear A40
 simp only [Option.some.injEq, Prod.mk.injEq] at H
 obtain ⟨rfl, rfl, rfl, rfl, rfl, rfl, rfl, rfl⟩ := H
 go_enter Try.func94, Try.ntmps94
 go_wp2_with (first | ((with_reducible refine gd 2 ?_); refine bx (N := 2) (cs := #[.int .i64 a0_0, .int .i64 a0_1, .int .i64 a0_2, .int .i64 a0_3, .bool a0_4, .bool a0_5, .bool a0_6, .bool a0_7]) (t := 55) ?_; intro gb638 hg w5 hbox hb; have BK638 := am (hbox); have GW638 := am ((gs hg (bw HB.out))); have GE638 := am ((gs hg (bw HB.out))); replace HB := am (below_step (bw HB.out) hb); clear hb hbox hg) | ((with_reducible refine gd 4 ?_); refine bz (N := 4) ?_; intro gb639 hg w6 hbox hb; have BK639 := am (hbox); have GW639 := am ((gs hg (bw HB.out))); have GE639 := am ((gs hg (bw HB.out))); replace HB := am (below_step (bw HB.out) hb); have NB638_639 := am ((ga hg BK638.out)); have NB639_638 := am ((gc hg BK638.out)); replace BK638 := am (bb BK638 hb); clear hb hbox hg) | ((with_reducible refine gate_callee (f := 71) rfl ?_); refine goesM_ (some 6) rfl rfl Try.func71 #[.int .i64 a1] ?_; (with_reducible refine (spec_Byte.calls a1 t640 _ A3.out).mono ?_); rintro e w' ⟨rfl, ⟨nd, rfl⟩⟩; refine ⟨_, rfl, ?_⟩; (try (rw [drewN_self w6]; generalize hq_ : World.drewN w6 _ = w6; have n0_ : Aside0 (w6.heap[gb638]? = some (.cells #[.int .i64 a0_0, .int .i64 a0_1, .int .i64 a0_2, .int .i64 a0_3, .bool a0_4, .bool a0_5, .bool a0_6, .bool a0_7] 55 (0, 0))) := ⟨by rw [← hq_]; exact (kb BK638.out)⟩; have n1_ : Aside0 (w6.heap[gb639]? = some (.cells #[.int .i64 0, .int .i64 0, .int .i64 0, .int .i64 0, .bool false, .bool false, .bool false, .bool false] 55 (0, 0))) := ⟨by rw [← hq_]; exact (kb BK639.out)⟩; have n2_ : Aside0 (Below w.heap.size w w6) := ⟨by rw [← hq_]; exact (bw HB.out)⟩; clear BK638 BK639 HB hq_; have BK638 := n0_; have BK639 := n1_; have HB := n2_; clear n0_ n1_ n2_; (try obtain ⟨hcz8_0, hcz8_1, hcz8_2, hcz8_3, hcz8_4, hcz8_5, hcz8_6, hcz8_7⟩ := ce8 BK638); (try obtain ⟨hfz8_0, hfz8_1, hfz8_2, hfz8_3, hfz8_4, hfz8_5, hfz8_6, hfz8_7⟩ := fz8 BK638); (try obtain ⟨hcz9_0, hcz9_1, hcz9_2, hcz9_3, hcz9_4, hcz9_5, hcz9_6, hcz9_7⟩ := ce8 BK639); (try obtain ⟨hfz9_0, hfz9_1, hfz9_2, hfz9_3, hfz9_4, hfz9_5, hfz9_6, hfz9_7⟩ := fz8 BK639))); have p_ := NB638_639.out; obtain ⟨hcz8_0, hcz8_1, hcz8_2, hcz8_3, hcz8_4, hcz8_5, hcz8_6, hcz8_7⟩ := ce8 BK638; obtain ⟨hfz8_0, hfz8_1, hfz8_2, hfz8_3, hfz8_4, hfz8_5, hfz8_6, hfz8_7⟩ := fz8 BK638) | ((with_reducible refine gate_callee (f := 114) rfl ?_); refine goesM_ (some 10) rfl rfl Try.func114 #[.int .i64 a1] ?_; (with_reducible refine (spec_Signs.calls a1 t641 t642 _ A4.out).mono ?_); rintro e w' ⟨rfl, ⟨nd, rfl⟩⟩; refine ⟨_, rfl, ?_⟩; obtain ⟨hcz9_0, hcz9_1, hcz9_2, hcz9_3, hcz9_4, hcz9_5, hcz9_6, hcz9_7⟩ := ce8 BK639; obtain ⟨hfz9_0, hfz9_1, hfz9_2, hfz9_3, hfz9_4, hfz9_5, hfz9_6, hfz9_7⟩ := fz8 BK639))
 refine bodyPost_ret (results_cell_row rfl _ _ gb639 55 #[.int .i64 t640, .int .i64 a0_1, .int .i64 a0_2, .int .i64 a0_3, .bool t641, .bool t642, .bool a0_6, .bool a0_7] (0, 0) _ rfl (bf NB639_638 BK639.out) Try.underlying55 rfl (by kernel_rfl)) rfl ?_
 exact ⟨rt, bw HB.out⟩

/-! ### spec_l1Bit: function 116 -/
def spec_l1Bit.f (a0 : Bool) : Option (Int) := if a0 = true then (some 1) else (some 0)
theorem spec_l1Bit.calls (a0 : Bool) (r : Int) (w : World) (h : spec_l1Bit.f a0 = some r) :
  Calls Try.prog 116 #[.bool a0] w fun e w' => e = .returned (.int .i64 r) ∧ Drawn0 w w' := by
 have H : (if a0 = true then (some 1) else (some 0)) = some r := h
 clear h
 by_cases c2 : a0 = true
 ·subst c2
  have H1 : (some 1) = some r := by rw [if_pos rfl] at H; exact H
  clear H
  have H := H1
  clear H1
  obtain rfl := oj H
  go_enter Try.func116, Try.ntmps116
  go_wp2
  go_ret
  exact ⟨by first | rfl | (simp; done) | (simp [*]; done), by repeat (first | exact Drawn0.refl _ | apply Drawn0.step)⟩
 ·replace c2 := Bool.eq_false_iff.mpr c2
  subst c2
  have H1 : (some 0) = some r := by rw [if_neg (show ¬ (false = true) by decide)] at H; exact H
  clear H
  have H := H1
  clear H1
  obtain rfl := oj H
  go_enter Try.func116, Try.ntmps116
  go_wp2
  go_ret
  exact ⟨by first | rfl | (simp; done) | (simp [*]; done), by repeat (first | exact Drawn0.refl _ | apply Drawn0.step)⟩

/-! ### spec_Add8: function 128 -/
def spec_Add8.f (a0 : Int) (a1 : Int) (a2 : Bool) : Option (Int × Bool) := (spec_Byte.f a0).bind fun t643 => ((spec_Byte.f a1).bind fun t644 => ((spec_l1Bit.f a2).bind fun t645 => ((spec_Byte.f (wrap64 ((wrap64 (t643 + t644)) + t645))).bind fun t646 => (some (t646, decide ((wrap64 ((wrap64 (t643 + t644)) + t645)) > 255))))))
theorem spec_Add8.calls (a0 : Int) (a1 : Int) (a2 : Bool) (r1 : Int) (r2 : Bool) (w : World) (h : spec_Add8.f a0 a1 a2 = some (r1, r2)) :
  Calls Try.prog 128 #[.int .i64 a0, .int .i64 a1, .bool a2] w fun e w' => e = .returned (.tuple #[.int .i64 r1, .bool r2]) ∧ Drawn0 w w' := by
 have H : ((spec_Byte.f a0).bind fun t643 => ((spec_Byte.f a1).bind fun t644 => ((spec_l1Bit.f a2).bind fun t645 => ((spec_Byte.f (wrap64 ((wrap64 (t643 + t644)) + t645))).bind fun t646 => (some (t646, decide ((wrap64 ((wrap64 (t643 + t644)) + t645)) > 255))))))) = some (r1, r2) := h
 clear h
 replace H := bs H
 obtain ⟨t643, A40, H⟩ := H
 replace H : ((spec_Byte.f a1).bind fun t644 => ((spec_l1Bit.f a2).bind fun t645 => ((spec_Byte.f (wrap64 ((wrap64 (t643 + t644)) + t645))).bind fun t646 => (some (t646, decide ((wrap64 ((wrap64 (t643 + t644)) + t645)) > 255)))))) = some (r1, r2) := H
 have A4 := am A40
 clear A40
 replace H := bs H
 obtain ⟨t644, A50, H⟩ := H
 replace H : ((spec_l1Bit.f a2).bind fun t645 => ((spec_Byte.f (wrap64 ((wrap64 (t643 + t644)) + t645))).bind fun t646 => (some (t646, decide ((wrap64 ((wrap64 (t643 + t644)) + t645)) > 255))))) = some (r1, r2) := H
 have A5 := am A50
 clear A50
 replace H := bs H
 obtain ⟨t645, A60, H⟩ := H
 replace H : ((spec_Byte.f (wrap64 ((wrap64 (t643 + t644)) + t645))).bind fun t646 => (some (t646, decide ((wrap64 ((wrap64 (t643 + t644)) + t645)) > 255)))) = some (r1, r2) := H
 have A6 := am A60
 clear A60
 replace H := bs H
 obtain ⟨t646, A70, H⟩ := H
 replace H : (some (t646, decide ((wrap64 ((wrap64 (t643 + t644)) + t645)) > 255))) = some (r1, r2) := H
 have A7 := am A70
 clear A70
 simp only [Option.some.injEq, Prod.mk.injEq] at H
 obtain ⟨rfl, rfl⟩ := H
 go_enter Try.func128, Try.ntmps128
 go_wp2_with (first | ((with_reducible refine gate_callee (f := 71) rfl ?_); refine goesM_ (some 10) rfl rfl Try.func71 #[.int .i64 a0] ?_; (with_reducible refine (spec_Byte.calls a0 t643 _ A4.out).mono ?_); rintro e w' ⟨rfl, ⟨nd, rfl⟩⟩; refine ⟨_, rfl, ?_⟩) | ((with_reducible refine gate_callee (f := 71) rfl ?_); refine goesM_ (some 12) rfl rfl Try.func71 #[.int .i64 a1] ?_; (with_reducible refine (spec_Byte.calls a1 t644 _ A5.out).mono ?_); rintro e w' ⟨rfl, ⟨nd, rfl⟩⟩; refine ⟨_, rfl, ?_⟩) | ((with_reducible refine gate_callee (f := 116) rfl ?_); refine goesM_ (some 15) rfl rfl Try.func116 #[.bool a2] ?_; (with_reducible refine (spec_l1Bit.calls a2 t645 _ A6.out).mono ?_); rintro e w' ⟨rfl, ⟨nd, rfl⟩⟩; refine ⟨_, rfl, ?_⟩) | ((with_reducible refine gate_callee (f := 71) rfl ?_); refine goesM_ (some 18) rfl rfl Try.func71 #[.int .i64 (wrap64 ((wrap64 (t643 + t644)) + t645))] ?_; (with_reducible refine (spec_Byte.calls (wrap64 ((wrap64 (t643 + t644)) + t645)) t646 _ A7.out).mono ?_); rintro e w' ⟨rfl, ⟨nd, rfl⟩⟩; refine ⟨_, rfl, ?_⟩))
 go_ret2
 exact ⟨by first | rfl | (simp; done) | (simp [*]; done), by repeat (first | exact Drawn0.refl _ | apply Drawn0.step)⟩

/-! ### spec_Sub8: function 113 -/
def spec_Sub8.f (a0 : Int) (a1 : Int) (a2 : Bool) : Option (Int × Bool) := (spec_Byte.f a0).bind fun t659 => ((spec_Byte.f a1).bind fun t660 => ((spec_l1Bit.f a2).bind fun t661 => ((spec_Byte.f (wrap64 ((wrap64 ((wrap64 (t659 - t660)) - 1)) + t661))).bind fun t662 => (some (t662, decide ((wrap64 ((wrap64 ((wrap64 (t659 - t660)) - 1)) + t661)) ≥ 0))))))
theorem spec_Sub8.calls (a0 : Int) (a1 : Int) (a2 : Bool) (r1 : Int) (r2 : Bool) (w : World) (h : spec_Sub8.f a0 a1 a2 = some (r1, r2)) :
  Calls Try.prog 113 #[.int .i64 a0, .int .i64 a1, .bool a2] w fun e w' => e = .returned (.tuple #[.int .i64 r1, .bool r2]) ∧ Drawn0 w w' := by
 have H : ((spec_Byte.f a0).bind fun t659 => ((spec_Byte.f a1).bind fun t660 => ((spec_l1Bit.f a2).bind fun t661 => ((spec_Byte.f (wrap64 ((wrap64 ((wrap64 (t659 - t660)) - 1)) + t661))).bind fun t662 => (some (t662, decide ((wrap64 ((wrap64 ((wrap64 (t659 - t660)) - 1)) + t661)) ≥ 0))))))) = some (r1, r2) := h
 clear h
 replace H := bs H
 obtain ⟨t659, A40, H⟩ := H
 replace H : ((spec_Byte.f a1).bind fun t660 => ((spec_l1Bit.f a2).bind fun t661 => ((spec_Byte.f (wrap64 ((wrap64 ((wrap64 (t659 - t660)) - 1)) + t661))).bind fun t662 => (some (t662, decide ((wrap64 ((wrap64 ((wrap64 (t659 - t660)) - 1)) + t661)) ≥ 0)))))) = some (r1, r2) := H
 have A4 := am A40
 clear A40
 replace H := bs H
 obtain ⟨t660, A50, H⟩ := H
 replace H : ((spec_l1Bit.f a2).bind fun t661 => ((spec_Byte.f (wrap64 ((wrap64 ((wrap64 (t659 - t660)) - 1)) + t661))).bind fun t662 => (some (t662, decide ((wrap64 ((wrap64 ((wrap64 (t659 - t660)) - 1)) + t661)) ≥ 0))))) = some (r1, r2) := H
 have A5 := am A50
 clear A50
 replace H := bs H
 obtain ⟨t661, A60, H⟩ := H
 replace H : ((spec_Byte.f (wrap64 ((wrap64 ((wrap64 (t659 - t660)) - 1)) + t661))).bind fun t662 => (some (t662, decide ((wrap64 ((wrap64 ((wrap64 (t659 - t660)) - 1)) + t661)) ≥ 0)))) = some (r1, r2) := H
 have A6 := am A60
 clear A60
 replace H := bs H
 obtain ⟨t662, A70, H⟩ := H
 replace H : (some (t662, decide ((wrap64 ((wrap64 ((wrap64 (t659 - t660)) - 1)) + t661)) ≥ 0))) = some (r1, r2) := H
 have A7 := am A70
 clear A70
 simp only [Option.some.injEq, Prod.mk.injEq] at H
 obtain ⟨rfl, rfl⟩ := H
 go_enter Try.func113, Try.ntmps113
 go_wp2_with (first | ((with_reducible refine gate_callee (f := 71) rfl ?_); refine goesM_ (some 10) rfl rfl Try.func71 #[.int .i64 a0] ?_; (with_reducible refine (spec_Byte.calls a0 t659 _ A4.out).mono ?_); rintro e w' ⟨rfl, ⟨nd, rfl⟩⟩; refine ⟨_, rfl, ?_⟩) | ((with_reducible refine gate_callee (f := 71) rfl ?_); refine goesM_ (some 12) rfl rfl Try.func71 #[.int .i64 a1] ?_; (with_reducible refine (spec_Byte.calls a1 t660 _ A5.out).mono ?_); rintro e w' ⟨rfl, ⟨nd, rfl⟩⟩; refine ⟨_, rfl, ?_⟩) | ((with_reducible refine gate_callee (f := 116) rfl ?_); refine goesM_ (some 16) rfl rfl Try.func116 #[.bool a2] ?_; (with_reducible refine (spec_l1Bit.calls a2 t661 _ A6.out).mono ?_); rintro e w' ⟨rfl, ⟨nd, rfl⟩⟩; refine ⟨_, rfl, ?_⟩) | ((with_reducible refine gate_callee (f := 71) rfl ?_); refine goesM_ (some 19) rfl rfl Try.func71 #[.int .i64 (wrap64 ((wrap64 ((wrap64 (t659 - t660)) - 1)) + t661))] ?_; (with_reducible refine (spec_Byte.calls (wrap64 ((wrap64 ((wrap64 (t659 - t660)) - 1)) + t661)) t662 _ A7.out).mono ?_); rintro e w' ⟨rfl, ⟨nd, rfl⟩⟩; refine ⟨_, rfl, ?_⟩))
 go_ret2
 exact ⟨by first | rfl | (simp; done) | (simp [*]; done), by repeat (first | exact Drawn0.refl _ | apply Drawn0.step)⟩

/-! ### spec_SetX: function 115 -/
def spec_SetX.f (a0_0 : Int) (a0_1 : Int) (a0_2 : Int) (a0_3 : Int) (a0_4 : Bool) (a0_5 : Bool) (a0_6 : Bool) (a0_7 : Bool) (a1 : Int) : Option (Int × Int × Int × Int × Bool × Bool × Bool × Bool) := (spec_Byte.f a1).bind fun t665 => ((spec_Signs.f a1).bind fun bt666 => (some (a0_0, t665, a0_2, a0_3, bt666.1, bt666.2, a0_6, a0_7)))
theorem spec_SetX.calls (a0_0 : Int) (a0_1 : Int) (a0_2 : Int) (a0_3 : Int) (a0_4 : Bool) (a0_5 : Bool) (a0_6 : Bool) (a0_7 : Bool) (a1 : Int) (r1 : Int) (r2 : Int) (r3 : Int) (r4 : Int) (r5 : Bool) (r6 : Bool) (r7 : Bool) (r8 : Bool) (w : World) (h : spec_SetX.f a0_0 a0_1 a0_2 a0_3 a0_4 a0_5 a0_6 a0_7 a1 = some (r1, r2, r3, r4, r5, r6, r7, r8)) :
  Calls Try.prog 115 #[.agg #[.int .i64 a0_0, .int .i64 a0_1, .int .i64 a0_2, .int .i64 a0_3, .bool a0_4, .bool a0_5, .bool a0_6, .bool a0_7], .int .i64 a1] w fun e w' => e = .returned (.agg #[.int .i64 r1, .int .i64 r2, .int .i64 r3, .int .i64 r4, .bool r5, .bool r6, .bool r7, .bool r8]) ∧ Below w.heap.size w w' := by
 have hu55 := Try.underlying55
 have HB := am (Below.refl w.heap.size w)
 have H : ((spec_Byte.f a1).bind fun t665 => ((spec_Signs.f a1).bind fun bt666 => (some (a0_0, t665, a0_2, a0_3, bt666.1, bt666.2, a0_6, a0_7)))) = some (r1, r2, r3, r4, r5, r6, r7, r8) := h
 clear h
 replace H := bs H
 obtain ⟨t665, A30, H⟩ := H
 replace H : ((spec_Signs.f a1).bind fun bt666 => (some (a0_0, t665, a0_2, a0_3, bt666.1, bt666.2, a0_6, a0_7))) = some (r1, r2, r3, r4, r5, r6, r7, r8) := H
 have A3 := am A30
 clear A30
 replace H := bs H
 obtain ⟨⟨t666, t667⟩, A40, H⟩ := H
 replace H : (some (a0_0, t665, a0_2, a0_3, t666, t667, a0_6, a0_7)) = some (r1, r2, r3, r4, r5, r6, r7, r8) := H
 have A4 := am A40
 clear A40
 simp only [Option.some.injEq, Prod.mk.injEq] at H
 obtain ⟨rfl, rfl, rfl, rfl, rfl, rfl, rfl, rfl⟩ := H
 go_enter Try.func115, Try.ntmps115
 go_wp2_with (first | ((with_reducible refine gd 2 ?_); refine bx (N := 2) (cs := #[.int .i64 a0_0, .int .i64 a0_1, .int .i64 a0_2, .int .i64 a0_3, .bool a0_4, .bool a0_5, .bool a0_6, .bool a0_7]) (t := 55) ?_; intro gb663 hg w5 hbox hb; have BK663 := am (hbox); have GW663 := am ((gs hg (bw HB.out))); have GE663 := am ((gs hg (bw HB.out))); replace HB := am (below_step (bw HB.out) hb); clear hb hbox hg) | ((with_reducible refine gd 4 ?_); refine bz (N := 4) ?_; intro gb664 hg w6 hbox hb; have BK664 := am (hbox); have GW664 := am ((gs hg (bw HB.out))); have GE664 := am ((gs hg (bw HB.out))); replace HB := am (below_step (bw HB.out) hb); have NB663_664 := am ((ga hg BK663.out)); have NB664_663 := am ((gc hg BK663.out)); replace BK663 := am (bb BK663 hb); clear hb hbox hg) | ((with_reducible refine gate_callee (f := 71) rfl ?_); refine goesM_ (some 6) rfl rfl Try.func71 #[.int .i64 a1] ?_; (with_reducible refine (spec_Byte.calls a1 t665 _ A3.out).mono ?_); rintro e w' ⟨rfl, ⟨nd, rfl⟩⟩; refine ⟨_, rfl, ?_⟩; (try (rw [drewN_self w6]; generalize hq_ : World.drewN w6 _ = w6; have n0_ : Aside0 (w6.heap[gb663]? = some (.cells #[.int .i64 a0_0, .int .i64 a0_1, .int .i64 a0_2, .int .i64 a0_3, .bool a0_4, .bool a0_5, .bool a0_6, .bool a0_7] 55 (0, 0))) := ⟨by rw [← hq_]; exact (kb BK663.out)⟩; have n1_ : Aside0 (w6.heap[gb664]? = some (.cells #[.int .i64 0, .int .i64 0, .int .i64 0, .int .i64 0, .bool false, .bool false, .bool false, .bool false] 55 (0, 0))) := ⟨by rw [← hq_]; exact (kb BK664.out)⟩; have n2_ : Aside0 (Below w.heap.size w w6) := ⟨by rw [← hq_]; exact (bw HB.out)⟩; clear BK663 BK664 HB hq_; have BK663 := n0_; have BK664 := n1_; have HB := n2_; clear n0_ n1_ n2_; (try obtain ⟨hcz8_0, hcz8_1, hcz8_2, hcz8_3, hcz8_4, hcz8_5, hcz8_6, hcz8_7⟩ := ce8 BK663); (try obtain ⟨hfz8_0, hfz8_1, hfz8_2, hfz8_3, hfz8_4, hfz8_5, hfz8_6, hfz8_7⟩ := fz8 BK663); (try obtain ⟨hcz9_0, hcz9_1, hcz9_2, hcz9_3, hcz9_4, hcz9_5, hcz9_6, hcz9_7⟩ := ce8 BK664); (try obtain ⟨hfz9_0, hfz9_1, hfz9_2, hfz9_3, hfz9_4, hfz9_5, hfz9_6, hfz9_7⟩ := fz8 BK664))); have p_ := NB663_664.out; obtain ⟨hcz8_0, hcz8_1, hcz8_2, hcz8_3, hcz8_4, hcz8_5, hcz8_6, hcz8_7⟩ := ce8 BK663; obtain ⟨hfz8_0, hfz8_1, hfz8_2, hfz8_3, hfz8_4, hfz8_5, hfz8_6, hfz8_7⟩ := fz8 BK663) | ((with_reducible refine gate_callee (f := 114) rfl ?_); refine goesM_ (some 10) rfl rfl Try.func114 #[.int .i64 a1] ?_; (with_reducible refine (spec_Signs.calls a1 t666 t667 _ A4.out).mono ?_); rintro e w' ⟨rfl, ⟨nd, rfl⟩⟩; refine ⟨_, rfl, ?_⟩; obtain ⟨hcz9_0, hcz9_1, hcz9_2, hcz9_3, hcz9_4, hcz9_5, hcz9_6, hcz9_7⟩ := ce8 BK664; obtain ⟨hfz9_0, hfz9_1, hfz9_2, hfz9_3, hfz9_4, hfz9_5, hfz9_6, hfz9_7⟩ := fz8 BK664))
 refine bodyPost_ret (results_cell_row rfl _ _ gb664 55 #[.int .i64 a0_0, .int .i64 t665, .int .i64 a0_2, .int .i64 a0_3, .bool t666, .bool t667, .bool a0_6, .bool a0_7] (0, 0) _ rfl (bf NB664_663 BK664.out) Try.underlying55 rfl (by kernel_rfl)) rfl ?_
 exact ⟨rt, bw HB.out⟩

end Go.Proofs.Ytmkccgbfgebfbaa.MFnCalled
