/- Walks of functions that the law FnFlags reaches: each comes to just what its Lean function says. (Begun as the texts that print.sh wrote for this claim; some of them, and those that it does not write, are mine.) No condition. -/
import Derived.Test.YtcdfkemhigmnlaaMFnFlagsx0
namespace Go.Proofs.Ytcdfkemhigmnlaa.MFnFlags
open Go.RowKit Go.Proofs.YtcdfkemhigmnlaaW.PrintWords Go.Proofs.YtcdfkemhigmnlaaW.PrintLast Go.Proofs.YtcdfkemhigmnlaaW.PrintMore
attribute [local go_sem] max2_int min2_int max_two min_two max_three min_three max_four min_four   -- for this text's walks alone
set_option linter.unusedVariables false
set_option linter.unusedSimpArgs false

/-! ### cells_words (mine) -/
section
variable {w : World} {r : Nat} {t : TypeId} {o0 o1 o2 o3 o4 o5 o6 o7 : Value}
theorem cells8 (h : w.heap[r]? = some (.cells #[o0, o1, o2, o3, o4, o5, o6, o7] t (0, 0))) : w.cell? ⟨r, 0, none⟩ = some o0 ∧ w.cell? ⟨r, 1, none⟩ = some o1 ∧ w.cell? ⟨r, 3, none⟩ = some o3 ∧ w.cell? ⟨r, 4, none⟩ = some o4 ∧ w.cell? ⟨r, 5, none⟩ = some o5 ∧ w.cell? ⟨r, 6, none⟩ = some o6 :=
 ⟨(blk_cell h 0).trans rfl, (blk_cell h 1).trans rfl, (blk_cell h 3).trans rfl, (blk_cell h 4).trans rfl, (blk_cell h 5).trans rfl, (blk_cell h 6).trans rfl⟩
theorem cellsF (h : w.heap[r]? = some (.cells #[o0, o1, o2, o3, o4, o5, o6, o7] t (0, 0))) : (w.cell? ⟨r, 0, none⟩ = some o0 ∧ w.cell? ⟨r, 1, none⟩ = some o1 ∧ w.cell? ⟨r, 2, none⟩ = some o2 ∧ w.cell? ⟨r, 3, none⟩ = some o3 ∧ w.cell? ⟨r, 4, none⟩ = some o4 ∧ w.cell? ⟨r, 5, none⟩ = some o5 ∧ w.cell? ⟨r, 6, none⟩ = some o6 ∧ w.cell? ⟨r, 7, none⟩ = some o7) ∧
  (w.frozen? ⟨r, 0, none⟩ = false ∧ w.frozen? ⟨r, 1, none⟩ = false ∧ w.frozen? ⟨r, 2, none⟩ = false ∧ w.frozen? ⟨r, 3, none⟩ = false ∧ w.frozen? ⟨r, 4, none⟩ = false ∧ w.frozen? ⟨r, 5, none⟩ = false ∧ w.frozen? ⟨r, 6, none⟩ = false ∧ w.frozen? ⟨r, 7, none⟩ = false) :=
 ⟨⟨(blk_cell h 0).trans rfl, (blk_cell h 1).trans rfl, (blk_cell h 2).trans rfl, (blk_cell h 3).trans rfl, (blk_cell h 4).trans rfl, (blk_cell h 5).trans rfl, (blk_cell h 6).trans rfl, (blk_cell h 7).trans rfl⟩,
  ⟨blk_frozen h 0, blk_frozen h 1, blk_frozen h 2, blk_frozen h 3, blk_frozen h 4, blk_frozen h 5, blk_frozen h 6, blk_frozen h 7⟩⟩
def sets8 (w : World) (r : Nat) (u0 u1 u2 u3 u4 u5 u6 u7 : Value) : World := (((((((w.setCell ⟨r, 0, none⟩ u0).setCell ⟨r, 1, none⟩ u1).setCell ⟨r, 2, none⟩ u2).setCell ⟨r, 3, none⟩ u3).setCell ⟨r, 4, none⟩ u4).setCell ⟨r, 5, none⟩ u5).setCell ⟨r, 6, none⟩ u6).setCell ⟨r, 7, none⟩ u7
theorem sets8_put (h : w.heap[r]? = some (.cells #[o0, o1, o2, o3, o4, o5, o6, o7] t (0, 0))) (u0 u1 u2 u3 u4 u5 u6 u7 : Value) : (sets8 w r u0 u1 u2 u3 u4 u5 u6 u7).heap[r]? = some (.cells #[u0, u1, u2, u3, u4, u5, u6, u7] t (0, 0)) := by
 refine blk_put (cs := #[u0, u1, u2, u3, u4, u5, u6, o7]) ?_ 7 _ rfl
 refine blk_put (cs := #[u0, u1, u2, u3, u4, u5, o6, o7]) ?_ 6 _ rfl
 refine blk_put (cs := #[u0, u1, u2, u3, u4, o5, o6, o7]) ?_ 5 _ rfl
 refine blk_put (cs := #[u0, u1, u2, u3, o4, o5, o6, o7]) ?_ 4 _ rfl
 refine blk_put (cs := #[u0, u1, u2, o3, o4, o5, o6, o7]) ?_ 3 _ rfl
 refine blk_put (cs := #[u0, u1, o2, o3, o4, o5, o6, o7]) ?_ 2 _ rfl
 refine blk_put (cs := #[u0, o1, o2, o3, o4, o5, o6, o7]) ?_ 1 _ rfl
 exact blk_put h 0 _ rfl
theorem sets8_far {cs : Array Value} {g : Nat} (h : w.heap[g]? = some (.cells cs t (0, 0))) (hn : g ≠ r) (u0 u1 u2 u3 u4 u5 u6 u7 : Value) : (sets8 w r u0 u1 u2 u3 u4 u5 u6 u7).heap[g]? = some (.cells cs t (0, 0)) :=
 blk_far (blk_far (blk_far (blk_far (blk_far (blk_far (blk_far (blk_far h hn _) hn _) hn _) hn _) hn _) hn _) hn _) hn _
theorem sets8_below {w0 : World} (h : Below w0.heap.size w0 w) (hr : w0.heap.size ≤ r) (u0 u1 u2 u3 u4 u5 u6 u7 : Value) : Below w0.heap.size w0 (sets8 w r u0 u1 u2 u3 u4 u5 u6 u7) :=
 below_set (below_set (below_set (below_set (below_set (below_set (below_set (below_set h hr) hr) hr) hr) hr) hr) hr) hr
end

/-! ### short_cell (mine) -/
theorem cl {w : World} {g : Nat} {cs : Array Value} {t : TypeId} (h : Aside0 (w.heap[g]? = some (.cells cs t (0, 0)))) (i : Nat) {v : Value} (e : cs[i]? = some v := by rfl) : w.cell? ⟨g, i, none⟩ = some v := (blk_cell h.out i).trans e

/-! ### short_words (mine) -/
/-! Words that bear a proof's usual end in them, so that the texts need not spell it. -/
theorem kb {w w' : World} {g : Nat} {o : Obj} (h : w.heap[g]? = some o) (f : w.heap[g]? = some o → w'.heap[g]? = some o := by intro h_; (with_reducible repeat (first | refine blk_drewN ?_ _ | refine blk_drew ?_ | refine blk_alloc ?_ _)); exact h_) : w'.heap[g]? = some o := f h
theorem bw {n : Nat} {w W W' : World} (h : Below n w W) (f : Below n w W → Below n w W' := by intro h_; repeat (first | (with_reducible first | exact h_ | apply below_alloc | apply pw_below_drewN | apply below_drew1 | refine below_set ?_ (Aside0.out (by assumption))) | exact h_)) : Below n w W' := f h
theorem kp {w W W' : World} {g : Nat} {row : Option Nat} (h : KeepBut w W g row) (f : KeepBut w W g row → KeepBut w W' g row := by intro h_; repeat (first | (with_reducible first | exact h_ | apply KeepBut.set_ | apply keep_drewN | apply keep_drew | apply keep_alloc | refine keep_far ?_ (Aside0.out (by assumption)) _) | exact h_)) : KeepBut w W' g row := f h
theorem dt {p : Prop} [Decidable p] (h : decide p = true := by first | (with_reducible assumption) | assumption) : p := of_decide_eq_true h
theorem kr {α : Type} {d : Kd α} {e base : Nat} {ok : Nat → Prop} {w w' : World} {v : Value} {xs : List α} (h : Kd.R d e w base ok v xs) (f : Kd.R d e w base ok v xs → Kd.R d e w' base ok v xs := by intro h_; (with_reducible repeat (first | apply Kd.R_alloc | apply Kd.R_drewN | apply Kd.R_drew)); exact h_) : Kd.R d e w' base ok v xs := f h
theorem ks {α : Type} {d : Kd α} {e base : Nat} {ok : Nat → Prop} {w w' : World} {v : Value} {xs : List α} (h : Kd.S d e w base ok v xs) (f : Kd.S d e w base ok v xs → Kd.S d e w' base ok v xs := by intro h_; (with_reducible repeat (first | apply Kd.S_alloc | apply Kd.S_drewN | apply Kd.S_drew)); exact h_) : Kd.S d e w' base ok v xs := f h
theorem goesM_ {P : Program} {ops : Array Oper} {Q : Exit → Act → World → Prop} {rest : List Oper} {oi : Oper} {a : Act} {w : World} (N : Option Tmp) (hd : oi.dst = N) (hg : oi.guard = none) {f : FuncId} {fn : Func} {ar : Array Operand} {ts : Array TypeId} (hf : P.funcs[f]? = some fn) (args : Array Value)
  (h : Calls P f args w fun e w' => ∃ v, e = .returned v ∧ wpList P ops Q rest (a.put N v) w') (hname : (fn.name == "runtime.NumGoroutine") = false := by kernel_rfl) (hb : fn.body.isSome = true := by rfl) (hop : oi.op = .call { callee := .value (.func f), args := ar, argTypes := ts } := by rfl)
  (hargs : ar.map a.eval = args := by ((try simp only [List.map_toArray, List.map_cons, List.map_nil]); first | done | rfl | (simp only [List.length_drop, List.length_take]; rfl))) : wpList P ops Q (oi :: rest) a w :=
 goesL_ N hd hg hf hname hb args hop hargs h
theorem kf {w w' : World} {g : Nat} {o : Obj} (h : w.heap[g]? = some o) (f : w.heap[g]? = some o → w'.heap[g]? = some o := by intro h_; (with_reducible repeat (first | refine blk_drewN ?_ _ | refine blk_drew ?_ | refine blk_alloc ?_ _ | refine blk_far ?_ (Aside0.out (by assumption)) _)); exact h_) : w'.heap[g]? = some o := f h
theorem gs {w W : World} {g : Nat} (hg : g = W.heap.size) (h : Below w.heap.size w W) : w.heap.size ≤ g := by rw [hg]; exact below_size h
theorem ga {W w1 : World} {g g' : Nat} {o : Obj} (hg : g' = W.heap.size) (h : w1.heap[g]? = some o) (f : w1.heap[g]? = some o → W.heap[g]? = some o := by intro h_; (with_reducible repeat (first | refine blk_drewN ?_ _ | refine blk_drew ?_ | refine blk_alloc ?_ _)); exact h_) : g ≠ g' := by rw [hg]; exact Nat.ne_of_lt (blk_lt (f h))
theorem gc {W w1 : World} {g g' : Nat} {o : Obj} (hg : g' = W.heap.size) (h : w1.heap[g]? = some o) (f : w1.heap[g]? = some o → W.heap[g]? = some o := by intro h_; (with_reducible repeat (first | refine blk_drewN ?_ _ | refine blk_drew ?_ | refine blk_alloc ?_ _)); exact h_) : g' ≠ g := by rw [hg]; exact Nat.ne_of_gt (blk_lt (f h))
theorem bx {P : Program} {ops : Array Oper} {Q : Exit → Act → World → Prop} {rest : List Oper} {o : Oper} {a : Act} {W : World} {N : Tmp} {cs : Array Value} {t : TypeId}
  (h : ∀ g, g = W.heap.size → ∀ w1, w1.heap[g]? = some (.cells cs t (0, 0)) → Below W.heap.size W w1 → wpList P ops Q rest (a.put o.dst (.pointer (some ⟨g, 0, none⟩))) w1) (hgd : o.guard = none := by rfl) (hd : o.dst = some N := by rfl)
  (hrun : (execOp a.eval o).run P W = .ok (.value (.pointer (some ⟨W.heap.size, 0, none⟩))) (W.alloc (.cells cs t (0, 0))) := by first | (go_simp; done) | (go_simp; rfl)) : wpList P ops Q (o :: rest) a W := box_event hgd hd hrun h
theorem kq {α : Type} {d : Kd α} {e base : Nat} {ok : Nat → Prop} {w w' : World} {v : Value} {xs : List α} (h : Kd.Q d e w base ok v xs) (f : Kd.Q d e w base ok v xs → Kd.Q d e w' base ok v xs := by intro h_; (with_reducible repeat (first | apply Kd.Q_alloc | apply Kd.Q_drewN | apply Kd.Q_drew)); exact h_) : Kd.Q d e w' base ok v xs := f h
theorem kc {α : Type} {d : Kd α} {w w' : World} {xs : List α} {A : Option Addr} {n : Nat} (h : Kd.C d w A n xs) (f : Kd.C d w A n xs → Kd.C d w' A n xs := by intro h_; repeat (first | exact h_ | (with_reducible refine Kd.C_alloc ?_ _) | (with_reducible refine Kd.C_drewN ?_ _) | (with_reducible refine Kd.C_drew ?_))) : Kd.C d w' A n xs := f h
theorem rt {a b : Ending} (h : a = b := by first | rfl | (simp [errW_none, errW_some] <;> rfl) | (simp [*, errW_none, errW_some] <;> rfl)) : a = b := h
theorem kt {w w' : World} {g : Nat} {t : TypeId} {cs cs' : Array Value} (h : w.heap[g]? = some (.cells cs t (0, 0))) (f : w.heap[g]? = some (.cells cs t (0, 0)) → w'.heap[g]? = some (.cells cs' t (0, 0)) := by intro h_; (with_reducible repeat (first | refine blk_drewN ?_ _ | refine blk_drew ?_ | refine blk_alloc ?_ _)); refine blk_put (cs := ?_) ?_ _ _ ?_; rotate_left; (· (with_reducible repeat (first | refine blk_drewN ?_ _ | refine blk_drew ?_ | refine blk_alloc ?_ _)); exact h_); rfl) : w'.heap[g]? = some (.cells cs' t (0, 0)) := f h

/-! ### impl_flag: function 73 -/
def impl_flag.f (a0 : Bool) : Option (Int) := if a0 = true then (some 1) else (some 0)
set_option maxHeartbeats 8000000 in
set_option maxRecDepth 100000 in
theorem impl_flag.calls (a0 : Bool) (r : Int) (w : World) (h : impl_flag.f a0 = some r) :
  Calls Try.prog 73 #[.bool a0] w fun e w' => e = .returned (.int .i64 r) ∧ Drawn0 w w' := by
 have H : (if a0 = true then (some 1) else (some 0)) = some r := h
 clear h
 by_cases c2 : a0 = true
 ·subst c2
  have H1 : (some 1) = some r := by rw [if_pos rfl] at H; exact H
  clear H
  have H := H1
  clear H1
  obtain rfl := Option.some.inj H
  go_enter Try.func73, Try.ntmps73
  go_wp2
  go_ret
  exact ⟨by first | rfl | (simp; done) | (simp [*]; done), by repeat (first | exact Drawn0.refl _ | apply Drawn0.step)⟩
 ·replace c2 := Bool.eq_false_iff.mpr c2
  subst c2
  have H1 : (some 0) = some r := by rw [if_neg (show ¬ (false = true) by decide)] at H; exact H
  clear H
  have H := H1
  clear H1
  obtain rfl := Option.some.inj H
  go_enter Try.func73, Try.ntmps73
  go_wp2
  go_ret
  exact ⟨by first | rfl | (simp; done) | (simp [*]; done), by repeat (first | exact Drawn0.refl _ | apply Drawn0.step)⟩

/-! ### impl_Flags: function 21 -/
def impl_Flags.f (a0_0 : Int) (a0_1 : Int) (a0_2 : Int) (a0_3 : Int) (a0_4 : Bool) (a0_5 : Bool) (a0_6 : Bool) (a0_7 : Bool) : Option (Int) := (impl_flag.f a0_6).bind fun t102 => ((impl_flag.f a0_4).bind fun t103 => ((impl_flag.f a0_7).bind fun t104 => ((impl_flag.f a0_5).bind fun t105 => (some (Go.bits .or .i64 (Go.bits .or .i64 (Go.bits .or .i64 (wrap64 (1 * t102)) (wrap64 (2 * t103))) (wrap64 (4 * t104))) (wrap64 (128 * t105)))))))
set_option maxHeartbeats 8000000 in
set_option maxRecDepth 100000 in
theorem impl_Flags.calls (a0_0 : Int) (a0_1 : Int) (a0_2 : Int) (a0_3 : Int) (a0_4 : Bool) (a0_5 : Bool) (a0_6 : Bool) (a0_7 : Bool) (r : Int) (w : World) (h : impl_Flags.f a0_0 a0_1 a0_2 a0_3 a0_4 a0_5 a0_6 a0_7 = some r) :
  Calls Try.prog 21 #[.agg #[.int .i64 a0_0, .int .i64 a0_1, .int .i64 a0_2, .int .i64 a0_3, .bool a0_4, .bool a0_5, .bool a0_6, .bool a0_7]] w fun e w' => e = .returned (.int .i64 r) ∧ Below w.heap.size w w' := by
 have hu29 := Try.underlying29
 have HB := Aside0.mk (Below.refl w.heap.size w)
 have H : ((impl_flag.f a0_6).bind fun t102 => ((impl_flag.f a0_4).bind fun t103 => ((impl_flag.f a0_7).bind fun t104 => ((impl_flag.f a0_5).bind fun t105 => (some (Go.bits .or .i64 (Go.bits .or .i64 (Go.bits .or .i64 (wrap64 (1 * t102)) (wrap64 (2 * t103))) (wrap64 (4 * t104))) (wrap64 (128 * t105)))))))) = some r := h
 clear h
 replace H := Option.bind_eq_some_iff.mp H
 obtain ⟨t102, A20, H⟩ := H
 replace H : ((impl_flag.f a0_4).bind fun t103 => ((impl_flag.f a0_7).bind fun t104 => ((impl_flag.f a0_5).bind fun t105 => (some (Go.bits .or .i64 (Go.bits .or .i64 (Go.bits .or .i64 (wrap64 (1 * t102)) (wrap64 (2 * t103))) (wrap64 (4 * t104))) (wrap64 (128 * t105))))))) = some r := H
 have A2 := Aside0.mk A20
 clear A20
 replace H := Option.bind_eq_some_iff.mp H
 obtain ⟨t103, A30, H⟩ := H
 replace H : ((impl_flag.f a0_7).bind fun t104 => ((impl_flag.f a0_5).bind fun t105 => (some (Go.bits .or .i64 (Go.bits .or .i64 (Go.bits .or .i64 (wrap64 (1 * t102)) (wrap64 (2 * t103))) (wrap64 (4 * t104))) (wrap64 (128 * t105)))))) = some r := H
 have A3 := Aside0.mk A30
 clear A30
 replace H := Option.bind_eq_some_iff.mp H
 obtain ⟨t104, A40, H⟩ := H
 replace H : ((impl_flag.f a0_5).bind fun t105 => (some (Go.bits .or .i64 (Go.bits .or .i64 (Go.bits .or .i64 (wrap64 (1 * t102)) (wrap64 (2 * t103))) (wrap64 (4 * t104))) (wrap64 (128 * t105))))) = some r := H
 have A4 := Aside0.mk A40
 clear A40
 replace H := Option.bind_eq_some_iff.mp H
 obtain ⟨t105, A50, H⟩ := H
 replace H : (some (Go.bits .or .i64 (Go.bits .or .i64 (Go.bits .or .i64 (wrap64 (1 * t102)) (wrap64 (2 * t103))) (wrap64 (4 * t104))) (wrap64 (128 * t105)))) = some r := H
 have A5 := Aside0.mk A50
 clear A50
 obtain rfl := Option.some.inj H
 go_enter Try.func21, Try.ntmps21
 go_wp2_with (first | ((with_reducible refine gate_dst (N := 1) rfl ?_); refine bx (N := 1) (cs := #[.int .i64 a0_0, .int .i64 a0_1, .int .i64 a0_2, .int .i64 a0_3, .bool a0_4, .bool a0_5, .bool a0_6, .bool a0_7]) (t := 29) ?_; intro gb101 hg w6 hbox hb; have n0_ := Aside0.mk (below_step (bw HB.out) hb); have n1_ := Aside0.mk (hbox); have n2_ := Aside0.mk ((gs hg (bw HB.out))); have n3_ := Aside0.mk ((gs hg (bw HB.out))); clear HB; have HB := n0_; have BK101 := n1_; have GW101 := n2_; have GE101 := n3_; clear n0_ n1_ n2_ n3_; clear hb hbox hg; have hcz7_0 : w6.cell? ⟨gb101, 0, none⟩ = some (.int .i64 a0_0) := (blk_cell BK101.out 0).trans rfl; have hcz7_1 : w6.cell? ⟨gb101, 1, none⟩ = some (.int .i64 a0_1) := (blk_cell BK101.out 1).trans rfl; have hcz7_2 : w6.cell? ⟨gb101, 2, none⟩ = some (.int .i64 a0_2) := (blk_cell BK101.out 2).trans rfl; have hcz7_3 : w6.cell? ⟨gb101, 3, none⟩ = some (.int .i64 a0_3) := (blk_cell BK101.out 3).trans rfl; have hcz7_4 : w6.cell? ⟨gb101, 4, none⟩ = some (.bool a0_4) := (blk_cell BK101.out 4).trans rfl; have hcz7_5 : w6.cell? ⟨gb101, 5, none⟩ = some (.bool a0_5) := (blk_cell BK101.out 5).trans rfl; have hcz7_6 : w6.cell? ⟨gb101, 6, none⟩ = some (.bool a0_6) := (blk_cell BK101.out 6).trans rfl; have hcz7_7 : w6.cell? ⟨gb101, 7, none⟩ = some (.bool a0_7) := (blk_cell BK101.out 7).trans rfl; have hfz7_0 := blk_frozen BK101.out 0; have hfz7_1 := blk_frozen BK101.out 1; have hfz7_2 := blk_frozen BK101.out 2; have hfz7_3 := blk_frozen BK101.out 3; have hfz7_4 := blk_frozen BK101.out 4; have hfz7_5 := blk_frozen BK101.out 5; have hfz7_6 := blk_frozen BK101.out 6; have hfz7_7 := blk_frozen BK101.out 7) | (go_at_call 73; (with_reducible refine (impl_flag.calls a0_6 t102 _ A2.out).mono ?_); rintro e w' ⟨rfl, ⟨nd, rfl⟩⟩; (try first | exact ⟨rfl, _, World.drewN_drewN _ _ _⟩ | exact ⟨rfl, _, Eq.trans (World.drewN_drewN _ _ _) (congrArg (World.drewN _) (Nat.add_assoc _ _ _))⟩)) | (go_at_call 73; (with_reducible refine (impl_flag.calls a0_4 t103 _ A3.out).mono ?_); rintro e w' ⟨rfl, ⟨nd, rfl⟩⟩; (try first | exact ⟨rfl, _, World.drewN_drewN _ _ _⟩ | exact ⟨rfl, _, Eq.trans (World.drewN_drewN _ _ _) (congrArg (World.drewN _) (Nat.add_assoc _ _ _))⟩)) | (go_at_call 73; (with_reducible refine (impl_flag.calls a0_7 t104 _ A4.out).mono ?_); rintro e w' ⟨rfl, ⟨nd, rfl⟩⟩; (try first | exact ⟨rfl, _, World.drewN_drewN _ _ _⟩ | exact ⟨rfl, _, Eq.trans (World.drewN_drewN _ _ _) (congrArg (World.drewN _) (Nat.add_assoc _ _ _))⟩)) | (go_at_call 73; (with_reducible refine (impl_flag.calls a0_5 t105 _ A5.out).mono ?_); rintro e w' ⟨rfl, ⟨nd, rfl⟩⟩; (try first | exact ⟨rfl, _, World.drewN_drewN _ _ _⟩ | exact ⟨rfl, _, Eq.trans (World.drewN_drewN _ _ _) (congrArg (World.drewN _) (Nat.add_assoc _ _ _))⟩)))
 repeat (go_quiet (first | ((with_reducible refine gate_dst (N := 1) rfl ?_); refine bx (N := 1) (cs := #[.int .i64 a0_0, .int .i64 a0_1, .int .i64 a0_2, .int .i64 a0_3, .bool a0_4, .bool a0_5, .bool a0_6, .bool a0_7]) (t := 29) ?_; intro gb101 hg w6 hbox hb; have n0_ := Aside0.mk (below_step (bw HB.out) hb); have n1_ := Aside0.mk (hbox); have n2_ := Aside0.mk ((gs hg (bw HB.out))); have n3_ := Aside0.mk ((gs hg (bw HB.out))); clear HB; have HB := n0_; have BK101 := n1_; have GW101 := n2_; have GE101 := n3_; clear n0_ n1_ n2_ n3_; clear hb hbox hg; have hcz7_0 : w6.cell? ⟨gb101, 0, none⟩ = some (.int .i64 a0_0) := (blk_cell BK101.out 0).trans rfl; have hcz7_1 : w6.cell? ⟨gb101, 1, none⟩ = some (.int .i64 a0_1) := (blk_cell BK101.out 1).trans rfl; have hcz7_2 : w6.cell? ⟨gb101, 2, none⟩ = some (.int .i64 a0_2) := (blk_cell BK101.out 2).trans rfl; have hcz7_3 : w6.cell? ⟨gb101, 3, none⟩ = some (.int .i64 a0_3) := (blk_cell BK101.out 3).trans rfl; have hcz7_4 : w6.cell? ⟨gb101, 4, none⟩ = some (.bool a0_4) := (blk_cell BK101.out 4).trans rfl; have hcz7_5 : w6.cell? ⟨gb101, 5, none⟩ = some (.bool a0_5) := (blk_cell BK101.out 5).trans rfl; have hcz7_6 : w6.cell? ⟨gb101, 6, none⟩ = some (.bool a0_6) := (blk_cell BK101.out 6).trans rfl; have hcz7_7 : w6.cell? ⟨gb101, 7, none⟩ = some (.bool a0_7) := (blk_cell BK101.out 7).trans rfl; have hfz7_0 := blk_frozen BK101.out 0; have hfz7_1 := blk_frozen BK101.out 1; have hfz7_2 := blk_frozen BK101.out 2; have hfz7_3 := blk_frozen BK101.out 3; have hfz7_4 := blk_frozen BK101.out 4; have hfz7_5 := blk_frozen BK101.out 5; have hfz7_6 := blk_frozen BK101.out 6; have hfz7_7 := blk_frozen BK101.out 7) | (go_at_call 73; (with_reducible refine (impl_flag.calls a0_6 t102 _ A2.out).mono ?_); rintro e w' ⟨rfl, ⟨nd, rfl⟩⟩; (try first | exact ⟨rfl, _, World.drewN_drewN _ _ _⟩ | exact ⟨rfl, _, Eq.trans (World.drewN_drewN _ _ _) (congrArg (World.drewN _) (Nat.add_assoc _ _ _))⟩)) | (go_at_call 73; (with_reducible refine (impl_flag.calls a0_4 t103 _ A3.out).mono ?_); rintro e w' ⟨rfl, ⟨nd, rfl⟩⟩; (try first | exact ⟨rfl, _, World.drewN_drewN _ _ _⟩ | exact ⟨rfl, _, Eq.trans (World.drewN_drewN _ _ _) (congrArg (World.drewN _) (Nat.add_assoc _ _ _))⟩)) | (go_at_call 73; (with_reducible refine (impl_flag.calls a0_7 t104 _ A4.out).mono ?_); rintro e w' ⟨rfl, ⟨nd, rfl⟩⟩; (try first | exact ⟨rfl, _, World.drewN_drewN _ _ _⟩ | exact ⟨rfl, _, Eq.trans (World.drewN_drewN _ _ _) (congrArg (World.drewN _) (Nat.add_assoc _ _ _))⟩)) | (go_at_call 73; (with_reducible refine (impl_flag.calls a0_5 t105 _ A5.out).mono ?_); rintro e w' ⟨rfl, ⟨nd, rfl⟩⟩; (try first | exact ⟨rfl, _, World.drewN_drewN _ _ _⟩ | exact ⟨rfl, _, Eq.trans (World.drewN_drewN _ _ _) (congrArg (World.drewN _) (Nat.add_assoc _ _ _))⟩))); try go_wp2_with (first | ((with_reducible refine gate_dst (N := 1) rfl ?_); refine bx (N := 1) (cs := #[.int .i64 a0_0, .int .i64 a0_1, .int .i64 a0_2, .int .i64 a0_3, .bool a0_4, .bool a0_5, .bool a0_6, .bool a0_7]) (t := 29) ?_; intro gb101 hg w6 hbox hb; have n0_ := Aside0.mk (below_step (bw HB.out) hb); have n1_ := Aside0.mk (hbox); have n2_ := Aside0.mk ((gs hg (bw HB.out))); have n3_ := Aside0.mk ((gs hg (bw HB.out))); clear HB; have HB := n0_; have BK101 := n1_; have GW101 := n2_; have GE101 := n3_; clear n0_ n1_ n2_ n3_; clear hb hbox hg; have hcz7_0 : w6.cell? ⟨gb101, 0, none⟩ = some (.int .i64 a0_0) := (blk_cell BK101.out 0).trans rfl; have hcz7_1 : w6.cell? ⟨gb101, 1, none⟩ = some (.int .i64 a0_1) := (blk_cell BK101.out 1).trans rfl; have hcz7_2 : w6.cell? ⟨gb101, 2, none⟩ = some (.int .i64 a0_2) := (blk_cell BK101.out 2).trans rfl; have hcz7_3 : w6.cell? ⟨gb101, 3, none⟩ = some (.int .i64 a0_3) := (blk_cell BK101.out 3).trans rfl; have hcz7_4 : w6.cell? ⟨gb101, 4, none⟩ = some (.bool a0_4) := (blk_cell BK101.out 4).trans rfl; have hcz7_5 : w6.cell? ⟨gb101, 5, none⟩ = some (.bool a0_5) := (blk_cell BK101.out 5).trans rfl; have hcz7_6 : w6.cell? ⟨gb101, 6, none⟩ = some (.bool a0_6) := (blk_cell BK101.out 6).trans rfl; have hcz7_7 : w6.cell? ⟨gb101, 7, none⟩ = some (.bool a0_7) := (blk_cell BK101.out 7).trans rfl; have hfz7_0 := blk_frozen BK101.out 0; have hfz7_1 := blk_frozen BK101.out 1; have hfz7_2 := blk_frozen BK101.out 2; have hfz7_3 := blk_frozen BK101.out 3; have hfz7_4 := blk_frozen BK101.out 4; have hfz7_5 := blk_frozen BK101.out 5; have hfz7_6 := blk_frozen BK101.out 6; have hfz7_7 := blk_frozen BK101.out 7) | (go_at_call 73; (with_reducible refine (impl_flag.calls a0_6 t102 _ A2.out).mono ?_); rintro e w' ⟨rfl, ⟨nd, rfl⟩⟩; (try first | exact ⟨rfl, _, World.drewN_drewN _ _ _⟩ | exact ⟨rfl, _, Eq.trans (World.drewN_drewN _ _ _) (congrArg (World.drewN _) (Nat.add_assoc _ _ _))⟩)) | (go_at_call 73; (with_reducible refine (impl_flag.calls a0_4 t103 _ A3.out).mono ?_); rintro e w' ⟨rfl, ⟨nd, rfl⟩⟩; (try first | exact ⟨rfl, _, World.drewN_drewN _ _ _⟩ | exact ⟨rfl, _, Eq.trans (World.drewN_drewN _ _ _) (congrArg (World.drewN _) (Nat.add_assoc _ _ _))⟩)) | (go_at_call 73; (with_reducible refine (impl_flag.calls a0_7 t104 _ A4.out).mono ?_); rintro e w' ⟨rfl, ⟨nd, rfl⟩⟩; (try first | exact ⟨rfl, _, World.drewN_drewN _ _ _⟩ | exact ⟨rfl, _, Eq.trans (World.drewN_drewN _ _ _) (congrArg (World.drewN _) (Nat.add_assoc _ _ _))⟩)) | (go_at_call 73; (with_reducible refine (impl_flag.calls a0_5 t105 _ A5.out).mono ?_); rintro e w' ⟨rfl, ⟨nd, rfl⟩⟩; (try first | exact ⟨rfl, _, World.drewN_drewN _ _ _⟩ | exact ⟨rfl, _, Eq.trans (World.drewN_drewN _ _ _) (congrArg (World.drewN _) (Nat.add_assoc _ _ _))⟩))))
 go_ret
 exact ⟨rt, bw HB.out⟩

/-! ### spec_WithFlags: function 27 -/
def spec_WithFlags.f (a0_0 : Int) (a0_1 : Int) (a0_2 : Int) (a0_3 : Int) (a0_4 : Bool) (a0_5 : Bool) (a0_6 : Bool) (a0_7 : Bool) (a1 : Int) : Option (Int × Int × Int × Int × Bool × Bool × Bool × Bool) := some (a0_0, a0_1, a0_2, a0_3, ((Go.bits .and .i64 a1 2) != 0), ((Go.bits .and .i64 a1 128) != 0), ((Go.bits .and .i64 a1 1) != 0), ((Go.bits .and .i64 a1 4) != 0))
set_option maxHeartbeats 8000000 in
set_option maxRecDepth 100000 in
theorem spec_WithFlags.calls (a0_0 : Int) (a0_1 : Int) (a0_2 : Int) (a0_3 : Int) (a0_4 : Bool) (a0_5 : Bool) (a0_6 : Bool) (a0_7 : Bool) (a1 : Int) (r1 : Int) (r2 : Int) (r3 : Int) (r4 : Int) (r5 : Bool) (r6 : Bool) (r7 : Bool) (r8 : Bool) (w : World) (h : spec_WithFlags.f a0_0 a0_1 a0_2 a0_3 a0_4 a0_5 a0_6 a0_7 a1 = some (r1, r2, r3, r4, r5, r6, r7, r8)) :
  Calls Try.prog 27 #[.agg #[.int .i64 a0_0, .int .i64 a0_1, .int .i64 a0_2, .int .i64 a0_3, .bool a0_4, .bool a0_5, .bool a0_6, .bool a0_7], .int .i64 a1] w fun e w' => e = .returned (.agg #[.int .i64 r1, .int .i64 r2, .int .i64 r3, .int .i64 r4, .bool r5, .bool r6, .bool r7, .bool r8]) ∧ Below w.heap.size w w' := by
 have hu29 := Try.underlying29
 have HB := Aside0.mk (Below.refl w.heap.size w)
 have H : (some (a0_0, a0_1, a0_2, a0_3, ((Go.bits .and .i64 a1 2) != 0), ((Go.bits .and .i64 a1 128) != 0), ((Go.bits .and .i64 a1 1) != 0), ((Go.bits .and .i64 a1 4) != 0))) = some (r1, r2, r3, r4, r5, r6, r7, r8) := h
 clear h
 simp only [Option.some.injEq, Prod.mk.injEq] at H
 obtain ⟨rfl, rfl, rfl, rfl, rfl, rfl, rfl, rfl⟩ := H
 go_enter Try.func27, Try.ntmps27
 go_wp2_with (first | ((with_reducible refine gate_dst (N := 2) rfl ?_); refine bx (N := 2) (cs := #[.int .i64 a0_0, .int .i64 a0_1, .int .i64 a0_2, .int .i64 a0_3, .bool a0_4, .bool a0_5, .bool a0_6, .bool a0_7]) (t := 29) ?_; intro gb106 hg w3 hbox hb; have n0_ := Aside0.mk (below_step (bw HB.out) hb); have n1_ := Aside0.mk (hbox); have n2_ := Aside0.mk ((gs hg (bw HB.out))); have n3_ := Aside0.mk ((gs hg (bw HB.out))); clear HB; have HB := n0_; have BK106 := n1_; have GW106 := n2_; have GE106 := n3_; clear n0_ n1_ n2_ n3_; clear hb hbox hg) | ((with_reducible refine gate_dst (N := 4) rfl ?_); refine bx (N := 4) (cs := #[.int .i64 0, .int .i64 0, .int .i64 0, .int .i64 0, .bool false, .bool false, .bool false, .bool false]) (t := 29) ?_; intro gb107 hg w4 hbox hb; have n0_ := Aside0.mk (blk_below (g := gb106) (o := .cells #[.int .i64 a0_0, .int .i64 a0_1, .int .i64 a0_2, .int .i64 a0_3, .bool a0_4, .bool a0_5, .bool a0_6, .bool a0_7] 29 (0, 0)) (kb BK106.out) hb); have n1_ := Aside0.mk (below_step (bw HB.out) hb); have n2_ := Aside0.mk (hbox); have n3_ := Aside0.mk ((gs hg (bw HB.out))); have n4_ := Aside0.mk ((gs hg (bw HB.out))); have n5_ := Aside0.mk ((ga hg BK106.out)); have n6_ := Aside0.mk ((gc hg BK106.out)); clear BK106; clear HB; have BK106 := n0_; have HB := n1_; have BK107 := n2_; have GW107 := n3_; have GE107 := n4_; have NB106_107 := n5_; have NB107_106 := n6_; clear n0_ n1_ n2_ n3_ n4_ n5_ n6_; clear hb hbox hg; have hnb5 := NB106_107.out; have hnc5 := NB107_106.out; have hcz6_0 : w4.cell? ⟨gb106, 0, none⟩ = some (.int .i64 a0_0) := (blk_cell BK106.out 0).trans rfl; have hcz6_1 : w4.cell? ⟨gb106, 1, none⟩ = some (.int .i64 a0_1) := (blk_cell BK106.out 1).trans rfl; have hcz6_2 : w4.cell? ⟨gb106, 2, none⟩ = some (.int .i64 a0_2) := (blk_cell BK106.out 2).trans rfl; have hcz6_3 : w4.cell? ⟨gb106, 3, none⟩ = some (.int .i64 a0_3) := (blk_cell BK106.out 3).trans rfl; have hcz6_4 : w4.cell? ⟨gb106, 4, none⟩ = some (.bool a0_4) := (blk_cell BK106.out 4).trans rfl; have hcz6_5 : w4.cell? ⟨gb106, 5, none⟩ = some (.bool a0_5) := (blk_cell BK106.out 5).trans rfl; have hcz6_6 : w4.cell? ⟨gb106, 6, none⟩ = some (.bool a0_6) := (blk_cell BK106.out 6).trans rfl; have hcz6_7 : w4.cell? ⟨gb106, 7, none⟩ = some (.bool a0_7) := (blk_cell BK106.out 7).trans rfl; have hfz6_0 := blk_frozen BK106.out 0; have hfz6_1 := blk_frozen BK106.out 1; have hfz6_2 := blk_frozen BK106.out 2; have hfz6_3 := blk_frozen BK106.out 3; have hfz6_4 := blk_frozen BK106.out 4; have hfz6_5 := blk_frozen BK106.out 5; have hfz6_6 := blk_frozen BK106.out 6; have hfz6_7 := blk_frozen BK106.out 7; have hcz7_0 : w4.cell? ⟨gb107, 0, none⟩ = some (.int .i64 0) := (blk_cell BK107.out 0).trans rfl; have hcz7_1 : w4.cell? ⟨gb107, 1, none⟩ = some (.int .i64 0) := (blk_cell BK107.out 1).trans rfl; have hcz7_2 : w4.cell? ⟨gb107, 2, none⟩ = some (.int .i64 0) := (blk_cell BK107.out 2).trans rfl; have hcz7_3 : w4.cell? ⟨gb107, 3, none⟩ = some (.int .i64 0) := (blk_cell BK107.out 3).trans rfl; have hcz7_4 : w4.cell? ⟨gb107, 4, none⟩ = some (.bool false) := (blk_cell BK107.out 4).trans rfl; have hcz7_5 : w4.cell? ⟨gb107, 5, none⟩ = some (.bool false) := (blk_cell BK107.out 5).trans rfl; have hcz7_6 : w4.cell? ⟨gb107, 6, none⟩ = some (.bool false) := (blk_cell BK107.out 6).trans rfl; have hcz7_7 : w4.cell? ⟨gb107, 7, none⟩ = some (.bool false) := (blk_cell BK107.out 7).trans rfl; have hfz7_0 := blk_frozen BK107.out 0; have hfz7_1 := blk_frozen BK107.out 1; have hfz7_2 := blk_frozen BK107.out 2; have hfz7_3 := blk_frozen BK107.out 3; have hfz7_4 := blk_frozen BK107.out 4; have hfz7_5 := blk_frozen BK107.out 5; have hfz7_6 := blk_frozen BK107.out 6; have hfz7_7 := blk_frozen BK107.out 7))
 refine bodyPost_ret (results_cell_row rfl _ _ gb107 29 #[.int .i64 a0_0, .int .i64 a0_1, .int .i64 a0_2, .int .i64 a0_3, .bool ((Go.bits .and .i64 a1 2) != 0), .bool ((Go.bits .and .i64 a1 128) != 0), .bool ((Go.bits .and .i64 a1 1) != 0), .bool ((Go.bits .and .i64 a1 4) != 0)] (0, 0) _ rfl (by (with_reducible repeat (first | refine blk_drewN ?_ _ | refine blk_drew ?_ | refine blk_alloc ?_ _)); refine blk_put (cs := #[.int .i64 a0_0, .int .i64 a0_1, .int .i64 a0_2, .int .i64 a0_3, .bool ((Go.bits .and .i64 a1 2) != 0), .bool ((Go.bits .and .i64 a1 128) != 0), .bool ((Go.bits .and .i64 a1 1) != 0), .bool false]) ?_ 7 _ rfl; (with_reducible repeat (first | refine blk_drewN ?_ _ | refine blk_drew ?_ | refine blk_alloc ?_ _)); refine blk_put (cs := #[.int .i64 a0_0, .int .i64 a0_1, .int .i64 a0_2, .int .i64 a0_3, .bool ((Go.bits .and .i64 a1 2) != 0), .bool ((Go.bits .and .i64 a1 128) != 0), .bool false, .bool false]) ?_ 6 _ rfl; (with_reducible repeat (first | refine blk_drewN ?_ _ | refine blk_drew ?_ | refine blk_alloc ?_ _)); refine blk_put (cs := #[.int .i64 a0_0, .int .i64 a0_1, .int .i64 a0_2, .int .i64 a0_3, .bool ((Go.bits .and .i64 a1 2) != 0), .bool false, .bool false, .bool false]) ?_ 5 _ rfl; (with_reducible repeat (first | refine blk_drewN ?_ _ | refine blk_drew ?_ | refine blk_alloc ?_ _)); refine blk_put (cs := #[.int .i64 a0_0, .int .i64 a0_1, .int .i64 a0_2, .int .i64 a0_3, .bool false, .bool false, .bool false, .bool false]) ?_ 4 _ rfl; (with_reducible repeat (first | refine blk_drewN ?_ _ | refine blk_drew ?_ | refine blk_alloc ?_ _)); refine blk_put (cs := #[.int .i64 a0_0, .int .i64 a0_1, .int .i64 a0_2, .int .i64 0, .bool false, .bool false, .bool false, .bool false]) ?_ 3 _ rfl; (with_reducible repeat (first | refine blk_drewN ?_ _ | refine blk_drew ?_ | refine blk_alloc ?_ _)); refine blk_put (cs := #[.int .i64 a0_0, .int .i64 a0_1, .int .i64 0, .int .i64 0, .bool false, .bool false, .bool false, .bool false]) ?_ 2 _ rfl; (with_reducible repeat (first | refine blk_drewN ?_ _ | refine blk_drew ?_ | refine blk_alloc ?_ _)); refine blk_put (cs := #[.int .i64 a0_0, .int .i64 0, .int .i64 0, .int .i64 0, .bool false, .bool false, .bool false, .bool false]) ?_ 1 _ rfl; (with_reducible repeat (first | refine blk_drewN ?_ _ | refine blk_drew ?_ | refine blk_alloc ?_ _)); refine blk_put (cs := #[.int .i64 0, .int .i64 0, .int .i64 0, .int .i64 0, .bool false, .bool false, .bool false, .bool false]) ?_ 0 _ rfl; (with_reducible repeat (first | refine blk_drewN ?_ _ | refine blk_drew ?_ | refine blk_alloc ?_ _)); refine blk_far ?_ NB107_106.out _; (with_reducible repeat (first | refine blk_drewN ?_ _ | refine blk_drew ?_ | refine blk_alloc ?_ _)); refine blk_far ?_ NB107_106.out _; (with_reducible repeat (first | refine blk_drewN ?_ _ | refine blk_drew ?_ | refine blk_alloc ?_ _)); refine blk_far ?_ NB107_106.out _; (with_reducible repeat (first | refine blk_drewN ?_ _ | refine blk_drew ?_ | refine blk_alloc ?_ _)); refine blk_far ?_ NB107_106.out _; (with_reducible repeat (first | refine blk_drewN ?_ _ | refine blk_drew ?_ | refine blk_alloc ?_ _)); exact BK107.out) Try.underlying29 rfl (by kernel_rfl)) rfl ?_
 exact ⟨rt, bw HB.out⟩

/-! ### impl_WithFlags: function 28 -/
def impl_WithFlags.f (a0_0 : Int) (a0_1 : Int) (a0_2 : Int) (a0_3 : Int) (a0_4 : Bool) (a0_5 : Bool) (a0_6 : Bool) (a0_7 : Bool) (a1 : Int) : Option (Int × Int × Int × Int × Bool × Bool × Bool × Bool) := some (a0_0, a0_1, a0_2, a0_3, ((Go.bits .and .i64 a1 2) != 0), ((Go.bits .and .i64 a1 128) != 0), ((Go.bits .and .i64 a1 1) != 0), ((Go.bits .and .i64 a1 4) != 0))
set_option maxHeartbeats 8000000 in
set_option maxRecDepth 100000 in
theorem impl_WithFlags.calls (a0_0 : Int) (a0_1 : Int) (a0_2 : Int) (a0_3 : Int) (a0_4 : Bool) (a0_5 : Bool) (a0_6 : Bool) (a0_7 : Bool) (a1 : Int) (r1 : Int) (r2 : Int) (r3 : Int) (r4 : Int) (r5 : Bool) (r6 : Bool) (r7 : Bool) (r8 : Bool) (w : World) (h : impl_WithFlags.f a0_0 a0_1 a0_2 a0_3 a0_4 a0_5 a0_6 a0_7 a1 = some (r1, r2, r3, r4, r5, r6, r7, r8)) :
  Calls Try.prog 28 #[.agg #[.int .i64 a0_0, .int .i64 a0_1, .int .i64 a0_2, .int .i64 a0_3, .bool a0_4, .bool a0_5, .bool a0_6, .bool a0_7], .int .i64 a1] w fun e w' => e = .returned (.agg #[.int .i64 r1, .int .i64 r2, .int .i64 r3, .int .i64 r4, .bool r5, .bool r6, .bool r7, .bool r8]) ∧ Below w.heap.size w w' := by
 have hu29 := Try.underlying29
 have HB := Aside0.mk (Below.refl w.heap.size w)
 have H : (some (a0_0, a0_1, a0_2, a0_3, ((Go.bits .and .i64 a1 2) != 0), ((Go.bits .and .i64 a1 128) != 0), ((Go.bits .and .i64 a1 1) != 0), ((Go.bits .and .i64 a1 4) != 0))) = some (r1, r2, r3, r4, r5, r6, r7, r8) := h
 clear h
 simp only [Option.some.injEq, Prod.mk.injEq] at H
 obtain ⟨rfl, rfl, rfl, rfl, rfl, rfl, rfl, rfl⟩ := H
 go_enter Try.func28, Try.ntmps28
 go_wp2_with (first | ((with_reducible refine gate_dst (N := 2) rfl ?_); refine bx (N := 2) (cs := #[.int .i64 a0_0, .int .i64 a0_1, .int .i64 a0_2, .int .i64 a0_3, .bool a0_4, .bool a0_5, .bool a0_6, .bool a0_7]) (t := 29) ?_; intro gb108 hg w3 hbox hb; have n0_ := Aside0.mk (below_step (bw HB.out) hb); have n1_ := Aside0.mk (hbox); have n2_ := Aside0.mk ((gs hg (bw HB.out))); have n3_ := Aside0.mk ((gs hg (bw HB.out))); clear HB; have HB := n0_; have BK108 := n1_; have GW108 := n2_; have GE108 := n3_; clear n0_ n1_ n2_ n3_; clear hb hbox hg) | ((with_reducible refine gate_dst (N := 4) rfl ?_); refine bx (N := 4) (cs := #[.int .i64 0, .int .i64 0, .int .i64 0, .int .i64 0, .bool false, .bool false, .bool false, .bool false]) (t := 29) ?_; intro gb109 hg w4 hbox hb; have n0_ := Aside0.mk (blk_below (g := gb108) (o := .cells #[.int .i64 a0_0, .int .i64 a0_1, .int .i64 a0_2, .int .i64 a0_3, .bool a0_4, .bool a0_5, .bool a0_6, .bool a0_7] 29 (0, 0)) (kb BK108.out) hb); have n1_ := Aside0.mk (below_step (bw HB.out) hb); have n2_ := Aside0.mk (hbox); have n3_ := Aside0.mk ((gs hg (bw HB.out))); have n4_ := Aside0.mk ((gs hg (bw HB.out))); have n5_ := Aside0.mk ((ga hg BK108.out)); have n6_ := Aside0.mk ((gc hg BK108.out)); clear BK108; clear HB; have BK108 := n0_; have HB := n1_; have BK109 := n2_; have GW109 := n3_; have GE109 := n4_; have NB108_109 := n5_; have NB109_108 := n6_; clear n0_ n1_ n2_ n3_ n4_ n5_ n6_; clear hb hbox hg; have hnb5 := NB108_109.out; have hnc5 := NB109_108.out; have hcz6_0 : w4.cell? ⟨gb108, 0, none⟩ = some (.int .i64 a0_0) := (blk_cell BK108.out 0).trans rfl; have hcz6_1 : w4.cell? ⟨gb108, 1, none⟩ = some (.int .i64 a0_1) := (blk_cell BK108.out 1).trans rfl; have hcz6_2 : w4.cell? ⟨gb108, 2, none⟩ = some (.int .i64 a0_2) := (blk_cell BK108.out 2).trans rfl; have hcz6_3 : w4.cell? ⟨gb108, 3, none⟩ = some (.int .i64 a0_3) := (blk_cell BK108.out 3).trans rfl; have hcz6_4 : w4.cell? ⟨gb108, 4, none⟩ = some (.bool a0_4) := (blk_cell BK108.out 4).trans rfl; have hcz6_5 : w4.cell? ⟨gb108, 5, none⟩ = some (.bool a0_5) := (blk_cell BK108.out 5).trans rfl; have hcz6_6 : w4.cell? ⟨gb108, 6, none⟩ = some (.bool a0_6) := (blk_cell BK108.out 6).trans rfl; have hcz6_7 : w4.cell? ⟨gb108, 7, none⟩ = some (.bool a0_7) := (blk_cell BK108.out 7).trans rfl; have hfz6_0 := blk_frozen BK108.out 0; have hfz6_1 := blk_frozen BK108.out 1; have hfz6_2 := blk_frozen BK108.out 2; have hfz6_3 := blk_frozen BK108.out 3; have hfz6_4 := blk_frozen BK108.out 4; have hfz6_5 := blk_frozen BK108.out 5; have hfz6_6 := blk_frozen BK108.out 6; have hfz6_7 := blk_frozen BK108.out 7; have hcz7_0 : w4.cell? ⟨gb109, 0, none⟩ = some (.int .i64 0) := (blk_cell BK109.out 0).trans rfl; have hcz7_1 : w4.cell? ⟨gb109, 1, none⟩ = some (.int .i64 0) := (blk_cell BK109.out 1).trans rfl; have hcz7_2 : w4.cell? ⟨gb109, 2, none⟩ = some (.int .i64 0) := (blk_cell BK109.out 2).trans rfl; have hcz7_3 : w4.cell? ⟨gb109, 3, none⟩ = some (.int .i64 0) := (blk_cell BK109.out 3).trans rfl; have hcz7_4 : w4.cell? ⟨gb109, 4, none⟩ = some (.bool false) := (blk_cell BK109.out 4).trans rfl; have hcz7_5 : w4.cell? ⟨gb109, 5, none⟩ = some (.bool false) := (blk_cell BK109.out 5).trans rfl; have hcz7_6 : w4.cell? ⟨gb109, 6, none⟩ = some (.bool false) := (blk_cell BK109.out 6).trans rfl; have hcz7_7 : w4.cell? ⟨gb109, 7, none⟩ = some (.bool false) := (blk_cell BK109.out 7).trans rfl; have hfz7_0 := blk_frozen BK109.out 0; have hfz7_1 := blk_frozen BK109.out 1; have hfz7_2 := blk_frozen BK109.out 2; have hfz7_3 := blk_frozen BK109.out 3; have hfz7_4 := blk_frozen BK109.out 4; have hfz7_5 := blk_frozen BK109.out 5; have hfz7_6 := blk_frozen BK109.out 6; have hfz7_7 := blk_frozen BK109.out 7))
 refine bodyPost_ret (results_cell_row rfl _ _ gb109 29 #[.int .i64 a0_0, .int .i64 a0_1, .int .i64 a0_2, .int .i64 a0_3, .bool ((Go.bits .and .i64 a1 2) != 0), .bool ((Go.bits .and .i64 a1 128) != 0), .bool ((Go.bits .and .i64 a1 1) != 0), .bool ((Go.bits .and .i64 a1 4) != 0)] (0, 0) _ rfl (by (with_reducible repeat (first | refine blk_drewN ?_ _ | refine blk_drew ?_ | refine blk_alloc ?_ _)); refine blk_put (cs := #[.int .i64 a0_0, .int .i64 a0_1, .int .i64 a0_2, .int .i64 a0_3, .bool ((Go.bits .and .i64 a1 2) != 0), .bool ((Go.bits .and .i64 a1 128) != 0), .bool ((Go.bits .and .i64 a1 1) != 0), .bool false]) ?_ 7 _ rfl; (with_reducible repeat (first | refine blk_drewN ?_ _ | refine blk_drew ?_ | refine blk_alloc ?_ _)); refine blk_put (cs := #[.int .i64 a0_0, .int .i64 a0_1, .int .i64 a0_2, .int .i64 a0_3, .bool ((Go.bits .and .i64 a1 2) != 0), .bool ((Go.bits .and .i64 a1 128) != 0), .bool false, .bool false]) ?_ 6 _ rfl; (with_reducible repeat (first | refine blk_drewN ?_ _ | refine blk_drew ?_ | refine blk_alloc ?_ _)); refine blk_put (cs := #[.int .i64 a0_0, .int .i64 a0_1, .int .i64 a0_2, .int .i64 a0_3, .bool ((Go.bits .and .i64 a1 2) != 0), .bool false, .bool false, .bool false]) ?_ 5 _ rfl; (with_reducible repeat (first | refine blk_drewN ?_ _ | refine blk_drew ?_ | refine blk_alloc ?_ _)); refine blk_put (cs := #[.int .i64 a0_0, .int .i64 a0_1, .int .i64 a0_2, .int .i64 a0_3, .bool false, .bool false, .bool false, .bool false]) ?_ 4 _ rfl; (with_reducible repeat (first | refine blk_drewN ?_ _ | refine blk_drew ?_ | refine blk_alloc ?_ _)); refine blk_put (cs := #[.int .i64 a0_0, .int .i64 a0_1, .int .i64 a0_2, .int .i64 0, .bool false, .bool false, .bool false, .bool false]) ?_ 3 _ rfl; (with_reducible repeat (first | refine blk_drewN ?_ _ | refine blk_drew ?_ | refine blk_alloc ?_ _)); refine blk_put (cs := #[.int .i64 a0_0, .int .i64 a0_1, .int .i64 0, .int .i64 0, .bool false, .bool false, .bool false, .bool false]) ?_ 2 _ rfl; (with_reducible repeat (first | refine blk_drewN ?_ _ | refine blk_drew ?_ | refine blk_alloc ?_ _)); refine blk_put (cs := #[.int .i64 a0_0, .int .i64 0, .int .i64 0, .int .i64 0, .bool false, .bool false, .bool false, .bool false]) ?_ 1 _ rfl; (with_reducible repeat (first | refine blk_drewN ?_ _ | refine blk_drew ?_ | refine blk_alloc ?_ _)); refine blk_put (cs := #[.int .i64 0, .int .i64 0, .int .i64 0, .int .i64 0, .bool false, .bool false, .bool false, .bool false]) ?_ 0 _ rfl; (with_reducible repeat (first | refine blk_drewN ?_ _ | refine blk_drew ?_ | refine blk_alloc ?_ _)); refine blk_far ?_ NB109_108.out _; (with_reducible repeat (first | refine blk_drewN ?_ _ | refine blk_drew ?_ | refine blk_alloc ?_ _)); refine blk_far ?_ NB109_108.out _; (with_reducible repeat (first | refine blk_drewN ?_ _ | refine blk_drew ?_ | refine blk_alloc ?_ _)); refine blk_far ?_ NB109_108.out _; (with_reducible repeat (first | refine blk_drewN ?_ _ | refine blk_drew ?_ | refine blk_alloc ?_ _)); refine blk_far ?_ NB109_108.out _; (with_reducible repeat (first | refine blk_drewN ?_ _ | refine blk_drew ?_ | refine blk_alloc ?_ _)); exact BK109.out) Try.underlying29 rfl (by kernel_rfl)) rfl ?_
 exact ⟨rt, bw HB.out⟩

/-! ### impl_Byte: function 47 -/
def impl_Byte.f (a0 : Int) : Option (Int) := some (Go.bits .and .i64 a0 255)
set_option maxHeartbeats 8000000 in
set_option maxRecDepth 100000 in
theorem impl_Byte.calls (a0 : Int) (r : Int) (w : World) (h : impl_Byte.f a0 = some r) :
  Calls Try.prog 47 #[.int .i64 a0] w fun e w' => e = .returned (.int .i64 r) ∧ Drawn0 w w' := by
 have H : (some (Go.bits .and .i64 a0 255)) = some r := h
 clear h
 obtain rfl := Option.some.inj H
 go_enter Try.func47, Try.ntmps47
 go_wp2
 go_ret
 exact ⟨by first | rfl | (simp; done) | (simp [*]; done), by repeat (first | exact Drawn0.refl _ | apply Drawn0.step)⟩

/-! ### impl_Signs: function 53 -/
def impl_Signs.f (a0 : Int) : Option (Bool × Bool) := (impl_Byte.f a0).bind fun t110 => ((impl_Byte.f a0).bind fun t111 => (some ((t110 == 0), decide (t111 > 127))))
set_option maxHeartbeats 8000000 in
set_option maxRecDepth 100000 in
theorem impl_Signs.calls (a0 : Int) (r1 : Bool) (r2 : Bool) (w : World) (h : impl_Signs.f a0 = some (r1, r2)) :
  Calls Try.prog 53 #[.int .i64 a0] w fun e w' => e = .returned (.tuple #[.bool r1, .bool r2]) ∧ Drawn0 w w' := by
 have H : ((impl_Byte.f a0).bind fun t110 => ((impl_Byte.f a0).bind fun t111 => (some ((t110 == 0), decide (t111 > 127))))) = some (r1, r2) := h
 clear h
 replace H := Option.bind_eq_some_iff.mp H
 obtain ⟨t110, A20, H⟩ := H
 replace H : ((impl_Byte.f a0).bind fun t111 => (some ((t110 == 0), decide (t111 > 127)))) = some (r1, r2) := H
 have A2 := Aside0.mk A20
 clear A20
 replace H := Option.bind_eq_some_iff.mp H
 obtain ⟨t111, A30, H⟩ := H
 replace H : (some ((t110 == 0), decide (t111 > 127))) = some (r1, r2) := H
 have A3 := Aside0.mk A30
 clear A30
 simp only [Option.some.injEq, Prod.mk.injEq] at H
 obtain ⟨rfl, rfl⟩ := H
 go_enter Try.func53, Try.ntmps53
 go_wp2_with (first | ((with_reducible refine gate_callee (f := 47) rfl ?_); refine goesM_ (some 5) rfl rfl Try.func47 #[.int .i64 a0] ?_; (with_reducible refine (impl_Byte.calls a0 t110 _ A2.out).mono ?_); rintro e w' ⟨rfl, ⟨nd, rfl⟩⟩; refine ⟨_, rfl, ?_⟩) | ((with_reducible refine gate_callee (f := 47) rfl ?_); refine goesM_ (some 8) rfl rfl Try.func47 #[.int .i64 a0] ?_; (with_reducible refine (impl_Byte.calls a0 t111 _ A3.out).mono ?_); rintro e w' ⟨rfl, ⟨nd, rfl⟩⟩; refine ⟨_, rfl, ?_⟩))
 go_ret2
 exact ⟨by first | rfl | (simp; done) | (simp [*]; done), by repeat (first | exact Drawn0.refl _ | apply Drawn0.step)⟩

/-! ### impl_SetA: function 31 -/
def impl_SetA.f (a0_0 : Int) (a0_1 : Int) (a0_2 : Int) (a0_3 : Int) (a0_4 : Bool) (a0_5 : Bool) (a0_6 : Bool) (a0_7 : Bool) (a1 : Int) : Option (Int × Int × Int × Int × Bool × Bool × Bool × Bool) := (impl_Byte.f a1).bind fun t114 => ((impl_Signs.f a1).bind fun bt115 => (some (t114, a0_1, a0_2, a0_3, bt115.1, bt115.2, a0_6, a0_7)))
set_option maxHeartbeats 8000000 in
set_option maxRecDepth 100000 in
theorem impl_SetA.calls (a0_0 : Int) (a0_1 : Int) (a0_2 : Int) (a0_3 : Int) (a0_4 : Bool) (a0_5 : Bool) (a0_6 : Bool) (a0_7 : Bool) (a1 : Int) (r1 : Int) (r2 : Int) (r3 : Int) (r4 : Int) (r5 : Bool) (r6 : Bool) (r7 : Bool) (r8 : Bool) (w : World) (h : impl_SetA.f a0_0 a0_1 a0_2 a0_3 a0_4 a0_5 a0_6 a0_7 a1 = some (r1, r2, r3, r4, r5, r6, r7, r8)) :
  Calls Try.prog 31 #[.agg #[.int .i64 a0_0, .int .i64 a0_1, .int .i64 a0_2, .int .i64 a0_3, .bool a0_4, .bool a0_5, .bool a0_6, .bool a0_7], .int .i64 a1] w fun e w' => e = .returned (.agg #[.int .i64 r1, .int .i64 r2, .int .i64 r3, .int .i64 r4, .bool r5, .bool r6, .bool r7, .bool r8]) ∧ Below w.heap.size w w' := by
 have hu29 := Try.underlying29
 have HB := Aside0.mk (Below.refl w.heap.size w)
 have H : ((impl_Byte.f a1).bind fun t114 => ((impl_Signs.f a1).bind fun bt115 => (some (t114, a0_1, a0_2, a0_3, bt115.1, bt115.2, a0_6, a0_7)))) = some (r1, r2, r3, r4, r5, r6, r7, r8) := h
 clear h
 replace H := Option.bind_eq_some_iff.mp H
 obtain ⟨t114, A30, H⟩ := H
 replace H : ((impl_Signs.f a1).bind fun bt115 => (some (t114, a0_1, a0_2, a0_3, bt115.1, bt115.2, a0_6, a0_7))) = some (r1, r2, r3, r4, r5, r6, r7, r8) := H
 have A3 := Aside0.mk A30
 clear A30
 replace H := Option.bind_eq_some_iff.mp H
 obtain ⟨⟨t115, t116⟩, A40, H⟩ := H
 replace H : (some (t114, a0_1, a0_2, a0_3, t115, t116, a0_6, a0_7)) = some (r1, r2, r3, r4, r5, r6, r7, r8) := H
 have A4 := Aside0.mk A40
 clear A40
 simp only [Option.some.injEq, Prod.mk.injEq] at H
 obtain ⟨rfl, rfl, rfl, rfl, rfl, rfl, rfl, rfl⟩ := H
 go_enter Try.func31, Try.ntmps31
 go_wp2_with (first | ((with_reducible refine gate_dst (N := 2) rfl ?_); refine bx (N := 2) (cs := #[.int .i64 a0_0, .int .i64 a0_1, .int .i64 a0_2, .int .i64 a0_3, .bool a0_4, .bool a0_5, .bool a0_6, .bool a0_7]) (t := 29) ?_; intro gb112 hg w5 hbox hb; have n0_ := Aside0.mk (below_step (bw HB.out) hb); have n1_ := Aside0.mk (hbox); have n2_ := Aside0.mk ((gs hg (bw HB.out))); have n3_ := Aside0.mk ((gs hg (bw HB.out))); clear HB; have HB := n0_; have BK112 := n1_; have GW112 := n2_; have GE112 := n3_; clear n0_ n1_ n2_ n3_; clear hb hbox hg) | ((with_reducible refine gate_dst (N := 4) rfl ?_); refine bx (N := 4) (cs := #[.int .i64 0, .int .i64 0, .int .i64 0, .int .i64 0, .bool false, .bool false, .bool false, .bool false]) (t := 29) ?_; intro gb113 hg w6 hbox hb; have n0_ := Aside0.mk (blk_below (g := gb112) (o := .cells #[.int .i64 a0_0, .int .i64 a0_1, .int .i64 a0_2, .int .i64 a0_3, .bool a0_4, .bool a0_5, .bool a0_6, .bool a0_7] 29 (0, 0)) (kb BK112.out) hb); have n1_ := Aside0.mk (below_step (bw HB.out) hb); have n2_ := Aside0.mk (hbox); have n3_ := Aside0.mk ((gs hg (bw HB.out))); have n4_ := Aside0.mk ((gs hg (bw HB.out))); have n5_ := Aside0.mk ((ga hg BK112.out)); have n6_ := Aside0.mk ((gc hg BK112.out)); clear BK112; clear HB; have BK112 := n0_; have HB := n1_; have BK113 := n2_; have GW113 := n3_; have GE113 := n4_; have NB112_113 := n5_; have NB113_112 := n6_; clear n0_ n1_ n2_ n3_ n4_ n5_ n6_; clear hb hbox hg) | ((with_reducible refine gate_callee (f := 47) rfl ?_); refine goesM_ (some 6) rfl rfl Try.func47 #[.int .i64 a1] ?_; (with_reducible refine (impl_Byte.calls a1 t114 _ A3.out).mono ?_); rintro e w' ⟨rfl, ⟨nd, rfl⟩⟩; refine ⟨_, rfl, ?_⟩; (try (rw [drewN_self w6]; generalize hq_ : World.drewN w6 _ = w6; have n0_ : Aside0 (w6.heap[gb112]? = some (.cells #[.int .i64 a0_0, .int .i64 a0_1, .int .i64 a0_2, .int .i64 a0_3, .bool a0_4, .bool a0_5, .bool a0_6, .bool a0_7] 29 (0, 0))) := ⟨by rw [← hq_]; exact (kb BK112.out)⟩; have n1_ : Aside0 (w6.heap[gb113]? = some (.cells #[.int .i64 0, .int .i64 0, .int .i64 0, .int .i64 0, .bool false, .bool false, .bool false, .bool false] 29 (0, 0))) := ⟨by rw [← hq_]; exact (kb BK113.out)⟩; have n2_ : Aside0 (Below w.heap.size w w6) := ⟨by rw [← hq_]; exact (bw HB.out)⟩; clear BK112 BK113 HB hq_; have BK112 := n0_; have BK113 := n1_; have HB := n2_; clear n0_ n1_ n2_; (try (have hcz8_0 : w6.cell? ⟨gb112, 0, none⟩ = some (.int .i64 a0_0) := (blk_cell BK112.out 0).trans rfl)); (try (have hcz8_1 : w6.cell? ⟨gb112, 1, none⟩ = some (.int .i64 a0_1) := (blk_cell BK112.out 1).trans rfl)); (try (have hcz8_2 : w6.cell? ⟨gb112, 2, none⟩ = some (.int .i64 a0_2) := (blk_cell BK112.out 2).trans rfl)); (try (have hcz8_3 : w6.cell? ⟨gb112, 3, none⟩ = some (.int .i64 a0_3) := (blk_cell BK112.out 3).trans rfl)); (try (have hcz8_4 : w6.cell? ⟨gb112, 4, none⟩ = some (.bool a0_4) := (blk_cell BK112.out 4).trans rfl)); (try (have hcz8_5 : w6.cell? ⟨gb112, 5, none⟩ = some (.bool a0_5) := (blk_cell BK112.out 5).trans rfl)); (try (have hcz8_6 : w6.cell? ⟨gb112, 6, none⟩ = some (.bool a0_6) := (blk_cell BK112.out 6).trans rfl)); (try (have hcz8_7 : w6.cell? ⟨gb112, 7, none⟩ = some (.bool a0_7) := (blk_cell BK112.out 7).trans rfl)); (try (have hfz8_0 := blk_frozen BK112.out 0)); (try (have hfz8_1 := blk_frozen BK112.out 1)); (try (have hfz8_2 := blk_frozen BK112.out 2)); (try (have hfz8_3 := blk_frozen BK112.out 3)); (try (have hfz8_4 := blk_frozen BK112.out 4)); (try (have hfz8_5 := blk_frozen BK112.out 5)); (try (have hfz8_6 := blk_frozen BK112.out 6)); (try (have hfz8_7 := blk_frozen BK112.out 7)); (try (have hcz9_0 : w6.cell? ⟨gb113, 0, none⟩ = some (.int .i64 0) := (blk_cell BK113.out 0).trans rfl)); (try (have hcz9_1 : w6.cell? ⟨gb113, 1, none⟩ = some (.int .i64 0) := (blk_cell BK113.out 1).trans rfl)); (try (have hcz9_2 : w6.cell? ⟨gb113, 2, none⟩ = some (.int .i64 0) := (blk_cell BK113.out 2).trans rfl)); (try (have hcz9_3 : w6.cell? ⟨gb113, 3, none⟩ = some (.int .i64 0) := (blk_cell BK113.out 3).trans rfl)); (try (have hcz9_4 : w6.cell? ⟨gb113, 4, none⟩ = some (.bool false) := (blk_cell BK113.out 4).trans rfl)); (try (have hcz9_5 : w6.cell? ⟨gb113, 5, none⟩ = some (.bool false) := (blk_cell BK113.out 5).trans rfl)); (try (have hcz9_6 : w6.cell? ⟨gb113, 6, none⟩ = some (.bool false) := (blk_cell BK113.out 6).trans rfl)); (try (have hcz9_7 : w6.cell? ⟨gb113, 7, none⟩ = some (.bool false) := (blk_cell BK113.out 7).trans rfl)); (try (have hfz9_0 := blk_frozen BK113.out 0)); (try (have hfz9_1 := blk_frozen BK113.out 1)); (try (have hfz9_2 := blk_frozen BK113.out 2)); (try (have hfz9_3 := blk_frozen BK113.out 3)); (try (have hfz9_4 := blk_frozen BK113.out 4)); (try (have hfz9_5 := blk_frozen BK113.out 5)); (try (have hfz9_6 := blk_frozen BK113.out 6)); (try (have hfz9_7 := blk_frozen BK113.out 7)))); have hnb7 := NB112_113.out; have hnc7 := NB113_112.out; have hcz8_0 : w6.cell? ⟨gb112, 0, none⟩ = some (.int .i64 a0_0) := (blk_cell BK112.out 0).trans rfl; have hcz8_1 : w6.cell? ⟨gb112, 1, none⟩ = some (.int .i64 a0_1) := (blk_cell BK112.out 1).trans rfl; have hcz8_2 : w6.cell? ⟨gb112, 2, none⟩ = some (.int .i64 a0_2) := (blk_cell BK112.out 2).trans rfl; have hcz8_3 : w6.cell? ⟨gb112, 3, none⟩ = some (.int .i64 a0_3) := (blk_cell BK112.out 3).trans rfl; have hcz8_4 : w6.cell? ⟨gb112, 4, none⟩ = some (.bool a0_4) := (blk_cell BK112.out 4).trans rfl; have hcz8_5 : w6.cell? ⟨gb112, 5, none⟩ = some (.bool a0_5) := (blk_cell BK112.out 5).trans rfl; have hcz8_6 : w6.cell? ⟨gb112, 6, none⟩ = some (.bool a0_6) := (blk_cell BK112.out 6).trans rfl; have hcz8_7 : w6.cell? ⟨gb112, 7, none⟩ = some (.bool a0_7) := (blk_cell BK112.out 7).trans rfl; have hfz8_0 := blk_frozen BK112.out 0; have hfz8_1 := blk_frozen BK112.out 1; have hfz8_2 := blk_frozen BK112.out 2; have hfz8_3 := blk_frozen BK112.out 3; have hfz8_4 := blk_frozen BK112.out 4; have hfz8_5 := blk_frozen BK112.out 5; have hfz8_6 := blk_frozen BK112.out 6; have hfz8_7 := blk_frozen BK112.out 7) | ((with_reducible refine gate_callee (f := 53) rfl ?_); refine goesM_ (some 10) rfl rfl Try.func53 #[.int .i64 a1] ?_; (with_reducible refine (impl_Signs.calls a1 t115 t116 _ A4.out).mono ?_); rintro e w' ⟨rfl, ⟨nd, rfl⟩⟩; refine ⟨_, rfl, ?_⟩; have hcz9_0 : w6.cell? ⟨gb113, 0, none⟩ = some (.int .i64 0) := (blk_cell BK113.out 0).trans rfl; have hcz9_1 : w6.cell? ⟨gb113, 1, none⟩ = some (.int .i64 0) := (blk_cell BK113.out 1).trans rfl; have hcz9_2 : w6.cell? ⟨gb113, 2, none⟩ = some (.int .i64 0) := (blk_cell BK113.out 2).trans rfl; have hcz9_3 : w6.cell? ⟨gb113, 3, none⟩ = some (.int .i64 0) := (blk_cell BK113.out 3).trans rfl; have hcz9_4 : w6.cell? ⟨gb113, 4, none⟩ = some (.bool false) := (blk_cell BK113.out 4).trans rfl; have hcz9_5 : w6.cell? ⟨gb113, 5, none⟩ = some (.bool false) := (blk_cell BK113.out 5).trans rfl; have hcz9_6 : w6.cell? ⟨gb113, 6, none⟩ = some (.bool false) := (blk_cell BK113.out 6).trans rfl; have hcz9_7 : w6.cell? ⟨gb113, 7, none⟩ = some (.bool false) := (blk_cell BK113.out 7).trans rfl; have hfz9_0 := blk_frozen BK113.out 0; have hfz9_1 := blk_frozen BK113.out 1; have hfz9_2 := blk_frozen BK113.out 2; have hfz9_3 := blk_frozen BK113.out 3; have hfz9_4 := blk_frozen BK113.out 4; have hfz9_5 := blk_frozen BK113.out 5; have hfz9_6 := blk_frozen BK113.out 6; have hfz9_7 := blk_frozen BK113.out 7))
 refine bodyPost_ret (results_cell_row rfl _ _ gb113 29 #[.int .i64 t114, .int .i64 a0_1, .int .i64 a0_2, .int .i64 a0_3, .bool t115, .bool t116, .bool a0_6, .bool a0_7] (0, 0) _ rfl (by (with_reducible repeat (first | refine blk_drewN ?_ _ | refine blk_drew ?_ | refine blk_alloc ?_ _)); refine blk_put (cs := #[.int .i64 t114, .int .i64 a0_1, .int .i64 a0_2, .int .i64 a0_3, .bool t115, .bool t116, .bool a0_6, .bool false]) ?_ 7 _ rfl; (with_reducible repeat (first | refine blk_drewN ?_ _ | refine blk_drew ?_ | refine blk_alloc ?_ _)); refine blk_put (cs := #[.int .i64 t114, .int .i64 a0_1, .int .i64 a0_2, .int .i64 a0_3, .bool t115, .bool t116, .bool false, .bool false]) ?_ 6 _ rfl; (with_reducible repeat (first | refine blk_drewN ?_ _ | refine blk_drew ?_ | refine blk_alloc ?_ _)); refine blk_put (cs := #[.int .i64 t114, .int .i64 a0_1, .int .i64 a0_2, .int .i64 a0_3, .bool t115, .bool false, .bool false, .bool false]) ?_ 5 _ rfl; (with_reducible repeat (first | refine blk_drewN ?_ _ | refine blk_drew ?_ | refine blk_alloc ?_ _)); refine blk_put (cs := #[.int .i64 t114, .int .i64 a0_1, .int .i64 a0_2, .int .i64 a0_3, .bool false, .bool false, .bool false, .bool false]) ?_ 4 _ rfl; (with_reducible repeat (first | refine blk_drewN ?_ _ | refine blk_drew ?_ | refine blk_alloc ?_ _)); refine blk_put (cs := #[.int .i64 t114, .int .i64 a0_1, .int .i64 a0_2, .int .i64 0, .bool false, .bool false, .bool false, .bool false]) ?_ 3 _ rfl; (with_reducible repeat (first | refine blk_drewN ?_ _ | refine blk_drew ?_ | refine blk_alloc ?_ _)); refine blk_put (cs := #[.int .i64 t114, .int .i64 a0_1, .int .i64 0, .int .i64 0, .bool false, .bool false, .bool false, .bool false]) ?_ 2 _ rfl; (with_reducible repeat (first | refine blk_drewN ?_ _ | refine blk_drew ?_ | refine blk_alloc ?_ _)); refine blk_put (cs := #[.int .i64 t114, .int .i64 0, .int .i64 0, .int .i64 0, .bool false, .bool false, .bool false, .bool false]) ?_ 1 _ rfl; (with_reducible repeat (first | refine blk_drewN ?_ _ | refine blk_drew ?_ | refine blk_alloc ?_ _)); refine blk_put (cs := #[.int .i64 0, .int .i64 0, .int .i64 0, .int .i64 0, .bool false, .bool false, .bool false, .bool false]) ?_ 0 _ rfl; (with_reducible repeat (first | refine blk_drewN ?_ _ | refine blk_drew ?_ | refine blk_alloc ?_ _)); refine blk_far ?_ NB113_112.out _; (with_reducible repeat (first | refine blk_drewN ?_ _ | refine blk_drew ?_ | refine blk_alloc ?_ _)); refine blk_far ?_ NB113_112.out _; (with_reducible repeat (first | refine blk_drewN ?_ _ | refine blk_drew ?_ | refine blk_alloc ?_ _)); refine blk_far ?_ NB113_112.out _; (with_reducible repeat (first | refine blk_drewN ?_ _ | refine blk_drew ?_ | refine blk_alloc ?_ _)); exact BK113.out) Try.underlying29 rfl (by kernel_rfl)) rfl ?_
 exact ⟨rt, bw HB.out⟩

/-! ### impl_SetX: function 33 -/
def impl_SetX.f (a0_0 : Int) (a0_1 : Int) (a0_2 : Int) (a0_3 : Int) (a0_4 : Bool) (a0_5 : Bool) (a0_6 : Bool) (a0_7 : Bool) (a1 : Int) : Option (Int × Int × Int × Int × Bool × Bool × Bool × Bool) := (impl_Byte.f a1).bind fun t119 => ((impl_Signs.f a1).bind fun bt120 => (some (a0_0, t119, a0_2, a0_3, bt120.1, bt120.2, a0_6, a0_7)))
set_option maxHeartbeats 8000000 in
set_option maxRecDepth 100000 in
theorem impl_SetX.calls (a0_0 : Int) (a0_1 : Int) (a0_2 : Int) (a0_3 : Int) (a0_4 : Bool) (a0_5 : Bool) (a0_6 : Bool) (a0_7 : Bool) (a1 : Int) (r1 : Int) (r2 : Int) (r3 : Int) (r4 : Int) (r5 : Bool) (r6 : Bool) (r7 : Bool) (r8 : Bool) (w : World) (h : impl_SetX.f a0_0 a0_1 a0_2 a0_3 a0_4 a0_5 a0_6 a0_7 a1 = some (r1, r2, r3, r4, r5, r6, r7, r8)) :
  Calls Try.prog 33 #[.agg #[.int .i64 a0_0, .int .i64 a0_1, .int .i64 a0_2, .int .i64 a0_3, .bool a0_4, .bool a0_5, .bool a0_6, .bool a0_7], .int .i64 a1] w fun e w' => e = .returned (.agg #[.int .i64 r1, .int .i64 r2, .int .i64 r3, .int .i64 r4, .bool r5, .bool r6, .bool r7, .bool r8]) ∧ Below w.heap.size w w' := by
 have hu29 := Try.underlying29
 have HB := Aside0.mk (Below.refl w.heap.size w)
 have H : ((impl_Byte.f a1).bind fun t119 => ((impl_Signs.f a1).bind fun bt120 => (some (a0_0, t119, a0_2, a0_3, bt120.1, bt120.2, a0_6, a0_7)))) = some (r1, r2, r3, r4, r5, r6, r7, r8) := h
 clear h
 replace H := Option.bind_eq_some_iff.mp H
 obtain ⟨t119, A30, H⟩ := H
 replace H : ((impl_Signs.f a1).bind fun bt120 => (some (a0_0, t119, a0_2, a0_3, bt120.1, bt120.2, a0_6, a0_7))) = some (r1, r2, r3, r4, r5, r6, r7, r8) := H
 have A3 := Aside0.mk A30
 clear A30
 replace H := Option.bind_eq_some_iff.mp H
 obtain ⟨⟨t120, t121⟩, A40, H⟩ := H
 replace H : (some (a0_0, t119, a0_2, a0_3, t120, t121, a0_6, a0_7)) = some (r1, r2, r3, r4, r5, r6, r7, r8) := H
 have A4 := Aside0.mk A40
 clear A40
 simp only [Option.some.injEq, Prod.mk.injEq] at H
 obtain ⟨rfl, rfl, rfl, rfl, rfl, rfl, rfl, rfl⟩ := H
 go_enter Try.func33, Try.ntmps33
 go_wp2_with (first | ((with_reducible refine gate_dst (N := 2) rfl ?_); refine bx (N := 2) (cs := #[.int .i64 a0_0, .int .i64 a0_1, .int .i64 a0_2, .int .i64 a0_3, .bool a0_4, .bool a0_5, .bool a0_6, .bool a0_7]) (t := 29) ?_; intro gb117 hg w5 hbox hb; have n0_ := Aside0.mk (below_step (bw HB.out) hb); have n1_ := Aside0.mk (hbox); have n2_ := Aside0.mk ((gs hg (bw HB.out))); have n3_ := Aside0.mk ((gs hg (bw HB.out))); clear HB; have HB := n0_; have BK117 := n1_; have GW117 := n2_; have GE117 := n3_; clear n0_ n1_ n2_ n3_; clear hb hbox hg) | ((with_reducible refine gate_dst (N := 4) rfl ?_); refine bx (N := 4) (cs := #[.int .i64 0, .int .i64 0, .int .i64 0, .int .i64 0, .bool false, .bool false, .bool false, .bool false]) (t := 29) ?_; intro gb118 hg w6 hbox hb; have n0_ := Aside0.mk (blk_below (g := gb117) (o := .cells #[.int .i64 a0_0, .int .i64 a0_1, .int .i64 a0_2, .int .i64 a0_3, .bool a0_4, .bool a0_5, .bool a0_6, .bool a0_7] 29 (0, 0)) (kb BK117.out) hb); have n1_ := Aside0.mk (below_step (bw HB.out) hb); have n2_ := Aside0.mk (hbox); have n3_ := Aside0.mk ((gs hg (bw HB.out))); have n4_ := Aside0.mk ((gs hg (bw HB.out))); have n5_ := Aside0.mk ((ga hg BK117.out)); have n6_ := Aside0.mk ((gc hg BK117.out)); clear BK117; clear HB; have BK117 := n0_; have HB := n1_; have BK118 := n2_; have GW118 := n3_; have GE118 := n4_; have NB117_118 := n5_; have NB118_117 := n6_; clear n0_ n1_ n2_ n3_ n4_ n5_ n6_; clear hb hbox hg) | ((with_reducible refine gate_callee (f := 47) rfl ?_); refine goesM_ (some 6) rfl rfl Try.func47 #[.int .i64 a1] ?_; (with_reducible refine (impl_Byte.calls a1 t119 _ A3.out).mono ?_); rintro e w' ⟨rfl, ⟨nd, rfl⟩⟩; refine ⟨_, rfl, ?_⟩; (try (rw [drewN_self w6]; generalize hq_ : World.drewN w6 _ = w6; have n0_ : Aside0 (w6.heap[gb117]? = some (.cells #[.int .i64 a0_0, .int .i64 a0_1, .int .i64 a0_2, .int .i64 a0_3, .bool a0_4, .bool a0_5, .bool a0_6, .bool a0_7] 29 (0, 0))) := ⟨by rw [← hq_]; exact (kb BK117.out)⟩; have n1_ : Aside0 (w6.heap[gb118]? = some (.cells #[.int .i64 0, .int .i64 0, .int .i64 0, .int .i64 0, .bool false, .bool false, .bool false, .bool false] 29 (0, 0))) := ⟨by rw [← hq_]; exact (kb BK118.out)⟩; have n2_ : Aside0 (Below w.heap.size w w6) := ⟨by rw [← hq_]; exact (bw HB.out)⟩; clear BK117 BK118 HB hq_; have BK117 := n0_; have BK118 := n1_; have HB := n2_; clear n0_ n1_ n2_; (try (have hcz8_0 : w6.cell? ⟨gb117, 0, none⟩ = some (.int .i64 a0_0) := (blk_cell BK117.out 0).trans rfl)); (try (have hcz8_1 : w6.cell? ⟨gb117, 1, none⟩ = some (.int .i64 a0_1) := (blk_cell BK117.out 1).trans rfl)); (try (have hcz8_2 : w6.cell? ⟨gb117, 2, none⟩ = some (.int .i64 a0_2) := (blk_cell BK117.out 2).trans rfl)); (try (have hcz8_3 : w6.cell? ⟨gb117, 3, none⟩ = some (.int .i64 a0_3) := (blk_cell BK117.out 3).trans rfl)); (try (have hcz8_4 : w6.cell? ⟨gb117, 4, none⟩ = some (.bool a0_4) := (blk_cell BK117.out 4).trans rfl)); (try (have hcz8_5 : w6.cell? ⟨gb117, 5, none⟩ = some (.bool a0_5) := (blk_cell BK117.out 5).trans rfl)); (try (have hcz8_6 : w6.cell? ⟨gb117, 6, none⟩ = some (.bool a0_6) := (blk_cell BK117.out 6).trans rfl)); (try (have hcz8_7 : w6.cell? ⟨gb117, 7, none⟩ = some (.bool a0_7) := (blk_cell BK117.out 7).trans rfl)); (try (have hfz8_0 := blk_frozen BK117.out 0)); (try (have hfz8_1 := blk_frozen BK117.out 1)); (try (have hfz8_2 := blk_frozen BK117.out 2)); (try (have hfz8_3 := blk_frozen BK117.out 3)); (try (have hfz8_4 := blk_frozen BK117.out 4)); (try (have hfz8_5 := blk_frozen BK117.out 5)); (try (have hfz8_6 := blk_frozen BK117.out 6)); (try (have hfz8_7 := blk_frozen BK117.out 7)); (try (have hcz9_0 : w6.cell? ⟨gb118, 0, none⟩ = some (.int .i64 0) := (blk_cell BK118.out 0).trans rfl)); (try (have hcz9_1 : w6.cell? ⟨gb118, 1, none⟩ = some (.int .i64 0) := (blk_cell BK118.out 1).trans rfl)); (try (have hcz9_2 : w6.cell? ⟨gb118, 2, none⟩ = some (.int .i64 0) := (blk_cell BK118.out 2).trans rfl)); (try (have hcz9_3 : w6.cell? ⟨gb118, 3, none⟩ = some (.int .i64 0) := (blk_cell BK118.out 3).trans rfl)); (try (have hcz9_4 : w6.cell? ⟨gb118, 4, none⟩ = some (.bool false) := (blk_cell BK118.out 4).trans rfl)); (try (have hcz9_5 : w6.cell? ⟨gb118, 5, none⟩ = some (.bool false) := (blk_cell BK118.out 5).trans rfl)); (try (have hcz9_6 : w6.cell? ⟨gb118, 6, none⟩ = some (.bool false) := (blk_cell BK118.out 6).trans rfl)); (try (have hcz9_7 : w6.cell? ⟨gb118, 7, none⟩ = some (.bool false) := (blk_cell BK118.out 7).trans rfl)); (try (have hfz9_0 := blk_frozen BK118.out 0)); (try (have hfz9_1 := blk_frozen BK118.out 1)); (try (have hfz9_2 := blk_frozen BK118.out 2)); (try (have hfz9_3 := blk_frozen BK118.out 3)); (try (have hfz9_4 := blk_frozen BK118.out 4)); (try (have hfz9_5 := blk_frozen BK118.out 5)); (try (have hfz9_6 := blk_frozen BK118.out 6)); (try (have hfz9_7 := blk_frozen BK118.out 7)))); have hnb7 := NB117_118.out; have hnc7 := NB118_117.out; have hcz8_0 : w6.cell? ⟨gb117, 0, none⟩ = some (.int .i64 a0_0) := (blk_cell BK117.out 0).trans rfl; have hcz8_1 : w6.cell? ⟨gb117, 1, none⟩ = some (.int .i64 a0_1) := (blk_cell BK117.out 1).trans rfl; have hcz8_2 : w6.cell? ⟨gb117, 2, none⟩ = some (.int .i64 a0_2) := (blk_cell BK117.out 2).trans rfl; have hcz8_3 : w6.cell? ⟨gb117, 3, none⟩ = some (.int .i64 a0_3) := (blk_cell BK117.out 3).trans rfl; have hcz8_4 : w6.cell? ⟨gb117, 4, none⟩ = some (.bool a0_4) := (blk_cell BK117.out 4).trans rfl; have hcz8_5 : w6.cell? ⟨gb117, 5, none⟩ = some (.bool a0_5) := (blk_cell BK117.out 5).trans rfl; have hcz8_6 : w6.cell? ⟨gb117, 6, none⟩ = some (.bool a0_6) := (blk_cell BK117.out 6).trans rfl; have hcz8_7 : w6.cell? ⟨gb117, 7, none⟩ = some (.bool a0_7) := (blk_cell BK117.out 7).trans rfl; have hfz8_0 := blk_frozen BK117.out 0; have hfz8_1 := blk_frozen BK117.out 1; have hfz8_2 := blk_frozen BK117.out 2; have hfz8_3 := blk_frozen BK117.out 3; have hfz8_4 := blk_frozen BK117.out 4; have hfz8_5 := blk_frozen BK117.out 5; have hfz8_6 := blk_frozen BK117.out 6; have hfz8_7 := blk_frozen BK117.out 7) | ((with_reducible refine gate_callee (f := 53) rfl ?_); refine goesM_ (some 10) rfl rfl Try.func53 #[.int .i64 a1] ?_; (with_reducible refine (impl_Signs.calls a1 t120 t121 _ A4.out).mono ?_); rintro e w' ⟨rfl, ⟨nd, rfl⟩⟩; refine ⟨_, rfl, ?_⟩; have hcz9_0 : w6.cell? ⟨gb118, 0, none⟩ = some (.int .i64 0) := (blk_cell BK118.out 0).trans rfl; have hcz9_1 : w6.cell? ⟨gb118, 1, none⟩ = some (.int .i64 0) := (blk_cell BK118.out 1).trans rfl; have hcz9_2 : w6.cell? ⟨gb118, 2, none⟩ = some (.int .i64 0) := (blk_cell BK118.out 2).trans rfl; have hcz9_3 : w6.cell? ⟨gb118, 3, none⟩ = some (.int .i64 0) := (blk_cell BK118.out 3).trans rfl; have hcz9_4 : w6.cell? ⟨gb118, 4, none⟩ = some (.bool false) := (blk_cell BK118.out 4).trans rfl; have hcz9_5 : w6.cell? ⟨gb118, 5, none⟩ = some (.bool false) := (blk_cell BK118.out 5).trans rfl; have hcz9_6 : w6.cell? ⟨gb118, 6, none⟩ = some (.bool false) := (blk_cell BK118.out 6).trans rfl; have hcz9_7 : w6.cell? ⟨gb118, 7, none⟩ = some (.bool false) := (blk_cell BK118.out 7).trans rfl; have hfz9_0 := blk_frozen BK118.out 0; have hfz9_1 := blk_frozen BK118.out 1; have hfz9_2 := blk_frozen BK118.out 2; have hfz9_3 := blk_frozen BK118.out 3; have hfz9_4 := blk_frozen BK118.out 4; have hfz9_5 := blk_frozen BK118.out 5; have hfz9_6 := blk_frozen BK118.out 6; have hfz9_7 := blk_frozen BK118.out 7))
 refine bodyPost_ret (results_cell_row rfl _ _ gb118 29 #[.int .i64 a0_0, .int .i64 t119, .int .i64 a0_2, .int .i64 a0_3, .bool t120, .bool t121, .bool a0_6, .bool a0_7] (0, 0) _ rfl (by (with_reducible repeat (first | refine blk_drewN ?_ _ | refine blk_drew ?_ | refine blk_alloc ?_ _)); refine blk_put (cs := #[.int .i64 a0_0, .int .i64 t119, .int .i64 a0_2, .int .i64 a0_3, .bool t120, .bool t121, .bool a0_6, .bool false]) ?_ 7 _ rfl; (with_reducible repeat (first | refine blk_drewN ?_ _ | refine blk_drew ?_ | refine blk_alloc ?_ _)); refine blk_put (cs := #[.int .i64 a0_0, .int .i64 t119, .int .i64 a0_2, .int .i64 a0_3, .bool t120, .bool t121, .bool false, .bool false]) ?_ 6 _ rfl; (with_reducible repeat (first | refine blk_drewN ?_ _ | refine blk_drew ?_ | refine blk_alloc ?_ _)); refine blk_put (cs := #[.int .i64 a0_0, .int .i64 t119, .int .i64 a0_2, .int .i64 a0_3, .bool t120, .bool false, .bool false, .bool false]) ?_ 5 _ rfl; (with_reducible repeat (first | refine blk_drewN ?_ _ | refine blk_drew ?_ | refine blk_alloc ?_ _)); refine blk_put (cs := #[.int .i64 a0_0, .int .i64 t119, .int .i64 a0_2, .int .i64 a0_3, .bool false, .bool false, .bool false, .bool false]) ?_ 4 _ rfl; (with_reducible repeat (first | refine blk_drewN ?_ _ | refine blk_drew ?_ | refine blk_alloc ?_ _)); refine blk_put (cs := #[.int .i64 a0_0, .int .i64 t119, .int .i64 a0_2, .int .i64 0, .bool false, .bool false, .bool false, .bool false]) ?_ 3 _ rfl; (with_reducible repeat (first | refine blk_drewN ?_ _ | refine blk_drew ?_ | refine blk_alloc ?_ _)); refine blk_put (cs := #[.int .i64 a0_0, .int .i64 t119, .int .i64 0, .int .i64 0, .bool false, .bool false, .bool false, .bool false]) ?_ 2 _ rfl; (with_reducible repeat (first | refine blk_drewN ?_ _ | refine blk_drew ?_ | refine blk_alloc ?_ _)); refine blk_put (cs := #[.int .i64 a0_0, .int .i64 0, .int .i64 0, .int .i64 0, .bool false, .bool false, .bool false, .bool false]) ?_ 1 _ rfl; (with_reducible repeat (first | refine blk_drewN ?_ _ | refine blk_drew ?_ | refine blk_alloc ?_ _)); refine blk_put (cs := #[.int .i64 0, .int .i64 0, .int .i64 0, .int .i64 0, .bool false, .bool false, .bool false, .bool false]) ?_ 0 _ rfl; (with_reducible repeat (first | refine blk_drewN ?_ _ | refine blk_drew ?_ | refine blk_alloc ?_ _)); refine blk_far ?_ NB118_117.out _; (with_reducible repeat (first | refine blk_drewN ?_ _ | refine blk_drew ?_ | refine blk_alloc ?_ _)); refine blk_far ?_ NB118_117.out _; (with_reducible repeat (first | refine blk_drewN ?_ _ | refine blk_drew ?_ | refine blk_alloc ?_ _)); refine blk_far ?_ NB118_117.out _; (with_reducible repeat (first | refine blk_drewN ?_ _ | refine blk_drew ?_ | refine blk_alloc ?_ _)); exact BK118.out) Try.underlying29 rfl (by kernel_rfl)) rfl ?_
 exact ⟨rt, bw HB.out⟩

/-! ### laws_big: function 42 -/
def laws_big.f (l0 : List Int) : Option (Bool) := some (decide ((l0.length : Int) > 1048576))
set_option maxHeartbeats 8000000 in
set_option maxRecDepth 100000 in
theorem laws_big.calls (A0 : Option Addr) (c0 : Nat) (l0 : List Int) (r : Bool) (w : World) (hr0 : Kd.C (Kd.int .u8) w A0 l0.length l0) (hc0 : l0.length ≤ c0) (h : laws_big.f l0 = some r) :
  Calls Try.prog 42 #[.slice A0 l0.length c0] w fun e w' => e = .returned (.bool r) ∧ Drawn0 w w' := by
 have HR0 := Aside0.mk hr0
 have HC0 := Aside0.mk hc0
 clear hr0 hc0
 have H : (some (decide ((l0.length : Int) > 1048576))) = some r := h
 clear h
 obtain rfl := Option.some.inj H
 go_enter Try.func42, Try.ntmps42
 go_wp2
 go_ret
 exact ⟨by first | rfl | (simp; done) | (simp [*]; done), by repeat (first | exact Drawn0.refl _ | apply Drawn0.step)⟩

/-- A state of type 86 at block g of W; what its slices lead to came in by w0. -/
def IsS86 (w0 W : World) (g : Nat) (f0 : List Int) (f1 : Int) (f2 : Int) : Prop := ∃ A0 c0, W.heap[g]? = some (.cells #[.slice A0 f0.length c0, .int .i64 f1, .int .i64 f2] 86 (0, 0)) ∧ w0.heap.size ≤ g ∧ Kd.C (Kd.int .u8) w0 A0 f0.length f0
theorem IsS86.grown {w0 W : World} {g : Nat} {f0 : List Int} {f1 : Int} {f2 : Int} {W1 : World} {row : Option Nat} (h : IsS86 w0 W g f0 f1 f2) (hw : W.grownBy W1 row) (hne : some g ≠ row) : IsS86 w0 W1 g f0 f1 f2 := by
 obtain ⟨A0, c0, hb, hg, hr0⟩ := h
 exact ⟨A0, c0, blk_grown hb hw hne, hg, hr0⟩
theorem IsS86.own_neN {w0 W : World} {g : Nat} {f0 : List Int} {f1 : Int} {f2 : Int} {α : Type} {d : Kd α} {e : Nat} {base : Nat} {ok : Nat → Prop} {v : Value} {xs : List α} (h : IsS86 w0 W g f0 f1 f2) (ho : Kd.N d e W base ok v xs) (ht : e ≠ 86) : some g ≠ v.ownBlock := by
 obtain ⟨A0, c0, hb, hg, hr0⟩ := h
 exact Kd.N_ne ho hb ht
theorem IsS86.fresh {w0 W : World} {g : Nat} {f0 : List Int} {f1 : Int} {f2 : Int} (h : IsS86 w0 W g f0 f1 f2) : ∀ k, W.heap.size ≤ k → k ≠ g := by
 obtain ⟨A0, c0, hb, hg, hr0⟩ := h
 exact Kd.freshB hb
theorem IsS86.kept {w0 W : World} {g : Nat} {f0 : List Int} {f1 : Int} {f2 : Int} {W1 : World} {S : Nat → Prop} (h : IsS86 w0 W g f0 f1 f2) (hk : Kept W W1 S) (hne : ¬ S g) : IsS86 w0 W1 g f0 f1 f2 := by
 obtain ⟨A0, c0, hb, hg, hr0⟩ := h
 exact ⟨A0, c0, blk_kept hb hk hne, hg, hr0⟩
theorem IsS86.below {w0 W : World} {g : Nat} {f0 : List Int} {f1 : Int} {f2 : Int} {W1 : World} (h : IsS86 w0 W g f0 f1 f2) (hw : Below W.heap.size W W1) : IsS86 w0 W1 g f0 f1 f2 := h.grown (grown_of_below hw none) (by simp)
theorem IsS86.alloc {w0 W : World} {g : Nat} {f0 : List Int} {f1 : Int} {f2 : Int} (h : IsS86 w0 W g f0 f1 f2) (o : Obj) : IsS86 w0 (W.alloc o) g f0 f1 f2 := h.below (below_alloc (Below.refl _ _) o)
theorem IsS86.drewN {w0 W : World} {g : Nat} {f0 : List Int} {f1 : Int} {f2 : Int} (h : IsS86 w0 W g f0 f1 f2) (m : Nat) : IsS86 w0 (W.drewN m) g f0 f1 f2 := h
theorem IsS86.drew {w0 W : World} {g : Nat} {f0 : List Int} {f1 : Int} {f2 : Int} (h : IsS86 w0 W g f0 f1 f2) : IsS86 w0 W.drew g f0 f1 f2 := h
theorem IsS86.at_ {w0 W : World} {g : Nat} {f0 : List Int} {f1 : Int} {f2 : Int} {w' : World} {m : Nat} (hq : W.drewN m = w') (h : IsS86 w0 W g f0 f1 f2) : IsS86 w0 w' g f0 f1 f2 := by subst hq; exact IsS86.drewN h m
theorem IsS86.apart {w0 W : World} {g : Nat} {f0 : List Int} {f1 : Int} {f2 : Int} {α : Type} {d : Kd α} {e : Nat} {base : Nat} {ok : Nat → Prop} {v : Value} {xs : List α} (h : IsS86 w0 W g f0 f1 f2) (ho : d.R e W base ok v xs) (ht : ∀ q, q ∈ e :: d.E → q ≠ 86) : d.R e W base (fun k => ok k ∧ k ≠ g) v xs := by
 obtain ⟨A0, c0, hb, hg, hr0⟩ := h
 exact Kd.R_types ho hb ht
theorem IsS86.own_ne {w0 W : World} {g : Nat} {f0 : List Int} {f1 : Int} {f2 : Int} {α : Type} {d : Kd α} {e : Nat} {base : Nat} {ok : Nat → Prop} {v : Value} {xs : List α} (h : IsS86 w0 W g f0 f1 f2) (ho : d.R e W base ok v xs) (ht : e ≠ 86) : some g ≠ v.ownBlock := by
 obtain ⟨A0, c0, hb, hg, hr0⟩ := h
 exact Kd.R_ne ho hb ht
theorem IsS86.apartQ {w0 W : World} {g : Nat} {f0 : List Int} {f1 : Int} {f2 : Int} {α : Type} {d : Kd α} {e : Nat} {base : Nat} {ok : Nat → Prop} {v : Value} {xs : List α} (h : IsS86 w0 W g f0 f1 f2) (ho : d.Q e W base ok v xs) (ht : ∀ q, q ∈ e :: d.E → q ≠ 86) : d.Q e W base (fun k => ok k ∧ k ≠ g) v xs := by
 obtain ⟨A0, c0, hb, hg, hr0⟩ := h
 exact Kd.Q_types ho hb ht
theorem IsS86.own_neQ {w0 W : World} {g : Nat} {f0 : List Int} {f1 : Int} {f2 : Int} {α : Type} {d : Kd α} {e : Nat} {base : Nat} {ok : Nat → Prop} {v : Value} {xs : List α} (h : IsS86 w0 W g f0 f1 f2) (ho : d.Q e W base ok v xs) (ht : e ≠ 86) : some g ≠ v.ownBlock := by
 obtain ⟨A0, c0, hb, hg, hr0⟩ := h
 exact Kd.Q_ne ho hb ht
theorem IsS86.apartS {w0 W : World} {g : Nat} {f0 : List Int} {f1 : Int} {f2 : Int} {α : Type} {d : Kd α} {e : Nat} {base : Nat} {ok : Nat → Prop} {v : Value} {xs : List α} (h : IsS86 w0 W g f0 f1 f2) (ho : d.S e W base ok v xs) (ht : ∀ q, q ∈ e :: d.E → q ≠ 86) : d.S e W base (fun k => ok k ∧ k ≠ g) v xs := by
 obtain ⟨A0, c0, hb, hg, hr0⟩ := h
 exact Kd.S_types ho hb ht
theorem IsS86.own_neS {w0 W : World} {g : Nat} {f0 : List Int} {f1 : Int} {f2 : Int} {α : Type} {d : Kd α} {e : Nat} {base : Nat} {ok : Nat → Prop} {v : Value} {xs : List α} (h : IsS86 w0 W g f0 f1 f2) (ho : d.S e W base ok v xs) (ht : e ≠ 86) : some g ≠ v.ownBlock := by
 obtain ⟨A0, c0, hb, hg, hr0⟩ := h
 exact Kd.S_ne ho hb ht
theorem IsS86.lt {w0 W : World} {g : Nat} {f0 : List Int} {f1 : Int} {f2 : Int} (h : IsS86 w0 W g f0 f1 f2) : g < W.heap.size := by
 obtain ⟨A0, c0, hb, hg, hr0⟩ := h
 exact blk_lt hb
theorem IsS86.ge {w0 W : World} {g : Nat} {f0 : List Int} {f1 : Int} {f2 : Int} (h : IsS86 w0 W g f0 f1 f2) : w0.heap.size ≤ g := by
 obtain ⟨A0, c0, hb, hg, hr0⟩ := h
 exact hg
theorem IsS86.ne_blk {w0 W : World} {g : Nat} {f0 : List Int} {f1 : Int} {f2 : Int} {a : Nat} {cs : Array Value} {t : TypeId} {fr : Nat × Nat} (h : IsS86 w0 W g f0 f1 f2) (hb2 : W.heap[a]? = some (.cells cs t fr)) (ht : t ≠ 86) : g ≠ a := by
 obtain ⟨A0, c0, hb, hg, hr0⟩ := h
 rintro rfl
 rw [hb] at hb2
 injection hb2 with hb2
 injection hb2 with _ ht2
 exact ht ht2.symm
theorem IsS86.far {w0 W : World} {g : Nat} {f0 : List Int} {f1 : Int} {f2 : Int} {p : Addr} (h : IsS86 w0 W g f0 f1 f2) (hne : g ≠ p.block) (u : Value) : IsS86 w0 (W.setCell p u) g f0 f1 f2 := by
 obtain ⟨A0, c0, hb, hg, hr0⟩ := h
 exact ⟨A0, c0, blk_far hb hne u, hg, hr0⟩
theorem cellS86_0 {W : World} {g : Nat} {A0 : Option Addr} {c0 : Nat} {f0 : List Int} {f1 : Int} {f2 : Int} (h : W.heap[g]? = some (.cells #[.slice A0 f0.length c0, .int .i64 f1, .int .i64 f2] 86 (0, 0))) : W.cell? ⟨g, 0, none⟩ = some (.slice A0 f0.length c0) := (blk_cell h 0).trans rfl
theorem cellS86_1 {W : World} {g : Nat} {A0 : Option Addr} {c0 : Nat} {f0 : List Int} {f1 : Int} {f2 : Int} (h : W.heap[g]? = some (.cells #[.slice A0 f0.length c0, .int .i64 f1, .int .i64 f2] 86 (0, 0))) : W.cell? ⟨g, 1, none⟩ = some (.int .i64 f1) := (blk_cell h 1).trans rfl
theorem IsS86.set_1 {w0 W : World} {g : Nat} {f0 : List Int} {f1 : Int} {f2 : Int} (h : IsS86 w0 W g f0 f1 f2) (x : Int) : IsS86 w0 (W.setCell ⟨g, 1, none⟩ (.int .i64 x)) g f0 x f2 := by
 obtain ⟨A0, c0, hb, hg, hr0⟩ := h
 exact ⟨A0, c0, by simpa using blk_set hb 1 (.int .i64 x), hg, hr0⟩
theorem cellS86_2 {W : World} {g : Nat} {A0 : Option Addr} {c0 : Nat} {f0 : List Int} {f1 : Int} {f2 : Int} (h : W.heap[g]? = some (.cells #[.slice A0 f0.length c0, .int .i64 f1, .int .i64 f2] 86 (0, 0))) : W.cell? ⟨g, 2, none⟩ = some (.int .i64 f2) := (blk_cell h 2).trans rfl
theorem IsS86.set_2 {w0 W : World} {g : Nat} {f0 : List Int} {f1 : Int} {f2 : Int} (h : IsS86 w0 W g f0 f1 f2) (x : Int) : IsS86 w0 (W.setCell ⟨g, 2, none⟩ (.int .i64 x)) g f0 f1 x := by
 obtain ⟨A0, c0, hb, hg, hr0⟩ := h
 exact ⟨A0, c0, by simpa using blk_set hb 2 (.int .i64 x), hg, hr0⟩
theorem IsS86.new (w0 W : World) (A0 : Option Addr) (c0 : Nat) (f0 : List Int) (f1 : Int) (f2 : Int) (hB : Below w0.heap.size w0 W) (hr0 : Kd.C (Kd.int .u8) w0 A0 f0.length f0) : IsS86 w0 (W.alloc (.cells #[.slice A0 f0.length c0, .int .i64 f1, .int .i64 f2] 86)) W.heap.size f0 f1 f2 := ⟨A0, c0, by simpa using heap_alloc_new W _, hB.size, hr0⟩

/-! ### spec_l1New: function 80 -/
def spec_l1New.l0 : Nat → List Int → Int → Int → Option (List Int × Int × Int)
 | 0, _, _, _ => none
 | k + 1, x0, x3, x4 => if x4 < (x0.length : Int) then (if x4 < 4000 then (if 0 ≤ x4 then (spec_l1New.l0 k x0 (Go.bits .and .i64 (wrap64 ((wrap64 ((wrap64 (x3 * 131)) + (wrap64 (rd x0 x4)))) + 7)) 1073741823) (wrap64 (x4 + 1))) else (none)) else (some (x0, 0, x3))) else (some (x0, 0, x3))
def spec_l1New.f (k : Nat) (l0 : List Int) : Option (List Int × Int × Int) := spec_l1New.l0 k l0 (wrap64 (18554 + (l0.length : Int))) 0
theorem spec_l1New.mono_l : ∀ k, (∀ y0 y1 y2, LeO (spec_l1New.l0 k y0 y1 y2) (spec_l1New.l0 (k + 1) y0 y1 y2))
 | 0 => fun _ _ _ r h => by simp [spec_l1New.l0] at h
 | k + 1 => by
  have ih0 := spec_l1New.mono_l k
  ·intro y0 y1 y2
   unfold spec_l1New.l0
   repeat' first
   | (with_reducible exact ih0 _ _ _)
   | (with_reducible exact LeO.refl _)
   | (with_reducible exact LeO.none _)
   | (with_reducible refine LeO.ite ?_ ?_)
   | (with_reducible refine LeO.bind ?_ (fun _ => ?_))
   | exact ih0 _ _ _
   | exact LeO.none _
   | refine LeO.ite ?_ ?_
   | refine LeO.bind ?_ (fun _ => ?_)
theorem spec_l1New.mono : ∀ a0 k, LeO (spec_l1New.f k a0) (spec_l1New.f (k + 1) a0) := by
 intro a0 k
 have ih0 := spec_l1New.mono_l k
 unfold spec_l1New.f
 repeat' first
   | (with_reducible exact ih0 _ _ _)
   | (with_reducible exact LeO.refl _)
   | (with_reducible exact LeO.none _)
   | (with_reducible refine LeO.ite ?_ ?_)
   | (with_reducible refine LeO.bind ?_ (fun _ => ?_))
   | exact ih0 _ _ _
   | exact LeO.none _
   | refine LeO.ite ?_ ?_
   | refine LeO.bind ?_ (fun _ => ?_)
set_option maxHeartbeats 8000000 in
set_option maxRecDepth 100000 in
theorem spec_l1New.calls (k : Nat) (A0 : Option Addr) (c0 : Nat) (l0 : List Int) (r1 : List Int) (r2 : Int) (r3 : Int) (w0 w : World) (hB : Below w0.heap.size w0 w) (hr0 : Kd.C (Kd.int .u8) w0 A0 l0.length l0) (hc0 : l0.length ≤ c0) (h : spec_l1New.f k l0 = some (r1, r2, r3)) :
  Calls Try.prog 80 #[.slice A0 l0.length c0] w fun e w' => ∃ g_ : Nat, e = .returned (.pointer (some ⟨g_, 0, none⟩)) ∧ IsS86 w0 w' g_ r1 r2 r3 ∧ Below w0.heap.size w0 w' ∧ Below w.heap.size w w' := by
 have hu86 := Try.underlying86
 have HR0 := Aside0.mk hr0
 have HC0 := Aside0.mk hc0
 clear hr0 hc0
 have HBW := Aside0.mk (Below.refl w.heap.size w)
 have HW0 := Aside0.mk hB.size
 have HB := Aside0.mk hB
 clear hB
 have H : (spec_l1New.l0 k l0 (wrap64 (18554 + (l0.length : Int))) 0) = some (r1, r2, r3) := h
 clear h
 have H' := Aside0.mk H
 clear H
 go_enter Try.func80, Try.ntmps80
 go_wp2
 go_loopg [3, 4] k (fun kq v3 v4 w' => ∃ (x3_1 : Int) (x4_1 : Int), v3 = .int .i64 x3_1 ∧ v4 = .int .i64 x4_1 ∧ Aside0 (spec_l1New.l0 kq l0 x3_1 x4_1 = some (r1, r2, r3)) ∧ Aside0 (kq ≤ k) ∧ Aside0 (Below w0.heap.size w0 w') ∧ Aside0 (Below w.heap.size w w'))
 case atStart => exact ⟨(wrap64 (18554 + (l0.length : Int))), (0), (by first | rfl | (simp; done) | (simp [*]; done)), (by first | rfl | (simp; done) | (simp [*]; done)), H', ⟨Nat.le_refl _⟩, ⟨bw HB.out⟩, ⟨bw HBW.out⟩⟩
 case round =>
  clear H'
  obtain ⟨x3_1, x4_1, rfl, rfl, HA, HK1, HB, HBW⟩ := hrel
  cases gk with
  | zero => exact absurd HA.out (by simp [spec_l1New.l0])
  | succ k1 =>
   have H := HA.out
   clear HA
   simp only [spec_l1New.l0] at H
   by_cases c2 : x4_1 < (l0.length : Int)
   ·rw [if_pos c2] at H
    have c2b0 : decide (x4_1 < (l0.length : Int)) = true := decide_eq_true c2
    clear c2
    by_cases c3 : x4_1 < 4000
    ·rw [if_pos c3] at H
     have c3b0 : decide (x4_1 < 4000) = true := decide_eq_true c3
     clear c3
     by_cases c4 : 0 ≤ x4_1
     ·rw [if_pos c4] at H
      have c4b0 : decide (0 ≤ x4_1) = true := decide_eq_true c4
      clear c4
      have H' := Aside0.mk H
      clear H
      have p122 : 0 ≤ (x4_1 : Int) := dt
      have q122 : x4_1 < (l0.length : Int) := dt
      obtain ⟨ad122, e122, hx122_0⟩ := Kd.at_int HR0.out x4_1 p122 q122
      cases e122
      replace hx122_0 := pw_cell_below HB.out hx122_0
      replace p122 := eq_true p122
      replace q122 := eq_true q122
      go_wp2
      go_roundg k1
      case measure => have := HK1.out; omega
      case rel => exact ⟨(Go.bits .and .i64 (wrap64 ((wrap64 ((wrap64 (x3_1 * 131)) + (wrap64 (rd l0 x4_1)))) + 7)) 1073741823), (wrap64 (x4_1 + 1)), (by first | rfl | (simp; done) | (simp [*]; done)), (by first | rfl | (simp; done) | (simp [*]; done)), H', ⟨by have := HK1.out; omega⟩, ⟨bw HB.out⟩, ⟨bw HBW.out⟩⟩
     ·rw [if_neg c4] at H
      exact absurd H (by simp)
    ·rw [if_neg c3] at H
     have c3b0 : decide (x4_1 < 4000) = false := decide_eq_false c3
     clear c3
     simp only [Option.some.injEq, Prod.mk.injEq] at H
     obtain ⟨rfl, rfl, rfl⟩ := H
     go_wp2_with (first | ((with_reducible refine gate_dst (N := 31) rfl ?_); refine bx (N := 31) (cs := #[.slice A0 l0.length c0, .int .i64 0, .int .i64 x3_1]) (t := 86) ?_; intro gb123 hg w5 hbox hb; have n0_ := Aside0.mk (below_step HBW.out hb); have n1_ := Aside0.mk (below_step (bw HB.out) hb); have n2_ := Aside0.mk (hbox); have n3_ := Aside0.mk ((gs hg (bw HBW.out))); have n4_ := Aside0.mk ((Nat.le_trans HW0.out (gs hg (bw HBW.out)) : w0.heap.size ≤ gb123)); clear HBW; clear HB; have HBW := n0_; have HB := n1_; have BK123 := n2_; have GW123 := n3_; have GE123 := n4_; clear n0_ n1_ n2_ n3_ n4_; clear hb hbox hg))
     go_ret
     exact ⟨_, rfl, (show IsS86 w0 _ gb123 l0 0 x3_1 from ⟨_, _, kb BK123.out, GE123.out, HR0.out⟩), bw HB.out, by repeat (first | (with_reducible first | exact HBW.out | apply below_alloc | apply pw_below_drewN | apply below_drew1 | refine below_set ?_ GW123.out) | exact HBW.out)⟩
   ·rw [if_neg c2] at H
    have c2b0 : decide (x4_1 < (l0.length : Int)) = false := decide_eq_false c2
    clear c2
    simp only [Option.some.injEq, Prod.mk.injEq] at H
    obtain ⟨rfl, rfl, rfl⟩ := H
    go_wp2_with (first | ((with_reducible refine gate_dst (N := 31) rfl ?_); refine bx (N := 31) (cs := #[.slice A0 l0.length c0, .int .i64 0, .int .i64 x3_1]) (t := 86) ?_; intro gb124 hg w6 hbox hb; have n0_ := Aside0.mk (below_step HBW.out hb); have n1_ := Aside0.mk (below_step (bw HB.out) hb); have n2_ := Aside0.mk (hbox); have n3_ := Aside0.mk ((gs hg (bw HBW.out))); have n4_ := Aside0.mk ((Nat.le_trans HW0.out (gs hg (bw HBW.out)) : w0.heap.size ≤ gb124)); clear HBW; clear HB; have HBW := n0_; have HB := n1_; have BK124 := n2_; have GW124 := n3_; have GE124 := n4_; clear n0_ n1_ n2_ n3_ n4_; clear hb hbox hg))
    go_ret
    exact ⟨_, rfl, (show IsS86 w0 _ gb124 l0 0 x3_1 from ⟨_, _, kb BK124.out, GE124.out, HR0.out⟩), bw HB.out, by repeat (first | (with_reducible first | exact HBW.out | apply below_alloc | apply pw_below_drewN | apply below_drew1 | refine below_set ?_ GW124.out) | exact HBW.out)⟩

/-! ### short_cur (mine) -/
theorem si {w0 W W' : World} {g : Nat} {f0 : List Int} {f1 f2 p1 p2 : Int} (h : IsS86 w0 W g f0 f1 f2) (f : IsS86 w0 W g f0 f1 f2 → IsS86 w0 W' g f0 p1 p2 := by intro h_; repeat (first | (with_reducible first | exact h_ | apply IsS86.alloc | apply IsS86.drewN | apply IsS86.drew | apply IsS86.set_1 | apply IsS86.set_2 | refine IsS86.far ?_ (Aside0.out (by assumption)) _) | exact h_)) : IsS86 w0 W' g f0 p1 p2 := f h
theorem bi {w W W' : World} (h : Below w.heap.size w W) (f : Below w.heap.size w W → Below w.heap.size w W' := by intro h_; repeat (first | (with_reducible first | exact h_ | apply below_alloc | apply pw_below_drewN | apply below_drew1 | refine below_set ?_ (IsS86.ge (Aside0.out (by assumption))) | refine below_set ?_ (Aside0.out (by assumption))) | exact h_)) : Below w.heap.size w W' := f h

/-! ### spec_l1Byte: function 92 -/
def spec_l1Byte.f (s0_0 : List Int) (s0_1 : Int) (s0_2 : Int) : Option (Int × Int × Int) := if s0_1 < (s0_0.length : Int) then (if 0 ≤ s0_1 then (some (Go.bits .and .i64 (wrap64 ((Go.bits .and .i64 (Go.bits .xor .i64 ((wrap64 ((wrap64 (s0_2 * 6364136223846793005)) + 1442695040888963407)) / 8589934592) ((wrap64 ((wrap64 (s0_2 * 6364136223846793005)) + 1442695040888963407)) / 35184372088832)) 255) + (wrap64 (rd s0_0 s0_1)))) 255, wrap64 (s0_1 + 1), wrap64 ((wrap64 (s0_2 * 6364136223846793005)) + 1442695040888963407))) else (none)) else (some (Go.bits .and .i64 (Go.bits .xor .i64 ((wrap64 ((wrap64 (s0_2 * 6364136223846793005)) + 1442695040888963407)) / 8589934592) ((wrap64 ((wrap64 (s0_2 * 6364136223846793005)) + 1442695040888963407)) / 35184372088832)) 255, s0_1, wrap64 ((wrap64 (s0_2 * 6364136223846793005)) + 1442695040888963407)))
set_option maxHeartbeats 8000000 in
set_option maxRecDepth 100000 in
theorem spec_l1Byte.calls (g : Nat) (s0_0 : List Int) (s0_1 : Int) (s0_2 : Int) (r1 : Int) (r2 : Int) (r3 : Int) (w0 w : World) (hI : IsS86 w0 w g s0_0 s0_1 s0_2) (hB : Below w0.heap.size w0 w) (h : spec_l1Byte.f s0_0 s0_1 s0_2 = some (r1, r2, r3)) :
  Calls Try.prog 92 #[.pointer (some ⟨g, 0, none⟩)] w fun e w' => e = .returned (.int .i64 r1) ∧ IsS86 w0 w' g s0_0 r2 r3 ∧ Below w0.heap.size w0 w' ∧ KeepBut w w' g none := by
 have HI0 := Aside0.mk hI
 have HK := Aside0.mk (KeepBut.refl w g none)
 have HL := Aside0.mk hB.size
 clear hI
 have HW0 := Aside0.mk hB.size
 have HB := Aside0.mk hB
 clear hB
 have H : (if s0_1 < (s0_0.length : Int) then (if 0 ≤ s0_1 then (some (Go.bits .and .i64 (wrap64 ((Go.bits .and .i64 (Go.bits .xor .i64 ((wrap64 ((wrap64 (s0_2 * 6364136223846793005)) + 1442695040888963407)) / 8589934592) ((wrap64 ((wrap64 (s0_2 * 6364136223846793005)) + 1442695040888963407)) / 35184372088832)) 255) + (wrap64 (rd s0_0 s0_1)))) 255, wrap64 (s0_1 + 1), wrap64 ((wrap64 (s0_2 * 6364136223846793005)) + 1442695040888963407))) else (none)) else (some (Go.bits .and .i64 (Go.bits .xor .i64 ((wrap64 ((wrap64 (s0_2 * 6364136223846793005)) + 1442695040888963407)) / 8589934592) ((wrap64 ((wrap64 (s0_2 * 6364136223846793005)) + 1442695040888963407)) / 35184372088832)) 255, s0_1, wrap64 ((wrap64 (s0_2 * 6364136223846793005)) + 1442695040888963407)))) = some (r1, r2, r3) := h
 clear h
 by_cases c2 : s0_1 < (s0_0.length : Int)
 ·rw [if_pos c2] at H
  have c2b0 : decide (s0_1 < (s0_0.length : Int)) = true := decide_eq_true c2
  clear c2
  by_cases c3 : 0 ≤ s0_1
  ·rw [if_pos c3] at H
   have c3b0 : decide (0 ≤ s0_1) = true := decide_eq_true c3
   clear c3
   simp only [Option.some.injEq, Prod.mk.injEq] at H
   obtain ⟨rfl, rfl, rfl⟩ := H
   obtain ⟨ASz4_0, cSz4_0, HGz4, hgz4, HSz4_0⟩ := HI0.out
   have hcz4_0 := cellS86_0 HGz4
   have hcz4_1 := cellS86_1 HGz4
   have hcz4_2 := cellS86_2 HGz4
   have hfz4_1 := blk_frozen HGz4 1
   have hfz4_2 := blk_frozen HGz4 2
   clear HGz4 hgz4
   have p125 : 0 ≤ (s0_1 : Int) := dt
   have q125 : s0_1 < (s0_0.length : Int) := dt
   obtain ⟨ad125, e125, hx125_0⟩ := Kd.at_int HSz4_0 s0_1 p125 q125
   cases e125
   have hn125_0 : ad125.block ≠ g := Nat.ne_of_lt (Nat.lt_of_lt_of_le (by have := World.block_lt_of_cell? _ _ hx125_0; first | rwa [add_block] at this | exact this) (IsS86.ge HI0.out))
   replace hx125_0 := pw_cell_below HB.out hx125_0
   replace hx125_0 := (cell_far (p := ⟨g, 2, none⟩) (by first | (rw [add_block]; exact hn125_0) | (show (Addr.add _ _).block ≠ _; rw [add_block]; exact hn125_0) | exact hn125_0) (.int .i64 (wrap64 ((wrap64 (s0_2 * 6364136223846793005)) + 1442695040888963407)))).trans hx125_0
   (try have hy125_0 := fun (n_ : Nat) => (show (((w.drewN n_).setCell ⟨g, 2, none⟩ (.int .i64 (wrap64 ((wrap64 (s0_2 * 6364136223846793005)) + 1442695040888963407))))).cell? _ = some _ from hx125_0))
   clear hn125_0
   replace p125 := eq_true p125
   replace q125 := eq_true q125
   go_enter Try.func92, Try.ntmps92
   go_wp2
   repeat (go_quiet (fail); try go_wp2)
   go_ret
   exact ⟨rt, si HI0.out, bi HB.out, kp HK.out⟩
  ·rw [if_neg c3] at H
   exact absurd H (by simp)
 ·rw [if_neg c2] at H
  have c2b0 : decide (s0_1 < (s0_0.length : Int)) = false := decide_eq_false c2
  clear c2
  simp only [Option.some.injEq, Prod.mk.injEq] at H
  obtain ⟨rfl, rfl, rfl⟩ := H
  obtain ⟨ASz5_0, cSz5_0, HGz5, hgz5, HSz5_0⟩ := HI0.out
  have hcz5_0 := cellS86_0 HGz5
  have hcz5_1 := cellS86_1 HGz5
  have hcz5_2 := cellS86_2 HGz5
  have hfz5_1 := blk_frozen HGz5 1
  have hfz5_2 := blk_frozen HGz5 2
  clear HGz5 hgz5
  go_enter Try.func92, Try.ntmps92
  go_wp2
  repeat (go_quiet (fail); try go_wp2)
  go_ret
  exact ⟨rt, si HI0.out, bi HB.out, kp HK.out⟩

/-! ### spec_l1Below: function 89 -/
def spec_l1Below.f (s0_0 : List Int) (s0_1 : Int) (s0_2 : Int) (a1 : Int) : Option (Int × Int × Int) := if a1 ≤ 0 then (some (0, s0_1, s0_2)) else (if a1 ≤ 256 then ((spec_l1Byte.f s0_0 s0_1 s0_2).bind fun bt126 => (if a1 = 0 then (none) else (some (Int.tmod bt126.1 a1, bt126.2.1, bt126.2.2)))) else ((spec_l1Byte.f s0_0 s0_1 s0_2).bind fun bt129 => ((spec_l1Byte.f s0_0 bt129.2.1 bt129.2.2).bind fun bt132 => ((spec_l1Byte.f s0_0 bt132.2.1 bt132.2.2).bind fun bt135 => ((spec_l1Byte.f s0_0 bt135.2.1 bt135.2.2).bind fun bt138 => (if a1 = 0 then (none) else (some (Int.tmod (wrap64 ((wrap64 ((wrap64 ((wrap64 (bt129.1 * 16777216)) + (wrap64 (bt132.1 * 65536)))) + (wrap64 (bt135.1 * 256)))) + bt138.1)) a1, bt138.2.1, bt138.2.2))))))))
set_option maxHeartbeats 8000000 in
set_option maxRecDepth 100000 in
theorem spec_l1Below.calls (g : Nat) (s0_0 : List Int) (s0_1 : Int) (s0_2 : Int) (a1 : Int) (r1 : Int) (r2 : Int) (r3 : Int) (w0 w : World) (hI : IsS86 w0 w g s0_0 s0_1 s0_2) (hB : Below w0.heap.size w0 w) (h : spec_l1Below.f s0_0 s0_1 s0_2 a1 = some (r1, r2, r3)) :
  Calls Try.prog 89 #[.pointer (some ⟨g, 0, none⟩), .int .i64 a1] w fun e w' => e = .returned (.int .i64 r1) ∧ IsS86 w0 w' g s0_0 r2 r3 ∧ Below w0.heap.size w0 w' ∧ KeepBut w w' g none := by
 have HI0 := Aside0.mk hI
 have HK := Aside0.mk (KeepBut.refl w g none)
 have HL := Aside0.mk hB.size
 clear hI
 have HW0 := Aside0.mk hB.size
 have HB := Aside0.mk hB
 clear hB
 have H : (if a1 ≤ 0 then (some (0, s0_1, s0_2)) else (if a1 ≤ 256 then ((spec_l1Byte.f s0_0 s0_1 s0_2).bind fun bt126 => (if a1 = 0 then (none) else (some (Int.tmod bt126.1 a1, bt126.2.1, bt126.2.2)))) else ((spec_l1Byte.f s0_0 s0_1 s0_2).bind fun bt129 => ((spec_l1Byte.f s0_0 bt129.2.1 bt129.2.2).bind fun bt132 => ((spec_l1Byte.f s0_0 bt132.2.1 bt132.2.2).bind fun bt135 => ((spec_l1Byte.f s0_0 bt135.2.1 bt135.2.2).bind fun bt138 => (if a1 = 0 then (none) else (some (Int.tmod (wrap64 ((wrap64 ((wrap64 ((wrap64 (bt129.1 * 16777216)) + (wrap64 (bt132.1 * 65536)))) + (wrap64 (bt135.1 * 256)))) + bt138.1)) a1, bt138.2.1, bt138.2.2))))))))) = some (r1, r2, r3) := h
 clear h
 by_cases c3 : a1 ≤ 0
 ·rw [if_pos c3] at H
  have c3b0 : decide (a1 ≤ 0) = true := decide_eq_true c3
  clear c3
  simp only [Option.some.injEq, Prod.mk.injEq] at H
  obtain ⟨rfl, rfl, rfl⟩ := H
  go_enter Try.func89, Try.ntmps89
  go_wp2
  go_ret
  exact ⟨rt, si HI0.out, bi HB.out, kp HK.out⟩
 ·rw [if_neg c3] at H
  have c3b0 : decide (a1 ≤ 0) = false := decide_eq_false c3
  clear c3
  by_cases c4 : a1 ≤ 256
  ·rw [if_pos c4] at H
   have c4b0 : decide (a1 ≤ 256) = true := decide_eq_true c4
   clear c4
   replace H := Option.bind_eq_some_iff.mp H
   obtain ⟨⟨t126, t127, t128⟩, A50, H⟩ := H
   replace H : (if a1 = 0 then (none) else (some (Int.tmod t126 a1, t127, t128))) = some (r1, r2, r3) := H
   have A5 := Aside0.mk A50
   clear A50
   by_cases c6 : a1 = 0
   ·rw [if_pos c6] at H
    exact absurd H (by simp)
   ·rw [if_neg c6] at H
    have c6b0 : (a1 == 0) = false := beq_eq_false_iff_ne.mpr c6
    have c6b1 : (a1 != 0) = true := bne_iff_ne.mpr c6
    simp only [Option.some.injEq, Prod.mk.injEq] at H
    obtain ⟨rfl, rfl, rfl⟩ := H
    go_enter Try.func89, Try.ntmps89
    go_wp2_with (first | ((with_reducible refine gate_callee (f := 92) rfl ?_); refine goesM_ (some 14) rfl rfl Try.func92 #[.pointer (some ⟨g, 0, none⟩)] ?_; (with_reducible refine (spec_l1Byte.calls g s0_0 s0_1 s0_2 t126 t127 t128 w0 _ ?side1 ?side2 A5.out).mono ?_); (case side1 => exact si HI0.out); (case side2 => exact bi HB.out); rintro e w7 ⟨rfl, hi, hb, hk⟩; refine ⟨_, rfl, ?_⟩; have n0_ := Aside0.mk (KeepBut.trans (kp HK.out) hk (.inl rfl)); have n1_ := Aside0.mk (hb); have n2_ := Aside0.mk (hi); clear HK; clear HB; clear HI0; have HK := n0_; have HB := n1_; have HI0 := n2_; clear n0_ n1_ n2_; (try clear hb); (try clear hb2); (try clear hk); (try clear hi)))
    go_ret
    exact ⟨rt, si HI0.out, bi HB.out, kp HK.out⟩
  ·rw [if_neg c4] at H
   have c4b0 : decide (a1 ≤ 256) = false := decide_eq_false c4
   clear c4
   replace H := Option.bind_eq_some_iff.mp H
   obtain ⟨⟨t129, t130, t131⟩, A80, H⟩ := H
   replace H : ((spec_l1Byte.f s0_0 t130 t131).bind fun bt132 => ((spec_l1Byte.f s0_0 bt132.2.1 bt132.2.2).bind fun bt135 => ((spec_l1Byte.f s0_0 bt135.2.1 bt135.2.2).bind fun bt138 => (if a1 = 0 then (none) else (some (Int.tmod (wrap64 ((wrap64 ((wrap64 ((wrap64 (t129 * 16777216)) + (wrap64 (bt132.1 * 65536)))) + (wrap64 (bt135.1 * 256)))) + bt138.1)) a1, bt138.2.1, bt138.2.2)))))) = some (r1, r2, r3) := H
   have A8 := Aside0.mk A80
   clear A80
   replace H := Option.bind_eq_some_iff.mp H
   obtain ⟨⟨t132, t133, t134⟩, A90, H⟩ := H
   replace H : ((spec_l1Byte.f s0_0 t133 t134).bind fun bt135 => ((spec_l1Byte.f s0_0 bt135.2.1 bt135.2.2).bind fun bt138 => (if a1 = 0 then (none) else (some (Int.tmod (wrap64 ((wrap64 ((wrap64 ((wrap64 (t129 * 16777216)) + (wrap64 (t132 * 65536)))) + (wrap64 (bt135.1 * 256)))) + bt138.1)) a1, bt138.2.1, bt138.2.2))))) = some (r1, r2, r3) := H
   have A9 := Aside0.mk A90
   clear A90
   replace H := Option.bind_eq_some_iff.mp H
   obtain ⟨⟨t135, t136, t137⟩, A100, H⟩ := H
   replace H : ((spec_l1Byte.f s0_0 t136 t137).bind fun bt138 => (if a1 = 0 then (none) else (some (Int.tmod (wrap64 ((wrap64 ((wrap64 ((wrap64 (t129 * 16777216)) + (wrap64 (t132 * 65536)))) + (wrap64 (t135 * 256)))) + bt138.1)) a1, bt138.2.1, bt138.2.2)))) = some (r1, r2, r3) := H
   have A10 := Aside0.mk A100
   clear A100
   replace H := Option.bind_eq_some_iff.mp H
   obtain ⟨⟨t138, t139, t140⟩, A110, H⟩ := H
   replace H : (if a1 = 0 then (none) else (some (Int.tmod (wrap64 ((wrap64 ((wrap64 ((wrap64 (t129 * 16777216)) + (wrap64 (t132 * 65536)))) + (wrap64 (t135 * 256)))) + t138)) a1, t139, t140))) = some (r1, r2, r3) := H
   have A11 := Aside0.mk A110
   clear A110
   by_cases c12 : a1 = 0
   ·rw [if_pos c12] at H
    exact absurd H (by simp)
   ·rw [if_neg c12] at H
    have c12b0 : (a1 == 0) = false := beq_eq_false_iff_ne.mpr c12
    have c12b1 : (a1 != 0) = true := bne_iff_ne.mpr c12
    simp only [Option.some.injEq, Prod.mk.injEq] at H
    obtain ⟨rfl, rfl, rfl⟩ := H
    go_enter Try.func89, Try.ntmps89
    go_wp2_with (first | ((with_reducible refine gate_callee (f := 92) rfl ?_); refine goesM_ (some 18) rfl rfl Try.func92 #[.pointer (some ⟨g, 0, none⟩)] ?_; (with_reducible refine (spec_l1Byte.calls g s0_0 s0_1 s0_2 t129 t130 t131 w0 _ ?side1 ?side2 A8.out).mono ?_); (case side1 => exact si HI0.out); (case side2 => exact bi HB.out); rintro e w13 ⟨rfl, hi, hb, hk⟩; refine ⟨_, rfl, ?_⟩; have n0_ := Aside0.mk (KeepBut.trans (kp HK.out) hk (.inl rfl)); have n1_ := Aside0.mk (hb); have n2_ := Aside0.mk (hi); clear HK; clear HB; clear HI0; have HK := n0_; have HB := n1_; have HI0 := n2_; clear n0_ n1_ n2_; (try clear hb); (try clear hb2); (try clear hk); (try clear hi)) | ((with_reducible refine gate_callee (f := 92) rfl ?_); refine goesM_ (some 20) rfl rfl Try.func92 #[.pointer (some ⟨g, 0, none⟩)] ?_; (with_reducible refine (spec_l1Byte.calls g s0_0 t130 t131 t132 t133 t134 w0 _ ?side1 ?side2 A9.out).mono ?_); (case side1 => exact si HI0.out); (case side2 => exact bi HB.out); rintro e w14 ⟨rfl, hi, hb, hk⟩; refine ⟨_, rfl, ?_⟩; have n0_ := Aside0.mk (KeepBut.trans (kp HK.out) hk (.inl rfl)); have n1_ := Aside0.mk (hb); have n2_ := Aside0.mk (hi); clear HK; clear HB; clear HI0; have HK := n0_; have HB := n1_; have HI0 := n2_; clear n0_ n1_ n2_; (try clear hb); (try clear hb2); (try clear hk); (try clear hi)) | ((with_reducible refine gate_callee (f := 92) rfl ?_); refine goesM_ (some 22) rfl rfl Try.func92 #[.pointer (some ⟨g, 0, none⟩)] ?_; (with_reducible refine (spec_l1Byte.calls g s0_0 t133 t134 t135 t136 t137 w0 _ ?side1 ?side2 A10.out).mono ?_); (case side1 => exact si HI0.out); (case side2 => exact bi HB.out); rintro e w15 ⟨rfl, hi, hb, hk⟩; refine ⟨_, rfl, ?_⟩; have n0_ := Aside0.mk (KeepBut.trans (kp HK.out) hk (.inl rfl)); have n1_ := Aside0.mk (hb); have n2_ := Aside0.mk (hi); clear HK; clear HB; clear HI0; have HK := n0_; have HB := n1_; have HI0 := n2_; clear n0_ n1_ n2_; (try clear hb); (try clear hb2); (try clear hk); (try clear hi)) | ((with_reducible refine gate_callee (f := 92) rfl ?_); refine goesM_ (some 24) rfl rfl Try.func92 #[.pointer (some ⟨g, 0, none⟩)] ?_; (with_reducible refine (spec_l1Byte.calls g s0_0 t136 t137 t138 t139 t140 w0 _ ?side1 ?side2 A11.out).mono ?_); (case side1 => exact si HI0.out); (case side2 => exact bi HB.out); rintro e w16 ⟨rfl, hi, hb, hk⟩; refine ⟨_, rfl, ?_⟩; have n0_ := Aside0.mk (KeepBut.trans (kp HK.out) hk (.inl rfl)); have n1_ := Aside0.mk (hb); have n2_ := Aside0.mk (hi); clear HK; clear HB; clear HI0; have HK := n0_; have HB := n1_; have HI0 := n2_; clear n0_ n1_ n2_; (try clear hb); (try clear hb2); (try clear hk); (try clear hi)))
    go_ret
    exact ⟨rt, si HI0.out, bi HB.out, kp HK.out⟩

/-! ### spec_l1Once: function 82 -/
def spec_l1Once.f (s0_0 : List Int) (s0_1 : Int) (s0_2 : Int) (a1 : Int) : Option (Bool × Int × Int) := (spec_l1Below.f s0_0 s0_1 s0_2 a1).bind fun bt141 => (some ((bt141.1 == 0), bt141.2.1, bt141.2.2))
set_option maxHeartbeats 8000000 in
set_option maxRecDepth 100000 in
theorem spec_l1Once.calls (g : Nat) (s0_0 : List Int) (s0_1 : Int) (s0_2 : Int) (a1 : Int) (r1 : Bool) (r2 : Int) (r3 : Int) (w0 w : World) (hI : IsS86 w0 w g s0_0 s0_1 s0_2) (hB : Below w0.heap.size w0 w) (h : spec_l1Once.f s0_0 s0_1 s0_2 a1 = some (r1, r2, r3)) :
  Calls Try.prog 82 #[.pointer (some ⟨g, 0, none⟩), .int .i64 a1] w fun e w' => e = .returned (.bool r1) ∧ IsS86 w0 w' g s0_0 r2 r3 ∧ Below w0.heap.size w0 w' ∧ KeepBut w w' g none := by
 have HI0 := Aside0.mk hI
 have HK := Aside0.mk (KeepBut.refl w g none)
 have HL := Aside0.mk hB.size
 clear hI
 have HW0 := Aside0.mk hB.size
 have HB := Aside0.mk hB
 clear hB
 have H : ((spec_l1Below.f s0_0 s0_1 s0_2 a1).bind fun bt141 => (some ((bt141.1 == 0), bt141.2.1, bt141.2.2))) = some (r1, r2, r3) := h
 clear h
 replace H := Option.bind_eq_some_iff.mp H
 obtain ⟨⟨t141, t142, t143⟩, A30, H⟩ := H
 replace H : (some ((t141 == 0), t142, t143)) = some (r1, r2, r3) := H
 have A3 := Aside0.mk A30
 clear A30
 simp only [Option.some.injEq, Prod.mk.injEq] at H
 obtain ⟨rfl, rfl, rfl⟩ := H
 go_enter Try.func82, Try.ntmps82
 go_wp2_with (first | ((with_reducible refine gate_callee (f := 89) rfl ?_); refine goesM_ (some 7) rfl rfl Try.func89 #[.pointer (some ⟨g, 0, none⟩), .int .i64 a1] ?_; (with_reducible refine (spec_l1Below.calls g s0_0 s0_1 s0_2 a1 t141 t142 t143 w0 _ ?side1 ?side2 A3.out).mono ?_); (case side1 => exact si HI0.out); (case side2 => exact bi HB.out); rintro e w4 ⟨rfl, hi, hb, hk⟩; refine ⟨_, rfl, ?_⟩; have n0_ := Aside0.mk (KeepBut.trans (kp HK.out) hk (.inl rfl)); have n1_ := Aside0.mk (hb); have n2_ := Aside0.mk (hi); clear HK; clear HB; clear HI0; have HK := n0_; have HB := n1_; have HI0 := n2_; clear n0_ n1_ n2_; (try clear hb); (try clear hb2); (try clear hk); (try clear hi)))
 go_ret
 exact ⟨rt, si HI0.out, bi HB.out, kp HK.out⟩

/-! ### spec_l1PickInt: function 90 -/
def spec_l1PickInt.f (s0_0 : List Int) (s0_1 : Int) (s0_2 : Int) (l1 : List Int) : Option (Int × Int × Int) := (spec_l1Below.f s0_0 s0_1 s0_2 (l1.length : Int)).bind fun bt144 => (if 0 ≤ bt144.1 then (if bt144.1 < (l1.length : Int) then (some (rd l1 bt144.1, bt144.2.1, bt144.2.2)) else (none)) else (none))
set_option maxHeartbeats 8000000 in
set_option maxRecDepth 100000 in
theorem spec_l1PickInt.calls (g : Nat) (s0_0 : List Int) (s0_1 : Int) (s0_2 : Int) (A1 : Option Addr) (c1 : Nat) (l1 : List Int) (r1 : Int) (r2 : Int) (r3 : Int) (w0 w : World) (hI : IsS86 w0 w g s0_0 s0_1 s0_2) (hB : Below w0.heap.size w0 w) (hr1 : Kd.C (Kd.int .i64) w A1 l1.length l1) (hc1 : l1.length ≤ c1) (hf1 : ∀ ad, A1 = some ad → 0 < l1.length → ad.block ≠ g) (h : spec_l1PickInt.f s0_0 s0_1 s0_2 l1 = some (r1, r2, r3)) :
  Calls Try.prog 90 #[.pointer (some ⟨g, 0, none⟩), .slice A1 l1.length c1] w fun e w' => e = .returned (.int .i64 r1) ∧ IsS86 w0 w' g s0_0 r2 r3 ∧ Below w0.heap.size w0 w' ∧ KeepBut w w' g none := by
 have HR1 := Aside0.mk hr1
 have HC1 := Aside0.mk hc1
 clear hr1 hc1
 have HI0 := Aside0.mk hI
 have HK := Aside0.mk (KeepBut.refl w g none)
 have HL := Aside0.mk hB.size
 clear hI
 have HW0 := Aside0.mk hB.size
 have HB := Aside0.mk hB
 clear hB
 have H : ((spec_l1Below.f s0_0 s0_1 s0_2 (l1.length : Int)).bind fun bt144 => (if 0 ≤ bt144.1 then (if bt144.1 < (l1.length : Int) then (some (rd l1 bt144.1, bt144.2.1, bt144.2.2)) else (none)) else (none))) = some (r1, r2, r3) := h
 clear h
 replace H := Option.bind_eq_some_iff.mp H
 obtain ⟨⟨t144, t145, t146⟩, A30, H⟩ := H
 replace H : (if 0 ≤ t144 then (if t144 < (l1.length : Int) then (some (rd l1 t144, t145, t146)) else (none)) else (none)) = some (r1, r2, r3) := H
 have A3 := Aside0.mk A30
 clear A30
 by_cases c4 : 0 ≤ t144
 ·rw [if_pos c4] at H
  have c4b0 : decide (0 ≤ t144) = true := decide_eq_true c4
  clear c4
  by_cases c5 : t144 < (l1.length : Int)
  ·rw [if_pos c5] at H
   have c5b0 : decide (t144 < (l1.length : Int)) = true := decide_eq_true c5
   clear c5
   simp only [Option.some.injEq, Prod.mk.injEq] at H
   obtain ⟨rfl, rfl, rfl⟩ := H
   go_enter Try.func90, Try.ntmps90
   go_wp2_with (first | ((with_reducible refine gate_callee (f := 89) rfl ?_); refine goesM_ (some 9) rfl rfl Try.func89 #[.pointer (some ⟨g, 0, none⟩), .int .i64 (l1.length : Int)] ?_; (with_reducible refine (spec_l1Below.calls g s0_0 s0_1 s0_2 (l1.length : Int) t144 t145 t146 w0 _ ?side1 ?side2 A3.out).mono ?_); (case side1 => exact si HI0.out); (case side2 => exact bi HB.out); rintro e w6 ⟨rfl, hi, hb, hk⟩; refine ⟨_, rfl, ?_⟩; have n0_ := Aside0.mk (KeepBut.trans (kp HK.out) hk (.inl rfl)); have n1_ := Aside0.mk (hb); have n2_ := Aside0.mk (hi); clear HK; clear HB; clear HI0; have HK := n0_; have HB := n1_; have HI0 := n2_; clear n0_ n1_ n2_; (try clear hb); (try clear hb2); (try clear hk); (try clear hi); have p147 : 0 ≤ (t144 : Int) := dt; have q147 : t144 < (l1.length : Int) := dt; obtain ⟨ad147, e147, hx147_0⟩ := Kd.at_int HR1.out t144 p147 q147; cases e147; replace hx147_0 := keep_cell HK.out hx147_0 (by first | (rw [add_block]; exact hf1 _ rfl (by omega)) | exact hf1 _ rfl (by omega) | exact hf1 ad147 rfl (by omega)); replace p147 := eq_true p147; replace q147 := eq_true q147))
   go_ret
   exact ⟨rt, si HI0.out, bi HB.out, kp HK.out⟩
  ·rw [if_neg c5] at H
   exact absurd H (by simp)
 ·rw [if_neg c4] at H
  exact absurd H (by simp)

/-! ### spec_l1DrawInt: function 81 -/
def spec_l1DrawInt.f (s0_0 : List Int) (s0_1 : Int) (s0_2 : Int) : Option (Int × Int × Int) := (spec_l1Once.f s0_0 s0_1 s0_2 9).bind fun bt148 => (if bt148.1 = true then ((spec_l1PickInt.f s0_0 bt148.2.1 bt148.2.2 (([(-1), 256, 65535, 65536, 9223372036854775807, (-9223372036854775808), 511] : List Int))).bind fun bt154 => (some (bt154.1, bt154.2.1, bt154.2.2))) else ((spec_l1Below.f s0_0 bt148.2.1 bt148.2.2 256).bind fun bt157 => (some (bt157.1, bt157.2.1, bt157.2.2))))
set_option maxHeartbeats 8000000 in
set_option maxRecDepth 100000 in
theorem spec_l1DrawInt.calls (g : Nat) (s0_0 : List Int) (s0_1 : Int) (s0_2 : Int) (r1 : Int) (r2 : Int) (r3 : Int) (w0 w : World) (hI : IsS86 w0 w g s0_0 s0_1 s0_2) (hB : Below w0.heap.size w0 w) (h : spec_l1DrawInt.f s0_0 s0_1 s0_2 = some (r1, r2, r3)) :
  Calls Try.prog 81 #[.pointer (some ⟨g, 0, none⟩)] w fun e w' => e = .returned (.int .i64 r1) ∧ IsS86 w0 w' g s0_0 r2 r3 ∧ Below w0.heap.size w0 w' ∧ KeepBut w w' g none := by
 have HI0 := Aside0.mk hI
 have HK := Aside0.mk (KeepBut.refl w g none)
 have HL := Aside0.mk hB.size
 clear hI
 have HW0 := Aside0.mk hB.size
 have HB := Aside0.mk hB
 clear hB
 have H : ((spec_l1Once.f s0_0 s0_1 s0_2 9).bind fun bt148 => (if bt148.1 = true then ((spec_l1PickInt.f s0_0 bt148.2.1 bt148.2.2 (([(-1), 256, 65535, 65536, 9223372036854775807, (-9223372036854775808), 511] : List Int))).bind fun bt154 => (some (bt154.1, bt154.2.1, bt154.2.2))) else ((spec_l1Below.f s0_0 bt148.2.1 bt148.2.2 256).bind fun bt157 => (some (bt157.1, bt157.2.1, bt157.2.2))))) = some (r1, r2, r3) := h
 clear h
 replace H := Option.bind_eq_some_iff.mp H
 obtain ⟨⟨t148, t149, t150⟩, A20, H⟩ := H
 replace H : (if t148 = true then ((spec_l1PickInt.f s0_0 t149 t150 (([(-1), 256, 65535, 65536, 9223372036854775807, (-9223372036854775808), 511] : List Int))).bind fun bt154 => (some (bt154.1, bt154.2.1, bt154.2.2))) else ((spec_l1Below.f s0_0 t149 t150 256).bind fun bt157 => (some (bt157.1, bt157.2.1, bt157.2.2)))) = some (r1, r2, r3) := H
 have A2 := Aside0.mk A20
 clear A20
 by_cases c3 : t148 = true
 ·subst c3
  have H1 : ((spec_l1PickInt.f s0_0 t149 t150 (([(-1), 256, 65535, 65536, 9223372036854775807, (-9223372036854775808), 511] : List Int))).bind fun bt154 => (some (bt154.1, bt154.2.1, bt154.2.2))) = some (r1, r2, r3) := by rw [if_pos rfl] at H; exact H
  clear H
  have H := H1
  clear H1
  obtain ⟨y151, hy151⟩ : ∃ y_ : List Int, y_ = (([(-1), 256, 65535, 65536, 9223372036854775807, (-9223372036854775808), 511] : List Int)) := ⟨_, rfl⟩
  replace H : ((spec_l1PickInt.f s0_0 t149 t150 y151).bind fun bt154 => (some (bt154.1, bt154.2.1, bt154.2.2))) = some (r1, r2, r3) := by first | (rw [hy151]; with_reducible exact H) | (have H2_ := (Option.bind_some _ _).symm.trans H; rw [hy151]; with_reducible exact H2_) | (have H2_ := (Option.bind_some _ _).symm.trans H; with_reducible exact H2_) | with_reducible exact H | (rw [hy151]; exact H) | exact H
  have Ny151 := Aside0.mk hy151
  clear hy151
  replace H := Option.bind_eq_some_iff.mp H
  obtain ⟨⟨t154, t155, t156⟩, A40, H⟩ := H
  replace H : (some (t154, t155, t156)) = some (r1, r2, r3) := H
  have A4 := Aside0.mk A40
  clear A40
  simp only [Option.some.injEq, Prod.mk.injEq] at H
  obtain ⟨rfl, rfl, rfl⟩ := H
  go_enter Try.func81, Try.ntmps81
  go_wp2_with (first | ((with_reducible refine gate_callee (f := 82) rfl ?_); refine goesM_ (some 4) rfl rfl Try.func82 #[.pointer (some ⟨g, 0, none⟩), .int .i64 9] ?_; (with_reducible refine (spec_l1Once.calls g s0_0 s0_1 s0_2 9 true t149 t150 w0 _ ?side1 ?side2 A2.out).mono ?_); (case side1 => exact si HI0.out); (case side2 => exact bi HB.out); rintro e w5 ⟨rfl, hi, hb, hk⟩; refine ⟨_, rfl, ?_⟩; have n0_ := Aside0.mk (KeepBut.trans (kp HK.out) hk (.inl rfl)); have n1_ := Aside0.mk (hb); have n2_ := Aside0.mk (hi); clear HK; clear HB; clear HI0; have HK := n0_; have HB := n1_; have HI0 := n2_; clear n0_ n1_ n2_; (try clear hb); (try clear hb2); (try clear hk); (try clear hi)) | ((with_reducible refine gate_dst (N := 6) rfl ?_); refine Kd.R_lit (Kd.int .i64) _ 3 ?hg (N := 6) ?hd (xs := ([(-1), 256, 65535, 65536, 9223372036854775807, (-9223372036854775808), 511] : List Int)) (inner := [.int .i64 (-1), .int .i64 256, .int .i64 65535, .int .i64 65536, .int .i64 9223372036854775807, .int .i64 (-9223372036854775808), .int .i64 511]) (ok := fun _ => True) (okp := fun _ => True) ?hr ?hp (fun _ hk => hk) trivial (Below.refl _ _) (Nat.le_refl _) (by simp) ?_; (case hd => rfl); (case hg => rfl); (case hr => first | (go_simp; done) | (go_simp; rfl)); (case hp => exact (Reps.one (show Kd.M (Kd.int .i64) _ _ _ (-1) [.int .i64 (-1)] from rfl) (Reps.one (show Kd.M (Kd.int .i64) _ _ _ 256 [.int .i64 256] from rfl) (Reps.one (show Kd.M (Kd.int .i64) _ _ _ 65535 [.int .i64 65535] from rfl) (Reps.one (show Kd.M (Kd.int .i64) _ _ _ 65536 [.int .i64 65536] from rfl) (Reps.one (show Kd.M (Kd.int .i64) _ _ _ 9223372036854775807 [.int .i64 9223372036854775807] from rfl) (Reps.one (show Kd.M (Kd.int .i64) _ _ _ (-9223372036854775808) [.int .i64 (-9223372036854775808)] from rfl) (Reps.one (show Kd.M (Kd.int .i64) _ _ _ 511 [.int .i64 511] from rfl) (Reps.none _ _))))))))); intro v152 w6 ho7 hb hg_ hnew_; clear hg_ hnew_; (first | rw [← Ny151.out] at ho7 | (simp only [Int.reduceToNat] at ho7; rw [← Ny151.out] at ho7)); have n0_ := Aside0.mk (Kd.R_lower ho7 (keep_size (w := w) (g := g) (row := none) (kp HK.out))); have n1_ := Aside0.mk (IsS86.below (si HI0.out) hb); have n2_ := Aside0.mk (KeepBut.trans (kp HK.out) (KeepBut.of_below hb g none) (.inl rfl)); have n3_ := Aside0.mk (below_step (bi HB.out) hb); clear HI0; clear HK; clear HB; have HO153 := n0_; have HI0 := n1_; have HK := n2_; have HB := n3_; clear n0_ n1_ n2_ n3_; clear hb ho7; obtain ⟨Ao8, co8, eo8⟩ := Kd.R_slice HO153.out; subst eo8) | ((with_reducible refine gate_callee (f := 90) rfl ?_); refine goesM_ (some 7) rfl rfl Try.func90 #[.pointer (some ⟨g, 0, none⟩), .slice Ao8 y151.length co8] ?_; (with_reducible refine (spec_l1PickInt.calls g s0_0 t149 t150 _ _ y151 t154 t155 t156 w0 _ ?side1 ?side2 ?side3 ?side4 ?side5 A4.out).mono ?_); (case side1 => exact si HI0.out); (case side2 => exact bi HB.out); (case side3 => repeat (first | exact (Kd.R_reads' HO153.out).2.2 | (with_reducible refine Kd.C_alloc ?_ _) | (with_reducible refine Kd.C_drewN ?_ _) | (with_reducible refine Kd.C_drew ?_))); (case side4 => exact (Kd.R_reads' HO153.out).2.1); (case side5 => exact far_slice (IsS86.own_ne HI0.out HO153.out (by decide))); rintro e w9 ⟨rfl, hi, hb, hk⟩; refine ⟨_, rfl, ?_⟩; have n0_ := Aside0.mk (Kd.R_mono (Kd.R_keep (IsS86.apart (show IsS86 w0 _ g s0_0 t149 t150 from si HI0.out) (kr HO153.out) (by decide)) hk (fun _ h => h.2)) (fun _ h => h.1)); have n1_ := Aside0.mk (KeepBut.trans (kp HK.out) hk (.inl rfl)); have n2_ := Aside0.mk (hb); have n3_ := Aside0.mk (hi); clear HO153; clear HK; clear HB; clear HI0; have HO153 := n0_; have HK := n1_; have HB := n2_; have HI0 := n3_; clear n0_ n1_ n2_ n3_; (try clear hb); (try clear hb2); (try clear hk); (try clear hi)))
  go_ret
  exact ⟨rt, si HI0.out, bi HB.out, kp HK.out⟩
 ·replace c3 := Bool.eq_false_iff.mpr c3
  subst c3
  have H1 : ((spec_l1Below.f s0_0 t149 t150 256).bind fun bt157 => (some (bt157.1, bt157.2.1, bt157.2.2))) = some (r1, r2, r3) := by rw [if_neg (show ¬ (false = true) by decide)] at H; exact H
  clear H
  have H := H1
  clear H1
  replace H := Option.bind_eq_some_iff.mp H
  obtain ⟨⟨t157, t158, t159⟩, A100, H⟩ := H
  replace H : (some (t157, t158, t159)) = some (r1, r2, r3) := H
  have A10 := Aside0.mk A100
  clear A100
  simp only [Option.some.injEq, Prod.mk.injEq] at H
  obtain ⟨rfl, rfl, rfl⟩ := H
  go_enter Try.func81, Try.ntmps81
  go_wp2_with (first | ((with_reducible refine gate_callee (f := 82) rfl ?_); refine goesM_ (some 4) rfl rfl Try.func82 #[.pointer (some ⟨g, 0, none⟩), .int .i64 9] ?_; (with_reducible refine (spec_l1Once.calls g s0_0 s0_1 s0_2 9 false t149 t150 w0 _ ?side1 ?side2 A2.out).mono ?_); (case side1 => exact si HI0.out); (case side2 => exact bi HB.out); rintro e w11 ⟨rfl, hi, hb, hk⟩; refine ⟨_, rfl, ?_⟩; have n0_ := Aside0.mk (KeepBut.trans (kp HK.out) hk (.inl rfl)); have n1_ := Aside0.mk (hb); have n2_ := Aside0.mk (hi); clear HK; clear HB; clear HI0; have HK := n0_; have HB := n1_; have HI0 := n2_; clear n0_ n1_ n2_; (try clear hb); (try clear hb2); (try clear hk); (try clear hi)) | ((with_reducible refine gate_callee (f := 89) rfl ?_); refine goesM_ (some 9) rfl rfl Try.func89 #[.pointer (some ⟨g, 0, none⟩), .int .i64 256] ?_; (with_reducible refine (spec_l1Below.calls g s0_0 t149 t150 256 t157 t158 t159 w0 _ ?side1 ?side2 A10.out).mono ?_); (case side1 => exact si HI0.out); (case side2 => exact bi HB.out); rintro e w12 ⟨rfl, hi, hb, hk⟩; refine ⟨_, rfl, ?_⟩; have n0_ := Aside0.mk (KeepBut.trans (kp HK.out) hk (.inl rfl)); have n1_ := Aside0.mk (hb); have n2_ := Aside0.mk (hi); clear HK; clear HB; clear HI0; have HK := n0_; have HB := n1_; have HI0 := n2_; clear n0_ n1_ n2_; (try clear hb); (try clear hb2); (try clear hk); (try clear hi)))
  go_ret
  exact ⟨rt, si HI0.out, bi HB.out, kp HK.out⟩

/-! ### spec_l5DrawRight: function 93 -/
def spec_l5DrawRight.f (s0_0 : List Int) (s0_1 : Int) (s0_2 : Int) : Option (Int × Int × Int × Int × Bool × Bool × Bool × Bool × Int × Int) := (spec_l1Below.f s0_0 s0_1 s0_2 256).bind fun bt161 => ((spec_l1Below.f s0_0 bt161.2.1 bt161.2.2 256).bind fun bt164 => ((spec_l1PickInt.f s0_0 bt164.2.1 bt164.2.2 (([0, 1, 2, 255, 254, 128] : List Int))).bind fun bt170 => ((spec_l1PickInt.f s0_0 bt170.2.1 bt170.2.2 (([0, 49152, 49200, 65535, 65534, 32768, 8192, 511] : List Int))).bind fun bt176 => ((spec_l1Below.f s0_0 bt176.2.1 bt176.2.2 256).bind fun bt179 => ((spec_WithFlags.f bt161.1 bt164.1 bt170.1 bt176.1 false false false false bt179.1).bind fun bt182 => (some (bt182.1, bt182.2.1, bt182.2.2.1, bt182.2.2.2.1, bt182.2.2.2.2.1, bt182.2.2.2.2.2.1, bt182.2.2.2.2.2.2.1, bt182.2.2.2.2.2.2.2, bt179.2.1, bt179.2.2)))))))
set_option maxHeartbeats 8000000 in
set_option maxRecDepth 100000 in
theorem spec_l5DrawRight.calls (g : Nat) (s0_0 : List Int) (s0_1 : Int) (s0_2 : Int) (r1 : Int) (r2 : Int) (r3 : Int) (r4 : Int) (r5 : Bool) (r6 : Bool) (r7 : Bool) (r8 : Bool) (r9 : Int) (r10 : Int) (w0 w : World) (hI : IsS86 w0 w g s0_0 s0_1 s0_2) (hB : Below w0.heap.size w0 w) (h : spec_l5DrawRight.f s0_0 s0_1 s0_2 = some (r1, r2, r3, r4, r5, r6, r7, r8, r9, r10)) :
  Calls Try.prog 93 #[.pointer (some ⟨g, 0, none⟩)] w fun e w' => e = .returned (.agg #[.int .i64 r1, .int .i64 r2, .int .i64 r3, .int .i64 r4, .bool r5, .bool r6, .bool r7, .bool r8]) ∧ IsS86 w0 w' g s0_0 r9 r10 ∧ Below w0.heap.size w0 w' ∧ KeepBut w w' g none := by
 have hu29 := Try.underlying29
 have HI0 := Aside0.mk hI
 have HK := Aside0.mk (KeepBut.refl w g none)
 have HL := Aside0.mk hB.size
 clear hI
 have HW0 := Aside0.mk hB.size
 have HB := Aside0.mk hB
 clear hB
 have H : ((spec_l1Below.f s0_0 s0_1 s0_2 256).bind fun bt161 => ((spec_l1Below.f s0_0 bt161.2.1 bt161.2.2 256).bind fun bt164 => ((spec_l1PickInt.f s0_0 bt164.2.1 bt164.2.2 (([0, 1, 2, 255, 254, 128] : List Int))).bind fun bt170 => ((spec_l1PickInt.f s0_0 bt170.2.1 bt170.2.2 (([0, 49152, 49200, 65535, 65534, 32768, 8192, 511] : List Int))).bind fun bt176 => ((spec_l1Below.f s0_0 bt176.2.1 bt176.2.2 256).bind fun bt179 => ((spec_WithFlags.f bt161.1 bt164.1 bt170.1 bt176.1 false false false false bt179.1).bind fun bt182 => (some (bt182.1, bt182.2.1, bt182.2.2.1, bt182.2.2.2.1, bt182.2.2.2.2.1, bt182.2.2.2.2.2.1, bt182.2.2.2.2.2.2.1, bt182.2.2.2.2.2.2.2, bt179.2.1, bt179.2.2)))))))) = some (r1, r2, r3, r4, r5, r6, r7, r8, r9, r10) := h
 clear h
 replace H := Option.bind_eq_some_iff.mp H
 obtain ⟨⟨t161, t162, t163⟩, A20, H⟩ := H
 replace H : ((spec_l1Below.f s0_0 t162 t163 256).bind fun bt164 => ((spec_l1PickInt.f s0_0 bt164.2.1 bt164.2.2 (([0, 1, 2, 255, 254, 128] : List Int))).bind fun bt170 => ((spec_l1PickInt.f s0_0 bt170.2.1 bt170.2.2 (([0, 49152, 49200, 65535, 65534, 32768, 8192, 511] : List Int))).bind fun bt176 => ((spec_l1Below.f s0_0 bt176.2.1 bt176.2.2 256).bind fun bt179 => ((spec_WithFlags.f t161 bt164.1 bt170.1 bt176.1 false false false false bt179.1).bind fun bt182 => (some (bt182.1, bt182.2.1, bt182.2.2.1, bt182.2.2.2.1, bt182.2.2.2.2.1, bt182.2.2.2.2.2.1, bt182.2.2.2.2.2.2.1, bt182.2.2.2.2.2.2.2, bt179.2.1, bt179.2.2))))))) = some (r1, r2, r3, r4, r5, r6, r7, r8, r9, r10) := H
 have A2 := Aside0.mk A20
 clear A20
 replace H := Option.bind_eq_some_iff.mp H
 obtain ⟨⟨t164, t165, t166⟩, A30, H⟩ := H
 replace H : ((spec_l1PickInt.f s0_0 t165 t166 (([0, 1, 2, 255, 254, 128] : List Int))).bind fun bt170 => ((spec_l1PickInt.f s0_0 bt170.2.1 bt170.2.2 (([0, 49152, 49200, 65535, 65534, 32768, 8192, 511] : List Int))).bind fun bt176 => ((spec_l1Below.f s0_0 bt176.2.1 bt176.2.2 256).bind fun bt179 => ((spec_WithFlags.f t161 t164 bt170.1 bt176.1 false false false false bt179.1).bind fun bt182 => (some (bt182.1, bt182.2.1, bt182.2.2.1, bt182.2.2.2.1, bt182.2.2.2.2.1, bt182.2.2.2.2.2.1, bt182.2.2.2.2.2.2.1, bt182.2.2.2.2.2.2.2, bt179.2.1, bt179.2.2)))))) = some (r1, r2, r3, r4, r5, r6, r7, r8, r9, r10) := H
 have A3 := Aside0.mk A30
 clear A30
 obtain ⟨y167, hy167⟩ : ∃ y_ : List Int, y_ = (([0, 1, 2, 255, 254, 128] : List Int)) := ⟨_, rfl⟩
 replace H : ((spec_l1PickInt.f s0_0 t165 t166 y167).bind fun bt170 => ((spec_l1PickInt.f s0_0 bt170.2.1 bt170.2.2 (([0, 49152, 49200, 65535, 65534, 32768, 8192, 511] : List Int))).bind fun bt176 => ((spec_l1Below.f s0_0 bt176.2.1 bt176.2.2 256).bind fun bt179 => ((spec_WithFlags.f t161 t164 bt170.1 bt176.1 false false false false bt179.1).bind fun bt182 => (some (bt182.1, bt182.2.1, bt182.2.2.1, bt182.2.2.2.1, bt182.2.2.2.2.1, bt182.2.2.2.2.2.1, bt182.2.2.2.2.2.2.1, bt182.2.2.2.2.2.2.2, bt179.2.1, bt179.2.2)))))) = some (r1, r2, r3, r4, r5, r6, r7, r8, r9, r10) := by first | (rw [hy167]; with_reducible exact H) | (have H2_ := (Option.bind_some _ _).symm.trans H; rw [hy167]; with_reducible exact H2_) | (have H2_ := (Option.bind_some _ _).symm.trans H; with_reducible exact H2_) | with_reducible exact H | (rw [hy167]; exact H) | exact H
 have Ny167 := Aside0.mk hy167
 clear hy167
 replace H := Option.bind_eq_some_iff.mp H
 obtain ⟨⟨t170, t171, t172⟩, A40, H⟩ := H
 replace H : ((spec_l1PickInt.f s0_0 t171 t172 (([0, 49152, 49200, 65535, 65534, 32768, 8192, 511] : List Int))).bind fun bt176 => ((spec_l1Below.f s0_0 bt176.2.1 bt176.2.2 256).bind fun bt179 => ((spec_WithFlags.f t161 t164 t170 bt176.1 false false false false bt179.1).bind fun bt182 => (some (bt182.1, bt182.2.1, bt182.2.2.1, bt182.2.2.2.1, bt182.2.2.2.2.1, bt182.2.2.2.2.2.1, bt182.2.2.2.2.2.2.1, bt182.2.2.2.2.2.2.2, bt179.2.1, bt179.2.2))))) = some (r1, r2, r3, r4, r5, r6, r7, r8, r9, r10) := H
 have A4 := Aside0.mk A40
 clear A40
 obtain ⟨y173, hy173⟩ : ∃ y_ : List Int, y_ = (([0, 49152, 49200, 65535, 65534, 32768, 8192, 511] : List Int)) := ⟨_, rfl⟩
 replace H : ((spec_l1PickInt.f s0_0 t171 t172 y173).bind fun bt176 => ((spec_l1Below.f s0_0 bt176.2.1 bt176.2.2 256).bind fun bt179 => ((spec_WithFlags.f t161 t164 t170 bt176.1 false false false false bt179.1).bind fun bt182 => (some (bt182.1, bt182.2.1, bt182.2.2.1, bt182.2.2.2.1, bt182.2.2.2.2.1, bt182.2.2.2.2.2.1, bt182.2.2.2.2.2.2.1, bt182.2.2.2.2.2.2.2, bt179.2.1, bt179.2.2))))) = some (r1, r2, r3, r4, r5, r6, r7, r8, r9, r10) := by first | (rw [hy173]; with_reducible exact H) | (have H2_ := (Option.bind_some _ _).symm.trans H; rw [hy173]; with_reducible exact H2_) | (have H2_ := (Option.bind_some _ _).symm.trans H; with_reducible exact H2_) | with_reducible exact H | (rw [hy173]; exact H) | exact H
 have Ny173 := Aside0.mk hy173
 clear hy173
 replace H := Option.bind_eq_some_iff.mp H
 obtain ⟨⟨t176, t177, t178⟩, A50, H⟩ := H
 replace H : ((spec_l1Below.f s0_0 t177 t178 256).bind fun bt179 => ((spec_WithFlags.f t161 t164 t170 t176 false false false false bt179.1).bind fun bt182 => (some (bt182.1, bt182.2.1, bt182.2.2.1, bt182.2.2.2.1, bt182.2.2.2.2.1, bt182.2.2.2.2.2.1, bt182.2.2.2.2.2.2.1, bt182.2.2.2.2.2.2.2, bt179.2.1, bt179.2.2)))) = some (r1, r2, r3, r4, r5, r6, r7, r8, r9, r10) := H
 have A5 := Aside0.mk A50
 clear A50
 replace H := Option.bind_eq_some_iff.mp H
 obtain ⟨⟨t179, t180, t181⟩, A60, H⟩ := H
 replace H : ((spec_WithFlags.f t161 t164 t170 t176 false false false false t179).bind fun bt182 => (some (bt182.1, bt182.2.1, bt182.2.2.1, bt182.2.2.2.1, bt182.2.2.2.2.1, bt182.2.2.2.2.2.1, bt182.2.2.2.2.2.2.1, bt182.2.2.2.2.2.2.2, t180, t181))) = some (r1, r2, r3, r4, r5, r6, r7, r8, r9, r10) := H
 have A6 := Aside0.mk A60
 clear A60
 replace H := Option.bind_eq_some_iff.mp H
 obtain ⟨⟨t182, t183, t184, t185, t186, t187, t188, t189⟩, A70, H⟩ := H
 replace H : (some (t182, t183, t184, t185, t186, t187, t188, t189, t180, t181)) = some (r1, r2, r3, r4, r5, r6, r7, r8, r9, r10) := H
 have A7 := Aside0.mk A70
 clear A70
 simp only [Option.some.injEq, Prod.mk.injEq] at H
 obtain ⟨rfl, rfl, rfl, rfl, rfl, rfl, rfl, rfl, rfl, rfl⟩ := H
 go_enter Try.func93, Try.ntmps93
 go_wp2_with (first | ((with_reducible refine gate_dst (N := 2) rfl ?_); refine bx (N := 2) (cs := #[.int .i64 0, .int .i64 0, .int .i64 0, .int .i64 0, .bool false, .bool false, .bool false, .bool false]) (t := 29) ?_; intro gb160 hg w8 hbox hb; have n0_ := Aside0.mk (IsS86.below (si HI0.out) hb); have n1_ := Aside0.mk (KeepBut.trans (kp HK.out) (KeepBut.of_below hb g none) (.inl rfl)); have n2_ := Aside0.mk (below_step (bi HB.out) hb); have n3_ := Aside0.mk (hbox); have n4_ := Aside0.mk ((by rw [hg]; exact (keep_size (w := w) (g := g) (row := none) (kp HK.out)) : w.heap.size ≤ gb160)); have n5_ := Aside0.mk ((Nat.le_trans HW0.out (by rw [hg]; exact (keep_size (w := w) (g := g) (row := none) (kp HK.out)) : w.heap.size ≤ gb160) : w0.heap.size ≤ gb160)); have n6_ := Aside0.mk ((by rw [hg]; exact Nat.ne_of_lt (IsS86.lt (show IsS86 w0 _ g s0_0 s0_1 s0_2 from si HI0.out)) : g ≠ gb160)); have n7_ := Aside0.mk ((by rw [hg]; exact Nat.ne_of_gt (IsS86.lt (show IsS86 w0 _ g s0_0 s0_1 s0_2 from si HI0.out)) : gb160 ≠ g)); clear HI0; clear HK; clear HB; have HI0 := n0_; have HK := n1_; have HB := n2_; have BK160 := n3_; have GW160 := n4_; have GE160 := n5_; have NB0_160 := n6_; have NB160_0 := n7_; clear n0_ n1_ n2_ n3_ n4_ n5_ n6_ n7_; clear hb hbox hg) | ((with_reducible refine gate_callee (f := 89) rfl ?_); refine goesM_ (some 4) rfl rfl Try.func89 #[.pointer (some ⟨g, 0, none⟩), .int .i64 256] ?_; (with_reducible refine (spec_l1Below.calls g s0_0 s0_1 s0_2 256 t161 t162 t163 w0 _ ?side1 ?side2 A2.out).mono ?_); (case side1 => exact si HI0.out); (case side2 => exact bi HB.out); rintro e w9 ⟨rfl, hi, hb, hk⟩; refine ⟨_, rfl, ?_⟩; have n0_ := Aside0.mk (KeepBut.blk hk (g' := gb160) (o := .cells #[.int .i64 0, .int .i64 0, .int .i64 0, .int .i64 0, .bool false, .bool false, .bool false, .bool false] 29 (0, 0)) (kb BK160.out) NB160_0.out (by simp)); have n1_ := Aside0.mk (KeepBut.trans (kp HK.out) hk (.inl rfl)); have n2_ := Aside0.mk (hb); have n3_ := Aside0.mk (hi); clear BK160; clear HK; clear HB; clear HI0; have BK160 := n0_; have HK := n1_; have HB := n2_; have HI0 := n3_; clear n0_ n1_ n2_ n3_; (try clear hb); (try clear hb2); (try clear hk); (try clear hi)) | ((with_reducible refine gate_callee (f := 89) rfl ?_); refine goesM_ (some 6) rfl rfl Try.func89 #[.pointer (some ⟨g, 0, none⟩), .int .i64 256] ?_; (with_reducible refine (spec_l1Below.calls g s0_0 t162 t163 256 t164 t165 t166 w0 _ ?side1 ?side2 A3.out).mono ?_); (case side1 => exact si HI0.out); (case side2 => exact bi HB.out); rintro e w10 ⟨rfl, hi, hb, hk⟩; refine ⟨_, rfl, ?_⟩; have n0_ := Aside0.mk (KeepBut.blk hk (g' := gb160) (o := .cells #[.int .i64 0, .int .i64 0, .int .i64 0, .int .i64 0, .bool false, .bool false, .bool false, .bool false] 29 (0, 0)) (kb BK160.out) NB160_0.out (by simp)); have n1_ := Aside0.mk (KeepBut.trans (kp HK.out) hk (.inl rfl)); have n2_ := Aside0.mk (hb); have n3_ := Aside0.mk (hi); clear BK160; clear HK; clear HB; clear HI0; have BK160 := n0_; have HK := n1_; have HB := n2_; have HI0 := n3_; clear n0_ n1_ n2_ n3_; (try clear hb); (try clear hb2); (try clear hk); (try clear hi)) | ((with_reducible refine gate_dst (N := 8) rfl ?_); refine Kd.R_lit (Kd.int .i64) _ 3 ?hg (N := 8) ?hd (xs := ([0, 1, 2, 255, 254, 128] : List Int)) (inner := [.int .i64 0, .int .i64 1, .int .i64 2, .int .i64 255, .int .i64 254, .int .i64 128]) (ok := fun _ => True) (okp := fun _ => True) ?hr ?hp (fun _ hk => hk) trivial (Below.refl _ _) (Nat.le_refl _) (by simp) ?_; (case hd => rfl); (case hg => rfl); (case hr => first | (go_simp; done) | (go_simp; rfl)); (case hp => exact (Reps.one (show Kd.M (Kd.int .i64) _ _ _ 0 [.int .i64 0] from rfl) (Reps.one (show Kd.M (Kd.int .i64) _ _ _ 1 [.int .i64 1] from rfl) (Reps.one (show Kd.M (Kd.int .i64) _ _ _ 2 [.int .i64 2] from rfl) (Reps.one (show Kd.M (Kd.int .i64) _ _ _ 255 [.int .i64 255] from rfl) (Reps.one (show Kd.M (Kd.int .i64) _ _ _ 254 [.int .i64 254] from rfl) (Reps.one (show Kd.M (Kd.int .i64) _ _ _ 128 [.int .i64 128] from rfl) (Reps.none _ _)))))))); intro v168 w11 ho12 hb hg_ hnew_; clear hg_ hnew_; (first | rw [← Ny167.out] at ho12 | (simp only [Int.reduceToNat] at ho12; rw [← Ny167.out] at ho12)); have n0_ := Aside0.mk (Kd.R_lower ho12 (keep_size (w := w) (g := g) (row := none) (kp HK.out))); have n1_ := Aside0.mk (IsS86.below (si HI0.out) hb); have n2_ := Aside0.mk (blk_below (g := gb160) (o := .cells #[.int .i64 0, .int .i64 0, .int .i64 0, .int .i64 0, .bool false, .bool false, .bool false, .bool false] 29 (0, 0)) (kb BK160.out) hb); have n3_ := Aside0.mk (KeepBut.trans (kp HK.out) (KeepBut.of_below hb g none) (.inl rfl)); have n4_ := Aside0.mk (below_step (bi HB.out) hb); clear HI0; clear BK160; clear HK; clear HB; have HO169 := n0_; have HI0 := n1_; have BK160 := n2_; have HK := n3_; have HB := n4_; clear n0_ n1_ n2_ n3_ n4_; clear hb ho12; obtain ⟨Ao13, co13, eo13⟩ := Kd.R_slice HO169.out; subst eo13) | ((with_reducible refine gate_callee (f := 90) rfl ?_); refine goesM_ (some 9) rfl rfl Try.func90 #[.pointer (some ⟨g, 0, none⟩), .slice Ao13 y167.length co13] ?_; (with_reducible refine (spec_l1PickInt.calls g s0_0 t165 t166 _ _ y167 t170 t171 t172 w0 _ ?side1 ?side2 ?side3 ?side4 ?side5 A4.out).mono ?_); (case side1 => exact si HI0.out); (case side2 => exact bi HB.out); (case side3 => repeat (first | exact (Kd.R_reads' HO169.out).2.2 | (with_reducible refine Kd.C_alloc ?_ _) | (with_reducible refine Kd.C_drewN ?_ _) | (with_reducible refine Kd.C_drew ?_))); (case side4 => exact (Kd.R_reads' HO169.out).2.1); (case side5 => exact far_slice (IsS86.own_ne HI0.out HO169.out (by decide))); rintro e w14 ⟨rfl, hi, hb, hk⟩; refine ⟨_, rfl, ?_⟩; have n0_ := Aside0.mk (KeepBut.blk hk (g' := gb160) (o := .cells #[.int .i64 0, .int .i64 0, .int .i64 0, .int .i64 0, .bool false, .bool false, .bool false, .bool false] 29 (0, 0)) (kb BK160.out) NB160_0.out (by simp)); have n1_ := Aside0.mk (Kd.R_mono (Kd.R_keep (IsS86.apart (show IsS86 w0 _ g s0_0 t165 t166 from si HI0.out) (kr HO169.out) (by decide)) hk (fun _ h => h.2)) (fun _ h => h.1)); have n2_ := Aside0.mk (KeepBut.trans (kp HK.out) hk (.inl rfl)); have n3_ := Aside0.mk (hb); have n4_ := Aside0.mk (hi); clear BK160; clear HO169; clear HK; clear HB; clear HI0; have BK160 := n0_; have HO169 := n1_; have HK := n2_; have HB := n3_; have HI0 := n4_; clear n0_ n1_ n2_ n3_ n4_; (try clear hb); (try clear hb2); (try clear hk); (try clear hi)) | ((with_reducible refine gate_dst (N := 11) rfl ?_); refine Kd.R_lit (Kd.int .i64) _ 3 ?hg (N := 11) ?hd (xs := ([0, 49152, 49200, 65535, 65534, 32768, 8192, 511] : List Int)) (inner := [.int .i64 0, .int .i64 49152, .int .i64 49200, .int .i64 65535, .int .i64 65534, .int .i64 32768, .int .i64 8192, .int .i64 511]) (ok := fun _ => True) (okp := fun _ => True) ?hr ?hp (fun _ hk => hk) trivial (Below.refl _ _) (Nat.le_refl _) (by simp) ?_; (case hd => rfl); (case hg => rfl); (case hr => first | (go_simp; done) | (go_simp; rfl)); (case hp => exact (Reps.one (show Kd.M (Kd.int .i64) _ _ _ 0 [.int .i64 0] from rfl) (Reps.one (show Kd.M (Kd.int .i64) _ _ _ 49152 [.int .i64 49152] from rfl) (Reps.one (show Kd.M (Kd.int .i64) _ _ _ 49200 [.int .i64 49200] from rfl) (Reps.one (show Kd.M (Kd.int .i64) _ _ _ 65535 [.int .i64 65535] from rfl) (Reps.one (show Kd.M (Kd.int .i64) _ _ _ 65534 [.int .i64 65534] from rfl) (Reps.one (show Kd.M (Kd.int .i64) _ _ _ 32768 [.int .i64 32768] from rfl) (Reps.one (show Kd.M (Kd.int .i64) _ _ _ 8192 [.int .i64 8192] from rfl) (Reps.one (show Kd.M (Kd.int .i64) _ _ _ 511 [.int .i64 511] from rfl) (Reps.none _ _)))))))))); intro v174 w15 ho16 hb hg_ hnew_; clear hg_ hnew_; (first | rw [← Ny173.out] at ho16 | (simp only [Int.reduceToNat] at ho16; rw [← Ny173.out] at ho16)); have n0_ := Aside0.mk (Kd.R_elder' (kr HO169.out) (Kd.R_base ho16) hb); have n1_ := Aside0.mk (Kd.R_lower (Kd.R_new' ho16 (Kd.R_lt (kr HO169.out))) (keep_size (w := w) (g := g) (row := none) (kp HK.out))); have n2_ := Aside0.mk (IsS86.below (si HI0.out) hb); have n3_ := Aside0.mk (blk_below (g := gb160) (o := .cells #[.int .i64 0, .int .i64 0, .int .i64 0, .int .i64 0, .bool false, .bool false, .bool false, .bool false] 29 (0, 0)) (kb BK160.out) hb); have n4_ := Aside0.mk (KeepBut.trans (kp HK.out) (KeepBut.of_below hb g none) (.inl rfl)); have n5_ := Aside0.mk (below_step (bi HB.out) hb); clear HO169; clear HI0; clear BK160; clear HK; clear HB; have HO169 := n0_; have HO175 := n1_; have HI0 := n2_; have BK160 := n3_; have HK := n4_; have HB := n5_; clear n0_ n1_ n2_ n3_ n4_ n5_; clear hb ho16; obtain ⟨Ao17, co17, eo17⟩ := Kd.R_slice HO175.out; subst eo17) | ((with_reducible refine gate_callee (f := 90) rfl ?_); refine goesM_ (some 12) rfl rfl Try.func90 #[.pointer (some ⟨g, 0, none⟩), .slice Ao17 y173.length co17] ?_; (with_reducible refine (spec_l1PickInt.calls g s0_0 t171 t172 _ _ y173 t176 t177 t178 w0 _ ?side1 ?side2 ?side3 ?side4 ?side5 A5.out).mono ?_); (case side1 => exact si HI0.out); (case side2 => exact bi HB.out); (case side3 => repeat (first | exact (Kd.R_reads' HO175.out).2.2 | (with_reducible refine Kd.C_alloc ?_ _) | (with_reducible refine Kd.C_drewN ?_ _) | (with_reducible refine Kd.C_drew ?_))); (case side4 => exact (Kd.R_reads' HO175.out).2.1); (case side5 => exact far_slice (IsS86.own_ne HI0.out HO175.out (by decide))); rintro e w18 ⟨rfl, hi, hb, hk⟩; refine ⟨_, rfl, ?_⟩; have n0_ := Aside0.mk (KeepBut.blk hk (g' := gb160) (o := .cells #[.int .i64 0, .int .i64 0, .int .i64 0, .int .i64 0, .bool false, .bool false, .bool false, .bool false] 29 (0, 0)) (kb BK160.out) NB160_0.out (by simp)); have n1_ := Aside0.mk (Kd.R_mono (Kd.R_keep (IsS86.apart (show IsS86 w0 _ g s0_0 t171 t172 from si HI0.out) (kr HO169.out) (by decide)) hk (fun _ h => h.2)) (fun _ h => h.1)); have n2_ := Aside0.mk (Kd.R_mono (Kd.R_keep (IsS86.apart (show IsS86 w0 _ g s0_0 t171 t172 from si HI0.out) (kr HO175.out) (by decide)) hk (fun _ h => h.2)) (fun _ h => h.1)); have n3_ := Aside0.mk (KeepBut.trans (kp HK.out) hk (.inl rfl)); have n4_ := Aside0.mk (hb); have n5_ := Aside0.mk (hi); clear BK160; clear HO169; clear HO175; clear HK; clear HB; clear HI0; have BK160 := n0_; have HO169 := n1_; have HO175 := n2_; have HK := n3_; have HB := n4_; have HI0 := n5_; clear n0_ n1_ n2_ n3_ n4_ n5_; (try clear hb); (try clear hb2); (try clear hk); (try clear hi)) | ((with_reducible refine gate_callee (f := 89) rfl ?_); refine goesM_ (some 15) rfl rfl Try.func89 #[.pointer (some ⟨g, 0, none⟩), .int .i64 256] ?_; (with_reducible refine (spec_l1Below.calls g s0_0 t177 t178 256 t179 t180 t181 w0 _ ?side1 ?side2 A6.out).mono ?_); (case side1 => exact si HI0.out); (case side2 => exact bi HB.out); rintro e w19 ⟨rfl, hi, hb, hk⟩; refine ⟨_, rfl, ?_⟩; have n0_ := Aside0.mk (KeepBut.blk hk (g' := gb160) (o := .cells #[.int .i64 0, .int .i64 0, .int .i64 0, .int .i64 0, .bool false, .bool false, .bool false, .bool false] 29 (0, 0)) (kb BK160.out) NB160_0.out (by simp)); have n1_ := Aside0.mk (Kd.R_mono (Kd.R_keep (IsS86.apart (show IsS86 w0 _ g s0_0 t177 t178 from si HI0.out) (kr HO169.out) (by decide)) hk (fun _ h => h.2)) (fun _ h => h.1)); have n2_ := Aside0.mk (Kd.R_mono (Kd.R_keep (IsS86.apart (show IsS86 w0 _ g s0_0 t177 t178 from si HI0.out) (kr HO175.out) (by decide)) hk (fun _ h => h.2)) (fun _ h => h.1)); have n3_ := Aside0.mk (KeepBut.trans (kp HK.out) hk (.inl rfl)); have n4_ := Aside0.mk (hb); have n5_ := Aside0.mk (hi); clear BK160; clear HO169; clear HO175; clear HK; clear HB; clear HI0; have BK160 := n0_; have HO169 := n1_; have HO175 := n2_; have HK := n3_; have HB := n4_; have HI0 := n5_; clear n0_ n1_ n2_ n3_ n4_ n5_; (try clear hb); (try clear hb2); (try clear hk); (try clear hi)) | ((with_reducible refine gate_callee (f := 27) rfl ?_); refine goesM_ (some 16) rfl rfl Try.func27 #[.agg #[.int .i64 t161, .int .i64 t164, .int .i64 t170, .int .i64 t176, .bool false, .bool false, .bool false, .bool false], .int .i64 t179] ?_; (with_reducible refine (spec_WithFlags.calls t161 t164 t170 t176 false false false false t179 t182 t183 t184 t185 t186 t187 t188 t189 _ A7.out).mono ?_); rintro e w20 ⟨rfl, hb⟩; refine ⟨_, rfl, ?_⟩; have n0_ := Aside0.mk (Kd.R_below (kr HO169.out) hb); have n1_ := Aside0.mk (Kd.R_below (kr HO175.out) hb); have n2_ := Aside0.mk (IsS86.below (si HI0.out) hb); have n3_ := Aside0.mk (blk_below (g := gb160) (o := .cells #[.int .i64 0, .int .i64 0, .int .i64 0, .int .i64 0, .bool false, .bool false, .bool false, .bool false] 29 (0, 0)) (kb BK160.out) hb); have n4_ := Aside0.mk (KeepBut.trans (kp HK.out) (KeepBut.of_below hb g none) (.inl rfl)); have n5_ := Aside0.mk (below_step (bi HB.out) hb); clear HO169; clear HO175; clear HI0; clear BK160; clear HK; clear HB; have HO169 := n0_; have HO175 := n1_; have HI0 := n2_; have BK160 := n3_; have HK := n4_; have HB := n5_; clear n0_ n1_ n2_ n3_ n4_ n5_; (try clear hb); (try clear hb2); (try clear hk); (try clear hi); have hnb21 := NB160_0.out; have hnc21 := NB0_160.out; have hcz22_0 : w20.cell? ⟨gb160, 0, none⟩ = some (.int .i64 0) := (blk_cell BK160.out 0).trans rfl; have hcz22_1 : w20.cell? ⟨gb160, 1, none⟩ = some (.int .i64 0) := (blk_cell BK160.out 1).trans rfl; have hcz22_2 : w20.cell? ⟨gb160, 2, none⟩ = some (.int .i64 0) := (blk_cell BK160.out 2).trans rfl; have hcz22_3 : w20.cell? ⟨gb160, 3, none⟩ = some (.int .i64 0) := (blk_cell BK160.out 3).trans rfl; have hcz22_4 : w20.cell? ⟨gb160, 4, none⟩ = some (.bool false) := (blk_cell BK160.out 4).trans rfl; have hcz22_5 : w20.cell? ⟨gb160, 5, none⟩ = some (.bool false) := (blk_cell BK160.out 5).trans rfl; have hcz22_6 : w20.cell? ⟨gb160, 6, none⟩ = some (.bool false) := (blk_cell BK160.out 6).trans rfl; have hcz22_7 : w20.cell? ⟨gb160, 7, none⟩ = some (.bool false) := (blk_cell BK160.out 7).trans rfl; have hfz22_0 := blk_frozen BK160.out 0; have hfz22_1 := blk_frozen BK160.out 1; have hfz22_2 := blk_frozen BK160.out 2; have hfz22_3 := blk_frozen BK160.out 3; have hfz22_4 := blk_frozen BK160.out 4; have hfz22_5 := blk_frozen BK160.out 5; have hfz22_6 := blk_frozen BK160.out 6; have hfz22_7 := blk_frozen BK160.out 7))
 refine bodyPost_ret (results_cell_row rfl _ _ gb160 29 #[.int .i64 t182, .int .i64 t183, .int .i64 t184, .int .i64 t185, .bool t186, .bool t187, .bool t188, .bool t189] (0, 0) _ rfl (by (with_reducible repeat (first | refine blk_drewN ?_ _ | refine blk_drew ?_ | refine blk_alloc ?_ _)); refine blk_put (cs := #[.int .i64 t182, .int .i64 t183, .int .i64 t184, .int .i64 t185, .bool t186, .bool t187, .bool t188, .bool false]) ?_ 7 _ rfl; (with_reducible repeat (first | refine blk_drewN ?_ _ | refine blk_drew ?_ | refine blk_alloc ?_ _)); refine blk_put (cs := #[.int .i64 t182, .int .i64 t183, .int .i64 t184, .int .i64 t185, .bool t186, .bool t187, .bool false, .bool false]) ?_ 6 _ rfl; (with_reducible repeat (first | refine blk_drewN ?_ _ | refine blk_drew ?_ | refine blk_alloc ?_ _)); refine blk_put (cs := #[.int .i64 t182, .int .i64 t183, .int .i64 t184, .int .i64 t185, .bool t186, .bool false, .bool false, .bool false]) ?_ 5 _ rfl; (with_reducible repeat (first | refine blk_drewN ?_ _ | refine blk_drew ?_ | refine blk_alloc ?_ _)); refine blk_put (cs := #[.int .i64 t182, .int .i64 t183, .int .i64 t184, .int .i64 t185, .bool false, .bool false, .bool false, .bool false]) ?_ 4 _ rfl; (with_reducible repeat (first | refine blk_drewN ?_ _ | refine blk_drew ?_ | refine blk_alloc ?_ _)); refine blk_put (cs := #[.int .i64 t182, .int .i64 t183, .int .i64 t184, .int .i64 0, .bool false, .bool false, .bool false, .bool false]) ?_ 3 _ rfl; (with_reducible repeat (first | refine blk_drewN ?_ _ | refine blk_drew ?_ | refine blk_alloc ?_ _)); refine blk_put (cs := #[.int .i64 t182, .int .i64 t183, .int .i64 0, .int .i64 0, .bool false, .bool false, .bool false, .bool false]) ?_ 2 _ rfl; (with_reducible repeat (first | refine blk_drewN ?_ _ | refine blk_drew ?_ | refine blk_alloc ?_ _)); refine blk_put (cs := #[.int .i64 t182, .int .i64 0, .int .i64 0, .int .i64 0, .bool false, .bool false, .bool false, .bool false]) ?_ 1 _ rfl; (with_reducible repeat (first | refine blk_drewN ?_ _ | refine blk_drew ?_ | refine blk_alloc ?_ _)); refine blk_put (cs := #[.int .i64 0, .int .i64 0, .int .i64 0, .int .i64 0, .bool false, .bool false, .bool false, .bool false]) ?_ 0 _ rfl; (with_reducible repeat (first | refine blk_drewN ?_ _ | refine blk_drew ?_ | refine blk_alloc ?_ _)); exact BK160.out) Try.underlying29 rfl (by kernel_rfl)) rfl ?_
 exact ⟨rt, si HI0.out, bi HB.out, kp HK.out⟩

end Go.Proofs.Ytcdfkemhigmnlaa.MFnFlags
