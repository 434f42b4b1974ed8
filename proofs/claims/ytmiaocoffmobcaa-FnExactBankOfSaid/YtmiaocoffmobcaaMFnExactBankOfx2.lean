/- Walks of functions that the law FnExactBankOf reaches: each comes to just what its Lean function says. (Begun as the texts that print.sh wrote for this claim; some of them, and those that it does not write, are mine.) No condition. -/
import Derived.Test.YtmiaocoffmobcaaMFnExactBankOfx1
namespace Go.Proofs.Ytmiaocoffmobcaa.MFnExactBankOf
open Go.RowKit Go.Proofs.YtmiaocoffmobcaaW.PrintWords Go.Proofs.YtmiaocoffmobcaaW.PrintLast Go.Proofs.YtmiaocoffmobcaaW.PrintMore
attribute [local go_sem] max2_int min2_int max_two min_two max_three min_three max_four min_four   -- for this text's walks alone
set_option linter.unusedVariables false
set_option linter.unusedSimpArgs false

/-! ### laws_markIntS: function 35 -/
def laws_markIntS.l0 : Nat → List Int → Int → Int → Option (Int × List Int)
  | 0, _, _, _ => none
  | k + 1, x0, x1, x5 => if x5 < (x0.length : Int) then (if 0 ≤ x5 then (laws_markIntS.l0 k (x0.set (x5 : Int).toNat x1) (wrap64 (x1 + 1)) (wrap64 (x5 + 1))) else (none)) else (some (x1, x0))
def laws_markIntS.f (k : Nat) (l0 : List Int) (a1 : Int) : Option (Int × List Int) := laws_markIntS.l0 k l0 a1 0
theorem laws_markIntS.mono_l : ∀ k, (∀ y0 y1 y2, LeO (laws_markIntS.l0 k y0 y1 y2) (laws_markIntS.l0 (k + 1) y0 y1 y2))
  | 0 => fun _ _ _ r h => by simp [laws_markIntS.l0] at h
  | k + 1 => by
    have ih0 := laws_markIntS.mono_l k
    · intro y0 y1 y2
      unfold laws_markIntS.l0
      repeat' first
      | (with_reducible exact ih0 _ _ _)
      | (with_reducible exact LeO.refl _)
      | (with_reducible exact LeO.none _)
      | (with_reducible refine LeO.ite ?_ ?_)
      | (with_reducible refine LeO.bind ?_ (fun _ => ?_))
      | exact ih0 _ _ _
      | exact LeO.none _
      | refine LeO.ite ?_ ?_
      | refine LeO.bind ?_ (fun _ => ?_)
theorem laws_markIntS.mono : ∀ a0 a1 k, LeO (laws_markIntS.f k a0 a1) (laws_markIntS.f (k + 1) a0 a1) := by
  intro a0 a1 k
  have ih0 := laws_markIntS.mono_l k
  unfold laws_markIntS.f
  repeat' first
      | (with_reducible exact ih0 _ _ _)
      | (with_reducible exact LeO.refl _)
      | (with_reducible exact LeO.none _)
      | (with_reducible refine LeO.ite ?_ ?_)
      | (with_reducible refine LeO.bind ?_ (fun _ => ?_))
      | exact ih0 _ _ _
      | exact LeO.none _
      | refine LeO.ite ?_ ?_
      | refine LeO.bind ?_ (fun _ => ?_)
set_option maxHeartbeats 8000000 in
set_option maxRecDepth 100000 in
theorem laws_markIntS.calls (k : Nat) (P0_ : Nat → Prop) (u9000_ : Value) (l0 : List Int) (a1 : Int) (r1 : Int) (r2 : List Int) (w0 w : World) (hB : Below w0.heap.size w0 w) (ho0 : Kd.R (Kd.int .i64) 3 w w0.heap.size P0_ u9000_ l0) (h : laws_markIntS.f k l0 a1 = some (r1, r2)) :
    Calls Try.prog 35 #[u9000_, .int .i64 a1] w fun e w' => e = .returned (.int .i64 r1) ∧ Kd.R (Kd.int .i64) 3 w' w0.heap.size (fun k_ => (P0_ k_ ∨ w.heap.size ≤ k_)) u9000_ r2 ∧ Below w0.heap.size w0 w' ∧ Kept w w' (fun k_ => P0_ k_) := by
  have HO0 := Aside0.mk (show Kd.R (Kd.int .i64) 3 w w0.heap.size (fun k_ => (P0_ k_ ∨ w.heap.size ≤ k_)) u9000_ l0 from Kd.R_mono ho0 (fun k_ hk => (.inl hk)))
  have HK := Aside0.mk (Kept.refl w (fun k_ => P0_ k_))
  have HW0 := Aside0.mk hB.size
  have HB := Aside0.mk hB
  clear hB
  have H : (laws_markIntS.l0 k l0 a1 0) = some (r1, r2) := h
  clear h
  have H' := Aside0.mk H
  clear H
  go_enter Try.func35, Try.ntmps35
  go_wp2
  go_loopg [1, 5] k (fun kq v1 v5 w' => ∃ (x0_1 : List Int) (x1_1 : Int) (x5_1 : Int), v1 = .int .i64 x1_1 ∧ v5 = .int .i64 x5_1 ∧ Aside0 (laws_markIntS.l0 kq x0_1 x1_1 x5_1 = some (r1, r2)) ∧ Aside0 (kq ≤ k) ∧ Aside0 (Kd.R (Kd.int .i64) 3 w' w0.heap.size (fun k_ => (P0_ k_ ∨ w.heap.size ≤ k_)) u9000_ x0_1) ∧ Aside0 (Kept w w' (fun k_ => P0_ k_)) ∧ Aside0 (Below w0.heap.size w0 w'))
  case atStart => exact ⟨(l0), (a1), (0), (by first | rfl | (simp; done) | (simp [*]; done)), (by first | rfl | (simp; done) | (simp [*]; done)), H', ⟨Nat.le_refl _⟩, ⟨by (with_reducible repeat (first | apply Kd.R_alloc | apply Kd.R_drewN | apply Kd.R_drew)); exact HO0.out⟩, ⟨by repeat (first | (with_reducible first | exact HK.out | apply Kept.alloc | apply Kept.drewN | apply Kept.drew) | exact HK.out)⟩, ⟨by repeat (first | (with_reducible first | exact HB.out | apply below_alloc | apply pw_below_drewN | apply below_drew1) | exact HB.out)⟩⟩
  case round =>
    clear H'
    try clear p2
    obtain ⟨x0_1, x1_1, x5_1, rfl, rfl, HA, HK1, HO_0, HK, HB⟩ := hrel
    cases gk with
    | zero => exact absurd HA.out (by simp [laws_markIntS.l0])
    | succ k1 =>
      have H := HA.out
      clear HA
      simp only [laws_markIntS.l0] at H
      by_cases c3 : x5_1 < (x0_1.length : Int)
      · rw [if_pos c3] at H
        have c3b0 : decide (x5_1 < (x0_1.length : Int)) = true := decide_eq_true c3
        clear c3
        by_cases c4 : 0 ≤ x5_1
        · rw [if_pos c4] at H
          have c4b0 : decide (0 ≤ x5_1) = true := decide_eq_true c4
          clear c4
          obtain ⟨y172, hy172⟩ : ∃ y_ : List Int, y_ = (x0_1.set (x5_1 : Int).toNat x1_1) := ⟨_, rfl⟩
          replace H : (laws_markIntS.l0 k1 y172 (wrap64 (x1_1 + 1)) (wrap64 (x5_1 + 1))) = some (r1, r2) := by first | (rw [hy172]; with_reducible exact H) | (have H2_ := (Option.bind_some _ _).symm.trans H; rw [hy172]; with_reducible exact H2_) | (have H2_ := (Option.bind_some _ _).symm.trans H; with_reducible exact H2_) | with_reducible exact H | (rw [hy172]; exact H) | exact H
          have Ny172 := Aside0.mk hy172
          clear hy172
          have H' := Aside0.mk H
          clear H
          obtain ⟨Ao6, co6, eo6⟩ := Kd.R_slice HO_0.out
          subst eo6
          have p5 : 0 ≤ (x5_1 : Int) := of_decide_eq_true (by first | (with_reducible assumption) | assumption)
          have q5 : (x5_1 : Int) < ((x0_1.length : Int) : Int) := of_decide_eq_true (by first | (with_reducible assumption) | assumption)
          obtain ⟨go5, co5, eo5, gb5, gl5, cl5, HG5⟩ := Kd.R_form HO_0.out (by omega)
          (first | cases eo5 | (injection eo5 with ea_ en_ ec_; (first | subst ea_ | (injection ea_ with ea_; subst ea_)); subst ec_; clear en_))
          have GB5 := Aside0.mk gb5
          have GG5 := Aside0.mk HG5
          clear gb5 gl5 HG5
          have HMgo5 := Aside0.mk (show (P0_ go5 ∨ w.heap.size ≤ go5) from (HO_0.out.1 _ rfl))
          obtain ⟨hx5_0, hf5_0⟩ := Kd.R_celln 0 HO_0.out (x5_1 : Int) p5 q5
          replace p5 := eq_true p5
          replace q5 := eq_true q5
          have HP7 := Kd.R_putg HO_0.out (x5_1 : Int) x1_1
          go_wp2_with (first | ((with_reducible refine gate_store (t := 3) (p := 15) rfl ?_); refine store_event (t := 3) (p := 15) (v := ?vo_w8) (w1 := (wr.setCell ⟨go5, (x5_1 : Int).toNat, none⟩ (.int .i64 x1_1))) ?hg ?ho ?hn ?hr ?_; (case ho => rfl); (case hg => rfl); (case hn => rfl); (case hr => first | (go_simp; done) | (go_simp; rfl)); intro w8 hw; have hg : wr.grownBy w8 (some go5) := (by rw [hw]; exact HP7.2); have hp_ : Kd.R (Kd.int .i64) 3 w8 w0.heap.size (fun k_ => (P0_ k_ ∨ w.heap.size ≤ k_)) (.slice (some ⟨go5, 0, none⟩) x0_1.length co6) y172 := (by rw [hw, Ny172.out]; exact HP7.1); clear HP7; have n0_ := Aside0.mk (hp_); have n1_ := Aside0.mk ((by rw [hw]; exact below_set (HB.out) GB5.out : Below w0.heap.size w0 w8)); have n2_ := Aside0.mk (Kept.of_grown (S := (fun k_ => P0_ k_)) hg (by repeat (first | (with_reducible first | exact HK.out | apply Kept.alloc | apply Kept.drewN | apply Kept.drew) | exact HK.out)) (fun k_ e_ => (HO_0.out.1 k_ e_))); clear HO_0; clear HB; clear HK; have HO_0 := n0_; have HB := n1_; have HK := n2_; clear n0_ n1_ n2_; clear hg hw hp_))
          go_roundg k1
          case measure => have := HK1.out; omega
          case rel => exact ⟨(y172), (wrap64 (x1_1 + 1)), (wrap64 (x5_1 + 1)), (by first | rfl | (simp; done) | (simp [*]; done)), (by first | rfl | (simp; done) | (simp [*]; done)), H', ⟨by have := HK1.out; omega⟩, ⟨by (with_reducible repeat (first | apply Kd.R_alloc | apply Kd.R_drewN | apply Kd.R_drew)); exact HO_0.out⟩, ⟨by repeat (first | (with_reducible first | exact HK.out | apply Kept.alloc | apply Kept.drewN | apply Kept.drew) | exact HK.out)⟩, ⟨by repeat (first | (with_reducible first | exact HB.out | apply below_alloc | apply pw_below_drewN | apply below_drew1) | exact HB.out)⟩⟩
        · rw [if_neg c4] at H
          exact absurd H (by simp)
      · rw [if_neg c3] at H
        have c3b0 : decide (x5_1 < (x0_1.length : Int)) = false := decide_eq_false c3
        clear c3
        simp only [Option.some.injEq, Prod.mk.injEq] at H
        obtain ⟨rfl, rfl⟩ := H
        obtain ⟨Ao9, co9, eo9⟩ := Kd.R_slice HO_0.out
        subst eo9
        go_wp2
        go_ret
        exact ⟨by first | rfl | (simp [errW_none, errW_some] <;> rfl) | (simp [*, errW_none, errW_some] <;> rfl), by (with_reducible repeat (first | apply Kd.R_alloc | apply Kd.R_drewN | apply Kd.R_drew)); exact HO_0.out, by repeat (first | (with_reducible first | exact HB.out | apply below_alloc | apply pw_below_drewN | apply below_drew1) | exact HB.out), by repeat (first | (with_reducible first | exact HK.out | apply Kept.alloc | apply Kept.drewN | apply Kept.drew) | exact HK.out)⟩

-- NOT PRINTED: function 76 (laws_markIntSS)

-- NOT PRINTED: function 34 (laws_markImage)

/-! ### laws_markIntSS (mine) -/
def laws_markIntSS.l0 : Nat → List (List Int) → Int → Int → Option (Int × List (List Int))
  | 0, _, _, _ => none
  | k + 1, x0, x1, x5 => if x5 < (x0.length : Int) then (if 0 ≤ x5 then ((laws_markIntS.f k (x0.getD x5.toNat []) x1).bind fun q => laws_markIntSS.l0 k (x0.set x5.toNat q.2) q.1 (wrap64 (x5 + 1))) else none) else some (x1, x0)
def laws_markIntSS.f (k : Nat) (l0 : List (List Int)) (a1 : Int) : Option (Int × List (List Int)) := laws_markIntSS.l0 k l0 a1 0
set_option maxHeartbeats 8000000 in
set_option maxRecDepth 100000 in
theorem laws_markIntSS.calls (k : Nat) (P0_ : Nat → Prop) (u9000_ : Value) (l0 : List (List Int)) (a1 : Int) (r1 : Int) (r2 : List (List Int)) (w0 w : World) (hB : Below w0.heap.size w0 w) (ho0 : Kd.S (Kd.slice 3 (Kd.int .i64)) 31 w w0.heap.size P0_ u9000_ l0) (h : laws_markIntSS.f k l0 a1 = some (r1, r2)) :
    Calls Try.prog 76 #[u9000_, .int .i64 a1] w fun e w' => e = .returned (.int .i64 r1) ∧ Kd.S (Kd.slice 3 (Kd.int .i64)) 31 w' w0.heap.size P0_ u9000_ r2 ∧ Below w0.heap.size w0 w' ∧ Kept w w' P0_ := by
  have HO0 := Aside0.mk ho0
  have HK := Aside0.mk (Kept.refl w P0_)
  have HB := Aside0.mk hB
  clear hB ho0
  have H' := Aside0.mk (show laws_markIntSS.l0 k l0 a1 0 = some (r1, r2) from h)
  clear h
  go_enter Try.func76, Try.ntmps76
  go_wp2
  go_loopg [1, 5] k (fun kq v1 v5 w' => ∃ (x0_1 : List (List Int)) (x1_1 : Int) (x5_1 : Int), v1 = .int .i64 x1_1 ∧ v5 = .int .i64 x5_1 ∧ Aside0 (laws_markIntSS.l0 kq x0_1 x1_1 x5_1 = some (r1, r2)) ∧ Aside0 (kq ≤ k) ∧ Aside0 (Kd.S (Kd.slice 3 (Kd.int .i64)) 31 w' w0.heap.size P0_ u9000_ x0_1) ∧ Aside0 (Kept w w' P0_) ∧ Aside0 (Below w0.heap.size w0 w'))
  case atStart => exact ⟨l0, a1, 0, by first | rfl | (simp; done), by first | rfl | (simp; done), H', ⟨Nat.le_refl _⟩, ⟨by (with_reducible repeat (first | apply Kd.S_alloc | apply Kd.S_drewN | apply Kd.S_drew)); exact HO0.out⟩, ⟨by repeat (first | exact HK.out | apply Kept.alloc | apply Kept.drewN | apply Kept.drew)⟩, ⟨by repeat (first | exact HB.out | apply below_alloc | apply pw_below_drewN | apply below_drew1)⟩⟩
  case round =>
    clear H'
    try clear p2
    obtain ⟨x0_1, x1_1, x5_1, rfl, rfl, HA, HK1, HO_0, HK, HB⟩ := hrel
    cases gk with
    | zero => exact absurd HA.out (by simp [laws_markIntSS.l0])
    | succ k1 =>
      have H := HA.out
      clear HA
      simp only [laws_markIntSS.l0] at H
      by_cases c3 : x5_1 < (x0_1.length : Int)
      · rw [if_pos c3] at H
        have c3b0 : decide (x5_1 < (x0_1.length : Int)) = true := decide_eq_true c3
        by_cases c4 : 0 ≤ x5_1
        · rw [if_pos c4] at H
          obtain ⟨⟨q1, q2⟩, hq, H2⟩ := Option.bind_eq_some_iff.mp H
          clear H
          have Hq := Aside0.mk hq
          have H' := Aside0.mk H2
          clear hq H2
          obtain ⟨g, cap, eu, hbg, hgl, cl, hgc⟩ := Kd.S_form HO_0.out (by omega)
          subst eu
          obtain ⟨oki, c, hcl, hM, hcc, hoki, hH⟩ := Kd.S_lend HO_0.out [] x5_1 c4 c3
          obtain ⟨v, rfl, hR⟩ := hM
          have hx : wr.cell? ⟨g, x5_1.toNat, none⟩ = some v := by
            have h := hcc 0 v rfl
            rw [show (Kd.slice 3 (Kd.int .i64)).sz = 1 from rfl, Nat.mul_one] at h
            exact h
          have HR := Aside0.mk hR
          have HH := Aside0.mk hH
          have HI := Aside0.mk hoki
          have p5 := eq_true c4
          have q5 := eq_true c3
          clear c3 c4 hR hH hoki hcc hcl hgc hbg
          go_wp2_with fail
          refine (laws_markIntS.calls k1 oki v _ x1_1 q1 q2 w0 _ HB.out HR.out Hq.out).mono ?_
          rintro e w2 ⟨rfl, hR2, hb2, hk2⟩
          have HS := Aside0.mk (Kd.H_back (Kd.H_step HH.out (fun k _ hn hlt => hk2.2 k hlt hn)) (x' := q2) ⟨v, rfl, Kd.R_flat (fun h => h) hR2 (fun k hk _ => HR.out.1 k hk)⟩ (fun _ hk => hk))
          have HK' := Aside0.mk (HK.out.then_ hk2 (fun k hk => .inl (HI.out k hk).1))
          have HB' := Aside0.mk hb2
          clear HK HB HR HH HI hR2 hb2 hk2 hx HO_0
          go_wp2
          go_roundg k1
          case measure => have := HK1.out; omega
          case rel => exact ⟨_, q1, wrap64 (x5_1 + 1), by first | rfl | (simp; done) | (simp [*]; done), by first | rfl | (simp; done) | (simp [*]; done), H', ⟨by have := HK1.out; omega⟩, ⟨by (with_reducible repeat (first | apply Kd.S_alloc | apply Kd.S_drewN | apply Kd.S_drew)); exact HS.out⟩, ⟨by repeat (first | exact HK'.out | apply Kept.alloc | apply Kept.drewN | apply Kept.drew)⟩, ⟨by repeat (first | exact HB'.out | apply below_alloc | apply pw_below_drewN | apply below_drew1)⟩⟩
        · rw [if_neg c4] at H
          exact absurd H (by simp)
      · rw [if_neg c3] at H
        have c3b0 : decide (x5_1 < (x0_1.length : Int)) = false := decide_eq_false c3
        clear c3
        simp only [Option.some.injEq, Prod.mk.injEq] at H
        obtain ⟨rfl, rfl⟩ := H
        obtain ⟨Ao9, co9, eo9⟩ := Kd.S_slice HO_0.out
        subst eo9
        go_wp2
        go_ret
        exact ⟨rfl, by (with_reducible repeat (first | apply Kd.S_alloc | apply Kd.S_drewN | apply Kd.S_drew)); exact HO_0.out, by repeat (first | exact HB.out | apply below_alloc | apply pw_below_drewN | apply below_drew1), by repeat (first | exact HK.out | apply Kept.alloc | apply Kept.drewN | apply Kept.drew)⟩

/-! ### laws_markImage (mine) -/
set_option maxHeartbeats 2000000 in
set_option maxRecDepth 100000 in
theorem laws_markImage.calls (k : Nat) (P0_ : Nat → Prop) (u9000_ : Value) (l0 : List (List Int)) (a1 : Int) (r1 : Int) (r2 : List (List Int)) (w0 w : World) (hB : Below w0.heap.size w0 w) (ho0 : Kd.S (Kd.slice 3 (Kd.int .i64)) 31 w w0.heap.size P0_ u9000_ l0) (h : laws_markIntSS.f k l0 a1 = some (r1, r2)) :
    Calls Try.prog 34 #[.agg #[u9000_], .int .i64 a1] w fun e w' => e = .returned (.int .i64 r1) ∧ Kd.S (Kd.slice 3 (Kd.int .i64)) 31 w' w0.heap.size P0_ u9000_ r2 ∧ Below w0.heap.size w0 w' ∧ Kept w w' P0_ := by
  have hu27 := Try.underlying27
  obtain ⟨A, c, rfl⟩ := Kd.S_slice ho0
  have HO0 := Aside0.mk ho0
  have HB := Aside0.mk hB
  have H := Aside0.mk h
  clear hB ho0 h
  go_enter Try.func34, Try.ntmps34
  go_wp2_with fail
  refine (laws_markIntSS.calls k P0_ (.slice A l0.length c) l0 a1 r1 r2 w0 _ ?hb ?ho H.out).mono ?_
  case hb => exact below_alloc HB.out _
  case ho => exact Kd.S_alloc HO0.out _
  rintro e w2 ⟨rfl, hS, hb, hk⟩
  have hk' : Kept w w2 P0_ := (Kept.alloc (Kept.refl w P0_) _).then_ hk (fun k hk => .inl hk)
  go_wp2
  go_ret
  exact ⟨rfl, hS, hb, hk'⟩

/-! ### img_pairs (mine) -/
theorem heap_drew (w : World) (k : Nat) : w.drew.heap[k]? = w.heap[k]? := rfl
theorem alloc_size (w : World) (o : Obj) : (w.alloc o).heap.size = w.heap.size + 1 := by
  show (w.heap.push o).size = _
  simp
theorem alloc_at (w : World) (o : Obj) (g : Nat) (h : g = w.heap.size) : (w.alloc o).heap[g]? = some o := by
  subst h
  exact blk_new w o
/-- The box of the law's image, at the call's first block. -/
structure ArgI (w W : World) (a : Array Value) : Prop where
  below : Below w.heap.size w W
  fst : W.heap[w.heap.size]? = some (.cells a 24 (0, 0))
theorem ArgI.kept {w W W' : World} {a : Array Value} {S : Nat → Prop} (h : ArgI w W a) (hk : Kept W W' S) (hb : Below w.heap.size w W') (hS : ∀ k, k < w.heap.size + 1 → ¬ S k) : ArgI w W' a :=
  ⟨hb, blk_kept h.fst hk (hS _ (by omega))⟩
/-- A row of the call's own between two heights. -/
structure RowB (w W : World) (A : Option Addr) (c : Nat) (xs : List Int) (lo hi : Nat) : Prop where
  row : Kd.R (Kd.int .i64) 3 W w.heap.size (fun k => lo ≤ k ∧ k < hi) (.slice A xs.length c) xs
theorem RowB.kept {w W W' : World} {A : Option Addr} {c : Nat} {xs : List Int} {lo hi : Nat} {S : Nat → Prop} (h : RowB w W A c xs lo hi) (hk : Kept W W' S) (hS : ∀ k, lo ≤ k → k < hi → ¬ S k) : RowB w W' A c xs lo hi :=
  ⟨Kd.R_kept h.row hk (fun k hk => hS k hk.1 hk.2)⟩
theorem RowB.made {w W1 W : World} {A : Option Addr} {c : Nat} {xs : List Int} (hB : Below w.heap.size w W1) (hR : Kd.R (Kd.int .i64) 3 W W1.heap.size (fun _ => True) (.slice A xs.length c) xs) : RowB w W A c xs W1.heap.size W.heap.size :=
  ⟨Kd.R_lower (Kd.R_mono (Kd.R_bound hR) (fun k hk => ⟨hk.2.1, hk.2.2.1⟩)) hB.size⟩
/-- A row of the call's own that is read only. -/
structure RowO (w W : World) (A : Option Addr) (c : Nat) (xs : List Int) : Prop where
  row : ∃ ok, Kd.R (Kd.int .i64) 3 W w.heap.size ok (.slice A xs.length c) xs
theorem RowO.kept {w W W' : World} {A : Option Addr} {c : Nat} {xs : List Int} {S : Nat → Prop} (h : RowO w W A c xs) (hk : Kept W W' S) (hS : ∀ k : Nat, True → True → ¬ S k) : RowO w W' A c xs := by
  obtain ⟨ok, hr⟩ := h.row
  exact ⟨ok, Kd.R_kept hr hk (fun k _ => hS k trivial trivial)⟩
theorem RowO.reads {w W : World} {A : Option Addr} {c : Nat} {xs : List Int} (h : RowO w W A c xs) : xs.length ≤ c ∧ Kd.C (Kd.int .i64) W A xs.length xs := by
  obtain ⟨ok, hr⟩ := h.row
  obtain ⟨_, h1, h2⟩ := Kd.R_reads' hr
  exact ⟨h1, h2⟩
/-- An image of the call's own in a block of its own. -/
structure ImgB (w W : World) (g : Nat) (A : Option Addr) (c : Nat) (xs : List (List Int)) (lo hi : Nat) : Prop where
  img : W.heap[g]? = some (.cells #[.slice A xs.length c] 27 (0, 0))
  row : Kd.S (Kd.slice 3 (Kd.int .i64)) 31 W w.heap.size (fun k => lo ≤ k ∧ k < hi ∧ k ≠ g) (.slice A xs.length c) xs
  h1 : lo ≤ g ∧ g < hi
theorem ImgB.kept {w W W' : World} {g : Nat} {A : Option Addr} {c : Nat} {xs : List (List Int)} {lo hi : Nat} {S : Nat → Prop} (h : ImgB w W g A c xs lo hi) (hk : Kept W W' S) (hS : ∀ k, lo ≤ k → k < hi → ¬ S k) : ImgB w W' g A c xs lo hi :=
  ⟨blk_kept h.img hk (hS _ h.h1.1 h.h1.2), Kd.S_kept h.row hk (fun k hk => hS k hk.1 hk.2.1), h.h1⟩
theorem ImgB.made {w W1 W : World} {g : Nat} {A : Option Addr} {c : Nat} {xs : List (List Int)} (hB : Below w.heap.size w W1) (hR : Kd.S (Kd.slice 3 (Kd.int .i64)) 31 W W1.heap.size (fun _ => True) (.slice A xs.length c) xs)
    (hb : W.heap[g]? = some (.cells #[.slice A xs.length c] 27 (0, 0))) (hg : W1.heap.size ≤ g) : ImgB w W g A c xs W1.heap.size W.heap.size :=
  ⟨hb, Kd.S_mono (Kd.S_types (Kd.S_lower (Kd.S_mono (Kd.S_bound hR) (fun k hk => show W1.heap.size ≤ k ∧ k < W.heap.size from ⟨hk.2.1, hk.2.2.1⟩)) hB.size) hb (by decide)) (fun k hk => ⟨hk.1.1, hk.1.2, hk.2⟩), ⟨hg, blk_lt hb⟩⟩
theorem ImgB.reads {w W : World} {g : Nat} {A : Option Addr} {c : Nat} {xs : List (List Int)} {lo hi : Nat} (h : ImgB w W g A c xs lo hi) : xs.length ≤ c ∧ Kd.C (Kd.slice 3 (Kd.int .i64)) W A xs.length xs := by
  obtain ⟨_, h1, h2⟩ := Kd.S_reads' h.row
  exact ⟨h1, h2⟩
theorem kept_drew {W W' : World} (h : Drawn0 W W') : Below W.heap.size W W' := by
  obtain ⟨n, rfl⟩ := h
  exact pw_below_drewN (Below.refl _ _) n
theorem stop_ {p : Prop} (h : Aside0 p) : p := h.out

/-! ### laws_heldIntS: function 36 -/
def laws_heldIntS.l0 : Nat → List Int → Int → Int → Option (Int)
  | 0, _, _, _ => none
  | k + 1, x0, x1, x5 => if x5 < (x0.length : Int) then (if 0 ≤ x5 then (if (rd x0 x5) = x1 then (laws_heldIntS.l0 k x0 (wrap64 (x1 + 1)) (wrap64 (x5 + 1))) else (some (-1))) else (none)) else (some x1)
def laws_heldIntS.f (k : Nat) (l0 : List Int) (a1 : Int) : Option (Int) := laws_heldIntS.l0 k l0 a1 0
theorem laws_heldIntS.mono_l : ∀ k, (∀ y0 y1 y2, LeO (laws_heldIntS.l0 k y0 y1 y2) (laws_heldIntS.l0 (k + 1) y0 y1 y2))
  | 0 => fun _ _ _ r h => by simp [laws_heldIntS.l0] at h
  | k + 1 => by
    have ih0 := laws_heldIntS.mono_l k
    · intro y0 y1 y2
      unfold laws_heldIntS.l0
      repeat' first
      | (with_reducible exact ih0 _ _ _)
      | (with_reducible exact LeO.refl _)
      | (with_reducible exact LeO.none _)
      | (with_reducible refine LeO.ite ?_ ?_)
      | (with_reducible refine LeO.bind ?_ (fun _ => ?_))
      | exact ih0 _ _ _
      | exact LeO.none _
      | refine LeO.ite ?_ ?_
      | refine LeO.bind ?_ (fun _ => ?_)
theorem laws_heldIntS.mono : ∀ a0 a1 k, LeO (laws_heldIntS.f k a0 a1) (laws_heldIntS.f (k + 1) a0 a1) := by
  intro a0 a1 k
  have ih0 := laws_heldIntS.mono_l k
  unfold laws_heldIntS.f
  repeat' first
      | (with_reducible exact ih0 _ _ _)
      | (with_reducible exact LeO.refl _)
      | (with_reducible exact LeO.none _)
      | (with_reducible refine LeO.ite ?_ ?_)
      | (with_reducible refine LeO.bind ?_ (fun _ => ?_))
      | exact ih0 _ _ _
      | exact LeO.none _
      | refine LeO.ite ?_ ?_
      | refine LeO.bind ?_ (fun _ => ?_)
set_option maxHeartbeats 8000000 in
set_option maxRecDepth 100000 in
theorem laws_heldIntS.calls (k : Nat) (A0 : Option Addr) (c0 : Nat) (l0 : List Int) (a1 : Int) (r : Int) (w : World) (hr0 : Kd.C (Kd.int .i64) w A0 l0.length l0) (hc0 : l0.length ≤ c0) (h : laws_heldIntS.f k l0 a1 = some r) :
    Calls Try.prog 36 #[.slice A0 l0.length c0, .int .i64 a1] w fun e w' => e = .returned (.int .i64 r) ∧ Drawn0 w w' := by
  have HR0 := Aside0.mk hr0
  have HC0 := Aside0.mk hc0
  clear hr0 hc0
  have H : (laws_heldIntS.l0 k l0 a1 0) = some r := h
  clear h
  have H' := Aside0.mk H
  clear H
  go_enter Try.func36, Try.ntmps36
  go_wp2
  go_loopg [1, 5] k (fun kq v1 v5 w' => ∃ (x1_1 : Int) (x5_1 : Int), v1 = .int .i64 x1_1 ∧ v5 = .int .i64 x5_1 ∧ Aside0 (laws_heldIntS.l0 kq l0 x1_1 x5_1 = some r) ∧ Aside0 (kq ≤ k) ∧ Drawn0 w w')
  case atStart => exact ⟨(a1), (0), (by first | rfl | (simp; done) | (simp [*]; done)), (by first | rfl | (simp; done) | (simp [*]; done)), H', ⟨Nat.le_refl _⟩, by repeat (first | exact Drawn0.refl _ | apply Drawn0.step)⟩
  case round =>
    clear H'
    try clear p2
    obtain ⟨x1_1, x5_1, rfl, rfl, HA, HK1, ⟨m1, rfl⟩⟩ := hrel
    cases gk with
    | zero => exact absurd HA.out (by simp [laws_heldIntS.l0])
    | succ k1 =>
      have H := HA.out
      clear HA
      simp only [laws_heldIntS.l0] at H
      by_cases c3 : x5_1 < (l0.length : Int)
      · rw [if_pos c3] at H
        have c3b0 : decide (x5_1 < (l0.length : Int)) = true := decide_eq_true c3
        clear c3
        by_cases c4 : 0 ≤ x5_1
        · rw [if_pos c4] at H
          have c4b0 : decide (0 ≤ x5_1) = true := decide_eq_true c4
          clear c4
          by_cases c5 : (rd l0 x5_1) = x1_1
          · rw [if_pos c5] at H
            have c5b0 : ((rd l0 x5_1) == x1_1) = true := beq_iff_eq.mpr c5
            have c5b1 : ((rd l0 x5_1) != x1_1) = false := bne_eq_false_iff_eq.mpr c5
            clear c5
            have H' := Aside0.mk H
            clear H
            have p175 : 0 ≤ (x5_1 : Int) := of_decide_eq_true (by first | (with_reducible assumption) | assumption)
            have q175 : x5_1 < (l0.length : Int) := of_decide_eq_true (by first | (with_reducible assumption) | assumption)
            obtain ⟨ad175, e175, hx175_0⟩ := Kd.at_int HR0.out x5_1 p175 q175
            cases e175
            replace p175 := eq_true p175
            replace q175 := eq_true q175
            go_wp2
            go_roundg k1
            case measure => have := HK1.out; omega
            case rel => exact ⟨(wrap64 (x1_1 + 1)), (wrap64 (x5_1 + 1)), (by first | rfl | (simp; done) | (simp [*]; done)), (by first | rfl | (simp; done) | (simp [*]; done)), H', ⟨by have := HK1.out; omega⟩, by repeat (first | exact Drawn0.refl _ | apply Drawn0.step)⟩
          · rw [if_neg c5] at H
            have c5b0 : ((rd l0 x5_1) == x1_1) = false := beq_eq_false_iff_ne.mpr c5
            have c5b1 : ((rd l0 x5_1) != x1_1) = true := bne_iff_ne.mpr c5
            obtain rfl := Option.some.inj H
            have p175 : 0 ≤ (x5_1 : Int) := of_decide_eq_true (by first | (with_reducible assumption) | assumption)
            have q175 : x5_1 < (l0.length : Int) := of_decide_eq_true (by first | (with_reducible assumption) | assumption)
            obtain ⟨ad175, e175, hx175_0⟩ := Kd.at_int HR0.out x5_1 p175 q175
            cases e175
            replace p175 := eq_true p175
            replace q175 := eq_true q175
            go_wp2
            go_ret
            exact ⟨by first | rfl | (simp; done) | (simp [*]; done), by repeat (first | exact Drawn0.refl _ | apply Drawn0.step)⟩
        · rw [if_neg c4] at H
          exact absurd H (by simp)
      · rw [if_neg c3] at H
        have c3b0 : decide (x5_1 < (l0.length : Int)) = false := decide_eq_false c3
        clear c3
        obtain rfl := Option.some.inj H
        go_wp2
        go_ret
        exact ⟨by first | rfl | (simp; done) | (simp [*]; done), by repeat (first | exact Drawn0.refl _ | apply Drawn0.step)⟩

-- NOT PRINTED: function 6 (laws_FnExactBankOf)

/-! ### laws_FnExactBankOf (mine) -/
set_option maxRecDepth 100000 in
set_option maxHeartbeats 4000000 in
theorem lawBankOf_true (k : Nat) (A0 : Option Addr) (c0 : Nat) (l0 : List (List Int)) (n : Int) (w : World) (hr : Kd.C (Kd.slice 3 (Kd.int .i64)) w A0 l0.length l0) (hc : l0.length ≤ c0)
    (t : Int) (hsz : laws_szImage.f k l0 1048576 = some t) (m1 : List (List Int)) (hm : laws_toImage.f k l0 = some m1) (r1 : List Int) (hs : spec_BankOf.f k m1 n = some r1) (hi : impl_BankOf.f k m1 n = some r1)
    (ht : ¬ t < 0) (he1 : laws_eqIntS.f k r1 r1 = some true) (he3 : laws_eqImage.f k m1 m1 = some true)
    (k1 : Int) (n1 : List (List Int)) (hk1 : laws_markIntSS.f k m1 1 = some (k1, n1)) (hk1' : ¬ k1 < 0) (k2 : Int) (n2 : List Int) (hk2 : laws_markIntS.f k r1 1 = some (k2, n2)) (hk2' : ¬ k2 < 0) (hh : laws_heldIntS.f k n2 1 = some k2) :
    Calls Try.prog 6 #[.agg #[.slice A0 l0.length c0], .int .i64 n] w fun e w' => e = .returned (.bool true) ∧ Below w.heap.size w w' := by
  have hu24 := Try.underlying24
  have hu27 := Try.underlying27
  have HR := Aside0.mk hr
  have HC := Aside0.mk hc
  have Hsz := Aside0.mk hsz
  have Hm := Aside0.mk hm
  have Hs := Aside0.mk hs
  have Hi := Aside0.mk hi
  have He1 := Aside0.mk he1
  have He3 := Aside0.mk he3
  have Hk1 := Aside0.mk hk1
  have Hk2 := Aside0.mk hk2
  have Hh := Aside0.mk hh
  have ht0 : decide (t < 0) = false := decide_eq_false ht
  have Ht1 := Aside0.mk (decide_eq_false hk1')
  have Ht2 := Aside0.mk (decide_eq_false hk2')
  clear hr hc hsz hm hs hi he1 he3 hk1 hk2 hh ht hk1' hk2'
  go_enter Try.func6, Try.ntmps6
  go_wp2_with fail
  refine (laws_szImage.calls k A0 c0 l0 1048576 t _ ?hr HC.out Hsz.out).mono ?_
  case hr => repeat (first | exact HR.out | (with_reducible refine Kd.C_alloc ?_ _))
  rintro e W1 ⟨rfl, hB⟩
  have ARG : Aside0 (ArgI w W1 #[.slice A0 l0.length c0]) := ⟨⟨below_step (by repeat (first | exact Below.refl _ _ | apply below_alloc)) hB, blk_below (alloc_at _ _ _ rfl) hB⟩⟩
  clear hB
  have hlow : w.heap.size + 1 ≤ W1.heap.size := by have := blk_lt ARG.out.fst; omega
  have y0_ : W1.cell? ⟨w.heap.size, 0, none⟩ = some (.slice A0 l0.length c0) := (blk_cell ARG.out.fst 0).trans rfl
  go_wp2_with (go_at_call 17; refine stop_ ?_)
  refine ⟨?_⟩
  refine (laws_toImage.calls k A0 c0 l0 m1 _ (Kd.C_below HR.out ARG.out.below) HC.out Hm.out).mono ?_
  rintro e W2 ⟨u_, rfl, hS_, hb⟩
  clear y0_
  obtain ⟨Ay, cy, rfl⟩ := Kd.S_slice hS_
  have K_ := Kept.of_below hb (fun _ => False)
  have ARG_ := Aside0.mk (ARG.out.kept K_ (below_step ARG.out.below hb) (fun _ _ h => h))
  clear ARG 
  have ARG := ARG_
  clear ARG_
  clear K_
  have hle_ := hb.size
  clear hb
  obtain ⟨_, hcy, hCy⟩ := Kd.S_reads' hS_
  have h12 : W1.heap.size ≤ W2.heap.size := hle_
  go_wp2_with (go_at_call 31; refine stop_ ?_)
  refine ⟨?_⟩
  refine (spec_BankOf.calls k Ay cy m1 n r1 _ hCy hcy Hs.out).mono ?_
  rintro e W3 ⟨u_, rfl, hR_, hb⟩
  obtain ⟨As, cs, rfl⟩ := Kd.R_slice hR_
  have Rs := Aside0.mk (RowB.made ARG.out.below hR_)
  have K_ := Kept.of_below hb (fun _ => False)
  have ARG_ := Aside0.mk (ARG.out.kept K_ (below_step ARG.out.below hb) (fun _ _ h => h))
  clear ARG 
  have ARG := ARG_
  clear ARG_
  clear K_
  have h23 : W2.heap.size ≤ W3.heap.size := hb.size
  clear hb hR_
  clear hcy hCy hS_
  have hBW3 := Aside0.mk ARG.out.below
  have y0_ : W3.cell? ⟨w.heap.size, 0, none⟩ = some (.slice A0 l0.length c0) := (blk_cell ARG.out.fst 0).trans rfl
  go_wp2_with (go_at_call 17; refine stop_ ?_)
  refine ⟨?_⟩
  refine (laws_toImage.calls k A0 c0 l0 m1 _ (Kd.C_below HR.out ARG.out.below) HC.out Hm.out).mono ?_
  rintro e W4 ⟨u_, rfl, hS_, hb⟩
  clear y0_
  obtain ⟨Ax, cx, rfl⟩ := Kd.S_slice hS_
  have K_ := Kept.of_below hb (fun _ => False)
  have ARG_ := Aside0.mk (ARG.out.kept K_ (below_step ARG.out.below hb) (fun _ _ h => h))
  have Rs_ := Aside0.mk (Rs.out.kept K_ (fun _ _ _ h => h))
  clear ARG Rs
  have ARG := ARG_
  clear ARG_
  have Rs := Rs_
  clear Rs_
  clear K_
  have hle2_ := hb.size
  have hbb := hb
  clear hb
  go_wp2_with (go_at_call 32; refine stop_ ?_)
  have X : Aside0 (ImgB w (W4.alloc (.cells #[.slice Ax m1.length cx] 27)) W4.heap.size Ax cx m1 W3.heap.size (W4.alloc (.cells #[.slice Ax m1.length cx] 27)).heap.size) := ⟨ImgB.made hBW3.out (Kd.S_alloc hS_ _) (alloc_at _ _ _ rfl) hle2_⟩
  have hb : Below W4.heap.size W4 (W4.alloc (.cells #[.slice Ax m1.length cx] 27)) := below_alloc (Below.refl _ _) _
  have K_ := Kept.of_below hb (fun _ => False)
  have ARG_ := Aside0.mk (ARG.out.kept K_ (below_step ARG.out.below hb) (fun _ _ h => h))
  have Rs_ := Aside0.mk (Rs.out.kept K_ (fun _ _ _ h => h))
  clear ARG Rs
  have ARG := ARG_
  clear ARG_
  have Rs := Rs_
  clear Rs_
  clear K_
  have h45 : W4.heap.size < (W4.alloc (.cells #[.slice Ax m1.length cx] 27)).heap.size := by rw [alloc_size]; omega
  clear hb hS_ hbb hBW3
  generalize hW_ : W4.alloc (.cells #[.slice Ax m1.length cx] 27) = W5 at *
  generalize hg_ : W4.heap.size = gx at *
  clear hW_ hg_
  refine ⟨?_⟩
  refine (impl_BankOf.calls k Ax cx m1 n r1 _ X.out.reads.2 X.out.reads.1 Hi.out).mono ?_
  rintro e W6 ⟨u_, rfl, hR_, hb⟩
  obtain ⟨Ag, cg, rfl⟩ := Kd.R_slice hR_
  have Rg := Aside0.mk (RowB.made ARG.out.below hR_)
  have K_ := Kept.of_below hb (fun _ => False)
  have ARG_ := Aside0.mk (ARG.out.kept K_ (below_step ARG.out.below hb) (fun _ _ h => h))
  have Rs_ := Aside0.mk (Rs.out.kept K_ (fun _ _ _ h => h))
  have X_ := Aside0.mk (X.out.kept K_ (fun _ _ _ h => h))
  clear ARG Rs X
  have ARG := ARG_
  clear ARG_
  have Rs := Rs_
  clear Rs_
  have X := X_
  clear X_
  clear K_
  clear hb hR_
  go_wp2_with (go_at_call 33; refine stop_ ?_)
  refine ⟨?_⟩
  obtain ⟨_, hc1, hC1⟩ := Kd.R_reads' Rg.out.row
  obtain ⟨_, hc2, hC2⟩ := Kd.R_reads' Rs.out.row
  refine (laws_eqIntS.calls k Ag cg r1 As cs r1 true _ hC1 hc1 hC2 hc2 He1.out).mono ?_
  rintro e W7 ⟨rfl, hb0⟩
  have hb := kept_drew hb0
  clear hc1 hC1 hc2 hC2 hb0
  have K_ := Kept.of_below hb (fun _ => False)
  have ARG_ := Aside0.mk (ARG.out.kept K_ (below_step ARG.out.below hb) (fun _ _ h => h))
  have Rs_ := Aside0.mk (Rs.out.kept K_ (fun _ _ _ h => h))
  have X_ := Aside0.mk (X.out.kept K_ (fun _ _ _ h => h))
  have Rg_ := Aside0.mk (Rg.out.kept K_ (fun _ _ _ h => h))
  clear ARG Rs X Rg
  have ARG := ARG_
  clear ARG_
  have Rs := Rs_
  clear Rs_
  have X := X_
  clear X_
  have Rg := Rg_
  clear Rg_
  clear K_
  clear hb
  go_wp2
  refine start_ (n := 5) (S := fun w' => w'.heap[gx]? = some (.cells #[.slice Ax m1.length cx] 27 (0, 0)) ∧ w'.heap[w.heap.size]? = some (.cells #[.slice A0 l0.length c0] 24 (0, 0))) (ds := []) #[false, false, false, false, false] (by kernel_rfl) rfl rfl ⟨X.out.img, ARG.out.fst⟩ (fun hHeld => ?_)
  refine take_ (i := 0) (N := some 31) (v := ?_) (a' := ?_) #[true, false, false, false, false] rfl rfl (by kernel_rfl) (fun _ _ _ h => h) (Or.inl ⟨by rfl, ?_⟩) hHeld ?_ ?_
  rotate_left
  · rintro w' ⟨s0, s1⟩
    have a0 := (blk_cell s0 0).trans rfl
    clear s0 s1
    go_simp
    with_reducible rfl
  rotate_left
  · simp only [Act.put, List.setIfInBounds_toArray, List.set_cons_zero, List.set_cons_succ, i64_w, i32_w]
    rfl
  refine take_ (i := 1) (N := some 32) (v := ?_) (a' := ?_) #[true, true, false, false, false] rfl rfl (by kernel_rfl) (fun _ _ _ h => h) (Or.inl ⟨by rfl, ?_⟩) hHeld ?_ ?_
  rotate_left
  · rintro w' ⟨s0, s1⟩
    have a0 := (blk_cell s1 0).trans rfl
    clear s0 s1
    go_simp
    with_reducible rfl
  rotate_left
  · simp only [Act.put, List.setIfInBounds_toArray, List.set_cons_zero, List.set_cons_succ, i64_w, i32_w]
    rfl
  refine one_ (i := 2) (N := some 33) #[true, true, true, false, false] rfl rfl (by kernel_rfl) (by decide) (fun K hK => ?_)
  refine goes_ Try.func17 (by kernel_rfl) rfl #[.agg #[.slice A0 l0.length c0]] (by rfl) rfl rfl (by (try simp only [List.map_toArray, List.map_cons, List.map_nil]); first | done | rfl) ?_
  refine (laws_toImage.calls k A0 c0 l0 m1 W7.drew (Kd.C_below HR.out (below_drew1 ARG.out.below)) HC.out Hm.out).mono ?_
  rintro e W8 ⟨u, rfl, hS_, hb⟩
  refine ⟨_, rfl, ?_⟩
  have K_ : Kept W7 W8 (fun _ => False) := ⟨hb.size, fun i hi _ => hb.block i hi⟩
  have ARG_ := Aside0.mk (ARG.out.kept K_ (below_step (W := W7.drew) (below_drew1 ARG.out.below) hb) (fun _ _ h => h))
  have Rs_ := Aside0.mk (Rs.out.kept K_ (fun _ _ _ h => h))
  have X_ := Aside0.mk (X.out.kept K_ (fun _ _ _ h => h))
  have Rg_ := Aside0.mk (Rg.out.kept K_ (fun _ _ _ h => h))
  clear ARG Rs X Rg
  have ARG := ARG_
  clear ARG_
  have Rs := Rs_
  clear Rs_
  have X := X_
  clear X_
  have Rg := Rg_
  clear Rg_
  clear K_ hb hHeld
  obtain ⟨Az, cz, rfl⟩ := Kd.S_slice hS_
  refine hK.out _ _ ⟨X.out.img, ARG.out.fst⟩ (fun hHeld => ?_)
  clear hK K
  refine norm_ (a' := ?_) ?_ ?_
  rotate_left
  · show Act.put _ (some 33) _ = _
    simp only [Act.put, List.setIfInBounds_toArray, List.set_cons_zero, List.set_cons_succ, i64_w, i32_w]
    rfl
  refine one_ (i := 3) (N := some 34) #[true, true, true, true, false] rfl rfl (by kernel_rfl) (by decide) (fun K hK => ?_)
  refine goes_ Try.func19 (by kernel_rfl) rfl #[.agg #[.slice Ax m1.length cx], .agg #[.slice Az m1.length cz]] (by rfl) rfl rfl (by (try simp only [List.map_toArray, List.map_cons, List.map_nil]); first | done | rfl) ?_
  obtain ⟨_, hc2, hC2⟩ := Kd.S_reads' hS_
  refine (laws_eqImage.calls k Ax cx m1 Az cz m1 true _ X.out.reads.2 X.out.reads.1 hC2 hc2 He3.out).mono ?_
  rintro e W9 ⟨rfl, hb⟩
  refine ⟨_, rfl, ?_⟩
  clear hc2 hC2 hS_ hHeld
  have K_ := Kept.of_below hb (fun _ => False)
  have ARG_ := Aside0.mk (ARG.out.kept K_ (below_step ARG.out.below hb) (fun _ _ h => h))
  have Rs_ := Aside0.mk (Rs.out.kept K_ (fun _ _ _ h => h))
  have X_ := Aside0.mk (X.out.kept K_ (fun _ _ _ h => h))
  have Rg_ := Aside0.mk (Rg.out.kept K_ (fun _ _ _ h => h))
  clear ARG Rs X Rg
  have ARG := ARG_
  clear ARG_
  have Rs := Rs_
  clear Rs_
  have X := X_
  clear X_
  have Rg := Rg_
  clear Rg_
  clear K_
  clear hb
  refine hK.out _ _ ⟨X.out.img, ARG.out.fst⟩ (fun hHeld => ?_)
  clear hK K hHeld
  refine norm_ (a' := ?_) ?_ ?_
  rotate_left
  · show Act.put _ (some 34) _ = _
    simp only [Act.put, List.setIfInBounds_toArray, List.set_cons_zero, List.set_cons_succ, i64_w, i32_w]
    rfl
  refine pure_ (i := 4) (N := some 35) (v := ?_) (a' := ?_) #[true, true, true, true, true] rfl rfl (by kernel_rfl) (fun _ _ _ h => h) (Or.inl ⟨by rfl, ?_⟩) ?_ ?_
  rotate_left
  · intro w'
    go_simp
    with_reducible rfl
  rotate_left
  · simp only [Act.put, List.setIfInBounds_toArray, List.set_cons_zero, List.set_cons_succ, i64_w, i32_w]
    rfl
  refine done_ (by kernel_rfl) ?_
  have y1_ : W9.cell? ⟨gx, 0, none⟩ = some (.slice Ax m1.length cx) := (blk_cell X.out.img 0).trans rfl
  go_wp2_with (go_at_call 34; refine stop_ ?_)
  refine ⟨?_⟩
  refine (laws_markImage.calls k _ (.slice Ax m1.length cx) m1 1 k1 n1 w W9 ARG.out.below X.out.row Hk1.out).mono ?_
  rintro e W10 ⟨rfl, _, hb, hk⟩
  clear y1_
  have ARG_ := Aside0.mk (ARG.out.kept hk (hb) (fun k hk h => by omega))
  have Rs_ := Aside0.mk (Rs.out.kept hk (fun k h1 h2 h => by omega))
  have Rg_ := Aside0.mk (Rg.out.kept hk (fun k h1 h2 h => by omega))
  clear ARG Rs Rg
  have ARG := ARG_
  clear ARG_
  have Rs := Rs_
  clear Rs_
  have Rg := Rg_
  clear Rg_
  clear X hk hb
  have ht1 := Ht1.out
  go_wp2_with (go_at_call 33; refine stop_ ?_)
  refine ⟨?_⟩
  obtain ⟨_, hc1, hC1⟩ := Kd.R_reads' Rg.out.row
  obtain ⟨_, hc2, hC2⟩ := Kd.R_reads' Rs.out.row
  refine (laws_eqIntS.calls k Ag cg r1 As cs r1 true _ hC1 hc1 hC2 hc2 He1.out).mono ?_
  rintro e W11 ⟨rfl, hb0⟩
  have hb := kept_drew hb0
  clear hc1 hC1 hc2 hC2 hb0
  have K_ := Kept.of_below hb (fun _ => False)
  have ARG_ := Aside0.mk (ARG.out.kept K_ (below_step ARG.out.below hb) (fun _ _ h => h))
  have Rs_ := Aside0.mk (Rs.out.kept K_ (fun _ _ _ h => h))
  have Rg_ := Aside0.mk (Rg.out.kept K_ (fun _ _ _ h => h))
  clear ARG Rs Rg
  have ARG := ARG_
  clear ARG_
  have Rs := Rs_
  clear Rs_
  have Rg := Rg_
  clear Rg_
  clear K_
  clear hb
  go_wp2_with (go_at_call 35; refine stop_ ?_)
  refine ⟨?_⟩
  refine (laws_markIntS.calls k _ (.slice Ag r1.length cg) r1 1 k2 n2 w W11 ARG.out.below Rg.out.row Hk2.out).mono ?_
  rintro e W12 ⟨rfl, hR, hb, hk⟩
  have hl : r1.length = n2.length := (Kd.R_reads' hR).1
  have Og : Aside0 (RowO w W12 Ag cg n2) := ⟨⟨_, by rw [← hl]; exact hR⟩⟩
  have ARG_ := Aside0.mk (ARG.out.kept hk (hb) (fun k hk h => by omega))
  have Rs_ := Aside0.mk (Rs.out.kept hk (fun k h1 h2 h => by omega))
  clear ARG Rs
  have ARG := ARG_
  clear ARG_
  have Rs := Rs_
  clear Rs_
  have Hl := Aside0.mk hl
  clear Rg hk hb hR hl
  have ht2 := Ht2.out
  have hkk : (k2 != k2) = false := by simp
  go_wp2_with (go_at_call 36; refine stop_ ?_)
  refine ⟨?_⟩
  refine calls_of_args (args' := #[.slice Ag n2.length cg, .int .i64 1]) (by rw [Hl.out]) ?_
  refine (laws_heldIntS.calls k Ag cg n2 1 k2 _ Og.out.reads.2 Og.out.reads.1 Hh.out).mono ?_
  rintro e W13 ⟨rfl, hb0⟩
  have hb := kept_drew hb0
  clear hb0
  have K_ := Kept.of_below hb (fun _ => False)
  have ARG_ := Aside0.mk (ARG.out.kept K_ (below_step ARG.out.below hb) (fun _ _ h => h))
  have Rs_ := Aside0.mk (Rs.out.kept K_ (fun _ _ _ h => h))
  have Og_ := Aside0.mk (Og.out.kept K_ (fun _ _ _ h => h))
  clear ARG Rs Og
  have ARG := ARG_
  clear ARG_
  have Rs := Rs_
  clear Rs_
  have Og := Og_
  clear Og_
  clear K_
  clear hb
  have y0_ : W13.cell? ⟨w.heap.size, 0, none⟩ = some (.slice A0 l0.length c0) := (blk_cell ARG.out.fst 0).trans rfl
  go_wp2_with (go_at_call 17; refine stop_ ?_)
  refine ⟨?_⟩
  refine (laws_toImage.calls k A0 c0 l0 m1 _ (Kd.C_below HR.out ARG.out.below) HC.out Hm.out).mono ?_
  rintro e W14 ⟨u_, rfl, hS_, hb⟩
  clear y0_
  obtain ⟨Av, cv, rfl⟩ := Kd.S_slice hS_
  have K_ := Kept.of_below hb (fun _ => False)
  have ARG_ := Aside0.mk (ARG.out.kept K_ (below_step ARG.out.below hb) (fun _ _ h => h))
  have Rs_ := Aside0.mk (Rs.out.kept K_ (fun _ _ _ h => h))
  have Og_ := Aside0.mk (Og.out.kept K_ (fun _ _ _ h => h))
  clear ARG Rs Og
  have ARG := ARG_
  clear ARG_
  have Rs := Rs_
  clear Rs_
  have Og := Og_
  clear Og_
  clear K_
  clear hb
  obtain ⟨_, hcv, hCv⟩ := Kd.S_reads' hS_
  go_wp2_with (go_at_call 32; refine stop_ ?_)
  refine ⟨?_⟩
  refine (impl_BankOf.calls k Av cv m1 n r1 _ hCv hcv Hi.out).mono ?_
  rintro e W15 ⟨u_, rfl, hR_, hb⟩
  obtain ⟨Ah, ch, rfl⟩ := Kd.R_slice hR_
  have Rh := Aside0.mk (RowB.made ARG.out.below hR_)
  have K_ := Kept.of_below hb (fun _ => False)
  have ARG_ := Aside0.mk (ARG.out.kept K_ (below_step ARG.out.below hb) (fun _ _ h => h))
  have Rs_ := Aside0.mk (Rs.out.kept K_ (fun _ _ _ h => h))
  have Og_ := Aside0.mk (Og.out.kept K_ (fun _ _ _ h => h))
  clear ARG Rs Og
  have ARG := ARG_
  clear ARG_
  have Rs := Rs_
  clear Rs_
  have Og := Og_
  clear Og_
  clear K_
  clear hb hR_
  clear hcv hCv hS_
  go_wp2_with (go_at_call 33; refine stop_ ?_)
  refine ⟨?_⟩
  obtain ⟨_, hc1, hC1⟩ := Kd.R_reads' Rh.out.row
  obtain ⟨_, hc2, hC2⟩ := Kd.R_reads' Rs.out.row
  refine (laws_eqIntS.calls k Ah ch r1 As cs r1 true _ hC1 hc1 hC2 hc2 He1.out).mono ?_
  rintro e W16 ⟨rfl, hb0⟩
  have hb := kept_drew hb0
  clear hc1 hC1 hc2 hC2 hb0
  have K_ := Kept.of_below hb (fun _ => False)
  have ARG_ := Aside0.mk (ARG.out.kept K_ (below_step ARG.out.below hb) (fun _ _ h => h))
  have Rs_ := Aside0.mk (Rs.out.kept K_ (fun _ _ _ h => h))
  have Og_ := Aside0.mk (Og.out.kept K_ (fun _ _ _ h => h))
  have Rh_ := Aside0.mk (Rh.out.kept K_ (fun _ _ _ h => h))
  clear ARG Rs Og Rh
  have ARG := ARG_
  clear ARG_
  have Rs := Rs_
  clear Rs_
  have Og := Og_
  clear Og_
  have Rh := Rh_
  clear Rh_
  clear K_
  clear hb
  go_wp2_with (go_at_call 36; refine stop_ ?_)
  refine ⟨?_⟩
  refine calls_of_args (args' := #[.slice Ag n2.length cg, .int .i64 1]) (by rw [Hl.out]) ?_
  refine (laws_heldIntS.calls k Ag cg n2 1 k2 _ Og.out.reads.2 Og.out.reads.1 Hh.out).mono ?_
  rintro e W17 ⟨rfl, hb0⟩
  have hb := kept_drew hb0
  clear hb0
  have K_ := Kept.of_below hb (fun _ => False)
  have ARG_ := Aside0.mk (ARG.out.kept K_ (below_step ARG.out.below hb) (fun _ _ h => h))
  have Rs_ := Aside0.mk (Rs.out.kept K_ (fun _ _ _ h => h))
  have Og_ := Aside0.mk (Og.out.kept K_ (fun _ _ _ h => h))
  have Rh_ := Aside0.mk (Rh.out.kept K_ (fun _ _ _ h => h))
  clear ARG Rs Og Rh
  have ARG := ARG_
  clear ARG_
  have Rs := Rs_
  clear Rs_
  have Og := Og_
  clear Og_
  have Rh := Rh_
  clear Rh_
  clear K_
  clear hb
  go_wp2
  go_ret
  exact ⟨rfl, ARG.out.below⟩
set_option maxRecDepth 100000 in
set_option maxHeartbeats 4000000 in
theorem lawBankOf_big (k : Nat) (A0 : Option Addr) (c0 : Nat) (l0 : List (List Int)) (n : Int) (w : World) (hr : Kd.C (Kd.slice 3 (Kd.int .i64)) w A0 l0.length l0) (hc : l0.length ≤ c0)
    (t : Int) (hsz : laws_szImage.f k l0 1048576 = some t) (ht : t < 0) :
    Calls Try.prog 6 #[.agg #[.slice A0 l0.length c0], .int .i64 n] w fun e w' => e = .returned (.bool true) ∧ Below w.heap.size w w' := by
  have hu24 := Try.underlying24
  have hu27 := Try.underlying27
  have HR := Aside0.mk hr
  have HC := Aside0.mk hc
  have Hsz := Aside0.mk hsz
  have ht0 : decide (t < 0) = true := decide_eq_true ht
  clear hr hc hsz ht
  go_enter Try.func6, Try.ntmps6
  go_wp2_with fail
  refine (laws_szImage.calls k A0 c0 l0 1048576 t _ ?hr HC.out Hsz.out).mono ?_
  case hr => repeat (first | exact HR.out | (with_reducible refine Kd.C_alloc ?_ _))
  rintro e W1 ⟨rfl, hB⟩
  have B1 : Below w.heap.size w W1 := below_step (by repeat (first | exact Below.refl _ _ | apply below_alloc)) hB
  go_wp2
  go_ret
  exact ⟨rfl, B1⟩
/-- What the law answers where all is well: true; nothing is said elsewhere. -/
def laws_FnExactBankOf.f (k : Nat) (l0_0 : List (List Int)) (a1 : Int) : Option Bool := (laws_szImage.f k l0_0 1048576).bind fun t => if t < 0 then some true else
  (laws_toImage.f k l0_0).bind fun m => (spec_BankOf.f k m a1).bind fun s => (impl_BankOf.f k m a1).bind fun g =>
  (laws_eqIntS.f k s s).bind fun e1 => (laws_eqImage.f k m m).bind fun e3 =>
  (laws_markIntSS.f k m 1).bind fun q1 => (laws_markIntS.f k s 1).bind fun q2 => (laws_heldIntS.f k q2.2 1).bind fun h =>
  if g = s ∧ e1 = true ∧ e3 = true ∧ ¬ q1.1 < 0 ∧ ¬ q2.1 < 0 ∧ h = q2.1 then some true else none
theorem laws_FnExactBankOf.calls (k : Nat) (A0_0 : Option Addr) (c0_0 : Nat) (l0_0 : List (List Int)) (a1 : Int) (r : Bool) (w : World) (hr0_0 : Kd.C (Kd.slice 3 (Kd.int .i64)) w A0_0 l0_0.length l0_0) (hc0_0 : l0_0.length ≤ c0_0) (h : laws_FnExactBankOf.f k l0_0 a1 = some r) (hrt : r = true) :
    Calls Try.prog 6 #[.agg #[.slice A0_0 l0_0.length c0_0], .int .i64 a1] w fun e w' => e = .returned (.bool r) ∧ Below w.heap.size w w' := by
  subst hrt
  unfold laws_FnExactBankOf.f at h
  obtain ⟨t, hsz, h1⟩ := Option.bind_eq_some_iff.mp h
  clear h
  by_cases ht : t < 0
  · exact lawBankOf_big k A0_0 c0_0 l0_0 a1 w hr0_0 hc0_0 t hsz ht
  · rw [if_neg ht] at h1
    obtain ⟨m1, hm, h2⟩ := Option.bind_eq_some_iff.mp h1
    obtain ⟨r1, hs, h4⟩ := Option.bind_eq_some_iff.mp h2
    obtain ⟨g, hi, h5⟩ := Option.bind_eq_some_iff.mp h4
    obtain ⟨e1, he1, h6⟩ := Option.bind_eq_some_iff.mp h5
    obtain ⟨e3, he3, h8⟩ := Option.bind_eq_some_iff.mp h6
    obtain ⟨⟨k1, n1⟩, hk1, h9⟩ := Option.bind_eq_some_iff.mp h8
    obtain ⟨⟨k2, n2⟩, hk2, h10⟩ := Option.bind_eq_some_iff.mp h9
    obtain ⟨q, hh, h11⟩ := Option.bind_eq_some_iff.mp h10
    clear h1 h2 h4 h5 h6 h8 h9 h10
    by_cases hall : g = r1 ∧ e1 = true ∧ e3 = true ∧ ¬ k1 < 0 ∧ ¬ k2 < 0 ∧ q = k2
    · obtain ⟨rfl, rfl, rfl, hk1', hk2', rfl⟩ := hall
      exact lawBankOf_true k A0_0 c0_0 l0_0 a1 w hr0_0 hc0_0 t hsz m1 hm g hs hi ht he1 he3 k1 n1 hk1 hk1' q n2 hk2 hk2' hh
    · rw [if_neg hall] at h11
      cases h11

end Go.Proofs.Ytmiaocoffmobcaa.MFnExactBankOf
