/- Walks of functions that the law FnCalled reaches: each comes to just what its Lean function says. (Begun as the texts that print.sh wrote for this claim; some of them, and those that it does not write, are mine.) No condition. -/
import Derived.Test.YtmkccgbfgebfbaaMFnCalledx5
namespace Go.Proofs.Ytmkccgbfgebfbaa.MFnCalled
open Go.RowKit Go.Proofs.YtmkccgbfgebfbaaW.PrintWords Go.Proofs.YtmkccgbfgebfbaaW.PrintLast Go.Proofs.YtmkccgbfgebfbaaW.PrintMore
attribute [local go_sem] max2_int min2_int max_two min_two max_three min_three max_four min_four   -- for this text's walks alone
set_option maxHeartbeats 8000000
set_option maxRecDepth 100000
set_option linter.unusedVariables false
set_option linter.unusedSimpArgs false

/-! ### spec_Exec (mine) -/
/-- What stands while spec.Exec runs: its three arguments, its two results' places, the memory of its own. -/
structure SX (w0 w : World) (m4 m5 m6 m8 m9 m10 : Nat) (A0 : Option Addr) (n0 c0 : Nat) (b : Int) (k : Cp) (op arg : Int) (rv : Value) (ram : List Int) : Prop where
 h4 : w.heap[m4]? = some (.cells #[.slice A0 n0 c0, .int .i64 b] 32 (0, 0))
 h5 : w.heap[m5]? = some (.cells k.cells 55 (0, 0))
 h6 : w.heap[m6]? = some (.cells #[.int .i64 op, .int .i64 arg] 51 (0, 0))
 h8 : w.heap[m8]? = some (.cells #[.slice none 0 0, .int .i64 0] 32 (0, 0))
 h9 : w.heap[m9]? = some (.cells #[.int .i64 0, .int .i64 0, .int .i64 0, .int .i64 0, .bool false, .bool false, .bool false, .bool false] 55 (0, 0))
 h10 : w.heap[m10]? = some (.cells #[rv, .int .i64 b] 32 (0, 0))
 row : Kd.R (Kd.int .i64) 3 w w0.heap.size (fun _ => True) rv ram
 e5 : w0.heap.size ≤ m5
 e8 : w0.heap.size ≤ m8
 e9 : w0.heap.size ≤ m9
 e10 : w0.heap.size ≤ m10
 n95 : m9 ≠ m5
 n410 : m4 ≠ m10
 n810 : m8 ≠ m10
 below : Below w0.heap.size w0 w
section
variable {w0 w w' : World} {m4 m5 m6 m8 m9 m10 : Nat} {A0 : Option Addr} {n0 c0 : Nat} {b : Int} {k k' : Cp} {op arg : Int} {rv : Value} {ram : List Int}
theorem SX.later (h : SX w0 w m4 m5 m6 m8 m9 m10 A0 n0 c0 b k op arg rv ram) (hb : Below w.heap.size w w') : SX w0 w' m4 m5 m6 m8 m9 m10 A0 n0 c0 b k op arg rv ram :=
 ⟨blk_below h.h4 hb, blk_below h.h5 hb, blk_below h.h6 hb, blk_below h.h8 hb, blk_below h.h9 hb, blk_below h.h10 hb, Kd.R_below h.row hb, h.e5, h.e8, h.e9, h.e10, h.n95, h.n410, h.n810, below_step h.below hb⟩
theorem SX.drewN (h : SX w0 w m4 m5 m6 m8 m9 m10 A0 n0 c0 b k op arg rv ram) (n : Nat) : SX w0 (w.drewN n) m4 m5 m6 m8 m9 m10 A0 n0 c0 b k op arg rv ram := h.later (pw_below_drewN (Below.refl _ _) n)
theorem SX.drew (h : SX w0 w m4 m5 m6 m8 m9 m10 A0 n0 c0 b k op arg rv ram) : SX w0 w.drew m4 m5 m6 m8 m9 m10 A0 n0 c0 b k op arg rv ram := h.later (below_drew1 (Below.refl _ _))
theorem SX.setC (h : SX w0 w m4 m5 m6 m8 m9 m10 A0 n0 c0 b k op arg rv ram) (i : Nat) (u : Value) (e : k.cells.setIfInBounds i u = k'.cells) : SX w0 (w.setCell ⟨m5, i, none⟩ u) m4 m5 m6 m8 m9 m10 A0 n0 c0 b k' op arg rv ram :=
 ⟨blk_far h.h4 (blk_ne h.h4 h.h5 (by decide)) u, blk_put h.h5 i u e, blk_far h.h6 (blk_ne h.h6 h.h5 (by decide)) u, blk_far h.h8 (blk_ne h.h8 h.h5 (by decide)) u, blk_far h.h9 h.n95 u, blk_far h.h10 (blk_ne h.h10 h.h5 (by decide)) u,
  Kd.R_mono (Kd.R_far (p := ⟨m5, i, none⟩) (Kd.R_types h.row h.h5 (by decide)) (fun _ hk => hk.2) u) (fun _ hk => hk.1), h.e5, h.e8, h.e9, h.e10, h.n95, h.n410, h.n810, below_set h.below h.e5⟩
theorem SX.put8 (h : SX w0 w m4 m5 m6 m8 m9 m10 A0 n0 c0 b k op arg rv ram) (a x1 s p : Int) (z n cc i : Bool) :
  SX w0 ((((((((w.setCell ⟨m5, 0, none⟩ (.int .i64 a)).setCell ⟨m5, 1, none⟩ (.int .i64 x1)).setCell ⟨m5, 2, none⟩ (.int .i64 s)).setCell ⟨m5, 3, none⟩ (.int .i64 p)).setCell ⟨m5, 4, none⟩ (.bool z)).setCell ⟨m5, 5, none⟩ (.bool n)).setCell ⟨m5, 6, none⟩ (.bool cc)).setCell ⟨m5, 7, none⟩ (.bool i)) m4 m5 m6 m8 m9 m10 A0 n0 c0 b ⟨a, x1, s, p, z, n, cc, i⟩ op arg rv ram :=
 (((((((h.setC (k' := ⟨a, k.X, k.S, k.P, k.Z, k.N, k.C, k.I⟩) 0 _ rfl).setC (k' := ⟨a, x1, k.S, k.P, k.Z, k.N, k.C, k.I⟩) 1 _ rfl).setC (k' := ⟨a, x1, s, k.P, k.Z, k.N, k.C, k.I⟩) 2 _ rfl).setC (k' := ⟨a, x1, s, p, k.Z, k.N, k.C, k.I⟩) 3 _ rfl).setC (k' := ⟨a, x1, s, p, z, k.N, k.C, k.I⟩) 4 _ rfl).setC (k' := ⟨a, x1, s, p, z, n, k.C, k.I⟩) 5 _ rfl).setC (k' := ⟨a, x1, s, p, z, n, cc, k.I⟩) 6 _ rfl).setC (k' := ⟨a, x1, s, p, z, n, cc, i⟩) 7 _ rfl
theorem SX.put10 {rv' : Value} {ram' : List Int} (h : SX w0 w m4 m5 m6 m8 m9 m10 A0 n0 c0 b k op arg rv ram) (hr : Kd.R (Kd.int .i64) 3 w w0.heap.size (fun _ => True) rv' ram') : SX w0 ((w.setCell ⟨m10, 0, none⟩ rv').setCell ⟨m10, 1, none⟩ (.int .i64 b)) m4 m5 m6 m8 m9 m10 A0 n0 c0 b k op arg rv' ram' :=
 ⟨blk_far (blk_far h.h4 h.n410 _) h.n410 _, blk_far (blk_far h.h5 (blk_ne h.h5 h.h10 (by decide)) _) (blk_ne h.h5 h.h10 (by decide)) _, blk_far (blk_far h.h6 (blk_ne h.h6 h.h10 (by decide)) _) (blk_ne h.h6 h.h10 (by decide)) _, blk_far (blk_far h.h8 h.n810 _) h.n810 _, blk_far (blk_far h.h9 (blk_ne h.h9 h.h10 (by decide)) _) (blk_ne h.h9 h.h10 (by decide)) _, put2 h.h10 _ _,
  Kd.R_mono (Kd.R_far (p := ⟨m10, 1, none⟩) (Kd.R_far (p := ⟨m10, 0, none⟩) (Kd.R_types hr h.h10 (by decide)) (fun _ hk => hk.2) _) (fun _ hk => hk.2) _) (fun _ hk => hk.1), h.e5, h.e8, h.e9, h.e10, h.n95, h.n410, h.n810, below_set (below_set h.below h.e10) h.e10⟩
end
theorem saddr_ex (a : Int) : ∃ t, spec_Addr.f a = some t ∧ a % 65536 = t := by
 refine ⟨_, ?_, rfl⟩
 unfold spec_Addr.f
 rw [and65535]
theorem sflag_ex (k : Cp) (v : Int) : ∃ z n c i, spec_WithFlags.f k.A k.X k.S k.P k.Z k.N k.C k.I v = some (k.A, k.X, k.S, k.P, z, n, c, i) ∧ flagK k v = ⟨k.A, k.X, k.S, k.P, z, n, c, i⟩ := by
 refine ⟨_, _, _, _, ?_, rfl⟩
 unfold spec_WithFlags.f
 rfl
theorem scopy_is (l : List Int) (b : Int) (h : l.length < 17592186044416) : spec_l6Copy.f l b = some (l, b) := by
 unfold spec_l6Copy.f
 simp only [Option.bind_some, List.length_nil, List.nil_append]
 rw [if_pos (by omega)]
theorem spush_ex (ram : List Int) (b : Int) (k : Cp) (v : Int) (h : ram.length < 17592186044416) : ∃ ram1 s1, spec_Push.f ram b k.A k.X k.S k.P k.Z k.N k.C k.I v = some (ram1, b, k.A, k.X, s1, k.P, k.Z, k.N, k.C, k.I) ∧ pushF ram k v = (ram1, ⟨k.A, k.X, s1, k.P, k.Z, k.N, k.C, k.I⟩) ∧ ram1.length = ram.length := by
 unfold pushF spec_Push.f
 rw [scopy_is ram b h]
 simp only [Option.bind_some]
 by_cases hl : ram.length = 512
 ·refine ⟨_, _, ?_, by rw [if_pos hl], by simp⟩
  rw [if_pos (by omega)]
  unfold spec_Byte.f
  simp only [Option.bind_some, and255]
  rw [show wrap64 (256 + k.S % 256) = 256 + k.S % 256 by unfold wrap64; omega, if_pos (by omega), if_pos (by omega)]
 ·refine ⟨ram, k.S, ?_, by rw [if_neg hl], rfl⟩
  rw [if_neg (by omega)]
def switchF (ram : List Int) (k : Cp) (op arg : Int) : List Int × Cp := if op = 16 then (ram, if k.Z = true then k else { k with P := arg % 65536 }) else if op = 17 then (ram, if k.Z = true then { k with P := arg % 65536 } else k) else if op = 18 then (ram, if k.C = true then { k with P := arg % 65536 } else k) else if op = 19 then (ram, { k with P := arg % 65536 }) else if op = 20 then ((pushPcF ram k).1, { (pushPcF ram k).2 with P := arg % 65536 }) else if op = 21 then (ram, sbackF ram k) else if op = 22 then pushF ram k k.A else if op = 23 then (ram, setAK (spullF ram k).1 (spullF ram k).2) else if op = 24 then (ram, sbackF ram (flagK (spullF ram k).1 (spullF ram k).2)) else if op = 25 then (ram, { k with I := true }) else if op = 26 then (ram, { k with I := false }) else if op = 27 then (ram, { k with C := true }) else if op = 28 then (ram, { k with C := false }) else (ram, k)
def sexecF (ram : List Int) (k : Cp) (op arg v ln : Int) : List Int × Cp := if (aluF { k with P := wrap64 (k.P + ln) % 65536 } op arg v).2 = true then (ram, (aluF { k with P := wrap64 (k.P + ln) % 65536 } op arg v).1) else switchF ram { k with P := wrap64 (k.P + ln) % 65536 } op arg
theorem specExec_calls (A0 : Option Addr) (c0 : Nat) (l0 : List Int) (b : Int) (k : Cp) (op arg v : Int) (w : World) (hr : Kd.C (Kd.int .i64) w A0 l0.length l0) (hc : l0.length ≤ c0) (hlen : l0.length < 17592186044416) (ln : Int) (hl : spec_OpLen.f op = some ln) :
  Calls Try.prog 49 #[.agg #[.slice A0 l0.length c0, .int .i64 b], .agg k.cells, .agg #[.int .i64 op, .int .i64 arg], .int .i64 v] w fun e w' => ∃ v0_ : Value, e = .returned (.tuple #[.agg #[v0_, .int .i64 b], .agg (sexecF l0 k op arg v ln).2.cells]) ∧ Kd.R (Kd.int .i64) 3 w' w.heap.size (fun _ => True) v0_ (sexecF l0 k op arg v ln).1 ∧ Below w.heap.size w w' := by
 obtain ⟨A, X, S, P, Z, N, C, I⟩ := k
 obtain ⟨pc, hp, ep⟩ := saddr_ex (wrap64 (P + ln))
 obtain ⟨tgt, ht, et⟩ := saddr_ex arg
 have HLEN := am hlen
 have HL := am hl
 have HP := am hp
 have EP := am ep
 have HT := am ht
 have ET := am et
 have HR := am hr
 have HC := am hc
 clear hlen hl hp ep ht et hr hc
 have hu37 := Try.underlying32
 have hu38 := Try.underlying55
 have hu68 := Try.underlying51
 go_enter Try.func49, Try.ntmps49
 go_upto_region 2 with (first | ((with_reducible refine gd 4 ?_); refine bx (N := 4) (cs := #[.slice A0 l0.length c0, .int .i64 b]) (t := 32) ?_; intro m4 hg w1 hbox hb; have H4 := am hbox; have HB := am (below_step (Below.refl w.heap.size w) hb); clear hbox hb hg) | ((with_reducible refine gd 5 ?_); refine bx (N := 5) (cs := #[.int .i64 A, .int .i64 X, .int .i64 S, .int .i64 P, .bool Z, .bool N, .bool C, .bool I]) (t := 55) ?_; intro m5 hg w2 hbox hb; have Q4 := am (blk_below H4.out hb); clear H4; have H4 := Q4; clear Q4; have H5 := am hbox; have E5 : Aside0 (w.heap.size ≤ m5) := ⟨by rw [hg]; exact below_size HB.out⟩; have HB2 := am (below_step HB.out hb); clear HB; have HB := HB2; clear HB2; clear hbox hb hg) | ((with_reducible refine gd 6 ?_); refine bx (N := 6) (cs := #[.int .i64 op, .int .i64 arg]) (t := 51) ?_; intro m6 hg w3 hbox hb; have Q4 := am (blk_below H4.out hb); clear H4; have H4 := Q4; clear Q4; have Q5 := am (blk_below H5.out hb); clear H5; have H5 := Q5; clear Q5; have H6 := am hbox; have E6 : Aside0 (w.heap.size ≤ m6) := ⟨by rw [hg]; exact below_size HB.out⟩; have HB2 := am (below_step HB.out hb); clear HB; have HB := HB2; clear HB2; clear hbox hb hg) | ((with_reducible refine gd 8 ?_); refine bx (N := 8) (cs := #[.slice none 0 0, .int .i64 0]) (t := 32) ?_; intro m8 hg w4 hbox hb; have Q4 := am (blk_below H4.out hb); clear H4; have H4 := Q4; clear Q4; have Q5 := am (blk_below H5.out hb); clear H5; have H5 := Q5; clear Q5; have Q6 := am (blk_below H6.out hb); clear H6; have H6 := Q6; clear Q6; have H8 := am hbox; have E8 : Aside0 (w.heap.size ≤ m8) := ⟨by rw [hg]; exact below_size HB.out⟩; have HB2 := am (below_step HB.out hb); clear HB; have HB := HB2; clear HB2; clear hbox hb hg) | ((with_reducible refine gd 9 ?_); refine bz (N := 9) ?_; intro m9 hg w5 hbox hb; have N95 : Aside0 (m9 ≠ m5) := ⟨by rw [hg]; exact Nat.ne_of_gt (blk_lt H5.out)⟩; have Q4 := am (blk_below H4.out hb); clear H4; have H4 := Q4; clear Q4; have Q5 := am (blk_below H5.out hb); clear H5; have H5 := Q5; clear Q5; have Q6 := am (blk_below H6.out hb); clear H6; have H6 := Q6; clear Q6; have Q8 := am (blk_below H8.out hb); clear H8; have H8 := Q8; clear Q8; have H9 := am hbox; have E9 : Aside0 (w.heap.size ≤ m9) := ⟨by rw [hg]; exact below_size HB.out⟩; have HB2 := am (below_step HB.out hb); clear HB; have HB := HB2; clear HB2; have z0 : w5.cell? ⟨m4, 0, none⟩ = some (.slice A0 l0.length c0) := (blk_cell H4.out 0).trans rfl; have z1 : w5.cell? ⟨m4, 1, none⟩ = some (.int .i64 b) := (blk_cell H4.out 1).trans rfl; clear hbox hb hg) | ((with_reducible refine gd 10 ?_); refine bx (N := 10) (cs := #[.slice none 0 0, .int .i64 0]) (t := 32) ?_; intro m10 hg w7 hbox hb; have N410 : Aside0 (m4 ≠ m10) := ⟨by rw [hg]; exact Nat.ne_of_lt (blk_lt H4.out)⟩; have N810 : Aside0 (m8 ≠ m10) := ⟨by rw [hg]; exact Nat.ne_of_lt (blk_lt H8.out)⟩; have Q4 := am (blk_below H4.out hb); clear H4; have H4 := Q4; clear Q4; have Q5 := am (blk_below H5.out hb); clear H5; have H5 := Q5; clear Q5; have Q6 := am (blk_below H6.out hb); clear H6; have H6 := Q6; clear Q6; have Q8 := am (blk_below H8.out hb); clear H8; have H8 := Q8; clear Q8; have Q9 := am (blk_below H9.out hb); clear H9; have H9 := Q9; clear Q9; have H10 := am hbox; have R2 := am (Kd.R_below ROW.out hb); clear ROW; have ROW := R2; clear R2; have E10 : Aside0 (w.heap.size ≤ m10) := ⟨by rw [hg]; exact below_size HB.out⟩; have HB2 := am (below_step HB.out hb); clear HB; have HB := HB2; clear HB2; have x0 : w7.cell? ⟨m10, 0, none⟩ = some (.slice none 0 0) := (blk_cell H10.out 0).trans rfl; have fx0 := blk_frozen H10.out 0; have x1 : w7.cell? ⟨m10, 1, none⟩ = some (.int .i64 0) := (blk_cell H10.out 1).trans rfl; have fx1 := blk_frozen H10.out 1; clear hbox hb hg) | (go_at_call 78; refine (spec_l6Copy.calls A0 c0 l0 b l0 b _ (Kd.C_below HR.out HB.out) HC.out (scopy_is l0 b HLEN.out)).mono ?_; rintro e w6 ⟨v0, rfl, hR, hb⟩; obtain ⟨A2, c2, rfl⟩ := Kd.R_slice hR; have Q4 := am (blk_below H4.out hb); clear H4; have H4 := Q4; clear Q4; have Q5 := am (blk_below H5.out hb); clear H5; have H5 := Q5; clear Q5; have Q6 := am (blk_below H6.out hb); clear H6; have H6 := Q6; clear Q6; have Q8 := am (blk_below H8.out hb); clear H8; have H8 := Q8; clear Q8; have Q9 := am (blk_below H9.out hb); clear H9; have H9 := Q9; clear Q9; have ROW := am (Kd.R_lower hR (below_size HB.out)); have HB2 := am (below_step HB.out hb); clear HB; have HB := HB2; clear HB2 hR hb))
 have HX : Aside0 (SX w ((w7.setCell ⟨m10, 0, none⟩ (.slice A2 l0.length c2)).setCell ⟨m10, 1, none⟩ (.int .i64 b)) m4 m5 m6 m8 m9 m10 A0 l0.length c0 b (⟨A, X, S, P, Z, N, C, I⟩ : Cp) op arg (.slice A2 l0.length c2) l0) :=
  ⟨⟨blk_far (blk_far H4.out N410.out _) N410.out _, blk_far (blk_far H5.out (blk_ne H5.out H10.out (by decide)) _) (blk_ne H5.out H10.out (by decide)) _, blk_far (blk_far H6.out (blk_ne H6.out H10.out (by decide)) _) (blk_ne H6.out H10.out (by decide)) _, blk_far (blk_far H8.out N810.out _) N810.out _, blk_far (blk_far H9.out (blk_ne H9.out H10.out (by decide)) _) (blk_ne H9.out H10.out (by decide)) _, put2 H10.out _ _,
   Kd.R_mono (Kd.R_far (p := ⟨m10, 1, none⟩) (Kd.R_far (p := ⟨m10, 0, none⟩) (Kd.R_types ROW.out H10.out (by decide)) (fun _ hk => hk.2) _) (fun _ hk => hk.2) _) (fun _ hk => hk.1), E5.out, E8.out, E9.out, E10.out, N95.out, N410.out, N810.out, below_set (below_set HB.out E10.out) E10.out⟩⟩
 generalize ((w7.setCell ⟨m10, 0, none⟩ (.slice A2 l0.length c2)).setCell ⟨m10, 1, none⟩ (.int .i64 b)) = w8 at HX ⊢
 clear H4 H5 H6 H8 H9 H10 HB ROW E5 E6 E8 E9 E10 N95 N410 N810
 have HM5 : Aside0 (w8.heap[m5]? = some (.cells #[.int .i64 A, .int .i64 X, .int .i64 S, .int .i64 P, .bool Z, .bool N, .bool C, .bool I] 55 (0, 0))) := ⟨HX.out.h5⟩
 have HM6 := am HX.out.h6
 refine fre_ (n := 9) (e := 7) (g := 0) (T := (true, [([], []), ([0], [0]), ([], []), ([2], [2]), ([3], [3]), ([1, 4], [1, 4]), ([5, 4], [5]), ([0, 1, 2, 3, 4, 5, 6], []), ([7, 6, 6, 0, 1, 2, 3, 4, 5, 6], [6, 7])])) (bm 9 127) (bm 9 126) [19, 20, 21, 22, 23, 24, 25] (fun j u w' => match j with
  | 0 => u = .pointer (some ⟨m5, 3, none⟩)
  | 1 => u = .int .i64 P
  | 2 => u = .pointer (some ⟨m6, 0, none⟩)
  | 3 => u = .int .i64 op
  | 4 => u = .int .i64 ln
  | 5 => u = .int .i64 (wrap64 (P + ln))
  | 6 => u = .int .i64 pc
  | _ => False)
  (by kernel_rfl) rfl (by kernel_rfl) (by kernel_rfl) (by kernel_rfl) (by kernel_rfl) (fun _ _ _ _ h => h) ?stsx ?spsx ?lasx ?ensx
 case stsx =>
  intro j u W W' h hb
  exact h
 case spsx =>
  intro i hi o ho a W hB hout hneed K hK
  have HBW := am hB
  have hcase : i = 0 ∨ i = 1 ∨ i = 2 ∨ i = 3 ∨ i = 4 ∨ i = 5 ∨ i = 6 := by omega
  clear hB
  rcases hcase with rfl | rfl | rfl | rfl | rfl | rfl | rfl
  ·obtain rfl := oj ho
   have h5 : a.eval (.tmp 5) = .pointer (some ⟨m5, 0, none⟩) := hout 5 (by decide)
   have h5' := eval_get h5
   exact va_ (.pointer (some ⟨m5, 3, none⟩)) hK rfl
  ·obtain rfl := oj ho
   obtain ⟨e0, e0'⟩ := eg (show a.eval (.tmp 19) = _ from hneed 0 (by decide))
   have hb := blk_below (w := w8.drew) HM5.out HBW.out
   have d3 := (blk_cell hb 3).trans rfl
   exact va_ (.int .i64 P) hK rfl
  ·obtain rfl := oj ho
   have h6 : a.eval (.tmp 6) = .pointer (some ⟨m6, 0, none⟩) := hout 6 (by decide)
   have h6' := eval_get h6
   exact va_ (.pointer (some ⟨m6, 0, none⟩)) hK rfl
  ·obtain rfl := oj ho
   obtain ⟨e2, e2'⟩ := eg (show a.eval (.tmp 21) = _ from hneed 2 (by decide))
   have hb := blk_below (w := w8.drew) HM6.out HBW.out
   have d0 := (blk_cell hb 0).trans rfl
   exact va_ (.int .i64 op) hK rfl
  ·obtain rfl := oj ho
   obtain ⟨e3, e3'⟩ := eg (show a.eval (.tmp 22) = _ from hneed 3 (by decide))
   refine goes_ Try.func81 (by kernel_rfl) rfl #[.int .i64 op] (by rfl) rfl rfl (by simp only [List.map_toArray, List.map_cons, List.map_nil, e3]) ?_
   refine (spec_OpLen.calls op ln W HL.out).mono ?_
   rintro e w' ⟨rfl, hb⟩
   exact ⟨_, rfl, hK.out _ _ hb rfl⟩
  ·obtain rfl := oj ho
   obtain ⟨e1, e1'⟩ := eg (show a.eval (.tmp 20) = _ from hneed 1 (by decide))
   obtain ⟨e4, e4'⟩ := eg (show a.eval (.tmp 23) = _ from hneed 4 (by decide))
   exact va_ (.int .i64 (wrap64 (P + ln))) hK rfl (by go_simp; first | done | rfl | simp only [i64_w])
  ·obtain rfl := oj ho
   obtain ⟨e5, e5'⟩ := eg (show a.eval (.tmp 24) = _ from hneed 5 (by decide))
   refine goes_ Try.func61 (by kernel_rfl) rfl #[.int .i64 (wrap64 (P + ln))] (by rfl) rfl rfl (by simp only [List.map_toArray, List.map_cons, List.map_nil, e5]) ?_
   refine (spec_Addr.calls (wrap64 (P + ln)) pc W HP.out).mono ?_
   rintro e w' ⟨rfl, nd, rfl⟩
   exact ⟨_, rfl, hK.out _ _ (pw_below_drewN (Below.refl _ _) nd) rfl⟩
 case lasx =>
  intro o ho a W hout hneed
  obtain rfl := oj ho
  have h5 : a.eval (.tmp 5) = .pointer (some ⟨m5, 0, none⟩) := hout 5 (by decide)
  have h5' := eval_get h5
  refine ⟨.pointer (some ⟨m5, 3, none⟩), rfl, Or.inl ⟨by rfl, ?_⟩⟩
  intro w'
  go_simp
 intro f vs W2 hB hE
 have HBW := am hB
 clear hB
 have q0 : vs 0 = _ := hE 0 (by decide)
 have q1 : vs 1 = _ := hE 1 (by decide)
 have q2 : vs 2 = _ := hE 2 (by decide)
 have q3 : vs 3 = _ := hE 3 (by decide)
 have q4 : vs 4 = _ := hE 4 (by decide)
 have q5 : vs 5 = _ := hE 5 (by decide)
 have q6 : vs 6 = _ := hE 6 (by decide)
 show wpAnyLast _ _ _ _ _ _ (f + 2) _ (putAll _ [(19, vs 0), (20, vs 1), (21, vs 2), (22, vs 3), (23, vs 4), (24, vs 5), (25, vs 6)]) W2
 rw [q0, q1, q2, q3, q4, q5, q6]
 clear q0 q1 q2 q3 q4 q5 q6 hE
 refine norm_ (a' := ?_) ?_ ?_
 rotate_left
 ·simp only [putAll, Act.put, List.setIfInBounds_toArray, List.set_cons_zero, List.set_cons_succ]
  rfl
 refine pv_ 7 (some 26) (bm 9 255) ?_
 refine ov_ 8 none (bm 9 511) (fun K hK => ?_)
 refine skip_ (w1 := ?_) (by rfl) rfl ?_ ?_
 rotate_left
 ·skip
  have hcW := blk_below (w := w8.drew) HM5.out HBW.out
  obtain ⟨⟨t0, t1, t2, t3, t4, t5, t6, t7⟩, ⟨ft0, ft1, ft2, ft3, ft4, ft5, ft6, ft7⟩⟩ := cells8 (hcW)
  go_simp
  rfl
 refine hK.out _ _ trivial (fun _ => ?_)
 clear hK K
 refine done_ (by kernel_rfl) ?_
 have HY : Aside0 (SX w (W2.setCell ⟨m5, 3, none⟩ (.int .i64 pc)) m4 m5 m6 m8 m9 m10 A0 l0.length c0 b (⟨A, X, S, pc, Z, N, C, I⟩ : Cp) op arg (.slice A2 l0.length c2) l0) := ⟨(HX.out.drew.later HBW.out).setC 3 _ rfl⟩
 clear HX HM5 HM6 HBW
 generalize (W2.setCell ⟨m5, 3, none⟩ (.int .i64 pc)) = w9 at HY ⊢
 have HX := HY
 clear HY
 generalize hq : aluF (⟨A, X, S, pc, Z, N, C, I⟩ : Cp) op arg v = q at *
 obtain ⟨⟨qa, qx, qs, qp, qz, qn, qc, qi⟩, qb⟩ := q
 have HA := am hq
 have HALU : Aside0 (∀ w : World, Calls Try.prog 90 #[.agg #[.int .i64 A, .int .i64 X, .int .i64 S, .int .i64 pc, .bool Z, .bool N, .bool C, .bool I], .agg #[.int .i64 op, .int .i64 arg], .int .i64 v] w fun e w' => e = .returned (.tuple #[.agg #[.int .i64 qa, .int .i64 qx, .int .i64 qs, .int .i64 qp, .bool qz, .bool qn, .bool qc, .bool qi], .bool qb]) ∧ Below w.heap.size w w') := ⟨fun w' => by have := alu_calls (⟨A, X, S, pc, Z, N, C, I⟩ : Cp) op arg v w'; rw [hq] at this; exact this⟩
 clear hq
 obtain ⟨⟨y0, y1, y2, y3, y4, y5, y6, y7⟩, ⟨fy0, fy1, fy2, fy3, fy4, fy5, fy6, fy7⟩⟩ := cells8 (HX.out.h5)
 have z0 : w9.cell? ⟨m6, 0, none⟩ = some (.int .i64 op) := (blk_cell HX.out.h6 0).trans rfl
 have z1 : w9.cell? ⟨m6, 1, none⟩ = some (.int .i64 arg) := (blk_cell HX.out.h6 1).trans rfl
 go_upto_region 4 with (first | (go_at_call 90; refine (HALU.out _).mono ?_; rintro e w10 ⟨rfl, hb⟩; have HXa := am (HX.out.later hb); clear hb) | ((with_reducible refine gd 11 ?_); refine bz (N := 11) ?_; intro m11 hg w11 hbox hb; have H11 := am hbox; have E11 : Aside0 (w10.heap.size ≤ m11) := ⟨by rw [hg]; exact Nat.le_refl _⟩; have HB11 := am hb; clear hbox hb hg; obtain ⟨⟨u0, u1, u2, u3, u4, u5, u6, u7⟩, ⟨fu0, fu1, fu2, fu3, fu4, fu5, fu6, fu7⟩⟩ := cells8 (H11.out)))
 have H11n : Aside0 (((((((((w11.setCell ⟨m11, 0, none⟩ (.int .i64 qa)).setCell ⟨m11, 1, none⟩ (.int .i64 qx)).setCell ⟨m11, 2, none⟩ (.int .i64 qs)).setCell ⟨m11, 3, none⟩ (.int .i64 qp)).setCell ⟨m11, 4, none⟩ (.bool qz)).setCell ⟨m11, 5, none⟩ (.bool qn)).setCell ⟨m11, 6, none⟩ (.bool qc)).setCell ⟨m11, 7, none⟩ (.bool qi)).heap[m11]? = some (.cells #[.int .i64 qa, .int .i64 qx, .int .i64 qs, .int .i64 qp, .bool qz, .bool qn, .bool qc, .bool qi] 55 (0, 0))) := ⟨put8 H11.out _ _ _ _ _ _ _ _⟩
 have HXn : Aside0 (SX w ((((((((w11.setCell ⟨m11, 0, none⟩ (.int .i64 qa)).setCell ⟨m11, 1, none⟩ (.int .i64 qx)).setCell ⟨m11, 2, none⟩ (.int .i64 qs)).setCell ⟨m11, 3, none⟩ (.int .i64 qp)).setCell ⟨m11, 4, none⟩ (.bool qz)).setCell ⟨m11, 5, none⟩ (.bool qn)).setCell ⟨m11, 6, none⟩ (.bool qc)).setCell ⟨m11, 7, none⟩ (.bool qi)) m4 m5 m6 m8 m9 m10 A0 l0.length c0 b (⟨A, X, S, pc, Z, N, C, I⟩ : Cp) op arg (.slice A2 l0.length c2) l0) := ⟨HXa.out.later (below8 HB11.out E11.out _ _ _ _ _ _ _ _)⟩
 have E11n : Aside0 (w.heap.size ≤ m11 ∧ m11 ≠ m9) := ⟨⟨Nat.le_trans HXa.out.below.size E11.out, Nat.ne_of_gt (Nat.lt_of_lt_of_le (blk_lt HXa.out.h9) E11.out)⟩⟩
 generalize ((((((((w11.setCell ⟨m11, 0, none⟩ (.int .i64 qa)).setCell ⟨m11, 1, none⟩ (.int .i64 qx)).setCell ⟨m11, 2, none⟩ (.int .i64 qs)).setCell ⟨m11, 3, none⟩ (.int .i64 qp)).setCell ⟨m11, 4, none⟩ (.bool qz)).setCell ⟨m11, 5, none⟩ (.bool qn)).setCell ⟨m11, 6, none⟩ (.bool qc)).setCell ⟨m11, 7, none⟩ (.bool qi)) = w12 at H11n HXn ⊢
 clear HX HXa H11 HB11 E11 HALU
 cases qb with
 | true =>
  have HX := HXn
  have HM4 := am HX.out.h10
  have HC4 := H11n
  have HB1 := am HX.out.h8
  have HB2 := am HX.out.h9
  have h4 : MC w w12 m10 m11 (.slice A2 l0.length c2) b ⟨qa, qx, qs, qp, qz, qn, qc, qi⟩ l0 := ⟨HX.out.h10, H11n.out, HX.out.row, HX.out.e10, E11n.out.1, HX.out.below⟩
  go_wp2
  have hne12 : m8 ≠ m9 := blk_ne HX.out.h8 HX.out.h9 (by decide)
  have hne21 : m9 ≠ m8 := Ne.symm hne12
  have o1 : m10 ≠ m8 := Ne.symm HX.out.n810
  have o2 : m10 ≠ m9 := blk_ne HX.out.h10 HX.out.h9 (by decide)
  have o3 : m11 ≠ m8 := blk_ne H11n.out HX.out.h8 (by decide)
  have o4 : m11 ≠ m9 := E11n.out.2
  have he8 : w.heap.size ≤ m8 := HX.out.e8
  have he9 : w.heap.size ≤ m9 := HX.out.e9
  refine start_ (n := 4) (S := fun w' => w'.heap[m10]? = some (.cells #[.slice A2 l0.length c2, .int .i64 b] 32 (0, 0)) ∧ w'.heap[m11]? = some (.cells #[.int .i64 qa, .int .i64 qx, .int .i64 qs, .int .i64 qp, .bool qz, .bool qn, .bool qc, .bool qi] 55 (0, 0))) (ds := []) (bm 4 0) (by kernel_rfl) rfl (by kernel_rfl) ⟨HM4.out, HC4.out⟩ (fun hHeld => ?_)
  refine take_ (i := 0) (N := some 35) (v := ?_) (a' := ?_) #[true, false, false, false] rfl rfl (by kernel_rfl) (fun _ _ _ h => h) (Or.inl ⟨by rfl, ?_⟩) hHeld ?_ ?_
  rotate_left
  ·rintro w' ⟨s0, s1⟩
   have a0 : w'.cell? ⟨m10, 0, none⟩ = some (.slice A2 l0.length c2) := (blk_cell s0 0).trans rfl
   have a1 : w'.cell? ⟨m10, 1, none⟩ = some (.int .i64 b) := (blk_cell s0 1).trans rfl
   clear s0 s1
   go_simp
   with_reducible rfl
  rotate_left
  ·simp only [Act.put, List.setIfInBounds_toArray, List.set_cons_zero, List.set_cons_succ, i64_w, i32_w]
   rfl
  refine take_ (i := 1) (N := some 36) (v := ?_) (a' := ?_) #[true, true, false, false] rfl rfl (by kernel_rfl) (fun _ _ _ h => h) (Or.inl ⟨by rfl, ?_⟩) hHeld ?_ ?_
  rotate_left
  ·rintro w' ⟨s0, s1⟩
   have b0 : w'.cell? ⟨m11, 0, none⟩ = some (.int .i64 qa) := (blk_cell s1 0).trans rfl
   have b1 : w'.cell? ⟨m11, 1, none⟩ = some (.int .i64 qx) := (blk_cell s1 1).trans rfl
   have b2 : w'.cell? ⟨m11, 2, none⟩ = some (.int .i64 qs) := (blk_cell s1 2).trans rfl
   have b3 : w'.cell? ⟨m11, 3, none⟩ = some (.int .i64 qp) := (blk_cell s1 3).trans rfl
   have b4 : w'.cell? ⟨m11, 4, none⟩ = some (.bool qz) := (blk_cell s1 4).trans rfl
   have b5 : w'.cell? ⟨m11, 5, none⟩ = some (.bool qn) := (blk_cell s1 5).trans rfl
   have b6 : w'.cell? ⟨m11, 6, none⟩ = some (.bool qc) := (blk_cell s1 6).trans rfl
   have b7 : w'.cell? ⟨m11, 7, none⟩ = some (.bool qi) := (blk_cell s1 7).trans rfl
   clear s0 s1
   go_simp
   with_reducible rfl
  rotate_left
  ·simp only [Act.put, List.setIfInBounds_toArray, List.set_cons_zero, List.set_cons_succ, i64_w, i32_w]
   rfl
  refine ov_ 2 none (bm 4 7) (fun K hK => ?_)
  refine skip_ (w1 := ?_) (by rfl) rfl ?_ ?_
  rotate_left
  ·have r0 : w12.cell? ⟨m8, 0, none⟩ = some (.slice none 0 0) := (blk_cell HB1.out 0).trans rfl
   have r1 : w12.cell? ⟨m8, 1, none⟩ = some (.int .i64 0) := (blk_cell HB1.out 1).trans rfl
   have f0 := blk_frozen HB1.out 0
   have f1 := blk_frozen HB1.out 1
   go_simp
   rfl
  refine hK.out _ _ ⟨(heap2 _ _ _ _ _ o1).trans hHeld.1, (heap2 _ _ _ _ _ o3).trans hHeld.2⟩ (fun hHeld => ?_)
  clear hK K
  have g0 := (heap_drew _ _).symm.trans hHeld.1
  have g1 := (heap_drew _ _).symm.trans hHeld.2
  have g2 : ((w12.setCell ⟨m8, 0, none⟩ (.slice A2 l0.length c2)).setCell ⟨m8, 1, none⟩ (.int .i64 b)).heap[m9]? = _ := (heap2 w12 (m8) (m9) (.slice A2 l0.length c2) (.int .i64 b) hne21).trans HB2.out
  have g3 : ((w12.setCell ⟨m8, 0, none⟩ (.slice A2 l0.length c2)).setCell ⟨m8, 1, none⟩ (.int .i64 b)).heap[m8]? = _ := put2 HB1.out (.slice A2 l0.length c2) (.int .i64 b)
  have g4 : Kd.R (Kd.int .i64) 3 ((w12.setCell ⟨m8, 0, none⟩ (.slice A2 l0.length c2)).setCell ⟨m8, 1, none⟩ (.int .i64 b)) w.heap.size (fun _ => True) (.slice A2 l0.length c2) l0 :=
   Kd.R_mono (Kd.R_far (p := ⟨m8, 1, none⟩) (Kd.R_far (p := ⟨m8, 0, none⟩) (Kd.R_types h4.row HB1.out (by decide)) (fun _ hk => hk.2) (.slice A2 l0.length c2)) (fun _ hk => hk.2) (.int .i64 b)) (fun _ hk => trivial)
  have g5 : Below w.heap.size w ((w12.setCell ⟨m8, 0, none⟩ (.slice A2 l0.length c2)).setCell ⟨m8, 1, none⟩ (.int .i64 b)) := below_set (below_set h4.below (by omega)) (by omega)
  clear HB1 HB2 HM4 HC4 h4
  generalize ((w12.setCell ⟨m8, 0, none⟩ (.slice A2 l0.length c2)).setCell ⟨m8, 1, none⟩ (.int .i64 b)) = W5 at *
  have G2 := am g2
  have G3 := am g3
  have G4 := am g4
  have G5 := am g5
  have G0 := am g0
  have G1 := am g1
  clear g0 g1 g2 g3 g4 g5
  refine ov_ 3 none (bm 4 15) (fun K hK => ?_)
  refine skip_ (w1 := ?_) (by rfl) rfl ?_ ?_
  rotate_left
  ·skip
   have r0 : W5.cell? ⟨m9, 0, none⟩ = some (.int .i64 0) := (blk_cell G2.out 0).trans rfl
   have f0 := blk_frozen G2.out 0
   have r1 : W5.cell? ⟨m9, 1, none⟩ = some (.int .i64 0) := (blk_cell G2.out 1).trans rfl
   have f1 := blk_frozen G2.out 1
   have r2 : W5.cell? ⟨m9, 2, none⟩ = some (.int .i64 0) := (blk_cell G2.out 2).trans rfl
   have f2 := blk_frozen G2.out 2
   have r3 : W5.cell? ⟨m9, 3, none⟩ = some (.int .i64 0) := (blk_cell G2.out 3).trans rfl
   have f3 := blk_frozen G2.out 3
   have r4 : W5.cell? ⟨m9, 4, none⟩ = some (.bool false) := (blk_cell G2.out 4).trans rfl
   have f4 := blk_frozen G2.out 4
   have r5 : W5.cell? ⟨m9, 5, none⟩ = some (.bool false) := (blk_cell G2.out 5).trans rfl
   have f5 := blk_frozen G2.out 5
   have r6 : W5.cell? ⟨m9, 6, none⟩ = some (.bool false) := (blk_cell G2.out 6).trans rfl
   have f6 := blk_frozen G2.out 6
   have r7 : W5.cell? ⟨m9, 7, none⟩ = some (.bool false) := (blk_cell G2.out 7).trans rfl
   have f7 := blk_frozen G2.out 7
   go_simp
   rfl
  refine hK.out _ _ ⟨(heap_drew _ _).trans ((heap8 W5 (m9) _ _ _ _ _ _ _ _ _ o2).trans G0.out), (heap_drew _ _).trans ((heap8 W5 (m9) _ _ _ _ _ _ _ _ _ o4).trans G1.out)⟩ (fun hHeld => ?_)
  clear hK K
  refine done_ (by kernel_rfl) ?_
  try go_wp2
  refine bodyPost_ret (results_cc rfl _ _ (m8) (m9) 32 55 #[.slice A2 l0.length c2, .int .i64 b] #[.int .i64 qa, .int .i64 qx, .int .i64 qs, .int .i64 qp, .bool qz, .bool qn, .bool qc, .bool qi] (0, 0) (0, 0) _ _ rfl ((heap_drew _ _).trans ((heap8 W5 (m9) _ _ _ _ _ _ _ _ _ hne12).trans G3.out)) hu37 rfl (by kernel_rfl) rfl ((heap_drew _ _).trans (put8 G2.out _ _ _ _ _ _ _ _)) hu38 rfl (by kernel_rfl)) rfl ?_
  have e_ : sexecF l0 (⟨A, X, S, P, Z, N, C, I⟩ : Cp) op arg v ln = (l0, ⟨qa, qx, qs, qp, qz, qn, qc, qi⟩) := by
   unfold sexecF
   simp only [EP.out, HA.out, if_true]
  rw [e_]
  exact ⟨_, rfl, Kd.R_drew (row8 G4.out G2.out _ _ _ _ _ _ _ _), below_drew1 (below8 G5.out he9 _ _ _ _ _ _ _ _)⟩
 | false =>
  have HS : Aside0 (sexecF l0 (⟨A, X, S, P, Z, N, C, I⟩ : Cp) op arg v ln = switchF l0 (⟨A, X, S, pc, Z, N, C, I⟩ : Cp) op arg) := ⟨by
   unfold sexecF
   simp only [EP.out, HA.out, Bool.false_eq_true, if_false]⟩
  have HX := HXn
  clear HXn H11n E11n HA
  obtain ⟨⟨y0, y1, y2, y3, y4, y5, y6, y7⟩, ⟨fy0, fy1, fy2, fy3, fy4, fy5, fy6, fy7⟩⟩ := cells8 (HX.out.h5)
  have z0 : w12.cell? ⟨m6, 0, none⟩ = some (.int .i64 op) := (blk_cell HX.out.h6 0).trans rfl
  have z1 : w12.cell? ⟨m6, 1, none⟩ = some (.int .i64 arg) := (blk_cell HX.out.h6 1).trans rfl
  have xx0 : w12.cell? ⟨m4, 0, none⟩ = some (.slice A0 l0.length c0) := (blk_cell HX.out.h4 0).trans rfl
  have xx1 : w12.cell? ⟨m4, 1, none⟩ = some (.int .i64 b) := (blk_cell HX.out.h4 1).trans rfl
  have xo0 : w12.cell? ⟨m10, 0, none⟩ = some (.slice A2 l0.length c2) := (blk_cell HX.out.h10 0).trans rfl
  have fxo0 := blk_frozen HX.out.h10 0
  have xo1 : w12.cell? ⟨m10, 1, none⟩ = some (.int .i64 b) := (blk_cell HX.out.h10 1).trans rfl
  have fxo1 := blk_frozen HX.out.h10 1
  go_upto_block 0 with fail
  go_cut [] (fun wc => ∃ (rv : Value) (ram : List Int) (kk : Cp), Aside0 (switchF l0 (⟨A, X, S, pc, Z, N, C, I⟩ : Cp) op arg = (ram, kk)) ∧ Aside0 (SX w wc m4 m5 m6 m8 m9 m10 A0 l0.length c0 b kk op arg rv ram))
  ·skip
   by_cases h16 : op = 16
   ·subst h16
    cases Z
    ·skip
     go_wp2_with (go_at_call 61; refine (spec_Addr.calls arg tgt _ HT.out).mono ?_; rintro e w13 ⟨rfl, nd, rfl⟩)
     go_meet
     case rel =>
      refine ⟨_, _, _, ⟨?_⟩, ⟨(HX.out.drewN nd).setC (k' := ⟨A, X, S, tgt, false, N, C, I⟩) 3 _ rfl⟩⟩
      simp [switchF, ET.out]
    ·skip
     go_wp2
     go_meet
     case rel =>
      refine ⟨_, _, _, ⟨?_⟩, ⟨HX.out⟩⟩
      simp [switchF, ET.out]
   by_cases h17 : op = 17
   ·subst h17
    cases Z
    ·skip
     go_wp2
     go_meet
     case rel =>
      refine ⟨_, _, _, ⟨?_⟩, ⟨HX.out⟩⟩
      simp [switchF, ET.out]
    ·skip
     go_wp2_with (go_at_call 61; refine (spec_Addr.calls arg tgt _ HT.out).mono ?_; rintro e w13 ⟨rfl, nd, rfl⟩)
     go_meet
     case rel =>
      refine ⟨_, _, _, ⟨?_⟩, ⟨(HX.out.drewN nd).setC (k' := ⟨A, X, S, tgt, true, N, C, I⟩) 3 _ rfl⟩⟩
      simp [switchF, ET.out]
   by_cases h18 : op = 18
   ·subst h18
    cases C
    ·skip
     go_wp2
     go_meet
     case rel =>
      refine ⟨_, _, _, ⟨?_⟩, ⟨HX.out⟩⟩
      simp [switchF, ET.out]
    ·skip
     go_wp2_with (go_at_call 61; refine (spec_Addr.calls arg tgt _ HT.out).mono ?_; rintro e w13 ⟨rfl, nd, rfl⟩)
     go_meet
     case rel =>
      refine ⟨_, _, _, ⟨?_⟩, ⟨(HX.out.drewN nd).setC (k' := ⟨A, X, S, tgt, Z, N, true, I⟩) 3 _ rfl⟩⟩
      simp [switchF, ET.out]
   by_cases h19 : op = 19
   ·subst h19
    go_wp2_with (go_at_call 61; refine (spec_Addr.calls arg tgt _ HT.out).mono ?_; rintro e w13 ⟨rfl, nd, rfl⟩)
    go_meet
    case rel =>
     refine ⟨_, _, _, ⟨?_⟩, ⟨(HX.out.drewN nd).setC (k' := ⟨A, X, S, tgt, Z, N, C, I⟩) 3 _ rfl⟩⟩
     simp [switchF, ET.out]
   have n16 : (op == 16) = false := beq_eq_false_iff_ne.mpr h16
   have n17 : (op == 17) = false := beq_eq_false_iff_ne.mpr h17
   have n18 : (op == 18) = false := beq_eq_false_iff_ne.mpr h18
   have n19 : (op == 19) = false := beq_eq_false_iff_ne.mpr h19
   go_upto_region 13 with fail
   by_cases h20 : op = 20
   ·subst h20
    obtain ⟨ram1, s1, hp1, e1, n1⟩ := spush_ex l0 b (⟨A, X, S, pc, Z, N, C, I⟩ : Cp) (pc / 256) HLEN.out
    obtain ⟨ram2, s2, hp2, e2, n2⟩ := spush_ex ram1 b (⟨A, X, s1, pc, Z, N, C, I⟩ : Cp) pc (by rw [n1]; exact HLEN.out)
    have e3 : pushPcF l0 (⟨A, X, S, pc, Z, N, C, I⟩ : Cp) = (ram2, ⟨A, X, s2, pc, Z, N, C, I⟩) := by
     unfold pushPcF
     simp only
     rw [e1]
     exact e2
    have HP1 := am hp1
    have HP2 := am hp2
    have E3 := am e3
    clear hp1 hp2 e1 e2 e3 n1 n2
    go_upto_region 15 with (go_at_call 91; refine (spec_Push.calls A2 c2 l0 b A X S pc Z N C I (pc / 256) ram1 b A X s1 pc Z N C I _ (Kd.R_reads' HX.out.row).2.2 (Kd.R_reads' HX.out.row).2.1 HP1.out).mono ?_; rintro e wp1 ⟨v0, rfl, hR, hb⟩; obtain ⟨A3, c3, rfl⟩ := Kd.R_slice hR; have HXa := am (HX.out.later hb); have nm1 : m10 ≠ m5 := blk_ne HXa.out.h10 HXa.out.h5 (by decide); have nm2 : m5 ≠ m10 := Ne.symm nm1; have ROWa := am (Kd.R_lower hR HX.out.below.size); clear hR hb; obtain ⟨⟨p0, p1, p2, p3, p4, p5, p6, p7⟩, ⟨fp0, fp1, fp2, fp3, fp4, fp5, fp6, fp7⟩⟩ := cells8 (HXa.out.h5); have po0 : wp1.cell? ⟨m10, 0, none⟩ = some (.slice A2 l0.length c2) := (blk_cell HXa.out.h10 0).trans rfl; have fpo0 := blk_frozen HXa.out.h10 0; have po1 : wp1.cell? ⟨m10, 1, none⟩ = some (.int .i64 b) := (blk_cell HXa.out.h10 1).trans rfl; have fpo1 := blk_frozen HXa.out.h10 1)
    have HXb : Aside0 (SX w ((((((((((wp1.setCell ⟨m10, 0, none⟩ (.slice A3 ram1.length c3)).setCell ⟨m10, 1, none⟩ (.int .i64 b)).setCell ⟨m5, 0, none⟩ (.int .i64 A)).setCell ⟨m5, 1, none⟩ (.int .i64 X)).setCell ⟨m5, 2, none⟩ (.int .i64 s1)).setCell ⟨m5, 3, none⟩ (.int .i64 pc)).setCell ⟨m5, 4, none⟩ (.bool Z)).setCell ⟨m5, 5, none⟩ (.bool N)).setCell ⟨m5, 6, none⟩ (.bool C)).setCell ⟨m5, 7, none⟩ (.bool I)) m4 m5 m6 m8 m9 m10 A0 l0.length c0 b (⟨A, X, s1, pc, Z, N, C, I⟩ : Cp) 20 arg (.slice A3 ram1.length c3) ram1) := ⟨(HXa.out.put10 ROWa.out).put8 _ _ _ _ _ _ _ _⟩
    generalize ((((((((((wp1.setCell ⟨m10, 0, none⟩ (.slice A3 ram1.length c3)).setCell ⟨m10, 1, none⟩ (.int .i64 b)).setCell ⟨m5, 0, none⟩ (.int .i64 A)).setCell ⟨m5, 1, none⟩ (.int .i64 X)).setCell ⟨m5, 2, none⟩ (.int .i64 s1)).setCell ⟨m5, 3, none⟩ (.int .i64 pc)).setCell ⟨m5, 4, none⟩ (.bool Z)).setCell ⟨m5, 5, none⟩ (.bool N)).setCell ⟨m5, 6, none⟩ (.bool C)).setCell ⟨m5, 7, none⟩ (.bool I)) = wn3 at HXb ⊢
    clear HX HXa ROWa
    have HX := HXb
    clear HXb
    obtain ⟨⟨r0, r1, r2, r3, r4, r5, r6, r7⟩, ⟨fr0, fr1, fr2, fr3, fr4, fr5, fr6, fr7⟩⟩ := cells8 (HX.out.h5)
    have rz0 : wn3.cell? ⟨m6, 0, none⟩ = some (.int .i64 20) := (blk_cell HX.out.h6 0).trans rfl
    have rz1 : wn3.cell? ⟨m6, 1, none⟩ = some (.int .i64 arg) := (blk_cell HX.out.h6 1).trans rfl
    have ro0 : wn3.cell? ⟨m10, 0, none⟩ = some (.slice A3 ram1.length c3) := (blk_cell HX.out.h10 0).trans rfl
    have fro0 := blk_frozen HX.out.h10 0
    have ro1 : wn3.cell? ⟨m10, 1, none⟩ = some (.int .i64 b) := (blk_cell HX.out.h10 1).trans rfl
    have fro1 := blk_frozen HX.out.h10 1
    go_upto_region 16 with (go_at_call 91; refine (spec_Push.calls A3 c3 ram1 b A X s1 pc Z N C I pc ram2 b A X s2 pc Z N C I _ (Kd.R_reads' HX.out.row).2.2 (Kd.R_reads' HX.out.row).2.1 HP2.out).mono ?_; rintro e wp2 ⟨v0, rfl, hR, hb⟩; obtain ⟨A5, c5, rfl⟩ := Kd.R_slice hR; have HXa := am (HX.out.later hb); have nm1 : m10 ≠ m5 := blk_ne HXa.out.h10 HXa.out.h5 (by decide); have nm2 : m5 ≠ m10 := Ne.symm nm1; have ROWa := am (Kd.R_lower hR HX.out.below.size); clear hR hb; obtain ⟨⟨p0, p1, p2, p3, p4, p5, p6, p7⟩, ⟨fp0, fp1, fp2, fp3, fp4, fp5, fp6, fp7⟩⟩ := cells8 (HXa.out.h5); have po0 : wp2.cell? ⟨m10, 0, none⟩ = some (.slice A3 ram1.length c3) := (blk_cell HXa.out.h10 0).trans rfl; have fpo0 := blk_frozen HXa.out.h10 0; have po1 : wp2.cell? ⟨m10, 1, none⟩ = some (.int .i64 b) := (blk_cell HXa.out.h10 1).trans rfl; have fpo1 := blk_frozen HXa.out.h10 1)
    have HXb : Aside0 (SX w ((((((((((wp2.setCell ⟨m10, 0, none⟩ (.slice A5 ram2.length c5)).setCell ⟨m10, 1, none⟩ (.int .i64 b)).setCell ⟨m5, 0, none⟩ (.int .i64 A)).setCell ⟨m5, 1, none⟩ (.int .i64 X)).setCell ⟨m5, 2, none⟩ (.int .i64 s2)).setCell ⟨m5, 3, none⟩ (.int .i64 pc)).setCell ⟨m5, 4, none⟩ (.bool Z)).setCell ⟨m5, 5, none⟩ (.bool N)).setCell ⟨m5, 6, none⟩ (.bool C)).setCell ⟨m5, 7, none⟩ (.bool I)) m4 m5 m6 m8 m9 m10 A0 l0.length c0 b (⟨A, X, s2, pc, Z, N, C, I⟩ : Cp) 20 arg (.slice A5 ram2.length c5) ram2) := ⟨(HXa.out.put10 ROWa.out).put8 _ _ _ _ _ _ _ _⟩
    generalize ((((((((((wp2.setCell ⟨m10, 0, none⟩ (.slice A5 ram2.length c5)).setCell ⟨m10, 1, none⟩ (.int .i64 b)).setCell ⟨m5, 0, none⟩ (.int .i64 A)).setCell ⟨m5, 1, none⟩ (.int .i64 X)).setCell ⟨m5, 2, none⟩ (.int .i64 s2)).setCell ⟨m5, 3, none⟩ (.int .i64 pc)).setCell ⟨m5, 4, none⟩ (.bool Z)).setCell ⟨m5, 5, none⟩ (.bool N)).setCell ⟨m5, 6, none⟩ (.bool C)).setCell ⟨m5, 7, none⟩ (.bool I)) = wn5 at HXb ⊢
    clear HX HXa ROWa
    have HX := HXb
    clear HXb
    obtain ⟨⟨r0, r1, r2, r3, r4, r5, r6, r7⟩, ⟨fr0, fr1, fr2, fr3, fr4, fr5, fr6, fr7⟩⟩ := cells8 (HX.out.h5)
    have rz0 : wn5.cell? ⟨m6, 0, none⟩ = some (.int .i64 20) := (blk_cell HX.out.h6 0).trans rfl
    have rz1 : wn5.cell? ⟨m6, 1, none⟩ = some (.int .i64 arg) := (blk_cell HX.out.h6 1).trans rfl
    have ro0 : wn5.cell? ⟨m10, 0, none⟩ = some (.slice A5 ram2.length c5) := (blk_cell HX.out.h10 0).trans rfl
    have fro0 := blk_frozen HX.out.h10 0
    have ro1 : wn5.cell? ⟨m10, 1, none⟩ = some (.int .i64 b) := (blk_cell HX.out.h10 1).trans rfl
    have fro1 := blk_frozen HX.out.h10 1
    go_wp2_with (go_at_call 61; refine (spec_Addr.calls arg tgt _ HT.out).mono ?_; rintro e w13 ⟨rfl, nd, rfl⟩)
    go_meet
    case rel =>
     refine ⟨_, _, _, ⟨?_⟩, ⟨(HX.out.drewN nd).setC (k' := ⟨A, X, s2, tgt, Z, N, C, I⟩) 3 _ rfl⟩⟩
     simp [switchF, ET.out, E3.out]
   have n20 : (op == 20) = false := beq_eq_false_iff_ne.mpr h20
   go_upto_region 17 with fail
   by_cases h21 : op = 21
   ·subst h21
    generalize hq : sbackF l0 (⟨A, X, S, pc, Z, N, C, I⟩ : Cp) = q at *
    obtain ⟨qa, qx, qs, qp, qz, qn, qc, qi⟩ := q
    have HQ := am hq
    have HBK : Aside0 (∀ w' : World, Below w.heap.size w w' → Calls Try.prog 92 #[.agg #[.slice A0 l0.length c0, .int .i64 b], .agg #[.int .i64 A, .int .i64 X, .int .i64 S, .int .i64 pc, .bool Z, .bool N, .bool C, .bool I]] w' fun e w'' => e = .returned (.agg #[.int .i64 qa, .int .i64 qx, .int .i64 qs, .int .i64 qp, .bool qz, .bool qn, .bool qc, .bool qi]) ∧ Below w'.heap.size w' w'') := ⟨fun w' hB => by have := sback_calls A0 c0 l0 b (⟨A, X, S, pc, Z, N, C, I⟩ : Cp) w' (Kd.C_below HR.out hB) HC.out; rw [hq] at this; exact this⟩
    clear hq
    go_wp2_with (go_at_call 92; refine (HBK.out _ HX.out.below).mono ?_; rintro e w13 ⟨rfl, hb⟩; have HXa := am (HX.out.later hb); clear hb; obtain ⟨⟨p0, p1, p2, p3, p4, p5, p6, p7⟩, ⟨fp0, fp1, fp2, fp3, fp4, fp5, fp6, fp7⟩⟩ := cells8 (HXa.out.h5))
    go_meet
    case rel =>
     refine ⟨_, _, _, ⟨?_⟩, ⟨HXa.out.put8 _ _ _ _ _ _ _ _⟩⟩
     simp [switchF, HQ.out]
   have n21 : (op == 21) = false := beq_eq_false_iff_ne.mpr h21
   go_upto_region 19 with fail
   by_cases h22 : op = 22
   ·subst h22
    obtain ⟨ram1, s1, hp1, e1, n1⟩ := spush_ex l0 b (⟨A, X, S, pc, Z, N, C, I⟩ : Cp) A HLEN.out
    have HP1 := am hp1
    have E1 := am e1
    clear hp1 e1 n1
    go_wp2_with (go_at_call 91; refine (spec_Push.calls A2 c2 l0 b A X S pc Z N C I A ram1 b A X s1 pc Z N C I _ (Kd.R_reads' HX.out.row).2.2 (Kd.R_reads' HX.out.row).2.1 HP1.out).mono ?_; rintro e wp1 ⟨v0, rfl, hR, hb⟩; obtain ⟨A3, c3, rfl⟩ := Kd.R_slice hR; have HXa := am (HX.out.later hb); have nm1 : m10 ≠ m5 := blk_ne HXa.out.h10 HXa.out.h5 (by decide); have nm2 : m5 ≠ m10 := Ne.symm nm1; have ROWa := am (Kd.R_lower hR HX.out.below.size); clear hR hb; obtain ⟨⟨p0, p1, p2, p3, p4, p5, p6, p7⟩, ⟨fp0, fp1, fp2, fp3, fp4, fp5, fp6, fp7⟩⟩ := cells8 (HXa.out.h5); have po0 : wp1.cell? ⟨m10, 0, none⟩ = some (.slice A2 l0.length c2) := (blk_cell HXa.out.h10 0).trans rfl; have fpo0 := blk_frozen HXa.out.h10 0; have po1 : wp1.cell? ⟨m10, 1, none⟩ = some (.int .i64 b) := (blk_cell HXa.out.h10 1).trans rfl; have fpo1 := blk_frozen HXa.out.h10 1)
    go_meet
    case rel =>
     refine ⟨_, _, _, ⟨?_⟩, ⟨(HXa.out.put10 ROWa.out).put8 _ _ _ _ _ _ _ _⟩⟩
     simp [switchF, E1.out]
   have n22 : (op == 22) = false := beq_eq_false_iff_ne.mpr h22
   go_upto_region 21 with fail
   by_cases h23 : op = 23
   ·subst h23
    obtain ⟨s1, a1, hp1, e1⟩ := spull_ex l0 b (⟨A, X, S, pc, Z, N, C, I⟩ : Cp)
    have HP1 := am hp1
    have E1 := am e1
    clear hp1 e1
    go_upto_region 23 with (first | (go_at_call 93; refine (spec_Pull.calls A0 c0 l0 b A X S pc Z N C I A X s1 pc Z N C I a1 _ (Kd.C_below HR.out HX.out.below) HC.out HP1.out).mono ?_; rintro e w13 ⟨rfl, hb⟩; have HXa := am (HX.out.later hb); clear hb) | ((with_reducible refine gd 13 ?_); refine bz (N := 13) ?_; intro m13 hg w14 hbox hb; have H13 := am hbox; have E13 : Aside0 (w13.heap.size ≤ m13) := ⟨by rw [hg]; exact Nat.le_refl _⟩; have HB13 := am hb; clear hbox hb hg; obtain ⟨⟨u0, u1, u2, u3, u4, u5, u6, u7⟩, ⟨fu0, fu1, fu2, fu3, fu4, fu5, fu6, fu7⟩⟩ := cells8 (H13.out)))
    have H13n : Aside0 (((((((((w14.setCell ⟨m13, 0, none⟩ (.int .i64 A)).setCell ⟨m13, 1, none⟩ (.int .i64 X)).setCell ⟨m13, 2, none⟩ (.int .i64 s1)).setCell ⟨m13, 3, none⟩ (.int .i64 pc)).setCell ⟨m13, 4, none⟩ (.bool Z)).setCell ⟨m13, 5, none⟩ (.bool N)).setCell ⟨m13, 6, none⟩ (.bool C)).setCell ⟨m13, 7, none⟩ (.bool I)).heap[m13]? = some (.cells #[.int .i64 A, .int .i64 X, .int .i64 s1, .int .i64 pc, .bool Z, .bool N, .bool C, .bool I] 55 (0, 0))) := ⟨put8 H13.out _ _ _ _ _ _ _ _⟩
    have HXn : Aside0 (SX w ((((((((w14.setCell ⟨m13, 0, none⟩ (.int .i64 A)).setCell ⟨m13, 1, none⟩ (.int .i64 X)).setCell ⟨m13, 2, none⟩ (.int .i64 s1)).setCell ⟨m13, 3, none⟩ (.int .i64 pc)).setCell ⟨m13, 4, none⟩ (.bool Z)).setCell ⟨m13, 5, none⟩ (.bool N)).setCell ⟨m13, 6, none⟩ (.bool C)).setCell ⟨m13, 7, none⟩ (.bool I)) m4 m5 m6 m8 m9 m10 A0 l0.length c0 b (⟨A, X, S, pc, Z, N, C, I⟩ : Cp) 23 arg (.slice A2 l0.length c2) l0) := ⟨HXa.out.later (below8 HB13.out E13.out _ _ _ _ _ _ _ _)⟩
    generalize ((((((((w14.setCell ⟨m13, 0, none⟩ (.int .i64 A)).setCell ⟨m13, 1, none⟩ (.int .i64 X)).setCell ⟨m13, 2, none⟩ (.int .i64 s1)).setCell ⟨m13, 3, none⟩ (.int .i64 pc)).setCell ⟨m13, 4, none⟩ (.bool Z)).setCell ⟨m13, 5, none⟩ (.bool N)).setCell ⟨m13, 6, none⟩ (.bool C)).setCell ⟨m13, 7, none⟩ (.bool I)) = w15 at H13n HXn ⊢
    clear HX HXa H13 HB13 E13
    have HX := HXn
    clear HXn
    obtain ⟨⟨r0, r1, r2, r3, r4, r5, r6, r7⟩, ⟨fr0, fr1, fr2, fr3, fr4, fr5, fr6, fr7⟩⟩ := cells8 (H13n.out)
    obtain ⟨⟨q0, q1, q2, q3, q4, q5, q6, q7⟩, ⟨fq0, fq1, fq2, fq3, fq4, fq5, fq6, fq7⟩⟩ := cells8 (HX.out.h5)
    obtain ⟨sa, sz, sn, hf, ek⟩ := seta_sx (⟨A, X, s1, pc, Z, N, C, I⟩ : Cp) a1
    have HF := am hf
    have EK := am ek
    clear hf ek
    go_wp2_with (go_at_call 94; refine (spec_SetA.calls A X s1 pc Z N C I a1 sa X s1 pc sz sn C I _ HF.out).mono ?_; rintro e w16 ⟨rfl, hb⟩; have HXa := am (HX.out.later hb); clear hb; obtain ⟨⟨p0, p1, p2, p3, p4, p5, p6, p7⟩, ⟨fp0, fp1, fp2, fp3, fp4, fp5, fp6, fp7⟩⟩ := cells8 (HXa.out.h5))
    go_meet
    case rel =>
     refine ⟨_, _, _, ⟨?_⟩, ⟨HXa.out.put8 _ _ _ _ _ _ _ _⟩⟩
     simp [switchF, E1.out, EK.out]
   have n23 : (op == 23) = false := beq_eq_false_iff_ne.mpr h23
   go_upto_region 24 with fail
   by_cases h24 : op = 24
   ·subst h24
    obtain ⟨s1, a1, hp1, e1⟩ := spull_ex l0 b (⟨A, X, S, pc, Z, N, C, I⟩ : Cp)
    have HP1 := am hp1
    have E1 := am e1
    clear hp1 e1
    go_upto_region 26 with (first | (go_at_call 93; refine (spec_Pull.calls A0 c0 l0 b A X S pc Z N C I A X s1 pc Z N C I a1 _ (Kd.C_below HR.out HX.out.below) HC.out HP1.out).mono ?_; rintro e w13 ⟨rfl, hb⟩; have HXa := am (HX.out.later hb); clear hb) | ((with_reducible refine gd 15 ?_); refine bz (N := 15) ?_; intro m15 hg w14 hbox hb; have H13 := am hbox; have E13 : Aside0 (w13.heap.size ≤ m15) := ⟨by rw [hg]; exact Nat.le_refl _⟩; have HB13 := am hb; clear hbox hb hg; obtain ⟨⟨u0, u1, u2, u3, u4, u5, u6, u7⟩, ⟨fu0, fu1, fu2, fu3, fu4, fu5, fu6, fu7⟩⟩ := cells8 (H13.out)))
    have H13n : Aside0 (((((((((w14.setCell ⟨m15, 0, none⟩ (.int .i64 A)).setCell ⟨m15, 1, none⟩ (.int .i64 X)).setCell ⟨m15, 2, none⟩ (.int .i64 s1)).setCell ⟨m15, 3, none⟩ (.int .i64 pc)).setCell ⟨m15, 4, none⟩ (.bool Z)).setCell ⟨m15, 5, none⟩ (.bool N)).setCell ⟨m15, 6, none⟩ (.bool C)).setCell ⟨m15, 7, none⟩ (.bool I)).heap[m15]? = some (.cells #[.int .i64 A, .int .i64 X, .int .i64 s1, .int .i64 pc, .bool Z, .bool N, .bool C, .bool I] 55 (0, 0))) := ⟨put8 H13.out _ _ _ _ _ _ _ _⟩
    have HXn : Aside0 (SX w ((((((((w14.setCell ⟨m15, 0, none⟩ (.int .i64 A)).setCell ⟨m15, 1, none⟩ (.int .i64 X)).setCell ⟨m15, 2, none⟩ (.int .i64 s1)).setCell ⟨m15, 3, none⟩ (.int .i64 pc)).setCell ⟨m15, 4, none⟩ (.bool Z)).setCell ⟨m15, 5, none⟩ (.bool N)).setCell ⟨m15, 6, none⟩ (.bool C)).setCell ⟨m15, 7, none⟩ (.bool I)) m4 m5 m6 m8 m9 m10 A0 l0.length c0 b (⟨A, X, S, pc, Z, N, C, I⟩ : Cp) 24 arg (.slice A2 l0.length c2) l0) := ⟨HXa.out.later (below8 HB13.out E13.out _ _ _ _ _ _ _ _)⟩
    generalize ((((((((w14.setCell ⟨m15, 0, none⟩ (.int .i64 A)).setCell ⟨m15, 1, none⟩ (.int .i64 X)).setCell ⟨m15, 2, none⟩ (.int .i64 s1)).setCell ⟨m15, 3, none⟩ (.int .i64 pc)).setCell ⟨m15, 4, none⟩ (.bool Z)).setCell ⟨m15, 5, none⟩ (.bool N)).setCell ⟨m15, 6, none⟩ (.bool C)).setCell ⟨m15, 7, none⟩ (.bool I)) = w15 at H13n HXn ⊢
    clear HX HXa H13 HB13 E13
    have HX := HXn
    clear HXn
    obtain ⟨⟨r0, r1, r2, r3, r4, r5, r6, r7⟩, ⟨fr0, fr1, fr2, fr3, fr4, fr5, fr6, fr7⟩⟩ := cells8 (H13n.out)
    obtain ⟨⟨q0, q1, q2, q3, q4, q5, q6, q7⟩, ⟨fq0, fq1, fq2, fq3, fq4, fq5, fq6, fq7⟩⟩ := cells8 (HX.out.h5)
    obtain ⟨vz, vn, vc, vi, hf, ek⟩ := sflag_ex (⟨A, X, s1, pc, Z, N, C, I⟩ : Cp) a1
    have HF := am hf
    have EK := am ek
    clear hf ek
    generalize hq : sbackF l0 (⟨A, X, s1, pc, vz, vn, vc, vi⟩ : Cp) = q at *
    obtain ⟨qa, qx, qs, qp, qz, qn, qc, qi⟩ := q
    have HQ := am hq
    have HBK : Aside0 (∀ w' : World, Below w.heap.size w w' → Calls Try.prog 92 #[.agg #[.slice A0 l0.length c0, .int .i64 b], .agg #[.int .i64 A, .int .i64 X, .int .i64 s1, .int .i64 pc, .bool vz, .bool vn, .bool vc, .bool vi]] w' fun e w'' => e = .returned (.agg #[.int .i64 qa, .int .i64 qx, .int .i64 qs, .int .i64 qp, .bool qz, .bool qn, .bool qc, .bool qi]) ∧ Below w'.heap.size w' w'') := ⟨fun w' hB => by have := sback_calls A0 c0 l0 b (⟨A, X, s1, pc, vz, vn, vc, vi⟩ : Cp) w' (Kd.C_below HR.out hB) HC.out; rw [hq] at this; exact this⟩
    clear hq
    have HM4 := am HX.out.h4
    go_wp2
    refine fre_ (n := 6) (e := 5) (g := 2) (T := (true, [([], []), ([], []), ([], []), ([1, 2], [1, 2]), ([0, 3, 3], [0, 3]), ([4, 4, 0, 1, 2, 3, 4], [4])])) (bm 6 31) (bm 6 27) [136, 137, 138, 139, 140] (fun j u w' => match j with
     | 0 => u = .agg #[.slice A0 l0.length c0, .int .i64 b]
     | 1 => u = .agg #[.int .i64 A, .int .i64 X, .int .i64 s1, .int .i64 pc, .bool Z, .bool N, .bool C, .bool I]
     | 2 => u = .int .i64 a1
     | 3 => u = .agg #[.int .i64 A, .int .i64 X, .int .i64 s1, .int .i64 pc, .bool vz, .bool vn, .bool vc, .bool vi]
     | 4 => u = .agg #[.int .i64 qa, .int .i64 qx, .int .i64 qs, .int .i64 qp, .bool qz, .bool qn, .bool qc, .bool qi]
     | _ => False)
     (by kernel_rfl) rfl (by kernel_rfl) (by kernel_rfl) (by kernel_rfl) (by kernel_rfl) (fun _ _ _ _ h => h) ?strti ?sprti ?larti ?enrti
    case strti =>
     intro j u W W' h hb
     exact h
    case sprti =>
     intro i hi o ho a W hB hout hneed K hK
     have HBW := am hB
     have hcase : i = 0 ∨ i = 1 ∨ i = 2 ∨ i = 3 ∨ i = 4 := by omega
     clear hB
     rcases hcase with rfl | rfl | rfl | rfl | rfl
     ·obtain rfl := oj ho
      have h4 : a.eval (.tmp 4) = .pointer (some ⟨m4, 0, none⟩) := hout 4 (by decide)
      have h4' := eval_get h4
      have hb := blk_below (w := w15.drew) HM4.out HBW.out
      have d0 := (blk_cell hb 0).trans rfl
      have d1 := (blk_cell hb 1).trans rfl
      exact va_ (.agg #[.slice A0 l0.length c0, .int .i64 b]) hK rfl
     ·obtain rfl := oj ho
      have h15 : a.eval (.tmp 15) = .pointer (some ⟨m15, 0, none⟩) := hout 15 (by decide)
      have h15' := eval_get h15
      have hb := blk_below (w := w15.drew) H13n.out HBW.out
      obtain ⟨⟨d0, d1, d2, d3, d4, d5, d6, d7⟩, -⟩ := cells8 hb
      exact va_ (.agg #[.int .i64 A, .int .i64 X, .int .i64 s1, .int .i64 pc, .bool Z, .bool N, .bool C, .bool I]) hK rfl
     ·obtain rfl := oj ho
      have h16 : a.eval (.tmp 16) = .int .i64 a1 := hout 16 (by decide)
      have h16' := eval_get h16
      exact va_ (.int .i64 a1) hK rfl
     ·obtain rfl := oj ho
      obtain ⟨e1, e1'⟩ := eg (show a.eval (.tmp 137) = _ from hneed 1 (by decide))
      obtain ⟨e2, e2'⟩ := eg (show a.eval (.tmp 138) = _ from hneed 2 (by decide))
      refine goes_ Try.func95 (by kernel_rfl) rfl #[.agg #[.int .i64 A, .int .i64 X, .int .i64 s1, .int .i64 pc, .bool Z, .bool N, .bool C, .bool I], .int .i64 a1] (by rfl) rfl rfl (by simp only [List.map_toArray, List.map_cons, List.map_nil, e1, e2]) ?_
      refine (spec_WithFlags.calls A X s1 pc Z N C I a1 A X s1 pc vz vn vc vi W HF.out).mono ?_
      rintro e w' ⟨rfl, hb⟩
      exact ⟨_, rfl, hK.out _ _ hb rfl⟩
     ·obtain rfl := oj ho
      obtain ⟨e0, e0'⟩ := eg (show a.eval (.tmp 136) = _ from hneed 0 (by decide))
      obtain ⟨e3, e3'⟩ := eg (show a.eval (.tmp 139) = _ from hneed 3 (by decide))
      refine goes_ Try.func92 (by kernel_rfl) rfl #[.agg #[.slice A0 l0.length c0, .int .i64 b], .agg #[.int .i64 A, .int .i64 X, .int .i64 s1, .int .i64 pc, .bool vz, .bool vn, .bool vc, .bool vi]] (by rfl) rfl rfl (by simp only [List.map_toArray, List.map_cons, List.map_nil, e0, e3]) ?_
      refine (HBK.out W (below_step (w := w) (W := w15.drew) (below_drew1 HX.out.below) HBW.out)).mono ?_
      rintro e w' ⟨rfl, hb⟩
      exact ⟨_, rfl, hK.out _ _ hb rfl⟩
    case larti =>
     intro o ho a W hout hneed
     obtain rfl := oj ho
     have h16 : a.eval (.tmp 16) = .int .i64 a1 := hout 16 (by decide)
     have h16' := eval_get h16
     refine ⟨.int .i64 a1, rfl, Or.inl ⟨by rfl, ?_⟩⟩
     intro w'
     go_simp
    intro f vs W2 hB hE
    have HBW := am hB
    clear hB
    have q0 : vs 0 = _ := hE 0 (by decide)
    have q1 : vs 1 = _ := hE 1 (by decide)
    have q2 : vs 2 = _ := hE 2 (by decide)
    have q3 : vs 3 = _ := hE 3 (by decide)
    have q4 : vs 4 = _ := hE 4 (by decide)
    show wpAnyLast _ _ _ _ _ _ (f + 1) _ (putAll _ [(136, vs 0), (137, vs 1), (138, vs 2), (139, vs 3), (140, vs 4)]) W2
    rw [q0, q1, q2, q3, q4]
    clear q0 q1 q2 q3 q4 hE
    refine norm_ (a' := ?_) ?_ ?_
    rotate_left
    ·simp only [putAll, Act.put, List.setIfInBounds_toArray, List.set_cons_zero, List.set_cons_succ]
     rfl
    have HXa := am (HX.out.drew.later HBW.out)
    refine ov_ 5 none (bm 6 63) (fun K hK => ?_)
    refine skip_ (w1 := ?_) (by rfl) rfl ?_ ?_
    rotate_left
    ·skip
     have hcW : W2.heap[m5]? = some (.cells #[.int .i64 A, .int .i64 X, .int .i64 S, .int .i64 pc, .bool Z, .bool N, .bool C, .bool I] 55 (0, 0)) := HXa.out.h5
     obtain ⟨⟨t0, t1, t2, t3, t4, t5, t6, t7⟩, ⟨ft0, ft1, ft2, ft3, ft4, ft5, ft6, ft7⟩⟩ := cells8 (hcW)
     go_simp
     rfl
    refine hK.out _ _ trivial (fun _ => ?_)
    clear hK K
    refine done_ (by kernel_rfl) ?_
    try go_wp2
    go_meet
    case rel =>
     refine ⟨_, _, _, ⟨?_⟩, ⟨HXa.out.put8 _ _ _ _ _ _ _ _⟩⟩
     simp [switchF, E1.out, EK.out, HQ.out]
   have n24 : (op == 24) = false := beq_eq_false_iff_ne.mpr h24
   go_upto_region 27 with fail
   by_cases h25 : op = 25
   ·subst h25
    go_wp2
    go_meet
    case rel =>
     refine ⟨_, _, _, ⟨?_⟩, ⟨HX.out.setC (k' := ⟨A, X, S, pc, Z, N, C, true⟩) 7 _ rfl⟩⟩
     simp [switchF, ET.out]
   by_cases h26 : op = 26
   ·subst h26
    go_wp2
    go_meet
    case rel =>
     refine ⟨_, _, _, ⟨?_⟩, ⟨HX.out.setC (k' := ⟨A, X, S, pc, Z, N, C, false⟩) 7 _ rfl⟩⟩
     simp [switchF, ET.out]
   have n25 : (op == 25) = false := beq_eq_false_iff_ne.mpr h25
   have n26 : (op == 26) = false := beq_eq_false_iff_ne.mpr h26
   go_upto_region 30 with fail
   by_cases h27 : op = 27
   ·subst h27
    go_wp2
    go_meet
    case rel =>
     refine ⟨_, _, _, ⟨?_⟩, ⟨HX.out.setC (k' := ⟨A, X, S, pc, Z, N, true, I⟩) 6 _ rfl⟩⟩
     simp [switchF, ET.out]
   by_cases h28 : op = 28
   ·subst h28
    go_wp2
    go_meet
    case rel =>
     refine ⟨_, _, _, ⟨?_⟩, ⟨HX.out.setC (k' := ⟨A, X, S, pc, Z, N, false, I⟩) 6 _ rfl⟩⟩
     simp [switchF, ET.out]
   have n27 : (op == 27) = false := beq_eq_false_iff_ne.mpr h27
   have n28 : (op == 28) = false := beq_eq_false_iff_ne.mpr h28
   go_wp2
   go_meet
   case rel =>
    refine ⟨_, _, _, ⟨?_⟩, ⟨HX.out⟩⟩
    unfold switchF; simp only [h16, h17, h18, h19, h20, h21, h22, h23, h24, h25, h26, h27, h28, if_false]
  case rest =>
   obtain ⟨rv, ram, ⟨qa, qx, qs, qp, qz, qn, qc, qi⟩, HE, HX⟩ := hcut
   obtain ⟨A3, c3, rfl⟩ := Kd.R_slice HX.out.row
   have HM4 := am HX.out.h10
   have HC4 : Aside0 (wc.heap[m5]? = some (.cells #[.int .i64 qa, .int .i64 qx, .int .i64 qs, .int .i64 qp, .bool qz, .bool qn, .bool qc, .bool qi] 55 (0, 0))) := ⟨HX.out.h5⟩
   have HB1 := am HX.out.h8
   have HB2 := am HX.out.h9
   have h4 : MC w wc m10 m5 (.slice A3 ram.length c3) b ⟨qa, qx, qs, qp, qz, qn, qc, qi⟩ ram := ⟨HX.out.h10, HX.out.h5, HX.out.row, HX.out.e10, HX.out.e5, HX.out.below⟩
   go_wp2
   have hne12 : m8 ≠ m9 := blk_ne HX.out.h8 HX.out.h9 (by decide)
   have hne21 : m9 ≠ m8 := Ne.symm hne12
   have o1 : m10 ≠ m8 := Ne.symm HX.out.n810
   have o2 : m10 ≠ m9 := blk_ne HX.out.h10 HX.out.h9 (by decide)
   have o3 : m5 ≠ m8 := blk_ne HC4.out HX.out.h8 (by decide)
   have o4 : m5 ≠ m9 := Ne.symm HX.out.n95
   have he8 : w.heap.size ≤ m8 := HX.out.e8
   have he9 : w.heap.size ≤ m9 := HX.out.e9
   refine start_ (n := 4) (S := fun w' => w'.heap[m10]? = some (.cells #[.slice A3 ram.length c3, .int .i64 b] 32 (0, 0)) ∧ w'.heap[m5]? = some (.cells #[.int .i64 qa, .int .i64 qx, .int .i64 qs, .int .i64 qp, .bool qz, .bool qn, .bool qc, .bool qi] 55 (0, 0))) (ds := []) (bm 4 0) (by kernel_rfl) rfl (by kernel_rfl) ⟨HM4.out, HC4.out⟩ (fun hHeld => ?_)
   refine take_ (i := 0) (N := some 155) (v := ?_) (a' := ?_) #[true, false, false, false] rfl rfl (by kernel_rfl) (fun _ _ _ h => h) (Or.inl ⟨by rfl, ?_⟩) hHeld ?_ ?_
   rotate_left
   ·rintro w' ⟨s0, s1⟩
    have a0 : w'.cell? ⟨m10, 0, none⟩ = some (.slice A3 ram.length c3) := (blk_cell s0 0).trans rfl
    have a1 : w'.cell? ⟨m10, 1, none⟩ = some (.int .i64 b) := (blk_cell s0 1).trans rfl
    clear s0 s1
    go_simp
    with_reducible rfl
   rotate_left
   ·simp only [Act.put, List.setIfInBounds_toArray, List.set_cons_zero, List.set_cons_succ, i64_w, i32_w]
    rfl
   refine take_ (i := 1) (N := some 156) (v := ?_) (a' := ?_) #[true, true, false, false] rfl rfl (by kernel_rfl) (fun _ _ _ h => h) (Or.inl ⟨by rfl, ?_⟩) hHeld ?_ ?_
   rotate_left
   ·rintro w' ⟨s0, s1⟩
    have b0 : w'.cell? ⟨m5, 0, none⟩ = some (.int .i64 qa) := (blk_cell s1 0).trans rfl
    have b1 : w'.cell? ⟨m5, 1, none⟩ = some (.int .i64 qx) := (blk_cell s1 1).trans rfl
    have b2 : w'.cell? ⟨m5, 2, none⟩ = some (.int .i64 qs) := (blk_cell s1 2).trans rfl
    have b3 : w'.cell? ⟨m5, 3, none⟩ = some (.int .i64 qp) := (blk_cell s1 3).trans rfl
    have b4 : w'.cell? ⟨m5, 4, none⟩ = some (.bool qz) := (blk_cell s1 4).trans rfl
    have b5 : w'.cell? ⟨m5, 5, none⟩ = some (.bool qn) := (blk_cell s1 5).trans rfl
    have b6 : w'.cell? ⟨m5, 6, none⟩ = some (.bool qc) := (blk_cell s1 6).trans rfl
    have b7 : w'.cell? ⟨m5, 7, none⟩ = some (.bool qi) := (blk_cell s1 7).trans rfl
    clear s0 s1
    go_simp
    with_reducible rfl
   rotate_left
   ·simp only [Act.put, List.setIfInBounds_toArray, List.set_cons_zero, List.set_cons_succ, i64_w, i32_w]
    rfl
   refine ov_ 2 none (bm 4 7) (fun K hK => ?_)
   refine skip_ (w1 := ?_) (by rfl) rfl ?_ ?_
   rotate_left
   ·have r0 : wc.cell? ⟨m8, 0, none⟩ = some (.slice none 0 0) := (blk_cell HB1.out 0).trans rfl
    have r1 : wc.cell? ⟨m8, 1, none⟩ = some (.int .i64 0) := (blk_cell HB1.out 1).trans rfl
    have f0 := blk_frozen HB1.out 0
    have f1 := blk_frozen HB1.out 1
    go_simp
    rfl
   refine hK.out _ _ ⟨(heap2 _ _ _ _ _ o1).trans hHeld.1, (heap2 _ _ _ _ _ o3).trans hHeld.2⟩ (fun hHeld => ?_)
   clear hK K
   have g0 := (heap_drew _ _).symm.trans hHeld.1
   have g1 := (heap_drew _ _).symm.trans hHeld.2
   have g2 : ((wc.setCell ⟨m8, 0, none⟩ (.slice A3 ram.length c3)).setCell ⟨m8, 1, none⟩ (.int .i64 b)).heap[m9]? = _ := (heap2 wc (m8) (m9) (.slice A3 ram.length c3) (.int .i64 b) hne21).trans HB2.out
   have g3 : ((wc.setCell ⟨m8, 0, none⟩ (.slice A3 ram.length c3)).setCell ⟨m8, 1, none⟩ (.int .i64 b)).heap[m8]? = _ := put2 HB1.out (.slice A3 ram.length c3) (.int .i64 b)
   have g4 : Kd.R (Kd.int .i64) 3 ((wc.setCell ⟨m8, 0, none⟩ (.slice A3 ram.length c3)).setCell ⟨m8, 1, none⟩ (.int .i64 b)) w.heap.size (fun _ => True) (.slice A3 ram.length c3) ram :=
    Kd.R_mono (Kd.R_far (p := ⟨m8, 1, none⟩) (Kd.R_far (p := ⟨m8, 0, none⟩) (Kd.R_types h4.row HB1.out (by decide)) (fun _ hk => hk.2) (.slice A3 ram.length c3)) (fun _ hk => hk.2) (.int .i64 b)) (fun _ hk => trivial)
   have g5 : Below w.heap.size w ((wc.setCell ⟨m8, 0, none⟩ (.slice A3 ram.length c3)).setCell ⟨m8, 1, none⟩ (.int .i64 b)) := below_set (below_set h4.below (by omega)) (by omega)
   clear HB1 HB2 HM4 HC4 h4
   generalize ((wc.setCell ⟨m8, 0, none⟩ (.slice A3 ram.length c3)).setCell ⟨m8, 1, none⟩ (.int .i64 b)) = W5 at *
   have G2 := am g2
   have G3 := am g3
   have G4 := am g4
   have G5 := am g5
   have G0 := am g0
   have G1 := am g1
   clear g0 g1 g2 g3 g4 g5
   refine ov_ 3 none (bm 4 15) (fun K hK => ?_)
   refine skip_ (w1 := ?_) (by rfl) rfl ?_ ?_
   rotate_left
   ·skip
    have r0 : W5.cell? ⟨m9, 0, none⟩ = some (.int .i64 0) := (blk_cell G2.out 0).trans rfl
    have f0 := blk_frozen G2.out 0
    have r1 : W5.cell? ⟨m9, 1, none⟩ = some (.int .i64 0) := (blk_cell G2.out 1).trans rfl
    have f1 := blk_frozen G2.out 1
    have r2 : W5.cell? ⟨m9, 2, none⟩ = some (.int .i64 0) := (blk_cell G2.out 2).trans rfl
    have f2 := blk_frozen G2.out 2
    have r3 : W5.cell? ⟨m9, 3, none⟩ = some (.int .i64 0) := (blk_cell G2.out 3).trans rfl
    have f3 := blk_frozen G2.out 3
    have r4 : W5.cell? ⟨m9, 4, none⟩ = some (.bool false) := (blk_cell G2.out 4).trans rfl
    have f4 := blk_frozen G2.out 4
    have r5 : W5.cell? ⟨m9, 5, none⟩ = some (.bool false) := (blk_cell G2.out 5).trans rfl
    have f5 := blk_frozen G2.out 5
    have r6 : W5.cell? ⟨m9, 6, none⟩ = some (.bool false) := (blk_cell G2.out 6).trans rfl
    have f6 := blk_frozen G2.out 6
    have r7 : W5.cell? ⟨m9, 7, none⟩ = some (.bool false) := (blk_cell G2.out 7).trans rfl
    have f7 := blk_frozen G2.out 7
    go_simp
    rfl
   refine hK.out _ _ ⟨(heap_drew _ _).trans ((heap8 W5 (m9) _ _ _ _ _ _ _ _ _ o2).trans G0.out), (heap_drew _ _).trans ((heap8 W5 (m9) _ _ _ _ _ _ _ _ _ o4).trans G1.out)⟩ (fun hHeld => ?_)
   clear hK K
   refine done_ (by kernel_rfl) ?_
   try go_wp2
   refine bodyPost_ret (results_cc rfl _ _ (m8) (m9) 32 55 #[.slice A3 ram.length c3, .int .i64 b] #[.int .i64 qa, .int .i64 qx, .int .i64 qs, .int .i64 qp, .bool qz, .bool qn, .bool qc, .bool qi] (0, 0) (0, 0) _ _ rfl ((heap_drew _ _).trans ((heap8 W5 (m9) _ _ _ _ _ _ _ _ _ hne12).trans G3.out)) hu37 rfl (by kernel_rfl) rfl ((heap_drew _ _).trans (put8 G2.out _ _ _ _ _ _ _ _)) hu38 rfl (by kernel_rfl)) rfl ?_
   rw [HS.out, HE.out]
   exact ⟨_, rfl, Kd.R_drew (row8 G4.out G2.out _ _ _ _ _ _ _ _), below_drew1 (below8 G5.out he9 _ _ _ _ _ _ _ _)⟩
def spec_Exec.f (k : Nat) (l0_0 : List Int) (a0_1 : Int) (a1_0 a1_1 a1_2 a1_3 : Int) (a1_4 a1_5 a1_6 a1_7 : Bool) (a2_0 a2_1 : Int) (a3 : Int) : Option (List Int × Int × Int × Int × Int × Int × Bool × Bool × Bool × Bool) :=
 if l0_0.length < 17592186044416 then (spec_OpLen.f a2_0).bind fun ln => some ((sexecF l0_0 ⟨a1_0, a1_1, a1_2, a1_3, a1_4, a1_5, a1_6, a1_7⟩ a2_0 a2_1 a3 ln).1, a0_1, (sexecF l0_0 ⟨a1_0, a1_1, a1_2, a1_3, a1_4, a1_5, a1_6, a1_7⟩ a2_0 a2_1 a3 ln).2.A, (sexecF l0_0 ⟨a1_0, a1_1, a1_2, a1_3, a1_4, a1_5, a1_6, a1_7⟩ a2_0 a2_1 a3 ln).2.X, (sexecF l0_0 ⟨a1_0, a1_1, a1_2, a1_3, a1_4, a1_5, a1_6, a1_7⟩ a2_0 a2_1 a3 ln).2.S, (sexecF l0_0 ⟨a1_0, a1_1, a1_2, a1_3, a1_4, a1_5, a1_6, a1_7⟩ a2_0 a2_1 a3 ln).2.P, (sexecF l0_0 ⟨a1_0, a1_1, a1_2, a1_3, a1_4, a1_5, a1_6, a1_7⟩ a2_0 a2_1 a3 ln).2.Z, (sexecF l0_0 ⟨a1_0, a1_1, a1_2, a1_3, a1_4, a1_5, a1_6, a1_7⟩ a2_0 a2_1 a3 ln).2.N, (sexecF l0_0 ⟨a1_0, a1_1, a1_2, a1_3, a1_4, a1_5, a1_6, a1_7⟩ a2_0 a2_1 a3 ln).2.C, (sexecF l0_0 ⟨a1_0, a1_1, a1_2, a1_3, a1_4, a1_5, a1_6, a1_7⟩ a2_0 a2_1 a3 ln).2.I) else none
theorem spec_Exec.calls (k : Nat) (A0_0 : Option Addr) (c0_0 : Nat) (l0_0 : List Int) (a0_1 : Int) (a1_0 a1_1 a1_2 a1_3 : Int) (a1_4 a1_5 a1_6 a1_7 : Bool) (a2_0 a2_1 : Int) (a3 : Int) (r1 : List Int) (r2 : Int) (r3 : Int) (r4 : Int) (r5 : Int) (r6 : Int) (r7 : Bool) (r8 : Bool) (r9 : Bool) (r10 : Bool) (w : World) (hr0_0 : Kd.C (Kd.int .i64) w A0_0 l0_0.length l0_0) (hc0_0 : l0_0.length ≤ c0_0) (h : spec_Exec.f k l0_0 a0_1 a1_0 a1_1 a1_2 a1_3 a1_4 a1_5 a1_6 a1_7 a2_0 a2_1 a3 = some (r1, r2, r3, r4, r5, r6, r7, r8, r9, r10)) :
  Calls Try.prog 49 #[.agg #[.slice A0_0 l0_0.length c0_0, .int .i64 a0_1], .agg #[.int .i64 a1_0, .int .i64 a1_1, .int .i64 a1_2, .int .i64 a1_3, .bool a1_4, .bool a1_5, .bool a1_6, .bool a1_7], .agg #[.int .i64 a2_0, .int .i64 a2_1], .int .i64 a3] w fun e w' => ∃ v0_ : Value, e = .returned (.tuple #[.agg #[v0_, .int .i64 r2], .agg #[.int .i64 r3, .int .i64 r4, .int .i64 r5, .int .i64 r6, .bool r7, .bool r8, .bool r9, .bool r10]]) ∧ Kd.R (Kd.int .i64) 3 w' w.heap.size (fun _ => True) v0_ r1 ∧ Below w.heap.size w w' := by
 unfold spec_Exec.f at h
 by_cases hlen : l0_0.length < 17592186044416
 ·rw [if_pos hlen] at h
  obtain ⟨ln, hl, h3⟩ := Option.bind_eq_some_iff.mp h
  clear h
  cases h3
  exact specExec_calls A0_0 c0_0 _ _ ⟨a1_0, a1_1, a1_2, a1_3, a1_4, a1_5, a1_6, a1_7⟩ a2_0 a2_1 a3 w hr0_0 hc0_0 hlen ln hl
 ·rw [if_neg hlen] at h
  cases h

/-! ### spec_l5Byte: function 79 -/
def spec_l5Byte.f (a0 : Int) : Option (Bool) := (spec_l1In.f a0 0 255).bind fun t949 => (some t949)
theorem spec_l5Byte.calls (a0 : Int) (r : Bool) (w : World) (h : spec_l5Byte.f a0 = some r) :
  Calls Try.prog 79 #[.int .i64 a0] w fun e w' => e = .returned (.bool r) ∧ Drawn0 w w' := by
 have H : ((spec_l1In.f a0 0 255).bind fun t949 => (some t949)) = some r := h
 clear h
 replace H := bs H
 obtain ⟨t949, A20, H⟩ := H
 replace H : (some t949) = some r := H
 have A2 := am A20
 clear A20
 obtain rfl := oj H
 go_enter Try.func79, Try.ntmps79
 go_wp2_with (first | ((with_reducible refine gate_callee (f := 68) rfl ?_); refine goesM_ (some 4) rfl rfl Try.func68 #[.int .i64 a0, .int .i64 0, .int .i64 255] ?_; (with_reducible refine (spec_l1In.calls a0 0 255 t949 _ A2.out).mono ?_); rintro e w' ⟨rfl, ⟨nd, rfl⟩⟩; refine ⟨_, rfl, ?_⟩))
 go_ret
 exact ⟨by first | rfl | (simp; done) | (simp [*]; done), by repeat (first | exact Drawn0.refl _ | apply Drawn0.step)⟩

/-! ### spec_CpuOk: function 50 -/
def spec_CpuOk.f (a0_0 : Int) (a0_1 : Int) (a0_2 : Int) (a0_3 : Int) (a0_4 : Bool) (a0_5 : Bool) (a0_6 : Bool) (a0_7 : Bool) : Option (Bool) := (spec_l5Byte.f a0_0).bind fun t951 => (if t951 = true then ((spec_l5Byte.f a0_1).bind fun t952 => (if t952 = true then ((spec_l5Byte.f a0_2).bind fun t953 => (if t953 = true then ((spec_l1In.f a0_3 0 65535).bind fun t954 => (some t954)) else (some false))) else (some false))) else (some false))
theorem spec_CpuOk.calls (a0_0 : Int) (a0_1 : Int) (a0_2 : Int) (a0_3 : Int) (a0_4 : Bool) (a0_5 : Bool) (a0_6 : Bool) (a0_7 : Bool) (r : Bool) (w : World) (h : spec_CpuOk.f a0_0 a0_1 a0_2 a0_3 a0_4 a0_5 a0_6 a0_7 = some r) :
  Calls Try.prog 50 #[.agg #[.int .i64 a0_0, .int .i64 a0_1, .int .i64 a0_2, .int .i64 a0_3, .bool a0_4, .bool a0_5, .bool a0_6, .bool a0_7]] w fun e w' => e = .returned (.bool r) ∧ Below w.heap.size w w' := by
 have hu55 := Try.underlying55
 have HB := am (Below.refl w.heap.size w)
 have H : ((spec_l5Byte.f a0_0).bind fun t951 => (if t951 = true then ((spec_l5Byte.f a0_1).bind fun t952 => (if t952 = true then ((spec_l5Byte.f a0_2).bind fun t953 => (if t953 = true then ((spec_l1In.f a0_3 0 65535).bind fun t954 => (some t954)) else (some false))) else (some false))) else (some false))) = some r := h
 clear h
 replace H := bs H
 obtain ⟨t951, A20, H⟩ := H
 replace H : (if t951 = true then ((spec_l5Byte.f a0_1).bind fun t952 => (if t952 = true then ((spec_l5Byte.f a0_2).bind fun t953 => (if t953 = true then ((spec_l1In.f a0_3 0 65535).bind fun t954 => (some t954)) else (some false))) else (some false))) else (some false)) = some r := H
 have A2 := am A20
 clear A20
 by_cases c3 : t951 = true
 ·subst c3
  have H1 : ((spec_l5Byte.f a0_1).bind fun t952 => (if t952 = true then ((spec_l5Byte.f a0_2).bind fun t953 => (if t953 = true then ((spec_l1In.f a0_3 0 65535).bind fun t954 => (some t954)) else (some false))) else (some false))) = some r := by rw [if_pos rfl] at H; exact H
  clear H
  have H := H1
  clear H1
  replace H := bs H
  obtain ⟨t952, A40, H⟩ := H
  replace H : (if t952 = true then ((spec_l5Byte.f a0_2).bind fun t953 => (if t953 = true then ((spec_l1In.f a0_3 0 65535).bind fun t954 => (some t954)) else (some false))) else (some false)) = some r := H
  have A4 := am A40
  clear A40
  by_cases c5 : t952 = true
  ·subst c5
   have H1 : ((spec_l5Byte.f a0_2).bind fun t953 => (if t953 = true then ((spec_l1In.f a0_3 0 65535).bind fun t954 => (some t954)) else (some false))) = some r := by rw [if_pos rfl] at H; exact H
   clear H
   have H := H1
   clear H1
   replace H := bs H
   obtain ⟨t953, A60, H⟩ := H
   replace H : (if t953 = true then ((spec_l1In.f a0_3 0 65535).bind fun t954 => (some t954)) else (some false)) = some r := H
   have A6 := am A60
   clear A60
   by_cases c7 : t953 = true
   ·subst c7
    have H1 : ((spec_l1In.f a0_3 0 65535).bind fun t954 => (some t954)) = some r := by rw [if_pos rfl] at H; exact H
    clear H
    have H := H1
    clear H1
    replace H := bs H
    obtain ⟨t954, A80, H⟩ := H
    replace H : (some t954) = some r := H
    have A8 := am A80
    clear A80
    obtain rfl := oj H
    go_enter Try.func50, Try.ntmps50
    go_wp2_with (first | ((with_reducible refine gd 1 ?_); refine bx (N := 1) (cs := #[.int .i64 a0_0, .int .i64 a0_1, .int .i64 a0_2, .int .i64 a0_3, .bool a0_4, .bool a0_5, .bool a0_6, .bool a0_7]) (t := 55) ?_; intro gb950 hg w9 hbox hb; have BK950 := am (hbox); have GW950 := am ((gs hg (bw HB.out))); have GE950 := am ((gs hg (bw HB.out))); replace HB := am (below_step (bw HB.out) hb); clear hb hbox hg; obtain ⟨hcz10_0, hcz10_1, hcz10_2, hcz10_3, hcz10_4, hcz10_5, hcz10_6, hcz10_7⟩ := ce8 BK950; obtain ⟨hfz10_0, hfz10_1, hfz10_2, hfz10_3, hfz10_4, hfz10_5, hfz10_6, hfz10_7⟩ := fz8 BK950) | ((with_reducible refine gate_callee (f := 79) rfl ?_); refine goesM_ (some 5) rfl rfl Try.func79 #[.int .i64 a0_0] ?_; (with_reducible refine (spec_l5Byte.calls a0_0 true _ A2.out).mono ?_); rintro e w' ⟨rfl, ⟨nd, rfl⟩⟩; refine ⟨_, rfl, ?_⟩) | (go_at_call 79; (with_reducible refine (spec_l5Byte.calls a0_1 true _ A4.out).mono ?_); rintro e w' ⟨rfl, ⟨nd, rfl⟩⟩) | (go_at_call 79; (with_reducible refine (spec_l5Byte.calls a0_2 true _ A6.out).mono ?_); rintro e w' ⟨rfl, ⟨nd, rfl⟩⟩) | (go_at_call 68; (with_reducible refine (spec_l1In.calls a0_3 0 65535 t954 _ A8.out).mono ?_); rintro e w' ⟨rfl, ⟨nd, rfl⟩⟩))
    go_ret
    exact ⟨rt, bw HB.out⟩
   ·replace c7 := Bool.eq_false_iff.mpr c7
    subst c7
    have H1 : (some false) = some r := by rw [if_neg (show ¬ (false = true) by decide)] at H; exact H
    clear H
    have H := H1
    clear H1
    obtain rfl := oj H
    go_enter Try.func50, Try.ntmps50
    go_wp2_with (first | ((with_reducible refine gd 1 ?_); refine bx (N := 1) (cs := #[.int .i64 a0_0, .int .i64 a0_1, .int .i64 a0_2, .int .i64 a0_3, .bool a0_4, .bool a0_5, .bool a0_6, .bool a0_7]) (t := 55) ?_; intro gb950 hg w11 hbox hb; have BK950 := am (hbox); have GW950 := am ((gs hg (bw HB.out))); have GE950 := am ((gs hg (bw HB.out))); replace HB := am (below_step (bw HB.out) hb); clear hb hbox hg; obtain ⟨hcz12_0, hcz12_1, hcz12_2, hcz12_3, hcz12_4, hcz12_5, hcz12_6, hcz12_7⟩ := ce8 BK950; obtain ⟨hfz12_0, hfz12_1, hfz12_2, hfz12_3, hfz12_4, hfz12_5, hfz12_6, hfz12_7⟩ := fz8 BK950) | ((with_reducible refine gate_callee (f := 79) rfl ?_); refine goesM_ (some 5) rfl rfl Try.func79 #[.int .i64 a0_0] ?_; (with_reducible refine (spec_l5Byte.calls a0_0 true _ A2.out).mono ?_); rintro e w' ⟨rfl, ⟨nd, rfl⟩⟩; refine ⟨_, rfl, ?_⟩) | (go_at_call 79; (with_reducible refine (spec_l5Byte.calls a0_1 true _ A4.out).mono ?_); rintro e w' ⟨rfl, ⟨nd, rfl⟩⟩) | (go_at_call 79; (with_reducible refine (spec_l5Byte.calls a0_2 false _ A6.out).mono ?_); rintro e w' ⟨rfl, ⟨nd, rfl⟩⟩))
    go_ret
    exact ⟨rt, bw HB.out⟩
  ·replace c5 := Bool.eq_false_iff.mpr c5
   subst c5
   have H1 : (some false) = some r := by rw [if_neg (show ¬ (false = true) by decide)] at H; exact H
   clear H
   have H := H1
   clear H1
   obtain rfl := oj H
   go_enter Try.func50, Try.ntmps50
   go_wp2_with (first | ((with_reducible refine gd 1 ?_); refine bx (N := 1) (cs := #[.int .i64 a0_0, .int .i64 a0_1, .int .i64 a0_2, .int .i64 a0_3, .bool a0_4, .bool a0_5, .bool a0_6, .bool a0_7]) (t := 55) ?_; intro gb950 hg w13 hbox hb; have BK950 := am (hbox); have GW950 := am ((gs hg (bw HB.out))); have GE950 := am ((gs hg (bw HB.out))); replace HB := am (below_step (bw HB.out) hb); clear hb hbox hg; obtain ⟨hcz14_0, hcz14_1, hcz14_2, hcz14_3, hcz14_4, hcz14_5, hcz14_6, hcz14_7⟩ := ce8 BK950; obtain ⟨hfz14_0, hfz14_1, hfz14_2, hfz14_3, hfz14_4, hfz14_5, hfz14_6, hfz14_7⟩ := fz8 BK950) | ((with_reducible refine gate_callee (f := 79) rfl ?_); refine goesM_ (some 5) rfl rfl Try.func79 #[.int .i64 a0_0] ?_; (with_reducible refine (spec_l5Byte.calls a0_0 true _ A2.out).mono ?_); rintro e w' ⟨rfl, ⟨nd, rfl⟩⟩; refine ⟨_, rfl, ?_⟩) | (go_at_call 79; (with_reducible refine (spec_l5Byte.calls a0_1 false _ A4.out).mono ?_); rintro e w' ⟨rfl, ⟨nd, rfl⟩⟩))
   go_ret
   exact ⟨rt, bw HB.out⟩
 ·replace c3 := Bool.eq_false_iff.mpr c3
  subst c3
  have H1 : (some false) = some r := by rw [if_neg (show ¬ (false = true) by decide)] at H; exact H
  clear H
  have H := H1
  clear H1
  obtain rfl := oj H
  go_enter Try.func50, Try.ntmps50
  go_wp2_with (first | ((with_reducible refine gd 1 ?_); refine bx (N := 1) (cs := #[.int .i64 a0_0, .int .i64 a0_1, .int .i64 a0_2, .int .i64 a0_3, .bool a0_4, .bool a0_5, .bool a0_6, .bool a0_7]) (t := 55) ?_; intro gb950 hg w15 hbox hb; have BK950 := am (hbox); have GW950 := am ((gs hg (bw HB.out))); have GE950 := am ((gs hg (bw HB.out))); replace HB := am (below_step (bw HB.out) hb); clear hb hbox hg; obtain ⟨hcz16_0, hcz16_1, hcz16_2, hcz16_3, hcz16_4, hcz16_5, hcz16_6, hcz16_7⟩ := ce8 BK950; obtain ⟨hfz16_0, hfz16_1, hfz16_2, hfz16_3, hfz16_4, hfz16_5, hfz16_6, hfz16_7⟩ := fz8 BK950) | ((with_reducible refine gate_callee (f := 79) rfl ?_); refine goesM_ (some 5) rfl rfl Try.func79 #[.int .i64 a0_0] ?_; (with_reducible refine (spec_l5Byte.calls a0_0 false _ A2.out).mono ?_); rintro e w' ⟨rfl, ⟨nd, rfl⟩⟩; refine ⟨_, rfl, ?_⟩))
  go_ret
  exact ⟨rt, bw HB.out⟩

/-! ### slices_Index_string_string: function 96 -/
def slices_Index_string_string.l0 : Nat → List ByteArray → ByteArray → Int → Int → Option (Int)
 | 0, _, _, _, _ => none
 | k + 1, x0, x1, x7, x8 => if x8 < x7 then (if 0 ≤ x8 then (if x8 < (x0.length : Int) then (if x1.toList = (rdOf ByteArray.empty x0 x8).toList then (some x8) else (slices_Index_string_string.l0 k x0 x1 x7 (wrap64 (x8 + 1)))) else (none)) else (none)) else (some (-1))
def slices_Index_string_string.f (k : Nat) (l0 : List ByteArray) (a1 : ByteArray) : Option (Int) := slices_Index_string_string.l0 k l0 a1 (l0.length : Int) 0
theorem slices_Index_string_string.calls (k : Nat) (A0 : Option Addr) (c0 : Nat) (l0 : List ByteArray) (a1 : ByteArray) (r : Int) (w : World) (hr0 : Kd.C Kd.string w A0 l0.length l0) (hc0 : l0.length ≤ c0) (h : slices_Index_string_string.f k l0 a1 = some r) :
  Calls Try.prog 96 #[.slice A0 l0.length c0, .string a1] w fun e w' => e = .returned (.int .i64 r) ∧ Drawn0 w w' := by
 have HR0 := am hr0
 have HC0 := am hc0
 clear hr0 hc0
 have H : (slices_Index_string_string.l0 k l0 a1 (l0.length : Int) 0) = some r := h
 clear h
 have H' := am H
 clear H
 go_enter Try.func96, Try.ntmps96
 go_wp2
 go_loopg [8] k (fun kq v8 w' => ∃ (x8_1 : Int), v8 = .int .i64 x8_1 ∧ Aside0 (slices_Index_string_string.l0 kq l0 a1 (l0.length : Int) x8_1 = some r) ∧ Aside0 (kq ≤ k) ∧ Drawn0 w w')
 case atStart => exact ⟨(0), (by first | rfl | (simp; done) | (simp [*]; done)), H', ⟨Nat.le_refl _⟩, by repeat (first | exact Drawn0.refl _ | apply Drawn0.step)⟩
 case round =>
  clear H'
  (try clear p2)
  obtain ⟨x8_1, rfl, HA, HK1, ⟨m1, rfl⟩⟩ := hrel
  cases gk with
  | zero => exact absurd HA.out (by simp [slices_Index_string_string.l0])
  | succ k1 =>
   have H := HA.out
   clear HA
   simp only [slices_Index_string_string.l0] at H
   by_cases c3 : x8_1 < (l0.length : Int)
   ·rw [if_pos c3] at H
    have c3b0 : decide (x8_1 < (l0.length : Int)) = true := decide_eq_true c3
    clear c3
    by_cases c4 : 0 ≤ x8_1
    ·rw [if_pos c4] at H
     have c4b0 : decide (0 ≤ x8_1) = true := decide_eq_true c4
     clear c4
     by_cases c5 : x8_1 < (l0.length : Int)
     ·rw [if_pos c5] at H
      have c5b0 : decide (x8_1 < (l0.length : Int)) = true := decide_eq_true c5
      clear c5
      by_cases c6 : a1.toList = (rdOf ByteArray.empty l0 x8_1).toList
      ·rw [if_pos c6] at H
       have c6b0 : (a1.toList == (rdOf ByteArray.empty l0 x8_1).toList) = true := beq_iff_eq.mpr c6
       have c6b1 : (a1.toList != (rdOf ByteArray.empty l0 x8_1).toList) = false := bne_eq_false_iff_eq.mpr c6
       clear c6
       obtain rfl := oj H
       have p955 : 0 ≤ (x8_1 : Int) := dt
       have q955 : x8_1 < (l0.length : Int) := dt
       obtain ⟨ad955, e955, hx955_0⟩ := Kd.at_string HR0.out x8_1 p955 q955
       cases e955
       replace p955 := eq_true p955
       replace q955 := eq_true q955
       go_wp2
       go_ret
       exact ⟨by first | rfl | (simp; done) | (simp [*]; done), by repeat (first | exact Drawn0.refl _ | apply Drawn0.step)⟩
      ·rw [if_neg c6] at H
       have c6b0 : (a1.toList == (rdOf ByteArray.empty l0 x8_1).toList) = false := beq_eq_false_iff_ne.mpr c6
       have c6b1 : (a1.toList != (rdOf ByteArray.empty l0 x8_1).toList) = true := bne_iff_ne.mpr c6
       have H' := am H
       clear H
       have p955 : 0 ≤ (x8_1 : Int) := dt
       have q955 : x8_1 < (l0.length : Int) := dt
       obtain ⟨ad955, e955, hx955_0⟩ := Kd.at_string HR0.out x8_1 p955 q955
       cases e955
       replace p955 := eq_true p955
       replace q955 := eq_true q955
       go_wp2
       go_roundg k1
       case measure => have := HK1.out; omega
       case rel => exact ⟨(wrap64 (x8_1 + 1)), (by first | rfl | (simp; done) | (simp [*]; done)), H', ⟨by have := HK1.out; omega⟩, by repeat (first | exact Drawn0.refl _ | apply Drawn0.step)⟩
     ·rw [if_neg c5] at H
      exact absurd H (by simp)
    ·rw [if_neg c4] at H
     exact absurd H (by simp)
   ·rw [if_neg c3] at H
    have c3b0 : decide (x8_1 < (l0.length : Int)) = false := decide_eq_false c3
    clear c3
    obtain rfl := oj H
    go_wp2
    go_ret
    exact ⟨by first | rfl | (simp; done) | (simp [*]; done), by repeat (first | exact Drawn0.refl _ | apply Drawn0.step)⟩

/-! ### impl_opNames: function 97 -/
def impl_opNames.f  : Option (List ByteArray) := some (([(⟨#[110, 111, 112]⟩ : ByteArray), (⟨#[108, 100, 105]⟩ : ByteArray), (⟨#[108, 100, 97]⟩ : ByteArray), (⟨#[115, 116, 97]⟩ : ByteArray), (⟨#[97, 100, 105]⟩ : ByteArray), (⟨#[115, 98, 105]⟩ : ByteArray), (⟨#[97, 110, 105]⟩ : ByteArray), (⟨#[111, 114, 105]⟩ : ByteArray), (⟨#[120, 114, 105]⟩ : ByteArray), (⟨#[99, 112, 105]⟩ : ByteArray), (⟨#[116, 97, 120]⟩ : ByteArray), (⟨#[116, 120, 97]⟩ : ByteArray), (⟨#[105, 110, 120]⟩ : ByteArray), (⟨#[100, 101, 120]⟩ : ByteArray), (⟨#[108, 97, 120]⟩ : ByteArray), (⟨#[115, 97, 120]⟩ : ByteArray), (⟨#[98, 110, 101]⟩ : ByteArray), (⟨#[98, 101, 113]⟩ : ByteArray), (⟨#[98, 99, 115]⟩ : ByteArray), (⟨#[106, 109, 112]⟩ : ByteArray), (⟨#[106, 115, 114]⟩ : ByteArray), (⟨#[114, 116, 115]⟩ : ByteArray), (⟨#[112, 104, 97]⟩ : ByteArray), (⟨#[112, 108, 97]⟩ : ByteArray), (⟨#[114, 116, 105]⟩ : ByteArray), (⟨#[115, 101, 105]⟩ : ByteArray), (⟨#[99, 108, 105]⟩ : ByteArray), (⟨#[115, 101, 99]⟩ : ByteArray), (⟨#[99, 108, 99]⟩ : ByteArray), (⟨#[97, 100, 97]⟩ : ByteArray)] : List ByteArray))
theorem impl_opNames.calls  (r : List ByteArray) (w : World) (h : impl_opNames.f  = some r) :
  Calls Try.prog 97 #[] w fun e w' => ∃ v0_ : Value, e = .returned (v0_) ∧ Kd.R Kd.string 9 w' w.heap.size (fun _ => True) v0_ r ∧ Below w.heap.size w w' := by
 have HB := am (Below.refl w.heap.size w)
 have H : (some (([(⟨#[110, 111, 112]⟩ : ByteArray), (⟨#[108, 100, 105]⟩ : ByteArray), (⟨#[108, 100, 97]⟩ : ByteArray), (⟨#[115, 116, 97]⟩ : ByteArray), (⟨#[97, 100, 105]⟩ : ByteArray), (⟨#[115, 98, 105]⟩ : ByteArray), (⟨#[97, 110, 105]⟩ : ByteArray), (⟨#[111, 114, 105]⟩ : ByteArray), (⟨#[120, 114, 105]⟩ : ByteArray), (⟨#[99, 112, 105]⟩ : ByteArray), (⟨#[116, 97, 120]⟩ : ByteArray), (⟨#[116, 120, 97]⟩ : ByteArray), (⟨#[105, 110, 120]⟩ : ByteArray), (⟨#[100, 101, 120]⟩ : ByteArray), (⟨#[108, 97, 120]⟩ : ByteArray), (⟨#[115, 97, 120]⟩ : ByteArray), (⟨#[98, 110, 101]⟩ : ByteArray), (⟨#[98, 101, 113]⟩ : ByteArray), (⟨#[98, 99, 115]⟩ : ByteArray), (⟨#[106, 109, 112]⟩ : ByteArray), (⟨#[106, 115, 114]⟩ : ByteArray), (⟨#[114, 116, 115]⟩ : ByteArray), (⟨#[112, 104, 97]⟩ : ByteArray), (⟨#[112, 108, 97]⟩ : ByteArray), (⟨#[114, 116, 105]⟩ : ByteArray), (⟨#[115, 101, 105]⟩ : ByteArray), (⟨#[99, 108, 105]⟩ : ByteArray), (⟨#[115, 101, 99]⟩ : ByteArray), (⟨#[99, 108, 99]⟩ : ByteArray), (⟨#[97, 100, 97]⟩ : ByteArray)] : List ByteArray))) = some r := h
 clear h
 obtain ⟨y956, hy956⟩ : ∃ y_ : List ByteArray, y_ = (([(⟨#[110, 111, 112]⟩ : ByteArray), (⟨#[108, 100, 105]⟩ : ByteArray), (⟨#[108, 100, 97]⟩ : ByteArray), (⟨#[115, 116, 97]⟩ : ByteArray), (⟨#[97, 100, 105]⟩ : ByteArray), (⟨#[115, 98, 105]⟩ : ByteArray), (⟨#[97, 110, 105]⟩ : ByteArray), (⟨#[111, 114, 105]⟩ : ByteArray), (⟨#[120, 114, 105]⟩ : ByteArray), (⟨#[99, 112, 105]⟩ : ByteArray), (⟨#[116, 97, 120]⟩ : ByteArray), (⟨#[116, 120, 97]⟩ : ByteArray), (⟨#[105, 110, 120]⟩ : ByteArray), (⟨#[100, 101, 120]⟩ : ByteArray), (⟨#[108, 97, 120]⟩ : ByteArray), (⟨#[115, 97, 120]⟩ : ByteArray), (⟨#[98, 110, 101]⟩ : ByteArray), (⟨#[98, 101, 113]⟩ : ByteArray), (⟨#[98, 99, 115]⟩ : ByteArray), (⟨#[106, 109, 112]⟩ : ByteArray), (⟨#[106, 115, 114]⟩ : ByteArray), (⟨#[114, 116, 115]⟩ : ByteArray), (⟨#[112, 104, 97]⟩ : ByteArray), (⟨#[112, 108, 97]⟩ : ByteArray), (⟨#[114, 116, 105]⟩ : ByteArray), (⟨#[115, 101, 105]⟩ : ByteArray), (⟨#[99, 108, 105]⟩ : ByteArray), (⟨#[115, 101, 99]⟩ : ByteArray), (⟨#[99, 108, 99]⟩ : ByteArray), (⟨#[97, 100, 97]⟩ : ByteArray)] : List ByteArray)) := ⟨_, rfl⟩
 replace H : (some y956) = some r := by first | (rw [hy956]; with_reducible exact H) | (have H2_ := (Option.bind_some _ _).symm.trans H; rw [hy956]; with_reducible exact H2_) | (have H2_ := (Option.bind_some _ _).symm.trans H; with_reducible exact H2_) | with_reducible exact H | (rw [hy956]; exact H) | exact H
 have Ny956 := am hy956
 clear hy956
 obtain rfl := oj H
 go_enter Try.func97, Try.ntmps97
 go_wp2_with (first | ((with_reducible refine gd 1 ?_); refine Kd.R_lit Kd.string _ 9 ?hg (N := 1) ?hd (xs := ([(⟨#[110, 111, 112]⟩ : ByteArray), (⟨#[108, 100, 105]⟩ : ByteArray), (⟨#[108, 100, 97]⟩ : ByteArray), (⟨#[115, 116, 97]⟩ : ByteArray), (⟨#[97, 100, 105]⟩ : ByteArray), (⟨#[115, 98, 105]⟩ : ByteArray), (⟨#[97, 110, 105]⟩ : ByteArray), (⟨#[111, 114, 105]⟩ : ByteArray), (⟨#[120, 114, 105]⟩ : ByteArray), (⟨#[99, 112, 105]⟩ : ByteArray), (⟨#[116, 97, 120]⟩ : ByteArray), (⟨#[116, 120, 97]⟩ : ByteArray), (⟨#[105, 110, 120]⟩ : ByteArray), (⟨#[100, 101, 120]⟩ : ByteArray), (⟨#[108, 97, 120]⟩ : ByteArray), (⟨#[115, 97, 120]⟩ : ByteArray), (⟨#[98, 110, 101]⟩ : ByteArray), (⟨#[98, 101, 113]⟩ : ByteArray), (⟨#[98, 99, 115]⟩ : ByteArray), (⟨#[106, 109, 112]⟩ : ByteArray), (⟨#[106, 115, 114]⟩ : ByteArray), (⟨#[114, 116, 115]⟩ : ByteArray), (⟨#[112, 104, 97]⟩ : ByteArray), (⟨#[112, 108, 97]⟩ : ByteArray), (⟨#[114, 116, 105]⟩ : ByteArray), (⟨#[115, 101, 105]⟩ : ByteArray), (⟨#[99, 108, 105]⟩ : ByteArray), (⟨#[115, 101, 99]⟩ : ByteArray), (⟨#[99, 108, 99]⟩ : ByteArray), (⟨#[97, 100, 97]⟩ : ByteArray)] : List ByteArray)) (inner := [.string (⟨#[110, 111, 112]⟩ : ByteArray), .string (⟨#[108, 100, 105]⟩ : ByteArray), .string (⟨#[108, 100, 97]⟩ : ByteArray), .string (⟨#[115, 116, 97]⟩ : ByteArray), .string (⟨#[97, 100, 105]⟩ : ByteArray), .string (⟨#[115, 98, 105]⟩ : ByteArray), .string (⟨#[97, 110, 105]⟩ : ByteArray), .string (⟨#[111, 114, 105]⟩ : ByteArray), .string (⟨#[120, 114, 105]⟩ : ByteArray), .string (⟨#[99, 112, 105]⟩ : ByteArray), .string (⟨#[116, 97, 120]⟩ : ByteArray), .string (⟨#[116, 120, 97]⟩ : ByteArray), .string (⟨#[105, 110, 120]⟩ : ByteArray), .string (⟨#[100, 101, 120]⟩ : ByteArray), .string (⟨#[108, 97, 120]⟩ : ByteArray), .string (⟨#[115, 97, 120]⟩ : ByteArray), .string (⟨#[98, 110, 101]⟩ : ByteArray), .string (⟨#[98, 101, 113]⟩ : ByteArray), .string (⟨#[98, 99, 115]⟩ : ByteArray), .string (⟨#[106, 109, 112]⟩ : ByteArray), .string (⟨#[106, 115, 114]⟩ : ByteArray), .string (⟨#[114, 116, 115]⟩ : ByteArray), .string (⟨#[112, 104, 97]⟩ : ByteArray), .string (⟨#[112, 108, 97]⟩ : ByteArray), .string (⟨#[114, 116, 105]⟩ : ByteArray), .string (⟨#[115, 101, 105]⟩ : ByteArray), .string (⟨#[99, 108, 105]⟩ : ByteArray), .string (⟨#[115, 101, 99]⟩ : ByteArray), .string (⟨#[99, 108, 99]⟩ : ByteArray), .string (⟨#[97, 100, 97]⟩ : ByteArray)]) (ok := fun _ => True) (okp := fun _ => True) ?hr ?hp (fun _ hk => hk) trivial (Below.refl _ _) (Nat.le_refl _) (by simp) ?_; (case hd => rfl); (case hg => rfl); (case hr => first | (go_simp; done) | (go_simp; rfl)); (case hp => exact (reS _)); intro v957 w1 ho2 hb hg_ hnew_; clear hg_ hnew_; (first | rw [← Ny956.out] at ho2 | (simp only [Int.reduceToNat] at ho2; rw [← Ny956.out] at ho2)); have HO958 := am (Kd.R_lower ho2 (below_size (bw HB.out))); replace HB := am (below_step (bw HB.out) hb); clear hb ho2))
 go_ret
 exact ⟨_, rt, kr HO958.out, bw HB.out⟩

/-! ### impl_OpOf: function 51 -/
def impl_OpOf.f (k : Nat) (a0 : ByteArray) : Option (Int) := (impl_opNames.f).bind fun t959 => ((slices_Index_string_string.f k t959 a0).bind fun t962 => (some t962))
theorem impl_OpOf.calls (k : Nat) (a0 : ByteArray) (r : Int) (w : World) (h : impl_OpOf.f k a0 = some r) :
  Calls Try.prog 51 #[.string a0] w fun e w' => e = .returned (.int .i64 r) ∧ Below w.heap.size w w' := by
 have HB := am (Below.refl w.heap.size w)
 have H : ((impl_opNames.f).bind fun t959 => ((slices_Index_string_string.f k t959 a0).bind fun t962 => (some t962))) = some r := h
 clear h
 replace H := bs H
 obtain ⟨t959, A20, H⟩ := H
 replace H : ((slices_Index_string_string.f k t959 a0).bind fun t962 => (some t962)) = some r := H
 have A2 := am A20
 clear A20
 replace H := bs H
 obtain ⟨t962, A30, H⟩ := H
 replace H : (some t962) = some r := H
 have A3 := am A30
 clear A30
 obtain rfl := oj H
 go_enter Try.func51, Try.ntmps51
 go_wp2_with (first | ((with_reducible refine gate_callee (f := 97) rfl ?_); refine goesM_ (some 3) rfl rfl Try.func97 #[] ?_; (with_reducible refine (impl_opNames.calls  t959 _ A2.out).mono ?_); rintro e w4 ⟨v960, rfl, ho0, hb⟩; refine ⟨_, rfl, ?_⟩; have HO961 := am (Kd.R_lower ho0 (below_size (bw HB.out))); replace HB := am (below_step (bw HB.out) hb); (try clear hb); (try clear ho0); obtain ⟨Ao5, co5, eo5⟩ := Kd.R_slice HO961.out; subst eo5) | ((with_reducible refine gate_callee (f := 96) rfl ?_); refine goesM_ (some 5) rfl rfl Try.func96 #[.slice Ao5 t959.length co5, .string a0] ?_; (with_reducible refine (slices_Index_string_string.calls k _ _ t959 a0 t962 _ ?side1 ?side2 A3.out).mono ?_); (case side1 => exact kc (Kd.R_reads' HO961.out).2.2); (case side2 => exact (Kd.R_reads' HO961.out).2.1); rintro e w' ⟨rfl, ⟨nd, rfl⟩⟩; refine ⟨_, rfl, ?_⟩))
 go_ret
 exact ⟨rt, bw HB.out⟩

end Go.Proofs.Ytmkccgbfgebfbaa.MFnCalled
