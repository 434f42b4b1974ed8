/- Walks of functions that the law FnExactExec reaches: each comes to just what its Lean function says. (Begun as the texts that print.sh wrote for this claim; some of them, and those that it does not write, are mine.) No condition. -/
import Derived.Test.YtmiaocoffmobcaaMFnExactExecx4
namespace Go.Proofs.Ytmiaocoffmobcaa.MFnExactExec
open Go.RowKit Go.Proofs.YtmiaocoffmobcaaW.PrintWords Go.Proofs.YtmiaocoffmobcaaW.PrintLast Go.Proofs.YtmiaocoffmobcaaW.PrintMore
attribute [local go_sem] max2_int min2_int max_two min_two max_three min_three max_four min_four   -- for this text's walks alone
set_option linter.unusedVariables false
set_option linter.unusedSimpArgs false

/-! ### spec_Exec (mine) -/
/-- What stands while spec.Exec runs: its three arguments, its two results' places, the memory of its own. -/
structure SX (w0 w : World) (m4 m5 m6 m8 m9 m10 : Nat) (A0 : Option Addr) (n0 c0 : Nat) (b : Int) (k : Cp) (op arg : Int) (rv : Value) (ram : List Int) : Prop where
 h4 : w.heap[m4]? = some (.cells #[.slice A0 n0 c0, .int .i64 b] 37 (0, 0))
 h5 : w.heap[m5]? = some (.cells k.cells 38 (0, 0))
 h6 : w.heap[m6]? = some (.cells #[.int .i64 op, .int .i64 arg] 68 (0, 0))
 h8 : w.heap[m8]? = some (.cells #[.slice none 0 0, .int .i64 0] 37 (0, 0))
 h9 : w.heap[m9]? = some (.cells #[.int .i64 0, .int .i64 0, .int .i64 0, .int .i64 0, .bool false, .bool false, .bool false, .bool false] 38 (0, 0))
 h10 : w.heap[m10]? = some (.cells #[rv, .int .i64 b] 37 (0, 0))
 row : Kd.R (Kd.int .i64) 3 w w0.heap.size (fun _ => True) rv ram
 e5 : w0.heap.size ≤ m5
 e8 : w0.heap.size ≤ m8
 e9 : w0.heap.size ≤ m9
 e10 : w0.heap.size ≤ m10
 n95 : m9 ≠ m5
 n410 : m4 ≠ m10
 n810 : m8 ≠ m10
 below : Below w0.heap.size w0 w
section
variable {w0 w w' : World} {m4 m5 m6 m8 m9 m10 : Nat} {A0 : Option Addr} {n0 c0 : Nat} {b : Int} {k k' : Cp} {op arg : Int} {rv : Value} {ram : List Int}
theorem SX.later (h : SX w0 w m4 m5 m6 m8 m9 m10 A0 n0 c0 b k op arg rv ram) (hb : Below w.heap.size w w') : SX w0 w' m4 m5 m6 m8 m9 m10 A0 n0 c0 b k op arg rv ram :=
 ⟨blk_below h.h4 hb, blk_below h.h5 hb, blk_below h.h6 hb, blk_below h.h8 hb, blk_below h.h9 hb, blk_below h.h10 hb, Kd.R_below h.row hb, h.e5, h.e8, h.e9, h.e10, h.n95, h.n410, h.n810, below_step h.below hb⟩
theorem SX.drewN (h : SX w0 w m4 m5 m6 m8 m9 m10 A0 n0 c0 b k op arg rv ram) (n : Nat) : SX w0 (w.drewN n) m4 m5 m6 m8 m9 m10 A0 n0 c0 b k op arg rv ram := h.later (pw_below_drewN (Below.refl _ _) n)
theorem SX.drew (h : SX w0 w m4 m5 m6 m8 m9 m10 A0 n0 c0 b k op arg rv ram) : SX w0 w.drew m4 m5 m6 m8 m9 m10 A0 n0 c0 b k op arg rv ram := h.later (below_drew1 (Below.refl _ _))
theorem SX.setC (h : SX w0 w m4 m5 m6 m8 m9 m10 A0 n0 c0 b k op arg rv ram) (i : Nat) (u : Value) (e : k.cells.setIfInBounds i u = k'.cells) : SX w0 (w.setCell ⟨m5, i, none⟩ u) m4 m5 m6 m8 m9 m10 A0 n0 c0 b k' op arg rv ram :=
 ⟨blk_far h.h4 (blk_ne h.h4 h.h5 (by decide)) u, blk_put h.h5 i u e, blk_far h.h6 (blk_ne h.h6 h.h5 (by decide)) u, blk_far h.h8 (blk_ne h.h8 h.h5 (by decide)) u, blk_far h.h9 h.n95 u, blk_far h.h10 (blk_ne h.h10 h.h5 (by decide)) u,
  Kd.R_mono (Kd.R_far (p := ⟨m5, i, none⟩) (Kd.R_types h.row h.h5 (by decide)) (fun _ hk => hk.2) u) (fun _ hk => hk.1), h.e5, h.e8, h.e9, h.e10, h.n95, h.n410, h.n810, below_set h.below h.e5⟩
theorem SX.put8 (h : SX w0 w m4 m5 m6 m8 m9 m10 A0 n0 c0 b k op arg rv ram) (a x1 s p : Int) (z n cc i : Bool) :
  SX w0 ((((((((w.setCell ⟨m5, 0, none⟩ (.int .i64 a)).setCell ⟨m5, 1, none⟩ (.int .i64 x1)).setCell ⟨m5, 2, none⟩ (.int .i64 s)).setCell ⟨m5, 3, none⟩ (.int .i64 p)).setCell ⟨m5, 4, none⟩ (.bool z)).setCell ⟨m5, 5, none⟩ (.bool n)).setCell ⟨m5, 6, none⟩ (.bool cc)).setCell ⟨m5, 7, none⟩ (.bool i)) m4 m5 m6 m8 m9 m10 A0 n0 c0 b ⟨a, x1, s, p, z, n, cc, i⟩ op arg rv ram :=
 (((((((h.setC (k' := ⟨a, k.X, k.S, k.P, k.Z, k.N, k.C, k.I⟩) 0 _ rfl).setC (k' := ⟨a, x1, k.S, k.P, k.Z, k.N, k.C, k.I⟩) 1 _ rfl).setC (k' := ⟨a, x1, s, k.P, k.Z, k.N, k.C, k.I⟩) 2 _ rfl).setC (k' := ⟨a, x1, s, p, k.Z, k.N, k.C, k.I⟩) 3 _ rfl).setC (k' := ⟨a, x1, s, p, z, k.N, k.C, k.I⟩) 4 _ rfl).setC (k' := ⟨a, x1, s, p, z, n, k.C, k.I⟩) 5 _ rfl).setC (k' := ⟨a, x1, s, p, z, n, cc, k.I⟩) 6 _ rfl).setC (k' := ⟨a, x1, s, p, z, n, cc, i⟩) 7 _ rfl
theorem SX.put10 {rv' : Value} {ram' : List Int} (h : SX w0 w m4 m5 m6 m8 m9 m10 A0 n0 c0 b k op arg rv ram) (hr : Kd.R (Kd.int .i64) 3 w w0.heap.size (fun _ => True) rv' ram') : SX w0 ((w.setCell ⟨m10, 0, none⟩ rv').setCell ⟨m10, 1, none⟩ (.int .i64 b)) m4 m5 m6 m8 m9 m10 A0 n0 c0 b k op arg rv' ram' :=
 ⟨blk_far (blk_far h.h4 h.n410 _) h.n410 _, blk_far (blk_far h.h5 (blk_ne h.h5 h.h10 (by decide)) _) (blk_ne h.h5 h.h10 (by decide)) _, blk_far (blk_far h.h6 (blk_ne h.h6 h.h10 (by decide)) _) (blk_ne h.h6 h.h10 (by decide)) _, blk_far (blk_far h.h8 h.n810 _) h.n810 _, blk_far (blk_far h.h9 (blk_ne h.h9 h.h10 (by decide)) _) (blk_ne h.h9 h.h10 (by decide)) _, put2 h.h10 _ _,
  Kd.R_mono (Kd.R_far (p := ⟨m10, 1, none⟩) (Kd.R_far (p := ⟨m10, 0, none⟩) (Kd.R_types hr h.h10 (by decide)) (fun _ hk => hk.2) _) (fun _ hk => hk.2) _) (fun _ hk => hk.1), h.e5, h.e8, h.e9, h.e10, h.n95, h.n410, h.n810, below_set (below_set h.below h.e10) h.e10⟩
end
theorem saddr_ex (a : Int) : ∃ t, spec_Addr.f a = some t ∧ a % 65536 = t := by
 refine ⟨_, ?_, rfl⟩
 unfold spec_Addr.f
 rw [and65535]
theorem sflag_ex (k : Cp) (v : Int) : ∃ z n c i, spec_WithFlags.f k.A k.X k.S k.P k.Z k.N k.C k.I v = some (k.A, k.X, k.S, k.P, z, n, c, i) ∧ flagK k v = ⟨k.A, k.X, k.S, k.P, z, n, c, i⟩ := by
 refine ⟨_, _, _, _, ?_, rfl⟩
 unfold spec_WithFlags.f
 rfl
theorem scopy_is (l : List Int) (b : Int) (h : l.length < 17592186044416) : spec_l6Copy.f l b = some (l, b) := by
 unfold spec_l6Copy.f
 simp only [Option.bind_some, List.length_nil, List.nil_append]
 rw [if_pos (by omega)]
theorem spush_ex (ram : List Int) (b : Int) (k : Cp) (v : Int) (h : ram.length < 17592186044416) : ∃ ram1 s1, spec_Push.f ram b k.A k.X k.S k.P k.Z k.N k.C k.I v = some (ram1, b, k.A, k.X, s1, k.P, k.Z, k.N, k.C, k.I) ∧ pushF ram k v = (ram1, ⟨k.A, k.X, s1, k.P, k.Z, k.N, k.C, k.I⟩) ∧ ram1.length = ram.length := by
 unfold pushF spec_Push.f
 rw [scopy_is ram b h]
 simp only [Option.bind_some]
 by_cases hl : ram.length = 512
 ·refine ⟨_, _, ?_, by rw [if_pos hl], by simp⟩
  rw [if_pos (by omega)]
  unfold spec_Byte.f
  simp only [Option.bind_some, and255]
  rw [show wrap64 (256 + k.S % 256) = 256 + k.S % 256 by unfold wrap64; omega, if_pos (by omega), if_pos (by omega)]
 ·refine ⟨ram, k.S, ?_, by rw [if_neg hl], rfl⟩
  rw [if_neg (by omega)]
def switchF (ram : List Int) (k : Cp) (op arg : Int) : List Int × Cp := if op = 16 then (ram, if k.Z = true then k else { k with P := arg % 65536 }) else if op = 17 then (ram, if k.Z = true then { k with P := arg % 65536 } else k) else if op = 18 then (ram, if k.C = true then { k with P := arg % 65536 } else k) else if op = 19 then (ram, { k with P := arg % 65536 }) else if op = 20 then ((pushPcF ram k).1, { (pushPcF ram k).2 with P := arg % 65536 }) else if op = 21 then (ram, sbackF ram k) else if op = 22 then pushF ram k k.A else if op = 23 then (ram, setAK (spullF ram k).1 (spullF ram k).2) else if op = 24 then (ram, sbackF ram (flagK (spullF ram k).1 (spullF ram k).2)) else if op = 25 then (ram, { k with I := true }) else if op = 26 then (ram, { k with I := false }) else if op = 27 then (ram, { k with C := true }) else if op = 28 then (ram, { k with C := false }) else (ram, k)
def sexecF (ram : List Int) (k : Cp) (op arg v ln : Int) : List Int × Cp := if (aluF { k with P := wrap64 (k.P + ln) % 65536 } op arg v).2 = true then (ram, (aluF { k with P := wrap64 (k.P + ln) % 65536 } op arg v).1) else switchF ram { k with P := wrap64 (k.P + ln) % 65536 } op arg
set_option maxRecDepth 100000 in
set_option maxHeartbeats 8000000 in
theorem specExec_calls (A0 : Option Addr) (c0 : Nat) (l0 : List Int) (b : Int) (k : Cp) (op arg v : Int) (w : World) (hr : Kd.C (Kd.int .i64) w A0 l0.length l0) (hc : l0.length ≤ c0) (hlen : l0.length < 17592186044416) (ln : Int) (hl : spec_OpLen.f op = some ln) :
  Calls Try.prog 57 #[.agg #[.slice A0 l0.length c0, .int .i64 b], .agg k.cells, .agg #[.int .i64 op, .int .i64 arg], .int .i64 v] w fun e w' => ∃ v0_ : Value, e = .returned (.tuple #[.agg #[v0_, .int .i64 b], .agg (sexecF l0 k op arg v ln).2.cells]) ∧ Kd.R (Kd.int .i64) 3 w' w.heap.size (fun _ => True) v0_ (sexecF l0 k op arg v ln).1 ∧ Below w.heap.size w w' := by
 obtain ⟨A, X, S, P, Z, N, C, I⟩ := k
 obtain ⟨pc, hp, ep⟩ := saddr_ex (wrap64 (P + ln))
 obtain ⟨tgt, ht, et⟩ := saddr_ex arg
 have HLEN := Aside0.mk hlen
 have HL := Aside0.mk hl
 have HP := Aside0.mk hp
 have EP := Aside0.mk ep
 have HT := Aside0.mk ht
 have ET := Aside0.mk et
 have HR := Aside0.mk hr
 have HC := Aside0.mk hc
 clear hlen hl hp ep ht et hr hc
 have hu37 := Try.underlying37
 have hu38 := Try.underlying38
 have hu68 := Try.underlying68
 go_enter Try.func57, Try.ntmps57
 go_upto_region 2 with (first | ((with_reducible refine gate_dst (N := 4) rfl ?_); refine bx (N := 4) (cs := #[.slice A0 l0.length c0, .int .i64 b]) (t := 37) ?_; intro m4 hg w1 hbox hb; have H4 := Aside0.mk hbox; have HB := Aside0.mk (below_step (Below.refl w.heap.size w) hb); clear hbox hb hg) | ((with_reducible refine gate_dst (N := 5) rfl ?_); refine bx (N := 5) (cs := #[.int .i64 A, .int .i64 X, .int .i64 S, .int .i64 P, .bool Z, .bool N, .bool C, .bool I]) (t := 38) ?_; intro m5 hg w2 hbox hb; have Q4 := Aside0.mk (blk_below H4.out hb); clear H4; have H4 := Q4; clear Q4; have H5 := Aside0.mk hbox; have E5 : Aside0 (w.heap.size ≤ m5) := ⟨by rw [hg]; exact below_size HB.out⟩; have HB2 := Aside0.mk (below_step HB.out hb); clear HB; have HB := HB2; clear HB2; clear hbox hb hg) | ((with_reducible refine gate_dst (N := 6) rfl ?_); refine bx (N := 6) (cs := #[.int .i64 op, .int .i64 arg]) (t := 68) ?_; intro m6 hg w3 hbox hb; have Q4 := Aside0.mk (blk_below H4.out hb); clear H4; have H4 := Q4; clear Q4; have Q5 := Aside0.mk (blk_below H5.out hb); clear H5; have H5 := Q5; clear Q5; have H6 := Aside0.mk hbox; have E6 : Aside0 (w.heap.size ≤ m6) := ⟨by rw [hg]; exact below_size HB.out⟩; have HB2 := Aside0.mk (below_step HB.out hb); clear HB; have HB := HB2; clear HB2; clear hbox hb hg) | ((with_reducible refine gate_dst (N := 8) rfl ?_); refine bx (N := 8) (cs := #[.slice none 0 0, .int .i64 0]) (t := 37) ?_; intro m8 hg w4 hbox hb; have Q4 := Aside0.mk (blk_below H4.out hb); clear H4; have H4 := Q4; clear Q4; have Q5 := Aside0.mk (blk_below H5.out hb); clear H5; have H5 := Q5; clear Q5; have Q6 := Aside0.mk (blk_below H6.out hb); clear H6; have H6 := Q6; clear Q6; have H8 := Aside0.mk hbox; have E8 : Aside0 (w.heap.size ≤ m8) := ⟨by rw [hg]; exact below_size HB.out⟩; have HB2 := Aside0.mk (below_step HB.out hb); clear HB; have HB := HB2; clear HB2; clear hbox hb hg) | ((with_reducible refine gate_dst (N := 9) rfl ?_); refine bx (N := 9) (cs := #[.int .i64 0, .int .i64 0, .int .i64 0, .int .i64 0, .bool false, .bool false, .bool false, .bool false]) (t := 38) ?_; intro m9 hg w5 hbox hb; have N95 : Aside0 (m9 ≠ m5) := ⟨by rw [hg]; exact Nat.ne_of_gt (blk_lt H5.out)⟩; have Q4 := Aside0.mk (blk_below H4.out hb); clear H4; have H4 := Q4; clear Q4; have Q5 := Aside0.mk (blk_below H5.out hb); clear H5; have H5 := Q5; clear Q5; have Q6 := Aside0.mk (blk_below H6.out hb); clear H6; have H6 := Q6; clear Q6; have Q8 := Aside0.mk (blk_below H8.out hb); clear H8; have H8 := Q8; clear Q8; have H9 := Aside0.mk hbox; have E9 : Aside0 (w.heap.size ≤ m9) := ⟨by rw [hg]; exact below_size HB.out⟩; have HB2 := Aside0.mk (below_step HB.out hb); clear HB; have HB := HB2; clear HB2; have z0 : w5.cell? ⟨m4, 0, none⟩ = some (.slice A0 l0.length c0) := (blk_cell H4.out 0).trans rfl; have z1 : w5.cell? ⟨m4, 1, none⟩ = some (.int .i64 b) := (blk_cell H4.out 1).trans rfl; clear hbox hb hg) | ((with_reducible refine gate_dst (N := 10) rfl ?_); refine bx (N := 10) (cs := #[.slice none 0 0, .int .i64 0]) (t := 37) ?_; intro m10 hg w7 hbox hb; have N410 : Aside0 (m4 ≠ m10) := ⟨by rw [hg]; exact Nat.ne_of_lt (blk_lt H4.out)⟩; have N810 : Aside0 (m8 ≠ m10) := ⟨by rw [hg]; exact Nat.ne_of_lt (blk_lt H8.out)⟩; have Q4 := Aside0.mk (blk_below H4.out hb); clear H4; have H4 := Q4; clear Q4; have Q5 := Aside0.mk (blk_below H5.out hb); clear H5; have H5 := Q5; clear Q5; have Q6 := Aside0.mk (blk_below H6.out hb); clear H6; have H6 := Q6; clear Q6; have Q8 := Aside0.mk (blk_below H8.out hb); clear H8; have H8 := Q8; clear Q8; have Q9 := Aside0.mk (blk_below H9.out hb); clear H9; have H9 := Q9; clear Q9; have H10 := Aside0.mk hbox; have R2 := Aside0.mk (Kd.R_below ROW.out hb); clear ROW; have ROW := R2; clear R2; have E10 : Aside0 (w.heap.size ≤ m10) := ⟨by rw [hg]; exact below_size HB.out⟩; have HB2 := Aside0.mk (below_step HB.out hb); clear HB; have HB := HB2; clear HB2; have x0 : w7.cell? ⟨m10, 0, none⟩ = some (.slice none 0 0) := (blk_cell H10.out 0).trans rfl; have fx0 := blk_frozen H10.out 0; have x1 : w7.cell? ⟨m10, 1, none⟩ = some (.int .i64 0) := (blk_cell H10.out 1).trans rfl; have fx1 := blk_frozen H10.out 1; clear hbox hb hg) | (go_at_call 67; refine (spec_l6Copy.calls A0 c0 l0 b l0 b _ (Kd.C_below HR.out HB.out) HC.out (scopy_is l0 b HLEN.out)).mono ?_; rintro e w6 ⟨v0, rfl, hR, hb⟩; obtain ⟨A2, c2, rfl⟩ := Kd.R_slice hR; have Q4 := Aside0.mk (blk_below H4.out hb); clear H4; have H4 := Q4; clear Q4; have Q5 := Aside0.mk (blk_below H5.out hb); clear H5; have H5 := Q5; clear Q5; have Q6 := Aside0.mk (blk_below H6.out hb); clear H6; have H6 := Q6; clear Q6; have Q8 := Aside0.mk (blk_below H8.out hb); clear H8; have H8 := Q8; clear Q8; have Q9 := Aside0.mk (blk_below H9.out hb); clear H9; have H9 := Q9; clear Q9; have ROW := Aside0.mk (Kd.R_lower hR (below_size HB.out)); have HB2 := Aside0.mk (below_step HB.out hb); clear HB; have HB := HB2; clear HB2 hR hb))
 have HX : Aside0 (SX w ((w7.setCell ⟨m10, 0, none⟩ (.slice A2 l0.length c2)).setCell ⟨m10, 1, none⟩ (.int .i64 b)) m4 m5 m6 m8 m9 m10 A0 l0.length c0 b (⟨A, X, S, P, Z, N, C, I⟩ : Cp) op arg (.slice A2 l0.length c2) l0) :=
  ⟨⟨blk_far (blk_far H4.out N410.out _) N410.out _, blk_far (blk_far H5.out (blk_ne H5.out H10.out (by decide)) _) (blk_ne H5.out H10.out (by decide)) _, blk_far (blk_far H6.out (blk_ne H6.out H10.out (by decide)) _) (blk_ne H6.out H10.out (by decide)) _, blk_far (blk_far H8.out N810.out _) N810.out _, blk_far (blk_far H9.out (blk_ne H9.out H10.out (by decide)) _) (blk_ne H9.out H10.out (by decide)) _, put2 H10.out _ _,
   Kd.R_mono (Kd.R_far (p := ⟨m10, 1, none⟩) (Kd.R_far (p := ⟨m10, 0, none⟩) (Kd.R_types ROW.out H10.out (by decide)) (fun _ hk => hk.2) _) (fun _ hk => hk.2) _) (fun _ hk => hk.1), E5.out, E8.out, E9.out, E10.out, N95.out, N410.out, N810.out, below_set (below_set HB.out E10.out) E10.out⟩⟩
 generalize ((w7.setCell ⟨m10, 0, none⟩ (.slice A2 l0.length c2)).setCell ⟨m10, 1, none⟩ (.int .i64 b)) = w8 at HX ⊢
 clear H4 H5 H6 H8 H9 H10 HB ROW E5 E6 E8 E9 E10 N95 N410 N810
 have HM5 : Aside0 (w8.heap[m5]? = some (.cells #[.int .i64 A, .int .i64 X, .int .i64 S, .int .i64 P, .bool Z, .bool N, .bool C, .bool I] 38 (0, 0))) := ⟨HX.out.h5⟩
 have HM6 := Aside0.mk HX.out.h6
 refine free_ (n := 9) (e := 7) (g := 0) (T := (true, [([], []), ([0], [0]), ([], []), ([2], [2]), ([3], [3]), ([1, 4], [1, 4]), ([5, 4], [5]), ([0, 1, 2, 3, 4, 5, 6], []), ([7, 6, 6, 0, 1, 2, 3, 4, 5, 6], [6, 7])])) #[true, true, true, true, true, true, true, false, false] #[false, true, true, true, true, true, true, false, false] [19, 20, 21, 22, 23, 24, 25] (fun j u w' => match j with
  | 0 => u = .pointer (some ⟨m5, 3, none⟩)
  | 1 => u = .int .i64 P
  | 2 => u = .pointer (some ⟨m6, 0, none⟩)
  | 3 => u = .int .i64 op
  | 4 => u = .int .i64 ln
  | 5 => u = .int .i64 (wrap64 (P + ln))
  | 6 => u = .int .i64 pc
  | _ => False)
  (by kernel_rfl) rfl (by kernel_rfl) (by kernel_rfl) (by kernel_rfl) (any_of (T := (true, [([], []), ([0], [0]), ([], []), ([2], [2]), ([3], [3]), ([1, 4], [1, 4]), ([5, 4], [5]), ([0, 1, 2, 3, 4, 5, 6], []), ([7, 6, 6, 0, 1, 2, 3, 4, 5, 6], [6, 7])])) (by kernel_rfl) (by kernel_rfl)) (fun _ _ _ _ h => h) ?stsx ?spsx ?lasx ?ensx
 case stsx =>
  intro j u W W' h hb
  exact h
 case spsx =>
  intro i hi o ho a W hB hout hneed K hK
  have HBW := Aside0.mk hB
  have hcase : i = 0 ∨ i = 1 ∨ i = 2 ∨ i = 3 ∨ i = 4 ∨ i = 5 ∨ i = 6 := by omega
  clear hB
  rcases hcase with rfl | rfl | rfl | rfl | rfl | rfl | rfl
  ·obtain rfl := Option.some.inj ho
   have h5 : a.eval (.tmp 5) = .pointer (some ⟨m5, 0, none⟩) := hout 5 (by decide)
   have h5' := eval_get h5
   refine value_ (v := .pointer (some ⟨m5, 3, none⟩)) (w1 := W) (by rfl) rfl ?_ (hK.out _ _ (Below.refl _ _) rfl)
   go_simp
  ·obtain rfl := Option.some.inj ho
   have e0 : a.eval (.tmp 19) = _ := hneed 0 (by decide)
   have e0' := eval_get e0
   have hb := blk_below (w := w8.drew) HM5.out HBW.out
   have d3 := (blk_cell hb 3).trans rfl
   refine value_ (v := .int .i64 P) (w1 := W) (by rfl) rfl ?_ (hK.out _ _ (Below.refl _ _) rfl)
   go_simp
  ·obtain rfl := Option.some.inj ho
   have h6 : a.eval (.tmp 6) = .pointer (some ⟨m6, 0, none⟩) := hout 6 (by decide)
   have h6' := eval_get h6
   refine value_ (v := .pointer (some ⟨m6, 0, none⟩)) (w1 := W) (by rfl) rfl ?_ (hK.out _ _ (Below.refl _ _) rfl)
   go_simp
  ·obtain rfl := Option.some.inj ho
   have e2 : a.eval (.tmp 21) = _ := hneed 2 (by decide)
   have e2' := eval_get e2
   have hb := blk_below (w := w8.drew) HM6.out HBW.out
   have d0 := (blk_cell hb 0).trans rfl
   refine value_ (v := .int .i64 op) (w1 := W) (by rfl) rfl ?_ (hK.out _ _ (Below.refl _ _) rfl)
   go_simp
  ·obtain rfl := Option.some.inj ho
   have e3 : a.eval (.tmp 22) = _ := hneed 3 (by decide)
   have e3' := eval_get e3
   refine goes_ Try.func87 (by kernel_rfl) rfl #[.int .i64 op] (by rfl) rfl rfl (by simp only [List.map_toArray, List.map_cons, List.map_nil, e3]) ?_
   refine (spec_OpLen.calls op ln W HL.out).mono ?_
   rintro e w' ⟨rfl, hb⟩
   exact ⟨_, rfl, hK.out _ _ hb rfl⟩
  ·obtain rfl := Option.some.inj ho
   have e1 : a.eval (.tmp 20) = _ := hneed 1 (by decide)
   have e1' := eval_get e1
   have e4 : a.eval (.tmp 23) = _ := hneed 4 (by decide)
   have e4' := eval_get e4
   refine value_ (v := .int .i64 (wrap64 (P + ln))) (w1 := W) (by rfl) rfl ?_ (hK.out _ _ (Below.refl _ _) rfl)
   go_simp
   first | done | rfl | simp only [i64_w]
  ·obtain rfl := Option.some.inj ho
   have e5 : a.eval (.tmp 24) = _ := hneed 5 (by decide)
   have e5' := eval_get e5
   refine goes_ Try.func92 (by kernel_rfl) rfl #[.int .i64 (wrap64 (P + ln))] (by rfl) rfl rfl (by simp only [List.map_toArray, List.map_cons, List.map_nil, e5]) ?_
   refine (spec_Addr.calls (wrap64 (P + ln)) pc W HP.out).mono ?_
   rintro e w' ⟨rfl, nd, rfl⟩
   exact ⟨_, rfl, hK.out _ _ (pw_below_drewN (Below.refl _ _) nd) rfl⟩
 case lasx =>
  intro o ho a W hout hneed
  obtain rfl := Option.some.inj ho
  have h5 : a.eval (.tmp 5) = .pointer (some ⟨m5, 0, none⟩) := hout 5 (by decide)
  have h5' := eval_get h5
  refine ⟨.pointer (some ⟨m5, 3, none⟩), rfl, Or.inl ⟨by rfl, ?_⟩⟩
  intro w'
  go_simp
 intro f vs W2 hB hE
 have HBW := Aside0.mk hB
 clear hB
 have q0 : vs 0 = _ := hE 0 (by decide)
 have q1 : vs 1 = _ := hE 1 (by decide)
 have q2 : vs 2 = _ := hE 2 (by decide)
 have q3 : vs 3 = _ := hE 3 (by decide)
 have q4 : vs 4 = _ := hE 4 (by decide)
 have q5 : vs 5 = _ := hE 5 (by decide)
 have q6 : vs 6 = _ := hE 6 (by decide)
 show wpAnyLast _ _ _ _ _ _ (f + 2) _ (putAll _ [(19, vs 0), (20, vs 1), (21, vs 2), (22, vs 3), (23, vs 4), (24, vs 5), (25, vs 6)]) W2
 rw [q0, q1, q2, q3, q4, q5, q6]
 clear q0 q1 q2 q3 q4 q5 q6 hE
 refine norm_ (a' := ?_) ?_ ?_
 rotate_left
 ·simp only [putAll, Act.put, List.setIfInBounds_toArray, List.set_cons_zero, List.set_cons_succ]
  rfl
 refine pure_ (i := 7) (N := some 26) (v := ?_) (a' := ?_) #[true, true, true, true, true, true, true, true, false] rfl rfl (by kernel_rfl) (fun _ _ _ h => h) (Or.inl ⟨by rfl, ?_⟩) ?_ ?_
 rotate_left
 ·intro w'
  go_simp
  with_reducible rfl
 rotate_left
 ·simp only [Act.put, List.setIfInBounds_toArray, List.set_cons_zero, List.set_cons_succ, i64_w, i32_w]
  rfl
 refine one_ (i := 8) (N := none) #[true, true, true, true, true, true, true, true, true] rfl rfl (by kernel_rfl) (by decide) (fun K hK => ?_)
 refine skip_ (w1 := ?_) (by rfl) rfl ?_ ?_
 rotate_left
 ·skip
  have hcW := blk_below (w := w8.drew) HM5.out HBW.out
  obtain ⟨⟨t0, t1, t2, t3, t4, t5, t6, t7⟩, ⟨ft0, ft1, ft2, ft3, ft4, ft5, ft6, ft7⟩⟩ := cells8 (hcW)
  go_simp
  rfl
 refine hK.out _ _ trivial (fun _ => ?_)
 clear hK K
 refine done_ (by kernel_rfl) ?_
 have HY : Aside0 (SX w (W2.setCell ⟨m5, 3, none⟩ (.int .i64 pc)) m4 m5 m6 m8 m9 m10 A0 l0.length c0 b (⟨A, X, S, pc, Z, N, C, I⟩ : Cp) op arg (.slice A2 l0.length c2) l0) := ⟨(HX.out.drew.later HBW.out).setC 3 _ rfl⟩
 clear HX HM5 HM6 HBW
 generalize (W2.setCell ⟨m5, 3, none⟩ (.int .i64 pc)) = w9 at HY ⊢
 have HX := HY
 clear HY
 generalize hq : aluF (⟨A, X, S, pc, Z, N, C, I⟩ : Cp) op arg v = q at *
 obtain ⟨⟨qa, qx, qs, qp, qz, qn, qc, qi⟩, qb⟩ := q
 have HA := Aside0.mk hq
 have HALU : Aside0 (∀ w : World, Calls Try.prog 93 #[.agg #[.int .i64 A, .int .i64 X, .int .i64 S, .int .i64 pc, .bool Z, .bool N, .bool C, .bool I], .agg #[.int .i64 op, .int .i64 arg], .int .i64 v] w fun e w' => e = .returned (.tuple #[.agg #[.int .i64 qa, .int .i64 qx, .int .i64 qs, .int .i64 qp, .bool qz, .bool qn, .bool qc, .bool qi], .bool qb]) ∧ Below w.heap.size w w') := ⟨fun w' => by have := alu_calls (⟨A, X, S, pc, Z, N, C, I⟩ : Cp) op arg v w'; rw [hq] at this; exact this⟩
 clear hq
 obtain ⟨⟨y0, y1, y2, y3, y4, y5, y6, y7⟩, ⟨fy0, fy1, fy2, fy3, fy4, fy5, fy6, fy7⟩⟩ := cells8 (HX.out.h5)
 have z0 : w9.cell? ⟨m6, 0, none⟩ = some (.int .i64 op) := (blk_cell HX.out.h6 0).trans rfl
 have z1 : w9.cell? ⟨m6, 1, none⟩ = some (.int .i64 arg) := (blk_cell HX.out.h6 1).trans rfl
 go_upto_region 4 with (first | (go_at_call 93; refine (HALU.out _).mono ?_; rintro e w10 ⟨rfl, hb⟩; have HXa := Aside0.mk (HX.out.later hb); clear hb) | ((with_reducible refine gate_dst (N := 11) rfl ?_); refine bx (N := 11) (cs := #[.int .i64 0, .int .i64 0, .int .i64 0, .int .i64 0, .bool false, .bool false, .bool false, .bool false]) (t := 38) ?_; intro m11 hg w11 hbox hb; have H11 := Aside0.mk hbox; have E11 : Aside0 (w10.heap.size ≤ m11) := ⟨by rw [hg]; exact Nat.le_refl _⟩; have HB11 := Aside0.mk hb; clear hbox hb hg; obtain ⟨⟨u0, u1, u2, u3, u4, u5, u6, u7⟩, ⟨fu0, fu1, fu2, fu3, fu4, fu5, fu6, fu7⟩⟩ := cells8 (H11.out)))
 have H11n : Aside0 (((((((((w11.setCell ⟨m11, 0, none⟩ (.int .i64 qa)).setCell ⟨m11, 1, none⟩ (.int .i64 qx)).setCell ⟨m11, 2, none⟩ (.int .i64 qs)).setCell ⟨m11, 3, none⟩ (.int .i64 qp)).setCell ⟨m11, 4, none⟩ (.bool qz)).setCell ⟨m11, 5, none⟩ (.bool qn)).setCell ⟨m11, 6, none⟩ (.bool qc)).setCell ⟨m11, 7, none⟩ (.bool qi)).heap[m11]? = some (.cells #[.int .i64 qa, .int .i64 qx, .int .i64 qs, .int .i64 qp, .bool qz, .bool qn, .bool qc, .bool qi] 38 (0, 0))) := ⟨put8 H11.out _ _ _ _ _ _ _ _⟩
 have HXn : Aside0 (SX w ((((((((w11.setCell ⟨m11, 0, none⟩ (.int .i64 qa)).setCell ⟨m11, 1, none⟩ (.int .i64 qx)).setCell ⟨m11, 2, none⟩ (.int .i64 qs)).setCell ⟨m11, 3, none⟩ (.int .i64 qp)).setCell ⟨m11, 4, none⟩ (.bool qz)).setCell ⟨m11, 5, none⟩ (.bool qn)).setCell ⟨m11, 6, none⟩ (.bool qc)).setCell ⟨m11, 7, none⟩ (.bool qi)) m4 m5 m6 m8 m9 m10 A0 l0.length c0 b (⟨A, X, S, pc, Z, N, C, I⟩ : Cp) op arg (.slice A2 l0.length c2) l0) := ⟨HXa.out.later (below8 HB11.out E11.out _ _ _ _ _ _ _ _)⟩
 have E11n : Aside0 (w.heap.size ≤ m11 ∧ m11 ≠ m9) := ⟨⟨Nat.le_trans HXa.out.below.size E11.out, Nat.ne_of_gt (Nat.lt_of_lt_of_le (blk_lt HXa.out.h9) E11.out)⟩⟩
 generalize ((((((((w11.setCell ⟨m11, 0, none⟩ (.int .i64 qa)).setCell ⟨m11, 1, none⟩ (.int .i64 qx)).setCell ⟨m11, 2, none⟩ (.int .i64 qs)).setCell ⟨m11, 3, none⟩ (.int .i64 qp)).setCell ⟨m11, 4, none⟩ (.bool qz)).setCell ⟨m11, 5, none⟩ (.bool qn)).setCell ⟨m11, 6, none⟩ (.bool qc)).setCell ⟨m11, 7, none⟩ (.bool qi)) = w12 at H11n HXn ⊢
 clear HX HXa H11 HB11 E11 HALU
 cases qb with
 | true =>
  have HX := HXn
  have HM4 := Aside0.mk HX.out.h10
  have HC4 := H11n
  have HB1 := Aside0.mk HX.out.h8
  have HB2 := Aside0.mk HX.out.h9
  have h4 : MC w w12 m10 m11 (.slice A2 l0.length c2) b ⟨qa, qx, qs, qp, qz, qn, qc, qi⟩ l0 := ⟨HX.out.h10, H11n.out, HX.out.row, HX.out.e10, E11n.out.1, HX.out.below⟩
  go_wp2
  have hne12 : m8 ≠ m9 := blk_ne HX.out.h8 HX.out.h9 (by decide)
  have hne21 : m9 ≠ m8 := Ne.symm hne12
  have o1 : m10 ≠ m8 := Ne.symm HX.out.n810
  have o2 : m10 ≠ m9 := blk_ne HX.out.h10 HX.out.h9 (by decide)
  have o3 : m11 ≠ m8 := blk_ne H11n.out HX.out.h8 (by decide)
  have o4 : m11 ≠ m9 := E11n.out.2
  have he8 : w.heap.size ≤ m8 := HX.out.e8
  have he9 : w.heap.size ≤ m9 := HX.out.e9
  refine start_ (n := 4) (S := fun w' => w'.heap[m10]? = some (.cells #[.slice A2 l0.length c2, .int .i64 b] 37 (0, 0)) ∧ w'.heap[m11]? = some (.cells #[.int .i64 qa, .int .i64 qx, .int .i64 qs, .int .i64 qp, .bool qz, .bool qn, .bool qc, .bool qi] 38 (0, 0))) (ds := []) #[false, false, false, false] (by kernel_rfl) rfl rfl ⟨HM4.out, HC4.out⟩ (fun hHeld => ?_)
  refine take_ (i := 0) (N := some 35) (v := ?_) (a' := ?_) #[true, false, false, false] rfl rfl (by kernel_rfl) (fun _ _ _ h => h) (Or.inl ⟨by rfl, ?_⟩) hHeld ?_ ?_
  rotate_left
  ·rintro w' ⟨s0, s1⟩
   have a0 : w'.cell? ⟨m10, 0, none⟩ = some (.slice A2 l0.length c2) := (blk_cell s0 0).trans rfl
   have a1 : w'.cell? ⟨m10, 1, none⟩ = some (.int .i64 b) := (blk_cell s0 1).trans rfl
   clear s0 s1
   go_simp
   with_reducible rfl
  rotate_left
  ·simp only [Act.put, List.setIfInBounds_toArray, List.set_cons_zero, List.set_cons_succ, i64_w, i32_w]
   rfl
  refine take_ (i := 1) (N := some 36) (v := ?_) (a' := ?_) #[true, true, false, false] rfl rfl (by kernel_rfl) (fun _ _ _ h => h) (Or.inl ⟨by rfl, ?_⟩) hHeld ?_ ?_
  rotate_left
  ·rintro w' ⟨s0, s1⟩
   have b0 : w'.cell? ⟨m11, 0, none⟩ = some (.int .i64 qa) := (blk_cell s1 0).trans rfl
   have b1 : w'.cell? ⟨m11, 1, none⟩ = some (.int .i64 qx) := (blk_cell s1 1).trans rfl
   have b2 : w'.cell? ⟨m11, 2, none⟩ = some (.int .i64 qs) := (blk_cell s1 2).trans rfl
   have b3 : w'.cell? ⟨m11, 3, none⟩ = some (.int .i64 qp) := (blk_cell s1 3).trans rfl
   have b4 : w'.cell? ⟨m11, 4, none⟩ = some (.bool qz) := (blk_cell s1 4).trans rfl
   have b5 : w'.cell? ⟨m11, 5, none⟩ = some (.bool qn) := (blk_cell s1 5).trans rfl
   have b6 : w'.cell? ⟨m11, 6, none⟩ = some (.bool qc) := (blk_cell s1 6).trans rfl
   have b7 : w'.cell? ⟨m11, 7, none⟩ = some (.bool qi) := (blk_cell s1 7).trans rfl
   clear s0 s1
   go_simp
   with_reducible rfl
  rotate_left
  ·simp only [Act.put, List.setIfInBounds_toArray, List.set_cons_zero, List.set_cons_succ, i64_w, i32_w]
   rfl
  refine one_ (i := 2) (N := none) #[true, true, true, false] rfl rfl (by kernel_rfl) (by decide) (fun K hK => ?_)
  refine skip_ (w1 := ?_) (by rfl) rfl ?_ ?_
  rotate_left
  ·have r0 : w12.cell? ⟨m8, 0, none⟩ = some (.slice none 0 0) := (blk_cell HB1.out 0).trans rfl
   have r1 : w12.cell? ⟨m8, 1, none⟩ = some (.int .i64 0) := (blk_cell HB1.out 1).trans rfl
   have f0 := blk_frozen HB1.out 0
   have f1 := blk_frozen HB1.out 1
   go_simp
   rfl
  refine hK.out _ _ ⟨(heap2 _ _ _ _ _ o1).trans hHeld.1, (heap2 _ _ _ _ _ o3).trans hHeld.2⟩ (fun hHeld => ?_)
  clear hK K
  have g0 := (heap_drew _ _).symm.trans hHeld.1
  have g1 := (heap_drew _ _).symm.trans hHeld.2
  have g2 : ((w12.setCell ⟨m8, 0, none⟩ (.slice A2 l0.length c2)).setCell ⟨m8, 1, none⟩ (.int .i64 b)).heap[m9]? = _ := (heap2 w12 (m8) (m9) (.slice A2 l0.length c2) (.int .i64 b) hne21).trans HB2.out
  have g3 : ((w12.setCell ⟨m8, 0, none⟩ (.slice A2 l0.length c2)).setCell ⟨m8, 1, none⟩ (.int .i64 b)).heap[m8]? = _ := put2 HB1.out (.slice A2 l0.length c2) (.int .i64 b)
  have g4 : Kd.R (Kd.int .i64) 3 ((w12.setCell ⟨m8, 0, none⟩ (.slice A2 l0.length c2)).setCell ⟨m8, 1, none⟩ (.int .i64 b)) w.heap.size (fun _ => True) (.slice A2 l0.length c2) l0 :=
   Kd.R_mono (Kd.R_far (p := ⟨m8, 1, none⟩) (Kd.R_far (p := ⟨m8, 0, none⟩) (Kd.R_types h4.row HB1.out (by decide)) (fun _ hk => hk.2) (.slice A2 l0.length c2)) (fun _ hk => hk.2) (.int .i64 b)) (fun _ hk => trivial)
  have g5 : Below w.heap.size w ((w12.setCell ⟨m8, 0, none⟩ (.slice A2 l0.length c2)).setCell ⟨m8, 1, none⟩ (.int .i64 b)) := below_set (below_set h4.below (by omega)) (by omega)
  clear HB1 HB2 HM4 HC4 h4
  generalize ((w12.setCell ⟨m8, 0, none⟩ (.slice A2 l0.length c2)).setCell ⟨m8, 1, none⟩ (.int .i64 b)) = W5 at *
  have G2 := Aside0.mk g2
  have G3 := Aside0.mk g3
  have G4 := Aside0.mk g4
  have G5 := Aside0.mk g5
  have G0 := Aside0.mk g0
  have G1 := Aside0.mk g1
  clear g0 g1 g2 g3 g4 g5
  refine one_ (i := 3) (N := none) #[true, true, true, true] rfl rfl (by kernel_rfl) (by decide) (fun K hK => ?_)
  refine skip_ (w1 := ?_) (by rfl) rfl ?_ ?_
  rotate_left
  ·skip
   have r0 : W5.cell? ⟨m9, 0, none⟩ = some (.int .i64 0) := (blk_cell G2.out 0).trans rfl
   have f0 := blk_frozen G2.out 0
   have r1 : W5.cell? ⟨m9, 1, none⟩ = some (.int .i64 0) := (blk_cell G2.out 1).trans rfl
   have f1 := blk_frozen G2.out 1
   have r2 : W5.cell? ⟨m9, 2, none⟩ = some (.int .i64 0) := (blk_cell G2.out 2).trans rfl
   have f2 := blk_frozen G2.out 2
   have r3 : W5.cell? ⟨m9, 3, none⟩ = some (.int .i64 0) := (blk_cell G2.out 3).trans rfl
   have f3 := blk_frozen G2.out 3
   have r4 : W5.cell? ⟨m9, 4, none⟩ = some (.bool false) := (blk_cell G2.out 4).trans rfl
   have f4 := blk_frozen G2.out 4
   have r5 : W5.cell? ⟨m9, 5, none⟩ = some (.bool false) := (blk_cell G2.out 5).trans rfl
   have f5 := blk_frozen G2.out 5
   have r6 : W5.cell? ⟨m9, 6, none⟩ = some (.bool false) := (blk_cell G2.out 6).trans rfl
   have f6 := blk_frozen G2.out 6
   have r7 : W5.cell? ⟨m9, 7, none⟩ = some (.bool false) := (blk_cell G2.out 7).trans rfl
   have f7 := blk_frozen G2.out 7
   go_simp
   rfl
  refine hK.out _ _ ⟨(heap_drew _ _).trans ((heap8 W5 (m9) _ _ _ _ _ _ _ _ _ o2).trans G0.out), (heap_drew _ _).trans ((heap8 W5 (m9) _ _ _ _ _ _ _ _ _ o4).trans G1.out)⟩ (fun hHeld => ?_)
  clear hK K
  refine done_ (by kernel_rfl) ?_
  try go_wp2
  refine bodyPost_ret (results_cc rfl _ _ (m8) (m9) 37 38 #[.slice A2 l0.length c2, .int .i64 b] #[.int .i64 qa, .int .i64 qx, .int .i64 qs, .int .i64 qp, .bool qz, .bool qn, .bool qc, .bool qi] (0, 0) (0, 0) _ _ rfl ((heap_drew _ _).trans ((heap8 W5 (m9) _ _ _ _ _ _ _ _ _ hne12).trans G3.out)) hu37 rfl (by kernel_rfl) rfl ((heap_drew _ _).trans (put8 G2.out _ _ _ _ _ _ _ _)) hu38 rfl (by kernel_rfl)) rfl ?_
  have e_ : sexecF l0 (⟨A, X, S, P, Z, N, C, I⟩ : Cp) op arg v ln = (l0, ⟨qa, qx, qs, qp, qz, qn, qc, qi⟩) := by
   unfold sexecF
   simp only [EP.out, HA.out, if_true]
  rw [e_]
  exact ⟨_, rfl, Kd.R_drew (row8 G4.out G2.out _ _ _ _ _ _ _ _), below_drew1 (below8 G5.out he9 _ _ _ _ _ _ _ _)⟩
 | false =>
  have HS : Aside0 (sexecF l0 (⟨A, X, S, P, Z, N, C, I⟩ : Cp) op arg v ln = switchF l0 (⟨A, X, S, pc, Z, N, C, I⟩ : Cp) op arg) := ⟨by
   unfold sexecF
   simp only [EP.out, HA.out, Bool.false_eq_true, if_false]⟩
  have HX := HXn
  clear HXn H11n E11n HA
  obtain ⟨⟨y0, y1, y2, y3, y4, y5, y6, y7⟩, ⟨fy0, fy1, fy2, fy3, fy4, fy5, fy6, fy7⟩⟩ := cells8 (HX.out.h5)
  have z0 : w12.cell? ⟨m6, 0, none⟩ = some (.int .i64 op) := (blk_cell HX.out.h6 0).trans rfl
  have z1 : w12.cell? ⟨m6, 1, none⟩ = some (.int .i64 arg) := (blk_cell HX.out.h6 1).trans rfl
  have xx0 : w12.cell? ⟨m4, 0, none⟩ = some (.slice A0 l0.length c0) := (blk_cell HX.out.h4 0).trans rfl
  have xx1 : w12.cell? ⟨m4, 1, none⟩ = some (.int .i64 b) := (blk_cell HX.out.h4 1).trans rfl
  have xo0 : w12.cell? ⟨m10, 0, none⟩ = some (.slice A2 l0.length c2) := (blk_cell HX.out.h10 0).trans rfl
  have fxo0 := blk_frozen HX.out.h10 0
  have xo1 : w12.cell? ⟨m10, 1, none⟩ = some (.int .i64 b) := (blk_cell HX.out.h10 1).trans rfl
  have fxo1 := blk_frozen HX.out.h10 1
  go_upto_block 0 with fail
  go_cut [] (fun wc => ∃ (rv : Value) (ram : List Int) (kk : Cp), Aside0 (switchF l0 (⟨A, X, S, pc, Z, N, C, I⟩ : Cp) op arg = (ram, kk)) ∧ Aside0 (SX w wc m4 m5 m6 m8 m9 m10 A0 l0.length c0 b kk op arg rv ram))
  ·skip
   by_cases h16 : op = 16
   ·subst h16
    cases Z
    ·skip
     go_wp2_with (go_at_call 92; refine (spec_Addr.calls arg tgt _ HT.out).mono ?_; rintro e w13 ⟨rfl, nd, rfl⟩)
     go_meet
     case rel =>
      refine ⟨_, _, _, ⟨?_⟩, ⟨(HX.out.drewN nd).setC (k' := ⟨A, X, S, tgt, false, N, C, I⟩) 3 _ rfl⟩⟩
      simp [switchF, ET.out]
    ·skip
     go_wp2
     go_meet
     case rel =>
      refine ⟨_, _, _, ⟨?_⟩, ⟨HX.out⟩⟩
      simp [switchF, ET.out]
   by_cases h17 : op = 17
   ·subst h17
    cases Z
    ·skip
     go_wp2
     go_meet
     case rel =>
      refine ⟨_, _, _, ⟨?_⟩, ⟨HX.out⟩⟩
      simp [switchF, ET.out]
    ·skip
     go_wp2_with (go_at_call 92; refine (spec_Addr.calls arg tgt _ HT.out).mono ?_; rintro e w13 ⟨rfl, nd, rfl⟩)
     go_meet
     case rel =>
      refine ⟨_, _, _, ⟨?_⟩, ⟨(HX.out.drewN nd).setC (k' := ⟨A, X, S, tgt, true, N, C, I⟩) 3 _ rfl⟩⟩
      simp [switchF, ET.out]
   by_cases h18 : op = 18
   ·subst h18
    cases C
    ·skip
     go_wp2
     go_meet
     case rel =>
      refine ⟨_, _, _, ⟨?_⟩, ⟨HX.out⟩⟩
      simp [switchF, ET.out]
    ·skip
     go_wp2_with (go_at_call 92; refine (spec_Addr.calls arg tgt _ HT.out).mono ?_; rintro e w13 ⟨rfl, nd, rfl⟩)
     go_meet
     case rel =>
      refine ⟨_, _, _, ⟨?_⟩, ⟨(HX.out.drewN nd).setC (k' := ⟨A, X, S, tgt, Z, N, true, I⟩) 3 _ rfl⟩⟩
      simp [switchF, ET.out]
   by_cases h19 : op = 19
   ·subst h19
    go_wp2_with (go_at_call 92; refine (spec_Addr.calls arg tgt _ HT.out).mono ?_; rintro e w13 ⟨rfl, nd, rfl⟩)
    go_meet
    case rel =>
     refine ⟨_, _, _, ⟨?_⟩, ⟨(HX.out.drewN nd).setC (k' := ⟨A, X, S, tgt, Z, N, C, I⟩) 3 _ rfl⟩⟩
     simp [switchF, ET.out]
   have n16 : (op == 16) = false := beq_eq_false_iff_ne.mpr h16
   have n17 : (op == 17) = false := beq_eq_false_iff_ne.mpr h17
   have n18 : (op == 18) = false := beq_eq_false_iff_ne.mpr h18
   have n19 : (op == 19) = false := beq_eq_false_iff_ne.mpr h19
   go_upto_region 13 with fail
   by_cases h20 : op = 20
   ·subst h20
    obtain ⟨ram1, s1, hp1, e1, n1⟩ := spush_ex l0 b (⟨A, X, S, pc, Z, N, C, I⟩ : Cp) (pc / 256) HLEN.out
    obtain ⟨ram2, s2, hp2, e2, n2⟩ := spush_ex ram1 b (⟨A, X, s1, pc, Z, N, C, I⟩ : Cp) pc (by rw [n1]; exact HLEN.out)
    have e3 : pushPcF l0 (⟨A, X, S, pc, Z, N, C, I⟩ : Cp) = (ram2, ⟨A, X, s2, pc, Z, N, C, I⟩) := by
     unfold pushPcF
     simp only
     rw [e1]
     exact e2
    have HP1 := Aside0.mk hp1
    have HP2 := Aside0.mk hp2
    have E3 := Aside0.mk e3
    clear hp1 hp2 e1 e2 e3 n1 n2
    go_upto_region 15 with (go_at_call 21; refine (spec_Push.calls A2 c2 l0 b A X S pc Z N C I (pc / 256) ram1 b A X s1 pc Z N C I _ (Kd.R_reads' HX.out.row).2.2 (Kd.R_reads' HX.out.row).2.1 HP1.out).mono ?_; rintro e wp1 ⟨v0, rfl, hR, hb⟩; obtain ⟨A3, c3, rfl⟩ := Kd.R_slice hR; have HXa := Aside0.mk (HX.out.later hb); have nm1 : m10 ≠ m5 := blk_ne HXa.out.h10 HXa.out.h5 (by decide); have nm2 : m5 ≠ m10 := Ne.symm nm1; have ROWa := Aside0.mk (Kd.R_lower hR HX.out.below.size); clear hR hb; obtain ⟨⟨p0, p1, p2, p3, p4, p5, p6, p7⟩, ⟨fp0, fp1, fp2, fp3, fp4, fp5, fp6, fp7⟩⟩ := cells8 (HXa.out.h5); have po0 : wp1.cell? ⟨m10, 0, none⟩ = some (.slice A2 l0.length c2) := (blk_cell HXa.out.h10 0).trans rfl; have fpo0 := blk_frozen HXa.out.h10 0; have po1 : wp1.cell? ⟨m10, 1, none⟩ = some (.int .i64 b) := (blk_cell HXa.out.h10 1).trans rfl; have fpo1 := blk_frozen HXa.out.h10 1)
    have HXb : Aside0 (SX w ((((((((((wp1.setCell ⟨m10, 0, none⟩ (.slice A3 ram1.length c3)).setCell ⟨m10, 1, none⟩ (.int .i64 b)).setCell ⟨m5, 0, none⟩ (.int .i64 A)).setCell ⟨m5, 1, none⟩ (.int .i64 X)).setCell ⟨m5, 2, none⟩ (.int .i64 s1)).setCell ⟨m5, 3, none⟩ (.int .i64 pc)).setCell ⟨m5, 4, none⟩ (.bool Z)).setCell ⟨m5, 5, none⟩ (.bool N)).setCell ⟨m5, 6, none⟩ (.bool C)).setCell ⟨m5, 7, none⟩ (.bool I)) m4 m5 m6 m8 m9 m10 A0 l0.length c0 b (⟨A, X, s1, pc, Z, N, C, I⟩ : Cp) 20 arg (.slice A3 ram1.length c3) ram1) := ⟨(HXa.out.put10 ROWa.out).put8 _ _ _ _ _ _ _ _⟩
    generalize ((((((((((wp1.setCell ⟨m10, 0, none⟩ (.slice A3 ram1.length c3)).setCell ⟨m10, 1, none⟩ (.int .i64 b)).setCell ⟨m5, 0, none⟩ (.int .i64 A)).setCell ⟨m5, 1, none⟩ (.int .i64 X)).setCell ⟨m5, 2, none⟩ (.int .i64 s1)).setCell ⟨m5, 3, none⟩ (.int .i64 pc)).setCell ⟨m5, 4, none⟩ (.bool Z)).setCell ⟨m5, 5, none⟩ (.bool N)).setCell ⟨m5, 6, none⟩ (.bool C)).setCell ⟨m5, 7, none⟩ (.bool I)) = wn3 at HXb ⊢
    clear HX HXa ROWa
    have HX := HXb
    clear HXb
    obtain ⟨⟨r0, r1, r2, r3, r4, r5, r6, r7⟩, ⟨fr0, fr1, fr2, fr3, fr4, fr5, fr6, fr7⟩⟩ := cells8 (HX.out.h5)
    have rz0 : wn3.cell? ⟨m6, 0, none⟩ = some (.int .i64 20) := (blk_cell HX.out.h6 0).trans rfl
    have rz1 : wn3.cell? ⟨m6, 1, none⟩ = some (.int .i64 arg) := (blk_cell HX.out.h6 1).trans rfl
    have ro0 : wn3.cell? ⟨m10, 0, none⟩ = some (.slice A3 ram1.length c3) := (blk_cell HX.out.h10 0).trans rfl
    have fro0 := blk_frozen HX.out.h10 0
    have ro1 : wn3.cell? ⟨m10, 1, none⟩ = some (.int .i64 b) := (blk_cell HX.out.h10 1).trans rfl
    have fro1 := blk_frozen HX.out.h10 1
    go_upto_region 16 with (go_at_call 21; refine (spec_Push.calls A3 c3 ram1 b A X s1 pc Z N C I pc ram2 b A X s2 pc Z N C I _ (Kd.R_reads' HX.out.row).2.2 (Kd.R_reads' HX.out.row).2.1 HP2.out).mono ?_; rintro e wp2 ⟨v0, rfl, hR, hb⟩; obtain ⟨A5, c5, rfl⟩ := Kd.R_slice hR; have HXa := Aside0.mk (HX.out.later hb); have nm1 : m10 ≠ m5 := blk_ne HXa.out.h10 HXa.out.h5 (by decide); have nm2 : m5 ≠ m10 := Ne.symm nm1; have ROWa := Aside0.mk (Kd.R_lower hR HX.out.below.size); clear hR hb; obtain ⟨⟨p0, p1, p2, p3, p4, p5, p6, p7⟩, ⟨fp0, fp1, fp2, fp3, fp4, fp5, fp6, fp7⟩⟩ := cells8 (HXa.out.h5); have po0 : wp2.cell? ⟨m10, 0, none⟩ = some (.slice A3 ram1.length c3) := (blk_cell HXa.out.h10 0).trans rfl; have fpo0 := blk_frozen HXa.out.h10 0; have po1 : wp2.cell? ⟨m10, 1, none⟩ = some (.int .i64 b) := (blk_cell HXa.out.h10 1).trans rfl; have fpo1 := blk_frozen HXa.out.h10 1)
    have HXb : Aside0 (SX w ((((((((((wp2.setCell ⟨m10, 0, none⟩ (.slice A5 ram2.length c5)).setCell ⟨m10, 1, none⟩ (.int .i64 b)).setCell ⟨m5, 0, none⟩ (.int .i64 A)).setCell ⟨m5, 1, none⟩ (.int .i64 X)).setCell ⟨m5, 2, none⟩ (.int .i64 s2)).setCell ⟨m5, 3, none⟩ (.int .i64 pc)).setCell ⟨m5, 4, none⟩ (.bool Z)).setCell ⟨m5, 5, none⟩ (.bool N)).setCell ⟨m5, 6, none⟩ (.bool C)).setCell ⟨m5, 7, none⟩ (.bool I)) m4 m5 m6 m8 m9 m10 A0 l0.length c0 b (⟨A, X, s2, pc, Z, N, C, I⟩ : Cp) 20 arg (.slice A5 ram2.length c5) ram2) := ⟨(HXa.out.put10 ROWa.out).put8 _ _ _ _ _ _ _ _⟩
    generalize ((((((((((wp2.setCell ⟨m10, 0, none⟩ (.slice A5 ram2.length c5)).setCell ⟨m10, 1, none⟩ (.int .i64 b)).setCell ⟨m5, 0, none⟩ (.int .i64 A)).setCell ⟨m5, 1, none⟩ (.int .i64 X)).setCell ⟨m5, 2, none⟩ (.int .i64 s2)).setCell ⟨m5, 3, none⟩ (.int .i64 pc)).setCell ⟨m5, 4, none⟩ (.bool Z)).setCell ⟨m5, 5, none⟩ (.bool N)).setCell ⟨m5, 6, none⟩ (.bool C)).setCell ⟨m5, 7, none⟩ (.bool I)) = wn5 at HXb ⊢
    clear HX HXa ROWa
    have HX := HXb
    clear HXb
    obtain ⟨⟨r0, r1, r2, r3, r4, r5, r6, r7⟩, ⟨fr0, fr1, fr2, fr3, fr4, fr5, fr6, fr7⟩⟩ := cells8 (HX.out.h5)
    have rz0 : wn5.cell? ⟨m6, 0, none⟩ = some (.int .i64 20) := (blk_cell HX.out.h6 0).trans rfl
    have rz1 : wn5.cell? ⟨m6, 1, none⟩ = some (.int .i64 arg) := (blk_cell HX.out.h6 1).trans rfl
    have ro0 : wn5.cell? ⟨m10, 0, none⟩ = some (.slice A5 ram2.length c5) := (blk_cell HX.out.h10 0).trans rfl
    have fro0 := blk_frozen HX.out.h10 0
    have ro1 : wn5.cell? ⟨m10, 1, none⟩ = some (.int .i64 b) := (blk_cell HX.out.h10 1).trans rfl
    have fro1 := blk_frozen HX.out.h10 1
    go_wp2_with (go_at_call 92; refine (spec_Addr.calls arg tgt _ HT.out).mono ?_; rintro e w13 ⟨rfl, nd, rfl⟩)
    go_meet
    case rel =>
     refine ⟨_, _, _, ⟨?_⟩, ⟨(HX.out.drewN nd).setC (k' := ⟨A, X, s2, tgt, Z, N, C, I⟩) 3 _ rfl⟩⟩
     simp [switchF, ET.out, E3.out]
   have n20 : (op == 20) = false := beq_eq_false_iff_ne.mpr h20
   go_upto_region 17 with fail
   by_cases h21 : op = 21
   ·subst h21
    generalize hq : sbackF l0 (⟨A, X, S, pc, Z, N, C, I⟩ : Cp) = q at *
    obtain ⟨qa, qx, qs, qp, qz, qn, qc, qi⟩ := q
    have HQ := Aside0.mk hq
    have HBK : Aside0 (∀ w' : World, Below w.heap.size w w' → Calls Try.prog 94 #[.agg #[.slice A0 l0.length c0, .int .i64 b], .agg #[.int .i64 A, .int .i64 X, .int .i64 S, .int .i64 pc, .bool Z, .bool N, .bool C, .bool I]] w' fun e w'' => e = .returned (.agg #[.int .i64 qa, .int .i64 qx, .int .i64 qs, .int .i64 qp, .bool qz, .bool qn, .bool qc, .bool qi]) ∧ Below w'.heap.size w' w'') := ⟨fun w' hB => by have := sback_calls A0 c0 l0 b (⟨A, X, S, pc, Z, N, C, I⟩ : Cp) w' (Kd.C_below HR.out hB) HC.out; rw [hq] at this; exact this⟩
    clear hq
    go_wp2_with (go_at_call 94; refine (HBK.out _ HX.out.below).mono ?_; rintro e w13 ⟨rfl, hb⟩; have HXa := Aside0.mk (HX.out.later hb); clear hb; obtain ⟨⟨p0, p1, p2, p3, p4, p5, p6, p7⟩, ⟨fp0, fp1, fp2, fp3, fp4, fp5, fp6, fp7⟩⟩ := cells8 (HXa.out.h5))
    go_meet
    case rel =>
     refine ⟨_, _, _, ⟨?_⟩, ⟨HXa.out.put8 _ _ _ _ _ _ _ _⟩⟩
     simp [switchF, HQ.out]
   have n21 : (op == 21) = false := beq_eq_false_iff_ne.mpr h21
   go_upto_region 19 with fail
   by_cases h22 : op = 22
   ·subst h22
    obtain ⟨ram1, s1, hp1, e1, n1⟩ := spush_ex l0 b (⟨A, X, S, pc, Z, N, C, I⟩ : Cp) A HLEN.out
    have HP1 := Aside0.mk hp1
    have E1 := Aside0.mk e1
    clear hp1 e1 n1
    go_wp2_with (go_at_call 21; refine (spec_Push.calls A2 c2 l0 b A X S pc Z N C I A ram1 b A X s1 pc Z N C I _ (Kd.R_reads' HX.out.row).2.2 (Kd.R_reads' HX.out.row).2.1 HP1.out).mono ?_; rintro e wp1 ⟨v0, rfl, hR, hb⟩; obtain ⟨A3, c3, rfl⟩ := Kd.R_slice hR; have HXa := Aside0.mk (HX.out.later hb); have nm1 : m10 ≠ m5 := blk_ne HXa.out.h10 HXa.out.h5 (by decide); have nm2 : m5 ≠ m10 := Ne.symm nm1; have ROWa := Aside0.mk (Kd.R_lower hR HX.out.below.size); clear hR hb; obtain ⟨⟨p0, p1, p2, p3, p4, p5, p6, p7⟩, ⟨fp0, fp1, fp2, fp3, fp4, fp5, fp6, fp7⟩⟩ := cells8 (HXa.out.h5); have po0 : wp1.cell? ⟨m10, 0, none⟩ = some (.slice A2 l0.length c2) := (blk_cell HXa.out.h10 0).trans rfl; have fpo0 := blk_frozen HXa.out.h10 0; have po1 : wp1.cell? ⟨m10, 1, none⟩ = some (.int .i64 b) := (blk_cell HXa.out.h10 1).trans rfl; have fpo1 := blk_frozen HXa.out.h10 1)
    go_meet
    case rel =>
     refine ⟨_, _, _, ⟨?_⟩, ⟨(HXa.out.put10 ROWa.out).put8 _ _ _ _ _ _ _ _⟩⟩
     simp [switchF, E1.out]
   have n22 : (op == 22) = false := beq_eq_false_iff_ne.mpr h22
   go_upto_region 21 with fail
   by_cases h23 : op = 23
   ·subst h23
    obtain ⟨s1, a1, hp1, e1⟩ := spull_ex l0 b (⟨A, X, S, pc, Z, N, C, I⟩ : Cp)
    have HP1 := Aside0.mk hp1
    have E1 := Aside0.mk e1
    clear hp1 e1
    go_upto_region 23 with (first | (go_at_call 95; refine (spec_Pull.calls A0 c0 l0 b A X S pc Z N C I A X s1 pc Z N C I a1 _ (Kd.C_below HR.out HX.out.below) HC.out HP1.out).mono ?_; rintro e w13 ⟨rfl, hb⟩; have HXa := Aside0.mk (HX.out.later hb); clear hb) | ((with_reducible refine gate_dst (N := 13) rfl ?_); refine bx (N := 13) (cs := #[.int .i64 0, .int .i64 0, .int .i64 0, .int .i64 0, .bool false, .bool false, .bool false, .bool false]) (t := 38) ?_; intro m13 hg w14 hbox hb; have H13 := Aside0.mk hbox; have E13 : Aside0 (w13.heap.size ≤ m13) := ⟨by rw [hg]; exact Nat.le_refl _⟩; have HB13 := Aside0.mk hb; clear hbox hb hg; obtain ⟨⟨u0, u1, u2, u3, u4, u5, u6, u7⟩, ⟨fu0, fu1, fu2, fu3, fu4, fu5, fu6, fu7⟩⟩ := cells8 (H13.out)))
    have H13n : Aside0 (((((((((w14.setCell ⟨m13, 0, none⟩ (.int .i64 A)).setCell ⟨m13, 1, none⟩ (.int .i64 X)).setCell ⟨m13, 2, none⟩ (.int .i64 s1)).setCell ⟨m13, 3, none⟩ (.int .i64 pc)).setCell ⟨m13, 4, none⟩ (.bool Z)).setCell ⟨m13, 5, none⟩ (.bool N)).setCell ⟨m13, 6, none⟩ (.bool C)).setCell ⟨m13, 7, none⟩ (.bool I)).heap[m13]? = some (.cells #[.int .i64 A, .int .i64 X, .int .i64 s1, .int .i64 pc, .bool Z, .bool N, .bool C, .bool I] 38 (0, 0))) := ⟨put8 H13.out _ _ _ _ _ _ _ _⟩
    have HXn : Aside0 (SX w ((((((((w14.setCell ⟨m13, 0, none⟩ (.int .i64 A)).setCell ⟨m13, 1, none⟩ (.int .i64 X)).setCell ⟨m13, 2, none⟩ (.int .i64 s1)).setCell ⟨m13, 3, none⟩ (.int .i64 pc)).setCell ⟨m13, 4, none⟩ (.bool Z)).setCell ⟨m13, 5, none⟩ (.bool N)).setCell ⟨m13, 6, none⟩ (.bool C)).setCell ⟨m13, 7, none⟩ (.bool I)) m4 m5 m6 m8 m9 m10 A0 l0.length c0 b (⟨A, X, S, pc, Z, N, C, I⟩ : Cp) 23 arg (.slice A2 l0.length c2) l0) := ⟨HXa.out.later (below8 HB13.out E13.out _ _ _ _ _ _ _ _)⟩
    generalize ((((((((w14.setCell ⟨m13, 0, none⟩ (.int .i64 A)).setCell ⟨m13, 1, none⟩ (.int .i64 X)).setCell ⟨m13, 2, none⟩ (.int .i64 s1)).setCell ⟨m13, 3, none⟩ (.int .i64 pc)).setCell ⟨m13, 4, none⟩ (.bool Z)).setCell ⟨m13, 5, none⟩ (.bool N)).setCell ⟨m13, 6, none⟩ (.bool C)).setCell ⟨m13, 7, none⟩ (.bool I)) = w15 at H13n HXn ⊢
    clear HX HXa H13 HB13 E13
    have HX := HXn
    clear HXn
    obtain ⟨⟨r0, r1, r2, r3, r4, r5, r6, r7⟩, ⟨fr0, fr1, fr2, fr3, fr4, fr5, fr6, fr7⟩⟩ := cells8 (H13n.out)
    obtain ⟨⟨q0, q1, q2, q3, q4, q5, q6, q7⟩, ⟨fq0, fq1, fq2, fq3, fq4, fq5, fq6, fq7⟩⟩ := cells8 (HX.out.h5)
    obtain ⟨sa, sz, sn, hf, ek⟩ := seta_sx (⟨A, X, s1, pc, Z, N, C, I⟩ : Cp) a1
    have HF := Aside0.mk hf
    have EK := Aside0.mk ek
    clear hf ek
    go_wp2_with (go_at_call 96; refine (spec_SetA.calls A X s1 pc Z N C I a1 sa X s1 pc sz sn C I _ HF.out).mono ?_; rintro e w16 ⟨rfl, hb⟩; have HXa := Aside0.mk (HX.out.later hb); clear hb; obtain ⟨⟨p0, p1, p2, p3, p4, p5, p6, p7⟩, ⟨fp0, fp1, fp2, fp3, fp4, fp5, fp6, fp7⟩⟩ := cells8 (HXa.out.h5))
    go_meet
    case rel =>
     refine ⟨_, _, _, ⟨?_⟩, ⟨HXa.out.put8 _ _ _ _ _ _ _ _⟩⟩
     simp [switchF, E1.out, EK.out]
   have n23 : (op == 23) = false := beq_eq_false_iff_ne.mpr h23
   go_upto_region 24 with fail
   by_cases h24 : op = 24
   ·subst h24
    obtain ⟨s1, a1, hp1, e1⟩ := spull_ex l0 b (⟨A, X, S, pc, Z, N, C, I⟩ : Cp)
    have HP1 := Aside0.mk hp1
    have E1 := Aside0.mk e1
    clear hp1 e1
    go_upto_region 26 with (first | (go_at_call 95; refine (spec_Pull.calls A0 c0 l0 b A X S pc Z N C I A X s1 pc Z N C I a1 _ (Kd.C_below HR.out HX.out.below) HC.out HP1.out).mono ?_; rintro e w13 ⟨rfl, hb⟩; have HXa := Aside0.mk (HX.out.later hb); clear hb) | ((with_reducible refine gate_dst (N := 15) rfl ?_); refine bx (N := 15) (cs := #[.int .i64 0, .int .i64 0, .int .i64 0, .int .i64 0, .bool false, .bool false, .bool false, .bool false]) (t := 38) ?_; intro m15 hg w14 hbox hb; have H13 := Aside0.mk hbox; have E13 : Aside0 (w13.heap.size ≤ m15) := ⟨by rw [hg]; exact Nat.le_refl _⟩; have HB13 := Aside0.mk hb; clear hbox hb hg; obtain ⟨⟨u0, u1, u2, u3, u4, u5, u6, u7⟩, ⟨fu0, fu1, fu2, fu3, fu4, fu5, fu6, fu7⟩⟩ := cells8 (H13.out)))
    have H13n : Aside0 (((((((((w14.setCell ⟨m15, 0, none⟩ (.int .i64 A)).setCell ⟨m15, 1, none⟩ (.int .i64 X)).setCell ⟨m15, 2, none⟩ (.int .i64 s1)).setCell ⟨m15, 3, none⟩ (.int .i64 pc)).setCell ⟨m15, 4, none⟩ (.bool Z)).setCell ⟨m15, 5, none⟩ (.bool N)).setCell ⟨m15, 6, none⟩ (.bool C)).setCell ⟨m15, 7, none⟩ (.bool I)).heap[m15]? = some (.cells #[.int .i64 A, .int .i64 X, .int .i64 s1, .int .i64 pc, .bool Z, .bool N, .bool C, .bool I] 38 (0, 0))) := ⟨put8 H13.out _ _ _ _ _ _ _ _⟩
    have HXn : Aside0 (SX w ((((((((w14.setCell ⟨m15, 0, none⟩ (.int .i64 A)).setCell ⟨m15, 1, none⟩ (.int .i64 X)).setCell ⟨m15, 2, none⟩ (.int .i64 s1)).setCell ⟨m15, 3, none⟩ (.int .i64 pc)).setCell ⟨m15, 4, none⟩ (.bool Z)).setCell ⟨m15, 5, none⟩ (.bool N)).setCell ⟨m15, 6, none⟩ (.bool C)).setCell ⟨m15, 7, none⟩ (.bool I)) m4 m5 m6 m8 m9 m10 A0 l0.length c0 b (⟨A, X, S, pc, Z, N, C, I⟩ : Cp) 24 arg (.slice A2 l0.length c2) l0) := ⟨HXa.out.later (below8 HB13.out E13.out _ _ _ _ _ _ _ _)⟩
    generalize ((((((((w14.setCell ⟨m15, 0, none⟩ (.int .i64 A)).setCell ⟨m15, 1, none⟩ (.int .i64 X)).setCell ⟨m15, 2, none⟩ (.int .i64 s1)).setCell ⟨m15, 3, none⟩ (.int .i64 pc)).setCell ⟨m15, 4, none⟩ (.bool Z)).setCell ⟨m15, 5, none⟩ (.bool N)).setCell ⟨m15, 6, none⟩ (.bool C)).setCell ⟨m15, 7, none⟩ (.bool I)) = w15 at H13n HXn ⊢
    clear HX HXa H13 HB13 E13
    have HX := HXn
    clear HXn
    obtain ⟨⟨r0, r1, r2, r3, r4, r5, r6, r7⟩, ⟨fr0, fr1, fr2, fr3, fr4, fr5, fr6, fr7⟩⟩ := cells8 (H13n.out)
    obtain ⟨⟨q0, q1, q2, q3, q4, q5, q6, q7⟩, ⟨fq0, fq1, fq2, fq3, fq4, fq5, fq6, fq7⟩⟩ := cells8 (HX.out.h5)
    obtain ⟨vz, vn, vc, vi, hf, ek⟩ := sflag_ex (⟨A, X, s1, pc, Z, N, C, I⟩ : Cp) a1
    have HF := Aside0.mk hf
    have EK := Aside0.mk ek
    clear hf ek
    generalize hq : sbackF l0 (⟨A, X, s1, pc, vz, vn, vc, vi⟩ : Cp) = q at *
    obtain ⟨qa, qx, qs, qp, qz, qn, qc, qi⟩ := q
    have HQ := Aside0.mk hq
    have HBK : Aside0 (∀ w' : World, Below w.heap.size w w' → Calls Try.prog 94 #[.agg #[.slice A0 l0.length c0, .int .i64 b], .agg #[.int .i64 A, .int .i64 X, .int .i64 s1, .int .i64 pc, .bool vz, .bool vn, .bool vc, .bool vi]] w' fun e w'' => e = .returned (.agg #[.int .i64 qa, .int .i64 qx, .int .i64 qs, .int .i64 qp, .bool qz, .bool qn, .bool qc, .bool qi]) ∧ Below w'.heap.size w' w'') := ⟨fun w' hB => by have := sback_calls A0 c0 l0 b (⟨A, X, s1, pc, vz, vn, vc, vi⟩ : Cp) w' (Kd.C_below HR.out hB) HC.out; rw [hq] at this; exact this⟩
    clear hq
    have HM4 := Aside0.mk HX.out.h4
    go_wp2
    refine free_ (n := 6) (e := 5) (g := 2) (T := (true, [([], []), ([], []), ([], []), ([1, 2], [1, 2]), ([0, 3, 3], [0, 3]), ([4, 4, 0, 1, 2, 3, 4], [4])])) #[true, true, true, true, true, false] #[true, true, false, true, true, false] [136, 137, 138, 139, 140] (fun j u w' => match j with
     | 0 => u = .agg #[.slice A0 l0.length c0, .int .i64 b]
     | 1 => u = .agg #[.int .i64 A, .int .i64 X, .int .i64 s1, .int .i64 pc, .bool Z, .bool N, .bool C, .bool I]
     | 2 => u = .int .i64 a1
     | 3 => u = .agg #[.int .i64 A, .int .i64 X, .int .i64 s1, .int .i64 pc, .bool vz, .bool vn, .bool vc, .bool vi]
     | 4 => u = .agg #[.int .i64 qa, .int .i64 qx, .int .i64 qs, .int .i64 qp, .bool qz, .bool qn, .bool qc, .bool qi]
     | _ => False)
     (by kernel_rfl) rfl (by kernel_rfl) (by kernel_rfl) (by kernel_rfl) (any_of (T := (true, [([], []), ([], []), ([], []), ([1, 2], [1, 2]), ([0, 3, 3], [0, 3]), ([4, 4, 0, 1, 2, 3, 4], [4])])) (by kernel_rfl) (by kernel_rfl)) (fun _ _ _ _ h => h) ?strti ?sprti ?larti ?enrti
    case strti =>
     intro j u W W' h hb
     exact h
    case sprti =>
     intro i hi o ho a W hB hout hneed K hK
     have HBW := Aside0.mk hB
     have hcase : i = 0 ∨ i = 1 ∨ i = 2 ∨ i = 3 ∨ i = 4 := by omega
     clear hB
     rcases hcase with rfl | rfl | rfl | rfl | rfl
     ·obtain rfl := Option.some.inj ho
      have h4 : a.eval (.tmp 4) = .pointer (some ⟨m4, 0, none⟩) := hout 4 (by decide)
      have h4' := eval_get h4
      have hb := blk_below (w := w15.drew) HM4.out HBW.out
      have d0 := (blk_cell hb 0).trans rfl
      have d1 := (blk_cell hb 1).trans rfl
      refine value_ (v := .agg #[.slice A0 l0.length c0, .int .i64 b]) (w1 := W) (by rfl) rfl ?_ (hK.out _ _ (Below.refl _ _) rfl)
      go_simp
     ·obtain rfl := Option.some.inj ho
      have h15 : a.eval (.tmp 15) = .pointer (some ⟨m15, 0, none⟩) := hout 15 (by decide)
      have h15' := eval_get h15
      have hb := blk_below (w := w15.drew) H13n.out HBW.out
      obtain ⟨⟨d0, d1, d2, d3, d4, d5, d6, d7⟩, -⟩ := cells8 hb
      refine value_ (v := .agg #[.int .i64 A, .int .i64 X, .int .i64 s1, .int .i64 pc, .bool Z, .bool N, .bool C, .bool I]) (w1 := W) (by rfl) rfl ?_ (hK.out _ _ (Below.refl _ _) rfl)
      go_simp
     ·obtain rfl := Option.some.inj ho
      have h16 : a.eval (.tmp 16) = .int .i64 a1 := hout 16 (by decide)
      have h16' := eval_get h16
      refine value_ (v := .int .i64 a1) (w1 := W) (by rfl) rfl ?_ (hK.out _ _ (Below.refl _ _) rfl)
      go_simp
     ·obtain rfl := Option.some.inj ho
      have e1 : a.eval (.tmp 137) = _ := hneed 1 (by decide)
      have e1' := eval_get e1
      have e2 : a.eval (.tmp 138) = _ := hneed 2 (by decide)
      have e2' := eval_get e2
      refine goes_ Try.func97 (by kernel_rfl) rfl #[.agg #[.int .i64 A, .int .i64 X, .int .i64 s1, .int .i64 pc, .bool Z, .bool N, .bool C, .bool I], .int .i64 a1] (by rfl) rfl rfl (by simp only [List.map_toArray, List.map_cons, List.map_nil, e1, e2]) ?_
      refine (spec_WithFlags.calls A X s1 pc Z N C I a1 A X s1 pc vz vn vc vi W HF.out).mono ?_
      rintro e w' ⟨rfl, hb⟩
      exact ⟨_, rfl, hK.out _ _ hb rfl⟩
     ·obtain rfl := Option.some.inj ho
      have e0 : a.eval (.tmp 136) = _ := hneed 0 (by decide)
      have e0' := eval_get e0
      have e3 : a.eval (.tmp 139) = _ := hneed 3 (by decide)
      have e3' := eval_get e3
      refine goes_ Try.func94 (by kernel_rfl) rfl #[.agg #[.slice A0 l0.length c0, .int .i64 b], .agg #[.int .i64 A, .int .i64 X, .int .i64 s1, .int .i64 pc, .bool vz, .bool vn, .bool vc, .bool vi]] (by rfl) rfl rfl (by simp only [List.map_toArray, List.map_cons, List.map_nil, e0, e3]) ?_
      refine (HBK.out W (below_step (w := w) (W := w15.drew) (below_drew1 HX.out.below) HBW.out)).mono ?_
      rintro e w' ⟨rfl, hb⟩
      exact ⟨_, rfl, hK.out _ _ hb rfl⟩
    case larti =>
     intro o ho a W hout hneed
     obtain rfl := Option.some.inj ho
     have h16 : a.eval (.tmp 16) = .int .i64 a1 := hout 16 (by decide)
     have h16' := eval_get h16
     refine ⟨.int .i64 a1, rfl, Or.inl ⟨by rfl, ?_⟩⟩
     intro w'
     go_simp
    intro f vs W2 hB hE
    have HBW := Aside0.mk hB
    clear hB
    have q0 : vs 0 = _ := hE 0 (by decide)
    have q1 : vs 1 = _ := hE 1 (by decide)
    have q2 : vs 2 = _ := hE 2 (by decide)
    have q3 : vs 3 = _ := hE 3 (by decide)
    have q4 : vs 4 = _ := hE 4 (by decide)
    show wpAnyLast _ _ _ _ _ _ (f + 1) _ (putAll _ [(136, vs 0), (137, vs 1), (138, vs 2), (139, vs 3), (140, vs 4)]) W2
    rw [q0, q1, q2, q3, q4]
    clear q0 q1 q2 q3 q4 hE
    refine norm_ (a' := ?_) ?_ ?_
    rotate_left
    ·simp only [putAll, Act.put, List.setIfInBounds_toArray, List.set_cons_zero, List.set_cons_succ]
     rfl
    have HXa := Aside0.mk (HX.out.drew.later HBW.out)
    refine one_ (i := 5) (N := none) #[true, true, true, true, true, true] rfl rfl (by kernel_rfl) (by decide) (fun K hK => ?_)
    refine skip_ (w1 := ?_) (by rfl) rfl ?_ ?_
    rotate_left
    ·skip
     have hcW : W2.heap[m5]? = some (.cells #[.int .i64 A, .int .i64 X, .int .i64 S, .int .i64 pc, .bool Z, .bool N, .bool C, .bool I] 38 (0, 0)) := HXa.out.h5
     obtain ⟨⟨t0, t1, t2, t3, t4, t5, t6, t7⟩, ⟨ft0, ft1, ft2, ft3, ft4, ft5, ft6, ft7⟩⟩ := cells8 (hcW)
     go_simp
     rfl
    refine hK.out _ _ trivial (fun _ => ?_)
    clear hK K
    refine done_ (by kernel_rfl) ?_
    try go_wp2
    go_meet
    case rel =>
     refine ⟨_, _, _, ⟨?_⟩, ⟨HXa.out.put8 _ _ _ _ _ _ _ _⟩⟩
     simp [switchF, E1.out, EK.out, HQ.out]
   have n24 : (op == 24) = false := beq_eq_false_iff_ne.mpr h24
   go_upto_region 27 with fail
   by_cases h25 : op = 25
   ·subst h25
    go_wp2
    go_meet
    case rel =>
     refine ⟨_, _, _, ⟨?_⟩, ⟨HX.out.setC (k' := ⟨A, X, S, pc, Z, N, C, true⟩) 7 _ rfl⟩⟩
     simp [switchF, ET.out]
   by_cases h26 : op = 26
   ·subst h26
    go_wp2
    go_meet
    case rel =>
     refine ⟨_, _, _, ⟨?_⟩, ⟨HX.out.setC (k' := ⟨A, X, S, pc, Z, N, C, false⟩) 7 _ rfl⟩⟩
     simp [switchF, ET.out]
   have n25 : (op == 25) = false := beq_eq_false_iff_ne.mpr h25
   have n26 : (op == 26) = false := beq_eq_false_iff_ne.mpr h26
   go_upto_region 30 with fail
   by_cases h27 : op = 27
   ·subst h27
    go_wp2
    go_meet
    case rel =>
     refine ⟨_, _, _, ⟨?_⟩, ⟨HX.out.setC (k' := ⟨A, X, S, pc, Z, N, true, I⟩) 6 _ rfl⟩⟩
     simp [switchF, ET.out]
   by_cases h28 : op = 28
   ·subst h28
    go_wp2
    go_meet
    case rel =>
     refine ⟨_, _, _, ⟨?_⟩, ⟨HX.out.setC (k' := ⟨A, X, S, pc, Z, N, false, I⟩) 6 _ rfl⟩⟩
     simp [switchF, ET.out]
   have n27 : (op == 27) = false := beq_eq_false_iff_ne.mpr h27
   have n28 : (op == 28) = false := beq_eq_false_iff_ne.mpr h28
   go_wp2
   go_meet
   case rel =>
    refine ⟨_, _, _, ⟨?_⟩, ⟨HX.out⟩⟩
    unfold switchF; simp only [h16, h17, h18, h19, h20, h21, h22, h23, h24, h25, h26, h27, h28, if_false]
  case rest =>
   obtain ⟨rv, ram, ⟨qa, qx, qs, qp, qz, qn, qc, qi⟩, HE, HX⟩ := hcut
   obtain ⟨A3, c3, rfl⟩ := Kd.R_slice HX.out.row
   have HM4 := Aside0.mk HX.out.h10
   have HC4 : Aside0 (wc.heap[m5]? = some (.cells #[.int .i64 qa, .int .i64 qx, .int .i64 qs, .int .i64 qp, .bool qz, .bool qn, .bool qc, .bool qi] 38 (0, 0))) := ⟨HX.out.h5⟩
   have HB1 := Aside0.mk HX.out.h8
   have HB2 := Aside0.mk HX.out.h9
   have h4 : MC w wc m10 m5 (.slice A3 ram.length c3) b ⟨qa, qx, qs, qp, qz, qn, qc, qi⟩ ram := ⟨HX.out.h10, HX.out.h5, HX.out.row, HX.out.e10, HX.out.e5, HX.out.below⟩
   go_wp2
   have hne12 : m8 ≠ m9 := blk_ne HX.out.h8 HX.out.h9 (by decide)
   have hne21 : m9 ≠ m8 := Ne.symm hne12
   have o1 : m10 ≠ m8 := Ne.symm HX.out.n810
   have o2 : m10 ≠ m9 := blk_ne HX.out.h10 HX.out.h9 (by decide)
   have o3 : m5 ≠ m8 := blk_ne HC4.out HX.out.h8 (by decide)
   have o4 : m5 ≠ m9 := Ne.symm HX.out.n95
   have he8 : w.heap.size ≤ m8 := HX.out.e8
   have he9 : w.heap.size ≤ m9 := HX.out.e9
   refine start_ (n := 4) (S := fun w' => w'.heap[m10]? = some (.cells #[.slice A3 ram.length c3, .int .i64 b] 37 (0, 0)) ∧ w'.heap[m5]? = some (.cells #[.int .i64 qa, .int .i64 qx, .int .i64 qs, .int .i64 qp, .bool qz, .bool qn, .bool qc, .bool qi] 38 (0, 0))) (ds := []) #[false, false, false, false] (by kernel_rfl) rfl rfl ⟨HM4.out, HC4.out⟩ (fun hHeld => ?_)
   refine take_ (i := 0) (N := some 155) (v := ?_) (a' := ?_) #[true, false, false, false] rfl rfl (by kernel_rfl) (fun _ _ _ h => h) (Or.inl ⟨by rfl, ?_⟩) hHeld ?_ ?_
   rotate_left
   ·rintro w' ⟨s0, s1⟩
    have a0 : w'.cell? ⟨m10, 0, none⟩ = some (.slice A3 ram.length c3) := (blk_cell s0 0).trans rfl
    have a1 : w'.cell? ⟨m10, 1, none⟩ = some (.int .i64 b) := (blk_cell s0 1).trans rfl
    clear s0 s1
    go_simp
    with_reducible rfl
   rotate_left
   ·simp only [Act.put, List.setIfInBounds_toArray, List.set_cons_zero, List.set_cons_succ, i64_w, i32_w]
    rfl
   refine take_ (i := 1) (N := some 156) (v := ?_) (a' := ?_) #[true, true, false, false] rfl rfl (by kernel_rfl) (fun _ _ _ h => h) (Or.inl ⟨by rfl, ?_⟩) hHeld ?_ ?_
   rotate_left
   ·rintro w' ⟨s0, s1⟩
    have b0 : w'.cell? ⟨m5, 0, none⟩ = some (.int .i64 qa) := (blk_cell s1 0).trans rfl
    have b1 : w'.cell? ⟨m5, 1, none⟩ = some (.int .i64 qx) := (blk_cell s1 1).trans rfl
    have b2 : w'.cell? ⟨m5, 2, none⟩ = some (.int .i64 qs) := (blk_cell s1 2).trans rfl
    have b3 : w'.cell? ⟨m5, 3, none⟩ = some (.int .i64 qp) := (blk_cell s1 3).trans rfl
    have b4 : w'.cell? ⟨m5, 4, none⟩ = some (.bool qz) := (blk_cell s1 4).trans rfl
    have b5 : w'.cell? ⟨m5, 5, none⟩ = some (.bool qn) := (blk_cell s1 5).trans rfl
    have b6 : w'.cell? ⟨m5, 6, none⟩ = some (.bool qc) := (blk_cell s1 6).trans rfl
    have b7 : w'.cell? ⟨m5, 7, none⟩ = some (.bool qi) := (blk_cell s1 7).trans rfl
    clear s0 s1
    go_simp
    with_reducible rfl
   rotate_left
   ·simp only [Act.put, List.setIfInBounds_toArray, List.set_cons_zero, List.set_cons_succ, i64_w, i32_w]
    rfl
   refine one_ (i := 2) (N := none) #[true, true, true, false] rfl rfl (by kernel_rfl) (by decide) (fun K hK => ?_)
   refine skip_ (w1 := ?_) (by rfl) rfl ?_ ?_
   rotate_left
   ·have r0 : wc.cell? ⟨m8, 0, none⟩ = some (.slice none 0 0) := (blk_cell HB1.out 0).trans rfl
    have r1 : wc.cell? ⟨m8, 1, none⟩ = some (.int .i64 0) := (blk_cell HB1.out 1).trans rfl
    have f0 := blk_frozen HB1.out 0
    have f1 := blk_frozen HB1.out 1
    go_simp
    rfl
   refine hK.out _ _ ⟨(heap2 _ _ _ _ _ o1).trans hHeld.1, (heap2 _ _ _ _ _ o3).trans hHeld.2⟩ (fun hHeld => ?_)
   clear hK K
   have g0 := (heap_drew _ _).symm.trans hHeld.1
   have g1 := (heap_drew _ _).symm.trans hHeld.2
   have g2 : ((wc.setCell ⟨m8, 0, none⟩ (.slice A3 ram.length c3)).setCell ⟨m8, 1, none⟩ (.int .i64 b)).heap[m9]? = _ := (heap2 wc (m8) (m9) (.slice A3 ram.length c3) (.int .i64 b) hne21).trans HB2.out
   have g3 : ((wc.setCell ⟨m8, 0, none⟩ (.slice A3 ram.length c3)).setCell ⟨m8, 1, none⟩ (.int .i64 b)).heap[m8]? = _ := put2 HB1.out (.slice A3 ram.length c3) (.int .i64 b)
   have g4 : Kd.R (Kd.int .i64) 3 ((wc.setCell ⟨m8, 0, none⟩ (.slice A3 ram.length c3)).setCell ⟨m8, 1, none⟩ (.int .i64 b)) w.heap.size (fun _ => True) (.slice A3 ram.length c3) ram :=
    Kd.R_mono (Kd.R_far (p := ⟨m8, 1, none⟩) (Kd.R_far (p := ⟨m8, 0, none⟩) (Kd.R_types h4.row HB1.out (by decide)) (fun _ hk => hk.2) (.slice A3 ram.length c3)) (fun _ hk => hk.2) (.int .i64 b)) (fun _ hk => trivial)
   have g5 : Below w.heap.size w ((wc.setCell ⟨m8, 0, none⟩ (.slice A3 ram.length c3)).setCell ⟨m8, 1, none⟩ (.int .i64 b)) := below_set (below_set h4.below (by omega)) (by omega)
   clear HB1 HB2 HM4 HC4 h4
   generalize ((wc.setCell ⟨m8, 0, none⟩ (.slice A3 ram.length c3)).setCell ⟨m8, 1, none⟩ (.int .i64 b)) = W5 at *
   have G2 := Aside0.mk g2
   have G3 := Aside0.mk g3
   have G4 := Aside0.mk g4
   have G5 := Aside0.mk g5
   have G0 := Aside0.mk g0
   have G1 := Aside0.mk g1
   clear g0 g1 g2 g3 g4 g5
   refine one_ (i := 3) (N := none) #[true, true, true, true] rfl rfl (by kernel_rfl) (by decide) (fun K hK => ?_)
   refine skip_ (w1 := ?_) (by rfl) rfl ?_ ?_
   rotate_left
   ·skip
    have r0 : W5.cell? ⟨m9, 0, none⟩ = some (.int .i64 0) := (blk_cell G2.out 0).trans rfl
    have f0 := blk_frozen G2.out 0
    have r1 : W5.cell? ⟨m9, 1, none⟩ = some (.int .i64 0) := (blk_cell G2.out 1).trans rfl
    have f1 := blk_frozen G2.out 1
    have r2 : W5.cell? ⟨m9, 2, none⟩ = some (.int .i64 0) := (blk_cell G2.out 2).trans rfl
    have f2 := blk_frozen G2.out 2
    have r3 : W5.cell? ⟨m9, 3, none⟩ = some (.int .i64 0) := (blk_cell G2.out 3).trans rfl
    have f3 := blk_frozen G2.out 3
    have r4 : W5.cell? ⟨m9, 4, none⟩ = some (.bool false) := (blk_cell G2.out 4).trans rfl
    have f4 := blk_frozen G2.out 4
    have r5 : W5.cell? ⟨m9, 5, none⟩ = some (.bool false) := (blk_cell G2.out 5).trans rfl
    have f5 := blk_frozen G2.out 5
    have r6 : W5.cell? ⟨m9, 6, none⟩ = some (.bool false) := (blk_cell G2.out 6).trans rfl
    have f6 := blk_frozen G2.out 6
    have r7 : W5.cell? ⟨m9, 7, none⟩ = some (.bool false) := (blk_cell G2.out 7).trans rfl
    have f7 := blk_frozen G2.out 7
    go_simp
    rfl
   refine hK.out _ _ ⟨(heap_drew _ _).trans ((heap8 W5 (m9) _ _ _ _ _ _ _ _ _ o2).trans G0.out), (heap_drew _ _).trans ((heap8 W5 (m9) _ _ _ _ _ _ _ _ _ o4).trans G1.out)⟩ (fun hHeld => ?_)
   clear hK K
   refine done_ (by kernel_rfl) ?_
   try go_wp2
   refine bodyPost_ret (results_cc rfl _ _ (m8) (m9) 37 38 #[.slice A3 ram.length c3, .int .i64 b] #[.int .i64 qa, .int .i64 qx, .int .i64 qs, .int .i64 qp, .bool qz, .bool qn, .bool qc, .bool qi] (0, 0) (0, 0) _ _ rfl ((heap_drew _ _).trans ((heap8 W5 (m9) _ _ _ _ _ _ _ _ _ hne12).trans G3.out)) hu37 rfl (by kernel_rfl) rfl ((heap_drew _ _).trans (put8 G2.out _ _ _ _ _ _ _ _)) hu38 rfl (by kernel_rfl)) rfl ?_
   rw [HS.out, HE.out]
   exact ⟨_, rfl, Kd.R_drew (row8 G4.out G2.out _ _ _ _ _ _ _ _), below_drew1 (below8 G5.out he9 _ _ _ _ _ _ _ _)⟩
def spec_Exec.f (k : Nat) (l0_0 : List Int) (a0_1 : Int) (a1_0 a1_1 a1_2 a1_3 : Int) (a1_4 a1_5 a1_6 a1_7 : Bool) (a2_0 a2_1 : Int) (a3 : Int) : Option (List Int × Int × Int × Int × Int × Int × Bool × Bool × Bool × Bool) :=
 if l0_0.length < 17592186044416 then (spec_OpLen.f a2_0).bind fun ln => some ((sexecF l0_0 ⟨a1_0, a1_1, a1_2, a1_3, a1_4, a1_5, a1_6, a1_7⟩ a2_0 a2_1 a3 ln).1, a0_1, (sexecF l0_0 ⟨a1_0, a1_1, a1_2, a1_3, a1_4, a1_5, a1_6, a1_7⟩ a2_0 a2_1 a3 ln).2.A, (sexecF l0_0 ⟨a1_0, a1_1, a1_2, a1_3, a1_4, a1_5, a1_6, a1_7⟩ a2_0 a2_1 a3 ln).2.X, (sexecF l0_0 ⟨a1_0, a1_1, a1_2, a1_3, a1_4, a1_5, a1_6, a1_7⟩ a2_0 a2_1 a3 ln).2.S, (sexecF l0_0 ⟨a1_0, a1_1, a1_2, a1_3, a1_4, a1_5, a1_6, a1_7⟩ a2_0 a2_1 a3 ln).2.P, (sexecF l0_0 ⟨a1_0, a1_1, a1_2, a1_3, a1_4, a1_5, a1_6, a1_7⟩ a2_0 a2_1 a3 ln).2.Z, (sexecF l0_0 ⟨a1_0, a1_1, a1_2, a1_3, a1_4, a1_5, a1_6, a1_7⟩ a2_0 a2_1 a3 ln).2.N, (sexecF l0_0 ⟨a1_0, a1_1, a1_2, a1_3, a1_4, a1_5, a1_6, a1_7⟩ a2_0 a2_1 a3 ln).2.C, (sexecF l0_0 ⟨a1_0, a1_1, a1_2, a1_3, a1_4, a1_5, a1_6, a1_7⟩ a2_0 a2_1 a3 ln).2.I) else none
theorem spec_Exec.calls (k : Nat) (A0_0 : Option Addr) (c0_0 : Nat) (l0_0 : List Int) (a0_1 : Int) (a1_0 a1_1 a1_2 a1_3 : Int) (a1_4 a1_5 a1_6 a1_7 : Bool) (a2_0 a2_1 : Int) (a3 : Int) (r1 : List Int) (r2 : Int) (r3 : Int) (r4 : Int) (r5 : Int) (r6 : Int) (r7 : Bool) (r8 : Bool) (r9 : Bool) (r10 : Bool) (w : World) (hr0_0 : Kd.C (Kd.int .i64) w A0_0 l0_0.length l0_0) (hc0_0 : l0_0.length ≤ c0_0) (h : spec_Exec.f k l0_0 a0_1 a1_0 a1_1 a1_2 a1_3 a1_4 a1_5 a1_6 a1_7 a2_0 a2_1 a3 = some (r1, r2, r3, r4, r5, r6, r7, r8, r9, r10)) :
  Calls Try.prog 57 #[.agg #[.slice A0_0 l0_0.length c0_0, .int .i64 a0_1], .agg #[.int .i64 a1_0, .int .i64 a1_1, .int .i64 a1_2, .int .i64 a1_3, .bool a1_4, .bool a1_5, .bool a1_6, .bool a1_7], .agg #[.int .i64 a2_0, .int .i64 a2_1], .int .i64 a3] w fun e w' => ∃ v0_ : Value, e = .returned (.tuple #[.agg #[v0_, .int .i64 r2], .agg #[.int .i64 r3, .int .i64 r4, .int .i64 r5, .int .i64 r6, .bool r7, .bool r8, .bool r9, .bool r10]]) ∧ Kd.R (Kd.int .i64) 3 w' w.heap.size (fun _ => True) v0_ r1 ∧ Below w.heap.size w w' := by
 unfold spec_Exec.f at h
 by_cases hlen : l0_0.length < 17592186044416
 ·rw [if_pos hlen] at h
  obtain ⟨ln, hl, h3⟩ := Option.bind_eq_some_iff.mp h
  clear h
  cases h3
  exact specExec_calls A0_0 c0_0 _ _ ⟨a1_0, a1_1, a1_2, a1_3, a1_4, a1_5, a1_6, a1_7⟩ a2_0 a2_1 a3 w hr0_0 hc0_0 hlen ln hl
 ·rw [if_neg hlen] at h
  cases h

/-! ### laws_FnExactExec (mine) -/
/-- The boxes of the law's own arguments, at the call's first blocks. -/
structure ArgZ (w W : World) (a0 a1 a2 : Array Value) : Prop where
 below : Below w.heap.size w W
 f0 : W.heap[w.heap.size]? = some (.cells a0 33 (0, 0))
 f1 : W.heap[w.heap.size + 1]? = some (.cells a1 35 (0, 0))
 f2 : W.heap[w.heap.size + 2]? = some (.cells a2 73 (0, 0))
theorem ArgZ.kept {w W W' : World} {a0 a1 a2 : Array Value} {S : Nat → Prop} (h : ArgZ w W a0 a1 a2) (hk : Kept W W' S) (hb : Below w.heap.size w W') (hS : ∀ k, k < w.heap.size + 3 → ¬ S k) : ArgZ w W' a0 a1 a2 :=
 ⟨hb, blk_kept h.f0 hk (hS _ (by omega)), blk_kept h.f1 hk (hS _ (by omega)), blk_kept h.f2 hk (hS _ (by omega))⟩
set_option maxRecDepth 100000 in
set_option maxHeartbeats 4000000 in
theorem lawExec_true (k : Nat) (A1 : Option Addr) (c1 : Nat) (l1 : List Int) (b : Int) (x0 x1 x2 x3 : Int) (x4 x5 x6 x7 : Bool) (i0 i1 : Int) (v3 : Int) (w : World) (hr1 : Kd.C (Kd.int .i64) w A1 l1.length l1) (hc1 : l1.length ≤ c1)
  (t2 : Int) (hsz2 : laws_szMem.f l1 b 1048576 = some t2)
  (m1 : List Int) (m2 : Int) (hm : laws_toMem.f k l1 b = some (m1, m2)) (y0 y1 y2 y3 : Int) (y4 y5 y6 y7 : Bool) (hcp : laws_toCpu.f x0 x1 x2 x3 x4 x5 x6 x7 = some (y0, y1, y2, y3, y4, y5, y6, y7)) (j0 j1 : Int) (hin : laws_toInstr.f i0 i1 = some (j0, j1))
  (r1 : List Int) (r2 r3 r4 r5 r6 : Int) (r7 r8 r9 r10 : Bool) (hs : spec_Exec.f k m1 m2 y0 y1 y2 y3 y4 y5 y6 y7 j0 j1 v3 = some (r1, r2, r3, r4, r5, r6, r7, r8, r9, r10)) (hi : impl_Exec.f k m1 m2 y0 y1 y2 y3 y4 y5 y6 y7 j0 j1 v3 = some (r1, r2, r3, r4, r5, r6, r7, r8, r9, r10))
  (ht2 : ¬ t2 < 0) (he1 : laws_eqMem.f k r1 r2 r1 r2 = some true) (he2 : laws_eqCpu.f r3 r4 r5 r6 r7 r8 r9 r10 r3 r4 r5 r6 r7 r8 r9 r10 = some true) (he3 : laws_eqMem.f k m1 m2 m1 m2 = some true)
  (ka : Int) (na : List Int) (hka : laws_markMem.f k m1 m2 1 = some (ka, na)) (hka' : ¬ ka < 0) (kr : Int) (nr : List Int) (hkr : laws_markMem.f k r1 r2 1 = some (kr, nr)) (hkr' : ¬ kr < 0) (hh : laws_heldMem.f k nr r2 1 = some kr) :
  Calls Try.prog 14 #[.agg #[.slice A1 l1.length c1, .int .i64 b], .agg #[.int .i64 x0, .int .i64 x1, .int .i64 x2, .int .i64 x3, .bool x4, .bool x5, .bool x6, .bool x7], .agg #[.int .i64 i0, .int .i64 i1], .int .i64 v3] w fun e w' => e = .returned (.bool true) ∧ Below w.heap.size w w' := by
 have hl_mem := Try.underlying33
 have hi_mem := Try.underlying37
 have hl_cpu := Try.underlying35
 have hi_cpu := Try.underlying38
 have hl_instr := Try.underlying73
 have hi_instr := Try.underlying68
 have HR1 := Aside0.mk hr1
 have HC1 := Aside0.mk hc1
 have Hsz2 := Aside0.mk hsz2
 have Hm := Aside0.mk hm
 have Hcp := Aside0.mk hcp
 have Hin := Aside0.mk hin
 have Hs := Aside0.mk hs
 have Hi := Aside0.mk hi
 have He1 := Aside0.mk he1
 have He2 := Aside0.mk he2
 have He3 := Aside0.mk he3
 have Hka := Aside0.mk hka
 have Hkr := Aside0.mk hkr
 have Hh := Aside0.mk hh
 have ht20 : decide (t2 < 0) = false := decide_eq_false ht2
 have Ht1 := Aside0.mk (decide_eq_false hka')
 have Ht2 := Aside0.mk (decide_eq_false hkr')
 clear hr1 hc1 hsz2 hm hcp hin hs hi he1 he2 he3 hka hkr hh ht2 hka' hkr'
 go_enter Try.func14, Try.ntmps14
 go_wp2_with fail
 refine (laws_szMem.calls A1 c1 l1 b 1048576 t2 _ ?hr HC1.out Hsz2.out).mono ?_
 case hr => repeat (first | exact HR1.out | (with_reducible refine Kd.C_alloc ?_ _))
 rintro e W1 ⟨rfl, hB⟩
 have ARG : Aside0 (ArgZ w W1 #[.slice A1 l1.length c1, .int .i64 b] #[.int .i64 x0, .int .i64 x1, .int .i64 x2, .int .i64 x3, .bool x4, .bool x5, .bool x6, .bool x7] #[.int .i64 i0, .int .i64 i1]) := ⟨⟨below_step (by repeat (first | exact Below.refl _ _ | apply below_alloc)) hB, blk_below (by repeat (first | exact alloc_at _ _ _ (by simp only [alloc_size]) | refine blk_alloc ?_ _)) hB, blk_below (by repeat (first | exact alloc_at _ _ _ (by simp only [alloc_size]) | refine blk_alloc ?_ _)) hB, blk_below (by repeat (first | exact alloc_at _ _ _ (by simp only [alloc_size]) | refine blk_alloc ?_ _)) hB⟩⟩
 clear hB
 have hlow : w.heap.size + 3 ≤ W1.heap.size := by have := blk_lt ARG.out.f2; omega
 go_wp2
 refine free_ (n := 15) (e := 13) (g := 10) (T := (true, [([], []), ([0], [0]), ([], []), ([2, 1], [2]), ([], []), ([4, 3], [4]), ([], []), ([1, 3, 5, 6, 5], [1, 3, 5, 6]), ([7], [7]), ([8], [8]), ([8], [8]), ([], []), ([], []), ([11, 9, 7, 0, 1, 2, 3, 4, 5, 6, 7, 8, 9, 11, 12], [9, 11]), ([12, 10, 13, 0, 1, 2, 3, 4, 5, 6, 7, 8, 9, 10, 11, 12, 13], [10, 12])])) #[true, true, true, true, true, true, true, true, true, true, true, true, true, false, false] #[true, true, true, true, true, true, true, true, true, true, false, true, true, false, false] [26, 27, 28, 29, 30, 31, 32, 33, 25, 34, 35, 10, 11] (fun j u w' => match j with
  | 0 => u = .agg #[.slice A1 l1.length c1, .int .i64 b]
  | 1 => isMem W1.heap.size m1 m2 u w'
  | 2 => u = .agg #[.int .i64 x0, .int .i64 x1, .int .i64 x2, .int .i64 x3, .bool x4, .bool x5, .bool x6, .bool x7]
  | 3 => u = .agg #[.int .i64 y0, .int .i64 y1, .int .i64 y2, .int .i64 y3, .bool y4, .bool y5, .bool y6, .bool y7]
  | 4 => u = .agg #[.int .i64 i0, .int .i64 i1]
  | 5 => u = .agg #[.int .i64 j0, .int .i64 j1]
  | 6 => u = .int .i64 v3
  | 7 => isPair W1.heap.size r1 r2 (.agg #[.int .i64 r3, .int .i64 r4, .int .i64 r5, .int .i64 r6, .bool r7, .bool r8, .bool r9, .bool r10]) u w'
  | 8 => isPair W1.heap.size r1 r2 (.agg #[.int .i64 r3, .int .i64 r4, .int .i64 r5, .int .i64 r6, .bool r7, .bool r8, .bool r9, .bool r10]) u w'
  | 9 => isMem W1.heap.size r1 r2 u w'
  | 10 => u = .agg #[.int .i64 r3, .int .i64 r4, .int .i64 r5, .int .i64 r6, .bool r7, .bool r8, .bool r9, .bool r10]
  | 11 => isNew W1.heap.size 37 #[.slice none 0 0, .int .i64 0] u w'
  | 12 => isNew W1.heap.size 38 #[.int .i64 0, .int .i64 0, .int .i64 0, .int .i64 0, .bool false, .bool false, .bool false, .bool false] u w'
  | _ => False)
  (by kernel_rfl) rfl (by kernel_rfl) (by kernel_rfl) (by kernel_rfl) (any_of (T := (true, [([], []), ([0], [0]), ([], []), ([2, 1], [2]), ([], []), ([4, 3], [4]), ([], []), ([1, 3, 5, 6, 5], [1, 3, 5, 6]), ([7], [7]), ([8], [8]), ([8], [8]), ([], []), ([], []), ([11, 9, 7, 0, 1, 2, 3, 4, 5, 6, 7, 8, 9, 11, 12], [9, 11]), ([12, 10, 13, 0, 1, 2, 3, 4, 5, 6, 7, 8, 9, 10, 11, 12, 13], [10, 12])])) (by kernel_rfl) (by kernel_rfl)) (fun _ _ _ _ h => h) ?stables ?steps ?lags ?lasts
 case stables =>
  intro j u W W' h hb
  rcases j with _ | _ | _ | _ | _ | _ | _ | _ | _ | _ | _ | _ | _ | j
  ·exact h
  ·exact isMem_below h hb
  ·exact h
  ·exact h
  ·exact h
  ·exact h
  ·exact h
  ·exact isPair_below h hb
  ·exact isPair_below h hb
  ·exact isMem_below h hb
  ·exact h
  ·exact isNew_below h hb
  ·exact isNew_below h hb
  ·exact h
 case steps =>
  intro i hi o ho a W hB hout hneed K hK
  have HBW := Aside0.mk hB
  have hcase : i = 0 ∨ i = 1 ∨ i = 2 ∨ i = 3 ∨ i = 4 ∨ i = 5 ∨ i = 6 ∨ i = 7 ∨ i = 8 ∨ i = 9 ∨ i = 10 ∨ i = 11 ∨ i = 12 := by omega
  clear hB
  rcases hcase with rfl | rfl | rfl | rfl | rfl | rfl | rfl | rfl | rfl | rfl | rfl | rfl | rfl
  ·obtain rfl := Option.some.inj ho
   have h3 : a.eval (.tmp 4) = .pointer (some ⟨w.heap.size, 0, none⟩) := hout 4 (by decide)
   have h3' := eval_get h3
   have hb := blk_below (w := W1.drew) ARG.out.f0 HBW.out
   have d0 := (blk_cell hb 0).trans rfl
   have d1 := (blk_cell hb 1).trans rfl
   refine value_ (v := .agg #[.slice A1 l1.length c1, .int .i64 b]) (w1 := W) (by rfl) rfl ?_ (hK.out _ _ (Below.refl _ _) rfl)
   go_simp
  ·obtain rfl := Option.some.inj ho
   have e0 : a.eval (.tmp 26) = _ := hneed 0 (by decide)
   refine goes_ Try.func22 (by kernel_rfl) rfl #[.agg #[.slice A1 l1.length c1, .int .i64 b]] (by rfl) rfl rfl (by simp only [List.map_toArray, List.map_cons, List.map_nil, e0]) ?_
   refine (laws_toMem.calls k A1 c1 l1 b m1 m2 W (Kd.C_below HR1.out (below_step (w := w) (W := W1.drew) (below_drew1 ARG.out.below) HBW.out)) HC1.out Hm.out).mono ?_
   rintro e w' ⟨u, rfl, hR, hb⟩
   exact ⟨_, rfl, hK.out _ _ hb ⟨u, rfl, Kd.R_lower hR HBW.out.size⟩⟩
  ·obtain rfl := Option.some.inj ho
   have h3 : a.eval (.tmp 5) = .pointer (some ⟨w.heap.size + 1, 0, none⟩) := hout 5 (by decide)
   have h3' := eval_get h3
   have hb := blk_below (w := W1.drew) ARG.out.f1 HBW.out
   have d0 := (blk_cell hb 0).trans rfl
   have d1 := (blk_cell hb 1).trans rfl
   have d2 := (blk_cell hb 2).trans rfl
   have d3 := (blk_cell hb 3).trans rfl
   have d4 := (blk_cell hb 4).trans rfl
   have d5 := (blk_cell hb 5).trans rfl
   have d6 := (blk_cell hb 6).trans rfl
   have d7 := (blk_cell hb 7).trans rfl
   refine value_ (v := .agg #[.int .i64 x0, .int .i64 x1, .int .i64 x2, .int .i64 x3, .bool x4, .bool x5, .bool x6, .bool x7]) (w1 := W) (by rfl) rfl ?_ (hK.out _ _ (Below.refl _ _) rfl)
   go_simp
  ·obtain rfl := Option.some.inj ho
   have e0 : a.eval (.tmp 28) = _ := hneed 2 (by decide)
   refine goes_ Try.func23 (by kernel_rfl) rfl #[.agg #[.int .i64 x0, .int .i64 x1, .int .i64 x2, .int .i64 x3, .bool x4, .bool x5, .bool x6, .bool x7]] (by rfl) rfl rfl (by simp only [List.map_toArray, List.map_cons, List.map_nil, e0]) ?_
   refine (laws_toCpu.calls x0 x1 x2 x3 x4 x5 x6 x7 y0 y1 y2 y3 y4 y5 y6 y7 W Hcp.out).mono ?_
   rintro e w' ⟨rfl, hb⟩
   exact ⟨_, rfl, hK.out _ _ hb rfl⟩
  ·obtain rfl := Option.some.inj ho
   have h3 : a.eval (.tmp 6) = .pointer (some ⟨w.heap.size + 2, 0, none⟩) := hout 6 (by decide)
   have h3' := eval_get h3
   have hb := blk_below (w := W1.drew) ARG.out.f2 HBW.out
   have d0 := (blk_cell hb 0).trans rfl
   have d1 := (blk_cell hb 1).trans rfl
   refine value_ (v := .agg #[.int .i64 i0, .int .i64 i1]) (w1 := W) (by rfl) rfl ?_ (hK.out _ _ (Below.refl _ _) rfl)
   go_simp
  ·obtain rfl := Option.some.inj ho
   have e0 : a.eval (.tmp 30) = _ := hneed 4 (by decide)
   refine goes_ Try.func58 (by kernel_rfl) rfl #[.agg #[.int .i64 i0, .int .i64 i1]] (by rfl) rfl rfl (by simp only [List.map_toArray, List.map_cons, List.map_nil, e0]) ?_
   refine (laws_toInstr.calls i0 i1 j0 j1 W Hin.out).mono ?_
   rintro e w' ⟨rfl, hb⟩
   exact ⟨_, rfl, hK.out _ _ hb rfl⟩
  ·obtain rfl := Option.some.inj ho
   have h3 : a.eval (.tmp 3) = .int .i64 v3 := hout 3 (by decide)
   have h3' := eval_get h3
   refine value_ (v := .int .i64 v3) (w1 := W) (by rfl) rfl ?_ (hK.out _ _ (Below.refl _ _) rfl)
   go_simp
  ·obtain rfl := Option.some.inj ho
   obtain ⟨um, em, hRm⟩ : isMem _ _ _ (a.eval (.tmp 27)) W := hneed 1 (by decide)
   obtain ⟨Am, cm, rfl⟩ := Kd.R_slice hRm
   obtain ⟨_, hcm, hCm⟩ := Kd.R_reads' hRm
   have eo3 : a.eval (.tmp 29) = _ := hneed 3 (by decide)
   have eo5 : a.eval (.tmp 31) = _ := hneed 5 (by decide)
   have eo6 : a.eval (.tmp 32) = _ := hneed 6 (by decide)
   refine goes_ Try.func57 (by kernel_rfl) rfl #[.agg #[.slice Am m1.length cm, .int .i64 m2], .agg #[.int .i64 y0, .int .i64 y1, .int .i64 y2, .int .i64 y3, .bool y4, .bool y5, .bool y6, .bool y7], .agg #[.int .i64 j0, .int .i64 j1], .int .i64 v3] (by rfl) rfl rfl (by simp only [List.map_toArray, List.map_cons, List.map_nil, em, eo3, eo5, eo6]) ?_
   refine (spec_Exec.calls k Am cm m1 m2 y0 y1 y2 y3 y4 y5 y6 y7 j0 j1 v3 r1 r2 r3 r4 r5 r6 r7 r8 r9 r10 W hCm hcm Hs.out).mono ?_
   rintro e w' ⟨u, rfl, hR, hb⟩
   exact ⟨_, rfl, hK.out _ _ hb ⟨u, rfl, Kd.R_lower hR HBW.out.size⟩⟩
  ·obtain rfl := Option.some.inj ho
   have e5 : isPair _ _ _ _ (a.eval (.tmp 33)) W := hneed 7 (by decide)
   refine value_ (v := a.eval (.tmp 33)) (w1 := W) (by rfl) rfl rfl (hK.out _ _ (Below.refl _ _) e5)
  ·obtain rfl := Option.some.inj ho
   obtain ⟨u, e6, hR⟩ : isPair _ _ _ _ (a.eval (.tmp 25)) W := hneed 8 (by decide)
   refine value_ (v := .agg #[u, .int .i64 r2]) (w1 := W) (by rfl) rfl ?_ (hK.out _ _ (Below.refl _ _) ⟨u, rfl, hR⟩)
   have e6' := eval_get e6
   go_simp
  ·obtain rfl := Option.some.inj ho
   obtain ⟨u, e6, hR⟩ : isPair _ _ _ _ (a.eval (.tmp 25)) W := hneed 8 (by decide)
   refine value_ (v := .agg #[.int .i64 r3, .int .i64 r4, .int .i64 r5, .int .i64 r6, .bool r7, .bool r8, .bool r9, .bool r10]) (w1 := W) (by rfl) rfl ?_ (hK.out _ _ (Below.refl _ _) rfl)
   have e6' := eval_get e6
   go_simp
  ·obtain rfl := Option.some.inj ho
   refine value_ (v := .pointer (some ⟨W.heap.size, 0, none⟩)) (w1 := W.alloc (.cells #[.slice none 0 0, .int .i64 0] 37)) (by rfl) rfl ?_ (hK.out _ _ (below_alloc (Below.refl _ _) _) ⟨_, rfl, HBW.out.size, alloc_at _ _ _ rfl⟩)
   go_simp
  ·obtain rfl := Option.some.inj ho
   refine value_ (v := .pointer (some ⟨W.heap.size, 0, none⟩)) (w1 := W.alloc (.cells #[.int .i64 0, .int .i64 0, .int .i64 0, .int .i64 0, .bool false, .bool false, .bool false, .bool false] 38)) (by rfl) rfl ?_ (hK.out _ _ (below_alloc (Below.refl _ _) _) ⟨_, rfl, HBW.out.size, alloc_at _ _ _ rfl⟩)
   go_simp
 case lags =>
  intro o ho a W hout hneed
  obtain rfl := Option.some.inj ho
  obtain ⟨u, e6, hR⟩ : isPair _ _ _ _ (a.eval (.tmp 25)) W := hneed 8 (by decide)
  refine ⟨.agg #[.int .i64 r3, .int .i64 r4, .int .i64 r5, .int .i64 r6, .bool r7, .bool r8, .bool r9, .bool r10], rfl, Or.inl ⟨by rfl, ?_⟩⟩
  intro w'
  have e6' := eval_get e6
  go_simp
 intro f vs W2 hB hE
 have HBW := Aside0.mk hB
 clear hB
 have q0 : vs 0 = _ := hE 0 (by decide)
 obtain ⟨u1s, q1, hR1⟩ : isMem _ _ _ (vs 1) W2 := hE 1 (by decide)
 have q2 : vs 2 = _ := hE 2 (by decide)
 have q3 : vs 3 = _ := hE 3 (by decide)
 have q4 : vs 4 = _ := hE 4 (by decide)
 have q5 : vs 5 = _ := hE 5 (by decide)
 have q6 : vs 6 = _ := hE 6 (by decide)
 obtain ⟨u7s, q7, _⟩ : isPair _ _ _ _ (vs 7) W2 := hE 7 (by decide)
 obtain ⟨u8s, q8, _⟩ : isPair _ _ _ _ (vs 8) W2 := hE 8 (by decide)
 obtain ⟨u9s, q9, hR9⟩ : isMem _ _ _ (vs 9) W2 := hE 9 (by decide)
 have q10 : vs 10 = _ := hE 10 (by decide)
 obtain ⟨g1s, q11, hg1, hb1⟩ : isNew _ _ _ (vs 11) W2 := hE 11 (by decide)
 obtain ⟨g2s, q12, hg2, hb2⟩ : isNew _ _ _ (vs 12) W2 := hE 12 (by decide)
 show wpAnyLast _ _ _ _ _ _ (f + 2) _ (putAll _ [(26, vs 0), (27, vs 1), (28, vs 2), (29, vs 3), (30, vs 4), (31, vs 5), (32, vs 6), (33, vs 7), (25, vs 8), (34, vs 9), (35, vs 10), (10, vs 11), (11, vs 12)]) W2
 rw [q0, q1, q2, q3, q4, q5, q6, q7, q8, q9, q10, q11, q12]
 clear q0 q1 q2 q3 q4 q5 q6 q7 q8 q9 q10 q11 q12 hE
 refine norm_ (a' := ?_) ?_ ?_
 rotate_left
 ·simp only [putAll, Act.put, List.setIfInBounds_toArray, List.set_cons_zero, List.set_cons_succ]
  rfl
 obtain ⟨As, cs, rfl⟩ := Kd.R_slice hR9
 have hgg : g1s ≠ g2s := blk_ne hb1 hb2 (by decide)
 have hgg' : g2s ≠ g1s := fun h => hgg h.symm
 refine one_ (i := 13) (N := none) #[true, true, true, true, true, true, true, true, true, true, true, true, true, true, false] rfl rfl (by kernel_rfl) (by decide) (fun K hK => ?_)
 refine skip_ (w1 := ?_) (by rfl) rfl ?_ ?_
 rotate_left
 ·skip
  have r0 : W2.cell? ⟨g1s, 0, none⟩ = some (.slice none 0 0) := (blk_cell hb1 0).trans rfl
  have f0 := blk_frozen hb1 0
  have r1 : W2.cell? ⟨g1s, 1, none⟩ = some (.int .i64 0) := (blk_cell hb1 1).trans rfl
  have f1 := blk_frozen hb1 1
  go_simp
  rfl
 refine hK.out _ _ trivial (fun _ => ?_)
 clear hK K
 refine one_ (i := 14) (N := none) #[true, true, true, true, true, true, true, true, true, true, true, true, true, true, true] rfl rfl (by kernel_rfl) (by decide) (fun K hK => ?_)
 refine skip_ (w1 := ?_) (by rfl) rfl ?_ ?_
 rotate_left
 ·skip
  have r0 : W2.cell? ⟨g2s, 0, none⟩ = some (.int .i64 0) := (blk_cell hb2 0).trans rfl
  have f0 := blk_frozen hb2 0
  have r1 : W2.cell? ⟨g2s, 1, none⟩ = some (.int .i64 0) := (blk_cell hb2 1).trans rfl
  have f1 := blk_frozen hb2 1
  have r2 : W2.cell? ⟨g2s, 2, none⟩ = some (.int .i64 0) := (blk_cell hb2 2).trans rfl
  have f2 := blk_frozen hb2 2
  have r3 : W2.cell? ⟨g2s, 3, none⟩ = some (.int .i64 0) := (blk_cell hb2 3).trans rfl
  have f3 := blk_frozen hb2 3
  have r4 : W2.cell? ⟨g2s, 4, none⟩ = some (.bool false) := (blk_cell hb2 4).trans rfl
  have f4 := blk_frozen hb2 4
  have r5 : W2.cell? ⟨g2s, 5, none⟩ = some (.bool false) := (blk_cell hb2 5).trans rfl
  have f5 := blk_frozen hb2 5
  have r6 : W2.cell? ⟨g2s, 6, none⟩ = some (.bool false) := (blk_cell hb2 6).trans rfl
  have f6 := blk_frozen hb2 6
  have r7 : W2.cell? ⟨g2s, 7, none⟩ = some (.bool false) := (blk_cell hb2 7).trans rfl
  have f7 := blk_frozen hb2 7
  go_simp
  rfl
 refine hK.out _ _ trivial (fun _ => ?_)
 clear hK K
 refine done_ (by kernel_rfl) ?_
 obtain ⟨A_, c_, e_, P, Kp, B⟩ := pair_made ARG.out.below HBW.out hR9 hb1 hb2 hg1 hg2 r2 (.int .i64 r3) (.int .i64 r4) (.int .i64 r5) (.int .i64 r6) (.bool r7) (.bool r8) (.bool r9) (.bool r10)
 cases e_
 have hz_W3 : W1.heap.size ≤ _ := Kp.1
 have ARG_ := Aside0.mk (ARG.out.kept Kp (B) (fun _ _ h => h))
 clear ARG 
 have ARG := ARG_
 clear ARG_
 have Ps := Aside0.mk P
 clear P Kp B hR9 hb1 hg1 HBW hb2 hg2 hgg hgg'
 generalize hW_ : ((((((((((W2.setCell ⟨g1s, 0, none⟩ (.slice As r1.length cs)).setCell ⟨g1s, 1, none⟩ (.int .i64 r2)).setCell ⟨g2s, 0, none⟩ (.int .i64 r3)).setCell ⟨g2s, 1, none⟩ (.int .i64 r4)).setCell ⟨g2s, 2, none⟩ (.int .i64 r5)).setCell ⟨g2s, 3, none⟩ (.int .i64 r6)).setCell ⟨g2s, 4, none⟩ (.bool r7)).setCell ⟨g2s, 5, none⟩ (.bool r8)).setCell ⟨g2s, 6, none⟩ (.bool r9)).setCell ⟨g2s, 7, none⟩ (.bool r10)) = W3 at *
 clear hW_
 have q0_ : W3.cell? ⟨w.heap.size, 0, none⟩ = some (.slice A1 l1.length c1) := (blk_cell ARG.out.f0 0).trans rfl
 have q1_ : W3.cell? ⟨w.heap.size, 1, none⟩ = some (.int .i64 b) := (blk_cell ARG.out.f0 1).trans rfl
 go_wp2_with fail
 refine (laws_toMem.calls k A1 c1 l1 b m1 m2 _ (Kd.C_below HR1.out ARG.out.below) HC1.out Hm.out).mono ?_
 rintro e W4 ⟨u_, rfl, hS_, hb⟩
 clear q0_ q1_
 obtain ⟨Ay, cy, rfl⟩ := Kd.R_slice hS_
 have HW0_ := Aside0.mk ARG.out.below
 have hle_ := hb.size
 have K_ := Kept.of_below hb (fun _ => False)
 have ARG_ := Aside0.mk (ARG.out.kept K_ (below_step ARG.out.below hb) (fun _ _ h => h))
 have Ps_ := Aside0.mk (Ps.out.kept K_ (fun _ _ _ h => h))
 clear ARG Ps
 have ARG := ARG_
 clear ARG_
 have Ps := Ps_
 clear Ps_; clear K_
 go_wp2
 obtain ⟨M_, Kp_, B_⟩ := mem_made0 (W := (W4.alloc (.cells #[.slice Ay m1.length cy, .int .i64 m2] 37))) HW0_.out (below_alloc hb _) (Kd.R_alloc hS_ _) (alloc_at _ _ _ rfl) hle_
 have X1 := Aside0.mk M_
 clear M_ Kp_ B_
 have hb2_ : Below W4.heap.size W4 (W4.alloc (.cells #[.slice Ay m1.length cy, .int .i64 m2] 37)) := below_alloc (Below.refl _ _) _
 have K_ := Kept.of_below hb2_ (fun _ => False)
 have ARG_ := Aside0.mk (ARG.out.kept K_ (below_step ARG.out.below hb2_) (fun _ _ h => h))
 have Ps_ := Aside0.mk (Ps.out.kept K_ (fun _ _ _ h => h))
 clear ARG Ps
 have ARG := ARG_
 clear ARG_
 have Ps := Ps_
 clear Ps_; clear K_
 have hz_W5 : W3.heap.size ≤ (W4.alloc (.cells #[.slice Ay m1.length cy, .int .i64 m2] 37)).heap.size := by rw [alloc_size]; omega
 clear hb hS_ HW0_ hb2_ hle_
 generalize hW_ : (W4.alloc (.cells #[.slice Ay m1.length cy, .int .i64 m2] 37)) = W5 at *
 generalize hg_ : W4.heap.size = gm at *
 clear hW_ hg_
 refine free_ (n := 14) (e := 12) (g := 9) (T := (true, [([], []), ([], []), ([1], [1]), ([], []), ([3, 2], [3]), ([], []), ([0, 2, 4, 5, 4], [0, 2, 4, 5]), ([6], [6]), ([7], [7]), ([7], [7]), ([], []), ([], []), ([10, 8, 6, 0, 1, 2, 3, 4, 5, 6, 7, 8, 10, 11], [8, 10]), ([11, 9, 12, 0, 1, 2, 3, 4, 5, 6, 7, 8, 9, 10, 11, 12], [9, 11])])) #[true, true, true, true, true, true, true, true, true, true, true, true, false, false] #[true, true, true, true, true, true, true, true, true, false, true, true, false, false] [39, 40, 41, 42, 43, 44, 45, 38, 46, 47, 13, 14] (fun j u w' => match j with
  | 0 => u = .agg #[.slice Ay m1.length cy, .int .i64 m2]
  | 1 => u = .agg #[.int .i64 x0, .int .i64 x1, .int .i64 x2, .int .i64 x3, .bool x4, .bool x5, .bool x6, .bool x7]
  | 2 => u = .agg #[.int .i64 y0, .int .i64 y1, .int .i64 y2, .int .i64 y3, .bool y4, .bool y5, .bool y6, .bool y7]
  | 3 => u = .agg #[.int .i64 i0, .int .i64 i1]
  | 4 => u = .agg #[.int .i64 j0, .int .i64 j1]
  | 5 => u = .int .i64 v3
  | 6 => isPair W5.heap.size r1 r2 (.agg #[.int .i64 r3, .int .i64 r4, .int .i64 r5, .int .i64 r6, .bool r7, .bool r8, .bool r9, .bool r10]) u w'
  | 7 => isPair W5.heap.size r1 r2 (.agg #[.int .i64 r3, .int .i64 r4, .int .i64 r5, .int .i64 r6, .bool r7, .bool r8, .bool r9, .bool r10]) u w'
  | 8 => isMem W5.heap.size r1 r2 u w'
  | 9 => u = .agg #[.int .i64 r3, .int .i64 r4, .int .i64 r5, .int .i64 r6, .bool r7, .bool r8, .bool r9, .bool r10]
  | 10 => isNew W5.heap.size 37 #[.slice none 0 0, .int .i64 0] u w'
  | 11 => isNew W5.heap.size 38 #[.int .i64 0, .int .i64 0, .int .i64 0, .int .i64 0, .bool false, .bool false, .bool false, .bool false] u w'
  | _ => False)
  (by kernel_rfl) rfl (by kernel_rfl) (by kernel_rfl) (by kernel_rfl) (any_of (T := (true, [([], []), ([], []), ([1], [1]), ([], []), ([3, 2], [3]), ([], []), ([0, 2, 4, 5, 4], [0, 2, 4, 5]), ([6], [6]), ([7], [7]), ([7], [7]), ([], []), ([], []), ([10, 8, 6, 0, 1, 2, 3, 4, 5, 6, 7, 8, 10, 11], [8, 10]), ([11, 9, 12, 0, 1, 2, 3, 4, 5, 6, 7, 8, 9, 10, 11, 12], [9, 11])])) (by kernel_rfl) (by kernel_rfl)) (fun _ _ _ _ h => h) ?stableg ?stepg ?lagg ?lastg
 case stableg =>
  intro j u W W' h hb
  rcases j with _ | _ | _ | _ | _ | _ | _ | _ | _ | _ | _ | _ | j
  ·exact h
  ·exact h
  ·exact h
  ·exact h
  ·exact h
  ·exact h
  ·exact isPair_below h hb
  ·exact isPair_below h hb
  ·exact isMem_below h hb
  ·exact h
  ·exact isNew_below h hb
  ·exact isNew_below h hb
  ·exact h
 case stepg =>
  intro i hi o ho a W hB hout hneed K hK
  have HBW := Aside0.mk hB
  have hcase : i = 0 ∨ i = 1 ∨ i = 2 ∨ i = 3 ∨ i = 4 ∨ i = 5 ∨ i = 6 ∨ i = 7 ∨ i = 8 ∨ i = 9 ∨ i = 10 ∨ i = 11 := by omega
  clear hB
  rcases hcase with rfl | rfl | rfl | rfl | rfl | rfl | rfl | rfl | rfl | rfl | rfl | rfl
  ·obtain rfl := Option.some.inj ho
   have h3 : a.eval (.tmp 12) = .pointer (some ⟨gm, 0, none⟩) := hout 12 (by decide)
   have h3' := eval_get h3
   have hb := blk_below (w := W5.drew) X1.out.mem HBW.out
   have d0 := (blk_cell hb 0).trans rfl
   have d1 := (blk_cell hb 1).trans rfl
   refine value_ (v := .agg #[.slice Ay m1.length cy, .int .i64 m2]) (w1 := W) (by rfl) rfl ?_ (hK.out _ _ (Below.refl _ _) rfl)
   go_simp
  ·obtain rfl := Option.some.inj ho
   have h3 : a.eval (.tmp 5) = .pointer (some ⟨w.heap.size + 1, 0, none⟩) := hout 5 (by decide)
   have h3' := eval_get h3
   have hb := blk_below (w := W5.drew) ARG.out.f1 HBW.out
   have d0 := (blk_cell hb 0).trans rfl
   have d1 := (blk_cell hb 1).trans rfl
   have d2 := (blk_cell hb 2).trans rfl
   have d3 := (blk_cell hb 3).trans rfl
   have d4 := (blk_cell hb 4).trans rfl
   have d5 := (blk_cell hb 5).trans rfl
   have d6 := (blk_cell hb 6).trans rfl
   have d7 := (blk_cell hb 7).trans rfl
   refine value_ (v := .agg #[.int .i64 x0, .int .i64 x1, .int .i64 x2, .int .i64 x3, .bool x4, .bool x5, .bool x6, .bool x7]) (w1 := W) (by rfl) rfl ?_ (hK.out _ _ (Below.refl _ _) rfl)
   go_simp
  ·obtain rfl := Option.some.inj ho
   have e0 : a.eval (.tmp 40) = _ := hneed 1 (by decide)
   refine goes_ Try.func23 (by kernel_rfl) rfl #[.agg #[.int .i64 x0, .int .i64 x1, .int .i64 x2, .int .i64 x3, .bool x4, .bool x5, .bool x6, .bool x7]] (by rfl) rfl rfl (by simp only [List.map_toArray, List.map_cons, List.map_nil, e0]) ?_
   refine (laws_toCpu.calls x0 x1 x2 x3 x4 x5 x6 x7 y0 y1 y2 y3 y4 y5 y6 y7 W Hcp.out).mono ?_
   rintro e w' ⟨rfl, hb⟩
   exact ⟨_, rfl, hK.out _ _ hb rfl⟩
  ·obtain rfl := Option.some.inj ho
   have h3 : a.eval (.tmp 6) = .pointer (some ⟨w.heap.size + 2, 0, none⟩) := hout 6 (by decide)
   have h3' := eval_get h3
   have hb := blk_below (w := W5.drew) ARG.out.f2 HBW.out
   have d0 := (blk_cell hb 0).trans rfl
   have d1 := (blk_cell hb 1).trans rfl
   refine value_ (v := .agg #[.int .i64 i0, .int .i64 i1]) (w1 := W) (by rfl) rfl ?_ (hK.out _ _ (Below.refl _ _) rfl)
   go_simp
  ·obtain rfl := Option.some.inj ho
   have e0 : a.eval (.tmp 42) = _ := hneed 3 (by decide)
   refine goes_ Try.func58 (by kernel_rfl) rfl #[.agg #[.int .i64 i0, .int .i64 i1]] (by rfl) rfl rfl (by simp only [List.map_toArray, List.map_cons, List.map_nil, e0]) ?_
   refine (laws_toInstr.calls i0 i1 j0 j1 W Hin.out).mono ?_
   rintro e w' ⟨rfl, hb⟩
   exact ⟨_, rfl, hK.out _ _ hb rfl⟩
  ·obtain rfl := Option.some.inj ho
   have h3 : a.eval (.tmp 3) = .int .i64 v3 := hout 3 (by decide)
   have h3' := eval_get h3
   refine value_ (v := .int .i64 v3) (w1 := W) (by rfl) rfl ?_ (hK.out _ _ (Below.refl _ _) rfl)
   go_simp
  ·obtain rfl := Option.some.inj ho
   have eo0 : a.eval (.tmp 39) = _ := hneed 0 (by decide)
   obtain ⟨_, hc0, hC0⟩ := Kd.R_reads' (Kd.R_below (w := W5.drew) X1.out.row HBW.out)
   have eo2 : a.eval (.tmp 41) = _ := hneed 2 (by decide)
   have eo4 : a.eval (.tmp 43) = _ := hneed 4 (by decide)
   have eo5 : a.eval (.tmp 44) = _ := hneed 5 (by decide)
   refine goes_ Try.func59 (by kernel_rfl) rfl #[.agg #[.slice Ay m1.length cy, .int .i64 m2], .agg #[.int .i64 y0, .int .i64 y1, .int .i64 y2, .int .i64 y3, .bool y4, .bool y5, .bool y6, .bool y7], .agg #[.int .i64 j0, .int .i64 j1], .int .i64 v3] (by rfl) rfl rfl (by simp only [List.map_toArray, List.map_cons, List.map_nil, eo0, eo2, eo4, eo5]) ?_
   refine (impl_Exec.calls k Ay cy m1 m2 y0 y1 y2 y3 y4 y5 y6 y7 j0 j1 v3 r1 r2 r3 r4 r5 r6 r7 r8 r9 r10 W hC0 hc0 Hi.out).mono ?_
   rintro e w' ⟨u, rfl, hR, hb⟩
   exact ⟨_, rfl, hK.out _ _ hb ⟨u, rfl, Kd.R_lower hR HBW.out.size⟩⟩
  ·obtain rfl := Option.some.inj ho
   have e5 : isPair _ _ _ _ (a.eval (.tmp 45)) W := hneed 6 (by decide)
   refine value_ (v := a.eval (.tmp 45)) (w1 := W) (by rfl) rfl rfl (hK.out _ _ (Below.refl _ _) e5)
  ·obtain rfl := Option.some.inj ho
   obtain ⟨u, e6, hR⟩ : isPair _ _ _ _ (a.eval (.tmp 38)) W := hneed 7 (by decide)
   refine value_ (v := .agg #[u, .int .i64 r2]) (w1 := W) (by rfl) rfl ?_ (hK.out _ _ (Below.refl _ _) ⟨u, rfl, hR⟩)
   have e6' := eval_get e6
   go_simp
  ·obtain rfl := Option.some.inj ho
   obtain ⟨u, e6, hR⟩ : isPair _ _ _ _ (a.eval (.tmp 38)) W := hneed 7 (by decide)
   refine value_ (v := .agg #[.int .i64 r3, .int .i64 r4, .int .i64 r5, .int .i64 r6, .bool r7, .bool r8, .bool r9, .bool r10]) (w1 := W) (by rfl) rfl ?_ (hK.out _ _ (Below.refl _ _) rfl)
   have e6' := eval_get e6
   go_simp
  ·obtain rfl := Option.some.inj ho
   refine value_ (v := .pointer (some ⟨W.heap.size, 0, none⟩)) (w1 := W.alloc (.cells #[.slice none 0 0, .int .i64 0] 37)) (by rfl) rfl ?_ (hK.out _ _ (below_alloc (Below.refl _ _) _) ⟨_, rfl, HBW.out.size, alloc_at _ _ _ rfl⟩)
   go_simp
  ·obtain rfl := Option.some.inj ho
   refine value_ (v := .pointer (some ⟨W.heap.size, 0, none⟩)) (w1 := W.alloc (.cells #[.int .i64 0, .int .i64 0, .int .i64 0, .int .i64 0, .bool false, .bool false, .bool false, .bool false] 38)) (by rfl) rfl ?_ (hK.out _ _ (below_alloc (Below.refl _ _) _) ⟨_, rfl, HBW.out.size, alloc_at _ _ _ rfl⟩)
   go_simp
 case lagg =>
  intro o ho a W hout hneed
  obtain rfl := Option.some.inj ho
  obtain ⟨u, e6, hR⟩ : isPair _ _ _ _ (a.eval (.tmp 38)) W := hneed 7 (by decide)
  refine ⟨.agg #[.int .i64 r3, .int .i64 r4, .int .i64 r5, .int .i64 r6, .bool r7, .bool r8, .bool r9, .bool r10], rfl, Or.inl ⟨by rfl, ?_⟩⟩
  intro w'
  have e6' := eval_get e6
  go_simp
 intro f vs W6 hB hE
 have HBW := Aside0.mk hB
 clear hB
 have q0 : vs 0 = _ := hE 0 (by decide)
 have q1 : vs 1 = _ := hE 1 (by decide)
 have q2 : vs 2 = _ := hE 2 (by decide)
 have q3 : vs 3 = _ := hE 3 (by decide)
 have q4 : vs 4 = _ := hE 4 (by decide)
 have q5 : vs 5 = _ := hE 5 (by decide)
 obtain ⟨u6g, q6, _⟩ : isPair _ _ _ _ (vs 6) W6 := hE 6 (by decide)
 obtain ⟨u7g, q7, _⟩ : isPair _ _ _ _ (vs 7) W6 := hE 7 (by decide)
 obtain ⟨u8g, q8, hR8⟩ : isMem _ _ _ (vs 8) W6 := hE 8 (by decide)
 have q9 : vs 9 = _ := hE 9 (by decide)
 obtain ⟨g1g, q10, hg1, hb1⟩ : isNew _ _ _ (vs 10) W6 := hE 10 (by decide)
 obtain ⟨g2g, q11, hg2, hb2⟩ : isNew _ _ _ (vs 11) W6 := hE 11 (by decide)
 show wpAnyLast _ _ _ _ _ _ (f + 2) _ (putAll _ [(39, vs 0), (40, vs 1), (41, vs 2), (42, vs 3), (43, vs 4), (44, vs 5), (45, vs 6), (38, vs 7), (46, vs 8), (47, vs 9), (13, vs 10), (14, vs 11)]) W6
 rw [q0, q1, q2, q3, q4, q5, q6, q7, q8, q9, q10, q11]
 clear q0 q1 q2 q3 q4 q5 q6 q7 q8 q9 q10 q11 hE
 refine norm_ (a' := ?_) ?_ ?_
 rotate_left
 ·simp only [putAll, Act.put, List.setIfInBounds_toArray, List.set_cons_zero, List.set_cons_succ]
  rfl
 obtain ⟨Ag, cg, rfl⟩ := Kd.R_slice hR8
 have hgg : g1g ≠ g2g := blk_ne hb1 hb2 (by decide)
 have hgg' : g2g ≠ g1g := fun h => hgg h.symm
 refine one_ (i := 12) (N := none) #[true, true, true, true, true, true, true, true, true, true, true, true, true, false] rfl rfl (by kernel_rfl) (by decide) (fun K hK => ?_)
 refine skip_ (w1 := ?_) (by rfl) rfl ?_ ?_
 rotate_left
 ·skip
  have r0 : W6.cell? ⟨g1g, 0, none⟩ = some (.slice none 0 0) := (blk_cell hb1 0).trans rfl
  have f0 := blk_frozen hb1 0
  have r1 : W6.cell? ⟨g1g, 1, none⟩ = some (.int .i64 0) := (blk_cell hb1 1).trans rfl
  have f1 := blk_frozen hb1 1
  go_simp
  rfl
 refine hK.out _ _ trivial (fun _ => ?_)
 clear hK K
 refine one_ (i := 13) (N := none) #[true, true, true, true, true, true, true, true, true, true, true, true, true, true] rfl rfl (by kernel_rfl) (by decide) (fun K hK => ?_)
 refine skip_ (w1 := ?_) (by rfl) rfl ?_ ?_
 rotate_left
 ·skip
  have r0 : W6.cell? ⟨g2g, 0, none⟩ = some (.int .i64 0) := (blk_cell hb2 0).trans rfl
  have f0 := blk_frozen hb2 0
  have r1 : W6.cell? ⟨g2g, 1, none⟩ = some (.int .i64 0) := (blk_cell hb2 1).trans rfl
  have f1 := blk_frozen hb2 1
  have r2 : W6.cell? ⟨g2g, 2, none⟩ = some (.int .i64 0) := (blk_cell hb2 2).trans rfl
  have f2 := blk_frozen hb2 2
  have r3 : W6.cell? ⟨g2g, 3, none⟩ = some (.int .i64 0) := (blk_cell hb2 3).trans rfl
  have f3 := blk_frozen hb2 3
  have r4 : W6.cell? ⟨g2g, 4, none⟩ = some (.bool false) := (blk_cell hb2 4).trans rfl
  have f4 := blk_frozen hb2 4
  have r5 : W6.cell? ⟨g2g, 5, none⟩ = some (.bool false) := (blk_cell hb2 5).trans rfl
  have f5 := blk_frozen hb2 5
  have r6 : W6.cell? ⟨g2g, 6, none⟩ = some (.bool false) := (blk_cell hb2 6).trans rfl
  have f6 := blk_frozen hb2 6
  have r7 : W6.cell? ⟨g2g, 7, none⟩ = some (.bool false) := (blk_cell hb2 7).trans rfl
  have f7 := blk_frozen hb2 7
  go_simp
  rfl
 refine hK.out _ _ trivial (fun _ => ?_)
 clear hK K
 refine done_ (by kernel_rfl) ?_
 obtain ⟨A_, c_, e_, P, Kp, B⟩ := pair_made ARG.out.below HBW.out hR8 hb1 hb2 hg1 hg2 r2 (.int .i64 r3) (.int .i64 r4) (.int .i64 r5) (.int .i64 r6) (.bool r7) (.bool r8) (.bool r9) (.bool r10)
 cases e_
 have hz_W7 : W5.heap.size ≤ _ := Kp.1
 have ARG_ := Aside0.mk (ARG.out.kept Kp (B) (fun _ _ h => h))
 have Ps_ := Aside0.mk (Ps.out.kept Kp (fun _ _ _ h => h))
 have X1_ := Aside0.mk (X1.out.kept Kp (fun _ _ _ h => h))
 clear ARG Ps X1
 have ARG := ARG_
 clear ARG_
 have Ps := Ps_
 clear Ps_
 have X1 := X1_
 clear X1_
 have Pg := Aside0.mk P
 clear P Kp B hR8 hb1 hg1 HBW hb2 hg2 hgg hgg'
 generalize hW_ : ((((((((((W6.setCell ⟨g1g, 0, none⟩ (.slice Ag r1.length cg)).setCell ⟨g1g, 1, none⟩ (.int .i64 r2)).setCell ⟨g2g, 0, none⟩ (.int .i64 r3)).setCell ⟨g2g, 1, none⟩ (.int .i64 r4)).setCell ⟨g2g, 2, none⟩ (.int .i64 r5)).setCell ⟨g2g, 3, none⟩ (.int .i64 r6)).setCell ⟨g2g, 4, none⟩ (.bool r7)).setCell ⟨g2g, 5, none⟩ (.bool r8)).setCell ⟨g2g, 6, none⟩ (.bool r9)).setCell ⟨g2g, 7, none⟩ (.bool r10)) = W7 at *
 clear hW_
 have q0_ : W7.cell? ⟨g1g, 0, none⟩ = some (.slice Ag r1.length cg) := (blk_cell Pg.out.mem 0).trans rfl
 have q1_ : W7.cell? ⟨g1g, 1, none⟩ = some (.int .i64 r2) := (blk_cell Pg.out.mem 1).trans rfl
 have q2_ : W7.cell? ⟨g1s, 0, none⟩ = some (.slice As r1.length cs) := (blk_cell Ps.out.mem 0).trans rfl
 have q3_ : W7.cell? ⟨g1s, 1, none⟩ = some (.int .i64 r2) := (blk_cell Ps.out.mem 1).trans rfl
 go_wp2_with fail
 obtain ⟨_, hc1_, hC1_⟩ := Kd.R_reads' Pg.out.row
 obtain ⟨_, hc2_, hC2_⟩ := Kd.R_reads' Ps.out.row
 refine (laws_eqMem.calls k Ag cg r1 r2 As cs r1 r2 true _ hC1_ hc1_ hC2_ hc2_ He1.out).mono ?_
 rintro e W8 ⟨rfl, hb⟩
 clear hc1_ hC1_ hc2_ hC2_; clear q0_ q1_ q2_ q3_
 have K_ := Kept.of_below hb (fun _ => False)
 have ARG_ := Aside0.mk (ARG.out.kept K_ (below_step ARG.out.below hb) (fun _ _ h => h))
 have Ps_ := Aside0.mk (Ps.out.kept K_ (fun _ _ _ h => h))
 have X1_ := Aside0.mk (X1.out.kept K_ (fun _ _ _ h => h))
 have Pg_ := Aside0.mk (Pg.out.kept K_ (fun _ _ _ h => h))
 clear ARG Ps X1 Pg
 have ARG := ARG_
 clear ARG_
 have Ps := Ps_
 clear Ps_
 have X1 := X1_
 clear X1_
 have Pg := Pg_
 clear Pg_; clear K_; clear hb
 have q0_ : W8.cell? ⟨g2g, 0, none⟩ = some (.int .i64 r3) := (blk_cell Pg.out.cpu 0).trans rfl
 have q1_ : W8.cell? ⟨g2g, 1, none⟩ = some (.int .i64 r4) := (blk_cell Pg.out.cpu 1).trans rfl
 have q2_ : W8.cell? ⟨g2g, 2, none⟩ = some (.int .i64 r5) := (blk_cell Pg.out.cpu 2).trans rfl
 have q3_ : W8.cell? ⟨g2g, 3, none⟩ = some (.int .i64 r6) := (blk_cell Pg.out.cpu 3).trans rfl
 have q4_ : W8.cell? ⟨g2g, 4, none⟩ = some (.bool r7) := (blk_cell Pg.out.cpu 4).trans rfl
 have q5_ : W8.cell? ⟨g2g, 5, none⟩ = some (.bool r8) := (blk_cell Pg.out.cpu 5).trans rfl
 have q6_ : W8.cell? ⟨g2g, 6, none⟩ = some (.bool r9) := (blk_cell Pg.out.cpu 6).trans rfl
 have q7_ : W8.cell? ⟨g2g, 7, none⟩ = some (.bool r10) := (blk_cell Pg.out.cpu 7).trans rfl
 have q8_ : W8.cell? ⟨g2s, 0, none⟩ = some (.int .i64 r3) := (blk_cell Ps.out.cpu 0).trans rfl
 have q9_ : W8.cell? ⟨g2s, 1, none⟩ = some (.int .i64 r4) := (blk_cell Ps.out.cpu 1).trans rfl
 have q10_ : W8.cell? ⟨g2s, 2, none⟩ = some (.int .i64 r5) := (blk_cell Ps.out.cpu 2).trans rfl
 have q11_ : W8.cell? ⟨g2s, 3, none⟩ = some (.int .i64 r6) := (blk_cell Ps.out.cpu 3).trans rfl
 have q12_ : W8.cell? ⟨g2s, 4, none⟩ = some (.bool r7) := (blk_cell Ps.out.cpu 4).trans rfl
 have q13_ : W8.cell? ⟨g2s, 5, none⟩ = some (.bool r8) := (blk_cell Ps.out.cpu 5).trans rfl
 have q14_ : W8.cell? ⟨g2s, 6, none⟩ = some (.bool r9) := (blk_cell Ps.out.cpu 6).trans rfl
 have q15_ : W8.cell? ⟨g2s, 7, none⟩ = some (.bool r10) := (blk_cell Ps.out.cpu 7).trans rfl
 go_wp2_with fail
 refine (laws_eqCpu.calls r3 r4 r5 r6 r7 r8 r9 r10 r3 r4 r5 r6 r7 r8 r9 r10 true _ He2.out).mono ?_
 rintro e W9 ⟨rfl, hb⟩
 clear q0_ q1_ q2_ q3_ q4_ q5_ q6_ q7_ q8_ q9_ q10_ q11_ q12_ q13_ q14_ q15_
 have K_ := Kept.of_below hb (fun _ => False)
 have ARG_ := Aside0.mk (ARG.out.kept K_ (below_step ARG.out.below hb) (fun _ _ h => h))
 have Ps_ := Aside0.mk (Ps.out.kept K_ (fun _ _ _ h => h))
 have X1_ := Aside0.mk (X1.out.kept K_ (fun _ _ _ h => h))
 have Pg_ := Aside0.mk (Pg.out.kept K_ (fun _ _ _ h => h))
 clear ARG Ps X1 Pg
 have ARG := ARG_
 clear ARG_
 have Ps := Ps_
 clear Ps_
 have X1 := X1_
 clear X1_
 have Pg := Pg_
 clear Pg_; clear K_; clear hb
 go_wp2
 refine start_ (n := 5) (S := fun w' => w'.heap[gm]? = some (.cells #[.slice Ay m1.length cy, .int .i64 m2] 37 (0, 0)) ∧ w'.heap[w.heap.size]? = some (.cells #[.slice A1 l1.length c1, .int .i64 b] 33 (0, 0))) (ds := []) #[false, false, false, false, false] (by kernel_rfl) rfl rfl ⟨X1.out.mem, ARG.out.f0⟩ (fun hHeld => ?_)
 refine take_ (i := 0) (N := some 58) (v := ?_) (a' := ?_) #[true, false, false, false, false] rfl rfl (by kernel_rfl) (fun _ _ _ h => h) (Or.inl ⟨by rfl, ?_⟩) hHeld ?_ ?_
 rotate_left
 ·rintro w' ⟨s0, s1⟩
  have a0 := (blk_cell s0 0).trans rfl
  have a1 := (blk_cell s0 1).trans rfl
  clear s0 s1
  go_simp
  with_reducible rfl
 rotate_left
 ·simp only [Act.put, List.setIfInBounds_toArray, List.set_cons_zero, List.set_cons_succ, i64_w, i32_w]
  rfl
 refine take_ (i := 1) (N := some 59) (v := ?_) (a' := ?_) #[true, true, false, false, false] rfl rfl (by kernel_rfl) (fun _ _ _ h => h) (Or.inl ⟨by rfl, ?_⟩) hHeld ?_ ?_
 rotate_left
 ·rintro w' ⟨s0, s1⟩
  have a0 := (blk_cell s1 0).trans rfl
  have a1 := (blk_cell s1 1).trans rfl
  clear s0 s1
  go_simp
  with_reducible rfl
 rotate_left
 ·simp only [Act.put, List.setIfInBounds_toArray, List.set_cons_zero, List.set_cons_succ, i64_w, i32_w]
  rfl
 refine one_ (i := 2) (N := some 60) #[true, true, true, false, false] rfl rfl (by kernel_rfl) (by decide) (fun K hK => ?_)
 refine goes_ Try.func22 (by kernel_rfl) rfl #[.agg #[.slice A1 l1.length c1, .int .i64 b]] (by rfl) rfl rfl (by (try simp only [List.map_toArray, List.map_cons, List.map_nil]); first | done | rfl) ?_
 refine (laws_toMem.calls k A1 c1 l1 b m1 m2 W9.drew (Kd.C_below HR1.out (below_drew1 ARG.out.below)) HC1.out Hm.out).mono ?_
 rintro e W10 ⟨u, rfl, hS_, hb⟩
 refine ⟨_, rfl, ?_⟩
 have K_ : Kept W9 W10 (fun _ => False) := ⟨hb.size, fun i hi _ => hb.block i hi⟩
 have ARG_ := Aside0.mk (ARG.out.kept K_ (below_step (W := W9.drew) (below_drew1 ARG.out.below) hb) (fun _ _ h => h))
 have Ps_ := Aside0.mk (Ps.out.kept K_ (fun _ _ _ h => h))
 have X1_ := Aside0.mk (X1.out.kept K_ (fun _ _ _ h => h))
 have Pg_ := Aside0.mk (Pg.out.kept K_ (fun _ _ _ h => h))
 clear ARG Ps X1 Pg
 have ARG := ARG_
 clear ARG_
 have Ps := Ps_
 clear Ps_
 have X1 := X1_
 clear X1_
 have Pg := Pg_
 clear Pg_; clear K_ hb hHeld
 obtain ⟨Az, cz, rfl⟩ := Kd.R_slice hS_
 refine hK.out _ _ ⟨X1.out.mem, ARG.out.f0⟩ (fun hHeld => ?_)
 clear hK K
 refine norm_ (a' := ?_) ?_ ?_
 rotate_left
 ·show Act.put _ (some 60) _ = _
  simp only [Act.put, List.setIfInBounds_toArray, List.set_cons_zero, List.set_cons_succ, i64_w, i32_w]
  rfl
 refine one_ (i := 3) (N := some 61) #[true, true, true, true, false] rfl rfl (by kernel_rfl) (by decide) (fun K hK => ?_)
 refine goes_ Try.func25 (by kernel_rfl) rfl #[.agg #[.slice Ay m1.length cy, .int .i64 m2], .agg #[.slice Az m1.length cz, .int .i64 m2]] (by rfl) rfl rfl (by (try simp only [List.map_toArray, List.map_cons, List.map_nil]); first | done | rfl) ?_
 obtain ⟨_, hc1_, hC1_⟩ := Kd.R_reads' X1.out.row
 obtain ⟨_, hc2_, hC2_⟩ := Kd.R_reads' hS_
 refine (laws_eqMem.calls k Ay cy m1 m2 Az cz m1 m2 true _ hC1_ hc1_ hC2_ hc2_ He3.out).mono ?_
 rintro e W11 ⟨rfl, hb⟩
 refine ⟨_, rfl, ?_⟩
 clear hc1_ hC1_ hc2_ hC2_ hS_ hHeld
 have K_ := Kept.of_below hb (fun _ => False)
 have ARG_ := Aside0.mk (ARG.out.kept K_ (below_step ARG.out.below hb) (fun _ _ h => h))
 have Ps_ := Aside0.mk (Ps.out.kept K_ (fun _ _ _ h => h))
 have X1_ := Aside0.mk (X1.out.kept K_ (fun _ _ _ h => h))
 have Pg_ := Aside0.mk (Pg.out.kept K_ (fun _ _ _ h => h))
 clear ARG Ps X1 Pg
 have ARG := ARG_
 clear ARG_
 have Ps := Ps_
 clear Ps_
 have X1 := X1_
 clear X1_
 have Pg := Pg_
 clear Pg_; clear K_; clear hb
 refine hK.out _ _ ⟨X1.out.mem, ARG.out.f0⟩ (fun hHeld => ?_)
 clear hK K hHeld
 refine norm_ (a' := ?_) ?_ ?_
 rotate_left
 ·show Act.put _ (some 61) _ = _
  simp only [Act.put, List.setIfInBounds_toArray, List.set_cons_zero, List.set_cons_succ, i64_w, i32_w]
  rfl
 refine pure_ (i := 4) (N := some 62) (v := ?_) (a' := ?_) #[true, true, true, true, true] rfl rfl (by kernel_rfl) (fun _ _ _ h => h) (Or.inl ⟨by rfl, ?_⟩) ?_ ?_
 rotate_left
 ·intro w'
  go_simp
  with_reducible rfl
 rotate_left
 ·simp only [Act.put, List.setIfInBounds_toArray, List.set_cons_zero, List.set_cons_succ, i64_w, i32_w]
  rfl
 refine done_ (by kernel_rfl) ?_
 have q0_ : W11.cell? ⟨gm, 0, none⟩ = some (.slice Ay m1.length cy) := (blk_cell X1.out.mem 0).trans rfl
 have q1_ : W11.cell? ⟨gm, 1, none⟩ = some (.int .i64 m2) := (blk_cell X1.out.mem 1).trans rfl
 go_wp2_with fail
 refine (laws_markMem.calls k _ (.slice Ay m1.length cy) m1 m2 1 ka na w W11 ARG.out.below X1.out.row Hka.out).mono ?_
 rintro e W12 ⟨rfl, _, hb, hk⟩
 clear q0_ q1_
 have ARG_ := Aside0.mk (ARG.out.kept hk (hb) (fun k hk h => by omega))
 have Ps_ := Aside0.mk (Ps.out.kept hk (fun k h1 h2 h => by omega))
 have Pg_ := Aside0.mk (Pg.out.kept hk (fun k h1 h2 h => by omega))
 clear ARG Ps Pg
 have ARG := ARG_
 clear ARG_
 have Ps := Ps_
 clear Ps_
 have Pg := Pg_
 clear Pg_; clear X1 hk hb
 have ht1 := Ht1.out
 have q0_ : W12.cell? ⟨g1g, 0, none⟩ = some (.slice Ag r1.length cg) := (blk_cell Pg.out.mem 0).trans rfl
 have q1_ : W12.cell? ⟨g1g, 1, none⟩ = some (.int .i64 r2) := (blk_cell Pg.out.mem 1).trans rfl
 have q2_ : W12.cell? ⟨g1s, 0, none⟩ = some (.slice As r1.length cs) := (blk_cell Ps.out.mem 0).trans rfl
 have q3_ : W12.cell? ⟨g1s, 1, none⟩ = some (.int .i64 r2) := (blk_cell Ps.out.mem 1).trans rfl
 go_wp2_with fail
 obtain ⟨_, hc1_, hC1_⟩ := Kd.R_reads' Pg.out.row
 obtain ⟨_, hc2_, hC2_⟩ := Kd.R_reads' Ps.out.row
 refine (laws_eqMem.calls k Ag cg r1 r2 As cs r1 r2 true _ hC1_ hc1_ hC2_ hc2_ He1.out).mono ?_
 rintro e W13 ⟨rfl, hb⟩
 clear hc1_ hC1_ hc2_ hC2_; clear q0_ q1_ q2_ q3_
 have K_ := Kept.of_below hb (fun _ => False)
 have ARG_ := Aside0.mk (ARG.out.kept K_ (below_step ARG.out.below hb) (fun _ _ h => h))
 have Ps_ := Aside0.mk (Ps.out.kept K_ (fun _ _ _ h => h))
 have Pg_ := Aside0.mk (Pg.out.kept K_ (fun _ _ _ h => h))
 clear ARG Ps Pg
 have ARG := ARG_
 clear ARG_
 have Ps := Ps_
 clear Ps_
 have Pg := Pg_
 clear Pg_; clear K_; clear hb
 have q0_ : W13.cell? ⟨g2g, 0, none⟩ = some (.int .i64 r3) := (blk_cell Pg.out.cpu 0).trans rfl
 have q1_ : W13.cell? ⟨g2g, 1, none⟩ = some (.int .i64 r4) := (blk_cell Pg.out.cpu 1).trans rfl
 have q2_ : W13.cell? ⟨g2g, 2, none⟩ = some (.int .i64 r5) := (blk_cell Pg.out.cpu 2).trans rfl
 have q3_ : W13.cell? ⟨g2g, 3, none⟩ = some (.int .i64 r6) := (blk_cell Pg.out.cpu 3).trans rfl
 have q4_ : W13.cell? ⟨g2g, 4, none⟩ = some (.bool r7) := (blk_cell Pg.out.cpu 4).trans rfl
 have q5_ : W13.cell? ⟨g2g, 5, none⟩ = some (.bool r8) := (blk_cell Pg.out.cpu 5).trans rfl
 have q6_ : W13.cell? ⟨g2g, 6, none⟩ = some (.bool r9) := (blk_cell Pg.out.cpu 6).trans rfl
 have q7_ : W13.cell? ⟨g2g, 7, none⟩ = some (.bool r10) := (blk_cell Pg.out.cpu 7).trans rfl
 have q8_ : W13.cell? ⟨g2s, 0, none⟩ = some (.int .i64 r3) := (blk_cell Ps.out.cpu 0).trans rfl
 have q9_ : W13.cell? ⟨g2s, 1, none⟩ = some (.int .i64 r4) := (blk_cell Ps.out.cpu 1).trans rfl
 have q10_ : W13.cell? ⟨g2s, 2, none⟩ = some (.int .i64 r5) := (blk_cell Ps.out.cpu 2).trans rfl
 have q11_ : W13.cell? ⟨g2s, 3, none⟩ = some (.int .i64 r6) := (blk_cell Ps.out.cpu 3).trans rfl
 have q12_ : W13.cell? ⟨g2s, 4, none⟩ = some (.bool r7) := (blk_cell Ps.out.cpu 4).trans rfl
 have q13_ : W13.cell? ⟨g2s, 5, none⟩ = some (.bool r8) := (blk_cell Ps.out.cpu 5).trans rfl
 have q14_ : W13.cell? ⟨g2s, 6, none⟩ = some (.bool r9) := (blk_cell Ps.out.cpu 6).trans rfl
 have q15_ : W13.cell? ⟨g2s, 7, none⟩ = some (.bool r10) := (blk_cell Ps.out.cpu 7).trans rfl
 go_wp2_with fail
 refine (laws_eqCpu.calls r3 r4 r5 r6 r7 r8 r9 r10 r3 r4 r5 r6 r7 r8 r9 r10 true _ He2.out).mono ?_
 rintro e W14 ⟨rfl, hb⟩
 clear q0_ q1_ q2_ q3_ q4_ q5_ q6_ q7_ q8_ q9_ q10_ q11_ q12_ q13_ q14_ q15_
 have K_ := Kept.of_below hb (fun _ => False)
 have ARG_ := Aside0.mk (ARG.out.kept K_ (below_step ARG.out.below hb) (fun _ _ h => h))
 have Ps_ := Aside0.mk (Ps.out.kept K_ (fun _ _ _ h => h))
 have Pg_ := Aside0.mk (Pg.out.kept K_ (fun _ _ _ h => h))
 clear ARG Ps Pg
 have ARG := ARG_
 clear ARG_
 have Ps := Ps_
 clear Ps_
 have Pg := Pg_
 clear Pg_; clear K_; clear hb
 have q0_ : W14.cell? ⟨g1g, 0, none⟩ = some (.slice Ag r1.length cg) := (blk_cell Pg.out.mem 0).trans rfl
 have q1_ : W14.cell? ⟨g1g, 1, none⟩ = some (.int .i64 r2) := (blk_cell Pg.out.mem 1).trans rfl
 go_wp2_with fail
 refine (laws_markMem.calls k _ (.slice Ag r1.length cg) r1 r2 1 kr nr w W14 ARG.out.below Pg.out.row Hkr.out).mono ?_
 rintro e W15 ⟨rfl, hR, hb, hk⟩
 clear q0_ q1_
 have hl : r1.length = nr.length := (Kd.R_reads' hR).1
 have Og : Aside0 (OwnW w W15 g1g Ag cg nr r2) := ⟨⟨by rw [← hl]; exact blk_kept Pg.out.mem hk (fun h => h.2.2.1 rfl), _, by rw [← hl]; exact hR⟩⟩
 have ARG_ := Aside0.mk (ARG.out.kept hk (hb) (fun k hk h => by omega))
 have Ps_ := Aside0.mk (Ps.out.kept hk (fun k h1 h2 h => by omega))
 clear ARG Ps
 have ARG := ARG_
 clear ARG_
 have Ps := Ps_
 clear Ps_; clear Pg hk hb hR hl
 have q0_ : W15.cell? ⟨g1g, 0, none⟩ = some (.slice Ag nr.length cg) := (blk_cell Og.out.mem 0).trans rfl
 have q1_ : W15.cell? ⟨g1g, 1, none⟩ = some (.int .i64 r2) := (blk_cell Og.out.mem 1).trans rfl
 have ht2 := Ht2.out
 have hkk : (kr != kr) = false := by simp
 go_wp2_with fail
 refine (laws_heldMem.calls k Ag cg nr r2 1 kr _ Og.out.reads.2 Og.out.reads.1 Hh.out).mono ?_
 rintro e W16 ⟨rfl, hb⟩
 clear q0_ q1_
 have K_ := Kept.of_below hb (fun _ => False)
 have ARG_ := Aside0.mk (ARG.out.kept K_ (below_step ARG.out.below hb) (fun _ _ h => h))
 have Ps_ := Aside0.mk (Ps.out.kept K_ (fun _ _ _ h => h))
 have Og_ := Aside0.mk (Og.out.kept K_ (fun _ _ _ h => h))
 clear ARG Ps Og
 have ARG := ARG_
 clear ARG_
 have Ps := Ps_
 clear Ps_
 have Og := Og_
 clear Og_; clear K_; clear hb
 go_wp2
 clear ht2 hkk
 refine free_ (n := 15) (e := 13) (g := 10) (T := (true, [([], []), ([0], [0]), ([], []), ([2, 1], [2]), ([], []), ([4, 3], [4]), ([], []), ([1, 3, 5, 6, 5], [1, 3, 5, 6]), ([7], [7]), ([8], [8]), ([8], [8]), ([], []), ([], []), ([11, 9, 7, 0, 1, 2, 3, 4, 5, 6, 7, 8, 9, 11, 12], [9, 11]), ([12, 10, 13, 0, 1, 2, 3, 4, 5, 6, 7, 8, 9, 10, 11, 12, 13], [10, 12])])) #[true, true, true, true, true, true, true, true, true, true, true, true, true, false, false] #[true, true, true, true, true, true, true, true, true, true, false, true, true, false, false] [92, 93, 94, 95, 96, 97, 98, 99, 91, 100, 101, 18, 19] (fun j u w' => match j with
  | 0 => u = .agg #[.slice A1 l1.length c1, .int .i64 b]
  | 1 => isMem W16.heap.size m1 m2 u w'
  | 2 => u = .agg #[.int .i64 x0, .int .i64 x1, .int .i64 x2, .int .i64 x3, .bool x4, .bool x5, .bool x6, .bool x7]
  | 3 => u = .agg #[.int .i64 y0, .int .i64 y1, .int .i64 y2, .int .i64 y3, .bool y4, .bool y5, .bool y6, .bool y7]
  | 4 => u = .agg #[.int .i64 i0, .int .i64 i1]
  | 5 => u = .agg #[.int .i64 j0, .int .i64 j1]
  | 6 => u = .int .i64 v3
  | 7 => isPair W16.heap.size r1 r2 (.agg #[.int .i64 r3, .int .i64 r4, .int .i64 r5, .int .i64 r6, .bool r7, .bool r8, .bool r9, .bool r10]) u w'
  | 8 => isPair W16.heap.size r1 r2 (.agg #[.int .i64 r3, .int .i64 r4, .int .i64 r5, .int .i64 r6, .bool r7, .bool r8, .bool r9, .bool r10]) u w'
  | 9 => isMem W16.heap.size r1 r2 u w'
  | 10 => u = .agg #[.int .i64 r3, .int .i64 r4, .int .i64 r5, .int .i64 r6, .bool r7, .bool r8, .bool r9, .bool r10]
  | 11 => isNew W16.heap.size 37 #[.slice none 0 0, .int .i64 0] u w'
  | 12 => isNew W16.heap.size 38 #[.int .i64 0, .int .i64 0, .int .i64 0, .int .i64 0, .bool false, .bool false, .bool false, .bool false] u w'
  | _ => False)
  (by kernel_rfl) rfl (by kernel_rfl) (by kernel_rfl) (by kernel_rfl) (any_of (T := (true, [([], []), ([0], [0]), ([], []), ([2, 1], [2]), ([], []), ([4, 3], [4]), ([], []), ([1, 3, 5, 6, 5], [1, 3, 5, 6]), ([7], [7]), ([8], [8]), ([8], [8]), ([], []), ([], []), ([11, 9, 7, 0, 1, 2, 3, 4, 5, 6, 7, 8, 9, 11, 12], [9, 11]), ([12, 10, 13, 0, 1, 2, 3, 4, 5, 6, 7, 8, 9, 10, 11, 12, 13], [10, 12])])) (by kernel_rfl) (by kernel_rfl)) (fun _ _ _ _ h => h) ?stableh ?steph ?lagh ?lasth
 case stableh =>
  intro j u W W' h hb
  rcases j with _ | _ | _ | _ | _ | _ | _ | _ | _ | _ | _ | _ | _ | j
  ·exact h
  ·exact isMem_below h hb
  ·exact h
  ·exact h
  ·exact h
  ·exact h
  ·exact h
  ·exact isPair_below h hb
  ·exact isPair_below h hb
  ·exact isMem_below h hb
  ·exact h
  ·exact isNew_below h hb
  ·exact isNew_below h hb
  ·exact h
 case steph =>
  intro i hi o ho a W hB hout hneed K hK
  have HBW := Aside0.mk hB
  have hcase : i = 0 ∨ i = 1 ∨ i = 2 ∨ i = 3 ∨ i = 4 ∨ i = 5 ∨ i = 6 ∨ i = 7 ∨ i = 8 ∨ i = 9 ∨ i = 10 ∨ i = 11 ∨ i = 12 := by omega
  clear hB
  rcases hcase with rfl | rfl | rfl | rfl | rfl | rfl | rfl | rfl | rfl | rfl | rfl | rfl | rfl
  ·obtain rfl := Option.some.inj ho
   have h3 : a.eval (.tmp 4) = .pointer (some ⟨w.heap.size, 0, none⟩) := hout 4 (by decide)
   have h3' := eval_get h3
   have hb := blk_below (w := W16.drew) ARG.out.f0 HBW.out
   have d0 := (blk_cell hb 0).trans rfl
   have d1 := (blk_cell hb 1).trans rfl
   refine value_ (v := .agg #[.slice A1 l1.length c1, .int .i64 b]) (w1 := W) (by rfl) rfl ?_ (hK.out _ _ (Below.refl _ _) rfl)
   go_simp
  ·obtain rfl := Option.some.inj ho
   have e0 : a.eval (.tmp 92) = _ := hneed 0 (by decide)
   refine goes_ Try.func22 (by kernel_rfl) rfl #[.agg #[.slice A1 l1.length c1, .int .i64 b]] (by rfl) rfl rfl (by simp only [List.map_toArray, List.map_cons, List.map_nil, e0]) ?_
   refine (laws_toMem.calls k A1 c1 l1 b m1 m2 W (Kd.C_below HR1.out (below_step (w := w) (W := W16.drew) (below_drew1 ARG.out.below) HBW.out)) HC1.out Hm.out).mono ?_
   rintro e w' ⟨u, rfl, hR, hb⟩
   exact ⟨_, rfl, hK.out _ _ hb ⟨u, rfl, Kd.R_lower hR HBW.out.size⟩⟩
  ·obtain rfl := Option.some.inj ho
   have h3 : a.eval (.tmp 5) = .pointer (some ⟨w.heap.size + 1, 0, none⟩) := hout 5 (by decide)
   have h3' := eval_get h3
   have hb := blk_below (w := W16.drew) ARG.out.f1 HBW.out
   have d0 := (blk_cell hb 0).trans rfl
   have d1 := (blk_cell hb 1).trans rfl
   have d2 := (blk_cell hb 2).trans rfl
   have d3 := (blk_cell hb 3).trans rfl
   have d4 := (blk_cell hb 4).trans rfl
   have d5 := (blk_cell hb 5).trans rfl
   have d6 := (blk_cell hb 6).trans rfl
   have d7 := (blk_cell hb 7).trans rfl
   refine value_ (v := .agg #[.int .i64 x0, .int .i64 x1, .int .i64 x2, .int .i64 x3, .bool x4, .bool x5, .bool x6, .bool x7]) (w1 := W) (by rfl) rfl ?_ (hK.out _ _ (Below.refl _ _) rfl)
   go_simp
  ·obtain rfl := Option.some.inj ho
   have e0 : a.eval (.tmp 94) = _ := hneed 2 (by decide)
   refine goes_ Try.func23 (by kernel_rfl) rfl #[.agg #[.int .i64 x0, .int .i64 x1, .int .i64 x2, .int .i64 x3, .bool x4, .bool x5, .bool x6, .bool x7]] (by rfl) rfl rfl (by simp only [List.map_toArray, List.map_cons, List.map_nil, e0]) ?_
   refine (laws_toCpu.calls x0 x1 x2 x3 x4 x5 x6 x7 y0 y1 y2 y3 y4 y5 y6 y7 W Hcp.out).mono ?_
   rintro e w' ⟨rfl, hb⟩
   exact ⟨_, rfl, hK.out _ _ hb rfl⟩
  ·obtain rfl := Option.some.inj ho
   have h3 : a.eval (.tmp 6) = .pointer (some ⟨w.heap.size + 2, 0, none⟩) := hout 6 (by decide)
   have h3' := eval_get h3
   have hb := blk_below (w := W16.drew) ARG.out.f2 HBW.out
   have d0 := (blk_cell hb 0).trans rfl
   have d1 := (blk_cell hb 1).trans rfl
   refine value_ (v := .agg #[.int .i64 i0, .int .i64 i1]) (w1 := W) (by rfl) rfl ?_ (hK.out _ _ (Below.refl _ _) rfl)
   go_simp
  ·obtain rfl := Option.some.inj ho
   have e0 : a.eval (.tmp 96) = _ := hneed 4 (by decide)
   refine goes_ Try.func58 (by kernel_rfl) rfl #[.agg #[.int .i64 i0, .int .i64 i1]] (by rfl) rfl rfl (by simp only [List.map_toArray, List.map_cons, List.map_nil, e0]) ?_
   refine (laws_toInstr.calls i0 i1 j0 j1 W Hin.out).mono ?_
   rintro e w' ⟨rfl, hb⟩
   exact ⟨_, rfl, hK.out _ _ hb rfl⟩
  ·obtain rfl := Option.some.inj ho
   have h3 : a.eval (.tmp 3) = .int .i64 v3 := hout 3 (by decide)
   have h3' := eval_get h3
   refine value_ (v := .int .i64 v3) (w1 := W) (by rfl) rfl ?_ (hK.out _ _ (Below.refl _ _) rfl)
   go_simp
  ·obtain rfl := Option.some.inj ho
   obtain ⟨um, em, hRm⟩ : isMem _ _ _ (a.eval (.tmp 93)) W := hneed 1 (by decide)
   obtain ⟨Am, cm, rfl⟩ := Kd.R_slice hRm
   obtain ⟨_, hcm, hCm⟩ := Kd.R_reads' hRm
   have eo3 : a.eval (.tmp 95) = _ := hneed 3 (by decide)
   have eo5 : a.eval (.tmp 97) = _ := hneed 5 (by decide)
   have eo6 : a.eval (.tmp 98) = _ := hneed 6 (by decide)
   refine goes_ Try.func59 (by kernel_rfl) rfl #[.agg #[.slice Am m1.length cm, .int .i64 m2], .agg #[.int .i64 y0, .int .i64 y1, .int .i64 y2, .int .i64 y3, .bool y4, .bool y5, .bool y6, .bool y7], .agg #[.int .i64 j0, .int .i64 j1], .int .i64 v3] (by rfl) rfl rfl (by simp only [List.map_toArray, List.map_cons, List.map_nil, em, eo3, eo5, eo6]) ?_
   refine (impl_Exec.calls k Am cm m1 m2 y0 y1 y2 y3 y4 y5 y6 y7 j0 j1 v3 r1 r2 r3 r4 r5 r6 r7 r8 r9 r10 W hCm hcm Hi.out).mono ?_
   rintro e w' ⟨u, rfl, hR, hb⟩
   exact ⟨_, rfl, hK.out _ _ hb ⟨u, rfl, Kd.R_lower hR HBW.out.size⟩⟩
  ·obtain rfl := Option.some.inj ho
   have e5 : isPair _ _ _ _ (a.eval (.tmp 99)) W := hneed 7 (by decide)
   refine value_ (v := a.eval (.tmp 99)) (w1 := W) (by rfl) rfl rfl (hK.out _ _ (Below.refl _ _) e5)
  ·obtain rfl := Option.some.inj ho
   obtain ⟨u, e6, hR⟩ : isPair _ _ _ _ (a.eval (.tmp 91)) W := hneed 8 (by decide)
   refine value_ (v := .agg #[u, .int .i64 r2]) (w1 := W) (by rfl) rfl ?_ (hK.out _ _ (Below.refl _ _) ⟨u, rfl, hR⟩)
   have e6' := eval_get e6
   go_simp
  ·obtain rfl := Option.some.inj ho
   obtain ⟨u, e6, hR⟩ : isPair _ _ _ _ (a.eval (.tmp 91)) W := hneed 8 (by decide)
   refine value_ (v := .agg #[.int .i64 r3, .int .i64 r4, .int .i64 r5, .int .i64 r6, .bool r7, .bool r8, .bool r9, .bool r10]) (w1 := W) (by rfl) rfl ?_ (hK.out _ _ (Below.refl _ _) rfl)
   have e6' := eval_get e6
   go_simp
  ·obtain rfl := Option.some.inj ho
   refine value_ (v := .pointer (some ⟨W.heap.size, 0, none⟩)) (w1 := W.alloc (.cells #[.slice none 0 0, .int .i64 0] 37)) (by rfl) rfl ?_ (hK.out _ _ (below_alloc (Below.refl _ _) _) ⟨_, rfl, HBW.out.size, alloc_at _ _ _ rfl⟩)
   go_simp
  ·obtain rfl := Option.some.inj ho
   refine value_ (v := .pointer (some ⟨W.heap.size, 0, none⟩)) (w1 := W.alloc (.cells #[.int .i64 0, .int .i64 0, .int .i64 0, .int .i64 0, .bool false, .bool false, .bool false, .bool false] 38)) (by rfl) rfl ?_ (hK.out _ _ (below_alloc (Below.refl _ _) _) ⟨_, rfl, HBW.out.size, alloc_at _ _ _ rfl⟩)
   go_simp
 case lagh =>
  intro o ho a W hout hneed
  obtain rfl := Option.some.inj ho
  obtain ⟨u, e6, hR⟩ : isPair _ _ _ _ (a.eval (.tmp 91)) W := hneed 8 (by decide)
  refine ⟨.agg #[.int .i64 r3, .int .i64 r4, .int .i64 r5, .int .i64 r6, .bool r7, .bool r8, .bool r9, .bool r10], rfl, Or.inl ⟨by rfl, ?_⟩⟩
  intro w'
  have e6' := eval_get e6
  go_simp
 intro f vs W17 hB hE
 have HBW := Aside0.mk hB
 clear hB
 have q0 : vs 0 = _ := hE 0 (by decide)
 obtain ⟨u1h, q1, hR1⟩ : isMem _ _ _ (vs 1) W17 := hE 1 (by decide)
 have q2 : vs 2 = _ := hE 2 (by decide)
 have q3 : vs 3 = _ := hE 3 (by decide)
 have q4 : vs 4 = _ := hE 4 (by decide)
 have q5 : vs 5 = _ := hE 5 (by decide)
 have q6 : vs 6 = _ := hE 6 (by decide)
 obtain ⟨u7h, q7, _⟩ : isPair _ _ _ _ (vs 7) W17 := hE 7 (by decide)
 obtain ⟨u8h, q8, _⟩ : isPair _ _ _ _ (vs 8) W17 := hE 8 (by decide)
 obtain ⟨u9h, q9, hR9⟩ : isMem _ _ _ (vs 9) W17 := hE 9 (by decide)
 have q10 : vs 10 = _ := hE 10 (by decide)
 obtain ⟨g1h, q11, hg1, hb1⟩ : isNew _ _ _ (vs 11) W17 := hE 11 (by decide)
 obtain ⟨g2h, q12, hg2, hb2⟩ : isNew _ _ _ (vs 12) W17 := hE 12 (by decide)
 show wpAnyLast _ _ _ _ _ _ (f + 2) _ (putAll _ [(92, vs 0), (93, vs 1), (94, vs 2), (95, vs 3), (96, vs 4), (97, vs 5), (98, vs 6), (99, vs 7), (91, vs 8), (100, vs 9), (101, vs 10), (18, vs 11), (19, vs 12)]) W17
 rw [q0, q1, q2, q3, q4, q5, q6, q7, q8, q9, q10, q11, q12]
 clear q0 q1 q2 q3 q4 q5 q6 q7 q8 q9 q10 q11 q12 hE
 refine norm_ (a' := ?_) ?_ ?_
 rotate_left
 ·simp only [putAll, Act.put, List.setIfInBounds_toArray, List.set_cons_zero, List.set_cons_succ]
  rfl
 obtain ⟨Ah, ch, rfl⟩ := Kd.R_slice hR9
 have hgg : g1h ≠ g2h := blk_ne hb1 hb2 (by decide)
 have hgg' : g2h ≠ g1h := fun h => hgg h.symm
 refine one_ (i := 13) (N := none) #[true, true, true, true, true, true, true, true, true, true, true, true, true, true, false] rfl rfl (by kernel_rfl) (by decide) (fun K hK => ?_)
 refine skip_ (w1 := ?_) (by rfl) rfl ?_ ?_
 rotate_left
 ·skip
  have r0 : W17.cell? ⟨g1h, 0, none⟩ = some (.slice none 0 0) := (blk_cell hb1 0).trans rfl
  have f0 := blk_frozen hb1 0
  have r1 : W17.cell? ⟨g1h, 1, none⟩ = some (.int .i64 0) := (blk_cell hb1 1).trans rfl
  have f1 := blk_frozen hb1 1
  go_simp
  rfl
 refine hK.out _ _ trivial (fun _ => ?_)
 clear hK K
 refine one_ (i := 14) (N := none) #[true, true, true, true, true, true, true, true, true, true, true, true, true, true, true] rfl rfl (by kernel_rfl) (by decide) (fun K hK => ?_)
 refine skip_ (w1 := ?_) (by rfl) rfl ?_ ?_
 rotate_left
 ·skip
  have r0 : W17.cell? ⟨g2h, 0, none⟩ = some (.int .i64 0) := (blk_cell hb2 0).trans rfl
  have f0 := blk_frozen hb2 0
  have r1 : W17.cell? ⟨g2h, 1, none⟩ = some (.int .i64 0) := (blk_cell hb2 1).trans rfl
  have f1 := blk_frozen hb2 1
  have r2 : W17.cell? ⟨g2h, 2, none⟩ = some (.int .i64 0) := (blk_cell hb2 2).trans rfl
  have f2 := blk_frozen hb2 2
  have r3 : W17.cell? ⟨g2h, 3, none⟩ = some (.int .i64 0) := (blk_cell hb2 3).trans rfl
  have f3 := blk_frozen hb2 3
  have r4 : W17.cell? ⟨g2h, 4, none⟩ = some (.bool false) := (blk_cell hb2 4).trans rfl
  have f4 := blk_frozen hb2 4
  have r5 : W17.cell? ⟨g2h, 5, none⟩ = some (.bool false) := (blk_cell hb2 5).trans rfl
  have f5 := blk_frozen hb2 5
  have r6 : W17.cell? ⟨g2h, 6, none⟩ = some (.bool false) := (blk_cell hb2 6).trans rfl
  have f6 := blk_frozen hb2 6
  have r7 : W17.cell? ⟨g2h, 7, none⟩ = some (.bool false) := (blk_cell hb2 7).trans rfl
  have f7 := blk_frozen hb2 7
  go_simp
  rfl
 refine hK.out _ _ trivial (fun _ => ?_)
 clear hK K
 refine done_ (by kernel_rfl) ?_
 obtain ⟨A_, c_, e_, P, Kp, B⟩ := pair_made ARG.out.below HBW.out hR9 hb1 hb2 hg1 hg2 r2 (.int .i64 r3) (.int .i64 r4) (.int .i64 r5) (.int .i64 r6) (.bool r7) (.bool r8) (.bool r9) (.bool r10)
 cases e_
 have hz_W18 : W16.heap.size ≤ _ := Kp.1
 have ARG_ := Aside0.mk (ARG.out.kept Kp (B) (fun _ _ h => h))
 have Ps_ := Aside0.mk (Ps.out.kept Kp (fun _ _ _ h => h))
 have Og_ := Aside0.mk (Og.out.kept Kp (fun _ _ _ h => h))
 clear ARG Ps Og
 have ARG := ARG_
 clear ARG_
 have Ps := Ps_
 clear Ps_
 have Og := Og_
 clear Og_
 have Ph := Aside0.mk P
 clear P Kp B hR9 hb1 hg1 HBW hb2 hg2 hgg hgg'
 generalize hW_ : ((((((((((W17.setCell ⟨g1h, 0, none⟩ (.slice Ah r1.length ch)).setCell ⟨g1h, 1, none⟩ (.int .i64 r2)).setCell ⟨g2h, 0, none⟩ (.int .i64 r3)).setCell ⟨g2h, 1, none⟩ (.int .i64 r4)).setCell ⟨g2h, 2, none⟩ (.int .i64 r5)).setCell ⟨g2h, 3, none⟩ (.int .i64 r6)).setCell ⟨g2h, 4, none⟩ (.bool r7)).setCell ⟨g2h, 5, none⟩ (.bool r8)).setCell ⟨g2h, 6, none⟩ (.bool r9)).setCell ⟨g2h, 7, none⟩ (.bool r10)) = W18 at *
 clear hW_
 have q0_ : W18.cell? ⟨g1h, 0, none⟩ = some (.slice Ah r1.length ch) := (blk_cell Ph.out.mem 0).trans rfl
 have q1_ : W18.cell? ⟨g1h, 1, none⟩ = some (.int .i64 r2) := (blk_cell Ph.out.mem 1).trans rfl
 have q2_ : W18.cell? ⟨g1s, 0, none⟩ = some (.slice As r1.length cs) := (blk_cell Ps.out.mem 0).trans rfl
 have q3_ : W18.cell? ⟨g1s, 1, none⟩ = some (.int .i64 r2) := (blk_cell Ps.out.mem 1).trans rfl
 go_wp2_with fail
 obtain ⟨_, hc1_, hC1_⟩ := Kd.R_reads' Ph.out.row
 obtain ⟨_, hc2_, hC2_⟩ := Kd.R_reads' Ps.out.row
 refine (laws_eqMem.calls k Ah ch r1 r2 As cs r1 r2 true _ hC1_ hc1_ hC2_ hc2_ He1.out).mono ?_
 rintro e W19 ⟨rfl, hb⟩
 clear hc1_ hC1_ hc2_ hC2_; clear q0_ q1_ q2_ q3_
 have K_ := Kept.of_below hb (fun _ => False)
 have ARG_ := Aside0.mk (ARG.out.kept K_ (below_step ARG.out.below hb) (fun _ _ h => h))
 have Ps_ := Aside0.mk (Ps.out.kept K_ (fun _ _ _ h => h))
 have Og_ := Aside0.mk (Og.out.kept K_ (fun _ _ _ h => h))
 have Ph_ := Aside0.mk (Ph.out.kept K_ (fun _ _ _ h => h))
 clear ARG Ps Og Ph
 have ARG := ARG_
 clear ARG_
 have Ps := Ps_
 clear Ps_
 have Og := Og_
 clear Og_
 have Ph := Ph_
 clear Ph_; clear K_; clear hb
 have q0_ : W19.cell? ⟨g2h, 0, none⟩ = some (.int .i64 r3) := (blk_cell Ph.out.cpu 0).trans rfl
 have q1_ : W19.cell? ⟨g2h, 1, none⟩ = some (.int .i64 r4) := (blk_cell Ph.out.cpu 1).trans rfl
 have q2_ : W19.cell? ⟨g2h, 2, none⟩ = some (.int .i64 r5) := (blk_cell Ph.out.cpu 2).trans rfl
 have q3_ : W19.cell? ⟨g2h, 3, none⟩ = some (.int .i64 r6) := (blk_cell Ph.out.cpu 3).trans rfl
 have q4_ : W19.cell? ⟨g2h, 4, none⟩ = some (.bool r7) := (blk_cell Ph.out.cpu 4).trans rfl
 have q5_ : W19.cell? ⟨g2h, 5, none⟩ = some (.bool r8) := (blk_cell Ph.out.cpu 5).trans rfl
 have q6_ : W19.cell? ⟨g2h, 6, none⟩ = some (.bool r9) := (blk_cell Ph.out.cpu 6).trans rfl
 have q7_ : W19.cell? ⟨g2h, 7, none⟩ = some (.bool r10) := (blk_cell Ph.out.cpu 7).trans rfl
 have q8_ : W19.cell? ⟨g2s, 0, none⟩ = some (.int .i64 r3) := (blk_cell Ps.out.cpu 0).trans rfl
 have q9_ : W19.cell? ⟨g2s, 1, none⟩ = some (.int .i64 r4) := (blk_cell Ps.out.cpu 1).trans rfl
 have q10_ : W19.cell? ⟨g2s, 2, none⟩ = some (.int .i64 r5) := (blk_cell Ps.out.cpu 2).trans rfl
 have q11_ : W19.cell? ⟨g2s, 3, none⟩ = some (.int .i64 r6) := (blk_cell Ps.out.cpu 3).trans rfl
 have q12_ : W19.cell? ⟨g2s, 4, none⟩ = some (.bool r7) := (blk_cell Ps.out.cpu 4).trans rfl
 have q13_ : W19.cell? ⟨g2s, 5, none⟩ = some (.bool r8) := (blk_cell Ps.out.cpu 5).trans rfl
 have q14_ : W19.cell? ⟨g2s, 6, none⟩ = some (.bool r9) := (blk_cell Ps.out.cpu 6).trans rfl
 have q15_ : W19.cell? ⟨g2s, 7, none⟩ = some (.bool r10) := (blk_cell Ps.out.cpu 7).trans rfl
 go_wp2_with fail
 refine (laws_eqCpu.calls r3 r4 r5 r6 r7 r8 r9 r10 r3 r4 r5 r6 r7 r8 r9 r10 true _ He2.out).mono ?_
 rintro e W20 ⟨rfl, hb⟩
 clear q0_ q1_ q2_ q3_ q4_ q5_ q6_ q7_ q8_ q9_ q10_ q11_ q12_ q13_ q14_ q15_
 have K_ := Kept.of_below hb (fun _ => False)
 have ARG_ := Aside0.mk (ARG.out.kept K_ (below_step ARG.out.below hb) (fun _ _ h => h))
 have Ps_ := Aside0.mk (Ps.out.kept K_ (fun _ _ _ h => h))
 have Og_ := Aside0.mk (Og.out.kept K_ (fun _ _ _ h => h))
 have Ph_ := Aside0.mk (Ph.out.kept K_ (fun _ _ _ h => h))
 clear ARG Ps Og Ph
 have ARG := ARG_
 clear ARG_
 have Ps := Ps_
 clear Ps_
 have Og := Og_
 clear Og_
 have Ph := Ph_
 clear Ph_; clear K_; clear hb
 have q0_ : W20.cell? ⟨g1g, 0, none⟩ = some (.slice Ag nr.length cg) := (blk_cell Og.out.mem 0).trans rfl
 have q1_ : W20.cell? ⟨g1g, 1, none⟩ = some (.int .i64 r2) := (blk_cell Og.out.mem 1).trans rfl
 have ht2 := Ht2.out
 have hkk : (kr != kr) = false := by simp
 go_wp2_with fail
 refine (laws_heldMem.calls k Ag cg nr r2 1 kr _ Og.out.reads.2 Og.out.reads.1 Hh.out).mono ?_
 rintro e W21 ⟨rfl, hb⟩
 clear q0_ q1_
 have K_ := Kept.of_below hb (fun _ => False)
 have ARG_ := Aside0.mk (ARG.out.kept K_ (below_step ARG.out.below hb) (fun _ _ h => h))
 have Ps_ := Aside0.mk (Ps.out.kept K_ (fun _ _ _ h => h))
 have Og_ := Aside0.mk (Og.out.kept K_ (fun _ _ _ h => h))
 have Ph_ := Aside0.mk (Ph.out.kept K_ (fun _ _ _ h => h))
 clear ARG Ps Og Ph
 have ARG := ARG_
 clear ARG_
 have Ps := Ps_
 clear Ps_
 have Og := Og_
 clear Og_
 have Ph := Ph_
 clear Ph_; clear K_; clear hb
 go_wp2
 clear ht2 hkk
 go_ret
 exact ⟨rfl, ARG.out.below⟩
set_option maxRecDepth 100000 in
set_option maxHeartbeats 4000000 in
theorem lawExec_big2 (k : Nat) (A1 : Option Addr) (c1 : Nat) (l1 : List Int) (b : Int) (x0 x1 x2 x3 : Int) (x4 x5 x6 x7 : Bool) (i0 i1 : Int) (v3 : Int) (w : World) (hr1 : Kd.C (Kd.int .i64) w A1 l1.length l1) (hc1 : l1.length ≤ c1)
  (t2 : Int) (hsz2 : laws_szMem.f l1 b 1048576 = some t2) (ht2 : t2 < 0) :
  Calls Try.prog 14 #[.agg #[.slice A1 l1.length c1, .int .i64 b], .agg #[.int .i64 x0, .int .i64 x1, .int .i64 x2, .int .i64 x3, .bool x4, .bool x5, .bool x6, .bool x7], .agg #[.int .i64 i0, .int .i64 i1], .int .i64 v3] w fun e w' => e = .returned (.bool true) ∧ Below w.heap.size w w' := by
 have hl_mem := Try.underlying33
 have hi_mem := Try.underlying37
 have hl_cpu := Try.underlying35
 have hi_cpu := Try.underlying38
 have hl_instr := Try.underlying73
 have hi_instr := Try.underlying68
 have HR1 := Aside0.mk hr1
 have HC1 := Aside0.mk hc1
 have Hsz2 := Aside0.mk hsz2
 have ht20 : decide (t2 < 0) = true := decide_eq_true ht2
 clear hr1 hc1 hsz2 ht2
 go_enter Try.func14, Try.ntmps14
 go_wp2_with fail
 refine (laws_szMem.calls A1 c1 l1 b 1048576 t2 _ ?hr HC1.out Hsz2.out).mono ?_
 case hr => repeat (first | exact HR1.out | (with_reducible refine Kd.C_alloc ?_ _))
 rintro e W1 ⟨rfl, hB⟩
 have ARG : Aside0 (ArgZ w W1 #[.slice A1 l1.length c1, .int .i64 b] #[.int .i64 x0, .int .i64 x1, .int .i64 x2, .int .i64 x3, .bool x4, .bool x5, .bool x6, .bool x7] #[.int .i64 i0, .int .i64 i1]) := ⟨⟨below_step (by repeat (first | exact Below.refl _ _ | apply below_alloc)) hB, blk_below (by repeat (first | exact alloc_at _ _ _ (by simp only [alloc_size]) | refine blk_alloc ?_ _)) hB, blk_below (by repeat (first | exact alloc_at _ _ _ (by simp only [alloc_size]) | refine blk_alloc ?_ _)) hB, blk_below (by repeat (first | exact alloc_at _ _ _ (by simp only [alloc_size]) | refine blk_alloc ?_ _)) hB⟩⟩
 clear hB
 go_wp2
 go_ret
 exact ⟨rfl, ARG.out.below⟩
instance decP4 {A B C D : Type} [DecidableEq A] [DecidableEq B] [DecidableEq C] [DecidableEq D] : DecidableEq (A × B × C × D) := inferInstance
instance decB4 : DecidableEq (Bool × Bool × Bool × Bool) := inferInstance
instance decI4 : DecidableEq (Int × Int × Int × Int × Bool × Bool × Bool × Bool) := inferInstance
instance decAll : DecidableEq (List Int × Int × Int × Int × Int × Int × Bool × Bool × Bool × Bool) := inferInstance
/-- What the law answers where all is well: true; nothing is said elsewhere. -/
def laws_FnExactExec.f (k : Nat) (l0_0 : List Int) (a0_1 : Int) (a1_0 : Int) (a1_1 : Int) (a1_2 : Int) (a1_3 : Int) (a1_4 : Bool) (a1_5 : Bool) (a1_6 : Bool) (a1_7 : Bool) (a2_0 : Int) (a2_1 : Int) (a3 : Int) : Option Bool :=
 (laws_szMem.f l0_0 a0_1 1048576).bind fun t2 =>
 if t2 < 0 then some true else
 (laws_toMem.f k l0_0 a0_1).bind fun m =>
 (laws_toCpu.f a1_0 a1_1 a1_2 a1_3 a1_4 a1_5 a1_6 a1_7).bind fun c =>
 (laws_toInstr.f a2_0 a2_1).bind fun j =>
 (spec_Exec.f k m.1 m.2 c.1 c.2.1 c.2.2.1 c.2.2.2.1 c.2.2.2.2.1 c.2.2.2.2.2.1 c.2.2.2.2.2.2.1 c.2.2.2.2.2.2.2 j.1 j.2 a3).bind fun s =>
 (impl_Exec.f k m.1 m.2 c.1 c.2.1 c.2.2.1 c.2.2.2.1 c.2.2.2.2.1 c.2.2.2.2.2.1 c.2.2.2.2.2.2.1 c.2.2.2.2.2.2.2 j.1 j.2 a3).bind fun g =>
 (laws_eqMem.f k s.1 s.2.1 s.1 s.2.1).bind fun e1 =>
 (laws_eqCpu.f s.2.2.1 s.2.2.2.1 s.2.2.2.2.1 s.2.2.2.2.2.1 s.2.2.2.2.2.2.1 s.2.2.2.2.2.2.2.1 s.2.2.2.2.2.2.2.2.1 s.2.2.2.2.2.2.2.2.2 s.2.2.1 s.2.2.2.1 s.2.2.2.2.1 s.2.2.2.2.2.1 s.2.2.2.2.2.2.1 s.2.2.2.2.2.2.2.1 s.2.2.2.2.2.2.2.2.1 s.2.2.2.2.2.2.2.2.2).bind fun e2 =>
 (laws_eqMem.f k m.1 m.2 m.1 m.2).bind fun e3 =>
 (laws_markMem.f k m.1 m.2 1).bind fun qa =>
 (laws_markMem.f k s.1 s.2.1 1).bind fun qr =>
 (laws_heldMem.f k qr.2 s.2.1 1).bind fun h =>
 if g = s ∧ e1 = true ∧ e2 = true ∧ e3 = true ∧ ¬ qa.1 < 0 ∧ ¬ qr.1 < 0 ∧ h = qr.1 then some true else none
theorem laws_FnExactExec.calls (k : Nat) (A0_0 : Option Addr) (c0_0 : Nat) (l0_0 : List Int) (a0_1 : Int) (a1_0 : Int) (a1_1 : Int) (a1_2 : Int) (a1_3 : Int) (a1_4 : Bool) (a1_5 : Bool) (a1_6 : Bool) (a1_7 : Bool) (a2_0 : Int) (a2_1 : Int) (a3 : Int) (r : Bool) (w : World) (hr0_0 : Kd.C (Kd.int .i64) w A0_0 l0_0.length l0_0) (hc0_0 : l0_0.length ≤ c0_0) (h : laws_FnExactExec.f k l0_0 a0_1 a1_0 a1_1 a1_2 a1_3 a1_4 a1_5 a1_6 a1_7 a2_0 a2_1 a3 = some r) (hrt : r = true) :
  Calls Try.prog 14 #[.agg #[.slice A0_0 l0_0.length c0_0, .int .i64 a0_1], .agg #[.int .i64 a1_0, .int .i64 a1_1, .int .i64 a1_2, .int .i64 a1_3, .bool a1_4, .bool a1_5, .bool a1_6, .bool a1_7], .agg #[.int .i64 a2_0, .int .i64 a2_1], .int .i64 a3] w fun e w' => e = .returned (.bool r) ∧ Below w.heap.size w w' := by
 subst hrt
 unfold laws_FnExactExec.f at h
 obtain ⟨t2, hsz2, h1_⟩ := Option.bind_eq_some_iff.mp h
 clear h
 by_cases ht2 : t2 < 0
 ·exact lawExec_big2 k A0_0 c0_0 l0_0 a0_1 a1_0 a1_1 a1_2 a1_3 a1_4 a1_5 a1_6 a1_7 a2_0 a2_1 a3 w hr0_0 hc0_0 t2 hsz2 ht2
 ·rw [if_neg ht2] at h1_
  obtain ⟨⟨m1, m2⟩, hm, h2_⟩ := Option.bind_eq_some_iff.mp h1_
  clear h1_
  obtain ⟨⟨y0, y1, y2, y3, y4, y5, y6, y7⟩, hcp, h3_⟩ := Option.bind_eq_some_iff.mp h2_
  clear h2_
  obtain ⟨⟨j0, j1⟩, hin, h4_⟩ := Option.bind_eq_some_iff.mp h3_
  clear h3_
  obtain ⟨⟨r1, r2, r3, r4, r5, r6, r7, r8, r9, r10⟩, hs, h5_⟩ := Option.bind_eq_some_iff.mp h4_
  clear h4_
  obtain ⟨g, hi, h6_⟩ := Option.bind_eq_some_iff.mp h5_
  clear h5_
  obtain ⟨e1, he1, h7_⟩ := Option.bind_eq_some_iff.mp h6_
  clear h6_
  obtain ⟨e2, he2, h8_⟩ := Option.bind_eq_some_iff.mp h7_
  clear h7_
  obtain ⟨e3, he3, h9_⟩ := Option.bind_eq_some_iff.mp h8_
  clear h8_
  obtain ⟨⟨ka, na⟩, hka, h10_⟩ := Option.bind_eq_some_iff.mp h9_
  clear h9_
  obtain ⟨⟨kr, nr⟩, hkr, h11_⟩ := Option.bind_eq_some_iff.mp h10_
  clear h10_
  obtain ⟨q, hh, h12_⟩ := Option.bind_eq_some_iff.mp h11_
  clear h11_
  by_cases hall : g = (r1, r2, r3, r4, r5, r6, r7, r8, r9, r10) ∧ e1 = true ∧ e2 = true ∧ e3 = true ∧ ¬ ka < 0 ∧ ¬ kr < 0 ∧ q = kr
  ·obtain ⟨rfl, rfl, rfl, rfl, hka', hkr', rfl⟩ := hall
   exact lawExec_true k A0_0 c0_0 l0_0 a0_1 a1_0 a1_1 a1_2 a1_3 a1_4 a1_5 a1_6 a1_7 a2_0 a2_1 a3 w hr0_0 hc0_0 t2 hsz2 m1 m2 hm y0 y1 y2 y3 y4 y5 y6 y7 hcp j0 j1 hin r1 r2 r3 r4 r5 r6 r7 r8 r9 r10 hs hi ht2 he1 he2 he3 ka na hka hka' q nr hkr hkr' hh
  ·rw [if_neg hall] at h12_
   cases h12_

end Go.Proofs.Ytmiaocoffmobcaa.MFnExactExec
