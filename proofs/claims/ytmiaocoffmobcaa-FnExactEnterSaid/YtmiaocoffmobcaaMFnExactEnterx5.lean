/- Walks of functions that the law FnExactEnter reaches: each comes to just what its Lean function says. (Begun as the texts that print.sh wrote for this claim; some of them, and those that it does not write, are mine.) No condition. -/
import Derived.Test.YtmiaocoffmobcaaMFnExactEnterx4
namespace Go.Proofs.Ytmiaocoffmobcaa.MFnExactEnter
open Go.RowKit Go.Proofs.YtmiaocoffmobcaaW.PrintWords Go.Proofs.YtmiaocoffmobcaaW.PrintLast Go.Proofs.YtmiaocoffmobcaaW.PrintMore
attribute [local go_sem] max2_int min2_int max_two min_two max_three min_three max_four min_four   -- for this text's walks alone
set_option linter.unusedVariables false
set_option linter.unusedSimpArgs false

/-! ### mem_pairs (mine) -/
/-- The boxes of the law's own arguments, at the call's first blocks. -/
structure ArgW (w W : World) (a b : Array Value) : Prop where
 below : Below w.heap.size w W
 fst : W.heap[w.heap.size]? = some (.cells a 33 (0, 0))
 snd : W.heap[w.heap.size + 1]? = some (.cells b 35 (0, 0))
theorem ArgW.kept {w W W' : World} {a b : Array Value} {S : Nat → Prop} (h : ArgW w W a b) (hk : Kept W W' S) (hb : Below w.heap.size w W') (hS : ∀ k, k < w.heap.size + 2 → ¬ S k) : ArgW w W' a b :=
 ⟨hb, blk_kept h.fst hk (hS _ (by omega)), blk_kept h.snd hk (hS _ (by omega))⟩
/-- A memory and a processor in blocks of their own, between two heights. -/
structure PairW (w W : World) (g1 g2 : Nat) (A : Option Addr) (c : Nat) (xs : List Int) (b : Int) (cs : Array Value) (lo hi : Nat) : Prop where
 mem : W.heap[g1]? = some (.cells #[.slice A xs.length c, .int .i64 b] 37 (0, 0))
 cpu : W.heap[g2]? = some (.cells cs 38 (0, 0))
 row : Kd.R (Kd.int .i64) 3 W w.heap.size (fun k => lo ≤ k ∧ k < hi ∧ k ≠ g1 ∧ k ≠ g2) (.slice A xs.length c) xs
 h1 : lo ≤ g1 ∧ g1 < hi
 h2 : lo ≤ g2 ∧ g2 < hi
theorem PairW.kept {w W W' : World} {g1 g2 : Nat} {A : Option Addr} {c : Nat} {xs : List Int} {b : Int} {cs : Array Value} {lo hi : Nat} {S : Nat → Prop} (h : PairW w W g1 g2 A c xs b cs lo hi) (hk : Kept W W' S) (hS : ∀ k, lo ≤ k → k < hi → ¬ S k) : PairW w W' g1 g2 A c xs b cs lo hi :=
 ⟨blk_kept h.mem hk (hS _ h.h1.1 h.h1.2), blk_kept h.cpu hk (hS _ h.h2.1 h.h2.2), Kd.R_kept h.row hk (fun k hk => hS k hk.1 hk.2.1), h.h1, h.h2⟩
/-- A memory alone. -/
structure MemW (w W : World) (g : Nat) (A : Option Addr) (c : Nat) (xs : List Int) (b : Int) (lo hi : Nat) : Prop where
 mem : W.heap[g]? = some (.cells #[.slice A xs.length c, .int .i64 b] 37 (0, 0))
 row : Kd.R (Kd.int .i64) 3 W w.heap.size (fun k => lo ≤ k ∧ k < hi ∧ k ≠ g) (.slice A xs.length c) xs
 h1 : lo ≤ g ∧ g < hi
theorem MemW.kept {w W W' : World} {g : Nat} {A : Option Addr} {c : Nat} {xs : List Int} {b : Int} {lo hi : Nat} {S : Nat → Prop} (h : MemW w W g A c xs b lo hi) (hk : Kept W W' S) (hS : ∀ k, lo ≤ k → k < hi → ¬ S k) : MemW w W' g A c xs b lo hi :=
 ⟨blk_kept h.mem hk (hS _ h.h1.1 h.h1.2), Kd.R_kept h.row hk (fun k hk => hS k hk.1 hk.2.1), h.h1⟩
theorem R_between {W : World} {lo base : Nat} {u : Value} {xs : List Int} {ok : Nat → Prop} (h : Kd.R (Kd.int .i64) 3 W lo ok u xs) (hb : base ≤ lo) : Kd.R (Kd.int .i64) 3 W base (fun k => ok k ∧ lo ≤ k ∧ k < W.heap.size) u xs :=
 Kd.R_lower (Kd.R_mono (Kd.R_bound h) (fun k hk => ⟨hk.1, hk.2.1, hk.2.2.1⟩)) hb
theorem pair_made {w W1 W : World} {g1 g2 : Nat} {u : Value} {xs : List Int} {q0 q1 o0 o1 o2 o3 o4 o5 o6 o7 : Value} (hB : Below w.heap.size w W1) (hW : Below W1.heap.size W1.drew W) (hR : Kd.R (Kd.int .i64) 3 W W1.heap.size (fun _ => True) u xs)
  (hb1 : W.heap[g1]? = some (.cells #[q0, q1] 37 (0, 0))) (hb2 : W.heap[g2]? = some (.cells #[o0, o1, o2, o3, o4, o5, o6, o7] 38 (0, 0))) (hg1 : W1.heap.size ≤ g1) (hg2 : W1.heap.size ≤ g2) (b : Int) (u0 u1 u2 u3 u4 u5 u6 u7 : Value) :
  ∃ A c, u = .slice A xs.length c ∧ PairW w ((((((((((W.setCell ⟨g1, 0, none⟩ u).setCell ⟨g1, 1, none⟩ (.int .i64 b)).setCell ⟨g2, 0, none⟩ u0).setCell ⟨g2, 1, none⟩ u1).setCell ⟨g2, 2, none⟩ u2).setCell ⟨g2, 3, none⟩ u3).setCell ⟨g2, 4, none⟩ u4).setCell ⟨g2, 5, none⟩ u5).setCell ⟨g2, 6, none⟩ u6).setCell ⟨g2, 7, none⟩ u7) g1 g2 A c xs b #[u0, u1, u2, u3, u4, u5, u6, u7] W1.heap.size ((((((((((W.setCell ⟨g1, 0, none⟩ u).setCell ⟨g1, 1, none⟩ (.int .i64 b)).setCell ⟨g2, 0, none⟩ u0).setCell ⟨g2, 1, none⟩ u1).setCell ⟨g2, 2, none⟩ u2).setCell ⟨g2, 3, none⟩ u3).setCell ⟨g2, 4, none⟩ u4).setCell ⟨g2, 5, none⟩ u5).setCell ⟨g2, 6, none⟩ u6).setCell ⟨g2, 7, none⟩ u7).heap.size ∧ Kept W1 ((((((((((W.setCell ⟨g1, 0, none⟩ u).setCell ⟨g1, 1, none⟩ (.int .i64 b)).setCell ⟨g2, 0, none⟩ u0).setCell ⟨g2, 1, none⟩ u1).setCell ⟨g2, 2, none⟩ u2).setCell ⟨g2, 3, none⟩ u3).setCell ⟨g2, 4, none⟩ u4).setCell ⟨g2, 5, none⟩ u5).setCell ⟨g2, 6, none⟩ u6).setCell ⟨g2, 7, none⟩ u7) (fun _ => False) ∧ Below w.heap.size w ((((((((((W.setCell ⟨g1, 0, none⟩ u).setCell ⟨g1, 1, none⟩ (.int .i64 b)).setCell ⟨g2, 0, none⟩ u0).setCell ⟨g2, 1, none⟩ u1).setCell ⟨g2, 2, none⟩ u2).setCell ⟨g2, 3, none⟩ u3).setCell ⟨g2, 4, none⟩ u4).setCell ⟨g2, 5, none⟩ u5).setCell ⟨g2, 6, none⟩ u6).setCell ⟨g2, 7, none⟩ u7) := by
 obtain ⟨A, c, rfl⟩ := Kd.R_slice hR
 obtain ⟨s1, s2, s3, s4, s5⟩ := stored hb1 hb2 (.slice A xs.length c) (.int .i64 b) u0 u1 u2 u3 u4 u5 u6 u7
 have hsz := hB.size
 have hb := s5 w (below_step (w := w) (W := W1.drew) (below_drew1 hB) hW) (by omega) (by omega)
 have hk := s5 W1.drew hW hg1 hg2
 have r := s4 _ _ _ _ hR
 generalize ((((((((((W.setCell ⟨g1, 0, none⟩ (.slice A xs.length c)).setCell ⟨g1, 1, none⟩ (.int .i64 b)).setCell ⟨g2, 0, none⟩ u0).setCell ⟨g2, 1, none⟩ u1).setCell ⟨g2, 2, none⟩ u2).setCell ⟨g2, 3, none⟩ u3).setCell ⟨g2, 4, none⟩ u4).setCell ⟨g2, 5, none⟩ u5).setCell ⟨g2, 6, none⟩ u6).setCell ⟨g2, 7, none⟩ u7) = Z at *
 have k1 := blk_lt s1
 have k2 := blk_lt s2
 refine ⟨A, c, rfl, ⟨s1, s2, ?_, ⟨hg1, k1⟩, ⟨hg2, k2⟩⟩, ⟨hk.size, fun i hi _ => hk.block i hi⟩, hb⟩
 exact Kd.R_mono (Kd.R_types (Kd.R_types (R_between r hsz) s1 (by decide)) s2 (by decide)) (fun k hk => ⟨hk.1.1.2.1, hk.1.1.2.2, hk.1.2, hk.2⟩)
theorem mem_made {w W1 W : World} {g1 : Nat} {u : Value} {xs : List Int} {q0 q1 : Value} (hB : Below w.heap.size w W1) (hW : Below W1.heap.size W1 W) (hR : Kd.R (Kd.int .i64) 3 W W1.heap.size (fun _ => True) u xs)
  (hb1 : W.heap[g1]? = some (.cells #[q0, q1] 37 (0, 0))) (hg1 : W1.heap.size ≤ g1) (b : Int) :
  ∃ A c, u = .slice A xs.length c ∧ MemW w ((W.setCell ⟨g1, 0, none⟩ u).setCell ⟨g1, 1, none⟩ (.int .i64 b)) g1 A c xs b W1.heap.size ((W.setCell ⟨g1, 0, none⟩ u).setCell ⟨g1, 1, none⟩ (.int .i64 b)).heap.size ∧ Kept W1 ((W.setCell ⟨g1, 0, none⟩ u).setCell ⟨g1, 1, none⟩ (.int .i64 b)) (fun _ => False) ∧ Below w.heap.size w ((W.setCell ⟨g1, 0, none⟩ u).setCell ⟨g1, 1, none⟩ (.int .i64 b)) := by
 obtain ⟨A, c, rfl⟩ := Kd.R_slice hR
 have hsz := hB.size
 have s1 := put2 hb1 (.slice A xs.length c) (.int .i64 b)
 have hb := below2 (below_step hB hW) (show w.heap.size ≤ g1 by omega) (.slice A xs.length c) (.int .i64 b)
 have hk := below2 (w := W1) hW hg1 (.slice A xs.length c) (.int .i64 b)
 have r := rowS2 hR hb1 (.slice A xs.length c) (.int .i64 b)
 generalize ((W.setCell ⟨g1, 0, none⟩ (.slice A xs.length c)).setCell ⟨g1, 1, none⟩ (.int .i64 b)) = Z at *
 have k1 := blk_lt s1
 refine ⟨A, c, rfl, ⟨s1, ?_, ⟨hg1, k1⟩⟩, ⟨hk.size, fun i hi _ => hk.block i hi⟩, hb⟩
 exact Kd.R_mono (Kd.R_types (R_between r hsz) s1 (by decide)) (fun k hk => ⟨hk.1.2.1, hk.1.2.2, hk.2⟩)
theorem mem_made0 {w W1 W : World} {g1 : Nat} {A : Option Addr} {c : Nat} {xs : List Int} {b : Int} (hB : Below w.heap.size w W1) (hW : Below W1.heap.size W1 W) (hR : Kd.R (Kd.int .i64) 3 W W1.heap.size (fun _ => True) (.slice A xs.length c) xs)
  (hb1 : W.heap[g1]? = some (.cells #[.slice A xs.length c, .int .i64 b] 37 (0, 0))) (hg1 : W1.heap.size ≤ g1) : MemW w W g1 A c xs b W1.heap.size W.heap.size ∧ Kept W1 W (fun _ => False) ∧ Below w.heap.size w W := by
 have hsz := hB.size
 have k1 := blk_lt hb1
 refine ⟨⟨hb1, ?_, ⟨hg1, k1⟩⟩, ⟨hW.size, fun i hi _ => hW.block i hi⟩, below_step hB hW⟩
 exact Kd.R_mono (Kd.R_types (R_between hR hsz) hb1 (by decide)) (fun k hk => ⟨hk.1.2.1, hk.1.2.2, hk.2⟩)
/-- A memory of the call's own, to be read only. -/
structure OwnW (w W : World) (g : Nat) (A : Option Addr) (c : Nat) (xs : List Int) (b : Int) : Prop where
 mem : W.heap[g]? = some (.cells #[.slice A xs.length c, .int .i64 b] 37 (0, 0))
 row : ∃ ok, Kd.R (Kd.int .i64) 3 W w.heap.size ok (.slice A xs.length c) xs
theorem OwnW.kept {w W W' : World} {g : Nat} {A : Option Addr} {c : Nat} {xs : List Int} {b : Int} {S : Nat → Prop} (h : OwnW w W g A c xs b) (hk : Kept W W' S) (hS : ∀ k : Nat, True → True → ¬ S k) : OwnW w W' g A c xs b := by
 obtain ⟨ok, hr⟩ := h.row
 exact ⟨blk_kept h.mem hk (hS _ trivial trivial), ok, Kd.R_kept hr hk (fun k _ => hS k trivial trivial)⟩
theorem OwnW.reads {w W : World} {g : Nat} {A : Option Addr} {c : Nat} {xs : List Int} {b : Int} (h : OwnW w W g A c xs b) : xs.length ≤ c ∧ Kd.C (Kd.int .i64) W A xs.length xs := by
 obtain ⟨ok, hr⟩ := h.row
 obtain ⟨_, h1, h2⟩ := Kd.R_reads' hr
 exact ⟨h1, h2⟩

/-! ### mem_push (mine) -/
def pushF (ram : List Int) (k : Cp) (v : Int) : List Int × Cp := if ram.length = 512 then (ram.set (256 + k.S % 256).toNat (v % 256), { k with S := wrap64 (k.S - 1) % 256 }) else (ram, k)
set_option maxRecDepth 100000 in
set_option maxHeartbeats 1000000 in
theorem push_yes (x c g cap : Nat) (ram : List Int) (S v old : Int) (w : World)
  (hx0 : w.cell? ⟨x, 0, none⟩ = some (.slice (some ⟨g, 0, none⟩) ram.length cap)) (hc2 : w.cell? ⟨c, 2, none⟩ = some (.int .i64 S))
  (hlen : ram.length = 512) (hcg : w.cell? ⟨g, (256 + S % 256).toNat, none⟩ = some (.int .i64 old)) (hfg : w.frozen? ⟨g, (256 + S % 256).toNat, none⟩ = false) (hfc : w.frozen? ⟨c, 2, none⟩ = false) (hgc : g ≠ c) (hgx : g ≠ x) (hcx : c ≠ x) :
  Calls Try.prog 71 #[.pointer (some ⟨x, 0, none⟩), .pointer (some ⟨c, 0, none⟩), .int .i64 v] w fun e w' => e = .returned (.tuple #[]) ∧
   w' = ((w.setCell ⟨g, (256 + S % 256).toNat, none⟩ (.int .i64 (v % 256))).setCell ⟨c, 2, none⟩ (.int .i64 (wrap64 (S - 1) % 256))).drew := by
 have hu37 := Try.underlying37
 have hu38 := Try.underlying38
 have hl : (((ram.length : Nat) : Int) != 512) = false := by simp; omega
 have A1 : Aside0 (∀ w, Calls Try.prog 77 #[.int .i64 S] w fun e w' => e = .returned (.int .i64 (S % 256)) ∧ w' = w) := ⟨byte_same S⟩
 have A2 : Aside0 (∀ w, Calls Try.prog 77 #[.int .i64 v] w fun e w' => e = .returned (.int .i64 (v % 256)) ∧ w' = w) := ⟨byte_same v⟩
 have A3 : Aside0 (∀ w, Calls Try.prog 77 #[.int .i64 (wrap64 (S - 1))] w fun e w' => e = .returned (.int .i64 (wrap64 (S - 1) % 256)) ∧ w' = w) := ⟨byte_same _⟩
 have hs0 : 0 ≤ S % 256 := by omega
 have hs1 : S % 256 < 256 := by omega
 generalize wrap64 (S - 1) % 256 = s2 at *
 generalize S % 256 = sb at *
 generalize v % 256 = vb at *
 have hsum : IntKind.i64.wrap (256 + sb) = 256 + sb := by rw [IntKind.wrap_i64]; omega
 have hb1 : (256 + sb < (ram.length : Int)) = True := eq_true (by omega)
 have hb0 : (0 ≤ 256 + sb) = True := eq_true (by omega)
 clear hlen
 go_enter Try.func71, Try.ntmps71
 go_wp2
 go_still_tail 13, (by kernel_rfl)
 still_call (A1.out _)
 repeat still_step
 still_call (A2.out _)
 repeat still_step
 try refine wpStill_nil ?_
 change wpList _ _ _ _ _ w.drew
 go_wp2_with (go_at_call 77; refine (A3.out _).mono ?_; rintro e w' ⟨rfl, rfl⟩)
 go_end0
 exact ⟨rfl, rfl⟩
set_option maxRecDepth 100000 in
set_option maxHeartbeats 1000000 in
theorem push_no (x c : Nat) (A : Option Addr) (cap : Nat) (ram : List Int) (v : Int) (w : World)
  (hx0 : w.cell? ⟨x, 0, none⟩ = some (.slice A ram.length cap)) (hlen : ram.length ≠ 512) :
  Calls Try.prog 71 #[.pointer (some ⟨x, 0, none⟩), .pointer (some ⟨c, 0, none⟩), .int .i64 v] w fun e w' => e = .returned (.tuple #[]) ∧ w' = w := by
 have hu37 := Try.underlying37
 have hl : (((ram.length : Nat) : Int) != 512) = true := by simp; omega
 clear hlen
 go_enter Try.func71, Try.ntmps71
 go_wp2
 refine bodyPost_ret (results_none rfl _ _ _) rfl ?_
 exact ⟨rfl, rfl⟩
theorem push_calls {w0 w : World} {x c : Nat} {rv : Value} {b : Int} {k : Cp} {ram : List Int} (h : MC w0 w x c rv b k ram) (v : Int) :
  Calls Try.prog 71 #[.pointer (some ⟨x, 0, none⟩), .pointer (some ⟨c, 0, none⟩), .int .i64 v] w fun e w' => e = .returned (.tuple #[]) ∧
   MC w0 w' x c rv b (pushF ram k v).2 (pushF ram k v).1 ∧ Kept w w' (fun j => j = c ∨ some j = rv.ownBlock) := by
 unfold pushF
 by_cases hl : ram.length = 512
 ·rw [if_pos hl]
  obtain ⟨g, cap, rfl, hg, _, _⟩ := Kd.R_form h.row (by omega)
  obtain ⟨hcg, hfg⟩ := Kd.R_celln 0 h.row (256 + k.S % 256) (by omega) (by omega)
  refine (push_yes x c g cap ram k.S v _ w ((blk_cell h.mem 0).trans rfl) ((blk_cell h.cpu 2).trans rfl) hl hcg hfg (blk_frozen h.cpu 2) (fun e => h.far.2 (by rw [e]; rfl)) (fun e => h.far.1 (by rw [e]; rfl)) (Ne.symm h.ne)).mono ?_
  rintro e w' ⟨rfl, rfl⟩
  refine ⟨rfl, (((h.setR hg (256 + k.S % 256) (v % 256)).setC (k' := { k with S := wrap64 (k.S - 1) % 256 }) 2 _ rfl).drew), ?_⟩
  exact ((kept_set (kept_set (Kept.refl w _) (.inr rfl) _) (.inl rfl) _).drew)
 ·rw [if_neg hl]
  obtain ⟨A, cap, rfl⟩ := Kd.R_slice h.row
  refine (push_no x c A cap ram v w ((blk_cell h.mem 0).trans rfl) hl).mono ?_
  rintro e w' ⟨rfl, rfl⟩
  exact ⟨rfl, h, Kept.refl _ _⟩

/-! ### impl_within: function 64 -/
def impl_within.f (a0 : Int) (a1 : Int) (a2 : Int) : Option (Bool) := if a0 ≥ a1 then (some (decide (a0 ≤ a2))) else (some false)
set_option maxHeartbeats 8000000 in
set_option maxRecDepth 100000 in
theorem impl_within.calls (a0 : Int) (a1 : Int) (a2 : Int) (r : Bool) (w : World) (h : impl_within.f a0 a1 a2 = some r) :
  Calls Try.prog 64 #[.int .i64 a0, .int .i64 a1, .int .i64 a2] w fun e w' => e = .returned (.bool r) ∧ Drawn0 w w' := by
 have H : (if a0 ≥ a1 then (some (decide (a0 ≤ a2))) else (some false)) = some r := h
 clear h
 by_cases c4 : a0 ≥ a1
 ·rw [if_pos c4] at H
  have c4b0 : decide (a1 ≤ a0) = true := decide_eq_true c4
  clear c4
  obtain rfl := Option.some.inj H
  go_enter Try.func64, Try.ntmps64
  go_wp2
  go_ret
  exact ⟨by first | rfl | (simp; done) | (simp [*]; done), by repeat (first | exact Drawn0.refl _ | apply Drawn0.step)⟩
 ·rw [if_neg c4] at H
  have c4b0 : decide (a1 ≤ a0) = false := decide_eq_false c4
  clear c4
  obtain rfl := Option.some.inj H
  go_enter Try.func64, Try.ntmps64
  go_wp2
  go_ret
  exact ⟨by first | rfl | (simp; done) | (simp [*]; done), by repeat (first | exact Drawn0.refl _ | apply Drawn0.step)⟩

/-! ### impl_isByte: function 99 -/
def impl_isByte.f (a0 : Int) : Option (Bool) := (impl_within.f a0 0 255).bind fun t273 => (some t273)
set_option maxHeartbeats 8000000 in
set_option maxRecDepth 100000 in
theorem impl_isByte.calls (a0 : Int) (r : Bool) (w : World) (h : impl_isByte.f a0 = some r) :
  Calls Try.prog 99 #[.int .i64 a0] w fun e w' => e = .returned (.bool r) ∧ Drawn0 w w' := by
 have H : ((impl_within.f a0 0 255).bind fun t273 => (some t273)) = some r := h
 clear h
 replace H := Option.bind_eq_some_iff.mp H
 obtain ⟨t273, A20, H⟩ := H
 replace H : (some t273) = some r := H
 have A2 := Aside0.mk A20
 clear A20
 obtain rfl := Option.some.inj H
 go_enter Try.func99, Try.ntmps99
 go_wp2_with (first | ((with_reducible refine gate_callee (f := 64) rfl ?_); refine goesL_ (some 4) rfl rfl Try.func64 (by kernel_rfl) rfl #[.int .i64 a0, .int .i64 0, .int .i64 255] rfl (by (try simp only [List.map_toArray, List.map_cons, List.map_nil]); first | done | rfl | (simp only [List.length_drop, List.length_take]; rfl)) ?_; (with_reducible refine (impl_within.calls a0 0 255 t273 _ A2.out).mono ?_); rintro e w' ⟨rfl, ⟨nd, rfl⟩⟩; refine ⟨_, rfl, ?_⟩))
 go_ret
 exact ⟨by first | rfl | (simp; done) | (simp [*]; done), by repeat (first | exact Drawn0.refl _ | apply Drawn0.step)⟩

/-! ### impl_bytesOk: function 63 -/
def impl_bytesOk.l0 : Nat → List Int → Int → Int → Option (Bool)
 | 0, _, _, _ => none
 | k + 1, x5, x6, x7 => if x7 < x6 then (if 0 ≤ x7 then (if x7 < (x5.length : Int) then ((impl_isByte.f (rd x5 x7)).bind fun t275 => (if t275 = true then (impl_bytesOk.l0 k x5 x6 (wrap64 (x7 + 1))) else (some false))) else (none)) else (none)) else (some true)
def impl_bytesOk.f (k : Nat) (l0 : List Int) : Option (Bool) := impl_bytesOk.l0 k l0 (l0.length : Int) 0
theorem impl_bytesOk.mono_l : ∀ k, (∀ y0 y1 y2, LeO (impl_bytesOk.l0 k y0 y1 y2) (impl_bytesOk.l0 (k + 1) y0 y1 y2))
 | 0 => fun _ _ _ r h => by simp [impl_bytesOk.l0] at h
 | k + 1 => by
  have ih0 := impl_bytesOk.mono_l k
  ·intro y0 y1 y2
   unfold impl_bytesOk.l0
   repeat' first
   | (with_reducible exact ih0 _ _ _)
   | (with_reducible exact LeO.refl _)
   | (with_reducible exact LeO.none _)
   | (with_reducible refine LeO.ite ?_ ?_)
   | (with_reducible refine LeO.bind ?_ (fun _ => ?_))
   | exact ih0 _ _ _
   | exact LeO.none _
   | refine LeO.ite ?_ ?_
   | refine LeO.bind ?_ (fun _ => ?_)
theorem impl_bytesOk.mono : ∀ a0 k, LeO (impl_bytesOk.f k a0) (impl_bytesOk.f (k + 1) a0) := by
 intro a0 k
 have ih0 := impl_bytesOk.mono_l k
 unfold impl_bytesOk.f
 repeat' first
   | (with_reducible exact ih0 _ _ _)
   | (with_reducible exact LeO.refl _)
   | (with_reducible exact LeO.none _)
   | (with_reducible refine LeO.ite ?_ ?_)
   | (with_reducible refine LeO.bind ?_ (fun _ => ?_))
   | exact ih0 _ _ _
   | exact LeO.none _
   | refine LeO.ite ?_ ?_
   | refine LeO.bind ?_ (fun _ => ?_)
set_option maxHeartbeats 8000000 in
set_option maxRecDepth 100000 in
theorem impl_bytesOk.calls (k : Nat) (A0 : Option Addr) (c0 : Nat) (l0 : List Int) (r : Bool) (w : World) (hr0 : Kd.C (Kd.int .i64) w A0 l0.length l0) (hc0 : l0.length ≤ c0) (h : impl_bytesOk.f k l0 = some r) :
  Calls Try.prog 63 #[.slice A0 l0.length c0] w fun e w' => e = .returned (.bool r) ∧ Drawn0 w w' := by
 have HR0 := Aside0.mk hr0
 have HC0 := Aside0.mk hc0
 clear hr0 hc0
 have H : (impl_bytesOk.l0 k l0 (l0.length : Int) 0) = some r := h
 clear h
 have H' := Aside0.mk H
 clear H
 go_enter Try.func63, Try.ntmps63
 go_wp2
 go_loopg [7] k (fun kq v7 w' => ∃ (x7_1 : Int), v7 = .int .i64 x7_1 ∧ Aside0 (impl_bytesOk.l0 kq l0 (l0.length : Int) x7_1 = some r) ∧ Aside0 (kq ≤ k) ∧ Drawn0 w w')
 case atStart => exact ⟨(0), (by first | rfl | (simp; done) | (simp [*]; done)), H', ⟨Nat.le_refl _⟩, by repeat (first | exact Drawn0.refl _ | apply Drawn0.step)⟩
 case round =>
  clear H'
  obtain ⟨x7_1, rfl, HA, HK1, ⟨m1, rfl⟩⟩ := hrel
  cases gk with
  | zero => exact absurd HA.out (by simp [impl_bytesOk.l0])
  | succ k1 =>
   have H := HA.out
   clear HA
   simp only [impl_bytesOk.l0] at H
   by_cases c2 : x7_1 < (l0.length : Int)
   ·rw [if_pos c2] at H
    have c2b0 : decide (x7_1 < (l0.length : Int)) = true := decide_eq_true c2
    clear c2
    by_cases c3 : 0 ≤ x7_1
    ·rw [if_pos c3] at H
     have c3b0 : decide (0 ≤ x7_1) = true := decide_eq_true c3
     clear c3
     by_cases c4 : x7_1 < (l0.length : Int)
     ·rw [if_pos c4] at H
      have c4b0 : decide (x7_1 < (l0.length : Int)) = true := decide_eq_true c4
      clear c4
      replace H := Option.bind_eq_some_iff.mp H
      obtain ⟨t275, A50, H⟩ := H
      replace H : (if t275 = true then (impl_bytesOk.l0 k1 l0 (l0.length : Int) (wrap64 (x7_1 + 1))) else (some false)) = some r := H
      have A5 := Aside0.mk A50
      clear A50
      by_cases c6 : t275 = true
      ·subst c6
       have H1 : (impl_bytesOk.l0 k1 l0 (l0.length : Int) (wrap64 (x7_1 + 1))) = some r := by rw [if_pos rfl] at H; exact H
       clear H
       have H := H1
       clear H1
       have H' := Aside0.mk H
       clear H
       have p274 : 0 ≤ (x7_1 : Int) := of_decide_eq_true (by first | (with_reducible assumption) | assumption)
       have q274 : x7_1 < (l0.length : Int) := of_decide_eq_true (by first | (with_reducible assumption) | assumption)
       obtain ⟨ad274, e274, hx274_0⟩ := Kd.at_int HR0.out x7_1 p274 q274
       cases e274
       replace p274 := eq_true p274
       replace q274 := eq_true q274
       go_wp2_with (first | ((with_reducible refine gate_callee (f := 99) rfl ?_); refine goesL_ (some 12) rfl rfl Try.func99 (by kernel_rfl) rfl #[.int .i64 (rd l0 x7_1)] rfl (by (try simp only [List.map_toArray, List.map_cons, List.map_nil]); first | done | rfl | (simp only [List.length_drop, List.length_take]; rfl)) ?_; (with_reducible refine (impl_isByte.calls (rd l0 x7_1) true _ A5.out).mono ?_); rintro e w' ⟨rfl, ⟨nd, rfl⟩⟩; refine ⟨_, rfl, ?_⟩))
       go_roundg k1
       case measure => have := HK1.out; omega
       case rel => exact ⟨(wrap64 (x7_1 + 1)), (by first | rfl | (simp; done) | (simp [*]; done)), H', ⟨by have := HK1.out; omega⟩, by repeat (first | exact Drawn0.refl _ | apply Drawn0.step)⟩
      ·replace c6 := Bool.eq_false_iff.mpr c6
       subst c6
       have H1 : (some false) = some r := by rw [if_neg (show ¬ (false = true) by decide)] at H; exact H
       clear H
       have H := H1
       clear H1
       obtain rfl := Option.some.inj H
       have p274 : 0 ≤ (x7_1 : Int) := of_decide_eq_true (by first | (with_reducible assumption) | assumption)
       have q274 : x7_1 < (l0.length : Int) := of_decide_eq_true (by first | (with_reducible assumption) | assumption)
       obtain ⟨ad274, e274, hx274_0⟩ := Kd.at_int HR0.out x7_1 p274 q274
       cases e274
       replace p274 := eq_true p274
       replace q274 := eq_true q274
       go_wp2_with (first | ((with_reducible refine gate_callee (f := 99) rfl ?_); refine goesL_ (some 12) rfl rfl Try.func99 (by kernel_rfl) rfl #[.int .i64 (rd l0 x7_1)] rfl (by (try simp only [List.map_toArray, List.map_cons, List.map_nil]); first | done | rfl | (simp only [List.length_drop, List.length_take]; rfl)) ?_; (with_reducible refine (impl_isByte.calls (rd l0 x7_1) false _ A5.out).mono ?_); rintro e w' ⟨rfl, ⟨nd, rfl⟩⟩; refine ⟨_, rfl, ?_⟩))
       go_ret
       exact ⟨by first | rfl | (simp; done) | (simp [*]; done), by repeat (first | exact Drawn0.refl _ | apply Drawn0.step)⟩
     ·rw [if_neg c4] at H
      exact absurd H (by simp)
    ·rw [if_neg c3] at H
     exact absurd H (by simp)
   ·rw [if_neg c2] at H
    have c2b0 : decide (x7_1 < (l0.length : Int)) = false := decide_eq_false c2
    clear c2
    obtain rfl := Option.some.inj H
    go_wp2
    go_ret
    exact ⟨by first | rfl | (simp; done) | (simp [*]; done), by repeat (first | exact Drawn0.refl _ | apply Drawn0.step)⟩

/-! ### impl_ImageOk: function 18 -/
def impl_ImageOk.l0 : Nat → List (List Int) → Int → Int → List (List Int) → Option (Bool)
 | 0, _, _, _, _ => none
 | k + 1, x6, x7, x8, x277000 => if x8 < x7 then (if 0 ≤ x8 then (if x8 < (x6.length : Int) then (if ((rd_L1 x6 x8).length : Int) = 256 then ((impl_bytesOk.f k (rd_L1 x6 x8)).bind fun t278 => (if t278 = true then (impl_ImageOk.l0 k x6 x7 (wrap64 (x8 + 1)) x277000) else (some false))) else (some false)) else (none)) else (none)) else ((impl_within.f (x277000.length : Int) 1 8).bind fun t279 => (some t279))
def impl_ImageOk.f (k : Nat) (l0_0 : List (List Int)) : Option (Bool) := impl_ImageOk.l0 k l0_0 (l0_0.length : Int) 0 l0_0
theorem impl_ImageOk.mono_l : ∀ k, (∀ y0 y1 y2 y3, LeO (impl_ImageOk.l0 k y0 y1 y2 y3) (impl_ImageOk.l0 (k + 1) y0 y1 y2 y3))
 | 0 => fun _ _ _ _ r h => by simp [impl_ImageOk.l0] at h
 | k + 1 => by
  have ih0 := impl_ImageOk.mono_l k
  ·intro y0 y1 y2 y3
   unfold impl_ImageOk.l0
   repeat' first
   | (with_reducible exact ih0 _ _ _ _)
   | (with_reducible exact impl_bytesOk.mono _ _)
   | (with_reducible exact LeO.refl _)
   | (with_reducible exact LeO.none _)
   | (with_reducible refine LeO.ite ?_ ?_)
   | (with_reducible refine LeO.bind ?_ (fun _ => ?_))
   | exact ih0 _ _ _ _
   | exact impl_bytesOk.mono _ _
   | exact LeO.none _
   | refine LeO.ite ?_ ?_
   | refine LeO.bind ?_ (fun _ => ?_)
theorem impl_ImageOk.mono : ∀ a0 k, LeO (impl_ImageOk.f k a0) (impl_ImageOk.f (k + 1) a0) := by
 intro a0 k
 have ih0 := impl_ImageOk.mono_l k
 unfold impl_ImageOk.f
 repeat' first
   | (with_reducible exact ih0 _ _ _ _)
   | (with_reducible exact impl_bytesOk.mono _ _)
   | (with_reducible exact LeO.refl _)
   | (with_reducible exact LeO.none _)
   | (with_reducible refine LeO.ite ?_ ?_)
   | (with_reducible refine LeO.bind ?_ (fun _ => ?_))
   | exact ih0 _ _ _ _
   | exact impl_bytesOk.mono _ _
   | exact LeO.none _
   | refine LeO.ite ?_ ?_
   | refine LeO.bind ?_ (fun _ => ?_)
set_option maxHeartbeats 8000000 in
set_option maxRecDepth 100000 in
theorem impl_ImageOk.calls (k : Nat) (A0_0 : Option Addr) (c0_0 : Nat) (l0_0 : List (List Int)) (r : Bool) (w : World) (hr0_0 : Kd.C (Kd.slice 3 (Kd.int .i64)) w A0_0 l0_0.length l0_0) (hc0_0 : l0_0.length ≤ c0_0) (h : impl_ImageOk.f k l0_0 = some r) :
  Calls Try.prog 18 #[.agg #[.slice A0_0 l0_0.length c0_0]] w fun e w' => e = .returned (.bool r) ∧ Below w.heap.size w w' := by
 have hu27 := Try.underlying27
 have HR0_0 := Aside0.mk hr0_0
 have HC0_0 := Aside0.mk hc0_0
 clear hr0_0 hc0_0
 have HB := Aside0.mk (Below.refl w.heap.size w)
 have H : (impl_ImageOk.l0 k l0_0 (l0_0.length : Int) 0 l0_0) = some r := h
 clear h
 have H' := Aside0.mk H
 clear H
 go_enter Try.func18, Try.ntmps18
 go_wp2_with (first | ((with_reducible refine gate_dst (N := 1) rfl ?_); refine box_event ?hg (N := 1) ?hd (cs := #[.slice A0_0 l0_0.length c0_0]) (t := 27) ?hr ?_; (case hd => rfl); (case hg => rfl); (case hr => first | (go_simp; done) | (go_simp; rfl)); intro gb276 hg w2 hbox hb; have n0_ := Aside0.mk (below_step (by repeat (first | (with_reducible first | exact HB.out | apply below_alloc | apply pw_below_drewN | apply below_drew1) | exact HB.out)) hb); have n1_ := Aside0.mk (hbox); have n2_ := Aside0.mk ((by rw [hg]; exact (below_size (by repeat (first | (with_reducible first | exact HB.out | apply below_alloc | apply pw_below_drewN | apply below_drew1) | exact HB.out))) : w.heap.size ≤ gb276)); have n3_ := Aside0.mk ((by rw [hg]; exact (below_size (by repeat (first | (with_reducible first | exact HB.out | apply below_alloc | apply pw_below_drewN | apply below_drew1) | exact HB.out))) : w.heap.size ≤ gb276)); clear HB; have HB := n0_; have BK276 := n1_; have GW276 := n2_; have GE276 := n3_; clear n0_ n1_ n2_ n3_; clear hb hbox hg; have hcz3_0 : w2.cell? ⟨gb276, 0, none⟩ = some (.slice A0_0 l0_0.length c0_0) := (blk_cell BK276.out 0).trans rfl; have hfz3_0 := blk_frozen BK276.out 0))
 go_loopg [8] k (fun kq v8 w' => ∃ (x8_1 : Int), v8 = .int .i64 x8_1 ∧ Aside0 (impl_ImageOk.l0 kq l0_0 (l0_0.length : Int) x8_1 l0_0 = some r) ∧ Aside0 (kq ≤ k) ∧ Aside0 (w'.heap[gb276]? = some (.cells #[(.slice A0_0 l0_0.length c0_0)] 27 (0, 0))) ∧ Aside0 (Below w.heap.size w w'))
 case atStart => exact ⟨(0), (by first | rfl | (simp; done) | (simp [*]; done)), H', ⟨Nat.le_refl _⟩, ⟨by (with_reducible repeat (first | refine blk_drewN ?_ _ | refine blk_drew ?_ | refine blk_alloc ?_ _)); exact BK276.out⟩, ⟨by repeat (first | (with_reducible first | exact HB.out | apply below_alloc | apply pw_below_drewN | apply below_drew1 | refine below_set ?_ GE276.out) | exact HB.out)⟩⟩
 case round =>
  clear H'
  try clear c1
  try clear p2
  try clear hcz3_0
  try clear hfz3_0
  obtain ⟨x8_1, rfl, HA, HK1, BK276, HB⟩ := hrel
  cases gk with
  | zero => exact absurd HA.out (by simp [impl_ImageOk.l0])
  | succ k1 =>
   have H := HA.out
   clear HA
   simp only [impl_ImageOk.l0] at H
   by_cases c4 : x8_1 < (l0_0.length : Int)
   ·rw [if_pos c4] at H
    have c4b0 : decide (x8_1 < (l0_0.length : Int)) = true := decide_eq_true c4
    clear c4
    by_cases c5 : 0 ≤ x8_1
    ·rw [if_pos c5] at H
     have c5b0 : decide (0 ≤ x8_1) = true := decide_eq_true c5
     clear c5
     by_cases c6 : x8_1 < (l0_0.length : Int)
     ·rw [if_pos c6] at H
      have c6b0 : decide (x8_1 < (l0_0.length : Int)) = true := decide_eq_true c6
      clear c6
      by_cases c7 : ((rd_L1 l0_0 x8_1).length : Int) = 256
      ·rw [if_pos c7] at H
       have c7b0 : (((rd_L1 l0_0 x8_1).length : Int) == 256) = true := beq_iff_eq.mpr c7
       have c7b1 : (((rd_L1 l0_0 x8_1).length : Int) != 256) = false := bne_eq_false_iff_eq.mpr c7
       clear c7
       replace H := Option.bind_eq_some_iff.mp H
       obtain ⟨t278, A80, H⟩ := H
       replace H : (if t278 = true then (impl_ImageOk.l0 k1 l0_0 (l0_0.length : Int) (wrap64 (x8_1 + 1)) l0_0) else (some false)) = some r := H
       have A8 := Aside0.mk A80
       clear A80
       by_cases c9 : t278 = true
       ·subst c9
        have H1 : (impl_ImageOk.l0 k1 l0_0 (l0_0.length : Int) (wrap64 (x8_1 + 1)) l0_0) = some r := by rw [if_pos rfl] at H; exact H
        clear H
        have H := H1
        clear H1
        have H' := Aside0.mk H
        clear H
        have p277 : 0 ≤ (x8_1 : Int) := of_decide_eq_true (by first | (with_reducible assumption) | assumption)
        have q277 : x8_1 < (l0_0.length : Int) := of_decide_eq_true (by first | (with_reducible assumption) | assumption)
        obtain ⟨ad277, A277_0, c277_0, e277, hx277_0, hl277_0, hi277_0⟩ := at_L1 HR0_0.out x8_1 p277 q277
        cases e277
        replace hx277_0 := (HB.out.cell (World.block_lt_of_cell? w _ hx277_0)).trans hx277_0
        have HR277_0 := Aside0.mk hi277_0
        have HC277_0 := Aside0.mk hl277_0
        clear hi277_0 hl277_0
        replace p277 := eq_true p277
        replace q277 := eq_true q277
        go_wp2_with (first | (go_at_call 63; (with_reducible refine (impl_bytesOk.calls k1 _ _ (rd_L1 l0_0 x8_1) true _ ?side1 ?side2 A8.out).mono ?_); (case side1 => repeat (first | exact (Kd.C_below HR277_0.out HB.out) | (with_reducible refine Kd.C_alloc ?_ _) | (with_reducible refine Kd.C_drewN ?_ _) | (with_reducible refine Kd.C_drew ?_))); (case side2 => exact HC277_0.out); rintro e w' ⟨rfl, ⟨nd, rfl⟩⟩))
        go_roundg k1
        case measure => have := HK1.out; omega
        case rel => exact ⟨(wrap64 (x8_1 + 1)), (by first | rfl | (simp; done) | (simp [*]; done)), H', ⟨by have := HK1.out; omega⟩, ⟨by (with_reducible repeat (first | refine blk_drewN ?_ _ | refine blk_drew ?_ | refine blk_alloc ?_ _)); exact BK276.out⟩, ⟨by repeat (first | (with_reducible first | exact HB.out | apply below_alloc | apply pw_below_drewN | apply below_drew1 | refine below_set ?_ GE276.out) | exact HB.out)⟩⟩
       ·replace c9 := Bool.eq_false_iff.mpr c9
        subst c9
        have H1 : (some false) = some r := by rw [if_neg (show ¬ (false = true) by decide)] at H; exact H
        clear H
        have H := H1
        clear H1
        obtain rfl := Option.some.inj H
        have p277 : 0 ≤ (x8_1 : Int) := of_decide_eq_true (by first | (with_reducible assumption) | assumption)
        have q277 : x8_1 < (l0_0.length : Int) := of_decide_eq_true (by first | (with_reducible assumption) | assumption)
        obtain ⟨ad277, A277_0, c277_0, e277, hx277_0, hl277_0, hi277_0⟩ := at_L1 HR0_0.out x8_1 p277 q277
        cases e277
        replace hx277_0 := (HB.out.cell (World.block_lt_of_cell? w _ hx277_0)).trans hx277_0
        have HR277_0 := Aside0.mk hi277_0
        have HC277_0 := Aside0.mk hl277_0
        clear hi277_0 hl277_0
        replace p277 := eq_true p277
        replace q277 := eq_true q277
        go_wp2_with (first | (go_at_call 63; (with_reducible refine (impl_bytesOk.calls k1 _ _ (rd_L1 l0_0 x8_1) false _ ?side1 ?side2 A8.out).mono ?_); (case side1 => repeat (first | exact (Kd.C_below HR277_0.out HB.out) | (with_reducible refine Kd.C_alloc ?_ _) | (with_reducible refine Kd.C_drewN ?_ _) | (with_reducible refine Kd.C_drew ?_))); (case side2 => exact HC277_0.out); rintro e w' ⟨rfl, ⟨nd, rfl⟩⟩))
        go_ret
        exact ⟨by first | rfl | (simp [errW_none, errW_some] <;> rfl) | (simp [*, errW_none, errW_some] <;> rfl), by repeat (first | (with_reducible first | exact HB.out | apply below_alloc | apply pw_below_drewN | apply below_drew1 | refine below_set ?_ GE276.out) | exact HB.out)⟩
      ·rw [if_neg c7] at H
       have c7b0 : (((rd_L1 l0_0 x8_1).length : Int) == 256) = false := beq_eq_false_iff_ne.mpr c7
       have c7b1 : (((rd_L1 l0_0 x8_1).length : Int) != 256) = true := bne_iff_ne.mpr c7
       obtain rfl := Option.some.inj H
       have p277 : 0 ≤ (x8_1 : Int) := of_decide_eq_true (by first | (with_reducible assumption) | assumption)
       have q277 : x8_1 < (l0_0.length : Int) := of_decide_eq_true (by first | (with_reducible assumption) | assumption)
       obtain ⟨ad277, A277_0, c277_0, e277, hx277_0, hl277_0, hi277_0⟩ := at_L1 HR0_0.out x8_1 p277 q277
       cases e277
       replace hx277_0 := (HB.out.cell (World.block_lt_of_cell? w _ hx277_0)).trans hx277_0
       have HR277_0 := Aside0.mk hi277_0
       have HC277_0 := Aside0.mk hl277_0
       clear hi277_0 hl277_0
       replace p277 := eq_true p277
       replace q277 := eq_true q277
       go_wp2
       go_ret
       exact ⟨by first | rfl | (simp [errW_none, errW_some] <;> rfl) | (simp [*, errW_none, errW_some] <;> rfl), by repeat (first | (with_reducible first | exact HB.out | apply below_alloc | apply pw_below_drewN | apply below_drew1 | refine below_set ?_ GE276.out) | exact HB.out)⟩
     ·rw [if_neg c6] at H
      exact absurd H (by simp)
    ·rw [if_neg c5] at H
     exact absurd H (by simp)
   ·rw [if_neg c4] at H
    have c4b0 : decide (x8_1 < (l0_0.length : Int)) = false := decide_eq_false c4
    clear c4
    replace H := Option.bind_eq_some_iff.mp H
    obtain ⟨t279, A100, H⟩ := H
    replace H : (some t279) = some r := H
    have A10 := Aside0.mk A100
    clear A100
    obtain rfl := Option.some.inj H
    have hcz11_0 : wr.cell? ⟨gb276, 0, none⟩ = some (.slice A0_0 l0_0.length c0_0) := (blk_cell BK276.out 0).trans rfl
    have hfz11_0 := blk_frozen BK276.out 0
    go_wp2_with (first | ((with_reducible refine gate_callee (f := 64) rfl ?_); refine goesL_ (some 24) rfl rfl Try.func64 (by kernel_rfl) rfl #[.int .i64 (l0_0.length : Int), .int .i64 1, .int .i64 8] rfl (by (try simp only [List.map_toArray, List.map_cons, List.map_nil]); first | done | rfl | (simp only [List.length_drop, List.length_take]; rfl)) ?_; (with_reducible refine (impl_within.calls (l0_0.length : Int) 1 8 t279 _ A10.out).mono ?_); rintro e w' ⟨rfl, ⟨nd, rfl⟩⟩; refine ⟨_, rfl, ?_⟩))
    go_ret
    exact ⟨by first | rfl | (simp [errW_none, errW_some] <;> rfl) | (simp [*, errW_none, errW_some] <;> rfl), by repeat (first | (with_reducible first | exact HB.out | apply below_alloc | apply pw_below_drewN | apply below_drew1 | refine below_set ?_ GE276.out) | exact HB.out)⟩

/-! ### impl_MemOk: function 30 -/
def impl_MemOk.f (k : Nat) (l0_0 : List (List Int)) (l1_0 : List Int) (a1_1 : Int) : Option (Bool) := (impl_ImageOk.f k l0_0).bind fun t282 => (if t282 = true then (if (l1_0.length : Int) = 512 then ((impl_bytesOk.f k l1_0).bind fun t283 => (if t283 = true then ((impl_within.f a1_1 0 (wrap64 ((l0_0.length : Int) - 1))).bind fun t284 => (some t284)) else (some false))) else (some false)) else (some false))
theorem impl_MemOk.mono : ∀ a0 a1 a2 k, LeO (impl_MemOk.f k a0 a1 a2) (impl_MemOk.f (k + 1) a0 a1 a2) := by
 intro a0 a1 a2 k
 unfold impl_MemOk.f
 repeat' first
   | (with_reducible exact impl_ImageOk.mono _ _)
   | (with_reducible exact impl_bytesOk.mono _ _)
   | (with_reducible exact LeO.refl _)
   | (with_reducible exact LeO.none _)
   | (with_reducible refine LeO.ite ?_ ?_)
   | (with_reducible refine LeO.bind ?_ (fun _ => ?_))
   | exact impl_ImageOk.mono _ _
   | exact impl_bytesOk.mono _ _
   | exact LeO.none _
   | refine LeO.ite ?_ ?_
   | refine LeO.bind ?_ (fun _ => ?_)
set_option maxHeartbeats 8000000 in
set_option maxRecDepth 100000 in
theorem impl_MemOk.calls (k : Nat) (A0_0 : Option Addr) (c0_0 : Nat) (l0_0 : List (List Int)) (A1_0 : Option Addr) (c1_0 : Nat) (l1_0 : List Int) (a1_1 : Int) (r : Bool) (w : World) (hr0_0 : Kd.C (Kd.slice 3 (Kd.int .i64)) w A0_0 l0_0.length l0_0) (hc0_0 : l0_0.length ≤ c0_0) (hr1_0 : Kd.C (Kd.int .i64) w A1_0 l1_0.length l1_0) (hc1_0 : l1_0.length ≤ c1_0) (h : impl_MemOk.f k l0_0 l1_0 a1_1 = some r) :
  Calls Try.prog 30 #[.agg #[.slice A0_0 l0_0.length c0_0], .agg #[.slice A1_0 l1_0.length c1_0, .int .i64 a1_1]] w fun e w' => e = .returned (.bool r) ∧ Below w.heap.size w w' := by
 have hu27 := Try.underlying27
 have hu37 := Try.underlying37
 have HR0_0 := Aside0.mk hr0_0
 have HC0_0 := Aside0.mk hc0_0
 clear hr0_0 hc0_0
 have HR1_0 := Aside0.mk hr1_0
 have HC1_0 := Aside0.mk hc1_0
 clear hr1_0 hc1_0
 have HB := Aside0.mk (Below.refl w.heap.size w)
 have H : ((impl_ImageOk.f k l0_0).bind fun t282 => (if t282 = true then (if (l1_0.length : Int) = 512 then ((impl_bytesOk.f k l1_0).bind fun t283 => (if t283 = true then ((impl_within.f a1_1 0 (wrap64 ((l0_0.length : Int) - 1))).bind fun t284 => (some t284)) else (some false))) else (some false)) else (some false))) = some r := h
 clear h
 replace H := Option.bind_eq_some_iff.mp H
 obtain ⟨t282, A30, H⟩ := H
 replace H : (if t282 = true then (if (l1_0.length : Int) = 512 then ((impl_bytesOk.f k l1_0).bind fun t283 => (if t283 = true then ((impl_within.f a1_1 0 (wrap64 ((l0_0.length : Int) - 1))).bind fun t284 => (some t284)) else (some false))) else (some false)) else (some false)) = some r := H
 have A3 := Aside0.mk A30
 clear A30
 by_cases c4 : t282 = true
 ·subst c4
  have H1 : (if (l1_0.length : Int) = 512 then ((impl_bytesOk.f k l1_0).bind fun t283 => (if t283 = true then ((impl_within.f a1_1 0 (wrap64 ((l0_0.length : Int) - 1))).bind fun t284 => (some t284)) else (some false))) else (some false)) = some r := by rw [if_pos rfl] at H; exact H
  clear H
  have H := H1
  clear H1
  by_cases c5 : (l1_0.length : Int) = 512
  ·rw [if_pos c5] at H
   have c5b0 : ((l1_0.length : Int) == 512) = true := beq_iff_eq.mpr c5
   have c5b1 : ((l1_0.length : Int) != 512) = false := bne_eq_false_iff_eq.mpr c5
   clear c5
   replace H := Option.bind_eq_some_iff.mp H
   obtain ⟨t283, A60, H⟩ := H
   replace H : (if t283 = true then ((impl_within.f a1_1 0 (wrap64 ((l0_0.length : Int) - 1))).bind fun t284 => (some t284)) else (some false)) = some r := H
   have A6 := Aside0.mk A60
   clear A60
   by_cases c7 : t283 = true
   ·subst c7
    have H1 : ((impl_within.f a1_1 0 (wrap64 ((l0_0.length : Int) - 1))).bind fun t284 => (some t284)) = some r := by rw [if_pos rfl] at H; exact H
    clear H
    have H := H1
    clear H1
    replace H := Option.bind_eq_some_iff.mp H
    obtain ⟨t284, A80, H⟩ := H
    replace H : (some t284) = some r := H
    have A8 := Aside0.mk A80
    clear A80
    obtain rfl := Option.some.inj H
    go_enter Try.func30, Try.ntmps30
    go_wp2_with (first | ((with_reducible refine gate_dst (N := 2) rfl ?_); (try (refine gate_guard (by rfl) ?_; dsimp only)); refine box_event ?hg (N := 2) ?hd (cs := #[.slice A0_0 l0_0.length c0_0]) (t := 27) ?hr ?_; (case hd => rfl); (case hg => rfl); (case hr => first | (go_simp; done) | (go_simp; rfl)); intro gb280 hg w9 hbox hb; have n0_ := Aside0.mk (below_step (by repeat (first | (with_reducible first | exact HB.out | apply below_alloc | apply pw_below_drewN | apply below_drew1) | exact HB.out)) hb); have n1_ := Aside0.mk (hbox); have n2_ := Aside0.mk ((by rw [hg]; exact (below_size (by repeat (first | (with_reducible first | exact HB.out | apply below_alloc | apply pw_below_drewN | apply below_drew1) | exact HB.out))) : w.heap.size ≤ gb280)); have n3_ := Aside0.mk ((by rw [hg]; exact (below_size (by repeat (first | (with_reducible first | exact HB.out | apply below_alloc | apply pw_below_drewN | apply below_drew1) | exact HB.out))) : w.heap.size ≤ gb280)); clear HB; have HB := n0_; have BK280 := n1_; have GW280 := n2_; have GE280 := n3_; clear n0_ n1_ n2_ n3_; clear hb hbox hg) | ((with_reducible refine gate_dst (N := 3) rfl ?_); (try (refine gate_guard (by rfl) ?_; dsimp only)); refine box_event ?hg (N := 3) ?hd (cs := #[.slice A1_0 l1_0.length c1_0, .int .i64 a1_1]) (t := 37) ?hr ?_; (case hd => rfl); (case hg => rfl); (case hr => first | (go_simp; done) | (go_simp; rfl)); intro gb281 hg w10 hbox hb; have n0_ := Aside0.mk (blk_below (g := gb280) (o := .cells #[.slice A0_0 l0_0.length c0_0] 27 (0, 0)) (by (with_reducible repeat (first | refine blk_drewN ?_ _ | refine blk_drew ?_ | refine blk_alloc ?_ _)); exact BK280.out) hb); have n1_ := Aside0.mk (below_step (by repeat (first | (with_reducible first | exact HB.out | apply below_alloc | apply pw_below_drewN | apply below_drew1 | refine below_set ?_ GE280.out) | exact HB.out)) hb); have n2_ := Aside0.mk (hbox); have n3_ := Aside0.mk ((by rw [hg]; exact (below_size (by repeat (first | (with_reducible first | exact HB.out | apply below_alloc | apply pw_below_drewN | apply below_drew1 | refine below_set ?_ GE280.out) | exact HB.out))) : w.heap.size ≤ gb281)); have n4_ := Aside0.mk ((by rw [hg]; exact (below_size (by repeat (first | (with_reducible first | exact HB.out | apply below_alloc | apply pw_below_drewN | apply below_drew1 | refine below_set ?_ GE280.out) | exact HB.out))) : w.heap.size ≤ gb281)); have n5_ := Aside0.mk ((by rw [hg]; exact Nat.ne_of_lt (blk_lt (g := gb280) (o := .cells #[.slice A0_0 l0_0.length c0_0] 27 (0, 0)) (by (with_reducible repeat (first | refine blk_drewN ?_ _ | refine blk_drew ?_ | refine blk_alloc ?_ _)); exact BK280.out)) : gb280 ≠ gb281)); have n6_ := Aside0.mk ((by rw [hg]; exact Nat.ne_of_gt (blk_lt (g := gb280) (o := .cells #[.slice A0_0 l0_0.length c0_0] 27 (0, 0)) (by (with_reducible repeat (first | refine blk_drewN ?_ _ | refine blk_drew ?_ | refine blk_alloc ?_ _)); exact BK280.out)) : gb281 ≠ gb280)); clear BK280; clear HB; have BK280 := n0_; have HB := n1_; have BK281 := n2_; have GW281 := n3_; have GE281 := n4_; have NB280_281 := n5_; have NB281_280 := n6_; clear n0_ n1_ n2_ n3_ n4_ n5_ n6_; clear hb hbox hg; have hnb11 := NB280_281.out; have hnc11 := NB281_280.out; have hcz12_0 : w10.cell? ⟨gb280, 0, none⟩ = some (.slice A0_0 l0_0.length c0_0) := (blk_cell BK280.out 0).trans rfl; have hfz12_0 := blk_frozen BK280.out 0) | ((with_reducible refine gate_callee (f := 18) rfl ?_); refine goesL_ (some 6) rfl rfl Try.func18 (by kernel_rfl) rfl #[.agg #[.slice A0_0 l0_0.length c0_0]] rfl (by (try simp only [List.map_toArray, List.map_cons, List.map_nil]); first | done | rfl | (simp only [List.length_drop, List.length_take]; rfl)) ?_; (with_reducible refine (impl_ImageOk.calls k _ _ l0_0 true _ ?side1 ?side2 A3.out).mono ?_); (case side1 => repeat (first | exact (Kd.C_below HR0_0.out HB.out) | (with_reducible refine Kd.C_alloc ?_ _) | (with_reducible refine Kd.C_drewN ?_ _) | (with_reducible refine Kd.C_drew ?_))); (case side2 => exact HC0_0.out); rintro e w13 ⟨rfl, hb⟩; refine ⟨_, rfl, ?_⟩; have n0_ := Aside0.mk (blk_below (g := gb280) (o := .cells #[.slice A0_0 l0_0.length c0_0] 27 (0, 0)) (by (with_reducible repeat (first | refine blk_drewN ?_ _ | refine blk_drew ?_ | refine blk_alloc ?_ _)); exact BK280.out) hb); have n1_ := Aside0.mk (blk_below (g := gb281) (o := .cells #[.slice A1_0 l1_0.length c1_0, .int .i64 a1_1] 37 (0, 0)) (by (with_reducible repeat (first | refine blk_drewN ?_ _ | refine blk_drew ?_ | refine blk_alloc ?_ _)); exact BK281.out) hb); have n2_ := Aside0.mk (below_step (by repeat (first | (with_reducible first | exact HB.out | apply below_alloc | apply pw_below_drewN | apply below_drew1 | refine below_set ?_ GE280.out | refine below_set ?_ GE281.out) | exact HB.out)) hb); clear BK280; clear BK281; clear HB; have BK280 := n0_; have BK281 := n1_; have HB := n2_; clear n0_ n1_ n2_; (try clear hb); (try clear hb2); (try clear hk); (try clear hi); have hcz14_0 : w13.cell? ⟨gb281, 0, none⟩ = some (.slice A1_0 l1_0.length c1_0) := (blk_cell BK281.out 0).trans rfl; have hcz14_1 : w13.cell? ⟨gb281, 1, none⟩ = some (.int .i64 a1_1) := (blk_cell BK281.out 1).trans rfl; have hfz14_0 := blk_frozen BK281.out 0; have hfz14_1 := blk_frozen BK281.out 1) | (go_at_call 63; (with_reducible refine (impl_bytesOk.calls k _ _ l1_0 true _ ?side1 ?side2 A6.out).mono ?_); (case side1 => repeat (first | exact (Kd.C_below HR1_0.out HB.out) | (with_reducible refine Kd.C_alloc ?_ _) | (with_reducible refine Kd.C_drewN ?_ _) | (with_reducible refine Kd.C_drew ?_))); (case side2 => exact HC1_0.out); rintro e w' ⟨rfl, ⟨nd, rfl⟩⟩; have hcz15_0 : w13.cell? ⟨gb280, 0, none⟩ = some (.slice A0_0 l0_0.length c0_0) := (blk_cell BK280.out 0).trans rfl; have hfz15_0 := blk_frozen BK280.out 0) | (go_at_call 64; (with_reducible refine (impl_within.calls a1_1 0 (wrap64 ((l0_0.length : Int) - 1)) t284 _ A8.out).mono ?_); rintro e w' ⟨rfl, ⟨nd, rfl⟩⟩))
    go_ret
    exact ⟨by first | rfl | (simp [errW_none, errW_some] <;> rfl) | (simp [*, errW_none, errW_some] <;> rfl), by repeat (first | (with_reducible first | exact HB.out | apply below_alloc | apply pw_below_drewN | apply below_drew1 | refine below_set ?_ GE280.out | refine below_set ?_ GE281.out) | exact HB.out)⟩
   ·replace c7 := Bool.eq_false_iff.mpr c7
    subst c7
    have H1 : (some false) = some r := by rw [if_neg (show ¬ (false = true) by decide)] at H; exact H
    clear H
    have H := H1
    clear H1
    obtain rfl := Option.some.inj H
    go_enter Try.func30, Try.ntmps30
    go_wp2_with (first | ((with_reducible refine gate_dst (N := 2) rfl ?_); (try (refine gate_guard (by rfl) ?_; dsimp only)); refine box_event ?hg (N := 2) ?hd (cs := #[.slice A0_0 l0_0.length c0_0]) (t := 27) ?hr ?_; (case hd => rfl); (case hg => rfl); (case hr => first | (go_simp; done) | (go_simp; rfl)); intro gb280 hg w16 hbox hb; have n0_ := Aside0.mk (below_step (by repeat (first | (with_reducible first | exact HB.out | apply below_alloc | apply pw_below_drewN | apply below_drew1) | exact HB.out)) hb); have n1_ := Aside0.mk (hbox); have n2_ := Aside0.mk ((by rw [hg]; exact (below_size (by repeat (first | (with_reducible first | exact HB.out | apply below_alloc | apply pw_below_drewN | apply below_drew1) | exact HB.out))) : w.heap.size ≤ gb280)); have n3_ := Aside0.mk ((by rw [hg]; exact (below_size (by repeat (first | (with_reducible first | exact HB.out | apply below_alloc | apply pw_below_drewN | apply below_drew1) | exact HB.out))) : w.heap.size ≤ gb280)); clear HB; have HB := n0_; have BK280 := n1_; have GW280 := n2_; have GE280 := n3_; clear n0_ n1_ n2_ n3_; clear hb hbox hg) | ((with_reducible refine gate_dst (N := 3) rfl ?_); (try (refine gate_guard (by rfl) ?_; dsimp only)); refine box_event ?hg (N := 3) ?hd (cs := #[.slice A1_0 l1_0.length c1_0, .int .i64 a1_1]) (t := 37) ?hr ?_; (case hd => rfl); (case hg => rfl); (case hr => first | (go_simp; done) | (go_simp; rfl)); intro gb281 hg w17 hbox hb; have n0_ := Aside0.mk (blk_below (g := gb280) (o := .cells #[.slice A0_0 l0_0.length c0_0] 27 (0, 0)) (by (with_reducible repeat (first | refine blk_drewN ?_ _ | refine blk_drew ?_ | refine blk_alloc ?_ _)); exact BK280.out) hb); have n1_ := Aside0.mk (below_step (by repeat (first | (with_reducible first | exact HB.out | apply below_alloc | apply pw_below_drewN | apply below_drew1 | refine below_set ?_ GE280.out) | exact HB.out)) hb); have n2_ := Aside0.mk (hbox); have n3_ := Aside0.mk ((by rw [hg]; exact (below_size (by repeat (first | (with_reducible first | exact HB.out | apply below_alloc | apply pw_below_drewN | apply below_drew1 | refine below_set ?_ GE280.out) | exact HB.out))) : w.heap.size ≤ gb281)); have n4_ := Aside0.mk ((by rw [hg]; exact (below_size (by repeat (first | (with_reducible first | exact HB.out | apply below_alloc | apply pw_below_drewN | apply below_drew1 | refine below_set ?_ GE280.out) | exact HB.out))) : w.heap.size ≤ gb281)); have n5_ := Aside0.mk ((by rw [hg]; exact Nat.ne_of_lt (blk_lt (g := gb280) (o := .cells #[.slice A0_0 l0_0.length c0_0] 27 (0, 0)) (by (with_reducible repeat (first | refine blk_drewN ?_ _ | refine blk_drew ?_ | refine blk_alloc ?_ _)); exact BK280.out)) : gb280 ≠ gb281)); have n6_ := Aside0.mk ((by rw [hg]; exact Nat.ne_of_gt (blk_lt (g := gb280) (o := .cells #[.slice A0_0 l0_0.length c0_0] 27 (0, 0)) (by (with_reducible repeat (first | refine blk_drewN ?_ _ | refine blk_drew ?_ | refine blk_alloc ?_ _)); exact BK280.out)) : gb281 ≠ gb280)); clear BK280; clear HB; have BK280 := n0_; have HB := n1_; have BK281 := n2_; have GW281 := n3_; have GE281 := n4_; have NB280_281 := n5_; have NB281_280 := n6_; clear n0_ n1_ n2_ n3_ n4_ n5_ n6_; clear hb hbox hg; have hnb18 := NB280_281.out; have hnc18 := NB281_280.out; have hcz19_0 : w17.cell? ⟨gb280, 0, none⟩ = some (.slice A0_0 l0_0.length c0_0) := (blk_cell BK280.out 0).trans rfl; have hfz19_0 := blk_frozen BK280.out 0) | ((with_reducible refine gate_callee (f := 18) rfl ?_); refine goesL_ (some 6) rfl rfl Try.func18 (by kernel_rfl) rfl #[.agg #[.slice A0_0 l0_0.length c0_0]] rfl (by (try simp only [List.map_toArray, List.map_cons, List.map_nil]); first | done | rfl | (simp only [List.length_drop, List.length_take]; rfl)) ?_; (with_reducible refine (impl_ImageOk.calls k _ _ l0_0 true _ ?side1 ?side2 A3.out).mono ?_); (case side1 => repeat (first | exact (Kd.C_below HR0_0.out HB.out) | (with_reducible refine Kd.C_alloc ?_ _) | (with_reducible refine Kd.C_drewN ?_ _) | (with_reducible refine Kd.C_drew ?_))); (case side2 => exact HC0_0.out); rintro e w20 ⟨rfl, hb⟩; refine ⟨_, rfl, ?_⟩; have n0_ := Aside0.mk (blk_below (g := gb280) (o := .cells #[.slice A0_0 l0_0.length c0_0] 27 (0, 0)) (by (with_reducible repeat (first | refine blk_drewN ?_ _ | refine blk_drew ?_ | refine blk_alloc ?_ _)); exact BK280.out) hb); have n1_ := Aside0.mk (blk_below (g := gb281) (o := .cells #[.slice A1_0 l1_0.length c1_0, .int .i64 a1_1] 37 (0, 0)) (by (with_reducible repeat (first | refine blk_drewN ?_ _ | refine blk_drew ?_ | refine blk_alloc ?_ _)); exact BK281.out) hb); have n2_ := Aside0.mk (below_step (by repeat (first | (with_reducible first | exact HB.out | apply below_alloc | apply pw_below_drewN | apply below_drew1 | refine below_set ?_ GE280.out | refine below_set ?_ GE281.out) | exact HB.out)) hb); clear BK280; clear BK281; clear HB; have BK280 := n0_; have BK281 := n1_; have HB := n2_; clear n0_ n1_ n2_; (try clear hb); (try clear hb2); (try clear hk); (try clear hi); have hcz21_0 : w20.cell? ⟨gb281, 0, none⟩ = some (.slice A1_0 l1_0.length c1_0) := (blk_cell BK281.out 0).trans rfl; have hcz21_1 : w20.cell? ⟨gb281, 1, none⟩ = some (.int .i64 a1_1) := (blk_cell BK281.out 1).trans rfl; have hfz21_0 := blk_frozen BK281.out 0; have hfz21_1 := blk_frozen BK281.out 1) | (go_at_call 63; (with_reducible refine (impl_bytesOk.calls k _ _ l1_0 false _ ?side1 ?side2 A6.out).mono ?_); (case side1 => repeat (first | exact (Kd.C_below HR1_0.out HB.out) | (with_reducible refine Kd.C_alloc ?_ _) | (with_reducible refine Kd.C_drewN ?_ _) | (with_reducible refine Kd.C_drew ?_))); (case side2 => exact HC1_0.out); rintro e w' ⟨rfl, ⟨nd, rfl⟩⟩))
    go_ret
    exact ⟨by first | rfl | (simp [errW_none, errW_some] <;> rfl) | (simp [*, errW_none, errW_some] <;> rfl), by repeat (first | (with_reducible first | exact HB.out | apply below_alloc | apply pw_below_drewN | apply below_drew1 | refine below_set ?_ GE280.out | refine below_set ?_ GE281.out) | exact HB.out)⟩
  ·rw [if_neg c5] at H
   have c5b0 : ((l1_0.length : Int) == 512) = false := beq_eq_false_iff_ne.mpr c5
   have c5b1 : ((l1_0.length : Int) != 512) = true := bne_iff_ne.mpr c5
   obtain rfl := Option.some.inj H
   go_enter Try.func30, Try.ntmps30
   go_wp2_with (first | ((with_reducible refine gate_dst (N := 2) rfl ?_); (try (refine gate_guard (by rfl) ?_; dsimp only)); refine box_event ?hg (N := 2) ?hd (cs := #[.slice A0_0 l0_0.length c0_0]) (t := 27) ?hr ?_; (case hd => rfl); (case hg => rfl); (case hr => first | (go_simp; done) | (go_simp; rfl)); intro gb280 hg w22 hbox hb; have n0_ := Aside0.mk (below_step (by repeat (first | (with_reducible first | exact HB.out | apply below_alloc | apply pw_below_drewN | apply below_drew1) | exact HB.out)) hb); have n1_ := Aside0.mk (hbox); have n2_ := Aside0.mk ((by rw [hg]; exact (below_size (by repeat (first | (with_reducible first | exact HB.out | apply below_alloc | apply pw_below_drewN | apply below_drew1) | exact HB.out))) : w.heap.size ≤ gb280)); have n3_ := Aside0.mk ((by rw [hg]; exact (below_size (by repeat (first | (with_reducible first | exact HB.out | apply below_alloc | apply pw_below_drewN | apply below_drew1) | exact HB.out))) : w.heap.size ≤ gb280)); clear HB; have HB := n0_; have BK280 := n1_; have GW280 := n2_; have GE280 := n3_; clear n0_ n1_ n2_ n3_; clear hb hbox hg) | ((with_reducible refine gate_dst (N := 3) rfl ?_); (try (refine gate_guard (by rfl) ?_; dsimp only)); refine box_event ?hg (N := 3) ?hd (cs := #[.slice A1_0 l1_0.length c1_0, .int .i64 a1_1]) (t := 37) ?hr ?_; (case hd => rfl); (case hg => rfl); (case hr => first | (go_simp; done) | (go_simp; rfl)); intro gb281 hg w23 hbox hb; have n0_ := Aside0.mk (blk_below (g := gb280) (o := .cells #[.slice A0_0 l0_0.length c0_0] 27 (0, 0)) (by (with_reducible repeat (first | refine blk_drewN ?_ _ | refine blk_drew ?_ | refine blk_alloc ?_ _)); exact BK280.out) hb); have n1_ := Aside0.mk (below_step (by repeat (first | (with_reducible first | exact HB.out | apply below_alloc | apply pw_below_drewN | apply below_drew1 | refine below_set ?_ GE280.out) | exact HB.out)) hb); have n2_ := Aside0.mk (hbox); have n3_ := Aside0.mk ((by rw [hg]; exact (below_size (by repeat (first | (with_reducible first | exact HB.out | apply below_alloc | apply pw_below_drewN | apply below_drew1 | refine below_set ?_ GE280.out) | exact HB.out))) : w.heap.size ≤ gb281)); have n4_ := Aside0.mk ((by rw [hg]; exact (below_size (by repeat (first | (with_reducible first | exact HB.out | apply below_alloc | apply pw_below_drewN | apply below_drew1 | refine below_set ?_ GE280.out) | exact HB.out))) : w.heap.size ≤ gb281)); have n5_ := Aside0.mk ((by rw [hg]; exact Nat.ne_of_lt (blk_lt (g := gb280) (o := .cells #[.slice A0_0 l0_0.length c0_0] 27 (0, 0)) (by (with_reducible repeat (first | refine blk_drewN ?_ _ | refine blk_drew ?_ | refine blk_alloc ?_ _)); exact BK280.out)) : gb280 ≠ gb281)); have n6_ := Aside0.mk ((by rw [hg]; exact Nat.ne_of_gt (blk_lt (g := gb280) (o := .cells #[.slice A0_0 l0_0.length c0_0] 27 (0, 0)) (by (with_reducible repeat (first | refine blk_drewN ?_ _ | refine blk_drew ?_ | refine blk_alloc ?_ _)); exact BK280.out)) : gb281 ≠ gb280)); clear BK280; clear HB; have BK280 := n0_; have HB := n1_; have BK281 := n2_; have GW281 := n3_; have GE281 := n4_; have NB280_281 := n5_; have NB281_280 := n6_; clear n0_ n1_ n2_ n3_ n4_ n5_ n6_; clear hb hbox hg; have hnb24 := NB280_281.out; have hnc24 := NB281_280.out; have hcz25_0 : w23.cell? ⟨gb280, 0, none⟩ = some (.slice A0_0 l0_0.length c0_0) := (blk_cell BK280.out 0).trans rfl; have hfz25_0 := blk_frozen BK280.out 0) | ((with_reducible refine gate_callee (f := 18) rfl ?_); refine goesL_ (some 6) rfl rfl Try.func18 (by kernel_rfl) rfl #[.agg #[.slice A0_0 l0_0.length c0_0]] rfl (by (try simp only [List.map_toArray, List.map_cons, List.map_nil]); first | done | rfl | (simp only [List.length_drop, List.length_take]; rfl)) ?_; (with_reducible refine (impl_ImageOk.calls k _ _ l0_0 true _ ?side1 ?side2 A3.out).mono ?_); (case side1 => repeat (first | exact (Kd.C_below HR0_0.out HB.out) | (with_reducible refine Kd.C_alloc ?_ _) | (with_reducible refine Kd.C_drewN ?_ _) | (with_reducible refine Kd.C_drew ?_))); (case side2 => exact HC0_0.out); rintro e w26 ⟨rfl, hb⟩; refine ⟨_, rfl, ?_⟩; have n0_ := Aside0.mk (blk_below (g := gb280) (o := .cells #[.slice A0_0 l0_0.length c0_0] 27 (0, 0)) (by (with_reducible repeat (first | refine blk_drewN ?_ _ | refine blk_drew ?_ | refine blk_alloc ?_ _)); exact BK280.out) hb); have n1_ := Aside0.mk (blk_below (g := gb281) (o := .cells #[.slice A1_0 l1_0.length c1_0, .int .i64 a1_1] 37 (0, 0)) (by (with_reducible repeat (first | refine blk_drewN ?_ _ | refine blk_drew ?_ | refine blk_alloc ?_ _)); exact BK281.out) hb); have n2_ := Aside0.mk (below_step (by repeat (first | (with_reducible first | exact HB.out | apply below_alloc | apply pw_below_drewN | apply below_drew1 | refine below_set ?_ GE280.out | refine below_set ?_ GE281.out) | exact HB.out)) hb); clear BK280; clear BK281; clear HB; have BK280 := n0_; have BK281 := n1_; have HB := n2_; clear n0_ n1_ n2_; (try clear hb); (try clear hb2); (try clear hk); (try clear hi); have hcz27_0 : w26.cell? ⟨gb281, 0, none⟩ = some (.slice A1_0 l1_0.length c1_0) := (blk_cell BK281.out 0).trans rfl; have hcz27_1 : w26.cell? ⟨gb281, 1, none⟩ = some (.int .i64 a1_1) := (blk_cell BK281.out 1).trans rfl; have hfz27_0 := blk_frozen BK281.out 0; have hfz27_1 := blk_frozen BK281.out 1))
   go_ret
   exact ⟨by first | rfl | (simp [errW_none, errW_some] <;> rfl) | (simp [*, errW_none, errW_some] <;> rfl), by repeat (first | (with_reducible first | exact HB.out | apply below_alloc | apply pw_below_drewN | apply below_drew1 | refine below_set ?_ GE280.out | refine below_set ?_ GE281.out) | exact HB.out)⟩
 ·replace c4 := Bool.eq_false_iff.mpr c4
  subst c4
  have H1 : (some false) = some r := by rw [if_neg (show ¬ (false = true) by decide)] at H; exact H
  clear H
  have H := H1
  clear H1
  obtain rfl := Option.some.inj H
  go_enter Try.func30, Try.ntmps30
  go_wp2_with (first | ((with_reducible refine gate_dst (N := 2) rfl ?_); (try (refine gate_guard (by rfl) ?_; dsimp only)); refine box_event ?hg (N := 2) ?hd (cs := #[.slice A0_0 l0_0.length c0_0]) (t := 27) ?hr ?_; (case hd => rfl); (case hg => rfl); (case hr => first | (go_simp; done) | (go_simp; rfl)); intro gb280 hg w28 hbox hb; have n0_ := Aside0.mk (below_step (by repeat (first | (with_reducible first | exact HB.out | apply below_alloc | apply pw_below_drewN | apply below_drew1) | exact HB.out)) hb); have n1_ := Aside0.mk (hbox); have n2_ := Aside0.mk ((by rw [hg]; exact (below_size (by repeat (first | (with_reducible first | exact HB.out | apply below_alloc | apply pw_below_drewN | apply below_drew1) | exact HB.out))) : w.heap.size ≤ gb280)); have n3_ := Aside0.mk ((by rw [hg]; exact (below_size (by repeat (first | (with_reducible first | exact HB.out | apply below_alloc | apply pw_below_drewN | apply below_drew1) | exact HB.out))) : w.heap.size ≤ gb280)); clear HB; have HB := n0_; have BK280 := n1_; have GW280 := n2_; have GE280 := n3_; clear n0_ n1_ n2_ n3_; clear hb hbox hg) | ((with_reducible refine gate_dst (N := 3) rfl ?_); (try (refine gate_guard (by rfl) ?_; dsimp only)); refine box_event ?hg (N := 3) ?hd (cs := #[.slice A1_0 l1_0.length c1_0, .int .i64 a1_1]) (t := 37) ?hr ?_; (case hd => rfl); (case hg => rfl); (case hr => first | (go_simp; done) | (go_simp; rfl)); intro gb281 hg w29 hbox hb; have n0_ := Aside0.mk (blk_below (g := gb280) (o := .cells #[.slice A0_0 l0_0.length c0_0] 27 (0, 0)) (by (with_reducible repeat (first | refine blk_drewN ?_ _ | refine blk_drew ?_ | refine blk_alloc ?_ _)); exact BK280.out) hb); have n1_ := Aside0.mk (below_step (by repeat (first | (with_reducible first | exact HB.out | apply below_alloc | apply pw_below_drewN | apply below_drew1 | refine below_set ?_ GE280.out) | exact HB.out)) hb); have n2_ := Aside0.mk (hbox); have n3_ := Aside0.mk ((by rw [hg]; exact (below_size (by repeat (first | (with_reducible first | exact HB.out | apply below_alloc | apply pw_below_drewN | apply below_drew1 | refine below_set ?_ GE280.out) | exact HB.out))) : w.heap.size ≤ gb281)); have n4_ := Aside0.mk ((by rw [hg]; exact (below_size (by repeat (first | (with_reducible first | exact HB.out | apply below_alloc | apply pw_below_drewN | apply below_drew1 | refine below_set ?_ GE280.out) | exact HB.out))) : w.heap.size ≤ gb281)); have n5_ := Aside0.mk ((by rw [hg]; exact Nat.ne_of_lt (blk_lt (g := gb280) (o := .cells #[.slice A0_0 l0_0.length c0_0] 27 (0, 0)) (by (with_reducible repeat (first | refine blk_drewN ?_ _ | refine blk_drew ?_ | refine blk_alloc ?_ _)); exact BK280.out)) : gb280 ≠ gb281)); have n6_ := Aside0.mk ((by rw [hg]; exact Nat.ne_of_gt (blk_lt (g := gb280) (o := .cells #[.slice A0_0 l0_0.length c0_0] 27 (0, 0)) (by (with_reducible repeat (first | refine blk_drewN ?_ _ | refine blk_drew ?_ | refine blk_alloc ?_ _)); exact BK280.out)) : gb281 ≠ gb280)); clear BK280; clear HB; have BK280 := n0_; have HB := n1_; have BK281 := n2_; have GW281 := n3_; have GE281 := n4_; have NB280_281 := n5_; have NB281_280 := n6_; clear n0_ n1_ n2_ n3_ n4_ n5_ n6_; clear hb hbox hg; have hnb30 := NB280_281.out; have hnc30 := NB281_280.out; have hcz31_0 : w29.cell? ⟨gb280, 0, none⟩ = some (.slice A0_0 l0_0.length c0_0) := (blk_cell BK280.out 0).trans rfl; have hfz31_0 := blk_frozen BK280.out 0) | ((with_reducible refine gate_callee (f := 18) rfl ?_); refine goesL_ (some 6) rfl rfl Try.func18 (by kernel_rfl) rfl #[.agg #[.slice A0_0 l0_0.length c0_0]] rfl (by (try simp only [List.map_toArray, List.map_cons, List.map_nil]); first | done | rfl | (simp only [List.length_drop, List.length_take]; rfl)) ?_; (with_reducible refine (impl_ImageOk.calls k _ _ l0_0 false _ ?side1 ?side2 A3.out).mono ?_); (case side1 => repeat (first | exact (Kd.C_below HR0_0.out HB.out) | (with_reducible refine Kd.C_alloc ?_ _) | (with_reducible refine Kd.C_drewN ?_ _) | (with_reducible refine Kd.C_drew ?_))); (case side2 => exact HC0_0.out); rintro e w32 ⟨rfl, hb⟩; refine ⟨_, rfl, ?_⟩; have n0_ := Aside0.mk (blk_below (g := gb280) (o := .cells #[.slice A0_0 l0_0.length c0_0] 27 (0, 0)) (by (with_reducible repeat (first | refine blk_drewN ?_ _ | refine blk_drew ?_ | refine blk_alloc ?_ _)); exact BK280.out) hb); have n1_ := Aside0.mk (blk_below (g := gb281) (o := .cells #[.slice A1_0 l1_0.length c1_0, .int .i64 a1_1] 37 (0, 0)) (by (with_reducible repeat (first | refine blk_drewN ?_ _ | refine blk_drew ?_ | refine blk_alloc ?_ _)); exact BK281.out) hb); have n2_ := Aside0.mk (below_step (by repeat (first | (with_reducible first | exact HB.out | apply below_alloc | apply pw_below_drewN | apply below_drew1 | refine below_set ?_ GE280.out | refine below_set ?_ GE281.out) | exact HB.out)) hb); clear BK280; clear BK281; clear HB; have BK280 := n0_; have BK281 := n1_; have HB := n2_; clear n0_ n1_ n2_; (try clear hb); (try clear hb2); (try clear hk); (try clear hi)))
  go_ret
  exact ⟨by first | rfl | (simp [errW_none, errW_some] <;> rfl) | (simp [*, errW_none, errW_some] <;> rfl), by repeat (first | (with_reducible first | exact HB.out | apply below_alloc | apply pw_below_drewN | apply below_drew1 | refine below_set ?_ GE280.out | refine below_set ?_ GE281.out) | exact HB.out)⟩

/-! ### impl_Addr: function 109 -/
def impl_Addr.f (a0 : Int) : Option (Int) := some (Go.bits .and .i64 a0 65535)
set_option maxHeartbeats 8000000 in
set_option maxRecDepth 100000 in
theorem impl_Addr.calls (a0 : Int) (r : Int) (w : World) (h : impl_Addr.f a0 = some r) :
  Calls Try.prog 109 #[.int .i64 a0] w fun e w' => e = .returned (.int .i64 r) ∧ Drawn0 w w' := by
 have H : (some (Go.bits .and .i64 a0 65535)) = some r := h
 clear h
 obtain rfl := Option.some.inj H
 go_enter Try.func109, Try.ntmps109
 go_wp2
 go_ret
 exact ⟨by first | rfl | (simp; done) | (simp [*]; done), by repeat (first | exact Drawn0.refl _ | apply Drawn0.step)⟩

/-! ### impl_Region: function 100 -/
def impl_Region.f (a0 : Int) : Option (Int × Int) := (impl_Addr.f a0).bind fun t285 => (if t285 < 8192 then (some (1, Int.tmod t285 512)) else (if t285 < 16384 then (some (2, Int.tmod t285 8)) else (if t285 < 16388 then (some (3, Int.tmod t285 4)) else (if t285 = 16406 then (some (4, 0)) else (if t285 < 32768 then (some (7, 0)) else (if t285 < 49152 then (some (5, Int.tmod t285 256)) else (some (6, Int.tmod t285 256))))))))
set_option maxHeartbeats 8000000 in
set_option maxRecDepth 100000 in
theorem impl_Region.calls (a0 : Int) (r1 : Int) (r2 : Int) (w : World) (h : impl_Region.f a0 = some (r1, r2)) :
  Calls Try.prog 100 #[.int .i64 a0] w fun e w' => e = .returned (.tuple #[.int .i64 r1, .int .i64 r2]) ∧ Drawn0 w w' := by
 have H : ((impl_Addr.f a0).bind fun t285 => (if t285 < 8192 then (some (1, Int.tmod t285 512)) else (if t285 < 16384 then (some (2, Int.tmod t285 8)) else (if t285 < 16388 then (some (3, Int.tmod t285 4)) else (if t285 = 16406 then (some (4, 0)) else (if t285 < 32768 then (some (7, 0)) else (if t285 < 49152 then (some (5, Int.tmod t285 256)) else (some (6, Int.tmod t285 256))))))))) = some (r1, r2) := h
 clear h
 replace H := Option.bind_eq_some_iff.mp H
 obtain ⟨t285, A20, H⟩ := H
 replace H : (if t285 < 8192 then (some (1, Int.tmod t285 512)) else (if t285 < 16384 then (some (2, Int.tmod t285 8)) else (if t285 < 16388 then (some (3, Int.tmod t285 4)) else (if t285 = 16406 then (some (4, 0)) else (if t285 < 32768 then (some (7, 0)) else (if t285 < 49152 then (some (5, Int.tmod t285 256)) else (some (6, Int.tmod t285 256)))))))) = some (r1, r2) := H
 have A2 := Aside0.mk A20
 clear A20
 by_cases c3 : t285 < 8192
 ·rw [if_pos c3] at H
  have c3b0 : decide (t285 < 8192) = true := decide_eq_true c3
  clear c3
  simp only [Option.some.injEq, Prod.mk.injEq] at H
  obtain ⟨rfl, rfl⟩ := H
  go_enter Try.func100, Try.ntmps100
  go_wp2_with (first | ((with_reducible refine gate_callee (f := 109) rfl ?_); refine goesL_ (some 5) rfl rfl Try.func109 (by kernel_rfl) rfl #[.int .i64 a0] rfl (by (try simp only [List.map_toArray, List.map_cons, List.map_nil]); first | done | rfl | (simp only [List.length_drop, List.length_take]; rfl)) ?_; (with_reducible refine (impl_Addr.calls a0 t285 _ A2.out).mono ?_); rintro e w' ⟨rfl, ⟨nd, rfl⟩⟩; refine ⟨_, rfl, ?_⟩))
  go_ret2
  exact ⟨by first | rfl | (simp; done) | (simp [*]; done), by repeat (first | exact Drawn0.refl _ | apply Drawn0.step)⟩
 ·rw [if_neg c3] at H
  have c3b0 : decide (t285 < 8192) = false := decide_eq_false c3
  clear c3
  by_cases c4 : t285 < 16384
  ·rw [if_pos c4] at H
   have c4b0 : decide (t285 < 16384) = true := decide_eq_true c4
   clear c4
   simp only [Option.some.injEq, Prod.mk.injEq] at H
   obtain ⟨rfl, rfl⟩ := H
   go_enter Try.func100, Try.ntmps100
   go_wp2_with (first | ((with_reducible refine gate_callee (f := 109) rfl ?_); refine goesL_ (some 5) rfl rfl Try.func109 (by kernel_rfl) rfl #[.int .i64 a0] rfl (by (try simp only [List.map_toArray, List.map_cons, List.map_nil]); first | done | rfl | (simp only [List.length_drop, List.length_take]; rfl)) ?_; (with_reducible refine (impl_Addr.calls a0 t285 _ A2.out).mono ?_); rintro e w' ⟨rfl, ⟨nd, rfl⟩⟩; refine ⟨_, rfl, ?_⟩))
   go_ret2
   exact ⟨by first | rfl | (simp; done) | (simp [*]; done), by repeat (first | exact Drawn0.refl _ | apply Drawn0.step)⟩
  ·rw [if_neg c4] at H
   have c4b0 : decide (t285 < 16384) = false := decide_eq_false c4
   clear c4
   by_cases c5 : t285 < 16388
   ·rw [if_pos c5] at H
    have c5b0 : decide (t285 < 16388) = true := decide_eq_true c5
    clear c5
    simp only [Option.some.injEq, Prod.mk.injEq] at H
    obtain ⟨rfl, rfl⟩ := H
    go_enter Try.func100, Try.ntmps100
    go_wp2_with (first | ((with_reducible refine gate_callee (f := 109) rfl ?_); refine goesL_ (some 5) rfl rfl Try.func109 (by kernel_rfl) rfl #[.int .i64 a0] rfl (by (try simp only [List.map_toArray, List.map_cons, List.map_nil]); first | done | rfl | (simp only [List.length_drop, List.length_take]; rfl)) ?_; (with_reducible refine (impl_Addr.calls a0 t285 _ A2.out).mono ?_); rintro e w' ⟨rfl, ⟨nd, rfl⟩⟩; refine ⟨_, rfl, ?_⟩))
    go_ret2
    exact ⟨by first | rfl | (simp; done) | (simp [*]; done), by repeat (first | exact Drawn0.refl _ | apply Drawn0.step)⟩
   ·rw [if_neg c5] at H
    have c5b0 : decide (t285 < 16388) = false := decide_eq_false c5
    clear c5
    by_cases c6 : t285 = 16406
    ·rw [if_pos c6] at H
     have c6b0 : (t285 == 16406) = true := beq_iff_eq.mpr c6
     have c6b1 : (t285 != 16406) = false := bne_eq_false_iff_eq.mpr c6
     clear c6
     simp only [Option.some.injEq, Prod.mk.injEq] at H
     obtain ⟨rfl, rfl⟩ := H
     go_enter Try.func100, Try.ntmps100
     go_wp2_with (first | ((with_reducible refine gate_callee (f := 109) rfl ?_); refine goesL_ (some 5) rfl rfl Try.func109 (by kernel_rfl) rfl #[.int .i64 a0] rfl (by (try simp only [List.map_toArray, List.map_cons, List.map_nil]); first | done | rfl | (simp only [List.length_drop, List.length_take]; rfl)) ?_; (with_reducible refine (impl_Addr.calls a0 t285 _ A2.out).mono ?_); rintro e w' ⟨rfl, ⟨nd, rfl⟩⟩; refine ⟨_, rfl, ?_⟩))
     go_ret2
     exact ⟨by first | rfl | (simp; done) | (simp [*]; done), by repeat (first | exact Drawn0.refl _ | apply Drawn0.step)⟩
    ·rw [if_neg c6] at H
     have c6b0 : (t285 == 16406) = false := beq_eq_false_iff_ne.mpr c6
     have c6b1 : (t285 != 16406) = true := bne_iff_ne.mpr c6
     by_cases c7 : t285 < 32768
     ·rw [if_pos c7] at H
      have c7b0 : decide (t285 < 32768) = true := decide_eq_true c7
      clear c7
      simp only [Option.some.injEq, Prod.mk.injEq] at H
      obtain ⟨rfl, rfl⟩ := H
      go_enter Try.func100, Try.ntmps100
      go_wp2_with (first | ((with_reducible refine gate_callee (f := 109) rfl ?_); refine goesL_ (some 5) rfl rfl Try.func109 (by kernel_rfl) rfl #[.int .i64 a0] rfl (by (try simp only [List.map_toArray, List.map_cons, List.map_nil]); first | done | rfl | (simp only [List.length_drop, List.length_take]; rfl)) ?_; (with_reducible refine (impl_Addr.calls a0 t285 _ A2.out).mono ?_); rintro e w' ⟨rfl, ⟨nd, rfl⟩⟩; refine ⟨_, rfl, ?_⟩))
      go_ret2
      exact ⟨by first | rfl | (simp; done) | (simp [*]; done), by repeat (first | exact Drawn0.refl _ | apply Drawn0.step)⟩
     ·rw [if_neg c7] at H
      have c7b0 : decide (t285 < 32768) = false := decide_eq_false c7
      clear c7
      by_cases c8 : t285 < 49152
      ·rw [if_pos c8] at H
       have c8b0 : decide (t285 < 49152) = true := decide_eq_true c8
       clear c8
       simp only [Option.some.injEq, Prod.mk.injEq] at H
       obtain ⟨rfl, rfl⟩ := H
       go_enter Try.func100, Try.ntmps100
       go_wp2_with (first | ((with_reducible refine gate_callee (f := 109) rfl ?_); refine goesL_ (some 5) rfl rfl Try.func109 (by kernel_rfl) rfl #[.int .i64 a0] rfl (by (try simp only [List.map_toArray, List.map_cons, List.map_nil]); first | done | rfl | (simp only [List.length_drop, List.length_take]; rfl)) ?_; (with_reducible refine (impl_Addr.calls a0 t285 _ A2.out).mono ?_); rintro e w' ⟨rfl, ⟨nd, rfl⟩⟩; refine ⟨_, rfl, ?_⟩))
       go_ret2
       exact ⟨by first | rfl | (simp; done) | (simp [*]; done), by repeat (first | exact Drawn0.refl _ | apply Drawn0.step)⟩
      ·rw [if_neg c8] at H
       have c8b0 : decide (t285 < 49152) = false := decide_eq_false c8
       clear c8
       simp only [Option.some.injEq, Prod.mk.injEq] at H
       obtain ⟨rfl, rfl⟩ := H
       go_enter Try.func100, Try.ntmps100
       go_wp2_with (first | ((with_reducible refine gate_callee (f := 109) rfl ?_); refine goesL_ (some 5) rfl rfl Try.func109 (by kernel_rfl) rfl #[.int .i64 a0] rfl (by (try simp only [List.map_toArray, List.map_cons, List.map_nil]); first | done | rfl | (simp only [List.length_drop, List.length_take]; rfl)) ?_; (with_reducible refine (impl_Addr.calls a0 t285 _ A2.out).mono ?_); rintro e w' ⟨rfl, ⟨nd, rfl⟩⟩; refine ⟨_, rfl, ?_⟩))
       go_ret2
       exact ⟨by first | rfl | (simp; done) | (simp [*]; done), by repeat (first | exact Drawn0.refl _ | apply Drawn0.step)⟩

/-! ### impl_peek: function 80 -/
def impl_peek.f (l0_0 : List (List Int)) (l1_0 : List Int) (a1_1 : Int) (a2 : Int) : Option (Int) := (impl_Region.f a2).bind fun bt288 => (if bt288.1 = 1 then (if 0 ≤ bt288.2 then (if bt288.2 < (l1_0.length : Int) then (some (rd l1_0 bt288.2)) else (none)) else (none)) else (if bt288.1 = 5 then (if 0 ≤ a1_1 then (if a1_1 < (l0_0.length : Int) then (if 0 ≤ bt288.2 then (if bt288.2 < ((rd_L1 l0_0 a1_1).length : Int) then (some (rd (rd_L1 l0_0 a1_1) bt288.2)) else (none)) else (none)) else (none)) else (none)) else (if bt288.1 = 6 then (if 0 ≤ (wrap64 ((l0_0.length : Int) - 1)) then (if (wrap64 ((l0_0.length : Int) - 1)) < (l0_0.length : Int) then (if 0 ≤ bt288.2 then (if bt288.2 < ((rd_L1 l0_0 (wrap64 ((l0_0.length : Int) - 1))).length : Int) then (some (rd (rd_L1 l0_0 (wrap64 ((l0_0.length : Int) - 1))) bt288.2)) else (none)) else (none)) else (none)) else (none)) else (some 0))))
set_option maxHeartbeats 8000000 in
set_option maxRecDepth 100000 in
theorem impl_peek.calls (A0_0 : Option Addr) (c0_0 : Nat) (l0_0 : List (List Int)) (A1_0 : Option Addr) (c1_0 : Nat) (l1_0 : List Int) (a1_1 : Int) (a2 : Int) (r : Int) (w : World) (hr0_0 : Kd.C (Kd.slice 3 (Kd.int .i64)) w A0_0 l0_0.length l0_0) (hc0_0 : l0_0.length ≤ c0_0) (hr1_0 : Kd.C (Kd.int .i64) w A1_0 l1_0.length l1_0) (hc1_0 : l1_0.length ≤ c1_0) (h : impl_peek.f l0_0 l1_0 a1_1 a2 = some r) :
  Calls Try.prog 80 #[.agg #[.slice A0_0 l0_0.length c0_0], .agg #[.slice A1_0 l1_0.length c1_0, .int .i64 a1_1], .int .i64 a2] w fun e w' => e = .returned (.int .i64 r) ∧ Below w.heap.size w w' := by
 have hu27 := Try.underlying27
 have hu37 := Try.underlying37
 have HR0_0 := Aside0.mk hr0_0
 have HC0_0 := Aside0.mk hc0_0
 clear hr0_0 hc0_0
 have HR1_0 := Aside0.mk hr1_0
 have HC1_0 := Aside0.mk hc1_0
 clear hr1_0 hc1_0
 have HB := Aside0.mk (Below.refl w.heap.size w)
 have H : ((impl_Region.f a2).bind fun bt288 => (if bt288.1 = 1 then (if 0 ≤ bt288.2 then (if bt288.2 < (l1_0.length : Int) then (some (rd l1_0 bt288.2)) else (none)) else (none)) else (if bt288.1 = 5 then (if 0 ≤ a1_1 then (if a1_1 < (l0_0.length : Int) then (if 0 ≤ bt288.2 then (if bt288.2 < ((rd_L1 l0_0 a1_1).length : Int) then (some (rd (rd_L1 l0_0 a1_1) bt288.2)) else (none)) else (none)) else (none)) else (none)) else (if bt288.1 = 6 then (if 0 ≤ (wrap64 ((l0_0.length : Int) - 1)) then (if (wrap64 ((l0_0.length : Int) - 1)) < (l0_0.length : Int) then (if 0 ≤ bt288.2 then (if bt288.2 < ((rd_L1 l0_0 (wrap64 ((l0_0.length : Int) - 1))).length : Int) then (some (rd (rd_L1 l0_0 (wrap64 ((l0_0.length : Int) - 1))) bt288.2)) else (none)) else (none)) else (none)) else (none)) else (some 0))))) = some r := h
 clear h
 replace H := Option.bind_eq_some_iff.mp H
 obtain ⟨⟨t288, t289⟩, A40, H⟩ := H
 replace H : (if t288 = 1 then (if 0 ≤ t289 then (if t289 < (l1_0.length : Int) then (some (rd l1_0 t289)) else (none)) else (none)) else (if t288 = 5 then (if 0 ≤ a1_1 then (if a1_1 < (l0_0.length : Int) then (if 0 ≤ t289 then (if t289 < ((rd_L1 l0_0 a1_1).length : Int) then (some (rd (rd_L1 l0_0 a1_1) t289)) else (none)) else (none)) else (none)) else (none)) else (if t288 = 6 then (if 0 ≤ (wrap64 ((l0_0.length : Int) - 1)) then (if (wrap64 ((l0_0.length : Int) - 1)) < (l0_0.length : Int) then (if 0 ≤ t289 then (if t289 < ((rd_L1 l0_0 (wrap64 ((l0_0.length : Int) - 1))).length : Int) then (some (rd (rd_L1 l0_0 (wrap64 ((l0_0.length : Int) - 1))) t289)) else (none)) else (none)) else (none)) else (none)) else (some 0)))) = some r := H
 have A4 := Aside0.mk A40
 clear A40
 by_cases c5 : t288 = 1
 ·rw [if_pos c5] at H
  have c5b0 : (t288 == 1) = true := beq_iff_eq.mpr c5
  have c5b1 : (t288 != 1) = false := bne_eq_false_iff_eq.mpr c5
  clear c5
  by_cases c6 : 0 ≤ t289
  ·rw [if_pos c6] at H
   have c6b0 : decide (0 ≤ t289) = true := decide_eq_true c6
   clear c6
   by_cases c7 : t289 < (l1_0.length : Int)
   ·rw [if_pos c7] at H
    have c7b0 : decide (t289 < (l1_0.length : Int)) = true := decide_eq_true c7
    clear c7
    obtain rfl := Option.some.inj H
    go_enter Try.func80, Try.ntmps80
    go_wp2_with (first | ((with_reducible refine gate_dst (N := 3) rfl ?_); refine box_event ?hg (N := 3) ?hd (cs := #[.slice A0_0 l0_0.length c0_0]) (t := 27) ?hr ?_; (case hd => rfl); (case hg => rfl); (case hr => first | (go_simp; done) | (go_simp; rfl)); intro gb286 hg w8 hbox hb; have n0_ := Aside0.mk (below_step (by repeat (first | (with_reducible first | exact HB.out | apply below_alloc | apply pw_below_drewN | apply below_drew1) | exact HB.out)) hb); have n1_ := Aside0.mk (hbox); have n2_ := Aside0.mk ((by rw [hg]; exact (below_size (by repeat (first | (with_reducible first | exact HB.out | apply below_alloc | apply pw_below_drewN | apply below_drew1) | exact HB.out))) : w.heap.size ≤ gb286)); have n3_ := Aside0.mk ((by rw [hg]; exact (below_size (by repeat (first | (with_reducible first | exact HB.out | apply below_alloc | apply pw_below_drewN | apply below_drew1) | exact HB.out))) : w.heap.size ≤ gb286)); clear HB; have HB := n0_; have BK286 := n1_; have GW286 := n2_; have GE286 := n3_; clear n0_ n1_ n2_ n3_; clear hb hbox hg) | ((with_reducible refine gate_dst (N := 4) rfl ?_); refine box_event ?hg (N := 4) ?hd (cs := #[.slice A1_0 l1_0.length c1_0, .int .i64 a1_1]) (t := 37) ?hr ?_; (case hd => rfl); (case hg => rfl); (case hr => first | (go_simp; done) | (go_simp; rfl)); intro gb287 hg w9 hbox hb; have n0_ := Aside0.mk (blk_below (g := gb286) (o := .cells #[.slice A0_0 l0_0.length c0_0] 27 (0, 0)) (by (with_reducible repeat (first | refine blk_drewN ?_ _ | refine blk_drew ?_ | refine blk_alloc ?_ _)); exact BK286.out) hb); have n1_ := Aside0.mk (below_step (by repeat (first | (with_reducible first | exact HB.out | apply below_alloc | apply pw_below_drewN | apply below_drew1 | refine below_set ?_ GE286.out) | exact HB.out)) hb); have n2_ := Aside0.mk (hbox); have n3_ := Aside0.mk ((by rw [hg]; exact (below_size (by repeat (first | (with_reducible first | exact HB.out | apply below_alloc | apply pw_below_drewN | apply below_drew1 | refine below_set ?_ GE286.out) | exact HB.out))) : w.heap.size ≤ gb287)); have n4_ := Aside0.mk ((by rw [hg]; exact (below_size (by repeat (first | (with_reducible first | exact HB.out | apply below_alloc | apply pw_below_drewN | apply below_drew1 | refine below_set ?_ GE286.out) | exact HB.out))) : w.heap.size ≤ gb287)); have n5_ := Aside0.mk ((by rw [hg]; exact Nat.ne_of_lt (blk_lt (g := gb286) (o := .cells #[.slice A0_0 l0_0.length c0_0] 27 (0, 0)) (by (with_reducible repeat (first | refine blk_drewN ?_ _ | refine blk_drew ?_ | refine blk_alloc ?_ _)); exact BK286.out)) : gb286 ≠ gb287)); have n6_ := Aside0.mk ((by rw [hg]; exact Nat.ne_of_gt (blk_lt (g := gb286) (o := .cells #[.slice A0_0 l0_0.length c0_0] 27 (0, 0)) (by (with_reducible repeat (first | refine blk_drewN ?_ _ | refine blk_drew ?_ | refine blk_alloc ?_ _)); exact BK286.out)) : gb287 ≠ gb286)); clear BK286; clear HB; have BK286 := n0_; have HB := n1_; have BK287 := n2_; have GW287 := n3_; have GE287 := n4_; have NB286_287 := n5_; have NB287_286 := n6_; clear n0_ n1_ n2_ n3_ n4_ n5_ n6_; clear hb hbox hg) | ((with_reducible refine gate_callee (f := 100) rfl ?_); refine goesL_ (some 11) rfl rfl Try.func100 (by kernel_rfl) rfl #[.int .i64 a2] rfl (by (try simp only [List.map_toArray, List.map_cons, List.map_nil]); first | done | rfl | (simp only [List.length_drop, List.length_take]; rfl)) ?_; (with_reducible refine (impl_Region.calls a2 t288 t289 _ A4.out).mono ?_); rintro e w' ⟨rfl, ⟨nd, rfl⟩⟩; refine ⟨_, rfl, ?_⟩; have hnb10 := NB287_286.out; have hnc10 := NB286_287.out; have hcz11_0 : w9.cell? ⟨gb287, 0, none⟩ = some (.slice A1_0 l1_0.length c1_0) := (blk_cell BK287.out 0).trans rfl; have hcz11_1 : w9.cell? ⟨gb287, 1, none⟩ = some (.int .i64 a1_1) := (blk_cell BK287.out 1).trans rfl; have hfz11_0 := blk_frozen BK287.out 0; have hfz11_1 := blk_frozen BK287.out 1; have p290 : 0 ≤ (t289 : Int) := of_decide_eq_true (by first | (with_reducible assumption) | assumption); have q290 : t289 < (l1_0.length : Int) := of_decide_eq_true (by first | (with_reducible assumption) | assumption); obtain ⟨ad290, e290, hx290_0⟩ := Kd.at_int HR1_0.out t289 p290 q290; cases e290; replace hx290_0 := (HB.out.cell (World.block_lt_of_cell? w _ hx290_0)).trans hx290_0; replace p290 := eq_true p290; replace q290 := eq_true q290))
    go_ret
    exact ⟨by first | rfl | (simp [errW_none, errW_some] <;> rfl) | (simp [*, errW_none, errW_some] <;> rfl), by repeat (first | (with_reducible first | exact HB.out | apply below_alloc | apply pw_below_drewN | apply below_drew1 | refine below_set ?_ GE286.out | refine below_set ?_ GE287.out) | exact HB.out)⟩
   ·rw [if_neg c7] at H
    exact absurd H (by simp)
  ·rw [if_neg c6] at H
   exact absurd H (by simp)
 ·rw [if_neg c5] at H
  have c5b0 : (t288 == 1) = false := beq_eq_false_iff_ne.mpr c5
  have c5b1 : (t288 != 1) = true := bne_iff_ne.mpr c5
  by_cases c12 : t288 = 5
  ·rw [if_pos c12] at H
   have c12b0 : (t288 == 5) = true := beq_iff_eq.mpr c12
   have c12b1 : (t288 != 5) = false := bne_eq_false_iff_eq.mpr c12
   clear c12
   by_cases c13 : 0 ≤ a1_1
   ·rw [if_pos c13] at H
    have c13b0 : decide (0 ≤ a1_1) = true := decide_eq_true c13
    clear c13
    by_cases c14 : a1_1 < (l0_0.length : Int)
    ·rw [if_pos c14] at H
     have c14b0 : decide (a1_1 < (l0_0.length : Int)) = true := decide_eq_true c14
     clear c14
     by_cases c15 : 0 ≤ t289
     ·rw [if_pos c15] at H
      have c15b0 : decide (0 ≤ t289) = true := decide_eq_true c15
      clear c15
      by_cases c16 : t289 < ((rd_L1 l0_0 a1_1).length : Int)
      ·rw [if_pos c16] at H
       have c16b0 : decide (t289 < ((rd_L1 l0_0 a1_1).length : Int)) = true := decide_eq_true c16
       clear c16
       obtain rfl := Option.some.inj H
       go_enter Try.func80, Try.ntmps80
       go_wp2_with (first | ((with_reducible refine gate_dst (N := 3) rfl ?_); refine box_event ?hg (N := 3) ?hd (cs := #[.slice A0_0 l0_0.length c0_0]) (t := 27) ?hr ?_; (case hd => rfl); (case hg => rfl); (case hr => first | (go_simp; done) | (go_simp; rfl)); intro gb286 hg w17 hbox hb; have n0_ := Aside0.mk (below_step (by repeat (first | (with_reducible first | exact HB.out | apply below_alloc | apply pw_below_drewN | apply below_drew1) | exact HB.out)) hb); have n1_ := Aside0.mk (hbox); have n2_ := Aside0.mk ((by rw [hg]; exact (below_size (by repeat (first | (with_reducible first | exact HB.out | apply below_alloc | apply pw_below_drewN | apply below_drew1) | exact HB.out))) : w.heap.size ≤ gb286)); have n3_ := Aside0.mk ((by rw [hg]; exact (below_size (by repeat (first | (with_reducible first | exact HB.out | apply below_alloc | apply pw_below_drewN | apply below_drew1) | exact HB.out))) : w.heap.size ≤ gb286)); clear HB; have HB := n0_; have BK286 := n1_; have GW286 := n2_; have GE286 := n3_; clear n0_ n1_ n2_ n3_; clear hb hbox hg) | ((with_reducible refine gate_dst (N := 4) rfl ?_); refine box_event ?hg (N := 4) ?hd (cs := #[.slice A1_0 l1_0.length c1_0, .int .i64 a1_1]) (t := 37) ?hr ?_; (case hd => rfl); (case hg => rfl); (case hr => first | (go_simp; done) | (go_simp; rfl)); intro gb287 hg w18 hbox hb; have n0_ := Aside0.mk (blk_below (g := gb286) (o := .cells #[.slice A0_0 l0_0.length c0_0] 27 (0, 0)) (by (with_reducible repeat (first | refine blk_drewN ?_ _ | refine blk_drew ?_ | refine blk_alloc ?_ _)); exact BK286.out) hb); have n1_ := Aside0.mk (below_step (by repeat (first | (with_reducible first | exact HB.out | apply below_alloc | apply pw_below_drewN | apply below_drew1 | refine below_set ?_ GE286.out) | exact HB.out)) hb); have n2_ := Aside0.mk (hbox); have n3_ := Aside0.mk ((by rw [hg]; exact (below_size (by repeat (first | (with_reducible first | exact HB.out | apply below_alloc | apply pw_below_drewN | apply below_drew1 | refine below_set ?_ GE286.out) | exact HB.out))) : w.heap.size ≤ gb287)); have n4_ := Aside0.mk ((by rw [hg]; exact (below_size (by repeat (first | (with_reducible first | exact HB.out | apply below_alloc | apply pw_below_drewN | apply below_drew1 | refine below_set ?_ GE286.out) | exact HB.out))) : w.heap.size ≤ gb287)); have n5_ := Aside0.mk ((by rw [hg]; exact Nat.ne_of_lt (blk_lt (g := gb286) (o := .cells #[.slice A0_0 l0_0.length c0_0] 27 (0, 0)) (by (with_reducible repeat (first | refine blk_drewN ?_ _ | refine blk_drew ?_ | refine blk_alloc ?_ _)); exact BK286.out)) : gb286 ≠ gb287)); have n6_ := Aside0.mk ((by rw [hg]; exact Nat.ne_of_gt (blk_lt (g := gb286) (o := .cells #[.slice A0_0 l0_0.length c0_0] 27 (0, 0)) (by (with_reducible repeat (first | refine blk_drewN ?_ _ | refine blk_drew ?_ | refine blk_alloc ?_ _)); exact BK286.out)) : gb287 ≠ gb286)); clear BK286; clear HB; have BK286 := n0_; have HB := n1_; have BK287 := n2_; have GW287 := n3_; have GE287 := n4_; have NB286_287 := n5_; have NB287_286 := n6_; clear n0_ n1_ n2_ n3_ n4_ n5_ n6_; clear hb hbox hg) | ((with_reducible refine gate_callee (f := 100) rfl ?_); refine goesL_ (some 11) rfl rfl Try.func100 (by kernel_rfl) rfl #[.int .i64 a2] rfl (by (try simp only [List.map_toArray, List.map_cons, List.map_nil]); first | done | rfl | (simp only [List.length_drop, List.length_take]; rfl)) ?_; (with_reducible refine (impl_Region.calls a2 t288 t289 _ A4.out).mono ?_); rintro e w' ⟨rfl, ⟨nd, rfl⟩⟩; refine ⟨_, rfl, ?_⟩; have hnb19 := NB286_287.out; have hnc19 := NB287_286.out; have hcz20_0 : w18.cell? ⟨gb286, 0, none⟩ = some (.slice A0_0 l0_0.length c0_0) := (blk_cell BK286.out 0).trans rfl; have hfz20_0 := blk_frozen BK286.out 0; have hcz21_0 : w18.cell? ⟨gb287, 0, none⟩ = some (.slice A1_0 l1_0.length c1_0) := (blk_cell BK287.out 0).trans rfl; have hcz21_1 : w18.cell? ⟨gb287, 1, none⟩ = some (.int .i64 a1_1) := (blk_cell BK287.out 1).trans rfl; have hfz21_0 := blk_frozen BK287.out 0; have hfz21_1 := blk_frozen BK287.out 1; have p291 : 0 ≤ (a1_1 : Int) := of_decide_eq_true (by first | (with_reducible assumption) | assumption); have q291 : a1_1 < (l0_0.length : Int) := of_decide_eq_true (by first | (with_reducible assumption) | assumption); obtain ⟨ad291, A291_0, c291_0, e291, hx291_0, hl291_0, hi291_0⟩ := at_L1 HR0_0.out a1_1 p291 q291; cases e291; replace hx291_0 := (HB.out.cell (World.block_lt_of_cell? w _ hx291_0)).trans hx291_0; have HR291_0 := Aside0.mk hi291_0; have HC291_0 := Aside0.mk hl291_0; clear hi291_0 hl291_0; replace p291 := eq_true p291; replace q291 := eq_true q291; have p292 : 0 ≤ (t289 : Int) := of_decide_eq_true (by first | (with_reducible assumption) | assumption); have q292 : t289 < ((rd_L1 l0_0 a1_1).length : Int) := of_decide_eq_true (by first | (with_reducible assumption) | assumption); obtain ⟨ad292, e292, hx292_0⟩ := Kd.at_int HR291_0.out t289 p292 q292; cases e292; replace hx292_0 := (HB.out.cell (World.block_lt_of_cell? w _ hx292_0)).trans hx292_0; replace p292 := eq_true p292; replace q292 := eq_true q292))
       go_ret
       exact ⟨by first | rfl | (simp [errW_none, errW_some] <;> rfl) | (simp [*, errW_none, errW_some] <;> rfl), by repeat (first | (with_reducible first | exact HB.out | apply below_alloc | apply pw_below_drewN | apply below_drew1 | refine below_set ?_ GE286.out | refine below_set ?_ GE287.out) | exact HB.out)⟩
      ·rw [if_neg c16] at H
       exact absurd H (by simp)
     ·rw [if_neg c15] at H
      exact absurd H (by simp)
    ·rw [if_neg c14] at H
     exact absurd H (by simp)
   ·rw [if_neg c13] at H
    exact absurd H (by simp)
  ·rw [if_neg c12] at H
   have c12b0 : (t288 == 5) = false := beq_eq_false_iff_ne.mpr c12
   have c12b1 : (t288 != 5) = true := bne_iff_ne.mpr c12
   by_cases c22 : t288 = 6
   ·rw [if_pos c22] at H
    have c22b0 : (t288 == 6) = true := beq_iff_eq.mpr c22
    have c22b1 : (t288 != 6) = false := bne_eq_false_iff_eq.mpr c22
    clear c22
    obtain ⟨ji23, hji23⟩ : ∃ j_ : Int, (wrap64 ((l0_0.length : Int) - 1)) = j_ := ⟨_, rfl⟩
    replace H : (if 0 ≤ (ji23) then (if (ji23) < (l0_0.length : Int) then (if 0 ≤ t289 then (if t289 < ((rd_L1 l0_0 (ji23)).length : Int) then (some (rd (rd_L1 l0_0 (ji23)) t289)) else (none)) else (none)) else (none)) else (none)) = some r := by first | (rw [hji23] at H; exact H) | (simp only [hji23] at H ⊢; exact H)
    (try rw [hji23] at A4)
    have hji23w : (IntKind.i64.wrap ((l0_0.length : Int) - 1)) = ji23 := (i64_w _).trans hji23
    by_cases c24 : 0 ≤ (ji23)
    ·rw [if_pos c24] at H
     have c24b0 : decide (0 ≤ (ji23)) = true := decide_eq_true c24
     clear c24
     by_cases c25 : (ji23) < (l0_0.length : Int)
     ·rw [if_pos c25] at H
      have c25b0 : decide ((ji23) < (l0_0.length : Int)) = true := decide_eq_true c25
      clear c25
      by_cases c26 : 0 ≤ t289
      ·rw [if_pos c26] at H
       have c26b0 : decide (0 ≤ t289) = true := decide_eq_true c26
       clear c26
       by_cases c27 : t289 < ((rd_L1 l0_0 (ji23)).length : Int)
       ·rw [if_pos c27] at H
        have c27b0 : decide (t289 < ((rd_L1 l0_0 (ji23)).length : Int)) = true := decide_eq_true c27
        clear c27
        obtain rfl := Option.some.inj H
        go_enter Try.func80, Try.ntmps80
        go_wp2_with (first | ((with_reducible refine gate_dst (N := 3) rfl ?_); refine box_event ?hg (N := 3) ?hd (cs := #[.slice A0_0 l0_0.length c0_0]) (t := 27) ?hr ?_; (case hd => rfl); (case hg => rfl); (case hr => first | (go_simp; done) | (go_simp; rfl)); intro gb286 hg w28 hbox hb; have n0_ := Aside0.mk (below_step (by repeat (first | (with_reducible first | exact HB.out | apply below_alloc | apply pw_below_drewN | apply below_drew1) | exact HB.out)) hb); have n1_ := Aside0.mk (hbox); have n2_ := Aside0.mk ((by rw [hg]; exact (below_size (by repeat (first | (with_reducible first | exact HB.out | apply below_alloc | apply pw_below_drewN | apply below_drew1) | exact HB.out))) : w.heap.size ≤ gb286)); have n3_ := Aside0.mk ((by rw [hg]; exact (below_size (by repeat (first | (with_reducible first | exact HB.out | apply below_alloc | apply pw_below_drewN | apply below_drew1) | exact HB.out))) : w.heap.size ≤ gb286)); clear HB; have HB := n0_; have BK286 := n1_; have GW286 := n2_; have GE286 := n3_; clear n0_ n1_ n2_ n3_; clear hb hbox hg) | ((with_reducible refine gate_dst (N := 4) rfl ?_); refine box_event ?hg (N := 4) ?hd (cs := #[.slice A1_0 l1_0.length c1_0, .int .i64 a1_1]) (t := 37) ?hr ?_; (case hd => rfl); (case hg => rfl); (case hr => first | (go_simp; done) | (go_simp; rfl)); intro gb287 hg w29 hbox hb; have n0_ := Aside0.mk (blk_below (g := gb286) (o := .cells #[.slice A0_0 l0_0.length c0_0] 27 (0, 0)) (by (with_reducible repeat (first | refine blk_drewN ?_ _ | refine blk_drew ?_ | refine blk_alloc ?_ _)); exact BK286.out) hb); have n1_ := Aside0.mk (below_step (by repeat (first | (with_reducible first | exact HB.out | apply below_alloc | apply pw_below_drewN | apply below_drew1 | refine below_set ?_ GE286.out) | exact HB.out)) hb); have n2_ := Aside0.mk (hbox); have n3_ := Aside0.mk ((by rw [hg]; exact (below_size (by repeat (first | (with_reducible first | exact HB.out | apply below_alloc | apply pw_below_drewN | apply below_drew1 | refine below_set ?_ GE286.out) | exact HB.out))) : w.heap.size ≤ gb287)); have n4_ := Aside0.mk ((by rw [hg]; exact (below_size (by repeat (first | (with_reducible first | exact HB.out | apply below_alloc | apply pw_below_drewN | apply below_drew1 | refine below_set ?_ GE286.out) | exact HB.out))) : w.heap.size ≤ gb287)); have n5_ := Aside0.mk ((by rw [hg]; exact Nat.ne_of_lt (blk_lt (g := gb286) (o := .cells #[.slice A0_0 l0_0.length c0_0] 27 (0, 0)) (by (with_reducible repeat (first | refine blk_drewN ?_ _ | refine blk_drew ?_ | refine blk_alloc ?_ _)); exact BK286.out)) : gb286 ≠ gb287)); have n6_ := Aside0.mk ((by rw [hg]; exact Nat.ne_of_gt (blk_lt (g := gb286) (o := .cells #[.slice A0_0 l0_0.length c0_0] 27 (0, 0)) (by (with_reducible repeat (first | refine blk_drewN ?_ _ | refine blk_drew ?_ | refine blk_alloc ?_ _)); exact BK286.out)) : gb287 ≠ gb286)); clear BK286; clear HB; have BK286 := n0_; have HB := n1_; have BK287 := n2_; have GW287 := n3_; have GE287 := n4_; have NB286_287 := n5_; have NB287_286 := n6_; clear n0_ n1_ n2_ n3_ n4_ n5_ n6_; clear hb hbox hg) | ((with_reducible refine gate_callee (f := 100) rfl ?_); refine goesL_ (some 11) rfl rfl Try.func100 (by kernel_rfl) rfl #[.int .i64 a2] rfl (by (try simp only [List.map_toArray, List.map_cons, List.map_nil]); first | done | rfl | (simp only [List.length_drop, List.length_take]; rfl)) ?_; (with_reducible refine (impl_Region.calls a2 t288 t289 _ A4.out).mono ?_); rintro e w' ⟨rfl, ⟨nd, rfl⟩⟩; refine ⟨_, rfl, ?_⟩; have hnb30 := NB286_287.out; have hnc30 := NB287_286.out; have hcz31_0 : w29.cell? ⟨gb286, 0, none⟩ = some (.slice A0_0 l0_0.length c0_0) := (blk_cell BK286.out 0).trans rfl; have hfz31_0 := blk_frozen BK286.out 0; have p293 : 0 ≤ ((ji23) : Int) := of_decide_eq_true (by first | (with_reducible assumption) | assumption); have q293 : (ji23) < (l0_0.length : Int) := of_decide_eq_true (by first | (with_reducible assumption) | assumption); obtain ⟨ad293, A293_0, c293_0, e293, hx293_0, hl293_0, hi293_0⟩ := at_L1 HR0_0.out (ji23) p293 q293; cases e293; replace hx293_0 := (HB.out.cell (World.block_lt_of_cell? w _ hx293_0)).trans hx293_0; have HR293_0 := Aside0.mk hi293_0; have HC293_0 := Aside0.mk hl293_0; clear hi293_0 hl293_0; replace p293 := eq_true p293; replace q293 := eq_true q293; have p294 : 0 ≤ (t289 : Int) := of_decide_eq_true (by first | (with_reducible assumption) | assumption); have q294 : t289 < ((rd_L1 l0_0 (ji23)).length : Int) := of_decide_eq_true (by first | (with_reducible assumption) | assumption); obtain ⟨ad294, e294, hx294_0⟩ := Kd.at_int HR293_0.out t289 p294 q294; cases e294; replace hx294_0 := (HB.out.cell (World.block_lt_of_cell? w _ hx294_0)).trans hx294_0; replace p294 := eq_true p294; replace q294 := eq_true q294))
        go_ret
        exact ⟨by first | rfl | (simp [errW_none, errW_some] <;> rfl) | (simp only [← hji23]; first | rfl | (simp [errW_none, errW_some] <;> rfl)) | (simp [*, errW_none, errW_some] <;> rfl), by repeat (first | (with_reducible first | exact HB.out | apply below_alloc | apply pw_below_drewN | apply below_drew1 | refine below_set ?_ GE286.out | refine below_set ?_ GE287.out) | exact HB.out)⟩
       ·rw [if_neg c27] at H
        exact absurd H (by simp)
      ·rw [if_neg c26] at H
       exact absurd H (by simp)
     ·rw [if_neg c25] at H
      exact absurd H (by simp)
    ·rw [if_neg c24] at H
     exact absurd H (by simp)
   ·rw [if_neg c22] at H
    have c22b0 : (t288 == 6) = false := beq_eq_false_iff_ne.mpr c22
    have c22b1 : (t288 != 6) = true := bne_iff_ne.mpr c22
    obtain rfl := Option.some.inj H
    go_enter Try.func80, Try.ntmps80
    go_wp2_with (first | ((with_reducible refine gate_dst (N := 3) rfl ?_); refine box_event ?hg (N := 3) ?hd (cs := #[.slice A0_0 l0_0.length c0_0]) (t := 27) ?hr ?_; (case hd => rfl); (case hg => rfl); (case hr => first | (go_simp; done) | (go_simp; rfl)); intro gb286 hg w32 hbox hb; have n0_ := Aside0.mk (below_step (by repeat (first | (with_reducible first | exact HB.out | apply below_alloc | apply pw_below_drewN | apply below_drew1) | exact HB.out)) hb); have n1_ := Aside0.mk (hbox); have n2_ := Aside0.mk ((by rw [hg]; exact (below_size (by repeat (first | (with_reducible first | exact HB.out | apply below_alloc | apply pw_below_drewN | apply below_drew1) | exact HB.out))) : w.heap.size ≤ gb286)); have n3_ := Aside0.mk ((by rw [hg]; exact (below_size (by repeat (first | (with_reducible first | exact HB.out | apply below_alloc | apply pw_below_drewN | apply below_drew1) | exact HB.out))) : w.heap.size ≤ gb286)); clear HB; have HB := n0_; have BK286 := n1_; have GW286 := n2_; have GE286 := n3_; clear n0_ n1_ n2_ n3_; clear hb hbox hg) | ((with_reducible refine gate_dst (N := 4) rfl ?_); refine box_event ?hg (N := 4) ?hd (cs := #[.slice A1_0 l1_0.length c1_0, .int .i64 a1_1]) (t := 37) ?hr ?_; (case hd => rfl); (case hg => rfl); (case hr => first | (go_simp; done) | (go_simp; rfl)); intro gb287 hg w33 hbox hb; have n0_ := Aside0.mk (blk_below (g := gb286) (o := .cells #[.slice A0_0 l0_0.length c0_0] 27 (0, 0)) (by (with_reducible repeat (first | refine blk_drewN ?_ _ | refine blk_drew ?_ | refine blk_alloc ?_ _)); exact BK286.out) hb); have n1_ := Aside0.mk (below_step (by repeat (first | (with_reducible first | exact HB.out | apply below_alloc | apply pw_below_drewN | apply below_drew1 | refine below_set ?_ GE286.out) | exact HB.out)) hb); have n2_ := Aside0.mk (hbox); have n3_ := Aside0.mk ((by rw [hg]; exact (below_size (by repeat (first | (with_reducible first | exact HB.out | apply below_alloc | apply pw_below_drewN | apply below_drew1 | refine below_set ?_ GE286.out) | exact HB.out))) : w.heap.size ≤ gb287)); have n4_ := Aside0.mk ((by rw [hg]; exact (below_size (by repeat (first | (with_reducible first | exact HB.out | apply below_alloc | apply pw_below_drewN | apply below_drew1 | refine below_set ?_ GE286.out) | exact HB.out))) : w.heap.size ≤ gb287)); have n5_ := Aside0.mk ((by rw [hg]; exact Nat.ne_of_lt (blk_lt (g := gb286) (o := .cells #[.slice A0_0 l0_0.length c0_0] 27 (0, 0)) (by (with_reducible repeat (first | refine blk_drewN ?_ _ | refine blk_drew ?_ | refine blk_alloc ?_ _)); exact BK286.out)) : gb286 ≠ gb287)); have n6_ := Aside0.mk ((by rw [hg]; exact Nat.ne_of_gt (blk_lt (g := gb286) (o := .cells #[.slice A0_0 l0_0.length c0_0] 27 (0, 0)) (by (with_reducible repeat (first | refine blk_drewN ?_ _ | refine blk_drew ?_ | refine blk_alloc ?_ _)); exact BK286.out)) : gb287 ≠ gb286)); clear BK286; clear HB; have BK286 := n0_; have HB := n1_; have BK287 := n2_; have GW287 := n3_; have GE287 := n4_; have NB286_287 := n5_; have NB287_286 := n6_; clear n0_ n1_ n2_ n3_ n4_ n5_ n6_; clear hb hbox hg) | ((with_reducible refine gate_callee (f := 100) rfl ?_); refine goesL_ (some 11) rfl rfl Try.func100 (by kernel_rfl) rfl #[.int .i64 a2] rfl (by (try simp only [List.map_toArray, List.map_cons, List.map_nil]); first | done | rfl | (simp only [List.length_drop, List.length_take]; rfl)) ?_; (with_reducible refine (impl_Region.calls a2 t288 t289 _ A4.out).mono ?_); rintro e w' ⟨rfl, ⟨nd, rfl⟩⟩; refine ⟨_, rfl, ?_⟩))
    go_ret
    exact ⟨by first | rfl | (simp [errW_none, errW_some] <;> rfl) | (simp [*, errW_none, errW_some] <;> rfl), by repeat (first | (with_reducible first | exact HB.out | apply below_alloc | apply pw_below_drewN | apply below_drew1 | refine below_set ?_ GE286.out | refine below_set ?_ GE287.out) | exact HB.out)⟩

/-! ### impl_Peek: function 47 -/
def impl_Peek.f (k : Nat) (l0_0 : List (List Int)) (l1_0 : List Int) (a1_1 : Int) (a2 : Int) : Option (Int) := (impl_MemOk.f k l0_0 l1_0 a1_1).bind fun t297 => (if t297 = true then ((impl_peek.f l0_0 l1_0 a1_1 a2).bind fun t298 => (some t298)) else (some 0))
theorem impl_Peek.mono : ∀ a0 a1 a2 a3 k, LeO (impl_Peek.f k a0 a1 a2 a3) (impl_Peek.f (k + 1) a0 a1 a2 a3) := by
 intro a0 a1 a2 a3 k
 unfold impl_Peek.f
 repeat' first
   | (with_reducible exact impl_MemOk.mono _ _ _ _)
   | (with_reducible exact LeO.refl _)
   | (with_reducible exact LeO.none _)
   | (with_reducible refine LeO.ite ?_ ?_)
   | (with_reducible refine LeO.bind ?_ (fun _ => ?_))
   | exact impl_MemOk.mono _ _ _ _
   | exact LeO.none _
   | refine LeO.ite ?_ ?_
   | refine LeO.bind ?_ (fun _ => ?_)
set_option maxHeartbeats 8000000 in
set_option maxRecDepth 100000 in
theorem impl_Peek.calls (k : Nat) (A0_0 : Option Addr) (c0_0 : Nat) (l0_0 : List (List Int)) (A1_0 : Option Addr) (c1_0 : Nat) (l1_0 : List Int) (a1_1 : Int) (a2 : Int) (r : Int) (w : World) (hr0_0 : Kd.C (Kd.slice 3 (Kd.int .i64)) w A0_0 l0_0.length l0_0) (hc0_0 : l0_0.length ≤ c0_0) (hr1_0 : Kd.C (Kd.int .i64) w A1_0 l1_0.length l1_0) (hc1_0 : l1_0.length ≤ c1_0) (h : impl_Peek.f k l0_0 l1_0 a1_1 a2 = some r) :
  Calls Try.prog 47 #[.agg #[.slice A0_0 l0_0.length c0_0], .agg #[.slice A1_0 l1_0.length c1_0, .int .i64 a1_1], .int .i64 a2] w fun e w' => e = .returned (.int .i64 r) ∧ Below w.heap.size w w' := by
 have hu27 := Try.underlying27
 have hu37 := Try.underlying37
 have HR0_0 := Aside0.mk hr0_0
 have HC0_0 := Aside0.mk hc0_0
 clear hr0_0 hc0_0
 have HR1_0 := Aside0.mk hr1_0
 have HC1_0 := Aside0.mk hc1_0
 clear hr1_0 hc1_0
 have HB := Aside0.mk (Below.refl w.heap.size w)
 have H : ((impl_MemOk.f k l0_0 l1_0 a1_1).bind fun t297 => (if t297 = true then ((impl_peek.f l0_0 l1_0 a1_1 a2).bind fun t298 => (some t298)) else (some 0))) = some r := h
 clear h
 replace H := Option.bind_eq_some_iff.mp H
 obtain ⟨t297, A40, H⟩ := H
 replace H : (if t297 = true then ((impl_peek.f l0_0 l1_0 a1_1 a2).bind fun t298 => (some t298)) else (some 0)) = some r := H
 have A4 := Aside0.mk A40
 clear A40
 by_cases c5 : t297 = true
 ·subst c5
  have H1 : ((impl_peek.f l0_0 l1_0 a1_1 a2).bind fun t298 => (some t298)) = some r := by rw [if_pos rfl] at H; exact H
  clear H
  have H := H1
  clear H1
  replace H := Option.bind_eq_some_iff.mp H
  obtain ⟨t298, A60, H⟩ := H
  replace H : (some t298) = some r := H
  have A6 := Aside0.mk A60
  clear A60
  obtain rfl := Option.some.inj H
  go_enter Try.func47, Try.ntmps47
  go_wp2_with (first | ((with_reducible refine gate_dst (N := 3) rfl ?_); refine box_event ?hg (N := 3) ?hd (cs := #[.slice A0_0 l0_0.length c0_0]) (t := 27) ?hr ?_; (case hd => rfl); (case hg => rfl); (case hr => first | (go_simp; done) | (go_simp; rfl)); intro gb295 hg w7 hbox hb; have n0_ := Aside0.mk (below_step (by repeat (first | (with_reducible first | exact HB.out | apply below_alloc | apply pw_below_drewN | apply below_drew1) | exact HB.out)) hb); have n1_ := Aside0.mk (hbox); have n2_ := Aside0.mk ((by rw [hg]; exact (below_size (by repeat (first | (with_reducible first | exact HB.out | apply below_alloc | apply pw_below_drewN | apply below_drew1) | exact HB.out))) : w.heap.size ≤ gb295)); have n3_ := Aside0.mk ((by rw [hg]; exact (below_size (by repeat (first | (with_reducible first | exact HB.out | apply below_alloc | apply pw_below_drewN | apply below_drew1) | exact HB.out))) : w.heap.size ≤ gb295)); clear HB; have HB := n0_; have BK295 := n1_; have GW295 := n2_; have GE295 := n3_; clear n0_ n1_ n2_ n3_; clear hb hbox hg) | ((with_reducible refine gate_dst (N := 4) rfl ?_); refine box_event ?hg (N := 4) ?hd (cs := #[.slice A1_0 l1_0.length c1_0, .int .i64 a1_1]) (t := 37) ?hr ?_; (case hd => rfl); (case hg => rfl); (case hr => first | (go_simp; done) | (go_simp; rfl)); intro gb296 hg w8 hbox hb; have n0_ := Aside0.mk (blk_below (g := gb295) (o := .cells #[.slice A0_0 l0_0.length c0_0] 27 (0, 0)) (by (with_reducible repeat (first | refine blk_drewN ?_ _ | refine blk_drew ?_ | refine blk_alloc ?_ _)); exact BK295.out) hb); have n1_ := Aside0.mk (below_step (by repeat (first | (with_reducible first | exact HB.out | apply below_alloc | apply pw_below_drewN | apply below_drew1 | refine below_set ?_ GE295.out) | exact HB.out)) hb); have n2_ := Aside0.mk (hbox); have n3_ := Aside0.mk ((by rw [hg]; exact (below_size (by repeat (first | (with_reducible first | exact HB.out | apply below_alloc | apply pw_below_drewN | apply below_drew1 | refine below_set ?_ GE295.out) | exact HB.out))) : w.heap.size ≤ gb296)); have n4_ := Aside0.mk ((by rw [hg]; exact (below_size (by repeat (first | (with_reducible first | exact HB.out | apply below_alloc | apply pw_below_drewN | apply below_drew1 | refine below_set ?_ GE295.out) | exact HB.out))) : w.heap.size ≤ gb296)); have n5_ := Aside0.mk ((by rw [hg]; exact Nat.ne_of_lt (blk_lt (g := gb295) (o := .cells #[.slice A0_0 l0_0.length c0_0] 27 (0, 0)) (by (with_reducible repeat (first | refine blk_drewN ?_ _ | refine blk_drew ?_ | refine blk_alloc ?_ _)); exact BK295.out)) : gb295 ≠ gb296)); have n6_ := Aside0.mk ((by rw [hg]; exact Nat.ne_of_gt (blk_lt (g := gb295) (o := .cells #[.slice A0_0 l0_0.length c0_0] 27 (0, 0)) (by (with_reducible repeat (first | refine blk_drewN ?_ _ | refine blk_drew ?_ | refine blk_alloc ?_ _)); exact BK295.out)) : gb296 ≠ gb295)); clear BK295; clear HB; have BK295 := n0_; have HB := n1_; have BK296 := n2_; have GW296 := n3_; have GE296 := n4_; have NB295_296 := n5_; have NB296_295 := n6_; clear n0_ n1_ n2_ n3_ n4_ n5_ n6_; clear hb hbox hg; have hnb9 := NB295_296.out; have hnc9 := NB296_295.out; have hcz10_0 : w8.cell? ⟨gb295, 0, none⟩ = some (.slice A0_0 l0_0.length c0_0) := (blk_cell BK295.out 0).trans rfl; have hfz10_0 := blk_frozen BK295.out 0; have hcz11_0 : w8.cell? ⟨gb296, 0, none⟩ = some (.slice A1_0 l1_0.length c1_0) := (blk_cell BK296.out 0).trans rfl; have hcz11_1 : w8.cell? ⟨gb296, 1, none⟩ = some (.int .i64 a1_1) := (blk_cell BK296.out 1).trans rfl; have hfz11_0 := blk_frozen BK296.out 0; have hfz11_1 := blk_frozen BK296.out 1) | ((with_reducible refine gate_callee (f := 30) rfl ?_); refine goesL_ (some 9) rfl rfl Try.func30 (by kernel_rfl) rfl #[.agg #[.slice A0_0 l0_0.length c0_0], .agg #[.slice A1_0 l1_0.length c1_0, .int .i64 a1_1]] rfl (by (try simp only [List.map_toArray, List.map_cons, List.map_nil]); first | done | rfl | (simp only [List.length_drop, List.length_take]; rfl)) ?_; (with_reducible refine (impl_MemOk.calls k _ _ l0_0 _ _ l1_0 a1_1 true _ ?side1 ?side2 ?side3 ?side4 A4.out).mono ?_); (case side1 => repeat (first | exact (Kd.C_below HR0_0.out HB.out) | (with_reducible refine Kd.C_alloc ?_ _) | (with_reducible refine Kd.C_drewN ?_ _) | (with_reducible refine Kd.C_drew ?_))); (case side2 => exact HC0_0.out); (case side3 => repeat (first | exact (Kd.C_below HR1_0.out HB.out) | (with_reducible refine Kd.C_alloc ?_ _) | (with_reducible refine Kd.C_drewN ?_ _) | (with_reducible refine Kd.C_drew ?_))); (case side4 => exact HC1_0.out); rintro e w12 ⟨rfl, hb⟩; refine ⟨_, rfl, ?_⟩; have n0_ := Aside0.mk (blk_below (g := gb295) (o := .cells #[.slice A0_0 l0_0.length c0_0] 27 (0, 0)) (by (with_reducible repeat (first | refine blk_drewN ?_ _ | refine blk_drew ?_ | refine blk_alloc ?_ _)); exact BK295.out) hb); have n1_ := Aside0.mk (blk_below (g := gb296) (o := .cells #[.slice A1_0 l1_0.length c1_0, .int .i64 a1_1] 37 (0, 0)) (by (with_reducible repeat (first | refine blk_drewN ?_ _ | refine blk_drew ?_ | refine blk_alloc ?_ _)); exact BK296.out) hb); have n2_ := Aside0.mk (below_step (by repeat (first | (with_reducible first | exact HB.out | apply below_alloc | apply pw_below_drewN | apply below_drew1 | refine below_set ?_ GE295.out | refine below_set ?_ GE296.out) | exact HB.out)) hb); clear BK295; clear BK296; clear HB; have BK295 := n0_; have BK296 := n1_; have HB := n2_; clear n0_ n1_ n2_; (try clear hb); (try clear hb2); (try clear hk); (try clear hi); have hcz13_0 : w12.cell? ⟨gb295, 0, none⟩ = some (.slice A0_0 l0_0.length c0_0) := (blk_cell BK295.out 0).trans rfl; have hfz13_0 := blk_frozen BK295.out 0; have hcz14_0 : w12.cell? ⟨gb296, 0, none⟩ = some (.slice A1_0 l1_0.length c1_0) := (blk_cell BK296.out 0).trans rfl; have hcz14_1 : w12.cell? ⟨gb296, 1, none⟩ = some (.int .i64 a1_1) := (blk_cell BK296.out 1).trans rfl; have hfz14_0 := blk_frozen BK296.out 0; have hfz14_1 := blk_frozen BK296.out 1) | ((with_reducible refine gate_callee (f := 80) rfl ?_); refine goesL_ (some 14) rfl rfl Try.func80 (by kernel_rfl) rfl #[.agg #[.slice A0_0 l0_0.length c0_0], .agg #[.slice A1_0 l1_0.length c1_0, .int .i64 a1_1], .int .i64 a2] rfl (by (try simp only [List.map_toArray, List.map_cons, List.map_nil]); first | done | rfl | (simp only [List.length_drop, List.length_take]; rfl)) ?_; (with_reducible refine (impl_peek.calls _ _ l0_0 _ _ l1_0 a1_1 a2 t298 _ ?side1 ?side2 ?side3 ?side4 A6.out).mono ?_); (case side1 => repeat (first | exact (Kd.C_below HR0_0.out HB.out) | (with_reducible refine Kd.C_alloc ?_ _) | (with_reducible refine Kd.C_drewN ?_ _) | (with_reducible refine Kd.C_drew ?_))); (case side2 => exact HC0_0.out); (case side3 => repeat (first | exact (Kd.C_below HR1_0.out HB.out) | (with_reducible refine Kd.C_alloc ?_ _) | (with_reducible refine Kd.C_drewN ?_ _) | (with_reducible refine Kd.C_drew ?_))); (case side4 => exact HC1_0.out); rintro e w15 ⟨rfl, hb⟩; refine ⟨_, rfl, ?_⟩; have n0_ := Aside0.mk (blk_below (g := gb295) (o := .cells #[.slice A0_0 l0_0.length c0_0] 27 (0, 0)) (by (with_reducible repeat (first | refine blk_drewN ?_ _ | refine blk_drew ?_ | refine blk_alloc ?_ _)); exact BK295.out) hb); have n1_ := Aside0.mk (blk_below (g := gb296) (o := .cells #[.slice A1_0 l1_0.length c1_0, .int .i64 a1_1] 37 (0, 0)) (by (with_reducible repeat (first | refine blk_drewN ?_ _ | refine blk_drew ?_ | refine blk_alloc ?_ _)); exact BK296.out) hb); have n2_ := Aside0.mk (below_step (by repeat (first | (with_reducible first | exact HB.out | apply below_alloc | apply pw_below_drewN | apply below_drew1 | refine below_set ?_ GE295.out | refine below_set ?_ GE296.out) | exact HB.out)) hb); clear BK295; clear BK296; clear HB; have BK295 := n0_; have BK296 := n1_; have HB := n2_; clear n0_ n1_ n2_; (try clear hb); (try clear hb2); (try clear hk); (try clear hi)))
  go_ret
  exact ⟨by first | rfl | (simp [errW_none, errW_some] <;> rfl) | (simp [*, errW_none, errW_some] <;> rfl), by repeat (first | (with_reducible first | exact HB.out | apply below_alloc | apply pw_below_drewN | apply below_drew1 | refine below_set ?_ GE295.out | refine below_set ?_ GE296.out) | exact HB.out)⟩
 ·replace c5 := Bool.eq_false_iff.mpr c5
  subst c5
  have H1 : (some 0) = some r := by rw [if_neg (show ¬ (false = true) by decide)] at H; exact H
  clear H
  have H := H1
  clear H1
  obtain rfl := Option.some.inj H
  go_enter Try.func47, Try.ntmps47
  go_wp2_with (first | ((with_reducible refine gate_dst (N := 3) rfl ?_); refine box_event ?hg (N := 3) ?hd (cs := #[.slice A0_0 l0_0.length c0_0]) (t := 27) ?hr ?_; (case hd => rfl); (case hg => rfl); (case hr => first | (go_simp; done) | (go_simp; rfl)); intro gb295 hg w16 hbox hb; have n0_ := Aside0.mk (below_step (by repeat (first | (with_reducible first | exact HB.out | apply below_alloc | apply pw_below_drewN | apply below_drew1) | exact HB.out)) hb); have n1_ := Aside0.mk (hbox); have n2_ := Aside0.mk ((by rw [hg]; exact (below_size (by repeat (first | (with_reducible first | exact HB.out | apply below_alloc | apply pw_below_drewN | apply below_drew1) | exact HB.out))) : w.heap.size ≤ gb295)); have n3_ := Aside0.mk ((by rw [hg]; exact (below_size (by repeat (first | (with_reducible first | exact HB.out | apply below_alloc | apply pw_below_drewN | apply below_drew1) | exact HB.out))) : w.heap.size ≤ gb295)); clear HB; have HB := n0_; have BK295 := n1_; have GW295 := n2_; have GE295 := n3_; clear n0_ n1_ n2_ n3_; clear hb hbox hg) | ((with_reducible refine gate_dst (N := 4) rfl ?_); refine box_event ?hg (N := 4) ?hd (cs := #[.slice A1_0 l1_0.length c1_0, .int .i64 a1_1]) (t := 37) ?hr ?_; (case hd => rfl); (case hg => rfl); (case hr => first | (go_simp; done) | (go_simp; rfl)); intro gb296 hg w17 hbox hb; have n0_ := Aside0.mk (blk_below (g := gb295) (o := .cells #[.slice A0_0 l0_0.length c0_0] 27 (0, 0)) (by (with_reducible repeat (first | refine blk_drewN ?_ _ | refine blk_drew ?_ | refine blk_alloc ?_ _)); exact BK295.out) hb); have n1_ := Aside0.mk (below_step (by repeat (first | (with_reducible first | exact HB.out | apply below_alloc | apply pw_below_drewN | apply below_drew1 | refine below_set ?_ GE295.out) | exact HB.out)) hb); have n2_ := Aside0.mk (hbox); have n3_ := Aside0.mk ((by rw [hg]; exact (below_size (by repeat (first | (with_reducible first | exact HB.out | apply below_alloc | apply pw_below_drewN | apply below_drew1 | refine below_set ?_ GE295.out) | exact HB.out))) : w.heap.size ≤ gb296)); have n4_ := Aside0.mk ((by rw [hg]; exact (below_size (by repeat (first | (with_reducible first | exact HB.out | apply below_alloc | apply pw_below_drewN | apply below_drew1 | refine below_set ?_ GE295.out) | exact HB.out))) : w.heap.size ≤ gb296)); have n5_ := Aside0.mk ((by rw [hg]; exact Nat.ne_of_lt (blk_lt (g := gb295) (o := .cells #[.slice A0_0 l0_0.length c0_0] 27 (0, 0)) (by (with_reducible repeat (first | refine blk_drewN ?_ _ | refine blk_drew ?_ | refine blk_alloc ?_ _)); exact BK295.out)) : gb295 ≠ gb296)); have n6_ := Aside0.mk ((by rw [hg]; exact Nat.ne_of_gt (blk_lt (g := gb295) (o := .cells #[.slice A0_0 l0_0.length c0_0] 27 (0, 0)) (by (with_reducible repeat (first | refine blk_drewN ?_ _ | refine blk_drew ?_ | refine blk_alloc ?_ _)); exact BK295.out)) : gb296 ≠ gb295)); clear BK295; clear HB; have BK295 := n0_; have HB := n1_; have BK296 := n2_; have GW296 := n3_; have GE296 := n4_; have NB295_296 := n5_; have NB296_295 := n6_; clear n0_ n1_ n2_ n3_ n4_ n5_ n6_; clear hb hbox hg; have hnb18 := NB295_296.out; have hnc18 := NB296_295.out; have hcz19_0 : w17.cell? ⟨gb295, 0, none⟩ = some (.slice A0_0 l0_0.length c0_0) := (blk_cell BK295.out 0).trans rfl; have hfz19_0 := blk_frozen BK295.out 0; have hcz20_0 : w17.cell? ⟨gb296, 0, none⟩ = some (.slice A1_0 l1_0.length c1_0) := (blk_cell BK296.out 0).trans rfl; have hcz20_1 : w17.cell? ⟨gb296, 1, none⟩ = some (.int .i64 a1_1) := (blk_cell BK296.out 1).trans rfl; have hfz20_0 := blk_frozen BK296.out 0; have hfz20_1 := blk_frozen BK296.out 1) | ((with_reducible refine gate_callee (f := 30) rfl ?_); refine goesL_ (some 9) rfl rfl Try.func30 (by kernel_rfl) rfl #[.agg #[.slice A0_0 l0_0.length c0_0], .agg #[.slice A1_0 l1_0.length c1_0, .int .i64 a1_1]] rfl (by (try simp only [List.map_toArray, List.map_cons, List.map_nil]); first | done | rfl | (simp only [List.length_drop, List.length_take]; rfl)) ?_; (with_reducible refine (impl_MemOk.calls k _ _ l0_0 _ _ l1_0 a1_1 false _ ?side1 ?side2 ?side3 ?side4 A4.out).mono ?_); (case side1 => repeat (first | exact (Kd.C_below HR0_0.out HB.out) | (with_reducible refine Kd.C_alloc ?_ _) | (with_reducible refine Kd.C_drewN ?_ _) | (with_reducible refine Kd.C_drew ?_))); (case side2 => exact HC0_0.out); (case side3 => repeat (first | exact (Kd.C_below HR1_0.out HB.out) | (with_reducible refine Kd.C_alloc ?_ _) | (with_reducible refine Kd.C_drewN ?_ _) | (with_reducible refine Kd.C_drew ?_))); (case side4 => exact HC1_0.out); rintro e w21 ⟨rfl, hb⟩; refine ⟨_, rfl, ?_⟩; have n0_ := Aside0.mk (blk_below (g := gb295) (o := .cells #[.slice A0_0 l0_0.length c0_0] 27 (0, 0)) (by (with_reducible repeat (first | refine blk_drewN ?_ _ | refine blk_drew ?_ | refine blk_alloc ?_ _)); exact BK295.out) hb); have n1_ := Aside0.mk (blk_below (g := gb296) (o := .cells #[.slice A1_0 l1_0.length c1_0, .int .i64 a1_1] 37 (0, 0)) (by (with_reducible repeat (first | refine blk_drewN ?_ _ | refine blk_drew ?_ | refine blk_alloc ?_ _)); exact BK296.out) hb); have n2_ := Aside0.mk (below_step (by repeat (first | (with_reducible first | exact HB.out | apply below_alloc | apply pw_below_drewN | apply below_drew1 | refine below_set ?_ GE295.out | refine below_set ?_ GE296.out) | exact HB.out)) hb); clear BK295; clear BK296; clear HB; have BK295 := n0_; have BK296 := n1_; have HB := n2_; clear n0_ n1_ n2_; (try clear hb); (try clear hb2); (try clear hk); (try clear hi)))
  go_ret
  exact ⟨by first | rfl | (simp [errW_none, errW_some] <;> rfl) | (simp [*, errW_none, errW_some] <;> rfl), by repeat (first | (with_reducible first | exact HB.out | apply below_alloc | apply pw_below_drewN | apply below_drew1 | refine below_set ?_ GE295.out | refine below_set ?_ GE296.out) | exact HB.out)⟩

/-! ### impl_Join: function 101 -/
def impl_Join.f (a0 : Int) (a1 : Int) : Option (Int) := (impl_Byte.f a0).bind fun t299 => ((impl_Byte.f a1).bind fun t300 => (some (wrap64 (t299 + (wrap64 (256 * t300))))))
set_option maxHeartbeats 8000000 in
set_option maxRecDepth 100000 in
theorem impl_Join.calls (a0 : Int) (a1 : Int) (r : Int) (w : World) (h : impl_Join.f a0 a1 = some r) :
  Calls Try.prog 101 #[.int .i64 a0, .int .i64 a1] w fun e w' => e = .returned (.int .i64 r) ∧ Drawn0 w w' := by
 have H : ((impl_Byte.f a0).bind fun t299 => ((impl_Byte.f a1).bind fun t300 => (some (wrap64 (t299 + (wrap64 (256 * t300))))))) = some r := h
 clear h
 replace H := Option.bind_eq_some_iff.mp H
 obtain ⟨t299, A30, H⟩ := H
 replace H : ((impl_Byte.f a1).bind fun t300 => (some (wrap64 (t299 + (wrap64 (256 * t300)))))) = some r := H
 have A3 := Aside0.mk A30
 clear A30
 replace H := Option.bind_eq_some_iff.mp H
 obtain ⟨t300, A40, H⟩ := H
 replace H : (some (wrap64 (t299 + (wrap64 (256 * t300))))) = some r := H
 have A4 := Aside0.mk A40
 clear A40
 obtain rfl := Option.some.inj H
 go_enter Try.func101, Try.ntmps101
 go_wp2_with (first | ((with_reducible refine gate_callee (f := 77) rfl ?_); refine goesL_ (some 6) rfl rfl Try.func77 (by kernel_rfl) rfl #[.int .i64 a0] rfl (by (try simp only [List.map_toArray, List.map_cons, List.map_nil]); first | done | rfl | (simp only [List.length_drop, List.length_take]; rfl)) ?_; (with_reducible refine (impl_Byte.calls a0 t299 _ A3.out).mono ?_); rintro e w' ⟨rfl, ⟨nd, rfl⟩⟩; refine ⟨_, rfl, ?_⟩) | ((with_reducible refine gate_callee (f := 77) rfl ?_); refine goesL_ (some 8) rfl rfl Try.func77 (by kernel_rfl) rfl #[.int .i64 a1] rfl (by (try simp only [List.map_toArray, List.map_cons, List.map_nil]); first | done | rfl | (simp only [List.length_drop, List.length_take]; rfl)) ?_; (with_reducible refine (impl_Byte.calls a1 t300 _ A4.out).mono ?_); rintro e w' ⟨rfl, ⟨nd, rfl⟩⟩; refine ⟨_, rfl, ?_⟩))
 go_ret
 exact ⟨by first | rfl | (simp; done) | (simp [*]; done), by repeat (first | exact Drawn0.refl _ | apply Drawn0.step)⟩

/-! ### mem_pull (mine) -/
theorem pushF_keeps (ram : List Int) (k : Cp) (v : Int) : (pushF ram k v).2 = { k with S := (pushF ram k v).2.S } ∧ (pushF ram k v).1.length = ram.length := by
 unfold pushF
 split <;> simp
theorem blkP {w : World} {c : Nat} {k : Cp} {t : TypeId} (h : w.heap[c]? = some (.cells k.cells t (0, 0))) : w.cell? ⟨c, 3, none⟩ = some (.int .i64 k.P) := (blk_cell h 3).trans rfl
def pushPcF (ram : List Int) (k : Cp) : List Int × Cp := pushF (pushF ram k (k.P / 256)).1 (pushF ram k (k.P / 256)).2 k.P
set_option maxRecDepth 100000 in
theorem pushPc_calls {w0 w : World} {x c : Nat} {rv : Value} {b : Int} {k : Cp} {ram : List Int} (h : MC w0 w x c rv b k ram) :
  Calls Try.prog 90 #[.pointer (some ⟨x, 0, none⟩), .pointer (some ⟨c, 0, none⟩)] w fun e w' => e = .returned (.tuple #[]) ∧
   MC w0 w' x c rv b (pushPcF ram k).2 (pushPcF ram k).1 ∧ Kept w w' (fun j => j = c ∨ some j = rv.ownBlock) := by
 have hu37 := Try.underlying37
 have hu38 := Try.underlying38
 have hP := blkP h.cpu
 have eP : (pushF ram k (k.P / 256)).2.P = k.P := by rw [(pushF_keeps ram k (k.P / 256)).1]
 have eq : pushPcF ram k = pushF (pushF ram k (k.P / 256)).1 (pushF ram k (k.P / 256)).2 k.P := rfl
 rw [eq]
 clear eq
 have EP := Aside0.mk eP
 clear eP
 have E8 : Aside0 (∀ q : Int, shr .i64 q 8 = q / 256) := ⟨fun q => rfl⟩
 generalize k.P = p at *
 go_enter Try.func90, Try.ntmps90
 go_wp2_with fail
 refine (push_calls h _).mono ?_
 rintro e w' ⟨rfl, h1, k1⟩
 have hP1 := blkP h1.cpu
 rw [EP.out] at hP1
 clear hP
 generalize hq : pushF ram k (p / 256) = q at *
 have HQ := Aside0.mk hq
 clear hq
 go_wp2_with fail
 refine (push_calls h1 _).mono ?_
 rintro e w2 ⟨rfl, h2, k2⟩
 go_wp2
 go_end0
 obtain rfl := HQ.out
 exact ⟨rfl, h2, k1.then_ k2 (fun j hj => .inl hj)⟩
def pullF (ram : List Int) (k : Cp) : Cp × Int := if ram.length = 512 then ({ k with S := wrap64 (k.S + 1) % 256 }, rd ram (256 + wrap64 (k.S + 1) % 256)) else (k, 0)
set_option maxRecDepth 100000 in
set_option maxHeartbeats 1000000 in
theorem pull_yes (x c g cap : Nat) (ram : List Int) (S val : Int) (w : World)
  (hx0 : w.cell? ⟨x, 0, none⟩ = some (.slice (some ⟨g, 0, none⟩) ram.length cap)) (hc2 : w.cell? ⟨c, 2, none⟩ = some (.int .i64 S))
  (hlen : ram.length = 512) (hcg : w.cell? ⟨g, (256 + wrap64 (S + 1) % 256).toNat, none⟩ = some (.int .i64 val)) (hfc : w.frozen? ⟨c, 2, none⟩ = false) (hgc : g ≠ c) (hgx : g ≠ x) (hcx : c ≠ x) (hxc : x ≠ c) :
  Calls Try.prog 120 #[.pointer (some ⟨x, 0, none⟩), .pointer (some ⟨c, 0, none⟩)] w fun e w' => e = .returned (.int .i64 val) ∧
   ∃ n, w' = (w.setCell ⟨c, 2, none⟩ (.int .i64 (wrap64 (S + 1) % 256))).drewN n := by
 have hu37 := Try.underlying37
 have hu38 := Try.underlying38
 have hl : (((ram.length : Nat) : Int) != 512) = false := by simp; omega
 have A3 : Aside0 (∀ w, Calls Try.prog 77 #[.int .i64 (wrap64 (S + 1))] w fun e w' => e = .returned (.int .i64 (wrap64 (S + 1) % 256)) ∧ w' = w) := ⟨byte_same _⟩
 have hs0 : 0 ≤ wrap64 (S + 1) % 256 := by omega
 have hs1 : wrap64 (S + 1) % 256 < 256 := by omega
 generalize wrap64 (S + 1) % 256 = sb at *
 have hsum : IntKind.i64.wrap (256 + sb) = 256 + sb := by rw [IntKind.wrap_i64]; omega
 have hb1 : (256 + sb < (ram.length : Int)) = True := eq_true (by omega)
 have hb0 : (0 ≤ 256 + sb) = True := eq_true (by omega)
 clear hlen
 go_enter Try.func120, Try.ntmps120
 go_wp2_with (go_at_call 77; refine (A3.out _).mono ?_; rintro e w' ⟨rfl, rfl⟩)
 go_quiet (fail)
 go_wp2
 go_ret
 exact ⟨rfl, _, rfl⟩
set_option maxRecDepth 100000 in
theorem pull_no (x c : Nat) (A : Option Addr) (cap : Nat) (ram : List Int) (w : World)
  (hx0 : w.cell? ⟨x, 0, none⟩ = some (.slice A ram.length cap)) (hlen : ram.length ≠ 512) :
  Calls Try.prog 120 #[.pointer (some ⟨x, 0, none⟩), .pointer (some ⟨c, 0, none⟩)] w fun e w' => e = .returned (.int .i64 0) ∧ w' = w := by
 have hu37 := Try.underlying37
 have hl : (((ram.length : Nat) : Int) != 512) = true := by simp; omega
 clear hlen
 go_enter Try.func120, Try.ntmps120
 go_wp2
 go_ret
 exact ⟨rfl, rfl⟩
theorem pull_calls {w0 w : World} {x c : Nat} {rv : Value} {b : Int} {k : Cp} {ram : List Int} (h : MC w0 w x c rv b k ram) :
  Calls Try.prog 120 #[.pointer (some ⟨x, 0, none⟩), .pointer (some ⟨c, 0, none⟩)] w fun e w' => e = .returned (.int .i64 (pullF ram k).2) ∧
   MC w0 w' x c rv b (pullF ram k).1 ram ∧ Kept w w' (fun j => j = c ∨ some j = rv.ownBlock) := by
 unfold pullF
 by_cases hl : ram.length = 512
 ·rw [if_pos hl]
  obtain ⟨g, cap, rfl, hg, _, _⟩ := Kd.R_form h.row (by omega)
  obtain ⟨hcg, _⟩ := Kd.R_celln 0 h.row (256 + wrap64 (k.S + 1) % 256) (by omega) (by omega)
  refine (pull_yes x c g cap ram k.S _ w ((blk_cell h.mem 0).trans rfl) ((blk_cell h.cpu 2).trans rfl) hl hcg (blk_frozen h.cpu 2) (fun e => h.far.2 (by rw [e]; rfl)) (fun e => h.far.1 (by rw [e]; rfl)) (Ne.symm h.ne) h.ne).mono ?_
  rintro e w' ⟨rfl, n, rfl⟩
  refine ⟨rfl, ((h.setC (k' := { k with S := wrap64 (k.S + 1) % 256 }) 2 _ rfl).drewN n), ?_⟩
  exact ((kept_set (Kept.refl w _) (.inl rfl) _).drewN n)
 ·rw [if_neg hl]
  obtain ⟨A, cap, rfl⟩ := Kd.R_slice h.row
  refine (pull_no x c A cap ram w ((blk_cell h.mem 0).trans rfl) hl).mono ?_
  rintro e w' ⟨rfl, rfl⟩
  exact ⟨rfl, h, Kept.refl _ _⟩
theorem implJoin (a b : Int) : impl_Join.f a b = some (a % 256 + 256 * (b % 256)) := by
 unfold impl_Join.f impl_Byte.f
 simp only [Option.bind_some, and255]
 rw [show wrap64 (256 * (b % 256)) = 256 * (b % 256) by unfold wrap64; omega, show wrap64 (a % 256 + 256 * (b % 256)) = a % 256 + 256 * (b % 256) by unfold wrap64; omega]
def backF (ram : List Int) (k : Cp) : Cp := { (pullF ram (pullF ram k).1).1 with P := (pullF ram k).2 % 256 + 256 * ((pullF ram (pullF ram k).1).2 % 256) }
set_option maxRecDepth 100000 in
theorem back_calls {w0 w : World} {x c : Nat} {rv : Value} {b : Int} {k : Cp} {ram : List Int} (h : MC w0 w x c rv b k ram) :
  Calls Try.prog 119 #[.pointer (some ⟨x, 0, none⟩), .pointer (some ⟨c, 0, none⟩)] w fun e w' => e = .returned (.tuple #[]) ∧
   MC w0 w' x c rv b (backF ram k) ram ∧ Kept w w' (fun j => j = c ∨ some j = rv.ownBlock) := by
 have hu37 := Try.underlying37
 have hu38 := Try.underlying38
 unfold backF
 go_enter Try.func119, Try.ntmps119
 go_wp2_with fail
 refine (pull_calls h).mono ?_
 rintro e w1 ⟨rfl, h1, k1⟩
 generalize hq : pullF ram k = q at *
 have HQ := Aside0.mk hq
 clear hq
 go_wp2_with fail
 refine (pull_calls h1).mono ?_
 rintro e w2 ⟨rfl, h2, k2⟩
 generalize hr : pullF ram q.1 = r at *
 have HR := Aside0.mk hr
 clear hr
 have HJ := Aside0.mk (implJoin q.2 r.2)
 generalize hj : q.2 % 256 + 256 * (r.2 % 256) = j at *
 have HJ2 := Aside0.mk hj
 clear hj
 go_wp2_with fail
 refine (impl_Join.calls _ _ _ _ HJ.out).mono ?_
 rintro e w3 ⟨rfl, n, rfl⟩
 have h3 := h2.drewN n
 have hfc : w2.frozen? ⟨c, 3, none⟩ = false := blk_frozen h2.cpu 3
 have hcc := blkP h2.cpu
 go_wp2
 go_end0
 obtain rfl := HJ2.out
 obtain rfl := HR.out
 obtain rfl := HQ.out
 refine ⟨rfl, (h3.setC 3 _ rfl), ?_⟩
 exact kept_set ((k1.then_ k2 (fun j hj => .inl hj)).drewN n) (.inl rfl) _

/-! ### impl_vectorOf: function 83 -/
def impl_vectorOf.f (k : Nat) (l0_0 : List (List Int)) (l1_0 : List Int) (a1_1 : Int) (a2 : Int) : Option (Int) := (impl_Peek.f k l0_0 l1_0 a1_1 a2).bind fun t303 => ((impl_Peek.f k l0_0 l1_0 a1_1 (wrap64 (a2 + 1))).bind fun t304 => ((impl_Join.f t303 t304).bind fun t305 => (some t305)))
theorem impl_vectorOf.mono : ∀ a0 a1 a2 a3 k, LeO (impl_vectorOf.f k a0 a1 a2 a3) (impl_vectorOf.f (k + 1) a0 a1 a2 a3) := by
 intro a0 a1 a2 a3 k
 unfold impl_vectorOf.f
 repeat' first
   | (with_reducible exact impl_Peek.mono _ _ _ _ _)
   | (with_reducible exact LeO.refl _)
   | (with_reducible exact LeO.none _)
   | (with_reducible refine LeO.ite ?_ ?_)
   | (with_reducible refine LeO.bind ?_ (fun _ => ?_))
   | exact impl_Peek.mono _ _ _ _ _
   | exact LeO.none _
   | refine LeO.ite ?_ ?_
   | refine LeO.bind ?_ (fun _ => ?_)
def impl_vectorOf.T1 : Bool × List (List Nat × List Nat) := (true, [([], []), ([], []), ([], []), ([0, 1, 2], [0, 1, 2]), ([], []), ([], []), ([], []), ([6], [6]), ([4, 5, 7, 3], [4, 5, 7]), ([3, 8, 8], [3, 8]), ([9, 9, 0, 1, 2, 3, 4, 5, 6, 7, 8, 9], [9])])
def impl_vectorOf.B1 : List Nat := [0, 0, 0, 7, 0, 0, 0, 64, 255, 511, 1023]
theorem impl_vectorOf.tab1 : rtab .any (opsOf Try.f83 1) = impl_vectorOf.T1 := by kernel_rfl
theorem impl_vectorOf.bits1 : waitsOk impl_vectorOf.T1.2 impl_vectorOf.B1 = true := by kernel_rfl
set_option maxHeartbeats 8000000 in
set_option maxRecDepth 100000 in
theorem impl_vectorOf.calls (k : Nat) (A0_0 : Option Addr) (c0_0 : Nat) (l0_0 : List (List Int)) (A1_0 : Option Addr) (c1_0 : Nat) (l1_0 : List Int) (a1_1 : Int) (a2 : Int) (r : Int) (w : World) (hr0_0 : Kd.C (Kd.slice 3 (Kd.int .i64)) w A0_0 l0_0.length l0_0) (hc0_0 : l0_0.length ≤ c0_0) (hr1_0 : Kd.C (Kd.int .i64) w A1_0 l1_0.length l1_0) (hc1_0 : l1_0.length ≤ c1_0) (h : impl_vectorOf.f k l0_0 l1_0 a1_1 a2 = some r) :
  Calls Try.prog 83 #[.agg #[.slice A0_0 l0_0.length c0_0], .agg #[.slice A1_0 l1_0.length c1_0, .int .i64 a1_1], .int .i64 a2] w fun e w' => e = .returned (.int .i64 r) ∧ Below w.heap.size w w' := by
 have hu27 := Try.underlying27
 have hu37 := Try.underlying37
 have HR0_0 := Aside0.mk hr0_0
 have HC0_0 := Aside0.mk hc0_0
 clear hr0_0 hc0_0
 have HR1_0 := Aside0.mk hr1_0
 have HC1_0 := Aside0.mk hc1_0
 clear hr1_0 hc1_0
 have HB := Aside0.mk (Below.refl w.heap.size w)
 have H : ((impl_Peek.f k l0_0 l1_0 a1_1 a2).bind fun t303 => ((impl_Peek.f k l0_0 l1_0 a1_1 (wrap64 (a2 + 1))).bind fun t304 => ((impl_Join.f t303 t304).bind fun t305 => (some t305)))) = some r := h
 clear h
 replace H := Option.bind_eq_some_iff.mp H
 obtain ⟨t303, A40, H⟩ := H
 replace H : ((impl_Peek.f k l0_0 l1_0 a1_1 (wrap64 (a2 + 1))).bind fun t304 => ((impl_Join.f t303 t304).bind fun t305 => (some t305))) = some r := H
 have A4 := Aside0.mk A40
 clear A40
 replace H := Option.bind_eq_some_iff.mp H
 obtain ⟨t304, A50, H⟩ := H
 replace H : ((impl_Join.f t303 t304).bind fun t305 => (some t305)) = some r := H
 have A5 := Aside0.mk A50
 clear A50
 replace H := Option.bind_eq_some_iff.mp H
 obtain ⟨t305, A60, H⟩ := H
 replace H : (some t305) = some r := H
 have A6 := Aside0.mk A60
 clear A60
 obtain rfl := Option.some.inj H
 go_enter Try.func83, Try.ntmps83
 try go_wp2_with (first | ((with_reducible refine gate_dst (N := 3) rfl ?_); refine box_event ?hg (N := 3) ?hd (cs := #[.slice A0_0 l0_0.length c0_0]) (t := 27) ?hr ?_; (case hd => rfl); (case hg => rfl); (case hr => first | (go_simp; done) | (go_simp; rfl)); intro gb301 hg w7 hbox hb; have n0_ := Aside0.mk (below_step (by repeat (first | (with_reducible first | exact HB.out | apply below_alloc | apply pw_below_drewN | apply below_drew1) | exact HB.out)) hb); have n1_ := Aside0.mk (hbox); have n2_ := Aside0.mk ((by rw [hg]; exact (below_size (by repeat (first | (with_reducible first | exact HB.out | apply below_alloc | apply pw_below_drewN | apply below_drew1) | exact HB.out))) : w.heap.size ≤ gb301)); have n3_ := Aside0.mk ((by rw [hg]; exact (below_size (by repeat (first | (with_reducible first | exact HB.out | apply below_alloc | apply pw_below_drewN | apply below_drew1) | exact HB.out))) : w.heap.size ≤ gb301)); clear HB; have HB := n0_; have BK301 := n1_; have GW301 := n2_; have GE301 := n3_; clear n0_ n1_ n2_ n3_; clear hb hbox hg) | ((with_reducible refine gate_dst (N := 4) rfl ?_); refine box_event ?hg (N := 4) ?hd (cs := #[.slice A1_0 l1_0.length c1_0, .int .i64 a1_1]) (t := 37) ?hr ?_; (case hd => rfl); (case hg => rfl); (case hr => first | (go_simp; done) | (go_simp; rfl)); intro gb302 hg w8 hbox hb; have n0_ := Aside0.mk (blk_below (g := gb301) (o := .cells #[.slice A0_0 l0_0.length c0_0] 27 (0, 0)) (by (with_reducible repeat (first | refine blk_drewN ?_ _ | refine blk_drew ?_ | refine blk_alloc ?_ _)); exact BK301.out) hb); have n1_ := Aside0.mk (below_step (by repeat (first | (with_reducible first | exact HB.out | apply below_alloc | apply pw_below_drewN | apply below_drew1 | refine below_set ?_ GE301.out) | exact HB.out)) hb); have n2_ := Aside0.mk (hbox); have n3_ := Aside0.mk ((by rw [hg]; exact (below_size (by repeat (first | (with_reducible first | exact HB.out | apply below_alloc | apply pw_below_drewN | apply below_drew1 | refine below_set ?_ GE301.out) | exact HB.out))) : w.heap.size ≤ gb302)); have n4_ := Aside0.mk ((by rw [hg]; exact (below_size (by repeat (first | (with_reducible first | exact HB.out | apply below_alloc | apply pw_below_drewN | apply below_drew1 | refine below_set ?_ GE301.out) | exact HB.out))) : w.heap.size ≤ gb302)); have n5_ := Aside0.mk ((by rw [hg]; exact Nat.ne_of_lt (blk_lt (g := gb301) (o := .cells #[.slice A0_0 l0_0.length c0_0] 27 (0, 0)) (by (with_reducible repeat (first | refine blk_drewN ?_ _ | refine blk_drew ?_ | refine blk_alloc ?_ _)); exact BK301.out)) : gb301 ≠ gb302)); have n6_ := Aside0.mk ((by rw [hg]; exact Nat.ne_of_gt (blk_lt (g := gb301) (o := .cells #[.slice A0_0 l0_0.length c0_0] 27 (0, 0)) (by (with_reducible repeat (first | refine blk_drewN ?_ _ | refine blk_drew ?_ | refine blk_alloc ?_ _)); exact BK301.out)) : gb302 ≠ gb301)); clear BK301; clear HB; have BK301 := n0_; have HB := n1_; have BK302 := n2_; have GW302 := n3_; have GE302 := n4_; have NB301_302 := n5_; have NB302_301 := n6_; clear n0_ n1_ n2_ n3_ n4_ n5_ n6_; clear hb hbox hg))
 have n0_ := Aside0.mk (blk_drew BK301.out)
 have n1_ := Aside0.mk (blk_drew BK302.out)
 have n2_ := Aside0.mk (below_drew1 HB.out)
 clear BK301
 clear BK302
 clear HB
 have BK301 := n0_
 have BK302 := n1_
 have HB := n2_
 clear n0_ n1_ n2_
 refine start_ (n := 11) (S := fun w' => w'.cell? ⟨gb301, 0, none⟩ = some (.slice A0_0 l0_0.length c0_0) ∧ w'.cell? ⟨gb302, 0, none⟩ = some (.slice A1_0 l1_0.length c1_0) ∧ w'.cell? ⟨gb302, 1, none⟩ = some (.int .i64 a1_1)) (ds := []) #[false, false, false, false, false, false, false, false, false, false, false] (by kernel_rfl) rfl rfl ⟨(blk_cell BK301.out 0).trans rfl, (blk_cell BK302.out 0).trans rfl, (blk_cell BK302.out 1).trans rfl⟩ (fun hHeld => ?_); refine with_tabW impl_vectorOf.tab1 impl_vectorOf.bits1 (fun HT_ HW_ => ?_)
 generalize w8.drew = w9 at BK301 BK302 HB hHeld ⊢
 refine pure_ (i := 2) (N := some 9) (v := ?_) (a' := ?_) #[false, false, true, false, false, false, false, false, false, false, false] rfl rfl (any_of HT_.out (by kernel_rfl)) (fun _ _ _ h => h) (Or.inl ⟨by rfl, ?_⟩) ?_ ?_
 rotate_left
 ·intro w'
  go_simp
  with_reducible rfl
 rotate_left
 ·simp only [Act.put, List.setIfInBounds_toArray, List.set_cons_zero, List.set_cons_succ, i64_w, i32_w]
  rfl
 refine pure_ (i := 6) (N := some 13) (v := ?_) (a' := ?_) #[false, false, true, false, false, false, true, false, false, false, false] rfl rfl (any_of HT_.out (by kernel_rfl)) (fun _ _ _ h => h) (Or.inl ⟨by rfl, ?_⟩) ?_ ?_
 rotate_left
 ·intro w'
  go_simp
  with_reducible rfl
 rotate_left
 ·simp only [Act.put, List.setIfInBounds_toArray, List.set_cons_zero, List.set_cons_succ, i64_w, i32_w]
  rfl
 refine pure_ (i := 7) (N := some 14) (v := ?_) (a' := ?_) #[false, false, true, false, false, false, true, true, false, false, false] rfl rfl (any_of HT_.out (by kernel_rfl)) (fun _ _ _ h => h) (Or.inl ⟨by rfl, ?_⟩) ?_ ?_
 rotate_left
 ·intro w'
  go_simp
  with_reducible rfl
 rotate_left
 ·simp only [Act.put, List.setIfInBounds_toArray, List.set_cons_zero, List.set_cons_succ, i64_w, i32_w]
  rfl
 refine take_ (i := 0) (N := some 7) (v := ?_) (a' := ?_) #[true, false, true, false, false, false, true, true, false, false, false] rfl rfl (take_ofW HT_.out HW_.out (by kernel_rfl)) (fun _ _ _ h => h) (Or.inl ⟨by rfl, ?_⟩) hHeld ?_ ?_
 rotate_left
 ·rintro w' ⟨s0, s1, s2⟩
  go_simp
  with_reducible rfl
 rotate_left
 ·simp only [Act.put, List.setIfInBounds_toArray, List.set_cons_zero, List.set_cons_succ, i64_w, i32_w]
  rfl
 refine take_ (i := 1) (N := some 8) (v := ?_) (a' := ?_) #[true, true, true, false, false, false, true, true, false, false, false] rfl rfl (take_ofW HT_.out HW_.out (by kernel_rfl)) (fun _ _ _ h => h) (Or.inl ⟨by rfl, ?_⟩) hHeld ?_ ?_
 rotate_left
 ·rintro w' ⟨s0, s1, s2⟩
  go_simp
  with_reducible rfl
 rotate_left
 ·simp only [Act.put, List.setIfInBounds_toArray, List.set_cons_zero, List.set_cons_succ, i64_w, i32_w]
  rfl
 refine take_ (i := 4) (N := some 11) (v := ?_) (a' := ?_) #[true, true, true, false, true, false, true, true, false, false, false] rfl rfl (take_ofW HT_.out HW_.out (by kernel_rfl)) (fun _ _ _ h => h) (Or.inl ⟨by rfl, ?_⟩) hHeld ?_ ?_
 rotate_left
 ·rintro w' ⟨s0, s1, s2⟩
  go_simp
  with_reducible rfl
 rotate_left
 ·simp only [Act.put, List.setIfInBounds_toArray, List.set_cons_zero, List.set_cons_succ, i64_w, i32_w]
  rfl
 refine take_ (i := 5) (N := some 12) (v := ?_) (a' := ?_) #[true, true, true, false, true, true, true, true, false, false, false] rfl rfl (take_ofW HT_.out HW_.out (by kernel_rfl)) (fun _ _ _ h => h) (Or.inl ⟨by rfl, ?_⟩) hHeld ?_ ?_
 rotate_left
 ·rintro w' ⟨s0, s1, s2⟩
  go_simp
  with_reducible rfl
 rotate_left
 ·simp only [Act.put, List.setIfInBounds_toArray, List.set_cons_zero, List.set_cons_succ, i64_w, i32_w]
  rfl
 refine one_ (i := 3) (N := some 10) #[true, true, true, true, true, true, true, true, false, false, false] rfl rfl (one_of HT_.out (by kernel_rfl)) (by decide) (fun K hK => ?_)
 refine goes_ Try.func47 (by kernel_rfl) rfl #[.agg #[.slice A0_0 l0_0.length c0_0], .agg #[.slice A1_0 l1_0.length c1_0, .int .i64 a1_1], .int .i64 a2] (by rfl) rfl rfl (by (try simp only [List.map_toArray, List.map_cons, List.map_nil]); first | done | rfl | (simp only [List.length_drop, List.length_take]; rfl)) ?_
 with_reducible refine (impl_Peek.calls k _ _ l0_0 _ _ l1_0 a1_1 a2 t303 _ ?side1 ?side2 ?side3 ?side4 A4.out).mono ?_
 (case side1 => repeat (first | exact (Kd.C_below HR0_0.out HB.out) | (with_reducible refine Kd.C_alloc ?_ _) | (with_reducible refine Kd.C_drewN ?_ _) | (with_reducible refine Kd.C_drew ?_)))
 (case side2 => exact HC0_0.out)
 (case side3 => repeat (first | exact (Kd.C_below HR1_0.out HB.out) | (with_reducible refine Kd.C_alloc ?_ _) | (with_reducible refine Kd.C_drewN ?_ _) | (with_reducible refine Kd.C_drew ?_)))
 (case side4 => exact HC1_0.out)
 rintro e w10 ⟨rfl, hb⟩
 refine ⟨_, rfl, ?_⟩
 have n0_ := Aside0.mk (blk_below (g := gb301) (o := .cells #[.slice A0_0 l0_0.length c0_0] 27 (0, 0)) (by (with_reducible repeat (first | refine blk_drewN ?_ _ | refine blk_drew ?_ | refine blk_alloc ?_ _)); exact BK301.out) hb)
 have n1_ := Aside0.mk (blk_below (g := gb302) (o := .cells #[.slice A1_0 l1_0.length c1_0, .int .i64 a1_1] 37 (0, 0)) (by (with_reducible repeat (first | refine blk_drewN ?_ _ | refine blk_drew ?_ | refine blk_alloc ?_ _)); exact BK302.out) hb)
 have n2_ := Aside0.mk (below_step (by repeat (first | (with_reducible first | exact HB.out | apply below_alloc | apply pw_below_drewN | apply below_drew1 | refine below_set ?_ GE301.out | refine below_set ?_ GE302.out) | exact HB.out)) hb)
 clear BK301
 clear BK302
 clear HB
 have BK301 := n0_
 have BK302 := n1_
 have HB := n2_
 clear n0_ n1_ n2_
 (try clear hb)
 (try clear hb2)
 (try clear hk)
 (try clear hi)
 refine hK.out _ _ ⟨(blk_cell BK301.out 0).trans rfl, (blk_cell BK302.out 0).trans rfl, (blk_cell BK302.out 1).trans rfl⟩ (fun hHeld => ?_)
 clear hK K
 refine norm_ (a' := ?_) ?_ ?_
 rotate_left
 ·show Act.put _ (some 10) _ = _
  simp only [Act.put, List.setIfInBounds_toArray, List.set_cons_zero, List.set_cons_succ, i64_w, i32_w]
  rfl
 refine one_ (i := 8) (N := some 15) #[true, true, true, true, true, true, true, true, true, false, false] rfl rfl (one_of HT_.out (by kernel_rfl)) (by decide) (fun K hK => ?_)
 refine goes_ Try.func47 (by kernel_rfl) rfl #[.agg #[.slice A0_0 l0_0.length c0_0], .agg #[.slice A1_0 l1_0.length c1_0, .int .i64 a1_1], .int .i64 (wrap64 (a2 + 1))] (by rfl) rfl rfl (by (try simp only [List.map_toArray, List.map_cons, List.map_nil]); first | done | rfl | (simp only [List.length_drop, List.length_take]; rfl)) ?_
 with_reducible refine (impl_Peek.calls k _ _ l0_0 _ _ l1_0 a1_1 (wrap64 (a2 + 1)) t304 _ ?side1 ?side2 ?side3 ?side4 A5.out).mono ?_
 (case side1 => repeat (first | exact (Kd.C_below HR0_0.out HB.out) | (with_reducible refine Kd.C_alloc ?_ _) | (with_reducible refine Kd.C_drewN ?_ _) | (with_reducible refine Kd.C_drew ?_)))
 (case side2 => exact HC0_0.out)
 (case side3 => repeat (first | exact (Kd.C_below HR1_0.out HB.out) | (with_reducible refine Kd.C_alloc ?_ _) | (with_reducible refine Kd.C_drewN ?_ _) | (with_reducible refine Kd.C_drew ?_)))
 (case side4 => exact HC1_0.out)
 rintro e w11 ⟨rfl, hb⟩
 refine ⟨_, rfl, ?_⟩
 have n0_ := Aside0.mk (blk_below (g := gb301) (o := .cells #[.slice A0_0 l0_0.length c0_0] 27 (0, 0)) (by (with_reducible repeat (first | refine blk_drewN ?_ _ | refine blk_drew ?_ | refine blk_alloc ?_ _)); exact BK301.out) hb)
 have n1_ := Aside0.mk (blk_below (g := gb302) (o := .cells #[.slice A1_0 l1_0.length c1_0, .int .i64 a1_1] 37 (0, 0)) (by (with_reducible repeat (first | refine blk_drewN ?_ _ | refine blk_drew ?_ | refine blk_alloc ?_ _)); exact BK302.out) hb)
 have n2_ := Aside0.mk (below_step (by repeat (first | (with_reducible first | exact HB.out | apply below_alloc | apply pw_below_drewN | apply below_drew1 | refine below_set ?_ GE301.out | refine below_set ?_ GE302.out) | exact HB.out)) hb)
 clear BK301
 clear BK302
 clear HB
 have BK301 := n0_
 have BK302 := n1_
 have HB := n2_
 clear n0_ n1_ n2_
 (try clear hb)
 (try clear hb2)
 (try clear hk)
 (try clear hi)
 refine hK.out _ _ ⟨(blk_cell BK301.out 0).trans rfl, (blk_cell BK302.out 0).trans rfl, (blk_cell BK302.out 1).trans rfl⟩ (fun hHeld => ?_)
 clear hK K
 refine norm_ (a' := ?_) ?_ ?_
 rotate_left
 ·show Act.put _ (some 15) _ = _
  simp only [Act.put, List.setIfInBounds_toArray, List.set_cons_zero, List.set_cons_succ, i64_w, i32_w]
  rfl
 refine one_ (i := 9) (N := some 16) #[true, true, true, true, true, true, true, true, true, true, false] rfl rfl (one_of HT_.out (by kernel_rfl)) (by decide) (fun K hK => ?_)
 refine goes_ Try.func101 (by kernel_rfl) rfl #[.int .i64 t303, .int .i64 t304] (by rfl) rfl rfl (by (try simp only [List.map_toArray, List.map_cons, List.map_nil]); first | done | rfl | (simp only [List.length_drop, List.length_take]; rfl)) ?_
 with_reducible refine (impl_Join.calls t303 t304 t305 _ A6.out).mono ?_
 rintro e w' ⟨rfl, ⟨nd, rfl⟩⟩
 refine ⟨_, rfl, ?_⟩
 have n0_ := Aside0.mk (blk_drewN BK301.out nd)
 have n1_ := Aside0.mk (blk_drewN BK302.out nd)
 have n2_ := Aside0.mk (pw_below_drewN HB.out nd)
 clear BK301
 clear BK302
 clear HB
 have BK301 := n0_
 have BK302 := n1_
 have HB := n2_
 clear n0_ n1_ n2_
 generalize w11.drewN nd = w11 at BK301 BK302 HB ⊢
 refine hK.out _ _ ⟨(blk_cell BK301.out 0).trans rfl, (blk_cell BK302.out 0).trans rfl, (blk_cell BK302.out 1).trans rfl⟩ (fun hHeld => ?_)
 clear hK K
 refine norm_ (a' := ?_) ?_ ?_
 rotate_left
 ·show Act.put _ (some 16) _ = _
  simp only [Act.put, List.setIfInBounds_toArray, List.set_cons_zero, List.set_cons_succ, i64_w, i32_w]
  rfl
 refine pure_ (i := 10) (N := some 6) (v := ?_) (a' := ?_) #[true, true, true, true, true, true, true, true, true, true, true] rfl rfl (any_of HT_.out (by kernel_rfl)) (fun _ _ _ h => h) (Or.inl ⟨by rfl, ?_⟩) ?_ ?_
 rotate_left
 ·intro w'
  go_simp
  with_reducible rfl
 rotate_left
 ·simp only [Act.put, List.setIfInBounds_toArray, List.set_cons_zero, List.set_cons_succ, i64_w, i32_w]
  rfl
 refine done_ (done_of HT_.out (by kernel_rfl)) ?_
 try go_wp2
 go_ret
 exact ⟨by first | rfl | (simp [errW_none, errW_some] <;> rfl) | (simp [*, errW_none, errW_some] <;> rfl), by repeat (first | (with_reducible first | exact HB.out | apply below_alloc | apply pw_below_drewN | apply below_drew1 | refine below_set ?_ GE301.out | refine below_set ?_ GE302.out) | exact HB.out)⟩

-- NOT PRINTED: function 90 (impl_Mem_pushPc)

/-! ### impl_flag: function 104 -/
def impl_flag.f (a0 : Bool) : Option (Int) := if a0 = true then (some 1) else (some 0)
set_option maxHeartbeats 8000000 in
set_option maxRecDepth 100000 in
theorem impl_flag.calls (a0 : Bool) (r : Int) (w : World) (h : impl_flag.f a0 = some r) :
  Calls Try.prog 104 #[.bool a0] w fun e w' => e = .returned (.int .i64 r) ∧ Drawn0 w w' := by
 have H : (if a0 = true then (some 1) else (some 0)) = some r := h
 clear h
 by_cases c2 : a0 = true
 ·subst c2
  have H1 : (some 1) = some r := by rw [if_pos rfl] at H; exact H
  clear H
  have H := H1
  clear H1
  obtain rfl := Option.some.inj H
  go_enter Try.func104, Try.ntmps104
  go_wp2
  go_ret
  exact ⟨by first | rfl | (simp; done) | (simp [*]; done), by repeat (first | exact Drawn0.refl _ | apply Drawn0.step)⟩
 ·replace c2 := Bool.eq_false_iff.mpr c2
  subst c2
  have H1 : (some 0) = some r := by rw [if_neg (show ¬ (false = true) by decide)] at H; exact H
  clear H
  have H := H1
  clear H1
  obtain rfl := Option.some.inj H
  go_enter Try.func104, Try.ntmps104
  go_wp2
  go_ret
  exact ⟨by first | rfl | (simp; done) | (simp [*]; done), by repeat (first | exact Drawn0.refl _ | apply Drawn0.step)⟩

/-! ### impl_Flags: function 91 -/
def impl_Flags.f (a0_0 : Int) (a0_1 : Int) (a0_2 : Int) (a0_3 : Int) (a0_4 : Bool) (a0_5 : Bool) (a0_6 : Bool) (a0_7 : Bool) : Option (Int) := (impl_flag.f a0_6).bind fun t307 => ((impl_flag.f a0_4).bind fun t308 => ((impl_flag.f a0_7).bind fun t309 => ((impl_flag.f a0_5).bind fun t310 => (some (Go.bits .or .i64 (Go.bits .or .i64 (Go.bits .or .i64 (wrap64 (1 * t307)) (wrap64 (2 * t308))) (wrap64 (4 * t309))) (wrap64 (128 * t310)))))))
set_option maxHeartbeats 8000000 in
set_option maxRecDepth 100000 in
theorem impl_Flags.calls (a0_0 : Int) (a0_1 : Int) (a0_2 : Int) (a0_3 : Int) (a0_4 : Bool) (a0_5 : Bool) (a0_6 : Bool) (a0_7 : Bool) (r : Int) (w : World) (h : impl_Flags.f a0_0 a0_1 a0_2 a0_3 a0_4 a0_5 a0_6 a0_7 = some r) :
  Calls Try.prog 91 #[.agg #[.int .i64 a0_0, .int .i64 a0_1, .int .i64 a0_2, .int .i64 a0_3, .bool a0_4, .bool a0_5, .bool a0_6, .bool a0_7]] w fun e w' => e = .returned (.int .i64 r) ∧ Below w.heap.size w w' := by
 have hu38 := Try.underlying38
 have HB := Aside0.mk (Below.refl w.heap.size w)
 have H : ((impl_flag.f a0_6).bind fun t307 => ((impl_flag.f a0_4).bind fun t308 => ((impl_flag.f a0_7).bind fun t309 => ((impl_flag.f a0_5).bind fun t310 => (some (Go.bits .or .i64 (Go.bits .or .i64 (Go.bits .or .i64 (wrap64 (1 * t307)) (wrap64 (2 * t308))) (wrap64 (4 * t309))) (wrap64 (128 * t310)))))))) = some r := h
 clear h
 replace H := Option.bind_eq_some_iff.mp H
 obtain ⟨t307, A20, H⟩ := H
 replace H : ((impl_flag.f a0_4).bind fun t308 => ((impl_flag.f a0_7).bind fun t309 => ((impl_flag.f a0_5).bind fun t310 => (some (Go.bits .or .i64 (Go.bits .or .i64 (Go.bits .or .i64 (wrap64 (1 * t307)) (wrap64 (2 * t308))) (wrap64 (4 * t309))) (wrap64 (128 * t310))))))) = some r := H
 have A2 := Aside0.mk A20
 clear A20
 replace H := Option.bind_eq_some_iff.mp H
 obtain ⟨t308, A30, H⟩ := H
 replace H : ((impl_flag.f a0_7).bind fun t309 => ((impl_flag.f a0_5).bind fun t310 => (some (Go.bits .or .i64 (Go.bits .or .i64 (Go.bits .or .i64 (wrap64 (1 * t307)) (wrap64 (2 * t308))) (wrap64 (4 * t309))) (wrap64 (128 * t310)))))) = some r := H
 have A3 := Aside0.mk A30
 clear A30
 replace H := Option.bind_eq_some_iff.mp H
 obtain ⟨t309, A40, H⟩ := H
 replace H : ((impl_flag.f a0_5).bind fun t310 => (some (Go.bits .or .i64 (Go.bits .or .i64 (Go.bits .or .i64 (wrap64 (1 * t307)) (wrap64 (2 * t308))) (wrap64 (4 * t309))) (wrap64 (128 * t310))))) = some r := H
 have A4 := Aside0.mk A40
 clear A40
 replace H := Option.bind_eq_some_iff.mp H
 obtain ⟨t310, A50, H⟩ := H
 replace H : (some (Go.bits .or .i64 (Go.bits .or .i64 (Go.bits .or .i64 (wrap64 (1 * t307)) (wrap64 (2 * t308))) (wrap64 (4 * t309))) (wrap64 (128 * t310)))) = some r := H
 have A5 := Aside0.mk A50
 clear A50
 obtain rfl := Option.some.inj H
 go_enter Try.func91, Try.ntmps91
 go_wp2_with (first | ((with_reducible refine gate_dst (N := 1) rfl ?_); refine box_event ?hg (N := 1) ?hd (cs := #[.int .i64 a0_0, .int .i64 a0_1, .int .i64 a0_2, .int .i64 a0_3, .bool a0_4, .bool a0_5, .bool a0_6, .bool a0_7]) (t := 38) ?hr ?_; (case hd => rfl); (case hg => rfl); (case hr => first | (go_simp; done) | (go_simp; rfl)); intro gb306 hg w6 hbox hb; have n0_ := Aside0.mk (below_step (by repeat (first | (with_reducible first | exact HB.out | apply below_alloc | apply pw_below_drewN | apply below_drew1) | exact HB.out)) hb); have n1_ := Aside0.mk (hbox); have n2_ := Aside0.mk ((by rw [hg]; exact (below_size (by repeat (first | (with_reducible first | exact HB.out | apply below_alloc | apply pw_below_drewN | apply below_drew1) | exact HB.out))) : w.heap.size ≤ gb306)); have n3_ := Aside0.mk ((by rw [hg]; exact (below_size (by repeat (first | (with_reducible first | exact HB.out | apply below_alloc | apply pw_below_drewN | apply below_drew1) | exact HB.out))) : w.heap.size ≤ gb306)); clear HB; have HB := n0_; have BK306 := n1_; have GW306 := n2_; have GE306 := n3_; clear n0_ n1_ n2_ n3_; clear hb hbox hg; have hcz7_0 : w6.cell? ⟨gb306, 0, none⟩ = some (.int .i64 a0_0) := (blk_cell BK306.out 0).trans rfl; have hcz7_1 : w6.cell? ⟨gb306, 1, none⟩ = some (.int .i64 a0_1) := (blk_cell BK306.out 1).trans rfl; have hcz7_2 : w6.cell? ⟨gb306, 2, none⟩ = some (.int .i64 a0_2) := (blk_cell BK306.out 2).trans rfl; have hcz7_3 : w6.cell? ⟨gb306, 3, none⟩ = some (.int .i64 a0_3) := (blk_cell BK306.out 3).trans rfl; have hcz7_4 : w6.cell? ⟨gb306, 4, none⟩ = some (.bool a0_4) := (blk_cell BK306.out 4).trans rfl; have hcz7_5 : w6.cell? ⟨gb306, 5, none⟩ = some (.bool a0_5) := (blk_cell BK306.out 5).trans rfl; have hcz7_6 : w6.cell? ⟨gb306, 6, none⟩ = some (.bool a0_6) := (blk_cell BK306.out 6).trans rfl; have hcz7_7 : w6.cell? ⟨gb306, 7, none⟩ = some (.bool a0_7) := (blk_cell BK306.out 7).trans rfl; have hfz7_0 := blk_frozen BK306.out 0; have hfz7_1 := blk_frozen BK306.out 1; have hfz7_2 := blk_frozen BK306.out 2; have hfz7_3 := blk_frozen BK306.out 3; have hfz7_4 := blk_frozen BK306.out 4; have hfz7_5 := blk_frozen BK306.out 5; have hfz7_6 := blk_frozen BK306.out 6; have hfz7_7 := blk_frozen BK306.out 7) | (go_at_call 104; (with_reducible refine (impl_flag.calls a0_6 t307 _ A2.out).mono ?_); rintro e w' ⟨rfl, ⟨nd, rfl⟩⟩; (try first | exact ⟨rfl, _, World.drewN_drewN _ _ _⟩ | exact ⟨rfl, _, Eq.trans (World.drewN_drewN _ _ _) (congrArg (World.drewN _) (Nat.add_assoc _ _ _))⟩)) | (go_at_call 104; (with_reducible refine (impl_flag.calls a0_4 t308 _ A3.out).mono ?_); rintro e w' ⟨rfl, ⟨nd, rfl⟩⟩; (try first | exact ⟨rfl, _, World.drewN_drewN _ _ _⟩ | exact ⟨rfl, _, Eq.trans (World.drewN_drewN _ _ _) (congrArg (World.drewN _) (Nat.add_assoc _ _ _))⟩)) | (go_at_call 104; (with_reducible refine (impl_flag.calls a0_7 t309 _ A4.out).mono ?_); rintro e w' ⟨rfl, ⟨nd, rfl⟩⟩; (try first | exact ⟨rfl, _, World.drewN_drewN _ _ _⟩ | exact ⟨rfl, _, Eq.trans (World.drewN_drewN _ _ _) (congrArg (World.drewN _) (Nat.add_assoc _ _ _))⟩)) | (go_at_call 104; (with_reducible refine (impl_flag.calls a0_5 t310 _ A5.out).mono ?_); rintro e w' ⟨rfl, ⟨nd, rfl⟩⟩; (try first | exact ⟨rfl, _, World.drewN_drewN _ _ _⟩ | exact ⟨rfl, _, Eq.trans (World.drewN_drewN _ _ _) (congrArg (World.drewN _) (Nat.add_assoc _ _ _))⟩)))
 repeat (go_quiet (first | ((with_reducible refine gate_dst (N := 1) rfl ?_); refine box_event ?hg (N := 1) ?hd (cs := #[.int .i64 a0_0, .int .i64 a0_1, .int .i64 a0_2, .int .i64 a0_3, .bool a0_4, .bool a0_5, .bool a0_6, .bool a0_7]) (t := 38) ?hr ?_; (case hd => rfl); (case hg => rfl); (case hr => first | (go_simp; done) | (go_simp; rfl)); intro gb306 hg w6 hbox hb; have n0_ := Aside0.mk (below_step (by repeat (first | (with_reducible first | exact HB.out | apply below_alloc | apply pw_below_drewN | apply below_drew1) | exact HB.out)) hb); have n1_ := Aside0.mk (hbox); have n2_ := Aside0.mk ((by rw [hg]; exact (below_size (by repeat (first | (with_reducible first | exact HB.out | apply below_alloc | apply pw_below_drewN | apply below_drew1) | exact HB.out))) : w.heap.size ≤ gb306)); have n3_ := Aside0.mk ((by rw [hg]; exact (below_size (by repeat (first | (with_reducible first | exact HB.out | apply below_alloc | apply pw_below_drewN | apply below_drew1) | exact HB.out))) : w.heap.size ≤ gb306)); clear HB; have HB := n0_; have BK306 := n1_; have GW306 := n2_; have GE306 := n3_; clear n0_ n1_ n2_ n3_; clear hb hbox hg; have hcz7_0 : w6.cell? ⟨gb306, 0, none⟩ = some (.int .i64 a0_0) := (blk_cell BK306.out 0).trans rfl; have hcz7_1 : w6.cell? ⟨gb306, 1, none⟩ = some (.int .i64 a0_1) := (blk_cell BK306.out 1).trans rfl; have hcz7_2 : w6.cell? ⟨gb306, 2, none⟩ = some (.int .i64 a0_2) := (blk_cell BK306.out 2).trans rfl; have hcz7_3 : w6.cell? ⟨gb306, 3, none⟩ = some (.int .i64 a0_3) := (blk_cell BK306.out 3).trans rfl; have hcz7_4 : w6.cell? ⟨gb306, 4, none⟩ = some (.bool a0_4) := (blk_cell BK306.out 4).trans rfl; have hcz7_5 : w6.cell? ⟨gb306, 5, none⟩ = some (.bool a0_5) := (blk_cell BK306.out 5).trans rfl; have hcz7_6 : w6.cell? ⟨gb306, 6, none⟩ = some (.bool a0_6) := (blk_cell BK306.out 6).trans rfl; have hcz7_7 : w6.cell? ⟨gb306, 7, none⟩ = some (.bool a0_7) := (blk_cell BK306.out 7).trans rfl; have hfz7_0 := blk_frozen BK306.out 0; have hfz7_1 := blk_frozen BK306.out 1; have hfz7_2 := blk_frozen BK306.out 2; have hfz7_3 := blk_frozen BK306.out 3; have hfz7_4 := blk_frozen BK306.out 4; have hfz7_5 := blk_frozen BK306.out 5; have hfz7_6 := blk_frozen BK306.out 6; have hfz7_7 := blk_frozen BK306.out 7) | (go_at_call 104; (with_reducible refine (impl_flag.calls a0_6 t307 _ A2.out).mono ?_); rintro e w' ⟨rfl, ⟨nd, rfl⟩⟩; (try first | exact ⟨rfl, _, World.drewN_drewN _ _ _⟩ | exact ⟨rfl, _, Eq.trans (World.drewN_drewN _ _ _) (congrArg (World.drewN _) (Nat.add_assoc _ _ _))⟩)) | (go_at_call 104; (with_reducible refine (impl_flag.calls a0_4 t308 _ A3.out).mono ?_); rintro e w' ⟨rfl, ⟨nd, rfl⟩⟩; (try first | exact ⟨rfl, _, World.drewN_drewN _ _ _⟩ | exact ⟨rfl, _, Eq.trans (World.drewN_drewN _ _ _) (congrArg (World.drewN _) (Nat.add_assoc _ _ _))⟩)) | (go_at_call 104; (with_reducible refine (impl_flag.calls a0_7 t309 _ A4.out).mono ?_); rintro e w' ⟨rfl, ⟨nd, rfl⟩⟩; (try first | exact ⟨rfl, _, World.drewN_drewN _ _ _⟩ | exact ⟨rfl, _, Eq.trans (World.drewN_drewN _ _ _) (congrArg (World.drewN _) (Nat.add_assoc _ _ _))⟩)) | (go_at_call 104; (with_reducible refine (impl_flag.calls a0_5 t310 _ A5.out).mono ?_); rintro e w' ⟨rfl, ⟨nd, rfl⟩⟩; (try first | exact ⟨rfl, _, World.drewN_drewN _ _ _⟩ | exact ⟨rfl, _, Eq.trans (World.drewN_drewN _ _ _) (congrArg (World.drewN _) (Nat.add_assoc _ _ _))⟩))); try go_wp2_with (first | ((with_reducible refine gate_dst (N := 1) rfl ?_); refine box_event ?hg (N := 1) ?hd (cs := #[.int .i64 a0_0, .int .i64 a0_1, .int .i64 a0_2, .int .i64 a0_3, .bool a0_4, .bool a0_5, .bool a0_6, .bool a0_7]) (t := 38) ?hr ?_; (case hd => rfl); (case hg => rfl); (case hr => first | (go_simp; done) | (go_simp; rfl)); intro gb306 hg w6 hbox hb; have n0_ := Aside0.mk (below_step (by repeat (first | (with_reducible first | exact HB.out | apply below_alloc | apply pw_below_drewN | apply below_drew1) | exact HB.out)) hb); have n1_ := Aside0.mk (hbox); have n2_ := Aside0.mk ((by rw [hg]; exact (below_size (by repeat (first | (with_reducible first | exact HB.out | apply below_alloc | apply pw_below_drewN | apply below_drew1) | exact HB.out))) : w.heap.size ≤ gb306)); have n3_ := Aside0.mk ((by rw [hg]; exact (below_size (by repeat (first | (with_reducible first | exact HB.out | apply below_alloc | apply pw_below_drewN | apply below_drew1) | exact HB.out))) : w.heap.size ≤ gb306)); clear HB; have HB := n0_; have BK306 := n1_; have GW306 := n2_; have GE306 := n3_; clear n0_ n1_ n2_ n3_; clear hb hbox hg; have hcz7_0 : w6.cell? ⟨gb306, 0, none⟩ = some (.int .i64 a0_0) := (blk_cell BK306.out 0).trans rfl; have hcz7_1 : w6.cell? ⟨gb306, 1, none⟩ = some (.int .i64 a0_1) := (blk_cell BK306.out 1).trans rfl; have hcz7_2 : w6.cell? ⟨gb306, 2, none⟩ = some (.int .i64 a0_2) := (blk_cell BK306.out 2).trans rfl; have hcz7_3 : w6.cell? ⟨gb306, 3, none⟩ = some (.int .i64 a0_3) := (blk_cell BK306.out 3).trans rfl; have hcz7_4 : w6.cell? ⟨gb306, 4, none⟩ = some (.bool a0_4) := (blk_cell BK306.out 4).trans rfl; have hcz7_5 : w6.cell? ⟨gb306, 5, none⟩ = some (.bool a0_5) := (blk_cell BK306.out 5).trans rfl; have hcz7_6 : w6.cell? ⟨gb306, 6, none⟩ = some (.bool a0_6) := (blk_cell BK306.out 6).trans rfl; have hcz7_7 : w6.cell? ⟨gb306, 7, none⟩ = some (.bool a0_7) := (blk_cell BK306.out 7).trans rfl; have hfz7_0 := blk_frozen BK306.out 0; have hfz7_1 := blk_frozen BK306.out 1; have hfz7_2 := blk_frozen BK306.out 2; have hfz7_3 := blk_frozen BK306.out 3; have hfz7_4 := blk_frozen BK306.out 4; have hfz7_5 := blk_frozen BK306.out 5; have hfz7_6 := blk_frozen BK306.out 6; have hfz7_7 := blk_frozen BK306.out 7) | (go_at_call 104; (with_reducible refine (impl_flag.calls a0_6 t307 _ A2.out).mono ?_); rintro e w' ⟨rfl, ⟨nd, rfl⟩⟩; (try first | exact ⟨rfl, _, World.drewN_drewN _ _ _⟩ | exact ⟨rfl, _, Eq.trans (World.drewN_drewN _ _ _) (congrArg (World.drewN _) (Nat.add_assoc _ _ _))⟩)) | (go_at_call 104; (with_reducible refine (impl_flag.calls a0_4 t308 _ A3.out).mono ?_); rintro e w' ⟨rfl, ⟨nd, rfl⟩⟩; (try first | exact ⟨rfl, _, World.drewN_drewN _ _ _⟩ | exact ⟨rfl, _, Eq.trans (World.drewN_drewN _ _ _) (congrArg (World.drewN _) (Nat.add_assoc _ _ _))⟩)) | (go_at_call 104; (with_reducible refine (impl_flag.calls a0_7 t309 _ A4.out).mono ?_); rintro e w' ⟨rfl, ⟨nd, rfl⟩⟩; (try first | exact ⟨rfl, _, World.drewN_drewN _ _ _⟩ | exact ⟨rfl, _, Eq.trans (World.drewN_drewN _ _ _) (congrArg (World.drewN _) (Nat.add_assoc _ _ _))⟩)) | (go_at_call 104; (with_reducible refine (impl_flag.calls a0_5 t310 _ A5.out).mono ?_); rintro e w' ⟨rfl, ⟨nd, rfl⟩⟩; (try first | exact ⟨rfl, _, World.drewN_drewN _ _ _⟩ | exact ⟨rfl, _, Eq.trans (World.drewN_drewN _ _ _) (congrArg (World.drewN _) (Nat.add_assoc _ _ _))⟩))))
 go_ret
 exact ⟨by first | rfl | (simp [errW_none, errW_some] <;> rfl) | (simp [*, errW_none, errW_some] <;> rfl), by repeat (first | (with_reducible first | exact HB.out | apply below_alloc | apply pw_below_drewN | apply below_drew1 | refine below_set ?_ GE306.out) | exact HB.out)⟩

-- NOT PRINTED: function 56 (impl_Enter)

-- NOT PRINTED: function 13 (laws_FnExactEnter)

/-! ### impl_Enter (mine) -/
theorem copyMem_just {l0 r1 : List Int} {b r2 : Int} (h : impl_copyMem.f l0 b = some (r1, r2)) : r1 = l0 ∧ r2 = b := by
 unfold impl_copyMem.f impl_copyInts.f at h
 simp only [Option.bind_some] at h
 split at h
 ·simp only [Option.bind_some, Option.some.injEq, Prod.mk.injEq, List.nil_append] at h
  exact ⟨h.1.symm, h.2.symm⟩
 ·simp at h
/-- What Enter leaves: fl the flags, pc where the vector leads. -/
def enterF (ram : List Int) (k : Cp) (fl pc : Int) : List Int × Cp := ((pushF (pushPcF ram k).1 (pushPcF ram k).2 fl).1, { (pushF (pushPcF ram k).1 (pushPcF ram k).2 fl).2 with I := true, P := pc })
set_option maxRecDepth 100000 in
set_option maxHeartbeats 4000000 in
theorem implEnter_calls (n : Nat) (A0 : Option Addr) (c0 : Nat) (l0 : List (List Int)) (A1 : Option Addr) (c1 : Nat) (l1 : List Int) (b : Int) (k : Cp) (vec : Int) (w : World) (hr0 : Kd.C (Kd.slice 3 (Kd.int .i64)) w A0 l0.length l0) (hc0 : l0.length ≤ c0) (hr1 : Kd.C (Kd.int .i64) w A1 l1.length l1) (hc1 : l1.length ≤ c1)
  (h : impl_copyMem.f l1 b = some (l1, b)) (fl : Int) (hfl : impl_Flags.f (pushPcF l1 k).2.A (pushPcF l1 k).2.X (pushPcF l1 k).2.S (pushPcF l1 k).2.P (pushPcF l1 k).2.Z (pushPcF l1 k).2.N (pushPcF l1 k).2.C (pushPcF l1 k).2.I = some fl)
  (pc : Int) (hpc : impl_vectorOf.f n l0 (pushF (pushPcF l1 k).1 (pushPcF l1 k).2 fl).1 b vec = some pc) :
  Calls Try.prog 56 #[.agg #[.slice A0 l0.length c0], .agg #[.slice A1 l1.length c1, .int .i64 b], .agg k.cells, .int .i64 vec] w fun e w' => ∃ v0_ : Value, e = .returned (.tuple #[.agg #[v0_, .int .i64 b], .agg (enterF l1 k fl pc).2.cells]) ∧ Kd.R (Kd.int .i64) 3 w' w.heap.size (fun _ => True) v0_ (enterF l1 k fl pc).1 ∧ Below w.heap.size w w' := by
 have hu27 := Try.underlying27
 have hu37 := Try.underlying37
 have hu38 := Try.underlying38
 have HR := Aside0.mk hr0
 have HC := Aside0.mk hc0
 have HR1 := Aside0.mk hr1
 have HC1 := Aside0.mk hc1
 have H := Aside0.mk h
 have HFL := Aside0.mk hfl
 have HPC := Aside0.mk hpc
 clear hr0 hc0 hr1 hc1 h hfl hpc
 go_enter Try.func56, Try.ntmps56
 unfold Cp.cells
 go_wp2_with fail
 refine (impl_copyMem.calls A1 c1 l1 b l1 b _ ?hr HC1.out H.out).mono ?_
 case hr => repeat (first | exact HR1.out | (with_reducible refine Kd.C_alloc ?_ _))
 rintro e W2 ⟨v0, rfl, hR, hB⟩
 obtain ⟨A2, c2, rfl⟩ := Kd.R_slice hR
 have b0 : W2.heap[w.heap.size]? = some (.cells #[.slice A0 l0.length c0] 27 (0, 0)) := blk_below (by repeat (first | exact alloc_at _ _ _ (by simp only [alloc_size]) | refine blk_alloc ?_ _)) hB
 have b2 : W2.heap[w.heap.size + 2]? = some (.cells k.cells 38 (0, 0)) := blk_below (by repeat (first | exact alloc_at _ _ _ (by simp only [alloc_size]) | refine blk_alloc ?_ _)) hB
 have b3 : W2.heap[w.heap.size + 3]? = some (.cells #[.slice none 0 0, .int .i64 0] 37 (0, 0)) := blk_below (by repeat (first | exact alloc_at _ _ _ (by simp only [alloc_size]) | refine blk_alloc ?_ _)) hB
 have b4 : W2.heap[w.heap.size + 4]? = some (.cells #[.int .i64 0, .int .i64 0, .int .i64 0, .int .i64 0, .bool false, .bool false, .bool false, .bool false] 38 (0, 0)) := blk_below (by repeat (first | exact alloc_at _ _ _ (by simp only [alloc_size]) | refine blk_alloc ?_ _)) hB
 have hsz : w.heap.size + 5 ≤ W2.heap.size := by have := hB.size; simp only [alloc_size] at this; omega
 have hbel : Below w.heap.size w W2 := below_step (by repeat (first | exact Below.refl _ _ | apply below_alloc)) hB
 have hM : MC w (W2.alloc (.cells #[.slice A2 l1.length c2, .int .i64 b] 37)) W2.heap.size (w.heap.size + 2) (.slice A2 l1.length c2) b k l1 :=
  ⟨blk_new W2 _, blk_alloc b2 _, Kd.R_alloc (Kd.R_lower hR (by simp only [alloc_size]; omega)) _, by omega, by omega, below_alloc hbel _⟩
 have HSZ := Aside0.mk hsz
 have HM := Aside0.mk hM
 have B0 := Aside0.mk (blk_alloc b0 (.cells #[.slice A2 l1.length c2, .int .i64 b] 37))
 have B3 := Aside0.mk (blk_alloc b3 (.cells #[.slice A2 l1.length c2, .int .i64 b] 37))
 have B4 := Aside0.mk (blk_alloc b4 (.cells #[.slice A2 l1.length c2, .int .i64 b] 37))
 clear hR hB b0 b2 b3 b4 hsz hbel hM
 go_wp2_with fail
 generalize W2.alloc (.cells #[.slice A2 l1.length c2, .int .i64 b] 37) = W3 at *
 generalize W2.heap.size = x at *
 refine (pushPc_calls HM.out).mono ?_
 rintro e W4 ⟨rfl, h4, k4⟩
 have hself : ∀ {W : World} {j : Nat} {t : TypeId} {cs : Array Value} {cc : Array Value}, MC w W x (w.heap.size + 2) (.slice A2 l1.length c2) b k l1 → True := fun _ => trivial
 generalize hq : pushPcF l1 k = q at *
 obtain ⟨ram1, k1⟩ := q
 have HQ := Aside0.mk hq
 clear hq hself
 have C0 := Aside0.mk (blk_kept B0.out k4 (fun h => h.elim (fun h => by omega) (fun h => Kd.R_ne HM.out.row B0.out (by decide) h)))
 have C3 := Aside0.mk (blk_kept B3.out k4 (fun h => h.elim (fun h => by omega) (fun h => Kd.R_ne HM.out.row B3.out (by decide) h)))
 have C4 := Aside0.mk (blk_kept B4.out k4 (fun h => h.elim (fun h => by omega) (fun h => Kd.R_ne HM.out.row B4.out (by decide) h)))
 have H4 := Aside0.mk h4
 clear h4 k4 B0 B3 B4 HM
 have y0 : W4.cell? ⟨w.heap.size + 2, 0, none⟩ = some (.int .i64 k1.A) := (blk_cell H4.out.cpu 0).trans rfl
 have y1 : W4.cell? ⟨w.heap.size + 2, 1, none⟩ = some (.int .i64 k1.X) := (blk_cell H4.out.cpu 1).trans rfl
 have y2 : W4.cell? ⟨w.heap.size + 2, 2, none⟩ = some (.int .i64 k1.S) := (blk_cell H4.out.cpu 2).trans rfl
 have y3 : W4.cell? ⟨w.heap.size + 2, 3, none⟩ = some (.int .i64 k1.P) := (blk_cell H4.out.cpu 3).trans rfl
 have y4 : W4.cell? ⟨w.heap.size + 2, 4, none⟩ = some (.bool k1.Z) := (blk_cell H4.out.cpu 4).trans rfl
 have y5 : W4.cell? ⟨w.heap.size + 2, 5, none⟩ = some (.bool k1.N) := (blk_cell H4.out.cpu 5).trans rfl
 have y6 : W4.cell? ⟨w.heap.size + 2, 6, none⟩ = some (.bool k1.C) := (blk_cell H4.out.cpu 6).trans rfl
 have y7 : W4.cell? ⟨w.heap.size + 2, 7, none⟩ = some (.bool k1.I) := (blk_cell H4.out.cpu 7).trans rfl
 go_wp2_with fail
 refine (impl_Flags.calls k1.A k1.X k1.S k1.P k1.Z k1.N k1.C k1.I fl _ HFL.out).mono ?_
 rintro e W5 ⟨rfl, hB5⟩
 clear y0 y1 y2 y3 y4 y5 y6 y7
 have H5 := Aside0.mk (H4.out.later hB5)
 have D0 := Aside0.mk (blk_below C0.out hB5)
 have D3 := Aside0.mk (blk_below C3.out hB5)
 have D4 := Aside0.mk (blk_below C4.out hB5)
 clear hB5 H4 C0 C3 C4
 go_wp2_with fail
 refine (push_calls H5.out fl).mono ?_
 rintro e W6 ⟨rfl, h6, k6⟩
 generalize hq2 : pushF ram1 k1 fl = q2 at *
 obtain ⟨ram2, k2⟩ := q2
 have HQ2 := Aside0.mk hq2
 clear hq2
 have E0 := Aside0.mk (blk_kept D0.out k6 (fun h => h.elim (fun h => by omega) (fun h => Kd.R_ne H5.out.row D0.out (by decide) h)))
 have E3 := Aside0.mk (blk_kept D3.out k6 (fun h => h.elim (fun h => by omega) (fun h => Kd.R_ne H5.out.row D3.out (by decide) h)))
 have E4 := Aside0.mk (blk_kept D4.out k6 (fun h => h.elim (fun h => by omega) (fun h => Kd.R_ne H5.out.row D4.out (by decide) h)))
 have H6 := Aside0.mk h6
 clear h6 k6 D0 D3 D4 H5
 -- I
 have H7 := Aside0.mk (H6.out.setC (k' := { k2 with I := true }) 7 (.bool true) rfl)
 have F0 := Aside0.mk (blk_far (p := ⟨w.heap.size + 2, 7, none⟩) E0.out (by simp) (.bool true))
 have F3 := Aside0.mk (blk_far (p := ⟨w.heap.size + 2, 7, none⟩) E3.out (by simp) (.bool true))
 have F4 := Aside0.mk (blk_far (p := ⟨w.heap.size + 2, 7, none⟩) E4.out (by simp) (.bool true))
 have y7 : W6.cell? ⟨w.heap.size + 2, 7, none⟩ = some (.bool k2.I) := (blk_cell H6.out.cpu 7).trans rfl
 have f7 := blk_frozen H6.out.cpu 7
 have z0 : (W6.setCell ⟨w.heap.size + 2, 7, none⟩ (.bool true)).cell? ⟨w.heap.size, 0, none⟩ = some (.slice A0 l0.length c0) := (blk_cell F0.out 0).trans rfl
 have z1 : (W6.setCell ⟨w.heap.size + 2, 7, none⟩ (.bool true)).cell? ⟨x, 0, none⟩ = some (.slice A2 l1.length c2) := (blk_cell H7.out.mem 0).trans rfl
 have z2 : (W6.setCell ⟨w.heap.size + 2, 7, none⟩ (.bool true)).cell? ⟨x, 1, none⟩ = some (.int .i64 b) := (blk_cell H7.out.mem 1).trans rfl
 go_wp2_with fail
 generalize W6.setCell ⟨w.heap.size + 2, 7, none⟩ (.bool true) = W7 at *
 clear y7 f7 z0 z1 z2 E0 E3 E4 H6
 have hlen : l1.length = ram2.length := (Kd.R_reads' H7.out.row).1
 obtain ⟨hl2, hcm, hCm⟩ := Kd.R_reads' H7.out.row
 refine calls_of_args (args' := #[.agg #[.slice A0 l0.length c0], .agg #[.slice A2 ram2.length c2, .int .i64 b], .int .i64 vec]) (by rw [hlen]) ?_
 have hpc2 : impl_vectorOf.f n l0 ram2 b vec = some pc := HPC.out
 refine (impl_vectorOf.calls n A0 c0 l0 A2 c2 ram2 b vec pc _ (Kd.C_below HR.out H7.out.below) HC.out hCm (by omega) hpc2).mono ?_
 rintro e W8 ⟨rfl, hB8⟩
 have H8 := Aside0.mk (H7.out.later hB8)
 have G3 := Aside0.mk (blk_below F3.out hB8)
 have G4 := Aside0.mk (blk_below F4.out hB8)
 clear hB8 hlen hl2 hcm hCm hpc2 H7 F0 F3 F4
 have H9 := Aside0.mk (H8.out.setC (k' := { k2 with I := true, P := pc }) 3 (.int .i64 pc) rfl)
 have HB1 := Aside0.mk (blk_far (p := ⟨w.heap.size + 2, 3, none⟩) G3.out (by simp) (.int .i64 pc))
 have HB2 := Aside0.mk (blk_far (p := ⟨w.heap.size + 2, 3, none⟩) G4.out (by simp) (.int .i64 pc))
 have y3 : W8.cell? ⟨w.heap.size + 2, 3, none⟩ = some (.int .i64 k2.P) := (blk_cell H8.out.cpu 3).trans rfl
 have f3 := blk_frozen H8.out.cpu 3
 go_wp2
 generalize hW9 : W8.setCell ⟨w.heap.size + 2, 3, none⟩ (.int .i64 pc) = W4 at *
 clear y3 f3 H8 G3 G4 hW9
 obtain ⟨qa, qx, qs, qp, qz, qn, qc, qi⟩ := k2
 have hz_ := HSZ.out
 have h4 : MC w W4 x (w.heap.size + 2) (.slice A2 l1.length c2) b ⟨qa, qx, qs, pc, qz, qn, qc, true⟩ ram2 := H9.out
 have HM4 := Aside0.mk h4.mem
 have HC4 : Aside0 (W4.heap[w.heap.size + 2]? = some (.cells #[.int .i64 qa, .int .i64 qx, .int .i64 qs, .int .i64 pc, .bool qz, .bool qn, .bool qc, .bool true] 38 (0, 0))) := ⟨h4.cpu⟩
 clear H9
 have hne12 : w.heap.size + 3 ≠ w.heap.size + 4 := by omega
 have hne21 : w.heap.size + 4 ≠ w.heap.size + 3 := by omega
 have o1 : x ≠ w.heap.size + 3 := by omega
 have o2 : x ≠ w.heap.size + 4 := by omega
 have o3 : w.heap.size + 2 ≠ w.heap.size + 3 := by omega
 have o4 : w.heap.size + 2 ≠ w.heap.size + 4 := by omega
 refine start_ (n := 4) (S := fun w' => w'.heap[x]? = some (.cells #[.slice A2 l1.length c2, .int .i64 b] 37 (0, 0)) ∧ w'.heap[w.heap.size + 2]? = some (.cells #[.int .i64 qa, .int .i64 qx, .int .i64 qs, .int .i64 pc, .bool qz, .bool qn, .bool qc, .bool true] 38 (0, 0))) (ds := []) #[false, false, false, false] (by kernel_rfl) rfl rfl ⟨HM4.out, HC4.out⟩ (fun hHeld => ?_)
 refine take_ (i := 0) (N := some 23) (v := ?_) (a' := ?_) #[true, false, false, false] rfl rfl (by kernel_rfl) (fun _ _ _ h => h) (Or.inl ⟨by rfl, ?_⟩) hHeld ?_ ?_
 rotate_left
 ·rintro w' ⟨s0, s1⟩
  have a0 : w'.cell? ⟨x, 0, none⟩ = some (.slice A2 l1.length c2) := (blk_cell s0 0).trans rfl
  have a1 : w'.cell? ⟨x, 1, none⟩ = some (.int .i64 b) := (blk_cell s0 1).trans rfl
  clear s0 s1
  go_simp
  with_reducible rfl
 rotate_left
 ·simp only [Act.put, List.setIfInBounds_toArray, List.set_cons_zero, List.set_cons_succ, i64_w, i32_w]
  rfl
 refine take_ (i := 1) (N := some 24) (v := ?_) (a' := ?_) #[true, true, false, false] rfl rfl (by kernel_rfl) (fun _ _ _ h => h) (Or.inl ⟨by rfl, ?_⟩) hHeld ?_ ?_
 rotate_left
 ·rintro w' ⟨s0, s1⟩
  have b0 : w'.cell? ⟨w.heap.size + 2, 0, none⟩ = some (.int .i64 qa) := (blk_cell s1 0).trans rfl
  have b1 : w'.cell? ⟨w.heap.size + 2, 1, none⟩ = some (.int .i64 qx) := (blk_cell s1 1).trans rfl
  have b2 : w'.cell? ⟨w.heap.size + 2, 2, none⟩ = some (.int .i64 qs) := (blk_cell s1 2).trans rfl
  have b3 : w'.cell? ⟨w.heap.size + 2, 3, none⟩ = some (.int .i64 pc) := (blk_cell s1 3).trans rfl
  have b4 : w'.cell? ⟨w.heap.size + 2, 4, none⟩ = some (.bool qz) := (blk_cell s1 4).trans rfl
  have b5 : w'.cell? ⟨w.heap.size + 2, 5, none⟩ = some (.bool qn) := (blk_cell s1 5).trans rfl
  have b6 : w'.cell? ⟨w.heap.size + 2, 6, none⟩ = some (.bool qc) := (blk_cell s1 6).trans rfl
  have b7 : w'.cell? ⟨w.heap.size + 2, 7, none⟩ = some (.bool true) := (blk_cell s1 7).trans rfl
  clear s0 s1
  go_simp
  with_reducible rfl
 rotate_left
 ·simp only [Act.put, List.setIfInBounds_toArray, List.set_cons_zero, List.set_cons_succ, i64_w, i32_w]
  rfl
 refine one_ (i := 2) (N := none) #[true, true, true, false] rfl rfl (by kernel_rfl) (by decide) (fun K hK => ?_)
 refine skip_ (w1 := ?_) (by rfl) rfl ?_ ?_
 rotate_left
 ·have r0 : W4.cell? ⟨w.heap.size + 3, 0, none⟩ = some (.slice none 0 0) := (blk_cell HB1.out 0).trans rfl
  have r1 : W4.cell? ⟨w.heap.size + 3, 1, none⟩ = some (.int .i64 0) := (blk_cell HB1.out 1).trans rfl
  have f0 := blk_frozen HB1.out 0
  have f1 := blk_frozen HB1.out 1
  go_simp
  rfl
 refine hK.out _ _ ⟨(heap2 _ _ _ _ _ o1).trans hHeld.1, (heap2 _ _ _ _ _ o3).trans hHeld.2⟩ (fun hHeld => ?_)
 clear hK K
 have g0 := (heap_drew _ _).symm.trans hHeld.1
 have g1 := (heap_drew _ _).symm.trans hHeld.2
 have g2 : ((W4.setCell ⟨w.heap.size + 1 + 1 + 1, 0, none⟩ (.slice A2 l1.length c2)).setCell ⟨w.heap.size + 1 + 1 + 1, 1, none⟩ (.int .i64 b)).heap[w.heap.size + 4]? = _ := (heap2 W4 (w.heap.size + 3) (w.heap.size + 4) (.slice A2 l1.length c2) (.int .i64 b) hne21).trans HB2.out
 have g3 : ((W4.setCell ⟨w.heap.size + 1 + 1 + 1, 0, none⟩ (.slice A2 l1.length c2)).setCell ⟨w.heap.size + 1 + 1 + 1, 1, none⟩ (.int .i64 b)).heap[w.heap.size + 3]? = _ := put2 HB1.out (.slice A2 l1.length c2) (.int .i64 b)
 have g4 : Kd.R (Kd.int .i64) 3 ((W4.setCell ⟨w.heap.size + 1 + 1 + 1, 0, none⟩ (.slice A2 l1.length c2)).setCell ⟨w.heap.size + 1 + 1 + 1, 1, none⟩ (.int .i64 b)) w.heap.size (fun _ => True) (.slice A2 l1.length c2) ram2 :=
  Kd.R_mono (Kd.R_far (p := ⟨w.heap.size + 3, 1, none⟩) (Kd.R_far (p := ⟨w.heap.size + 3, 0, none⟩) (Kd.R_types h4.row HB1.out (by decide)) (fun _ hk => hk.2) (.slice A2 l1.length c2)) (fun _ hk => hk.2) (.int .i64 b)) (fun _ hk => trivial)
 have g5 : Below w.heap.size w ((W4.setCell ⟨w.heap.size + 1 + 1 + 1, 0, none⟩ (.slice A2 l1.length c2)).setCell ⟨w.heap.size + 1 + 1 + 1, 1, none⟩ (.int .i64 b)) := below_set (below_set h4.below (by omega)) (by omega)
 clear HB1 HB2 HM4 HC4 h4
 generalize ((W4.setCell ⟨w.heap.size + 1 + 1 + 1, 0, none⟩ (.slice A2 l1.length c2)).setCell ⟨w.heap.size + 1 + 1 + 1, 1, none⟩ (.int .i64 b)) = W5 at *
 have G2 := Aside0.mk g2
 have G3 := Aside0.mk g3
 have G4 := Aside0.mk g4
 have G5 := Aside0.mk g5
 have G0 := Aside0.mk g0
 have G1 := Aside0.mk g1
 clear g0 g1 g2 g3 g4 g5
 refine one_ (i := 3) (N := none) #[true, true, true, true] rfl rfl (by kernel_rfl) (by decide) (fun K hK => ?_)
 refine skip_ (w1 := ?_) (by rfl) rfl ?_ ?_
 rotate_left
 ·skip
  have r0 : W5.cell? ⟨w.heap.size + 4, 0, none⟩ = some (.int .i64 0) := (blk_cell G2.out 0).trans rfl
  have f0 := blk_frozen G2.out 0
  have r1 : W5.cell? ⟨w.heap.size + 4, 1, none⟩ = some (.int .i64 0) := (blk_cell G2.out 1).trans rfl
  have f1 := blk_frozen G2.out 1
  have r2 : W5.cell? ⟨w.heap.size + 4, 2, none⟩ = some (.int .i64 0) := (blk_cell G2.out 2).trans rfl
  have f2 := blk_frozen G2.out 2
  have r3 : W5.cell? ⟨w.heap.size + 4, 3, none⟩ = some (.int .i64 0) := (blk_cell G2.out 3).trans rfl
  have f3 := blk_frozen G2.out 3
  have r4 : W5.cell? ⟨w.heap.size + 4, 4, none⟩ = some (.bool false) := (blk_cell G2.out 4).trans rfl
  have f4 := blk_frozen G2.out 4
  have r5 : W5.cell? ⟨w.heap.size + 4, 5, none⟩ = some (.bool false) := (blk_cell G2.out 5).trans rfl
  have f5 := blk_frozen G2.out 5
  have r6 : W5.cell? ⟨w.heap.size + 4, 6, none⟩ = some (.bool false) := (blk_cell G2.out 6).trans rfl
  have f6 := blk_frozen G2.out 6
  have r7 : W5.cell? ⟨w.heap.size + 4, 7, none⟩ = some (.bool false) := (blk_cell G2.out 7).trans rfl
  have f7 := blk_frozen G2.out 7
  go_simp
  rfl
 refine hK.out _ _ ⟨(heap_drew _ _).trans ((heap8 W5 (w.heap.size + 4) _ _ _ _ _ _ _ _ _ o2).trans G0.out), (heap_drew _ _).trans ((heap8 W5 (w.heap.size + 4) _ _ _ _ _ _ _ _ _ o4).trans G1.out)⟩ (fun hHeld => ?_)
 clear hK K
 refine done_ (by kernel_rfl) ?_
 try go_wp2
 refine bodyPost_ret (results_cc rfl _ _ (w.heap.size + 3) (w.heap.size + 4) 37 38 #[.slice A2 l1.length c2, .int .i64 b] #[.int .i64 qa, .int .i64 qx, .int .i64 qs, .int .i64 pc, .bool qz, .bool qn, .bool qc, .bool true] (0, 0) (0, 0) _ _ rfl ((heap_drew _ _).trans ((heap8 W5 (w.heap.size + 4) _ _ _ _ _ _ _ _ _ hne12).trans G3.out)) hu37 rfl (by kernel_rfl) rfl ((heap_drew _ _).trans (put8 G2.out _ _ _ _ _ _ _ _)) hu38 rfl (by kernel_rfl)) rfl ?_
 have he_ : enterF l1 k fl pc = (ram2, ⟨qa, qx, qs, pc, qz, qn, qc, true⟩) := by
  unfold enterF
  rw [HQ.out]
  show ((pushF ram1 k1 fl).1, { (pushF ram1 k1 fl).2 with I := true, P := pc }) = _
  rw [HQ2.out]
 rw [he_]
 exact ⟨_, rfl, Kd.R_drew (row8 G4.out G2.out _ _ _ _ _ _ _ _), below_drew1 (below8 G5.out (by omega) _ _ _ _ _ _ _ _)⟩
def impl_Enter.f (k : Nat) (l0_0 : List (List Int)) (l1_0 : List Int) (a1_1 : Int) (a2_0 a2_1 a2_2 a2_3 : Int) (a2_4 a2_5 a2_6 a2_7 : Bool) (a3 : Int) : Option (List Int × Int × Int × Int × Int × Int × Bool × Bool × Bool × Bool) :=
 (impl_copyMem.f l1_0 a1_1).bind fun q => (impl_Flags.f (pushPcF q.1 ⟨a2_0, a2_1, a2_2, a2_3, a2_4, a2_5, a2_6, a2_7⟩).2.A (pushPcF q.1 ⟨a2_0, a2_1, a2_2, a2_3, a2_4, a2_5, a2_6, a2_7⟩).2.X (pushPcF q.1 ⟨a2_0, a2_1, a2_2, a2_3, a2_4, a2_5, a2_6, a2_7⟩).2.S (pushPcF q.1 ⟨a2_0, a2_1, a2_2, a2_3, a2_4, a2_5, a2_6, a2_7⟩).2.P (pushPcF q.1 ⟨a2_0, a2_1, a2_2, a2_3, a2_4, a2_5, a2_6, a2_7⟩).2.Z (pushPcF q.1 ⟨a2_0, a2_1, a2_2, a2_3, a2_4, a2_5, a2_6, a2_7⟩).2.N (pushPcF q.1 ⟨a2_0, a2_1, a2_2, a2_3, a2_4, a2_5, a2_6, a2_7⟩).2.C (pushPcF q.1 ⟨a2_0, a2_1, a2_2, a2_3, a2_4, a2_5, a2_6, a2_7⟩).2.I).bind fun fl => (impl_vectorOf.f k l0_0 (pushF (pushPcF q.1 ⟨a2_0, a2_1, a2_2, a2_3, a2_4, a2_5, a2_6, a2_7⟩).1 (pushPcF q.1 ⟨a2_0, a2_1, a2_2, a2_3, a2_4, a2_5, a2_6, a2_7⟩).2 fl).1 q.2 a3).bind fun pc => some ((enterF q.1 ⟨a2_0, a2_1, a2_2, a2_3, a2_4, a2_5, a2_6, a2_7⟩ fl pc).1, q.2, (enterF q.1 ⟨a2_0, a2_1, a2_2, a2_3, a2_4, a2_5, a2_6, a2_7⟩ fl pc).2.A, (enterF q.1 ⟨a2_0, a2_1, a2_2, a2_3, a2_4, a2_5, a2_6, a2_7⟩ fl pc).2.X, (enterF q.1 ⟨a2_0, a2_1, a2_2, a2_3, a2_4, a2_5, a2_6, a2_7⟩ fl pc).2.S, (enterF q.1 ⟨a2_0, a2_1, a2_2, a2_3, a2_4, a2_5, a2_6, a2_7⟩ fl pc).2.P, (enterF q.1 ⟨a2_0, a2_1, a2_2, a2_3, a2_4, a2_5, a2_6, a2_7⟩ fl pc).2.Z, (enterF q.1 ⟨a2_0, a2_1, a2_2, a2_3, a2_4, a2_5, a2_6, a2_7⟩ fl pc).2.N, (enterF q.1 ⟨a2_0, a2_1, a2_2, a2_3, a2_4, a2_5, a2_6, a2_7⟩ fl pc).2.C, (enterF q.1 ⟨a2_0, a2_1, a2_2, a2_3, a2_4, a2_5, a2_6, a2_7⟩ fl pc).2.I)
theorem impl_Enter.calls (k : Nat) (A0_0 : Option Addr) (c0_0 : Nat) (l0_0 : List (List Int)) (A1_0 : Option Addr) (c1_0 : Nat) (l1_0 : List Int) (a1_1 : Int) (a2_0 a2_1 a2_2 a2_3 : Int) (a2_4 a2_5 a2_6 a2_7 : Bool) (a3 : Int) (r1 : List Int) (r2 : Int) (r3 : Int) (r4 : Int) (r5 : Int) (r6 : Int) (r7 : Bool) (r8 : Bool) (r9 : Bool) (r10 : Bool) (w : World) (hr0_0 : Kd.C (Kd.slice 3 (Kd.int .i64)) w A0_0 l0_0.length l0_0) (hc0_0 : l0_0.length ≤ c0_0) (hr1_0 : Kd.C (Kd.int .i64) w A1_0 l1_0.length l1_0) (hc1_0 : l1_0.length ≤ c1_0) (h : impl_Enter.f k l0_0 l1_0 a1_1 a2_0 a2_1 a2_2 a2_3 a2_4 a2_5 a2_6 a2_7 a3 = some (r1, r2, r3, r4, r5, r6, r7, r8, r9, r10)) :
  Calls Try.prog 56 #[.agg #[.slice A0_0 l0_0.length c0_0], .agg #[.slice A1_0 l1_0.length c1_0, .int .i64 a1_1], .agg #[.int .i64 a2_0, .int .i64 a2_1, .int .i64 a2_2, .int .i64 a2_3, .bool a2_4, .bool a2_5, .bool a2_6, .bool a2_7], .int .i64 a3] w fun e w' => ∃ v0_ : Value, e = .returned (.tuple #[.agg #[v0_, .int .i64 r2], .agg #[.int .i64 r3, .int .i64 r4, .int .i64 r5, .int .i64 r6, .bool r7, .bool r8, .bool r9, .bool r10]]) ∧ Kd.R (Kd.int .i64) 3 w' w.heap.size (fun _ => True) v0_ r1 ∧ Below w.heap.size w w' := by
 unfold impl_Enter.f at h
 obtain ⟨⟨q1, q2⟩, hq, h2⟩ := Option.bind_eq_some_iff.mp h
 obtain ⟨fl, hfl, h3⟩ := Option.bind_eq_some_iff.mp h2
 obtain ⟨pc, hpc, h4⟩ := Option.bind_eq_some_iff.mp h3
 clear h h2 h3
 obtain ⟨rfl, rfl⟩ := copyMem_just hq
 cases h4
 exact implEnter_calls k A0_0 c0_0 l0_0 A1_0 c1_0 _ _ ⟨a2_0, a2_1, a2_2, a2_3, a2_4, a2_5, a2_6, a2_7⟩ a3 w hr0_0 hc0_0 hr1_0 hc1_0 hq fl hfl pc hpc

end Go.Proofs.Ytmiaocoffmobcaa.MFnExactEnter
