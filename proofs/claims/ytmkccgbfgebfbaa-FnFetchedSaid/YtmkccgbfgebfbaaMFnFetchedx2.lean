/- Walks of functions that the law FnFetched reaches: each comes to just what its Lean function says. (Begun as the texts that print.sh wrote for this claim; some of them, and those that it does not write, are mine.) No condition. -/
import Derived.Test.YtmkccgbfgebfbaaMFnFetchedx1
namespace Go.Proofs.Ytmkccgbfgebfbaa.MFnFetched
open Go.RowKit Go.Proofs.YtmkccgbfgebfbaaW.PrintWords Go.Proofs.YtmkccgbfgebfbaaW.PrintLast Go.Proofs.YtmkccgbfgebfbaaW.PrintMore
attribute [local go_sem] max2_int min2_int max_two min_two max_three min_three max_four min_four   -- for this text's walks alone
set_option linter.unusedVariables false
set_option linter.unusedSimpArgs false

/-! ### spec_l3Names: function 132 -/
def spec_l3Names.f  : Option (List ByteArray) := some (([(⟨#[110, 111, 112]⟩ : ByteArray), (⟨#[108, 100, 105]⟩ : ByteArray), (⟨#[108, 100, 97]⟩ : ByteArray), (⟨#[115, 116, 97]⟩ : ByteArray), (⟨#[97, 100, 105]⟩ : ByteArray), (⟨#[115, 98, 105]⟩ : ByteArray), (⟨#[97, 110, 105]⟩ : ByteArray), (⟨#[111, 114, 105]⟩ : ByteArray), (⟨#[120, 114, 105]⟩ : ByteArray), (⟨#[99, 112, 105]⟩ : ByteArray), (⟨#[116, 97, 120]⟩ : ByteArray), (⟨#[116, 120, 97]⟩ : ByteArray), (⟨#[105, 110, 120]⟩ : ByteArray), (⟨#[100, 101, 120]⟩ : ByteArray), (⟨#[108, 97, 120]⟩ : ByteArray), (⟨#[115, 97, 120]⟩ : ByteArray), (⟨#[98, 110, 101]⟩ : ByteArray), (⟨#[98, 101, 113]⟩ : ByteArray), (⟨#[98, 99, 115]⟩ : ByteArray), (⟨#[106, 109, 112]⟩ : ByteArray), (⟨#[106, 115, 114]⟩ : ByteArray), (⟨#[114, 116, 115]⟩ : ByteArray), (⟨#[112, 104, 97]⟩ : ByteArray), (⟨#[112, 108, 97]⟩ : ByteArray), (⟨#[114, 116, 105]⟩ : ByteArray), (⟨#[115, 101, 105]⟩ : ByteArray), (⟨#[99, 108, 105]⟩ : ByteArray), (⟨#[115, 101, 99]⟩ : ByteArray), (⟨#[99, 108, 99]⟩ : ByteArray), (⟨#[97, 100, 97]⟩ : ByteArray)] : List ByteArray))
set_option maxHeartbeats 8000000 in
set_option maxRecDepth 100000 in
theorem spec_l3Names.calls  (r : List ByteArray) (w : World) (h : spec_l3Names.f  = some r) :
  Calls Try.prog 132 #[] w fun e w' => ∃ v0_ : Value, e = .returned (v0_) ∧ Kd.R Kd.string 9 w' w.heap.size (fun _ => True) v0_ r ∧ Below w.heap.size w w' := by
 have HB := Aside0.mk (Below.refl w.heap.size w)
 have H : (some (([(⟨#[110, 111, 112]⟩ : ByteArray), (⟨#[108, 100, 105]⟩ : ByteArray), (⟨#[108, 100, 97]⟩ : ByteArray), (⟨#[115, 116, 97]⟩ : ByteArray), (⟨#[97, 100, 105]⟩ : ByteArray), (⟨#[115, 98, 105]⟩ : ByteArray), (⟨#[97, 110, 105]⟩ : ByteArray), (⟨#[111, 114, 105]⟩ : ByteArray), (⟨#[120, 114, 105]⟩ : ByteArray), (⟨#[99, 112, 105]⟩ : ByteArray), (⟨#[116, 97, 120]⟩ : ByteArray), (⟨#[116, 120, 97]⟩ : ByteArray), (⟨#[105, 110, 120]⟩ : ByteArray), (⟨#[100, 101, 120]⟩ : ByteArray), (⟨#[108, 97, 120]⟩ : ByteArray), (⟨#[115, 97, 120]⟩ : ByteArray), (⟨#[98, 110, 101]⟩ : ByteArray), (⟨#[98, 101, 113]⟩ : ByteArray), (⟨#[98, 99, 115]⟩ : ByteArray), (⟨#[106, 109, 112]⟩ : ByteArray), (⟨#[106, 115, 114]⟩ : ByteArray), (⟨#[114, 116, 115]⟩ : ByteArray), (⟨#[112, 104, 97]⟩ : ByteArray), (⟨#[112, 108, 97]⟩ : ByteArray), (⟨#[114, 116, 105]⟩ : ByteArray), (⟨#[115, 101, 105]⟩ : ByteArray), (⟨#[99, 108, 105]⟩ : ByteArray), (⟨#[115, 101, 99]⟩ : ByteArray), (⟨#[99, 108, 99]⟩ : ByteArray), (⟨#[97, 100, 97]⟩ : ByteArray)] : List ByteArray))) = some r := h
 clear h
 obtain ⟨y190, hy190⟩ : ∃ y_ : List ByteArray, y_ = (([(⟨#[110, 111, 112]⟩ : ByteArray), (⟨#[108, 100, 105]⟩ : ByteArray), (⟨#[108, 100, 97]⟩ : ByteArray), (⟨#[115, 116, 97]⟩ : ByteArray), (⟨#[97, 100, 105]⟩ : ByteArray), (⟨#[115, 98, 105]⟩ : ByteArray), (⟨#[97, 110, 105]⟩ : ByteArray), (⟨#[111, 114, 105]⟩ : ByteArray), (⟨#[120, 114, 105]⟩ : ByteArray), (⟨#[99, 112, 105]⟩ : ByteArray), (⟨#[116, 97, 120]⟩ : ByteArray), (⟨#[116, 120, 97]⟩ : ByteArray), (⟨#[105, 110, 120]⟩ : ByteArray), (⟨#[100, 101, 120]⟩ : ByteArray), (⟨#[108, 97, 120]⟩ : ByteArray), (⟨#[115, 97, 120]⟩ : ByteArray), (⟨#[98, 110, 101]⟩ : ByteArray), (⟨#[98, 101, 113]⟩ : ByteArray), (⟨#[98, 99, 115]⟩ : ByteArray), (⟨#[106, 109, 112]⟩ : ByteArray), (⟨#[106, 115, 114]⟩ : ByteArray), (⟨#[114, 116, 115]⟩ : ByteArray), (⟨#[112, 104, 97]⟩ : ByteArray), (⟨#[112, 108, 97]⟩ : ByteArray), (⟨#[114, 116, 105]⟩ : ByteArray), (⟨#[115, 101, 105]⟩ : ByteArray), (⟨#[99, 108, 105]⟩ : ByteArray), (⟨#[115, 101, 99]⟩ : ByteArray), (⟨#[99, 108, 99]⟩ : ByteArray), (⟨#[97, 100, 97]⟩ : ByteArray)] : List ByteArray)) := ⟨_, rfl⟩
 replace H : (some y190) = some r := by first | (rw [hy190]; with_reducible exact H) | (have H2_ := (Option.bind_some _ _).symm.trans H; rw [hy190]; with_reducible exact H2_) | (have H2_ := (Option.bind_some _ _).symm.trans H; with_reducible exact H2_) | with_reducible exact H | (rw [hy190]; exact H) | exact H
 have Ny190 := Aside0.mk hy190
 clear hy190
 obtain rfl := Option.some.inj H
 go_enter Try.func132, Try.ntmps132
 go_wp2_with (first | ((with_reducible refine gate_dst (N := 1) rfl ?_); refine Kd.R_lit Kd.string _ 9 ?hg (N := 1) ?hd (xs := ([(⟨#[110, 111, 112]⟩ : ByteArray), (⟨#[108, 100, 105]⟩ : ByteArray), (⟨#[108, 100, 97]⟩ : ByteArray), (⟨#[115, 116, 97]⟩ : ByteArray), (⟨#[97, 100, 105]⟩ : ByteArray), (⟨#[115, 98, 105]⟩ : ByteArray), (⟨#[97, 110, 105]⟩ : ByteArray), (⟨#[111, 114, 105]⟩ : ByteArray), (⟨#[120, 114, 105]⟩ : ByteArray), (⟨#[99, 112, 105]⟩ : ByteArray), (⟨#[116, 97, 120]⟩ : ByteArray), (⟨#[116, 120, 97]⟩ : ByteArray), (⟨#[105, 110, 120]⟩ : ByteArray), (⟨#[100, 101, 120]⟩ : ByteArray), (⟨#[108, 97, 120]⟩ : ByteArray), (⟨#[115, 97, 120]⟩ : ByteArray), (⟨#[98, 110, 101]⟩ : ByteArray), (⟨#[98, 101, 113]⟩ : ByteArray), (⟨#[98, 99, 115]⟩ : ByteArray), (⟨#[106, 109, 112]⟩ : ByteArray), (⟨#[106, 115, 114]⟩ : ByteArray), (⟨#[114, 116, 115]⟩ : ByteArray), (⟨#[112, 104, 97]⟩ : ByteArray), (⟨#[112, 108, 97]⟩ : ByteArray), (⟨#[114, 116, 105]⟩ : ByteArray), (⟨#[115, 101, 105]⟩ : ByteArray), (⟨#[99, 108, 105]⟩ : ByteArray), (⟨#[115, 101, 99]⟩ : ByteArray), (⟨#[99, 108, 99]⟩ : ByteArray), (⟨#[97, 100, 97]⟩ : ByteArray)] : List ByteArray)) (inner := [.string (⟨#[110, 111, 112]⟩ : ByteArray), .string (⟨#[108, 100, 105]⟩ : ByteArray), .string (⟨#[108, 100, 97]⟩ : ByteArray), .string (⟨#[115, 116, 97]⟩ : ByteArray), .string (⟨#[97, 100, 105]⟩ : ByteArray), .string (⟨#[115, 98, 105]⟩ : ByteArray), .string (⟨#[97, 110, 105]⟩ : ByteArray), .string (⟨#[111, 114, 105]⟩ : ByteArray), .string (⟨#[120, 114, 105]⟩ : ByteArray), .string (⟨#[99, 112, 105]⟩ : ByteArray), .string (⟨#[116, 97, 120]⟩ : ByteArray), .string (⟨#[116, 120, 97]⟩ : ByteArray), .string (⟨#[105, 110, 120]⟩ : ByteArray), .string (⟨#[100, 101, 120]⟩ : ByteArray), .string (⟨#[108, 97, 120]⟩ : ByteArray), .string (⟨#[115, 97, 120]⟩ : ByteArray), .string (⟨#[98, 110, 101]⟩ : ByteArray), .string (⟨#[98, 101, 113]⟩ : ByteArray), .string (⟨#[98, 99, 115]⟩ : ByteArray), .string (⟨#[106, 109, 112]⟩ : ByteArray), .string (⟨#[106, 115, 114]⟩ : ByteArray), .string (⟨#[114, 116, 115]⟩ : ByteArray), .string (⟨#[112, 104, 97]⟩ : ByteArray), .string (⟨#[112, 108, 97]⟩ : ByteArray), .string (⟨#[114, 116, 105]⟩ : ByteArray), .string (⟨#[115, 101, 105]⟩ : ByteArray), .string (⟨#[99, 108, 105]⟩ : ByteArray), .string (⟨#[115, 101, 99]⟩ : ByteArray), .string (⟨#[99, 108, 99]⟩ : ByteArray), .string (⟨#[97, 100, 97]⟩ : ByteArray)]) (ok := fun _ => True) (okp := fun _ => True) ?hr ?hp (fun _ hk => hk) trivial (Below.refl _ _) (Nat.le_refl _) (by simp) ?_; (case hd => rfl); (case hg => rfl); (case hr => first | (go_simp; done) | (go_simp; rfl)); (case hp => exact (Reps.one (show Kd.M Kd.string _ _ _ (⟨#[110, 111, 112]⟩ : ByteArray) [.string (⟨#[110, 111, 112]⟩ : ByteArray)] from rfl) (Reps.one (show Kd.M Kd.string _ _ _ (⟨#[108, 100, 105]⟩ : ByteArray) [.string (⟨#[108, 100, 105]⟩ : ByteArray)] from rfl) (Reps.one (show Kd.M Kd.string _ _ _ (⟨#[108, 100, 97]⟩ : ByteArray) [.string (⟨#[108, 100, 97]⟩ : ByteArray)] from rfl) (Reps.one (show Kd.M Kd.string _ _ _ (⟨#[115, 116, 97]⟩ : ByteArray) [.string (⟨#[115, 116, 97]⟩ : ByteArray)] from rfl) (Reps.one (show Kd.M Kd.string _ _ _ (⟨#[97, 100, 105]⟩ : ByteArray) [.string (⟨#[97, 100, 105]⟩ : ByteArray)] from rfl) (Reps.one (show Kd.M Kd.string _ _ _ (⟨#[115, 98, 105]⟩ : ByteArray) [.string (⟨#[115, 98, 105]⟩ : ByteArray)] from rfl) (Reps.one (show Kd.M Kd.string _ _ _ (⟨#[97, 110, 105]⟩ : ByteArray) [.string (⟨#[97, 110, 105]⟩ : ByteArray)] from rfl) (Reps.one (show Kd.M Kd.string _ _ _ (⟨#[111, 114, 105]⟩ : ByteArray) [.string (⟨#[111, 114, 105]⟩ : ByteArray)] from rfl) (Reps.one (show Kd.M Kd.string _ _ _ (⟨#[120, 114, 105]⟩ : ByteArray) [.string (⟨#[120, 114, 105]⟩ : ByteArray)] from rfl) (Reps.one (show Kd.M Kd.string _ _ _ (⟨#[99, 112, 105]⟩ : ByteArray) [.string (⟨#[99, 112, 105]⟩ : ByteArray)] from rfl) (Reps.one (show Kd.M Kd.string _ _ _ (⟨#[116, 97, 120]⟩ : ByteArray) [.string (⟨#[116, 97, 120]⟩ : ByteArray)] from rfl) (Reps.one (show Kd.M Kd.string _ _ _ (⟨#[116, 120, 97]⟩ : ByteArray) [.string (⟨#[116, 120, 97]⟩ : ByteArray)] from rfl) (Reps.one (show Kd.M Kd.string _ _ _ (⟨#[105, 110, 120]⟩ : ByteArray) [.string (⟨#[105, 110, 120]⟩ : ByteArray)] from rfl) (Reps.one (show Kd.M Kd.string _ _ _ (⟨#[100, 101, 120]⟩ : ByteArray) [.string (⟨#[100, 101, 120]⟩ : ByteArray)] from rfl) (Reps.one (show Kd.M Kd.string _ _ _ (⟨#[108, 97, 120]⟩ : ByteArray) [.string (⟨#[108, 97, 120]⟩ : ByteArray)] from rfl) (Reps.one (show Kd.M Kd.string _ _ _ (⟨#[115, 97, 120]⟩ : ByteArray) [.string (⟨#[115, 97, 120]⟩ : ByteArray)] from rfl) (Reps.one (show Kd.M Kd.string _ _ _ (⟨#[98, 110, 101]⟩ : ByteArray) [.string (⟨#[98, 110, 101]⟩ : ByteArray)] from rfl) (Reps.one (show Kd.M Kd.string _ _ _ (⟨#[98, 101, 113]⟩ : ByteArray) [.string (⟨#[98, 101, 113]⟩ : ByteArray)] from rfl) (Reps.one (show Kd.M Kd.string _ _ _ (⟨#[98, 99, 115]⟩ : ByteArray) [.string (⟨#[98, 99, 115]⟩ : ByteArray)] from rfl) (Reps.one (show Kd.M Kd.string _ _ _ (⟨#[106, 109, 112]⟩ : ByteArray) [.string (⟨#[106, 109, 112]⟩ : ByteArray)] from rfl) (Reps.one (show Kd.M Kd.string _ _ _ (⟨#[106, 115, 114]⟩ : ByteArray) [.string (⟨#[106, 115, 114]⟩ : ByteArray)] from rfl) (Reps.one (show Kd.M Kd.string _ _ _ (⟨#[114, 116, 115]⟩ : ByteArray) [.string (⟨#[114, 116, 115]⟩ : ByteArray)] from rfl) (Reps.one (show Kd.M Kd.string _ _ _ (⟨#[112, 104, 97]⟩ : ByteArray) [.string (⟨#[112, 104, 97]⟩ : ByteArray)] from rfl) (Reps.one (show Kd.M Kd.string _ _ _ (⟨#[112, 108, 97]⟩ : ByteArray) [.string (⟨#[112, 108, 97]⟩ : ByteArray)] from rfl) (Reps.one (show Kd.M Kd.string _ _ _ (⟨#[114, 116, 105]⟩ : ByteArray) [.string (⟨#[114, 116, 105]⟩ : ByteArray)] from rfl) (Reps.one (show Kd.M Kd.string _ _ _ (⟨#[115, 101, 105]⟩ : ByteArray) [.string (⟨#[115, 101, 105]⟩ : ByteArray)] from rfl) (Reps.one (show Kd.M Kd.string _ _ _ (⟨#[99, 108, 105]⟩ : ByteArray) [.string (⟨#[99, 108, 105]⟩ : ByteArray)] from rfl) (Reps.one (show Kd.M Kd.string _ _ _ (⟨#[115, 101, 99]⟩ : ByteArray) [.string (⟨#[115, 101, 99]⟩ : ByteArray)] from rfl) (Reps.one (show Kd.M Kd.string _ _ _ (⟨#[99, 108, 99]⟩ : ByteArray) [.string (⟨#[99, 108, 99]⟩ : ByteArray)] from rfl) (Reps.one (show Kd.M Kd.string _ _ _ (⟨#[97, 100, 97]⟩ : ByteArray) [.string (⟨#[97, 100, 97]⟩ : ByteArray)] from rfl) (Reps.none _ _)))))))))))))))))))))))))))))))); intro v191 w1 ho2 hb hg_ hnew_; clear hg_ hnew_; (first | rw [← Ny190.out] at ho2 | (simp only [Int.reduceToNat] at ho2; rw [← Ny190.out] at ho2)); have n0_ := Aside0.mk (Kd.R_lower ho2 (below_size (bw HB.out))); have n1_ := Aside0.mk (below_step (bw HB.out) hb); clear HB; have HO192 := n0_; have HB := n1_; clear n0_ n1_; clear hb ho2))
 go_ret
 exact ⟨_, rt, kr HO192.out, bw HB.out⟩

/-! ### spec_OpOf: function 130 -/
def spec_OpOf.l0 : Nat → ByteArray → List ByteArray → Int → Option (Int)
 | 0, _, _, _ => none
 | k + 1, x0, x3, x4 => if x4 < (x3.length : Int) then (if 0 ≤ x4 then (if (rdOf ByteArray.empty x3 x4).toList = x0.toList then (some x4) else (spec_OpOf.l0 k x0 x3 (wrap64 (x4 + 1)))) else (none)) else (some (-1))
def spec_OpOf.f (k : Nat) (a0 : ByteArray) : Option (Int) := (spec_l3Names.f).bind fun t193 => (spec_OpOf.l0 k a0 t193 0)
set_option maxHeartbeats 8000000 in
set_option maxRecDepth 100000 in
theorem spec_OpOf.calls (k : Nat) (a0 : ByteArray) (r : Int) (w : World) (h : spec_OpOf.f k a0 = some r) :
  Calls Try.prog 130 #[.string a0] w fun e w' => e = .returned (.int .i64 r) ∧ Below w.heap.size w w' := by
 have HB := Aside0.mk (Below.refl w.heap.size w)
 have H : ((spec_l3Names.f).bind fun t193 => (spec_OpOf.l0 k a0 t193 0)) = some r := h
 clear h
 replace H := Option.bind_eq_some_iff.mp H
 obtain ⟨t193, A20, H⟩ := H
 replace H : (spec_OpOf.l0 k a0 t193 0) = some r := H
 have A2 := Aside0.mk A20
 clear A20
 have H' := Aside0.mk H
 clear H
 go_enter Try.func130, Try.ntmps130
 go_wp2_with (first | ((with_reducible refine gate_callee (f := 132) rfl ?_); refine goesM_ (some 5) rfl rfl Try.func132 #[] ?_; (with_reducible refine (spec_l3Names.calls  t193 _ A2.out).mono ?_); rintro e w3 ⟨v194, rfl, ho0, hb⟩; refine ⟨_, rfl, ?_⟩; have n0_ := Aside0.mk (Kd.R_lower ho0 (below_size (bw HB.out))); have n1_ := Aside0.mk (below_step (bw HB.out) hb); clear HB; have HO195 := n0_; have HB := n1_; clear n0_ n1_; (try clear hb); (try clear hb2); (try clear hk); (try clear hi); (try clear ho0)))
 go_loopg [4] k (fun kq v4 w' => ∃ (x4_1 : Int), v4 = .int .i64 x4_1 ∧ Aside0 (spec_OpOf.l0 kq a0 t193 x4_1 = some r) ∧ Aside0 (kq ≤ k) ∧ Aside0 (Kd.R Kd.string 9 w' w.heap.size (fun _ => True) v194 t193) ∧ Aside0 (Below w.heap.size w w'))
 case atStart => exact ⟨(0), (by first | rfl | (simp; done) | (simp [*]; done)), H', ⟨Nat.le_refl _⟩, ⟨kr HO195.out⟩, ⟨bw HB.out⟩⟩
 case round =>
  clear H'
  (try clear c1); (try clear p2)
  obtain ⟨x4_1, rfl, HA, HK1, HO_3, HB⟩ := hrel
  cases gk with
  | zero => exact absurd HA.out (by simp [spec_OpOf.l0])
  | succ k1 =>
   have H := HA.out
   clear HA
   simp only [spec_OpOf.l0] at H
   by_cases c4 : x4_1 < (t193.length : Int)
   ·rw [if_pos c4] at H
    have c4b0 : decide (x4_1 < (t193.length : Int)) = true := decide_eq_true c4
    clear c4
    by_cases c5 : 0 ≤ x4_1
    ·rw [if_pos c5] at H
     have c5b0 : decide (0 ≤ x4_1) = true := decide_eq_true c5
     clear c5
     by_cases c6 : (rdOf ByteArray.empty t193 x4_1).toList = a0.toList
     ·rw [if_pos c6] at H
      have c6b0 : ((rdOf ByteArray.empty t193 x4_1).toList == a0.toList) = true := beq_iff_eq.mpr c6
      have c6b1 : ((rdOf ByteArray.empty t193 x4_1).toList != a0.toList) = false := bne_eq_false_iff_eq.mpr c6
      clear c6
      obtain rfl := Option.some.inj H
      obtain ⟨Ao7, co7, eo7⟩ := Kd.R_slice HO_3.out
      subst eo7
      have p196 : 0 ≤ (x4_1 : Int) := dt
      have q196 : x4_1 < (t193.length : Int) := dt
      obtain ⟨ad196, e196, hx196_0⟩ := Kd.at_string (Kd.R_reads' HO_3.out).2.2 x4_1 p196 q196
      cases e196
      replace p196 := eq_true p196
      replace q196 := eq_true q196
      go_wp2
      go_ret
      exact ⟨rt, bw HB.out⟩
     ·rw [if_neg c6] at H
      have c6b0 : ((rdOf ByteArray.empty t193 x4_1).toList == a0.toList) = false := beq_eq_false_iff_ne.mpr c6
      have c6b1 : ((rdOf ByteArray.empty t193 x4_1).toList != a0.toList) = true := bne_iff_ne.mpr c6
      have H' := Aside0.mk H
      clear H
      obtain ⟨Ao8, co8, eo8⟩ := Kd.R_slice HO_3.out
      subst eo8
      have p196 : 0 ≤ (x4_1 : Int) := dt
      have q196 : x4_1 < (t193.length : Int) := dt
      obtain ⟨ad196, e196, hx196_0⟩ := Kd.at_string (Kd.R_reads' HO_3.out).2.2 x4_1 p196 q196
      cases e196
      replace p196 := eq_true p196
      replace q196 := eq_true q196
      go_wp2
      go_roundg k1
      case measure => have := HK1.out; omega
      case rel => exact ⟨(wrap64 (x4_1 + 1)), (by first | rfl | (simp; done) | (simp [*]; done)), H', ⟨by have := HK1.out; omega⟩, ⟨kr HO_3.out⟩, ⟨bw HB.out⟩⟩
    ·rw [if_neg c5] at H
     exact absurd H (by simp)
   ·rw [if_neg c4] at H
    have c4b0 : decide (x4_1 < (t193.length : Int)) = false := decide_eq_false c4
    clear c4
    obtain rfl := Option.some.inj H
    obtain ⟨Ao9, co9, eo9⟩ := Kd.R_slice HO_3.out
    subst eo9
    go_wp2
    go_ret
    exact ⟨rt, bw HB.out⟩

/-! ### spec_l4Bytes: function 118 -/
def spec_l4Bytes.j0 : Nat → ByteArray → Int → Bool → Option (List Int × Int × Bool)
 | 0, _, _, _ => none
 | k + 1, x5, x6, x23 => if x23 = true then ((spec_l1In.f x6 0 255).bind fun t203 => (if t203 = true then (if x5.toList = ([97, 116] : List UInt8) then (some ((([] : List Int)), x6, true)) else (some ((([x6] : List Int)), (-1), true))) else (some ((([] : List Int)), (-1), false)))) else ((spec_OpOf.f k x5).bind fun t213 => (if t213 < 0 then (some ((([] : List Int)), (-1), false)) else ((spec_OpLen.f t213).bind fun t217 => (if t217 = 1 then (some ((([t213] : List Int)), (-1), decide (x6 < 0))) else (if t217 = 2 then ((spec_Byte.f x6).bind fun t221 => ((spec_l1In.f x6 0 255).bind fun t225 => (some ((([t213, t221] : List Int)), (-1), t225)))) else ((spec_Byte.f x6).bind fun t226 => ((spec_Byte.f (x6 / 256)).bind fun t227 => ((spec_l1In.f x6 0 65535).bind fun t231 => (some ((([t213, t226, t227] : List Int)), (-1), t231))))))))))
def spec_l4Bytes.f (k : Nat) (a0 : ByteArray) : Option (List Int × Int × Bool) := (spec_l4Line.f k a0).bind fun bt197 => (if bt197.2.2 = true then (if bt197.1.toList = ([97, 116] : List UInt8) then (spec_l4Bytes.j0 k bt197.1 bt197.2.1 true) else (spec_l4Bytes.j0 k bt197.1 bt197.2.1 (bt197.1.toList == ([98, 121, 116, 101] : List UInt8)))) else (some ((([] : List Int)), (-1), false)))
set_option maxHeartbeats 8000000 in
set_option maxRecDepth 100000 in
theorem spec_l4Bytes.calls (k : Nat) (a0 : ByteArray) (r1 : List Int) (r2 : Int) (r3 : Bool) (w : World) (h : spec_l4Bytes.f k a0 = some (r1, r2, r3)) :
  Calls Try.prog 118 #[.string a0] w fun e w' => ∃ v0_ : Value, e = .returned (.tuple #[v0_, .int .i64 r2, .bool r3]) ∧ Kd.R (Kd.int .i64) 3 w' w.heap.size (fun _ => True) v0_ r1 ∧ Below w.heap.size w w' := by
 have HB := Aside0.mk (Below.refl w.heap.size w)
 have H : ((spec_l4Line.f k a0).bind fun bt197 => (if bt197.2.2 = true then (if bt197.1.toList = ([97, 116] : List UInt8) then (spec_l4Bytes.j0 k bt197.1 bt197.2.1 true) else (spec_l4Bytes.j0 k bt197.1 bt197.2.1 (bt197.1.toList == ([98, 121, 116, 101] : List UInt8)))) else (some ((([] : List Int)), (-1), false)))) = some (r1, r2, r3) := h
 clear h
 replace H := Option.bind_eq_some_iff.mp H
 obtain ⟨⟨t197, t198, t199⟩, A20, H⟩ := H
 replace H : (if t199 = true then (if t197.toList = ([97, 116] : List UInt8) then (spec_l4Bytes.j0 k t197 t198 true) else (spec_l4Bytes.j0 k t197 t198 (t197.toList == ([98, 121, 116, 101] : List UInt8)))) else (some ((([] : List Int)), (-1), false))) = some (r1, r2, r3) := H
 have A2 := Aside0.mk A20
 clear A20
 by_cases c3 : t199 = true
 ·subst c3
  have H1 : (if t197.toList = ([97, 116] : List UInt8) then (spec_l4Bytes.j0 k t197 t198 true) else (spec_l4Bytes.j0 k t197 t198 (t197.toList == ([98, 121, 116, 101] : List UInt8)))) = some (r1, r2, r3) := by rw [if_pos rfl] at H; exact H
  clear H
  have H := H1
  clear H1
  have HC4 := Aside0.mk H
  clear H
  go_enter Try.func118, Try.ntmps118
  go_upto_region 4 with (first | ((with_reducible refine gate_callee (f := 129) rfl ?_); refine goesM_ (some 11) rfl rfl Try.func129 #[.string a0] ?_; (with_reducible refine (spec_l4Line.calls k a0 t197 t198 true _ A2.out).mono ?_); rintro e w5 ⟨rfl, hb⟩; refine ⟨_, rfl, ?_⟩; have n0_ := Aside0.mk (below_step (bw HB.out) hb); clear HB; have HB := n0_; clear n0_; (try clear hb); (try clear hb2); (try clear hk); (try clear hi)))
  (try simp only [Act.put, List.setIfInBounds_toArray, List.set_cons_zero, List.set_cons_succ])
  go_cut [23] (fun v23 wc => ∃ (kq : Nat) (x23_3 : Bool), v23 = .bool x23_3 ∧ Aside0 (spec_l4Bytes.j0 kq t197 t198 x23_3 = some (r1, r2, r3)) ∧ Aside0 (kq ≤ k) ∧ Aside0 (Below w.heap.size w wc))
  case first =>
   have H := HC4.out
   clear HC4
   by_cases c6 : t197.toList = ([97, 116] : List UInt8)
   ·rw [if_pos c6] at H
    have c6b0 : (t197.toList == ([97, 116] : List UInt8)) = true := beq_iff_eq.mpr c6
    have c6b1 : (t197.toList != ([97, 116] : List UInt8)) = false := bne_eq_false_iff_eq.mpr c6
    clear c6
    (first | rw [c6b0] | (simp only [i64_w, i32_w]; rw [c6b0]) | skip)
    have H' := Aside0.mk H
    clear H
    go_wp2
    go_meet
    case rel => exact ⟨_, (true), (by first | rfl | (simp; done) | (simp [*]; done)), H', ⟨by first | omega | exact Nat.le_refl _⟩, ⟨bw HB.out⟩⟩
   ·rw [if_neg c6] at H
    have c6b0 : (t197.toList == ([97, 116] : List UInt8)) = false := beq_eq_false_iff_ne.mpr c6
    have c6b1 : (t197.toList != ([97, 116] : List UInt8)) = true := bne_iff_ne.mpr c6
    (first | rw [c6b0] | (simp only [i64_w, i32_w]; rw [c6b0]) | skip)
    have H' := Aside0.mk H
    clear H
    go_wp2
    go_meet
    case rel => exact ⟨_, ((t197.toList == ([98, 121, 116, 101] : List UInt8))), (by first | rfl | (simp; done) | (simp [*]; done)), H', ⟨by first | omega | exact Nat.le_refl _⟩, ⟨bw HB.out⟩⟩
  case rest =>
   clear HC4; (try clear c1); (try clear p2); (try clear c3); (try clear c6); (try clear c6b0); (try clear c6b1)
   obtain ⟨kq, x23_3, rfl, HA, HJ3, HB⟩ := hcut
   cases kq with
   | zero => exact absurd HA.out (by simp [spec_l4Bytes.j0])
   | succ kj3 =>
    have H := HA.out
    clear HA
    simp only [spec_l4Bytes.j0] at H
    by_cases c7 : x23_3 = true
    ·subst c7
     have H1 : ((spec_l1In.f t198 0 255).bind fun t203 => (if t203 = true then (if t197.toList = ([97, 116] : List UInt8) then (some ((([] : List Int)), t198, true)) else (some ((([t198] : List Int)), (-1), true))) else (some ((([] : List Int)), (-1), false)))) = some (r1, r2, r3) := by rw [if_pos rfl] at H; exact H
     clear H
     have H := H1
     clear H1
     replace H := Option.bind_eq_some_iff.mp H
     obtain ⟨t203, A80, H⟩ := H
     replace H : (if t203 = true then (if t197.toList = ([97, 116] : List UInt8) then (some ((([] : List Int)), t198, true)) else (some ((([t198] : List Int)), (-1), true))) else (some ((([] : List Int)), (-1), false))) = some (r1, r2, r3) := H
     have A8 := Aside0.mk A80
     clear A80
     by_cases c9 : t203 = true
     ·subst c9
      have H1 : (if t197.toList = ([97, 116] : List UInt8) then (some ((([] : List Int)), t198, true)) else (some ((([t198] : List Int)), (-1), true))) = some (r1, r2, r3) := by rw [if_pos rfl] at H; exact H
      clear H
      have H := H1
      clear H1
      by_cases c10 : t197.toList = ([97, 116] : List UInt8)
      ·rw [if_pos c10] at H
       have c10b0 : (t197.toList == ([97, 116] : List UInt8)) = true := beq_iff_eq.mpr c10
       have c10b1 : (t197.toList != ([97, 116] : List UInt8)) = false := bne_eq_false_iff_eq.mpr c10
       clear c10
       obtain ⟨y204, hy204⟩ : ∃ y_ : List Int, y_ = (([] : List Int)) := ⟨_, rfl⟩
       replace H : (some (y204, t198, true)) = some (r1, r2, r3) := by first | (rw [hy204]; with_reducible exact H) | (have H2_ := (Option.bind_some _ _).symm.trans H; rw [hy204]; with_reducible exact H2_) | (have H2_ := (Option.bind_some _ _).symm.trans H; with_reducible exact H2_) | with_reducible exact H | (rw [hy204]; exact H) | exact H
       have Ny204 := Aside0.mk hy204
       clear hy204
       simp only [Option.some.injEq, Prod.mk.injEq] at H
       obtain ⟨rfl, rfl, rfl⟩ := H
       go_wp2_with (first | ((with_reducible refine gate_callee (f := 68) rfl ?_); refine goesM_ (some 25) rfl rfl Try.func68 #[.int .i64 t198, .int .i64 0, .int .i64 255] ?_; (with_reducible refine (spec_l1In.calls t198 0 255 true _ A8.out).mono ?_); rintro e w' ⟨rfl, ⟨nd, rfl⟩⟩; refine ⟨_, rfl, ?_⟩) | ((with_reducible refine gate_dst (N := 30) rfl ?_); refine Kd.R_lit (Kd.int .i64) _ 3 ?hg (N := 30) ?hd (xs := ([] : List Int)) (inner := []) (ok := fun _ => True) (okp := fun _ => True) ?hr ?hp (fun _ hk => hk) trivial (Below.refl _ _) (Nat.le_refl _) (by simp) ?_; (case hd => rfl); (case hg => rfl); (case hr => first | (go_simp; done) | (go_simp; rfl)); (case hp => exact (Reps.none _ _)); intro v205 w11 ho12 hb hg_ hnew_; clear hg_ hnew_; (first | rw [← Ny204.out] at ho12 | (simp only [Int.reduceToNat] at ho12; rw [← Ny204.out] at ho12)); have n0_ := Aside0.mk (Kd.R_lower ho12 (below_size (bw HB.out))); have n1_ := Aside0.mk (below_step (bw HB.out) hb); clear HB; have HO206 := n0_; have HB := n1_; clear n0_ n1_; clear hb ho12))
       go_ret3
       exact ⟨_, rt, kr HO206.out, bw HB.out⟩
      ·rw [if_neg c10] at H
       have c10b0 : (t197.toList == ([97, 116] : List UInt8)) = false := beq_eq_false_iff_ne.mpr c10
       have c10b1 : (t197.toList != ([97, 116] : List UInt8)) = true := bne_iff_ne.mpr c10
       obtain ⟨y207, hy207⟩ : ∃ y_ : List Int, y_ = (([t198] : List Int)) := ⟨_, rfl⟩
       replace H : (some (y207, (-1), true)) = some (r1, r2, r3) := by first | (rw [hy207]; with_reducible exact H) | (have H2_ := (Option.bind_some _ _).symm.trans H; rw [hy207]; with_reducible exact H2_) | (have H2_ := (Option.bind_some _ _).symm.trans H; with_reducible exact H2_) | with_reducible exact H | (rw [hy207]; exact H) | exact H
       have Ny207 := Aside0.mk hy207
       clear hy207
       simp only [Option.some.injEq, Prod.mk.injEq] at H
       obtain ⟨rfl, rfl, rfl⟩ := H
       go_wp2_with (first | ((with_reducible refine gate_callee (f := 68) rfl ?_); refine goesM_ (some 25) rfl rfl Try.func68 #[.int .i64 t198, .int .i64 0, .int .i64 255] ?_; (with_reducible refine (spec_l1In.calls t198 0 255 true _ A8.out).mono ?_); rintro e w' ⟨rfl, ⟨nd, rfl⟩⟩; refine ⟨_, rfl, ?_⟩) | ((with_reducible refine gate_dst (N := 33) rfl ?_); refine Kd.R_lit (Kd.int .i64) _ 3 ?hg (N := 33) ?hd (xs := ([t198] : List Int)) (inner := [.int .i64 t198]) (ok := fun _ => True) (okp := fun _ => True) ?hr ?hp (fun _ hk => hk) trivial (Below.refl _ _) (Nat.le_refl _) (by simp) ?_; (case hd => rfl); (case hg => rfl); (case hr => first | (go_simp; done) | (go_simp; rfl)); (case hp => exact (Reps.one (show Kd.M (Kd.int .i64) _ _ _ t198 [.int .i64 t198] from rfl) (Reps.none _ _))); intro v208 w13 ho14 hb hg_ hnew_; clear hg_ hnew_; (first | rw [← Ny207.out] at ho14 | (simp only [Int.reduceToNat] at ho14; rw [← Ny207.out] at ho14)); have n0_ := Aside0.mk (Kd.R_lower ho14 (below_size (bw HB.out))); have n1_ := Aside0.mk (below_step (bw HB.out) hb); clear HB; have HO209 := n0_; have HB := n1_; clear n0_ n1_; clear hb ho14))
       go_ret3
       exact ⟨_, rt, kr HO209.out, bw HB.out⟩
     ·replace c9 := Bool.eq_false_iff.mpr c9
      subst c9
      have H1 : (some ((([] : List Int)), (-1), false)) = some (r1, r2, r3) := by rw [if_neg (show ¬ (false = true) by decide)] at H; exact H
      clear H
      have H := H1
      clear H1
      obtain ⟨y210, hy210⟩ : ∃ y_ : List Int, y_ = (([] : List Int)) := ⟨_, rfl⟩
      replace H : (some (y210, (-1), false)) = some (r1, r2, r3) := by first | (rw [hy210]; with_reducible exact H) | (have H2_ := (Option.bind_some _ _).symm.trans H; rw [hy210]; with_reducible exact H2_) | (have H2_ := (Option.bind_some _ _).symm.trans H; with_reducible exact H2_) | with_reducible exact H | (rw [hy210]; exact H) | exact H
      have Ny210 := Aside0.mk hy210
      clear hy210
      simp only [Option.some.injEq, Prod.mk.injEq] at H
      obtain ⟨rfl, rfl, rfl⟩ := H
      go_wp2_with (first | ((with_reducible refine gate_callee (f := 68) rfl ?_); refine goesM_ (some 25) rfl rfl Try.func68 #[.int .i64 t198, .int .i64 0, .int .i64 255] ?_; (with_reducible refine (spec_l1In.calls t198 0 255 false _ A8.out).mono ?_); rintro e w' ⟨rfl, ⟨nd, rfl⟩⟩; refine ⟨_, rfl, ?_⟩) | ((with_reducible refine gate_dst (N := 27) rfl ?_); refine Kd.R_lit (Kd.int .i64) _ 3 ?hg (N := 27) ?hd (xs := ([] : List Int)) (inner := []) (ok := fun _ => True) (okp := fun _ => True) ?hr ?hp (fun _ hk => hk) trivial (Below.refl _ _) (Nat.le_refl _) (by simp) ?_; (case hd => rfl); (case hg => rfl); (case hr => first | (go_simp; done) | (go_simp; rfl)); (case hp => exact (Reps.none _ _)); intro v211 w15 ho16 hb hg_ hnew_; clear hg_ hnew_; (first | rw [← Ny210.out] at ho16 | (simp only [Int.reduceToNat] at ho16; rw [← Ny210.out] at ho16)); have n0_ := Aside0.mk (Kd.R_lower ho16 (below_size (bw HB.out))); have n1_ := Aside0.mk (below_step (bw HB.out) hb); clear HB; have HO212 := n0_; have HB := n1_; clear n0_ n1_; clear hb ho16))
      go_ret3
      exact ⟨_, rt, kr HO212.out, bw HB.out⟩
    ·replace c7 := Bool.eq_false_iff.mpr c7
     subst c7
     have H1 : ((spec_OpOf.f kj3 t197).bind fun t213 => (if t213 < 0 then (some ((([] : List Int)), (-1), false)) else ((spec_OpLen.f t213).bind fun t217 => (if t217 = 1 then (some ((([t213] : List Int)), (-1), decide (t198 < 0))) else (if t217 = 2 then ((spec_Byte.f t198).bind fun t221 => ((spec_l1In.f t198 0 255).bind fun t225 => (some ((([t213, t221] : List Int)), (-1), t225)))) else ((spec_Byte.f t198).bind fun t226 => ((spec_Byte.f (t198 / 256)).bind fun t227 => ((spec_l1In.f t198 0 65535).bind fun t231 => (some ((([t213, t226, t227] : List Int)), (-1), t231)))))))))) = some (r1, r2, r3) := by rw [if_neg (show ¬ (false = true) by decide)] at H; exact H
     clear H
     have H := H1
     clear H1
     replace H := Option.bind_eq_some_iff.mp H
     obtain ⟨t213, A170, H⟩ := H
     replace H : (if t213 < 0 then (some ((([] : List Int)), (-1), false)) else ((spec_OpLen.f t213).bind fun t217 => (if t217 = 1 then (some ((([t213] : List Int)), (-1), decide (t198 < 0))) else (if t217 = 2 then ((spec_Byte.f t198).bind fun t221 => ((spec_l1In.f t198 0 255).bind fun t225 => (some ((([t213, t221] : List Int)), (-1), t225)))) else ((spec_Byte.f t198).bind fun t226 => ((spec_Byte.f (t198 / 256)).bind fun t227 => ((spec_l1In.f t198 0 65535).bind fun t231 => (some ((([t213, t226, t227] : List Int)), (-1), t231))))))))) = some (r1, r2, r3) := H
     have A17 := Aside0.mk A170
     clear A170
     by_cases c18 : t213 < 0
     ·rw [if_pos c18] at H
      have c18b0 : decide (t213 < 0) = true := decide_eq_true c18
      clear c18
      obtain ⟨y214, hy214⟩ : ∃ y_ : List Int, y_ = (([] : List Int)) := ⟨_, rfl⟩
      replace H : (some (y214, (-1), false)) = some (r1, r2, r3) := by first | (rw [hy214]; with_reducible exact H) | (have H2_ := (Option.bind_some _ _).symm.trans H; rw [hy214]; with_reducible exact H2_) | (have H2_ := (Option.bind_some _ _).symm.trans H; with_reducible exact H2_) | with_reducible exact H | (rw [hy214]; exact H) | exact H
      have Ny214 := Aside0.mk hy214
      clear hy214
      simp only [Option.some.injEq, Prod.mk.injEq] at H
      obtain ⟨rfl, rfl, rfl⟩ := H
      go_wp2_with (first | ((with_reducible refine gate_callee (f := 130) rfl ?_); refine goesM_ (some 35) rfl rfl Try.func130 #[.string t197] ?_; (with_reducible refine (spec_OpOf.calls kj3 t197 t213 _ A17.out).mono ?_); rintro e w19 ⟨rfl, hb⟩; refine ⟨_, rfl, ?_⟩; have n0_ := Aside0.mk (below_step (bw HB.out) hb); clear HB; have HB := n0_; clear n0_; (try clear hb); (try clear hb2); (try clear hk); (try clear hi)) | ((with_reducible refine gate_dst (N := 38) rfl ?_); refine Kd.R_lit (Kd.int .i64) _ 3 ?hg (N := 38) ?hd (xs := ([] : List Int)) (inner := []) (ok := fun _ => True) (okp := fun _ => True) ?hr ?hp (fun _ hk => hk) trivial (Below.refl _ _) (Nat.le_refl _) (by simp) ?_; (case hd => rfl); (case hg => rfl); (case hr => first | (go_simp; done) | (go_simp; rfl)); (case hp => exact (Reps.none _ _)); intro v215 w20 ho21 hb hg_ hnew_; clear hg_ hnew_; (first | rw [← Ny214.out] at ho21 | (simp only [Int.reduceToNat] at ho21; rw [← Ny214.out] at ho21)); have n0_ := Aside0.mk (Kd.R_lower ho21 (below_size (bw HB.out))); have n1_ := Aside0.mk (below_step (bw HB.out) hb); clear HB; have HO216 := n0_; have HB := n1_; clear n0_ n1_; clear hb ho21))
      go_ret3
      exact ⟨_, rt, kr HO216.out, bw HB.out⟩
     ·rw [if_neg c18] at H
      have c18b0 : decide (t213 < 0) = false := decide_eq_false c18
      clear c18
      replace H := Option.bind_eq_some_iff.mp H
      obtain ⟨t217, A220, H⟩ := H
      replace H : (if t217 = 1 then (some ((([t213] : List Int)), (-1), decide (t198 < 0))) else (if t217 = 2 then ((spec_Byte.f t198).bind fun t221 => ((spec_l1In.f t198 0 255).bind fun t225 => (some ((([t213, t221] : List Int)), (-1), t225)))) else ((spec_Byte.f t198).bind fun t226 => ((spec_Byte.f (t198 / 256)).bind fun t227 => ((spec_l1In.f t198 0 65535).bind fun t231 => (some ((([t213, t226, t227] : List Int)), (-1), t231))))))) = some (r1, r2, r3) := H
      have A22 := Aside0.mk A220
      clear A220
      by_cases c23 : t217 = 1
      ·rw [if_pos c23] at H
       have c23b0 : (t217 == 1) = true := beq_iff_eq.mpr c23
       have c23b1 : (t217 != 1) = false := bne_eq_false_iff_eq.mpr c23
       clear c23
       obtain ⟨y218, hy218⟩ : ∃ y_ : List Int, y_ = (([t213] : List Int)) := ⟨_, rfl⟩
       replace H : (some (y218, (-1), decide (t198 < 0))) = some (r1, r2, r3) := by first | (rw [hy218]; with_reducible exact H) | (have H2_ := (Option.bind_some _ _).symm.trans H; rw [hy218]; with_reducible exact H2_) | (have H2_ := (Option.bind_some _ _).symm.trans H; with_reducible exact H2_) | with_reducible exact H | (rw [hy218]; exact H) | exact H
       have Ny218 := Aside0.mk hy218
       clear hy218
       simp only [Option.some.injEq, Prod.mk.injEq] at H
       obtain ⟨rfl, rfl, rfl⟩ := H
       go_wp2_with (first | ((with_reducible refine gate_callee (f := 130) rfl ?_); refine goesM_ (some 35) rfl rfl Try.func130 #[.string t197] ?_; (with_reducible refine (spec_OpOf.calls kj3 t197 t213 _ A17.out).mono ?_); rintro e w24 ⟨rfl, hb⟩; refine ⟨_, rfl, ?_⟩; have n0_ := Aside0.mk (below_step (bw HB.out) hb); clear HB; have HB := n0_; clear n0_; (try clear hb); (try clear hb2); (try clear hk); (try clear hi)) | ((with_reducible refine gate_callee (f := 81) rfl ?_); refine goesM_ (some 40) rfl rfl Try.func81 #[.int .i64 t213] ?_; (with_reducible refine (spec_OpLen.calls t213 t217 _ A22.out).mono ?_); rintro e w25 ⟨rfl, hb⟩; refine ⟨_, rfl, ?_⟩; have n0_ := Aside0.mk (below_step (bw HB.out) hb); clear HB; have HB := n0_; clear n0_; (try clear hb); (try clear hb2); (try clear hk); (try clear hi)) | ((with_reducible refine gate_dst (N := 44) rfl ?_); refine Kd.R_lit (Kd.int .i64) _ 3 ?hg (N := 44) ?hd (xs := ([t213] : List Int)) (inner := [.int .i64 t213]) (ok := fun _ => True) (okp := fun _ => True) ?hr ?hp (fun _ hk => hk) trivial (Below.refl _ _) (Nat.le_refl _) (by simp) ?_; (case hd => rfl); (case hg => rfl); (case hr => first | (go_simp; done) | (go_simp; rfl)); (case hp => exact (Reps.one (show Kd.M (Kd.int .i64) _ _ _ t213 [.int .i64 t213] from rfl) (Reps.none _ _))); intro v219 w26 ho27 hb hg_ hnew_; clear hg_ hnew_; (first | rw [← Ny218.out] at ho27 | (simp only [Int.reduceToNat] at ho27; rw [← Ny218.out] at ho27)); have n0_ := Aside0.mk (Kd.R_lower ho27 (below_size (bw HB.out))); have n1_ := Aside0.mk (below_step (bw HB.out) hb); clear HB; have HO220 := n0_; have HB := n1_; clear n0_ n1_; clear hb ho27))
       go_ret3
       exact ⟨_, rt, kr HO220.out, bw HB.out⟩
      ·rw [if_neg c23] at H
       have c23b0 : (t217 == 1) = false := beq_eq_false_iff_ne.mpr c23
       have c23b1 : (t217 != 1) = true := bne_iff_ne.mpr c23
       by_cases c28 : t217 = 2
       ·rw [if_pos c28] at H
        have c28b0 : (t217 == 2) = true := beq_iff_eq.mpr c28
        have c28b1 : (t217 != 2) = false := bne_eq_false_iff_eq.mpr c28
        clear c28
        replace H := Option.bind_eq_some_iff.mp H
        obtain ⟨t221, A290, H⟩ := H
        replace H : ((spec_l1In.f t198 0 255).bind fun t225 => (some ((([t213, t221] : List Int)), (-1), t225))) = some (r1, r2, r3) := H
        have A29 := Aside0.mk A290
        clear A290
        obtain ⟨y222, hy222⟩ : ∃ y_ : List Int, y_ = (([t213, t221] : List Int)) := ⟨_, rfl⟩
        replace H : ((spec_l1In.f t198 0 255).bind fun t225 => (some (y222, (-1), t225))) = some (r1, r2, r3) := by first | (rw [hy222]; with_reducible exact H) | (have H2_ := (Option.bind_some _ _).symm.trans H; rw [hy222]; with_reducible exact H2_) | (have H2_ := (Option.bind_some _ _).symm.trans H; with_reducible exact H2_) | with_reducible exact H | (rw [hy222]; exact H) | exact H
        have Ny222 := Aside0.mk hy222
        clear hy222
        replace H := Option.bind_eq_some_iff.mp H
        obtain ⟨t225, A300, H⟩ := H
        replace H : (some (y222, (-1), t225)) = some (r1, r2, r3) := H
        have A30 := Aside0.mk A300
        clear A300
        simp only [Option.some.injEq, Prod.mk.injEq] at H
        obtain ⟨rfl, rfl, rfl⟩ := H
        go_wp2_with (first | ((with_reducible refine gate_callee (f := 130) rfl ?_); refine goesM_ (some 35) rfl rfl Try.func130 #[.string t197] ?_; (with_reducible refine (spec_OpOf.calls kj3 t197 t213 _ A17.out).mono ?_); rintro e w31 ⟨rfl, hb⟩; refine ⟨_, rfl, ?_⟩; have n0_ := Aside0.mk (below_step (bw HB.out) hb); clear HB; have HB := n0_; clear n0_; (try clear hb); (try clear hb2); (try clear hk); (try clear hi)) | ((with_reducible refine gate_callee (f := 81) rfl ?_); refine goesM_ (some 40) rfl rfl Try.func81 #[.int .i64 t213] ?_; (with_reducible refine (spec_OpLen.calls t213 t217 _ A22.out).mono ?_); rintro e w32 ⟨rfl, hb⟩; refine ⟨_, rfl, ?_⟩; have n0_ := Aside0.mk (below_step (bw HB.out) hb); clear HB; have HB := n0_; clear n0_; (try clear hb); (try clear hb2); (try clear hk); (try clear hi)) | ((with_reducible refine gate_callee (f := 71) rfl ?_); refine goesM_ (some 51) rfl rfl Try.func71 #[.int .i64 t198] ?_; (with_reducible refine (spec_Byte.calls t198 t221 _ A29.out).mono ?_); rintro e w' ⟨rfl, ⟨nd, rfl⟩⟩; refine ⟨_, rfl, ?_⟩) | ((with_reducible refine gate_dst (N := 52) rfl ?_); refine Kd.R_lit (Kd.int .i64) _ 3 ?hg (N := 52) ?hd (xs := ([t213, t221] : List Int)) (inner := [.int .i64 t213, .int .i64 t221]) (ok := fun _ => True) (okp := fun _ => True) ?hr ?hp (fun _ hk => hk) trivial (Below.refl _ _) (Nat.le_refl _) (by simp) ?_; (case hd => rfl); (case hg => rfl); (case hr => first | (go_simp; done) | (go_simp; rfl)); (case hp => exact (Reps.one (show Kd.M (Kd.int .i64) _ _ _ t213 [.int .i64 t213] from rfl) (Reps.one (show Kd.M (Kd.int .i64) _ _ _ t221 [.int .i64 t221] from rfl) (Reps.none _ _)))); intro v223 w33 ho34 hb hg_ hnew_; clear hg_ hnew_; (first | rw [← Ny222.out] at ho34 | (simp only [Int.reduceToNat] at ho34; rw [← Ny222.out] at ho34)); have n0_ := Aside0.mk (Kd.R_lower ho34 (below_size (bw HB.out))); have n1_ := Aside0.mk (below_step (bw HB.out) hb); clear HB; have HO224 := n0_; have HB := n1_; clear n0_ n1_; clear hb ho34) | ((with_reducible refine gate_callee (f := 68) rfl ?_); refine goesM_ (some 54) rfl rfl Try.func68 #[.int .i64 t198, .int .i64 0, .int .i64 255] ?_; (with_reducible refine (spec_l1In.calls t198 0 255 t225 _ A30.out).mono ?_); rintro e w' ⟨rfl, ⟨nd, rfl⟩⟩; refine ⟨_, rfl, ?_⟩))
        go_ret3
        exact ⟨_, rt, kr HO224.out, bw HB.out⟩
       ·rw [if_neg c28] at H
        have c28b0 : (t217 == 2) = false := beq_eq_false_iff_ne.mpr c28
        have c28b1 : (t217 != 2) = true := bne_iff_ne.mpr c28
        replace H := Option.bind_eq_some_iff.mp H
        obtain ⟨t226, A350, H⟩ := H
        replace H : ((spec_Byte.f (t198 / 256)).bind fun t227 => ((spec_l1In.f t198 0 65535).bind fun t231 => (some ((([t213, t226, t227] : List Int)), (-1), t231)))) = some (r1, r2, r3) := H
        have A35 := Aside0.mk A350
        clear A350
        replace H := Option.bind_eq_some_iff.mp H
        obtain ⟨t227, A360, H⟩ := H
        replace H : ((spec_l1In.f t198 0 65535).bind fun t231 => (some ((([t213, t226, t227] : List Int)), (-1), t231))) = some (r1, r2, r3) := H
        have A36 := Aside0.mk A360
        clear A360
        obtain ⟨y228, hy228⟩ : ∃ y_ : List Int, y_ = (([t213, t226, t227] : List Int)) := ⟨_, rfl⟩
        replace H : ((spec_l1In.f t198 0 65535).bind fun t231 => (some (y228, (-1), t231))) = some (r1, r2, r3) := by first | (rw [hy228]; with_reducible exact H) | (have H2_ := (Option.bind_some _ _).symm.trans H; rw [hy228]; with_reducible exact H2_) | (have H2_ := (Option.bind_some _ _).symm.trans H; with_reducible exact H2_) | with_reducible exact H | (rw [hy228]; exact H) | exact H
        have Ny228 := Aside0.mk hy228
        clear hy228
        replace H := Option.bind_eq_some_iff.mp H
        obtain ⟨t231, A370, H⟩ := H
        replace H : (some (y228, (-1), t231)) = some (r1, r2, r3) := H
        have A37 := Aside0.mk A370
        clear A370
        simp only [Option.some.injEq, Prod.mk.injEq] at H
        obtain ⟨rfl, rfl, rfl⟩ := H
        go_wp2_with (first | ((with_reducible refine gate_callee (f := 130) rfl ?_); refine goesM_ (some 35) rfl rfl Try.func130 #[.string t197] ?_; (with_reducible refine (spec_OpOf.calls kj3 t197 t213 _ A17.out).mono ?_); rintro e w38 ⟨rfl, hb⟩; refine ⟨_, rfl, ?_⟩; have n0_ := Aside0.mk (below_step (bw HB.out) hb); clear HB; have HB := n0_; clear n0_; (try clear hb); (try clear hb2); (try clear hk); (try clear hi)) | ((with_reducible refine gate_callee (f := 81) rfl ?_); refine goesM_ (some 40) rfl rfl Try.func81 #[.int .i64 t213] ?_; (with_reducible refine (spec_OpLen.calls t213 t217 _ A22.out).mono ?_); rintro e w39 ⟨rfl, hb⟩; refine ⟨_, rfl, ?_⟩; have n0_ := Aside0.mk (below_step (bw HB.out) hb); clear HB; have HB := n0_; clear n0_; (try clear hb); (try clear hb2); (try clear hk); (try clear hi)) | ((with_reducible refine gate_callee (f := 71) rfl ?_); refine goesM_ (some 57) rfl rfl Try.func71 #[.int .i64 t198] ?_; (with_reducible refine (spec_Byte.calls t198 t226 _ A35.out).mono ?_); rintro e w' ⟨rfl, ⟨nd, rfl⟩⟩; refine ⟨_, rfl, ?_⟩) | ((with_reducible refine gate_callee (f := 71) rfl ?_); refine goesM_ (some 60) rfl rfl Try.func71 #[.int .i64 (t198 / 256)] ?_; (with_reducible refine (spec_Byte.calls (t198 / 256) t227 _ A36.out).mono ?_); rintro e w' ⟨rfl, ⟨nd, rfl⟩⟩; refine ⟨_, rfl, ?_⟩) | ((with_reducible refine gate_dst (N := 61) rfl ?_); refine Kd.R_lit (Kd.int .i64) _ 3 ?hg (N := 61) ?hd (xs := ([t213, t226, t227] : List Int)) (inner := [.int .i64 t213, .int .i64 t226, .int .i64 t227]) (ok := fun _ => True) (okp := fun _ => True) ?hr ?hp (fun _ hk => hk) trivial (Below.refl _ _) (Nat.le_refl _) (by simp) ?_; (case hd => rfl); (case hg => rfl); (case hr => first | (go_simp; done) | (go_simp; rfl)); (case hp => exact (Reps.one (show Kd.M (Kd.int .i64) _ _ _ t213 [.int .i64 t213] from rfl) (Reps.one (show Kd.M (Kd.int .i64) _ _ _ t226 [.int .i64 t226] from rfl) (Reps.one (show Kd.M (Kd.int .i64) _ _ _ t227 [.int .i64 t227] from rfl) (Reps.none _ _))))); intro v229 w40 ho41 hb hg_ hnew_; clear hg_ hnew_; (first | rw [← Ny228.out] at ho41 | (simp only [Int.reduceToNat] at ho41; rw [← Ny228.out] at ho41)); have n0_ := Aside0.mk (Kd.R_lower ho41 (below_size (bw HB.out))); have n1_ := Aside0.mk (below_step (bw HB.out) hb); clear HB; have HO230 := n0_; have HB := n1_; clear n0_ n1_; clear hb ho41) | ((with_reducible refine gate_callee (f := 68) rfl ?_); refine goesM_ (some 63) rfl rfl Try.func68 #[.int .i64 t198, .int .i64 0, .int .i64 65535] ?_; (with_reducible refine (spec_l1In.calls t198 0 65535 t231 _ A37.out).mono ?_); rintro e w' ⟨rfl, ⟨nd, rfl⟩⟩; refine ⟨_, rfl, ?_⟩))
        go_ret3
        exact ⟨_, rt, kr HO230.out, bw HB.out⟩
 ·replace c3 := Bool.eq_false_iff.mpr c3
  subst c3
  have H1 : (some ((([] : List Int)), (-1), false)) = some (r1, r2, r3) := by rw [if_neg (show ¬ (false = true) by decide)] at H; exact H
  clear H
  have H := H1
  clear H1
  obtain ⟨y200, hy200⟩ : ∃ y_ : List Int, y_ = (([] : List Int)) := ⟨_, rfl⟩
  replace H : (some (y200, (-1), false)) = some (r1, r2, r3) := by first | (rw [hy200]; with_reducible exact H) | (have H2_ := (Option.bind_some _ _).symm.trans H; rw [hy200]; with_reducible exact H2_) | (have H2_ := (Option.bind_some _ _).symm.trans H; with_reducible exact H2_) | with_reducible exact H | (rw [hy200]; exact H) | exact H
  have Ny200 := Aside0.mk hy200
  clear hy200
  simp only [Option.some.injEq, Prod.mk.injEq] at H
  obtain ⟨rfl, rfl, rfl⟩ := H
  go_enter Try.func118, Try.ntmps118
  go_wp2_with (first | ((with_reducible refine gate_callee (f := 129) rfl ?_); refine goesM_ (some 11) rfl rfl Try.func129 #[.string a0] ?_; (with_reducible refine (spec_l4Line.calls k a0 t197 t198 false _ A2.out).mono ?_); rintro e w42 ⟨rfl, hb⟩; refine ⟨_, rfl, ?_⟩; have n0_ := Aside0.mk (below_step (bw HB.out) hb); clear HB; have HB := n0_; clear n0_; (try clear hb); (try clear hb2); (try clear hk); (try clear hi)) | ((with_reducible refine gate_dst (N := 17) rfl ?_); refine Kd.R_lit (Kd.int .i64) _ 3 ?hg (N := 17) ?hd (xs := ([] : List Int)) (inner := []) (ok := fun _ => True) (okp := fun _ => True) ?hr ?hp (fun _ hk => hk) trivial (Below.refl _ _) (Nat.le_refl _) (by simp) ?_; (case hd => rfl); (case hg => rfl); (case hr => first | (go_simp; done) | (go_simp; rfl)); (case hp => exact (Reps.none _ _)); intro v201 w43 ho44 hb hg_ hnew_; clear hg_ hnew_; (first | rw [← Ny200.out] at ho44 | (simp only [Int.reduceToNat] at ho44; rw [← Ny200.out] at ho44)); have n0_ := Aside0.mk (Kd.R_lower ho44 (below_size (bw HB.out))); have n1_ := Aside0.mk (below_step (bw HB.out) hb); clear HB; have HO202 := n0_; have HB := n1_; clear n0_ n1_; clear hb ho44))
  go_ret3
  exact ⟨_, rt, kr HO202.out, bw HB.out⟩

/-! ### spec_Assemble: function 106 -/
mutual
def spec_Assemble.l0 : Nat → ByteArray → List Int → Int → Int → Int → Int → Option (List Int × Int)
 | 0, _, _, _, _, _, _ => none
 | k + 1, x0, x4, x5, x6, x7, x8 => if x8 ≤ (x0.size : Int) then (if x8 < (x0.size : Int) then (if 0 ≤ x8 then (if (bt x0 x8) = 10 then (if x8 = (x0.size : Int) then (spec_Assemble.j1 k x0 x4 x5 x6 x7 x8 (x6 == (x0.size : Int))) else (spec_Assemble.j1 k x0 x4 x5 x6 x7 x8 false)) else (spec_Assemble.j1 k x0 x4 x5 x6 x7 x8 true)) else (none)) else (if x8 = (x0.size : Int) then (spec_Assemble.j1 k x0 x4 x5 x6 x7 x8 (x6 == (x0.size : Int))) else (spec_Assemble.j1 k x0 x4 x5 x6 x7 x8 false))) else (some (x4, 0))
def spec_Assemble.j1 : Nat → ByteArray → List Int → Int → Int → Int → Int → Bool → Option (List Int × Int)
 | 0, _, _, _, _, _, _, _ => none
 | k + 1, x0, x4, x5, x6, x7, x8, x46 => if x46 = true then (spec_Assemble.l0 k x0 x4 x5 x6 x7 (wrap64 (x8 + 1))) else (if 0 ≤ x6 then (if x6 ≤ x8 then (if x8 ≤ (x0.size : Int) then (if (x0.extract (x6 : Int).toNat (x8 : Int).toNat).toList = ([] : List UInt8) then (spec_Assemble.l0 k x0 x4 x5 (wrap64 (x8 + 1)) (wrap64 (x7 + 1)) (wrap64 (x8 + 1))) else ((spec_l4Bytes.f k (x0.extract (x6 : Int).toNat (x8 : Int).toNat)).bind fun bt238 => (if bt238.2.2 = true then (if bt238.2.1 ≥ 0 then (spec_Assemble.j2 k x0 x4 bt238.2.1 (wrap64 (x8 + 1)) (wrap64 (x7 + 1)) x8 bt238.1) else (spec_Assemble.j2 k x0 x4 x5 (wrap64 (x8 + 1)) (wrap64 (x7 + 1)) x8 bt238.1)) else (some ((([] : List Int)), wrap64 (x7 + 1)))))) else (none)) else (none)) else (none))
def spec_Assemble.j2 : Nat → ByteArray → List Int → Int → Int → Int → Int → List Int → Option (List Int × Int)
 | 0, _, _, _, _, _, _, _ => none
 | k + 1, x0, x4, x5, x6, x7, x8, x10 => spec_Assemble.l1 k x0 x4 x5 x6 x7 x8 x10 0
def spec_Assemble.l1 : Nat → ByteArray → List Int → Int → Int → Int → Int → List Int → Int → Option (List Int × Int)
 | 0, _, _, _, _, _, _, _, _ => none
 | k + 1, x0, x4, x5, x6, x7, x8, x10, x13 => if x13 < (x10.length : Int) then ((spec_Byte.f x5).bind fun t246 => (if 0 ≤ x13 then (if 0 ≤ t246 then (if t246 < (x4.length : Int) then (spec_Assemble.l1 k x0 (x4.set (t246 : Int).toNat (rd x10 x13)) (wrap64 (x5 + 1)) x6 x7 x8 x10 (wrap64 (x13 + 1))) else (none)) else (none)) else (none))) else (spec_Assemble.l0 k x0 x4 x5 x6 x7 (wrap64 (x8 + 1)))
end
def spec_Assemble.f (k : Nat) (a0 : ByteArray) : Option (List Int × Int) := if (a0.size : Int) > 3000 then (some ((([] : List Int)), (-1))) else (if 256 ≤ 35184372088832 then (spec_Assemble.l0 k a0 (List.replicate 256 0) 0 0 0 0) else (none))
def spec_Assemble.T21 : Bool × List (List Nat × List Nat) := (true, [([], []), ([], []), ([1], [1]), ([], []), ([], []), ([3, 4], [3, 4]), ([5], [5]), ([0, 2, 0, 1, 2, 3, 4, 5, 6], [0, 2]), ([7, 6, 2, 0, 1, 2, 3, 4, 5, 6], [6, 7])])
def spec_Assemble.B21 : List Nat := [0, 0, 2, 0, 0, 24, 56, 127, 255]
theorem spec_Assemble.tab21 : rtab .any (opsOf Try.f106 21) = spec_Assemble.T21 := by kernel_rfl
theorem spec_Assemble.bits21 : waitsOk spec_Assemble.T21.2 spec_Assemble.B21 = true := by kernel_rfl
set_option maxHeartbeats 8000000 in
set_option maxRecDepth 100000 in
theorem spec_Assemble.calls (k : Nat) (a0 : ByteArray) (r1 : List Int) (r2 : Int) (w : World) (h : spec_Assemble.f k a0 = some (r1, r2)) :
  Calls Try.prog 106 #[.string a0] w fun e w' => ∃ v0_ : Value, e = .returned (.tuple #[v0_, .int .i64 r2]) ∧ Kd.R (Kd.int .i64) 3 w' w.heap.size (fun _ => True) v0_ r1 ∧ Below w.heap.size w w' := by
 have HB := Aside0.mk (Below.refl w.heap.size w)
 have H : (if (a0.size : Int) > 3000 then (some ((([] : List Int)), (-1))) else (if 256 ≤ 35184372088832 then (spec_Assemble.l0 k a0 (List.replicate 256 0) 0 0 0 0) else (none))) = some (r1, r2) := h
 clear h
 by_cases c2 : (a0.size : Int) > 3000
 ·rw [if_pos c2] at H
  have c2b0 : decide (3000 < (a0.size : Int)) = true := decide_eq_true c2
  have c2b1 : decide (3000 < a0.size) = true := decide_eq_true (by omega)
  clear c2
  obtain ⟨y232, hy232⟩ : ∃ y_ : List Int, y_ = (([] : List Int)) := ⟨_, rfl⟩
  replace H : (some (y232, (-1))) = some (r1, r2) := by first | (rw [hy232]; with_reducible exact H) | (have H2_ := (Option.bind_some _ _).symm.trans H; rw [hy232]; with_reducible exact H2_) | (have H2_ := (Option.bind_some _ _).symm.trans H; with_reducible exact H2_) | with_reducible exact H | (rw [hy232]; exact H) | exact H
  have Ny232 := Aside0.mk hy232
  clear hy232
  simp only [Option.some.injEq, Prod.mk.injEq] at H
  obtain ⟨rfl, rfl⟩ := H
  go_enter Try.func106, Try.ntmps106
  go_wp2_with (first | ((with_reducible refine gate_dst (N := 17) rfl ?_); (try (refine gate_guard (by rfl) ?_; dsimp only)); refine Kd.R_lit (Kd.int .i64) _ 3 ?hg (N := 17) ?hd (xs := ([] : List Int)) (inner := []) (ok := fun _ => True) (okp := fun _ => True) ?hr ?hp (fun _ hk => hk) trivial (Below.refl _ _) (Nat.le_refl _) (by simp) ?_; (case hd => rfl); (case hg => rfl); (case hr => first | (go_simp; done) | (go_simp; rfl)); (case hp => exact (Reps.none _ _)); intro v233 w3 ho4 hb hg_ hnew_; clear hg_ hnew_; (first | rw [← Ny232.out] at ho4 | (simp only [Int.reduceToNat] at ho4; rw [← Ny232.out] at ho4)); have n0_ := Aside0.mk (Kd.R_lower ho4 (below_size (bw HB.out))); have n1_ := Aside0.mk (below_step (bw HB.out) hb); clear HB; have HO234 := n0_; have HB := n1_; clear n0_ n1_; clear hb ho4))
  go_ret2
  exact ⟨_, rt, kr HO234.out, bw HB.out⟩
 ·rw [if_neg c2] at H
  have c2b0 : decide (3000 < (a0.size : Int)) = false := decide_eq_false c2
  have c2b1 : decide (3000 < a0.size) = false := decide_eq_false (by omega)
  clear c2
  by_cases c5 : 256 ≤ 35184372088832
  ·rw [if_pos c5] at H
   have c5b0 := eq_true c5
   have c5b1 : decide (256 ≤ 35184372088832) = true := decide_eq_true c5
   clear c5
   obtain ⟨y235, hy235⟩ : ∃ y_ : List Int, y_ = (List.replicate 256 0) := ⟨_, rfl⟩
   replace H : (spec_Assemble.l0 k a0 y235 0 0 0 0) = some (r1, r2) := by first | (rw [hy235]; with_reducible exact H) | (have H2_ := (Option.bind_some _ _).symm.trans H; rw [hy235]; with_reducible exact H2_) | (have H2_ := (Option.bind_some _ _).symm.trans H; with_reducible exact H2_) | with_reducible exact H | (rw [hy235]; exact H) | exact H
   have Ny235 := Aside0.mk hy235
   clear hy235
   have H' := Aside0.mk H
   clear H
   go_enter Try.func106, Try.ntmps106
   go_wp2_with (first | ((with_reducible refine gate_dst (N := 18) rfl ?_); (try (refine gate_guard (by rfl) ?_; dsimp only)); refine Kd.R_make (Kd.int .i64) _ 3 rfl (N := 18) rfl 30 _ _ rfl 256 rfl rfl Try.underlying30 (.int .i64 0) 8 info3 rfl (by decide) (by omega) 0 (ok := fun _ => True) (okp := fun _ => True) rfl (fun _ hk => hk) trivial (by omega) (by omega) (Below.refl _ _) (Nat.le_refl _) ?_; intro v236 w6 ho7 hb hg_ hnew_; clear hg_ hnew_; (first | rw [← Ny235.out] at ho7 | (simp only [Int.reduceToNat] at ho7; rw [← Ny235.out] at ho7)); have n0_ := Aside0.mk (Kd.R_lower ho7 (below_size (bw HB.out))); have n1_ := Aside0.mk (below_step (bw HB.out) hb); clear HB; have HO237 := n0_; have HB := n1_; clear n0_ n1_; clear hb ho7))
   go_loopg [5, 6, 7, 8] k (fun kq v5 v6 v7 v8 w' => ∃ (x4_1 : List Int) (x5_1 : Int) (x6_1 : Int) (x7_1 : Int) (x8_1 : Int), v5 = .int .i64 x5_1 ∧ v6 = .int .i64 x6_1 ∧ v7 = .int .i64 x7_1 ∧ v8 = .int .i64 x8_1 ∧ Aside0 (spec_Assemble.l0 kq a0 x4_1 x5_1 x6_1 x7_1 x8_1 = some (r1, r2)) ∧ Aside0 (kq ≤ k) ∧ Aside0 (Kd.R (Kd.int .i64) 3 w' w.heap.size (fun _ => True) v236 x4_1) ∧ Aside0 (Below w.heap.size w w'))
   case atStart => exact ⟨(y235), (0), (0), (0), (0), (by first | rfl | (simp; done) | (simp [*]; done)), (by first | rfl | (simp; done) | (simp [*]; done)), (by first | rfl | (simp; done) | (simp [*]; done)), (by first | rfl | (simp; done) | (simp [*]; done)), H', ⟨Nat.le_refl _⟩, ⟨kr HO237.out⟩, ⟨bw HB.out⟩⟩
   case round =>
    clear H'
    (try clear c1); (try clear c2); (try clear c2b0); (try clear c2b1); (try clear p2); (try clear c5); (try clear c5b0); (try clear c5b1)
    obtain ⟨x4_1, x5_1, x6_1, x7_1, x8_1, rfl, rfl, rfl, rfl, HA, HK1, HO_4, HB⟩ := hrel
    cases gk with
    | zero => exact absurd HA.out (by simp [spec_Assemble.l0])
    | succ k1 =>
     have H := HA.out
     clear HA
     simp only [spec_Assemble.l0] at H
     by_cases c8 : x8_1 ≤ (a0.size : Int)
     ·rw [if_pos c8] at H
      have c8b0 : decide (x8_1 ≤ (a0.size : Int)) = true := decide_eq_true c8
      clear c8
      have HC9 := Aside0.mk H
      clear H
      go_upto_region 8 with (fail)
      go_cut [46] (fun v46 wc => ∃ (kq : Nat) (x46_8 : Bool), v46 = .bool x46_8 ∧ Aside0 (spec_Assemble.j1 kq a0 x4_1 x5_1 x6_1 x7_1 x8_1 x46_8 = some (r1, r2)) ∧ Aside0 (kq ≤ k1) ∧ Aside0 (Kd.R (Kd.int .i64) 3 wc w.heap.size (fun _ => True) v236 x4_1) ∧ Aside0 (Below w.heap.size w wc))
      case first =>
       have H := HC9.out
       clear HC9
       by_cases c10 : x8_1 < (a0.size : Int)
       ·rw [if_pos c10] at H
        have c10b0 : decide (x8_1 < (a0.size : Int)) = true := decide_eq_true c10
        clear c10
        (first | rw [c10b0] | (simp only [i64_w, i32_w]; rw [c10b0]) | skip)
        by_cases c11 : 0 ≤ x8_1
        ·rw [if_pos c11] at H
         have c11b0 : decide (0 ≤ x8_1) = true := decide_eq_true c11
         clear c11
         by_cases c13 : (bt a0 x8_1) = 10
         ·rw [if_pos c13] at H
          have c13b0 : ((bt a0 x8_1) == 10) = true := beq_iff_eq.mpr c13
          have c13b1 : ((bt a0 x8_1) != 10) = false := bne_eq_false_iff_eq.mpr c13
          clear c13
          by_cases c14 : x8_1 = (a0.size : Int)
          ·rw [if_pos c14] at H
           have c14b0 : (x8_1 == (a0.size : Int)) = true := beq_iff_eq.mpr c14
           have c14b1 : (x8_1 != (a0.size : Int)) = false := bne_eq_false_iff_eq.mpr c14
           clear c14
           have H' := Aside0.mk H
           clear H
           have p12 : 0 ≤ (x8_1 : Int) := dt
           have q12 : x8_1 < (a0.size : Int) := dt
           have hx12 := bt_at a0 x8_1
           replace p12 := eq_true p12
           replace q12 := eq_true q12
           go_wp2
           go_meet
           case rel => exact ⟨_, ((x6_1 == (a0.size : Int))), (by first | rfl | (simp; done) | (simp [*]; done)), H', ⟨by have := HK1.out; first | omega | exact Nat.le_refl _⟩, ⟨kr HO_4.out⟩, ⟨bw HB.out⟩⟩
          ·rw [if_neg c14] at H
           have c14b0 : (x8_1 == (a0.size : Int)) = false := beq_eq_false_iff_ne.mpr c14
           have c14b1 : (x8_1 != (a0.size : Int)) = true := bne_iff_ne.mpr c14
           have H' := Aside0.mk H
           clear H
           have p12 : 0 ≤ (x8_1 : Int) := dt
           have q12 : x8_1 < (a0.size : Int) := dt
           have hx12 := bt_at a0 x8_1
           replace p12 := eq_true p12
           replace q12 := eq_true q12
           go_wp2
           go_meet
           case rel => exact ⟨_, (false), (by first | rfl | (simp; done) | (simp [*]; done)), H', ⟨by have := HK1.out; first | omega | exact Nat.le_refl _⟩, ⟨kr HO_4.out⟩, ⟨bw HB.out⟩⟩
         ·rw [if_neg c13] at H
          have c13b0 : ((bt a0 x8_1) == 10) = false := beq_eq_false_iff_ne.mpr c13
          have c13b1 : ((bt a0 x8_1) != 10) = true := bne_iff_ne.mpr c13
          have H' := Aside0.mk H
          clear H
          have p12 : 0 ≤ (x8_1 : Int) := dt
          have q12 : x8_1 < (a0.size : Int) := dt
          have hx12 := bt_at a0 x8_1
          replace p12 := eq_true p12
          replace q12 := eq_true q12
          go_wp2
          go_meet
          case rel => exact ⟨_, (true), (by first | rfl | (simp; done) | (simp [*]; done)), H', ⟨by have := HK1.out; first | omega | exact Nat.le_refl _⟩, ⟨kr HO_4.out⟩, ⟨bw HB.out⟩⟩
        ·rw [if_neg c11] at H
         exact absurd H (by simp)
       ·rw [if_neg c10] at H
        have c10b0 : decide (x8_1 < (a0.size : Int)) = false := decide_eq_false c10
        clear c10
        (first | rw [c10b0] | (simp only [i64_w, i32_w]; rw [c10b0]) | skip)
        by_cases c15 : x8_1 = (a0.size : Int)
        ·rw [if_pos c15] at H
         have c15b0 : (x8_1 == (a0.size : Int)) = true := beq_iff_eq.mpr c15
         have c15b1 : (x8_1 != (a0.size : Int)) = false := bne_eq_false_iff_eq.mpr c15
         clear c15
         have H' := Aside0.mk H
         clear H
         go_wp2
         go_meet
         case rel => exact ⟨_, ((x6_1 == (a0.size : Int))), (by first | rfl | (simp; done) | (simp [*]; done)), H', ⟨by have := HK1.out; first | omega | exact Nat.le_refl _⟩, ⟨kr HO_4.out⟩, ⟨bw HB.out⟩⟩
        ·rw [if_neg c15] at H
         have c15b0 : (x8_1 == (a0.size : Int)) = false := beq_eq_false_iff_ne.mpr c15
         have c15b1 : (x8_1 != (a0.size : Int)) = true := bne_iff_ne.mpr c15
         have H' := Aside0.mk H
         clear H
         go_wp2
         go_meet
         case rel => exact ⟨_, (false), (by first | rfl | (simp; done) | (simp [*]; done)), H', ⟨by have := HK1.out; first | omega | exact Nat.le_refl _⟩, ⟨kr HO_4.out⟩, ⟨bw HB.out⟩⟩
      case rest =>
       clear HC9; (try clear c1); (try clear p1); (try clear q1); (try clear hx1); (try clear c2); (try clear c2b0); (try clear c2b1); (try clear p2); (try clear c5); (try clear c5b0); (try clear c5b1); (try clear c8); (try clear c8b0); (try clear c10); (try clear c10b0); (try clear c11); (try clear c11b0); (try clear p12); (try clear q12); (try clear hx12); (try clear c13); (try clear c13b0); (try clear c13b1); (try clear c14); (try clear c14b0); (try clear c14b1); (try clear c15); (try clear c15b0); (try clear c15b1); (try clear p12); (try clear p2); (try clear q12)
       obtain ⟨kq, x46_8, rfl, HA, HJ8, HO_4, HB⟩ := hcut
       cases kq with
       | zero => exact absurd HA.out (by simp [spec_Assemble.j1])
       | succ kj8 =>
        have H := HA.out
        clear HA
        simp only [spec_Assemble.j1] at H
        by_cases c16 : x46_8 = true
        ·subst c16
         have H1 : (spec_Assemble.l0 kj8 a0 x4_1 x5_1 x6_1 x7_1 (wrap64 (x8_1 + 1))) = some (r1, r2) := by rw [if_pos rfl] at H; exact H
         clear H
         have H := H1
         clear H1
         have H' := Aside0.mk H
         clear H
         go_wp2
         go_roundg kj8
         case measure => have := HK1.out; have := HJ8.out; omega
         case rel => exact ⟨(x4_1), (x5_1), (x6_1), (x7_1), (wrap64 (x8_1 + 1)), (by first | rfl | (simp; done) | (simp [*]; done)), (by first | rfl | (simp; done) | (simp [*]; done)), (by first | rfl | (simp; done) | (simp [*]; done)), (by first | rfl | (simp; done) | (simp [*]; done)), H', ⟨by have := HK1.out; have := HJ8.out; omega⟩, ⟨kr HO_4.out⟩, ⟨bw HB.out⟩⟩
        ·replace c16 := Bool.eq_false_iff.mpr c16
         subst c16
         have H1 : (if 0 ≤ x6_1 then (if x6_1 ≤ x8_1 then (if x8_1 ≤ (a0.size : Int) then (if (a0.extract (x6_1 : Int).toNat (x8_1 : Int).toNat).toList = ([] : List UInt8) then (spec_Assemble.l0 kj8 a0 x4_1 x5_1 (wrap64 (x8_1 + 1)) (wrap64 (x7_1 + 1)) (wrap64 (x8_1 + 1))) else ((spec_l4Bytes.f kj8 (a0.extract (x6_1 : Int).toNat (x8_1 : Int).toNat)).bind fun bt238 => (if bt238.2.2 = true then (if bt238.2.1 ≥ 0 then (spec_Assemble.j2 kj8 a0 x4_1 bt238.2.1 (wrap64 (x8_1 + 1)) (wrap64 (x7_1 + 1)) x8_1 bt238.1) else (spec_Assemble.j2 kj8 a0 x4_1 x5_1 (wrap64 (x8_1 + 1)) (wrap64 (x7_1 + 1)) x8_1 bt238.1)) else (some ((([] : List Int)), wrap64 (x7_1 + 1)))))) else (none)) else (none)) else (none)) = some (r1, r2) := by rw [if_neg (show ¬ (false = true) by decide)] at H; exact H
         clear H
         have H := H1
         clear H1
         by_cases c17 : 0 ≤ x6_1
         ·rw [if_pos c17] at H
          have c17b0 := eq_true c17
          have c17b1 : decide (0 ≤ x6_1) = true := decide_eq_true c17
          clear c17
          by_cases c18 : x6_1 ≤ x8_1
          ·rw [if_pos c18] at H
           have c18b0 := eq_true c18
           have c18b1 : decide (x6_1 ≤ x8_1) = true := decide_eq_true c18
           clear c18
           by_cases c19 : x8_1 ≤ (a0.size : Int)
           ·rw [if_pos c19] at H
            have c19b0 := eq_true c19
            have c19b1 : decide (x8_1 ≤ (a0.size : Int)) = true := decide_eq_true c19
            clear c19
            by_cases c20 : (a0.extract (x6_1 : Int).toNat (x8_1 : Int).toNat).toList = ([] : List UInt8)
            ·rw [if_pos c20] at H
             have c20b0 : ((a0.extract (x6_1 : Int).toNat (x8_1 : Int).toNat).toList == ([] : List UInt8)) = true := beq_iff_eq.mpr c20
             have c20b1 : ((a0.extract (x6_1 : Int).toNat (x8_1 : Int).toNat).toList != ([] : List UInt8)) = false := bne_eq_false_iff_eq.mpr c20
             clear c20
             have H' := Aside0.mk H
             clear H
             go_wp2
             go_roundg kj8
             case measure => have := HK1.out; have := HJ8.out; omega
             case rel => exact ⟨(x4_1), (x5_1), (wrap64 (x8_1 + 1)), (wrap64 (x7_1 + 1)), (wrap64 (x8_1 + 1)), (by first | rfl | (simp; done) | (simp [*]; done)), (by first | rfl | (simp; done) | (simp [*]; done)), (by first | rfl | (simp; done) | (simp [*]; done)), (by first | rfl | (simp; done) | (simp [*]; done)), H', ⟨by have := HK1.out; have := HJ8.out; omega⟩, ⟨kr HO_4.out⟩, ⟨bw HB.out⟩⟩
            ·rw [if_neg c20] at H
             have c20b0 : ((a0.extract (x6_1 : Int).toNat (x8_1 : Int).toNat).toList == ([] : List UInt8)) = false := beq_eq_false_iff_ne.mpr c20
             have c20b1 : ((a0.extract (x6_1 : Int).toNat (x8_1 : Int).toNat).toList != ([] : List UInt8)) = true := bne_iff_ne.mpr c20
             replace H := Option.bind_eq_some_iff.mp H
             obtain ⟨⟨t238, t239, t240⟩, A210, H⟩ := H
             replace H : (if t240 = true then (if t239 ≥ 0 then (spec_Assemble.j2 kj8 a0 x4_1 t239 (wrap64 (x8_1 + 1)) (wrap64 (x7_1 + 1)) x8_1 t238) else (spec_Assemble.j2 kj8 a0 x4_1 x5_1 (wrap64 (x8_1 + 1)) (wrap64 (x7_1 + 1)) x8_1 t238)) else (some ((([] : List Int)), wrap64 (x7_1 + 1)))) = some (r1, r2) := H
             have A21 := Aside0.mk A210
             clear A210
             by_cases c22 : t240 = true
             ·subst c22
              have H1 : (if t239 ≥ 0 then (spec_Assemble.j2 kj8 a0 x4_1 t239 (wrap64 (x8_1 + 1)) (wrap64 (x7_1 + 1)) x8_1 t238) else (spec_Assemble.j2 kj8 a0 x4_1 x5_1 (wrap64 (x8_1 + 1)) (wrap64 (x7_1 + 1)) x8_1 t238)) = some (r1, r2) := by rw [if_pos rfl] at H; exact H
              clear H
              have H := H1
              clear H1
              have HC23 := Aside0.mk H
              clear H
              go_upto_if 68 with (first | ((with_reducible refine gate_callee (f := 118) rfl ?_); refine goesM_ (some 59) rfl rfl Try.func118 #[.string (a0.extract (x6_1 : Int).toNat (x8_1 : Int).toNat)] ?_; (with_reducible refine (spec_l4Bytes.calls kj8 (a0.extract (x6_1 : Int).toNat (x8_1 : Int).toNat) t238 t239 true _ A21.out).mono ?_); rintro e w24 ⟨v241, rfl, ho0, hb⟩; refine ⟨_, rfl, ?_⟩; have n0_ := Aside0.mk (Kd.R_elder' (kr HO_4.out) (Kd.R_base ho0) hb); have n1_ := Aside0.mk (Kd.R_lower (Kd.R_new' ho0 (Kd.R_lt (kr HO_4.out))) (below_size (bw HB.out))); have n2_ := Aside0.mk (below_step (bw HB.out) hb); clear HO_4; clear HB; have HO_4 := n0_; have HO242 := n1_; have HB := n2_; clear n0_ n1_ n2_; (try clear hb); (try clear hb2); (try clear hk); (try clear hi); (try clear ho0)))
              (try simp only [Act.put, List.setIfInBounds_toArray, List.set_cons_zero, List.set_cons_succ])
              go_cut [5] (fun v5 wc => ∃ (kq : Nat) (x5_22 : Int), v5 = .int .i64 x5_22 ∧ Aside0 (spec_Assemble.j2 kq a0 x4_1 x5_22 (wrap64 (x8_1 + 1)) (wrap64 (x7_1 + 1)) x8_1 t238 = some (r1, r2)) ∧ Aside0 (kq ≤ kj8) ∧ Aside0 (Kd.R (Kd.int .i64) 3 wc w.heap.size (fun k_ => some k_ ≠ (v241 : Value).ownBlock) v236 x4_1) ∧ Aside0 (Kd.R (Kd.int .i64) 3 wc w.heap.size (fun k_ => some k_ ≠ (v236 : Value).ownBlock) v241 t238) ∧ Aside0 (Below w.heap.size w wc))
              case first =>
               have H := HC23.out
               clear HC23
               by_cases c25 : t239 ≥ 0
               ·rw [if_pos c25] at H
                have c25b0 : decide (0 ≤ t239) = true := decide_eq_true c25
                clear c25
                (first | rw [c25b0] | (simp only [i64_w, i32_w]; rw [c25b0]) | skip)
                have H' := Aside0.mk H
                clear H
                go_wp2
                go_meet
                case rel => exact ⟨_, (t239), (by first | rfl | (simp; done) | (simp [*]; done)), H', ⟨by have := HK1.out; have := HJ8.out; first | omega | exact Nat.le_refl _⟩, ⟨kr (Kd.R_mono HO_4.out (fun _ hk => hk.2))⟩, ⟨kr (Kd.R_mono HO242.out (fun _ hk => hk.2))⟩, ⟨bw HB.out⟩⟩
               ·rw [if_neg c25] at H
                have c25b0 : decide (0 ≤ t239) = false := decide_eq_false c25
                clear c25
                (first | rw [c25b0] | (simp only [i64_w, i32_w]; rw [c25b0]) | skip)
                have H' := Aside0.mk H
                clear H
                go_wp2
                go_meet
                case rel => exact ⟨_, (x5_1), (by first | rfl | (simp; done) | (simp [*]; done)), H', ⟨by have := HK1.out; have := HJ8.out; first | omega | exact Nat.le_refl _⟩, ⟨kr (Kd.R_mono HO_4.out (fun _ hk => hk.2))⟩, ⟨kr (Kd.R_mono HO242.out (fun _ hk => hk.2))⟩, ⟨bw HB.out⟩⟩
              case rest =>
               clear HC23; (try clear c1); (try clear p1); (try clear q1); (try clear hx1); (try clear c2); (try clear c2b0); (try clear c2b1); (try clear p2); (try clear c5); (try clear c5b0); (try clear c5b1); (try clear p6); (try clear c8); (try clear c8b0); (try clear c10); (try clear c10b0); (try clear c11); (try clear c11b0); (try clear p12); (try clear q12); (try clear hx12); (try clear c13); (try clear c13b0); (try clear c13b1); (try clear c14); (try clear c14b0); (try clear c14b1); (try clear c15); (try clear c15b0); (try clear c15b1); (try clear c16); (try clear c17); (try clear c17b0); (try clear c17b1); (try clear c18); (try clear c18b0); (try clear c18b1); (try clear c19); (try clear c19b0); (try clear c19b1); (try clear c20); (try clear c20b0); (try clear c20b1); (try clear c22); (try clear c25); (try clear c25b0); (try clear p1); (try clear p12); (try clear p2); (try clear q1); (try clear q12)
               obtain ⟨kq, x5_22, rfl, HA, HJ22, HO_4, HO_10, HB⟩ := hcut
               cases kq with
               | zero => exact absurd HA.out (by simp [spec_Assemble.j2])
               | succ kj22 =>
                have H := HA.out
                clear HA
                simp only [spec_Assemble.j2] at H
                have H' := Aside0.mk H
                clear H
                go_wp2
                go_loopg [5, 13] kj22 (fun kq v5 v13 w' => ∃ (x4_4 : List Int) (x5_4 : Int) (x13_4 : Int), v5 = .int .i64 x5_4 ∧ v13 = .int .i64 x13_4 ∧ Aside0 (spec_Assemble.l1 kq a0 x4_4 x5_4 (wrap64 (x8_1 + 1)) (wrap64 (x7_1 + 1)) x8_1 t238 x13_4 = some (r1, r2)) ∧ Aside0 (kq ≤ kj22) ∧ Aside0 (Kd.R (Kd.int .i64) 3 w' w.heap.size (fun k_ => some k_ ≠ (v241 : Value).ownBlock) v236 x4_4) ∧ Aside0 (Kd.R (Kd.int .i64) 3 w' w.heap.size (fun k_ => some k_ ≠ (v236 : Value).ownBlock) v241 t238) ∧ Aside0 (Below w.heap.size w w'))
                case atStart => exact ⟨(x4_1), (x5_22), (0), (by first | rfl | (simp; done) | (simp [*]; done)), (by first | rfl | (simp; done) | (simp [*]; done)), H', ⟨Nat.le_refl _⟩, ⟨kr HO_4.out⟩, ⟨kr HO_10.out⟩, ⟨bw HB.out⟩⟩
                case round =>
                 clear H'
                 (try clear c1); (try clear p1); (try clear q1); (try clear hx1); (try clear c2); (try clear c2b0); (try clear c2b1); (try clear p2); (try clear c5); (try clear c5b0); (try clear c5b1); (try clear p6); (try clear c8); (try clear c8b0); (try clear c10); (try clear c10b0); (try clear c11); (try clear c11b0); (try clear p12); (try clear q12); (try clear hx12); (try clear c13); (try clear c13b0); (try clear c13b1); (try clear c14); (try clear c14b0); (try clear c14b1); (try clear c15); (try clear c15b0); (try clear c15b1); (try clear c16); (try clear c17); (try clear c17b0); (try clear c17b1); (try clear c18); (try clear c18b0); (try clear c18b1); (try clear c19); (try clear c19b0); (try clear c19b1); (try clear c20); (try clear c20b0); (try clear c20b1); (try clear c22); (try clear c25); (try clear c25b0); (try clear p1); (try clear p12); (try clear p2); (try clear p6); (try clear q1); (try clear q12)
                 obtain ⟨x4_4, x5_4, x13_4, rfl, rfl, HA, HK4, HO_4, HO_10, HB⟩ := hrel
                 cases gk with
                 | zero => exact absurd HA.out (by simp [spec_Assemble.l1])
                 | succ k4 =>
                  have H := HA.out
                  clear HA
                  simp only [spec_Assemble.l1] at H
                  by_cases c26 : x13_4 < (t238.length : Int)
                  ·rw [if_pos c26] at H
                   have c26b0 : decide (x13_4 < (t238.length : Int)) = true := decide_eq_true c26
                   clear c26
                   replace H := Option.bind_eq_some_iff.mp H
                   obtain ⟨t246, A270, H⟩ := H
                   replace H : (if 0 ≤ x13_4 then (if 0 ≤ t246 then (if t246 < (x4_4.length : Int) then (spec_Assemble.l1 k4 a0 (x4_4.set (t246 : Int).toNat (rd t238 x13_4)) (wrap64 (x5_4 + 1)) (wrap64 (x8_1 + 1)) (wrap64 (x7_1 + 1)) x8_1 t238 (wrap64 (x13_4 + 1))) else (none)) else (none)) else (none)) = some (r1, r2) := H
                   have A27 := Aside0.mk A270
                   clear A270
                   by_cases c28 : 0 ≤ x13_4
                   ·rw [if_pos c28] at H
                    have c28b0 : decide (0 ≤ x13_4) = true := decide_eq_true c28
                    clear c28
                    by_cases c29 : 0 ≤ t246
                    ·rw [if_pos c29] at H
                     have c29b0 : decide (0 ≤ t246) = true := decide_eq_true c29
                     clear c29
                     by_cases c30 : t246 < (x4_4.length : Int)
                     ·rw [if_pos c30] at H
                      have c30b0 : decide (t246 < (x4_4.length : Int)) = true := decide_eq_true c30
                      clear c30
                      obtain ⟨y248, hy248⟩ : ∃ y_ : List Int, y_ = (x4_4.set (t246 : Int).toNat (rd t238 x13_4)) := ⟨_, rfl⟩
                      replace H : (spec_Assemble.l1 k4 a0 y248 (wrap64 (x5_4 + 1)) (wrap64 (x8_1 + 1)) (wrap64 (x7_1 + 1)) x8_1 t238 (wrap64 (x13_4 + 1))) = some (r1, r2) := by first | (rw [hy248]; with_reducible exact H) | (have H2_ := (Option.bind_some _ _).symm.trans H; rw [hy248]; with_reducible exact H2_) | (have H2_ := (Option.bind_some _ _).symm.trans H; with_reducible exact H2_) | with_reducible exact H | (rw [hy248]; exact H) | exact H
                      have Ny248 := Aside0.mk hy248
                      clear hy248
                      have H' := Aside0.mk H
                      clear H
                      obtain ⟨Ao32, co32, eo32⟩ := Kd.R_slice HO_10.out
                      subst eo32
                      try go_wp2
                      have n0_ := Aside0.mk (Kd.R_drew HO_4.out)
                      have n1_ := Aside0.mk (Kd.R_drew HO_10.out)
                      have n2_ := Aside0.mk (below_drew1 HB.out)
                      clear HO_4; clear HO_10; clear HB; have HO_4 := n0_; have HO_10 := n1_; have HB := n2_; clear n0_ n1_ n2_
                      have p247 : 0 ≤ (x13_4 : Int) := dt
                      have q247 : x13_4 < (t238.length : Int) := dt
                      obtain ⟨ad247, e247, hx247_0⟩ := Kd.at_int (Kd.R_reads' HO_10.out).2.2 x13_4 p247 q247
                      cases e247
                      replace p247 := eq_true p247
                      replace q247 := eq_true q247
                      refine start_ (n := 9) (S := fun w' => w'.cell? (ad247.add (x13_4).toNat) = some (.int .i64 (rd t238 x13_4))) (ds := [8]) (bm 9 0) (by kernel_rfl) rfl (by kernel_rfl) (hx247_0) (fun hHeld => ?_); refine with_tabW spec_Assemble.tab21 spec_Assemble.bits21 (fun HT_ HW_ => ?_)
                      generalize wr.drew = w33 at HO_4 HO_10 HB hx247_0 hHeld ⊢
                      refine pw_ 0 (some 76) (bm 9 1) HT_ ?_
                      refine pw_ 1 (some 77) (bm 9 3) HT_ ?_
                      refine pw_ 3 (some 79) (bm 9 11) HT_ ?_
                      refine pw_ 4 (some 80) (bm 9 27) HT_ ?_
                      refine pw_ 5 (some 81) (bm 9 59) HT_ ?_
                      refine tw_ 6 (some 82) (bm 9 123) HT_ HW_ hHeld ?_
                      refine ow_ 2 (some 78) (bm 9 127) HT_ (fun K hK => ?_)
                      refine gw_ Try.func71 #[.int .i64 x5_4] ?_
                      with_reducible refine (spec_Byte.calls x5_4 t246 _ A27.out).mono ?_
                      rintro e w' ⟨rfl, ⟨nd, rfl⟩⟩
                      refine ⟨_, rfl, ?_⟩
                      have p31 : 0 ≤ (t246 : Int) := dt
                      have q31 : (t246 : Int) < ((x4_4.length : Int) : Int) := dt
                      obtain ⟨go31, co31, eo31, gb31, gl31, cl31, HG31⟩ := Kd.R_form HO_4.out (by omega)
                      (first | cases eo31 | (injection eo31 with ea_ en_ ec_; (first | subst ea_ | (injection ea_ with ea_; subst ea_)); subst ec_; clear en_))
                      have GB31 := Aside0.mk gb31
                      have GG31 := Aside0.mk HG31
                      clear gb31 gl31 HG31
                      obtain ⟨hx31_0, hf31_0⟩ := Kd.R_celln 0 HO_4.out (t246 : Int) p31 q31
                      replace p31 := eq_true p31
                      replace q31 := eq_true q31
                      have HP34 := Kd.R_putn HO_4.out (t246 : Int) (rd t238 x13_4)
                      rw [← Ny248.out] at HP34
                      have HQ34 := Aside0.mk HP34
                      clear HP34
                      refine hK.out _ _ (hHeld) (fun hHeld => ?_)
                      clear hK K
                      refine nw_ ?_
                      refine pw_ 7 (some 83) (bm 9 255) HT_ ?_
                      refine last_ (i := 8) (N := none) #[true, true, true, true, true, true, true, true, true] rfl rfl (one_of HT_.out (by kernel_rfl)) (by decide) (fun K hK => ?_)
                      refine skip_ (w1 := ?_) (by rfl) rfl ?_ ?_
                      rotate_left
                      ·go_simp
                       rfl
                      refine hK.out _ _ ?_
                      clear hK K
                      refine done_ (done_of HT_.out (by kernel_rfl)) ?_
                      try go_wp2
                      go_roundg k4
                      case measure => have := HK1.out; have := HJ8.out; have := HJ22.out; have := HK4.out; omega
                      case rel => exact ⟨(y248), (wrap64 (x5_4 + 1)), (wrap64 (x13_4 + 1)), (by first | rfl | (simp; done) | (simp [*]; done)), (by first | rfl | (simp; done) | (simp [*]; done)), H', ⟨by have := HK1.out; have := HJ8.out; have := HJ22.out; have := HK4.out; omega⟩, ⟨kr HQ34.out⟩, ⟨by (with_reducible repeat (first | apply Kd.R_alloc | apply Kd.R_drewN | apply Kd.R_drew)); exact Kd.R_mono (Kd.R_far (p := ⟨go31, (t246 : Int).toNat, none⟩) (Kd.R_mono HO_10.out (fun k_ hk => (⟨hk, fun e_ => hk (by rw [e_]; rfl)⟩ : _ ∧ k_ ≠ go31))) (fun _ hk => hk.2) (.int .i64 (rd t238 x13_4))) (fun _ hk => hk.1)⟩, ⟨by repeat (first | (with_reducible first | exact HB.out | apply below_alloc | apply pw_below_drewN | apply below_drew1 | refine below_set ?_ GB31.out) | exact HB.out)⟩⟩
                     ·rw [if_neg c30] at H
                      exact absurd H (by simp)
                    ·rw [if_neg c29] at H
                     exact absurd H (by simp)
                   ·rw [if_neg c28] at H
                    exact absurd H (by simp)
                  ·rw [if_neg c26] at H
                   have c26b0 : decide (x13_4 < (t238.length : Int)) = false := decide_eq_false c26
                   clear c26
                   have H' := Aside0.mk H
                   clear H
                   obtain ⟨Ao35, co35, eo35⟩ := Kd.R_slice HO_10.out
                   subst eo35
                   go_wp2
                   go_roundg k4
                   case measure => have := HK1.out; have := HJ8.out; have := HJ22.out; have := HK4.out; omega
                   case rel => exact ⟨(x4_4), (x5_4), ((wrap64 (x8_1 + 1))), ((wrap64 (x7_1 + 1))), (wrap64 (x8_1 + 1)), (by first | rfl | (simp; done) | (simp [*]; done)), (by first | rfl | (simp; done) | (simp [*]; done)), (by first | rfl | (simp; done) | (simp [*]; done)), (by first | rfl | (simp; done) | (simp [*]; done)), H', ⟨by have := HK1.out; have := HJ8.out; have := HJ22.out; have := HK4.out; omega⟩, ⟨kr (Kd.R_mono HO_4.out (fun _ hk => trivial))⟩, ⟨bw HB.out⟩⟩
             ·replace c22 := Bool.eq_false_iff.mpr c22
              subst c22
              have H1 : (some ((([] : List Int)), wrap64 (x7_1 + 1))) = some (r1, r2) := by rw [if_neg (show ¬ (false = true) by decide)] at H; exact H
              clear H
              have H := H1
              clear H1
              obtain ⟨y243, hy243⟩ : ∃ y_ : List Int, y_ = (([] : List Int)) := ⟨_, rfl⟩
              replace H : (some (y243, wrap64 (x7_1 + 1))) = some (r1, r2) := by first | (rw [hy243]; with_reducible exact H) | (have H2_ := (Option.bind_some _ _).symm.trans H; rw [hy243]; with_reducible exact H2_) | (have H2_ := (Option.bind_some _ _).symm.trans H; with_reducible exact H2_) | with_reducible exact H | (rw [hy243]; exact H) | exact H
              have Ny243 := Aside0.mk hy243
              clear hy243
              simp only [Option.some.injEq, Prod.mk.injEq] at H
              obtain ⟨rfl, rfl⟩ := H
              go_wp2_with (first | ((with_reducible refine gate_callee (f := 118) rfl ?_); refine goesM_ (some 59) rfl rfl Try.func118 #[.string (a0.extract (x6_1 : Int).toNat (x8_1 : Int).toNat)] ?_; (with_reducible refine (spec_l4Bytes.calls kj8 (a0.extract (x6_1 : Int).toNat (x8_1 : Int).toNat) t238 t239 false _ A21.out).mono ?_); rintro e w36 ⟨v241, rfl, ho0, hb⟩; refine ⟨_, rfl, ?_⟩; have n0_ := Aside0.mk (Kd.R_elder' (kr HO_4.out) (Kd.R_base ho0) hb); have n1_ := Aside0.mk (Kd.R_lower (Kd.R_new' ho0 (Kd.R_lt (kr HO_4.out))) (below_size (bw HB.out))); have n2_ := Aside0.mk (below_step (bw HB.out) hb); clear HO_4; clear HB; have HO_4 := n0_; have HO242 := n1_; have HB := n2_; clear n0_ n1_ n2_; (try clear hb); (try clear hb2); (try clear hk); (try clear hi); (try clear ho0)) | ((with_reducible refine gate_dst (N := 65) rfl ?_); (try (refine gate_guard (by rfl) ?_; dsimp only)); refine Kd.R_lit (Kd.int .i64) _ 3 ?hg (N := 65) ?hd (xs := ([] : List Int)) (inner := []) (ok := fun _ => True) (okp := fun _ => True) ?hr ?hp (fun _ hk => hk) trivial (Below.refl _ _) (Nat.le_refl _) (by simp) ?_; (case hd => rfl); (case hg => rfl); (case hr => first | (go_simp; done) | (go_simp; rfl)); (case hp => exact (Reps.none _ _)); intro v244 w37 ho38 hb hg_ hnew_; clear hg_ hnew_; (first | rw [← Ny243.out] at ho38 | (simp only [Int.reduceToNat] at ho38; rw [← Ny243.out] at ho38)); have n0_ := Aside0.mk (Kd.R_elder' (kr HO_4.out) (Kd.R_base ho38) hb); have n1_ := Aside0.mk (Kd.R_elder' (kr HO242.out) (Kd.R_base ho38) hb); have n2_ := Aside0.mk (Kd.R_lower (Kd.R_new' (Kd.R_new' ho38 (Kd.R_lt (kr HO_4.out))) (Kd.R_lt (kr HO242.out))) (below_size (bw HB.out))); have n3_ := Aside0.mk (below_step (bw HB.out) hb); clear HO_4; clear HO242; clear HB; have HO_4 := n0_; have HO242 := n1_; have HO245 := n2_; have HB := n3_; clear n0_ n1_ n2_ n3_; clear hb ho38))
              go_ret2
              exact ⟨_, rt, kr (Kd.R_mono HO245.out (fun _ hk => trivial)), bw HB.out⟩
           ·rw [if_neg c19] at H
            exact absurd H (by simp)
          ·rw [if_neg c18] at H
           exact absurd H (by simp)
         ·rw [if_neg c17] at H
          exact absurd H (by simp)
     ·rw [if_neg c8] at H
      have c8b0 : decide (x8_1 ≤ (a0.size : Int)) = false := decide_eq_false c8
      clear c8
      simp only [Option.some.injEq, Prod.mk.injEq] at H
      obtain ⟨rfl, rfl⟩ := H
      go_wp2
      go_ret2
      exact ⟨_, rt, kr HO_4.out, bw HB.out⟩
  ·rw [if_neg c5] at H
   exact absurd H (by simp)

/-! ### spec_l1Pick: function 119 -/
def spec_l1Pick.f (s0_0 : List Int) (s0_1 : Int) (s0_2 : Int) (l1 : List ByteArray) : Option (ByteArray × Int × Int) := (spec_l1Below.f s0_0 s0_1 s0_2 (l1.length : Int)).bind fun bt249 => (if 0 ≤ bt249.1 then (if bt249.1 < (l1.length : Int) then (some (rdOf ByteArray.empty l1 bt249.1, bt249.2.1, bt249.2.2)) else (none)) else (none))
set_option maxHeartbeats 8000000 in
set_option maxRecDepth 100000 in
theorem spec_l1Pick.calls (g : Nat) (s0_0 : List Int) (s0_1 : Int) (s0_2 : Int) (A1 : Option Addr) (c1 : Nat) (l1 : List ByteArray) (r1 : ByteArray) (r2 : Int) (r3 : Int) (w0 w : World) (hI : IsS107 w0 w g s0_0 s0_1 s0_2) (hB : Below w0.heap.size w0 w) (hr1 : Kd.C Kd.string w A1 l1.length l1) (hc1 : l1.length ≤ c1) (hf1 : ∀ ad, A1 = some ad → 0 < l1.length → ad.block ≠ g) (h : spec_l1Pick.f s0_0 s0_1 s0_2 l1 = some (r1, r2, r3)) :
  Calls Try.prog 119 #[.pointer (some ⟨g, 0, none⟩), .slice A1 l1.length c1] w fun e w' => e = .returned (.string r1) ∧ IsS107 w0 w' g s0_0 r2 r3 ∧ Below w0.heap.size w0 w' ∧ KeepBut w w' g none := by
 have HR1 := Aside0.mk hr1
 have HC1 := Aside0.mk hc1
 clear hr1 hc1
 have HI0 := Aside0.mk hI
 have HK := Aside0.mk (KeepBut.refl w g none)
 have HL := Aside0.mk hB.size
 clear hI
 have HW0 := Aside0.mk hB.size
 have HB := Aside0.mk hB
 clear hB
 have H : ((spec_l1Below.f s0_0 s0_1 s0_2 (l1.length : Int)).bind fun bt249 => (if 0 ≤ bt249.1 then (if bt249.1 < (l1.length : Int) then (some (rdOf ByteArray.empty l1 bt249.1, bt249.2.1, bt249.2.2)) else (none)) else (none))) = some (r1, r2, r3) := h
 clear h
 replace H := Option.bind_eq_some_iff.mp H
 obtain ⟨⟨t249, t250, t251⟩, A30, H⟩ := H
 replace H : (if 0 ≤ t249 then (if t249 < (l1.length : Int) then (some (rdOf ByteArray.empty l1 t249, t250, t251)) else (none)) else (none)) = some (r1, r2, r3) := H
 have A3 := Aside0.mk A30
 clear A30
 by_cases c4 : 0 ≤ t249
 ·rw [if_pos c4] at H
  have c4b0 : decide (0 ≤ t249) = true := decide_eq_true c4
  clear c4
  by_cases c5 : t249 < (l1.length : Int)
  ·rw [if_pos c5] at H
   have c5b0 : decide (t249 < (l1.length : Int)) = true := decide_eq_true c5
   clear c5
   simp only [Option.some.injEq, Prod.mk.injEq] at H
   obtain ⟨rfl, rfl, rfl⟩ := H
   go_enter Try.func119, Try.ntmps119
   go_wp2_with (first | ((with_reducible refine gate_callee (f := 60) rfl ?_); refine goesM_ (some 9) rfl rfl Try.func60 #[.pointer (some ⟨g, 0, none⟩), .int .i64 (l1.length : Int)] ?_; (with_reducible refine (spec_l1Below.calls g s0_0 s0_1 s0_2 (l1.length : Int) t249 t250 t251 w0 _ ?side1 ?side2 A3.out).mono ?_); (case side1 => exact si HI0.out); (case side2 => exact bi HB.out); rintro e w6 ⟨rfl, hi, hb, hk⟩; refine ⟨_, rfl, ?_⟩; have n0_ := Aside0.mk (KeepBut.trans (kp HK.out) hk (.inl rfl)); have n1_ := Aside0.mk (hb); have n2_ := Aside0.mk (hi); clear HK; clear HB; clear HI0; have HK := n0_; have HB := n1_; have HI0 := n2_; clear n0_ n1_ n2_; (try clear hb); (try clear hb2); (try clear hk); (try clear hi); have p252 : 0 ≤ (t249 : Int) := dt; have q252 : t249 < (l1.length : Int) := dt; obtain ⟨ad252, e252, hx252_0⟩ := Kd.at_string HR1.out t249 p252 q252; cases e252; replace hx252_0 := keep_cell HK.out hx252_0 (by first | (rw [add_block]; exact hf1 _ rfl (by omega)) | exact hf1 _ rfl (by omega) | exact hf1 ad252 rfl (by omega)); replace p252 := eq_true p252; replace q252 := eq_true q252))
   go_ret
   exact ⟨rt, si HI0.out, bi HB.out, kp HK.out⟩
  ·rw [if_neg c5] at H
   exact absurd H (by simp)
 ·rw [if_neg c4] at H
  exact absurd H (by simp)

/-! ### spec_l2Main: function 107 -/
def spec_l2Main.f (s0_0 : List Int) (s0_1 : Int) (s0_2 : Int) : Option (ByteArray × Int × Int) := (spec_l1Pick.f s0_0 s0_1 s0_2 (([(⟨#[108, 100, 105, 32, 53, 10, 115, 116, 97, 32, 56, 49, 57, 51, 10, 108, 100, 105, 32, 49, 50, 56, 10, 115, 116, 97, 32, 56, 49, 57, 50, 10, 108, 100, 97, 32, 56, 49, 57, 52, 10, 115, 116, 97, 32, 49, 54, 10, 106, 109, 112, 32, 52, 57, 49, 54, 50, 10]⟩ : ByteArray), (⟨#[108, 100, 105, 32, 51, 10, 115, 116, 97, 32, 49, 54, 51, 56, 52, 10, 108, 100, 105, 32, 50, 10, 115, 116, 97, 32, 49, 54, 51, 56, 53, 10, 108, 100, 105, 32, 49, 10, 115, 116, 97, 32, 49, 54, 51, 56, 54, 10, 99, 108, 105, 10, 108, 100, 97, 32, 49, 54, 51, 56, 54, 10, 106, 109, 112, 32, 52, 57, 49, 54, 56, 10]⟩ : ByteArray), (⟨#[108, 100, 105, 32, 50, 10, 115, 116, 97, 32, 56, 49, 57, 53, 10, 105, 110, 120, 10, 116, 120, 97, 10, 115, 116, 97, 32, 56, 49, 57, 54, 10, 115, 116, 97, 32, 56, 49, 57, 55, 10, 108, 100, 97, 32, 56, 49, 57, 54, 10, 115, 116, 97, 32, 48, 10, 106, 109, 112, 32, 52, 57, 49, 53, 55, 10]⟩ : ByteArray), (⟨#[108, 100, 105, 32, 49, 10, 115, 116, 97, 32, 49, 54, 52, 48, 54, 10, 108, 100, 105, 32, 48, 10, 115, 116, 97, 32, 49, 54, 52, 48, 54, 10, 108, 100, 97, 32, 49, 54, 52, 48, 54, 10, 112, 104, 97, 10, 108, 100, 97, 32, 49, 54, 52, 48, 54, 10, 112, 108, 97, 10, 106, 109, 112, 32, 52, 57, 49, 54, 50, 10]⟩ : ByteArray), (⟨#[105, 110, 120, 10, 116, 120, 97, 10, 115, 116, 97, 32, 51, 50, 55, 54, 56, 10, 108, 100, 97, 32, 51, 50, 55, 55, 48, 10, 115, 116, 97, 32, 56, 49, 57, 51, 10, 106, 109, 112, 32, 52, 57, 49, 53, 50, 10]⟩ : ByteArray), (⟨#[108, 100, 105, 32, 49, 50, 56, 10, 115, 116, 97, 32, 56, 49, 57, 50, 10, 108, 100, 105, 32, 55, 10, 115, 116, 97, 32, 49, 54, 51, 56, 53, 10, 108, 100, 105, 32, 49, 10, 115, 116, 97, 32, 49, 54, 51, 56, 54, 10, 99, 108, 105, 10, 106, 115, 114, 32, 52, 57, 51, 48, 48, 10, 106, 109, 112, 32, 52, 57, 49, 54, 56, 10]⟩ : ByteArray), (⟨#[108, 100, 105, 32, 57, 10, 115, 101, 99, 10, 115, 98, 105, 32, 49, 10, 98, 110, 101, 32, 52, 57, 49, 53, 52, 10, 115, 116, 97, 32, 56, 49, 57, 51, 10, 106, 109, 112, 32, 52, 57, 49, 53, 50, 10]⟩ : ByteArray)] : List ByteArray))).bind fun bt256 => (if bt256.1.size + 125 ≤ 9223372036854775807 then (some (bt256.1 ++ (⟨#[97, 116, 32, 49, 52, 56, 10, 105, 110, 120, 10, 116, 120, 97, 10, 115, 116, 97, 32, 56, 49, 57, 55, 10, 114, 116, 115, 10, 97, 116, 32, 49, 50, 56, 10, 112, 104, 97, 10, 108, 100, 97, 32, 56, 49, 57, 52, 10, 97, 100, 105, 32, 49, 10, 115, 116, 97, 32, 56, 49, 57, 51, 10, 112, 108, 97, 10, 114, 116, 105, 10, 97, 116, 32, 49, 54, 48, 10, 115, 116, 97, 32, 49, 54, 51, 56, 55, 10, 108, 100, 97, 32, 49, 54, 51, 56, 54, 10, 115, 116, 97, 32, 49, 55, 10, 108, 100, 105, 32, 50, 10, 115, 116, 97, 32, 49, 54, 51, 56, 53, 10, 114, 116, 105, 10]⟩ : ByteArray), bt256.2.1, bt256.2.2)) else (none))
set_option maxHeartbeats 8000000 in
set_option maxRecDepth 100000 in
theorem spec_l2Main.calls (g : Nat) (s0_0 : List Int) (s0_1 : Int) (s0_2 : Int) (r1 : ByteArray) (r2 : Int) (r3 : Int) (w0 w : World) (hI : IsS107 w0 w g s0_0 s0_1 s0_2) (hB : Below w0.heap.size w0 w) (h : spec_l2Main.f s0_0 s0_1 s0_2 = some (r1, r2, r3)) :
  Calls Try.prog 107 #[.pointer (some ⟨g, 0, none⟩)] w fun e w' => e = .returned (.string r1) ∧ IsS107 w0 w' g s0_0 r2 r3 ∧ Below w0.heap.size w0 w' ∧ KeepBut w w' g none := by
 have HI0 := Aside0.mk hI
 have HK := Aside0.mk (KeepBut.refl w g none)
 have HL := Aside0.mk hB.size
 clear hI
 have HW0 := Aside0.mk hB.size
 have HB := Aside0.mk hB
 clear hB
 have H : ((spec_l1Pick.f s0_0 s0_1 s0_2 (([(⟨#[108, 100, 105, 32, 53, 10, 115, 116, 97, 32, 56, 49, 57, 51, 10, 108, 100, 105, 32, 49, 50, 56, 10, 115, 116, 97, 32, 56, 49, 57, 50, 10, 108, 100, 97, 32, 56, 49, 57, 52, 10, 115, 116, 97, 32, 49, 54, 10, 106, 109, 112, 32, 52, 57, 49, 54, 50, 10]⟩ : ByteArray), (⟨#[108, 100, 105, 32, 51, 10, 115, 116, 97, 32, 49, 54, 51, 56, 52, 10, 108, 100, 105, 32, 50, 10, 115, 116, 97, 32, 49, 54, 51, 56, 53, 10, 108, 100, 105, 32, 49, 10, 115, 116, 97, 32, 49, 54, 51, 56, 54, 10, 99, 108, 105, 10, 108, 100, 97, 32, 49, 54, 51, 56, 54, 10, 106, 109, 112, 32, 52, 57, 49, 54, 56, 10]⟩ : ByteArray), (⟨#[108, 100, 105, 32, 50, 10, 115, 116, 97, 32, 56, 49, 57, 53, 10, 105, 110, 120, 10, 116, 120, 97, 10, 115, 116, 97, 32, 56, 49, 57, 54, 10, 115, 116, 97, 32, 56, 49, 57, 55, 10, 108, 100, 97, 32, 56, 49, 57, 54, 10, 115, 116, 97, 32, 48, 10, 106, 109, 112, 32, 52, 57, 49, 53, 55, 10]⟩ : ByteArray), (⟨#[108, 100, 105, 32, 49, 10, 115, 116, 97, 32, 49, 54, 52, 48, 54, 10, 108, 100, 105, 32, 48, 10, 115, 116, 97, 32, 49, 54, 52, 48, 54, 10, 108, 100, 97, 32, 49, 54, 52, 48, 54, 10, 112, 104, 97, 10, 108, 100, 97, 32, 49, 54, 52, 48, 54, 10, 112, 108, 97, 10, 106, 109, 112, 32, 52, 57, 49, 54, 50, 10]⟩ : ByteArray), (⟨#[105, 110, 120, 10, 116, 120, 97, 10, 115, 116, 97, 32, 51, 50, 55, 54, 56, 10, 108, 100, 97, 32, 51, 50, 55, 55, 48, 10, 115, 116, 97, 32, 56, 49, 57, 51, 10, 106, 109, 112, 32, 52, 57, 49, 53, 50, 10]⟩ : ByteArray), (⟨#[108, 100, 105, 32, 49, 50, 56, 10, 115, 116, 97, 32, 56, 49, 57, 50, 10, 108, 100, 105, 32, 55, 10, 115, 116, 97, 32, 49, 54, 51, 56, 53, 10, 108, 100, 105, 32, 49, 10, 115, 116, 97, 32, 49, 54, 51, 56, 54, 10, 99, 108, 105, 10, 106, 115, 114, 32, 52, 57, 51, 48, 48, 10, 106, 109, 112, 32, 52, 57, 49, 54, 56, 10]⟩ : ByteArray), (⟨#[108, 100, 105, 32, 57, 10, 115, 101, 99, 10, 115, 98, 105, 32, 49, 10, 98, 110, 101, 32, 52, 57, 49, 53, 52, 10, 115, 116, 97, 32, 56, 49, 57, 51, 10, 106, 109, 112, 32, 52, 57, 49, 53, 50, 10]⟩ : ByteArray)] : List ByteArray))).bind fun bt256 => (if bt256.1.size + 125 ≤ 9223372036854775807 then (some (bt256.1 ++ (⟨#[97, 116, 32, 49, 52, 56, 10, 105, 110, 120, 10, 116, 120, 97, 10, 115, 116, 97, 32, 56, 49, 57, 55, 10, 114, 116, 115, 10, 97, 116, 32, 49, 50, 56, 10, 112, 104, 97, 10, 108, 100, 97, 32, 56, 49, 57, 52, 10, 97, 100, 105, 32, 49, 10, 115, 116, 97, 32, 56, 49, 57, 51, 10, 112, 108, 97, 10, 114, 116, 105, 10, 97, 116, 32, 49, 54, 48, 10, 115, 116, 97, 32, 49, 54, 51, 56, 55, 10, 108, 100, 97, 32, 49, 54, 51, 56, 54, 10, 115, 116, 97, 32, 49, 55, 10, 108, 100, 105, 32, 50, 10, 115, 116, 97, 32, 49, 54, 51, 56, 53, 10, 114, 116, 105, 10]⟩ : ByteArray), bt256.2.1, bt256.2.2)) else (none))) = some (r1, r2, r3) := h
 clear h
 obtain ⟨y253, hy253⟩ : ∃ y_ : List ByteArray, y_ = (([(⟨#[108, 100, 105, 32, 53, 10, 115, 116, 97, 32, 56, 49, 57, 51, 10, 108, 100, 105, 32, 49, 50, 56, 10, 115, 116, 97, 32, 56, 49, 57, 50, 10, 108, 100, 97, 32, 56, 49, 57, 52, 10, 115, 116, 97, 32, 49, 54, 10, 106, 109, 112, 32, 52, 57, 49, 54, 50, 10]⟩ : ByteArray), (⟨#[108, 100, 105, 32, 51, 10, 115, 116, 97, 32, 49, 54, 51, 56, 52, 10, 108, 100, 105, 32, 50, 10, 115, 116, 97, 32, 49, 54, 51, 56, 53, 10, 108, 100, 105, 32, 49, 10, 115, 116, 97, 32, 49, 54, 51, 56, 54, 10, 99, 108, 105, 10, 108, 100, 97, 32, 49, 54, 51, 56, 54, 10, 106, 109, 112, 32, 52, 57, 49, 54, 56, 10]⟩ : ByteArray), (⟨#[108, 100, 105, 32, 50, 10, 115, 116, 97, 32, 56, 49, 57, 53, 10, 105, 110, 120, 10, 116, 120, 97, 10, 115, 116, 97, 32, 56, 49, 57, 54, 10, 115, 116, 97, 32, 56, 49, 57, 55, 10, 108, 100, 97, 32, 56, 49, 57, 54, 10, 115, 116, 97, 32, 48, 10, 106, 109, 112, 32, 52, 57, 49, 53, 55, 10]⟩ : ByteArray), (⟨#[108, 100, 105, 32, 49, 10, 115, 116, 97, 32, 49, 54, 52, 48, 54, 10, 108, 100, 105, 32, 48, 10, 115, 116, 97, 32, 49, 54, 52, 48, 54, 10, 108, 100, 97, 32, 49, 54, 52, 48, 54, 10, 112, 104, 97, 10, 108, 100, 97, 32, 49, 54, 52, 48, 54, 10, 112, 108, 97, 10, 106, 109, 112, 32, 52, 57, 49, 54, 50, 10]⟩ : ByteArray), (⟨#[105, 110, 120, 10, 116, 120, 97, 10, 115, 116, 97, 32, 51, 50, 55, 54, 56, 10, 108, 100, 97, 32, 51, 50, 55, 55, 48, 10, 115, 116, 97, 32, 56, 49, 57, 51, 10, 106, 109, 112, 32, 52, 57, 49, 53, 50, 10]⟩ : ByteArray), (⟨#[108, 100, 105, 32, 49, 50, 56, 10, 115, 116, 97, 32, 56, 49, 57, 50, 10, 108, 100, 105, 32, 55, 10, 115, 116, 97, 32, 49, 54, 51, 56, 53, 10, 108, 100, 105, 32, 49, 10, 115, 116, 97, 32, 49, 54, 51, 56, 54, 10, 99, 108, 105, 10, 106, 115, 114, 32, 52, 57, 51, 48, 48, 10, 106, 109, 112, 32, 52, 57, 49, 54, 56, 10]⟩ : ByteArray), (⟨#[108, 100, 105, 32, 57, 10, 115, 101, 99, 10, 115, 98, 105, 32, 49, 10, 98, 110, 101, 32, 52, 57, 49, 53, 52, 10, 115, 116, 97, 32, 56, 49, 57, 51, 10, 106, 109, 112, 32, 52, 57, 49, 53, 50, 10]⟩ : ByteArray)] : List ByteArray)) := ⟨_, rfl⟩
 replace H : ((spec_l1Pick.f s0_0 s0_1 s0_2 y253).bind fun bt256 => (if bt256.1.size + 125 ≤ 9223372036854775807 then (some (bt256.1 ++ (⟨#[97, 116, 32, 49, 52, 56, 10, 105, 110, 120, 10, 116, 120, 97, 10, 115, 116, 97, 32, 56, 49, 57, 55, 10, 114, 116, 115, 10, 97, 116, 32, 49, 50, 56, 10, 112, 104, 97, 10, 108, 100, 97, 32, 56, 49, 57, 52, 10, 97, 100, 105, 32, 49, 10, 115, 116, 97, 32, 56, 49, 57, 51, 10, 112, 108, 97, 10, 114, 116, 105, 10, 97, 116, 32, 49, 54, 48, 10, 115, 116, 97, 32, 49, 54, 51, 56, 55, 10, 108, 100, 97, 32, 49, 54, 51, 56, 54, 10, 115, 116, 97, 32, 49, 55, 10, 108, 100, 105, 32, 50, 10, 115, 116, 97, 32, 49, 54, 51, 56, 53, 10, 114, 116, 105, 10]⟩ : ByteArray), bt256.2.1, bt256.2.2)) else (none))) = some (r1, r2, r3) := by first | (rw [hy253]; with_reducible exact H) | (have H2_ := (Option.bind_some _ _).symm.trans H; rw [hy253]; with_reducible exact H2_) | (have H2_ := (Option.bind_some _ _).symm.trans H; with_reducible exact H2_) | with_reducible exact H | (rw [hy253]; exact H) | exact H
 have Ny253 := Aside0.mk hy253
 clear hy253
 replace H := Option.bind_eq_some_iff.mp H
 obtain ⟨⟨t256, t257, t258⟩, A20, H⟩ := H
 replace H : (if t256.size + 125 ≤ 9223372036854775807 then (some (t256 ++ (⟨#[97, 116, 32, 49, 52, 56, 10, 105, 110, 120, 10, 116, 120, 97, 10, 115, 116, 97, 32, 56, 49, 57, 55, 10, 114, 116, 115, 10, 97, 116, 32, 49, 50, 56, 10, 112, 104, 97, 10, 108, 100, 97, 32, 56, 49, 57, 52, 10, 97, 100, 105, 32, 49, 10, 115, 116, 97, 32, 56, 49, 57, 51, 10, 112, 108, 97, 10, 114, 116, 105, 10, 97, 116, 32, 49, 54, 48, 10, 115, 116, 97, 32, 49, 54, 51, 56, 55, 10, 108, 100, 97, 32, 49, 54, 51, 56, 54, 10, 115, 116, 97, 32, 49, 55, 10, 108, 100, 105, 32, 50, 10, 115, 116, 97, 32, 49, 54, 51, 56, 53, 10, 114, 116, 105, 10]⟩ : ByteArray), t257, t258)) else (none)) = some (r1, r2, r3) := H
 have A2 := Aside0.mk A20
 clear A20
 by_cases c3 : t256.size + 125 ≤ 9223372036854775807
 ·rw [if_pos c3] at H
  have c3b0 := eq_true c3
  have c3b1 : decide (t256.size + 125 ≤ 9223372036854775807) = true := decide_eq_true c3
  try have c3b2 : (9223372036854775807 < t256.size + 125) = False := eq_false (Nat.not_lt.2 c3)
  simp only [Option.some.injEq, Prod.mk.injEq] at H
  obtain ⟨rfl, rfl, rfl⟩ := H
  go_enter Try.func107, Try.ntmps107
  go_wp2_with (first | ((with_reducible refine gate_dst (N := 5) rfl ?_); refine Kd.R_lit Kd.string _ 9 ?hg (N := 5) ?hd (xs := ([(⟨#[108, 100, 105, 32, 53, 10, 115, 116, 97, 32, 56, 49, 57, 51, 10, 108, 100, 105, 32, 49, 50, 56, 10, 115, 116, 97, 32, 56, 49, 57, 50, 10, 108, 100, 97, 32, 56, 49, 57, 52, 10, 115, 116, 97, 32, 49, 54, 10, 106, 109, 112, 32, 52, 57, 49, 54, 50, 10]⟩ : ByteArray), (⟨#[108, 100, 105, 32, 51, 10, 115, 116, 97, 32, 49, 54, 51, 56, 52, 10, 108, 100, 105, 32, 50, 10, 115, 116, 97, 32, 49, 54, 51, 56, 53, 10, 108, 100, 105, 32, 49, 10, 115, 116, 97, 32, 49, 54, 51, 56, 54, 10, 99, 108, 105, 10, 108, 100, 97, 32, 49, 54, 51, 56, 54, 10, 106, 109, 112, 32, 52, 57, 49, 54, 56, 10]⟩ : ByteArray), (⟨#[108, 100, 105, 32, 50, 10, 115, 116, 97, 32, 56, 49, 57, 53, 10, 105, 110, 120, 10, 116, 120, 97, 10, 115, 116, 97, 32, 56, 49, 57, 54, 10, 115, 116, 97, 32, 56, 49, 57, 55, 10, 108, 100, 97, 32, 56, 49, 57, 54, 10, 115, 116, 97, 32, 48, 10, 106, 109, 112, 32, 52, 57, 49, 53, 55, 10]⟩ : ByteArray), (⟨#[108, 100, 105, 32, 49, 10, 115, 116, 97, 32, 49, 54, 52, 48, 54, 10, 108, 100, 105, 32, 48, 10, 115, 116, 97, 32, 49, 54, 52, 48, 54, 10, 108, 100, 97, 32, 49, 54, 52, 48, 54, 10, 112, 104, 97, 10, 108, 100, 97, 32, 49, 54, 52, 48, 54, 10, 112, 108, 97, 10, 106, 109, 112, 32, 52, 57, 49, 54, 50, 10]⟩ : ByteArray), (⟨#[105, 110, 120, 10, 116, 120, 97, 10, 115, 116, 97, 32, 51, 50, 55, 54, 56, 10, 108, 100, 97, 32, 51, 50, 55, 55, 48, 10, 115, 116, 97, 32, 56, 49, 57, 51, 10, 106, 109, 112, 32, 52, 57, 49, 53, 50, 10]⟩ : ByteArray), (⟨#[108, 100, 105, 32, 49, 50, 56, 10, 115, 116, 97, 32, 56, 49, 57, 50, 10, 108, 100, 105, 32, 55, 10, 115, 116, 97, 32, 49, 54, 51, 56, 53, 10, 108, 100, 105, 32, 49, 10, 115, 116, 97, 32, 49, 54, 51, 56, 54, 10, 99, 108, 105, 10, 106, 115, 114, 32, 52, 57, 51, 48, 48, 10, 106, 109, 112, 32, 52, 57, 49, 54, 56, 10]⟩ : ByteArray), (⟨#[108, 100, 105, 32, 57, 10, 115, 101, 99, 10, 115, 98, 105, 32, 49, 10, 98, 110, 101, 32, 52, 57, 49, 53, 52, 10, 115, 116, 97, 32, 56, 49, 57, 51, 10, 106, 109, 112, 32, 52, 57, 49, 53, 50, 10]⟩ : ByteArray)] : List ByteArray)) (inner := [.string (⟨#[108, 100, 105, 32, 53, 10, 115, 116, 97, 32, 56, 49, 57, 51, 10, 108, 100, 105, 32, 49, 50, 56, 10, 115, 116, 97, 32, 56, 49, 57, 50, 10, 108, 100, 97, 32, 56, 49, 57, 52, 10, 115, 116, 97, 32, 49, 54, 10, 106, 109, 112, 32, 52, 57, 49, 54, 50, 10]⟩ : ByteArray), .string (⟨#[108, 100, 105, 32, 51, 10, 115, 116, 97, 32, 49, 54, 51, 56, 52, 10, 108, 100, 105, 32, 50, 10, 115, 116, 97, 32, 49, 54, 51, 56, 53, 10, 108, 100, 105, 32, 49, 10, 115, 116, 97, 32, 49, 54, 51, 56, 54, 10, 99, 108, 105, 10, 108, 100, 97, 32, 49, 54, 51, 56, 54, 10, 106, 109, 112, 32, 52, 57, 49, 54, 56, 10]⟩ : ByteArray), .string (⟨#[108, 100, 105, 32, 50, 10, 115, 116, 97, 32, 56, 49, 57, 53, 10, 105, 110, 120, 10, 116, 120, 97, 10, 115, 116, 97, 32, 56, 49, 57, 54, 10, 115, 116, 97, 32, 56, 49, 57, 55, 10, 108, 100, 97, 32, 56, 49, 57, 54, 10, 115, 116, 97, 32, 48, 10, 106, 109, 112, 32, 52, 57, 49, 53, 55, 10]⟩ : ByteArray), .string (⟨#[108, 100, 105, 32, 49, 10, 115, 116, 97, 32, 49, 54, 52, 48, 54, 10, 108, 100, 105, 32, 48, 10, 115, 116, 97, 32, 49, 54, 52, 48, 54, 10, 108, 100, 97, 32, 49, 54, 52, 48, 54, 10, 112, 104, 97, 10, 108, 100, 97, 32, 49, 54, 52, 48, 54, 10, 112, 108, 97, 10, 106, 109, 112, 32, 52, 57, 49, 54, 50, 10]⟩ : ByteArray), .string (⟨#[105, 110, 120, 10, 116, 120, 97, 10, 115, 116, 97, 32, 51, 50, 55, 54, 56, 10, 108, 100, 97, 32, 51, 50, 55, 55, 48, 10, 115, 116, 97, 32, 56, 49, 57, 51, 10, 106, 109, 112, 32, 52, 57, 49, 53, 50, 10]⟩ : ByteArray), .string (⟨#[108, 100, 105, 32, 49, 50, 56, 10, 115, 116, 97, 32, 56, 49, 57, 50, 10, 108, 100, 105, 32, 55, 10, 115, 116, 97, 32, 49, 54, 51, 56, 53, 10, 108, 100, 105, 32, 49, 10, 115, 116, 97, 32, 49, 54, 51, 56, 54, 10, 99, 108, 105, 10, 106, 115, 114, 32, 52, 57, 51, 48, 48, 10, 106, 109, 112, 32, 52, 57, 49, 54, 56, 10]⟩ : ByteArray), .string (⟨#[108, 100, 105, 32, 57, 10, 115, 101, 99, 10, 115, 98, 105, 32, 49, 10, 98, 110, 101, 32, 52, 57, 49, 53, 52, 10, 115, 116, 97, 32, 56, 49, 57, 51, 10, 106, 109, 112, 32, 52, 57, 49, 53, 50, 10]⟩ : ByteArray)]) (ok := fun _ => True) (okp := fun _ => True) ?hr ?hp (fun _ hk => hk) trivial (Below.refl _ _) (Nat.le_refl _) (by simp) ?_; (case hd => rfl); (case hg => rfl); (case hr => first | (go_simp; done) | (go_simp; rfl)); (case hp => exact (Reps.one (show Kd.M Kd.string _ _ _ (⟨#[108, 100, 105, 32, 53, 10, 115, 116, 97, 32, 56, 49, 57, 51, 10, 108, 100, 105, 32, 49, 50, 56, 10, 115, 116, 97, 32, 56, 49, 57, 50, 10, 108, 100, 97, 32, 56, 49, 57, 52, 10, 115, 116, 97, 32, 49, 54, 10, 106, 109, 112, 32, 52, 57, 49, 54, 50, 10]⟩ : ByteArray) [.string (⟨#[108, 100, 105, 32, 53, 10, 115, 116, 97, 32, 56, 49, 57, 51, 10, 108, 100, 105, 32, 49, 50, 56, 10, 115, 116, 97, 32, 56, 49, 57, 50, 10, 108, 100, 97, 32, 56, 49, 57, 52, 10, 115, 116, 97, 32, 49, 54, 10, 106, 109, 112, 32, 52, 57, 49, 54, 50, 10]⟩ : ByteArray)] from rfl) (Reps.one (show Kd.M Kd.string _ _ _ (⟨#[108, 100, 105, 32, 51, 10, 115, 116, 97, 32, 49, 54, 51, 56, 52, 10, 108, 100, 105, 32, 50, 10, 115, 116, 97, 32, 49, 54, 51, 56, 53, 10, 108, 100, 105, 32, 49, 10, 115, 116, 97, 32, 49, 54, 51, 56, 54, 10, 99, 108, 105, 10, 108, 100, 97, 32, 49, 54, 51, 56, 54, 10, 106, 109, 112, 32, 52, 57, 49, 54, 56, 10]⟩ : ByteArray) [.string (⟨#[108, 100, 105, 32, 51, 10, 115, 116, 97, 32, 49, 54, 51, 56, 52, 10, 108, 100, 105, 32, 50, 10, 115, 116, 97, 32, 49, 54, 51, 56, 53, 10, 108, 100, 105, 32, 49, 10, 115, 116, 97, 32, 49, 54, 51, 56, 54, 10, 99, 108, 105, 10, 108, 100, 97, 32, 49, 54, 51, 56, 54, 10, 106, 109, 112, 32, 52, 57, 49, 54, 56, 10]⟩ : ByteArray)] from rfl) (Reps.one (show Kd.M Kd.string _ _ _ (⟨#[108, 100, 105, 32, 50, 10, 115, 116, 97, 32, 56, 49, 57, 53, 10, 105, 110, 120, 10, 116, 120, 97, 10, 115, 116, 97, 32, 56, 49, 57, 54, 10, 115, 116, 97, 32, 56, 49, 57, 55, 10, 108, 100, 97, 32, 56, 49, 57, 54, 10, 115, 116, 97, 32, 48, 10, 106, 109, 112, 32, 52, 57, 49, 53, 55, 10]⟩ : ByteArray) [.string (⟨#[108, 100, 105, 32, 50, 10, 115, 116, 97, 32, 56, 49, 57, 53, 10, 105, 110, 120, 10, 116, 120, 97, 10, 115, 116, 97, 32, 56, 49, 57, 54, 10, 115, 116, 97, 32, 56, 49, 57, 55, 10, 108, 100, 97, 32, 56, 49, 57, 54, 10, 115, 116, 97, 32, 48, 10, 106, 109, 112, 32, 52, 57, 49, 53, 55, 10]⟩ : ByteArray)] from rfl) (Reps.one (show Kd.M Kd.string _ _ _ (⟨#[108, 100, 105, 32, 49, 10, 115, 116, 97, 32, 49, 54, 52, 48, 54, 10, 108, 100, 105, 32, 48, 10, 115, 116, 97, 32, 49, 54, 52, 48, 54, 10, 108, 100, 97, 32, 49, 54, 52, 48, 54, 10, 112, 104, 97, 10, 108, 100, 97, 32, 49, 54, 52, 48, 54, 10, 112, 108, 97, 10, 106, 109, 112, 32, 52, 57, 49, 54, 50, 10]⟩ : ByteArray) [.string (⟨#[108, 100, 105, 32, 49, 10, 115, 116, 97, 32, 49, 54, 52, 48, 54, 10, 108, 100, 105, 32, 48, 10, 115, 116, 97, 32, 49, 54, 52, 48, 54, 10, 108, 100, 97, 32, 49, 54, 52, 48, 54, 10, 112, 104, 97, 10, 108, 100, 97, 32, 49, 54, 52, 48, 54, 10, 112, 108, 97, 10, 106, 109, 112, 32, 52, 57, 49, 54, 50, 10]⟩ : ByteArray)] from rfl) (Reps.one (show Kd.M Kd.string _ _ _ (⟨#[105, 110, 120, 10, 116, 120, 97, 10, 115, 116, 97, 32, 51, 50, 55, 54, 56, 10, 108, 100, 97, 32, 51, 50, 55, 55, 48, 10, 115, 116, 97, 32, 56, 49, 57, 51, 10, 106, 109, 112, 32, 52, 57, 49, 53, 50, 10]⟩ : ByteArray) [.string (⟨#[105, 110, 120, 10, 116, 120, 97, 10, 115, 116, 97, 32, 51, 50, 55, 54, 56, 10, 108, 100, 97, 32, 51, 50, 55, 55, 48, 10, 115, 116, 97, 32, 56, 49, 57, 51, 10, 106, 109, 112, 32, 52, 57, 49, 53, 50, 10]⟩ : ByteArray)] from rfl) (Reps.one (show Kd.M Kd.string _ _ _ (⟨#[108, 100, 105, 32, 49, 50, 56, 10, 115, 116, 97, 32, 56, 49, 57, 50, 10, 108, 100, 105, 32, 55, 10, 115, 116, 97, 32, 49, 54, 51, 56, 53, 10, 108, 100, 105, 32, 49, 10, 115, 116, 97, 32, 49, 54, 51, 56, 54, 10, 99, 108, 105, 10, 106, 115, 114, 32, 52, 57, 51, 48, 48, 10, 106, 109, 112, 32, 52, 57, 49, 54, 56, 10]⟩ : ByteArray) [.string (⟨#[108, 100, 105, 32, 49, 50, 56, 10, 115, 116, 97, 32, 56, 49, 57, 50, 10, 108, 100, 105, 32, 55, 10, 115, 116, 97, 32, 49, 54, 51, 56, 53, 10, 108, 100, 105, 32, 49, 10, 115, 116, 97, 32, 49, 54, 51, 56, 54, 10, 99, 108, 105, 10, 106, 115, 114, 32, 52, 57, 51, 48, 48, 10, 106, 109, 112, 32, 52, 57, 49, 54, 56, 10]⟩ : ByteArray)] from rfl) (Reps.one (show Kd.M Kd.string _ _ _ (⟨#[108, 100, 105, 32, 57, 10, 115, 101, 99, 10, 115, 98, 105, 32, 49, 10, 98, 110, 101, 32, 52, 57, 49, 53, 52, 10, 115, 116, 97, 32, 56, 49, 57, 51, 10, 106, 109, 112, 32, 52, 57, 49, 53, 50, 10]⟩ : ByteArray) [.string (⟨#[108, 100, 105, 32, 57, 10, 115, 101, 99, 10, 115, 98, 105, 32, 49, 10, 98, 110, 101, 32, 52, 57, 49, 53, 52, 10, 115, 116, 97, 32, 56, 49, 57, 51, 10, 106, 109, 112, 32, 52, 57, 49, 53, 50, 10]⟩ : ByteArray)] from rfl) (Reps.none _ _))))))))); intro v254 w4 ho5 hb hg_ hnew_; clear hg_ hnew_; (first | rw [← Ny253.out] at ho5 | (simp only [Int.reduceToNat] at ho5; rw [← Ny253.out] at ho5)); have n0_ := Aside0.mk (Kd.R_lower ho5 (keep_size (w := w) (g := g) (row := none) (kp HK.out))); have n1_ := Aside0.mk (IsS107.below (si HI0.out) hb); have n2_ := Aside0.mk (KeepBut.trans (kp HK.out) (KeepBut.of_below hb g none) (.inl rfl)); have n3_ := Aside0.mk (below_step (bi HB.out) hb); clear HI0; clear HK; clear HB; have HO255 := n0_; have HI0 := n1_; have HK := n2_; have HB := n3_; clear n0_ n1_ n2_ n3_; clear hb ho5; obtain ⟨Ao6, co6, eo6⟩ := Kd.R_slice HO255.out; subst eo6) | ((with_reducible refine gate_callee (f := 119) rfl ?_); refine goesM_ (some 6) rfl rfl Try.func119 #[.pointer (some ⟨g, 0, none⟩), .slice Ao6 y253.length co6] ?_; (with_reducible refine (spec_l1Pick.calls g s0_0 s0_1 s0_2 _ _ y253 t256 t257 t258 w0 _ ?side1 ?side2 ?side3 ?side4 ?side5 A2.out).mono ?_); (case side1 => exact si HI0.out); (case side2 => exact bi HB.out); (case side3 => exact kc (Kd.R_reads' HO255.out).2.2); (case side4 => exact (Kd.R_reads' HO255.out).2.1); (case side5 => exact far_slice (IsS107.own_ne HI0.out HO255.out (by decide))); rintro e w7 ⟨rfl, hi, hb, hk⟩; refine ⟨_, rfl, ?_⟩; have n0_ := Aside0.mk (Kd.R_mono (Kd.R_keep (IsS107.apart (show IsS107 w0 _ g s0_0 s0_1 s0_2 from si HI0.out) (kr HO255.out) (by decide)) hk (fun _ h => h.2)) (fun _ h => h.1)); have n1_ := Aside0.mk (KeepBut.trans (kp HK.out) hk (.inl rfl)); have n2_ := Aside0.mk (hb); have n3_ := Aside0.mk (hi); clear HO255; clear HK; clear HB; clear HI0; have HO255 := n0_; have HK := n1_; have HB := n2_; have HI0 := n3_; clear n0_ n1_ n2_ n3_; (try clear hb); (try clear hb2); (try clear hk); (try clear hi)))
  go_ret
  exact ⟨rt, si HI0.out, bi HB.out, kp HK.out⟩
 ·rw [if_neg c3] at H
  exact absurd H (by simp)

/-! ### spec_l2DrawRight: function 69 -/
def last6 (r : List Int) : List Int := (((((r.set 250 128).set 251 192).set 252 0).set 253 192).set 254 160).set 255 192
/-- The last bank, with what stands at its end. -/
def lastSix (x : List (List Int)) (i : Int) : List (List Int) := x.set i.toNat (last6 (rd_L2 x i))
def six (W : World) (g : Nat) : World := (((((W.setCell ⟨g, 250, none⟩ (.int .i64 128)).setCell ⟨g, 251, none⟩ (.int .i64 192)).setCell ⟨g, 252, none⟩ (.int .i64 0)).setCell ⟨g, 253, none⟩ (.int .i64 192)).setCell ⟨g, 254, none⟩ (.int .i64 160)).setCell ⟨g, 255, none⟩ (.int .i64 192)
theorem six_heap (W : World) (g k : Nat) (h : k ≠ g) : (six W g).heap[k]? = W.heap[k]? := by
 unfold six
 refine (Below.heap_setCell _ _ _ k h).trans ?_
 refine (Below.heap_setCell _ _ _ k h).trans ?_
 refine (Below.heap_setCell _ _ _ k h).trans ?_
 refine (Below.heap_setCell _ _ _ k h).trans ?_
 refine (Below.heap_setCell _ _ _ k h).trans ?_
 exact Below.heap_setCell _ _ _ k h
theorem six_below {B : World} {W : World} {g : Nat} (h : Below B.heap.size B W) (hg : B.heap.size ≤ g) : Below B.heap.size B (six W g) := below_set (below_set (below_set (below_set (below_set (below_set h hg) hg) hg) hg) hg) hg
theorem six_blk {W : World} {g b : Nat} {t : TypeId} {cs : Array Value} (h : W.heap[b]? = some (.cells cs t (0, 0))) (hne : b ≠ g) : (six W g).heap[b]? = some (.cells cs t (0, 0)) := (six_heap W g b hne).trans h
theorem six_keep {w W : World} {g gl : Nat} {row : Option Nat} (h : KeepBut w W g row) (hg : w.heap.size ≤ gl) : KeepBut w (six W gl) g row := keep_far (keep_far (keep_far (keep_far (keep_far (keep_far h hg _) hg _) hg _) hg _) hg _) hg _
theorem six_ok {W : World} {base : Nat} {ok : Nat → Prop} {ad : Addr} {n cap : Nat} {X : List (List Int)} (h : Kd.S (Kd.slice 3 (Kd.int .i64)) 30 W base ok (.slice (some ad) n cap) X) (i : Int) (h0 : 0 ≤ i) (h1 : i < (X.length : Int)) {A : Option Addr} {c : Nat}
  (hx : W.cell? (ad.add i.toNat) = some (.slice A (rd_L2 X i).length c)) (h256 : (rd_L2 X i).length = 256) :
  ∃ gl, A = some ⟨gl, 0, none⟩ ∧ base ≤ gl ∧ (∃ cells, W.heap[gl]? = some (.cells cells 3 (0, 0))) ∧ (∀ j : Nat, j < 256 → W.cell? ⟨gl, j, none⟩ = some (.int .i64 (rdOf 0 (rd_L2 X i) (j : Int))) ∧ W.frozen? ⟨gl, j, none⟩ = false) ∧
   Kd.S (Kd.slice 3 (Kd.int .i64)) 30 (six W gl) base ok (.slice (some ad) n cap) (lastSix X i) := by
 obtain ⟨go, rfl⟩ := Kd.R_head (Kd.S_R h)
 have hn := (Kd.S_reads' h).1
 obtain ⟨oki, cc, hcl, hM, hcc, hoki, hH⟩ := Kd.S_lend h [] i h0 (by omega)
 obtain ⟨v, rfl, hR⟩ : ∃ v, cc = [v] ∧ Kd.R (Kd.int .i64) 3 W base oki v (X.getD i.toNat []) := hM
 have hv := hcc 0 v rfl
 rw [add_plain] at hx
 have e1 : i.toNat * (Kd.slice 3 (Kd.int .i64)).sz + 0 = i.toNat := Nat.mul_one _
 rw [e1, hx] at hv
 obtain rfl := Option.some.inj hv
 have e2 : X.getD i.toNat [] = rd_L2 X i := rfl
 rw [e2] at hR
 obtain ⟨gl, cap', e3, hg, hgl, hcells⟩ := Kd.R_form hR (by omega)
 obtain ⟨rfl, _, rfl⟩ : A = some ⟨gl, 0, none⟩ ∧ True ∧ c = cap' := by
  injection e3 with a1 a2 a3
  exact ⟨a1, trivial, a3⟩
 have hok : oki gl := hR.1 gl rfl
 refine ⟨gl, rfl, hg, hcells, fun j j1 => Kd.R_celln 0 hR (j : Int) (by omega) (by omega), ?_⟩
 have r6 : Kd.R (Kd.int .i64) 3 (six W gl) base oki (.slice (some ⟨gl, 0, none⟩) (rd_L2 X i).length c) (last6 (rd_L2 X i)) := by
  unfold six last6
  exact Kd.R_putn (Kd.R_putn (Kd.R_putn (Kd.R_putn (Kd.R_putn (Kd.R_putn hR 250 128) 251 192) 252 0) 253 192) 254 160) 255 192
 exact Kd.H_back (Kd.H_step hH (fun k _ hn _ => six_heap W gl k (fun e => hn (e ▸ hok)))) ⟨_, rfl, r6⟩ (fun _ hk => hk)
theorem six_state {w0 W : World} {g gl : Nat} {f0 : List Int} {f1 f2 : Int} (h : IsS107 w0 W g f0 f1 f2) (hne : g ≠ gl) : IsS107 w0 (six W gl) g f0 f1 f2 :=
 (((((h.far (p := ⟨gl, 250, none⟩) hne _).far (p := ⟨gl, 251, none⟩) hne _).far (p := ⟨gl, 252, none⟩) hne _).far (p := ⟨gl, 253, none⟩) hne _).far (p := ⟨gl, 254, none⟩) hne _).far (p := ⟨gl, 255, none⟩) hne _
def spec_l2DrawRight.l0 : Nat → Int → Int → List Int → Int → Int → List (List Int) → Option ((List (List Int)) × Int × Int)
 | 0, _, _, _, _, _, _ => none
 | k + 1, x4, x5, x1000, x1001, x1002, x261000 => if x5 < x4 then ((spec_l2DrawBank.f k x1000 x1001 x1002).bind fun bt264 => (if x261000.length < 5864062014805 then (spec_l2DrawRight.l0 k x4 (wrap64 (x5 + 1)) x1000 bt264.2.1 bt264.2.2 (x261000 ++ [bt264.1])) else (none))) else ((spec_l1Once.f x1000 x1001 x1002 4).bind fun bt272 => (if bt272.1 = true then (if 0 ≤ (wrap64 (x4 - 1)) then (if (wrap64 (x4 - 1)) < (x261000.length : Int) then (if (rd_L2 x261000 (wrap64 (x4 - 1))).length = 256 then (some (lastSix x261000 (wrap64 (x4 - 1)), bt272.2.1, bt272.2.2)) else (none)) else (none)) else (none)) else ((spec_l2Main.f x1000 bt272.2.1 bt272.2.2).bind fun bt276 => ((spec_Assemble.f k bt276.1).bind fun bt279 => (if (bt279.1.length : Int) = 256 then (if 0 ≤ (wrap64 (x4 - 1)) then (if (wrap64 (x4 - 1)) < (x261000.length : Int) then (if (rd_L2 (x261000.set ((wrap64 (x4 - 1)) : Int).toNat bt279.1) (wrap64 (x4 - 1))).length = 256 then (some (lastSix (x261000.set ((wrap64 (x4 - 1)) : Int).toNat bt279.1) (wrap64 (x4 - 1)), bt276.2.1, bt276.2.2)) else (none)) else (none)) else (none)) else (if 0 ≤ (wrap64 (x4 - 1)) then (if (wrap64 (x4 - 1)) < (x261000.length : Int) then (if (rd_L2 x261000 (wrap64 (x4 - 1))).length = 256 then (some (lastSix x261000 (wrap64 (x4 - 1)), bt276.2.1, bt276.2.2)) else (none)) else (none)) else (none)))))))
def spec_l2DrawRight.f (k : Nat) (s0_0 : List Int) (s0_1 : Int) (s0_2 : Int) : Option ((List (List Int)) × Int × Int) := (spec_l1Below.f s0_0 s0_1 s0_2 3).bind fun bt261 => (spec_l2DrawRight.l0 k (wrap64 (1 + bt261.1)) 0 s0_0 bt261.2.1 bt261.2.2 ([] : List (List Int)))
def spec_l2DrawRight.T6 : Bool × List (List Nat × List Nat) := (true, [([], []), ([0], [0]), ([], []), ([2], [2]), ([3], [3]), ([1, 4, 3], [1, 4]), ([0, 1, 2, 3, 4, 5], []), ([6, 5, 5, 0, 1, 2, 3, 4, 5], [5, 6])])
def spec_l2DrawRight.B6 : List Nat := [0, 1, 0, 4, 12, 31, 63, 127]
theorem spec_l2DrawRight.tab6 : rtab .any (opsOf Try.f69 6) = spec_l2DrawRight.T6 := by kernel_rfl
theorem spec_l2DrawRight.bits6 : waitsOk spec_l2DrawRight.T6.2 spec_l2DrawRight.B6 = true := by kernel_rfl
set_option maxHeartbeats 8000000 in
set_option maxRecDepth 100000 in
theorem spec_l2DrawRight.calls (k : Nat) (g : Nat) (s0_0 : List Int) (s0_1 : Int) (s0_2 : Int) (r1 : List (List Int)) (r2 : Int) (r3 : Int) (w0 w : World) (hI : IsS107 w0 w g s0_0 s0_1 s0_2) (hB : Below w0.heap.size w0 w) (h : spec_l2DrawRight.f k s0_0 s0_1 s0_2 = some (r1, r2, r3)) :
  Calls Try.prog 69 #[.pointer (some ⟨g, 0, none⟩)] w fun e w' => ∃ v0_ : Value, e = .returned (.agg #[v0_]) ∧ Kd.S (Kd.slice 3 (Kd.int .i64)) 30 w' w.heap.size (fun _ => True) v0_ r1 ∧ IsS107 w0 w' g s0_0 r2 r3 ∧ Below w0.heap.size w0 w' ∧ KeepBut w w' g none := by
 have hu29 := Try.underlying29
 have HI0 := Aside0.mk hI
 have HK := Aside0.mk (KeepBut.refl w g none)
 have HL := Aside0.mk hB.size
 clear hI
 have HW0 := Aside0.mk hB.size
 have HB := Aside0.mk hB
 clear hB
 have H : ((spec_l1Below.f s0_0 s0_1 s0_2 3).bind fun bt261 => (spec_l2DrawRight.l0 k (wrap64 (1 + bt261.1)) 0 s0_0 bt261.2.1 bt261.2.2 ([] : List (List Int)))) = some (r1, r2, r3) := h
 clear h
 replace H := Option.bind_eq_some_iff.mp H
 obtain ⟨⟨t261, t262, t263⟩, A20, H⟩ := H
 replace H : (spec_l2DrawRight.l0 k (wrap64 (1 + t261)) 0 s0_0 t262 t263 ([] : List (List Int))) = some (r1, r2, r3) := H
 have A2 := Aside0.mk A20
 clear A20
 have H' := Aside0.mk H
 clear H
 go_enter Try.func69, Try.ntmps69
 go_wp2_with (first | ((with_reducible refine gate_dst (N := 2) rfl ?_); refine bx (N := 2) (cs := #[.slice none 0 0]) (t := 29) ?_; intro gb259 hg w3 hbox hb; have n0_ := Aside0.mk (IsS107.below (si HI0.out) hb); have n1_ := Aside0.mk (KeepBut.trans (kp HK.out) (KeepBut.of_below hb g none) (.inl rfl)); have n2_ := Aside0.mk (below_step (bi HB.out) hb); have n3_ := Aside0.mk (hbox); have n4_ := Aside0.mk ((by rw [hg]; exact (keep_size (w := w) (g := g) (row := none) (kp HK.out)) : w.heap.size ≤ gb259)); have n5_ := Aside0.mk ((Nat.le_trans HW0.out (by rw [hg]; exact (keep_size (w := w) (g := g) (row := none) (kp HK.out)) : w.heap.size ≤ gb259) : w0.heap.size ≤ gb259)); have n6_ := Aside0.mk ((by rw [hg]; exact Nat.ne_of_lt (IsS107.lt (show IsS107 w0 _ g s0_0 s0_1 s0_2 from si HI0.out)) : g ≠ gb259)); have n7_ := Aside0.mk ((by rw [hg]; exact Nat.ne_of_gt (IsS107.lt (show IsS107 w0 _ g s0_0 s0_1 s0_2 from si HI0.out)) : gb259 ≠ g)); clear HI0; clear HK; clear HB; have HI0 := n0_; have HK := n1_; have HB := n2_; have BK259 := n3_; have GW259 := n4_; have GE259 := n5_; have NB0_259 := n6_; have NB259_0 := n7_; clear n0_ n1_ n2_ n3_ n4_ n5_ n6_ n7_; clear hb hbox hg) | ((with_reducible refine gate_dst (N := 3) rfl ?_); refine bx (N := 3) (cs := #[.slice none 0 0]) (t := 29) ?_; intro gb260 hg w4 hbox hb; have n0_ := Aside0.mk (IsS107.below (si HI0.out) hb); have n1_ := Aside0.mk (blk_below (g := gb259) (o := .cells #[.slice none 0 0] 29 (0, 0)) (kb BK259.out) hb); have n2_ := Aside0.mk (KeepBut.trans (kp HK.out) (KeepBut.of_below hb g none) (.inl rfl)); have n3_ := Aside0.mk (below_step (bi HB.out) hb); have n4_ := Aside0.mk (hbox); have n5_ := Aside0.mk ((by rw [hg]; exact (keep_size (w := w) (g := g) (row := none) (kp HK.out)) : w.heap.size ≤ gb260)); have n6_ := Aside0.mk ((Nat.le_trans HW0.out (by rw [hg]; exact (keep_size (w := w) (g := g) (row := none) (kp HK.out)) : w.heap.size ≤ gb260) : w0.heap.size ≤ gb260)); have n7_ := Aside0.mk ((ga hg BK259.out)); have n8_ := Aside0.mk ((gc hg BK259.out)); have n9_ := Aside0.mk ((by rw [hg]; exact Nat.ne_of_lt (IsS107.lt (show IsS107 w0 _ g s0_0 s0_1 s0_2 from si HI0.out)) : g ≠ gb260)); have n10_ := Aside0.mk ((by rw [hg]; exact Nat.ne_of_gt (IsS107.lt (show IsS107 w0 _ g s0_0 s0_1 s0_2 from si HI0.out)) : gb260 ≠ g)); clear HI0; clear BK259; clear HK; clear HB; have HI0 := n0_; have BK259 := n1_; have HK := n2_; have HB := n3_; have BK260 := n4_; have GW260 := n5_; have GE260 := n6_; have NB259_260 := n7_; have NB260_259 := n8_; have NB0_260 := n9_; have NB260_0 := n10_; clear n0_ n1_ n2_ n3_ n4_ n5_ n6_ n7_ n8_ n9_ n10_; clear hb hbox hg; have hnb5 := NB260_259.out; have hnc5 := NB259_260.out; have hnb6 := NB260_0.out; have hnc6 := NB0_260.out; have hcz7_0 : w4.cell? ⟨gb260, 0, none⟩ = some (.slice none 0 0) := cl BK260 0; have hfz7_0 := blk_frozen BK260.out 0) | ((with_reducible refine gate_callee (f := 60) rfl ?_); refine goesM_ (some 11) rfl rfl Try.func60 #[.pointer (some ⟨g, 0, none⟩), .int .i64 3] ?_; (with_reducible refine (spec_l1Below.calls g s0_0 s0_1 s0_2 3 t261 t262 t263 w0 _ ?side1 ?side2 A2.out).mono ?_); (case side1 => exact si HI0.out); (case side2 => exact bi HB.out); rintro e w8 ⟨rfl, hi, hb, hk⟩; refine ⟨_, rfl, ?_⟩; have n0_ := Aside0.mk (KeepBut.blk hk (g' := gb259) (o := .cells #[.slice none 0 0] 29 (0, 0)) (kf BK259.out) NB259_0.out (by simp)); have n1_ := Aside0.mk (KeepBut.blk hk (g' := gb260) (o := .cells #[.slice none 0 0] 29 (0, 0)) (kt BK260.out) NB260_0.out (by simp)); have n2_ := Aside0.mk (KeepBut.trans (kp HK.out) hk (.inl rfl)); have n3_ := Aside0.mk (hb); have n4_ := Aside0.mk (hi); clear BK259; clear BK260; clear HK; clear HB; clear HI0; have BK259 := n0_; have BK260 := n1_; have HK := n2_; have HB := n3_; have HI0 := n4_; clear n0_ n1_ n2_ n3_ n4_; (try clear hb); (try clear hb2); (try clear hk); (try clear hi)))
 go_loopg [5] k (fun kq v5 w' => ∃ (x5_1 : Int) (x1001_1 : Int) (x1002_1 : Int) (x261000_1 : List (List Int)) (u261000 : Value), v5 = .int .i64 x5_1 ∧ Aside0 (spec_l2DrawRight.l0 kq (wrap64 (1 + t261)) x5_1 s0_0 x1001_1 x1002_1 x261000_1 = some (r1, r2, r3)) ∧ Aside0 (kq ≤ k) ∧ Aside0 (Kd.S (Kd.slice 3 (Kd.int .i64)) 30 w' w.heap.size (fun _ => True) u261000 x261000_1) ∧ Aside0 (w'.heap[gb259]? = some (.cells #[(.slice none 0 0)] 29 (0, 0))) ∧ Aside0 (w'.heap[gb260]? = some (.cells #[u261000] 29 (0, 0))) ∧ Aside0 (IsS107 w0 w' g s0_0 x1001_1 x1002_1) ∧ Aside0 (KeepBut w w' g none) ∧ Aside0 (Below w0.heap.size w0 w'))
 case atStart => exact ⟨(0), (t262), (t263), (([] : List (List Int))), (.slice none 0 0), (by first | rfl | (simp; done) | (simp [*]; done)), H', ⟨Nat.le_refl _⟩, ⟨by first | exact Kd.S_nil _ _ _ _ _ | exact Kd.N_nil _ _ _ _ _ | exact Kd.V_nil _ _ _ _ _ | exact Kd.Q_nil _ _ _ _ _ | exact Kd.R_nil _ _ _ _ _⟩, ⟨kb BK259.out⟩, ⟨kb BK260.out⟩, ⟨si HI0.out⟩, ⟨kp HK.out⟩, ⟨bi HB.out⟩⟩
 case round =>
  clear H'
  (try clear p2); (try clear c5); (try clear c6); (try clear p6); (try clear hcz7_0); (try clear hfz7_0)
  obtain ⟨x5_1, x1001_1, x1002_1, x261000_1, u261000, rfl, HA, HK1, HO_261000, BK259, BK260, HI0, HK, HB⟩ := hrel
  cases gk with
  | zero => exact absurd HA.out (by simp [spec_l2DrawRight.l0])
  | succ k1 =>
   have H := HA.out
   clear HA
   simp only [spec_l2DrawRight.l0] at H
   by_cases c9 : x5_1 < (wrap64 (1 + t261))
   ·rw [if_pos c9] at H
    have c9b0 : decide (x5_1 < (wrap64 (1 + t261))) = true := decide_eq_true c9
    clear c9
    replace H := Option.bind_eq_some_iff.mp H
    obtain ⟨⟨t264, t267, t268⟩, A100, H⟩ := H
    replace H : (if x261000_1.length < 5864062014805 then (spec_l2DrawRight.l0 k1 (wrap64 (1 + t261)) (wrap64 (x5_1 + 1)) s0_0 t267 t268 (x261000_1 ++ [t264])) else (none)) = some (r1, r2, r3) := H
    have A10 := Aside0.mk A100
    clear A100
    by_cases c11 : x261000_1.length < 5864062014805
    ·rw [if_pos c11] at H
     have LMc11 := Aside0.mk c11
     clear c11
     obtain ⟨y269, hy269⟩ : ∃ y_ : List (List Int), y_ = (x261000_1 ++ [t264]) := ⟨_, rfl⟩
     replace H : (spec_l2DrawRight.l0 k1 (wrap64 (1 + t261)) (wrap64 (x5_1 + 1)) s0_0 t267 t268 y269) = some (r1, r2, r3) := by first | (rw [hy269]; with_reducible exact H) | (have H2_ := (Option.bind_some _ _).symm.trans H; rw [hy269]; with_reducible exact H2_) | (have H2_ := (Option.bind_some _ _).symm.trans H; with_reducible exact H2_) | with_reducible exact H | (rw [hy269]; exact H) | exact H
     have Ny269 := Aside0.mk hy269
     clear hy269
     have H' := Aside0.mk H
     clear H
     try go_wp2
     have n0_ := Aside0.mk (Kd.S_drew HO_261000.out)
     have n1_ := Aside0.mk (blk_drew BK259.out)
     have n2_ := Aside0.mk (blk_drew BK260.out)
     have n3_ := Aside0.mk (IsS107.drew HI0.out)
     have n4_ := Aside0.mk (keep_drew HK.out)
     have n5_ := Aside0.mk (below_drew1 HB.out)
     clear HO_261000; clear BK259; clear BK260; clear HI0; clear HK; clear HB; have HO_261000 := n0_; have BK259 := n1_; have BK260 := n2_; have HI0 := n3_; have HK := n4_; have HB := n5_; clear n0_ n1_ n2_ n3_ n4_ n5_
     refine start_ (n := 8) (S := fun w' => w'.cell? ⟨gb260, 0, none⟩ = some (u261000)) (ds := [7]) (bm 8 0) (by kernel_rfl) rfl (by kernel_rfl) (cl BK260 0) (fun hHeld => ?_); refine with_tabW spec_l2DrawRight.tab6 spec_l2DrawRight.bits6 (fun HT_ HW_ => ?_)
     generalize wr.drew = w12 at HO_261000 BK259 BK260 HI0 HK HB hHeld ⊢
     refine pw_ 0 (some 18) (bm 8 1) HT_ ?_
     refine pw_ 2 (some 20) (bm 8 5) HT_ ?_
     refine tw_ 1 (some 19) (bm 8 7) HT_ HW_ hHeld ?_
     refine ow_ 3 (some 21) (bm 8 15) HT_ (fun K hK => ?_)
     refine gw_ Try.func105 #[.pointer (some ⟨g, 0, none⟩)] ?_
     with_reducible refine (spec_l2DrawBank.calls k1 g s0_0 x1001_1 x1002_1 t264 t267 t268 w0 _ ?side1 ?side2 A10.out).mono ?_
     (case side1 => exact si HI0.out)
     (case side2 => exact bi HB.out)
     rintro e w13 ⟨v265, rfl, ho0, hi, hb, hk⟩
     refine ⟨_, rfl, ?_⟩
     have n0_ := Aside0.mk (Kd.S_mono (Kd.S_told (Kd.S_oldK (IsS107.apartS (show IsS107 w0 _ g s0_0 x1001_1 x1002_1 from si HI0.out) (ks HO_261000.out) (by decide)) hk) (Kd.R_base ho0)) (fun _ h_ => h_.1))
     have n1_ := Aside0.mk (KeepBut.blk hk (g' := gb259) (o := .cells #[.slice none 0 0] 29 (0, 0)) (kb BK259.out) NB259_0.out (by simp))
     have n2_ := Aside0.mk (KeepBut.blk hk (g' := gb260) (o := .cells #[u261000] 29 (0, 0)) (kb BK260.out) NB260_0.out (by simp))
     have n3_ := Aside0.mk (Kd.R_lower ho0 (keep_size (w := w) (g := g) (row := none) (kp HK.out)))
     have n4_ := Aside0.mk (KeepBut.trans (kp HK.out) hk (.inl rfl))
     have n5_ := Aside0.mk (hb)
     have n6_ := Aside0.mk (hi)
     clear HO_261000; clear BK259; clear BK260; clear HK; clear HB; clear HI0; have HO_261000 := n0_; have BK259 := n1_; have BK260 := n2_; have HO266 := n3_; have HK := n4_; have HB := n5_; have HI0 := n6_; clear n0_ n1_ n2_ n3_ n4_ n5_ n6_; (try clear hb); (try clear hb2); (try clear hk); (try clear hi); (try clear ho0)
     obtain ⟨Ao15, co15, eo15⟩ := Kd.R_slice HO266.out
     (first | subst eo15 | (injection eo15 with f1_ f2_ f3_; have f4_ := f1_.symm; have f5_ := f3_.symm; clear f1_ f2_ f3_; subst f4_; subst f5_))
     refine hK.out _ _ (cl BK260 0) (fun hHeld => ?_)
     clear hK K
     refine nw_ ?_
     refine ow_ 4 (some 22) (bm 8 31) HT_ (fun K hK => ?_)
     refine value_ (w1 := ?_) (v := ?_) (by rfl) rfl ?_ ?_
     rotate_left 2
     ·go_simp
      constructor
      ·rfl
      ·rfl
     refine hK.out _ _ ((blk_cell (blk_alloc BK260.out _) 0).trans rfl) (fun hHeld => ?_)
     clear hK K
     refine nw_ ?_
     refine ow_ 5 (some 23) (bm 8 63) HT_ (fun K hK => ?_)
     refine Kd.S_append_step (Kd.slice 3 (Kd.int .i64)) w.heap.size (by rfl) (.tmp 19) (.tmp 22) 27 30 (.slice none 0 0) 24 rfl Try.underlying27 info30 rfl (by decide) (by omega) u261000 x261000_1 t264 [.slice Ao15 t264.length co15] (fun _ => True) (fun k_ => some k_ = (.slice Ao15 t264.length co15 : Value).ownBlock) rfl rfl ?aP (fun k_ hk_ => ((Kd.R_mono (ok' := fun k_ => ((fun _ => True)) k_ ∧ some k_ ≠ (u261000 : Value).ownBlock) (Kd.R_apart' (HO266.out) (Kd.S_typed HO_261000.out) (by decide)) (fun k_ hk => ⟨trivial, hk.2⟩))).1 k_ hk_.symm) ?aF ?aO (Below.refl _ _) ?aS ?aL ?_
     (case aP => exact Kd.M_row (Kd.R_mono (Kd.R_tight rfl (Kd.R_mono (ok' := fun k_ => ((fun _ => True)) k_ ∧ some k_ ≠ (u261000 : Value).ownBlock) (Kd.R_apart' (HO266.out) (Kd.S_typed HO_261000.out) (by decide)) (fun k_ hk => ⟨trivial, hk.2⟩))) (fun _ h_ => h_)))
     (case aF => exact (fun _ _ => trivial))
     (case aO => exact (ks (Kd.S_mono HO_261000.out (fun k_ hk => ⟨trivial, fun e_ => hk.2 e_⟩))))
     (case aS => exact (keep_size (w := w) (g := g) (row := none) (kp HK.out)))
     (case aL => have := LMc11.out; omega)
     intro v270 w14 ho hb hg hat
     rw [← Ny269.out] at ho
     have n0_ := Aside0.mk (blk_grown (g := gb259) (o := .cells #[.slice none 0 0] 29 (0, 0)) (kb BK259.out) hg (Kd.S_ne HO_261000.out BK259.out (by decide)))
     have n1_ := Aside0.mk (blk_grown (g := gb260) (o := .cells #[u261000] 29 (0, 0)) (kb BK260.out) hg (Kd.S_ne HO_261000.out BK260.out (by decide)))
     have n2_ := Aside0.mk (IsS107.grown (si HI0.out) hg (IsS107.own_neS HI0.out HO_261000.out (by decide)))
     have n3_ := Aside0.mk (below_weaken (bi HB.out) HL.out hb)
     have n4_ := Aside0.mk (KeepBut.trans (kp HK.out) (KeepBut.of_grown hg g) (Kd.S_base2 HO_261000.out))
     have n5_ := Aside0.mk (ho)
     clear BK259; clear BK260; clear HI0; clear HB; clear HK; clear HO_261000; clear HO266; have BK259 := n0_; have BK260 := n1_; have HI0 := n2_; have HB := n3_; have HK := n4_; have HO271 := n5_; clear n0_ n1_ n2_ n3_ n4_ n5_; clear ho hb hg hat
     obtain ⟨Ao16, co16, eo16⟩ := Kd.S_slice HO271.out
     (first | subst eo16 | (injection eo16 with f1_ f2_ f3_; have f4_ := f1_.symm; have f5_ := f3_.symm; clear f1_ f2_ f3_; subst f4_; subst f5_))
     refine hK.out _ _ (cl BK260 0) (fun hHeld => ?_)
     clear hK K
     refine nw_ ?_
     refine pw_ 6 (some 24) (bm 8 127) HT_ ?_
     refine last_ (i := 7) (N := none) #[true, true, true, true, true, true, true, true] rfl rfl (one_of HT_.out (by kernel_rfl)) (by decide) (fun K hK => ?_)
     have hs17 : w14.cell? ⟨gb260, 0, none⟩ = some (u261000) := cl BK260 0
     have hfs17 := blk_frozen BK260.out 0
     have hns17_0 := NB259_260.out
     have hms17_0 := NB260_259.out
     refine skip_ (w1 := ?_) (by rfl) rfl ?_ ?_
     rotate_left
     ·go_simp
      rfl
     refine hK.out _ _ ?_
     clear hK K
     refine done_ (done_of HT_.out (by kernel_rfl)) ?_
     try go_wp2
     go_roundg k1
     case measure => have := HK1.out; omega
     case rel => exact ⟨(wrap64 (x5_1 + 1)), (t267), (t268), (y269), (.slice Ao16 y269.length co16), (by first | rfl | (simp; done) | (simp [*]; done)), H', ⟨by have := HK1.out; omega⟩, ⟨ks (Kd.S_mono (Kd.S_far (p := ⟨gb260, 0, none⟩) (Kd.S_types HO271.out BK260.out (by decide)) (fun _ hk => hk.2) (.slice Ao16 y269.length co16)) (fun _ hk => trivial))⟩, ⟨kf BK259.out⟩, ⟨kt BK260.out⟩, ⟨si HI0.out⟩, ⟨kp HK.out⟩, ⟨bi HB.out⟩⟩
    ·rw [if_neg c11] at H
     exact absurd H (by simp)
   ·rw [if_neg c9] at H
    have c9b0 : decide (x5_1 < (wrap64 (1 + t261))) = false := decide_eq_false c9
    clear c9
    replace H := Option.bind_eq_some_iff.mp H
    obtain ⟨⟨t272, t273, t274⟩, A180, H⟩ := H
    replace H : (if t272 = true then (if 0 ≤ (wrap64 ((wrap64 (1 + t261)) - 1)) then (if (wrap64 ((wrap64 (1 + t261)) - 1)) < (x261000_1.length : Int) then (if (rd_L2 x261000_1 (wrap64 ((wrap64 (1 + t261)) - 1))).length = 256 then (some (lastSix x261000_1 (wrap64 ((wrap64 (1 + t261)) - 1)), t273, t274)) else (none)) else (none)) else (none)) else ((spec_l2Main.f s0_0 t273 t274).bind fun bt276 => ((spec_Assemble.f k1 bt276.1).bind fun bt279 => (if (bt279.1.length : Int) = 256 then (if 0 ≤ (wrap64 ((wrap64 (1 + t261)) - 1)) then (if (wrap64 ((wrap64 (1 + t261)) - 1)) < (x261000_1.length : Int) then (if (rd_L2 (x261000_1.set ((wrap64 ((wrap64 (1 + t261)) - 1)) : Int).toNat bt279.1) (wrap64 ((wrap64 (1 + t261)) - 1))).length = 256 then (some (lastSix (x261000_1.set ((wrap64 ((wrap64 (1 + t261)) - 1)) : Int).toNat bt279.1) (wrap64 ((wrap64 (1 + t261)) - 1)), bt276.2.1, bt276.2.2)) else (none)) else (none)) else (none)) else (if 0 ≤ (wrap64 ((wrap64 (1 + t261)) - 1)) then (if (wrap64 ((wrap64 (1 + t261)) - 1)) < (x261000_1.length : Int) then (if (rd_L2 x261000_1 (wrap64 ((wrap64 (1 + t261)) - 1))).length = 256 then (some (lastSix x261000_1 (wrap64 ((wrap64 (1 + t261)) - 1)), bt276.2.1, bt276.2.2)) else (none)) else (none)) else (none)))))) = some (r1, r2, r3) := H
    have A18 := Aside0.mk A180
    clear A180
    by_cases c19 : t272 = true
    ·subst c19
     have H1 : (if 0 ≤ (wrap64 ((wrap64 (1 + t261)) - 1)) then (if (wrap64 ((wrap64 (1 + t261)) - 1)) < (x261000_1.length : Int) then (if (rd_L2 x261000_1 (wrap64 ((wrap64 (1 + t261)) - 1))).length = 256 then (some (lastSix x261000_1 (wrap64 ((wrap64 (1 + t261)) - 1)), t273, t274)) else (none)) else (none)) else (none)) = some (r1, r2, r3) := by rw [if_pos rfl] at H; exact H
     clear H
     have H := H1
     clear H1
     obtain ⟨ji20, hji20⟩ : ∃ j_ : Int, (wrap64 ((wrap64 (1 + t261)) - 1)) = j_ := ⟨_, rfl⟩
     replace H : (if 0 ≤ (ji20) then (if (ji20) < (x261000_1.length : Int) then (if (rd_L2 x261000_1 (ji20)).length = 256 then (some (lastSix x261000_1 (ji20), t273, t274)) else (none)) else (none)) else (none)) = some (r1, r2, r3) := by first | (rw [hji20] at H; exact H) | (simp only [hji20] at H ⊢; exact H)
     (try rw [hji20] at A18)
     have hji20w : (IntKind.i64.wrap ((wrap64 (1 + t261)) - 1)) = ji20 := (i64_w _).trans hji20
     by_cases c21 : 0 ≤ (ji20)
     ·rw [if_pos c21] at H
      have c21b0 : decide (0 ≤ (ji20)) = true := decide_eq_true c21
      clear c21
      by_cases c22 : (ji20) < (x261000_1.length : Int)
      ·rw [if_pos c22] at H
       have c22b0 : decide ((ji20) < (x261000_1.length : Int)) = true := decide_eq_true c22
       clear c22
       by_cases c256 : (rd_L2 x261000_1 (ji20)).length = 256
       rotate_left
       ·rw [if_neg c256] at H
        exact absurd H (by simp)
       rw [if_pos c256] at H
       have C256 := Aside0.mk c256
       clear c256
       simp only [Option.some.injEq, Prod.mk.injEq] at H
       obtain ⟨rfl, rfl, rfl⟩ := H
       go_upto_region 12 with (first | ((with_reducible refine gate_callee (f := 58) rfl ?_); refine goesM_ (some 26) rfl rfl Try.func58 #[.pointer (some ⟨g, 0, none⟩), .int .i64 4] ?_; (with_reducible refine (spec_l1Once.calls g s0_0 x1001_1 x1002_1 4 true t273 t274 w0 _ ?side1 ?side2 A18.out).mono ?_); (case side1 => exact si HI0.out); (case side2 => exact bi HB.out); rintro e w23 ⟨rfl, hi, hb, hk⟩; refine ⟨_, rfl, ?_⟩; have n0_ := Aside0.mk (Kd.S_mono (Kd.S_keep (IsS107.apartS (show IsS107 w0 _ g s0_0 x1001_1 x1002_1 from si HI0.out) (ks HO_261000.out) (by decide)) hk (fun _ h => h.2)) (fun _ h => h.1)); have n1_ := Aside0.mk (KeepBut.blk hk (g' := gb259) (o := .cells #[.slice none 0 0] 29 (0, 0)) (kb BK259.out) NB259_0.out (by simp)); have n2_ := Aside0.mk (KeepBut.blk hk (g' := gb260) (o := .cells #[u261000] 29 (0, 0)) (kb BK260.out) NB260_0.out (by simp)); have n3_ := Aside0.mk (KeepBut.trans (kp HK.out) hk (.inl rfl)); have n4_ := Aside0.mk (hb); have n5_ := Aside0.mk (hi); clear HO_261000; clear BK259; clear BK260; clear HK; clear HB; clear HI0; have HO_261000 := n0_; have BK259 := n1_; have BK260 := n2_; have HK := n3_; have HB := n4_; have HI0 := n5_; clear n0_ n1_ n2_ n3_ n4_ n5_; (try clear hb); (try clear hb2); (try clear hk); (try clear hi); have hnb24 := NB260_259.out; have hnc24 := NB259_260.out; have hnb25 := NB260_0.out; have hnc25 := NB0_260.out; have hcz26_0 : w23.cell? ⟨gb260, 0, none⟩ = some (u261000) := cl BK260 0; have hfz26_0 := blk_frozen BK260.out 0; obtain ⟨Ao27, co27, eo27⟩ := Kd.S_slice HO_261000.out; subst eo27; have p275 : 0 ≤ ((ji20) : Int) := dt; have q275 : (ji20) < (x261000_1.length : Int) := dt; obtain ⟨ad275, A275_0, c275_0, e275, hx275_0, hl275_0, hi275_0⟩ := at_L2 (Kd.S_reads' HO_261000.out).2.2 (ji20) p275 q275; cases e275; obtain ⟨ce275, hce275, hMe275, hcc275⟩ := Kd.S_get HO_261000.out [] (ji20) p275 (by first | exact q275 | exact dt | (have e_ := (Kd.S_reads' HO_261000.out).1; omega)); obtain ⟨ve275_0, rfl, ge275_0⟩ := hMe275; have hv275_0 := hcc275 0 _ rfl; rw [Nat.add_zero, show ((Kd.slice 3 (Kd.int .i64))).sz = 1 from rfl, Nat.mul_one] at hv275_0; replace hv275_0 := Option.some.inj (hv275_0.symm.trans hx275_0); rw [hv275_0] at ge275_0; have HL275_0 := Aside0.mk (show Kd.R (Kd.int .i64) 3 _ _ _ _ (rd_L2 x261000_1 (ji20)) from ge275_0); clear hv275_0 ge275_0; clear hcc275 hce275; have HR275_0 := Aside0.mk hi275_0; have HC275_0 := Aside0.mk hl275_0; clear hi275_0 hl275_0; replace p275 := eq_true p275; replace q275 := eq_true q275; have hnb28 := NB259_0.out; have hnc28 := NB0_259.out; have hcz29_0 : w23.cell? ⟨gb259, 0, none⟩ = some (.slice none 0 0) := cl BK259 0; have hfz29_0 := blk_frozen BK259.out 0))
       have hji_ : (0 : Int) ≤ ji20 := of_decide_eq_true (by assumption)
       have hjl_ : ji20 < (x261000_1.length : Int) := by first | exact of_decide_eq_true (by assumption) | (rw [Ny0.out, List.length_set]; exact of_decide_eq_true (by assumption))
       obtain ⟨gl, eA_, hgl, ⟨clr, hbl⟩, hcl, hS6⟩ := six_ok HO_261000.out ji20 hji_ hjl_ (by first | exact hx275_0 | (rw [add_plain]; exact hx275_0)) C256.out
       subst eA_
       have GL := Aside0.mk hgl
       have HBL := Aside0.mk hbl
       have HS6 := Aside0.mk hS6
       have HLN := Aside0.mk C256.out
       have z0 := (hcl 250 (by omega)).1
       have z1 := (hcl 251 (by omega)).1
       have z2 := (hcl 252 (by omega)).1
       have z3 := (hcl 253 (by omega)).1
       have z4 := (hcl 254 (by omega)).1
       have z5 := (hcl 255 (by omega)).1
       have f0 := (hcl 250 (by omega)).2
       have f1 := (hcl 251 (by omega)).2
       have f2 := (hcl 252 (by omega)).2
       have f3 := (hcl 253 (by omega)).2
       have f4 := (hcl 254 (by omega)).2
       have f5 := (hcl 255 (by omega)).2
       have b0 : ((250 : Int) < ((rd_L2 x261000_1 ji20).length : Int)) = True := eq_true (by have := C256.out; omega)
       have b1 : ((251 : Int) < ((rd_L2 x261000_1 ji20).length : Int)) = True := eq_true (by have := C256.out; omega)
       have b2 : ((252 : Int) < ((rd_L2 x261000_1 ji20).length : Int)) = True := eq_true (by have := C256.out; omega)
       have b3 : ((253 : Int) < ((rd_L2 x261000_1 ji20).length : Int)) = True := eq_true (by have := C256.out; omega)
       have b4 : ((254 : Int) < ((rd_L2 x261000_1 ji20).length : Int)) = True := eq_true (by have := C256.out; omega)
       have b5 : ((255 : Int) < ((rd_L2 x261000_1 ji20).length : Int)) = True := eq_true (by have := C256.out; omega)
       have n1 : gl ≠ gb259 := blk_ne hbl BK259.out (by decide)
       have n2 : gb259 ≠ gl := fun e => n1 e.symm
       have n3 : gl ≠ gb260 := blk_ne hbl BK260.out (by decide)
       have n4 : gb260 ≠ gl := fun e => n3 e.symm
       clear hcl hbl hgl hS6 hji_ hjl_
       go_wp2
       refine bodyPost_ret (results_cell_row rfl _ _ gb259 29 #[.slice (some ad275) x261000_1.length co27] (0, 0) _ rfl (blk_put (cs := #[.slice none 0 0]) (six_blk BK259.out n2) 0 _ rfl) Try.underlying29 rfl (by kernel_rfl)) rfl ?_
       exact ⟨_, rfl, Kd.S_mono (Kd.S_far (p := ⟨gb259, 0, none⟩) (Kd.S_types HS6.out (six_blk BK259.out n2) (by decide)) (fun _ hk => hk.2) (.slice (some ad275) x261000_1.length co27)) (fun _ hk => trivial), (six_state HI0.out (IsS107.ne_blk HI0.out HBL.out (by decide))).far (p := ⟨gb259, 0, none⟩) NB0_259.out _, below_set (six_below HB.out (Nat.le_trans HW0.out GL.out)) GE259.out, keep_far (p := ⟨gb259, 0, none⟩) (six_keep HK.out GL.out) GW259.out _⟩
      ·rw [if_neg c22] at H
       exact absurd H (by simp)
     ·rw [if_neg c21] at H
      exact absurd H (by simp)
    ·replace c19 := Bool.eq_false_iff.mpr c19
     subst c19
     have H1 : ((spec_l2Main.f s0_0 t273 t274).bind fun bt276 => ((spec_Assemble.f k1 bt276.1).bind fun bt279 => (if (bt279.1.length : Int) = 256 then (if 0 ≤ (wrap64 ((wrap64 (1 + t261)) - 1)) then (if (wrap64 ((wrap64 (1 + t261)) - 1)) < (x261000_1.length : Int) then (if (rd_L2 (x261000_1.set ((wrap64 ((wrap64 (1 + t261)) - 1)) : Int).toNat bt279.1) (wrap64 ((wrap64 (1 + t261)) - 1))).length = 256 then (some (lastSix (x261000_1.set ((wrap64 ((wrap64 (1 + t261)) - 1)) : Int).toNat bt279.1) (wrap64 ((wrap64 (1 + t261)) - 1)), bt276.2.1, bt276.2.2)) else (none)) else (none)) else (none)) else (if 0 ≤ (wrap64 ((wrap64 (1 + t261)) - 1)) then (if (wrap64 ((wrap64 (1 + t261)) - 1)) < (x261000_1.length : Int) then (if (rd_L2 x261000_1 (wrap64 ((wrap64 (1 + t261)) - 1))).length = 256 then (some (lastSix x261000_1 (wrap64 ((wrap64 (1 + t261)) - 1)), bt276.2.1, bt276.2.2)) else (none)) else (none)) else (none))))) = some (r1, r2, r3) := by rw [if_neg (show ¬ (false = true) by decide)] at H; exact H
     clear H
     have H := H1
     clear H1
     replace H := Option.bind_eq_some_iff.mp H
     obtain ⟨⟨t276, t277, t278⟩, A300, H⟩ := H
     replace H : ((spec_Assemble.f k1 t276).bind fun bt279 => (if (bt279.1.length : Int) = 256 then (if 0 ≤ (wrap64 ((wrap64 (1 + t261)) - 1)) then (if (wrap64 ((wrap64 (1 + t261)) - 1)) < (x261000_1.length : Int) then (if (rd_L2 (x261000_1.set ((wrap64 ((wrap64 (1 + t261)) - 1)) : Int).toNat bt279.1) (wrap64 ((wrap64 (1 + t261)) - 1))).length = 256 then (some (lastSix (x261000_1.set ((wrap64 ((wrap64 (1 + t261)) - 1)) : Int).toNat bt279.1) (wrap64 ((wrap64 (1 + t261)) - 1)), t277, t278)) else (none)) else (none)) else (none)) else (if 0 ≤ (wrap64 ((wrap64 (1 + t261)) - 1)) then (if (wrap64 ((wrap64 (1 + t261)) - 1)) < (x261000_1.length : Int) then (if (rd_L2 x261000_1 (wrap64 ((wrap64 (1 + t261)) - 1))).length = 256 then (some (lastSix x261000_1 (wrap64 ((wrap64 (1 + t261)) - 1)), t277, t278)) else (none)) else (none)) else (none)))) = some (r1, r2, r3) := H
     have A30 := Aside0.mk A300
     clear A300
     replace H := Option.bind_eq_some_iff.mp H
     obtain ⟨⟨t279, t280⟩, A310, H⟩ := H
     replace H : (if (t279.length : Int) = 256 then (if 0 ≤ (wrap64 ((wrap64 (1 + t261)) - 1)) then (if (wrap64 ((wrap64 (1 + t261)) - 1)) < (x261000_1.length : Int) then (if (rd_L2 (x261000_1.set ((wrap64 ((wrap64 (1 + t261)) - 1)) : Int).toNat t279) (wrap64 ((wrap64 (1 + t261)) - 1))).length = 256 then (some (lastSix (x261000_1.set ((wrap64 ((wrap64 (1 + t261)) - 1)) : Int).toNat t279) (wrap64 ((wrap64 (1 + t261)) - 1)), t277, t278)) else (none)) else (none)) else (none)) else (if 0 ≤ (wrap64 ((wrap64 (1 + t261)) - 1)) then (if (wrap64 ((wrap64 (1 + t261)) - 1)) < (x261000_1.length : Int) then (if (rd_L2 x261000_1 (wrap64 ((wrap64 (1 + t261)) - 1))).length = 256 then (some (lastSix x261000_1 (wrap64 ((wrap64 (1 + t261)) - 1)), t277, t278)) else (none)) else (none)) else (none))) = some (r1, r2, r3) := H
     have A31 := Aside0.mk A310
     clear A310
     by_cases c32 : (t279.length : Int) = 256
     ·rw [if_pos c32] at H
      have c32b0 : ((t279.length : Int) == 256) = true := beq_iff_eq.mpr c32
      have c32b1 : ((t279.length : Int) != 256) = false := bne_eq_false_iff_eq.mpr c32
      clear c32
      obtain ⟨ji33, hji33⟩ : ∃ j_ : Int, (wrap64 ((wrap64 (1 + t261)) - 1)) = j_ := ⟨_, rfl⟩
      replace H : (if 0 ≤ (ji33) then (if (ji33) < (x261000_1.length : Int) then (if (rd_L2 (x261000_1.set ((ji33) : Int).toNat t279) (ji33)).length = 256 then (some (lastSix (x261000_1.set ((ji33) : Int).toNat t279) (ji33), t277, t278)) else (none)) else (none)) else (none)) = some (r1, r2, r3) := by first | (rw [hji33] at H; exact H) | (simp only [hji33] at H ⊢; exact H)
      (try rw [hji33] at A18)
      (try rw [hji33] at A30)
      (try rw [hji33] at A31)
      have hji33w : (IntKind.i64.wrap ((wrap64 (1 + t261)) - 1)) = ji33 := (i64_w _).trans hji33
      by_cases c34 : 0 ≤ (ji33)
      ·rw [if_pos c34] at H
       have c34b0 : decide (0 ≤ (ji33)) = true := decide_eq_true c34
       clear c34
       by_cases c35 : (ji33) < (x261000_1.length : Int)
       ·rw [if_pos c35] at H
        have c35b0 : decide ((ji33) < (x261000_1.length : Int)) = true := decide_eq_true c35
        clear c35
        obtain ⟨y283, hy283⟩ : ∃ y_ : List (List Int), y_ = (x261000_1.set ((ji33) : Int).toNat t279) := ⟨_, rfl⟩
        replace H : (if (rd_L2 y283 (ji33)).length = 256 then (some (lastSix y283 (ji33), t277, t278)) else (none)) = some (r1, r2, r3) := by first | (rw [hy283]; with_reducible exact H) | (have H2_ := (Option.bind_some _ _).symm.trans H; rw [hy283]; with_reducible exact H2_) | (have H2_ := (Option.bind_some _ _).symm.trans H; with_reducible exact H2_) | with_reducible exact H | (rw [hy283]; exact H) | exact H
        have Ny283 := Aside0.mk hy283
        clear hy283
        by_cases c256 : (rd_L2 y283 (ji33)).length = 256
        rotate_left
        ·rw [if_neg c256] at H
         exact absurd H (by simp)
        rw [if_pos c256] at H
        have C256 := Aside0.mk c256
        clear c256
        simp only [Option.some.injEq, Prod.mk.injEq] at H
        obtain ⟨rfl, rfl, rfl⟩ := H
        go_upto_region 12 with (first | ((with_reducible refine gate_callee (f := 58) rfl ?_); refine goesM_ (some 26) rfl rfl Try.func58 #[.pointer (some ⟨g, 0, none⟩), .int .i64 4] ?_; (with_reducible refine (spec_l1Once.calls g s0_0 x1001_1 x1002_1 4 false t273 t274 w0 _ ?side1 ?side2 A18.out).mono ?_); (case side1 => exact si HI0.out); (case side2 => exact bi HB.out); rintro e w37 ⟨rfl, hi, hb, hk⟩; refine ⟨_, rfl, ?_⟩; have n0_ := Aside0.mk (Kd.S_mono (Kd.S_keep (IsS107.apartS (show IsS107 w0 _ g s0_0 x1001_1 x1002_1 from si HI0.out) (ks HO_261000.out) (by decide)) hk (fun _ h => h.2)) (fun _ h => h.1)); have n1_ := Aside0.mk (KeepBut.blk hk (g' := gb259) (o := .cells #[.slice none 0 0] 29 (0, 0)) (kb BK259.out) NB259_0.out (by simp)); have n2_ := Aside0.mk (KeepBut.blk hk (g' := gb260) (o := .cells #[u261000] 29 (0, 0)) (kb BK260.out) NB260_0.out (by simp)); have n3_ := Aside0.mk (KeepBut.trans (kp HK.out) hk (.inl rfl)); have n4_ := Aside0.mk (hb); have n5_ := Aside0.mk (hi); clear HO_261000; clear BK259; clear BK260; clear HK; clear HB; clear HI0; have HO_261000 := n0_; have BK259 := n1_; have BK260 := n2_; have HK := n3_; have HB := n4_; have HI0 := n5_; clear n0_ n1_ n2_ n3_ n4_ n5_; (try clear hb); (try clear hb2); (try clear hk); (try clear hi)) | ((with_reducible refine gate_callee (f := 107) rfl ?_); refine goesM_ (some 30) rfl rfl Try.func107 #[.pointer (some ⟨g, 0, none⟩)] ?_; (with_reducible refine (spec_l2Main.calls g s0_0 t273 t274 t276 t277 t278 w0 _ ?side1 ?side2 A30.out).mono ?_); (case side1 => exact si HI0.out); (case side2 => exact bi HB.out); rintro e w38 ⟨rfl, hi, hb, hk⟩; refine ⟨_, rfl, ?_⟩; have n0_ := Aside0.mk (Kd.S_mono (Kd.S_keep (IsS107.apartS (show IsS107 w0 _ g s0_0 t273 t274 from si HI0.out) (ks HO_261000.out) (by decide)) hk (fun _ h => h.2)) (fun _ h => h.1)); have n1_ := Aside0.mk (KeepBut.blk hk (g' := gb259) (o := .cells #[.slice none 0 0] 29 (0, 0)) (kb BK259.out) NB259_0.out (by simp)); have n2_ := Aside0.mk (KeepBut.blk hk (g' := gb260) (o := .cells #[u261000] 29 (0, 0)) (kb BK260.out) NB260_0.out (by simp)); have n3_ := Aside0.mk (KeepBut.trans (kp HK.out) hk (.inl rfl)); have n4_ := Aside0.mk (hb); have n5_ := Aside0.mk (hi); clear HO_261000; clear BK259; clear BK260; clear HK; clear HB; clear HI0; have HO_261000 := n0_; have BK259 := n1_; have BK260 := n2_; have HK := n3_; have HB := n4_; have HI0 := n5_; clear n0_ n1_ n2_ n3_ n4_ n5_; (try clear hb); (try clear hb2); (try clear hk); (try clear hi)) | ((with_reducible refine gate_callee (f := 106) rfl ?_); refine goesM_ (some 31) rfl rfl Try.func106 #[.string t276] ?_; (with_reducible refine (spec_Assemble.calls k1 t276 t279 t280 _ A31.out).mono ?_); rintro e w39 ⟨v281, rfl, ho0, hb⟩; refine ⟨_, rfl, ?_⟩; have n0_ := Aside0.mk (Kd.S_elder' (ks HO_261000.out) (Kd.R_base ho0) hb); have n1_ := Aside0.mk (Kd.R_lower ho0 (keep_size (w := w) (g := g) (row := none) (kp HK.out))); have n2_ := Aside0.mk (blk_below (g := gb259) (o := .cells #[.slice none 0 0] 29 (0, 0)) (kb BK259.out) hb); have n3_ := Aside0.mk (blk_below (g := gb260) (o := .cells #[u261000] 29 (0, 0)) (kb BK260.out) hb); have n4_ := Aside0.mk (IsS107.below (si HI0.out) hb); have n5_ := Aside0.mk (KeepBut.trans (kp HK.out) (KeepBut.of_below hb g none) (.inl rfl)); have n6_ := Aside0.mk (below_step (bi HB.out) hb); clear HO_261000; clear BK259; clear BK260; clear HI0; clear HK; clear HB; have HO_261000 := n0_; have HO282 := n1_; have BK259 := n2_; have BK260 := n3_; have HI0 := n4_; have HK := n5_; have HB := n6_; clear n0_ n1_ n2_ n3_ n4_ n5_ n6_; (try clear hb); (try clear hb2); (try clear hk); (try clear hi); (try clear ho0); obtain ⟨Ao40, co40, eo40⟩ := Kd.R_slice HO282.out; subst eo40; have hnb41 := NB260_259.out; have hnc41 := NB259_260.out; have hnb42 := NB260_0.out; have hnc42 := NB0_260.out; have hcz43_0 : w39.cell? ⟨gb260, 0, none⟩ = some (u261000) := cl BK260 0; have hfz43_0 := blk_frozen BK260.out 0; have p36 : 0 ≤ ((ji33) : Int) := dt; have q36 : ((ji33) : Int) < ((x261000_1.length : Int) : Int) := dt; obtain ⟨go36, co36, eo36, gb36, gl36, cl36, HG36⟩ := Kd.S_form HO_261000.out (by omega); (first | cases eo36 | (injection eo36 with ea_ en_ ec_; (first | subst ea_ | (injection ea_ with ea_; subst ea_)); subst ec_; clear en_)); have GB36 := Aside0.mk gb36; have GG36 := Aside0.mk HG36; clear gb36 gl36 HG36; obtain ⟨_, ce36, hcl36, hM36, hcc36, hfr36, _, _⟩ := Kd.S_elem HO_261000.out [] ((ji33) : Int) p36 q36; obtain ⟨ve36_0, rfl, ge36_0⟩ := hM36; have hx36_0 := hcc36 0 _ rfl; have hf36_0 := hfr36 0; (try simp only [show ((Kd.slice 3 (Kd.int .i64))).sz = 1 from rfl, Nat.mul_one, Nat.add_zero] at hx36_0); (try simp only [show ((Kd.slice 3 (Kd.int .i64))).sz = 1 from rfl, Nat.mul_one, Nat.add_zero] at hf36_0); (try clear hM36); clear hcl36 hcc36 hfr36; replace p36 := eq_true p36; replace q36 := eq_true q36; have n_ := Aside0.mk (Kd.S_mono (ok' := (fun k_ => some k_ ≠ (.slice Ao40 t279.length co40 : Value).ownBlock)) HO_261000.out (fun k_ hk => hk.2)); clear HO_261000; have HO_261000 := n_; clear n_; have HX44 := Aside0.mk (show Kd.S (Kd.slice 3 (Kd.int .i64)) 30 w39 w.heap.size (fun k_ => ((fun _ => True)) k_ ∧ ¬ ((fun k_ => some k_ = (.slice Ao40 t279.length co40 : Value).ownBlock)) k_) (.slice (some ⟨go36, 0, none⟩) x261000_1.length co36) x261000_1 from (ks (Kd.S_mono HO_261000.out (fun k_ hk => ⟨trivial, fun e_ => hk e_⟩)))); obtain ⟨oki44, ce44, hcl44, hM44, hcc44, hfr44, hoki44, hH44⟩ := Kd.S_elem HX44.out [] ((ji33) : Int) dt (by have h_ : ((ji33) : Int) < ((x261000_1.length : Int) : Int) := dt; first | exact h_ | (have e_ := (Kd.S_reads' HO_261000.out).1; omega) | simpa using h_); obtain ⟨ve44_0, rfl, ge44_0⟩ := hM44; have HP44 := Kd.S_seg hH44 dt (by have h_ : ((ji33) : Int) < ((x261000_1.length : Int) : Int) := dt; first | exact h_ | (have e_ := (Kd.S_reads' HO_261000.out).1; omega) | simpa using h_) (seg := [.slice Ao40 t279.length co40]) (j := 0) (show 1 ≤ 1 from by decide) (x' := t279) (Kd.M_row (Kd.R_mono (Kd.R_tight rfl (Kd.R_mono (ok' := fun k_ => ((fun _ => True)) k_ ∧ k_ ≠ go36) (Kd.R_apart' (HO282.out) (Kd.S_typed HO_261000.out) (by decide)) (fun k_ hk => ⟨trivial, fun e_ => (hk.2) (by rw [e_]; rfl)⟩))) (fun _ h_ => Or.inr (h_)))) (fun _ hk => hk) (fun k_ hk_ => ((Kd.R_mono (ok' := fun k_ => ((fun _ => True)) k_ ∧ k_ ≠ go36) (Kd.R_apart' (HO282.out) (Kd.S_typed HO_261000.out) (by decide)) (fun k_ hk => ⟨trivial, fun e_ => (hk.2) (by rw [e_]; rfl)⟩))).1 k_ hk_.symm); have hx44_0 := hcc44 0 _ rfl; (try simp only [show ((Kd.slice 3 (Kd.int .i64))).sz = 1 from rfl, Nat.mul_one, Nat.add_zero] at hx44_0); have hf44_0 := hfr44 0; (try simp only [show ((Kd.slice 3 (Kd.int .i64))).sz = 1 from rfl, Nat.mul_one, Nat.add_zero] at hf44_0); (try clear hM44); clear hcl44 hcc44 hfr44 hoki44 hH44; (try simp only [show ((Kd.slice 3 (Kd.int .i64))).sz = 1 from rfl, Nat.mul_one, Nat.add_zero] at HP44)) | ((with_reducible refine gate_store (t := 30) (p := 42) rfl ?_); refine store_event (t := 30) (p := 42) (v := ?vo_w45) (w1 := (w39.setCell ⟨go36, ((ji33) : Int).toNat, none⟩ (.slice Ao40 t279.length co40))) ?hg ?ho ?hn ?hr ?_; (case ho => rfl); (case hg => rfl); (case hn => rfl); (case hr => first | (go_simp; done) | (go_simp; rfl)); intro w45 hw; have hg : w39.grownBy w45 (some go36) := (by rw [hw]; exact HP44.2); have hp_ : Kd.S (Kd.slice 3 (Kd.int .i64)) 30 w45 w.heap.size (fun _ => True) (.slice (some ⟨go36, 0, none⟩) x261000_1.length co36) y283 := (by rw [hw, Ny283.out]; exact HP44.1); clear HP44; have n0_ := Aside0.mk (hp_); have n1_ := Aside0.mk (blk_grown (g := gb259) (o := .cells #[.slice none 0 0] 29 (0, 0)) (kb BK259.out) hg (Kd.S_ne HO_261000.out BK259.out (by decide))); have n2_ := Aside0.mk (blk_grown (g := gb260) (o := .cells #[.slice (some ⟨go36, 0, none⟩) x261000_1.length co36] 29 (0, 0)) (kb BK260.out) hg (Kd.S_ne HO_261000.out BK260.out (by decide))); have n3_ := Aside0.mk (IsS107.grown (si HI0.out) hg (IsS107.own_neS HI0.out HO_261000.out (by decide))); have n4_ := Aside0.mk ((by rw [hw]; exact below_set (HB.out) (Nat.le_trans HL.out GB36.out) : Below w0.heap.size w0 w45)); have n5_ := Aside0.mk (KeepBut.trans (kp HK.out) (KeepBut.of_grown hg g) (Kd.S_base2 HO_261000.out)); clear HO_261000; clear BK259; clear BK260; clear HI0; clear HB; clear HK; clear HO282; have HO_261000 := n0_; have BK259 := n1_; have BK260 := n2_; have HI0 := n3_; have HB := n4_; have HK := n5_; clear n0_ n1_ n2_ n3_ n4_ n5_; clear hg hw hp_; have hcz46_0 : w45.cell? ⟨gb260, 0, none⟩ = some (.slice (some ⟨go36, 0, none⟩) x261000_1.length co36) := cl BK260 0; have hfz46_0 := blk_frozen BK260.out 0; have p284 : 0 ≤ ((ji33) : Int) := dt; have q284 : (ji33) < (y283.length : Int) := (by have h_ : ((ji33) : Int) < ((x261000_1.length : Int) : Int) := dt; first | (have e_ := (Kd.S_reads' HO_261000.out).1; omega) | simpa only [Ny283.out, List.length_set] using h_); have ql284 : (((ji33) : Int) < ((x261000_1.length : Int) : Int)) = True := eq_true dt; obtain ⟨ad284, A284_0, c284_0, e284, hx284_0, hl284_0, hi284_0⟩ := at_L2 (Kd.S_reads' HO_261000.out).2.2 (ji33) p284 q284; obtain rfl : (⟨go36, 0, none⟩ : Addr) = ad284 := (by injection e284); obtain ⟨ce284, hce284, hMe284, hcc284⟩ := Kd.S_get HO_261000.out [] (ji33) p284 (by first | exact q284 | exact dt | (have e_ := (Kd.S_reads' HO_261000.out).1; omega)); obtain ⟨ve284_0, rfl, ge284_0⟩ := hMe284; have hv284_0 := hcc284 0 _ rfl; rw [Nat.add_zero, show ((Kd.slice 3 (Kd.int .i64))).sz = 1 from rfl, Nat.mul_one] at hv284_0; replace hv284_0 := Option.some.inj (hv284_0.symm.trans hx284_0); rw [hv284_0] at ge284_0; have HL284_0 := Aside0.mk (show Kd.R (Kd.int .i64) 3 _ _ _ _ (rd_L2 y283 (ji33)) from ge284_0); clear hv284_0 ge284_0; clear hcc284 hce284; (first | simp only [add_plain] at hx284_0 | simp only [add_at] at hx284_0 | simp only [Addr.add, Nat.zero_add] at hx284_0 | skip); have HR284_0 := Aside0.mk hi284_0; have HC284_0 := Aside0.mk hl284_0; clear hi284_0 hl284_0; replace p284 := eq_true p284; replace q284 := eq_true q284; have hnb47 := NB259_0.out; have hnc47 := NB0_259.out; have hcz48_0 : w45.cell? ⟨gb259, 0, none⟩ = some (.slice none 0 0) := cl BK259 0; have hfz48_0 := blk_frozen BK259.out 0))
        have hji_ : (0 : Int) ≤ ji33 := of_decide_eq_true (by assumption)
        have hjl_ : ji33 < (y283.length : Int) := by first | exact of_decide_eq_true (by assumption) | (rw [Ny283.out, List.length_set]; exact of_decide_eq_true (by assumption))
        obtain ⟨gl, eA_, hgl, ⟨clr, hbl⟩, hcl, hS6⟩ := six_ok HO_261000.out ji33 hji_ hjl_ (by first | exact hx284_0 | (rw [add_plain]; exact hx284_0)) C256.out
        subst eA_
        have GL := Aside0.mk hgl
        have HBL := Aside0.mk hbl
        have HS6 := Aside0.mk hS6
        have HLN := Aside0.mk C256.out
        have z0 := (hcl 250 (by omega)).1
        have z1 := (hcl 251 (by omega)).1
        have z2 := (hcl 252 (by omega)).1
        have z3 := (hcl 253 (by omega)).1
        have z4 := (hcl 254 (by omega)).1
        have z5 := (hcl 255 (by omega)).1
        have f0 := (hcl 250 (by omega)).2
        have f1 := (hcl 251 (by omega)).2
        have f2 := (hcl 252 (by omega)).2
        have f3 := (hcl 253 (by omega)).2
        have f4 := (hcl 254 (by omega)).2
        have f5 := (hcl 255 (by omega)).2
        have b0 : ((250 : Int) < ((rd_L2 y283 ji33).length : Int)) = True := eq_true (by have := C256.out; omega)
        have b1 : ((251 : Int) < ((rd_L2 y283 ji33).length : Int)) = True := eq_true (by have := C256.out; omega)
        have b2 : ((252 : Int) < ((rd_L2 y283 ji33).length : Int)) = True := eq_true (by have := C256.out; omega)
        have b3 : ((253 : Int) < ((rd_L2 y283 ji33).length : Int)) = True := eq_true (by have := C256.out; omega)
        have b4 : ((254 : Int) < ((rd_L2 y283 ji33).length : Int)) = True := eq_true (by have := C256.out; omega)
        have b5 : ((255 : Int) < ((rd_L2 y283 ji33).length : Int)) = True := eq_true (by have := C256.out; omega)
        have n1 : gl ≠ gb259 := blk_ne hbl BK259.out (by decide)
        have n2 : gb259 ≠ gl := fun e => n1 e.symm
        have n3 : gl ≠ gb260 := blk_ne hbl BK260.out (by decide)
        have n4 : gb260 ≠ gl := fun e => n3 e.symm
        clear hcl hbl hgl hS6 hji_ hjl_
        go_wp2
        refine bodyPost_ret (results_cell_row rfl _ _ gb259 29 #[.slice (some ⟨go36, 0, none⟩) x261000_1.length co36] (0, 0) _ rfl (blk_put (cs := #[.slice none 0 0]) (six_blk BK259.out n2) 0 _ rfl) Try.underlying29 rfl (by kernel_rfl)) rfl ?_
        exact ⟨_, rfl, Kd.S_mono (Kd.S_far (p := ⟨gb259, 0, none⟩) (Kd.S_types HS6.out (six_blk BK259.out n2) (by decide)) (fun _ hk => hk.2) (.slice (some ⟨go36, 0, none⟩) x261000_1.length co36)) (fun _ hk => trivial), (six_state HI0.out (IsS107.ne_blk HI0.out HBL.out (by decide))).far (p := ⟨gb259, 0, none⟩) NB0_259.out _, below_set (six_below HB.out (Nat.le_trans HW0.out GL.out)) GE259.out, keep_far (p := ⟨gb259, 0, none⟩) (six_keep HK.out GL.out) GW259.out _⟩
       ·rw [if_neg c35] at H
        exact absurd H (by simp)
      ·rw [if_neg c34] at H
       exact absurd H (by simp)
     ·rw [if_neg c32] at H
      have c32b0 : ((t279.length : Int) == 256) = false := beq_eq_false_iff_ne.mpr c32
      have c32b1 : ((t279.length : Int) != 256) = true := bne_iff_ne.mpr c32
      obtain ⟨ji49, hji49⟩ : ∃ j_ : Int, (wrap64 ((wrap64 (1 + t261)) - 1)) = j_ := ⟨_, rfl⟩
      replace H : (if 0 ≤ (ji49) then (if (ji49) < (x261000_1.length : Int) then (if (rd_L2 x261000_1 (ji49)).length = 256 then (some (lastSix x261000_1 (ji49), t277, t278)) else (none)) else (none)) else (none)) = some (r1, r2, r3) := by first | (rw [hji49] at H; exact H) | (simp only [hji49] at H ⊢; exact H)
      (try rw [hji49] at A18)
      (try rw [hji49] at A30)
      (try rw [hji49] at A31)
      have hji49w : (IntKind.i64.wrap ((wrap64 (1 + t261)) - 1)) = ji49 := (i64_w _).trans hji49
      by_cases c50 : 0 ≤ (ji49)
      ·rw [if_pos c50] at H
       have c50b0 : decide (0 ≤ (ji49)) = true := decide_eq_true c50
       clear c50
       by_cases c51 : (ji49) < (x261000_1.length : Int)
       ·rw [if_pos c51] at H
        have c51b0 : decide ((ji49) < (x261000_1.length : Int)) = true := decide_eq_true c51
        clear c51
        by_cases c256 : (rd_L2 x261000_1 (ji49)).length = 256
        rotate_left
        ·rw [if_neg c256] at H
         exact absurd H (by simp)
        rw [if_pos c256] at H
        have C256 := Aside0.mk c256
        clear c256
        simp only [Option.some.injEq, Prod.mk.injEq] at H
        obtain ⟨rfl, rfl, rfl⟩ := H
        go_upto_region 12 with (first | ((with_reducible refine gate_callee (f := 58) rfl ?_); refine goesM_ (some 26) rfl rfl Try.func58 #[.pointer (some ⟨g, 0, none⟩), .int .i64 4] ?_; (with_reducible refine (spec_l1Once.calls g s0_0 x1001_1 x1002_1 4 false t273 t274 w0 _ ?side1 ?side2 A18.out).mono ?_); (case side1 => exact si HI0.out); (case side2 => exact bi HB.out); rintro e w52 ⟨rfl, hi, hb, hk⟩; refine ⟨_, rfl, ?_⟩; have n0_ := Aside0.mk (Kd.S_mono (Kd.S_keep (IsS107.apartS (show IsS107 w0 _ g s0_0 x1001_1 x1002_1 from si HI0.out) (ks HO_261000.out) (by decide)) hk (fun _ h => h.2)) (fun _ h => h.1)); have n1_ := Aside0.mk (KeepBut.blk hk (g' := gb259) (o := .cells #[.slice none 0 0] 29 (0, 0)) (kb BK259.out) NB259_0.out (by simp)); have n2_ := Aside0.mk (KeepBut.blk hk (g' := gb260) (o := .cells #[u261000] 29 (0, 0)) (kb BK260.out) NB260_0.out (by simp)); have n3_ := Aside0.mk (KeepBut.trans (kp HK.out) hk (.inl rfl)); have n4_ := Aside0.mk (hb); have n5_ := Aside0.mk (hi); clear HO_261000; clear BK259; clear BK260; clear HK; clear HB; clear HI0; have HO_261000 := n0_; have BK259 := n1_; have BK260 := n2_; have HK := n3_; have HB := n4_; have HI0 := n5_; clear n0_ n1_ n2_ n3_ n4_ n5_; (try clear hb); (try clear hb2); (try clear hk); (try clear hi)) | ((with_reducible refine gate_callee (f := 107) rfl ?_); refine goesM_ (some 30) rfl rfl Try.func107 #[.pointer (some ⟨g, 0, none⟩)] ?_; (with_reducible refine (spec_l2Main.calls g s0_0 t273 t274 t276 t277 t278 w0 _ ?side1 ?side2 A30.out).mono ?_); (case side1 => exact si HI0.out); (case side2 => exact bi HB.out); rintro e w53 ⟨rfl, hi, hb, hk⟩; refine ⟨_, rfl, ?_⟩; have n0_ := Aside0.mk (Kd.S_mono (Kd.S_keep (IsS107.apartS (show IsS107 w0 _ g s0_0 t273 t274 from si HI0.out) (ks HO_261000.out) (by decide)) hk (fun _ h => h.2)) (fun _ h => h.1)); have n1_ := Aside0.mk (KeepBut.blk hk (g' := gb259) (o := .cells #[.slice none 0 0] 29 (0, 0)) (kb BK259.out) NB259_0.out (by simp)); have n2_ := Aside0.mk (KeepBut.blk hk (g' := gb260) (o := .cells #[u261000] 29 (0, 0)) (kb BK260.out) NB260_0.out (by simp)); have n3_ := Aside0.mk (KeepBut.trans (kp HK.out) hk (.inl rfl)); have n4_ := Aside0.mk (hb); have n5_ := Aside0.mk (hi); clear HO_261000; clear BK259; clear BK260; clear HK; clear HB; clear HI0; have HO_261000 := n0_; have BK259 := n1_; have BK260 := n2_; have HK := n3_; have HB := n4_; have HI0 := n5_; clear n0_ n1_ n2_ n3_ n4_ n5_; (try clear hb); (try clear hb2); (try clear hk); (try clear hi)) | ((with_reducible refine gate_callee (f := 106) rfl ?_); refine goesM_ (some 31) rfl rfl Try.func106 #[.string t276] ?_; (with_reducible refine (spec_Assemble.calls k1 t276 t279 t280 _ A31.out).mono ?_); rintro e w54 ⟨v281, rfl, ho0, hb⟩; refine ⟨_, rfl, ?_⟩; have n0_ := Aside0.mk (Kd.S_elder' (ks HO_261000.out) (Kd.R_base ho0) hb); have n1_ := Aside0.mk (Kd.R_lower ho0 (keep_size (w := w) (g := g) (row := none) (kp HK.out))); have n2_ := Aside0.mk (blk_below (g := gb259) (o := .cells #[.slice none 0 0] 29 (0, 0)) (kb BK259.out) hb); have n3_ := Aside0.mk (blk_below (g := gb260) (o := .cells #[u261000] 29 (0, 0)) (kb BK260.out) hb); have n4_ := Aside0.mk (IsS107.below (si HI0.out) hb); have n5_ := Aside0.mk (KeepBut.trans (kp HK.out) (KeepBut.of_below hb g none) (.inl rfl)); have n6_ := Aside0.mk (below_step (bi HB.out) hb); clear HO_261000; clear BK259; clear BK260; clear HI0; clear HK; clear HB; have HO_261000 := n0_; have HO282 := n1_; have BK259 := n2_; have BK260 := n3_; have HI0 := n4_; have HK := n5_; have HB := n6_; clear n0_ n1_ n2_ n3_ n4_ n5_ n6_; (try clear hb); (try clear hb2); (try clear hk); (try clear hi); (try clear ho0); obtain ⟨Ao55, co55, eo55⟩ := Kd.R_slice HO282.out; subst eo55; have hnb56 := NB260_259.out; have hnc56 := NB259_260.out; have hnb57 := NB260_0.out; have hnc57 := NB0_260.out; have hcz58_0 : w54.cell? ⟨gb260, 0, none⟩ = some (u261000) := cl BK260 0; have hfz58_0 := blk_frozen BK260.out 0; obtain ⟨Ao59, co59, eo59⟩ := Kd.S_slice HO_261000.out; subst eo59; have p285 : 0 ≤ ((ji49) : Int) := dt; have q285 : (ji49) < (x261000_1.length : Int) := dt; obtain ⟨ad285, A285_0, c285_0, e285, hx285_0, hl285_0, hi285_0⟩ := at_L2 (Kd.S_reads' HO_261000.out).2.2 (ji49) p285 q285; cases e285; obtain ⟨ce285, hce285, hMe285, hcc285⟩ := Kd.S_get HO_261000.out [] (ji49) p285 (by first | exact q285 | exact dt | (have e_ := (Kd.S_reads' HO_261000.out).1; omega)); obtain ⟨ve285_0, rfl, ge285_0⟩ := hMe285; have hv285_0 := hcc285 0 _ rfl; rw [Nat.add_zero, show ((Kd.slice 3 (Kd.int .i64))).sz = 1 from rfl, Nat.mul_one] at hv285_0; replace hv285_0 := Option.some.inj (hv285_0.symm.trans hx285_0); rw [hv285_0] at ge285_0; have HL285_0 := Aside0.mk (show Kd.R (Kd.int .i64) 3 _ _ _ _ (rd_L2 x261000_1 (ji49)) from ge285_0); clear hv285_0 ge285_0; clear hcc285 hce285; have HR285_0 := Aside0.mk hi285_0; have HC285_0 := Aside0.mk hl285_0; clear hi285_0 hl285_0; replace p285 := eq_true p285; replace q285 := eq_true q285; have hnb60 := NB259_0.out; have hnc60 := NB0_259.out; have hcz61_0 : w54.cell? ⟨gb259, 0, none⟩ = some (.slice none 0 0) := cl BK259 0; have hfz61_0 := blk_frozen BK259.out 0))
        have hji_ : (0 : Int) ≤ ji49 := of_decide_eq_true (by assumption)
        have hjl_ : ji49 < (x261000_1.length : Int) := by first | exact of_decide_eq_true (by assumption) | (rw [Ny0.out, List.length_set]; exact of_decide_eq_true (by assumption))
        obtain ⟨gl, eA_, hgl, ⟨clr, hbl⟩, hcl, hS6⟩ := six_ok HO_261000.out ji49 hji_ hjl_ (by first | exact hx285_0 | (rw [add_plain]; exact hx285_0)) C256.out
        subst eA_
        have GL := Aside0.mk hgl
        have HBL := Aside0.mk hbl
        have HS6 := Aside0.mk hS6
        have HLN := Aside0.mk C256.out
        have z0 := (hcl 250 (by omega)).1
        have z1 := (hcl 251 (by omega)).1
        have z2 := (hcl 252 (by omega)).1
        have z3 := (hcl 253 (by omega)).1
        have z4 := (hcl 254 (by omega)).1
        have z5 := (hcl 255 (by omega)).1
        have f0 := (hcl 250 (by omega)).2
        have f1 := (hcl 251 (by omega)).2
        have f2 := (hcl 252 (by omega)).2
        have f3 := (hcl 253 (by omega)).2
        have f4 := (hcl 254 (by omega)).2
        have f5 := (hcl 255 (by omega)).2
        have b0 : ((250 : Int) < ((rd_L2 x261000_1 ji49).length : Int)) = True := eq_true (by have := C256.out; omega)
        have b1 : ((251 : Int) < ((rd_L2 x261000_1 ji49).length : Int)) = True := eq_true (by have := C256.out; omega)
        have b2 : ((252 : Int) < ((rd_L2 x261000_1 ji49).length : Int)) = True := eq_true (by have := C256.out; omega)
        have b3 : ((253 : Int) < ((rd_L2 x261000_1 ji49).length : Int)) = True := eq_true (by have := C256.out; omega)
        have b4 : ((254 : Int) < ((rd_L2 x261000_1 ji49).length : Int)) = True := eq_true (by have := C256.out; omega)
        have b5 : ((255 : Int) < ((rd_L2 x261000_1 ji49).length : Int)) = True := eq_true (by have := C256.out; omega)
        have n1 : gl ≠ gb259 := blk_ne hbl BK259.out (by decide)
        have n2 : gb259 ≠ gl := fun e => n1 e.symm
        have n3 : gl ≠ gb260 := blk_ne hbl BK260.out (by decide)
        have n4 : gb260 ≠ gl := fun e => n3 e.symm
        clear hcl hbl hgl hS6 hji_ hjl_
        go_wp2
        refine bodyPost_ret (results_cell_row rfl _ _ gb259 29 #[.slice (some ad285) x261000_1.length co59] (0, 0) _ rfl (blk_put (cs := #[.slice none 0 0]) (six_blk BK259.out n2) 0 _ rfl) Try.underlying29 rfl (by kernel_rfl)) rfl ?_
        exact ⟨_, rfl, Kd.S_mono (Kd.S_far (p := ⟨gb259, 0, none⟩) (Kd.S_types HS6.out (six_blk BK259.out n2) (by decide)) (fun _ hk => hk.2) (.slice (some ad285) x261000_1.length co59)) (fun _ hk => trivial), (six_state HI0.out (IsS107.ne_blk HI0.out HBL.out (by decide))).far (p := ⟨gb259, 0, none⟩) NB0_259.out _, below_set (six_below HB.out (Nat.le_trans HW0.out GL.out)) GE259.out, keep_far (p := ⟨gb259, 0, none⟩) (six_keep HK.out GL.out) GW259.out _⟩
       ·rw [if_neg c51] at H
        exact absurd H (by simp)
      ·rw [if_neg c50] at H
       exact absurd H (by simp)

/-! ### spec_l2Draw (mine) -/
/-- A row of the call's own that may begin inside its block, as an element. -/
def cutK {α : Type} (e : Nat) (d : Kd α) : Kd (List α) where
 sz := 1
 E := e :: d.E
 K := (Kd.slice e d).K
 M := fun w base ok xs cs => ∃ v, cs = [v] ∧ d.Q e w base ok v xs
 K_len := fun h => (Kd.slice e d).K_len h
 K_one := fun h => (Kd.slice e d).K_one h
 K_below := fun hb h => (Kd.slice e d).K_below hb h
 K_of_M := by
  rintro w base ok x cs ⟨v, rfl, h⟩
  obtain ⟨A, c, rfl, hl, hC⟩ := Kd.Q_reads h
  exact ⟨A, c, rfl, hl, hC⟩
 M_mono := by
  rintro w base ok ok' x cs hok ⟨v, rfl, h⟩
  exact ⟨v, rfl, Kd.Q_mono h hok⟩
 M_bound := by
  rintro w base ok x cs ⟨v, rfl, h⟩
  exact ⟨v, rfl, Kd.Q_bound h⟩
 M_move := by
  rintro w w1 base ok x cs hm ⟨v, rfl, h⟩
  exact ⟨v, rfl, Kd.Q_move h hm⟩
 M_lower := by
  rintro w base base' ok x cs hb ⟨v, rfl, h⟩
  exact ⟨v, rfl, Kd.Q_lower h hb⟩
theorem S_cut {α : Type} {e e' : Nat} {d : Kd α} {w : World} {base : Nat} {ok : Nat → Prop} {v : Value} {xs : List (List α)} (h : Kd.S (Kd.slice e d) e' w base ok v xs) : Kd.S (cutK e d) e' w base ok v xs := by
 obtain ⟨f, h0, inner, ho, hr⟩ := h
 refine ⟨f, h0, inner, ho, hr.1, fun j p hj => ?_⟩
 obtain ⟨u, hu, hR⟩ := hr.2 j p hj
 exact ⟨u, hu, Kd.Q_of_R hR⟩
theorem C_uncut {α : Type} {e : Nat} {d : Kd α} {w : World} {A : Option Addr} {n : Nat} {xs : List (List α)} (h : (cutK e d).C w A n xs) : (Kd.slice e d).C w A n xs := h
section
variable {W : World} {base go n cap : Nat} {ok : Nat → Prop} {X : List (List Int)}
/-- The first row's header. -/
theorem first_row (h : Kd.S (Kd.slice 3 (Kd.int .i64)) 30 W base ok (.slice (some ⟨go, 0, none⟩) n cap) X) (h0 : 0 < X.length) :
  ∃ A c, W.cell? ⟨go, 0, none⟩ = some (.slice A (rd_L2 X 0).length c) ∧ W.frozen? ⟨go, 0, none⟩ = false ∧ Kd.R (Kd.int .i64) 3 W base ok (.slice A (rd_L2 X 0).length c) (rd_L2 X 0) := by
 have hn := (Kd.S_reads' h).1
 obtain ⟨oki, cc, _, hM, hcc, hf, hoki, _⟩ := Kd.S_elem h [] 0 (by omega) (by omega)
 obtain ⟨v, rfl, hR⟩ : ∃ v, cc = [v] ∧ Kd.R (Kd.int .i64) 3 W base oki v (X.getD (0 : Int).toNat []) := hM
 obtain ⟨A, c, rfl⟩ := Kd.R_slice hR
 exact ⟨A, c, hcc 0 _ rfl, hf 0, Kd.R_mono hR (fun k hk => (hoki k hk).1)⟩
/-- The first row is a cut of what it was. -/
theorem first_cut (h : Kd.S (Kd.slice 3 (Kd.int .i64)) 30 W base ok (.slice (some ⟨go, 0, none⟩) n cap) X) (h0 : 0 < X.length) {A : Option Addr} {m c : Nat} (hx : W.cell? ⟨go, 0, none⟩ = some (.slice A m c)) (h1 : 1 ≤ (rd_L2 X 0).length) :
  Kd.S (cutK 3 (Kd.int .i64)) 30 (W.setCell ⟨go, 0, none⟩ (.slice (if c = 1 then A else A.map (·.add 1)) (m - 1) (c - 1))) base ok (.slice (some ⟨go, 0, none⟩) n cap) (X.set 0 ((rd_L2 X 0).drop 1)) := by
 have hn := (Kd.S_reads' h).1
 obtain ⟨oki, cc, _, hM, hcc, hf, hoki, hH⟩ := Kd.S_elem (S_cut h) [] 0 (by omega) (by omega)
 obtain ⟨v, rfl, hQ⟩ : ∃ v, cc = [v] ∧ Kd.Q (Kd.int .i64) 3 W base oki v (X.getD (0 : Int).toNat []) := hM
 have hv : W.cell? ⟨go, 0, none⟩ = some v := hcc 0 _ rfl
 rw [hx] at hv
 obtain rfl := Option.some.inj hv
 have hd := Kd.Q_drop (k := 1) hQ h1
 have := (Kd.S_seg (okg := fun _ => False) (okp := oki) (seg := [.slice (if c = 1 then A else A.map (·.add 1)) (m - 1) (c - 1)]) (j := 0) (Kd.H_mono hH (fun k hk => ⟨hk, fun h => h⟩)) (by omega) (by omega) (by show 0 + 1 ≤ 1; omega) (x' := (rd_L2 X 0).drop 1) ⟨_, rfl, hd⟩ (fun k hk => .inl hk) (fun k hk => hk.elim)).1
 exact this
/-- A store into the first row. -/
theorem first_put (h : Kd.S (Kd.slice 3 (Kd.int .i64)) 30 W base ok (.slice (some ⟨go, 0, none⟩) n cap) X) (h0 : 0 < X.length) {A : Option Addr} {m c : Nat} (hx : W.cell? ⟨go, 0, none⟩ = some (.slice A m c)) (h3 : 3 < (rd_L2 X 0).length) :
  ∃ gl, A = some ⟨gl, 0, none⟩ ∧ m = (rd_L2 X 0).length ∧ base ≤ gl ∧ (∃ cells, W.heap[gl]? = some (.cells cells 3 (0, 0))) ∧ (∃ u, W.cell? ⟨gl, 3, none⟩ = some (.int .i64 u)) ∧ W.frozen? ⟨gl, 3, none⟩ = false ∧
   ∀ p : Int, Kd.S (Kd.slice 3 (Kd.int .i64)) 30 (W.setCell ⟨gl, 3, none⟩ (.int .i64 p)) base ok (.slice (some ⟨go, 0, none⟩) n cap) (X.set 0 ((rd_L2 X 0).set 3 p)) := by
 have hn := (Kd.S_reads' h).1
 obtain ⟨oki, cc, _, hM, hcc, hf, hoki, hH⟩ := Kd.S_elem h [] 0 (by omega) (by omega)
 obtain ⟨v, rfl, hR⟩ : ∃ v, cc = [v] ∧ Kd.R (Kd.int .i64) 3 W base oki v (X.getD (0 : Int).toNat []) := hM
 have hv : W.cell? ⟨go, 0, none⟩ = some v := hcc 0 _ rfl
 rw [hx] at hv
 obtain rfl := Option.some.inj hv
 have e2 : X.getD (0 : Int).toNat [] = rd_L2 X 0 := rfl
 rw [e2] at hR
 obtain ⟨gl, cap', e3, hg, hgl, hcells⟩ := Kd.R_form hR (by omega)
 injection e3 with a1 a2 a3
 subst a1 a2 a3
 have hok : oki gl := hR.1 gl rfl
 obtain ⟨hc3, hf3⟩ := Kd.R_celln 0 hR 3 (by omega) (by omega)
 refine ⟨gl, rfl, rfl, hg, hcells, ⟨_, hc3⟩, hf3, fun p => ?_⟩
 exact Kd.H_back (i := 0) (Kd.H_step hH (fun k _ hn _ => Below.heap_setCell _ _ _ k (fun e => hn (by rw [e]; exact hok)))) ⟨_, rfl, Kd.R_putn hR 3 p⟩ (fun _ hk => hk)
end
def spec_l2Draw.f (k : Nat) (s0_0 : List Int) (s0_1 : Int) (s0_2 : Int) : Option ((List (List Int)) × Int × Int) :=
 (spec_l2DrawRight.f k s0_0 s0_1 s0_2).bind fun q => (spec_l1Below.f s0_0 q.2.1 q.2.2 15).bind fun b =>
  if b.1 = 0 then (if 0 < q.1.length ∧ 1 ≤ (rd_L2 q.1 0).length then some (q.1.set 0 ((rd_L2 q.1 0).drop 1), b.2.1, b.2.2) else none)
  else if b.1 = 1 then (if 0 < q.1.length ∧ 3 < (rd_L2 q.1 0).length then (spec_l1PickInt.f s0_0 b.2.1 b.2.2 [-1, 256]).bind fun p => some (q.1.set 0 ((rd_L2 q.1 0).set 3 p.1), p.2.1, p.2.2) else none)
  else if b.1 = 2 then some ([], b.2.1, b.2.2) else some (q.1, b.2.1, b.2.2)
/-- What is known where the drawn image lies in its variable, and the cursor behind the draw of what becomes of it. -/
structure L2 (w0 w W : World) (g a b : Nat) (s0 : List Int) (x y : Int) (A : Option Addr) (c : Nat) (X : List (List Int)) : Prop where
 st : IsS107 w0 W g s0 x y
 keep : KeepBut w W g none
 below : Below w0.heap.size w0 W
 hw : w0.heap.size ≤ w.heap.size
 ba : W.heap[a]? = some (.cells #[.slice none 0 0] 29 (0, 0))
 bb : W.heap[b]? = some (.cells #[.slice A X.length c] 29 (0, 0))
 row : Kd.S (Kd.slice 3 (Kd.int .i64)) 30 W w.heap.size (fun _ => True) (.slice A X.length c) X
 ga : w.heap.size ≤ a
 gb : w.heap.size ≤ b
 ab : a ≠ b
theorem L2.call {w0 w W W' : World} {g a b : Nat} {s0 : List Int} {x y x' y' : Int} {A : Option Addr} {c : Nat} {X : List (List Int)} (h : L2 w0 w W g a b s0 x y A c X) (hi : IsS107 w0 W' g s0 x' y') (hb : Below w0.heap.size w0 W') (hk : KeepBut W W' g none) : L2 w0 w W' g a b s0 x' y' A c X :=
 ⟨hi, KeepBut.trans h.keep hk (.inl rfl), hb, h.hw, KeepBut.blk hk h.ba (fun e => IsS107.ne_blk h.st h.ba (by decide) e.symm) (by simp), KeepBut.blk hk h.bb (fun e => IsS107.ne_blk h.st h.bb (by decide) e.symm) (by simp),
  Kd.S_mono (Kd.S_keep (IsS107.apartS h.st h.row (by decide)) hk (fun _ h => h.2)) (fun _ _ => trivial), h.ga, h.gb, h.ab⟩
/-- The result's block, and the end. -/
theorem L2.done {w0 w W : World} {g a : Nat} {s0 : List Int} {x y : Int} {v : Value} {Y : List (List Int)} (st : IsS107 w0 W g s0 x y) (keep : KeepBut w W g none) (below : Below w0.heap.size w0 W) (hw : w0.heap.size ≤ w.heap.size)
  (ba : W.heap[a]? = some (.cells #[.slice none 0 0] 29 (0, 0))) (row : Kd.S (cutK 3 (Kd.int .i64)) 30 W w.heap.size (fun _ => True) v Y) (ga : w.heap.size ≤ a) :
  (W.setCell ⟨a, 0, none⟩ v).heap[a]? = some (.cells #[v] 29 (0, 0)) ∧ Kd.S (cutK 3 (Kd.int .i64)) 30 (W.setCell ⟨a, 0, none⟩ v) w.heap.size (fun _ => True) v Y ∧ IsS107 w0 (W.setCell ⟨a, 0, none⟩ v) g s0 x y ∧ Below w0.heap.size w0 (W.setCell ⟨a, 0, none⟩ v) ∧ KeepBut w (W.setCell ⟨a, 0, none⟩ v) g none :=
 ⟨blk_put ba 0 _ rfl, Kd.S_mono (Kd.S_far (p := ⟨a, 0, none⟩) (Kd.S_types row ba (by decide)) (fun _ hk => hk.2) v) (fun _ _ => trivial), st.far (p := ⟨a, 0, none⟩) (IsS107.ne_blk st ba (by decide)) v, below_set below (Nat.le_trans hw ga), keep_far (p := ⟨a, 0, none⟩) keep ga v⟩
set_option maxRecDepth 100000 in
set_option maxHeartbeats 4000000 in
theorem spec_l2Draw.calls (k : Nat) (g : Nat) (s0_0 : List Int) (s0_1 : Int) (s0_2 : Int) (r1 : List (List Int)) (r2 : Int) (r3 : Int) (w0 w : World) (hI : IsS107 w0 w g s0_0 s0_1 s0_2) (hB : Below w0.heap.size w0 w) (h : spec_l2Draw.f k s0_0 s0_1 s0_2 = some (r1, r2, r3)) :
  Calls Try.prog 65 #[.pointer (some ⟨g, 0, none⟩)] w fun e w' => ∃ v0_ : Value, e = .returned (.agg #[v0_]) ∧ Kd.S (cutK 3 (Kd.int .i64)) 30 w' w.heap.size (fun _ => True) v0_ r1 ∧ IsS107 w0 w' g s0_0 r2 r3 ∧ Below w0.heap.size w0 w' ∧ KeepBut w w' g none := by
 have hu29 := Try.underlying29
 unfold spec_l2Draw.f at h
 obtain ⟨⟨X, x1, x2⟩, hq, h2⟩ := Option.bind_eq_some_iff.mp h
 obtain ⟨⟨t, y1, y2⟩, hp, h3⟩ := Option.bind_eq_some_iff.mp h2
 clear h h2
 have HI := Aside0.mk hI
 have HB := Aside0.mk hB
 have HQ := Aside0.mk hq
 have HP := Aside0.mk hp
 have H3 := Aside0.mk h3
 clear hI hB hq hp h3
 go_enter Try.func65, Try.ntmps65
 go_wp2_with fail
 refine (spec_l2DrawRight.calls k g s0_0 s0_1 s0_2 X x1 x2 w0 _ ?i ?b HQ.out).mono ?_
 case i => exact IsS107.alloc HI.out _
 case b => exact below_alloc HB.out _
 rintro e W1 ⟨v0, rfl, hS, hi, hb, hk⟩
 obtain ⟨A, c, rfl⟩ := Kd.S_slice hS
 have hga : w.heap.size ≠ g := fun e => by have := IsS107.lt HI.out; omega
 have ba := KeepBut.blk hk (g' := w.heap.size) (alloc_at w _ _ rfl) hga (by simp)
 have hsz : w.heap.size + 1 ≤ W1.heap.size := by have := hk.1; rw [alloc_size] at this; omega
 have hl : L2 w0 w (W1.alloc (.cells #[.slice A X.length c] 29)) g w.heap.size W1.heap.size s0_0 x1 x2 A c X :=
  ⟨hi.alloc _, keep_alloc (KeepBut.trans (keep_alloc (KeepBut.refl w g none) _) hk (.inl rfl)) _, below_alloc hb _, HB.out.size, blk_alloc ba _, blk_new W1 _, Kd.S_alloc (Kd.S_lower hS (by rw [alloc_size]; omega)) _, Nat.le_refl _, by omega, by omega⟩
 have HL := Aside0.mk hl
 clear hS hi hb hk ba hl hsz
 go_wp2_with fail
 generalize W1.alloc (.cells #[.slice A X.length c] 29) = W2 at *
 generalize W1.heap.size = b at *
 refine (spec_l1Below.calls g s0_0 x1 x2 15 t y1 y2 w0 _ HL.out.st HL.out.below HP.out).mono ?_
 rintro e W3 ⟨rfl, hi, hb, hk⟩
 have H := Aside0.mk (HL.out.call hi hb hk)
 have h3 := H3.out
 clear HL hi hb hk H3 HQ HP HI HB W2
 have hy0 : W3.cell? ⟨b, 0, none⟩ = some (.slice A X.length c) := (blk_cell H.out.bb 0).trans rfl
 have hyf := blk_frozen H.out.bb 0
 have hz0 : W3.cell? ⟨w.heap.size, 0, none⟩ = some (.slice none 0 0) := (blk_cell H.out.ba 0).trans rfl
 have hzf := blk_frozen H.out.ba 0
 have hab := H.out.ab
 have hba : b ≠ w.heap.size := fun e => hab e.symm
 by_cases t0 : t = 0
 ·subst t0
  rw [if_pos rfl] at h3
  by_cases hc : 0 < X.length ∧ 1 ≤ (rd_L2 X 0).length
  ·rw [if_pos hc] at h3
   simp only [Option.some.injEq, Prod.mk.injEq] at h3
   obtain ⟨rfl, rfl, rfl⟩ := h3
   obtain ⟨go, cap, eA, hgo, _, ⟨cells, hgb⟩⟩ := Kd.S_form H.out.row hc.1
   injection eA with e1 e2 e3
   subst e1 e3
   obtain ⟨A1, c1, hx, hf, hR⟩ := first_row H.out.row hc.1
   have HCUT := Aside0.mk (first_cut H.out.row hc.1 hx hc.2)
   obtain ⟨i0, hi0, hzz⟩ := Option.map_eq_some_iff.1 info3
   simp only [Prod.mk.injEq] at hzz
   have hcut : ∀ W : World, (Instr.slice 30 (.slice A1 (rd_L2 X 0).length c1) (some (.int .i64 1)) none none).run Try.prog W = .ok (.slice (if c1 = 1 then A1 else A1.map (·.add 1)) ((rd_L2 X 0).length - 1) (c1 - 1)) W := cut_from 30 3 .i64 Try.underlying30 hi0 1 hzz.2.1 A1 (rd_L2 X 0).length c1 1 (by omega) (by have := hc.2; omega)
   have HG := Aside0.mk hgb
   have HGO := Aside0.mk hgo
   have hb1 : ((0 : Int) < ((X.length : Nat) : Int)) = True := eq_true (by have := hc.1; omega)
   have hb2 : 0 < X.length := hc.1
   have hb3 : X ≠ [] := fun e => by rw [e] at hb2; exact absurd hb2 (by decide)
   have n1 : go ≠ w.heap.size := blk_ne hgb H.out.ba (by decide)
   have n2 : w.heap.size ≠ go := fun e => n1 e.symm
   have n3 : go ≠ b := blk_ne hgb H.out.bb (by decide)
   have n4 : b ≠ go := fun e => n3 e.symm
   clear hc hR hi0 hzz e2 hgb hgo
   generalize (if c1 = 1 then A1 else A1.map (·.add 1)) = A3 at *
   generalize (rd_L2 X 0).length - 1 = m3 at *
   generalize c1 - 1 = c3 at *
   go_wp2
   go_still_tail 8, (by kernel_rfl)
   go_wp2
   obtain ⟨d1, d2, d3, d4, d5⟩ := L2.done (v := .slice (some ⟨go, 0, none⟩) X.length c) (H.out.st.far (p := ⟨go, 0, none⟩) (IsS107.ne_blk H.out.st HG.out (by decide)) (.slice A3 m3 c3)) (keep_far (p := ⟨go, 0, none⟩) H.out.keep HGO.out (.slice A3 m3 c3)) (below_set H.out.below (Nat.le_trans H.out.hw HGO.out)) H.out.hw (blk_far (p := ⟨go, 0, none⟩) H.out.ba n2 (.slice A3 m3 c3)) (HCUT.out) H.out.ga
   refine bodyPost_ret (results_cell_row rfl _ _ w.heap.size 29 #[.slice (some ⟨go, 0, none⟩) X.length c] (0, 0) _ rfl (blk_drew d1) hu29 rfl (by kernel_rfl)) rfl ?_
   exact ⟨_, rfl, Kd.S_drew d2, IsS107.drew d3, below_drew1 d4, keep_drew d5⟩
  ·rw [if_neg hc] at h3
   cases h3
 ·rw [if_neg t0] at h3
  have e0 : (t == 0) = false := beq_eq_false_iff_ne.mpr t0
  by_cases t1 : t = 1
  ·subst t1
   rw [if_pos rfl] at h3
   by_cases hc : 0 < X.length ∧ 3 < (rd_L2 X 0).length
   ·rw [if_pos hc] at h3
    obtain ⟨⟨p, q1, q2⟩, hpp, h4⟩ := Option.bind_eq_some_iff.mp h3
    simp only [Option.some.injEq, Prod.mk.injEq] at h4
    obtain ⟨rfl, rfl, rfl⟩ := h4
    clear h3 e0 t0
    have HPP := Aside0.mk hpp
    obtain ⟨go, cap, eA, hgo, _, ⟨cells, hgb⟩⟩ := Kd.S_form H.out.row hc.1
    injection eA with e1 e2 e3
    subst e1 e3
    obtain ⟨A1, c1, hx, hf, hR⟩ := first_row H.out.row hc.1
    have HX := Aside0.mk hx
    obtain ⟨gl, eA1, em, hgl, ⟨cl, hgc⟩, _⟩ := first_put H.out.row hc.1 hx hc.2
    subst eA1
    have HG := Aside0.mk hgb
    have HC := Aside0.mk hc
    have HGL := Aside0.mk hgl
    have hb1 : ((0 : Int) < ((X.length : Nat) : Int)) = True := eq_true (by have := hc.1; omega)
    have hb2 : 0 < X.length := hc.1
    have hb3 : X ≠ [] := fun e => by rw [e] at hb2; exact absurd hb2 (by decide)
    have hb4 : ((3 : Int) < (((rd_L2 X 0).length : Nat) : Int)) = True := eq_true (by have := hc.2; omega)
    have n3 : go ≠ b := blk_ne hgb H.out.bb (by decide)
    have n4 : b ≠ go := fun e => n3 e.symm
    clear hc hR e2 hgb hgo hpp hx hf hgc hgl em hy0 hyf hz0 hzf
    go_wp2
    refine start_ (n := 9) (S := fun w' => w'.cell? ⟨b, 0, none⟩ = some (.slice (some ⟨go, 0, none⟩) X.length c) ∧ w'.cell? ⟨go, 0, none⟩ = some (.slice (some ⟨gl, 0, none⟩) (rd_L2 X 0).length c1)) (ds := [8]) (bm 9 0) (by kernel_rfl) rfl (by kernel_rfl) ⟨(blk_cell H.out.bb 0).trans rfl, HX.out⟩ (fun hHeld => ?_)
    have HD : Aside0 (W3.drew.cell? ⟨go, 0, none⟩ = some (.slice (some ⟨gl, 0, none⟩) (rd_L2 X 0).length c1)) := ⟨HX.out⟩
    have H4 : Aside0 (L2 w0 w W3.drew g w.heap.size b s0_0 y1 y2 (some ⟨go, 0, none⟩) c X) := ⟨⟨H.out.st.drew, keep_drew H.out.keep, below_drew1 H.out.below, H.out.hw, blk_drew H.out.ba, blk_drew H.out.bb, Kd.S_drew H.out.row, H.out.ga, H.out.gb, H.out.ab⟩⟩
    clear H HX
    generalize W3.drew = W4 at *
    refine pv_ 0 (some 20) (bm 9 1) ?_
    refine tv_ 1 (some 21) (bm 9 3) hHeld ?_
    refine pv_ 2 (some 22) (bm 9 7) ?_
    refine tv_ 3 (some 23) (bm 9 15) hHeld ?_
    refine pv_ 4 (some 24) (bm 9 31) ?_
    refine ov_ 5 (some 25) (bm 9 63) (fun K hK => ?_)
    refine value_ (w1 := W4.alloc (.cells #[.int .i64 (-1), .int .i64 256] 3)) (v := .slice (some ⟨W4.heap.size, 0, none⟩) 2 2) (by rfl) rfl ?_ ?_
    ·go_simp
    have hlit : Kd.R (Kd.int .i64) 3 (W4.alloc (.cells #[.int .i64 (-1), .int .i64 256] 3)) w.heap.size (fun _ => True) (.slice (some ⟨W4.heap.size, 0, none⟩) 2 2) [-1, 256] := Kd.R_of_own (own_lit W4 w.heap.size 3 .i64 [-1, 256] (keep_size H4.out.keep) (by decide)) (fun _ _ => trivial)
    have hne : W4.heap.size ≠ g := fun e => by have := IsS107.lt H4.out.st; omega
    have H5 : Aside0 (L2 w0 w (W4.alloc (.cells #[.int .i64 (-1), .int .i64 256] 3)) g w.heap.size b s0_0 y1 y2 (some ⟨go, 0, none⟩) c X) := ⟨⟨H4.out.st.alloc _, keep_alloc H4.out.keep _, below_alloc H4.out.below _, H4.out.hw, blk_alloc H4.out.ba _, blk_alloc H4.out.bb _, Kd.S_alloc H4.out.row _, H4.out.ga, H4.out.gb, H4.out.ab⟩⟩
    have HD5 := Aside0.mk (pw_cell_below (below_alloc (Below.refl _ _) (.cells #[.int .i64 (-1), .int .i64 256] 3)) HD.out)
    refine hK.out _ _ ⟨(blk_cell H5.out.bb 0).trans rfl, HD5.out⟩ (fun hHeld => ?_)
    clear hK K
    refine nw_ ?_
    generalize hW5 : W4.alloc (.cells #[.int .i64 (-1), .int .i64 256] 3) = W5 at *
    refine ov_ 6 (some 26) (bm 9 127) (fun K hK => ?_)
    refine gw_ Try.func70 #[.pointer (some ⟨g, 0, none⟩), .slice (some ⟨W4.heap.size, 0, none⟩) 2 2] ?_
    refine (spec_l1PickInt.calls g s0_0 y1 y2 (some ⟨W4.heap.size, 0, none⟩) 2 [-1, 256] p q1 q2 w0 W5 H5.out.st H5.out.below (Kd.R_reads' hlit).2.2 (by decide) (fun ad e _ => by injection e with e; rw [← e]; exact hne) HPP.out).mono ?_
    rintro e W6 ⟨rfl, hi, hb, hk⟩
    refine ⟨_, rfl, ?_⟩
    have H : Aside0 (L2 w0 w W6 g w.heap.size b s0_0 q1 q2 (some ⟨go, 0, none⟩) c X) := ⟨H5.out.call hi hb hk⟩
    obtain ⟨A1', c1', hx', hf', hR'⟩ := first_row H.out.row HC.out.1
    have hgo6 : go ≠ g := by
     obtain ⟨_, _, e1, _, _, ⟨cells6, hg6⟩⟩ := Kd.S_form H.out.row HC.out.1
     injection e1 with e1 _ _
     injection e1 with e1
     injection e1 with e1
     subst e1
     exact fun e => IsS107.ne_blk H.out.st hg6 (by decide) e.symm
    have hkx := keep_cell hk HD5.out hgo6
    rw [hx'] at hkx
    injection hkx with hkx
    injection hkx with k1 k2 k3
    subst k1 k3
    obtain ⟨gl', eA1, _, hgl, ⟨cl, hgc⟩, ⟨u3, hc3⟩, hf3, hput⟩ := first_put H.out.row HC.out.1 hx' HC.out.2
    injection eA1 with eA1
    injection eA1 with eA1
    subst eA1
    have HX := Aside0.mk hx'
    have HC3 := Aside0.mk hc3
    have HF3 := Aside0.mk hf3
    have HPUT := Aside0.mk (hput p)
    have HGC := Aside0.mk hgc
    have HGL := Aside0.mk hgl
    refine hK.out _ _ ⟨(blk_cell H.out.bb 0).trans rfl, hx'⟩ (fun hHeld => ?_)
    clear hK K hlit hne H5 HD5 hi hb hk hx' hf' hR' hgo6 k2 hgl hgc hc3 hf3 hput H4 HD hW5
    refine nw_ ?_
    refine pv_ 7 (some 27) (bm 9 255) ?_
    refine last_ (i := 8) (N := none) #[true, true, true, true, true, true, true, true, true] rfl rfl (by kernel_rfl) (by decide) (fun K hK => ?_)
    have r0 := HC3.out
    have f0 := HF3.out
    refine skip_ (w1 := ?_) (by rfl) rfl ?_ ?_
    rotate_left
    ·go_simp
     rfl
    refine hK.out _ _ ?_
    clear hK K r0 f0 hHeld
    refine done_ (by kernel_rfl) ?_
    have m1 : gl ≠ w.heap.size := blk_ne HGC.out H.out.ba (by decide)
    have m2 : w.heap.size ≠ gl := fun e => m1 e.symm
    have m3 : gl ≠ b := blk_ne HGC.out H.out.bb (by decide)
    have m4 : b ≠ gl := fun e => m3 e.symm
    have hy0 : (W6.setCell ⟨gl, 3, none⟩ (.int .i64 p)).cell? ⟨b, 0, none⟩ = some (.slice (some ⟨go, 0, none⟩) X.length c) := (blk_cell (blk_far (p := ⟨gl, 3, none⟩) H.out.bb m4 _) 0).trans rfl
    have hz0 : (W6.setCell ⟨gl, 3, none⟩ (.int .i64 p)).cell? ⟨w.heap.size, 0, none⟩ = some (.slice none 0 0) := (blk_cell (blk_far (p := ⟨gl, 3, none⟩) H.out.ba m2 _) 0).trans rfl
    have hzf := blk_frozen (blk_far (p := ⟨gl, 3, none⟩) H.out.ba m2 (.int .i64 p)) 0
    go_wp2
    obtain ⟨d1, d2, d3, d4, d5⟩ := L2.done (v := .slice (some ⟨go, 0, none⟩) X.length c) (H.out.st.far (p := ⟨gl, 3, none⟩) (IsS107.ne_blk H.out.st HGC.out (by decide)) (.int .i64 p)) (keep_far (p := ⟨gl, 3, none⟩) H.out.keep HGL.out (.int .i64 p)) (below_set H.out.below (Nat.le_trans H.out.hw HGL.out)) H.out.hw (blk_far (p := ⟨gl, 3, none⟩) H.out.ba m2 (.int .i64 p)) (S_cut HPUT.out) H.out.ga
    refine bodyPost_ret (results_cell_row rfl _ _ w.heap.size 29 #[.slice (some ⟨go, 0, none⟩) X.length c] (0, 0) _ rfl d1 hu29 rfl (by kernel_rfl)) rfl ?_
    exact ⟨_, rfl, d2, d3, d4, d5⟩
   ·rw [if_neg hc] at h3
    cases h3
  ·rw [if_neg t1] at h3
   have e1 : (t == 1) = false := beq_eq_false_iff_ne.mpr t1
   by_cases t2 : t = 2
   ·subst t2
    rw [if_pos rfl] at h3
    simp only [Option.some.injEq, Prod.mk.injEq] at h3
    obtain ⟨rfl, rfl, rfl⟩ := h3
    go_wp2
    obtain ⟨d1, d2, d3, d4, d5⟩ := L2.done (v := .slice none 0 0) (H.out.st.far (p := ⟨b, 0, none⟩) (IsS107.ne_blk H.out.st H.out.bb (by decide)) (.slice none 0 0)) (keep_far (p := ⟨b, 0, none⟩) H.out.keep H.out.gb (.slice none 0 0)) (below_set H.out.below (Nat.le_trans H.out.hw H.out.gb)) H.out.hw (blk_far (p := ⟨b, 0, none⟩) H.out.ba H.out.ab (.slice none 0 0)) (Kd.S_nil _ _ _ _ _) H.out.ga
    refine bodyPost_ret (results_cell_row rfl _ _ w.heap.size 29 #[.slice none 0 0] (0, 0) _ rfl d1 hu29 rfl (by kernel_rfl)) rfl ?_
    exact ⟨_, rfl, d2, d3, d4, d5⟩
   ·rw [if_neg t2] at h3
    have e2 : (t == 2) = false := beq_eq_false_iff_ne.mpr t2
    simp only [Option.some.injEq, Prod.mk.injEq] at h3
    obtain ⟨rfl, rfl, rfl⟩ := h3
    go_wp2
    obtain ⟨d1, d2, d3, d4, d5⟩ := L2.done (v := .slice A X.length c) (H.out.st) (H.out.keep) (H.out.below) H.out.hw (H.out.ba) (S_cut H.out.row) H.out.ga
    refine bodyPost_ret (results_cell_row rfl _ _ w.heap.size 29 #[.slice A X.length c] (0, 0) _ rfl d1 hu29 rfl (by kernel_rfl)) rfl ?_
    exact ⟨_, rfl, d2, d3, d4, d5⟩
theorem spec_l2DrawRight.callsC (k : Nat) (g : Nat) (s0_0 : List Int) (s0_1 : Int) (s0_2 : Int) (r1 : List (List Int)) (r2 : Int) (r3 : Int) (w0 w : World) (hI : IsS107 w0 w g s0_0 s0_1 s0_2) (hB : Below w0.heap.size w0 w) (h : spec_l2DrawRight.f k s0_0 s0_1 s0_2 = some (r1, r2, r3)) :
  Calls Try.prog 69 #[.pointer (some ⟨g, 0, none⟩)] w fun e w' => ∃ v0_ : Value, e = .returned (.agg #[v0_]) ∧ Kd.S (cutK 3 (Kd.int .i64)) 30 w' w.heap.size (fun _ => True) v0_ r1 ∧ IsS107 w0 w' g s0_0 r2 r3 ∧ Below w0.heap.size w0 w' ∧ KeepBut w w' g none :=
 (spec_l2DrawRight.calls k g s0_0 s0_1 s0_2 r1 r2 r3 w0 w hI hB h).mono fun e w' ⟨v, he, hS, h2⟩ => ⟨v, he, S_cut hS, h2⟩

/-! ### spec_MemNew: function 88 -/
def spec_MemNew.f  : Option (List Int × Int) := if 512 ≤ 35184372088832 then (some ((List.replicate 512 0), 0)) else (none)
set_option maxHeartbeats 8000000 in
set_option maxRecDepth 100000 in
theorem spec_MemNew.calls  (r1 : List Int) (r2 : Int) (w : World) (h : spec_MemNew.f  = some (r1, r2)) :
  Calls Try.prog 88 #[] w fun e w' => ∃ v0_ : Value, e = .returned (.agg #[v0_, .int .i64 r2]) ∧ Kd.R (Kd.int .i64) 3 w' w.heap.size (fun _ => True) v0_ r1 ∧ Below w.heap.size w w' := by
 have hu32 := Try.underlying32
 have HB := Aside0.mk (Below.refl w.heap.size w)
 have H : (if 512 ≤ 35184372088832 then (some ((List.replicate 512 0), 0)) else (none)) = some (r1, r2) := h
 clear h
 by_cases c1 : 512 ≤ 35184372088832
 ·rw [if_pos c1] at H
  have c1b0 := eq_true c1
  have c1b1 : decide (512 ≤ 35184372088832) = true := decide_eq_true c1
  clear c1
  obtain ⟨y314, hy314⟩ : ∃ y_ : List Int, y_ = (List.replicate 512 0) := ⟨_, rfl⟩
  replace H : (some (y314, 0)) = some (r1, r2) := by first | (rw [hy314]; with_reducible exact H) | (have H2_ := (Option.bind_some _ _).symm.trans H; rw [hy314]; with_reducible exact H2_) | (have H2_ := (Option.bind_some _ _).symm.trans H; with_reducible exact H2_) | with_reducible exact H | (rw [hy314]; exact H) | exact H
  have Ny314 := Aside0.mk hy314
  clear hy314
  simp only [Option.some.injEq, Prod.mk.injEq] at H
  obtain ⟨rfl, rfl⟩ := H
  go_enter Try.func88, Try.ntmps88
  go_wp2_with (first | ((with_reducible refine gate_dst (N := 0) rfl ?_); refine bx (N := 0) (cs := #[.slice none 0 0, .int .i64 0]) (t := 32) ?_; intro gb313 hg w2 hbox hb; have n0_ := Aside0.mk (below_step (bw HB.out) hb); have n1_ := Aside0.mk (hbox); have n2_ := Aside0.mk ((gs hg (bw HB.out))); have n3_ := Aside0.mk ((gs hg (bw HB.out))); clear HB; have HB := n0_; have BK313 := n1_; have GW313 := n2_; have GE313 := n3_; clear n0_ n1_ n2_ n3_; clear hb hbox hg) | ((with_reducible refine gate_dst (N := 1) rfl ?_); refine Kd.R_make (Kd.int .i64) _ 3 rfl (N := 1) rfl 30 _ _ rfl 512 rfl rfl Try.underlying30 (.int .i64 0) 8 info3 rfl (by decide) (by omega) 0 (ok := fun _ => True) (okp := fun _ => True) rfl (fun _ hk => hk) trivial (by omega) (by omega) (Below.refl _ _) (Nat.le_refl _) ?_; intro v315 w3 ho4 hb hg_ hnew_; clear hg_ hnew_; (first | rw [← Ny314.out] at ho4 | (simp only [Int.reduceToNat] at ho4; rw [← Ny314.out] at ho4)); have n0_ := Aside0.mk (Kd.R_lower ho4 (below_size (bw HB.out))); have n1_ := Aside0.mk (blk_below (g := gb313) (o := .cells #[.slice none 0 0, .int .i64 0] 32 (0, 0)) (kb BK313.out) hb); have n2_ := Aside0.mk (below_step (bw HB.out) hb); clear BK313; clear HB; have HO316 := n0_; have BK313 := n1_; have HB := n2_; clear n0_ n1_ n2_; clear hb ho4; obtain ⟨Ao5, co5, eo5⟩ := Kd.R_slice HO316.out; subst eo5; have hcz6_0 : w3.cell? ⟨gb313, 0, none⟩ = some (.slice none 0 0) := cl BK313 0; have hcz6_1 : w3.cell? ⟨gb313, 1, none⟩ = some (.int .i64 0) := cl BK313 1; have hfz6_0 := blk_frozen BK313.out 0; have hfz6_1 := blk_frozen BK313.out 1))
  refine bodyPost_ret (results_cell_row rfl _ _ gb313 32 #[.slice Ao5 y314.length co5, .int .i64 0] (0, 0) _ rfl (by (with_reducible repeat (first | refine blk_drewN ?_ _ | refine blk_drew ?_ | refine blk_alloc ?_ _)); refine blk_put (cs := #[.slice Ao5 y314.length co5, .int .i64 0]) ?_ 1 _ rfl; (with_reducible repeat (first | refine blk_drewN ?_ _ | refine blk_drew ?_ | refine blk_alloc ?_ _)); refine blk_put (cs := #[.slice none 0 0, .int .i64 0]) ?_ 0 _ rfl; (with_reducible repeat (first | refine blk_drewN ?_ _ | refine blk_drew ?_ | refine blk_alloc ?_ _)); exact BK313.out) Try.underlying32 rfl (by kernel_rfl)) rfl ?_
  exact ⟨_, rt, kr (Kd.R_mono (Kd.R_far (p := ⟨gb313, 1, none⟩) (Kd.R_far (p := ⟨gb313, 0, none⟩) (Kd.R_types HO316.out BK313.out (by decide)) (fun _ hk => hk.2) (.slice Ao5 y314.length co5)) (fun _ hk => hk.2) (.int .i64 0)) (fun _ hk => trivial)), bw HB.out⟩
 ·rw [if_neg c1] at H
  exact absurd H (by simp)

/-! ### spec_l1Max: function 117 -/
def spec_l1Max.f (a0 : Int) (a1 : Int) : Option (Int) := if a0 > a1 then (some a0) else (some a1)
set_option maxHeartbeats 8000000 in
set_option maxRecDepth 100000 in
theorem spec_l1Max.calls (a0 : Int) (a1 : Int) (r : Int) (w : World) (h : spec_l1Max.f a0 a1 = some r) :
  Calls Try.prog 117 #[.int .i64 a0, .int .i64 a1] w fun e w' => e = .returned (.int .i64 r) ∧ Drawn0 w w' := by
 have H : (if a0 > a1 then (some a0) else (some a1)) = some r := h
 clear h
 by_cases c3 : a0 > a1
 ·rw [if_pos c3] at H
  have c3b0 : decide (a1 < a0) = true := decide_eq_true c3
  clear c3
  obtain rfl := Option.some.inj H
  go_enter Try.func117, Try.ntmps117
  go_wp2
  go_ret
  exact ⟨by first | rfl | (simp; done) | (simp [*]; done), by repeat (first | exact Drawn0.refl _ | apply Drawn0.step)⟩
 ·rw [if_neg c3] at H
  have c3b0 : decide (a1 < a0) = false := decide_eq_false c3
  clear c3
  obtain rfl := Option.some.inj H
  go_enter Try.func117, Try.ntmps117
  go_wp2
  go_ret
  exact ⟨by first | rfl | (simp; done) | (simp [*]; done), by repeat (first | exact Drawn0.refl _ | apply Drawn0.step)⟩

end Go.Proofs.Ytmkccgbfgebfbaa.MFnFetched
