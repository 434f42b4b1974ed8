/- Arguments that are structs of whole numbers, bools, lists of whole numbers and lists of such lists: what they read as, as plain lists. No condition. -/
import Derived.Test.YtmkccgbfgebfbaaVFnCalled
import Derived.Lib.SmallJoins
import Derived.Deep.Matrix
import Derived.Deep.Fields
namespace Go.Proofs.Ytmkccgbfgebfbaa.Open
open Go.Joins Go.ChangeShapes Go.WideShapes Go.RowKit Go.Deep Go.Proofs.YtmkccgbfgebfbaaW.PrintWords
section
variable {H : Type} {enc : TypeId × Value → H} {P : Program} {w : World} {base : Nat} {spare : Nat → Bool} {held : Bool}

theorem array1 {α : Type} {cs : Array α} (h : cs.size = 1) : ∃ c0, cs = #[c0] := by
  obtain ⟨l⟩ := cs
  match l, h with
  | [c0], _ => exact ⟨c0, rfl⟩
theorem array8 {α : Type} {cs : Array α} (h : cs.size = 8) : ∃ c0 c1 c2 c3 c4 c5 c6 c7, cs = #[c0, c1, c2, c3, c4, c5, c6, c7] := by
  obtain ⟨l⟩ := cs
  match l, h with
  | [c0, c1, c2, c3, c4, c5, c6, c7], _ => exact ⟨c0, c1, c2, c3, c4, c5, c6, c7, rfl⟩

theorem open_agg1 {r : Reach} {b0 : Nat} {t : TypeId} {f0 : Field} {v : Value} {d : DataW H} {p : List MemPlace} (hs : P.underlying t = some (.struct #[f0])) (hone : oneCellFields P #[f0] = true) (hC : P.cellsOf t = 1)
    (hv : Value.okWide P w r b0 t v) (h : DataW.Trod enc P w base spare held t v d p) :
    ∃ (v0 : Value) (y0 : DataW H × List MemPlace) (n : Nat), v = .agg #[v0] ∧ d = .agg [y0.1] ∧ p = y0.2 ∧ DataW.trod enc P w base spare held n f0.type [v0] = some y0 := by
  obtain ⟨cs, rfl, hsz⟩ := okWide_struct hs hv
  obtain ⟨c0, rfl⟩ := array1 (hsz.trans hC)
  obtain ⟨fuel, hf⟩ := h
  obtain ⟨xs, n, _, hx, _, hlen, hg⟩ := DataW.trod_struct hs hf
  obtain ⟨o0, k0⟩ := hone_of hone 0 f0 rfl
  match xs, hlen with
  | [y0], _ =>
    simp only [Prod.mk.injEq] at hx
    exact ⟨c0, y0, n, rfl, by simpa using hx.1, by simpa using hx.2, by simpa [Value.cells, o0, k0] using hg 0 f0 rfl⟩

theorem open_agg8 {r : Reach} {b0 : Nat} {t : TypeId} {f0 f1 f2 f3 f4 f5 f6 f7 : Field} {v : Value} {d : DataW H} {p : List MemPlace} (hs : P.underlying t = some (.struct #[f0, f1, f2, f3, f4, f5, f6, f7])) (hone : oneCellFields P #[f0, f1, f2, f3, f4, f5, f6, f7] = true) (hC : P.cellsOf t = 8)
    (hv : Value.okWide P w r b0 t v) (h : DataW.Trod enc P w base spare held t v d p) :
    ∃ (v0 v1 v2 v3 v4 v5 v6 v7 : Value) (y0 y1 y2 y3 y4 y5 y6 y7 : DataW H × List MemPlace) (n : Nat), v = .agg #[v0, v1, v2, v3, v4, v5, v6, v7] ∧
      DataW.trod enc P w base spare held n f0.type [v0] = some y0 ∧ DataW.trod enc P w base spare held n f1.type [v1] = some y1 ∧ DataW.trod enc P w base spare held n f2.type [v2] = some y2 ∧ DataW.trod enc P w base spare held n f3.type [v3] = some y3 ∧
      DataW.trod enc P w base spare held n f4.type [v4] = some y4 ∧ DataW.trod enc P w base spare held n f5.type [v5] = some y5 ∧ DataW.trod enc P w base spare held n f6.type [v6] = some y6 ∧ DataW.trod enc P w base spare held n f7.type [v7] = some y7 := by
  obtain ⟨cs, rfl, hsz⟩ := okWide_struct hs hv
  obtain ⟨c0, c1, c2, c3, c4, c5, c6, c7, rfl⟩ := array8 (hsz.trans hC)
  obtain ⟨fuel, hf⟩ := h
  obtain ⟨xs, n, _, hx, _, hlen, hg⟩ := DataW.trod_struct hs hf
  obtain ⟨o0, k0⟩ := hone_of hone 0 f0 rfl
  obtain ⟨o1, k1⟩ := hone_of hone 1 f1 rfl
  obtain ⟨o2, k2⟩ := hone_of hone 2 f2 rfl
  obtain ⟨o3, k3⟩ := hone_of hone 3 f3 rfl
  obtain ⟨o4, k4⟩ := hone_of hone 4 f4 rfl
  obtain ⟨o5, k5⟩ := hone_of hone 5 f5 rfl
  obtain ⟨o6, k6⟩ := hone_of hone 6 f6 rfl
  obtain ⟨o7, k7⟩ := hone_of hone 7 f7 rfl
  match xs, hlen with
  | [y0, y1, y2, y3, y4, y5, y6, y7], _ =>
    exact ⟨c0, c1, c2, c3, c4, c5, c6, c7, y0, y1, y2, y3, y4, y5, y6, y7, n, rfl, by simpa [Value.cells, o0, k0] using hg 0 f0 rfl, by simpa [Value.cells, o1, k1] using hg 1 f1 rfl, by simpa [Value.cells, o2, k2] using hg 2 f2 rfl, by simpa [Value.cells, o3, k3] using hg 3 f3 rfl,
      by simpa [Value.cells, o4, k4] using hg 4 f4 rfl, by simpa [Value.cells, o5, k5] using hg 5 f5 rfl, by simpa [Value.cells, o6, k6] using hg 6 f6 rfl, by simpa [Value.cells, o7, k7] using hg 7 f7 rfl⟩

theorem int_of {t : TypeId} {fuel : Nat} {v : Value} {y : DataW H × List MemPlace} (ht : P.underlying t = some (.int .i64)) (h : DataW.trod enc P w base spare held fuel t [v] = some y) : ∃ n : Int, v = .int .i64 n ∧ (Lit.int .i64 n).wf = true := by
  obtain ⟨n, e, _, hw⟩ := DataW.trod_int ht h
  simp only [List.cons.injEq, and_true] at e
  exact ⟨n, e, hw⟩
theorem bool_of {t : TypeId} {fuel : Nat} {v : Value} {y : DataW H × List MemPlace} (ht : P.underlying t = some .bool) (h : DataW.trod enc P w base spare held fuel t [v] = some y) : ∃ b : Bool, v = .bool b := by
  obtain ⟨b, e, _⟩ := DataW.trod_bool ht h
  simp only [List.cons.injEq, and_true] at e
  exact ⟨b, e⟩
/-- A list of whole numbers. -/
theorem ints_of {k : IntKind} {t e : TypeId} {fuel : Nat} {v : Value} {y : DataW H × List MemPlace} (ht : P.underlying t = some (.slice e)) (he : P.underlying e = some (.int k)) (ce : P.cellsOf e = 1)
    (h : DataW.trod enc P w base (fun _ => true) held fuel t [v] = some y) :
    ∃ (A : Option Addr) (l : List Int) (c : Nat), v = .slice A l.length c ∧ l.length ≤ c ∧ (Kd.int k).C w A l.length l ∧ l.length ≤ 9223372036854775807 ∧ ∀ x ∈ l, (Lit.int k x).wf = true := by
  rcases open_ints ht he ce h with ⟨hcs, _⟩ | ⟨x, len, cap, zs, hcs, _, hl, hm, hz, _, hcell, hwz⟩
  · simp only [List.cons.injEq, and_true] at hcs
    subst hcs
    exact ⟨none, [], 0, rfl, Nat.le_refl _, ⟨rfl, by simp, fun h => by simp at h⟩, by simp, by simp⟩
  · simp only [List.cons.injEq, and_true] at hcs
    subst hcs
    simp only [if_true] at hz
    obtain ⟨l, rfl, hr, hmx, hw, hc⟩ := ReadsInt.ofRowC (k := k) (w := w) (a := some x) (len := len) (cap := cap) (zs := zs) (.inr ⟨x, rfl, hl, hm, hz, hcell, hwz⟩)
    exact ⟨some x, l, cap, rfl, hc, Kd.C_of_reads (d := (0 : Int)) (h1 := fun _ => rfl) hr, hr.2.1, hw⟩
/-- A list of lists of whole numbers. -/
theorem rows_of {t e q : TypeId} {fuel : Nat} {v : Value} {y : DataW H × List MemPlace} (ht : P.underlying t = some (.slice e)) (he : P.underlying e = some (.slice q)) (hq : P.underlying q = some (.int .i64)) (ce : P.cellsOf e = 1) (cq : P.cellsOf q = 1)
    (h : DataW.trod enc P w base (fun _ => true) held fuel t [v] = some y) :
    ∃ (A : Option Addr) (l : List (List Int)) (c : Nat), v = .slice A l.length c ∧ l.length ≤ c ∧ (Kd.slice q (Kd.int .i64)).C w A l.length l ∧ l.length ≤ 9223372036854775807 ∧ (∀ r ∈ l, r.length ≤ 9223372036854775807) ∧ ∀ r ∈ l, ∀ x ∈ r, (Lit.int .i64 x).wf = true := by
  rcases open_int_rows ht he hq ce cq h with ⟨hcs, _⟩ | ⟨a, len, cap, A, L, C, Z, hcs, _, hl, hm, _, hrow⟩
  · simp only [List.cons.injEq, and_true] at hcs
    subst hcs
    exact ⟨none, [], 0, rfl, Nat.le_refl _, ⟨rfl, by simp, fun h => by simp at h⟩, by simp, by simp, by simp⟩
  · simp only [List.cons.injEq, and_true] at hcs
    subst hcs
    unfold maxLen at hm
    have hlen : ((List.range len).map fun r => (Z r).take (L r)).length = len := by simp
    have each : ∀ r, r < len → ((Z r).take (L r)).length = L r ∧ L r ≤ 9223372036854775807 := by
      intro r hr
      obtain ⟨_, h1, h2, h3, _⟩ := hrow r (by omega)
      unfold maxLen at h2
      rw [List.length_take]
      omega
    refine ⟨some a, (List.range len).map fun r => (Z r).take (L r), cap, by rw [hlen], by omega, ⟨rfl, by omega, fun _ => ⟨a, rfl, fun j p hj => ?_⟩⟩, by omega, ?_, ?_⟩
    · obtain ⟨hjl, rfl⟩ := List.getElem?_eq_some_iff.1 hj
      rw [hlen] at hjl
      obtain ⟨hc, h1, h2, h3, h4, h5, h6⟩ := hrow j (by omega)
      have e1 := each j hjl
      simp only [List.getElem_map, List.getElem_range]
      refine ⟨[.slice (A j) (L j) (C j)], rfl, ⟨A j, C j, by rw [e1.1], by rw [e1.1]; exact h1, ⟨rfl, by rw [e1.1]; exact e1.2, fun hn => ?_⟩⟩, fun i u hu => ?_⟩
      · rw [e1.1] at hn
        cases hA : A j with
        | none => have := h5 hA; omega
        | some a' =>
          obtain ⟨_, hcell⟩ := h6 a' hA
          refine ⟨a', rfl, fun i p hi => ⟨[.int .i64 p], rfl, rfl, fun m u hu => ?_⟩⟩
          obtain ⟨hil, hp⟩ := List.getElem?_eq_some_iff.1 hi
          rw [e1.1] at hil
          cases m with
          | succ m => simp at hu
          | zero =>
            simp only [List.getElem?_cons_zero, Option.some.injEq] at hu
            subst hu
            have := hcell i (by omega)
            rw [List.getElem_take] at hp
            rw [List.getD_eq_getElem?_getD, List.getElem?_eq_getElem (by omega), Option.getD_some, hp] at this
            simpa [Kd.int, Kd.scalar] using this
      · cases i with
        | succ i => simp at hu
        | zero =>
          simp only [List.getElem?_cons_zero, Option.some.injEq] at hu
          subst hu
          simpa [Kd.slice] using hc
    · intro r hr
      obtain ⟨j, hj, rfl⟩ := List.mem_map.1 hr
      have := each j (List.mem_range.1 hj)
      omega
    · intro r hr x hx
      obtain ⟨j, hj, rfl⟩ := List.mem_map.1 hr
      have hj := List.mem_range.1 hj
      obtain ⟨_, _, _, _, h4, _⟩ := hrow j (by omega)
      exact h4 x (List.mem_of_mem_take hx)
end
end Go.Proofs.Ytmkccgbfgebfbaa.Open
