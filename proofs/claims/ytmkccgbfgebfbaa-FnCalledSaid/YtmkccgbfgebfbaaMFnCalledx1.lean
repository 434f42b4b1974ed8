/- Walks of functions that the law FnCalled reaches: each comes to just what its Lean function says. (Begun as the texts that print.sh wrote for this claim; some of them, and those that it does not write, are mine.) No condition. -/
import Derived.Test.YtmkccgbfgebfbaaMFnCalledx0
namespace Go.Proofs.Ytmkccgbfgebfbaa.MFnCalled
open Go.RowKit Go.Proofs.YtmkccgbfgebfbaaW.PrintWords Go.Proofs.YtmkccgbfgebfbaaW.PrintLast Go.Proofs.YtmkccgbfgebfbaaW.PrintMore
attribute [local go_sem] max2_int min2_int max_two min_two max_three min_three max_four min_four   -- for this text's walks alone
set_option maxHeartbeats 8000000
set_option maxRecDepth 100000
set_option linter.unusedVariables false
set_option linter.unusedSimpArgs false

/-! ### free_region (mine) -/
/-! A region whose operations may come in any order, where each of the first e puts a value into a temporary and changes nothing that stood before: told once for each operation, not for each order. -/
/-- What is asked of the region's table: what waits stands later; what comes behind the first e waits for all of them but g; g clashes with nothing that it does not wait for. -/
def freeChk (T : List (List Nat × List Nat)) (n e g : Nat) (le lg : Array Bool) (N : List Nat) (sz : Nat) : Bool :=
 (le.size == n) && (lg.size == n) && ((List.range n).all fun j => le.getD j true == decide (j < e)) && ((List.range n).all fun j => lg.getD j true == (decide (j < e) && !(j == g))) &&
 (le.toList.count false == n - e) && decide (e < n) && decide (g < e) &&
 ((List.range n).all fun i => (T.getD i ([], [])).1.all fun j => decide (j < i)) &&
 ((List.range n).all fun i => decide (i < e) || (List.range e).all fun j => j == g || reachT T j n i) &&
 ((List.range e).all fun i => decide (N.getD i 0 < sz)) && ((List.range e).all fun i => (List.range e).all fun j => i == j || !(N.getD i 0 == N.getD j 0))
theorem all_range {n : Nat} {p : Nat → Bool} (h : (List.range n).all p = true) (i : Nat) (hi : i < n) : p i = true := List.all_eq_true.1 h i (List.mem_range.2 hi)
theorem eval_put {a : Act} {N t : Nat} {v : Value} (h : N ≠ t) : (a.put (some N) v).eval (.tmp t) = a.eval (.tmp t) := by
 show (a.tmps.setIfInBounds N v).getD t undef = a.tmps.getD t undef
 simp only [Array.getD_eq_getD_getElem?, Array.getElem?_setIfInBounds]
 rw [if_neg h]
theorem eval_put_same {a : Act} {N : Nat} {v : Value} (h : N < a.tmps.size) : (a.put (some N) v).eval (.tmp N) = v := by
 show (a.tmps.setIfInBounds N v).getD N undef = v
 simp [Array.getD_eq_getD_getElem?, Array.getElem?_setIfInBounds, h]
theorem putAll_eval (L : List (Tmp × Value)) : ∀ (a0 a : Act), a.defers = a0.defers → a.tmps.size = a0.tmps.size → (∀ p ∈ L, p.1 < a0.tmps.size ∧ a.eval (.tmp p.1) = p.2) → (∀ t, (∀ p ∈ L, p.1 ≠ t) → a.eval (.tmp t) = a0.eval (.tmp t)) → a = putAll a0 L := by
 induction L with
 | nil =>
  intro a0 a hd hs _ h
  obtain ⟨t0, d0⟩ := a0
  obtain ⟨t, d⟩ := a
  simp only at hd hs
  subst hd
  show (⟨t, d⟩ : Act) = ⟨t0, d⟩
  congr 1
  refine Array.ext hs (fun i h1 h2 => ?_)
  have := h i (by simp)
  simpa [Act.eval, Array.getD_eq_getD_getElem?, h1, h2] using this
 | cons p L ih =>
  obtain ⟨N, v⟩ := p
  intro a0 a hd hs hp h
  show a = putAll (a0.put (some N) v) L
  have hz : (a0.put (some N) v).tmps.size = a0.tmps.size := Array.size_setIfInBounds
  refine ih _ _ hd (hs.trans hz.symm) (fun p hpL => by rw [hz]; exact hp p (List.mem_cons_of_mem _ hpL)) (fun t ht => ?_)
  by_cases hN : N = t
  ·subst hN
   have := hp (N, v) List.mem_cons_self
   rw [eval_put_same this.1]
   exact this.2
  ·rw [eval_put hN]
   exact h t (fun p hp' => by
    rcases List.mem_cons.1 hp' with rfl | hp'
    ·exact hN
    ·exact ht p hp')
section
variable {P : Program} {ops : Array Oper} {Q : Exit → Act → World → Prop}
theorem listed_set {l : Array Bool} {i j : Nat} (hi : i < l.size) : (l.setIfInBounds i true).getD j true = if i = j then true else l.getD j true := by
 simp only [Array.getD_eq_getD_getElem?, Array.getElem?_setIfInBounds]
 by_cases h : i = j
 ·subst h; simp [hi]
 ·simp [h]
theorem same_listed {l le : Array Bool} {n : Nat} (h1 : l.size = n) (h2 : le.size = n) (h : ∀ j, j < n → l.getD j true = le.getD j true) : l = le := by
 refine Array.ext (h1.trans h2.symm) (fun i hi hj => ?_)
 have := h i (h1 ▸ hi)
 simpa [Array.getD_eq_getD_getElem?, hi, hj] using this
theorem count_set {l : Array Bool} {i : Nat} (hi : i < l.size) (h : l.getD i true = false) : (l.setIfInBounds i true).toList.count false + 1 = l.toList.count false := by
 have h' : l[i] = false := by simpa [Array.getD_eq_getD_getElem?, hi] using h
 rw [Array.toList_setIfInBounds, List.count_set (by simpa using hi)]
 have hm : false ∈ l.toList := by rw [← h']; simp
 have := List.count_pos_iff.2 hm
 have hb : (l.toList[i]'(by simpa using hi) == false) = true := by simp [h']
 rw [if_pos hb, if_neg (by decide)]
 omega
/-- What is listed with all that it waits for: so is all that leads to what may come up. -/
theorem reach_up {T : List (List Nat × List Nat)} {l : Array Bool} {n j : Nat} (hb : ∀ d, d < n → ∀ k ∈ (T.getD d ([], [])).1, k < d) (hcl : ∀ d, d < n → l.getD d false = true → ∀ k ∈ (T.getD d ([], [])).1, l.getD k false = true) :
  ∀ (f d : Nat), d < n → (∀ k ∈ (T.getD d ([], [])).1, l.getD k false = true) → reachT T j f d = true → l.getD j false = true
 | 0, _, _, _, h => by simp [reachT] at h
 | f + 1, d, hd, hn, h => by
  unfold reachT at h
  cases hq : T[d]? with
  | none => rw [hq] at h; simp at h
  | some r =>
   rw [hq] at h
   have hr : (T.getD d ([], [])).1 = r.1 := by rw [List.getD_eq_getElem?_getD, hq]; rfl
   obtain ⟨k, hk, hkj⟩ := List.any_eq_true.1 h
   rw [← hr] at hk
   have hlk := hn k hk
   rcases Bool.or_eq_true _ _ ▸ hkj with h1 | h1
   ·rw [← beq_iff_eq.1 h1]
    exact hlk
   ·have hkd := hb d hd k hk
    exact reach_up hb hcl f k (by omega) (hcl k (by omega) hlk) h1
theorem getD_any {l : Array Bool} {j : Nat} (hj : j < l.size) (b : Bool) : l.getD j b = l.getD j true := by
 simp [Array.getD_eq_getD_getElem?, hj]
theorem free_ {id n e g : Nat} {a0 : Act} {w0 : World} {T : Bool × List (List Nat × List Nat)} (le lg : Array Bool) (N : List Nat) (E : Nat → Value → World → Prop)
  (hm : P.follows .mixedOrders = true) (hn : ops.size = n) (hT : rtab .any ops = T) (hc : freeChk T.2 n e g le lg N a0.tmps.size = true)
  (hd : ((List.range e).all fun i => ((ops[i]?).bind (·.dst)) == some (N.getD i 0)) = true) (hg : anyB .any ops lg le g = true)
  (hQ : ∀ c (a : Act) w v, Q (.panic c) (a.put (some (N.getD g 0)) v) w → Q (.panic c) a w)
  (hE : ∀ j v w w', E j v w → Below w.heap.size w w' → E j v w')
  (step : ∀ i, i < e → ∀ o, ops[i]? = some o → ∀ (a : Act) (w : World), Below w0.heap.size w0.drew w → (∀ t, (∀ i, i < e → N.getD i 0 ≠ t) → a.eval (.tmp t) = a0.eval (.tmp t)) →
   (∀ j ∈ (T.2.getD i ([], [])).1, E j (a.eval (.tmp (N.getD j 0))) w) → ∀ K, Shut (∀ v w', Below w.heap.size w w' → E i v w' → K (a.put (some (N.getD i 0)) v) w') →
   if Region.wanted o (yielded ops a.tmps) = true then Oper.wp P o a w K Q else K (a.put o.dst undef) w)
  (lag : ∀ o, ops[g]? = some o → ∀ (a : Act) (w : World), (∀ t, (∀ i, i < e → N.getD i 0 ≠ t) → a.eval (.tmp t) = a0.eval (.tmp t)) → (∀ j ∈ (T.2.getD g ([], [])).1, E j (a.eval (.tmp (N.getD j 0))) w) → ∃ v, E g v w ∧ Yields P ops o v a)
  (last : ∀ (f : Nat) (vs : Nat → Value) (w : World), Below w0.heap.size w0.drew w → (∀ j, j < e → E j (vs j) w) → wpAnyLast P .any ops Q (fun _ => True) [] (f + (n - e)) le (putAll a0 ((List.range e).map fun j => (N.getD j 0, vs j))) w) :
  (Code.region id ops true).wp P Q a0 w0 := by
 unfold freeChk at hc
 simp only [Bool.and_eq_true] at hc
 obtain ⟨⟨⟨⟨⟨⟨⟨⟨⟨⟨h1, h2⟩, h3⟩, h4⟩, h5⟩, h6⟩, h7⟩, h8⟩, h9⟩, h10⟩, h11⟩ := hc
 have z1 := beq_iff_eq.1 h1
 have z2 := beq_iff_eq.1 h2
 have z5 := beq_iff_eq.1 h5
 have z6 := of_decide_eq_true h6
 have z7 := of_decide_eq_true h7
 have z3 := fun j hj => beq_iff_eq.1 (all_range h3 j hj)
 have z4 := fun j hj => beq_iff_eq.1 (all_range h4 j hj)
 have z8 := fun i hi j hj => of_decide_eq_true (List.all_eq_true.1 (all_range h8 i hi) j hj)
 have z10 := fun i hi => of_decide_eq_true (all_range h10 i hi)
 have zd : ∀ i o, i < e → ops[i]? = some o → o.dst = some (N.getD i 0) := fun i o hi ho => by
  have := all_range hd i hi
  rw [ho] at this
  simpa using this
 have z11 : ∀ i j, i < e → j < e → i ≠ j → N.getD i 0 ≠ N.getD j 0 := fun i j hi hj hne => by
  have := all_range (all_range h11 i hi) j hj
  intro hh
  rw [hh] at this
  simp [hne] at this
 have hneed : ∀ i o, ops[i]? = some o → (T.2.getD i ([], [])).1 = needsOf .any o := fun i o ho => by
  subst hT
  rw [List.getD_eq_getElem?_getD, rtab_some ho]
  rfl
 have hlt : ∀ i o, ops[i]? = some o → i < n := fun i o ho => hn ▸ (Array.getElem?_eq_some_iff.1 ho).1
 have claim : ∀ (fuel : Nat) (l : Array Bool) (a : Act) (w : World), l.size = n → Below w0.heap.size w0.drew w → a.defers = a0.defers → a.tmps.size = a0.tmps.size →
   (∀ t, (∀ i, i < e → N.getD i 0 ≠ t) → a.eval (.tmp t) = a0.eval (.tmp t)) → (∀ i, e ≤ i → i < n → l.getD i true = false) → (∀ j, j < e → l.getD j true = true → E j (a.eval (.tmp (N.getD j 0))) w) →
   (∀ d, d < n → l.getD d false = true → ∀ k ∈ (T.2.getD d ([], [])).1, l.getD k false = true) → l.toList.count false ≤ fuel → wpAnyLast P .any ops Q (fun _ => True) [] fuel l a w := by
  intro fuel
  induction fuel with
  | zero =>
   intro l a w hl _ _ _ _ hlate _ _ hcount
   exfalso
   have hf := hlate e (Nat.le_refl _) z6
   have : false ∈ l.toList := by
    have he : e < l.size := by omega
    have : l[e] = false := by simpa [Array.getD_eq_getD_getElem?, he] using hf
    rw [← this]
    simp
   have := List.count_pos_iff.2 this
   omega
  | succ fuel ih =>
   intro l a w hl hB hdf hsz hout hlate hD hclo hcount
   by_cases hall : ∀ j, j < e → j ≠ g → l.getD j true = true
   ·by_cases hgl : l.getD g true = true
    ·have hle : l = le := same_listed hl z1 (fun j hj => by
      rw [z3 j hj]
      by_cases hje : j < e
      ·by_cases hjg : j = g
       ·subst hjg; simp [hgl, hje]
       ·simp [hall j hje hjg, hje]
      ·simp [hlate j (by omega) hj, hje])
     subst hle
     rw [z5] at hcount
     have hfu : fuel + 1 = (fuel + 1 - (n - e)) + (n - e) := by omega
     rw [hfu]
     have ha := putAll_eval ((List.range e).map fun j => (N.getD j 0, a.eval (.tmp (N.getD j 0)))) a0 a hdf hsz (fun p hp => by
      obtain ⟨j, hj, rfl⟩ := List.mem_map.1 hp
      exact ⟨z10 j (List.mem_range.1 hj), rfl⟩) (fun t ht => hout t (fun i hi hh => ht (N.getD i 0, a.eval (.tmp (N.getD i 0))) (List.mem_map.2 ⟨i, List.mem_range.2 hi, rfl⟩) hh))
     rw [ha]
     exact last _ _ w hB (fun j hj => hD j hj (by
      by_cases hjg : j = g
      ·subst hjg; exact hgl
      ·exact hall j hj hjg))
    ·have hgl' : l.getD g true = false := by simpa using hgl
     have hlg : l = lg := same_listed hl z2 (fun j hj => by
      rw [z4 j hj]
      by_cases hje : j < e
      ·by_cases hjg : j = g
       ·subst hjg; simp [hgl']
       ·simp [hall j hje hjg, hje, hjg]
      ·simp [hlate j (by omega) hj, hje])
     subst hlg
     have hset : l.setIfInBounds g true = le := same_listed (by simp [hl]) z1 (fun j hj => by
      rw [listed_set (by omega), z3 j hj]
      by_cases hjg : g = j
      ·subst hjg; simp [z7]
      ·rw [if_neg hjg, z4 j hj]
       have : (j == g) = false := by simpa using fun h => hjg h.symm
       simp [this])
     have hcs := count_set (l := l) (i := g) (by omega) hgl'
     rw [hset, z5] at hcs
     have hfu : fuel = (fuel - (n - e)) + (n - e) := by omega
     obtain ⟨og, hog⟩ : ∃ o, ops[g]? = some o := ⟨ops[g]'(by omega), Array.getElem?_eq_some_iff.2 ⟨by omega, rfl⟩⟩
     have hng := hneed g og hog
     have hready : ∀ j ∈ (T.2.getD g ([], [])).1, j < e ∧ j ≠ g := fun j hj => by
      have := z8 g (by omega) j hj
      exact ⟨by omega, by omega⟩
     obtain ⟨v, hv, hy⟩ := lag og hog a w hout (fun j hj => hD j (hready j hj).1 (hall j (hready j hj).1 (hready j hj).2))
     have hdst := zd g og z7 hog
     refine pure_ le hog hdst hg (fun c a w => by rw [hdst]; exact hQ c a w v) hy rfl ?_
     have hE' : ∀ j, j < e → E j ((a.put (some (N.getD g 0)) v).eval (.tmp (N.getD j 0))) w := fun j hj => by
      by_cases hjg : j = g
      ·subst hjg
       rw [eval_put_same (by rw [hsz]; exact z10 j hj)]
       exact hv
      ·rw [eval_put (z11 g j z7 hj (fun h => hjg h.symm))]
       exact hD j hj (hall j hj hjg)
     have ha := putAll_eval ((List.range e).map fun j => (N.getD j 0, (a.put (some (N.getD g 0)) v).eval (.tmp (N.getD j 0)))) a0 (a.put (some (N.getD g 0)) v) hdf (Array.size_setIfInBounds.trans hsz) (fun p hp => by
      obtain ⟨j, hj, rfl⟩ := List.mem_map.1 hp
      exact ⟨z10 j (List.mem_range.1 hj), rfl⟩) (fun t ht => by
       rw [eval_put (fun hh => ht (N.getD g 0, _) (List.mem_map.2 ⟨g, List.mem_range.2 z7, rfl⟩) hh)]
       exact hout t (fun i hi hh => ht (N.getD i 0, _) (List.mem_map.2 ⟨i, List.mem_range.2 hi, rfl⟩) hh))
     rw [ha, hfu]
     exact last _ _ w hB hE'
   ·have hneeds : ∀ i o, ops[i]? = some o → (∀ x ∈ o.after, Region.binds .any x = true → l.getD x.on false = true) → ∀ j ∈ (T.2.getD i ([], [])).1, l.getD j false = true := fun i o ho hx j hj => by
     rw [hneed i o ho] at hj
     unfold needsOf at hj
     obtain ⟨x, hx', rfl⟩ := List.mem_map.1 hj
     have hx' := List.mem_filter.1 hx'
     exact hx x (by simpa using hx'.1) hx'.2
    refine ⟨fun hr => ?_, fun i hi => ?_⟩
    ·exfalso
     have hev : ∀ i, i < e → l.getD i true = true := by
      intro i
      induction i using Nat.strongRecOn with
      | _ i ihi =>
       intro hie
       by_cases hh : l.getD i true = true
       ·exact hh
       ·exfalso
        obtain ⟨o, ho⟩ : ∃ o, ops[i]? = some o := ⟨ops[i]'(by omega), Array.getElem?_eq_some_iff.2 ⟨by omega, rfl⟩⟩
        have : i ∈ Region.ready .any ops l := mem_ready.2 ⟨by simpa using hh, o, ho, fun x hx hb => by
         have hxn : x.on ∈ (T.2.getD i ([], [])).1 := by
          rw [hneed i o ho]
          exact List.mem_map.2 ⟨x, List.mem_filter.2 ⟨by simpa using hx, hb⟩, rfl⟩
         have hlt' := z8 i (by omega) x.on hxn
         rw [getD_any (by omega)]
         exact ihi x.on hlt' (by omega)⟩
        rw [hr] at this
        cases this
     exact hall (fun j hj _ => hev j hj)
    ·obtain ⟨hun, o, ho, hx⟩ := mem_ready.1 hi
     have hin := hlt i o ho
     have hnd := hneeds i o ho hx
     have hie : i < e := by
      by_cases hie : i < e
      ·exact hie
      ·exfalso
       refine hall (fun j hj hjg => ?_)
       have := all_range h9 i hin
       simp only [hie, decide_false, Bool.false_or] at this
       have := all_range this j hj
       simp only [Bool.or_eq_true, beq_iff_eq, hjg, false_or] at this
       rw [← getD_any (by omega) false]
       exact reach_up z8 hclo n i hin hnd this
     refine wpOp_step ho (fun K hK => ?_)
     refine step i hie o ho a w hB hout (fun j hj => ?_) K (fun v w' hb hv => ?_)
     ·have := z8 i hin j hj
      exact hD j (by omega) (by rw [← getD_any (by omega) false]; exact hnd j hj)
     ·refine hK _ _ ⟨fun _ _ => trivial, ?_⟩
      refine ih _ _ _ (by simp [hl]) (below_step (w := w0.drew) hB hb) hdf (Array.size_setIfInBounds.trans hsz) (fun t ht => ?_) (fun j h1 h2 => ?_) (fun j hj hjl => ?_) (fun d hdn hdl k hk => ?_) ?_
      ·rw [eval_put (ht i hie)]
       exact hout t ht
      ·rw [listed_set (by omega), if_neg (by omega)]
       exact hlate j h1 h2
      ·by_cases hij : i = j
       ·subst hij
        rw [eval_put_same (by rw [hsz]; exact z10 i hie)]
        exact hv
       ·rw [eval_put (z11 i j hie hj hij)]
        rw [listed_set (by omega), if_neg hij] at hjl
        exact hE j _ _ _ (hD j hj hjl) hb
      ·have hkn : k < n := Nat.lt_trans (z8 d hdn k hk) hdn
       rw [getD_any (by simp; omega), listed_set (by omega)]
       rw [getD_any (by simp; omega), listed_set (by omega)] at hdl
       by_cases hik : i = k
       ·rw [if_pos hik]
       ·rw [if_neg hik, ← getD_any (by omega) false]
        by_cases hid : i = d
        ·subst hid
         exact hnd k hk
        ·rw [if_neg hid, ← getD_any (by omega) false] at hdl
         exact hclo d hdn hdl k hk
      ·have := count_set (l := l) (i := i) (by omega) hun
       omega
 refine wp_region_last (S := fun _ => True) (ds := []) hm ?_
 have hno : ∀ j, (Array.replicate ops.size false).getD j true = true → n ≤ j := fun j hj => by
  by_cases hjn : j < n
  ·rw [Array.getD_eq_getD_getElem?] at hj
   simp [hn, hjn] at hj
  ·omega
 refine claim _ _ _ _ (by simp [hn]) (Below.refl _ _) rfl rfl (fun _ _ => rfl) (fun i h1 h2 => ?_) (fun j hj hl => ?_) (fun d hdn hdl => ?_) ?_
 ·rw [Array.getD_eq_getD_getElem?]
  simp [hn, h2]
 ·have := hno j hl
  omega
 ·rw [getD_any (by simp [hn]; exact hdn)] at hdl
  have := hno d hdl
  omega
 ·refine Nat.le_trans List.count_le_length ?_
  simp
end

/-! ### alloc_words (mine) -/
theorem heap_drew (w : World) (k : Nat) : w.drew.heap[k]? = w.heap[k]? := rfl
theorem alloc_size (w : World) (o : Obj) : (w.alloc o).heap.size = w.heap.size + 1 := by
 show (w.heap.push o).size = _
 simp
theorem alloc_at (w : World) (o : Obj) (g : Nat) (h : g = w.heap.size) : (w.alloc o).heap[g]? = some o := by
 subst h
 exact blk_new w o

/-! ### short_cell (mine) -/
theorem cl {w : World} {g : Nat} {cs : Array Value} {t : TypeId} (h : Aside0 (w.heap[g]? = some (.cells cs t (0, 0)))) (i : Nat) {v : Value} (e : cs[i]? = some v := by rfl) : w.cell? ⟨g, i, none⟩ = some v := (blk_cell h.out i).trans e

/-! ### short_words (mine) -/
/-! Words that bear a proof's usual end in them, so that the texts need not spell it. -/
theorem kb {w w' : World} {g : Nat} {o : Obj} (h : w.heap[g]? = some o) (f : w.heap[g]? = some o → w'.heap[g]? = some o := by intro h_; (with_reducible repeat (first | refine blk_drewN ?_ _ | refine blk_drew ?_ | refine blk_alloc ?_ _)); exact h_) : w'.heap[g]? = some o := f h
theorem bw {n : Nat} {w W W' : World} (h : Below n w W) (f : Below n w W → Below n w W' := by intro h_; repeat (first | (with_reducible first | exact h_ | apply below_alloc | apply pw_below_drewN | apply below_drew1 | refine below_set ?_ (Aside0.out (by assumption))) | exact h_)) : Below n w W' := f h
theorem kp {w W W' : World} {g : Nat} {row : Option Nat} (h : KeepBut w W g row) (f : KeepBut w W g row → KeepBut w W' g row := by intro h_; repeat (first | (with_reducible first | exact h_ | apply KeepBut.set_ | apply keep_drewN | apply keep_drew | apply keep_alloc | refine keep_far ?_ (Aside0.out (by assumption)) _) | exact h_)) : KeepBut w W' g row := f h
theorem dt {p : Prop} [Decidable p] (h : decide p = true := by first | (with_reducible assumption) | assumption) : p := of_decide_eq_true h
theorem kr {α : Type} {d : Kd α} {e base : Nat} {ok : Nat → Prop} {w w' : World} {v : Value} {xs : List α} (h : Kd.R d e w base ok v xs) (f : Kd.R d e w base ok v xs → Kd.R d e w' base ok v xs := by intro h_; (with_reducible repeat (first | apply Kd.R_alloc | apply Kd.R_drewN | apply Kd.R_drew)); exact h_) : Kd.R d e w' base ok v xs := f h
theorem ks {α : Type} {d : Kd α} {e base : Nat} {ok : Nat → Prop} {w w' : World} {v : Value} {xs : List α} (h : Kd.S d e w base ok v xs) (f : Kd.S d e w base ok v xs → Kd.S d e w' base ok v xs := by intro h_; (with_reducible repeat (first | apply Kd.S_alloc | apply Kd.S_drewN | apply Kd.S_drew)); exact h_) : Kd.S d e w' base ok v xs := f h
theorem goesM_ {P : Program} {ops : Array Oper} {Q : Exit → Act → World → Prop} {rest : List Oper} {oi : Oper} {a : Act} {w : World} (N : Option Tmp) (hd : oi.dst = N) (hg : oi.guard = none) {f : FuncId} {fn : Func} {ar : Array Operand} {ts : Array TypeId} (hf : P.funcs[f]? = some fn) (args : Array Value)
  (h : Calls P f args w fun e w' => ∃ v, e = .returned v ∧ wpList P ops Q rest (a.put N v) w') (hname : (fn.name == "runtime.NumGoroutine") = false := by kernel_rfl) (hb : fn.body.isSome = true := by rfl) (hop : oi.op = .call { callee := .value (.func f), args := ar, argTypes := ts } := by rfl)
  (hargs : ar.map a.eval = args := by ((try simp only [List.map_toArray, List.map_cons, List.map_nil]); first | done | rfl | (simp only [List.length_drop, List.length_take]; rfl))) : wpList P ops Q (oi :: rest) a w :=
 goesL_ N hd hg hf hname hb args hop hargs h
theorem kf {w w' : World} {g : Nat} {o : Obj} (h : w.heap[g]? = some o) (f : w.heap[g]? = some o → w'.heap[g]? = some o := by intro h_; (with_reducible repeat (first | refine blk_drewN ?_ _ | refine blk_drew ?_ | refine blk_alloc ?_ _ | refine blk_far ?_ (Aside0.out (by assumption)) _)); exact h_) : w'.heap[g]? = some o := f h
theorem gs {w W : World} {g : Nat} (hg : g = W.heap.size) (h : Below w.heap.size w W) : w.heap.size ≤ g := by rw [hg]; exact below_size h
theorem ga {W w1 : World} {g g' : Nat} {o : Obj} (hg : g' = W.heap.size) (h : w1.heap[g]? = some o) (f : w1.heap[g]? = some o → W.heap[g]? = some o := by intro h_; (with_reducible repeat (first | refine blk_drewN ?_ _ | refine blk_drew ?_ | refine blk_alloc ?_ _)); exact h_) : g ≠ g' := by rw [hg]; exact Nat.ne_of_lt (blk_lt (f h))
theorem gc {W w1 : World} {g g' : Nat} {o : Obj} (hg : g' = W.heap.size) (h : w1.heap[g]? = some o) (f : w1.heap[g]? = some o → W.heap[g]? = some o := by intro h_; (with_reducible repeat (first | refine blk_drewN ?_ _ | refine blk_drew ?_ | refine blk_alloc ?_ _)); exact h_) : g' ≠ g := by rw [hg]; exact Nat.ne_of_gt (blk_lt (f h))
theorem bx {P : Program} {ops : Array Oper} {Q : Exit → Act → World → Prop} {rest : List Oper} {o : Oper} {a : Act} {W : World} {N : Tmp} {cs : Array Value} {t : TypeId}
  (h : ∀ g, g = W.heap.size → ∀ w1, w1.heap[g]? = some (.cells cs t (0, 0)) → Below W.heap.size W w1 → wpList P ops Q rest (a.put o.dst (.pointer (some ⟨g, 0, none⟩))) w1) (hgd : o.guard = none := by rfl) (hd : o.dst = some N := by rfl)
  (hrun : (execOp a.eval o).run P W = .ok (.value (.pointer (some ⟨W.heap.size, 0, none⟩))) (W.alloc (.cells cs t (0, 0))) := by first | (go_simp; done) | (go_simp; rfl)) : wpList P ops Q (o :: rest) a W := box_event hgd hd hrun h
theorem kq {α : Type} {d : Kd α} {e base : Nat} {ok : Nat → Prop} {w w' : World} {v : Value} {xs : List α} (h : Kd.Q d e w base ok v xs) (f : Kd.Q d e w base ok v xs → Kd.Q d e w' base ok v xs := by intro h_; (with_reducible repeat (first | apply Kd.Q_alloc | apply Kd.Q_drewN | apply Kd.Q_drew)); exact h_) : Kd.Q d e w' base ok v xs := f h
theorem kc {α : Type} {d : Kd α} {w w' : World} {xs : List α} {A : Option Addr} {n : Nat} (h : Kd.C d w A n xs) (f : Kd.C d w A n xs → Kd.C d w' A n xs := by intro h_; repeat (first | exact h_ | (with_reducible refine Kd.C_alloc ?_ _) | (with_reducible refine Kd.C_drewN ?_ _) | (with_reducible refine Kd.C_drew ?_))) : Kd.C d w' A n xs := f h
theorem rt {a b : Ending} (h : a = b := by first | rfl | (simp [errW_none, errW_some] <;> rfl) | (simp [*, errW_none, errW_some] <;> rfl)) : a = b := h
theorem kt {w w' : World} {g : Nat} {t : TypeId} {cs cs' : Array Value} (h : w.heap[g]? = some (.cells cs t (0, 0))) (f : w.heap[g]? = some (.cells cs t (0, 0)) → w'.heap[g]? = some (.cells cs' t (0, 0)) := by intro h_; (with_reducible repeat (first | refine blk_drewN ?_ _ | refine blk_drew ?_ | refine blk_alloc ?_ _)); refine blk_put (cs := ?_) ?_ _ _ ?_; rotate_left; (· (with_reducible repeat (first | refine blk_drewN ?_ _ | refine blk_drew ?_ | refine blk_alloc ?_ _)); exact h_); rfl) : w'.heap[g]? = some (.cells cs' t (0, 0)) := f h

/-! ### short_steps (mine) -/
/-! Words for the steps of a region whose order is drawn: each bears its usual proofs in it. -/
/-- The operations listed so far, as bits. -/
def bm (n m : Nat) : Array Bool := ((List.range n).map fun i => m.testBit i).toArray
section
variable {P : Program} {md : Region.Mode} {ops : Array Oper} {Q : Exit → Act → World → Prop} {S : World → Prop} {ds : List Nat} {T : Bool × List (List Nat × List Nat)} {B : List Nat} {i : Nat} {N : Option Tmp} {oi : Oper} {v : Value} {fuel : Nat} {l : Array Bool} {a a' : Act} {w : World}
variable (i) (N)
theorem pw_ (l' : Array Bool) (HT : Aside0 (rtab md ops = T)) (h : wpAnyLast P md ops Q S ds fuel l' a' w) (hi : ops[i]? = some oi := by rfl) (hN : oi.dst = N := by rfl) (hc : anyT T l.toList l'.toList i = true := by kernel_rfl) (hQ : ∀ c a w, Q (.panic c) (a.put oi.dst v) w → Q (.panic c) a w := by exact fun _ _ _ h => h)
  (hw : Region.wanted oi (yielded ops a.tmps) = true := by rfl) (hr : ∀ w', (execOp a.eval oi).run P w' = .ok (.value v) w' := by intro w'; go_simp; with_reducible rfl) (ha : a.put N v = a' := by simp only [Act.put, List.setIfInBounds_toArray, List.set_cons_zero, List.set_cons_succ, i64_w, i32_w]; rfl) : wpAnyLast P md ops Q S ds (fuel + 1) l a w :=
 pure_ l' hi hN (any_of HT.out hc) hQ (Or.inl ⟨hw, hr⟩) ha h
theorem uw_ (l' : Array Bool) (HT : Aside0 (rtab md ops = T)) (h : wpAnyLast P md ops Q S ds fuel l' a' w) (hi : ops[i]? = some oi := by rfl) (hN : oi.dst = N := by rfl) (hc : anyT T l.toList l'.toList i = true := by kernel_rfl) (hQ : ∀ c a w, Q (.panic c) (a.put oi.dst undef) w → Q (.panic c) a w := by exact fun _ _ _ h => h)
  (hw : Region.wanted oi (yielded ops a.tmps) = false := by rfl) (ha : a.put N undef = a' := by simp only [Act.put, List.setIfInBounds_toArray, List.set_cons_zero, List.set_cons_succ, i64_w, i32_w]; rfl) : wpAnyLast P md ops Q S ds (fuel + 1) l a w :=
 pure_ l' hi hN (any_of HT.out hc) hQ (Or.inr ⟨hw, rfl⟩) ha h
theorem tw_ (l' : Array Bool) (HT : Aside0 (rtab md ops = T)) (HW : Aside0 (waitsOk T.2 B = true)) (hS : S w) (h : wpAnyLast P md ops Q S ds fuel l' a' w) (hi : ops[i]? = some oi := by rfl) (hN : oi.dst = N := by rfl) (hc : takeW T B ds l.toList l'.toList i = true := by kernel_rfl) (hQ : ∀ c a w, Q (.panic c) (a.put oi.dst v) w → Q (.panic c) a w := by exact fun _ _ _ h => h)
  (hw : Region.wanted oi (yielded ops a.tmps) = true := by rfl) (hr : ∀ w', S w' → (execOp a.eval oi).run P w' = .ok (.value v) w' := by intro w' s_; (repeat' (obtain ⟨s_0, s_⟩ := s_)); go_simp; with_reducible rfl) (ha : a.put N v = a' := by simp only [Act.put, List.setIfInBounds_toArray, List.set_cons_zero, List.set_cons_succ, i64_w, i32_w]; rfl) : wpAnyLast P md ops Q S ds (fuel + 1) l a w :=
 take_ l' hi hN (take_ofW HT.out HW.out hc) hQ (Or.inl ⟨hw, hr⟩) hS ha h
theorem pv_ (l' : Array Bool) (h : wpAnyLast P md ops Q S ds fuel l' a' w) (hi : ops[i]? = some oi := by rfl) (hN : oi.dst = N := by rfl) (hc : anyB md ops l l' i = true := by kernel_rfl) (hQ : ∀ c a w, Q (.panic c) (a.put oi.dst v) w → Q (.panic c) a w := by exact fun _ _ _ h => h)
  (hw : Region.wanted oi (yielded ops a.tmps) = true := by rfl) (hr : ∀ w', (execOp a.eval oi).run P w' = .ok (.value v) w' := by intro w'; go_simp; with_reducible rfl) (ha : a.put N v = a' := by simp only [Act.put, List.setIfInBounds_toArray, List.set_cons_zero, List.set_cons_succ, i64_w, i32_w]; rfl) : wpAnyLast P md ops Q S ds (fuel + 1) l a w :=
 pure_ l' hi hN hc hQ (Or.inl ⟨hw, hr⟩) ha h
theorem tv_ (l' : Array Bool) (hS : S w) (h : wpAnyLast P md ops Q S ds fuel l' a' w) (hi : ops[i]? = some oi := by rfl) (hN : oi.dst = N := by rfl) (hc : takeB md ops ds l l' i = true := by kernel_rfl) (hQ : ∀ c a w, Q (.panic c) (a.put oi.dst v) w → Q (.panic c) a w := by exact fun _ _ _ h => h)
  (hw : Region.wanted oi (yielded ops a.tmps) = true := by rfl) (hr : ∀ w', S w' → (execOp a.eval oi).run P w' = .ok (.value v) w' := by intro w' s_; (repeat' (obtain ⟨s_0, s_⟩ := s_)); go_simp; with_reducible rfl) (ha : a.put N v = a' := by simp only [Act.put, List.setIfInBounds_toArray, List.set_cons_zero, List.set_cons_succ, i64_w, i32_w]; rfl) : wpAnyLast P md ops Q S ds (fuel + 1) l a w :=
 take_ l' hi hN hc hQ (Or.inl ⟨hw, hr⟩) hS ha h
theorem ow_ (l' : Array Bool) (HT : Aside0 (rtab md ops = T)) (h : ∀ K : Act → World → Prop, Shut (∀ a' w', S w' → (S w' → wpAnyLast P md ops Q S ds fuel l' a' w') → K a' w') → if Region.wanted oi (yielded ops a.tmps) = true then Oper.wp P oi a w K Q else K (a.put N undef) w)
  (hi : ops[i]? = some oi := by rfl) (hN : oi.dst = N := by rfl) (hc : (readyT T.2 l.toList == [i] && l.toList.set i true == l'.toList) = true := by kernel_rfl) (hd : i ∉ ds := by decide) : wpAnyLast P md ops Q S ds (fuel + 1) l a w :=
 one_ l' hi hN (one_of HT.out hc) hd h
theorem ov_ (l' : Array Bool) (h : ∀ K : Act → World → Prop, Shut (∀ a' w', S w' → (S w' → wpAnyLast P md ops Q S ds fuel l' a' w') → K a' w') → if Region.wanted oi (yielded ops a.tmps) = true then Oper.wp P oi a w K Q else K (a.put N undef) w)
  (hi : ops[i]? = some oi := by rfl) (hN : oi.dst = N := by rfl) (hc : readyB md ops l l' i = true := by kernel_rfl) (hd : i ∉ ds := by decide) : wpAnyLast P md ops Q S ds (fuel + 1) l a w :=
 one_ l' hi hN hc hd h
variable {i} {N}
theorem nw_ (n : Tmp) {a0 : Act} (h : wpAnyLast P md ops Q S ds fuel l a' w) (h0 : a = a0.put (some n) v := by rfl) (ha : a0.put (some n) v = a' := by simp only [Act.put, List.setIfInBounds_toArray, List.set_cons_zero, List.set_cons_succ, i64_w, i32_w]; rfl) : wpAnyLast P md ops Q S ds fuel l a w := norm_ (h0.trans ha) h
theorem gw_ {K : Act → World → Prop} {f : FuncId} {fn : Func} {ar : Array Operand} {ts : Array TypeId} (hf : P.funcs[f]? = some fn) (args : Array Value)
  (h : Calls P f args w fun e w' => ∃ v, e = .returned v ∧ K (a.put N v) w') (hname : (fn.name == "runtime.NumGoroutine") = false := by kernel_rfl) (hb : fn.body.isSome = true := by rfl) (hw : Region.wanted oi (yielded ops a.tmps) = true := by rfl) (hN : oi.dst = N := by rfl) (hop : oi.op = .call { callee := .value (.func f), args := ar, argTypes := ts } := by rfl)
  (hargs : ar.map a.eval = args := by (try simp only [List.map_toArray, List.map_cons, List.map_nil]); first | done | rfl | (simp only [List.length_drop, List.length_take]; rfl)) : if Region.wanted oi (yielded ops a.tmps) = true then Oper.wp P oi a w K Q else K (a.put N undef) w :=
 goes_ hf hname hb args hw hN hop hargs h
end

/-! ### short_more (mine) -/
/-! More words: cells told at once, blocks carried over stores and calls. -/
section
variable {w w' W W' : World} {g g' : Nat} {t : TypeId} {o0 o1 o2 o3 o4 o5 o6 o7 : Value}
theorem ce2 (h : Aside0 (w.heap[g]? = some (.cells #[o0, o1] t (0, 0)))) : w.cell? ⟨g, 0, none⟩ = some o0 ∧ w.cell? ⟨g, 1, none⟩ = some o1 := ⟨cl h 0, cl h 1⟩
theorem fz2 {cs : Array Value} (h : Aside0 (w.heap[g]? = some (.cells cs t (0, 0)))) : w.frozen? ⟨g, 0, none⟩ = false ∧ w.frozen? ⟨g, 1, none⟩ = false := ⟨blk_frozen h.out 0, blk_frozen h.out 1⟩
theorem ce8 (h : Aside0 (w.heap[g]? = some (.cells #[o0, o1, o2, o3, o4, o5, o6, o7] t (0, 0)))) : w.cell? ⟨g, 0, none⟩ = some o0 ∧ w.cell? ⟨g, 1, none⟩ = some o1 ∧ w.cell? ⟨g, 2, none⟩ = some o2 ∧ w.cell? ⟨g, 3, none⟩ = some o3 ∧ w.cell? ⟨g, 4, none⟩ = some o4 ∧ w.cell? ⟨g, 5, none⟩ = some o5 ∧ w.cell? ⟨g, 6, none⟩ = some o6 ∧ w.cell? ⟨g, 7, none⟩ = some o7 :=
 ⟨cl h 0, cl h 1, cl h 2, cl h 3, cl h 4, cl h 5, cl h 6, cl h 7⟩
theorem fz8 {cs : Array Value} (h : Aside0 (w.heap[g]? = some (.cells cs t (0, 0)))) : w.frozen? ⟨g, 0, none⟩ = false ∧ w.frozen? ⟨g, 1, none⟩ = false ∧ w.frozen? ⟨g, 2, none⟩ = false ∧ w.frozen? ⟨g, 3, none⟩ = false ∧ w.frozen? ⟨g, 4, none⟩ = false ∧ w.frozen? ⟨g, 5, none⟩ = false ∧ w.frozen? ⟨g, 6, none⟩ = false ∧ w.frozen? ⟨g, 7, none⟩ = false :=
 ⟨blk_frozen h.out 0, blk_frozen h.out 1, blk_frozen h.out 2, blk_frozen h.out 3, blk_frozen h.out 4, blk_frozen h.out 5, blk_frozen h.out 6, blk_frozen h.out 7⟩
theorem bq {cs cs' : Array Value} (h : w.heap[g]? = some (.cells cs t (0, 0))) (f : w.heap[g]? = some (.cells cs t (0, 0)) → w'.heap[g]? = some (.cells cs' t (0, 0)) := by intro h_; (with_reducible repeat (first | exact h_ | apply blk_drewN | apply blk_drew | apply blk_alloc | apply blk_put)); all_goals (try (simp only [List.setIfInBounds_toArray, List.set_cons_zero, List.set_cons_succ]; try rfl))) : w'.heap[g]? = some (.cells cs' t (0, 0)) := f h
theorem bfar {cs : Array Value} {i : Nat} {u : Value} (hn : g ≠ g') (h : w.heap[g]? = some (.cells cs t (0, 0))) : (w.setCell ⟨g', i, none⟩ u).heap[g]? = some (.cells cs t (0, 0)) := blk_far h (p := ⟨g', i, none⟩) hn u
theorem bf {cs cs' : Array Value} (n : Aside0 (g ≠ g')) (h : w.heap[g]? = some (.cells cs t (0, 0))) (f : g ≠ g' → w.heap[g]? = some (.cells cs t (0, 0)) → w'.heap[g]? = some (.cells cs' t (0, 0)) := by intro n_ h_; (with_reducible repeat (first | exact h_ | apply bfar n_ | apply blk_drewN | apply blk_drew | apply blk_alloc | apply blk_put)); all_goals (try (simp only [List.setIfInBounds_toArray, List.set_cons_zero, List.set_cons_succ]; try rfl))) : w'.heap[g]? = some (.cells cs' t (0, 0)) := f n.out h
theorem bf2 {g2 : Nat} {cs cs' : Array Value} (n : Aside0 (g ≠ g')) (m : Aside0 (g ≠ g2)) (h : w.heap[g]? = some (.cells cs t (0, 0))) (f : g ≠ g' → g ≠ g2 → w.heap[g]? = some (.cells cs t (0, 0)) → w'.heap[g]? = some (.cells cs' t (0, 0)) := by intro n_ m_ h_; (with_reducible repeat (first | exact h_ | apply bfar n_ | apply bfar m_ | apply blk_drewN | apply blk_drew | apply blk_alloc | apply blk_put)); all_goals (try (simp only [List.setIfInBounds_toArray, List.set_cons_zero, List.set_cons_succ]; try rfl))) : w'.heap[g]? = some (.cells cs' t (0, 0)) := f n.out m.out h
theorem bb {o : Obj} (h : Aside0 (w.heap[g]? = some o)) (hb : Below W.heap.size W W') (f : w.heap[g]? = some o → W.heap[g]? = some o := by intro h_; (with_reducible repeat (first | refine blk_drewN ?_ _ | refine blk_drew ?_ | refine blk_alloc ?_ _)); exact h_) : W'.heap[g]? = some o := blk_below (f h.out) hb
theorem kB {o : Obj} {row : Option Nat} (hk : KeepBut W W' g row) (h : W.heap[g']? = some o) (hn : Aside0 (g' ≠ g)) (hr : some g' ≠ row := by simp) : W'.heap[g']? = some o := KeepBut.blk hk h hn.out hr
theorem cfar {i j : Nat} {u : Value} {r : Option Value} (hn : g ≠ g') (e : w.cell? ⟨g, i, none⟩ = r) : (w.setCell ⟨g', j, none⟩ u).cell? ⟨g, i, none⟩ = r := (cell_far (p := ⟨g', j, none⟩) hn u).trans e
theorem fr {E G : Prop} (h : Aside0 (g ≠ g')) (e : E) (f : g ≠ g' → E → G := by intro h_ e_; (with_reducible repeat (first | exact e_ | apply cfar h_)); all_goals exact e_) : G := f h.out e
theorem reI {k : IntKind} {ok : Nat → Prop} {base : Nat} (xs : List Int) : Reps (Kd.M (Kd.int k) w base ok) 1 xs (xs.map (.int k)) := by
 induction xs with
 | nil => exact Reps.none _ _
 | cons x xs ih => exact Reps.one (show Kd.M (Kd.int k) _ _ _ x [.int k x] from rfl) ih
theorem reS {ok : Nat → Prop} {base : Nat} (xs : List ByteArray) : Reps (Kd.M Kd.string w base ok) 1 xs (xs.map .string) := by
 induction xs with
 | nil => exact Reps.none _ _
 | cons x xs ih => exact Reps.one (show Kd.M Kd.string _ _ _ x [.string x] from rfl) ih
end

/-! ### short_more2 (mine) -/
/-! Words that save bytes alone. -/
theorem am {p : Prop} (h : p) : Aside0 p := ⟨h⟩
theorem oj {α : Type} {a b : α} (h : some a = some b) : a = b := Option.some.inj h
theorem bs {α β : Type} {x : Option α} {f : α → Option β} {b : β} (h : x.bind f = some b) : ∃ a, x = some a ∧ f a = some b := Option.bind_eq_some_iff.mp h
theorem oo {a b : Nat} (h : Aside0 (a ≠ b)) : a ≠ b ∧ b ≠ a := ⟨h.out, h.out.symm⟩
theorem evg {a : Act} {t : Nat} {v : Value} (h : a.eval (.tmp t) = v) : a.tmps[t]?.getD undef = v := by
 rw [← h]
 show _ = a.tmps.getD t undef
 rw [Array.getD_eq_getD_getElem?]
theorem eg {a : Act} {t : Nat} {v : Value} (h : a.eval (.tmp t) = v) : a.eval (.tmp t) = v ∧ a.tmps[t]?.getD undef = v := ⟨h, evg h⟩
section
variable {P : Program} {ops : Array Oper} {Q : Exit → Act → World → Prop} {oi : Oper} {t : Tmp} {a : Act} {w : World} {K : Act → World → Prop}
theorem va_ {E : Value → World → Prop} (v : Value) (hK : Shut (∀ v w', Below w.heap.size w w' → E v w' → K (a.put (some t) v) w')) (e : E v w) (hrun : (execOp a.eval oi).run P w = .ok (.value v) w := by go_simp) (hw : Region.wanted oi (yielded ops a.tmps) = true := by rfl) (hN : oi.dst = some t := by rfl) :
  if Region.wanted oi (yielded ops a.tmps) = true then Oper.wp P oi a w K Q else K (a.put oi.dst undef) w := by
 have h := value_ (ops := ops) (Q := Q) hw hN hrun (hK.out v w (Below.refl _ _) e)
 rw [hN]
 exact h
end
section
variable {P : Program} {ops : Array Oper} {rest : List Oper} {o : Oper} {a : Act} {Q : Exit → Act → World → Prop} {W : World}
theorem gd (N : Tmp) (h : wpList P ops Q (o :: rest) a W) (_h : o.dst = some N := by exact rfl) : wpList P ops Q (o :: rest) a W := h
theorem bz {N : Tmp}
 (h : ∀ g, g = W.heap.size → ∀ w1, w1.heap[g]? = some (.cells #[.int .i64 0, .int .i64 0, .int .i64 0, .int .i64 0, .bool false, .bool false, .bool false, .bool false] 55 (0, 0)) → Below W.heap.size W w1 → wpList P ops Q rest (a.put o.dst (.pointer (some ⟨g, 0, none⟩))) w1) (hgd : o.guard = none := by rfl) (hd : o.dst = some N := by rfl)
 (hrun : (execOp a.eval o).run P W = .ok (.value (.pointer (some ⟨W.heap.size, 0, none⟩))) (W.alloc (.cells #[.int .i64 0, .int .i64 0, .int .i64 0, .int .i64 0, .bool false, .bool false, .bool false, .bool false] 55 (0, 0))) := by first | (go_simp; done) | (go_simp; rfl)) : wpList P ops Q (o :: rest) a W := box_event hgd hd hrun h
end
section
variable {P : Program} {ops : Array Oper} {Q : Exit → Act → World → Prop} {id n e g : Nat} {a0 : Act} {w0 : World} {T : Bool × List (List Nat × List Nat)}
theorem fre_ (le lg : Array Bool) (N : List Nat) (E : Nat → Value → World → Prop)
  (hm : P.follows .mixedOrders = true) (hn : ops.size = n) (hT : rtab .any ops = T) (hc : freeChk T.2 n e g le lg N a0.tmps.size = true)
  (hd : ((List.range e).all fun i => ((ops[i]?).bind (·.dst)) == some (N.getD i 0)) = true) (hg : anyT T lg.toList le.toList g = true)
  (hQ : ∀ c (a : Act) w v, Q (.panic c) (a.put (some (N.getD g 0)) v) w → Q (.panic c) a w)
  (hE : ∀ j v w w', E j v w → Below w.heap.size w w' → E j v w')
  (step : ∀ i, i < e → ∀ o, ops[i]? = some o → ∀ (a : Act) (w : World), Below w0.heap.size w0.drew w → (∀ t, (∀ i, i < e → N.getD i 0 ≠ t) → a.eval (.tmp t) = a0.eval (.tmp t)) →
   (∀ j ∈ (T.2.getD i ([], [])).1, E j (a.eval (.tmp (N.getD j 0))) w) → ∀ K, Shut (∀ v w', Below w.heap.size w w' → E i v w' → K (a.put (some (N.getD i 0)) v) w') →
   if Region.wanted o (yielded ops a.tmps) = true then Oper.wp P o a w K Q else K (a.put o.dst undef) w)
  (lag : ∀ o, ops[g]? = some o → ∀ (a : Act) (w : World), (∀ t, (∀ i, i < e → N.getD i 0 ≠ t) → a.eval (.tmp t) = a0.eval (.tmp t)) → (∀ j ∈ (T.2.getD g ([], [])).1, E j (a.eval (.tmp (N.getD j 0))) w) → ∃ v, E g v w ∧ Yields P ops o v a)
  (last : ∀ (f : Nat) (vs : Nat → Value) (w : World), Below w0.heap.size w0.drew w → (∀ j, j < e → E j (vs j) w) → wpAnyLast P .any ops Q (fun _ => True) [] (f + (n - e)) le (putAll a0 ((List.range e).map fun j => (N.getD j 0, vs j))) w) :
  (Code.region id ops true).wp P Q a0 w0 := free_ le lg N E hm hn hT hc hd (any_of hT hg) hQ hE step lag last
end

theorem eqA55 (d : Nat) (w : World) (x0 y0 : Int) (x1 y1 : Int) (x2 y2 : Int) (x3 y3 : Int) (x4 y4 : Bool) (x5 y5 : Bool) (x6 y6 : Bool) (x7 y7 : Bool) :
  (Op.equalIn (d + 2) 55 (.agg #[.int .i64 x0, .int .i64 x1, .int .i64 x2, .int .i64 x3, .bool x4, .bool x5, .bool x6, .bool x7]) (.agg #[.int .i64 y0, .int .i64 y1, .int .i64 y2, .int .i64 y3, .bool y4, .bool y5, .bool y6, .bool y7])).run Try.prog w = .ok (x0 == y0 && (x1 == y1 && (x2 == y2 && (x3 == y3 && (x4 == y4 && (x5 == y5 && (x6 == y6 && (x7 == y7)))))))) w := by
 refine eqA_of Try.underlying55 (by kernel_rfl) ?_
 refine eqf_cons (by rfl) (by go_simp; rfl) (by go_simp; rfl) (by go_simp) ?_
 refine eqf_cons (by rfl) (by go_simp; rfl) (by go_simp; rfl) (by go_simp) ?_
 refine eqf_cons (by rfl) (by go_simp; rfl) (by go_simp; rfl) (by go_simp) ?_
 refine eqf_cons (by rfl) (by go_simp; rfl) (by go_simp; rfl) (by go_simp) ?_
 refine eqf_cons (by rfl) (by go_simp; rfl) (by go_simp; rfl) (by go_simp) ?_
 refine eqf_cons (by rfl) (by go_simp; rfl) (by go_simp; rfl) (by go_simp) ?_
 refine eqf_cons (by rfl) (by go_simp; rfl) (by go_simp; rfl) (by go_simp) ?_
 exact eqf_last (by rfl) (by go_simp; rfl) (by go_simp; rfl) (by go_simp)

attribute [local go_sem high] eqA55

/-! ### laws_big: function 9 -/
def laws_big.f (l0 : List Int) : Option (Bool) := some (decide ((l0.length : Int) > 1048576))
theorem laws_big.calls (A0 : Option Addr) (c0 : Nat) (l0 : List Int) (r : Bool) (w : World) (hr0 : Kd.C (Kd.int .u8) w A0 l0.length l0) (hc0 : l0.length ≤ c0) (h : laws_big.f l0 = some r) :
  Calls Try.prog 9 #[.slice A0 l0.length c0] w fun e w' => e = .returned (.bool r) ∧ Drawn0 w w' := by
 have HR0 := am hr0
 have HC0 := am hc0
 clear hr0 hc0
 have H : (some (decide ((l0.length : Int) > 1048576))) = some r := h
 clear h
 obtain rfl := oj H
 go_enter Try.func9, Try.ntmps9
 go_wp2
 go_ret
 exact ⟨by first | rfl | (simp; done) | (simp [*]; done), by repeat (first | exact Drawn0.refl _ | apply Drawn0.step)⟩

/-! ### laws_sameInts: function 26 -/
def laws_sameInts.l0 : Nat → List Int → List Int → Int → Option (Bool)
 | 0, _, _, _ => none
 | k + 1, x0, x1, x5 => if x5 < (x0.length : Int) then (if 0 ≤ x5 then (if x5 < (x1.length : Int) then (if (rd x0 x5) = (rd x1 x5) then (laws_sameInts.l0 k x0 x1 (wrap64 (x5 + 1))) else (some false)) else (none)) else (none)) else (some true)
def laws_sameInts.f (k : Nat) (l0 : List Int) (l1 : List Int) : Option (Bool) := if (l0.length : Int) = (l1.length : Int) then (laws_sameInts.l0 k l0 l1 0) else (some false)
theorem laws_sameInts.calls (k : Nat) (A0 : Option Addr) (c0 : Nat) (l0 : List Int) (A1 : Option Addr) (c1 : Nat) (l1 : List Int) (r : Bool) (w : World) (hr0 : Kd.C (Kd.int .i64) w A0 l0.length l0) (hc0 : l0.length ≤ c0) (hr1 : Kd.C (Kd.int .i64) w A1 l1.length l1) (hc1 : l1.length ≤ c1) (h : laws_sameInts.f k l0 l1 = some r) :
  Calls Try.prog 26 #[.slice A0 l0.length c0, .slice A1 l1.length c1] w fun e w' => e = .returned (.bool r) ∧ Drawn0 w w' := by
 have HR0 := am hr0
 have HC0 := am hc0
 clear hr0 hc0
 have HR1 := am hr1
 have HC1 := am hc1
 clear hr1 hc1
 have H : (if (l0.length : Int) = (l1.length : Int) then (laws_sameInts.l0 k l0 l1 0) else (some false)) = some r := h
 clear h
 by_cases c3 : (l0.length : Int) = (l1.length : Int)
 ·rw [if_pos c3] at H
  have c3b0 : ((l0.length : Int) == (l1.length : Int)) = true := beq_iff_eq.mpr c3
  have c3b1 : ((l0.length : Int) != (l1.length : Int)) = false := bne_eq_false_iff_eq.mpr c3
  have c3b2 : (l0.length == l1.length) = true := by first | simpa using c3 | (simp at c3 ⊢; omega)
  clear c3
  have H' := am H
  clear H
  go_enter Try.func26, Try.ntmps26
  go_wp2
  repeat (go_quiet (fail); try go_wp2)
  go_loopg [5] k (fun kq v5 w' => ∃ (x5_1 : Int), v5 = .int .i64 x5_1 ∧ Aside0 (laws_sameInts.l0 kq l0 l1 x5_1 = some r) ∧ Aside0 (kq ≤ k) ∧ Drawn0 w w')
  case atStart => exact ⟨(0), (by first | rfl | (simp; done) | (simp [*]; done)), H', ⟨Nat.le_refl _⟩, by repeat (first | exact Drawn0.refl _ | apply Drawn0.step)⟩
  case round =>
   clear H'
   (try clear c1); (try clear c2); (try clear p2); (try clear c3); (try clear c3b0); (try clear c3b1); (try clear c3b2)
   obtain ⟨x5_1, rfl, HA, HK1, ⟨m1, rfl⟩⟩ := hrel
   cases gk with
   | zero => exact absurd HA.out (by simp [laws_sameInts.l0])
   | succ k1 =>
    have H := HA.out
    clear HA
    simp only [laws_sameInts.l0] at H
    by_cases c4 : x5_1 < (l0.length : Int)
    ·rw [if_pos c4] at H
     have c4b0 : decide (x5_1 < (l0.length : Int)) = true := decide_eq_true c4
     clear c4
     by_cases c5 : 0 ≤ x5_1
     ·rw [if_pos c5] at H
      have c5b0 : decide (0 ≤ x5_1) = true := decide_eq_true c5
      clear c5
      by_cases c6 : x5_1 < (l1.length : Int)
      ·rw [if_pos c6] at H
       have c6b0 : decide (x5_1 < (l1.length : Int)) = true := decide_eq_true c6
       clear c6
       by_cases c7 : (rd l0 x5_1) = (rd l1 x5_1)
       ·rw [if_pos c7] at H
        have c7b0 : ((rd l0 x5_1) == (rd l1 x5_1)) = true := beq_iff_eq.mpr c7
        have c7b1 : ((rd l0 x5_1) != (rd l1 x5_1)) = false := bne_eq_false_iff_eq.mpr c7
        clear c7
        have H' := am H
        clear H
        have p101 : 0 ≤ (x5_1 : Int) := dt
        have q101 : x5_1 < (l0.length : Int) := dt
        obtain ⟨ad101, e101, hx101_0⟩ := Kd.at_int HR0.out x5_1 p101 q101
        cases e101
        replace p101 := eq_true p101
        replace q101 := eq_true q101
        have p102 : 0 ≤ (x5_1 : Int) := dt
        have q102 : x5_1 < (l1.length : Int) := dt
        obtain ⟨ad102, e102, hx102_0⟩ := Kd.at_int HR1.out x5_1 p102 q102
        cases e102
        replace p102 := eq_true p102
        replace q102 := eq_true q102
        go_wp2
        repeat (go_quiet (fail); try go_wp2)
        go_roundg k1
        case measure => have := HK1.out; omega
        case rel => exact ⟨(wrap64 (x5_1 + 1)), (by first | rfl | (simp; done) | (simp [*]; done)), H', ⟨by have := HK1.out; omega⟩, by repeat (first | exact Drawn0.refl _ | apply Drawn0.step)⟩
       ·rw [if_neg c7] at H
        have c7b0 : ((rd l0 x5_1) == (rd l1 x5_1)) = false := beq_eq_false_iff_ne.mpr c7
        have c7b1 : ((rd l0 x5_1) != (rd l1 x5_1)) = true := bne_iff_ne.mpr c7
        obtain rfl := oj H
        have p101 : 0 ≤ (x5_1 : Int) := dt
        have q101 : x5_1 < (l0.length : Int) := dt
        obtain ⟨ad101, e101, hx101_0⟩ := Kd.at_int HR0.out x5_1 p101 q101
        cases e101
        replace p101 := eq_true p101
        replace q101 := eq_true q101
        have p102 : 0 ≤ (x5_1 : Int) := dt
        have q102 : x5_1 < (l1.length : Int) := dt
        obtain ⟨ad102, e102, hx102_0⟩ := Kd.at_int HR1.out x5_1 p102 q102
        cases e102
        replace p102 := eq_true p102
        replace q102 := eq_true q102
        go_wp2
        repeat (go_quiet (fail); try go_wp2)
        go_ret
        exact ⟨by first | rfl | (simp; done) | (simp [*]; done), by repeat (first | exact Drawn0.refl _ | apply Drawn0.step)⟩
      ·rw [if_neg c6] at H
       exact absurd H (by simp)
     ·rw [if_neg c5] at H
      exact absurd H (by simp)
    ·rw [if_neg c4] at H
     have c4b0 : decide (x5_1 < (l0.length : Int)) = false := decide_eq_false c4
     clear c4
     obtain rfl := oj H
     go_wp2
     repeat (go_quiet (fail); try go_wp2)
     go_ret
     exact ⟨by first | rfl | (simp; done) | (simp [*]; done), by repeat (first | exact Drawn0.refl _ | apply Drawn0.step)⟩
 ·rw [if_neg c3] at H
  have c3b0 : ((l0.length : Int) == (l1.length : Int)) = false := beq_eq_false_iff_ne.mpr c3
  have c3b1 : ((l0.length : Int) != (l1.length : Int)) = true := bne_iff_ne.mpr c3
  have c3b2 : (l0.length == l1.length) = false := by first | simpa using c3 | (simp at c3 ⊢; omega)
  obtain rfl := oj H
  go_enter Try.func26, Try.ntmps26
  go_wp2
  repeat (go_quiet (fail); try go_wp2)
  go_ret
  exact ⟨by first | rfl | (simp; done) | (simp [*]; done), by repeat (first | exact Drawn0.refl _ | apply Drawn0.step)⟩

/-- A state of type 107 at block g of W; what its slices lead to came in by w0. -/
def IsS107 (w0 W : World) (g : Nat) (f0 : List Int) (f1 : Int) (f2 : Int) : Prop := ∃ A0 c0, W.heap[g]? = some (.cells #[.slice A0 f0.length c0, .int .i64 f1, .int .i64 f2] 107 (0, 0)) ∧ w0.heap.size ≤ g ∧ Kd.C (Kd.int .u8) w0 A0 f0.length f0
theorem IsS107.grown {w0 W : World} {g : Nat} {f0 : List Int} {f1 : Int} {f2 : Int} {W1 : World} {row : Option Nat} (h : IsS107 w0 W g f0 f1 f2) (hw : W.grownBy W1 row) (hne : some g ≠ row) : IsS107 w0 W1 g f0 f1 f2 := by
 obtain ⟨A0, c0, hb, hg, hr0⟩ := h
 exact ⟨A0, c0, blk_grown hb hw hne, hg, hr0⟩
theorem IsS107.own_neN {w0 W : World} {g : Nat} {f0 : List Int} {f1 : Int} {f2 : Int} {α : Type} {d : Kd α} {e : Nat} {base : Nat} {ok : Nat → Prop} {v : Value} {xs : List α} (h : IsS107 w0 W g f0 f1 f2) (ho : Kd.N d e W base ok v xs) (ht : e ≠ 107) : some g ≠ v.ownBlock := by
 obtain ⟨A0, c0, hb, hg, hr0⟩ := h
 exact Kd.N_ne ho hb ht
theorem IsS107.fresh {w0 W : World} {g : Nat} {f0 : List Int} {f1 : Int} {f2 : Int} (h : IsS107 w0 W g f0 f1 f2) : ∀ k, W.heap.size ≤ k → k ≠ g := by
 obtain ⟨A0, c0, hb, hg, hr0⟩ := h
 exact Kd.freshB hb
theorem IsS107.kept {w0 W : World} {g : Nat} {f0 : List Int} {f1 : Int} {f2 : Int} {W1 : World} {S : Nat → Prop} (h : IsS107 w0 W g f0 f1 f2) (hk : Kept W W1 S) (hne : ¬ S g) : IsS107 w0 W1 g f0 f1 f2 := by
 obtain ⟨A0, c0, hb, hg, hr0⟩ := h
 exact ⟨A0, c0, blk_kept hb hk hne, hg, hr0⟩
theorem IsS107.below {w0 W : World} {g : Nat} {f0 : List Int} {f1 : Int} {f2 : Int} {W1 : World} (h : IsS107 w0 W g f0 f1 f2) (hw : Below W.heap.size W W1) : IsS107 w0 W1 g f0 f1 f2 := h.grown (grown_of_below hw none) (by simp)
theorem IsS107.alloc {w0 W : World} {g : Nat} {f0 : List Int} {f1 : Int} {f2 : Int} (h : IsS107 w0 W g f0 f1 f2) (o : Obj) : IsS107 w0 (W.alloc o) g f0 f1 f2 := h.below (below_alloc (Below.refl _ _) o)
theorem IsS107.drewN {w0 W : World} {g : Nat} {f0 : List Int} {f1 : Int} {f2 : Int} (h : IsS107 w0 W g f0 f1 f2) (m : Nat) : IsS107 w0 (W.drewN m) g f0 f1 f2 := h
theorem IsS107.drew {w0 W : World} {g : Nat} {f0 : List Int} {f1 : Int} {f2 : Int} (h : IsS107 w0 W g f0 f1 f2) : IsS107 w0 W.drew g f0 f1 f2 := h
theorem IsS107.at_ {w0 W : World} {g : Nat} {f0 : List Int} {f1 : Int} {f2 : Int} {w' : World} {m : Nat} (hq : W.drewN m = w') (h : IsS107 w0 W g f0 f1 f2) : IsS107 w0 w' g f0 f1 f2 := by subst hq; exact IsS107.drewN h m
theorem IsS107.apart {w0 W : World} {g : Nat} {f0 : List Int} {f1 : Int} {f2 : Int} {α : Type} {d : Kd α} {e : Nat} {base : Nat} {ok : Nat → Prop} {v : Value} {xs : List α} (h : IsS107 w0 W g f0 f1 f2) (ho : d.R e W base ok v xs) (ht : ∀ q, q ∈ e :: d.E → q ≠ 107) : d.R e W base (fun k => ok k ∧ k ≠ g) v xs := by
 obtain ⟨A0, c0, hb, hg, hr0⟩ := h
 exact Kd.R_types ho hb ht
theorem IsS107.own_ne {w0 W : World} {g : Nat} {f0 : List Int} {f1 : Int} {f2 : Int} {α : Type} {d : Kd α} {e : Nat} {base : Nat} {ok : Nat → Prop} {v : Value} {xs : List α} (h : IsS107 w0 W g f0 f1 f2) (ho : d.R e W base ok v xs) (ht : e ≠ 107) : some g ≠ v.ownBlock := by
 obtain ⟨A0, c0, hb, hg, hr0⟩ := h
 exact Kd.R_ne ho hb ht
theorem IsS107.apartQ {w0 W : World} {g : Nat} {f0 : List Int} {f1 : Int} {f2 : Int} {α : Type} {d : Kd α} {e : Nat} {base : Nat} {ok : Nat → Prop} {v : Value} {xs : List α} (h : IsS107 w0 W g f0 f1 f2) (ho : d.Q e W base ok v xs) (ht : ∀ q, q ∈ e :: d.E → q ≠ 107) : d.Q e W base (fun k => ok k ∧ k ≠ g) v xs := by
 obtain ⟨A0, c0, hb, hg, hr0⟩ := h
 exact Kd.Q_types ho hb ht
theorem IsS107.own_neQ {w0 W : World} {g : Nat} {f0 : List Int} {f1 : Int} {f2 : Int} {α : Type} {d : Kd α} {e : Nat} {base : Nat} {ok : Nat → Prop} {v : Value} {xs : List α} (h : IsS107 w0 W g f0 f1 f2) (ho : d.Q e W base ok v xs) (ht : e ≠ 107) : some g ≠ v.ownBlock := by
 obtain ⟨A0, c0, hb, hg, hr0⟩ := h
 exact Kd.Q_ne ho hb ht
theorem IsS107.apartS {w0 W : World} {g : Nat} {f0 : List Int} {f1 : Int} {f2 : Int} {α : Type} {d : Kd α} {e : Nat} {base : Nat} {ok : Nat → Prop} {v : Value} {xs : List α} (h : IsS107 w0 W g f0 f1 f2) (ho : d.S e W base ok v xs) (ht : ∀ q, q ∈ e :: d.E → q ≠ 107) : d.S e W base (fun k => ok k ∧ k ≠ g) v xs := by
 obtain ⟨A0, c0, hb, hg, hr0⟩ := h
 exact Kd.S_types ho hb ht
theorem IsS107.own_neS {w0 W : World} {g : Nat} {f0 : List Int} {f1 : Int} {f2 : Int} {α : Type} {d : Kd α} {e : Nat} {base : Nat} {ok : Nat → Prop} {v : Value} {xs : List α} (h : IsS107 w0 W g f0 f1 f2) (ho : d.S e W base ok v xs) (ht : e ≠ 107) : some g ≠ v.ownBlock := by
 obtain ⟨A0, c0, hb, hg, hr0⟩ := h
 exact Kd.S_ne ho hb ht
theorem IsS107.lt {w0 W : World} {g : Nat} {f0 : List Int} {f1 : Int} {f2 : Int} (h : IsS107 w0 W g f0 f1 f2) : g < W.heap.size := by
 obtain ⟨A0, c0, hb, hg, hr0⟩ := h
 exact blk_lt hb
theorem IsS107.ge {w0 W : World} {g : Nat} {f0 : List Int} {f1 : Int} {f2 : Int} (h : IsS107 w0 W g f0 f1 f2) : w0.heap.size ≤ g := by
 obtain ⟨A0, c0, hb, hg, hr0⟩ := h
 exact hg
theorem IsS107.ne_blk {w0 W : World} {g : Nat} {f0 : List Int} {f1 : Int} {f2 : Int} {a : Nat} {cs : Array Value} {t : TypeId} {fr : Nat × Nat} (h : IsS107 w0 W g f0 f1 f2) (hb2 : W.heap[a]? = some (.cells cs t fr)) (ht : t ≠ 107) : g ≠ a := by
 obtain ⟨A0, c0, hb, hg, hr0⟩ := h
 rintro rfl
 rw [hb] at hb2
 injection hb2 with hb2
 injection hb2 with _ ht2
 exact ht ht2.symm
theorem IsS107.far {w0 W : World} {g : Nat} {f0 : List Int} {f1 : Int} {f2 : Int} {p : Addr} (h : IsS107 w0 W g f0 f1 f2) (hne : g ≠ p.block) (u : Value) : IsS107 w0 (W.setCell p u) g f0 f1 f2 := by
 obtain ⟨A0, c0, hb, hg, hr0⟩ := h
 exact ⟨A0, c0, blk_far hb hne u, hg, hr0⟩
theorem cellS107_0 {W : World} {g : Nat} {A0 : Option Addr} {c0 : Nat} {f0 : List Int} {f1 : Int} {f2 : Int} (h : W.heap[g]? = some (.cells #[.slice A0 f0.length c0, .int .i64 f1, .int .i64 f2] 107 (0, 0))) : W.cell? ⟨g, 0, none⟩ = some (.slice A0 f0.length c0) := (blk_cell h 0).trans rfl
theorem cellS107_1 {W : World} {g : Nat} {A0 : Option Addr} {c0 : Nat} {f0 : List Int} {f1 : Int} {f2 : Int} (h : W.heap[g]? = some (.cells #[.slice A0 f0.length c0, .int .i64 f1, .int .i64 f2] 107 (0, 0))) : W.cell? ⟨g, 1, none⟩ = some (.int .i64 f1) := (blk_cell h 1).trans rfl
theorem IsS107.set_1 {w0 W : World} {g : Nat} {f0 : List Int} {f1 : Int} {f2 : Int} (h : IsS107 w0 W g f0 f1 f2) (x : Int) : IsS107 w0 (W.setCell ⟨g, 1, none⟩ (.int .i64 x)) g f0 x f2 := by
 obtain ⟨A0, c0, hb, hg, hr0⟩ := h
 exact ⟨A0, c0, by simpa using blk_set hb 1 (.int .i64 x), hg, hr0⟩
theorem cellS107_2 {W : World} {g : Nat} {A0 : Option Addr} {c0 : Nat} {f0 : List Int} {f1 : Int} {f2 : Int} (h : W.heap[g]? = some (.cells #[.slice A0 f0.length c0, .int .i64 f1, .int .i64 f2] 107 (0, 0))) : W.cell? ⟨g, 2, none⟩ = some (.int .i64 f2) := (blk_cell h 2).trans rfl
theorem IsS107.set_2 {w0 W : World} {g : Nat} {f0 : List Int} {f1 : Int} {f2 : Int} (h : IsS107 w0 W g f0 f1 f2) (x : Int) : IsS107 w0 (W.setCell ⟨g, 2, none⟩ (.int .i64 x)) g f0 f1 x := by
 obtain ⟨A0, c0, hb, hg, hr0⟩ := h
 exact ⟨A0, c0, by simpa using blk_set hb 2 (.int .i64 x), hg, hr0⟩
theorem IsS107.new (w0 W : World) (A0 : Option Addr) (c0 : Nat) (f0 : List Int) (f1 : Int) (f2 : Int) (hB : Below w0.heap.size w0 W) (hr0 : Kd.C (Kd.int .u8) w0 A0 f0.length f0) : IsS107 w0 (W.alloc (.cells #[.slice A0 f0.length c0, .int .i64 f1, .int .i64 f2] 107)) W.heap.size f0 f1 f2 := ⟨A0, c0, by simpa using heap_alloc_new W _, hB.size, hr0⟩

/-! ### spec_l1New: function 57 -/
def spec_l1New.l0 : Nat → List Int → Int → Int → Option (List Int × Int × Int)
 | 0, _, _, _ => none
 | k + 1, x0, x3, x4 => if x4 < (x0.length : Int) then (if x4 < 4000 then (if 0 ≤ x4 then (spec_l1New.l0 k x0 (Go.bits .and .i64 (wrap64 ((wrap64 ((wrap64 (x3 * 131)) + (wrap64 (rd x0 x4)))) + 7)) 1073741823) (wrap64 (x4 + 1))) else (none)) else (some (x0, 0, x3))) else (some (x0, 0, x3))
def spec_l1New.f (k : Nat) (l0 : List Int) : Option (List Int × Int × Int) := spec_l1New.l0 k l0 (wrap64 (18554 + (l0.length : Int))) 0
theorem spec_l1New.calls (k : Nat) (A0 : Option Addr) (c0 : Nat) (l0 : List Int) (r1 : List Int) (r2 : Int) (r3 : Int) (w0 w : World) (hB : Below w0.heap.size w0 w) (hr0 : Kd.C (Kd.int .u8) w0 A0 l0.length l0) (hc0 : l0.length ≤ c0) (h : spec_l1New.f k l0 = some (r1, r2, r3)) :
  Calls Try.prog 57 #[.slice A0 l0.length c0] w fun e w' => ∃ g_ : Nat, e = .returned (.pointer (some ⟨g_, 0, none⟩)) ∧ IsS107 w0 w' g_ r1 r2 r3 ∧ Below w0.heap.size w0 w' ∧ Below w.heap.size w w' := by
 have hu107 := Try.underlying107
 have HR0 := am hr0
 have HC0 := am hc0
 clear hr0 hc0
 have HBW := am (Below.refl w.heap.size w)
 have HW0 := am hB.size
 have HB := am hB
 clear hB
 have H : (spec_l1New.l0 k l0 (wrap64 (18554 + (l0.length : Int))) 0) = some (r1, r2, r3) := h
 clear h
 have H' := am H
 clear H
 go_enter Try.func57, Try.ntmps57
 go_wp2
 go_loopg [3, 4] k (fun kq v3 v4 w' => ∃ (x3_1 : Int) (x4_1 : Int), v3 = .int .i64 x3_1 ∧ v4 = .int .i64 x4_1 ∧ Aside0 (spec_l1New.l0 kq l0 x3_1 x4_1 = some (r1, r2, r3)) ∧ Aside0 (kq ≤ k) ∧ Aside0 (Below w0.heap.size w0 w') ∧ Aside0 (Below w.heap.size w w'))
 case atStart => exact ⟨(wrap64 (18554 + (l0.length : Int))), (0), (by first | rfl | (simp; done) | (simp [*]; done)), (by first | rfl | (simp; done) | (simp [*]; done)), H', ⟨Nat.le_refl _⟩, ⟨bw HB.out⟩, ⟨bw HBW.out⟩⟩
 case round =>
  clear H'
  obtain ⟨x3_1, x4_1, rfl, rfl, HA, HK1, HB, HBW⟩ := hrel
  cases gk with
  | zero => exact absurd HA.out (by simp [spec_l1New.l0])
  | succ k1 =>
   have H := HA.out
   clear HA
   simp only [spec_l1New.l0] at H
   by_cases c2 : x4_1 < (l0.length : Int)
   ·rw [if_pos c2] at H
    have c2b0 : decide (x4_1 < (l0.length : Int)) = true := decide_eq_true c2
    clear c2
    by_cases c3 : x4_1 < 4000
    ·rw [if_pos c3] at H
     have c3b0 : decide (x4_1 < 4000) = true := decide_eq_true c3
     clear c3
     by_cases c4 : 0 ≤ x4_1
     ·rw [if_pos c4] at H
      have c4b0 : decide (0 ≤ x4_1) = true := decide_eq_true c4
      clear c4
      have H' := am H
      clear H
      have p103 : 0 ≤ (x4_1 : Int) := dt
      have q103 : x4_1 < (l0.length : Int) := dt
      obtain ⟨ad103, e103, hx103_0⟩ := Kd.at_int HR0.out x4_1 p103 q103
      cases e103
      replace hx103_0 := pw_cell_below HB.out hx103_0
      replace p103 := eq_true p103
      replace q103 := eq_true q103
      go_wp2
      go_roundg k1
      case measure => have := HK1.out; omega
      case rel => exact ⟨(Go.bits .and .i64 (wrap64 ((wrap64 ((wrap64 (x3_1 * 131)) + (wrap64 (rd l0 x4_1)))) + 7)) 1073741823), (wrap64 (x4_1 + 1)), (by first | rfl | (simp; done) | (simp [*]; done)), (by first | rfl | (simp; done) | (simp [*]; done)), H', ⟨by have := HK1.out; omega⟩, ⟨bw HB.out⟩, ⟨bw HBW.out⟩⟩
     ·rw [if_neg c4] at H
      exact absurd H (by simp)
    ·rw [if_neg c3] at H
     have c3b0 : decide (x4_1 < 4000) = false := decide_eq_false c3
     clear c3
     simp only [Option.some.injEq, Prod.mk.injEq] at H
     obtain ⟨rfl, rfl, rfl⟩ := H
     go_wp2_with (first | ((with_reducible refine gd 31 ?_); refine bx (N := 31) (cs := #[.slice A0 l0.length c0, .int .i64 0, .int .i64 x3_1]) (t := 107) ?_; intro gb104 hg w5 hbox hb; replace HB := am (below_step (bw HB.out) hb); have BK104 := am (hbox); have GW104 := am ((gs hg (bw HBW.out))); have GE104 := am ((Nat.le_trans HW0.out (gs hg (bw HBW.out)) : w0.heap.size ≤ gb104)); replace HBW := am (below_step HBW.out hb); clear hb hbox hg))
     go_ret
     exact ⟨_, rfl, (show IsS107 w0 _ gb104 l0 0 x3_1 from ⟨_, _, kb BK104.out, GE104.out, HR0.out⟩), bw HB.out, by repeat (first | (with_reducible first | exact HBW.out | apply below_alloc | apply pw_below_drewN | apply below_drew1 | refine below_set ?_ GW104.out) | exact HBW.out)⟩
   ·rw [if_neg c2] at H
    have c2b0 : decide (x4_1 < (l0.length : Int)) = false := decide_eq_false c2
    clear c2
    simp only [Option.some.injEq, Prod.mk.injEq] at H
    obtain ⟨rfl, rfl, rfl⟩ := H
    go_wp2_with (first | ((with_reducible refine gd 31 ?_); refine bx (N := 31) (cs := #[.slice A0 l0.length c0, .int .i64 0, .int .i64 x3_1]) (t := 107) ?_; intro gb105 hg w6 hbox hb; replace HB := am (below_step (bw HB.out) hb); have BK105 := am (hbox); have GW105 := am ((gs hg (bw HBW.out))); have GE105 := am ((Nat.le_trans HW0.out (gs hg (bw HBW.out)) : w0.heap.size ≤ gb105)); replace HBW := am (below_step HBW.out hb); clear hb hbox hg))
    go_ret
    exact ⟨_, rfl, (show IsS107 w0 _ gb105 l0 0 x3_1 from ⟨_, _, kb BK105.out, GE105.out, HR0.out⟩), bw HB.out, by repeat (first | (with_reducible first | exact HBW.out | apply below_alloc | apply pw_below_drewN | apply below_drew1 | refine below_set ?_ GW105.out) | exact HBW.out)⟩

/-! ### short_cur (mine) -/
theorem si {w0 W W' : World} {g : Nat} {f0 : List Int} {f1 f2 p1 p2 : Int} (h : IsS107 w0 W g f0 f1 f2) (f : IsS107 w0 W g f0 f1 f2 → IsS107 w0 W' g f0 p1 p2 := by intro h_; repeat (first | (with_reducible first | exact h_ | apply IsS107.alloc | apply IsS107.drewN | apply IsS107.drew | apply IsS107.set_1 | apply IsS107.set_2 | refine IsS107.far ?_ (Aside0.out (by assumption)) _) | exact h_)) : IsS107 w0 W' g f0 p1 p2 := f h
theorem bi {w W W' : World} (h : Below w.heap.size w W) (f : Below w.heap.size w W → Below w.heap.size w W' := by intro h_; repeat (first | (with_reducible first | exact h_ | apply below_alloc | apply pw_below_drewN | apply below_drew1 | refine below_set ?_ (IsS107.ge (Aside0.out (by assumption))) | refine below_set ?_ (Aside0.out (by assumption))) | exact h_)) : Below w.heap.size w W' := f h

/-! ### spec_l1Byte: function 102 -/
def spec_l1Byte.f (s0_0 : List Int) (s0_1 : Int) (s0_2 : Int) : Option (Int × Int × Int) := if s0_1 < (s0_0.length : Int) then (if 0 ≤ s0_1 then (some (Go.bits .and .i64 (wrap64 ((Go.bits .and .i64 (Go.bits .xor .i64 ((wrap64 ((wrap64 (s0_2 * 6364136223846793005)) + 1442695040888963407)) / 8589934592) ((wrap64 ((wrap64 (s0_2 * 6364136223846793005)) + 1442695040888963407)) / 35184372088832)) 255) + (wrap64 (rd s0_0 s0_1)))) 255, wrap64 (s0_1 + 1), wrap64 ((wrap64 (s0_2 * 6364136223846793005)) + 1442695040888963407))) else (none)) else (some (Go.bits .and .i64 (Go.bits .xor .i64 ((wrap64 ((wrap64 (s0_2 * 6364136223846793005)) + 1442695040888963407)) / 8589934592) ((wrap64 ((wrap64 (s0_2 * 6364136223846793005)) + 1442695040888963407)) / 35184372088832)) 255, s0_1, wrap64 ((wrap64 (s0_2 * 6364136223846793005)) + 1442695040888963407)))
theorem spec_l1Byte.calls (g : Nat) (s0_0 : List Int) (s0_1 : Int) (s0_2 : Int) (r1 : Int) (r2 : Int) (r3 : Int) (w0 w : World) (hI : IsS107 w0 w g s0_0 s0_1 s0_2) (hB : Below w0.heap.size w0 w) (h : spec_l1Byte.f s0_0 s0_1 s0_2 = some (r1, r2, r3)) :
  Calls Try.prog 102 #[.pointer (some ⟨g, 0, none⟩)] w fun e w' => e = .returned (.int .i64 r1) ∧ IsS107 w0 w' g s0_0 r2 r3 ∧ Below w0.heap.size w0 w' ∧ KeepBut w w' g none := by
 have HI0 := am hI
 have HK := am (KeepBut.refl w g none)
 have HL := am hB.size
 clear hI
 have HW0 := am hB.size
 have HB := am hB
 clear hB
 have H : (if s0_1 < (s0_0.length : Int) then (if 0 ≤ s0_1 then (some (Go.bits .and .i64 (wrap64 ((Go.bits .and .i64 (Go.bits .xor .i64 ((wrap64 ((wrap64 (s0_2 * 6364136223846793005)) + 1442695040888963407)) / 8589934592) ((wrap64 ((wrap64 (s0_2 * 6364136223846793005)) + 1442695040888963407)) / 35184372088832)) 255) + (wrap64 (rd s0_0 s0_1)))) 255, wrap64 (s0_1 + 1), wrap64 ((wrap64 (s0_2 * 6364136223846793005)) + 1442695040888963407))) else (none)) else (some (Go.bits .and .i64 (Go.bits .xor .i64 ((wrap64 ((wrap64 (s0_2 * 6364136223846793005)) + 1442695040888963407)) / 8589934592) ((wrap64 ((wrap64 (s0_2 * 6364136223846793005)) + 1442695040888963407)) / 35184372088832)) 255, s0_1, wrap64 ((wrap64 (s0_2 * 6364136223846793005)) + 1442695040888963407)))) = some (r1, r2, r3) := h
 clear h
 by_cases c2 : s0_1 < (s0_0.length : Int)
 ·rw [if_pos c2] at H
  have c2b0 : decide (s0_1 < (s0_0.length : Int)) = true := decide_eq_true c2
  clear c2
  by_cases c3 : 0 ≤ s0_1
  ·rw [if_pos c3] at H
   have c3b0 : decide (0 ≤ s0_1) = true := decide_eq_true c3
   clear c3
   simp only [Option.some.injEq, Prod.mk.injEq] at H
   obtain ⟨rfl, rfl, rfl⟩ := H
   obtain ⟨ASz4_0, cSz4_0, HGz4, hgz4, HSz4_0⟩ := HI0.out
   have hcz4_0 := cellS107_0 HGz4
   have hcz4_1 := cellS107_1 HGz4
   have hcz4_2 := cellS107_2 HGz4
   have hfz4_1 := blk_frozen HGz4 1
   have hfz4_2 := blk_frozen HGz4 2
   clear HGz4 hgz4
   have p106 : 0 ≤ (s0_1 : Int) := dt
   have q106 : s0_1 < (s0_0.length : Int) := dt
   obtain ⟨ad106, e106, hx106_0⟩ := Kd.at_int HSz4_0 s0_1 p106 q106
   cases e106
   have hn106_0 : ad106.block ≠ g := Nat.ne_of_lt (Nat.lt_of_lt_of_le (by have := World.block_lt_of_cell? _ _ hx106_0; first | rwa [add_block] at this | exact this) (IsS107.ge HI0.out))
   replace hx106_0 := pw_cell_below HB.out hx106_0
   replace hx106_0 := (cell_far (p := ⟨g, 2, none⟩) (by first | (rw [add_block]; exact hn106_0) | (show (Addr.add _ _).block ≠ _; rw [add_block]; exact hn106_0) | exact hn106_0) (.int .i64 (wrap64 ((wrap64 (s0_2 * 6364136223846793005)) + 1442695040888963407)))).trans hx106_0
   (try have hy106_0 := fun (n_ : Nat) => (show (((w.drewN n_).setCell ⟨g, 2, none⟩ (.int .i64 (wrap64 ((wrap64 (s0_2 * 6364136223846793005)) + 1442695040888963407))))).cell? _ = some _ from hx106_0))
   clear hn106_0
   replace p106 := eq_true p106
   replace q106 := eq_true q106
   go_enter Try.func102, Try.ntmps102
   go_wp2
   repeat (go_quiet (fail); try go_wp2)
   go_ret
   exact ⟨rt, si HI0.out, bi HB.out, kp HK.out⟩
  ·rw [if_neg c3] at H
   exact absurd H (by simp)
 ·rw [if_neg c2] at H
  have c2b0 : decide (s0_1 < (s0_0.length : Int)) = false := decide_eq_false c2
  clear c2
  simp only [Option.some.injEq, Prod.mk.injEq] at H
  obtain ⟨rfl, rfl, rfl⟩ := H
  obtain ⟨ASz5_0, cSz5_0, HGz5, hgz5, HSz5_0⟩ := HI0.out
  have hcz5_0 := cellS107_0 HGz5
  have hcz5_1 := cellS107_1 HGz5
  have hcz5_2 := cellS107_2 HGz5
  have hfz5_1 := blk_frozen HGz5 1
  have hfz5_2 := blk_frozen HGz5 2
  clear HGz5 hgz5
  go_enter Try.func102, Try.ntmps102
  go_wp2
  repeat (go_quiet (fail); try go_wp2)
  go_ret
  exact ⟨rt, si HI0.out, bi HB.out, kp HK.out⟩

/-! ### spec_l1Below: function 60 -/
def spec_l1Below.f (s0_0 : List Int) (s0_1 : Int) (s0_2 : Int) (a1 : Int) : Option (Int × Int × Int) := if a1 ≤ 0 then (some (0, s0_1, s0_2)) else (if a1 ≤ 256 then ((spec_l1Byte.f s0_0 s0_1 s0_2).bind fun bt107 => (if a1 = 0 then (none) else (some (Int.tmod bt107.1 a1, bt107.2.1, bt107.2.2)))) else ((spec_l1Byte.f s0_0 s0_1 s0_2).bind fun bt110 => ((spec_l1Byte.f s0_0 bt110.2.1 bt110.2.2).bind fun bt113 => ((spec_l1Byte.f s0_0 bt113.2.1 bt113.2.2).bind fun bt116 => ((spec_l1Byte.f s0_0 bt116.2.1 bt116.2.2).bind fun bt119 => (if a1 = 0 then (none) else (some (Int.tmod (wrap64 ((wrap64 ((wrap64 ((wrap64 (bt110.1 * 16777216)) + (wrap64 (bt113.1 * 65536)))) + (wrap64 (bt116.1 * 256)))) + bt119.1)) a1, bt119.2.1, bt119.2.2))))))))
theorem spec_l1Below.calls (g : Nat) (s0_0 : List Int) (s0_1 : Int) (s0_2 : Int) (a1 : Int) (r1 : Int) (r2 : Int) (r3 : Int) (w0 w : World) (hI : IsS107 w0 w g s0_0 s0_1 s0_2) (hB : Below w0.heap.size w0 w) (h : spec_l1Below.f s0_0 s0_1 s0_2 a1 = some (r1, r2, r3)) :
  Calls Try.prog 60 #[.pointer (some ⟨g, 0, none⟩), .int .i64 a1] w fun e w' => e = .returned (.int .i64 r1) ∧ IsS107 w0 w' g s0_0 r2 r3 ∧ Below w0.heap.size w0 w' ∧ KeepBut w w' g none := by
 have HI0 := am hI
 have HK := am (KeepBut.refl w g none)
 have HL := am hB.size
 clear hI
 have HW0 := am hB.size
 have HB := am hB
 clear hB
 have H : (if a1 ≤ 0 then (some (0, s0_1, s0_2)) else (if a1 ≤ 256 then ((spec_l1Byte.f s0_0 s0_1 s0_2).bind fun bt107 => (if a1 = 0 then (none) else (some (Int.tmod bt107.1 a1, bt107.2.1, bt107.2.2)))) else ((spec_l1Byte.f s0_0 s0_1 s0_2).bind fun bt110 => ((spec_l1Byte.f s0_0 bt110.2.1 bt110.2.2).bind fun bt113 => ((spec_l1Byte.f s0_0 bt113.2.1 bt113.2.2).bind fun bt116 => ((spec_l1Byte.f s0_0 bt116.2.1 bt116.2.2).bind fun bt119 => (if a1 = 0 then (none) else (some (Int.tmod (wrap64 ((wrap64 ((wrap64 ((wrap64 (bt110.1 * 16777216)) + (wrap64 (bt113.1 * 65536)))) + (wrap64 (bt116.1 * 256)))) + bt119.1)) a1, bt119.2.1, bt119.2.2))))))))) = some (r1, r2, r3) := h
 clear h
 by_cases c3 : a1 ≤ 0
 ·rw [if_pos c3] at H
  have c3b0 : decide (a1 ≤ 0) = true := decide_eq_true c3
  clear c3
  simp only [Option.some.injEq, Prod.mk.injEq] at H
  obtain ⟨rfl, rfl, rfl⟩ := H
  go_enter Try.func60, Try.ntmps60
  go_wp2
  go_ret
  exact ⟨rt, si HI0.out, bi HB.out, kp HK.out⟩
 ·rw [if_neg c3] at H
  have c3b0 : decide (a1 ≤ 0) = false := decide_eq_false c3
  clear c3
  by_cases c4 : a1 ≤ 256
  ·rw [if_pos c4] at H
   have c4b0 : decide (a1 ≤ 256) = true := decide_eq_true c4
   clear c4
   replace H := bs H
   obtain ⟨⟨t107, t108, t109⟩, A50, H⟩ := H
   replace H : (if a1 = 0 then (none) else (some (Int.tmod t107 a1, t108, t109))) = some (r1, r2, r3) := H
   have A5 := am A50
   clear A50
   by_cases c6 : a1 = 0
   ·rw [if_pos c6] at H
    exact absurd H (by simp)
   ·rw [if_neg c6] at H
    have c6b0 : (a1 == 0) = false := beq_eq_false_iff_ne.mpr c6
    have c6b1 : (a1 != 0) = true := bne_iff_ne.mpr c6
    simp only [Option.some.injEq, Prod.mk.injEq] at H
    obtain ⟨rfl, rfl, rfl⟩ := H
    go_enter Try.func60, Try.ntmps60
    go_wp2_with (first | ((with_reducible refine gate_callee (f := 102) rfl ?_); refine goesM_ (some 14) rfl rfl Try.func102 #[.pointer (some ⟨g, 0, none⟩)] ?_; (with_reducible refine (spec_l1Byte.calls g s0_0 s0_1 s0_2 t107 t108 t109 w0 _ ?side1 ?side2 A5.out).mono ?_); (case side1 => exact si HI0.out); (case side2 => exact bi HB.out); rintro e w7 ⟨rfl, hi, hb, hk⟩; refine ⟨_, rfl, ?_⟩; replace HK := am (KeepBut.trans (kp HK.out) hk (.inl rfl)); replace HB := am (hb); replace HI0 := am (hi); (try clear hb); (try clear hk); (try clear hi)))
    go_ret
    exact ⟨rt, si HI0.out, bi HB.out, kp HK.out⟩
  ·rw [if_neg c4] at H
   have c4b0 : decide (a1 ≤ 256) = false := decide_eq_false c4
   clear c4
   replace H := bs H
   obtain ⟨⟨t110, t111, t112⟩, A80, H⟩ := H
   replace H : ((spec_l1Byte.f s0_0 t111 t112).bind fun bt113 => ((spec_l1Byte.f s0_0 bt113.2.1 bt113.2.2).bind fun bt116 => ((spec_l1Byte.f s0_0 bt116.2.1 bt116.2.2).bind fun bt119 => (if a1 = 0 then (none) else (some (Int.tmod (wrap64 ((wrap64 ((wrap64 ((wrap64 (t110 * 16777216)) + (wrap64 (bt113.1 * 65536)))) + (wrap64 (bt116.1 * 256)))) + bt119.1)) a1, bt119.2.1, bt119.2.2)))))) = some (r1, r2, r3) := H
   have A8 := am A80
   clear A80
   replace H := bs H
   obtain ⟨⟨t113, t114, t115⟩, A90, H⟩ := H
   replace H : ((spec_l1Byte.f s0_0 t114 t115).bind fun bt116 => ((spec_l1Byte.f s0_0 bt116.2.1 bt116.2.2).bind fun bt119 => (if a1 = 0 then (none) else (some (Int.tmod (wrap64 ((wrap64 ((wrap64 ((wrap64 (t110 * 16777216)) + (wrap64 (t113 * 65536)))) + (wrap64 (bt116.1 * 256)))) + bt119.1)) a1, bt119.2.1, bt119.2.2))))) = some (r1, r2, r3) := H
   have A9 := am A90
   clear A90
   replace H := bs H
   obtain ⟨⟨t116, t117, t118⟩, A100, H⟩ := H
   replace H : ((spec_l1Byte.f s0_0 t117 t118).bind fun bt119 => (if a1 = 0 then (none) else (some (Int.tmod (wrap64 ((wrap64 ((wrap64 ((wrap64 (t110 * 16777216)) + (wrap64 (t113 * 65536)))) + (wrap64 (t116 * 256)))) + bt119.1)) a1, bt119.2.1, bt119.2.2)))) = some (r1, r2, r3) := H
   have A10 := am A100
   clear A100
   replace H := bs H
   obtain ⟨⟨t119, t120, t121⟩, A110, H⟩ := H
   replace H : (if a1 = 0 then (none) else (some (Int.tmod (wrap64 ((wrap64 ((wrap64 ((wrap64 (t110 * 16777216)) + (wrap64 (t113 * 65536)))) + (wrap64 (t116 * 256)))) + t119)) a1, t120, t121))) = some (r1, r2, r3) := H
   have A11 := am A110
   clear A110
   by_cases c12 : a1 = 0
   ·rw [if_pos c12] at H
    exact absurd H (by simp)
   ·rw [if_neg c12] at H
    have c12b0 : (a1 == 0) = false := beq_eq_false_iff_ne.mpr c12
    have c12b1 : (a1 != 0) = true := bne_iff_ne.mpr c12
    simp only [Option.some.injEq, Prod.mk.injEq] at H
    obtain ⟨rfl, rfl, rfl⟩ := H
    go_enter Try.func60, Try.ntmps60
    go_wp2_with (first | ((with_reducible refine gate_callee (f := 102) rfl ?_); refine goesM_ (some 18) rfl rfl Try.func102 #[.pointer (some ⟨g, 0, none⟩)] ?_; (with_reducible refine (spec_l1Byte.calls g s0_0 s0_1 s0_2 t110 t111 t112 w0 _ ?side1 ?side2 A8.out).mono ?_); (case side1 => exact si HI0.out); (case side2 => exact bi HB.out); rintro e w13 ⟨rfl, hi, hb, hk⟩; refine ⟨_, rfl, ?_⟩; replace HK := am (KeepBut.trans (kp HK.out) hk (.inl rfl)); replace HB := am (hb); replace HI0 := am (hi); (try clear hb); (try clear hk); (try clear hi)) | ((with_reducible refine gate_callee (f := 102) rfl ?_); refine goesM_ (some 20) rfl rfl Try.func102 #[.pointer (some ⟨g, 0, none⟩)] ?_; (with_reducible refine (spec_l1Byte.calls g s0_0 t111 t112 t113 t114 t115 w0 _ ?side1 ?side2 A9.out).mono ?_); (case side1 => exact si HI0.out); (case side2 => exact bi HB.out); rintro e w14 ⟨rfl, hi, hb, hk⟩; refine ⟨_, rfl, ?_⟩; replace HK := am (KeepBut.trans (kp HK.out) hk (.inl rfl)); replace HB := am (hb); replace HI0 := am (hi); (try clear hb); (try clear hk); (try clear hi)) | ((with_reducible refine gate_callee (f := 102) rfl ?_); refine goesM_ (some 22) rfl rfl Try.func102 #[.pointer (some ⟨g, 0, none⟩)] ?_; (with_reducible refine (spec_l1Byte.calls g s0_0 t114 t115 t116 t117 t118 w0 _ ?side1 ?side2 A10.out).mono ?_); (case side1 => exact si HI0.out); (case side2 => exact bi HB.out); rintro e w15 ⟨rfl, hi, hb, hk⟩; refine ⟨_, rfl, ?_⟩; replace HK := am (KeepBut.trans (kp HK.out) hk (.inl rfl)); replace HB := am (hb); replace HI0 := am (hi); (try clear hb); (try clear hk); (try clear hi)) | ((with_reducible refine gate_callee (f := 102) rfl ?_); refine goesM_ (some 24) rfl rfl Try.func102 #[.pointer (some ⟨g, 0, none⟩)] ?_; (with_reducible refine (spec_l1Byte.calls g s0_0 t117 t118 t119 t120 t121 w0 _ ?side1 ?side2 A11.out).mono ?_); (case side1 => exact si HI0.out); (case side2 => exact bi HB.out); rintro e w16 ⟨rfl, hi, hb, hk⟩; refine ⟨_, rfl, ?_⟩; replace HK := am (KeepBut.trans (kp HK.out) hk (.inl rfl)); replace HB := am (hb); replace HI0 := am (hi); (try clear hb); (try clear hk); (try clear hi)))
    go_ret
    exact ⟨rt, si HI0.out, bi HB.out, kp HK.out⟩

/-! ### spec_l1Once: function 58 -/
def spec_l1Once.f (s0_0 : List Int) (s0_1 : Int) (s0_2 : Int) (a1 : Int) : Option (Bool × Int × Int) := (spec_l1Below.f s0_0 s0_1 s0_2 a1).bind fun bt122 => (some ((bt122.1 == 0), bt122.2.1, bt122.2.2))
theorem spec_l1Once.calls (g : Nat) (s0_0 : List Int) (s0_1 : Int) (s0_2 : Int) (a1 : Int) (r1 : Bool) (r2 : Int) (r3 : Int) (w0 w : World) (hI : IsS107 w0 w g s0_0 s0_1 s0_2) (hB : Below w0.heap.size w0 w) (h : spec_l1Once.f s0_0 s0_1 s0_2 a1 = some (r1, r2, r3)) :
  Calls Try.prog 58 #[.pointer (some ⟨g, 0, none⟩), .int .i64 a1] w fun e w' => e = .returned (.bool r1) ∧ IsS107 w0 w' g s0_0 r2 r3 ∧ Below w0.heap.size w0 w' ∧ KeepBut w w' g none := by
 have HI0 := am hI
 have HK := am (KeepBut.refl w g none)
 have HL := am hB.size
 clear hI
 have HW0 := am hB.size
 have HB := am hB
 clear hB
 have H : ((spec_l1Below.f s0_0 s0_1 s0_2 a1).bind fun bt122 => (some ((bt122.1 == 0), bt122.2.1, bt122.2.2))) = some (r1, r2, r3) := h
 clear h
 replace H := bs H
 obtain ⟨⟨t122, t123, t124⟩, A30, H⟩ := H
 replace H : (some ((t122 == 0), t123, t124)) = some (r1, r2, r3) := H
 have A3 := am A30
 clear A30
 simp only [Option.some.injEq, Prod.mk.injEq] at H
 obtain ⟨rfl, rfl, rfl⟩ := H
 go_enter Try.func58, Try.ntmps58
 go_wp2_with (first | ((with_reducible refine gate_callee (f := 60) rfl ?_); refine goesM_ (some 7) rfl rfl Try.func60 #[.pointer (some ⟨g, 0, none⟩), .int .i64 a1] ?_; (with_reducible refine (spec_l1Below.calls g s0_0 s0_1 s0_2 a1 t122 t123 t124 w0 _ ?side1 ?side2 A3.out).mono ?_); (case side1 => exact si HI0.out); (case side2 => exact bi HB.out); rintro e w4 ⟨rfl, hi, hb, hk⟩; refine ⟨_, rfl, ?_⟩; replace HK := am (KeepBut.trans (kp HK.out) hk (.inl rfl)); replace HB := am (hb); replace HI0 := am (hi); (try clear hb); (try clear hk); (try clear hi)))
 go_ret
 exact ⟨rt, si HI0.out, bi HB.out, kp HK.out⟩

/-! ### spec_l1PickInt: function 70 -/
def spec_l1PickInt.f (s0_0 : List Int) (s0_1 : Int) (s0_2 : Int) (l1 : List Int) : Option (Int × Int × Int) := (spec_l1Below.f s0_0 s0_1 s0_2 (l1.length : Int)).bind fun bt125 => (if 0 ≤ bt125.1 then (if bt125.1 < (l1.length : Int) then (some (rd l1 bt125.1, bt125.2.1, bt125.2.2)) else (none)) else (none))
theorem spec_l1PickInt.calls (g : Nat) (s0_0 : List Int) (s0_1 : Int) (s0_2 : Int) (A1 : Option Addr) (c1 : Nat) (l1 : List Int) (r1 : Int) (r2 : Int) (r3 : Int) (w0 w : World) (hI : IsS107 w0 w g s0_0 s0_1 s0_2) (hB : Below w0.heap.size w0 w) (hr1 : Kd.C (Kd.int .i64) w A1 l1.length l1) (hc1 : l1.length ≤ c1) (hf1 : ∀ ad, A1 = some ad → 0 < l1.length → ad.block ≠ g) (h : spec_l1PickInt.f s0_0 s0_1 s0_2 l1 = some (r1, r2, r3)) :
  Calls Try.prog 70 #[.pointer (some ⟨g, 0, none⟩), .slice A1 l1.length c1] w fun e w' => e = .returned (.int .i64 r1) ∧ IsS107 w0 w' g s0_0 r2 r3 ∧ Below w0.heap.size w0 w' ∧ KeepBut w w' g none := by
 have HR1 := am hr1
 have HC1 := am hc1
 clear hr1 hc1
 have HI0 := am hI
 have HK := am (KeepBut.refl w g none)
 have HL := am hB.size
 clear hI
 have HW0 := am hB.size
 have HB := am hB
 clear hB
 have H : ((spec_l1Below.f s0_0 s0_1 s0_2 (l1.length : Int)).bind fun bt125 => (if 0 ≤ bt125.1 then (if bt125.1 < (l1.length : Int) then (some (rd l1 bt125.1, bt125.2.1, bt125.2.2)) else (none)) else (none))) = some (r1, r2, r3) := h
 clear h
 replace H := bs H
 obtain ⟨⟨t125, t126, t127⟩, A30, H⟩ := H
 replace H : (if 0 ≤ t125 then (if t125 < (l1.length : Int) then (some (rd l1 t125, t126, t127)) else (none)) else (none)) = some (r1, r2, r3) := H
 have A3 := am A30
 clear A30
 by_cases c4 : 0 ≤ t125
 ·rw [if_pos c4] at H
  have c4b0 : decide (0 ≤ t125) = true := decide_eq_true c4
  clear c4
  by_cases c5 : t125 < (l1.length : Int)
  ·rw [if_pos c5] at H
   have c5b0 : decide (t125 < (l1.length : Int)) = true := decide_eq_true c5
   clear c5
   simp only [Option.some.injEq, Prod.mk.injEq] at H
   obtain ⟨rfl, rfl, rfl⟩ := H
   go_enter Try.func70, Try.ntmps70
   go_wp2_with (first | ((with_reducible refine gate_callee (f := 60) rfl ?_); refine goesM_ (some 9) rfl rfl Try.func60 #[.pointer (some ⟨g, 0, none⟩), .int .i64 (l1.length : Int)] ?_; (with_reducible refine (spec_l1Below.calls g s0_0 s0_1 s0_2 (l1.length : Int) t125 t126 t127 w0 _ ?side1 ?side2 A3.out).mono ?_); (case side1 => exact si HI0.out); (case side2 => exact bi HB.out); rintro e w6 ⟨rfl, hi, hb, hk⟩; refine ⟨_, rfl, ?_⟩; replace HK := am (KeepBut.trans (kp HK.out) hk (.inl rfl)); replace HB := am (hb); replace HI0 := am (hi); (try clear hb); (try clear hk); (try clear hi); have p128 : 0 ≤ (t125 : Int) := dt; have q128 : t125 < (l1.length : Int) := dt; obtain ⟨ad128, e128, hx128_0⟩ := Kd.at_int HR1.out t125 p128 q128; cases e128; replace hx128_0 := keep_cell HK.out hx128_0 (by first | (rw [add_block]; exact hf1 _ rfl (by omega)) | exact hf1 _ rfl (by omega) | exact hf1 ad128 rfl (by omega)); replace p128 := eq_true p128; replace q128 := eq_true q128))
   go_ret
   exact ⟨rt, si HI0.out, bi HB.out, kp HK.out⟩
  ·rw [if_neg c5] at H
   exact absurd H (by simp)
 ·rw [if_neg c4] at H
  exact absurd H (by simp)

/-! ### spec_l2DrawBank: function 105 -/
def spec_l2DrawBank.l0 : Nat → List Int → Int → List Int → Int → Int → Option (List Int × Int × Int)
 | 0, _, _, _, _, _ => none
 | k + 1, x3, x4, x1000, x1001, x1002 => if x4 < 256 then ((spec_l1Below.f x1000 x1001 x1002 4).bind fun bt132 => (if bt132.1 = 0 then ((spec_l1Below.f x1000 bt132.2.1 bt132.2.2 30).bind fun bt135 => (if 0 ≤ x4 then (if x4 < (x3.length : Int) then (spec_l2DrawBank.l0 k (x3.set (x4 : Int).toNat bt135.1) (wrap64 (x4 + 1)) x1000 bt135.2.1 bt135.2.2) else (none)) else (none))) else (if bt132.1 = 1 then ((spec_l1PickInt.f x1000 bt132.2.1 bt132.2.2 (([32, 64, 0, 1, 22, 192, 128, 2, 4, 5] : List Int))).bind fun bt142 => (if 0 ≤ x4 then (if x4 < (x3.length : Int) then (spec_l2DrawBank.l0 k (x3.set (x4 : Int).toNat bt142.1) (wrap64 (x4 + 1)) x1000 bt142.2.1 bt142.2.2) else (none)) else (none))) else (if bt132.1 = 2 then ((spec_l1Below.f x1000 bt132.2.1 bt132.2.2 256).bind fun bt146 => (if 0 ≤ x4 then (if x4 < (x3.length : Int) then (spec_l2DrawBank.l0 k (x3.set (x4 : Int).toNat bt146.1) (wrap64 (x4 + 1)) x1000 bt146.2.1 bt146.2.2) else (none)) else (none))) else (spec_l2DrawBank.l0 k x3 (wrap64 (x4 + 1)) x1000 bt132.2.1 bt132.2.2))))) else (some (x3, x1001, x1002))
def spec_l2DrawBank.f (k : Nat) (s0_0 : List Int) (s0_1 : Int) (s0_2 : Int) : Option (List Int × Int × Int) := if 256 ≤ 35184372088832 then (spec_l2DrawBank.l0 k (List.replicate 256 0) 0 s0_0 s0_1 s0_2) else (none)
theorem spec_l2DrawBank.calls (k : Nat) (g : Nat) (s0_0 : List Int) (s0_1 : Int) (s0_2 : Int) (r1 : List Int) (r2 : Int) (r3 : Int) (w0 w : World) (hI : IsS107 w0 w g s0_0 s0_1 s0_2) (hB : Below w0.heap.size w0 w) (h : spec_l2DrawBank.f k s0_0 s0_1 s0_2 = some (r1, r2, r3)) :
  Calls Try.prog 105 #[.pointer (some ⟨g, 0, none⟩)] w fun e w' => ∃ v0_ : Value, e = .returned (v0_) ∧ Kd.R (Kd.int .i64) 3 w' w.heap.size (fun _ => True) v0_ r1 ∧ IsS107 w0 w' g s0_0 r2 r3 ∧ Below w0.heap.size w0 w' ∧ KeepBut w w' g none := by
 have HI0 := am hI
 have HK := am (KeepBut.refl w g none)
 have HL := am hB.size
 clear hI
 have HW0 := am hB.size
 have HB := am hB
 clear hB
 have H : (if 256 ≤ 35184372088832 then (spec_l2DrawBank.l0 k (List.replicate 256 0) 0 s0_0 s0_1 s0_2) else (none)) = some (r1, r2, r3) := h
 clear h
 by_cases c2 : 256 ≤ 35184372088832
 ·rw [if_pos c2] at H
  have c2b0 := eq_true c2
  have c2b1 : decide (256 ≤ 35184372088832) = true := decide_eq_true c2
  clear c2
  obtain ⟨y129, hy129⟩ : ∃ y_ : List Int, y_ = (List.replicate 256 0) := ⟨_, rfl⟩
  replace H : (spec_l2DrawBank.l0 k y129 0 s0_0 s0_1 s0_2) = some (r1, r2, r3) := by first | (rw [hy129]; with_reducible exact H) | (have H2_ := (Option.bind_some _ _).symm.trans H; rw [hy129]; with_reducible exact H2_) | (have H2_ := (Option.bind_some _ _).symm.trans H; with_reducible exact H2_) | with_reducible exact H | (rw [hy129]; exact H) | exact H
  have Ny129 := am hy129
  clear hy129
  have H' := am H
  clear H
  go_enter Try.func105, Try.ntmps105
  go_wp2_with (first | ((with_reducible refine gd 5 ?_); refine Kd.R_make (Kd.int .i64) _ 3 rfl (N := 5) rfl 30 _ _ rfl 256 rfl rfl Try.underlying30 (.int .i64 0) 8 info3 rfl (by decide) (by omega) 0 (ok := fun _ => True) (okp := fun _ => True) rfl (fun _ hk => hk) trivial (by omega) (by omega) (Below.refl _ _) (Nat.le_refl _) ?_; intro v130 w3 ho4 hb hg_ hnew_; clear hg_ hnew_; (first | rw [← Ny129.out] at ho4 | (simp only [Int.reduceToNat] at ho4; rw [← Ny129.out] at ho4)); have HO131 := am (Kd.R_lower ho4 (keep_size (w := w) (g := g) (row := none) (kp HK.out))); replace HI0 := am (IsS107.below (si HI0.out) hb); replace HK := am (KeepBut.trans (kp HK.out) (KeepBut.of_below hb g none) (.inl rfl)); replace HB := am (below_step (bi HB.out) hb); clear hb ho4))
  go_loopg [4] k (fun kq v4 w' => ∃ (x3_1 : List Int) (x4_1 : Int) (x1001_1 : Int) (x1002_1 : Int), v4 = .int .i64 x4_1 ∧ Aside0 (spec_l2DrawBank.l0 kq x3_1 x4_1 s0_0 x1001_1 x1002_1 = some (r1, r2, r3)) ∧ Aside0 (kq ≤ k) ∧ Aside0 (Kd.R (Kd.int .i64) 3 w' w.heap.size (fun _ => True) v130 x3_1) ∧ Aside0 (IsS107 w0 w' g s0_0 x1001_1 x1002_1) ∧ Aside0 (KeepBut w w' g none) ∧ Aside0 (Below w0.heap.size w0 w'))
  case atStart => exact ⟨(y129), (0), (s0_1), (s0_2), (by first | rfl | (simp; done) | (simp [*]; done)), H', ⟨Nat.le_refl _⟩, ⟨kr HO131.out⟩, ⟨si HI0.out⟩, ⟨kp HK.out⟩, ⟨bi HB.out⟩⟩
  case round =>
   clear H'
   (try clear c1); (try clear c2); (try clear c2b0); (try clear c2b1); (try clear p2)
   obtain ⟨x3_1, x4_1, x1001_1, x1002_1, rfl, HA, HK1, HO_3, HI0, HK, HB⟩ := hrel
   cases gk with
   | zero => exact absurd HA.out (by simp [spec_l2DrawBank.l0])
   | succ k1 =>
    have H := HA.out
    clear HA
    simp only [spec_l2DrawBank.l0] at H
    by_cases c5 : x4_1 < 256
    ·rw [if_pos c5] at H
     have c5b0 : decide (x4_1 < 256) = true := decide_eq_true c5
     clear c5
     replace H := bs H
     obtain ⟨⟨t132, t133, t134⟩, A60, H⟩ := H
     replace H : (if t132 = 0 then ((spec_l1Below.f s0_0 t133 t134 30).bind fun bt135 => (if 0 ≤ x4_1 then (if x4_1 < (x3_1.length : Int) then (spec_l2DrawBank.l0 k1 (x3_1.set (x4_1 : Int).toNat bt135.1) (wrap64 (x4_1 + 1)) s0_0 bt135.2.1 bt135.2.2) else (none)) else (none))) else (if t132 = 1 then ((spec_l1PickInt.f s0_0 t133 t134 (([32, 64, 0, 1, 22, 192, 128, 2, 4, 5] : List Int))).bind fun bt142 => (if 0 ≤ x4_1 then (if x4_1 < (x3_1.length : Int) then (spec_l2DrawBank.l0 k1 (x3_1.set (x4_1 : Int).toNat bt142.1) (wrap64 (x4_1 + 1)) s0_0 bt142.2.1 bt142.2.2) else (none)) else (none))) else (if t132 = 2 then ((spec_l1Below.f s0_0 t133 t134 256).bind fun bt146 => (if 0 ≤ x4_1 then (if x4_1 < (x3_1.length : Int) then (spec_l2DrawBank.l0 k1 (x3_1.set (x4_1 : Int).toNat bt146.1) (wrap64 (x4_1 + 1)) s0_0 bt146.2.1 bt146.2.2) else (none)) else (none))) else (spec_l2DrawBank.l0 k1 x3_1 (wrap64 (x4_1 + 1)) s0_0 t133 t134)))) = some (r1, r2, r3) := H
     have A6 := am A60
     clear A60
     by_cases c7 : t132 = 0
     ·rw [if_pos c7] at H
      have c7b0 : (t132 == 0) = true := beq_iff_eq.mpr c7
      have c7b1 : (t132 != 0) = false := bne_eq_false_iff_eq.mpr c7
      clear c7
      replace H := bs H
      obtain ⟨⟨t135, t136, t137⟩, A80, H⟩ := H
      replace H : (if 0 ≤ x4_1 then (if x4_1 < (x3_1.length : Int) then (spec_l2DrawBank.l0 k1 (x3_1.set (x4_1 : Int).toNat t135) (wrap64 (x4_1 + 1)) s0_0 t136 t137) else (none)) else (none)) = some (r1, r2, r3) := H
      have A8 := am A80
      clear A80
      by_cases c9 : 0 ≤ x4_1
      ·rw [if_pos c9] at H
       have c9b0 : decide (0 ≤ x4_1) = true := decide_eq_true c9
       clear c9
       by_cases c10 : x4_1 < (x3_1.length : Int)
       ·rw [if_pos c10] at H
        have c10b0 : decide (x4_1 < (x3_1.length : Int)) = true := decide_eq_true c10
        clear c10
        obtain ⟨y138, hy138⟩ : ∃ y_ : List Int, y_ = (x3_1.set (x4_1 : Int).toNat t135) := ⟨_, rfl⟩
        replace H : (spec_l2DrawBank.l0 k1 y138 (wrap64 (x4_1 + 1)) s0_0 t136 t137) = some (r1, r2, r3) := by first | (rw [hy138]; with_reducible exact H) | (have H2_ := (Option.bind_some _ _).symm.trans H; rw [hy138]; with_reducible exact H2_) | (have H2_ := (Option.bind_some _ _).symm.trans H; with_reducible exact H2_) | with_reducible exact H | (rw [hy138]; exact H) | exact H
        have Ny138 := am hy138
        clear hy138
        have H' := am H
        clear H
        go_wp2_with (first | ((with_reducible refine gate_callee (f := 60) rfl ?_); refine goesM_ (some 11) rfl rfl Try.func60 #[.pointer (some ⟨g, 0, none⟩), .int .i64 4] ?_; (with_reducible refine (spec_l1Below.calls g s0_0 x1001_1 x1002_1 4 t132 t133 t134 w0 _ ?side1 ?side2 A6.out).mono ?_); (case side1 => exact si HI0.out); (case side2 => exact bi HB.out); rintro e w12 ⟨rfl, hi, hb, hk⟩; refine ⟨_, rfl, ?_⟩; replace HO_3 := am (Kd.R_mono (Kd.R_keep (IsS107.apart (show IsS107 w0 _ g s0_0 x1001_1 x1002_1 from si HI0.out) (kr HO_3.out) (by decide)) hk (fun _ h => h.2)) (fun _ h => h.1)); replace HK := am (KeepBut.trans (kp HK.out) hk (.inl rfl)); replace HB := am (hb); replace HI0 := am (hi); (try clear hb); (try clear hk); (try clear hi)) | ((with_reducible refine gate_callee (f := 60) rfl ?_); refine goesM_ (some 17) rfl rfl Try.func60 #[.pointer (some ⟨g, 0, none⟩), .int .i64 30] ?_; (with_reducible refine (spec_l1Below.calls g s0_0 t133 t134 30 t135 t136 t137 w0 _ ?side1 ?side2 A8.out).mono ?_); (case side1 => exact si HI0.out); (case side2 => exact bi HB.out); rintro e w13 ⟨rfl, hi, hb, hk⟩; refine ⟨_, rfl, ?_⟩; replace HO_3 := am (Kd.R_mono (Kd.R_keep (IsS107.apart (show IsS107 w0 _ g s0_0 t133 t134 from si HI0.out) (kr HO_3.out) (by decide)) hk (fun _ h => h.2)) (fun _ h => h.1)); replace HK := am (KeepBut.trans (kp HK.out) hk (.inl rfl)); replace HB := am (hb); replace HI0 := am (hi); (try clear hb); (try clear hk); (try clear hi); have p11 : 0 ≤ (x4_1 : Int) := dt; have q11 : (x4_1 : Int) < ((x3_1.length : Int) : Int) := dt; obtain ⟨go11, co11, eo11, gb11, gl11, cl11, HG11⟩ := Kd.R_form HO_3.out (by omega); (first | cases eo11 | (injection eo11 with ea_ en_ ec_; (first | subst ea_ | (injection ea_ with ea_; subst ea_)); subst ec_; clear en_)); have GB11 := am gb11; have GG11 := am HG11; clear gb11 gl11 HG11; obtain ⟨hx11_0, hf11_0⟩ := Kd.R_celln 0 HO_3.out (x4_1 : Int) p11 q11; replace p11 := eq_true p11; replace q11 := eq_true q11; obtain ⟨hy14_, hz14_⟩ := Kd.R_celln 0 HO_3.out (x4_1 : Int) dt dt; have HP14 := Kd.R_putg HO_3.out (x4_1 : Int) t135) | ((with_reducible refine gate_store (t := 3) (p := 18) rfl ?_); refine store_event (t := 3) (p := 18) (v := ?vo_w15) (w1 := (w13.setCell ⟨go11, (x4_1 : Int).toNat, none⟩ (.int .i64 t135))) ?hg ?ho ?hn ?hr ?_; (case ho => rfl); (case hg => rfl); (case hn => rfl); (case hr => first | (go_simp; done) | (go_simp; rfl)); intro w15 hw; have hg : w13.grownBy w15 (some go11) := (by rw [hw]; exact HP14.2); have hp_ : Kd.R (Kd.int .i64) 3 w15 w.heap.size (fun _ => True) (.slice (some ⟨go11, 0, none⟩) x3_1.length co11) y138 := (by rw [hw, Ny138.out]; exact HP14.1); clear HP14; have n0_ := am (hp_); have n1_ := am (IsS107.grown (si HI0.out) hg (IsS107.own_ne HI0.out HO_3.out (by decide))); have n2_ := am ((by rw [hw]; exact below_set (HB.out) (Nat.le_trans HL.out GB11.out) : Below w0.heap.size w0 w15)); have n3_ := am (KeepBut.trans (kp HK.out) (KeepBut.of_grown hg g) (Kd.R_base2 HO_3.out)); clear HO_3; clear HI0; clear HB; clear HK; have HO_3 := n0_; have HI0 := n1_; have HB := n2_; have HK := n3_; clear n0_ n1_ n2_ n3_; clear hg hw hp_))
        go_roundg k1
        case measure => have := HK1.out; omega
        case rel => exact ⟨(y138), (wrap64 (x4_1 + 1)), (t136), (t137), (by first | rfl | (simp; done) | (simp [*]; done)), H', ⟨by have := HK1.out; omega⟩, ⟨kr HO_3.out⟩, ⟨si HI0.out⟩, ⟨kp HK.out⟩, ⟨bi HB.out⟩⟩
       ·rw [if_neg c10] at H
        exact absurd H (by simp)
      ·rw [if_neg c9] at H
       exact absurd H (by simp)
     ·rw [if_neg c7] at H
      have c7b0 : (t132 == 0) = false := beq_eq_false_iff_ne.mpr c7
      have c7b1 : (t132 != 0) = true := bne_iff_ne.mpr c7
      by_cases c16 : t132 = 1
      ·rw [if_pos c16] at H
       have c16b0 : (t132 == 1) = true := beq_iff_eq.mpr c16
       have c16b1 : (t132 != 1) = false := bne_eq_false_iff_eq.mpr c16
       clear c16
       obtain ⟨y139, hy139⟩ : ∃ y_ : List Int, y_ = (([32, 64, 0, 1, 22, 192, 128, 2, 4, 5] : List Int)) := ⟨_, rfl⟩
       replace H : ((spec_l1PickInt.f s0_0 t133 t134 y139).bind fun bt142 => (if 0 ≤ x4_1 then (if x4_1 < (x3_1.length : Int) then (spec_l2DrawBank.l0 k1 (x3_1.set (x4_1 : Int).toNat bt142.1) (wrap64 (x4_1 + 1)) s0_0 bt142.2.1 bt142.2.2) else (none)) else (none))) = some (r1, r2, r3) := by first | (rw [hy139]; with_reducible exact H) | (have H2_ := (Option.bind_some _ _).symm.trans H; rw [hy139]; with_reducible exact H2_) | (have H2_ := (Option.bind_some _ _).symm.trans H; with_reducible exact H2_) | with_reducible exact H | (rw [hy139]; exact H) | exact H
       have Ny139 := am hy139
       clear hy139
       replace H := bs H
       obtain ⟨⟨t142, t143, t144⟩, A170, H⟩ := H
       replace H : (if 0 ≤ x4_1 then (if x4_1 < (x3_1.length : Int) then (spec_l2DrawBank.l0 k1 (x3_1.set (x4_1 : Int).toNat t142) (wrap64 (x4_1 + 1)) s0_0 t143 t144) else (none)) else (none)) = some (r1, r2, r3) := H
       have A17 := am A170
       clear A170
       by_cases c18 : 0 ≤ x4_1
       ·rw [if_pos c18] at H
        have c18b0 : decide (0 ≤ x4_1) = true := decide_eq_true c18
        clear c18
        by_cases c19 : x4_1 < (x3_1.length : Int)
        ·rw [if_pos c19] at H
         have c19b0 : decide (x4_1 < (x3_1.length : Int)) = true := decide_eq_true c19
         clear c19
         obtain ⟨y145, hy145⟩ : ∃ y_ : List Int, y_ = (x3_1.set (x4_1 : Int).toNat t142) := ⟨_, rfl⟩
         replace H : (spec_l2DrawBank.l0 k1 y145 (wrap64 (x4_1 + 1)) s0_0 t143 t144) = some (r1, r2, r3) := by first | (rw [hy145]; with_reducible exact H) | (have H2_ := (Option.bind_some _ _).symm.trans H; rw [hy145]; with_reducible exact H2_) | (have H2_ := (Option.bind_some _ _).symm.trans H; with_reducible exact H2_) | with_reducible exact H | (rw [hy145]; exact H) | exact H
         have Ny145 := am hy145
         clear hy145
         have H' := am H
         clear H
         go_wp2_with (first | ((with_reducible refine gate_callee (f := 60) rfl ?_); refine goesM_ (some 11) rfl rfl Try.func60 #[.pointer (some ⟨g, 0, none⟩), .int .i64 4] ?_; (with_reducible refine (spec_l1Below.calls g s0_0 x1001_1 x1002_1 4 t132 t133 t134 w0 _ ?side1 ?side2 A6.out).mono ?_); (case side1 => exact si HI0.out); (case side2 => exact bi HB.out); rintro e w21 ⟨rfl, hi, hb, hk⟩; refine ⟨_, rfl, ?_⟩; replace HO_3 := am (Kd.R_mono (Kd.R_keep (IsS107.apart (show IsS107 w0 _ g s0_0 x1001_1 x1002_1 from si HI0.out) (kr HO_3.out) (by decide)) hk (fun _ h => h.2)) (fun _ h => h.1)); replace HK := am (KeepBut.trans (kp HK.out) hk (.inl rfl)); replace HB := am (hb); replace HI0 := am (hi); (try clear hb); (try clear hk); (try clear hi)) | ((with_reducible refine gd 24 ?_); refine Kd.R_lit (Kd.int .i64) _ 3 ?hg (N := 24) ?hd (xs := ([32, 64, 0, 1, 22, 192, 128, 2, 4, 5] : List Int)) (inner := [.int .i64 32, .int .i64 64, .int .i64 0, .int .i64 1, .int .i64 22, .int .i64 192, .int .i64 128, .int .i64 2, .int .i64 4, .int .i64 5]) (ok := fun _ => True) (okp := fun _ => True) ?hr ?hp (fun _ hk => hk) trivial (Below.refl _ _) (Nat.le_refl _) (by simp) ?_; (case hd => rfl); (case hg => rfl); (case hr => first | (go_simp; done) | (go_simp; rfl)); (case hp => exact (reI _)); intro v140 w22 ho23 hb hg_ hnew_; clear hg_ hnew_; (first | rw [← Ny139.out] at ho23 | (simp only [Int.reduceToNat] at ho23; rw [← Ny139.out] at ho23)); have HO141 := am (Kd.R_lower (Kd.R_new' ho23 (Kd.R_lt (kr HO_3.out))) (keep_size (w := w) (g := g) (row := none) (kp HK.out))); replace HO_3 := am (Kd.R_elder' (kr HO_3.out) (Kd.R_base ho23) hb); replace HI0 := am (IsS107.below (si HI0.out) hb); replace HK := am (KeepBut.trans (kp HK.out) (KeepBut.of_below hb g none) (.inl rfl)); replace HB := am (below_step (bi HB.out) hb); clear hb ho23; obtain ⟨Ao24, co24, eo24⟩ := Kd.R_slice HO141.out; subst eo24) | ((with_reducible refine gate_callee (f := 70) rfl ?_); refine goesM_ (some 25) rfl rfl Try.func70 #[.pointer (some ⟨g, 0, none⟩), .slice Ao24 y139.length co24] ?_; (with_reducible refine (spec_l1PickInt.calls g s0_0 t133 t134 _ _ y139 t142 t143 t144 w0 _ ?side1 ?side2 ?side3 ?side4 ?side5 A17.out).mono ?_); (case side1 => exact si HI0.out); (case side2 => exact bi HB.out); (case side3 => exact kc (Kd.R_reads' HO141.out).2.2); (case side4 => exact (Kd.R_reads' HO141.out).2.1); (case side5 => exact far_slice (IsS107.own_ne HI0.out HO141.out (by decide))); rintro e w25 ⟨rfl, hi, hb, hk⟩; refine ⟨_, rfl, ?_⟩; replace HO_3 := am (Kd.R_mono (Kd.R_keep (IsS107.apart (show IsS107 w0 _ g s0_0 t133 t134 from si HI0.out) (kr HO_3.out) (by decide)) hk (fun _ h => h.2)) (fun _ h => h.1)); replace HO141 := am (Kd.R_mono (Kd.R_keep (IsS107.apart (show IsS107 w0 _ g s0_0 t133 t134 from si HI0.out) (kr HO141.out) (by decide)) hk (fun _ h => h.2)) (fun _ h => h.1)); replace HK := am (KeepBut.trans (kp HK.out) hk (.inl rfl)); replace HB := am (hb); replace HI0 := am (hi); (try clear hb); (try clear hk); (try clear hi); have p20 : 0 ≤ (x4_1 : Int) := dt; have q20 : (x4_1 : Int) < ((x3_1.length : Int) : Int) := dt; obtain ⟨go20, co20, eo20, gb20, gl20, cl20, HG20⟩ := Kd.R_form HO_3.out (by omega); (first | cases eo20 | (injection eo20 with ea_ en_ ec_; (first | subst ea_ | (injection ea_ with ea_; subst ea_)); subst ec_; clear en_)); have GB20 := am gb20; have GG20 := am HG20; clear gb20 gl20 HG20; obtain ⟨hx20_0, hf20_0⟩ := Kd.R_celln 0 HO_3.out (x4_1 : Int) p20 q20; replace p20 := eq_true p20; replace q20 := eq_true q20; have n_ := am (Kd.R_mono (ok' := (fun k_ => some k_ ≠ (.slice Ao24 y139.length co24 : Value).ownBlock)) HO_3.out (fun k_ hk => hk.2)); clear HO_3; have HO_3 := n_; clear n_; obtain ⟨hy26_, hz26_⟩ := Kd.R_celln 0 HO_3.out (x4_1 : Int) dt dt; have HP26 := Kd.R_putg HO_3.out (x4_1 : Int) t142) | ((with_reducible refine gate_store (t := 3) (p := 26) rfl ?_); refine store_event (t := 3) (p := 26) (v := ?vo_w27) (w1 := (w25.setCell ⟨go20, (x4_1 : Int).toNat, none⟩ (.int .i64 t142))) ?hg ?ho ?hn ?hr ?_; (case ho => rfl); (case hg => rfl); (case hn => rfl); (case hr => first | (go_simp; done) | (go_simp; rfl)); intro w27 hw; have hg : w25.grownBy w27 (some go20) := (by rw [hw]; exact HP26.2); have hp_ : Kd.R (Kd.int .i64) 3 w27 w.heap.size (fun k_ => some k_ ≠ (.slice Ao24 y139.length co24 : Value).ownBlock) (.slice (some ⟨go20, 0, none⟩) x3_1.length co20) y145 := (by rw [hw, Ny145.out]; exact HP26.1); clear HP26; have n0_ := am (hp_); have n1_ := am (IsS107.grown (si HI0.out) hg (IsS107.own_ne HI0.out HO_3.out (by decide))); have n2_ := am (Kd.R_after (v := (.slice (some ⟨go20, 0, none⟩) x3_1.length co20)) (v1 := (.slice (some ⟨go20, 0, none⟩) x3_1.length co20)) (ok := (fun _ => True)) (kr HO141.out) hg (.inl rfl)); have n3_ := am ((by rw [hw]; exact below_set (HB.out) (Nat.le_trans HL.out GB20.out) : Below w0.heap.size w0 w27)); have n4_ := am (KeepBut.trans (kp HK.out) (KeepBut.of_grown hg g) (Kd.R_base2 HO_3.out)); clear HO_3; clear HI0; clear HO141; clear HB; clear HK; have HO_3 := n0_; have HI0 := n1_; have HO141 := n2_; have HB := n3_; have HK := n4_; clear n0_ n1_ n2_ n3_ n4_; clear hg hw hp_))
         go_roundg k1
         case measure => have := HK1.out; omega
         case rel => exact ⟨(y145), (wrap64 (x4_1 + 1)), (t143), (t144), (by first | rfl | (simp; done) | (simp [*]; done)), H', ⟨by have := HK1.out; omega⟩, ⟨kr (Kd.R_mono HO_3.out (fun _ hk => trivial))⟩, ⟨si HI0.out⟩, ⟨kp HK.out⟩, ⟨bi HB.out⟩⟩
        ·rw [if_neg c19] at H
         exact absurd H (by simp)
       ·rw [if_neg c18] at H
        exact absurd H (by simp)
      ·rw [if_neg c16] at H
       have c16b0 : (t132 == 1) = false := beq_eq_false_iff_ne.mpr c16
       have c16b1 : (t132 != 1) = true := bne_iff_ne.mpr c16
       by_cases c28 : t132 = 2
       ·rw [if_pos c28] at H
        have c28b0 : (t132 == 2) = true := beq_iff_eq.mpr c28
        have c28b1 : (t132 != 2) = false := bne_eq_false_iff_eq.mpr c28
        clear c28
        replace H := bs H
        obtain ⟨⟨t146, t147, t148⟩, A290, H⟩ := H
        replace H : (if 0 ≤ x4_1 then (if x4_1 < (x3_1.length : Int) then (spec_l2DrawBank.l0 k1 (x3_1.set (x4_1 : Int).toNat t146) (wrap64 (x4_1 + 1)) s0_0 t147 t148) else (none)) else (none)) = some (r1, r2, r3) := H
        have A29 := am A290
        clear A290
        by_cases c30 : 0 ≤ x4_1
        ·rw [if_pos c30] at H
         have c30b0 : decide (0 ≤ x4_1) = true := decide_eq_true c30
         clear c30
         by_cases c31 : x4_1 < (x3_1.length : Int)
         ·rw [if_pos c31] at H
          have c31b0 : decide (x4_1 < (x3_1.length : Int)) = true := decide_eq_true c31
          clear c31
          obtain ⟨y149, hy149⟩ : ∃ y_ : List Int, y_ = (x3_1.set (x4_1 : Int).toNat t146) := ⟨_, rfl⟩
          replace H : (spec_l2DrawBank.l0 k1 y149 (wrap64 (x4_1 + 1)) s0_0 t147 t148) = some (r1, r2, r3) := by first | (rw [hy149]; with_reducible exact H) | (have H2_ := (Option.bind_some _ _).symm.trans H; rw [hy149]; with_reducible exact H2_) | (have H2_ := (Option.bind_some _ _).symm.trans H; with_reducible exact H2_) | with_reducible exact H | (rw [hy149]; exact H) | exact H
          have Ny149 := am hy149
          clear hy149
          have H' := am H
          clear H
          go_wp2_with (first | ((with_reducible refine gate_callee (f := 60) rfl ?_); refine goesM_ (some 11) rfl rfl Try.func60 #[.pointer (some ⟨g, 0, none⟩), .int .i64 4] ?_; (with_reducible refine (spec_l1Below.calls g s0_0 x1001_1 x1002_1 4 t132 t133 t134 w0 _ ?side1 ?side2 A6.out).mono ?_); (case side1 => exact si HI0.out); (case side2 => exact bi HB.out); rintro e w33 ⟨rfl, hi, hb, hk⟩; refine ⟨_, rfl, ?_⟩; replace HO_3 := am (Kd.R_mono (Kd.R_keep (IsS107.apart (show IsS107 w0 _ g s0_0 x1001_1 x1002_1 from si HI0.out) (kr HO_3.out) (by decide)) hk (fun _ h => h.2)) (fun _ h => h.1)); replace HK := am (KeepBut.trans (kp HK.out) hk (.inl rfl)); replace HB := am (hb); replace HI0 := am (hi); (try clear hb); (try clear hk); (try clear hi)) | ((with_reducible refine gate_callee (f := 60) rfl ?_); refine goesM_ (some 32) rfl rfl Try.func60 #[.pointer (some ⟨g, 0, none⟩), .int .i64 256] ?_; (with_reducible refine (spec_l1Below.calls g s0_0 t133 t134 256 t146 t147 t148 w0 _ ?side1 ?side2 A29.out).mono ?_); (case side1 => exact si HI0.out); (case side2 => exact bi HB.out); rintro e w34 ⟨rfl, hi, hb, hk⟩; refine ⟨_, rfl, ?_⟩; replace HO_3 := am (Kd.R_mono (Kd.R_keep (IsS107.apart (show IsS107 w0 _ g s0_0 t133 t134 from si HI0.out) (kr HO_3.out) (by decide)) hk (fun _ h => h.2)) (fun _ h => h.1)); replace HK := am (KeepBut.trans (kp HK.out) hk (.inl rfl)); replace HB := am (hb); replace HI0 := am (hi); (try clear hb); (try clear hk); (try clear hi); have p32 : 0 ≤ (x4_1 : Int) := dt; have q32 : (x4_1 : Int) < ((x3_1.length : Int) : Int) := dt; obtain ⟨go32, co32, eo32, gb32, gl32, cl32, HG32⟩ := Kd.R_form HO_3.out (by omega); (first | cases eo32 | (injection eo32 with ea_ en_ ec_; (first | subst ea_ | (injection ea_ with ea_; subst ea_)); subst ec_; clear en_)); have GB32 := am gb32; have GG32 := am HG32; clear gb32 gl32 HG32; obtain ⟨hx32_0, hf32_0⟩ := Kd.R_celln 0 HO_3.out (x4_1 : Int) p32 q32; replace p32 := eq_true p32; replace q32 := eq_true q32; obtain ⟨hy35_, hz35_⟩ := Kd.R_celln 0 HO_3.out (x4_1 : Int) dt dt; have HP35 := Kd.R_putg HO_3.out (x4_1 : Int) t146) | ((with_reducible refine gate_store (t := 3) (p := 33) rfl ?_); refine store_event (t := 3) (p := 33) (v := ?vo_w36) (w1 := (w34.setCell ⟨go32, (x4_1 : Int).toNat, none⟩ (.int .i64 t146))) ?hg ?ho ?hn ?hr ?_; (case ho => rfl); (case hg => rfl); (case hn => rfl); (case hr => first | (go_simp; done) | (go_simp; rfl)); intro w36 hw; have hg : w34.grownBy w36 (some go32) := (by rw [hw]; exact HP35.2); have hp_ : Kd.R (Kd.int .i64) 3 w36 w.heap.size (fun _ => True) (.slice (some ⟨go32, 0, none⟩) x3_1.length co32) y149 := (by rw [hw, Ny149.out]; exact HP35.1); clear HP35; have n0_ := am (hp_); have n1_ := am (IsS107.grown (si HI0.out) hg (IsS107.own_ne HI0.out HO_3.out (by decide))); have n2_ := am ((by rw [hw]; exact below_set (HB.out) (Nat.le_trans HL.out GB32.out) : Below w0.heap.size w0 w36)); have n3_ := am (KeepBut.trans (kp HK.out) (KeepBut.of_grown hg g) (Kd.R_base2 HO_3.out)); clear HO_3; clear HI0; clear HB; clear HK; have HO_3 := n0_; have HI0 := n1_; have HB := n2_; have HK := n3_; clear n0_ n1_ n2_ n3_; clear hg hw hp_))
          go_roundg k1
          case measure => have := HK1.out; omega
          case rel => exact ⟨(y149), (wrap64 (x4_1 + 1)), (t147), (t148), (by first | rfl | (simp; done) | (simp [*]; done)), H', ⟨by have := HK1.out; omega⟩, ⟨kr HO_3.out⟩, ⟨si HI0.out⟩, ⟨kp HK.out⟩, ⟨bi HB.out⟩⟩
         ·rw [if_neg c31] at H
          exact absurd H (by simp)
        ·rw [if_neg c30] at H
         exact absurd H (by simp)
       ·rw [if_neg c28] at H
        have c28b0 : (t132 == 2) = false := beq_eq_false_iff_ne.mpr c28
        have c28b1 : (t132 != 2) = true := bne_iff_ne.mpr c28
        have H' := am H
        clear H
        go_wp2_with (first | ((with_reducible refine gate_callee (f := 60) rfl ?_); refine goesM_ (some 11) rfl rfl Try.func60 #[.pointer (some ⟨g, 0, none⟩), .int .i64 4] ?_; (with_reducible refine (spec_l1Below.calls g s0_0 x1001_1 x1002_1 4 t132 t133 t134 w0 _ ?side1 ?side2 A6.out).mono ?_); (case side1 => exact si HI0.out); (case side2 => exact bi HB.out); rintro e w37 ⟨rfl, hi, hb, hk⟩; refine ⟨_, rfl, ?_⟩; replace HO_3 := am (Kd.R_mono (Kd.R_keep (IsS107.apart (show IsS107 w0 _ g s0_0 x1001_1 x1002_1 from si HI0.out) (kr HO_3.out) (by decide)) hk (fun _ h => h.2)) (fun _ h => h.1)); replace HK := am (KeepBut.trans (kp HK.out) hk (.inl rfl)); replace HB := am (hb); replace HI0 := am (hi); (try clear hb); (try clear hk); (try clear hi)))
        go_roundg k1
        case measure => have := HK1.out; omega
        case rel => exact ⟨(x3_1), (wrap64 (x4_1 + 1)), (t133), (t134), (by first | rfl | (simp; done) | (simp [*]; done)), H', ⟨by have := HK1.out; omega⟩, ⟨kr HO_3.out⟩, ⟨si HI0.out⟩, ⟨kp HK.out⟩, ⟨bi HB.out⟩⟩
    ·rw [if_neg c5] at H
     have c5b0 : decide (x4_1 < 256) = false := decide_eq_false c5
     clear c5
     simp only [Option.some.injEq, Prod.mk.injEq] at H
     obtain ⟨rfl, rfl, rfl⟩ := H
     go_wp2
     go_ret
     exact ⟨_, rt, kr HO_3.out, si HI0.out, bi HB.out, kp HK.out⟩
 ·rw [if_neg c2] at H
  exact absurd H (by simp)

/-! ### spec_Byte: function 71 -/
def spec_Byte.f (a0 : Int) : Option (Int) := some (Go.bits .and .i64 a0 255)
theorem spec_Byte.calls (a0 : Int) (r : Int) (w : World) (h : spec_Byte.f a0 = some r) :
  Calls Try.prog 71 #[.int .i64 a0] w fun e w' => e = .returned (.int .i64 r) ∧ Drawn0 w w' := by
 have H : (some (Go.bits .and .i64 a0 255)) = some r := h
 clear h
 obtain rfl := oj H
 go_enter Try.func71, Try.ntmps71
 go_wp2
 go_ret
 exact ⟨by first | rfl | (simp; done) | (simp [*]; done), by repeat (first | exact Drawn0.refl _ | apply Drawn0.step)⟩

/-! ### spec_l1In: function 68 -/
def spec_l1In.f (a0 : Int) (a1 : Int) (a2 : Int) : Option (Bool) := if a0 ≥ a1 then (some (decide (a0 ≤ a2))) else (some false)
theorem spec_l1In.calls (a0 : Int) (a1 : Int) (a2 : Int) (r : Bool) (w : World) (h : spec_l1In.f a0 a1 a2 = some r) :
  Calls Try.prog 68 #[.int .i64 a0, .int .i64 a1, .int .i64 a2] w fun e w' => e = .returned (.bool r) ∧ Drawn0 w w' := by
 have H : (if a0 ≥ a1 then (some (decide (a0 ≤ a2))) else (some false)) = some r := h
 clear h
 by_cases c4 : a0 ≥ a1
 ·rw [if_pos c4] at H
  have c4b0 : decide (a1 ≤ a0) = true := decide_eq_true c4
  clear c4
  obtain rfl := oj H
  go_enter Try.func68, Try.ntmps68
  go_wp2
  go_ret
  exact ⟨by first | rfl | (simp; done) | (simp [*]; done), by repeat (first | exact Drawn0.refl _ | apply Drawn0.step)⟩
 ·rw [if_neg c4] at H
  have c4b0 : decide (a1 ≤ a0) = false := decide_eq_false c4
  clear c4
  obtain rfl := oj H
  go_enter Try.func68, Try.ntmps68
  go_wp2
  go_ret
  exact ⟨by first | rfl | (simp; done) | (simp [*]; done), by repeat (first | exact Drawn0.refl _ | apply Drawn0.step)⟩

/-! ### spec_OpLen: function 81 -/
def spec_OpLen.f (a0 : Int) : Option (Int) := (spec_l1In.f a0 0 29).bind fun t150 => (if t150 = true then ((some (([1, 2, 3, 3, 2, 2, 2, 2, 2, 2, 1, 1, 1, 1, 3, 3, 3, 3, 3, 3, 3, 1, 1, 1, 1, 1, 1, 1, 1, 3] : List Int) : List Int)).bind fun y151 => (if 0 ≤ a0 then (if a0 < (y151.length : Int) then (some (rd y151 a0)) else (none)) else (none))) else (some 1))
theorem spec_OpLen.calls (a0 : Int) (r : Int) (w : World) (h : spec_OpLen.f a0 = some r) :
  Calls Try.prog 81 #[.int .i64 a0] w fun e w' => e = .returned (.int .i64 r) ∧ Below w.heap.size w w' := by
 have HB := am (Below.refl w.heap.size w)
 have H : ((spec_l1In.f a0 0 29).bind fun t150 => (if t150 = true then ((some (([1, 2, 3, 3, 2, 2, 2, 2, 2, 2, 1, 1, 1, 1, 3, 3, 3, 3, 3, 3, 3, 1, 1, 1, 1, 1, 1, 1, 1, 3] : List Int) : List Int)).bind fun y151 => (if 0 ≤ a0 then (if a0 < (y151.length : Int) then (some (rd y151 a0)) else (none)) else (none))) else (some 1))) = some r := h
 clear h
 replace H := bs H
 obtain ⟨t150, A20, H⟩ := H
 replace H : (if t150 = true then ((some (([1, 2, 3, 3, 2, 2, 2, 2, 2, 2, 1, 1, 1, 1, 3, 3, 3, 3, 3, 3, 3, 1, 1, 1, 1, 1, 1, 1, 1, 3] : List Int) : List Int)).bind fun y151 => (if 0 ≤ a0 then (if a0 < (y151.length : Int) then (some (rd y151 a0)) else (none)) else (none))) else (some 1)) = some r := H
 have A2 := am A20
 clear A20
 by_cases c3 : t150 = true
 ·subst c3
  have H1 : ((some (([1, 2, 3, 3, 2, 2, 2, 2, 2, 2, 1, 1, 1, 1, 3, 3, 3, 3, 3, 3, 3, 1, 1, 1, 1, 1, 1, 1, 1, 3] : List Int) : List Int)).bind fun y151 => (if 0 ≤ a0 then (if a0 < (y151.length : Int) then (some (rd y151 a0)) else (none)) else (none))) = some r := by rw [if_pos rfl] at H; exact H
  clear H
  have H := H1
  clear H1
  obtain ⟨y151, hy151⟩ : ∃ y_ : List Int, y_ = (([1, 2, 3, 3, 2, 2, 2, 2, 2, 2, 1, 1, 1, 1, 3, 3, 3, 3, 3, 3, 3, 1, 1, 1, 1, 1, 1, 1, 1, 3] : List Int)) := ⟨_, rfl⟩
  replace H : (if 0 ≤ a0 then (if a0 < (y151.length : Int) then (some (rd y151 a0)) else (none)) else (none)) = some r := by first | (rw [hy151]; with_reducible exact H) | (have H2_ := (Option.bind_some _ _).symm.trans H; rw [hy151]; with_reducible exact H2_) | (have H2_ := (Option.bind_some _ _).symm.trans H; with_reducible exact H2_) | with_reducible exact H | (rw [hy151]; exact H) | exact H
  have Ny151 := am hy151
  clear hy151
  by_cases c4 : 0 ≤ a0
  ·rw [if_pos c4] at H
   have c4b0 : decide (0 ≤ a0) = true := decide_eq_true c4
   clear c4
   by_cases c5 : a0 < (y151.length : Int)
   ·rw [if_pos c5] at H
    have c5b0 : decide (a0 < (y151.length : Int)) = true := decide_eq_true c5
    clear c5
    obtain rfl := oj H
    go_enter Try.func81, Try.ntmps81
    go_wp2_with (first | ((with_reducible refine gate_callee (f := 68) rfl ?_); refine goesM_ (some 4) rfl rfl Try.func68 #[.int .i64 a0, .int .i64 0, .int .i64 29] ?_; (with_reducible refine (spec_l1In.calls a0 0 29 true _ A2.out).mono ?_); rintro e w' ⟨rfl, ⟨nd, rfl⟩⟩; refine ⟨_, rfl, ?_⟩) | ((with_reducible refine gd 6 ?_); refine Kd.R_lit (Kd.int .i64) _ 3 ?hg (N := 6) ?hd (xs := ([1, 2, 3, 3, 2, 2, 2, 2, 2, 2, 1, 1, 1, 1, 3, 3, 3, 3, 3, 3, 3, 1, 1, 1, 1, 1, 1, 1, 1, 3] : List Int)) (inner := [.int .i64 1, .int .i64 2, .int .i64 3, .int .i64 3, .int .i64 2, .int .i64 2, .int .i64 2, .int .i64 2, .int .i64 2, .int .i64 2, .int .i64 1, .int .i64 1, .int .i64 1, .int .i64 1, .int .i64 3, .int .i64 3, .int .i64 3, .int .i64 3, .int .i64 3, .int .i64 3, .int .i64 3, .int .i64 1, .int .i64 1, .int .i64 1, .int .i64 1, .int .i64 1, .int .i64 1, .int .i64 1, .int .i64 1, .int .i64 3]) (ok := fun _ => True) (okp := fun _ => True) ?hr ?hp (fun _ hk => hk) trivial (Below.refl _ _) (Nat.le_refl _) (by simp) ?_; (case hd => rfl); (case hg => rfl); (case hr => first | (go_simp; done) | (go_simp; rfl)); (case hp => exact (reI _)); intro v152 w6 ho7 hb hg_ hnew_; clear hg_ hnew_; (first | rw [← Ny151.out] at ho7 | (simp only [Int.reduceToNat] at ho7; rw [← Ny151.out] at ho7)); have HO153 := am (Kd.R_lower ho7 (below_size (bw HB.out))); replace HB := am (below_step (bw HB.out) hb); clear hb ho7; obtain ⟨Ao8, co8, eo8⟩ := Kd.R_slice HO153.out; subst eo8; have p154 : 0 ≤ (a0 : Int) := dt; have q154 : a0 < (y151.length : Int) := dt; obtain ⟨ad154, e154, hx154_0⟩ := Kd.at_int (Kd.R_reads' HO153.out).2.2 a0 p154 q154; cases e154; replace p154 := eq_true p154; replace q154 := eq_true q154))
    go_ret
    exact ⟨rt, bw HB.out⟩
   ·rw [if_neg c5] at H
    exact absurd H (by simp)
  ·rw [if_neg c4] at H
   exact absurd H (by simp)
 ·replace c3 := Bool.eq_false_iff.mpr c3
  subst c3
  have H1 : (some 1) = some r := by rw [if_neg (show ¬ (false = true) by decide)] at H; exact H
  clear H
  have H := H1
  clear H1
  obtain rfl := oj H
  go_enter Try.func81, Try.ntmps81
  go_wp2_with (first | ((with_reducible refine gate_callee (f := 68) rfl ?_); refine goesM_ (some 4) rfl rfl Try.func68 #[.int .i64 a0, .int .i64 0, .int .i64 29] ?_; (with_reducible refine (spec_l1In.calls a0 0 29 false _ A2.out).mono ?_); rintro e w' ⟨rfl, ⟨nd, rfl⟩⟩; refine ⟨_, rfl, ?_⟩))
  go_ret
  exact ⟨rt, bw HB.out⟩

/-! ### spec_l4Digits: function 133 -/
def spec_l4Digits.l0 : Nat → Int → ByteArray → Option (ByteArray)
 | 0, _, _ => none
 | k + 1, x0, x3 => if x0 > 0 then ((some (([(wrap64 (48 + (Int.tmod x0 10))) % 256] : List Int) : List Int)).bind fun y155 => (if (strOfNums y155).size + x3.size ≤ 9223372036854775807 then (spec_l4Digits.l0 k (wrap64 (Int.tdiv x0 10)) ((strOfNums y155) ++ x3)) else (none))) else (some x3)
def spec_l4Digits.f (k : Nat) (a0 : Int) : Option (ByteArray) := if a0 = 0 then (some (⟨#[48]⟩ : ByteArray)) else (spec_l4Digits.l0 k a0 (⟨#[]⟩ : ByteArray))
theorem spec_l4Digits.calls (k : Nat) (a0 : Int) (r : ByteArray) (w : World) (h : spec_l4Digits.f k a0 = some r) :
  Calls Try.prog 133 #[.int .i64 a0] w fun e w' => e = .returned (.string r) ∧ Below w.heap.size w w' := by
 have HB := am (Below.refl w.heap.size w)
 have H : (if a0 = 0 then (some (⟨#[48]⟩ : ByteArray)) else (spec_l4Digits.l0 k a0 (⟨#[]⟩ : ByteArray))) = some r := h
 clear h
 by_cases c2 : a0 = 0
 ·rw [if_pos c2] at H
  have c2b0 : (a0 == 0) = true := beq_iff_eq.mpr c2
  have c2b1 : (a0 != 0) = false := bne_eq_false_iff_eq.mpr c2
  clear c2
  obtain rfl := oj H
  go_enter Try.func133, Try.ntmps133
  go_wp2
  go_ret
  exact ⟨rt, bw HB.out⟩
 ·rw [if_neg c2] at H
  have c2b0 : (a0 == 0) = false := beq_eq_false_iff_ne.mpr c2
  have c2b1 : (a0 != 0) = true := bne_iff_ne.mpr c2
  have H' := am H
  clear H
  go_enter Try.func133, Try.ntmps133
  go_wp2
  go_loopg [0, 3] k (fun kq v0 v3 w' => ∃ (x0_1 : Int) (x3_1 : ByteArray), v0 = .int .i64 x0_1 ∧ v3 = .string x3_1 ∧ Aside0 (spec_l4Digits.l0 kq x0_1 x3_1 = some r) ∧ Aside0 (kq ≤ k) ∧ Aside0 (Below w.heap.size w w'))
  case atStart => exact ⟨(a0), ((⟨#[]⟩ : ByteArray)), (by first | rfl | (simp; done) | (simp [*]; done)), (by first | rfl | (simp; done) | (simp [*]; done)), H', ⟨Nat.le_refl _⟩, ⟨bw HB.out⟩⟩
  case round =>
   clear H'
   (try clear c1); (try clear c2); (try clear c2b0); (try clear c2b1); (try clear p2)
   obtain ⟨x0_1, x3_1, rfl, rfl, HA, HK1, HB⟩ := hrel
   cases gk with
   | zero => exact absurd HA.out (by simp [spec_l4Digits.l0])
   | succ k1 =>
    have H := HA.out
    clear HA
    simp only [spec_l4Digits.l0] at H
    by_cases c3 : x0_1 > 0
    ·rw [if_pos c3] at H
     have c3b0 : decide (0 < x0_1) = true := decide_eq_true c3
     clear c3
     obtain ⟨y155, hy155⟩ : ∃ y_ : List Int, y_ = (([(wrap64 (48 + (Int.tmod x0_1 10))) % 256] : List Int)) := ⟨_, rfl⟩
     replace H : (if (strOfNums y155).size + x3_1.size ≤ 9223372036854775807 then (spec_l4Digits.l0 k1 (wrap64 (Int.tdiv x0_1 10)) ((strOfNums y155) ++ x3_1)) else (none)) = some r := by first | (rw [hy155]; with_reducible exact H) | (have H2_ := (Option.bind_some _ _).symm.trans H; rw [hy155]; with_reducible exact H2_) | (have H2_ := (Option.bind_some _ _).symm.trans H; with_reducible exact H2_) | with_reducible exact H | (rw [hy155]; exact H) | exact H
     have Ny155 := am hy155
     clear hy155
     by_cases c4 : (strOfNums y155).size + x3_1.size ≤ 9223372036854775807
     ·rw [if_pos c4] at H
      have c4b0 := eq_true c4
      have c4b1 : decide ((strOfNums y155).size + x3_1.size ≤ 9223372036854775807) = true := decide_eq_true c4
      try have c4b2 : (9223372036854775807 < (strOfNums y155).size + x3_1.size) = False := eq_false (Nat.not_lt.2 c4)
      have H' := am H
      clear H
      go_wp2_with (first | ((with_reducible refine gd 12 ?_); refine Kd.R_lit (Kd.int .u8) _ 5 ?hg (N := 12) ?hd (xs := ([(wrap64 (48 + (Int.tmod x0_1 10))) % 256] : List Int)) (inner := [.int .u8 ((wrap64 (48 + (Int.tmod x0_1 10))) % 256)]) (ok := fun _ => True) (okp := fun _ => True) ?hr ?hp (fun _ hk => hk) trivial (Below.refl _ _) (Nat.le_refl _) (by simp) ?_; (case hd => rfl); (case hg => rfl); (case hr => first | (go_simp; done) | (go_simp; rfl)); (case hp => exact (reI _)); intro v156 w5 ho6 hb hg_ hnew_; clear hg_ hnew_; (first | rw [← Ny155.out] at ho6 | (simp only [Int.reduceToNat] at ho6; rw [← Ny155.out] at ho6)); have HO157 := am (Kd.R_lower ho6 (below_size (bw HB.out))); replace HB := am (below_step (bw HB.out) hb); clear hb ho6; have hcv7 := own_string (P := Try.prog) Try.underlying22 Try.underlying5 Try.underlying9 (Kd.own_of_R HO157.out)))
      go_roundg k1
      case measure => have := HK1.out; omega
      case rel => exact ⟨(wrap64 (Int.tdiv x0_1 10)), ((strOfNums y155) ++ x3_1), (by first | rfl | (simp; done) | (simp [*]; done)), (by first | rfl | (simp; done) | (simp [*]; done)), H', ⟨by have := HK1.out; omega⟩, ⟨bw HB.out⟩⟩
     ·rw [if_neg c4] at H
      exact absurd H (by simp)
    ·rw [if_neg c3] at H
     have c3b0 : decide (0 < x0_1) = false := decide_eq_false c3
     clear c3
     obtain rfl := oj H
     go_wp2
     go_ret
     exact ⟨rt, bw HB.out⟩

/-! ### spec_l4Num: function 131 -/
mutual
def spec_l4Num.j0 : Nat → ByteArray → Bool → Option (Int)
 | 0, _, _ => none
 | k + 1, x0, x11 => if x11 = true then (some (-1)) else (spec_l4Num.l0 k x0 0 0)
def spec_l4Num.l0 : Nat → ByteArray → Int → Int → Option (Int)
 | 0, _, _, _ => none
 | k + 1, x0, x3, x4 => if x4 < (x0.size : Int) then (if 0 ≤ x4 then (if (bt x0 x4) < 48 then (some (-1)) else (if (bt x0 x4) > 57 then (some (-1)) else (spec_l4Num.l0 k x0 (wrap64 ((wrap64 ((wrap64 (10 * x3)) + (wrap64 (bt x0 x4)))) - 48)) (wrap64 (x4 + 1))))) else (none)) else ((spec_l4Digits.f k x3).bind fun t158 => (if t158.toList = x0.toList then (some x3) else (some (-1))))
end
def spec_l4Num.f (k : Nat) (a0 : ByteArray) : Option (Int) := if a0.toList = ([] : List UInt8) then (spec_l4Num.j0 k a0 true) else (spec_l4Num.j0 k a0 (decide ((a0.size : Int) > 5)))
theorem spec_l4Num.calls (k : Nat) (a0 : ByteArray) (r : Int) (w : World) (h : spec_l4Num.f k a0 = some r) :
  Calls Try.prog 131 #[.string a0] w fun e w' => e = .returned (.int .i64 r) ∧ Below w.heap.size w w' := by
 have HB := am (Below.refl w.heap.size w)
 have H : (if a0.toList = ([] : List UInt8) then (spec_l4Num.j0 k a0 true) else (spec_l4Num.j0 k a0 (decide ((a0.size : Int) > 5)))) = some r := h
 clear h
 have HC2 := am H
 clear H
 go_enter Try.func131, Try.ntmps131
 go_upto_region 1 with (fail)
 go_cut [11] (fun v11 wc => ∃ (kq : Nat) (x11_1 : Bool), v11 = .bool x11_1 ∧ Aside0 (spec_l4Num.j0 kq a0 x11_1 = some r) ∧ Aside0 (kq ≤ k) ∧ Aside0 (Below w.heap.size w wc))
 case first =>
  have H := HC2.out
  clear HC2
  by_cases c3 : a0.toList = ([] : List UInt8)
  ·rw [if_pos c3] at H
   have c3b0 : (a0.toList == ([] : List UInt8)) = true := beq_iff_eq.mpr c3
   have c3b1 : (a0.toList != ([] : List UInt8)) = false := bne_eq_false_iff_eq.mpr c3
   clear c3
   (first | rw [c3b0] | (simp only [i64_w, i32_w]; rw [c3b0]) | skip)
   have H' := am H
   clear H
   go_wp2
   go_meet
   case rel => exact ⟨_, (true), (by first | rfl | (simp; done) | (simp [*]; done)), H', ⟨by first | omega | exact Nat.le_refl _⟩, ⟨bw HB.out⟩⟩
  ·rw [if_neg c3] at H
   have c3b0 : (a0.toList == ([] : List UInt8)) = false := beq_eq_false_iff_ne.mpr c3
   have c3b1 : (a0.toList != ([] : List UInt8)) = true := bne_iff_ne.mpr c3
   (first | rw [c3b0] | (simp only [i64_w, i32_w]; rw [c3b0]) | skip)
   have H' := am H
   clear H
   go_wp2
   go_meet
   case rel => exact ⟨_, (decide ((a0.size : Int) > 5)), (by first | rfl | (simp; done) | (simp [*]; done)), H', ⟨by first | omega | exact Nat.le_refl _⟩, ⟨bw HB.out⟩⟩
 case rest =>
  clear HC2; (try clear c1); (try clear p2); (try clear c3); (try clear c3b0); (try clear c3b1)
  obtain ⟨kq, x11_1, rfl, HA, HJ1, HB⟩ := hcut
  cases kq with
  | zero => exact absurd HA.out (by simp [spec_l4Num.j0])
  | succ kj1 =>
   have H := HA.out
   clear HA
   simp only [spec_l4Num.j0] at H
   by_cases c4 : x11_1 = true
   ·subst c4
    have H1 : (some (-1)) = some r := by rw [if_pos rfl] at H; exact H
    clear H
    have H := H1
    clear H1
    obtain rfl := oj H
    go_wp2
    go_ret
    exact ⟨rt, bw HB.out⟩
   ·replace c4 := Bool.eq_false_iff.mpr c4
    subst c4
    have H1 : (spec_l4Num.l0 kj1 a0 0 0) = some r := by rw [if_neg (show ¬ (false = true) by decide)] at H; exact H
    clear H
    have H := H1
    clear H1
    have H' := am H
    clear H
    go_wp2
    go_loopg [3, 4] kj1 (fun kq v3 v4 w' => ∃ (x3_2 : Int) (x4_2 : Int), v3 = .int .i64 x3_2 ∧ v4 = .int .i64 x4_2 ∧ Aside0 (spec_l4Num.l0 kq a0 x3_2 x4_2 = some r) ∧ Aside0 (kq ≤ kj1) ∧ Aside0 (Below w.heap.size w w'))
    case atStart => exact ⟨(0), (0), (by first | rfl | (simp; done) | (simp [*]; done)), (by first | rfl | (simp; done) | (simp [*]; done)), H', ⟨Nat.le_refl _⟩, ⟨bw HB.out⟩⟩
    case round =>
     clear H'
     (try clear c1); (try clear p2); (try clear c3); (try clear c3b0); (try clear c3b1); (try clear c4); (try clear p2)
     obtain ⟨x3_2, x4_2, rfl, rfl, HA, HK2, HB⟩ := hrel
     cases gk with
     | zero => exact absurd HA.out (by simp [spec_l4Num.l0])
     | succ k2 =>
      have H := HA.out
      clear HA
      simp only [spec_l4Num.l0] at H
      by_cases c5 : x4_2 < (a0.size : Int)
      ·rw [if_pos c5] at H
       have c5b0 : decide (x4_2 < (a0.size : Int)) = true := decide_eq_true c5
       clear c5
       by_cases c6 : 0 ≤ x4_2
       ·rw [if_pos c6] at H
        have c6b0 : decide (0 ≤ x4_2) = true := decide_eq_true c6
        clear c6
        by_cases c8 : (bt a0 x4_2) < 48
        ·rw [if_pos c8] at H
         have c8b0 : decide ((bt a0 x4_2) < 48) = true := decide_eq_true c8
         clear c8
         obtain rfl := oj H
         have p7 : 0 ≤ (x4_2 : Int) := dt
         have q7 : x4_2 < (a0.size : Int) := dt
         have hx7 := bt_at a0 x4_2
         replace p7 := eq_true p7
         replace q7 := eq_true q7
         go_wp2
         go_ret
         exact ⟨rt, bw HB.out⟩
        ·rw [if_neg c8] at H
         have c8b0 : decide ((bt a0 x4_2) < 48) = false := decide_eq_false c8
         clear c8
         by_cases c10 : (bt a0 x4_2) > 57
         ·rw [if_pos c10] at H
          have c10b0 : decide (57 < (bt a0 x4_2)) = true := decide_eq_true c10
          clear c10
          obtain rfl := oj H
          have p7 : 0 ≤ (x4_2 : Int) := dt
          have q7 : x4_2 < (a0.size : Int) := dt
          have hx7 := bt_at a0 x4_2
          replace p7 := eq_true p7
          replace q7 := eq_true q7
          have p9 : 0 ≤ (x4_2 : Int) := dt
          have q9 : x4_2 < (a0.size : Int) := dt
          have hx9 := bt_at a0 x4_2
          replace p9 := eq_true p9
          replace q9 := eq_true q9
          go_wp2
          go_ret
          exact ⟨rt, bw HB.out⟩
         ·rw [if_neg c10] at H
          have c10b0 : decide (57 < (bt a0 x4_2)) = false := decide_eq_false c10
          clear c10
          have H' := am H
          clear H
          have p7 : 0 ≤ (x4_2 : Int) := dt
          have q7 : x4_2 < (a0.size : Int) := dt
          have hx7 := bt_at a0 x4_2
          replace p7 := eq_true p7
          replace q7 := eq_true q7
          have p9 : 0 ≤ (x4_2 : Int) := dt
          have q9 : x4_2 < (a0.size : Int) := dt
          have hx9 := bt_at a0 x4_2
          replace p9 := eq_true p9
          replace q9 := eq_true q9
          have p11 : 0 ≤ (x4_2 : Int) := dt
          have q11 : x4_2 < (a0.size : Int) := dt
          have hx11 := bt_at a0 x4_2
          replace p11 := eq_true p11
          replace q11 := eq_true q11
          go_wp2
          go_roundg k2
          case measure => have := HJ1.out; have := HK2.out; omega
          case rel => exact ⟨(wrap64 ((wrap64 ((wrap64 (10 * x3_2)) + (wrap64 (bt a0 x4_2)))) - 48)), (wrap64 (x4_2 + 1)), (by first | rfl | (simp; done) | (simp [*]; done)), (by first | rfl | (simp; done) | (simp [*]; done)), H', ⟨by have := HJ1.out; have := HK2.out; omega⟩, ⟨bw HB.out⟩⟩
       ·rw [if_neg c6] at H
        exact absurd H (by simp)
      ·rw [if_neg c5] at H
       have c5b0 : decide (x4_2 < (a0.size : Int)) = false := decide_eq_false c5
       clear c5
       replace H := bs H
       obtain ⟨t158, A120, H⟩ := H
       replace H : (if t158.toList = a0.toList then (some x3_2) else (some (-1))) = some r := H
       have A12 := am A120
       clear A120
       by_cases c13 : t158.toList = a0.toList
       ·rw [if_pos c13] at H
        have c13b0 : (t158.toList == a0.toList) = true := beq_iff_eq.mpr c13
        have c13b1 : (t158.toList != a0.toList) = false := bne_eq_false_iff_eq.mpr c13
        clear c13
        obtain rfl := oj H
        go_wp2_with (first | ((with_reducible refine gate_callee (f := 133) rfl ?_); refine goesM_ (some 37) rfl rfl Try.func133 #[.int .i64 x3_2] ?_; (with_reducible refine (spec_l4Digits.calls k2 x3_2 t158 _ A12.out).mono ?_); rintro e w14 ⟨rfl, hb⟩; refine ⟨_, rfl, ?_⟩; replace HB := am (below_step (bw HB.out) hb); (try clear hb); ))
        go_ret
        exact ⟨rt, bw HB.out⟩
       ·rw [if_neg c13] at H
        have c13b0 : (t158.toList == a0.toList) = false := beq_eq_false_iff_ne.mpr c13
        have c13b1 : (t158.toList != a0.toList) = true := bne_iff_ne.mpr c13
        obtain rfl := oj H
        go_wp2_with (first | ((with_reducible refine gate_callee (f := 133) rfl ?_); refine goesM_ (some 37) rfl rfl Try.func133 #[.int .i64 x3_2] ?_; (with_reducible refine (spec_l4Digits.calls k2 x3_2 t158 _ A12.out).mono ?_); rintro e w15 ⟨rfl, hb⟩; refine ⟨_, rfl, ?_⟩; replace HB := am (below_step (bw HB.out) hb); (try clear hb); ))
        go_ret
        exact ⟨rt, bw HB.out⟩

/-! ### spec_l4Line: function 129 -/
def spec_l4Line.l0 : Nat → ByteArray → Int → Option (ByteArray × Int × Bool)
 | 0, _, _ => none
 | k + 1, x0, x5 => if x5 < (x0.size : Int) then (if 0 ≤ x5 then (if (bt x0 x5) = 32 then (if 0 ≤ (wrap64 (x5 + 1)) then (if (wrap64 (x5 + 1)) ≤ (x0.size : Int) then ((spec_l4Num.f k (x0.extract ((wrap64 (x5 + 1)) : Int).toNat x0.size)).bind fun t159 => (if x5 ≤ (x0.size : Int) then (some (x0.extract 0 (x5 : Int).toNat, t159, decide (t159 ≥ 0))) else (none))) else (none)) else (none)) else (spec_l4Line.l0 k x0 (wrap64 (x5 + 1)))) else (none)) else (some (x0, (-1), true))
def spec_l4Line.f (k : Nat) (a0 : ByteArray) : Option (ByteArray × Int × Bool) := spec_l4Line.l0 k a0 0
theorem spec_l4Line.calls (k : Nat) (a0 : ByteArray) (r1 : ByteArray) (r2 : Int) (r3 : Bool) (w : World) (h : spec_l4Line.f k a0 = some (r1, r2, r3)) :
  Calls Try.prog 129 #[.string a0] w fun e w' => e = .returned (.tuple #[.string r1, .int .i64 r2, .bool r3]) ∧ Below w.heap.size w w' := by
 have HB := am (Below.refl w.heap.size w)
 have H : (spec_l4Line.l0 k a0 0) = some (r1, r2, r3) := h
 clear h
 have H' := am H
 clear H
 go_enter Try.func129, Try.ntmps129
 go_wp2
 go_loopg [5] k (fun kq v5 w' => ∃ (x5_1 : Int), v5 = .int .i64 x5_1 ∧ Aside0 (spec_l4Line.l0 kq a0 x5_1 = some (r1, r2, r3)) ∧ Aside0 (kq ≤ k) ∧ Aside0 (Below w.heap.size w w'))
 case atStart => exact ⟨(0), (by first | rfl | (simp; done) | (simp [*]; done)), H', ⟨Nat.le_refl _⟩, ⟨bw HB.out⟩⟩
 case round =>
  clear H'
  (try clear c1)
  obtain ⟨x5_1, rfl, HA, HK1, HB⟩ := hrel
  cases gk with
  | zero => exact absurd HA.out (by simp [spec_l4Line.l0])
  | succ k1 =>
   have H := HA.out
   clear HA
   simp only [spec_l4Line.l0] at H
   by_cases c2 : x5_1 < (a0.size : Int)
   ·rw [if_pos c2] at H
    have c2b0 : decide (x5_1 < (a0.size : Int)) = true := decide_eq_true c2
    clear c2
    by_cases c3 : 0 ≤ x5_1
    ·rw [if_pos c3] at H
     have c3b0 : decide (0 ≤ x5_1) = true := decide_eq_true c3
     clear c3
     by_cases c5 : (bt a0 x5_1) = 32
     ·rw [if_pos c5] at H
      have c5b0 : ((bt a0 x5_1) == 32) = true := beq_iff_eq.mpr c5
      have c5b1 : ((bt a0 x5_1) != 32) = false := bne_eq_false_iff_eq.mpr c5
      clear c5
      obtain ⟨ji6, hji6⟩ : ∃ j_ : Int, (wrap64 (x5_1 + 1)) = j_ := ⟨_, rfl⟩
      replace H : (if 0 ≤ (ji6) then (if (ji6) ≤ (a0.size : Int) then ((spec_l4Num.f k1 (a0.extract ((ji6) : Int).toNat a0.size)).bind fun t159 => (if x5_1 ≤ (a0.size : Int) then (some (a0.extract 0 (x5_1 : Int).toNat, t159, decide (t159 ≥ 0))) else (none))) else (none)) else (none)) = some (r1, r2, r3) := by first | (rw [hji6] at H; exact H) | (simp only [hji6] at H ⊢; exact H)
      have hji6w : (IntKind.i64.wrap (x5_1 + 1)) = ji6 := (i64_w _).trans hji6
      by_cases c7 : 0 ≤ (ji6)
      ·rw [if_pos c7] at H
       have c7b0 := eq_true c7
       have c7b1 : decide (0 ≤ (ji6)) = true := decide_eq_true c7
       clear c7
       by_cases c8 : (ji6) ≤ (a0.size : Int)
       ·rw [if_pos c8] at H
        have c8b0 := eq_true c8
        have c8b1 : decide ((ji6) ≤ (a0.size : Int)) = true := decide_eq_true c8
        clear c8
        replace H := bs H
        obtain ⟨t159, A90, H⟩ := H
        replace H : (if x5_1 ≤ (a0.size : Int) then (some (a0.extract 0 (x5_1 : Int).toNat, t159, decide (t159 ≥ 0))) else (none)) = some (r1, r2, r3) := H
        have A9 := am A90
        clear A90
        have c10b0 := eq_true (dt : 0 ≤ x5_1)
        by_cases c11 : x5_1 ≤ (a0.size : Int)
        ·rw [if_pos c11] at H
         have c11b0 := eq_true c11
         have c11b1 : decide (x5_1 ≤ (a0.size : Int)) = true := decide_eq_true c11
         clear c11
         simp only [Option.some.injEq, Prod.mk.injEq] at H
         obtain ⟨rfl, rfl, rfl⟩ := H
         have p4 : 0 ≤ (x5_1 : Int) := dt
         have q4 : x5_1 < (a0.size : Int) := dt
         have hx4 := bt_at a0 x5_1
         replace p4 := eq_true p4
         replace q4 := eq_true q4
         go_wp2_with (first | ((with_reducible refine gate_callee (f := 131) rfl ?_); refine goesL_ (some 21) rfl rfl Try.func131 (by kernel_rfl) rfl #[.string (a0.extract ((ji6) : Int).toNat a0.size)] rfl (by (try simp only [List.map_toArray, List.map_cons, List.map_nil]); first | done | (simp only [hji6]; rfl) | rfl | (simp only [List.length_drop, List.length_take]; rfl)) ?_; (with_reducible refine (spec_l4Num.calls k1 (a0.extract ((ji6) : Int).toNat a0.size) t159 _ A9.out).mono ?_); rintro e w12 ⟨rfl, hb⟩; refine ⟨_, rfl, ?_⟩; replace HB := am (below_step (bw HB.out) hb); (try clear hb); ))
         go_ret3
         exact ⟨by first | rfl | (simp [errW_none, errW_some] <;> rfl) | (simp only [← hji6]; first | rfl | (simp [errW_none, errW_some] <;> rfl)) | (simp [*, errW_none, errW_some] <;> rfl), bw HB.out⟩
        ·rw [if_neg c11] at H
         exact absurd H (by simp)
       ·rw [if_neg c8] at H
        exact absurd H (by simp)
      ·rw [if_neg c7] at H
       exact absurd H (by simp)
     ·rw [if_neg c5] at H
      have c5b0 : ((bt a0 x5_1) == 32) = false := beq_eq_false_iff_ne.mpr c5
      have c5b1 : ((bt a0 x5_1) != 32) = true := bne_iff_ne.mpr c5
      have H' := am H
      clear H
      have p4 : 0 ≤ (x5_1 : Int) := dt
      have q4 : x5_1 < (a0.size : Int) := dt
      have hx4 := bt_at a0 x5_1
      replace p4 := eq_true p4
      replace q4 := eq_true q4
      go_wp2
      go_roundg k1
      case measure => have := HK1.out; omega
      case rel => exact ⟨(wrap64 (x5_1 + 1)), (by first | rfl | (simp; done) | (simp [*]; done)), H', ⟨by have := HK1.out; omega⟩, ⟨bw HB.out⟩⟩
    ·rw [if_neg c3] at H
     exact absurd H (by simp)
   ·rw [if_neg c2] at H
    have c2b0 : decide (x5_1 < (a0.size : Int)) = false := decide_eq_false c2
    clear c2
    simp only [Option.some.injEq, Prod.mk.injEq] at H
    obtain ⟨rfl, rfl, rfl⟩ := H
    go_wp2
    go_ret3
    exact ⟨rt, bw HB.out⟩

/-! ### spec_l3Names: function 132 -/
def spec_l3Names.f  : Option (List ByteArray) := some (([(⟨#[110, 111, 112]⟩ : ByteArray), (⟨#[108, 100, 105]⟩ : ByteArray), (⟨#[108, 100, 97]⟩ : ByteArray), (⟨#[115, 116, 97]⟩ : ByteArray), (⟨#[97, 100, 105]⟩ : ByteArray), (⟨#[115, 98, 105]⟩ : ByteArray), (⟨#[97, 110, 105]⟩ : ByteArray), (⟨#[111, 114, 105]⟩ : ByteArray), (⟨#[120, 114, 105]⟩ : ByteArray), (⟨#[99, 112, 105]⟩ : ByteArray), (⟨#[116, 97, 120]⟩ : ByteArray), (⟨#[116, 120, 97]⟩ : ByteArray), (⟨#[105, 110, 120]⟩ : ByteArray), (⟨#[100, 101, 120]⟩ : ByteArray), (⟨#[108, 97, 120]⟩ : ByteArray), (⟨#[115, 97, 120]⟩ : ByteArray), (⟨#[98, 110, 101]⟩ : ByteArray), (⟨#[98, 101, 113]⟩ : ByteArray), (⟨#[98, 99, 115]⟩ : ByteArray), (⟨#[106, 109, 112]⟩ : ByteArray), (⟨#[106, 115, 114]⟩ : ByteArray), (⟨#[114, 116, 115]⟩ : ByteArray), (⟨#[112, 104, 97]⟩ : ByteArray), (⟨#[112, 108, 97]⟩ : ByteArray), (⟨#[114, 116, 105]⟩ : ByteArray), (⟨#[115, 101, 105]⟩ : ByteArray), (⟨#[99, 108, 105]⟩ : ByteArray), (⟨#[115, 101, 99]⟩ : ByteArray), (⟨#[99, 108, 99]⟩ : ByteArray), (⟨#[97, 100, 97]⟩ : ByteArray)] : List ByteArray))
theorem spec_l3Names.calls  (r : List ByteArray) (w : World) (h : spec_l3Names.f  = some r) :
  Calls Try.prog 132 #[] w fun e w' => ∃ v0_ : Value, e = .returned (v0_) ∧ Kd.R Kd.string 9 w' w.heap.size (fun _ => True) v0_ r ∧ Below w.heap.size w w' := by
 have HB := am (Below.refl w.heap.size w)
 have H : (some (([(⟨#[110, 111, 112]⟩ : ByteArray), (⟨#[108, 100, 105]⟩ : ByteArray), (⟨#[108, 100, 97]⟩ : ByteArray), (⟨#[115, 116, 97]⟩ : ByteArray), (⟨#[97, 100, 105]⟩ : ByteArray), (⟨#[115, 98, 105]⟩ : ByteArray), (⟨#[97, 110, 105]⟩ : ByteArray), (⟨#[111, 114, 105]⟩ : ByteArray), (⟨#[120, 114, 105]⟩ : ByteArray), (⟨#[99, 112, 105]⟩ : ByteArray), (⟨#[116, 97, 120]⟩ : ByteArray), (⟨#[116, 120, 97]⟩ : ByteArray), (⟨#[105, 110, 120]⟩ : ByteArray), (⟨#[100, 101, 120]⟩ : ByteArray), (⟨#[108, 97, 120]⟩ : ByteArray), (⟨#[115, 97, 120]⟩ : ByteArray), (⟨#[98, 110, 101]⟩ : ByteArray), (⟨#[98, 101, 113]⟩ : ByteArray), (⟨#[98, 99, 115]⟩ : ByteArray), (⟨#[106, 109, 112]⟩ : ByteArray), (⟨#[106, 115, 114]⟩ : ByteArray), (⟨#[114, 116, 115]⟩ : ByteArray), (⟨#[112, 104, 97]⟩ : ByteArray), (⟨#[112, 108, 97]⟩ : ByteArray), (⟨#[114, 116, 105]⟩ : ByteArray), (⟨#[115, 101, 105]⟩ : ByteArray), (⟨#[99, 108, 105]⟩ : ByteArray), (⟨#[115, 101, 99]⟩ : ByteArray), (⟨#[99, 108, 99]⟩ : ByteArray), (⟨#[97, 100, 97]⟩ : ByteArray)] : List ByteArray))) = some r := h
 clear h
 obtain ⟨y160, hy160⟩ : ∃ y_ : List ByteArray, y_ = (([(⟨#[110, 111, 112]⟩ : ByteArray), (⟨#[108, 100, 105]⟩ : ByteArray), (⟨#[108, 100, 97]⟩ : ByteArray), (⟨#[115, 116, 97]⟩ : ByteArray), (⟨#[97, 100, 105]⟩ : ByteArray), (⟨#[115, 98, 105]⟩ : ByteArray), (⟨#[97, 110, 105]⟩ : ByteArray), (⟨#[111, 114, 105]⟩ : ByteArray), (⟨#[120, 114, 105]⟩ : ByteArray), (⟨#[99, 112, 105]⟩ : ByteArray), (⟨#[116, 97, 120]⟩ : ByteArray), (⟨#[116, 120, 97]⟩ : ByteArray), (⟨#[105, 110, 120]⟩ : ByteArray), (⟨#[100, 101, 120]⟩ : ByteArray), (⟨#[108, 97, 120]⟩ : ByteArray), (⟨#[115, 97, 120]⟩ : ByteArray), (⟨#[98, 110, 101]⟩ : ByteArray), (⟨#[98, 101, 113]⟩ : ByteArray), (⟨#[98, 99, 115]⟩ : ByteArray), (⟨#[106, 109, 112]⟩ : ByteArray), (⟨#[106, 115, 114]⟩ : ByteArray), (⟨#[114, 116, 115]⟩ : ByteArray), (⟨#[112, 104, 97]⟩ : ByteArray), (⟨#[112, 108, 97]⟩ : ByteArray), (⟨#[114, 116, 105]⟩ : ByteArray), (⟨#[115, 101, 105]⟩ : ByteArray), (⟨#[99, 108, 105]⟩ : ByteArray), (⟨#[115, 101, 99]⟩ : ByteArray), (⟨#[99, 108, 99]⟩ : ByteArray), (⟨#[97, 100, 97]⟩ : ByteArray)] : List ByteArray)) := ⟨_, rfl⟩
 replace H : (some y160) = some r := by first | (rw [hy160]; with_reducible exact H) | (have H2_ := (Option.bind_some _ _).symm.trans H; rw [hy160]; with_reducible exact H2_) | (have H2_ := (Option.bind_some _ _).symm.trans H; with_reducible exact H2_) | with_reducible exact H | (rw [hy160]; exact H) | exact H
 have Ny160 := am hy160
 clear hy160
 obtain rfl := oj H
 go_enter Try.func132, Try.ntmps132
 go_wp2_with (first | ((with_reducible refine gd 1 ?_); refine Kd.R_lit Kd.string _ 9 ?hg (N := 1) ?hd (xs := ([(⟨#[110, 111, 112]⟩ : ByteArray), (⟨#[108, 100, 105]⟩ : ByteArray), (⟨#[108, 100, 97]⟩ : ByteArray), (⟨#[115, 116, 97]⟩ : ByteArray), (⟨#[97, 100, 105]⟩ : ByteArray), (⟨#[115, 98, 105]⟩ : ByteArray), (⟨#[97, 110, 105]⟩ : ByteArray), (⟨#[111, 114, 105]⟩ : ByteArray), (⟨#[120, 114, 105]⟩ : ByteArray), (⟨#[99, 112, 105]⟩ : ByteArray), (⟨#[116, 97, 120]⟩ : ByteArray), (⟨#[116, 120, 97]⟩ : ByteArray), (⟨#[105, 110, 120]⟩ : ByteArray), (⟨#[100, 101, 120]⟩ : ByteArray), (⟨#[108, 97, 120]⟩ : ByteArray), (⟨#[115, 97, 120]⟩ : ByteArray), (⟨#[98, 110, 101]⟩ : ByteArray), (⟨#[98, 101, 113]⟩ : ByteArray), (⟨#[98, 99, 115]⟩ : ByteArray), (⟨#[106, 109, 112]⟩ : ByteArray), (⟨#[106, 115, 114]⟩ : ByteArray), (⟨#[114, 116, 115]⟩ : ByteArray), (⟨#[112, 104, 97]⟩ : ByteArray), (⟨#[112, 108, 97]⟩ : ByteArray), (⟨#[114, 116, 105]⟩ : ByteArray), (⟨#[115, 101, 105]⟩ : ByteArray), (⟨#[99, 108, 105]⟩ : ByteArray), (⟨#[115, 101, 99]⟩ : ByteArray), (⟨#[99, 108, 99]⟩ : ByteArray), (⟨#[97, 100, 97]⟩ : ByteArray)] : List ByteArray)) (inner := [.string (⟨#[110, 111, 112]⟩ : ByteArray), .string (⟨#[108, 100, 105]⟩ : ByteArray), .string (⟨#[108, 100, 97]⟩ : ByteArray), .string (⟨#[115, 116, 97]⟩ : ByteArray), .string (⟨#[97, 100, 105]⟩ : ByteArray), .string (⟨#[115, 98, 105]⟩ : ByteArray), .string (⟨#[97, 110, 105]⟩ : ByteArray), .string (⟨#[111, 114, 105]⟩ : ByteArray), .string (⟨#[120, 114, 105]⟩ : ByteArray), .string (⟨#[99, 112, 105]⟩ : ByteArray), .string (⟨#[116, 97, 120]⟩ : ByteArray), .string (⟨#[116, 120, 97]⟩ : ByteArray), .string (⟨#[105, 110, 120]⟩ : ByteArray), .string (⟨#[100, 101, 120]⟩ : ByteArray), .string (⟨#[108, 97, 120]⟩ : ByteArray), .string (⟨#[115, 97, 120]⟩ : ByteArray), .string (⟨#[98, 110, 101]⟩ : ByteArray), .string (⟨#[98, 101, 113]⟩ : ByteArray), .string (⟨#[98, 99, 115]⟩ : ByteArray), .string (⟨#[106, 109, 112]⟩ : ByteArray), .string (⟨#[106, 115, 114]⟩ : ByteArray), .string (⟨#[114, 116, 115]⟩ : ByteArray), .string (⟨#[112, 104, 97]⟩ : ByteArray), .string (⟨#[112, 108, 97]⟩ : ByteArray), .string (⟨#[114, 116, 105]⟩ : ByteArray), .string (⟨#[115, 101, 105]⟩ : ByteArray), .string (⟨#[99, 108, 105]⟩ : ByteArray), .string (⟨#[115, 101, 99]⟩ : ByteArray), .string (⟨#[99, 108, 99]⟩ : ByteArray), .string (⟨#[97, 100, 97]⟩ : ByteArray)]) (ok := fun _ => True) (okp := fun _ => True) ?hr ?hp (fun _ hk => hk) trivial (Below.refl _ _) (Nat.le_refl _) (by simp) ?_; (case hd => rfl); (case hg => rfl); (case hr => first | (go_simp; done) | (go_simp; rfl)); (case hp => exact (reS _)); intro v161 w1 ho2 hb hg_ hnew_; clear hg_ hnew_; (first | rw [← Ny160.out] at ho2 | (simp only [Int.reduceToNat] at ho2; rw [← Ny160.out] at ho2)); have HO162 := am (Kd.R_lower ho2 (below_size (bw HB.out))); replace HB := am (below_step (bw HB.out) hb); clear hb ho2))
 go_ret
 exact ⟨_, rt, kr HO162.out, bw HB.out⟩

/-! ### spec_OpOf: function 130 -/
def spec_OpOf.l0 : Nat → ByteArray → List ByteArray → Int → Option (Int)
 | 0, _, _, _ => none
 | k + 1, x0, x3, x4 => if x4 < (x3.length : Int) then (if 0 ≤ x4 then (if (rdOf ByteArray.empty x3 x4).toList = x0.toList then (some x4) else (spec_OpOf.l0 k x0 x3 (wrap64 (x4 + 1)))) else (none)) else (some (-1))
def spec_OpOf.f (k : Nat) (a0 : ByteArray) : Option (Int) := (spec_l3Names.f).bind fun t163 => (spec_OpOf.l0 k a0 t163 0)
theorem spec_OpOf.calls (k : Nat) (a0 : ByteArray) (r : Int) (w : World) (h : spec_OpOf.f k a0 = some r) :
  Calls Try.prog 130 #[.string a0] w fun e w' => e = .returned (.int .i64 r) ∧ Below w.heap.size w w' := by
 have HB := am (Below.refl w.heap.size w)
 have H : ((spec_l3Names.f).bind fun t163 => (spec_OpOf.l0 k a0 t163 0)) = some r := h
 clear h
 replace H := bs H
 obtain ⟨t163, A20, H⟩ := H
 replace H : (spec_OpOf.l0 k a0 t163 0) = some r := H
 have A2 := am A20
 clear A20
 have H' := am H
 clear H
 go_enter Try.func130, Try.ntmps130
 go_wp2_with (first | ((with_reducible refine gate_callee (f := 132) rfl ?_); refine goesM_ (some 5) rfl rfl Try.func132 #[] ?_; (with_reducible refine (spec_l3Names.calls  t163 _ A2.out).mono ?_); rintro e w3 ⟨v164, rfl, ho0, hb⟩; refine ⟨_, rfl, ?_⟩; have HO165 := am (Kd.R_lower ho0 (below_size (bw HB.out))); replace HB := am (below_step (bw HB.out) hb); (try clear hb); (try clear ho0)))
 go_loopg [4] k (fun kq v4 w' => ∃ (x4_1 : Int), v4 = .int .i64 x4_1 ∧ Aside0 (spec_OpOf.l0 kq a0 t163 x4_1 = some r) ∧ Aside0 (kq ≤ k) ∧ Aside0 (Kd.R Kd.string 9 w' w.heap.size (fun _ => True) v164 t163) ∧ Aside0 (Below w.heap.size w w'))
 case atStart => exact ⟨(0), (by first | rfl | (simp; done) | (simp [*]; done)), H', ⟨Nat.le_refl _⟩, ⟨kr HO165.out⟩, ⟨bw HB.out⟩⟩
 case round =>
  clear H'
  (try clear c1); (try clear p2)
  obtain ⟨x4_1, rfl, HA, HK1, HO_3, HB⟩ := hrel
  cases gk with
  | zero => exact absurd HA.out (by simp [spec_OpOf.l0])
  | succ k1 =>
   have H := HA.out
   clear HA
   simp only [spec_OpOf.l0] at H
   by_cases c4 : x4_1 < (t163.length : Int)
   ·rw [if_pos c4] at H
    have c4b0 : decide (x4_1 < (t163.length : Int)) = true := decide_eq_true c4
    clear c4
    by_cases c5 : 0 ≤ x4_1
    ·rw [if_pos c5] at H
     have c5b0 : decide (0 ≤ x4_1) = true := decide_eq_true c5
     clear c5
     by_cases c6 : (rdOf ByteArray.empty t163 x4_1).toList = a0.toList
     ·rw [if_pos c6] at H
      have c6b0 : ((rdOf ByteArray.empty t163 x4_1).toList == a0.toList) = true := beq_iff_eq.mpr c6
      have c6b1 : ((rdOf ByteArray.empty t163 x4_1).toList != a0.toList) = false := bne_eq_false_iff_eq.mpr c6
      clear c6
      obtain rfl := oj H
      obtain ⟨Ao7, co7, eo7⟩ := Kd.R_slice HO_3.out
      subst eo7
      have p166 : 0 ≤ (x4_1 : Int) := dt
      have q166 : x4_1 < (t163.length : Int) := dt
      obtain ⟨ad166, e166, hx166_0⟩ := Kd.at_string (Kd.R_reads' HO_3.out).2.2 x4_1 p166 q166
      cases e166
      replace p166 := eq_true p166
      replace q166 := eq_true q166
      go_wp2
      go_ret
      exact ⟨rt, bw HB.out⟩
     ·rw [if_neg c6] at H
      have c6b0 : ((rdOf ByteArray.empty t163 x4_1).toList == a0.toList) = false := beq_eq_false_iff_ne.mpr c6
      have c6b1 : ((rdOf ByteArray.empty t163 x4_1).toList != a0.toList) = true := bne_iff_ne.mpr c6
      have H' := am H
      clear H
      obtain ⟨Ao8, co8, eo8⟩ := Kd.R_slice HO_3.out
      subst eo8
      have p166 : 0 ≤ (x4_1 : Int) := dt
      have q166 : x4_1 < (t163.length : Int) := dt
      obtain ⟨ad166, e166, hx166_0⟩ := Kd.at_string (Kd.R_reads' HO_3.out).2.2 x4_1 p166 q166
      cases e166
      replace p166 := eq_true p166
      replace q166 := eq_true q166
      go_wp2
      go_roundg k1
      case measure => have := HK1.out; omega
      case rel => exact ⟨(wrap64 (x4_1 + 1)), (by first | rfl | (simp; done) | (simp [*]; done)), H', ⟨by have := HK1.out; omega⟩, ⟨kr HO_3.out⟩, ⟨bw HB.out⟩⟩
    ·rw [if_neg c5] at H
     exact absurd H (by simp)
   ·rw [if_neg c4] at H
    have c4b0 : decide (x4_1 < (t163.length : Int)) = false := decide_eq_false c4
    clear c4
    obtain rfl := oj H
    obtain ⟨Ao9, co9, eo9⟩ := Kd.R_slice HO_3.out
    subst eo9
    go_wp2
    go_ret
    exact ⟨rt, bw HB.out⟩

/-! ### spec_l4Bytes: function 118 -/
def spec_l4Bytes.j0 : Nat → ByteArray → Int → Bool → Option (List Int × Int × Bool)
 | 0, _, _, _ => none
 | k + 1, x5, x6, x23 => if x23 = true then ((spec_l1In.f x6 0 255).bind fun t173 => (if t173 = true then (if x5.toList = ([97, 116] : List UInt8) then (some ((([] : List Int)), x6, true)) else (some ((([x6] : List Int)), (-1), true))) else (some ((([] : List Int)), (-1), false)))) else ((spec_OpOf.f k x5).bind fun t183 => (if t183 < 0 then (some ((([] : List Int)), (-1), false)) else ((spec_OpLen.f t183).bind fun t187 => (if t187 = 1 then (some ((([t183] : List Int)), (-1), decide (x6 < 0))) else (if t187 = 2 then ((spec_Byte.f x6).bind fun t191 => ((spec_l1In.f x6 0 255).bind fun t195 => (some ((([t183, t191] : List Int)), (-1), t195)))) else ((spec_Byte.f x6).bind fun t196 => ((spec_Byte.f (x6 / 256)).bind fun t197 => ((spec_l1In.f x6 0 65535).bind fun t201 => (some ((([t183, t196, t197] : List Int)), (-1), t201))))))))))
def spec_l4Bytes.f (k : Nat) (a0 : ByteArray) : Option (List Int × Int × Bool) := (spec_l4Line.f k a0).bind fun bt167 => (if bt167.2.2 = true then (if bt167.1.toList = ([97, 116] : List UInt8) then (spec_l4Bytes.j0 k bt167.1 bt167.2.1 true) else (spec_l4Bytes.j0 k bt167.1 bt167.2.1 (bt167.1.toList == ([98, 121, 116, 101] : List UInt8)))) else (some ((([] : List Int)), (-1), false)))
theorem spec_l4Bytes.calls (k : Nat) (a0 : ByteArray) (r1 : List Int) (r2 : Int) (r3 : Bool) (w : World) (h : spec_l4Bytes.f k a0 = some (r1, r2, r3)) :
  Calls Try.prog 118 #[.string a0] w fun e w' => ∃ v0_ : Value, e = .returned (.tuple #[v0_, .int .i64 r2, .bool r3]) ∧ Kd.R (Kd.int .i64) 3 w' w.heap.size (fun _ => True) v0_ r1 ∧ Below w.heap.size w w' := by
 have HB := am (Below.refl w.heap.size w)
 have H : ((spec_l4Line.f k a0).bind fun bt167 => (if bt167.2.2 = true then (if bt167.1.toList = ([97, 116] : List UInt8) then (spec_l4Bytes.j0 k bt167.1 bt167.2.1 true) else (spec_l4Bytes.j0 k bt167.1 bt167.2.1 (bt167.1.toList == ([98, 121, 116, 101] : List UInt8)))) else (some ((([] : List Int)), (-1), false)))) = some (r1, r2, r3) := h
 clear h
 replace H := bs H
 obtain ⟨⟨t167, t168, t169⟩, A20, H⟩ := H
 replace H : (if t169 = true then (if t167.toList = ([97, 116] : List UInt8) then (spec_l4Bytes.j0 k t167 t168 true) else (spec_l4Bytes.j0 k t167 t168 (t167.toList == ([98, 121, 116, 101] : List UInt8)))) else (some ((([] : List Int)), (-1), false))) = some (r1, r2, r3) := H
 have A2 := am A20
 clear A20
 by_cases c3 : t169 = true
 ·subst c3
  have H1 : (if t167.toList = ([97, 116] : List UInt8) then (spec_l4Bytes.j0 k t167 t168 true) else (spec_l4Bytes.j0 k t167 t168 (t167.toList == ([98, 121, 116, 101] : List UInt8)))) = some (r1, r2, r3) := by rw [if_pos rfl] at H; exact H
  clear H
  have H := H1
  clear H1
  have HC4 := am H
  clear H
  go_enter Try.func118, Try.ntmps118
  go_upto_region 4 with (first | ((with_reducible refine gate_callee (f := 129) rfl ?_); refine goesM_ (some 11) rfl rfl Try.func129 #[.string a0] ?_; (with_reducible refine (spec_l4Line.calls k a0 t167 t168 true _ A2.out).mono ?_); rintro e w5 ⟨rfl, hb⟩; refine ⟨_, rfl, ?_⟩; replace HB := am (below_step (bw HB.out) hb); (try clear hb); (try clear hk); ))
  (try simp only [Act.put, List.setIfInBounds_toArray, List.set_cons_zero, List.set_cons_succ])
  go_cut [23] (fun v23 wc => ∃ (kq : Nat) (x23_3 : Bool), v23 = .bool x23_3 ∧ Aside0 (spec_l4Bytes.j0 kq t167 t168 x23_3 = some (r1, r2, r3)) ∧ Aside0 (kq ≤ k) ∧ Aside0 (Below w.heap.size w wc))
  case first =>
   have H := HC4.out
   clear HC4
   by_cases c6 : t167.toList = ([97, 116] : List UInt8)
   ·rw [if_pos c6] at H
    have c6b0 : (t167.toList == ([97, 116] : List UInt8)) = true := beq_iff_eq.mpr c6
    have c6b1 : (t167.toList != ([97, 116] : List UInt8)) = false := bne_eq_false_iff_eq.mpr c6
    clear c6
    (first | rw [c6b0] | (simp only [i64_w, i32_w]; rw [c6b0]) | skip)
    have H' := am H
    clear H
    go_wp2
    go_meet
    case rel => exact ⟨_, (true), (by first | rfl | (simp; done) | (simp [*]; done)), H', ⟨by first | omega | exact Nat.le_refl _⟩, ⟨bw HB.out⟩⟩
   ·rw [if_neg c6] at H
    have c6b0 : (t167.toList == ([97, 116] : List UInt8)) = false := beq_eq_false_iff_ne.mpr c6
    have c6b1 : (t167.toList != ([97, 116] : List UInt8)) = true := bne_iff_ne.mpr c6
    (first | rw [c6b0] | (simp only [i64_w, i32_w]; rw [c6b0]) | skip)
    have H' := am H
    clear H
    go_wp2
    go_meet
    case rel => exact ⟨_, ((t167.toList == ([98, 121, 116, 101] : List UInt8))), (by first | rfl | (simp; done) | (simp [*]; done)), H', ⟨by first | omega | exact Nat.le_refl _⟩, ⟨bw HB.out⟩⟩
  case rest =>
   clear HC4; (try clear c1); (try clear p2); (try clear c3); (try clear c6); (try clear c6b0); (try clear c6b1)
   obtain ⟨kq, x23_3, rfl, HA, HJ3, HB⟩ := hcut
   cases kq with
   | zero => exact absurd HA.out (by simp [spec_l4Bytes.j0])
   | succ kj3 =>
    have H := HA.out
    clear HA
    simp only [spec_l4Bytes.j0] at H
    by_cases c7 : x23_3 = true
    ·subst c7
     have H1 : ((spec_l1In.f t168 0 255).bind fun t173 => (if t173 = true then (if t167.toList = ([97, 116] : List UInt8) then (some ((([] : List Int)), t168, true)) else (some ((([t168] : List Int)), (-1), true))) else (some ((([] : List Int)), (-1), false)))) = some (r1, r2, r3) := by rw [if_pos rfl] at H; exact H
     clear H
     have H := H1
     clear H1
     replace H := bs H
     obtain ⟨t173, A80, H⟩ := H
     replace H : (if t173 = true then (if t167.toList = ([97, 116] : List UInt8) then (some ((([] : List Int)), t168, true)) else (some ((([t168] : List Int)), (-1), true))) else (some ((([] : List Int)), (-1), false))) = some (r1, r2, r3) := H
     have A8 := am A80
     clear A80
     by_cases c9 : t173 = true
     ·subst c9
      have H1 : (if t167.toList = ([97, 116] : List UInt8) then (some ((([] : List Int)), t168, true)) else (some ((([t168] : List Int)), (-1), true))) = some (r1, r2, r3) := by rw [if_pos rfl] at H; exact H
      clear H
      have H := H1
      clear H1
      by_cases c10 : t167.toList = ([97, 116] : List UInt8)
      ·rw [if_pos c10] at H
       have c10b0 : (t167.toList == ([97, 116] : List UInt8)) = true := beq_iff_eq.mpr c10
       have c10b1 : (t167.toList != ([97, 116] : List UInt8)) = false := bne_eq_false_iff_eq.mpr c10
       clear c10
       obtain ⟨y174, hy174⟩ : ∃ y_ : List Int, y_ = (([] : List Int)) := ⟨_, rfl⟩
       replace H : (some (y174, t168, true)) = some (r1, r2, r3) := by first | (rw [hy174]; with_reducible exact H) | (have H2_ := (Option.bind_some _ _).symm.trans H; rw [hy174]; with_reducible exact H2_) | (have H2_ := (Option.bind_some _ _).symm.trans H; with_reducible exact H2_) | with_reducible exact H | (rw [hy174]; exact H) | exact H
       have Ny174 := am hy174
       clear hy174
       simp only [Option.some.injEq, Prod.mk.injEq] at H
       obtain ⟨rfl, rfl, rfl⟩ := H
       go_wp2_with (first | ((with_reducible refine gate_callee (f := 68) rfl ?_); refine goesM_ (some 25) rfl rfl Try.func68 #[.int .i64 t168, .int .i64 0, .int .i64 255] ?_; (with_reducible refine (spec_l1In.calls t168 0 255 true _ A8.out).mono ?_); rintro e w' ⟨rfl, ⟨nd, rfl⟩⟩; refine ⟨_, rfl, ?_⟩) | ((with_reducible refine gd 30 ?_); refine Kd.R_lit (Kd.int .i64) _ 3 ?hg (N := 30) ?hd (xs := ([] : List Int)) (inner := []) (ok := fun _ => True) (okp := fun _ => True) ?hr ?hp (fun _ hk => hk) trivial (Below.refl _ _) (Nat.le_refl _) (by simp) ?_; (case hd => rfl); (case hg => rfl); (case hr => first | (go_simp; done) | (go_simp; rfl)); (case hp => exact (Reps.none _ _)); intro v175 w11 ho12 hb hg_ hnew_; clear hg_ hnew_; (first | rw [← Ny174.out] at ho12 | (simp only [Int.reduceToNat] at ho12; rw [← Ny174.out] at ho12)); have HO176 := am (Kd.R_lower ho12 (below_size (bw HB.out))); replace HB := am (below_step (bw HB.out) hb); clear hb ho12))
       go_ret3
       exact ⟨_, rt, kr HO176.out, bw HB.out⟩
      ·rw [if_neg c10] at H
       have c10b0 : (t167.toList == ([97, 116] : List UInt8)) = false := beq_eq_false_iff_ne.mpr c10
       have c10b1 : (t167.toList != ([97, 116] : List UInt8)) = true := bne_iff_ne.mpr c10
       obtain ⟨y177, hy177⟩ : ∃ y_ : List Int, y_ = (([t168] : List Int)) := ⟨_, rfl⟩
       replace H : (some (y177, (-1), true)) = some (r1, r2, r3) := by first | (rw [hy177]; with_reducible exact H) | (have H2_ := (Option.bind_some _ _).symm.trans H; rw [hy177]; with_reducible exact H2_) | (have H2_ := (Option.bind_some _ _).symm.trans H; with_reducible exact H2_) | with_reducible exact H | (rw [hy177]; exact H) | exact H
       have Ny177 := am hy177
       clear hy177
       simp only [Option.some.injEq, Prod.mk.injEq] at H
       obtain ⟨rfl, rfl, rfl⟩ := H
       go_wp2_with (first | ((with_reducible refine gate_callee (f := 68) rfl ?_); refine goesM_ (some 25) rfl rfl Try.func68 #[.int .i64 t168, .int .i64 0, .int .i64 255] ?_; (with_reducible refine (spec_l1In.calls t168 0 255 true _ A8.out).mono ?_); rintro e w' ⟨rfl, ⟨nd, rfl⟩⟩; refine ⟨_, rfl, ?_⟩) | ((with_reducible refine gd 33 ?_); refine Kd.R_lit (Kd.int .i64) _ 3 ?hg (N := 33) ?hd (xs := ([t168] : List Int)) (inner := [.int .i64 t168]) (ok := fun _ => True) (okp := fun _ => True) ?hr ?hp (fun _ hk => hk) trivial (Below.refl _ _) (Nat.le_refl _) (by simp) ?_; (case hd => rfl); (case hg => rfl); (case hr => first | (go_simp; done) | (go_simp; rfl)); (case hp => exact (reI _)); intro v178 w13 ho14 hb hg_ hnew_; clear hg_ hnew_; (first | rw [← Ny177.out] at ho14 | (simp only [Int.reduceToNat] at ho14; rw [← Ny177.out] at ho14)); have HO179 := am (Kd.R_lower ho14 (below_size (bw HB.out))); replace HB := am (below_step (bw HB.out) hb); clear hb ho14))
       go_ret3
       exact ⟨_, rt, kr HO179.out, bw HB.out⟩
     ·replace c9 := Bool.eq_false_iff.mpr c9
      subst c9
      have H1 : (some ((([] : List Int)), (-1), false)) = some (r1, r2, r3) := by rw [if_neg (show ¬ (false = true) by decide)] at H; exact H
      clear H
      have H := H1
      clear H1
      obtain ⟨y180, hy180⟩ : ∃ y_ : List Int, y_ = (([] : List Int)) := ⟨_, rfl⟩
      replace H : (some (y180, (-1), false)) = some (r1, r2, r3) := by first | (rw [hy180]; with_reducible exact H) | (have H2_ := (Option.bind_some _ _).symm.trans H; rw [hy180]; with_reducible exact H2_) | (have H2_ := (Option.bind_some _ _).symm.trans H; with_reducible exact H2_) | with_reducible exact H | (rw [hy180]; exact H) | exact H
      have Ny180 := am hy180
      clear hy180
      simp only [Option.some.injEq, Prod.mk.injEq] at H
      obtain ⟨rfl, rfl, rfl⟩ := H
      go_wp2_with (first | ((with_reducible refine gate_callee (f := 68) rfl ?_); refine goesM_ (some 25) rfl rfl Try.func68 #[.int .i64 t168, .int .i64 0, .int .i64 255] ?_; (with_reducible refine (spec_l1In.calls t168 0 255 false _ A8.out).mono ?_); rintro e w' ⟨rfl, ⟨nd, rfl⟩⟩; refine ⟨_, rfl, ?_⟩) | ((with_reducible refine gd 27 ?_); refine Kd.R_lit (Kd.int .i64) _ 3 ?hg (N := 27) ?hd (xs := ([] : List Int)) (inner := []) (ok := fun _ => True) (okp := fun _ => True) ?hr ?hp (fun _ hk => hk) trivial (Below.refl _ _) (Nat.le_refl _) (by simp) ?_; (case hd => rfl); (case hg => rfl); (case hr => first | (go_simp; done) | (go_simp; rfl)); (case hp => exact (Reps.none _ _)); intro v181 w15 ho16 hb hg_ hnew_; clear hg_ hnew_; (first | rw [← Ny180.out] at ho16 | (simp only [Int.reduceToNat] at ho16; rw [← Ny180.out] at ho16)); have HO182 := am (Kd.R_lower ho16 (below_size (bw HB.out))); replace HB := am (below_step (bw HB.out) hb); clear hb ho16))
      go_ret3
      exact ⟨_, rt, kr HO182.out, bw HB.out⟩
    ·replace c7 := Bool.eq_false_iff.mpr c7
     subst c7
     have H1 : ((spec_OpOf.f kj3 t167).bind fun t183 => (if t183 < 0 then (some ((([] : List Int)), (-1), false)) else ((spec_OpLen.f t183).bind fun t187 => (if t187 = 1 then (some ((([t183] : List Int)), (-1), decide (t168 < 0))) else (if t187 = 2 then ((spec_Byte.f t168).bind fun t191 => ((spec_l1In.f t168 0 255).bind fun t195 => (some ((([t183, t191] : List Int)), (-1), t195)))) else ((spec_Byte.f t168).bind fun t196 => ((spec_Byte.f (t168 / 256)).bind fun t197 => ((spec_l1In.f t168 0 65535).bind fun t201 => (some ((([t183, t196, t197] : List Int)), (-1), t201)))))))))) = some (r1, r2, r3) := by rw [if_neg (show ¬ (false = true) by decide)] at H; exact H
     clear H
     have H := H1
     clear H1
     replace H := bs H
     obtain ⟨t183, A170, H⟩ := H
     replace H : (if t183 < 0 then (some ((([] : List Int)), (-1), false)) else ((spec_OpLen.f t183).bind fun t187 => (if t187 = 1 then (some ((([t183] : List Int)), (-1), decide (t168 < 0))) else (if t187 = 2 then ((spec_Byte.f t168).bind fun t191 => ((spec_l1In.f t168 0 255).bind fun t195 => (some ((([t183, t191] : List Int)), (-1), t195)))) else ((spec_Byte.f t168).bind fun t196 => ((spec_Byte.f (t168 / 256)).bind fun t197 => ((spec_l1In.f t168 0 65535).bind fun t201 => (some ((([t183, t196, t197] : List Int)), (-1), t201))))))))) = some (r1, r2, r3) := H
     have A17 := am A170
     clear A170
     by_cases c18 : t183 < 0
     ·rw [if_pos c18] at H
      have c18b0 : decide (t183 < 0) = true := decide_eq_true c18
      clear c18
      obtain ⟨y184, hy184⟩ : ∃ y_ : List Int, y_ = (([] : List Int)) := ⟨_, rfl⟩
      replace H : (some (y184, (-1), false)) = some (r1, r2, r3) := by first | (rw [hy184]; with_reducible exact H) | (have H2_ := (Option.bind_some _ _).symm.trans H; rw [hy184]; with_reducible exact H2_) | (have H2_ := (Option.bind_some _ _).symm.trans H; with_reducible exact H2_) | with_reducible exact H | (rw [hy184]; exact H) | exact H
      have Ny184 := am hy184
      clear hy184
      simp only [Option.some.injEq, Prod.mk.injEq] at H
      obtain ⟨rfl, rfl, rfl⟩ := H
      go_wp2_with (first | ((with_reducible refine gate_callee (f := 130) rfl ?_); refine goesM_ (some 35) rfl rfl Try.func130 #[.string t167] ?_; (with_reducible refine (spec_OpOf.calls kj3 t167 t183 _ A17.out).mono ?_); rintro e w19 ⟨rfl, hb⟩; refine ⟨_, rfl, ?_⟩; replace HB := am (below_step (bw HB.out) hb); (try clear hb); (try clear hk); ) | ((with_reducible refine gd 38 ?_); refine Kd.R_lit (Kd.int .i64) _ 3 ?hg (N := 38) ?hd (xs := ([] : List Int)) (inner := []) (ok := fun _ => True) (okp := fun _ => True) ?hr ?hp (fun _ hk => hk) trivial (Below.refl _ _) (Nat.le_refl _) (by simp) ?_; (case hd => rfl); (case hg => rfl); (case hr => first | (go_simp; done) | (go_simp; rfl)); (case hp => exact (Reps.none _ _)); intro v185 w20 ho21 hb hg_ hnew_; clear hg_ hnew_; (first | rw [← Ny184.out] at ho21 | (simp only [Int.reduceToNat] at ho21; rw [← Ny184.out] at ho21)); have HO186 := am (Kd.R_lower ho21 (below_size (bw HB.out))); replace HB := am (below_step (bw HB.out) hb); clear hb ho21))
      go_ret3
      exact ⟨_, rt, kr HO186.out, bw HB.out⟩
     ·rw [if_neg c18] at H
      have c18b0 : decide (t183 < 0) = false := decide_eq_false c18
      clear c18
      replace H := bs H
      obtain ⟨t187, A220, H⟩ := H
      replace H : (if t187 = 1 then (some ((([t183] : List Int)), (-1), decide (t168 < 0))) else (if t187 = 2 then ((spec_Byte.f t168).bind fun t191 => ((spec_l1In.f t168 0 255).bind fun t195 => (some ((([t183, t191] : List Int)), (-1), t195)))) else ((spec_Byte.f t168).bind fun t196 => ((spec_Byte.f (t168 / 256)).bind fun t197 => ((spec_l1In.f t168 0 65535).bind fun t201 => (some ((([t183, t196, t197] : List Int)), (-1), t201))))))) = some (r1, r2, r3) := H
      have A22 := am A220
      clear A220
      by_cases c23 : t187 = 1
      ·rw [if_pos c23] at H
       have c23b0 : (t187 == 1) = true := beq_iff_eq.mpr c23
       have c23b1 : (t187 != 1) = false := bne_eq_false_iff_eq.mpr c23
       clear c23
       obtain ⟨y188, hy188⟩ : ∃ y_ : List Int, y_ = (([t183] : List Int)) := ⟨_, rfl⟩
       replace H : (some (y188, (-1), decide (t168 < 0))) = some (r1, r2, r3) := by first | (rw [hy188]; with_reducible exact H) | (have H2_ := (Option.bind_some _ _).symm.trans H; rw [hy188]; with_reducible exact H2_) | (have H2_ := (Option.bind_some _ _).symm.trans H; with_reducible exact H2_) | with_reducible exact H | (rw [hy188]; exact H) | exact H
       have Ny188 := am hy188
       clear hy188
       simp only [Option.some.injEq, Prod.mk.injEq] at H
       obtain ⟨rfl, rfl, rfl⟩ := H
       go_wp2_with (first | ((with_reducible refine gate_callee (f := 130) rfl ?_); refine goesM_ (some 35) rfl rfl Try.func130 #[.string t167] ?_; (with_reducible refine (spec_OpOf.calls kj3 t167 t183 _ A17.out).mono ?_); rintro e w24 ⟨rfl, hb⟩; refine ⟨_, rfl, ?_⟩; replace HB := am (below_step (bw HB.out) hb); (try clear hb); (try clear hk); ) | ((with_reducible refine gate_callee (f := 81) rfl ?_); refine goesM_ (some 40) rfl rfl Try.func81 #[.int .i64 t183] ?_; (with_reducible refine (spec_OpLen.calls t183 t187 _ A22.out).mono ?_); rintro e w25 ⟨rfl, hb⟩; refine ⟨_, rfl, ?_⟩; replace HB := am (below_step (bw HB.out) hb); (try clear hb); (try clear hk); ) | ((with_reducible refine gd 44 ?_); refine Kd.R_lit (Kd.int .i64) _ 3 ?hg (N := 44) ?hd (xs := ([t183] : List Int)) (inner := [.int .i64 t183]) (ok := fun _ => True) (okp := fun _ => True) ?hr ?hp (fun _ hk => hk) trivial (Below.refl _ _) (Nat.le_refl _) (by simp) ?_; (case hd => rfl); (case hg => rfl); (case hr => first | (go_simp; done) | (go_simp; rfl)); (case hp => exact (reI _)); intro v189 w26 ho27 hb hg_ hnew_; clear hg_ hnew_; (first | rw [← Ny188.out] at ho27 | (simp only [Int.reduceToNat] at ho27; rw [← Ny188.out] at ho27)); have HO190 := am (Kd.R_lower ho27 (below_size (bw HB.out))); replace HB := am (below_step (bw HB.out) hb); clear hb ho27))
       go_ret3
       exact ⟨_, rt, kr HO190.out, bw HB.out⟩
      ·rw [if_neg c23] at H
       have c23b0 : (t187 == 1) = false := beq_eq_false_iff_ne.mpr c23
       have c23b1 : (t187 != 1) = true := bne_iff_ne.mpr c23
       by_cases c28 : t187 = 2
       ·rw [if_pos c28] at H
        have c28b0 : (t187 == 2) = true := beq_iff_eq.mpr c28
        have c28b1 : (t187 != 2) = false := bne_eq_false_iff_eq.mpr c28
        clear c28
        replace H := bs H
        obtain ⟨t191, A290, H⟩ := H
        replace H : ((spec_l1In.f t168 0 255).bind fun t195 => (some ((([t183, t191] : List Int)), (-1), t195))) = some (r1, r2, r3) := H
        have A29 := am A290
        clear A290
        obtain ⟨y192, hy192⟩ : ∃ y_ : List Int, y_ = (([t183, t191] : List Int)) := ⟨_, rfl⟩
        replace H : ((spec_l1In.f t168 0 255).bind fun t195 => (some (y192, (-1), t195))) = some (r1, r2, r3) := by first | (rw [hy192]; with_reducible exact H) | (have H2_ := (Option.bind_some _ _).symm.trans H; rw [hy192]; with_reducible exact H2_) | (have H2_ := (Option.bind_some _ _).symm.trans H; with_reducible exact H2_) | with_reducible exact H | (rw [hy192]; exact H) | exact H
        have Ny192 := am hy192
        clear hy192
        replace H := bs H
        obtain ⟨t195, A300, H⟩ := H
        replace H : (some (y192, (-1), t195)) = some (r1, r2, r3) := H
        have A30 := am A300
        clear A300
        simp only [Option.some.injEq, Prod.mk.injEq] at H
        obtain ⟨rfl, rfl, rfl⟩ := H
        go_wp2_with (first | ((with_reducible refine gate_callee (f := 130) rfl ?_); refine goesM_ (some 35) rfl rfl Try.func130 #[.string t167] ?_; (with_reducible refine (spec_OpOf.calls kj3 t167 t183 _ A17.out).mono ?_); rintro e w31 ⟨rfl, hb⟩; refine ⟨_, rfl, ?_⟩; replace HB := am (below_step (bw HB.out) hb); (try clear hb); (try clear hk); ) | ((with_reducible refine gate_callee (f := 81) rfl ?_); refine goesM_ (some 40) rfl rfl Try.func81 #[.int .i64 t183] ?_; (with_reducible refine (spec_OpLen.calls t183 t187 _ A22.out).mono ?_); rintro e w32 ⟨rfl, hb⟩; refine ⟨_, rfl, ?_⟩; replace HB := am (below_step (bw HB.out) hb); (try clear hb); (try clear hk); ) | ((with_reducible refine gate_callee (f := 71) rfl ?_); refine goesM_ (some 51) rfl rfl Try.func71 #[.int .i64 t168] ?_; (with_reducible refine (spec_Byte.calls t168 t191 _ A29.out).mono ?_); rintro e w' ⟨rfl, ⟨nd, rfl⟩⟩; refine ⟨_, rfl, ?_⟩) | ((with_reducible refine gd 52 ?_); refine Kd.R_lit (Kd.int .i64) _ 3 ?hg (N := 52) ?hd (xs := ([t183, t191] : List Int)) (inner := [.int .i64 t183, .int .i64 t191]) (ok := fun _ => True) (okp := fun _ => True) ?hr ?hp (fun _ hk => hk) trivial (Below.refl _ _) (Nat.le_refl _) (by simp) ?_; (case hd => rfl); (case hg => rfl); (case hr => first | (go_simp; done) | (go_simp; rfl)); (case hp => exact (reI _)); intro v193 w33 ho34 hb hg_ hnew_; clear hg_ hnew_; (first | rw [← Ny192.out] at ho34 | (simp only [Int.reduceToNat] at ho34; rw [← Ny192.out] at ho34)); have HO194 := am (Kd.R_lower ho34 (below_size (bw HB.out))); replace HB := am (below_step (bw HB.out) hb); clear hb ho34) | ((with_reducible refine gate_callee (f := 68) rfl ?_); refine goesM_ (some 54) rfl rfl Try.func68 #[.int .i64 t168, .int .i64 0, .int .i64 255] ?_; (with_reducible refine (spec_l1In.calls t168 0 255 t195 _ A30.out).mono ?_); rintro e w' ⟨rfl, ⟨nd, rfl⟩⟩; refine ⟨_, rfl, ?_⟩))
        go_ret3
        exact ⟨_, rt, kr HO194.out, bw HB.out⟩
       ·rw [if_neg c28] at H
        have c28b0 : (t187 == 2) = false := beq_eq_false_iff_ne.mpr c28
        have c28b1 : (t187 != 2) = true := bne_iff_ne.mpr c28
        replace H := bs H
        obtain ⟨t196, A350, H⟩ := H
        replace H : ((spec_Byte.f (t168 / 256)).bind fun t197 => ((spec_l1In.f t168 0 65535).bind fun t201 => (some ((([t183, t196, t197] : List Int)), (-1), t201)))) = some (r1, r2, r3) := H
        have A35 := am A350
        clear A350
        replace H := bs H
        obtain ⟨t197, A360, H⟩ := H
        replace H : ((spec_l1In.f t168 0 65535).bind fun t201 => (some ((([t183, t196, t197] : List Int)), (-1), t201))) = some (r1, r2, r3) := H
        have A36 := am A360
        clear A360
        obtain ⟨y198, hy198⟩ : ∃ y_ : List Int, y_ = (([t183, t196, t197] : List Int)) := ⟨_, rfl⟩
        replace H : ((spec_l1In.f t168 0 65535).bind fun t201 => (some (y198, (-1), t201))) = some (r1, r2, r3) := by first | (rw [hy198]; with_reducible exact H) | (have H2_ := (Option.bind_some _ _).symm.trans H; rw [hy198]; with_reducible exact H2_) | (have H2_ := (Option.bind_some _ _).symm.trans H; with_reducible exact H2_) | with_reducible exact H | (rw [hy198]; exact H) | exact H
        have Ny198 := am hy198
        clear hy198
        replace H := bs H
        obtain ⟨t201, A370, H⟩ := H
        replace H : (some (y198, (-1), t201)) = some (r1, r2, r3) := H
        have A37 := am A370
        clear A370
        simp only [Option.some.injEq, Prod.mk.injEq] at H
        obtain ⟨rfl, rfl, rfl⟩ := H
        go_wp2_with (first | ((with_reducible refine gate_callee (f := 130) rfl ?_); refine goesM_ (some 35) rfl rfl Try.func130 #[.string t167] ?_; (with_reducible refine (spec_OpOf.calls kj3 t167 t183 _ A17.out).mono ?_); rintro e w38 ⟨rfl, hb⟩; refine ⟨_, rfl, ?_⟩; replace HB := am (below_step (bw HB.out) hb); (try clear hb); (try clear hk); ) | ((with_reducible refine gate_callee (f := 81) rfl ?_); refine goesM_ (some 40) rfl rfl Try.func81 #[.int .i64 t183] ?_; (with_reducible refine (spec_OpLen.calls t183 t187 _ A22.out).mono ?_); rintro e w39 ⟨rfl, hb⟩; refine ⟨_, rfl, ?_⟩; replace HB := am (below_step (bw HB.out) hb); (try clear hb); (try clear hk); ) | ((with_reducible refine gate_callee (f := 71) rfl ?_); refine goesM_ (some 57) rfl rfl Try.func71 #[.int .i64 t168] ?_; (with_reducible refine (spec_Byte.calls t168 t196 _ A35.out).mono ?_); rintro e w' ⟨rfl, ⟨nd, rfl⟩⟩; refine ⟨_, rfl, ?_⟩) | ((with_reducible refine gate_callee (f := 71) rfl ?_); refine goesM_ (some 60) rfl rfl Try.func71 #[.int .i64 (t168 / 256)] ?_; (with_reducible refine (spec_Byte.calls (t168 / 256) t197 _ A36.out).mono ?_); rintro e w' ⟨rfl, ⟨nd, rfl⟩⟩; refine ⟨_, rfl, ?_⟩) | ((with_reducible refine gd 61 ?_); refine Kd.R_lit (Kd.int .i64) _ 3 ?hg (N := 61) ?hd (xs := ([t183, t196, t197] : List Int)) (inner := [.int .i64 t183, .int .i64 t196, .int .i64 t197]) (ok := fun _ => True) (okp := fun _ => True) ?hr ?hp (fun _ hk => hk) trivial (Below.refl _ _) (Nat.le_refl _) (by simp) ?_; (case hd => rfl); (case hg => rfl); (case hr => first | (go_simp; done) | (go_simp; rfl)); (case hp => exact (reI _)); intro v199 w40 ho41 hb hg_ hnew_; clear hg_ hnew_; (first | rw [← Ny198.out] at ho41 | (simp only [Int.reduceToNat] at ho41; rw [← Ny198.out] at ho41)); have HO200 := am (Kd.R_lower ho41 (below_size (bw HB.out))); replace HB := am (below_step (bw HB.out) hb); clear hb ho41) | ((with_reducible refine gate_callee (f := 68) rfl ?_); refine goesM_ (some 63) rfl rfl Try.func68 #[.int .i64 t168, .int .i64 0, .int .i64 65535] ?_; (with_reducible refine (spec_l1In.calls t168 0 65535 t201 _ A37.out).mono ?_); rintro e w' ⟨rfl, ⟨nd, rfl⟩⟩; refine ⟨_, rfl, ?_⟩))
        go_ret3
        exact ⟨_, rt, kr HO200.out, bw HB.out⟩
 ·replace c3 := Bool.eq_false_iff.mpr c3
  subst c3
  have H1 : (some ((([] : List Int)), (-1), false)) = some (r1, r2, r3) := by rw [if_neg (show ¬ (false = true) by decide)] at H; exact H
  clear H
  have H := H1
  clear H1
  obtain ⟨y170, hy170⟩ : ∃ y_ : List Int, y_ = (([] : List Int)) := ⟨_, rfl⟩
  replace H : (some (y170, (-1), false)) = some (r1, r2, r3) := by first | (rw [hy170]; with_reducible exact H) | (have H2_ := (Option.bind_some _ _).symm.trans H; rw [hy170]; with_reducible exact H2_) | (have H2_ := (Option.bind_some _ _).symm.trans H; with_reducible exact H2_) | with_reducible exact H | (rw [hy170]; exact H) | exact H
  have Ny170 := am hy170
  clear hy170
  simp only [Option.some.injEq, Prod.mk.injEq] at H
  obtain ⟨rfl, rfl, rfl⟩ := H
  go_enter Try.func118, Try.ntmps118
  go_wp2_with (first | ((with_reducible refine gate_callee (f := 129) rfl ?_); refine goesM_ (some 11) rfl rfl Try.func129 #[.string a0] ?_; (with_reducible refine (spec_l4Line.calls k a0 t167 t168 false _ A2.out).mono ?_); rintro e w42 ⟨rfl, hb⟩; refine ⟨_, rfl, ?_⟩; replace HB := am (below_step (bw HB.out) hb); (try clear hb); (try clear hk); ) | ((with_reducible refine gd 17 ?_); refine Kd.R_lit (Kd.int .i64) _ 3 ?hg (N := 17) ?hd (xs := ([] : List Int)) (inner := []) (ok := fun _ => True) (okp := fun _ => True) ?hr ?hp (fun _ hk => hk) trivial (Below.refl _ _) (Nat.le_refl _) (by simp) ?_; (case hd => rfl); (case hg => rfl); (case hr => first | (go_simp; done) | (go_simp; rfl)); (case hp => exact (Reps.none _ _)); intro v171 w43 ho44 hb hg_ hnew_; clear hg_ hnew_; (first | rw [← Ny170.out] at ho44 | (simp only [Int.reduceToNat] at ho44; rw [← Ny170.out] at ho44)); have HO172 := am (Kd.R_lower ho44 (below_size (bw HB.out))); replace HB := am (below_step (bw HB.out) hb); clear hb ho44))
  go_ret3
  exact ⟨_, rt, kr HO172.out, bw HB.out⟩

end Go.Proofs.Ytmkccgbfgebfbaa.MFnCalled
