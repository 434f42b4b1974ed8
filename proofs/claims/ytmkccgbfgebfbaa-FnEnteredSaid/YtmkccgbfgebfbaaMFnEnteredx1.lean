/- Walks of functions that the law FnEntered reaches: each comes to just what its Lean function says. (Begun as the texts that print.sh wrote for this claim; some of them, and those that it does not write, are mine.) No condition. -/
import Derived.Test.YtmkccgbfgebfbaaMFnEnteredx0
namespace Go.Proofs.Ytmkccgbfgebfbaa.MFnEntered
open Go.RowKit Go.Proofs.YtmkccgbfgebfbaaW.PrintWords Go.Proofs.YtmkccgbfgebfbaaW.PrintLast Go.Proofs.YtmkccgbfgebfbaaW.PrintMore
attribute [local go_sem] max2_int min2_int max_two min_two max_three min_three max_four min_four   -- for this text's walks alone
set_option linter.unusedVariables false
set_option linter.unusedSimpArgs false

/-! ### free_region (mine) -/
/-! A region whose operations may come in any order, where each of the first e puts a value into a temporary and changes nothing that stood before: told once for each operation, not for each order. -/
/-- What is asked of the region's table: what waits stands later; what comes behind the first e waits for all of them but g; g clashes with nothing that it does not wait for. -/
def freeChk (T : List (List Nat × List Nat)) (n e g : Nat) (le lg : Array Bool) (N : List Nat) (sz : Nat) : Bool :=
 (le.size == n) && (lg.size == n) && ((List.range n).all fun j => le.getD j true == decide (j < e)) && ((List.range n).all fun j => lg.getD j true == (decide (j < e) && !(j == g))) &&
 (le.toList.count false == n - e) && decide (e < n) && decide (g < e) &&
 ((List.range n).all fun i => (T.getD i ([], [])).1.all fun j => decide (j < i)) &&
 ((List.range n).all fun i => decide (i < e) || (List.range e).all fun j => j == g || reachT T j n i) &&
 ((List.range e).all fun i => decide (N.getD i 0 < sz)) && ((List.range e).all fun i => (List.range e).all fun j => i == j || !(N.getD i 0 == N.getD j 0))
theorem all_range {n : Nat} {p : Nat → Bool} (h : (List.range n).all p = true) (i : Nat) (hi : i < n) : p i = true := List.all_eq_true.1 h i (List.mem_range.2 hi)
theorem eval_put {a : Act} {N t : Nat} {v : Value} (h : N ≠ t) : (a.put (some N) v).eval (.tmp t) = a.eval (.tmp t) := by
 show (a.tmps.setIfInBounds N v).getD t undef = a.tmps.getD t undef
 simp only [Array.getD_eq_getD_getElem?, Array.getElem?_setIfInBounds]
 rw [if_neg h]
theorem eval_put_same {a : Act} {N : Nat} {v : Value} (h : N < a.tmps.size) : (a.put (some N) v).eval (.tmp N) = v := by
 show (a.tmps.setIfInBounds N v).getD N undef = v
 simp [Array.getD_eq_getD_getElem?, Array.getElem?_setIfInBounds, h]
theorem putAll_eval (L : List (Tmp × Value)) : ∀ (a0 a : Act), a.defers = a0.defers → a.tmps.size = a0.tmps.size → (∀ p ∈ L, p.1 < a0.tmps.size ∧ a.eval (.tmp p.1) = p.2) → (∀ t, (∀ p ∈ L, p.1 ≠ t) → a.eval (.tmp t) = a0.eval (.tmp t)) → a = putAll a0 L := by
 induction L with
 | nil =>
  intro a0 a hd hs _ h
  obtain ⟨t0, d0⟩ := a0
  obtain ⟨t, d⟩ := a
  simp only at hd hs
  subst hd
  show (⟨t, d⟩ : Act) = ⟨t0, d⟩
  congr 1
  refine Array.ext hs (fun i h1 h2 => ?_)
  have := h i (by simp)
  simpa [Act.eval, Array.getD_eq_getD_getElem?, h1, h2] using this
 | cons p L ih =>
  obtain ⟨N, v⟩ := p
  intro a0 a hd hs hp h
  show a = putAll (a0.put (some N) v) L
  have hz : (a0.put (some N) v).tmps.size = a0.tmps.size := Array.size_setIfInBounds
  refine ih _ _ hd (hs.trans hz.symm) (fun p hpL => by rw [hz]; exact hp p (List.mem_cons_of_mem _ hpL)) (fun t ht => ?_)
  by_cases hN : N = t
  ·subst hN
   have := hp (N, v) List.mem_cons_self
   rw [eval_put_same this.1]
   exact this.2
  ·rw [eval_put hN]
   exact h t (fun p hp' => by
    rcases List.mem_cons.1 hp' with rfl | hp'
    ·exact hN
    ·exact ht p hp')
section
variable {P : Program} {ops : Array Oper} {Q : Exit → Act → World → Prop}
theorem listed_set {l : Array Bool} {i j : Nat} (hi : i < l.size) : (l.setIfInBounds i true).getD j true = if i = j then true else l.getD j true := by
 simp only [Array.getD_eq_getD_getElem?, Array.getElem?_setIfInBounds]
 by_cases h : i = j
 ·subst h; simp [hi]
 ·simp [h]
theorem same_listed {l le : Array Bool} {n : Nat} (h1 : l.size = n) (h2 : le.size = n) (h : ∀ j, j < n → l.getD j true = le.getD j true) : l = le := by
 refine Array.ext (h1.trans h2.symm) (fun i hi hj => ?_)
 have := h i (h1 ▸ hi)
 simpa [Array.getD_eq_getD_getElem?, hi, hj] using this
theorem count_set {l : Array Bool} {i : Nat} (hi : i < l.size) (h : l.getD i true = false) : (l.setIfInBounds i true).toList.count false + 1 = l.toList.count false := by
 have h' : l[i] = false := by simpa [Array.getD_eq_getD_getElem?, hi] using h
 rw [Array.toList_setIfInBounds, List.count_set (by simpa using hi)]
 have hm : false ∈ l.toList := by rw [← h']; simp
 have := List.count_pos_iff.2 hm
 have hb : (l.toList[i]'(by simpa using hi) == false) = true := by simp [h']
 rw [if_pos hb, if_neg (by decide)]
 omega
/-- What is listed with all that it waits for: so is all that leads to what may come up. -/
theorem reach_up {T : List (List Nat × List Nat)} {l : Array Bool} {n j : Nat} (hb : ∀ d, d < n → ∀ k ∈ (T.getD d ([], [])).1, k < d) (hcl : ∀ d, d < n → l.getD d false = true → ∀ k ∈ (T.getD d ([], [])).1, l.getD k false = true) :
  ∀ (f d : Nat), d < n → (∀ k ∈ (T.getD d ([], [])).1, l.getD k false = true) → reachT T j f d = true → l.getD j false = true
 | 0, _, _, _, h => by simp [reachT] at h
 | f + 1, d, hd, hn, h => by
  unfold reachT at h
  cases hq : T[d]? with
  | none => rw [hq] at h; simp at h
  | some r =>
   rw [hq] at h
   have hr : (T.getD d ([], [])).1 = r.1 := by rw [List.getD_eq_getElem?_getD, hq]; rfl
   obtain ⟨k, hk, hkj⟩ := List.any_eq_true.1 h
   rw [← hr] at hk
   have hlk := hn k hk
   rcases Bool.or_eq_true _ _ ▸ hkj with h1 | h1
   ·rw [← beq_iff_eq.1 h1]
    exact hlk
   ·have hkd := hb d hd k hk
    exact reach_up hb hcl f k (by omega) (hcl k (by omega) hlk) h1
theorem getD_any {l : Array Bool} {j : Nat} (hj : j < l.size) (b : Bool) : l.getD j b = l.getD j true := by
 simp [Array.getD_eq_getD_getElem?, hj]
theorem free_ {id n e g : Nat} {a0 : Act} {w0 : World} {T : Bool × List (List Nat × List Nat)} (le lg : Array Bool) (N : List Nat) (E : Nat → Value → World → Prop)
  (hm : P.follows .mixedOrders = true) (hn : ops.size = n) (hT : rtab .any ops = T) (hc : freeChk T.2 n e g le lg N a0.tmps.size = true)
  (hd : ((List.range e).all fun i => ((ops[i]?).bind (·.dst)) == some (N.getD i 0)) = true) (hg : anyB .any ops lg le g = true)
  (hQ : ∀ c (a : Act) w v, Q (.panic c) (a.put (some (N.getD g 0)) v) w → Q (.panic c) a w)
  (hE : ∀ j v w w', E j v w → Below w.heap.size w w' → E j v w')
  (step : ∀ i, i < e → ∀ o, ops[i]? = some o → ∀ (a : Act) (w : World), Below w0.heap.size w0.drew w → (∀ t, (∀ i, i < e → N.getD i 0 ≠ t) → a.eval (.tmp t) = a0.eval (.tmp t)) →
   (∀ j ∈ (T.2.getD i ([], [])).1, E j (a.eval (.tmp (N.getD j 0))) w) → ∀ K, Shut (∀ v w', Below w.heap.size w w' → E i v w' → K (a.put (some (N.getD i 0)) v) w') →
   if Region.wanted o (yielded ops a.tmps) = true then Oper.wp P o a w K Q else K (a.put o.dst undef) w)
  (lag : ∀ o, ops[g]? = some o → ∀ (a : Act) (w : World), (∀ t, (∀ i, i < e → N.getD i 0 ≠ t) → a.eval (.tmp t) = a0.eval (.tmp t)) → (∀ j ∈ (T.2.getD g ([], [])).1, E j (a.eval (.tmp (N.getD j 0))) w) → ∃ v, E g v w ∧ Yields P ops o v a)
  (last : ∀ (f : Nat) (vs : Nat → Value) (w : World), Below w0.heap.size w0.drew w → (∀ j, j < e → E j (vs j) w) → wpAnyLast P .any ops Q (fun _ => True) [] (f + (n - e)) le (putAll a0 ((List.range e).map fun j => (N.getD j 0, vs j))) w) :
  (Code.region id ops true).wp P Q a0 w0 := by
 unfold freeChk at hc
 simp only [Bool.and_eq_true] at hc
 obtain ⟨⟨⟨⟨⟨⟨⟨⟨⟨⟨h1, h2⟩, h3⟩, h4⟩, h5⟩, h6⟩, h7⟩, h8⟩, h9⟩, h10⟩, h11⟩ := hc
 have z1 := beq_iff_eq.1 h1
 have z2 := beq_iff_eq.1 h2
 have z5 := beq_iff_eq.1 h5
 have z6 := of_decide_eq_true h6
 have z7 := of_decide_eq_true h7
 have z3 := fun j hj => beq_iff_eq.1 (all_range h3 j hj)
 have z4 := fun j hj => beq_iff_eq.1 (all_range h4 j hj)
 have z8 := fun i hi j hj => of_decide_eq_true (List.all_eq_true.1 (all_range h8 i hi) j hj)
 have z10 := fun i hi => of_decide_eq_true (all_range h10 i hi)
 have zd : ∀ i o, i < e → ops[i]? = some o → o.dst = some (N.getD i 0) := fun i o hi ho => by
  have := all_range hd i hi
  rw [ho] at this
  simpa using this
 have z11 : ∀ i j, i < e → j < e → i ≠ j → N.getD i 0 ≠ N.getD j 0 := fun i j hi hj hne => by
  have := all_range (all_range h11 i hi) j hj
  intro hh
  rw [hh] at this
  simp [hne] at this
 have hneed : ∀ i o, ops[i]? = some o → (T.2.getD i ([], [])).1 = needsOf .any o := fun i o ho => by
  subst hT
  rw [List.getD_eq_getElem?_getD, rtab_some ho]
  rfl
 have hlt : ∀ i o, ops[i]? = some o → i < n := fun i o ho => hn ▸ (Array.getElem?_eq_some_iff.1 ho).1
 have claim : ∀ (fuel : Nat) (l : Array Bool) (a : Act) (w : World), l.size = n → Below w0.heap.size w0.drew w → a.defers = a0.defers → a.tmps.size = a0.tmps.size →
   (∀ t, (∀ i, i < e → N.getD i 0 ≠ t) → a.eval (.tmp t) = a0.eval (.tmp t)) → (∀ i, e ≤ i → i < n → l.getD i true = false) → (∀ j, j < e → l.getD j true = true → E j (a.eval (.tmp (N.getD j 0))) w) →
   (∀ d, d < n → l.getD d false = true → ∀ k ∈ (T.2.getD d ([], [])).1, l.getD k false = true) → l.toList.count false ≤ fuel → wpAnyLast P .any ops Q (fun _ => True) [] fuel l a w := by
  intro fuel
  induction fuel with
  | zero =>
   intro l a w hl _ _ _ _ hlate _ _ hcount
   exfalso
   have hf := hlate e (Nat.le_refl _) z6
   have : false ∈ l.toList := by
    have he : e < l.size := by omega
    have : l[e] = false := by simpa [Array.getD_eq_getD_getElem?, he] using hf
    rw [← this]
    simp
   have := List.count_pos_iff.2 this
   omega
  | succ fuel ih =>
   intro l a w hl hB hdf hsz hout hlate hD hclo hcount
   by_cases hall : ∀ j, j < e → j ≠ g → l.getD j true = true
   ·by_cases hgl : l.getD g true = true
    ·have hle : l = le := same_listed hl z1 (fun j hj => by
      rw [z3 j hj]
      by_cases hje : j < e
      ·by_cases hjg : j = g
       ·subst hjg; simp [hgl, hje]
       ·simp [hall j hje hjg, hje]
      ·simp [hlate j (by omega) hj, hje])
     subst hle
     rw [z5] at hcount
     have hfu : fuel + 1 = (fuel + 1 - (n - e)) + (n - e) := by omega
     rw [hfu]
     have ha := putAll_eval ((List.range e).map fun j => (N.getD j 0, a.eval (.tmp (N.getD j 0)))) a0 a hdf hsz (fun p hp => by
      obtain ⟨j, hj, rfl⟩ := List.mem_map.1 hp
      exact ⟨z10 j (List.mem_range.1 hj), rfl⟩) (fun t ht => hout t (fun i hi hh => ht (N.getD i 0, a.eval (.tmp (N.getD i 0))) (List.mem_map.2 ⟨i, List.mem_range.2 hi, rfl⟩) hh))
     rw [ha]
     exact last _ _ w hB (fun j hj => hD j hj (by
      by_cases hjg : j = g
      ·subst hjg; exact hgl
      ·exact hall j hj hjg))
    ·have hgl' : l.getD g true = false := by simpa using hgl
     have hlg : l = lg := same_listed hl z2 (fun j hj => by
      rw [z4 j hj]
      by_cases hje : j < e
      ·by_cases hjg : j = g
       ·subst hjg; simp [hgl']
       ·simp [hall j hje hjg, hje, hjg]
      ·simp [hlate j (by omega) hj, hje])
     subst hlg
     have hset : l.setIfInBounds g true = le := same_listed (by simp [hl]) z1 (fun j hj => by
      rw [listed_set (by omega), z3 j hj]
      by_cases hjg : g = j
      ·subst hjg; simp [z7]
      ·rw [if_neg hjg, z4 j hj]
       have : (j == g) = false := by simpa using fun h => hjg h.symm
       simp [this])
     have hcs := count_set (l := l) (i := g) (by omega) hgl'
     rw [hset, z5] at hcs
     have hfu : fuel = (fuel - (n - e)) + (n - e) := by omega
     obtain ⟨og, hog⟩ : ∃ o, ops[g]? = some o := ⟨ops[g]'(by omega), Array.getElem?_eq_some_iff.2 ⟨by omega, rfl⟩⟩
     have hng := hneed g og hog
     have hready : ∀ j ∈ (T.2.getD g ([], [])).1, j < e ∧ j ≠ g := fun j hj => by
      have := z8 g (by omega) j hj
      exact ⟨by omega, by omega⟩
     obtain ⟨v, hv, hy⟩ := lag og hog a w hout (fun j hj => hD j (hready j hj).1 (hall j (hready j hj).1 (hready j hj).2))
     have hdst := zd g og z7 hog
     refine pure_ le hog hdst hg (fun c a w => by rw [hdst]; exact hQ c a w v) hy rfl ?_
     have hE' : ∀ j, j < e → E j ((a.put (some (N.getD g 0)) v).eval (.tmp (N.getD j 0))) w := fun j hj => by
      by_cases hjg : j = g
      ·subst hjg
       rw [eval_put_same (by rw [hsz]; exact z10 j hj)]
       exact hv
      ·rw [eval_put (z11 g j z7 hj (fun h => hjg h.symm))]
       exact hD j hj (hall j hj hjg)
     have ha := putAll_eval ((List.range e).map fun j => (N.getD j 0, (a.put (some (N.getD g 0)) v).eval (.tmp (N.getD j 0)))) a0 (a.put (some (N.getD g 0)) v) hdf (Array.size_setIfInBounds.trans hsz) (fun p hp => by
      obtain ⟨j, hj, rfl⟩ := List.mem_map.1 hp
      exact ⟨z10 j (List.mem_range.1 hj), rfl⟩) (fun t ht => by
       rw [eval_put (fun hh => ht (N.getD g 0, _) (List.mem_map.2 ⟨g, List.mem_range.2 z7, rfl⟩) hh)]
       exact hout t (fun i hi hh => ht (N.getD i 0, _) (List.mem_map.2 ⟨i, List.mem_range.2 hi, rfl⟩) hh))
     rw [ha, hfu]
     exact last _ _ w hB hE'
   ·have hneeds : ∀ i o, ops[i]? = some o → (∀ x ∈ o.after, Region.binds .any x = true → l.getD x.on false = true) → ∀ j ∈ (T.2.getD i ([], [])).1, l.getD j false = true := fun i o ho hx j hj => by
     rw [hneed i o ho] at hj
     unfold needsOf at hj
     obtain ⟨x, hx', rfl⟩ := List.mem_map.1 hj
     have hx' := List.mem_filter.1 hx'
     exact hx x (by simpa using hx'.1) hx'.2
    refine ⟨fun hr => ?_, fun i hi => ?_⟩
    ·exfalso
     have hev : ∀ i, i < e → l.getD i true = true := by
      intro i
      induction i using Nat.strongRecOn with
      | _ i ihi =>
       intro hie
       by_cases hh : l.getD i true = true
       ·exact hh
       ·exfalso
        obtain ⟨o, ho⟩ : ∃ o, ops[i]? = some o := ⟨ops[i]'(by omega), Array.getElem?_eq_some_iff.2 ⟨by omega, rfl⟩⟩
        have : i ∈ Region.ready .any ops l := mem_ready.2 ⟨by simpa using hh, o, ho, fun x hx hb => by
         have hxn : x.on ∈ (T.2.getD i ([], [])).1 := by
          rw [hneed i o ho]
          exact List.mem_map.2 ⟨x, List.mem_filter.2 ⟨by simpa using hx, hb⟩, rfl⟩
         have hlt' := z8 i (by omega) x.on hxn
         rw [getD_any (by omega)]
         exact ihi x.on hlt' (by omega)⟩
        rw [hr] at this
        cases this
     exact hall (fun j hj _ => hev j hj)
    ·obtain ⟨hun, o, ho, hx⟩ := mem_ready.1 hi
     have hin := hlt i o ho
     have hnd := hneeds i o ho hx
     have hie : i < e := by
      by_cases hie : i < e
      ·exact hie
      ·exfalso
       refine hall (fun j hj hjg => ?_)
       have := all_range h9 i hin
       simp only [hie, decide_false, Bool.false_or] at this
       have := all_range this j hj
       simp only [Bool.or_eq_true, beq_iff_eq, hjg, false_or] at this
       rw [← getD_any (by omega) false]
       exact reach_up z8 hclo n i hin hnd this
     refine wpOp_step ho (fun K hK => ?_)
     refine step i hie o ho a w hB hout (fun j hj => ?_) K (fun v w' hb hv => ?_)
     ·have := z8 i hin j hj
      exact hD j (by omega) (by rw [← getD_any (by omega) false]; exact hnd j hj)
     ·refine hK _ _ ⟨fun _ _ => trivial, ?_⟩
      refine ih _ _ _ (by simp [hl]) (below_step (w := w0.drew) hB hb) hdf (Array.size_setIfInBounds.trans hsz) (fun t ht => ?_) (fun j h1 h2 => ?_) (fun j hj hjl => ?_) (fun d hdn hdl k hk => ?_) ?_
      ·rw [eval_put (ht i hie)]
       exact hout t ht
      ·rw [listed_set (by omega), if_neg (by omega)]
       exact hlate j h1 h2
      ·by_cases hij : i = j
       ·subst hij
        rw [eval_put_same (by rw [hsz]; exact z10 i hie)]
        exact hv
       ·rw [eval_put (z11 i j hie hj hij)]
        rw [listed_set (by omega), if_neg hij] at hjl
        exact hE j _ _ _ (hD j hj hjl) hb
      ·have hkn : k < n := Nat.lt_trans (z8 d hdn k hk) hdn
       rw [getD_any (by simp; omega), listed_set (by omega)]
       rw [getD_any (by simp; omega), listed_set (by omega)] at hdl
       by_cases hik : i = k
       ·rw [if_pos hik]
       ·rw [if_neg hik, ← getD_any (by omega) false]
        by_cases hid : i = d
        ·subst hid
         exact hnd k hk
        ·rw [if_neg hid, ← getD_any (by omega) false] at hdl
         exact hclo d hdn hdl k hk
      ·have := count_set (l := l) (i := i) (by omega) hun
       omega
 refine wp_region_last (S := fun _ => True) (ds := []) hm ?_
 have hno : ∀ j, (Array.replicate ops.size false).getD j true = true → n ≤ j := fun j hj => by
  by_cases hjn : j < n
  ·rw [Array.getD_eq_getD_getElem?] at hj
   simp [hn, hjn] at hj
  ·omega
 refine claim _ _ _ _ (by simp [hn]) (Below.refl _ _) rfl rfl (fun _ _ => rfl) (fun i h1 h2 => ?_) (fun j hj hl => ?_) (fun d hdn hdl => ?_) ?_
 ·rw [Array.getD_eq_getD_getElem?]
  simp [hn, h2]
 ·have := hno j hl
  omega
 ·rw [getD_any (by simp [hn]; exact hdn)] at hdl
  have := hno d hdl
  omega
 ·refine Nat.le_trans List.count_le_length ?_
  simp
end

/-! ### alloc_words (mine) -/
theorem heap_drew (w : World) (k : Nat) : w.drew.heap[k]? = w.heap[k]? := rfl
theorem alloc_size (w : World) (o : Obj) : (w.alloc o).heap.size = w.heap.size + 1 := by
 show (w.heap.push o).size = _
 simp
theorem alloc_at (w : World) (o : Obj) (g : Nat) (h : g = w.heap.size) : (w.alloc o).heap[g]? = some o := by
 subst h
 exact blk_new w o

/-! ### short_cell (mine) -/
theorem cl {w : World} {g : Nat} {cs : Array Value} {t : TypeId} (h : Aside0 (w.heap[g]? = some (.cells cs t (0, 0)))) (i : Nat) {v : Value} (e : cs[i]? = some v := by rfl) : w.cell? ⟨g, i, none⟩ = some v := (blk_cell h.out i).trans e

/-! ### short_words (mine) -/
/-! Words that bear a proof's usual end in them, so that the texts need not spell it. -/
theorem kb {w w' : World} {g : Nat} {o : Obj} (h : w.heap[g]? = some o) (f : w.heap[g]? = some o → w'.heap[g]? = some o := by intro h_; (with_reducible repeat (first | refine blk_drewN ?_ _ | refine blk_drew ?_ | refine blk_alloc ?_ _)); exact h_) : w'.heap[g]? = some o := f h
theorem bw {n : Nat} {w W W' : World} (h : Below n w W) (f : Below n w W → Below n w W' := by intro h_; repeat (first | (with_reducible first | exact h_ | apply below_alloc | apply pw_below_drewN | apply below_drew1 | refine below_set ?_ (Aside0.out (by assumption))) | exact h_)) : Below n w W' := f h
theorem kp {w W W' : World} {g : Nat} {row : Option Nat} (h : KeepBut w W g row) (f : KeepBut w W g row → KeepBut w W' g row := by intro h_; repeat (first | (with_reducible first | exact h_ | apply KeepBut.set_ | apply keep_drewN | apply keep_drew | apply keep_alloc | refine keep_far ?_ (Aside0.out (by assumption)) _) | exact h_)) : KeepBut w W' g row := f h
theorem dt {p : Prop} [Decidable p] (h : decide p = true := by first | (with_reducible assumption) | assumption) : p := of_decide_eq_true h
theorem kr {α : Type} {d : Kd α} {e base : Nat} {ok : Nat → Prop} {w w' : World} {v : Value} {xs : List α} (h : Kd.R d e w base ok v xs) (f : Kd.R d e w base ok v xs → Kd.R d e w' base ok v xs := by intro h_; (with_reducible repeat (first | apply Kd.R_alloc | apply Kd.R_drewN | apply Kd.R_drew)); exact h_) : Kd.R d e w' base ok v xs := f h
theorem ks {α : Type} {d : Kd α} {e base : Nat} {ok : Nat → Prop} {w w' : World} {v : Value} {xs : List α} (h : Kd.S d e w base ok v xs) (f : Kd.S d e w base ok v xs → Kd.S d e w' base ok v xs := by intro h_; (with_reducible repeat (first | apply Kd.S_alloc | apply Kd.S_drewN | apply Kd.S_drew)); exact h_) : Kd.S d e w' base ok v xs := f h
theorem goesM_ {P : Program} {ops : Array Oper} {Q : Exit → Act → World → Prop} {rest : List Oper} {oi : Oper} {a : Act} {w : World} (N : Option Tmp) (hd : oi.dst = N) (hg : oi.guard = none) {f : FuncId} {fn : Func} {ar : Array Operand} {ts : Array TypeId} (hf : P.funcs[f]? = some fn) (args : Array Value)
  (h : Calls P f args w fun e w' => ∃ v, e = .returned v ∧ wpList P ops Q rest (a.put N v) w') (hname : (fn.name == "runtime.NumGoroutine") = false := by kernel_rfl) (hb : fn.body.isSome = true := by rfl) (hop : oi.op = .call { callee := .value (.func f), args := ar, argTypes := ts } := by rfl)
  (hargs : ar.map a.eval = args := by ((try simp only [List.map_toArray, List.map_cons, List.map_nil]); first | done | rfl | (simp only [List.length_drop, List.length_take]; rfl))) : wpList P ops Q (oi :: rest) a w :=
 goesL_ N hd hg hf hname hb args hop hargs h
theorem kf {w w' : World} {g : Nat} {o : Obj} (h : w.heap[g]? = some o) (f : w.heap[g]? = some o → w'.heap[g]? = some o := by intro h_; (with_reducible repeat (first | refine blk_drewN ?_ _ | refine blk_drew ?_ | refine blk_alloc ?_ _ | refine blk_far ?_ (Aside0.out (by assumption)) _)); exact h_) : w'.heap[g]? = some o := f h
theorem gs {w W : World} {g : Nat} (hg : g = W.heap.size) (h : Below w.heap.size w W) : w.heap.size ≤ g := by rw [hg]; exact below_size h
theorem ga {W w1 : World} {g g' : Nat} {o : Obj} (hg : g' = W.heap.size) (h : w1.heap[g]? = some o) (f : w1.heap[g]? = some o → W.heap[g]? = some o := by intro h_; (with_reducible repeat (first | refine blk_drewN ?_ _ | refine blk_drew ?_ | refine blk_alloc ?_ _)); exact h_) : g ≠ g' := by rw [hg]; exact Nat.ne_of_lt (blk_lt (f h))
theorem gc {W w1 : World} {g g' : Nat} {o : Obj} (hg : g' = W.heap.size) (h : w1.heap[g]? = some o) (f : w1.heap[g]? = some o → W.heap[g]? = some o := by intro h_; (with_reducible repeat (first | refine blk_drewN ?_ _ | refine blk_drew ?_ | refine blk_alloc ?_ _)); exact h_) : g' ≠ g := by rw [hg]; exact Nat.ne_of_gt (blk_lt (f h))
theorem bx {P : Program} {ops : Array Oper} {Q : Exit → Act → World → Prop} {rest : List Oper} {o : Oper} {a : Act} {W : World} {N : Tmp} {cs : Array Value} {t : TypeId}
  (h : ∀ g, g = W.heap.size → ∀ w1, w1.heap[g]? = some (.cells cs t (0, 0)) → Below W.heap.size W w1 → wpList P ops Q rest (a.put o.dst (.pointer (some ⟨g, 0, none⟩))) w1) (hgd : o.guard = none := by rfl) (hd : o.dst = some N := by rfl)
  (hrun : (execOp a.eval o).run P W = .ok (.value (.pointer (some ⟨W.heap.size, 0, none⟩))) (W.alloc (.cells cs t (0, 0))) := by first | (go_simp; done) | (go_simp; rfl)) : wpList P ops Q (o :: rest) a W := box_event hgd hd hrun h
theorem kq {α : Type} {d : Kd α} {e base : Nat} {ok : Nat → Prop} {w w' : World} {v : Value} {xs : List α} (h : Kd.Q d e w base ok v xs) (f : Kd.Q d e w base ok v xs → Kd.Q d e w' base ok v xs := by intro h_; (with_reducible repeat (first | apply Kd.Q_alloc | apply Kd.Q_drewN | apply Kd.Q_drew)); exact h_) : Kd.Q d e w' base ok v xs := f h
theorem kc {α : Type} {d : Kd α} {w w' : World} {xs : List α} {A : Option Addr} {n : Nat} (h : Kd.C d w A n xs) (f : Kd.C d w A n xs → Kd.C d w' A n xs := by intro h_; repeat (first | exact h_ | (with_reducible refine Kd.C_alloc ?_ _) | (with_reducible refine Kd.C_drewN ?_ _) | (with_reducible refine Kd.C_drew ?_))) : Kd.C d w' A n xs := f h
theorem rt {a b : Ending} (h : a = b := by first | rfl | (simp [errW_none, errW_some] <;> rfl) | (simp [*, errW_none, errW_some] <;> rfl)) : a = b := h
theorem kt {w w' : World} {g : Nat} {t : TypeId} {cs cs' : Array Value} (h : w.heap[g]? = some (.cells cs t (0, 0))) (f : w.heap[g]? = some (.cells cs t (0, 0)) → w'.heap[g]? = some (.cells cs' t (0, 0)) := by intro h_; (with_reducible repeat (first | refine blk_drewN ?_ _ | refine blk_drew ?_ | refine blk_alloc ?_ _)); refine blk_put (cs := ?_) ?_ _ _ ?_; rotate_left; (· (with_reducible repeat (first | refine blk_drewN ?_ _ | refine blk_drew ?_ | refine blk_alloc ?_ _)); exact h_); rfl) : w'.heap[g]? = some (.cells cs' t (0, 0)) := f h

/-! ### short_steps (mine) -/
/-! Words for the steps of a region whose order is drawn: each bears its usual proofs in it. -/
/-- The operations listed so far, as bits. -/
def bm (n m : Nat) : Array Bool := ((List.range n).map fun i => m.testBit i).toArray
section
variable {P : Program} {md : Region.Mode} {ops : Array Oper} {Q : Exit → Act → World → Prop} {S : World → Prop} {ds : List Nat} {T : Bool × List (List Nat × List Nat)} {B : List Nat} {i : Nat} {N : Option Tmp} {oi : Oper} {v : Value} {fuel : Nat} {l : Array Bool} {a a' : Act} {w : World}
variable (i) (N)
theorem pw_ (l' : Array Bool) (HT : Aside0 (rtab md ops = T)) (h : wpAnyLast P md ops Q S ds fuel l' a' w) (hi : ops[i]? = some oi := by rfl) (hN : oi.dst = N := by rfl) (hc : anyT T l.toList l'.toList i = true := by kernel_rfl) (hQ : ∀ c a w, Q (.panic c) (a.put oi.dst v) w → Q (.panic c) a w := by exact fun _ _ _ h => h)
  (hw : Region.wanted oi (yielded ops a.tmps) = true := by rfl) (hr : ∀ w', (execOp a.eval oi).run P w' = .ok (.value v) w' := by intro w'; go_simp; with_reducible rfl) (ha : a.put N v = a' := by simp only [Act.put, List.setIfInBounds_toArray, List.set_cons_zero, List.set_cons_succ, i64_w, i32_w]; rfl) : wpAnyLast P md ops Q S ds (fuel + 1) l a w :=
 pure_ l' hi hN (any_of HT.out hc) hQ (Or.inl ⟨hw, hr⟩) ha h
theorem uw_ (l' : Array Bool) (HT : Aside0 (rtab md ops = T)) (h : wpAnyLast P md ops Q S ds fuel l' a' w) (hi : ops[i]? = some oi := by rfl) (hN : oi.dst = N := by rfl) (hc : anyT T l.toList l'.toList i = true := by kernel_rfl) (hQ : ∀ c a w, Q (.panic c) (a.put oi.dst undef) w → Q (.panic c) a w := by exact fun _ _ _ h => h)
  (hw : Region.wanted oi (yielded ops a.tmps) = false := by rfl) (ha : a.put N undef = a' := by simp only [Act.put, List.setIfInBounds_toArray, List.set_cons_zero, List.set_cons_succ, i64_w, i32_w]; rfl) : wpAnyLast P md ops Q S ds (fuel + 1) l a w :=
 pure_ l' hi hN (any_of HT.out hc) hQ (Or.inr ⟨hw, rfl⟩) ha h
theorem tw_ (l' : Array Bool) (HT : Aside0 (rtab md ops = T)) (HW : Aside0 (waitsOk T.2 B = true)) (hS : S w) (h : wpAnyLast P md ops Q S ds fuel l' a' w) (hi : ops[i]? = some oi := by rfl) (hN : oi.dst = N := by rfl) (hc : takeW T B ds l.toList l'.toList i = true := by kernel_rfl) (hQ : ∀ c a w, Q (.panic c) (a.put oi.dst v) w → Q (.panic c) a w := by exact fun _ _ _ h => h)
  (hw : Region.wanted oi (yielded ops a.tmps) = true := by rfl) (hr : ∀ w', S w' → (execOp a.eval oi).run P w' = .ok (.value v) w' := by intro w' s_; (repeat' (obtain ⟨s_0, s_⟩ := s_)); go_simp; with_reducible rfl) (ha : a.put N v = a' := by simp only [Act.put, List.setIfInBounds_toArray, List.set_cons_zero, List.set_cons_succ, i64_w, i32_w]; rfl) : wpAnyLast P md ops Q S ds (fuel + 1) l a w :=
 take_ l' hi hN (take_ofW HT.out HW.out hc) hQ (Or.inl ⟨hw, hr⟩) hS ha h
theorem pv_ (l' : Array Bool) (h : wpAnyLast P md ops Q S ds fuel l' a' w) (hi : ops[i]? = some oi := by rfl) (hN : oi.dst = N := by rfl) (hc : anyB md ops l l' i = true := by kernel_rfl) (hQ : ∀ c a w, Q (.panic c) (a.put oi.dst v) w → Q (.panic c) a w := by exact fun _ _ _ h => h)
  (hw : Region.wanted oi (yielded ops a.tmps) = true := by rfl) (hr : ∀ w', (execOp a.eval oi).run P w' = .ok (.value v) w' := by intro w'; go_simp; with_reducible rfl) (ha : a.put N v = a' := by simp only [Act.put, List.setIfInBounds_toArray, List.set_cons_zero, List.set_cons_succ, i64_w, i32_w]; rfl) : wpAnyLast P md ops Q S ds (fuel + 1) l a w :=
 pure_ l' hi hN hc hQ (Or.inl ⟨hw, hr⟩) ha h
theorem tv_ (l' : Array Bool) (hS : S w) (h : wpAnyLast P md ops Q S ds fuel l' a' w) (hi : ops[i]? = some oi := by rfl) (hN : oi.dst = N := by rfl) (hc : takeB md ops ds l l' i = true := by kernel_rfl) (hQ : ∀ c a w, Q (.panic c) (a.put oi.dst v) w → Q (.panic c) a w := by exact fun _ _ _ h => h)
  (hw : Region.wanted oi (yielded ops a.tmps) = true := by rfl) (hr : ∀ w', S w' → (execOp a.eval oi).run P w' = .ok (.value v) w' := by intro w' s_; (repeat' (obtain ⟨s_0, s_⟩ := s_)); go_simp; with_reducible rfl) (ha : a.put N v = a' := by simp only [Act.put, List.setIfInBounds_toArray, List.set_cons_zero, List.set_cons_succ, i64_w, i32_w]; rfl) : wpAnyLast P md ops Q S ds (fuel + 1) l a w :=
 take_ l' hi hN hc hQ (Or.inl ⟨hw, hr⟩) hS ha h
theorem ow_ (l' : Array Bool) (HT : Aside0 (rtab md ops = T)) (h : ∀ K : Act → World → Prop, Shut (∀ a' w', S w' → (S w' → wpAnyLast P md ops Q S ds fuel l' a' w') → K a' w') → if Region.wanted oi (yielded ops a.tmps) = true then Oper.wp P oi a w K Q else K (a.put N undef) w)
  (hi : ops[i]? = some oi := by rfl) (hN : oi.dst = N := by rfl) (hc : (readyT T.2 l.toList == [i] && l.toList.set i true == l'.toList) = true := by kernel_rfl) (hd : i ∉ ds := by decide) : wpAnyLast P md ops Q S ds (fuel + 1) l a w :=
 one_ l' hi hN (one_of HT.out hc) hd h
theorem ov_ (l' : Array Bool) (h : ∀ K : Act → World → Prop, Shut (∀ a' w', S w' → (S w' → wpAnyLast P md ops Q S ds fuel l' a' w') → K a' w') → if Region.wanted oi (yielded ops a.tmps) = true then Oper.wp P oi a w K Q else K (a.put N undef) w)
  (hi : ops[i]? = some oi := by rfl) (hN : oi.dst = N := by rfl) (hc : readyB md ops l l' i = true := by kernel_rfl) (hd : i ∉ ds := by decide) : wpAnyLast P md ops Q S ds (fuel + 1) l a w :=
 one_ l' hi hN hc hd h
variable {i} {N}
theorem nw_ (n : Tmp) {a0 : Act} (h : wpAnyLast P md ops Q S ds fuel l a' w) (h0 : a = a0.put (some n) v := by rfl) (ha : a0.put (some n) v = a' := by simp only [Act.put, List.setIfInBounds_toArray, List.set_cons_zero, List.set_cons_succ, i64_w, i32_w]; rfl) : wpAnyLast P md ops Q S ds fuel l a w := norm_ (h0.trans ha) h
theorem gw_ {K : Act → World → Prop} {f : FuncId} {fn : Func} {ar : Array Operand} {ts : Array TypeId} (hf : P.funcs[f]? = some fn) (args : Array Value)
  (h : Calls P f args w fun e w' => ∃ v, e = .returned v ∧ K (a.put N v) w') (hname : (fn.name == "runtime.NumGoroutine") = false := by kernel_rfl) (hb : fn.body.isSome = true := by rfl) (hw : Region.wanted oi (yielded ops a.tmps) = true := by rfl) (hN : oi.dst = N := by rfl) (hop : oi.op = .call { callee := .value (.func f), args := ar, argTypes := ts } := by rfl)
  (hargs : ar.map a.eval = args := by (try simp only [List.map_toArray, List.map_cons, List.map_nil]); first | done | rfl | (simp only [List.length_drop, List.length_take]; rfl)) : if Region.wanted oi (yielded ops a.tmps) = true then Oper.wp P oi a w K Q else K (a.put N undef) w :=
 goes_ hf hname hb args hw hN hop hargs h
end

/-! ### short_more (mine) -/
/-! More words: cells told at once, blocks carried over stores and calls. -/
section
variable {w w' W W' : World} {g g' : Nat} {t : TypeId} {o0 o1 o2 o3 o4 o5 o6 o7 : Value}
theorem ce2 (h : Aside0 (w.heap[g]? = some (.cells #[o0, o1] t (0, 0)))) : w.cell? ⟨g, 0, none⟩ = some o0 ∧ w.cell? ⟨g, 1, none⟩ = some o1 := ⟨cl h 0, cl h 1⟩
theorem fz2 {cs : Array Value} (h : Aside0 (w.heap[g]? = some (.cells cs t (0, 0)))) : w.frozen? ⟨g, 0, none⟩ = false ∧ w.frozen? ⟨g, 1, none⟩ = false := ⟨blk_frozen h.out 0, blk_frozen h.out 1⟩
theorem ce8 (h : Aside0 (w.heap[g]? = some (.cells #[o0, o1, o2, o3, o4, o5, o6, o7] t (0, 0)))) : w.cell? ⟨g, 0, none⟩ = some o0 ∧ w.cell? ⟨g, 1, none⟩ = some o1 ∧ w.cell? ⟨g, 2, none⟩ = some o2 ∧ w.cell? ⟨g, 3, none⟩ = some o3 ∧ w.cell? ⟨g, 4, none⟩ = some o4 ∧ w.cell? ⟨g, 5, none⟩ = some o5 ∧ w.cell? ⟨g, 6, none⟩ = some o6 ∧ w.cell? ⟨g, 7, none⟩ = some o7 :=
 ⟨cl h 0, cl h 1, cl h 2, cl h 3, cl h 4, cl h 5, cl h 6, cl h 7⟩
theorem fz8 {cs : Array Value} (h : Aside0 (w.heap[g]? = some (.cells cs t (0, 0)))) : w.frozen? ⟨g, 0, none⟩ = false ∧ w.frozen? ⟨g, 1, none⟩ = false ∧ w.frozen? ⟨g, 2, none⟩ = false ∧ w.frozen? ⟨g, 3, none⟩ = false ∧ w.frozen? ⟨g, 4, none⟩ = false ∧ w.frozen? ⟨g, 5, none⟩ = false ∧ w.frozen? ⟨g, 6, none⟩ = false ∧ w.frozen? ⟨g, 7, none⟩ = false :=
 ⟨blk_frozen h.out 0, blk_frozen h.out 1, blk_frozen h.out 2, blk_frozen h.out 3, blk_frozen h.out 4, blk_frozen h.out 5, blk_frozen h.out 6, blk_frozen h.out 7⟩
theorem bq {cs cs' : Array Value} (h : w.heap[g]? = some (.cells cs t (0, 0))) (f : w.heap[g]? = some (.cells cs t (0, 0)) → w'.heap[g]? = some (.cells cs' t (0, 0)) := by intro h_; (with_reducible repeat (first | exact h_ | apply blk_drewN | apply blk_drew | apply blk_alloc | apply blk_put)); all_goals (try (simp only [List.setIfInBounds_toArray, List.set_cons_zero, List.set_cons_succ]; try rfl))) : w'.heap[g]? = some (.cells cs' t (0, 0)) := f h
theorem bfar {cs : Array Value} {i : Nat} {u : Value} (hn : g ≠ g') (h : w.heap[g]? = some (.cells cs t (0, 0))) : (w.setCell ⟨g', i, none⟩ u).heap[g]? = some (.cells cs t (0, 0)) := blk_far h (p := ⟨g', i, none⟩) hn u
theorem bf {cs cs' : Array Value} (n : Aside0 (g ≠ g')) (h : w.heap[g]? = some (.cells cs t (0, 0))) (f : g ≠ g' → w.heap[g]? = some (.cells cs t (0, 0)) → w'.heap[g]? = some (.cells cs' t (0, 0)) := by intro n_ h_; (with_reducible repeat (first | exact h_ | apply bfar n_ | apply blk_drewN | apply blk_drew | apply blk_alloc | apply blk_put)); all_goals (try (simp only [List.setIfInBounds_toArray, List.set_cons_zero, List.set_cons_succ]; try rfl))) : w'.heap[g]? = some (.cells cs' t (0, 0)) := f n.out h
theorem bf2 {g2 : Nat} {cs cs' : Array Value} (n : Aside0 (g ≠ g')) (m : Aside0 (g ≠ g2)) (h : w.heap[g]? = some (.cells cs t (0, 0))) (f : g ≠ g' → g ≠ g2 → w.heap[g]? = some (.cells cs t (0, 0)) → w'.heap[g]? = some (.cells cs' t (0, 0)) := by intro n_ m_ h_; (with_reducible repeat (first | exact h_ | apply bfar n_ | apply bfar m_ | apply blk_drewN | apply blk_drew | apply blk_alloc | apply blk_put)); all_goals (try (simp only [List.setIfInBounds_toArray, List.set_cons_zero, List.set_cons_succ]; try rfl))) : w'.heap[g]? = some (.cells cs' t (0, 0)) := f n.out m.out h
theorem bb {o : Obj} (h : Aside0 (w.heap[g]? = some o)) (hb : Below W.heap.size W W') (f : w.heap[g]? = some o → W.heap[g]? = some o := by intro h_; (with_reducible repeat (first | refine blk_drewN ?_ _ | refine blk_drew ?_ | refine blk_alloc ?_ _)); exact h_) : W'.heap[g]? = some o := blk_below (f h.out) hb
theorem kB {o : Obj} {row : Option Nat} (hk : KeepBut W W' g row) (h : W.heap[g']? = some o) (hn : Aside0 (g' ≠ g)) (hr : some g' ≠ row := by simp) : W'.heap[g']? = some o := KeepBut.blk hk h hn.out hr
theorem cfar {i j : Nat} {u : Value} {r : Option Value} (hn : g ≠ g') (e : w.cell? ⟨g, i, none⟩ = r) : (w.setCell ⟨g', j, none⟩ u).cell? ⟨g, i, none⟩ = r := (cell_far (p := ⟨g', j, none⟩) hn u).trans e
theorem fr {E G : Prop} (h : Aside0 (g ≠ g')) (e : E) (f : g ≠ g' → E → G := by intro h_ e_; (with_reducible repeat (first | exact e_ | apply cfar h_)); all_goals exact e_) : G := f h.out e
theorem reI {k : IntKind} {ok : Nat → Prop} {base : Nat} (xs : List Int) : Reps (Kd.M (Kd.int k) w base ok) 1 xs (xs.map (.int k)) := by
 induction xs with
 | nil => exact Reps.none _ _
 | cons x xs ih => exact Reps.one (show Kd.M (Kd.int k) _ _ _ x [.int k x] from rfl) ih
theorem reS {ok : Nat → Prop} {base : Nat} (xs : List ByteArray) : Reps (Kd.M Kd.string w base ok) 1 xs (xs.map .string) := by
 induction xs with
 | nil => exact Reps.none _ _
 | cons x xs ih => exact Reps.one (show Kd.M Kd.string _ _ _ x [.string x] from rfl) ih
end

theorem eqA55 (d : Nat) (w : World) (x0 y0 : Int) (x1 y1 : Int) (x2 y2 : Int) (x3 y3 : Int) (x4 y4 : Bool) (x5 y5 : Bool) (x6 y6 : Bool) (x7 y7 : Bool) :
  (Op.equalIn (d + 2) 55 (.agg #[.int .i64 x0, .int .i64 x1, .int .i64 x2, .int .i64 x3, .bool x4, .bool x5, .bool x6, .bool x7]) (.agg #[.int .i64 y0, .int .i64 y1, .int .i64 y2, .int .i64 y3, .bool y4, .bool y5, .bool y6, .bool y7])).run Try.prog w = .ok (x0 == y0 && (x1 == y1 && (x2 == y2 && (x3 == y3 && (x4 == y4 && (x5 == y5 && (x6 == y6 && (x7 == y7)))))))) w := by
 refine eqA_of Try.underlying55 (by kernel_rfl) ?_
 refine eqf_cons (by rfl) (by go_simp; rfl) (by go_simp; rfl) (by go_simp) ?_
 refine eqf_cons (by rfl) (by go_simp; rfl) (by go_simp; rfl) (by go_simp) ?_
 refine eqf_cons (by rfl) (by go_simp; rfl) (by go_simp; rfl) (by go_simp) ?_
 refine eqf_cons (by rfl) (by go_simp; rfl) (by go_simp; rfl) (by go_simp) ?_
 refine eqf_cons (by rfl) (by go_simp; rfl) (by go_simp; rfl) (by go_simp) ?_
 refine eqf_cons (by rfl) (by go_simp; rfl) (by go_simp; rfl) (by go_simp) ?_
 refine eqf_cons (by rfl) (by go_simp; rfl) (by go_simp; rfl) (by go_simp) ?_
 exact eqf_last (by rfl) (by go_simp; rfl) (by go_simp; rfl) (by go_simp)

attribute [local go_sem high] eqA55

/-! ### laws_big: function 9 -/
def laws_big.f (l0 : List Int) : Option (Bool) := some (decide ((l0.length : Int) > 1048576))
set_option maxHeartbeats 8000000 in
set_option maxRecDepth 100000 in
theorem laws_big.calls (A0 : Option Addr) (c0 : Nat) (l0 : List Int) (r : Bool) (w : World) (hr0 : Kd.C (Kd.int .u8) w A0 l0.length l0) (hc0 : l0.length ≤ c0) (h : laws_big.f l0 = some r) :
  Calls Try.prog 9 #[.slice A0 l0.length c0] w fun e w' => e = .returned (.bool r) ∧ Drawn0 w w' := by
 have HR0 := Aside0.mk hr0
 have HC0 := Aside0.mk hc0
 clear hr0 hc0
 have H : (some (decide ((l0.length : Int) > 1048576))) = some r := h
 clear h
 obtain rfl := Option.some.inj H
 go_enter Try.func9, Try.ntmps9
 go_wp2
 go_ret
 exact ⟨by first | rfl | (simp; done) | (simp [*]; done), by repeat (first | exact Drawn0.refl _ | apply Drawn0.step)⟩

/-! ### laws_sameInts: function 26 -/
def laws_sameInts.l0 : Nat → List Int → List Int → Int → Option (Bool)
 | 0, _, _, _ => none
 | k + 1, x0, x1, x5 => if x5 < (x0.length : Int) then (if 0 ≤ x5 then (if x5 < (x1.length : Int) then (if (rd x0 x5) = (rd x1 x5) then (laws_sameInts.l0 k x0 x1 (wrap64 (x5 + 1))) else (some false)) else (none)) else (none)) else (some true)
def laws_sameInts.f (k : Nat) (l0 : List Int) (l1 : List Int) : Option (Bool) := if (l0.length : Int) = (l1.length : Int) then (laws_sameInts.l0 k l0 l1 0) else (some false)
set_option maxHeartbeats 8000000 in
set_option maxRecDepth 100000 in
theorem laws_sameInts.calls (k : Nat) (A0 : Option Addr) (c0 : Nat) (l0 : List Int) (A1 : Option Addr) (c1 : Nat) (l1 : List Int) (r : Bool) (w : World) (hr0 : Kd.C (Kd.int .i64) w A0 l0.length l0) (hc0 : l0.length ≤ c0) (hr1 : Kd.C (Kd.int .i64) w A1 l1.length l1) (hc1 : l1.length ≤ c1) (h : laws_sameInts.f k l0 l1 = some r) :
  Calls Try.prog 26 #[.slice A0 l0.length c0, .slice A1 l1.length c1] w fun e w' => e = .returned (.bool r) ∧ Drawn0 w w' := by
 have HR0 := Aside0.mk hr0
 have HC0 := Aside0.mk hc0
 clear hr0 hc0
 have HR1 := Aside0.mk hr1
 have HC1 := Aside0.mk hc1
 clear hr1 hc1
 have H : (if (l0.length : Int) = (l1.length : Int) then (laws_sameInts.l0 k l0 l1 0) else (some false)) = some r := h
 clear h
 by_cases c3 : (l0.length : Int) = (l1.length : Int)
 ·rw [if_pos c3] at H
  have c3b0 : ((l0.length : Int) == (l1.length : Int)) = true := beq_iff_eq.mpr c3
  have c3b1 : ((l0.length : Int) != (l1.length : Int)) = false := bne_eq_false_iff_eq.mpr c3
  have c3b2 : (l0.length == l1.length) = true := by first | simpa using c3 | (simp at c3 ⊢; omega)
  clear c3
  have H' := Aside0.mk H
  clear H
  go_enter Try.func26, Try.ntmps26
  go_wp2
  repeat (go_quiet (fail); try go_wp2)
  go_loopg [5] k (fun kq v5 w' => ∃ (x5_1 : Int), v5 = .int .i64 x5_1 ∧ Aside0 (laws_sameInts.l0 kq l0 l1 x5_1 = some r) ∧ Aside0 (kq ≤ k) ∧ Drawn0 w w')
  case atStart => exact ⟨(0), (by first | rfl | (simp; done) | (simp [*]; done)), H', ⟨Nat.le_refl _⟩, by repeat (first | exact Drawn0.refl _ | apply Drawn0.step)⟩
  case round =>
   clear H'
   (try clear c1); (try clear c2); (try clear p2); (try clear c3); (try clear c3b0); (try clear c3b1); (try clear c3b2)
   obtain ⟨x5_1, rfl, HA, HK1, ⟨m1, rfl⟩⟩ := hrel
   cases gk with
   | zero => exact absurd HA.out (by simp [laws_sameInts.l0])
   | succ k1 =>
    have H := HA.out
    clear HA
    simp only [laws_sameInts.l0] at H
    by_cases c4 : x5_1 < (l0.length : Int)
    ·rw [if_pos c4] at H
     have c4b0 : decide (x5_1 < (l0.length : Int)) = true := decide_eq_true c4
     clear c4
     by_cases c5 : 0 ≤ x5_1
     ·rw [if_pos c5] at H
      have c5b0 : decide (0 ≤ x5_1) = true := decide_eq_true c5
      clear c5
      by_cases c6 : x5_1 < (l1.length : Int)
      ·rw [if_pos c6] at H
       have c6b0 : decide (x5_1 < (l1.length : Int)) = true := decide_eq_true c6
       clear c6
       by_cases c7 : (rd l0 x5_1) = (rd l1 x5_1)
       ·rw [if_pos c7] at H
        have c7b0 : ((rd l0 x5_1) == (rd l1 x5_1)) = true := beq_iff_eq.mpr c7
        have c7b1 : ((rd l0 x5_1) != (rd l1 x5_1)) = false := bne_eq_false_iff_eq.mpr c7
        clear c7
        have H' := Aside0.mk H
        clear H
        have p101 : 0 ≤ (x5_1 : Int) := dt
        have q101 : x5_1 < (l0.length : Int) := dt
        obtain ⟨ad101, e101, hx101_0⟩ := Kd.at_int HR0.out x5_1 p101 q101
        cases e101
        replace p101 := eq_true p101
        replace q101 := eq_true q101
        have p102 : 0 ≤ (x5_1 : Int) := dt
        have q102 : x5_1 < (l1.length : Int) := dt
        obtain ⟨ad102, e102, hx102_0⟩ := Kd.at_int HR1.out x5_1 p102 q102
        cases e102
        replace p102 := eq_true p102
        replace q102 := eq_true q102
        go_wp2
        repeat (go_quiet (fail); try go_wp2)
        go_roundg k1
        case measure => have := HK1.out; omega
        case rel => exact ⟨(wrap64 (x5_1 + 1)), (by first | rfl | (simp; done) | (simp [*]; done)), H', ⟨by have := HK1.out; omega⟩, by repeat (first | exact Drawn0.refl _ | apply Drawn0.step)⟩
       ·rw [if_neg c7] at H
        have c7b0 : ((rd l0 x5_1) == (rd l1 x5_1)) = false := beq_eq_false_iff_ne.mpr c7
        have c7b1 : ((rd l0 x5_1) != (rd l1 x5_1)) = true := bne_iff_ne.mpr c7
        obtain rfl := Option.some.inj H
        have p101 : 0 ≤ (x5_1 : Int) := dt
        have q101 : x5_1 < (l0.length : Int) := dt
        obtain ⟨ad101, e101, hx101_0⟩ := Kd.at_int HR0.out x5_1 p101 q101
        cases e101
        replace p101 := eq_true p101
        replace q101 := eq_true q101
        have p102 : 0 ≤ (x5_1 : Int) := dt
        have q102 : x5_1 < (l1.length : Int) := dt
        obtain ⟨ad102, e102, hx102_0⟩ := Kd.at_int HR1.out x5_1 p102 q102
        cases e102
        replace p102 := eq_true p102
        replace q102 := eq_true q102
        go_wp2
        repeat (go_quiet (fail); try go_wp2)
        go_ret
        exact ⟨by first | rfl | (simp; done) | (simp [*]; done), by repeat (first | exact Drawn0.refl _ | apply Drawn0.step)⟩
      ·rw [if_neg c6] at H
       exact absurd H (by simp)
     ·rw [if_neg c5] at H
      exact absurd H (by simp)
    ·rw [if_neg c4] at H
     have c4b0 : decide (x5_1 < (l0.length : Int)) = false := decide_eq_false c4
     clear c4
     obtain rfl := Option.some.inj H
     go_wp2
     repeat (go_quiet (fail); try go_wp2)
     go_ret
     exact ⟨by first | rfl | (simp; done) | (simp [*]; done), by repeat (first | exact Drawn0.refl _ | apply Drawn0.step)⟩
 ·rw [if_neg c3] at H
  have c3b0 : ((l0.length : Int) == (l1.length : Int)) = false := beq_eq_false_iff_ne.mpr c3
  have c3b1 : ((l0.length : Int) != (l1.length : Int)) = true := bne_iff_ne.mpr c3
  have c3b2 : (l0.length == l1.length) = false := by first | simpa using c3 | (simp at c3 ⊢; omega)
  obtain rfl := Option.some.inj H
  go_enter Try.func26, Try.ntmps26
  go_wp2
  repeat (go_quiet (fail); try go_wp2)
  go_ret
  exact ⟨by first | rfl | (simp; done) | (simp [*]; done), by repeat (first | exact Drawn0.refl _ | apply Drawn0.step)⟩

/-! ### spec_l1In: function 68 -/
def spec_l1In.f (a0 : Int) (a1 : Int) (a2 : Int) : Option (Bool) := if a0 ≥ a1 then (some (decide (a0 ≤ a2))) else (some false)
set_option maxHeartbeats 8000000 in
set_option maxRecDepth 100000 in
theorem spec_l1In.calls (a0 : Int) (a1 : Int) (a2 : Int) (r : Bool) (w : World) (h : spec_l1In.f a0 a1 a2 = some r) :
  Calls Try.prog 68 #[.int .i64 a0, .int .i64 a1, .int .i64 a2] w fun e w' => e = .returned (.bool r) ∧ Drawn0 w w' := by
 have H : (if a0 ≥ a1 then (some (decide (a0 ≤ a2))) else (some false)) = some r := h
 clear h
 by_cases c4 : a0 ≥ a1
 ·rw [if_pos c4] at H
  have c4b0 : decide (a1 ≤ a0) = true := decide_eq_true c4
  clear c4
  obtain rfl := Option.some.inj H
  go_enter Try.func68, Try.ntmps68
  go_wp2
  go_ret
  exact ⟨by first | rfl | (simp; done) | (simp [*]; done), by repeat (first | exact Drawn0.refl _ | apply Drawn0.step)⟩
 ·rw [if_neg c4] at H
  have c4b0 : decide (a1 ≤ a0) = false := decide_eq_false c4
  clear c4
  obtain rfl := Option.some.inj H
  go_enter Try.func68, Try.ntmps68
  go_wp2
  go_ret
  exact ⟨by first | rfl | (simp; done) | (simp [*]; done), by repeat (first | exact Drawn0.refl _ | apply Drawn0.step)⟩

/-! ### spec_ImageOk: function 20 -/
mutual
def spec_ImageOk.l0 : Nat → Int → List (List Int) → Option (Bool)
 | 0, _, _ => none
 | k + 1, x3, x104000 => if x3 < (x104000.length : Int) then (if 0 ≤ x3 then (if ((rd_L2 x104000 x3).length : Int) = 256 then (spec_ImageOk.l1 k x3 0 x104000) else (some false)) else (none)) else ((spec_l1In.f (x104000.length : Int) 1 8).bind fun t104 => (some t104))
def spec_ImageOk.l1 : Nat → Int → Int → List (List Int) → Option (Bool)
 | 0, _, _, _ => none
 | k + 1, x3, x4, x104000 => if x4 < 256 then (if 0 ≤ x3 then (if x3 < (x104000.length : Int) then (if 0 ≤ x4 then (if x4 < ((rd_L2 x104000 x3).length : Int) then ((spec_l1In.f (rd (rd_L2 x104000 x3) x4) 0 255).bind fun t108 => (if t108 = true then (spec_ImageOk.l1 k x3 (wrap64 (x4 + 1)) x104000) else (some false))) else (none)) else (none)) else (none)) else (none)) else (spec_ImageOk.l0 k (wrap64 (x3 + 1)) x104000)
end
def spec_ImageOk.f (k : Nat) (l0_0 : List (List Int)) : Option (Bool) := spec_ImageOk.l0 k 0 l0_0
set_option maxHeartbeats 8000000 in
set_option maxRecDepth 100000 in
theorem spec_ImageOk.calls (k : Nat) (A0_0 : Option Addr) (c0_0 : Nat) (l0_0 : List (List Int)) (r : Bool) (w : World) (hr0_0 : Kd.C (Kd.slice 3 (Kd.int .i64)) w A0_0 l0_0.length l0_0) (hc0_0 : l0_0.length ≤ c0_0) (h : spec_ImageOk.f k l0_0 = some r) :
  Calls Try.prog 20 #[.agg #[.slice A0_0 l0_0.length c0_0]] w fun e w' => e = .returned (.bool r) ∧ Below w.heap.size w w' := by
 have hu29 := Try.underlying29
 have HR0_0 := Aside0.mk hr0_0
 have HC0_0 := Aside0.mk hc0_0
 clear hr0_0 hc0_0
 have HB := Aside0.mk (Below.refl w.heap.size w)
 have H : (spec_ImageOk.l0 k 0 l0_0) = some r := h
 clear h
 have H' := Aside0.mk H
 clear H
 go_enter Try.func20, Try.ntmps20
 go_wp2_with (first | ((with_reducible refine gate_dst (N := 1) rfl ?_); refine bx (N := 1) (cs := #[.slice A0_0 l0_0.length c0_0]) (t := 29) ?_; intro gb103 hg w2 hbox hb; have BK103 := Aside0.mk (hbox); have GW103 := Aside0.mk ((gs hg (bw HB.out))); have GE103 := Aside0.mk ((gs hg (bw HB.out))); replace HB := Aside0.mk (below_step (bw HB.out) hb); clear hb hbox hg))
 go_loopg [3] k (fun kq v3 w' => ∃ (x3_1 : Int), v3 = .int .i64 x3_1 ∧ Aside0 (spec_ImageOk.l0 kq x3_1 l0_0 = some r) ∧ Aside0 (kq ≤ k) ∧ Aside0 (w'.heap[gb103]? = some (.cells #[(.slice A0_0 l0_0.length c0_0)] 29 (0, 0))) ∧ Aside0 (Below w.heap.size w w'))
 case atStart => exact ⟨(0), (by first | rfl | (simp; done) | (simp [*]; done)), H', ⟨Nat.le_refl _⟩, ⟨kb BK103.out⟩, ⟨bw HB.out⟩⟩
 case round =>
  clear H'
  (try clear c2); (try clear p2)
  obtain ⟨x3_1, rfl, HA, HK1, BK103, HB⟩ := hrel
  cases gk with
  | zero => exact absurd HA.out (by simp [spec_ImageOk.l0])
  | succ k1 =>
   have H := HA.out
   clear HA
   simp only [spec_ImageOk.l0] at H
   by_cases c3 : x3_1 < (l0_0.length : Int)
   ·rw [if_pos c3] at H
    have c3b0 : decide (x3_1 < (l0_0.length : Int)) = true := decide_eq_true c3
    clear c3
    by_cases c4 : 0 ≤ x3_1
    ·rw [if_pos c4] at H
     have c4b0 : decide (0 ≤ x3_1) = true := decide_eq_true c4
     clear c4
     by_cases c5 : ((rd_L2 l0_0 x3_1).length : Int) = 256
     ·rw [if_pos c5] at H
      have c5b0 : (((rd_L2 l0_0 x3_1).length : Int) == 256) = true := beq_iff_eq.mpr c5
      have c5b1 : (((rd_L2 l0_0 x3_1).length : Int) != 256) = false := bne_eq_false_iff_eq.mpr c5
      clear c5
      have H' := Aside0.mk H
      clear H
      have hcz6_0 : wr.cell? ⟨gb103, 0, none⟩ = some (.slice A0_0 l0_0.length c0_0) := cl BK103 0
      have hfz6_0 := blk_frozen BK103.out 0
      have p105 : 0 ≤ (x3_1 : Int) := dt
      have q105 : x3_1 < (l0_0.length : Int) := dt
      obtain ⟨ad105, A105_0, c105_0, e105, hx105_0, hl105_0, hi105_0⟩ := at_L2 HR0_0.out x3_1 p105 q105
      cases e105
      replace hx105_0 := (HB.out.cell (World.block_lt_of_cell? w _ hx105_0)).trans hx105_0
      have HR105_0 := Aside0.mk hi105_0
      have HC105_0 := Aside0.mk hl105_0
      clear hi105_0 hl105_0
      replace p105 := eq_true p105
      replace q105 := eq_true q105
      go_wp2
      go_loopg [4] k1 (fun kq v4 w' => ∃ (x4_2 : Int), v4 = .int .i64 x4_2 ∧ Aside0 (spec_ImageOk.l1 kq x3_1 x4_2 l0_0 = some r) ∧ Aside0 (kq ≤ k1) ∧ Aside0 (w'.heap[gb103]? = some (.cells #[(.slice (some ad105) l0_0.length c0_0)] 29 (0, 0))) ∧ Aside0 (Below w.heap.size w w'))
      case atStart => exact ⟨(0), (by first | rfl | (simp; done) | (simp [*]; done)), H', ⟨Nat.le_refl _⟩, ⟨kb BK103.out⟩, ⟨bw HB.out⟩⟩
      case round =>
       clear H'
       (try clear c1); (try clear p1); (try clear q1); (try clear hx1); (try clear c2); (try clear p2); (try clear c3); (try clear c3b0); (try clear c4); (try clear c4b0); (try clear c5); (try clear c5b0); (try clear c5b1); (try clear hcz6_0); (try clear hfz6_0); (try clear hx105_0); (try clear p105); (try clear p2); (try clear q105)
       obtain ⟨x4_2, rfl, HA, HK2, BK103, HB⟩ := hrel
       cases gk with
       | zero => exact absurd HA.out (by simp [spec_ImageOk.l1])
       | succ k2 =>
        have H := HA.out
        clear HA
        simp only [spec_ImageOk.l1] at H
        by_cases c7 : x4_2 < 256
        ·rw [if_pos c7] at H
         have c7b0 : decide (x4_2 < 256) = true := decide_eq_true c7
         clear c7
         by_cases c8 : 0 ≤ x3_1
         ·rw [if_pos c8] at H
          have c8b0 : decide (0 ≤ x3_1) = true := decide_eq_true c8
          clear c8
          by_cases c9 : x3_1 < (l0_0.length : Int)
          ·rw [if_pos c9] at H
           have c9b0 : decide (x3_1 < (l0_0.length : Int)) = true := decide_eq_true c9
           clear c9
           by_cases c10 : 0 ≤ x4_2
           ·rw [if_pos c10] at H
            have c10b0 : decide (0 ≤ x4_2) = true := decide_eq_true c10
            clear c10
            by_cases c11 : x4_2 < ((rd_L2 l0_0 x3_1).length : Int)
            ·rw [if_pos c11] at H
             have c11b0 : decide (x4_2 < ((rd_L2 l0_0 x3_1).length : Int)) = true := decide_eq_true c11
             clear c11
             replace H := Option.bind_eq_some_iff.mp H
             obtain ⟨t108, A120, H⟩ := H
             replace H : (if t108 = true then (spec_ImageOk.l1 k2 x3_1 (wrap64 (x4_2 + 1)) l0_0) else (some false)) = some r := H
             have A12 := Aside0.mk A120
             clear A120
             by_cases c13 : t108 = true
             ·subst c13
              have H1 : (spec_ImageOk.l1 k2 x3_1 (wrap64 (x4_2 + 1)) l0_0) = some r := by rw [if_pos rfl] at H; exact H
              clear H
              have H := H1
              clear H1
              have H' := Aside0.mk H
              clear H
              have hcz14_0 : wr.cell? ⟨gb103, 0, none⟩ = some (.slice (some ad105) l0_0.length c0_0) := cl BK103 0
              have hfz14_0 := blk_frozen BK103.out 0
              have p106 : 0 ≤ (x3_1 : Int) := dt
              have q106 : x3_1 < (l0_0.length : Int) := dt
              obtain ⟨ad106, A106_0, c106_0, e106, hx106_0, hl106_0, hi106_0⟩ := at_L2 HR0_0.out x3_1 p106 q106
              obtain rfl : ad105 = ad106 := (by injection e106)
              replace hx106_0 := (HB.out.cell (World.block_lt_of_cell? w _ hx106_0)).trans hx106_0
              have HR106_0 := Aside0.mk hi106_0
              have HC106_0 := Aside0.mk hl106_0
              clear hi106_0 hl106_0
              replace p106 := eq_true p106
              replace q106 := eq_true q106
              have p107 : 0 ≤ (x4_2 : Int) := dt
              have q107 : x4_2 < ((rd_L2 l0_0 x3_1).length : Int) := dt
              obtain ⟨ad107, e107, hx107_0⟩ := Kd.at_int HR106_0.out x4_2 p107 q107
              cases e107
              replace hx107_0 := (HB.out.cell (World.block_lt_of_cell? w _ hx107_0)).trans hx107_0
              replace p107 := eq_true p107
              replace q107 := eq_true q107
              go_wp2_with (first | ((with_reducible refine gate_callee (f := 68) rfl ?_); refine goesM_ (some 31) rfl rfl Try.func68 #[.int .i64 (rd (rd_L2 l0_0 x3_1) x4_2), .int .i64 0, .int .i64 255] ?_; (with_reducible refine (spec_l1In.calls (rd (rd_L2 l0_0 x3_1) x4_2) 0 255 true _ A12.out).mono ?_); rintro e w' ⟨rfl, ⟨nd, rfl⟩⟩; refine ⟨_, rfl, ?_⟩))
              go_roundg k2
              case measure => have := HK1.out; have := HK2.out; omega
              case rel => exact ⟨(wrap64 (x4_2 + 1)), (by first | rfl | (simp; done) | (simp [*]; done)), H', ⟨by have := HK1.out; have := HK2.out; omega⟩, ⟨kb BK103.out⟩, ⟨bw HB.out⟩⟩
             ·replace c13 := Bool.eq_false_iff.mpr c13
              subst c13
              have H1 : (some false) = some r := by rw [if_neg (show ¬ (false = true) by decide)] at H; exact H
              clear H
              have H := H1
              clear H1
              obtain rfl := Option.some.inj H
              have hcz15_0 : wr.cell? ⟨gb103, 0, none⟩ = some (.slice (some ad105) l0_0.length c0_0) := cl BK103 0
              have hfz15_0 := blk_frozen BK103.out 0
              have p106 : 0 ≤ (x3_1 : Int) := dt
              have q106 : x3_1 < (l0_0.length : Int) := dt
              obtain ⟨ad106, A106_0, c106_0, e106, hx106_0, hl106_0, hi106_0⟩ := at_L2 HR0_0.out x3_1 p106 q106
              obtain rfl : ad105 = ad106 := (by injection e106)
              replace hx106_0 := (HB.out.cell (World.block_lt_of_cell? w _ hx106_0)).trans hx106_0
              have HR106_0 := Aside0.mk hi106_0
              have HC106_0 := Aside0.mk hl106_0
              clear hi106_0 hl106_0
              replace p106 := eq_true p106
              replace q106 := eq_true q106
              have p107 : 0 ≤ (x4_2 : Int) := dt
              have q107 : x4_2 < ((rd_L2 l0_0 x3_1).length : Int) := dt
              obtain ⟨ad107, e107, hx107_0⟩ := Kd.at_int HR106_0.out x4_2 p107 q107
              cases e107
              replace hx107_0 := (HB.out.cell (World.block_lt_of_cell? w _ hx107_0)).trans hx107_0
              replace p107 := eq_true p107
              replace q107 := eq_true q107
              go_wp2_with (first | ((with_reducible refine gate_callee (f := 68) rfl ?_); refine goesM_ (some 31) rfl rfl Try.func68 #[.int .i64 (rd (rd_L2 l0_0 x3_1) x4_2), .int .i64 0, .int .i64 255] ?_; (with_reducible refine (spec_l1In.calls (rd (rd_L2 l0_0 x3_1) x4_2) 0 255 false _ A12.out).mono ?_); rintro e w' ⟨rfl, ⟨nd, rfl⟩⟩; refine ⟨_, rfl, ?_⟩))
              go_ret
              exact ⟨rt, bw HB.out⟩
            ·rw [if_neg c11] at H
             exact absurd H (by simp)
           ·rw [if_neg c10] at H
            exact absurd H (by simp)
          ·rw [if_neg c9] at H
           exact absurd H (by simp)
         ·rw [if_neg c8] at H
          exact absurd H (by simp)
        ·rw [if_neg c7] at H
         have c7b0 : decide (x4_2 < 256) = false := decide_eq_false c7
         clear c7
         have H' := Aside0.mk H
         clear H
         go_wp2
         go_roundg k2
         case measure => have := HK1.out; have := HK2.out; omega
         case rel => exact ⟨(wrap64 (x3_1 + 1)), (by first | rfl | (simp; done) | (simp [*]; done)), H', ⟨by have := HK1.out; have := HK2.out; omega⟩, ⟨kb BK103.out⟩, ⟨bw HB.out⟩⟩
     ·rw [if_neg c5] at H
      have c5b0 : (((rd_L2 l0_0 x3_1).length : Int) == 256) = false := beq_eq_false_iff_ne.mpr c5
      have c5b1 : (((rd_L2 l0_0 x3_1).length : Int) != 256) = true := bne_iff_ne.mpr c5
      obtain rfl := Option.some.inj H
      have hcz16_0 : wr.cell? ⟨gb103, 0, none⟩ = some (.slice A0_0 l0_0.length c0_0) := cl BK103 0
      have hfz16_0 := blk_frozen BK103.out 0
      have p105 : 0 ≤ (x3_1 : Int) := dt
      have q105 : x3_1 < (l0_0.length : Int) := dt
      obtain ⟨ad105, A105_0, c105_0, e105, hx105_0, hl105_0, hi105_0⟩ := at_L2 HR0_0.out x3_1 p105 q105
      cases e105
      replace hx105_0 := (HB.out.cell (World.block_lt_of_cell? w _ hx105_0)).trans hx105_0
      have HR105_0 := Aside0.mk hi105_0
      have HC105_0 := Aside0.mk hl105_0
      clear hi105_0 hl105_0
      replace p105 := eq_true p105
      replace q105 := eq_true q105
      go_wp2
      go_ret
      exact ⟨rt, bw HB.out⟩
    ·rw [if_neg c4] at H
     exact absurd H (by simp)
   ·rw [if_neg c3] at H
    have c3b0 : decide (x3_1 < (l0_0.length : Int)) = false := decide_eq_false c3
    clear c3
    replace H := Option.bind_eq_some_iff.mp H
    obtain ⟨t104, A170, H⟩ := H
    replace H : (some t104) = some r := H
    have A17 := Aside0.mk A170
    clear A170
    obtain rfl := Option.some.inj H
    have hcz18_0 : wr.cell? ⟨gb103, 0, none⟩ = some (.slice A0_0 l0_0.length c0_0) := cl BK103 0
    have hfz18_0 := blk_frozen BK103.out 0
    go_wp2_with (first | ((with_reducible refine gate_callee (f := 68) rfl ?_); refine goesM_ (some 36) rfl rfl Try.func68 #[.int .i64 (l0_0.length : Int), .int .i64 1, .int .i64 8] ?_; (with_reducible refine (spec_l1In.calls (l0_0.length : Int) 1 8 t104 _ A17.out).mono ?_); rintro e w' ⟨rfl, ⟨nd, rfl⟩⟩; refine ⟨_, rfl, ?_⟩))
    go_ret
    exact ⟨rt, bw HB.out⟩

/-! ### spec_l5Byte: function 79 -/
def spec_l5Byte.f (a0 : Int) : Option (Bool) := (spec_l1In.f a0 0 255).bind fun t109 => (some t109)
set_option maxHeartbeats 8000000 in
set_option maxRecDepth 100000 in
theorem spec_l5Byte.calls (a0 : Int) (r : Bool) (w : World) (h : spec_l5Byte.f a0 = some r) :
  Calls Try.prog 79 #[.int .i64 a0] w fun e w' => e = .returned (.bool r) ∧ Drawn0 w w' := by
 have H : ((spec_l1In.f a0 0 255).bind fun t109 => (some t109)) = some r := h
 clear h
 replace H := Option.bind_eq_some_iff.mp H
 obtain ⟨t109, A20, H⟩ := H
 replace H : (some t109) = some r := H
 have A2 := Aside0.mk A20
 clear A20
 obtain rfl := Option.some.inj H
 go_enter Try.func79, Try.ntmps79
 go_wp2_with (first | ((with_reducible refine gate_callee (f := 68) rfl ?_); refine goesM_ (some 4) rfl rfl Try.func68 #[.int .i64 a0, .int .i64 0, .int .i64 255] ?_; (with_reducible refine (spec_l1In.calls a0 0 255 t109 _ A2.out).mono ?_); rintro e w' ⟨rfl, ⟨nd, rfl⟩⟩; refine ⟨_, rfl, ?_⟩))
 go_ret
 exact ⟨by first | rfl | (simp; done) | (simp [*]; done), by repeat (first | exact Drawn0.refl _ | apply Drawn0.step)⟩

/-! ### spec_MemOk: function 33 -/
mutual
def spec_MemOk.j0 : Nat → Bool → List Int → Int → Option (Bool)
 | 0, _, _, _ => none
 | k + 1, x24, x112000, x112001 => if x24 = true then (some false) else (spec_MemOk.l0 k 0 x112000 x112001)
def spec_MemOk.l0 : Nat → Int → List Int → Int → Option (Bool)
 | 0, _, _, _ => none
 | k + 1, x5, x112000, x112001 => if x5 < 512 then (if 0 ≤ x5 then (if x5 < (x112000.length : Int) then ((spec_l5Byte.f (rd x112000 x5)).bind fun t115 => (if t115 = true then (spec_MemOk.l0 k (wrap64 (x5 + 1)) x112000 x112001) else (some false))) else (none)) else (none)) else (some true)
end
def spec_MemOk.f (k : Nat) (l0_0 : List (List Int)) (l1_0 : List Int) (a1_1 : Int) : Option (Bool) := (spec_ImageOk.f k l0_0).bind fun t112 => (if t112 = true then (if (l1_0.length : Int) = 512 then ((spec_l1In.f a1_1 0 (wrap64 ((l0_0.length : Int) - 1))).bind fun t113 => (spec_MemOk.j0 k (!t113) l1_0 a1_1)) else (spec_MemOk.j0 k true l1_0 a1_1)) else (spec_MemOk.j0 k true l1_0 a1_1))
set_option maxHeartbeats 8000000 in
set_option maxRecDepth 100000 in
theorem spec_MemOk.calls (k : Nat) (A0_0 : Option Addr) (c0_0 : Nat) (l0_0 : List (List Int)) (A1_0 : Option Addr) (c1_0 : Nat) (l1_0 : List Int) (a1_1 : Int) (r : Bool) (w : World) (hr0_0 : Kd.C (Kd.slice 3 (Kd.int .i64)) w A0_0 l0_0.length l0_0) (hc0_0 : l0_0.length ≤ c0_0) (hr1_0 : Kd.C (Kd.int .i64) w A1_0 l1_0.length l1_0) (hc1_0 : l1_0.length ≤ c1_0) (h : spec_MemOk.f k l0_0 l1_0 a1_1 = some r) :
  Calls Try.prog 33 #[.agg #[.slice A0_0 l0_0.length c0_0], .agg #[.slice A1_0 l1_0.length c1_0, .int .i64 a1_1]] w fun e w' => e = .returned (.bool r) ∧ Below w.heap.size w w' := by
 have hu29 := Try.underlying29
 have hu32 := Try.underlying32
 have HR0_0 := Aside0.mk hr0_0
 have HC0_0 := Aside0.mk hc0_0
 clear hr0_0 hc0_0
 have HR1_0 := Aside0.mk hr1_0
 have HC1_0 := Aside0.mk hc1_0
 clear hr1_0 hc1_0
 have HB := Aside0.mk (Below.refl w.heap.size w)
 have H : ((spec_ImageOk.f k l0_0).bind fun t112 => (if t112 = true then (if (l1_0.length : Int) = 512 then ((spec_l1In.f a1_1 0 (wrap64 ((l0_0.length : Int) - 1))).bind fun t113 => (spec_MemOk.j0 k (!t113) l1_0 a1_1)) else (spec_MemOk.j0 k true l1_0 a1_1)) else (spec_MemOk.j0 k true l1_0 a1_1))) = some r := h
 clear h
 have HC3 := Aside0.mk H
 clear H
 go_enter Try.func33, Try.ntmps33
 go_upto_region 1 with (first | ((with_reducible refine gate_dst (N := 2) rfl ?_); (try (refine gate_guard (by rfl) ?_; dsimp only)); refine bx (N := 2) (cs := #[.slice A0_0 l0_0.length c0_0]) (t := 29) ?_; intro gb110 hg w4 hbox hb; have BK110 := Aside0.mk (hbox); have GW110 := Aside0.mk ((gs hg (bw HB.out))); have GE110 := Aside0.mk ((gs hg (bw HB.out))); replace HB := Aside0.mk (below_step (bw HB.out) hb); clear hb hbox hg) | ((with_reducible refine gate_dst (N := 3) rfl ?_); (try (refine gate_guard (by rfl) ?_; dsimp only)); refine bx (N := 3) (cs := #[.slice A1_0 l1_0.length c1_0, .int .i64 a1_1]) (t := 32) ?_; intro gb111 hg w5 hbox hb; have BK111 := Aside0.mk (hbox); have GW111 := Aside0.mk ((gs hg (bw HB.out))); have GE111 := Aside0.mk ((gs hg (bw HB.out))); replace HB := Aside0.mk (below_step (bw HB.out) hb); have NB110_111 := Aside0.mk ((ga hg BK110.out)); have NB111_110 := Aside0.mk ((gc hg BK110.out)); replace BK110 := Aside0.mk (bb BK110 hb); clear hb hbox hg))
 (try simp only [Act.put, List.setIfInBounds_toArray, List.set_cons_zero, List.set_cons_succ])
 go_cut [24] (fun v24 wc => ∃ (kq : Nat) (x24_2 : Bool), v24 = .bool x24_2 ∧ Aside0 (spec_MemOk.j0 kq x24_2 l1_0 a1_1 = some r) ∧ Aside0 (kq ≤ k) ∧ Aside0 (wc.heap[gb110]? = some (.cells #[(.slice A0_0 l0_0.length c0_0)] 29 (0, 0))) ∧ Aside0 (wc.heap[gb111]? = some (.cells #[(.slice A1_0 l1_0.length c1_0), .int .i64 a1_1] 32 (0, 0))) ∧ Aside0 (Below w.heap.size w wc))
 case first =>
  have H := HC3.out
  clear HC3
  replace H := Option.bind_eq_some_iff.mp H
  obtain ⟨t112, A60, H⟩ := H
  replace H : (if t112 = true then (if (l1_0.length : Int) = 512 then ((spec_l1In.f a1_1 0 (wrap64 ((l0_0.length : Int) - 1))).bind fun t113 => (spec_MemOk.j0 k (!t113) l1_0 a1_1)) else (spec_MemOk.j0 k true l1_0 a1_1)) else (spec_MemOk.j0 k true l1_0 a1_1)) = some r := H
  have A6 := Aside0.mk A60
  clear A60
  by_cases c7 : t112 = true
  ·subst c7
   have H1 : (if (l1_0.length : Int) = 512 then ((spec_l1In.f a1_1 0 (wrap64 ((l0_0.length : Int) - 1))).bind fun t113 => (spec_MemOk.j0 k (!t113) l1_0 a1_1)) else (spec_MemOk.j0 k true l1_0 a1_1)) = some r := by rw [if_pos rfl] at H; exact H
   clear H
   have H := H1
   clear H1
   by_cases c8 : (l1_0.length : Int) = 512
   ·rw [if_pos c8] at H
    have c8b0 : ((l1_0.length : Int) == 512) = true := beq_iff_eq.mpr c8
    have c8b1 : ((l1_0.length : Int) != 512) = false := bne_eq_false_iff_eq.mpr c8
    clear c8
    (first | rw [c8b0] | (simp only [i64_w, i32_w]; rw [c8b0]) | skip)
    replace H := Option.bind_eq_some_iff.mp H
    obtain ⟨t113, A90, H⟩ := H
    replace H : (spec_MemOk.j0 k (!t113) l1_0 a1_1) = some r := H
    have A9 := Aside0.mk A90
    clear A90
    have H' := Aside0.mk H
    clear H
    have hnb10 := NB110_111.out
    have hnc10 := NB111_110.out
    have hcz11_0 : w5.cell? ⟨gb110, 0, none⟩ = some (.slice A0_0 l0_0.length c0_0) := cl BK110 0
    have hfz11_0 := blk_frozen BK110.out 0
    go_wp2_with (first | ((with_reducible refine gate_callee (f := 20) rfl ?_); refine goesM_ (some 7) rfl rfl Try.func20 #[.agg #[.slice A0_0 l0_0.length c0_0]] ?_; (with_reducible refine (spec_ImageOk.calls k _ _ l0_0 true _ ?side1 ?side2 A6.out).mono ?_); (case side1 => exact kc (Kd.C_below HR0_0.out HB.out)); (case side2 => exact HC0_0.out); rintro e w12 ⟨rfl, hb⟩; refine ⟨_, rfl, ?_⟩; replace BK110 := Aside0.mk (bb BK110 hb); replace BK111 := Aside0.mk (bb BK111 hb); replace HB := Aside0.mk (below_step (bw HB.out) hb); (try clear hb); (try clear hb2); (try clear hk); (try clear hi); obtain ⟨hcz13_0, hcz13_1⟩ := ce2 BK111; obtain ⟨hfz13_0, hfz13_1⟩ := fz2 BK111; have hcz14_0 : w12.cell? ⟨gb110, 0, none⟩ = some (.slice A0_0 l0_0.length c0_0) := cl BK110 0; have hfz14_0 := blk_frozen BK110.out 0) | (go_at_call 68; (with_reducible refine (spec_l1In.calls a1_1 0 (wrap64 ((l0_0.length : Int) - 1)) t113 _ A9.out).mono ?_); rintro e w' ⟨rfl, ⟨nd, rfl⟩⟩))
    go_meet
    case rel => exact ⟨_, (!t113), (by first | rfl | (simp; done) | (simp [*]; done)), H', ⟨by first | omega | exact Nat.le_refl _⟩, ⟨kb BK110.out⟩, ⟨kb BK111.out⟩, ⟨bw HB.out⟩⟩
   ·rw [if_neg c8] at H
    have c8b0 : ((l1_0.length : Int) == 512) = false := beq_eq_false_iff_ne.mpr c8
    have c8b1 : ((l1_0.length : Int) != 512) = true := bne_iff_ne.mpr c8
    (first | rw [c8b0] | (simp only [i64_w, i32_w]; rw [c8b0]) | skip)
    have H' := Aside0.mk H
    clear H
    have hnb15 := NB110_111.out
    have hnc15 := NB111_110.out
    have hcz16_0 : w5.cell? ⟨gb110, 0, none⟩ = some (.slice A0_0 l0_0.length c0_0) := cl BK110 0
    have hfz16_0 := blk_frozen BK110.out 0
    go_wp2_with (first | ((with_reducible refine gate_callee (f := 20) rfl ?_); refine goesM_ (some 7) rfl rfl Try.func20 #[.agg #[.slice A0_0 l0_0.length c0_0]] ?_; (with_reducible refine (spec_ImageOk.calls k _ _ l0_0 true _ ?side1 ?side2 A6.out).mono ?_); (case side1 => exact kc (Kd.C_below HR0_0.out HB.out)); (case side2 => exact HC0_0.out); rintro e w17 ⟨rfl, hb⟩; refine ⟨_, rfl, ?_⟩; replace BK110 := Aside0.mk (bb BK110 hb); replace BK111 := Aside0.mk (bb BK111 hb); replace HB := Aside0.mk (below_step (bw HB.out) hb); (try clear hb); (try clear hb2); (try clear hk); (try clear hi); obtain ⟨hcz18_0, hcz18_1⟩ := ce2 BK111; have hfz18_0 := blk_frozen BK111.out 0; have hfz18_1 := blk_frozen BK111.out 1))
    go_meet
    case rel => exact ⟨_, (true), (by first | rfl | (simp; done) | (simp [*]; done)), H', ⟨by first | omega | exact Nat.le_refl _⟩, ⟨kb BK110.out⟩, ⟨kb BK111.out⟩, ⟨bw HB.out⟩⟩
  ·replace c7 := Bool.eq_false_iff.mpr c7
   subst c7
   have H1 : (spec_MemOk.j0 k true l1_0 a1_1) = some r := by rw [if_neg (show ¬ (false = true) by decide)] at H; exact H
   clear H
   have H := H1
   clear H1
   have H' := Aside0.mk H
   clear H
   have hnb19 := NB110_111.out
   have hnc19 := NB111_110.out
   have hcz20_0 : w5.cell? ⟨gb110, 0, none⟩ = some (.slice A0_0 l0_0.length c0_0) := cl BK110 0
   have hfz20_0 := blk_frozen BK110.out 0
   go_wp2_with (first | ((with_reducible refine gate_callee (f := 20) rfl ?_); refine goesM_ (some 7) rfl rfl Try.func20 #[.agg #[.slice A0_0 l0_0.length c0_0]] ?_; (with_reducible refine (spec_ImageOk.calls k _ _ l0_0 false _ ?side1 ?side2 A6.out).mono ?_); (case side1 => exact kc (Kd.C_below HR0_0.out HB.out)); (case side2 => exact HC0_0.out); rintro e w21 ⟨rfl, hb⟩; refine ⟨_, rfl, ?_⟩; replace BK110 := Aside0.mk (bb BK110 hb); replace BK111 := Aside0.mk (bb BK111 hb); replace HB := Aside0.mk (below_step (bw HB.out) hb); (try clear hb); (try clear hb2); (try clear hk); (try clear hi)))
   go_meet
   case rel => exact ⟨_, (true), (by first | rfl | (simp; done) | (simp [*]; done)), H', ⟨by first | omega | exact Nat.le_refl _⟩, ⟨kb BK110.out⟩, ⟨kb BK111.out⟩, ⟨bw HB.out⟩⟩
 case rest =>
  clear HC3; (try clear c1); (try clear c2); (try clear p2); (try clear c3); (try clear p6); (try clear c7); (try clear c8); (try clear c8b0); (try clear c8b1); (try clear c10); (try clear c15); (try clear c19); (try clear c20); (try clear hcz11_0); (try clear hcz13_0); (try clear hcz13_1); (try clear hcz14_0); (try clear hcz16_0); (try clear hcz18_0); (try clear hcz18_1); (try clear hcz20_0); (try clear hfz11_0); (try clear hfz13_0); (try clear hfz13_1); (try clear hfz14_0); (try clear hfz16_0); (try clear hfz18_0); (try clear hfz18_1); (try clear hfz20_0)
  obtain ⟨kq, x24_2, rfl, HA, HJ2, BK110, BK111, HB⟩ := hcut
  cases kq with
  | zero => exact absurd HA.out (by simp [spec_MemOk.j0])
  | succ kj2 =>
   have H := HA.out
   clear HA
   simp only [spec_MemOk.j0] at H
   by_cases c22 : x24_2 = true
   ·subst c22
    have H1 : (some false) = some r := by rw [if_pos rfl] at H; exact H
    clear H
    have H := H1
    clear H1
    obtain rfl := Option.some.inj H
    go_wp2
    go_ret
    exact ⟨rt, bw HB.out⟩
   ·replace c22 := Bool.eq_false_iff.mpr c22
    subst c22
    have H1 : (spec_MemOk.l0 kj2 0 l1_0 a1_1) = some r := by rw [if_neg (show ¬ (false = true) by decide)] at H; exact H
    clear H
    have H := H1
    clear H1
    have H' := Aside0.mk H
    clear H
    go_wp2
    go_loopg [5] kj2 (fun kq v5 w' => ∃ (x5_2 : Int), v5 = .int .i64 x5_2 ∧ Aside0 (spec_MemOk.l0 kq x5_2 l1_0 a1_1 = some r) ∧ Aside0 (kq ≤ kj2) ∧ Aside0 (w'.heap[gb110]? = some (.cells #[(.slice A0_0 l0_0.length c0_0)] 29 (0, 0))) ∧ Aside0 (w'.heap[gb111]? = some (.cells #[(.slice A1_0 l1_0.length c1_0), .int .i64 a1_1] 32 (0, 0))) ∧ Aside0 (Below w.heap.size w w'))
    case atStart => exact ⟨(0), (by first | rfl | (simp; done) | (simp [*]; done)), H', ⟨Nat.le_refl _⟩, ⟨kb BK110.out⟩, ⟨kb BK111.out⟩, ⟨bw HB.out⟩⟩
    case round =>
     clear H'
     (try clear c1); (try clear c2); (try clear p2); (try clear c3); (try clear p6); (try clear c7); (try clear c8); (try clear c8b0); (try clear c8b1); (try clear c10); (try clear c15); (try clear c19); (try clear c20); (try clear c22); (try clear hcz11_0); (try clear hcz13_0); (try clear hcz13_1); (try clear hcz14_0); (try clear hcz16_0); (try clear hcz18_0); (try clear hcz18_1); (try clear hcz20_0); (try clear hfz11_0); (try clear hfz13_0); (try clear hfz13_1); (try clear hfz14_0); (try clear hfz16_0); (try clear hfz18_0); (try clear hfz18_1); (try clear hfz20_0); (try clear p2); (try clear p6)
     obtain ⟨x5_2, rfl, HA, HK2, BK110, BK111, HB⟩ := hrel
     cases gk with
     | zero => exact absurd HA.out (by simp [spec_MemOk.l0])
     | succ k2 =>
      have H := HA.out
      clear HA
      simp only [spec_MemOk.l0] at H
      by_cases c23 : x5_2 < 512
      ·rw [if_pos c23] at H
       have c23b0 : decide (x5_2 < 512) = true := decide_eq_true c23
       clear c23
       by_cases c24 : 0 ≤ x5_2
       ·rw [if_pos c24] at H
        have c24b0 : decide (0 ≤ x5_2) = true := decide_eq_true c24
        clear c24
        by_cases c25 : x5_2 < (l1_0.length : Int)
        ·rw [if_pos c25] at H
         have c25b0 : decide (x5_2 < (l1_0.length : Int)) = true := decide_eq_true c25
         clear c25
         replace H := Option.bind_eq_some_iff.mp H
         obtain ⟨t115, A260, H⟩ := H
         replace H : (if t115 = true then (spec_MemOk.l0 k2 (wrap64 (x5_2 + 1)) l1_0 a1_1) else (some false)) = some r := H
         have A26 := Aside0.mk A260
         clear A260
         by_cases c27 : t115 = true
         ·subst c27
          have H1 : (spec_MemOk.l0 k2 (wrap64 (x5_2 + 1)) l1_0 a1_1) = some r := by rw [if_pos rfl] at H; exact H
          clear H
          have H := H1
          clear H1
          have H' := Aside0.mk H
          clear H
          have hnb28 := NB111_110.out
          have hnc28 := NB110_111.out
          obtain ⟨hcz29_0, hcz29_1⟩ := ce2 BK111
          obtain ⟨hfz29_0, hfz29_1⟩ := fz2 BK111
          have p114 : 0 ≤ (x5_2 : Int) := dt
          have q114 : x5_2 < (l1_0.length : Int) := dt
          obtain ⟨ad114, e114, hx114_0⟩ := Kd.at_int HR1_0.out x5_2 p114 q114
          cases e114
          replace hx114_0 := (HB.out.cell (World.block_lt_of_cell? w _ hx114_0)).trans hx114_0
          replace p114 := eq_true p114
          replace q114 := eq_true q114
          go_wp2_with (first | ((with_reducible refine gate_callee (f := 79) rfl ?_); refine goesM_ (some 34) rfl rfl Try.func79 #[.int .i64 (rd l1_0 x5_2)] ?_; (with_reducible refine (spec_l5Byte.calls (rd l1_0 x5_2) true _ A26.out).mono ?_); rintro e w' ⟨rfl, ⟨nd, rfl⟩⟩; refine ⟨_, rfl, ?_⟩))
          go_roundg k2
          case measure => have := HJ2.out; have := HK2.out; omega
          case rel => exact ⟨(wrap64 (x5_2 + 1)), (by first | rfl | (simp; done) | (simp [*]; done)), H', ⟨by have := HJ2.out; have := HK2.out; omega⟩, ⟨kb BK110.out⟩, ⟨kb BK111.out⟩, ⟨bw HB.out⟩⟩
         ·replace c27 := Bool.eq_false_iff.mpr c27
          subst c27
          have H1 : (some false) = some r := by rw [if_neg (show ¬ (false = true) by decide)] at H; exact H
          clear H
          have H := H1
          clear H1
          obtain rfl := Option.some.inj H
          have hnb30 := NB111_110.out
          have hnc30 := NB110_111.out
          obtain ⟨hcz31_0, hcz31_1⟩ := ce2 BK111
          obtain ⟨hfz31_0, hfz31_1⟩ := fz2 BK111
          have p114 : 0 ≤ (x5_2 : Int) := dt
          have q114 : x5_2 < (l1_0.length : Int) := dt
          obtain ⟨ad114, e114, hx114_0⟩ := Kd.at_int HR1_0.out x5_2 p114 q114
          cases e114
          replace hx114_0 := (HB.out.cell (World.block_lt_of_cell? w _ hx114_0)).trans hx114_0
          replace p114 := eq_true p114
          replace q114 := eq_true q114
          go_wp2_with (first | ((with_reducible refine gate_callee (f := 79) rfl ?_); refine goesM_ (some 34) rfl rfl Try.func79 #[.int .i64 (rd l1_0 x5_2)] ?_; (with_reducible refine (spec_l5Byte.calls (rd l1_0 x5_2) false _ A26.out).mono ?_); rintro e w' ⟨rfl, ⟨nd, rfl⟩⟩; refine ⟨_, rfl, ?_⟩))
          go_ret
          exact ⟨rt, bw HB.out⟩
        ·rw [if_neg c25] at H
         exact absurd H (by simp)
       ·rw [if_neg c24] at H
        exact absurd H (by simp)
      ·rw [if_neg c23] at H
       have c23b0 : decide (x5_2 < 512) = false := decide_eq_false c23
       clear c23
       obtain rfl := Option.some.inj H
       go_wp2
       go_ret
       exact ⟨rt, bw HB.out⟩

/-! ### impl_Byte: function 34 -/
def impl_Byte.f (a0 : Int) : Option (Int) := some (Go.bits .and .i64 a0 255)
set_option maxHeartbeats 8000000 in
set_option maxRecDepth 100000 in
theorem impl_Byte.calls (a0 : Int) (r : Int) (w : World) (h : impl_Byte.f a0 = some r) :
  Calls Try.prog 34 #[.int .i64 a0] w fun e w' => e = .returned (.int .i64 r) ∧ Drawn0 w w' := by
 have H : (some (Go.bits .and .i64 a0 255)) = some r := h
 clear h
 obtain rfl := Option.some.inj H
 go_enter Try.func34, Try.ntmps34
 go_wp2
 go_ret
 exact ⟨by first | rfl | (simp; done) | (simp [*]; done), by repeat (first | exact Drawn0.refl _ | apply Drawn0.step)⟩

/-! ### mine_words (mine) -/
theorem and_low (n : Int) (j : Nat) (m : Int) (hj : j < 64) (hm : (BitVec.ofInt 64 m).toNat = 2 ^ j - 1) : Go.bits .and .i64 n m = n % (2 ^ j : Nat) := by
 have key : (BitVec.ofInt 64 n &&& BitVec.ofInt 64 m).toNat = (n % ((2 ^ 64 : Nat) : Int)).toNat % 2 ^ j := by
  rw [BitVec.toNat_and, BitVec.toNat_ofInt, hm, Nat.and_two_pow_sub_one_eq_mod]
 show IntKind.i64.wrap ((BitVec.ofInt 64 n &&& BitVec.ofInt 64 m).toNat : Nat) = n % (2 ^ j : Nat)
 have hd : ((2 ^ j : Nat) : Int) ∣ ((2 ^ 64 : Nat) : Int) := by
  exact_mod_cast Nat.pow_dvd_pow 2 (Nat.le_of_lt hj)
 have hp : (0 : Int) < ((2 ^ j : Nat) : Int) := by exact_mod_cast Nat.two_pow_pos j
 have hle : ((2 ^ j : Nat) : Int) ≤ ((2 ^ 63 : Nat) : Int) := by
  exact_mod_cast Nat.pow_le_pow_right (by decide) (by omega)
 have e : (((n % ((2 ^ 64 : Nat) : Int)).toNat % 2 ^ j : Nat) : Int) = n % ((2 ^ j : Nat) : Int) := by
  rw [Int.natCast_emod, Int.toNat_of_nonneg (Int.emod_nonneg _ (by decide)), Int.emod_emod_of_dvd _ hd]
 rw [key, e, IntKind.wrap_i64]
 have h0 := Int.emod_nonneg n (Int.ne_of_gt hp)
 have h1 := Int.emod_lt_of_pos n hp
 generalize n % ((2 ^ j : Nat) : Int) = x at *
 generalize ((2 ^ j : Nat) : Int) = y at *
 have : ((2 ^ 63 : Nat) : Int) = 9223372036854775808 := by decide
 omega
theorem and255 (n : Int) : Go.bits .and .i64 n 255 = n % 256 := and_low n 8 255 (by decide) (by decide)
theorem and65535 (n : Int) : Go.bits .and .i64 n 65535 = n % 65536 := and_low n 16 65535 (by decide) (by decide)
/-- A processor's registers and flags. -/
structure Cp where
 A : Int
 X : Int
 S : Int
 P : Int
 Z : Bool
 N : Bool
 C : Bool
 I : Bool
def Cp.cells (k : Cp) : Array Value := #[.int .i64 k.A, .int .i64 k.X, .int .i64 k.S, .int .i64 k.P, .bool k.Z, .bool k.N, .bool k.C, .bool k.I]
/-- A memory at x and a processor at c, both of the call's own; rv is the memory's row. -/
structure MC (w0 w : World) (x c : Nat) (rv : Value) (b : Int) (k : Cp) (ram : List Int) : Prop where
 mem : w.heap[x]? = some (.cells #[rv, .int .i64 b] 32 (0, 0))
 cpu : w.heap[c]? = some (.cells k.cells 55 (0, 0))
 row : Kd.R (Kd.int .i64) 3 w w0.heap.size (fun _ => True) rv ram
 hx : w0.heap.size ≤ x
 hc : w0.heap.size ≤ c
 below : Below w0.heap.size w0 w
theorem MC.ne {w0 w : World} {x c : Nat} {rv : Value} {b : Int} {k : Cp} {ram : List Int} (h : MC w0 w x c rv b k ram) : x ≠ c := blk_ne h.mem h.cpu (by decide)
theorem MC.far {w0 w : World} {x c : Nat} {rv : Value} {b : Int} {k : Cp} {ram : List Int} (h : MC w0 w x c rv b k ram) : some x ≠ rv.ownBlock ∧ some c ≠ rv.ownBlock := ⟨Kd.R_ne h.row h.mem (by decide), Kd.R_ne h.row h.cpu (by decide)⟩
/-- A world that differs only above. -/
theorem MC.later {w0 w w1 : World} {x c : Nat} {rv : Value} {b : Int} {k : Cp} {ram : List Int} (h : MC w0 w x c rv b k ram) (hb : Below w.heap.size w w1) : MC w0 w1 x c rv b k ram :=
 ⟨blk_below h.mem hb, blk_below h.cpu hb, Kd.R_below h.row hb, h.hx, h.hc, below_then h.below h.below.size hb⟩
theorem MC.drewN {w0 w : World} {x c : Nat} {rv : Value} {b : Int} {k : Cp} {ram : List Int} (h : MC w0 w x c rv b k ram) (n : Nat) : MC w0 (w.drewN n) x c rv b k ram := h.later (pw_below_drewN (Below.refl _ _) n)
theorem MC.drew {w0 w : World} {x c : Nat} {rv : Value} {b : Int} {k : Cp} {ram : List Int} (h : MC w0 w x c rv b k ram) : MC w0 w.drew x c rv b k ram := h.later (below_drew1 (Below.refl _ _))
/-- A store into the processor. -/
theorem MC.setC {w0 w : World} {x c : Nat} {rv : Value} {b : Int} {k k' : Cp} {ram : List Int} (h : MC w0 w x c rv b k ram) (i : Nat) (u : Value) (e : k.cells.setIfInBounds i u = k'.cells) : MC w0 (w.setCell ⟨c, i, none⟩ u) x c rv b k' ram :=
 ⟨blk_far h.mem h.ne u, blk_put h.cpu i u e, Kd.R_mono (Kd.R_far (p := ⟨c, i, none⟩) (Kd.R_types h.row h.cpu (by decide)) (fun _ hk => hk.2) u) (fun _ hk => hk.1), h.hx, h.hc, below_set h.below h.hc⟩
/-- A store into the memory's row. -/
theorem MC.setR {w0 w : World} {x c g cap : Nat} {b : Int} {k : Cp} {ram : List Int} (h : MC w0 w x c (.slice (some ⟨g, 0, none⟩) ram.length cap) b k ram) (hg : w0.heap.size ≤ g) (i v : Int) :
  MC w0 (w.setCell ⟨g, i.toNat, none⟩ (.int .i64 v)) x c (.slice (some ⟨g, 0, none⟩) ram.length cap) b k (ram.set i.toNat v) :=
 ⟨blk_far h.mem (fun e => h.far.1 (by rw [e]; rfl)) _, blk_far h.cpu (fun e => h.far.2 (by rw [e]; rfl)) _, Kd.R_putn h.row i v, h.hx, h.hc, below_set h.below hg⟩
theorem kept_set {w W : World} {S : Nat → Prop} (h : Kept w W S) {g i : Nat} (hg : S g) (u : Value) : Kept w (W.setCell ⟨g, i, none⟩ u) S := h.setCell (.inl hg) u
theorem byte_same (a : Int) (w : World) : Calls Try.prog 34 #[.int .i64 a] w fun e w' => e = .returned (.int .i64 (a % 256)) ∧ w' = w := by
 rw [← and255]
 go_enter Try.func34, Try.ntmps34
 go_wp2
 go_ret
 exact ⟨rfl, rfl⟩

/-! ### mine_rows (mine) -/
section
variable {w : World} {r : Nat} {t : TypeId}
theorem heap2 (w : World) (r k : Nat) (u0 u1 : Value) (h : k ≠ r) : ((w.setCell ⟨r, 0, none⟩ u0).setCell ⟨r, 1, none⟩ u1).heap[k]? = w.heap[k]? := by
 refine (Below.heap_setCell _ _ _ k h).trans ?_
 exact Below.heap_setCell _ _ _ k h
theorem put2 {o0 o1 : Value} (h : w.heap[r]? = some (.cells #[o0, o1] t (0, 0))) (u0 u1 : Value) : ((w.setCell ⟨r, 0, none⟩ u0).setCell ⟨r, 1, none⟩ u1).heap[r]? = some (.cells #[u0, u1] t (0, 0)) := by
 refine blk_put (cs := #[u0, o1]) ?_ 1 _ rfl
 exact blk_put h 0 _ rfl
theorem heap8 (w : World) (r k : Nat) (u0 u1 u2 u3 u4 u5 u6 u7 : Value) (h : k ≠ r) : ((((((((w.setCell ⟨r, 0, none⟩ u0).setCell ⟨r, 1, none⟩ u1).setCell ⟨r, 2, none⟩ u2).setCell ⟨r, 3, none⟩ u3).setCell ⟨r, 4, none⟩ u4).setCell ⟨r, 5, none⟩ u5).setCell ⟨r, 6, none⟩ u6).setCell ⟨r, 7, none⟩ u7).heap[k]? = w.heap[k]? := by
 refine (Below.heap_setCell _ _ _ k h).trans ?_
 refine (Below.heap_setCell _ _ _ k h).trans ?_
 refine (Below.heap_setCell _ _ _ k h).trans ?_
 refine (Below.heap_setCell _ _ _ k h).trans ?_
 refine (Below.heap_setCell _ _ _ k h).trans ?_
 refine (Below.heap_setCell _ _ _ k h).trans ?_
 refine (Below.heap_setCell _ _ _ k h).trans ?_
 exact Below.heap_setCell _ _ _ k h
theorem put8 {o0 o1 o2 o3 o4 o5 o6 o7 : Value} (h : w.heap[r]? = some (.cells #[o0, o1, o2, o3, o4, o5, o6, o7] t (0, 0))) (u0 u1 u2 u3 u4 u5 u6 u7 : Value) :
  ((((((((w.setCell ⟨r, 0, none⟩ u0).setCell ⟨r, 1, none⟩ u1).setCell ⟨r, 2, none⟩ u2).setCell ⟨r, 3, none⟩ u3).setCell ⟨r, 4, none⟩ u4).setCell ⟨r, 5, none⟩ u5).setCell ⟨r, 6, none⟩ u6).setCell ⟨r, 7, none⟩ u7).heap[r]? = some (.cells #[u0, u1, u2, u3, u4, u5, u6, u7] t (0, 0)) := by
 refine blk_put (cs := #[u0, u1, u2, u3, u4, u5, u6, o7]) ?_ 7 _ rfl
 refine blk_put (cs := #[u0, u1, u2, u3, u4, u5, o6, o7]) ?_ 6 _ rfl
 refine blk_put (cs := #[u0, u1, u2, u3, u4, o5, o6, o7]) ?_ 5 _ rfl
 refine blk_put (cs := #[u0, u1, u2, u3, o4, o5, o6, o7]) ?_ 4 _ rfl
 refine blk_put (cs := #[u0, u1, u2, o3, o4, o5, o6, o7]) ?_ 3 _ rfl
 refine blk_put (cs := #[u0, u1, o2, o3, o4, o5, o6, o7]) ?_ 2 _ rfl
 refine blk_put (cs := #[u0, o1, o2, o3, o4, o5, o6, o7]) ?_ 1 _ rfl
 exact blk_put h 0 _ rfl
end
theorem row8 {w : World} {r m : Nat} {rv : Value} {ram : List Int} {o0 o1 o2 o3 o4 o5 o6 o7 : Value} (h : Kd.R (Kd.int .i64) 3 w m (fun _ => True) rv ram) (hb : w.heap[r]? = some (.cells #[o0, o1, o2, o3, o4, o5, o6, o7] 55 (0, 0))) (u0 u1 u2 u3 u4 u5 u6 u7 : Value) :
  Kd.R (Kd.int .i64) 3 ((((((((w.setCell ⟨r, 0, none⟩ u0).setCell ⟨r, 1, none⟩ u1).setCell ⟨r, 2, none⟩ u2).setCell ⟨r, 3, none⟩ u3).setCell ⟨r, 4, none⟩ u4).setCell ⟨r, 5, none⟩ u5).setCell ⟨r, 6, none⟩ u6).setCell ⟨r, 7, none⟩ u7) m (fun _ => True) rv ram :=
 Kd.R_mono (Kd.R_far (p := ⟨r, 7, none⟩) (Kd.R_far (p := ⟨r, 6, none⟩) (Kd.R_far (p := ⟨r, 5, none⟩) (Kd.R_far (p := ⟨r, 4, none⟩) (Kd.R_far (p := ⟨r, 3, none⟩) (Kd.R_far (p := ⟨r, 2, none⟩) (Kd.R_far (p := ⟨r, 1, none⟩) (Kd.R_far (p := ⟨r, 0, none⟩) (Kd.R_types h hb (by decide)) (fun _ hk => hk.2) u0) (fun _ hk => hk.2) u1) (fun _ hk => hk.2) u2) (fun _ hk => hk.2) u3) (fun _ hk => hk.2) u4) (fun _ hk => hk.2) u5) (fun _ hk => hk.2) u6) (fun _ hk => hk.2) u7) (fun _ _ => trivial)
theorem below8 {w W : World} {r : Nat} (h : Below w.heap.size w W) (hr : w.heap.size ≤ r) (u0 u1 u2 u3 u4 u5 u6 u7 : Value) : Below w.heap.size w ((((((((W.setCell ⟨r, 0, none⟩ u0).setCell ⟨r, 1, none⟩ u1).setCell ⟨r, 2, none⟩ u2).setCell ⟨r, 3, none⟩ u3).setCell ⟨r, 4, none⟩ u4).setCell ⟨r, 5, none⟩ u5).setCell ⟨r, 6, none⟩ u6).setCell ⟨r, 7, none⟩ u7) :=
 (below_set (below_set (below_set (below_set (below_set (below_set (below_set (below_set h hr) hr) hr) hr) hr) hr) hr) hr)

/-! ### mem_events (mine) -/
theorem eval_get {a : Act} {t : Nat} {v : Value} (h : a.eval (.tmp t) = v) : a.tmps[t]?.getD undef = v := by
 rw [← h]
 show _ = a.tmps.getD t undef
 rw [Array.getD_eq_getD_getElem?]
/-- What an operation of such a region may put: a memory in a row of its own; a memory beside a processor; a new block. -/
def isMem (lo : Nat) (xs : List Int) (b : Int) (v : Value) (w : World) : Prop := ∃ u, v = .agg #[u, .int .i64 b] ∧ Kd.R (Kd.int .i64) 3 w lo (fun _ => True) u xs
def isPair (lo : Nat) (xs : List Int) (b : Int) (c : Value) (v : Value) (w : World) : Prop := ∃ u, v = .tuple #[.agg #[u, .int .i64 b], c] ∧ Kd.R (Kd.int .i64) 3 w lo (fun _ => True) u xs
def isNew (lo : Nat) (t : TypeId) (cs : Array Value) (v : Value) (w : World) : Prop := ∃ g, v = .pointer (some ⟨g, 0, none⟩) ∧ lo ≤ g ∧ w.heap[g]? = some (.cells cs t (0, 0))
theorem isMem_below {lo : Nat} {xs : List Int} {b : Int} {v : Value} {w w' : World} (h : isMem lo xs b v w) (hb : Below w.heap.size w w') : isMem lo xs b v w' := by
 obtain ⟨u, e, r⟩ := h
 exact ⟨u, e, Kd.R_below r hb⟩
theorem isPair_below {lo : Nat} {xs : List Int} {b : Int} {c v : Value} {w w' : World} (h : isPair lo xs b c v w) (hb : Below w.heap.size w w') : isPair lo xs b c v w' := by
 obtain ⟨u, e, r⟩ := h
 exact ⟨u, e, Kd.R_below r hb⟩
theorem isNew_below {lo : Nat} {t : TypeId} {cs : Array Value} {v : Value} {w w' : World} (h : isNew lo t cs v w) (hb : Below w.heap.size w w') : isNew lo t cs v w' := by
 obtain ⟨g, e, hl, hg⟩ := h
 exact ⟨g, e, hl, blk_below hg hb⟩
theorem rowS2 {w : World} {r m : Nat} {ok : Nat → Prop} {rv : Value} {ram : List Int} {o0 o1 : Value} (h : Kd.R (Kd.int .i64) 3 w m ok rv ram) (hb : w.heap[r]? = some (.cells #[o0, o1] 32 (0, 0))) (u0 u1 : Value) :
  Kd.R (Kd.int .i64) 3 ((w.setCell ⟨r, 0, none⟩ u0).setCell ⟨r, 1, none⟩ u1) m ok rv ram :=
 Kd.R_mono (Kd.R_far (p := ⟨r, 1, none⟩) (Kd.R_far (p := ⟨r, 0, none⟩) (Kd.R_types h hb (by decide)) (fun _ hk => hk.2) u0) (fun _ hk => hk.2) u1) (fun _ hk => hk.1)
theorem rowS8 {w : World} {r m : Nat} {ok : Nat → Prop} {rv : Value} {ram : List Int} {o0 o1 o2 o3 o4 o5 o6 o7 : Value} (h : Kd.R (Kd.int .i64) 3 w m ok rv ram) (hb : w.heap[r]? = some (.cells #[o0, o1, o2, o3, o4, o5, o6, o7] 55 (0, 0))) (u0 u1 u2 u3 u4 u5 u6 u7 : Value) :
  Kd.R (Kd.int .i64) 3 ((((((((w.setCell ⟨r, 0, none⟩ u0).setCell ⟨r, 1, none⟩ u1).setCell ⟨r, 2, none⟩ u2).setCell ⟨r, 3, none⟩ u3).setCell ⟨r, 4, none⟩ u4).setCell ⟨r, 5, none⟩ u5).setCell ⟨r, 6, none⟩ u6).setCell ⟨r, 7, none⟩ u7) m ok rv ram :=
 Kd.R_mono (Kd.R_far (p := ⟨r, 7, none⟩) (Kd.R_far (p := ⟨r, 6, none⟩) (Kd.R_far (p := ⟨r, 5, none⟩) (Kd.R_far (p := ⟨r, 4, none⟩) (Kd.R_far (p := ⟨r, 3, none⟩) (Kd.R_far (p := ⟨r, 2, none⟩) (Kd.R_far (p := ⟨r, 1, none⟩) (Kd.R_far (p := ⟨r, 0, none⟩) (Kd.R_types h hb (by decide)) (fun _ hk => hk.2) u0) (fun _ hk => hk.2) u1) (fun _ hk => hk.2) u2) (fun _ hk => hk.2) u3) (fun _ hk => hk.2) u4) (fun _ hk => hk.2) u5) (fun _ hk => hk.2) u6) (fun _ hk => hk.2) u7) (fun _ hk => hk.1)
theorem below2 {w W : World} {r : Nat} (h : Below w.heap.size w W) (hr : w.heap.size ≤ r) (u0 u1 : Value) : Below w.heap.size w ((W.setCell ⟨r, 0, none⟩ u0).setCell ⟨r, 1, none⟩ u1) := below_set (below_set h hr) hr
/-- Behind the stores of a memory and of a processor into blocks of their own. -/
theorem stored {W : World} {g1 g2 : Nat} {q0 q1 : Value} {o0 o1 o2 o3 o4 o5 o6 o7 : Value} (hb1 : W.heap[g1]? = some (.cells #[q0, q1] 32 (0, 0))) (hb2 : W.heap[g2]? = some (.cells #[o0, o1, o2, o3, o4, o5, o6, o7] 55 (0, 0))) (p0 p1 : Value) (u0 u1 u2 u3 u4 u5 u6 u7 : Value) :
  ((((((((((W.setCell ⟨g1, 0, none⟩ p0).setCell ⟨g1, 1, none⟩ p1).setCell ⟨g2, 0, none⟩ u0).setCell ⟨g2, 1, none⟩ u1).setCell ⟨g2, 2, none⟩ u2).setCell ⟨g2, 3, none⟩ u3).setCell ⟨g2, 4, none⟩ u4).setCell ⟨g2, 5, none⟩ u5).setCell ⟨g2, 6, none⟩ u6).setCell ⟨g2, 7, none⟩ u7).heap[g1]? = some (.cells #[p0, p1] 32 (0, 0)) ∧ ((((((((((W.setCell ⟨g1, 0, none⟩ p0).setCell ⟨g1, 1, none⟩ p1).setCell ⟨g2, 0, none⟩ u0).setCell ⟨g2, 1, none⟩ u1).setCell ⟨g2, 2, none⟩ u2).setCell ⟨g2, 3, none⟩ u3).setCell ⟨g2, 4, none⟩ u4).setCell ⟨g2, 5, none⟩ u5).setCell ⟨g2, 6, none⟩ u6).setCell ⟨g2, 7, none⟩ u7).heap[g2]? = some (.cells #[u0, u1, u2, u3, u4, u5, u6, u7] 55 (0, 0)) ∧ (∀ k, k ≠ g1 → k ≠ g2 → ((((((((((W.setCell ⟨g1, 0, none⟩ p0).setCell ⟨g1, 1, none⟩ p1).setCell ⟨g2, 0, none⟩ u0).setCell ⟨g2, 1, none⟩ u1).setCell ⟨g2, 2, none⟩ u2).setCell ⟨g2, 3, none⟩ u3).setCell ⟨g2, 4, none⟩ u4).setCell ⟨g2, 5, none⟩ u5).setCell ⟨g2, 6, none⟩ u6).setCell ⟨g2, 7, none⟩ u7).heap[k]? = W.heap[k]?) ∧
   (∀ lo ok u xs, Kd.R (Kd.int .i64) 3 W lo ok u xs → Kd.R (Kd.int .i64) 3 ((((((((((W.setCell ⟨g1, 0, none⟩ p0).setCell ⟨g1, 1, none⟩ p1).setCell ⟨g2, 0, none⟩ u0).setCell ⟨g2, 1, none⟩ u1).setCell ⟨g2, 2, none⟩ u2).setCell ⟨g2, 3, none⟩ u3).setCell ⟨g2, 4, none⟩ u4).setCell ⟨g2, 5, none⟩ u5).setCell ⟨g2, 6, none⟩ u6).setCell ⟨g2, 7, none⟩ u7) lo ok u xs) ∧ (∀ w : World, Below w.heap.size w W → w.heap.size ≤ g1 → w.heap.size ≤ g2 → Below w.heap.size w ((((((((((W.setCell ⟨g1, 0, none⟩ p0).setCell ⟨g1, 1, none⟩ p1).setCell ⟨g2, 0, none⟩ u0).setCell ⟨g2, 1, none⟩ u1).setCell ⟨g2, 2, none⟩ u2).setCell ⟨g2, 3, none⟩ u3).setCell ⟨g2, 4, none⟩ u4).setCell ⟨g2, 5, none⟩ u5).setCell ⟨g2, 6, none⟩ u6).setCell ⟨g2, 7, none⟩ u7)) := by
 have hne : g1 ≠ g2 := blk_ne hb1 hb2 (by decide)
 have h2 : ((W.setCell ⟨g1, 0, none⟩ p0).setCell ⟨g1, 1, none⟩ p1).heap[g2]? = some (.cells #[o0, o1, o2, o3, o4, o5, o6, o7] 55 (0, 0)) := (heap2 _ _ _ _ _ hne.symm).trans hb2
 exact ⟨(heap8 _ _ _ _ _ _ _ _ _ _ _ hne).trans (put2 hb1 _ _), put8 h2 _ _ _ _ _ _ _ _, fun k h h' => (heap8 _ _ _ _ _ _ _ _ _ _ _ h').trans (heap2 _ _ _ _ _ h),
  fun lo ok u xs h => rowS8 (rowS2 h hb1 _ _) h2 _ _ _ _ _ _ _ _, fun w h k1 k2 => below8 (below2 h k1 _ _) k2 _ _ _ _ _ _ _ _⟩

/-! ### mem_pairs (mine) -/
/-- The boxes of the law's own arguments, at the call's first blocks. -/
structure ArgW (w W : World) (a b : Array Value) : Prop where
 below : Below w.heap.size w W
 fst : W.heap[w.heap.size]? = some (.cells a 32 (0, 0))
 snd : W.heap[w.heap.size + 1]? = some (.cells b 55 (0, 0))
theorem ArgW.kept {w W W' : World} {a b : Array Value} {S : Nat → Prop} (h : ArgW w W a b) (hk : Kept W W' S) (hb : Below w.heap.size w W') (hS : ∀ k, k < w.heap.size + 2 → ¬ S k) : ArgW w W' a b :=
 ⟨hb, blk_kept h.fst hk (hS _ (by omega)), blk_kept h.snd hk (hS _ (by omega))⟩
/-- A memory and a processor in blocks of their own, between two heights. -/
structure PairW (w W : World) (g1 g2 : Nat) (A : Option Addr) (c : Nat) (xs : List Int) (b : Int) (cs : Array Value) (lo hi : Nat) : Prop where
 mem : W.heap[g1]? = some (.cells #[.slice A xs.length c, .int .i64 b] 32 (0, 0))
 cpu : W.heap[g2]? = some (.cells cs 55 (0, 0))
 row : Kd.R (Kd.int .i64) 3 W w.heap.size (fun k => lo ≤ k ∧ k < hi ∧ k ≠ g1 ∧ k ≠ g2) (.slice A xs.length c) xs
 h1 : lo ≤ g1 ∧ g1 < hi
 h2 : lo ≤ g2 ∧ g2 < hi
theorem PairW.kept {w W W' : World} {g1 g2 : Nat} {A : Option Addr} {c : Nat} {xs : List Int} {b : Int} {cs : Array Value} {lo hi : Nat} {S : Nat → Prop} (h : PairW w W g1 g2 A c xs b cs lo hi) (hk : Kept W W' S) (hS : ∀ k, lo ≤ k → k < hi → ¬ S k) : PairW w W' g1 g2 A c xs b cs lo hi :=
 ⟨blk_kept h.mem hk (hS _ h.h1.1 h.h1.2), blk_kept h.cpu hk (hS _ h.h2.1 h.h2.2), Kd.R_kept h.row hk (fun k hk => hS k hk.1 hk.2.1), h.h1, h.h2⟩
/-- A memory alone. -/
structure MemW (w W : World) (g : Nat) (A : Option Addr) (c : Nat) (xs : List Int) (b : Int) (lo hi : Nat) : Prop where
 mem : W.heap[g]? = some (.cells #[.slice A xs.length c, .int .i64 b] 32 (0, 0))
 row : Kd.R (Kd.int .i64) 3 W w.heap.size (fun k => lo ≤ k ∧ k < hi ∧ k ≠ g) (.slice A xs.length c) xs
 h1 : lo ≤ g ∧ g < hi
theorem MemW.kept {w W W' : World} {g : Nat} {A : Option Addr} {c : Nat} {xs : List Int} {b : Int} {lo hi : Nat} {S : Nat → Prop} (h : MemW w W g A c xs b lo hi) (hk : Kept W W' S) (hS : ∀ k, lo ≤ k → k < hi → ¬ S k) : MemW w W' g A c xs b lo hi :=
 ⟨blk_kept h.mem hk (hS _ h.h1.1 h.h1.2), Kd.R_kept h.row hk (fun k hk => hS k hk.1 hk.2.1), h.h1⟩
theorem R_between {W : World} {lo base : Nat} {u : Value} {xs : List Int} {ok : Nat → Prop} (h : Kd.R (Kd.int .i64) 3 W lo ok u xs) (hb : base ≤ lo) : Kd.R (Kd.int .i64) 3 W base (fun k => ok k ∧ lo ≤ k ∧ k < W.heap.size) u xs :=
 Kd.R_lower (Kd.R_mono (Kd.R_bound h) (fun k hk => ⟨hk.1, hk.2.1, hk.2.2.1⟩)) hb
theorem pair_made {w W1 W : World} {g1 g2 : Nat} {u : Value} {xs : List Int} {q0 q1 o0 o1 o2 o3 o4 o5 o6 o7 : Value} (hB : Below w.heap.size w W1) (hW : Below W1.heap.size W1.drew W) (hR : Kd.R (Kd.int .i64) 3 W W1.heap.size (fun _ => True) u xs)
  (hb1 : W.heap[g1]? = some (.cells #[q0, q1] 32 (0, 0))) (hb2 : W.heap[g2]? = some (.cells #[o0, o1, o2, o3, o4, o5, o6, o7] 55 (0, 0))) (hg1 : W1.heap.size ≤ g1) (hg2 : W1.heap.size ≤ g2) (b : Int) (u0 u1 u2 u3 u4 u5 u6 u7 : Value) :
  ∃ A c, u = .slice A xs.length c ∧ PairW w ((((((((((W.setCell ⟨g1, 0, none⟩ u).setCell ⟨g1, 1, none⟩ (.int .i64 b)).setCell ⟨g2, 0, none⟩ u0).setCell ⟨g2, 1, none⟩ u1).setCell ⟨g2, 2, none⟩ u2).setCell ⟨g2, 3, none⟩ u3).setCell ⟨g2, 4, none⟩ u4).setCell ⟨g2, 5, none⟩ u5).setCell ⟨g2, 6, none⟩ u6).setCell ⟨g2, 7, none⟩ u7) g1 g2 A c xs b #[u0, u1, u2, u3, u4, u5, u6, u7] W1.heap.size ((((((((((W.setCell ⟨g1, 0, none⟩ u).setCell ⟨g1, 1, none⟩ (.int .i64 b)).setCell ⟨g2, 0, none⟩ u0).setCell ⟨g2, 1, none⟩ u1).setCell ⟨g2, 2, none⟩ u2).setCell ⟨g2, 3, none⟩ u3).setCell ⟨g2, 4, none⟩ u4).setCell ⟨g2, 5, none⟩ u5).setCell ⟨g2, 6, none⟩ u6).setCell ⟨g2, 7, none⟩ u7).heap.size ∧ Kept W1 ((((((((((W.setCell ⟨g1, 0, none⟩ u).setCell ⟨g1, 1, none⟩ (.int .i64 b)).setCell ⟨g2, 0, none⟩ u0).setCell ⟨g2, 1, none⟩ u1).setCell ⟨g2, 2, none⟩ u2).setCell ⟨g2, 3, none⟩ u3).setCell ⟨g2, 4, none⟩ u4).setCell ⟨g2, 5, none⟩ u5).setCell ⟨g2, 6, none⟩ u6).setCell ⟨g2, 7, none⟩ u7) (fun _ => False) ∧ Below w.heap.size w ((((((((((W.setCell ⟨g1, 0, none⟩ u).setCell ⟨g1, 1, none⟩ (.int .i64 b)).setCell ⟨g2, 0, none⟩ u0).setCell ⟨g2, 1, none⟩ u1).setCell ⟨g2, 2, none⟩ u2).setCell ⟨g2, 3, none⟩ u3).setCell ⟨g2, 4, none⟩ u4).setCell ⟨g2, 5, none⟩ u5).setCell ⟨g2, 6, none⟩ u6).setCell ⟨g2, 7, none⟩ u7) := by
 obtain ⟨A, c, rfl⟩ := Kd.R_slice hR
 obtain ⟨s1, s2, s3, s4, s5⟩ := stored hb1 hb2 (.slice A xs.length c) (.int .i64 b) u0 u1 u2 u3 u4 u5 u6 u7
 have hsz := hB.size
 have hb := s5 w (below_step (w := w) (W := W1.drew) (below_drew1 hB) hW) (by omega) (by omega)
 have hk := s5 W1.drew hW hg1 hg2
 have r := s4 _ _ _ _ hR
 generalize ((((((((((W.setCell ⟨g1, 0, none⟩ (.slice A xs.length c)).setCell ⟨g1, 1, none⟩ (.int .i64 b)).setCell ⟨g2, 0, none⟩ u0).setCell ⟨g2, 1, none⟩ u1).setCell ⟨g2, 2, none⟩ u2).setCell ⟨g2, 3, none⟩ u3).setCell ⟨g2, 4, none⟩ u4).setCell ⟨g2, 5, none⟩ u5).setCell ⟨g2, 6, none⟩ u6).setCell ⟨g2, 7, none⟩ u7) = Z at *
 have k1 := blk_lt s1
 have k2 := blk_lt s2
 refine ⟨A, c, rfl, ⟨s1, s2, ?_, ⟨hg1, k1⟩, ⟨hg2, k2⟩⟩, ⟨hk.size, fun i hi _ => hk.block i hi⟩, hb⟩
 exact Kd.R_mono (Kd.R_types (Kd.R_types (R_between r hsz) s1 (by decide)) s2 (by decide)) (fun k hk => ⟨hk.1.1.2.1, hk.1.1.2.2, hk.1.2, hk.2⟩)
theorem mem_made {w W1 W : World} {g1 : Nat} {u : Value} {xs : List Int} {q0 q1 : Value} (hB : Below w.heap.size w W1) (hW : Below W1.heap.size W1 W) (hR : Kd.R (Kd.int .i64) 3 W W1.heap.size (fun _ => True) u xs)
  (hb1 : W.heap[g1]? = some (.cells #[q0, q1] 32 (0, 0))) (hg1 : W1.heap.size ≤ g1) (b : Int) :
  ∃ A c, u = .slice A xs.length c ∧ MemW w ((W.setCell ⟨g1, 0, none⟩ u).setCell ⟨g1, 1, none⟩ (.int .i64 b)) g1 A c xs b W1.heap.size ((W.setCell ⟨g1, 0, none⟩ u).setCell ⟨g1, 1, none⟩ (.int .i64 b)).heap.size ∧ Kept W1 ((W.setCell ⟨g1, 0, none⟩ u).setCell ⟨g1, 1, none⟩ (.int .i64 b)) (fun _ => False) ∧ Below w.heap.size w ((W.setCell ⟨g1, 0, none⟩ u).setCell ⟨g1, 1, none⟩ (.int .i64 b)) := by
 obtain ⟨A, c, rfl⟩ := Kd.R_slice hR
 have hsz := hB.size
 have s1 := put2 hb1 (.slice A xs.length c) (.int .i64 b)
 have hb := below2 (below_step hB hW) (show w.heap.size ≤ g1 by omega) (.slice A xs.length c) (.int .i64 b)
 have hk := below2 (w := W1) hW hg1 (.slice A xs.length c) (.int .i64 b)
 have r := rowS2 hR hb1 (.slice A xs.length c) (.int .i64 b)
 generalize ((W.setCell ⟨g1, 0, none⟩ (.slice A xs.length c)).setCell ⟨g1, 1, none⟩ (.int .i64 b)) = Z at *
 have k1 := blk_lt s1
 refine ⟨A, c, rfl, ⟨s1, ?_, ⟨hg1, k1⟩⟩, ⟨hk.size, fun i hi _ => hk.block i hi⟩, hb⟩
 exact Kd.R_mono (Kd.R_types (R_between r hsz) s1 (by decide)) (fun k hk => ⟨hk.1.2.1, hk.1.2.2, hk.2⟩)
theorem mem_made0 {w W1 W : World} {g1 : Nat} {A : Option Addr} {c : Nat} {xs : List Int} {b : Int} (hB : Below w.heap.size w W1) (hW : Below W1.heap.size W1 W) (hR : Kd.R (Kd.int .i64) 3 W W1.heap.size (fun _ => True) (.slice A xs.length c) xs)
  (hb1 : W.heap[g1]? = some (.cells #[.slice A xs.length c, .int .i64 b] 32 (0, 0))) (hg1 : W1.heap.size ≤ g1) : MemW w W g1 A c xs b W1.heap.size W.heap.size ∧ Kept W1 W (fun _ => False) ∧ Below w.heap.size w W := by
 have hsz := hB.size
 have k1 := blk_lt hb1
 refine ⟨⟨hb1, ?_, ⟨hg1, k1⟩⟩, ⟨hW.size, fun i hi _ => hW.block i hi⟩, below_step hB hW⟩
 exact Kd.R_mono (Kd.R_types (R_between hR hsz) hb1 (by decide)) (fun k hk => ⟨hk.1.2.1, hk.1.2.2, hk.2⟩)
/-- A memory of the call's own, to be read only. -/
structure OwnW (w W : World) (g : Nat) (A : Option Addr) (c : Nat) (xs : List Int) (b : Int) : Prop where
 mem : W.heap[g]? = some (.cells #[.slice A xs.length c, .int .i64 b] 32 (0, 0))
 row : ∃ ok, Kd.R (Kd.int .i64) 3 W w.heap.size ok (.slice A xs.length c) xs
theorem OwnW.kept {w W W' : World} {g : Nat} {A : Option Addr} {c : Nat} {xs : List Int} {b : Int} {S : Nat → Prop} (h : OwnW w W g A c xs b) (hk : Kept W W' S) (hS : ∀ k : Nat, True → True → ¬ S k) : OwnW w W' g A c xs b := by
 obtain ⟨ok, hr⟩ := h.row
 exact ⟨blk_kept h.mem hk (hS _ trivial trivial), ok, Kd.R_kept hr hk (fun k _ => hS k trivial trivial)⟩
theorem OwnW.reads {w W : World} {g : Nat} {A : Option Addr} {c : Nat} {xs : List Int} {b : Int} (h : OwnW w W g A c xs b) : xs.length ≤ c ∧ Kd.C (Kd.int .i64) W A xs.length xs := by
 obtain ⟨ok, hr⟩ := h.row
 obtain ⟨_, h1, h2⟩ := Kd.R_reads' hr
 exact ⟨h1, h2⟩

/-! ### mem_push (mine) -/
def pushF (ram : List Int) (k : Cp) (v : Int) : List Int × Cp := if ram.length = 512 then (ram.set (256 + k.S % 256).toNat (v % 256), { k with S := wrap64 (k.S - 1) % 256 }) else (ram, k)
set_option maxRecDepth 100000 in
set_option maxHeartbeats 1000000 in
theorem push_yes (x c g cap : Nat) (ram : List Int) (S v old : Int) (w : World)
  (hx0 : w.cell? ⟨x, 0, none⟩ = some (.slice (some ⟨g, 0, none⟩) ram.length cap)) (hc2 : w.cell? ⟨c, 2, none⟩ = some (.int .i64 S))
  (hlen : ram.length = 512) (hcg : w.cell? ⟨g, (256 + S % 256).toNat, none⟩ = some (.int .i64 old)) (hfg : w.frozen? ⟨g, (256 + S % 256).toNat, none⟩ = false) (hfc : w.frozen? ⟨c, 2, none⟩ = false) (hgc : g ≠ c) (hgx : g ≠ x) (hcx : c ≠ x) :
  Calls Try.prog 99 #[.pointer (some ⟨x, 0, none⟩), .pointer (some ⟨c, 0, none⟩), .int .i64 v] w fun e w' => e = .returned (.tuple #[]) ∧
   w' = ((w.setCell ⟨g, (256 + S % 256).toNat, none⟩ (.int .i64 (v % 256))).setCell ⟨c, 2, none⟩ (.int .i64 (wrap64 (S - 1) % 256))).drew := by
 have hu37 := Try.underlying32
 have hu38 := Try.underlying55
 have hl : (((ram.length : Nat) : Int) != 512) = false := by simp; omega
 have A1 : Aside0 (∀ w, Calls Try.prog 34 #[.int .i64 S] w fun e w' => e = .returned (.int .i64 (S % 256)) ∧ w' = w) := ⟨byte_same S⟩
 have A2 : Aside0 (∀ w, Calls Try.prog 34 #[.int .i64 v] w fun e w' => e = .returned (.int .i64 (v % 256)) ∧ w' = w) := ⟨byte_same v⟩
 have A3 : Aside0 (∀ w, Calls Try.prog 34 #[.int .i64 (wrap64 (S - 1))] w fun e w' => e = .returned (.int .i64 (wrap64 (S - 1) % 256)) ∧ w' = w) := ⟨byte_same _⟩
 have hs0 : 0 ≤ S % 256 := by omega
 have hs1 : S % 256 < 256 := by omega
 generalize wrap64 (S - 1) % 256 = s2 at *
 generalize S % 256 = sb at *
 generalize v % 256 = vb at *
 have hsum : IntKind.i64.wrap (256 + sb) = 256 + sb := by rw [IntKind.wrap_i64]; omega
 have hb1 : (256 + sb < (ram.length : Int)) = True := eq_true (by omega)
 have hb0 : (0 ≤ 256 + sb) = True := eq_true (by omega)
 clear hlen
 go_enter Try.func99, Try.ntmps99
 go_wp2
 go_still_tail 13, (by kernel_rfl)
 still_call (A1.out _)
 repeat still_step
 still_call (A2.out _)
 repeat still_step
 try refine wpStill_nil ?_
 change wpList _ _ _ _ _ w.drew
 go_wp2_with (go_at_call 34; refine (A3.out _).mono ?_; rintro e w' ⟨rfl, rfl⟩)
 go_end0
 exact ⟨rfl, rfl⟩
set_option maxRecDepth 100000 in
set_option maxHeartbeats 1000000 in
theorem push_no (x c : Nat) (A : Option Addr) (cap : Nat) (ram : List Int) (v : Int) (w : World)
  (hx0 : w.cell? ⟨x, 0, none⟩ = some (.slice A ram.length cap)) (hlen : ram.length ≠ 512) :
  Calls Try.prog 99 #[.pointer (some ⟨x, 0, none⟩), .pointer (some ⟨c, 0, none⟩), .int .i64 v] w fun e w' => e = .returned (.tuple #[]) ∧ w' = w := by
 have hu37 := Try.underlying32
 have hl : (((ram.length : Nat) : Int) != 512) = true := by simp; omega
 clear hlen
 go_enter Try.func99, Try.ntmps99
 go_wp2
 refine bodyPost_ret (results_none rfl _ _ _) rfl ?_
 exact ⟨rfl, rfl⟩
theorem push_calls {w0 w : World} {x c : Nat} {rv : Value} {b : Int} {k : Cp} {ram : List Int} (h : MC w0 w x c rv b k ram) (v : Int) :
  Calls Try.prog 99 #[.pointer (some ⟨x, 0, none⟩), .pointer (some ⟨c, 0, none⟩), .int .i64 v] w fun e w' => e = .returned (.tuple #[]) ∧
   MC w0 w' x c rv b (pushF ram k v).2 (pushF ram k v).1 ∧ Kept w w' (fun j => j = c ∨ some j = rv.ownBlock) := by
 unfold pushF
 by_cases hl : ram.length = 512
 ·rw [if_pos hl]
  obtain ⟨g, cap, rfl, hg, _, _⟩ := Kd.R_form h.row (by omega)
  obtain ⟨hcg, hfg⟩ := Kd.R_celln 0 h.row (256 + k.S % 256) (by omega) (by omega)
  refine (push_yes x c g cap ram k.S v _ w ((blk_cell h.mem 0).trans rfl) ((blk_cell h.cpu 2).trans rfl) hl hcg hfg (blk_frozen h.cpu 2) (fun e => h.far.2 (by rw [e]; rfl)) (fun e => h.far.1 (by rw [e]; rfl)) (Ne.symm h.ne)).mono ?_
  rintro e w' ⟨rfl, rfl⟩
  refine ⟨rfl, (((h.setR hg (256 + k.S % 256) (v % 256)).setC (k' := { k with S := wrap64 (k.S - 1) % 256 }) 2 _ rfl).drew), ?_⟩
  exact ((kept_set (kept_set (Kept.refl w _) (.inr rfl) _) (.inl rfl) _).drew)
 ·rw [if_neg hl]
  obtain ⟨A, cap, rfl⟩ := Kd.R_slice h.row
  refine (push_no x c A cap ram v w ((blk_cell h.mem 0).trans rfl) hl).mono ?_
  rintro e w' ⟨rfl, rfl⟩
  exact ⟨rfl, h, Kept.refl _ _⟩

/-! ### impl_copyInts: function 72 -/
def impl_copyInts.f (l0 : List Int) : Option (List Int) := (some (([] : List Int) : List Int)).bind fun y116 => (if y116.length + l0.length < 17592186044416 then (some (y116 ++ l0)) else (none))
set_option maxHeartbeats 8000000 in
set_option maxRecDepth 100000 in
theorem impl_copyInts.calls (A0 : Option Addr) (c0 : Nat) (l0 : List Int) (r : List Int) (w : World) (hr0 : Kd.C (Kd.int .i64) w A0 l0.length l0) (hc0 : l0.length ≤ c0) (h : impl_copyInts.f l0 = some r) :
  Calls Try.prog 72 #[.slice A0 l0.length c0] w fun e w' => ∃ v0_ : Value, e = .returned (v0_) ∧ Kd.R (Kd.int .i64) 3 w' w.heap.size (fun _ => True) v0_ r ∧ Below w.heap.size w w' := by
 have HR0 := Aside0.mk hr0
 have HC0 := Aside0.mk hc0
 clear hr0 hc0
 have HB := Aside0.mk (Below.refl w.heap.size w)
 have H : ((some (([] : List Int) : List Int)).bind fun y116 => (if y116.length + l0.length < 17592186044416 then (some (y116 ++ l0)) else (none))) = some r := h
 clear h
 obtain ⟨y116, hy116⟩ : ∃ y_ : List Int, y_ = (([] : List Int)) := ⟨_, rfl⟩
 replace H : (if y116.length + l0.length < 17592186044416 then (some (y116 ++ l0)) else (none)) = some r := by first | (rw [hy116]; with_reducible exact H) | (have H2_ := (Option.bind_some _ _).symm.trans H; rw [hy116]; with_reducible exact H2_) | (have H2_ := (Option.bind_some _ _).symm.trans H; with_reducible exact H2_) | with_reducible exact H | (rw [hy116]; exact H) | exact H
 have Ny116 := Aside0.mk hy116
 clear hy116
 by_cases c2 : y116.length + l0.length < 17592186044416
 ·rw [if_pos c2] at H
  have LMc2 := Aside0.mk c2
  clear c2
  obtain ⟨y119, hy119⟩ : ∃ y_ : List Int, y_ = (y116 ++ l0) := ⟨_, rfl⟩
  replace H : (some y119) = some r := by first | (rw [hy119]; with_reducible exact H) | (have H2_ := (Option.bind_some _ _).symm.trans H; rw [hy119]; with_reducible exact H2_) | (have H2_ := (Option.bind_some _ _).symm.trans H; with_reducible exact H2_) | with_reducible exact H | (rw [hy119]; exact H) | exact H
  have Ny119 := Aside0.mk hy119
  clear hy119
  obtain rfl := Option.some.inj H
  go_enter Try.func72, Try.ntmps72
  go_wp2_with (first | ((with_reducible refine gate_dst (N := 3) rfl ?_); refine Kd.R_lit (Kd.int .i64) _ 3 ?hg (N := 3) ?hd (xs := ([] : List Int)) (inner := []) (ok := fun _ => True) (okp := fun _ => True) ?hr ?hp (fun _ hk => hk) trivial (Below.refl _ _) (Nat.le_refl _) (by simp) ?_; (case hd => rfl); (case hg => rfl); (case hr => first | (go_simp; done) | (go_simp; rfl)); (case hp => exact (Reps.none _ _)); intro v117 w3 ho4 hb hg_ hnew_; clear hg_ hnew_; (first | rw [← Ny116.out] at ho4 | (simp only [Int.reduceToNat] at ho4; rw [← Ny116.out] at ho4)); have HO118 := Aside0.mk (Kd.R_lower ho4 (below_size (bw HB.out))); replace HB := Aside0.mk (below_step (bw HB.out) hb); clear hb ho4) | ((with_reducible refine gate_builtin (b := .append) (xs := #[.tmp 3, .tmp 4]) rfl ?_); at_builtin; refine Kd.R_append_rows (Kd.int .i64) (w0 := w) w.heap.size rfl (.tmp 3) (.tmp 4) 30 3 (.int .i64 0) 8 rfl Try.underlying30 info3 rfl (by decide) (by omega) v117 y116 l0 _ _ _ (fun _ => True) (fun _ => False) rfl rfl ?aO ?aR (fun _ _ h => h) (fun _ h => h.elim) ?aF ?aB ?aS ?aL ?_; (case aR => exact kc (Kd.C_below HR0.out HB.out)); (case aB => exact (bw HB.out)); (case aF => exact (fun _ _ => trivial)); (case aO => exact (kr HO118.out)); (case aS => exact (below_size (bw HB.out))); (case aL => have := LMc2.out; omega); intro v120 w5 ho hb hg hat; rw [← Ny119.out] at ho; have n0_ := Aside0.mk (hb); have n1_ := Aside0.mk (ho); clear HB; clear HO118; have HB := n0_; have HO121 := n1_; clear n0_ n1_; clear ho hb hg hat))
  go_ret
  exact ⟨_, rt, kr HO121.out, bw HB.out⟩
 ·rw [if_neg c2] at H
  exact absurd H (by simp)

/-! ### impl_copyMem: function 76 -/
def impl_copyMem.f (l0_0 : List Int) (a0_1 : Int) : Option (List Int × Int) := (impl_copyInts.f l0_0).bind fun t124 => (some (t124, a0_1))
set_option maxHeartbeats 8000000 in
set_option maxRecDepth 100000 in
theorem impl_copyMem.calls (A0_0 : Option Addr) (c0_0 : Nat) (l0_0 : List Int) (a0_1 : Int) (r1 : List Int) (r2 : Int) (w : World) (hr0_0 : Kd.C (Kd.int .i64) w A0_0 l0_0.length l0_0) (hc0_0 : l0_0.length ≤ c0_0) (h : impl_copyMem.f l0_0 a0_1 = some (r1, r2)) :
  Calls Try.prog 76 #[.agg #[.slice A0_0 l0_0.length c0_0, .int .i64 a0_1]] w fun e w' => ∃ v0_ : Value, e = .returned (.agg #[v0_, .int .i64 r2]) ∧ Kd.R (Kd.int .i64) 3 w' w.heap.size (fun _ => True) v0_ r1 ∧ Below w.heap.size w w' := by
 have hu32 := Try.underlying32
 have HR0_0 := Aside0.mk hr0_0
 have HC0_0 := Aside0.mk hc0_0
 clear hr0_0 hc0_0
 have HB := Aside0.mk (Below.refl w.heap.size w)
 have H : ((impl_copyInts.f l0_0).bind fun t124 => (some (t124, a0_1))) = some (r1, r2) := h
 clear h
 replace H := Option.bind_eq_some_iff.mp H
 obtain ⟨t124, A20, H⟩ := H
 replace H : (some (t124, a0_1)) = some (r1, r2) := H
 have A2 := Aside0.mk A20
 clear A20
 simp only [Option.some.injEq, Prod.mk.injEq] at H
 obtain ⟨rfl, rfl⟩ := H
 go_enter Try.func76, Try.ntmps76
 try go_wp2_with (first | ((with_reducible refine gate_dst (N := 1) rfl ?_); refine bx (N := 1) (cs := #[.slice A0_0 l0_0.length c0_0, .int .i64 a0_1]) (t := 32) ?_; intro gb122 hg w3 hbox hb; have BK122 := Aside0.mk (hbox); have GW122 := Aside0.mk ((gs hg (bw HB.out))); have GE122 := Aside0.mk ((gs hg (bw HB.out))); replace HB := Aside0.mk (below_step (bw HB.out) hb); clear hb hbox hg) | ((with_reducible refine gate_dst (N := 2) rfl ?_); refine bx (N := 2) (cs := #[.slice none 0 0, .int .i64 0]) (t := 32) ?_; intro gb123 hg w4 hbox hb; have BK123 := Aside0.mk (hbox); have GW123 := Aside0.mk ((gs hg (bw HB.out))); have GE123 := Aside0.mk ((gs hg (bw HB.out))); replace HB := Aside0.mk (below_step (bw HB.out) hb); have NB122_123 := Aside0.mk ((ga hg BK122.out)); have NB123_122 := Aside0.mk ((gc hg BK122.out)); replace BK122 := Aside0.mk (bb BK122 hb); clear hb hbox hg))
 replace BK122 := Aside0.mk (blk_drew BK122.out)
 replace BK123 := Aside0.mk (blk_drew BK123.out)
 replace HB := Aside0.mk (below_drew1 HB.out)
 refine start_ (n := 7) (S := fun w' => w'.cell? ⟨gb122, 0, none⟩ = some (.slice A0_0 l0_0.length c0_0) ∧ w'.cell? ⟨gb122, 1, none⟩ = some (.int .i64 a0_1)) (ds := []) (bm 7 0) (by kernel_rfl) rfl (by kernel_rfl) ⟨cl BK122 0, cl BK122 1⟩ (fun hHeld => ?_)
 generalize w4.drew = w5 at BK122 BK123 HB hHeld ⊢
 refine pv_ 0 (some 3) (bm 7 1) ?_
 refine pv_ 3 (some 6) (bm 7 9) ?_
 refine tv_ 1 (some 4) (bm 7 11) hHeld ?_
 refine tv_ 4 (some 7) (bm 7 27) hHeld ?_
 refine ov_ 2 (some 5) (bm 7 31) (fun K hK => ?_)
 refine gw_ Try.func72 #[.slice A0_0 l0_0.length c0_0] ?_
 with_reducible refine (impl_copyInts.calls _ _ l0_0 t124 _ ?side1 ?side2 A2.out).mono ?_
 (case side1 => exact kc (Kd.C_below HR0_0.out HB.out))
 (case side2 => exact HC0_0.out)
 rintro e w6 ⟨v125, rfl, ho0, hb⟩
 refine ⟨_, rfl, ?_⟩
 have HO126 := Aside0.mk (Kd.R_lower ho0 (below_size (bw HB.out)))
 replace BK122 := Aside0.mk (bb BK122 hb)
 replace BK123 := Aside0.mk (bb BK123 hb)
 replace HB := Aside0.mk (below_step (bw HB.out) hb)
 (try clear hb); (try clear hb2); (try clear hk); (try clear hi); (try clear ho0)
 obtain ⟨Ao7, co7, eo7⟩ := Kd.R_slice HO126.out
 (first | subst eo7 | (injection eo7 with f1_ f2_ f3_; have f4_ := f1_.symm; have f5_ := f3_.symm; clear f1_ f2_ f3_; subst f4_; subst f5_))
 refine hK.out _ _ ⟨cl BK122 0, cl BK122 1⟩ (fun hHeld => ?_)
 clear hK K
 refine nw_ 5 ?_
 refine pv_ 5 (some 8) (bm 7 63) ?_
 refine ov_ 6 none (bm 7 127) (fun K hK => ?_)
 have hs8 : w6.cell? ⟨gb123, 0, none⟩ = some (.slice none 0 0) := cl BK123 0
 have hfs8 := blk_frozen BK123.out 0
 have hns8_0 := NB122_123.out
 have hms8_0 := NB123_122.out
 have hs9 : w6.cell? ⟨gb123, 1, none⟩ = some (.int .i64 0) := cl BK123 1
 have hfs9 := blk_frozen BK123.out 1
 have hns9_0 := NB122_123.out
 have hms9_0 := NB123_122.out
 refine skip_ (w1 := ?_) (by rfl) rfl ?_ ?_
 rotate_left
 ·go_simp
  rfl
 refine hK.out _ _ ⟨(fr NB122_123 (hHeld.1)), (fr NB122_123 (hHeld.2))⟩ (fun hHeld => ?_)
 clear hK K
 refine done_ (by kernel_rfl) ?_
 try go_wp2
 refine bodyPost_ret (results_cell_row rfl _ _ gb123 32 #[.slice Ao7 t124.length co7, .int .i64 a0_1] (0, 0) _ rfl (bq BK123.out) Try.underlying32 rfl (by kernel_rfl)) rfl ?_
 exact ⟨_, rt, kr (Kd.R_mono (Kd.R_far (p := ⟨gb123, 1, none⟩) (Kd.R_far (p := ⟨gb123, 0, none⟩) (Kd.R_types HO126.out BK123.out (by decide)) (fun _ hk => hk.2) (.slice Ao7 t124.length co7)) (fun _ hk => hk.2) (.int .i64 a0_1)) (fun _ hk => trivial)), bw HB.out⟩

/-! ### impl_within: function 67 -/
def impl_within.f (a0 : Int) (a1 : Int) (a2 : Int) : Option (Bool) := if a0 ≥ a1 then (some (decide (a0 ≤ a2))) else (some false)
set_option maxHeartbeats 8000000 in
set_option maxRecDepth 100000 in
theorem impl_within.calls (a0 : Int) (a1 : Int) (a2 : Int) (r : Bool) (w : World) (h : impl_within.f a0 a1 a2 = some r) :
  Calls Try.prog 67 #[.int .i64 a0, .int .i64 a1, .int .i64 a2] w fun e w' => e = .returned (.bool r) ∧ Drawn0 w w' := by
 have H : (if a0 ≥ a1 then (some (decide (a0 ≤ a2))) else (some false)) = some r := h
 clear h
 by_cases c4 : a0 ≥ a1
 ·rw [if_pos c4] at H
  have c4b0 : decide (a1 ≤ a0) = true := decide_eq_true c4
  clear c4
  obtain rfl := Option.some.inj H
  go_enter Try.func67, Try.ntmps67
  go_wp2
  go_ret
  exact ⟨by first | rfl | (simp; done) | (simp [*]; done), by repeat (first | exact Drawn0.refl _ | apply Drawn0.step)⟩
 ·rw [if_neg c4] at H
  have c4b0 : decide (a1 ≤ a0) = false := decide_eq_false c4
  clear c4
  obtain rfl := Option.some.inj H
  go_enter Try.func67, Try.ntmps67
  go_wp2
  go_ret
  exact ⟨by first | rfl | (simp; done) | (simp [*]; done), by repeat (first | exact Drawn0.refl _ | apply Drawn0.step)⟩

/-! ### impl_OpLen: function 38 -/
def impl_OpLen.j0 : Nat → Int → Bool → Option (Int)
 | 0, _, _ => none
 | k + 1, x0, x3 => if x3 = true then (some 2) else (if x0 = 2 then (some 3) else (if x0 = 3 then (some 3) else ((impl_within.f x0 14 20).bind fun t128 => (if t128 = true then (some 3) else (if x0 = 29 then (some 3) else (some 1))))))
def impl_OpLen.f (k : Nat) (a0 : Int) : Option (Int) := if a0 = 1 then (impl_OpLen.j0 k a0 true) else ((impl_within.f a0 4 9).bind fun t127 => (impl_OpLen.j0 k a0 t127))
set_option maxHeartbeats 8000000 in
set_option maxRecDepth 100000 in
theorem impl_OpLen.calls (k : Nat) (a0 : Int) (r : Int) (w : World) (h : impl_OpLen.f k a0 = some r) :
  Calls Try.prog 38 #[.int .i64 a0] w fun e w' => e = .returned (.int .i64 r) ∧ Drawn0 w w' := by
 have H : (if a0 = 1 then (impl_OpLen.j0 k a0 true) else ((impl_within.f a0 4 9).bind fun t127 => (impl_OpLen.j0 k a0 t127))) = some r := h
 clear h
 have HC2 := Aside0.mk H
 clear H
 go_enter Try.func38, Try.ntmps38
 go_upto_region 1 with (fail)
 go_cut [3] (fun v3 wc => ∃ (kq : Nat) (x3_1 : Bool), v3 = .bool x3_1 ∧ Aside0 (impl_OpLen.j0 kq a0 x3_1 = some r) ∧ Aside0 (kq ≤ k) ∧ Drawn0 w wc)
 case first =>
  have H := HC2.out
  clear HC2
  by_cases c3 : a0 = 1
  ·rw [if_pos c3] at H
   have c3b0 : (a0 == 1) = true := beq_iff_eq.mpr c3
   have c3b1 : (a0 != 1) = false := bne_eq_false_iff_eq.mpr c3
   clear c3
   (first | rw [c3b0] | (simp only [i64_w, i32_w]; rw [c3b0]) | skip)
   have H' := Aside0.mk H
   clear H
   go_wp2
   go_meet
   case rel => exact ⟨_, (true), (by first | rfl | (simp; done) | (simp [*]; done)), H', ⟨by first | omega | exact Nat.le_refl _⟩, by repeat (first | exact Drawn0.refl _ | apply Drawn0.step)⟩
  ·rw [if_neg c3] at H
   have c3b0 : (a0 == 1) = false := beq_eq_false_iff_ne.mpr c3
   have c3b1 : (a0 != 1) = true := bne_iff_ne.mpr c3
   (first | rw [c3b0] | (simp only [i64_w, i32_w]; rw [c3b0]) | skip)
   replace H := Option.bind_eq_some_iff.mp H
   obtain ⟨t127, A40, H⟩ := H
   replace H : (impl_OpLen.j0 k a0 t127) = some r := H
   have A4 := Aside0.mk A40
   clear A40
   have H' := Aside0.mk H
   clear H
   go_wp2_with (first | (go_at_call 67; (with_reducible refine (impl_within.calls a0 4 9 t127 _ A4.out).mono ?_); rintro e w' ⟨rfl, ⟨nd, rfl⟩⟩))
   go_meet
   case rel => exact ⟨_, (t127), (by first | rfl | (simp; done) | (simp [*]; done)), H', ⟨by first | omega | exact Nat.le_refl _⟩, by repeat (first | exact Drawn0.refl _ | apply Drawn0.step)⟩
 case rest =>
  clear HC2; (try clear p2); (try clear c3); (try clear c3b0); (try clear c3b1)
  obtain ⟨kq, x3_1, rfl, HA, HJ1, ⟨mc1, rfl⟩⟩ := hcut
  cases kq with
  | zero => exact absurd HA.out (by simp [impl_OpLen.j0])
  | succ kj1 =>
   have H := HA.out
   clear HA
   simp only [impl_OpLen.j0] at H
   by_cases c5 : x3_1 = true
   ·subst c5
    have H1 : (some 2) = some r := by rw [if_pos rfl] at H; exact H
    clear H
    have H := H1
    clear H1
    obtain rfl := Option.some.inj H
    go_wp2
    go_ret
    exact ⟨by first | rfl | (simp; done) | (simp [*]; done), by repeat (first | exact Drawn0.refl _ | apply Drawn0.step)⟩
   ·replace c5 := Bool.eq_false_iff.mpr c5
    subst c5
    have H1 : (if a0 = 2 then (some 3) else (if a0 = 3 then (some 3) else ((impl_within.f a0 14 20).bind fun t128 => (if t128 = true then (some 3) else (if a0 = 29 then (some 3) else (some 1)))))) = some r := by rw [if_neg (show ¬ (false = true) by decide)] at H; exact H
    clear H
    have H := H1
    clear H1
    by_cases c6 : a0 = 2
    ·rw [if_pos c6] at H
     have c6b0 : (a0 == 2) = true := beq_iff_eq.mpr c6
     have c6b1 : (a0 != 2) = false := bne_eq_false_iff_eq.mpr c6
     clear c6
     obtain rfl := Option.some.inj H
     go_wp2
     go_ret
     exact ⟨by first | rfl | (simp; done) | (simp [*]; done), by repeat (first | exact Drawn0.refl _ | apply Drawn0.step)⟩
    ·rw [if_neg c6] at H
     have c6b0 : (a0 == 2) = false := beq_eq_false_iff_ne.mpr c6
     have c6b1 : (a0 != 2) = true := bne_iff_ne.mpr c6
     by_cases c7 : a0 = 3
     ·rw [if_pos c7] at H
      have c7b0 : (a0 == 3) = true := beq_iff_eq.mpr c7
      have c7b1 : (a0 != 3) = false := bne_eq_false_iff_eq.mpr c7
      clear c7
      obtain rfl := Option.some.inj H
      go_wp2
      go_ret
      exact ⟨by first | rfl | (simp; done) | (simp [*]; done), by repeat (first | exact Drawn0.refl _ | apply Drawn0.step)⟩
     ·rw [if_neg c7] at H
      have c7b0 : (a0 == 3) = false := beq_eq_false_iff_ne.mpr c7
      have c7b1 : (a0 != 3) = true := bne_iff_ne.mpr c7
      replace H := Option.bind_eq_some_iff.mp H
      obtain ⟨t128, A80, H⟩ := H
      replace H : (if t128 = true then (some 3) else (if a0 = 29 then (some 3) else (some 1))) = some r := H
      have A8 := Aside0.mk A80
      clear A80
      by_cases c9 : t128 = true
      ·subst c9
       have H1 : (some 3) = some r := by rw [if_pos rfl] at H; exact H
       clear H
       have H := H1
       clear H1
       obtain rfl := Option.some.inj H
       go_wp2_with (first | (go_at_call 67; (with_reducible refine (impl_within.calls a0 14 20 true _ A8.out).mono ?_); rintro e w' ⟨rfl, ⟨nd, rfl⟩⟩))
       go_ret
       exact ⟨by first | rfl | (simp; done) | (simp [*]; done), by repeat (first | exact Drawn0.refl _ | apply Drawn0.step)⟩
      ·replace c9 := Bool.eq_false_iff.mpr c9
       subst c9
       have H1 : (if a0 = 29 then (some 3) else (some 1)) = some r := by rw [if_neg (show ¬ (false = true) by decide)] at H; exact H
       clear H
       have H := H1
       clear H1
       by_cases c10 : a0 = 29
       ·rw [if_pos c10] at H
        have c10b0 : (a0 == 29) = true := beq_iff_eq.mpr c10
        have c10b1 : (a0 != 29) = false := bne_eq_false_iff_eq.mpr c10
        clear c10
        obtain rfl := Option.some.inj H
        go_wp2_with (first | (go_at_call 67; (with_reducible refine (impl_within.calls a0 14 20 false _ A8.out).mono ?_); rintro e w' ⟨rfl, ⟨nd, rfl⟩⟩))
        go_ret
        exact ⟨by first | rfl | (simp; done) | (simp [*]; done), by repeat (first | exact Drawn0.refl _ | apply Drawn0.step)⟩
       ·rw [if_neg c10] at H
        have c10b0 : (a0 == 29) = false := beq_eq_false_iff_ne.mpr c10
        have c10b1 : (a0 != 29) = true := bne_iff_ne.mpr c10
        obtain rfl := Option.some.inj H
        go_wp2_with (first | (go_at_call 67; (with_reducible refine (impl_within.calls a0 14 20 false _ A8.out).mono ?_); rintro e w' ⟨rfl, ⟨nd, rfl⟩⟩))
        go_ret
        exact ⟨by first | rfl | (simp; done) | (simp [*]; done), by repeat (first | exact Drawn0.refl _ | apply Drawn0.step)⟩

/-! ### impl_Addr: function 52 -/
def impl_Addr.f (a0 : Int) : Option (Int) := some (Go.bits .and .i64 a0 65535)
set_option maxHeartbeats 8000000 in
set_option maxRecDepth 100000 in
theorem impl_Addr.calls (a0 : Int) (r : Int) (w : World) (h : impl_Addr.f a0 = some r) :
  Calls Try.prog 52 #[.int .i64 a0] w fun e w' => e = .returned (.int .i64 r) ∧ Drawn0 w w' := by
 have H : (some (Go.bits .and .i64 a0 65535)) = some r := h
 clear h
 obtain rfl := Option.some.inj H
 go_enter Try.func52, Try.ntmps52
 go_wp2
 go_ret
 exact ⟨by first | rfl | (simp; done) | (simp [*]; done), by repeat (first | exact Drawn0.refl _ | apply Drawn0.step)⟩

/-! ### impl_Signs: function 123 -/
def impl_Signs.f (a0 : Int) : Option (Bool × Bool) := (impl_Byte.f a0).bind fun t129 => ((impl_Byte.f a0).bind fun t130 => (some ((t129 == 0), decide (t130 > 127))))
set_option maxHeartbeats 8000000 in
set_option maxRecDepth 100000 in
theorem impl_Signs.calls (a0 : Int) (r1 : Bool) (r2 : Bool) (w : World) (h : impl_Signs.f a0 = some (r1, r2)) :
  Calls Try.prog 123 #[.int .i64 a0] w fun e w' => e = .returned (.tuple #[.bool r1, .bool r2]) ∧ Drawn0 w w' := by
 have H : ((impl_Byte.f a0).bind fun t129 => ((impl_Byte.f a0).bind fun t130 => (some ((t129 == 0), decide (t130 > 127))))) = some (r1, r2) := h
 clear h
 replace H := Option.bind_eq_some_iff.mp H
 obtain ⟨t129, A20, H⟩ := H
 replace H : ((impl_Byte.f a0).bind fun t130 => (some ((t129 == 0), decide (t130 > 127)))) = some (r1, r2) := H
 have A2 := Aside0.mk A20
 clear A20
 replace H := Option.bind_eq_some_iff.mp H
 obtain ⟨t130, A30, H⟩ := H
 replace H : (some ((t129 == 0), decide (t130 > 127))) = some (r1, r2) := H
 have A3 := Aside0.mk A30
 clear A30
 simp only [Option.some.injEq, Prod.mk.injEq] at H
 obtain ⟨rfl, rfl⟩ := H
 go_enter Try.func123, Try.ntmps123
 go_wp2_with (first | ((with_reducible refine gate_callee (f := 34) rfl ?_); refine goesM_ (some 5) rfl rfl Try.func34 #[.int .i64 a0] ?_; (with_reducible refine (impl_Byte.calls a0 t129 _ A2.out).mono ?_); rintro e w' ⟨rfl, ⟨nd, rfl⟩⟩; refine ⟨_, rfl, ?_⟩) | ((with_reducible refine gate_callee (f := 34) rfl ?_); refine goesM_ (some 8) rfl rfl Try.func34 #[.int .i64 a0] ?_; (with_reducible refine (impl_Byte.calls a0 t130 _ A3.out).mono ?_); rintro e w' ⟨rfl, ⟨nd, rfl⟩⟩; refine ⟨_, rfl, ?_⟩))
 go_ret2
 exact ⟨by first | rfl | (simp; done) | (simp [*]; done), by repeat (first | exact Drawn0.refl _ | apply Drawn0.step)⟩

/-! ### impl_SetA: function 120 -/
def impl_SetA.f (a0_0 : Int) (a0_1 : Int) (a0_2 : Int) (a0_3 : Int) (a0_4 : Bool) (a0_5 : Bool) (a0_6 : Bool) (a0_7 : Bool) (a1 : Int) : Option (Int × Int × Int × Int × Bool × Bool × Bool × Bool) := (impl_Byte.f a1).bind fun t133 => ((impl_Signs.f a1).bind fun bt134 => (some (t133, a0_1, a0_2, a0_3, bt134.1, bt134.2, a0_6, a0_7)))
set_option maxHeartbeats 8000000 in
set_option maxRecDepth 100000 in
theorem impl_SetA.calls (a0_0 : Int) (a0_1 : Int) (a0_2 : Int) (a0_3 : Int) (a0_4 : Bool) (a0_5 : Bool) (a0_6 : Bool) (a0_7 : Bool) (a1 : Int) (r1 : Int) (r2 : Int) (r3 : Int) (r4 : Int) (r5 : Bool) (r6 : Bool) (r7 : Bool) (r8 : Bool) (w : World) (h : impl_SetA.f a0_0 a0_1 a0_2 a0_3 a0_4 a0_5 a0_6 a0_7 a1 = some (r1, r2, r3, r4, r5, r6, r7, r8)) :
  Calls Try.prog 120 #[.agg #[.int .i64 a0_0, .int .i64 a0_1, .int .i64 a0_2, .int .i64 a0_3, .bool a0_4, .bool a0_5, .bool a0_6, .bool a0_7], .int .i64 a1] w fun e w' => e = .returned (.agg #[.int .i64 r1, .int .i64 r2, .int .i64 r3, .int .i64 r4, .bool r5, .bool r6, .bool r7, .bool r8]) ∧ Below w.heap.size w w' := by
 have hu55 := Try.underlying55
 have HB := Aside0.mk (Below.refl w.heap.size w)
 have H : ((impl_Byte.f a1).bind fun t133 => ((impl_Signs.f a1).bind fun bt134 => (some (t133, a0_1, a0_2, a0_3, bt134.1, bt134.2, a0_6, a0_7)))) = some (r1, r2, r3, r4, r5, r6, r7, r8) := h
 clear h
 replace H := Option.bind_eq_some_iff.mp H
 obtain ⟨t133, A30, H⟩ := H
 replace H : ((impl_Signs.f a1).bind fun bt134 => (some (t133, a0_1, a0_2, a0_3, bt134.1, bt134.2, a0_6, a0_7))) = some (r1, r2, r3, r4, r5, r6, r7, r8) := H
 have A3 := Aside0.mk A30
 clear A30
 replace H := Option.bind_eq_some_iff.mp H
 obtain ⟨⟨t134, t135⟩, A40, H⟩ := H
 replace H : (some (t133, a0_1, a0_2, a0_3, t134, t135, a0_6, a0_7)) = some (r1, r2, r3, r4, r5, r6, r7, r8) := H
 have A4 := Aside0.mk A40
 clear A40
 simp only [Option.some.injEq, Prod.mk.injEq] at H
 obtain ⟨rfl, rfl, rfl, rfl, rfl, rfl, rfl, rfl⟩ := H
 go_enter Try.func120, Try.ntmps120
 go_wp2_with (first | ((with_reducible refine gate_dst (N := 2) rfl ?_); refine bx (N := 2) (cs := #[.int .i64 a0_0, .int .i64 a0_1, .int .i64 a0_2, .int .i64 a0_3, .bool a0_4, .bool a0_5, .bool a0_6, .bool a0_7]) (t := 55) ?_; intro gb131 hg w5 hbox hb; have BK131 := Aside0.mk (hbox); have GW131 := Aside0.mk ((gs hg (bw HB.out))); have GE131 := Aside0.mk ((gs hg (bw HB.out))); replace HB := Aside0.mk (below_step (bw HB.out) hb); clear hb hbox hg) | ((with_reducible refine gate_dst (N := 4) rfl ?_); refine bx (N := 4) (cs := #[.int .i64 0, .int .i64 0, .int .i64 0, .int .i64 0, .bool false, .bool false, .bool false, .bool false]) (t := 55) ?_; intro gb132 hg w6 hbox hb; have BK132 := Aside0.mk (hbox); have GW132 := Aside0.mk ((gs hg (bw HB.out))); have GE132 := Aside0.mk ((gs hg (bw HB.out))); replace HB := Aside0.mk (below_step (bw HB.out) hb); have NB131_132 := Aside0.mk ((ga hg BK131.out)); have NB132_131 := Aside0.mk ((gc hg BK131.out)); replace BK131 := Aside0.mk (bb BK131 hb); clear hb hbox hg) | ((with_reducible refine gate_callee (f := 34) rfl ?_); refine goesM_ (some 6) rfl rfl Try.func34 #[.int .i64 a1] ?_; (with_reducible refine (impl_Byte.calls a1 t133 _ A3.out).mono ?_); rintro e w' ⟨rfl, ⟨nd, rfl⟩⟩; refine ⟨_, rfl, ?_⟩; (try (rw [drewN_self w6]; generalize hq_ : World.drewN w6 _ = w6; have n0_ : Aside0 (w6.heap[gb131]? = some (.cells #[.int .i64 a0_0, .int .i64 a0_1, .int .i64 a0_2, .int .i64 a0_3, .bool a0_4, .bool a0_5, .bool a0_6, .bool a0_7] 55 (0, 0))) := ⟨by rw [← hq_]; exact (kb BK131.out)⟩; have n1_ : Aside0 (w6.heap[gb132]? = some (.cells #[.int .i64 0, .int .i64 0, .int .i64 0, .int .i64 0, .bool false, .bool false, .bool false, .bool false] 55 (0, 0))) := ⟨by rw [← hq_]; exact (kb BK132.out)⟩; have n2_ : Aside0 (Below w.heap.size w w6) := ⟨by rw [← hq_]; exact (bw HB.out)⟩; clear BK131 BK132 HB hq_; have BK131 := n0_; have BK132 := n1_; have HB := n2_; clear n0_ n1_ n2_; (try (have hcz8_0 : w6.cell? ⟨gb131, 0, none⟩ = some (.int .i64 a0_0) := cl BK131 0)); (try (have hcz8_1 : w6.cell? ⟨gb131, 1, none⟩ = some (.int .i64 a0_1) := cl BK131 1)); (try (have hcz8_2 : w6.cell? ⟨gb131, 2, none⟩ = some (.int .i64 a0_2) := cl BK131 2)); (try (have hcz8_3 : w6.cell? ⟨gb131, 3, none⟩ = some (.int .i64 a0_3) := cl BK131 3)); (try (have hcz8_4 : w6.cell? ⟨gb131, 4, none⟩ = some (.bool a0_4) := cl BK131 4)); (try (have hcz8_5 : w6.cell? ⟨gb131, 5, none⟩ = some (.bool a0_5) := cl BK131 5)); (try (have hcz8_6 : w6.cell? ⟨gb131, 6, none⟩ = some (.bool a0_6) := cl BK131 6)); (try (have hcz8_7 : w6.cell? ⟨gb131, 7, none⟩ = some (.bool a0_7) := cl BK131 7)); (try (have hfz8_0 := blk_frozen BK131.out 0)); (try (have hfz8_1 := blk_frozen BK131.out 1)); (try (have hfz8_2 := blk_frozen BK131.out 2)); (try (have hfz8_3 := blk_frozen BK131.out 3)); (try (have hfz8_4 := blk_frozen BK131.out 4)); (try (have hfz8_5 := blk_frozen BK131.out 5)); (try (have hfz8_6 := blk_frozen BK131.out 6)); (try (have hfz8_7 := blk_frozen BK131.out 7)); (try (have hcz9_0 : w6.cell? ⟨gb132, 0, none⟩ = some (.int .i64 0) := cl BK132 0)); (try (have hcz9_1 : w6.cell? ⟨gb132, 1, none⟩ = some (.int .i64 0) := cl BK132 1)); (try (have hcz9_2 : w6.cell? ⟨gb132, 2, none⟩ = some (.int .i64 0) := cl BK132 2)); (try (have hcz9_3 : w6.cell? ⟨gb132, 3, none⟩ = some (.int .i64 0) := cl BK132 3)); (try (have hcz9_4 : w6.cell? ⟨gb132, 4, none⟩ = some (.bool false) := cl BK132 4)); (try (have hcz9_5 : w6.cell? ⟨gb132, 5, none⟩ = some (.bool false) := cl BK132 5)); (try (have hcz9_6 : w6.cell? ⟨gb132, 6, none⟩ = some (.bool false) := cl BK132 6)); (try (have hcz9_7 : w6.cell? ⟨gb132, 7, none⟩ = some (.bool false) := cl BK132 7)); (try (have hfz9_0 := blk_frozen BK132.out 0)); (try (have hfz9_1 := blk_frozen BK132.out 1)); (try (have hfz9_2 := blk_frozen BK132.out 2)); (try (have hfz9_3 := blk_frozen BK132.out 3)); (try (have hfz9_4 := blk_frozen BK132.out 4)); (try (have hfz9_5 := blk_frozen BK132.out 5)); (try (have hfz9_6 := blk_frozen BK132.out 6)); (try (have hfz9_7 := blk_frozen BK132.out 7)))); have hnb7 := NB131_132.out; have hnc7 := NB132_131.out; obtain ⟨hcz8_0, hcz8_1, hcz8_2, hcz8_3, hcz8_4, hcz8_5, hcz8_6, hcz8_7⟩ := ce8 BK131; have hfz8_0 := blk_frozen BK131.out 0; have hfz8_1 := blk_frozen BK131.out 1; have hfz8_2 := blk_frozen BK131.out 2; have hfz8_3 := blk_frozen BK131.out 3; have hfz8_4 := blk_frozen BK131.out 4; have hfz8_5 := blk_frozen BK131.out 5; have hfz8_6 := blk_frozen BK131.out 6; have hfz8_7 := blk_frozen BK131.out 7) | ((with_reducible refine gate_callee (f := 123) rfl ?_); refine goesM_ (some 10) rfl rfl Try.func123 #[.int .i64 a1] ?_; (with_reducible refine (impl_Signs.calls a1 t134 t135 _ A4.out).mono ?_); rintro e w' ⟨rfl, ⟨nd, rfl⟩⟩; refine ⟨_, rfl, ?_⟩; obtain ⟨hcz9_0, hcz9_1, hcz9_2, hcz9_3, hcz9_4, hcz9_5, hcz9_6, hcz9_7⟩ := ce8 BK132; have hfz9_0 := blk_frozen BK132.out 0; have hfz9_1 := blk_frozen BK132.out 1; have hfz9_2 := blk_frozen BK132.out 2; have hfz9_3 := blk_frozen BK132.out 3; have hfz9_4 := blk_frozen BK132.out 4; have hfz9_5 := blk_frozen BK132.out 5; have hfz9_6 := blk_frozen BK132.out 6; have hfz9_7 := blk_frozen BK132.out 7))
 refine bodyPost_ret (results_cell_row rfl _ _ gb132 55 #[.int .i64 t133, .int .i64 a0_1, .int .i64 a0_2, .int .i64 a0_3, .bool t134, .bool t135, .bool a0_6, .bool a0_7] (0, 0) _ rfl (bf NB132_131 BK132.out) Try.underlying55 rfl (by kernel_rfl)) rfl ?_
 exact ⟨rt, bw HB.out⟩

/-! ### impl_flag: function 101 -/
def impl_flag.f (a0 : Bool) : Option (Int) := if a0 = true then (some 1) else (some 0)
set_option maxHeartbeats 8000000 in
set_option maxRecDepth 100000 in
theorem impl_flag.calls (a0 : Bool) (r : Int) (w : World) (h : impl_flag.f a0 = some r) :
  Calls Try.prog 101 #[.bool a0] w fun e w' => e = .returned (.int .i64 r) ∧ Drawn0 w w' := by
 have H : (if a0 = true then (some 1) else (some 0)) = some r := h
 clear h
 by_cases c2 : a0 = true
 ·subst c2
  have H1 : (some 1) = some r := by rw [if_pos rfl] at H; exact H
  clear H
  have H := H1
  clear H1
  obtain rfl := Option.some.inj H
  go_enter Try.func101, Try.ntmps101
  go_wp2
  go_ret
  exact ⟨by first | rfl | (simp; done) | (simp [*]; done), by repeat (first | exact Drawn0.refl _ | apply Drawn0.step)⟩
 ·replace c2 := Bool.eq_false_iff.mpr c2
  subst c2
  have H1 : (some 0) = some r := by rw [if_neg (show ¬ (false = true) by decide)] at H; exact H
  clear H
  have H := H1
  clear H1
  obtain rfl := Option.some.inj H
  go_enter Try.func101, Try.ntmps101
  go_wp2
  go_ret
  exact ⟨by first | rfl | (simp; done) | (simp [*]; done), by repeat (first | exact Drawn0.refl _ | apply Drawn0.step)⟩

/-! ### impl_Add8: function 121 -/
def impl_Add8.f (a0 : Int) (a1 : Int) (a2 : Bool) : Option (Int × Bool) := (impl_Byte.f a0).bind fun t136 => ((impl_Byte.f a1).bind fun t137 => ((impl_flag.f a2).bind fun t138 => ((impl_Byte.f (wrap64 ((wrap64 (t136 + t137)) + t138))).bind fun t139 => (some (t139, decide ((wrap64 ((wrap64 (t136 + t137)) + t138)) > 255))))))
set_option maxHeartbeats 8000000 in
set_option maxRecDepth 100000 in
theorem impl_Add8.calls (a0 : Int) (a1 : Int) (a2 : Bool) (r1 : Int) (r2 : Bool) (w : World) (h : impl_Add8.f a0 a1 a2 = some (r1, r2)) :
  Calls Try.prog 121 #[.int .i64 a0, .int .i64 a1, .bool a2] w fun e w' => e = .returned (.tuple #[.int .i64 r1, .bool r2]) ∧ Drawn0 w w' := by
 have H : ((impl_Byte.f a0).bind fun t136 => ((impl_Byte.f a1).bind fun t137 => ((impl_flag.f a2).bind fun t138 => ((impl_Byte.f (wrap64 ((wrap64 (t136 + t137)) + t138))).bind fun t139 => (some (t139, decide ((wrap64 ((wrap64 (t136 + t137)) + t138)) > 255))))))) = some (r1, r2) := h
 clear h
 replace H := Option.bind_eq_some_iff.mp H
 obtain ⟨t136, A40, H⟩ := H
 replace H : ((impl_Byte.f a1).bind fun t137 => ((impl_flag.f a2).bind fun t138 => ((impl_Byte.f (wrap64 ((wrap64 (t136 + t137)) + t138))).bind fun t139 => (some (t139, decide ((wrap64 ((wrap64 (t136 + t137)) + t138)) > 255)))))) = some (r1, r2) := H
 have A4 := Aside0.mk A40
 clear A40
 replace H := Option.bind_eq_some_iff.mp H
 obtain ⟨t137, A50, H⟩ := H
 replace H : ((impl_flag.f a2).bind fun t138 => ((impl_Byte.f (wrap64 ((wrap64 (t136 + t137)) + t138))).bind fun t139 => (some (t139, decide ((wrap64 ((wrap64 (t136 + t137)) + t138)) > 255))))) = some (r1, r2) := H
 have A5 := Aside0.mk A50
 clear A50
 replace H := Option.bind_eq_some_iff.mp H
 obtain ⟨t138, A60, H⟩ := H
 replace H : ((impl_Byte.f (wrap64 ((wrap64 (t136 + t137)) + t138))).bind fun t139 => (some (t139, decide ((wrap64 ((wrap64 (t136 + t137)) + t138)) > 255)))) = some (r1, r2) := H
 have A6 := Aside0.mk A60
 clear A60
 replace H := Option.bind_eq_some_iff.mp H
 obtain ⟨t139, A70, H⟩ := H
 replace H : (some (t139, decide ((wrap64 ((wrap64 (t136 + t137)) + t138)) > 255))) = some (r1, r2) := H
 have A7 := Aside0.mk A70
 clear A70
 simp only [Option.some.injEq, Prod.mk.injEq] at H
 obtain ⟨rfl, rfl⟩ := H
 go_enter Try.func121, Try.ntmps121
 go_wp2_with (first | ((with_reducible refine gate_callee (f := 34) rfl ?_); refine goesM_ (some 10) rfl rfl Try.func34 #[.int .i64 a0] ?_; (with_reducible refine (impl_Byte.calls a0 t136 _ A4.out).mono ?_); rintro e w' ⟨rfl, ⟨nd, rfl⟩⟩; refine ⟨_, rfl, ?_⟩) | ((with_reducible refine gate_callee (f := 34) rfl ?_); refine goesM_ (some 12) rfl rfl Try.func34 #[.int .i64 a1] ?_; (with_reducible refine (impl_Byte.calls a1 t137 _ A5.out).mono ?_); rintro e w' ⟨rfl, ⟨nd, rfl⟩⟩; refine ⟨_, rfl, ?_⟩) | ((with_reducible refine gate_callee (f := 101) rfl ?_); refine goesM_ (some 15) rfl rfl Try.func101 #[.bool a2] ?_; (with_reducible refine (impl_flag.calls a2 t138 _ A6.out).mono ?_); rintro e w' ⟨rfl, ⟨nd, rfl⟩⟩; refine ⟨_, rfl, ?_⟩) | ((with_reducible refine gate_callee (f := 34) rfl ?_); refine goesM_ (some 18) rfl rfl Try.func34 #[.int .i64 (wrap64 ((wrap64 (t136 + t137)) + t138))] ?_; (with_reducible refine (impl_Byte.calls (wrap64 ((wrap64 (t136 + t137)) + t138)) t139 _ A7.out).mono ?_); rintro e w' ⟨rfl, ⟨nd, rfl⟩⟩; refine ⟨_, rfl, ?_⟩))
 go_ret2
 exact ⟨by first | rfl | (simp; done) | (simp [*]; done), by repeat (first | exact Drawn0.refl _ | apply Drawn0.step)⟩

/-! ### impl_Sub8: function 122 -/
def impl_Sub8.f (a0 : Int) (a1 : Int) (a2 : Bool) : Option (Int × Bool) := (impl_Byte.f a0).bind fun t140 => ((impl_Byte.f a1).bind fun t141 => ((impl_flag.f (!a2)).bind fun t142 => ((impl_Byte.f (wrap64 ((wrap64 (t140 - t141)) - t142))).bind fun t143 => (some (t143, decide ((wrap64 ((wrap64 (t140 - t141)) - t142)) ≥ 0))))))
set_option maxHeartbeats 8000000 in
set_option maxRecDepth 100000 in
theorem impl_Sub8.calls (a0 : Int) (a1 : Int) (a2 : Bool) (r1 : Int) (r2 : Bool) (w : World) (h : impl_Sub8.f a0 a1 a2 = some (r1, r2)) :
  Calls Try.prog 122 #[.int .i64 a0, .int .i64 a1, .bool a2] w fun e w' => e = .returned (.tuple #[.int .i64 r1, .bool r2]) ∧ Drawn0 w w' := by
 have H : ((impl_Byte.f a0).bind fun t140 => ((impl_Byte.f a1).bind fun t141 => ((impl_flag.f (!a2)).bind fun t142 => ((impl_Byte.f (wrap64 ((wrap64 (t140 - t141)) - t142))).bind fun t143 => (some (t143, decide ((wrap64 ((wrap64 (t140 - t141)) - t142)) ≥ 0))))))) = some (r1, r2) := h
 clear h
 replace H := Option.bind_eq_some_iff.mp H
 obtain ⟨t140, A40, H⟩ := H
 replace H : ((impl_Byte.f a1).bind fun t141 => ((impl_flag.f (!a2)).bind fun t142 => ((impl_Byte.f (wrap64 ((wrap64 (t140 - t141)) - t142))).bind fun t143 => (some (t143, decide ((wrap64 ((wrap64 (t140 - t141)) - t142)) ≥ 0)))))) = some (r1, r2) := H
 have A4 := Aside0.mk A40
 clear A40
 replace H := Option.bind_eq_some_iff.mp H
 obtain ⟨t141, A50, H⟩ := H
 replace H : ((impl_flag.f (!a2)).bind fun t142 => ((impl_Byte.f (wrap64 ((wrap64 (t140 - t141)) - t142))).bind fun t143 => (some (t143, decide ((wrap64 ((wrap64 (t140 - t141)) - t142)) ≥ 0))))) = some (r1, r2) := H
 have A5 := Aside0.mk A50
 clear A50
 replace H := Option.bind_eq_some_iff.mp H
 obtain ⟨t142, A60, H⟩ := H
 replace H : ((impl_Byte.f (wrap64 ((wrap64 (t140 - t141)) - t142))).bind fun t143 => (some (t143, decide ((wrap64 ((wrap64 (t140 - t141)) - t142)) ≥ 0)))) = some (r1, r2) := H
 have A6 := Aside0.mk A60
 clear A60
 replace H := Option.bind_eq_some_iff.mp H
 obtain ⟨t143, A70, H⟩ := H
 replace H : (some (t143, decide ((wrap64 ((wrap64 (t140 - t141)) - t142)) ≥ 0))) = some (r1, r2) := H
 have A7 := Aside0.mk A70
 clear A70
 simp only [Option.some.injEq, Prod.mk.injEq] at H
 obtain ⟨rfl, rfl⟩ := H
 go_enter Try.func122, Try.ntmps122
 go_wp2_with (first | ((with_reducible refine gate_callee (f := 34) rfl ?_); refine goesM_ (some 10) rfl rfl Try.func34 #[.int .i64 a0] ?_; (with_reducible refine (impl_Byte.calls a0 t140 _ A4.out).mono ?_); rintro e w' ⟨rfl, ⟨nd, rfl⟩⟩; refine ⟨_, rfl, ?_⟩) | ((with_reducible refine gate_callee (f := 34) rfl ?_); refine goesM_ (some 12) rfl rfl Try.func34 #[.int .i64 a1] ?_; (with_reducible refine (impl_Byte.calls a1 t141 _ A5.out).mono ?_); rintro e w' ⟨rfl, ⟨nd, rfl⟩⟩; refine ⟨_, rfl, ?_⟩) | ((with_reducible refine gate_callee (f := 101) rfl ?_); refine goesM_ (some 16) rfl rfl Try.func101 #[.bool (!a2)] ?_; (with_reducible refine (impl_flag.calls (!a2) t142 _ A6.out).mono ?_); rintro e w' ⟨rfl, ⟨nd, rfl⟩⟩; refine ⟨_, rfl, ?_⟩) | ((with_reducible refine gate_callee (f := 34) rfl ?_); refine goesM_ (some 19) rfl rfl Try.func34 #[.int .i64 (wrap64 ((wrap64 (t140 - t141)) - t142))] ?_; (with_reducible refine (impl_Byte.calls (wrap64 ((wrap64 (t140 - t141)) - t142)) t143 _ A7.out).mono ?_); rintro e w' ⟨rfl, ⟨nd, rfl⟩⟩; refine ⟨_, rfl, ?_⟩))
 go_ret2
 exact ⟨by first | rfl | (simp; done) | (simp [*]; done), by repeat (first | exact Drawn0.refl _ | apply Drawn0.step)⟩

-- NOT PRINTED: function 109 (impl_Cpu_reckon)

/-! ### impl_SetX: function 124 -/
def impl_SetX.f (a0_0 : Int) (a0_1 : Int) (a0_2 : Int) (a0_3 : Int) (a0_4 : Bool) (a0_5 : Bool) (a0_6 : Bool) (a0_7 : Bool) (a1 : Int) : Option (Int × Int × Int × Int × Bool × Bool × Bool × Bool) := (impl_Byte.f a1).bind fun t221 => ((impl_Signs.f a1).bind fun bt222 => (some (a0_0, t221, a0_2, a0_3, bt222.1, bt222.2, a0_6, a0_7)))
set_option maxHeartbeats 8000000 in
set_option maxRecDepth 100000 in
theorem impl_SetX.calls (a0_0 : Int) (a0_1 : Int) (a0_2 : Int) (a0_3 : Int) (a0_4 : Bool) (a0_5 : Bool) (a0_6 : Bool) (a0_7 : Bool) (a1 : Int) (r1 : Int) (r2 : Int) (r3 : Int) (r4 : Int) (r5 : Bool) (r6 : Bool) (r7 : Bool) (r8 : Bool) (w : World) (h : impl_SetX.f a0_0 a0_1 a0_2 a0_3 a0_4 a0_5 a0_6 a0_7 a1 = some (r1, r2, r3, r4, r5, r6, r7, r8)) :
  Calls Try.prog 124 #[.agg #[.int .i64 a0_0, .int .i64 a0_1, .int .i64 a0_2, .int .i64 a0_3, .bool a0_4, .bool a0_5, .bool a0_6, .bool a0_7], .int .i64 a1] w fun e w' => e = .returned (.agg #[.int .i64 r1, .int .i64 r2, .int .i64 r3, .int .i64 r4, .bool r5, .bool r6, .bool r7, .bool r8]) ∧ Below w.heap.size w w' := by
 have hu55 := Try.underlying55
 have HB := Aside0.mk (Below.refl w.heap.size w)
 have H : ((impl_Byte.f a1).bind fun t221 => ((impl_Signs.f a1).bind fun bt222 => (some (a0_0, t221, a0_2, a0_3, bt222.1, bt222.2, a0_6, a0_7)))) = some (r1, r2, r3, r4, r5, r6, r7, r8) := h
 clear h
 replace H := Option.bind_eq_some_iff.mp H
 obtain ⟨t221, A30, H⟩ := H
 replace H : ((impl_Signs.f a1).bind fun bt222 => (some (a0_0, t221, a0_2, a0_3, bt222.1, bt222.2, a0_6, a0_7))) = some (r1, r2, r3, r4, r5, r6, r7, r8) := H
 have A3 := Aside0.mk A30
 clear A30
 replace H := Option.bind_eq_some_iff.mp H
 obtain ⟨⟨t222, t223⟩, A40, H⟩ := H
 replace H : (some (a0_0, t221, a0_2, a0_3, t222, t223, a0_6, a0_7)) = some (r1, r2, r3, r4, r5, r6, r7, r8) := H
 have A4 := Aside0.mk A40
 clear A40
 simp only [Option.some.injEq, Prod.mk.injEq] at H
 obtain ⟨rfl, rfl, rfl, rfl, rfl, rfl, rfl, rfl⟩ := H
 go_enter Try.func124, Try.ntmps124
 go_wp2_with (first | ((with_reducible refine gate_dst (N := 2) rfl ?_); refine bx (N := 2) (cs := #[.int .i64 a0_0, .int .i64 a0_1, .int .i64 a0_2, .int .i64 a0_3, .bool a0_4, .bool a0_5, .bool a0_6, .bool a0_7]) (t := 55) ?_; intro gb219 hg w5 hbox hb; have BK219 := Aside0.mk (hbox); have GW219 := Aside0.mk ((gs hg (bw HB.out))); have GE219 := Aside0.mk ((gs hg (bw HB.out))); replace HB := Aside0.mk (below_step (bw HB.out) hb); clear hb hbox hg) | ((with_reducible refine gate_dst (N := 4) rfl ?_); refine bx (N := 4) (cs := #[.int .i64 0, .int .i64 0, .int .i64 0, .int .i64 0, .bool false, .bool false, .bool false, .bool false]) (t := 55) ?_; intro gb220 hg w6 hbox hb; have BK220 := Aside0.mk (hbox); have GW220 := Aside0.mk ((gs hg (bw HB.out))); have GE220 := Aside0.mk ((gs hg (bw HB.out))); replace HB := Aside0.mk (below_step (bw HB.out) hb); have NB219_220 := Aside0.mk ((ga hg BK219.out)); have NB220_219 := Aside0.mk ((gc hg BK219.out)); replace BK219 := Aside0.mk (bb BK219 hb); clear hb hbox hg) | ((with_reducible refine gate_callee (f := 34) rfl ?_); refine goesM_ (some 6) rfl rfl Try.func34 #[.int .i64 a1] ?_; (with_reducible refine (impl_Byte.calls a1 t221 _ A3.out).mono ?_); rintro e w' ⟨rfl, ⟨nd, rfl⟩⟩; refine ⟨_, rfl, ?_⟩; (try (rw [drewN_self w6]; generalize hq_ : World.drewN w6 _ = w6; have n0_ : Aside0 (w6.heap[gb219]? = some (.cells #[.int .i64 a0_0, .int .i64 a0_1, .int .i64 a0_2, .int .i64 a0_3, .bool a0_4, .bool a0_5, .bool a0_6, .bool a0_7] 55 (0, 0))) := ⟨by rw [← hq_]; exact (kb BK219.out)⟩; have n1_ : Aside0 (w6.heap[gb220]? = some (.cells #[.int .i64 0, .int .i64 0, .int .i64 0, .int .i64 0, .bool false, .bool false, .bool false, .bool false] 55 (0, 0))) := ⟨by rw [← hq_]; exact (kb BK220.out)⟩; have n2_ : Aside0 (Below w.heap.size w w6) := ⟨by rw [← hq_]; exact (bw HB.out)⟩; clear BK219 BK220 HB hq_; have BK219 := n0_; have BK220 := n1_; have HB := n2_; clear n0_ n1_ n2_; (try (have hcz8_0 : w6.cell? ⟨gb219, 0, none⟩ = some (.int .i64 a0_0) := cl BK219 0)); (try (have hcz8_1 : w6.cell? ⟨gb219, 1, none⟩ = some (.int .i64 a0_1) := cl BK219 1)); (try (have hcz8_2 : w6.cell? ⟨gb219, 2, none⟩ = some (.int .i64 a0_2) := cl BK219 2)); (try (have hcz8_3 : w6.cell? ⟨gb219, 3, none⟩ = some (.int .i64 a0_3) := cl BK219 3)); (try (have hcz8_4 : w6.cell? ⟨gb219, 4, none⟩ = some (.bool a0_4) := cl BK219 4)); (try (have hcz8_5 : w6.cell? ⟨gb219, 5, none⟩ = some (.bool a0_5) := cl BK219 5)); (try (have hcz8_6 : w6.cell? ⟨gb219, 6, none⟩ = some (.bool a0_6) := cl BK219 6)); (try (have hcz8_7 : w6.cell? ⟨gb219, 7, none⟩ = some (.bool a0_7) := cl BK219 7)); (try (have hfz8_0 := blk_frozen BK219.out 0)); (try (have hfz8_1 := blk_frozen BK219.out 1)); (try (have hfz8_2 := blk_frozen BK219.out 2)); (try (have hfz8_3 := blk_frozen BK219.out 3)); (try (have hfz8_4 := blk_frozen BK219.out 4)); (try (have hfz8_5 := blk_frozen BK219.out 5)); (try (have hfz8_6 := blk_frozen BK219.out 6)); (try (have hfz8_7 := blk_frozen BK219.out 7)); (try (have hcz9_0 : w6.cell? ⟨gb220, 0, none⟩ = some (.int .i64 0) := cl BK220 0)); (try (have hcz9_1 : w6.cell? ⟨gb220, 1, none⟩ = some (.int .i64 0) := cl BK220 1)); (try (have hcz9_2 : w6.cell? ⟨gb220, 2, none⟩ = some (.int .i64 0) := cl BK220 2)); (try (have hcz9_3 : w6.cell? ⟨gb220, 3, none⟩ = some (.int .i64 0) := cl BK220 3)); (try (have hcz9_4 : w6.cell? ⟨gb220, 4, none⟩ = some (.bool false) := cl BK220 4)); (try (have hcz9_5 : w6.cell? ⟨gb220, 5, none⟩ = some (.bool false) := cl BK220 5)); (try (have hcz9_6 : w6.cell? ⟨gb220, 6, none⟩ = some (.bool false) := cl BK220 6)); (try (have hcz9_7 : w6.cell? ⟨gb220, 7, none⟩ = some (.bool false) := cl BK220 7)); (try (have hfz9_0 := blk_frozen BK220.out 0)); (try (have hfz9_1 := blk_frozen BK220.out 1)); (try (have hfz9_2 := blk_frozen BK220.out 2)); (try (have hfz9_3 := blk_frozen BK220.out 3)); (try (have hfz9_4 := blk_frozen BK220.out 4)); (try (have hfz9_5 := blk_frozen BK220.out 5)); (try (have hfz9_6 := blk_frozen BK220.out 6)); (try (have hfz9_7 := blk_frozen BK220.out 7)))); have hnb7 := NB219_220.out; have hnc7 := NB220_219.out; obtain ⟨hcz8_0, hcz8_1, hcz8_2, hcz8_3, hcz8_4, hcz8_5, hcz8_6, hcz8_7⟩ := ce8 BK219; have hfz8_0 := blk_frozen BK219.out 0; have hfz8_1 := blk_frozen BK219.out 1; have hfz8_2 := blk_frozen BK219.out 2; have hfz8_3 := blk_frozen BK219.out 3; have hfz8_4 := blk_frozen BK219.out 4; have hfz8_5 := blk_frozen BK219.out 5; have hfz8_6 := blk_frozen BK219.out 6; have hfz8_7 := blk_frozen BK219.out 7) | ((with_reducible refine gate_callee (f := 123) rfl ?_); refine goesM_ (some 10) rfl rfl Try.func123 #[.int .i64 a1] ?_; (with_reducible refine (impl_Signs.calls a1 t222 t223 _ A4.out).mono ?_); rintro e w' ⟨rfl, ⟨nd, rfl⟩⟩; refine ⟨_, rfl, ?_⟩; obtain ⟨hcz9_0, hcz9_1, hcz9_2, hcz9_3, hcz9_4, hcz9_5, hcz9_6, hcz9_7⟩ := ce8 BK220; have hfz9_0 := blk_frozen BK220.out 0; have hfz9_1 := blk_frozen BK220.out 1; have hfz9_2 := blk_frozen BK220.out 2; have hfz9_3 := blk_frozen BK220.out 3; have hfz9_4 := blk_frozen BK220.out 4; have hfz9_5 := blk_frozen BK220.out 5; have hfz9_6 := blk_frozen BK220.out 6; have hfz9_7 := blk_frozen BK220.out 7))
 refine bodyPost_ret (results_cell_row rfl _ _ gb220 55 #[.int .i64 a0_0, .int .i64 t221, .int .i64 a0_2, .int .i64 a0_3, .bool t222, .bool t223, .bool a0_6, .bool a0_7] (0, 0) _ rfl (bf NB220_219 BK220.out) Try.underlying55 rfl (by kernel_rfl)) rfl ?_
 exact ⟨rt, bw HB.out⟩

-- NOT PRINTED: function 110 (impl_Cpu_turn)

-- NOT PRINTED: function 99 (impl_Mem_push)

-- NOT PRINTED: function 98 (impl_Mem_pushPc)

/-! ### impl_Join: function 39 -/
def impl_Join.f (a0 : Int) (a1 : Int) : Option (Int) := (impl_Byte.f a0).bind fun t257 => ((impl_Byte.f a1).bind fun t258 => (some (wrap64 (t257 + (wrap64 (256 * t258))))))
set_option maxHeartbeats 8000000 in
set_option maxRecDepth 100000 in
theorem impl_Join.calls (a0 : Int) (a1 : Int) (r : Int) (w : World) (h : impl_Join.f a0 a1 = some r) :
  Calls Try.prog 39 #[.int .i64 a0, .int .i64 a1] w fun e w' => e = .returned (.int .i64 r) ∧ Drawn0 w w' := by
 have H : ((impl_Byte.f a0).bind fun t257 => ((impl_Byte.f a1).bind fun t258 => (some (wrap64 (t257 + (wrap64 (256 * t258))))))) = some r := h
 clear h
 replace H := Option.bind_eq_some_iff.mp H
 obtain ⟨t257, A30, H⟩ := H
 replace H : ((impl_Byte.f a1).bind fun t258 => (some (wrap64 (t257 + (wrap64 (256 * t258)))))) = some r := H
 have A3 := Aside0.mk A30
 clear A30
 replace H := Option.bind_eq_some_iff.mp H
 obtain ⟨t258, A40, H⟩ := H
 replace H : (some (wrap64 (t257 + (wrap64 (256 * t258))))) = some r := H
 have A4 := Aside0.mk A40
 clear A40
 obtain rfl := Option.some.inj H
 go_enter Try.func39, Try.ntmps39
 go_wp2_with (first | ((with_reducible refine gate_callee (f := 34) rfl ?_); refine goesM_ (some 6) rfl rfl Try.func34 #[.int .i64 a0] ?_; (with_reducible refine (impl_Byte.calls a0 t257 _ A3.out).mono ?_); rintro e w' ⟨rfl, ⟨nd, rfl⟩⟩; refine ⟨_, rfl, ?_⟩) | ((with_reducible refine gate_callee (f := 34) rfl ?_); refine goesM_ (some 8) rfl rfl Try.func34 #[.int .i64 a1] ?_; (with_reducible refine (impl_Byte.calls a1 t258 _ A4.out).mono ?_); rintro e w' ⟨rfl, ⟨nd, rfl⟩⟩; refine ⟨_, rfl, ?_⟩))
 go_ret
 exact ⟨by first | rfl | (simp; done) | (simp [*]; done), by repeat (first | exact Drawn0.refl _ | apply Drawn0.step)⟩

-- NOT PRINTED: function 126 (impl_Mem_pull)

-- NOT PRINTED: function 125 (impl_Mem_back)

/-! ### mem_pull (mine) -/
theorem pushF_keeps (ram : List Int) (k : Cp) (v : Int) : (pushF ram k v).2 = { k with S := (pushF ram k v).2.S } ∧ (pushF ram k v).1.length = ram.length := by
 unfold pushF
 split <;> simp
theorem blkP {w : World} {c : Nat} {k : Cp} {t : TypeId} (h : w.heap[c]? = some (.cells k.cells t (0, 0))) : w.cell? ⟨c, 3, none⟩ = some (.int .i64 k.P) := (blk_cell h 3).trans rfl
def pushPcF (ram : List Int) (k : Cp) : List Int × Cp := pushF (pushF ram k (k.P / 256)).1 (pushF ram k (k.P / 256)).2 k.P
set_option maxRecDepth 100000 in
theorem pushPc_calls {w0 w : World} {x c : Nat} {rv : Value} {b : Int} {k : Cp} {ram : List Int} (h : MC w0 w x c rv b k ram) :
  Calls Try.prog 98 #[.pointer (some ⟨x, 0, none⟩), .pointer (some ⟨c, 0, none⟩)] w fun e w' => e = .returned (.tuple #[]) ∧
   MC w0 w' x c rv b (pushPcF ram k).2 (pushPcF ram k).1 ∧ Kept w w' (fun j => j = c ∨ some j = rv.ownBlock) := by
 have hu37 := Try.underlying32
 have hu38 := Try.underlying55
 have hP := blkP h.cpu
 have eP : (pushF ram k (k.P / 256)).2.P = k.P := by rw [(pushF_keeps ram k (k.P / 256)).1]
 have eq : pushPcF ram k = pushF (pushF ram k (k.P / 256)).1 (pushF ram k (k.P / 256)).2 k.P := rfl
 rw [eq]
 clear eq
 have EP := Aside0.mk eP
 clear eP
 have E8 : Aside0 (∀ q : Int, shr .i64 q 8 = q / 256) := ⟨fun q => rfl⟩
 generalize k.P = p at *
 go_enter Try.func98, Try.ntmps98
 go_wp2_with fail
 refine (push_calls h _).mono ?_
 rintro e w' ⟨rfl, h1, k1⟩
 have hP1 := blkP h1.cpu
 rw [EP.out] at hP1
 clear hP
 generalize hq : pushF ram k (p / 256) = q at *
 have HQ := Aside0.mk hq
 clear hq
 go_wp2_with fail
 refine (push_calls h1 _).mono ?_
 rintro e w2 ⟨rfl, h2, k2⟩
 go_wp2
 go_end0
 obtain rfl := HQ.out
 exact ⟨rfl, h2, k1.then_ k2 (fun j hj => .inl hj)⟩
def pullF (ram : List Int) (k : Cp) : Cp × Int := if ram.length = 512 then ({ k with S := wrap64 (k.S + 1) % 256 }, rd ram (256 + wrap64 (k.S + 1) % 256)) else (k, 0)
set_option maxRecDepth 100000 in
set_option maxHeartbeats 1000000 in
theorem pull_yes (x c g cap : Nat) (ram : List Int) (S val : Int) (w : World)
  (hx0 : w.cell? ⟨x, 0, none⟩ = some (.slice (some ⟨g, 0, none⟩) ram.length cap)) (hc2 : w.cell? ⟨c, 2, none⟩ = some (.int .i64 S))
  (hlen : ram.length = 512) (hcg : w.cell? ⟨g, (256 + wrap64 (S + 1) % 256).toNat, none⟩ = some (.int .i64 val)) (hfc : w.frozen? ⟨c, 2, none⟩ = false) (hgc : g ≠ c) (hgx : g ≠ x) (hcx : c ≠ x) (hxc : x ≠ c) :
  Calls Try.prog 126 #[.pointer (some ⟨x, 0, none⟩), .pointer (some ⟨c, 0, none⟩)] w fun e w' => e = .returned (.int .i64 val) ∧
   ∃ n, w' = (w.setCell ⟨c, 2, none⟩ (.int .i64 (wrap64 (S + 1) % 256))).drewN n := by
 have hu37 := Try.underlying32
 have hu38 := Try.underlying55
 have hl : (((ram.length : Nat) : Int) != 512) = false := by simp; omega
 have A3 : Aside0 (∀ w, Calls Try.prog 34 #[.int .i64 (wrap64 (S + 1))] w fun e w' => e = .returned (.int .i64 (wrap64 (S + 1) % 256)) ∧ w' = w) := ⟨byte_same _⟩
 have hs0 : 0 ≤ wrap64 (S + 1) % 256 := by omega
 have hs1 : wrap64 (S + 1) % 256 < 256 := by omega
 generalize wrap64 (S + 1) % 256 = sb at *
 have hsum : IntKind.i64.wrap (256 + sb) = 256 + sb := by rw [IntKind.wrap_i64]; omega
 have hb1 : (256 + sb < (ram.length : Int)) = True := eq_true (by omega)
 have hb0 : (0 ≤ 256 + sb) = True := eq_true (by omega)
 clear hlen
 go_enter Try.func126, Try.ntmps126
 go_wp2_with (go_at_call 34; refine (A3.out _).mono ?_; rintro e w' ⟨rfl, rfl⟩)
 go_quiet (fail)
 go_wp2
 go_ret
 exact ⟨rfl, _, rfl⟩
set_option maxRecDepth 100000 in
theorem pull_no (x c : Nat) (A : Option Addr) (cap : Nat) (ram : List Int) (w : World)
  (hx0 : w.cell? ⟨x, 0, none⟩ = some (.slice A ram.length cap)) (hlen : ram.length ≠ 512) :
  Calls Try.prog 126 #[.pointer (some ⟨x, 0, none⟩), .pointer (some ⟨c, 0, none⟩)] w fun e w' => e = .returned (.int .i64 0) ∧ w' = w := by
 have hu37 := Try.underlying32
 have hl : (((ram.length : Nat) : Int) != 512) = true := by simp; omega
 clear hlen
 go_enter Try.func126, Try.ntmps126
 go_wp2
 go_ret
 exact ⟨rfl, rfl⟩
theorem pull_calls {w0 w : World} {x c : Nat} {rv : Value} {b : Int} {k : Cp} {ram : List Int} (h : MC w0 w x c rv b k ram) :
  Calls Try.prog 126 #[.pointer (some ⟨x, 0, none⟩), .pointer (some ⟨c, 0, none⟩)] w fun e w' => e = .returned (.int .i64 (pullF ram k).2) ∧
   MC w0 w' x c rv b (pullF ram k).1 ram ∧ Kept w w' (fun j => j = c ∨ some j = rv.ownBlock) := by
 unfold pullF
 by_cases hl : ram.length = 512
 ·rw [if_pos hl]
  obtain ⟨g, cap, rfl, hg, _, _⟩ := Kd.R_form h.row (by omega)
  obtain ⟨hcg, _⟩ := Kd.R_celln 0 h.row (256 + wrap64 (k.S + 1) % 256) (by omega) (by omega)
  refine (pull_yes x c g cap ram k.S _ w ((blk_cell h.mem 0).trans rfl) ((blk_cell h.cpu 2).trans rfl) hl hcg (blk_frozen h.cpu 2) (fun e => h.far.2 (by rw [e]; rfl)) (fun e => h.far.1 (by rw [e]; rfl)) (Ne.symm h.ne) h.ne).mono ?_
  rintro e w' ⟨rfl, n, rfl⟩
  refine ⟨rfl, ((h.setC (k' := { k with S := wrap64 (k.S + 1) % 256 }) 2 _ rfl).drewN n), ?_⟩
  exact ((kept_set (Kept.refl w _) (.inl rfl) _).drewN n)
 ·rw [if_neg hl]
  obtain ⟨A, cap, rfl⟩ := Kd.R_slice h.row
  refine (pull_no x c A cap ram w ((blk_cell h.mem 0).trans rfl) hl).mono ?_
  rintro e w' ⟨rfl, rfl⟩
  exact ⟨rfl, h, Kept.refl _ _⟩
theorem implJoin (a b : Int) : impl_Join.f a b = some (a % 256 + 256 * (b % 256)) := by
 unfold impl_Join.f impl_Byte.f
 simp only [Option.bind_some, and255]
 rw [show wrap64 (256 * (b % 256)) = 256 * (b % 256) by unfold wrap64; omega, show wrap64 (a % 256 + 256 * (b % 256)) = a % 256 + 256 * (b % 256) by unfold wrap64; omega]
def backF (ram : List Int) (k : Cp) : Cp := { (pullF ram (pullF ram k).1).1 with P := (pullF ram k).2 % 256 + 256 * ((pullF ram (pullF ram k).1).2 % 256) }
set_option maxRecDepth 100000 in
theorem back_calls {w0 w : World} {x c : Nat} {rv : Value} {b : Int} {k : Cp} {ram : List Int} (h : MC w0 w x c rv b k ram) :
  Calls Try.prog 125 #[.pointer (some ⟨x, 0, none⟩), .pointer (some ⟨c, 0, none⟩)] w fun e w' => e = .returned (.tuple #[]) ∧
   MC w0 w' x c rv b (backF ram k) ram ∧ Kept w w' (fun j => j = c ∨ some j = rv.ownBlock) := by
 have hu37 := Try.underlying32
 have hu38 := Try.underlying55
 unfold backF
 go_enter Try.func125, Try.ntmps125
 go_wp2_with fail
 refine (pull_calls h).mono ?_
 rintro e w1 ⟨rfl, h1, k1⟩
 generalize hq : pullF ram k = q at *
 have HQ := Aside0.mk hq
 clear hq
 go_wp2_with fail
 refine (pull_calls h1).mono ?_
 rintro e w2 ⟨rfl, h2, k2⟩
 generalize hr : pullF ram q.1 = r at *
 have HR := Aside0.mk hr
 clear hr
 have HJ := Aside0.mk (implJoin q.2 r.2)
 generalize hj : q.2 % 256 + 256 * (r.2 % 256) = j at *
 have HJ2 := Aside0.mk hj
 clear hj
 go_wp2_with fail
 refine (impl_Join.calls _ _ _ _ HJ.out).mono ?_
 rintro e w3 ⟨rfl, n, rfl⟩
 have h3 := h2.drewN n
 have hfc : w2.frozen? ⟨c, 3, none⟩ = false := blk_frozen h2.cpu 3
 have hcc := blkP h2.cpu
 go_wp2
 go_end0
 obtain rfl := HJ2.out
 obtain rfl := HR.out
 obtain rfl := HQ.out
 refine ⟨rfl, (h3.setC 3 _ rfl), ?_⟩
 exact kept_set ((k1.then_ k2 (fun j hj => .inl hj)).drewN n) (.inl rfl) _

end Go.Proofs.Ytmkccgbfgebfbaa.MFnEntered
