/- Walks of functions that the law FnFetched reaches: each comes to just what its Lean function says. (Begun as the texts that print.sh wrote for this claim; some of them, and those that it does not write, are mine.) No condition. -/
import Derived.Test.YtmkccgbfgebfbaaMFnFetchedx0
namespace Go.Proofs.Ytmkccgbfgebfbaa.MFnFetched
open Go.RowKit Go.Proofs.YtmkccgbfgebfbaaW.PrintWords Go.Proofs.YtmkccgbfgebfbaaW.PrintLast Go.Proofs.YtmkccgbfgebfbaaW.PrintMore
attribute [local go_sem] max2_int min2_int max_two min_two max_three min_three max_four min_four   -- for this text's walks alone
set_option linter.unusedVariables false
set_option linter.unusedSimpArgs false

/-! ### free_region (mine) -/
/-! A region whose operations may come in any order, where each of the first e puts a value into a temporary and changes nothing that stood before: told once for each operation, not for each order. -/
/-- What is asked of the region's table: what waits stands later; what comes behind the first e waits for all of them but g; g clashes with nothing that it does not wait for. -/
def freeChk (T : List (List Nat × List Nat)) (n e g : Nat) (le lg : Array Bool) (N : List Nat) (sz : Nat) : Bool :=
 (le.size == n) && (lg.size == n) && ((List.range n).all fun j => le.getD j true == decide (j < e)) && ((List.range n).all fun j => lg.getD j true == (decide (j < e) && !(j == g))) &&
 (le.toList.count false == n - e) && decide (e < n) && decide (g < e) &&
 ((List.range n).all fun i => (T.getD i ([], [])).1.all fun j => decide (j < i)) &&
 ((List.range n).all fun i => decide (i < e) || (List.range e).all fun j => j == g || reachT T j n i) &&
 ((List.range e).all fun i => decide (N.getD i 0 < sz)) && ((List.range e).all fun i => (List.range e).all fun j => i == j || !(N.getD i 0 == N.getD j 0))
theorem all_range {n : Nat} {p : Nat → Bool} (h : (List.range n).all p = true) (i : Nat) (hi : i < n) : p i = true := List.all_eq_true.1 h i (List.mem_range.2 hi)
theorem eval_put {a : Act} {N t : Nat} {v : Value} (h : N ≠ t) : (a.put (some N) v).eval (.tmp t) = a.eval (.tmp t) := by
 show (a.tmps.setIfInBounds N v).getD t undef = a.tmps.getD t undef
 simp only [Array.getD_eq_getD_getElem?, Array.getElem?_setIfInBounds]
 rw [if_neg h]
theorem eval_put_same {a : Act} {N : Nat} {v : Value} (h : N < a.tmps.size) : (a.put (some N) v).eval (.tmp N) = v := by
 show (a.tmps.setIfInBounds N v).getD N undef = v
 simp [Array.getD_eq_getD_getElem?, Array.getElem?_setIfInBounds, h]
theorem putAll_eval (L : List (Tmp × Value)) : ∀ (a0 a : Act), a.defers = a0.defers → a.tmps.size = a0.tmps.size → (∀ p ∈ L, p.1 < a0.tmps.size ∧ a.eval (.tmp p.1) = p.2) → (∀ t, (∀ p ∈ L, p.1 ≠ t) → a.eval (.tmp t) = a0.eval (.tmp t)) → a = putAll a0 L := by
 induction L with
 | nil =>
  intro a0 a hd hs _ h
  obtain ⟨t0, d0⟩ := a0
  obtain ⟨t, d⟩ := a
  simp only at hd hs
  subst hd
  show (⟨t, d⟩ : Act) = ⟨t0, d⟩
  congr 1
  refine Array.ext hs (fun i h1 h2 => ?_)
  have := h i (by simp)
  simpa [Act.eval, Array.getD_eq_getD_getElem?, h1, h2] using this
 | cons p L ih =>
  obtain ⟨N, v⟩ := p
  intro a0 a hd hs hp h
  show a = putAll (a0.put (some N) v) L
  have hz : (a0.put (some N) v).tmps.size = a0.tmps.size := Array.size_setIfInBounds
  refine ih _ _ hd (hs.trans hz.symm) (fun p hpL => by rw [hz]; exact hp p (List.mem_cons_of_mem _ hpL)) (fun t ht => ?_)
  by_cases hN : N = t
  ·subst hN
   have := hp (N, v) List.mem_cons_self
   rw [eval_put_same this.1]
   exact this.2
  ·rw [eval_put hN]
   exact h t (fun p hp' => by
    rcases List.mem_cons.1 hp' with rfl | hp'
    ·exact hN
    ·exact ht p hp')
section
variable {P : Program} {ops : Array Oper} {Q : Exit → Act → World → Prop}
theorem listed_set {l : Array Bool} {i j : Nat} (hi : i < l.size) : (l.setIfInBounds i true).getD j true = if i = j then true else l.getD j true := by
 simp only [Array.getD_eq_getD_getElem?, Array.getElem?_setIfInBounds]
 by_cases h : i = j
 ·subst h; simp [hi]
 ·simp [h]
theorem same_listed {l le : Array Bool} {n : Nat} (h1 : l.size = n) (h2 : le.size = n) (h : ∀ j, j < n → l.getD j true = le.getD j true) : l = le := by
 refine Array.ext (h1.trans h2.symm) (fun i hi hj => ?_)
 have := h i (h1 ▸ hi)
 simpa [Array.getD_eq_getD_getElem?, hi, hj] using this
theorem count_set {l : Array Bool} {i : Nat} (hi : i < l.size) (h : l.getD i true = false) : (l.setIfInBounds i true).toList.count false + 1 = l.toList.count false := by
 have h' : l[i] = false := by simpa [Array.getD_eq_getD_getElem?, hi] using h
 rw [Array.toList_setIfInBounds, List.count_set (by simpa using hi)]
 have hm : false ∈ l.toList := by rw [← h']; simp
 have := List.count_pos_iff.2 hm
 have hb : (l.toList[i]'(by simpa using hi) == false) = true := by simp [h']
 rw [if_pos hb, if_neg (by decide)]
 omega
/-- What is listed with all that it waits for: so is all that leads to what may come up. -/
theorem reach_up {T : List (List Nat × List Nat)} {l : Array Bool} {n j : Nat} (hb : ∀ d, d < n → ∀ k ∈ (T.getD d ([], [])).1, k < d) (hcl : ∀ d, d < n → l.getD d false = true → ∀ k ∈ (T.getD d ([], [])).1, l.getD k false = true) :
  ∀ (f d : Nat), d < n → (∀ k ∈ (T.getD d ([], [])).1, l.getD k false = true) → reachT T j f d = true → l.getD j false = true
 | 0, _, _, _, h => by simp [reachT] at h
 | f + 1, d, hd, hn, h => by
  unfold reachT at h
  cases hq : T[d]? with
  | none => rw [hq] at h; simp at h
  | some r =>
   rw [hq] at h
   have hr : (T.getD d ([], [])).1 = r.1 := by rw [List.getD_eq_getElem?_getD, hq]; rfl
   obtain ⟨k, hk, hkj⟩ := List.any_eq_true.1 h
   rw [← hr] at hk
   have hlk := hn k hk
   rcases Bool.or_eq_true _ _ ▸ hkj with h1 | h1
   ·rw [← beq_iff_eq.1 h1]
    exact hlk
   ·have hkd := hb d hd k hk
    exact reach_up hb hcl f k (by omega) (hcl k (by omega) hlk) h1
theorem getD_any {l : Array Bool} {j : Nat} (hj : j < l.size) (b : Bool) : l.getD j b = l.getD j true := by
 simp [Array.getD_eq_getD_getElem?, hj]
theorem free_ {id n e g : Nat} {a0 : Act} {w0 : World} {T : Bool × List (List Nat × List Nat)} (le lg : Array Bool) (N : List Nat) (E : Nat → Value → World → Prop)
  (hm : P.follows .mixedOrders = true) (hn : ops.size = n) (hT : rtab .any ops = T) (hc : freeChk T.2 n e g le lg N a0.tmps.size = true)
  (hd : ((List.range e).all fun i => ((ops[i]?).bind (·.dst)) == some (N.getD i 0)) = true) (hg : anyB .any ops lg le g = true)
  (hQ : ∀ c (a : Act) w v, Q (.panic c) (a.put (some (N.getD g 0)) v) w → Q (.panic c) a w)
  (hE : ∀ j v w w', E j v w → Below w.heap.size w w' → E j v w')
  (step : ∀ i, i < e → ∀ o, ops[i]? = some o → ∀ (a : Act) (w : World), Below w0.heap.size w0.drew w → (∀ t, (∀ i, i < e → N.getD i 0 ≠ t) → a.eval (.tmp t) = a0.eval (.tmp t)) →
   (∀ j ∈ (T.2.getD i ([], [])).1, E j (a.eval (.tmp (N.getD j 0))) w) → ∀ K, Shut (∀ v w', Below w.heap.size w w' → E i v w' → K (a.put (some (N.getD i 0)) v) w') →
   if Region.wanted o (yielded ops a.tmps) = true then Oper.wp P o a w K Q else K (a.put o.dst undef) w)
  (lag : ∀ o, ops[g]? = some o → ∀ (a : Act) (w : World), (∀ t, (∀ i, i < e → N.getD i 0 ≠ t) → a.eval (.tmp t) = a0.eval (.tmp t)) → (∀ j ∈ (T.2.getD g ([], [])).1, E j (a.eval (.tmp (N.getD j 0))) w) → ∃ v, E g v w ∧ Yields P ops o v a)
  (last : ∀ (f : Nat) (vs : Nat → Value) (w : World), Below w0.heap.size w0.drew w → (∀ j, j < e → E j (vs j) w) → wpAnyLast P .any ops Q (fun _ => True) [] (f + (n - e)) le (putAll a0 ((List.range e).map fun j => (N.getD j 0, vs j))) w) :
  (Code.region id ops true).wp P Q a0 w0 := by
 unfold freeChk at hc
 simp only [Bool.and_eq_true] at hc
 obtain ⟨⟨⟨⟨⟨⟨⟨⟨⟨⟨h1, h2⟩, h3⟩, h4⟩, h5⟩, h6⟩, h7⟩, h8⟩, h9⟩, h10⟩, h11⟩ := hc
 have z1 := beq_iff_eq.1 h1
 have z2 := beq_iff_eq.1 h2
 have z5 := beq_iff_eq.1 h5
 have z6 := of_decide_eq_true h6
 have z7 := of_decide_eq_true h7
 have z3 := fun j hj => beq_iff_eq.1 (all_range h3 j hj)
 have z4 := fun j hj => beq_iff_eq.1 (all_range h4 j hj)
 have z8 := fun i hi j hj => of_decide_eq_true (List.all_eq_true.1 (all_range h8 i hi) j hj)
 have z10 := fun i hi => of_decide_eq_true (all_range h10 i hi)
 have zd : ∀ i o, i < e → ops[i]? = some o → o.dst = some (N.getD i 0) := fun i o hi ho => by
  have := all_range hd i hi
  rw [ho] at this
  simpa using this
 have z11 : ∀ i j, i < e → j < e → i ≠ j → N.getD i 0 ≠ N.getD j 0 := fun i j hi hj hne => by
  have := all_range (all_range h11 i hi) j hj
  intro hh
  rw [hh] at this
  simp [hne] at this
 have hneed : ∀ i o, ops[i]? = some o → (T.2.getD i ([], [])).1 = needsOf .any o := fun i o ho => by
  subst hT
  rw [List.getD_eq_getElem?_getD, rtab_some ho]
  rfl
 have hlt : ∀ i o, ops[i]? = some o → i < n := fun i o ho => hn ▸ (Array.getElem?_eq_some_iff.1 ho).1
 have claim : ∀ (fuel : Nat) (l : Array Bool) (a : Act) (w : World), l.size = n → Below w0.heap.size w0.drew w → a.defers = a0.defers → a.tmps.size = a0.tmps.size →
   (∀ t, (∀ i, i < e → N.getD i 0 ≠ t) → a.eval (.tmp t) = a0.eval (.tmp t)) → (∀ i, e ≤ i → i < n → l.getD i true = false) → (∀ j, j < e → l.getD j true = true → E j (a.eval (.tmp (N.getD j 0))) w) →
   (∀ d, d < n → l.getD d false = true → ∀ k ∈ (T.2.getD d ([], [])).1, l.getD k false = true) → l.toList.count false ≤ fuel → wpAnyLast P .any ops Q (fun _ => True) [] fuel l a w := by
  intro fuel
  induction fuel with
  | zero =>
   intro l a w hl _ _ _ _ hlate _ _ hcount
   exfalso
   have hf := hlate e (Nat.le_refl _) z6
   have : false ∈ l.toList := by
    have he : e < l.size := by omega
    have : l[e] = false := by simpa [Array.getD_eq_getD_getElem?, he] using hf
    rw [← this]
    simp
   have := List.count_pos_iff.2 this
   omega
  | succ fuel ih =>
   intro l a w hl hB hdf hsz hout hlate hD hclo hcount
   by_cases hall : ∀ j, j < e → j ≠ g → l.getD j true = true
   ·by_cases hgl : l.getD g true = true
    ·have hle : l = le := same_listed hl z1 (fun j hj => by
      rw [z3 j hj]
      by_cases hje : j < e
      ·by_cases hjg : j = g
       ·subst hjg; simp [hgl, hje]
       ·simp [hall j hje hjg, hje]
      ·simp [hlate j (by omega) hj, hje])
     subst hle
     rw [z5] at hcount
     have hfu : fuel + 1 = (fuel + 1 - (n - e)) + (n - e) := by omega
     rw [hfu]
     have ha := putAll_eval ((List.range e).map fun j => (N.getD j 0, a.eval (.tmp (N.getD j 0)))) a0 a hdf hsz (fun p hp => by
      obtain ⟨j, hj, rfl⟩ := List.mem_map.1 hp
      exact ⟨z10 j (List.mem_range.1 hj), rfl⟩) (fun t ht => hout t (fun i hi hh => ht (N.getD i 0, a.eval (.tmp (N.getD i 0))) (List.mem_map.2 ⟨i, List.mem_range.2 hi, rfl⟩) hh))
     rw [ha]
     exact last _ _ w hB (fun j hj => hD j hj (by
      by_cases hjg : j = g
      ·subst hjg; exact hgl
      ·exact hall j hj hjg))
    ·have hgl' : l.getD g true = false := by simpa using hgl
     have hlg : l = lg := same_listed hl z2 (fun j hj => by
      rw [z4 j hj]
      by_cases hje : j < e
      ·by_cases hjg : j = g
       ·subst hjg; simp [hgl']
       ·simp [hall j hje hjg, hje, hjg]
      ·simp [hlate j (by omega) hj, hje])
     subst hlg
     have hset : l.setIfInBounds g true = le := same_listed (by simp [hl]) z1 (fun j hj => by
      rw [listed_set (by omega), z3 j hj]
      by_cases hjg : g = j
      ·subst hjg; simp [z7]
      ·rw [if_neg hjg, z4 j hj]
       have : (j == g) = false := by simpa using fun h => hjg h.symm
       simp [this])
     have hcs := count_set (l := l) (i := g) (by omega) hgl'
     rw [hset, z5] at hcs
     have hfu : fuel = (fuel - (n - e)) + (n - e) := by omega
     obtain ⟨og, hog⟩ : ∃ o, ops[g]? = some o := ⟨ops[g]'(by omega), Array.getElem?_eq_some_iff.2 ⟨by omega, rfl⟩⟩
     have hng := hneed g og hog
     have hready : ∀ j ∈ (T.2.getD g ([], [])).1, j < e ∧ j ≠ g := fun j hj => by
      have := z8 g (by omega) j hj
      exact ⟨by omega, by omega⟩
     obtain ⟨v, hv, hy⟩ := lag og hog a w hout (fun j hj => hD j (hready j hj).1 (hall j (hready j hj).1 (hready j hj).2))
     have hdst := zd g og z7 hog
     refine pure_ le hog hdst hg (fun c a w => by rw [hdst]; exact hQ c a w v) hy rfl ?_
     have hE' : ∀ j, j < e → E j ((a.put (some (N.getD g 0)) v).eval (.tmp (N.getD j 0))) w := fun j hj => by
      by_cases hjg : j = g
      ·subst hjg
       rw [eval_put_same (by rw [hsz]; exact z10 j hj)]
       exact hv
      ·rw [eval_put (z11 g j z7 hj (fun h => hjg h.symm))]
       exact hD j hj (hall j hj hjg)
     have ha := putAll_eval ((List.range e).map fun j => (N.getD j 0, (a.put (some (N.getD g 0)) v).eval (.tmp (N.getD j 0)))) a0 (a.put (some (N.getD g 0)) v) hdf (Array.size_setIfInBounds.trans hsz) (fun p hp => by
      obtain ⟨j, hj, rfl⟩ := List.mem_map.1 hp
      exact ⟨z10 j (List.mem_range.1 hj), rfl⟩) (fun t ht => by
       rw [eval_put (fun hh => ht (N.getD g 0, _) (List.mem_map.2 ⟨g, List.mem_range.2 z7, rfl⟩) hh)]
       exact hout t (fun i hi hh => ht (N.getD i 0, _) (List.mem_map.2 ⟨i, List.mem_range.2 hi, rfl⟩) hh))
     rw [ha, hfu]
     exact last _ _ w hB hE'
   ·have hneeds : ∀ i o, ops[i]? = some o → (∀ x ∈ o.after, Region.binds .any x = true → l.getD x.on false = true) → ∀ j ∈ (T.2.getD i ([], [])).1, l.getD j false = true := fun i o ho hx j hj => by
     rw [hneed i o ho] at hj
     unfold needsOf at hj
     obtain ⟨x, hx', rfl⟩ := List.mem_map.1 hj
     have hx' := List.mem_filter.1 hx'
     exact hx x (by simpa using hx'.1) hx'.2
    refine ⟨fun hr => ?_, fun i hi => ?_⟩
    ·exfalso
     have hev : ∀ i, i < e → l.getD i true = true := by
      intro i
      induction i using Nat.strongRecOn with
      | _ i ihi =>
       intro hie
       by_cases hh : l.getD i true = true
       ·exact hh
       ·exfalso
        obtain ⟨o, ho⟩ : ∃ o, ops[i]? = some o := ⟨ops[i]'(by omega), Array.getElem?_eq_some_iff.2 ⟨by omega, rfl⟩⟩
        have : i ∈ Region.ready .any ops l := mem_ready.2 ⟨by simpa using hh, o, ho, fun x hx hb => by
         have hxn : x.on ∈ (T.2.getD i ([], [])).1 := by
          rw [hneed i o ho]
          exact List.mem_map.2 ⟨x, List.mem_filter.2 ⟨by simpa using hx, hb⟩, rfl⟩
         have hlt' := z8 i (by omega) x.on hxn
         rw [getD_any (by omega)]
         exact ihi x.on hlt' (by omega)⟩
        rw [hr] at this
        cases this
     exact hall (fun j hj _ => hev j hj)
    ·obtain ⟨hun, o, ho, hx⟩ := mem_ready.1 hi
     have hin := hlt i o ho
     have hnd := hneeds i o ho hx
     have hie : i < e := by
      by_cases hie : i < e
      ·exact hie
      ·exfalso
       refine hall (fun j hj hjg => ?_)
       have := all_range h9 i hin
       simp only [hie, decide_false, Bool.false_or] at this
       have := all_range this j hj
       simp only [Bool.or_eq_true, beq_iff_eq, hjg, false_or] at this
       rw [← getD_any (by omega) false]
       exact reach_up z8 hclo n i hin hnd this
     refine wpOp_step ho (fun K hK => ?_)
     refine step i hie o ho a w hB hout (fun j hj => ?_) K (fun v w' hb hv => ?_)
     ·have := z8 i hin j hj
      exact hD j (by omega) (by rw [← getD_any (by omega) false]; exact hnd j hj)
     ·refine hK _ _ ⟨fun _ _ => trivial, ?_⟩
      refine ih _ _ _ (by simp [hl]) (below_step (w := w0.drew) hB hb) hdf (Array.size_setIfInBounds.trans hsz) (fun t ht => ?_) (fun j h1 h2 => ?_) (fun j hj hjl => ?_) (fun d hdn hdl k hk => ?_) ?_
      ·rw [eval_put (ht i hie)]
       exact hout t ht
      ·rw [listed_set (by omega), if_neg (by omega)]
       exact hlate j h1 h2
      ·by_cases hij : i = j
       ·subst hij
        rw [eval_put_same (by rw [hsz]; exact z10 i hie)]
        exact hv
       ·rw [eval_put (z11 i j hie hj hij)]
        rw [listed_set (by omega), if_neg hij] at hjl
        exact hE j _ _ _ (hD j hj hjl) hb
      ·have hkn : k < n := Nat.lt_trans (z8 d hdn k hk) hdn
       rw [getD_any (by simp; omega), listed_set (by omega)]
       rw [getD_any (by simp; omega), listed_set (by omega)] at hdl
       by_cases hik : i = k
       ·rw [if_pos hik]
       ·rw [if_neg hik, ← getD_any (by omega) false]
        by_cases hid : i = d
        ·subst hid
         exact hnd k hk
        ·rw [if_neg hid, ← getD_any (by omega) false] at hdl
         exact hclo d hdn hdl k hk
      ·have := count_set (l := l) (i := i) (by omega) hun
       omega
 refine wp_region_last (S := fun _ => True) (ds := []) hm ?_
 have hno : ∀ j, (Array.replicate ops.size false).getD j true = true → n ≤ j := fun j hj => by
  by_cases hjn : j < n
  ·rw [Array.getD_eq_getD_getElem?] at hj
   simp [hn, hjn] at hj
  ·omega
 refine claim _ _ _ _ (by simp [hn]) (Below.refl _ _) rfl rfl (fun _ _ => rfl) (fun i h1 h2 => ?_) (fun j hj hl => ?_) (fun d hdn hdl => ?_) ?_
 ·rw [Array.getD_eq_getD_getElem?]
  simp [hn, h2]
 ·have := hno j hl
  omega
 ·rw [getD_any (by simp [hn]; exact hdn)] at hdl
  have := hno d hdl
  omega
 ·refine Nat.le_trans List.count_le_length ?_
  simp
end

/-! ### alloc_words (mine) -/
theorem heap_drew (w : World) (k : Nat) : w.drew.heap[k]? = w.heap[k]? := rfl
theorem alloc_size (w : World) (o : Obj) : (w.alloc o).heap.size = w.heap.size + 1 := by
 show (w.heap.push o).size = _
 simp
theorem alloc_at (w : World) (o : Obj) (g : Nat) (h : g = w.heap.size) : (w.alloc o).heap[g]? = some o := by
 subst h
 exact blk_new w o

/-! ### short_cell (mine) -/
theorem cl {w : World} {g : Nat} {cs : Array Value} {t : TypeId} (h : Aside0 (w.heap[g]? = some (.cells cs t (0, 0)))) (i : Nat) {v : Value} (e : cs[i]? = some v := by rfl) : w.cell? ⟨g, i, none⟩ = some v := (blk_cell h.out i).trans e

/-! ### short_words (mine) -/
/-! Words that bear a proof's usual end in them, so that the texts need not spell it. -/
theorem kb {w w' : World} {g : Nat} {o : Obj} (h : w.heap[g]? = some o) (f : w.heap[g]? = some o → w'.heap[g]? = some o := by intro h_; (with_reducible repeat (first | refine blk_drewN ?_ _ | refine blk_drew ?_ | refine blk_alloc ?_ _)); exact h_) : w'.heap[g]? = some o := f h
theorem bw {n : Nat} {w W W' : World} (h : Below n w W) (f : Below n w W → Below n w W' := by intro h_; repeat (first | (with_reducible first | exact h_ | apply below_alloc | apply pw_below_drewN | apply below_drew1 | refine below_set ?_ (Aside0.out (by assumption))) | exact h_)) : Below n w W' := f h
theorem kp {w W W' : World} {g : Nat} {row : Option Nat} (h : KeepBut w W g row) (f : KeepBut w W g row → KeepBut w W' g row := by intro h_; repeat (first | (with_reducible first | exact h_ | apply KeepBut.set_ | apply keep_drewN | apply keep_drew | apply keep_alloc | refine keep_far ?_ (Aside0.out (by assumption)) _) | exact h_)) : KeepBut w W' g row := f h
theorem dt {p : Prop} [Decidable p] (h : decide p = true := by first | (with_reducible assumption) | assumption) : p := of_decide_eq_true h
theorem kr {α : Type} {d : Kd α} {e base : Nat} {ok : Nat → Prop} {w w' : World} {v : Value} {xs : List α} (h : Kd.R d e w base ok v xs) (f : Kd.R d e w base ok v xs → Kd.R d e w' base ok v xs := by intro h_; (with_reducible repeat (first | apply Kd.R_alloc | apply Kd.R_drewN | apply Kd.R_drew)); exact h_) : Kd.R d e w' base ok v xs := f h
theorem ks {α : Type} {d : Kd α} {e base : Nat} {ok : Nat → Prop} {w w' : World} {v : Value} {xs : List α} (h : Kd.S d e w base ok v xs) (f : Kd.S d e w base ok v xs → Kd.S d e w' base ok v xs := by intro h_; (with_reducible repeat (first | apply Kd.S_alloc | apply Kd.S_drewN | apply Kd.S_drew)); exact h_) : Kd.S d e w' base ok v xs := f h
theorem goesM_ {P : Program} {ops : Array Oper} {Q : Exit → Act → World → Prop} {rest : List Oper} {oi : Oper} {a : Act} {w : World} (N : Option Tmp) (hd : oi.dst = N) (hg : oi.guard = none) {f : FuncId} {fn : Func} {ar : Array Operand} {ts : Array TypeId} (hf : P.funcs[f]? = some fn) (args : Array Value)
  (h : Calls P f args w fun e w' => ∃ v, e = .returned v ∧ wpList P ops Q rest (a.put N v) w') (hname : (fn.name == "runtime.NumGoroutine") = false := by kernel_rfl) (hb : fn.body.isSome = true := by rfl) (hop : oi.op = .call { callee := .value (.func f), args := ar, argTypes := ts } := by rfl)
  (hargs : ar.map a.eval = args := by ((try simp only [List.map_toArray, List.map_cons, List.map_nil]); first | done | rfl | (simp only [List.length_drop, List.length_take]; rfl))) : wpList P ops Q (oi :: rest) a w :=
 goesL_ N hd hg hf hname hb args hop hargs h
theorem kf {w w' : World} {g : Nat} {o : Obj} (h : w.heap[g]? = some o) (f : w.heap[g]? = some o → w'.heap[g]? = some o := by intro h_; (with_reducible repeat (first | refine blk_drewN ?_ _ | refine blk_drew ?_ | refine blk_alloc ?_ _ | refine blk_far ?_ (Aside0.out (by assumption)) _)); exact h_) : w'.heap[g]? = some o := f h
theorem gs {w W : World} {g : Nat} (hg : g = W.heap.size) (h : Below w.heap.size w W) : w.heap.size ≤ g := by rw [hg]; exact below_size h
theorem ga {W w1 : World} {g g' : Nat} {o : Obj} (hg : g' = W.heap.size) (h : w1.heap[g]? = some o) (f : w1.heap[g]? = some o → W.heap[g]? = some o := by intro h_; (with_reducible repeat (first | refine blk_drewN ?_ _ | refine blk_drew ?_ | refine blk_alloc ?_ _)); exact h_) : g ≠ g' := by rw [hg]; exact Nat.ne_of_lt (blk_lt (f h))
theorem gc {W w1 : World} {g g' : Nat} {o : Obj} (hg : g' = W.heap.size) (h : w1.heap[g]? = some o) (f : w1.heap[g]? = some o → W.heap[g]? = some o := by intro h_; (with_reducible repeat (first | refine blk_drewN ?_ _ | refine blk_drew ?_ | refine blk_alloc ?_ _)); exact h_) : g' ≠ g := by rw [hg]; exact Nat.ne_of_gt (blk_lt (f h))
theorem bx {P : Program} {ops : Array Oper} {Q : Exit → Act → World → Prop} {rest : List Oper} {o : Oper} {a : Act} {W : World} {N : Tmp} {cs : Array Value} {t : TypeId}
  (h : ∀ g, g = W.heap.size → ∀ w1, w1.heap[g]? = some (.cells cs t (0, 0)) → Below W.heap.size W w1 → wpList P ops Q rest (a.put o.dst (.pointer (some ⟨g, 0, none⟩))) w1) (hgd : o.guard = none := by rfl) (hd : o.dst = some N := by rfl)
  (hrun : (execOp a.eval o).run P W = .ok (.value (.pointer (some ⟨W.heap.size, 0, none⟩))) (W.alloc (.cells cs t (0, 0))) := by first | (go_simp; done) | (go_simp; rfl)) : wpList P ops Q (o :: rest) a W := box_event hgd hd hrun h
theorem kq {α : Type} {d : Kd α} {e base : Nat} {ok : Nat → Prop} {w w' : World} {v : Value} {xs : List α} (h : Kd.Q d e w base ok v xs) (f : Kd.Q d e w base ok v xs → Kd.Q d e w' base ok v xs := by intro h_; (with_reducible repeat (first | apply Kd.Q_alloc | apply Kd.Q_drewN | apply Kd.Q_drew)); exact h_) : Kd.Q d e w' base ok v xs := f h
theorem kc {α : Type} {d : Kd α} {w w' : World} {xs : List α} {A : Option Addr} {n : Nat} (h : Kd.C d w A n xs) (f : Kd.C d w A n xs → Kd.C d w' A n xs := by intro h_; repeat (first | exact h_ | (with_reducible refine Kd.C_alloc ?_ _) | (with_reducible refine Kd.C_drewN ?_ _) | (with_reducible refine Kd.C_drew ?_))) : Kd.C d w' A n xs := f h
theorem rt {a b : Ending} (h : a = b := by first | rfl | (simp [errW_none, errW_some] <;> rfl) | (simp [*, errW_none, errW_some] <;> rfl)) : a = b := h
theorem kt {w w' : World} {g : Nat} {t : TypeId} {cs cs' : Array Value} (h : w.heap[g]? = some (.cells cs t (0, 0))) (f : w.heap[g]? = some (.cells cs t (0, 0)) → w'.heap[g]? = some (.cells cs' t (0, 0)) := by intro h_; (with_reducible repeat (first | refine blk_drewN ?_ _ | refine blk_drew ?_ | refine blk_alloc ?_ _)); refine blk_put (cs := ?_) ?_ _ _ ?_; rotate_left; (· (with_reducible repeat (first | refine blk_drewN ?_ _ | refine blk_drew ?_ | refine blk_alloc ?_ _)); exact h_); rfl) : w'.heap[g]? = some (.cells cs' t (0, 0)) := f h

/-! ### short_steps (mine) -/
/-! Words for the steps of a region whose order is drawn: each bears its usual proofs in it. -/
/-- The operations listed so far, as bits. -/
def bm (n m : Nat) : Array Bool := ((List.range n).map fun i => m.testBit i).toArray
section
variable {P : Program} {md : Region.Mode} {ops : Array Oper} {Q : Exit → Act → World → Prop} {S : World → Prop} {ds : List Nat} {T : Bool × List (List Nat × List Nat)} {B : List Nat} {i : Nat} {N : Option Tmp} {oi : Oper} {v : Value} {fuel : Nat} {l : Array Bool} {a a' : Act} {w : World}
variable (i) (N)
theorem pw_ (l' : Array Bool) (HT : Aside0 (rtab md ops = T)) (h : wpAnyLast P md ops Q S ds fuel l' a' w) (hi : ops[i]? = some oi := by rfl) (hN : oi.dst = N := by rfl) (hc : anyT T l.toList l'.toList i = true := by kernel_rfl) (hQ : ∀ c a w, Q (.panic c) (a.put oi.dst v) w → Q (.panic c) a w := by exact fun _ _ _ h => h)
  (hw : Region.wanted oi (yielded ops a.tmps) = true := by rfl) (hr : ∀ w', (execOp a.eval oi).run P w' = .ok (.value v) w' := by intro w'; go_simp; with_reducible rfl) (ha : a.put N v = a' := by simp only [Act.put, List.setIfInBounds_toArray, List.set_cons_zero, List.set_cons_succ, i64_w, i32_w]; rfl) : wpAnyLast P md ops Q S ds (fuel + 1) l a w :=
 pure_ l' hi hN (any_of HT.out hc) hQ (Or.inl ⟨hw, hr⟩) ha h
theorem uw_ (l' : Array Bool) (HT : Aside0 (rtab md ops = T)) (h : wpAnyLast P md ops Q S ds fuel l' a' w) (hi : ops[i]? = some oi := by rfl) (hN : oi.dst = N := by rfl) (hc : anyT T l.toList l'.toList i = true := by kernel_rfl) (hQ : ∀ c a w, Q (.panic c) (a.put oi.dst undef) w → Q (.panic c) a w := by exact fun _ _ _ h => h)
  (hw : Region.wanted oi (yielded ops a.tmps) = false := by rfl) (ha : a.put N undef = a' := by simp only [Act.put, List.setIfInBounds_toArray, List.set_cons_zero, List.set_cons_succ, i64_w, i32_w]; rfl) : wpAnyLast P md ops Q S ds (fuel + 1) l a w :=
 pure_ l' hi hN (any_of HT.out hc) hQ (Or.inr ⟨hw, rfl⟩) ha h
theorem tw_ (l' : Array Bool) (HT : Aside0 (rtab md ops = T)) (HW : Aside0 (waitsOk T.2 B = true)) (hS : S w) (h : wpAnyLast P md ops Q S ds fuel l' a' w) (hi : ops[i]? = some oi := by rfl) (hN : oi.dst = N := by rfl) (hc : takeW T B ds l.toList l'.toList i = true := by kernel_rfl) (hQ : ∀ c a w, Q (.panic c) (a.put oi.dst v) w → Q (.panic c) a w := by exact fun _ _ _ h => h)
  (hw : Region.wanted oi (yielded ops a.tmps) = true := by rfl) (hr : ∀ w', S w' → (execOp a.eval oi).run P w' = .ok (.value v) w' := by intro w' s_; (repeat' (obtain ⟨s_0, s_⟩ := s_)); go_simp; with_reducible rfl) (ha : a.put N v = a' := by simp only [Act.put, List.setIfInBounds_toArray, List.set_cons_zero, List.set_cons_succ, i64_w, i32_w]; rfl) : wpAnyLast P md ops Q S ds (fuel + 1) l a w :=
 take_ l' hi hN (take_ofW HT.out HW.out hc) hQ (Or.inl ⟨hw, hr⟩) hS ha h
theorem pv_ (l' : Array Bool) (h : wpAnyLast P md ops Q S ds fuel l' a' w) (hi : ops[i]? = some oi := by rfl) (hN : oi.dst = N := by rfl) (hc : anyB md ops l l' i = true := by kernel_rfl) (hQ : ∀ c a w, Q (.panic c) (a.put oi.dst v) w → Q (.panic c) a w := by exact fun _ _ _ h => h)
  (hw : Region.wanted oi (yielded ops a.tmps) = true := by rfl) (hr : ∀ w', (execOp a.eval oi).run P w' = .ok (.value v) w' := by intro w'; go_simp; with_reducible rfl) (ha : a.put N v = a' := by simp only [Act.put, List.setIfInBounds_toArray, List.set_cons_zero, List.set_cons_succ, i64_w, i32_w]; rfl) : wpAnyLast P md ops Q S ds (fuel + 1) l a w :=
 pure_ l' hi hN hc hQ (Or.inl ⟨hw, hr⟩) ha h
theorem tv_ (l' : Array Bool) (hS : S w) (h : wpAnyLast P md ops Q S ds fuel l' a' w) (hi : ops[i]? = some oi := by rfl) (hN : oi.dst = N := by rfl) (hc : takeB md ops ds l l' i = true := by kernel_rfl) (hQ : ∀ c a w, Q (.panic c) (a.put oi.dst v) w → Q (.panic c) a w := by exact fun _ _ _ h => h)
  (hw : Region.wanted oi (yielded ops a.tmps) = true := by rfl) (hr : ∀ w', S w' → (execOp a.eval oi).run P w' = .ok (.value v) w' := by intro w' s_; (repeat' (obtain ⟨s_0, s_⟩ := s_)); go_simp; with_reducible rfl) (ha : a.put N v = a' := by simp only [Act.put, List.setIfInBounds_toArray, List.set_cons_zero, List.set_cons_succ, i64_w, i32_w]; rfl) : wpAnyLast P md ops Q S ds (fuel + 1) l a w :=
 take_ l' hi hN hc hQ (Or.inl ⟨hw, hr⟩) hS ha h
theorem ow_ (l' : Array Bool) (HT : Aside0 (rtab md ops = T)) (h : ∀ K : Act → World → Prop, Shut (∀ a' w', S w' → (S w' → wpAnyLast P md ops Q S ds fuel l' a' w') → K a' w') → if Region.wanted oi (yielded ops a.tmps) = true then Oper.wp P oi a w K Q else K (a.put N undef) w)
  (hi : ops[i]? = some oi := by rfl) (hN : oi.dst = N := by rfl) (hc : (readyT T.2 l.toList == [i] && l.toList.set i true == l'.toList) = true := by kernel_rfl) (hd : i ∉ ds := by decide) : wpAnyLast P md ops Q S ds (fuel + 1) l a w :=
 one_ l' hi hN (one_of HT.out hc) hd h
theorem ov_ (l' : Array Bool) (h : ∀ K : Act → World → Prop, Shut (∀ a' w', S w' → (S w' → wpAnyLast P md ops Q S ds fuel l' a' w') → K a' w') → if Region.wanted oi (yielded ops a.tmps) = true then Oper.wp P oi a w K Q else K (a.put N undef) w)
  (hi : ops[i]? = some oi := by rfl) (hN : oi.dst = N := by rfl) (hc : readyB md ops l l' i = true := by kernel_rfl) (hd : i ∉ ds := by decide) : wpAnyLast P md ops Q S ds (fuel + 1) l a w :=
 one_ l' hi hN hc hd h
variable {i} {N}
theorem nw_ (h : wpAnyLast P md ops Q S ds fuel l a' w) (ha : a = a' := by show Act.put _ _ _ = _; simp only [Act.put, List.setIfInBounds_toArray, List.set_cons_zero, List.set_cons_succ, i64_w, i32_w]; rfl) : wpAnyLast P md ops Q S ds fuel l a w := norm_ ha h
theorem gw_ {K : Act → World → Prop} {f : FuncId} {fn : Func} {ar : Array Operand} {ts : Array TypeId} (hf : P.funcs[f]? = some fn) (args : Array Value)
  (h : Calls P f args w fun e w' => ∃ v, e = .returned v ∧ K (a.put N v) w') (hname : (fn.name == "runtime.NumGoroutine") = false := by kernel_rfl) (hb : fn.body.isSome = true := by rfl) (hw : Region.wanted oi (yielded ops a.tmps) = true := by rfl) (hN : oi.dst = N := by rfl) (hop : oi.op = .call { callee := .value (.func f), args := ar, argTypes := ts } := by rfl)
  (hargs : ar.map a.eval = args := by (try simp only [List.map_toArray, List.map_cons, List.map_nil]); first | done | rfl | (simp only [List.length_drop, List.length_take]; rfl)) : if Region.wanted oi (yielded ops a.tmps) = true then Oper.wp P oi a w K Q else K (a.put N undef) w :=
 goes_ hf hname hb args hw hN hop hargs h
end

theorem eqA51 (d : Nat) (w : World) (x0 y0 : Int) (x1 y1 : Int) :
  (Op.equalIn (d + 2) 51 (.agg #[.int .i64 x0, .int .i64 x1]) (.agg #[.int .i64 y0, .int .i64 y1])).run Try.prog w = .ok (x0 == y0 && (x1 == y1)) w := by
 refine eqA_of Try.underlying51 (by kernel_rfl) ?_
 refine eqf_cons (by rfl) (by go_simp; rfl) (by go_simp; rfl) (by go_simp) ?_
 exact eqf_last (by rfl) (by go_simp; rfl) (by go_simp; rfl) (by go_simp)

theorem eqA55 (d : Nat) (w : World) (x0 y0 : Int) (x1 y1 : Int) (x2 y2 : Int) (x3 y3 : Int) (x4 y4 : Bool) (x5 y5 : Bool) (x6 y6 : Bool) (x7 y7 : Bool) :
  (Op.equalIn (d + 2) 55 (.agg #[.int .i64 x0, .int .i64 x1, .int .i64 x2, .int .i64 x3, .bool x4, .bool x5, .bool x6, .bool x7]) (.agg #[.int .i64 y0, .int .i64 y1, .int .i64 y2, .int .i64 y3, .bool y4, .bool y5, .bool y6, .bool y7])).run Try.prog w = .ok (x0 == y0 && (x1 == y1 && (x2 == y2 && (x3 == y3 && (x4 == y4 && (x5 == y5 && (x6 == y6 && (x7 == y7)))))))) w := by
 refine eqA_of Try.underlying55 (by kernel_rfl) ?_
 refine eqf_cons (by rfl) (by go_simp; rfl) (by go_simp; rfl) (by go_simp) ?_
 refine eqf_cons (by rfl) (by go_simp; rfl) (by go_simp; rfl) (by go_simp) ?_
 refine eqf_cons (by rfl) (by go_simp; rfl) (by go_simp; rfl) (by go_simp) ?_
 refine eqf_cons (by rfl) (by go_simp; rfl) (by go_simp; rfl) (by go_simp) ?_
 refine eqf_cons (by rfl) (by go_simp; rfl) (by go_simp; rfl) (by go_simp) ?_
 refine eqf_cons (by rfl) (by go_simp; rfl) (by go_simp; rfl) (by go_simp) ?_
 refine eqf_cons (by rfl) (by go_simp; rfl) (by go_simp; rfl) (by go_simp) ?_
 exact eqf_last (by rfl) (by go_simp; rfl) (by go_simp; rfl) (by go_simp)

attribute [local go_sem high] eqA51 eqA55

/-! ### laws_big: function 9 -/
def laws_big.f (l0 : List Int) : Option (Bool) := some (decide ((l0.length : Int) > 1048576))
set_option maxHeartbeats 8000000 in
set_option maxRecDepth 100000 in
theorem laws_big.calls (A0 : Option Addr) (c0 : Nat) (l0 : List Int) (r : Bool) (w : World) (hr0 : Kd.C (Kd.int .u8) w A0 l0.length l0) (hc0 : l0.length ≤ c0) (h : laws_big.f l0 = some r) :
  Calls Try.prog 9 #[.slice A0 l0.length c0] w fun e w' => e = .returned (.bool r) ∧ Drawn0 w w' := by
 have HR0 := Aside0.mk hr0
 have HC0 := Aside0.mk hc0
 clear hr0 hc0
 have H : (some (decide ((l0.length : Int) > 1048576))) = some r := h
 clear h
 obtain rfl := Option.some.inj H
 go_enter Try.func9, Try.ntmps9
 go_wp2
 go_ret
 exact ⟨by first | rfl | (simp; done) | (simp [*]; done), by repeat (first | exact Drawn0.refl _ | apply Drawn0.step)⟩

/-! ### impl_within: function 67 -/
def impl_within.f (a0 : Int) (a1 : Int) (a2 : Int) : Option (Bool) := if a0 ≥ a1 then (some (decide (a0 ≤ a2))) else (some false)
set_option maxHeartbeats 8000000 in
set_option maxRecDepth 100000 in
theorem impl_within.calls (a0 : Int) (a1 : Int) (a2 : Int) (r : Bool) (w : World) (h : impl_within.f a0 a1 a2 = some r) :
  Calls Try.prog 67 #[.int .i64 a0, .int .i64 a1, .int .i64 a2] w fun e w' => e = .returned (.bool r) ∧ Drawn0 w w' := by
 have H : (if a0 ≥ a1 then (some (decide (a0 ≤ a2))) else (some false)) = some r := h
 clear h
 by_cases c4 : a0 ≥ a1
 ·rw [if_pos c4] at H
  have c4b0 : decide (a1 ≤ a0) = true := decide_eq_true c4
  clear c4
  obtain rfl := Option.some.inj H
  go_enter Try.func67, Try.ntmps67
  go_wp2
  go_ret
  exact ⟨by first | rfl | (simp; done) | (simp [*]; done), by repeat (first | exact Drawn0.refl _ | apply Drawn0.step)⟩
 ·rw [if_neg c4] at H
  have c4b0 : decide (a1 ≤ a0) = false := decide_eq_false c4
  clear c4
  obtain rfl := Option.some.inj H
  go_enter Try.func67, Try.ntmps67
  go_wp2
  go_ret
  exact ⟨by first | rfl | (simp; done) | (simp [*]; done), by repeat (first | exact Drawn0.refl _ | apply Drawn0.step)⟩

/-! ### impl_isByte: function 104 -/
def impl_isByte.f (a0 : Int) : Option (Bool) := (impl_within.f a0 0 255).bind fun t101 => (some t101)
set_option maxHeartbeats 8000000 in
set_option maxRecDepth 100000 in
theorem impl_isByte.calls (a0 : Int) (r : Bool) (w : World) (h : impl_isByte.f a0 = some r) :
  Calls Try.prog 104 #[.int .i64 a0] w fun e w' => e = .returned (.bool r) ∧ Drawn0 w w' := by
 have H : ((impl_within.f a0 0 255).bind fun t101 => (some t101)) = some r := h
 clear h
 replace H := Option.bind_eq_some_iff.mp H
 obtain ⟨t101, A20, H⟩ := H
 replace H : (some t101) = some r := H
 have A2 := Aside0.mk A20
 clear A20
 obtain rfl := Option.some.inj H
 go_enter Try.func104, Try.ntmps104
 go_wp2_with (first | ((with_reducible refine gate_callee (f := 67) rfl ?_); refine goesM_ (some 4) rfl rfl Try.func67 #[.int .i64 a0, .int .i64 0, .int .i64 255] ?_; (with_reducible refine (impl_within.calls a0 0 255 t101 _ A2.out).mono ?_); rintro e w' ⟨rfl, ⟨nd, rfl⟩⟩; refine ⟨_, rfl, ?_⟩))
 go_ret
 exact ⟨by first | rfl | (simp; done) | (simp [*]; done), by repeat (first | exact Drawn0.refl _ | apply Drawn0.step)⟩

/-! ### impl_bytesOk: function 66 -/
def impl_bytesOk.l0 : Nat → List Int → Int → Int → Option (Bool)
 | 0, _, _, _ => none
 | k + 1, x5, x6, x7 => if x7 < x6 then (if 0 ≤ x7 then (if x7 < (x5.length : Int) then ((impl_isByte.f (rd x5 x7)).bind fun t103 => (if t103 = true then (impl_bytesOk.l0 k x5 x6 (wrap64 (x7 + 1))) else (some false))) else (none)) else (none)) else (some true)
def impl_bytesOk.f (k : Nat) (l0 : List Int) : Option (Bool) := impl_bytesOk.l0 k l0 (l0.length : Int) 0
set_option maxHeartbeats 8000000 in
set_option maxRecDepth 100000 in
theorem impl_bytesOk.calls (k : Nat) (A0 : Option Addr) (c0 : Nat) (l0 : List Int) (r : Bool) (w : World) (hr0 : Kd.C (Kd.int .i64) w A0 l0.length l0) (hc0 : l0.length ≤ c0) (h : impl_bytesOk.f k l0 = some r) :
  Calls Try.prog 66 #[.slice A0 l0.length c0] w fun e w' => e = .returned (.bool r) ∧ Drawn0 w w' := by
 have HR0 := Aside0.mk hr0
 have HC0 := Aside0.mk hc0
 clear hr0 hc0
 have H : (impl_bytesOk.l0 k l0 (l0.length : Int) 0) = some r := h
 clear h
 have H' := Aside0.mk H
 clear H
 go_enter Try.func66, Try.ntmps66
 go_wp2
 go_loopg [7] k (fun kq v7 w' => ∃ (x7_1 : Int), v7 = .int .i64 x7_1 ∧ Aside0 (impl_bytesOk.l0 kq l0 (l0.length : Int) x7_1 = some r) ∧ Aside0 (kq ≤ k) ∧ Drawn0 w w')
 case atStart => exact ⟨(0), (by first | rfl | (simp; done) | (simp [*]; done)), H', ⟨Nat.le_refl _⟩, by repeat (first | exact Drawn0.refl _ | apply Drawn0.step)⟩
 case round =>
  clear H'
  obtain ⟨x7_1, rfl, HA, HK1, ⟨m1, rfl⟩⟩ := hrel
  cases gk with
  | zero => exact absurd HA.out (by simp [impl_bytesOk.l0])
  | succ k1 =>
   have H := HA.out
   clear HA
   simp only [impl_bytesOk.l0] at H
   by_cases c2 : x7_1 < (l0.length : Int)
   ·rw [if_pos c2] at H
    have c2b0 : decide (x7_1 < (l0.length : Int)) = true := decide_eq_true c2
    clear c2
    by_cases c3 : 0 ≤ x7_1
    ·rw [if_pos c3] at H
     have c3b0 : decide (0 ≤ x7_1) = true := decide_eq_true c3
     clear c3
     by_cases c4 : x7_1 < (l0.length : Int)
     ·rw [if_pos c4] at H
      have c4b0 : decide (x7_1 < (l0.length : Int)) = true := decide_eq_true c4
      clear c4
      replace H := Option.bind_eq_some_iff.mp H
      obtain ⟨t103, A50, H⟩ := H
      replace H : (if t103 = true then (impl_bytesOk.l0 k1 l0 (l0.length : Int) (wrap64 (x7_1 + 1))) else (some false)) = some r := H
      have A5 := Aside0.mk A50
      clear A50
      by_cases c6 : t103 = true
      ·subst c6
       have H1 : (impl_bytesOk.l0 k1 l0 (l0.length : Int) (wrap64 (x7_1 + 1))) = some r := by rw [if_pos rfl] at H; exact H
       clear H
       have H := H1
       clear H1
       have H' := Aside0.mk H
       clear H
       have p102 : 0 ≤ (x7_1 : Int) := dt
       have q102 : x7_1 < (l0.length : Int) := dt
       obtain ⟨ad102, e102, hx102_0⟩ := Kd.at_int HR0.out x7_1 p102 q102
       cases e102
       replace p102 := eq_true p102
       replace q102 := eq_true q102
       go_wp2_with (first | ((with_reducible refine gate_callee (f := 104) rfl ?_); refine goesM_ (some 12) rfl rfl Try.func104 #[.int .i64 (rd l0 x7_1)] ?_; (with_reducible refine (impl_isByte.calls (rd l0 x7_1) true _ A5.out).mono ?_); rintro e w' ⟨rfl, ⟨nd, rfl⟩⟩; refine ⟨_, rfl, ?_⟩))
       go_roundg k1
       case measure => have := HK1.out; omega
       case rel => exact ⟨(wrap64 (x7_1 + 1)), (by first | rfl | (simp; done) | (simp [*]; done)), H', ⟨by have := HK1.out; omega⟩, by repeat (first | exact Drawn0.refl _ | apply Drawn0.step)⟩
      ·replace c6 := Bool.eq_false_iff.mpr c6
       subst c6
       have H1 : (some false) = some r := by rw [if_neg (show ¬ (false = true) by decide)] at H; exact H
       clear H
       have H := H1
       clear H1
       obtain rfl := Option.some.inj H
       have p102 : 0 ≤ (x7_1 : Int) := dt
       have q102 : x7_1 < (l0.length : Int) := dt
       obtain ⟨ad102, e102, hx102_0⟩ := Kd.at_int HR0.out x7_1 p102 q102
       cases e102
       replace p102 := eq_true p102
       replace q102 := eq_true q102
       go_wp2_with (first | ((with_reducible refine gate_callee (f := 104) rfl ?_); refine goesM_ (some 12) rfl rfl Try.func104 #[.int .i64 (rd l0 x7_1)] ?_; (with_reducible refine (impl_isByte.calls (rd l0 x7_1) false _ A5.out).mono ?_); rintro e w' ⟨rfl, ⟨nd, rfl⟩⟩; refine ⟨_, rfl, ?_⟩))
       go_ret
       exact ⟨by first | rfl | (simp; done) | (simp [*]; done), by repeat (first | exact Drawn0.refl _ | apply Drawn0.step)⟩
     ·rw [if_neg c4] at H
      exact absurd H (by simp)
    ·rw [if_neg c3] at H
     exact absurd H (by simp)
   ·rw [if_neg c2] at H
    have c2b0 : decide (x7_1 < (l0.length : Int)) = false := decide_eq_false c2
    clear c2
    obtain rfl := Option.some.inj H
    go_wp2
    go_ret
    exact ⟨by first | rfl | (simp; done) | (simp [*]; done), by repeat (first | exact Drawn0.refl _ | apply Drawn0.step)⟩

/-! ### impl_ImageOk: function 19 -/
def impl_ImageOk.l0 : Nat → List (List Int) → Int → Int → List (List Int) → Option (Bool)
 | 0, _, _, _, _ => none
 | k + 1, x6, x7, x8, x105000 => if x8 < x7 then (if 0 ≤ x8 then (if x8 < (x6.length : Int) then (if ((rd_L2 x6 x8).length : Int) = 256 then ((impl_bytesOk.f k (rd_L2 x6 x8)).bind fun t106 => (if t106 = true then (impl_ImageOk.l0 k x6 x7 (wrap64 (x8 + 1)) x105000) else (some false))) else (some false)) else (none)) else (none)) else ((impl_within.f (x105000.length : Int) 1 8).bind fun t107 => (some t107))
def impl_ImageOk.f (k : Nat) (l0_0 : List (List Int)) : Option (Bool) := impl_ImageOk.l0 k l0_0 (l0_0.length : Int) 0 l0_0
set_option maxHeartbeats 8000000 in
set_option maxRecDepth 100000 in
theorem impl_ImageOk.calls (k : Nat) (A0_0 : Option Addr) (c0_0 : Nat) (l0_0 : List (List Int)) (r : Bool) (w : World) (hr0_0 : Kd.C (Kd.slice 3 (Kd.int .i64)) w A0_0 l0_0.length l0_0) (hc0_0 : l0_0.length ≤ c0_0) (h : impl_ImageOk.f k l0_0 = some r) :
  Calls Try.prog 19 #[.agg #[.slice A0_0 l0_0.length c0_0]] w fun e w' => e = .returned (.bool r) ∧ Below w.heap.size w w' := by
 have hu29 := Try.underlying29
 have HR0_0 := Aside0.mk hr0_0
 have HC0_0 := Aside0.mk hc0_0
 clear hr0_0 hc0_0
 have HB := Aside0.mk (Below.refl w.heap.size w)
 have H : (impl_ImageOk.l0 k l0_0 (l0_0.length : Int) 0 l0_0) = some r := h
 clear h
 have H' := Aside0.mk H
 clear H
 go_enter Try.func19, Try.ntmps19
 go_wp2_with (first | ((with_reducible refine gate_dst (N := 1) rfl ?_); refine bx (N := 1) (cs := #[.slice A0_0 l0_0.length c0_0]) (t := 29) ?_; intro gb104 hg w2 hbox hb; have n0_ := Aside0.mk (below_step (bw HB.out) hb); have n1_ := Aside0.mk (hbox); have n2_ := Aside0.mk ((gs hg (bw HB.out))); have n3_ := Aside0.mk ((gs hg (bw HB.out))); clear HB; have HB := n0_; have BK104 := n1_; have GW104 := n2_; have GE104 := n3_; clear n0_ n1_ n2_ n3_; clear hb hbox hg; have hcz3_0 : w2.cell? ⟨gb104, 0, none⟩ = some (.slice A0_0 l0_0.length c0_0) := cl BK104 0; have hfz3_0 := blk_frozen BK104.out 0))
 go_loopg [8] k (fun kq v8 w' => ∃ (x8_1 : Int), v8 = .int .i64 x8_1 ∧ Aside0 (impl_ImageOk.l0 kq l0_0 (l0_0.length : Int) x8_1 l0_0 = some r) ∧ Aside0 (kq ≤ k) ∧ Aside0 (w'.heap[gb104]? = some (.cells #[(.slice A0_0 l0_0.length c0_0)] 29 (0, 0))) ∧ Aside0 (Below w.heap.size w w'))
 case atStart => exact ⟨(0), (by first | rfl | (simp; done) | (simp [*]; done)), H', ⟨Nat.le_refl _⟩, ⟨kb BK104.out⟩, ⟨bw HB.out⟩⟩
 case round =>
  clear H'
  (try clear c1); (try clear p2); (try clear hcz3_0); (try clear hfz3_0)
  obtain ⟨x8_1, rfl, HA, HK1, BK104, HB⟩ := hrel
  cases gk with
  | zero => exact absurd HA.out (by simp [impl_ImageOk.l0])
  | succ k1 =>
   have H := HA.out
   clear HA
   simp only [impl_ImageOk.l0] at H
   by_cases c4 : x8_1 < (l0_0.length : Int)
   ·rw [if_pos c4] at H
    have c4b0 : decide (x8_1 < (l0_0.length : Int)) = true := decide_eq_true c4
    clear c4
    by_cases c5 : 0 ≤ x8_1
    ·rw [if_pos c5] at H
     have c5b0 : decide (0 ≤ x8_1) = true := decide_eq_true c5
     clear c5
     by_cases c6 : x8_1 < (l0_0.length : Int)
     ·rw [if_pos c6] at H
      have c6b0 : decide (x8_1 < (l0_0.length : Int)) = true := decide_eq_true c6
      clear c6
      by_cases c7 : ((rd_L2 l0_0 x8_1).length : Int) = 256
      ·rw [if_pos c7] at H
       have c7b0 : (((rd_L2 l0_0 x8_1).length : Int) == 256) = true := beq_iff_eq.mpr c7
       have c7b1 : (((rd_L2 l0_0 x8_1).length : Int) != 256) = false := bne_eq_false_iff_eq.mpr c7
       clear c7
       replace H := Option.bind_eq_some_iff.mp H
       obtain ⟨t106, A80, H⟩ := H
       replace H : (if t106 = true then (impl_ImageOk.l0 k1 l0_0 (l0_0.length : Int) (wrap64 (x8_1 + 1)) l0_0) else (some false)) = some r := H
       have A8 := Aside0.mk A80
       clear A80
       by_cases c9 : t106 = true
       ·subst c9
        have H1 : (impl_ImageOk.l0 k1 l0_0 (l0_0.length : Int) (wrap64 (x8_1 + 1)) l0_0) = some r := by rw [if_pos rfl] at H; exact H
        clear H
        have H := H1
        clear H1
        have H' := Aside0.mk H
        clear H
        have p105 : 0 ≤ (x8_1 : Int) := dt
        have q105 : x8_1 < (l0_0.length : Int) := dt
        obtain ⟨ad105, A105_0, c105_0, e105, hx105_0, hl105_0, hi105_0⟩ := at_L2 HR0_0.out x8_1 p105 q105
        cases e105
        replace hx105_0 := (HB.out.cell (World.block_lt_of_cell? w _ hx105_0)).trans hx105_0
        have HR105_0 := Aside0.mk hi105_0
        have HC105_0 := Aside0.mk hl105_0
        clear hi105_0 hl105_0
        replace p105 := eq_true p105
        replace q105 := eq_true q105
        go_wp2_with (first | (go_at_call 66; (with_reducible refine (impl_bytesOk.calls k1 _ _ (rd_L2 l0_0 x8_1) true _ ?side1 ?side2 A8.out).mono ?_); (case side1 => exact kc (Kd.C_below HR105_0.out HB.out)); (case side2 => exact HC105_0.out); rintro e w' ⟨rfl, ⟨nd, rfl⟩⟩))
        go_roundg k1
        case measure => have := HK1.out; omega
        case rel => exact ⟨(wrap64 (x8_1 + 1)), (by first | rfl | (simp; done) | (simp [*]; done)), H', ⟨by have := HK1.out; omega⟩, ⟨kb BK104.out⟩, ⟨bw HB.out⟩⟩
       ·replace c9 := Bool.eq_false_iff.mpr c9
        subst c9
        have H1 : (some false) = some r := by rw [if_neg (show ¬ (false = true) by decide)] at H; exact H
        clear H
        have H := H1
        clear H1
        obtain rfl := Option.some.inj H
        have p105 : 0 ≤ (x8_1 : Int) := dt
        have q105 : x8_1 < (l0_0.length : Int) := dt
        obtain ⟨ad105, A105_0, c105_0, e105, hx105_0, hl105_0, hi105_0⟩ := at_L2 HR0_0.out x8_1 p105 q105
        cases e105
        replace hx105_0 := (HB.out.cell (World.block_lt_of_cell? w _ hx105_0)).trans hx105_0
        have HR105_0 := Aside0.mk hi105_0
        have HC105_0 := Aside0.mk hl105_0
        clear hi105_0 hl105_0
        replace p105 := eq_true p105
        replace q105 := eq_true q105
        go_wp2_with (first | (go_at_call 66; (with_reducible refine (impl_bytesOk.calls k1 _ _ (rd_L2 l0_0 x8_1) false _ ?side1 ?side2 A8.out).mono ?_); (case side1 => exact kc (Kd.C_below HR105_0.out HB.out)); (case side2 => exact HC105_0.out); rintro e w' ⟨rfl, ⟨nd, rfl⟩⟩))
        go_ret
        exact ⟨rt, bw HB.out⟩
      ·rw [if_neg c7] at H
       have c7b0 : (((rd_L2 l0_0 x8_1).length : Int) == 256) = false := beq_eq_false_iff_ne.mpr c7
       have c7b1 : (((rd_L2 l0_0 x8_1).length : Int) != 256) = true := bne_iff_ne.mpr c7
       obtain rfl := Option.some.inj H
       have p105 : 0 ≤ (x8_1 : Int) := dt
       have q105 : x8_1 < (l0_0.length : Int) := dt
       obtain ⟨ad105, A105_0, c105_0, e105, hx105_0, hl105_0, hi105_0⟩ := at_L2 HR0_0.out x8_1 p105 q105
       cases e105
       replace hx105_0 := (HB.out.cell (World.block_lt_of_cell? w _ hx105_0)).trans hx105_0
       have HR105_0 := Aside0.mk hi105_0
       have HC105_0 := Aside0.mk hl105_0
       clear hi105_0 hl105_0
       replace p105 := eq_true p105
       replace q105 := eq_true q105
       go_wp2
       go_ret
       exact ⟨rt, bw HB.out⟩
     ·rw [if_neg c6] at H
      exact absurd H (by simp)
    ·rw [if_neg c5] at H
     exact absurd H (by simp)
   ·rw [if_neg c4] at H
    have c4b0 : decide (x8_1 < (l0_0.length : Int)) = false := decide_eq_false c4
    clear c4
    replace H := Option.bind_eq_some_iff.mp H
    obtain ⟨t107, A100, H⟩ := H
    replace H : (some t107) = some r := H
    have A10 := Aside0.mk A100
    clear A100
    obtain rfl := Option.some.inj H
    have hcz11_0 : wr.cell? ⟨gb104, 0, none⟩ = some (.slice A0_0 l0_0.length c0_0) := cl BK104 0
    have hfz11_0 := blk_frozen BK104.out 0
    go_wp2_with (first | ((with_reducible refine gate_callee (f := 67) rfl ?_); refine goesM_ (some 24) rfl rfl Try.func67 #[.int .i64 (l0_0.length : Int), .int .i64 1, .int .i64 8] ?_; (with_reducible refine (impl_within.calls (l0_0.length : Int) 1 8 t107 _ A10.out).mono ?_); rintro e w' ⟨rfl, ⟨nd, rfl⟩⟩; refine ⟨_, rfl, ?_⟩))
    go_ret
    exact ⟨rt, bw HB.out⟩

/-! ### impl_MemOk: function 32 -/
def impl_MemOk.f (k : Nat) (l0_0 : List (List Int)) (l1_0 : List Int) (a1_1 : Int) : Option (Bool) := (impl_ImageOk.f k l0_0).bind fun t110 => (if t110 = true then (if (l1_0.length : Int) = 512 then ((impl_bytesOk.f k l1_0).bind fun t111 => (if t111 = true then ((impl_within.f a1_1 0 (wrap64 ((l0_0.length : Int) - 1))).bind fun t112 => (some t112)) else (some false))) else (some false)) else (some false))
set_option maxHeartbeats 8000000 in
set_option maxRecDepth 100000 in
theorem impl_MemOk.calls (k : Nat) (A0_0 : Option Addr) (c0_0 : Nat) (l0_0 : List (List Int)) (A1_0 : Option Addr) (c1_0 : Nat) (l1_0 : List Int) (a1_1 : Int) (r : Bool) (w : World) (hr0_0 : Kd.C (Kd.slice 3 (Kd.int .i64)) w A0_0 l0_0.length l0_0) (hc0_0 : l0_0.length ≤ c0_0) (hr1_0 : Kd.C (Kd.int .i64) w A1_0 l1_0.length l1_0) (hc1_0 : l1_0.length ≤ c1_0) (h : impl_MemOk.f k l0_0 l1_0 a1_1 = some r) :
  Calls Try.prog 32 #[.agg #[.slice A0_0 l0_0.length c0_0], .agg #[.slice A1_0 l1_0.length c1_0, .int .i64 a1_1]] w fun e w' => e = .returned (.bool r) ∧ Below w.heap.size w w' := by
 have hu29 := Try.underlying29
 have hu32 := Try.underlying32
 have HR0_0 := Aside0.mk hr0_0
 have HC0_0 := Aside0.mk hc0_0
 clear hr0_0 hc0_0
 have HR1_0 := Aside0.mk hr1_0
 have HC1_0 := Aside0.mk hc1_0
 clear hr1_0 hc1_0
 have HB := Aside0.mk (Below.refl w.heap.size w)
 have H : ((impl_ImageOk.f k l0_0).bind fun t110 => (if t110 = true then (if (l1_0.length : Int) = 512 then ((impl_bytesOk.f k l1_0).bind fun t111 => (if t111 = true then ((impl_within.f a1_1 0 (wrap64 ((l0_0.length : Int) - 1))).bind fun t112 => (some t112)) else (some false))) else (some false)) else (some false))) = some r := h
 clear h
 replace H := Option.bind_eq_some_iff.mp H
 obtain ⟨t110, A30, H⟩ := H
 replace H : (if t110 = true then (if (l1_0.length : Int) = 512 then ((impl_bytesOk.f k l1_0).bind fun t111 => (if t111 = true then ((impl_within.f a1_1 0 (wrap64 ((l0_0.length : Int) - 1))).bind fun t112 => (some t112)) else (some false))) else (some false)) else (some false)) = some r := H
 have A3 := Aside0.mk A30
 clear A30
 by_cases c4 : t110 = true
 ·subst c4
  have H1 : (if (l1_0.length : Int) = 512 then ((impl_bytesOk.f k l1_0).bind fun t111 => (if t111 = true then ((impl_within.f a1_1 0 (wrap64 ((l0_0.length : Int) - 1))).bind fun t112 => (some t112)) else (some false))) else (some false)) = some r := by rw [if_pos rfl] at H; exact H
  clear H
  have H := H1
  clear H1
  by_cases c5 : (l1_0.length : Int) = 512
  ·rw [if_pos c5] at H
   have c5b0 : ((l1_0.length : Int) == 512) = true := beq_iff_eq.mpr c5
   have c5b1 : ((l1_0.length : Int) != 512) = false := bne_eq_false_iff_eq.mpr c5
   clear c5
   replace H := Option.bind_eq_some_iff.mp H
   obtain ⟨t111, A60, H⟩ := H
   replace H : (if t111 = true then ((impl_within.f a1_1 0 (wrap64 ((l0_0.length : Int) - 1))).bind fun t112 => (some t112)) else (some false)) = some r := H
   have A6 := Aside0.mk A60
   clear A60
   by_cases c7 : t111 = true
   ·subst c7
    have H1 : ((impl_within.f a1_1 0 (wrap64 ((l0_0.length : Int) - 1))).bind fun t112 => (some t112)) = some r := by rw [if_pos rfl] at H; exact H
    clear H
    have H := H1
    clear H1
    replace H := Option.bind_eq_some_iff.mp H
    obtain ⟨t112, A80, H⟩ := H
    replace H : (some t112) = some r := H
    have A8 := Aside0.mk A80
    clear A80
    obtain rfl := Option.some.inj H
    go_enter Try.func32, Try.ntmps32
    go_wp2_with (first | ((with_reducible refine gate_dst (N := 2) rfl ?_); (try (refine gate_guard (by rfl) ?_; dsimp only)); refine bx (N := 2) (cs := #[.slice A0_0 l0_0.length c0_0]) (t := 29) ?_; intro gb108 hg w9 hbox hb; have n0_ := Aside0.mk (below_step (bw HB.out) hb); have n1_ := Aside0.mk (hbox); have n2_ := Aside0.mk ((gs hg (bw HB.out))); have n3_ := Aside0.mk ((gs hg (bw HB.out))); clear HB; have HB := n0_; have BK108 := n1_; have GW108 := n2_; have GE108 := n3_; clear n0_ n1_ n2_ n3_; clear hb hbox hg) | ((with_reducible refine gate_dst (N := 3) rfl ?_); (try (refine gate_guard (by rfl) ?_; dsimp only)); refine bx (N := 3) (cs := #[.slice A1_0 l1_0.length c1_0, .int .i64 a1_1]) (t := 32) ?_; intro gb109 hg w10 hbox hb; have n0_ := Aside0.mk (blk_below (g := gb108) (o := .cells #[.slice A0_0 l0_0.length c0_0] 29 (0, 0)) (kb BK108.out) hb); have n1_ := Aside0.mk (below_step (bw HB.out) hb); have n2_ := Aside0.mk (hbox); have n3_ := Aside0.mk ((gs hg (bw HB.out))); have n4_ := Aside0.mk ((gs hg (bw HB.out))); have n5_ := Aside0.mk ((ga hg BK108.out)); have n6_ := Aside0.mk ((gc hg BK108.out)); clear BK108; clear HB; have BK108 := n0_; have HB := n1_; have BK109 := n2_; have GW109 := n3_; have GE109 := n4_; have NB108_109 := n5_; have NB109_108 := n6_; clear n0_ n1_ n2_ n3_ n4_ n5_ n6_; clear hb hbox hg; have hnb11 := NB108_109.out; have hnc11 := NB109_108.out; have hcz12_0 : w10.cell? ⟨gb108, 0, none⟩ = some (.slice A0_0 l0_0.length c0_0) := cl BK108 0; have hfz12_0 := blk_frozen BK108.out 0) | ((with_reducible refine gate_callee (f := 19) rfl ?_); refine goesM_ (some 6) rfl rfl Try.func19 #[.agg #[.slice A0_0 l0_0.length c0_0]] ?_; (with_reducible refine (impl_ImageOk.calls k _ _ l0_0 true _ ?side1 ?side2 A3.out).mono ?_); (case side1 => exact kc (Kd.C_below HR0_0.out HB.out)); (case side2 => exact HC0_0.out); rintro e w13 ⟨rfl, hb⟩; refine ⟨_, rfl, ?_⟩; have n0_ := Aside0.mk (blk_below (g := gb108) (o := .cells #[.slice A0_0 l0_0.length c0_0] 29 (0, 0)) (kb BK108.out) hb); have n1_ := Aside0.mk (blk_below (g := gb109) (o := .cells #[.slice A1_0 l1_0.length c1_0, .int .i64 a1_1] 32 (0, 0)) (kb BK109.out) hb); have n2_ := Aside0.mk (below_step (bw HB.out) hb); clear BK108; clear BK109; clear HB; have BK108 := n0_; have BK109 := n1_; have HB := n2_; clear n0_ n1_ n2_; (try clear hb); (try clear hb2); (try clear hk); (try clear hi); have hcz14_0 : w13.cell? ⟨gb109, 0, none⟩ = some (.slice A1_0 l1_0.length c1_0) := cl BK109 0; have hcz14_1 : w13.cell? ⟨gb109, 1, none⟩ = some (.int .i64 a1_1) := cl BK109 1; have hfz14_0 := blk_frozen BK109.out 0; have hfz14_1 := blk_frozen BK109.out 1) | (go_at_call 66; (with_reducible refine (impl_bytesOk.calls k _ _ l1_0 true _ ?side1 ?side2 A6.out).mono ?_); (case side1 => exact kc (Kd.C_below HR1_0.out HB.out)); (case side2 => exact HC1_0.out); rintro e w' ⟨rfl, ⟨nd, rfl⟩⟩; have hcz15_0 : w13.cell? ⟨gb108, 0, none⟩ = some (.slice A0_0 l0_0.length c0_0) := cl BK108 0; have hfz15_0 := blk_frozen BK108.out 0) | (go_at_call 67; (with_reducible refine (impl_within.calls a1_1 0 (wrap64 ((l0_0.length : Int) - 1)) t112 _ A8.out).mono ?_); rintro e w' ⟨rfl, ⟨nd, rfl⟩⟩))
    go_ret
    exact ⟨rt, bw HB.out⟩
   ·replace c7 := Bool.eq_false_iff.mpr c7
    subst c7
    have H1 : (some false) = some r := by rw [if_neg (show ¬ (false = true) by decide)] at H; exact H
    clear H
    have H := H1
    clear H1
    obtain rfl := Option.some.inj H
    go_enter Try.func32, Try.ntmps32
    go_wp2_with (first | ((with_reducible refine gate_dst (N := 2) rfl ?_); (try (refine gate_guard (by rfl) ?_; dsimp only)); refine bx (N := 2) (cs := #[.slice A0_0 l0_0.length c0_0]) (t := 29) ?_; intro gb108 hg w16 hbox hb; have n0_ := Aside0.mk (below_step (bw HB.out) hb); have n1_ := Aside0.mk (hbox); have n2_ := Aside0.mk ((gs hg (bw HB.out))); have n3_ := Aside0.mk ((gs hg (bw HB.out))); clear HB; have HB := n0_; have BK108 := n1_; have GW108 := n2_; have GE108 := n3_; clear n0_ n1_ n2_ n3_; clear hb hbox hg) | ((with_reducible refine gate_dst (N := 3) rfl ?_); (try (refine gate_guard (by rfl) ?_; dsimp only)); refine bx (N := 3) (cs := #[.slice A1_0 l1_0.length c1_0, .int .i64 a1_1]) (t := 32) ?_; intro gb109 hg w17 hbox hb; have n0_ := Aside0.mk (blk_below (g := gb108) (o := .cells #[.slice A0_0 l0_0.length c0_0] 29 (0, 0)) (kb BK108.out) hb); have n1_ := Aside0.mk (below_step (bw HB.out) hb); have n2_ := Aside0.mk (hbox); have n3_ := Aside0.mk ((gs hg (bw HB.out))); have n4_ := Aside0.mk ((gs hg (bw HB.out))); have n5_ := Aside0.mk ((ga hg BK108.out)); have n6_ := Aside0.mk ((gc hg BK108.out)); clear BK108; clear HB; have BK108 := n0_; have HB := n1_; have BK109 := n2_; have GW109 := n3_; have GE109 := n4_; have NB108_109 := n5_; have NB109_108 := n6_; clear n0_ n1_ n2_ n3_ n4_ n5_ n6_; clear hb hbox hg; have hnb18 := NB108_109.out; have hnc18 := NB109_108.out; have hcz19_0 : w17.cell? ⟨gb108, 0, none⟩ = some (.slice A0_0 l0_0.length c0_0) := cl BK108 0; have hfz19_0 := blk_frozen BK108.out 0) | ((with_reducible refine gate_callee (f := 19) rfl ?_); refine goesM_ (some 6) rfl rfl Try.func19 #[.agg #[.slice A0_0 l0_0.length c0_0]] ?_; (with_reducible refine (impl_ImageOk.calls k _ _ l0_0 true _ ?side1 ?side2 A3.out).mono ?_); (case side1 => exact kc (Kd.C_below HR0_0.out HB.out)); (case side2 => exact HC0_0.out); rintro e w20 ⟨rfl, hb⟩; refine ⟨_, rfl, ?_⟩; have n0_ := Aside0.mk (blk_below (g := gb108) (o := .cells #[.slice A0_0 l0_0.length c0_0] 29 (0, 0)) (kb BK108.out) hb); have n1_ := Aside0.mk (blk_below (g := gb109) (o := .cells #[.slice A1_0 l1_0.length c1_0, .int .i64 a1_1] 32 (0, 0)) (kb BK109.out) hb); have n2_ := Aside0.mk (below_step (bw HB.out) hb); clear BK108; clear BK109; clear HB; have BK108 := n0_; have BK109 := n1_; have HB := n2_; clear n0_ n1_ n2_; (try clear hb); (try clear hb2); (try clear hk); (try clear hi); have hcz21_0 : w20.cell? ⟨gb109, 0, none⟩ = some (.slice A1_0 l1_0.length c1_0) := cl BK109 0; have hcz21_1 : w20.cell? ⟨gb109, 1, none⟩ = some (.int .i64 a1_1) := cl BK109 1; have hfz21_0 := blk_frozen BK109.out 0; have hfz21_1 := blk_frozen BK109.out 1) | (go_at_call 66; (with_reducible refine (impl_bytesOk.calls k _ _ l1_0 false _ ?side1 ?side2 A6.out).mono ?_); (case side1 => exact kc (Kd.C_below HR1_0.out HB.out)); (case side2 => exact HC1_0.out); rintro e w' ⟨rfl, ⟨nd, rfl⟩⟩))
    go_ret
    exact ⟨rt, bw HB.out⟩
  ·rw [if_neg c5] at H
   have c5b0 : ((l1_0.length : Int) == 512) = false := beq_eq_false_iff_ne.mpr c5
   have c5b1 : ((l1_0.length : Int) != 512) = true := bne_iff_ne.mpr c5
   obtain rfl := Option.some.inj H
   go_enter Try.func32, Try.ntmps32
   go_wp2_with (first | ((with_reducible refine gate_dst (N := 2) rfl ?_); (try (refine gate_guard (by rfl) ?_; dsimp only)); refine bx (N := 2) (cs := #[.slice A0_0 l0_0.length c0_0]) (t := 29) ?_; intro gb108 hg w22 hbox hb; have n0_ := Aside0.mk (below_step (bw HB.out) hb); have n1_ := Aside0.mk (hbox); have n2_ := Aside0.mk ((gs hg (bw HB.out))); have n3_ := Aside0.mk ((gs hg (bw HB.out))); clear HB; have HB := n0_; have BK108 := n1_; have GW108 := n2_; have GE108 := n3_; clear n0_ n1_ n2_ n3_; clear hb hbox hg) | ((with_reducible refine gate_dst (N := 3) rfl ?_); (try (refine gate_guard (by rfl) ?_; dsimp only)); refine bx (N := 3) (cs := #[.slice A1_0 l1_0.length c1_0, .int .i64 a1_1]) (t := 32) ?_; intro gb109 hg w23 hbox hb; have n0_ := Aside0.mk (blk_below (g := gb108) (o := .cells #[.slice A0_0 l0_0.length c0_0] 29 (0, 0)) (kb BK108.out) hb); have n1_ := Aside0.mk (below_step (bw HB.out) hb); have n2_ := Aside0.mk (hbox); have n3_ := Aside0.mk ((gs hg (bw HB.out))); have n4_ := Aside0.mk ((gs hg (bw HB.out))); have n5_ := Aside0.mk ((ga hg BK108.out)); have n6_ := Aside0.mk ((gc hg BK108.out)); clear BK108; clear HB; have BK108 := n0_; have HB := n1_; have BK109 := n2_; have GW109 := n3_; have GE109 := n4_; have NB108_109 := n5_; have NB109_108 := n6_; clear n0_ n1_ n2_ n3_ n4_ n5_ n6_; clear hb hbox hg; have hnb24 := NB108_109.out; have hnc24 := NB109_108.out; have hcz25_0 : w23.cell? ⟨gb108, 0, none⟩ = some (.slice A0_0 l0_0.length c0_0) := cl BK108 0; have hfz25_0 := blk_frozen BK108.out 0) | ((with_reducible refine gate_callee (f := 19) rfl ?_); refine goesM_ (some 6) rfl rfl Try.func19 #[.agg #[.slice A0_0 l0_0.length c0_0]] ?_; (with_reducible refine (impl_ImageOk.calls k _ _ l0_0 true _ ?side1 ?side2 A3.out).mono ?_); (case side1 => exact kc (Kd.C_below HR0_0.out HB.out)); (case side2 => exact HC0_0.out); rintro e w26 ⟨rfl, hb⟩; refine ⟨_, rfl, ?_⟩; have n0_ := Aside0.mk (blk_below (g := gb108) (o := .cells #[.slice A0_0 l0_0.length c0_0] 29 (0, 0)) (kb BK108.out) hb); have n1_ := Aside0.mk (blk_below (g := gb109) (o := .cells #[.slice A1_0 l1_0.length c1_0, .int .i64 a1_1] 32 (0, 0)) (kb BK109.out) hb); have n2_ := Aside0.mk (below_step (bw HB.out) hb); clear BK108; clear BK109; clear HB; have BK108 := n0_; have BK109 := n1_; have HB := n2_; clear n0_ n1_ n2_; (try clear hb); (try clear hb2); (try clear hk); (try clear hi); have hcz27_0 : w26.cell? ⟨gb109, 0, none⟩ = some (.slice A1_0 l1_0.length c1_0) := cl BK109 0; have hcz27_1 : w26.cell? ⟨gb109, 1, none⟩ = some (.int .i64 a1_1) := cl BK109 1; have hfz27_0 := blk_frozen BK109.out 0; have hfz27_1 := blk_frozen BK109.out 1))
   go_ret
   exact ⟨rt, bw HB.out⟩
 ·replace c4 := Bool.eq_false_iff.mpr c4
  subst c4
  have H1 : (some false) = some r := by rw [if_neg (show ¬ (false = true) by decide)] at H; exact H
  clear H
  have H := H1
  clear H1
  obtain rfl := Option.some.inj H
  go_enter Try.func32, Try.ntmps32
  go_wp2_with (first | ((with_reducible refine gate_dst (N := 2) rfl ?_); (try (refine gate_guard (by rfl) ?_; dsimp only)); refine bx (N := 2) (cs := #[.slice A0_0 l0_0.length c0_0]) (t := 29) ?_; intro gb108 hg w28 hbox hb; have n0_ := Aside0.mk (below_step (bw HB.out) hb); have n1_ := Aside0.mk (hbox); have n2_ := Aside0.mk ((gs hg (bw HB.out))); have n3_ := Aside0.mk ((gs hg (bw HB.out))); clear HB; have HB := n0_; have BK108 := n1_; have GW108 := n2_; have GE108 := n3_; clear n0_ n1_ n2_ n3_; clear hb hbox hg) | ((with_reducible refine gate_dst (N := 3) rfl ?_); (try (refine gate_guard (by rfl) ?_; dsimp only)); refine bx (N := 3) (cs := #[.slice A1_0 l1_0.length c1_0, .int .i64 a1_1]) (t := 32) ?_; intro gb109 hg w29 hbox hb; have n0_ := Aside0.mk (blk_below (g := gb108) (o := .cells #[.slice A0_0 l0_0.length c0_0] 29 (0, 0)) (kb BK108.out) hb); have n1_ := Aside0.mk (below_step (bw HB.out) hb); have n2_ := Aside0.mk (hbox); have n3_ := Aside0.mk ((gs hg (bw HB.out))); have n4_ := Aside0.mk ((gs hg (bw HB.out))); have n5_ := Aside0.mk ((ga hg BK108.out)); have n6_ := Aside0.mk ((gc hg BK108.out)); clear BK108; clear HB; have BK108 := n0_; have HB := n1_; have BK109 := n2_; have GW109 := n3_; have GE109 := n4_; have NB108_109 := n5_; have NB109_108 := n6_; clear n0_ n1_ n2_ n3_ n4_ n5_ n6_; clear hb hbox hg; have hnb30 := NB108_109.out; have hnc30 := NB109_108.out; have hcz31_0 : w29.cell? ⟨gb108, 0, none⟩ = some (.slice A0_0 l0_0.length c0_0) := cl BK108 0; have hfz31_0 := blk_frozen BK108.out 0) | ((with_reducible refine gate_callee (f := 19) rfl ?_); refine goesM_ (some 6) rfl rfl Try.func19 #[.agg #[.slice A0_0 l0_0.length c0_0]] ?_; (with_reducible refine (impl_ImageOk.calls k _ _ l0_0 false _ ?side1 ?side2 A3.out).mono ?_); (case side1 => exact kc (Kd.C_below HR0_0.out HB.out)); (case side2 => exact HC0_0.out); rintro e w32 ⟨rfl, hb⟩; refine ⟨_, rfl, ?_⟩; have n0_ := Aside0.mk (blk_below (g := gb108) (o := .cells #[.slice A0_0 l0_0.length c0_0] 29 (0, 0)) (kb BK108.out) hb); have n1_ := Aside0.mk (blk_below (g := gb109) (o := .cells #[.slice A1_0 l1_0.length c1_0, .int .i64 a1_1] 32 (0, 0)) (kb BK109.out) hb); have n2_ := Aside0.mk (below_step (bw HB.out) hb); clear BK108; clear BK109; clear HB; have BK108 := n0_; have BK109 := n1_; have HB := n2_; clear n0_ n1_ n2_; (try clear hb); (try clear hb2); (try clear hk); (try clear hi)))
  go_ret
  exact ⟨rt, bw HB.out⟩

/-! ### impl_Addr: function 52 -/
def impl_Addr.f (a0 : Int) : Option (Int) := some (Go.bits .and .i64 a0 65535)
set_option maxHeartbeats 8000000 in
set_option maxRecDepth 100000 in
theorem impl_Addr.calls (a0 : Int) (r : Int) (w : World) (h : impl_Addr.f a0 = some r) :
  Calls Try.prog 52 #[.int .i64 a0] w fun e w' => e = .returned (.int .i64 r) ∧ Drawn0 w w' := by
 have H : (some (Go.bits .and .i64 a0 65535)) = some r := h
 clear h
 obtain rfl := Option.some.inj H
 go_enter Try.func52, Try.ntmps52
 go_wp2
 go_ret
 exact ⟨by first | rfl | (simp; done) | (simp [*]; done), by repeat (first | exact Drawn0.refl _ | apply Drawn0.step)⟩

/-! ### impl_Region: function 11 -/
def impl_Region.f (a0 : Int) : Option (Int × Int) := (impl_Addr.f a0).bind fun t113 => (if t113 < 8192 then (some (1, Int.tmod t113 512)) else (if t113 < 16384 then (some (2, Int.tmod t113 8)) else (if t113 < 16388 then (some (3, Int.tmod t113 4)) else (if t113 = 16406 then (some (4, 0)) else (if t113 < 32768 then (some (7, 0)) else (if t113 < 49152 then (some (5, Int.tmod t113 256)) else (some (6, Int.tmod t113 256))))))))
set_option maxHeartbeats 8000000 in
set_option maxRecDepth 100000 in
theorem impl_Region.calls (a0 : Int) (r1 : Int) (r2 : Int) (w : World) (h : impl_Region.f a0 = some (r1, r2)) :
  Calls Try.prog 11 #[.int .i64 a0] w fun e w' => e = .returned (.tuple #[.int .i64 r1, .int .i64 r2]) ∧ Drawn0 w w' := by
 have H : ((impl_Addr.f a0).bind fun t113 => (if t113 < 8192 then (some (1, Int.tmod t113 512)) else (if t113 < 16384 then (some (2, Int.tmod t113 8)) else (if t113 < 16388 then (some (3, Int.tmod t113 4)) else (if t113 = 16406 then (some (4, 0)) else (if t113 < 32768 then (some (7, 0)) else (if t113 < 49152 then (some (5, Int.tmod t113 256)) else (some (6, Int.tmod t113 256))))))))) = some (r1, r2) := h
 clear h
 replace H := Option.bind_eq_some_iff.mp H
 obtain ⟨t113, A20, H⟩ := H
 replace H : (if t113 < 8192 then (some (1, Int.tmod t113 512)) else (if t113 < 16384 then (some (2, Int.tmod t113 8)) else (if t113 < 16388 then (some (3, Int.tmod t113 4)) else (if t113 = 16406 then (some (4, 0)) else (if t113 < 32768 then (some (7, 0)) else (if t113 < 49152 then (some (5, Int.tmod t113 256)) else (some (6, Int.tmod t113 256)))))))) = some (r1, r2) := H
 have A2 := Aside0.mk A20
 clear A20
 by_cases c3 : t113 < 8192
 ·rw [if_pos c3] at H
  have c3b0 : decide (t113 < 8192) = true := decide_eq_true c3
  clear c3
  simp only [Option.some.injEq, Prod.mk.injEq] at H
  obtain ⟨rfl, rfl⟩ := H
  go_enter Try.func11, Try.ntmps11
  go_wp2_with (first | ((with_reducible refine gate_callee (f := 52) rfl ?_); refine goesM_ (some 5) rfl rfl Try.func52 #[.int .i64 a0] ?_; (with_reducible refine (impl_Addr.calls a0 t113 _ A2.out).mono ?_); rintro e w' ⟨rfl, ⟨nd, rfl⟩⟩; refine ⟨_, rfl, ?_⟩))
  go_ret2
  exact ⟨by first | rfl | (simp; done) | (simp [*]; done), by repeat (first | exact Drawn0.refl _ | apply Drawn0.step)⟩
 ·rw [if_neg c3] at H
  have c3b0 : decide (t113 < 8192) = false := decide_eq_false c3
  clear c3
  by_cases c4 : t113 < 16384
  ·rw [if_pos c4] at H
   have c4b0 : decide (t113 < 16384) = true := decide_eq_true c4
   clear c4
   simp only [Option.some.injEq, Prod.mk.injEq] at H
   obtain ⟨rfl, rfl⟩ := H
   go_enter Try.func11, Try.ntmps11
   go_wp2_with (first | ((with_reducible refine gate_callee (f := 52) rfl ?_); refine goesM_ (some 5) rfl rfl Try.func52 #[.int .i64 a0] ?_; (with_reducible refine (impl_Addr.calls a0 t113 _ A2.out).mono ?_); rintro e w' ⟨rfl, ⟨nd, rfl⟩⟩; refine ⟨_, rfl, ?_⟩))
   go_ret2
   exact ⟨by first | rfl | (simp; done) | (simp [*]; done), by repeat (first | exact Drawn0.refl _ | apply Drawn0.step)⟩
  ·rw [if_neg c4] at H
   have c4b0 : decide (t113 < 16384) = false := decide_eq_false c4
   clear c4
   by_cases c5 : t113 < 16388
   ·rw [if_pos c5] at H
    have c5b0 : decide (t113 < 16388) = true := decide_eq_true c5
    clear c5
    simp only [Option.some.injEq, Prod.mk.injEq] at H
    obtain ⟨rfl, rfl⟩ := H
    go_enter Try.func11, Try.ntmps11
    go_wp2_with (first | ((with_reducible refine gate_callee (f := 52) rfl ?_); refine goesM_ (some 5) rfl rfl Try.func52 #[.int .i64 a0] ?_; (with_reducible refine (impl_Addr.calls a0 t113 _ A2.out).mono ?_); rintro e w' ⟨rfl, ⟨nd, rfl⟩⟩; refine ⟨_, rfl, ?_⟩))
    go_ret2
    exact ⟨by first | rfl | (simp; done) | (simp [*]; done), by repeat (first | exact Drawn0.refl _ | apply Drawn0.step)⟩
   ·rw [if_neg c5] at H
    have c5b0 : decide (t113 < 16388) = false := decide_eq_false c5
    clear c5
    by_cases c6 : t113 = 16406
    ·rw [if_pos c6] at H
     have c6b0 : (t113 == 16406) = true := beq_iff_eq.mpr c6
     have c6b1 : (t113 != 16406) = false := bne_eq_false_iff_eq.mpr c6
     clear c6
     simp only [Option.some.injEq, Prod.mk.injEq] at H
     obtain ⟨rfl, rfl⟩ := H
     go_enter Try.func11, Try.ntmps11
     go_wp2_with (first | ((with_reducible refine gate_callee (f := 52) rfl ?_); refine goesM_ (some 5) rfl rfl Try.func52 #[.int .i64 a0] ?_; (with_reducible refine (impl_Addr.calls a0 t113 _ A2.out).mono ?_); rintro e w' ⟨rfl, ⟨nd, rfl⟩⟩; refine ⟨_, rfl, ?_⟩))
     go_ret2
     exact ⟨by first | rfl | (simp; done) | (simp [*]; done), by repeat (first | exact Drawn0.refl _ | apply Drawn0.step)⟩
    ·rw [if_neg c6] at H
     have c6b0 : (t113 == 16406) = false := beq_eq_false_iff_ne.mpr c6
     have c6b1 : (t113 != 16406) = true := bne_iff_ne.mpr c6
     by_cases c7 : t113 < 32768
     ·rw [if_pos c7] at H
      have c7b0 : decide (t113 < 32768) = true := decide_eq_true c7
      clear c7
      simp only [Option.some.injEq, Prod.mk.injEq] at H
      obtain ⟨rfl, rfl⟩ := H
      go_enter Try.func11, Try.ntmps11
      go_wp2_with (first | ((with_reducible refine gate_callee (f := 52) rfl ?_); refine goesM_ (some 5) rfl rfl Try.func52 #[.int .i64 a0] ?_; (with_reducible refine (impl_Addr.calls a0 t113 _ A2.out).mono ?_); rintro e w' ⟨rfl, ⟨nd, rfl⟩⟩; refine ⟨_, rfl, ?_⟩))
      go_ret2
      exact ⟨by first | rfl | (simp; done) | (simp [*]; done), by repeat (first | exact Drawn0.refl _ | apply Drawn0.step)⟩
     ·rw [if_neg c7] at H
      have c7b0 : decide (t113 < 32768) = false := decide_eq_false c7
      clear c7
      by_cases c8 : t113 < 49152
      ·rw [if_pos c8] at H
       have c8b0 : decide (t113 < 49152) = true := decide_eq_true c8
       clear c8
       simp only [Option.some.injEq, Prod.mk.injEq] at H
       obtain ⟨rfl, rfl⟩ := H
       go_enter Try.func11, Try.ntmps11
       go_wp2_with (first | ((with_reducible refine gate_callee (f := 52) rfl ?_); refine goesM_ (some 5) rfl rfl Try.func52 #[.int .i64 a0] ?_; (with_reducible refine (impl_Addr.calls a0 t113 _ A2.out).mono ?_); rintro e w' ⟨rfl, ⟨nd, rfl⟩⟩; refine ⟨_, rfl, ?_⟩))
       go_ret2
       exact ⟨by first | rfl | (simp; done) | (simp [*]; done), by repeat (first | exact Drawn0.refl _ | apply Drawn0.step)⟩
      ·rw [if_neg c8] at H
       have c8b0 : decide (t113 < 49152) = false := decide_eq_false c8
       clear c8
       simp only [Option.some.injEq, Prod.mk.injEq] at H
       obtain ⟨rfl, rfl⟩ := H
       go_enter Try.func11, Try.ntmps11
       go_wp2_with (first | ((with_reducible refine gate_callee (f := 52) rfl ?_); refine goesM_ (some 5) rfl rfl Try.func52 #[.int .i64 a0] ?_; (with_reducible refine (impl_Addr.calls a0 t113 _ A2.out).mono ?_); rintro e w' ⟨rfl, ⟨nd, rfl⟩⟩; refine ⟨_, rfl, ?_⟩))
       go_ret2
       exact ⟨by first | rfl | (simp; done) | (simp [*]; done), by repeat (first | exact Drawn0.refl _ | apply Drawn0.step)⟩

/-! ### impl_peek: function 63 -/
def impl_peek.f (l0_0 : List (List Int)) (l1_0 : List Int) (a1_1 : Int) (a2 : Int) : Option (Int) := (impl_Region.f a2).bind fun bt116 => (if bt116.1 = 1 then (if 0 ≤ bt116.2 then (if bt116.2 < (l1_0.length : Int) then (some (rd l1_0 bt116.2)) else (none)) else (none)) else (if bt116.1 = 5 then (if 0 ≤ a1_1 then (if a1_1 < (l0_0.length : Int) then (if 0 ≤ bt116.2 then (if bt116.2 < ((rd_L2 l0_0 a1_1).length : Int) then (some (rd (rd_L2 l0_0 a1_1) bt116.2)) else (none)) else (none)) else (none)) else (none)) else (if bt116.1 = 6 then (if 0 ≤ (wrap64 ((l0_0.length : Int) - 1)) then (if (wrap64 ((l0_0.length : Int) - 1)) < (l0_0.length : Int) then (if 0 ≤ bt116.2 then (if bt116.2 < ((rd_L2 l0_0 (wrap64 ((l0_0.length : Int) - 1))).length : Int) then (some (rd (rd_L2 l0_0 (wrap64 ((l0_0.length : Int) - 1))) bt116.2)) else (none)) else (none)) else (none)) else (none)) else (some 0))))
set_option maxHeartbeats 8000000 in
set_option maxRecDepth 100000 in
theorem impl_peek.calls (A0_0 : Option Addr) (c0_0 : Nat) (l0_0 : List (List Int)) (A1_0 : Option Addr) (c1_0 : Nat) (l1_0 : List Int) (a1_1 : Int) (a2 : Int) (r : Int) (w : World) (hr0_0 : Kd.C (Kd.slice 3 (Kd.int .i64)) w A0_0 l0_0.length l0_0) (hc0_0 : l0_0.length ≤ c0_0) (hr1_0 : Kd.C (Kd.int .i64) w A1_0 l1_0.length l1_0) (hc1_0 : l1_0.length ≤ c1_0) (h : impl_peek.f l0_0 l1_0 a1_1 a2 = some r) :
  Calls Try.prog 63 #[.agg #[.slice A0_0 l0_0.length c0_0], .agg #[.slice A1_0 l1_0.length c1_0, .int .i64 a1_1], .int .i64 a2] w fun e w' => e = .returned (.int .i64 r) ∧ Below w.heap.size w w' := by
 have hu29 := Try.underlying29
 have hu32 := Try.underlying32
 have HR0_0 := Aside0.mk hr0_0
 have HC0_0 := Aside0.mk hc0_0
 clear hr0_0 hc0_0
 have HR1_0 := Aside0.mk hr1_0
 have HC1_0 := Aside0.mk hc1_0
 clear hr1_0 hc1_0
 have HB := Aside0.mk (Below.refl w.heap.size w)
 have H : ((impl_Region.f a2).bind fun bt116 => (if bt116.1 = 1 then (if 0 ≤ bt116.2 then (if bt116.2 < (l1_0.length : Int) then (some (rd l1_0 bt116.2)) else (none)) else (none)) else (if bt116.1 = 5 then (if 0 ≤ a1_1 then (if a1_1 < (l0_0.length : Int) then (if 0 ≤ bt116.2 then (if bt116.2 < ((rd_L2 l0_0 a1_1).length : Int) then (some (rd (rd_L2 l0_0 a1_1) bt116.2)) else (none)) else (none)) else (none)) else (none)) else (if bt116.1 = 6 then (if 0 ≤ (wrap64 ((l0_0.length : Int) - 1)) then (if (wrap64 ((l0_0.length : Int) - 1)) < (l0_0.length : Int) then (if 0 ≤ bt116.2 then (if bt116.2 < ((rd_L2 l0_0 (wrap64 ((l0_0.length : Int) - 1))).length : Int) then (some (rd (rd_L2 l0_0 (wrap64 ((l0_0.length : Int) - 1))) bt116.2)) else (none)) else (none)) else (none)) else (none)) else (some 0))))) = some r := h
 clear h
 replace H := Option.bind_eq_some_iff.mp H
 obtain ⟨⟨t116, t117⟩, A40, H⟩ := H
 replace H : (if t116 = 1 then (if 0 ≤ t117 then (if t117 < (l1_0.length : Int) then (some (rd l1_0 t117)) else (none)) else (none)) else (if t116 = 5 then (if 0 ≤ a1_1 then (if a1_1 < (l0_0.length : Int) then (if 0 ≤ t117 then (if t117 < ((rd_L2 l0_0 a1_1).length : Int) then (some (rd (rd_L2 l0_0 a1_1) t117)) else (none)) else (none)) else (none)) else (none)) else (if t116 = 6 then (if 0 ≤ (wrap64 ((l0_0.length : Int) - 1)) then (if (wrap64 ((l0_0.length : Int) - 1)) < (l0_0.length : Int) then (if 0 ≤ t117 then (if t117 < ((rd_L2 l0_0 (wrap64 ((l0_0.length : Int) - 1))).length : Int) then (some (rd (rd_L2 l0_0 (wrap64 ((l0_0.length : Int) - 1))) t117)) else (none)) else (none)) else (none)) else (none)) else (some 0)))) = some r := H
 have A4 := Aside0.mk A40
 clear A40
 by_cases c5 : t116 = 1
 ·rw [if_pos c5] at H
  have c5b0 : (t116 == 1) = true := beq_iff_eq.mpr c5
  have c5b1 : (t116 != 1) = false := bne_eq_false_iff_eq.mpr c5
  clear c5
  by_cases c6 : 0 ≤ t117
  ·rw [if_pos c6] at H
   have c6b0 : decide (0 ≤ t117) = true := decide_eq_true c6
   clear c6
   by_cases c7 : t117 < (l1_0.length : Int)
   ·rw [if_pos c7] at H
    have c7b0 : decide (t117 < (l1_0.length : Int)) = true := decide_eq_true c7
    clear c7
    obtain rfl := Option.some.inj H
    go_enter Try.func63, Try.ntmps63
    go_wp2_with (first | ((with_reducible refine gate_dst (N := 3) rfl ?_); refine bx (N := 3) (cs := #[.slice A0_0 l0_0.length c0_0]) (t := 29) ?_; intro gb114 hg w8 hbox hb; have n0_ := Aside0.mk (below_step (bw HB.out) hb); have n1_ := Aside0.mk (hbox); have n2_ := Aside0.mk ((gs hg (bw HB.out))); have n3_ := Aside0.mk ((gs hg (bw HB.out))); clear HB; have HB := n0_; have BK114 := n1_; have GW114 := n2_; have GE114 := n3_; clear n0_ n1_ n2_ n3_; clear hb hbox hg) | ((with_reducible refine gate_dst (N := 4) rfl ?_); refine bx (N := 4) (cs := #[.slice A1_0 l1_0.length c1_0, .int .i64 a1_1]) (t := 32) ?_; intro gb115 hg w9 hbox hb; have n0_ := Aside0.mk (blk_below (g := gb114) (o := .cells #[.slice A0_0 l0_0.length c0_0] 29 (0, 0)) (kb BK114.out) hb); have n1_ := Aside0.mk (below_step (bw HB.out) hb); have n2_ := Aside0.mk (hbox); have n3_ := Aside0.mk ((gs hg (bw HB.out))); have n4_ := Aside0.mk ((gs hg (bw HB.out))); have n5_ := Aside0.mk ((ga hg BK114.out)); have n6_ := Aside0.mk ((gc hg BK114.out)); clear BK114; clear HB; have BK114 := n0_; have HB := n1_; have BK115 := n2_; have GW115 := n3_; have GE115 := n4_; have NB114_115 := n5_; have NB115_114 := n6_; clear n0_ n1_ n2_ n3_ n4_ n5_ n6_; clear hb hbox hg) | ((with_reducible refine gate_callee (f := 11) rfl ?_); refine goesM_ (some 11) rfl rfl Try.func11 #[.int .i64 a2] ?_; (with_reducible refine (impl_Region.calls a2 t116 t117 _ A4.out).mono ?_); rintro e w' ⟨rfl, ⟨nd, rfl⟩⟩; refine ⟨_, rfl, ?_⟩; have hnb10 := NB115_114.out; have hnc10 := NB114_115.out; have hcz11_0 : w9.cell? ⟨gb115, 0, none⟩ = some (.slice A1_0 l1_0.length c1_0) := cl BK115 0; have hcz11_1 : w9.cell? ⟨gb115, 1, none⟩ = some (.int .i64 a1_1) := cl BK115 1; have hfz11_0 := blk_frozen BK115.out 0; have hfz11_1 := blk_frozen BK115.out 1; have p118 : 0 ≤ (t117 : Int) := dt; have q118 : t117 < (l1_0.length : Int) := dt; obtain ⟨ad118, e118, hx118_0⟩ := Kd.at_int HR1_0.out t117 p118 q118; cases e118; replace hx118_0 := (HB.out.cell (World.block_lt_of_cell? w _ hx118_0)).trans hx118_0; replace p118 := eq_true p118; replace q118 := eq_true q118))
    go_ret
    exact ⟨rt, bw HB.out⟩
   ·rw [if_neg c7] at H
    exact absurd H (by simp)
  ·rw [if_neg c6] at H
   exact absurd H (by simp)
 ·rw [if_neg c5] at H
  have c5b0 : (t116 == 1) = false := beq_eq_false_iff_ne.mpr c5
  have c5b1 : (t116 != 1) = true := bne_iff_ne.mpr c5
  by_cases c12 : t116 = 5
  ·rw [if_pos c12] at H
   have c12b0 : (t116 == 5) = true := beq_iff_eq.mpr c12
   have c12b1 : (t116 != 5) = false := bne_eq_false_iff_eq.mpr c12
   clear c12
   by_cases c13 : 0 ≤ a1_1
   ·rw [if_pos c13] at H
    have c13b0 : decide (0 ≤ a1_1) = true := decide_eq_true c13
    clear c13
    by_cases c14 : a1_1 < (l0_0.length : Int)
    ·rw [if_pos c14] at H
     have c14b0 : decide (a1_1 < (l0_0.length : Int)) = true := decide_eq_true c14
     clear c14
     by_cases c15 : 0 ≤ t117
     ·rw [if_pos c15] at H
      have c15b0 : decide (0 ≤ t117) = true := decide_eq_true c15
      clear c15
      by_cases c16 : t117 < ((rd_L2 l0_0 a1_1).length : Int)
      ·rw [if_pos c16] at H
       have c16b0 : decide (t117 < ((rd_L2 l0_0 a1_1).length : Int)) = true := decide_eq_true c16
       clear c16
       obtain rfl := Option.some.inj H
       go_enter Try.func63, Try.ntmps63
       go_wp2_with (first | ((with_reducible refine gate_dst (N := 3) rfl ?_); refine bx (N := 3) (cs := #[.slice A0_0 l0_0.length c0_0]) (t := 29) ?_; intro gb114 hg w17 hbox hb; have n0_ := Aside0.mk (below_step (bw HB.out) hb); have n1_ := Aside0.mk (hbox); have n2_ := Aside0.mk ((gs hg (bw HB.out))); have n3_ := Aside0.mk ((gs hg (bw HB.out))); clear HB; have HB := n0_; have BK114 := n1_; have GW114 := n2_; have GE114 := n3_; clear n0_ n1_ n2_ n3_; clear hb hbox hg) | ((with_reducible refine gate_dst (N := 4) rfl ?_); refine bx (N := 4) (cs := #[.slice A1_0 l1_0.length c1_0, .int .i64 a1_1]) (t := 32) ?_; intro gb115 hg w18 hbox hb; have n0_ := Aside0.mk (blk_below (g := gb114) (o := .cells #[.slice A0_0 l0_0.length c0_0] 29 (0, 0)) (kb BK114.out) hb); have n1_ := Aside0.mk (below_step (bw HB.out) hb); have n2_ := Aside0.mk (hbox); have n3_ := Aside0.mk ((gs hg (bw HB.out))); have n4_ := Aside0.mk ((gs hg (bw HB.out))); have n5_ := Aside0.mk ((ga hg BK114.out)); have n6_ := Aside0.mk ((gc hg BK114.out)); clear BK114; clear HB; have BK114 := n0_; have HB := n1_; have BK115 := n2_; have GW115 := n3_; have GE115 := n4_; have NB114_115 := n5_; have NB115_114 := n6_; clear n0_ n1_ n2_ n3_ n4_ n5_ n6_; clear hb hbox hg) | ((with_reducible refine gate_callee (f := 11) rfl ?_); refine goesM_ (some 11) rfl rfl Try.func11 #[.int .i64 a2] ?_; (with_reducible refine (impl_Region.calls a2 t116 t117 _ A4.out).mono ?_); rintro e w' ⟨rfl, ⟨nd, rfl⟩⟩; refine ⟨_, rfl, ?_⟩; have hnb19 := NB114_115.out; have hnc19 := NB115_114.out; have hcz20_0 : w18.cell? ⟨gb114, 0, none⟩ = some (.slice A0_0 l0_0.length c0_0) := cl BK114 0; have hfz20_0 := blk_frozen BK114.out 0; have hcz21_0 : w18.cell? ⟨gb115, 0, none⟩ = some (.slice A1_0 l1_0.length c1_0) := cl BK115 0; have hcz21_1 : w18.cell? ⟨gb115, 1, none⟩ = some (.int .i64 a1_1) := cl BK115 1; have hfz21_0 := blk_frozen BK115.out 0; have hfz21_1 := blk_frozen BK115.out 1; have p119 : 0 ≤ (a1_1 : Int) := dt; have q119 : a1_1 < (l0_0.length : Int) := dt; obtain ⟨ad119, A119_0, c119_0, e119, hx119_0, hl119_0, hi119_0⟩ := at_L2 HR0_0.out a1_1 p119 q119; cases e119; replace hx119_0 := (HB.out.cell (World.block_lt_of_cell? w _ hx119_0)).trans hx119_0; have HR119_0 := Aside0.mk hi119_0; have HC119_0 := Aside0.mk hl119_0; clear hi119_0 hl119_0; replace p119 := eq_true p119; replace q119 := eq_true q119; have p120 : 0 ≤ (t117 : Int) := dt; have q120 : t117 < ((rd_L2 l0_0 a1_1).length : Int) := dt; obtain ⟨ad120, e120, hx120_0⟩ := Kd.at_int HR119_0.out t117 p120 q120; cases e120; replace hx120_0 := (HB.out.cell (World.block_lt_of_cell? w _ hx120_0)).trans hx120_0; replace p120 := eq_true p120; replace q120 := eq_true q120))
       go_ret
       exact ⟨rt, bw HB.out⟩
      ·rw [if_neg c16] at H
       exact absurd H (by simp)
     ·rw [if_neg c15] at H
      exact absurd H (by simp)
    ·rw [if_neg c14] at H
     exact absurd H (by simp)
   ·rw [if_neg c13] at H
    exact absurd H (by simp)
  ·rw [if_neg c12] at H
   have c12b0 : (t116 == 5) = false := beq_eq_false_iff_ne.mpr c12
   have c12b1 : (t116 != 5) = true := bne_iff_ne.mpr c12
   by_cases c22 : t116 = 6
   ·rw [if_pos c22] at H
    have c22b0 : (t116 == 6) = true := beq_iff_eq.mpr c22
    have c22b1 : (t116 != 6) = false := bne_eq_false_iff_eq.mpr c22
    clear c22
    obtain ⟨ji23, hji23⟩ : ∃ j_ : Int, (wrap64 ((l0_0.length : Int) - 1)) = j_ := ⟨_, rfl⟩
    replace H : (if 0 ≤ (ji23) then (if (ji23) < (l0_0.length : Int) then (if 0 ≤ t117 then (if t117 < ((rd_L2 l0_0 (ji23)).length : Int) then (some (rd (rd_L2 l0_0 (ji23)) t117)) else (none)) else (none)) else (none)) else (none)) = some r := by first | (rw [hji23] at H; exact H) | (simp only [hji23] at H ⊢; exact H)
    (try rw [hji23] at A4)
    have hji23w : (IntKind.i64.wrap ((l0_0.length : Int) - 1)) = ji23 := (i64_w _).trans hji23
    by_cases c24 : 0 ≤ (ji23)
    ·rw [if_pos c24] at H
     have c24b0 : decide (0 ≤ (ji23)) = true := decide_eq_true c24
     clear c24
     by_cases c25 : (ji23) < (l0_0.length : Int)
     ·rw [if_pos c25] at H
      have c25b0 : decide ((ji23) < (l0_0.length : Int)) = true := decide_eq_true c25
      clear c25
      by_cases c26 : 0 ≤ t117
      ·rw [if_pos c26] at H
       have c26b0 : decide (0 ≤ t117) = true := decide_eq_true c26
       clear c26
       by_cases c27 : t117 < ((rd_L2 l0_0 (ji23)).length : Int)
       ·rw [if_pos c27] at H
        have c27b0 : decide (t117 < ((rd_L2 l0_0 (ji23)).length : Int)) = true := decide_eq_true c27
        clear c27
        obtain rfl := Option.some.inj H
        go_enter Try.func63, Try.ntmps63
        go_wp2_with (first | ((with_reducible refine gate_dst (N := 3) rfl ?_); refine bx (N := 3) (cs := #[.slice A0_0 l0_0.length c0_0]) (t := 29) ?_; intro gb114 hg w28 hbox hb; have n0_ := Aside0.mk (below_step (bw HB.out) hb); have n1_ := Aside0.mk (hbox); have n2_ := Aside0.mk ((gs hg (bw HB.out))); have n3_ := Aside0.mk ((gs hg (bw HB.out))); clear HB; have HB := n0_; have BK114 := n1_; have GW114 := n2_; have GE114 := n3_; clear n0_ n1_ n2_ n3_; clear hb hbox hg) | ((with_reducible refine gate_dst (N := 4) rfl ?_); refine bx (N := 4) (cs := #[.slice A1_0 l1_0.length c1_0, .int .i64 a1_1]) (t := 32) ?_; intro gb115 hg w29 hbox hb; have n0_ := Aside0.mk (blk_below (g := gb114) (o := .cells #[.slice A0_0 l0_0.length c0_0] 29 (0, 0)) (kb BK114.out) hb); have n1_ := Aside0.mk (below_step (bw HB.out) hb); have n2_ := Aside0.mk (hbox); have n3_ := Aside0.mk ((gs hg (bw HB.out))); have n4_ := Aside0.mk ((gs hg (bw HB.out))); have n5_ := Aside0.mk ((ga hg BK114.out)); have n6_ := Aside0.mk ((gc hg BK114.out)); clear BK114; clear HB; have BK114 := n0_; have HB := n1_; have BK115 := n2_; have GW115 := n3_; have GE115 := n4_; have NB114_115 := n5_; have NB115_114 := n6_; clear n0_ n1_ n2_ n3_ n4_ n5_ n6_; clear hb hbox hg) | ((with_reducible refine gate_callee (f := 11) rfl ?_); refine goesM_ (some 11) rfl rfl Try.func11 #[.int .i64 a2] ?_; (with_reducible refine (impl_Region.calls a2 t116 t117 _ A4.out).mono ?_); rintro e w' ⟨rfl, ⟨nd, rfl⟩⟩; refine ⟨_, rfl, ?_⟩; have hnb30 := NB114_115.out; have hnc30 := NB115_114.out; have hcz31_0 : w29.cell? ⟨gb114, 0, none⟩ = some (.slice A0_0 l0_0.length c0_0) := cl BK114 0; have hfz31_0 := blk_frozen BK114.out 0; have p121 : 0 ≤ ((ji23) : Int) := dt; have q121 : (ji23) < (l0_0.length : Int) := dt; obtain ⟨ad121, A121_0, c121_0, e121, hx121_0, hl121_0, hi121_0⟩ := at_L2 HR0_0.out (ji23) p121 q121; cases e121; replace hx121_0 := (HB.out.cell (World.block_lt_of_cell? w _ hx121_0)).trans hx121_0; have HR121_0 := Aside0.mk hi121_0; have HC121_0 := Aside0.mk hl121_0; clear hi121_0 hl121_0; replace p121 := eq_true p121; replace q121 := eq_true q121; have p122 : 0 ≤ (t117 : Int) := dt; have q122 : t117 < ((rd_L2 l0_0 (ji23)).length : Int) := dt; obtain ⟨ad122, e122, hx122_0⟩ := Kd.at_int HR121_0.out t117 p122 q122; cases e122; replace hx122_0 := (HB.out.cell (World.block_lt_of_cell? w _ hx122_0)).trans hx122_0; replace p122 := eq_true p122; replace q122 := eq_true q122))
        go_ret
        exact ⟨by first | rfl | (simp [errW_none, errW_some] <;> rfl) | (simp only [← hji23]; first | rfl | (simp [errW_none, errW_some] <;> rfl)) | (simp [*, errW_none, errW_some] <;> rfl), bw HB.out⟩
       ·rw [if_neg c27] at H
        exact absurd H (by simp)
      ·rw [if_neg c26] at H
       exact absurd H (by simp)
     ·rw [if_neg c25] at H
      exact absurd H (by simp)
    ·rw [if_neg c24] at H
     exact absurd H (by simp)
   ·rw [if_neg c22] at H
    have c22b0 : (t116 == 6) = false := beq_eq_false_iff_ne.mpr c22
    have c22b1 : (t116 != 6) = true := bne_iff_ne.mpr c22
    obtain rfl := Option.some.inj H
    go_enter Try.func63, Try.ntmps63
    go_wp2_with (first | ((with_reducible refine gate_dst (N := 3) rfl ?_); refine bx (N := 3) (cs := #[.slice A0_0 l0_0.length c0_0]) (t := 29) ?_; intro gb114 hg w32 hbox hb; have n0_ := Aside0.mk (below_step (bw HB.out) hb); have n1_ := Aside0.mk (hbox); have n2_ := Aside0.mk ((gs hg (bw HB.out))); have n3_ := Aside0.mk ((gs hg (bw HB.out))); clear HB; have HB := n0_; have BK114 := n1_; have GW114 := n2_; have GE114 := n3_; clear n0_ n1_ n2_ n3_; clear hb hbox hg) | ((with_reducible refine gate_dst (N := 4) rfl ?_); refine bx (N := 4) (cs := #[.slice A1_0 l1_0.length c1_0, .int .i64 a1_1]) (t := 32) ?_; intro gb115 hg w33 hbox hb; have n0_ := Aside0.mk (blk_below (g := gb114) (o := .cells #[.slice A0_0 l0_0.length c0_0] 29 (0, 0)) (kb BK114.out) hb); have n1_ := Aside0.mk (below_step (bw HB.out) hb); have n2_ := Aside0.mk (hbox); have n3_ := Aside0.mk ((gs hg (bw HB.out))); have n4_ := Aside0.mk ((gs hg (bw HB.out))); have n5_ := Aside0.mk ((ga hg BK114.out)); have n6_ := Aside0.mk ((gc hg BK114.out)); clear BK114; clear HB; have BK114 := n0_; have HB := n1_; have BK115 := n2_; have GW115 := n3_; have GE115 := n4_; have NB114_115 := n5_; have NB115_114 := n6_; clear n0_ n1_ n2_ n3_ n4_ n5_ n6_; clear hb hbox hg) | ((with_reducible refine gate_callee (f := 11) rfl ?_); refine goesM_ (some 11) rfl rfl Try.func11 #[.int .i64 a2] ?_; (with_reducible refine (impl_Region.calls a2 t116 t117 _ A4.out).mono ?_); rintro e w' ⟨rfl, ⟨nd, rfl⟩⟩; refine ⟨_, rfl, ?_⟩))
    go_ret
    exact ⟨rt, bw HB.out⟩

/-! ### impl_Peek: function 14 -/
def impl_Peek.f (k : Nat) (l0_0 : List (List Int)) (l1_0 : List Int) (a1_1 : Int) (a2 : Int) : Option (Int) := (impl_MemOk.f k l0_0 l1_0 a1_1).bind fun t125 => (if t125 = true then ((impl_peek.f l0_0 l1_0 a1_1 a2).bind fun t126 => (some t126)) else (some 0))
set_option maxHeartbeats 8000000 in
set_option maxRecDepth 100000 in
theorem impl_Peek.calls (k : Nat) (A0_0 : Option Addr) (c0_0 : Nat) (l0_0 : List (List Int)) (A1_0 : Option Addr) (c1_0 : Nat) (l1_0 : List Int) (a1_1 : Int) (a2 : Int) (r : Int) (w : World) (hr0_0 : Kd.C (Kd.slice 3 (Kd.int .i64)) w A0_0 l0_0.length l0_0) (hc0_0 : l0_0.length ≤ c0_0) (hr1_0 : Kd.C (Kd.int .i64) w A1_0 l1_0.length l1_0) (hc1_0 : l1_0.length ≤ c1_0) (h : impl_Peek.f k l0_0 l1_0 a1_1 a2 = some r) :
  Calls Try.prog 14 #[.agg #[.slice A0_0 l0_0.length c0_0], .agg #[.slice A1_0 l1_0.length c1_0, .int .i64 a1_1], .int .i64 a2] w fun e w' => e = .returned (.int .i64 r) ∧ Below w.heap.size w w' := by
 have hu29 := Try.underlying29
 have hu32 := Try.underlying32
 have HR0_0 := Aside0.mk hr0_0
 have HC0_0 := Aside0.mk hc0_0
 clear hr0_0 hc0_0
 have HR1_0 := Aside0.mk hr1_0
 have HC1_0 := Aside0.mk hc1_0
 clear hr1_0 hc1_0
 have HB := Aside0.mk (Below.refl w.heap.size w)
 have H : ((impl_MemOk.f k l0_0 l1_0 a1_1).bind fun t125 => (if t125 = true then ((impl_peek.f l0_0 l1_0 a1_1 a2).bind fun t126 => (some t126)) else (some 0))) = some r := h
 clear h
 replace H := Option.bind_eq_some_iff.mp H
 obtain ⟨t125, A40, H⟩ := H
 replace H : (if t125 = true then ((impl_peek.f l0_0 l1_0 a1_1 a2).bind fun t126 => (some t126)) else (some 0)) = some r := H
 have A4 := Aside0.mk A40
 clear A40
 by_cases c5 : t125 = true
 ·subst c5
  have H1 : ((impl_peek.f l0_0 l1_0 a1_1 a2).bind fun t126 => (some t126)) = some r := by rw [if_pos rfl] at H; exact H
  clear H
  have H := H1
  clear H1
  replace H := Option.bind_eq_some_iff.mp H
  obtain ⟨t126, A60, H⟩ := H
  replace H : (some t126) = some r := H
  have A6 := Aside0.mk A60
  clear A60
  obtain rfl := Option.some.inj H
  go_enter Try.func14, Try.ntmps14
  go_wp2_with (first | ((with_reducible refine gate_dst (N := 3) rfl ?_); refine bx (N := 3) (cs := #[.slice A0_0 l0_0.length c0_0]) (t := 29) ?_; intro gb123 hg w7 hbox hb; have n0_ := Aside0.mk (below_step (bw HB.out) hb); have n1_ := Aside0.mk (hbox); have n2_ := Aside0.mk ((gs hg (bw HB.out))); have n3_ := Aside0.mk ((gs hg (bw HB.out))); clear HB; have HB := n0_; have BK123 := n1_; have GW123 := n2_; have GE123 := n3_; clear n0_ n1_ n2_ n3_; clear hb hbox hg) | ((with_reducible refine gate_dst (N := 4) rfl ?_); refine bx (N := 4) (cs := #[.slice A1_0 l1_0.length c1_0, .int .i64 a1_1]) (t := 32) ?_; intro gb124 hg w8 hbox hb; have n0_ := Aside0.mk (blk_below (g := gb123) (o := .cells #[.slice A0_0 l0_0.length c0_0] 29 (0, 0)) (kb BK123.out) hb); have n1_ := Aside0.mk (below_step (bw HB.out) hb); have n2_ := Aside0.mk (hbox); have n3_ := Aside0.mk ((gs hg (bw HB.out))); have n4_ := Aside0.mk ((gs hg (bw HB.out))); have n5_ := Aside0.mk ((ga hg BK123.out)); have n6_ := Aside0.mk ((gc hg BK123.out)); clear BK123; clear HB; have BK123 := n0_; have HB := n1_; have BK124 := n2_; have GW124 := n3_; have GE124 := n4_; have NB123_124 := n5_; have NB124_123 := n6_; clear n0_ n1_ n2_ n3_ n4_ n5_ n6_; clear hb hbox hg; have hnb9 := NB123_124.out; have hnc9 := NB124_123.out; have hcz10_0 : w8.cell? ⟨gb123, 0, none⟩ = some (.slice A0_0 l0_0.length c0_0) := cl BK123 0; have hfz10_0 := blk_frozen BK123.out 0; have hcz11_0 : w8.cell? ⟨gb124, 0, none⟩ = some (.slice A1_0 l1_0.length c1_0) := cl BK124 0; have hcz11_1 : w8.cell? ⟨gb124, 1, none⟩ = some (.int .i64 a1_1) := cl BK124 1; have hfz11_0 := blk_frozen BK124.out 0; have hfz11_1 := blk_frozen BK124.out 1) | ((with_reducible refine gate_callee (f := 32) rfl ?_); refine goesM_ (some 9) rfl rfl Try.func32 #[.agg #[.slice A0_0 l0_0.length c0_0], .agg #[.slice A1_0 l1_0.length c1_0, .int .i64 a1_1]] ?_; (with_reducible refine (impl_MemOk.calls k _ _ l0_0 _ _ l1_0 a1_1 true _ ?side1 ?side2 ?side3 ?side4 A4.out).mono ?_); (case side1 => exact kc (Kd.C_below HR0_0.out HB.out)); (case side2 => exact HC0_0.out); (case side3 => exact kc (Kd.C_below HR1_0.out HB.out)); (case side4 => exact HC1_0.out); rintro e w12 ⟨rfl, hb⟩; refine ⟨_, rfl, ?_⟩; have n0_ := Aside0.mk (blk_below (g := gb123) (o := .cells #[.slice A0_0 l0_0.length c0_0] 29 (0, 0)) (kb BK123.out) hb); have n1_ := Aside0.mk (blk_below (g := gb124) (o := .cells #[.slice A1_0 l1_0.length c1_0, .int .i64 a1_1] 32 (0, 0)) (kb BK124.out) hb); have n2_ := Aside0.mk (below_step (bw HB.out) hb); clear BK123; clear BK124; clear HB; have BK123 := n0_; have BK124 := n1_; have HB := n2_; clear n0_ n1_ n2_; (try clear hb); (try clear hb2); (try clear hk); (try clear hi); have hcz13_0 : w12.cell? ⟨gb123, 0, none⟩ = some (.slice A0_0 l0_0.length c0_0) := cl BK123 0; have hfz13_0 := blk_frozen BK123.out 0; have hcz14_0 : w12.cell? ⟨gb124, 0, none⟩ = some (.slice A1_0 l1_0.length c1_0) := cl BK124 0; have hcz14_1 : w12.cell? ⟨gb124, 1, none⟩ = some (.int .i64 a1_1) := cl BK124 1; have hfz14_0 := blk_frozen BK124.out 0; have hfz14_1 := blk_frozen BK124.out 1) | ((with_reducible refine gate_callee (f := 63) rfl ?_); refine goesM_ (some 14) rfl rfl Try.func63 #[.agg #[.slice A0_0 l0_0.length c0_0], .agg #[.slice A1_0 l1_0.length c1_0, .int .i64 a1_1], .int .i64 a2] ?_; (with_reducible refine (impl_peek.calls _ _ l0_0 _ _ l1_0 a1_1 a2 t126 _ ?side1 ?side2 ?side3 ?side4 A6.out).mono ?_); (case side1 => exact kc (Kd.C_below HR0_0.out HB.out)); (case side2 => exact HC0_0.out); (case side3 => exact kc (Kd.C_below HR1_0.out HB.out)); (case side4 => exact HC1_0.out); rintro e w15 ⟨rfl, hb⟩; refine ⟨_, rfl, ?_⟩; have n0_ := Aside0.mk (blk_below (g := gb123) (o := .cells #[.slice A0_0 l0_0.length c0_0] 29 (0, 0)) (kb BK123.out) hb); have n1_ := Aside0.mk (blk_below (g := gb124) (o := .cells #[.slice A1_0 l1_0.length c1_0, .int .i64 a1_1] 32 (0, 0)) (kb BK124.out) hb); have n2_ := Aside0.mk (below_step (bw HB.out) hb); clear BK123; clear BK124; clear HB; have BK123 := n0_; have BK124 := n1_; have HB := n2_; clear n0_ n1_ n2_; (try clear hb); (try clear hb2); (try clear hk); (try clear hi)))
  go_ret
  exact ⟨rt, bw HB.out⟩
 ·replace c5 := Bool.eq_false_iff.mpr c5
  subst c5
  have H1 : (some 0) = some r := by rw [if_neg (show ¬ (false = true) by decide)] at H; exact H
  clear H
  have H := H1
  clear H1
  obtain rfl := Option.some.inj H
  go_enter Try.func14, Try.ntmps14
  go_wp2_with (first | ((with_reducible refine gate_dst (N := 3) rfl ?_); refine bx (N := 3) (cs := #[.slice A0_0 l0_0.length c0_0]) (t := 29) ?_; intro gb123 hg w16 hbox hb; have n0_ := Aside0.mk (below_step (bw HB.out) hb); have n1_ := Aside0.mk (hbox); have n2_ := Aside0.mk ((gs hg (bw HB.out))); have n3_ := Aside0.mk ((gs hg (bw HB.out))); clear HB; have HB := n0_; have BK123 := n1_; have GW123 := n2_; have GE123 := n3_; clear n0_ n1_ n2_ n3_; clear hb hbox hg) | ((with_reducible refine gate_dst (N := 4) rfl ?_); refine bx (N := 4) (cs := #[.slice A1_0 l1_0.length c1_0, .int .i64 a1_1]) (t := 32) ?_; intro gb124 hg w17 hbox hb; have n0_ := Aside0.mk (blk_below (g := gb123) (o := .cells #[.slice A0_0 l0_0.length c0_0] 29 (0, 0)) (kb BK123.out) hb); have n1_ := Aside0.mk (below_step (bw HB.out) hb); have n2_ := Aside0.mk (hbox); have n3_ := Aside0.mk ((gs hg (bw HB.out))); have n4_ := Aside0.mk ((gs hg (bw HB.out))); have n5_ := Aside0.mk ((ga hg BK123.out)); have n6_ := Aside0.mk ((gc hg BK123.out)); clear BK123; clear HB; have BK123 := n0_; have HB := n1_; have BK124 := n2_; have GW124 := n3_; have GE124 := n4_; have NB123_124 := n5_; have NB124_123 := n6_; clear n0_ n1_ n2_ n3_ n4_ n5_ n6_; clear hb hbox hg; have hnb18 := NB123_124.out; have hnc18 := NB124_123.out; have hcz19_0 : w17.cell? ⟨gb123, 0, none⟩ = some (.slice A0_0 l0_0.length c0_0) := cl BK123 0; have hfz19_0 := blk_frozen BK123.out 0; have hcz20_0 : w17.cell? ⟨gb124, 0, none⟩ = some (.slice A1_0 l1_0.length c1_0) := cl BK124 0; have hcz20_1 : w17.cell? ⟨gb124, 1, none⟩ = some (.int .i64 a1_1) := cl BK124 1; have hfz20_0 := blk_frozen BK124.out 0; have hfz20_1 := blk_frozen BK124.out 1) | ((with_reducible refine gate_callee (f := 32) rfl ?_); refine goesM_ (some 9) rfl rfl Try.func32 #[.agg #[.slice A0_0 l0_0.length c0_0], .agg #[.slice A1_0 l1_0.length c1_0, .int .i64 a1_1]] ?_; (with_reducible refine (impl_MemOk.calls k _ _ l0_0 _ _ l1_0 a1_1 false _ ?side1 ?side2 ?side3 ?side4 A4.out).mono ?_); (case side1 => exact kc (Kd.C_below HR0_0.out HB.out)); (case side2 => exact HC0_0.out); (case side3 => exact kc (Kd.C_below HR1_0.out HB.out)); (case side4 => exact HC1_0.out); rintro e w21 ⟨rfl, hb⟩; refine ⟨_, rfl, ?_⟩; have n0_ := Aside0.mk (blk_below (g := gb123) (o := .cells #[.slice A0_0 l0_0.length c0_0] 29 (0, 0)) (kb BK123.out) hb); have n1_ := Aside0.mk (blk_below (g := gb124) (o := .cells #[.slice A1_0 l1_0.length c1_0, .int .i64 a1_1] 32 (0, 0)) (kb BK124.out) hb); have n2_ := Aside0.mk (below_step (bw HB.out) hb); clear BK123; clear BK124; clear HB; have BK123 := n0_; have BK124 := n1_; have HB := n2_; clear n0_ n1_ n2_; (try clear hb); (try clear hb2); (try clear hk); (try clear hi)))
  go_ret
  exact ⟨rt, bw HB.out⟩

/-- A state of type 107 at block g of W; what its slices lead to came in by w0. -/
def IsS107 (w0 W : World) (g : Nat) (f0 : List Int) (f1 : Int) (f2 : Int) : Prop := ∃ A0 c0, W.heap[g]? = some (.cells #[.slice A0 f0.length c0, .int .i64 f1, .int .i64 f2] 107 (0, 0)) ∧ w0.heap.size ≤ g ∧ Kd.C (Kd.int .u8) w0 A0 f0.length f0
theorem IsS107.grown {w0 W : World} {g : Nat} {f0 : List Int} {f1 : Int} {f2 : Int} {W1 : World} {row : Option Nat} (h : IsS107 w0 W g f0 f1 f2) (hw : W.grownBy W1 row) (hne : some g ≠ row) : IsS107 w0 W1 g f0 f1 f2 := by
 obtain ⟨A0, c0, hb, hg, hr0⟩ := h
 exact ⟨A0, c0, blk_grown hb hw hne, hg, hr0⟩
theorem IsS107.own_neN {w0 W : World} {g : Nat} {f0 : List Int} {f1 : Int} {f2 : Int} {α : Type} {d : Kd α} {e : Nat} {base : Nat} {ok : Nat → Prop} {v : Value} {xs : List α} (h : IsS107 w0 W g f0 f1 f2) (ho : Kd.N d e W base ok v xs) (ht : e ≠ 107) : some g ≠ v.ownBlock := by
 obtain ⟨A0, c0, hb, hg, hr0⟩ := h
 exact Kd.N_ne ho hb ht
theorem IsS107.fresh {w0 W : World} {g : Nat} {f0 : List Int} {f1 : Int} {f2 : Int} (h : IsS107 w0 W g f0 f1 f2) : ∀ k, W.heap.size ≤ k → k ≠ g := by
 obtain ⟨A0, c0, hb, hg, hr0⟩ := h
 exact Kd.freshB hb
theorem IsS107.kept {w0 W : World} {g : Nat} {f0 : List Int} {f1 : Int} {f2 : Int} {W1 : World} {S : Nat → Prop} (h : IsS107 w0 W g f0 f1 f2) (hk : Kept W W1 S) (hne : ¬ S g) : IsS107 w0 W1 g f0 f1 f2 := by
 obtain ⟨A0, c0, hb, hg, hr0⟩ := h
 exact ⟨A0, c0, blk_kept hb hk hne, hg, hr0⟩
theorem IsS107.below {w0 W : World} {g : Nat} {f0 : List Int} {f1 : Int} {f2 : Int} {W1 : World} (h : IsS107 w0 W g f0 f1 f2) (hw : Below W.heap.size W W1) : IsS107 w0 W1 g f0 f1 f2 := h.grown (grown_of_below hw none) (by simp)
theorem IsS107.alloc {w0 W : World} {g : Nat} {f0 : List Int} {f1 : Int} {f2 : Int} (h : IsS107 w0 W g f0 f1 f2) (o : Obj) : IsS107 w0 (W.alloc o) g f0 f1 f2 := h.below (below_alloc (Below.refl _ _) o)
theorem IsS107.drewN {w0 W : World} {g : Nat} {f0 : List Int} {f1 : Int} {f2 : Int} (h : IsS107 w0 W g f0 f1 f2) (m : Nat) : IsS107 w0 (W.drewN m) g f0 f1 f2 := h
theorem IsS107.drew {w0 W : World} {g : Nat} {f0 : List Int} {f1 : Int} {f2 : Int} (h : IsS107 w0 W g f0 f1 f2) : IsS107 w0 W.drew g f0 f1 f2 := h
theorem IsS107.at_ {w0 W : World} {g : Nat} {f0 : List Int} {f1 : Int} {f2 : Int} {w' : World} {m : Nat} (hq : W.drewN m = w') (h : IsS107 w0 W g f0 f1 f2) : IsS107 w0 w' g f0 f1 f2 := by subst hq; exact IsS107.drewN h m
theorem IsS107.apart {w0 W : World} {g : Nat} {f0 : List Int} {f1 : Int} {f2 : Int} {α : Type} {d : Kd α} {e : Nat} {base : Nat} {ok : Nat → Prop} {v : Value} {xs : List α} (h : IsS107 w0 W g f0 f1 f2) (ho : d.R e W base ok v xs) (ht : ∀ q, q ∈ e :: d.E → q ≠ 107) : d.R e W base (fun k => ok k ∧ k ≠ g) v xs := by
 obtain ⟨A0, c0, hb, hg, hr0⟩ := h
 exact Kd.R_types ho hb ht
theorem IsS107.own_ne {w0 W : World} {g : Nat} {f0 : List Int} {f1 : Int} {f2 : Int} {α : Type} {d : Kd α} {e : Nat} {base : Nat} {ok : Nat → Prop} {v : Value} {xs : List α} (h : IsS107 w0 W g f0 f1 f2) (ho : d.R e W base ok v xs) (ht : e ≠ 107) : some g ≠ v.ownBlock := by
 obtain ⟨A0, c0, hb, hg, hr0⟩ := h
 exact Kd.R_ne ho hb ht
theorem IsS107.apartQ {w0 W : World} {g : Nat} {f0 : List Int} {f1 : Int} {f2 : Int} {α : Type} {d : Kd α} {e : Nat} {base : Nat} {ok : Nat → Prop} {v : Value} {xs : List α} (h : IsS107 w0 W g f0 f1 f2) (ho : d.Q e W base ok v xs) (ht : ∀ q, q ∈ e :: d.E → q ≠ 107) : d.Q e W base (fun k => ok k ∧ k ≠ g) v xs := by
 obtain ⟨A0, c0, hb, hg, hr0⟩ := h
 exact Kd.Q_types ho hb ht
theorem IsS107.own_neQ {w0 W : World} {g : Nat} {f0 : List Int} {f1 : Int} {f2 : Int} {α : Type} {d : Kd α} {e : Nat} {base : Nat} {ok : Nat → Prop} {v : Value} {xs : List α} (h : IsS107 w0 W g f0 f1 f2) (ho : d.Q e W base ok v xs) (ht : e ≠ 107) : some g ≠ v.ownBlock := by
 obtain ⟨A0, c0, hb, hg, hr0⟩ := h
 exact Kd.Q_ne ho hb ht
theorem IsS107.apartS {w0 W : World} {g : Nat} {f0 : List Int} {f1 : Int} {f2 : Int} {α : Type} {d : Kd α} {e : Nat} {base : Nat} {ok : Nat → Prop} {v : Value} {xs : List α} (h : IsS107 w0 W g f0 f1 f2) (ho : d.S e W base ok v xs) (ht : ∀ q, q ∈ e :: d.E → q ≠ 107) : d.S e W base (fun k => ok k ∧ k ≠ g) v xs := by
 obtain ⟨A0, c0, hb, hg, hr0⟩ := h
 exact Kd.S_types ho hb ht
theorem IsS107.own_neS {w0 W : World} {g : Nat} {f0 : List Int} {f1 : Int} {f2 : Int} {α : Type} {d : Kd α} {e : Nat} {base : Nat} {ok : Nat → Prop} {v : Value} {xs : List α} (h : IsS107 w0 W g f0 f1 f2) (ho : d.S e W base ok v xs) (ht : e ≠ 107) : some g ≠ v.ownBlock := by
 obtain ⟨A0, c0, hb, hg, hr0⟩ := h
 exact Kd.S_ne ho hb ht
theorem IsS107.lt {w0 W : World} {g : Nat} {f0 : List Int} {f1 : Int} {f2 : Int} (h : IsS107 w0 W g f0 f1 f2) : g < W.heap.size := by
 obtain ⟨A0, c0, hb, hg, hr0⟩ := h
 exact blk_lt hb
theorem IsS107.ge {w0 W : World} {g : Nat} {f0 : List Int} {f1 : Int} {f2 : Int} (h : IsS107 w0 W g f0 f1 f2) : w0.heap.size ≤ g := by
 obtain ⟨A0, c0, hb, hg, hr0⟩ := h
 exact hg
theorem IsS107.ne_blk {w0 W : World} {g : Nat} {f0 : List Int} {f1 : Int} {f2 : Int} {a : Nat} {cs : Array Value} {t : TypeId} {fr : Nat × Nat} (h : IsS107 w0 W g f0 f1 f2) (hb2 : W.heap[a]? = some (.cells cs t fr)) (ht : t ≠ 107) : g ≠ a := by
 obtain ⟨A0, c0, hb, hg, hr0⟩ := h
 rintro rfl
 rw [hb] at hb2
 injection hb2 with hb2
 injection hb2 with _ ht2
 exact ht ht2.symm
theorem IsS107.far {w0 W : World} {g : Nat} {f0 : List Int} {f1 : Int} {f2 : Int} {p : Addr} (h : IsS107 w0 W g f0 f1 f2) (hne : g ≠ p.block) (u : Value) : IsS107 w0 (W.setCell p u) g f0 f1 f2 := by
 obtain ⟨A0, c0, hb, hg, hr0⟩ := h
 exact ⟨A0, c0, blk_far hb hne u, hg, hr0⟩
theorem cellS107_0 {W : World} {g : Nat} {A0 : Option Addr} {c0 : Nat} {f0 : List Int} {f1 : Int} {f2 : Int} (h : W.heap[g]? = some (.cells #[.slice A0 f0.length c0, .int .i64 f1, .int .i64 f2] 107 (0, 0))) : W.cell? ⟨g, 0, none⟩ = some (.slice A0 f0.length c0) := (blk_cell h 0).trans rfl
theorem cellS107_1 {W : World} {g : Nat} {A0 : Option Addr} {c0 : Nat} {f0 : List Int} {f1 : Int} {f2 : Int} (h : W.heap[g]? = some (.cells #[.slice A0 f0.length c0, .int .i64 f1, .int .i64 f2] 107 (0, 0))) : W.cell? ⟨g, 1, none⟩ = some (.int .i64 f1) := (blk_cell h 1).trans rfl
theorem IsS107.set_1 {w0 W : World} {g : Nat} {f0 : List Int} {f1 : Int} {f2 : Int} (h : IsS107 w0 W g f0 f1 f2) (x : Int) : IsS107 w0 (W.setCell ⟨g, 1, none⟩ (.int .i64 x)) g f0 x f2 := by
 obtain ⟨A0, c0, hb, hg, hr0⟩ := h
 exact ⟨A0, c0, by simpa using blk_set hb 1 (.int .i64 x), hg, hr0⟩
theorem cellS107_2 {W : World} {g : Nat} {A0 : Option Addr} {c0 : Nat} {f0 : List Int} {f1 : Int} {f2 : Int} (h : W.heap[g]? = some (.cells #[.slice A0 f0.length c0, .int .i64 f1, .int .i64 f2] 107 (0, 0))) : W.cell? ⟨g, 2, none⟩ = some (.int .i64 f2) := (blk_cell h 2).trans rfl
theorem IsS107.set_2 {w0 W : World} {g : Nat} {f0 : List Int} {f1 : Int} {f2 : Int} (h : IsS107 w0 W g f0 f1 f2) (x : Int) : IsS107 w0 (W.setCell ⟨g, 2, none⟩ (.int .i64 x)) g f0 f1 x := by
 obtain ⟨A0, c0, hb, hg, hr0⟩ := h
 exact ⟨A0, c0, by simpa using blk_set hb 2 (.int .i64 x), hg, hr0⟩
theorem IsS107.new (w0 W : World) (A0 : Option Addr) (c0 : Nat) (f0 : List Int) (f1 : Int) (f2 : Int) (hB : Below w0.heap.size w0 W) (hr0 : Kd.C (Kd.int .u8) w0 A0 f0.length f0) : IsS107 w0 (W.alloc (.cells #[.slice A0 f0.length c0, .int .i64 f1, .int .i64 f2] 107)) W.heap.size f0 f1 f2 := ⟨A0, c0, by simpa using heap_alloc_new W _, hB.size, hr0⟩

/-! ### spec_l1New: function 57 -/
def spec_l1New.l0 : Nat → List Int → Int → Int → Option (List Int × Int × Int)
 | 0, _, _, _ => none
 | k + 1, x0, x3, x4 => if x4 < (x0.length : Int) then (if x4 < 4000 then (if 0 ≤ x4 then (spec_l1New.l0 k x0 (Go.bits .and .i64 (wrap64 ((wrap64 ((wrap64 (x3 * 131)) + (wrap64 (rd x0 x4)))) + 7)) 1073741823) (wrap64 (x4 + 1))) else (none)) else (some (x0, 0, x3))) else (some (x0, 0, x3))
def spec_l1New.f (k : Nat) (l0 : List Int) : Option (List Int × Int × Int) := spec_l1New.l0 k l0 (wrap64 (18554 + (l0.length : Int))) 0
set_option maxHeartbeats 8000000 in
set_option maxRecDepth 100000 in
theorem spec_l1New.calls (k : Nat) (A0 : Option Addr) (c0 : Nat) (l0 : List Int) (r1 : List Int) (r2 : Int) (r3 : Int) (w0 w : World) (hB : Below w0.heap.size w0 w) (hr0 : Kd.C (Kd.int .u8) w0 A0 l0.length l0) (hc0 : l0.length ≤ c0) (h : spec_l1New.f k l0 = some (r1, r2, r3)) :
  Calls Try.prog 57 #[.slice A0 l0.length c0] w fun e w' => ∃ g_ : Nat, e = .returned (.pointer (some ⟨g_, 0, none⟩)) ∧ IsS107 w0 w' g_ r1 r2 r3 ∧ Below w0.heap.size w0 w' ∧ Below w.heap.size w w' := by
 have hu107 := Try.underlying107
 have HR0 := Aside0.mk hr0
 have HC0 := Aside0.mk hc0
 clear hr0 hc0
 have HBW := Aside0.mk (Below.refl w.heap.size w)
 have HW0 := Aside0.mk hB.size
 have HB := Aside0.mk hB
 clear hB
 have H : (spec_l1New.l0 k l0 (wrap64 (18554 + (l0.length : Int))) 0) = some (r1, r2, r3) := h
 clear h
 have H' := Aside0.mk H
 clear H
 go_enter Try.func57, Try.ntmps57
 go_wp2
 go_loopg [3, 4] k (fun kq v3 v4 w' => ∃ (x3_1 : Int) (x4_1 : Int), v3 = .int .i64 x3_1 ∧ v4 = .int .i64 x4_1 ∧ Aside0 (spec_l1New.l0 kq l0 x3_1 x4_1 = some (r1, r2, r3)) ∧ Aside0 (kq ≤ k) ∧ Aside0 (Below w0.heap.size w0 w') ∧ Aside0 (Below w.heap.size w w'))
 case atStart => exact ⟨(wrap64 (18554 + (l0.length : Int))), (0), (by first | rfl | (simp; done) | (simp [*]; done)), (by first | rfl | (simp; done) | (simp [*]; done)), H', ⟨Nat.le_refl _⟩, ⟨bw HB.out⟩, ⟨bw HBW.out⟩⟩
 case round =>
  clear H'
  obtain ⟨x3_1, x4_1, rfl, rfl, HA, HK1, HB, HBW⟩ := hrel
  cases gk with
  | zero => exact absurd HA.out (by simp [spec_l1New.l0])
  | succ k1 =>
   have H := HA.out
   clear HA
   simp only [spec_l1New.l0] at H
   by_cases c2 : x4_1 < (l0.length : Int)
   ·rw [if_pos c2] at H
    have c2b0 : decide (x4_1 < (l0.length : Int)) = true := decide_eq_true c2
    clear c2
    by_cases c3 : x4_1 < 4000
    ·rw [if_pos c3] at H
     have c3b0 : decide (x4_1 < 4000) = true := decide_eq_true c3
     clear c3
     by_cases c4 : 0 ≤ x4_1
     ·rw [if_pos c4] at H
      have c4b0 : decide (0 ≤ x4_1) = true := decide_eq_true c4
      clear c4
      have H' := Aside0.mk H
      clear H
      have p127 : 0 ≤ (x4_1 : Int) := dt
      have q127 : x4_1 < (l0.length : Int) := dt
      obtain ⟨ad127, e127, hx127_0⟩ := Kd.at_int HR0.out x4_1 p127 q127
      cases e127
      replace hx127_0 := pw_cell_below HB.out hx127_0
      replace p127 := eq_true p127
      replace q127 := eq_true q127
      go_wp2
      go_roundg k1
      case measure => have := HK1.out; omega
      case rel => exact ⟨(Go.bits .and .i64 (wrap64 ((wrap64 ((wrap64 (x3_1 * 131)) + (wrap64 (rd l0 x4_1)))) + 7)) 1073741823), (wrap64 (x4_1 + 1)), (by first | rfl | (simp; done) | (simp [*]; done)), (by first | rfl | (simp; done) | (simp [*]; done)), H', ⟨by have := HK1.out; omega⟩, ⟨bw HB.out⟩, ⟨bw HBW.out⟩⟩
     ·rw [if_neg c4] at H
      exact absurd H (by simp)
    ·rw [if_neg c3] at H
     have c3b0 : decide (x4_1 < 4000) = false := decide_eq_false c3
     clear c3
     simp only [Option.some.injEq, Prod.mk.injEq] at H
     obtain ⟨rfl, rfl, rfl⟩ := H
     go_wp2_with (first | ((with_reducible refine gate_dst (N := 31) rfl ?_); refine bx (N := 31) (cs := #[.slice A0 l0.length c0, .int .i64 0, .int .i64 x3_1]) (t := 107) ?_; intro gb128 hg w5 hbox hb; have n0_ := Aside0.mk (below_step HBW.out hb); have n1_ := Aside0.mk (below_step (bw HB.out) hb); have n2_ := Aside0.mk (hbox); have n3_ := Aside0.mk ((gs hg (bw HBW.out))); have n4_ := Aside0.mk ((Nat.le_trans HW0.out (gs hg (bw HBW.out)) : w0.heap.size ≤ gb128)); clear HBW; clear HB; have HBW := n0_; have HB := n1_; have BK128 := n2_; have GW128 := n3_; have GE128 := n4_; clear n0_ n1_ n2_ n3_ n4_; clear hb hbox hg))
     go_ret
     exact ⟨_, rfl, (show IsS107 w0 _ gb128 l0 0 x3_1 from ⟨_, _, kb BK128.out, GE128.out, HR0.out⟩), bw HB.out, by repeat (first | (with_reducible first | exact HBW.out | apply below_alloc | apply pw_below_drewN | apply below_drew1 | refine below_set ?_ GW128.out) | exact HBW.out)⟩
   ·rw [if_neg c2] at H
    have c2b0 : decide (x4_1 < (l0.length : Int)) = false := decide_eq_false c2
    clear c2
    simp only [Option.some.injEq, Prod.mk.injEq] at H
    obtain ⟨rfl, rfl, rfl⟩ := H
    go_wp2_with (first | ((with_reducible refine gate_dst (N := 31) rfl ?_); refine bx (N := 31) (cs := #[.slice A0 l0.length c0, .int .i64 0, .int .i64 x3_1]) (t := 107) ?_; intro gb129 hg w6 hbox hb; have n0_ := Aside0.mk (below_step HBW.out hb); have n1_ := Aside0.mk (below_step (bw HB.out) hb); have n2_ := Aside0.mk (hbox); have n3_ := Aside0.mk ((gs hg (bw HBW.out))); have n4_ := Aside0.mk ((Nat.le_trans HW0.out (gs hg (bw HBW.out)) : w0.heap.size ≤ gb129)); clear HBW; clear HB; have HBW := n0_; have HB := n1_; have BK129 := n2_; have GW129 := n3_; have GE129 := n4_; clear n0_ n1_ n2_ n3_ n4_; clear hb hbox hg))
    go_ret
    exact ⟨_, rfl, (show IsS107 w0 _ gb129 l0 0 x3_1 from ⟨_, _, kb BK129.out, GE129.out, HR0.out⟩), bw HB.out, by repeat (first | (with_reducible first | exact HBW.out | apply below_alloc | apply pw_below_drewN | apply below_drew1 | refine below_set ?_ GW129.out) | exact HBW.out)⟩

/-! ### short_cur (mine) -/
theorem si {w0 W W' : World} {g : Nat} {f0 : List Int} {f1 f2 p1 p2 : Int} (h : IsS107 w0 W g f0 f1 f2) (f : IsS107 w0 W g f0 f1 f2 → IsS107 w0 W' g f0 p1 p2 := by intro h_; repeat (first | (with_reducible first | exact h_ | apply IsS107.alloc | apply IsS107.drewN | apply IsS107.drew | apply IsS107.set_1 | apply IsS107.set_2 | refine IsS107.far ?_ (Aside0.out (by assumption)) _) | exact h_)) : IsS107 w0 W' g f0 p1 p2 := f h
theorem bi {w W W' : World} (h : Below w.heap.size w W) (f : Below w.heap.size w W → Below w.heap.size w W' := by intro h_; repeat (first | (with_reducible first | exact h_ | apply below_alloc | apply pw_below_drewN | apply below_drew1 | refine below_set ?_ (IsS107.ge (Aside0.out (by assumption))) | refine below_set ?_ (Aside0.out (by assumption))) | exact h_)) : Below w.heap.size w W' := f h

/-! ### spec_l1Byte: function 102 -/
def spec_l1Byte.f (s0_0 : List Int) (s0_1 : Int) (s0_2 : Int) : Option (Int × Int × Int) := if s0_1 < (s0_0.length : Int) then (if 0 ≤ s0_1 then (some (Go.bits .and .i64 (wrap64 ((Go.bits .and .i64 (Go.bits .xor .i64 ((wrap64 ((wrap64 (s0_2 * 6364136223846793005)) + 1442695040888963407)) / 8589934592) ((wrap64 ((wrap64 (s0_2 * 6364136223846793005)) + 1442695040888963407)) / 35184372088832)) 255) + (wrap64 (rd s0_0 s0_1)))) 255, wrap64 (s0_1 + 1), wrap64 ((wrap64 (s0_2 * 6364136223846793005)) + 1442695040888963407))) else (none)) else (some (Go.bits .and .i64 (Go.bits .xor .i64 ((wrap64 ((wrap64 (s0_2 * 6364136223846793005)) + 1442695040888963407)) / 8589934592) ((wrap64 ((wrap64 (s0_2 * 6364136223846793005)) + 1442695040888963407)) / 35184372088832)) 255, s0_1, wrap64 ((wrap64 (s0_2 * 6364136223846793005)) + 1442695040888963407)))
set_option maxHeartbeats 8000000 in
set_option maxRecDepth 100000 in
theorem spec_l1Byte.calls (g : Nat) (s0_0 : List Int) (s0_1 : Int) (s0_2 : Int) (r1 : Int) (r2 : Int) (r3 : Int) (w0 w : World) (hI : IsS107 w0 w g s0_0 s0_1 s0_2) (hB : Below w0.heap.size w0 w) (h : spec_l1Byte.f s0_0 s0_1 s0_2 = some (r1, r2, r3)) :
  Calls Try.prog 102 #[.pointer (some ⟨g, 0, none⟩)] w fun e w' => e = .returned (.int .i64 r1) ∧ IsS107 w0 w' g s0_0 r2 r3 ∧ Below w0.heap.size w0 w' ∧ KeepBut w w' g none := by
 have HI0 := Aside0.mk hI
 have HK := Aside0.mk (KeepBut.refl w g none)
 have HL := Aside0.mk hB.size
 clear hI
 have HW0 := Aside0.mk hB.size
 have HB := Aside0.mk hB
 clear hB
 have H : (if s0_1 < (s0_0.length : Int) then (if 0 ≤ s0_1 then (some (Go.bits .and .i64 (wrap64 ((Go.bits .and .i64 (Go.bits .xor .i64 ((wrap64 ((wrap64 (s0_2 * 6364136223846793005)) + 1442695040888963407)) / 8589934592) ((wrap64 ((wrap64 (s0_2 * 6364136223846793005)) + 1442695040888963407)) / 35184372088832)) 255) + (wrap64 (rd s0_0 s0_1)))) 255, wrap64 (s0_1 + 1), wrap64 ((wrap64 (s0_2 * 6364136223846793005)) + 1442695040888963407))) else (none)) else (some (Go.bits .and .i64 (Go.bits .xor .i64 ((wrap64 ((wrap64 (s0_2 * 6364136223846793005)) + 1442695040888963407)) / 8589934592) ((wrap64 ((wrap64 (s0_2 * 6364136223846793005)) + 1442695040888963407)) / 35184372088832)) 255, s0_1, wrap64 ((wrap64 (s0_2 * 6364136223846793005)) + 1442695040888963407)))) = some (r1, r2, r3) := h
 clear h
 by_cases c2 : s0_1 < (s0_0.length : Int)
 ·rw [if_pos c2] at H
  have c2b0 : decide (s0_1 < (s0_0.length : Int)) = true := decide_eq_true c2
  clear c2
  by_cases c3 : 0 ≤ s0_1
  ·rw [if_pos c3] at H
   have c3b0 : decide (0 ≤ s0_1) = true := decide_eq_true c3
   clear c3
   simp only [Option.some.injEq, Prod.mk.injEq] at H
   obtain ⟨rfl, rfl, rfl⟩ := H
   obtain ⟨ASz4_0, cSz4_0, HGz4, hgz4, HSz4_0⟩ := HI0.out
   have hcz4_0 := cellS107_0 HGz4
   have hcz4_1 := cellS107_1 HGz4
   have hcz4_2 := cellS107_2 HGz4
   have hfz4_1 := blk_frozen HGz4 1
   have hfz4_2 := blk_frozen HGz4 2
   clear HGz4 hgz4
   have p130 : 0 ≤ (s0_1 : Int) := dt
   have q130 : s0_1 < (s0_0.length : Int) := dt
   obtain ⟨ad130, e130, hx130_0⟩ := Kd.at_int HSz4_0 s0_1 p130 q130
   cases e130
   have hn130_0 : ad130.block ≠ g := Nat.ne_of_lt (Nat.lt_of_lt_of_le (by have := World.block_lt_of_cell? _ _ hx130_0; first | rwa [add_block] at this | exact this) (IsS107.ge HI0.out))
   replace hx130_0 := pw_cell_below HB.out hx130_0
   replace hx130_0 := (cell_far (p := ⟨g, 2, none⟩) (by first | (rw [add_block]; exact hn130_0) | (show (Addr.add _ _).block ≠ _; rw [add_block]; exact hn130_0) | exact hn130_0) (.int .i64 (wrap64 ((wrap64 (s0_2 * 6364136223846793005)) + 1442695040888963407)))).trans hx130_0
   (try have hy130_0 := fun (n_ : Nat) => (show (((w.drewN n_).setCell ⟨g, 2, none⟩ (.int .i64 (wrap64 ((wrap64 (s0_2 * 6364136223846793005)) + 1442695040888963407))))).cell? _ = some _ from hx130_0))
   clear hn130_0
   replace p130 := eq_true p130
   replace q130 := eq_true q130
   go_enter Try.func102, Try.ntmps102
   go_wp2
   repeat (go_quiet (fail); try go_wp2)
   go_ret
   exact ⟨rt, si HI0.out, bi HB.out, kp HK.out⟩
  ·rw [if_neg c3] at H
   exact absurd H (by simp)
 ·rw [if_neg c2] at H
  have c2b0 : decide (s0_1 < (s0_0.length : Int)) = false := decide_eq_false c2
  clear c2
  simp only [Option.some.injEq, Prod.mk.injEq] at H
  obtain ⟨rfl, rfl, rfl⟩ := H
  obtain ⟨ASz5_0, cSz5_0, HGz5, hgz5, HSz5_0⟩ := HI0.out
  have hcz5_0 := cellS107_0 HGz5
  have hcz5_1 := cellS107_1 HGz5
  have hcz5_2 := cellS107_2 HGz5
  have hfz5_1 := blk_frozen HGz5 1
  have hfz5_2 := blk_frozen HGz5 2
  clear HGz5 hgz5
  go_enter Try.func102, Try.ntmps102
  go_wp2
  repeat (go_quiet (fail); try go_wp2)
  go_ret
  exact ⟨rt, si HI0.out, bi HB.out, kp HK.out⟩

/-! ### spec_l1Below: function 60 -/
def spec_l1Below.f (s0_0 : List Int) (s0_1 : Int) (s0_2 : Int) (a1 : Int) : Option (Int × Int × Int) := if a1 ≤ 0 then (some (0, s0_1, s0_2)) else (if a1 ≤ 256 then ((spec_l1Byte.f s0_0 s0_1 s0_2).bind fun bt131 => (if a1 = 0 then (none) else (some (Int.tmod bt131.1 a1, bt131.2.1, bt131.2.2)))) else ((spec_l1Byte.f s0_0 s0_1 s0_2).bind fun bt134 => ((spec_l1Byte.f s0_0 bt134.2.1 bt134.2.2).bind fun bt137 => ((spec_l1Byte.f s0_0 bt137.2.1 bt137.2.2).bind fun bt140 => ((spec_l1Byte.f s0_0 bt140.2.1 bt140.2.2).bind fun bt143 => (if a1 = 0 then (none) else (some (Int.tmod (wrap64 ((wrap64 ((wrap64 ((wrap64 (bt134.1 * 16777216)) + (wrap64 (bt137.1 * 65536)))) + (wrap64 (bt140.1 * 256)))) + bt143.1)) a1, bt143.2.1, bt143.2.2))))))))
set_option maxHeartbeats 8000000 in
set_option maxRecDepth 100000 in
theorem spec_l1Below.calls (g : Nat) (s0_0 : List Int) (s0_1 : Int) (s0_2 : Int) (a1 : Int) (r1 : Int) (r2 : Int) (r3 : Int) (w0 w : World) (hI : IsS107 w0 w g s0_0 s0_1 s0_2) (hB : Below w0.heap.size w0 w) (h : spec_l1Below.f s0_0 s0_1 s0_2 a1 = some (r1, r2, r3)) :
  Calls Try.prog 60 #[.pointer (some ⟨g, 0, none⟩), .int .i64 a1] w fun e w' => e = .returned (.int .i64 r1) ∧ IsS107 w0 w' g s0_0 r2 r3 ∧ Below w0.heap.size w0 w' ∧ KeepBut w w' g none := by
 have HI0 := Aside0.mk hI
 have HK := Aside0.mk (KeepBut.refl w g none)
 have HL := Aside0.mk hB.size
 clear hI
 have HW0 := Aside0.mk hB.size
 have HB := Aside0.mk hB
 clear hB
 have H : (if a1 ≤ 0 then (some (0, s0_1, s0_2)) else (if a1 ≤ 256 then ((spec_l1Byte.f s0_0 s0_1 s0_2).bind fun bt131 => (if a1 = 0 then (none) else (some (Int.tmod bt131.1 a1, bt131.2.1, bt131.2.2)))) else ((spec_l1Byte.f s0_0 s0_1 s0_2).bind fun bt134 => ((spec_l1Byte.f s0_0 bt134.2.1 bt134.2.2).bind fun bt137 => ((spec_l1Byte.f s0_0 bt137.2.1 bt137.2.2).bind fun bt140 => ((spec_l1Byte.f s0_0 bt140.2.1 bt140.2.2).bind fun bt143 => (if a1 = 0 then (none) else (some (Int.tmod (wrap64 ((wrap64 ((wrap64 ((wrap64 (bt134.1 * 16777216)) + (wrap64 (bt137.1 * 65536)))) + (wrap64 (bt140.1 * 256)))) + bt143.1)) a1, bt143.2.1, bt143.2.2))))))))) = some (r1, r2, r3) := h
 clear h
 by_cases c3 : a1 ≤ 0
 ·rw [if_pos c3] at H
  have c3b0 : decide (a1 ≤ 0) = true := decide_eq_true c3
  clear c3
  simp only [Option.some.injEq, Prod.mk.injEq] at H
  obtain ⟨rfl, rfl, rfl⟩ := H
  go_enter Try.func60, Try.ntmps60
  go_wp2
  go_ret
  exact ⟨rt, si HI0.out, bi HB.out, kp HK.out⟩
 ·rw [if_neg c3] at H
  have c3b0 : decide (a1 ≤ 0) = false := decide_eq_false c3
  clear c3
  by_cases c4 : a1 ≤ 256
  ·rw [if_pos c4] at H
   have c4b0 : decide (a1 ≤ 256) = true := decide_eq_true c4
   clear c4
   replace H := Option.bind_eq_some_iff.mp H
   obtain ⟨⟨t131, t132, t133⟩, A50, H⟩ := H
   replace H : (if a1 = 0 then (none) else (some (Int.tmod t131 a1, t132, t133))) = some (r1, r2, r3) := H
   have A5 := Aside0.mk A50
   clear A50
   by_cases c6 : a1 = 0
   ·rw [if_pos c6] at H
    exact absurd H (by simp)
   ·rw [if_neg c6] at H
    have c6b0 : (a1 == 0) = false := beq_eq_false_iff_ne.mpr c6
    have c6b1 : (a1 != 0) = true := bne_iff_ne.mpr c6
    simp only [Option.some.injEq, Prod.mk.injEq] at H
    obtain ⟨rfl, rfl, rfl⟩ := H
    go_enter Try.func60, Try.ntmps60
    go_wp2_with (first | ((with_reducible refine gate_callee (f := 102) rfl ?_); refine goesM_ (some 14) rfl rfl Try.func102 #[.pointer (some ⟨g, 0, none⟩)] ?_; (with_reducible refine (spec_l1Byte.calls g s0_0 s0_1 s0_2 t131 t132 t133 w0 _ ?side1 ?side2 A5.out).mono ?_); (case side1 => exact si HI0.out); (case side2 => exact bi HB.out); rintro e w7 ⟨rfl, hi, hb, hk⟩; refine ⟨_, rfl, ?_⟩; have n0_ := Aside0.mk (KeepBut.trans (kp HK.out) hk (.inl rfl)); have n1_ := Aside0.mk (hb); have n2_ := Aside0.mk (hi); clear HK; clear HB; clear HI0; have HK := n0_; have HB := n1_; have HI0 := n2_; clear n0_ n1_ n2_; (try clear hb); (try clear hb2); (try clear hk); (try clear hi)))
    go_ret
    exact ⟨rt, si HI0.out, bi HB.out, kp HK.out⟩
  ·rw [if_neg c4] at H
   have c4b0 : decide (a1 ≤ 256) = false := decide_eq_false c4
   clear c4
   replace H := Option.bind_eq_some_iff.mp H
   obtain ⟨⟨t134, t135, t136⟩, A80, H⟩ := H
   replace H : ((spec_l1Byte.f s0_0 t135 t136).bind fun bt137 => ((spec_l1Byte.f s0_0 bt137.2.1 bt137.2.2).bind fun bt140 => ((spec_l1Byte.f s0_0 bt140.2.1 bt140.2.2).bind fun bt143 => (if a1 = 0 then (none) else (some (Int.tmod (wrap64 ((wrap64 ((wrap64 ((wrap64 (t134 * 16777216)) + (wrap64 (bt137.1 * 65536)))) + (wrap64 (bt140.1 * 256)))) + bt143.1)) a1, bt143.2.1, bt143.2.2)))))) = some (r1, r2, r3) := H
   have A8 := Aside0.mk A80
   clear A80
   replace H := Option.bind_eq_some_iff.mp H
   obtain ⟨⟨t137, t138, t139⟩, A90, H⟩ := H
   replace H : ((spec_l1Byte.f s0_0 t138 t139).bind fun bt140 => ((spec_l1Byte.f s0_0 bt140.2.1 bt140.2.2).bind fun bt143 => (if a1 = 0 then (none) else (some (Int.tmod (wrap64 ((wrap64 ((wrap64 ((wrap64 (t134 * 16777216)) + (wrap64 (t137 * 65536)))) + (wrap64 (bt140.1 * 256)))) + bt143.1)) a1, bt143.2.1, bt143.2.2))))) = some (r1, r2, r3) := H
   have A9 := Aside0.mk A90
   clear A90
   replace H := Option.bind_eq_some_iff.mp H
   obtain ⟨⟨t140, t141, t142⟩, A100, H⟩ := H
   replace H : ((spec_l1Byte.f s0_0 t141 t142).bind fun bt143 => (if a1 = 0 then (none) else (some (Int.tmod (wrap64 ((wrap64 ((wrap64 ((wrap64 (t134 * 16777216)) + (wrap64 (t137 * 65536)))) + (wrap64 (t140 * 256)))) + bt143.1)) a1, bt143.2.1, bt143.2.2)))) = some (r1, r2, r3) := H
   have A10 := Aside0.mk A100
   clear A100
   replace H := Option.bind_eq_some_iff.mp H
   obtain ⟨⟨t143, t144, t145⟩, A110, H⟩ := H
   replace H : (if a1 = 0 then (none) else (some (Int.tmod (wrap64 ((wrap64 ((wrap64 ((wrap64 (t134 * 16777216)) + (wrap64 (t137 * 65536)))) + (wrap64 (t140 * 256)))) + t143)) a1, t144, t145))) = some (r1, r2, r3) := H
   have A11 := Aside0.mk A110
   clear A110
   by_cases c12 : a1 = 0
   ·rw [if_pos c12] at H
    exact absurd H (by simp)
   ·rw [if_neg c12] at H
    have c12b0 : (a1 == 0) = false := beq_eq_false_iff_ne.mpr c12
    have c12b1 : (a1 != 0) = true := bne_iff_ne.mpr c12
    simp only [Option.some.injEq, Prod.mk.injEq] at H
    obtain ⟨rfl, rfl, rfl⟩ := H
    go_enter Try.func60, Try.ntmps60
    go_wp2_with (first | ((with_reducible refine gate_callee (f := 102) rfl ?_); refine goesM_ (some 18) rfl rfl Try.func102 #[.pointer (some ⟨g, 0, none⟩)] ?_; (with_reducible refine (spec_l1Byte.calls g s0_0 s0_1 s0_2 t134 t135 t136 w0 _ ?side1 ?side2 A8.out).mono ?_); (case side1 => exact si HI0.out); (case side2 => exact bi HB.out); rintro e w13 ⟨rfl, hi, hb, hk⟩; refine ⟨_, rfl, ?_⟩; have n0_ := Aside0.mk (KeepBut.trans (kp HK.out) hk (.inl rfl)); have n1_ := Aside0.mk (hb); have n2_ := Aside0.mk (hi); clear HK; clear HB; clear HI0; have HK := n0_; have HB := n1_; have HI0 := n2_; clear n0_ n1_ n2_; (try clear hb); (try clear hb2); (try clear hk); (try clear hi)) | ((with_reducible refine gate_callee (f := 102) rfl ?_); refine goesM_ (some 20) rfl rfl Try.func102 #[.pointer (some ⟨g, 0, none⟩)] ?_; (with_reducible refine (spec_l1Byte.calls g s0_0 t135 t136 t137 t138 t139 w0 _ ?side1 ?side2 A9.out).mono ?_); (case side1 => exact si HI0.out); (case side2 => exact bi HB.out); rintro e w14 ⟨rfl, hi, hb, hk⟩; refine ⟨_, rfl, ?_⟩; have n0_ := Aside0.mk (KeepBut.trans (kp HK.out) hk (.inl rfl)); have n1_ := Aside0.mk (hb); have n2_ := Aside0.mk (hi); clear HK; clear HB; clear HI0; have HK := n0_; have HB := n1_; have HI0 := n2_; clear n0_ n1_ n2_; (try clear hb); (try clear hb2); (try clear hk); (try clear hi)) | ((with_reducible refine gate_callee (f := 102) rfl ?_); refine goesM_ (some 22) rfl rfl Try.func102 #[.pointer (some ⟨g, 0, none⟩)] ?_; (with_reducible refine (spec_l1Byte.calls g s0_0 t138 t139 t140 t141 t142 w0 _ ?side1 ?side2 A10.out).mono ?_); (case side1 => exact si HI0.out); (case side2 => exact bi HB.out); rintro e w15 ⟨rfl, hi, hb, hk⟩; refine ⟨_, rfl, ?_⟩; have n0_ := Aside0.mk (KeepBut.trans (kp HK.out) hk (.inl rfl)); have n1_ := Aside0.mk (hb); have n2_ := Aside0.mk (hi); clear HK; clear HB; clear HI0; have HK := n0_; have HB := n1_; have HI0 := n2_; clear n0_ n1_ n2_; (try clear hb); (try clear hb2); (try clear hk); (try clear hi)) | ((with_reducible refine gate_callee (f := 102) rfl ?_); refine goesM_ (some 24) rfl rfl Try.func102 #[.pointer (some ⟨g, 0, none⟩)] ?_; (with_reducible refine (spec_l1Byte.calls g s0_0 t141 t142 t143 t144 t145 w0 _ ?side1 ?side2 A11.out).mono ?_); (case side1 => exact si HI0.out); (case side2 => exact bi HB.out); rintro e w16 ⟨rfl, hi, hb, hk⟩; refine ⟨_, rfl, ?_⟩; have n0_ := Aside0.mk (KeepBut.trans (kp HK.out) hk (.inl rfl)); have n1_ := Aside0.mk (hb); have n2_ := Aside0.mk (hi); clear HK; clear HB; clear HI0; have HK := n0_; have HB := n1_; have HI0 := n2_; clear n0_ n1_ n2_; (try clear hb); (try clear hb2); (try clear hk); (try clear hi)))
    go_ret
    exact ⟨rt, si HI0.out, bi HB.out, kp HK.out⟩

/-! ### spec_l1Once: function 58 -/
def spec_l1Once.f (s0_0 : List Int) (s0_1 : Int) (s0_2 : Int) (a1 : Int) : Option (Bool × Int × Int) := (spec_l1Below.f s0_0 s0_1 s0_2 a1).bind fun bt146 => (some ((bt146.1 == 0), bt146.2.1, bt146.2.2))
set_option maxHeartbeats 8000000 in
set_option maxRecDepth 100000 in
theorem spec_l1Once.calls (g : Nat) (s0_0 : List Int) (s0_1 : Int) (s0_2 : Int) (a1 : Int) (r1 : Bool) (r2 : Int) (r3 : Int) (w0 w : World) (hI : IsS107 w0 w g s0_0 s0_1 s0_2) (hB : Below w0.heap.size w0 w) (h : spec_l1Once.f s0_0 s0_1 s0_2 a1 = some (r1, r2, r3)) :
  Calls Try.prog 58 #[.pointer (some ⟨g, 0, none⟩), .int .i64 a1] w fun e w' => e = .returned (.bool r1) ∧ IsS107 w0 w' g s0_0 r2 r3 ∧ Below w0.heap.size w0 w' ∧ KeepBut w w' g none := by
 have HI0 := Aside0.mk hI
 have HK := Aside0.mk (KeepBut.refl w g none)
 have HL := Aside0.mk hB.size
 clear hI
 have HW0 := Aside0.mk hB.size
 have HB := Aside0.mk hB
 clear hB
 have H : ((spec_l1Below.f s0_0 s0_1 s0_2 a1).bind fun bt146 => (some ((bt146.1 == 0), bt146.2.1, bt146.2.2))) = some (r1, r2, r3) := h
 clear h
 replace H := Option.bind_eq_some_iff.mp H
 obtain ⟨⟨t146, t147, t148⟩, A30, H⟩ := H
 replace H : (some ((t146 == 0), t147, t148)) = some (r1, r2, r3) := H
 have A3 := Aside0.mk A30
 clear A30
 simp only [Option.some.injEq, Prod.mk.injEq] at H
 obtain ⟨rfl, rfl, rfl⟩ := H
 go_enter Try.func58, Try.ntmps58
 go_wp2_with (first | ((with_reducible refine gate_callee (f := 60) rfl ?_); refine goesM_ (some 7) rfl rfl Try.func60 #[.pointer (some ⟨g, 0, none⟩), .int .i64 a1] ?_; (with_reducible refine (spec_l1Below.calls g s0_0 s0_1 s0_2 a1 t146 t147 t148 w0 _ ?side1 ?side2 A3.out).mono ?_); (case side1 => exact si HI0.out); (case side2 => exact bi HB.out); rintro e w4 ⟨rfl, hi, hb, hk⟩; refine ⟨_, rfl, ?_⟩; have n0_ := Aside0.mk (KeepBut.trans (kp HK.out) hk (.inl rfl)); have n1_ := Aside0.mk (hb); have n2_ := Aside0.mk (hi); clear HK; clear HB; clear HI0; have HK := n0_; have HB := n1_; have HI0 := n2_; clear n0_ n1_ n2_; (try clear hb); (try clear hb2); (try clear hk); (try clear hi)))
 go_ret
 exact ⟨rt, si HI0.out, bi HB.out, kp HK.out⟩

/-! ### spec_l1PickInt: function 70 -/
def spec_l1PickInt.f (s0_0 : List Int) (s0_1 : Int) (s0_2 : Int) (l1 : List Int) : Option (Int × Int × Int) := (spec_l1Below.f s0_0 s0_1 s0_2 (l1.length : Int)).bind fun bt149 => (if 0 ≤ bt149.1 then (if bt149.1 < (l1.length : Int) then (some (rd l1 bt149.1, bt149.2.1, bt149.2.2)) else (none)) else (none))
set_option maxHeartbeats 8000000 in
set_option maxRecDepth 100000 in
theorem spec_l1PickInt.calls (g : Nat) (s0_0 : List Int) (s0_1 : Int) (s0_2 : Int) (A1 : Option Addr) (c1 : Nat) (l1 : List Int) (r1 : Int) (r2 : Int) (r3 : Int) (w0 w : World) (hI : IsS107 w0 w g s0_0 s0_1 s0_2) (hB : Below w0.heap.size w0 w) (hr1 : Kd.C (Kd.int .i64) w A1 l1.length l1) (hc1 : l1.length ≤ c1) (hf1 : ∀ ad, A1 = some ad → 0 < l1.length → ad.block ≠ g) (h : spec_l1PickInt.f s0_0 s0_1 s0_2 l1 = some (r1, r2, r3)) :
  Calls Try.prog 70 #[.pointer (some ⟨g, 0, none⟩), .slice A1 l1.length c1] w fun e w' => e = .returned (.int .i64 r1) ∧ IsS107 w0 w' g s0_0 r2 r3 ∧ Below w0.heap.size w0 w' ∧ KeepBut w w' g none := by
 have HR1 := Aside0.mk hr1
 have HC1 := Aside0.mk hc1
 clear hr1 hc1
 have HI0 := Aside0.mk hI
 have HK := Aside0.mk (KeepBut.refl w g none)
 have HL := Aside0.mk hB.size
 clear hI
 have HW0 := Aside0.mk hB.size
 have HB := Aside0.mk hB
 clear hB
 have H : ((spec_l1Below.f s0_0 s0_1 s0_2 (l1.length : Int)).bind fun bt149 => (if 0 ≤ bt149.1 then (if bt149.1 < (l1.length : Int) then (some (rd l1 bt149.1, bt149.2.1, bt149.2.2)) else (none)) else (none))) = some (r1, r2, r3) := h
 clear h
 replace H := Option.bind_eq_some_iff.mp H
 obtain ⟨⟨t149, t150, t151⟩, A30, H⟩ := H
 replace H : (if 0 ≤ t149 then (if t149 < (l1.length : Int) then (some (rd l1 t149, t150, t151)) else (none)) else (none)) = some (r1, r2, r3) := H
 have A3 := Aside0.mk A30
 clear A30
 by_cases c4 : 0 ≤ t149
 ·rw [if_pos c4] at H
  have c4b0 : decide (0 ≤ t149) = true := decide_eq_true c4
  clear c4
  by_cases c5 : t149 < (l1.length : Int)
  ·rw [if_pos c5] at H
   have c5b0 : decide (t149 < (l1.length : Int)) = true := decide_eq_true c5
   clear c5
   simp only [Option.some.injEq, Prod.mk.injEq] at H
   obtain ⟨rfl, rfl, rfl⟩ := H
   go_enter Try.func70, Try.ntmps70
   go_wp2_with (first | ((with_reducible refine gate_callee (f := 60) rfl ?_); refine goesM_ (some 9) rfl rfl Try.func60 #[.pointer (some ⟨g, 0, none⟩), .int .i64 (l1.length : Int)] ?_; (with_reducible refine (spec_l1Below.calls g s0_0 s0_1 s0_2 (l1.length : Int) t149 t150 t151 w0 _ ?side1 ?side2 A3.out).mono ?_); (case side1 => exact si HI0.out); (case side2 => exact bi HB.out); rintro e w6 ⟨rfl, hi, hb, hk⟩; refine ⟨_, rfl, ?_⟩; have n0_ := Aside0.mk (KeepBut.trans (kp HK.out) hk (.inl rfl)); have n1_ := Aside0.mk (hb); have n2_ := Aside0.mk (hi); clear HK; clear HB; clear HI0; have HK := n0_; have HB := n1_; have HI0 := n2_; clear n0_ n1_ n2_; (try clear hb); (try clear hb2); (try clear hk); (try clear hi); have p152 : 0 ≤ (t149 : Int) := dt; have q152 : t149 < (l1.length : Int) := dt; obtain ⟨ad152, e152, hx152_0⟩ := Kd.at_int HR1.out t149 p152 q152; cases e152; replace hx152_0 := keep_cell HK.out hx152_0 (by first | (rw [add_block]; exact hf1 _ rfl (by omega)) | exact hf1 _ rfl (by omega) | exact hf1 ad152 rfl (by omega)); replace p152 := eq_true p152; replace q152 := eq_true q152))
   go_ret
   exact ⟨rt, si HI0.out, bi HB.out, kp HK.out⟩
  ·rw [if_neg c5] at H
   exact absurd H (by simp)
 ·rw [if_neg c4] at H
  exact absurd H (by simp)

/-! ### spec_l6DrawAddr: function 59 -/
def spec_l6DrawAddr.f (s0_0 : List Int) (s0_1 : Int) (s0_2 : Int) : Option (Int × Int × Int) := (spec_l1PickInt.f s0_0 s0_1 s0_2 (([0, 1, 255, 256, 511, 512, 8191, 8192, 8194, 8199, 16383, 16384, 16387, 16388, 16406, 20000, 32767, 32768, 33000, 49151, 49152, 49200, 65530, 65535, 65536, (-1)] : List Int))).bind fun bt156 => (some (bt156.1, bt156.2.1, bt156.2.2))
set_option maxHeartbeats 8000000 in
set_option maxRecDepth 100000 in
theorem spec_l6DrawAddr.calls (g : Nat) (s0_0 : List Int) (s0_1 : Int) (s0_2 : Int) (r1 : Int) (r2 : Int) (r3 : Int) (w0 w : World) (hI : IsS107 w0 w g s0_0 s0_1 s0_2) (hB : Below w0.heap.size w0 w) (h : spec_l6DrawAddr.f s0_0 s0_1 s0_2 = some (r1, r2, r3)) :
  Calls Try.prog 59 #[.pointer (some ⟨g, 0, none⟩)] w fun e w' => e = .returned (.int .i64 r1) ∧ IsS107 w0 w' g s0_0 r2 r3 ∧ Below w0.heap.size w0 w' ∧ KeepBut w w' g none := by
 have HI0 := Aside0.mk hI
 have HK := Aside0.mk (KeepBut.refl w g none)
 have HL := Aside0.mk hB.size
 clear hI
 have HW0 := Aside0.mk hB.size
 have HB := Aside0.mk hB
 clear hB
 have H : ((spec_l1PickInt.f s0_0 s0_1 s0_2 (([0, 1, 255, 256, 511, 512, 8191, 8192, 8194, 8199, 16383, 16384, 16387, 16388, 16406, 20000, 32767, 32768, 33000, 49151, 49152, 49200, 65530, 65535, 65536, (-1)] : List Int))).bind fun bt156 => (some (bt156.1, bt156.2.1, bt156.2.2))) = some (r1, r2, r3) := h
 clear h
 obtain ⟨y153, hy153⟩ : ∃ y_ : List Int, y_ = (([0, 1, 255, 256, 511, 512, 8191, 8192, 8194, 8199, 16383, 16384, 16387, 16388, 16406, 20000, 32767, 32768, 33000, 49151, 49152, 49200, 65530, 65535, 65536, (-1)] : List Int)) := ⟨_, rfl⟩
 replace H : ((spec_l1PickInt.f s0_0 s0_1 s0_2 y153).bind fun bt156 => (some (bt156.1, bt156.2.1, bt156.2.2))) = some (r1, r2, r3) := by first | (rw [hy153]; with_reducible exact H) | (have H2_ := (Option.bind_some _ _).symm.trans H; rw [hy153]; with_reducible exact H2_) | (have H2_ := (Option.bind_some _ _).symm.trans H; with_reducible exact H2_) | with_reducible exact H | (rw [hy153]; exact H) | exact H
 have Ny153 := Aside0.mk hy153
 clear hy153
 replace H := Option.bind_eq_some_iff.mp H
 obtain ⟨⟨t156, t157, t158⟩, A20, H⟩ := H
 replace H : (some (t156, t157, t158)) = some (r1, r2, r3) := H
 have A2 := Aside0.mk A20
 clear A20
 simp only [Option.some.injEq, Prod.mk.injEq] at H
 obtain ⟨rfl, rfl, rfl⟩ := H
 go_enter Try.func59, Try.ntmps59
 go_wp2_with (first | ((with_reducible refine gate_dst (N := 4) rfl ?_); refine Kd.R_lit (Kd.int .i64) _ 3 ?hg (N := 4) ?hd (xs := ([0, 1, 255, 256, 511, 512, 8191, 8192, 8194, 8199, 16383, 16384, 16387, 16388, 16406, 20000, 32767, 32768, 33000, 49151, 49152, 49200, 65530, 65535, 65536, (-1)] : List Int)) (inner := [.int .i64 0, .int .i64 1, .int .i64 255, .int .i64 256, .int .i64 511, .int .i64 512, .int .i64 8191, .int .i64 8192, .int .i64 8194, .int .i64 8199, .int .i64 16383, .int .i64 16384, .int .i64 16387, .int .i64 16388, .int .i64 16406, .int .i64 20000, .int .i64 32767, .int .i64 32768, .int .i64 33000, .int .i64 49151, .int .i64 49152, .int .i64 49200, .int .i64 65530, .int .i64 65535, .int .i64 65536, .int .i64 (-1)]) (ok := fun _ => True) (okp := fun _ => True) ?hr ?hp (fun _ hk => hk) trivial (Below.refl _ _) (Nat.le_refl _) (by simp) ?_; (case hd => rfl); (case hg => rfl); (case hr => first | (go_simp; done) | (go_simp; rfl)); (case hp => exact (Reps.one (show Kd.M (Kd.int .i64) _ _ _ 0 [.int .i64 0] from rfl) (Reps.one (show Kd.M (Kd.int .i64) _ _ _ 1 [.int .i64 1] from rfl) (Reps.one (show Kd.M (Kd.int .i64) _ _ _ 255 [.int .i64 255] from rfl) (Reps.one (show Kd.M (Kd.int .i64) _ _ _ 256 [.int .i64 256] from rfl) (Reps.one (show Kd.M (Kd.int .i64) _ _ _ 511 [.int .i64 511] from rfl) (Reps.one (show Kd.M (Kd.int .i64) _ _ _ 512 [.int .i64 512] from rfl) (Reps.one (show Kd.M (Kd.int .i64) _ _ _ 8191 [.int .i64 8191] from rfl) (Reps.one (show Kd.M (Kd.int .i64) _ _ _ 8192 [.int .i64 8192] from rfl) (Reps.one (show Kd.M (Kd.int .i64) _ _ _ 8194 [.int .i64 8194] from rfl) (Reps.one (show Kd.M (Kd.int .i64) _ _ _ 8199 [.int .i64 8199] from rfl) (Reps.one (show Kd.M (Kd.int .i64) _ _ _ 16383 [.int .i64 16383] from rfl) (Reps.one (show Kd.M (Kd.int .i64) _ _ _ 16384 [.int .i64 16384] from rfl) (Reps.one (show Kd.M (Kd.int .i64) _ _ _ 16387 [.int .i64 16387] from rfl) (Reps.one (show Kd.M (Kd.int .i64) _ _ _ 16388 [.int .i64 16388] from rfl) (Reps.one (show Kd.M (Kd.int .i64) _ _ _ 16406 [.int .i64 16406] from rfl) (Reps.one (show Kd.M (Kd.int .i64) _ _ _ 20000 [.int .i64 20000] from rfl) (Reps.one (show Kd.M (Kd.int .i64) _ _ _ 32767 [.int .i64 32767] from rfl) (Reps.one (show Kd.M (Kd.int .i64) _ _ _ 32768 [.int .i64 32768] from rfl) (Reps.one (show Kd.M (Kd.int .i64) _ _ _ 33000 [.int .i64 33000] from rfl) (Reps.one (show Kd.M (Kd.int .i64) _ _ _ 49151 [.int .i64 49151] from rfl) (Reps.one (show Kd.M (Kd.int .i64) _ _ _ 49152 [.int .i64 49152] from rfl) (Reps.one (show Kd.M (Kd.int .i64) _ _ _ 49200 [.int .i64 49200] from rfl) (Reps.one (show Kd.M (Kd.int .i64) _ _ _ 65530 [.int .i64 65530] from rfl) (Reps.one (show Kd.M (Kd.int .i64) _ _ _ 65535 [.int .i64 65535] from rfl) (Reps.one (show Kd.M (Kd.int .i64) _ _ _ 65536 [.int .i64 65536] from rfl) (Reps.one (show Kd.M (Kd.int .i64) _ _ _ (-1) [.int .i64 (-1)] from rfl) (Reps.none _ _)))))))))))))))))))))))))))); intro v154 w3 ho4 hb hg_ hnew_; clear hg_ hnew_; (first | rw [← Ny153.out] at ho4 | (simp only [Int.reduceToNat] at ho4; rw [← Ny153.out] at ho4)); have n0_ := Aside0.mk (Kd.R_lower ho4 (keep_size (w := w) (g := g) (row := none) (kp HK.out))); have n1_ := Aside0.mk (IsS107.below (si HI0.out) hb); have n2_ := Aside0.mk (KeepBut.trans (kp HK.out) (KeepBut.of_below hb g none) (.inl rfl)); have n3_ := Aside0.mk (below_step (bi HB.out) hb); clear HI0; clear HK; clear HB; have HO155 := n0_; have HI0 := n1_; have HK := n2_; have HB := n3_; clear n0_ n1_ n2_ n3_; clear hb ho4; obtain ⟨Ao5, co5, eo5⟩ := Kd.R_slice HO155.out; subst eo5) | ((with_reducible refine gate_callee (f := 70) rfl ?_); refine goesM_ (some 5) rfl rfl Try.func70 #[.pointer (some ⟨g, 0, none⟩), .slice Ao5 y153.length co5] ?_; (with_reducible refine (spec_l1PickInt.calls g s0_0 s0_1 s0_2 _ _ y153 t156 t157 t158 w0 _ ?side1 ?side2 ?side3 ?side4 ?side5 A2.out).mono ?_); (case side1 => exact si HI0.out); (case side2 => exact bi HB.out); (case side3 => exact kc (Kd.R_reads' HO155.out).2.2); (case side4 => exact (Kd.R_reads' HO155.out).2.1); (case side5 => exact far_slice (IsS107.own_ne HI0.out HO155.out (by decide))); rintro e w6 ⟨rfl, hi, hb, hk⟩; refine ⟨_, rfl, ?_⟩; have n0_ := Aside0.mk (Kd.R_mono (Kd.R_keep (IsS107.apart (show IsS107 w0 _ g s0_0 s0_1 s0_2 from si HI0.out) (kr HO155.out) (by decide)) hk (fun _ h => h.2)) (fun _ h => h.1)); have n1_ := Aside0.mk (KeepBut.trans (kp HK.out) hk (.inl rfl)); have n2_ := Aside0.mk (hb); have n3_ := Aside0.mk (hi); clear HO155; clear HK; clear HB; clear HI0; have HO155 := n0_; have HK := n1_; have HB := n2_; have HI0 := n3_; clear n0_ n1_ n2_ n3_; (try clear hb); (try clear hb2); (try clear hk); (try clear hi)))
 go_ret
 exact ⟨rt, si HI0.out, bi HB.out, kp HK.out⟩

/-! ### spec_l2DrawBank: function 105 -/
def spec_l2DrawBank.l0 : Nat → List Int → Int → List Int → Int → Int → Option (List Int × Int × Int)
 | 0, _, _, _, _, _ => none
 | k + 1, x3, x4, x1000, x1001, x1002 => if x4 < 256 then ((spec_l1Below.f x1000 x1001 x1002 4).bind fun bt162 => (if bt162.1 = 0 then ((spec_l1Below.f x1000 bt162.2.1 bt162.2.2 30).bind fun bt165 => (if 0 ≤ x4 then (if x4 < (x3.length : Int) then (spec_l2DrawBank.l0 k (x3.set (x4 : Int).toNat bt165.1) (wrap64 (x4 + 1)) x1000 bt165.2.1 bt165.2.2) else (none)) else (none))) else (if bt162.1 = 1 then ((spec_l1PickInt.f x1000 bt162.2.1 bt162.2.2 (([32, 64, 0, 1, 22, 192, 128, 2, 4, 5] : List Int))).bind fun bt172 => (if 0 ≤ x4 then (if x4 < (x3.length : Int) then (spec_l2DrawBank.l0 k (x3.set (x4 : Int).toNat bt172.1) (wrap64 (x4 + 1)) x1000 bt172.2.1 bt172.2.2) else (none)) else (none))) else (if bt162.1 = 2 then ((spec_l1Below.f x1000 bt162.2.1 bt162.2.2 256).bind fun bt176 => (if 0 ≤ x4 then (if x4 < (x3.length : Int) then (spec_l2DrawBank.l0 k (x3.set (x4 : Int).toNat bt176.1) (wrap64 (x4 + 1)) x1000 bt176.2.1 bt176.2.2) else (none)) else (none))) else (spec_l2DrawBank.l0 k x3 (wrap64 (x4 + 1)) x1000 bt162.2.1 bt162.2.2))))) else (some (x3, x1001, x1002))
def spec_l2DrawBank.f (k : Nat) (s0_0 : List Int) (s0_1 : Int) (s0_2 : Int) : Option (List Int × Int × Int) := if 256 ≤ 35184372088832 then (spec_l2DrawBank.l0 k (List.replicate 256 0) 0 s0_0 s0_1 s0_2) else (none)
set_option maxHeartbeats 8000000 in
set_option maxRecDepth 100000 in
theorem spec_l2DrawBank.calls (k : Nat) (g : Nat) (s0_0 : List Int) (s0_1 : Int) (s0_2 : Int) (r1 : List Int) (r2 : Int) (r3 : Int) (w0 w : World) (hI : IsS107 w0 w g s0_0 s0_1 s0_2) (hB : Below w0.heap.size w0 w) (h : spec_l2DrawBank.f k s0_0 s0_1 s0_2 = some (r1, r2, r3)) :
  Calls Try.prog 105 #[.pointer (some ⟨g, 0, none⟩)] w fun e w' => ∃ v0_ : Value, e = .returned (v0_) ∧ Kd.R (Kd.int .i64) 3 w' w.heap.size (fun _ => True) v0_ r1 ∧ IsS107 w0 w' g s0_0 r2 r3 ∧ Below w0.heap.size w0 w' ∧ KeepBut w w' g none := by
 have HI0 := Aside0.mk hI
 have HK := Aside0.mk (KeepBut.refl w g none)
 have HL := Aside0.mk hB.size
 clear hI
 have HW0 := Aside0.mk hB.size
 have HB := Aside0.mk hB
 clear hB
 have H : (if 256 ≤ 35184372088832 then (spec_l2DrawBank.l0 k (List.replicate 256 0) 0 s0_0 s0_1 s0_2) else (none)) = some (r1, r2, r3) := h
 clear h
 by_cases c2 : 256 ≤ 35184372088832
 ·rw [if_pos c2] at H
  have c2b0 := eq_true c2
  have c2b1 : decide (256 ≤ 35184372088832) = true := decide_eq_true c2
  clear c2
  obtain ⟨y159, hy159⟩ : ∃ y_ : List Int, y_ = (List.replicate 256 0) := ⟨_, rfl⟩
  replace H : (spec_l2DrawBank.l0 k y159 0 s0_0 s0_1 s0_2) = some (r1, r2, r3) := by first | (rw [hy159]; with_reducible exact H) | (have H2_ := (Option.bind_some _ _).symm.trans H; rw [hy159]; with_reducible exact H2_) | (have H2_ := (Option.bind_some _ _).symm.trans H; with_reducible exact H2_) | with_reducible exact H | (rw [hy159]; exact H) | exact H
  have Ny159 := Aside0.mk hy159
  clear hy159
  have H' := Aside0.mk H
  clear H
  go_enter Try.func105, Try.ntmps105
  go_wp2_with (first | ((with_reducible refine gate_dst (N := 5) rfl ?_); refine Kd.R_make (Kd.int .i64) _ 3 rfl (N := 5) rfl 30 _ _ rfl 256 rfl rfl Try.underlying30 (.int .i64 0) 8 info3 rfl (by decide) (by omega) 0 (ok := fun _ => True) (okp := fun _ => True) rfl (fun _ hk => hk) trivial (by omega) (by omega) (Below.refl _ _) (Nat.le_refl _) ?_; intro v160 w3 ho4 hb hg_ hnew_; clear hg_ hnew_; (first | rw [← Ny159.out] at ho4 | (simp only [Int.reduceToNat] at ho4; rw [← Ny159.out] at ho4)); have n0_ := Aside0.mk (Kd.R_lower ho4 (keep_size (w := w) (g := g) (row := none) (kp HK.out))); have n1_ := Aside0.mk (IsS107.below (si HI0.out) hb); have n2_ := Aside0.mk (KeepBut.trans (kp HK.out) (KeepBut.of_below hb g none) (.inl rfl)); have n3_ := Aside0.mk (below_step (bi HB.out) hb); clear HI0; clear HK; clear HB; have HO161 := n0_; have HI0 := n1_; have HK := n2_; have HB := n3_; clear n0_ n1_ n2_ n3_; clear hb ho4))
  go_loopg [4] k (fun kq v4 w' => ∃ (x3_1 : List Int) (x4_1 : Int) (x1001_1 : Int) (x1002_1 : Int), v4 = .int .i64 x4_1 ∧ Aside0 (spec_l2DrawBank.l0 kq x3_1 x4_1 s0_0 x1001_1 x1002_1 = some (r1, r2, r3)) ∧ Aside0 (kq ≤ k) ∧ Aside0 (Kd.R (Kd.int .i64) 3 w' w.heap.size (fun _ => True) v160 x3_1) ∧ Aside0 (IsS107 w0 w' g s0_0 x1001_1 x1002_1) ∧ Aside0 (KeepBut w w' g none) ∧ Aside0 (Below w0.heap.size w0 w'))
  case atStart => exact ⟨(y159), (0), (s0_1), (s0_2), (by first | rfl | (simp; done) | (simp [*]; done)), H', ⟨Nat.le_refl _⟩, ⟨kr HO161.out⟩, ⟨si HI0.out⟩, ⟨kp HK.out⟩, ⟨bi HB.out⟩⟩
  case round =>
   clear H'
   (try clear c1); (try clear c2); (try clear c2b0); (try clear c2b1); (try clear p2)
   obtain ⟨x3_1, x4_1, x1001_1, x1002_1, rfl, HA, HK1, HO_3, HI0, HK, HB⟩ := hrel
   cases gk with
   | zero => exact absurd HA.out (by simp [spec_l2DrawBank.l0])
   | succ k1 =>
    have H := HA.out
    clear HA
    simp only [spec_l2DrawBank.l0] at H
    by_cases c5 : x4_1 < 256
    ·rw [if_pos c5] at H
     have c5b0 : decide (x4_1 < 256) = true := decide_eq_true c5
     clear c5
     replace H := Option.bind_eq_some_iff.mp H
     obtain ⟨⟨t162, t163, t164⟩, A60, H⟩ := H
     replace H : (if t162 = 0 then ((spec_l1Below.f s0_0 t163 t164 30).bind fun bt165 => (if 0 ≤ x4_1 then (if x4_1 < (x3_1.length : Int) then (spec_l2DrawBank.l0 k1 (x3_1.set (x4_1 : Int).toNat bt165.1) (wrap64 (x4_1 + 1)) s0_0 bt165.2.1 bt165.2.2) else (none)) else (none))) else (if t162 = 1 then ((spec_l1PickInt.f s0_0 t163 t164 (([32, 64, 0, 1, 22, 192, 128, 2, 4, 5] : List Int))).bind fun bt172 => (if 0 ≤ x4_1 then (if x4_1 < (x3_1.length : Int) then (spec_l2DrawBank.l0 k1 (x3_1.set (x4_1 : Int).toNat bt172.1) (wrap64 (x4_1 + 1)) s0_0 bt172.2.1 bt172.2.2) else (none)) else (none))) else (if t162 = 2 then ((spec_l1Below.f s0_0 t163 t164 256).bind fun bt176 => (if 0 ≤ x4_1 then (if x4_1 < (x3_1.length : Int) then (spec_l2DrawBank.l0 k1 (x3_1.set (x4_1 : Int).toNat bt176.1) (wrap64 (x4_1 + 1)) s0_0 bt176.2.1 bt176.2.2) else (none)) else (none))) else (spec_l2DrawBank.l0 k1 x3_1 (wrap64 (x4_1 + 1)) s0_0 t163 t164)))) = some (r1, r2, r3) := H
     have A6 := Aside0.mk A60
     clear A60
     by_cases c7 : t162 = 0
     ·rw [if_pos c7] at H
      have c7b0 : (t162 == 0) = true := beq_iff_eq.mpr c7
      have c7b1 : (t162 != 0) = false := bne_eq_false_iff_eq.mpr c7
      clear c7
      replace H := Option.bind_eq_some_iff.mp H
      obtain ⟨⟨t165, t166, t167⟩, A80, H⟩ := H
      replace H : (if 0 ≤ x4_1 then (if x4_1 < (x3_1.length : Int) then (spec_l2DrawBank.l0 k1 (x3_1.set (x4_1 : Int).toNat t165) (wrap64 (x4_1 + 1)) s0_0 t166 t167) else (none)) else (none)) = some (r1, r2, r3) := H
      have A8 := Aside0.mk A80
      clear A80
      by_cases c9 : 0 ≤ x4_1
      ·rw [if_pos c9] at H
       have c9b0 : decide (0 ≤ x4_1) = true := decide_eq_true c9
       clear c9
       by_cases c10 : x4_1 < (x3_1.length : Int)
       ·rw [if_pos c10] at H
        have c10b0 : decide (x4_1 < (x3_1.length : Int)) = true := decide_eq_true c10
        clear c10
        obtain ⟨y168, hy168⟩ : ∃ y_ : List Int, y_ = (x3_1.set (x4_1 : Int).toNat t165) := ⟨_, rfl⟩
        replace H : (spec_l2DrawBank.l0 k1 y168 (wrap64 (x4_1 + 1)) s0_0 t166 t167) = some (r1, r2, r3) := by first | (rw [hy168]; with_reducible exact H) | (have H2_ := (Option.bind_some _ _).symm.trans H; rw [hy168]; with_reducible exact H2_) | (have H2_ := (Option.bind_some _ _).symm.trans H; with_reducible exact H2_) | with_reducible exact H | (rw [hy168]; exact H) | exact H
        have Ny168 := Aside0.mk hy168
        clear hy168
        have H' := Aside0.mk H
        clear H
        go_wp2_with (first | ((with_reducible refine gate_callee (f := 60) rfl ?_); refine goesM_ (some 11) rfl rfl Try.func60 #[.pointer (some ⟨g, 0, none⟩), .int .i64 4] ?_; (with_reducible refine (spec_l1Below.calls g s0_0 x1001_1 x1002_1 4 t162 t163 t164 w0 _ ?side1 ?side2 A6.out).mono ?_); (case side1 => exact si HI0.out); (case side2 => exact bi HB.out); rintro e w12 ⟨rfl, hi, hb, hk⟩; refine ⟨_, rfl, ?_⟩; have n0_ := Aside0.mk (Kd.R_mono (Kd.R_keep (IsS107.apart (show IsS107 w0 _ g s0_0 x1001_1 x1002_1 from si HI0.out) (kr HO_3.out) (by decide)) hk (fun _ h => h.2)) (fun _ h => h.1)); have n1_ := Aside0.mk (KeepBut.trans (kp HK.out) hk (.inl rfl)); have n2_ := Aside0.mk (hb); have n3_ := Aside0.mk (hi); clear HO_3; clear HK; clear HB; clear HI0; have HO_3 := n0_; have HK := n1_; have HB := n2_; have HI0 := n3_; clear n0_ n1_ n2_ n3_; (try clear hb); (try clear hb2); (try clear hk); (try clear hi)) | ((with_reducible refine gate_callee (f := 60) rfl ?_); refine goesM_ (some 17) rfl rfl Try.func60 #[.pointer (some ⟨g, 0, none⟩), .int .i64 30] ?_; (with_reducible refine (spec_l1Below.calls g s0_0 t163 t164 30 t165 t166 t167 w0 _ ?side1 ?side2 A8.out).mono ?_); (case side1 => exact si HI0.out); (case side2 => exact bi HB.out); rintro e w13 ⟨rfl, hi, hb, hk⟩; refine ⟨_, rfl, ?_⟩; have n0_ := Aside0.mk (Kd.R_mono (Kd.R_keep (IsS107.apart (show IsS107 w0 _ g s0_0 t163 t164 from si HI0.out) (kr HO_3.out) (by decide)) hk (fun _ h => h.2)) (fun _ h => h.1)); have n1_ := Aside0.mk (KeepBut.trans (kp HK.out) hk (.inl rfl)); have n2_ := Aside0.mk (hb); have n3_ := Aside0.mk (hi); clear HO_3; clear HK; clear HB; clear HI0; have HO_3 := n0_; have HK := n1_; have HB := n2_; have HI0 := n3_; clear n0_ n1_ n2_ n3_; (try clear hb); (try clear hb2); (try clear hk); (try clear hi); have p11 : 0 ≤ (x4_1 : Int) := dt; have q11 : (x4_1 : Int) < ((x3_1.length : Int) : Int) := dt; obtain ⟨go11, co11, eo11, gb11, gl11, cl11, HG11⟩ := Kd.R_form HO_3.out (by omega); (first | cases eo11 | (injection eo11 with ea_ en_ ec_; (first | subst ea_ | (injection ea_ with ea_; subst ea_)); subst ec_; clear en_)); have GB11 := Aside0.mk gb11; have GG11 := Aside0.mk HG11; clear gb11 gl11 HG11; obtain ⟨hx11_0, hf11_0⟩ := Kd.R_celln 0 HO_3.out (x4_1 : Int) p11 q11; replace p11 := eq_true p11; replace q11 := eq_true q11; obtain ⟨hy14_, hz14_⟩ := Kd.R_celln 0 HO_3.out (x4_1 : Int) dt dt; have HP14 := Kd.R_putg HO_3.out (x4_1 : Int) t165) | ((with_reducible refine gate_store (t := 3) (p := 18) rfl ?_); refine store_event (t := 3) (p := 18) (v := ?vo_w15) (w1 := (w13.setCell ⟨go11, (x4_1 : Int).toNat, none⟩ (.int .i64 t165))) ?hg ?ho ?hn ?hr ?_; (case ho => rfl); (case hg => rfl); (case hn => rfl); (case hr => first | (go_simp; done) | (go_simp; rfl)); intro w15 hw; have hg : w13.grownBy w15 (some go11) := (by rw [hw]; exact HP14.2); have hp_ : Kd.R (Kd.int .i64) 3 w15 w.heap.size (fun _ => True) (.slice (some ⟨go11, 0, none⟩) x3_1.length co11) y168 := (by rw [hw, Ny168.out]; exact HP14.1); clear HP14; have n0_ := Aside0.mk (hp_); have n1_ := Aside0.mk (IsS107.grown (si HI0.out) hg (IsS107.own_ne HI0.out HO_3.out (by decide))); have n2_ := Aside0.mk ((by rw [hw]; exact below_set (HB.out) (Nat.le_trans HL.out GB11.out) : Below w0.heap.size w0 w15)); have n3_ := Aside0.mk (KeepBut.trans (kp HK.out) (KeepBut.of_grown hg g) (Kd.R_base2 HO_3.out)); clear HO_3; clear HI0; clear HB; clear HK; have HO_3 := n0_; have HI0 := n1_; have HB := n2_; have HK := n3_; clear n0_ n1_ n2_ n3_; clear hg hw hp_))
        go_roundg k1
        case measure => have := HK1.out; omega
        case rel => exact ⟨(y168), (wrap64 (x4_1 + 1)), (t166), (t167), (by first | rfl | (simp; done) | (simp [*]; done)), H', ⟨by have := HK1.out; omega⟩, ⟨kr HO_3.out⟩, ⟨si HI0.out⟩, ⟨kp HK.out⟩, ⟨bi HB.out⟩⟩
       ·rw [if_neg c10] at H
        exact absurd H (by simp)
      ·rw [if_neg c9] at H
       exact absurd H (by simp)
     ·rw [if_neg c7] at H
      have c7b0 : (t162 == 0) = false := beq_eq_false_iff_ne.mpr c7
      have c7b1 : (t162 != 0) = true := bne_iff_ne.mpr c7
      by_cases c16 : t162 = 1
      ·rw [if_pos c16] at H
       have c16b0 : (t162 == 1) = true := beq_iff_eq.mpr c16
       have c16b1 : (t162 != 1) = false := bne_eq_false_iff_eq.mpr c16
       clear c16
       obtain ⟨y169, hy169⟩ : ∃ y_ : List Int, y_ = (([32, 64, 0, 1, 22, 192, 128, 2, 4, 5] : List Int)) := ⟨_, rfl⟩
       replace H : ((spec_l1PickInt.f s0_0 t163 t164 y169).bind fun bt172 => (if 0 ≤ x4_1 then (if x4_1 < (x3_1.length : Int) then (spec_l2DrawBank.l0 k1 (x3_1.set (x4_1 : Int).toNat bt172.1) (wrap64 (x4_1 + 1)) s0_0 bt172.2.1 bt172.2.2) else (none)) else (none))) = some (r1, r2, r3) := by first | (rw [hy169]; with_reducible exact H) | (have H2_ := (Option.bind_some _ _).symm.trans H; rw [hy169]; with_reducible exact H2_) | (have H2_ := (Option.bind_some _ _).symm.trans H; with_reducible exact H2_) | with_reducible exact H | (rw [hy169]; exact H) | exact H
       have Ny169 := Aside0.mk hy169
       clear hy169
       replace H := Option.bind_eq_some_iff.mp H
       obtain ⟨⟨t172, t173, t174⟩, A170, H⟩ := H
       replace H : (if 0 ≤ x4_1 then (if x4_1 < (x3_1.length : Int) then (spec_l2DrawBank.l0 k1 (x3_1.set (x4_1 : Int).toNat t172) (wrap64 (x4_1 + 1)) s0_0 t173 t174) else (none)) else (none)) = some (r1, r2, r3) := H
       have A17 := Aside0.mk A170
       clear A170
       by_cases c18 : 0 ≤ x4_1
       ·rw [if_pos c18] at H
        have c18b0 : decide (0 ≤ x4_1) = true := decide_eq_true c18
        clear c18
        by_cases c19 : x4_1 < (x3_1.length : Int)
        ·rw [if_pos c19] at H
         have c19b0 : decide (x4_1 < (x3_1.length : Int)) = true := decide_eq_true c19
         clear c19
         obtain ⟨y175, hy175⟩ : ∃ y_ : List Int, y_ = (x3_1.set (x4_1 : Int).toNat t172) := ⟨_, rfl⟩
         replace H : (spec_l2DrawBank.l0 k1 y175 (wrap64 (x4_1 + 1)) s0_0 t173 t174) = some (r1, r2, r3) := by first | (rw [hy175]; with_reducible exact H) | (have H2_ := (Option.bind_some _ _).symm.trans H; rw [hy175]; with_reducible exact H2_) | (have H2_ := (Option.bind_some _ _).symm.trans H; with_reducible exact H2_) | with_reducible exact H | (rw [hy175]; exact H) | exact H
         have Ny175 := Aside0.mk hy175
         clear hy175
         have H' := Aside0.mk H
         clear H
         go_wp2_with (first | ((with_reducible refine gate_callee (f := 60) rfl ?_); refine goesM_ (some 11) rfl rfl Try.func60 #[.pointer (some ⟨g, 0, none⟩), .int .i64 4] ?_; (with_reducible refine (spec_l1Below.calls g s0_0 x1001_1 x1002_1 4 t162 t163 t164 w0 _ ?side1 ?side2 A6.out).mono ?_); (case side1 => exact si HI0.out); (case side2 => exact bi HB.out); rintro e w21 ⟨rfl, hi, hb, hk⟩; refine ⟨_, rfl, ?_⟩; have n0_ := Aside0.mk (Kd.R_mono (Kd.R_keep (IsS107.apart (show IsS107 w0 _ g s0_0 x1001_1 x1002_1 from si HI0.out) (kr HO_3.out) (by decide)) hk (fun _ h => h.2)) (fun _ h => h.1)); have n1_ := Aside0.mk (KeepBut.trans (kp HK.out) hk (.inl rfl)); have n2_ := Aside0.mk (hb); have n3_ := Aside0.mk (hi); clear HO_3; clear HK; clear HB; clear HI0; have HO_3 := n0_; have HK := n1_; have HB := n2_; have HI0 := n3_; clear n0_ n1_ n2_ n3_; (try clear hb); (try clear hb2); (try clear hk); (try clear hi)) | ((with_reducible refine gate_dst (N := 24) rfl ?_); refine Kd.R_lit (Kd.int .i64) _ 3 ?hg (N := 24) ?hd (xs := ([32, 64, 0, 1, 22, 192, 128, 2, 4, 5] : List Int)) (inner := [.int .i64 32, .int .i64 64, .int .i64 0, .int .i64 1, .int .i64 22, .int .i64 192, .int .i64 128, .int .i64 2, .int .i64 4, .int .i64 5]) (ok := fun _ => True) (okp := fun _ => True) ?hr ?hp (fun _ hk => hk) trivial (Below.refl _ _) (Nat.le_refl _) (by simp) ?_; (case hd => rfl); (case hg => rfl); (case hr => first | (go_simp; done) | (go_simp; rfl)); (case hp => exact (Reps.one (show Kd.M (Kd.int .i64) _ _ _ 32 [.int .i64 32] from rfl) (Reps.one (show Kd.M (Kd.int .i64) _ _ _ 64 [.int .i64 64] from rfl) (Reps.one (show Kd.M (Kd.int .i64) _ _ _ 0 [.int .i64 0] from rfl) (Reps.one (show Kd.M (Kd.int .i64) _ _ _ 1 [.int .i64 1] from rfl) (Reps.one (show Kd.M (Kd.int .i64) _ _ _ 22 [.int .i64 22] from rfl) (Reps.one (show Kd.M (Kd.int .i64) _ _ _ 192 [.int .i64 192] from rfl) (Reps.one (show Kd.M (Kd.int .i64) _ _ _ 128 [.int .i64 128] from rfl) (Reps.one (show Kd.M (Kd.int .i64) _ _ _ 2 [.int .i64 2] from rfl) (Reps.one (show Kd.M (Kd.int .i64) _ _ _ 4 [.int .i64 4] from rfl) (Reps.one (show Kd.M (Kd.int .i64) _ _ _ 5 [.int .i64 5] from rfl) (Reps.none _ _)))))))))))); intro v170 w22 ho23 hb hg_ hnew_; clear hg_ hnew_; (first | rw [← Ny169.out] at ho23 | (simp only [Int.reduceToNat] at ho23; rw [← Ny169.out] at ho23)); have n0_ := Aside0.mk (Kd.R_elder' (kr HO_3.out) (Kd.R_base ho23) hb); have n1_ := Aside0.mk (Kd.R_lower (Kd.R_new' ho23 (Kd.R_lt (kr HO_3.out))) (keep_size (w := w) (g := g) (row := none) (kp HK.out))); have n2_ := Aside0.mk (IsS107.below (si HI0.out) hb); have n3_ := Aside0.mk (KeepBut.trans (kp HK.out) (KeepBut.of_below hb g none) (.inl rfl)); have n4_ := Aside0.mk (below_step (bi HB.out) hb); clear HO_3; clear HI0; clear HK; clear HB; have HO_3 := n0_; have HO171 := n1_; have HI0 := n2_; have HK := n3_; have HB := n4_; clear n0_ n1_ n2_ n3_ n4_; clear hb ho23; obtain ⟨Ao24, co24, eo24⟩ := Kd.R_slice HO171.out; subst eo24) | ((with_reducible refine gate_callee (f := 70) rfl ?_); refine goesM_ (some 25) rfl rfl Try.func70 #[.pointer (some ⟨g, 0, none⟩), .slice Ao24 y169.length co24] ?_; (with_reducible refine (spec_l1PickInt.calls g s0_0 t163 t164 _ _ y169 t172 t173 t174 w0 _ ?side1 ?side2 ?side3 ?side4 ?side5 A17.out).mono ?_); (case side1 => exact si HI0.out); (case side2 => exact bi HB.out); (case side3 => exact kc (Kd.R_reads' HO171.out).2.2); (case side4 => exact (Kd.R_reads' HO171.out).2.1); (case side5 => exact far_slice (IsS107.own_ne HI0.out HO171.out (by decide))); rintro e w25 ⟨rfl, hi, hb, hk⟩; refine ⟨_, rfl, ?_⟩; have n0_ := Aside0.mk (Kd.R_mono (Kd.R_keep (IsS107.apart (show IsS107 w0 _ g s0_0 t163 t164 from si HI0.out) (kr HO_3.out) (by decide)) hk (fun _ h => h.2)) (fun _ h => h.1)); have n1_ := Aside0.mk (Kd.R_mono (Kd.R_keep (IsS107.apart (show IsS107 w0 _ g s0_0 t163 t164 from si HI0.out) (kr HO171.out) (by decide)) hk (fun _ h => h.2)) (fun _ h => h.1)); have n2_ := Aside0.mk (KeepBut.trans (kp HK.out) hk (.inl rfl)); have n3_ := Aside0.mk (hb); have n4_ := Aside0.mk (hi); clear HO_3; clear HO171; clear HK; clear HB; clear HI0; have HO_3 := n0_; have HO171 := n1_; have HK := n2_; have HB := n3_; have HI0 := n4_; clear n0_ n1_ n2_ n3_ n4_; (try clear hb); (try clear hb2); (try clear hk); (try clear hi); have p20 : 0 ≤ (x4_1 : Int) := dt; have q20 : (x4_1 : Int) < ((x3_1.length : Int) : Int) := dt; obtain ⟨go20, co20, eo20, gb20, gl20, cl20, HG20⟩ := Kd.R_form HO_3.out (by omega); (first | cases eo20 | (injection eo20 with ea_ en_ ec_; (first | subst ea_ | (injection ea_ with ea_; subst ea_)); subst ec_; clear en_)); have GB20 := Aside0.mk gb20; have GG20 := Aside0.mk HG20; clear gb20 gl20 HG20; obtain ⟨hx20_0, hf20_0⟩ := Kd.R_celln 0 HO_3.out (x4_1 : Int) p20 q20; replace p20 := eq_true p20; replace q20 := eq_true q20; have n_ := Aside0.mk (Kd.R_mono (ok' := (fun k_ => some k_ ≠ (.slice Ao24 y169.length co24 : Value).ownBlock)) HO_3.out (fun k_ hk => hk.2)); clear HO_3; have HO_3 := n_; clear n_; obtain ⟨hy26_, hz26_⟩ := Kd.R_celln 0 HO_3.out (x4_1 : Int) dt dt; have HP26 := Kd.R_putg HO_3.out (x4_1 : Int) t172) | ((with_reducible refine gate_store (t := 3) (p := 26) rfl ?_); refine store_event (t := 3) (p := 26) (v := ?vo_w27) (w1 := (w25.setCell ⟨go20, (x4_1 : Int).toNat, none⟩ (.int .i64 t172))) ?hg ?ho ?hn ?hr ?_; (case ho => rfl); (case hg => rfl); (case hn => rfl); (case hr => first | (go_simp; done) | (go_simp; rfl)); intro w27 hw; have hg : w25.grownBy w27 (some go20) := (by rw [hw]; exact HP26.2); have hp_ : Kd.R (Kd.int .i64) 3 w27 w.heap.size (fun k_ => some k_ ≠ (.slice Ao24 y169.length co24 : Value).ownBlock) (.slice (some ⟨go20, 0, none⟩) x3_1.length co20) y175 := (by rw [hw, Ny175.out]; exact HP26.1); clear HP26; have n0_ := Aside0.mk (hp_); have n1_ := Aside0.mk (IsS107.grown (si HI0.out) hg (IsS107.own_ne HI0.out HO_3.out (by decide))); have n2_ := Aside0.mk (Kd.R_after (v := (.slice (some ⟨go20, 0, none⟩) x3_1.length co20)) (v1 := (.slice (some ⟨go20, 0, none⟩) x3_1.length co20)) (ok := (fun _ => True)) (kr HO171.out) hg (.inl rfl)); have n3_ := Aside0.mk ((by rw [hw]; exact below_set (HB.out) (Nat.le_trans HL.out GB20.out) : Below w0.heap.size w0 w27)); have n4_ := Aside0.mk (KeepBut.trans (kp HK.out) (KeepBut.of_grown hg g) (Kd.R_base2 HO_3.out)); clear HO_3; clear HI0; clear HO171; clear HB; clear HK; have HO_3 := n0_; have HI0 := n1_; have HO171 := n2_; have HB := n3_; have HK := n4_; clear n0_ n1_ n2_ n3_ n4_; clear hg hw hp_))
         go_roundg k1
         case measure => have := HK1.out; omega
         case rel => exact ⟨(y175), (wrap64 (x4_1 + 1)), (t173), (t174), (by first | rfl | (simp; done) | (simp [*]; done)), H', ⟨by have := HK1.out; omega⟩, ⟨kr (Kd.R_mono HO_3.out (fun _ hk => trivial))⟩, ⟨si HI0.out⟩, ⟨kp HK.out⟩, ⟨bi HB.out⟩⟩
        ·rw [if_neg c19] at H
         exact absurd H (by simp)
       ·rw [if_neg c18] at H
        exact absurd H (by simp)
      ·rw [if_neg c16] at H
       have c16b0 : (t162 == 1) = false := beq_eq_false_iff_ne.mpr c16
       have c16b1 : (t162 != 1) = true := bne_iff_ne.mpr c16
       by_cases c28 : t162 = 2
       ·rw [if_pos c28] at H
        have c28b0 : (t162 == 2) = true := beq_iff_eq.mpr c28
        have c28b1 : (t162 != 2) = false := bne_eq_false_iff_eq.mpr c28
        clear c28
        replace H := Option.bind_eq_some_iff.mp H
        obtain ⟨⟨t176, t177, t178⟩, A290, H⟩ := H
        replace H : (if 0 ≤ x4_1 then (if x4_1 < (x3_1.length : Int) then (spec_l2DrawBank.l0 k1 (x3_1.set (x4_1 : Int).toNat t176) (wrap64 (x4_1 + 1)) s0_0 t177 t178) else (none)) else (none)) = some (r1, r2, r3) := H
        have A29 := Aside0.mk A290
        clear A290
        by_cases c30 : 0 ≤ x4_1
        ·rw [if_pos c30] at H
         have c30b0 : decide (0 ≤ x4_1) = true := decide_eq_true c30
         clear c30
         by_cases c31 : x4_1 < (x3_1.length : Int)
         ·rw [if_pos c31] at H
          have c31b0 : decide (x4_1 < (x3_1.length : Int)) = true := decide_eq_true c31
          clear c31
          obtain ⟨y179, hy179⟩ : ∃ y_ : List Int, y_ = (x3_1.set (x4_1 : Int).toNat t176) := ⟨_, rfl⟩
          replace H : (spec_l2DrawBank.l0 k1 y179 (wrap64 (x4_1 + 1)) s0_0 t177 t178) = some (r1, r2, r3) := by first | (rw [hy179]; with_reducible exact H) | (have H2_ := (Option.bind_some _ _).symm.trans H; rw [hy179]; with_reducible exact H2_) | (have H2_ := (Option.bind_some _ _).symm.trans H; with_reducible exact H2_) | with_reducible exact H | (rw [hy179]; exact H) | exact H
          have Ny179 := Aside0.mk hy179
          clear hy179
          have H' := Aside0.mk H
          clear H
          go_wp2_with (first | ((with_reducible refine gate_callee (f := 60) rfl ?_); refine goesM_ (some 11) rfl rfl Try.func60 #[.pointer (some ⟨g, 0, none⟩), .int .i64 4] ?_; (with_reducible refine (spec_l1Below.calls g s0_0 x1001_1 x1002_1 4 t162 t163 t164 w0 _ ?side1 ?side2 A6.out).mono ?_); (case side1 => exact si HI0.out); (case side2 => exact bi HB.out); rintro e w33 ⟨rfl, hi, hb, hk⟩; refine ⟨_, rfl, ?_⟩; have n0_ := Aside0.mk (Kd.R_mono (Kd.R_keep (IsS107.apart (show IsS107 w0 _ g s0_0 x1001_1 x1002_1 from si HI0.out) (kr HO_3.out) (by decide)) hk (fun _ h => h.2)) (fun _ h => h.1)); have n1_ := Aside0.mk (KeepBut.trans (kp HK.out) hk (.inl rfl)); have n2_ := Aside0.mk (hb); have n3_ := Aside0.mk (hi); clear HO_3; clear HK; clear HB; clear HI0; have HO_3 := n0_; have HK := n1_; have HB := n2_; have HI0 := n3_; clear n0_ n1_ n2_ n3_; (try clear hb); (try clear hb2); (try clear hk); (try clear hi)) | ((with_reducible refine gate_callee (f := 60) rfl ?_); refine goesM_ (some 32) rfl rfl Try.func60 #[.pointer (some ⟨g, 0, none⟩), .int .i64 256] ?_; (with_reducible refine (spec_l1Below.calls g s0_0 t163 t164 256 t176 t177 t178 w0 _ ?side1 ?side2 A29.out).mono ?_); (case side1 => exact si HI0.out); (case side2 => exact bi HB.out); rintro e w34 ⟨rfl, hi, hb, hk⟩; refine ⟨_, rfl, ?_⟩; have n0_ := Aside0.mk (Kd.R_mono (Kd.R_keep (IsS107.apart (show IsS107 w0 _ g s0_0 t163 t164 from si HI0.out) (kr HO_3.out) (by decide)) hk (fun _ h => h.2)) (fun _ h => h.1)); have n1_ := Aside0.mk (KeepBut.trans (kp HK.out) hk (.inl rfl)); have n2_ := Aside0.mk (hb); have n3_ := Aside0.mk (hi); clear HO_3; clear HK; clear HB; clear HI0; have HO_3 := n0_; have HK := n1_; have HB := n2_; have HI0 := n3_; clear n0_ n1_ n2_ n3_; (try clear hb); (try clear hb2); (try clear hk); (try clear hi); have p32 : 0 ≤ (x4_1 : Int) := dt; have q32 : (x4_1 : Int) < ((x3_1.length : Int) : Int) := dt; obtain ⟨go32, co32, eo32, gb32, gl32, cl32, HG32⟩ := Kd.R_form HO_3.out (by omega); (first | cases eo32 | (injection eo32 with ea_ en_ ec_; (first | subst ea_ | (injection ea_ with ea_; subst ea_)); subst ec_; clear en_)); have GB32 := Aside0.mk gb32; have GG32 := Aside0.mk HG32; clear gb32 gl32 HG32; obtain ⟨hx32_0, hf32_0⟩ := Kd.R_celln 0 HO_3.out (x4_1 : Int) p32 q32; replace p32 := eq_true p32; replace q32 := eq_true q32; obtain ⟨hy35_, hz35_⟩ := Kd.R_celln 0 HO_3.out (x4_1 : Int) dt dt; have HP35 := Kd.R_putg HO_3.out (x4_1 : Int) t176) | ((with_reducible refine gate_store (t := 3) (p := 33) rfl ?_); refine store_event (t := 3) (p := 33) (v := ?vo_w36) (w1 := (w34.setCell ⟨go32, (x4_1 : Int).toNat, none⟩ (.int .i64 t176))) ?hg ?ho ?hn ?hr ?_; (case ho => rfl); (case hg => rfl); (case hn => rfl); (case hr => first | (go_simp; done) | (go_simp; rfl)); intro w36 hw; have hg : w34.grownBy w36 (some go32) := (by rw [hw]; exact HP35.2); have hp_ : Kd.R (Kd.int .i64) 3 w36 w.heap.size (fun _ => True) (.slice (some ⟨go32, 0, none⟩) x3_1.length co32) y179 := (by rw [hw, Ny179.out]; exact HP35.1); clear HP35; have n0_ := Aside0.mk (hp_); have n1_ := Aside0.mk (IsS107.grown (si HI0.out) hg (IsS107.own_ne HI0.out HO_3.out (by decide))); have n2_ := Aside0.mk ((by rw [hw]; exact below_set (HB.out) (Nat.le_trans HL.out GB32.out) : Below w0.heap.size w0 w36)); have n3_ := Aside0.mk (KeepBut.trans (kp HK.out) (KeepBut.of_grown hg g) (Kd.R_base2 HO_3.out)); clear HO_3; clear HI0; clear HB; clear HK; have HO_3 := n0_; have HI0 := n1_; have HB := n2_; have HK := n3_; clear n0_ n1_ n2_ n3_; clear hg hw hp_))
          go_roundg k1
          case measure => have := HK1.out; omega
          case rel => exact ⟨(y179), (wrap64 (x4_1 + 1)), (t177), (t178), (by first | rfl | (simp; done) | (simp [*]; done)), H', ⟨by have := HK1.out; omega⟩, ⟨kr HO_3.out⟩, ⟨si HI0.out⟩, ⟨kp HK.out⟩, ⟨bi HB.out⟩⟩
         ·rw [if_neg c31] at H
          exact absurd H (by simp)
        ·rw [if_neg c30] at H
         exact absurd H (by simp)
       ·rw [if_neg c28] at H
        have c28b0 : (t162 == 2) = false := beq_eq_false_iff_ne.mpr c28
        have c28b1 : (t162 != 2) = true := bne_iff_ne.mpr c28
        have H' := Aside0.mk H
        clear H
        go_wp2_with (first | ((with_reducible refine gate_callee (f := 60) rfl ?_); refine goesM_ (some 11) rfl rfl Try.func60 #[.pointer (some ⟨g, 0, none⟩), .int .i64 4] ?_; (with_reducible refine (spec_l1Below.calls g s0_0 x1001_1 x1002_1 4 t162 t163 t164 w0 _ ?side1 ?side2 A6.out).mono ?_); (case side1 => exact si HI0.out); (case side2 => exact bi HB.out); rintro e w37 ⟨rfl, hi, hb, hk⟩; refine ⟨_, rfl, ?_⟩; have n0_ := Aside0.mk (Kd.R_mono (Kd.R_keep (IsS107.apart (show IsS107 w0 _ g s0_0 x1001_1 x1002_1 from si HI0.out) (kr HO_3.out) (by decide)) hk (fun _ h => h.2)) (fun _ h => h.1)); have n1_ := Aside0.mk (KeepBut.trans (kp HK.out) hk (.inl rfl)); have n2_ := Aside0.mk (hb); have n3_ := Aside0.mk (hi); clear HO_3; clear HK; clear HB; clear HI0; have HO_3 := n0_; have HK := n1_; have HB := n2_; have HI0 := n3_; clear n0_ n1_ n2_ n3_; (try clear hb); (try clear hb2); (try clear hk); (try clear hi)))
        go_roundg k1
        case measure => have := HK1.out; omega
        case rel => exact ⟨(x3_1), (wrap64 (x4_1 + 1)), (t163), (t164), (by first | rfl | (simp; done) | (simp [*]; done)), H', ⟨by have := HK1.out; omega⟩, ⟨kr HO_3.out⟩, ⟨si HI0.out⟩, ⟨kp HK.out⟩, ⟨bi HB.out⟩⟩
    ·rw [if_neg c5] at H
     have c5b0 : decide (x4_1 < 256) = false := decide_eq_false c5
     clear c5
     simp only [Option.some.injEq, Prod.mk.injEq] at H
     obtain ⟨rfl, rfl, rfl⟩ := H
     go_wp2
     go_ret
     exact ⟨_, rt, kr HO_3.out, si HI0.out, bi HB.out, kp HK.out⟩
 ·rw [if_neg c2] at H
  exact absurd H (by simp)

/-! ### spec_Byte: function 71 -/
def spec_Byte.f (a0 : Int) : Option (Int) := some (Go.bits .and .i64 a0 255)
set_option maxHeartbeats 8000000 in
set_option maxRecDepth 100000 in
theorem spec_Byte.calls (a0 : Int) (r : Int) (w : World) (h : spec_Byte.f a0 = some r) :
  Calls Try.prog 71 #[.int .i64 a0] w fun e w' => e = .returned (.int .i64 r) ∧ Drawn0 w w' := by
 have H : (some (Go.bits .and .i64 a0 255)) = some r := h
 clear h
 obtain rfl := Option.some.inj H
 go_enter Try.func71, Try.ntmps71
 go_wp2
 go_ret
 exact ⟨by first | rfl | (simp; done) | (simp [*]; done), by repeat (first | exact Drawn0.refl _ | apply Drawn0.step)⟩

/-! ### spec_l1In: function 68 -/
def spec_l1In.f (a0 : Int) (a1 : Int) (a2 : Int) : Option (Bool) := if a0 ≥ a1 then (some (decide (a0 ≤ a2))) else (some false)
set_option maxHeartbeats 8000000 in
set_option maxRecDepth 100000 in
theorem spec_l1In.calls (a0 : Int) (a1 : Int) (a2 : Int) (r : Bool) (w : World) (h : spec_l1In.f a0 a1 a2 = some r) :
  Calls Try.prog 68 #[.int .i64 a0, .int .i64 a1, .int .i64 a2] w fun e w' => e = .returned (.bool r) ∧ Drawn0 w w' := by
 have H : (if a0 ≥ a1 then (some (decide (a0 ≤ a2))) else (some false)) = some r := h
 clear h
 by_cases c4 : a0 ≥ a1
 ·rw [if_pos c4] at H
  have c4b0 : decide (a1 ≤ a0) = true := decide_eq_true c4
  clear c4
  obtain rfl := Option.some.inj H
  go_enter Try.func68, Try.ntmps68
  go_wp2
  go_ret
  exact ⟨by first | rfl | (simp; done) | (simp [*]; done), by repeat (first | exact Drawn0.refl _ | apply Drawn0.step)⟩
 ·rw [if_neg c4] at H
  have c4b0 : decide (a1 ≤ a0) = false := decide_eq_false c4
  clear c4
  obtain rfl := Option.some.inj H
  go_enter Try.func68, Try.ntmps68
  go_wp2
  go_ret
  exact ⟨by first | rfl | (simp; done) | (simp [*]; done), by repeat (first | exact Drawn0.refl _ | apply Drawn0.step)⟩

/-! ### spec_OpLen: function 81 -/
def spec_OpLen.f (a0 : Int) : Option (Int) := (spec_l1In.f a0 0 29).bind fun t180 => (if t180 = true then ((some (([1, 2, 3, 3, 2, 2, 2, 2, 2, 2, 1, 1, 1, 1, 3, 3, 3, 3, 3, 3, 3, 1, 1, 1, 1, 1, 1, 1, 1, 3] : List Int) : List Int)).bind fun y181 => (if 0 ≤ a0 then (if a0 < (y181.length : Int) then (some (rd y181 a0)) else (none)) else (none))) else (some 1))
set_option maxHeartbeats 8000000 in
set_option maxRecDepth 100000 in
theorem spec_OpLen.calls (a0 : Int) (r : Int) (w : World) (h : spec_OpLen.f a0 = some r) :
  Calls Try.prog 81 #[.int .i64 a0] w fun e w' => e = .returned (.int .i64 r) ∧ Below w.heap.size w w' := by
 have HB := Aside0.mk (Below.refl w.heap.size w)
 have H : ((spec_l1In.f a0 0 29).bind fun t180 => (if t180 = true then ((some (([1, 2, 3, 3, 2, 2, 2, 2, 2, 2, 1, 1, 1, 1, 3, 3, 3, 3, 3, 3, 3, 1, 1, 1, 1, 1, 1, 1, 1, 3] : List Int) : List Int)).bind fun y181 => (if 0 ≤ a0 then (if a0 < (y181.length : Int) then (some (rd y181 a0)) else (none)) else (none))) else (some 1))) = some r := h
 clear h
 replace H := Option.bind_eq_some_iff.mp H
 obtain ⟨t180, A20, H⟩ := H
 replace H : (if t180 = true then ((some (([1, 2, 3, 3, 2, 2, 2, 2, 2, 2, 1, 1, 1, 1, 3, 3, 3, 3, 3, 3, 3, 1, 1, 1, 1, 1, 1, 1, 1, 3] : List Int) : List Int)).bind fun y181 => (if 0 ≤ a0 then (if a0 < (y181.length : Int) then (some (rd y181 a0)) else (none)) else (none))) else (some 1)) = some r := H
 have A2 := Aside0.mk A20
 clear A20
 by_cases c3 : t180 = true
 ·subst c3
  have H1 : ((some (([1, 2, 3, 3, 2, 2, 2, 2, 2, 2, 1, 1, 1, 1, 3, 3, 3, 3, 3, 3, 3, 1, 1, 1, 1, 1, 1, 1, 1, 3] : List Int) : List Int)).bind fun y181 => (if 0 ≤ a0 then (if a0 < (y181.length : Int) then (some (rd y181 a0)) else (none)) else (none))) = some r := by rw [if_pos rfl] at H; exact H
  clear H
  have H := H1
  clear H1
  obtain ⟨y181, hy181⟩ : ∃ y_ : List Int, y_ = (([1, 2, 3, 3, 2, 2, 2, 2, 2, 2, 1, 1, 1, 1, 3, 3, 3, 3, 3, 3, 3, 1, 1, 1, 1, 1, 1, 1, 1, 3] : List Int)) := ⟨_, rfl⟩
  replace H : (if 0 ≤ a0 then (if a0 < (y181.length : Int) then (some (rd y181 a0)) else (none)) else (none)) = some r := by first | (rw [hy181]; with_reducible exact H) | (have H2_ := (Option.bind_some _ _).symm.trans H; rw [hy181]; with_reducible exact H2_) | (have H2_ := (Option.bind_some _ _).symm.trans H; with_reducible exact H2_) | with_reducible exact H | (rw [hy181]; exact H) | exact H
  have Ny181 := Aside0.mk hy181
  clear hy181
  by_cases c4 : 0 ≤ a0
  ·rw [if_pos c4] at H
   have c4b0 : decide (0 ≤ a0) = true := decide_eq_true c4
   clear c4
   by_cases c5 : a0 < (y181.length : Int)
   ·rw [if_pos c5] at H
    have c5b0 : decide (a0 < (y181.length : Int)) = true := decide_eq_true c5
    clear c5
    obtain rfl := Option.some.inj H
    go_enter Try.func81, Try.ntmps81
    go_wp2_with (first | ((with_reducible refine gate_callee (f := 68) rfl ?_); refine goesM_ (some 4) rfl rfl Try.func68 #[.int .i64 a0, .int .i64 0, .int .i64 29] ?_; (with_reducible refine (spec_l1In.calls a0 0 29 true _ A2.out).mono ?_); rintro e w' ⟨rfl, ⟨nd, rfl⟩⟩; refine ⟨_, rfl, ?_⟩) | ((with_reducible refine gate_dst (N := 6) rfl ?_); refine Kd.R_lit (Kd.int .i64) _ 3 ?hg (N := 6) ?hd (xs := ([1, 2, 3, 3, 2, 2, 2, 2, 2, 2, 1, 1, 1, 1, 3, 3, 3, 3, 3, 3, 3, 1, 1, 1, 1, 1, 1, 1, 1, 3] : List Int)) (inner := [.int .i64 1, .int .i64 2, .int .i64 3, .int .i64 3, .int .i64 2, .int .i64 2, .int .i64 2, .int .i64 2, .int .i64 2, .int .i64 2, .int .i64 1, .int .i64 1, .int .i64 1, .int .i64 1, .int .i64 3, .int .i64 3, .int .i64 3, .int .i64 3, .int .i64 3, .int .i64 3, .int .i64 3, .int .i64 1, .int .i64 1, .int .i64 1, .int .i64 1, .int .i64 1, .int .i64 1, .int .i64 1, .int .i64 1, .int .i64 3]) (ok := fun _ => True) (okp := fun _ => True) ?hr ?hp (fun _ hk => hk) trivial (Below.refl _ _) (Nat.le_refl _) (by simp) ?_; (case hd => rfl); (case hg => rfl); (case hr => first | (go_simp; done) | (go_simp; rfl)); (case hp => exact (Reps.one (show Kd.M (Kd.int .i64) _ _ _ 1 [.int .i64 1] from rfl) (Reps.one (show Kd.M (Kd.int .i64) _ _ _ 2 [.int .i64 2] from rfl) (Reps.one (show Kd.M (Kd.int .i64) _ _ _ 3 [.int .i64 3] from rfl) (Reps.one (show Kd.M (Kd.int .i64) _ _ _ 3 [.int .i64 3] from rfl) (Reps.one (show Kd.M (Kd.int .i64) _ _ _ 2 [.int .i64 2] from rfl) (Reps.one (show Kd.M (Kd.int .i64) _ _ _ 2 [.int .i64 2] from rfl) (Reps.one (show Kd.M (Kd.int .i64) _ _ _ 2 [.int .i64 2] from rfl) (Reps.one (show Kd.M (Kd.int .i64) _ _ _ 2 [.int .i64 2] from rfl) (Reps.one (show Kd.M (Kd.int .i64) _ _ _ 2 [.int .i64 2] from rfl) (Reps.one (show Kd.M (Kd.int .i64) _ _ _ 2 [.int .i64 2] from rfl) (Reps.one (show Kd.M (Kd.int .i64) _ _ _ 1 [.int .i64 1] from rfl) (Reps.one (show Kd.M (Kd.int .i64) _ _ _ 1 [.int .i64 1] from rfl) (Reps.one (show Kd.M (Kd.int .i64) _ _ _ 1 [.int .i64 1] from rfl) (Reps.one (show Kd.M (Kd.int .i64) _ _ _ 1 [.int .i64 1] from rfl) (Reps.one (show Kd.M (Kd.int .i64) _ _ _ 3 [.int .i64 3] from rfl) (Reps.one (show Kd.M (Kd.int .i64) _ _ _ 3 [.int .i64 3] from rfl) (Reps.one (show Kd.M (Kd.int .i64) _ _ _ 3 [.int .i64 3] from rfl) (Reps.one (show Kd.M (Kd.int .i64) _ _ _ 3 [.int .i64 3] from rfl) (Reps.one (show Kd.M (Kd.int .i64) _ _ _ 3 [.int .i64 3] from rfl) (Reps.one (show Kd.M (Kd.int .i64) _ _ _ 3 [.int .i64 3] from rfl) (Reps.one (show Kd.M (Kd.int .i64) _ _ _ 3 [.int .i64 3] from rfl) (Reps.one (show Kd.M (Kd.int .i64) _ _ _ 1 [.int .i64 1] from rfl) (Reps.one (show Kd.M (Kd.int .i64) _ _ _ 1 [.int .i64 1] from rfl) (Reps.one (show Kd.M (Kd.int .i64) _ _ _ 1 [.int .i64 1] from rfl) (Reps.one (show Kd.M (Kd.int .i64) _ _ _ 1 [.int .i64 1] from rfl) (Reps.one (show Kd.M (Kd.int .i64) _ _ _ 1 [.int .i64 1] from rfl) (Reps.one (show Kd.M (Kd.int .i64) _ _ _ 1 [.int .i64 1] from rfl) (Reps.one (show Kd.M (Kd.int .i64) _ _ _ 1 [.int .i64 1] from rfl) (Reps.one (show Kd.M (Kd.int .i64) _ _ _ 1 [.int .i64 1] from rfl) (Reps.one (show Kd.M (Kd.int .i64) _ _ _ 3 [.int .i64 3] from rfl) (Reps.none _ _)))))))))))))))))))))))))))))))); intro v182 w6 ho7 hb hg_ hnew_; clear hg_ hnew_; (first | rw [← Ny181.out] at ho7 | (simp only [Int.reduceToNat] at ho7; rw [← Ny181.out] at ho7)); have n0_ := Aside0.mk (Kd.R_lower ho7 (below_size (bw HB.out))); have n1_ := Aside0.mk (below_step (bw HB.out) hb); clear HB; have HO183 := n0_; have HB := n1_; clear n0_ n1_; clear hb ho7; obtain ⟨Ao8, co8, eo8⟩ := Kd.R_slice HO183.out; subst eo8; have p184 : 0 ≤ (a0 : Int) := dt; have q184 : a0 < (y181.length : Int) := dt; obtain ⟨ad184, e184, hx184_0⟩ := Kd.at_int (Kd.R_reads' HO183.out).2.2 a0 p184 q184; cases e184; replace p184 := eq_true p184; replace q184 := eq_true q184))
    go_ret
    exact ⟨rt, bw HB.out⟩
   ·rw [if_neg c5] at H
    exact absurd H (by simp)
  ·rw [if_neg c4] at H
   exact absurd H (by simp)
 ·replace c3 := Bool.eq_false_iff.mpr c3
  subst c3
  have H1 : (some 1) = some r := by rw [if_neg (show ¬ (false = true) by decide)] at H; exact H
  clear H
  have H := H1
  clear H1
  obtain rfl := Option.some.inj H
  go_enter Try.func81, Try.ntmps81
  go_wp2_with (first | ((with_reducible refine gate_callee (f := 68) rfl ?_); refine goesM_ (some 4) rfl rfl Try.func68 #[.int .i64 a0, .int .i64 0, .int .i64 29] ?_; (with_reducible refine (spec_l1In.calls a0 0 29 false _ A2.out).mono ?_); rintro e w' ⟨rfl, ⟨nd, rfl⟩⟩; refine ⟨_, rfl, ?_⟩))
  go_ret
  exact ⟨rt, bw HB.out⟩

/-! ### spec_l4Digits: function 133 -/
def spec_l4Digits.l0 : Nat → Int → ByteArray → Option (ByteArray)
 | 0, _, _ => none
 | k + 1, x0, x3 => if x0 > 0 then ((some (([(wrap64 (48 + (Int.tmod x0 10))) % 256] : List Int) : List Int)).bind fun y185 => (if (strOfNums y185).size + x3.size ≤ 9223372036854775807 then (spec_l4Digits.l0 k (wrap64 (Int.tdiv x0 10)) ((strOfNums y185) ++ x3)) else (none))) else (some x3)
def spec_l4Digits.f (k : Nat) (a0 : Int) : Option (ByteArray) := if a0 = 0 then (some (⟨#[48]⟩ : ByteArray)) else (spec_l4Digits.l0 k a0 (⟨#[]⟩ : ByteArray))
set_option maxHeartbeats 8000000 in
set_option maxRecDepth 100000 in
theorem spec_l4Digits.calls (k : Nat) (a0 : Int) (r : ByteArray) (w : World) (h : spec_l4Digits.f k a0 = some r) :
  Calls Try.prog 133 #[.int .i64 a0] w fun e w' => e = .returned (.string r) ∧ Below w.heap.size w w' := by
 have HB := Aside0.mk (Below.refl w.heap.size w)
 have H : (if a0 = 0 then (some (⟨#[48]⟩ : ByteArray)) else (spec_l4Digits.l0 k a0 (⟨#[]⟩ : ByteArray))) = some r := h
 clear h
 by_cases c2 : a0 = 0
 ·rw [if_pos c2] at H
  have c2b0 : (a0 == 0) = true := beq_iff_eq.mpr c2
  have c2b1 : (a0 != 0) = false := bne_eq_false_iff_eq.mpr c2
  clear c2
  obtain rfl := Option.some.inj H
  go_enter Try.func133, Try.ntmps133
  go_wp2
  go_ret
  exact ⟨rt, bw HB.out⟩
 ·rw [if_neg c2] at H
  have c2b0 : (a0 == 0) = false := beq_eq_false_iff_ne.mpr c2
  have c2b1 : (a0 != 0) = true := bne_iff_ne.mpr c2
  have H' := Aside0.mk H
  clear H
  go_enter Try.func133, Try.ntmps133
  go_wp2
  go_loopg [0, 3] k (fun kq v0 v3 w' => ∃ (x0_1 : Int) (x3_1 : ByteArray), v0 = .int .i64 x0_1 ∧ v3 = .string x3_1 ∧ Aside0 (spec_l4Digits.l0 kq x0_1 x3_1 = some r) ∧ Aside0 (kq ≤ k) ∧ Aside0 (Below w.heap.size w w'))
  case atStart => exact ⟨(a0), ((⟨#[]⟩ : ByteArray)), (by first | rfl | (simp; done) | (simp [*]; done)), (by first | rfl | (simp; done) | (simp [*]; done)), H', ⟨Nat.le_refl _⟩, ⟨bw HB.out⟩⟩
  case round =>
   clear H'
   (try clear c1); (try clear c2); (try clear c2b0); (try clear c2b1); (try clear p2)
   obtain ⟨x0_1, x3_1, rfl, rfl, HA, HK1, HB⟩ := hrel
   cases gk with
   | zero => exact absurd HA.out (by simp [spec_l4Digits.l0])
   | succ k1 =>
    have H := HA.out
    clear HA
    simp only [spec_l4Digits.l0] at H
    by_cases c3 : x0_1 > 0
    ·rw [if_pos c3] at H
     have c3b0 : decide (0 < x0_1) = true := decide_eq_true c3
     clear c3
     obtain ⟨y185, hy185⟩ : ∃ y_ : List Int, y_ = (([(wrap64 (48 + (Int.tmod x0_1 10))) % 256] : List Int)) := ⟨_, rfl⟩
     replace H : (if (strOfNums y185).size + x3_1.size ≤ 9223372036854775807 then (spec_l4Digits.l0 k1 (wrap64 (Int.tdiv x0_1 10)) ((strOfNums y185) ++ x3_1)) else (none)) = some r := by first | (rw [hy185]; with_reducible exact H) | (have H2_ := (Option.bind_some _ _).symm.trans H; rw [hy185]; with_reducible exact H2_) | (have H2_ := (Option.bind_some _ _).symm.trans H; with_reducible exact H2_) | with_reducible exact H | (rw [hy185]; exact H) | exact H
     have Ny185 := Aside0.mk hy185
     clear hy185
     by_cases c4 : (strOfNums y185).size + x3_1.size ≤ 9223372036854775807
     ·rw [if_pos c4] at H
      have c4b0 := eq_true c4
      have c4b1 : decide ((strOfNums y185).size + x3_1.size ≤ 9223372036854775807) = true := decide_eq_true c4
      try have c4b2 : (9223372036854775807 < (strOfNums y185).size + x3_1.size) = False := eq_false (Nat.not_lt.2 c4)
      have H' := Aside0.mk H
      clear H
      go_wp2_with (first | ((with_reducible refine gate_dst (N := 12) rfl ?_); refine Kd.R_lit (Kd.int .u8) _ 5 ?hg (N := 12) ?hd (xs := ([(wrap64 (48 + (Int.tmod x0_1 10))) % 256] : List Int)) (inner := [.int .u8 ((wrap64 (48 + (Int.tmod x0_1 10))) % 256)]) (ok := fun _ => True) (okp := fun _ => True) ?hr ?hp (fun _ hk => hk) trivial (Below.refl _ _) (Nat.le_refl _) (by simp) ?_; (case hd => rfl); (case hg => rfl); (case hr => first | (go_simp; done) | (go_simp; rfl)); (case hp => exact (Reps.one (show Kd.M (Kd.int .u8) _ _ _ ((wrap64 (48 + (Int.tmod x0_1 10))) % 256) [.int .u8 ((wrap64 (48 + (Int.tmod x0_1 10))) % 256)] from rfl) (Reps.none _ _))); intro v186 w5 ho6 hb hg_ hnew_; clear hg_ hnew_; (first | rw [← Ny185.out] at ho6 | (simp only [Int.reduceToNat] at ho6; rw [← Ny185.out] at ho6)); have n0_ := Aside0.mk (Kd.R_lower ho6 (below_size (bw HB.out))); have n1_ := Aside0.mk (below_step (bw HB.out) hb); clear HB; have HO187 := n0_; have HB := n1_; clear n0_ n1_; clear hb ho6; have hcv7 := own_string (P := Try.prog) Try.underlying22 Try.underlying5 Try.underlying9 (Kd.own_of_R HO187.out)))
      go_roundg k1
      case measure => have := HK1.out; omega
      case rel => exact ⟨(wrap64 (Int.tdiv x0_1 10)), ((strOfNums y185) ++ x3_1), (by first | rfl | (simp; done) | (simp [*]; done)), (by first | rfl | (simp; done) | (simp [*]; done)), H', ⟨by have := HK1.out; omega⟩, ⟨bw HB.out⟩⟩
     ·rw [if_neg c4] at H
      exact absurd H (by simp)
    ·rw [if_neg c3] at H
     have c3b0 : decide (0 < x0_1) = false := decide_eq_false c3
     clear c3
     obtain rfl := Option.some.inj H
     go_wp2
     go_ret
     exact ⟨rt, bw HB.out⟩

/-! ### spec_l4Num: function 131 -/
mutual
def spec_l4Num.j0 : Nat → ByteArray → Bool → Option (Int)
 | 0, _, _ => none
 | k + 1, x0, x11 => if x11 = true then (some (-1)) else (spec_l4Num.l0 k x0 0 0)
def spec_l4Num.l0 : Nat → ByteArray → Int → Int → Option (Int)
 | 0, _, _, _ => none
 | k + 1, x0, x3, x4 => if x4 < (x0.size : Int) then (if 0 ≤ x4 then (if (bt x0 x4) < 48 then (some (-1)) else (if (bt x0 x4) > 57 then (some (-1)) else (spec_l4Num.l0 k x0 (wrap64 ((wrap64 ((wrap64 (10 * x3)) + (wrap64 (bt x0 x4)))) - 48)) (wrap64 (x4 + 1))))) else (none)) else ((spec_l4Digits.f k x3).bind fun t188 => (if t188.toList = x0.toList then (some x3) else (some (-1))))
end
def spec_l4Num.f (k : Nat) (a0 : ByteArray) : Option (Int) := if a0.toList = ([] : List UInt8) then (spec_l4Num.j0 k a0 true) else (spec_l4Num.j0 k a0 (decide ((a0.size : Int) > 5)))
set_option maxHeartbeats 8000000 in
set_option maxRecDepth 100000 in
theorem spec_l4Num.calls (k : Nat) (a0 : ByteArray) (r : Int) (w : World) (h : spec_l4Num.f k a0 = some r) :
  Calls Try.prog 131 #[.string a0] w fun e w' => e = .returned (.int .i64 r) ∧ Below w.heap.size w w' := by
 have HB := Aside0.mk (Below.refl w.heap.size w)
 have H : (if a0.toList = ([] : List UInt8) then (spec_l4Num.j0 k a0 true) else (spec_l4Num.j0 k a0 (decide ((a0.size : Int) > 5)))) = some r := h
 clear h
 have HC2 := Aside0.mk H
 clear H
 go_enter Try.func131, Try.ntmps131
 go_upto_region 1 with (fail)
 go_cut [11] (fun v11 wc => ∃ (kq : Nat) (x11_1 : Bool), v11 = .bool x11_1 ∧ Aside0 (spec_l4Num.j0 kq a0 x11_1 = some r) ∧ Aside0 (kq ≤ k) ∧ Aside0 (Below w.heap.size w wc))
 case first =>
  have H := HC2.out
  clear HC2
  by_cases c3 : a0.toList = ([] : List UInt8)
  ·rw [if_pos c3] at H
   have c3b0 : (a0.toList == ([] : List UInt8)) = true := beq_iff_eq.mpr c3
   have c3b1 : (a0.toList != ([] : List UInt8)) = false := bne_eq_false_iff_eq.mpr c3
   clear c3
   (first | rw [c3b0] | (simp only [i64_w, i32_w]; rw [c3b0]) | skip)
   have H' := Aside0.mk H
   clear H
   go_wp2
   go_meet
   case rel => exact ⟨_, (true), (by first | rfl | (simp; done) | (simp [*]; done)), H', ⟨by first | omega | exact Nat.le_refl _⟩, ⟨bw HB.out⟩⟩
  ·rw [if_neg c3] at H
   have c3b0 : (a0.toList == ([] : List UInt8)) = false := beq_eq_false_iff_ne.mpr c3
   have c3b1 : (a0.toList != ([] : List UInt8)) = true := bne_iff_ne.mpr c3
   (first | rw [c3b0] | (simp only [i64_w, i32_w]; rw [c3b0]) | skip)
   have H' := Aside0.mk H
   clear H
   go_wp2
   go_meet
   case rel => exact ⟨_, (decide ((a0.size : Int) > 5)), (by first | rfl | (simp; done) | (simp [*]; done)), H', ⟨by first | omega | exact Nat.le_refl _⟩, ⟨bw HB.out⟩⟩
 case rest =>
  clear HC2; (try clear c1); (try clear p2); (try clear c3); (try clear c3b0); (try clear c3b1)
  obtain ⟨kq, x11_1, rfl, HA, HJ1, HB⟩ := hcut
  cases kq with
  | zero => exact absurd HA.out (by simp [spec_l4Num.j0])
  | succ kj1 =>
   have H := HA.out
   clear HA
   simp only [spec_l4Num.j0] at H
   by_cases c4 : x11_1 = true
   ·subst c4
    have H1 : (some (-1)) = some r := by rw [if_pos rfl] at H; exact H
    clear H
    have H := H1
    clear H1
    obtain rfl := Option.some.inj H
    go_wp2
    go_ret
    exact ⟨rt, bw HB.out⟩
   ·replace c4 := Bool.eq_false_iff.mpr c4
    subst c4
    have H1 : (spec_l4Num.l0 kj1 a0 0 0) = some r := by rw [if_neg (show ¬ (false = true) by decide)] at H; exact H
    clear H
    have H := H1
    clear H1
    have H' := Aside0.mk H
    clear H
    go_wp2
    go_loopg [3, 4] kj1 (fun kq v3 v4 w' => ∃ (x3_2 : Int) (x4_2 : Int), v3 = .int .i64 x3_2 ∧ v4 = .int .i64 x4_2 ∧ Aside0 (spec_l4Num.l0 kq a0 x3_2 x4_2 = some r) ∧ Aside0 (kq ≤ kj1) ∧ Aside0 (Below w.heap.size w w'))
    case atStart => exact ⟨(0), (0), (by first | rfl | (simp; done) | (simp [*]; done)), (by first | rfl | (simp; done) | (simp [*]; done)), H', ⟨Nat.le_refl _⟩, ⟨bw HB.out⟩⟩
    case round =>
     clear H'
     (try clear c1); (try clear p2); (try clear c3); (try clear c3b0); (try clear c3b1); (try clear c4); (try clear p2)
     obtain ⟨x3_2, x4_2, rfl, rfl, HA, HK2, HB⟩ := hrel
     cases gk with
     | zero => exact absurd HA.out (by simp [spec_l4Num.l0])
     | succ k2 =>
      have H := HA.out
      clear HA
      simp only [spec_l4Num.l0] at H
      by_cases c5 : x4_2 < (a0.size : Int)
      ·rw [if_pos c5] at H
       have c5b0 : decide (x4_2 < (a0.size : Int)) = true := decide_eq_true c5
       clear c5
       by_cases c6 : 0 ≤ x4_2
       ·rw [if_pos c6] at H
        have c6b0 : decide (0 ≤ x4_2) = true := decide_eq_true c6
        clear c6
        by_cases c8 : (bt a0 x4_2) < 48
        ·rw [if_pos c8] at H
         have c8b0 : decide ((bt a0 x4_2) < 48) = true := decide_eq_true c8
         clear c8
         obtain rfl := Option.some.inj H
         have p7 : 0 ≤ (x4_2 : Int) := dt
         have q7 : x4_2 < (a0.size : Int) := dt
         have hx7 := bt_at a0 x4_2
         replace p7 := eq_true p7
         replace q7 := eq_true q7
         go_wp2
         go_ret
         exact ⟨rt, bw HB.out⟩
        ·rw [if_neg c8] at H
         have c8b0 : decide ((bt a0 x4_2) < 48) = false := decide_eq_false c8
         clear c8
         by_cases c10 : (bt a0 x4_2) > 57
         ·rw [if_pos c10] at H
          have c10b0 : decide (57 < (bt a0 x4_2)) = true := decide_eq_true c10
          clear c10
          obtain rfl := Option.some.inj H
          have p7 : 0 ≤ (x4_2 : Int) := dt
          have q7 : x4_2 < (a0.size : Int) := dt
          have hx7 := bt_at a0 x4_2
          replace p7 := eq_true p7
          replace q7 := eq_true q7
          have p9 : 0 ≤ (x4_2 : Int) := dt
          have q9 : x4_2 < (a0.size : Int) := dt
          have hx9 := bt_at a0 x4_2
          replace p9 := eq_true p9
          replace q9 := eq_true q9
          go_wp2
          go_ret
          exact ⟨rt, bw HB.out⟩
         ·rw [if_neg c10] at H
          have c10b0 : decide (57 < (bt a0 x4_2)) = false := decide_eq_false c10
          clear c10
          have H' := Aside0.mk H
          clear H
          have p7 : 0 ≤ (x4_2 : Int) := dt
          have q7 : x4_2 < (a0.size : Int) := dt
          have hx7 := bt_at a0 x4_2
          replace p7 := eq_true p7
          replace q7 := eq_true q7
          have p9 : 0 ≤ (x4_2 : Int) := dt
          have q9 : x4_2 < (a0.size : Int) := dt
          have hx9 := bt_at a0 x4_2
          replace p9 := eq_true p9
          replace q9 := eq_true q9
          have p11 : 0 ≤ (x4_2 : Int) := dt
          have q11 : x4_2 < (a0.size : Int) := dt
          have hx11 := bt_at a0 x4_2
          replace p11 := eq_true p11
          replace q11 := eq_true q11
          go_wp2
          go_roundg k2
          case measure => have := HJ1.out; have := HK2.out; omega
          case rel => exact ⟨(wrap64 ((wrap64 ((wrap64 (10 * x3_2)) + (wrap64 (bt a0 x4_2)))) - 48)), (wrap64 (x4_2 + 1)), (by first | rfl | (simp; done) | (simp [*]; done)), (by first | rfl | (simp; done) | (simp [*]; done)), H', ⟨by have := HJ1.out; have := HK2.out; omega⟩, ⟨bw HB.out⟩⟩
       ·rw [if_neg c6] at H
        exact absurd H (by simp)
      ·rw [if_neg c5] at H
       have c5b0 : decide (x4_2 < (a0.size : Int)) = false := decide_eq_false c5
       clear c5
       replace H := Option.bind_eq_some_iff.mp H
       obtain ⟨t188, A120, H⟩ := H
       replace H : (if t188.toList = a0.toList then (some x3_2) else (some (-1))) = some r := H
       have A12 := Aside0.mk A120
       clear A120
       by_cases c13 : t188.toList = a0.toList
       ·rw [if_pos c13] at H
        have c13b0 : (t188.toList == a0.toList) = true := beq_iff_eq.mpr c13
        have c13b1 : (t188.toList != a0.toList) = false := bne_eq_false_iff_eq.mpr c13
        clear c13
        obtain rfl := Option.some.inj H
        go_wp2_with (first | ((with_reducible refine gate_callee (f := 133) rfl ?_); refine goesM_ (some 37) rfl rfl Try.func133 #[.int .i64 x3_2] ?_; (with_reducible refine (spec_l4Digits.calls k2 x3_2 t188 _ A12.out).mono ?_); rintro e w14 ⟨rfl, hb⟩; refine ⟨_, rfl, ?_⟩; have n0_ := Aside0.mk (below_step (bw HB.out) hb); clear HB; have HB := n0_; clear n0_; (try clear hb); (try clear hb2); (try clear hk); (try clear hi)))
        go_ret
        exact ⟨rt, bw HB.out⟩
       ·rw [if_neg c13] at H
        have c13b0 : (t188.toList == a0.toList) = false := beq_eq_false_iff_ne.mpr c13
        have c13b1 : (t188.toList != a0.toList) = true := bne_iff_ne.mpr c13
        obtain rfl := Option.some.inj H
        go_wp2_with (first | ((with_reducible refine gate_callee (f := 133) rfl ?_); refine goesM_ (some 37) rfl rfl Try.func133 #[.int .i64 x3_2] ?_; (with_reducible refine (spec_l4Digits.calls k2 x3_2 t188 _ A12.out).mono ?_); rintro e w15 ⟨rfl, hb⟩; refine ⟨_, rfl, ?_⟩; have n0_ := Aside0.mk (below_step (bw HB.out) hb); clear HB; have HB := n0_; clear n0_; (try clear hb); (try clear hb2); (try clear hk); (try clear hi)))
        go_ret
        exact ⟨rt, bw HB.out⟩

/-! ### spec_l4Line: function 129 -/
def spec_l4Line.l0 : Nat → ByteArray → Int → Option (ByteArray × Int × Bool)
 | 0, _, _ => none
 | k + 1, x0, x5 => if x5 < (x0.size : Int) then (if 0 ≤ x5 then (if (bt x0 x5) = 32 then (if 0 ≤ (wrap64 (x5 + 1)) then (if (wrap64 (x5 + 1)) ≤ (x0.size : Int) then ((spec_l4Num.f k (x0.extract ((wrap64 (x5 + 1)) : Int).toNat x0.size)).bind fun t189 => (if x5 ≤ (x0.size : Int) then (some (x0.extract 0 (x5 : Int).toNat, t189, decide (t189 ≥ 0))) else (none))) else (none)) else (none)) else (spec_l4Line.l0 k x0 (wrap64 (x5 + 1)))) else (none)) else (some (x0, (-1), true))
def spec_l4Line.f (k : Nat) (a0 : ByteArray) : Option (ByteArray × Int × Bool) := spec_l4Line.l0 k a0 0
set_option maxHeartbeats 8000000 in
set_option maxRecDepth 100000 in
theorem spec_l4Line.calls (k : Nat) (a0 : ByteArray) (r1 : ByteArray) (r2 : Int) (r3 : Bool) (w : World) (h : spec_l4Line.f k a0 = some (r1, r2, r3)) :
  Calls Try.prog 129 #[.string a0] w fun e w' => e = .returned (.tuple #[.string r1, .int .i64 r2, .bool r3]) ∧ Below w.heap.size w w' := by
 have HB := Aside0.mk (Below.refl w.heap.size w)
 have H : (spec_l4Line.l0 k a0 0) = some (r1, r2, r3) := h
 clear h
 have H' := Aside0.mk H
 clear H
 go_enter Try.func129, Try.ntmps129
 go_wp2
 go_loopg [5] k (fun kq v5 w' => ∃ (x5_1 : Int), v5 = .int .i64 x5_1 ∧ Aside0 (spec_l4Line.l0 kq a0 x5_1 = some (r1, r2, r3)) ∧ Aside0 (kq ≤ k) ∧ Aside0 (Below w.heap.size w w'))
 case atStart => exact ⟨(0), (by first | rfl | (simp; done) | (simp [*]; done)), H', ⟨Nat.le_refl _⟩, ⟨bw HB.out⟩⟩
 case round =>
  clear H'
  (try clear c1)
  obtain ⟨x5_1, rfl, HA, HK1, HB⟩ := hrel
  cases gk with
  | zero => exact absurd HA.out (by simp [spec_l4Line.l0])
  | succ k1 =>
   have H := HA.out
   clear HA
   simp only [spec_l4Line.l0] at H
   by_cases c2 : x5_1 < (a0.size : Int)
   ·rw [if_pos c2] at H
    have c2b0 : decide (x5_1 < (a0.size : Int)) = true := decide_eq_true c2
    clear c2
    by_cases c3 : 0 ≤ x5_1
    ·rw [if_pos c3] at H
     have c3b0 : decide (0 ≤ x5_1) = true := decide_eq_true c3
     clear c3
     by_cases c5 : (bt a0 x5_1) = 32
     ·rw [if_pos c5] at H
      have c5b0 : ((bt a0 x5_1) == 32) = true := beq_iff_eq.mpr c5
      have c5b1 : ((bt a0 x5_1) != 32) = false := bne_eq_false_iff_eq.mpr c5
      clear c5
      obtain ⟨ji6, hji6⟩ : ∃ j_ : Int, (wrap64 (x5_1 + 1)) = j_ := ⟨_, rfl⟩
      replace H : (if 0 ≤ (ji6) then (if (ji6) ≤ (a0.size : Int) then ((spec_l4Num.f k1 (a0.extract ((ji6) : Int).toNat a0.size)).bind fun t189 => (if x5_1 ≤ (a0.size : Int) then (some (a0.extract 0 (x5_1 : Int).toNat, t189, decide (t189 ≥ 0))) else (none))) else (none)) else (none)) = some (r1, r2, r3) := by first | (rw [hji6] at H; exact H) | (simp only [hji6] at H ⊢; exact H)
      have hji6w : (IntKind.i64.wrap (x5_1 + 1)) = ji6 := (i64_w _).trans hji6
      by_cases c7 : 0 ≤ (ji6)
      ·rw [if_pos c7] at H
       have c7b0 := eq_true c7
       have c7b1 : decide (0 ≤ (ji6)) = true := decide_eq_true c7
       clear c7
       by_cases c8 : (ji6) ≤ (a0.size : Int)
       ·rw [if_pos c8] at H
        have c8b0 := eq_true c8
        have c8b1 : decide ((ji6) ≤ (a0.size : Int)) = true := decide_eq_true c8
        clear c8
        replace H := Option.bind_eq_some_iff.mp H
        obtain ⟨t189, A90, H⟩ := H
        replace H : (if x5_1 ≤ (a0.size : Int) then (some (a0.extract 0 (x5_1 : Int).toNat, t189, decide (t189 ≥ 0))) else (none)) = some (r1, r2, r3) := H
        have A9 := Aside0.mk A90
        clear A90
        have c10b0 := eq_true (dt : 0 ≤ x5_1)
        by_cases c11 : x5_1 ≤ (a0.size : Int)
        ·rw [if_pos c11] at H
         have c11b0 := eq_true c11
         have c11b1 : decide (x5_1 ≤ (a0.size : Int)) = true := decide_eq_true c11
         clear c11
         simp only [Option.some.injEq, Prod.mk.injEq] at H
         obtain ⟨rfl, rfl, rfl⟩ := H
         have p4 : 0 ≤ (x5_1 : Int) := dt
         have q4 : x5_1 < (a0.size : Int) := dt
         have hx4 := bt_at a0 x5_1
         replace p4 := eq_true p4
         replace q4 := eq_true q4
         go_wp2_with (first | ((with_reducible refine gate_callee (f := 131) rfl ?_); refine goesL_ (some 21) rfl rfl Try.func131 (by kernel_rfl) rfl #[.string (a0.extract ((ji6) : Int).toNat a0.size)] rfl (by (try simp only [List.map_toArray, List.map_cons, List.map_nil]); first | done | (simp only [hji6]; rfl) | rfl | (simp only [List.length_drop, List.length_take]; rfl)) ?_; (with_reducible refine (spec_l4Num.calls k1 (a0.extract ((ji6) : Int).toNat a0.size) t189 _ A9.out).mono ?_); rintro e w12 ⟨rfl, hb⟩; refine ⟨_, rfl, ?_⟩; have n0_ := Aside0.mk (below_step (bw HB.out) hb); clear HB; have HB := n0_; clear n0_; (try clear hb); (try clear hb2); (try clear hk); (try clear hi)))
         go_ret3
         exact ⟨by first | rfl | (simp [errW_none, errW_some] <;> rfl) | (simp only [← hji6]; first | rfl | (simp [errW_none, errW_some] <;> rfl)) | (simp [*, errW_none, errW_some] <;> rfl), bw HB.out⟩
        ·rw [if_neg c11] at H
         exact absurd H (by simp)
       ·rw [if_neg c8] at H
        exact absurd H (by simp)
      ·rw [if_neg c7] at H
       exact absurd H (by simp)
     ·rw [if_neg c5] at H
      have c5b0 : ((bt a0 x5_1) == 32) = false := beq_eq_false_iff_ne.mpr c5
      have c5b1 : ((bt a0 x5_1) != 32) = true := bne_iff_ne.mpr c5
      have H' := Aside0.mk H
      clear H
      have p4 : 0 ≤ (x5_1 : Int) := dt
      have q4 : x5_1 < (a0.size : Int) := dt
      have hx4 := bt_at a0 x5_1
      replace p4 := eq_true p4
      replace q4 := eq_true q4
      go_wp2
      go_roundg k1
      case measure => have := HK1.out; omega
      case rel => exact ⟨(wrap64 (x5_1 + 1)), (by first | rfl | (simp; done) | (simp [*]; done)), H', ⟨by have := HK1.out; omega⟩, ⟨bw HB.out⟩⟩
    ·rw [if_neg c3] at H
     exact absurd H (by simp)
   ·rw [if_neg c2] at H
    have c2b0 : decide (x5_1 < (a0.size : Int)) = false := decide_eq_false c2
    clear c2
    simp only [Option.some.injEq, Prod.mk.injEq] at H
    obtain ⟨rfl, rfl, rfl⟩ := H
    go_wp2
    go_ret3
    exact ⟨rt, bw HB.out⟩

end Go.Proofs.Ytmkccgbfgebfbaa.MFnFetched
