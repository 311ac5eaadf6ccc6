/- A region that draws its order, by a statement that each operation keeps: one obligation an operation, whatever the orders are. Any program. -/
import Derived.OrdersIn
import Derived.Deep.Draws
import Derived.OwnWalkIn
import Derived.Test.YtbmklpcheopgoaaIt
namespace Go.Proofs.YtbmklpcheopgoaaReg
open Go

/-- An order in which each operation stands behind all that it waits for. -/
def topoB (ops : Array Oper) : List Nat → List Nat → Bool
  | [], _ => true
  | i :: is, done => (match ops[i]? with | some o => o.after.all fun e => !Region.binds .any e || done.contains e.on | none => false) && topoB ops is (i :: done)

theorem topo_listed {ops : Array Oper} {listed : Array Bool} (hr : Region.ready .any ops listed = []) : ∀ (is done : List Nat), topoB ops is done = true → (∀ i ∈ done, listed.getD i false = true) → (∀ i ∈ is, i < ops.size → listed.size = ops.size → listed.getD i false = true)
  | [], _, _, _ => fun i hi => by cases hi
  | i :: is, done, h, hd => by
    intro j hj hlt hs
    unfold topoB at h
    simp only [Bool.and_eq_true] at h
    have hi : i < ops.size → listed.getD i false = true := by
      intro hlt'
      by_cases hl : listed.getD i false = true
      · exact hl
      · have h1 := h.1
        rw [Array.getElem?_eq_getElem hlt'] at h1
        have hall := Array.all_eq_true_iff_forall_mem.1 h1
        have : i ∈ Region.ready .any ops listed := by
          refine mem_ready.2 ⟨?_, _, Array.getElem?_eq_getElem hlt', fun e he hb => ?_⟩
          · simp only [Array.getD, hs, hlt'] at hl ⊢
            simpa using hl
          · have := hall e he
            simp only [hb, Bool.not_true, Bool.false_or, List.contains_iff_mem] at this
            exact hd _ (by simpa using this)
        rw [hr] at this
        cases this
    rcases List.mem_cons.1 hj with rfl | hj
    · exact hi hlt
    · refine topo_listed hr is (i :: done) h.2 (fun k hk => ?_) j hj hlt hs
      rcases List.mem_cons.1 hk with rfl | hk
      · have h1 := h.1
        cases ho : ops[k]? with
        | none => rw [ho] at h1; cases h1
        | some o => exact hi (Array.getElem?_eq_some_iff.1 ho).1
      · exact hd k hk

section
variable {F : Fence} {n : Nat} {P : Program} {ops : Array Oper} {Q : Exit → Act → World → Prop} {id : Nat}

theorem anyIn_inv (is : List Nat) (ht : topoB ops is [] = true) (hall : (List.range ops.size).all is.contains = true) (Inv : Array Bool → Act → World → Prop) (hsz : ∀ l a w, Inv l a w → l.size = ops.size)
    (hstep : ∀ l a w i o, Inv l a w → ops[i]? = some o → l.getD i true = false → (∀ e ∈ o.after, Region.binds .any e = true → l.getD e.on false = true) →
      ∀ K : Act → World → Prop, (∀ a' w', Inv (l.setIfInBounds i true) a' w' → K a' w') → wpOpIn F n P ops Q i K a w)
    (hend : ∀ l a w, Inv l a w → (∀ i, i < ops.size → l.getD i false = true) → Q .normal a w) :
    ∀ (fuel : Nat) (l : Array Bool) (a : Act) (w : World), Inv l a w → (l.toList.count false ≤ fuel) → wpAnyIn F n P .any ops Q fuel l a w := by
  have fin : ∀ l a w, Inv l a w → Region.ready .any ops l = [] → Q .normal a w := fun l a w hi hr => hend l a w hi fun i hlt =>
    topo_listed hr is [] ht (fun i h => by cases h) i (by have := List.all_eq_true.1 hall i (List.mem_range.2 hlt); simpa using this) hlt (hsz l a w hi)
  intro fuel
  induction fuel with
  | zero =>
    intro l a w hi hc
    have hr : Region.ready .any ops l = [] := by
      refine List.eq_nil_iff_forall_not_mem.2 fun i hm => ?_
      obtain ⟨hf, o, ho, _⟩ := mem_ready.1 hm
      have hlt : i < l.size := by rw [hsz l a w hi]; exact (Array.getElem?_eq_some_iff.1 ho).1
      have : false ∈ l.toList := by
        simp only [Array.getD, hlt, dite_true] at hf
        rw [← hf]
        simp
      have := List.count_pos_iff.2 this
      omega
    exact ⟨hr, fin l a w hi hr⟩
  | succ fuel ih =>
    intro l a w hi hc
    refine ⟨fin l a w hi, fun i hm => ?_⟩
    obtain ⟨hf, o, ho, hw⟩ := mem_ready.1 hm
    refine hstep l a w i o hi ho hf (fun e he hb => hw e he hb) _ fun a' w' hi' => ih _ a' w' hi' ?_
    have hlt : i < l.size := by rw [hsz l a w hi]; exact (Array.getElem?_eq_some_iff.1 ho).1
    have h1 : l[i] = false := by simpa [Array.getD, hlt] using hf
    have : (l.setIfInBounds i true).toList.count false + 1 = l.toList.count false := by
      have hpos : 0 < l.toList.count false := List.count_pos_iff.2 (by rw [← h1]; simp)
      rw [Array.toList_setIfInBounds, List.count_set (by simpa using hlt)]
      have e1 : (l.toList[i]'(by simpa using hlt) == false) = true := by simp [h1]
      have e2 : (true == false) = false := rfl
      rw [if_pos e1, e2, if_neg (by decide)]
      omega
    omega

theorem regIn_inv {a : Act} {w : World} (hm : P.follows .mixedOrders = true) (is : List Nat) (ht : topoB ops is [] = true) (hall : (List.range ops.size).all is.contains = true) (Inv : Array Bool → Act → World → Prop) (hsz : ∀ l a w, Inv l a w → l.size = ops.size)
    (h0 : Inv (Array.replicate ops.size false) a w.drew)
    (hstep : ∀ l a w i o, Inv l a w → ops[i]? = some o → l.getD i true = false → (∀ e ∈ o.after, Region.binds .any e = true → l.getD e.on false = true) →
      ∀ K : Act → World → Prop, (∀ a' w', Inv (l.setIfInBounds i true) a' w' → K a' w') → wpOpIn F n P ops Q i K a w)
    (hend : ∀ l a w, Inv l a w → (∀ i, i < ops.size → l.getD i false = true) → Q .normal a w) : (Code.region id ops true).wpIn F n P Q a w :=
  wpIn_region_any hm (anyIn_inv is ht hall Inv hsz hstep hend ops.size _ a _ h0 (by simp))

theorem any_inv (is : List Nat) (ht : topoB ops is [] = true) (hall : (List.range ops.size).all is.contains = true) (Inv : Array Bool → Act → World → Prop) (hsz : ∀ l a w, Inv l a w → l.size = ops.size)
    (hstep : ∀ l a w i o, Inv l a w → ops[i]? = some o → l.getD i true = false → (∀ e ∈ o.after, Region.binds .any e = true → l.getD e.on false = true) →
      ∀ K : Act → World → Prop, (∀ a' w', Inv (l.setIfInBounds i true) a' w' → K a' w') → wpOp P ops Q i K a w)
    (hend : ∀ l a w, Inv l a w → (∀ i, i < ops.size → l.getD i false = true) → Q .normal a w) :
    ∀ (fuel : Nat) (l : Array Bool) (a : Act) (w : World), Inv l a w → (l.toList.count false ≤ fuel) → wpAny P .any ops Q fuel l a w := by
  have fin : ∀ l a w, Inv l a w → Region.ready .any ops l = [] → Q .normal a w := fun l a w hi hr => hend l a w hi fun i hlt =>
    topo_listed hr is [] ht (fun i h => by cases h) i (by have := List.all_eq_true.1 hall i (List.mem_range.2 hlt); simpa using this) hlt (hsz l a w hi)
  intro fuel
  induction fuel with
  | zero =>
    intro l a w hi hc
    have hr : Region.ready .any ops l = [] := by
      refine List.eq_nil_iff_forall_not_mem.2 fun i hm => ?_
      obtain ⟨hf, o, ho, _⟩ := mem_ready.1 hm
      have hlt : i < l.size := by rw [hsz l a w hi]; exact (Array.getElem?_eq_some_iff.1 ho).1
      have : false ∈ l.toList := by
        simp only [Array.getD, hlt, dite_true] at hf
        rw [← hf]
        simp
      have := List.count_pos_iff.2 this
      omega
    exact ⟨hr, fin l a w hi hr⟩
  | succ fuel ih =>
    intro l a w hi hc
    refine ⟨fin l a w hi, fun i hm => ?_⟩
    obtain ⟨hf, o, ho, hw⟩ := mem_ready.1 hm
    refine hstep l a w i o hi ho hf (fun e he hb => hw e he hb) _ fun a' w' hi' => ih _ a' w' hi' ?_
    have hlt : i < l.size := by rw [hsz l a w hi]; exact (Array.getElem?_eq_some_iff.1 ho).1
    have h1 : l[i] = false := by simpa [Array.getD, hlt] using hf
    have : (l.setIfInBounds i true).toList.count false + 1 = l.toList.count false := by
      have hpos : 0 < l.toList.count false := List.count_pos_iff.2 (by rw [← h1]; simp)
      rw [Array.toList_setIfInBounds, List.count_set (by simpa using hlt)]
      have e1 : (l.toList[i]'(by simpa using hlt) == false) = true := by simp [h1]
      have e2 : (true == false) = false := rfl
      rw [if_pos e1, e2, if_neg (by decide)]
      omega
    omega

theorem reg_inv {a : Act} {w : World} (hm : P.follows .mixedOrders = true) (is : List Nat) (ht : topoB ops is [] = true) (hall : (List.range ops.size).all is.contains = true) (Inv : Array Bool → Act → World → Prop) (hsz : ∀ l a w, Inv l a w → l.size = ops.size)
    (h0 : Inv (Array.replicate ops.size false) a w.drew)
    (hstep : ∀ l a w i o, Inv l a w → ops[i]? = some o → l.getD i true = false → (∀ e ∈ o.after, Region.binds .any e = true → l.getD e.on false = true) →
      ∀ K : Act → World → Prop, (∀ a' w', Inv (l.setIfInBounds i true) a' w' → K a' w') → wpOp P ops Q i K a w)
    (hend : ∀ l a w, Inv l a w → (∀ i, i < ops.size → l.getD i false = true) → Q .normal a w) : (Code.region id ops true).wp P Q a w :=
  wp_region_any hm (any_inv is ht hall Inv hsz hstep hend ops.size _ a _ h0 (by simp))

theorem opIn_val {a : Act} {w w1 : World} {i : Nat} {o : Oper} {K : Act → World → Prop} {v : Value} (ho : ops[i]? = some o) (hg : o.guard = none) (hfn : ∀ f, F.fn f) (hnd : ∀ c, o.op ≠ .defer c)
    (hrun : (execOp a.eval o).run P w = .ok (.value v) w1) (hK : K (a.put o.dst v) w1) : wpOpIn F n P ops Q i K a w := by
  unfold wpOpIn
  rw [ho]
  have hw : Region.wanted o (yielded ops a.tmps) = true := by simp [Region.wanted, hg]
  simp only [hw, if_true]
  unfold Oper.wpIn
  refine ⟨fun f _ => hfn f, ?_⟩
  rw [Oper.semAt_plain F _ _ hnd, hrun]
  exact hK
theorem opIn_skip {a : Act} {w w1 : World} {i : Nat} {o : Oper} {K : Act → World → Prop} (ho : ops[i]? = some o) (hg : o.guard = none) (hfn : ∀ f, F.fn f) (hnd : ∀ c, o.op ≠ .defer c)
    (hrun : (execOp a.eval o).run P w = .ok .skip w1) (hK : K (a.put o.dst undef) w1) : wpOpIn F n P ops Q i K a w := by
  unfold wpOpIn
  rw [ho]
  have hw : Region.wanted o (yielded ops a.tmps) = true := by simp [Region.wanted, hg]
  simp only [hw, if_true]
  unfold Oper.wpIn
  refine ⟨fun f _ => hfn f, ?_⟩
  rw [Oper.semAt_plain F _ _ hnd, hrun]
  exact hK
theorem opIn_wp {a : Act} {w : World} {i : Nat} {o : Oper} {K : Act → World → Prop} (ho : ops[i]? = some o) (hg : o.guard = none) (h : Oper.wpIn F n P o a w K Q) : wpOpIn F n P ops Q i K a w := by
  unfold wpOpIn
  rw [ho]
  have hw : Region.wanted o (yielded ops a.tmps) = true := by simp [Region.wanted, hg]
  simp only [hw, if_true]
  exact h
theorem op_val {a : Act} {w w1 : World} {i : Nat} {o : Oper} {K : Act → World → Prop} {v : Value} (ho : ops[i]? = some o) (hg : o.guard = none)
    (hrun : (execOp a.eval o).run P w = .ok (.value v) w1) (hK : K (a.put o.dst v) w1) : wpOp P ops Q i K a w := by
  unfold wpOp
  rw [ho]
  have hw : Region.wanted o (yielded ops a.tmps) = true := by simp [Region.wanted, hg]
  simp only [hw, if_true]
  refine .inl ?_
  unfold Oper.wp
  rw [hrun]
  exact hK
theorem op_skip {a : Act} {w w1 : World} {i : Nat} {o : Oper} {K : Act → World → Prop} (ho : ops[i]? = some o) (hg : o.guard = none)
    (hrun : (execOp a.eval o).run P w = .ok .skip w1) (hK : K (a.put o.dst undef) w1) : wpOp P ops Q i K a w := by
  unfold wpOp
  rw [ho]
  have hw : Region.wanted o (yielded ops a.tmps) = true := by simp [Region.wanted, hg]
  simp only [hw, if_true]
  refine .inl ?_
  unfold Oper.wp
  rw [hrun]
  exact hK
theorem op_wp {a : Act} {w : World} {i : Nat} {o : Oper} {K : Act → World → Prop} (ho : ops[i]? = some o) (hg : o.guard = none) (h : Oper.wp P o a w K Q) : wpOp P ops Q i K a w := by
  unfold wpOp
  rw [ho]
  have hw : Region.wanted o (yielded ops a.tmps) = true := by simp [Region.wanted, hg]
  simp only [hw, if_true]
  exact .inl h
end
end Go.Proofs.YtbmklpcheopgoaaReg
