/- A region that draws its order, by a word that holds between its operations: whatever order it is. -/
import Derived.Test.YtkbchpaofmlhgaaGreatDoorWorld
import Derived.Orders
namespace Go.Proofs.YtkbchpaofmlhgaaGreatDoor
open Go.RowKit

section
variable {P : Program} {ops : Array Oper} {Q : Exit → Act → World → Prop} {md : Region.Mode}

theorem ready_spec {listed : Array Bool} {i : Nat} (h : i ∈ Region.ready md ops listed) :
    i < ops.size ∧ listed.getD i true = false ∧ ∀ o, ops[i]? = some o → ∀ e ∈ o.after, Region.binds md e = true → listed.getD e.on false = true := by
  unfold Region.ready at h
  simp only [List.mem_filter, List.mem_range, Bool.and_eq_true, Bool.not_eq_true'] at h
  obtain ⟨h1, h2, h3⟩ := h
  refine ⟨h1, h2, fun o ho e he hb => ?_⟩
  rw [ho] at h3
  simp only [Option.map_some, Option.getD_some, Array.all_eq_true_iff_forall_mem] at h3
  have := h3 e he
  simpa [hb] using this

/-- each operation waits for earlier ones alone -/
def afterB (ops : Array Oper) : Bool := (List.range ops.size).all fun i => ((ops[i]?).map fun o => o.after.all fun e => decide (e.on < i)).getD true
theorem ready_nil {listed : Array Bool} (hs : listed.size = ops.size) (ha : afterB ops = true) (h : Region.ready md ops listed = []) : ∀ i, i < ops.size → listed.getD i false = true := by
  intro i
  induction i using Nat.strongRecOn with
  | ind i ih =>
    intro hi
    cases e : listed.getD i false with
    | true => rfl
    | false =>
      have hm : i ∈ Region.ready md ops listed := by
        unfold Region.ready
        simp only [List.mem_filter, List.mem_range, Bool.and_eq_true, Bool.not_eq_true']
        refine ⟨hi, ?_, ?_⟩
        · rw [Array.getD_eq_getD_getElem?] at e ⊢
          rw [Array.getElem?_eq_getElem (by omega)] at e ⊢
          exact e
        · obtain ⟨o, ho⟩ : ∃ o, ops[i]? = some o := ⟨_, Array.getElem?_eq_getElem hi⟩
          rw [ho]
          simp only [Option.map_some, Option.getD_some, Array.all_eq_true_iff_forall_mem]
          intro x hx
          have h2 : x.on < i := by
            unfold afterB at ha
            rw [List.all_eq_true] at ha
            have := ha i (by simpa using hi)
            rw [ho] at this
            simp only [Option.map_some, Option.getD_some, Array.all_eq_true_iff_forall_mem] at this
            simpa using this x hx
          rw [ih x.on h2 (by omega)]
          simp
      rw [h] at hm
      cases hm

def leftOf (listed : Array Bool) : Nat := (listed.toList.filter fun b => !b).length
theorem leftOf_set {listed : Array Bool} {i : Nat} (h : listed.getD i true = false) : leftOf (listed.setIfInBounds i true) + 1 = leftOf listed := by
  obtain ⟨l⟩ := listed
  simp only [Array.getD_eq_getD_getElem?, List.getElem?_toArray] at h
  unfold leftOf
  simp only [List.setIfInBounds_toArray]
  induction l generalizing i with
  | nil => simp at h
  | cons b l ih =>
    cases i with
    | zero =>
      simp at h
      subst h
      simp
    | succ i =>
      have := ih (i := i) (by simpa using h)
      cases b <;> simp [List.set_cons_succ] <;> omega

/-- what is done, all that it waits for is done -/
def Closed (md : Region.Mode) (ops : Array Oper) (listed : Array Bool) : Prop := ∀ i o, ops[i]? = some o → listed.getD i false = true → ∀ e ∈ o.after, Region.binds md e = true → listed.getD e.on false = true
theorem getD_set {listed : Array Bool} {i j : Nat} (h : listed.getD j false = true) : (listed.setIfInBounds i true).getD j false = true := by
  rw [Array.getD_eq_getD_getElem?] at h ⊢
  rw [Array.getElem?_setIfInBounds]
  split
  · split
    · rfl
    · rename_i h1 h2
      subst h1
      rw [Array.getElem?_eq_none (by omega)] at h
      cases h
  · exact h
/-- what a set place is, and another one -/
theorem listed_set {listed : Array Bool} {i j : Nat} (h : (listed.setIfInBounds i true).getD j false = true) : j = i ∨ listed.getD j false = true := by
  rw [Array.getD_eq_getD_getElem?, Array.getElem?_setIfInBounds] at h
  by_cases e : i = j
  · exact .inl e.symm
  · rw [if_neg e] at h
    exact .inr (by rw [Array.getD_eq_getD_getElem?]; exact h)
theorem Closed.set {listed : Array Bool} {i : Nat} (h : Closed md ops listed) (hi : ∀ o, ops[i]? = some o → ∀ e ∈ o.after, Region.binds md e = true → listed.getD e.on false = true) : Closed md ops (listed.setIfInBounds i true) := fun j o ho hj e he hb => by
  rcases listed_set hj with rfl | hj
  · exact getD_set (hi o ho e he hb)
  · exact getD_set (h j o ho hj e he hb)

theorem wpAny_inv (I : Array Bool → Act → World → Prop)
    (step : ∀ listed a w, listed.size = ops.size → I listed a w → ∀ i ∈ Region.ready md ops listed, wpOp P ops Q i (fun a' w' => I (listed.setIfInBounds i true) a' w') a w)
    (fin : ∀ listed a w, listed.size = ops.size → I listed a w → Region.ready md ops listed = [] → Q .normal a w) : ∀ (fuel : Nat) (listed : Array Bool) (a : Act) (w : World), listed.size = ops.size → leftOf listed ≤ fuel → I listed a w → wpAny P md ops Q fuel listed a w
  | 0, listed, a, w, hs, hl, h => by
    have hr : Region.ready md ops listed = [] := by
      cases e : Region.ready md ops listed with
      | nil => rfl
      | cons i r =>
        have := (ready_spec (md := md) (ops := ops) (listed := listed) (i := i) (by rw [e]; simp)).2.1
        have := leftOf_set this
        omega
    exact ⟨hr, fin listed a w hs h hr⟩
  | fuel + 1, listed, a, w, hs, hl, h => by
    refine ⟨fin listed a w hs h, fun i hi => ?_⟩
    have hls := leftOf_set (ready_spec hi).2.1
    exact wpOp_mono (fun a' w' h' => wpAny_inv I step fin fuel _ a' w' (by simpa using hs) (by omega) h') (step listed a w hs h i hi)

/-- A REGION THAT DRAWS ITS ORDER, by a word that holds between its operations -/
theorem region_inv {id : Nat} {a : Act} {w : World} (I : Array Bool → Act → World → Prop) (hm : P.follows .mixedOrders = true) (ha : afterB ops = true)
    (h0 : ∀ listed : Array Bool, listed.size = ops.size → (∀ i, listed.getD i false = false) → I listed a w.drew)
    (step : ∀ listed a w, I listed a w → Closed .any ops listed → ∀ i o, ops[i]? = some o → listed.getD i true = false → (∀ e ∈ o.after, Region.binds .any e = true → listed.getD e.on false = true) → wpOp P ops Q i (fun a' w' => I (listed.setIfInBounds i true) a' w') a w)
    (fin : ∀ listed a w, (∀ i, i < ops.size → listed.getD i false = true) → I listed a w → Q .normal a w) : (Code.region id ops true).wp P Q a w := by
  have hz : ∀ i, (Array.replicate ops.size false).getD i false = false := fun i => by
    rw [Array.getD_eq_getD_getElem?]
    rw [Array.getElem?_replicate]
    split <;> rfl
  refine wp_region_any hm (wpAny_inv (fun listed a w => I listed a w ∧ Closed .any ops listed) (fun listed a w hs h i hi => ?_) (fun listed a w hs h hr => fin listed a w (ready_nil hs ha hr) h.1) _ _ a _ (by simp) ?_ ⟨h0 _ (by simp) hz, fun i o _ h => by rw [hz] at h; cases h⟩)
  · obtain ⟨h1, h2, h3⟩ := ready_spec hi
    obtain ⟨o, ho⟩ : ∃ o, ops[i]? = some o := ⟨_, Array.getElem?_eq_getElem h1⟩
    exact wpOp_mono (fun a' w' k => ⟨k, h.2.set h3⟩) (step listed a w h.1 h.2 i o ho h2 (h3 o ho))
  · unfold leftOf
    refine Nat.le_trans (List.length_filter_le _ _) (by simp)

theorem wpOp_of {i : Nat} {o : Oper} {K : Act → World → Prop} {a : Act} {w : World} (ho : ops[i]? = some o) (hg : o.guard = none) (h : o.wp P a w K Q) : wpOp P ops Q i K a w := by
  unfold wpOp
  rw [ho]
  simp only [Region.wanted, hg]
  exact .inl h
theorem wp_value {o : Oper} {K : Act → World → Prop} {a : Act} {w w1 : World} {v : Value} (h : (execOp a.eval o).run P w = .ok (.value v) w1) (k : K (a.put o.dst v) w1) : o.wp P a w K Q := by
  unfold Oper.wp
  rw [h]
  exact k
theorem wp_skip {o : Oper} {K : Act → World → Prop} {a : Act} {w w1 : World} (h : (execOp a.eval o).run P w = .ok .skip w1) (k : K (a.put o.dst undef) w1) : o.wp P a w K Q := by
  unfold Oper.wp
  rw [h]
  exact k
theorem wp_enter {o : Oper} {K : Act → World → Prop} {a : Act} {w w1 : World} {f : FuncId} {args : Array Value} (h : (execOp a.eval o).run P w = .ok (.enter f args) w1) (k : Calls P f args w1 fun e w'' => ∃ v, e = .returned v ∧ K (a.put o.dst v) w'') : o.wp P a w K Q := by
  unfold Oper.wp
  rw [h]
  refine k.mono ?_
  rintro e w'' ⟨v, rfl, h⟩
  exact h
end

theorem getD_set_ne {listed : Array Bool} {i j : Nat} (h : i ≠ j) : (listed.setIfInBounds i true).getD j false = listed.getD j false := by
  rw [Array.getD_eq_getD_getElem?, Array.getD_eq_getD_getElem?, Array.getElem?_setIfInBounds, if_neg h]
theorem getD_set_same {listed : Array Bool} {i : Nat} (h : listed.getD i true = false) : (listed.setIfInBounds i true).getD i false = true := by
  rw [Array.getD_eq_getD_getElem?] at h ⊢
  rw [Array.getElem?_setIfInBounds, if_pos rfl]
  split
  · rfl
  · rename_i h1
    rw [Array.getElem?_eq_none (by omega)] at h
    cases h
theorem getD_false {listed : Array Bool} {i : Nat} (h : listed.getD i true = false) : listed.getD i false = false := by
  rw [Array.getD_eq_getD_getElem?] at h ⊢
  cases e : listed[i]? with
  | none => rfl
  | some b => rw [e] at h; exact h
/-- what the slots of the operations that are done hold -/
def TabOk (tab : List (Nat × Nat × Value)) (listed : Array Bool) (f : Nat → Value) : Prop := ∀ x ∈ tab, listed.getD x.1 false = true → f x.2.1 = x.2.2
theorem TabOk.step {tab : List (Nat × Nat × Value)} {listed : Array Bool} {f : Nat → Value} (h : TabOk tab listed f) {i d : Nat} {v : Value} (hu : ∀ x ∈ tab, (x.1 = i → x.2.1 = d ∧ x.2.2 = v) ∧ (x.2.1 = d → x.1 = i)) : TabOk tab (listed.setIfInBounds i true) (fun j => if j = d then v else f j) := fun x hx hl => by
  by_cases e : x.2.1 = d
  · simp only [e, if_true]
    exact ((hu x hx).1 ((hu x hx).2 e)).2.symm
  · simp only [if_neg e]
    rcases listed_set hl with h1 | h1
    · exact absurd ((hu x hx).1 h1).1 e
    · exact h x hx h1
theorem TabOk.keep {tab : List (Nat × Nat × Value)} {listed : Array Bool} {f : Nat → Value} (h : TabOk tab listed f) {i : Nat} (hu : ∀ x ∈ tab, x.1 ≠ i) : TabOk tab (listed.setIfInBounds i true) f := fun x hx hl => by
  rcases listed_set hl with h1 | h1
  · exact absurd h1 (hu x hx)
  · exact h x hx h1
end Go.Proofs.YtkbchpaofmlhgaaGreatDoor
