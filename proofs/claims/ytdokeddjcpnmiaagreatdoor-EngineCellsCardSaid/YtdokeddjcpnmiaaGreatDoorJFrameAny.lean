import Derived.Test.YtdokeddjcpnmiaaGreatDoorJMapsA
/- A frame by its slots alone; guarded operations (for regions by region_inv). -/
namespace Go.Proofs.YtdokeddjcpnmiaaGreatDoor
open Go.RowKit

/-- a frame by its slots alone -/
theorem frame_any {P : Program} {code : Code} {Q : Exit → Go.Act → World → Prop} {T : Array Value} {d : List Deferred} {w : World} (arr : (Nat → Value) → (Nat → Value) → Array Value)
    (hT : T = arr (fun j => T.getD j undef) (fun j => T.getD j undef)) (h : ∀ g f, code.wp P Q { tmps := arr g f, defers := d } w) : code.wp P Q { tmps := T, defers := d } w := by
  rw [hT]
  exact h _ _
theorem yield_of {ops : Array Oper} {tmps : Array Value} {j d : Nat} {b : Bool} {o : Oper} (h1 : ops[j]? = some o) (h2 : o.dst = some d) (h3 : tmps[d]? = some (.bool b)) : yielded ops tmps j = some b := by
  unfold yielded
  rw [h1]
  simp [h2, h3]
theorem wpOp_guard {P : Program} {ops : Array Oper} {Q : Exit → Go.Act → World → Prop} {i : Nat} {o : Oper} {K : Go.Act → World → Prop} {a : Go.Act} {w : World} {j : Nat} {b : Bool} (ho : ops[i]? = some o) (hg : o.guard = some (j, b)) (hy : yielded ops a.tmps j = some b) (h : o.wp P a w K Q) : wpOp P ops Q i K a w := by
  unfold wpOp
  rw [ho]
  simp only [Region.wanted, hg, hy, beq_self_eq_true, if_true]
  exact .inl h
section
variable {P : Program} {ops : Array Oper} {Q : Exit → Go.Act → World → Prop}
/-- each operation waits for earlier ones alone, as far as any order goes -/
def afterB2 (ops : Array Oper) : Bool := (List.range ops.size).all fun i => ((ops[i]?).map fun o => o.after.all fun e => !Region.binds .any e || decide (e.on < i)).getD true
theorem ready_nil2 {listed : Array Bool} (hs : listed.size = ops.size) (ha : afterB2 ops = true) (h : Region.ready .any ops listed = []) : ∀ i, i < ops.size → listed.getD i false = true := by
  intro i
  induction i using Nat.strongRecOn with
  | ind i ih =>
    intro hi
    cases e : listed.getD i false with
    | true => rfl
    | false =>
      have hm : i ∈ Region.ready .any ops listed := by
        unfold Region.ready
        simp only [List.mem_filter, List.mem_range, Bool.and_eq_true, Bool.not_eq_true']
        refine ⟨hi, ?_, ?_⟩
        · rw [Array.getD_eq_getD_getElem?] at e ⊢
          rw [Array.getElem?_eq_getElem (by omega)] at e ⊢
          exact e
        · obtain ⟨o, ho⟩ : ∃ o, ops[i]? = some o := ⟨_, Array.getElem?_eq_getElem hi⟩
          rw [ho]
          simp only [Option.map_some, Option.getD_some, Array.all_eq_true_iff_forall_mem]
          intro x hx
          unfold afterB2 at ha
          rw [List.all_eq_true] at ha
          have := ha i (by simpa using hi)
          rw [ho] at this
          simp only [Option.map_some, Option.getD_some, Array.all_eq_true_iff_forall_mem] at this
          have h2 := this x hx
          cases hb : Region.binds .any x with
          | false => simp
          | true =>
            rw [hb] at h2
            have h3 : x.on < i := by simpa using h2
            rw [ih x.on h3 (by omega)]
            simp
      rw [h] at hm
      cases hm
theorem region_inv2 {id : Nat} {a : Go.Act} {w : World} (I : Array Bool → Go.Act → World → Prop) (hm : P.follows .mixedOrders = true) (ha : afterB2 ops = true)
    (h0 : ∀ listed : Array Bool, listed.size = ops.size → (∀ i, listed.getD i false = false) → I listed a w.drew)
    (step : ∀ listed a w, I listed a w → Closed .any ops listed → ∀ i o, ops[i]? = some o → listed.getD i true = false → (∀ e ∈ o.after, Region.binds .any e = true → listed.getD e.on false = true) → wpOp P ops Q i (fun a' w' => I (listed.setIfInBounds i true) a' w') a w)
    (fin : ∀ listed a w, (∀ i, i < ops.size → listed.getD i false = true) → I listed a w → Q .normal a w) : (Code.region id ops true).wp P Q a w := by
  have hz : ∀ i, (Array.replicate ops.size false).getD i false = false := fun i => by
    rw [Array.getD_eq_getD_getElem?]
    rw [Array.getElem?_replicate]
    split <;> rfl
  refine wp_region_any hm (wpAny_inv (fun listed a w => I listed a w ∧ Closed .any ops listed) (fun listed a w hs h i hi => ?_) (fun listed a w hs h hr => fin listed a w (ready_nil2 hs ha hr) h.1) _ _ a _ (by simp) ?_ ⟨h0 _ (by simp) hz, fun i o _ h => by rw [hz] at h; cases h⟩)
  · obtain ⟨h1, h2, h3⟩ := ready_spec hi
    obtain ⟨o, ho⟩ : ∃ o, ops[i]? = some o := ⟨_, Array.getElem?_eq_getElem h1⟩
    exact wpOp_mono (fun a' w' k => ⟨k, h.2.set h3⟩) (step listed a w h.1 h.2 i o ho h2 (h3 o ho))
  · unfold leftOf
    refine Nat.le_trans (List.length_filter_le _ _) (by simp)
end
end Go.Proofs.YtdokeddjcpnmiaaGreatDoor
