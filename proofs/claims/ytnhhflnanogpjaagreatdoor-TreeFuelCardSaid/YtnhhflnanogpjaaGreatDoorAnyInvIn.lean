/- A region that draws its order, by a word that holds between its operations: inside a fence. -/
import Derived.Test.YtnhhflnanogpjaaGreatDoorAnyInv
import Derived.OrdersIn
import Derived.OwnWalkIn
namespace Go.Proofs.YtnhhflnanogpjaaGreatDoor
open Go.RowKit

section
variable {F : Fence} {n : Nat} {P : Program} {ops : Array Oper} {Q : Exit → Act → World → Prop} {md : Region.Mode}

theorem wpAnyIn_inv (I : Array Bool → Act → World → Prop)
    (step : ∀ listed a w, listed.size = ops.size → I listed a w → ∀ i ∈ Region.ready md ops listed, wpOpIn F n P ops Q i (fun a' w' => I (listed.setIfInBounds i true) a' w') a w)
    (fin : ∀ listed a w, listed.size = ops.size → I listed a w → Region.ready md ops listed = [] → Q .normal a w) : ∀ (fuel : Nat) (listed : Array Bool) (a : Act) (w : World), listed.size = ops.size → leftOf listed ≤ fuel → I listed a w → wpAnyIn F n P md ops Q fuel listed a w
  | 0, listed, a, w, hs, hl, h => by
    have hr : Region.ready md ops listed = [] := by
      cases e : Region.ready md ops listed with
      | nil => rfl
      | cons i r =>
        have := (ready_spec (md := md) (ops := ops) (listed := listed) (i := i) (by rw [e]; simp)).2.1
        have := leftOf_set this
        omega
    exact ⟨hr, fin listed a w hs h hr⟩
  | fuel + 1, listed, a, w, hs, hl, h => by
    refine ⟨fin listed a w hs h, fun i hi => ?_⟩
    have hls := leftOf_set (ready_spec hi).2.1
    exact wpOpIn_mono (fun a' w' h' => wpAnyIn_inv I step fin fuel _ a' w' (by simpa using hs) (by omega) h') (step listed a w hs h i hi)

/-- A REGION THAT DRAWS ITS ORDER, by a word that holds between its operations -/
theorem regionIn_inv {id : Nat} {a : Act} {w : World} (I : Array Bool → Act → World → Prop) (hm : P.follows .mixedOrders = true) (ha : afterB ops = true)
    (h0 : ∀ listed : Array Bool, listed.size = ops.size → (∀ i, listed.getD i false = false) → I listed a w.drew)
    (step : ∀ listed a w, I listed a w → Closed .any ops listed → ∀ i o, ops[i]? = some o → listed.getD i true = false → (∀ e ∈ o.after, Region.binds .any e = true → listed.getD e.on false = true) → wpOpIn F n P ops Q i (fun a' w' => I (listed.setIfInBounds i true) a' w') a w)
    (fin : ∀ listed a w, (∀ i, i < ops.size → listed.getD i false = true) → I listed a w → Q .normal a w) : (Code.region id ops true).wpIn F n P Q a w := by
  have hz : ∀ i, (Array.replicate ops.size false).getD i false = false := fun i => by
    rw [Array.getD_eq_getD_getElem?]
    rw [Array.getElem?_replicate]
    split <;> rfl
  refine wpIn_region_any hm (wpAnyIn_inv (fun listed a w => I listed a w ∧ Closed .any ops listed) (fun listed a w hs h i hi => ?_) (fun listed a w hs h hr => fin listed a w (ready_nil hs ha hr) h.1) _ _ a _ (by simp) ?_ ⟨h0 _ (by simp) hz, fun i o _ h => by rw [hz] at h; cases h⟩)
  · obtain ⟨h1, h2, h3⟩ := ready_spec hi
    obtain ⟨o, ho⟩ : ∃ o, ops[i]? = some o := ⟨_, Array.getElem?_eq_getElem h1⟩
    exact wpOpIn_mono (fun a' w' k => ⟨k, h.2.set h3⟩) (step listed a w h.1 h.2 i o ho h2 (h3 o ho))
  · unfold leftOf
    refine Nat.le_trans (List.length_filter_le _ _) (by simp)

theorem wpOpIn_of {i : Nat} {o : Oper} {K : Act → World → Prop} {a : Act} {w : World} (ho : ops[i]? = some o) (hg : o.guard = none) (h : o.wpIn F n P a w K Q) : wpOpIn F n P ops Q i K a w := by
  unfold wpOpIn
  rw [ho]
  simp only [Region.wanted, hg]
  exact h
theorem wpIn_value {o : Oper} {K : Act → World → Prop} {a : Act} {w w1 : World} {v : Value} (hF : ∀ f, o.about P w a.eval = some f → F.fn f) (h : (o.semAt F.round a.eval).run P w = .ok (.value v) w1) (k : K (a.put o.dst v) w1) : o.wpIn F n P a w K Q := by
  unfold Oper.wpIn
  rw [h]
  exact ⟨hF, k⟩
theorem wpIn_skip {o : Oper} {K : Act → World → Prop} {a : Act} {w w1 : World} (hF : ∀ f, o.about P w a.eval = some f → F.fn f) (h : (o.semAt F.round a.eval).run P w = .ok .skip w1) (k : K (a.put o.dst undef) w1) : o.wpIn F n P a w K Q := by
  unfold Oper.wpIn
  rw [h]
  exact ⟨hF, k⟩
theorem wpIn_store {o : Oper} {K : Act → World → Prop} {a : Act} {w w1 : World} (t : TypeId) (d x : Operand) (ho : o.op = .store t d x) {p u : Value} (hp : a.eval d = p) (hu : a.eval x = u) (hF : ∀ f, o.about P w a.eval = some f → F.fn f) (h : (Instr.storeAt t p u).run P w = .ok () w1) (k : K (a.put o.dst undef) w1) : o.wpIn F n P a w K Q := by
  refine wpIn_skip hF ?_ k
  rw [Oper.semAt_plain _ _ _ (by rw [ho]; simp)]
  simp [execOp, ho, hp, hu, h, Result.andThen]
end
theorem run_store_int {w : World} {A : Addr} {v : Value} (h1 : w.cell? A = some v) (h2 : w.frozen? A = false) (x : Int) : (Instr.storeAt 3 (.pointer (some A)) (.int .i64 x)).run Tryz.prog w = .ok () (w.setCell A (.int .i64 x)) := by
  go_simp
end Go.Proofs.YtnhhflnanogpjaaGreatDoor
