import Derived.Test.YtdokeddjcpnmiaaGreatDoorWorld
import Derived.BigQuiet
import Derived.OpenShut
import Derived.Orders
import Derived.Maps.Own
import Derived.Maps.OwnOps
import Derived.Deep.Cut
/- The contracts of package cell: Truth, Many, One. -/
namespace Go.Proofs.YtdokeddjcpnmiaaGreatDoor
open Go.RowKit

def Cell64 (x : Int) : Prop := -9223372036854775808 ≤ x ∧ x ≤ 9223372036854775807
theorem wrap64_cell (x : Int) : Cell64 (wrap64 x) := by unfold Cell64 wrap64; omega
theorem bitwise_cell (op : BinOp) (x y : Int) : Cell64 (bits op .i64 x y) := bounds_i64 (wf_bits op .i64 x y)
def truthF (b : Bool) : Int := if b then -1 else 0
theorem truthF_cell (b : Bool) : Cell64 (truthF b) := by unfold Cell64 truthF; cases b <;> decide
def manyF (op : Int) : Nat := if 1 ≤ op ∧ op ≤ 10 then 1 else if 11 ≤ op ∧ op ≤ 27 then 2 else 0

theorem Truth_any (b : Bool) (w : World) : Calls Tryz.prog 150 #[.bool b] w fun e w' => e = .returned (.int .i64 (truthF b)) ∧ w = w' := by
  cases b
  all_goals go_enter Tryz.func150, Tryz.ntmps150
  all_goals go_wp2
  all_goals go_ret
  all_goals exact ⟨rfl, rfl⟩

theorem Many_any (op : Int) (w : World) : Calls Tryz.prog 123 #[.int .i64 op] w fun e w' => e = .returned (.int .i64 (manyF op)) ∧ w = w' := by
  have H := Lib.hid (rfl : manyF op = manyF op)
  generalize hn : manyF op = n at H ⊢
  have H2 := Lib.hid hn
  clear hn H
  go_enter Tryz.func123, Tryz.ntmps123
  go_wp2
  all_goals go_ret
  all_goals refine ⟨?_, rfl⟩
  all_goals have h := H2.out
  all_goals unfold manyF at h
  all_goals first | (rw [if_pos (by omega)] at h; subst h; rfl) | (rw [if_neg (by omega), if_pos (by omega)] at h; subst h; rfl) | (rw [if_neg (by omega), if_neg (by omega)] at h; subst h; rfl)

/-- what is done to one cell -/
def oneF (op a : Int) : Int × Int :=
  if op = 1 then (wrap64 (-a), 0)
  else if op = 2 then (if a < 0 then wrap64 (-a) else a, 0)
  else if op = 3 then (bits .xor .i64 (-1) a, 0)
  else if op = 4 then (wrap64 (a + 1), 0)
  else if op = 5 then (wrap64 (a - 1), 0)
  else if op = 6 then (wrap64 (a * 2), 0)
  else if op = 7 then (a / 2, 0)
  else if op = 8 then (truthF (decide (a = 0)), 0)
  else if op = 9 then (truthF (decide (a < 0)), 0)
  else if op = 10 then (truthF (!decide (a = 0)), 0)
  else (0, 1)
theorem oneF_cell (op a : Int) (h : Cell64 a) : Cell64 (oneF op a).1 := by
  have h7 : Cell64 (a / 2) := by unfold Cell64 at *; omega
  have h0 : Cell64 0 := by unfold Cell64; decide
  have h2 : Cell64 (if a < 0 then wrap64 (-a) else a) := by
    by_cases hn : a < 0
    · rw [if_pos hn]; exact wrap64_cell _
    · rw [if_neg hn]; exact h
  have t := truthF_cell
  have wr := wrap64_cell
  have bi := bitwise_cell
  unfold oneF
  generalize (if a < 0 then wrap64 (-a) else a) = x2 at *
  repeat' split
  all_goals simp only []
  all_goals first | assumption | apply wr | apply t | apply bi

def OneSays (op a : Int) (r : Int × Int) (w : World) : Prop :=
  Calls Tryz.prog 126 #[.int .i64 op, .int .i64 a] w fun e w' => e = .returned (.tuple #[.int .i64 r.1, .int .i64 r.2]) ∧ w = w'

theorem One_1 (a : Int) (w : World) : OneSays 1 a (wrap64 (-a), 0) w := by
  unfold OneSays
  go_enter Tryz.func126, Tryz.ntmps126
  go_wp2
  go_ret2
  exact ⟨rfl, rfl⟩
theorem One_3 (a : Int) (w : World) : OneSays 3 a (bits .xor .i64 (-1) a, 0) w := by
  unfold OneSays
  go_enter Tryz.func126, Tryz.ntmps126
  go_wp2
  go_ret2
  exact ⟨rfl, rfl⟩
theorem One_4 (a : Int) (w : World) : OneSays 4 a (wrap64 (a + 1), 0) w := by
  unfold OneSays
  go_enter Tryz.func126, Tryz.ntmps126
  go_wp2
  go_ret2
  exact ⟨rfl, rfl⟩
theorem One_5 (a : Int) (w : World) : OneSays 5 a (wrap64 (a - 1), 0) w := by
  unfold OneSays
  go_enter Tryz.func126, Tryz.ntmps126
  go_wp2
  go_ret2
  exact ⟨rfl, rfl⟩
theorem One_6 (a : Int) (w : World) : OneSays 6 a (wrap64 (a * 2), 0) w := by
  unfold OneSays
  go_enter Tryz.func126, Tryz.ntmps126
  go_wp2
  go_ret2
  exact ⟨rfl, rfl⟩
theorem One_7 (a : Int) (w : World) : OneSays 7 a (a / 2, 0) w := by
  unfold OneSays
  go_enter Tryz.func126, Tryz.ntmps126
  go_wp2
  go_ret2
  exact ⟨rfl, rfl⟩
theorem One_2 (a : Int) (w : World) : OneSays 2 a (if a < 0 then wrap64 (-a) else a, 0) w := by
  unfold OneSays
  by_cases h : a < 0
  · rw [if_pos h]
    go_enter Tryz.func126, Tryz.ntmps126
    go_wp2
    go_ret2
    exact ⟨rfl, rfl⟩
  · rw [if_neg h]
    go_enter Tryz.func126, Tryz.ntmps126
    go_wp2
    go_ret2
    exact ⟨rfl, rfl⟩
theorem One_8 (a : Int) (w : World) : OneSays 8 a (truthF (decide (a = 0)), 0) w := by
  unfold OneSays
  have hT := fun b w => Truth_any b w
  go_enter Tryz.func126, Tryz.ntmps126
  go_wp2_with fail
  refine (hT _ _).mono ?_
  rintro _ _ ⟨rfl, rfl⟩
  go_wp2
  go_ret2
  exact ⟨rfl, rfl⟩
theorem One_9 (a : Int) (w : World) : OneSays 9 a (truthF (decide (a < 0)), 0) w := by
  unfold OneSays
  have hT := fun b w => Truth_any b w
  go_enter Tryz.func126, Tryz.ntmps126
  go_wp2_with fail
  refine (hT _ _).mono ?_
  rintro _ _ ⟨rfl, rfl⟩
  go_wp2
  go_ret2
  exact ⟨rfl, rfl⟩
theorem One_10 (a : Int) (w : World) : OneSays 10 a (truthF (!decide (a = 0)), 0) w := by
  unfold OneSays
  have hT := fun b w => Truth_any b w
  go_enter Tryz.func126, Tryz.ntmps126
  go_wp2_with fail
  refine (hT _ _).mono ?_
  rintro _ _ ⟨rfl, rfl⟩
  go_wp2
  go_ret2
  exact ⟨rfl, rfl⟩
set_option maxHeartbeats 1000000 in
theorem One_off (op a : Int) (h : op < 1 ∨ 10 < op) (w : World) : OneSays op a (0, 1) w := by
  unfold OneSays
  have h1 : ¬ op = 1 := by omega
  have h2 : ¬ op = 2 := by omega
  have h3 : ¬ op = 3 := by omega
  have h4 : ¬ op = 4 := by omega
  have h5 : ¬ op = 5 := by omega
  have h6 : ¬ op = 6 := by omega
  have h7 : ¬ op = 7 := by omega
  have h8 : ¬ op = 8 := by omega
  have h9 : ¬ op = 9 := by omega
  have h10 : ¬ op = 10 := by omega
  clear h
  go_enter Tryz.func126, Tryz.ntmps126
  go_wp2
  go_ret2
  exact ⟨rfl, rfl⟩
theorem One_any (op a : Int) (w : World) : OneSays op a (oneF op a) w := by
  by_cases h : op < 1 ∨ 10 < op
  · have e : oneF op a = (0, 1) := by
      unfold oneF
      rw [if_neg (by omega), if_neg (by omega), if_neg (by omega), if_neg (by omega), if_neg (by omega), if_neg (by omega), if_neg (by omega), if_neg (by omega), if_neg (by omega), if_neg (by omega)]
    rw [e]
    exact One_off op a h w
  · obtain ⟨k, hk, rfl⟩ : ∃ k : Nat, k < 10 ∧ op = k + 1 := ⟨(op - 1).toNat, by omega, by omega⟩
    clear h
    match k, hk with
    | 0, _ => exact One_1 a w
    | 1, _ => exact One_2 a w
    | 2, _ => exact One_3 a w
    | 3, _ => exact One_4 a w
    | 4, _ => exact One_5 a w
    | 5, _ => exact One_6 a w
    | 6, _ => exact One_7 a w
    | 7, _ => exact One_8 a w
    | 8, _ => exact One_9 a w
    | 9, _ => exact One_10 a w
end Go.Proofs.YtdokeddjcpnmiaaGreatDoor

/- A region that draws its order, by a word that holds between its operations: whatever order it is. -/
namespace Go.Proofs.YtdokeddjcpnmiaaGreatDoor
open Go.RowKit

section
variable {P : Program} {ops : Array Oper} {Q : Exit → Act → World → Prop} {md : Region.Mode}

theorem ready_spec {listed : Array Bool} {i : Nat} (h : i ∈ Region.ready md ops listed) :
    i < ops.size ∧ listed.getD i true = false ∧ ∀ o, ops[i]? = some o → ∀ e ∈ o.after, Region.binds md e = true → listed.getD e.on false = true := by
  unfold Region.ready at h
  simp only [List.mem_filter, List.mem_range, Bool.and_eq_true, Bool.not_eq_true'] at h
  obtain ⟨h1, h2, h3⟩ := h
  refine ⟨h1, h2, fun o ho e he hb => ?_⟩
  rw [ho] at h3
  simp only [Option.map_some, Option.getD_some, Array.all_eq_true_iff_forall_mem] at h3
  have := h3 e he
  simpa [hb] using this

/-- each operation waits for earlier ones alone -/
def afterB (ops : Array Oper) : Bool := (List.range ops.size).all fun i => ((ops[i]?).map fun o => o.after.all fun e => decide (e.on < i)).getD true
theorem ready_nil {listed : Array Bool} (hs : listed.size = ops.size) (ha : afterB ops = true) (h : Region.ready md ops listed = []) : ∀ i, i < ops.size → listed.getD i false = true := by
  intro i
  induction i using Nat.strongRecOn with
  | ind i ih =>
    intro hi
    cases e : listed.getD i false with
    | true => rfl
    | false =>
      have hm : i ∈ Region.ready md ops listed := by
        unfold Region.ready
        simp only [List.mem_filter, List.mem_range, Bool.and_eq_true, Bool.not_eq_true']
        refine ⟨hi, ?_, ?_⟩
        · rw [Array.getD_eq_getD_getElem?] at e ⊢
          rw [Array.getElem?_eq_getElem (by omega)] at e ⊢
          exact e
        · obtain ⟨o, ho⟩ : ∃ o, ops[i]? = some o := ⟨_, Array.getElem?_eq_getElem hi⟩
          rw [ho]
          simp only [Option.map_some, Option.getD_some, Array.all_eq_true_iff_forall_mem]
          intro x hx
          have h2 : x.on < i := by
            unfold afterB at ha
            rw [List.all_eq_true] at ha
            have := ha i (by simpa using hi)
            rw [ho] at this
            simp only [Option.map_some, Option.getD_some, Array.all_eq_true_iff_forall_mem] at this
            simpa using this x hx
          rw [ih x.on h2 (by omega)]
          simp
      rw [h] at hm
      cases hm

def leftOf (listed : Array Bool) : Nat := (listed.toList.filter fun b => !b).length
theorem leftOf_set {listed : Array Bool} {i : Nat} (h : listed.getD i true = false) : leftOf (listed.setIfInBounds i true) + 1 = leftOf listed := by
  obtain ⟨l⟩ := listed
  simp only [Array.getD_eq_getD_getElem?, List.getElem?_toArray] at h
  unfold leftOf
  simp only [List.setIfInBounds_toArray]
  induction l generalizing i with
  | nil => simp at h
  | cons b l ih =>
    cases i with
    | zero =>
      simp at h
      subst h
      simp
    | succ i =>
      have := ih (i := i) (by simpa using h)
      cases b <;> simp [List.set_cons_succ] <;> omega

/-- what is done, all that it waits for is done -/
def Closed (md : Region.Mode) (ops : Array Oper) (listed : Array Bool) : Prop := ∀ i o, ops[i]? = some o → listed.getD i false = true → ∀ e ∈ o.after, Region.binds md e = true → listed.getD e.on false = true
theorem getD_set {listed : Array Bool} {i j : Nat} (h : listed.getD j false = true) : (listed.setIfInBounds i true).getD j false = true := by
  rw [Array.getD_eq_getD_getElem?] at h ⊢
  rw [Array.getElem?_setIfInBounds]
  split
  · split
    · rfl
    · rename_i h1 h2
      subst h1
      rw [Array.getElem?_eq_none (by omega)] at h
      cases h
  · exact h
/-- what a set place is, and another one -/
theorem listed_set {listed : Array Bool} {i j : Nat} (h : (listed.setIfInBounds i true).getD j false = true) : j = i ∨ listed.getD j false = true := by
  rw [Array.getD_eq_getD_getElem?, Array.getElem?_setIfInBounds] at h
  by_cases e : i = j
  · exact .inl e.symm
  · rw [if_neg e] at h
    exact .inr (by rw [Array.getD_eq_getD_getElem?]; exact h)
theorem Closed.set {listed : Array Bool} {i : Nat} (h : Closed md ops listed) (hi : ∀ o, ops[i]? = some o → ∀ e ∈ o.after, Region.binds md e = true → listed.getD e.on false = true) : Closed md ops (listed.setIfInBounds i true) := fun j o ho hj e he hb => by
  rcases listed_set hj with rfl | hj
  · exact getD_set (hi o ho e he hb)
  · exact getD_set (h j o ho hj e he hb)

theorem wpAny_inv (I : Array Bool → Act → World → Prop)
    (step : ∀ listed a w, listed.size = ops.size → I listed a w → ∀ i ∈ Region.ready md ops listed, wpOp P ops Q i (fun a' w' => I (listed.setIfInBounds i true) a' w') a w)
    (fin : ∀ listed a w, listed.size = ops.size → I listed a w → Region.ready md ops listed = [] → Q .normal a w) : ∀ (fuel : Nat) (listed : Array Bool) (a : Act) (w : World), listed.size = ops.size → leftOf listed ≤ fuel → I listed a w → wpAny P md ops Q fuel listed a w
  | 0, listed, a, w, hs, hl, h => by
    have hr : Region.ready md ops listed = [] := by
      cases e : Region.ready md ops listed with
      | nil => rfl
      | cons i r =>
        have := (ready_spec (md := md) (ops := ops) (listed := listed) (i := i) (by rw [e]; simp)).2.1
        have := leftOf_set this
        omega
    exact ⟨hr, fin listed a w hs h hr⟩
  | fuel + 1, listed, a, w, hs, hl, h => by
    refine ⟨fin listed a w hs h, fun i hi => ?_⟩
    have hls := leftOf_set (ready_spec hi).2.1
    exact wpOp_mono (fun a' w' h' => wpAny_inv I step fin fuel _ a' w' (by simpa using hs) (by omega) h') (step listed a w hs h i hi)

/-- A REGION THAT DRAWS ITS ORDER, by a word that holds between its operations -/
theorem region_inv {id : Nat} {a : Act} {w : World} (I : Array Bool → Act → World → Prop) (hm : P.follows .mixedOrders = true) (ha : afterB ops = true)
    (h0 : ∀ listed : Array Bool, listed.size = ops.size → (∀ i, listed.getD i false = false) → I listed a w.drew)
    (step : ∀ listed a w, I listed a w → Closed .any ops listed → ∀ i o, ops[i]? = some o → listed.getD i true = false → (∀ e ∈ o.after, Region.binds .any e = true → listed.getD e.on false = true) → wpOp P ops Q i (fun a' w' => I (listed.setIfInBounds i true) a' w') a w)
    (fin : ∀ listed a w, (∀ i, i < ops.size → listed.getD i false = true) → I listed a w → Q .normal a w) : (Code.region id ops true).wp P Q a w := by
  have hz : ∀ i, (Array.replicate ops.size false).getD i false = false := fun i => by
    rw [Array.getD_eq_getD_getElem?]
    rw [Array.getElem?_replicate]
    split <;> rfl
  refine wp_region_any hm (wpAny_inv (fun listed a w => I listed a w ∧ Closed .any ops listed) (fun listed a w hs h i hi => ?_) (fun listed a w hs h hr => fin listed a w (ready_nil hs ha hr) h.1) _ _ a _ (by simp) ?_ ⟨h0 _ (by simp) hz, fun i o _ h => by rw [hz] at h; cases h⟩)
  · obtain ⟨h1, h2, h3⟩ := ready_spec hi
    obtain ⟨o, ho⟩ : ∃ o, ops[i]? = some o := ⟨_, Array.getElem?_eq_getElem h1⟩
    exact wpOp_mono (fun a' w' k => ⟨k, h.2.set h3⟩) (step listed a w h.1 h.2 i o ho h2 (h3 o ho))
  · unfold leftOf
    refine Nat.le_trans (List.length_filter_le _ _) (by simp)

theorem wpOp_of {i : Nat} {o : Oper} {K : Act → World → Prop} {a : Act} {w : World} (ho : ops[i]? = some o) (hg : o.guard = none) (h : o.wp P a w K Q) : wpOp P ops Q i K a w := by
  unfold wpOp
  rw [ho]
  simp only [Region.wanted, hg]
  exact .inl h
theorem wp_value {o : Oper} {K : Act → World → Prop} {a : Act} {w w1 : World} {v : Value} (h : (execOp a.eval o).run P w = .ok (.value v) w1) (k : K (a.put o.dst v) w1) : o.wp P a w K Q := by
  unfold Oper.wp
  rw [h]
  exact k
theorem wp_skip {o : Oper} {K : Act → World → Prop} {a : Act} {w w1 : World} (h : (execOp a.eval o).run P w = .ok .skip w1) (k : K (a.put o.dst undef) w1) : o.wp P a w K Q := by
  unfold Oper.wp
  rw [h]
  exact k
theorem wp_enter {o : Oper} {K : Act → World → Prop} {a : Act} {w w1 : World} {f : FuncId} {args : Array Value} (h : (execOp a.eval o).run P w = .ok (.enter f args) w1) (k : Calls P f args w1 fun e w'' => ∃ v, e = .returned v ∧ K (a.put o.dst v) w'') : o.wp P a w K Q := by
  unfold Oper.wp
  rw [h]
  refine k.mono ?_
  rintro e w'' ⟨v, rfl, h⟩
  exact h
end

theorem getD_set_ne {listed : Array Bool} {i j : Nat} (h : i ≠ j) : (listed.setIfInBounds i true).getD j false = listed.getD j false := by
  rw [Array.getD_eq_getD_getElem?, Array.getD_eq_getD_getElem?, Array.getElem?_setIfInBounds, if_neg h]
theorem getD_set_same {listed : Array Bool} {i : Nat} (h : listed.getD i true = false) : (listed.setIfInBounds i true).getD i false = true := by
  rw [Array.getD_eq_getD_getElem?] at h ⊢
  rw [Array.getElem?_setIfInBounds, if_pos rfl]
  split
  · rfl
  · rename_i h1
    rw [Array.getElem?_eq_none (by omega)] at h
    cases h
theorem getD_false {listed : Array Bool} {i : Nat} (h : listed.getD i true = false) : listed.getD i false = false := by
  rw [Array.getD_eq_getD_getElem?] at h ⊢
  cases e : listed[i]? with
  | none => rfl
  | some b => rw [e] at h; exact h
/-- what the slots of the operations that are done hold -/
def TabOk (tab : List (Nat × Nat × Value)) (listed : Array Bool) (f : Nat → Value) : Prop := ∀ x ∈ tab, listed.getD x.1 false = true → f x.2.1 = x.2.2
theorem TabOk.step {tab : List (Nat × Nat × Value)} {listed : Array Bool} {f : Nat → Value} (h : TabOk tab listed f) {i d : Nat} {v : Value} (hu : ∀ x ∈ tab, (x.1 = i → x.2.1 = d ∧ x.2.2 = v) ∧ (x.2.1 = d → x.1 = i)) : TabOk tab (listed.setIfInBounds i true) (fun j => if j = d then v else f j) := fun x hx hl => by
  by_cases e : x.2.1 = d
  · simp only [e, if_true]
    exact ((hu x hx).1 ((hu x hx).2 e)).2.symm
  · simp only [if_neg e]
    rcases listed_set hl with h1 | h1
    · exact absurd ((hu x hx).1 h1).1 e
    · exact h x hx h1
theorem TabOk.keep {tab : List (Nat × Nat × Value)} {listed : Array Bool} {f : Nat → Value} (h : TabOk tab listed f) {i : Nat} (hu : ∀ x ∈ tab, x.1 ≠ i) : TabOk tab (listed.setIfInBounds i true) f := fun x hx hl => by
  rcases listed_set hl with h1 | h1
  · exact absurd h1 (hu x hx)
  · exact h x hx h1
end Go.Proofs.YtdokeddjcpnmiaaGreatDoor

/- Maps keyed by whole numbers that the call itself makes: what they hold as a list of pairs, whatever the elements are. -/
namespace Go.Proofs.YtdokeddjcpnmiaaGreatDoor
open Go.RowKit
open Go.MapKept (IsKey run_checkKey run_findKey run_setObj_map run_keyThatStays)

/-- BLOCK b OF w IS A MAP keyed by int that holds these pairs, in the order in which they came -/
def IMap (w : World) (b : Nat) (l : List (Int × Value)) : Prop :=
  ∃ es clock, w.heap[b]? = some (.map es clock) ∧ es.toList.map (fun e => (e.key, e.val)) = l.map (fun p => (Value.int .i64 p.1, p.2))

/-- what stands at a key -/
def atKey (l : List (Int × Value)) (k : Int) : Option Value := (l.find? (fun p => p.1 == k)).map (·.2)
/-- a pair put in -/
def putKey : List (Int × Value) → Int → Value → List (Int × Value)
  | [], k, v => [(k, v)]
  | p :: l, k, v => if p.1 = k then (k, v) :: l else p :: putKey l k v

section
variable {P : Program} {w w' : World} {b : Nat} {l : List (Int × Value)} {t k e : TypeId}

theorem IMap.new (w : World) : IMap (w.alloc (.map #[] 0)) w.heap.size [] := ⟨#[], 0, (MapKept.heap_alloc w _).1, rfl⟩
theorem IMap.lt (h : IMap w b l) : b < w.heap.size := by
  obtain ⟨es, c, hb, _⟩ := h
  exact (Array.getElem?_eq_some_iff.1 hb).1
theorem IMap.block (h : IMap w b l) (hk : w'.heap[b]? = w.heap[b]?) : IMap w' b l := by
  obtain ⟨es, c, hb, hl⟩ := h
  exact ⟨es, c, hk.trans hb, hl⟩
theorem IMap.alloc (h : IMap w b l) (o : Obj) : IMap (w.alloc o) b l := h.block (Below.heap_alloc _ _ _ h.lt)
theorem IMap.drew (h : IMap w b l) : IMap w.drew b l := h
theorem IMap.drewN (h : IMap w b l) (n : Nat) : IMap (w.drewN n) b l := h
theorem IMap.touch {F : List Nat} (h : IMap w b l) (ht : Touch F w w') (hn : b ∉ F) : IMap w' b l := h.block (ht.block b h.lt hn)
theorem IMap.setCell (h : IMap w b l) {p : Addr} (hp : b ≠ p.block) (u : Value) : IMap (w.setCell p u) b l := h.block (Below.heap_setCell _ _ _ _ hp)

theorem find_list (d : TypeDesc) (hd : d = .int .i64) (x : Int) : ∀ (es : List MapEntry) (l : List (Int × Value)) (i : Nat), es.map (fun e => (e.key, e.val)) = l.map (fun p => (Value.int .i64 p.1, p.2)) →
    (atKey l x = none ∧ Instr.findNow d (.int .i64 x) es i = some none ∧ putKey l x = fun v => l ++ [(x, v)]) ∨
    ∃ j e v, atKey l x = some v ∧ Instr.findNow d (.int .i64 x) es i = some (some (i + j, v)) ∧ es[j]? = some e ∧ e.key = .int .i64 x ∧ ∀ u, (es.modify j fun e => { e with key := .int .i64 x, val := u }).map (fun e => (e.key, e.val)) = (putKey l x u).map (fun p => (Value.int .i64 p.1, p.2))
  | [], [], i, _ => .inl ⟨rfl, rfl, rfl⟩
  | [], _ :: _, i, h => by simp at h
  | _ :: _, [], i, h => by simp at h
  | e :: es, p :: l, i, h => by
    simp only [List.map_cons, List.cons.injEq, Prod.mk.injEq] at h
    obtain ⟨⟨hk, hv⟩, hr⟩ := h
    by_cases hx : p.1 = x
    · refine .inr ⟨0, e, p.2, by simp [atKey, hx], ?_, by simp, by rw [hk, hx], fun u => ?_⟩
      · subst hd
        simp [Instr.findNow, Instr.sameNow, hk, hx, hv]
      · simp [putKey, hx, hr]
    · have hx' : (x == p.1) = false := by simp [show ¬ x = p.1 from fun e => hx e.symm]
      rcases find_list d hd x es l (i + 1) hr with ⟨h1, h2, h3⟩ | ⟨j, e', v, h1, h2, h3, h4, h5⟩
      · refine .inl ⟨?_, ?_, ?_⟩
        · simpa [atKey, List.find?_cons, hx] using h1
        · subst hd
          simpa [Instr.findNow, Instr.sameNow, hk, hx'] using h2
        · funext v
          simp [putKey, hx, h3]
      · refine .inr ⟨j + 1, e', v, ?_, ?_, by simpa using h3, h4, fun u => ?_⟩
        · simpa [atKey, List.find?_cons, hx] using h1
        · subst hd
          have := h2
          rw [show i + 1 + j = i + (j + 1) by omega] at this
          simpa [Instr.findNow, Instr.sameNow, hk, hx'] using this
        · have := h5 u
          simp only [List.modify_succ_cons, List.map_cons, putKey, hx, if_false, hk, hv]
          rw [this]

/-- 'm[k] = v' -/
theorem IMap.update (h : IMap w b l) (ht : P.underlying t = some (.map k e)) (hk : P.underlying k = some (.int .i64)) (x : Int) (v : Value) :
    ∃ w', (Instr.mapUpdate t (.map (some b)) (.int .i64 x) v).run P w = .ok () w' ∧ IMap w' b (putKey l x v) ∧ Touch [b] w w' := by
  obtain ⟨es, clock, hb, hl⟩ := h
  have hb' : b < w.heap.size := (Array.getElem?_eq_some_iff.1 hb).1
  have hi : IsKey (.int .i64) (.int .i64 x) := by simp [IsKey]
  have hc := fun w => run_checkKey (P := P) (w := w) hk hi false 9999
  have htouch : ∀ o, Touch [b] w { w with heap := w.heap.setIfInBounds b o } := fun o => ⟨rfl, rfl, rfl, by simp, fun k hk hn => by
    simp only [List.mem_singleton] at hn
    show (w.heap.setIfInBounds b o)[k]? = _
    rw [Array.getElem?_setIfInBounds_ne (Ne.symm hn)]⟩
  have hat : ∀ o, ({ w with heap := w.heap.setIfInBounds b o } : World).heap[b]? = some o := fun o => by
    show (w.heap.setIfInBounds b o)[b]? = _
    rw [Array.getElem?_setIfInBounds_self_of_lt hb']
  rcases find_list _ rfl x es.toList l 0 hl with ⟨h1, h2, h3⟩ | ⟨j, e0, v0, h1, h2, h3, h4, h5⟩
  · refine ⟨_, by simp [Instr.mapUpdate, run_underlying ht, MapKept.run_getObj_map hb, hc, run_findKey hk h2, run_setObj_map _ hb, Result.andThen]; rfl, ⟨_, _, hat _, ?_⟩, htouch _⟩
    simp [h3, hl]
  · have hj : es[j]? = some e0 := by simpa using h3
    have h2' : Instr.findNow (.int .i64) (.int .i64 x) es.toList 0 = some (some (j, v0)) := by simpa using h2
    refine ⟨_, by simp [Instr.mapUpdate, run_underlying ht, MapKept.run_getObj_map hb, hc, run_findKey hk h2', hj, h4, run_keyThatStays hi, run_setObj_map _ hb, Result.andThen]; rfl, ⟨_, _, hat _, ?_⟩, htouch _⟩
    rw [Array.toList_modify]
    exact h5 v

/-- 'm[k]', where it is there -/
theorem IMap.lookup (h : IMap w b l) (ht : P.underlying t = some (.map k e)) (hk : P.underlying k = some (.int .i64)) {x : Int} {v : Value} (hx : atKey l x = some v) :
    (Instr.lookup t (.map (some b)) (.int .i64 x) false).run P w = .ok v w ∧ (Instr.lookup t (.map (some b)) (.int .i64 x) true).run P w = .ok (.tuple #[v, .bool true]) w := by
  obtain ⟨es, clock, hb, hl⟩ := h
  have hi : IsKey (.int .i64) (.int .i64 x) := by simp [IsKey]
  have hc := fun z w => run_checkKey (P := P) (w := w) hk hi z 9999
  rcases find_list _ rfl x es.toList l 0 hl with ⟨h1, h2, h3⟩ | ⟨j, e0, v0, h1, h2, h3, h4, h5⟩
  · rw [hx] at h1; cases h1
  · rw [hx] at h1
    cases h1
    simp [Instr.lookup, run_underlying ht, MapKept.run_getObj_map hb, hc, run_findKey hk h2, Result.andThen]

/-- .. where it is not -/
theorem IMap.lookup_none (h : IMap w b l) (ht : P.underlying t = some (.map k e)) (hk : P.underlying k = some (.int .i64)) {x : Int} (hx : atKey l x = none) {z : Value} (hz : ∀ w, (zeroValue e).run P w = .ok z w) :
    (Instr.lookup t (.map (some b)) (.int .i64 x) false).run P w = .ok z w ∧ (Instr.lookup t (.map (some b)) (.int .i64 x) true).run P w = .ok (.tuple #[z, .bool false]) w := by
  obtain ⟨es, clock, hb, hl⟩ := h
  have hi : IsKey (.int .i64) (.int .i64 x) := by simp [IsKey]
  have hc := fun z w => run_checkKey (P := P) (w := w) hk hi z 9999
  rcases find_list _ rfl x es.toList l 0 hl with ⟨h1, h2, h3⟩ | ⟨j, e0, v0, h1, h2, h3, h4, h5⟩
  · simp [Instr.lookup, run_underlying ht, MapKept.run_getObj_map hb, hc, run_findKey hk h2, Result.andThen, hz]
  · rw [hx] at h1; cases h1
end

/-- 'm[k] = v' at the operation -/
theorem wpList_imap {P : Program} (w : World) {ops : Array Oper} {rest : List Oper} {o : Oper} {a : Act} {Q : Exit → Act → World → Prop}
    (hg : o.guard = none) (m x v : Operand) (t : TypeId) (hop : o.op = Op.mapUpdate t m x v) (k e : TypeId) (ht : P.underlying t = some (.map k e)) (hk : P.underlying k = some (.int .i64)) (b : Nat) (l : List (Int × Value))
    (hm : a.eval m = .map (some b)) (hown : IMap w b l) (key : Int) (hx : a.eval x = .int .i64 key) (val : Value) (hv : a.eval v = val)
    (hK : ∀ w', IMap w' b (putKey l key val) → Touch [b] w w' → wpList P ops Q rest (a.put o.dst undef) w') :
    wpList P ops Q (o :: rest) a w := by
  refine wpList_plain hg fun K' hK' => ?_
  obtain ⟨w', hrun, r1, r2⟩ := hown.update ht hk key val
  unfold Oper.wp
  simp [execOp, hop, hm, hx, hv, hrun, Result.andThen]
  exact hK' _ _ (hK w' r1 r2)
/-- 'm[k] = v' in a literal -/
theorem wpList_iins {P : Program} (w : World) {ops : Array Oper} {rest : List Oper} {o : Oper} {a : Act} {Q : Exit → Act → World → Prop}
    (hg : o.guard = none) (m x v : Operand) (t : TypeId) (hop : o.op = Op.insert t m x v) (k e : TypeId) (ht : P.underlying t = some (.map k e)) (hk : P.underlying k = some (.int .i64)) (b : Nat) (l : List (Int × Value))
    (hm : a.eval m = .map (some b)) (hown : IMap w b l) (key : Int) (hx : a.eval x = .int .i64 key) (val : Value) (hv : a.eval v = val)
    (hK : ∀ w', IMap w' b (putKey l key val) → Touch [b] w w' → wpList P ops Q rest (a.put o.dst undef) w') :
    wpList P ops Q (o :: rest) a w := by
  refine wpList_plain hg fun K' hK' => ?_
  obtain ⟨w', hrun, r1, r2⟩ := hown.update ht hk key val
  unfold Oper.wp
  simp [execOp, hop, hm, hx, hv, hrun, Result.andThen]
  exact hK' _ _ (hK w' r1 r2)
end Go.Proofs.YtdokeddjcpnmiaaGreatDoor

/- A map that a literal lays, its operations in whatever order: a word that holds between them, for any table of operations. -/
namespace Go.Proofs.YtdokeddjcpnmiaaGreatDoor
open Go.RowKit

/-- the operations of a literal: the slot of each, which of them put what key in; the map's slot, the move of it and the assignment -/
structure MTab where
  n : Nat
  dst : List Nat
  ins : List (Nat × Int)
  m : Nat
  im : Nat
  dm : Nat
  ia : Nat
  da : Nat
def MTab.at_ (T : MTab) (j : Nat) : Nat := T.dst.getD j 0
def MTab.valOk (T : MTab) (i d : Nat) : Bool := (decide (0 < i) && decide (i < T.n) && decide (i ≠ T.im) && decide (i ≠ T.ia) && decide (T.at_ i = d) && decide (d ≠ T.m) && decide (d ≠ T.dm) && decide (d ≠ T.da)) && ((List.range T.n).all fun j => decide (T.at_ j ≠ d) || decide (j = i)) && T.ins.all fun p => decide (p.1 ≠ i)
def MTab.insOk (T : MTab) (i : Nat) (key : Int) : Bool := decide ((i, key) ∈ T.ins) && decide (i ≠ 0) && decide (i ≠ T.im) && decide (i ≠ T.ia) && T.ins.all fun p => decide (p.1 ≠ i) || decide (p.2 = key)
def MTab.ok (T : MTab) : Bool := (decide (T.at_ 0 = T.m) && decide (T.at_ T.im = T.dm) && decide (T.at_ T.ia = T.da) && decide (T.im ≠ 0) && decide (T.ia ≠ 0) && decide (T.im ≠ T.ia) && decide (T.m ≠ T.dm) && decide (T.m ≠ T.da) && decide (T.dm ≠ T.da)) &&
  ((List.range T.n).all fun j => (decide (j = 0) || decide (T.at_ j ≠ T.m)) && (decide (j = T.im) || decide (T.at_ j ≠ T.dm)) && (decide (j = T.ia) || decide (T.at_ j ≠ T.da))) && T.ins.all fun p => decide (p.1 ≠ 0) && decide (p.1 ≠ T.im) && decide (p.1 ≠ T.ia)

/-- what blocks there are stay -/
def OnB (A B : World) : Prop := ∀ g t cs, Blk A g t cs → Blk B g t cs
theorem OnB.touch {A B : World} (t : Touch [] A B) : OnB A B := fun _ _ _ h => h.touch t (by simp)
theorem OnB.map {A B : World} {mb : Nat} {l : List (Int × Value)} (hm : IMap A mb l) (t : Touch [mb] A B) : OnB A B := fun g ty cs h => h.touch t (fun hg => by
  rw [List.mem_singleton.1 hg] at h
  obtain ⟨es, c, he, _⟩ := hm
  unfold Blk at h
  rw [h] at he
  cases he)
theorem at_put (l : List (Int × Value)) (k : Int) (v : Value) (x : Int) : atKey (putKey l k v) x = if x = k then some v else atKey l x := by
  induction l with
  | nil =>
    by_cases h : x = k
    · subst h; simp [putKey, atKey]
    · simp [putKey, atKey, h, Ne.symm h]
  | cons p l ih =>
    unfold putKey
    by_cases hp : p.1 = k
    · rw [if_pos hp]
      by_cases h : x = k
      · subst h; simp [atKey]
      · have h1 : ¬ k = x := fun e => h e.symm
        have h2 : ¬ p.1 = x := by rw [hp]; exact h1
        simp [atKey, h, h1, h2]
    · rw [if_neg hp]
      by_cases h : p.1 = x
      · have h1 : ¬ x = k := by rw [← h]; exact hp
        simp [atKey, h, h1]
      · have e1 : atKey (p :: putKey l k v) x = atKey (putKey l k v) x := by simp [atKey, h]
        have e2 : atKey (p :: l) x = atKey l x := by simp [atKey, h]
        rw [e1, e2, ih]

structure MInv (T : MTab) (PV : Nat → Value → World → Prop) (Good : Int → Value → World → Prop) (w0 : World) (listed : Array Bool) (f : Nat → Value) (W : World) : Prop where
  t : Touch [] w0 W
  pv : ∀ j, j < T.n → listed.getD j false = true → PV j (f (T.at_ j)) W
  map : listed.getD 0 false = true → ∃ mb l, f T.m = .map (some mb) ∧ w0.heap.size ≤ mb ∧ IMap W mb l ∧ (∀ k v, atKey l k = some v → Good k v W) ∧ ∀ p ∈ T.ins, listed.getD p.1 false = true → (atKey l p.2).isSome = true
  mv : listed.getD T.im false = true → f T.dm = f T.m
  fin : listed.getD T.ia false = true → f T.da = f T.m
/-- what the laws ask of PV and Good -/
structure MStays (PV : Nat → Value → World → Prop) (Good : Int → Value → World → Prop) : Prop where
  pv : ∀ A B, OnB A B → ∀ j v, PV j v A → PV j v B
  good : ∀ A B, OnB A B → ∀ k v, Good k v A → Good k v B

section
variable {T : MTab} {PV : Nat → Value → World → Prop} {Good : Int → Value → World → Prop} {w0 W W' : World} {listed : Array Bool} {f : Nat → Value}
theorem MInv.start (hl : ∀ i, listed.getD i false = false) (t : Touch [] w0 W) : MInv T PV Good w0 listed f W :=
  ⟨t, fun j _ h => (by rw [hl] at h; cases h), fun h => (by rw [hl] at h; cases h), fun h => (by rw [hl] at h; cases h), fun h => (by rw [hl] at h; cases h)⟩
theorem MInv.val (h : MInv T PV Good w0 listed f W) (hs : MStays PV Good) {i d : Nat} {v : Value} (hi : T.valOk i d = true) (t : Touch [] W W') (hv : PV i v W') : MInv T PV Good w0 (listed.setIfInBounds i true) (fun j => if j = d then v else f j) W' := by
  have o := OnB.touch t
  simp only [MTab.valOk, Bool.and_eq_true, decide_eq_true_eq, List.all_eq_true, Bool.or_eq_true, List.mem_range] at hi
  obtain ⟨⟨⟨⟨⟨⟨⟨⟨⟨h0, h1⟩, h2⟩, h3⟩, h4⟩, h5⟩, h6⟩, h7⟩, h8⟩, h9⟩ := hi
  refine ⟨h.t.trans t (by simp), fun j hj hl => ?_, fun hl => ?_, fun hl => ?_, fun hl => ?_⟩
  · by_cases e : j = i
    · subst e
      simp only [h4, if_true]
      exact hv
    · have : ¬ T.at_ j = d := by
        rcases h8 j hj with h | h
        · exact h
        · exact absurd h e
      simp only [if_neg this]
      exact hs.pv _ _ o _ _ (h.pv j hj (by rwa [getD_set_ne (Ne.symm e)] at hl))
  · rw [getD_set_ne (by omega)] at hl
    obtain ⟨mb, l, e, k1, k2, k3, k4⟩ := h.map hl
    exact ⟨mb, l, by simp only [if_neg (Ne.symm h5)]; exact e, k1, k2.touch t (by simp), fun k v hk => hs.good _ _ o _ _ (k3 k v hk), fun p hp hl => k4 p hp (by rwa [getD_set_ne (fun e => h9 p hp e.symm)] at hl)⟩
  · simp only [if_neg (Ne.symm h6), if_neg (Ne.symm h5)]
    exact h.mv (by rwa [getD_set_ne h2] at hl)
  · simp only [if_neg (Ne.symm h7), if_neg (Ne.symm h5)]
    exact h.fin (by rwa [getD_set_ne h3] at hl)
theorem MTab.ok_spec (h : T.ok = true) : (T.at_ 0 = T.m ∧ T.at_ T.im = T.dm ∧ T.at_ T.ia = T.da ∧ T.im ≠ 0 ∧ T.ia ≠ 0 ∧ T.im ≠ T.ia ∧ T.m ≠ T.dm ∧ T.m ≠ T.da ∧ T.dm ≠ T.da) ∧ (∀ j, j < T.n → (j = 0 ∨ T.at_ j ≠ T.m) ∧ (j = T.im ∨ T.at_ j ≠ T.dm) ∧ (j = T.ia ∨ T.at_ j ≠ T.da)) ∧ ∀ p ∈ T.ins, p.1 ≠ 0 ∧ p.1 ≠ T.im ∧ p.1 ≠ T.ia := by
  simp only [MTab.ok, Bool.and_eq_true, decide_eq_true_eq, List.all_eq_true, Bool.or_eq_true, List.mem_range] at h
  obtain ⟨⟨⟨⟨⟨⟨⟨⟨⟨⟨a, b⟩, c⟩, d⟩, e⟩, f⟩, g⟩, i⟩, j⟩, k⟩, l⟩ := h
  exact ⟨⟨a, b, c, d, e, f, g, i, j⟩, fun x hx => ⟨(k x hx).1.1, (k x hx).1.2, (k x hx).2⟩, fun p hp => ⟨(l p hp).1.1, (l p hp).1.2, (l p hp).2⟩⟩
theorem MInv.made (h : MInv T PV Good w0 listed f W) (hs : MStays PV Good) (hT : T.ok = true) (h0 : ∀ v W, PV 0 v W) (hn : ∀ p ∈ T.ins, listed.getD p.1 false = false) (hm : listed.getD T.im false = false) (ha : listed.getD T.ia false = false) :
    MInv T PV Good w0 (listed.setIfInBounds 0 true) (fun j => if j = T.m then .map (some W.heap.size) else f j) (W.alloc (.map #[] 0)) := by
  have t := (Touch.refl [] W).alloc (.map #[] 0)
  have o := OnB.touch t
  obtain ⟨⟨z0, z1, z2, z3, z4, z5, z6, z7, z8⟩, zj, zi⟩ := MTab.ok_spec hT
  refine ⟨h.t.trans t (by simp), fun j hj hl => ?_, fun hl => ?_, fun hl => ?_, fun hl => ?_⟩
  · by_cases e : j = 0
    · subst e; exact h0 _ _
    · have : ¬ T.at_ j = T.m := by
        rcases (zj j hj).1 with h | h
        · exact absurd h e
        · exact h
      simp only [if_neg this]
      exact hs.pv _ _ o _ _ (h.pv j hj (by rwa [getD_set_ne (Ne.symm e)] at hl))
  · refine ⟨W.heap.size, [], by simp, h.t.size, IMap.new W, fun k v hk => by simp [atKey] at hk, fun p hp hl => ?_⟩
    rw [getD_set_ne (Ne.symm (zi p hp).1)] at hl
    rw [hn p hp] at hl
    cases hl
  · rw [getD_set_ne (Ne.symm z3), hm] at hl; cases hl
  · rw [getD_set_ne (Ne.symm z4), ha] at hl; cases hl
theorem MInv.put (h : MInv T PV Good w0 listed f W) (hs : MStays PV Good) {i : Nat} {key : Int} {mb : Nat} {l : List (Int × Value)} {v : Value} (hi : T.insOk i key = true) (hPV : ∀ v W, PV i v W) (hm : f T.m = .map (some mb)) (hmb : w0.heap.size ≤ mb) (hl : IMap W mb l) (k3 : ∀ k v, atKey l k = some v → Good k v W)
    (k4 : ∀ p ∈ T.ins, listed.getD p.1 false = true → (atKey l p.2).isSome = true) (hv : Good key v W) (hl' : IMap W' mb (putKey l key v)) (t : Touch [mb] W W') : MInv T PV Good w0 (listed.setIfInBounds i true) f W' := by
  have o := OnB.map hl t
  simp only [MTab.insOk, Bool.and_eq_true, decide_eq_true_eq, List.all_eq_true, Bool.or_eq_true] at hi
  obtain ⟨⟨⟨⟨_, h0⟩, h1⟩, h2⟩, h3⟩ := hi
  refine ⟨h.t.trans t (fun g hg => .inr (by rw [List.mem_singleton.1 hg]; exact hmb)), fun j hj hl => ?_, fun _ => ⟨mb, _, hm, hmb, hl', fun k u hk => ?_, fun p hp hpl => ?_⟩, fun hl => ?_, fun hl => ?_⟩
  · rcases listed_set hl with e | e
    · subst e; exact hPV _ _
    · exact hs.pv _ _ o _ _ (h.pv j hj e)
  · rw [at_put] at hk
    split at hk
    · rename_i e
      cases hk
      rw [e]
      exact hs.good _ _ o _ _ hv
    · exact hs.good _ _ o _ _ (k3 k u hk)
  · rw [at_put]
    split
    · rfl
    · rename_i e
      rcases listed_set hpl with e2 | e2
      · rcases h3 p hp with h | h
        · exact absurd e2 h
        · exact absurd h e
      · exact k4 p hp e2
  · exact h.mv (by rwa [getD_set_ne h1] at hl)
  · exact h.fin (by rwa [getD_set_ne h2] at hl)
theorem MInv.move (h : MInv T PV Good w0 listed f W) (hT : T.ok = true) (hPV : ∀ v W, PV T.im v W) : MInv T PV Good w0 (listed.setIfInBounds T.im true) (fun j => if j = T.dm then f T.m else f j) W := by
  obtain ⟨⟨z0, z1, z2, z3, z4, z5, z6, z7, z8⟩, zj, zi⟩ := MTab.ok_spec hT
  refine ⟨h.t, fun j hj hl => ?_, fun hl => ?_, fun _ => ?_, fun hl => ?_⟩
  · by_cases e : j = T.im
    · rw [e]; exact hPV _ _
    · have : ¬ T.at_ j = T.dm := by
        rcases (zj j hj).2.1 with h | h
        · exact absurd h e
        · exact h
      simp only [if_neg this]
      exact h.pv j hj (by rwa [getD_set_ne (Ne.symm e)] at hl)
  · rw [getD_set_ne z3] at hl
    obtain ⟨mb, l, e, k1, k2, k3, k4⟩ := h.map hl
    exact ⟨mb, l, by simp only [if_neg z6]; exact e, k1, k2, k3, fun p hp hl => k4 p hp (by rwa [getD_set_ne (Ne.symm (zi p hp).2.1)] at hl)⟩
  · simp only [if_true, if_neg z6]
  · simp only [if_neg (Ne.symm z8), if_neg z6]
    exact h.fin (by rwa [getD_set_ne z5] at hl)
theorem MInv.assign (h : MInv T PV Good w0 listed f W) (hT : T.ok = true) (hPV : ∀ v W, PV T.ia v W) (hm : listed.getD T.im false = true) : MInv T PV Good w0 (listed.setIfInBounds T.ia true) (fun j => if j = T.da then f T.dm else f j) W := by
  obtain ⟨⟨z0, z1, z2, z3, z4, z5, z6, z7, z8⟩, zj, zi⟩ := MTab.ok_spec hT
  refine ⟨h.t, fun j hj hl => ?_, fun hl => ?_, fun hl => ?_, fun _ => ?_⟩
  · by_cases e : j = T.ia
    · rw [e]; exact hPV _ _
    · have : ¬ T.at_ j = T.da := by
        rcases (zj j hj).2.2 with h | h
        · exact absurd h e
        · exact h
      simp only [if_neg this]
      exact h.pv j hj (by rwa [getD_set_ne (Ne.symm e)] at hl)
  · rw [getD_set_ne z4] at hl
    obtain ⟨mb, l, e, k1, k2, k3, k4⟩ := h.map hl
    exact ⟨mb, l, by simp only [if_neg z7]; exact e, k1, k2, k3, fun p hp hl => k4 p hp (by rwa [getD_set_ne (Ne.symm (zi p hp).2.2)] at hl)⟩
  · simp only [if_neg z8, if_neg z7]
    exact h.mv (by rwa [getD_set_ne (Ne.symm z5)] at hl)
  · simp only [if_true, if_neg z7]
    exact h.mv hm
end
section
variable {P : Program} {ops : Array Oper} {Q : Exit → Act → World → Prop}
theorem afterB_lt (ha : afterB ops = true) {i : Nat} {o : Oper} (ho : ops[i]? = some o) : ∀ e ∈ o.after, e.on < i := fun e he => by
  have hi : i < ops.size := (Array.getElem?_eq_some_iff.1 ho).1
  unfold afterB at ha
  rw [List.all_eq_true] at ha
  have := ha i (by simpa using hi)
  rw [ho] at this
  simp only [Option.map_some, Option.getD_some, Array.all_eq_true_iff_forall_mem] at this
  simpa using this e he
/-- A REGION IN ITS OWN ORDER, by the same word -/
theorem region_inv_plain {id : Nat} {a : Act} {w : World} (I : Array Bool → Act → World → Prop) (ha : afterB ops = true)
    (h0 : ∀ listed : Array Bool, listed.size = ops.size → (∀ i, listed.getD i false = false) → I listed a w)
    (step : ∀ listed a w, I listed a w → Closed .any ops listed → ∀ i o, ops[i]? = some o → listed.getD i true = false → (∀ e ∈ o.after, Region.binds .any e = true → listed.getD e.on false = true) → wpOp P ops Q i (fun a' w' => I (listed.setIfInBounds i true) a' w') a w)
    (fin : ∀ listed a w, (∀ i, i < ops.size → listed.getD i false = true) → I listed a w → Q .normal a w) : (Code.region id ops false).wp P Q a w := by
  have key : ∀ (m k : Nat), k + m = ops.size → ∀ (listed : Array Bool) (a : Act) (w : World), listed.size = ops.size → (∀ j, j < ops.size → listed.getD j false = decide (j < k)) → I listed a w → wpOps P ops Q (List.range' k m) a w := by
    intro m
    induction m with
    | zero =>
      intro k hk listed a w hs hl hI
      show Q .normal a w
      exact fin listed a w (fun i hi => by rw [hl i hi]; simp; omega) hI
    | succ m ih =>
      intro k hk listed a w hs hl hI
      rw [List.range'_succ, wpOps_cons]
      obtain ⟨o, ho⟩ : ∃ o, ops[k]? = some o := ⟨_, Array.getElem?_eq_getElem (by omega)⟩
      have hcl : Closed .any ops listed := fun i o' ho' hl' e he _ => by
        have hi : i < ops.size := (Array.getElem?_eq_some_iff.1 ho').1
        have h1 := afterB_lt ha ho' e he
        rw [hl i hi] at hl'
        simp only [decide_eq_true_eq] at hl'
        rw [hl e.on (by omega)]
        simp
        omega
      have hk1 : listed.getD k true = false := by
        have h2 := hl k (by omega)
        rw [Array.getD_eq_getD_getElem?] at h2 ⊢
        rw [Array.getElem?_eq_getElem (by omega)] at h2 ⊢
        simpa using h2
      refine wpOp_mono (fun a' w' h' => ih (k + 1) (by omega) _ a' w' (by simpa using hs) (fun j hj => ?_) h') (step listed a w hI hcl k o ho hk1 (fun e he _ => by
        have h1 := afterB_lt ha ho e he
        rw [hl e.on (by omega)]
        simp
        omega))
      by_cases e : k = j
      · subst e
        rw [getD_set_same hk1]
        simp
      · rw [getD_set_ne e, hl j hj]
        by_cases h : j < k
        · simp [h]; omega
        · simp [h]; omega
  have hz : ∀ i, (Array.replicate ops.size false).getD i false = false := fun i => by
    rw [Array.getD_eq_getD_getElem?, Array.getElem?_replicate]
    split <;> rfl
  refine wp_region ?_
  rw [List.range_eq_range']
  exact key ops.size 0 (by omega) (Array.replicate ops.size false) a w (by simp) (fun j hj => by rw [hz]; simp) (h0 _ (by simp) hz)
end
theorem not_listed_ {listed : Array Bool} {i j : Nat} (h : listed.getD i false = true → listed.getD j false = true) (hj : listed.getD j true = false) : listed.getD i false = false := by
  cases e : listed.getD i false with
  | false => rfl
  | true =>
    have := h e
    rw [getD_false hj] at this
    cases this
theorem wp_put {P : Program} {Q : Exit → Act → World → Prop} {o : Oper} {K : Act → World → Prop} {a : Act} {w w1 : World} {mb : Nat} {key : Int} {val : Value} (t : TypeId) (m x v : Operand) (hop : o.op = .insert t m x v) (hm : a.eval m = .map (some mb)) (hx : a.eval x = .int .i64 key) (hv : a.eval v = val)
    (h : (Instr.mapUpdate t (.map (some mb)) (.int .i64 key) val).run P w = .ok () w1) (k : K (a.put o.dst undef) w1) : o.wp P a w K Q := by
  refine wp_skip ?_ k
  simp [execOp, hop, hm, hx, hv, h, Result.andThen]
end Go.Proofs.YtdokeddjcpnmiaaGreatDoor

/- The makers of actions. -/
namespace Go.Proofs.YtdokeddjcpnmiaaGreatDoor
open Go.RowKit

/-- an action: how many cells it takes, and the closure of a maker over what is done -/
def ActAt (B : Nat) (t : Int) (clo : FuncId) (ty : TypeId) (fv : Value) (v : Value) (W : World) : Prop :=
  ∃ g, v = .agg #[.int .i64 t, .func (.func clo) #[] #[.pointer (some ⟨g, 0, none⟩)]] ∧ B ≤ g ∧ Blk W g ty #[fv]
theorem ActAt.on {B : Nat} {t : Int} {clo : FuncId} {ty : TypeId} {fv v : Value} {A W : World} (h : ActAt B t clo ty fv v A) (o : OnB A W) : ActAt B t clo ty fv v W := by
  obtain ⟨g, e, h1, h2⟩ := h
  exact ⟨g, e, h1, o _ _ _ h2⟩
theorem ActAt.low {B C : Nat} {t : Int} {clo : FuncId} {ty : TypeId} {fv v : Value} {A : World} (h : ActAt B t clo ty fv v A) (hc : C ≤ B) : ActAt C t clo ty fv v A := by
  obtain ⟨g, e, h1, h2⟩ := h
  exact ⟨g, e, Nat.le_trans hc h1, h2⟩

theorem store_fn {P : Program} {w : World} {A : Addr} {u : Value} (h1 : w.cell? A = some u) (h2 : w.frozen? A = false) (f : FuncId) (cap : Array Value) : (store A (.func (.func f) #[] cap)).run P w = .ok () (w.setCell A (.func (.func f) #[] cap)) := by
  rw [run_store P w A _ _ rfl]
  rw [h1]
  simp [h2]
theorem may_new (t : Int) (fn : Fn) (fa cap : Array Value) (w : World) : Calls Tryz.prog 124 #[.int .i64 t, .func fn fa cap] w fun e w' => ∃ v, e = .returned v ∧ ActAt w.heap.size t 149 182 (.func fn fa cap) v w' ∧ Touch [] w w' := by
  have b := (Blk.new w 182 #[.func fn fa cap]).alloc (.cells #[.int .i64 t, .func (.func 149) #[] #[.pointer (some ⟨w.heap.size, 0, none⟩)]] 156)
  have tt := ((Touch.refl [] w).alloc (.cells #[.func fn fa cap] 182)).alloc (.cells #[.int .i64 t, .func (.func 149) #[] #[.pointer (some ⟨w.heap.size, 0, none⟩)]] 156)
  have bO := Blk.new_at (n := w.heap.size + 1) (w.alloc (.cells #[.func fn fa cap] 182)) (by simp) 156 #[.int .i64 t, .nilFunc]
  have hsf := store_fn (P := Tryz.prog) (bO.cell 1) (bO.frozen 1) 149 #[.pointer (some ⟨w.heap.size, 0, none⟩)]
  have HF := Lib.hid (And.intro b tt)
  have hmf : ∀ (fn : Fn) (first cap : Array Value) (w : World), (Instr.makeFunc fn first cap).run Tryz.prog w = .ok (.func fn first cap) w := fun _ _ _ _ => rfl
  clear b tt bO
  go_enter Tryz.func124, Tryz.ntmps124
  go_wp2
  refine bodyPost_ret (v := .agg #[.int .i64 t, .func (.func 149) #[] #[.pointer (some ⟨w.heap.size, 0, none⟩)]]) ?_ rfl ⟨_, rfl, ⟨w.heap.size, rfl, Nat.le_refl _, HF.out.1⟩, HF.out.2⟩
  simp [results, Tryz.f124, go_sem]
theorem wide_new (t : Int) (fn : Fn) (fa cap : Array Value) (w : World) : Calls Tryz.prog 158 #[.int .i64 t, .func fn fa cap] w fun e w' => ∃ v, e = .returned v ∧ ActAt w.heap.size t 270 218 (.func fn fa cap) v w' ∧ Touch [] w w' := by
  have b := (Blk.new w 218 #[.func fn fa cap]).alloc (.cells #[.int .i64 t, .func (.func 270) #[] #[.pointer (some ⟨w.heap.size, 0, none⟩)]] 156)
  have tt := ((Touch.refl [] w).alloc (.cells #[.func fn fa cap] 218)).alloc (.cells #[.int .i64 t, .func (.func 270) #[] #[.pointer (some ⟨w.heap.size, 0, none⟩)]] 156)
  have bO := Blk.new_at (n := w.heap.size + 1) (w.alloc (.cells #[.func fn fa cap] 218)) (by simp) 156 #[.int .i64 t, .nilFunc]
  have hsf := store_fn (P := Tryz.prog) (bO.cell 1) (bO.frozen 1) 270 #[.pointer (some ⟨w.heap.size, 0, none⟩)]
  have HF := Lib.hid (And.intro b tt)
  have hmf : ∀ (fn : Fn) (first cap : Array Value) (w : World), (Instr.makeFunc fn first cap).run Tryz.prog w = .ok (.func fn first cap) w := fun _ _ _ _ => rfl
  clear b tt bO
  go_enter Tryz.func158, Tryz.ntmps158
  go_wp2
  refine bodyPost_ret (v := .agg #[.int .i64 t, .func (.func 270) #[] #[.pointer (some ⟨w.heap.size, 0, none⟩)]]) ?_ rfl ⟨_, rfl, ⟨w.heap.size, rfl, Nat.le_refl _, HF.out.1⟩, HF.out.2⟩
  simp [results, Tryz.f158, go_sem]
theorem gives_new (t : Int) (fn : Fn) (fa cap : Array Value) (w : World) : Calls Tryz.prog 176 #[.int .i64 t, .func fn fa cap] w fun e w' => ∃ v, e = .returned v ∧ ActAt w.heap.size t 274 223 (.func fn fa cap) v w' ∧ Touch [] w w' := by
  have b := (Blk.new w 223 #[.func fn fa cap]).alloc (.cells #[.int .i64 t, .func (.func 274) #[] #[.pointer (some ⟨w.heap.size, 0, none⟩)]] 156)
  have tt := ((Touch.refl [] w).alloc (.cells #[.func fn fa cap] 223)).alloc (.cells #[.int .i64 t, .func (.func 274) #[] #[.pointer (some ⟨w.heap.size, 0, none⟩)]] 156)
  have bO := Blk.new_at (n := w.heap.size + 1) (w.alloc (.cells #[.func fn fa cap] 223)) (by simp) 156 #[.int .i64 t, .nilFunc]
  have hsf := store_fn (P := Tryz.prog) (bO.cell 1) (bO.frozen 1) 274 #[.pointer (some ⟨w.heap.size, 0, none⟩)]
  have HF := Lib.hid (And.intro b tt)
  have hmf : ∀ (fn : Fn) (first cap : Array Value) (w : World), (Instr.makeFunc fn first cap).run Tryz.prog w = .ok (.func fn first cap) w := fun _ _ _ _ => rfl
  clear b tt bO
  go_enter Tryz.func176, Tryz.ntmps176
  go_wp2
  refine bodyPost_ret (v := .agg #[.int .i64 t, .func (.func 274) #[] #[.pointer (some ⟨w.heap.size, 0, none⟩)]]) ?_ rfl ⟨_, rfl, ⟨w.heap.size, rfl, Nat.le_refl _, HF.out.1⟩, HF.out.2⟩
  simp [results, Tryz.f176, go_sem]
theorem divides_new (t : Int) (fn : Fn) (fa cap : Array Value) (w : World) : Calls Tryz.prog 182 #[.int .i64 t, .func fn fa cap] w fun e w' => ∃ v, e = .returned v ∧ ActAt w.heap.size t 278 215 (.func fn fa cap) v w' ∧ Touch [] w w' := by
  have b := (Blk.new w 215 #[.func fn fa cap]).alloc (.cells #[.int .i64 t, .func (.func 278) #[] #[.pointer (some ⟨w.heap.size, 0, none⟩)]] 156)
  have tt := ((Touch.refl [] w).alloc (.cells #[.func fn fa cap] 215)).alloc (.cells #[.int .i64 t, .func (.func 278) #[] #[.pointer (some ⟨w.heap.size, 0, none⟩)]] 156)
  have bO := Blk.new_at (n := w.heap.size + 1) (w.alloc (.cells #[.func fn fa cap] 215)) (by simp) 156 #[.int .i64 t, .nilFunc]
  have hsf := store_fn (P := Tryz.prog) (bO.cell 1) (bO.frozen 1) 278 #[.pointer (some ⟨w.heap.size, 0, none⟩)]
  have HF := Lib.hid (And.intro b tt)
  have hmf : ∀ (fn : Fn) (first cap : Array Value) (w : World), (Instr.makeFunc fn first cap).run Tryz.prog w = .ok (.func fn first cap) w := fun _ _ _ _ => rfl
  clear b tt bO
  go_enter Tryz.func182, Tryz.ntmps182
  go_wp2
  refine bodyPost_ret (v := .agg #[.int .i64 t, .func (.func 278) #[] #[.pointer (some ⟨w.heap.size, 0, none⟩)]]) ?_ rfl ⟨_, rfl, ⟨w.heap.size, rfl, Nat.le_refl _, HF.out.1⟩, HF.out.2⟩
  simp [results, Tryz.f182, go_sem]
theorem tells_new (t : Int) (fn : Fn) (fa cap : Array Value) (w : World) : Calls Tryz.prog 198 #[.int .i64 t, .func fn fa cap] w fun e w' => ∃ v, e = .returned v ∧ ActAt w.heap.size t 281 132 (.func fn fa cap) v w' ∧ Touch [] w w' := by
  have b := (Blk.new w 132 #[.func fn fa cap]).alloc (.cells #[.int .i64 t, .func (.func 281) #[] #[.pointer (some ⟨w.heap.size, 0, none⟩)]] 156)
  have tt := ((Touch.refl [] w).alloc (.cells #[.func fn fa cap] 132)).alloc (.cells #[.int .i64 t, .func (.func 281) #[] #[.pointer (some ⟨w.heap.size, 0, none⟩)]] 156)
  have bO := Blk.new_at (n := w.heap.size + 1) (w.alloc (.cells #[.func fn fa cap] 132)) (by simp) 156 #[.int .i64 t, .nilFunc]
  have hsf := store_fn (P := Tryz.prog) (bO.cell 1) (bO.frozen 1) 281 #[.pointer (some ⟨w.heap.size, 0, none⟩)]
  have HF := Lib.hid (And.intro b tt)
  have hmf : ∀ (fn : Fn) (first cap : Array Value) (w : World), (Instr.makeFunc fn first cap).run Tryz.prog w = .ok (.func fn first cap) w := fun _ _ _ _ => rfl
  clear b tt bO
  go_enter Tryz.func198, Tryz.ntmps198
  go_wp2
  refine bodyPost_ret (v := .agg #[.int .i64 t, .func (.func 281) #[] #[.pointer (some ⟨w.heap.size, 0, none⟩)]]) ?_ rfl ⟨_, rfl, ⟨w.heap.size, rfl, Nat.le_refl _, HF.out.1⟩, HF.out.2⟩
  simp [results, Tryz.f198, go_sem]
end Go.Proofs.YtdokeddjcpnmiaaGreatDoor

/- The makers within says. -/
namespace Go.Proofs.YtdokeddjcpnmiaaGreatDoor
open Go.RowKit

/-- an action that tells what a closure makes of the cells -/
def SayAct (B : Nat) (t : Int) (b : Nat) (fv : Value) (v : Value) (W : World) : Prop :=
  ∃ g, B ≤ g ∧ Blk W g 234 #[fv] ∧ ActAt B t 281 132 (.func (.func 220) #[] #[.pointer (some ⟨b, 0, none⟩), .pointer (some ⟨g, 0, none⟩)]) v W
theorem SayAct.on {B : Nat} {t : Int} {b : Nat} {fv v : Value} {A W : World} (h : SayAct B t b fv v A) (o : OnB A W) : SayAct B t b fv v W := by
  obtain ⟨g, h1, h2, h3⟩ := h
  exact ⟨g, h1, o _ _ _ h2, h3.on o⟩
theorem SayAct.low {B C : Nat} {t : Int} {b : Nat} {fv v : Value} {A : World} (h : SayAct B t b fv v A) (hc : C ≤ B) : SayAct C t b fv v A := by
  obtain ⟨g, h1, h2, h3⟩ := h
  exact ⟨g, Nat.le_trans hc h1, h2, h3.low hc⟩
/-- an action that puts a base -/
def BaseAct (B : Nat) (n : Int) (b : Nat) (v : Value) (W : World) : Prop :=
  ∃ g, B ≤ g ∧ Blk W g 33 #[.int .i64 n] ∧ ActAt B 0 281 132 (.func (.func 223) #[] #[.pointer (some ⟨b, 0, none⟩), .pointer (some ⟨g, 0, none⟩)]) v W
theorem BaseAct.on {B : Nat} {n : Int} {b : Nat} {v : Value} {A W : World} (h : BaseAct B n b v A) (o : OnB A W) : BaseAct B n b v W := by
  obtain ⟨g, h1, h2, h3⟩ := h
  exact ⟨g, h1, o _ _ _ h2, h3.on o⟩
theorem BaseAct.low {B C : Nat} {n : Int} {b : Nat} {v : Value} {A : World} (h : BaseAct B n b v A) (hc : C ≤ B) : BaseAct C n b v A := by
  obtain ⟨g, h1, h2, h3⟩ := h
  exact ⟨g, Nat.le_trans hc h1, h2, h3.low hc⟩
/-- an action that makes digits -/
def DigAct (B : Nat) (s : Nat) (all : Bool) (v : Value) (W : World) : Prop :=
  ∃ g1 g2, B ≤ g1 ∧ B ≤ g2 ∧ Blk W g1 37 #[.pointer (some ⟨s, 0, none⟩)] ∧ Blk W g2 4 #[.bool all] ∧ v = .agg #[.int .i64 2, .func (.func 295) #[] #[.pointer (some ⟨g1, 0, none⟩), .pointer (some ⟨g2, 0, none⟩)]]
theorem DigAct.on {B : Nat} {s : Nat} {all : Bool} {v : Value} {A W : World} (h : DigAct B s all v A) (o : OnB A W) : DigAct B s all v W := by
  obtain ⟨g1, g2, h1, h2, h3, h4, h5⟩ := h
  exact ⟨g1, g2, h1, h2, o _ _ _ h3, o _ _ _ h4, h5⟩
theorem DigAct.low {B C : Nat} {s : Nat} {all : Bool} {v : Value} {A : World} (h : DigAct B s all v A) (hc : C ≤ B) : DigAct C s all v A := by
  obtain ⟨g1, g2, h1, h2, h3, h4, h5⟩ := h
  exact ⟨g1, g2, Nat.le_trans hc h1, Nat.le_trans hc h2, h3, h4, h5⟩

theorem act_parts {B : Nat} {t : Int} {clo : FuncId} {ty : TypeId} {fv v : Value} {W : World} (h : ActAt B t clo ty fv v W) : ∃ g, v = .agg #[.int .i64 t, .func (.func clo) #[] #[.pointer (some ⟨g, 0, none⟩)]] := by
  obtain ⟨g, e, _⟩ := h
  exact ⟨g, e⟩
set_option maxHeartbeats 1000000 in
theorem say_new (t : Int) (fn : Fn) (fa cap : Array Value) (b : Nat) (w : World) : Calls Tryz.prog 219 #[.int .i64 t, .func fn fa cap, .pointer (some ⟨b, 0, none⟩)] w fun e w' => ∃ v, e = .returned v ∧ SayAct w.heap.size t b (.func fn fa cap) v w' ∧ Touch [] w w' := by
  have bF := (Blk.new w 234 #[.func fn fa cap]).alloc (.cells #[.int .i64 0, .nilFunc] 156)
  have bO := Blk.new_at (n := w.heap.size + 1) (w.alloc (.cells #[.func fn fa cap] 234)) (by simp) 156 #[.int .i64 0, .nilFunc]
  have tt := ((Touch.refl [] w).alloc (.cells #[.func fn fa cap] 234)).alloc (.cells #[.int .i64 0, .nilFunc] 156)
  have hmf : ∀ (fn : Fn) (first cap : Array Value) (w : World), (Instr.makeFunc fn first cap).run Tryz.prog w = .ok (.func fn first cap) w := fun _ _ _ _ => rfl
  have sz : ((w.alloc (.cells #[.func fn fa cap] 234)).alloc (.cells #[.int .i64 0, .nilFunc] 156)).heap.size = w.heap.size + 2 := by simp
  go_enter Tryz.func219, Tryz.ntmps219
  go_upto_region 1 with (fail)
  generalize (w.alloc (.cells #[.func fn fa cap] 234)).alloc (.cells #[.int .i64 0, .nilFunc] 156) = W0 at *
  have HN := Lib.hid (And.intro bF (And.intro bO (And.intro tt sz)))
  clear bF bO tt sz
  go_wp2_with fail
  refine (tells_new t _ _ _ _).mono ?_
  rintro _ w1 ⟨v, rfl, hv, t1⟩
  obtain ⟨g, rfl⟩ := act_parts hv
  have bO := HN.out.2.1.touch t1 (by simp)
  have o0 := bO.cell 0
  have fr0 := bO.frozen 0
  have bO1 := bO.set_ 0 (.int .i64 t)
  have hsf := store_fn (P := Tryz.prog) (bO1.cell 1) (bO1.frozen 1) 281 #[.pointer (some ⟨g, 0, none⟩)]
  have bO2 := bO1.set_ 1 (.func (.func 281) #[] #[.pointer (some ⟨g, 0, none⟩)])
  have hvlt : w.heap.size + 2 ≤ W0.heap.size := by have := HN.out.2.2.2; omega
  have hT := ((HN.out.2.2.1.trans t1 (by simp)).setCell (p := ⟨w.heap.size + 1, 0, none⟩) (.inr (by simp)) (.int .i64 t)).setCell (p := ⟨w.heap.size + 1, 1, none⟩) (.inr (by simp)) (.func (.func 281) #[] #[.pointer (some ⟨g, 0, none⟩)])
  have hfin : SayAct w.heap.size t b (.func fn fa cap) (.agg #[.int .i64 t, .func (.func 281) #[] #[.pointer (some ⟨g, 0, none⟩)]]) ((w1.setCell ⟨w.heap.size + 1, 0, none⟩ (.int .i64 t)).setCell ⟨w.heap.size + 1, 1, none⟩ (.func (.func 281) #[] #[.pointer (some ⟨g, 0, none⟩)])) := by
    refine ⟨w.heap.size, Nat.le_refl _, ((HN.out.1.touch t1 (by simp)).far (by simp) _).far (by simp) _, ?_⟩
    obtain ⟨g', e, h1, h2⟩ := hv
    injection e with e
    injection e with e
    simp at e
    subst e
    exact ⟨g, rfl, by omega, (h2.far (by simp only; omega) _).far (by simp only; omega) _⟩
  have q0 : ((w1.setCell ⟨w.heap.size + 1, 0, none⟩ (.int .i64 t)).setCell ⟨w.heap.size + 1, 1, none⟩ (.func (.func 281) #[] #[.pointer (some ⟨g, 0, none⟩)])).cell? ⟨w.heap.size + 1, 0, none⟩ = some (.int .i64 t) := bO2.cell 0
  have q1 : ((w1.setCell ⟨w.heap.size + 1, 0, none⟩ (.int .i64 t)).setCell ⟨w.heap.size + 1, 1, none⟩ (.func (.func 281) #[] #[.pointer (some ⟨g, 0, none⟩)])).cell? ⟨w.heap.size + 1, 1, none⟩ = some (.func (.func 281) #[] #[.pointer (some ⟨g, 0, none⟩)]) := bO2.cell 1
  have HF := Lib.hid (And.intro hfin hT)
  clear hfin hT hv t1 bO bO1 bO2 hvlt
  go_wp2_with fail
  refine bodyPost_ret (v := .agg #[.int .i64 t, .func (.func 281) #[] #[.pointer (some ⟨g, 0, none⟩)]]) ?_ rfl ⟨_, rfl, HF.out.1, HF.out.2⟩
  simp [results, Tryz.f219, go_sem, q0, q1]
set_option maxHeartbeats 1000000 in
theorem base_new (n : Int) (b : Nat) (w : World) : Calls Tryz.prog 222 #[.int .i64 n, .pointer (some ⟨b, 0, none⟩)] w fun e w' => ∃ v, e = .returned v ∧ BaseAct w.heap.size n b v w' ∧ Touch [] w w' := by
  have bF := (Blk.new w 33 #[.int .i64 n]).alloc (.cells #[.int .i64 0, .nilFunc] 156)
  have bO := Blk.new_at (n := w.heap.size + 1) (w.alloc (.cells #[.int .i64 n] 33)) (by simp) 156 #[.int .i64 0, .nilFunc]
  have tt := ((Touch.refl [] w).alloc (.cells #[.int .i64 n] 33)).alloc (.cells #[.int .i64 0, .nilFunc] 156)
  have hmf : ∀ (fn : Fn) (first cap : Array Value) (w : World), (Instr.makeFunc fn first cap).run Tryz.prog w = .ok (.func fn first cap) w := fun _ _ _ _ => rfl
  have sz : ((w.alloc (.cells #[.int .i64 n] 33)).alloc (.cells #[.int .i64 0, .nilFunc] 156)).heap.size = w.heap.size + 2 := by simp
  go_enter Tryz.func222, Tryz.ntmps222
  go_upto_region 1 with (fail)
  generalize (w.alloc (.cells #[.int .i64 n] 33)).alloc (.cells #[.int .i64 0, .nilFunc] 156) = W0 at *
  have HN := Lib.hid (And.intro bF (And.intro bO (And.intro tt sz)))
  clear bF bO tt sz
  go_wp2_with fail
  refine (tells_new 0 _ _ _ _).mono ?_
  rintro _ w1 ⟨v, rfl, hv, t1⟩
  obtain ⟨g, rfl⟩ := act_parts hv
  have bO := HN.out.2.1.touch t1 (by simp)
  have o0 := bO.cell 0
  have fr0 := bO.frozen 0
  have bO1 := bO.set_ 0 (.int .i64 0)
  have hsf := store_fn (P := Tryz.prog) (bO1.cell 1) (bO1.frozen 1) 281 #[.pointer (some ⟨g, 0, none⟩)]
  have bO2 := bO1.set_ 1 (.func (.func 281) #[] #[.pointer (some ⟨g, 0, none⟩)])
  have hvlt : w.heap.size + 2 ≤ W0.heap.size := by have := HN.out.2.2.2; omega
  have hT := ((HN.out.2.2.1.trans t1 (by simp)).setCell (p := ⟨w.heap.size + 1, 0, none⟩) (.inr (by simp)) (.int .i64 0)).setCell (p := ⟨w.heap.size + 1, 1, none⟩) (.inr (by simp)) (.func (.func 281) #[] #[.pointer (some ⟨g, 0, none⟩)])
  have hfin : BaseAct w.heap.size n b (.agg #[.int .i64 0, .func (.func 281) #[] #[.pointer (some ⟨g, 0, none⟩)]]) ((w1.setCell ⟨w.heap.size + 1, 0, none⟩ (.int .i64 0)).setCell ⟨w.heap.size + 1, 1, none⟩ (.func (.func 281) #[] #[.pointer (some ⟨g, 0, none⟩)])) := by
    refine ⟨w.heap.size, Nat.le_refl _, ((HN.out.1.touch t1 (by simp)).far (by simp) _).far (by simp) _, ?_⟩
    obtain ⟨g', e, h1, h2⟩ := hv
    injection e with e
    injection e with e
    simp at e
    subst e
    exact ⟨g, rfl, by omega, (h2.far (by simp only; omega) _).far (by simp only; omega) _⟩
  have q0 : ((w1.setCell ⟨w.heap.size + 1, 0, none⟩ (.int .i64 0)).setCell ⟨w.heap.size + 1, 1, none⟩ (.func (.func 281) #[] #[.pointer (some ⟨g, 0, none⟩)])).cell? ⟨w.heap.size + 1, 0, none⟩ = some (.int .i64 0) := bO2.cell 0
  have q1 : ((w1.setCell ⟨w.heap.size + 1, 0, none⟩ (.int .i64 0)).setCell ⟨w.heap.size + 1, 1, none⟩ (.func (.func 281) #[] #[.pointer (some ⟨g, 0, none⟩)])).cell? ⟨w.heap.size + 1, 1, none⟩ = some (.func (.func 281) #[] #[.pointer (some ⟨g, 0, none⟩)]) := bO2.cell 1
  have HF := Lib.hid (And.intro hfin hT)
  clear hfin hT hv t1 bO bO1 bO2 hvlt
  go_wp2_with fail
  refine bodyPost_ret (v := .agg #[.int .i64 0, .func (.func 281) #[] #[.pointer (some ⟨g, 0, none⟩)]]) ?_ rfl ⟨_, rfl, HF.out.1, HF.out.2⟩
  simp [results, Tryz.f222, go_sem, q0, q1]
set_option maxHeartbeats 1000000 in
theorem digits_new (s : Nat) (all : Bool) (w : World) : Calls Tryz.prog 239 #[.pointer (some ⟨s, 0, none⟩), .bool all] w fun e w' => ∃ v, e = .returned v ∧ DigAct w.heap.size s all v w' ∧ Touch [] w w' := by
  have b1 := ((Blk.new w 37 #[.pointer (some ⟨s, 0, none⟩)]).alloc (.cells #[.bool all] 4)).alloc (.cells #[.int .i64 2, .func (.func 295) #[] #[.pointer (some ⟨w.heap.size, 0, none⟩), .pointer (some ⟨w.heap.size + 1, 0, none⟩)]] 156)
  have b2 := (Blk.new_at (n := w.heap.size + 1) (w.alloc (.cells #[.pointer (some ⟨s, 0, none⟩)] 37)) (by simp) 4 #[.bool all]).alloc (.cells #[.int .i64 2, .func (.func 295) #[] #[.pointer (some ⟨w.heap.size, 0, none⟩), .pointer (some ⟨w.heap.size + 1, 0, none⟩)]] 156)
  have bO := Blk.new_at (n := w.heap.size + 1 + 1) ((w.alloc (.cells #[.pointer (some ⟨s, 0, none⟩)] 37)).alloc (.cells #[.bool all] 4)) (by simp) 156 #[.int .i64 2, .nilFunc]
  have hsf := store_fn (P := Tryz.prog) (bO.cell 1) (bO.frozen 1) 295 #[.pointer (some ⟨w.heap.size, 0, none⟩), .pointer (some ⟨w.heap.size + 1, 0, none⟩)]
  have tt := (((Touch.refl [] w).alloc (.cells #[.pointer (some ⟨s, 0, none⟩)] 37)).alloc (.cells #[.bool all] 4)).alloc (.cells #[.int .i64 2, .func (.func 295) #[] #[.pointer (some ⟨w.heap.size, 0, none⟩), .pointer (some ⟨w.heap.size + 1, 0, none⟩)]] 156)
  have hmf : ∀ (fn : Fn) (first cap : Array Value) (w : World), (Instr.makeFunc fn first cap).run Tryz.prog w = .ok (.func fn first cap) w := fun _ _ _ _ => rfl
  have HF := Lib.hid (And.intro b1 (And.intro b2 tt))
  clear b1 b2 tt bO
  go_enter Tryz.func239, Tryz.ntmps239
  go_wp2
  refine bodyPost_ret (v := .agg #[.int .i64 2, .func (.func 295) #[] #[.pointer (some ⟨w.heap.size, 0, none⟩), .pointer (some ⟨w.heap.size + 1, 0, none⟩)]]) ?_ rfl ⟨_, rfl, ⟨w.heap.size, w.heap.size + 1, Nat.le_refl _, by omega, HF.out.1, HF.out.2.1, rfl⟩, HF.out.2.2⟩
  simp [results, Tryz.f239, go_sem]
end Go.Proofs.YtdokeddjcpnmiaaGreatDoor
