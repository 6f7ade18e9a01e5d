/- A map that a literal lays, its operations in whatever order: a word that holds between them, for any table of operations. -/
import Derived.Test.YtkbchpaofmlhgaaGreatDoorAnyInv
import Derived.Test.YtkbchpaofmlhgaaGreatDoorMaps
namespace Go.Proofs.YtkbchpaofmlhgaaGreatDoor
open Go.RowKit

/-- the operations of a literal: the slot of each, which of them put what key in; the map's slot, the move of it and the assignment -/
structure MTab where
  n : Nat
  dst : List Nat
  ins : List (Nat × Int)
  m : Nat
  im : Nat
  dm : Nat
  ia : Nat
  da : Nat
def MTab.at_ (T : MTab) (j : Nat) : Nat := T.dst.getD j 0
def MTab.valOk (T : MTab) (i d : Nat) : Bool := (decide (0 < i) && decide (i < T.n) && decide (i ≠ T.im) && decide (i ≠ T.ia) && decide (T.at_ i = d) && decide (d ≠ T.m) && decide (d ≠ T.dm) && decide (d ≠ T.da)) && ((List.range T.n).all fun j => decide (T.at_ j ≠ d) || decide (j = i)) && T.ins.all fun p => decide (p.1 ≠ i)
def MTab.insOk (T : MTab) (i : Nat) (key : Int) : Bool := decide ((i, key) ∈ T.ins) && decide (i ≠ 0) && decide (i ≠ T.im) && decide (i ≠ T.ia) && T.ins.all fun p => decide (p.1 ≠ i) || decide (p.2 = key)
def MTab.ok (T : MTab) : Bool := (decide (T.at_ 0 = T.m) && decide (T.at_ T.im = T.dm) && decide (T.at_ T.ia = T.da) && decide (T.im ≠ 0) && decide (T.ia ≠ 0) && decide (T.im ≠ T.ia) && decide (T.m ≠ T.dm) && decide (T.m ≠ T.da) && decide (T.dm ≠ T.da)) &&
  ((List.range T.n).all fun j => (decide (j = 0) || decide (T.at_ j ≠ T.m)) && (decide (j = T.im) || decide (T.at_ j ≠ T.dm)) && (decide (j = T.ia) || decide (T.at_ j ≠ T.da))) && T.ins.all fun p => decide (p.1 ≠ 0) && decide (p.1 ≠ T.im) && decide (p.1 ≠ T.ia)

/-- what blocks there are stay -/
def OnB (A B : World) : Prop := ∀ g t cs, Blk A g t cs → Blk B g t cs
theorem OnB.touch {A B : World} (t : Touch [] A B) : OnB A B := fun _ _ _ h => h.touch t (by simp)
theorem OnB.map {A B : World} {mb : Nat} {l : List (Int × Value)} (hm : IMap A mb l) (t : Touch [mb] A B) : OnB A B := fun g ty cs h => h.touch t (fun hg => by
  rw [List.mem_singleton.1 hg] at h
  obtain ⟨es, c, he, _⟩ := hm
  unfold Blk at h
  rw [h] at he
  cases he)
theorem at_put (l : List (Int × Value)) (k : Int) (v : Value) (x : Int) : atKey (putKey l k v) x = if x = k then some v else atKey l x := by
  induction l with
  | nil =>
    by_cases h : x = k
    · subst h; simp [putKey, atKey]
    · simp [putKey, atKey, h, Ne.symm h]
  | cons p l ih =>
    unfold putKey
    by_cases hp : p.1 = k
    · rw [if_pos hp]
      by_cases h : x = k
      · subst h; simp [atKey]
      · have h1 : ¬ k = x := fun e => h e.symm
        have h2 : ¬ p.1 = x := by rw [hp]; exact h1
        simp [atKey, h, h1, h2]
    · rw [if_neg hp]
      by_cases h : p.1 = x
      · have h1 : ¬ x = k := by rw [← h]; exact hp
        simp [atKey, h, h1]
      · have e1 : atKey (p :: putKey l k v) x = atKey (putKey l k v) x := by simp [atKey, h]
        have e2 : atKey (p :: l) x = atKey l x := by simp [atKey, h]
        rw [e1, e2, ih]

structure MInv (T : MTab) (PV : Nat → Value → World → Prop) (Good : Int → Value → World → Prop) (w0 : World) (listed : Array Bool) (f : Nat → Value) (W : World) : Prop where
  t : Touch [] w0 W
  pv : ∀ j, j < T.n → listed.getD j false = true → PV j (f (T.at_ j)) W
  map : listed.getD 0 false = true → ∃ mb l, f T.m = .map (some mb) ∧ w0.heap.size ≤ mb ∧ IMap W mb l ∧ (∀ k v, atKey l k = some v → Good k v W) ∧ ∀ p ∈ T.ins, listed.getD p.1 false = true → (atKey l p.2).isSome = true
  mv : listed.getD T.im false = true → f T.dm = f T.m
  fin : listed.getD T.ia false = true → f T.da = f T.m
/-- what the laws ask of PV and Good -/
structure MStays (PV : Nat → Value → World → Prop) (Good : Int → Value → World → Prop) : Prop where
  pv : ∀ A B, OnB A B → ∀ j v, PV j v A → PV j v B
  good : ∀ A B, OnB A B → ∀ k v, Good k v A → Good k v B

section
variable {T : MTab} {PV : Nat → Value → World → Prop} {Good : Int → Value → World → Prop} {w0 W W' : World} {listed : Array Bool} {f : Nat → Value}
theorem MInv.start (hl : ∀ i, listed.getD i false = false) (t : Touch [] w0 W) : MInv T PV Good w0 listed f W :=
  ⟨t, fun j _ h => (by rw [hl] at h; cases h), fun h => (by rw [hl] at h; cases h), fun h => (by rw [hl] at h; cases h), fun h => (by rw [hl] at h; cases h)⟩
theorem MInv.val (h : MInv T PV Good w0 listed f W) (hs : MStays PV Good) {i d : Nat} {v : Value} (hi : T.valOk i d = true) (t : Touch [] W W') (hv : PV i v W') : MInv T PV Good w0 (listed.setIfInBounds i true) (fun j => if j = d then v else f j) W' := by
  have o := OnB.touch t
  simp only [MTab.valOk, Bool.and_eq_true, decide_eq_true_eq, List.all_eq_true, Bool.or_eq_true, List.mem_range] at hi
  obtain ⟨⟨⟨⟨⟨⟨⟨⟨⟨h0, h1⟩, h2⟩, h3⟩, h4⟩, h5⟩, h6⟩, h7⟩, h8⟩, h9⟩ := hi
  refine ⟨h.t.trans t (by simp), fun j hj hl => ?_, fun hl => ?_, fun hl => ?_, fun hl => ?_⟩
  · by_cases e : j = i
    · subst e
      simp only [h4, if_true]
      exact hv
    · have : ¬ T.at_ j = d := by
        rcases h8 j hj with h | h
        · exact h
        · exact absurd h e
      simp only [if_neg this]
      exact hs.pv _ _ o _ _ (h.pv j hj (by rwa [getD_set_ne (Ne.symm e)] at hl))
  · rw [getD_set_ne (by omega)] at hl
    obtain ⟨mb, l, e, k1, k2, k3, k4⟩ := h.map hl
    exact ⟨mb, l, by simp only [if_neg (Ne.symm h5)]; exact e, k1, k2.touch t (by simp), fun k v hk => hs.good _ _ o _ _ (k3 k v hk), fun p hp hl => k4 p hp (by rwa [getD_set_ne (fun e => h9 p hp e.symm)] at hl)⟩
  · simp only [if_neg (Ne.symm h6), if_neg (Ne.symm h5)]
    exact h.mv (by rwa [getD_set_ne h2] at hl)
  · simp only [if_neg (Ne.symm h7), if_neg (Ne.symm h5)]
    exact h.fin (by rwa [getD_set_ne h3] at hl)
theorem MTab.ok_spec (h : T.ok = true) : (T.at_ 0 = T.m ∧ T.at_ T.im = T.dm ∧ T.at_ T.ia = T.da ∧ T.im ≠ 0 ∧ T.ia ≠ 0 ∧ T.im ≠ T.ia ∧ T.m ≠ T.dm ∧ T.m ≠ T.da ∧ T.dm ≠ T.da) ∧ (∀ j, j < T.n → (j = 0 ∨ T.at_ j ≠ T.m) ∧ (j = T.im ∨ T.at_ j ≠ T.dm) ∧ (j = T.ia ∨ T.at_ j ≠ T.da)) ∧ ∀ p ∈ T.ins, p.1 ≠ 0 ∧ p.1 ≠ T.im ∧ p.1 ≠ T.ia := by
  simp only [MTab.ok, Bool.and_eq_true, decide_eq_true_eq, List.all_eq_true, Bool.or_eq_true, List.mem_range] at h
  obtain ⟨⟨⟨⟨⟨⟨⟨⟨⟨⟨a, b⟩, c⟩, d⟩, e⟩, f⟩, g⟩, i⟩, j⟩, k⟩, l⟩ := h
  exact ⟨⟨a, b, c, d, e, f, g, i, j⟩, fun x hx => ⟨(k x hx).1.1, (k x hx).1.2, (k x hx).2⟩, fun p hp => ⟨(l p hp).1.1, (l p hp).1.2, (l p hp).2⟩⟩
theorem MInv.made (h : MInv T PV Good w0 listed f W) (hs : MStays PV Good) (hT : T.ok = true) (h0 : ∀ v W, PV 0 v W) (hn : ∀ p ∈ T.ins, listed.getD p.1 false = false) (hm : listed.getD T.im false = false) (ha : listed.getD T.ia false = false) :
    MInv T PV Good w0 (listed.setIfInBounds 0 true) (fun j => if j = T.m then .map (some W.heap.size) else f j) (W.alloc (.map #[] 0)) := by
  have t := (Touch.refl [] W).alloc (.map #[] 0)
  have o := OnB.touch t
  obtain ⟨⟨z0, z1, z2, z3, z4, z5, z6, z7, z8⟩, zj, zi⟩ := MTab.ok_spec hT
  refine ⟨h.t.trans t (by simp), fun j hj hl => ?_, fun hl => ?_, fun hl => ?_, fun hl => ?_⟩
  · by_cases e : j = 0
    · subst e; exact h0 _ _
    · have : ¬ T.at_ j = T.m := by
        rcases (zj j hj).1 with h | h
        · exact absurd h e
        · exact h
      simp only [if_neg this]
      exact hs.pv _ _ o _ _ (h.pv j hj (by rwa [getD_set_ne (Ne.symm e)] at hl))
  · refine ⟨W.heap.size, [], by simp, h.t.size, IMap.new W, fun k v hk => by simp [atKey] at hk, fun p hp hl => ?_⟩
    rw [getD_set_ne (Ne.symm (zi p hp).1)] at hl
    rw [hn p hp] at hl
    cases hl
  · rw [getD_set_ne (Ne.symm z3), hm] at hl; cases hl
  · rw [getD_set_ne (Ne.symm z4), ha] at hl; cases hl
theorem MInv.put (h : MInv T PV Good w0 listed f W) (hs : MStays PV Good) {i : Nat} {key : Int} {mb : Nat} {l : List (Int × Value)} {v : Value} (hi : T.insOk i key = true) (hPV : ∀ v W, PV i v W) (hm : f T.m = .map (some mb)) (hmb : w0.heap.size ≤ mb) (hl : IMap W mb l) (k3 : ∀ k v, atKey l k = some v → Good k v W)
    (k4 : ∀ p ∈ T.ins, listed.getD p.1 false = true → (atKey l p.2).isSome = true) (hv : Good key v W) (hl' : IMap W' mb (putKey l key v)) (t : Touch [mb] W W') : MInv T PV Good w0 (listed.setIfInBounds i true) f W' := by
  have o := OnB.map hl t
  simp only [MTab.insOk, Bool.and_eq_true, decide_eq_true_eq, List.all_eq_true, Bool.or_eq_true] at hi
  obtain ⟨⟨⟨⟨_, h0⟩, h1⟩, h2⟩, h3⟩ := hi
  refine ⟨h.t.trans t (fun g hg => .inr (by rw [List.mem_singleton.1 hg]; exact hmb)), fun j hj hl => ?_, fun _ => ⟨mb, _, hm, hmb, hl', fun k u hk => ?_, fun p hp hpl => ?_⟩, fun hl => ?_, fun hl => ?_⟩
  · rcases listed_set hl with e | e
    · subst e; exact hPV _ _
    · exact hs.pv _ _ o _ _ (h.pv j hj e)
  · rw [at_put] at hk
    split at hk
    · rename_i e
      cases hk
      rw [e]
      exact hs.good _ _ o _ _ hv
    · exact hs.good _ _ o _ _ (k3 k u hk)
  · rw [at_put]
    split
    · rfl
    · rename_i e
      rcases listed_set hpl with e2 | e2
      · rcases h3 p hp with h | h
        · exact absurd e2 h
        · exact absurd h e
      · exact k4 p hp e2
  · exact h.mv (by rwa [getD_set_ne h1] at hl)
  · exact h.fin (by rwa [getD_set_ne h2] at hl)
theorem MInv.move (h : MInv T PV Good w0 listed f W) (hT : T.ok = true) (hPV : ∀ v W, PV T.im v W) : MInv T PV Good w0 (listed.setIfInBounds T.im true) (fun j => if j = T.dm then f T.m else f j) W := by
  obtain ⟨⟨z0, z1, z2, z3, z4, z5, z6, z7, z8⟩, zj, zi⟩ := MTab.ok_spec hT
  refine ⟨h.t, fun j hj hl => ?_, fun hl => ?_, fun _ => ?_, fun hl => ?_⟩
  · by_cases e : j = T.im
    · rw [e]; exact hPV _ _
    · have : ¬ T.at_ j = T.dm := by
        rcases (zj j hj).2.1 with h | h
        · exact absurd h e
        · exact h
      simp only [if_neg this]
      exact h.pv j hj (by rwa [getD_set_ne (Ne.symm e)] at hl)
  · rw [getD_set_ne z3] at hl
    obtain ⟨mb, l, e, k1, k2, k3, k4⟩ := h.map hl
    exact ⟨mb, l, by simp only [if_neg z6]; exact e, k1, k2, k3, fun p hp hl => k4 p hp (by rwa [getD_set_ne (Ne.symm (zi p hp).2.1)] at hl)⟩
  · simp only [if_true, if_neg z6]
  · simp only [if_neg (Ne.symm z8), if_neg z6]
    exact h.fin (by rwa [getD_set_ne z5] at hl)
theorem MInv.assign (h : MInv T PV Good w0 listed f W) (hT : T.ok = true) (hPV : ∀ v W, PV T.ia v W) (hm : listed.getD T.im false = true) : MInv T PV Good w0 (listed.setIfInBounds T.ia true) (fun j => if j = T.da then f T.dm else f j) W := by
  obtain ⟨⟨z0, z1, z2, z3, z4, z5, z6, z7, z8⟩, zj, zi⟩ := MTab.ok_spec hT
  refine ⟨h.t, fun j hj hl => ?_, fun hl => ?_, fun hl => ?_, fun _ => ?_⟩
  · by_cases e : j = T.ia
    · rw [e]; exact hPV _ _
    · have : ¬ T.at_ j = T.da := by
        rcases (zj j hj).2.2 with h | h
        · exact absurd h e
        · exact h
      simp only [if_neg this]
      exact h.pv j hj (by rwa [getD_set_ne (Ne.symm e)] at hl)
  · rw [getD_set_ne z4] at hl
    obtain ⟨mb, l, e, k1, k2, k3, k4⟩ := h.map hl
    exact ⟨mb, l, by simp only [if_neg z7]; exact e, k1, k2, k3, fun p hp hl => k4 p hp (by rwa [getD_set_ne (Ne.symm (zi p hp).2.2)] at hl)⟩
  · simp only [if_neg z8, if_neg z7]
    exact h.mv (by rwa [getD_set_ne (Ne.symm z5)] at hl)
  · simp only [if_true, if_neg z7]
    exact h.mv hm
end
section
variable {P : Program} {ops : Array Oper} {Q : Exit → Act → World → Prop}
theorem afterB_lt (ha : afterB ops = true) {i : Nat} {o : Oper} (ho : ops[i]? = some o) : ∀ e ∈ o.after, e.on < i := fun e he => by
  have hi : i < ops.size := (Array.getElem?_eq_some_iff.1 ho).1
  unfold afterB at ha
  rw [List.all_eq_true] at ha
  have := ha i (by simpa using hi)
  rw [ho] at this
  simp only [Option.map_some, Option.getD_some, Array.all_eq_true_iff_forall_mem] at this
  simpa using this e he
/-- A REGION IN ITS OWN ORDER, by the same word -/
theorem region_inv_plain {id : Nat} {a : Act} {w : World} (I : Array Bool → Act → World → Prop) (ha : afterB ops = true)
    (h0 : ∀ listed : Array Bool, listed.size = ops.size → (∀ i, listed.getD i false = false) → I listed a w)
    (step : ∀ listed a w, I listed a w → Closed .any ops listed → ∀ i o, ops[i]? = some o → listed.getD i true = false → (∀ e ∈ o.after, Region.binds .any e = true → listed.getD e.on false = true) → wpOp P ops Q i (fun a' w' => I (listed.setIfInBounds i true) a' w') a w)
    (fin : ∀ listed a w, (∀ i, i < ops.size → listed.getD i false = true) → I listed a w → Q .normal a w) : (Code.region id ops false).wp P Q a w := by
  have key : ∀ (m k : Nat), k + m = ops.size → ∀ (listed : Array Bool) (a : Act) (w : World), listed.size = ops.size → (∀ j, j < ops.size → listed.getD j false = decide (j < k)) → I listed a w → wpOps P ops Q (List.range' k m) a w := by
    intro m
    induction m with
    | zero =>
      intro k hk listed a w hs hl hI
      show Q .normal a w
      exact fin listed a w (fun i hi => by rw [hl i hi]; simp; omega) hI
    | succ m ih =>
      intro k hk listed a w hs hl hI
      rw [List.range'_succ, wpOps_cons]
      obtain ⟨o, ho⟩ : ∃ o, ops[k]? = some o := ⟨_, Array.getElem?_eq_getElem (by omega)⟩
      have hcl : Closed .any ops listed := fun i o' ho' hl' e he _ => by
        have hi : i < ops.size := (Array.getElem?_eq_some_iff.1 ho').1
        have h1 := afterB_lt ha ho' e he
        rw [hl i hi] at hl'
        simp only [decide_eq_true_eq] at hl'
        rw [hl e.on (by omega)]
        simp
        omega
      have hk1 : listed.getD k true = false := by
        have h2 := hl k (by omega)
        rw [Array.getD_eq_getD_getElem?] at h2 ⊢
        rw [Array.getElem?_eq_getElem (by omega)] at h2 ⊢
        simpa using h2
      refine wpOp_mono (fun a' w' h' => ih (k + 1) (by omega) _ a' w' (by simpa using hs) (fun j hj => ?_) h') (step listed a w hI hcl k o ho hk1 (fun e he _ => by
        have h1 := afterB_lt ha ho e he
        rw [hl e.on (by omega)]
        simp
        omega))
      by_cases e : k = j
      · subst e
        rw [getD_set_same hk1]
        simp
      · rw [getD_set_ne e, hl j hj]
        by_cases h : j < k
        · simp [h]; omega
        · simp [h]; omega
  have hz : ∀ i, (Array.replicate ops.size false).getD i false = false := fun i => by
    rw [Array.getD_eq_getD_getElem?, Array.getElem?_replicate]
    split <;> rfl
  refine wp_region ?_
  rw [List.range_eq_range']
  exact key ops.size 0 (by omega) (Array.replicate ops.size false) a w (by simp) (fun j hj => by rw [hz]; simp) (h0 _ (by simp) hz)
end
theorem not_listed_ {listed : Array Bool} {i j : Nat} (h : listed.getD i false = true → listed.getD j false = true) (hj : listed.getD j true = false) : listed.getD i false = false := by
  cases e : listed.getD i false with
  | false => rfl
  | true =>
    have := h e
    rw [getD_false hj] at this
    cases this
theorem wp_put {P : Program} {Q : Exit → Act → World → Prop} {o : Oper} {K : Act → World → Prop} {a : Act} {w w1 : World} {mb : Nat} {key : Int} {val : Value} (t : TypeId) (m x v : Operand) (hop : o.op = .insert t m x v) (hm : a.eval m = .map (some mb)) (hx : a.eval x = .int .i64 key) (hv : a.eval v = val)
    (h : (Instr.mapUpdate t (.map (some mb)) (.int .i64 key) val).run P w = .ok () w1) (k : K (a.put o.dst undef) w1) : o.wp P a w K Q := by
  refine wp_skip ?_ k
  simp [execOp, hop, hm, hx, hv, h, Result.andThen]
end Go.Proofs.YtkbchpaofmlhgaaGreatDoor
