/- Where the stack lies changes nothing of what a tree means. -/
import Derived.Test.YtnhhflnanogpjaaGreatDoorTreePure
namespace Go.Proofs.YtnhhflnanogpjaaGreatDoor
open Go.RowKit

def Run.at_ (r : Run) (k : Nat) : Run := { r with sb := k }
def Blind {α : Type} (m : Mn α) : Prop := ∀ r k, m (r.at_ k) = ((m r).1, (m r).2.at_ k)
variable {α β : Type}
theorem Blind.pure (a : α) : Blind (Mn.pure a) := fun _ _ => rfl
theorem Blind.bind {m : Mn α} {f : α → Mn β} (h : Blind m) (g : ∀ a, Blind (f a)) : Blind (m.bind f) := fun r k => by
  unfold Mn.bind
  rw [h r k]
  cases m r with
  | mk o s =>
    cases o with
    | ok a => exact g a s k
    | bad x o => rfl
theorem ite_blind {p : Prop} [Decidable p] {x y : Mn α} (hx : Blind x) (hy : Blind y) : Blind (if p then x else y) := by
  split
  · exact hx
  · exact hy
theorem blind_step : Blind stepM := fun r k => by
  by_cases h : r.fuel ≤ r.steps
  · have e : ∀ r' : Run, r'.fuel ≤ r'.steps → stepM r' = (.bad 0 true, r') := fun r' h => by unfold stepM; rw [if_pos h]
    rw [e r h, e (r.at_ k) h]
  · have e : ∀ r' : Run, ¬ r'.fuel ≤ r'.steps → stepM r' = (.ok (), { r' with steps := r'.steps + 1 }) := fun r' h => by unfold stepM; rw [if_neg h]
    rw [e r h, e (r.at_ k) h]
    rfl
theorem blind_asks (e : Int) : Blind (asksM e) := fun r k => by
  unfold asksM
  split <;> rfl
theorem blind_take (n : Nat) : Blind (takeM n) := fun r k => by
  by_cases h : r.st.length < n
  · have e : ∀ r' : Run, r'.st = r.st → takeM n r' = (.bad (-4) false, r') := fun r' e => by unfold takeM; rw [e, if_pos h]
    rw [e r rfl, e (r.at_ k) rfl]
  · have e : ∀ r' : Run, r'.st = r.st → takeM n r' = (.ok (r.st.drop (r.st.length - n)), { r' with st := r.st.take (r.st.length - n) }) := fun r' e => by unfold takeM; rw [e, if_neg h]
    rw [e r rfl, e (r.at_ k) rfl]
    rfl
theorem blind_push (x : Int) : Blind (pushM x) := fun r k => by
  by_cases h : r.st.length = 128
  · have e : ∀ r' : Run, r'.st = r.st → pushM x r' = (.bad (-3) false, r') := fun r' e => by unfold pushM; rw [e, if_pos h]
    rw [e r rfl, e (r.at_ k) rfl]
  · have e : ∀ r' : Run, r'.st = r.st → pushM x r' = (.ok (), { r' with st := r.st ++ [x] }) := fun r' e => by unfold pushM; rw [e, if_neg h]
    rw [e r rfl, e (r.at_ k) rfl]
    rfl
theorem blind_pop : Blind popM := (blind_take 1).bind fun _ => .pure _
theorem blind_do (op : Int) : Blind (doM op) := fun r k => by
  by_cases h : (doF op r.st).1 = 0
  · have e : ∀ r' : Run, r'.st = r.st → doM op r' = (.ok (), { r' with st := (doF op r.st).2 }) := fun r' e => by unfold doM; rw [e, if_pos h]
    rw [e r rfl, e (r.at_ k) rfl]
    rfl
  · have e : ∀ r' : Run, r'.st = r.st → doM op r' = (.bad (doF op r.st).1 false, { r' with st := (doF op r.st).2 }) := fun r' e => by unfold doM; rw [e, if_neg h]
    rw [e r rfl, e (r.at_ k) rfl]
    rfl
theorem blind_prim (op : Int) : Blind (primM op) := by
  unfold primM
  refine ite_blind (blind_do op) (ite_blind ?_ ?_)
  · exact (blind_take 1).bind fun l => (blind_asks _).bind fun _ => blind_push _
  · exact (blind_take 2).bind fun l => ite_blind (blind_asks _) (blind_push _)
theorem blind_plain {m : Mn Unit} (h : Blind m) : Blind (plainD m) := h.bind fun _ => .pure _
theorem blind_seq : ∀ (l : List Den), (∀ x ∈ l, Blind x) → Blind (seqD l)
  | [], _ => .pure _
  | x :: l, h => (h x (by simp)).bind fun b => ite_blind (.pure _) (blind_seq l fun y hy => h y (by simp [hy]))
theorem blind_loopM {round : α → Mn (α ⊕ β)} (h : ∀ a, Blind (round a)) : ∀ (k : Nat) (a : α), Blind (loopM round k a)
  | 0, _ => fun _ _ => rfl
  | k + 1, a => blind_step.bind fun _ => (h a).bind fun x => by
    cases x with
    | inl a' => exact blind_loopM h k a'
    | inr b => exact .pure b
theorem blind_loop {round : α → Mn (α ⊕ β)} (h : ∀ a, Blind (round a)) (a : α) : Blind (loopD round a) := fun r k => blind_loopM h _ a r k
theorem blind_inLoop (x : Int) {body : Den} (h : Blind body) : Blind (inLoop x body) := fun r k => by
  unfold inLoop
  rw [show ({ r.at_ k with loops := (r.at_ k).loops ++ [x] } : Run) = ({ r with loops := r.loops ++ [x] } : Run).at_ k from rfl, h]
  cases body { r with loops := r.loops ++ [x] } with
  | mk o s => cases o <;> rfl
theorem blind_doU {body : Den} (h : Blind body) : Blind (doU body) := (blind_take 2).bind fun _ => ite_blind (.pure _) (blind_loop (fun a => (blind_inLoop a h).bind fun _ => .pure _) _)
theorem blind_until {body : Den} (h : Blind body) : Blind (untilD body) := blind_loop (fun _ => h.bind fun _ => ite_blind (.pure _) (blind_pop.bind fun _ => .pure _)) _
theorem blind_while {x y : Den} (h : Blind x) (k : Blind y) : Blind (whileD x y) := blind_loop (fun _ => h.bind fun _ => ite_blind (.pure _) (blind_pop.bind fun _ => ite_blind (.pure _) (k.bind fun _ => .pure _))) _
theorem blind_case : ∀ (l : List Den) (i : Nat), (∀ x ∈ l, Blind x) → Blind (caseD l i)
  | [], _, _ => .pure _
  | [x], _, h => (h x (by simp)).bind fun b => ite_blind (.pure _) (blind_pop.bind fun _ => .pure _)
  | x :: y :: l, i, h => blind_step.bind fun _ => (blind_push _).bind fun _ => (blind_take 2).bind fun z => ite_blind (h x (by simp)) ((blind_push _).bind fun _ => blind_case (y :: l) (i + 1) fun u hu => h u (by simp at hu ⊢; exact .inr hu))
theorem blind_index : Blind indexM := fun r k => by
  by_cases h : r.loops.length = 0
  · have e : ∀ r' : Run, r'.loops = r.loops → indexM r' = (.bad (-26) false, r') := fun r' e => by unfold indexM; rw [e, if_pos h]
    rw [e r rfl, e (r.at_ k) rfl]
  · have e : ∀ r' : Run, r'.loops = r.loops → indexM r' = pushM (r.loops.getD (r.loops.length - 1) 0) r' := fun r' e => by unfold indexM; rw [e, if_neg h]
    rw [e r rfl, e (r.at_ k) rfl]
    exact blind_push _ r k
theorem blind_getD {l : List Den} (h : ∀ x ∈ l, Blind x) (k : Nat) : Blind (l.getD k (.pure false)) := by
  rw [List.getD]
  cases e : l[k]? with
  | none => exact .pure _
  | some x => exact h x (List.mem_of_getElem? e)
theorem blind_kind (v : NodeV) (kids : List Den) (hk : ∀ x ∈ kids, Blind x) : Blind (kindD v kids) := by
  unfold kindD
  refine ite_blind (blind_plain (blind_push _)) ?_
  refine ite_blind (blind_plain (blind_prim _)) ?_
  refine ite_blind (blind_seq _ hk) ?_
  refine ite_blind (blind_pop.bind fun _ => ite_blind (blind_getD hk 0) (blind_getD hk 1)) ?_
  refine ite_blind (blind_plain (blind_doU (blind_getD hk 0))) ?_
  refine ite_blind (blind_until (blind_getD hk 0)) ?_
  refine ite_blind (blind_while (blind_getD hk 0) (blind_getD hk 1)) ?_
  refine ite_blind (blind_plain blind_index) ?_
  refine ite_blind (.pure _) ?_
  refine ite_blind (blind_plain (blind_pop.bind fun x => blind_asks x)) ?_
  refine ite_blind (blind_case _ _ hk) ?_
  refine ite_blind (blind_plain fun r k => blind_push _ r k) (blind_plain (blind_pop.bind fun x => fun _ _ => rfl))
theorem blind_node (l : List NodeV) : ∀ (d k : Nat), Blind (denN l d k)
  | 0, _ => .pure _
  | d + 1, k => blind_step.bind fun _ => blind_kind _ _ (fun x hx => by
      obtain ⟨i, _, rfl⟩ := List.mem_map.1 hx
      exact blind_node l d i.toNat)

/-- a meaning, wherever the stack lies -/
theorem mean_at (l : List NodeV) (nl : Nat) (cs : List Int) (f k : Nat) (h : ¬ cs.length < nl) :
    meanF l nl cs f = (match denN l l.length (l.length - 1) ⟨cs.take (cs.length - nl), cs.drop (cs.length - nl), [], 0, f, k⟩ with
      | (.ok _, s) => ⟨s.st, 0, true, s.steps⟩
      | (.bad e o, s) => if o then ⟨[], 0, false, s.steps⟩ else if e = 0 then ⟨s.st, 0, true, s.steps⟩ else ⟨[], e, true, s.steps⟩) := by
  have hb := blind_node l l.length (l.length - 1) ⟨cs.take (cs.length - nl), cs.drop (cs.length - nl), [], 0, f, 0⟩ k
  have e : (⟨cs.take (cs.length - nl), cs.drop (cs.length - nl), [], 0, f, 0⟩ : Run).at_ k = ⟨cs.take (cs.length - nl), cs.drop (cs.length - nl), [], 0, f, k⟩ := rfl
  rw [e] at hb
  unfold meanF
  rw [if_neg h, hb]
  cases denN l l.length (l.length - 1) ⟨cs.take (cs.length - nl), cs.drop (cs.length - nl), [], 0, f, 0⟩ with
  | mk o s => cases o <;> rfl
/-- the stack stays where it lies -/
theorem node_sb (l : List NodeV) (d k : Nat) (r : Run) : (denN l d k r).2.sb = r.sb := by
  have h := blind_node l d k r r.sb
  have e : r.at_ r.sb = r := rfl
  rw [e] at h
  have := congrArg (fun x => x.2.sb) h
  exact this
end Go.Proofs.YtnhhflnanogpjaaGreatDoor
