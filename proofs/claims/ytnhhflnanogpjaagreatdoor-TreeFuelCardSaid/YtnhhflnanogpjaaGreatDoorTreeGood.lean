/- More fuel changes nothing of what a tree means, if it came to its end. -/
import Derived.Test.YtnhhflnanogpjaaGreatDoorTreePure
namespace Go.Proofs.YtnhhflnanogpjaaGreatDoor
open Go.RowKit

/-- how an ending with more fuel stands to one with less -/
def Alike {α : Type} (k : Nat) : Out α × Run → Out α × Run → Prop
  | (.ok a, s), y => y = (.ok a, s.more k)
  | (.bad _ true, s), y => s.steps = s.fuel ∧ s.steps ≤ y.2.steps
  | (.bad e false, s), y => y = (.bad e false, s.more k)
structure Good {α : Type} (m : Mn α) : Prop where
  mono : ∀ r, r.steps ≤ (m r).2.steps
  fuel : ∀ r, (m r).2.fuel = r.fuel
  within : ∀ r, r.steps ≤ r.fuel → (m r).2.steps ≤ r.fuel
  more : ∀ r k, r.steps ≤ r.fuel → Alike k (m r) (m (r.more k))

variable {α β : Type}
theorem Good.pure (a : α) : Good (Mn.pure a) := ⟨fun _ => Nat.le_refl _, fun _ => rfl, fun _ h => h, fun _ _ _ => rfl⟩
theorem Good.bind {m : Mn α} {f : α → Mn β} (h : Good m) (g : ∀ a, Good (f a)) : Good (m.bind f) := by
  refine ⟨fun r => ?_, fun r => ?_, fun r hr => ?_, fun r k hr => ?_⟩
  · have h1 := h.mono r
    unfold Mn.bind
    cases e : m r with
    | mk o s =>
      rw [e] at h1
      cases o with
      | ok a => exact Nat.le_trans h1 ((g a).mono s)
      | bad x o => exact h1
  · have h1 := h.fuel r
    unfold Mn.bind
    cases e : m r with
    | mk o s =>
      rw [e] at h1
      cases o with
      | ok a => exact ((g a).fuel s).trans h1
      | bad x o => exact h1
  · have h1 := h.fuel r
    have h2 := h.within r hr
    unfold Mn.bind
    cases e : m r with
    | mk o s =>
      rw [e] at h1 h2
      cases o with
      | ok a =>
        have := (g a).within s (by simp only at h1 h2; omega)
        simp only at h1 ⊢
        omega
      | bad x o => exact h2
  · have h1 := h.fuel r
    have h2 := h.within r hr
    have h3 := h.more r k hr
    unfold Mn.bind
    cases e : m r with
    | mk o s =>
      rw [e] at h1 h2 h3
      cases o with
      | ok a =>
        have h4 : m (r.more k) = (.ok a, s.more k) := h3
        rw [h4]
        exact (g a).more s k (by simp only at h1 h2; omega)
      | bad x o =>
        cases o with
        | false =>
          have h4 : m (r.more k) = (.bad x false, s.more k) := h3
          rw [h4]
          rfl
        | true =>
          obtain ⟨h4, h5⟩ := h3
          refine ⟨h4, ?_⟩
          cases e2 : m (r.more k) with
          | mk o' s' =>
            rw [e2] at h5
            cases o' with
            | ok a => exact Nat.le_trans h5 ((g a).mono s')
            | bad x o => exact h5
theorem Good.quiet {m : Mn α} (h : ∀ r, (m r).2.steps = r.steps ∧ (m r).2.fuel = r.fuel ∧ (∀ k, m (r.more k) = ((m r).1, (m r).2.more k)) ∧ ∀ e, (m r).1 ≠ .bad e true) : Good m := by
  refine ⟨fun r => Nat.le_of_eq (h r).1.symm, fun r => (h r).2.1, fun r hr => by rw [(h r).1]; exact hr, fun r k hr => ?_⟩
  obtain ⟨_, _, h3, h4⟩ := h r
  rw [h3 k]
  cases e : m r with
  | mk o s =>
    rw [e] at h4
    cases o with
    | ok a => rfl
    | bad x o =>
      cases o with
      | false => rfl
      | true => exact absurd rfl (h4 x)

theorem good_step : Good stepM := by
  refine ⟨fun r => ?_, fun r => ?_, fun r hr => ?_, fun r k hr => ?_⟩
  · unfold stepM; split <;> simp
  · unfold stepM; split <;> simp
  · unfold stepM; split <;> simp <;> omega
  · by_cases h : r.fuel ≤ r.steps
    · have e : stepM r = (.bad 0 true, r) := by unfold stepM; rw [if_pos h]
      rw [e]
      refine ⟨by omega, ?_⟩
      show r.steps ≤ _
      unfold stepM
      split <;> simp [Run.more]
    · have e : stepM r = (.ok (), { r with steps := r.steps + 1 }) := by unfold stepM; rw [if_neg h]
      have e2 : stepM (r.more k) = (.ok (), ({ r with steps := r.steps + 1 } : Run).more k) := by
        unfold stepM
        rw [if_neg (by simp only [Run.more]; omega)]
        rfl
      rw [e, e2]
      rfl
theorem good_asks (e : Int) : Good (asksM e) := .quiet fun r => by
  unfold asksM
  split
  · exact ⟨rfl, rfl, fun k => rfl, fun e h => by cases h⟩
  · exact ⟨rfl, rfl, fun k => rfl, fun e h => by cases h⟩
theorem good_take (n : Nat) : Good (takeM n) := .quiet fun r => by
  by_cases h : r.st.length < n
  · have e : ∀ r' : Run, r'.st = r.st → takeM n r' = (.bad (-4) false, r') := fun r' e => by unfold takeM; rw [e, if_pos h]
    rw [e r rfl]
    exact ⟨rfl, rfl, fun k => e (r.more k) rfl, fun e h => by cases h⟩
  · have e : ∀ r' : Run, r'.st = r.st → takeM n r' = (.ok (r.st.drop (r.st.length - n)), { r' with st := r.st.take (r.st.length - n) }) := fun r' e => by unfold takeM; rw [e, if_neg h]
    rw [e r rfl]
    exact ⟨rfl, rfl, fun k => e (r.more k) rfl, fun e h => by cases h⟩
theorem good_push (x : Int) : Good (pushM x) := .quiet fun r => by
  by_cases h : r.st.length = 128
  · have e : ∀ r' : Run, r'.st = r.st → pushM x r' = (.bad (-3) false, r') := fun r' e => by unfold pushM; rw [e, if_pos h]
    rw [e r rfl]
    exact ⟨rfl, rfl, fun k => e (r.more k) rfl, fun e h => by cases h⟩
  · have e : ∀ r' : Run, r'.st = r.st → pushM x r' = (.ok (), { r' with st := r.st ++ [x] }) := fun r' e => by unfold pushM; rw [e, if_neg h]
    rw [e r rfl]
    exact ⟨rfl, rfl, fun k => e (r.more k) rfl, fun e h => by cases h⟩
theorem good_pop : Good popM := (good_take 1).bind fun _ => .pure _
theorem good_do (op : Int) : Good (doM op) := .quiet fun r => by
  by_cases h : (doF op r.st).1 = 0
  · have e : ∀ r' : Run, r'.st = r.st → doM op r' = (.ok (), { r' with st := (doF op r.st).2 }) := fun r' e => by unfold doM; rw [e, if_pos h]
    rw [e r rfl]
    exact ⟨rfl, rfl, fun k => e (r.more k) rfl, fun e h => by cases h⟩
  · have e : ∀ r' : Run, r'.st = r.st → doM op r' = (.bad (doF op r.st).1 false, { r' with st := (doF op r.st).2 }) := fun r' e => by unfold doM; rw [e, if_neg h]
    rw [e r rfl]
    exact ⟨rfl, rfl, fun k => e (r.more k) rfl, fun e h => by cases h⟩
theorem ite_good {p : Prop} [Decidable p] {x y : Mn α} (hx : Good x) (hy : Good y) : Good (if p then x else y) := by
  split
  · exact hx
  · exact hy
theorem good_prim (op : Int) : Good (primM op) := by
  unfold primM
  refine ite_good (good_do op) (ite_good ?_ ?_)
  · exact (good_take 1).bind fun l => (good_asks _).bind fun _ => good_push _
  · exact (good_take 2).bind fun l => ite_good (good_asks _) (good_push _)
theorem good_plain {m : Mn Unit} (h : Good m) : Good (plainD m) := h.bind fun _ => .pure _
theorem good_seq : ∀ (l : List Den), (∀ x ∈ l, Good x) → Good (seqD l)
  | [], _ => .pure _
  | x :: l, h => (h x (by simp)).bind fun b => ite_good (.pure _) (good_seq l fun y hy => h y (by simp [hy]))
theorem good_either {y n : Den} (hy : Good y) (hn : Good n) : Good (eitherD y n) := good_pop.bind fun _ => ite_good hy hn

theorem loop_enough {round : α → Mn (α ⊕ β)} (h : ∀ a, Good (round a)) : ∀ (k k' : Nat) (a : α) (r : Run), r.steps ≤ r.fuel → r.fuel + 1 ≤ r.steps + k → r.fuel + 1 ≤ r.steps + k' → loopM round k a r = loopM round k' a r
  | 0, _, _, _, h1, h2, _ => by omega
  | k + 1, 0, _, _, h1, _, h3 => by omega
  | k + 1, k' + 1, a, r, h1, h2, h3 => by
    simp only [loopM]
    unfold Mn.bind
    by_cases hs : r.fuel ≤ r.steps
    · have e : stepM r = (.bad 0 true, r) := by unfold stepM; rw [if_pos hs]
      rw [e]
    · have e : stepM r = (.ok (), { r with steps := r.steps + 1 }) := by unfold stepM; rw [if_neg hs]
      rw [e]
      simp only
      have m1 := (h a).mono { r with steps := r.steps + 1 }
      have m2 := (h a).fuel { r with steps := r.steps + 1 }
      have m3 := (h a).within { r with steps := r.steps + 1 } (by simp only; omega)
      cases e2 : round a { r with steps := r.steps + 1 } with
      | mk o s =>
        rw [e2] at m1 m2 m3
        simp only at m1 m2 m3
        cases o with
        | bad x o => rfl
        | ok x =>
          cases x with
          | inl a' => exact loop_enough h k k' a' s (by omega) (by omega) (by omega)
          | inr b => rfl
theorem good_loopM {round : α → Mn (α ⊕ β)} (h : ∀ a, Good (round a)) : ∀ (k : Nat) (a : α) (r : Run), r.steps ≤ r.fuel → r.fuel + 1 ≤ r.steps + k →
    r.steps ≤ (loopM round k a r).2.steps ∧ (loopM round k a r).2.fuel = r.fuel ∧ (loopM round k a r).2.steps ≤ r.fuel ∧ ∀ j k', r.fuel + j + 1 ≤ r.steps + k' → Alike j (loopM round k a r) (loopM round k' a (r.more j))
  | 0, _, _, h1, h2 => by omega
  | k + 1, a, r, h1, h2 => by
    by_cases hs : r.fuel ≤ r.steps
    · have e : loopM round (k + 1) a r = (.bad 0 true, r) := by
        simp only [loopM]
        unfold Mn.bind
        have e : stepM r = (.bad 0 true, r) := by unfold stepM; rw [if_pos hs]
        rw [e]
      rw [e]
      refine ⟨Nat.le_refl _, rfl, h1, fun j k' hk => ⟨by show r.steps = r.fuel; omega, ?_⟩⟩
      show r.steps ≤ _
      have hg : ∀ (k : Nat) (a : α) (r : Run), r.steps ≤ (loopM round k a r).2.steps := by
        intro k
        induction k with
        | zero => intro a r; exact Nat.le_refl _
        | succ k ih =>
          intro a r
          simp only [loopM]
          unfold Mn.bind
          have ms := good_step.mono r
          cases e3 : stepM r with
          | mk o s =>
            rw [e3] at ms
            cases o with
            | bad x o => exact ms
            | ok u =>
              simp only at ms ⊢
              have mr := (h a).mono s
              cases e4 : round a s with
              | mk o s2 =>
                rw [e4] at mr
                simp only at mr
                cases o with
                | bad x o => exact Nat.le_trans ms mr
                | ok x =>
                  cases x with
                  | inl a' => exact Nat.le_trans (Nat.le_trans ms mr) (ih a' s2)
                  | inr b => exact Nat.le_trans ms mr
      exact hg k' a (r.more j)
    · have e : stepM r = (.ok (), { r with steps := r.steps + 1 }) := by unfold stepM; rw [if_neg hs]
      have m1 := (h a).mono { r with steps := r.steps + 1 }
      have m2 := (h a).fuel { r with steps := r.steps + 1 }
      have m3 := (h a).within { r with steps := r.steps + 1 } (by simp only; omega)
      have m4 := fun j => (h a).more { r with steps := r.steps + 1 } j (by simp only; omega)
      have ek : ∀ k', r.fuel + 1 ≤ r.steps + k' → ∃ k'', k' = k'' + 1 := fun k' hk => ⟨k' - 1, by omega⟩
      have es : ∀ j, stepM (r.more j) = (.ok (), ({ r with steps := r.steps + 1 } : Run).more j) := fun j => by
        unfold stepM
        rw [if_neg (by simp only [Run.more]; omega)]
        rfl
      cases e2 : round a { r with steps := r.steps + 1 } with
      | mk o s =>
        rw [e2] at m1 m2 m3 m4
        simp only at m1 m2 m3
        have eL : loopM round (k + 1) a r = (match o with
            | .ok (.inl a') => loopM round k a' s
            | .ok (.inr b) => (.ok b, s)
            | .bad x o => (.bad x o, s)) := by
          simp only [loopM]
          unfold Mn.bind
          rw [e]
          simp only [e2]
          cases o with
          | bad x o => rfl
          | ok x => cases x <;> rfl
        rw [eL]
        cases o with
        | bad x o =>
          refine ⟨by simp only; omega, m2, m3, fun j k' hk => ?_⟩
          obtain ⟨k'', rfl⟩ := ek k' (by omega)
          have m5 := m4 j
          simp only [loopM]
          unfold Mn.bind
          rw [es j]
          simp only
          cases o with
          | false =>
            have m6 : round a (({ r with steps := r.steps + 1 } : Run).more j) = (.bad x false, s.more j) := m5
            rw [m6]
            rfl
          | true =>
            obtain ⟨m6, m7⟩ := m5
            refine ⟨m6, ?_⟩
            cases e5 : round a (({ r with steps := r.steps + 1 } : Run).more j) with
            | mk o' s' =>
              rw [e5] at m7
              cases o' with
              | bad x o => exact m7
              | ok y =>
                cases y with
                | inl a' =>
                  have hg : ∀ (k : Nat) (a : α) (r : Run), r.steps ≤ (loopM round k a r).2.steps := by
                    intro k
                    induction k with
                    | zero => intro a r; exact Nat.le_refl _
                    | succ k ih =>
                      intro a r
                      simp only [loopM]
                      unfold Mn.bind
                      have ms := good_step.mono r
                      cases e3 : stepM r with
                      | mk o s =>
                        rw [e3] at ms
                        cases o with
                        | bad x o => exact ms
                        | ok u =>
                          simp only at ms ⊢
                          have mr := (h a).mono s
                          cases e4 : round a s with
                          | mk o s2 =>
                            rw [e4] at mr
                            simp only at mr
                            cases o with
                            | bad x o => exact Nat.le_trans ms mr
                            | ok x =>
                              cases x with
                              | inl a' => exact Nat.le_trans (Nat.le_trans ms mr) (ih a' s2)
                              | inr b => exact Nat.le_trans ms mr
                  exact Nat.le_trans m7 (hg k'' a' s')
                | inr b => exact m7
        | ok x =>
          cases x with
          | inl a' =>
            obtain ⟨i1, i2, i3, i4⟩ := good_loopM h k a' s (by omega) (by omega)
            simp only
            refine ⟨by omega, by omega, by omega, fun j k' hk => ?_⟩
            obtain ⟨k'', rfl⟩ := ek k' (by omega)
            have m6 : round a (({ r with steps := r.steps + 1 } : Run).more j) = (.ok (.inl a'), s.more j) := m4 j
            have eR : loopM round (k'' + 1) a (r.more j) = loopM round k'' a' (s.more j) := by
              simp only [loopM]
              unfold Mn.bind
              rw [es j]
              simp only [m6]
            rw [eR]
            exact i4 j k'' (by omega)
          | inr b =>
            refine ⟨by simp only; omega, m2, m3, fun j k' hk => ?_⟩
            obtain ⟨k'', rfl⟩ := ek k' (by omega)
            have m6 : round a (({ r with steps := r.steps + 1 } : Run).more j) = (.ok (.inr b), s.more j) := m4 j
            have eR : loopM round (k'' + 1) a (r.more j) = (.ok b, s.more j) := by
              simp only [loopM]
              unfold Mn.bind
              rw [es j]
              simp only [m6]
              rfl
            rw [eR]
            rfl
theorem good_loop {round : α → Mn (α ⊕ β)} (h : ∀ a, Good (round a)) (a : α) : Good (loopD round a) := by
  have hg : ∀ (k : Nat) (a : α) (r : Run), r.steps ≤ (loopM round k a r).2.steps ∧ (loopM round k a r).2.fuel = r.fuel := by
    intro k
    induction k with
    | zero => intro a r; exact ⟨Nat.le_refl _, rfl⟩
    | succ k ih =>
      intro a r
      simp only [loopM]
      unfold Mn.bind
      have ms := good_step.mono r
      have mf := good_step.fuel r
      cases e3 : stepM r with
      | mk o s =>
        rw [e3] at ms mf
        cases o with
        | bad x o => exact ⟨ms, mf⟩
        | ok u =>
          simp only at ms mf ⊢
          have mr := (h a).mono s
          have mg := (h a).fuel s
          cases e4 : round a s with
          | mk o s2 =>
            rw [e4] at mr mg
            simp only at mr mg
            cases o with
            | bad x o => exact ⟨Nat.le_trans ms mr, mg.trans mf⟩
            | ok x =>
              cases x with
              | inl a' => exact ⟨Nat.le_trans (Nat.le_trans ms mr) (ih a' s2).1, (ih a' s2).2.trans (mg.trans mf)⟩
              | inr b => exact ⟨Nat.le_trans ms mr, mg.trans mf⟩
  refine ⟨fun r => (hg _ a r).1, fun r => (hg _ a r).2, fun r hr => ?_, fun r k hr => ?_⟩
  · exact (good_loopM h _ a r hr (by omega)).2.2.1
  · exact (good_loopM h _ a r hr (by omega)).2.2.2 k _ (by simp only [Run.more]; omega)
theorem good_inLoop (x : Int) {body : Den} (h : Good body) : Good (inLoop x body) := by
  refine ⟨fun r => ?_, fun r => ?_, fun r hr => ?_, fun r k hr => ?_⟩
  · have h1 := h.mono { r with loops := r.loops ++ [x] }
    unfold inLoop
    cases e : body { r with loops := r.loops ++ [x] } with
    | mk o s =>
      rw [e] at h1
      cases o <;> exact h1
  · have h1 := h.fuel { r with loops := r.loops ++ [x] }
    unfold inLoop
    cases e : body { r with loops := r.loops ++ [x] } with
    | mk o s =>
      rw [e] at h1
      cases o <;> exact h1
  · have h1 := h.within { r with loops := r.loops ++ [x] } hr
    unfold inLoop
    cases e : body { r with loops := r.loops ++ [x] } with
    | mk o s =>
      rw [e] at h1
      cases o <;> exact h1
  · have h1 := h.more { r with loops := r.loops ++ [x] } k hr
    have e0 : ({ r.more k with loops := (r.more k).loops ++ [x] } : Run) = ({ r with loops := r.loops ++ [x] } : Run).more k := rfl
    unfold inLoop
    rw [e0]
    cases e : body { r with loops := r.loops ++ [x] } with
    | mk o s =>
      rw [e] at h1
      cases o with
      | ok a =>
        have h2 : body (({ r with loops := r.loops ++ [x] } : Run).more k) = (.ok a, s.more k) := h1
        rw [h2]
        rfl
      | bad y o =>
        cases o with
        | false =>
          have h2 : body (({ r with loops := r.loops ++ [x] } : Run).more k) = (.bad y false, s.more k) := h1
          rw [h2]
          rfl
        | true =>
          obtain ⟨h2, h3⟩ := h1
          refine ⟨h2, ?_⟩
          cases e2 : body (({ r with loops := r.loops ++ [x] } : Run).more k) with
          | mk o' s' =>
            rw [e2] at h3
            cases o' <;> exact h3
theorem good_doU {body : Den} (h : Good body) : Good (doU body) := (good_take 2).bind fun _ => ite_good (.pure _) (good_loop (fun a => (good_inLoop a h).bind fun _ => .pure _) _)
theorem good_until {body : Den} (h : Good body) : Good (untilD body) := good_loop (fun _ => h.bind fun _ => ite_good (.pure _) (good_pop.bind fun _ => .pure _)) _
theorem good_while {x y : Den} (h : Good x) (k : Good y) : Good (whileD x y) := good_loop (fun _ => h.bind fun _ => ite_good (.pure _) (good_pop.bind fun _ => ite_good (.pure _) (k.bind fun _ => .pure _))) _
theorem good_case : ∀ (l : List Den) (i : Nat), (∀ x ∈ l, Good x) → Good (caseD l i)
  | [], _, _ => .pure _
  | [x], _, h => (h x (by simp)).bind fun b => ite_good (.pure _) (good_pop.bind fun _ => .pure _)
  | x :: y :: l, i, h => good_step.bind fun _ => (good_push _).bind fun _ => (good_take 2).bind fun z => ite_good (h x (by simp)) ((good_push _).bind fun _ => good_case (y :: l) (i + 1) fun u hu => h u (by simp at hu ⊢; exact .inr hu))
theorem good_index : Good indexM := by
  have e : ∀ r : Run, r.loops.length = 0 → indexM r = (.bad (-26) false, r) := fun r h => by unfold indexM; rw [if_pos h]
  have e2 : ∀ r : Run, ¬ r.loops.length = 0 → indexM r = pushM (r.loops.getD (r.loops.length - 1) 0) r := fun r h => by unfold indexM; rw [if_neg h]
  refine ⟨fun r => ?_, fun r => ?_, fun r hr => ?_, fun r k hr => ?_⟩
  all_goals by_cases h : r.loops.length = 0
  · rw [e r h]; exact Nat.le_refl _
  · rw [e2 r h]; exact (good_push _).mono r
  · rw [e r h]
  · rw [e2 r h]; exact (good_push _).fuel r
  · rw [e r h]; exact hr
  · rw [e2 r h]; exact (good_push _).within r hr
  · rw [e r h, e (r.more k) h]; rfl
  · rw [e2 r h, e2 (r.more k) h]; exact (good_push _).more r k hr
theorem good_throw : Good throwM := good_pop.bind fun x => good_asks x
theorem good_local (n : Nat) : Good (localM n) := ⟨fun r => (good_push _).mono r, fun r => (good_push _).fuel r, fun r hr => (good_push _).within r hr, fun r k hr => (good_push (r.locals.getD n 0)).more r k hr⟩
theorem good_set (n : Nat) : Good (setM n) := good_pop.bind fun x => .quiet fun r => ⟨rfl, rfl, fun _ => rfl, fun _ h => by cases h⟩
theorem good_getD {l : List Den} (h : ∀ x ∈ l, Good x) (k : Nat) : Good (l.getD k (.pure false)) := by
  rw [List.getD]
  cases e : l[k]? with
  | none => exact .pure _
  | some x => exact h x (List.mem_of_getElem? e)
theorem good_kind (v : NodeV) (kids : List Den) (hk : ∀ x ∈ kids, Good x) : Good (kindD v kids) := by
  unfold kindD
  refine ite_good (good_plain (good_push _)) ?_
  refine ite_good (good_plain (good_prim _)) ?_
  refine ite_good (good_seq _ hk) ?_
  refine ite_good (good_either (good_getD hk 0) (good_getD hk 1)) ?_
  refine ite_good (good_plain (good_doU (good_getD hk 0))) ?_
  refine ite_good (good_until (good_getD hk 0)) ?_
  refine ite_good (good_while (good_getD hk 0) (good_getD hk 1)) ?_
  refine ite_good (good_plain good_index) ?_
  refine ite_good (.pure _) ?_
  refine ite_good (good_plain good_throw) ?_
  refine ite_good (good_case _ _ hk) ?_
  exact ite_good (good_plain (good_local _)) (good_plain (good_set _))
theorem good_node (l : List NodeV) : ∀ (d k : Nat), Good (denN l d k)
  | 0, _ => .pure _
  | d + 1, k => good_step.bind fun _ => good_kind _ _ (fun x hx => by
      obtain ⟨i, _, rfl⟩ := List.mem_map.1 hx
      exact good_node l d i.toNat)

/-- WITH MORE FUEL -/
theorem mean_more (l : List NodeV) (nl : Nat) (cs : List Int) (f k : Nat) :
    (meanF l nl cs f).steps ≤ f ∧ (meanF l nl cs f).steps ≤ (meanF l nl cs (f + k)).steps ∧
    ((meanF l nl cs f).done = false → (meanF l nl cs f).steps = f ∧ (meanF l nl cs f).st = [] ∧ (meanF l nl cs f).code = 0) ∧
    ((meanF l nl cs f).done = true → meanF l nl cs (f + k) = meanF l nl cs f) := by
  unfold meanF
  by_cases h : cs.length < nl
  · rw [if_pos h, if_pos h]
    exact ⟨Nat.zero_le _, Nat.le_refl _, by simp, fun _ => rfl⟩
  · rw [if_neg h, if_neg h]
    have hg := good_node l l.length (l.length - 1)
    obtain ⟨r, hr⟩ : ∃ r : Run, (⟨cs.take (cs.length - nl), cs.drop (cs.length - nl), [], 0, f, 0⟩ : Run) = r := ⟨_, rfl⟩
    have hrm : (⟨cs.take (cs.length - nl), cs.drop (cs.length - nl), [], 0, f + k, 0⟩ : Run) = r.more k := by rw [← hr]; rfl
    have hf : r.fuel = f := by rw [← hr]
    have hs : r.steps = 0 := by rw [← hr]
    rw [hrm, hr]
    have g1 := hg.within r (by omega)
    have g2 := hg.more r k (by omega)
    have g3 := hg.fuel r
    clear hg hrm hr
    cases e : denN l l.length (l.length - 1) r with
    | mk o s =>
      rw [e] at g1 g2 g3
      simp only at g1 g3
      cases o with
      | ok a =>
        have e2 : denN l l.length (l.length - 1) (r.more k) = (.ok a, s.more k) := g2
        rw [e2]
        exact ⟨by simp only; omega, Nat.le_refl _, by simp, fun _ => rfl⟩
      | bad x o =>
        cases o with
        | false =>
          have e2 : denN l l.length (l.length - 1) (r.more k) = (.bad x false, s.more k) := g2
          rw [e2]
          by_cases hx : x = 0
          · simp only [hx, if_true]
            exact ⟨by simp; omega, by simp [Run.more], by simp, by simp [Run.more]⟩
          · simp only [if_neg hx]
            exact ⟨by simp; omega, by simp [Run.more], by simp, by simp [Run.more]⟩
        | true =>
          obtain ⟨g4, g5⟩ := g2
          refine ⟨by simp; omega, ?_, fun _ => ⟨by simp; omega, rfl, rfl⟩, fun h => by simp at h⟩
          cases e2 : denN l l.length (l.length - 1) (r.more k) with
          | mk o' s' =>
            rw [e2] at g5
            simp only at g5
            cases o' with
            | ok a => exact g5
            | bad y o' =>
              cases o' with
              | true => exact g5
              | false =>
                by_cases hy : y = 0
                · simp only [hy, if_true]; simpa using g5
                · simp only [if_neg hy]; simpa using g5
end Go.Proofs.YtnhhflnanogpjaaGreatDoor
