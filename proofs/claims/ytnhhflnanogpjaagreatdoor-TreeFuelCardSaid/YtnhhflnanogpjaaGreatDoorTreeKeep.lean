/- What every act keeps: cells that are cells, a stack that is not too deep, steps within the fuel, and the loops around it. -/
import Derived.Test.YtnhhflnanogpjaaGreatDoorRun
namespace Go.Proofs.YtnhhflnanogpjaaGreatDoor
open Go.RowKit

def AllCells (l : List Int) : Prop := ∀ x ∈ l, Cell64 x
theorem AllCells.getD {l : List Int} (h : AllCells l) (k : Nat) : Cell64 (l.getD k 0) := by
  rw [List.getD]
  cases e : l[k]? with
  | none => unfold Cell64; decide
  | some x => exact h x (List.mem_of_getElem? e)
theorem AllCells.take {l : List Int} (h : AllCells l) (k : Nat) : AllCells (l.take k) := fun x hx => h x (List.mem_of_mem_take hx)
theorem AllCells.drop {l : List Int} (h : AllCells l) (k : Nat) : AllCells (l.drop k) := fun x hx => h x (List.mem_of_mem_drop hx)
theorem AllCells.append {l m : List Int} (h : AllCells l) (k : AllCells m) : AllCells (l ++ m) := fun x hx => (List.mem_append.1 hx).elim (h x) (k x)
theorem AllCells.one {x : Int} (h : Cell64 x) : AllCells [x] := fun y hy => by simp at hy; exact hy ▸ h
theorem AllCells.set {l : List Int} (h : AllCells l) (k : Nat) {x : Int} (hx : Cell64 x) : AllCells (l.set k x) := fun y hy => by
  rcases List.mem_or_eq_of_mem_set hy with h' | h'
  · exact h y h'
  · exact h' ▸ hx

theorem farF_ok (op : Int) (st : List Int) (h : AllCells st) (hs : st.length ≤ 128) : AllCells (farF op st).2 ∧ (farF op st).2.length ≤ 128 := by
  unfold farF
  split
  · exact ⟨h, hs⟩
  rename_i hne
  have h0 : ¬ st.length = 0 := fun e => hne (.inl e)
  simp only
  split
  · refine ⟨(h.take _).append (.one (h.getD _)), ?_⟩
    simp; omega
  · refine ⟨(((h.take _).take _).append ((h.take _).drop _)).append (.one (h.getD _)), ?_⟩
    simp; omega
theorem doF_ok (op : Int) (st : List Int) (h : AllCells st) (hs : st.length ≤ 128) : AllCells (doF op st).2 ∧ (doF op st).2.length ≤ 128 := by
  unfold doF
  split
  · exact farF_ok op st h hs
  split
  · split
    · exact ⟨h, hs⟩
    · refine ⟨h.append (.one ?_), by simp; omega⟩
      unfold Cell64; omega
  simp only
  split
  · exact ⟨h, hs⟩
  split
  · exact ⟨h, hs⟩
  split
  · exact ⟨h, hs⟩
  · refine ⟨(h.take _).append (fun x hx => ?_), ?_⟩
    · obtain ⟨i, _, rfl⟩ := List.mem_map.1 hx
      exact (h.drop _).getD i
    · rw [List.length_append, List.length_take, List.length_map]
      omega

def Keep {α : Type} (d : Nat) (m : Mn α) (Pa : α → Prop) : Prop :=
  ∀ r : Run, r.ok → r.loops.length + d ≤ 1000 → (m r).2.ok ∧ (m r).2.fuel = r.fuel ∧ r.steps ≤ (m r).2.steps ∧ (m r).2.locals.length = r.locals.length ∧ (∀ a, (m r).1 = .ok a → (m r).2.loops = r.loops ∧ Pa a)

variable {α β : Type} {d : Nat} {Pa : α → Prop} {Pb : β → Prop}
theorem Keep.pure {a : α} (h : Pa a) : Keep d (.pure a) Pa := fun r hr _ => ⟨hr, rfl, Nat.le_refl _, rfl, fun b e => by cases e; exact ⟨rfl, h⟩⟩
theorem Keep.bind {m : Mn α} {f : α → Mn β} (h : Keep d m Pa) (k : ∀ a, Pa a → Keep d (f a) Pb) : Keep d (m.bind f) Pb := fun r hr hd => by
  obtain ⟨h1, h2, h3, h4, h5⟩ := h r hr hd
  unfold Mn.bind
  cases e : m r with
  | mk o s =>
    rw [e] at h1 h2 h3 h4 h5
    cases o with
    | ok a =>
      obtain ⟨hl, ha⟩ := h5 a rfl
      simp only at h1 h2 h3 h4 hl
      obtain ⟨k1, k2, k3, k4, k5⟩ := k a ha s h1 (by rw [hl]; exact hd)
      exact ⟨k1, k2.trans h2, Nat.le_trans h3 k3, k4.trans h4, fun b hb => ⟨((k5 b hb).1).trans hl, (k5 b hb).2⟩⟩
    | bad x o => exact ⟨h1, h2, h3, h4, fun b hb => by cases hb⟩
theorem Keep.mono {m : Mn α} {Qa : α → Prop} (h : Keep d m Pa) (k : ∀ a, Pa a → Qa a) : Keep d m Qa := fun r hr hd => by
  obtain ⟨h1, h2, h3, h4, h5⟩ := h r hr hd
  exact ⟨h1, h2, h3, h4, fun a ha => ⟨(h5 a ha).1, k a (h5 a ha).2⟩⟩
theorem Keep.deeper {m : Mn α} {e : Nat} (h : Keep d m Pa) (he : d ≤ e) : Keep e m Pa := fun r hr hd => h r hr (by omega)

theorem keep_step : Keep d stepM (fun _ => True) := fun r hr _ => by
  unfold stepM
  split
  · exact ⟨hr, rfl, Nat.le_refl _, rfl, fun _ e => by cases e⟩
  · rename_i h
    refine ⟨⟨hr.st, hr.locals, hr.loops, hr.small, ?_, hr.fuel⟩, rfl, by simp, rfl, fun _ _ => ⟨rfl, trivial⟩⟩
    simp; omega
theorem keep_asks (e : Int) : Keep d (asksM e) (fun _ => e = 0) := fun r hr _ => by
  unfold asksM
  split
  · rename_i h; exact ⟨hr, rfl, Nat.le_refl _, rfl, fun _ _ => ⟨rfl, h⟩⟩
  · exact ⟨hr, rfl, Nat.le_refl _, rfl, fun _ e => by cases e⟩
theorem keep_take (n : Nat) : Keep d (takeM n) (fun l => l.length = n ∧ AllCells l) := fun r hr _ => by
  unfold takeM
  split
  · exact ⟨hr, rfl, Nat.le_refl _, rfl, fun _ e => by cases e⟩
  · refine ⟨⟨AllCells.take hr.st _, hr.locals, hr.loops, ?_, hr.steps, hr.fuel⟩, rfl, Nat.le_refl _, rfl, fun l e => ?_⟩
    · have := hr.small; simp; omega
    · cases e
      exact ⟨rfl, by rw [List.length_drop]; omega, AllCells.drop hr.st _⟩
theorem keep_push {x : Int} (hx : Cell64 x) : Keep d (pushM x) (fun _ => True) := fun r hr _ => by
  unfold pushM
  split
  · exact ⟨hr, rfl, Nat.le_refl _, rfl, fun _ e => by cases e⟩
  · refine ⟨⟨AllCells.append hr.st (.one hx), hr.locals, hr.loops, ?_, hr.steps, hr.fuel⟩, rfl, Nat.le_refl _, rfl, fun l e => ⟨rfl, trivial⟩⟩
    have := hr.small; simp; omega
theorem keep_pop : Keep d popM Cell64 := (keep_take 1).bind fun _ h => .pure (h.2.getD 0)
theorem keep_do (op : Int) : Keep d (doM op) (fun _ => True) := fun r hr _ => by
  have h := doF_ok op r.st hr.st hr.small
  unfold doM
  split
  · exact ⟨⟨h.1, hr.locals, hr.loops, h.2, hr.steps, hr.fuel⟩, rfl, Nat.le_refl _, rfl, fun l e => ⟨rfl, trivial⟩⟩
  · exact ⟨⟨h.1, hr.locals, hr.loops, h.2, hr.steps, hr.fuel⟩, rfl, Nat.le_refl _, rfl, fun l e => by cases e⟩
theorem keep_prim (op : Int) : Keep d (primM op) (fun _ => True) := by
  unfold primM
  split
  · exact keep_do op
  split
  · exact (keep_take 1).bind fun l h => (keep_asks _).bind fun _ _ => keep_push (oneF_cell _ _ (h.2.getD 0))
  · refine (keep_take 2).bind fun l h => ?_
    split
    · exact (keep_asks _).mono fun _ _ => trivial
    · exact keep_push (twoF_cell _ _ _ (h.2.getD 0) (h.2.getD 1))
theorem keep_plain {m : Mn Unit} (h : Keep d m (fun _ => True)) : Keep d (plainD m) (fun _ => True) := h.bind fun _ _ => .pure trivial
theorem keep_seq : ∀ (l : List Den), (∀ x ∈ l, Keep d x (fun _ => True)) → Keep d (seqD l) (fun _ => True)
  | [], _ => .pure trivial
  | x :: l, h => (h x (by simp)).bind fun b _ => by
    split
    · exact .pure trivial
    · exact keep_seq l fun y hy => h y (by simp [hy])
theorem keep_either {y n : Den} (hy : Keep d y (fun _ => True)) (hn : Keep d n (fun _ => True)) : Keep d (eitherD y n) (fun _ => True) := keep_pop.bind fun x _ => by
  split
  · exact hy
  · exact hn
theorem keep_loopM {round : α → Mn (α ⊕ β)} (h : ∀ a, Pa a → Keep d (round a) (fun x => match x with | .inl a => Pa a | .inr b => Pb b)) : ∀ (k : Nat) (a : α), Pa a → Keep d (loopM round k a) Pb
  | 0, _, _ => fun r hr _ => ⟨hr, rfl, Nat.le_refl _, rfl, fun _ e => by cases e⟩
  | k + 1, a, ha => keep_step.bind fun _ _ => (h a ha).bind fun x hx => by
    cases x with
    | inl a' => exact keep_loopM h k a' hx
    | inr b => exact .pure hx
theorem keep_loop {round : α → Mn (α ⊕ β)} (h : ∀ a, Pa a → Keep d (round a) (fun x => match x with | .inl a => Pa a | .inr b => Pb b)) (a : α) (ha : Pa a) : Keep d (loopD round a) Pb := fun r hr hd =>
  keep_loopM h _ a ha r hr hd
theorem Run.ok.within {r : Run} (hr : r.ok) {x : Int} (hx : Cell64 x) : ({ r with loops := r.loops ++ [x] } : Run).ok := ⟨hr.st, hr.locals, AllCells.append hr.loops (.one hx), hr.small, hr.steps, hr.fuel⟩
theorem keep_inLoop {x : Int} (hx : Cell64 x) {body : Den} (h : Keep d body (fun _ => True)) : Keep (d + 1) (inLoop x body) (fun _ => True) := fun r hr hd => by
  obtain ⟨h1, h2, h3, h4, h5⟩ := h { r with loops := r.loops ++ [x] } (hr.within hx) (by simp; omega)
  unfold inLoop
  cases e : body { r with loops := r.loops ++ [x] } with
  | mk o s =>
    rw [e] at h1 h2 h3 h4 h5
    cases o with
    | ok a =>
      obtain ⟨hl, _⟩ := h5 a rfl
      simp only at h1 h2 h3 h4 hl
      exact ⟨⟨h1.st, h1.locals, AllCells.take h1.loops _, h1.small, h1.steps, h1.fuel⟩, h2, h3, h4, fun _ _ => ⟨by simp [hl], trivial⟩⟩
    | bad x o => exact ⟨h1, h2, h3, h4, fun b hb => by cases hb⟩
theorem keep_doU {body : Den} (h : Keep d body (fun _ => True)) : Keep (d + 1) (doU body) (fun _ => True) := (keep_take 2).bind fun l hl => by
  split
  · exact .pure trivial
  · refine keep_loop (Pa := Cell64) (fun a ha => ?_) _ (hl.2.getD 1)
    refine (keep_inLoop ha h).bind fun b _ => .pure ?_
    split
    · rename_i x e
      split at e
      · cases e
      · cases e; exact wrap64_cell _
    · trivial
theorem keep_doD {body : Den} (h : Keep d body (fun _ => True)) : Keep (d + 1) (doD body) (fun _ => True) := keep_plain (keep_doU h)
theorem keep_until {body : Den} (h : Keep d body (fun _ => True)) : Keep d (untilD body) (fun _ => True) := by
  refine keep_loop (Pa := fun _ => True) (fun a _ => ?_) _ trivial
  refine h.bind fun b _ => ?_
  split
  · exact .pure trivial
  · refine keep_pop.bind fun x _ => .pure ?_
    split <;> trivial
theorem keep_while {x y : Den} (h : Keep d x (fun _ => True)) (k : Keep d y (fun _ => True)) : Keep d (whileD x y) (fun _ => True) := by
  refine keep_loop (Pa := fun _ => True) (fun a _ => ?_) _ trivial
  refine h.bind fun b _ => ?_
  split
  · exact .pure trivial
  · refine keep_pop.bind fun x _ => ?_
    split
    · exact .pure trivial
    · refine k.bind fun b _ => .pure ?_
      split <;> trivial
theorem keep_case : ∀ (l : List Den) (i : Nat), i + l.length ≤ 100000 → (∀ x ∈ l, Keep d x (fun _ => True)) → Keep d (caseD l i) (fun _ => True)
  | [], _, _, _ => .pure trivial
  | [x], _, _, h => (h x (by simp)).bind fun b _ => by
    split
    · exact .pure trivial
    · exact keep_pop.bind fun _ _ => .pure trivial
  | x :: y :: l, i, hi, h => keep_step.bind fun _ _ => (keep_push (by unfold Cell64; simp at hi; omega)).bind fun _ _ => (keep_take 2).bind fun z hz => by
    split
    · exact h x (by simp)
    · exact (keep_push (hz.2.getD 0)).bind fun _ _ => keep_case (y :: l) (i + 1) (by simp at hi ⊢; omega) fun u hu => h u (by simp at hu ⊢; exact .inr hu)
theorem keep_index : Keep d indexM (fun _ => True) := fun r hr hd => by
  unfold indexM
  split
  · exact ⟨hr, rfl, Nat.le_refl _, rfl, fun _ e => by cases e⟩
  · exact keep_push (AllCells.getD hr.loops _) r hr hd
theorem keep_throw : Keep d throwM (fun _ => True) := keep_pop.bind fun x _ => (keep_asks x).mono fun _ _ => trivial
theorem keep_local (n : Nat) : Keep d (localM n) (fun _ => True) := fun r hr hd => keep_push (AllCells.getD hr.locals n) r hr hd
theorem keep_set (n : Nat) : Keep d (setM n) (fun _ => True) := keep_pop.bind fun x hx r hr _ =>
  ⟨⟨hr.st, AllCells.set hr.locals n hx, hr.loops, hr.small, hr.steps, hr.fuel⟩, rfl, Nat.le_refl _, by simp, fun _ _ => ⟨rfl, trivial⟩⟩

theorem keep_getD {l : List Den} (h : ∀ x ∈ l, Keep d x (fun _ => True)) (k : Nat) : Keep d (l.getD k (.pure false)) (fun _ => True) := by
  rw [List.getD]
  cases e : l[k]? with
  | none => exact .pure trivial
  | some x => exact h x (List.mem_of_getElem? e)
theorem ite_keep {p : Prop} [Decidable p] {x y : Mn α} (hx : Keep d x Pa) (hy : Keep d y Pa) : Keep d (if p then x else y) Pa := by
  split
  · exact hx
  · exact hy
theorem keep_kind (v : NodeV) (hv : Cell64 v.n) (kids : List Den) (hk : ∀ x ∈ kids, Keep d x (fun _ => True)) (hl : kids.length ≤ 1000) : Keep (d + 1) (kindD v kids) (fun _ => True) := by
  have hk' : ∀ x ∈ kids, Keep (d + 1) x (fun _ => True) := fun x hx => (hk x hx).deeper (by omega)
  unfold kindD
  refine ite_keep (keep_plain (keep_push hv)) ?_
  refine ite_keep (keep_plain (keep_prim _)) ?_
  refine ite_keep (keep_seq _ hk') ?_
  refine ite_keep (keep_either (keep_getD hk' 0) (keep_getD hk' 1)) ?_
  refine ite_keep (keep_doD (keep_getD hk 0)) ?_
  refine ite_keep (keep_until (keep_getD hk' 0)) ?_
  refine ite_keep (keep_while (keep_getD hk' 0) (keep_getD hk' 1)) ?_
  refine ite_keep (keep_plain keep_index) ?_
  refine ite_keep (.pure trivial) ?_
  refine ite_keep (keep_plain keep_throw) ?_
  refine ite_keep (keep_case _ _ (by omega) hk') ?_
  exact ite_keep (keep_plain (keep_local _)) (keep_plain (keep_set _))

/-- nodes that may be told: their numbers are cells, their kids not too many -/
def NodesOk (l : List NodeV) : Prop := ∀ v ∈ l, Cell64 v.n ∧ v.kids.length ≤ 1000
theorem NodesOk.at_ {l : List NodeV} (h : NodesOk l) (k : Nat) : Cell64 (l.getD k NodeV.none).n ∧ (l.getD k NodeV.none).kids.length ≤ 1000 := by
  rw [List.getD]
  cases e : l[k]? with
  | none => exact ⟨by unfold Cell64 NodeV.none; decide, by decide⟩
  | some x => exact h x (List.mem_of_getElem? e)
theorem keep_node {l : List NodeV} (h : NodesOk l) : ∀ (d k : Nat), Keep d (denN l d k) (fun _ => True)
  | 0, _ => .pure trivial
  | d + 1, k => keep_step.bind fun _ _ => keep_kind _ (h.at_ k).1 _ (fun x hx => by
      obtain ⟨i, _, rfl⟩ := List.mem_map.1 hx
      exact keep_node h d i.toNat) (by rw [List.length_map]; exact (h.at_ k).2)
end Go.Proofs.YtnhhflnanogpjaaGreatDoor
