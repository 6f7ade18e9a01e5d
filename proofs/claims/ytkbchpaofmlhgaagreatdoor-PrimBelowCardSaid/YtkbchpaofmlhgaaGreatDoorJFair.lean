import Derived.Test.YtkbchpaofmlhgaaGreatDoorJPDoC
/- What all of prim's operations have in common: no error is one of a call itself; with an error nothing changes; what is told hangs on nothing but the cells that are taken, and what the state holds beside its stack. -/
namespace Go.Proofs.YtkbchpaofmlhgaaGreatDoor
open Go.RowKit

/-- two states hold the same, beside their stacks -/
structure Alike (S T : PS) : Prop where
  n : S.n = T.n
  bs : S.bs = T.bs
  here : S.here = T.here
  out : S.out = T.out
  made : S.made = T.made
abbrev Act := List Int → PS → (List Int × Int) × PS
structure Fair (n : Nat) (act : Act) : Prop where
  err : ∀ l S, (act l S).1.2 ≠ 1
  keep : ∀ l S, (act l S).1.2 ≠ 0 → (act l S).2.bs = S.bs ∧ (act l S).2.here = S.here ∧ (act l S).2.out = S.out
  st : ∀ l S, (act l S).2.st = S.st
  few : ∀ l S, (act l S).1.1.length ≤ 2
  wide : (∀ l S, (act l S).1.1.length ≤ n) ∨ (∀ l S, (act l S).2 = S)
  size : ∀ l S, (act l S).2.n = S.n
def Likes (act : Act) : Prop := ∀ l (S T : PS), Alike S T → (act l S).1 = (act l T).1 ∧ (act l S).2.out = (act l T).2.out
/-- an act that changes nothing, and tells of the cells alone -/
theorem fair_pure (n : Nat) (f : List Int → List Int) (e : List Int → Int) (he : ∀ l, e l ≠ 1) (hf : ∀ l, (f l).length ≤ 2) : Fair n (fun l S => ((f l, e l), S)) ∧ Likes (fun l S => ((f l, e l), S)) :=
  ⟨⟨fun l _ => he l, fun _ _ _ => ⟨rfl, rfl, rfl⟩, fun _ _ => rfl, fun l _ => hf l, .inr (fun _ _ => rfl), fun _ _ => rfl⟩, fun _ _ _ h => ⟨rfl, h.out⟩⟩
/-- an act that asks the memory -/
theorem fair_ask (n : Nat) (f : List Int → Nat → List Int → Nat → List Int) (e : List Int → Nat → List Int → Nat → Int) (he : ∀ l n bs k, e l n bs k ≠ 1) (hf : ∀ l n bs k, (f l n bs k).length ≤ 2) :
    Fair n (fun l S => ((f l S.n S.bs S.here, e l S.n S.bs S.here), S)) ∧ Likes (fun l S => ((f l S.n S.bs S.here, e l S.n S.bs S.here), S)) :=
  ⟨⟨fun l _ => he _ _ _ _, fun _ _ _ => ⟨rfl, rfl, rfl⟩, fun _ _ => rfl, fun l _ => hf _ _ _ _, .inr (fun _ _ => rfl), fun _ _ => rfl⟩, fun _ S T h => ⟨by simp only [h.n, h.bs, h.here], h.out⟩⟩
/-- an act of the memory: what it tells, and what it makes of the bytes -/
theorem fair_mem (n : Nat) (e : List Int → Nat → List Int → Nat → Int) (b : List Int → Nat → List Int → Nat → List Int) (h : List Int → Nat → List Int → Nat → Nat)
    (he : ∀ l n bs k, e l n bs k ≠ 1) (hk : ∀ l n bs k, e l n bs k ≠ 0 → b l n bs k = bs ∧ h l n bs k = k) :
    Fair n (fun l S => (([], e l S.n S.bs S.here), { S with bs := b l S.n S.bs S.here, here := h l S.n S.bs S.here })) ∧ Likes (fun l S => (([], e l S.n S.bs S.here), { S with bs := b l S.n S.bs S.here, here := h l S.n S.bs S.here })) :=
  ⟨⟨fun l S => he _ _ _ _, fun l S hne => ⟨(hk _ _ _ _ hne).1, (hk _ _ _ _ hne).2, rfl⟩, fun _ _ => rfl, fun _ _ => Nat.zero_le _, .inl (fun _ _ => Nat.zero_le _), fun _ _ => rfl⟩, fun l S T hA => ⟨by simp only [hA.n, hA.bs, hA.here], hA.out⟩⟩
/-- what is done by a number: any state that was made behind a world, any cells -/
def OpAny (w0 : World) (op : Int) : Prop := ∃ (n : Nat) (pre : List Int → PS → Prop) (act : Act), n ≤ 4 ∧ Fair n act ∧ (op ≠ 99 → Likes act) ∧ (∀ l S, l.length = n → S.n = 1024 → S.st.length ≤ 128 → (∀ x ∈ S.st, Cell64 x) → (∀ x ∈ l, Cell64 x) → pre l S) ∧
  ∀ (w : World) (s : Nat) (F : List Nat) (S : PS), StateAt w s F S → (∀ x ∈ F, w0.heap.size ≤ x) → Touch [] w0 w → S.ok → S.st.length ≤ 128 → (n ≤ S.st.length → pre (S.st.drop (S.st.length - n)) { S with st := S.st.take (S.st.length - n) }) →
    Calls Tryz.prog 14 #[.pointer (some ⟨s, 0, none⟩), .int .i64 op] w fun e w' => ∃ F', e = .returned (.int .i64 (doP n act S).1) ∧ StateAt w' s F' (doP n act S).2 ∧ Touch F w w' ∧ Sub w F F'
theorem OpSem.any {w0 : World} {op : Int} {n : Nat} {pre : List Int → PS → Prop} {act : Act} (h : OpSem op n pre act) (h1 : 43 ≤ op) (h2 : op ≤ 107) (h3 : op < 61 ∨ 70 < op) (hn : n ≤ 4) (hf : Fair n act) (hL : op ≠ 99 → Likes act)
    (hp : ∀ l S, l.length = n → S.n = 1024 → (∀ x ∈ l, Cell64 x) → pre l S) : OpAny w0 op :=
  ⟨n, pre, act, hn, hf, hL, fun l S h1 h2 _ _ h5 => hp l S h1 h2 h5, fun w s F S hS _ _ hok hst hpre => Do_sem op n pre act h h1 h2 h3 hn w s F S hS hok hst hpre⟩
theorem OpSemC.any1 {w0 : World} {op : Int} {n : Nat} {pre : List Int → PS → Prop} {act : Act} (h : OpSemC op n pre act) (h1 : 1 ≤ op) (h2 : op ≤ 27) (hn : n ≤ 4) (hf : Fair n act) (hL : op ≠ 99 → Likes act)
    (hp : ∀ l S, l.length = n → S.n = 1024 → (∀ x ∈ l, Cell64 x) → pre l S) : OpAny w0 op :=
  ⟨n, pre, act, hn, hf, hL, fun l S h1 h2 _ _ h5 => hp l S h1 h2 h5, fun w s F S hS _ _ hok hst hpre => Do_semC op n pre act h h1 h2 hn w s F S hS hok hst hpre⟩
theorem OpSemC.anyR {w0 : World} {op : Int} {n : Nat} {pre : List Int → PS → Prop} {act : Act} (h : OpSemC op n pre act) (h1 : 61 ≤ op) (h2 : op ≤ 70) (hn : n ≤ 4) (hf : Fair n act) (hL : op ≠ 99 → Likes act)
    (hp : ∀ l S, l.length = n → S.n = 1024 → (∀ x ∈ l, Cell64 x) → pre l S) : OpAny w0 op :=
  ⟨n, pre, act, hn, hf, hL, fun l S h1 h2 _ _ h5 => hp l S h1 h2 h5, fun w s F S hS _ _ hok hst hpre => Do_semR op n pre act h h1 h2 hn w s F S hS hok hst hpre⟩

section
variable {n : Nat} {act : Act} {S T : PS}
theorem doP_err (h : Fair n act) : (doP n act S).1 ≠ 1 := by
  have he := h.err (S.st.drop (S.st.length - n)) { S with st := S.st.take (S.st.length - n) }
  unfold doP
  split
  · show (-4 : Int) ≠ 1
    decide
  · simp only []
    split
    · split
      · show (0 : Int) ≠ 1
        decide
      · show (-3 : Int) ≠ 1
        decide
    · exact he
/-- with an error nothing changes -/
theorem doP_keep (h : Fair n act) (hd : (doP n act S).1 ≠ 0) (hst : S.st.length ≤ 128) : (doP n act S).2.st = S.st ∧ (doP n act S).2.bs = S.bs ∧ (doP n act S).2.here = S.here ∧ (doP n act S).2.out = S.out := by
  have hk := h.keep (S.st.drop (S.st.length - n)) { S with st := S.st.take (S.st.length - n) }
  have hs := h.st (S.st.drop (S.st.length - n)) { S with st := S.st.take (S.st.length - n) }
  have hw : (act (S.st.drop (S.st.length - n)) { S with st := S.st.take (S.st.length - n) }).1.1.length ≤ n ∨ (act (S.st.drop (S.st.length - n)) { S with st := S.st.take (S.st.length - n) }).2 = { S with st := S.st.take (S.st.length - n) } := by
    rcases h.wide with h | h
    · exact .inl (h _ _)
    · exact .inr (h _ _)
  unfold doP at hd ⊢
  by_cases h1 : S.st.length < n
  · rw [if_pos h1]
    exact ⟨rfl, rfl, rfl, rfl⟩
  · rw [if_neg h1] at hd ⊢
    simp only [] at hd ⊢
    generalize act (S.st.drop (S.st.length - n)) { S with st := S.st.take (S.st.length - n) } = r at *
    by_cases h2 : r.1.2 = 0
    · rw [if_pos h2] at hd ⊢
      by_cases h3 : r.2.st.length + r.1.1.length ≤ 128
      · rw [if_pos h3] at hd
        exact absurd rfl hd
      · rw [if_neg h3]
        rcases hw with hw | hw
        · exfalso
          rw [hs] at h3
          simp only [List.length_take] at h3
          omega
        · rw [hw]
          exact ⟨rfl, rfl, rfl, rfl⟩
    · rw [if_neg h2]
      obtain ⟨k1, k2, k3⟩ := hk h2
      exact ⟨rfl, k1, k2, k3⟩
theorem doP_size (h : Fair n act) : (doP n act S).2.n = S.n := by
  have hz := h.size (S.st.drop (S.st.length - n)) { S with st := S.st.take (S.st.length - n) }
  unfold doP
  split
  · rfl
  · simp only []
    split
    · split
      · exact hz
      · exact hz
    · exact hz
/-- what is below the cells that are taken stays -/
theorem doP_below (h : Fair n act) (hL : Likes act) (hA : Alike S T) {x y : List Int} (hS : S.st = x ++ y) (hT : T.st = y) (hl : x.length + y.length ≤ 120) (hd : (doP n act T).1 ≠ -4) :
    (doP n act S).1 = (doP n act T).1 ∧ (doP n act S).2.st = x ++ (doP n act T).2.st ∧ (doP n act S).2.out = (doP n act T).2.out := by
  have hyn : ¬ y.length < n := fun hlt => hd (by unfold doP; rw [hT, if_pos hlt])
  have e0 : S.st.length = x.length + y.length := by rw [hS, List.length_append]
  have e1 : S.st.drop (S.st.length - n) = y.drop (y.length - n) := by
    rw [e0, hS, List.drop_append, List.drop_eq_nil_of_le (by omega), List.nil_append, show x.length + y.length - n - x.length = y.length - n by omega]
  have e2 : S.st.take (S.st.length - n) = x ++ y.take (y.length - n) := by
    rw [e0, hS, List.take_append, List.take_of_length_le (by omega), show x.length + y.length - n - x.length = y.length - n by omega]
  have hl1 := hL (y.drop (y.length - n)) { S with st := x ++ y.take (y.length - n) } { T with st := y.take (y.length - n) } ⟨hA.n, hA.bs, hA.here, hA.out, hA.made⟩
  have hs1 := h.st (y.drop (y.length - n)) { S with st := x ++ y.take (y.length - n) }
  have hs2 := h.st (y.drop (y.length - n)) { T with st := y.take (y.length - n) }
  have hf := h.few (y.drop (y.length - n)) { T with st := y.take (y.length - n) }
  unfold doP
  rw [e1, e2, e0, hT, if_neg (by omega), if_neg hyn]
  simp only []
  generalize act (y.drop (y.length - n)) { S with st := x ++ y.take (y.length - n) } = r at *
  generalize act (y.drop (y.length - n)) { T with st := y.take (y.length - n) } = q at *
  obtain ⟨k1, k2⟩ := hl1
  rw [k1]
  by_cases h2 : q.1.2 = 0
  · rw [if_pos h2, if_pos h2, if_pos (by rw [hs1]; simp only [List.length_append, List.length_take]; omega), if_pos (by rw [hs2]; simp only [List.length_take]; omega)]
    refine ⟨rfl, ?_, k2⟩
    show r.2.st ++ q.1.1 = x ++ (q.2.st ++ q.1.1)
    rw [hs1, hs2, List.append_assoc]
  · rw [if_neg h2, if_neg h2]
    exact ⟨rfl, hS, k2⟩
end
end Go.Proofs.YtkbchpaofmlhgaaGreatDoor
