import Derived.Test.YtkbchpaofmlhgaaGreatDoorJOpAll2
import Derived.Test.YtkbchpaofmlhgaaGreatDoorJFindD
import Derived.Test.YtkbchpaofmlhgaaGreatDoorJLiveA
/- prim's Do, at any number: how it goes; what is the same with an error; what is below. -/
namespace Go.Proofs.YtkbchpaofmlhgaaGreatDoor
open Go.RowKit

/-- is there something that is done by a number? -/
def knownOp (op : Int) : Prop := 1 ≤ op ∧ op ≤ 107
instance (op : Int) : Decidable (knownOp op) := by unfold knownOp; infer_instance
/-- a state as it may be -/
structure Fit (S : PS) : Prop where
  ok : S.ok
  n : S.n = 1024
  len : S.st.length ≤ 128
  cells : AllC S.st
/-- how what is done goes: its error, and the state then -/
def Goes2 (w : World) (s : Nat) (F : List Nat) (op r : Int) (T : PS) : Prop :=
  Calls Tryz.prog 14 #[.pointer (some ⟨s, 0, none⟩), .int .i64 op] w fun e w' => ∃ F', e = .returned (.int .i64 r) ∧ StateAt w' s F' T ∧ Touch F w w' ∧ Sub w F F'
theorem allC_drop {l : List Int} (h : AllC l) (k : Nat) : AllC (l.drop k) := fun x hx => h x (List.mem_of_mem_drop hx)
theorem allC_take {l : List Int} (h : AllC l) (k : Nat) : AllC (l.take k) := fun x hx => h x (List.mem_of_mem_take hx)
theorem goes_op {w0 w : World} {s : Nat} {F : List Nat} {S : PS} {op : Int} {n : Nat} {pre : List Int → PS → Prop} {act : Act} (hp : ∀ l S, l.length = n → S.n = 1024 → S.st.length ≤ 128 → (∀ x ∈ S.st, Cell64 x) → (∀ x ∈ l, Cell64 x) → pre l S)
    (hD : ∀ (w : World) (s : Nat) (F : List Nat) (S : PS), StateAt w s F S → (∀ x ∈ F, w0.heap.size ≤ x) → Touch [] w0 w → S.ok → S.st.length ≤ 128 → (n ≤ S.st.length → pre (S.st.drop (S.st.length - n)) { S with st := S.st.take (S.st.length - n) }) →
      Calls Tryz.prog 14 #[.pointer (some ⟨s, 0, none⟩), .int .i64 op] w fun e w' => ∃ F', e = .returned (.int .i64 (doP n act S).1) ∧ StateAt w' s F' (doP n act S).2 ∧ Touch F w w' ∧ Sub w F F')
    (hS : StateAt w s F S) (hF : ∀ x ∈ F, w0.heap.size ≤ x) (ht : Touch [] w0 w) (h : Fit S) : Goes2 w s F op (doP n act S).1 (doP n act S).2 :=
  hD w s F S hS hF ht h.ok h.len (fun hn => hp _ _ (by rw [List.length_drop]; omega) h.n (by show (S.st.take _).length ≤ 128; rw [List.length_take]; have := h.len; omega) (allC_take h.cells _) (allC_drop h.cells _))
/-- of any number, and any state: how it goes -/
theorem do_tot {w0 w : World} {s : Nat} {F : List Nat} {S : PS} (hT : Tabs w0) (hS : StateAt w s F S) (hF : ∀ x ∈ F, w0.heap.size ≤ x) (ht : Touch [] w0 w) (h : Fit S) (op : Int) :
    ∃ r T, Goes2 w s F op r T ∧ ((r = 1) ↔ ¬ knownOp op) ∧ (r ≠ 0 → T.st = S.st ∧ T.bs = S.bs ∧ T.here = S.here ∧ T.out = S.out) ∧ T.n = S.n := by
  by_cases hk : knownOp op
  · by_cases hs : 28 ≤ op ∧ op ≤ 42
    · refine ⟨(doF op S.st).1, { S with st := (doF op S.st).2 }, ?_, ?_, fun hr => ?_, rfl⟩
      · refine (st_doS hS hs.1 hs.2 fun FS hk => Do_any w S.k FS S.st hk op hs.1 hs.2 h.len h.cells).mono ?_
        rintro _ w' ⟨rfl, F', h1, h2, h3⟩
        exact ⟨F', rfl, h1, h2, h3⟩
      · refine ⟨fun he => ?_, fun he => absurd hk he⟩
        rcases doF_err op S.st with h | ⟨h | h, _⟩ <;> omega
      · rcases doF_err op S.st with h | ⟨_, h⟩
        · exact absurd h hr
        · exact ⟨h, rfl, rfl, rfl⟩
    · obtain ⟨n, pre, act, hn, hf, hL, hp, hD⟩ := op_any w0 hT op (by unfold knownOp at hk; omega)
      exact ⟨_, _, goes_op hp hD hS hF ht h, ⟨fun he => absurd he (doP_err hf), fun he => absurd hk he⟩, fun hr => doP_keep hf hr h.len, doP_size hf⟩
  · refine ⟨1, S, ?_, ⟨fun _ => hk, fun _ => rfl⟩, fun _ => ⟨rfl, rfl, rfl, rfl⟩, rfl⟩
    refine (Do_none w s S.m op (by unfold knownOp at hk; omega) hS.two).mono ?_
    rintro _ w' ⟨rfl, t⟩
    exact ⟨F, rfl, hS.quiet t, t.mono (by simp), Sub.refl _ _⟩
/-- of two states that hold the same but for cells below -/
theorem do_below {w0 : World} {S T : PS} {x y : List Int} (hT : Tabs w0) (hS : S.st = x ++ y) (hy : T.st = y) (hA : Alike S T) (h1 : Fit S) (h2 : Fit T) (hl : x.length + y.length ≤ 120) (op : Int) (h42 : op ≠ 42) (h99 : op ≠ 99) :
    ∃ r S' q T', (∀ w s F, StateAt w s F S → (∀ x ∈ F, w0.heap.size ≤ x) → Touch [] w0 w → Goes2 w s F op r S') ∧ (∀ w s F, StateAt w s F T → (∀ x ∈ F, w0.heap.size ≤ x) → Touch [] w0 w → Goes2 w s F op q T') ∧
      (q ≠ -4 → r = q ∧ S'.st = x ++ T'.st ∧ S'.out = T'.out) := by
  by_cases hk : knownOp op
  · by_cases hs : 28 ≤ op ∧ op ≤ 42
    · have key : ∀ (U : PS), Fit U → ∀ w s F, StateAt w s F U → (∀ x ∈ F, w0.heap.size ≤ x) → Touch [] w0 w → Goes2 w s F op (doF op U.st).1 { U with st := (doF op U.st).2 } := by
        intro U hU w s F hSt _ _
        refine (st_doS hSt hs.1 hs.2 fun FS hk => Do_any w U.k FS U.st hk op hs.1 hs.2 hU.len hU.cells).mono ?_
        rintro _ w' ⟨rfl, F', h1, h2, h3⟩
        exact ⟨F', rfl, h1, h2, h3⟩
      refine ⟨_, _, _, _, key S h1, key T h2, fun hq => ?_⟩
      have hb := doF_below op x y hs.1 (by omega) (by rw [← hy]; exact h2.cells) hl (by rw [← hy]; exact hq)
      rw [hS, hy, hb]
      exact ⟨rfl, rfl, hA.out⟩
    · obtain ⟨n, pre, act, hn, hf, hL, hp, hD⟩ := op_any w0 hT op (by unfold knownOp at hk; omega)
      exact ⟨_, _, _, _, fun w s F hSt hF ht => goes_op hp hD hSt hF ht h1, fun w s F hSt hF ht => goes_op hp hD hSt hF ht h2, fun hq => doP_below hf (hL h99) hA hS hy hl hq⟩
  · have key : ∀ (U : PS), ∀ w s F, StateAt w s F U → (∀ x ∈ F, w0.heap.size ≤ x) → Touch [] w0 w → Goes2 w s F op 1 U := by
      intro U w s F hSt _ _
      refine (Do_none w s U.m op (by unfold knownOp at hk; omega) hSt.two).mono ?_
      rintro _ w' ⟨rfl, t⟩
      exact ⟨F, rfl, hSt.quiet t, t.mono (by simp), Sub.refl _ _⟩
    exact ⟨_, _, _, _, key S, key T, fun _ => ⟨rfl, by rw [hS, hy], hA.out⟩⟩
end Go.Proofs.YtkbchpaofmlhgaaGreatDoor
