import Derived.Test.YtdokeddjcpnmiaaGreatDoorKEngLoc
import Derived.Test.YtdokeddjcpnmiaaGreatDoorKRunX
/- An engine goes on as the plain one does, with locals. -/
namespace Go.Proofs.YtdokeddjcpnmiaaGreatDoor
open Go.RowKit
namespace En

/-- how many cells an instruction may take for locals -/
def LocB (m : M) : Prop := ∀ df on a v, m.at_ df on = some (12, a, v) → 0 ≤ a ∧ a ≤ 1000
def RestL (W : List (Int × Int × Int)) (C E : List Int) : Prop := ∀ m : M, m.words = W → m.code = C → m.ends = E → CtlOk m ∧ LocB m
theorem RestL.of {m : M} (h1 : CtlOk m) (h2 : LocB m) : RestL m.words m.code m.ends := by
  intro m' e1 e2 e3
  refine ⟨fun x n v h => h1 x n v ?_, fun df on a v h => h2 df on a v ?_⟩
  · unfold M.word at h ⊢
    rw [e1] at h
    exact h
  · unfold M.at_ M.begin_ at h ⊢
    rw [e2, e3] at h
    exact h
theorem run_lawL {w wB : World} {g : Nat} {p : Lay} {F : List Nat} {m : M} {D : Int → PS → Int × PS} {bad : PS → Prop} (h : EngAt w g p F m) (hf : Fine m) (hF0 : ∀ x ∈ F, wB.heap.size ≤ x) (tB : Touch [] wB w)
    (hDf : FineD PS.ok D) (hDb : FineD bad D) (hst : ∀ S st, bad S → bad { S with st := st }) (good : Int → PS → Prop) (hgood : ∀ n S, good n S → S.st.length ≤ 128 → PS.ok S → DoOk wB D p.s S n) (hbad : ∀ n S, ¬ good n S → bad (D n S).2)
    (hctl : CtlOk m) (hloc : LocB m) (n : Nat) (hn : n ≤ 1000000) {fin : St} {mf : M} (hrun : M.run D n m = (fin, mf)) (hend : ¬ bad mf.S) (hlast : ∀ n, NextOp mf n → good n mf.S) :
    Calls Tryz.prog 20 #[.pointer (some ⟨g, 0, none⟩), .int .i64 n] w (RunEnd w g p F fun s m' => s = fin ∧ m' = mf) := by
  refine run_sem (fun k m' => RestK PS.ok RestL m' ∧ M.run D k m' = (fin, mf)) _ ?_ ?_ h hF0 tB n hn ⟨hf.rest (RestL.of hctl hloc), hrun⟩
  · intro k m1 ⟨hR, hr⟩ W F1 hE hF1 t1
    have hf1 := hR.fine
    obtain ⟨hc1, hl1⟩ := hR.rest m1 rfl rfl rfl
    have hstep : (m1.step D).1.1 = 1 ∧ M.run D k (m1.step D).2 = (fin, mf) ∨ (m1.step D).1.1 ≠ 1 ∧ m1.step D = (fin, mf) := by
      unfold M.run at hr
      by_cases h1 : (m1.step D).1.1 = 1
      · rw [if_neg (fun h => h h1)] at hr
        exact .inl ⟨h1, hr⟩
      · rw [if_pos h1] at hr
        exact .inr ⟨h1, hr⟩
    have hD : ∀ x, NextOp m1 x → DoOk wB D p.s m1.S x := by
      intro x hx
      by_cases hg : good x m1.S
      · exact hgood x _ hg hf1.st hf1.ok
      · exfalso
        by_cases h67 : m1.nx = 0 ∧ ((topF m1.fr).k = 6 ∨ (topF m1.fr).k = 7)
        · have e : m1.step D = ((3, (topF m1.fr).k, 0), m1) := by
            unfold M.step
            rw [if_neg (by rw [h67.1]; simp), if_pos h67.2]
          rcases hstep with ⟨hs, _⟩ | ⟨_, hs⟩
          · rw [e] at hs
            simp at hs
          · rw [e] at hs
            injection hs with _ hs
            rw [hs] at hx hg
            exact hg (hlast x hx)
        · have hb := next_bad hDf hst hf1 hx (hbad x _ hg) h67
          rcases hstep with ⟨_, hs⟩ | ⟨_, hs⟩
          · have := run_bad hDb k _ hb
            rw [hs] at this
            exact hend this
          · rw [hs] at hb
            exact hend hb.ok
    have hL : LocOk D g p F1 m1 := locOk_all hf1 fun a v ha => hl1 _ _ _ _ ha
    refine (Step_sem hE hf1 hF1 t1 hDf hD hc1 hL).mono ?_
    rintro e w' ⟨he, hK⟩
    refine ⟨_, _, he, hK, ?_⟩
    rcases hstep with ⟨h1, h2⟩ | ⟨h1, h2⟩
    · exact .inl ⟨h1, hR.step hDf, h2⟩
    · refine .inr ⟨h1, ?_⟩
      rw [h2]
      exact ⟨rfl, rfl⟩
  · intro m1 ⟨_, hr⟩
    have e : M.run D 0 m1 = (ran, m1) := rfl
    rw [e] at hr
    injection hr with h1 h2
    exact ⟨h1, h2⟩
end En
end Go.Proofs.YtdokeddjcpnmiaaGreatDoor
