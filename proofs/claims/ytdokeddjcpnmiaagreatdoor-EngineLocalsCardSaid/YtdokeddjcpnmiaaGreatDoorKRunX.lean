import Derived.Test.YtdokeddjcpnmiaaGreatDoorJEnFine
import Derived.Test.YtdokeddjcpnmiaaGreatDoorKEngK
/- What stays at each step of the engine: words and code (printed by wip/enrest.py out of EnFine). -/
namespace Go.Proofs.YtdokeddjcpnmiaaGreatDoor
open Go.RowKit
namespace En

structure RestK (K : PS → Prop) (R : List (Int × Int × Int) → List Int → List Int → Prop) (m : M) : Prop where
  st : m.S.st.length ≤ 128
  fr : m.fr.length ≤ 128
  ins : m.I.outer.length ≤ 8
  text : m.I.cur.text.size ≤ 1000 ∧ ∀ o ∈ m.I.outer, o.text.size ≤ 1000
  words : m.words.length ≤ 1000000
  code : m.code.length ≤ 10000000
  ends : ∀ x ∈ m.ends, 0 ≤ x ∧ x ≤ m.code.length
  elen : m.ends.length ≤ 1000000
  ok : K m.S
  kk : ∀ S st, K S → K { S with st := st }
  rest : R m.words m.code m.ends
section
variable {K : PS → Prop} {R : List (Int × Int × Int) → List Int → List Int → Prop}
theorem RestK.turn {m m' : M} (h : RestK K R m) (s : m'.S.st.length ≤ 128) (so : K m'.S) (f : m'.fr.length ≤ 128) (e1 : m'.words = m.words) (e2 : m'.code = m.code) (e3 : m'.ends = m.ends) (e4 : m'.I = m.I) : RestK K R m' := by
  obtain ⟨_, _, a3, a4, a5, a6, a7, a8, _, a10, a11⟩ := h
  exact ⟨s, f, by rw [e4]; exact a3, by rw [e4]; exact a4, by rw [e1]; exact a5, by rw [e2]; exact a6, by rw [e2, e3]; exact a7, by rw [e3]; exact a8, so, a10, by rw [e1, e2, e3]; exact a11⟩
theorem RestK.at_ {m : M} (h : RestK K R m) (d o n : Int) : RestK K R { m with df := d, on := o, nx := n } := h.turn h.st h.ok h.fr rfl rfl rfl rfl
theorem RestK.frs {m : M} (h : RestK K R m) {L : List Fr} (hl : L.length ≤ 128) : RestK K R { m with fr := L } := h.turn h.st h.ok hl rfl rfl rfl rfl
theorem RestK.stk {m : M} (h : RestK K R m) {st : List Int} (hl : st.length ≤ 128) : RestK K R { m with S := { m.S with st := st } } := h.turn hl (h.kk _ _ h.ok) h.fr rfl rfl rfl rfl
theorem RestK.push {m : M} (h : RestK K R m) (x : Int) : RestK K R (m.push x).2 := by
  obtain ⟨p1, p2⟩ := pushS_fine h.kk h.st h.ok x
  exact h.turn p1 p2 h.fr rfl rfl rfl rfl
theorem RestK.pushFr {m : M} (h : RestK K R m) (f : Fr) : RestK K R (m.pushFr f).2 := by
  unfold M.pushFr
  split
  · exact h.frs (by simp; omega)
  · exact h
theorem RestK.throw {m : M} (h : RestK K R m) (e : Int) : RestK K R (m.throw e).2 := by
  cases hc : catchF m.fr with
  | none =>
    rw [throw_none hc]
    exact h.turn (by simp) (h.kk _ _ h.ok) (by simp) rfl rfl rfl rfl
  | some y =>
    obtain ⟨f, r⟩ := y
    rw [throw_some hc, back_eq]
    have hl := catchF_len _ _ _ hc
    have hf := h.fr
    obtain ⟨p1, p2⟩ := pushS_fine h.kk (S := { m.S with st := stCut f.a m.S.st }) (stCut_len _ _) (h.kk _ _ h.ok) e
    have ht := cutAll_text h.text f.b.toNat
    have hi := Nat.le_trans (cutAll_len m.I f.b.toNat) h.ins
    exact ⟨p1, by show r.length ≤ 128; omega, ite_ins (P := fun I => I.outer.length ≤ 8) hi hi, ite_ins (P := fun I => I.cur.text.size ≤ 1000 ∧ ∀ o ∈ I.outer, o.text.size ≤ 1000) ht ht, h.words, h.code, h.ends, h.elen, p2, h.kk, h.rest⟩
theorem RestK.done {r : Int × M} (h : RestK K R r.2) : RestK K R (M.done r).2 := by
  unfold M.done
  split
  · exact h
  · exact h.throw _
theorem RestK.with_ {m : M} (h : RestK K R m) (n : Int) (do_ : List Int → M → Int × M) (hd : ∀ l m', RestK K R m' → RestK K R (do_ l m').2) : RestK K R (m.with_ n do_).2 := by
  unfold M.with_
  split
  · exact h.throw _
  · split
    · exact h.throw _
    · dsimp only
      have hs := h.st
      have hg := hd (m.S.st.drop (m.S.st.length - n.toNat)) { m with S := { m.S with st := m.S.st.take (m.S.st.length - n.toNat) } } (h.stk (by rw [List.length_take]; omega))
      generalize do_ (m.S.st.drop (m.S.st.length - n.toNat)) { m with S := { m.S with st := m.S.st.take (m.S.st.length - n.toNat) } } = r at hg
      split
      · exact hg
      · refine RestK.throw ?_ _
        split
        · exact hg.stk (by rw [List.length_append]; omega)
        · exact hg
theorem RestK.call {m : M} (h : RestK K R m) (n : Int) : RestK K R (m.call n).2 := by
  unfold M.call
  split
  · exact h
  · dsimp only
    split
    · exact (h.pushFr _).at_ n 0 _
    · exact h.pushFr _
theorem RestK.leave {m : M} (h : RestK K R m) : RestK K R m.leave.2 := by
  unfold M.leave M.pop
  have := h.fr
  by_cases hk : m.fr ≠ [] ∧ (topF m.fr).k = 3
  · rw [if_pos hk]; exact h.frs (drop_le _ this)
  · rw [if_neg hk]; exact h
theorem RestK.named {m : M} (h : RestK K R m) (x : Int) : RestK K R (m.named x).2 := by
  unfold M.named
  split
  · exact h.at_ _ _ x
  · exact h
theorem RestK.index {m : M} (h : RestK K R m) (n : Nat) : RestK K R (m.index n).2 := by
  unfold M.index
  split
  · exact (h.push _).done
  · exact h.throw _
theorem RestK.control {m : M} (h : RestK K R m) (n : Int) : RestK K R (m.control n).2 := by
  have hf := h.fr
  have hs := h.st
  unfold M.control
  by_cases h1 : n = 1
  · rw [if_pos h1]
    exact h.with_ 1 _ (fun l m' h' => h'.pushFr _)
  rw [if_neg h1]
  by_cases h2 : n = 2
  · rw [if_pos h2]
    unfold M.pop
    by_cases hk : m.fr ≠ [] ∧ (topF m.fr).k = 2
    · rw [if_pos hk]
      dsimp only
      have h1 := (h.frs (drop_le _ hf)).push (topF m.fr).x
      split
      · exact h1.done
      · exact RestK.done (r := (_, _)) (h1.pushFr _)
    · rw [if_neg hk]
      exact h.throw _
  rw [if_neg h2]
  by_cases h3 : n = 3
  · rw [if_pos h3]
    split
    · exact (h.push _).done
    · exact h.throw _
  rw [if_neg h3]
  by_cases h4 : n = 4
  · rw [if_pos h4]
    exact h.index 0
  rw [if_neg h4]
  by_cases h5 : n = 5
  · rw [if_pos h5]
    exact h.index 1
  rw [if_neg h5]
  by_cases h6 : n = 6
  · rw [if_pos h6]
    exact h.leave.done
  rw [if_neg h6]
  by_cases h7 : n = 7
  · rw [if_pos h7]
    exact h.with_ 1 _ (fun l m' h' => h'.named _)
  rw [if_neg h7]
  by_cases h8 : n = 8
  · rw [if_pos h8]
    refine h.with_ 1 _ (fun l m' h' => ?_)
    dsimp only
    have h1 := h'.named (l.getD 0 0)
    have e1 : (m'.named (l.getD 0 0)).2.fr = m'.fr := by unfold M.named; split <;> rfl
    generalize m'.named (l.getD 0 0) = r at h1 e1
    split
    · exact h1
    · split
      · exact h1.at_ _ _ 0
      · exact (h1.frs (L := r.2.fr ++ [⟨1, m'.df, m'.on, 0, 0, []⟩, ⟨5, m'.S.st.length, m'.I.outer.length, m'.I.cur.on, 0, []⟩]) (by rw [e1, List.length_append]; simp; omega)).at_ 0 0 _
  · rw [if_neg h8]
    split
    · exact h.throw _
    · exact RestK.done (r := (_, _)) (h.stk (drop_le _ hs))
theorem RestK.deferred {m : M} (h : RestK K R m) (n : Int) : RestK K R (m.deferred n).2 := by
  unfold M.deferred
  split
  · exact h.throw _
  · split
    · exact h.at_ _ _ n
    · exact h.throw _
theorem RestK.execute {D : Int → PS → Int × PS} (hD : FineD K D) {m : M} (h : RestK K R m) (xt : Int) : RestK K R (m.execute D xt).2 := by
  unfold M.execute
  split
  · exact h.throw _
  · rename_i k n w _
    obtain ⟨d1, d2⟩ := hD n m.S h.st h.ok
    split
    · exact RestK.done (r := (_, _)) (h.turn (m' := { m with S := (D n m.S).2 }) d1 d2 h.fr rfl rfl rfl rfl)
    split
    · exact (h.call n).done
    split
    · exact (h.push w).done
    split
    · dsimp only
      split
      · exact h.throw _
      · have hq := (h.push w).call n
        generalize (m.push w).2.call n = q at hq
        split
        · exact hq
        · exact (hq.stk (drop_le _ hq.st)).throw _
    split
    · exact h.deferred n
    split
    · exact h.control n
    · exact h
theorem RestK.returns {m : M} (h : RestK K R m) : RestK K R m.returns.2 := by
  have hf := h.fr
  unfold M.returns
  split
  · exact h
  split
  · exact (h.frs (drop_le _ hf)).at_ _ _ _
  split
  · dsimp only
    have hp := h.push 0
    split
    · exact hp.frs (drop_le _ hp.fr)
    · exact hp.done
  · exact h.throw _
theorem RestK.jump {m : M} (h : RestK K R m) (b : Bool) (n : Int) : RestK K R (m.jump b n).2 := by
  unfold M.jump
  split
  · exact h.at_ _ n _
  · exact h
theorem RestK.loop {m : M} (h : RestK K R m) (b n : Int) : RestK K R (m.loop b n).2 := by
  have hf := h.fr
  unfold M.loop
  split
  · exact h
  · rename_i hk
    dsimp only
    split
    · exact h.frs (drop_le _ hf)
    · have h0 : m.fr ≠ [] := fun e => hk (.inl e)
      have : 0 < m.fr.length := List.length_pos_iff.2 h0
      exact (h.frs (L := m.fr.dropLast ++ [{ topF m.fr with x := wrap64 ((topF m.fr).x + b) }]) (by simp; omega)).at_ _ n _
theorem RestK.begins {m : M} (h : RestK K R m) (l : List Int) : RestK K R (m.begins l).2 := h.pushFr _
theorem RestK.does {D : Int → PS → Int × PS} (hD : FineD K D) {m : M} (h : RestK K R m) (op a w : Int) : RestK K R (m.does D op a w).2 := by
  have hf := h.fr
  unfold M.does
  by_cases h1 : op = 1
  · rw [if_pos h1]
    exact (h.push w).done
  rw [if_neg h1]
  by_cases h2 : op = 2
  · rw [if_pos h2]
    exact h.execute hD a
  rw [if_neg h2]
  by_cases h3 : op = 3
  · rw [if_pos h3]
    exact (h.jump true a).done
  rw [if_neg h3]
  by_cases h4 : op = 4
  · rw [if_pos h4]
    exact h.with_ 1 _ (fun l m' h' => h'.jump _ _)
  rw [if_neg h4]
  by_cases h5 : op = 5
  · rw [if_pos h5]
    exact h.with_ 2 _ (fun l m' h' => h'.begins _)
  rw [if_neg h5]
  by_cases h6 : op = 6
  · rw [if_pos h6]
    refine h.with_ 2 _ (fun l m' h' => ?_)
    split
    · exact h'.jump _ _
    · exact h'.begins _
  rw [if_neg h6]
  by_cases h7 : op = 7
  · rw [if_pos h7]
    exact (h.loop 1 a).done
  rw [if_neg h7]
  by_cases h8 : op = 8
  · rw [if_pos h8]
    exact h.with_ 1 _ (fun l m' h' => h'.loop _ _)
  rw [if_neg h8]
  by_cases h9 : op = 9
  · rw [if_pos h9]
    refine RestK.done (r := (_, _)) ?_
    dsimp only
    split
    · exact h.leave.at_ _ a _
    · exact h
  rw [if_neg h9]
  by_cases h10 : op = 10
  · rw [if_pos h10]
    refine h.with_ 2 _ (fun l m' h' => ?_)
    split
    · exact h'
    · exact (h'.push _).jump _ _
  rw [if_neg h10]
  by_cases h11 : op = 11
  · rw [if_pos h11]
    exact h.with_ 1 _ (fun l m' h' => h')
  rw [if_neg h11]
  by_cases h12 : op = 12
  · rw [if_pos h12]
    exact h.with_ a _ (fun l m' h' => h'.pushFr _)
  rw [if_neg h12]
  by_cases h13 : op = 13
  · rw [if_pos h13]
    split
    · exact h.throw _
    · split
      · exact (h.push _).done
      · exact h.throw _
  rw [if_neg h13]
  by_cases h14 : op = 14
  · rw [if_pos h14]
    refine h.with_ 1 _ (fun l m' h' => ?_)
    dsimp only
    split
    · exact h'
    · split
      · exact h'.frs (by rw [List.length_set]; exact h'.fr)
      · exact h'
  · rw [if_neg h14]
    refine (h.frs (L := if (topF m.fr).k = 4 then m.fr.dropLast else m.fr) ?_).at_ 0 0 _
    split
    · exact drop_le _ hf
    · exact hf
theorem RestK.step {D : Int → PS → Int × PS} (hD : FineD K D) {m : M} (h : RestK K R m) : RestK K R (m.step D).2 := by
  unfold M.step
  split
  · exact (h.at_ _ _ 0).execute hD _
  split
  · exact h
  split
  · exact h.returns
  split
  · exact h.throw _
  · exact (h.at_ _ _ _).does hD _ _ _
end
end En
end Go.Proofs.YtdokeddjcpnmiaaGreatDoor

/- An engine goes on as the plain one does, if the plain one comes to an end at which nothing was done by a number that is not known. -/
namespace Go.Proofs.YtdokeddjcpnmiaaGreatDoor
open Go.RowKit
namespace En

def NoLoc (m : M) : Prop := ∀ df on op a v, m.at_ df on = some (op, a, v) → op ≠ 12 ∧ op ≠ 13 ∧ op ≠ 14
def RestIs (W : List (Int × Int × Int)) (C E : List Int) : Prop := ∀ m : M, m.words = W → m.code = C → m.ends = E → CtlOk m ∧ NoLoc m
theorem RestIs.of {m : M} (h1 : CtlOk m) (h2 : NoLoc m) : RestIs m.words m.code m.ends := by
  intro m' e1 e2 e3
  refine ⟨fun x n v h => h1 x n v ?_, fun df on op a v h => h2 df on op a v ?_⟩
  · unfold M.word at h ⊢
    rw [e1] at h
    exact h
  · unfold M.at_ M.begin_ at h ⊢
    rw [e2, e3] at h
    exact h
theorem RestK.fine {K : PS → Prop} {R : List (Int × Int × Int) → List Int → List Int → Prop} {m : M} (h : RestK K R m) : FineK K m := ⟨h.st, h.fr, h.ins, h.text, h.words, h.code, h.ends, h.elen, h.ok, h.kk⟩
theorem FineK.rest {K : PS → Prop} {m : M} (h : FineK K m) {R : List (Int × Int × Int) → List Int → List Int → Prop} (r : R m.words m.code m.ends) : RestK K R m := ⟨h.st, h.fr, h.ins, h.text, h.words, h.code, h.ends, h.elen, h.ok, h.kk, r⟩
section
variable {D : Int → PS → Int × PS} {bad : PS → Prop}
theorem next_bad (hDf : FineD PS.ok D) (hst : ∀ S st, bad S → bad { S with st := st }) {m : M} (hf : Fine m) {n : Int} (hn : NextOp m n) (hb : bad (D n m.S).2) (h67 : ¬ (m.nx = 0 ∧ ((topF m.fr).k = 6 ∨ (topF m.fr).k = 7))) : FineK bad (m.step D).2 := by
  have hd := hDf n m.S hf.st hf.ok
  rcases hn with ⟨h0, v, hw⟩ | ⟨h0, a, v, u, ha, hw⟩
  · rw [step_next h0]
    have hw' : ({ m with nx := 0 } : M).word m.nx = some (1, n, v) := hw
    rw [exec_prim (hw := hw')]
    exact FineK.done (r := (_, _)) ⟨hd.1, hf.fr, hf.ins, hf.text, hf.words, hf.code, hf.ends, hf.elen, hb, hst⟩
  · have hdf : m.df ≠ 0 := by
      intro e
      unfold M.at_ at ha
      rw [if_pos (.inl (by omega))] at ha
      cases ha
    have h6 : (topF m.fr).k ≠ 6 := fun e => h67 ⟨h0, .inl e⟩
    have h7 : (topF m.fr).k ≠ 7 := fun e => h67 ⟨h0, .inr e⟩
    rw [step_at h0 h6 h7 hdf ha]
    have e : ({ m with on := m.on + 1 } : M).does D 2 a v = ({ m with on := m.on + 1 } : M).execute D a := rfl
    rw [e]
    have hw' : ({ m with on := m.on + 1 } : M).word a = some (1, n, u) := hw
    rw [exec_prim (hw := hw')]
    exact FineK.done (r := (_, _)) ⟨hd.1, hf.fr, hf.ins, hf.text, hf.words, hf.code, hf.ends, hf.elen, hb, hst⟩
theorem run_bad (hDb : FineD bad D) : ∀ (k : Nat) (m : M), FineK bad m → bad (M.run D k m).2.S
  | 0, m, h => h.ok
  | k + 1, m, h => by
    have h1 := h.step hDb
    unfold M.run
    by_cases h2 : (m.step D).1.1 = 1
    · rw [if_neg (fun h => h h2)]
      exact run_bad hDb k _ h1
    · rw [if_pos h2]
      exact h1.ok
end
theorem run_law {w wB : World} {g : Nat} {p : Lay} {F : List Nat} {m : M} {D : Int → PS → Int × PS} {bad : PS → Prop} (h : EngAt w g p F m) (hf : Fine m) (hF0 : ∀ x ∈ F, wB.heap.size ≤ x) (tB : Touch [] wB w)
    (hDf : FineD PS.ok D) (hDb : FineD bad D) (hst : ∀ S st, bad S → bad { S with st := st }) (good : Int → Prop) (hgood : ∀ n S, good n → S.st.length ≤ 128 → PS.ok S → DoOk wB D p.s S n) (hbad : ∀ n S, ¬ good n → bad (D n S).2)
    (hctl : CtlOk m) (hloc : NoLoc m) (n : Nat) (hn : n ≤ 1000000) {fin : St} {mf : M} (hrun : M.run D n m = (fin, mf)) (hend : ¬ bad mf.S) (hlast : ∀ n, NextOp mf n → good n) :
    Calls Tryz.prog 20 #[.pointer (some ⟨g, 0, none⟩), .int .i64 n] w (RunEnd w g p F fun s m' => s = fin ∧ m' = mf) := by
  refine run_sem (fun k m' => RestK PS.ok RestIs m' ∧ M.run D k m' = (fin, mf)) _ ?_ ?_ h hF0 tB n hn ⟨hf.rest (RestIs.of hctl hloc), hrun⟩
  · intro k m1 ⟨hR, hr⟩ W F1 hE hF1 t1
    have hf1 := hR.fine
    obtain ⟨hc1, hl1⟩ := hR.rest m1 rfl rfl rfl
    have hstep : (m1.step D).1.1 = 1 ∧ M.run D k (m1.step D).2 = (fin, mf) ∨ (m1.step D).1.1 ≠ 1 ∧ m1.step D = (fin, mf) := by
      unfold M.run at hr
      by_cases h1 : (m1.step D).1.1 = 1
      · rw [if_neg (fun h => h h1)] at hr
        exact .inl ⟨h1, hr⟩
      · rw [if_pos h1] at hr
        exact .inr ⟨h1, hr⟩
    have hD : ∀ x, NextOp m1 x → DoOk wB D p.s m1.S x := by
      intro x hx
      by_cases hg : good x
      · exact hgood x _ hg hf1.st hf1.ok
      · exfalso
        by_cases h67 : m1.nx = 0 ∧ ((topF m1.fr).k = 6 ∨ (topF m1.fr).k = 7)
        · have e : m1.step D = ((3, (topF m1.fr).k, 0), m1) := by
            unfold M.step
            rw [if_neg (by rw [h67.1]; simp), if_pos h67.2]
          rcases hstep with ⟨hs, _⟩ | ⟨_, hs⟩
          · rw [e] at hs
            simp at hs
          · rw [e] at hs
            injection hs with _ hs
            rw [hs] at hx
            exact hg (hlast x hx)
        · have hb := next_bad hDf hst hf1 hx (hbad x _ hg) h67
          rcases hstep with ⟨_, hs⟩ | ⟨_, hs⟩
          · have := run_bad hDb k _ hb
            rw [hs] at this
            exact hend this
          · rw [hs] at hb
            exact hend hb.ok
    have hL : LocOk D g p F1 m1 := by
      intro op a v ha ho
      have := hl1 _ _ _ _ _ ha
      omega
    refine (Step_sem hE hf1 hF1 t1 hDf hD hc1 hL).mono ?_
    rintro e w' ⟨he, hK⟩
    refine ⟨_, _, he, hK, ?_⟩
    rcases hstep with ⟨h1, h2⟩ | ⟨h1, h2⟩
    · exact .inl ⟨h1, hR.step hDf, h2⟩
    · refine .inr ⟨h1, ?_⟩
      rw [h2]
      exact ⟨rfl, rfl⟩
  · intro m1 ⟨_, hr⟩
    have e : M.run D 0 m1 = (ran, m1) := rfl
    rw [e] at hr
    injection hr with h1 h2
    exact ⟨h1, h2⟩
end En
end Go.Proofs.YtdokeddjcpnmiaaGreatDoor

/- The law's run, what is done by a number depending on the state. -/
namespace Go.Proofs.YtdokeddjcpnmiaaGreatDoor
open Go.RowKit
namespace En

theorem run_law2 {w wB : World} {g : Nat} {p : Lay} {F : List Nat} {m : M} {D : Int → PS → Int × PS} {bad : PS → Prop} (h : EngAt w g p F m) (hf : Fine m) (hF0 : ∀ x ∈ F, wB.heap.size ≤ x) (tB : Touch [] wB w)
    (hDf : FineD PS.ok D) (hDb : FineD bad D) (hst : ∀ S st, bad S → bad { S with st := st }) (good : Int → PS → Prop) (hgood : ∀ n S, good n S → S.st.length ≤ 128 → PS.ok S → DoOk wB D p.s S n) (hbad : ∀ n S, ¬ good n S → bad (D n S).2)
    (hctl : CtlOk m) (hloc : NoLoc m) (n : Nat) (hn : n ≤ 1000000) {fin : St} {mf : M} (hrun : M.run D n m = (fin, mf)) (hend : ¬ bad mf.S) (hlast : ∀ n, NextOp mf n → good n mf.S) :
    Calls Tryz.prog 20 #[.pointer (some ⟨g, 0, none⟩), .int .i64 n] w (RunEnd w g p F fun s m' => s = fin ∧ m' = mf) := by
  refine run_sem (fun k m' => RestK PS.ok RestIs m' ∧ M.run D k m' = (fin, mf)) _ ?_ ?_ h hF0 tB n hn ⟨hf.rest (RestIs.of hctl hloc), hrun⟩
  · intro k m1 ⟨hR, hr⟩ W F1 hE hF1 t1
    have hf1 := hR.fine
    obtain ⟨hc1, hl1⟩ := hR.rest m1 rfl rfl rfl
    have hstep : (m1.step D).1.1 = 1 ∧ M.run D k (m1.step D).2 = (fin, mf) ∨ (m1.step D).1.1 ≠ 1 ∧ m1.step D = (fin, mf) := by
      unfold M.run at hr
      by_cases h1 : (m1.step D).1.1 = 1
      · rw [if_neg (fun h => h h1)] at hr
        exact .inl ⟨h1, hr⟩
      · rw [if_pos h1] at hr
        exact .inr ⟨h1, hr⟩
    have hD : ∀ x, NextOp m1 x → DoOk wB D p.s m1.S x := by
      intro x hx
      by_cases hg : good x m1.S
      · exact hgood x _ hg hf1.st hf1.ok
      · exfalso
        by_cases h67 : m1.nx = 0 ∧ ((topF m1.fr).k = 6 ∨ (topF m1.fr).k = 7)
        · have e : m1.step D = ((3, (topF m1.fr).k, 0), m1) := by
            unfold M.step
            rw [if_neg (by rw [h67.1]; simp), if_pos h67.2]
          rcases hstep with ⟨hs, _⟩ | ⟨_, hs⟩
          · rw [e] at hs
            simp at hs
          · rw [e] at hs
            injection hs with _ hs
            rw [hs] at hx hg
            exact hg (hlast x hx)
        · have hb := next_bad hDf hst hf1 hx (hbad x _ hg) h67
          rcases hstep with ⟨_, hs⟩ | ⟨_, hs⟩
          · have := run_bad hDb k _ hb
            rw [hs] at this
            exact hend this
          · rw [hs] at hb
            exact hend hb.ok
    have hL : LocOk D g p F1 m1 := by
      intro op a v ha ho
      have := hl1 _ _ _ _ _ ha
      omega
    refine (Step_sem hE hf1 hF1 t1 hDf hD hc1 hL).mono ?_
    rintro e w' ⟨he, hK⟩
    refine ⟨_, _, he, hK, ?_⟩
    rcases hstep with ⟨h1, h2⟩ | ⟨h1, h2⟩
    · exact .inl ⟨h1, hR.step hDf, h2⟩
    · refine .inr ⟨h1, ?_⟩
      rw [h2]
      exact ⟨rfl, rfl⟩
  · intro m1 ⟨_, hr⟩
    have e : M.run D 0 m1 = (ran, m1) := rfl
    rw [e] at hr
    injection hr with h1 h2
    exact ⟨h1, h2⟩
end En
end Go.Proofs.YtdokeddjcpnmiaaGreatDoor
