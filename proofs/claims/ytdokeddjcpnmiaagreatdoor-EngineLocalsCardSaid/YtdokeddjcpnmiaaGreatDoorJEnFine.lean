import Derived.Test.YtdokeddjcpnmiaaGreatDoorJPlX
import Derived.Test.YtdokeddjcpnmiaaGreatDoorJPDo
/- The engine, plain: what is so at all times. -/
namespace Go.Proofs.YtdokeddjcpnmiaaGreatDoor
open Go.RowKit
namespace En

/-- what is so of an engine at all times (K: what is so of its state, whatever the stack is) -/
structure FineK (K : PS → Prop) (m : M) : Prop where
  st : m.S.st.length ≤ 128
  fr : m.fr.length ≤ 128
  ins : m.I.outer.length ≤ 8
  text : m.I.cur.text.size ≤ 1000 ∧ ∀ o ∈ m.I.outer, o.text.size ≤ 1000
  words : m.words.length ≤ 1000000
  code : m.code.length ≤ 10000000
  ends : ∀ x ∈ m.ends, 0 ≤ x ∧ x ≤ m.code.length
  elen : m.ends.length ≤ 1000000
  ok : K m.S
  kk : ∀ S st, K S → K { S with st := st }
theorem cutAll_text {I : Ins} (h : I.cur.text.size ≤ 1000 ∧ ∀ o ∈ I.outer, o.text.size ≤ 1000) (n : Nat) : (I.cutAll n).cur.text.size ≤ 1000 ∧ ∀ o ∈ (I.cutAll n).outer, o.text.size ≤ 1000 := by
  unfold Ins.cutAll
  by_cases hn : n < I.outer.length
  · rw [if_pos hn]
    refine ⟨?_, fun o ho => h.2 o (List.mem_of_mem_take ho)⟩
    show (I.outer.getD n .none).text.size ≤ 1000
    rw [List.getD_eq_getElem?_getD, List.getElem?_eq_getElem hn]
    exact h.2 _ (List.getElem_mem hn)
  · rw [if_neg hn]; exact h
theorem cutAll_len (I : Ins) (n : Nat) : (I.cutAll n).outer.length ≤ I.outer.length := by
  unfold Ins.cutAll
  by_cases hn : n < I.outer.length
  · rw [if_pos hn]; show (I.outer.take n).length ≤ _; rw [List.length_take]; omega
  · rw [if_neg hn]; exact Nat.le_refl _
theorem stCut_len (n : Int) (l : List Int) : (stCut n l).length ≤ 128 := by
  unfold stCut
  rw [List.length_take]
  omega
theorem catchF_len : ∀ (L : List Fr) (f : Fr) (r : List Fr), catchF L = some (f, r) → r.length < L.length
  | [], f, r, h => by cases h
  | x :: L, f, r, h => by
    unfold catchF at h
    split at h
    · rename_i f' r' hr
      injection h with h; injection h with h1 h2
      subst h2
      have := catchF_len L f' r' hr
      simp; omega
    · split at h
      · injection h with h; injection h with h1 h2; subst h2; simp
      · cases h
theorem back_eq (I : Ins) (b x : Int) : backI I b x = (if ((I.cutAll b.toNat).outer.length : Int) = b then { I.cutAll b.toNat with cur := { (I.cutAll b.toNat).cur with on := (max (min x (I.cutAll b.toNat).cur.text.size) 0).toNat } } else I.cutAll b.toNat) := by
  have e : (if b < I.outer.length then I.cutAll b.toNat else I) = I.cutAll b.toNat := by
    by_cases h : b < I.outer.length
    · rw [if_pos h]
    · rw [if_neg h, cutAll_of_le I _ (by omega)]
  unfold backI
  rw [e]
abbrev Fine (m : M) : Prop := FineK PS.ok m
/-- what is done by a number keeps the state as it may be -/
def FineD (K : PS → Prop) (D : Int → PS → Int × PS) : Prop := ∀ op S, S.st.length ≤ 128 → K S → (D op S).2.st.length ≤ 128 ∧ K (D op S).2
theorem ok_stk (S : PS) (st : List Int) (h : PS.ok S) : PS.ok { S with st := st } := h
section
variable {K : PS → Prop}
theorem FineK.turn {m m' : M} (h : FineK K m) (s : m'.S.st.length ≤ 128) (so : K m'.S) (f : m'.fr.length ≤ 128) (e1 : m'.words = m.words) (e2 : m'.code = m.code) (e3 : m'.ends = m.ends) (e4 : m'.I = m.I) : FineK K m' := by
  obtain ⟨_, _, a3, a4, a5, a6, a7, a8, _, a10⟩ := h
  exact ⟨s, f, by rw [e4]; exact a3, by rw [e4]; exact a4, by rw [e1]; exact a5, by rw [e2]; exact a6, by rw [e2, e3]; exact a7, by rw [e3]; exact a8, so, a10⟩
theorem FineK.at_ {m : M} (h : FineK K m) (d o n : Int) : FineK K { m with df := d, on := o, nx := n } := h.turn h.st h.ok h.fr rfl rfl rfl rfl
theorem FineK.frs {m : M} (h : FineK K m) {L : List Fr} (hl : L.length ≤ 128) : FineK K { m with fr := L } := h.turn h.st h.ok hl rfl rfl rfl rfl
theorem FineK.stk {m : M} (h : FineK K m) {st : List Int} (hl : st.length ≤ 128) : FineK K { m with S := { m.S with st := st } } := h.turn hl (h.kk _ _ h.ok) h.fr rfl rfl rfl rfl
theorem pushS_fine (hK : ∀ S st, K S → K { S with st := st }) {S : PS} (h : S.st.length ≤ 128) (hk : K S) (x : Int) : (pushS S x).2.st.length ≤ 128 ∧ K (pushS S x).2 := by
  unfold pushS
  split
  · exact ⟨by simp; omega, hK _ _ hk⟩
  · exact ⟨h, hk⟩
theorem FineK.push {m : M} (h : FineK K m) (x : Int) : FineK K (m.push x).2 := by
  obtain ⟨p1, p2⟩ := pushS_fine h.kk h.st h.ok x
  exact h.turn p1 p2 h.fr rfl rfl rfl rfl
theorem FineK.pushFr {m : M} (h : FineK K m) (f : Fr) : FineK K (m.pushFr f).2 := by
  unfold M.pushFr
  split
  · exact h.frs (by simp; omega)
  · exact h
theorem drop_le {α : Type} (l : List α) {n : Nat} (h : l.length ≤ n) : l.dropLast.length ≤ n := by simp; omega
theorem ite_ins {P : Ins → Prop} {c : Prop} [Decidable c] {A B : Ins} (hA : P A) (hB : P B) : P (if c then A else B) := by
  by_cases h : c
  · rw [if_pos h]; exact hA
  · rw [if_neg h]; exact hB
theorem FineK.throw {m : M} (h : FineK K m) (e : Int) : FineK K (m.throw e).2 := by
  cases hc : catchF m.fr with
  | none =>
    rw [throw_none hc]
    exact h.turn (by simp) (h.kk _ _ h.ok) (by simp) rfl rfl rfl rfl
  | some y =>
    obtain ⟨f, r⟩ := y
    rw [throw_some hc, back_eq]
    have hl := catchF_len _ _ _ hc
    have hf := h.fr
    obtain ⟨p1, p2⟩ := pushS_fine h.kk (S := { m.S with st := stCut f.a m.S.st }) (stCut_len _ _) (h.kk _ _ h.ok) e
    have ht := cutAll_text h.text f.b.toNat
    have hi := Nat.le_trans (cutAll_len m.I f.b.toNat) h.ins
    exact ⟨p1, by show r.length ≤ 128; omega, ite_ins (P := fun I => I.outer.length ≤ 8) hi hi, ite_ins (P := fun I => I.cur.text.size ≤ 1000 ∧ ∀ o ∈ I.outer, o.text.size ≤ 1000) ht ht, h.words, h.code, h.ends, h.elen, p2, h.kk⟩
theorem FineK.done {r : Int × M} (h : FineK K r.2) : FineK K (M.done r).2 := by
  unfold M.done
  split
  · exact h
  · exact h.throw _
theorem FineK.with_ {m : M} (h : FineK K m) (n : Int) (do_ : List Int → M → Int × M) (hd : ∀ l m', FineK K m' → FineK K (do_ l m').2) : FineK K (m.with_ n do_).2 := by
  unfold M.with_
  split
  · exact h.throw _
  · split
    · exact h.throw _
    · dsimp only
      have hs := h.st
      have hg := hd (m.S.st.drop (m.S.st.length - n.toNat)) { m with S := { m.S with st := m.S.st.take (m.S.st.length - n.toNat) } } (h.stk (by rw [List.length_take]; omega))
      generalize do_ (m.S.st.drop (m.S.st.length - n.toNat)) { m with S := { m.S with st := m.S.st.take (m.S.st.length - n.toNat) } } = r at hg
      split
      · exact hg
      · refine FineK.throw ?_ _
        split
        · exact hg.stk (by rw [List.length_append]; omega)
        · exact hg
theorem FineK.call {m : M} (h : FineK K m) (n : Int) : FineK K (m.call n).2 := by
  unfold M.call
  split
  · exact h
  · dsimp only
    split
    · exact (h.pushFr _).at_ n 0 _
    · exact h.pushFr _
theorem FineK.leave {m : M} (h : FineK K m) : FineK K m.leave.2 := by
  unfold M.leave M.pop
  have := h.fr
  by_cases hk : m.fr ≠ [] ∧ (topF m.fr).k = 3
  · rw [if_pos hk]; exact h.frs (drop_le _ this)
  · rw [if_neg hk]; exact h
theorem FineK.named {m : M} (h : FineK K m) (x : Int) : FineK K (m.named x).2 := by
  unfold M.named
  split
  · exact h.at_ _ _ x
  · exact h
theorem FineK.index {m : M} (h : FineK K m) (n : Nat) : FineK K (m.index n).2 := by
  unfold M.index
  split
  · exact (h.push _).done
  · exact h.throw _
theorem FineK.control {m : M} (h : FineK K m) (n : Int) : FineK K (m.control n).2 := by
  have hf := h.fr
  have hs := h.st
  unfold M.control
  by_cases h1 : n = 1
  · rw [if_pos h1]
    exact h.with_ 1 _ (fun l m' h' => h'.pushFr _)
  rw [if_neg h1]
  by_cases h2 : n = 2
  · rw [if_pos h2]
    unfold M.pop
    by_cases hk : m.fr ≠ [] ∧ (topF m.fr).k = 2
    · rw [if_pos hk]
      dsimp only
      have h1 := (h.frs (drop_le _ hf)).push (topF m.fr).x
      split
      · exact h1.done
      · exact FineK.done (r := (_, _)) (h1.pushFr _)
    · rw [if_neg hk]
      exact h.throw _
  rw [if_neg h2]
  by_cases h3 : n = 3
  · rw [if_pos h3]
    split
    · exact (h.push _).done
    · exact h.throw _
  rw [if_neg h3]
  by_cases h4 : n = 4
  · rw [if_pos h4]
    exact h.index 0
  rw [if_neg h4]
  by_cases h5 : n = 5
  · rw [if_pos h5]
    exact h.index 1
  rw [if_neg h5]
  by_cases h6 : n = 6
  · rw [if_pos h6]
    exact h.leave.done
  rw [if_neg h6]
  by_cases h7 : n = 7
  · rw [if_pos h7]
    exact h.with_ 1 _ (fun l m' h' => h'.named _)
  rw [if_neg h7]
  by_cases h8 : n = 8
  · rw [if_pos h8]
    refine h.with_ 1 _ (fun l m' h' => ?_)
    dsimp only
    have h1 := h'.named (l.getD 0 0)
    have e1 : (m'.named (l.getD 0 0)).2.fr = m'.fr := by unfold M.named; split <;> rfl
    generalize m'.named (l.getD 0 0) = r at h1 e1
    split
    · exact h1
    · split
      · exact h1.at_ _ _ 0
      · exact (h1.frs (L := r.2.fr ++ [⟨1, m'.df, m'.on, 0, 0, []⟩, ⟨5, m'.S.st.length, m'.I.outer.length, m'.I.cur.on, 0, []⟩]) (by rw [e1, List.length_append]; simp; omega)).at_ 0 0 _
  · rw [if_neg h8]
    split
    · exact h.throw _
    · exact FineK.done (r := (_, _)) (h.stk (drop_le _ hs))
theorem FineK.deferred {m : M} (h : FineK K m) (n : Int) : FineK K (m.deferred n).2 := by
  unfold M.deferred
  split
  · exact h.throw _
  · split
    · exact h.at_ _ _ n
    · exact h.throw _
theorem FineK.execute {D : Int → PS → Int × PS} (hD : FineD K D) {m : M} (h : FineK K m) (xt : Int) : FineK K (m.execute D xt).2 := by
  unfold M.execute
  split
  · exact h.throw _
  · rename_i k n w _
    obtain ⟨d1, d2⟩ := hD n m.S h.st h.ok
    split
    · exact FineK.done (r := (_, _)) (h.turn (m' := { m with S := (D n m.S).2 }) d1 d2 h.fr rfl rfl rfl rfl)
    split
    · exact (h.call n).done
    split
    · exact (h.push w).done
    split
    · dsimp only
      split
      · exact h.throw _
      · have hq := (h.push w).call n
        generalize (m.push w).2.call n = q at hq
        split
        · exact hq
        · exact (hq.stk (drop_le _ hq.st)).throw _
    split
    · exact h.deferred n
    split
    · exact h.control n
    · exact h
theorem FineK.returns {m : M} (h : FineK K m) : FineK K m.returns.2 := by
  have hf := h.fr
  unfold M.returns
  split
  · exact h
  split
  · exact (h.frs (drop_le _ hf)).at_ _ _ _
  split
  · dsimp only
    have hp := h.push 0
    split
    · exact hp.frs (drop_le _ hp.fr)
    · exact hp.done
  · exact h.throw _
theorem FineK.jump {m : M} (h : FineK K m) (b : Bool) (n : Int) : FineK K (m.jump b n).2 := by
  unfold M.jump
  split
  · exact h.at_ _ n _
  · exact h
theorem FineK.loop {m : M} (h : FineK K m) (b n : Int) : FineK K (m.loop b n).2 := by
  have hf := h.fr
  unfold M.loop
  split
  · exact h
  · rename_i hk
    dsimp only
    split
    · exact h.frs (drop_le _ hf)
    · have h0 : m.fr ≠ [] := fun e => hk (.inl e)
      have : 0 < m.fr.length := List.length_pos_iff.2 h0
      exact (h.frs (L := m.fr.dropLast ++ [{ topF m.fr with x := wrap64 ((topF m.fr).x + b) }]) (by simp; omega)).at_ _ n _
theorem FineK.begins {m : M} (h : FineK K m) (l : List Int) : FineK K (m.begins l).2 := h.pushFr _
theorem FineK.does {D : Int → PS → Int × PS} (hD : FineD K D) {m : M} (h : FineK K m) (op a w : Int) : FineK K (m.does D op a w).2 := by
  have hf := h.fr
  unfold M.does
  by_cases h1 : op = 1
  · rw [if_pos h1]
    exact (h.push w).done
  rw [if_neg h1]
  by_cases h2 : op = 2
  · rw [if_pos h2]
    exact h.execute hD a
  rw [if_neg h2]
  by_cases h3 : op = 3
  · rw [if_pos h3]
    exact (h.jump true a).done
  rw [if_neg h3]
  by_cases h4 : op = 4
  · rw [if_pos h4]
    exact h.with_ 1 _ (fun l m' h' => h'.jump _ _)
  rw [if_neg h4]
  by_cases h5 : op = 5
  · rw [if_pos h5]
    exact h.with_ 2 _ (fun l m' h' => h'.begins _)
  rw [if_neg h5]
  by_cases h6 : op = 6
  · rw [if_pos h6]
    refine h.with_ 2 _ (fun l m' h' => ?_)
    split
    · exact h'.jump _ _
    · exact h'.begins _
  rw [if_neg h6]
  by_cases h7 : op = 7
  · rw [if_pos h7]
    exact (h.loop 1 a).done
  rw [if_neg h7]
  by_cases h8 : op = 8
  · rw [if_pos h8]
    exact h.with_ 1 _ (fun l m' h' => h'.loop _ _)
  rw [if_neg h8]
  by_cases h9 : op = 9
  · rw [if_pos h9]
    refine FineK.done (r := (_, _)) ?_
    dsimp only
    split
    · exact h.leave.at_ _ a _
    · exact h
  rw [if_neg h9]
  by_cases h10 : op = 10
  · rw [if_pos h10]
    refine h.with_ 2 _ (fun l m' h' => ?_)
    split
    · exact h'
    · exact (h'.push _).jump _ _
  rw [if_neg h10]
  by_cases h11 : op = 11
  · rw [if_pos h11]
    exact h.with_ 1 _ (fun l m' h' => h')
  rw [if_neg h11]
  by_cases h12 : op = 12
  · rw [if_pos h12]
    exact h.with_ a _ (fun l m' h' => h'.pushFr _)
  rw [if_neg h12]
  by_cases h13 : op = 13
  · rw [if_pos h13]
    split
    · exact h.throw _
    · split
      · exact (h.push _).done
      · exact h.throw _
  rw [if_neg h13]
  by_cases h14 : op = 14
  · rw [if_pos h14]
    refine h.with_ 1 _ (fun l m' h' => ?_)
    dsimp only
    split
    · exact h'
    · split
      · exact h'.frs (by rw [List.length_set]; exact h'.fr)
      · exact h'
  · rw [if_neg h14]
    refine (h.frs (L := if (topF m.fr).k = 4 then m.fr.dropLast else m.fr) ?_).at_ 0 0 _
    split
    · exact drop_le _ hf
    · exact hf
theorem FineK.step {D : Int → PS → Int × PS} (hD : FineD K D) {m : M} (h : FineK K m) : FineK K (m.step D).2 := by
  unfold M.step
  split
  · exact (h.at_ _ _ 0).execute hD _
  split
  · exact h
  split
  · exact h.returns
  split
  · exact h.throw _
  · exact (h.at_ _ _ _).does hD _ _ _
end
end En
end Go.Proofs.YtdokeddjcpnmiaaGreatDoor
