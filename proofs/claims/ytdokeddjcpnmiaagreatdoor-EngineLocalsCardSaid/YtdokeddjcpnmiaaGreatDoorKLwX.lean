import Derived.Test.YtdokeddjcpnmiaaGreatDoorKShX
import Derived.Test.YtdokeddjcpnmiaaGreatDoorKBuilt
import Derived.Deep.AppendLies
/- What the laws' walks share: rows of instructions and of cells that are appended to. -/
namespace Go.Proofs.YtdokeddjcpnmiaaGreatDoor
open Go.RowKit
namespace En

theorem info_ins : (Tryz.prog.info? 56).map (fun i => (i.zero, i.size, i.bytes)) = some (some (.agg #[.int .u8 0, .int .i64 0, .int .i64 0]), 3, 24) := by kernel_rfl
theorem info_ins' : ∃ i0, Tryz.prog.info? 56 = some i0 ∧ i0.zero = some (.agg #[.int .u8 0, .int .i64 0, .int .i64 0]) ∧ i0.size = 3 ∧ i0.bytes = 24 := by
  have h := info_ins
  cases hi : Tryz.prog.info? 56 with
  | none => rw [hi] at h; cases h
  | some i =>
    rw [hi] at h
    simp only [Option.map_some, Option.some.injEq, Prod.mk.injEq] at h
    exact ⟨i, rfl, h.1, h.2.1, h.2.2⟩
def CodeRow (B : Nat) (w : World) (v : Value) (L : List (Int × Int × Int)) : Prop := w.ownsRow B 56 3 v L.length (L.flatMap insCells)
def WantRow (B : Nat) (w : World) (v : Value) (L : List Int) : Prop := w.ownsRow B 33 1 v L.length (cells L)
theorem insCells_one (L : List (Int × Int × Int)) : ∀ u ∈ L.flatMap insCells, u.oneCell' = true := by
  intro u hu
  obtain ⟨x, _, hx⟩ := List.mem_flatMap.1 hu
  simp only [insCells, List.mem_cons, List.not_mem_nil, or_false] at hx
  rcases hx with rfl | rfl | rfl <;> rfl
theorem insCells_len (L : List (Int × Int × Int)) : (L.flatMap insCells).length = L.length * 3 := by
  induction L with
  | nil => rfl
  | cons x l ih => rw [List.flatMap_cons, List.length_append, ih, List.length_cons]; show 3 + _ = _; omega
section
variable {P : Program} {w : World}
/-- code is appended to -/
theorem wpList_code {ops : Array Oper} {rest : List Oper} {o : Oper} {a : Act} {Q : Exit → Act → World → Prop} (hgd : o.guard = none) (s x : Operand)
    (ho : o.op = .call { callee := .builtin .append, args := #[s, x], argTypes := #[22, 22] }) (B : Nat) (v : Value) (L X : List (Int × Int × Int)) (hs : a.eval s = v) (hown : CodeRow B w v L) (b m c : Nat) (hx : a.eval x = .slice (some ⟨b, 0, none⟩) m c) (hX : m = X.length) (hb : Blk w b 56 (X.flatMap insCells).toArray) (h0 : 0 < m) (hL : L.length + m ≤ 1000000) (hB : B ≤ w.heap.size)
    (h : ∀ v' w', CodeRow B w' v' (L ++ X) → w.grownBy w' v.ownBlock → (v'.ownBlock = v.ownBlock ∨ v'.ownBlock = some w.heap.size) → (∃ a c, v' = .slice a (L.length + m) c) → wpList Tryz.prog ops Q rest (a.put o.dst v') w') : wpList Tryz.prog ops Q (o :: rest) a w := by
  obtain ⟨i0, hi, hz, hsz, hby⟩ := info_ins'
  have hml : (1000000 : Nat) ≤ maxLen := by unfold maxLen; omega
  subst hX
  refine wpList_append_lies w hgd s x _ ho B 56 i0 _ 3 24 Tryz.underlying22 hi hz hsz hby rfl (by omega) v L.length _ hs hown ⟨b, 0, none⟩ X.length c (X.flatMap insCells) hx (insCells_len X) (World.news_of_block hb) (insCells_one X) h0 (by omega) (by omega) hB _ rfl ?_
  intro g cap w' h1 h2 h3 _
  refine h _ _ ?_ h2 ?_ ⟨_, _, rfl⟩
  · unfold CodeRow
    rw [List.length_append, List.flatMap_append]
    exact h1
  · rcases h3 with h3 | h3
    · exact .inl h3.symm
    · exact .inr (by rw [h3]; rfl)
/-- cells are appended to -/
theorem wpList_want {ops : Array Oper} {rest : List Oper} {o : Oper} {a : Act} {Q : Exit → Act → World → Prop} (hgd : o.guard = none) (s x : Operand)
    (ho : o.op = .call { callee := .builtin .append, args := #[s, x], argTypes := #[25, 25] }) (B : Nat) (v : Value) (L X : List Int) (hs : a.eval s = v) (hown : WantRow B w v L) (b m c : Nat) (hx : a.eval x = .slice (some ⟨b, 0, none⟩) m c) (hX : m = X.length) (hb : Blk w b 33 (cells X).toArray) (h0 : 0 < m) (hL : L.length + m ≤ 1000000) (hB : B ≤ w.heap.size)
    (h : ∀ v' w', WantRow B w' v' (L ++ X) → w.grownBy w' v.ownBlock → (v'.ownBlock = v.ownBlock ∨ v'.ownBlock = some w.heap.size) → (∃ a c, v' = .slice a (L.length + m) c) → wpList Tryz.prog ops Q rest (a.put o.dst v') w') : wpList Tryz.prog ops Q (o :: rest) a w := by
  obtain ⟨i0, hi, hz, hsz, hby⟩ := info_cell'
  have hml : (1000000 : Nat) ≤ maxLen := by unfold maxLen; omega
  subst hX
  refine wpList_append_lies w hgd s x _ ho B 33 i0 _ 1 8 Tryz.underlying25 hi hz hsz hby rfl (by omega) v L.length _ hs hown ⟨b, 0, none⟩ X.length c (cells X) hx (by rw [cells_length, Nat.mul_one]) (World.news_of_block hb) (cells_one X) h0 (by omega) (by omega) hB _ rfl ?_
  intro g cap w' h1 h2 h3 _
  refine h _ _ ?_ h2 ?_ ⟨_, _, rfl⟩
  · unfold WantRow
    rw [List.length_append, cells_append]
    exact h1
  · rcases h3 with h3 | h3
    · exact .inl h3.symm
    · exact .inr (by rw [h3]; rfl)
end
theorem CodeRow.none (w : World) (B : Nat) : CodeRow B w (.slice none 0 0) [] := World.ownsRow_nil _ _ _ _
theorem WantRow.none (w : World) (B : Nat) : WantRow B w (.slice none 0 0) [] := World.ownsRow_nil _ _ _ _
theorem CodeRow.form {B : Nat} {w : World} {v : Value} {L : List (Int × Int × Int)} (h : CodeRow B w v L) : ∃ a c, v = .slice a L.length c := by
  rcases Go.Joins.ownsRow_forms h with ⟨h1, h0⟩ | ⟨g, cap, h1⟩
  · exact ⟨.none, 0, by rw [h1, h0]⟩
  · exact ⟨_, _, h1⟩
theorem WantRow.form {B : Nat} {w : World} {v : Value} {L : List Int} (h : WantRow B w v L) : ∃ a c, v = .slice a L.length c := by
  rcases Go.Joins.ownsRow_forms h with ⟨h1, h0⟩ | ⟨g, cap, h1⟩
  · exact ⟨.none, 0, by rw [h1, h0]⟩
  · exact ⟨_, _, h1⟩
theorem flat_three (L : List (Int × Int × Int)) (i : Nat) (x : Int × Int × Int) (hx : L[i]? = some x) (j : Nat) (hj : j < 3) : (L.flatMap insCells)[i * 3 + j]? = (insCells x)[j]? := by
  induction L generalizing i with
  | nil => cases hx
  | cons a t ih =>
    rw [List.flatMap_cons]
    cases i with
    | zero =>
      simp only [List.getElem?_cons_zero, Option.some.injEq] at hx
      rw [hx, Nat.zero_mul, Nat.zero_add, List.getElem?_append_left (by show j < 3; exact hj)]
    | succ i =>
      rw [List.getElem?_cons_succ] at hx
      rw [List.getElem?_append_right (by show 3 ≤ _; omega), show (i + 1) * 3 + j - (insCells a).length = i * 3 + j by show _ - 3 = _; omega]
      exact ih i hx
theorem CodeRow.insAt {B : Nat} {w : World} {v : Value} {L : List (Int × Int × Int)} (h : CodeRow B w v L) : InsAt w v L := by
  rcases h.2 with ⟨e, h0⟩ | ⟨g, cap, cur, e, _⟩
  · exact .inl ⟨List.eq_nil_of_length_eq_zero h0, _, _, e⟩
  · subst e
    refine .inr ⟨g, 0, cap, rfl, fun i x hx => ?_⟩
    have hg := flat_three L i x hx
    have hc : ∀ j u, (L.flatMap insCells)[j]? = some u → w.cell? ⟨g, j, .none⟩ = some u := fun j u hj => by
      have h2 := World.ownsRow.cells h (g := g) rfl j u hj
      first
        | exact h2
        | (rw [Addr.add_lit, Nat.zero_add] at h2; exact h2)
    rw [Nat.zero_add]
    exact ⟨hc _ _ ((hg 0 (by omega)).trans rfl), hc _ _ ((hg 1 (by omega)).trans rfl), hc _ _ ((hg 2 (by omega)).trans rfl)⟩
/-- what was made since w1 lies on: rows apart -/
theorem Touch.row_grown {w1 W w2 : World} {row : Option Nat} (t : Touch [] w1 W) (hg : W.grownBy w2 row) (hr : ∀ k, row = some k → w1.heap.size ≤ k) : Touch [] w1 w2 := t.grown hg fun k hk => .inr (hr k hk)
end En
end Go.Proofs.YtdokeddjcpnmiaaGreatDoor

/- What the laws' walks share: one definition, and the run. -/
namespace Go.Proofs.YtdokeddjcpnmiaaGreatDoor
open Go.RowKit
namespace En

theorem keep_own {w w6 W : World} {g : Nat} {p : Lay} {F : List Nat} {m : M} (hF : ∀ x ∈ F, w.heap.size ≤ x) (t0 : Touch [] w w6) (K : Keep w6 g p F m W) : ∃ F', EngAt W g p F' m ∧ (∀ x ∈ F', w.heap.size ≤ x) ∧ Touch [] w W ∧ Touch F w6 W ∧ ∀ m2 W2, Keep W g p F' m2 W2 → Keep w6 g p F m2 W2 := by
  obtain ⟨F', h1, h2, h3⟩ := K
  refine ⟨F', h1, fun x hx => ?_, t0.trans h2 (fun x hx => .inr (hF x hx)), h2, fun m2 W2 k => Keep.trans h2 h3 k⟩
  rcases h3 x hx with e | e
  · exact hF x e
  · exact Nat.le_trans t0.size e
/-- nothing is done by a number: what would be done is told -/
def pD : Int → PS → Int × PS := fun _ S => (777, { S with out := [7] })
theorem pD_fine : FineD PS.ok pD := fun _ _ h1 h2 => ⟨h1, show ([7] : List Int).length ≤ 4000 by decide, h2.2⟩
theorem pD_bad : FineD (fun S : PS => S.out = [7]) pD := fun _ _ h1 _ => ⟨h1, rfl⟩
/-- an engine of one definition -/
structure One (m : M) (L : List (Int × Int × Int)) : Prop where
  code : m.code = codeOf L
  ends : m.ends = [((2 * L.length : Nat) : Int)]
  len : L.length ≤ 500
  op : ∀ x ∈ L, (0 ≤ x.1 ∧ x.1 < 256) ∧ 0 ≤ x.2.1 ∧ x.2.1 ≤ 1000000
  words : m.words.length ≤ 1000
theorem One.defAt {m : M} {L : List (Int × Int × Int)} (h : One m L) : DefAt m (1 : Nat) L := by
  refine defAt_of (pre := []) (post := []) (b := 0) (by decide) ?_ rfl ?_ ?_ rfl (fun x hx => (h.op x hx).1)
  · rw [h.ends]; exact Nat.le_refl _
  · rw [h.ends]; simp
  · rw [h.code]; simp
theorem One.noLoc {m : M} {L : List (Int × Int × Int)} (h : One m L) (hl : ∀ x ∈ L, x.1 ≠ 12 ∧ x.1 ≠ 13 ∧ x.1 ≠ 14) : NoLoc m := by
  intro df on op a v ha
  have hdf : df = 1 ∧ 0 ≤ on ∧ on < L.length := by
    unfold M.at_ at ha
    split at ha
    · cases ha
    · rename_i hc
      rw [h.ends] at hc
      have h1 : ¬ df < 1 := fun e => hc (.inl e)
      have h2 : ¬ (([((2 * L.length : Nat) : Int)] : List Int).length : Int) < df := fun e => hc (.inr (.inl e))
      simp at h2
      obtain rfl : df = 1 := by omega
      have hb : m.begin_ 1 = 0 := rfl
      rw [hb] at hc
      have h3 : ¬ on < 0 := fun e => hc (.inr (.inr (.inl e)))
      have h4 : ¬ ((([((2 * L.length : Nat) : Int)] : List Int).getD ((1 : Int) - 1).toNat 0 - ((0 : Nat) : Int)).tdiv 2 ≤ on) := fun e => hc (.inr (.inr (.inr e)))
      have e5 : (([((2 * L.length : Nat) : Int)] : List Int).getD ((1 : Int) - 1).toNat 0 - ((0 : Nat) : Int)).tdiv 2 = (L.length : Int) := by
        show (((2 * L.length : Nat) : Int) - ((0 : Nat) : Int)).tdiv 2 = _
        rw [Int.tdiv_eq_ediv_of_nonneg (by omega)]
        omega
      rw [e5] at h4
      exact ⟨rfl, by omega, by omega⟩
  obtain ⟨rfl, h0, h1⟩ := hdf
  obtain ⟨j, rfl⟩ : ∃ j : Nat, on = j := ⟨on.toNat, by omega⟩
  have hj : j < L.length := by omega
  have hd := h.defAt j L[j] (List.getElem?_eq_getElem hj)
  have e : some (op, a, v) = some L[j] := ha.symm.trans hd
  injection e with e
  have hm := hl _ (List.getElem_mem hj)
  rw [← e] at hm
  exact hm
theorem One.fine {m : M} {L : List (Int × Int × Int)} (h : One m L) (hst : m.S.st.length ≤ 128) (hfr : m.fr.length ≤ 128) (hI : m.I.outer.length ≤ 8 ∧ m.I.cur.text.size ≤ 1000 ∧ ∀ o ∈ m.I.outer, o.text.size ≤ 1000) (hok : PS.ok m.S) : Fine m := by
  have hl := h.len
  have hc : m.code.length = 2 * L.length := by rw [h.code, codeOf_len]
  refine ⟨hst, hfr, hI.1, hI.2, by have := h.words; omega, by omega, fun x hx => ?_, by rw [h.ends]; exact Nat.le_of_ble_eq_true rfl, hok, fun _ _ h => h⟩
  rw [h.ends, List.mem_singleton] at hx
  rw [hx, hc]
  omega
def ctlB (l : List (Int × Int × Int)) : Bool := l.all fun x => decide (x.1 = 2 → 1 ≤ x.2.1 ∧ x.2.1 ≤ 9)
theorem ctl_of {m : M} (h : ctlB m.words = true) : CtlOk m := by
  intro x n v hw
  unfold M.word at hw
  split at hw
  · cases hw
  · have := List.all_eq_true.1 h _ (List.mem_of_getElem? hw)
    exact (of_decide_eq_true this) rfl
theorem ctl_table : ctlB wordsT = true := by kernel_rfl
theorem ctl_app (A B : List (Int × Int × Int)) (hA : ctlB A = true) (hB : ctlB B = true) : ctlB (A ++ B) = true := by
  unfold ctlB at hA hB ⊢
  rw [List.all_append, hA, hB]
  rfl
theorem word_last (m : M) (A : List (Int × Int × Int)) (x : Int × Int × Int) (h : m.words = A ++ [x]) : m.word ((A.length : Int) + 1) = some x := by
  unfold M.word
  rw [if_neg (by omega), h, show ((A.length : Int) + 1 - 1).toNat = A.length by omega]
  simp
theorem wordsT_len : wordsT.length = 180 := by unfold wordsT; rw [List.length_map, table_len]
theorem nothing_next {m : M} (h0 : m.nx = 0) (hd : m.df = 0) (n : Int) : ¬ NextOp m n := by
  rintro (⟨h, _⟩ | ⟨_, a, v, u, ha, _⟩)
  · exact h h0
  · unfold M.at_ at ha
    rw [if_pos (.inl (by omega))] at ha
    cases ha
end En
end Go.Proofs.YtdokeddjcpnmiaaGreatDoor
