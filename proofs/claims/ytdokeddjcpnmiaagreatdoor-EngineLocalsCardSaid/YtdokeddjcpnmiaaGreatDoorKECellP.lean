import Derived.Test.YtdokeddjcpnmiaaGreatDoorKLwX
import Derived.Test.YtdokeddjcpnmiaaGreatDoorJPlX
import Derived.Test.YtdokeddjcpnmiaaGreatDoorJRowX
/- EngineCells: the words and the code that the law lays down, plain; rows of cells that are put ahead. -/
namespace Go.Proofs.YtdokeddjcpnmiaaGreatDoor
open Go.RowKit
namespace En

/-- the word that is called for the i-th cell -/
def ceNum (i : Nat) : Int := if i / 2 % 2 = 0 then 181 + 2 * (i : Int) else 182 + 2 * (i : Int)
def ceUs : Nat → List Int → List (Int × Int)
  | _, [] => []
  | i, c :: r => (ceNum i, c) :: ceUs (i + 1) r
def ceK (i : Nat) : Int := if i % 2 = 0 then 6 else 9
def ceWs : Nat → List Int → List (Int × Int × Int)
  | _, [] => []
  | i, c :: r => (ceK i, 0, c) :: (8, 181 + 2 * (i : Int), 0) :: ceWs (i + 1) r
theorem ceUs_snoc : ∀ (l : List Int) (i : Nat) (c : Int), ceUs i (l ++ [c]) = ceUs i l ++ [(ceNum (i + l.length), c)]
  | [], i, c => rfl
  | x :: l, i, c => by
    rw [List.cons_append]
    unfold ceUs
    rw [ceUs_snoc l (i + 1) c, List.length_cons, show i + 1 + l.length = i + (l.length + 1) by omega]
    rfl
theorem ceWs_snoc : ∀ (l : List Int) (i : Nat) (c : Int), ceWs i (l ++ [c]) = ceWs i l ++ [(ceK (i + l.length), 0, c), (8, 181 + 2 * ((i + l.length : Nat) : Int), 0)]
  | [], i, c => rfl
  | x :: l, i, c => by
    rw [List.cons_append]
    unfold ceWs
    rw [ceWs_snoc l (i + 1) c, List.length_cons, show i + 1 + l.length = i + (l.length + 1) by omega]
    rfl
theorem ceUs_len : ∀ (l : List Int) (i : Nat), (ceUs i l).length = l.length
  | [], _ => rfl
  | _ :: l, i => by unfold ceUs; rw [List.length_cons, ceUs_len l, List.length_cons]
theorem ceWs_len : ∀ (l : List Int) (i : Nat), (ceWs i l).length = 2 * l.length
  | [], _ => rfl
  | _ :: l, i => by unfold ceWs; rw [List.length_cons, List.length_cons, ceWs_len l, List.length_cons]; omega
theorem ceUs_snd : ∀ (l : List Int) (i : Nat), (ceUs i l).map (·.2) = l
  | [], _ => rfl
  | c :: l, i => by unfold ceUs; rw [List.map_cons, ceUs_snd l]
/-- what is put ahead -/
def ceWant (l : List Int) : List Int := l.reverse.flatMap fun c => [c, c]
theorem ceWant_snoc (l : List Int) (c : Int) : ceWant (l ++ [c]) = [c, c] ++ ceWant l := by unfold ceWant; rw [List.reverse_append]; rfl
theorem ceWant_len (l : List Int) : (ceWant l).length = 2 * l.length := by
  unfold ceWant
  rw [List.length_flatMap]
  simp
  induction l with
  | nil => rfl
  | cons a l ih => simp [ih]; omega
theorem putL_app (a b : List (Int × Int)) : putL (a ++ b) = putL a ++ putL b := by unfold putL; exact List.flatMap_append
theorem getL_succ (k : Nat) : getL (k + 1) = getL k ++ [(2, 110, 0), (2, 109, 0)] := by
  unfold getL
  rw [List.replicate_succ', List.flatten_append]
  rfl
theorem ceWs_get : ∀ (l : List Int) (i : Nat) (j : Nat) (c : Int), l[j]? = some c → (ceWs i l)[2 * j]? = some (ceK (i + j), 0, c) ∧ (ceWs i l)[2 * j + 1]? = some (8, 181 + 2 * ((i + j : Nat) : Int), 0)
  | [], _, _, _, h => by cases h
  | x :: l, i, 0, c, h => by
    simp only [List.getElem?_cons_zero, Option.some.injEq] at h
    subst h
    exact ⟨rfl, rfl⟩
  | x :: l, i, j + 1, c, h => by
    rw [List.getElem?_cons_succ] at h
    have h2 := ceWs_get l (i + 1) j c h
    unfold ceWs
    rw [show 2 * (j + 1) = 2 * j + 1 + 1 by omega, show 2 * j + 1 + 1 + 1 = (2 * j + 1) + 1 + 1 by omega, List.getElem?_cons_succ, List.getElem?_cons_succ, List.getElem?_cons_succ, List.getElem?_cons_succ, show i + (j + 1) = i + 1 + j by omega]
    exact h2
theorem ceUs_mem : ∀ (l : List Int) (i : Nat) (x : Int × Int), x ∈ ceUs i l → ∃ j, l[j]? = some x.2 ∧ x.1 = ceNum (i + j)
  | [], _, _, h => by cases h
  | c :: l, i, x, h => by
    unfold ceUs at h
    rcases List.mem_cons.1 h with rfl | h
    · exact ⟨0, rfl, rfl⟩
    · obtain ⟨j, h1, h2⟩ := ceUs_mem l (i + 1) x h
      exact ⟨j + 1, by rw [List.getElem?_cons_succ]; exact h1, by rw [h2, show i + 1 + j = i + (j + 1) by omega]⟩
def ceL (ys : List Int) : List (Int × Int × Int) := putL (ceUs 0 ys) ++ (getL ys.length ++ [(15, 0, 0)])
theorem ceL_len (ys : List Int) : (ceL ys).length = 4 * ys.length + 1 := by
  unfold ceL
  rw [List.length_append, List.length_append, putL_len, getL_len, ceUs_len]
  simp
  omega
theorem ceNum_pos (i : Nat) (h : i ≤ 20) : 1 ≤ ceNum i ∧ ceNum i ≤ 300 := by unfold ceNum; split <;> omega
theorem ceL_op (ys : List Int) (hy : ys.length ≤ 20) : ∀ x ∈ ceL ys, (x.1 = 2 ∧ 1 ≤ x.2.1 ∧ x.2.1 ≤ 300) ∨ x = (15, 0, 0) := by
  intro x hx
  unfold ceL at hx
  rcases List.mem_append.1 hx with hx | hx
  · unfold putL at hx
    obtain ⟨u, hu, hx⟩ := List.mem_flatMap.1 hx
    obtain ⟨j, h1, h2⟩ := ceUs_mem ys 0 u hu
    have hj : j < ys.length := (List.getElem?_eq_some_iff.1 h1).1
    have := ceNum_pos (0 + j) (by omega)
    simp only [List.mem_cons, List.not_mem_nil, or_false] at hx
    rcases hx with rfl | rfl
    · exact .inl ⟨rfl, by rw [h2]; exact this.1, by rw [h2]; exact this.2⟩
    · exact .inl ⟨rfl, by decide, by decide⟩
  · rcases List.mem_append.1 hx with hx | hx
    · unfold getL at hx
      obtain ⟨u, hu, hx⟩ := List.mem_flatten.1 hx
      rw [List.eq_of_mem_replicate hu] at hx
      simp only [List.mem_cons, List.not_mem_nil, or_false] at hx
      rcases hx with rfl | rfl
      · exact .inl ⟨rfl, by decide, by decide⟩
      · exact .inl ⟨rfl, by decide, by decide⟩
    · exact .inr (List.mem_singleton.1 hx)
/-- the engine that is run -/
def ceM (S : PS) (ys : List Int) : M := { ({ M.new S ins0' with words := wordsT ++ ceWs 0 ys } : M).laid (ceL ys) with words := wordsT ++ ceWs 0 ys ++ [(5, 1, 0), (8, 0, 0)] }
theorem ce_word {ys : List Int} {X : List (Int × Int × Int)} {m : M} (h : m.words = wordsT ++ ceWs 0 ys ++ X) {i : Nat} {u : Int × Int × Int} (hu : (ceWs 0 ys)[i]? = some u) : m.word (181 + (i : Int)) = some u := by
  have hi := (List.getElem?_eq_some_iff.1 hu).1
  unfold M.word
  rw [if_neg (by omega), h, show (181 + (i : Int) - 1).toNat = wordsT.length + i by rw [wordsT_len]; omega, List.getElem?_append_left (by rw [List.length_append]; omega), List.getElem?_append_right (by omega), show wordsT.length + i - wordsT.length = i by omega]
  exact hu
theorem ce_pushes (S : PS) (ys : List Int) : ∀ x ∈ ceUs 0 ys, Pushes (ceM S ys) x.1 x.2 := by
  intro x hx
  obtain ⟨j, h1, h2⟩ := ceUs_mem ys 0 x hx
  obtain ⟨g1, g2⟩ := ceWs_get ys 0 j x.2 h1
  rw [Nat.zero_add] at g1 g2 h2
  have w1 := ce_word (m := ceM S ys) (ys := ys) rfl g1
  have w2 := ce_word (m := ceM S ys) (ys := ys) rfl g2
  have e1 : (181 : Int) + ((2 * j : Nat) : Int) = 181 + 2 * (j : Int) := by omega
  have e2 : (181 : Int) + ((2 * j + 1 : Nat) : Int) = 182 + 2 * (j : Int) := by omega
  rw [e1] at w1
  rw [e2] at w2
  rw [h2]
  unfold ceNum
  by_cases hp : j / 2 % 2 = 0
  · rw [if_pos hp]
    exact .inl ⟨_, _, w1, by unfold ceK; split; exact .inl rfl; exact .inr rfl⟩
  · rw [if_neg hp]
    exact .inr ⟨181 + 2 * (j : Int), _, _, _, w2, by omega, w1, by unfold ceK; split; exact .inl rfl; exact .inr rfl⟩
theorem cells_rowR {w : World} {v : Value} {l : List Int} (h : CellsAt w v l) : RowR w v l := by
  rcases h with ⟨rfl, rfl⟩ | ⟨ad, c, rfl, h⟩
  · exact ⟨none, 0, rfl, fun i hi => by simp at hi⟩
  · refine ⟨some ad, c, rfl, fun i hi => ?_⟩
    have hc := h i _ (cells_get l i hi)
    obtain ⟨g, off, spot⟩ := ad
    have hs : spot = none := by simpa [Addr.add] using World.cell?_spot (h 0 _ (cells_get l 0 (by omega)))
    subst hs
    rw [add_off] at hc
    exact ⟨g, off, rfl, hc⟩
/-- a row that was just made -/
theorem row_fresh {w : World} {B : Nat} (hB : B ≤ w.heap.size) (l : List Int) (hl : l.length ≤ 1000000) : WantRow B (w.alloc (.cells (cells l).toArray 33)) (.slice (some ⟨w.heap.size, 0, none⟩) l.length l.length) l := by
  have hml : (1000000 : Nat) ≤ maxLen := by unfold maxLen; omega
  exact ⟨by rw [cells_length, Nat.mul_one], .inr ⟨w.heap.size, l.length, (cells l).toArray, rfl, hB, heap_alloc_new w _, Nat.le_refl _, by omega, by rw [List.size_toArray, cells_length, Nat.mul_one], by rw [Nat.mul_one]; exact List.take_of_length_le (by rw [cells_length]; exact Nat.le_refl _)⟩⟩
/-- a row is appended to a row -/
theorem wpList_wantR {w : World} {ops : Array Oper} {rest : List Oper} {o : Oper} {a : Act} {Q : Exit → Act → World → Prop} (hgd : o.guard = none) (s x : Operand)
    (ho : o.op = .call { callee := .builtin .append, args := #[s, x], argTypes := #[25, 25] }) (B : Nat) (v : Value) (L X : List Int) (hs : a.eval s = v) (hown : WantRow B w v L) (b m c : Nat) (hx : a.eval x = .slice (some ⟨b, 0, none⟩) m c) (hX : m = X.length) (hb : ∀ j u, (cells X)[j]? = some u → w.cell? ⟨b, j, none⟩ = some u) (h0 : 0 < m) (hL : L.length + m ≤ 1000000) (hB : B ≤ w.heap.size)
    (h : ∀ v' w', WantRow B w' v' (L ++ X) → w.grownBy w' v.ownBlock → (v'.ownBlock = v.ownBlock ∨ v'.ownBlock = some w.heap.size) → (∃ a c, v' = .slice a (L.length + m) c) → wpList Tryz.prog ops Q rest (a.put o.dst v') w') : wpList Tryz.prog ops Q (o :: rest) a w := by
  obtain ⟨i0, hi, hz, hsz, hby⟩ := info_cell'
  have hml : (1000000 : Nat) ≤ maxLen := by unfold maxLen; omega
  subst hX
  refine wpList_append_lies w hgd s x _ ho B 33 i0 _ 1 8 Tryz.underlying25 hi hz hsz hby rfl (by omega) v L.length _ hs hown ⟨b, 0, none⟩ X.length c (cells X) hx (by rw [cells_length, Nat.mul_one]) (fun j u hj => by rw [add_off, Nat.zero_add]; exact hb j u hj) (cells_one X) h0 (by omega) (by omega) hB _ rfl ?_
  intro g cap w' h1 h2 h3 _
  refine h _ _ ?_ h2 ?_ ⟨_, _, rfl⟩
  · unfold WantRow
    rw [List.length_append, cells_append]
    exact h1
  · rcases h3 with h3 | h3
    · exact .inl h3.symm
    · exact .inr (by rw [h3]; rfl)
/-- instructions are appended, at an operation of a region in any order -/
theorem wp_code {w : World} {o : Oper} {a : Act} {K : Act → World → Prop} {Q : Exit → Act → World → Prop} (s x : Operand)
    (ho : o.op = .call { callee := .builtin .append, args := #[s, x], argTypes := #[22, 22] }) (B : Nat) (v : Value) (L X : List (Int × Int × Int)) (hs : a.eval s = v) (hown : CodeRow B w v L) (b m c : Nat) (hx : a.eval x = .slice (some ⟨b, 0, none⟩) m c) (hX : m = X.length) (hb : Blk w b 56 (X.flatMap insCells).toArray) (h0 : 0 < m) (hL : L.length + m ≤ 1000000) (hB : B ≤ w.heap.size)
    (h : ∀ v' w', CodeRow B w' v' (L ++ X) → w.grownBy w' v.ownBlock → (v'.ownBlock = v.ownBlock ∨ v'.ownBlock = some w.heap.size) → (∃ a c, v' = .slice a (L.length + m) c) → K (a.put o.dst v') w') : o.wp Tryz.prog a w K Q := by
  obtain ⟨i0, hi, hz, hsz, hby⟩ := info_ins'
  have hml : (1000000 : Nat) ≤ maxLen := by unfold maxLen; omega
  subst hX
  refine wp_append_lies w s x _ ho B 56 i0 _ 3 24 Tryz.underlying22 hi hz hsz hby rfl (by omega) v L.length _ hs hown ⟨b, 0, none⟩ X.length c (X.flatMap insCells) hx (insCells_len X) (World.news_of_block hb) (insCells_one X) h0 (by omega) (by omega) hB _ rfl ?_
  intro g cap w' h1 h2 h3 _
  refine h _ _ ?_ h2 ?_ ⟨_, _, rfl⟩
  · unfold CodeRow
    rw [List.length_append, List.flatMap_append]
    exact h1
  · rcases h3 with h3 | h3
    · exact .inl h3.symm
    · exact .inr (by rw [h3]; rfl)
end En
end Go.Proofs.YtdokeddjcpnmiaaGreatDoor
