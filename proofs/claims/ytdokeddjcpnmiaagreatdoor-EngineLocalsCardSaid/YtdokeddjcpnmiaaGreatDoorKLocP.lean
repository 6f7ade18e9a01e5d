import Derived.Test.YtdokeddjcpnmiaaGreatDoorKECellR
import Derived.Test.YtdokeddjcpnmiaaGreatDoorKEngRunL
import Derived.Test.YtdokeddjcpnmiaaGreatDoorJPlX
/- EngineLocals: the engine that the law makes, plain; a row that was just made. -/
namespace Go.Proofs.YtdokeddjcpnmiaaGreatDoor
open Go.RowKit
namespace En

theorem localL_len (c : Nat) (x : Int) (k : Nat) (inn : Int) : (localL c x k inn).length = 6 + c := by
  unfold localL
  simp
  omega
theorem localL_op (c : Nat) (hc : c ≤ 16) (x : Int) (k : Nat) (hk : k < c) : ∀ u ∈ localL c x k 181, ((0 ≤ u.1 ∧ u.1 < 256) ∧ 0 ≤ u.2.1 ∧ u.2.1 ≤ 1000000) ∧ (u.1 = 12 → u.2.1 ≤ 1000) := by
  intro u hu
  unfold localL at hu
  rcases List.mem_append.1 hu with hu | hu
  · simp only [List.mem_cons, List.not_mem_nil, or_false] at hu
    rcases hu with rfl | rfl | rfl | rfl | rfl <;> (dsimp only; omega)
  · rcases List.mem_append.1 hu with hu | hu
    · obtain ⟨i, hi, rfl⟩ := List.mem_map.1 hu
      have := (List.mem_range'_1.1 hi).2
      dsimp only
      omega
    · rw [List.mem_singleton.1 hu]
      decide
theorem innerL_op : ∀ u ∈ innerL, ((0 ≤ u.1 ∧ u.1 < 256) ∧ 0 ≤ u.2.1 ∧ u.2.1 ≤ 1000000) ∧ (u.1 = 12 → u.2.1 ≤ 1000) := by
  intro u hu
  unfold innerL at hu
  simp only [List.mem_cons, List.not_mem_nil, or_false] at hu
  rcases hu with rfl | rfl | rfl | rfl <;> decide
def lc1 (S : PS) : M := { (({ M.new S ins0' with words := wordsT } : M).laid innerL) with words := wordsT ++ [(5, 1, 0)] }
/-- the engine that is run -/
def lcM (S : PS) (c : Nat) (x : Int) (k : Nat) : M := { ((lc1 S).laid (localL c x k 181)) with words := wordsT ++ [(5, 1, 0), (5, 2, 0)] }
theorem lc_code (S : PS) (c : Nat) (x : Int) (k : Nat) : (lcM S c x k).code = codeOf innerL ++ codeOf (localL c x k 181) := rfl
theorem lc_ends (S : PS) (c : Nat) (x : Int) (k : Nat) : (lcM S c x k).ends = [8, ((8 + 2 * (6 + c) : Nat) : Int)] := by
  show [8, (((8 : Nat) + 2 * (localL c x k 181).length : Nat) : Int)] = _
  rw [localL_len]
section
variable {S : PS} {c k : Nat} {x : Int} {m : M} (hC : m.code = codeOf innerL ++ codeOf (localL c x k 181)) (hE : m.ends = [8, ((8 + 2 * (6 + c) : Nat) : Int)]) (hc : c ≤ 16) (hk : k < c)
include hC hE hc hk
omit hc hk in
theorem lc_inner : DefAt m 1 innerL := by
  refine defAt_of (n := 1) (pre := []) (post := codeOf (localL c x k 181)) (b := 0) (by decide) (by rw [hE]; exact Nat.le_of_ble_eq_true rfl) rfl (by rw [hE]; rfl) (by rw [hC]; rfl) rfl (fun u hu => (innerL_op u hu).1.1)
theorem lc_local : DefAt m 2 (localL c x k 181) := by
  refine defAt_of (n := 2) (pre := codeOf innerL) (post := []) (b := 8) (by decide) (by rw [hE]; exact Nat.le_of_ble_eq_true rfl) (by unfold M.begin_; rw [hE]; rfl) (by rw [hE, localL_len]; rfl) (by rw [hC, List.append_nil]) rfl (fun u hu => (localL_op c hc x k hk u hu).1.1)
theorem lc_locB : LocB m := by
  intro df on a v ha
  have hA1 := lc_inner hC hE
  have hA2 := lc_local hC hE hc hk
  have ha0 := ha
  unfold M.at_ at ha
  split at ha
  · cases ha
  · rename_i hq
    rw [hE] at hq
    have h1 : ¬ df < 1 := fun e => hq (.inl e)
    have h2 : ¬ ((([8, ((8 + 2 * (6 + c) : Nat) : Int)] : List Int).length : Nat) : Int) < df := fun e => hq (.inr (.inl e))
    have h3 : ¬ on < 0 := fun e => hq (.inr (.inr (.inl e)))
    have h4 : ¬ ((([8, ((8 + 2 * (6 + c) : Nat) : Int)] : List Int).getD (df - 1).toNat 0 - (m.begin_ df : Int)).tdiv 2 ≤ on) := fun e => hq (.inr (.inr (.inr e)))
    have h2' : df ≤ 2 := by
      have : ((([8, ((8 + 2 * (6 + c) : Nat) : Int)] : List Int).length : Nat) : Int) = 2 := rfl
      omega
    obtain ⟨j, rfl⟩ : ∃ j : Nat, on = j := ⟨on.toNat, by omega⟩
    rcases (by omega : df = 1 ∨ df = 2) with rfl | rfl
    · have hb : m.begin_ 1 = 0 := rfl
      rw [hb] at h4
      have hj : j < innerL.length := by
        have e5 : (([8, ((8 + 2 * (6 + c) : Nat) : Int)] : List Int).getD ((1 : Int) - 1).toNat 0 - ((0 : Nat) : Int)).tdiv 2 = 4 := rfl
        rw [e5] at h4
        show j < 4
        omega
      have hd := hA1 j innerL[j] (List.getElem?_eq_getElem hj)
      have e : some ((12 : Int), a, v) = some innerL[j] := ha0.symm.trans hd
      injection e with e
      have hm := innerL_op _ (List.getElem_mem hj)
      rw [← e] at hm
      exact ⟨hm.1.2.1, hm.2 rfl⟩
    · have hb : m.begin_ 2 = 8 := by unfold M.begin_; rw [hE]; rfl
      rw [hb] at h4
      have hj : j < (localL c x k 181).length := by
        have e5 : (([8, ((8 + 2 * (6 + c) : Nat) : Int)] : List Int).getD ((2 : Int) - 1).toNat 0 - ((8 : Nat) : Int)).tdiv 2 = ((6 + c : Nat) : Int) := by
          show (((8 + 2 * (6 + c) : Nat) : Int) - ((8 : Nat) : Int)).tdiv 2 = _
          rw [Int.tdiv_eq_ediv_of_nonneg (by omega)]
          omega
        rw [e5] at h4
        rw [localL_len]
        omega
      have hd := hA2 j (localL c x k 181)[j] (List.getElem?_eq_getElem hj)
      have e : some ((12 : Int), a, v) = some (localL c x k 181)[j] := ha0.symm.trans hd
      injection e with e
      have hm := localL_op c hc x k hk _ (List.getElem_mem hj)
      rw [← e] at hm
      exact ⟨hm.1.2.1, hm.2 rfl⟩
end
theorem lcFine (S : PS) (c : Nat) (hc : c ≤ 16) (x : Int) (k : Nat) (nx : Int) (st : List Int) (hst : st.length ≤ 128) (hok : PS.ok S) : Fine ({ lcM S c x k with nx := nx, S := { S with st := st } } : M) := by
  refine ⟨hst, Nat.le_of_ble_eq_true rfl, Nat.le_of_ble_eq_true rfl, ⟨Nat.le_of_ble_eq_true rfl, by intro o ho; cases ho⟩, ?_, ?_, ?_, Nat.le_of_ble_eq_true rfl, hok, fun _ _ h => h⟩
  · show (wordsT ++ [((5 : Int), (1 : Int), (0 : Int)), (5, 2, 0)]).length ≤ 1000000
    rw [List.length_append, wordsT_len]
    decide
  · show (codeOf innerL ++ codeOf (localL c x k 181)).length ≤ 10000000
    rw [List.length_append, codeOf_len, codeOf_len, localL_len]
    show 8 + 2 * (6 + c) ≤ _
    omega
  · intro y hy
    have hy : y ∈ (lcM S c x k).ends := hy
    rw [lc_ends] at hy
    show 0 ≤ y ∧ y ≤ (((codeOf innerL ++ codeOf (localL c x k 181)).length : Nat) : Int)
    rw [List.length_append, codeOf_len, codeOf_len, localL_len]
    simp only [List.mem_cons, List.not_mem_nil, or_false] at hy
    rcases hy with rfl | rfl
    · show (0 : Int) ≤ 8 ∧ (8 : Int) ≤ ((8 + 2 * (6 + c) : Nat) : Int)
      omega
    · show (0 : Int) ≤ ((8 + 2 * (6 + c) : Nat) : Int) ∧ ((8 + 2 * (6 + c) : Nat) : Int) ≤ ((8 + 2 * (6 + c) : Nat) : Int)
      omega
theorem lc_words (S : PS) (c : Nat) (x : Int) (k : Nat) : (lcM S c x k).word 181 = some (5, 1, 0) ∧ (lcM S c x k).word 182 = some (5, 2, 0) := by
  constructor
  · unfold M.word
    rw [if_neg (by decide), show ((181 : Int) - 1).toNat = wordsT.length + 0 by rw [wordsT_len]; rfl]
    show (wordsT ++ [(5, 1, 0), (5, 2, 0)])[_]? = _
    rw [List.getElem?_append_right (by omega), Nat.add_sub_cancel_left]
    rfl
  · unfold M.word
    rw [if_neg (by decide), show ((182 : Int) - 1).toNat = wordsT.length + 1 by rw [wordsT_len]; rfl]
    show (wordsT ++ [(5, 1, 0), (5, 2, 0)])[_]? = _
    rw [List.getElem?_append_right (by omega), Nat.add_sub_cancel_left]
    rfl
theorem lcRun (S : PS) (y : List Int) (h1 : 1 ≤ y.length) (h2 : y.length ≤ 16) (x : Int) (k : Nat) (hk : k < y.length) : M.run pD 200 { lcM S y.length x k with nx := 182, S := { S with st := y } } = ((5, 0, 0), (lcM S y.length x k).go 0 0 (y.set k x) []) :=
  locals_law (D := pD) (m := lcM S y.length x k) y h1 h2 k hk x 181 182 (lc_inner (lc_code _ _ _ _) (lc_ends _ _ _ _)) (lc_local (lc_code _ _ _ _) (lc_ends _ _ _ _) h2 hk) (by rw [lc_ends]; exact Nat.le_of_ble_eq_true rfl) (lc_words _ _ _ _).1 (lc_words _ _ _ _).2 (by decide)
/-- a row of instructions that was just made -/
theorem code_fresh {w : World} {B : Nat} (hB : B ≤ w.heap.size) (L : List (Int × Int × Int)) (hl : L.length ≤ 1000000) : CodeRow B (w.alloc (.cells (L.flatMap insCells).toArray 56)) (.slice (some ⟨w.heap.size, 0, none⟩) L.length L.length) L := by
  have hml : (1000000 : Nat) ≤ maxLen := by unfold maxLen; omega
  exact ⟨insCells_len L, .inr ⟨w.heap.size, L.length, (L.flatMap insCells).toArray, rfl, hB, heap_alloc_new w _, Nat.le_refl _, by omega, by rw [List.size_toArray, insCells_len], List.take_of_length_le (by rw [insCells_len]; exact Nat.le_refl _)⟩⟩
section
variable {w wr w2 : World} {g : Nat} {p : Lay} {m : M} {LC LC' : List (Int × Int × Int)} {LW : List Int} {cv wv v' : Value}
theorem CeG.code_new (h : CeG w g p m LC LW cv wv wr) (t : Touch [] wr w2) (h1 : CodeRow w.heap.size w2 v' LC') (hn : ∀ x ∈ rowOf v', wr.heap.size ≤ x) : CeG w g p m LC' LW v' wv w2 := by
  obtain ⟨⟨F', e1, e2, e3, e4⟩, h5, h6, h7, h8⟩ := h.quiet t
  obtain ⟨⟨F0, a1, a2, a3, a4⟩, b5, b6, b7, b8⟩ := h
  refine ⟨⟨F0, a1.touch t (by simp), a2, fun x hx hF => ?_, a4⟩, h1, h6, fun x hx hw => ?_, h8⟩
  · have := a1.lt x hF; have := hn x hx; omega
  · have := (own_base b6 x hw).2; have := hn x hx; omega
/-- a cell of the row of cells turns -/
theorem CeG.want_set {gw cap : Nat} (h : CeG w g p m LC LW cv (.slice (some ⟨gw, 0, none⟩) LW.length cap) wr) (i : Nat) (x : Int) : CeG w g p m LC (LW.set i x) cv (.slice (some ⟨gw, 0, none⟩) LW.length cap) (wr.setCell ⟨gw, i, none⟩ (.int .i64 x)) := by
  have t : Touch [gw] wr (wr.setCell ⟨gw, i, none⟩ (.int .i64 x)) := (Touch.refl [gw] wr).setCell (by simp) _
  obtain ⟨⟨F', e1, e2, e3, e4⟩, h5, h6, h7, h8⟩ := h
  refine ⟨⟨F', e1.touch t (fun y hy hg => ?_), e2, e3, e4⟩, row_touch h5 t (fun y hy hg => ?_), ?_, h7, h8.trans t (fun y hy => .inr ?_)⟩
  · rw [List.mem_singleton.1 hg] at hy
    exact e4 gw (by simp [rowOf]) hy
  · rw [List.mem_singleton.1 hg] at hy
    exact h7 gw hy (by simp [rowOf])
  · obtain ⟨h1, h2⟩ := h6
    rcases h2 with ⟨h0, _⟩ | ⟨g', cap', cur, hv, hg, hh, hn', hcap, hsz, htake⟩
    · cases h0
    · cases hv
      have hb : Blk wr gw 33 cur := hh
      refine ⟨by rw [cells_length, Nat.mul_one], .inr ⟨gw, cap, cur.setIfInBounds i (.int .i64 x), by rw [List.length_set], hg, hb.set_ i _, by rw [List.length_set]; exact hn', hcap, by rw [Array.size_setIfInBounds]; exact hsz, ?_⟩⟩
      rw [List.length_set, Array.toList_setIfInBounds, List.take_set, htake]
      simp [cells, List.map_set]
  · rw [List.mem_singleton.1 hy]
    exact (own_base h6 gw (by simp [rowOf])).1
end
/-- cells that come in are put on the stack -/
theorem put_in {w : World} {g : Nat} {p : Lay} {F : List Nat} {m : M} (h : EngAt w g p F m) {gg off c : Nat} {l : List Int} (hcell : ∀ j u, (cells l)[j]? = some u → w.cell? ⟨gg, off + j, none⟩ = some u) (hl : m.S.st.length + l.length ≤ 128) : Calls Tryz.prog 16 #[.pointer (some ⟨m.S.k, 0, none⟩), .slice (some ⟨gg, off, none⟩) l.length c] w fun e w' =>
    e = .returned (.int .i64 0) ∧ Keep w g p F { m with S := { m.S with st := m.S.st ++ l } } w' := by
  obtain ⟨dv, ev, wv, Ff, FS, FI, h, rfl⟩ := h
  obtain ⟨FK, ov, mv, hp, e⟩ := h.st
  refine (Put_ok w _ _ _ hp.stk gg off c l hl hcell).mono ?_
  rintro _ w1 ⟨F', rfl, hk, t, s⟩
  exact ⟨rfl, h.stk hp e hk t s⟩
/-- a row of cells out of cells that came in -/
theorem wpList_wantA {w : World} {ops : Array Oper} {rest : List Oper} {o : Oper} {a : Act} {Q : Exit → Act → World → Prop} (hgd : o.guard = none) (s x : Operand)
    (ho : o.op = .call { callee := .builtin .append, args := #[s, x], argTypes := #[25, 25] }) (B : Nat) (v : Value) (L X : List Int) (hs : a.eval s = v) (hown : WantRow B w v L) (b off m c : Nat) (hx : a.eval x = .slice (some ⟨b, off, none⟩) m c) (hX : m = X.length) (hb : ∀ j u, (cells X)[j]? = some u → w.cell? ⟨b, off + j, none⟩ = some u) (h0 : 0 < m) (hL : L.length + m ≤ 1000000) (hB : B ≤ w.heap.size)
    (h : ∀ v' w', WantRow B w' v' (L ++ X) → w.grownBy w' v.ownBlock → (v'.ownBlock = v.ownBlock ∨ v'.ownBlock = some w.heap.size) → (∃ gw c, v' = .slice (some ⟨gw, 0, none⟩) (L.length + m) c) → wpList Tryz.prog ops Q rest (a.put o.dst v') w') : wpList Tryz.prog ops Q (o :: rest) a w := by
  obtain ⟨i0, hi, hz, hsz, hby⟩ := info_cell'
  have hml : (1000000 : Nat) ≤ maxLen := by unfold maxLen; omega
  subst hX
  refine wpList_append_lies w hgd s x _ ho B 33 i0 _ 1 8 Tryz.underlying25 hi hz hsz hby rfl (by omega) v L.length _ hs hown ⟨b, off, none⟩ X.length c (cells X) hx (by rw [cells_length, Nat.mul_one]) (fun j u hj => by rw [add_off]; exact hb j u hj) (cells_one X) h0 (by omega) (by omega) hB _ rfl ?_
  intro g cap w' h1 h2 h3 _
  refine h _ _ ?_ h2 ?_ ⟨_, _, rfl⟩
  · unfold WantRow
    rw [List.length_append, cells_append]
    exact h1
  · rcases h3 with h3 | h3
    · exact .inl h3.symm
    · exact .inr (by rw [h3]; rfl)
end En
end Go.Proofs.YtdokeddjcpnmiaaGreatDoor
