import Derived.Test.YtdokeddjcpnmiaaGreatDoorJTaX
/- Set: a word is another one. -/
namespace Go.Proofs.YtdokeddjcpnmiaaGreatDoor
open Go.RowKit
namespace En

theorem own_set {w : World} {B : Nat} {e : TypeId} {size g n cap : Nat} {xs : List Value} (h : w.ownsRow B e size (.slice (some ⟨g, 0, none⟩) n cap) n xs) (j : Nat) (u : Value) : (w.setCell ⟨g, j, none⟩ u).ownsRow B e size (.slice (some ⟨g, 0, none⟩) n cap) n (xs.set j u) := by
  refine ⟨by rw [List.length_set]; exact h.1, ?_⟩
  rcases h.2 with ⟨hv, _⟩ | ⟨g', cap', cur, hv, hB, hg, h1, h2, h3, h4⟩
  · cases hv
  · injection hv with e1 e2 e3
    injection e1 with e1
    injection e1 with e1
    subst e1 e3
    refine .inr ⟨g, cap, cur.setIfInBounds j u, rfl, hB, Blk.set_ (show Blk w g e cur from hg) j u, h1, h2, by simp [h3], ?_⟩
    rw [Array.toList_setIfInBounds, List.take_set, h4]
theorem words_set (L : List (Int × Int × Int)) (i : Nat) (hi : i < L.length) (k n v : Int) : (((L.flatMap wdCells).set (i * 3) (.int .i64 k)).set (i * 3 + 1) (.int .i64 n)).set (i * 3 + 2) (.int .i64 v) = (L.set i (k, n, v)).flatMap wdCells := by
  induction L generalizing i with
  | nil => simp at hi
  | cons a t ih =>
    cases i with
    | zero => rfl
    | succ i =>
      have h := ih i (by simpa using hi)
      have hl : (wdCells a).length = 3 := rfl
      rw [List.set_cons_succ, List.flatMap_cons, List.flatMap_cons, ← h]
      rw [List.set_append_right _ _ (by rw [hl]; omega), List.set_append_right _ _ (by rw [hl]; omega), List.set_append_right _ _ (by rw [hl]; omega), hl]
      rw [show (i + 1) * 3 - 3 = i * 3 by omega, show (i + 1) * 3 + 1 - 3 = i * 3 + 1 by omega, show (i + 1) * 3 + 2 - 3 = i * 3 + 2 by omega]
set_option maxHeartbeats 2000000 in
theorem find_own {w : World} {g : Nat} {p : Lay} {cv ev : Value} {b cap n : Nat} {Ff FS FI : List Nat} {m : M} (h : Lie w g p cv ev (.slice (some ⟨b, 0, none⟩) n cap) Ff FS FI m) (hn : m.words.length = n) (hl : n ≤ 1000000) (i : Nat) (hi : i < n) : Calls Tryz.prog 43 #[.pointer (some ⟨g, 0, none⟩), .int .i64 ((i : Int) + 1)] w fun e w' => e = .returned (.pointer (some ⟨b, i * 3, none⟩)) ∧ w = w' := by
  have c2 := h.blk.cell 2
  have hw := h.words
  have e1 : IntKind.i64.wrap (i : Int) = i := by rw [IntKind.wrap_i64]; omega
  have e2 : (i : Int) < (n : Int) := by omega
  have e3 : ¬ (i : Int) + 1 > (n : Int) := by omega
  clear h hw hn
  go_enter Tryz.func43, Tryz.ntmps43
  go_wp2_with fail
  go_ret
  exact ⟨rfl, rfl⟩
set_option maxRecDepth 100000 in
set_option maxHeartbeats 3200000 in
theorem Set_ok {w : World} {g : Nat} {p : Lay} {F : List Nat} {m : M} (h : EngAt w g p F m) (hwl : m.words.length ≤ 600) (i : Nat) (hi : i < m.words.length) (k n v : Int) (hm : MayW m k n) (ml : Int) (hml : w.cell? ⟨3, 0, none⟩ = some (.int .i64 ml)) : Calls Tryz.prog 28 #[.pointer (some ⟨g, 0, none⟩), .int .i64 ((i : Int) + 1), .agg #[.int .i64 k, .int .i64 n, .int .i64 v]] w fun e w' =>
    e = .returned (.int .i64 0) ∧ Keep w g p F { m with words := m.words.set i (k, n, v) } w' := by
  have tB := (Touch.refl [] w).alloc (.cells #[.int .i64 k, .int .i64 n, .int .i64 v] 35)
  have bB := Blk.new w 35 #[.int .i64 k, .int .i64 n, .int .i64 v]
  have hE := h.touch tB (by simp)
  have hMay := fun W (t : Touch [] (w.alloc (.cells #[.int .i64 k, .int .i64 n, .int .i64 v] 35)) W) => may_yes (hE.touch t (by simp)) k n v hm ml (cell_quiet (tB.trans t (by simp)) hml)
  obtain ⟨q, hq⟩ : ∃ q, m.words.length = q := ⟨_, rfl⟩
  obtain ⟨cv, ev, wv, Ff, FS, FI, hL, rfl⟩ := hE
  obtain ⟨b, cap, rfl⟩ : ∃ b cap, wv = .slice (some ⟨b, 0, none⟩) q cap := by
    rcases Go.Joins.ownsRow_forms hL.words with ⟨_, h0⟩ | ⟨b, cap, e⟩
    · omega
    · exact ⟨b, cap, by rw [e, hq]⟩
  rw [hq] at hwl hi
  have hFi := find_own hL hq (by omega) i hi
  obtain ⟨z, hz⟩ : ∃ z, w.heap.size = z := ⟨_, rfl⟩
  rw [hz] at bB
  have x0 : (w.alloc (.cells #[.int .i64 k, .int .i64 n, .int .i64 v] 35)).cell? ⟨z, 0, none⟩ = some (.int .i64 k) := bB.cell 0
  have x1 : (w.alloc (.cells #[.int .i64 k, .int .i64 n, .int .i64 v] 35)).cell? ⟨z, 1, none⟩ = some (.int .i64 n) := bB.cell 1
  have x2 : (w.alloc (.cells #[.int .i64 k, .int .i64 n, .int .i64 v] 35)).cell? ⟨z, 2, none⟩ = some (.int .i64 v) := bB.cell 2
  have HH := Lib.hid (And.intro hL (And.intro tB hq))
  have HM := Lib.hid hMay
  clear h hm hml hL tB bB hq hMay
  go_enter Tryz.func28, Tryz.ntmps28
  go_upto_region 1 with fail
  clear hz
  generalize w.alloc (.cells #[.int .i64 k, .int .i64 n, .int .i64 v] 35) = W0 at *
  go_wp2_with fail
  refine hFi.mono ?_
  rintro _ _ ⟨rfl, rfl⟩
  clear hFi
  go_wp2_with fail
  refine Calls.mono (HM.out _ (Touch.refl [] W0)) ?_
  rintro _ w5 ⟨rfl, t5⟩
  have HL5 : Hid (Lie w5 g p cv ev (.slice (some ⟨b, 0, none⟩) q cap) Ff FS FI m) := Lib.hid (by
    have h := HH.out.1
    have hz := fun B (hB : B ∈ [[g], rowOf cv, rowOf ev, rowOf (.slice (some ⟨b, 0, none⟩) q cap), Ff, FS, FI]) x hx => h.lt B hB x hx
    exact ⟨h.blk.touch t5 (by simp), row_touch h.code t5 (by simp), row_touch h.ends t5 (by simp), row_touch h.words t5 (by simp), h.fr.touch t5 (by simp), State_touch h.st t5 (by simp), h.inp.touch t5 (by simp), h.apart⟩)
  have hrow := HL5.out.words
  rw [HH.out.2.2] at hrow
  obtain ⟨cur, hbk⟩ : ∃ cur, Blk w5 b 35 cur := by
    rcases hrow.2 with ⟨hv, _⟩ | ⟨g', cap', cur, hv, _, hg, _⟩
    · cases hv
    · injection hv with e1 e2 e3
      injection e1 with e1
      injection e1 with e1
      exact ⟨cur, by rw [e1]; exact hg⟩
  obtain ⟨k0, k1, k2⟩ := word_cell hrow (List.getElem?_eq_getElem (by rw [HH.out.2.2]; exact hi) : m.words[i]? = some (m.words[i]'(by rw [HH.out.2.2]; exact hi)))
  have f0 := hbk.frozen (i * 3)
  have f1 := hbk.frozen (i * 3 + 1)
  have f2 := hbk.frozen (i * 3 + 2)
  have y0 := cell_quiet t5 x0
  have y1 := cell_quiet t5 x1
  have y2 := cell_quiet t5 x2
  have T5 := Lib.hid (HH.out.2.1.trans t5 (by simp))
  generalize m.words[i]'(by rw [HH.out.2.2]; exact hi) = u0 at *
  clear hrow hbk x0 x1 x2 t5
  go_wp2_with fail
  go_ret
  refine ⟨rfl, Keep.pre T5.out ?_⟩
  have h5 := HL5.out
  have hr := h5.words
  rw [HH.out.2.2] at hr
  have hbg : b ≠ g := fun e => (h5.rows_off.2.2 g (by simp [rowOf, e])).1 rfl
  have hr3 := own_set (own_set (own_set hr (i * 3) (.int .i64 k)) (i * 3 + 1) (.int .i64 n)) (i * 3 + 2) (.int .i64 v)
  rw [words_set m.words i (by rw [HH.out.2.2]; exact hi)] at hr3
  refine h5.wds (wv' := .slice (some ⟨b, 0, none⟩) q cap) (L := m.words.set i (k, n, v)) (((h5.blk.far (p := ⟨b, i * 3, none⟩) (fun e => hbg e.symm) _).far (p := ⟨b, i * 3 + 1, none⟩) (fun e => hbg e.symm) _).far (p := ⟨b, i * 3 + 2, none⟩) (fun e => hbg e.symm) _) ?_ ?_ (Sub.refl _ _)
  · rw [List.length_set, HH.out.2.2]
    exact hr3
  · exact (((Touch.refl _ w5).setCell (p := ⟨b, i * 3, none⟩) (.inl (by simp [rowOf])) _).setCell (p := ⟨b, i * 3 + 1, none⟩) (.inl (by simp [rowOf])) _).setCell (p := ⟨b, i * 3 + 2, none⟩) (.inl (by simp [rowOf])) _
end En
end Go.Proofs.YtdokeddjcpnmiaaGreatDoor
