import Derived.Test.YtdokeddjcpnmiaaGreatDoorKEngA
import Derived.Test.YtdokeddjcpnmiaaGreatDoorJTnX
import Derived.Test.YtdokeddjcpnmiaaGreatDoorKEngK
import Derived.Lib.SliceRun
/- The engine's rows turn: its words, its code, where definitions end. -/
namespace Go.Proofs.YtdokeddjcpnmiaaGreatDoor
open Go.RowKit
namespace En

section
variable {w w' : World} {g : Nat} {p : Lay} {cv ev wv : Value} {Ff FS FI : List Nat} {m : M}
theorem Lie.rows_off (h : Lie w g p cv ev wv Ff FS FI m) : (∀ x ∈ rowOf cv, x ≠ g ∧ x ∉ rowOf ev ∧ x ∉ rowOf wv) ∧ (∀ x ∈ rowOf ev, x ≠ g ∧ x ∉ rowOf wv ∧ x ∉ rowOf cv) ∧ ∀ x ∈ rowOf wv, x ≠ g ∧ x ∉ rowOf cv ∧ x ∉ rowOf ev := by
  have hc := fun B hB x hx => Apart.mid (r := [[g]]) h.apart B hB x hx
  have he := fun B hB x hx => Apart.mid (r := [[g], rowOf cv]) h.apart B hB x hx
  have hw := fun B hB x hx => Apart.mid (r := [[g], rowOf cv, rowOf ev]) h.apart B hB x hx
  refine ⟨fun x hx => ⟨fun e => hc [g] (by simp) g (by simp) (e ▸ hx), fun k => hc (rowOf ev) (by simp) x k hx, fun k => hc (rowOf wv) (by simp) x k hx⟩,
    fun x hx => ⟨fun e => he [g] (by simp) g (by simp) (e ▸ hx), fun k => he (rowOf wv) (by simp) x k hx, fun k => he (rowOf cv) (by simp) x k hx⟩,
    fun x hx => ⟨fun e => hw [g] (by simp) g (by simp) (e ▸ hx), fun k => hw (rowOf cv) (by simp) x k hx, fun k => hw (rowOf ev) (by simp) x k hx⟩⟩
/-- the words turn -/
theorem Lie.wds (h : Lie w g p cv ev wv Ff FS FI m) {wv' : Value} {L : List (Int × Int × Int)} (hb : Blk w' g 85 (engCells p cv ev wv' m)) (hr : w'.ownsRow 0 35 3 wv' L.length (L.flatMap wdCells)) (t : Touch (g :: rowOf wv) w w') (s : Sub w (rowOf wv) (rowOf wv')) :
    Keep w g p (footE g cv ev wv Ff FS FI) { m with words := L } w' := by
  obtain ⟨a1, a2, a3, a4, a5, a6, a7⟩ := h.off
  obtain ⟨b1, b2, b3⟩ := h.rows_off
  have off : ∀ x, x ≠ g → x ∉ rowOf wv → x ∉ g :: rowOf wv := fun x h1 h2 h3 => (List.mem_cons.1 h3).elim h1 h2
  refine ⟨footE g cv ev wv' Ff FS FI, ⟨cv, ev, wv', Ff, FS, FI, ⟨hb, row_touch h.code t (fun x hx => off x (b1 x hx).1 (b1 x hx).2.2), row_touch h.ends t (fun x hx => off x (b2 x hx).1 (b2 x hx).2.1), hr,
    h.fr.touch t (fun x hx => off x (fun e => (a5 x hx).1 (by simp [e])) (fun k => (a4 x k).2.1 hx)), State_touch h.st t (fun x hx => off x (fun e => (a6 x hx).1 (by simp [e])) (fun k => (a4 x k).2.2.1 hx)), h.inp.touch t (fun x hx => off x (fun e => (a7 x hx).1 (by simp [e])) (fun k => (a4 x k).2.2.2 hx)), ?_⟩, rfl⟩, t.mono (fun x hx => .inl (foot_mem.2 (by rcases List.mem_cons.1 hx with e | e <;> simp [e]))), ?_⟩
  · exact Apart.turn (r := [[g], rowOf cv, rowOf ev]) h.apart (fun x hx => s x hx) (fun B hB x hx => h.lt B (by simp at hB; rcases hB with e | e | e | e | e | e <;> simp [e]) x hx)
  · intro x hx
    rw [foot_mem] at hx ⊢
    rcases hx with e | e | e | e | e | e | e
    · simp [e]
    · simp [e]
    · simp [e]
    · rcases s x e with k | k
      · simp [k]
      · exact .inr k
    · simp [e]
    · simp [e]
    · simp [e]
/-- the code turns -/
theorem Lie.cds (h : Lie w g p cv ev wv Ff FS FI m) {cv' : Value} {L : List Int} (hb : Blk w' g 85 (engCells p cv' ev wv m)) (hr : w'.ownsRow 0 33 1 cv' L.length (cells L)) (t : Touch (g :: rowOf cv) w w') (s : Sub w (rowOf cv) (rowOf cv')) :
    Keep w g p (footE g cv ev wv Ff FS FI) { m with code := L } w' := by
  obtain ⟨a1, a2, a3, a4, a5, a6, a7⟩ := h.off
  obtain ⟨b1, b2, b3⟩ := h.rows_off
  have off : ∀ x, x ≠ g → x ∉ rowOf cv → x ∉ g :: rowOf cv := fun x h1 h2 h3 => (List.mem_cons.1 h3).elim h1 h2
  refine ⟨footE g cv' ev wv Ff FS FI, ⟨cv', ev, wv, Ff, FS, FI, ⟨hb, hr, row_touch h.ends t (fun x hx => off x (b2 x hx).1 (b2 x hx).2.2), row_touch h.words t (fun x hx => off x (b3 x hx).1 (b3 x hx).2.1),
    h.fr.touch t (fun x hx => off x (fun e => (a5 x hx).1 (by simp [e])) (fun k => (a2 x k).2.1 hx)), State_touch h.st t (fun x hx => off x (fun e => (a6 x hx).1 (by simp [e])) (fun k => (a2 x k).2.2.1 hx)), h.inp.touch t (fun x hx => off x (fun e => (a7 x hx).1 (by simp [e])) (fun k => (a2 x k).2.2.2 hx)), ?_⟩, rfl⟩, t.mono (fun x hx => .inl (foot_mem.2 (by rcases List.mem_cons.1 hx with e | e <;> simp [e]))), ?_⟩
  · exact Apart.turn (r := [[g]]) h.apart (fun x hx => s x hx) (fun B hB x hx => h.lt B (by simp at hB; rcases hB with e | e | e | e | e | e <;> simp [e]) x hx)
  · intro x hx
    rw [foot_mem] at hx ⊢
    rcases hx with e | e | e | e | e | e | e
    · simp [e]
    · rcases s x e with k | k
      · simp [k]
      · exact .inr k
    · simp [e]
    · simp [e]
    · simp [e]
    · simp [e]
    · simp [e]
/-- where definitions end, turned -/
theorem Lie.nds (h : Lie w g p cv ev wv Ff FS FI m) {ev' : Value} {L : List Int} (hb : Blk w' g 85 (engCells p cv ev' wv m)) (hr : w'.ownsRow 0 3 1 ev' L.length (cells L)) (t : Touch (g :: rowOf ev) w w') (s : Sub w (rowOf ev) (rowOf ev')) :
    Keep w g p (footE g cv ev wv Ff FS FI) { m with ends := L } w' := by
  obtain ⟨a1, a2, a3, a4, a5, a6, a7⟩ := h.off
  obtain ⟨b1, b2, b3⟩ := h.rows_off
  have off : ∀ x, x ≠ g → x ∉ rowOf ev → x ∉ g :: rowOf ev := fun x h1 h2 h3 => (List.mem_cons.1 h3).elim h1 h2
  refine ⟨footE g cv ev' wv Ff FS FI, ⟨cv, ev', wv, Ff, FS, FI, ⟨hb, row_touch h.code t (fun x hx => off x (b1 x hx).1 (b1 x hx).2.1), hr, row_touch h.words t (fun x hx => off x (b3 x hx).1 (b3 x hx).2.2),
    h.fr.touch t (fun x hx => off x (fun e => (a5 x hx).1 (by simp [e])) (fun k => (a3 x k).2.1 hx)), State_touch h.st t (fun x hx => off x (fun e => (a6 x hx).1 (by simp [e])) (fun k => (a3 x k).2.2.1 hx)), h.inp.touch t (fun x hx => off x (fun e => (a7 x hx).1 (by simp [e])) (fun k => (a3 x k).2.2.2 hx)), ?_⟩, rfl⟩, t.mono (fun x hx => .inl (foot_mem.2 (by rcases List.mem_cons.1 hx with e | e <;> simp [e]))), ?_⟩
  · exact Apart.turn (r := [[g], rowOf cv]) h.apart (fun x hx => s x hx) (fun B hB x hx => h.lt B (by simp at hB; rcases hB with e | e | e | e | e | e <;> simp [e]) x hx)
  · intro x hx
    rw [foot_mem] at hx ⊢
    rcases hx with e | e | e | e | e | e | e
    · simp [e]
    · simp [e]
    · rcases s x e with k | k
      · simp [k]
      · exact .inr k
    · simp [e]
    · simp [e]
    · simp [e]
    · simp [e]
end
end En
end Go.Proofs.YtdokeddjcpnmiaaGreatDoor

/- table.Name; which words may be; Add. -/
namespace Go.Proofs.YtdokeddjcpnmiaaGreatDoor
open Go.RowKit
namespace En

def kcount (k : Int) : Nat := if k = 1 then 107 else if k = 2 then 9 else if k = 3 then 17 else 47
theorem tnames_any (k : Int) (h1 : 1 ≤ k) (h4 : k ≤ 4) (w : World) (m : Int) (hm : w.cell? ⟨3, 0, none⟩ = some (.int .i64 m)) : Calls Tryz.prog 95 #[.int .i64 k] w fun e w' => ∃ L : List ByteArray, e = .returned (.slice (some ⟨w.heap.size, 0, none⟩) (kcount k) (kcount k)) ∧ w.alloc (.cells (L.map Value.string).toArray 9) = w' ∧ L.length = kcount k ∧ ∀ x ∈ L, x ≠ .empty := by
  rcases (by omega : k = 1 ∨ k = 2 ∨ k = 3 ∨ k = 4) with rfl | rfl | rfl | rfl
  · exact tnames_1 w m hm
  · exact tnames_2 w m hm
  · exact tnames_3 w m hm
  · exact tnames_4 w m hm
set_option maxHeartbeats 1600000 in
theorem Name_yes (k : Int) (h1 : 1 ≤ k) (h4 : k ≤ 4) (j : Nat) (hj : j < kcount k) (w : World) (m : Int) (hm : w.cell? ⟨3, 0, none⟩ = some (.int .i64 m)) : Calls Tryz.prog 62 #[.int .i64 k, .int .i64 ((j : Int) + 1)] w fun e w' => ∃ s, e = .returned (.string s) ∧ s ≠ .empty ∧ Touch [] w w' := by
  have hN := tnames_any k h1 h4 w m hm
  have hk : kcount k ≤ 107 := by unfold kcount; split <;> (try split) <;> (try split) <;> omega
  obtain ⟨n, hn⟩ : ∃ n, kcount k = n := ⟨_, rfl⟩
  rw [hn] at hN hj hk
  have d1 : decide ((j : Int) + 1 < 1) = false := by simp; omega
  have d2 : decide ((j : Int) + 1 > (n : Int)) = false := by simp; omega
  clear hm hn h1 h4
  go_enter Tryz.func62, Tryz.ntmps62
  go_wp2_with fail
  refine hN.mono ?_
  rintro _ w1 ⟨L, rfl, rfl, hl, hne⟩
  have bL := Blk.new w 9 (L.map Value.string).toArray
  have cL := bL.cell j
  have e1 : ((L.map Value.string).toArray)[j]? = some (.string (L.getD j .empty)) := by
    rw [List.getElem?_toArray, List.getElem?_map, List.getD_eq_getElem?_getD, List.getElem?_eq_getElem (by omega)]
    rfl
  have hx : L.getD j .empty ≠ .empty := by
    rw [List.getD_eq_getElem?_getD, List.getElem?_eq_getElem (show j < L.length by omega)]
    exact hne _ (List.getElem_mem _)
  rw [e1] at cL
  obtain ⟨s, hs⟩ : ∃ s, L.getD j .empty = s := ⟨_, rfl⟩
  rw [hs] at cL hx
  have HX := Lib.hid (And.intro hx ((Touch.refl [] w).alloc (.cells (L.map Value.string).toArray 9)))
  clear hN hl hne bL e1 hx hs
  obtain ⟨q, hq⟩ : ∃ q, w.heap.size = q := ⟨_, rfl⟩
  rw [hq] at cL ⊢
  clear hq
  generalize w.alloc (.cells (L.map Value.string).toArray 9) = w1 at *
  go_wp2_with fail
  go_ret
  exact ⟨s, rfl, HX.out.1, HX.out.2⟩
theorem str_ne {s : ByteArray} (hs : s ≠ .empty) : s.toList.isEmpty = false ∧ (!s.toList.isEmpty) = true := by
  have h : s.toList.isEmpty = false := by
    cases hh : s.toList.isEmpty with
    | false => rfl
    | true =>
      refine absurd (str_ext ?_) hs
      rw [← ByteArray.toList_eq]
      exact List.isEmpty_iff.1 hh
  exact ⟨h, by rw [h]; rfl⟩
/-- which words may be -/
def MayW (m : M) (k n : Int) : Prop := (1 ≤ k ∧ k ≤ 4 ∧ 1 ≤ n ∧ n ≤ kcount k) ∨ ((k = 5 ∨ k = 7) ∧ 1 ≤ n ∧ n ≤ m.ends.length) ∨ ((k = 6 ∨ k = 9) ∧ n = 0) ∨ (k = 8 ∧ 0 ≤ n ∧ n ≤ m.words.length)
section
variable {w : World} {g : Nat} {p : Lay} {F : List Nat} {m : M}
set_option maxRecDepth 100000 in
set_option maxHeartbeats 3200000 in
theorem may_yes (h : EngAt w g p F m) (k n v : Int) (hm : MayW m k n) (ml : Int) (hml : w.cell? ⟨3, 0, none⟩ = some (.int .i64 ml)) : Calls Tryz.prog 41 #[.pointer (some ⟨g, 0, none⟩), .agg #[.int .i64 k, .int .i64 n, .int .i64 v]] w fun e w' => e = .returned (.bool true) ∧ Touch [] w w' := by
  have tB := (Touch.refl [] w).alloc (.cells #[.int .i64 k, .int .i64 n, .int .i64 v] 35)
  have bB := Blk.new w 35 #[.int .i64 k, .int .i64 n, .int .i64 v]
  have hE := h.touch tB (by simp)
  have hml := cell_quiet tB hml
  obtain ⟨z, hz⟩ : ∃ z, w.heap.size = z := ⟨_, rfl⟩
  rw [hz] at bB
  have x0 := bB.cell 0
  have x1 := bB.cell 1
  rcases hm with ⟨h1, h4, n1, n2⟩ | ⟨hk, n1, n2⟩ | ⟨hk, rfl⟩ | ⟨rfl, n1, n2⟩
  · obtain ⟨j, rfl⟩ : ∃ j : Nat, n = (j : Int) + 1 := ⟨(n - 1).toNat, by omega⟩
    have hN := Name_yes k h1 h4 j (by omega) _ ml hml
    have HT := Lib.hid tB
    clear h hE tB bB hml n1 n2
    rcases (by omega : k = 1 ∨ k = 2 ∨ k = 3 ∨ k = 4) with rfl | rfl | rfl | rfl
    all_goals clear h1 h4
    all_goals go_enter Tryz.func41, Tryz.ntmps41
    all_goals go_upto_region 1 with fail
    all_goals clear hz
    all_goals generalize w.alloc (.cells #[.int .i64 _, .int .i64 ((j : Int) + 1), .int .i64 v] 35) = W0 at *
    all_goals go_wp2_with fail
    all_goals refine hN.mono ?_
    all_goals rintro _ w1 ⟨s, rfl, hs, t1⟩
    all_goals obtain ⟨hs1, hs2⟩ := str_ne hs
    all_goals have HF := Lib.hid (HT.out.trans t1 (by simp))
    all_goals clear hs t1 hN
    all_goals go_wp2_with fail
    all_goals go_ret
    all_goals exact ⟨rfl, HF.out⟩
  · obtain ⟨cv, ev, wv, Ff, FS, FI, hL, rfl⟩ := hE
    have c1 := hL.blk.cell 1
    obtain ⟨ea, ec, hev⟩ := row_value hL.ends
    rw [hev] at c1
    simp only [List.getElem?_toArray, List.getElem?_cons_succ, List.getElem?_cons_zero] at c1
    obtain ⟨len, hlen⟩ : ∃ len, m.ends.length = len := ⟨_, rfl⟩
    rw [hlen] at c1 n2
    have d1 : decide (n ≥ 1) = true := by simpa using n1
    have d2 : decide (n ≤ (len : Int)) = true := by simpa using n2
    have HT := Lib.hid tB
    clear h hL tB bB hml hev hlen n1 n2
    rcases hk with rfl | rfl
    all_goals go_enter Tryz.func41, Tryz.ntmps41
    all_goals go_upto_region 1 with fail
    all_goals clear hz
    all_goals generalize w.alloc (.cells #[.int .i64 _, .int .i64 n, .int .i64 v] 35) = W0 at *
    all_goals go_wp2_with fail
    all_goals go_quiet (fail)
    all_goals go_wp2_with fail
    all_goals go_ret
    all_goals exact ⟨rfl, HT.out.drewN _⟩
  · have HT := Lib.hid tB
    clear h hE tB bB hml
    rcases hk with rfl | rfl
    all_goals go_enter Tryz.func41, Tryz.ntmps41
    all_goals go_upto_region 1 with fail
    all_goals clear hz
    all_goals generalize w.alloc (.cells #[.int .i64 _, .int .i64 0, .int .i64 v] 35) = W0 at *
    all_goals go_wp2_with fail
    all_goals go_ret
    all_goals exact ⟨rfl, HT.out⟩
  · obtain ⟨⟨cv, ev, wv, hb, _, _, wa, wc, rfl⟩, _⟩ := hE.view
    have c2 := hb.cell 2
    unfold engCells at c2
    simp only [List.getElem?_toArray, List.getElem?_cons_succ, List.getElem?_cons_zero] at c2
    obtain ⟨len, hlen⟩ : ∃ len, m.words.length = len := ⟨_, rfl⟩
    rw [hlen] at c2 n2
    have d1 : decide (n ≥ 0) = true := by simpa using n1
    have d2 : decide (n ≤ (len : Int)) = true := by simpa using n2
    have HT := Lib.hid tB
    clear h hE tB bB hml hlen n1 n2 hb
    go_enter Tryz.func41, Tryz.ntmps41
    go_upto_region 1 with fail
    clear hz
    generalize w.alloc (.cells #[.int .i64 8, .int .i64 n, .int .i64 v] 35) = W0 at *
    go_wp2_with fail
    go_quiet (fail)
    go_wp2_with fail
    go_ret
    exact ⟨rfl, HT.out.drewN _⟩
end
end En
end Go.Proofs.YtdokeddjcpnmiaaGreatDoor

/- Add: a word more. -/
namespace Go.Proofs.YtdokeddjcpnmiaaGreatDoor
open Go.RowKit
namespace En

theorem info_word : (Tryz.prog.info? 35).map (fun i => (i.zero, i.size, i.bytes)) = some (some (.agg #[.int .i64 0, .int .i64 0, .int .i64 0]), 3, 24) := by kernel_rfl
theorem info_word' : ∃ i0, Tryz.prog.info? 35 = some i0 ∧ i0.zero = some (.agg #[.int .i64 0, .int .i64 0, .int .i64 0]) ∧ i0.size = 3 ∧ i0.bytes = 24 := by
  have h := info_word
  cases hi : Tryz.prog.info? 35 with
  | none => rw [hi] at h; cases h
  | some i =>
    rw [hi] at h
    simp only [Option.map_some, Option.some.injEq, Prod.mk.injEq] at h
    exact ⟨i, rfl, h.1, h.2.1, h.2.2⟩
theorem words_value {w : World} {wv : Value} {L : List (Int × Int × Int)} (h : w.ownsRow 0 35 3 wv L.length (L.flatMap wdCells)) : ∃ a c, wv = .slice a L.length c := by
  rcases Go.Joins.ownsRow_forms h with ⟨h1, h0⟩ | ⟨g, cap, h1⟩
  · exact ⟨none, 0, by rw [h1, h0]⟩
  · exact ⟨_, _, h1⟩
theorem add_end {w1 W w2 : World} {g : Nat} {p : Lay} {cv ev wv : Value} {Ff FS FI : List Nat} {m : M} {b cap n : Nat} (x : Int × Int × Int) (h : Lie w1 g p cv ev wv Ff FS FI m) (t : Touch [] w1 W) (hn : m.words.length = n)
    (hown : w2.ownsRow 0 35 3 (.slice (some ⟨b, 0, none⟩) (n + 1) cap) (n + 1) (m.words.flatMap wdCells ++ wdCells x)) (hgr : W.grownBy w2 wv.ownBlock) (hat : wv.ownBlock = some b ∨ b = W.heap.size) :
    Keep w1 g p (footE g cv ev wv Ff FS FI) { m with words := m.words ++ [x] } (w2.setCell ⟨g, 2, none⟩ (.slice (some ⟨b, 0, none⟩) (n + 1) cap)) := by
  have hgl := h.blk.lt
  have hz := t.size
  have hgw : g ∉ rowOf wv := fun k => (h.rows_off.2.2 g k).1 rfl
  have hbg : b ≠ g := by
    rintro rfl
    rcases hat with e | e
    · exact hgw (rowOf_mem.2 e)
    · omega
  have hb2 : Blk w2 g 85 (engCells p cv ev wv m) := (h.blk.touch t (by simp)).grown hgr (fun e => hgw (rowOf_mem.2 e.symm))
  have t2 : Touch (g :: rowOf wv) w1 w2 := (t.mono (by simp)).grown hgr fun k hk => .inl (by simp [rowOf_mem, hk])
  refine h.wds (wv' := .slice (some ⟨b, 0, none⟩) (n + 1) cap) (L := m.words ++ [x]) (hb2.set_ 2 _) ?_ (t2.setCell (by simp) _) ?_
  · have e : (m.words ++ [x]).flatMap wdCells = m.words.flatMap wdCells ++ wdCells x := by simp
    have el : (m.words ++ [x]).length = n + 1 := by simp [hn]
    rw [e, el]
    exact row_touch hown (F := [g]) ((Touch.refl _ _).setCell (by simp) _) (by simp [rowOf]; exact hbg)
  · intro y hy
    simp only [rowOf, List.mem_cons, List.not_mem_nil, or_false] at hy
    rw [hy]
    rcases hat with e | e
    · exact .inl (rowOf_mem.2 e)
    · exact .inr (by omega)
set_option maxRecDepth 100000 in
set_option maxHeartbeats 3200000 in
theorem Add_ok {w : World} {g : Nat} {p : Lay} {F : List Nat} {m : M} (h : EngAt w g p F m) (hwl : m.words.length < 600) (k n v : Int) (hm : MayW m k n) (ml : Int) (hml : w.cell? ⟨3, 0, none⟩ = some (.int .i64 ml)) : Calls Tryz.prog 13 #[.pointer (some ⟨g, 0, none⟩), .agg #[.int .i64 k, .int .i64 n, .int .i64 v]] w fun e w' =>
    e = .returned (.tuple #[.int .i64 ((m.words.length : Int) + 1), .int .i64 0]) ∧ Keep w g p F { m with words := m.words ++ [(k, n, v)] } w' := by
  obtain ⟨i0, hi, hz0, hz1, hz2⟩ := info_word'
  have tB := (Touch.refl [] w).alloc (.cells #[.int .i64 k, .int .i64 n, .int .i64 v] 35)
  have bB := Blk.new w 35 #[.int .i64 k, .int .i64 n, .int .i64 v]
  have hE := h.touch tB (by simp)
  have hMay := may_yes hE k n v hm ml (cell_quiet tB hml)
  have hFl := h.lt
  obtain ⟨q, hq⟩ : ∃ q, m.words.length = q := ⟨_, rfl⟩
  rw [hq] at hwl ⊢
  have HN := Lib.hid hq
  clear hq
  obtain ⟨z, hz⟩ : ∃ z, w.heap.size = z := ⟨_, rfl⟩
  rw [hz] at bB
  have hzF : z ∉ F := fun hx => by have := hFl z hx; omega
  have HT := Lib.hid (And.intro tB (And.intro hE (And.intro bB hzF)))
  have x0 := bB.cell 0
  have x1 := bB.cell 1
  have x2 := bB.cell 2
  clear h hE hm hml tB bB hFl hzF
  go_enter Tryz.func13, Tryz.ntmps13
  go_upto_region 1 with fail
  clear hz
  generalize w.alloc (.cells #[.int .i64 k, .int .i64 n, .int .i64 v] 35) = W0 at *
  go_wp2_with fail
  refine hMay.mono ?_
  rintro _ w1 ⟨rfl, t1⟩
  obtain ⟨tB, hE, bB, hzF⟩ := HT.out
  have hE1 := hE.touch t1 (by simp)
  have bB1 := bB.touch t1 (by simp)
  have T1 := tB.trans t1 (by simp)
  obtain ⟨cv, ev, wv, Ff, FS, FI, hL, rfl⟩ := hE1
  have c2 : w1.cell? ⟨g, 2, none⟩ = some wv := hL.blk.cell 2
  obtain ⟨wa, wc, hwv⟩ := words_value hL.words
  have hrow := hL.words
  have hgw : g ∉ rowOf wv := fun kk => (hL.rows_off.2.2 g kk).1 rfl
  have HV : Hid (some g ≠ wv.ownBlock) := Lib.hid fun e => hgw (rowOf_mem.2 e.symm)
  have HBB := Lib.hid hL.blk
  have HE := Lib.hid (fun (W w2 : World) (b cap q : Nat) => add_end (W := W) (w2 := w2) (b := b) (cap := cap) (n := q) (k, n, v) hL)
  rw [HN.out] at hwv hrow
  subst hwv
  have HR := Lib.hid (fun W (t : Touch [] w1 W) => row_touch hrow t (by simp))
  have HA : Hid (q + 1 ≤ maxLen) := by show _ ≤ maxLen; unfold maxLen; omega
  have HB : Hid ((q + 1) * 24 ≤ 140737488355328) := by show (q + 1) * 24 ≤ 140737488355328; omega
  have HT1 := Lib.hid T1
  have x0 := bB1.cell 0
  have x1 := bB1.cell 1
  have x2 := bB1.cell 2
  have hlt : ¬ (q : Int) ≥ 600 := by omega
  have A2 := fun ob => cell_quiet ((Touch.refl [] w1).alloc ob) c2
  clear hMay t1 hE bB hzF tB bB1 T1 hL hrow hgw HT
  go_upto_region 7 with fail
  go_region_law (first
    | (refine step_append_lies _ rfl (.tmp 25) (.tmp 27) 83 rfl 0 35 i0 _ 3 24 Tryz.underlying83 hi hz0 hz1 hz2 rfl (by omega) (.slice wa q wc) q (m.words.flatMap wdCells) (by simp [Act.eval]) (HR.out _ (by first | with_reducible exact ((Touch.refl [] w1).alloc _).drew | with_reducible exact (Touch.refl [] w1).drew.alloc _)) ⟨_, 0, none⟩ 1 1 (wdCells (k, n, v)) (by simp [Act.eval]) rfl (World.news_of_block (heap_alloc_new _ _)) (wdCells_one _) (by omega) HA.out HB.out (Nat.zero_le _) _ rfl ?_; intro gb cap w2 hown hgr hat hlt2; have HG := Lib.hid (HE.out _ _ _ _ _ (by first | with_reducible exact ((Touch.refl [] w1).alloc _).drew | with_reducible exact (Touch.refl [] w1).drew.alloc _) HN.out hown hgr hat); have hb1 := (HBB.out.touch (by first | with_reducible exact ((Touch.refl [] w1).alloc _).drew | with_reducible exact (Touch.refl [] w1).drew.alloc _) (by simp)).grown hgr HV.out; have d2 := hb1.cell 2; have g2 := hb1.frozen 2; clear hown hgr hat hlt2 hb1))
  all_goals clear A2 x0 x1 x2 c2
  all_goals go_wp2_with fail
  all_goals go_ret2
  all_goals exact ⟨rfl, Keep.pre HT1.out HG.out⟩
end En
end Go.Proofs.YtdokeddjcpnmiaaGreatDoor
