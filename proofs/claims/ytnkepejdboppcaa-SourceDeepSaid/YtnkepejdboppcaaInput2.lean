/- The contracts of source.Input's Close, Cut, Restore, and of slices.Delete at its last element. -/
import Derived.Test.YtnkepejdboppcaaInput
import Derived.IntWalk
namespace Go.Proofs.Ytnkepejdboppcaa
open Go.RowKit

theorem zero_one (w : World) : (zeroValue 45).run Try.prog w = .ok (.agg #[.string .empty, .int .i64 0, .int .i64 0]) w := by kernel_rfl

theorem run_clear_one {P : Program} (w : World) (t e ty : TypeId) (zs : List Value) (ht : P.underlying t = some (.slice e)) (hv : ∀ w, (zeroValue e).run P w = .ok (.agg zs.toArray) w) (h1 : ∀ z ∈ zs, z.oneCell' = true) (b o c : Nat)
    (hc : ∀ j, j < zs.length → (w.cell? ⟨b, o + j, none⟩).isSome = true ∧ w.frozen? ⟨b, o + j, none⟩ = false) :
    (Builtin.clear_ #[t] ty #[.slice (some ⟨b, o, none⟩) 1 c]).run P w = .ok (.tuple #[]) (w.setCells b o zs) := by
  have hzc : (Builtin.zeroCells (Value.agg zs.toArray).cells 1).toList = zs := by
    simp [Builtin.zeroCells, Value.cells]
    apply List.ext_getElem
    · simp
    · intro i h1 h2
      simp at h1
      simp [Nat.mod_eq_of_lt h1, List.getElem?_eq_getElem h1]
  have hst := run_storeCells_cells (P := P) b o zs 0 w (by simpa using fun j hj => (hc j hj).1) (by simpa using fun j hj => (hc j hj).2) h1
  simp only [Nat.add_zero] at hst
  simp [Builtin.clear_, run_underlying ht, hv, hzc, hst]

/-- what Delete leaves: its row, with all but the last element as they were -/
structure Deleted (w : World) (g n : Nat) (cur : Array Value) (w' : World) (cur' : Array Value) : Prop where
  blk : Blk w' g 45 cur'
  size : cur'.size = cur.size
  take : cur'.toList.take (n * 3) = cur.toList.take (n * 3)
  touch : Touch [g] w w'
theorem deleted_of {w : World} {g n : Nat} {cur : Array Value} (hb : Blk w g 45 cur) (x y z : Value) : Deleted w g n cur (w.setCells g (n * 3) [x, y, z]) (((cur.setIfInBounds (n * 3) x).setIfInBounds (n * 3 + 1) y).setIfInBounds (n * 3 + 1 + 1) z) := by
  refine ⟨((hb.set_ _ x).set_ _ y).set_ _ z, by simp, ?_, (((Touch.refl _ w).setCell (by simp) _).setCell (by simp) _).setCell (by simp) _⟩
  apply List.ext_getElem?
  intro i
  simp only [List.getElem?_take]
  split
  · simp only [Array.getElem?_toList]
    rw [Array.getElem?_setIfInBounds_ne (by omega), Array.getElem?_setIfInBounds_ne (by omega), Array.getElem?_setIfInBounds_ne (by omega)]
  · rfl

set_option maxHeartbeats 800000 in
/-- the last element is let go of, and its cells are cleared -/
theorem Delete_last (w : World) (g n cap : Nat) (cur : Array Value) (hb : Blk w g 45 cur) (hc : n + 1 ≤ cap) (_hm : cap ≤ maxLen) (hz : cur.size = cap * 3) :
    Calls Try.prog 22 #[.slice (some ⟨g, 0, none⟩) (n + 1) cap, .int .i64 n, .int .i64 ((n : Int) + 1)] w fun e w' => e = .returned (.slice (some ⟨g, 0, none⟩) n cap) ∧
      ∃ cur', Deleted w g n cur w' cur' := by
  obtain ⟨i0, hi, hz0, hz1, hz2⟩ := info_parts info_one
  have hnc : n ≤ cap := by omega
  have h01 : (0 : Int) ≤ (n : Int) + 1 := by omega
  have HZ := Lib.hid hz
  clear hz
  obtain ⟨A, hA⟩ : ∃ A, (if cap = n + 1 then some (⟨g, 0, none⟩ : Addr) else some ⟨g, (n + 1) * 3, none⟩) = some A := by split <;> exact ⟨_, rfl⟩
  have hsc : ∀ W : World, W.setCells g (n * 3) [] = W := fun _ => rfl
  have hcl := run_clear_one w.drew 46 45 0 [.string .empty, .int .i64 0, .int .i64 0] Try.underlying46 zero_one (by simp [Value.oneCell']) g (n * 3) (cap - n) (fun j hj => by
    rw [hb.drew.cell]; exact ⟨Array.getElem?_eq_getElem (show n * 3 + j < cur.size by rw [HZ.out]; simp at hj; omega) ▸ rfl, hb.drew.frozen _⟩)
  go_enter Try.func22, Try.ntmps22
  go_wp2_with fail
  go_region_law (refine step_append_room rfl (.tmp 22) (.tmp 25) 46 rfl 45 i0 3 Try.underlying46 hi hz1 g 0 n cap (by simp [Act.eval, Act.put]) A 0 (cap - (n + 1)) [] (by simp [Act.eval, Act.put]) rfl (by simp) (by simp) (by omega) (by simp) ?_)
  all_goals go_wp2_with fail
  all_goals go_ret
  all_goals obtain ⟨h1, h2, h3, h4⟩ := deleted_of (n := n) hb.drew (.string .empty) (.int .i64 0) (.int .i64 0)
  all_goals exact ⟨rfl, _, h1, h2, h3, ⟨h4.os, h4.tape, h4.output, h4.size, h4.block⟩⟩

theorem cells_len : ∀ l : List One, (l.flatMap One.cells).length = l.length * 3
  | [] => rfl
  | x :: r => by simp only [List.flatMap_cons, List.length_append, cells_len r, One.cells, List.length_cons, List.length_nil]; omega
theorem last_cells {l L : List One} {o : One} (h : L = l ++ [o]) : (L.flatMap One.cells)[l.length * 3]? = some (.string o.text) ∧ (L.flatMap One.cells)[l.length * 3 + 1]? = some (.int .i64 o.id) ∧ (L.flatMap One.cells)[l.length * 3 + 2]? = some (.int .i64 o.on) := by
  have hl := cells_len l
  subst h
  rw [List.flatMap_append]
  refine ⟨?_, ?_, ?_⟩ <;> rw [List.getElem?_append_right (by omega), hl]
  · rw [Nat.sub_self]; rfl
  · rw [show l.length * 3 + 1 - l.length * 3 = 1 by omega]; rfl
  · rw [show l.length * 3 + 2 - l.length * 3 = 2 by omega]; rfl

def Ins.close (S : Ins) (o : One) (l : List One) : Ins := ⟨o, l, S.many⟩

/-- the world ahead of Delete -/
def closed4 (w : World) (b : Nat) (o : One) (n : Nat) : World :=
  (((w.setCell ⟨b, 4, none⟩ (.int .i64 n)).setCell ⟨b, 0, none⟩ (.string o.text)).setCell ⟨b, 1, none⟩ (.int .i64 o.id)).setCell ⟨b, 2, none⟩ (.int .i64 o.on)
theorem blk4 {w : World} {b : Nat} {S : Ins} {v : Value} (hb : Blk w b 48 (inCells S v)) (o : One) (n : Nat) :
    Blk (closed4 w b o n) b 48 #[.string o.text, .int .i64 o.id, .int .i64 o.on, v, .int .i64 n, .int .i64 S.many] :=
  ((((hb.set_ 4 _).set_ 0 _).set_ 1 _).set_ 2 _).to (by simp [inCells])
theorem touch4 (w : World) (b : Nat) (o : One) (n : Nat) (F : List Nat) (h : b ∈ F) : Touch F w (closed4 w b o n) :=
  ((((Touch.refl _ w).setCell (.inl h) _).setCell (.inl h) _).setCell (.inl h) _).setCell (.inl h) _
theorem six_again {w w5 : World} {b g n : Nat} {S : Ins} {o : One} {v : Value} {cur cur5 : Array Value} {k : Nat} (h : Deleted ((closed4 w b o n).drewN k) g n cur w5 cur5) (hb : Blk w b 48 (inCells S v)) (hgb : g ≠ b) :
    Six w5 b ⟨o, List.replicate n .none, S.many⟩ v := by
  have h1 : Blk w5 b 48 (inCells ⟨o, List.replicate n .none, S.many⟩ v) := (((blk4 hb o n).drewN k).touch h.touch (by simp; omega)).to (by simp [inCells])
  exact six h1
theorem close_end {w w5 : World} {b g cap : Nat} {S : Ins} {o : One} {l : List One} {cur cur5 : Array Value} {k : Nat} (hb : Blk w b 48 (inCells S (.slice (some ⟨g, 0, none⟩) (l.length + 1) cap))) (hgb : g ≠ b)
    (h : Deleted ((closed4 w b o l.length).drewN k) g l.length cur w5 cur5) (hcs : cur.size = cap * 3) (htk : cur.toList.take ((l.length + 1) * 3) = S.outer.flatMap One.cells) (hl : S.outer = l ++ [o]) (hc : l.length + 1 ≤ cap) (hm : cap ≤ maxLen) :
    Left w b (b :: rowOf (.slice (some ⟨g, 0, none⟩) (l.length + 1) cap)) (S.close o l) (w5.setCell ⟨b, 3, none⟩ (.slice (some ⟨g, 0, none⟩) l.length cap)) := by
  have h1 : Touch [b, g] w w5 := by
    refine (((touch4 w b o l.length [b, g] (by simp)).drewN k)).trans (G := [g]) h.touch (by simp)
  have hz : (l.flatMap One.cells).length = l.length * 3 := by
    exact cells_len l
  refine ⟨b :: rowOf (.slice (some ⟨g, 0, none⟩) l.length cap), ⟨.slice (some ⟨g, 0, none⟩) l.length cap, ?_, rfl, by simp [rowOf]; omega, ?_⟩, ?_, ?_⟩
  · exact ((((blk4 hb o l.length).drewN k).touch h.touch (by simp; omega)).set_ 3 _).to (by simp [inCells, Ins.close])
  · refine row_touch (w := w5) ⟨hz, .inr ⟨g, cap, cur5, rfl, Nat.zero_le _, h.blk, Nat.le_trans (Nat.le_succ _) hc, hm, by rw [h.size, hcs], ?_⟩⟩ (F := [b]) ((Touch.refl _ _).setCell (by simp) _) (by simp [rowOf]; omega)
    show List.take (l.length * 3) _ = _
    rw [h.take]
    have e := congrArg (List.take (l.length * 3)) htk
    rw [List.take_take, show min (l.length * 3) ((l.length + 1) * 3) = l.length * 3 by omega, hl, List.flatMap_append, List.take_append_of_le_length (by omega), List.take_of_length_le (by omega : (l.flatMap One.cells).length ≤ l.length * 3)] at e
    exact e
  · exact (h1.mono (by simp [rowOf])).setCell (by simp) _
  · intro f hf
    exact .inl (by simpa [rowOf] using hf)

set_option maxHeartbeats 800000 in
theorem Close_yes (w : World) (b : Nat) (F : List Nat) (S : Ins) (h : InAt w b F S) (l : List One) (o : One) (hl : S.outer = l ++ [o]) (hd : l.length < 8) :
    Calls Try.prog 12 #[.pointer (some ⟨b, 0, none⟩)] w fun e w' => e = .returned (.int .i64 0) ∧ Left w b F (S.close o l) w' := by
  have hdep := Depth_any w b F S h
  obtain ⟨v, hb, rfl, hnb, hr⟩ := h
  have hlen : S.outer.length = l.length + 1 := by rw [hl]; simp
  rw [hlen] at hr hdep
  obtain ⟨g, cap, cur, rfl, hbg, hnc, hcm, hcs, htk⟩ : ∃ g cap cur, v = .slice (some ⟨g, 0, none⟩) (l.length + 1) cap ∧ Blk w g 45 cur ∧ l.length + 1 ≤ cap ∧ cap ≤ maxLen ∧ cur.size = cap * 3 ∧ cur.toList.take ((l.length + 1) * 3) = S.outer.flatMap One.cells := by
    rcases hr.2 with ⟨_, h0⟩ | ⟨g, cap, cur, h1, _, h2, h3, h4, h5, h6⟩
    · omega
    · exact ⟨g, cap, cur, h1, h2, h3, h4, h5, h6⟩
  have hgb : g ≠ b := by intro e; exact hnb (by simp [rowOf, e])
  have hg := hbg.lt
  obtain ⟨c0, c1, c2, c3, c4, c5, f0, f1, f2, f3, f4, f5⟩ := six hb
  have e0 := hr.cellAt (l.length * 3) (by omega)
  have e1 := hr.cellAt (l.length * 3 + 1) (by omega)
  have e2 := hr.cellAt (l.length * 3 + 2) (by omega)
  rw [hlen] at c4
  have hx := last_cells hl
  rw [hx.1] at e0
  rw [hx.2.1] at e1
  rw [hx.2.2] at e2
  have hn : (l.length : Int) + 1 - 1 = (l.length : Int) := by omega
  have HR := Lib.hid hr
  have HL := Lib.hid hl
  have HE := Lib.hid hlen
  have HX := Lib.hid hx
  have HD := Lib.hid hdep
  have HCS := Lib.hid hcs
  have HTK := Lib.hid htk
  clear hr hl hlen hx hdep hcs htk
  have hwr : IntKind.i64.wrap ((l.length : Int) + 1) = (l.length : Int) + 1 := IntWalk.i64_in _ (by omega)
  go_enter Try.func12, Try.ntmps12
  go_wp2_with (go_at_call 14; refine HD.out.mono ?_; rintro e w' ⟨rfl, rfl⟩)
  go_region
  go_wp2_with fail
  go_region_law ((go_simp; go_at_call 22; refine (Delete_last _ g l.length cap cur ((((((hbg.far hgb _).far hgb _).far hgb _).far hgb _).drew).drew) hnc hcm HCS.out).mono ?_; rintro e w5 ⟨rfl, cur5, HW5'⟩; have HW5 : Deleted ((closed4 w b o l.length).drewN 2) g l.length cur w5 cur5 := HW5'; clear HW5'; obtain ⟨d0, d1, d2, d3, d4, d5, g0, g1, g2, g3, g4, g5⟩ := six_again HW5 hb hgb))
  all_goals go_wp2_with fail
  all_goals go_ret
  all_goals exact ⟨rfl, close_end hb hgb HW5 HCS.out HTK.out HL.out hnc hcm⟩

end Go.Proofs.Ytnkepejdboppcaa
