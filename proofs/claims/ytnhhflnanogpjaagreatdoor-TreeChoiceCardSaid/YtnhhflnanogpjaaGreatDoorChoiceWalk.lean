/- TreeChoice: the walk. -/
import Derived.Test.YtnhhflnanogpjaaGreatDoorShownT
import Derived.Test.YtnhhflnanogpjaaGreatDoorNodeRow
import Derived.Test.YtnhhflnanogpjaaGreatDoorChoiceLaw2
namespace Go.Proofs.YtnhhflnanogpjaaGreatDoor
open Go.RowKit

def lits (j : Nat) : List (NodeV × Value) := (List.range j).map fun i : Nat => ((⟨1, 100 + (i : Int), []⟩ : NodeV), Value.slice none 0 0)
def nums (j : Nat) : List Int := (List.range j).map Int.ofNat
theorem lits_succ (j : Nat) : lits j ++ [((⟨1, 100 + (j : Int), []⟩ : NodeV), Value.slice none 0 0)] = lits (j + 1) := by simp [lits, List.range_succ]
theorem nums_succ (j : Nat) : nums j ++ [(j : Int)] = nums (j + 1) := by simp [nums, List.range_succ]
theorem lits_len (j : Nat) : (lits j).length = j := by simp [lits]
theorem nums_len (j : Nat) : (nums j).length = j := by simp [nums]
theorem lits_choice (k : Nat) (pv : Value) : (lits k ++ [((⟨11, 0, nums k⟩ : NodeV), pv)]).map (·.1) = choiceL k := by
  simp [lits, nums, choiceL, Function.comp_def]

theorem kids_lit {w : World} {g : Nat} {ks : List Int} (h : Blk w g 3 (ks.map (Value.int .i64)).toArray) : KidsAt w (.slice (some ⟨g, 0, none⟩) ks.length ks.length) ks :=
  .inr ⟨g, 0, ks.length, rfl, fun j hj => by
    refine (h.cell (0 + j)).trans ?_
    simp [List.getD, List.getElem?_eq_getElem hj]⟩
def leftC (x : Int) (g1 g2 g3 g4 : Nat) : Array Value := #[.int .i64 1, .int .i64 50, .slice none 0 0, .int .i64 1, .int .i64 0, .slice none 0 0, .int .i64 8, .int .i64 0, .slice none 0 0, .int .i64 1, .int .i64 x, .slice none 0 0, .int .i64 2, .int .i64 21, .slice none 0 0, .int .i64 9, .int .i64 0, .slice none 0 0, .int .i64 3, .int .i64 0, .slice none 0 0, .int .i64 4, .int .i64 0, .slice (some ⟨g1, 0, none⟩) 2 2, .int .i64 8, .int .i64 0, .slice none 0 0, .int .i64 3, .int .i64 0, .slice (some ⟨g2, 0, none⟩) 5 5, .int .i64 5, .int .i64 0, .slice (some ⟨g3, 0, none⟩) 1 1, .int .i64 3, .int .i64 0, .slice (some ⟨g4, 0, none⟩) 3 3]
theorem left_nodes {w : World} {g g1 g2 g3 g4 : Nat} {x : Int} (hb : Blk w g 37 (leftC x g1 g2 g3 g4)) (h1 : Blk w g1 3 #[.int .i64 5, .int .i64 6]) (h2 : Blk w g2 3 #[.int .i64 2, .int .i64 3, .int .i64 4, .int .i64 7, .int .i64 8]) (h3 : Blk w g3 3 #[.int .i64 9]) (h4 : Blk w g4 3 #[.int .i64 0, .int .i64 1, .int .i64 10]) : NodesAt w (.slice (some ⟨g, 0, none⟩) 12 12) (leftL x) := by
  refine ⟨g, 12, rfl, Nat.le_refl _, fun i hi => ?_⟩
  have hi5 : i < 12 := hi
  rcases (by omega : i = 0 ∨ i = 1 ∨ i = 2 ∨ i = 3 ∨ i = 4 ∨ i = 5 ∨ i = 6 ∨ i = 7 ∨ i = 8 ∨ i = 9 ∨ i = 10 ∨ i = 11) with rfl | rfl | rfl | rfl | rfl | rfl | rfl | rfl | rfl | rfl | rfl | rfl
  · exact ⟨_, hb.cell 0, hb.cell 1, hb.cell 2, .inl ⟨rfl, rfl⟩⟩
  · exact ⟨_, hb.cell 3, hb.cell 4, hb.cell 5, .inl ⟨rfl, rfl⟩⟩
  · exact ⟨_, hb.cell 6, hb.cell 7, hb.cell 8, .inl ⟨rfl, rfl⟩⟩
  · exact ⟨_, hb.cell 9, hb.cell 10, hb.cell 11, .inl ⟨rfl, rfl⟩⟩
  · exact ⟨_, hb.cell 12, hb.cell 13, hb.cell 14, .inl ⟨rfl, rfl⟩⟩
  · exact ⟨_, hb.cell 15, hb.cell 16, hb.cell 17, .inl ⟨rfl, rfl⟩⟩
  · exact ⟨_, hb.cell 18, hb.cell 19, hb.cell 20, .inl ⟨rfl, rfl⟩⟩
  · exact ⟨_, hb.cell 21, hb.cell 22, hb.cell 23, kids_lit (ks := [5, 6]) h1⟩
  · exact ⟨_, hb.cell 24, hb.cell 25, hb.cell 26, .inl ⟨rfl, rfl⟩⟩
  · exact ⟨_, hb.cell 27, hb.cell 28, hb.cell 29, kids_lit (ks := [2, 3, 4, 7, 8]) h2⟩
  · exact ⟨_, hb.cell 30, hb.cell 31, hb.cell 32, kids_lit (ks := [9]) h3⟩
  · exact ⟨_, hb.cell 33, hb.cell 34, hb.cell 35, kids_lit (ks := [0, 1, 10]) h4⟩

set_option maxRecDepth 100000 in
set_option maxHeartbeats 1500000 in
theorem TreeChoice_walk (x n y : Int) (hx : 0 ≤ x ∧ x ≤ 255) (hn : Cell64 n) (hy : 0 ≤ y ∧ y ≤ 255) (w : World) (hT : TabsOk w) :
    Calls Tryz.prog 5 #[.int .u8 x, .int .i64 n, .int .u8 y] w fun e w' => e = .returned (.bool true) ∧ Touch [] w w' := by
  have hSh := shown_any w hT
  clear hT
  go_enter Tryz.func5, Tryz.ntmps5
  go_wp2_with fail
  refine hSh.mono ?_
  rintro _ w1 ⟨rfl, T⟩
  clear hSh
  go_upto_region 5 with fail
  obtain ⟨k, hk⟩ : ∃ k : Nat, x % 10 + 1 = k := ⟨(x % 10 + 1).toNat, by omega⟩
  rw [hk]
  have hk2 : 1 ≤ k ∧ k ≤ 10 := by omega
  have HY := Lib.hid hy
  have HN := Lib.hid hn
  have T := Lib.hid T
  obtain ⟨B, hB⟩ : ∃ B, w1.heap.size = B := ⟨_, rfl⟩
  have HB := Lib.hid hB
  clear hk hx hy hn hB
  go_wp2_with fail
  go_loopw [25, 9, 10] (fun i lv pv wr => ∃ j : Nat, j ≤ k ∧ i = .int .i64 j ∧ NodeRow wr B lv (lits j) ∧ IntRow wr B pv (nums j) ∧ Touch [] w1 wr) (fun i _ _ _ => k - (intOf i).toNat)
  case atStart => exact ⟨0, by omega, rfl, NodeRow.nil _ _, World.ownsRow_nil _ _ _ _, Touch.refl _ _⟩
  case round =>
    obtain ⟨j, hj, rfl, hR, hI, t1⟩ := hrel
    by_cases hlt : j < k
    · have hlt2 : (j : Int) < k := by omega
      have e100 : IntKind.i64.wrap (100 + (j : Int)) = 100 + j := by rw [IntKind.wrap_i64]; omega
      have ek : IntKind.i64.wrap ((j : Int) + 1) = (j + 1 : Nat) := by rw [IntKind.wrap_i64]; omega
      have hb1 : B ≤ wr.heap.size := by rw [← HB.out]; exact t1.size
      have bN := Blk.new wr 37 #[.int .i64 1, .int .i64 (100 + (j : Int)), .slice none 0 0]
      have hR2 : NodeRow (wr.alloc (.cells #[.int .i64 1, .int .i64 (100 + (j : Int)), .slice none 0 0] 37)) B u9 (lits j) := hR.alloc _
      have HI := Lib.hid hI
      have T1 := Lib.hid t1
      clear hI t1 hR
      go_wp2_with (at_builtin; refine wpList_node rfl _ _ rfl _ _ (⟨1, 100 + (j : Int), []⟩, .slice none 0 0) wr.heap.size B rfl hR2 rfl bN rfl (by rw [lits_len]; omega) (by simp; omega) ?_)
      intro v' w2 k1 k2 k3 k4
      rw [lits_succ] at k1
      have hap := rows_apart hR2 (HI.out.alloc _) (by decide)
      have tA : Touch (rowOf u9) wr w2 := ((Touch.refl (rowOf u9) wr).alloc _).grown k2 (fun m hm => .inl (rowOf_mem.2 hm))
      have hI2 : IntRow w2 B u10 (nums j) := row_touch HI.out tA (fun m hm hm2 => hap m hm2 hm)
      have hlo : ∀ m ∈ rowOf u9, B ≤ m := fun m hm => (World.ownsRow.lt hR2 m (rowOf_mem.1 hm)).1
      have t2 : Touch [] w1 w2 := T1.out.trans tA (fun m hm => .inr (by rw [HB.out]; exact hlo m hm))
      have hb2 : B ≤ w2.heap.size := by rw [← HB.out]; exact t2.size
      have bI := Blk.new w2 3 #[.int .i64 (j : Int)]
      have hI3 : IntRow (w2.alloc (.cells #[.int .i64 (j : Int)] 3)) B u10 (nums j) := hI2.alloc _
      have hb3 : B ≤ (w2.alloc (.cells #[.int .i64 (j : Int)] 3)).heap.size := by simp; omega
      have K := Lib.hid (And.intro k1 t2)
      clear k1 k2 k3 k4 tA t2 hap hR2 bN hlo HI hI2 T1
      go_wp2_with (at_builtin; refine wpList_int rfl _ _ rfl _ _ (j : Int) w2.heap.size B rfl hI3 rfl bI (by rw [nums_len]; omega) hb3 ?_)
      intro v2 w3 k1 k2 k3 k4
      rw [nums_succ] at k1
      have hap := rows_apart hI3 (K.out.1.alloc _) (by decide)
      have tA : Touch (rowOf u10) w2 w3 := ((Touch.refl (rowOf u10) w2).alloc _).grown k2 (fun m hm => .inl (rowOf_mem.2 hm))
      have hR3 : NodeRow w3 B v' (lits (j + 1)) := row_touch K.out.1 tA (fun m hm hm2 => hap m hm2 hm)
      have hlo : ∀ m ∈ rowOf u10, B ≤ m := fun m hm => (World.ownsRow.lt hI3 m (rowOf_mem.1 hm)).1
      have t3 : Touch [] w1 w3 := K.out.2.trans tA (fun m hm => .inr (by rw [HB.out]; exact hlo m hm))
      have K2 := Lib.hid (And.intro hR3 (And.intro k1 t3))
      clear k1 k2 k3 k4 tA t3 hap hI3 bI hlo hR3 K hb2 hb3
      go_wp2_with fail
      go_roundw
      case rel => exact ⟨j + 1, by omega, vint (by omega), K2.out.1, K2.out.2.1, K2.out.2.2⟩
      case measure => simp only [intOf]; omega
    · have hlt2 : ¬ (j : Int) < k := by omega
      obtain rfl : j = k := by omega
      obtain ⟨pa, pc, rfl⟩ := own_slice hI
      rw [nums_len] at hI ⊢
      have hb1 : B ≤ wr.heap.size := by rw [← HB.out]; exact t1.size
      have bN := Blk.new wr 37 #[.int .i64 11, .int .i64 0, .slice pa j pc]
      have hR2 : NodeRow (wr.alloc (.cells #[.int .i64 11, .int .i64 0, .slice pa j pc] 37)) B u9 (lits j) := hR.alloc _
      have hb2 : B ≤ (wr.alloc (.cells #[.int .i64 11, .int .i64 0, .slice pa j pc] 37)).heap.size := by simp; omega
      have HI := Lib.hid hI
      have T1 := Lib.hid t1
      clear hI t1 hR hlt hb1
      go_wp2_with (at_builtin; refine wpList_node rfl _ _ rfl _ _ (⟨11, 0, nums j⟩, .slice pa j pc) wr.heap.size B rfl hR2 rfl bN rfl (by rw [lits_len]; omega) hb2 ?_)
      intro v' w2 k1 k2 k3 k4
      have hap := rows_apart hR2 (HI.out.alloc _) (by decide)
      have tA : Touch (rowOf u9) wr w2 := ((Touch.refl (rowOf u9) wr).alloc _).grown k2 (fun m hm => .inl (rowOf_mem.2 hm))
      have hI2 : IntRow w2 B (.slice pa j pc) (nums j) := row_touch HI.out tA (fun m hm hm2 => hap m hm2 hm)
      have hlo : ∀ m ∈ rowOf u9, B ≤ m := fun m hm => (World.ownsRow.lt hR2 m (rowOf_mem.1 hm)).1
      have t2 : Touch [] w1 w2 := T1.out.trans tA (fun m hm => .inr (by rw [HB.out]; exact hlo m hm))
      have hNN : NodesAt w2 v' (choiceL j) := by
        rw [← lits_choice j (.slice pa j pc)]
        refine k1.nodes (by simp) (fun p hp => ?_)
        rcases List.mem_append.1 hp with h | h
        · obtain ⟨i, _, rfl⟩ := List.mem_map.1 h
          exact .inl ⟨rfl, rfl⟩
        · rw [List.mem_singleton.1 h]
          exact hI2.kids
      have HW0 := Lib.hid (And.intro hNN t2)
      have e1 : IntKind.i64.wrap (100 + (j : Int)) = 100 + j := by rw [IntKind.wrap_i64]; omega
      have e2 : IntKind.i64.wrap (100 + (j : Int) - 1) = 99 + j := by rw [IntKind.wrap_i64]; omega
      have e3 : IntKind.i64.wrap ((j : Int) - 1) = j - 1 := by rw [IntKind.wrap_i64]; omega
      clear k1 k2 k3 k4 tA t2 hap hR2 bN hlo HI hI2 T1 hNN hb2
      go_upto_region 13 with fail
      have bW := Blk.new w2 34 #[.int .i64 n, .int .i64 (99 + (j : Int))]
      have tW := (Touch.refl [] w2).alloc (.cells #[.int .i64 n, .int .i64 (99 + (j : Int))] 34)
      obtain ⟨gw, hgw⟩ : ∃ g, w2.heap.size = g := ⟨_, rfl⟩
      rw [hgw] at bW ⊢
      clear hgw
      generalize (w2.alloc (.cells #[.int .i64 n, .int .i64 (99 + (j : Int))] 34)) = w3 at *
      have hWF : wantF j n = (if 0 ≤ n ∧ n < (j : Int) - 1 then 100 + n else n) := rfl
      have hcase : (0 ≤ n ∧ n < (j : Int) - 1) ∨ (¬ n ≥ 0) ∨ (n ≥ 0 ∧ ¬ n < (j : Int) - 1) := by omega
      rcases hcase with hc | hc | hc
      case' inl =>
        rw [if_pos hc] at hWF
        have h0 : n ≥ 0 := hc.1
        have h1 := hc.2
        have e4 : IntKind.i64.wrap (100 + n) = 100 + n := by rw [IntKind.wrap_i64]; omega
        have HWF := Lib.hid hWF
        clear hc hWF
        go_upto_region 16 with fail
        have bW2 := Blk.new w3 34 #[.int .i64 (100 + n)]
        have tW2 := (Touch.refl [] w3).alloc (.cells #[.int .i64 (100 + n)] 34)
        obtain ⟨gh, hgh⟩ : ∃ g, w3.heap.size = g := ⟨_, rfl⟩
        rw [hgh] at bW2 ⊢
        clear hgh
        generalize (w3.alloc (.cells #[.int .i64 (100 + n)] 34)) = w4 at *
        have HF := Lib.hid (And.intro (RowC.blk (cs := [100 + n]) bW2 1) (And.intro (tW.trans tW2 (by simp)) HWF.out))
        clear bW2 tW2 e4 h0 h1 HWF bW tW
        generalize (100 + n) = W at *
        have HF := Lib.hid (show RowC w4 (.slice (some ⟨gh, 0, none⟩) 1 1) [W] ∧ _ from HF.out)
      case' inr.inl =>
        rw [if_neg (by omega)] at hWF
        have HWF := Lib.hid hWF
        clear hWF
        go_upto_region 16 with fail
        have HF := Lib.hid (And.intro (show RowC w3 (.slice (some ⟨gw, 0, none⟩) 1 2) [n] from ⟨_, _, rfl, fun i hi => ⟨gw, 0, rfl, by
          have hi0 : i = 0 := by have : i < 1 := hi; omega
          subst hi0
          exact bW.cell 0⟩⟩) (And.intro tW HWF.out))
        obtain ⟨W, hW⟩ : ∃ W, n = W := ⟨_, rfl⟩
        rw [show [n] = [W] by rw [hW]] at HF
        obtain ⟨gh, hgh⟩ : ∃ g, gw = g := ⟨_, rfl⟩
        rw [hgh] at HF ⊢
        obtain ⟨w4, hw4⟩ : ∃ z, w3 = z := ⟨_, rfl⟩
        rw [hw4] at HF ⊢
        rw [show wantF j n = n ↔ wantF j n = W by rw [← hW]] at HF
        clear hW hgh hw4 bW tW HWF hc
      case' inr.inr =>
        rw [if_neg (by omega)] at hWF
        have HWF := Lib.hid hWF
        have h0 := hc.1
        have h1 := hc.2
        clear hWF
        go_upto_region 16 with fail
        have HF := Lib.hid (And.intro (show RowC w3 (.slice (some ⟨gw, 0, none⟩) 1 2) [n] from ⟨_, _, rfl, fun i hi => ⟨gw, 0, rfl, by
          have hi0 : i = 0 := by have : i < 1 := hi; omega
          subst hi0
          exact bW.cell 0⟩⟩) (And.intro tW HWF.out))
        obtain ⟨W, hW⟩ : ∃ W, n = W := ⟨_, rfl⟩
        rw [show [n] = [W] by rw [hW]] at HF
        obtain ⟨gh, hgh⟩ : ∃ g, gw = g := ⟨_, rfl⟩
        rw [hgh] at HF ⊢
        obtain ⟨w4, hw4⟩ : ∃ z, w3 = z := ⟨_, rfl⟩
        rw [hw4] at HF ⊢
        rw [show wantF j n = n ↔ wantF j n = W by rw [← hW]] at HF
        clear h0 h1 hW hgh hw4 bW tW HWF hc
      all_goals
        have HN2 := Lib.hid ((HW0.out.1.quiet HF.out.2.1))
        have bC := Blk.new w4 34 #[.int .i64 n]
        have tC := (Touch.refl [] w4).alloc (.cells #[.int .i64 n] 34)
        have hCC : CellsAt (w4.alloc (.cells #[.int .i64 n] 34)) (.slice (some ⟨w4.heap.size, 0, none⟩) 1 1) [n] := .inr ⟨w4.heap.size, 0, 1, rfl, fun j u hj => by
          rw [Nat.zero_add, bC.cell j]
          simpa [cells] using hj⟩
        have hM := Mean_go (choiceL j) v' 0 (.slice (some ⟨w4.heap.size, 0, none⟩) 1 1) [n] 100 (w4.alloc (.cells #[.int .i64 n] 34)) (HN2.out.quiet tC) (choice_right hk2) (choice_ok hk2) hCC (fun x hx => by rw [List.mem_singleton.1 hx]; exact HN.out) (by simp) (by decide)
        obtain ⟨sc1, hcm⟩ := choice_mean j hk2 n
        rw [hcm, HF.out.2.2] at hM
        clear hcm hCC bC
        have TC := Lib.hid tC
        clear tC
        go_wp2_with fail
        refine hM.mono ?_
        rintro _ wm ⟨sv, rfl, hrow, t2⟩
        obtain ⟨sa, sc, rfl⟩ := own_slice hrow
        simp only [MeantV.val] at hrow ⊢
        have hrr := row_read hrow
        have hrr : RowC wm (.slice sa 1 sc) [W] := hrr
        clear hM hrow
        rw [show ([W] : List Int).length = 1 from rfl]
        go_upto_region 17 with fail
        have bM := Blk.new wm 29 #[Value.slice sa 1 sc, Value.int IntKind.i64 0, Value.bool true, Value.int IntKind.i64 (sc1 : Int)]
        have tM := (Touch.refl [] wm).alloc (Obj.cells #[Value.slice sa 1 sc, Value.int IntKind.i64 0, Value.bool true, Value.int IntKind.i64 (sc1 : Int)] 29)
        obtain ⟨gm, hgm⟩ : ∃ g, wm.heap.size = g := ⟨_, rfl⟩
        rw [hgm] at bM ⊢
        generalize (wm.alloc (Obj.cells #[Value.slice sa 1 sc, Value.int IntKind.i64 0, Value.bool true, Value.int IntKind.i64 (sc1 : Int)] 29)) = wn at *
        have HM := Lib.hid (And.intro bM (And.intro (hrr.quiet tM) (TC.out.trans (t2.trans tM (by simp)) (by simp))))
        clear hgm bM tM hrr t2
        have hy := HY.out
        go_upto_region 18 with fail
        obtain ⟨m, hm⟩ : ∃ m : Nat, y % 20 + 1 = m := ⟨(y % 20 + 1).toNat, by omega⟩
        rw [hm]
        have hm2 : 1 ≤ m ∧ m ≤ 20 := by omega
        have hm64 : Cell64 (m : Int) := by unfold Cell64; omega
        clear hm hy
        go_upto_region 19 with fail
        have NL : NodesAt (((((wn.alloc (Obj.cells #[Value.int IntKind.i64 5, Value.int IntKind.i64 6] 3)).alloc (Obj.cells #[Value.int IntKind.i64 2, Value.int IntKind.i64 3, Value.int IntKind.i64 4, Value.int IntKind.i64 7, Value.int IntKind.i64 8] 3)).alloc (Obj.cells #[Value.int IntKind.i64 9] 3)).alloc (Obj.cells #[Value.int IntKind.i64 0, Value.int IntKind.i64 1, Value.int IntKind.i64 10] 3)).alloc (Obj.cells #[Value.int IntKind.i64 1, Value.int IntKind.i64 50, Value.slice none 0 0, Value.int IntKind.i64 1, Value.int IntKind.i64 0, Value.slice none 0 0, Value.int IntKind.i64 8, Value.int IntKind.i64 0, Value.slice none 0 0, Value.int IntKind.i64 1, Value.int IntKind.i64 (m : Int), Value.slice none 0 0, Value.int IntKind.i64 2, Value.int IntKind.i64 21, Value.slice none 0 0, Value.int IntKind.i64 9, Value.int IntKind.i64 0, Value.slice none 0 0, Value.int IntKind.i64 3, Value.int IntKind.i64 0, Value.slice none 0 0, Value.int IntKind.i64 4, Value.int IntKind.i64 0, Value.slice (some ⟨wn.heap.size, 0, none⟩) 2 2, Value.int IntKind.i64 8, Value.int IntKind.i64 0, Value.slice none 0 0, Value.int IntKind.i64 3, Value.int IntKind.i64 0, Value.slice (some ⟨wn.heap.size + 1, 0, none⟩) 5 5, Value.int IntKind.i64 5, Value.int IntKind.i64 0, Value.slice (some ⟨wn.heap.size + 1 + 1, 0, none⟩) 1 1, Value.int IntKind.i64 3, Value.int IntKind.i64 0, Value.slice (some ⟨wn.heap.size + 1 + 1 + 1, 0, none⟩) 3 3] 37)) (.slice (some ⟨wn.heap.size + 1 + 1 + 1 + 1, 0, none⟩) 12 12) (leftL (m : Int)) := left_nodes (Blk.new_at _ (by simp) _ _) (((((Blk.new wn _ _).alloc _).alloc _).alloc _).alloc _) ((((Blk.new_at _ (by simp) _ _).alloc _).alloc _).alloc _) (((Blk.new_at _ (by simp) _ _).alloc _).alloc _) ((Blk.new_at _ (by simp) _ _).alloc _)
        have tL : Touch [] wn (((((wn.alloc (Obj.cells #[Value.int IntKind.i64 5, Value.int IntKind.i64 6] 3)).alloc (Obj.cells #[Value.int IntKind.i64 2, Value.int IntKind.i64 3, Value.int IntKind.i64 4, Value.int IntKind.i64 7, Value.int IntKind.i64 8] 3)).alloc (Obj.cells #[Value.int IntKind.i64 9] 3)).alloc (Obj.cells #[Value.int IntKind.i64 0, Value.int IntKind.i64 1, Value.int IntKind.i64 10] 3)).alloc (Obj.cells #[Value.int IntKind.i64 1, Value.int IntKind.i64 50, Value.slice none 0 0, Value.int IntKind.i64 1, Value.int IntKind.i64 0, Value.slice none 0 0, Value.int IntKind.i64 8, Value.int IntKind.i64 0, Value.slice none 0 0, Value.int IntKind.i64 1, Value.int IntKind.i64 (m : Int), Value.slice none 0 0, Value.int IntKind.i64 2, Value.int IntKind.i64 21, Value.slice none 0 0, Value.int IntKind.i64 9, Value.int IntKind.i64 0, Value.slice none 0 0, Value.int IntKind.i64 3, Value.int IntKind.i64 0, Value.slice none 0 0, Value.int IntKind.i64 4, Value.int IntKind.i64 0, Value.slice (some ⟨wn.heap.size, 0, none⟩) 2 2, Value.int IntKind.i64 8, Value.int IntKind.i64 0, Value.slice none 0 0, Value.int IntKind.i64 3, Value.int IntKind.i64 0, Value.slice (some ⟨wn.heap.size + 1, 0, none⟩) 5 5, Value.int IntKind.i64 5, Value.int IntKind.i64 0, Value.slice (some ⟨wn.heap.size + 1 + 1, 0, none⟩) 1 1, Value.int IntKind.i64 3, Value.int IntKind.i64 0, Value.slice (some ⟨wn.heap.size + 1 + 1 + 1, 0, none⟩) 3 3] 37)) := (((((Touch.refl [] wn).alloc _).alloc _).alloc _).alloc _).alloc _
        generalize (((((wn.alloc (Obj.cells #[Value.int IntKind.i64 5, Value.int IntKind.i64 6] 3)).alloc (Obj.cells #[Value.int IntKind.i64 2, Value.int IntKind.i64 3, Value.int IntKind.i64 4, Value.int IntKind.i64 7, Value.int IntKind.i64 8] 3)).alloc (Obj.cells #[Value.int IntKind.i64 9] 3)).alloc (Obj.cells #[Value.int IntKind.i64 0, Value.int IntKind.i64 1, Value.int IntKind.i64 10] 3)).alloc (Obj.cells #[Value.int IntKind.i64 1, Value.int IntKind.i64 50, Value.slice none 0 0, Value.int IntKind.i64 1, Value.int IntKind.i64 0, Value.slice none 0 0, Value.int IntKind.i64 8, Value.int IntKind.i64 0, Value.slice none 0 0, Value.int IntKind.i64 1, Value.int IntKind.i64 (m : Int), Value.slice none 0 0, Value.int IntKind.i64 2, Value.int IntKind.i64 21, Value.slice none 0 0, Value.int IntKind.i64 9, Value.int IntKind.i64 0, Value.slice none 0 0, Value.int IntKind.i64 3, Value.int IntKind.i64 0, Value.slice none 0 0, Value.int IntKind.i64 4, Value.int IntKind.i64 0, Value.slice (some ⟨wn.heap.size, 0, none⟩) 2 2, Value.int IntKind.i64 8, Value.int IntKind.i64 0, Value.slice none 0 0, Value.int IntKind.i64 3, Value.int IntKind.i64 0, Value.slice (some ⟨wn.heap.size + 1, 0, none⟩) 5 5, Value.int IntKind.i64 5, Value.int IntKind.i64 0, Value.slice (some ⟨wn.heap.size + 1 + 1, 0, none⟩) 1 1, Value.int IntKind.i64 3, Value.int IntKind.i64 0, Value.slice (some ⟨wn.heap.size + 1 + 1 + 1, 0, none⟩) 3 3] 37)) = w6 at *
        have hM2 := Mean_go (leftL (m : Int)) (.slice (some ⟨wn.heap.size + 1 + 1 + 1 + 1, 0, none⟩) 12 12) 0 (.slice none 0 0) [] 2000 w6 NL (left_right _) (left_nodes_ok hm64) (.inl ⟨rfl, rfl⟩) (fun x hx => by cases hx) (by decide) (by decide)
        obtain ⟨lc, ls, hlm⟩ := left_mean hm2
        rw [hlm] at hM2
        have HL := Lib.hid tL
        clear NL tL hlm hm64
        go_wp2_with fail
        refine hM2.mono ?_
        rintro _ wp ⟨sv2, rfl, hrow, t2⟩
        obtain ⟨sa2, sc2, rfl⟩ := own_slice hrow
        simp only [MeantV.val] at hrow ⊢
        have hrr := row_read hrow
        have hlen : ((List.range m).map Int.ofNat).length = m := by simp
        rw [hlen] at hrow ⊢
        clear hM2 hrow
        go_upto_region 20 with fail
        have bL := Blk.new wp 29 #[Value.slice sa2 m sc2, Value.int IntKind.i64 lc, Value.bool true, Value.int IntKind.i64 (ls : Int)]
        have tP := (Touch.refl [] wp).alloc (Obj.cells #[Value.slice sa2 m sc2, Value.int IntKind.i64 lc, Value.bool true, Value.int IntKind.i64 (ls : Int)] 29)
        obtain ⟨gl, hgl⟩ : ∃ g, wp.heap.size = g := ⟨_, rfl⟩
        rw [hgl] at bL ⊢
        generalize (wp.alloc (Obj.cells #[Value.slice sa2 m sc2, Value.int IntKind.i64 lc, Value.bool true, Value.int IntKind.i64 (ls : Int)] 29)) = wq at *
        have T5 := HL.out.trans (t2.trans tP (by simp)) (by simp)
        have hrr := hrr.quiet tP
        have l0 := bL.cell 0
        have l2 := bL.cell 2
        have hnem : ((m : Int) != m) = false := by simp
        have HR := Lib.hid (And.intro hrr T5)
        clear hgl tP t2 hrr T5
        go_wp2_with fail
        go_loopw [103] (fun i wr => ∃ q : Nat, q ≤ m ∧ i = .int .i64 q ∧ Touch [] wq wr) (fun i _ => m - (intOf i).toNat)
        case atStart => exact ⟨0, Nat.zero_le _, rfl, Touch.refl _ _⟩
        case round =>
          obtain ⟨q, hq, rfl, t1⟩ := hrel
          by_cases hlt : q < m
          · have hlt2 : (q : Int) < m := by omega
            have hR := HR.out.1
            obtain ⟨a', c', e', k'⟩ := hR
            obtain ⟨g', o', rfl, hc⟩ := k' q (by simp; exact hlt)
            injection e' with e1 e2 e3
            subst e1
            have hq2 : ((List.range m).map Int.ofNat).getD q 0 = (q : Int) := by simp [List.getD, hlt]
            rw [hq2] at hc
            have hc := cell_quiet t1 hc
            have ek : IntKind.i64.wrap ((q : Int) + 1) = (q + 1 : Nat) := by rw [IntKind.wrap_i64]; omega
            have hqq : ((q : Int) != q) = false := by simp
            have T1 := Lib.hid t1
            clear t1 k' hq2 l0 l2
            go_wp2_with fail
            go_roundw
            case rel => exact ⟨q + 1, by omega, vint (by omega), T1.out⟩
            case measure => simp only [intOf]; omega
          · have hlt2 : ¬ (q : Int) < m := by omega
            have tt := HR.out.2.trans t1 (by simp)
            have bM := HM.out.1.touch tt (by simp)
            have m0 := bM.cell 0
            have m1 := bM.cell 1
            have m2 := bM.cell 2
            have tW := HM.out.2.2.trans tt (by simp)
            have hS := Same_eq _ _ [W] wr (HM.out.2.1.quiet tt) (HF.out.1.quiet tW) (by simp)
            have HE := Lib.hid (((T.out.trans HW0.out.2 (by simp)).trans HF.out.2.1 (by simp)).trans tW (by simp))
            clear bM tt tW t1 hlt l0 l2
            go_wp2_with fail
            refine hS.mono ?_
            rintro _ wz ⟨rfl, t9⟩
            go_wp2_with fail
            go_ret
            exact ⟨rfl, HE.out.trans t9 (by simp)⟩
end Go.Proofs.YtnhhflnanogpjaaGreatDoor
