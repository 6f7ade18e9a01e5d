/- TreeSums: the walk (printed by wip/sums.py). -/
import Derived.Test.YtnhhflnanogpjaaGreatDoorSumsNodes
namespace Go.Proofs.YtnhhflnanogpjaaGreatDoor
open Go.RowKit

set_option maxRecDepth 100000 in
set_option maxHeartbeats 4000000 in
theorem TreeSums_walk (x y : Int) (hx : 0 ≤ x ∧ x ≤ 255) (hy : 0 ≤ y ∧ y ≤ 255) (w : World) (hT : TabsOk w) :
    Calls Tryz.prog 4 #[.int .u8 x, .int .u8 y] w fun e w' => e = .returned (.bool true) ∧ Touch [] w w' := by
  have hSh := shown_any w hT
  clear hT
  go_enter Tryz.func4, Tryz.ntmps4
  go_wp2_with fail
  refine hSh.mono ?_
  rintro _ w1 ⟨rfl, T⟩
  clear hSh
  go_upto_region 3 with fail
  obtain ⟨a, ha⟩ : ∃ a, x % 101 = a := ⟨_, rfl⟩
  obtain ⟨n, hn⟩ : ∃ n : Nat, y % 30 = n := ⟨(y % 30).toNat, by omega⟩
  rw [ha, hn]
  have ha2 : 0 ≤ a ∧ a ≤ 100 := by omega
  have hn2 : n < 30 := by omega
  clear ha hn hx hy
  have hE12 := enters_of Tryz.func12 (by kernel_rfl) rfl
  have hE13 := enters_of Tryz.func13 (by kernel_rfl) rfl
  obtain ⟨e, he⟩ : ∃ e : Int, a + ((n + 1 : Nat) : Int) = e := ⟨_, rfl⟩
  have hwe : IntKind.i64.wrap (a + ((n : Int) + 1)) = e := by rw [IntKind.wrap_i64]; omega
  have ha64 : Cell64 a := by unfold Cell64; omega
  have he64 : Cell64 e := by unfold Cell64; omega
  have HE := Lib.hid he
  clear he
  go_wp2_with fail
  refine (lit_any _ _).mono ?_
  rintro _ w2 ⟨rfl, tn⟩
  have T := T.trans tn (by simp)
  clear tn
  go_wp2_with fail
  refine (lit_any _ _).mono ?_
  rintro _ w3 ⟨rfl, tn⟩
  have T := T.trans tn (by simp)
  clear tn
  go_wp2_with fail
  refine (lit_any _ _).mono ?_
  rintro _ w4 ⟨rfl, tn⟩
  have T := T.trans tn (by simp)
  clear tn
  go_wp2_with fail
  refine (primn_any _ _).mono ?_
  rintro _ w5 ⟨rfl, tn⟩
  have T := T.trans tn (by simp)
  clear tn
  go_upto_region 6 with fail
  have tA : Touch [] w5 ((((w5.alloc (Obj.cells #[Value.int IntKind.i64 3, Value.int IntKind.i64 4] 3)).alloc (Obj.cells #[Value.int IntKind.i64 5] 3)).alloc (Obj.cells #[Value.int IntKind.i64 0, Value.int IntKind.i64 1, Value.int IntKind.i64 2, Value.int IntKind.i64 6] 3)).alloc (Obj.cells #[Value.int IntKind.i64 1, Value.int IntKind.i64 0, Value.slice none 0 0, Value.int IntKind.i64 1, Value.int IntKind.i64 e, Value.slice none 0 0, Value.int IntKind.i64 1, Value.int IntKind.i64 a, Value.slice none 0 0, Value.int IntKind.i64 8, Value.int IntKind.i64 0, Value.slice none 0 0, Value.int IntKind.i64 2, Value.int IntKind.i64 11, Value.slice none 0 0, Value.int IntKind.i64 3, Value.int IntKind.i64 0, Value.slice (some ⟨w5.heap.size, 0, none⟩) 2 2, Value.int IntKind.i64 5, Value.int IntKind.i64 0, Value.slice (some ⟨w5.heap.size + 1, 0, none⟩) 1 1, Value.int IntKind.i64 3, Value.int IntKind.i64 0, Value.slice (some ⟨w5.heap.size + 1 + 1, 0, none⟩) 4 4] 37)) := ((((Touch.refl [] w5).alloc _).alloc _).alloc _).alloc _
  have Ndo : NodesAt ((((w5.alloc (Obj.cells #[Value.int IntKind.i64 3, Value.int IntKind.i64 4] 3)).alloc (Obj.cells #[Value.int IntKind.i64 5] 3)).alloc (Obj.cells #[Value.int IntKind.i64 0, Value.int IntKind.i64 1, Value.int IntKind.i64 2, Value.int IntKind.i64 6] 3)).alloc (Obj.cells #[Value.int IntKind.i64 1, Value.int IntKind.i64 0, Value.slice none 0 0, Value.int IntKind.i64 1, Value.int IntKind.i64 e, Value.slice none 0 0, Value.int IntKind.i64 1, Value.int IntKind.i64 a, Value.slice none 0 0, Value.int IntKind.i64 8, Value.int IntKind.i64 0, Value.slice none 0 0, Value.int IntKind.i64 2, Value.int IntKind.i64 11, Value.slice none 0 0, Value.int IntKind.i64 3, Value.int IntKind.i64 0, Value.slice (some ⟨w5.heap.size, 0, none⟩) 2 2, Value.int IntKind.i64 5, Value.int IntKind.i64 0, Value.slice (some ⟨w5.heap.size + 1, 0, none⟩) 1 1, Value.int IntKind.i64 3, Value.int IntKind.i64 0, Value.slice (some ⟨w5.heap.size + 1 + 1, 0, none⟩) 4 4] 37)) (.slice (some ⟨w5.heap.size + 1 + 1 + 1, 0, none⟩) 8 8) (doL a e) := do_nodes (g1 := w5.heap.size) (g2 := w5.heap.size + 1) (g3 := w5.heap.size + 1 + 1) (Blk.new_at _ (by simp) _ _) ((((Blk.new w5 _ _).alloc _).alloc _).alloc _) (((Blk.new_at _ (by simp) _ _).alloc _).alloc _) ((Blk.new_at _ (by simp) _ _).alloc _)
  generalize ((((w5.alloc (Obj.cells #[Value.int IntKind.i64 3, Value.int IntKind.i64 4] 3)).alloc (Obj.cells #[Value.int IntKind.i64 5] 3)).alloc (Obj.cells #[Value.int IntKind.i64 0, Value.int IntKind.i64 1, Value.int IntKind.i64 2, Value.int IntKind.i64 6] 3)).alloc (Obj.cells #[Value.int IntKind.i64 1, Value.int IntKind.i64 0, Value.slice none 0 0, Value.int IntKind.i64 1, Value.int IntKind.i64 e, Value.slice none 0 0, Value.int IntKind.i64 1, Value.int IntKind.i64 a, Value.slice none 0 0, Value.int IntKind.i64 8, Value.int IntKind.i64 0, Value.slice none 0 0, Value.int IntKind.i64 2, Value.int IntKind.i64 11, Value.slice none 0 0, Value.int IntKind.i64 3, Value.int IntKind.i64 0, Value.slice (some ⟨w5.heap.size, 0, none⟩) 2 2, Value.int IntKind.i64 5, Value.int IntKind.i64 0, Value.slice (some ⟨w5.heap.size + 1, 0, none⟩) 1 1, Value.int IntKind.i64 3, Value.int IntKind.i64 0, Value.slice (some ⟨w5.heap.size + 1 + 1, 0, none⟩) 4 4] 37)) = w6 at *
  have T := T.trans tA (by simp)
  obtain ⟨bdo, hb⟩ : ∃ b, w5.heap.size + 1 + 1 + 1 = b := ⟨_, rfl⟩
  rw [hb] at Ndo ⊢
  have Hdo := Lib.hid Ndo
  clear tA hb Ndo 
  have Tdo := Lib.hid (Touch.refl [] w6)
  go_wp2_with fail
  refine (lit_any _ _).mono ?_
  rintro _ w7 ⟨rfl, tn⟩
  have T := T.trans tn (by simp)
  have Tdo := Lib.hid (Tdo.out.trans tn (by simp))
  clear tn
  go_wp2_with fail
  refine (lit_any _ _).mono ?_
  rintro _ w8 ⟨rfl, tn⟩
  have T := T.trans tn (by simp)
  have Tdo := Lib.hid (Tdo.out.trans tn (by simp))
  clear tn
  go_wp2_with fail
  refine (primn_any _ _).mono ?_
  rintro _ w9 ⟨rfl, tn⟩
  have T := T.trans tn (by simp)
  have Tdo := Lib.hid (Tdo.out.trans tn (by simp))
  clear tn
  go_wp2_with fail
  refine (primn_any _ _).mono ?_
  rintro _ w10 ⟨rfl, tn⟩
  have T := T.trans tn (by simp)
  have Tdo := Lib.hid (Tdo.out.trans tn (by simp))
  clear tn
  go_wp2_with fail
  refine (primn_any _ _).mono ?_
  rintro _ w11 ⟨rfl, tn⟩
  have T := T.trans tn (by simp)
  have Tdo := Lib.hid (Tdo.out.trans tn (by simp))
  clear tn
  go_wp2_with fail
  refine (primn_any _ _).mono ?_
  rintro _ w12 ⟨rfl, tn⟩
  have T := T.trans tn (by simp)
  have Tdo := Lib.hid (Tdo.out.trans tn (by simp))
  clear tn
  go_wp2_with fail
  refine (primn_any _ _).mono ?_
  rintro _ w13 ⟨rfl, tn⟩
  have T := T.trans tn (by simp)
  have Tdo := Lib.hid (Tdo.out.trans tn (by simp))
  clear tn
  go_wp2_with fail
  refine (lit_any _ _).mono ?_
  rintro _ w14 ⟨rfl, tn⟩
  have T := T.trans tn (by simp)
  have Tdo := Lib.hid (Tdo.out.trans tn (by simp))
  clear tn
  go_wp2_with fail
  refine (primn_any _ _).mono ?_
  rintro _ w15 ⟨rfl, tn⟩
  have T := T.trans tn (by simp)
  have Tdo := Lib.hid (Tdo.out.trans tn (by simp))
  clear tn
  go_wp2_with fail
  have huntil1 : Blk ((w15.alloc (Obj.cells #[Value.int IntKind.i64 2, Value.int IntKind.i64 3, Value.int IntKind.i64 4, Value.int IntKind.i64 5, Value.int IntKind.i64 6, Value.int IntKind.i64 7, Value.int IntKind.i64 8] 3)).alloc (Obj.cells #[Value.int IntKind.i64 9] 3)) (w15.heap.size) 3 #[Value.int IntKind.i64 2, Value.int IntKind.i64 3, Value.int IntKind.i64 4, Value.int IntKind.i64 5, Value.int IntKind.i64 6, Value.int IntKind.i64 7, Value.int IntKind.i64 8] := ((Blk.new w15 _ _).alloc _)
  have huntil2 : Blk ((w15.alloc (Obj.cells #[Value.int IntKind.i64 2, Value.int IntKind.i64 3, Value.int IntKind.i64 4, Value.int IntKind.i64 5, Value.int IntKind.i64 6, Value.int IntKind.i64 7, Value.int IntKind.i64 8] 3)).alloc (Obj.cells #[Value.int IntKind.i64 9] 3)) (w15.heap.size + 1) 3 #[Value.int IntKind.i64 9] := (Blk.new_at _ (by simp) _ _)
  have tA : Touch [] w15 ((w15.alloc (Obj.cells #[Value.int IntKind.i64 2, Value.int IntKind.i64 3, Value.int IntKind.i64 4, Value.int IntKind.i64 5, Value.int IntKind.i64 6, Value.int IntKind.i64 7, Value.int IntKind.i64 8] 3)).alloc (Obj.cells #[Value.int IntKind.i64 9] 3)) := ((Touch.refl [] w15).alloc _).alloc _
  generalize ((w15.alloc (Obj.cells #[Value.int IntKind.i64 2, Value.int IntKind.i64 3, Value.int IntKind.i64 4, Value.int IntKind.i64 5, Value.int IntKind.i64 6, Value.int IntKind.i64 7, Value.int IntKind.i64 8] 3)).alloc (Obj.cells #[Value.int IntKind.i64 9] 3)) = w16 at *
  have T := T.trans tA (by simp)
  have Tdo := Lib.hid (Tdo.out.trans tA (by simp))
  obtain ⟨guntil2, hg⟩ : ∃ g, w15.heap.size + 1 = g := ⟨_, rfl⟩
  rw [hg] at huntil2 ⊢
  clear hg
  obtain ⟨guntil1, hg⟩ : ∃ g, w15.heap.size = g := ⟨_, rfl⟩
  rw [hg] at huntil1 ⊢
  clear hg
  clear tA
  refine (primn_any _ _).mono ?_
  rintro _ w17 ⟨rfl, tn⟩
  have T := T.trans tn (by simp)
  have Tdo := Lib.hid (Tdo.out.trans tn (by simp))
  have huntil1 := huntil1.touch tn (by simp)
  have huntil2 := huntil2.touch tn (by simp)
  clear tn
  go_upto_region 7 with fail
  have tA : Touch [] w17 ((w17.alloc (Obj.cells #[Value.int IntKind.i64 0, Value.int IntKind.i64 1, Value.int IntKind.i64 10, Value.int IntKind.i64 11] 3)).alloc (Obj.cells #[Value.int IntKind.i64 1, Value.int IntKind.i64 0, Value.slice none 0 0, Value.int IntKind.i64 1, Value.int IntKind.i64 a, Value.slice none 0 0, Value.int IntKind.i64 2, Value.int IntKind.i64 34, Value.slice none 0 0, Value.int IntKind.i64 2, Value.int IntKind.i64 11, Value.slice none 0 0, Value.int IntKind.i64 2, Value.int IntKind.i64 30, Value.slice none 0 0, Value.int IntKind.i64 2, Value.int IntKind.i64 4, Value.slice none 0 0, Value.int IntKind.i64 2, Value.int IntKind.i64 28, Value.slice none 0 0, Value.int IntKind.i64 1, Value.int IntKind.i64 e, Value.slice none 0 0, Value.int IntKind.i64 2, Value.int IntKind.i64 21, Value.slice none 0 0, Value.int IntKind.i64 3, Value.int IntKind.i64 0, Value.slice (some ⟨guntil1, 0, none⟩) 7 7, Value.int IntKind.i64 6, Value.int IntKind.i64 0, Value.slice (some ⟨guntil2, 0, none⟩) 1 1, Value.int IntKind.i64 2, Value.int IntKind.i64 29, Value.slice none 0 0, Value.int IntKind.i64 3, Value.int IntKind.i64 0, Value.slice (some ⟨w17.heap.size, 0, none⟩) 4 4] 37)) := ((Touch.refl [] w17).alloc _).alloc _
  have Nuntil : NodesAt ((w17.alloc (Obj.cells #[Value.int IntKind.i64 0, Value.int IntKind.i64 1, Value.int IntKind.i64 10, Value.int IntKind.i64 11] 3)).alloc (Obj.cells #[Value.int IntKind.i64 1, Value.int IntKind.i64 0, Value.slice none 0 0, Value.int IntKind.i64 1, Value.int IntKind.i64 a, Value.slice none 0 0, Value.int IntKind.i64 2, Value.int IntKind.i64 34, Value.slice none 0 0, Value.int IntKind.i64 2, Value.int IntKind.i64 11, Value.slice none 0 0, Value.int IntKind.i64 2, Value.int IntKind.i64 30, Value.slice none 0 0, Value.int IntKind.i64 2, Value.int IntKind.i64 4, Value.slice none 0 0, Value.int IntKind.i64 2, Value.int IntKind.i64 28, Value.slice none 0 0, Value.int IntKind.i64 1, Value.int IntKind.i64 e, Value.slice none 0 0, Value.int IntKind.i64 2, Value.int IntKind.i64 21, Value.slice none 0 0, Value.int IntKind.i64 3, Value.int IntKind.i64 0, Value.slice (some ⟨guntil1, 0, none⟩) 7 7, Value.int IntKind.i64 6, Value.int IntKind.i64 0, Value.slice (some ⟨guntil2, 0, none⟩) 1 1, Value.int IntKind.i64 2, Value.int IntKind.i64 29, Value.slice none 0 0, Value.int IntKind.i64 3, Value.int IntKind.i64 0, Value.slice (some ⟨w17.heap.size, 0, none⟩) 4 4] 37)) (.slice (some ⟨w17.heap.size + 1, 0, none⟩) 13 13) (untilL a e) := until_nodes (g1 := guntil1) (g2 := guntil2) (g3 := w17.heap.size) (Blk.new_at _ (by simp) _ _) (huntil1.touch tA (by simp)) (huntil2.touch tA (by simp)) ((Blk.new w17 _ _).alloc _)
  generalize ((w17.alloc (Obj.cells #[Value.int IntKind.i64 0, Value.int IntKind.i64 1, Value.int IntKind.i64 10, Value.int IntKind.i64 11] 3)).alloc (Obj.cells #[Value.int IntKind.i64 1, Value.int IntKind.i64 0, Value.slice none 0 0, Value.int IntKind.i64 1, Value.int IntKind.i64 a, Value.slice none 0 0, Value.int IntKind.i64 2, Value.int IntKind.i64 34, Value.slice none 0 0, Value.int IntKind.i64 2, Value.int IntKind.i64 11, Value.slice none 0 0, Value.int IntKind.i64 2, Value.int IntKind.i64 30, Value.slice none 0 0, Value.int IntKind.i64 2, Value.int IntKind.i64 4, Value.slice none 0 0, Value.int IntKind.i64 2, Value.int IntKind.i64 28, Value.slice none 0 0, Value.int IntKind.i64 1, Value.int IntKind.i64 e, Value.slice none 0 0, Value.int IntKind.i64 2, Value.int IntKind.i64 21, Value.slice none 0 0, Value.int IntKind.i64 3, Value.int IntKind.i64 0, Value.slice (some ⟨guntil1, 0, none⟩) 7 7, Value.int IntKind.i64 6, Value.int IntKind.i64 0, Value.slice (some ⟨guntil2, 0, none⟩) 1 1, Value.int IntKind.i64 2, Value.int IntKind.i64 29, Value.slice none 0 0, Value.int IntKind.i64 3, Value.int IntKind.i64 0, Value.slice (some ⟨w17.heap.size, 0, none⟩) 4 4] 37)) = w18 at *
  have T := T.trans tA (by simp)
  have Tdo := Lib.hid (Tdo.out.trans tA (by simp))
  obtain ⟨buntil, hb⟩ : ∃ b, w17.heap.size + 1 = b := ⟨_, rfl⟩
  rw [hb] at Nuntil ⊢
  have Huntil := Lib.hid Nuntil
  clear tA hb Nuntil huntil1 huntil2
  have Tuntil := Lib.hid (Touch.refl [] w18)
  go_wp2_with fail
  refine (lit_any _ _).mono ?_
  rintro _ w19 ⟨rfl, tn⟩
  have T := T.trans tn (by simp)
  have Tdo := Lib.hid (Tdo.out.trans tn (by simp))
  have Tuntil := Lib.hid (Tuntil.out.trans tn (by simp))
  clear tn
  go_wp2_with fail
  refine (lit_any _ _).mono ?_
  rintro _ w20 ⟨rfl, tn⟩
  have T := T.trans tn (by simp)
  have Tdo := Lib.hid (Tdo.out.trans tn (by simp))
  have Tuntil := Lib.hid (Tuntil.out.trans tn (by simp))
  clear tn
  go_wp2_with fail
  refine (primn_any _ _).mono ?_
  rintro _ w21 ⟨rfl, tn⟩
  have T := T.trans tn (by simp)
  have Tdo := Lib.hid (Tdo.out.trans tn (by simp))
  have Tuntil := Lib.hid (Tuntil.out.trans tn (by simp))
  clear tn
  go_wp2_with fail
  refine (lit_any _ _).mono ?_
  rintro _ w22 ⟨rfl, tn⟩
  have T := T.trans tn (by simp)
  have Tdo := Lib.hid (Tdo.out.trans tn (by simp))
  have Tuntil := Lib.hid (Tuntil.out.trans tn (by simp))
  clear tn
  go_wp2_with fail
  refine (primn_any _ _).mono ?_
  rintro _ w23 ⟨rfl, tn⟩
  have T := T.trans tn (by simp)
  have Tdo := Lib.hid (Tdo.out.trans tn (by simp))
  have Tuntil := Lib.hid (Tuntil.out.trans tn (by simp))
  clear tn
  go_wp2_with fail
  have hwhile1 : Blk (w23.alloc (Obj.cells #[Value.int IntKind.i64 2, Value.int IntKind.i64 3, Value.int IntKind.i64 4] 3)) (w23.heap.size) 3 #[Value.int IntKind.i64 2, Value.int IntKind.i64 3, Value.int IntKind.i64 4] := (Blk.new w23 _ _)
  have tA : Touch [] w23 (w23.alloc (Obj.cells #[Value.int IntKind.i64 2, Value.int IntKind.i64 3, Value.int IntKind.i64 4] 3)) := (Touch.refl [] w23).alloc _
  generalize (w23.alloc (Obj.cells #[Value.int IntKind.i64 2, Value.int IntKind.i64 3, Value.int IntKind.i64 4] 3)) = w24 at *
  have T := T.trans tA (by simp)
  have Tdo := Lib.hid (Tdo.out.trans tA (by simp))
  have Tuntil := Lib.hid (Tuntil.out.trans tA (by simp))
  obtain ⟨gwhile1, hg⟩ : ∃ g, w23.heap.size = g := ⟨_, rfl⟩
  rw [hg] at hwhile1 ⊢
  clear hg
  clear tA
  refine (primn_any _ _).mono ?_
  rintro _ w25 ⟨rfl, tn⟩
  have T := T.trans tn (by simp)
  have Tdo := Lib.hid (Tdo.out.trans tn (by simp))
  have Tuntil := Lib.hid (Tuntil.out.trans tn (by simp))
  have hwhile1 := hwhile1.touch tn (by simp)
  clear tn
  go_wp2_with fail
  refine (primn_any _ _).mono ?_
  rintro _ w26 ⟨rfl, tn⟩
  have T := T.trans tn (by simp)
  have Tdo := Lib.hid (Tdo.out.trans tn (by simp))
  have Tuntil := Lib.hid (Tuntil.out.trans tn (by simp))
  have hwhile1 := hwhile1.touch tn (by simp)
  clear tn
  go_wp2_with fail
  refine (primn_any _ _).mono ?_
  rintro _ w27 ⟨rfl, tn⟩
  have T := T.trans tn (by simp)
  have Tdo := Lib.hid (Tdo.out.trans tn (by simp))
  have Tuntil := Lib.hid (Tuntil.out.trans tn (by simp))
  have hwhile1 := hwhile1.touch tn (by simp)
  clear tn
  go_wp2_with fail
  refine (primn_any _ _).mono ?_
  rintro _ w28 ⟨rfl, tn⟩
  have T := T.trans tn (by simp)
  have Tdo := Lib.hid (Tdo.out.trans tn (by simp))
  have Tuntil := Lib.hid (Tuntil.out.trans tn (by simp))
  have hwhile1 := hwhile1.touch tn (by simp)
  clear tn
  go_wp2_with fail
  have hwhile2 : Blk ((w28.alloc (Obj.cells #[Value.int IntKind.i64 6, Value.int IntKind.i64 7, Value.int IntKind.i64 8, Value.int IntKind.i64 9] 3)).alloc (Obj.cells #[Value.int IntKind.i64 5, Value.int IntKind.i64 10] 3)) (w28.heap.size) 3 #[Value.int IntKind.i64 6, Value.int IntKind.i64 7, Value.int IntKind.i64 8, Value.int IntKind.i64 9] := ((Blk.new w28 _ _).alloc _)
  have hwhile3 : Blk ((w28.alloc (Obj.cells #[Value.int IntKind.i64 6, Value.int IntKind.i64 7, Value.int IntKind.i64 8, Value.int IntKind.i64 9] 3)).alloc (Obj.cells #[Value.int IntKind.i64 5, Value.int IntKind.i64 10] 3)) (w28.heap.size + 1) 3 #[Value.int IntKind.i64 5, Value.int IntKind.i64 10] := (Blk.new_at _ (by simp) _ _)
  have tA : Touch [] w28 ((w28.alloc (Obj.cells #[Value.int IntKind.i64 6, Value.int IntKind.i64 7, Value.int IntKind.i64 8, Value.int IntKind.i64 9] 3)).alloc (Obj.cells #[Value.int IntKind.i64 5, Value.int IntKind.i64 10] 3)) := ((Touch.refl [] w28).alloc _).alloc _
  generalize ((w28.alloc (Obj.cells #[Value.int IntKind.i64 6, Value.int IntKind.i64 7, Value.int IntKind.i64 8, Value.int IntKind.i64 9] 3)).alloc (Obj.cells #[Value.int IntKind.i64 5, Value.int IntKind.i64 10] 3)) = w29 at *
  have T := T.trans tA (by simp)
  have Tdo := Lib.hid (Tdo.out.trans tA (by simp))
  have Tuntil := Lib.hid (Tuntil.out.trans tA (by simp))
  have hwhile1 := hwhile1.touch tA (by simp)
  obtain ⟨gwhile3, hg⟩ : ∃ g, w28.heap.size + 1 = g := ⟨_, rfl⟩
  rw [hg] at hwhile3 ⊢
  clear hg
  obtain ⟨gwhile2, hg⟩ : ∃ g, w28.heap.size = g := ⟨_, rfl⟩
  rw [hg] at hwhile2 ⊢
  clear hg
  clear tA
  refine (primn_any _ _).mono ?_
  rintro _ w30 ⟨rfl, tn⟩
  have T := T.trans tn (by simp)
  have Tdo := Lib.hid (Tdo.out.trans tn (by simp))
  have Tuntil := Lib.hid (Tuntil.out.trans tn (by simp))
  have hwhile1 := hwhile1.touch tn (by simp)
  have hwhile2 := hwhile2.touch tn (by simp)
  have hwhile3 := hwhile3.touch tn (by simp)
  clear tn
  go_upto_region 8 with fail
  have tA : Touch [] w30 ((w30.alloc (Obj.cells #[Value.int IntKind.i64 0, Value.int IntKind.i64 1, Value.int IntKind.i64 11, Value.int IntKind.i64 12] 3)).alloc (Obj.cells #[Value.int IntKind.i64 1, Value.int IntKind.i64 0, Value.slice none 0 0, Value.int IntKind.i64 1, Value.int IntKind.i64 a, Value.slice none 0 0, Value.int IntKind.i64 2, Value.int IntKind.i64 28, Value.slice none 0 0, Value.int IntKind.i64 1, Value.int IntKind.i64 e, Value.slice none 0 0, Value.int IntKind.i64 2, Value.int IntKind.i64 23, Value.slice none 0 0, Value.int IntKind.i64 3, Value.int IntKind.i64 0, Value.slice (some ⟨gwhile1, 0, none⟩) 3 3, Value.int IntKind.i64 2, Value.int IntKind.i64 34, Value.slice none 0 0, Value.int IntKind.i64 2, Value.int IntKind.i64 11, Value.slice none 0 0, Value.int IntKind.i64 2, Value.int IntKind.i64 30, Value.slice none 0 0, Value.int IntKind.i64 2, Value.int IntKind.i64 4, Value.slice none 0 0, Value.int IntKind.i64 3, Value.int IntKind.i64 0, Value.slice (some ⟨gwhile2, 0, none⟩) 4 4, Value.int IntKind.i64 7, Value.int IntKind.i64 0, Value.slice (some ⟨gwhile3, 0, none⟩) 2 2, Value.int IntKind.i64 2, Value.int IntKind.i64 29, Value.slice none 0 0, Value.int IntKind.i64 3, Value.int IntKind.i64 0, Value.slice (some ⟨w30.heap.size, 0, none⟩) 4 4] 37)) := ((Touch.refl [] w30).alloc _).alloc _
  have Nwhile : NodesAt ((w30.alloc (Obj.cells #[Value.int IntKind.i64 0, Value.int IntKind.i64 1, Value.int IntKind.i64 11, Value.int IntKind.i64 12] 3)).alloc (Obj.cells #[Value.int IntKind.i64 1, Value.int IntKind.i64 0, Value.slice none 0 0, Value.int IntKind.i64 1, Value.int IntKind.i64 a, Value.slice none 0 0, Value.int IntKind.i64 2, Value.int IntKind.i64 28, Value.slice none 0 0, Value.int IntKind.i64 1, Value.int IntKind.i64 e, Value.slice none 0 0, Value.int IntKind.i64 2, Value.int IntKind.i64 23, Value.slice none 0 0, Value.int IntKind.i64 3, Value.int IntKind.i64 0, Value.slice (some ⟨gwhile1, 0, none⟩) 3 3, Value.int IntKind.i64 2, Value.int IntKind.i64 34, Value.slice none 0 0, Value.int IntKind.i64 2, Value.int IntKind.i64 11, Value.slice none 0 0, Value.int IntKind.i64 2, Value.int IntKind.i64 30, Value.slice none 0 0, Value.int IntKind.i64 2, Value.int IntKind.i64 4, Value.slice none 0 0, Value.int IntKind.i64 3, Value.int IntKind.i64 0, Value.slice (some ⟨gwhile2, 0, none⟩) 4 4, Value.int IntKind.i64 7, Value.int IntKind.i64 0, Value.slice (some ⟨gwhile3, 0, none⟩) 2 2, Value.int IntKind.i64 2, Value.int IntKind.i64 29, Value.slice none 0 0, Value.int IntKind.i64 3, Value.int IntKind.i64 0, Value.slice (some ⟨w30.heap.size, 0, none⟩) 4 4] 37)) (.slice (some ⟨w30.heap.size + 1, 0, none⟩) 14 14) (whileL a e) := while_nodes (g1 := gwhile1) (g2 := gwhile2) (g3 := gwhile3) (g4 := w30.heap.size) (Blk.new_at _ (by simp) _ _) (hwhile1.touch tA (by simp)) (hwhile2.touch tA (by simp)) (hwhile3.touch tA (by simp)) ((Blk.new w30 _ _).alloc _)
  generalize ((w30.alloc (Obj.cells #[Value.int IntKind.i64 0, Value.int IntKind.i64 1, Value.int IntKind.i64 11, Value.int IntKind.i64 12] 3)).alloc (Obj.cells #[Value.int IntKind.i64 1, Value.int IntKind.i64 0, Value.slice none 0 0, Value.int IntKind.i64 1, Value.int IntKind.i64 a, Value.slice none 0 0, Value.int IntKind.i64 2, Value.int IntKind.i64 28, Value.slice none 0 0, Value.int IntKind.i64 1, Value.int IntKind.i64 e, Value.slice none 0 0, Value.int IntKind.i64 2, Value.int IntKind.i64 23, Value.slice none 0 0, Value.int IntKind.i64 3, Value.int IntKind.i64 0, Value.slice (some ⟨gwhile1, 0, none⟩) 3 3, Value.int IntKind.i64 2, Value.int IntKind.i64 34, Value.slice none 0 0, Value.int IntKind.i64 2, Value.int IntKind.i64 11, Value.slice none 0 0, Value.int IntKind.i64 2, Value.int IntKind.i64 30, Value.slice none 0 0, Value.int IntKind.i64 2, Value.int IntKind.i64 4, Value.slice none 0 0, Value.int IntKind.i64 3, Value.int IntKind.i64 0, Value.slice (some ⟨gwhile2, 0, none⟩) 4 4, Value.int IntKind.i64 7, Value.int IntKind.i64 0, Value.slice (some ⟨gwhile3, 0, none⟩) 2 2, Value.int IntKind.i64 2, Value.int IntKind.i64 29, Value.slice none 0 0, Value.int IntKind.i64 3, Value.int IntKind.i64 0, Value.slice (some ⟨w30.heap.size, 0, none⟩) 4 4] 37)) = w31 at *
  have T := T.trans tA (by simp)
  have Tdo := Lib.hid (Tdo.out.trans tA (by simp))
  have Tuntil := Lib.hid (Tuntil.out.trans tA (by simp))
  obtain ⟨bwhile, hb⟩ : ∃ b, w30.heap.size + 1 = b := ⟨_, rfl⟩
  rw [hb] at Nwhile ⊢
  have Hwhile := Lib.hid Nwhile
  clear tA hb Nwhile hwhile1 hwhile2 hwhile3
  have Twhile := Lib.hid (Touch.refl [] w31)
  have HN := Lib.hid (And.intro (Hdo.out.quiet Tdo.out) (And.intro (Huntil.out.quiet Tuntil.out) (And.intro (Hwhile.out.quiet Twhile.out) T)))
  clear Hdo Huntil Hwhile Tdo Tuntil Twhile T hE12 hE13 hwe
  obtain ⟨wa, hwa⟩ : ∃ wa, wa = w31 := ⟨_, rfl⟩
  subst hwa
  have hM0 : 0 ≤ ((n : Int) + 1) * a := Int.mul_nonneg (by omega) ha2.1
  have hM1 : ((n : Int) + 1) * a ≤ 30 * 100 := Int.mul_le_mul (by omega) ha2.2 ha2.1 (by decide)
  have hP0 : 0 ≤ ((n : Int) + 1) * n := Int.mul_nonneg (by omega) (by omega)
  have hP1 : ((n : Int) + 1) * n ≤ 30 * 30 := Int.mul_le_mul (by omega) (by omega) (by omega) (by decide)
  have hm1 : IntKind.i64.wrap (((n : Int) + 1) * a) = ((n : Int) + 1) * a := by rw [IntKind.wrap_i64]; omega
  have hs1 : IntKind.i64.wrap ((n : Int) + 1 - 1) = (n : Int) := by rw [IntKind.wrap_i64]; omega
  have hm2 : IntKind.i64.wrap (((n : Int) + 1) * n) = ((n : Int) + 1) * n := by rw [IntKind.wrap_i64]; omega
  have hS : ((n : Int) + 1) * a + ((n : Int) + 1) * n / 2 = sumF (n + 1) a := by
    have h := sumF_formula a n hn2
    rw [show ((n + 1 : Nat) : Int) = (n : Int) + 1 by omega, show ((n : Int) + 1 - 1) = n by omega, Int.tdiv_eq_ediv_of_nonneg hP0] at h
    exact h
  obtain ⟨S, hSS⟩ : ∃ S, sumF (n + 1) a = S := ⟨_, rfl⟩
  have md := do_mean a n ha2 hn2
  have mu := until_mean a n ha2 hn2
  have mw := while_mean a n ha2 hn2
  rw [HE.out, hSS] at md mu mw
  rw [hSS] at hS
  have HM := Lib.hid (And.intro md (And.intro mu mw))
  clear md mu mw hSS
  go_upto_region 9 with fail
  try simp only [hS]
  clear hM0 hM1 hP0 hP1 hm1 hs1 hm2 hS hn2 ha2 HE
  have bW := Blk.new wa 34 #[Value.int IntKind.i64 S]
  have tW := (Touch.refl [] wa).alloc (Obj.cells #[Value.int IntKind.i64 S] 34)
  generalize (wa.alloc (Obj.cells #[Value.int IntKind.i64 S] 34)) = wb at *
  obtain ⟨gw, hgw⟩ : ∃ g, wa.heap.size = g := ⟨_, rfl⟩
  rw [hgw] at bW ⊢
  clear hgw
  go_wp2_with fail
  have bL := Blk.new wb 22 #[Value.slice (some ⟨bdo, 0, none⟩) 8 8, Value.slice (some ⟨buntil, 0, none⟩) 13 13, Value.slice (some ⟨bwhile, 0, none⟩) 14 14]
  have tL := (Touch.refl [] wb).alloc (Obj.cells #[Value.slice (some ⟨bdo, 0, none⟩) 8 8, Value.slice (some ⟨buntil, 0, none⟩) 13 13, Value.slice (some ⟨bwhile, 0, none⟩) 14 14] 22)
  generalize (wb.alloc (Obj.cells #[Value.slice (some ⟨bdo, 0, none⟩) 8 8, Value.slice (some ⟨buntil, 0, none⟩) 13 13, Value.slice (some ⟨bwhile, 0, none⟩) 14 14] 22)) = wc at *
  obtain ⟨gl, hgl⟩ : ∃ g, wb.heap.size = g := ⟨_, rfl⟩
  rw [hgl] at bL ⊢
  clear hgl
  have HW := Lib.hid (bW.touch tL (by simp))
  have HT := Lib.hid (tW.trans tL (by simp))
  have HR0 : ∀ j, j < 3 → ∃ L lv, wc.cell? ⟨gl, 0 + j, none⟩ = some lv ∧ NodesAt wa lv L ∧ rightB L 0 = true ∧ NodesOk L ∧ ∃ k, meanF L 0 [] 2000 = ⟨[S], 0, true, k⟩ := by
    intro j hj
    have h3 : j = 0 ∨ j = 1 ∨ j = 2 := by omega
    rcases h3 with rfl | rfl | rfl
    · exact ⟨_, _, bL.cell 0, HN.out.1, do_right a e, do_ok ha64 he64, HM.out.1⟩
    · exact ⟨_, _, bL.cell 1, HN.out.2.1, until_right a e, until_ok ha64 he64, HM.out.2.1⟩
    · exact ⟨_, _, bL.cell 2, HN.out.2.2.1, while_right a e, while_ok ha64 he64, HM.out.2.2⟩
  have HR := Lib.hid HR0
  clear HR0
  have HA := Lib.hid HN.out.2.2.2
  clear bW tW tL bL HM HN ha64 he64
  go_loopw [124] (fun i wr => ∃ j : Nat, j ≤ 3 ∧ i = .int .i64 j ∧ Touch [] wc wr) (fun i _ => 3 - (intOf i).toNat)
  case atStart => exact ⟨0, by omega, rfl, Touch.refl _ _⟩
  case round =>
    obtain ⟨j, hj, rfl, t1⟩ := hrel
    by_cases hlt : j < 3
    · have hlt' : decide ((j : Int) < 3) = true := by simp; omega
      have hlt2 : (j : Int) < 3 := by omega
      obtain ⟨L, lv, hc, hN, hR, hO, k, hk⟩ := HR.out j hlt
      have hc := cell_quiet t1 hc
      have hc0 := hc
      rw [Nat.zero_add] at hc0
      have hM := Mean_go L lv 0 (.slice none 0 0) [] 2000 wr (hN.quiet (HT.out.trans t1 (by simp))) hR hO (.inl ⟨rfl, rfl⟩) (fun x hx => by cases hx) (by decide) (by decide)
      rw [hk] at hM
      have ek : IntKind.i64.wrap ((j : Int) + 1) = (j + 1 : Nat) := by rw [IntKind.wrap_i64]; omega
      have T1 := Lib.hid t1
      clear hN hR hO hk t1
      go_wp2_with fail
      refine hM.mono ?_
      rintro _ wm ⟨sv, rfl, hrow, t2⟩
      obtain ⟨sa, sc, rfl⟩ := own_slice hrow
      simp only [MeantV.val] at hrow ⊢
      have hrr := row_read hrow
      rw [show ([S] : List Int).length = 1 from rfl] at hrow ⊢
      have hrr : RowC wm (.slice sa 1 sc) [S] := hrr
      clear hM hrow
      go_upto_region 13 with fail
      have bM := Blk.new wm 29 #[Value.slice sa 1 sc, Value.int IntKind.i64 0, Value.bool true, Value.int IntKind.i64 (k : Int)]
      have tM := (Touch.refl [] wm).alloc (Obj.cells #[Value.slice sa 1 sc, Value.int IntKind.i64 0, Value.bool true, Value.int IntKind.i64 (k : Int)] 29)
      generalize (wm.alloc (Obj.cells #[Value.slice sa 1 sc, Value.int IntKind.i64 0, Value.bool true, Value.int IntKind.i64 (k : Int)] 29)) = wn at *
      have tt := T1.out.trans (t2.trans tM (by simp)) (by simp)
      have m0 := bM.cell 0
      have m1 := bM.cell 1
      have m2 := bM.cell 2
      have hSm := Same_eq (.slice sa 1 sc) (.slice (some ⟨gw, 0, none⟩) 1 1) [S] wn (hrr.quiet tM) (RowC.blk (cs := [S]) (HW.out.touch tt (by simp)) 1) (by simp)
      have TT := Lib.hid tt
      clear tt tM bM hrr t2 hc hc0 T1
      go_wp2_with fail
      refine hSm.mono ?_
      rintro _ w4 ⟨rfl, t4⟩
      go_wp2_with fail
      go_roundw
      case rel => exact ⟨j + 1, by omega, vint (by omega), TT.out.trans t4 (by simp)⟩
      case measure => simp only [intOf]; omega
    · have hlt' : decide ((j : Int) < 3) = false := by simp; omega
      have hlt2 : ¬ (j : Int) < 3 := by omega
      go_wp2_with fail
      go_ret
      exact ⟨rfl, HA.out.trans (HT.out.trans t1 (by simp)) (by simp)⟩
end Go.Proofs.YtnhhflnanogpjaaGreatDoor
