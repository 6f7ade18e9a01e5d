/- recog.Takes, recog.Told, and the document's. (Printed by wip/tells.py.) -/
import Derived.Test.YtgdmiodcfdcihaaDoorShown16
import Derived.Deep.RegionWith
namespace Go.Proofs.YtgdmiodcfdcihaaDoor
open Go.RowKit

def takesF (t : Int) : Int × Bool := if t = 0 then (0, true) else if t = 1 then (1, true) else if t = 2 then (2, true) else if t = 3 then (1, true) else if t = 4 then (1, true) else (0, false)
def toldF (t : Int) (l : List Int) : KnownV :=
  if t = 1 ∧ l.length = 1 then ⟨2, 0, false, l.getD 0 0, 0⟩
  else if t = 2 ∧ l.length = 2 then ⟨3, 0, false, l.getD 0 0, l.getD 1 0⟩
  else if t = 3 ∧ l.length = 1 then ⟨1, l.getD 0 0, false, 0, 0⟩
  else if t = 4 ∧ l.length = 1 then ⟨1, l.getD 0 0, true, 0, 0⟩
  else KnownV.none

theorem six_ways (t : Int) : t = 0 ∨ t = 1 ∨ t = 2 ∨ t = 3 ∨ t = 4 ∨ t < 0 ∨ 4 < t := by omega

set_option maxRecDepth 100000 in
theorem Takes_any (t : Int) (w : World) : Calls Tryd.prog 14 #[.int .i64 t] w fun e w' => e = .returned (.tuple #[.int .i64 (takesF t).1, .bool (takesF t).2]) ∧ Touch [] w w' := by
  rcases six_ways t with rfl | rfl | rfl | rfl | rfl | h | h
  iterate 5
    · unfold takesF
      go_enter Tryd.func14, Tryd.ntmps14
      go_wp2_with fail
      go_ret2
      exact ⟨rfl, (Touch.refl _ _).alloc _⟩
  all_goals
    have hn : takesF t = (0, false) := by
      unfold takesF
      rw [if_neg (by omega), if_neg (by omega), if_neg (by omega), if_neg (by omega), if_neg (by omega)]
    rw [hn]
    have e0 : (t == 0) = false := by simp; omega
    have e1 : (t == 1) = false := by simp; omega
    have e2 : (t == 2) = false := by simp; omega
    have e3 : (t == 3) = false := by simp; omega
    have e4 : (t == 4) = false := by simp; omega
    clear hn
    go_enter Tryd.func14, Tryd.ntmps14
    go_wp2_with fail
    go_ret2
    exact ⟨rfl, (Touch.refl _ _).alloc _⟩

set_option maxRecDepth 100000 in
theorem rTakes_any (t : Int) (w : World) : Calls Tryd.prog 15 #[.int .i64 t] w fun e w' => e = .returned (.tuple #[.int .i64 (takesF t).1, .bool (takesF t).2]) ∧ Touch [] w w' := by
  rcases six_ways t with rfl | rfl | rfl | rfl | rfl | h | h
  iterate 5
    · unfold takesF
      go_enter Tryd.func15, Tryd.ntmps15
      go_wp2_with fail
      go_ret2
      exact ⟨rfl, Touch.refl _ _⟩
  all_goals
    have hn : takesF t = (0, false) := by
      unfold takesF
      rw [if_neg (by omega), if_neg (by omega), if_neg (by omega), if_neg (by omega), if_neg (by omega)]
    rw [hn]
    have e0 : (t == 0) = false := by simp; omega
    have e1 : (t == 1) = false := by simp; omega
    have e2 : (t == 2) = false := by simp; omega
    have e3 : (t == 3) = false := by simp; omega
    have e4 : (t == 4) = false := by simp; omega
    clear hn
    go_enter Tryd.func15, Tryd.ntmps15
    go_wp2_with fail
    go_ret2
    exact ⟨rfl, Touch.refl _ _⟩

set_option maxRecDepth 100000 in
theorem Told_any_lt (t : Int) (l : List Int) (a : Option Addr) (c : Nat) (w : World) (_hl : l.length ≤ 4) (_hn : Nums w a l) (h : t < 0) : Calls Tryd.prog 16 #[.int .i64 t, .slice a l.length c] w fun e w' => e = .returned KnownV.none.v ∧ Touch [] w w' := by
  have htk := fun w => Takes_any t w
  have t0 := (Touch.refl [] w).alloc (.cells #[.int .i64 0, .int .i64 0, .bool false, .int .i64 0, .int .i64 0] 28)
  have bK0 : Blk (w.alloc (.cells #[.int .i64 0, .int .i64 0, .bool false, .int .i64 0, .int .i64 0] 28)) w.heap.size 28 #[.int .i64 0, .int .i64 0, .bool false, .int .i64 0, .int .i64 0] := Blk.new w _ _
  rw [show takesF t = (0, false) from by unfold takesF; rw [if_neg (by omega), if_neg (by omega), if_neg (by omega), if_neg (by omega), if_neg (by omega)]] at htk
  go_enter Tryd.func16, Tryd.ntmps16
  go_wp2_with fail
  refine (htk _).mono ?_
  rintro _ w1 ⟨rfl, t1⟩
  have bK := bK0.touch t1 (by simp)
  have tw := t0.trans t1 (by simp)
  have k0 := bK.cell 0
  have k1 := bK.cell 1
  have k2 := bK.cell 2
  have k3 := bK.cell 3
  have k4 := bK.cell 4
  have j0 := bK.frozen 0
  have j1 := bK.frozen 1
  have j2 := bK.frozen 2
  have j3 := bK.frozen 3
  have j4 := bK.frozen 4
  clear htk t0 bK0 t1 _hn
  obtain ⟨z0, z1, z2, z3, z4⟩ := five_back bK (.int .i64 0) (.int .i64 0) (.bool false) (.int .i64 0) (.int .i64 0)
  go_wp2_with fail
  refine bodyPost_ret (by simp [results, Tryd.results16, go_sem, z0, z1, z2, z3, z4]; try rfl) rfl ⟨rfl, ?_⟩
  exact five_touch tw (.inr (Nat.le_refl _)) _ _ _ _ _

set_option maxRecDepth 100000 in
theorem Told_any_gt (t : Int) (l : List Int) (a : Option Addr) (c : Nat) (w : World) (_hl : l.length ≤ 4) (_hn : Nums w a l) (h : 4 < t) : Calls Tryd.prog 16 #[.int .i64 t, .slice a l.length c] w fun e w' => e = .returned KnownV.none.v ∧ Touch [] w w' := by
  have htk := fun w => Takes_any t w
  have t0 := (Touch.refl [] w).alloc (.cells #[.int .i64 0, .int .i64 0, .bool false, .int .i64 0, .int .i64 0] 28)
  have bK0 : Blk (w.alloc (.cells #[.int .i64 0, .int .i64 0, .bool false, .int .i64 0, .int .i64 0] 28)) w.heap.size 28 #[.int .i64 0, .int .i64 0, .bool false, .int .i64 0, .int .i64 0] := Blk.new w _ _
  rw [show takesF t = (0, false) from by unfold takesF; rw [if_neg (by omega), if_neg (by omega), if_neg (by omega), if_neg (by omega), if_neg (by omega)]] at htk
  go_enter Tryd.func16, Tryd.ntmps16
  go_wp2_with fail
  refine (htk _).mono ?_
  rintro _ w1 ⟨rfl, t1⟩
  have bK := bK0.touch t1 (by simp)
  have tw := t0.trans t1 (by simp)
  have k0 := bK.cell 0
  have k1 := bK.cell 1
  have k2 := bK.cell 2
  have k3 := bK.cell 3
  have k4 := bK.cell 4
  have j0 := bK.frozen 0
  have j1 := bK.frozen 1
  have j2 := bK.frozen 2
  have j3 := bK.frozen 3
  have j4 := bK.frozen 4
  clear htk t0 bK0 t1 _hn
  obtain ⟨z0, z1, z2, z3, z4⟩ := five_back bK (.int .i64 0) (.int .i64 0) (.bool false) (.int .i64 0) (.int .i64 0)
  go_wp2_with fail
  refine bodyPost_ret (by simp [results, Tryd.results16, go_sem, z0, z1, z2, z3, z4]; try rfl) rfl ⟨rfl, ?_⟩
  exact five_touch tw (.inr (Nat.le_refl _)) _ _ _ _ _

set_option maxRecDepth 100000 in
theorem Told_any_z0  (l : List Int) (a : Option Addr) (c : Nat) (w : World) (_hl : l.length ≤ 4) (_hn : Nums w a l) (hz : l.length = 0) : Calls Tryd.prog 16 #[.int .i64 0, .slice a l.length c] w fun e w' => e = .returned KnownV.none.v ∧ Touch [] w w' := by
  have htk := fun w => Takes_any 0 w
  have t0 := (Touch.refl [] w).alloc (.cells #[.int .i64 0, .int .i64 0, .bool false, .int .i64 0, .int .i64 0] 28)
  have bK0 : Blk (w.alloc (.cells #[.int .i64 0, .int .i64 0, .bool false, .int .i64 0, .int .i64 0] 28)) w.heap.size 28 #[.int .i64 0, .int .i64 0, .bool false, .int .i64 0, .int .i64 0] := Blk.new w _ _
  rw [show takesF 0 = (0, true) from rfl] at htk
  rw [hz]
  go_enter Tryd.func16, Tryd.ntmps16
  go_wp2_with fail
  refine (htk _).mono ?_
  rintro _ w1 ⟨rfl, t1⟩
  have bK := bK0.touch t1 (by simp)
  have tw := t0.trans t1 (by simp)
  have k0 := bK.cell 0
  have k1 := bK.cell 1
  have k2 := bK.cell 2
  have k3 := bK.cell 3
  have k4 := bK.cell 4
  have j0 := bK.frozen 0
  have j1 := bK.frozen 1
  have j2 := bK.frozen 2
  have j3 := bK.frozen 3
  have j4 := bK.frozen 4
  clear htk t0 bK0 t1 _hn
  obtain ⟨z0, z1, z2, z3, z4⟩ := five_back bK (.int .i64 0) (.int .i64 0) (.bool false) (.int .i64 0) (.int .i64 0)
  go_wp2_with fail
  refine bodyPost_ret (by simp [results, Tryd.results16, go_sem, z0, z1, z2, z3, z4]; try rfl) rfl ⟨rfl, ?_⟩
  exact five_touch tw (.inr (Nat.le_refl _)) _ _ _ _ _

set_option maxRecDepth 100000 in
theorem Told_any_n0  (l : List Int) (a : Option Addr) (c : Nat) (w : World) (_hl : l.length ≤ 4) (_hn : Nums w a l) (hz : l.length ≠ 0) : Calls Tryd.prog 16 #[.int .i64 0, .slice a l.length c] w fun e w' => e = .returned KnownV.none.v ∧ Touch [] w w' := by
  have htk := fun w => Takes_any 0 w
  have t0 := (Touch.refl [] w).alloc (.cells #[.int .i64 0, .int .i64 0, .bool false, .int .i64 0, .int .i64 0] 28)
  have bK0 : Blk (w.alloc (.cells #[.int .i64 0, .int .i64 0, .bool false, .int .i64 0, .int .i64 0] 28)) w.heap.size 28 #[.int .i64 0, .int .i64 0, .bool false, .int .i64 0, .int .i64 0] := Blk.new w _ _
  rw [show takesF 0 = (0, true) from rfl] at htk
  have hne : ((0 : Int) != (l.length : Int)) = true := by simp; omega
  go_enter Tryd.func16, Tryd.ntmps16
  go_wp2_with fail
  refine (htk _).mono ?_
  rintro _ w1 ⟨rfl, t1⟩
  have bK := bK0.touch t1 (by simp)
  have tw := t0.trans t1 (by simp)
  have k0 := bK.cell 0
  have k1 := bK.cell 1
  have k2 := bK.cell 2
  have k3 := bK.cell 3
  have k4 := bK.cell 4
  have j0 := bK.frozen 0
  have j1 := bK.frozen 1
  have j2 := bK.frozen 2
  have j3 := bK.frozen 3
  have j4 := bK.frozen 4
  clear htk t0 bK0 t1 _hn
  obtain ⟨z0, z1, z2, z3, z4⟩ := five_back bK (.int .i64 0) (.int .i64 0) (.bool false) (.int .i64 0) (.int .i64 0)
  go_wp2_with fail
  refine bodyPost_ret (by simp [results, Tryd.results16, go_sem, z0, z1, z2, z3, z4]; try rfl) rfl ⟨rfl, ?_⟩
  exact five_touch tw (.inr (Nat.le_refl _)) _ _ _ _ _

set_option maxRecDepth 100000 in
theorem Told_any_n1  (l : List Int) (a : Option Addr) (c : Nat) (w : World) (_hl : l.length ≤ 4) (_hn : Nums w a l) (hz : l.length ≠ 1) : Calls Tryd.prog 16 #[.int .i64 1, .slice a l.length c] w fun e w' => e = .returned KnownV.none.v ∧ Touch [] w w' := by
  have htk := fun w => Takes_any 1 w
  have t0 := (Touch.refl [] w).alloc (.cells #[.int .i64 0, .int .i64 0, .bool false, .int .i64 0, .int .i64 0] 28)
  have bK0 : Blk (w.alloc (.cells #[.int .i64 0, .int .i64 0, .bool false, .int .i64 0, .int .i64 0] 28)) w.heap.size 28 #[.int .i64 0, .int .i64 0, .bool false, .int .i64 0, .int .i64 0] := Blk.new w _ _
  rw [show takesF 1 = (1, true) from rfl] at htk
  have hne : ((1 : Int) != (l.length : Int)) = true := by simp; omega
  go_enter Tryd.func16, Tryd.ntmps16
  go_wp2_with fail
  refine (htk _).mono ?_
  rintro _ w1 ⟨rfl, t1⟩
  have bK := bK0.touch t1 (by simp)
  have tw := t0.trans t1 (by simp)
  have k0 := bK.cell 0
  have k1 := bK.cell 1
  have k2 := bK.cell 2
  have k3 := bK.cell 3
  have k4 := bK.cell 4
  have j0 := bK.frozen 0
  have j1 := bK.frozen 1
  have j2 := bK.frozen 2
  have j3 := bK.frozen 3
  have j4 := bK.frozen 4
  clear htk t0 bK0 t1 _hn
  obtain ⟨z0, z1, z2, z3, z4⟩ := five_back bK (.int .i64 0) (.int .i64 0) (.bool false) (.int .i64 0) (.int .i64 0)
  go_wp2_with fail
  refine bodyPost_ret (by simp [results, Tryd.results16, go_sem, z0, z1, z2, z3, z4]; try rfl) rfl ⟨rfl, ?_⟩
  exact five_touch tw (.inr (Nat.le_refl _)) _ _ _ _ _

set_option maxRecDepth 100000 in
theorem Told_any_n2  (l : List Int) (a : Option Addr) (c : Nat) (w : World) (_hl : l.length ≤ 4) (_hn : Nums w a l) (hz : l.length ≠ 2) : Calls Tryd.prog 16 #[.int .i64 2, .slice a l.length c] w fun e w' => e = .returned KnownV.none.v ∧ Touch [] w w' := by
  have htk := fun w => Takes_any 2 w
  have t0 := (Touch.refl [] w).alloc (.cells #[.int .i64 0, .int .i64 0, .bool false, .int .i64 0, .int .i64 0] 28)
  have bK0 : Blk (w.alloc (.cells #[.int .i64 0, .int .i64 0, .bool false, .int .i64 0, .int .i64 0] 28)) w.heap.size 28 #[.int .i64 0, .int .i64 0, .bool false, .int .i64 0, .int .i64 0] := Blk.new w _ _
  rw [show takesF 2 = (2, true) from rfl] at htk
  have hne : ((2 : Int) != (l.length : Int)) = true := by simp; omega
  go_enter Tryd.func16, Tryd.ntmps16
  go_wp2_with fail
  refine (htk _).mono ?_
  rintro _ w1 ⟨rfl, t1⟩
  have bK := bK0.touch t1 (by simp)
  have tw := t0.trans t1 (by simp)
  have k0 := bK.cell 0
  have k1 := bK.cell 1
  have k2 := bK.cell 2
  have k3 := bK.cell 3
  have k4 := bK.cell 4
  have j0 := bK.frozen 0
  have j1 := bK.frozen 1
  have j2 := bK.frozen 2
  have j3 := bK.frozen 3
  have j4 := bK.frozen 4
  clear htk t0 bK0 t1 _hn
  obtain ⟨z0, z1, z2, z3, z4⟩ := five_back bK (.int .i64 0) (.int .i64 0) (.bool false) (.int .i64 0) (.int .i64 0)
  go_wp2_with fail
  refine bodyPost_ret (by simp [results, Tryd.results16, go_sem, z0, z1, z2, z3, z4]; try rfl) rfl ⟨rfl, ?_⟩
  exact five_touch tw (.inr (Nat.le_refl _)) _ _ _ _ _

set_option maxRecDepth 100000 in
theorem Told_any_n3  (l : List Int) (a : Option Addr) (c : Nat) (w : World) (_hl : l.length ≤ 4) (_hn : Nums w a l) (hz : l.length ≠ 1) : Calls Tryd.prog 16 #[.int .i64 3, .slice a l.length c] w fun e w' => e = .returned KnownV.none.v ∧ Touch [] w w' := by
  have htk := fun w => Takes_any 3 w
  have t0 := (Touch.refl [] w).alloc (.cells #[.int .i64 0, .int .i64 0, .bool false, .int .i64 0, .int .i64 0] 28)
  have bK0 : Blk (w.alloc (.cells #[.int .i64 0, .int .i64 0, .bool false, .int .i64 0, .int .i64 0] 28)) w.heap.size 28 #[.int .i64 0, .int .i64 0, .bool false, .int .i64 0, .int .i64 0] := Blk.new w _ _
  rw [show takesF 3 = (1, true) from rfl] at htk
  have hne : ((1 : Int) != (l.length : Int)) = true := by simp; omega
  go_enter Tryd.func16, Tryd.ntmps16
  go_wp2_with fail
  refine (htk _).mono ?_
  rintro _ w1 ⟨rfl, t1⟩
  have bK := bK0.touch t1 (by simp)
  have tw := t0.trans t1 (by simp)
  have k0 := bK.cell 0
  have k1 := bK.cell 1
  have k2 := bK.cell 2
  have k3 := bK.cell 3
  have k4 := bK.cell 4
  have j0 := bK.frozen 0
  have j1 := bK.frozen 1
  have j2 := bK.frozen 2
  have j3 := bK.frozen 3
  have j4 := bK.frozen 4
  clear htk t0 bK0 t1 _hn
  obtain ⟨z0, z1, z2, z3, z4⟩ := five_back bK (.int .i64 0) (.int .i64 0) (.bool false) (.int .i64 0) (.int .i64 0)
  go_wp2_with fail
  refine bodyPost_ret (by simp [results, Tryd.results16, go_sem, z0, z1, z2, z3, z4]; try rfl) rfl ⟨rfl, ?_⟩
  exact five_touch tw (.inr (Nat.le_refl _)) _ _ _ _ _

set_option maxRecDepth 100000 in
theorem Told_any_n4  (l : List Int) (a : Option Addr) (c : Nat) (w : World) (_hl : l.length ≤ 4) (_hn : Nums w a l) (hz : l.length ≠ 1) : Calls Tryd.prog 16 #[.int .i64 4, .slice a l.length c] w fun e w' => e = .returned KnownV.none.v ∧ Touch [] w w' := by
  have htk := fun w => Takes_any 4 w
  have t0 := (Touch.refl [] w).alloc (.cells #[.int .i64 0, .int .i64 0, .bool false, .int .i64 0, .int .i64 0] 28)
  have bK0 : Blk (w.alloc (.cells #[.int .i64 0, .int .i64 0, .bool false, .int .i64 0, .int .i64 0] 28)) w.heap.size 28 #[.int .i64 0, .int .i64 0, .bool false, .int .i64 0, .int .i64 0] := Blk.new w _ _
  rw [show takesF 4 = (1, true) from rfl] at htk
  have hne : ((1 : Int) != (l.length : Int)) = true := by simp; omega
  go_enter Tryd.func16, Tryd.ntmps16
  go_wp2_with fail
  refine (htk _).mono ?_
  rintro _ w1 ⟨rfl, t1⟩
  have bK := bK0.touch t1 (by simp)
  have tw := t0.trans t1 (by simp)
  have k0 := bK.cell 0
  have k1 := bK.cell 1
  have k2 := bK.cell 2
  have k3 := bK.cell 3
  have k4 := bK.cell 4
  have j0 := bK.frozen 0
  have j1 := bK.frozen 1
  have j2 := bK.frozen 2
  have j3 := bK.frozen 3
  have j4 := bK.frozen 4
  clear htk t0 bK0 t1 _hn
  obtain ⟨z0, z1, z2, z3, z4⟩ := five_back bK (.int .i64 0) (.int .i64 0) (.bool false) (.int .i64 0) (.int .i64 0)
  go_wp2_with fail
  refine bodyPost_ret (by simp [results, Tryd.results16, go_sem, z0, z1, z2, z3, z4]; try rfl) rfl ⟨rfl, ?_⟩
  exact five_touch tw (.inr (Nat.le_refl _)) _ _ _ _ _

set_option maxRecDepth 100000 in
theorem Told_any_y1  (l : List Int) (a : Option Addr) (c : Nat) (w : World) (_hl : l.length ≤ 4) (_hn : Nums w a l) (hz : l.length = 1) : Calls Tryd.prog 16 #[.int .i64 1, .slice a l.length c] w fun e w' => e = .returned (⟨2, 0, false, l.getD 0 0, 0⟩ : KnownV).v ∧ Touch [] w w' := by
  have htk := fun w => Takes_any 1 w
  have t0 := (Touch.refl [] w).alloc (.cells #[.int .i64 0, .int .i64 0, .bool false, .int .i64 0, .int .i64 0] 28)
  have bK0 : Blk (w.alloc (.cells #[.int .i64 0, .int .i64 0, .bool false, .int .i64 0, .int .i64 0] 28)) w.heap.size 28 #[.int .i64 0, .int .i64 0, .bool false, .int .i64 0, .int .i64 0] := Blk.new w _ _
  rw [show takesF 1 = (1, true) from rfl] at htk
  rw [hz]
  obtain ⟨x, hx⟩ : ∃ x, l.getD 0 0 = x := ⟨_, rfl⟩
  rw [hx]
  go_enter Tryd.func16, Tryd.ntmps16
  go_wp2_with fail
  refine (htk _).mono ?_
  rintro _ w1 ⟨rfl, t1⟩
  have bK := bK0.touch t1 (by simp)
  have tw := t0.trans t1 (by simp)
  obtain ⟨g, off, rfl, hg, hc⟩ := (_hn.quiet tw) 0 (by omega)
  rw [Nat.add_zero, hx] at hc
  clear hx hz
  have k0 := bK.cell 0
  have k1 := bK.cell 1
  have k2 := bK.cell 2
  have k3 := bK.cell 3
  have k4 := bK.cell 4
  have j0 := bK.frozen 0
  have j1 := bK.frozen 1
  have j2 := bK.frozen 2
  have j3 := bK.frozen 3
  have j4 := bK.frozen 4
  clear htk t0 bK0 t1 _hn
  obtain ⟨z0, z1, z2, z3, z4⟩ := five_back bK (.int .i64 2) (.int .i64 0) (.bool false) (.int .i64 (x)) (.int .i64 0)
  go_wp2_with fail
  refine bodyPost_ret (by simp [results, Tryd.results16, go_sem, z0, z1, z2, z3, z4]; try rfl) rfl ⟨rfl, ?_⟩
  exact five_touch tw (.inr (Nat.le_refl _)) _ _ _ _ _

set_option maxRecDepth 100000 in
theorem Told_any_y3  (l : List Int) (a : Option Addr) (c : Nat) (w : World) (_hl : l.length ≤ 4) (_hn : Nums w a l) (hz : l.length = 1) : Calls Tryd.prog 16 #[.int .i64 3, .slice a l.length c] w fun e w' => e = .returned (⟨1, l.getD 0 0, false, 0, 0⟩ : KnownV).v ∧ Touch [] w w' := by
  have htk := fun w => Takes_any 3 w
  have t0 := (Touch.refl [] w).alloc (.cells #[.int .i64 0, .int .i64 0, .bool false, .int .i64 0, .int .i64 0] 28)
  have bK0 : Blk (w.alloc (.cells #[.int .i64 0, .int .i64 0, .bool false, .int .i64 0, .int .i64 0] 28)) w.heap.size 28 #[.int .i64 0, .int .i64 0, .bool false, .int .i64 0, .int .i64 0] := Blk.new w _ _
  rw [show takesF 3 = (1, true) from rfl] at htk
  rw [hz]
  obtain ⟨x, hx⟩ : ∃ x, l.getD 0 0 = x := ⟨_, rfl⟩
  rw [hx]
  go_enter Tryd.func16, Tryd.ntmps16
  go_wp2_with fail
  refine (htk _).mono ?_
  rintro _ w1 ⟨rfl, t1⟩
  have bK := bK0.touch t1 (by simp)
  have tw := t0.trans t1 (by simp)
  obtain ⟨g, off, rfl, hg, hc⟩ := (_hn.quiet tw) 0 (by omega)
  rw [Nat.add_zero, hx] at hc
  clear hx hz
  have k0 := bK.cell 0
  have k1 := bK.cell 1
  have k2 := bK.cell 2
  have k3 := bK.cell 3
  have k4 := bK.cell 4
  have j0 := bK.frozen 0
  have j1 := bK.frozen 1
  have j2 := bK.frozen 2
  have j3 := bK.frozen 3
  have j4 := bK.frozen 4
  clear htk t0 bK0 t1 _hn
  obtain ⟨z0, z1, z2, z3, z4⟩ := five_back bK (.int .i64 1) (.int .i64 (x)) (.bool false) (.int .i64 0) (.int .i64 0)
  go_wp2_with fail
  refine bodyPost_ret (by simp [results, Tryd.results16, go_sem, z0, z1, z2, z3, z4]; try rfl) rfl ⟨rfl, ?_⟩
  exact five_touch tw (.inr (Nat.le_refl _)) _ _ _ _ _

set_option maxRecDepth 100000 in
theorem Told_any_y4  (l : List Int) (a : Option Addr) (c : Nat) (w : World) (_hl : l.length ≤ 4) (_hn : Nums w a l) (hz : l.length = 1) : Calls Tryd.prog 16 #[.int .i64 4, .slice a l.length c] w fun e w' => e = .returned (⟨1, l.getD 0 0, true, 0, 0⟩ : KnownV).v ∧ Touch [] w w' := by
  have htk := fun w => Takes_any 4 w
  have t0 := (Touch.refl [] w).alloc (.cells #[.int .i64 0, .int .i64 0, .bool false, .int .i64 0, .int .i64 0] 28)
  have bK0 : Blk (w.alloc (.cells #[.int .i64 0, .int .i64 0, .bool false, .int .i64 0, .int .i64 0] 28)) w.heap.size 28 #[.int .i64 0, .int .i64 0, .bool false, .int .i64 0, .int .i64 0] := Blk.new w _ _
  rw [show takesF 4 = (1, true) from rfl] at htk
  rw [hz]
  obtain ⟨x, hx⟩ : ∃ x, l.getD 0 0 = x := ⟨_, rfl⟩
  rw [hx]
  go_enter Tryd.func16, Tryd.ntmps16
  go_wp2_with fail
  refine (htk _).mono ?_
  rintro _ w1 ⟨rfl, t1⟩
  have bK := bK0.touch t1 (by simp)
  have tw := t0.trans t1 (by simp)
  obtain ⟨g, off, rfl, hg, hc⟩ := (_hn.quiet tw) 0 (by omega)
  rw [Nat.add_zero, hx] at hc
  clear hx hz
  have k0 := bK.cell 0
  have k1 := bK.cell 1
  have k2 := bK.cell 2
  have k3 := bK.cell 3
  have k4 := bK.cell 4
  have j0 := bK.frozen 0
  have j1 := bK.frozen 1
  have j2 := bK.frozen 2
  have j3 := bK.frozen 3
  have j4 := bK.frozen 4
  clear htk t0 bK0 t1 _hn
  obtain ⟨z0, z1, z2, z3, z4⟩ := five_back bK (.int .i64 1) (.int .i64 (x)) (.bool true) (.int .i64 0) (.int .i64 0)
  go_wp2_with fail
  refine bodyPost_ret (by simp [results, Tryd.results16, go_sem, z0, z1, z2, z3, z4]; try rfl) rfl ⟨rfl, ?_⟩
  exact five_touch tw (.inr (Nat.le_refl _)) _ _ _ _ _

set_option maxRecDepth 100000 in
theorem Told_any_y2  (l : List Int) (a : Option Addr) (c : Nat) (w : World) (_hl : l.length ≤ 4) (_hn : Nums w a l) (hz : l.length = 2) : Calls Tryd.prog 16 #[.int .i64 2, .slice a l.length c] w fun e w' => e = .returned (⟨3, 0, false, l.getD 0 0, l.getD 1 0⟩ : KnownV).v ∧ Touch [] w w' := by
  have htk := fun w => Takes_any 2 w
  have t0 := (Touch.refl [] w).alloc (.cells #[.int .i64 0, .int .i64 0, .bool false, .int .i64 0, .int .i64 0] 28)
  have bK0 : Blk (w.alloc (.cells #[.int .i64 0, .int .i64 0, .bool false, .int .i64 0, .int .i64 0] 28)) w.heap.size 28 #[.int .i64 0, .int .i64 0, .bool false, .int .i64 0, .int .i64 0] := Blk.new w _ _
  rw [show takesF 2 = (2, true) from rfl] at htk
  rw [hz]
  obtain ⟨x, hx⟩ : ∃ x, l.getD 0 0 = x := ⟨_, rfl⟩
  obtain ⟨y, hy⟩ : ∃ x, l.getD 1 0 = x := ⟨_, rfl⟩
  rw [hx, hy]
  go_enter Tryd.func16, Tryd.ntmps16
  go_wp2_with fail
  refine (htk _).mono ?_
  rintro _ w1 ⟨rfl, t1⟩
  have bK := bK0.touch t1 (by simp)
  have tw := t0.trans t1 (by simp)
  obtain ⟨g, off, rfl, hg, hc⟩ := (_hn.quiet tw) 0 (by omega)
  obtain ⟨g', off', e, hg', hc'⟩ := (_hn.quiet tw) 1 (by omega)
  cases e
  rw [Nat.add_zero, hx] at hc
  rw [hy] at hc'
  clear hx hy hz hg'
  have k0 := bK.cell 0
  have k1 := bK.cell 1
  have k2 := bK.cell 2
  have k3 := bK.cell 3
  have k4 := bK.cell 4
  have j0 := bK.frozen 0
  have j1 := bK.frozen 1
  have j2 := bK.frozen 2
  have j3 := bK.frozen 3
  have j4 := bK.frozen 4
  clear htk t0 bK0 t1 _hn
  obtain ⟨z0, z1, z2, z3, z4⟩ := five_back bK (.int .i64 3) (.int .i64 0) (.bool false) (.int .i64 x) (.int .i64 y)
  go_wp2_with fail
  go_region
  go_wp2_with fail
  refine bodyPost_ret (by simp [results, Tryd.results16, go_sem, z0, z1, z2, z3, z4]; try rfl) rfl ⟨rfl, ?_⟩
  exact (five_touch tw (.inr (Nat.le_refl _)) _ _ _ _ _).drew

theorem Told_any (t : Int) (l : List Int) (a : Option Addr) (c : Nat) (w : World) (hl : l.length ≤ 4) (hn : Nums w a l) : Calls Tryd.prog 16 #[.int .i64 t, .slice a l.length c] w fun e w' => e = .returned (toldF t l).v ∧ Touch [] w w' := by
  rcases six_ways t with rfl | rfl | rfl | rfl | rfl | h | h
  · rw [show toldF 0 l = KnownV.none by simp [toldF]]
    by_cases hz : l.length = 0
    · exact Told_any_z0 l a c w hl hn hz
    · exact Told_any_n0 l a c w hl hn hz
  · by_cases hz : l.length = 1
    · rw [show toldF 1 l = (⟨2, 0, false, l.getD 0 0, 0⟩ : KnownV) by simp [toldF, hz]]
      exact Told_any_y1 l a c w hl hn hz
    · rw [show toldF 1 l = KnownV.none by simp [toldF, hz]]
      exact Told_any_n1 l a c w hl hn hz
  · by_cases hz : l.length = 2
    · rw [show toldF 2 l = (⟨3, 0, false, l.getD 0 0, l.getD 1 0⟩ : KnownV) by simp [toldF, hz]]
      exact Told_any_y2 l a c w hl hn hz
    · rw [show toldF 2 l = KnownV.none by simp [toldF, hz]]
      exact Told_any_n2 l a c w hl hn hz
  · by_cases hz : l.length = 1
    · rw [show toldF 3 l = (⟨1, l.getD 0 0, false, 0, 0⟩ : KnownV) by simp [toldF, hz]]
      exact Told_any_y3 l a c w hl hn hz
    · rw [show toldF 3 l = KnownV.none by simp [toldF, hz]]
      exact Told_any_n3 l a c w hl hn hz
  · by_cases hz : l.length = 1
    · rw [show toldF 4 l = (⟨1, l.getD 0 0, true, 0, 0⟩ : KnownV) by simp [toldF, hz]]
      exact Told_any_y4 l a c w hl hn hz
    · rw [show toldF 4 l = KnownV.none by simp [toldF, hz]]
      exact Told_any_n4 l a c w hl hn hz
  · rw [show toldF t l = KnownV.none by unfold toldF; rw [if_neg (by omega), if_neg (by omega), if_neg (by omega), if_neg (by omega)]]
    exact Told_any_lt t l a c w hl hn h
  · rw [show toldF t l = KnownV.none by unfold toldF; rw [if_neg (by omega), if_neg (by omega), if_neg (by omega), if_neg (by omega)]]
    exact Told_any_gt t l a c w hl hn h

set_option maxRecDepth 100000 in
theorem rTold_any_lt (t : Int) (l : List Int) (a : Option Addr) (c : Nat) (w : World) (_hl : l.length ≤ 4) (_hn : Nums w a l) (h : t < 0) : Calls Tryd.prog 17 #[.int .i64 t, .slice a l.length c] w fun e w' => e = .returned KnownV.none.v ∧ Touch [] w w' := by
  have htk := fun w => rTakes_any t w
  have t0 := (Touch.refl [] w).alloc (.cells #[.int .i64 0, .int .i64 0, .bool false, .int .i64 0, .int .i64 0] 28)
  have bK0 : Blk (w.alloc (.cells #[.int .i64 0, .int .i64 0, .bool false, .int .i64 0, .int .i64 0] 28)) w.heap.size 28 #[.int .i64 0, .int .i64 0, .bool false, .int .i64 0, .int .i64 0] := Blk.new w _ _
  rw [show takesF t = (0, false) from by unfold takesF; rw [if_neg (by omega), if_neg (by omega), if_neg (by omega), if_neg (by omega), if_neg (by omega)]] at htk
  go_enter Tryd.func17, Tryd.ntmps17
  go_wp2_with fail
  refine (htk _).mono ?_
  rintro _ w1 ⟨rfl, t1⟩
  have bK := bK0.touch t1 (by simp)
  have tw := t0.trans t1 (by simp)
  have k0 := bK.cell 0
  have k1 := bK.cell 1
  have k2 := bK.cell 2
  have k3 := bK.cell 3
  have k4 := bK.cell 4
  have j0 := bK.frozen 0
  have j1 := bK.frozen 1
  have j2 := bK.frozen 2
  have j3 := bK.frozen 3
  have j4 := bK.frozen 4
  clear htk t0 bK0 t1 _hn
  obtain ⟨z0, z1, z2, z3, z4⟩ := five_back bK (.int .i64 0) (.int .i64 0) (.bool false) (.int .i64 0) (.int .i64 0)
  go_wp2_with fail
  refine bodyPost_ret (by simp [results, Tryd.results17, go_sem, z0, z1, z2, z3, z4]; try rfl) rfl ⟨rfl, ?_⟩
  exact five_touch tw (.inr (Nat.le_refl _)) _ _ _ _ _

set_option maxRecDepth 100000 in
theorem rTold_any_gt (t : Int) (l : List Int) (a : Option Addr) (c : Nat) (w : World) (_hl : l.length ≤ 4) (_hn : Nums w a l) (h : 4 < t) : Calls Tryd.prog 17 #[.int .i64 t, .slice a l.length c] w fun e w' => e = .returned KnownV.none.v ∧ Touch [] w w' := by
  have htk := fun w => rTakes_any t w
  have t0 := (Touch.refl [] w).alloc (.cells #[.int .i64 0, .int .i64 0, .bool false, .int .i64 0, .int .i64 0] 28)
  have bK0 : Blk (w.alloc (.cells #[.int .i64 0, .int .i64 0, .bool false, .int .i64 0, .int .i64 0] 28)) w.heap.size 28 #[.int .i64 0, .int .i64 0, .bool false, .int .i64 0, .int .i64 0] := Blk.new w _ _
  rw [show takesF t = (0, false) from by unfold takesF; rw [if_neg (by omega), if_neg (by omega), if_neg (by omega), if_neg (by omega), if_neg (by omega)]] at htk
  go_enter Tryd.func17, Tryd.ntmps17
  go_wp2_with fail
  refine (htk _).mono ?_
  rintro _ w1 ⟨rfl, t1⟩
  have bK := bK0.touch t1 (by simp)
  have tw := t0.trans t1 (by simp)
  have k0 := bK.cell 0
  have k1 := bK.cell 1
  have k2 := bK.cell 2
  have k3 := bK.cell 3
  have k4 := bK.cell 4
  have j0 := bK.frozen 0
  have j1 := bK.frozen 1
  have j2 := bK.frozen 2
  have j3 := bK.frozen 3
  have j4 := bK.frozen 4
  clear htk t0 bK0 t1 _hn
  obtain ⟨z0, z1, z2, z3, z4⟩ := five_back bK (.int .i64 0) (.int .i64 0) (.bool false) (.int .i64 0) (.int .i64 0)
  go_wp2_with fail
  refine bodyPost_ret (by simp [results, Tryd.results17, go_sem, z0, z1, z2, z3, z4]; try rfl) rfl ⟨rfl, ?_⟩
  exact five_touch tw (.inr (Nat.le_refl _)) _ _ _ _ _

set_option maxRecDepth 100000 in
theorem rTold_any_z0  (l : List Int) (a : Option Addr) (c : Nat) (w : World) (_hl : l.length ≤ 4) (_hn : Nums w a l) (hz : l.length = 0) : Calls Tryd.prog 17 #[.int .i64 0, .slice a l.length c] w fun e w' => e = .returned KnownV.none.v ∧ Touch [] w w' := by
  have htk := fun w => rTakes_any 0 w
  have t0 := (Touch.refl [] w).alloc (.cells #[.int .i64 0, .int .i64 0, .bool false, .int .i64 0, .int .i64 0] 28)
  have bK0 : Blk (w.alloc (.cells #[.int .i64 0, .int .i64 0, .bool false, .int .i64 0, .int .i64 0] 28)) w.heap.size 28 #[.int .i64 0, .int .i64 0, .bool false, .int .i64 0, .int .i64 0] := Blk.new w _ _
  rw [show takesF 0 = (0, true) from rfl] at htk
  rw [hz]
  go_enter Tryd.func17, Tryd.ntmps17
  go_wp2_with fail
  refine (htk _).mono ?_
  rintro _ w1 ⟨rfl, t1⟩
  have bK := bK0.touch t1 (by simp)
  have tw := t0.trans t1 (by simp)
  have k0 := bK.cell 0
  have k1 := bK.cell 1
  have k2 := bK.cell 2
  have k3 := bK.cell 3
  have k4 := bK.cell 4
  have j0 := bK.frozen 0
  have j1 := bK.frozen 1
  have j2 := bK.frozen 2
  have j3 := bK.frozen 3
  have j4 := bK.frozen 4
  clear htk t0 bK0 t1 _hn
  obtain ⟨z0, z1, z2, z3, z4⟩ := five_back bK (.int .i64 0) (.int .i64 0) (.bool false) (.int .i64 0) (.int .i64 0)
  go_wp2_with fail
  refine bodyPost_ret (by simp [results, Tryd.results17, go_sem, z0, z1, z2, z3, z4]; try rfl) rfl ⟨rfl, ?_⟩
  exact five_touch tw (.inr (Nat.le_refl _)) _ _ _ _ _

set_option maxRecDepth 100000 in
theorem rTold_any_n0  (l : List Int) (a : Option Addr) (c : Nat) (w : World) (_hl : l.length ≤ 4) (_hn : Nums w a l) (hz : l.length ≠ 0) : Calls Tryd.prog 17 #[.int .i64 0, .slice a l.length c] w fun e w' => e = .returned KnownV.none.v ∧ Touch [] w w' := by
  have htk := fun w => rTakes_any 0 w
  have t0 := (Touch.refl [] w).alloc (.cells #[.int .i64 0, .int .i64 0, .bool false, .int .i64 0, .int .i64 0] 28)
  have bK0 : Blk (w.alloc (.cells #[.int .i64 0, .int .i64 0, .bool false, .int .i64 0, .int .i64 0] 28)) w.heap.size 28 #[.int .i64 0, .int .i64 0, .bool false, .int .i64 0, .int .i64 0] := Blk.new w _ _
  rw [show takesF 0 = (0, true) from rfl] at htk
  have hne : ((0 : Int) != (l.length : Int)) = true := by simp; omega
  go_enter Tryd.func17, Tryd.ntmps17
  go_wp2_with fail
  refine (htk _).mono ?_
  rintro _ w1 ⟨rfl, t1⟩
  have bK := bK0.touch t1 (by simp)
  have tw := t0.trans t1 (by simp)
  have k0 := bK.cell 0
  have k1 := bK.cell 1
  have k2 := bK.cell 2
  have k3 := bK.cell 3
  have k4 := bK.cell 4
  have j0 := bK.frozen 0
  have j1 := bK.frozen 1
  have j2 := bK.frozen 2
  have j3 := bK.frozen 3
  have j4 := bK.frozen 4
  clear htk t0 bK0 t1 _hn
  obtain ⟨z0, z1, z2, z3, z4⟩ := five_back bK (.int .i64 0) (.int .i64 0) (.bool false) (.int .i64 0) (.int .i64 0)
  go_wp2_with fail
  refine bodyPost_ret (by simp [results, Tryd.results17, go_sem, z0, z1, z2, z3, z4]; try rfl) rfl ⟨rfl, ?_⟩
  exact five_touch tw (.inr (Nat.le_refl _)) _ _ _ _ _

set_option maxRecDepth 100000 in
theorem rTold_any_n1  (l : List Int) (a : Option Addr) (c : Nat) (w : World) (_hl : l.length ≤ 4) (_hn : Nums w a l) (hz : l.length ≠ 1) : Calls Tryd.prog 17 #[.int .i64 1, .slice a l.length c] w fun e w' => e = .returned KnownV.none.v ∧ Touch [] w w' := by
  have htk := fun w => rTakes_any 1 w
  have t0 := (Touch.refl [] w).alloc (.cells #[.int .i64 0, .int .i64 0, .bool false, .int .i64 0, .int .i64 0] 28)
  have bK0 : Blk (w.alloc (.cells #[.int .i64 0, .int .i64 0, .bool false, .int .i64 0, .int .i64 0] 28)) w.heap.size 28 #[.int .i64 0, .int .i64 0, .bool false, .int .i64 0, .int .i64 0] := Blk.new w _ _
  rw [show takesF 1 = (1, true) from rfl] at htk
  have hne : ((1 : Int) != (l.length : Int)) = true := by simp; omega
  go_enter Tryd.func17, Tryd.ntmps17
  go_wp2_with fail
  refine (htk _).mono ?_
  rintro _ w1 ⟨rfl, t1⟩
  have bK := bK0.touch t1 (by simp)
  have tw := t0.trans t1 (by simp)
  have k0 := bK.cell 0
  have k1 := bK.cell 1
  have k2 := bK.cell 2
  have k3 := bK.cell 3
  have k4 := bK.cell 4
  have j0 := bK.frozen 0
  have j1 := bK.frozen 1
  have j2 := bK.frozen 2
  have j3 := bK.frozen 3
  have j4 := bK.frozen 4
  clear htk t0 bK0 t1 _hn
  obtain ⟨z0, z1, z2, z3, z4⟩ := five_back bK (.int .i64 0) (.int .i64 0) (.bool false) (.int .i64 0) (.int .i64 0)
  go_wp2_with fail
  refine bodyPost_ret (by simp [results, Tryd.results17, go_sem, z0, z1, z2, z3, z4]; try rfl) rfl ⟨rfl, ?_⟩
  exact five_touch tw (.inr (Nat.le_refl _)) _ _ _ _ _

set_option maxRecDepth 100000 in
theorem rTold_any_n2  (l : List Int) (a : Option Addr) (c : Nat) (w : World) (_hl : l.length ≤ 4) (_hn : Nums w a l) (hz : l.length ≠ 2) : Calls Tryd.prog 17 #[.int .i64 2, .slice a l.length c] w fun e w' => e = .returned KnownV.none.v ∧ Touch [] w w' := by
  have htk := fun w => rTakes_any 2 w
  have t0 := (Touch.refl [] w).alloc (.cells #[.int .i64 0, .int .i64 0, .bool false, .int .i64 0, .int .i64 0] 28)
  have bK0 : Blk (w.alloc (.cells #[.int .i64 0, .int .i64 0, .bool false, .int .i64 0, .int .i64 0] 28)) w.heap.size 28 #[.int .i64 0, .int .i64 0, .bool false, .int .i64 0, .int .i64 0] := Blk.new w _ _
  rw [show takesF 2 = (2, true) from rfl] at htk
  have hne : ((2 : Int) != (l.length : Int)) = true := by simp; omega
  go_enter Tryd.func17, Tryd.ntmps17
  go_wp2_with fail
  refine (htk _).mono ?_
  rintro _ w1 ⟨rfl, t1⟩
  have bK := bK0.touch t1 (by simp)
  have tw := t0.trans t1 (by simp)
  have k0 := bK.cell 0
  have k1 := bK.cell 1
  have k2 := bK.cell 2
  have k3 := bK.cell 3
  have k4 := bK.cell 4
  have j0 := bK.frozen 0
  have j1 := bK.frozen 1
  have j2 := bK.frozen 2
  have j3 := bK.frozen 3
  have j4 := bK.frozen 4
  clear htk t0 bK0 t1 _hn
  obtain ⟨z0, z1, z2, z3, z4⟩ := five_back bK (.int .i64 0) (.int .i64 0) (.bool false) (.int .i64 0) (.int .i64 0)
  go_wp2_with fail
  refine bodyPost_ret (by simp [results, Tryd.results17, go_sem, z0, z1, z2, z3, z4]; try rfl) rfl ⟨rfl, ?_⟩
  exact five_touch tw (.inr (Nat.le_refl _)) _ _ _ _ _

set_option maxRecDepth 100000 in
theorem rTold_any_n3  (l : List Int) (a : Option Addr) (c : Nat) (w : World) (_hl : l.length ≤ 4) (_hn : Nums w a l) (hz : l.length ≠ 1) : Calls Tryd.prog 17 #[.int .i64 3, .slice a l.length c] w fun e w' => e = .returned KnownV.none.v ∧ Touch [] w w' := by
  have htk := fun w => rTakes_any 3 w
  have t0 := (Touch.refl [] w).alloc (.cells #[.int .i64 0, .int .i64 0, .bool false, .int .i64 0, .int .i64 0] 28)
  have bK0 : Blk (w.alloc (.cells #[.int .i64 0, .int .i64 0, .bool false, .int .i64 0, .int .i64 0] 28)) w.heap.size 28 #[.int .i64 0, .int .i64 0, .bool false, .int .i64 0, .int .i64 0] := Blk.new w _ _
  rw [show takesF 3 = (1, true) from rfl] at htk
  have hne : ((1 : Int) != (l.length : Int)) = true := by simp; omega
  go_enter Tryd.func17, Tryd.ntmps17
  go_wp2_with fail
  refine (htk _).mono ?_
  rintro _ w1 ⟨rfl, t1⟩
  have bK := bK0.touch t1 (by simp)
  have tw := t0.trans t1 (by simp)
  have k0 := bK.cell 0
  have k1 := bK.cell 1
  have k2 := bK.cell 2
  have k3 := bK.cell 3
  have k4 := bK.cell 4
  have j0 := bK.frozen 0
  have j1 := bK.frozen 1
  have j2 := bK.frozen 2
  have j3 := bK.frozen 3
  have j4 := bK.frozen 4
  clear htk t0 bK0 t1 _hn
  obtain ⟨z0, z1, z2, z3, z4⟩ := five_back bK (.int .i64 0) (.int .i64 0) (.bool false) (.int .i64 0) (.int .i64 0)
  go_wp2_with fail
  refine bodyPost_ret (by simp [results, Tryd.results17, go_sem, z0, z1, z2, z3, z4]; try rfl) rfl ⟨rfl, ?_⟩
  exact five_touch tw (.inr (Nat.le_refl _)) _ _ _ _ _

set_option maxRecDepth 100000 in
theorem rTold_any_n4  (l : List Int) (a : Option Addr) (c : Nat) (w : World) (_hl : l.length ≤ 4) (_hn : Nums w a l) (hz : l.length ≠ 1) : Calls Tryd.prog 17 #[.int .i64 4, .slice a l.length c] w fun e w' => e = .returned KnownV.none.v ∧ Touch [] w w' := by
  have htk := fun w => rTakes_any 4 w
  have t0 := (Touch.refl [] w).alloc (.cells #[.int .i64 0, .int .i64 0, .bool false, .int .i64 0, .int .i64 0] 28)
  have bK0 : Blk (w.alloc (.cells #[.int .i64 0, .int .i64 0, .bool false, .int .i64 0, .int .i64 0] 28)) w.heap.size 28 #[.int .i64 0, .int .i64 0, .bool false, .int .i64 0, .int .i64 0] := Blk.new w _ _
  rw [show takesF 4 = (1, true) from rfl] at htk
  have hne : ((1 : Int) != (l.length : Int)) = true := by simp; omega
  go_enter Tryd.func17, Tryd.ntmps17
  go_wp2_with fail
  refine (htk _).mono ?_
  rintro _ w1 ⟨rfl, t1⟩
  have bK := bK0.touch t1 (by simp)
  have tw := t0.trans t1 (by simp)
  have k0 := bK.cell 0
  have k1 := bK.cell 1
  have k2 := bK.cell 2
  have k3 := bK.cell 3
  have k4 := bK.cell 4
  have j0 := bK.frozen 0
  have j1 := bK.frozen 1
  have j2 := bK.frozen 2
  have j3 := bK.frozen 3
  have j4 := bK.frozen 4
  clear htk t0 bK0 t1 _hn
  obtain ⟨z0, z1, z2, z3, z4⟩ := five_back bK (.int .i64 0) (.int .i64 0) (.bool false) (.int .i64 0) (.int .i64 0)
  go_wp2_with fail
  refine bodyPost_ret (by simp [results, Tryd.results17, go_sem, z0, z1, z2, z3, z4]; try rfl) rfl ⟨rfl, ?_⟩
  exact five_touch tw (.inr (Nat.le_refl _)) _ _ _ _ _

set_option maxRecDepth 100000 in
theorem rTold_any_y1  (l : List Int) (a : Option Addr) (c : Nat) (w : World) (_hl : l.length ≤ 4) (_hn : Nums w a l) (hz : l.length = 1) : Calls Tryd.prog 17 #[.int .i64 1, .slice a l.length c] w fun e w' => e = .returned (⟨2, 0, false, l.getD 0 0, 0⟩ : KnownV).v ∧ Touch [] w w' := by
  have htk := fun w => rTakes_any 1 w
  have t0 := (Touch.refl [] w).alloc (.cells #[.int .i64 0, .int .i64 0, .bool false, .int .i64 0, .int .i64 0] 28)
  have bK0 : Blk (w.alloc (.cells #[.int .i64 0, .int .i64 0, .bool false, .int .i64 0, .int .i64 0] 28)) w.heap.size 28 #[.int .i64 0, .int .i64 0, .bool false, .int .i64 0, .int .i64 0] := Blk.new w _ _
  rw [show takesF 1 = (1, true) from rfl] at htk
  rw [hz]
  obtain ⟨x, hx⟩ : ∃ x, l.getD 0 0 = x := ⟨_, rfl⟩
  rw [hx]
  go_enter Tryd.func17, Tryd.ntmps17
  go_wp2_with fail
  refine (htk _).mono ?_
  rintro _ w1 ⟨rfl, t1⟩
  have bK := bK0.touch t1 (by simp)
  have tw := t0.trans t1 (by simp)
  obtain ⟨g, off, rfl, hg, hc⟩ := (_hn.quiet tw) 0 (by omega)
  rw [Nat.add_zero, hx] at hc
  clear hx hz
  have k0 := bK.cell 0
  have k1 := bK.cell 1
  have k2 := bK.cell 2
  have k3 := bK.cell 3
  have k4 := bK.cell 4
  have j0 := bK.frozen 0
  have j1 := bK.frozen 1
  have j2 := bK.frozen 2
  have j3 := bK.frozen 3
  have j4 := bK.frozen 4
  clear htk t0 bK0 t1 _hn
  obtain ⟨z0, z1, z2, z3, z4⟩ := five_back bK (.int .i64 2) (.int .i64 0) (.bool false) (.int .i64 (x)) (.int .i64 0)
  go_wp2_with fail
  refine bodyPost_ret (by simp [results, Tryd.results17, go_sem, z0, z1, z2, z3, z4]; try rfl) rfl ⟨rfl, ?_⟩
  exact five_touch tw (.inr (Nat.le_refl _)) _ _ _ _ _

set_option maxRecDepth 100000 in
theorem rTold_any_y3  (l : List Int) (a : Option Addr) (c : Nat) (w : World) (_hl : l.length ≤ 4) (_hn : Nums w a l) (hz : l.length = 1) : Calls Tryd.prog 17 #[.int .i64 3, .slice a l.length c] w fun e w' => e = .returned (⟨1, l.getD 0 0, false, 0, 0⟩ : KnownV).v ∧ Touch [] w w' := by
  have htk := fun w => rTakes_any 3 w
  have t0 := (Touch.refl [] w).alloc (.cells #[.int .i64 0, .int .i64 0, .bool false, .int .i64 0, .int .i64 0] 28)
  have bK0 : Blk (w.alloc (.cells #[.int .i64 0, .int .i64 0, .bool false, .int .i64 0, .int .i64 0] 28)) w.heap.size 28 #[.int .i64 0, .int .i64 0, .bool false, .int .i64 0, .int .i64 0] := Blk.new w _ _
  rw [show takesF 3 = (1, true) from rfl] at htk
  rw [hz]
  obtain ⟨x, hx⟩ : ∃ x, l.getD 0 0 = x := ⟨_, rfl⟩
  rw [hx]
  go_enter Tryd.func17, Tryd.ntmps17
  go_wp2_with fail
  refine (htk _).mono ?_
  rintro _ w1 ⟨rfl, t1⟩
  have bK := bK0.touch t1 (by simp)
  have tw := t0.trans t1 (by simp)
  obtain ⟨g, off, rfl, hg, hc⟩ := (_hn.quiet tw) 0 (by omega)
  rw [Nat.add_zero, hx] at hc
  clear hx hz
  have k0 := bK.cell 0
  have k1 := bK.cell 1
  have k2 := bK.cell 2
  have k3 := bK.cell 3
  have k4 := bK.cell 4
  have j0 := bK.frozen 0
  have j1 := bK.frozen 1
  have j2 := bK.frozen 2
  have j3 := bK.frozen 3
  have j4 := bK.frozen 4
  clear htk t0 bK0 t1 _hn
  obtain ⟨z0, z1, z2, z3, z4⟩ := five_back bK (.int .i64 1) (.int .i64 (x)) (.bool false) (.int .i64 0) (.int .i64 0)
  go_wp2_with fail
  refine bodyPost_ret (by simp [results, Tryd.results17, go_sem, z0, z1, z2, z3, z4]; try rfl) rfl ⟨rfl, ?_⟩
  exact five_touch tw (.inr (Nat.le_refl _)) _ _ _ _ _

set_option maxRecDepth 100000 in
theorem rTold_any_y4  (l : List Int) (a : Option Addr) (c : Nat) (w : World) (_hl : l.length ≤ 4) (_hn : Nums w a l) (hz : l.length = 1) : Calls Tryd.prog 17 #[.int .i64 4, .slice a l.length c] w fun e w' => e = .returned (⟨1, l.getD 0 0, true, 0, 0⟩ : KnownV).v ∧ Touch [] w w' := by
  have htk := fun w => rTakes_any 4 w
  have t0 := (Touch.refl [] w).alloc (.cells #[.int .i64 0, .int .i64 0, .bool false, .int .i64 0, .int .i64 0] 28)
  have bK0 : Blk (w.alloc (.cells #[.int .i64 0, .int .i64 0, .bool false, .int .i64 0, .int .i64 0] 28)) w.heap.size 28 #[.int .i64 0, .int .i64 0, .bool false, .int .i64 0, .int .i64 0] := Blk.new w _ _
  rw [show takesF 4 = (1, true) from rfl] at htk
  rw [hz]
  obtain ⟨x, hx⟩ : ∃ x, l.getD 0 0 = x := ⟨_, rfl⟩
  rw [hx]
  go_enter Tryd.func17, Tryd.ntmps17
  go_wp2_with fail
  refine (htk _).mono ?_
  rintro _ w1 ⟨rfl, t1⟩
  have bK := bK0.touch t1 (by simp)
  have tw := t0.trans t1 (by simp)
  obtain ⟨g, off, rfl, hg, hc⟩ := (_hn.quiet tw) 0 (by omega)
  rw [Nat.add_zero, hx] at hc
  clear hx hz
  have k0 := bK.cell 0
  have k1 := bK.cell 1
  have k2 := bK.cell 2
  have k3 := bK.cell 3
  have k4 := bK.cell 4
  have j0 := bK.frozen 0
  have j1 := bK.frozen 1
  have j2 := bK.frozen 2
  have j3 := bK.frozen 3
  have j4 := bK.frozen 4
  clear htk t0 bK0 t1 _hn
  obtain ⟨z0, z1, z2, z3, z4⟩ := five_back bK (.int .i64 1) (.int .i64 (x)) (.bool true) (.int .i64 0) (.int .i64 0)
  go_wp2_with fail
  refine bodyPost_ret (by simp [results, Tryd.results17, go_sem, z0, z1, z2, z3, z4]; try rfl) rfl ⟨rfl, ?_⟩
  exact five_touch tw (.inr (Nat.le_refl _)) _ _ _ _ _

set_option maxRecDepth 100000 in
theorem rTold_any_y2  (l : List Int) (a : Option Addr) (c : Nat) (w : World) (_hl : l.length ≤ 4) (_hn : Nums w a l) (hz : l.length = 2) : Calls Tryd.prog 17 #[.int .i64 2, .slice a l.length c] w fun e w' => e = .returned (⟨3, 0, false, l.getD 0 0, l.getD 1 0⟩ : KnownV).v ∧ Touch [] w w' := by
  have htk := fun w => rTakes_any 2 w
  have t0 := (Touch.refl [] w).alloc (.cells #[.int .i64 0, .int .i64 0, .bool false, .int .i64 0, .int .i64 0] 28)
  have bK0 : Blk (w.alloc (.cells #[.int .i64 0, .int .i64 0, .bool false, .int .i64 0, .int .i64 0] 28)) w.heap.size 28 #[.int .i64 0, .int .i64 0, .bool false, .int .i64 0, .int .i64 0] := Blk.new w _ _
  rw [show takesF 2 = (2, true) from rfl] at htk
  rw [hz]
  obtain ⟨x, hx⟩ : ∃ x, l.getD 0 0 = x := ⟨_, rfl⟩
  obtain ⟨y, hy⟩ : ∃ x, l.getD 1 0 = x := ⟨_, rfl⟩
  rw [hx, hy]
  go_enter Tryd.func17, Tryd.ntmps17
  go_wp2_with fail
  refine (htk _).mono ?_
  rintro _ w1 ⟨rfl, t1⟩
  have bK := bK0.touch t1 (by simp)
  have tw := t0.trans t1 (by simp)
  obtain ⟨g, off, rfl, hg, hc⟩ := (_hn.quiet tw) 0 (by omega)
  obtain ⟨g', off', e, hg', hc'⟩ := (_hn.quiet tw) 1 (by omega)
  cases e
  rw [Nat.add_zero, hx] at hc
  rw [hy] at hc'
  clear hx hy hz hg'
  have k0 := bK.cell 0
  have k1 := bK.cell 1
  have k2 := bK.cell 2
  have k3 := bK.cell 3
  have k4 := bK.cell 4
  have j0 := bK.frozen 0
  have j1 := bK.frozen 1
  have j2 := bK.frozen 2
  have j3 := bK.frozen 3
  have j4 := bK.frozen 4
  clear htk t0 bK0 t1 _hn
  obtain ⟨z0, z1, z2, z3, z4⟩ := five_back bK (.int .i64 3) (.int .i64 0) (.bool false) (.int .i64 x) (.int .i64 y)
  go_wp2_with fail
  go_region
  go_wp2_with fail
  refine bodyPost_ret (by simp [results, Tryd.results17, go_sem, z0, z1, z2, z3, z4]; try rfl) rfl ⟨rfl, ?_⟩
  exact (five_touch tw (.inr (Nat.le_refl _)) _ _ _ _ _).drew

theorem rTold_any (t : Int) (l : List Int) (a : Option Addr) (c : Nat) (w : World) (hl : l.length ≤ 4) (hn : Nums w a l) : Calls Tryd.prog 17 #[.int .i64 t, .slice a l.length c] w fun e w' => e = .returned (toldF t l).v ∧ Touch [] w w' := by
  rcases six_ways t with rfl | rfl | rfl | rfl | rfl | h | h
  · rw [show toldF 0 l = KnownV.none by simp [toldF]]
    by_cases hz : l.length = 0
    · exact rTold_any_z0 l a c w hl hn hz
    · exact rTold_any_n0 l a c w hl hn hz
  · by_cases hz : l.length = 1
    · rw [show toldF 1 l = (⟨2, 0, false, l.getD 0 0, 0⟩ : KnownV) by simp [toldF, hz]]
      exact rTold_any_y1 l a c w hl hn hz
    · rw [show toldF 1 l = KnownV.none by simp [toldF, hz]]
      exact rTold_any_n1 l a c w hl hn hz
  · by_cases hz : l.length = 2
    · rw [show toldF 2 l = (⟨3, 0, false, l.getD 0 0, l.getD 1 0⟩ : KnownV) by simp [toldF, hz]]
      exact rTold_any_y2 l a c w hl hn hz
    · rw [show toldF 2 l = KnownV.none by simp [toldF, hz]]
      exact rTold_any_n2 l a c w hl hn hz
  · by_cases hz : l.length = 1
    · rw [show toldF 3 l = (⟨1, l.getD 0 0, false, 0, 0⟩ : KnownV) by simp [toldF, hz]]
      exact rTold_any_y3 l a c w hl hn hz
    · rw [show toldF 3 l = KnownV.none by simp [toldF, hz]]
      exact rTold_any_n3 l a c w hl hn hz
  · by_cases hz : l.length = 1
    · rw [show toldF 4 l = (⟨1, l.getD 0 0, true, 0, 0⟩ : KnownV) by simp [toldF, hz]]
      exact rTold_any_y4 l a c w hl hn hz
    · rw [show toldF 4 l = KnownV.none by simp [toldF, hz]]
      exact rTold_any_n4 l a c w hl hn hz
  · rw [show toldF t l = KnownV.none by unfold toldF; rw [if_neg (by omega), if_neg (by omega), if_neg (by omega), if_neg (by omega)]]
    exact rTold_any_lt t l a c w hl hn h
  · rw [show toldF t l = KnownV.none by unfold toldF; rw [if_neg (by omega), if_neg (by omega), if_neg (by omega), if_neg (by omega)]]
    exact rTold_any_gt t l a c w hl hn h
end Go.Proofs.YtgdmiodcfdcihaaDoor
