import Derived.Test.YtkbchpaofmlhgaaGreatDoorJRnA
import Derived.Test.YtkbchpaofmlhgaaGreatDoorJLongA
import Derived.Test.YtkbchpaofmlhgaaGreatDoorJRefA
import Derived.Test.YtkbchpaofmlhgaaGreatDoorJRnC
import Derived.Test.YtkbchpaofmlhgaaGreatDoorJRnB
import Derived.Test.YtkbchpaofmlhgaaGreatDoorJRlX
/- rhytonref04.Two, its comparisons walked. -/
namespace Go.Proofs.YtkbchpaofmlhgaaGreatDoor
open Go.RowKit
namespace Rn

set_option maxRecDepth 100000 in
set_option maxHeartbeats 1600000 in
theorem two_none9 (f g : Int) (ka kb ma mb ea eb : Int) (sa sb : Bool) (hn : (ka == 0) = true ∨ ((ka == 0) = false ∧ (kb == 0) = true)) (w : World)
    (hO1 : ∀ W, Calls Tryz.prog 57 #[.int .i64 f] W fun e w' => e = .returned (.agg #[.int .i64 ka, .bool sa, .int .u64 ma, .int .i64 ea]) ∧ Touch [] W w')
    (hO2 : ∀ W, Calls Tryz.prog 57 #[.int .i64 g] W fun e w' => e = .returned (.agg #[.int .i64 kb, .bool sb, .int .u64 mb, .int .i64 eb]) ∧ Touch [] W w') :
    Calls Tryz.prog 30 #[.int .i64 9, .int .i64 f, .int .i64 g] w fun e w' => e = .returned (.tuple #[.int .i64 (0), .int .i64 0]) ∧ Touch [] w w' := by
  go_enter Tryz.func30, Tryz.ntmps30
  go_wp2_with fail
  refine (hO1 _).mono ?_
  rintro _ w1 ⟨rfl, t1⟩
  go_wp2_with fail
  refine (hO2 _).mono ?_
  rintro _ w2 ⟨rfl, t2⟩
  go_upto_region 5 with (fail)
  have bA := ((Blk.new w1 106 #[.int .i64 ka, .bool sa, .int .u64 ma, .int .i64 ea]).touch t2 (by simp)).alloc (.cells #[.int .i64 kb, .bool sb, .int .u64 mb, .int .i64 eb] 106)
  have bB := Blk.new w2 106 #[.int .i64 kb, .bool sb, .int .u64 mb, .int .i64 eb]
  have tw := ((t1.alloc (.cells #[.int .i64 ka, .bool sa, .int .u64 ma, .int .i64 ea] 106)).trans t2 (by simp)).alloc (.cells #[.int .i64 kb, .bool sb, .int .u64 mb, .int .i64 eb] 106)
  have hs1 := t1.size
  have hs2 := t2.size
  rw [size_alloc] at hs2
  clear t1 t2 hO1 hO2
  generalize w2.alloc (.cells #[.int .i64 kb, .bool sb, .int .u64 mb, .int .i64 eb] 106) = wA at *
  obtain ⟨p, hp⟩ : ∃ p, w1.heap.size = p := ⟨_, rfl⟩
  obtain ⟨q, hq⟩ : ∃ q, w2.heap.size = q := ⟨_, rfl⟩
  rw [hp] at bA hs1 hs2 ⊢
  rw [hq] at bB hs2 ⊢
  clear hp hq
  have a0 := bA.cell 0
  have a1 := bA.cell 1
  have a2 := bA.cell 2
  have a3 := bA.cell 3
  have b0 := bB.cell 0
  have b1 := bB.cell 1
  have b2 := bB.cell 2
  have b3 := bB.cell 3
  clear bA bB
  have hT := RTruth_any false
  rcases hn with h | ⟨h, h'⟩
  all_goals
    go_wp2_with fail
    refine (hT _).mono ?_
    rintro _ _ ⟨rfl, rfl⟩
    go_wp2_with fail
    go_ret2
    exact ⟨rfl, tw⟩
set_option maxRecDepth 100000 in
set_option maxHeartbeats 1600000 in
theorem two_none10 (f g : Int) (ka kb ma mb ea eb : Int) (sa sb : Bool) (hn : (ka == 0) = true ∨ ((ka == 0) = false ∧ (kb == 0) = true)) (w : World)
    (hO1 : ∀ W, Calls Tryz.prog 57 #[.int .i64 f] W fun e w' => e = .returned (.agg #[.int .i64 ka, .bool sa, .int .u64 ma, .int .i64 ea]) ∧ Touch [] W w')
    (hO2 : ∀ W, Calls Tryz.prog 57 #[.int .i64 g] W fun e w' => e = .returned (.agg #[.int .i64 kb, .bool sb, .int .u64 mb, .int .i64 eb]) ∧ Touch [] W w') :
    Calls Tryz.prog 30 #[.int .i64 10, .int .i64 f, .int .i64 g] w fun e w' => e = .returned (.tuple #[.int .i64 (0), .int .i64 0]) ∧ Touch [] w w' := by
  go_enter Tryz.func30, Tryz.ntmps30
  go_wp2_with fail
  refine (hO1 _).mono ?_
  rintro _ w1 ⟨rfl, t1⟩
  go_wp2_with fail
  refine (hO2 _).mono ?_
  rintro _ w2 ⟨rfl, t2⟩
  go_upto_region 5 with (fail)
  have bA := ((Blk.new w1 106 #[.int .i64 ka, .bool sa, .int .u64 ma, .int .i64 ea]).touch t2 (by simp)).alloc (.cells #[.int .i64 kb, .bool sb, .int .u64 mb, .int .i64 eb] 106)
  have bB := Blk.new w2 106 #[.int .i64 kb, .bool sb, .int .u64 mb, .int .i64 eb]
  have tw := ((t1.alloc (.cells #[.int .i64 ka, .bool sa, .int .u64 ma, .int .i64 ea] 106)).trans t2 (by simp)).alloc (.cells #[.int .i64 kb, .bool sb, .int .u64 mb, .int .i64 eb] 106)
  have hs1 := t1.size
  have hs2 := t2.size
  rw [size_alloc] at hs2
  clear t1 t2 hO1 hO2
  generalize w2.alloc (.cells #[.int .i64 kb, .bool sb, .int .u64 mb, .int .i64 eb] 106) = wA at *
  obtain ⟨p, hp⟩ : ∃ p, w1.heap.size = p := ⟨_, rfl⟩
  obtain ⟨q, hq⟩ : ∃ q, w2.heap.size = q := ⟨_, rfl⟩
  rw [hp] at bA hs1 hs2 ⊢
  rw [hq] at bB hs2 ⊢
  clear hp hq
  have a0 := bA.cell 0
  have a1 := bA.cell 1
  have a2 := bA.cell 2
  have a3 := bA.cell 3
  have b0 := bB.cell 0
  have b1 := bB.cell 1
  have b2 := bB.cell 2
  have b3 := bB.cell 3
  clear bA bB
  have hT := RTruth_any false
  rcases hn with h | ⟨h, h'⟩
  all_goals
    go_wp2_with fail
    refine (hT _).mono ?_
    rintro _ _ ⟨rfl, rfl⟩
    go_wp2_with fail
    go_ret2
    exact ⟨rfl, tw⟩
set_option maxRecDepth 100000 in
set_option maxHeartbeats 1600000 in
theorem two_less (f g : Int) (ka kb ma mb ea eb : Int) (sa sb : Bool) (v : Bool) (n1 : (ka == 0) = false) (n2 : (kb == 0) = false) (w : World)
    (hO1 : ∀ W, Calls Tryz.prog 57 #[.int .i64 f] W fun e w' => e = .returned (.agg #[.int .i64 ka, .bool sa, .int .u64 ma, .int .i64 ea]) ∧ Touch [] W w')
    (hO2 : ∀ W, Calls Tryz.prog 57 #[.int .i64 g] W fun e w' => e = .returned (.agg #[.int .i64 kb, .bool sb, .int .u64 mb, .int .i64 eb]) ∧ Touch [] W w')
    (hB : ∀ W, Calls Tryz.prog 58 #[.agg #[.int .i64 ka, .bool sa, .int .u64 ma, .int .i64 ea], .agg #[.int .i64 kb, .bool sb, .int .u64 mb, .int .i64 eb], .int .i64 f, .int .i64 g] W fun e w' => e = .returned (.bool v) ∧ Touch [] W w') :
    Calls Tryz.prog 30 #[.int .i64 9, .int .i64 f, .int .i64 g] w fun e w' => e = .returned (.tuple #[.int .i64 (truthF v), .int .i64 0]) ∧ Touch [] w w' := by
  go_enter Tryz.func30, Tryz.ntmps30
  go_wp2_with fail
  refine (hO1 _).mono ?_
  rintro _ w1 ⟨rfl, t1⟩
  go_wp2_with fail
  refine (hO2 _).mono ?_
  rintro _ w2 ⟨rfl, t2⟩
  go_upto_region 5 with (fail)
  have bA := ((Blk.new w1 106 #[.int .i64 ka, .bool sa, .int .u64 ma, .int .i64 ea]).touch t2 (by simp)).alloc (.cells #[.int .i64 kb, .bool sb, .int .u64 mb, .int .i64 eb] 106)
  have bB := Blk.new w2 106 #[.int .i64 kb, .bool sb, .int .u64 mb, .int .i64 eb]
  have tw := ((t1.alloc (.cells #[.int .i64 ka, .bool sa, .int .u64 ma, .int .i64 ea] 106)).trans t2 (by simp)).alloc (.cells #[.int .i64 kb, .bool sb, .int .u64 mb, .int .i64 eb] 106)
  have hs1 := t1.size
  have hs2 := t2.size
  rw [size_alloc] at hs2
  clear t1 t2 hO1 hO2
  generalize w2.alloc (.cells #[.int .i64 kb, .bool sb, .int .u64 mb, .int .i64 eb] 106) = wA at *
  obtain ⟨p, hp⟩ : ∃ p, w1.heap.size = p := ⟨_, rfl⟩
  obtain ⟨q, hq⟩ : ∃ q, w2.heap.size = q := ⟨_, rfl⟩
  rw [hp] at bA hs1 hs2 ⊢
  rw [hq] at bB hs2 ⊢
  clear hp hq
  have a0 := bA.cell 0
  have a1 := bA.cell 1
  have a2 := bA.cell 2
  have a3 := bA.cell 3
  have b0 := bB.cell 0
  have b1 := bB.cell 1
  have b2 := bB.cell 2
  have b3 := bB.cell 3
  clear bA bB
  have hT := fun b W => RTruth_any b W
  go_wp2_with fail
  refine (hB _).mono ?_
  rintro _ w3 ⟨rfl, t3⟩
  go_wp2_with fail
  refine (hT _ _).mono ?_
  rintro _ _ ⟨rfl, rfl⟩
  go_wp2_with fail
  go_ret2
  exact ⟨rfl, tw.trans t3 (by simp)⟩
set_option maxRecDepth 100000 in
set_option maxHeartbeats 1600000 in
theorem two_equal (f g : Int) (ka kb ma mb ea eb : Int) (sa sb : Bool) (v u : Bool) (n1 : (ka == 0) = false) (n2 : (kb == 0) = false) (w : World)
    (hO1 : ∀ W, Calls Tryz.prog 57 #[.int .i64 f] W fun e w' => e = .returned (.agg #[.int .i64 ka, .bool sa, .int .u64 ma, .int .i64 ea]) ∧ Touch [] W w')
    (hO2 : ∀ W, Calls Tryz.prog 57 #[.int .i64 g] W fun e w' => e = .returned (.agg #[.int .i64 kb, .bool sb, .int .u64 mb, .int .i64 eb]) ∧ Touch [] W w')
    (hB : ∀ W, Calls Tryz.prog 58 #[.agg #[.int .i64 ka, .bool sa, .int .u64 ma, .int .i64 ea], .agg #[.int .i64 kb, .bool sb, .int .u64 mb, .int .i64 eb], .int .i64 f, .int .i64 g] W fun e w' => e = .returned (.bool v) ∧ Touch [] W w')
    (hB2 : ∀ W, Calls Tryz.prog 58 #[.agg #[.int .i64 kb, .bool sb, .int .u64 mb, .int .i64 eb], .agg #[.int .i64 ka, .bool sa, .int .u64 ma, .int .i64 ea], .int .i64 g, .int .i64 f] W fun e w' => e = .returned (.bool u) ∧ Touch [] W w') :
    Calls Tryz.prog 30 #[.int .i64 10, .int .i64 f, .int .i64 g] w fun e w' => e = .returned (.tuple #[.int .i64 (truthF (!v && !u)), .int .i64 0]) ∧ Touch [] w w' := by
  go_enter Tryz.func30, Tryz.ntmps30
  go_wp2_with fail
  refine (hO1 _).mono ?_
  rintro _ w1 ⟨rfl, t1⟩
  go_wp2_with fail
  refine (hO2 _).mono ?_
  rintro _ w2 ⟨rfl, t2⟩
  go_upto_region 5 with (fail)
  have bA := ((Blk.new w1 106 #[.int .i64 ka, .bool sa, .int .u64 ma, .int .i64 ea]).touch t2 (by simp)).alloc (.cells #[.int .i64 kb, .bool sb, .int .u64 mb, .int .i64 eb] 106)
  have bB := Blk.new w2 106 #[.int .i64 kb, .bool sb, .int .u64 mb, .int .i64 eb]
  have tw := ((t1.alloc (.cells #[.int .i64 ka, .bool sa, .int .u64 ma, .int .i64 ea] 106)).trans t2 (by simp)).alloc (.cells #[.int .i64 kb, .bool sb, .int .u64 mb, .int .i64 eb] 106)
  have hs1 := t1.size
  have hs2 := t2.size
  rw [size_alloc] at hs2
  clear t1 t2 hO1 hO2
  generalize w2.alloc (.cells #[.int .i64 kb, .bool sb, .int .u64 mb, .int .i64 eb] 106) = wA at *
  obtain ⟨p, hp⟩ : ∃ p, w1.heap.size = p := ⟨_, rfl⟩
  obtain ⟨q, hq⟩ : ∃ q, w2.heap.size = q := ⟨_, rfl⟩
  rw [hp] at bA hs1 hs2 ⊢
  rw [hq] at bB hs2 ⊢
  clear hp hq
  have a0 := bA.cell 0
  have a1 := bA.cell 1
  have a2 := bA.cell 2
  have a3 := bA.cell 3
  have b0 := bB.cell 0
  have b1 := bB.cell 1
  have b2 := bB.cell 2
  have b3 := bB.cell 3
  clear bA bB
  have hT := fun b W => RTruth_any b W
  cases v
  · go_wp2_with fail
    refine (hB _).mono ?_
    rintro _ w3 ⟨rfl, t3⟩
    have a0 := cell_quiet t3 a0
    have a1 := cell_quiet t3 a1
    have a2 := cell_quiet t3 a2
    have a3 := cell_quiet t3 a3
    have b0 := cell_quiet t3 b0
    have b1 := cell_quiet t3 b1
    have b2 := cell_quiet t3 b2
    have b3 := cell_quiet t3 b3
    go_wp2_with fail
    refine (hB2 _).mono ?_
    rintro _ w4 ⟨rfl, t4⟩
    go_wp2_with fail
    refine (hT _ _).mono ?_
    rintro _ _ ⟨rfl, rfl⟩
    go_wp2_with fail
    go_ret2
    exact ⟨rfl, (tw.trans t3 (by simp)).trans t4 (by simp)⟩
  · go_wp2_with fail
    refine (hB _).mono ?_
    rintro _ w3 ⟨rfl, t3⟩
    go_wp2_with fail
    refine (hT _ _).mono ?_
    rintro _ _ ⟨rfl, rfl⟩
    go_wp2_with fail
    go_ret2
    exact ⟨rfl, tw.trans t3 (by simp)⟩
end Rn
end Go.Proofs.YtkbchpaofmlhgaaGreatDoor

/- rhytonref04.Two, each operation walked. -/
namespace Go.Proofs.YtkbchpaofmlhgaaGreatDoor
open Go.RowKit
namespace Rn

set_option maxRecDepth 100000 in
set_option maxHeartbeats 1600000 in
theorem two_sum (f g : Int) (ka kb ma mb ea eb : Int) (sa sb : Bool) (v : Int) (n1 : (ka == 0) = false) (n2 : (kb == 0) = false) (w : World)
    (hO1 : ∀ W, Calls Tryz.prog 57 #[.int .i64 f] W fun e w' => e = .returned (.agg #[.int .i64 ka, .bool sa, .int .u64 ma, .int .i64 ea]) ∧ Touch [] W w')
    (hO2 : ∀ W, Calls Tryz.prog 57 #[.int .i64 g] W fun e w' => e = .returned (.agg #[.int .i64 kb, .bool sb, .int .u64 mb, .int .i64 eb]) ∧ Touch [] W w')
    (hS : ∀ W, Calls Tryz.prog 59 #[.agg #[.int .i64 ka, .bool sa, .int .u64 ma, .int .i64 ea], .agg #[.int .i64 kb, .bool sb, .int .u64 mb, .int .i64 eb]] W fun e w' => e = .returned (.int .i64 v) ∧ Touch [] W w') :
    Calls Tryz.prog 30 #[.int .i64 3, .int .i64 f, .int .i64 g] w fun e w' => e = .returned (.tuple #[.int .i64 (v), .int .i64 0]) ∧ Touch [] w w' := by
  go_enter Tryz.func30, Tryz.ntmps30
  go_wp2_with fail
  refine (hO1 _).mono ?_
  rintro _ w1 ⟨rfl, t1⟩
  go_wp2_with fail
  refine (hO2 _).mono ?_
  rintro _ w2 ⟨rfl, t2⟩
  go_upto_region 5 with (fail)
  have bA := ((Blk.new w1 106 #[.int .i64 ka, .bool sa, .int .u64 ma, .int .i64 ea]).touch t2 (by simp)).alloc (.cells #[.int .i64 kb, .bool sb, .int .u64 mb, .int .i64 eb] 106)
  have bB := Blk.new w2 106 #[.int .i64 kb, .bool sb, .int .u64 mb, .int .i64 eb]
  have tw := ((t1.alloc (.cells #[.int .i64 ka, .bool sa, .int .u64 ma, .int .i64 ea] 106)).trans t2 (by simp)).alloc (.cells #[.int .i64 kb, .bool sb, .int .u64 mb, .int .i64 eb] 106)
  have hs1 := t1.size
  have hs2 := t2.size
  rw [size_alloc] at hs2
  clear t1 t2 hO1 hO2
  generalize w2.alloc (.cells #[.int .i64 kb, .bool sb, .int .u64 mb, .int .i64 eb] 106) = wA at *
  obtain ⟨p, hp⟩ : ∃ p, w1.heap.size = p := ⟨_, rfl⟩
  obtain ⟨q, hq⟩ : ∃ q, w2.heap.size = q := ⟨_, rfl⟩
  rw [hp] at bA hs1 hs2 ⊢
  rw [hq] at bB hs2 ⊢
  clear hp hq
  have a0 := bA.cell 0
  have a1 := bA.cell 1
  have a2 := bA.cell 2
  have a3 := bA.cell 3
  have b0 := bB.cell 0
  have b1 := bB.cell 1
  have b2 := bB.cell 2
  have b3 := bB.cell 3
  clear bA bB
  go_wp2_with fail
  refine (hS _).mono ?_
  rintro _ w3 ⟨rfl, t3⟩
  go_wp2_with fail
  go_ret2
  exact ⟨rfl, tw.trans t3 (by simp)⟩
set_option maxRecDepth 100000 in
set_option maxHeartbeats 1600000 in
theorem two_prod (f g : Int) (ka kb ma mb ea eb : Int) (sa sb : Bool) (v : Int) (n1 : (ka == 0) = false) (n2 : (kb == 0) = false) (w : World)
    (hO1 : ∀ W, Calls Tryz.prog 57 #[.int .i64 f] W fun e w' => e = .returned (.agg #[.int .i64 ka, .bool sa, .int .u64 ma, .int .i64 ea]) ∧ Touch [] W w')
    (hO2 : ∀ W, Calls Tryz.prog 57 #[.int .i64 g] W fun e w' => e = .returned (.agg #[.int .i64 kb, .bool sb, .int .u64 mb, .int .i64 eb]) ∧ Touch [] W w')
    (hS : ∀ W, Calls Tryz.prog 60 #[.agg #[.int .i64 ka, .bool sa, .int .u64 ma, .int .i64 ea], .agg #[.int .i64 kb, .bool sb, .int .u64 mb, .int .i64 eb]] W fun e w' => e = .returned (.int .i64 v) ∧ Touch [] W w') :
    Calls Tryz.prog 30 #[.int .i64 5, .int .i64 f, .int .i64 g] w fun e w' => e = .returned (.tuple #[.int .i64 (v), .int .i64 0]) ∧ Touch [] w w' := by
  go_enter Tryz.func30, Tryz.ntmps30
  go_wp2_with fail
  refine (hO1 _).mono ?_
  rintro _ w1 ⟨rfl, t1⟩
  go_wp2_with fail
  refine (hO2 _).mono ?_
  rintro _ w2 ⟨rfl, t2⟩
  go_upto_region 5 with (fail)
  have bA := ((Blk.new w1 106 #[.int .i64 ka, .bool sa, .int .u64 ma, .int .i64 ea]).touch t2 (by simp)).alloc (.cells #[.int .i64 kb, .bool sb, .int .u64 mb, .int .i64 eb] 106)
  have bB := Blk.new w2 106 #[.int .i64 kb, .bool sb, .int .u64 mb, .int .i64 eb]
  have tw := ((t1.alloc (.cells #[.int .i64 ka, .bool sa, .int .u64 ma, .int .i64 ea] 106)).trans t2 (by simp)).alloc (.cells #[.int .i64 kb, .bool sb, .int .u64 mb, .int .i64 eb] 106)
  have hs1 := t1.size
  have hs2 := t2.size
  rw [size_alloc] at hs2
  clear t1 t2 hO1 hO2
  generalize w2.alloc (.cells #[.int .i64 kb, .bool sb, .int .u64 mb, .int .i64 eb] 106) = wA at *
  obtain ⟨p, hp⟩ : ∃ p, w1.heap.size = p := ⟨_, rfl⟩
  obtain ⟨q, hq⟩ : ∃ q, w2.heap.size = q := ⟨_, rfl⟩
  rw [hp] at bA hs1 hs2 ⊢
  rw [hq] at bB hs2 ⊢
  clear hp hq
  have a0 := bA.cell 0
  have a1 := bA.cell 1
  have a2 := bA.cell 2
  have a3 := bA.cell 3
  have b0 := bB.cell 0
  have b1 := bB.cell 1
  have b2 := bB.cell 2
  have b3 := bB.cell 3
  clear bA bB
  go_wp2_with fail
  refine (hS _).mono ?_
  rintro _ w3 ⟨rfl, t3⟩
  go_wp2_with fail
  go_ret2
  exact ⟨rfl, tw.trans t3 (by simp)⟩
set_option maxRecDepth 100000 in
set_option maxHeartbeats 1600000 in
theorem two_quo (f g : Int) (ka kb ma mb ea eb : Int) (sa sb : Bool) (v : Int) (n1 : (ka == 0) = false) (n2 : (kb == 0) = false) (w : World)
    (hO1 : ∀ W, Calls Tryz.prog 57 #[.int .i64 f] W fun e w' => e = .returned (.agg #[.int .i64 ka, .bool sa, .int .u64 ma, .int .i64 ea]) ∧ Touch [] W w')
    (hO2 : ∀ W, Calls Tryz.prog 57 #[.int .i64 g] W fun e w' => e = .returned (.agg #[.int .i64 kb, .bool sb, .int .u64 mb, .int .i64 eb]) ∧ Touch [] W w')
    (hS : ∀ W, Calls Tryz.prog 61 #[.agg #[.int .i64 ka, .bool sa, .int .u64 ma, .int .i64 ea], .agg #[.int .i64 kb, .bool sb, .int .u64 mb, .int .i64 eb]] W fun e w' => e = .returned (.int .i64 v) ∧ Touch [] W w') :
    Calls Tryz.prog 30 #[.int .i64 6, .int .i64 f, .int .i64 g] w fun e w' => e = .returned (.tuple #[.int .i64 (v), .int .i64 0]) ∧ Touch [] w w' := by
  go_enter Tryz.func30, Tryz.ntmps30
  go_wp2_with fail
  refine (hO1 _).mono ?_
  rintro _ w1 ⟨rfl, t1⟩
  go_wp2_with fail
  refine (hO2 _).mono ?_
  rintro _ w2 ⟨rfl, t2⟩
  go_upto_region 5 with (fail)
  have bA := ((Blk.new w1 106 #[.int .i64 ka, .bool sa, .int .u64 ma, .int .i64 ea]).touch t2 (by simp)).alloc (.cells #[.int .i64 kb, .bool sb, .int .u64 mb, .int .i64 eb] 106)
  have bB := Blk.new w2 106 #[.int .i64 kb, .bool sb, .int .u64 mb, .int .i64 eb]
  have tw := ((t1.alloc (.cells #[.int .i64 ka, .bool sa, .int .u64 ma, .int .i64 ea] 106)).trans t2 (by simp)).alloc (.cells #[.int .i64 kb, .bool sb, .int .u64 mb, .int .i64 eb] 106)
  have hs1 := t1.size
  have hs2 := t2.size
  rw [size_alloc] at hs2
  clear t1 t2 hO1 hO2
  generalize w2.alloc (.cells #[.int .i64 kb, .bool sb, .int .u64 mb, .int .i64 eb] 106) = wA at *
  obtain ⟨p, hp⟩ : ∃ p, w1.heap.size = p := ⟨_, rfl⟩
  obtain ⟨q, hq⟩ : ∃ q, w2.heap.size = q := ⟨_, rfl⟩
  rw [hp] at bA hs1 hs2 ⊢
  rw [hq] at bB hs2 ⊢
  clear hp hq
  have a0 := bA.cell 0
  have a1 := bA.cell 1
  have a2 := bA.cell 2
  have a3 := bA.cell 3
  have b0 := bB.cell 0
  have b1 := bB.cell 1
  have b2 := bB.cell 2
  have b3 := bB.cell 3
  clear bA bB
  go_wp2_with fail
  refine (hS _).mono ?_
  rintro _ w3 ⟨rfl, t3⟩
  go_wp2_with fail
  go_ret2
  exact ⟨rfl, tw.trans t3 (by simp)⟩
set_option maxRecDepth 100000 in
set_option maxHeartbeats 1600000 in
theorem two_diff (f g : Int) (ka kb ma mb ea eb : Int) (sa sb : Bool) (v : Int) (n1 : (ka == 0) = false) (n2 : (kb == 0) = false) (w : World)
    (hO1 : ∀ W, Calls Tryz.prog 57 #[.int .i64 f] W fun e w' => e = .returned (.agg #[.int .i64 ka, .bool sa, .int .u64 ma, .int .i64 ea]) ∧ Touch [] W w')
    (hO2 : ∀ W, Calls Tryz.prog 57 #[.int .i64 g] W fun e w' => e = .returned (.agg #[.int .i64 kb, .bool sb, .int .u64 mb, .int .i64 eb]) ∧ Touch [] W w')
    (hS : ∀ W, Calls Tryz.prog 59 #[.agg #[.int .i64 ka, .bool sa, .int .u64 ma, .int .i64 ea], .agg #[.int .i64 kb, .bool (!sb), .int .u64 mb, .int .i64 eb]] W fun e w' => e = .returned (.int .i64 v) ∧ Touch [] W w') :
    Calls Tryz.prog 30 #[.int .i64 4, .int .i64 f, .int .i64 g] w fun e w' => e = .returned (.tuple #[.int .i64 (v), .int .i64 0]) ∧ Touch [] w w' := by
  go_enter Tryz.func30, Tryz.ntmps30
  go_wp2_with fail
  refine (hO1 _).mono ?_
  rintro _ w1 ⟨rfl, t1⟩
  go_wp2_with fail
  refine (hO2 _).mono ?_
  rintro _ w2 ⟨rfl, t2⟩
  go_upto_region 5 with (fail)
  have bA := ((Blk.new w1 106 #[.int .i64 ka, .bool sa, .int .u64 ma, .int .i64 ea]).touch t2 (by simp)).alloc (.cells #[.int .i64 kb, .bool sb, .int .u64 mb, .int .i64 eb] 106)
  have bB := Blk.new w2 106 #[.int .i64 kb, .bool sb, .int .u64 mb, .int .i64 eb]
  have tw := ((t1.alloc (.cells #[.int .i64 ka, .bool sa, .int .u64 ma, .int .i64 ea] 106)).trans t2 (by simp)).alloc (.cells #[.int .i64 kb, .bool sb, .int .u64 mb, .int .i64 eb] 106)
  have hs1 := t1.size
  have hs2 := t2.size
  rw [size_alloc] at hs2
  clear t1 t2 hO1 hO2
  generalize w2.alloc (.cells #[.int .i64 kb, .bool sb, .int .u64 mb, .int .i64 eb] 106) = wA at *
  obtain ⟨p, hp⟩ : ∃ p, w1.heap.size = p := ⟨_, rfl⟩
  obtain ⟨q, hq⟩ : ∃ q, w2.heap.size = q := ⟨_, rfl⟩
  rw [hp] at bA hs1 hs2 ⊢
  rw [hq] at bB hs2 ⊢
  clear hp hq
  have a0 := bA.cell 0
  have a1 := bA.cell 1
  have a2 := bA.cell 2
  have a3 := bA.cell 3
  have b0 := bB.cell 0
  have b1 := bB.cell 1
  have b2 := bB.cell 2
  have b3 := bB.cell 3
  have fb := bB.frozen 1
  clear bA
  have hne : p ≠ q := by omega
  have tw1 : Touch [] w (wA.setCell ⟨q, 1, none⟩ (.bool (!sb))) := tw.setCell (.inr (by show w.heap.size ≤ q; omega)) _
  have bN := bB.set_ 1 (.bool (!sb))
  go_wp2_with fail
  refine (hS _).mono ?_
  rintro _ w3 ⟨rfl, t3⟩
  go_wp2_with fail
  go_ret2
  exact ⟨rfl, tw1.trans t3 (by simp)⟩
set_option maxRecDepth 100000 in
set_option maxHeartbeats 1600000 in
theorem two_lesser7 (f g : Int) (ka kb ma mb ea eb : Int) (sa sb : Bool) (v : Int) (n1 : (ka == 0) = false) (n2 : (kb == 0) = false) (w : World)
    (hO1 : ∀ W, Calls Tryz.prog 57 #[.int .i64 f] W fun e w' => e = .returned (.agg #[.int .i64 ka, .bool sa, .int .u64 ma, .int .i64 ea]) ∧ Touch [] W w')
    (hO2 : ∀ W, Calls Tryz.prog 57 #[.int .i64 g] W fun e w' => e = .returned (.agg #[.int .i64 kb, .bool sb, .int .u64 mb, .int .i64 eb]) ∧ Touch [] W w')
    (hS : ∀ W, Calls Tryz.prog 62 #[.agg #[.int .i64 ka, .bool sa, .int .u64 ma, .int .i64 ea], .agg #[.int .i64 kb, .bool sb, .int .u64 mb, .int .i64 eb], .int .i64 f, .int .i64 g, .bool true] W fun e w' => e = .returned (.int .i64 v) ∧ Touch [] W w') :
    Calls Tryz.prog 30 #[.int .i64 7, .int .i64 f, .int .i64 g] w fun e w' => e = .returned (.tuple #[.int .i64 (v), .int .i64 0]) ∧ Touch [] w w' := by
  go_enter Tryz.func30, Tryz.ntmps30
  go_wp2_with fail
  refine (hO1 _).mono ?_
  rintro _ w1 ⟨rfl, t1⟩
  go_wp2_with fail
  refine (hO2 _).mono ?_
  rintro _ w2 ⟨rfl, t2⟩
  go_upto_region 5 with (fail)
  have bA := ((Blk.new w1 106 #[.int .i64 ka, .bool sa, .int .u64 ma, .int .i64 ea]).touch t2 (by simp)).alloc (.cells #[.int .i64 kb, .bool sb, .int .u64 mb, .int .i64 eb] 106)
  have bB := Blk.new w2 106 #[.int .i64 kb, .bool sb, .int .u64 mb, .int .i64 eb]
  have tw := ((t1.alloc (.cells #[.int .i64 ka, .bool sa, .int .u64 ma, .int .i64 ea] 106)).trans t2 (by simp)).alloc (.cells #[.int .i64 kb, .bool sb, .int .u64 mb, .int .i64 eb] 106)
  have hs1 := t1.size
  have hs2 := t2.size
  rw [size_alloc] at hs2
  clear t1 t2 hO1 hO2
  generalize w2.alloc (.cells #[.int .i64 kb, .bool sb, .int .u64 mb, .int .i64 eb] 106) = wA at *
  obtain ⟨p, hp⟩ : ∃ p, w1.heap.size = p := ⟨_, rfl⟩
  obtain ⟨q, hq⟩ : ∃ q, w2.heap.size = q := ⟨_, rfl⟩
  rw [hp] at bA hs1 hs2 ⊢
  rw [hq] at bB hs2 ⊢
  clear hp hq
  have a0 := bA.cell 0
  have a1 := bA.cell 1
  have a2 := bA.cell 2
  have a3 := bA.cell 3
  have b0 := bB.cell 0
  have b1 := bB.cell 1
  have b2 := bB.cell 2
  have b3 := bB.cell 3
  clear bA bB
  go_wp2_with fail
  refine (hS _).mono ?_
  rintro _ w3 ⟨rfl, t3⟩
  go_wp2_with fail
  go_ret2
  exact ⟨rfl, tw.trans t3 (by simp)⟩
set_option maxRecDepth 100000 in
set_option maxHeartbeats 1600000 in
theorem two_lesser8 (f g : Int) (ka kb ma mb ea eb : Int) (sa sb : Bool) (v : Int) (n1 : (ka == 0) = false) (n2 : (kb == 0) = false) (w : World)
    (hO1 : ∀ W, Calls Tryz.prog 57 #[.int .i64 f] W fun e w' => e = .returned (.agg #[.int .i64 ka, .bool sa, .int .u64 ma, .int .i64 ea]) ∧ Touch [] W w')
    (hO2 : ∀ W, Calls Tryz.prog 57 #[.int .i64 g] W fun e w' => e = .returned (.agg #[.int .i64 kb, .bool sb, .int .u64 mb, .int .i64 eb]) ∧ Touch [] W w')
    (hS : ∀ W, Calls Tryz.prog 62 #[.agg #[.int .i64 ka, .bool sa, .int .u64 ma, .int .i64 ea], .agg #[.int .i64 kb, .bool sb, .int .u64 mb, .int .i64 eb], .int .i64 f, .int .i64 g, .bool false] W fun e w' => e = .returned (.int .i64 v) ∧ Touch [] W w') :
    Calls Tryz.prog 30 #[.int .i64 8, .int .i64 f, .int .i64 g] w fun e w' => e = .returned (.tuple #[.int .i64 (v), .int .i64 0]) ∧ Touch [] w w' := by
  go_enter Tryz.func30, Tryz.ntmps30
  go_wp2_with fail
  refine (hO1 _).mono ?_
  rintro _ w1 ⟨rfl, t1⟩
  go_wp2_with fail
  refine (hO2 _).mono ?_
  rintro _ w2 ⟨rfl, t2⟩
  go_upto_region 5 with (fail)
  have bA := ((Blk.new w1 106 #[.int .i64 ka, .bool sa, .int .u64 ma, .int .i64 ea]).touch t2 (by simp)).alloc (.cells #[.int .i64 kb, .bool sb, .int .u64 mb, .int .i64 eb] 106)
  have bB := Blk.new w2 106 #[.int .i64 kb, .bool sb, .int .u64 mb, .int .i64 eb]
  have tw := ((t1.alloc (.cells #[.int .i64 ka, .bool sa, .int .u64 ma, .int .i64 ea] 106)).trans t2 (by simp)).alloc (.cells #[.int .i64 kb, .bool sb, .int .u64 mb, .int .i64 eb] 106)
  have hs1 := t1.size
  have hs2 := t2.size
  rw [size_alloc] at hs2
  clear t1 t2 hO1 hO2
  generalize w2.alloc (.cells #[.int .i64 kb, .bool sb, .int .u64 mb, .int .i64 eb] 106) = wA at *
  obtain ⟨p, hp⟩ : ∃ p, w1.heap.size = p := ⟨_, rfl⟩
  obtain ⟨q, hq⟩ : ∃ q, w2.heap.size = q := ⟨_, rfl⟩
  rw [hp] at bA hs1 hs2 ⊢
  rw [hq] at bB hs2 ⊢
  clear hp hq
  have a0 := bA.cell 0
  have a1 := bA.cell 1
  have a2 := bA.cell 2
  have a3 := bA.cell 3
  have b0 := bB.cell 0
  have b1 := bB.cell 1
  have b2 := bB.cell 2
  have b3 := bB.cell 3
  clear bA bB
  go_wp2_with fail
  refine (hS _).mono ?_
  rintro _ w3 ⟨rfl, t3⟩
  go_wp2_with fail
  go_ret2
  exact ⟨rfl, tw.trans t3 (by simp)⟩
set_option maxRecDepth 100000 in
set_option maxHeartbeats 1600000 in
theorem two_none3 (f g : Int) (ka kb ma mb ea eb : Int) (sa sb : Bool) (hn : (ka == 0) = true ∨ ((ka == 0) = false ∧ (kb == 0) = true)) (w : World)
    (hO1 : ∀ W, Calls Tryz.prog 57 #[.int .i64 f] W fun e w' => e = .returned (.agg #[.int .i64 ka, .bool sa, .int .u64 ma, .int .i64 ea]) ∧ Touch [] W w')
    (hO2 : ∀ W, Calls Tryz.prog 57 #[.int .i64 g] W fun e w' => e = .returned (.agg #[.int .i64 kb, .bool sb, .int .u64 mb, .int .i64 eb]) ∧ Touch [] W w') :
    Calls Tryz.prog 30 #[.int .i64 3, .int .i64 f, .int .i64 g] w fun e w' => e = .returned (.tuple #[.int .i64 (9221120237041090560), .int .i64 0]) ∧ Touch [] w w' := by
  go_enter Tryz.func30, Tryz.ntmps30
  go_wp2_with fail
  refine (hO1 _).mono ?_
  rintro _ w1 ⟨rfl, t1⟩
  go_wp2_with fail
  refine (hO2 _).mono ?_
  rintro _ w2 ⟨rfl, t2⟩
  go_upto_region 5 with (fail)
  have bA := ((Blk.new w1 106 #[.int .i64 ka, .bool sa, .int .u64 ma, .int .i64 ea]).touch t2 (by simp)).alloc (.cells #[.int .i64 kb, .bool sb, .int .u64 mb, .int .i64 eb] 106)
  have bB := Blk.new w2 106 #[.int .i64 kb, .bool sb, .int .u64 mb, .int .i64 eb]
  have tw := ((t1.alloc (.cells #[.int .i64 ka, .bool sa, .int .u64 ma, .int .i64 ea] 106)).trans t2 (by simp)).alloc (.cells #[.int .i64 kb, .bool sb, .int .u64 mb, .int .i64 eb] 106)
  have hs1 := t1.size
  have hs2 := t2.size
  rw [size_alloc] at hs2
  clear t1 t2 hO1 hO2
  generalize w2.alloc (.cells #[.int .i64 kb, .bool sb, .int .u64 mb, .int .i64 eb] 106) = wA at *
  obtain ⟨p, hp⟩ : ∃ p, w1.heap.size = p := ⟨_, rfl⟩
  obtain ⟨q, hq⟩ : ∃ q, w2.heap.size = q := ⟨_, rfl⟩
  rw [hp] at bA hs1 hs2 ⊢
  rw [hq] at bB hs2 ⊢
  clear hp hq
  have a0 := bA.cell 0
  have a1 := bA.cell 1
  have a2 := bA.cell 2
  have a3 := bA.cell 3
  have b0 := bB.cell 0
  have b1 := bB.cell 1
  have b2 := bB.cell 2
  have b3 := bB.cell 3
  clear bA bB
  rcases hn with h | ⟨h, h'⟩
  all_goals
    go_wp2_with fail
    go_ret2
    exact ⟨rfl, tw⟩
set_option maxRecDepth 100000 in
set_option maxHeartbeats 1600000 in
theorem two_none4 (f g : Int) (ka kb ma mb ea eb : Int) (sa sb : Bool) (hn : (ka == 0) = true ∨ ((ka == 0) = false ∧ (kb == 0) = true)) (w : World)
    (hO1 : ∀ W, Calls Tryz.prog 57 #[.int .i64 f] W fun e w' => e = .returned (.agg #[.int .i64 ka, .bool sa, .int .u64 ma, .int .i64 ea]) ∧ Touch [] W w')
    (hO2 : ∀ W, Calls Tryz.prog 57 #[.int .i64 g] W fun e w' => e = .returned (.agg #[.int .i64 kb, .bool sb, .int .u64 mb, .int .i64 eb]) ∧ Touch [] W w') :
    Calls Tryz.prog 30 #[.int .i64 4, .int .i64 f, .int .i64 g] w fun e w' => e = .returned (.tuple #[.int .i64 (9221120237041090560), .int .i64 0]) ∧ Touch [] w w' := by
  go_enter Tryz.func30, Tryz.ntmps30
  go_wp2_with fail
  refine (hO1 _).mono ?_
  rintro _ w1 ⟨rfl, t1⟩
  go_wp2_with fail
  refine (hO2 _).mono ?_
  rintro _ w2 ⟨rfl, t2⟩
  go_upto_region 5 with (fail)
  have bA := ((Blk.new w1 106 #[.int .i64 ka, .bool sa, .int .u64 ma, .int .i64 ea]).touch t2 (by simp)).alloc (.cells #[.int .i64 kb, .bool sb, .int .u64 mb, .int .i64 eb] 106)
  have bB := Blk.new w2 106 #[.int .i64 kb, .bool sb, .int .u64 mb, .int .i64 eb]
  have tw := ((t1.alloc (.cells #[.int .i64 ka, .bool sa, .int .u64 ma, .int .i64 ea] 106)).trans t2 (by simp)).alloc (.cells #[.int .i64 kb, .bool sb, .int .u64 mb, .int .i64 eb] 106)
  have hs1 := t1.size
  have hs2 := t2.size
  rw [size_alloc] at hs2
  clear t1 t2 hO1 hO2
  generalize w2.alloc (.cells #[.int .i64 kb, .bool sb, .int .u64 mb, .int .i64 eb] 106) = wA at *
  obtain ⟨p, hp⟩ : ∃ p, w1.heap.size = p := ⟨_, rfl⟩
  obtain ⟨q, hq⟩ : ∃ q, w2.heap.size = q := ⟨_, rfl⟩
  rw [hp] at bA hs1 hs2 ⊢
  rw [hq] at bB hs2 ⊢
  clear hp hq
  have a0 := bA.cell 0
  have a1 := bA.cell 1
  have a2 := bA.cell 2
  have a3 := bA.cell 3
  have b0 := bB.cell 0
  have b1 := bB.cell 1
  have b2 := bB.cell 2
  have b3 := bB.cell 3
  clear bA bB
  rcases hn with h | ⟨h, h'⟩
  all_goals
    go_wp2_with fail
    go_ret2
    exact ⟨rfl, tw⟩
set_option maxRecDepth 100000 in
set_option maxHeartbeats 1600000 in
theorem two_none5 (f g : Int) (ka kb ma mb ea eb : Int) (sa sb : Bool) (hn : (ka == 0) = true ∨ ((ka == 0) = false ∧ (kb == 0) = true)) (w : World)
    (hO1 : ∀ W, Calls Tryz.prog 57 #[.int .i64 f] W fun e w' => e = .returned (.agg #[.int .i64 ka, .bool sa, .int .u64 ma, .int .i64 ea]) ∧ Touch [] W w')
    (hO2 : ∀ W, Calls Tryz.prog 57 #[.int .i64 g] W fun e w' => e = .returned (.agg #[.int .i64 kb, .bool sb, .int .u64 mb, .int .i64 eb]) ∧ Touch [] W w') :
    Calls Tryz.prog 30 #[.int .i64 5, .int .i64 f, .int .i64 g] w fun e w' => e = .returned (.tuple #[.int .i64 (9221120237041090560), .int .i64 0]) ∧ Touch [] w w' := by
  go_enter Tryz.func30, Tryz.ntmps30
  go_wp2_with fail
  refine (hO1 _).mono ?_
  rintro _ w1 ⟨rfl, t1⟩
  go_wp2_with fail
  refine (hO2 _).mono ?_
  rintro _ w2 ⟨rfl, t2⟩
  go_upto_region 5 with (fail)
  have bA := ((Blk.new w1 106 #[.int .i64 ka, .bool sa, .int .u64 ma, .int .i64 ea]).touch t2 (by simp)).alloc (.cells #[.int .i64 kb, .bool sb, .int .u64 mb, .int .i64 eb] 106)
  have bB := Blk.new w2 106 #[.int .i64 kb, .bool sb, .int .u64 mb, .int .i64 eb]
  have tw := ((t1.alloc (.cells #[.int .i64 ka, .bool sa, .int .u64 ma, .int .i64 ea] 106)).trans t2 (by simp)).alloc (.cells #[.int .i64 kb, .bool sb, .int .u64 mb, .int .i64 eb] 106)
  have hs1 := t1.size
  have hs2 := t2.size
  rw [size_alloc] at hs2
  clear t1 t2 hO1 hO2
  generalize w2.alloc (.cells #[.int .i64 kb, .bool sb, .int .u64 mb, .int .i64 eb] 106) = wA at *
  obtain ⟨p, hp⟩ : ∃ p, w1.heap.size = p := ⟨_, rfl⟩
  obtain ⟨q, hq⟩ : ∃ q, w2.heap.size = q := ⟨_, rfl⟩
  rw [hp] at bA hs1 hs2 ⊢
  rw [hq] at bB hs2 ⊢
  clear hp hq
  have a0 := bA.cell 0
  have a1 := bA.cell 1
  have a2 := bA.cell 2
  have a3 := bA.cell 3
  have b0 := bB.cell 0
  have b1 := bB.cell 1
  have b2 := bB.cell 2
  have b3 := bB.cell 3
  clear bA bB
  rcases hn with h | ⟨h, h'⟩
  all_goals
    go_wp2_with fail
    go_ret2
    exact ⟨rfl, tw⟩
set_option maxRecDepth 100000 in
set_option maxHeartbeats 1600000 in
theorem two_none6 (f g : Int) (ka kb ma mb ea eb : Int) (sa sb : Bool) (hn : (ka == 0) = true ∨ ((ka == 0) = false ∧ (kb == 0) = true)) (w : World)
    (hO1 : ∀ W, Calls Tryz.prog 57 #[.int .i64 f] W fun e w' => e = .returned (.agg #[.int .i64 ka, .bool sa, .int .u64 ma, .int .i64 ea]) ∧ Touch [] W w')
    (hO2 : ∀ W, Calls Tryz.prog 57 #[.int .i64 g] W fun e w' => e = .returned (.agg #[.int .i64 kb, .bool sb, .int .u64 mb, .int .i64 eb]) ∧ Touch [] W w') :
    Calls Tryz.prog 30 #[.int .i64 6, .int .i64 f, .int .i64 g] w fun e w' => e = .returned (.tuple #[.int .i64 (9221120237041090560), .int .i64 0]) ∧ Touch [] w w' := by
  go_enter Tryz.func30, Tryz.ntmps30
  go_wp2_with fail
  refine (hO1 _).mono ?_
  rintro _ w1 ⟨rfl, t1⟩
  go_wp2_with fail
  refine (hO2 _).mono ?_
  rintro _ w2 ⟨rfl, t2⟩
  go_upto_region 5 with (fail)
  have bA := ((Blk.new w1 106 #[.int .i64 ka, .bool sa, .int .u64 ma, .int .i64 ea]).touch t2 (by simp)).alloc (.cells #[.int .i64 kb, .bool sb, .int .u64 mb, .int .i64 eb] 106)
  have bB := Blk.new w2 106 #[.int .i64 kb, .bool sb, .int .u64 mb, .int .i64 eb]
  have tw := ((t1.alloc (.cells #[.int .i64 ka, .bool sa, .int .u64 ma, .int .i64 ea] 106)).trans t2 (by simp)).alloc (.cells #[.int .i64 kb, .bool sb, .int .u64 mb, .int .i64 eb] 106)
  have hs1 := t1.size
  have hs2 := t2.size
  rw [size_alloc] at hs2
  clear t1 t2 hO1 hO2
  generalize w2.alloc (.cells #[.int .i64 kb, .bool sb, .int .u64 mb, .int .i64 eb] 106) = wA at *
  obtain ⟨p, hp⟩ : ∃ p, w1.heap.size = p := ⟨_, rfl⟩
  obtain ⟨q, hq⟩ : ∃ q, w2.heap.size = q := ⟨_, rfl⟩
  rw [hp] at bA hs1 hs2 ⊢
  rw [hq] at bB hs2 ⊢
  clear hp hq
  have a0 := bA.cell 0
  have a1 := bA.cell 1
  have a2 := bA.cell 2
  have a3 := bA.cell 3
  have b0 := bB.cell 0
  have b1 := bB.cell 1
  have b2 := bB.cell 2
  have b3 := bB.cell 3
  clear bA bB
  rcases hn with h | ⟨h, h'⟩
  all_goals
    go_wp2_with fail
    go_ret2
    exact ⟨rfl, tw⟩
set_option maxRecDepth 100000 in
set_option maxHeartbeats 1600000 in
theorem two_none7 (f g : Int) (ka kb ma mb ea eb : Int) (sa sb : Bool) (hn : (ka == 0) = true ∨ ((ka == 0) = false ∧ (kb == 0) = true)) (w : World)
    (hO1 : ∀ W, Calls Tryz.prog 57 #[.int .i64 f] W fun e w' => e = .returned (.agg #[.int .i64 ka, .bool sa, .int .u64 ma, .int .i64 ea]) ∧ Touch [] W w')
    (hO2 : ∀ W, Calls Tryz.prog 57 #[.int .i64 g] W fun e w' => e = .returned (.agg #[.int .i64 kb, .bool sb, .int .u64 mb, .int .i64 eb]) ∧ Touch [] W w') :
    Calls Tryz.prog 30 #[.int .i64 7, .int .i64 f, .int .i64 g] w fun e w' => e = .returned (.tuple #[.int .i64 (9221120237041090560), .int .i64 0]) ∧ Touch [] w w' := by
  go_enter Tryz.func30, Tryz.ntmps30
  go_wp2_with fail
  refine (hO1 _).mono ?_
  rintro _ w1 ⟨rfl, t1⟩
  go_wp2_with fail
  refine (hO2 _).mono ?_
  rintro _ w2 ⟨rfl, t2⟩
  go_upto_region 5 with (fail)
  have bA := ((Blk.new w1 106 #[.int .i64 ka, .bool sa, .int .u64 ma, .int .i64 ea]).touch t2 (by simp)).alloc (.cells #[.int .i64 kb, .bool sb, .int .u64 mb, .int .i64 eb] 106)
  have bB := Blk.new w2 106 #[.int .i64 kb, .bool sb, .int .u64 mb, .int .i64 eb]
  have tw := ((t1.alloc (.cells #[.int .i64 ka, .bool sa, .int .u64 ma, .int .i64 ea] 106)).trans t2 (by simp)).alloc (.cells #[.int .i64 kb, .bool sb, .int .u64 mb, .int .i64 eb] 106)
  have hs1 := t1.size
  have hs2 := t2.size
  rw [size_alloc] at hs2
  clear t1 t2 hO1 hO2
  generalize w2.alloc (.cells #[.int .i64 kb, .bool sb, .int .u64 mb, .int .i64 eb] 106) = wA at *
  obtain ⟨p, hp⟩ : ∃ p, w1.heap.size = p := ⟨_, rfl⟩
  obtain ⟨q, hq⟩ : ∃ q, w2.heap.size = q := ⟨_, rfl⟩
  rw [hp] at bA hs1 hs2 ⊢
  rw [hq] at bB hs2 ⊢
  clear hp hq
  have a0 := bA.cell 0
  have a1 := bA.cell 1
  have a2 := bA.cell 2
  have a3 := bA.cell 3
  have b0 := bB.cell 0
  have b1 := bB.cell 1
  have b2 := bB.cell 2
  have b3 := bB.cell 3
  clear bA bB
  rcases hn with h | ⟨h, h'⟩
  all_goals
    go_wp2_with fail
    go_ret2
    exact ⟨rfl, tw⟩
set_option maxRecDepth 100000 in
set_option maxHeartbeats 1600000 in
theorem two_none8 (f g : Int) (ka kb ma mb ea eb : Int) (sa sb : Bool) (hn : (ka == 0) = true ∨ ((ka == 0) = false ∧ (kb == 0) = true)) (w : World)
    (hO1 : ∀ W, Calls Tryz.prog 57 #[.int .i64 f] W fun e w' => e = .returned (.agg #[.int .i64 ka, .bool sa, .int .u64 ma, .int .i64 ea]) ∧ Touch [] W w')
    (hO2 : ∀ W, Calls Tryz.prog 57 #[.int .i64 g] W fun e w' => e = .returned (.agg #[.int .i64 kb, .bool sb, .int .u64 mb, .int .i64 eb]) ∧ Touch [] W w') :
    Calls Tryz.prog 30 #[.int .i64 8, .int .i64 f, .int .i64 g] w fun e w' => e = .returned (.tuple #[.int .i64 (9221120237041090560), .int .i64 0]) ∧ Touch [] w w' := by
  go_enter Tryz.func30, Tryz.ntmps30
  go_wp2_with fail
  refine (hO1 _).mono ?_
  rintro _ w1 ⟨rfl, t1⟩
  go_wp2_with fail
  refine (hO2 _).mono ?_
  rintro _ w2 ⟨rfl, t2⟩
  go_upto_region 5 with (fail)
  have bA := ((Blk.new w1 106 #[.int .i64 ka, .bool sa, .int .u64 ma, .int .i64 ea]).touch t2 (by simp)).alloc (.cells #[.int .i64 kb, .bool sb, .int .u64 mb, .int .i64 eb] 106)
  have bB := Blk.new w2 106 #[.int .i64 kb, .bool sb, .int .u64 mb, .int .i64 eb]
  have tw := ((t1.alloc (.cells #[.int .i64 ka, .bool sa, .int .u64 ma, .int .i64 ea] 106)).trans t2 (by simp)).alloc (.cells #[.int .i64 kb, .bool sb, .int .u64 mb, .int .i64 eb] 106)
  have hs1 := t1.size
  have hs2 := t2.size
  rw [size_alloc] at hs2
  clear t1 t2 hO1 hO2
  generalize w2.alloc (.cells #[.int .i64 kb, .bool sb, .int .u64 mb, .int .i64 eb] 106) = wA at *
  obtain ⟨p, hp⟩ : ∃ p, w1.heap.size = p := ⟨_, rfl⟩
  obtain ⟨q, hq⟩ : ∃ q, w2.heap.size = q := ⟨_, rfl⟩
  rw [hp] at bA hs1 hs2 ⊢
  rw [hq] at bB hs2 ⊢
  clear hp hq
  have a0 := bA.cell 0
  have a1 := bA.cell 1
  have a2 := bA.cell 2
  have a3 := bA.cell 3
  have b0 := bB.cell 0
  have b1 := bB.cell 1
  have b2 := bB.cell 2
  have b3 := bB.cell 3
  clear bA bB
  rcases hn with h | ⟨h, h'⟩
  all_goals
    go_wp2_with fail
    go_ret2
    exact ⟨rfl, tw⟩
end Rn
end Go.Proofs.YtkbchpaofmlhgaaGreatDoor

/- What rhytonref04 tells of two real numbers is what package real tells: plain. -/
namespace Go.Proofs.YtkbchpaofmlhgaaGreatDoor
open Go.RowKit
namespace Rn

theorem part_fin {x : Nat} (h : Fl.rg x < 9218868437227405312) : partF x = ⟨2, Fl.sg x, (Fl.M (Fl.rg x) : Nat), -1074 + (Fl.E (Fl.rg x) : Int)⟩ := by
  have hk : x / 4503599627370496 % 2048 = Fl.rg x / 4503599627370496 := by unfold Fl.rg; omega
  have hm : x % 4503599627370496 = Fl.rg x % 4503599627370496 := by unfold Fl.rg; omega
  unfold partF Fl.M Fl.E
  rw [hk, hm]
  generalize Fl.rg x = r at *
  rw [if_neg (by omega)]
  by_cases h1 : r < 4503599627370496
  · rw [if_pos (by omega), if_pos h1, if_pos h1, Nat.mod_eq_of_lt h1]; rfl
  · rw [if_neg (by omega), if_neg h1, if_neg h1, Nat.add_comm, show ((r / 4503599627370496 : Nat) : Int) - 1075 = -1074 + ((r / 4503599627370496 - 1 : Nat) : Int) by omega]
theorem part_inf {x : Nat} (h : Fl.rg x = 9218868437227405312) : partF x = ⟨1, Fl.sg x, 0, 0⟩ := by
  have hk : x / 4503599627370496 % 2048 = Fl.rg x / 4503599627370496 := by unfold Fl.rg; omega
  have hm : x % 4503599627370496 = Fl.rg x % 4503599627370496 := by unfold Fl.rg; omega
  unfold partF
  rw [hk, hm, h]
  rfl
theorem part_nan {x : Nat} (h : 9218868437227405312 < Fl.rg x) : ∃ m : Int, partF x = ⟨0, Fl.sg x, m, 0⟩ := by
  have hk : x / 4503599627370496 % 2048 = Fl.rg x / 4503599627370496 := by unfold Fl.rg; omega
  have hm : x % 4503599627370496 = Fl.rg x % 4503599627370496 := by unfold Fl.rg; omega
  have hl := Rl.rg_lt x
  unfold partF
  rw [hk, hm, if_pos (by omega), if_neg (by omega)]
  exact ⟨_, rfl⟩
theorem res_some {z : Nat} (h : Fl.rg z ≤ 9218868437227405312) : Rl.resOf (some z) = cellOf z := by
  show Rl.madeOf z = _
  unfold Rl.madeOf
  rw [if_neg (show ¬ Rl.nanB z from by unfold Rl.nanB; omega)]
theorem read_lt {x : Nat} (h : Fl.rg x < 9218868437227405312) : ∃ e : Int, Ieee.double.read x = .number (Fl.sg x) (Fl.M (Fl.rg x)) e ∧ partF x = ⟨2, Fl.sg x, (Fl.M (Fl.rg x) : Nat), e⟩ ∧ -1074 ≤ e ∧ e ≤ 971 ∧ (-1074 < e → 4503599627370496 ≤ Fl.M (Fl.rg x)) := by
  refine ⟨_, Fl.read_fin h, part_fin h, by omega, ?_, fun h => Fl.E_pos (by omega)⟩
  have : Fl.E (Fl.rg x) ≤ 2045 := by unfold Fl.E; split <;> omega
  omega
theorem sumN_rg (sx sy : Bool) (P Q : Nat) (e : Int) (more : Bool) : Fl.rg (Fl.sumN sx sy P Q e more) ≤ 9218868437227405312 := by
  unfold Fl.sumN
  split
  · exact (Fl.Sr_rg _ _ _ _).1
  · split
    · decide
    · split <;> exact (Fl.Sr_rg _ _ _ _).1
theorem tail_sum {sx sy : Bool} {P Q : Nat} {e : Int} {more : Bool} {v : Int} (h : TailIs sx sy P Q e more v) : v = cellOf (Fl.sumN sx sy P Q e more) := by
  unfold TailIs at h
  rw [h]
  unfold Fl.sumN
  split
  · rfl
  · split
    · rfl
    · split <;> rfl
theorem add_plain {sx sy : Bool} {mx my : Nat} {ex ey v : Int} (h : AddIs sx sy mx my ex ey v) (hle : ey ≤ ex) (hn : ey < ex → 4503599627370496 ≤ mx) (hy : my < 9007199254740992) :
    v = Rl.resOf ((Ieee.Datum.sum (.number sx mx ex) (.number sy my ey)).map Ieee.double.write) := by
  obtain ⟨P, Q, e, more, hm, ht⟩ := h
  have hv := tail_sum ht
  rcases hm with ⟨h1, h2, h3, h4, h5⟩ | ⟨h1, h2, h3, h4, h5⟩ <;> rw [h2, h3, h4, h5] at hv
  · rw [Fl.sum_far sx sy mx my ex ey h1 (hn (by omega)) hy, res_some (sumN_rg _ _ _ _ _ _), hv]
  · rw [Fl.sum_near sx sy mx my ex ey hle, res_some (sumN_rg _ _ _ _ _ _), hv]
theorem quo_plain {sa sb : Bool} {ma mb : Nat} {ea eb v : Int} (h : QuoIs (sa != sb) ma mb ea eb v) (ha : ma < 9007199254740992) (hb0 : 0 < mb) (hb : mb < 9007199254740992) :
    v = Rl.resOf ((Ieee.Datum.quotient 54 (.number sa ma ea) (.number sb mb eb)).map Ieee.double.write) := by
  obtain ⟨j, k, ⟨hj1, hj2⟩, hk, rfl⟩ := h
  rcases hk with ⟨rfl, rfl⟩ | ⟨hk1, hk2⟩
  · rw [Fl.quo_nil sa sb mb ea eb hb0 (ea - ((0 : Nat) : Int) - (eb - j) - 64), res_some (Fl.Sr_rg _ _ _ _).1]
    simp
  · have hm0 : 0 < ma := by
      rcases Nat.eq_zero_or_pos ma with rfl | h
      · omega
      · exact h
    have l1 : mb.log2 + j = 52 := by
      rw [← Fl.log2_mul_pow mb j (by omega)]
      exact Fl.log2_of hj1 hj2
    have l2 : ma.log2 + k = 52 := by
      rw [← Fl.log2_mul_pow ma k (by omega)]
      exact Fl.log2_of hk1 hk2
    have hT : k + 64 - j = 54 + mb.log2 - ma.log2 + 10 := by omega
    rw [Fl.quo_num sa sb ma mb ea eb ha hm0 hb0 10 (k + 64 - j) hT, res_some (Fl.Sr_rg _ _ _ _).1]
    have hA : ma * 2 ^ k * 18446744073709551616 = ma * 2 ^ (k + 64 - j) * 2 ^ j := by
      rw [Nat.mul_assoc, Nat.mul_assoc, ← Nat.pow_add, show k + 64 - j + j = k + 64 by omega, Nat.pow_add]
    have hp : 0 < 2 ^ j := Nat.two_pow_pos j
    rw [hA, Nat.mul_div_mul_right _ _ hp, Nat.mul_mod_mul_right]
    congr 1
    have hd : decide (ma * 2 ^ (k + 64 - j) % mb * 2 ^ j ≠ 0) = decide (ma * 2 ^ (k + 64 - j) % mb ≠ 0) := by
      rw [decide_eq_decide]
      refine ⟨fun h g => h (by rw [g, Nat.zero_mul]), fun h g => ?_⟩
      rcases Nat.mul_eq_zero.1 g with g | g
      · exact h g
      · omega
    rw [hd]
    congr 1
    omega
/-- what has its sign turned -/
theorem read_neg {y : Nat} (hy : y < 18446744073709551616) (h : Fl.rg y ≤ 9218868437227405312) : Ieee.double.read (Rl.negOf y) = (Ieee.double.read y).opposite := by
  have h1 := Rl.sg_neg y hy
  have h2 := Rl.rg_neg y
  rcases Nat.lt_or_ge (Fl.rg y) 9218868437227405312 with g | g
  · rw [Fl.read_fin g, Fl.read_fin (by rw [h2]; exact g), h1, h2]; rfl
  · rw [Fl.read_inf (w := Rl.negOf y) (by rw [h2]; omega), Fl.read_inf (w := y) (by omega), h1]; rfl
theorem part_neg {y : Nat} (hy : y < 18446744073709551616) (h : Fl.rg y ≤ 9218868437227405312) : partF (Rl.negOf y) = { partF y with neg := !(partF y).neg } := by
  have h1 := Rl.sg_neg y hy
  have h2 := Rl.rg_neg y
  rcases Nat.lt_or_ge (Fl.rg y) 9218868437227405312 with g | g
  · rw [part_fin g, part_fin (by rw [h2]; exact g), h1, h2]
  · rw [part_inf (x := Rl.negOf y) (by rw [h2]; omega), part_inf (x := y) (by omega), h1]
theorem part_key (h : Int) (h0 : -9223372036854775808 ≤ h) (h1 : h ≤ 9223372036854775807) (hr : Fl.rg (bitsOf h) ≤ 9218868437227405312) : (partF (bitsOf h)).neg = decide (h < 0) ∧ Fl.Wv (bitsOf h) = (if h < 0 then -(h + 9223372036854775808) else h) ∧ ((partF (bitsOf h)).kind = 2 ∧ (partF (bitsOf h)).m = 0 ↔ (h = 0 ∨ h = -9223372036854775808)) ∧ Fl.sg (bitsOf h) = decide (h < 0) := by
  have hs : Fl.sg (bitsOf h) = decide (h < 0) := by
    unfold Fl.sg bitsOf
    rw [Bool.eq_iff_iff, beq_iff_eq, decide_eq_true_eq]
    omega
  have hv : (Fl.rg (bitsOf h) : Int) = if h < 0 then h + 9223372036854775808 else h := by
    unfold Fl.rg bitsOf
    split <;> omega
  refine ⟨?_, ?_, ?_, hs⟩
  · rcases Nat.lt_or_ge (Fl.rg (bitsOf h)) 9218868437227405312 with g | g
    · rw [part_fin g]; exact hs
    · rw [part_inf (by omega)]; exact hs
  · unfold Fl.Wv
    rw [hs, hv]
    by_cases g : h < 0
    · rw [if_pos g, if_pos (decide_eq_true g)]
      rw [if_pos g]
    · rw [if_neg g, if_neg (by simp; omega), if_neg g]
  · rcases Nat.lt_or_ge (Fl.rg (bitsOf h)) 9218868437227405312 with g | g
    · rw [part_fin g]
      simp only [true_and]
      have hz : Fl.M (Fl.rg (bitsOf h)) = 0 ↔ Fl.rg (bitsOf h) = 0 := ⟨Fl.M_zero, fun e => by rw [e]; rfl⟩
      constructor
      · intro e
        have := hz.1 (by omega)
        split at hv <;> omega
      · intro e
        have : Fl.rg (bitsOf h) = 0 := by split at hv <;> omega
        rw [hz.2 this]; rfl
    · rw [part_inf (by omega)]
      simp only [show ((1 : Int) = 2) = False by simp, false_and, false_iff]
      split at hv <;> omega
/-- the order -/
theorem below_plain {f g : Int} (f0 : -9223372036854775808 ≤ f) (f1 : f ≤ 9223372036854775807) (g0 : -9223372036854775808 ≤ g) (g1 : g ≤ 9223372036854775807) (hf : Fl.rg (bitsOf f) ≤ 9218868437227405312) (hg : Fl.rg (bitsOf g) ≤ 9218868437227405312) :
    belowR (partF (bitsOf f)) (partF (bitsOf g)) f g = decide (Fl.Wv (bitsOf f) < Fl.Wv (bitsOf g)) := by
  obtain ⟨p1, p2, p3, _⟩ := part_key f f0 f1 hf
  obtain ⟨q1, q2, q3, _⟩ := part_key g g0 g1 hg
  have hz : ((partF (bitsOf f)).kind = 2 ∧ (partF (bitsOf g)).kind = 2 ∧ (partF (bitsOf f)).m = 0 ∧ (partF (bitsOf g)).m = 0) ↔ ((f = 0 ∨ f = -9223372036854775808) ∧ (g = 0 ∨ g = -9223372036854775808)) := by
    rw [← p3, ← q3]
    exact ⟨fun h => ⟨⟨h.1, h.2.2.1⟩, h.2.1, h.2.2.2⟩, fun h => ⟨h.1.1, h.2.1, h.1.2, h.2.2⟩⟩
  unfold belowR
  rw [p1, q1, p2, q2]
  by_cases hzz : (f = 0 ∨ f = -9223372036854775808) ∧ (g = 0 ∨ g = -9223372036854775808)
  · rw [if_pos (hz.2 hzz)]
    symm
    rw [decide_eq_false_iff_not]
    split <;> split <;> omega
  · rw [if_neg (fun h => hzz (hz.1 h))]
    by_cases h1 : f < 0 <;> by_cases h2 : g < 0
    · rw [decide_eq_true h1, decide_eq_true h2, if_neg (by simp), if_pos rfl, if_pos h1, if_pos h2, decide_eq_decide]
      omega
    · rw [decide_eq_true h1, decide_eq_false h2, if_pos (by simp), if_pos h1, if_neg h2]
      symm
      rw [decide_eq_true_eq]
      omega
    · rw [decide_eq_false h1, decide_eq_true h2, if_pos (by simp), if_neg h1, if_pos h2]
      symm
      rw [decide_eq_false_iff_not]
      omega
    · rw [decide_eq_false h1, decide_eq_false h2, if_neg (by simp), if_neg (by simp), if_neg h1, if_neg h2]
theorem cell_bits (a : Int) (a0 : -9223372036854775808 ≤ a) (a1 : a ≤ 9223372036854775807) : cellOf (bitsOf a) = a := by unfold cellOf bitsOf; split <;> omega
theorem both_zero {f g : Int} (f0 : -9223372036854775808 ≤ f) (f1 : f ≤ 9223372036854775807) (g0 : -9223372036854775808 ≤ g) (g1 : g ≤ 9223372036854775807) (hf : Fl.rg (bitsOf f) ≤ 9218868437227405312) (hg : Fl.rg (bitsOf g) ≤ 9218868437227405312) :
    ((partF (bitsOf f)).kind = 2 ∧ (partF (bitsOf g)).kind = 2 ∧ (partF (bitsOf f)).m = 0 ∧ (partF (bitsOf g)).m = 0) ↔ ((f = 0 ∨ f = -9223372036854775808) ∧ (g = 0 ∨ g = -9223372036854775808)) := by
  obtain ⟨_, _, p3, _⟩ := part_key f f0 f1 hf
  obtain ⟨_, _, q3, _⟩ := part_key g g0 g1 hg
  rw [← p3, ← q3]
  exact ⟨fun h => ⟨⟨h.1, h.2.2.1⟩, h.2.1, h.2.2.2⟩, fun h => ⟨h.1.1, h.2.1, h.1.2, h.2.2⟩⟩
theorem lesser_plain {f g : Int} (f0 : -9223372036854775808 ≤ f) (f1 : f ≤ 9223372036854775807) (g0 : -9223372036854775808 ≤ g) (g1 : g ≤ 9223372036854775807) (hf : Fl.rg (bitsOf f) ≤ 9218868437227405312) (hg : Fl.rg (bitsOf g) ≤ 9218868437227405312) (mn : Bool) :
    lesserR (partF (bitsOf f)) (partF (bitsOf g)) f g mn = Rl.resOf (if mn then Rl.minOf (bitsOf f) (bitsOf g) else Rl.maxOf (bitsOf f) (bitsOf g)) := by
  obtain ⟨p1, p2, p3, p4⟩ := part_key f f0 f1 hf
  obtain ⟨q1, q2, q3, q4⟩ := part_key g g0 g1 hg
  have hz := both_zero f0 f1 g0 g1 hf hg
  have hF := res_some hf
  have hG := res_some hg
  rw [cell_bits f f0 f1] at hF
  rw [cell_bits g g0 g1] at hG
  unfold lesserR Rl.minOf Rl.maxOf
  rw [below_plain f0 f1 g0 g1 hf hg, Fl.order_W hf hg, p1, q1, p2, q2, p4]
  by_cases hzz : (f = 0 ∨ f = -9223372036854775808) ∧ (g = 0 ∨ g = -9223372036854775808)
  · rw [if_pos (hz.2 hzz)]
    obtain ⟨h1, h2⟩ := hzz
    clear hz p1 p2 p3 p4 q1 q2 q3 q4 hf hg f0 f1 g0 g1
    rcases h1 with rfl | rfl <;> rcases h2 with rfl | rfl <;> cases mn <;> first | exact hF.symm | exact hG.symm
  · rw [if_neg (fun h => hzz (hz.1 h))]
    obtain ⟨F, hFF⟩ : ∃ F, (if f < 0 then -(f + 9223372036854775808) else f) = F := ⟨_, rfl⟩
    obtain ⟨G, hGG⟩ : ∃ G, (if g < 0 then -(g + 9223372036854775808) else g) = G := ⟨_, rfl⟩
    rw [hFF, hGG]
    rcases Int.lt_trichotomy F G with h | h | h
    · rw [decide_eq_true h, Int.compare_eq_lt.2 h]
      cases mn
      · exact hG.symm
      · exact hF.symm
    · have hfg : f = g := by
        split at hFF <;> split at hGG <;> omega
      subst hfg
      rw [decide_eq_false (by omega), Int.compare_eq_eq.2 h]
      cases mn
      · simp only [Bool.false_eq_true, ite_self]
        exact hF.symm
      · simp only [ite_self]
        exact hF.symm
    · rw [decide_eq_false (by omega), Int.compare_eq_gt.2 h]
      cases mn
      · exact hF.symm
      · exact hG.symm
theorem less_plain {f g : Int} (f0 : -9223372036854775808 ≤ f) (f1 : f ≤ 9223372036854775807) (g0 : -9223372036854775808 ≤ g) (g1 : g ≤ 9223372036854775807) (hf : Fl.rg (bitsOf f) ≤ 9218868437227405312) (hg : Fl.rg (bitsOf g) ≤ 9218868437227405312) :
    belowR (partF (bitsOf f)) (partF (bitsOf g)) f g = (Ieee.double.order (bitsOf f) (bitsOf g) == some .lt) ∧ (!belowR (partF (bitsOf f)) (partF (bitsOf g)) f g && !belowR (partF (bitsOf g)) (partF (bitsOf f)) g f) = (Ieee.double.order (bitsOf f) (bitsOf g) == some .eq) := by
  rw [below_plain f0 f1 g0 g1 hf hg, below_plain g0 g1 f0 f1 hg hf, Fl.order_W hf hg]
  generalize Fl.Wv (bitsOf f) = F
  generalize Fl.Wv (bitsOf g) = G
  rcases Int.lt_trichotomy F G with h | h | h
  · rw [decide_eq_true h, Int.compare_eq_lt.2 h]
    exact ⟨rfl, rfl⟩
  · subst h
    rw [decide_eq_false (by omega), Int.compare_eq_eq.2 rfl]
    exact ⟨rfl, rfl⟩
  · rw [decide_eq_true h, decide_eq_false (by omega), Int.compare_eq_gt.2 h]
    exact ⟨rfl, rfl⟩
/-- with none of them nothing is told -/
theorem none_sum {x y : Nat} (h : 9218868437227405312 < Fl.rg x ∨ 9218868437227405312 < Fl.rg y) : Ieee.double.add x y = none ∧ Ieee.double.sub x y = none ∧ Ieee.double.mul x y = none ∧ Ieee.double.div x y = none ∧ Ieee.double.order x y = none := by
  unfold Ieee.Format.add Ieee.Format.sub Ieee.Format.mul Ieee.Format.div Ieee.Format.order
  rcases h with h | h
  · rw [Fl.read_nan h]
    generalize Ieee.double.read y = d
    cases d <;> exact ⟨rfl, rfl, rfl, rfl, rfl⟩
  · rw [Fl.read_nan h]
    generalize Ieee.double.read x = d
    cases d <;> exact ⟨rfl, rfl, rfl, rfl, rfl⟩
theorem none_min {x y : Nat} (h : 9218868437227405312 < Fl.rg x ∨ 9218868437227405312 < Fl.rg y) : Rl.minOf x y = none ∧ Rl.maxOf x y = none := by
  unfold Rl.minOf Rl.maxOf
  rw [(none_sum h).2.2.2.2]
  exact ⟨rfl, rfl⟩
theorem sub_add {x y : Nat} (hy : y < 18446744073709551616) (h : Fl.rg y ≤ 9218868437227405312) : Ieee.double.sub x y = Ieee.double.add x (Rl.negOf y) := by
  unfold Ieee.Format.sub Ieee.Format.add
  rw [read_neg hy h]
end Rn
end Go.Proofs.YtkbchpaofmlhgaaGreatDoor

/- rhytonref04.Two's sums, products, quotients, minima and maxima are package real's. -/
namespace Go.Proofs.YtkbchpaofmlhgaaGreatDoor
open Go.RowKit
namespace Rn

theorem word_inf (s : Bool) : cellOf (Ieee.double.word s 9218868437227405312) = Rl.resOf (some (Ieee.double.word s Ieee.double.infRung)) := by
  rw [Fl.c_inf, res_some (Fl.word_le s (by omega)).1]
theorem m_bne {m : Nat} (h : 0 < m) : (((m : Nat) : Int) == 0) = false := by rw [beq_eq_false_iff_ne]; omega
theorem sum_real (x y : Nat) (hx : Fl.rg x ≤ 9218868437227405312) (hy : Fl.rg y ≤ 9218868437227405312) (w : World) :
    Calls Tryz.prog 59 #[.agg (partF x).cells, .agg (partF y).cells] w fun e w' => e = .returned (.int .i64 (Rl.resOf (Ieee.double.add x y))) ∧ Touch [] w w' := by
  unfold Ieee.Format.add
  rcases Nat.lt_or_ge (Fl.rg x) 9218868437227405312 with h1 | h1
  · obtain ⟨ea, ra, pa, ea0, ea1, na⟩ := read_lt h1
    rcases Nat.lt_or_ge (Fl.rg y) 9218868437227405312 with h2 | h2
    · obtain ⟨eb, rb, pb, eb0, eb1, nb⟩ := read_lt h2
      rw [pa, pb, ra, rb]
      have ma := Fl.M_lt (Fl.rg x)
      have mb := Fl.M_lt (Fl.rg y)
      by_cases h : ea < eb
      · refine (sum_fin _ _ _ _ ea eb ma mb ea0 ea1 eb0 eb1 na nb _ _ _ _ _ _ (.inl ⟨h, rfl, rfl, rfl, rfl, rfl, rfl⟩) w).mono ?_
        rintro _ w' ⟨v, hv, rfl, t⟩
        refine ⟨?_, t⟩
        rw [add_plain hv (by omega) (fun _ => nb (by omega)) ma, Fl.sum_comm]
      · refine (sum_fin _ _ _ _ ea eb ma mb ea0 ea1 eb0 eb1 na nb _ _ _ _ _ _ (.inr ⟨h, rfl, rfl, rfl, rfl, rfl, rfl⟩) w).mono ?_
        rintro _ w' ⟨v, hv, rfl, t⟩
        refine ⟨?_, t⟩
        rw [add_plain hv (by omega) (fun _ => na (by omega)) mb]
    · rw [pa, part_inf (x := y) (by omega), ra, Fl.read_inf (w := y) (by omega)]
      refine (sum_inf_b _ _ _ _ _ _ w).mono ?_
      rintro _ w' ⟨rfl, t⟩
      exact ⟨by rw [word_inf]; rfl, t⟩
  · rcases Nat.lt_or_ge (Fl.rg y) 9218868437227405312 with h2 | h2
    · obtain ⟨eb, rb, pb, eb0, eb1, nb⟩ := read_lt h2
      rw [pb, part_inf (x := x) (by omega), rb, Fl.read_inf (w := x) (by omega)]
      refine (sum_inf_a _ _ _ _ _ _ w).mono ?_
      rintro _ w' ⟨rfl, t⟩
      exact ⟨by rw [word_inf]; rfl, t⟩
    · rw [part_inf (x := y) (by omega), part_inf (x := x) (by omega), Fl.read_inf (w := y) (by omega), Fl.read_inf (w := x) (by omega)]
      refine (sum_inf_ab _ _ _ _ _ _ w).mono ?_
      rintro _ w' ⟨rfl, t⟩
      refine ⟨?_, t⟩
      unfold Ieee.Datum.sum
      by_cases h : Fl.sg x = Fl.sg y
      · simp only [if_pos h]
        rw [word_inf]; rfl
      · simp only [if_neg h]
        rfl
theorem xor_bne (a b : Bool) : (a ^^ b) = (a != b) := by cases a <;> cases b <;> rfl
theorem product_real (x y : Nat) (hx : Fl.rg x ≤ 9218868437227405312) (hy : Fl.rg y ≤ 9218868437227405312) (w : World) :
    Calls Tryz.prog 60 #[.agg (partF x).cells, .agg (partF y).cells] w fun e w' => e = .returned (.int .i64 (Rl.resOf (Ieee.double.mul x y))) ∧ Touch [] w w' := by
  unfold Ieee.Format.mul
  rcases Nat.lt_or_ge (Fl.rg x) 9218868437227405312 with h1 | h1
  · obtain ⟨ea, ra, pa, ea0, ea1, na⟩ := read_lt h1
    rcases Nat.lt_or_ge (Fl.rg y) 9218868437227405312 with h2 | h2
    · obtain ⟨eb, rb, pb, eb0, eb1, nb⟩ := read_lt h2
      rw [pa, pb, ra, rb]
      refine (product_fin _ _ _ _ ea eb (Fl.M_lt _) (Fl.M_lt _) (by omega) (by omega) (by omega) (by omega) w).mono ?_
      rintro _ w' ⟨rfl, t⟩
      refine ⟨?_, t⟩
      rw [Fl.Sr_exact, ← res_some (Fl.nearest_rg _ _ _).1, ← xor_bne]
      rfl
    · rw [pa, part_inf (x := y) (by omega), ra, Fl.read_inf (w := y) (by omega)]
      rcases Nat.eq_zero_or_pos (Fl.M (Fl.rg x)) with h0 | h0
      · rw [h0]
        exact prod_no_b _ _ _ _ _ w
      · refine (prod_inf_b _ _ _ _ _ _ (m_bne h0) w).mono ?_
        rintro _ w' ⟨rfl, t⟩
        refine ⟨?_, t⟩
        unfold Ieee.Datum.product
        simp only [if_neg (show ¬ Fl.M (Fl.rg x) = 0 by omega)]
        rw [word_inf]
        cases Fl.sg x <;> cases Fl.sg y <;> rfl
  · rcases Nat.lt_or_ge (Fl.rg y) 9218868437227405312 with h2 | h2
    · obtain ⟨eb, rb, pb, eb0, eb1, nb⟩ := read_lt h2
      rw [pb, part_inf (x := x) (by omega), rb, Fl.read_inf (w := x) (by omega)]
      rcases Nat.eq_zero_or_pos (Fl.M (Fl.rg y)) with h0 | h0
      · rw [h0]
        exact prod_no_a _ _ _ _ _ w
      · refine (prod_inf_a _ _ _ _ _ _ (m_bne h0) w).mono ?_
        rintro _ w' ⟨rfl, t⟩
        refine ⟨?_, t⟩
        unfold Ieee.Datum.product
        simp only [if_neg (show ¬ Fl.M (Fl.rg y) = 0 by omega)]
        rw [word_inf]
        cases Fl.sg x <;> cases Fl.sg y <;> rfl
    · rw [part_inf (x := y) (by omega), part_inf (x := x) (by omega), Fl.read_inf (w := y) (by omega), Fl.read_inf (w := x) (by omega)]
      refine (prod_inf_ab _ _ _ _ _ _ w).mono ?_
      rintro _ w' ⟨rfl, t⟩
      refine ⟨?_, t⟩
      rw [word_inf]
      cases Fl.sg x <;> cases Fl.sg y <;> rfl
theorem quotient_real (x y : Nat) (hx : Fl.rg x ≤ 9218868437227405312) (hy : Fl.rg y ≤ 9218868437227405312) (w : World) :
    Calls Tryz.prog 61 #[.agg (partF x).cells, .agg (partF y).cells] w fun e w' => e = .returned (.int .i64 (Rl.resOf (Ieee.double.div x y))) ∧ Touch [] w w' := by
  unfold Ieee.Format.div
  rcases Nat.lt_or_ge (Fl.rg x) 9218868437227405312 with h1 | h1
  · obtain ⟨ea, ra, pa, ea0, ea1, na⟩ := read_lt h1
    rcases Nat.lt_or_ge (Fl.rg y) 9218868437227405312 with h2 | h2
    · obtain ⟨eb, rb, pb, eb0, eb1, nb⟩ := read_lt h2
      rw [pa, pb, ra, rb]
      rcases Nat.eq_zero_or_pos (Fl.M (Fl.rg y)) with h0 | h0
      · rw [h0]
        rcases Nat.eq_zero_or_pos (Fl.M (Fl.rg x)) with h3 | h3
        · rw [h3]
          exact quo_no_zero _ _ _ _ w
        · refine (quo_by_zero _ _ _ _ _ (m_bne h3) w).mono ?_
          rintro _ w' ⟨rfl, t⟩
          refine ⟨?_, t⟩
          unfold Ieee.Datum.quotient
          simp only [if_neg (show ¬ Fl.M (Fl.rg x) = 0 by omega), if_true]
          rw [word_inf]
          cases Fl.sg x <;> cases Fl.sg y <;> rfl
      · refine (quotient_fin _ _ _ _ ea eb (Fl.M_lt _) h0 (Fl.M_lt _) (by omega) (by omega) (by omega) (by omega) w).mono ?_
        rintro _ w' ⟨v, hv, rfl, t⟩
        refine ⟨?_, t⟩
        rw [quo_plain hv (Fl.M_lt _) h0 (Fl.M_lt _)]
        rfl
    · rw [pa, part_inf (x := y) (by omega), ra, Fl.read_inf (w := y) (by omega)]
      refine (quo_by_inf _ _ _ _ _ _ w).mono ?_
      rintro _ w' ⟨rfl, t⟩
      refine ⟨?_, t⟩
      rw [← res_some (Fl.word_le _ (by omega)).1, ← Fl.nearest_zero _ 0, ← xor_bne]
      rfl
  · rcases Nat.lt_or_ge (Fl.rg y) 9218868437227405312 with h2 | h2
    · obtain ⟨eb, rb, pb, eb0, eb1, nb⟩ := read_lt h2
      rw [pb, part_inf (x := x) (by omega), rb, Fl.read_inf (w := x) (by omega)]
      have hv : cellOf (Ieee.double.word (Fl.sg x != Fl.sg y) 9218868437227405312) = Rl.resOf ((Ieee.Datum.quotient (Ieee.double.fractionBits + 2) (.infinity (Fl.sg x)) (.number (Fl.sg y) (Fl.M (Fl.rg y)) eb)).map Ieee.double.write) := by
        rw [word_inf]
        cases Fl.sg x <;> cases Fl.sg y <;> rfl
      rw [← hv]
      rcases Nat.eq_zero_or_pos (Fl.M (Fl.rg y)) with h0 | h0
      · rw [h0]
        exact quo_inf0 _ _ _ _ _ w
      · exact quo_inf _ _ _ _ _ _ (m_bne h0) w
    · rw [part_inf (x := y) (by omega), part_inf (x := x) (by omega), Fl.read_inf (w := y) (by omega), Fl.read_inf (w := x) (by omega)]
      exact quo_no_inf _ _ _ _ _ _ w

/-- which it is -/
theorem part_kind (x : Nat) : (9218868437227405312 < Fl.rg x ∧ ((partF x).kind == 0) = true) ∨ (Fl.rg x ≤ 9218868437227405312 ∧ ((partF x).kind == 0) = false) := by
  rcases Nat.lt_or_ge 9218868437227405312 (Fl.rg x) with h | h
  · obtain ⟨m, hm⟩ := part_nan h
    exact .inl ⟨h, by rw [hm]; rfl⟩
  · refine .inr ⟨h, ?_⟩
    rcases Nat.lt_or_ge (Fl.rg x) 9218868437227405312 with g | g
    · rw [part_fin g]; rfl
    · rw [part_inf (by omega)]; rfl
theorem bits_lt64 (a : Int) : bitsOf a < 18446744073709551616 := by unfold bitsOf; omega
section
variable (f g : Int) (f0 : -9223372036854775808 ≤ f) (f1 : f ≤ 9223372036854775807) (g0 : -9223372036854775808 ≤ g) (g1 : g ≤ 9223372036854775807) (w : World)
include f0 f1 g0 g1
theorem real_add : Calls Tryz.prog 30 #[.int .i64 3, .int .i64 f, .int .i64 g] w fun e w' => e = .returned (.tuple #[.int .i64 (Rl.resOf (floatBits .add .f64 (bitsOf f) (bitsOf g))), .int .i64 0]) ∧ Touch [] w w' := by
  show Calls _ _ _ _ fun e w' => e = .returned (.tuple #[.int .i64 (Rl.resOf (Ieee.double.add (bitsOf f) (bitsOf g))), .int .i64 0]) ∧ Touch [] w w'
  have hO1 := open_any f f0 f1
  have hO2 := open_any g g0 g1
  rcases part_kind (bitsOf f) with ⟨h1, k1⟩ | ⟨h1, k1⟩
  · rw [(none_sum (.inl h1)).1]
    exact two_none3 f g _ _ _ _ _ _ _ _ (.inl k1) w hO1 hO2
  · rcases part_kind (bitsOf g) with ⟨h2, k2⟩ | ⟨h2, k2⟩
    · rw [(none_sum (.inr h2)).1]
      exact two_none3 f g _ _ _ _ _ _ _ _ (.inr ⟨k1, k2⟩) w hO1 hO2
    · exact two_sum f g _ _ _ _ _ _ _ _ _ k1 k2 w hO1 hO2 (sum_real _ _ h1 h2)
theorem real_sub : Calls Tryz.prog 30 #[.int .i64 4, .int .i64 f, .int .i64 g] w fun e w' => e = .returned (.tuple #[.int .i64 (Rl.resOf (floatBits .sub .f64 (bitsOf f) (bitsOf g))), .int .i64 0]) ∧ Touch [] w w' := by
  show Calls _ _ _ _ fun e w' => e = .returned (.tuple #[.int .i64 (Rl.resOf (Ieee.double.sub (bitsOf f) (bitsOf g))), .int .i64 0]) ∧ Touch [] w w'
  have hO1 := open_any f f0 f1
  have hO2 := open_any g g0 g1
  rcases part_kind (bitsOf f) with ⟨h1, k1⟩ | ⟨h1, k1⟩
  · rw [(none_sum (.inl h1)).2.1]
    exact two_none4 f g _ _ _ _ _ _ _ _ (.inl k1) w hO1 hO2
  · rcases part_kind (bitsOf g) with ⟨h2, k2⟩ | ⟨h2, k2⟩
    · rw [(none_sum (.inr h2)).2.1]
      exact two_none4 f g _ _ _ _ _ _ _ _ (.inr ⟨k1, k2⟩) w hO1 hO2
    · have hS := sum_real (bitsOf f) (Rl.negOf (bitsOf g)) h1 (by rw [Rl.rg_neg]; exact h2)
      rw [← sub_add (bits_lt64 g) h2, part_neg (bits_lt64 g) h2] at hS
      exact two_diff f g _ _ _ _ _ _ _ _ _ k1 k2 w hO1 hO2 hS
theorem real_mul : Calls Tryz.prog 30 #[.int .i64 5, .int .i64 f, .int .i64 g] w fun e w' => e = .returned (.tuple #[.int .i64 (Rl.resOf (floatBits .mul .f64 (bitsOf f) (bitsOf g))), .int .i64 0]) ∧ Touch [] w w' := by
  show Calls _ _ _ _ fun e w' => e = .returned (.tuple #[.int .i64 (Rl.resOf (Ieee.double.mul (bitsOf f) (bitsOf g))), .int .i64 0]) ∧ Touch [] w w'
  have hO1 := open_any f f0 f1
  have hO2 := open_any g g0 g1
  rcases part_kind (bitsOf f) with ⟨h1, k1⟩ | ⟨h1, k1⟩
  · rw [(none_sum (.inl h1)).2.2.1]
    exact two_none5 f g _ _ _ _ _ _ _ _ (.inl k1) w hO1 hO2
  · rcases part_kind (bitsOf g) with ⟨h2, k2⟩ | ⟨h2, k2⟩
    · rw [(none_sum (.inr h2)).2.2.1]
      exact two_none5 f g _ _ _ _ _ _ _ _ (.inr ⟨k1, k2⟩) w hO1 hO2
    · exact two_prod f g _ _ _ _ _ _ _ _ _ k1 k2 w hO1 hO2 (product_real _ _ h1 h2)
theorem real_div : Calls Tryz.prog 30 #[.int .i64 6, .int .i64 f, .int .i64 g] w fun e w' => e = .returned (.tuple #[.int .i64 (Rl.resOf (floatBits .quo .f64 (bitsOf f) (bitsOf g))), .int .i64 0]) ∧ Touch [] w w' := by
  show Calls _ _ _ _ fun e w' => e = .returned (.tuple #[.int .i64 (Rl.resOf (Ieee.double.div (bitsOf f) (bitsOf g))), .int .i64 0]) ∧ Touch [] w w'
  have hO1 := open_any f f0 f1
  have hO2 := open_any g g0 g1
  rcases part_kind (bitsOf f) with ⟨h1, k1⟩ | ⟨h1, k1⟩
  · rw [(none_sum (.inl h1)).2.2.2.1]
    exact two_none6 f g _ _ _ _ _ _ _ _ (.inl k1) w hO1 hO2
  · rcases part_kind (bitsOf g) with ⟨h2, k2⟩ | ⟨h2, k2⟩
    · rw [(none_sum (.inr h2)).2.2.2.1]
      exact two_none6 f g _ _ _ _ _ _ _ _ (.inr ⟨k1, k2⟩) w hO1 hO2
    · exact two_quo f g _ _ _ _ _ _ _ _ _ k1 k2 w hO1 hO2 (quotient_real _ _ h1 h2)
theorem real_min : Calls Tryz.prog 30 #[.int .i64 7, .int .i64 f, .int .i64 g] w fun e w' => e = .returned (.tuple #[.int .i64 (Rl.resOf (Rl.minOf (bitsOf f) (bitsOf g))), .int .i64 0]) ∧ Touch [] w w' := by
  have hO1 := open_any f f0 f1
  have hO2 := open_any g g0 g1
  rcases part_kind (bitsOf f) with ⟨h1, k1⟩ | ⟨h1, k1⟩
  · rw [(none_min (.inl h1)).1]
    exact two_none7 f g _ _ _ _ _ _ _ _ (.inl k1) w hO1 hO2
  · rcases part_kind (bitsOf g) with ⟨h2, k2⟩ | ⟨h2, k2⟩
    · rw [(none_min (.inr h2)).1]
      exact two_none7 f g _ _ _ _ _ _ _ _ (.inr ⟨k1, k2⟩) w hO1 hO2
    · have hl := lesser_plain f0 f1 g0 g1 h1 h2 true
      have hS := fun W => lesser_any (partF (bitsOf f)).kind (partF (bitsOf g)).kind (partF (bitsOf f)).m (partF (bitsOf g)).m (partF (bitsOf f)).e (partF (bitsOf g)).e (partF (bitsOf f)).neg (partF (bitsOf g)).neg f g true W
      rw [show Rl.resOf (Rl.minOf (bitsOf f) (bitsOf g)) = _ from hl.symm]
      exact two_lesser7 f g _ _ _ _ _ _ _ _ _ k1 k2 w hO1 hO2 hS
theorem real_max : Calls Tryz.prog 30 #[.int .i64 8, .int .i64 f, .int .i64 g] w fun e w' => e = .returned (.tuple #[.int .i64 (Rl.resOf (Rl.maxOf (bitsOf f) (bitsOf g))), .int .i64 0]) ∧ Touch [] w w' := by
  have hO1 := open_any f f0 f1
  have hO2 := open_any g g0 g1
  rcases part_kind (bitsOf f) with ⟨h1, k1⟩ | ⟨h1, k1⟩
  · rw [(none_min (.inl h1)).2]
    exact two_none8 f g _ _ _ _ _ _ _ _ (.inl k1) w hO1 hO2
  · rcases part_kind (bitsOf g) with ⟨h2, k2⟩ | ⟨h2, k2⟩
    · rw [(none_min (.inr h2)).2]
      exact two_none8 f g _ _ _ _ _ _ _ _ (.inr ⟨k1, k2⟩) w hO1 hO2
    · have hl := lesser_plain f0 f1 g0 g1 h1 h2 false
      have hS := fun W => lesser_any (partF (bitsOf f)).kind (partF (bitsOf g)).kind (partF (bitsOf f)).m (partF (bitsOf g)).m (partF (bitsOf f)).e (partF (bitsOf g)).e (partF (bitsOf f)).neg (partF (bitsOf g)).neg f g false W
      rw [show Rl.resOf (Rl.maxOf (bitsOf f) (bitsOf g)) = _ from hl.symm]
      exact two_lesser8 f g _ _ _ _ _ _ _ _ _ k1 k2 w hO1 hO2 hS
end
end Rn
end Go.Proofs.YtkbchpaofmlhgaaGreatDoor

/- rhytonref04.Two's comparisons are package real's. -/
namespace Go.Proofs.YtkbchpaofmlhgaaGreatDoor
open Go.RowKit
namespace Rn

section
variable (f g : Int) (f0 : -9223372036854775808 ≤ f) (f1 : f ≤ 9223372036854775807) (g0 : -9223372036854775808 ≤ g) (g1 : g ≤ 9223372036854775807) (w : World)
include f0 f1 g0 g1
theorem real_less : Calls Tryz.prog 30 #[.int .i64 9, .int .i64 f, .int .i64 g] w fun e w' => e = .returned (.tuple #[.int .i64 (Rl.truthC (Ieee.double.order (bitsOf f) (bitsOf g) == some .lt)), .int .i64 0]) ∧ Touch [] w w' := by
  have hO1 := open_any f f0 f1
  have hO2 := open_any g g0 g1
  rcases part_kind (bitsOf f) with ⟨h1, k1⟩ | ⟨h1, k1⟩
  · rw [(none_sum (.inl h1)).2.2.2.2]
    exact two_none9 f g _ _ _ _ _ _ _ _ (.inl k1) w hO1 hO2
  · rcases part_kind (bitsOf g) with ⟨h2, k2⟩ | ⟨h2, k2⟩
    · rw [(none_sum (.inr h2)).2.2.2.2]
      exact two_none9 f g _ _ _ _ _ _ _ _ (.inr ⟨k1, k2⟩) w hO1 hO2
    · rw [← (less_plain f0 f1 g0 g1 h1 h2).1]
      exact two_less f g _ _ _ _ _ _ _ _ _ k1 k2 w hO1 hO2 (fun W => below_any (partF (bitsOf f)).kind (partF (bitsOf g)).kind (partF (bitsOf f)).m (partF (bitsOf g)).m (partF (bitsOf f)).e (partF (bitsOf g)).e (partF (bitsOf f)).neg (partF (bitsOf g)).neg f g W)
theorem real_equal : Calls Tryz.prog 30 #[.int .i64 10, .int .i64 f, .int .i64 g] w fun e w' => e = .returned (.tuple #[.int .i64 (Rl.truthC (Ieee.double.order (bitsOf f) (bitsOf g) == some .eq)), .int .i64 0]) ∧ Touch [] w w' := by
  have hO1 := open_any f f0 f1
  have hO2 := open_any g g0 g1
  rcases part_kind (bitsOf f) with ⟨h1, k1⟩ | ⟨h1, k1⟩
  · rw [(none_sum (.inl h1)).2.2.2.2]
    exact two_none10 f g _ _ _ _ _ _ _ _ (.inl k1) w hO1 hO2
  · rcases part_kind (bitsOf g) with ⟨h2, k2⟩ | ⟨h2, k2⟩
    · rw [(none_sum (.inr h2)).2.2.2.2]
      exact two_none10 f g _ _ _ _ _ _ _ _ (.inr ⟨k1, k2⟩) w hO1 hO2
    · rw [← (less_plain f0 f1 g0 g1 h1 h2).2]
      exact two_equal f g _ _ _ _ _ _ _ _ _ _ k1 k2 w hO1 hO2 (fun W => below_any (partF (bitsOf f)).kind (partF (bitsOf g)).kind (partF (bitsOf f)).m (partF (bitsOf g)).m (partF (bitsOf f)).e (partF (bitsOf g)).e (partF (bitsOf f)).neg (partF (bitsOf g)).neg f g W)
        (fun W => below_any (partF (bitsOf g)).kind (partF (bitsOf f)).kind (partF (bitsOf g)).m (partF (bitsOf f)).m (partF (bitsOf g)).e (partF (bitsOf f)).e (partF (bitsOf g)).neg (partF (bitsOf f)).neg g f W)
end
end Rn
end Go.Proofs.YtkbchpaofmlhgaaGreatDoor
