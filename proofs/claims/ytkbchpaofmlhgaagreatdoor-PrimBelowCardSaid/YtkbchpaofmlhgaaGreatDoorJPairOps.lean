import Derived.Test.YtkbchpaofmlhgaaGreatDoorJPairSem
import Derived.Test.YtkbchpaofmlhgaaGreatDoorJPairT2
/- Operations of prim's map of pairs, each at any cells: its functions. Printed by pairops.py. -/
namespace Go.Proofs.YtkbchpaofmlhgaaGreatDoor
open Go.RowKit

theorem b_any (ad n c : Nat) (x y : Int) (w : World) (hn : 4 ≤ n) (h0 : w.cell? ⟨ad, 2, none⟩ = some (.int .i64 x)) (h1 : w.cell? ⟨ad, 3, none⟩ = some (.int .i64 y)) :
    Calls Tryz.prog 109 #[.slice (some ⟨ad, 0, none⟩) n c] w fun e w' => e = .returned (.agg #[.int .i64 x, .int .i64 y]) ∧ Touch [] w w' := by
  have bR := Blk.new w 38 #[.int .i64 0, .int .i64 0]
  have e1 : (3 : Int) < n := by omega
  have e0 : (2 : Int) < n := by omega
  have tR := (Touch.refl [] w).alloc (.cells #[.int .i64 0, .int .i64 0] 38)
  have x0 := cell_quiet tR.drew h0
  have x1 := cell_quiet tR.drew h1
  go_enter Tryz.func109, Tryz.ntmps109
  have bD := bR.drew
  have f0 := bD.frozen 0
  have f1 := bD.frozen 1
  have r0 := bD.cell 0
  have r1 := bD.cell 1
  clear h0 h1 bR tR bD
  go_upto_region 1 with fail
  go_region
  all_goals go_wp2_with fail
  all_goals go_returns
  all_goals exact ⟨rfl, ((Touch.refl [] w).alloc _).drew⟩
theorem pair_eqlT (a b c d : Int) (w : World) : (binOp .eql 38 (.agg #[.int .i64 a, .int .i64 b]) (.agg #[.int .i64 c, .int .i64 d])).run Tryz.prog w = .ok (.bool (a == c && b == d)) w := by
  rw [run_eql_struct, run_equalIn_agg _ _ _ _ _ pair_struct pair_stood]
  simp only [Program.fieldsOf, Tryz.underlying38]
  go_simp
  repeat' split
  all_goals simp_all
set_option maxHeartbeats 1000000 in
theorem ps3 (W : World) (ad c : Nat) (q0 q1 q2 q3 : Int) (c0 : W.cell? ⟨ad, 0, none⟩ = some (.int .i64 q0)) (c1 : W.cell? ⟨ad, 1, none⟩ = some (.int .i64 q1)) (c2 : W.cell? ⟨ad, 2, none⟩ = some (.int .i64 q2)) (c3 : W.cell? ⟨ad, 3, none⟩ = some (.int .i64 q3))  : Calls Tryz.prog 106 #[.slice (some ⟨ad, 0, none⟩) 4 c] W fun e w' => e = .returned (pairW (addP (q0, q1) (q2, q3))) ∧ Touch [] W w' := by
  have hA := fun w (t : Touch [] W w) => a_any ad 4 c q0 q1 w (by decide) (cell_quiet t c0) (cell_quiet t c1)
  have hB := fun w (t : Touch [] W w) => b_any ad 4 c q2 q3 w (by decide) (cell_quiet t c2) (cell_quiet t c3)
  have hO := fun w => Add_any (q0, q1) (q2, q3) w
  obtain ⟨⟨x0, y0⟩, hr0⟩ : ∃ r, addP (q0, q1) (q2, q3) = r := ⟨_, rfl⟩
  rw [hr0] at hO ⊢
  clear hr0
  unfold pairW at hO ⊢
  have H0 := Lib.hid (And.intro (Blk.new W 38 #[.int .i64 0, .int .i64 0]) ((Touch.refl [] W).alloc (.cells #[.int .i64 0, .int .i64 0] 38)))
  clear c0 c1 c2 c3
  go_enter Tryz.func106, Tryz.ntmps106
  go_wp2_with fail
  refine (hA _ H0.out.2).mono ?_
  rintro _ w1 ⟨rfl, t1⟩
  have H1 := Lib.hid (And.intro (H0.out.1.touch t1 (by simp)) (H0.out.2.trans t1 (by simp)))
  clear t1 hA
  go_wp2_with fail
  refine (hB _ H1.out.2).mono ?_
  rintro _ w2 ⟨rfl, t2⟩
  have H2 := Lib.hid (And.intro (H1.out.1.touch t2 (by simp)) (H1.out.2.trans t2 (by simp)))
  clear t2 hB
  go_wp2_with fail
  refine (hO _).mono ?_
  rintro _ w3 ⟨rfl, t3⟩
  have H3 := Lib.hid (And.intro (H2.out.1.touch t3 (by simp)) (H2.out.2.trans t3 (by simp)))
  clear t3 hO
  have b0 := H3.out.1
  have e0 := b0.cell 0
  have e1 := b0.cell 1
  have f0 := b0.frozen 0
  have f1 := b0.frozen 1
  have HB := Lib.hid b0
  clear b0
  go_wp2_with fail
  obtain ⟨z0, z1⟩ := two_back HB.out (.int .i64 x0) (.int .i64 y0)
  refine bodyPost_ret (by simp [results, Tryz.results106, go_sem, z0, z1]; try rfl) rfl ⟨rfl, ?_⟩
  exact (H3.out.2.setCell (.inr (Nat.le_refl _)) _).setCell (.inr (Nat.le_refl _)) _
set_option maxHeartbeats 1000000 in
theorem ps4 (W : World) (ad c : Nat) (q0 q1 q2 q3 : Int) (c0 : W.cell? ⟨ad, 0, none⟩ = some (.int .i64 q0)) (c1 : W.cell? ⟨ad, 1, none⟩ = some (.int .i64 q1)) (c2 : W.cell? ⟨ad, 2, none⟩ = some (.int .i64 q2)) (c3 : W.cell? ⟨ad, 3, none⟩ = some (.int .i64 q3))  : Calls Tryz.prog 110 #[.slice (some ⟨ad, 0, none⟩) 4 c] W fun e w' => e = .returned (pairW (addP (q0, q1) (negP (q2, q3)))) ∧ Touch [] W w' := by
  have hA := fun w (t : Touch [] W w) => a_any ad 4 c q0 q1 w (by decide) (cell_quiet t c0) (cell_quiet t c1)
  have hB := fun w (t : Touch [] W w) => b_any ad 4 c q2 q3 w (by decide) (cell_quiet t c2) (cell_quiet t c3)
  have hN := fun w => Neg_any (q2, q3) w
  have hO := fun w => Add_any (q0, q1) (negP (q2, q3)) w
  obtain ⟨⟨x1, y1⟩, hr1⟩ : ∃ r, negP (q2, q3) = r := ⟨_, rfl⟩
  rw [hr1] at hN hO ⊢
  clear hr1
  obtain ⟨⟨x0, y0⟩, hr0⟩ : ∃ r, addP (q0, q1) (x1, y1) = r := ⟨_, rfl⟩
  rw [hr0] at hO ⊢
  clear hr0
  unfold pairW at hN hO ⊢
  have H0 := Lib.hid (And.intro (Blk.new W 38 #[.int .i64 0, .int .i64 0]) ((Touch.refl [] W).alloc (.cells #[.int .i64 0, .int .i64 0] 38)))
  clear c0 c1 c2 c3
  go_enter Tryz.func110, Tryz.ntmps110
  go_wp2_with fail
  refine (hA _ H0.out.2).mono ?_
  rintro _ w1 ⟨rfl, t1⟩
  have H1 := Lib.hid (And.intro (H0.out.1.touch t1 (by simp)) (H0.out.2.trans t1 (by simp)))
  clear t1 hA
  go_wp2_with fail
  refine (hB _ H1.out.2).mono ?_
  rintro _ w2 ⟨rfl, t2⟩
  have H2 := Lib.hid (And.intro (H1.out.1.touch t2 (by simp)) (H1.out.2.trans t2 (by simp)))
  clear t2 hB
  go_wp2_with fail
  refine (hN _).mono ?_
  rintro _ w3 ⟨rfl, t3⟩
  have H3 := Lib.hid (And.intro (H2.out.1.touch t3 (by simp)) (H2.out.2.trans t3 (by simp)))
  clear t3 hN
  go_wp2_with fail
  refine (hO _).mono ?_
  rintro _ w4 ⟨rfl, t4⟩
  have H4 := Lib.hid (And.intro (H3.out.1.touch t4 (by simp)) (H3.out.2.trans t4 (by simp)))
  clear t4 hO
  have b0 := H4.out.1
  have e0 := b0.cell 0
  have e1 := b0.cell 1
  have f0 := b0.frozen 0
  have f1 := b0.frozen 1
  have HB := Lib.hid b0
  clear b0
  go_wp2_with fail
  obtain ⟨z0, z1⟩ := two_back HB.out (.int .i64 x0) (.int .i64 y0)
  refine bodyPost_ret (by simp [results, Tryz.results110, go_sem, z0, z1]; try rfl) rfl ⟨rfl, ?_⟩
  exact (H4.out.2.setCell (.inr (Nat.le_refl _)) _).setCell (.inr (Nat.le_refl _)) _
set_option maxHeartbeats 1000000 in
theorem ps5 (W : World) (ad c : Nat) (q0 q1 : Int) (c0 : W.cell? ⟨ad, 0, none⟩ = some (.int .i64 q0)) (c1 : W.cell? ⟨ad, 1, none⟩ = some (.int .i64 q1))  : Calls Tryz.prog 112 #[.slice (some ⟨ad, 0, none⟩) 2 c] W fun e w' => e = .returned (pairW (negP (q0, q1))) ∧ Touch [] W w' := by
  have hA := fun w (t : Touch [] W w) => a_any ad 2 c q0 q1 w (by decide) (cell_quiet t c0) (cell_quiet t c1)
  have hO := fun w => Neg_any (q0, q1) w
  obtain ⟨⟨x0, y0⟩, hr0⟩ : ∃ r, negP (q0, q1) = r := ⟨_, rfl⟩
  rw [hr0] at hO ⊢
  clear hr0
  unfold pairW at hO ⊢
  have H0 := Lib.hid (And.intro (Blk.new W 38 #[.int .i64 0, .int .i64 0]) ((Touch.refl [] W).alloc (.cells #[.int .i64 0, .int .i64 0] 38)))
  clear c0 c1
  go_enter Tryz.func112, Tryz.ntmps112
  go_wp2_with fail
  refine (hA _ H0.out.2).mono ?_
  rintro _ w1 ⟨rfl, t1⟩
  have H1 := Lib.hid (And.intro (H0.out.1.touch t1 (by simp)) (H0.out.2.trans t1 (by simp)))
  clear t1 hA
  go_wp2_with fail
  refine (hO _).mono ?_
  rintro _ w2 ⟨rfl, t2⟩
  have H2 := Lib.hid (And.intro (H1.out.1.touch t2 (by simp)) (H1.out.2.trans t2 (by simp)))
  clear t2 hO
  have b0 := H2.out.1
  have e0 := b0.cell 0
  have e1 := b0.cell 1
  have f0 := b0.frozen 0
  have f1 := b0.frozen 1
  have HB := Lib.hid b0
  clear b0
  go_wp2_with fail
  obtain ⟨z0, z1⟩ := two_back HB.out (.int .i64 x0) (.int .i64 y0)
  refine bodyPost_ret (by simp [results, Tryz.results112, go_sem, z0, z1]; try rfl) rfl ⟨rfl, ?_⟩
  exact (H2.out.2.setCell (.inr (Nat.le_refl _)) _).setCell (.inr (Nat.le_refl _)) _
set_option maxHeartbeats 1000000 in
theorem ps6 (W : World) (ad c : Nat) (q0 q1 : Int) (c0 : W.cell? ⟨ad, 0, none⟩ = some (.int .i64 q0)) (c1 : W.cell? ⟨ad, 1, none⟩ = some (.int .i64 q1))  : Calls Tryz.prog 113 #[.slice (some ⟨ad, 0, none⟩) 2 c] W fun e w' => e = .returned (pairW (twiceP (q0, q1))) ∧ Touch [] W w' := by
  have hA := fun w (t : Touch [] W w) => a_any ad 2 c q0 q1 w (by decide) (cell_quiet t c0) (cell_quiet t c1)
  have hO := fun w => Twice_any (q0, q1) w
  obtain ⟨⟨x0, y0⟩, hr0⟩ : ∃ r, twiceP (q0, q1) = r := ⟨_, rfl⟩
  rw [hr0] at hO ⊢
  clear hr0
  unfold pairW at hO ⊢
  have H0 := Lib.hid (And.intro (Blk.new W 38 #[.int .i64 0, .int .i64 0]) ((Touch.refl [] W).alloc (.cells #[.int .i64 0, .int .i64 0] 38)))
  clear c0 c1
  go_enter Tryz.func113, Tryz.ntmps113
  go_wp2_with fail
  refine (hA _ H0.out.2).mono ?_
  rintro _ w1 ⟨rfl, t1⟩
  have H1 := Lib.hid (And.intro (H0.out.1.touch t1 (by simp)) (H0.out.2.trans t1 (by simp)))
  clear t1 hA
  go_wp2_with fail
  refine (hO _).mono ?_
  rintro _ w2 ⟨rfl, t2⟩
  have H2 := Lib.hid (And.intro (H1.out.1.touch t2 (by simp)) (H1.out.2.trans t2 (by simp)))
  clear t2 hO
  have b0 := H2.out.1
  have e0 := b0.cell 0
  have e1 := b0.cell 1
  have f0 := b0.frozen 0
  have f1 := b0.frozen 1
  have HB := Lib.hid b0
  clear b0
  go_wp2_with fail
  obtain ⟨z0, z1⟩ := two_back HB.out (.int .i64 x0) (.int .i64 y0)
  refine bodyPost_ret (by simp [results, Tryz.results113, go_sem, z0, z1]; try rfl) rfl ⟨rfl, ?_⟩
  exact (H2.out.2.setCell (.inr (Nat.le_refl _)) _).setCell (.inr (Nat.le_refl _)) _
set_option maxHeartbeats 1000000 in
theorem ps7 (W : World) (ad c : Nat) (q0 q1 : Int) (c0 : W.cell? ⟨ad, 0, none⟩ = some (.int .i64 q0)) (c1 : W.cell? ⟨ad, 1, none⟩ = some (.int .i64 q1))  : Calls Tryz.prog 115 #[.slice (some ⟨ad, 0, none⟩) 2 c] W fun e w' => e = .returned (pairW (halfP (q0, q1))) ∧ Touch [] W w' := by
  have hA := fun w (t : Touch [] W w) => a_any ad 2 c q0 q1 w (by decide) (cell_quiet t c0) (cell_quiet t c1)
  have hO := fun w => Half_any (q0, q1) w
  obtain ⟨⟨x0, y0⟩, hr0⟩ : ∃ r, halfP (q0, q1) = r := ⟨_, rfl⟩
  rw [hr0] at hO ⊢
  clear hr0
  unfold pairW at hO ⊢
  have H0 := Lib.hid (And.intro (Blk.new W 38 #[.int .i64 0, .int .i64 0]) ((Touch.refl [] W).alloc (.cells #[.int .i64 0, .int .i64 0] 38)))
  clear c0 c1
  go_enter Tryz.func115, Tryz.ntmps115
  go_wp2_with fail
  refine (hA _ H0.out.2).mono ?_
  rintro _ w1 ⟨rfl, t1⟩
  have H1 := Lib.hid (And.intro (H0.out.1.touch t1 (by simp)) (H0.out.2.trans t1 (by simp)))
  clear t1 hA
  go_wp2_with fail
  refine (hO _).mono ?_
  rintro _ w2 ⟨rfl, t2⟩
  have H2 := Lib.hid (And.intro (H1.out.1.touch t2 (by simp)) (H1.out.2.trans t2 (by simp)))
  clear t2 hO
  have b0 := H2.out.1
  have e0 := b0.cell 0
  have e1 := b0.cell 1
  have f0 := b0.frozen 0
  have f1 := b0.frozen 1
  have HB := Lib.hid b0
  clear b0
  go_wp2_with fail
  obtain ⟨z0, z1⟩ := two_back HB.out (.int .i64 x0) (.int .i64 y0)
  refine bodyPost_ret (by simp [results, Tryz.results115, go_sem, z0, z1]; try rfl) rfl ⟨rfl, ?_⟩
  exact (H2.out.2.setCell (.inr (Nat.le_refl _)) _).setCell (.inr (Nat.le_refl _)) _
set_option maxHeartbeats 1000000 in
theorem ps2 (W : World) (ad c : Nat) (q0 : Int) (c0 : W.cell? ⟨ad, 0, none⟩ = some (.int .i64 q0))  : Calls Tryz.prog 104 #[.slice (some ⟨ad, 0, none⟩) 1 c] W fun e w' => e = .returned (pairW (ofP q0)) ∧ Touch [] W w' := by
  have hO := fun w => Of_any q0 w
  obtain ⟨⟨x0, y0⟩, hr0⟩ : ∃ r, ofP q0 = r := ⟨_, rfl⟩
  rw [hr0] at hO ⊢
  clear hr0
  unfold pairW at hO ⊢
  have r0 := cell_quiet ((Touch.refl [] W).alloc (.cells #[.int .i64 0, .int .i64 0] 38)) c0
  have H0 := Lib.hid (And.intro (Blk.new W 38 #[.int .i64 0, .int .i64 0]) ((Touch.refl [] W).alloc (.cells #[.int .i64 0, .int .i64 0] 38)))
  clear c0
  go_enter Tryz.func104, Tryz.ntmps104
  go_wp2_with fail
  refine (hO _).mono ?_
  rintro _ w1 ⟨rfl, t1⟩
  have H1 := Lib.hid (And.intro (H0.out.1.touch t1 (by simp)) (H0.out.2.trans t1 (by simp)))
  clear t1 hO
  have b0 := H1.out.1
  have e0 := b0.cell 0
  have e1 := b0.cell 1
  have f0 := b0.frozen 0
  have f1 := b0.frozen 1
  have HB := Lib.hid b0
  clear b0
  go_wp2_with fail
  obtain ⟨z0, z1⟩ := two_back HB.out (.int .i64 x0) (.int .i64 y0)
  refine bodyPost_ret (by simp [results, Tryz.results104, go_sem, z0, z1]; try rfl) rfl ⟨rfl, ?_⟩
  exact (H1.out.2.setCell (.inr (Nat.le_refl _)) _).setCell (.inr (Nat.le_refl _)) _
set_option maxHeartbeats 1000000 in
theorem ps8 (W : World) (ad c : Nat) (q0 q1 : Int) (c0 : W.cell? ⟨ad, 0, none⟩ = some (.int .i64 q0)) (c1 : W.cell? ⟨ad, 1, none⟩ = some (.int .i64 q1))  : Calls Tryz.prog 117 #[.slice (some ⟨ad, 0, none⟩) 2 c] W fun e w' => e = .returned (pairW (mulP q0 q1)) ∧ Touch [] W w' := by
  have hO := fun w => Mul_any q0 q1 w
  obtain ⟨⟨x0, y0⟩, hr0⟩ : ∃ r, mulP q0 q1 = r := ⟨_, rfl⟩
  rw [hr0] at hO ⊢
  clear hr0
  unfold pairW at hO ⊢
  have bR := Blk.new W 38 #[.int .i64 0, .int .i64 0]
  have tR := (Touch.refl [] W).alloc (.cells #[.int .i64 0, .int .i64 0] 38)
  have r0 := cell_quiet tR.drew c0
  have r1 := cell_quiet tR.drew c1
  have H0 := Lib.hid (And.intro bR.drew tR.drew)
  clear c0 c1 bR tR
  go_enter Tryz.func117, Tryz.ntmps117
  go_upto_region 1 with fail
  go_region_with (go_at_call 102; refine (hO _).mono ?_; rintro _ w1 ⟨rfl, t1⟩; have b1 := H0.out.1.touch t1 (by simp); have T1 := Lib.hid (H0.out.2.trans t1 (by simp)); have e0 := b1.cell 0; have e1 := b1.cell 1; have f0 := b1.frozen 0; have f1 := b1.frozen 1; have HB := Lib.hid b1; clear b1 t1)
  all_goals go_wp2_with fail
  all_goals obtain ⟨z0, z1⟩ := two_back HB.out (.int .i64 x0) (.int .i64 y0)
  all_goals refine bodyPost_ret (by simp [results, Tryz.results117, go_sem, z0, z1]; try rfl) rfl ⟨rfl, ?_⟩
  all_goals exact (T1.out.setCell (.inr (Nat.le_refl _)) _).setCell (.inr (Nat.le_refl _)) _
set_option maxHeartbeats 1000000 in
theorem ps9 (W : World) (ad c : Nat) (q0 q1 : Int) (c0 : W.cell? ⟨ad, 0, none⟩ = some (.int .i64 q0)) (c1 : W.cell? ⟨ad, 1, none⟩ = some (.int .i64 q1))  : Calls Tryz.prog 118 #[.slice (some ⟨ad, 0, none⟩) 2 c] W fun e w' => e = .returned (pairW (umulP q0 q1)) ∧ Touch [] W w' := by
  have hO := fun w => UMul_any q0 q1 w
  obtain ⟨⟨x0, y0⟩, hr0⟩ : ∃ r, umulP q0 q1 = r := ⟨_, rfl⟩
  rw [hr0] at hO ⊢
  clear hr0
  unfold pairW at hO ⊢
  have bR := Blk.new W 38 #[.int .i64 0, .int .i64 0]
  have tR := (Touch.refl [] W).alloc (.cells #[.int .i64 0, .int .i64 0] 38)
  have r0 := cell_quiet tR.drew c0
  have r1 := cell_quiet tR.drew c1
  have H0 := Lib.hid (And.intro bR.drew tR.drew)
  clear c0 c1 bR tR
  go_enter Tryz.func118, Tryz.ntmps118
  go_upto_region 1 with fail
  go_region_with (go_at_call 119; refine (hO _).mono ?_; rintro _ w1 ⟨rfl, t1⟩; have b1 := H0.out.1.touch t1 (by simp); have T1 := Lib.hid (H0.out.2.trans t1 (by simp)); have e0 := b1.cell 0; have e1 := b1.cell 1; have f0 := b1.frozen 0; have f1 := b1.frozen 1; have HB := Lib.hid b1; clear b1 t1)
  all_goals go_wp2_with fail
  all_goals obtain ⟨z0, z1⟩ := two_back HB.out (.int .i64 x0) (.int .i64 y0)
  all_goals refine bodyPost_ret (by simp [results, Tryz.results118, go_sem, z0, z1]; try rfl) rfl ⟨rfl, ?_⟩
  all_goals exact (T1.out.setCell (.inr (Nat.le_refl _)) _).setCell (.inr (Nat.le_refl _)) _
set_option maxHeartbeats 1000000 in
theorem ps11 (W : World) (ad c : Nat) (q0 q1 q2 q3 : Int) (c0 : W.cell? ⟨ad, 0, none⟩ = some (.int .i64 q0)) (c1 : W.cell? ⟨ad, 1, none⟩ = some (.int .i64 q1)) (c2 : W.cell? ⟨ad, 2, none⟩ = some (.int .i64 q2)) (c3 : W.cell? ⟨ad, 3, none⟩ = some (.int .i64 q3))  : Calls Tryz.prog 122 #[.slice (some ⟨ad, 0, none⟩) 4 c] W fun e w' => e = .returned (.int .i64 (truthF (lessP (q0, q1) (q2, q3)))) ∧ Touch [] W w' := by
  have hA := fun w (t : Touch [] W w) => a_any ad 4 c q0 q1 w (by decide) (cell_quiet t c0) (cell_quiet t c1)
  have hB := fun w (t : Touch [] W w) => b_any ad 4 c q2 q3 w (by decide) (cell_quiet t c2) (cell_quiet t c3)
  have hL := fun w => Less_any (q0, q1) (q2, q3) w
  have hT := fun b w => Truth_any b w
  obtain ⟨z, hz⟩ : ∃ z, lessP (q0, q1) (q2, q3) = z := ⟨_, rfl⟩
  rw [hz] at hL ⊢
  clear hz
  unfold pairW at hL
  have H0 := Lib.hid (Touch.refl [] W)
  clear c0 c1 c2 c3
  go_enter Tryz.func122, Tryz.ntmps122
  go_wp2_with fail
  refine (hA _ H0.out).mono ?_
  rintro _ w1 ⟨rfl, t1⟩
  have H1 := Lib.hid (H0.out.trans t1 (by simp))
  clear t1 hA
  go_wp2_with fail
  refine (hB _ H1.out).mono ?_
  rintro _ w2 ⟨rfl, t2⟩
  have H2 := Lib.hid (H1.out.trans t2 (by simp))
  clear t2 hB
  go_wp2_with fail
  refine (hL _).mono ?_
  rintro _ w3 ⟨rfl, t3⟩
  have H3 := Lib.hid (H2.out.trans t3 (by simp))
  clear t3 hL
  go_wp2_with fail
  refine (hT _ _).mono ?_
  rintro _ _ ⟨rfl, rfl⟩
  have H4 := Lib.hid H3.out
  go_wp2_with fail
  go_ret
  exact ⟨rfl, H4.out⟩
set_option maxHeartbeats 1000000 in
theorem ps12 (W : World) (ad c : Nat) (q0 q1 q2 q3 : Int) (c0 : W.cell? ⟨ad, 0, none⟩ = some (.int .i64 q0)) (c1 : W.cell? ⟨ad, 1, none⟩ = some (.int .i64 q1)) (c2 : W.cell? ⟨ad, 2, none⟩ = some (.int .i64 q2)) (c3 : W.cell? ⟨ad, 3, none⟩ = some (.int .i64 q3))  : Calls Tryz.prog 124 #[.slice (some ⟨ad, 0, none⟩) 4 c] W fun e w' => e = .returned (.int .i64 (truthF (ulessP (q0, q1) (q2, q3)))) ∧ Touch [] W w' := by
  have hA := fun w (t : Touch [] W w) => a_any ad 4 c q0 q1 w (by decide) (cell_quiet t c0) (cell_quiet t c1)
  have hB := fun w (t : Touch [] W w) => b_any ad 4 c q2 q3 w (by decide) (cell_quiet t c2) (cell_quiet t c3)
  have hL := fun w => ULess_any (q0, q1) (q2, q3) w
  have hT := fun b w => Truth_any b w
  obtain ⟨z, hz⟩ : ∃ z, ulessP (q0, q1) (q2, q3) = z := ⟨_, rfl⟩
  rw [hz] at hL ⊢
  clear hz
  unfold pairW at hL
  have H0 := Lib.hid (Touch.refl [] W)
  clear c0 c1 c2 c3
  go_enter Tryz.func124, Tryz.ntmps124
  go_wp2_with fail
  refine (hA _ H0.out).mono ?_
  rintro _ w1 ⟨rfl, t1⟩
  have H1 := Lib.hid (H0.out.trans t1 (by simp))
  clear t1 hA
  go_wp2_with fail
  refine (hB _ H1.out).mono ?_
  rintro _ w2 ⟨rfl, t2⟩
  have H2 := Lib.hid (H1.out.trans t2 (by simp))
  clear t2 hB
  go_wp2_with fail
  refine (hL _).mono ?_
  rintro _ w3 ⟨rfl, t3⟩
  have H3 := Lib.hid (H2.out.trans t3 (by simp))
  clear t3 hL
  go_wp2_with fail
  refine (hT _ _).mono ?_
  rintro _ _ ⟨rfl, rfl⟩
  have H4 := Lib.hid H3.out
  go_wp2_with fail
  go_ret
  exact ⟨rfl, H4.out⟩
set_option maxHeartbeats 1000000 in
theorem ps13 (W : World) (ad c : Nat) (q0 q1 q2 q3 : Int) (c0 : W.cell? ⟨ad, 0, none⟩ = some (.int .i64 q0)) (c1 : W.cell? ⟨ad, 1, none⟩ = some (.int .i64 q1)) (c2 : W.cell? ⟨ad, 2, none⟩ = some (.int .i64 q2)) (c3 : W.cell? ⟨ad, 3, none⟩ = some (.int .i64 q3))  : Calls Tryz.prog 126 #[.slice (some ⟨ad, 0, none⟩) 4 c] W fun e w' => e = .returned (.int .i64 (truthF (q0 == q2 && q1 == q3))) ∧ Touch [] W w' := by
  have hA := fun w (t : Touch [] W w) => a_any ad 4 c q0 q1 w (by decide) (cell_quiet t c0) (cell_quiet t c1)
  have hB := fun w (t : Touch [] W w) => b_any ad 4 c q2 q3 w (by decide) (cell_quiet t c2) (cell_quiet t c3)
  have hT := fun b w => Truth_any b w
  have hE := fun w => pair_eqlT q0 q1 q2 q3 w
  have H0 := Lib.hid (Touch.refl [] W)
  clear c0 c1 c2 c3
  go_enter Tryz.func126, Tryz.ntmps126
  go_wp2_with fail
  refine (hA _ H0.out).mono ?_
  rintro _ w1 ⟨rfl, t1⟩
  have H1 := Lib.hid (H0.out.trans t1 (by simp))
  clear t1 hA
  go_wp2_with fail
  refine (hB _ H1.out).mono ?_
  rintro _ w2 ⟨rfl, t2⟩
  have H2 := Lib.hid (H1.out.trans t2 (by simp))
  clear t2 hB
  go_wp2_with fail
  refine (hT _ _).mono ?_
  rintro _ _ ⟨rfl, rfl⟩
  have H3 := Lib.hid H2.out
  go_wp2_with fail
  go_ret
  exact ⟨rfl, H3.out⟩
set_option maxHeartbeats 1000000 in
theorem ps10 (W : World) (ad c : Nat) (q0 q1 : Int) (c0 : W.cell? ⟨ad, 0, none⟩ = some (.int .i64 q0)) (c1 : W.cell? ⟨ad, 1, none⟩ = some (.int .i64 q1))  : Calls Tryz.prog 120 #[.slice (some ⟨ad, 0, none⟩) 2 c] W fun e w' => e = .returned (pairW (if q1 < 0 then negP (q0, q1) else (q0, q1))) ∧ Touch [] W w' := by
  have hA := fun w (t : Touch [] W w) => a_any ad 2 c q0 q1 w (by decide) (cell_quiet t c0) (cell_quiet t c1)
  have hN := fun w => Neg_any (q0, q1) w
  by_cases h : q1 < 0
  · rw [if_pos h]
    obtain ⟨⟨x0, y0⟩, hr0⟩ : ∃ r, negP (q0, q1) = r := ⟨_, rfl⟩
    rw [hr0] at hN ⊢
    clear hr0
    unfold pairW at hN ⊢
    have r1 := cell_quiet ((Touch.refl [] W).alloc (.cells #[.int .i64 0, .int .i64 0] 38)) c1
    have H0 := Lib.hid (And.intro (Blk.new W 38 #[.int .i64 0, .int .i64 0]) ((Touch.refl [] W).alloc (.cells #[.int .i64 0, .int .i64 0] 38)))
    clear c0 c1
    go_enter Tryz.func120, Tryz.ntmps120
    go_wp2_with fail
    refine (hA _ H0.out.2).mono ?_
    rintro _ w1 ⟨rfl, t1⟩
    have H1 := Lib.hid (And.intro (H0.out.1.touch t1 (by simp)) (H0.out.2.trans t1 (by simp)))
    clear t1 hA
    go_wp2_with fail
    refine (hN _).mono ?_
    rintro _ w2 ⟨rfl, t2⟩
    have H2 := Lib.hid (And.intro (H1.out.1.touch t2 (by simp)) (H1.out.2.trans t2 (by simp)))
    clear t2 hN
    have b0 := H2.out.1
    have e0 := b0.cell 0
    have e1 := b0.cell 1
    have f0 := b0.frozen 0
    have f1 := b0.frozen 1
    have HB := Lib.hid b0
    clear b0
    go_wp2_with fail
    obtain ⟨z0, z1⟩ := two_back HB.out (.int .i64 x0) (.int .i64 y0)
    refine bodyPost_ret (by simp [results, Tryz.results120, go_sem, z0, z1]; try rfl) rfl ⟨rfl, ?_⟩
    exact (H2.out.2.setCell (.inr (Nat.le_refl _)) _).setCell (.inr (Nat.le_refl _)) _
  · rw [if_neg h]
    clear hN
    unfold pairW
    have r1 := cell_quiet ((Touch.refl [] W).alloc (.cells #[.int .i64 0, .int .i64 0] 38)) c1
    have H0 := Lib.hid (And.intro (Blk.new W 38 #[.int .i64 0, .int .i64 0]) ((Touch.refl [] W).alloc (.cells #[.int .i64 0, .int .i64 0] 38)))
    clear c0 c1
    go_enter Tryz.func120, Tryz.ntmps120
    go_wp2_with fail
    refine (hA _ H0.out.2).mono ?_
    rintro _ w1 ⟨rfl, t1⟩
    have H1 := Lib.hid (And.intro (H0.out.1.touch t1 (by simp)) (H0.out.2.trans t1 (by simp)))
    clear t1 hA
    have b0 := H1.out.1
    have e0 := b0.cell 0
    have e1 := b0.cell 1
    have f0 := b0.frozen 0
    have f1 := b0.frozen 1
    have HB := Lib.hid b0
    clear b0
    go_wp2_with fail
    obtain ⟨z0, z1⟩ := two_back HB.out (.int .i64 q0) (.int .i64 q1)
    refine bodyPost_ret (by simp [results, Tryz.results120, go_sem, z0, z1]; try rfl) rfl ⟨rfl, ?_⟩
    exact (H1.out.2.setCell (.inr (Nat.le_refl _)) _).setCell (.inr (Nat.le_refl _)) _
end Go.Proofs.YtkbchpaofmlhgaaGreatDoor
