import Derived.Test.YtkbchpaofmlhgaaGreatDoorJPairX
import Derived.Test.YtkbchpaofmlhgaaGreatDoorJHoldA
/- pair.Trunc and pair.Floor of any cells. Printed by pairdiv.py. -/
namespace Go.Proofs.YtkbchpaofmlhgaaGreatDoor
open Go.RowKit

theorem negP_cell (p : Int × Int) : Cell64 (negP p).1 ∧ Cell64 (negP p).2 := ⟨wrap64_cell _, wrap64_cell _⟩
theorem sizeP_cell (p : Int × Int) (h1 : Cell64 p.1) (h2 : Cell64 p.2) : Cell64 (sizeP p).1 ∧ Cell64 (sizeP p).2 := by
  unfold sizeP
  split
  · exact negP_cell p
  · exact ⟨h1, h2⟩
theorem ofP_cells (x : Int) (h : Cell64 x) : Cell64 (ofP x).1 ∧ Cell64 (ofP x).2 := by unfold ofP Cell64 at *; omega
/-- quotients, rounded towards 0 -/
def truncT (p : Int × Int) (b : Int) : (Int × Int) × Int :=
  if ¬ (udivT (sizeP p) (sizeP (ofP b)).1).2 = 0 then ((0, 0), (udivT (sizeP p) (sizeP (ofP b)).1).2) else
  let whole := if bits .xor .i64 p.2 b < 0 then negP ((udivT (sizeP p) (sizeP (ofP b)).1).1.2, 0) else ((udivT (sizeP p) (sizeP (ofP b)).1).1.2, 0)
  let left := if p.2 < 0 then wrap64 (-(udivT (sizeP p) (sizeP (ofP b)).1).1.1) else (udivT (sizeP p) (sizeP (ofP b)).1).1.1
  if whole = ofP whole.1 then ((left, whole.1), 0) else ((0, 0), -11)
/-- quotients, rounded down -/
def floorT (p : Int × Int) (b : Int) : (Int × Int) × Int :=
  if ¬ (udivT (sizeP p) (sizeP (ofP b)).1).2 = 0 then ((0, 0), (udivT (sizeP p) (sizeP (ofP b)).1).2) else
  let whole := if bits .xor .i64 p.2 b < 0 then negP ((udivT (sizeP p) (sizeP (ofP b)).1).1.2, 0) else ((udivT (sizeP p) (sizeP (ofP b)).1).1.2, 0)
  let left := if p.2 < 0 then wrap64 (-(udivT (sizeP p) (sizeP (ofP b)).1).1.1) else (udivT (sizeP p) (sizeP (ofP b)).1).1.1
  let more := ¬ left = 0 ∧ bits .xor .i64 p.2 b < 0
  let left2 := if more then wrap64 (left + b) else left
  let whole2 := if more then addP whole (ofP (-1)) else whole
  if whole2 = ofP whole2.1 then ((left2, whole2.1), 0) else ((0, 0), -11)
theorem field_lo (x y : Int) (w : World) : (Instr.field 38 (.agg #[.int .i64 x, .int .i64 y]) 0).run Tryz.prog w = .ok (.int .i64 x) w := by
  simp [Instr.field, run_underlying Tryz.underlying38, go_sem, asAgg, Result.andThen]
theorem pair_neqT (p q : Int × Int) (w : World) : (binOp .neq 38 (.agg #[.int .i64 p.1, .int .i64 p.2]) (.agg #[.int .i64 q.1, .int .i64 q.2])).run Tryz.prog w = .ok (.bool (decide (¬ p = q))) w := by
  rw [pair_neq]
  obtain ⟨a, b⟩ := p
  obtain ⟨c, d⟩ := q
  congr 2
  simp only [Prod.mk.injEq]
  by_cases h1 : a = c <;> by_cases h2 : b = d <;> simp [h1, h2]
set_option maxRecDepth 100000 in
set_option maxHeartbeats 8000000 in
theorem Trunc_tot (p : Int × Int) (b : Int) (h1 : Cell64 p.1) (h2 : Cell64 p.2) (hb : Cell64 b) (w : World) :
    Calls Tryz.prog 132 #[pairW p, .int .i64 b] w fun e w' => e = .returned (.tuple #[.int .i64 (truncT p b).1.1, .int .i64 (truncT p b).1.2, .int .i64 (truncT p b).2]) ∧ Touch [] w w' := by
  obtain ⟨x, y⟩ := p
  have hSz := fun w => Size_pair (x, y) w
  have hOf := fun w => Of_any b w
  have hSb := fun w => Size_pair (ofP b) w
  have hU := fun w => UDiv_tot (sizeP (x, y)) (sizeP (ofP b)).1 (sizeP_cell (x, y) h1 h2).1 (sizeP_cell (x, y) h1 h2).2 (sizeP_cell (ofP b) (ofP_cells b hb).1 (ofP_cells b hb).2).1 w
  obtain ⟨R, hR⟩ : ∃ R, truncT (x, y) b = R := ⟨_, rfl⟩
  rw [hR]
  unfold truncT at hR
  obtain ⟨u, hu⟩ : ∃ u, udivT (sizeP (x, y)) (sizeP (ofP b)).1 = u := ⟨_, rfl⟩
  rw [hu] at hU hR
  simp only [] at hR
  clear hu
  obtain ⟨⟨sx, sy⟩, hs⟩ : ∃ r, sizeP (x, y) = r := ⟨_, rfl⟩
  rw [hs] at hSz hU
  clear hs
  obtain ⟨⟨tx, ty⟩, ht⟩ : ∃ r, sizeP (ofP b) = r := ⟨_, rfl⟩
  rw [ht] at hSb hU
  clear ht
  obtain ⟨⟨ox, oy⟩, ho⟩ : ∃ r, ofP b = r := ⟨_, rfl⟩
  rw [ho] at hOf hSb
  clear ho h1 h2 hb
  obtain ⟨⟨lf, q⟩, ee⟩ := u
  simp only [] at hU hR
  unfold pairW at *
  have H0 := Lib.hid (And.intro (Blk.new w 38 #[.int .i64 x, .int .i64 y]) ((Touch.refl [] w).alloc (.cells #[.int .i64 x, .int .i64 y] 38)))
  have HR := Lib.hid hR
  clear hR
  have hFl := fun w => field_lo tx ty w
  go_enter Tryz.func132, Tryz.ntmps132
  go_wp2_with fail
  refine (hSz _).mono ?_
  rintro _ w1 ⟨rfl, t1⟩
  have H1 := Lib.hid (And.intro (H0.out.1.touch t1 (by simp)) (H0.out.2.trans t1 (by simp)))
  clear t1 hSz
  go_wp2_with fail
  refine (hOf _).mono ?_
  rintro _ w2 ⟨rfl, t2⟩
  have H2 := Lib.hid (And.intro (H1.out.1.touch t2 (by simp)) (H1.out.2.trans t2 (by simp)))
  clear t2 hOf
  go_wp2_with fail
  refine (hSb _).mono ?_
  rintro _ w3 ⟨rfl, t3⟩
  have H3 := Lib.hid (And.intro (H2.out.1.touch t3 (by simp)) (H2.out.2.trans t3 (by simp)))
  clear t3 hSb
  go_wp2_with fail
  refine (hU _).mono ?_
  rintro _ w4 ⟨rfl, t4⟩
  have H4 := Lib.hid (And.intro (H3.out.1.touch t4 (by simp)) (H3.out.2.trans t4 (by simp)))
  clear t4 hU
  by_cases he : ee = 0
  rotate_left
  · have HX : Hid (R = ((0, 0), ee)) := by
      have := HR.out
      rw [if_pos he] at this
      exact this.symm
    clear HR
    go_wp2_with fail
    go_ret3
    exact ⟨by rw [HX.out]; rfl, H4.out.2⟩
  have HR := Lib.hid (by have := HR.out; rwa [if_neg (fun h => h he)] at this)
  subst he
  have b10 := Blk.new w4 38 #[.int .i64 q, .int .i64 0]
  have b2 := H4.out.1.alloc (.cells #[.int .i64 q, .int .i64 0] 38)
  have T4 := H4.out.2.alloc (.cells #[.int .i64 q, .int .i64 0] 38)
  have hz4 : w.heap.size ≤ w4.heap.size := H4.out.2.size
  have hlt : w.heap.size < w4.heap.size := H4.out.1.lt
  have c1 := b2.cell 1
  have d0 := b10.cell 0
  have d1 := b10.cell 1
  have hz4 := Lib.hid hz4
  have hlt := Lib.hid hlt
  by_cases hs : bits .xor .i64 y b < 0
  · have HR := Lib.hid (by have := HR.out; rwa [if_pos hs] at this)
    have hN := fun w => Neg_any (q, 0) w
    obtain ⟨⟨n0, n1⟩, hn⟩ : ∃ r, negP (q, 0) = r := ⟨_, rfl⟩
    have HR := Lib.hid (by have := HR.out; rwa [hn] at this)
    rw [hn] at hN
    clear hn
    unfold pairW at hN
    go_wp2_with fail
    refine (hN _).mono ?_
    rintro _ w5 ⟨rfl, t5⟩
    have k10 := b10.touch t5 (by simp)
    have k2 := b2.touch t5 (by simp)
    have T5 := T4.trans t5 (by simp)
    have e0 := k10.cell 0
    have e1 := k10.cell 1
    have f0 := k10.frozen 0
    have f1 := k10.frozen 1
    clear c1 d0 d1 b10 b2 T4 t5
    have c1 := k2.cell 1
    go_upto_region 7 with fail
    have H6 := Lib.hid (And.intro (k2.two_far (Nat.ne_of_lt hlt.out) (.int .i64 n0) (.int .i64 n1)) (And.intro (k10.two_set (.int .i64 n0) (.int .i64 n1)) ((T5.setCell (p := ⟨w4.heap.size, 0, none⟩) (.inr hz4.out) (.int .i64 n0)).setCell (p := ⟨w4.heap.size, 1, none⟩) (.inr hz4.out) (.int .i64 n1))))
    clear k2 k10 T5 e0 e1 f0 f1 c1
    generalize (w5.setCell ⟨w4.heap.size, 0, none⟩ (.int .i64 n0)).setCell ⟨w4.heap.size, 1, none⟩ (.int .i64 n1) = w6 at *
    by_cases hy : y < 0
    · have HR := Lib.hid (by have := HR.out; rwa [if_pos hy] at this)
      have hOw := fun w => Of_any n0 w
      have hNe := fun w => pair_neqT (n0, n1) (ofP n0) w
      by_cases hf : (n0, n1) = ofP n0
      · have HX : Hid (R = ((wrap64 (-lf), n0), 0)) := by
          have := HR.out
          rw [if_pos hf] at this
          exact this.symm
        have hNe := fun w => (hNe w).trans (by rw [decide_eq_false (fun h => h hf)])
        clear hf HR
        obtain ⟨⟨vx, vy⟩, hv⟩ : ∃ r, ofP n0 = r := ⟨_, rfl⟩
        rw [hv] at hOw hNe
        clear hv
        simp only [] at hNe
        unfold pairW at hOw
        have c1 := H6.out.1.cell 1
        have d0 := H6.out.2.1.cell 0
        have d1 := H6.out.2.1.cell 1
        go_upto_region 9 with fail
        have g0 := cell_quiet ((Touch.refl [] w6).drew) d0
        have g1 := cell_quiet ((Touch.refl [] w6).drew) d1
        go_region_with (go_at_call 105; refine (hOw _).mono ?_; rintro _ w7 ⟨rfl, t7⟩; have m0 := cell_quiet t7 g0; have m1 := cell_quiet t7 g1; have T7 := Lib.hid (H6.out.2.2.trans t7.of_drew (by simp)); clear t7)
        all_goals go_wp2_with fail
        all_goals go_quiet (fail)
        all_goals go_wp2_with fail
        all_goals go_ret3
        all_goals exact ⟨by rw [HX.out]; rfl, T7.out.drewN _⟩
      · have HX : Hid (R = ((0, 0), -11)) := by
          have := HR.out
          rw [if_neg hf] at this
          exact this.symm
        have hNe := fun w => (hNe w).trans (by rw [decide_eq_true hf])
        clear hf HR
        obtain ⟨⟨vx, vy⟩, hv⟩ : ∃ r, ofP n0 = r := ⟨_, rfl⟩
        rw [hv] at hOw hNe
        clear hv
        simp only [] at hNe
        unfold pairW at hOw
        have c1 := H6.out.1.cell 1
        have d0 := H6.out.2.1.cell 0
        have d1 := H6.out.2.1.cell 1
        go_upto_region 9 with fail
        have g0 := cell_quiet ((Touch.refl [] w6).drew) d0
        have g1 := cell_quiet ((Touch.refl [] w6).drew) d1
        go_region_with (go_at_call 105; refine (hOw _).mono ?_; rintro _ w7 ⟨rfl, t7⟩; have m0 := cell_quiet t7 g0; have m1 := cell_quiet t7 g1; have T7 := Lib.hid (H6.out.2.2.trans t7.of_drew (by simp)); clear t7)
        all_goals go_wp2_with fail
        all_goals go_ret3
        all_goals exact ⟨by rw [HX.out]; rfl, T7.out⟩
    · have HR := Lib.hid (by have := HR.out; rwa [if_neg hy] at this)
      have hOw := fun w => Of_any n0 w
      have hNe := fun w => pair_neqT (n0, n1) (ofP n0) w
      by_cases hf : (n0, n1) = ofP n0
      · have HX : Hid (R = ((lf, n0), 0)) := by
          have := HR.out
          rw [if_pos hf] at this
          exact this.symm
        have hNe := fun w => (hNe w).trans (by rw [decide_eq_false (fun h => h hf)])
        clear hf HR
        obtain ⟨⟨vx, vy⟩, hv⟩ : ∃ r, ofP n0 = r := ⟨_, rfl⟩
        rw [hv] at hOw hNe
        clear hv
        simp only [] at hNe
        unfold pairW at hOw
        have c1 := H6.out.1.cell 1
        have d0 := H6.out.2.1.cell 0
        have d1 := H6.out.2.1.cell 1
        go_upto_region 9 with fail
        have g0 := cell_quiet ((Touch.refl [] w6).drew) d0
        have g1 := cell_quiet ((Touch.refl [] w6).drew) d1
        go_region_with (go_at_call 105; refine (hOw _).mono ?_; rintro _ w7 ⟨rfl, t7⟩; have m0 := cell_quiet t7 g0; have m1 := cell_quiet t7 g1; have T7 := Lib.hid (H6.out.2.2.trans t7.of_drew (by simp)); clear t7)
        all_goals go_wp2_with fail
        all_goals go_quiet (fail)
        all_goals go_wp2_with fail
        all_goals go_ret3
        all_goals exact ⟨by rw [HX.out]; rfl, T7.out.drewN _⟩
      · have HX : Hid (R = ((0, 0), -11)) := by
          have := HR.out
          rw [if_neg hf] at this
          exact this.symm
        have hNe := fun w => (hNe w).trans (by rw [decide_eq_true hf])
        clear hf HR
        obtain ⟨⟨vx, vy⟩, hv⟩ : ∃ r, ofP n0 = r := ⟨_, rfl⟩
        rw [hv] at hOw hNe
        clear hv
        simp only [] at hNe
        unfold pairW at hOw
        have c1 := H6.out.1.cell 1
        have d0 := H6.out.2.1.cell 0
        have d1 := H6.out.2.1.cell 1
        go_upto_region 9 with fail
        have g0 := cell_quiet ((Touch.refl [] w6).drew) d0
        have g1 := cell_quiet ((Touch.refl [] w6).drew) d1
        go_region_with (go_at_call 105; refine (hOw _).mono ?_; rintro _ w7 ⟨rfl, t7⟩; have m0 := cell_quiet t7 g0; have m1 := cell_quiet t7 g1; have T7 := Lib.hid (H6.out.2.2.trans t7.of_drew (by simp)); clear t7)
        all_goals go_wp2_with fail
        all_goals go_ret3
        all_goals exact ⟨by rw [HX.out]; rfl, T7.out⟩
  · have HR := Lib.hid (by have := HR.out; rwa [if_neg hs] at this)
    go_upto_region 7 with fail
    have H6 := Lib.hid (And.intro b2 (And.intro b10 T4))
    clear b2 b10 T4 c1 d0 d1
    generalize w4.alloc (.cells #[.int .i64 q, .int .i64 0] 38) = w6 at *
    by_cases hy : y < 0
    · have HR := Lib.hid (by have := HR.out; rwa [if_pos hy] at this)
      have hOw := fun w => Of_any q w
      have hNe := fun w => pair_neqT (q, 0) (ofP q) w
      by_cases hf : (q, 0) = ofP q
      · have HX : Hid (R = ((wrap64 (-lf), q), 0)) := by
          have := HR.out
          rw [if_pos hf] at this
          exact this.symm
        have hNe := fun w => (hNe w).trans (by rw [decide_eq_false (fun h => h hf)])
        clear hf HR
        obtain ⟨⟨vx, vy⟩, hv⟩ : ∃ r, ofP q = r := ⟨_, rfl⟩
        rw [hv] at hOw hNe
        clear hv
        simp only [] at hNe
        unfold pairW at hOw
        have c1 := H6.out.1.cell 1
        have d0 := H6.out.2.1.cell 0
        have d1 := H6.out.2.1.cell 1
        go_upto_region 9 with fail
        have g0 := cell_quiet ((Touch.refl [] w6).drew) d0
        have g1 := cell_quiet ((Touch.refl [] w6).drew) d1
        go_region_with (go_at_call 105; refine (hOw _).mono ?_; rintro _ w7 ⟨rfl, t7⟩; have m0 := cell_quiet t7 g0; have m1 := cell_quiet t7 g1; have T7 := Lib.hid (H6.out.2.2.trans t7.of_drew (by simp)); clear t7)
        all_goals go_wp2_with fail
        all_goals go_quiet (fail)
        all_goals go_wp2_with fail
        all_goals go_ret3
        all_goals exact ⟨by rw [HX.out]; rfl, T7.out.drewN _⟩
      · have HX : Hid (R = ((0, 0), -11)) := by
          have := HR.out
          rw [if_neg hf] at this
          exact this.symm
        have hNe := fun w => (hNe w).trans (by rw [decide_eq_true hf])
        clear hf HR
        obtain ⟨⟨vx, vy⟩, hv⟩ : ∃ r, ofP q = r := ⟨_, rfl⟩
        rw [hv] at hOw hNe
        clear hv
        simp only [] at hNe
        unfold pairW at hOw
        have c1 := H6.out.1.cell 1
        have d0 := H6.out.2.1.cell 0
        have d1 := H6.out.2.1.cell 1
        go_upto_region 9 with fail
        have g0 := cell_quiet ((Touch.refl [] w6).drew) d0
        have g1 := cell_quiet ((Touch.refl [] w6).drew) d1
        go_region_with (go_at_call 105; refine (hOw _).mono ?_; rintro _ w7 ⟨rfl, t7⟩; have m0 := cell_quiet t7 g0; have m1 := cell_quiet t7 g1; have T7 := Lib.hid (H6.out.2.2.trans t7.of_drew (by simp)); clear t7)
        all_goals go_wp2_with fail
        all_goals go_ret3
        all_goals exact ⟨by rw [HX.out]; rfl, T7.out⟩
    · have HR := Lib.hid (by have := HR.out; rwa [if_neg hy] at this)
      have hOw := fun w => Of_any q w
      have hNe := fun w => pair_neqT (q, 0) (ofP q) w
      by_cases hf : (q, 0) = ofP q
      · have HX : Hid (R = ((lf, q), 0)) := by
          have := HR.out
          rw [if_pos hf] at this
          exact this.symm
        have hNe := fun w => (hNe w).trans (by rw [decide_eq_false (fun h => h hf)])
        clear hf HR
        obtain ⟨⟨vx, vy⟩, hv⟩ : ∃ r, ofP q = r := ⟨_, rfl⟩
        rw [hv] at hOw hNe
        clear hv
        simp only [] at hNe
        unfold pairW at hOw
        have c1 := H6.out.1.cell 1
        have d0 := H6.out.2.1.cell 0
        have d1 := H6.out.2.1.cell 1
        go_upto_region 9 with fail
        have g0 := cell_quiet ((Touch.refl [] w6).drew) d0
        have g1 := cell_quiet ((Touch.refl [] w6).drew) d1
        go_region_with (go_at_call 105; refine (hOw _).mono ?_; rintro _ w7 ⟨rfl, t7⟩; have m0 := cell_quiet t7 g0; have m1 := cell_quiet t7 g1; have T7 := Lib.hid (H6.out.2.2.trans t7.of_drew (by simp)); clear t7)
        all_goals go_wp2_with fail
        all_goals go_quiet (fail)
        all_goals go_wp2_with fail
        all_goals go_ret3
        all_goals exact ⟨by rw [HX.out]; rfl, T7.out.drewN _⟩
      · have HX : Hid (R = ((0, 0), -11)) := by
          have := HR.out
          rw [if_neg hf] at this
          exact this.symm
        have hNe := fun w => (hNe w).trans (by rw [decide_eq_true hf])
        clear hf HR
        obtain ⟨⟨vx, vy⟩, hv⟩ : ∃ r, ofP q = r := ⟨_, rfl⟩
        rw [hv] at hOw hNe
        clear hv
        simp only [] at hNe
        unfold pairW at hOw
        have c1 := H6.out.1.cell 1
        have d0 := H6.out.2.1.cell 0
        have d1 := H6.out.2.1.cell 1
        go_upto_region 9 with fail
        have g0 := cell_quiet ((Touch.refl [] w6).drew) d0
        have g1 := cell_quiet ((Touch.refl [] w6).drew) d1
        go_region_with (go_at_call 105; refine (hOw _).mono ?_; rintro _ w7 ⟨rfl, t7⟩; have m0 := cell_quiet t7 g0; have m1 := cell_quiet t7 g1; have T7 := Lib.hid (H6.out.2.2.trans t7.of_drew (by simp)); clear t7)
        all_goals go_wp2_with fail
        all_goals go_ret3
        all_goals exact ⟨by rw [HX.out]; rfl, T7.out⟩
end Go.Proofs.YtkbchpaofmlhgaaGreatDoor
