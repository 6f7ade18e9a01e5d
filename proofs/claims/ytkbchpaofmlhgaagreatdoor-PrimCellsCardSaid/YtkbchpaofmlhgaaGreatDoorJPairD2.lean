import Derived.Test.YtkbchpaofmlhgaaGreatDoorJPairD
/- pair.Floor of any cells. Printed by pairdiv.py. -/
namespace Go.Proofs.YtkbchpaofmlhgaaGreatDoor
open Go.RowKit

set_option maxRecDepth 100000 in
set_option maxHeartbeats 8000000 in
theorem Floor_tot (p : Int × Int) (b : Int) (h1 : Cell64 p.1) (h2 : Cell64 p.2) (hb : Cell64 b) (w : World) :
    Calls Tryz.prog 101 #[pairW p, .int .i64 b] w fun e w' => e = .returned (.tuple #[.int .i64 (floorT p b).1.1, .int .i64 (floorT p b).1.2, .int .i64 (floorT p b).2]) ∧ Touch [] w w' := by
  obtain ⟨x, y⟩ := p
  have hSz := fun w => Size_pair (x, y) w
  have hOf := fun w => Of_any b w
  have hSb := fun w => Size_pair (ofP b) w
  have hU := fun w => UDiv_tot (sizeP (x, y)) (sizeP (ofP b)).1 (sizeP_cell (x, y) h1 h2).1 (sizeP_cell (x, y) h1 h2).2 (sizeP_cell (ofP b) (ofP_cells b hb).1 (ofP_cells b hb).2).1 w
  obtain ⟨R, hR⟩ : ∃ R, floorT (x, y) b = R := ⟨_, rfl⟩
  rw [hR]
  unfold floorT at hR
  obtain ⟨u, hu⟩ : ∃ u, udivT (sizeP (x, y)) (sizeP (ofP b)).1 = u := ⟨_, rfl⟩
  rw [hu] at hU hR
  simp only [] at hR
  clear hu
  obtain ⟨⟨sx, sy⟩, hs⟩ : ∃ r, sizeP (x, y) = r := ⟨_, rfl⟩
  rw [hs] at hSz hU
  clear hs
  obtain ⟨⟨tx, ty⟩, ht⟩ : ∃ r, sizeP (ofP b) = r := ⟨_, rfl⟩
  rw [ht] at hSb hU
  clear ht
  obtain ⟨⟨ox, oy⟩, ho⟩ : ∃ r, ofP b = r := ⟨_, rfl⟩
  rw [ho] at hOf hSb
  clear ho h1 h2 hb
  obtain ⟨⟨lf, q⟩, ee⟩ := u
  simp only [] at hU hR
  unfold pairW at *
  have H0 := Lib.hid (And.intro (Blk.new w 38 #[.int .i64 x, .int .i64 y]) ((Touch.refl [] w).alloc (.cells #[.int .i64 x, .int .i64 y] 38)))
  have HR := Lib.hid hR
  clear hR
  have hFl := fun w => field_lo tx ty w
  go_enter Tryz.func101, Tryz.ntmps101
  go_wp2_with fail
  refine (hSz _).mono ?_
  rintro _ w1 ⟨rfl, t1⟩
  have H1 := Lib.hid (And.intro (H0.out.1.touch t1 (by simp)) (H0.out.2.trans t1 (by simp)))
  clear t1 hSz
  go_wp2_with fail
  refine (hOf _).mono ?_
  rintro _ w2 ⟨rfl, t2⟩
  have H2 := Lib.hid (And.intro (H1.out.1.touch t2 (by simp)) (H1.out.2.trans t2 (by simp)))
  clear t2 hOf
  go_wp2_with fail
  refine (hSb _).mono ?_
  rintro _ w3 ⟨rfl, t3⟩
  have H3 := Lib.hid (And.intro (H2.out.1.touch t3 (by simp)) (H2.out.2.trans t3 (by simp)))
  clear t3 hSb
  go_wp2_with fail
  refine (hU _).mono ?_
  rintro _ w4 ⟨rfl, t4⟩
  have H4 := Lib.hid (And.intro (H3.out.1.touch t4 (by simp)) (H3.out.2.trans t4 (by simp)))
  clear t4 hU
  by_cases he : ee = 0
  rotate_left
  · have HX : Hid (R = ((0, 0), ee)) := by
      have := HR.out
      rw [if_pos he] at this
      exact this.symm
    clear HR
    go_wp2_with fail
    go_ret3
    exact ⟨by rw [HX.out]; rfl, H4.out.2⟩
  have HR := Lib.hid (by have := HR.out; rwa [if_neg (fun h => h he)] at this)
  subst he
  have b10 := Blk.new w4 38 #[.int .i64 q, .int .i64 0]
  have b2 := H4.out.1.alloc (.cells #[.int .i64 q, .int .i64 0] 38)
  have T4 := H4.out.2.alloc (.cells #[.int .i64 q, .int .i64 0] 38)
  have hz4 : w.heap.size ≤ w4.heap.size := H4.out.2.size
  have hlt : w.heap.size < w4.heap.size := H4.out.1.lt
  have c1 := b2.cell 1
  have d0 := b10.cell 0
  have d1 := b10.cell 1
  have hz4 := Lib.hid hz4
  have hlt := Lib.hid hlt
  by_cases hs : bits .xor .i64 y b < 0
  · have HR := Lib.hid (by have := HR.out; rwa [if_pos hs] at this)
    have hN := fun w => Neg_any (q, 0) w
    obtain ⟨⟨n0, n1⟩, hn⟩ : ∃ r, negP (q, 0) = r := ⟨_, rfl⟩
    have HR := Lib.hid (by have := HR.out; rwa [hn] at this)
    rw [hn] at hN
    clear hn
    unfold pairW at hN
    go_wp2_with fail
    refine (hN _).mono ?_
    rintro _ w5 ⟨rfl, t5⟩
    have k10 := b10.touch t5 (by simp)
    have k2 := b2.touch t5 (by simp)
    have T5 := T4.trans t5 (by simp)
    have e0 := k10.cell 0
    have e1 := k10.cell 1
    have f0 := k10.frozen 0
    have f1 := k10.frozen 1
    clear c1 d0 d1 b10 b2 T4 t5
    have c1 := k2.cell 1
    go_upto_region 7 with fail
    have H6 := Lib.hid (And.intro (k2.two_far (Nat.ne_of_lt hlt.out) (.int .i64 n0) (.int .i64 n1)) (And.intro (k10.two_set (.int .i64 n0) (.int .i64 n1)) ((T5.setCell (p := ⟨w4.heap.size, 0, none⟩) (.inr hz4.out) (.int .i64 n0)).setCell (p := ⟨w4.heap.size, 1, none⟩) (.inr hz4.out) (.int .i64 n1))))
    clear k2 k10 T5 e0 e1 f0 f1 c1
    generalize (w5.setCell ⟨w4.heap.size, 0, none⟩ (.int .i64 n0)).setCell ⟨w4.heap.size, 1, none⟩ (.int .i64 n1) = w6 at *
    by_cases hy : y < 0
    · have HR := Lib.hid (by have := HR.out; rwa [if_pos hy] at this)
      obtain ⟨lw, hlw⟩ : ∃ z, wrap64 (-lf) = z := ⟨_, rfl⟩
      have HR := Lib.hid (by have := HR.out; rwa [hlw] at this)
      have HLW := Lib.hid hlw
      by_cases hl : lw = 0
      · have hno : ¬ (¬ lw = 0 ∧ bits .xor .i64 y b < 0) := fun h => h.1 hl
        have HR := Lib.hid (by have := HR.out; simp only [if_neg hno] at this; exact this)
        clear hno
        have hl0 : (wrap64 (-lf) != 0) = false := by simp [hlw, hl]
        clear hl hlw
        have hOw := fun w => Of_any n0 w
        have hNe := fun w => pair_neqT (n0, n1) (ofP n0) w
        by_cases hf : (n0, n1) = ofP n0
        · have HX : Hid (R = ((lw, n0), 0)) := by
            have := HR.out
            rw [if_pos hf] at this
            exact this.symm
          have hNe := fun w => (hNe w).trans (by rw [decide_eq_false (fun h => h hf)])
          clear hf HR
          obtain ⟨⟨vx, vy⟩, hv⟩ : ∃ r, ofP n0 = r := ⟨_, rfl⟩
          rw [hv] at hOw hNe
          clear hv
          simp only [] at hNe
          unfold pairW at hOw
          have c1 := H6.out.1.cell 1
          have d0 := H6.out.2.1.cell 0
          have d1 := H6.out.2.1.cell 1
          go_upto_region 12 with fail
          have g0 := cell_quiet ((Touch.refl [] w6).drew) d0
          have g1 := cell_quiet ((Touch.refl [] w6).drew) d1
          go_region_with (go_at_call 105; refine (hOw _).mono ?_; rintro _ w7 ⟨rfl, t7⟩; have m0 := cell_quiet t7 g0; have m1 := cell_quiet t7 g1; have T7 := Lib.hid (H6.out.2.2.trans t7.of_drew (by simp)); clear t7)
          all_goals go_wp2_with fail
          all_goals go_quiet (fail)
          all_goals go_wp2_with fail
          all_goals go_ret3
          all_goals exact ⟨by rw [HX.out, ← HLW.out]; rfl, T7.out.drewN _⟩
        · have HX : Hid (R = ((0, 0), -11)) := by
            have := HR.out
            rw [if_neg hf] at this
            exact this.symm
          have hNe := fun w => (hNe w).trans (by rw [decide_eq_true hf])
          clear hf HR
          obtain ⟨⟨vx, vy⟩, hv⟩ : ∃ r, ofP n0 = r := ⟨_, rfl⟩
          rw [hv] at hOw hNe
          clear hv
          simp only [] at hNe
          unfold pairW at hOw
          have c1 := H6.out.1.cell 1
          have d0 := H6.out.2.1.cell 0
          have d1 := H6.out.2.1.cell 1
          go_upto_region 12 with fail
          have g0 := cell_quiet ((Touch.refl [] w6).drew) d0
          have g1 := cell_quiet ((Touch.refl [] w6).drew) d1
          go_region_with (go_at_call 105; refine (hOw _).mono ?_; rintro _ w7 ⟨rfl, t7⟩; have m0 := cell_quiet t7 g0; have m1 := cell_quiet t7 g1; have T7 := Lib.hid (H6.out.2.2.trans t7.of_drew (by simp)); clear t7)
          all_goals go_wp2_with fail
          all_goals go_ret3
          all_goals exact ⟨by rw [HX.out]; rfl, T7.out⟩
      · have hyes : ¬ lw = 0 ∧ bits .xor .i64 y b < 0 := ⟨hl, hs⟩
        have HR := Lib.hid (by have := HR.out; simp only [if_pos hyes] at this; exact this)
        clear hyes
        have hl0 : (wrap64 (-lf) != 0) = true := by simp [hlw, hl]
        clear hl hlw
        have hM := fun w => Of_any (-1) w
        have hAd := fun w => Add_any (n0, n1) (ofP (-1)) w
        obtain ⟨⟨mx, my⟩, hm⟩ : ∃ r, addP (n0, n1) (ofP (-1)) = r := ⟨_, rfl⟩
        have HR := Lib.hid (by have := HR.out; rwa [hm] at this)
        rw [hm] at hAd
        clear hm
        obtain ⟨⟨kx, ky⟩, hk⟩ : ∃ r, ofP (-1) = r := ⟨_, rfl⟩
        rw [hk] at hM hAd
        clear hk
        unfold pairW at hM hAd
        have c1 := H6.out.1.cell 1
        have d0 := H6.out.2.1.cell 0
        have d1 := H6.out.2.1.cell 1
        go_upto_region 11 with fail
        have g0 := cell_quiet ((Touch.refl [] w6).drew) d0
        have g1 := cell_quiet ((Touch.refl [] w6).drew) d1
        go_cut [53] from 51 to 53 (fun _ wx => Blk wx w.heap.size 38 #[.int .i64 x, .int .i64 y] ∧ Blk wx w4.heap.size 38 #[.int .i64 mx, .int .i64 my] ∧ Touch [] w wx)
        case first =>
          go_region_with (first | (go_at_call 105; refine (hM _).mono ?_; rintro _ w7 ⟨rfl, t7⟩; have m0 := cell_quiet t7 g0; have m1 := cell_quiet t7 g1; have T7 := Lib.hid t7.of_drew; clear t7) | (go_at_call 107; refine (hAd _).mono ?_; rintro _ w8 ⟨rfl, t8⟩; have T8 := T7.out.trans t8 (by simp); have n10 := H6.out.2.1.touch T8 (by simp); have e0 := n10.cell 0; have e1 := n10.cell 1; have f0 := n10.frozen 0; have f1 := n10.frozen 1; have H8 := Lib.hid (And.intro (H6.out.1.touch T8 (by simp)) (And.intro n10 (H6.out.2.2.trans T8 (by simp)))); clear T8 n10))
          all_goals (go_wp2_with fail; go_meet; exact ⟨H8.out.1.two_far (Nat.ne_of_lt hlt.out) (.int .i64 mx) (.int .i64 my), H8.out.2.1.two_set (.int .i64 mx) (.int .i64 my), (H8.out.2.2.setCell (p := ⟨w4.heap.size, 0, none⟩) (.inr hz4.out) (.int .i64 mx)).setCell (p := ⟨w4.heap.size, 1, none⟩) (.inr hz4.out) (.int .i64 my)⟩)
        case rest =>
          clear H6 g0 g1 c1 d0 d1
          have H6 := Lib.hid hcut
          clear hcut
          have hOw := fun w => Of_any mx w
          have hNe := fun w => pair_neqT (mx, my) (ofP mx) w
          by_cases hf : (mx, my) = ofP mx
          · have HX : Hid (R = ((wrap64 (lw + b), mx), 0)) := by
              have := HR.out
              rw [if_pos hf] at this
              exact this.symm
            have hNe := fun w => (hNe w).trans (by rw [decide_eq_false (fun h => h hf)])
            clear hf HR
            obtain ⟨⟨vx, vy⟩, hv⟩ : ∃ r, ofP mx = r := ⟨_, rfl⟩
            rw [hv] at hOw hNe
            clear hv
            simp only [] at hNe
            unfold pairW at hOw
            have c1 := H6.out.1.cell 1
            have d0 := H6.out.2.1.cell 0
            have d1 := H6.out.2.1.cell 1
            go_upto_region 12 with fail
            have g0 := cell_quiet ((Touch.refl [] wc).drew) d0
            have g1 := cell_quiet ((Touch.refl [] wc).drew) d1
            go_region_with (go_at_call 105; refine (hOw _).mono ?_; rintro _ w7 ⟨rfl, t7⟩; have m0 := cell_quiet t7 g0; have m1 := cell_quiet t7 g1; have T7 := Lib.hid (H6.out.2.2.trans t7.of_drew (by simp)); clear t7)
            all_goals go_wp2_with fail
            all_goals go_quiet (fail)
            all_goals go_wp2_with fail
            all_goals go_ret3
            all_goals exact ⟨by rw [HX.out, ← HLW.out]; rfl, T7.out.drewN _⟩
          · have HX : Hid (R = ((0, 0), -11)) := by
              have := HR.out
              rw [if_neg hf] at this
              exact this.symm
            have hNe := fun w => (hNe w).trans (by rw [decide_eq_true hf])
            clear hf HR
            obtain ⟨⟨vx, vy⟩, hv⟩ : ∃ r, ofP mx = r := ⟨_, rfl⟩
            rw [hv] at hOw hNe
            clear hv
            simp only [] at hNe
            unfold pairW at hOw
            have c1 := H6.out.1.cell 1
            have d0 := H6.out.2.1.cell 0
            have d1 := H6.out.2.1.cell 1
            go_upto_region 12 with fail
            have g0 := cell_quiet ((Touch.refl [] wc).drew) d0
            have g1 := cell_quiet ((Touch.refl [] wc).drew) d1
            go_region_with (go_at_call 105; refine (hOw _).mono ?_; rintro _ w7 ⟨rfl, t7⟩; have m0 := cell_quiet t7 g0; have m1 := cell_quiet t7 g1; have T7 := Lib.hid (H6.out.2.2.trans t7.of_drew (by simp)); clear t7)
            all_goals go_wp2_with fail
            all_goals go_ret3
            all_goals exact ⟨by rw [HX.out]; rfl, T7.out⟩
    · have HR := Lib.hid (by have := HR.out; rwa [if_neg hy] at this)
      obtain ⟨lw, hlw⟩ : ∃ z, lf = z := ⟨_, rfl⟩
      have HR := Lib.hid (by have := HR.out; rwa [hlw] at this)
      have HLW := Lib.hid hlw
      by_cases hl : lw = 0
      · have hno : ¬ (¬ lw = 0 ∧ bits .xor .i64 y b < 0) := fun h => h.1 hl
        have HR := Lib.hid (by have := HR.out; simp only [if_neg hno] at this; exact this)
        clear hno
        have hl0 : (lf != 0) = false := by simp [hlw, hl]
        clear hl hlw
        have hOw := fun w => Of_any n0 w
        have hNe := fun w => pair_neqT (n0, n1) (ofP n0) w
        by_cases hf : (n0, n1) = ofP n0
        · have HX : Hid (R = ((lw, n0), 0)) := by
            have := HR.out
            rw [if_pos hf] at this
            exact this.symm
          have hNe := fun w => (hNe w).trans (by rw [decide_eq_false (fun h => h hf)])
          clear hf HR
          obtain ⟨⟨vx, vy⟩, hv⟩ : ∃ r, ofP n0 = r := ⟨_, rfl⟩
          rw [hv] at hOw hNe
          clear hv
          simp only [] at hNe
          unfold pairW at hOw
          have c1 := H6.out.1.cell 1
          have d0 := H6.out.2.1.cell 0
          have d1 := H6.out.2.1.cell 1
          go_upto_region 12 with fail
          have g0 := cell_quiet ((Touch.refl [] w6).drew) d0
          have g1 := cell_quiet ((Touch.refl [] w6).drew) d1
          go_region_with (go_at_call 105; refine (hOw _).mono ?_; rintro _ w7 ⟨rfl, t7⟩; have m0 := cell_quiet t7 g0; have m1 := cell_quiet t7 g1; have T7 := Lib.hid (H6.out.2.2.trans t7.of_drew (by simp)); clear t7)
          all_goals go_wp2_with fail
          all_goals go_quiet (fail)
          all_goals go_wp2_with fail
          all_goals go_ret3
          all_goals exact ⟨by rw [HX.out, ← HLW.out]; rfl, T7.out.drewN _⟩
        · have HX : Hid (R = ((0, 0), -11)) := by
            have := HR.out
            rw [if_neg hf] at this
            exact this.symm
          have hNe := fun w => (hNe w).trans (by rw [decide_eq_true hf])
          clear hf HR
          obtain ⟨⟨vx, vy⟩, hv⟩ : ∃ r, ofP n0 = r := ⟨_, rfl⟩
          rw [hv] at hOw hNe
          clear hv
          simp only [] at hNe
          unfold pairW at hOw
          have c1 := H6.out.1.cell 1
          have d0 := H6.out.2.1.cell 0
          have d1 := H6.out.2.1.cell 1
          go_upto_region 12 with fail
          have g0 := cell_quiet ((Touch.refl [] w6).drew) d0
          have g1 := cell_quiet ((Touch.refl [] w6).drew) d1
          go_region_with (go_at_call 105; refine (hOw _).mono ?_; rintro _ w7 ⟨rfl, t7⟩; have m0 := cell_quiet t7 g0; have m1 := cell_quiet t7 g1; have T7 := Lib.hid (H6.out.2.2.trans t7.of_drew (by simp)); clear t7)
          all_goals go_wp2_with fail
          all_goals go_ret3
          all_goals exact ⟨by rw [HX.out]; rfl, T7.out⟩
      · have hyes : ¬ lw = 0 ∧ bits .xor .i64 y b < 0 := ⟨hl, hs⟩
        have HR := Lib.hid (by have := HR.out; simp only [if_pos hyes] at this; exact this)
        clear hyes
        have hl0 : (lf != 0) = true := by simp [hlw, hl]
        clear hl hlw
        have hM := fun w => Of_any (-1) w
        have hAd := fun w => Add_any (n0, n1) (ofP (-1)) w
        obtain ⟨⟨mx, my⟩, hm⟩ : ∃ r, addP (n0, n1) (ofP (-1)) = r := ⟨_, rfl⟩
        have HR := Lib.hid (by have := HR.out; rwa [hm] at this)
        rw [hm] at hAd
        clear hm
        obtain ⟨⟨kx, ky⟩, hk⟩ : ∃ r, ofP (-1) = r := ⟨_, rfl⟩
        rw [hk] at hM hAd
        clear hk
        unfold pairW at hM hAd
        have c1 := H6.out.1.cell 1
        have d0 := H6.out.2.1.cell 0
        have d1 := H6.out.2.1.cell 1
        go_upto_region 11 with fail
        have g0 := cell_quiet ((Touch.refl [] w6).drew) d0
        have g1 := cell_quiet ((Touch.refl [] w6).drew) d1
        go_cut [53] from 51 to 53 (fun _ wx => Blk wx w.heap.size 38 #[.int .i64 x, .int .i64 y] ∧ Blk wx w4.heap.size 38 #[.int .i64 mx, .int .i64 my] ∧ Touch [] w wx)
        case first =>
          go_region_with (first | (go_at_call 105; refine (hM _).mono ?_; rintro _ w7 ⟨rfl, t7⟩; have m0 := cell_quiet t7 g0; have m1 := cell_quiet t7 g1; have T7 := Lib.hid t7.of_drew; clear t7) | (go_at_call 107; refine (hAd _).mono ?_; rintro _ w8 ⟨rfl, t8⟩; have T8 := T7.out.trans t8 (by simp); have n10 := H6.out.2.1.touch T8 (by simp); have e0 := n10.cell 0; have e1 := n10.cell 1; have f0 := n10.frozen 0; have f1 := n10.frozen 1; have H8 := Lib.hid (And.intro (H6.out.1.touch T8 (by simp)) (And.intro n10 (H6.out.2.2.trans T8 (by simp)))); clear T8 n10))
          all_goals (go_wp2_with fail; go_meet; exact ⟨H8.out.1.two_far (Nat.ne_of_lt hlt.out) (.int .i64 mx) (.int .i64 my), H8.out.2.1.two_set (.int .i64 mx) (.int .i64 my), (H8.out.2.2.setCell (p := ⟨w4.heap.size, 0, none⟩) (.inr hz4.out) (.int .i64 mx)).setCell (p := ⟨w4.heap.size, 1, none⟩) (.inr hz4.out) (.int .i64 my)⟩)
        case rest =>
          clear H6 g0 g1 c1 d0 d1
          have H6 := Lib.hid hcut
          clear hcut
          have hOw := fun w => Of_any mx w
          have hNe := fun w => pair_neqT (mx, my) (ofP mx) w
          by_cases hf : (mx, my) = ofP mx
          · have HX : Hid (R = ((wrap64 (lw + b), mx), 0)) := by
              have := HR.out
              rw [if_pos hf] at this
              exact this.symm
            have hNe := fun w => (hNe w).trans (by rw [decide_eq_false (fun h => h hf)])
            clear hf HR
            obtain ⟨⟨vx, vy⟩, hv⟩ : ∃ r, ofP mx = r := ⟨_, rfl⟩
            rw [hv] at hOw hNe
            clear hv
            simp only [] at hNe
            unfold pairW at hOw
            have c1 := H6.out.1.cell 1
            have d0 := H6.out.2.1.cell 0
            have d1 := H6.out.2.1.cell 1
            go_upto_region 12 with fail
            have g0 := cell_quiet ((Touch.refl [] wc).drew) d0
            have g1 := cell_quiet ((Touch.refl [] wc).drew) d1
            go_region_with (go_at_call 105; refine (hOw _).mono ?_; rintro _ w7 ⟨rfl, t7⟩; have m0 := cell_quiet t7 g0; have m1 := cell_quiet t7 g1; have T7 := Lib.hid (H6.out.2.2.trans t7.of_drew (by simp)); clear t7)
            all_goals go_wp2_with fail
            all_goals go_quiet (fail)
            all_goals go_wp2_with fail
            all_goals go_ret3
            all_goals exact ⟨by rw [HX.out, ← HLW.out]; rfl, T7.out.drewN _⟩
          · have HX : Hid (R = ((0, 0), -11)) := by
              have := HR.out
              rw [if_neg hf] at this
              exact this.symm
            have hNe := fun w => (hNe w).trans (by rw [decide_eq_true hf])
            clear hf HR
            obtain ⟨⟨vx, vy⟩, hv⟩ : ∃ r, ofP mx = r := ⟨_, rfl⟩
            rw [hv] at hOw hNe
            clear hv
            simp only [] at hNe
            unfold pairW at hOw
            have c1 := H6.out.1.cell 1
            have d0 := H6.out.2.1.cell 0
            have d1 := H6.out.2.1.cell 1
            go_upto_region 12 with fail
            have g0 := cell_quiet ((Touch.refl [] wc).drew) d0
            have g1 := cell_quiet ((Touch.refl [] wc).drew) d1
            go_region_with (go_at_call 105; refine (hOw _).mono ?_; rintro _ w7 ⟨rfl, t7⟩; have m0 := cell_quiet t7 g0; have m1 := cell_quiet t7 g1; have T7 := Lib.hid (H6.out.2.2.trans t7.of_drew (by simp)); clear t7)
            all_goals go_wp2_with fail
            all_goals go_ret3
            all_goals exact ⟨by rw [HX.out]; rfl, T7.out⟩
  · have HR := Lib.hid (by have := HR.out; rwa [if_neg hs] at this)
    go_upto_region 7 with fail
    have H6 := Lib.hid (And.intro b2 (And.intro b10 T4))
    clear b2 b10 T4 c1 d0 d1
    generalize w4.alloc (.cells #[.int .i64 q, .int .i64 0] 38) = w6 at *
    by_cases hy : y < 0
    · have HR := Lib.hid (by have := HR.out; rwa [if_pos hy] at this)
      have hno : ¬ (¬ wrap64 (-lf) = 0 ∧ bits .xor .i64 y b < 0) := fun h => by have := h.2; omega
      have HR := Lib.hid (by have := HR.out; simp only [if_neg hno] at this; exact this)
      clear hno
      by_cases hl : wrap64 (-lf) = 0
      · have hl0 : (wrap64 (-lf) != 0) = false := by simp [hl]
        clear hl
        have hOw := fun w => Of_any q w
        have hNe := fun w => pair_neqT (q, 0) (ofP q) w
        by_cases hf : (q, 0) = ofP q
        · have HX : Hid (R = ((wrap64 (-lf), q), 0)) := by
            have := HR.out
            rw [if_pos hf] at this
            exact this.symm
          have hNe := fun w => (hNe w).trans (by rw [decide_eq_false (fun h => h hf)])
          clear hf HR
          obtain ⟨⟨vx, vy⟩, hv⟩ : ∃ r, ofP q = r := ⟨_, rfl⟩
          rw [hv] at hOw hNe
          clear hv
          simp only [] at hNe
          unfold pairW at hOw
          have c1 := H6.out.1.cell 1
          have d0 := H6.out.2.1.cell 0
          have d1 := H6.out.2.1.cell 1
          go_upto_region 12 with fail
          have g0 := cell_quiet ((Touch.refl [] w6).drew) d0
          have g1 := cell_quiet ((Touch.refl [] w6).drew) d1
          go_region_with (go_at_call 105; refine (hOw _).mono ?_; rintro _ w7 ⟨rfl, t7⟩; have m0 := cell_quiet t7 g0; have m1 := cell_quiet t7 g1; have T7 := Lib.hid (H6.out.2.2.trans t7.of_drew (by simp)); clear t7)
          all_goals go_wp2_with fail
          all_goals go_quiet (fail)
          all_goals go_wp2_with fail
          all_goals go_ret3
          all_goals exact ⟨by rw [HX.out]; rfl, T7.out.drewN _⟩
        · have HX : Hid (R = ((0, 0), -11)) := by
            have := HR.out
            rw [if_neg hf] at this
            exact this.symm
          have hNe := fun w => (hNe w).trans (by rw [decide_eq_true hf])
          clear hf HR
          obtain ⟨⟨vx, vy⟩, hv⟩ : ∃ r, ofP q = r := ⟨_, rfl⟩
          rw [hv] at hOw hNe
          clear hv
          simp only [] at hNe
          unfold pairW at hOw
          have c1 := H6.out.1.cell 1
          have d0 := H6.out.2.1.cell 0
          have d1 := H6.out.2.1.cell 1
          go_upto_region 12 with fail
          have g0 := cell_quiet ((Touch.refl [] w6).drew) d0
          have g1 := cell_quiet ((Touch.refl [] w6).drew) d1
          go_region_with (go_at_call 105; refine (hOw _).mono ?_; rintro _ w7 ⟨rfl, t7⟩; have m0 := cell_quiet t7 g0; have m1 := cell_quiet t7 g1; have T7 := Lib.hid (H6.out.2.2.trans t7.of_drew (by simp)); clear t7)
          all_goals go_wp2_with fail
          all_goals go_ret3
          all_goals exact ⟨by rw [HX.out]; rfl, T7.out⟩
      · have hl0 : (wrap64 (-lf) != 0) = true := by simp [hl]
        clear hl
        have hOw := fun w => Of_any q w
        have hNe := fun w => pair_neqT (q, 0) (ofP q) w
        by_cases hf : (q, 0) = ofP q
        · have HX : Hid (R = ((wrap64 (-lf), q), 0)) := by
            have := HR.out
            rw [if_pos hf] at this
            exact this.symm
          have hNe := fun w => (hNe w).trans (by rw [decide_eq_false (fun h => h hf)])
          clear hf HR
          obtain ⟨⟨vx, vy⟩, hv⟩ : ∃ r, ofP q = r := ⟨_, rfl⟩
          rw [hv] at hOw hNe
          clear hv
          simp only [] at hNe
          unfold pairW at hOw
          have c1 := H6.out.1.cell 1
          have d0 := H6.out.2.1.cell 0
          have d1 := H6.out.2.1.cell 1
          go_upto_region 12 with fail
          have g0 := cell_quiet ((Touch.refl [] w6).drew) d0
          have g1 := cell_quiet ((Touch.refl [] w6).drew) d1
          go_region_with (go_at_call 105; refine (hOw _).mono ?_; rintro _ w7 ⟨rfl, t7⟩; have m0 := cell_quiet t7 g0; have m1 := cell_quiet t7 g1; have T7 := Lib.hid (H6.out.2.2.trans t7.of_drew (by simp)); clear t7)
          all_goals go_wp2_with fail
          all_goals go_quiet (fail)
          all_goals go_wp2_with fail
          all_goals go_ret3
          all_goals exact ⟨by rw [HX.out]; rfl, T7.out.drewN _⟩
        · have HX : Hid (R = ((0, 0), -11)) := by
            have := HR.out
            rw [if_neg hf] at this
            exact this.symm
          have hNe := fun w => (hNe w).trans (by rw [decide_eq_true hf])
          clear hf HR
          obtain ⟨⟨vx, vy⟩, hv⟩ : ∃ r, ofP q = r := ⟨_, rfl⟩
          rw [hv] at hOw hNe
          clear hv
          simp only [] at hNe
          unfold pairW at hOw
          have c1 := H6.out.1.cell 1
          have d0 := H6.out.2.1.cell 0
          have d1 := H6.out.2.1.cell 1
          go_upto_region 12 with fail
          have g0 := cell_quiet ((Touch.refl [] w6).drew) d0
          have g1 := cell_quiet ((Touch.refl [] w6).drew) d1
          go_region_with (go_at_call 105; refine (hOw _).mono ?_; rintro _ w7 ⟨rfl, t7⟩; have m0 := cell_quiet t7 g0; have m1 := cell_quiet t7 g1; have T7 := Lib.hid (H6.out.2.2.trans t7.of_drew (by simp)); clear t7)
          all_goals go_wp2_with fail
          all_goals go_ret3
          all_goals exact ⟨by rw [HX.out]; rfl, T7.out⟩
    · have HR := Lib.hid (by have := HR.out; rwa [if_neg hy] at this)
      have hno : ¬ (¬ lf = 0 ∧ bits .xor .i64 y b < 0) := fun h => by have := h.2; omega
      have HR := Lib.hid (by have := HR.out; simp only [if_neg hno] at this; exact this)
      clear hno
      by_cases hl : lf = 0
      · have hl0 : (lf != 0) = false := by simp [hl]
        clear hl
        have hOw := fun w => Of_any q w
        have hNe := fun w => pair_neqT (q, 0) (ofP q) w
        by_cases hf : (q, 0) = ofP q
        · have HX : Hid (R = ((lf, q), 0)) := by
            have := HR.out
            rw [if_pos hf] at this
            exact this.symm
          have hNe := fun w => (hNe w).trans (by rw [decide_eq_false (fun h => h hf)])
          clear hf HR
          obtain ⟨⟨vx, vy⟩, hv⟩ : ∃ r, ofP q = r := ⟨_, rfl⟩
          rw [hv] at hOw hNe
          clear hv
          simp only [] at hNe
          unfold pairW at hOw
          have c1 := H6.out.1.cell 1
          have d0 := H6.out.2.1.cell 0
          have d1 := H6.out.2.1.cell 1
          go_upto_region 12 with fail
          have g0 := cell_quiet ((Touch.refl [] w6).drew) d0
          have g1 := cell_quiet ((Touch.refl [] w6).drew) d1
          go_region_with (go_at_call 105; refine (hOw _).mono ?_; rintro _ w7 ⟨rfl, t7⟩; have m0 := cell_quiet t7 g0; have m1 := cell_quiet t7 g1; have T7 := Lib.hid (H6.out.2.2.trans t7.of_drew (by simp)); clear t7)
          all_goals go_wp2_with fail
          all_goals go_quiet (fail)
          all_goals go_wp2_with fail
          all_goals go_ret3
          all_goals exact ⟨by rw [HX.out]; rfl, T7.out.drewN _⟩
        · have HX : Hid (R = ((0, 0), -11)) := by
            have := HR.out
            rw [if_neg hf] at this
            exact this.symm
          have hNe := fun w => (hNe w).trans (by rw [decide_eq_true hf])
          clear hf HR
          obtain ⟨⟨vx, vy⟩, hv⟩ : ∃ r, ofP q = r := ⟨_, rfl⟩
          rw [hv] at hOw hNe
          clear hv
          simp only [] at hNe
          unfold pairW at hOw
          have c1 := H6.out.1.cell 1
          have d0 := H6.out.2.1.cell 0
          have d1 := H6.out.2.1.cell 1
          go_upto_region 12 with fail
          have g0 := cell_quiet ((Touch.refl [] w6).drew) d0
          have g1 := cell_quiet ((Touch.refl [] w6).drew) d1
          go_region_with (go_at_call 105; refine (hOw _).mono ?_; rintro _ w7 ⟨rfl, t7⟩; have m0 := cell_quiet t7 g0; have m1 := cell_quiet t7 g1; have T7 := Lib.hid (H6.out.2.2.trans t7.of_drew (by simp)); clear t7)
          all_goals go_wp2_with fail
          all_goals go_ret3
          all_goals exact ⟨by rw [HX.out]; rfl, T7.out⟩
      · have hl0 : (lf != 0) = true := by simp [hl]
        clear hl
        have hOw := fun w => Of_any q w
        have hNe := fun w => pair_neqT (q, 0) (ofP q) w
        by_cases hf : (q, 0) = ofP q
        · have HX : Hid (R = ((lf, q), 0)) := by
            have := HR.out
            rw [if_pos hf] at this
            exact this.symm
          have hNe := fun w => (hNe w).trans (by rw [decide_eq_false (fun h => h hf)])
          clear hf HR
          obtain ⟨⟨vx, vy⟩, hv⟩ : ∃ r, ofP q = r := ⟨_, rfl⟩
          rw [hv] at hOw hNe
          clear hv
          simp only [] at hNe
          unfold pairW at hOw
          have c1 := H6.out.1.cell 1
          have d0 := H6.out.2.1.cell 0
          have d1 := H6.out.2.1.cell 1
          go_upto_region 12 with fail
          have g0 := cell_quiet ((Touch.refl [] w6).drew) d0
          have g1 := cell_quiet ((Touch.refl [] w6).drew) d1
          go_region_with (go_at_call 105; refine (hOw _).mono ?_; rintro _ w7 ⟨rfl, t7⟩; have m0 := cell_quiet t7 g0; have m1 := cell_quiet t7 g1; have T7 := Lib.hid (H6.out.2.2.trans t7.of_drew (by simp)); clear t7)
          all_goals go_wp2_with fail
          all_goals go_quiet (fail)
          all_goals go_wp2_with fail
          all_goals go_ret3
          all_goals exact ⟨by rw [HX.out]; rfl, T7.out.drewN _⟩
        · have HX : Hid (R = ((0, 0), -11)) := by
            have := HR.out
            rw [if_neg hf] at this
            exact this.symm
          have hNe := fun w => (hNe w).trans (by rw [decide_eq_true hf])
          clear hf HR
          obtain ⟨⟨vx, vy⟩, hv⟩ : ∃ r, ofP q = r := ⟨_, rfl⟩
          rw [hv] at hOw hNe
          clear hv
          simp only [] at hNe
          unfold pairW at hOw
          have c1 := H6.out.1.cell 1
          have d0 := H6.out.2.1.cell 0
          have d1 := H6.out.2.1.cell 1
          go_upto_region 12 with fail
          have g0 := cell_quiet ((Touch.refl [] w6).drew) d0
          have g1 := cell_quiet ((Touch.refl [] w6).drew) d1
          go_region_with (go_at_call 105; refine (hOw _).mono ?_; rintro _ w7 ⟨rfl, t7⟩; have m0 := cell_quiet t7 g0; have m1 := cell_quiet t7 g1; have T7 := Lib.hid (H6.out.2.2.trans t7.of_drew (by simp)); clear t7)
          all_goals go_wp2_with fail
          all_goals go_ret3
          all_goals exact ⟨by rw [HX.out]; rfl, T7.out⟩
end Go.Proofs.YtkbchpaofmlhgaaGreatDoor
