import Derived.Test.YtkbchpaofmlhgaaGreatDoorNumsA
/- PrimNumbers: the law's walk. Printed by numw.py. -/
namespace Go.Proofs.YtkbchpaofmlhgaaGreatDoor
open Go.RowKit

set_option maxRecDepth 100000 in
set_option maxHeartbeats 6400000 in
theorem PrimNumbers_low (N : Nat) (base : Int) (w : World) (hN : N < 340282366920938463463374607431768211456) (hb6 : Cell6 base) (hb : base < 2) :
    Calls Tryz.prog 4 #[.agg (two N), .int .i64 base] w fun e w' => e = .returned (.bool true) ∧ Touch [] w w' := by
  have hSh := fun w => shown_any w
  have bP := Blk.new w 38 #[.int .i64 (pl N), .int .i64 (ph N)]
  have tP := (Touch.refl [] w).alloc (.cells #[.int .i64 (pl N), .int .i64 (ph N)] 38)
  have hneg := fun W => neg_p N hN _ rfl W
  have HN := Lib.hid (And.intro hN (And.intro hb6 hb))
  have g1 : ¬ base ≥ 2 := by omega
  unfold two
  clear hN hb6 hb
  go_enter Tryz.func4, Tryz.ntmps4
  go_wp2_with fail
  obtain ⟨p0, hp0⟩ : ∃ p0, w.heap.size = p0 := ⟨_, rfl⟩
  obtain ⟨wP, hwP⟩ : ∃ wP, w.alloc (.cells #[.int .i64 (pl N), .int .i64 (ph N)] 38) = wP := ⟨_, rfl⟩
  rw [hwP] at bP tP ⊢
  rw [hp0] at bP ⊢
  have HP := Lib.hid (And.intro bP tP)
  clear bP tP hwP hp0
  refine (hSh _).mono ?_
  rintro _ w1 ⟨rfl, t1⟩
  have hNw := live_new wP w1 t1
  clear hSh t1
  go_wp2_with fail
  refine hNw.mono ?_
  rintro _ w2 ⟨s, S, rfl, hL, hok, h1, h2, h3, _, h5, h6⟩
  have hSt := live_stack hL
  have bM := Blk.new w2 36 #[.int .i64 base, .int .i64 0]
  have hPu := live_put (hL.quiet ((Touch.refl [] w2).alloc (.cells #[.int .i64 base, .int .i64 0] 36))) _ [base, 0] (CellsAt.blk (cs := [base, 0]) bM 2) (by show S.st.length + 2 ≤ 128; rw [h2]; decide)
  rw [h2, List.nil_append] at hPu
  have HS := Lib.hid (And.intro hok (And.intro h1 (And.intro h3 (And.intro h5 h6))))
  clear hNw hL bM hok h1 h2 h3 h5 h6
  go_wp2_with fail
  refine hSt.mono ?_
  rintro _ _ ⟨rfl, rfl⟩
  clear hSt
  go_wp2_with fail
  refine hPu.mono ?_
  rintro _ w3 ⟨rfl, hL3⟩
  have hD := hL3.keep.step (fun F hS => goes_put (s := s) (S := { S with st := [base, 0] }) HS.out.1 [] base 0 rfl (by show 0 + 8 ≤ S.n; rw [HS.out.2.1]; decide) (by decide) (by simp) w3 F hS)
  clear hPu hL3
  go_wp2_with fail
  refine hD.mono ?_
  rintro _ w4 ⟨rfl, hL4, _⟩
  have hNA : ∃ S1 : PS, ({ S with st := [], bs := putF S.bs 0 base 8 } : PS) = S1 ∧ S1.k = S.k ∧ NumAt S1 base := ⟨_, rfl, rfl, ⟨HS.out.1, HS.out.2.1, by
    show (putF S.bs 0 base 8).length = 1024
    rw [putF_len, HS.out.2.2.1]
    unfold bs0
    rw [putF_len, List.length_replicate], by
    show getF (putF S.bs 0 base 8) 0 = base
    rw [getF_put]
    · rw [HS.out.2.2.1]
      unfold bs0
      rw [putF_len, List.length_replicate]
      decide
    · exact HN.out.2.1, HS.out.2.2.2.1, HS.out.2.2.2.2, rfl⟩⟩
  obtain ⟨S1, hS1, hkk, hA⟩ := hNA
  clear hkk
  rw [hS1] at hL4
  have hL4 := hL4.live
  have hBa := live_base_bad hL4 (by rw [hA.n]; decide) (by rw [hA.base]; have := HN.out.2.2; omega)
  have HA := Lib.hid (And.intro hL4 hA)
  clear hD hL4 hS1 hA
  go_wp2_with fail
  refine hBa.mono ?_
  rintro _ w5 ⟨rfl, t5⟩
  have hL5 := HA.out.1.quiet t5
  have bP5 := HP.out.1.touch hL5.t (by simp)
  have c0 := bP5.cell 0
  have c1 := bP5.cell 1
  have b5 := Blk.new w5 38 #[.int .i64 (pl N), .int .i64 (ph N)]
  have hK := hL5.keep.more (b := w5.heap.size) ((Touch.refl [] w5).alloc (.cells #[.int .i64 (pl N), .int .i64 (ph N)] 38)) (Nat.le_refl _) b5.lt
  obtain ⟨w6, hw6⟩ : ∃ w6, w5.alloc (.cells #[.int .i64 (pl N), .int .i64 (ph N)] 38) = w6 := ⟨_, rfl⟩
  rw [hw6] at hK b5
  have bP6 := HP.out.1.touch hK.t (by simp)
  have d0 := bP6.cell 0
  have d1 := bP6.cell 1
  have hz5 := hL5.t.size
  have HK := Lib.hid (And.intro hK b5)
  clear hBa t5 hL5 bP5 b5 hK bP6
  by_cases hsg : ph N < 0
  · as_aux_lemma =>
      have z0 := HK.out.2.cell 0
      have z1 := HK.out.2.cell 1
      go_upto_region 14 with fail
      obtain ⟨p1, hp1⟩ : ∃ p1, w5.heap.size = p1 := ⟨_, rfl⟩
      rw [hp1] at HK ⊢
      rw [hp1] at z0 z1
      clear c0 c1 hw6
      go_wp2_with fail
      refine (hneg _).mono ?_
      rintro _ w7 ⟨rfl, t7⟩
      have b7 := HK.out.2.touch t7 (by simp)
      have q0 := b7.cell 0
      have q1 := b7.cell 1
      have f0 := b7.frozen 0
      have f1 := b7.frozen 1
      have hlow := HP.out.1.lt
      have HK7 := Lib.hid (And.intro (HK.out.1.quiet t7) b7)
      clear b7 t7 d0 d1 z0 z1
      go_upto_region 15 with fail
      have b8 := HK7.out.2.two_set (.int .i64 (pl ((340282366920938463463374607431768211456 - N) % 340282366920938463463374607431768211456))) (.int .i64 (ph ((340282366920938463463374607431768211456 - N) % 340282366920938463463374607431768211456)))
      have hK8 := HK7.out.1.own (by simp) (by rw [← hp1]; exact hz5) (((Touch.refl [p1] w7).setCell (p := ⟨p1, 0, none⟩) (by simp) (.int .i64 (pl ((340282366920938463463374607431768211456 - N) % 340282366920938463463374607431768211456)))).setCell (p := ⟨p1, 1, none⟩) (by simp) (.int .i64 (ph ((340282366920938463463374607431768211456 - N) % 340282366920938463463374607431768211456))))
      clear q0 q1 f0 f1 hneg
      generalize (w7.setCell ⟨p1, 0, none⟩ (.int .i64 (pl ((340282366920938463463374607431768211456 - N) % 340282366920938463463374607431768211456)))).setCell ⟨p1, 1, none⟩ (.int .i64 (ph ((340282366920938463463374607431768211456 - N) % 340282366920938463463374607431768211456))) = w8 at *
      obtain ⟨M, hM⟩ : ∃ M, (340282366920938463463374607431768211456 - N) % 340282366920938463463374607431768211456 = M := ⟨_, rfl⟩
      have HM : Hid (M < 340282366920938463463374607431768211456 ∧ (if ph N < 0 then (340282366920938463463374607431768211456 - N) % 340282366920938463463374607431768211456 else N) = M) := ⟨by rw [← hM]; exact Nat.mod_lt _ (by decide), by rw [if_pos hsg]; exact hM⟩
      rw [hM] at b8
      clear hM
      have HK8 := Lib.hid (And.intro hK8 b8)
      have bP8 := HP.out.1.touch hK8.t (by simp)
      have c0 := bP8.drew.cell 0
      have c1 := bP8.drew.cell 1
      have tA := ((Touch.refl [] w8).alloc (.cells #[.int .i64 (pl N), .int .i64 (ph N)] 36)).drew
      have bA := (Blk.new w8 36 #[.int .i64 (pl N), .int .i64 (ph N)]).drew
      have hSt := fun W (t : Touch [] w8 W) => live_stack (HK8.out.1.quiet t).live
      have hPu := keep_put (hK8.quiet tA) _ [pl N, ph N] (CellsAt.blk (cs := [pl N, ph N]) bA 2) (by show List.length (PS.st _) + 2 ≤ 128; simp [HA.out.2.st])
      have HO := Lib.hid (hK8.on tA)
      rw [show (PS.st S1) = [] from HA.out.2.st, List.nil_append] at hPu
      clear hK8 b8 bP8 tA bA
      go_upto_region 15 with fail
      go_cut [] from 64 to 71 (fun wx => LiveK wP wx s { S1 with st := [pl N, ph N] } [p1] ∧ On [p1] w8 wx)
      case first =>
        as_aux_lemma =>
        go_region_with (first | (go_at_call 12; refine (hSt _ (by first | (with_reducible exact (Touch.refl [] w8).drew) | (with_reducible exact ((Touch.refl [] w8).alloc _).drew))).mono ?_; rintro _ wz ⟨rfl, hw⟩; subst hw) | (go_at_call 13; refine hPu.mono ?_; rintro _ wq ⟨rfl, hq, oq⟩; have HQ := Lib.hid (And.intro hq oq); clear hq oq))
        all_goals (go_wp2_with fail; go_meet; exact ⟨HQ.out.1, HO.out.trans HQ.out.2⟩)
      case rest =>
        obtain ⟨h9, o9⟩ := hcut
        have hD := h9.step (fun F hS => bad_ddot (s := s) (S := { S1 with st := [pl N, ph N] }) HA.out.2.ok N HN.out.1 rfl (by show ¬ (2 ≤ S1.base ∧ S1.base ≤ 36); rw [HA.out.2.base]; have := HN.out.2.2; omega) wc F hS)
        clear hPu h9 o9 hSt c0 c1 HO
        go_wp2_with fail
        refine hD.mono ?_
        rintro _ wE ⟨rfl, hE, oE⟩
        have hO' := live_out hE.live
        have hSk := live_stack hE.live
        have hDp := live_depth hE.live
        change Calls _ _ _ _ (fun e w' => e = .returned (.string (strOfNums S1.out)) ∧ _) at hO'
        rw [HA.out.2.out, show strOfNums [] = (⟨#[]⟩ : ByteArray) from rfl] at hO'
        have HF := Lib.hid (HP.out.2.trans hE.t (by simp))
        clear hD hE oE
        go_wp2_with fail
        refine hO'.mono ?_
        rintro _ _ ⟨rfl, rfl⟩
        clear hO'
        go_wp2_with fail
        refine hSk.mono ?_
        rintro _ _ ⟨rfl, rfl⟩
        clear hSk
        go_wp2_with fail
        refine hDp.mono ?_
        rintro _ _ ⟨rfl, rfl⟩
        clear hDp
        go_wp2_with fail
        go_ret
        exact ⟨rfl, HF.out⟩
  · as_aux_lemma =>
      have HSG := Lib.hid hsg
      go_upto_region 15 with fail
      obtain ⟨p1, hp1⟩ : ∃ p1, w5.heap.size = p1 := ⟨_, rfl⟩
      rw [hp1] at HK ⊢
      obtain ⟨M, hM⟩ : ∃ M, N = M := ⟨_, rfl⟩
      have HM : Hid (M < 340282366920938463463374607431768211456 ∧ (if ph N < 0 then (340282366920938463463374607431768211456 - N) % 340282366920938463463374607431768211456 else N) = M) := ⟨by rw [← hM]; exact HN.out.1, by rw [if_neg (by have := HSG.out; omega)]; exact hM⟩
      obtain ⟨w8, hw8⟩ : ∃ w8, w6 = w8 := ⟨_, rfl⟩
      have b8 := HK.out.2
      have hK8 := HK.out.1
      rw [hw8] at b8 hK8 ⊢
      have b8 : Blk w8 p1 38 #[.int .i64 (pl M), .int .i64 (ph M)] := by rw [← hM]; exact b8
      clear c0 c1 d0 d1 hw6 hw8 hM hsg hneg
      have HK8 := Lib.hid (And.intro hK8 b8)
      have bP8 := HP.out.1.touch hK8.t (by simp)
      have c0 := bP8.drew.cell 0
      have c1 := bP8.drew.cell 1
      have tA := ((Touch.refl [] w8).alloc (.cells #[.int .i64 (pl N), .int .i64 (ph N)] 36)).drew
      have bA := (Blk.new w8 36 #[.int .i64 (pl N), .int .i64 (ph N)]).drew
      have hSt := fun W (t : Touch [] w8 W) => live_stack (HK8.out.1.quiet t).live
      have hPu := keep_put (hK8.quiet tA) _ [pl N, ph N] (CellsAt.blk (cs := [pl N, ph N]) bA 2) (by show List.length (PS.st _) + 2 ≤ 128; simp [HA.out.2.st])
      have HO := Lib.hid (hK8.on tA)
      rw [show (PS.st S1) = [] from HA.out.2.st, List.nil_append] at hPu
      clear hK8 b8 bP8 tA bA
      go_upto_region 15 with fail
      go_cut [] from 64 to 71 (fun wx => LiveK wP wx s { S1 with st := [pl N, ph N] } [p1] ∧ On [p1] w8 wx)
      case first =>
        as_aux_lemma =>
        go_region_with (first | (go_at_call 12; refine (hSt _ (by first | (with_reducible exact (Touch.refl [] w8).drew) | (with_reducible exact ((Touch.refl [] w8).alloc _).drew))).mono ?_; rintro _ wz ⟨rfl, hw⟩; subst hw) | (go_at_call 13; refine hPu.mono ?_; rintro _ wq ⟨rfl, hq, oq⟩; have HQ := Lib.hid (And.intro hq oq); clear hq oq))
        all_goals (go_wp2_with fail; go_meet; exact ⟨HQ.out.1, HO.out.trans HQ.out.2⟩)
      case rest =>
        obtain ⟨h9, o9⟩ := hcut
        have hD := h9.step (fun F hS => bad_ddot (s := s) (S := { S1 with st := [pl N, ph N] }) HA.out.2.ok N HN.out.1 rfl (by show ¬ (2 ≤ S1.base ∧ S1.base ≤ 36); rw [HA.out.2.base]; have := HN.out.2.2; omega) wc F hS)
        clear hPu h9 o9 hSt c0 c1 HO
        go_wp2_with fail
        refine hD.mono ?_
        rintro _ wE ⟨rfl, hE, oE⟩
        have hO' := live_out hE.live
        have hSk := live_stack hE.live
        have hDp := live_depth hE.live
        change Calls _ _ _ _ (fun e w' => e = .returned (.string (strOfNums S1.out)) ∧ _) at hO'
        rw [HA.out.2.out, show strOfNums [] = (⟨#[]⟩ : ByteArray) from rfl] at hO'
        have HF := Lib.hid (HP.out.2.trans hE.t (by simp))
        clear hD hE oE
        go_wp2_with fail
        refine hO'.mono ?_
        rintro _ _ ⟨rfl, rfl⟩
        clear hO'
        go_wp2_with fail
        refine hSk.mono ?_
        rintro _ _ ⟨rfl, rfl⟩
        clear hSk
        go_wp2_with fail
        refine hDp.mono ?_
        rintro _ _ ⟨rfl, rfl⟩
        clear hDp
        go_wp2_with fail
        go_ret
        exact ⟨rfl, HF.out⟩
end Go.Proofs.YtkbchpaofmlhgaaGreatDoor

/- PrimNumbers: the law's walk. Printed by numw.py. -/
namespace Go.Proofs.YtkbchpaofmlhgaaGreatDoor
open Go.RowKit

set_option maxRecDepth 100000 in
set_option maxHeartbeats 6400000 in
theorem PrimNumbers_high (N : Nat) (base : Int) (w : World) (hN : N < 340282366920938463463374607431768211456) (hb6 : Cell6 base) (hb : 36 < base) :
    Calls Tryz.prog 4 #[.agg (two N), .int .i64 base] w fun e w' => e = .returned (.bool true) ∧ Touch [] w w' := by
  have hSh := fun w => shown_any w
  have bP := Blk.new w 38 #[.int .i64 (pl N), .int .i64 (ph N)]
  have tP := (Touch.refl [] w).alloc (.cells #[.int .i64 (pl N), .int .i64 (ph N)] 38)
  have hneg := fun W => neg_p N hN _ rfl W
  have HN := Lib.hid (And.intro hN (And.intro hb6 hb))
  have g1 : base ≥ 2 := by omega
  have g2 : ¬ base ≤ 36 := by omega
  unfold two
  clear hN hb6 hb
  go_enter Tryz.func4, Tryz.ntmps4
  go_wp2_with fail
  obtain ⟨p0, hp0⟩ : ∃ p0, w.heap.size = p0 := ⟨_, rfl⟩
  obtain ⟨wP, hwP⟩ : ∃ wP, w.alloc (.cells #[.int .i64 (pl N), .int .i64 (ph N)] 38) = wP := ⟨_, rfl⟩
  rw [hwP] at bP tP ⊢
  rw [hp0] at bP ⊢
  have HP := Lib.hid (And.intro bP tP)
  clear bP tP hwP hp0
  refine (hSh _).mono ?_
  rintro _ w1 ⟨rfl, t1⟩
  have hNw := live_new wP w1 t1
  clear hSh t1
  go_wp2_with fail
  refine hNw.mono ?_
  rintro _ w2 ⟨s, S, rfl, hL, hok, h1, h2, h3, _, h5, h6⟩
  have hSt := live_stack hL
  have bM := Blk.new w2 36 #[.int .i64 base, .int .i64 0]
  have hPu := live_put (hL.quiet ((Touch.refl [] w2).alloc (.cells #[.int .i64 base, .int .i64 0] 36))) _ [base, 0] (CellsAt.blk (cs := [base, 0]) bM 2) (by show S.st.length + 2 ≤ 128; rw [h2]; decide)
  rw [h2, List.nil_append] at hPu
  have HS := Lib.hid (And.intro hok (And.intro h1 (And.intro h3 (And.intro h5 h6))))
  clear hNw hL bM hok h1 h2 h3 h5 h6
  go_wp2_with fail
  refine hSt.mono ?_
  rintro _ _ ⟨rfl, rfl⟩
  clear hSt
  go_wp2_with fail
  refine hPu.mono ?_
  rintro _ w3 ⟨rfl, hL3⟩
  have hD := hL3.keep.step (fun F hS => goes_put (s := s) (S := { S with st := [base, 0] }) HS.out.1 [] base 0 rfl (by show 0 + 8 ≤ S.n; rw [HS.out.2.1]; decide) (by decide) (by simp) w3 F hS)
  clear hPu hL3
  go_wp2_with fail
  refine hD.mono ?_
  rintro _ w4 ⟨rfl, hL4, _⟩
  have hNA : ∃ S1 : PS, ({ S with st := [], bs := putF S.bs 0 base 8 } : PS) = S1 ∧ S1.k = S.k ∧ NumAt S1 base := ⟨_, rfl, rfl, ⟨HS.out.1, HS.out.2.1, by
    show (putF S.bs 0 base 8).length = 1024
    rw [putF_len, HS.out.2.2.1]
    unfold bs0
    rw [putF_len, List.length_replicate], by
    show getF (putF S.bs 0 base 8) 0 = base
    rw [getF_put]
    · rw [HS.out.2.2.1]
      unfold bs0
      rw [putF_len, List.length_replicate]
      decide
    · exact HN.out.2.1, HS.out.2.2.2.1, HS.out.2.2.2.2, rfl⟩⟩
  obtain ⟨S1, hS1, hkk, hA⟩ := hNA
  clear hkk
  rw [hS1] at hL4
  have hL4 := hL4.live
  have hBa := live_base_bad hL4 (by rw [hA.n]; decide) (by rw [hA.base]; have := HN.out.2.2; omega)
  have HA := Lib.hid (And.intro hL4 hA)
  clear hD hL4 hS1 hA
  go_wp2_with fail
  refine hBa.mono ?_
  rintro _ w5 ⟨rfl, t5⟩
  have hL5 := HA.out.1.quiet t5
  have bP5 := HP.out.1.touch hL5.t (by simp)
  have c0 := bP5.cell 0
  have c1 := bP5.cell 1
  have b5 := Blk.new w5 38 #[.int .i64 (pl N), .int .i64 (ph N)]
  have hK := hL5.keep.more (b := w5.heap.size) ((Touch.refl [] w5).alloc (.cells #[.int .i64 (pl N), .int .i64 (ph N)] 38)) (Nat.le_refl _) b5.lt
  obtain ⟨w6, hw6⟩ : ∃ w6, w5.alloc (.cells #[.int .i64 (pl N), .int .i64 (ph N)] 38) = w6 := ⟨_, rfl⟩
  rw [hw6] at hK b5
  have bP6 := HP.out.1.touch hK.t (by simp)
  have d0 := bP6.cell 0
  have d1 := bP6.cell 1
  have hz5 := hL5.t.size
  have HK := Lib.hid (And.intro hK b5)
  clear hBa t5 hL5 bP5 b5 hK bP6
  by_cases hsg : ph N < 0
  · as_aux_lemma =>
      have z0 := HK.out.2.cell 0
      have z1 := HK.out.2.cell 1
      go_upto_region 14 with fail
      obtain ⟨p1, hp1⟩ : ∃ p1, w5.heap.size = p1 := ⟨_, rfl⟩
      rw [hp1] at HK ⊢
      rw [hp1] at z0 z1
      clear c0 c1 hw6
      go_wp2_with fail
      refine (hneg _).mono ?_
      rintro _ w7 ⟨rfl, t7⟩
      have b7 := HK.out.2.touch t7 (by simp)
      have q0 := b7.cell 0
      have q1 := b7.cell 1
      have f0 := b7.frozen 0
      have f1 := b7.frozen 1
      have hlow := HP.out.1.lt
      have HK7 := Lib.hid (And.intro (HK.out.1.quiet t7) b7)
      clear b7 t7 d0 d1 z0 z1
      go_upto_region 15 with fail
      have b8 := HK7.out.2.two_set (.int .i64 (pl ((340282366920938463463374607431768211456 - N) % 340282366920938463463374607431768211456))) (.int .i64 (ph ((340282366920938463463374607431768211456 - N) % 340282366920938463463374607431768211456)))
      have hK8 := HK7.out.1.own (by simp) (by rw [← hp1]; exact hz5) (((Touch.refl [p1] w7).setCell (p := ⟨p1, 0, none⟩) (by simp) (.int .i64 (pl ((340282366920938463463374607431768211456 - N) % 340282366920938463463374607431768211456)))).setCell (p := ⟨p1, 1, none⟩) (by simp) (.int .i64 (ph ((340282366920938463463374607431768211456 - N) % 340282366920938463463374607431768211456))))
      clear q0 q1 f0 f1 hneg
      generalize (w7.setCell ⟨p1, 0, none⟩ (.int .i64 (pl ((340282366920938463463374607431768211456 - N) % 340282366920938463463374607431768211456)))).setCell ⟨p1, 1, none⟩ (.int .i64 (ph ((340282366920938463463374607431768211456 - N) % 340282366920938463463374607431768211456))) = w8 at *
      obtain ⟨M, hM⟩ : ∃ M, (340282366920938463463374607431768211456 - N) % 340282366920938463463374607431768211456 = M := ⟨_, rfl⟩
      have HM : Hid (M < 340282366920938463463374607431768211456 ∧ (if ph N < 0 then (340282366920938463463374607431768211456 - N) % 340282366920938463463374607431768211456 else N) = M) := ⟨by rw [← hM]; exact Nat.mod_lt _ (by decide), by rw [if_pos hsg]; exact hM⟩
      rw [hM] at b8
      clear hM
      have HK8 := Lib.hid (And.intro hK8 b8)
      have bP8 := HP.out.1.touch hK8.t (by simp)
      have c0 := bP8.drew.cell 0
      have c1 := bP8.drew.cell 1
      have tA := ((Touch.refl [] w8).alloc (.cells #[.int .i64 (pl N), .int .i64 (ph N)] 36)).drew
      have bA := (Blk.new w8 36 #[.int .i64 (pl N), .int .i64 (ph N)]).drew
      have hSt := fun W (t : Touch [] w8 W) => live_stack (HK8.out.1.quiet t).live
      have hPu := keep_put (hK8.quiet tA) _ [pl N, ph N] (CellsAt.blk (cs := [pl N, ph N]) bA 2) (by show List.length (PS.st _) + 2 ≤ 128; simp [HA.out.2.st])
      have HO := Lib.hid (hK8.on tA)
      rw [show (PS.st S1) = [] from HA.out.2.st, List.nil_append] at hPu
      clear hK8 b8 bP8 tA bA
      go_upto_region 15 with fail
      go_cut [] from 64 to 71 (fun wx => LiveK wP wx s { S1 with st := [pl N, ph N] } [p1] ∧ On [p1] w8 wx)
      case first =>
        as_aux_lemma =>
        go_region_with (first | (go_at_call 12; refine (hSt _ (by first | (with_reducible exact (Touch.refl [] w8).drew) | (with_reducible exact ((Touch.refl [] w8).alloc _).drew))).mono ?_; rintro _ wz ⟨rfl, hw⟩; subst hw) | (go_at_call 13; refine hPu.mono ?_; rintro _ wq ⟨rfl, hq, oq⟩; have HQ := Lib.hid (And.intro hq oq); clear hq oq))
        all_goals (go_wp2_with fail; go_meet; exact ⟨HQ.out.1, HO.out.trans HQ.out.2⟩)
      case rest =>
        obtain ⟨h9, o9⟩ := hcut
        have hD := h9.step (fun F hS => bad_ddot (s := s) (S := { S1 with st := [pl N, ph N] }) HA.out.2.ok N HN.out.1 rfl (by show ¬ (2 ≤ S1.base ∧ S1.base ≤ 36); rw [HA.out.2.base]; have := HN.out.2.2; omega) wc F hS)
        clear hPu h9 o9 hSt c0 c1 HO
        go_wp2_with fail
        refine hD.mono ?_
        rintro _ wE ⟨rfl, hE, oE⟩
        have hO' := live_out hE.live
        have hSk := live_stack hE.live
        have hDp := live_depth hE.live
        change Calls _ _ _ _ (fun e w' => e = .returned (.string (strOfNums S1.out)) ∧ _) at hO'
        rw [HA.out.2.out, show strOfNums [] = (⟨#[]⟩ : ByteArray) from rfl] at hO'
        have HF := Lib.hid (HP.out.2.trans hE.t (by simp))
        clear hD hE oE
        go_wp2_with fail
        refine hO'.mono ?_
        rintro _ _ ⟨rfl, rfl⟩
        clear hO'
        go_wp2_with fail
        refine hSk.mono ?_
        rintro _ _ ⟨rfl, rfl⟩
        clear hSk
        go_wp2_with fail
        refine hDp.mono ?_
        rintro _ _ ⟨rfl, rfl⟩
        clear hDp
        go_wp2_with fail
        go_ret
        exact ⟨rfl, HF.out⟩
  · as_aux_lemma =>
      have HSG := Lib.hid hsg
      go_upto_region 15 with fail
      obtain ⟨p1, hp1⟩ : ∃ p1, w5.heap.size = p1 := ⟨_, rfl⟩
      rw [hp1] at HK ⊢
      obtain ⟨M, hM⟩ : ∃ M, N = M := ⟨_, rfl⟩
      have HM : Hid (M < 340282366920938463463374607431768211456 ∧ (if ph N < 0 then (340282366920938463463374607431768211456 - N) % 340282366920938463463374607431768211456 else N) = M) := ⟨by rw [← hM]; exact HN.out.1, by rw [if_neg (by have := HSG.out; omega)]; exact hM⟩
      obtain ⟨w8, hw8⟩ : ∃ w8, w6 = w8 := ⟨_, rfl⟩
      have b8 := HK.out.2
      have hK8 := HK.out.1
      rw [hw8] at b8 hK8 ⊢
      have b8 : Blk w8 p1 38 #[.int .i64 (pl M), .int .i64 (ph M)] := by rw [← hM]; exact b8
      clear c0 c1 d0 d1 hw6 hw8 hM hsg hneg
      have HK8 := Lib.hid (And.intro hK8 b8)
      have bP8 := HP.out.1.touch hK8.t (by simp)
      have c0 := bP8.drew.cell 0
      have c1 := bP8.drew.cell 1
      have tA := ((Touch.refl [] w8).alloc (.cells #[.int .i64 (pl N), .int .i64 (ph N)] 36)).drew
      have bA := (Blk.new w8 36 #[.int .i64 (pl N), .int .i64 (ph N)]).drew
      have hSt := fun W (t : Touch [] w8 W) => live_stack (HK8.out.1.quiet t).live
      have hPu := keep_put (hK8.quiet tA) _ [pl N, ph N] (CellsAt.blk (cs := [pl N, ph N]) bA 2) (by show List.length (PS.st _) + 2 ≤ 128; simp [HA.out.2.st])
      have HO := Lib.hid (hK8.on tA)
      rw [show (PS.st S1) = [] from HA.out.2.st, List.nil_append] at hPu
      clear hK8 b8 bP8 tA bA
      go_upto_region 15 with fail
      go_cut [] from 64 to 71 (fun wx => LiveK wP wx s { S1 with st := [pl N, ph N] } [p1] ∧ On [p1] w8 wx)
      case first =>
        as_aux_lemma =>
        go_region_with (first | (go_at_call 12; refine (hSt _ (by first | (with_reducible exact (Touch.refl [] w8).drew) | (with_reducible exact ((Touch.refl [] w8).alloc _).drew))).mono ?_; rintro _ wz ⟨rfl, hw⟩; subst hw) | (go_at_call 13; refine hPu.mono ?_; rintro _ wq ⟨rfl, hq, oq⟩; have HQ := Lib.hid (And.intro hq oq); clear hq oq))
        all_goals (go_wp2_with fail; go_meet; exact ⟨HQ.out.1, HO.out.trans HQ.out.2⟩)
      case rest =>
        obtain ⟨h9, o9⟩ := hcut
        have hD := h9.step (fun F hS => bad_ddot (s := s) (S := { S1 with st := [pl N, ph N] }) HA.out.2.ok N HN.out.1 rfl (by show ¬ (2 ≤ S1.base ∧ S1.base ≤ 36); rw [HA.out.2.base]; have := HN.out.2.2; omega) wc F hS)
        clear hPu h9 o9 hSt c0 c1 HO
        go_wp2_with fail
        refine hD.mono ?_
        rintro _ wE ⟨rfl, hE, oE⟩
        have hO' := live_out hE.live
        have hSk := live_stack hE.live
        have hDp := live_depth hE.live
        change Calls _ _ _ _ (fun e w' => e = .returned (.string (strOfNums S1.out)) ∧ _) at hO'
        rw [HA.out.2.out, show strOfNums [] = (⟨#[]⟩ : ByteArray) from rfl] at hO'
        have HF := Lib.hid (HP.out.2.trans hE.t (by simp))
        clear hD hE oE
        go_wp2_with fail
        refine hO'.mono ?_
        rintro _ _ ⟨rfl, rfl⟩
        clear hO'
        go_wp2_with fail
        refine hSk.mono ?_
        rintro _ _ ⟨rfl, rfl⟩
        clear hSk
        go_wp2_with fail
        refine hDp.mono ?_
        rintro _ _ ⟨rfl, rfl⟩
        clear hDp
        go_wp2_with fail
        go_ret
        exact ⟨rfl, HF.out⟩
end Go.Proofs.YtkbchpaofmlhgaaGreatDoor
