/- PrimNumbers: the law's walk. Printed by numw.py. -/
import Derived.Test.YtkbchpaofmlhgaaGreatDoorNumsA
namespace Go.Proofs.YtkbchpaofmlhgaaGreatDoor
open Go.RowKit

set_option maxRecDepth 100000 in
set_option maxHeartbeats 6400000 in
theorem PrimNumbers_okn (N : Nat) (B : Nat) (w : World) (hN : N < 340282366920938463463374607431768211456) (hb6 : Cell6 (B : Int)) (hb : 2 ≤ B ∧ B ≤ 36) (hsg : ph N < 0) :
    Calls Tryz.prog 4 #[.agg (two N), .int .i64 (B : Int)] w fun e w' => e = .returned (.bool true) ∧ Touch [] w w' := by
  have hSh := fun w => shown_any w
  have bP := Blk.new w 38 #[.int .i64 (pl N), .int .i64 (ph N)]
  have tP := (Touch.refl [] w).alloc (.cells #[.int .i64 (pl N), .int .i64 (ph N)] 38)
  have hneg := fun W => neg_p N hN _ rfl W
  have HSN := Lib.hid hsg
  clear hsg
  have HN := Lib.hid (And.intro hN (And.intro hb6 hb))
  have g1 : (B : Int) ≥ 2 := by omega
  have g2 : (B : Int) ≤ 36 := by omega
  have g3 : ((B : Int) != B) = false := by simp
  unfold two
  clear hN hb6 hb
  go_enter Tryz.func4, Tryz.ntmps4
  go_wp2_with fail
  obtain ⟨p0, hp0⟩ : ∃ p0, w.heap.size = p0 := ⟨_, rfl⟩
  obtain ⟨wP, hwP⟩ : ∃ wP, w.alloc (.cells #[.int .i64 (pl N), .int .i64 (ph N)] 38) = wP := ⟨_, rfl⟩
  rw [hwP] at bP tP ⊢
  rw [hp0] at bP ⊢
  have HP := Lib.hid (And.intro bP tP)
  clear bP tP hwP hp0
  refine (hSh _).mono ?_
  rintro _ w1 ⟨rfl, t1⟩
  have hNw := live_new wP w1 t1
  clear hSh t1
  go_wp2_with fail
  refine hNw.mono ?_
  rintro _ w2 ⟨s, S, rfl, hL, hok, h1, h2, h3, _, h5, h6⟩
  have hSt := live_stack hL
  have bM := Blk.new w2 36 #[.int .i64 (B : Int), .int .i64 0]
  have hPu := live_put (hL.quiet ((Touch.refl [] w2).alloc (.cells #[.int .i64 (B : Int), .int .i64 0] 36))) _ [(B : Int), 0] (CellsAt.blk (cs := [(B : Int), 0]) bM 2) (by show S.st.length + 2 ≤ 128; rw [h2]; decide)
  rw [h2, List.nil_append] at hPu
  have HS := Lib.hid (And.intro hok (And.intro h1 (And.intro h3 (And.intro h5 h6))))
  clear hNw hL bM hok h1 h2 h3 h5 h6
  go_wp2_with fail
  refine hSt.mono ?_
  rintro _ _ ⟨rfl, rfl⟩
  clear hSt
  go_wp2_with fail
  refine hPu.mono ?_
  rintro _ w3 ⟨rfl, hL3⟩
  have hD := hL3.keep.step (fun F hS => goes_put (s := s) (S := { S with st := [(B : Int), 0] }) HS.out.1 [] (B : Int) 0 rfl (by show 0 + 8 ≤ S.n; rw [HS.out.2.1]; decide) (by decide) (by simp) w3 F hS)
  clear hPu hL3
  go_wp2_with fail
  refine hD.mono ?_
  rintro _ w4 ⟨rfl, hL4, _⟩
  have hNA : ∃ S1 : PS, ({ S with st := [], bs := putF S.bs 0 (B : Int) 8 } : PS) = S1 ∧ S1.k = S.k ∧ NumAt S1 (B : Int) := ⟨_, rfl, rfl, ⟨HS.out.1, HS.out.2.1, by
    show (putF S.bs 0 (B : Int) 8).length = 1024
    rw [putF_len, HS.out.2.2.1]
    unfold bs0
    rw [putF_len, List.length_replicate], by
    show getF (putF S.bs 0 (B : Int) 8) 0 = (B : Int)
    rw [getF_put]
    · rw [HS.out.2.2.1]
      unfold bs0
      rw [putF_len, List.length_replicate]
      decide
    · exact HN.out.2.1, HS.out.2.2.2.1, HS.out.2.2.2.2, rfl⟩⟩
  obtain ⟨S1, hS1, hkk, hA⟩ := hNA
  clear hkk
  rw [hS1] at hL4
  have hL4 := hL4.live
  have hBa := live_base_ok hL4 (by rw [hA.n]; decide) (by rw [hA.base]; have := HN.out.2.2; omega)
  rw [hA.base] at hBa
  have HA := Lib.hid (And.intro hL4 hA)
  clear hD hL4 hS1 hA
  go_wp2_with fail
  refine hBa.mono ?_
  rintro _ w5 ⟨rfl, t5⟩
  have hL5 := HA.out.1.quiet t5
  have bP5 := HP.out.1.touch hL5.t (by simp)
  have c0 := bP5.cell 0
  have c1 := bP5.cell 1
  have b5 := Blk.new w5 38 #[.int .i64 (pl N), .int .i64 (ph N)]
  have hK := hL5.keep.more (b := w5.heap.size) ((Touch.refl [] w5).alloc (.cells #[.int .i64 (pl N), .int .i64 (ph N)] 38)) (Nat.le_refl _) b5.lt
  obtain ⟨w6, hw6⟩ : ∃ w6, w5.alloc (.cells #[.int .i64 (pl N), .int .i64 (ph N)] 38) = w6 := ⟨_, rfl⟩
  rw [hw6] at hK b5
  have bP6 := HP.out.1.touch hK.t (by simp)
  have d0 := bP6.cell 0
  have d1 := bP6.cell 1
  have hz5 := hL5.t.size
  have HK := Lib.hid (And.intro hK b5)
  clear hBa t5 hL5 bP5 b5 hK bP6
  have hsg := HSN.out
  have z0 := HK.out.2.cell 0
  have z1 := HK.out.2.cell 1
  go_upto_region 14 with fail
  obtain ⟨p1, hp1⟩ : ∃ p1, w5.heap.size = p1 := ⟨_, rfl⟩
  rw [hp1] at HK ⊢
  rw [hp1] at z0 z1
  clear c0 c1 hw6
  go_wp2_with fail
  refine (hneg _).mono ?_
  rintro _ w7 ⟨rfl, t7⟩
  have b7 := HK.out.2.touch t7 (by simp)
  have q0 := b7.cell 0
  have q1 := b7.cell 1
  have f0 := b7.frozen 0
  have f1 := b7.frozen 1
  have hlow := HP.out.1.lt
  have HK7 := Lib.hid (And.intro (HK.out.1.quiet t7) b7)
  clear b7 t7 d0 d1 z0 z1
  go_upto_region 15 with fail
  have b8 := HK7.out.2.two_set (.int .i64 (pl ((340282366920938463463374607431768211456 - N) % 340282366920938463463374607431768211456))) (.int .i64 (ph ((340282366920938463463374607431768211456 - N) % 340282366920938463463374607431768211456)))
  have hK8 := HK7.out.1.own (by simp) (by rw [← hp1]; exact hz5) (((Touch.refl [p1] w7).setCell (p := ⟨p1, 0, none⟩) (by simp) (.int .i64 (pl ((340282366920938463463374607431768211456 - N) % 340282366920938463463374607431768211456)))).setCell (p := ⟨p1, 1, none⟩) (by simp) (.int .i64 (ph ((340282366920938463463374607431768211456 - N) % 340282366920938463463374607431768211456))))
  clear q0 q1 f0 f1 hneg
  generalize (w7.setCell ⟨p1, 0, none⟩ (.int .i64 (pl ((340282366920938463463374607431768211456 - N) % 340282366920938463463374607431768211456)))).setCell ⟨p1, 1, none⟩ (.int .i64 (ph ((340282366920938463463374607431768211456 - N) % 340282366920938463463374607431768211456))) = w8 at *
  obtain ⟨M, hM⟩ : ∃ M, (340282366920938463463374607431768211456 - N) % 340282366920938463463374607431768211456 = M := ⟨_, rfl⟩
  have HM : Hid (M < 340282366920938463463374607431768211456 ∧ (if ph N < 0 then (340282366920938463463374607431768211456 - N) % 340282366920938463463374607431768211456 else N) = M) := ⟨by rw [← hM]; exact Nat.mod_lt _ (by decide), by rw [if_pos hsg]; exact hM⟩
  rw [hM] at b8
  clear hM
  have HK8 := Lib.hid (And.intro hK8 b8)
  have bP8 := HP.out.1.touch hK8.t (by simp)
  have c0 := bP8.drew.cell 0
  have c1 := bP8.drew.cell 1
  have tA := ((Touch.refl [] w8).alloc (.cells #[.int .i64 (pl N), .int .i64 (ph N)] 36)).drew
  have bA := (Blk.new w8 36 #[.int .i64 (pl N), .int .i64 (ph N)]).drew
  have hSt := fun W (t : Touch [] w8 W) => live_stack (HK8.out.1.quiet t).live
  have hPu := keep_put (hK8.quiet tA) _ [pl N, ph N] (CellsAt.blk (cs := [pl N, ph N]) bA 2) (by show List.length (PS.st _) + 2 ≤ 128; simp [HA.out.2.st])
  have HO := Lib.hid (hK8.on tA)
  rw [show (PS.st S1) = [] from HA.out.2.st, List.nil_append] at hPu
  clear hK8 b8 bP8 tA bA
  go_upto_region 15 with fail
  go_cut [] from 64 to 71 (fun wx => LiveK wP wx s { S1 with st := [pl N, ph N] } [p1] ∧ On [p1] w8 wx)
  case first =>
    as_aux_lemma =>
    go_region_with (first | (go_at_call 12; refine (hSt _ (by first | (with_reducible exact (Touch.refl [] w8).drew) | (with_reducible exact ((Touch.refl [] w8).alloc _).drew))).mono ?_; rintro _ wz ⟨rfl, hw⟩; subst hw) | (go_at_call 13; refine hPu.mono ?_; rintro _ wq ⟨rfl, hq, oq⟩; have HQ := Lib.hid (And.intro hq oq); clear hq oq))
    all_goals (go_wp2_with fail; go_meet; exact ⟨HQ.out.1, HO.out.trans HQ.out.2⟩)
  case rest =>
    obtain ⟨h9, o9⟩ := hcut
    have b9 := o9.blk (by simp) HK8.out.2
    have hD := h9.step (fun F hS => goes_ddot (s := s) (S := { S1 with st := [pl N, ph N] }) HA.out.2.ok [] N HN.out.1 rfl (by show 2 ≤ S1.base ∧ S1.base ≤ 36; rw [HA.out.2.base]; omega) (by simp) wc F hS)
    rw [show PS.baseN { S1 with st := [pl N, ph N] } = B from by show S1.base.toNat = B; rw [HA.out.2.base]; rfl] at hD
    have H9 := Lib.hid b9
    clear hPu h9 o9 b9 hSt c0 c1 HO
    go_wp2_with fail
    refine hD.mono ?_
    rintro _ wE ⟨rfl, hE, oE⟩
    have bE := oE.blk (by simp) H9.out
    have hD2 := hE.step (fun F hS => goes_begin (s := s) (S := { S1 with st := [], out := sayL S1.out (sgnT B N) }) ⟨sayL_len HA.out.2.ok.1 _, HA.out.2.ok.2⟩ (by simp) wE F hS)
    have HE := Lib.hid bE
    clear hD hE oE bE
    go_wp2_with fail
    refine hD2.mono ?_
    rintro _ wG ⟨rfl, hG, oG⟩
    have bG := oG.blk (by simp) HE.out
    have HKG := Lib.hid (And.intro hG bG)
    have bPG := HP.out.1.touch hG.t (by simp)
    have c0 := bPG.drew.cell 0
    have c1 := bPG.drew.cell 1
    have d0 := bG.drew.cell 0
    have d1 := bG.drew.cell 1
    have tA := ((Touch.refl [] wG).alloc (.cells #[.int .i64 (ph N), .int .i64 (pl M), .int .i64 (ph M)] 36)).drew
    have bA := (Blk.new wG 36 #[.int .i64 (ph N), .int .i64 (pl M), .int .i64 (ph M)]).drew
    have hSt := fun W (t : Touch [] wG W) => live_stack (HKG.out.1.quiet t).live
    have hPu := keep_put (hG.quiet tA) _ [ph N, pl M, ph M] (CellsAt.blk (cs := [ph N, pl M, ph M]) bA 3) (by show List.length (PS.st _) + 3 ≤ 128; simp)
    have HO := Lib.hid (hG.on tA)
    clear hG bG bPG tA bA hD2 oG
    go_upto_region 20 with fail
    go_cut [] from 94 to 103 (fun wx => LiveK wP wx s { { S1 with out := sayL S1.out (sgnT B N), made := [] } with st := [ph N, pl M, ph M] } [p1] ∧ On [p1] wG wx)
    case first =>
      as_aux_lemma =>
      go_region_with (first | (go_at_call 12; refine (hSt _ (by first | (with_reducible exact (Touch.refl [] wG).drew) | (with_reducible exact ((Touch.refl [] wG).alloc _).drew))).mono ?_; rintro _ wz ⟨rfl, hw⟩; subst hw) | (go_at_call 13; refine hPu.mono ?_; rintro _ wq ⟨rfl, hq, oq⟩; have HQ := Lib.hid (And.intro hq oq); clear hq oq))
      all_goals (go_wp2_with fail; go_meet; exact ⟨HQ.out.1, HO.out.trans HQ.out.2⟩)
    case rest =>
      obtain ⟨hJ, oJ⟩ := hcut
      have bJ := oJ.blk (by simp) HKG.out.2
      have bO := Blk.new wc 3 #[.int .i64 104, .int .i64 32, .int .i64 106, .int .i64 107, .int .i64 98]
      have hL0 := hJ.more (b := wc.heap.size) ((Touch.refl [] wc).alloc (.cells #[.int .i64 104, .int .i64 32, .int .i64 106, .int .i64 107, .int .i64 98] 3)) (Nat.le_refl _) bO.lt
      obtain ⟨T, hgo, hTst, hTout⟩ := numbers_going (s := s) HA.out.2 HN.out.2.2 HN.out.1 HM.out
      obtain ⟨W, hW⟩ : ∃ W : ByteArray, ⟨(signedL B N).toArray⟩ = W := ⟨_, rfl⟩
      have hWs : W.size ≤ 129 := by rw [← hW]; exact signedL_size B N HN.out.2.2.1 HN.out.1
      rw [hW] at hTout
      have hSg := fun W' => signed_any N B HN.out.1 HN.out.2.2.1 HN.out.2.2.2 W'
      rw [hW] at hSg
      unfold two at hSg
      have HJ := Lib.hid (And.intro hL0 (And.intro bO (And.intro hgo (And.intro hTst (And.intro hTout hWs)))))
      have hW2 : (W ++ (⟨#[32]⟩ : ByteArray)).size ≤ 130 := by rw [ByteArray.size_append]; have : (⟨#[32]⟩ : ByteArray).size = 1 := rfl; omega
      clear hPu hSt c0 c1 d0 d1 HO hJ oJ bJ hL0 bO hgo hTst hTout hW
      go_wp2_with fail
      obtain ⟨wO, hwO⟩ : ∃ wO, wc.alloc (.cells #[.int .i64 104, .int .i64 32, .int .i64 106, .int .i64 107, .int .i64 98] 3) = wO := ⟨_, rfl⟩
      obtain ⟨g, hg⟩ : ∃ g, wc.heap.size = g := ⟨_, rfl⟩
      rw [hwO] at HJ ⊢
      rw [hg] at HJ ⊢
      clear hwO hg
      go_loopw [106] (fun iv wr => ∃ (j : Nat) (U : PS), j ≤ 5 ∧ iv = .int .i64 j ∧ Going s (([104, 32, 106, 107, 98] : List Int).drop j) U T ∧ LiveK wP wr s U [g, p1] ∧ On [g, p1] wO wr) (fun iv _ => 5 - (intOf iv).toNat)
      case atStart => exact ⟨0, _, by decide, rfl, HJ.out.2.2.1, HJ.out.1, On.refl _ _⟩
      case round =>
        obtain ⟨j, U, hj, rfl, hch, hU, hO⟩ := hrel
        by_cases hlt : j < 5
        · have hlt2 : (j : Int) < 5 := by omega
          have e : ([104, 32, 106, 107, 98] : List Int).drop j = ([104, 32, 106, 107, 98] : List Int)[j] :: ([104, 32, 106, 107, 98] : List Int).drop (j + 1) := List.drop_eq_getElem_cons hlt
          have hce := ((hO.blk (by simp) HJ.out.2.1).cell j).trans (show (#[.int .i64 104, .int .i64 32, .int .i64 106, .int .i64 107, .int .i64 98] : Array Value)[j]? = some (.int .i64 ([104, 32, 106, 107, 98] : List Int)[j]) from by
            match j, hlt with
            | 0, _ => rfl
            | 1, _ => rfl
            | 2, _ => rfl
            | 3, _ => rfl
            | 4, _ => rfl)
          rw [e] at hch
          obtain ⟨U2, hD, hch⟩ := hch
          generalize ([104, 32, 106, 107, 98] : List Int)[j] = op at *
          have hDo := hU.step (fun F hS => hD wr F hS)
          have ej : IntKind.i64.wrap ((j : Int) + 1) = (j + 1 : Nat) := by rw [IntKind.wrap_i64]; omega
          have HR := Lib.hid (And.intro hch hO)
          clear hch hO hU hD e
          go_wp2_with fail
          refine hDo.mono ?_
          rintro _ wS ⟨rfl, hS', oS⟩
          have H3 := Lib.hid (And.intro hS' (HR.out.2.trans oS))
          clear hDo hS' oS
          go_wp2_with fail
          refine ⟨⟨j + 1, U2, by omega, vint (by omega), HR.out.1, H3.out.1, H3.out.2⟩, ?_⟩
          simp only [intOf]
          omega
        · obtain rfl : j = 5 := by omega
          obtain rfl : U = T := hch
          have bPE := HP.out.1.touch hU.t (by simp)
          have c0 := bPE.cell 0
          have c1 := bPE.cell 1
          have HU := Lib.hid hU
          clear hU hO bPE hlt hj
          go_wp2_with fail
          refine (hSg _).mono ?_
          rintro _ wT ⟨rfl, tT⟩
          have hUT := HU.out.quiet tT
          have hO' := live_out hUT.live
          rw [HJ.out.2.2.2.2.1] at hO'
          have hSk := live_stack hUT.live
          have hDp := live_depth hUT.live
          rw [HJ.out.2.2.2.1] at hDp
          have HF := Lib.hid (HP.out.2.trans hUT.t (by simp))
          clear hSg tT hUT c0 c1
          go_wp2_with fail
          refine hO'.mono ?_
          rintro _ _ ⟨rfl, rfl⟩
          clear hO'
          go_wp2_with fail
          refine hSk.mono ?_
          rintro _ _ ⟨rfl, rfl⟩
          clear hSk
          go_wp2_with fail
          refine hDp.mono ?_
          rintro _ _ ⟨rfl, rfl⟩
          clear hDp
          go_wp2_with fail
          go_ret
          exact ⟨rfl, HF.out⟩
end Go.Proofs.YtkbchpaofmlhgaaGreatDoor
