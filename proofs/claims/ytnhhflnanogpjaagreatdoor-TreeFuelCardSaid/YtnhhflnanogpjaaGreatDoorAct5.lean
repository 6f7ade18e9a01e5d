/- The loop while. -/
import Derived.Test.YtnhhflnanogpjaaGreatDoorAct4
namespace Go.Proofs.YtnhhflnanogpjaaGreatDoor
open Go.RowKit

variable {α β : Type} {Pa : α → Prop} {enc : β → Value → World → Prop} {lo hi d nl : Nat} {w w' w1 : World} {b : Nat} {F F1 : List Nat} {r s : Run} {v v2 : Value} {m : Mn α}

set_option maxRecDepth 100000 in
set_option maxHeartbeats 4000000 in
theorem while_act {body second : Den} {B B2 : Nat} (hb : ActSem lo hi w d nl v body) (hK : Keep d body (fun _ => True)) (hB : Blk w B 56 #[v]) (h1 : lo ≤ B) (h2 : B < hi)
    (hb2 : ActSem lo hi w d nl v2 second) (hK2 : Keep d second (fun _ => True)) (hB2 : Blk w B2 56 #[v2]) (h3 : lo ≤ B2) (h4 : B2 < hi) :
    ActSem lo hi w d nl (.func (.func 70) #[] #[.pointer (some ⟨B, 0, none⟩), .pointer (some ⟨B2, 0, none⟩)]) (whileD body second) := by
  refine ⟨70, _, rfl, enters_of Tryz.func70 (by kernel_rfl) rfl, fun w' b F r hr => ?_⟩
  obtain ⟨q, hq⟩ : ∃ q, whileD body second r = q := ⟨_, rfl⟩
  rw [hq]
  have H0 : ∃ s F', Goes lo hi w w' b F d nl s F' w' ∧ loopM (whileRound body second) (r.fuel + 1 - r.steps) () s = q ∧ s.fuel + 1 ≤ s.steps + (r.fuel + 1 - r.steps) := ⟨r, F, Goes.start hr, hq, by omega⟩
  obtain ⟨N, hN⟩ : ∃ N, r.fuel + 1 - r.steps = N := ⟨_, rfl⟩
  rw [hN] at H0
  obtain ⟨f, cap, rfl, hE, hf⟩ := hb
  obtain ⟨f2, cap2, rfl, hE2, hf2⟩ := hb2
  have hent : ∀ (args : Array Value) (w : World), (callFunc f args).run Tryz.prog w = .ok (.enter f args) w := hE
  have hent2 : ∀ (args : Array Value) (w : World), (callFunc f2 args).run Tryz.prog w = .ok (.enter f2 args) w := hE2
  have HF := Lib.hid hf
  have HB := Lib.hid hB
  have HF2 := Lib.hid hf2
  have HB2 := Lib.hid hB2
  clear hq hr hB hf hE hN hB2 hf2 hE2
  go_enter Tryz.func70, Tryz.ntmps70
  go_wp2_with fail
  go_loopg [5] N (fun gf _ wr => ∃ s F', Goes lo hi w w' b F d nl s F' wr ∧ loopM (whileRound body second) gf () s = q ∧ s.fuel + 1 ≤ s.steps + gf)
  case atStart => exact H0
  case round =>
    obtain ⟨s, F', hG, hq, hk⟩ := hrel
    have hso := hG.run.ok.steps
    obtain ⟨g', rfl⟩ : ∃ g', gk = g' + 1 := ⟨gk - 1, by omega⟩
    have hS := step_any wr b F' s hG.run.run hG.run.ok
    obtain ⟨⟨o1, s1⟩, e1⟩ : ∃ q, stepM s = q := ⟨_, rfl⟩
    rw [e1] at hS
    have G := Lib.hid hG
    have Q := Lib.hid hq
    have E1 := Lib.hid e1
    clear hG hq e1 H0
    cases o1 with
    | bad x o =>
      go_wp2_with fail
      refine hS.mono ?_
      rintro _ w1 ⟨rfl, hl⟩
      have K := Lib.hid (G.out.left hl)
      clear hl hS
      unfold stopped stopV
      go_wp2
      rw [← Q.out, loopM_out E1.out]
      exact ⟨rfl, rfl, K.out⟩
    | ok u =>
      go_wp2_with fail
      refine hS.mono ?_
      rintro _ w1 ⟨_, rfl, hu, hl⟩
      cases hu
      obtain ⟨F1, g1, l1, _, u1, v1⟩ := G.out.on keep_step E1.out hl
      have hx := stepM_ok E1.out
      have hq1 := Q.out
      rw [loopM_step E1.out] at hq1
      have c0 := box_cell g1.run HB.out h1 h2
      have hC := HF.out w1 b F1 s1 g1.run
      obtain ⟨⟨o2, s2⟩, e2⟩ : ∃ q, body s1 = q := ⟨_, rfl⟩
      rw [e2] at hC
      have G1 := Lib.hid g1
      have Q1 := Lib.hid hq1
      have E2 := Lib.hid e2
      have KK := Lib.hid (And.intro hx hk)
      clear hS hl g1 hq1 e2 l1 u1 v1 hx hk hso
      cases o2 with
      | bad x o =>
        go_wp2_with fail
        refine hC.mono ?_
        rintro _ w2 ⟨rfl, hl⟩
        have K := Lib.hid (G1.out.left hl)
        clear hl hC c0
        unfold stopped stopV
        go_wp2
        rw [← Q1.out, bind_bad (show whileRound body second () s1 = (.bad x o, s2) from bind_bad E2.out)]
        exact ⟨rfl, rfl, K.out⟩
      | ok z =>
        go_wp2_with fail
        refine hC.mono ?_
        rintro _ w2 ⟨_, rfl, hz, hl⟩
        cases hz
        obtain ⟨F2, g2, l2, _, u2, v2⟩ := G1.out.on hK E2.out hl
        have G2 := Lib.hid g2
        have KK2 := Lib.hid (And.intro u2 v2)
        clear hl hC c0 l2 u2 v2
        cases z with
        | true =>
          clear g2
          go_wp2
          go_ret
          rw [← Q1.out, bind_ok (show whileRound body second () s1 = (.ok (.inr true), s2) from bind_ok E2.out)]
          exact ⟨_, rfl, rfl, G2.out.end_⟩
        | false =>
          have hP := pop_any w2 b F2 s2 g2.run.run g2.run.ok
          clear g2
          obtain ⟨⟨o3, s3⟩, e3⟩ : ∃ q, popM s2 = q := ⟨_, rfl⟩
          rw [e3] at hP
          have E3 := Lib.hid e3
          clear e3
          have hr0 : whileRound body second () s1 = (popM.bind fun x => if x = 0 then .pure (.inr false) else second.bind fun l => .pure (if l then .inr true else .inl ())) s2 := bind_ok E2.out
          have R0 := Lib.hid hr0
          clear hr0
          cases o3 with
          | bad x o =>
            go_wp2_with fail
            refine hP.mono ?_
            rintro _ w3 ⟨rfl, hl⟩
            have K := Lib.hid (G2.out.left hl)
            clear hl hP
            unfold stopped stopV
            go_wp2
            rw [← Q1.out, bind_bad (show whileRound body second () s1 = (.bad x o, s3) from R0.out.trans (bind_bad E3.out))]
            exact ⟨rfl, rfl, K.out⟩
          | ok x =>
            by_cases hx0 : x = 0
            · subst hx0
              go_wp2_with fail
              refine hP.mono ?_
              rintro _ w3 ⟨_, rfl, hz, hl⟩
              cases hz
              obtain ⟨F3, g3, l3, _, u3, v3⟩ := G2.out.on keep_pop E3.out hl
              have K := Lib.hid g3
              clear hl hP g3 l3 u3 v3
              go_wp2
              go_ret
              rw [← Q1.out, bind_ok (show whileRound body second () s1 = (.ok (.inr false), s3) from R0.out.trans ((bind_ok E3.out).trans (by rw [if_pos rfl]; rfl)))]
              exact ⟨_, rfl, rfl, K.out.end_⟩
            · go_wp2_with fail
              refine hP.mono ?_
              rintro _ w3 ⟨_, rfl, hz, hl⟩
              cases hz
              obtain ⟨F3, g3, l3, _, u3, v3⟩ := G2.out.on keep_pop E3.out hl
              have c1 := box_cell g3.run HB2.out h3 h4
              have hC := HF2.out w3 b F3 s3 g3.run
              obtain ⟨⟨o4, s4⟩, e4⟩ : ∃ q, second s3 = q := ⟨_, rfl⟩
              rw [e4] at hC
              have G3 := Lib.hid g3
              have E4 := Lib.hid e4
              have KK3 := Lib.hid (And.intro u3 v3)
              have hr1 : whileRound body second () s1 = (second.bind fun l => .pure (if l then .inr true else .inl ())) s3 := R0.out.trans ((bind_ok E3.out).trans (by rw [if_neg hx0]))
              have R1 := Lib.hid hr1
              clear hl hP g3 l3 u3 v3 e4 hr1
              cases o4 with
              | bad x o =>
                go_wp2_with fail
                refine hC.mono ?_
                rintro _ w4 ⟨rfl, hl⟩
                have K := Lib.hid (G3.out.left hl)
                clear hl hC c1
                unfold stopped stopV
                go_wp2
                rw [← Q1.out, bind_bad (show whileRound body second () s1 = (.bad x o, s4) from R1.out.trans (bind_bad E4.out))]
                exact ⟨rfl, rfl, K.out⟩
              | ok z =>
                go_wp2_with fail
                refine hC.mono ?_
                rintro _ w4 ⟨_, rfl, hz, hl⟩
                cases hz
                obtain ⟨F4, g4, l4, _, u4, v4⟩ := G3.out.on hK2 E4.out hl
                have hq3 := Q1.out
                rw [bind_ok (show whileRound body second () s1 = (.ok (if z then .inr true else .inl ()), s4) from R1.out.trans (bind_ok E4.out))] at hq3
                have K := Lib.hid (And.intro g4 hq3)
                have hfin : s4.fuel + 1 ≤ s4.steps + g' := by
                  have a1 := KK.out; have a2 := KK2.out; have a3 := KK3.out
                  omega
                clear hl hC g4 l4 u4 v4 hq3 c1
                cases z with
                | true =>
                  clear hfin
                  go_wp2
                  go_ret
                  rw [← (show Mn.pure true s4 = q from K.out.2)]
                  exact ⟨_, rfl, rfl, K.out.1.end_⟩
                | false =>
                  go_wp2
                  go_roundg g'
                  case measure => omega
                  case rel => exact ⟨s4, F4, K.out.1, K.out.2, hfin⟩
end Go.Proofs.YtnhhflnanogpjaaGreatDoor
