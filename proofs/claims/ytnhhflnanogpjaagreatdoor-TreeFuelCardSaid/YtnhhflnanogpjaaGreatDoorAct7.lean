/- A choice of acts. -/
import Derived.Test.YtnhhflnanogpjaaGreatDoorAct4
namespace Go.Proofs.YtnhhflnanogpjaaGreatDoor
open Go.RowKit

variable {α β : Type} {Pa : α → Prop} {enc : β → Value → World → Prop} {lo hi d nl : Nat} {w w' w1 : World} {b : Nat} {F F1 : List Nat} {r s : Run} {v v2 : Value} {m : Mn α}

theorem caseD_drop (l : List Den) (k i : Nat) (hk : k + 1 < l.length) : caseD (l.drop k) i =
    stepM.bind fun _ => (pushM i).bind fun _ => (takeM 2).bind fun y => if y.getD 0 0 = y.getD 1 0 then l.getD k (.pure false) else (pushM (y.getD 0 0)).bind fun _ => caseD (l.drop (k + 1)) (i + 1) := by
  have e1 : l.drop k = l[k]'(by omega) :: l.drop (k + 1) := List.drop_eq_getElem_cons (by omega)
  have e2 : l.drop (k + 1) = l[k + 1]'hk :: l.drop (k + 2) := List.drop_eq_getElem_cons hk
  have e3 : l.getD k (.pure false) = l[k]'(by omega) := by rw [List.getD, List.getElem?_eq_getElem (by omega)]; rfl
  rw [e1, e2, e3]
  rfl
theorem caseD_last (l : List Den) (k i : Nat) (hk : k + 1 = l.length) : caseD (l.drop k) i = (l.getD k (.pure false)).bind fun x => if x then .pure true else popM.bind fun _ => .pure false := by
  have e1 : l.drop k = [l[k]'(by omega)] := by rw [List.drop_eq_getElem_cons (by omega), List.drop_eq_nil_of_le (by omega)]
  have e3 : l.getD k (.pure false) = l[k]'(by omega) := by rw [List.getD, List.getElem?_eq_getElem (by omega)]; rfl
  rw [e1, e3]
  rfl

set_option maxRecDepth 100000 in
set_option maxHeartbeats 8000000 in
theorem choice_act {dens : List Den} {B g n c : Nat} (hl : ActList lo hi w d nl g (n + 1) c dens) (hn : n ≤ 100000) (hB : Blk w B 75 #[.slice (some ⟨g, 0, none⟩) (n + 1) c]) (h1 : lo ≤ B) (h2 : B < hi) :
    ActSem lo hi w d nl (.func (.func 71) #[] #[.pointer (some ⟨B, 0, none⟩)]) (caseD dens 0) := by
  refine ⟨71, _, rfl, enters_of Tryz.func71 (by kernel_rfl) rfl, fun w' b F r hr => ?_⟩
  have c0 := box_cell hr hB h1 h2
  obtain ⟨q, hq⟩ : ∃ q, caseD dens 0 r = q := ⟨_, rfl⟩
  rw [hq]
  have H0 : ∃ s F', Goes lo hi w w' b F d nl s F' w' ∧ caseD (dens.drop 0) 0 s = q := ⟨r, F, Goes.start hr, hq⟩
  have HL := Lib.hid hl
  have HB := Lib.hid hB
  have hcap : n + 1 ≤ c := hl.cap
  have en : IntKind.i64.wrap (((n + 1 : Nat) : Int) - 1) = n := by rw [IntKind.wrap_i64]; omega
  clear hl hq hr hB
  go_enter Tryz.func71, Tryz.ntmps71
  go_wp2_with fail
  go_loopw [15] (fun i wr => ∃ k : Nat, k ≤ n ∧ i = .int .i64 k ∧ ∃ s F', Goes lo hi w w' b F d nl s F' wr ∧ caseD (dens.drop k) k s = q) (fun i _ => n - (intOf i).toNat)
  case atStart => exact ⟨0, by omega, rfl, H0⟩
  case round =>
    obtain ⟨k, hk, rfl, s, F', hG, hq⟩ := hrel
    clear H0 c0
    by_cases hlt : k < n
    · obtain ⟨f, cap, hc, hE, hf⟩ := HL.out.get hG.run k (by omega)
      have hent : ∀ (args : Array Value) (w : World), (callFunc f args).run Tryz.prog w = .ok (.enter f args) w := hE
      have HF := Lib.hid hf
      have ek : IntKind.i64.wrap ((k : Int) + 1) = (k + 1 : Nat) := by rw [IntKind.wrap_i64]; omega
      have hS := step_any wr b F' s hG.run.run hG.run.ok
      obtain ⟨⟨o1, s1⟩, e1⟩ : ∃ q, stepM s = q := ⟨_, rfl⟩
      rw [e1] at hS
      rw [caseD_drop _ _ _ (by rw [HL.out.len]; omega)] at hq
      have hkc : Cell64 k := by unfold Cell64; omega
      have hkd : k < dens.length := by rw [HL.out.len]; omega
      have hKd : Keep d (dens.getD k (.pure false)) (fun _ => True) := HL.out.keeps _ (by rw [List.getD, List.getElem?_eq_getElem hkd]; exact List.getElem_mem _)
      have G := Lib.hid hG
      have Q := Lib.hid hq
      have E1 := Lib.hid e1
      have HK := Lib.hid (And.intro hkc hKd)
      clear hG hq e1 hf hE hkc hkd hKd
      cases o1 with
      | bad x o =>
        go_wp2_with fail
        refine hS.mono ?_
        rintro _ w1 ⟨rfl, hl⟩
        have K := Lib.hid (G.out.left hl)
        clear hl hS hc
        unfold stopped stopV
        go_wp2
        rw [← Q.out, bind_bad E1.out]
        exact ⟨rfl, rfl, K.out⟩
      | ok u =>
        go_wp2_with fail
        refine hS.mono ?_
        rintro _ w1 ⟨_, rfl, hu, hl⟩
        cases hu
        obtain ⟨F1, g1, _, _, _, _⟩ := G.out.on keep_step E1.out hl
        have hq1 := Q.out
        rw [bind_ok E1.out] at hq1
        have hS2 := push_any w1 b F1 s1 g1.run.run g1.run.ok k
        obtain ⟨⟨o2, s2⟩, e2⟩ : ∃ q, pushM k s1 = q := ⟨_, rfl⟩
        rw [e2] at hS2
        have G1 := Lib.hid g1
        have Q1 := Lib.hid hq1
        have E2 := Lib.hid e2
        clear hS hl g1 hq1 e2 hc
        cases o2 with
        | bad x o =>
          go_wp2_with fail
          refine hS2.mono ?_
          rintro _ w2 ⟨rfl, hl⟩
          have K := Lib.hid (G1.out.left hl)
          clear hl hS2
          unfold stopped stopV
          go_wp2
          rw [← Q1.out, bind_bad E2.out]
          exact ⟨rfl, rfl, K.out⟩
        | ok u =>
          go_wp2_with fail
          refine hS2.mono ?_
          rintro _ w2 ⟨_, rfl, hu, hl⟩
          cases hu
          obtain ⟨F2, g2, _, _, _, _⟩ := G1.out.on (keep_push HK.out.1) E2.out hl
          have hq2 := Q1.out
          rw [bind_ok E2.out] at hq2
          have hS3 := take_any w2 b F2 s2 g2.run.run g2.run.ok 2 (by omega)
          obtain ⟨⟨o3, s3⟩, e3⟩ : ∃ q, takeM 2 s2 = q := ⟨_, rfl⟩
          rw [e3] at hS3
          have G2 := Lib.hid g2
          have Q2 := Lib.hid hq2
          have E3 := Lib.hid e3
          clear hS2 hl g2 hq2 e3
          cases o3 with
          | bad x o =>
            go_wp2_with fail
            refine hS3.mono ?_
            rintro _ w3 ⟨rfl, hl⟩
            have K := Lib.hid (G2.out.left hl)
            clear hl hS3
            unfold stopped stopV
            go_wp2
            rw [← Q2.out, bind_bad E3.out]
            exact ⟨rfl, rfl, K.out⟩
          | ok y =>
            go_wp2_with fail
            refine hS3.mono ?_
            rintro _ w3 ⟨v3, rfl, hv, hl⟩
            obtain ⟨F3, g3, _, p3, _, _⟩ := G2.out.on (keep_take 2) E3.out hl
            obtain ⟨gy, cy, rfl, hc0, hc1⟩ := row_second hv p3.1
            have hq3 := Q2.out
            rw [bind_ok E3.out] at hq3
            have hcx := p3.2.getD 0
            obtain ⟨y0, hy0⟩ : ∃ x, y.getD 0 0 = x := ⟨_, rfl⟩
            obtain ⟨y1, hy1⟩ : ∃ x, y.getD 1 0 = x := ⟨_, rfl⟩
            rw [hy0] at hc0 hq3 hcx
            rw [hy1] at hc1 hq3
            have G3 := Lib.hid g3
            have HC := Lib.hid hcx
            clear hS3 hl g3 hv hy0 hy1 p3 hcx
            by_cases hyy : y0 = y1
            · subst hyy
              rw [if_pos rfl] at hq3
              have Q3 := Lib.hid hq3
              clear hq3
              go_wp2_with fail
              go_quiet (fail)
              go_wp2_with fail
              have g4 := G3.out.run.quiet (w1 := w3.drewN nq) ((Touch.refl _ _).drewN _)
              have hC := HF.out (w3.drewN nq) b F3 s3 g4
              rw [Q3.out] at hC
              refine hC.mono ?_
              intro e5 w5 hend
              obtain ⟨o5, s5⟩ := q
              cases o5 with
              | ok z =>
                obtain ⟨_, rfl, hz, hl5⟩ := hend
                cases hz
                have K := Lib.hid hl5
                clear hl5 hC g4 hc0 hc1
                go_wp2
                go_ret
                exact ⟨_, rfl, rfl, RunLeft.trans (G3.out.t.drewN _) (G3.out.sub) K.out⟩
              | bad x o =>
                obtain ⟨rfl, hl5⟩ := hend
                have K := Lib.hid hl5
                clear hl5 hC g4 hc0 hc1
                unfold stopped stopV
                go_wp2
                exact ⟨rfl, rfl, RunLost.trans (G3.out.t.drewN _) (G3.out.sub) K.out⟩
            · rw [if_neg hyy] at hq3
              have hyb : (y0 == y1) = false := by simp [hyy]
              have hS4 := fun n => push_any (w3.drewN n) b F3 s3 (G3.out.run.quiet (w1 := w3.drewN n) ((Touch.refl _ _).drewN _)).run G3.out.run.ok y0
              obtain ⟨⟨o4, s4⟩, e4⟩ : ∃ q, pushM y0 s3 = q := ⟨_, rfl⟩
              rw [e4] at hS4
              have E4 := Lib.hid e4
              have Q3 := Lib.hid hq3
              clear e4 hq3
              go_wp2_with fail
              go_quiet (fail)
              go_wp2_with fail
              refine (hS4 _).mono ?_
              intro e5 w5 hend
              cases o4 with
              | bad x o =>
                obtain ⟨rfl, hl5⟩ := hend
                have K := Lib.hid hl5
                clear hl5 hS4 hc0 hc1
                unfold stopped stopV
                go_wp2
                rw [← Q3.out, bind_bad E4.out]
                exact ⟨rfl, rfl, RunLost.trans (G3.out.t.drewN _) (G3.out.sub) K.out⟩
              | ok u =>
                obtain ⟨_, rfl, hu, hl5⟩ := hend
                cases hu
                have hl6 : RunLeft w3 b F3 s4 w5 := RunLeft.trans ((Touch.refl F3 w3).drewN _) (Sub.refl _ _) hl5
                obtain ⟨F4, g4, _, _, _, _⟩ := G3.out.on (keep_push HC.out) E4.out hl6
                have hq4 := Q3.out
                rw [bind_ok E4.out] at hq4
                have K := Lib.hid (And.intro g4 hq4)
                clear hl5 hl6 g4 hq4 hS4 hc0 hc1
                go_wp2
                go_roundw
                case rel => exact ⟨k + 1, by omega, by simp, s4, F4, K.out.1, K.out.2⟩
                case measure => simp only [intOf]; omega
    · have hkn : k = n := by omega
      subst hkn
      rw [caseD_last _ _ _ (by rw [HL.out.len])] at hq
      obtain ⟨f, cap, hc, hE, hf⟩ := HL.out.get hG.run k (by omega)
      have hent : ∀ (args : Array Value) (w : World), (callFunc f args).run Tryz.prog w = .ok (.enter f args) w := hE
      have hC := hf wr b F' s hG.run
      have c0 := box_cell hG.run HB.out h1 h2
      obtain ⟨⟨o1, s1⟩, e1⟩ : ∃ q, dens.getD k (.pure false) s = q := ⟨_, rfl⟩
      rw [e1] at hC
      have hkd : k < dens.length := by rw [HL.out.len]; omega
      have hKd : Keep d (dens.getD k (.pure false)) (fun _ => True) := HL.out.keeps _ (by rw [List.getD, List.getElem?_eq_getElem hkd]; exact List.getElem_mem _)
      have G := Lib.hid hG
      have Q := Lib.hid hq
      have E1 := Lib.hid e1
      have HK := Lib.hid hKd
      clear hG hq e1 hf hE hkd hKd
      cases o1 with
      | bad x o =>
        go_wp2_with fail
        refine hC.mono ?_
        rintro _ w1 ⟨rfl, hl⟩
        have K := Lib.hid (G.out.left hl)
        clear hl hC hc c0
        unfold stopped stopV
        go_wp2
        rw [← Q.out, bind_bad E1.out]
        exact ⟨rfl, rfl, K.out⟩
      | ok z =>
        go_wp2_with fail
        refine hC.mono ?_
        rintro _ w1 ⟨_, rfl, hz, hl⟩
        cases hz
        obtain ⟨F1, g1, _, _, _, _⟩ := G.out.on HK.out E1.out hl
        have hq1 := Q.out
        rw [bind_ok E1.out] at hq1
        have G1 := Lib.hid g1
        have Q1 := Lib.hid hq1
        clear hl hC hc c0 hq1
        cases z with
        | true =>
          clear g1
          go_wp2
          go_ret
          rw [← (show Mn.pure true s1 = q from Q1.out)]
          exact ⟨_, rfl, rfl, G1.out.end_⟩
        | false =>
          have hP := pop_any w1 b F1 s1 g1.run.run g1.run.ok
          clear g1
          obtain ⟨⟨o3, s3⟩, e3⟩ : ∃ q, popM s1 = q := ⟨_, rfl⟩
          rw [e3] at hP
          have hq3 : (popM.bind fun _ => Mn.pure false) s1 = q := Q1.out
          have E3 := Lib.hid e3
          have Q3 := Lib.hid hq3
          clear e3 hq3
          cases o3 with
          | bad x o =>
            go_wp2_with fail
            refine hP.mono ?_
            rintro _ w3 ⟨rfl, hl⟩
            have K := Lib.hid (G1.out.left hl)
            clear hl hP
            unfold stopped stopV
            go_wp2
            rw [← Q3.out, bind_bad E3.out]
            exact ⟨rfl, rfl, K.out⟩
          | ok x =>
            go_wp2_with fail
            refine hP.mono ?_
            rintro _ w3 ⟨_, rfl, hz, hl⟩
            cases hz
            have K := Lib.hid (RunLeft.trans G1.out.t G1.out.sub hl)
            clear hl hP
            go_wp2
            go_ret
            rw [← Q3.out, bind_ok E3.out]
            exact ⟨_, rfl, rfl, K.out⟩
end Go.Proofs.YtnhhflnanogpjaaGreatDoor
