/- The loops until and while. -/
import Derived.Test.YtnhhflnanogpjaaGreatDoorAct3
import Derived.Deep.LoopGhost
namespace Go.Proofs.YtnhhflnanogpjaaGreatDoor
open Go.RowKit

variable {α β : Type} {Pa : α → Prop} {enc : β → Value → World → Prop} {lo hi d nl : Nat} {w w' w1 : World} {b : Nat} {F F1 : List Nat} {r s : Run} {v : Value} {m : Mn α}

/-- a run goes on, in a later world -/
structure Goes (lo hi : Nat) (w w' : World) (b : Nat) (F : List Nat) (d nl : Nat) (s : Run) (F' : List Nat) (wr : World) : Prop where
  run : RunIn lo hi w wr b F' d nl s
  t : Touch F w' wr
  sub : Sub w' F F'
theorem Goes.start (h : RunIn lo hi w w' b F d nl r) : Goes lo hi w w' b F d nl r F w' := ⟨h, Touch.refl _ _, Sub.refl _ _⟩
theorem Goes.left {wr w2 : World} {F' : List Nat} {s2 : Run} (h : Goes lo hi w w' b F d nl s F' wr) (k : RunLost wr b F' s2 w2) : RunLost w' b F s2 w2 := RunLost.trans h.t h.sub k
theorem Goes.on {wr w2 : World} {F' : List Nat} {s2 : Run} {a : α} (h : Goes lo hi w w' b F d nl s F' wr) (hK : Keep d m Pa) (e : m s = (.ok a, s2)) (hl : RunLeft wr b F' s2 w2) :
    ∃ F2, Goes lo hi w w' b F d nl s2 F2 w2 ∧ s2.loops = s.loops ∧ Pa a ∧ s2.fuel = s.fuel ∧ s.steps ≤ s2.steps := by
  obtain ⟨F2, h1, h2, h3, h4, h5⟩ := h.run.on hK e hl
  obtain ⟨k1, k2, k3, k4, k5⟩ := hK s h.run.ok h.run.deep
  rw [e] at k2 k3
  exact ⟨F2, ⟨h1, h.t.trans h2 h.sub, Sub.trans h.sub h3 h.t.size⟩, h4, h5, k2, k3⟩
theorem Goes.end_ {wr : World} {F' : List Nat} (h : Goes lo hi w w' b F d nl s F' wr) : RunLeft w' b F s wr := ⟨F', h.run.run, h.t, h.sub⟩

theorem loopM_step {round : α → Mn (α ⊕ β)} {k : Nat} {a : α} {u : Unit} (e : stepM r = (.ok u, s)) : loopM round (k + 1) a r = ((round a).bind fun x => match x with | .inl a' => loopM round k a' | .inr b => .pure b) s := bind_ok e
theorem loopM_out {round : α → Mn (α ⊕ β)} {k : Nat} {a : α} {x : Int} {o : Bool} (e : stepM r = (.bad x o, s)) : loopM round (k + 1) a r = (.bad x o, s) := bind_bad e
theorem stepM_ok {u : Unit} (e : stepM r = (.ok u, s)) : s.steps = r.steps + 1 ∧ s.fuel = r.fuel := by
  unfold stepM at e
  split at e
  · cases e
  · cases e; exact ⟨rfl, rfl⟩

set_option maxRecDepth 100000 in
set_option maxHeartbeats 4000000 in
theorem until_act {body : Den} {B : Nat} (hb : ActSem lo hi w d nl v body) (hK : Keep d body (fun _ => True)) (hB : Blk w B 56 #[v]) (h1 : lo ≤ B) (h2 : B < hi) :
    ActSem lo hi w d nl (.func (.func 69) #[] #[.pointer (some ⟨B, 0, none⟩)]) (untilD body) := by
  refine ⟨69, _, rfl, enters_of Tryz.func69 (by kernel_rfl) rfl, fun w' b F r hr => ?_⟩
  obtain ⟨q, hq⟩ : ∃ q, untilD body r = q := ⟨_, rfl⟩
  rw [hq]
  have H0 : ∃ s F', Goes lo hi w w' b F d nl s F' w' ∧ loopM (untilRound body) (r.fuel + 1 - r.steps) () s = q ∧ s.fuel + 1 ≤ s.steps + (r.fuel + 1 - r.steps) := ⟨r, F, Goes.start hr, hq, by omega⟩
  obtain ⟨N, hN⟩ : ∃ N, r.fuel + 1 - r.steps = N := ⟨_, rfl⟩
  rw [hN] at H0
  obtain ⟨f, cap, rfl, hE, hf⟩ := hb
  have hent : ∀ (args : Array Value) (w : World), (callFunc f args).run Tryz.prog w = .ok (.enter f args) w := hE
  have HF := Lib.hid hf
  have HB := Lib.hid hB
  clear hq hr hB hf hE hN
  go_enter Tryz.func69, Tryz.ntmps69
  go_wp2_with fail
  go_loopg [4] N (fun gf _ wr => ∃ s F', Goes lo hi w w' b F d nl s F' wr ∧ loopM (untilRound body) gf () s = q ∧ s.fuel + 1 ≤ s.steps + gf)
  case atStart => exact H0
  case round =>
    obtain ⟨s, F', hG, hq, hk⟩ := hrel
    have hso := hG.run.ok.steps
    obtain ⟨g', rfl⟩ : ∃ g', gk = g' + 1 := ⟨gk - 1, by omega⟩
    have hS := step_any wr b F' s hG.run.run hG.run.ok
    obtain ⟨⟨o1, s1⟩, e1⟩ : ∃ q, stepM s = q := ⟨_, rfl⟩
    rw [e1] at hS
    have G := Lib.hid hG
    have Q := Lib.hid hq
    have E1 := Lib.hid e1
    clear hG hq e1 H0
    cases o1 with
    | bad x o =>
      go_wp2_with fail
      refine hS.mono ?_
      rintro _ w1 ⟨rfl, hl⟩
      have K := Lib.hid (G.out.left hl)
      clear hl hS
      unfold stopped stopV
      go_wp2
      rw [← Q.out, loopM_out E1.out]
      exact ⟨rfl, rfl, K.out⟩
    | ok u =>
      go_wp2_with fail
      refine hS.mono ?_
      rintro _ w1 ⟨_, rfl, hu, hl⟩
      cases hu
      obtain ⟨F1, g1, l1, _, u1, v1⟩ := G.out.on keep_step E1.out hl
      have hx := stepM_ok E1.out
      have hq1 := Q.out
      rw [loopM_step E1.out] at hq1
      have c0 := box_cell g1.run HB.out h1 h2
      have hC := HF.out w1 b F1 s1 g1.run
      obtain ⟨⟨o2, s2⟩, e2⟩ : ∃ q, body s1 = q := ⟨_, rfl⟩
      rw [e2] at hC
      have G1 := Lib.hid g1
      have Q1 := Lib.hid hq1
      have E2 := Lib.hid e2
      have KK := Lib.hid (And.intro hx hk)
      clear hS hl g1 hq1 e2 l1 u1 v1 hx hk hso
      cases o2 with
      | bad x o =>
        go_wp2_with fail
        refine hC.mono ?_
        rintro _ w2 ⟨rfl, hl⟩
        have K := Lib.hid (G1.out.left hl)
        clear hl hC c0
        unfold stopped stopV
        go_wp2
        rw [← Q1.out, bind_bad (show untilRound body () s1 = (.bad x o, s2) from bind_bad E2.out)]
        exact ⟨rfl, rfl, K.out⟩
      | ok z =>
        go_wp2_with fail
        refine hC.mono ?_
        rintro _ w2 ⟨_, rfl, hz, hl⟩
        cases hz
        obtain ⟨F2, g2, l2, _, u2, v2⟩ := G1.out.on hK E2.out hl
        have G2 := Lib.hid g2
        have KK2 := Lib.hid (And.intro u2 v2)
        clear hl hC c0 l2 u2 v2
        cases z with
        | true =>
          clear g2
          go_wp2
          go_ret
          rw [← Q1.out, bind_ok (show untilRound body () s1 = (.ok (.inr true), s2) from bind_ok E2.out)]
          exact ⟨_, rfl, rfl, G2.out.end_⟩
        | false =>
          have hP := pop_any w2 b F2 s2 g2.run.run g2.run.ok
          clear g2
          obtain ⟨⟨o3, s3⟩, e3⟩ : ∃ q, popM s2 = q := ⟨_, rfl⟩
          rw [e3] at hP
          have E3 := Lib.hid e3
          clear e3
          have hr0 : untilRound body () s1 = (popM.bind fun x => .pure (if x ≠ 0 then .inr false else .inl ())) s2 := bind_ok E2.out
          have R0 := Lib.hid hr0
          clear hr0
          cases o3 with
          | bad x o =>
            go_wp2_with fail
            refine hP.mono ?_
            rintro _ w3 ⟨rfl, hl⟩
            have K := Lib.hid (G2.out.left hl)
            clear hl hP
            unfold stopped stopV
            go_wp2
            rw [← Q1.out, bind_bad (show untilRound body () s1 = (.bad x o, s3) from R0.out.trans (bind_bad E3.out))]
            exact ⟨rfl, rfl, K.out⟩
          | ok x =>
            by_cases hx0 : x = 0
            · go_wp2_with fail
              refine hP.mono ?_
              rintro _ w3 ⟨_, rfl, hz, hl⟩
              cases hz
              obtain ⟨F3, g3, l3, _, u3, v3⟩ := G2.out.on keep_pop E3.out hl
              have hq3 := Q1.out
              rw [bind_ok (R0.out.trans (bind_ok E3.out) : untilRound body () s1 = (.ok (if x ≠ 0 then .inr false else .inl ()), s3)), if_neg (fun h => h hx0)] at hq3
              have K := Lib.hid (And.intro g3 hq3)
              have hfin : s3.fuel + 1 ≤ s3.steps + g' := by
                have a1 := KK.out; have a2 := KK2.out
                omega
              clear hl hP g3 l3 u3 v3 hq3
              subst hx0
              go_wp2
              go_roundg g'
              case measure => omega
              case rel => exact ⟨s3, F3, K.out.1, K.out.2, hfin⟩
            · go_wp2_with fail
              refine hP.mono ?_
              rintro _ w3 ⟨_, rfl, hz, hl⟩
              cases hz
              obtain ⟨F3, g3, l3, _, u3, v3⟩ := G2.out.on keep_pop E3.out hl
              have K := Lib.hid g3
              clear hl hP g3 l3 u3 v3
              go_wp2
              go_ret
              rw [← Q1.out, bind_ok (R0.out.trans (bind_ok E3.out) : untilRound body () s1 = (.ok (if x ≠ 0 then .inr false else .inl ()), s3)), if_pos hx0]
              exact ⟨_, rfl, rfl, K.out.end_⟩
end Go.Proofs.YtnhhflnanogpjaaGreatDoor
