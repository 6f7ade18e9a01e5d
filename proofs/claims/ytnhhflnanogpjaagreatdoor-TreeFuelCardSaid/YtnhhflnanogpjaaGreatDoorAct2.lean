/- Acts of acts: one of two, one after the other. -/
import Derived.Test.YtnhhflnanogpjaaGreatDoorAct
namespace Go.Proofs.YtnhhflnanogpjaaGreatDoor
open Go.RowKit

variable {α β : Type} {Pa : α → Prop} {enc : β → Value → World → Prop} {lo hi d nl : Nat} {w w' w1 : World} {b : Nat} {F : List Nat} {r s : Run} {v : Value} {m : Mn α}

theorem bind_ok {f : α → Mn β} {a : α} (h : m r = (.ok a, s)) : (m.bind f) r = f a s := by
  unfold Mn.bind
  rw [h]
theorem bind_bad {f : α → Mn β} {x : Int} {o : Bool} (h : m r = (.bad x o, s)) : (m.bind f) r = (.bad x o, s) := by
  unfold Mn.bind
  rw [h]
theorem if_at {p : Prop} [Decidable p] {x y : Mn α} : (if p then x else y) r = if p then x r else y r := by
  split <;> rfl

theorem RunIn.on (h : RunIn lo hi w w' b F d nl r) {a : α} (hK : Keep d m Pa) (e : m r = (.ok a, s)) (hl : RunLeft w' b F s w1) :
    ∃ F', RunIn lo hi w w1 b F' d nl s ∧ Touch F w' w1 ∧ Sub w' F F' ∧ s.loops = r.loops ∧ Pa a := by
  obtain ⟨k1, k2, k3, k4, k5⟩ := hK r h.ok h.deep
  rw [e] at k1 k2 k3 k4 k5
  obtain ⟨hlo, hPa⟩ := k5 a rfl
  obtain ⟨F', h1, h2, h3⟩ := h.next hl k1 (by rw [hlo]) k4
  exact ⟨F', h1, h2, h3, hlo, hPa⟩
/-- what comes behind a part is left of the whole -/
theorem Ends.after {o : Out β × Run} {e : Ending} {F' : List Nat} {w2 : World} (t : Touch F w' w1) (hs : Sub w' F F') (h : Ends enc w1 b F' o e w2) : Ends enc w' b F o e w2 := by
  obtain ⟨o, s⟩ := o
  cases o with
  | ok a =>
    obtain ⟨v, h1, h2, h3⟩ := h
    exact ⟨v, h1, h2, RunLeft.trans t hs h3⟩
  | bad x o => exact ⟨h.1, RunLost.trans t hs h.2⟩

set_option maxHeartbeats 1000000 in
theorem either_act {y n : Den} {v1 v2 : Value} {B1 B2 : Nat} (hy : ActSem lo hi w d nl v1 y) (hn : ActSem lo hi w d nl v2 n)
    (hB1 : Blk w B1 56 #[v1]) (h1 : lo ≤ B1) (h2 : B1 < hi) (hB2 : Blk w B2 56 #[v2]) (h3 : lo ≤ B2) (h4 : B2 < hi) :
    ActSem lo hi w d nl (.func (.func 67) #[] #[.pointer (some ⟨B1, 0, none⟩), .pointer (some ⟨B2, 0, none⟩)]) (eitherD y n) := by
  refine ⟨67, _, rfl, enters_of Tryz.func67 (by kernel_rfl) rfl, fun w' b F r hr => ?_⟩
  have hP := pop_any w' b F r hr.run hr.ok
  cases e : popM r with
  | mk o s =>
    rw [e] at hP
    have He := Lib.hid e
    clear e
    cases o with
    | bad x o =>
      have hres : eitherD y n r = (.bad x o, s) := bind_bad He.out
      rw [hres]
      clear hy hn hB1 hB2 hr
      go_enter Tryz.func67, Tryz.ntmps67
      go_wp2_with fail
      refine hP.mono ?_
      rintro _ w1 ⟨rfl, hl⟩
      exact ⟨rfl, rfl, hl⟩
    | ok x =>
      have Hr := Lib.hid hr
      have K1 := Lib.hid hy
      have K2 := Lib.hid hn
      have K3 := Lib.hid hB1
      have K4 := Lib.hid hB2
      clear hr hy hn hB1 hB2
      by_cases hx : x = 0
      · have hres : eitherD y n r = n s := by
          refine (bind_ok He.out).trans ?_
          rw [if_neg (fun h => h hx)]
        rw [hres]
        subst hx
        obtain ⟨⟨o2, s2⟩, en⟩ : ∃ q, n s = q := ⟨_, rfl⟩
        rw [en]
        have En := Lib.hid en
        clear en hres
        go_enter Tryz.func67, Tryz.ntmps67
        go_wp2_with fail
        refine hP.mono ?_
        rintro _ w1 ⟨_, rfl, hv, hl⟩
        cases hv
        obtain ⟨F', hr1, t1, s1, _, _⟩ := Hr.out.on keep_pop He.out hl
        obtain ⟨f, cap, rfl, hE, hf⟩ := K2.out
        have hent : ∀ (args : Array Value) (w : World), (callFunc f args).run Tryz.prog w = .ok (.enter f args) w := hE
        have hc := hf w1 b F' s hr1
        have c0 := box_cell hr1 K4.out h3 h4
        have T := Lib.hid (And.intro t1 s1)
        clear hf hE hr1 hP t1 s1 hl Hr
        go_wp2_with fail
        refine hc.mono ?_
        intro e2 w2 hend
        have hend := hend.after T.out.1 T.out.2
        rw [En.out] at hend
        cases o2 with
        | ok z =>
          obtain ⟨_, rfl, hz, hl2⟩ := hend
          cases hz
          clear hc
          go_wp2
          go_ret
          exact ⟨_, rfl, rfl, hl2⟩
        | bad z o =>
          obtain ⟨rfl, hl2⟩ := hend
          exact ⟨rfl, rfl, hl2⟩
      · have hres : eitherD y n r = y s := by
          refine (bind_ok He.out).trans ?_
          rw [if_pos hx]
        rw [hres]
        obtain ⟨⟨o2, s2⟩, en⟩ : ∃ q, y s = q := ⟨_, rfl⟩
        rw [en]
        have En := Lib.hid en
        clear en hres
        go_enter Tryz.func67, Tryz.ntmps67
        go_wp2_with fail
        refine hP.mono ?_
        rintro _ w1 ⟨_, rfl, hv, hl⟩
        cases hv
        obtain ⟨F', hr1, t1, s1, _, _⟩ := Hr.out.on keep_pop He.out hl
        obtain ⟨f, cap, rfl, hE, hf⟩ := K1.out
        have hent : ∀ (args : Array Value) (w : World), (callFunc f args).run Tryz.prog w = .ok (.enter f args) w := hE
        have hc := hf w1 b F' s hr1
        have c0 := box_cell hr1 K3.out h1 h2
        have T := Lib.hid (And.intro t1 s1)
        clear hf hE hr1 hP t1 s1 hl Hr
        go_wp2_with fail
        refine hc.mono ?_
        intro e2 w2 hend
        have hend := hend.after T.out.1 T.out.2
        rw [En.out] at hend
        cases o2 with
        | ok z =>
          obtain ⟨_, rfl, hz, hl2⟩ := hend
          cases hz
          clear hc
          go_wp2
          go_ret
          exact ⟨_, rfl, rfl, hl2⟩
        | bad z o =>
          obtain ⟨rfl, hl2⟩ := hend
          exact ⟨rfl, rfl, hl2⟩
end Go.Proofs.YtnhhflnanogpjaaGreatDoor
