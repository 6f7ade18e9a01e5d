/- The act of a word. -/
import Derived.Test.YtnhhflnanogpjaaGreatDoorAct9
import Derived.Deep.QuietTactic
namespace Go.Proofs.YtnhhflnanogpjaaGreatDoor
open Go.RowKit

variable {α β : Type} {Pa : α → Prop} {enc : β → Value → World → Prop} {lo hi d nl : Nat} {w w' w1 : World} {b : Nat} {F F1 : List Nat} {r s : Run} {v v2 : Value} {m : Mn α}

theorem many_zero {op : Int} (h : 28 ≤ op) : manyF op = 0 := by unfold manyF; rw [if_neg (by omega), if_neg (by omega)]
theorem many_one {op : Int} (h : 1 ≤ op ∧ op ≤ 10) : manyF op = 1 := by unfold manyF; rw [if_pos h]
theorem many_two {op : Int} (h : 11 ≤ op ∧ op ≤ 27) : manyF op = 2 := by unfold manyF; rw [if_neg (by omega), if_pos h]
theorem oneF_fine {op : Int} (h : 1 ≤ op ∧ op ≤ 10) (a : Int) : (oneF op a).2 = 0 := by
  obtain ⟨k, hk, rfl⟩ : ∃ k : Nat, k < 10 ∧ op = k + 1 := ⟨(op - 1).toNat, by omega, by omega⟩
  clear h
  match k, hk with
  | 0, _ => rfl
  | 1, _ => rfl
  | 2, _ => rfl
  | 3, _ => rfl
  | 4, _ => rfl
  | 5, _ => rfl
  | 6, _ => rfl
  | 7, _ => rfl
  | 8, _ => rfl
  | 9, _ => rfl
theorem oneF_off {op : Int} (h : 11 ≤ op) (a : Int) : oneF op a = (0, 1) := by
  unfold oneF
  rw [if_neg (by omega), if_neg (by omega), if_neg (by omega), if_neg (by omega), if_neg (by omega), if_neg (by omega), if_neg (by omega), if_neg (by omega), if_neg (by omega), if_neg (by omega)]

set_option maxRecDepth 100000 in
set_option maxHeartbeats 2000000 in
theorem prim_zero {B : Nat} {op : Int} (h28 : 28 ≤ op) (h42 : op ≤ 42) (hr : RunIn lo hi w w' b F d nl r) (c1 : w'.cell? ⟨B, 0, none⟩ = some (.int .i64 op)) :
    Calls Tryz.prog 60 #[.pointer (some ⟨b, 0, none⟩), .pointer (some ⟨B, 0, none⟩)] w' (Ends unitV w' b F (primM op r)) := by
  have hM := fun w => Many_any op w
  rw [many_zero h28] at hM
  rw [show primM op r = doM op r by unfold primM; rw [if_pos (many_zero h28)]]
  obtain ⟨bS, FS, lv, pv, hp, rfl⟩ := hr.run
  have d0 := hp.blk.cell 0
  have hD := Do_any w'.drew bS FS r.st (hp.stk.touch (Touch.refl [] w').drew (by simp)) op h28 h42 hr.ok.small hr.ok.st
  unfold DoSays at hD
  obtain ⟨⟨e0, L⟩, hdf⟩ : ∃ q, doF op r.st = q := ⟨_, rfl⟩
  rw [hdf] at hD
  have hres : doM op r = if e0 = 0 then (.ok (), { r with st := L }) else (.bad e0 false, { r with st := L }) := by unfold doM; rw [hdf]
  rw [hres]
  have HP := Lib.hid hp
  clear hr hp hdf hres h28 h42
  by_cases h0 : e0 = 0
  · rw [if_pos h0]
    subst h0
    have hA := fun w => asks_ok w
    go_enter Tryz.func60, Tryz.ntmps60
    go_wp2_with fail
    refine (hM _).mono ?_
    rintro _ _ ⟨rfl, rfl⟩
    go_wp2_with fail
    go_still_tail 5, (by kernel_rfl)
    go_wp2_with fail
    refine hD.mono ?_
    rintro _ w1 ⟨F', rfl, hst, t1, hs⟩
    go_wp2_with fail
    refine (hA _).mono ?_
    rintro _ _ ⟨rfl, rfl⟩
    have K := Lib.hid (HP.out.stack hst (Touch.of_drew t1) hs)
    clear hst t1 hs hD hA hM d0 c1
    go_wp2
    go_end0
    exact ⟨_, rfl, rfl, K.out⟩
  · rw [if_neg h0]
    have hA := fun w => asks_bad e0 h0 w
    go_enter Tryz.func60, Tryz.ntmps60
    go_wp2_with fail
    refine (hM _).mono ?_
    rintro _ _ ⟨rfl, rfl⟩
    go_wp2_with fail
    go_still_tail 5, (by kernel_rfl)
    go_wp2_with fail
    refine hD.mono ?_
    rintro _ w1 ⟨F', rfl, hst, t1, hs⟩
    go_wp2_with fail
    refine (hA _).mono ?_
    rintro _ _ ⟨rfl, rfl⟩
    exact ⟨rfl, rfl, (HP.out.stack hst (Touch.of_drew t1) hs).lost⟩

set_option maxRecDepth 100000 in
set_option maxHeartbeats 2000000 in
theorem prim_one {B : Nat} {op : Int} (hop : 1 ≤ op ∧ op ≤ 10) (hr : RunIn lo hi w w' b F d nl r) (c1 : ∀ w1, Touch F w' w1 → w1.cell? ⟨B, 0, none⟩ = some (.int .i64 op)) :
    Calls Tryz.prog 60 #[.pointer (some ⟨b, 0, none⟩), .pointer (some ⟨B, 0, none⟩)] w' (Ends unitV w' b F (primM op r)) := by
  have hM := fun w => Many_any op w
  rw [many_one hop] at hM
  have hT := take_any w' b F r hr.run hr.ok 1 (by omega)
  obtain ⟨⟨o1, s1⟩, e1⟩ : ∃ q, takeM 1 r = q := ⟨_, rfl⟩
  rw [e1] at hT
  have c0 := c1 w' (Touch.refl _ _)
  have hres : primM op r = ((takeM 1).bind fun l => (asksM (oneF op (l.getD 0 0)).2).bind fun _ => pushM (oneF op (l.getD 0 0)).1) r := by
    unfold primM
    rw [if_neg (by rw [many_one hop]; decide), if_pos (many_one hop)]
  rw [hres]
  have Hr := Lib.hid (Goes.start hr)
  have E1 := Lib.hid e1
  have C1 := Lib.hid c1
  cases o1 with
  | bad x o =>
    rw [bind_bad e1]
    clear e1 hr hres hop c1
    go_enter Tryz.func60, Tryz.ntmps60
    go_wp2_with fail
    refine (hM _).mono ?_
    rintro _ _ ⟨rfl, rfl⟩
    go_wp2_with fail
    refine hT.mono ?_
    rintro _ w1 ⟨rfl, hl⟩
    exact ⟨rfl, rfl, hl⟩
  | ok l =>
    rw [bind_ok e1]
    obtain ⟨a, ha⟩ : ∃ a, l.getD 0 0 = a := ⟨_, rfl⟩
    rw [ha]
    have hO := fun w => One_any op a w
    unfold OneSays at hO
    have hz := oneF_fine hop a
    have hcell := oneF_cell op a
    obtain ⟨⟨y, e0⟩, ho⟩ : ∃ q, oneF op a = q := ⟨_, rfl⟩
    rw [ho] at hz hO hcell ⊢
    simp only at hz
    subst hz
    have hA := fun w => asks_ok w
    have hres2 : ((asksM 0).bind fun _ => pushM y) s1 = pushM y s1 := rfl
    rw [hres2]
    obtain ⟨⟨o2, s2⟩, e2⟩ : ∃ q, pushM y s1 = q := ⟨_, rfl⟩
    rw [e2]
    have E2 := Lib.hid e2
    have HA := Lib.hid ha
    clear e1 hr hres hop c1 ho ha hcell hres2 e2
    go_enter Tryz.func60, Tryz.ntmps60
    go_wp2_with fail
    refine (hM _).mono ?_
    rintro _ _ ⟨rfl, rfl⟩
    go_wp2_with fail
    refine hT.mono ?_
    rintro _ w1 ⟨v, rfl, hv, hl⟩
    obtain ⟨F1, g1, _, p1, _, _⟩ := Hr.out.on (keep_take 1) E1.out hl
    obtain ⟨g, c, rfl, hc⟩ := row_first hv p1.1
    rw [HA.out] at hc
    have cB := C1.out w1 g1.t
    have hP := fun n => push_any (w1.drewN n) b F1 s1 (g1.run.quiet ((Touch.refl [] w1).drewN n)).run g1.run.ok y
    rw [E2.out] at hP
    have G1 := Lib.hid g1
    clear hT hv hl g1 p1 c0
    go_wp2_with fail
    go_quiet ((go_at_call 64; exact quiet_left (hO _)))
    go_wp2_with fail
    refine (hA _).mono ?_
    rintro _ _ ⟨rfl, rfl⟩
    go_wp2_with fail
    refine (hP _).mono ?_
    intro e5 w5 hend
    have hend2 := hend.after (G1.out.t.drewN _) G1.out.sub
    cases o2 with
    | bad x o =>
      obtain ⟨rfl, hl5⟩ := hend2
      exact ⟨rfl, rfl, hl5⟩
    | ok u =>
      obtain ⟨_, rfl, hu, hl5⟩ := hend2
      cases hu
      have K := Lib.hid hl5
      clear hl5 hend hP hc cB
      go_wp2
      go_end0
      exact ⟨_, rfl, rfl, K.out⟩

set_option maxRecDepth 100000 in
set_option maxHeartbeats 4000000 in
theorem prim_two {B : Nat} {k : Nat} (hop : 11 ≤ k ∧ k ≤ 27) (hr : RunIn lo hi w w' b F d nl r) (c1 : ∀ w1, Touch F w' w1 → w1.cell? ⟨B, 0, none⟩ = some (.int .i64 k)) :
    Calls Tryz.prog 60 #[.pointer (some ⟨b, 0, none⟩), .pointer (some ⟨B, 0, none⟩)] w' (Ends unitV w' b F (primM k r)) := by
  have hop' : (11 : Int) ≤ k ∧ (k : Int) ≤ 27 := by omega
  have hM := fun w => Many_any k w
  rw [many_two hop'] at hM
  have hT := take_any w' b F r hr.run hr.ok 2 (by omega)
  obtain ⟨⟨o1, s1⟩, e1⟩ : ∃ q, takeM 2 r = q := ⟨_, rfl⟩
  rw [e1] at hT
  have c0 := c1 w' (Touch.refl _ _)
  have hres : primM k r = ((takeM 2).bind fun l => if l.getD 1 0 = 0 ∧ ((k : Int) = 14 ∨ (k : Int) = 15) then asksM (-10) else pushM (twoF k (l.getD 0 0) (l.getD 1 0))) r := by
    unfold primM
    rw [if_neg (by rw [many_two hop']; decide), if_neg (by rw [many_two hop']; decide)]
  rw [hres]
  have Hr := Lib.hid (Goes.start hr)
  have E1 := Lib.hid e1
  have C1 := Lib.hid c1
  cases o1 with
  | bad x o =>
    rw [bind_bad e1]
    clear e1 hr hres hop hop' c1
    go_enter Tryz.func60, Tryz.ntmps60
    go_wp2_with fail
    refine (hM _).mono ?_
    rintro _ _ ⟨rfl, rfl⟩
    go_wp2_with fail
    refine hT.mono ?_
    rintro _ w1 ⟨rfl, hl⟩
    exact ⟨rfl, rfl, hl⟩
  | ok l =>
    rw [bind_ok e1]
    obtain ⟨x, hx⟩ : ∃ a, l.getD 0 0 = a := ⟨_, rfl⟩
    obtain ⟨y, hy⟩ : ∃ a, l.getD 1 0 = a := ⟨_, rfl⟩
    rw [hx, hy]
    have hO := fun w => One_any k x w
    unfold OneSays at hO
    rw [oneF_off hop'.1] at hO
    simp only at hO
    have HA := Lib.hid (And.intro hx hy)
    obtain ⟨res, hre⟩ : ∃ res : Int × Int, (if y = 0 ∧ ((k : Int) = 14 ∨ (k : Int) = 15) then ((0 : Int), (-10 : Int)) else (twoF k x y, 0)) = res := ⟨_, rfl⟩
    have hTwo : ∀ w, Calls Tryz.prog 65 #[.int .i64 k, .int .i64 x, .int .i64 y] w fun e w' => e = .returned (.tuple #[.int .i64 res.1, .int .i64 res.2]) ∧ Touch [] w w' := fun w => by
      rw [← hre]
      by_cases hz : y = 0 ∧ ((k : Int) = 14 ∨ (k : Int) = 15)
      · rw [if_pos hz, hz.1]
        exact Two_zero k (by omega) x w
      · rw [if_neg hz]
        exact Two_ok k hop x y (by omega) w
    have hres2 : (if y = 0 ∧ ((k : Int) = 14 ∨ (k : Int) = 15) then asksM (-10) else pushM (twoF k x y)) s1 = if res.2 = 0 then pushM res.1 s1 else (.bad res.2 false, s1) := by
      rw [← hre]
      by_cases hz : y = 0 ∧ ((k : Int) = 14 ∨ (k : Int) = 15)
      · rw [if_pos hz, if_pos hz]
        rfl
      · rw [if_neg hz, if_neg hz]
        rfl
    rw [hres2]
    obtain ⟨v, e0⟩ := res
    simp only at hTwo ⊢
    obtain ⟨K, hK⟩ : ∃ K : Int, (k : Int) = K := ⟨_, rfl⟩
    rw [hK] at hO hTwo hM c0
    simp only [hK] at C1
    clear e1 hr hres hop hop' c1 hx hy hre hres2 hK
    by_cases h0 : e0 = 0
    · rw [if_pos h0]
      subst h0
      have hA := fun w => asks_ok w
      obtain ⟨⟨o2, s2⟩, e2⟩ : ∃ q, pushM v s1 = q := ⟨_, rfl⟩
      rw [e2]
      have E2 := Lib.hid e2
      clear e2
      go_enter Tryz.func60, Tryz.ntmps60
      go_wp2_with fail
      refine (hM _).mono ?_
      rintro _ _ ⟨rfl, rfl⟩
      go_wp2_with fail
      refine hT.mono ?_
      rintro _ w1 ⟨u, rfl, hv, hl⟩
      obtain ⟨F1, g1, _, p1, _, _⟩ := Hr.out.on (keep_take 2) E1.out hl
      obtain ⟨g, c, rfl, hc0, hc1⟩ := row_second hv p1.1
      rw [HA.out.1] at hc0
      rw [HA.out.2] at hc1
      have cB := C1.out w1 g1.t
      have hP := fun w2 (t : Touch [] w1 w2) => push_any w2 b F1 s1 (g1.run.quiet t).run g1.run.ok v
      rw [E2.out] at hP
      have G1 := Lib.hid g1
      have HP := Lib.hid hP
      clear hT hv hl g1 p1 c0 hP
      go_wp2_with fail
      go_quiet ((go_at_call 64; exact quiet_left (hO _)))
      go_wp2_with fail
      generalize hwq : w1.drewN nq = wq
      have hq : Touch [] w1 wq := hwq ▸ (Touch.refl [] w1).drewN _
      have cB := (C1.out w1 G1.out.t)
      rw [show w1.cell? ⟨B, 0, none⟩ = wq.cell? ⟨B, 0, none⟩ from hwq ▸ rfl] at cB
      rw [show w1.cell? ⟨g, 0, none⟩ = wq.cell? ⟨g, 0, none⟩ from hwq ▸ rfl] at hc0
      rw [show w1.cell? ⟨g, 1, none⟩ = wq.cell? ⟨g, 1, none⟩ from hwq ▸ rfl] at hc1
      clear hwq
      go_region_with (go_at_call 65; refine (hTwo _).mono ?_; rintro _ w2 ⟨rfl, t2⟩; have t2 := Touch.of_drew t2)
      all_goals (have hP := HP.out w2 (hq.trans t2 (by simp)); have T2 := Lib.hid (hq.trans t2 (by simp)); clear t2 hq cB hc0 hc1; go_wp2_with fail; refine (hA _).mono ?_; rintro _ _ ⟨rfl, rfl⟩; go_wp2_with fail; refine hP.mono ?_; intro e5 w5 hend; have hend2 := hend.after ((G1.out.t.trans T2.out (by simp))) G1.out.sub; clear hend hP)
      all_goals cases o2 with
        | bad x o =>
          obtain ⟨rfl, hl5⟩ := hend2
          exact ⟨rfl, rfl, hl5⟩
        | ok u =>
          obtain ⟨_, rfl, hu, hl5⟩ := hend2
          cases hu
          have K := Lib.hid hl5
          clear hl5
          go_wp2
          go_end0
          exact ⟨_, rfl, rfl, K.out⟩
    · rw [if_neg h0]
      have hA := fun w => asks_bad e0 h0 w
      go_enter Tryz.func60, Tryz.ntmps60
      go_wp2_with fail
      refine (hM _).mono ?_
      rintro _ _ ⟨rfl, rfl⟩
      go_wp2_with fail
      refine hT.mono ?_
      rintro _ w1 ⟨u, rfl, hv, hl⟩
      obtain ⟨F1, g1, _, p1, _, _⟩ := Hr.out.on (keep_take 2) E1.out hl
      obtain ⟨g, c, rfl, hc0, hc1⟩ := row_second hv p1.1
      rw [HA.out.1] at hc0
      rw [HA.out.2] at hc1
      have cB := C1.out w1 g1.t
      have G1 := Lib.hid g1
      clear hT hv hl g1 p1 c0
      go_wp2_with fail
      go_quiet ((go_at_call 64; exact quiet_left (hO _)))
      go_wp2_with fail
      generalize hwq : w1.drewN nq = wq
      have hq : Touch [] w1 wq := hwq ▸ (Touch.refl [] w1).drewN _
      have cB := (C1.out w1 G1.out.t)
      rw [show w1.cell? ⟨B, 0, none⟩ = wq.cell? ⟨B, 0, none⟩ from hwq ▸ rfl] at cB
      rw [show w1.cell? ⟨g, 0, none⟩ = wq.cell? ⟨g, 0, none⟩ from hwq ▸ rfl] at hc0
      rw [show w1.cell? ⟨g, 1, none⟩ = wq.cell? ⟨g, 1, none⟩ from hwq ▸ rfl] at hc1
      clear hwq
      go_region_with (go_at_call 65; refine (hTwo _).mono ?_; rintro _ w2 ⟨rfl, t2⟩; have t2 := Touch.of_drew t2)
      all_goals (have T2 := Lib.hid (hq.trans t2 (by simp)); clear t2 hq cB hc0 hc1; go_wp2_with fail; refine (hA _).mono ?_; rintro _ _ ⟨rfl, rfl⟩)
      all_goals exact ⟨rfl, rfl, RunLost.trans G1.out.t G1.out.sub (RunLeft.quiet G1.out.run.run T2.out).lost⟩

theorem prim_act {B : Nat} {op : Int} (hop : 1 ≤ op ∧ op ≤ 42) (hB : Blk w B 3 #[.int .i64 op]) (h1 : lo ≤ B) (h2 : B < hi) :
    PlainSem lo hi w d nl (.func (.func 60) #[] #[.pointer (some ⟨B, 0, none⟩)]) (primM op) := by
  refine ⟨60, _, rfl, enters_of Tryz.func60 (by kernel_rfl) rfl, fun w' b F r hr => ?_⟩
  have c1 : ∀ w1, Touch F w' w1 → w1.cell? ⟨B, 0, none⟩ = some (.int .i64 op) := fun w1 t =>
    (t.cell (p := ⟨B, 0, none⟩) (by have := hr.size; simp only; omega) (fun hf => hr.apart B hf ⟨h1, h2⟩)).trans (box_cell hr hB h1 h2)
  by_cases ha : op ≤ 10
  · exact prim_one ⟨hop.1, ha⟩ hr c1
  by_cases hb : op ≤ 27
  · obtain ⟨k, rfl⟩ : ∃ k : Nat, op = k := ⟨op.toNat, by omega⟩
    exact prim_two (by omega) hr c1
  · exact prim_zero (by omega) hop.2 hr (c1 w' (Touch.refl _ _))
end Go.Proofs.YtnhhflnanogpjaaGreatDoor
