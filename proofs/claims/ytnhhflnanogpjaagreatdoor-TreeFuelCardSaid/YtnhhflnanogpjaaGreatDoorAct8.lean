/- The acts of the leaves. -/
import Derived.Test.YtnhhflnanogpjaaGreatDoorAct4
import Derived.StillTailTactics
import Derived.Deep.RegionWith
namespace Go.Proofs.YtnhhflnanogpjaaGreatDoor
open Go.RowKit

variable {α β : Type} {Pa : α → Prop} {enc : β → Value → World → Prop} {lo hi d nl : Nat} {w w' w1 : World} {b : Nat} {F F1 : List Nat} {r s : Run} {v v2 : Value} {m : Mn α}

theorem leave_act : ActSem lo hi w d nl (.func (.func 40) #[] #[]) (.pure true) := by
  refine ⟨40, _, rfl, enters_of Tryz.func40 (by kernel_rfl) rfl, fun w' b F r hr => ?_⟩
  go_enter Tryz.func40, Tryz.ntmps40
  go_wp2
  go_ret
  exact ⟨_, rfl, rfl, RunLeft.quiet hr.run (Touch.refl _ _)⟩

theorem node_cell {B : Nat} {k n : Int} {kv : Value} (h : RunIn lo hi w w' b F d nl r) (hB : Blk w B 37 #[.int .i64 k, .int .i64 n, kv]) (h1 : lo ≤ B) (h2 : B < hi) : w'.cell? ⟨B, 1, none⟩ = some (.int .i64 n) := (h.kept.blk hB h1 h2).cell 1

set_option maxHeartbeats 1000000 in
theorem lit_act {B : Nat} {k n : Int} {kv : Value} (hB : Blk w B 37 #[.int .i64 k, .int .i64 n, kv]) (h1 : lo ≤ B) (h2 : B < hi) :
    PlainSem lo hi w d nl (.func (.func 31) #[] #[.pointer (some ⟨B, 0, none⟩)]) (pushM n) := by
  refine ⟨31, _, rfl, enters_of Tryz.func31 (by kernel_rfl) rfl, fun w' b F r hr => ?_⟩
  have c1 := node_cell hr hB h1 h2
  have hP := push_any w' b F r hr.run hr.ok n
  obtain ⟨⟨o, s⟩, e⟩ : ∃ q, pushM n r = q := ⟨_, rfl⟩
  rw [e] at hP ⊢
  clear e hr hB
  cases o with
  | bad x o =>
    go_enter Tryz.func31, Tryz.ntmps31
    go_wp2_with fail
    refine hP.mono ?_
    rintro _ w1 ⟨rfl, hl⟩
    exact ⟨rfl, rfl, hl⟩
  | ok u =>
    go_enter Tryz.func31, Tryz.ntmps31
    go_wp2_with fail
    refine hP.mono ?_
    rintro _ w1 ⟨_, rfl, hu, hl⟩
    cases hu
    go_wp2
    go_end0
    exact ⟨_, rfl, rfl, hl⟩

set_option maxHeartbeats 1000000 in
theorem throw_act : PlainSem lo hi w d nl (.func (.func 41) #[] #[]) throwM := by
  refine ⟨41, _, rfl, enters_of Tryz.func41 (by kernel_rfl) rfl, fun w' b F r hr => ?_⟩
  have hP := pop_any w' b F r hr.run hr.ok
  obtain ⟨⟨o, s⟩, e⟩ : ∃ q, popM r = q := ⟨_, rfl⟩
  have hK := keep_pop (d := d) r hr.ok hr.deep
  rw [e] at hP hK
  cases o with
  | bad x o =>
    rw [show throwM r = (.bad x o, s) from bind_bad e]
    clear e hr hK
    go_enter Tryz.func41, Tryz.ntmps41
    go_wp2_with fail
    refine hP.mono ?_
    rintro _ w1 ⟨rfl, hl⟩
    exact ⟨rfl, rfl, hl⟩
  | ok x =>
    rw [show throwM r = asksM x s from bind_ok e]
    have hx := (hK.2.2.2.2 x rfl).2
    have hxw : wrap64 x = x := by unfold Cell64 at hx; unfold wrap64; omega
    unfold asksM
    clear e hr hK hx
    by_cases h0 : x = 0
    · rw [if_pos h0]
      subst h0
      have hA := fun w => asks_ok w
      go_enter Tryz.func41, Tryz.ntmps41
      go_wp2_with fail
      refine hP.mono ?_
      rintro _ w1 ⟨_, rfl, hu, hl⟩
      cases hu
      go_wp2_with fail
      refine (hA _).mono ?_
      rintro _ _ ⟨rfl, rfl⟩
      go_wp2
      go_end0
      exact ⟨_, rfl, rfl, hl⟩
    · rw [if_neg h0]
      have hA := fun w => asks_bad x h0 w
      go_enter Tryz.func41, Tryz.ntmps41
      go_wp2_with fail
      refine hP.mono ?_
      rintro _ w1 ⟨_, rfl, hu, hl⟩
      cases hu
      go_wp2_with fail
      refine (hA _).mono ?_
      rintro _ _ ⟨rfl, rfl⟩
      exact ⟨rfl, rfl, hl.lost⟩

theorem loops_cell {n : Nat} (h : RunAt w' b F r) : ∃ bS pv lv, w'.cell? ⟨b, 0, none⟩ = some (.pointer (some ⟨bS, 0, none⟩)) ∧ w'.cell? ⟨b, 1, none⟩ = some lv ∧ w'.cell? ⟨b, 2, none⟩ = some pv ∧
    (r.loops.length = n + 1 → ∃ g c, pv = .slice (some ⟨g, 0, none⟩) (n + 1) c ∧ w'.cell? ⟨g, n, none⟩ = some (.int .i64 (r.loops.getD n 0))) ∧ (r.loops.length = 0 → ∃ a c, pv = .slice a 0 c) ∧
    (n < r.locals.length → ∃ g c, lv = .slice (some ⟨g, 0, none⟩) r.locals.length c ∧ w'.cell? ⟨g, n, none⟩ = some (.int .i64 (r.locals.getD n 0))) := by
  obtain ⟨bS, FS, lv, pv, hp, rfl⟩ := h
  refine ⟨bS, pv, lv, hp.blk.cell 0, hp.blk.cell 1, hp.blk.cell 2, fun hn => ?_, fun hn => ?_, fun hn => ?_⟩
  · have h := hp.lps
    rw [hn] at h
    obtain ⟨g, c, rfl⟩ := Go.Joins.ownsRow_form h (by omega)
    exact ⟨g, c, rfl, by rw [h.cellAt n (by omega)]; exact cells_get _ n (by omega)⟩
  · have h := hp.lps
    rw [hn] at h
    exact row_value h
  · obtain ⟨g, c, rfl⟩ := Go.Joins.ownsRow_form hp.loc (by omega)
    exact ⟨g, c, rfl, by rw [hp.loc.cellAt n (by omega)]; exact cells_get _ n hn⟩

set_option maxRecDepth 100000 in
set_option maxHeartbeats 1000000 in
theorem local_act {B : Nat} {k : Int} {n : Nat} {kv : Value} (hn : n < nl) (hB : Blk w B 37 #[.int .i64 k, .int .i64 n, kv]) (h1 : lo ≤ B) (h2 : B < hi) :
    PlainSem lo hi w d nl (.func (.func 45) #[] #[.pointer (some ⟨B, 0, none⟩)]) (localM n) := by
  refine ⟨45, _, rfl, enters_of Tryz.func45 (by kernel_rfl) rfl, fun w' b F r hr => ?_⟩
  have c1 := node_cell hr hB h1 h2
  obtain ⟨bS, pv, lv, d0, d1, d2, _, _, hlo⟩ := loops_cell (n := n) hr.run
  obtain ⟨g, c, rfl, hc⟩ := hlo (by rw [hr.nl]; exact hn)
  rw [hr.nl] at d1
  obtain ⟨x, hx⟩ : ∃ x, r.locals.getD n 0 = x := ⟨_, rfl⟩
  rw [hx] at hc
  have hP := fun k => push_any (w'.drewN k) b F r (hr.run.touch ((Touch.refl [] w').drewN k) (by simp)) hr.ok x
  have hres : localM n r = pushM x r := by unfold localM; rw [hx]
  rw [hres]
  obtain ⟨⟨o, s⟩, e⟩ : ∃ q, pushM x r = q := ⟨_, rfl⟩
  rw [e] at hP ⊢
  clear e hr hB hx hres hlo
  cases o with
  | bad x o =>
    go_enter Tryz.func45, Tryz.ntmps45
    go_wp2_with fail
    go_still_tail 9, (by kernel_rfl)
    go_wp2_with fail
    refine (hP 1).mono ?_
    rintro _ w1 ⟨rfl, hl⟩
    exact ⟨rfl, rfl, RunLost.trans ((Touch.refl F w').drewN 1) (Sub.refl _ _) hl⟩
  | ok u =>
    go_enter Tryz.func45, Tryz.ntmps45
    go_wp2_with fail
    go_still_tail 9, (by kernel_rfl)
    go_wp2_with fail
    refine (hP 1).mono ?_
    rintro _ w1 ⟨_, rfl, hu, hl⟩
    cases hu
    have K := Lib.hid (RunLeft.trans ((Touch.refl F w').drewN 1) (Sub.refl _ _) hl)
    clear hP hl hc c1 d0 d1 d2
    go_wp2
    go_end0
    exact ⟨_, rfl, rfl, K.out⟩

set_option maxRecDepth 100000 in
set_option maxHeartbeats 1000000 in
theorem index_act : PlainSem lo hi w d nl (.func (.func 39) #[] #[]) indexM := by
  refine ⟨39, _, rfl, enters_of Tryz.func39 (by kernel_rfl) rfl, fun w' b F r hr => ?_⟩
  obtain ⟨bS, pv, lv, d0, d1, d2, hso, hze, hlo⟩ := loops_cell (n := r.loops.length - 1) hr.run
  by_cases h0 : r.loops.length = 0
  · have hres : indexM r = (.bad (-26) false, r) := by unfold indexM; rw [if_pos h0]
    rw [hres]
    obtain ⟨a, c, rfl⟩ := hze h0
    have H := Lib.hid hr
    clear hso hze hlo hres h0 hr
    go_enter Tryz.func39, Tryz.ntmps39
    go_wp2
    exact ⟨rfl, rfl, (RunLeft.quiet H.out.run (Touch.refl _ _)).lost⟩
  · obtain ⟨n, hn⟩ : ∃ n, r.loops.length = n + 1 := ⟨r.loops.length - 1, by omega⟩
    obtain ⟨g, c, rfl, hc⟩ := hso (by omega)
    rw [hn, Nat.add_sub_cancel] at d2 hc
    obtain ⟨x, hx⟩ : ∃ x, r.loops.getD n 0 = x := ⟨_, rfl⟩
    rw [hx] at hc
    have hres : indexM r = pushM x r := by unfold indexM; rw [if_neg h0, hn, Nat.add_sub_cancel, hx]
    rw [hres]
    have hP := fun k => push_any (w'.drewN k) b F r (hr.run.touch ((Touch.refl [] w').drewN k) (by simp)) hr.ok x
    have hnb : n ≤ 1000 := by have := hr.deep; omega
    obtain ⟨m, hm⟩ : ∃ m, n + 1 = m := ⟨_, rfl⟩
    have hn1 : IntKind.i64.wrap ((m : Int) - 1) = n := by rw [IntKind.wrap_i64]; omega
    have hn2 : n < m := by omega
    have hn3 : ((m : Int) == 0) = false := by simp; omega
    rw [hm] at d2
    obtain ⟨⟨o, s⟩, e⟩ : ∃ q, pushM x r = q := ⟨_, rfl⟩
    rw [e] at hP ⊢
    clear e hr hx hres hlo hso hze h0 hn hm
    have HP := Lib.hid hP
    clear hP
    have touched : ∀ {e : Ending} {n : Nat} {w1 : World}, Ends unitV (w'.drewN n) b F (o, s) e w1 → Ends unitV w' b F (o, s) e w1 := fun h => h.after ((Touch.refl F w').drewN _) (Sub.refl _ _)
    cases o with
    | bad x o =>
      go_enter Tryz.func39, Tryz.ntmps39
      go_wp2_with fail
      go_still_tail 13, (by kernel_rfl)
      go_wp2_with fail
      refine (HP.out 1).mono ?_
      intro e1 w1 hend
      obtain ⟨rfl, hl⟩ := touched hend
      exact ⟨rfl, rfl, hl⟩
    | ok u =>
      go_enter Tryz.func39, Tryz.ntmps39
      go_wp2_with fail
      go_still_tail 13, (by kernel_rfl)
      go_wp2_with fail
      refine (HP.out 1).mono ?_
      intro e1 w1 hend
      obtain ⟨_, rfl, hu, hl⟩ := touched hend
      cases hu
      have K := Lib.hid hl
      clear hl hend hc d0 d1 d2
      go_wp2
      go_end0
      exact ⟨_, rfl, rfl, K.out⟩
end Go.Proofs.YtnhhflnanogpjaaGreatDoor
