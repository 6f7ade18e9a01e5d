/- The act that sets a local, and the act of a word. -/
import Derived.Test.YtnhhflnanogpjaaGreatDoorAct8
namespace Go.Proofs.YtnhhflnanogpjaaGreatDoor
open Go.RowKit

variable {α β : Type} {Pa : α → Prop} {enc : β → Value → World → Prop} {lo hi d nl : Nat} {w w' w1 : World} {b : Nat} {F F1 : List Nat} {r s : Run} {v v2 : Value} {m : Mn α}

set_option maxHeartbeats 1000000 in
theorem take_keep {bS : Nat} {FS : List Nat} {lv pv : Value} (hp : RunParts w b bS FS lv pv r) (hr : r.ok) (n : Nat) (hn : n ≤ r.st.length) :
    Calls Tryz.prog 63 #[.pointer (some ⟨b, 0, none⟩), .int .i64 n] w fun e w' =>
      ∃ v, e = .returned v ∧ rowV (r.st.drop (r.st.length - n)) v w' ∧ StackAt w' bS FS (r.st.take (r.st.length - n)) ∧ Touch FS w w' := by
  have c0 := hp.blk.cell 0
  have hsm := hr.small
  have hT := Take_ok w bS FS r.st hp.stk n (by omega) (by omega)
  have hA := fun w => asks_ok w
  have hdl : (r.st.drop (r.st.length - n)).length = n := by rw [List.length_drop]; omega
  clear hp
  go_enter Tryz.func63, Tryz.ntmps63
  go_wp2_with fail
  refine hT.mono ?_
  rintro _ w1 ⟨v, rfl, hown, hst, t1⟩
  go_wp2_with fail
  refine (hA _).mono ?_
  rintro _ _ ⟨rfl, rfl⟩
  go_wp2
  go_ret
  refine ⟨v, rfl, ?_, hst, t1⟩
  unfold rowV
  rw [hdl]
  exact Go.Joins.ownsRow_le hown (Nat.zero_le _)

set_option maxHeartbeats 1000000 in
theorem pop_keep {bS : Nat} {FS : List Nat} {lv pv : Value} (hp : RunParts w b bS FS lv pv r) (hr : r.ok) (hn : 1 ≤ r.st.length) (x : Int) (hx : (r.st.drop (r.st.length - 1)).getD 0 0 = x) :
    Calls Tryz.prog 43 #[.pointer (some ⟨b, 0, none⟩)] w fun e w' => e = .returned (.int .i64 x) ∧ StackAt w' bS FS (r.st.take (r.st.length - 1)) ∧ Touch FS w w' := by
  have hT := take_keep hp hr 1 hn
  have hdl : (r.st.drop (r.st.length - 1)).length = 1 := by rw [List.length_drop]; omega
  clear hp hr
  go_enter Tryz.func43, Tryz.ntmps43
  go_wp2_with fail
  refine hT.mono ?_
  rintro _ w1 ⟨v, rfl, hv, hst, t1⟩
  obtain ⟨g, c, rfl, hc⟩ := row_first hv hdl
  rw [hx] at hc
  clear hx hv hT
  go_wp2
  go_ret
  exact ⟨rfl, hst, t1⟩

theorem RunParts.local_to {bS : Nat} {FS : List Nat} {g c : Nat} {pv : Value} {n : Nat} {x : Int} (h : RunParts w b bS FS (.slice (some ⟨g, 0, none⟩) r.locals.length c) pv r) :
    RunLeft w b (b :: (FS ++ (rowOf (.slice (some ⟨g, 0, none⟩) r.locals.length c) ++ rowOf pv))) { r with locals := r.locals.set n x } (w.setCell ⟨g, n, none⟩ (.int .i64 x)) := by
  obtain ⟨blk, stk, loc, lps, bs, bl, bp, sl, sp, lp, tie⟩ := h
  have hg : g ∈ rowOf (.slice (some ⟨g, 0, none⟩) r.locals.length c) := by simp [rowOf]
  have t : Touch [g] w (w.setCell ⟨g, n, none⟩ (.int .i64 x)) := (Touch.refl [g] w).setCell (by simp) _
  have hbg : b ≠ g := fun e => bl (e ▸ hg)
  refine ⟨_, ⟨bS, FS, .slice (some ⟨g, 0, none⟩) r.locals.length c, pv, ⟨blk.far hbg _, stk.touch t ?_, ?_, row_touch lps t ?_, bs, bl, bp, sl, sp, lp, tie⟩, rfl⟩, t.mono ?_, Sub.refl _ _⟩
  · intro f hf hfg
    exact sl f hf (by rw [List.mem_singleton.1 hfg]; exact hg)
  · have h1 := (loc.stored n (.int .i64 x)).1
    have e : (cells r.locals).set n (.int .i64 x) = cells (r.locals.set n x) := by simp [cells, List.map_set]
    rw [e] at h1
    simpa using h1
  · intro f hf hfg
    rw [List.mem_singleton.1 hfg] at hf
    exact lp g hg hf
  · intro f hf
    rw [List.mem_singleton.1 hf]
    exact .inl (by simp [rowOf])

set_option maxRecDepth 100000 in
set_option maxHeartbeats 2000000 in
theorem set_act {B : Nat} {k : Int} {n : Nat} {kv : Value} (hn : n < nl) (hB : Blk w B 37 #[.int .i64 k, .int .i64 n, kv]) (h1 : lo ≤ B) (h2 : B < hi) :
    PlainSem lo hi w d nl (.func (.func 46) #[] #[.pointer (some ⟨B, 0, none⟩)]) (setM n) := by
  refine ⟨46, _, rfl, enters_of Tryz.func46 (by kernel_rfl) rfl, fun w' b F r hr => ?_⟩
  have c1 := node_cell hr hB h1 h2
  by_cases h0 : r.st.length < 1
  · have hP := fun k => pop_any (w'.drewN k) b F r (hr.run.touch ((Touch.refl [] w').drewN k) (by simp)) hr.ok
    have e : popM r = (.bad (-4) false, r) := bind_bad (by unfold takeM; rw [if_pos h0])
    rw [e] at hP
    rw [show setM n r = (.bad (-4) false, r) from bind_bad e]
    have HP := Lib.hid hP
    have touched : ∀ {e : Ending} {n : Nat} {w1 : World}, Ends cellV (w'.drewN n) b F (.bad (-4) false, r) e w1 → Ends cellV w' b F (.bad (-4) false, r) e w1 := fun h => h.after ((Touch.refl F w').drewN _) (Sub.refl _ _)
    obtain ⟨bS, FS, lv, pv, hp, rfl⟩ := hr.run
    have d1 := hp.blk.cell 1
    obtain ⟨la, lc, rfl⟩ := row_value hp.loc
    rw [hr.nl] at d1
    clear hP e hr hp hB
    go_enter Tryz.func46, Tryz.ntmps46
    go_wp2_with fail
    refine wp_region_any (by kernel_rfl) ?_
    change wpAny _ _ _ _ _ _ _ (World.drew _)
    refine wpAny_take (i := 0) (v := ?_) rfl (by kernel_rfl) (by kernel_rfl) (by kernel_rfl) (fun _ _ _ h => h) (Or.inl ⟨by rfl, ?_⟩) ?_
    rotate_left
    · intro w
      go_simp
      first | done | with_reducible rfl
    rotate_left
    refine wpAny_take (i := 1) (v := ?_) rfl (by kernel_rfl) (by kernel_rfl) (by kernel_rfl) (fun _ _ _ h => h) (Or.inl ⟨by rfl, ?_⟩) ?_
    rotate_left
    · intro w
      go_simp
      first | done | with_reducible rfl
    rotate_left
    refine wpAny_take (i := 2) (v := ?_) rfl (by kernel_rfl) (by kernel_rfl) (by kernel_rfl) (fun _ _ _ h => h) (Or.inl ⟨by rfl, ?_⟩) ?_
    rotate_left
    · intro w
      go_simp
      first | done | with_reducible rfl
    rotate_left
    refine wpAny_take (i := 4) (v := ?_) rfl (by kernel_rfl) (by kernel_rfl) (by kernel_rfl) (fun _ _ _ h => h) (Or.inl ⟨by rfl, ?_⟩) ?_
    rotate_left
    · intro w
      go_simp
      first | done | with_reducible rfl
    rotate_left
    refine wpAny_take (i := 6) (v := ?_) rfl (by kernel_rfl) (by kernel_rfl) (by kernel_rfl) (fun _ _ _ h => h) (Or.inl ⟨by rfl, ?_⟩) ?_
    rotate_left
    · intro w
      go_simp
      first | done | with_reducible rfl
    rotate_left
    refine wpAny_ready (rs := [3, 5, 7]) (by kernel_rfl) (by simp) ?_
    refine AllReady.cons rfl (fun K hK => ?_) ?_
    · skip
      go_simp
      refine hK _ _ ?_
      clear hK K
      refine wpAny_ready (rs := [5, 7]) (by kernel_rfl) (by simp) ?_
      refine AllReady.cons rfl (fun K hK => ?_) ?_
      · skip
        go_simp
        refine hK _ _ ?_
        clear hK K
        refine wpAny_ready (rs := [7]) (by kernel_rfl) (by simp) ?_
        refine AllReady.cons rfl (fun K hK => ?_) ?_
        · skip
          go_simp
          go_wp2_with (go_at_call 43; refine (HP.out 1).mono ?_; intro e1 w1 hend; obtain ⟨rfl, hl⟩ := touched hend; exact ⟨rfl, rfl, hl⟩)
        exact AllReady.nil
      refine AllReady.cons rfl (fun K hK => ?_) ?_
      · skip
        go_simp
        go_wp2_with (go_at_call 43; refine (HP.out 1).mono ?_; intro e1 w1 hend; obtain ⟨rfl, hl⟩ := touched hend; exact ⟨rfl, rfl, hl⟩)
      exact AllReady.nil
    refine AllReady.cons rfl (fun K hK => ?_) ?_
    · skip
      go_simp
      refine hK _ _ ?_
      clear hK K
      refine wpAny_ready (rs := [3, 7]) (by kernel_rfl) (by simp) ?_
      refine AllReady.cons rfl (fun K hK => ?_) ?_
      · skip
        go_simp
        refine hK _ _ ?_
        clear hK K
        refine wpAny_ready (rs := [7]) (by kernel_rfl) (by simp) ?_
        refine AllReady.cons rfl (fun K hK => ?_) ?_
        · skip
          go_simp
          go_wp2_with (go_at_call 43; refine (HP.out 1).mono ?_; intro e1 w1 hend; obtain ⟨rfl, hl⟩ := touched hend; exact ⟨rfl, rfl, hl⟩)
        exact AllReady.nil
      refine AllReady.cons rfl (fun K hK => ?_) ?_
      · skip
        go_simp
        go_wp2_with (go_at_call 43; refine (HP.out 1).mono ?_; intro e1 w1 hend; obtain ⟨rfl, hl⟩ := touched hend; exact ⟨rfl, rfl, hl⟩)
      exact AllReady.nil
    refine AllReady.cons rfl (fun K hK => ?_) ?_
    · skip
      go_simp
      go_wp2_with (go_at_call 43; refine (HP.out 1).mono ?_; intro e1 w1 hend; obtain ⟨rfl, hl⟩ := touched hend; exact ⟨rfl, rfl, hl⟩)
    exact AllReady.nil
  · obtain ⟨x, hx⟩ : ∃ x, (r.st.drop (r.st.length - 1)).getD 0 0 = x := ⟨_, rfl⟩
    have e : popM r = (.ok x, { r with st := r.st.take (r.st.length - 1) }) := (bind_ok (by unfold takeM; rw [if_neg h0])).trans (by rw [hx]; rfl)
    rw [show setM n r = (.ok (), { r with st := r.st.take (r.st.length - 1), locals := r.locals.set n x }) from bind_ok e]
    obtain ⟨bS, FS, lv, pv, hp, rfl⟩ := hr.run
    have hnl := hr.nl
    have hlp := hp.loc
    obtain ⟨g, c, rfl⟩ := Go.Joins.ownsRow_form hlp (by omega)
    have d1 := hp.blk.cell 1
    rw [hnl] at d1
    have hpd : RunParts w'.drew b bS FS (.slice (some ⟨g, 0, none⟩) r.locals.length c) pv r := ⟨hp.blk, hp.stk.touch (Touch.refl [] w').drew (by simp), hp.loc, hp.lps, hp.bs, hp.bl, hp.bp, hp.sl, hp.sp, hp.lp, hp.tie⟩
    have hP := pop_keep hpd hr.ok (by omega) x hx
    have hBF : B ∉ FS := fun hf => hr.apart B (by simp [hf]) ⟨h1, h2⟩
    have hBw : B < w'.heap.size := by have := hr.size; omega
    have hgF : g ∉ FS := fun hf => hp.sl g hf (by simp [rowOf])
    have hgw : g < w'.heap.size := row_lt hp.loc (by simp [rowOf])
    obtain ⟨z, hz⟩ : ∃ z, r.locals.getD n 0 = z := ⟨_, rfl⟩
    have hcs : w'.cell? ⟨g, n, none⟩ = some (.int .i64 z) := hz ▸ (hp.loc.cellAt n (by omega)).trans (cells_get _ n (by omega))
    have hstay : ∀ w1, Touch FS w' w1 → w1.cell? ⟨B, 1, none⟩ = some (.int .i64 n) ∧ w1.cell? ⟨b, 1, none⟩ = some (.slice (some ⟨g, 0, none⟩) nl c) ∧ w1.cell? ⟨g, n, none⟩ = some (.int .i64 z) ∧ w1.frozen? ⟨g, n, none⟩ = false := fun w1 t =>
      ⟨(t.cell (p := ⟨B, 1, none⟩) hBw hBF).trans c1, (t.cell (p := ⟨b, 1, none⟩) hp.blk.lt hp.bs).trans d1, (t.cell (p := ⟨g, n, none⟩) hgw hgF).trans hcs, (t.frozen (p := ⟨g, n, none⟩) hgw hgF).trans (hp.loc.frozenAt n)⟩
    have hend : ∀ w1, StackAt w1 bS FS (r.st.take (r.st.length - 1)) → Touch FS w' w1 → RunLeft w' b (b :: (FS ++ (rowOf (.slice (some ⟨g, 0, none⟩) r.locals.length c) ++ rowOf pv))) { r with st := r.st.take (r.st.length - 1), locals := r.locals.set n x } (w1.setCell ⟨g, n, none⟩ (.int .i64 x)) := fun w1 hst t1' => by
      have hp1 : RunParts w1 b bS FS (.slice (some ⟨g, 0, none⟩) r.locals.length c) pv { r with st := r.st.take (r.st.length - 1) } :=
        ⟨hp.blk.touch t1' hp.bs, hst, row_touch hp.loc t1' (fun f hf hg => hp.sl f hg hf), row_touch hp.lps t1' (fun f hf hg => hp.sp f hg hf), hp.bs, hp.bl, hp.bp, hp.sl, hp.sp, hp.lp, hp.tie⟩
      exact RunLeft.trans (t1'.mono (G := b :: (FS ++ (rowOf (.slice (some ⟨g, 0, none⟩) r.locals.length c) ++ rowOf pv))) (fun f hf => .inl (by simp [hf]))) (Sub.refl _ _) (RunParts.local_to (r := { r with st := r.st.take (r.st.length - 1) }) hp1)
    have HS := Lib.hid hstay
    have HE := Lib.hid hend
    have f0 := hp.loc.frozenAt n
    clear e hx hr hp hB hpd hlp hstay hend hBF hBw hgF hgw hz hnl
    go_enter Tryz.func46, Tryz.ntmps46
    go_wp2_with fail
    go_region_with (go_at_call 43; refine hP.mono ?_; rintro _ w1 ⟨rfl, hst, t1⟩; obtain ⟨a1, a2, a3, a4⟩ := HS.out w1 (Touch.of_drew t1); have K := Lib.hid (HE.out w1 hst (Touch.of_drew t1)); clear hst t1)
    all_goals go_wp2
    all_goals go_end0
    all_goals exact ⟨_, rfl, rfl, K.out⟩
end Go.Proofs.YtnhhflnanogpjaaGreatDoor
