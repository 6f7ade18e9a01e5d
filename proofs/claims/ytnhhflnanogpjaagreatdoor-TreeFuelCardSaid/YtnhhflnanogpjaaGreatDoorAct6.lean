/- The loop do. -/
import Derived.Test.YtnhhflnanogpjaaGreatDoorAct4
import Derived.Deep.Cut
namespace Go.Proofs.YtnhhflnanogpjaaGreatDoor
open Go.RowKit

variable {α β : Type} {Pa : α → Prop} {enc : β → Value → World → Prop} {lo hi d nl : Nat} {w w' w1 : World} {b : Nat} {F F1 : List Nat} {r s : Run} {v v2 : Value} {m : Mn α}

theorem RunParts.loops_to {b bS : Nat} {FS : List Nat} {lv pv pv' : Value} {L : List Int} (h : RunParts w b bS FS lv pv r) (t : Touch (rowOf pv) w w1) (hown : w1.ownsRow 0 34 1 pv' L.length (cells L)) (hloc : ∀ g ∈ rowOf pv', g ∈ rowOf pv ∨ w.heap.size ≤ g) :
    RunLeft w b (b :: (FS ++ (rowOf lv ++ rowOf pv))) { r with loops := L } (w1.setCell ⟨b, 2, none⟩ pv') := by
  obtain ⟨blk, stk, loc, lps, bs, bl, bp, sl, sp, lp, tie⟩ := h
  have hb := blk.lt
  have t2 : Touch (b :: rowOf pv) w (w1.setCell ⟨b, 2, none⟩ pv') := (t.mono (fun g hg => .inl (by simp [hg]))).setCell (by simp) _
  have hbp : b ∉ rowOf pv' := fun hg => by
    rcases hloc b hg with h | h
    · exact bp h
    · omega
  refine ⟨_, ⟨bS, FS, lv, pv', ⟨(blk.touch t bp).set_ 2 _, stk.touch t2 ?_, row_touch loc t2 ?_, row_touch hown ((Touch.refl [b] w1).setCell (by simp) _) ?_, bs, bl, hbp, sl, ?_, ?_, tie⟩, rfl⟩, t2.mono ?_, ?_⟩
  · intro g hg hf
    rcases List.mem_cons.1 hf with rfl | hf
    · exact bs hg
    · exact sp g hg hf
  · intro g hg hf
    rcases List.mem_cons.1 hf with rfl | hf
    · exact bl hg
    · exact lp g hg hf
  · intro g hg hf
    rw [List.mem_singleton.1 hf] at hg
    exact hbp hg
  · intro g hg hf
    rcases hloc g hf with h | h
    · exact sp g hg h
    · have := stk.lt g hg; omega
  · intro g hg hf
    rcases hloc g hf with h | h
    · exact lp g hg h
    · have := row_lt loc hg; omega
  · intro g hg
    rcases List.mem_cons.1 hg with rfl | hg
    · exact .inl (by simp)
    · exact .inl (by simp [hg])
  · intro g hg
    simp only [List.mem_cons, List.mem_append] at hg ⊢
    rcases hg with rfl | hg | hg | hg
    · exact .inl (.inl rfl)
    · exact .inl (.inr (.inl hg))
    · exact .inl (.inr (.inr (.inl hg)))
    · rcases hloc g hg with h | h
      · exact .inl (.inr (.inr (.inr h)))
      · exact .inr h

theorem step_loops (s : Run) (X : List Int) : stepM { s with loops := X } = ((stepM s).1, { (stepM s).2 with loops := X }) := by
  unfold stepM
  simp only
  split <;> rfl

theorem Goes.reloop {wr w2 : World} {F' : List Nat} {L : List Int} {e : Nat} (h : Goes lo hi w w' b F e nl s F' wr) (hl : RunLeft wr b F' { s with loops := L } w2) (hc : AllCells L) (hd : L.length + d ≤ 1000) :
    ∃ F2, Goes lo hi w w' b F d nl { s with loops := L } F2 w2 := by
  obtain ⟨F2, k, t, hs⟩ := hl
  refine ⟨F2, ⟨⟨h.run.kept.trans (Kept.of_touch t h.run.size h.run.apart), Nat.le_trans h.run.size t.size, fun g hg => ?_, k, ⟨h.run.ok.st, h.run.ok.locals, hc, h.run.ok.small, h.run.ok.steps, h.run.ok.fuel⟩, hd, h.run.nl⟩, h.t.trans t h.sub, Sub.trans h.sub hs h.t.size⟩⟩
  rcases hs g hg with h' | h'
  · exact h.run.apart g h'
  · have := h.run.size; omega

/-- the loop's head -/
def DoHead (lo hi : Nat) (w w' : World) (b : Nat) (F : List Nat) (d nl depth : Nat) (left : Bool) (gf : Nat) (at_ : Int) (body : Den) (end_ : Int) (q : Out Unit × Run) (wr : World) : Prop :=
  ∃ s X F', Goes lo hi w w' b F d nl { s with loops := X } F' wr ∧ X.take depth = s.loops ∧ s.loops.length = depth ∧ X.length ≤ depth + 1 ∧ Cell64 at_ ∧
    (left = true → loopM (doRound body end_) gf at_ s = q ∧ s.fuel + 1 ≤ s.steps + gf) ∧ (left = false → q = (.ok (), s))

theorem DoHead.quiet {depth gf : Nat} {left : Bool} {at_ end_ : Int} {body : Den} {q : Out Unit × Run} {wr w2 : World} (h : DoHead lo hi w w' b F d nl depth left gf at_ body end_ q wr) (t : Touch [] wr w2) : DoHead lo hi w w' b F d nl depth left gf at_ body end_ q w2 := by
  obtain ⟨s, X, F', g, h1⟩ := h
  exact ⟨s, X, F', ⟨g.run.quiet t, g.t.trans t (by simp), g.sub⟩, h1⟩

theorem row_cut {pv : Value} {X L : List Int} (h : w.ownsRow 0 34 1 pv X.length (cells X)) (n : Nat) (hL : X.take n = L) (hn : L.length = n) :
    (pv = .slice none 0 0 ∧ n = 0 ∧ w.ownsRow 0 34 1 (.slice none 0 0) n (cells L)) ∨
    ∃ g c, pv = .slice (some ⟨g, 0, none⟩) X.length c ∧ n ≤ X.length ∧ X.length ≤ c ∧ w.ownsRow 0 34 1 (.slice (some ⟨g, 0, none⟩) n c) n (cells L) := by
  have hnX : n ≤ X.length := by rw [← hn, ← hL, List.length_take]; omega
  rcases Go.Joins.ownsRow_forms h with ⟨e, h0⟩ | ⟨g, c, e⟩
  · refine .inl ⟨e, by omega, ?_⟩
    have hL0 : L = [] := List.eq_nil_of_length_eq_zero (by omega)
    subst hL0
    have hn0 : n = 0 := by omega
    rw [hn0]
    exact World.ownsRow_nil _ _ _ _
  · subst e
    exact .inr ⟨g, c, rfl, hnX, row_cap h, hL ▸ row_take h hnX⟩

theorem cut_run {pv : Value} {X L : List Int} (h : w.ownsRow 0 34 1 pv X.length (cells X)) (n : Nat) (hL : X.take n = L) (hn : L.length = n) :
    ∃ pv' a' c', pv' = .slice a' n c' ∧ (∀ w, (Instr.slice 23 pv none (some (.int .i64 (n : Int))) none).run Tryz.prog w = .ok pv' w) ∧ w.ownsRow 0 34 1 pv' n (cells L) ∧ ∀ g ∈ rowOf pv', g ∈ rowOf pv := by
  rcases row_cut h n hL hn with ⟨rfl, h0, hrow⟩ | ⟨g, c, rfl, h1, h2, hrow⟩
  · subst h0
    refine ⟨_, none, 0, rfl, fun w => ?_, hrow, fun _ h => h⟩
    simp [go_sem, Tryz.underlying23]
  · refine ⟨_, _, _, rfl, fun w => ?_, hrow, fun _ h => h⟩
    have h3 : n ≤ c := by omega
    simp [go_sem, Tryz.underlying23, h3]

set_option maxRecDepth 100000 in
set_option maxHeartbeats 8000000 in
theorem do_act {body : Den} {B : Nat} (hb : ActSem lo hi w d nl v body) (hK : Keep d body (fun _ => True)) (hB : Blk w B 56 #[v]) (h1 : lo ≤ B) (h2 : B < hi) :
    PlainSem lo hi w (d + 1) nl (.func (.func 68) #[] #[.pointer (some ⟨B, 0, none⟩)]) (doU body) := by
  refine ⟨68, _, rfl, enters_of Tryz.func68 (by kernel_rfl) rfl, fun w' b F r hr => ?_⟩
  have hT := take_any w' b F r hr.run hr.ok 2 (by omega)
  obtain ⟨⟨o1, s1⟩, e1⟩ : ∃ q, takeM 2 r = q := ⟨_, rfl⟩
  obtain ⟨q, hq⟩ : ∃ q, doU body r = q := ⟨_, rfl⟩
  rw [hq]
  rw [e1] at hT
  obtain ⟨f, cap, rfl, hE, hf⟩ := hb
  have hent : ∀ (args : Array Value) (w : World), (callFunc f args).run Tryz.prog w = .ok (.enter f args) w := hE
  have HF := Lib.hid hf
  have HB := Lib.hid hB
  have E1 := Lib.hid e1
  have Q := Lib.hid hq
  have Hr := Lib.hid hr
  clear hq hr hB hf hE e1
  cases o1 with
  | bad x o =>
    go_enter Tryz.func68, Tryz.ntmps68
    go_wp2_with fail
    refine hT.mono ?_
    rintro _ w1 ⟨rfl, hl⟩
    rw [← Q.out, (show doU body r = (.bad x o, s1) from bind_bad E1.out)]
    exact ⟨rfl, rfl, hl⟩
  | ok l =>
    go_enter Tryz.func68, Tryz.ntmps68
    go_wp2_with fail
    refine hT.mono ?_
    rintro _ w1 ⟨v, rfl, hv, hl⟩
    obtain ⟨F1, g1, l1, p1, _, _⟩ := (Goes.start Hr.out).on (keep_take 2) E1.out hl
    obtain ⟨g, c, rfl, hc0, hc1⟩ := row_second hv p1.1
    have ce := p1.2.getD 0
    have ca := p1.2.getD 1
    have hq1 : (if l.getD 0 0 = l.getD 1 0 then .pure () else loopD (doRound body (l.getD 0 0)) (l.getD 1 0)) s1 = q := (bind_ok E1.out).symm.trans Q.out
    obtain ⟨end_, he⟩ : ∃ x, l.getD 0 0 = x := ⟨_, rfl⟩
    obtain ⟨at_, ha⟩ : ∃ x, l.getD 1 0 = x := ⟨_, rfl⟩
    rw [he] at hc0 hq1 ce
    rw [ha] at hc1 hq1 ca
    obtain ⟨bS, FS, lv, pv, hp, hF1⟩ := g1.run.run
    obtain ⟨pa, pc, rfl⟩ := row_value hp.lps
    have d2 := hp.blk.cell 2
    have hdeep := g1.run.deep
    obtain ⟨depth, hdp⟩ : ∃ n, s1.loops.length = n := ⟨_, rfl⟩
    have H0 : DoHead lo hi w w' b F d nl depth true (s1.fuel + 1 - s1.steps) at_ body end_ q w1 ∨ end_ = at_ := by
      by_cases hea : end_ = at_
      · exact .inr hea
      · rw [if_neg hea] at hq1
        refine .inl ⟨s1, s1.loops, F1, ⟨⟨g1.run.kept, g1.run.size, g1.run.apart, g1.run.run, g1.run.ok, by show s1.loops.length + d ≤ 1000; omega, g1.run.nl⟩, g1.t, g1.sub⟩, by rw [← hdp]; exact List.take_length, hdp, by omega, ca, fun _ => ⟨hq1, by omega⟩, fun h => by cases h⟩
    rw [hdp] at d2 hdeep
    have G1 := Lib.hid g1
    have HH := Lib.hid H0
    have Q1 := Lib.hid hq1
    obtain ⟨N, hN⟩ : ∃ N, s1.fuel + 1 - s1.steps = N := ⟨_, rfl⟩
    rw [hN] at HH
    clear hT hv hl g1 l1 p1 hq1 he ha hp hF1 H0 ce ca hdp hN
    by_cases hea : end_ = at_
    · subst hea
      go_wp2_with fail
      go_quiet (fail)
      go_wp2_with fail
      go_end0
      have hq2 := Q1.out
      rw [← (show Mn.pure () s1 = q from hq2)]
      exact ⟨_, rfl, rfl, RunLeft.trans G1.out.t G1.out.sub (RunLeft.quiet G1.out.run.run ((Touch.refl _ _).drewN _))⟩
    · have hH1 := HH.out.resolve_right hea
      have heb : (end_ == at_) = false := by simp [hea]
      clear HH Q1
      go_wp2_with fail
      go_quiet (fail)
      go_wp2_with fail
      have hH2 := hH1.quiet (w2 := w1.drewN nq) ((Touch.refl _ _).drewN _)
      generalize w1.drewN nq = wq at hH2 ⊢
      clear hH1 G1 hc0 hc1 d2
      go_loopg [5, 7] N (fun gf a lft wr => ∃ (left : Bool) (at' : Int), a = .int .i64 at' ∧ lft = .bool left ∧ DoHead lo hi w w' b F d nl depth left gf at' body end_ q wr)
      case atStart => exact ⟨true, at_, rfl, rfl, hH2⟩
      case round =>
        obtain ⟨left, at', rfl, rfl, s, X, F', hG, hX, hsd, hXl, hca, hgo, hend⟩ := hrel
        clear hH2
        cases left with
        | false =>
          obtain ⟨bS, FS, lv, pv, hp, rfl⟩ := hG.run.run
          have d2 := hp.blk.cell 2
          have f2 := hp.blk.frozen 2
          have hq := hend rfl
          have G := Lib.hid hG
          have HP := Lib.hid hp
          have HQ := Lib.hid hq
          have hlen : s.loops.length = depth := hsd
          have hcut := row_cut hp.lps depth hX hsd
          clear hG hend hgo hp hq
          rcases hcut with ⟨rfl, hd0, hrow⟩ | ⟨g, c, rfl, hdX, hXc, hrow⟩
          · subst hd0
            have HR := Lib.hid hrow
            clear hrow
            go_wp2
            go_end0
            rw [HQ.out]
            exact ⟨_, rfl, rfl, RunLeft.trans G.out.t G.out.sub (HP.out.loops_to (L := s.loops) (Touch.refl _ _) (by rw [hlen]; exact HR.out) (by intro g hg; simp [rowOf] at hg))⟩
          · have HR := Lib.hid hrow
            clear hrow
            obtain ⟨xl, hxl⟩ : ∃ n, X.length = n := ⟨_, rfl⟩
            simp only [hxl] at d2 hdX hXc
            go_wp2
            go_end0
            rw [HQ.out]
            exact ⟨_, rfl, rfl, RunLeft.trans G.out.t G.out.sub (HP.out.loops_to (L := s.loops) (Touch.refl _ _) (by rw [hlen]; exact HR.out) (fun g hg => .inl hg))⟩
        | true =>
          obtain ⟨hq, hk⟩ := hgo rfl
          have hso := hG.run.ok.steps
          simp only at hso
          obtain ⟨g', rfl⟩ : ∃ g', gk = g' + 1 := ⟨gk - 1, by omega⟩
          have hS := step_any wr b F' _ hG.run.run hG.run.ok
          rw [step_loops] at hS
          obtain ⟨⟨o1, s1⟩, e1⟩ : ∃ q, stepM s = q := ⟨_, rfl⟩
          rw [e1] at hS
          have G := Lib.hid hG
          have Q := Lib.hid hq
          have E1 := Lib.hid e1
          have KX := Lib.hid (And.intro hX (And.intro hsd (And.intro hXl (And.intro hca hk))))
          clear hG hq e1 hend hgo hX hsd hXl hca hk
          cases o1 with
          | bad x o =>
            go_wp2_with fail
            refine hS.mono ?_
            rintro _ w1 ⟨rfl, X', hl⟩
            have K := Lib.hid (RunLost.trans G.out.t G.out.sub ⟨X', hl⟩)
            clear hl hS
            unfold stopped stopV
            go_wp2
            rw [← Q.out, loopM_out E1.out]
            exact ⟨rfl, rfl, K.out⟩
          | ok u =>
            go_wp2_with fail
            refine hS.mono ?_
            rintro _ w2 ⟨_, rfl, hu, hl⟩
            cases hu
            have eX : stepM { s with loops := X } = (.ok u, { s1 with loops := X }) := (step_loops s X).trans (by rw [E1.out])
            obtain ⟨F2, g2, _, _, _, _⟩ := G.out.on keep_step eX hl
            obtain ⟨bS, FS, lv, pv, hp, rfl⟩ := g2.run.run
            have hs1 : s1.loops = s.loops := by
              have h := E1.out
              unfold stepM at h
              split at h
              · cases h
              · cases h; rfl
            obtain ⟨kX, ksd, kXl, kca, kk⟩ := KX.out
            have hcut := cut_run (L := s.loops) hp.lps depth kX ksd
            obtain ⟨pv', a', c', hpe, hsl, hrow, hsub⟩ := hcut
            have d3 := hp.blk.cell 2
            have HP := Lib.hid hp
            have G2 := Lib.hid g2
            have HSub := Lib.hid (And.intro hpe hsub)
            have hst := stepM_ok E1.out
            have HST := Lib.hid (And.intro hst hs1)
            have hrow2 := hrow.alloc (.cells #[.int .i64 at'] 34)
            have hN := Blk.new w2 34 #[.int .i64 at']
            have hdl : depth ≤ 2000 := by omega
            clear hS hp g2 hpe hsub eX hl kX ksd kXl kca kk hs1 hst hrow
            obtain ⟨i0, hi0, hz0, hz1, hz2⟩ := info_cell'
            go_wp2_with (at_builtin; refine wpList_append_own_at _ rfl _ _ 23 rfl 0 34 i0 (.int .i64 0) 1 8 Tryz.underlying23 hi0 hz0 hz1 hz2 rfl (by decide) _ _ _ rfl hrow2 ⟨w2.heap.size, 0, none⟩ 1 1 (cells [at']) rfl rfl ?qc2 (cells_one _) (by unfold maxLen; omega) (by omega) (Nat.zero_le _) ?_)
            case qc2 =>
              intro j u hj
              have h2 := (List.getElem?_eq_some_iff.1 hj).1
              have hj0 : j = 0 := by simp [cells] at h2; omega
              subst hj0
              exact (hN.cell (0 + 0)).trans (by simpa [cells] using hj)
            intro v' w3 hown hgrow hnil hloc
            have hpb : ∀ k, pv'.ownBlock = some k → k ∈ rowOf pv := fun k hk => HSub.out.2 k (rowOf_mem.2 hk)
            have hB3 : Blk w3 b 51 #[.pointer (some ⟨bS, 0, none⟩), lv, pv, .int .i64 s1.steps, .int .i64 s1.fuel] := (HP.out.blk.alloc _).grown hgrow (fun e => HP.out.bp (hpb b e.symm))
            have t3 : Touch (rowOf pv) w2 w3 := ((Touch.refl (rowOf pv) w2).alloc _).grown hgrow (fun k hk => .inl (hpb k hk))
            have hloc2 : ∀ g ∈ rowOf v', g ∈ rowOf pv ∨ w2.heap.size ≤ g := fun g hg => by
              have hg' := rowOf_mem.1 hg
              rcases hloc with e | e
              · exact .inl (hpb g (e ▸ hg'))
              · rw [hg'] at e
                simp at e
                exact .inr (by omega)
            rw [← cells_append] at hown
            have hown2 : w3.ownsRow 0 34 1 v' (s.loops ++ [at']).length (cells (s.loops ++ [at'])) := by
              rw [List.length_append, KX.out.2.1]
              exact hown
            obtain ⟨va, vc, rfl⟩ := row_value hown
            have hL := HP.out.loops_to t3 hown2 hloc2
            have hca : AllCells (s.loops ++ [at']) := by
              refine AllCells.append ?_ (.one KX.out.2.2.2.1)
              rw [← KX.out.1]
              exact AllCells.take G.out.run.ok.loops _
            obtain ⟨F3, g3⟩ := G2.out.reloop (d := d) hL hca (by rw [List.length_append, KX.out.2.1]; simp; omega)
            have cB := hB3.cell 2
            have fB := hB3.frozen 2
            have G3 := Lib.hid g3
            clear hown hgrow hnil hloc hpb hB3 t3 hloc2 hown2 hL hca g3 hrow2 hN d3 hsl
            go_upto_region 9 with (fail)
            have g3 := G3.out
            generalize w3.setCell ⟨b, 2, none⟩ (.slice va (depth + 1) vc) = wB at g3 ⊢
            clear G3 cB fB
            have c0 := box_cell g3.run HB.out h1 h2
            have hC := HF.out wB b F3 _ g3.run
            obtain ⟨⟨o4, s4⟩, e4⟩ : ∃ q, body { s1 with loops := s.loops ++ [at'] } = q := ⟨_, rfl⟩
            rw [show ({ ({ s1 with loops := X } : Run) with loops := s.loops ++ [at'] } : Run) = { s1 with loops := s.loops ++ [at'] } from rfl, e4] at hC
            have G4 := Lib.hid g3
            have E4 := Lib.hid e4
            have hq1 := Q.out
            rw [loopM_step E1.out] at hq1
            have Q1 := Lib.hid hq1
            clear g3 e4 hq1
            cases o4 with
            | bad x o =>
              go_wp2_with fail
              refine hC.mono ?_
              rintro _ w4 ⟨rfl, hl⟩
              have K := Lib.hid (G4.out.left hl)
              clear hl hC c0
              unfold stopped stopV
              go_wp2
              rw [← Q1.out, bind_bad (show doRound body end_ at' s1 = (.bad x o, s4) from bind_bad (show inLoop at' body s1 = (.bad x o, s4) by unfold inLoop; rw [HST.out.2, E4.out]))]
              exact ⟨rfl, rfl, K.out⟩
            | ok z =>
              go_wp2_with fail
              refine hC.mono ?_
              rintro _ w4 ⟨_, rfl, hz, hl⟩
              cases hz
              obtain ⟨F4, g4, l4, _, u4, v4⟩ := G4.out.on hK E4.out hl
              obtain ⟨kX, ksd, kXl, kca, kk⟩ := KX.out
              have hs1l := HST.out.2
              have l4' : s4.loops = s.loops ++ [at'] := l4
              have hin : inLoop at' body s1 = (.ok z, { s4 with loops := s.loops }) := by
                unfold inLoop
                rw [hs1l, E4.out]
                simp only [l4']
                rw [List.take_left]
              have hrd : doRound body end_ at' s1 = (.ok (if z || decide (wrap64 (at' - end_) = -1) then .inr () else .inl (wrap64 (at' + 1))), { s4 with loops := s.loops }) := bind_ok hin
              have hq2 := Q1.out
              rw [bind_ok hrd] at hq2
              have hdone : ∀ left : Bool, left = !(z || decide (wrap64 (at' - end_) = -1)) → DoHead lo hi w w' b F d nl depth left g' (wrap64 (at' + 1)) body end_ q w4 := by
                intro left hle
                refine ⟨{ s4 with loops := s.loops }, s4.loops, F4, g4, ?_, ksd, ?_, wrap64_cell _, ?_, ?_⟩
                · rw [l4', ← ksd, List.take_left]
                · rw [l4', List.length_append, ksd]; simp
                · intro hlt
                  rw [hlt] at hle
                  have hcond : (z || decide (wrap64 (at' - end_) = -1)) = false := by
                    cases hc : (z || decide (wrap64 (at' - end_) = -1)) with
                    | false => rfl
                    | true => rw [hc] at hle; cases hle
                  rw [hcond] at hq2
                  refine ⟨hq2, ?_⟩
                  have a1 := HST.out.1
                  have a2 : s4.fuel = s1.fuel := u4
                  have a3 : s1.steps ≤ s4.steps := v4
                  show s4.fuel + 1 ≤ s4.steps + g'
                  omega
                · intro hlf
                  rw [hlf] at hle
                  have hcond : (z || decide (wrap64 (at' - end_) = -1)) = true := by
                    cases hc : (z || decide (wrap64 (at' - end_) = -1)) with
                    | true => rfl
                    | false => rw [hc] at hle; cases hle
                  rw [hcond] at hq2
                  exact hq2.symm
              have HD := Lib.hid hdone
              clear hl hC c0 g4 l4 u4 v4 kX ksd kXl kca kk hs1l l4' hin hrd hq2 hdone
              cases z with
              | true =>
                go_wp2
                go_roundg g'
                case measure => omega
                case rel => exact ⟨false, wrap64 (at' + 1), rfl, rfl, HD.out _ rfl⟩
              | false =>
                by_cases hw : wrap64 (at' - end_) = -1
                · go_wp2
                  go_roundg g'
                  case measure => omega
                  case rel => exact ⟨false, wrap64 (at' + 1), rfl, rfl, HD.out _ (by simp [hw])⟩
                · have hwb : (wrap64 (at' - end_) != -1) = true := by simp [hw]
                  go_wp2
                  go_roundg g'
                  case measure => omega
                  case rel => exact ⟨true, wrap64 (at' + 1), rfl, rfl, HD.out _ (by simp [hw])⟩
end Go.Proofs.YtnhhflnanogpjaaGreatDoor
