import Derived.Test.YtdokeddjcpnmiaaGreatDoorKEng23
import Derived.Test.YtdokeddjcpnmiaaGreatDoorKEng20
import Derived.Deep.CutRange
/- execute, does (printed by wip/engfn.py). -/
namespace Go.Proofs.YtdokeddjcpnmiaaGreatDoor
open Go.RowKit
namespace En

theorem execute_sem {w : World} {g : Nat} {p : Lay} {F : List Nat} {m : M} (h : EngAt w g p F m) (hf : Fine m) (xt : Int) {wB : World} (hF0 : ∀ x ∈ F, wB.heap.size ≤ x) (tB : Touch [] wB w) {D : Int → PS → Int × PS} (hDf : FineD PS.ok D)
    (hD : ∀ n v, m.word xt = some (1, n, v) → DoOk wB D p.s m.S n) (hctl : ∀ n v, m.word xt = some (2, n, v) → 1 ≤ n ∧ n ≤ 9) :
    Calls Tryz.prog 45 #[.pointer (some ⟨g, 0, none⟩), .int .i64 xt] w fun R w' => R = .returned (stV (m.execute D xt).1) ∧ Keep w g p F (m.execute D xt).2 w' := by
  cases hw : m.word xt with
  | none =>
    rw [show m.execute D xt = m.throw (-9) by unfold M.execute; rw [hw]]
    exact exec_none_sem h hf xt hw
  | some u =>
    obtain ⟨k, n, v⟩ := u
    by_cases h1 : k = 1
    · subst h1
      rw [show m.execute D xt = M.done ((D n m.S).1, { m with S := (D n m.S).2 }) by unfold M.execute; rw [hw]; rfl]
      exact exec_prim_sem h hf xt n v hw hF0 tB hDf (hD n v hw)
    by_cases h5 : k = 5
    · subst h5
      rw [show m.execute D xt = M.done (m.call n) by unfold M.execute; rw [hw]; rfl]
      exact exec_call_sem h hf xt n v hw
    by_cases h6 : k = 6
    · subst h6
      rw [show m.execute D xt = M.done (m.push v) by unfold M.execute; rw [hw]; rfl]
      exact exec_cell_sem h hf xt n v hw
    by_cases h9 : k = 9
    · subst h9
      rw [show m.execute D xt = M.done (m.push v) by unfold M.execute; rw [hw]; rfl]
      exact exec_value_sem h hf xt n v hw
    by_cases h7 : k = 7
    · subst h7
      rw [show m.execute D xt = (if (m.push v).1 ≠ 0 then m.throw (m.push v).1 else (m.push v).2.with_ 0 (doesDo n)) by unfold M.execute; rw [hw, does_with]; rfl]
      exact exec_does_sem h hf xt n v hw
    by_cases h8 : k = 8
    · subst h8
      rw [show m.execute D xt = m.deferred n by unfold M.execute; rw [hw]; rfl]
      exact exec_defer_sem h hf xt n v hw
    by_cases h2 : k = 2
    · subst h2
      rw [show m.execute D xt = m.control n by unfold M.execute; rw [hw]; rfl]
      exact exec_ctl_sem h hf xt n v hw (hctl n v hw).1 (hctl n v hw).2
    · rw [show m.execute D xt = ((2, k, n), m) by
        unfold M.execute
        rw [hw]
        dsimp only
        rw [if_neg h1, if_neg h5, if_neg (by omega), if_neg h7, if_neg h8, if_neg h2]]
      exact exec_host_sem h hf xt k n v hw (by simp [h1, h5, h6, h9, h7, h8, h2])
set_option maxRecDepth 100000 in
set_option maxHeartbeats 3200000 in
theorem does_exec_sem {w : World} {g : Nat} {p : Lay} {F : List Nat} {m : M} (h : EngAt w g p F m) (a v : Int) (q : St × M) (hX : ∀ W, Touch [] w W → EngAt W g p F m → Calls Tryz.prog 45 #[.pointer (some ⟨g, 0, none⟩), .int .i64 a] W fun R w' => R = .returned (stV q.1) ∧ Keep W g p F q.2 w') : Calls Tryz.prog 49 #[.pointer (some ⟨g, 0, none⟩), .agg #[.int .u8 2, .int .i64 a, .int .i64 v]] w fun R w' => R = .returned (stV q.1) ∧ Keep w g p F q.2 w' := by
  obtain ⟨z, hz⟩ : ∃ z, w.heap.size = z := ⟨_, rfl⟩
  have HS := Lib.hid (Start.box2 w h 2 a v)
  have hE0 := h.touch HS.out.1.t (by simp)
  rw [hz] at HS
  have b0 := HS.out.2.1.at_ (Touch.refl F _)
  obtain ⟨q0, q1, q2⟩ := HS.out.2.2.at_ (Touch.refl F _)
  have hT := hX _ HS.out.1.t hE0
  obtain ⟨⟨sa, sb, sc⟩, m'⟩ := q
  dsimp only at hT ⊢
  clear hX hE0 h
  go_enter Tryz.func49, Tryz.ntmps49
  go_upto_region 1 with fail
  clear hz
  generalize ((w.alloc (.cells #[.pointer (some ⟨g, 0, none⟩)] 27)).alloc (.cells #[.int .u8 2, .int .i64 a, .int .i64 v] 56)).alloc (.cells #[.int .i64 0, .int .i64 0, .int .i64 0] 48) = W0 at *
  go_wp2_with fail
  refine hT.mono ?_
  rintro _ w1 ⟨rfl, k1⟩
  have hb := HS.out.1.blk k1
  obtain ⟨⟨e0, e1, e2⟩, g0, g1, g2⟩ := zeros_of hb
  obtain ⟨r0, r1, r2⟩ := three_read hb (.int .i64 sa) (.int .i64 sb) (.int .i64 sc)
  have HK := Lib.hid (HS.out.1.end_ k1 (.int .i64 sa) (.int .i64 sb) (.int .i64 sc))
  clear k1 hb hT b0 q0 q1 q2
  go_wp2_with fail
  refine bodyPost_ret (by simp [results, Tryz.results49, go_sem, r0, r1, r2]; try rfl) rfl ?_
  exact ⟨rfl, HK.out⟩
set_option maxRecDepth 100000 in
set_option maxHeartbeats 3200000 in
theorem does_held_sem {w : World} {g : Nat} {p : Lay} {F : List Nat} {m : M} (h : EngAt w g p F m) (op a v : Int) (hop : (op == 1) = false ∧ (op == 2) = false ∧ (op == 3) = false ∧ (op == 4) = false ∧ (op == 5) = false ∧ (op == 6) = false ∧ (op == 7) = false ∧ (op == 8) = false ∧ (op == 10) = false) (q : St × M) (hX : ∀ W, EngAt W g p F m → Calls Tryz.prog 87 #[.pointer (some ⟨g, 0, none⟩), .agg #[.int .u8 op, .int .i64 a, .int .i64 v]] W fun R w' => R = .returned (stV q.1) ∧ Keep W g p F q.2 w') : Calls Tryz.prog 49 #[.pointer (some ⟨g, 0, none⟩), .agg #[.int .u8 op, .int .i64 a, .int .i64 v]] w fun R w' => R = .returned (stV q.1) ∧ Keep w g p F q.2 w' := by
  obtain ⟨z, hz⟩ : ∃ z, w.heap.size = z := ⟨_, rfl⟩
  have HS := Lib.hid (Start.box2 w h op a v)
  have hE0 := h.touch HS.out.1.t (by simp)
  rw [hz] at HS
  have b0 := HS.out.2.1.at_ (Touch.refl F _)
  obtain ⟨q0, q1, q2⟩ := HS.out.2.2.at_ (Touch.refl F _)
  have hT := hX _ hE0
  obtain ⟨o1, o2, o3, o4, o5, o6, o7, o8, o10⟩ := hop
  obtain ⟨⟨sa, sb, sc⟩, m'⟩ := q
  dsimp only at hT ⊢
  clear hX hE0 h
  go_enter Tryz.func49, Tryz.ntmps49
  go_upto_region 1 with fail
  clear hz
  generalize ((w.alloc (.cells #[.pointer (some ⟨g, 0, none⟩)] 27)).alloc (.cells #[.int .u8 op, .int .i64 a, .int .i64 v] 56)).alloc (.cells #[.int .i64 0, .int .i64 0, .int .i64 0] 48) = W0 at *
  go_wp2_with fail
  refine hT.mono ?_
  rintro _ w1 ⟨rfl, k1⟩
  have hb := HS.out.1.blk k1
  obtain ⟨⟨e0, e1, e2⟩, g0, g1, g2⟩ := zeros_of hb
  obtain ⟨r0, r1, r2⟩ := three_read hb (.int .i64 sa) (.int .i64 sb) (.int .i64 sc)
  have HK := Lib.hid (HS.out.1.end_ k1 (.int .i64 sa) (.int .i64 sb) (.int .i64 sc))
  clear k1 hb hT b0 q0 q1 q2
  go_wp2_with fail
  refine bodyPost_ret (by simp [results, Tryz.results49, go_sem, r0, r1, r2]; try rfl) rfl ?_
  exact ⟨rfl, HK.out⟩
theorem does_sem {w : World} {g : Nat} {p : Lay} {F : List Nat} {m : M} (h : EngAt w g p F m) (hf : Fine m) (op a v : Int) {wB : World} (hF0 : ∀ x ∈ F, wB.heap.size ≤ x) (tB : Touch [] wB w) {D : Int → PS → Int × PS} (hDf : FineD PS.ok D)
    (hD : ∀ n v, op = 2 → m.word a = some (1, n, v) → DoOk wB D p.s m.S n) (hctl : ∀ n v, m.word a = some (2, n, v) → 1 ≤ n ∧ n ≤ 9)
    (hL : (op = 12 ∨ op = 13 ∨ op = 14) → ∀ W, EngAt W g p F m → Calls Tryz.prog 87 #[.pointer (some ⟨g, 0, none⟩), .agg #[.int .u8 op, .int .i64 a, .int .i64 v]] W fun R w' => R = .returned (stV (m.does D op a v).1) ∧ Keep W g p F (m.does D op a v).2 w') :
    Calls Tryz.prog 49 #[.pointer (some ⟨g, 0, none⟩), .agg #[.int .u8 op, .int .i64 a, .int .i64 v]] w fun R w' => R = .returned (stV (m.does D op a v).1) ∧ Keep w g p F (m.does D op a v).2 w' := by
  by_cases h1 : op = 1
  · subst h1; exact does_lit_sem h hf a v
  by_cases h2 : op = 2
  · subst h2
    exact does_exec_sem h a v (m.does D 2 a v) (fun W t hW => execute_sem hW hf a hF0 (tB.trans t (by simp)) hDf (fun n v hw => hD n v rfl hw) hctl)
  by_cases h3 : op = 3
  · subst h3; exact does_jump_sem h hf a v
  by_cases h4 : op = 4
  · subst h4; exact does_zero_sem h hf a v
  by_cases h5 : op = 5
  · subst h5; exact does_do_sem h hf a v
  by_cases h6 : op = 6
  · subst h6; exact does_qdo_sem h hf a v
  by_cases h7 : op = 7
  · subst h7; exact does_loop_sem h hf a v
  by_cases h8 : op = 8
  · subst h8; exact does_plus_sem h hf a v
  by_cases h10 : op = 10
  · subst h10; exact does_of_sem h hf a v
  refine does_held_sem h op a v (by simp [h1, h2, h3, h4, h5, h6, h7, h8, h10]) (m.does D op a v) (fun W hW => ?_)
  by_cases h9 : op = 9
  · subst h9; exact holds_leave_sem hW hf a v
  by_cases h11 : op = 11
  · subst h11; exact holds_drop_sem hW hf a v
  by_cases hl : op = 12 ∨ op = 13 ∨ op = 14
  · exact hL hl W hW
  · have e : m.does D op a v = M.done (0, { m with fr := if (topF m.fr).k = 4 then m.fr.dropLast else m.fr, df := 0, on := 0 }) := by
      unfold M.does
      rw [if_neg h1, if_neg h2, if_neg h3, if_neg h4, if_neg h5, if_neg h6, if_neg h7, if_neg h8, if_neg h9, if_neg h10, if_neg h11, if_neg (by omega), if_neg (by omega), if_neg (by omega)]
      rfl
    rw [e]
    have h12 : ¬ op = 12 := by omega
    have h13 : ¬ op = 13 := by omega
    have h14 : ¬ op = 14 := by omega
    exact holds_exit_sem hW hf a v op (by simp [h9, h11, h12, h13, h14])
end En
end Go.Proofs.YtdokeddjcpnmiaaGreatDoor

/- Step (printed by wip/engfn.py). -/
namespace Go.Proofs.YtdokeddjcpnmiaaGreatDoor
open Go.RowKit
namespace En

theorem at_some {w : World} {g : Nat} {p : Lay} {F : List Nat} {m : M} (h : EngAt w g p F m) (hf : Fine m) {n i op a v : Int} (ha : m.at_ n i = some (op, a, v)) :
    (0 ≤ i ∧ i ≤ 10000000) ∧ (0 ≤ op ∧ op < 256) ∧ Calls Tryz.prog 47 #[.pointer (some ⟨g, 0, none⟩), .int .i64 n, .int .i64 i] w fun e w' => e = .returned (.tuple #[.agg #[.int .u8 op, .int .i64 a, .int .i64 v], .bool true]) ∧ Touch [] w w' := by
  unfold M.at_ at ha
  by_cases hc : n < 1 ∨ (m.ends.length : Int) < n ∨ i < 0 ∨ ((m.ends.getD (n - 1).toNat 0) - m.begin_ n).tdiv 2 ≤ i
  · rw [if_pos hc] at ha; cases ha
  · rw [if_neg hc] at ha
    obtain ⟨k, rfl⟩ : ∃ k : Nat, n = (k : Int) + 1 := ⟨(n - 1).toNat, by omega⟩
    obtain ⟨i, rfl⟩ : ∃ j : Nat, i = (j : Int) := ⟨i.toNat, by omega⟩
    have hk : k < m.ends.length := by omega
    have e1 : ((k : Int) + 1 - 1).toNat = k := by omega
    rw [e1] at hc
    dsimp only at ha
    rw [Int.toNat_natCast] at ha
    injection ha with ha
    injection ha with ha1 ha2
    injection ha2 with ha2 ha3
    have hin := hf.ends (m.ends.getD k 0) (by rw [List.getD_eq_getElem?_getD, List.getElem?_eq_getElem hk]; exact List.getElem_mem _)
    have hcl := hf.code
    have hi : (i : Int) < (m.ends.getD k 0 - m.begin_ ((k : Int) + 1)).tdiv 2 := by omega
    have hy := at_yes h hf k i hk _ rfl hi
    refine ⟨⟨by omega, ?_⟩, ⟨by omega, by omega⟩, ?_⟩
    · rcases Int.lt_or_le (m.ends.getD k 0 - (m.begin_ ((k : Int) + 1) : Nat)) 0 with hh | hh
      · rw [show m.ends.getD k 0 - ((m.begin_ ((k : Int) + 1) : Nat) : Int) = -((m.begin_ ((k : Int) + 1) : Nat) - m.ends.getD k 0) by omega, Int.neg_tdiv, Int.tdiv_eq_ediv_of_nonneg (by omega)] at hi
        omega
      · rw [Int.tdiv_eq_ediv_of_nonneg hh] at hi
        omega
    · rw [ha1, ha2, ha3] at hy
      exact hy
set_option maxRecDepth 100000 in
set_option maxHeartbeats 3200000 in
theorem step_next_sem {w : World} {g : Nat} {p : Lay} {F : List Nat} {m : M} (h : EngAt w g p F m) (hn : m.nx ≠ 0) (q : St × M) (hX : ∀ W F1, EngAt W g p F1 { m with nx := 0 } → Keep w g p F { m with nx := 0 } W → Sub w F F1 → Calls Tryz.prog 45 #[.pointer (some ⟨g, 0, none⟩), .int .i64 m.nx] W fun R w' => R = .returned (stV q.1) ∧ Keep W g p F1 q.2 w') :
    Calls Tryz.prog 27 #[.pointer (some ⟨g, 0, none⟩)] w fun R w' => R = .returned (stV q.1) ∧ Keep w g p F q.2 w' := by
  obtain ⟨z, hz⟩ : ∃ z, w.heap.size = z := ⟨_, rfl⟩
  have HS := Lib.hid (Start.box0 w h)
  have hE0 := h.touch HS.out.1.t (by simp)
  rw [hz] at HS
  have c6 := hE0.c6
  have f6 := hE0.z 6
  have hk := hE0.setNext 0
  obtain ⟨nx, hnx⟩ : ∃ nx, m.nx = nx := ⟨_, rfl⟩
  rw [hnx] at c6 hX hn
  have hn' : (nx == 0) = false := by simpa using hn
  have HX := Lib.hid hX
  have HE := Lib.hid hE0
  obtain ⟨⟨sa, sb, sc⟩, m'⟩ := q
  dsimp only at HX ⊢
  clear hX hE0 h hn hnx
  go_enter Tryz.func27, Tryz.ntmps27
  go_upto_region 1 with fail
  clear hz
  generalize w.alloc (.cells #[.int .i64 0, .int .i64 0, .int .i64 0] 48) = W0 at *
  go_upto_region 6 with fail
  have tk : Touch F W0 (W0.setCell ⟨g, 6, none⟩ (.int .i64 0)) := (Touch.refl F W0).setCell (.inl HE.out.own_mem) _
  generalize W0.setCell ⟨g, 6, none⟩ (.int .i64 0) = w1 at *
  obtain ⟨F1, h1, t1, s1⟩ := hk
  have hT := HX.out w1 F1 h1 ⟨F1, h1, (HS.out.1.t.mono (by simp)).trans t1 (fun x hx => .inl hx), fun x hx => (s1 x hx).imp id (Nat.le_trans HS.out.1.t.size)⟩ (fun x hx => (s1 x hx).imp id (Nat.le_trans HS.out.1.t.size))
  have HN := Lib.hid (fun (m2 : M) (W2 : World) (k : Keep w1 g p F1 m2 W2) => Keep.trans t1 s1 k)
  clear h1 t1 s1 c6 f6 tk
  go_wp2_with fail
  refine hT.mono ?_
  rintro _ w2 ⟨rfl, k2⟩
  have k2 := HN.out _ _ k2
  have hb := HS.out.1.blk k2
  obtain ⟨⟨e0, e1, e2⟩, g0, g1, g2⟩ := zeros_of hb
  obtain ⟨r0, r1, r2⟩ := three_read hb (.int .i64 sa) (.int .i64 sb) (.int .i64 sc)
  have HK := Lib.hid (HS.out.1.end_ k2 (.int .i64 sa) (.int .i64 sb) (.int .i64 sc))
  clear k2 hb hT hn'
  go_wp2_with fail
  refine bodyPost_ret (by simp [results, Tryz.results27, go_sem, r0, r1, r2]; try rfl) rfl ?_
  exact ⟨rfl, HK.out⟩
set_option maxRecDepth 100000 in
set_option maxHeartbeats 3200000 in
theorem step_wait_sem {w : World} {g : Nat} {p : Lay} {F : List Nat} {m : M} (h : EngAt w g p F m) (hf : Fine m) (hn : m.nx = 0) (h67 : (topF m.fr).k = 6 ∨ (topF m.fr).k = 7) :
    Calls Tryz.prog 27 #[.pointer (some ⟨g, 0, none⟩)] w fun R w' => R = .returned (stV (3, (topF m.fr).k, 0)) ∧ Keep w g p F m w' := by
  obtain ⟨z, hz⟩ : ∃ z, w.heap.size = z := ⟨_, rfl⟩
  have HS := Lib.hid (Start.box0 w h)
  have hE0 := h.touch HS.out.1.t (by simp)
  rw [hz] at HS
  have c6 := hE0.c6
  rw [hn] at c6
  have c3 := hE0.c3
  have hTp := top_keep hE0 hf.fr
  obtain ⟨f, ef⟩ : ∃ f, topF m.fr = f := ⟨_, rfl⟩
  rw [ef] at hTp h67 ⊢
  obtain ⟨ok, hok⟩ : ∃ ok, decide (m.fr ≠ []) = ok := ⟨_, rfl⟩
  rw [hok] at hTp
  clear hE0 h hf hn hok ef
  rcases h67 with h6 | h6
  · obtain ⟨fk, fa, fb, fx, fy, fl⟩ := f
    dsimp only at h6 hTp
    subst h6
    go_enter Tryz.func27, Tryz.ntmps27
    go_upto_region 1 with fail
    clear hz
    generalize w.alloc (.cells #[.int .i64 0, .int .i64 0, .int .i64 0] 48) = W0 at *
    go_wp2_with fail
    refine hTp.mono ?_
    rintro _ w1 ⟨ta, tn, tc, rfl, k1⟩
    have tY := (Touch.refl [] w1).alloc (.cells #[.int .i64 6, .int .i64 fa, .int .i64 fb, .int .i64 fx, .int .i64 fy, .slice ta tn tc] 45)
    have bY := Blk.new w1 45 #[.int .i64 6, .int .i64 fa, .int .i64 fb, .int .i64 fx, .int .i64 fy, .slice ta tn tc]
    obtain ⟨y, hy⟩ : ∃ y, w1.heap.size = y := ⟨_, rfl⟩
    rw [hy] at bY
    obtain ⟨F1, h1, n1⟩ := k1.open
    have hyF : y ∉ F1 := fun hx => by have := h1.lt y hx; omega
    have h2 := h1.touch tY (by simp)
    have HN := Lib.hid (fun (m2 : M) (W2 : World) (k : Keep (w1.alloc (.cells #[.int .i64 6, .int .i64 fa, .int .i64 fb, .int .i64 fx, .int .i64 fy, .slice ta tn tc] 45)) g p F1 m2 W2) => n1.out _ _ (k.pre tY))
    clear hTp k1 h1 n1 tY c3 c6
    go_upto_region 8 with fail
    clear hy
    generalize w1.alloc (.cells #[.int .i64 6, .int .i64 fa, .int .i64 fb, .int .i64 fx, .int .i64 fy, .slice ta tn tc] 45) = w2 at *
    have y0 := bY.cell 0
    have y1 := bY.cell 1
    have y2 := bY.cell 2
    have y3 := bY.cell 3
    have k3 := HN.out _ _ (Keep.refl h2)
    have hb := HS.out.1.blk k3
    obtain ⟨⟨e0, e1, e2⟩, g0, g1, g2⟩ := zeros_of hb
    obtain ⟨r0, r1, r2⟩ := three_read hb (.int .i64 3) (.int .i64 6) (.int .i64 0)
    have HK := Lib.hid (HS.out.1.end_ k3 (.int .i64 3) (.int .i64 6) (.int .i64 0))
    clear k3 hb h2 bY
    go_wp2_with fail
    refine bodyPost_ret (by simp [results, Tryz.results27, go_sem, r0, r1, r2]; try rfl) rfl ?_
    exact ⟨rfl, HK.out⟩
  · obtain ⟨fk, fa, fb, fx, fy, fl⟩ := f
    dsimp only at h6 hTp
    subst h6
    go_enter Tryz.func27, Tryz.ntmps27
    go_upto_region 1 with fail
    clear hz
    generalize w.alloc (.cells #[.int .i64 0, .int .i64 0, .int .i64 0] 48) = W0 at *
    go_wp2_with fail
    refine hTp.mono ?_
    rintro _ w1 ⟨ta, tn, tc, rfl, k1⟩
    have tY := (Touch.refl [] w1).alloc (.cells #[.int .i64 7, .int .i64 fa, .int .i64 fb, .int .i64 fx, .int .i64 fy, .slice ta tn tc] 45)
    have bY := Blk.new w1 45 #[.int .i64 7, .int .i64 fa, .int .i64 fb, .int .i64 fx, .int .i64 fy, .slice ta tn tc]
    obtain ⟨y, hy⟩ : ∃ y, w1.heap.size = y := ⟨_, rfl⟩
    rw [hy] at bY
    obtain ⟨F1, h1, n1⟩ := k1.open
    have hyF : y ∉ F1 := fun hx => by have := h1.lt y hx; omega
    have h2 := h1.touch tY (by simp)
    have HN := Lib.hid (fun (m2 : M) (W2 : World) (k : Keep (w1.alloc (.cells #[.int .i64 7, .int .i64 fa, .int .i64 fb, .int .i64 fx, .int .i64 fy, .slice ta tn tc] 45)) g p F1 m2 W2) => n1.out _ _ (k.pre tY))
    clear hTp k1 h1 n1 tY c3 c6
    go_upto_region 8 with fail
    clear hy
    generalize w1.alloc (.cells #[.int .i64 7, .int .i64 fa, .int .i64 fb, .int .i64 fx, .int .i64 fy, .slice ta tn tc] 45) = w2 at *
    have y0 := bY.cell 0
    have y1 := bY.cell 1
    have y2 := bY.cell 2
    have y3 := bY.cell 3
    have k3 := HN.out _ _ (Keep.refl h2)
    have hb := HS.out.1.blk k3
    obtain ⟨⟨e0, e1, e2⟩, g0, g1, g2⟩ := zeros_of hb
    obtain ⟨r0, r1, r2⟩ := three_read hb (.int .i64 3) (.int .i64 7) (.int .i64 0)
    have HK := Lib.hid (HS.out.1.end_ k3 (.int .i64 3) (.int .i64 7) (.int .i64 0))
    clear k3 hb h2 bY
    go_wp2_with fail
    refine bodyPost_ret (by simp [results, Tryz.results27, go_sem, r0, r1, r2]; try rfl) rfl ?_
    exact ⟨rfl, HK.out⟩
end En
end Go.Proofs.YtdokeddjcpnmiaaGreatDoor
