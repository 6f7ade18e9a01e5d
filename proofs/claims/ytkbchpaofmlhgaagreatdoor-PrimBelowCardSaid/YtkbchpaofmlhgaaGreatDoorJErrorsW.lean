import Derived.Test.YtkbchpaofmlhgaaGreatDoorJDoTot
import Derived.Test.YtkbchpaofmlhgaaGreatDoorJStkA
import Derived.StillTailTactics
/- PrimErrors: the law's walk. -/
namespace Go.Proofs.YtkbchpaofmlhgaaGreatDoor
open Go.RowKit

/-- a row of cells that came in -/
def ArgC (w : World) (v : Value) (l : List Int) : Prop :=
  (v = .slice none 0 0 ∧ l = []) ∨ ∃ ad c, v = .slice (some ad) l.length c ∧ l.length ≤ c ∧ c ≤ 9223372036854775807 ∧ ∀ j u, (cells l)[j]? = some u → w.cell? (ad.add j) = some u
/-- its first ones -/
theorem ArgC.take {w w' : World} {ad : Addr} {l : List Int} (h : ∀ j u, (cells l)[j]? = some u → w.cell? (ad.add j) = some u) (t : Touch [] w w') (k c : Nat) (hk : k ≤ l.length) : CellsAt w' (.slice (some ad) k c) (l.take k) := by
  refine .inr ⟨ad, c, by rw [List.length_take, Nat.min_eq_left hk], fun j u hj => cell_quiet t (h j u ?_)⟩
  unfold cells at hj ⊢
  rw [List.map_take, List.getElem?_take] at hj
  split at hj
  · exact hj
  · cases hj
theorem CellsG.rowR {w : World} {v : Value} {l : List Int} (h : CellsG w v l) : RowR w v l := by
  rcases h with ⟨rfl, rfl⟩ | ⟨g, c, rfl, h⟩
  · exact ⟨none, 0, rfl, fun i hi => by simp at hi⟩
  · exact ⟨_, c, rfl, fun i hi => ⟨g, 0, rfl, by rw [Nat.zero_add]; exact h i _ (cells_get l i hi)⟩⟩
theorem text_all {T S : PS} (h : T.bs = S.bs) (p k : Nat) : T.text p k = S.text p k := by unfold PS.text; rw [h]
theorem Live.fit {w0 w : World} {s : Nat} {F : List Nat} {op r : Int} {T : PS} (h : Goes2 w s F op r T) (hF : ∀ x ∈ F, w0.heap.size ≤ x) (ht : Touch [] w0 w) :
    Calls Tryz.prog 14 #[.pointer (some ⟨s, 0, none⟩), .int .i64 op] w fun e w' => e = .returned (.int .i64 r) ∧ Live w0 w' s T ∧ Touch F w w' := by
  refine h.mono ?_
  rintro _ w' ⟨F', rfl, h1, h2, h3⟩
  exact ⟨rfl, Live.next h1 hF ht h2 h3, h2⟩
set_option maxRecDepth 100000 in
set_option maxHeartbeats 3200000 in
theorem PrimErrors_walk (l : List Int) (v : Value) (op : Int) (w : World) (hl : ArgC w v l) (hc : AllC l) (hT : Tabs w) :
    Calls Tryz.prog 7 #[v, .int .i64 op] w fun e w' => e = .returned (.bool true) ∧ Touch [] w w' := by
  have hSh := shown_any w
  obtain ⟨a, n, c, k, rfl, hk, hkn, hnc, hcells⟩ : ∃ (a : Option Addr) (n c k : Nat), v = .slice a n c ∧ min (n : Int) 128 = (k : Int) ∧ k ≤ n ∧ n ≤ c ∧ ∀ w', Touch [] w w' → CellsAt w' (.slice a k c) (l.take k) := by
    rcases hl with ⟨rfl, rfl⟩ | ⟨ad, c, rfl, h1, _, h2⟩
    · exact ⟨none, 0, 0, 0, rfl, rfl, Nat.le_refl _, Nat.le_refl _, fun w' _ => .inl ⟨rfl, rfl⟩⟩
    · exact ⟨some ad, l.length, c, min l.length 128, rfl, by omega, Nat.min_le_left _ _, h1, fun w' t => ArgC.take h2 t _ _ (Nat.min_le_left _ _)⟩
  have hk128 : k ≤ 128 := by omega
  obtain ⟨L, hL⟩ : ∃ L, l.take k = L := ⟨_, rfl⟩
  rw [hL] at hcells
  have hLc : AllC L := by rw [← hL]; exact allC_take hc k
  have hLl : L.length ≤ 128 := by rw [← hL, List.length_take]; omega
  have h0k : (0 : Int) ≤ k := by omega
  have hkc : (k : Int) ≤ c := by omega
  have HA := Lib.hid (And.intro hcells (And.intro hLc (And.intro hLl hT)))
  clear hl hc hL hcells hLc hLl hT hkn hnc hk128
  go_enter Tryz.func7, Tryz.ntmps7
  go_wp2_with fail
  refine hSh.mono ?_
  rintro _ w1 ⟨rfl, t1⟩
  have hN := live_new w w1 t1
  clear hSh t1
  go_wp2_with fail
  refine hN.mono ?_
  rintro _ w2 ⟨s, S, rfl, hLv, hok, h1, h2, h3, h4, h5, h6⟩
  have hSt := live_stack (hLv.quiet (Touch.refl [] w2).drew)
  have hPu := live_put (hLv.quiet (Touch.refl [] w2).drew) _ L (HA.out.1 _ (hLv.t.trans (Touch.refl [] w2).drew (by simp))) (by rw [h2]; have := HA.out.2.2.1; simpa using this)
  rw [h2, List.nil_append] at hPu
  have HS := Lib.hid (And.intro hok (And.intro h1 (And.intro h3 (And.intro h4 (And.intro h5 h6)))))
  clear hN hLv hok h1 h2 h3 h4 h5 h6
  go_upto_region 3 with fail
  go_still_tail 14, (by kernel_rfl)
  still_call (still_left hSt)
  repeat still_step
  refine wpStill_nil ?_
  change wpList _ _ _ _ _ w2.drew
  go_wp2_with (go_at_call 13; refine hPu.mono ?_; rintro _ w3 ⟨rfl, hL3⟩; have H3 := Lib.hid hL3; clear hL3)
  -- behind what came in
  have hfit : Fit { S with st := L } := ⟨HS.out.1, HS.out.2.1, HA.out.2.2.1, HA.out.2.1⟩
  have hBg := live_do H3.out begin_sem (by decide) (by decide) (by decide) (by decide) hfit.ok hfit.len (fun _ => trivial)
  have e1 : doP 0 (fun _ S => (([], 0), { S with made := [] })) { S with st := L } = (0, { S with st := L, made := [] }) := by
    have := HA.out.2.2.1
    unfold doP
    simp
    omega
  rw [e1] at hBg
  have HF5 : Hid (Fit { S with st := L, made := [] }) := ⟨⟨hfit.ok.1, Nat.zero_le _, hfit.ok.2.2⟩, hfit.n, hfit.len, hfit.cells⟩
  clear hSt hPu H3 hfit e1
  refine hBg.mono ?_
  rintro _ w4 ⟨rfl, hL4⟩
  have hSt := live_stack hL4
  have hAl := live_all hL4 HF5.out.len
  have HL4 := Lib.hid hL4
  clear hBg hL4
  go_wp2_with fail
  refine hSt.mono ?_
  rintro _ _ ⟨rfl, rfl⟩
  clear hSt
  go_wp2_with fail
  refine hAl.mono ?_
  rintro _ w5 ⟨rv, rfl, hcg, hrow, t5⟩
  obtain ⟨ra, rc, rfl⟩ := own_slice hrow
  have hM5 := live_mem (HL4.out.quiet t5)
  have hX5 : Calls Tryz.prog 32 #[.pointer (some ⟨S.m, 0, none⟩), .int .i64 0, .int .i64 1024] w5 fun e w' => e = .returned (.tuple #[.string (PS.text { S with st := L, made := [] } 0 1024), .int .i64 0]) ∧ Touch [] w5 w' := live_text (HL4.out.quiet t5) 0 1024 (by show 0 + 1024 ≤ S.n; rw [HS.out.2.1]; decide)
  obtain ⟨X, hX⟩ : ∃ X, PS.text { S with st := L, made := [] } 0 1024 = X := ⟨_, rfl⟩
  rw [hX] at hX5
  have HR5 := Lib.hid (And.intro hrow (And.intro t5 hX))
  clear hAl hcg hrow t5 hX
  go_wp2_with fail
  refine hM5.mono ?_
  rintro _ _ ⟨rfl, rfl⟩
  clear hM5
  go_wp2_with fail
  refine hX5.mono ?_
  rintro _ w6 ⟨rfl, t6⟩
  obtain ⟨F, hS4, hF, ht4⟩ := HL4.out
  have t46 := HR5.out.2.1.trans t6 (by simp)
  obtain ⟨r, T, hGo, hr1, hr0, hTn⟩ := do_tot HA.out.2.2.2 (hS4.quiet t46) hF (ht4.trans t46 (by simp)) HF5.out op
  have hGo := Live.fit hGo hF (ht4.trans t46 (by simp))
  have hrow6 := row_touch HR5.out.1 t6 (by simp)
  have hst : ({ S with st := L, made := [] } : PS).st = L := rfl
  have HW := Lib.hid (And.intro hrow6 (And.intro hS4 (And.intro hTn hr0)))
  clear hX5 t6 hrow6 hS4 hF ht4 t46 hTn hr0 hst
  have hcase : (1 ≤ op ∧ op < 108 ∧ r ≠ 1) ∨ (¬ op ≥ 1 ∧ r = 1) ∨ (op ≥ 1 ∧ ¬ op < 108 ∧ r = 1) := by
    by_cases hk : knownOp op
    · have : r ≠ 1 := fun h => (hr1.1 h) hk
      unfold knownOp at hk
      exact .inl ⟨hk.1, by omega, this⟩
    · have h := hr1.2 hk
      unfold knownOp at hk
      by_cases h1 : op ≥ 1
      · exact .inr (.inr ⟨h1, by omega, h⟩)
      · exact .inr (.inl ⟨h1, h⟩)
  clear hr1
  rcases hcase with ⟨g1, g2, hr1⟩ | ⟨g1, rfl⟩ | ⟨g1, g2, rfl⟩
  · have hb1 : (r == 1) = false := by simpa using hr1
    clear hr1
    by_cases hr : r = 0
    · subst hr
      go_wp2_with fail
      refine hGo.mono ?_
      rintro _ w8 ⟨rfl, hL8, t8⟩
      have hM8 := live_mem hL8
      have hX8 : Calls Tryz.prog 32 #[.pointer (some ⟨T.m, 0, none⟩), .int .i64 0, .int .i64 1024] w8 fun e w' => e = .returned (.tuple #[.string (PS.text T 0 1024), .int .i64 0]) ∧ Touch [] w8 w' := live_text hL8 0 1024 (by rw [HW.out.2.2.1]; show 0 + 1024 ≤ S.n; rw [HS.out.2.1]; decide)
      have HL8 := Lib.hid (And.intro hL8 t8)
      clear hGo hL8 t8
      go_wp2_with fail
      refine hM8.mono ?_
      rintro _ _ ⟨rfl, rfl⟩
      clear hM8
      go_wp2_with fail
      refine hX8.mono ?_
      rintro _ w9 ⟨rfl, t9⟩
      have HL9 := Lib.hid (HL8.out.1.quiet t9)
      clear hX8 t9
      have hn1 := fun w => Do_nil op w
      have hn2 := fun w => Out_nil w
      have hn3 := fun w => Stack_nil w
      have hn4 := fun w => Mem_nil w
      go_wp2_with fail
      refine (hn1 _).mono ?_
      rintro _ _ ⟨rfl, rfl⟩
      go_wp2_with fail
      refine (hn2 _).mono ?_
      rintro _ _ ⟨rfl, rfl⟩
      go_wp2_with fail
      refine (hn3 _).mono ?_
      rintro _ _ ⟨rfl, rfl⟩
      go_wp2_with fail
      refine (hn4 _).mono ?_
      rintro _ _ ⟨rfl, rfl⟩
      clear hn1 hn2 hn3 hn4
      go_wp2_with fail
      go_ret
      exact ⟨rfl, HL9.out.t⟩
    · have hb0 : (r == 0) = false := by simpa using hr
      go_wp2_with fail
      refine hGo.mono ?_
      rintro _ w8 ⟨rfl, hL8, t8⟩
      have hM8 := live_mem hL8
      have hX8 : Calls Tryz.prog 32 #[.pointer (some ⟨T.m, 0, none⟩), .int .i64 0, .int .i64 1024] w8 fun e w' => e = .returned (.tuple #[.string (PS.text T 0 1024), .int .i64 0]) ∧ Touch [] w8 w' := live_text hL8 0 1024 (by rw [HW.out.2.2.1]; show 0 + 1024 ≤ S.n; rw [HS.out.2.1]; decide)
      have HL8 := Lib.hid (And.intro hL8 t8)
      clear hGo hL8 t8
      rw [show PS.text T 0 1024 = X from (text_all (S := { S with st := L, made := [] }) (HW.out.2.2.2 hr).2.1 0 1024).trans HR5.out.2.2] at hX8
      go_wp2_with fail
      refine hM8.mono ?_
      rintro _ _ ⟨rfl, rfl⟩
      clear hM8
      go_wp2_with fail
      refine hX8.mono ?_
      rintro _ w9 ⟨rfl, t9⟩
      have HL9 := Lib.hid (HL8.out.1.quiet t9)
      have hSt := live_stack HL9.out
      have hAl := live_all HL9.out (by rw [(HW.out.2.2.2 hr).1]; exact HA.out.2.2.1)
      rw [(HW.out.2.2.2 hr).1] at hAl
      have hrR := ((row_on HW.out.1 HW.out.2.1 HL8.out.2).rowR).quiet t9
      have HRR := Lib.hid hrR
      clear hrR
      clear hX8 t9
      have hn1 := fun w => Do_nil op w
      have hn2 := fun w => Out_nil w
      have hn3 := fun w => Stack_nil w
      have hn4 := fun w => Mem_nil w
      go_wp2_with fail
      refine (hn1 _).mono ?_
      rintro _ _ ⟨rfl, rfl⟩
      go_wp2_with fail
      refine (hn2 _).mono ?_
      rintro _ _ ⟨rfl, rfl⟩
      go_wp2_with fail
      refine (hn3 _).mono ?_
      rintro _ _ ⟨rfl, rfl⟩
      go_wp2_with fail
      refine (hn4 _).mono ?_
      rintro _ _ ⟨rfl, rfl⟩
      clear hn1 hn2 hn3 hn4
      go_wp2_with fail
      refine hSt.mono ?_
      rintro _ _ ⟨rfl, rfl⟩
      clear hSt
      go_wp2_with fail
      refine hAl.mono ?_
      rintro _ w10 ⟨nv, rfl, hcg, hrow, t10⟩
      obtain ⟨na, nc2, rfl⟩ := own_slice hrow
      have hSm := Same_eq _ _ L w10 hcg.rowR (HRR.out.quiet t10) (by have := HA.out.2.2.1; omega)
      have HT10 := Lib.hid t10
      clear hAl hcg hrow t10
      go_wp2_with fail
      refine hSm.mono ?_
      rintro _ w11 ⟨rfl, t11⟩
      have hL11 := HL9.out.quiet (HT10.out.trans t11 (by simp))
      have hO := live_out hL11
      rw [(HW.out.2.2.2 hr).2.2.2] at hO
      have eO : strOfNums S.out = .empty := by rw [HS.out.2.2.2.2.1]; decide
      change Calls _ _ _ _ (fun e w' => e = .returned (.string (strOfNums S.out)) ∧ _) at hO
      rw [eO] at hO
      have hM := live_mem hL11
      have hH : Calls Tryz.prog 33 #[.pointer (some ⟨T.m, 0, none⟩)] w11 fun e w' => e = .returned (.int .i64 8) ∧ w11 = w' := by
        obtain ⟨F', hS', _⟩ := id hL11
        have h := Here_any hS'.mem
        rw [(HW.out.2.2.2 hr).2.2.1] at h
        change Calls _ _ _ _ (fun e w' => e = .returned (.int .i64 ((S.here : Nat) : Int)) ∧ _) at h
        rw [HS.out.2.2.2.1] at h
        exact h
      have HZ := Lib.hid hL11.t
      clear hSm t11 hL11 eO
      go_wp2_with fail
      refine hO.mono ?_
      rintro _ _ ⟨rfl, rfl⟩
      clear hO
      go_wp2_with fail
      refine hM.mono ?_
      rintro _ _ ⟨rfl, rfl⟩
      clear hM
      go_wp2_with fail
      refine hH.mono ?_
      rintro _ _ ⟨rfl, rfl⟩
      clear hH
      go_wp2_with fail
      go_ret
      exact ⟨rfl, HZ.out⟩
  · have hr : (1 : Int) ≠ 0 := by decide
    go_wp2_with fail
    refine hGo.mono ?_
    rintro _ w8 ⟨rfl, hL8, t8⟩
    have hM8 := live_mem hL8
    have hX8 : Calls Tryz.prog 32 #[.pointer (some ⟨T.m, 0, none⟩), .int .i64 0, .int .i64 1024] w8 fun e w' => e = .returned (.tuple #[.string (PS.text T 0 1024), .int .i64 0]) ∧ Touch [] w8 w' := live_text hL8 0 1024 (by rw [HW.out.2.2.1]; show 0 + 1024 ≤ S.n; rw [HS.out.2.1]; decide)
    have HL8 := Lib.hid (And.intro hL8 t8)
    clear hGo hL8 t8
    rw [show PS.text T 0 1024 = X from (text_all (S := { S with st := L, made := [] }) (HW.out.2.2.2 hr).2.1 0 1024).trans HR5.out.2.2] at hX8
    go_wp2_with fail
    refine hM8.mono ?_
    rintro _ _ ⟨rfl, rfl⟩
    clear hM8
    go_wp2_with fail
    refine hX8.mono ?_
    rintro _ w9 ⟨rfl, t9⟩
    have HL9 := Lib.hid (HL8.out.1.quiet t9)
    have hSt := live_stack HL9.out
    have hAl := live_all HL9.out (by rw [(HW.out.2.2.2 hr).1]; exact HA.out.2.2.1)
    rw [(HW.out.2.2.2 hr).1] at hAl
    have hrR := ((row_on HW.out.1 HW.out.2.1 HL8.out.2).rowR).quiet t9
    have HRR := Lib.hid hrR
    clear hrR
    clear hX8 t9
    have hn1 := fun w => Do_nil op w
    have hn2 := fun w => Out_nil w
    have hn3 := fun w => Stack_nil w
    have hn4 := fun w => Mem_nil w
    go_wp2_with fail
    refine (hn1 _).mono ?_
    rintro _ _ ⟨rfl, rfl⟩
    go_wp2_with fail
    refine (hn2 _).mono ?_
    rintro _ _ ⟨rfl, rfl⟩
    go_wp2_with fail
    refine (hn3 _).mono ?_
    rintro _ _ ⟨rfl, rfl⟩
    go_wp2_with fail
    refine (hn4 _).mono ?_
    rintro _ _ ⟨rfl, rfl⟩
    clear hn1 hn2 hn3 hn4
    go_wp2_with fail
    refine hSt.mono ?_
    rintro _ _ ⟨rfl, rfl⟩
    clear hSt
    go_wp2_with fail
    refine hAl.mono ?_
    rintro _ w10 ⟨nv, rfl, hcg, hrow, t10⟩
    obtain ⟨na, nc2, rfl⟩ := own_slice hrow
    have hSm := Same_eq _ _ L w10 hcg.rowR (HRR.out.quiet t10) (by have := HA.out.2.2.1; omega)
    have HT10 := Lib.hid t10
    clear hAl hcg hrow t10
    go_wp2_with fail
    refine hSm.mono ?_
    rintro _ w11 ⟨rfl, t11⟩
    have hL11 := HL9.out.quiet (HT10.out.trans t11 (by simp))
    have hO := live_out hL11
    rw [(HW.out.2.2.2 hr).2.2.2] at hO
    have eO : strOfNums S.out = .empty := by rw [HS.out.2.2.2.2.1]; decide
    change Calls _ _ _ _ (fun e w' => e = .returned (.string (strOfNums S.out)) ∧ _) at hO
    rw [eO] at hO
    have hM := live_mem hL11
    have hH : Calls Tryz.prog 33 #[.pointer (some ⟨T.m, 0, none⟩)] w11 fun e w' => e = .returned (.int .i64 8) ∧ w11 = w' := by
      obtain ⟨F', hS', _⟩ := id hL11
      have h := Here_any hS'.mem
      rw [(HW.out.2.2.2 hr).2.2.1] at h
      change Calls _ _ _ _ (fun e w' => e = .returned (.int .i64 ((S.here : Nat) : Int)) ∧ _) at h
      rw [HS.out.2.2.2.1] at h
      exact h
    have HZ := Lib.hid hL11.t
    clear hSm t11 hL11 eO
    go_wp2_with fail
    refine hO.mono ?_
    rintro _ _ ⟨rfl, rfl⟩
    clear hO
    go_wp2_with fail
    refine hM.mono ?_
    rintro _ _ ⟨rfl, rfl⟩
    clear hM
    go_wp2_with fail
    refine hH.mono ?_
    rintro _ _ ⟨rfl, rfl⟩
    clear hH
    go_wp2_with fail
    go_ret
    exact ⟨rfl, HZ.out⟩
  · have hr : (1 : Int) ≠ 0 := by decide
    go_wp2_with fail
    refine hGo.mono ?_
    rintro _ w8 ⟨rfl, hL8, t8⟩
    have hM8 := live_mem hL8
    have hX8 : Calls Tryz.prog 32 #[.pointer (some ⟨T.m, 0, none⟩), .int .i64 0, .int .i64 1024] w8 fun e w' => e = .returned (.tuple #[.string (PS.text T 0 1024), .int .i64 0]) ∧ Touch [] w8 w' := live_text hL8 0 1024 (by rw [HW.out.2.2.1]; show 0 + 1024 ≤ S.n; rw [HS.out.2.1]; decide)
    have HL8 := Lib.hid (And.intro hL8 t8)
    clear hGo hL8 t8
    rw [show PS.text T 0 1024 = X from (text_all (S := { S with st := L, made := [] }) (HW.out.2.2.2 hr).2.1 0 1024).trans HR5.out.2.2] at hX8
    go_wp2_with fail
    refine hM8.mono ?_
    rintro _ _ ⟨rfl, rfl⟩
    clear hM8
    go_wp2_with fail
    refine hX8.mono ?_
    rintro _ w9 ⟨rfl, t9⟩
    have HL9 := Lib.hid (HL8.out.1.quiet t9)
    have hSt := live_stack HL9.out
    have hAl := live_all HL9.out (by rw [(HW.out.2.2.2 hr).1]; exact HA.out.2.2.1)
    rw [(HW.out.2.2.2 hr).1] at hAl
    have hrR := ((row_on HW.out.1 HW.out.2.1 HL8.out.2).rowR).quiet t9
    have HRR := Lib.hid hrR
    clear hrR
    clear hX8 t9
    have hn1 := fun w => Do_nil op w
    have hn2 := fun w => Out_nil w
    have hn3 := fun w => Stack_nil w
    have hn4 := fun w => Mem_nil w
    go_wp2_with fail
    refine (hn1 _).mono ?_
    rintro _ _ ⟨rfl, rfl⟩
    go_wp2_with fail
    refine (hn2 _).mono ?_
    rintro _ _ ⟨rfl, rfl⟩
    go_wp2_with fail
    refine (hn3 _).mono ?_
    rintro _ _ ⟨rfl, rfl⟩
    go_wp2_with fail
    refine (hn4 _).mono ?_
    rintro _ _ ⟨rfl, rfl⟩
    clear hn1 hn2 hn3 hn4
    go_wp2_with fail
    refine hSt.mono ?_
    rintro _ _ ⟨rfl, rfl⟩
    clear hSt
    go_wp2_with fail
    refine hAl.mono ?_
    rintro _ w10 ⟨nv, rfl, hcg, hrow, t10⟩
    obtain ⟨na, nc2, rfl⟩ := own_slice hrow
    have hSm := Same_eq _ _ L w10 hcg.rowR (HRR.out.quiet t10) (by have := HA.out.2.2.1; omega)
    have HT10 := Lib.hid t10
    clear hAl hcg hrow t10
    go_wp2_with fail
    refine hSm.mono ?_
    rintro _ w11 ⟨rfl, t11⟩
    have hL11 := HL9.out.quiet (HT10.out.trans t11 (by simp))
    have hO := live_out hL11
    rw [(HW.out.2.2.2 hr).2.2.2] at hO
    have eO : strOfNums S.out = .empty := by rw [HS.out.2.2.2.2.1]; decide
    change Calls _ _ _ _ (fun e w' => e = .returned (.string (strOfNums S.out)) ∧ _) at hO
    rw [eO] at hO
    have hM := live_mem hL11
    have hH : Calls Tryz.prog 33 #[.pointer (some ⟨T.m, 0, none⟩)] w11 fun e w' => e = .returned (.int .i64 8) ∧ w11 = w' := by
      obtain ⟨F', hS', _⟩ := id hL11
      have h := Here_any hS'.mem
      rw [(HW.out.2.2.2 hr).2.2.1] at h
      change Calls _ _ _ _ (fun e w' => e = .returned (.int .i64 ((S.here : Nat) : Int)) ∧ _) at h
      rw [HS.out.2.2.2.1] at h
      exact h
    have HZ := Lib.hid hL11.t
    clear hSm t11 hL11 eO
    go_wp2_with fail
    refine hO.mono ?_
    rintro _ _ ⟨rfl, rfl⟩
    clear hO
    go_wp2_with fail
    refine hM.mono ?_
    rintro _ _ ⟨rfl, rfl⟩
    clear hM
    go_wp2_with fail
    refine hH.mono ?_
    rintro _ _ ⟨rfl, rfl⟩
    clear hH
    go_wp2_with fail
    go_ret
    exact ⟨rfl, HZ.out⟩
end Go.Proofs.YtkbchpaofmlhgaaGreatDoor
