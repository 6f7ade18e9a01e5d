import Derived.Test.YtdokeddjcpnmiaaGreatDoorJFind
/- What is done by a number: prim's find, where the number is one of cells', or of real numbers'. -/
namespace Go.Proofs.YtdokeddjcpnmiaaGreatDoor
open Go.RowKit

/-- which arm of find a number takes: how many cells are taken, and what is done -/
def armOf (op : Int) : Int × FuncId := if manyF op = 1 then (1, 125) else if manyF op = 2 then (2, 127) else if op = 61 ∨ op = 62 then (1, 129) else (2, 131)
def FoundC (B : Nat) (op : Int) (v : Value) (W : World) : Prop :=
  ∃ b C, B ≤ C ∧ B ≤ b ∧ ActAt C (armOf op).1 149 182 (.func (.func (armOf op).2) #[] #[.pointer (some ⟨b, 0, none⟩)]) v W ∧ Blk W b 3 #[.int .i64 op]
theorem FoundC.from_ {B : Nat} {op : Int} {v : Value} {A W : World} (o : OnFrom B A W) (h : FoundC B op v A) : FoundC B op v W := by
  obtain ⟨b, C, h1, h2, h3, h4⟩ := h
  exact ⟨b, C, h1, h2, h3.from_ (o.up h1), o _ _ _ h2 h4⟩
set_option maxRecDepth 100000 in
set_option maxHeartbeats 1600000 in
theorem find_cell (w : World) (s : Nat) (op : Int) (h : (1 ≤ op ∧ op ≤ 27) ∨ (61 ≤ op ∧ op ≤ 70)) :
    Calls Tryz.prog 97 #[.pointer (some ⟨s, 0, none⟩), .int .i64 op] w fun e w' => ∃ v, e = .returned (.tuple #[v, .bool true]) ∧ FoundC w.heap.size op v w' ∧ Touch [] w w' := by
  have hMn := fun W => Many_any op W
  have bB := (Blk.new w 3 #[.int .i64 op]).alloc (.cells #[.int .i64 0, .nilFunc] 156)
  have bR := Blk.new_at (n := w.heap.size + 1) (w.alloc (.cells #[.int .i64 op] 3)) (by simp) 156 #[.int .i64 0, .nilFunc]
  have tt := ((Touch.refl [] w).alloc (.cells #[.int .i64 op] 3)).alloc (.cells #[.int .i64 0, .nilFunc] 156)
  have hsz : ((w.alloc (.cells #[.int .i64 op] 3)).alloc (.cells #[.int .i64 0, .nilFunc] 156)).heap.size = w.heap.size + 2 := by simp
  have d0 := bB.cell 0
  have fin : ∀ (v : Value) (k : Int) (fn : FuncId) (W wm : World), armOf op = (k, fn) → W.heap.size = w.heap.size + 2 → Blk W w.heap.size 3 #[.int .i64 op] → Blk W (w.heap.size + 1) 156 #[.int .i64 0, .nilFunc] → Touch [] w W → ActAt W.heap.size k 149 182 (.func (.func fn) #[] #[.pointer (some ⟨w.heap.size, 0, none⟩)]) v wm → Touch [] W wm → ∃ f first cap, v = .agg #[.int .i64 k, .func (.func f) first cap] ∧ Blk wm (w.heap.size + 1) 156 #[.int .i64 0, .nilFunc] ∧ FoundC w.heap.size op v ((wm.setCell ⟨w.heap.size + 1, 0, none⟩ (.int .i64 k)).setCell ⟨w.heap.size + 1, 1, none⟩ (.func (.func f) first cap)) ∧ Touch [] w ((wm.setCell ⟨w.heap.size + 1, 0, none⟩ (.int .i64 k)).setCell ⟨w.heap.size + 1, 1, none⟩ (.func (.func f) first cap)) := by
    intro v k fn W wm harm hs hb hr ht ha tm
    obtain ⟨g, e, hg, hgb⟩ := id ha
    refine ⟨_, _, _, e, hr.touch tm (by simp), ?_, ((ht.trans tm (by simp)).setCell (p := ⟨w.heap.size + 1, 0, none⟩) (.inr (by simp)) _).setCell (p := ⟨w.heap.size + 1, 1, none⟩) (.inr (by simp)) _⟩
    refine ⟨w.heap.size, W.heap.size, by omega, Nat.le_refl _, ?_, (((hb.touch tm (by simp)).far (by simp) _).far (by simp) _)⟩
    rw [harm]
    exact ⟨g, e, hg, (hgb.far (by simp only; omega) _).far (by simp only; omega) _⟩
  have hcase : manyF op = 1 ∨ manyF op = 2 ∨ (manyF op = 0 ∧ 61 ≤ op ∧ op ≤ 70) := by unfold manyF; split; exact .inl rfl; split; exact .inr (.inl rfl); exact .inr (.inr ⟨rfl, by omega⟩)
  rcases hcase with hm | hm | ⟨hm, ho1, ho2⟩
  · have harm : armOf op = (1, 125) := by unfold armOf; rw [if_pos hm]
    rw [hm] at hMn
    clear h hm
    obtain ⟨W0, hW0⟩ : ∃ W0, (w.alloc (.cells #[.int .i64 op] 3)).alloc (.cells #[.int .i64 0, .nilFunc] 156) = W0 := ⟨_, rfl⟩
    rw [hW0] at bB bR tt hsz d0
    have hmay := may_new 1 (.func 125) #[] #[.pointer (some ⟨w.heap.size, 0, none⟩)] W0
    have HB := Lib.hid (And.intro bB (And.intro bR (And.intro tt (And.intro hsz harm))))
    clear bB bR tt hsz harm
    go_enter Tryz.func97, Tryz.ntmps97
    go_upto_region 1 with (fail)
    clear hW0
    go_wp2_with fail
    refine (hMn _).mono ?_
    rintro _ _ ⟨rfl, rfl⟩
    go_wp2_with fail
    refine hmay.mono ?_
    rintro _ wm ⟨v, rfl, ha, tm⟩
    obtain ⟨f, first, cap, rfl, bR2, hF, hT⟩ := fin v 1 125 W0 wm HB.out.2.2.2.2 HB.out.2.2.2.1 HB.out.1 HB.out.2.1 HB.out.2.2.1 ha tm
    have r0 := bR2.cell 0
    have fr0 := bR2.frozen 0
    have bR1 := bR2.set_ 0 (.int .i64 1)
    have hsf := store_fn2 (P := Tryz.prog) (bR1.cell 1) (bR1.frozen 1) f first cap
    have bRR := bR1.set_ 1 (.func (.func f) first cap)
    have q0 := bRR.cell 0
    have q1 := bRR.cell 1
    have HR := Lib.hid (And.intro hF hT)
    clear hF hT ha tm bR2 bR1 bRR hmay fin
    go_wp2_with fail
    refine bodyPost_ret (v := .tuple #[.agg #[.int .i64 1, .func (.func f) first cap], .bool true]) ?_ rfl ⟨_, rfl, HR.out.1, HR.out.2⟩
    simp [results, Tryz.f97, go_sem, q0, q1]
  · have harm : armOf op = (2, 127) := by unfold armOf; rw [if_neg (by omega), if_pos hm]
    rw [hm] at hMn
    clear h hm
    obtain ⟨W0, hW0⟩ : ∃ W0, (w.alloc (.cells #[.int .i64 op] 3)).alloc (.cells #[.int .i64 0, .nilFunc] 156) = W0 := ⟨_, rfl⟩
    rw [hW0] at bB bR tt hsz d0
    have hmay := may_new 2 (.func 127) #[] #[.pointer (some ⟨w.heap.size, 0, none⟩)] W0
    have HB := Lib.hid (And.intro bB (And.intro bR (And.intro tt (And.intro hsz harm))))
    clear bB bR tt hsz harm
    go_enter Tryz.func97, Tryz.ntmps97
    go_upto_region 1 with (fail)
    clear hW0
    go_wp2_with fail
    refine (hMn _).mono ?_
    rintro _ _ ⟨rfl, rfl⟩
    go_wp2_with fail
    refine (hMn _).mono ?_
    rintro _ _ ⟨rfl, rfl⟩
    go_wp2_with fail
    refine hmay.mono ?_
    rintro _ wm ⟨v, rfl, ha, tm⟩
    obtain ⟨f, first, cap, rfl, bR2, hF, hT⟩ := fin v 2 127 W0 wm HB.out.2.2.2.2 HB.out.2.2.2.1 HB.out.1 HB.out.2.1 HB.out.2.2.1 ha tm
    have r0 := bR2.cell 0
    have fr0 := bR2.frozen 0
    have bR1 := bR2.set_ 0 (.int .i64 2)
    have hsf := store_fn2 (P := Tryz.prog) (bR1.cell 1) (bR1.frozen 1) f first cap
    have bRR := bR1.set_ 1 (.func (.func f) first cap)
    have q0 := bRR.cell 0
    have q1 := bRR.cell 1
    have HR := Lib.hid (And.intro hF hT)
    clear hF hT ha tm bR2 bR1 bRR hmay fin
    go_wp2_with fail
    refine bodyPost_ret (v := .tuple #[.agg #[.int .i64 2, .func (.func f) first cap], .bool true]) ?_ rfl ⟨_, rfl, HR.out.1, HR.out.2⟩
    simp [results, Tryz.f97, go_sem, q0, q1]
  · rw [hm] at hMn
    by_cases h1 : op = 61
    · subst h1
      have harm : armOf 61 = (1, 129) := by unfold armOf; rw [if_neg (by omega), if_neg (by omega), if_pos (.inl rfl)]
      clear h hm ho1 ho2
      obtain ⟨W0, hW0⟩ : ∃ W0, (w.alloc (.cells #[.int .i64 61] 3)).alloc (.cells #[.int .i64 0, .nilFunc] 156) = W0 := ⟨_, rfl⟩
      rw [hW0] at bB bR tt hsz d0
      have hmay := may_new 1 (.func 129) #[] #[.pointer (some ⟨w.heap.size, 0, none⟩)] W0
      have HB := Lib.hid (And.intro bB (And.intro bR (And.intro tt (And.intro hsz harm))))
      clear bB bR tt hsz harm
      go_enter Tryz.func97, Tryz.ntmps97
      go_upto_region 1 with (fail)
      clear hW0
      go_wp2_with fail
      refine (hMn _).mono ?_
      rintro _ _ ⟨rfl, rfl⟩
      go_wp2_with fail
      refine (hMn _).mono ?_
      rintro _ _ ⟨rfl, rfl⟩
      go_wp2_with fail
      refine hmay.mono ?_
      rintro _ wm ⟨v, rfl, ha, tm⟩
      obtain ⟨f, first, cap, rfl, bR2, hF, hT⟩ := fin v 1 129 W0 wm HB.out.2.2.2.2 HB.out.2.2.2.1 HB.out.1 HB.out.2.1 HB.out.2.2.1 ha tm
      have r0 := bR2.cell 0
      have fr0 := bR2.frozen 0
      have bR1 := bR2.set_ 0 (.int .i64 1)
      have hsf := store_fn2 (P := Tryz.prog) (bR1.cell 1) (bR1.frozen 1) f first cap
      have bRR := bR1.set_ 1 (.func (.func f) first cap)
      have q0 := bRR.cell 0
      have q1 := bRR.cell 1
      have HR := Lib.hid (And.intro hF hT)
      clear hF hT ha tm bR2 bR1 bRR hmay fin
      go_wp2_with fail
      refine bodyPost_ret (v := .tuple #[.agg #[.int .i64 1, .func (.func f) first cap], .bool true]) ?_ rfl ⟨_, rfl, HR.out.1, HR.out.2⟩
      simp [results, Tryz.f97, go_sem, q0, q1]
    · by_cases h2 : op = 62
      · subst h2
        have harm : armOf 62 = (1, 129) := by unfold armOf; rw [if_neg (by omega), if_neg (by omega), if_pos (.inr rfl)]
        clear h hm ho1 ho2
        obtain ⟨W0, hW0⟩ : ∃ W0, (w.alloc (.cells #[.int .i64 62] 3)).alloc (.cells #[.int .i64 0, .nilFunc] 156) = W0 := ⟨_, rfl⟩
        rw [hW0] at bB bR tt hsz d0
        have hmay := may_new 1 (.func 129) #[] #[.pointer (some ⟨w.heap.size, 0, none⟩)] W0
        have HB := Lib.hid (And.intro bB (And.intro bR (And.intro tt (And.intro hsz harm))))
        clear bB bR tt hsz harm
        go_enter Tryz.func97, Tryz.ntmps97
        go_upto_region 1 with (fail)
        clear hW0
        go_wp2_with fail
        refine (hMn _).mono ?_
        rintro _ _ ⟨rfl, rfl⟩
        go_wp2_with fail
        refine (hMn _).mono ?_
        rintro _ _ ⟨rfl, rfl⟩
        go_wp2_with fail
        refine hmay.mono ?_
        rintro _ wm ⟨v, rfl, ha, tm⟩
        obtain ⟨f, first, cap, rfl, bR2, hF, hT⟩ := fin v 1 129 W0 wm HB.out.2.2.2.2 HB.out.2.2.2.1 HB.out.1 HB.out.2.1 HB.out.2.2.1 ha tm
        have r0 := bR2.cell 0
        have fr0 := bR2.frozen 0
        have bR1 := bR2.set_ 0 (.int .i64 1)
        have hsf := store_fn2 (P := Tryz.prog) (bR1.cell 1) (bR1.frozen 1) f first cap
        have bRR := bR1.set_ 1 (.func (.func f) first cap)
        have q0 := bRR.cell 0
        have q1 := bRR.cell 1
        have HR := Lib.hid (And.intro hF hT)
        clear hF hT ha tm bR2 bR1 bRR hmay fin
        go_wp2_with fail
        refine bodyPost_ret (v := .tuple #[.agg #[.int .i64 1, .func (.func f) first cap], .bool true]) ?_ rfl ⟨_, rfl, HR.out.1, HR.out.2⟩
        simp [results, Tryz.f97, go_sem, q0, q1]
      · have harm : armOf op = (2, 131) := by unfold armOf; rw [if_neg (by omega), if_neg (by omega), if_neg (by omega)]
        have h1b : (op == 61) = false := by simpa using h1
        have h2b : (op == 62) = false := by simpa using h2
        have h3b : op ≥ 63 := by omega
        clear h hm ho1
        obtain ⟨W0, hW0⟩ : ∃ W0, (w.alloc (.cells #[.int .i64 op] 3)).alloc (.cells #[.int .i64 0, .nilFunc] 156) = W0 := ⟨_, rfl⟩
        rw [hW0] at bB bR tt hsz d0
        have hmay := may_new 2 (.func 131) #[] #[.pointer (some ⟨w.heap.size, 0, none⟩)] W0
        have HB := Lib.hid (And.intro bB (And.intro bR (And.intro tt (And.intro hsz harm))))
        clear bB bR tt hsz harm
        go_enter Tryz.func97, Tryz.ntmps97
        go_upto_region 1 with (fail)
        clear hW0
        go_wp2_with fail
        refine (hMn _).mono ?_
        rintro _ _ ⟨rfl, rfl⟩
        go_wp2_with fail
        refine (hMn _).mono ?_
        rintro _ _ ⟨rfl, rfl⟩
        go_wp2_with fail
        refine hmay.mono ?_
        rintro _ wm ⟨v, rfl, ha, tm⟩
        obtain ⟨f, first, cap, rfl, bR2, hF, hT⟩ := fin v 2 131 W0 wm HB.out.2.2.2.2 HB.out.2.2.2.1 HB.out.1 HB.out.2.1 HB.out.2.2.1 ha tm
        have r0 := bR2.cell 0
        have fr0 := bR2.frozen 0
        have bR1 := bR2.set_ 0 (.int .i64 2)
        have hsf := store_fn2 (P := Tryz.prog) (bR1.cell 1) (bR1.frozen 1) f first cap
        have bRR := bR1.set_ 1 (.func (.func f) first cap)
        have q0 := bRR.cell 0
        have q1 := bRR.cell 1
        have HR := Lib.hid (And.intro hF hT)
        clear hF hT ha tm bR2 bR1 bRR hmay fin
        go_wp2_with fail
        refine bodyPost_ret (v := .tuple #[.agg #[.int .i64 2, .func (.func f) first cap], .bool true]) ?_ rfl ⟨_, rfl, HR.out.1, HR.out.2⟩
        simp [results, Tryz.f97, go_sem, q0, q1]
end Go.Proofs.YtdokeddjcpnmiaaGreatDoor
