import Derived.Test.YtdokeddjcpnmiaaGreatDoorKEng20
import Derived.Deep.QuietTactic
import Derived.BigQuiet
import Derived.Deep.RegionLaw
/- The engine's instruction at a place. -/
namespace Go.Proofs.YtdokeddjcpnmiaaGreatDoor
open Go.RowKit
namespace En

theorem int_row {w : World} {ev : Value} {L : List Int} (h : w.ownsRow 0 3 1 ev L.length (cells L)) {j : Nat} (hj : j < L.length) : ∃ b c, ev = .slice (some ⟨b, 0, none⟩) L.length c ∧ w.cell? ⟨b, j, none⟩ = some (.int .i64 (L.getD j 0)) := by
  rcases Go.Joins.ownsRow_forms h with ⟨_, h0⟩ | ⟨b, c, rfl⟩
  · omega
  · refine ⟨b, c, rfl, ?_⟩
    have := h.cells (g := b) rfl j _ (cells_get L j hj)
    rw [add_off, Nat.zero_add] at this
    exact this
theorem code_row {w : World} {cv : Value} {L : List Int} (h : w.ownsRow 0 33 1 cv L.length (cells L)) {j : Nat} (hj : j < L.length) : ∃ b c, cv = .slice (some ⟨b, 0, none⟩) L.length c ∧ ∀ i, i < L.length → w.cell? ⟨b, i, none⟩ = some (.int .i64 (L.getD i 0)) := by
  rcases Go.Joins.ownsRow_forms h with ⟨_, h0⟩ | ⟨b, c, rfl⟩
  · omega
  · refine ⟨b, c, rfl, fun i hi => ?_⟩
    have := h.cells (g := b) rfl i _ (cells_get L i hi)
    rw [add_off, Nat.zero_add] at this
    exact this
theorem and255 (y : Int) : bits .and .i64 y 255 % 256 = y % 256 := by
  have h1 : bits .and .i64 y 255 = IntKind.i64.wrap (((BitVec.ofInt 64 y &&& BitVec.ofInt 64 255).toNat : Nat) : Int) := rfl
  have h2 : (BitVec.ofInt 64 y &&& BitVec.ofInt 64 255).toNat = (y % 18446744073709551616).toNat % 256 := by
    rw [BitVec.toNat_and, BitVec.toNat_ofInt, BitVec.toNat_ofInt]
    have : ((255 : Int) % ((2 ^ 64 : Nat) : Int)).toNat = 2 ^ 8 - 1 := by decide
    rw [this, Nat.and_two_pow_sub_one_eq_mod]
    rfl
  rw [h1, h2, IntKind.wrap_i64]
  omega
section
variable {w : World} {g : Nat} {p : Lay} {F : List Nat} {m : M}
set_option maxHeartbeats 1000000 in
theorem begin_sem (h : EngAt w g p F m) (hf : Fine m) (n : Int) (h1 : 1 ≤ n) (h2 : n ≤ m.ends.length) : Calls Tryz.prog 74 #[.pointer (some ⟨g, 0, none⟩), .int .i64 n] w fun e w' => e = .returned (.int .i64 (m.begin_ n)) ∧ w' = w := by
  obtain ⟨cv, ev, wv, Ff, FS, FI, h, rfl⟩ := h
  by_cases hn : n = 1
  · subst hn
    unfold M.begin_
    rw [if_pos rfl]
    clear h hf h1 h2
    go_enter Tryz.func74, Tryz.ntmps74
    go_wp2_with fail
    go_ret
    exact ⟨rfl, rfl⟩
  · obtain ⟨k, rfl⟩ : ∃ k : Nat, n = k + 2 := ⟨(n - 2).toNat, by omega⟩
    have c1 := h.blk.cell 1
    obtain ⟨b, c, rfl, hc⟩ := int_row h.ends (j := k) (by omega)
    have hne : ((k : Int) + 2 == 1) = false := by simpa using hn
    have e1 : m.begin_ ((k : Int) + 2) = (m.ends.getD k 0).toNat := by
      unfold M.begin_
      rw [if_neg hn, show ((k : Int) + 2 - 2).toNat = k by omega]
    have hin := hf.ends (m.ends.getD k 0) (by rw [List.getD_eq_getElem?_getD, List.getElem?_eq_getElem (show k < m.ends.length by omega)]; exact List.getElem_mem _)
    have hx : ((m.begin_ ((k : Int) + 2) : Nat) : Int) = m.ends.getD k 0 := by rw [e1]; omega
    rw [hx]
    have hle := hf.elen
    obtain ⟨len, hlen⟩ : ∃ len, m.ends.length = len := ⟨_, rfl⟩
    rw [hlen] at c1 h2 hle
    obtain ⟨x, hxx⟩ : ∃ x, m.ends.getD k 0 = x := ⟨_, rfl⟩
    rw [hxx] at hc ⊢
    have hk2 : (k : Int) + 2 ≤ len := h2
    have ew : IntKind.i64.wrap ((k : Int) + 2 - 2) = k := by rw [IntKind.wrap_i64]; omega
    have e0 : (0 : Int) ≤ k := by omega
    have ek : (k : Int) < len := by omega
    have hEW := ew
    clear h hf h1 h2 e1 hin hx hlen hxx hn
    go_enter Tryz.func74, Tryz.ntmps74
    go_wp2_with fail
    go_ret
    exact ⟨rfl, rfl⟩
set_option maxRecDepth 100000 in
set_option maxHeartbeats 3200000 in
theorem at_yes (h0 : EngAt w g p F m) (hf : Fine m) (k i : Nat) (hk : k < m.ends.length) (q : Int) (hq : q = (m.ends.getD k 0 - m.begin_ ((k : Int) + 1)).tdiv 2) (hi : (i : Int) < q) : Calls Tryz.prog 47 #[.pointer (some ⟨g, 0, none⟩), .int .i64 ((k : Int) + 1), .int .i64 i] w fun e w' => e = .returned (.tuple #[.agg #[.int .u8 ((m.code.getD (m.begin_ ((k : Int) + 1) + 2 * i) 0) % 256), .int .i64 ((m.code.getD (m.begin_ ((k : Int) + 1) + 2 * i) 0) / 256), .int .i64 (m.code.getD (m.begin_ ((k : Int) + 1) + 2 * i + 1) 0)], .bool true]) ∧ Touch [] w w' := by
  have tZ := (Touch.refl [] w).alloc (.cells #[.int .u8 0, .int .i64 0, .int .i64 0] 56)
  have hE := h0.touch tZ (by simp)
  have bZ := Blk.new w 56 #[.int .u8 0, .int .i64 0, .int .i64 0]
  obtain ⟨z, hz⟩ : ∃ z, w.heap.size = z := ⟨_, rfl⟩
  have HLo := Lib.hid (show w.heap.size ≤ z by omega)
  rw [hz] at bZ
  have hBt := fun W (t : Touch [] (w.alloc (.cells #[.int .u8 0, .int .i64 0, .int .i64 0] 56)) W) => begin_sem (hE.touch t (by simp)) hf ((k : Int) + 1) (by omega) (by omega)
  have hB := fun n => begin_sem (hE.touch ((Touch.refl [] _).drewN n) (by simp)) hf ((k : Int) + 1) (by omega) (by omega)
  obtain ⟨cv, ev, wv, Ff, FS, FI, h, rfl⟩ := hE
  obtain ⟨b, c, rfl, hc⟩ := int_row h.ends hk
  have c0 := h.blk.cell 0
  have c1 := h.blk.cell 1
  simp only [List.getElem?_toArray, List.getElem?_cons_succ, List.getElem?_cons_zero] at c0 c1
  have hin := hf.ends (m.ends.getD k 0) (by rw [List.getD_eq_getElem?_getD, List.getElem?_eq_getElem hk]; exact List.getElem_mem _)
  have hcl := hf.code
  have hle := hf.elen
  have hbl : m.begin_ ((k : Int) + 1) ≤ 10000000 := by
    unfold M.begin_
    split
    · omega
    · rcases Nat.lt_or_ge (((k : Int) + 1) - 2).toNat m.ends.length with hlt | hge
      · have := hf.ends (m.ends.getD (((k : Int) + 1) - 2).toNat 0) (by rw [List.getD_eq_getElem?_getD, List.getElem?_eq_getElem hlt]; exact List.getElem_mem _)
        omega
      · rw [List.getD_eq_getElem?_getD, List.getElem?_eq_none hge]; decide
  obtain ⟨bg, hbg⟩ : ∃ bg, m.begin_ ((k : Int) + 1) = bg := ⟨_, rfl⟩
  rw [hbg] at hBt hB hq hbl ⊢
  obtain ⟨x, hx⟩ : ∃ x, m.ends.getD k 0 = x := ⟨_, rfl⟩
  rw [hx] at hc hin hq
  have hroom : bg + 2 * i + 2 ≤ m.code.length := by
    have h1 : (x - bg).tdiv 2 = (x - bg) / 2 ∨ x - bg < 0 := by
      rcases Int.lt_or_le (x - bg) 0 with h | h
      · exact .inr h
      · exact .inl (Int.tdiv_eq_ediv_of_nonneg h)
    rcases h1 with h1 | h1
    · omega
    · have : (x - (bg : Int)).tdiv 2 ≤ 0 := by rw [show x - (bg : Int) = -(bg - x) by omega, Int.neg_tdiv, Int.tdiv_eq_ediv_of_nonneg (by omega)]; omega
      omega
  obtain ⟨cb, cc, rfl, hcode⟩ := code_row h.code (j := 0) (by omega)
  have hcap := row_cap h.code
  have i0 := hcode (bg + 2 * i) (by omega)
  have i1 := hcode (bg + 2 * i + 1) (by omega)
  have hxb : (0 : Int) ≤ x ∧ x ≤ 10000000 := by omega
  obtain ⟨len, hlen⟩ : ∃ len, m.ends.length = len := ⟨_, rfl⟩
  rw [hlen] at c1 hk hle
  obtain ⟨cl, hcle⟩ : ∃ cl, m.code.length = cl := ⟨_, rfl⟩
  rw [hcle] at c0 hroom hcap hcl
  obtain ⟨y, hy⟩ : ∃ y, m.code.getD (bg + 2 * i) 0 = y := ⟨_, rfl⟩
  obtain ⟨y', hy'⟩ : ∃ y', m.code.getD (bg + 2 * i + 1) 0 = y' := ⟨_, rfl⟩
  rw [hy] at i0 ⊢
  rw [hy'] at i1 ⊢
  have d1 : decide ((k : Int) + 1 < 1) = false := by simp; omega
  have d2 : decide ((k : Int) + 1 > (len : Int)) = false := by simp; omega
  have d3 : decide ((i : Int) < 0) = false := by simp
  have e1 : IntKind.i64.wrap ((k : Int) + 1 - 1) = k := by rw [IntKind.wrap_i64]; omega
  have e2 : decide (wrap64 ((wrap64 (x - bg)).tdiv 2) ≤ (i : Int)) = false := by
    have w1 : wrap64 (x - bg) = x - bg := by unfold wrap64; omega
    have w2 : wrap64 ((x - bg).tdiv 2) = (x - (bg : Int)).tdiv 2 := by
      have h1 : (x - (bg : Int)).tdiv 2 ≤ 100000000 ∧ -100000000 ≤ (x - (bg : Int)).tdiv 2 := by
        rcases Int.lt_or_le (x - bg) 0 with h | h
        · rw [show x - (bg : Int) = -(bg - x) by omega, Int.neg_tdiv, Int.tdiv_eq_ediv_of_nonneg (by omega)]; omega
        · rw [Int.tdiv_eq_ediv_of_nonneg h]; omega
      unfold wrap64; omega
    rw [w1, w2]
    simp
    omega
  have e3 : decide ((x - (bg : Int)).tdiv 2 ≤ (i : Int)) = false := by simp; omega
  obtain ⟨o, ho⟩ : ∃ o, bg + 2 * i = o := ⟨_, rfl⟩
  have s1 : IntKind.i64.wrap ((bg : Int) + IntKind.i64.wrap (2 * (i : Int))) = (o : Int) := by
    have h2 : IntKind.i64.wrap (2 * (i : Int)) = 2 * i := by rw [IntKind.wrap_i64]; omega
    rw [h2, IntKind.wrap_i64]
    omega
  rw [ho] at i0 i1 hroom
  have hne : ¬ cc = o := by omega
  have hl1 : (o : Int) ≤ (cl : Int) := by omega
  have hl2 : 2 ≤ cc - o := by omega
  have hl3 : (2 : Int) ≤ ((cc - o : Nat) : Int) := by omega
  have harr : ∀ w : World, (Instr.arrayAt 139 (.slice (some ⟨cb, o, none⟩) 2 (cc - o))).run Tryz.prog w = .ok (.pointer (some ⟨cb, o, none⟩)) w := fun _ => rfl
  have HQ := Lib.hid (And.intro hq (And.intro hi (And.intro hin ho)))
  clear h hf hbg hx hlen h0 hcode hy hy' hcle hq hi hin ho
  go_enter Tryz.func47, Tryz.ntmps47
  go_upto_region 1 with fail
  clear hz
  generalize w.alloc (.cells #[.int .u8 0, .int .i64 0, .int .i64 0] 56) = W0 at *
  go_quiet ((go_at_call 74; exact Calls.quiet_of_same (hB _)))
  have tW := (Touch.refl [] W0).drewN nq
  have tZ := tZ.drewN nq
  have bZ := bZ.drewN nq
  have c0 : (W0.drewN nq).cell? ⟨g, 0, none⟩ = _ := c0
  have i0 : (W0.drewN nq).cell? ⟨cb, o, none⟩ = _ := i0
  have i1 : (W0.drewN nq).cell? ⟨cb, o + 1, none⟩ = _ := i1
  change Exit.then _ _ Exit.normal _ (W0.drewN nq)
  clear hB hc c1
  generalize W0.drewN nq = W1 at *
  have tA := tW.drew
  have tB := fun ob => (tW.alloc ob).drew
  have A0 := fun ob => cell_quiet ((Touch.refl [] W1).alloc ob) c0
  have A1 := fun ob => cell_quiet ((Touch.refl [] W1).alloc ob) i0
  have A2 := fun ob => cell_quiet ((Touch.refl [] W1).alloc ob) i1
  have HZ := Lib.hid (And.intro tZ bZ)
  have HBT := Lib.hid hBt
  have HTA := Lib.hid tA
  have HTB := Lib.hid tB
  clear tW tZ bZ hBt tA tB
  go_upto_region 3 with fail
  go_region_law (first
    | (go_simp; go_at_call 74; refine Calls.mono (HBT.out _ (by first | with_reducible exact HTA.out | with_reducible exact HTB.out _)) ?_; rintro _ _ ⟨rfl, rfl⟩))
  all_goals (change Exit.then _ _ Exit.normal _ (W1.alloc (.cells #[.int .i64 y, .int .i64 y'] 139)).drew)
  all_goals clear c0 A0 A1 A2 i0 i1 e1 e2 e3 s1 harr d1 d2 d3 hne hl1 hl2 hl3
  all_goals have t2 := ((Touch.refl [] W1).alloc (.cells #[.int .i64 y, .int .i64 y'] 139)).drew
  all_goals have bQ := (Blk.new W1 139 #[.int .i64 y, .int .i64 y']).drew
  all_goals have bZ := HZ.out.2.touch t2 (by simp)
  all_goals have tZ := HZ.out.1.trans t2 (by simp)
  all_goals generalize (W1.alloc (.cells #[.int .i64 y, .int .i64 y'] 139)).drew = W2 at *
  all_goals generalize W1.heap.size = q2 at *
  all_goals have j0 := bQ.cell 0
  all_goals have j1 := bQ.cell 1
  all_goals have z0 := bZ.cell 0
  all_goals have z1 := bZ.cell 1
  all_goals have z2 := bZ.cell 2
  all_goals have f0 := bZ.frozen 0
  all_goals have f1 := bZ.frozen 1
  all_goals have f2 := bZ.frozen 2
  all_goals go_wp2_with fail
  all_goals have bS := bZ.three (.int .u8 (bits .and .i64 y 255 % 256)) (.int .i64 (y / 256)) (.int .i64 y')
  all_goals have r0 := bS.cell 0
  all_goals have r1 := bS.cell 1
  all_goals have r2 := bS.cell 2
  all_goals refine bodyPost_ret (by simp [results, Tryz.results47, go_sem, r0, r1, r2]; try rfl) rfl ?_
  all_goals exact ⟨by simp only [and255], ((tZ.setCell (.inr HLo.out) _).setCell (.inr HLo.out) _).setCell (.inr HLo.out) _⟩
set_option maxRecDepth 100000 in
set_option maxHeartbeats 3200000 in
theorem at_no (h0 : EngAt w g p F m) (hf : Fine m) (n i : Int) (hno : m.at_ n i = none) : Calls Tryz.prog 47 #[.pointer (some ⟨g, 0, none⟩), .int .i64 n, .int .i64 i] w fun e w' => e = .returned (.tuple #[.agg #[.int .u8 0, .int .i64 0, .int .i64 0], .bool false]) ∧ Touch [] w w' := by
  have tZ := (Touch.refl [] w).alloc (.cells #[.int .u8 0, .int .i64 0, .int .i64 0] 56)
  have hE := h0.touch tZ (by simp)
  have bZ := Blk.new w 56 #[.int .u8 0, .int .i64 0, .int .i64 0]
  obtain ⟨z, hz⟩ : ∃ z, w.heap.size = z := ⟨_, rfl⟩
  have HLo := Lib.hid (show w.heap.size ≤ z by omega)
  rw [hz] at bZ
  have hno : n < 1 ∨ (m.ends.length : Int) < n ∨ i < 0 ∨ ((m.ends.getD (n - 1).toNat 0) - m.begin_ n).tdiv 2 ≤ i := by
    unfold M.at_ at hno
    by_cases hc : n < 1 ∨ (m.ends.length : Int) < n ∨ i < 0 ∨ ((m.ends.getD (n - 1).toNat 0) - m.begin_ n).tdiv 2 ≤ i
    · exact hc
    · rw [if_neg hc] at hno; cases hno
  have hBt := fun (h1 : 1 ≤ n) (h2 : n ≤ m.ends.length) W (t : Touch [] (w.alloc (.cells #[.int .u8 0, .int .i64 0, .int .i64 0] 56)) W) => begin_sem (hE.touch t (by simp)) hf n h1 h2
  have hle := hf.elen
  obtain ⟨cv, ev, wv, Ff, FS, FI, h, rfl⟩ := hE
  have c1 := h.blk.cell 1
  obtain ⟨ea, ec, hev⟩ := row_value h.ends
  rw [hev] at c1
  simp only [List.getElem?_toArray, List.getElem?_cons_succ, List.getElem?_cons_zero] at c1
  by_cases h1 : n < 1
  · have d1 : decide (n < 1) = true := by simpa using h1
    clear h hf h0 hBt hno hev c1 h1
    go_enter Tryz.func47, Tryz.ntmps47
    go_upto_region 1 with fail
    clear hz
    generalize w.alloc (.cells #[.int .u8 0, .int .i64 0, .int .i64 0] 56) = W0 at *
    go_quiet (fail)
    have tZ := tZ.drewN nq
    have bZ := bZ.drewN nq
    change Exit.then _ _ Exit.normal _ (W0.drewN nq)
    generalize W0.drewN nq = W1 at *
    have z0 := bZ.cell 0
    have z1 := bZ.cell 1
    have z2 := bZ.cell 2
    have f0 := bZ.frozen 0
    have f1 := bZ.frozen 1
    have f2 := bZ.frozen 2
    go_wp2_with fail
    have bS := bZ.three (.int .u8 0) (.int .i64 0) (.int .i64 0)
    have r0 := bS.cell 0
    have r1 := bS.cell 1
    have r2 := bS.cell 2
    refine bodyPost_ret (by simp [results, Tryz.results47, go_sem, r0, r1, r2]; try rfl) rfl ?_
    exact ⟨rfl, ((tZ.setCell (.inr HLo.out) _).setCell (.inr HLo.out) _).setCell (.inr HLo.out) _⟩
  obtain ⟨len, hlen⟩ : ∃ len, m.ends.length = len := ⟨_, rfl⟩
  rw [hlen] at c1 hle
  have d1 : decide (n < 1) = false := by simpa using h1
  by_cases h2 : (len : Int) < n
  · have d2 : decide (n > (len : Int)) = true := by simpa using h2
    clear h hf h0 hBt hno hev h1 h2 hlen
    go_enter Tryz.func47, Tryz.ntmps47
    go_upto_region 1 with fail
    clear hz
    generalize w.alloc (.cells #[.int .u8 0, .int .i64 0, .int .i64 0] 56) = W0 at *
    go_quiet (fail)
    have tZ := tZ.drewN nq
    have bZ := bZ.drewN nq
    change Exit.then _ _ Exit.normal _ (W0.drewN nq)
    generalize W0.drewN nq = W1 at *
    have z0 := bZ.cell 0
    have z1 := bZ.cell 1
    have z2 := bZ.cell 2
    have f0 := bZ.frozen 0
    have f1 := bZ.frozen 1
    have f2 := bZ.frozen 2
    go_wp2_with fail
    have bS := bZ.three (.int .u8 0) (.int .i64 0) (.int .i64 0)
    have r0 := bS.cell 0
    have r1 := bS.cell 1
    have r2 := bS.cell 2
    refine bodyPost_ret (by simp [results, Tryz.results47, go_sem, r0, r1, r2]; try rfl) rfl ?_
    exact ⟨rfl, ((tZ.setCell (.inr HLo.out) _).setCell (.inr HLo.out) _).setCell (.inr HLo.out) _⟩
  have d2 : decide (n > (len : Int)) = false := by simpa using h2
  by_cases h3 : i < 0
  · have d3 : decide (i < 0) = true := by simpa using h3
    clear h hf h0 hBt hno hev h1 h2 hlen h3
    go_enter Tryz.func47, Tryz.ntmps47
    go_upto_region 1 with fail
    clear hz
    generalize w.alloc (.cells #[.int .u8 0, .int .i64 0, .int .i64 0] 56) = W0 at *
    go_quiet (fail)
    have tZ := tZ.drewN nq
    have bZ := bZ.drewN nq
    change Exit.then _ _ Exit.normal _ (W0.drewN nq)
    generalize W0.drewN nq = W1 at *
    have z0 := bZ.cell 0
    have z1 := bZ.cell 1
    have z2 := bZ.cell 2
    have f0 := bZ.frozen 0
    have f1 := bZ.frozen 1
    have f2 := bZ.frozen 2
    go_wp2_with fail
    have bS := bZ.three (.int .u8 0) (.int .i64 0) (.int .i64 0)
    have r0 := bS.cell 0
    have r1 := bS.cell 1
    have r2 := bS.cell 2
    refine bodyPost_ret (by simp [results, Tryz.results47, go_sem, r0, r1, r2]; try rfl) rfl ?_
    exact ⟨rfl, ((tZ.setCell (.inr HLo.out) _).setCell (.inr HLo.out) _).setCell (.inr HLo.out) _⟩
  have d3 : decide (i < 0) = false := by simpa using h3
  have hq : ((m.ends.getD (n - 1).toNat 0) - m.begin_ n).tdiv 2 ≤ i := by
    rcases hno with h | h | h | h
    · exact absurd h h1
    · rw [hlen] at h; exact absurd h h2
    · exact absurd h h3
    · exact h
  have hBt := hBt (by omega) (by rw [hlen]; omega)
  obtain ⟨k, rfl⟩ : ∃ k : Nat, n = (k : Int) + 1 := ⟨(n - 1).toNat, by omega⟩
  have hk : k < m.ends.length := by omega
  obtain ⟨b, c, rfl, hc⟩ := int_row h.ends hk
  injection hev with hev1 _ hev3
  subst hev1
  have hin := hf.ends (m.ends.getD k 0) (by rw [List.getD_eq_getElem?_getD, List.getElem?_eq_getElem hk]; exact List.getElem_mem _)
  have hcl := hf.code
  have hbl : m.begin_ ((k : Int) + 1) ≤ 10000000 := by
    unfold M.begin_
    split
    · omega
    · rcases Nat.lt_or_ge (((k : Int) + 1) - 2).toNat m.ends.length with hlt | hge
      · have := hf.ends (m.ends.getD (((k : Int) + 1) - 2).toNat 0) (by rw [List.getD_eq_getElem?_getD, List.getElem?_eq_getElem hlt]; exact List.getElem_mem _)
        omega
      · rw [List.getD_eq_getElem?_getD, List.getElem?_eq_none hge]; decide
  rw [show ((k : Int) + 1 - 1).toNat = k by omega] at hq
  obtain ⟨bg, hbg⟩ : ∃ bg, m.begin_ ((k : Int) + 1) = bg := ⟨_, rfl⟩
  rw [hbg] at hBt hq hbl
  obtain ⟨x, hx⟩ : ∃ x, m.ends.getD k 0 = x := ⟨_, rfl⟩
  rw [hx] at hc hin hq
  have hxb : (0 : Int) ≤ x ∧ x ≤ 10000000 := by omega
  rw [hlen] at hk
  have e1 : IntKind.i64.wrap ((k : Int) + 1 - 1) = k := by rw [IntKind.wrap_i64]; omega
  have e2 : decide (wrap64 ((wrap64 (x - bg)).tdiv 2) ≤ i) = true := by
    have w1 : wrap64 (x - bg) = x - bg := by unfold wrap64; omega
    have w2 : wrap64 ((x - bg).tdiv 2) = (x - (bg : Int)).tdiv 2 := by
      have h1 : (x - (bg : Int)).tdiv 2 ≤ 100000000 ∧ -100000000 ≤ (x - (bg : Int)).tdiv 2 := by
        rcases Int.lt_or_le (x - bg) 0 with h | h
        · rw [show x - (bg : Int) = -(bg - x) by omega, Int.neg_tdiv, Int.tdiv_eq_ediv_of_nonneg (by omega)]; omega
        · rw [Int.tdiv_eq_ediv_of_nonneg h]; omega
      unfold wrap64; omega
    rw [w1, w2]
    simpa using hq
  have e3 : decide ((x - (bg : Int)).tdiv 2 ≤ i) = true := by simpa using hq
  have hB := fun n => hBt _ ((Touch.refl [] _).drewN n)
  clear h hf h0 hBt hno h1 h2 hlen h3 hbg hx hq hin hev3
  go_enter Tryz.func47, Tryz.ntmps47
  go_upto_region 1 with fail
  clear hz
  generalize w.alloc (.cells #[.int .u8 0, .int .i64 0, .int .i64 0] 56) = W0 at *
  go_quiet ((go_at_call 74; exact Calls.quiet_of_same (hB _)))
  have tZ := tZ.drewN nq
  have bZ := bZ.drewN nq
  change Exit.then _ _ Exit.normal _ (W0.drewN nq)
  generalize W0.drewN nq = W1 at *
  have z0 := bZ.cell 0
  have z1 := bZ.cell 1
  have z2 := bZ.cell 2
  have f0 := bZ.frozen 0
  have f1 := bZ.frozen 1
  have f2 := bZ.frozen 2
  go_wp2_with fail
  have bS := bZ.three (.int .u8 0) (.int .i64 0) (.int .i64 0)
  have r0 := bS.cell 0
  have r1 := bS.cell 1
  have r2 := bS.cell 2
  refine bodyPost_ret (by simp [results, Tryz.results47, go_sem, r0, r1, r2]; try rfl) rfl ?_
  exact ⟨rfl, ((tZ.setCell (.inr HLo.out) _).setCell (.inr HLo.out) _).setCell (.inr HLo.out) _⟩
end
end En
end Go.Proofs.YtdokeddjcpnmiaaGreatDoor
