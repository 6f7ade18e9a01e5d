/- RecogOrder: the walk. -/
import Derived.Test.YtgdmiodcfdcihaaGreatDoorSix
import Derived.Test.YtgdmiodcfdcihaaGreatDoorFilled
namespace Go.Proofs.YtgdmiodcfdcihaaGreatDoor
open Go.RowKit

theorem info_int9 : (Tryz.prog.info? 3).map (fun i => (i.zero, i.size, i.bytes)) = some (some (.int .i64 0), 1, 8) := by kernel_rfl

theorem Strs.quiet {w w' : World} {v : Value} {ss : List ByteArray} (h : Strs w v ss) (t : Touch [] w w') : Strs w' v ss := by
  refine ⟨?_, h.size⟩
  rcases h.form with h | h | ⟨b, off, cap, e, hb, h1, h2, hc⟩
  · exact .inl h
  · exact .inr (.inl h)
  · exact .inr (.inr ⟨b, off, cap, e, Nat.lt_of_lt_of_le hb t.size, h1, h2, fun i hi => (t.cell (p := ⟨b, off + i, none⟩) hb (by simp)).trans (hc i hi)⟩)

/-- bytes that came in -/
def Bytes8 (w : World) (a : Option Addr) (l : List Int) : Prop := ∀ j (_ : j < l.length), ∃ g off, a = some ⟨g, off, none⟩ ∧ g < w.heap.size ∧ w.cell? ⟨g, off + j, none⟩ = some (.int .u8 (l.getD j 0)) ∧ 0 ≤ l.getD j 0 ∧ l.getD j 0 ≤ 255
theorem Bytes8.quiet {w w' : World} {a : Option Addr} {l : List Int} (h : Bytes8 w a l) (t : Touch [] w w') : Bytes8 w' a l := fun j hj => by
  obtain ⟨g, off, ha, hg, hc, hr⟩ := h j hj
  exact ⟨g, off, ha, Nat.lt_of_lt_of_le hg t.size, (t.cell (p := ⟨g, off + j, none⟩) hg (by simp)).trans hc, hr⟩

/-- the recognizers that are asked -/
def ordF (l : List Int) : List Int := (l.take 8).map fun x => -1 - x.tmod 6
theorem ordF_len (l : List Int) : (ordF l).length ≤ 8 := by unfold ordF; simp; omega
theorem ord_mem {x : Int} (h0 : 0 ≤ x) : -1 - x.tmod 6 ∈ firstL := by
  have h1 := Int.tmod_nonneg (a := x) 6 h0
  have h2 := Int.tmod_lt_of_pos x (b := 6) (by omega)
  simp only [firstL, List.mem_cons, List.not_mem_nil, or_false]
  omega
theorem ordF_take (l : List Int) (k : Nat) (hk : k < l.length) (h8 : k < 8) : ordF (l.take (k + 1)) = ordF (l.take k) ++ [-1 - (l.getD k 0).tmod 6] := by
  unfold ordF
  rw [List.take_take, List.take_take, Nat.min_eq_right (by omega), Nat.min_eq_right (by omega), List.take_succ_eq_append_getElem hk, List.map_append]
  simp [List.getD_eq_getElem?_getD, List.getElem?_eq_getElem hk]
theorem ordF_full (l : List Int) (k : Nat) (h8 : ¬ k < 8) : ordF (l.take (k + 1)) = ordF (l.take k) := by
  unfold ordF
  rw [List.take_take, List.take_take, Nat.min_eq_left (by omega), Nat.min_eq_left (by omega)]

theorem first_neg {k : Int} (h : k ∈ firstL) : k ≤ 0 := by
  simp only [firstL, List.mem_cons, List.not_mem_nil, or_false] at h
  omega
/-- what is told of all: of each place ahead of it nothing; at it what is told there; or nothing at all -/
theorem all_at (K : Int → KnownV) : ∀ (l : List Int), (∀ k, k ∈ l → k ≤ 0) →
    (∀ j, j < (allF K l).2 → (K (l.getD j 0)).kind = 0) ∧ (allF K l).2 ≤ l.length ∧
    ((allF K l).2 = l.length → (allF K l).1 = KnownV.none) ∧ ((allF K l).2 < l.length → (allF K l).1 = K (l.getD (allF K l).2 0) ∧ (K (l.getD (allF K l).2 0)).kind ≠ 0)
  | [], _ => ⟨fun j hj => absurd hj (Nat.not_lt_zero _), Nat.le_refl _, fun _ => rfl, fun h => absurd h (Nat.not_lt_zero _)⟩
  | k :: r, h => by
    obtain ⟨h1, h2, h3, h4⟩ := all_at K r fun q hq => h q (List.mem_cons_of_mem _ hq)
    have hk := h k (by simp)
    rw [allF, if_neg (by omega)]
    by_cases hz : (K k).kind = 0
    · rw [if_pos hz]
      refine ⟨?_, by simp only [List.length_cons]; omega, fun he => h3 (by simpa using he), fun he => ?_⟩
      · intro j hj
        cases j with
        | zero => exact hz
        | succ j => exact h1 j (by simp only at hj; omega)
      · exact h4 (by simpa using he)
    · rw [if_neg hz]
      refine ⟨fun j hj => absurd hj (Nat.not_lt_zero _), by simp, fun he => ?_, fun _ => ⟨rfl, hz⟩⟩
      simp at he

theorem may_first (l : List Int) (h8 : l.length ≤ 8) (h : ∀ k, k ∈ l → k ∈ firstL) : mayF l 0 = true := by
  have hany : l.any (badI 0) = false := by
    rw [List.any_eq_false]
    intro k hk
    have := h k hk
    simp only [firstL, List.mem_cons, List.not_mem_nil, or_false] at this
    rcases this with rfl | rfl | rfl | rfl | rfl | rfl <;> decide
  unfold mayF
  rw [hany, decide_eq_true h8]
  rfl

set_option maxRecDepth 100000 in
set_option maxHeartbeats 6400000 in
theorem RecogOrder_walk (s : ByteArray) (hs : s.size ≤ maxLen) (W : World) (v1 : Value) (ss1 : List ByteArray) (hS1 : Strs W v1 ss1) (v2 : Value) (ss2 : List ByteArray) (hS2 : Strs W v2 ss2) (l : List Int) (hll : l.length ≤ maxLen) (a : Option Addr) (c : Nat) (hB : Bytes8 W a l) (hT : Tabs W) :
    Calls Tryz.prog 5 #[.string s, v1, v2, .slice a l.length c] W fun e w' => e = .returned (.bool true) ∧ Touch [] W w' := by
  unfold maxLen at hs hll
  have HT := Lib.hid hT
  have HBy := Lib.hid hB
  clear hT hB
  have hfl := fun w' (u : Touch [] W w') => filled_any w' v1 ss1 (fun w2 t => hS1.quiet (u.trans t (by simp)))
  have hnm := fun w' (u : Touch [] W w') => names_any w' v2 ss2 (hS2.quiet u)
  obtain ⟨zs, hzs⟩ : ∃ zs, namesF ss2 = zs := ⟨_, rfl⟩
  have hz12 : zs.length ≤ 12 := by rw [← hzs]; unfold namesF; simp; omega
  obtain ⟨H, hH⟩ : ∃ H, fillL (namesF ss1) (namesF ss1).length = H := ⟨_, rfl⟩
  simp only [hzs] at hnm
  simp only [hH] at hfl
  clear hzs hH hS1 hS2
  have hT200 : (s.extract 0 (min (s.size : Int) 200).toNat).size ≤ 200 := by rw [ByteArray.size_extract]; omega
  obtain ⟨fv, fb, hF⟩ := Number_all _ hT200
  obtain ⟨T, hT⟩ : ∃ T, s.extract 0 (min (s.size : Int) 200).toNat = T := ⟨_, rfl⟩
  rw [hT] at hF hT200
  have HTs := Lib.hid hT
  have HF := Lib.hid hF
  clear hT hF
  obtain ⟨i0, hi, hz0, hz1, hz2⟩ := info_parts info_int9
  go_enter Tryz.func5, Tryz.ntmps5
  go_wp2_with fail
  refine (shown_any _).mono ?_
  rintro _ w1 ⟨rfl, t1⟩
  go_wp2_with fail
  refine (hfl w1 t1).mono ?_
  rintro _ w2 ⟨D, R, F, G, rfl, hd, _, _, _, t2⟩
  have tw := t1.trans t2 (by simp)
  clear t1 t2 hfl
  go_upto_region 3 with (fail)
  go_cut [12, 13] from 22 (fun s12 s13 wx => Touch [] w2 wx ∧ s12 = .string T ∧ wx.ownsRow w2.heap.size 9 1 s13 zs.length (zs.map fun z => .string z.1))
  case first =>
    have HNm : Hid (∀ w', Touch [] w2 w' → Calls _ _ _ w' _) := fun w' t => hnm w' (tw.trans t (by simp))
    clear hnm
    go_region_with (first | (go_at_call 16; (refine (HNm.out _ (Touch.refl [] w2).drew).mono ?_); rintro _ w3 ⟨u, rfl, hr, t3⟩))
    all_goals go_wp2_with fail
    all_goals go_meet
    all_goals exact ⟨t3.of_drew, congrArg Value.string HTs.out, hr⟩
  case rest =>
    obtain ⟨t3, rfl, hr⟩ := hcut
    have tw := tw.trans t3 (by simp)
    have hd := hd.quiet t3
    obtain ⟨b, cap, rfl, hlc⟩ : ∃ b cap, u13 = .slice b zs.length cap ∧ (zs = [] ∨ ∃ g, b = some ⟨g, 0, none⟩ ∧ g < wc.heap.size ∧ ∀ j, j < zs.length → wc.cell? ⟨g, 0 + j, none⟩ = some (.string (zs.getD j Small.nil).1)) := by
      by_cases hz0 : zs.length = 0
      · obtain rfl : zs = [] := List.eq_nil_of_length_eq_zero hz0
        rcases hr.2 with ⟨rfl, h0⟩ | ⟨g, cap, cur, h1, _⟩
        · exact ⟨none, 0, rfl, .inl rfl⟩
        · exact ⟨_, cap, h1, .inl rfl⟩
      · obtain ⟨g, cap, rfl, hb, hg, hc⟩ := row_form hr hz0
        exact ⟨_, cap, rfl, .inr ⟨g, rfl, hg, hc⟩⟩
    have gv : ∀ w', Touch [] wc w' → GivenR w' T D F H 10 b cap zs := fun w' t =>
      ⟨⟨hT200, hd.quiet t, by omega, by omega, ⟨b, cap, rfl, by
        rcases hlc with h | ⟨g, h1, h2, h3⟩
        · exact .inl h
        · exact .inr ⟨g, 0, h1, Nat.lt_of_lt_of_le h2 t.size, fun j hj => (t.cell (p := ⟨g, 0 + j, none⟩) h2 (by simp)).trans (h3 j hj)⟩⟩, by omega⟩, HT.out.touch (tw.trans t (by simp))⟩
    have HG := Lib.hid gv
    clear gv hd hr hlc t3 hnm HTs
    go_wp2_with fail
    go_loopw [37, 14] (fun i out wr => ∃ k : Nat, k ≤ l.length ∧ i = .int .i64 k ∧ wr.ownsRow wc.heap.size 3 1 out (ordF (l.take k)).length ((ordF (l.take k)).map (.int .i64)) ∧ Touch [] wc wr) (fun i _ _ => l.length - (intOf i).toNat)
    case atStart => exact ⟨0, Nat.zero_le _, rfl, World.ownsRow_nil _ _ _ _, Touch.refl _ _⟩
    case round =>
      obtain ⟨k, hk, rfl, hr, tr⟩ := hrel
      by_cases hlt : k < l.length
      · obtain ⟨g, off, rfl, hg, hc, hx0, hx1⟩ := (HBy.out.quiet (tw.trans tr (by simp))) k hlt
        have hszw := tr.size
        by_cases h8 : k < 8
        · have hnext := ordF_take l k hlt h8
          have hl8 := ordF_len (l.take k)
          obtain ⟨x, hx⟩ : ∃ x, l.getD k 0 = x := ⟨_, rfl⟩
          rw [hx] at hc hx0 hx1 hnext
          obtain ⟨L, hL⟩ : ∃ L, ordF (l.take k) = L := ⟨_, rfl⟩
          rw [hL] at hr hnext hl8
          have hq0 := Int.tmod_nonneg (a := x) 6 hx0
          have hq5 := Int.tmod_lt_of_pos x (b := 6) (by omega)
          obtain ⟨q, hq⟩ : ∃ q, x.tmod 6 = q := ⟨_, rfl⟩
          rw [hq] at hnext hq0 hq5
          have HNx := Lib.hid hnext
          obtain ⟨n, hn⟩ : ∃ n, L.length = n := ⟨_, rfl⟩
          rw [hn] at hr hl8
          have HLn := Lib.hid hn
          obtain ⟨M, hM⟩ : ∃ M : List Value, L.map (.int .i64) = M := ⟨_, rfl⟩
          rw [hM] at hr
          have HMM := Lib.hid hM
          clear hx hL hnext hn hM
          go_wp2_with (at_builtin; refine wpList_append_own_at _ rfl (.tmp 44) (.tmp 49) 42 rfl wc.heap.size 3 i0 (.int .i64 0) 1 8 Tryz.underlying42 hi hz0 hz1 hz2 rfl (by decide) _ _ _ rfl (hr.alloc _) ⟨wr.heap.size, 0, none⟩ 1 1 [_] rfl rfl (cell_one_new _ _ _) (by intro u hu; simp at hu; subst hu; rfl) (by unfold maxLen; omega) (by omega) (by simp; omega) ?_; intro v' w1 hown' hgrow hnil hloc; go_frame)
          refine ⟨⟨k + 1, by omega, rfl, ?_, ?_⟩, by simp only [intOf]; omega⟩
          · rw [HNx.out, List.length_append, HLn.out, List.map_append, HMM.out]
            exact hown'
          · exact (tr.alloc _).grown hgrow (fun j hj => .inr (hr.lt j hj).1)
        · have hnext := ordF_full l k h8
          have h8' : ¬ (k : Int) < 8 := by omega
          go_wp2_with fail
          refine ⟨⟨k + 1, by omega, rfl, ?_, tr⟩, by simp only [intOf]; omega⟩
          rw [hnext]
          exact hr
      · obtain rfl : k = l.length := by omega
        rw [List.take_length] at hr
        have hL8 := ordF_len l
        have hmem : ∀ k, k ∈ ordF l → k ∈ firstL := by
          intro k hk
          unfold ordF at hk
          obtain ⟨x, hx, rfl⟩ := List.mem_map.1 hk
          obtain ⟨j, hj, rfl⟩ := List.getElem_of_mem (List.mem_of_mem_take hx)
          obtain ⟨_, _, _, _, _, h0, _⟩ := HBy.out j hj
          rw [List.getD_eq_getElem?_getD, List.getElem?_eq_getElem hj] at h0
          exact ord_mem h0
        obtain ⟨L, hL⟩ : ∃ L, ordF l = L := ⟨_, rfl⟩
        rw [hL] at hr hL8 hmem
        obtain ⟨ao, co, rfl, hnum⟩ : ∃ ao co, u14 = .slice ao L.length co ∧ Nums wr ao L := by
          by_cases hz0 : L.length = 0
          · rcases hr.2 with ⟨rfl, h0⟩ | ⟨g, cap, cur, h1, _⟩
            · exact ⟨none, 0, by rw [h0], fun j hj => absurd hj (by omega)⟩
            · exact ⟨_, cap, h1, fun j hj => absurd hj (by omega)⟩
          · obtain ⟨g, cap, rfl, _, hg⟩ := hr.form (by omega)
            refine ⟨_, cap, rfl, fun j hj => ⟨g, 0, rfl, hg, ?_⟩⟩
            rw [Nat.zero_add, hr.cellAt j (by omega), List.getElem?_map, List.getD_eq_getElem?_getD, List.getElem?_eq_getElem hj]
            rfl
        have HMe := Lib.hid hmem
        have HNu := Lib.hid hnum
        have tw := tw.trans tr (by simp)
        clear hL hr hmem hnum HBy hi hz0 hz1 hz2
        have hall := All_six wr L HMe.out (by omega) co ao HNu.out T D F H 10 b cap zs fv fb HF.out (HG.out wr tr)
        have hlaw := all_at (oneF T H 10 zs (toldK ⟨2, 0, false, fv, 0⟩ fb)) L (fun k hk => first_neg (HMe.out k hk))
        obtain ⟨K, hK⟩ : ∃ K, oneF T H 10 zs (toldK ⟨2, 0, false, fv, 0⟩ fb) = K := ⟨_, rfl⟩
        rw [hK] at hall hlaw
        obtain ⟨⟨⟨x0, x1, x2, x3, x4⟩, at1⟩, hA⟩ : ∃ R, allF K L = R := ⟨_, rfl⟩
        rw [hA] at hall hlaw
        have HL := Lib.hid hlaw
        clear hlaw hA
        go_wp2_with fail
        refine hall.mono ?_
        rintro _ w5 ⟨rfl, t5⟩
        have u5 := tr.trans t5 (by simp)
        clear hall tr
        unfold KnownV.v
        go_upto_region 12 with (fail)
        have bA := Blk.new w5 27 #[.int .i64 x0, .int .i64 x1, .bool x2, .int .i64 x3, .int .i64 x4]
        have uA := u5.alloc (.cells #[.int .i64 x0, .int .i64 x1, .bool x2, .int .i64 x3, .int .i64 x4] 27)
        have vA := t5.alloc (.cells #[.int .i64 x0, .int .i64 x1, .bool x2, .int .i64 x3, .int .i64 x4] 27)
        generalize w5.alloc (.cells #[.int .i64 x0, .int .i64 x1, .bool x2, .int .i64 x3, .int .i64 x4] 27) = wA at *
        clear u5 t5
        have hmay : ∀ w', Touch [] wA w' → Calls _ _ _ w' _ := fun w' t => May_any L (by omega) ao co 0 w' (HNu.out.quiet (vA.trans t (by simp)))
        rw [may_first L hL8 HMe.out] at hmay
        have HMy := Lib.hid hmay
        have HtA := Lib.hid (And.intro uA (And.intro vA (tw.trans vA (by simp))))
        have HBA := Lib.hid bA
        clear hmay uA vA tw bA
        go_wp2_with fail
        go_loopw [62] (fun i ws => ∃ k : Nat, k ≤ L.length ∧ k ≤ at1 ∧ i = .int .i64 k ∧ Touch [] wA ws) (fun i _ => L.length - (intOf i).toNat)
        case atStart => exact ⟨0, Nat.zero_le _, Nat.zero_le _, rfl, Touch.refl _ _⟩
        case round =>
          obtain ⟨k, hk, hka, rfl, ts⟩ := hrel
          by_cases hlt : k < L.length
          · obtain ⟨g, off, rfl, hg, hcl⟩ := (HNu.out.quiet (HtA.out.2.1.trans ts (by simp))) k hlt
            have hone := One_six wr T D F H 10 b cap zs fv fb HF.out (HG.out wr (HtA.out.1.trans ts (by simp))) (L.getD k 0) (HMe.out _ (getD_mem hlt))
            rw [hK] at hone
            obtain ⟨x, hx⟩ : ∃ x, L.getD k 0 = x := ⟨_, rfl⟩
            have hlow : k < at1 → (K x).kind = 0 := fun h => by rw [← hx]; exact HL.out.1 k h
            have hat : k = at1 → KnownV.mk x0 x1 x2 x3 x4 = K x ∧ (K x).kind ≠ 0 := fun h => by
              have := HL.out.2.2.2 (by show at1 < _; omega)
              rw [show at1 = k from h.symm, hx] at this
              exact this
            rw [hx] at hcl hone
            obtain ⟨⟨y0, y1, y2, y3, y4⟩, hKx⟩ : ∃ R, K x = R := ⟨_, rfl⟩
            rw [hKx] at hone hlow hat
            have HLo := Lib.hid hlow
            have HAt := Lib.hid hat
            clear hx hKx hlow hat
            unfold KnownV.v at hone
            go_wp2_with fail
            refine hone.mono ?_
            rintro _ w7 ⟨rfl, t7⟩
            have ts := ts.trans t7 (by simp)
            clear hone t7
            go_upto_region 16 with (fail)
            have bB := Blk.new w7 27 #[.int .i64 y0, .int .i64 y1, .bool y2, .int .i64 y3, .int .i64 y4]
            have ts := ts.alloc (.cells #[.int .i64 y0, .int .i64 y1, .bool y2, .int .i64 y3, .int .i64 y4] 27)
            generalize w7.alloc (.cells #[.int .i64 y0, .int .i64 y1, .bool y2, .int .i64 y3, .int .i64 y4] 27) = wB at *
            have b0 := bB.cell 0
            have b1 := bB.cell 1
            have b2 := bB.cell 2
            have b3 := bB.cell 3
            have b4 := bB.cell 4
            have bA := HBA.out.touch ts (by simp)
            have a0 := bA.cell 0
            have a1 := bA.cell 1
            have a2 := bA.cell 2
            have a3 := bA.cell 3
            have a4 := bA.cell 4
            by_cases hka2 : k < at1
            · have hy0 : y0 = 0 := HLo.out hka2
              subst hy0
              go_wp2_with fail
              refine ⟨⟨k + 1, by omega, by omega, rfl, ts⟩, by simp only [intOf]; omega⟩
            · obtain rfl : k = at1 := by omega
              obtain ⟨he, hne⟩ := HAt.out rfl
              simp only [KnownV.mk.injEq] at he
              obtain ⟨rfl, rfl, rfl, rfl, rfl⟩ := he
              have hne' : (x0 != 0) = true := by simpa using hne
              have heq := fun w => known_eql ⟨x0, x1, x2, x3, x4⟩ ⟨x0, x1, x2, x3, x4⟩ w
              simp only [KnownV.v, beq_self_eq_true, Bool.and_self] at heq
              have hgd := known_guard
              clear hne
              go_wp2_with fail
              refine (HMy.out _ ts).mono ?_
              rintro _ w9 ⟨rfl, t9⟩
              go_wp2_with fail
              go_ret
              exact ⟨rfl, (HtA.out.2.2.trans ts (by simp)).trans t9 (by simp)⟩
          · obtain rfl : k = L.length := by omega
            have hle := HL.out.2.1
            obtain rfl : L.length = at1 := Nat.le_antisymm hka hle
            have he := HL.out.2.2.1 rfl
            have he' : KnownV.mk x0 x1 x2 x3 x4 = ⟨0, 0, false, 0, 0⟩ := he
            simp only [KnownV.mk.injEq] at he'
            obtain ⟨rfl, rfl, rfl, rfl, rfl⟩ := he'
            have bA := HBA.out.touch ts (by simp)
            have a0 := bA.cell 0
            have a1 := bA.cell 1
            have a2 := bA.cell 2
            have a3 := bA.cell 3
            have a4 := bA.cell 4
            have heq := fun w => known_eql ⟨0, 0, false, 0, 0⟩ ⟨0, 0, false, 0, 0⟩ w
            simp only [KnownV.v, beq_self_eq_true, Bool.and_self] at heq
            have hgd := known_guard
            clear hle he HL
            go_wp2_with fail
            refine (HMy.out _ ts).mono ?_
            rintro _ w9 ⟨rfl, t9⟩
            go_wp2_with fail
            go_ret
            exact ⟨rfl, (HtA.out.2.2.trans ts (by simp)).trans t9 (by simp)⟩
end Go.Proofs.YtgdmiodcfdcihaaGreatDoor
