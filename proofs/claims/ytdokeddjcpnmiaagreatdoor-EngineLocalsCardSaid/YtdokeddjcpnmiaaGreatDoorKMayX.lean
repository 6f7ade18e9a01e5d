import Derived.Test.YtdokeddjcpnmiaaGreatDoorKLoops
import Derived.Test.YtdokeddjcpnmiaaGreatDoorKLoopX
import Derived.Test.YtdokeddjcpnmiaaGreatDoorKTLay
import Derived.Deep.RegionLaw
/- ins.May. -/
namespace Go.Proofs.YtdokeddjcpnmiaaGreatDoor
open Go.RowKit
namespace En

def ConjIs (op a v lo1 hi1 : Int) (k n : Nat) (t : Int) : Prop := 1 ≤ op ∧ op < 16 ∧ (op = 1 ∨ v = 0) ∧ lo1 ≤ a ∧ a ≤ hi1 ∧ ¬ (op = 12 ∧ 0 < k) ∧ ¬ (op = 15 ∧ k + 1 = n ∧ 0 < t)
set_option maxRecDepth 100000 in
set_option maxHeartbeats 6400000 in
theorem May_any (L : List (Int × Int × Int)) (hL : L.length ≤ 100000) (hop : ∀ x ∈ L, 0 ≤ x.1 ∧ x.1 < 256) (words : Nat) (lv : Value) (w : World) (hI : InsAt w lv L) : Calls Tryz.prog 39 #[.agg #[lv], .int .i64 words] w fun e w' => ∃ ok, e = .returned (.bool ok) ∧ (mayF L words → ok = true) ∧ (ok = true → L.length ≤ 500 ∧ 0 < L.length ∧ ∃ tab, ∀ i, i < L.length → oneMay L words tab i) ∧ Touch [] w w' := by
  obtain ⟨n, hln⟩ : ∃ n, L.length = n := ⟨_, rfl⟩
  obtain ⟨la, lc, rfl⟩ : ∃ la lc, lv = .slice la n lc := by
    rcases hI with ⟨rfl, a, c, rfl⟩ | ⟨b, off, c, rfl, _⟩
    · exact ⟨a, c, by rw [← hln]; rfl⟩
    · exact ⟨_, c, by rw [hln]⟩
  have bB := Blk.new w 24 #[.slice la n lc]
  have tB := (Touch.refl [] w).alloc (.cells #[.slice la n lc] 24)
  obtain ⟨z, hz⟩ : ∃ z, w.heap.size = z := ⟨_, rfl⟩
  rw [hz] at bB
  have x0 : (w.alloc (.cells #[.slice la n lc] 24)).cell? ⟨z, 0, none⟩ = some (.slice la n lc) := bB.cell 0
  have hI1 : InsAt (w.alloc (.cells #[.slice la n lc] 24)) (.slice la n lc) L := by
    rcases hI with h | ⟨b, off, c, e, h⟩
    · exact .inl h
    · refine .inr ⟨b, off, c, e, fun i x hx => ?_⟩
      obtain ⟨h0, h1, h2⟩ := h i x hx
      exact ⟨cell_quiet tB h0, cell_quiet tB h1, cell_quiet tB h2⟩
  have hLoops := Loops_any L hL _ _ hI1
  have HB := Lib.hid (And.intro bB (And.intro tB (And.intro hln (And.intro hI1 (And.intro hL hop)))))
  clear bB tB hI hI1 hln hop hL
  go_enter Tryz.func39, Tryz.ntmps39
  go_upto_region 1 with fail
  clear hz
  generalize w.alloc (.cells #[.slice la n lc] 24) = w1 at *
  go_wp2_with fail
  refine hLoops.mono ?_
  rintro _ w2 ⟨tv, okL, rfl, hyes, hno, t2⟩
  have y0 := cell_quiet t2 x0
  have hT2 := HB.out.2.1.trans t2 (by simp)
  have HT2 := Lib.hid hT2
  have HNO := Lib.hid hno
  have HYES := Lib.hid hyes
  have HW2 := Lib.hid t2
  clear x0 hLoops hT2 hno hyes t2
  cases okL with
  | false =>
    go_wp2_with fail
    go_ret
    refine ⟨false, rfl, fun h => ?_, fun h => (by cases h), HT2.out⟩
    obtain ⟨tab, h, _⟩ := h
    have h0 : loopsF L = none := by simpa using HNO.out
    rw [h0] at h
    cases h
  | true =>
    obtain ⟨T, c, tab, hn0, rfl, htl, hTb, hrun⟩ := HYES.out rfl
    have HTB := Lib.hid (And.intro htl (And.intro hTb hrun))
    rw [HB.out.2.2.1] at hn0 ⊢
    clear htl hTb hrun HNO HYES
    by_cases hbig : n > 500
    · have hb2 : (n : Int) > 500 := by omega
      go_wp2_with fail
      go_ret
      refine ⟨false, rfl, fun h => ?_, fun h => (by cases h), HT2.out⟩
      obtain ⟨_, _, h, _⟩ := h
      rw [HB.out.2.2.1] at h
      omega
    have hb2 : ¬ (n : Int) > 500 := by omega
    obtain ⟨b, off, hla, hcell⟩ : ∃ b off, la = some ⟨b, off, none⟩ ∧ ∀ i x, L[i]? = some x → w2.cell? ⟨b, off + i * 3, none⟩ = some (.int .u8 x.1) ∧ w2.cell? ⟨b, off + i * 3 + 1, none⟩ = some (.int .i64 x.2.1) ∧ w2.cell? ⟨b, off + i * 3 + 2, none⟩ = some (.int .i64 x.2.2) := by
      rcases HB.out.2.2.2.1 with ⟨h, _⟩ | ⟨b, off, c, e, h⟩
      · have h1 := HB.out.2.2.1
        rw [h] at h1
        simp at h1
        omega
      · injection e with e1 e2 e3
        refine ⟨b, off, e1, fun i x hx => ?_⟩
        obtain ⟨h0, h1, h2⟩ := h i x hx
        exact ⟨cell_quiet HW2.out h0, cell_quiet HW2.out h1, cell_quiet HW2.out h2⟩
    subst hla
    have HC := Lib.hid hcell
    have hget : ∀ i, i < n → L[i]? = some (opAt L i) := fun i hi => by
      unfold opAt
      rw [List.getD_eq_getElem?_getD]
      have h1 : i < L.length := by rw [HB.out.2.2.1]; exact hi
      rw [List.getElem?_eq_getElem h1]
      rfl
    have HG := Lib.hid hget
    obtain ⟨ol, hol⟩ : ∃ o, (opAt L (n - 1)).1 = o := ⟨_, rfl⟩
    have l0 := (hcell _ _ (hget (n - 1) (by omega))).1
    rw [hol] at l0
    obtain ⟨of, haf⟩ : ∃ o, (opAt L 0).1 = o := ⟨_, rfl⟩
    obtain ⟨af, haf2⟩ : ∃ o, (opAt L 0).2.1 = o := ⟨_, rfl⟩
    obtain ⟨f0, f1, _⟩ := hcell _ _ (hget 0 hn0)
    rw [haf, Nat.zero_mul, Nat.add_zero] at f0
    rw [haf2, Nat.zero_mul, Nat.add_zero] at f1
    have en : IntKind.i64.wrap ((n : Int) - 1) = ((n - 1 : Nat) : Int) := by rw [IntKind.wrap_i64]; omega
    have HH := Lib.hid (And.intro hol (And.intro haf haf2))
    clear hcell hget hol haf haf2
    by_cases hlast : ol = 15 ∨ ol = 3
    · have q15 : (ol != 15 && ol != 3) = false := by rcases hlast with rfl | rfl <;> rfl
      have HLA := Lib.hid hlast
      clear hlast
      obtain ⟨lo, hlo⟩ : ∃ lo, localsF L = lo := ⟨_, rfl⟩
      have HLO := Lib.hid hlo
      have hcase : (of = 12 ∧ af = lo) ∨ (of ≠ 12 ∧ lo = 0) := by
        have h := hlo
        unfold localsF at h
        rw [HH.out.2.1, HH.out.2.2] at h
        split at h
        · rename_i h12
          exact .inl ⟨h12, h⟩
        · rename_i h12
          exact .inr ⟨h12, h.symm⟩
      clear hlo
      clear q15
      go_upto_region 5 with fail
      go_cut [41] from 42 (fun v wc => v = .bool false ∧ w2 = wc)
      case first =>
        rcases HLA.out with h | h
        · have q15 : (ol != 15) = false := by rw [h]; rfl
          clear hcase
          go_wp2_with fail
          all_goals go_meet
          all_goals exact ⟨rfl, rfl⟩
        · have q15 : (ol != 15) = true := by rw [h]; rfl
          have q3 : (ol != 3) = false := by rw [h]; rfl
          clear hcase
          go_wp2_with fail
          all_goals go_meet
          all_goals exact ⟨rfl, rfl⟩
      case rest =>
        obtain ⟨rfl, rfl⟩ := hcut
        go_upto_if 47 with fail
        go_cut [8] from 48 (fun v wc => v = .int .i64 lo ∧ w2 = wc)
        case first =>
          rcases hcase with ⟨rfl, rfl⟩ | ⟨h, rfl⟩
          · go_wp2_with fail
            all_goals go_meet
            all_goals exact ⟨rfl, rfl⟩
          · have q12 : (of == 12) = false := by simpa using h
            go_wp2_with fail
            all_goals go_meet
            all_goals exact ⟨rfl, rfl⟩
        case rest =>
          obtain ⟨rfl, rfl⟩ := hcut
          clear l0 f0 f1 hcase
          go_upto_region 10 with fail
          have tall := (Touch.refl [] w2).alloc (.map #[] 0)
          have i0 := IMap.new w2
          have hmm := @run_makeMap Tryz.prog
          have Y0 := Lib.hid y0
          clear y0
          go_upto_region 11 with (refine wpList_iins _ rfl _ _ _ 124 rfl _ _ Tryz.underlying124 Tryz.underlying3 w2.heap.size _ rfl (by first | assumption | exact i0) _ rfl _ rfl ?_; intro wn hn tn; have tall := tall.trans tn (by simp))
          obtain ⟨bl, hbl⟩ : ∃ bl, w2.heap.size = bl := ⟨_, rfl⟩
          rw [hbl] at hn ⊢
          have hlow : IMap wn bl lowL := hn
          have HLOW := Lib.hid (And.intro hlow tall)
          have y3 := cell_quiet tall Y0.out
          clear hn tall i0 hbl tn hlow
          have tall := (Touch.refl [] wn).alloc (.map #[] 0)
          have i0 := IMap.new wn
          have ya := cell_quiet tall y3
          have Y3 := Lib.hid y3
          have HN := Lib.hid HB.out.2.2.1
          clear y3
          go_upto_region 12 with (refine wpList_iins _ rfl _ _ _ 124 rfl _ _ Tryz.underlying124 Tryz.underlying3 wn.heap.size _ rfl (by first | assumption | exact i0) _ rfl _ rfl ?_; intro wm hm tm; have tall := tall.trans tm (by simp))
          clear ya hmm i0
          obtain ⟨bh, hbh⟩ : ∃ bh, wn.heap.size = bh := ⟨_, rfl⟩
          rw [hbh] at hm ⊢
          have hhigh : IMap wm bh (highL ((n - 1 : Nat) : Int) words (wrap64 (lo - 1))) := hm
          rw [show wrap64 (lo - 1) = IntKind.i64.wrap (lo - 1) from (IntWalk.i64_left _).symm, show ((n - 1 : Nat) : Int) = (L.length : Int) - 1 by rw [HN.out]; omega, ← HLO.out] at hhigh
          have HM := Lib.hid (And.intro (HLOW.out.1.touch tall (by simp)) (And.intro hhigh (And.intro (HLOW.out.2.trans tall (by simp)) HLO.out)))
          have y4 := cell_quiet tall Y3.out
          clear hm tall hbh tm hhigh HLOW Y3
          go_wp2_with fail
          go_loopw [67] (fun i wr => ∃ k : Nat, k ≤ n ∧ i = .int .i64 k ∧ Touch [] wm wr ∧ ∀ j, j < k → testW L words tab j) (fun i _ => n - (intOf i).toNat)
          case atStart => exact ⟨0, Nat.zero_le _, rfl, Touch.refl _ _, fun j hj => absurd hj (by omega)⟩
          case round =>
            obtain ⟨k, hk, rfl, tr, htest⟩ := hrel
            have HTE := Lib.hid (And.intro tr htest)
            rcases Nat.lt_or_ge k n with hlt | hge
            · obtain ⟨⟨op, a, v⟩, hx⟩ : ∃ x, opAt L k = x := ⟨_, rfl⟩
              have hxg := HG.out k hlt
              rw [hx] at hxg
              obtain ⟨c0, c1, c2⟩ := HC.out k _ hxg
              have tw := HM.out.2.2.1.trans tr (by simp)
              have c0 := cell_quiet tw c0
              have c1 := cell_quiet tw c1
              have c2 := cell_quiet tw c2
              have yr := cell_quiet tr y4
              have HX := Lib.hid hx
              clear tr htest hx hxg
              go_upto_region 15 with fail
              have bS := Blk.new wr 56 #[.int .u8 op, .int .i64 a, .int .i64 v]
              have tS := (Touch.refl [] wr).alloc (.cells #[.int .u8 op, .int .i64 a, .int .i64 v] 56)
              obtain ⟨y, hy⟩ : ∃ y, wr.heap.size = y := ⟨_, rfl⟩
              rw [hy] at bS ⊢
              have tT := HTE.out.1.trans tS (by simp)
              generalize wr.alloc (.cells #[.int .u8 op, .int .i64 a, .int .i64 v] 56) = w5 at *
              have s0 : w5.cell? ⟨y, 0, none⟩ = some (.int .u8 op) := bS.cell 0
              have s1 : w5.cell? ⟨y, 1, none⟩ = some (.int .i64 a) := bS.cell 1
              have s2 : w5.cell? ⟨y, 2, none⟩ = some (.int .i64 v) := bS.cell 2
              have y5 := cell_quiet tT y4
              obtain ⟨lo1, hlo1⟩ : ∃ x, lowF (insKind op) = x := ⟨_, rfl⟩
              obtain ⟨hi1, hhi1⟩ : ∃ x, highW L words (insKind op) = x := ⟨_, rfl⟩
              have hk1 := low_at (HM.out.1.touch tT (by simp)) op
              have hk2 := high_at (HM.out.2.1.touch tT (by simp)) op
              rw [hlo1] at hk1
              rw [hhi1] at hk2
              obtain ⟨t, ht⟩ : ∃ t, tab.getD k 0 = t := ⟨_, rfl⟩
              have ct : w5.cell? ⟨T, k, none⟩ = some (.int .i64 t) := by
                rw [(HTB.out.2.1.touch (HM.out.2.2.1.trans tT (by simp)) (by simp)).cell k, List.getElem?_toArray, ← ht]
                exact cells_get tab k (by rw [HTB.out.1, HN.out]; exact hlt)
              have HFT := Lib.hid (HT2.out.trans (HM.out.2.2.1.trans tT (by simp)) (by simp))
              have HTT := Lib.hid tT
              have HQ := Lib.hid (And.intro hlo1 (And.intro hhi1 ht))
              have HKA := Lib.hid (kind_any op w5)
              have hMT : mayF L words → testW L words tab k := fun h => by
                obtain ⟨tb, h1, _, _, h2⟩ := h
                obtain rfl := HTB.out.2.2 _ h1
                exact (may_test (may_zero (h2 0 (by rw [HN.out]; omega))) k).1 (h2 k (by rw [HN.out]; exact hlt))
              have hTW : testW L words tab k ↔ ConjIs op a v lo1 hi1 k n t := by
                unfold testW ConjIs
                rw [HX.out]
                simp only [hlo1, hhi1, ht, HN.out]
              have HMT : Hid (mayF L words → ConjIs op a v lo1 hi1 k n t) := Lib.hid fun h => hTW.1 (hMT h)
              have HNX : Hid (ConjIs op a v lo1 hi1 k n t → ∀ j, j < k + 1 → testW L words tab j) := Lib.hid fun h j hj => by
                rcases Nat.lt_or_ge j k with h1 | h1
                · exact HTE.out.2 j h1
                · obtain rfl : j = k := by omega
                  exact hTW.2 h
              clear hMT hTW tT bS tS hy c0 c1 c2 yr tw y4 ht hlo1 hhi1
              go_wp2_with fail
              refine HKA.out.mono ?_
              rintro _ _ ⟨rfl, rfl⟩
              clear HKA
              by_cases h1 : 1 ≤ op
              case neg =>
                have d1 : decide (op < 1) = true := by simpa using Int.not_le.1 h1
                have HN1 := Lib.hid h1
                clear h1
                go_wp2_with fail
                all_goals go_ret
                all_goals exact ⟨false, rfl, fun h => (by exfalso; have h1 := HMT.out h; have h2 := HN1.out; unfold ConjIs at h1; omega), fun h => (by cases h), HFT.out⟩
              have d1 : decide (op < 1) = false := by simp; omega
              by_cases h2 : op < 16
              case neg =>
                have d2 : decide (op ≥ 16) = true := by simp; omega
                have HN1 := Lib.hid h2
                clear h1 h2
                go_wp2_with fail
                all_goals go_ret
                all_goals exact ⟨false, rfl, fun h => (by exfalso; have h1 := HMT.out h; have h2 := HN1.out; unfold ConjIs at h1; omega), fun h => (by cases h), HFT.out⟩
              have d2 : decide (op ≥ 16) = false := by simp; omega
              have H12 := Lib.hid (And.intro h1 h2)
              clear h1 h2
              by_cases h3 : op = 1
              · subst h3
                rcases Int.lt_or_le a lo1 with h4 | h4
                · have d4 : decide (a < lo1) = true := by simpa using h4
                  have HN1 := Lib.hid h4
                  clear h4
                  go_wp2_with fail
                  all_goals go_ret
                  all_goals exact ⟨false, rfl, fun h => (by exfalso; have h1 := HMT.out h; have h2 := HN1.out; unfold ConjIs at h1; omega), fun h => (by cases h), HFT.out⟩
                have d4 : decide (a < lo1) = false := by simpa using h4
                rcases Int.lt_or_le hi1 a with h5 | h5
                · have d5 : decide (a > hi1) = true := by simpa using h5
                  have HN1 := Lib.hid h5
                  clear h4 h5
                  go_wp2_with fail
                  all_goals go_ret
                  all_goals exact ⟨false, rfl, fun h => (by exfalso; have h1 := HMT.out h; have h2 := HN1.out; unfold ConjIs at h1; omega), fun h => (by cases h), HFT.out⟩
                have d5 : decide (a > hi1) = false := by simpa using h5
                have HAB := Lib.hid (And.intro h4 h5)
                clear h4 h5
                go_wp2_with fail
                all_goals go_roundw
                all_goals first
                  | exact ⟨k + 1, by omega, vint (by omega), HTT.out, HNX.out (by have q1 := H12.out; have q2 := HAB.out; (try have q3 := HN1.out); unfold ConjIs; omega)⟩
                  | (simp only [intOf]; omega)
              have n1 : (op != 1) = true := by simpa using h3
              by_cases h6 : v = 0
              case neg =>
                have n2 : (v != 0) = true := by simpa using h6
                have HN1 := Lib.hid (And.intro h3 h6)
                clear h3 h6
                go_wp2_with fail
                all_goals go_ret
                all_goals exact ⟨false, rfl, fun h => (by exfalso; have h1 := HMT.out h; have h2 := HN1.out; unfold ConjIs at h1; omega), fun h => (by cases h), HFT.out⟩
              subst h6
              rcases Int.lt_or_le a lo1 with h4 | h4
              · have d4 : decide (a < lo1) = true := by simpa using h4
                have HN1 := Lib.hid h4
                clear h4 h3
                go_wp2_with fail
                all_goals go_ret
                all_goals exact ⟨false, rfl, fun h => (by exfalso; have h1 := HMT.out h; have h2 := HN1.out; unfold ConjIs at h1; omega), fun h => (by cases h), HFT.out⟩
              have d4 : decide (a < lo1) = false := by simpa using h4
              rcases Int.lt_or_le hi1 a with h5 | h5
              · have d5 : decide (a > hi1) = true := by simpa using h5
                have HN1 := Lib.hid h5
                clear h4 h5 h3
                go_wp2_with fail
                all_goals go_ret
                all_goals exact ⟨false, rfl, fun h => (by exfalso; have h1 := HMT.out h; have h2 := HN1.out; unfold ConjIs at h1; omega), fun h => (by cases h), HFT.out⟩
              have d5 : decide (a > hi1) = false := by simpa using h5
              have HAB := Lib.hid (And.intro h4 h5)
              clear h4 h5 h3
              by_cases h7 : op = 12
              · subst h7
                rcases Nat.eq_zero_or_pos k with h8 | h8
                · subst h8
                  go_wp2_with fail
                  all_goals go_roundw
                  all_goals first
                    | exact ⟨1, by omega, rfl, HTT.out, HNX.out (by have q2 := HAB.out; unfold ConjIs; omega)⟩
                    | (simp [intOf]; omega)
                    | (simp [intOf]; done)
                    | (simp only [intOf, Int.toNat]; omega)
                · have d8 : decide (0 < k) = true := by simpa using h8
                  have HN1 := Lib.hid h8
                  clear h8
                  go_wp2_with fail
                  all_goals go_ret
                  all_goals exact ⟨false, rfl, fun h => (by exfalso; have h1 := HMT.out h; have h2 := HN1.out; unfold ConjIs at h1; omega), fun h => (by cases h), HFT.out⟩
              have n7 : (op == 12) = false := by simpa using h7
              by_cases h9 : op = 15
              · subst h9
                clear h7 n7
                by_cases h10 : k + 1 = n
                · have d10 : ((k : Int) == ((n - 1 : Nat) : Int)) = true := by simp; omega
                  rcases Int.lt_or_le 0 t with h11 | h11
                  · have d11 : decide (0 < t) = true := by simpa using h11
                    have HN1 := Lib.hid (And.intro h10 h11)
                    clear h10 h11
                    go_wp2_with fail
                    all_goals go_ret
                    all_goals exact ⟨false, rfl, fun h => (by exfalso; have h1 := HMT.out h; have h2 := HN1.out; unfold ConjIs at h1; omega), fun h => (by cases h), HFT.out⟩
                  · have d11 : decide (0 < t) = false := by simpa using h11
                    have HN1 := Lib.hid (And.intro h10 h11)
                    clear h10 h11
                    go_wp2_with fail
                    all_goals go_roundw
                    all_goals first
                      | exact ⟨k + 1, by omega, vint (by omega), HTT.out, HNX.out (by have q1 := H12.out; have q2 := HAB.out; (try have q3 := HN1.out); unfold ConjIs; omega)⟩
                      | (simp only [intOf]; omega)
                · have d10 : ((k : Int) == ((n - 1 : Nat) : Int)) = false := by simp; omega
                  have HN1 := Lib.hid h10
                  clear h10
                  go_wp2_with fail
                  all_goals go_roundw
                  all_goals first
                    | exact ⟨k + 1, by omega, vint (by omega), HTT.out, HNX.out (by have q1 := H12.out; have q2 := HAB.out; (try have q3 := HN1.out); unfold ConjIs; omega)⟩
                    | (simp only [intOf]; omega)
              have n9 : (op == 15) = false := by simpa using h9
              have HN1 := Lib.hid (And.intro h7 h9)
              clear h7 h9
              go_wp2_with fail
              all_goals go_roundw
              all_goals first
                | exact ⟨k + 1, by omega, vint (by omega), HTT.out, HNX.out (by have q1 := H12.out; have q2 := HAB.out; (try have q3 := HN1.out); unfold ConjIs; omega)⟩
                | (simp only [intOf]; omega)
            · obtain rfl : k = n := by omega
              clear tr htest
              go_wp2_with fail
              go_ret
              refine ⟨true, rfl, fun _ => rfl, fun _ => ⟨by rw [HN.out]; omega, by rw [HN.out]; exact hn0, tab, fun i hi => ?_⟩, HT2.out.trans (HM.out.2.2.1.trans HTE.out.1 (by simp)) (by simp)⟩
              rw [HN.out] at hi
              exact (may_test (test_zero (HTE.out.2 0 hn0)) i).2 (HTE.out.2 i hi)
    · have q15 : (ol != 15 && ol != 3) = true := by simp; omega
      go_wp2_with fail
      go_ret
      refine ⟨false, rfl, fun h => ?_, fun h => (by cases h), HT2.out⟩
      obtain ⟨_, _, _, h, _⟩ := h
      rw [HB.out.2.2.1, HH.out.1] at h
      exact absurd h hlast
end En
end Go.Proofs.YtdokeddjcpnmiaaGreatDoor

/- Define: a definition is laid down. -/
namespace Go.Proofs.YtdokeddjcpnmiaaGreatDoor
open Go.RowKit
namespace En

theorem InsAt.touch {w w' : World} {lv : Value} {L : List (Int × Int × Int)} (h : InsAt w lv L) (t : Touch [] w w') : InsAt w' lv L := by
  rcases h with h | ⟨b, off, c, e, h⟩
  · exact .inl h
  · refine .inr ⟨b, off, c, e, fun i x hx => ?_⟩
    obtain ⟨h0, h1, h2⟩ := h i x hx
    exact ⟨cell_quiet t h0, cell_quiet t h1, cell_quiet t h2⟩
theorem ends_len {w : World} {ev : Value} {l : List Int} {t : TypeId} (h : w.ownsRow 0 t 1 ev l.length (cells l)) : ∃ a c, ev = .slice a l.length c := by
  rcases Go.Joins.ownsRow_forms h with ⟨h1, h0⟩ | ⟨g, cap, h1⟩
  · exact ⟨none, 0, by rw [h1, h0]⟩
  · exact ⟨_, _, h1⟩
set_option maxRecDepth 100000 in
set_option maxHeartbeats 3200000 in
theorem Define_ok {w : World} {g : Nat} {p : Lay} {F : List Nat} {m : M} (h : EngAt w g p F m) (hcl : m.code.length ≤ 1000000) (hel : m.ends.length < 300) (L : List (Int × Int × Int)) (hL : L.length ≤ 500) (hop : ∀ x ∈ L, (0 ≤ x.1 ∧ x.1 < 256) ∧ 0 ≤ x.2.1 ∧ x.2.1 ≤ 1000000) (hmay : mayF L m.words.length) (lv : Value) (hI : InsAt w lv L) (hlo : ∀ b ∈ rowOf lv, b < w.heap.size ∧ b ∉ F) :
    Calls Tryz.prog 12 #[.pointer (some ⟨g, 0, none⟩), .agg #[lv]] w fun e w' => e = .returned (.tuple #[.int .i64 ((m.ends.length : Int) + 1), .int .i64 0]) ∧ Keep w g p F (m.laid L) w' := by
  have bB := Blk.new w 24 #[lv]
  have tB := (Touch.refl [] w).alloc (.cells #[lv] 24)
  obtain ⟨z, hz⟩ : ∃ z, w.heap.size = z := ⟨_, rfl⟩
  have hFl := h.lt
  have hzF : z ∉ F := fun hx => by have := hFl z hx; omega
  rw [hz] at bB
  have x0 : (w.alloc (.cells #[lv] 24)).cell? ⟨z, 0, none⟩ = some lv := bB.cell 0
  have hE := h.touch tB (by simp)
  have HB := Lib.hid (And.intro bB (And.intro tB (And.intro hzF (And.intro hI (And.intro hE hlo)))))
  have HP := Lib.hid (And.intro hcl (And.intro hL (And.intro hop hmay)))
  clear bB tB hI hE hop hmay hlo hzF h hFl hcl hL
  go_enter Tryz.func12, Tryz.ntmps12
  go_upto_region 3 with fail
  clear hz
  generalize w.alloc (.cells #[lv] 24) = w1 at *
  obtain ⟨cv, ev, wv, Ff, FS, FI, hLi, hFe⟩ := HB.out.2.2.2.2.1
  have c2 : w1.cell? ⟨g, 2, none⟩ = some wv := hLi.blk.cell 2
  obtain ⟨wa, wc, rfl⟩ := words_value hLi.words
  obtain ⟨q, hq⟩ : ∃ q, m.words.length = q := ⟨_, rfl⟩
  have HQ := Lib.hid hq
  rw [hq] at c2
  have HMAY := Lib.hid (fun W (t : Touch [] w1 W) => May_any L (by have := HP.out.2.1; omega) (fun x hx => (HP.out.2.2.1 x hx).1) q lv W (by
    rcases HB.out.2.2.2.1 with h | ⟨b, off, c, e, h⟩
    · exact .inl h
    · refine .inr ⟨b, off, c, e, fun i x hx => ?_⟩
      obtain ⟨h0, h1, h2⟩ := h i x hx
      have tt := HB.out.2.1.trans t (by simp)
      exact ⟨cell_quiet tt h0, cell_quiet tt h1, cell_quiet tt h2⟩))
  clear hLi hq
  go_still_tail 6, (by kernel_rfl)
  go_wp2_with fail
  refine Calls.mono (HMAY.out _ (Touch.refl [] w1).drew) ?_
  rintro _ w5 ⟨ok, rfl, hy, _, t5⟩
  obtain rfl : ok = true := hy (by have h := HP.out.2.2.2; rw [HQ.out] at h; exact h)
  have t5 := (Touch.refl [] w1).drew.trans t5 (by simp)
  have x5 := cell_quiet t5 x0
  have hE5 := HB.out.2.2.2.2.1.touch t5 (by simp)
  have HT5 := Lib.hid (And.intro t5 hE5)
  obtain ⟨cv5, ev5, wv5, Ff5, FS5, FI5, hL5, _⟩ := hE5
  have c5 : w5.cell? ⟨g, 1, none⟩ = some ev5 := hL5.blk.cell 1
  obtain ⟨ea, ec, rfl⟩ := ends_len hL5.ends
  obtain ⟨q2, hq2⟩ : ∃ q2, m.ends.length = q2 := ⟨_, rfl⟩
  rw [hq2] at c5 hel
  have HQ2 := Lib.hid hq2
  have e5 : ¬ (300 : Int) ≤ (q2 : Int) := by omega
  have e6 : decide ((q2 : Int) ≥ 300) = false := by simp; omega
  clear hy t5 hL5 hq2 c2 x0 HMAY HQ
  go_upto_region 7 with fail
  go_still_tail 5, (by kernel_rfl)
  go_wp2_with fail
  have TT := (HB.out.2.1.trans HT5.out.1 (by simp)).drew
  refine (lay_sem (HT5.out.2.touch (Touch.refl [] w5).drew (by simp)) HP.out.1 (by rw [HQ2.out]; omega) L (by have := HP.out.2.1; omega) HP.out.2.2.1 lv (HB.out.2.2.2.1.touch TT) (fun b hb => ⟨Nat.lt_of_lt_of_le (HB.out.2.2.2.2.2 b hb).1 TT.size, (HB.out.2.2.2.2.2 b hb).2⟩)).mono ?_
  rintro _ w6 ⟨rfl, hK, _⟩
  have HK := Lib.hid (Keep.pre TT hK)
  obtain ⟨F6, hE6, _, _⟩ := hK
  obtain ⟨cv6, ev6, wv6, Ff6, FS6, FI6, hL6, _⟩ := hE6
  have c6 : w6.cell? ⟨g, 1, none⟩ = some ev6 := hL6.blk.cell 1
  obtain ⟨ea6, ec6, rfl⟩ := ends_len hL6.ends
  have el : (m.laid L).ends.length = q2 + 1 := by
    unfold M.laid
    simp [HQ2.out]
  rw [el] at c6
  clear TT hL6 c5 x5 el e5 e6
  go_wp2_with fail
  go_ret2
  exact ⟨by rw [HQ2.out]; rfl, HK.out⟩
end En
end Go.Proofs.YtdokeddjcpnmiaaGreatDoor
