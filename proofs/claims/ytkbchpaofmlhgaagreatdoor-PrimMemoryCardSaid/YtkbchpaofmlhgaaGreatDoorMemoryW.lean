/- PrimMemory: the law's walk. Printed by memw.py. -/
import Derived.Test.YtkbchpaofmlhgaaGreatDoorMemStage
namespace Go.Proofs.YtkbchpaofmlhgaaGreatDoor
open Go.RowKit

theorem Ready.of {S T : PS} (h : Ready S) (h1 : T.out = S.out) (h2 : T.made = S.made) (h3 : T.n = S.n) (h4 : T.bs.length = S.bs.length) : Ready T := by
  obtain ⟨⟨a, b, c, d⟩, e, f⟩ := h
  exact ⟨⟨by rw [h1]; exact a, by rw [h2]; exact b, by rw [h3]; exact c, by rw [h3]; exact d⟩, by rw [h3]; exact e, by rw [h4]; exact f⟩
set_option maxRecDepth 100000 in
set_option maxHeartbeats 6400000 in
theorem PrimMemory_walk (x y a c : Int) (w : World) (hx : -9223372036854775808 ≤ x ∧ x ≤ 9223372036854775807) (hy : -9223372036854775808 ≤ y ∧ y ≤ 9223372036854775807) (ha : 0 ≤ a ∧ a ≤ 255) (hc : 0 ≤ c ∧ c ≤ 255) :
    Calls Tryz.prog 5 #[.int .i64 x, .int .i64 y, .int .u8 a, .int .u8 c] w fun e w' => e = .returned (.bool true) ∧ Touch [] w w' := by
  have hSh := shown_any w
  obtain ⟨q, hq⟩ : ∃ q : Nat, a % 60 = q := ⟨(a % 60).toNat, by omega⟩
  have hq59 : q < 60 := by omega
  have e1 : a.tmod 60 = (q : Int) := by rw [Int.tmod_eq_emod_of_nonneg (by omega)]; exact hq
  obtain ⟨d, rfl⟩ : ∃ d : Nat, c = d := ⟨c.toNat, by omega⟩
  have hx6 : Cell6 x := by unfold Cell6; omega
  have hy6 : Cell6 y := by unfold Cell6; omega
  have HX : Hid (Cell6 x ∧ Cell6 y ∧ d < 256) := ⟨hx6, hy6, by omega⟩
  clear hq hx hy ha hx6 hy6
  go_enter Tryz.func5, Tryz.ntmps5
  go_wp2_with fail
  refine hSh.mono ?_
  rintro _ w1 ⟨rfl, t1⟩
  have hN := live_new w w1 t1
  clear hSh t1
  go_wp2_with fail
  refine hN.mono ?_
  rintro _ w2 ⟨s, S, rfl, hL, hok, h1, h2, h3, h4, _⟩
  clear hN
  have hlen := hL.len.1
  have bN := Blk.new w2 24 #[.pointer (some ⟨s, 0, none⟩)]
  have HS : Hid (LiveK w (w2.alloc (.cells #[.pointer (some ⟨s, 0, none⟩)] 24)) s S [w2.heap.size] ∧ BPtr (w2.alloc (.cells #[.pointer (some ⟨s, 0, none⟩)] 24)) w2.heap.size s ∧ Ready S ∧ S.here = 8) :=
    ⟨hL.keep.more ((Touch.refl [] w2).alloc _) (Nat.le_refl _) bN.lt, bN, ⟨hok, h1, by rw [hlen, h1]⟩, h4⟩
  clear hL hok h1 h2 h3 h4 hlen bN
  go_upto_region 7 with fail
  obtain ⟨k, hk⟩ : ∃ k : Nat, q * 8 + 8 = k := ⟨_, rfl⟩
  have ek : (q : Int) * 8 + 8 = (k : Int) := by omega
  simp only [ek]
  have hk16 : k + 16 ≤ 1024 := by omega
  have hk8 : k % 8 = 0 := by omega
  clear hk ek e1
  obtain ⟨b, hb⟩ : ∃ b, w2.heap.size = b := ⟨_, rfl⟩
  rw [hb] at HS ⊢
  clear hb
  obtain ⟨wA, hwA⟩ : ∃ wA, w2.alloc (.cells #[.pointer (some ⟨s, 0, none⟩)] 24) = wA := ⟨_, rfl⟩
  rw [hwA] at HS ⊢
  clear hwA
  have hR := ran (ops := [74, 73]) (L := [(k : Int), x, (k : Int)]) (cs := [x]) (R := fun T => T.here = 8) HS.out.1 HS.out.2.1 (by simp) (by simp) (chain1 HS.out.2.2.1 hk16 hk8 HX.out.1) rfl (by simp) (HS.out.2.2.1.of rfl rfl rfl (putF_len _ _ _ _)) (HS.out.2.2.2)
  go_wp2_with fail
  refine hR.mono ?_
  clear hR
  rintro _ wB0 ⟨v0, T0, rfl, hg, hL, hB, hr, hT⟩
  have hs := same_new [x] hg.rowR (by simp)
  have HT := Lib.hid (And.intro hL (And.intro hB (And.intro hr hT)))
  clear hg hL hB hr hT HS
  go_wp2_with fail
  refine hs.mono ?_
  clear hs
  rintro _ wC0 ⟨rfl, tC⟩
  have HS := Lib.hid (And.intro (HT.out.1.quiet tC) (And.intro (show BPtr wC0 b s from Blk.touch HT.out.2.1 tC (by simp)) HT.out.2.2))
  clear HT tC
  have hR := ran (ops := [79, 78]) (L := [(k : Int), x, y, (k : Int)]) (cs := [x, y]) (R := fun T => T.here = 8 ∧ getF T.bs k = y) HS.out.1 HS.out.2.1 (by simp) (by simp) (chain2 HS.out.2.2.1 hk16 hk8 HX.out.1 HX.out.2.1) rfl (by simp) (HS.out.2.2.1.of rfl rfl rfl ((putF_len _ _ _ _).trans (putF_len _ _ _ _))) (⟨HS.out.2.2.2, getF_put _ _ _ (by rw [putF_len, HS.out.2.2.1.2.2]; omega) HX.out.2.1⟩)
  go_wp2_with fail
  refine hR.mono ?_
  clear hR
  rintro _ wB1 ⟨v1, T1, rfl, hg, hL, hB, hr, hT⟩
  have hs := same_new [x, y] hg.rowR (by simp)
  have HT := Lib.hid (And.intro hL (And.intro hB (And.intro hr hT)))
  clear hg hL hB hr hT HS
  go_wp2_with fail
  refine hs.mono ?_
  clear hs
  rintro _ wC1 ⟨rfl, tC⟩
  have HS := Lib.hid (And.intro (HT.out.1.quiet tC) (And.intro (show BPtr wC1 b s from Blk.touch HT.out.2.1 tC (by simp)) HT.out.2.2))
  clear HT tC
  have hR := ran (ops := [77, 73]) (L := [(k : Int), x, (k : Int)]) (cs := [wrap64 (x + y)]) (R := fun T => T.here = 8) HS.out.1 HS.out.2.1 (by simp) (by simp) (chain3 HS.out.2.2.1 hk16 hk8 HS.out.2.2.2.2) rfl (by simp) (HS.out.2.2.1.of rfl rfl rfl (putF_len _ _ _ _)) (HS.out.2.2.2.1)
  go_wp2_with fail
  refine hR.mono ?_
  clear hR
  rintro _ wB2 ⟨v2, T2, rfl, hg, hL, hB, hr, hT⟩
  have hs := same_new [wrap64 (x + y)] hg.rowR (by simp)
  have HT := Lib.hid (And.intro hL (And.intro hB (And.intro hr hT)))
  clear hg hL hB hr hT HS
  go_wp2_with fail
  refine hs.mono ?_
  clear hs
  rintro _ wC2 ⟨rfl, tC⟩
  have HS := Lib.hid (And.intro (HT.out.1.quiet tC) (And.intro (show BPtr wC2 b s from Blk.touch HT.out.2.1 tC (by simp)) HT.out.2.2))
  clear HT tC
  have hR := ran (ops := [76, 75]) (L := [(k : Int), (d : Int) + 256, (k : Int)]) (cs := [(d : Int)]) (R := fun T => T.here = 8 ∧ T.bs.getD k 0 = d) HS.out.1 HS.out.2.1 (by simp) (by simp) (chain4 HS.out.2.2.1 hk16 HX.out.2.2) rfl (by simp) (HS.out.2.2.1.of rfl rfl rfl (List.length_set)) (⟨HS.out.2.2.2, by show (T2.bs.set k (d : Int)).getD k 0 = d; rw [getDi_set _ _ _ _ (by rw [HS.out.2.2.1.2.2]; omega), if_pos rfl]⟩)
  go_wp2_with fail
  refine hR.mono ?_
  clear hR
  rintro _ wB3 ⟨v3, T3, rfl, hg, hL, hB, hr, hT⟩
  have hs := same_new [(d : Int)] hg.rowR (by simp)
  have HT := Lib.hid (And.intro hL (And.intro hB (And.intro hr hT)))
  clear hg hL hB hr hT HS
  go_wp2_with fail
  refine hs.mono ?_
  clear hs
  rintro _ wC3 ⟨rfl, tC⟩
  have HS := Lib.hid (And.intro (HT.out.1.quiet tC) (And.intro (show BPtr wC3 b s from Blk.touch HT.out.2.1 tC (by simp)) HT.out.2.2))
  clear HT tC
  have hR := ran (ops := [89]) (L := [(k : Int)]) (cs := [(k : Int) + 1, (d : Int)]) (R := fun T => T.here = 8) HS.out.1 HS.out.2.1 (by simp) (by simp) (chain5 HS.out.2.2.1 hk16 HS.out.2.2.2.2) rfl (by simp) (HS.out.2.2.1.of rfl rfl rfl (rfl)) (HS.out.2.2.2.1)
  go_wp2_with fail
  refine hR.mono ?_
  clear hR
  rintro _ wB4 ⟨v4, T4, rfl, hg, hL, hB, hr, hT⟩
  have hs := same_new [(k : Int) + 1, (d : Int)] hg.rowR (by simp)
  have HT := Lib.hid (And.intro hL (And.intro hB (And.intro hr hT)))
  clear hg hL hB hr hT HS
  go_wp2_with fail
  refine hs.mono ?_
  clear hs
  rintro _ wC4 ⟨rfl, tC⟩
  have HS := Lib.hid (And.intro (HT.out.1.quiet tC) (And.intro (show BPtr wC4 b s from Blk.touch HT.out.2.1 tC (by simp)) HT.out.2.2))
  clear HT tC
  have hR := ran (ops := [84, 82]) (L := [x]) (cs := [16]) (R := fun _ => True) HS.out.1 HS.out.2.1 (by simp) (by simp) (chain6 HS.out.2.2.1 HS.out.2.2.2) rfl (by simp) (HS.out.2.2.1.of rfl rfl rfl (putF_len _ _ _ _)) (trivial)
  go_wp2_with fail
  refine hR.mono ?_
  clear hR
  rintro _ wB5 ⟨v5, T5, rfl, hg, hL, hB, hr, hT⟩
  have hs := same_new [16] hg.rowR (by simp)
  have HT := Lib.hid (And.intro hL (And.intro hB (And.intro hr hT)))
  clear hg hL hB hr hT HS
  go_wp2_with fail
  refine hs.mono ?_
  clear hs
  rintro _ wC5 ⟨rfl, tC⟩
  have HS := Lib.hid (And.intro (HT.out.1.quiet tC) (And.intro (show BPtr wC5 b s from Blk.touch HT.out.2.1 tC (by simp)) HT.out.2.2))
  clear HT tC
  have hR := ran (ops := [80, 73]) (L := [(k : Int), (k : Int), 8, (d : Int)]) (cs := [wrap64 ((d : Int) * 72340172838076673)]) (R := fun _ => True) HS.out.1 HS.out.2.1 (by simp) (by simp) (chain7 HS.out.2.2.1 hk16 hk8 HX.out.2.2) rfl (by simp) (HS.out.2.2.1.of rfl rfl rfl (filL_len _ _ _ _)) (trivial)
  go_wp2_with fail
  refine hR.mono ?_
  clear hR
  rintro _ wB6 ⟨v6, T6, rfl, hg, hL, hB, hr, hT⟩
  have hs := same_new [wrap64 ((d : Int) * 72340172838076673)] hg.rowR (by simp)
  have HT := Lib.hid (And.intro hL (And.intro hB (And.intro hr hT)))
  clear hg hL hB hr hT HS
  go_wp2_with fail
  refine hs.mono ?_
  clear hs
  rintro _ wC6 ⟨rfl, tC⟩
  have HS := Lib.hid (And.intro (HT.out.1.quiet tC) (And.intro (show BPtr wC6 b s from Blk.touch HT.out.2.1 tC (by simp)) HT.out.2.2))
  clear HT tC
  have hR := ran (ops := [87, 28, 87]) (L := [x]) (cs := [upF x, upF x]) (R := fun _ => True) HS.out.1 HS.out.2.1 (by simp) (by simp) (chain8 HS.out.2.2.1) rfl (by simp) (HS.out.2.2.1.of rfl rfl rfl (rfl)) (trivial)
  go_wp2_with fail
  refine hR.mono ?_
  clear hR
  rintro _ wB7 ⟨v7, T7, rfl, hg, hL, hB, hr, hT⟩
  obtain ⟨ga, gc, u, u', eu, rfl, c0, c1⟩ := hg.two rfl
  injection eu with eu1 eu2
  injection eu2 with eu2 _
  subst eu1
  subst eu2
  obtain ⟨hu8, _⟩ := up_even x
  obtain ⟨hge, hlt⟩ := up_near x
  generalize upF x = u at *
  have hu : u.tmod 8 = 0 := Int.tmod_eq_zero_of_dvd (Int.dvd_of_emod_eq_zero hu8)
  have hge : wrap64 (u - x) ≥ 0 := hge
  have x0 := cell_quiet (Touch.refl [] wB7).drew c0
  have x1 := cell_quiet (Touch.refl [] wB7).drew c1
  have HF := Lib.hid hL.t.drew
  clear hL hB hr hT hu8 c0 c1 HS
  go_upto_region 15 with fail
  go_region
  all_goals go_wp2_with fail
  all_goals go_ret
  all_goals exact ⟨rfl, HF.out⟩
end Go.Proofs.YtkbchpaofmlhgaaGreatDoor
