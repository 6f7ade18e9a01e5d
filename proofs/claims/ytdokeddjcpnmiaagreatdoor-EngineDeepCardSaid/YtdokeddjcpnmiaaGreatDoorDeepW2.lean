/- EngineDeep: the walk. -/
import Derived.Test.YtdokeddjcpnmiaaGreatDoorDeepW
namespace Go.Proofs.YtdokeddjcpnmiaaGreatDoor
open Go.RowKit
namespace En

set_option maxRecDepth 100000 in
set_option maxHeartbeats 6400000 in
theorem EngineDeep_walkN (d : Nat) (hd : d ≤ 255) (w : World) (ml : Int) (hml : w.cell? ⟨3, 0, none⟩ = some (.int .i64 ml)) : Calls Tryz.prog 8 #[.int .u8 d] w fun e w' => e = .returned (.bool true) ∧ Touch [] w w' := by
  obtain ⟨n, hnd, hn⟩ : ∃ n, d % 151 = n ∧ n ≤ 150 := ⟨_, rfl, by omega⟩
  have hmod : ((d : Int) % 151) = (n : Int) := by omega
  have hS := shown_any w ml hml
  have HML := Lib.hid hml
  have HD := Lib.hid (And.intro hd hnd)
  clear hml hd hnd
  go_enter Tryz.func8, Tryz.ntmps8
  go_wp2_with fail
  refine hS.mono ?_
  rintro _ w0 ⟨rfl, t0⟩
  have hB := built_any w0 ml (cell_quiet t0 HML.out)
  have HT0 := Lib.hid t0
  clear hS t0
  go_wp2_with fail
  refine hB.mono ?_
  rintro _ w1 ⟨g, p, F, S, rfl, hE, hF, t1, hns, hst, hbs, hh, hout, hmade⟩
  have hok : PS.ok S := ⟨by rw [hout]; decide, by rw [hmade]; decide, by rw [hns]; decide, by rw [hns]⟩
  have hFw : ∀ x ∈ F, w.heap.size ≤ x := fun x hx => Nat.le_trans HT0.out.size (hF x hx)
  have tw1 := HT0.out.trans t1 (by simp)
  have hAdd := Add_ok hE (by show wordsT.length < 600; rw [wordsT_len]; decide) 8 0 0 (.inr (.inr (.inr ⟨rfl, by decide, Int.natCast_nonneg _⟩))) ml (cell_quiet tw1 HML.out)
  rw [show ((({ M.new S ins0' with words := wordsT } : M).words.length : Nat) : Int) + 1 = 181 by show ((wordsT.length : Nat) : Int) + 1 = _; rw [wordsT_len]; rfl] at hAdd
  have HG := Lib.hid (And.intro hFw (And.intro tw1 (And.intro hst (And.intro hok hout))))
  clear hE hF t1 hns hst hbs hh hout hmade hok hB hFw tw1
  go_wp2_with fail
  refine hAdd.mono ?_
  rintro _ w2 ⟨rfl, K2⟩
  have K2 : Keep w1 g p F { M.new S ins0' with words := wordsT ++ [(8, 0, 0)] } w2 := K2
  have HX := fun W => xt_any ⟨#[100, 117, 112]⟩ 27 at_dup W
  have HY := fun W => xt_any ⟨#[49, 45]⟩ 4 at_dec W
  rw [show ((27 : Nat) : Int) + 1 = 28 from rfl] at HX
  rw [show ((4 : Nat) : Int) + 1 = 5 from rfl] at HY
  have HX := Lib.hid HX
  have HY := Lib.hid HY
  have HK2 := Lib.hid K2
  clear K2 hAdd
  go_wp2_with fail
  refine Calls.mono (HX.out _) ?_
  rintro _ w3 ⟨rfl, t3⟩
  have HT3 := Lib.hid t3
  clear t3
  go_wp2_with fail
  refine Calls.mono (HY.out _) ?_
  rintro _ w4 ⟨rfl, t4⟩
  have HK4 := Lib.hid ((HK2.out.quiet HT3.out).quiet t4)
  clear t4 HT3 HK2 HX HY
  have hw4 : Hid (∃ F', EngAt w4 g p F' { M.new S ins0' with words := wordsT ++ [(8, 0, 0)] } ∧ (∀ x ∈ F', w.heap.size ≤ x) ∧ Touch [] w w4 ∧ ∀ m2 W2, Keep w4 g p F' m2 W2 → Keep w1 g p F m2 W2) := Lib.hid (by
    obtain ⟨F', h1, h2, h3, _, h5⟩ := keep_own HG.out.1 HG.out.2.1 HK4.out
    exact ⟨F', h1, h2, h3, h5⟩)
  obtain ⟨F4, e4, n4, q4, c4⟩ := hw4.out
  have bB := Blk.new w4 56 #[.int .u8 2, .int .i64 28, .int .i64 0, .int .u8 4, .int .i64 4, .int .i64 0, .int .u8 2, .int .i64 5, .int .i64 0, .int .u8 2, .int .i64 181, .int .i64 0, .int .u8 15, .int .i64 0, .int .i64 0]
  have tB := (Touch.refl [] w4).alloc (.cells #[.int .u8 2, .int .i64 28, .int .i64 0, .int .u8 4, .int .i64 4, .int .i64 0, .int .u8 2, .int .i64 5, .int .i64 0, .int .u8 2, .int .i64 181, .int .i64 0, .int .u8 15, .int .i64 0, .int .i64 0] 56)
  have hDef := Define_ok (e4.touch tB (by simp)) (Nat.zero_le _) (Nat.le_of_ble_eq_true rfl) (deepL 181) (by decide) (by
    intro x hx
    simp only [deepL, List.mem_cons, List.not_mem_nil, or_false] at hx
    rcases hx with rfl | rfl | rfl | rfl | rfl <;> decide) (deep_may 181 _ ⟨by show (28 : Int) ≤ ((wordsT ++ [(8, 0, 0)]).length : Int); rw [List.length_append, wordsT_len]; decide, by decide, by show (181 : Int) ≤ ((wordsT ++ [(8, 0, 0)]).length : Int); rw [List.length_append, wordsT_len]; decide⟩) (.slice (some ⟨w4.heap.size, 0, none⟩) 5 5) (ins_blk (L := deepL 181) bB 5) (fun b hb => by
    simp only [rowOf, List.mem_cons, List.not_mem_nil, or_false] at hb
    rw [hb]
    refine ⟨by rw [World.size_alloc]; omega, fun hx => ?_⟩
    have := e4.lt _ hx
    omega)
  rw [show ((({ M.new S ins0' with words := wordsT ++ [(8, 0, 0)] } : M).ends.length : Nat) : Int) + 1 = 1 from rfl] at hDef
  have HC4 := Lib.hid (And.intro c4 tB)
  clear e4 n4 q4 c4 bB tB hw4 HK4
  go_wp2_with fail
  refine hDef.mono ?_
  rintro _ w5 ⟨rfl, K5⟩
  have K5 := HC4.out.1 _ _ (Keep.pre HC4.out.2 K5)
  obtain ⟨F5, e5, n5, q5, _, c5⟩ := keep_own HG.out.1 HG.out.2.1 K5
  have hSet := Set_ok e5 (by show (wordsT ++ [(8, 0, 0)]).length ≤ 600; rw [List.length_append, wordsT_len]; decide) 180 (by show 180 < (wordsT ++ [(8, 0, 0)]).length; rw [List.length_append, wordsT_len]; decide) 5 1 0 (.inr (.inl ⟨.inl rfl, by decide, by show (1 : Int) ≤ (1 : Int); decide⟩)) ml (cell_quiet q5 HML.out)
  rw [show ((180 : Nat) : Int) + 1 = 181 from rfl] at hSet
  have C5 := Lib.hid c5
  clear K5 e5 n5 q5 c5 hDef HC4
  go_wp2_with fail
  refine hSet.mono ?_
  rintro _ w6 ⟨rfl, K6⟩
  have K6 : Keep w1 g p F (dpM S) w6 := by
    have h := C5.out _ _ K6
    have e : (wordsT ++ [(8, 0, 0)]).set 180 (5, 1, 0) = wordsT ++ [(5, 1, 0)] := by
      rw [List.set_append_right _ _ (by rw [wordsT_len]; exact Nat.le_refl _), wordsT_len]
      rfl
    have e2 : ({ ({ M.new S ins0' with words := wordsT ++ [(8, 0, 0)] } : M).laid (deepL 181) with words := (({ M.new S ins0' with words := wordsT ++ [(8, 0, 0)] } : M).laid (deepL 181)).words.set 180 (5, 1, 0) } : M) = dpM S := by
      show ({ ({ M.new S ins0' with words := wordsT ++ [(8, 0, 0)] } : M).laid (deepL 181) with words := (wordsT ++ [(8, 0, 0)]).set 180 (5, 1, 0) } : M) = _
      rw [e]
      rfl
    rw [e2] at h
    exact h
  obtain ⟨F6, e6, n6, q6, _, c6⟩ := keep_own HG.out.1 HG.out.2.1 K6
  have hFr := frames_eng e6
  have hPu := pushFr_eng e6 tok rfl w6 (Touch.refl [] w6)
  rw [show (dpM S).pushFr tok = (0, { dpM S with fr := [tok] }) from rfl] at hPu
  dsimp only at hPu
  have C6 := Lib.hid c6
  clear K6 e6 n6 q6 c6 hSet C5
  go_wp2_with fail
  refine hFr.mono ?_
  rintro _ _ ⟨rfl, rfl⟩
  clear hFr
  go_wp2_with fail
  refine hPu.mono ?_
  rintro _ w7 ⟨rfl, K7⟩
  have K7 := C6.out _ _ K7
  obtain ⟨F7, e7, n7, q7, _, c7⟩ := keep_own HG.out.1 HG.out.2.1 K7
  have hSt := state_eng e7
  have hSk := e7.stack_of
  have hst7 : ({ dpM S with fr := [tok] } : M).S.st = [] := HG.out.2.2.1
  have b7 := Blk.new w7 33 #[.int .i64 n, .int .i64 181]
  have t7 := (Touch.refl [] w7).alloc (.cells #[.int .i64 n, .int .i64 181] 33)
  have hPut := put_eng (e7.touch t7 (by simp)) (cv := .slice (some ⟨w7.heap.size, 0, none⟩) 2 2) (l := [(n : Int), 181]) (.inr ⟨_, 2, rfl, fun i u hi => by rw [b7.cell i, List.getElem?_toArray]; exact hi⟩) (by rw [hst7]; decide) (by rw [hst7]; exact Nat.le_of_ble_eq_true rfl)
  have C7 := Lib.hid (And.intro c7 t7)
  clear K7 e7 n7 q7 c7 hPu C6 b7 t7 hst7
  go_wp2_with fail
  refine hSt.mono ?_
  rintro _ _ ⟨rfl, rfl⟩
  clear hSt
  go_wp2_with fail
  refine hSk.mono ?_
  rintro _ _ ⟨rfl, rfl⟩
  clear hSk
  go_wp2_with fail
  refine hPut.mono ?_
  rintro _ w8 ⟨rfl, K8⟩
  have K8 : Keep w1 g p F { dpM S with fr := [tok], S := { S with st := [(n : Int), 181] } } w8 := by
    have h := C7.out.1 _ _ (Keep.pre C7.out.2 K8)
    have e : ({ ({ dpM S with fr := [tok] } : M) with S := { ({ dpM S with fr := [tok] } : M).S with st := ({ dpM S with fr := [tok] } : M).S.st ++ [(n : Int), 181] } } : M) = { dpM S with fr := [tok], S := { S with st := [(n : Int), 181] } } := by
      show ({ dpM S with fr := [tok], S := { S with st := S.st ++ [(n : Int), 181] } } : M) = _
      rw [HG.out.2.2.1]
      rfl
    rw [e] at h
    exact h
  have HZ := fun W => xt_any ⟨#[99, 97, 116, 99, 104]⟩ 114 at_catch W
  rw [show ((114 : Nat) : Int) + 1 = 115 from rfl] at HZ
  have HZ := Lib.hid HZ
  have HK8 := Lib.hid K8
  clear K8 hPut C7
  go_wp2_with fail
  refine Calls.mono (HZ.out _) ?_
  rintro _ w9 ⟨rfl, t9⟩
  obtain ⟨F9, e9, n9, q9, _, c9⟩ := keep_own HG.out.1 HG.out.2.1 (HK8.out.quiet t9)
  have hEx := exec_yes e9 (by show (wordsT ++ [(5, 1, 0)]).length ≤ 1000000; rw [List.length_append, wordsT_len]; decide) 115 (2, 8, 0) (word_table (i := 114) (X := [(5, 1, 0)]) rfl w115)
  have C9 := Lib.hid c9
  clear t9 e9 n9 q9 c9 HZ HK8
  go_wp2_with fail
  refine hEx.mono ?_
  rintro _ wA ⟨rfl, KA⟩
  have KA : Keep w1 g p F { dpM S with nx := 115, fr := [tok], S := { S with st := [(n : Int), 181] } } wA := C9.out _ _ KA
  obtain ⟨FA, eA, nA, qA, _, cA⟩ := keep_own HG.out.1 HG.out.2.1 KA
  obtain ⟨st, J, hrun, hst2, hlow, hhigh⟩ := dpRun S n hn
  have hone := dpOne S (wordsT ++ [(5, 1, 0)]) (by rw [List.length_append, wordsT_len]; decide) 115 [tok] [(n : Int), 181]
  have hRun := run_law (D := eD) (bad := fun S => S.out = [7]) eA (hone.fine (Nat.le_of_ble_eq_true rfl) (Nat.le_of_ble_eq_true rfl) ⟨Nat.le_of_ble_eq_true rfl, Nat.le_of_ble_eq_true rfl, by intro o ho; cases ho⟩ HG.out.2.2.2.1) nA qA eD_fine eD_bad (fun S st h => h) (fun n => n = 28 ∨ n = 5) (fun n S hg h1 h2 => eD_do hg h1 h2) (fun n S hg => by
    unfold eD
    rw [if_neg (fun e => hg (.inl e)), if_neg (fun e => hg (.inr e))]
    rfl) (ctl_of (ctl_app _ _ ctl_table rfl)) (hone.noLoc (fun x hx => by
      simp only [deepL, List.mem_cons, List.not_mem_nil, or_false] at hx
      rcases hx with rfl | rfl | rfl | rfl | rfl <;> decide)) 2000 (by decide) hrun (by show ¬ S.out = [7]; rw [HG.out.2.2.2.2]; decide) (fun n hn => absurd hn (nothing_next rfl rfl n))
  rw [show ((2000 : Nat) : Int) = 2000 from rfl] at hRun
  have CA := Lib.hid cA
  have HSt := Lib.hid (And.intro hst2 (And.intro hlow hhigh))
  clear KA eA nA qA cA hEx hone hrun C9 hst2 hlow hhigh
  go_wp2_with fail
  refine hRun.mono ?_
  rintro _ wB ⟨s, mf, rfl, KB, rfl, rfl⟩
  have KB := CA.out _ _ KB
  obtain ⟨FB, eB, nB, qB, _, cB⟩ := keep_own HG.out.1 HG.out.2.1 KB
  have bS := Blk.new wB 48 #[.int .i64 3, .int .i64 6, .int .i64 0]
  have tS := (Touch.refl [] wB).alloc (.cells #[.int .i64 3, .int .i64 6, .int .i64 0] 48)
  have eC := eB.touch tS (by simp)
  have qC := qB.trans tS (by simp)
  obtain ⟨y, hy⟩ : ∃ y, wB.heap.size = y := ⟨_, rfl⟩
  rw [hy] at bS
  unfold stV
  dsimp only
  clear KB eB nB qB cB hRun CA tS
  go_upto_region 15 with fail
  generalize wB.alloc (.cells #[.int .i64 3, .int .i64 6, .int .i64 0] 48) = wC at *
  clear hy
  have hSt3 := state_eng eC
  have hSk3 := eC.stack_of
  have hlen : (({ dpM S with I := J } : M).go 0 0 st [tok]).S.st.length = 2 := HSt.out.1
  have hAll := all_eng eC (by rw [hlen]; decide)
  rw [hlen] at hAll
  have HE := Lib.hid (And.intro eC (And.intro qC bS))
  generalize (({ dpM S with I := J } : M).go 0 0 st [tok]).S.k = kk at *
  clear eC qC bS hlen
  go_wp2_with fail
  refine hSt3.mono ?_
  rintro _ _ ⟨rfl, rfl⟩
  clear hSt3
  go_wp2_with fail
  refine hSk3.mono ?_
  rintro _ _ ⟨rfl, rfl⟩
  clear hSk3
  go_wp2_with fail
  refine hAll.mono ?_
  rintro _ wD ⟨a, c, rfl, ⟨a', c', hac, hcell⟩, tD⟩
  have hst3 : (({ dpM S with I := J } : M).go 0 0 st [tok]).S.st = st := rfl
  rw [hst3] at hac hcell
  obtain ⟨gb, off, ha0, k0⟩ := hcell 0 (by rw [HSt.out.1]; decide)
  obtain ⟨gb2, off2, ha1, k1⟩ := hcell 1 (by rw [HSt.out.1]; decide)
  injection hac with hac1 hac2 hac3
  subst hac1
  rw [ha0] at ha1
  injection ha1 with ha1
  injection ha1 with hb1 hb2
  subst hb1 hb2 ha0
  rw [Nat.add_zero] at k0
  have eD := HE.out.1.touch tD (by simp)
  have qD := HE.out.2.1.trans tD (by simp)
  have bD := HE.out.2.2.touch tD (by simp)
  have y0 : wD.cell? ⟨y, 0, none⟩ = some (.int .i64 3) := bD.cell 0
  have hFr3 := frames_eng eD
  have hDp3 := frDepth_eng eD
  have hdl : (({ dpM S with I := J } : M).go 0 0 st [tok]).fr.length = 1 := rfl
  rw [hdl] at hDp3
  have QD := Lib.hid qD
  obtain ⟨x, hx⟩ : ∃ x, st.getD 0 0 = x := ⟨_, rfl⟩
  obtain ⟨z, hz⟩ : ∃ z, st.getD 1 0 = z := ⟨_, rfl⟩
  rw [hx] at k0
  rw [hz] at k1
  have HXZ := Lib.hid (And.intro hx hz)
  clear hcell hac2 hac3 tD eD qD bD hAll hst3 hdl hx hz
  go_wp2_with fail
  refine hFr3.mono ?_
  rintro _ _ ⟨rfl, rfl⟩
  clear hFr3
  go_wp2_with fail
  refine hDp3.mono ?_
  rintro _ _ ⟨rfl, rfl⟩
  clear hDp3
  rcases Nat.lt_or_ge n 125 with hlo | hhi
  · have hxz : x = 0 ∧ z = 0 := by
      have e := HSt.out.2.1 (by omega)
      have e1 := HXZ.out.1
      have e2 := HXZ.out.2
      rw [e] at e1 e2
      exact ⟨e1.symm, e2.symm⟩
    obtain ⟨rfl, rfl⟩ := hxz
    have g1 : ¬ (125 : Int) < (n : Int) + 1 := by omega
    go_wp2_with fail
    go_ret
    exact ⟨rfl, QD.out⟩
  · have hzz : z = -5 := by
      rw [← HXZ.out.2]
      exact HSt.out.2.2 hhi
    subst hzz
    have g1 : (125 : Int) < (n : Int) + 1 := by omega
    go_wp2_with fail
    go_ret
    exact ⟨rfl, QD.out⟩
theorem EngineDeep_walk (x : Int) (w : World) (hx : 0 ≤ x ∧ x ≤ 255) (ml : Int) (hml : w.cell? ⟨3, 0, none⟩ = some (.int .i64 ml)) : Calls Tryz.prog 8 #[.int .u8 x] w fun e w' => e = .returned (.bool true) ∧ Touch [] w w' := by
  obtain ⟨d, rfl⟩ : ∃ d : Nat, x = d := ⟨x.toNat, by omega⟩
  exact EngineDeep_walkN d (by omega) w ml hml
end En
end Go.Proofs.YtdokeddjcpnmiaaGreatDoor
