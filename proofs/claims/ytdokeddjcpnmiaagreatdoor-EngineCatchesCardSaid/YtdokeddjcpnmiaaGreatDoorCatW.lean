/- EngineCatches: the walk. -/
import Derived.Test.YtdokeddjcpnmiaaGreatDoorCatP
import Derived.Deep.CutRange
namespace Go.Proofs.YtdokeddjcpnmiaaGreatDoor
open Go.RowKit
namespace En

set_option maxRecDepth 100000 in
set_option maxHeartbeats 6400000 in
theorem EngineCatches_walk (code x1 x2 x3 x4 : Int) (w : World) (_hcode : -9223372036854775808 ≤ code ∧ code ≤ 9223372036854775807) (h1 : 0 ≤ x1 ∧ x1 ≤ 255) (h2 : 0 ≤ x2 ∧ x2 ≤ 255) (h3 : 0 ≤ x3 ∧ x3 ≤ 255) (h4 : 0 ≤ x4 ∧ x4 ≤ 255) (ml : Int) (hml : w.cell? ⟨3, 0, none⟩ = some (.int .i64 ml)) : Calls Tryz.prog 9 #[.int .i64 code, .int .u8 x1, .int .u8 x2, .int .u8 x3, .int .u8 x4] w fun e w' => e = .returned (.bool true) ∧ Touch [] w w' := by
  obtain ⟨n1, hn1, hn1l⟩ : ∃ n1 : Nat, x1 % 31 = n1 ∧ n1 ≤ 30 := ⟨(x1 % 31).toNat, by omega, by omega⟩
  obtain ⟨n2, hn2, hn2l⟩ : ∃ n2 : Nat, x2 % 31 = n2 ∧ n2 ≤ 30 := ⟨(x2 % 31).toNat, by omega, by omega⟩
  obtain ⟨n3, hn3, hn3l⟩ : ∃ n3 : Nat, x3 % 21 = n3 ∧ n3 ≤ 20 := ⟨(x3 % 21).toNat, by omega, by omega⟩
  obtain ⟨n4, hn4, hn4l⟩ : ∃ n4 : Nat, x4 % 6 = n4 ∧ n4 ≤ 5 := ⟨(x4 % 6).toNat, by omega, by omega⟩
  have hS := shown_any w ml hml
  have HML := Lib.hid hml
  clear hml
  have hP := fun W => PNew_ok 1024 (by decide) (by decide) (by decide) W
  rw [show ((1024 : Nat) : Int) = 1024 from rfl] at hP
  have HP := Lib.hid hP
  clear hP
  go_enter Tryz.func9, Tryz.ntmps9
  go_wp2_with fail
  refine hS.mono ?_
  rintro _ w0 ⟨rfl, t0⟩
  have HT0 := Lib.hid t0
  clear hS t0
  go_wp2_with fail
  refine (HP.out _).mono ?_
  rintro _ w1 ⟨s, FS, S, rfl, hSt, hFS, t1, e1, e2, e3, e4, e5, e6⟩
  have hb := hSt
  obtain ⟨FK, ov, mv, hp, rfl⟩ := hb
  have hK := fun W (t : Touch [] w1 W) => PStack_cell W s S.k (cell_quiet t (hp.blk.cell 1))
  have HK := Lib.hid hK
  have HH := Lib.hid (And.intro hSt (And.intro hFS (And.intro (HT0.out.trans t1 (by simp)) (And.intro e1 (And.intro e2 (And.intro e5 e6))))))
  clear hSt hFS t1 e1 e2 e3 e4 e5 e6 hp hK
  have hN := SrcNew_any w1
  go_wp2_with fail
  refine hN.mono ?_
  rintro _ _ ⟨rfl, rfl⟩
  clear hN
  have hI := in_new w1
  have tI := (Touch.refl [] w1).alloc (.cells (inCells ⟨.none, [], 0⟩ (.slice none 0 0)) 115)
  have hS2 := State_touch HH.out.1 tI (by simp)
  have hlt := HH.out.1.lt
  obtain ⟨i, hi⟩ : ∃ i, w1.heap.size = i := ⟨_, rfl⟩
  have hK2 := HK.out _ tI
  have hwi : w.heap.size ≤ i := by rw [← hi]; exact HH.out.2.2.1.size
  rw [hi] at hI
  rw [hi]
  have HLT := Lib.hid (fun x hx => (show x < i by rw [← hi]; exact hlt x hx))
  have HFS := Lib.hid (fun x hx => (show w.heap.size ≤ x from Nat.le_trans HT0.out.size (HH.out.2.1 x hx)))
  have HTI := Lib.hid (HH.out.2.2.1.trans tI (by simp))
  clear hi hlt tI
  generalize w1.alloc (.cells (inCells ⟨.none, [], 0⟩ (.slice none 0 0)) 115) = w2 at *
  have hO := Open_yes _ i _ ins0' s3 hI (by decide) (by decide) (by decide)
  have HS2 := Lib.hid (And.intro hS2 (And.intro hwi hI.lt))
  clear hS2 hwi hI
  go_wp2_with fail
  refine hK2.mono ?_
  rintro _ _ ⟨rfl, rfl⟩
  clear hK2
  go_wp2_with fail
  refine hO.mono ?_
  rintro _ w3 ⟨rfl, FI, hI3, tO, sO⟩
  have hil : i < w2.heap.size := HS2.out.2.2 i (by simp)
  have hS3 := State_touch HS2.out.1 tO (fun x hx hxi => by rw [List.mem_singleton.1 hxi] at hx; have := HLT.out _ hx; omega)
  have t3 : Touch [] w w3 := HTI.out.trans tO (fun x hx => .inr (by rw [List.mem_singleton.1 hx]; exact HS2.out.2.1))
  have hFI : ∀ x ∈ FI, i ≤ x := fun x hx => by
    rcases sO x hx with e | e
    · rw [List.mem_singleton.1 e]; exact Nat.le_refl _
    · omega
  have hE := ENew_any w3 s i _ FI S I1 hS3 hI3 (fun x hx hx2 => by have h8 := HLT.out x hx; have h9 := hFI x hx2; omega)
  have HF3 := Lib.hid (And.intro t3 hFI)
  clear hO hI3 tO sO hil hS3 t3 hFI
  go_wp2_with fail
  refine hE.mono ?_
  rintro _ w4 ⟨g, f, F, rfl, hE4, t4, _, _, hF4⟩
  have H4 : Hid (CeG w g ⟨s, i, f⟩ (M.new S I1) [] [] (.slice none 0 0) (.slice none 0 0) w4) := Lib.hid ⟨⟨F, hE4, fun x hx => by
    rcases hF4 x hx with e | e | e
    · exact HFS.out x e
    · exact Nat.le_trans HS2.out.2.1 (HF3.out.2 x e)
    · exact Nat.le_trans HF3.out.1.size e, by simp [rowOf], by simp [rowOf]⟩, CodeRow.none _ _, WantRow.none _ _, by simp [rowOf], HF3.out.1.trans t4 (by simp)⟩
  have hFr := frames_eng hE4
  have hok : PS.ok S := ⟨by rw [HH.out.2.2.2.2.2.1]; decide, by rw [HH.out.2.2.2.2.2.2]; decide, by rw [HH.out.2.2.2.1]; decide, by rw [HH.out.2.2.2.1]⟩
  have HSS := Lib.hid (And.intro HH.out.2.2.2.2.1 (And.intro hok HH.out.2.2.2.2.2.1))
  clear hok
  clear hE hE4 t4 hF4 HF3 HS2 HTI
  go_wp2_with fail
  refine hFr.mono ?_
  rintro _ _ ⟨rfl, rfl⟩
  clear hFr
  obtain ⟨F', hE, hFn, _, hcall⟩ := H4.out.call
  have hAdd := Add_ok hE (Nat.le_of_ble_eq_true rfl) 2 1 0 (.inl ⟨by decide, by decide, by decide, by decide⟩) ml (cell_quiet H4.out.touch HML.out)
  rw [show (((M.new S I1).words.length : Nat) : Int) + 1 = 1 from rfl] at hAdd
  have HCL := Lib.hid hcall
  clear hE hFn hcall
  go_wp2_with fail
  refine hAdd.mono ?_
  rintro _ w5 ⟨rfl, K5⟩
  have H5 := Lib.hid (HCL.out _ _ K5)
  clear hAdd K5 HCL H4
  obtain ⟨F', hE, hFn, _, hcall⟩ := H5.out.call
  have hAdd := Add_ok hE (Nat.le_of_ble_eq_true rfl) 2 9 0 (.inl ⟨by decide, by decide, by decide, by decide⟩) ml (cell_quiet H5.out.touch HML.out)
  rw [show ((({ M.new S I1 with words := (M.new S I1).words ++ [(2, 1, 0)] } : M).words.length : Nat) : Int) + 1 = 2 from rfl] at hAdd
  have HCL := Lib.hid hcall
  clear hE hFn hcall
  go_wp2_with fail
  refine hAdd.mono ?_
  rintro _ w6 ⟨rfl, K6⟩
  have H6 := Lib.hid (HCL.out _ _ K6)
  clear hAdd K6 HCL H5
  obtain ⟨F', hE, hFn, _, hcall⟩ := H6.out.call
  have hAdd := Add_ok hE (Nat.le_of_ble_eq_true rfl) 2 8 0 (.inl ⟨by decide, by decide, by decide, by decide⟩) ml (cell_quiet H6.out.touch HML.out)
  rw [show ((({ M.new S I1 with words := (M.new S I1).words ++ [(2, 1, 0)] ++ [(2, 9, 0)] } : M).words.length : Nat) : Int) + 1 = 3 from rfl] at hAdd
  have HCL := Lib.hid hcall
  clear hE hFn hcall
  go_wp2_with fail
  refine hAdd.mono ?_
  rintro _ w7 ⟨rfl, K7⟩
  have H7 : Hid (CeG w g ⟨s, i, f⟩ { M.new S I1 with words := caW } ((List.replicate 0 [((1 : Int), (0 : Int), (1 : Int)), (2, 1, 0)]).flatten) [] (.slice none 0 0) (.slice none 0 0) w7) := Lib.hid (HCL.out _ _ K7)
  clear hAdd K7 HCL H6
  have hm1 : x1.tmod 31 = n1 := by rw [Int.tmod_eq_emod_of_nonneg h1.1]; exact hn1
  have HN1 := Lib.hid (And.intro hn1 hm1)
  go_wp2_with fail
  go_loopw [81, 22] (fun iv cv wr => ∃ j : Nat, j ≤ n1 ∧ iv = .int .u8 j ∧ CeG w g ⟨s, i, f⟩ { M.new S I1 with words := caW } ((List.replicate j [((1 : Int), (0 : Int), (1 : Int)), (2, 1, 0)]).flatten) [] cv (.slice none 0 0) wr) (fun iv _ _ => n1 - (intOf iv).toNat)
  case atStart => exact ⟨0, Nat.zero_le _, rfl, H7.out⟩
  case round =>
    obtain ⟨j, hj, rfl, hR⟩ := hrel
    clear H7
    obtain ⟨ca, cc, hcv⟩ := hR.code.form
    have hln : ((List.replicate j [((1 : Int), (0 : Int), (1 : Int)), (2, 1, 0)]).flatten).length = 2 * j := flat_len j _ _
    rw [hln] at hcv
    subst hcv
    rcases Nat.lt_or_ge j n1 with hlt | hge
    · have tB := (Touch.refl [] wr).alloc (.cells #[.int .u8 1, .int .i64 0, .int .i64 1, .int .u8 2, .int .i64 1, .int .i64 0] 56)
      have HB4 := Lib.hid (And.intro (hR.quiet tB).code (And.intro (hR.quiet tB).touch.size (fun v' w2 q1 q2 q3 => hR.code_next (X := [((1 : Int), (0 : Int), (1 : Int)), (2, 1, 0)]) (v' := v') (w2 := w2) tB q1 q2 q3)))
      have HLN := Lib.hid hln
      have hu8 : IntKind.u8.wrap ((j : Int) + 1) = ((j + 1 : Nat) : Int) := by unfold IntKind.wrap; simp [IntKind.signed, IntKind.bits]; omega
      clear hR tB hln
      go_wp2_with (refine wpList_code rfl (.tmp 83) (.tmp 87) rfl w.heap.size (.slice ca (2 * j) cc) ((List.replicate j [((1 : Int), (0 : Int), (1 : Int)), (2, 1, 0)]).flatten) [(1, 0, 1), (2, 1, 0)] (by simp [Act.eval]) HB4.out.1 wr.heap.size 2 2 (by simp [Act.eval]) rfl (Blk.new wr _ _) (by omega) (by rw [HLN.out]; omega) HB4.out.2.1 ?_; intro v6 w6 h6 g6 a6 f6)
      have H6 := Lib.hid (show CeG w g ⟨s, i, f⟩ { M.new S I1 with words := caW } ((List.replicate (j + 1) [((1 : Int), (0 : Int), (1 : Int)), (2, 1, 0)]).flatten) [] v6 (.slice none 0 0) w6 by
        rw [List.replicate_succ', List.flatten_append]
        exact HB4.out.2.2 v6 w6 h6 g6 a6)
      clear h6 g6 a6 f6
      go_roundw
      case rel => exact ⟨j + 1, by omega, by simp, H6.out⟩
      case measure => simp only [intOf]; omega
    · obtain rfl : j = n1 := by omega
      have hm2 : x2.tmod 31 = n2 := by rw [Int.tmod_eq_emod_of_nonneg h2.1]; exact hn2
      have H2 := Lib.hid (show CeG w g ⟨s, i, f⟩ { M.new S I1 with words := caW } ((List.replicate j [((1 : Int), (0 : Int), (1 : Int)), (2, 1, 0)]).flatten ++ List.replicate 0 ((1 : Int), (0 : Int), (2 : Int))) [] (.slice ca (2 * j) cc) (.slice none 0 0) wr by
        rw [List.replicate_zero, List.append_nil]
        exact hR)
      clear hR hln hge hj
      go_wp2_with fail
      go_loopw [92, 22] (fun iv cv wr => ∃ q : Nat, q ≤ n2 ∧ iv = .int .u8 q ∧ CeG w g ⟨s, i, f⟩ { M.new S I1 with words := caW } ((List.replicate j [((1 : Int), (0 : Int), (1 : Int)), (2, 1, 0)]).flatten ++ List.replicate q ((1 : Int), (0 : Int), (2 : Int))) [] cv (.slice none 0 0) wr) (fun iv _ _ => n2 - (intOf iv).toNat)
      case atStart => exact ⟨0, Nat.zero_le _, rfl, H2.out⟩
      case round =>
        obtain ⟨q, hq, rfl, hR⟩ := hrel
        clear H2
        obtain ⟨ca2, cc2, hcv⟩ := hR.code.form
        have hln : ((List.replicate j [((1 : Int), (0 : Int), (1 : Int)), (2, 1, 0)]).flatten ++ List.replicate q ((1 : Int), (0 : Int), (2 : Int))).length = 2 * j + q := by rw [List.length_append, flat_len, List.length_replicate]
        rw [hln] at hcv
        subst hcv
        rcases Nat.lt_or_ge q n2 with hlt | hge
        · have tB := (Touch.refl [] wr).alloc (.cells #[.int .u8 1, .int .i64 0, .int .i64 2] 56)
          have HB4 := Lib.hid (And.intro (hR.quiet tB).code (And.intro (hR.quiet tB).touch.size (fun v' w2 q1 q2 q3 => hR.code_next (X := [((1 : Int), (0 : Int), (2 : Int))]) (v' := v') (w2 := w2) tB q1 q2 q3)))
          have HLN := Lib.hid hln
          have hu8 : IntKind.u8.wrap ((q : Int) + 1) = ((q + 1 : Nat) : Int) := by unfold IntKind.wrap; simp [IntKind.signed, IntKind.bits]; omega
          clear hR tB hln
          go_wp2_with (refine wpList_code rfl (.tmp 94) (.tmp 96) rfl w.heap.size (.slice ca2 (2 * j + q) cc2) ((List.replicate j [((1 : Int), (0 : Int), (1 : Int)), (2, 1, 0)]).flatten ++ List.replicate q ((1 : Int), (0 : Int), (2 : Int))) [(1, 0, 2)] (by simp [Act.eval]) HB4.out.1 wr.heap.size 1 1 (by simp [Act.eval]) rfl (Blk.new wr _ _) (by omega) (by rw [HLN.out]; omega) HB4.out.2.1 ?_; intro v6 w6 h6 g6 a6 f6)
          have H6 := Lib.hid (show CeG w g ⟨s, i, f⟩ { M.new S I1 with words := caW } ((List.replicate j [((1 : Int), (0 : Int), (1 : Int)), (2, 1, 0)]).flatten ++ List.replicate (q + 1) ((1 : Int), (0 : Int), (2 : Int))) [] v6 (.slice none 0 0) w6 by
            rw [List.replicate_succ', ← List.append_assoc]
            exact HB4.out.2.2 v6 w6 h6 g6 a6)
          clear h6 g6 a6 f6
          go_roundw
          case rel => exact ⟨q + 1, by omega, by simp, H6.out⟩
          case measure => simp only [intOf]; omega
        · obtain rfl : q = n2 := by omega
          have tB := (Touch.refl [] wr).alloc (.cells #[.int .u8 1, .int .i64 0, .int .i64 code, .int .u8 2, .int .i64 2, .int .i64 0] 56)
          have HB4 := Lib.hid (And.intro (hR.quiet tB).code (And.intro (hR.quiet tB).touch.size (And.intro (fun v' w2 q1 q2 q3 => hR.code_next (X := [((1 : Int), (0 : Int), code), (2, 2, 0)]) (v' := v') (w2 := w2) tB q1 q2 q3) hR)))
          have HLN := Lib.hid hln
          clear hR tB hln hge hq
          go_upto_region 22 with (refine wpList_code rfl (.tmp 99) (.tmp 104) rfl w.heap.size (.slice ca2 (2 * j + q) cc2) ((List.replicate j [((1 : Int), (0 : Int), (1 : Int)), (2, 1, 0)]).flatten ++ List.replicate q ((1 : Int), (0 : Int), (2 : Int))) [(1, 0, code), (2, 2, 0)] (by simp [Act.eval]) HB4.out.1 wr.heap.size 2 2 (by simp [Act.eval]) rfl (Blk.new wr _ _) (by omega) (by rw [HLN.out]; omega) HB4.out.2.1 ?_; intro v6 w6 h6 g6 a6 f6)
          have H6 := Lib.hid (And.intro (HB4.out.2.2.1 v6 w6 h6 g6 a6) HLN.out)
          have f6' := f6
          rw [HLN.out] at f6'
          obtain ⟨fa, fc, rfl⟩ := f6'
          clear h6 g6 a6 f6 HB4 HLN
          go_upto_if 107 with fail
          go_cut [22] from 106 to 107 (fun v wx => ∃ LX ln la lc, v = .slice la ln lc ∧ LX.length = ln ∧ ln ≤ 93 ∧ LX ++ [((15 : Int), (0 : Int), (0 : Int))] = catchL j q code ∧ CeG w g ⟨s, i, f⟩ { M.new S I1 with words := caW } LX [] v (.slice none 0 0) wx)
          case first =>
            by_cases hc0 : code = 0
            · subst hc0
              go_wp2_with fail
              go_meet
              exact ⟨[], 0, none, 0, rfl, rfl, by omega, rfl, H6.out.1.code_nil⟩
            · have hc1 : (code == 0) = false := by simpa using hc0
              have HC0 := Lib.hid hc0
              clear hc0
              go_wp2_with fail
              go_meet
              refine ⟨_, _, _, _, rfl, ?_, ?_, ?_, H6.out.1⟩
              · rw [List.length_append, H6.out.2]; rfl
              · omega
              · unfold catchL
                rw [if_neg HC0.out, List.append_assoc, List.append_assoc]
                rfl
          case rest =>
            obtain ⟨LX, ln, la, lc, rfl, hLX, hlnb, hcat, hR⟩ := hcut
            have tB := (Touch.refl [] wc).alloc (.cells #[.int .u8 15, .int .i64 0, .int .i64 0] 56)
            have HB4 := Lib.hid (And.intro (hR.quiet tB).code (And.intro (hR.quiet tB).touch.size (fun v' w2 q1 q2 q3 => hR.code_next (X := [((15 : Int), (0 : Int), (0 : Int))]) (v' := v') (w2 := w2) tB q1 q2 q3)))
            have HLX := Lib.hid (And.intro hLX hcat)
            clear hR tB hLX hcat H6
            go_upto_region 24 with fail
            go_wp2_with (refine wpList_code rfl (.tmp 110) (.tmp 112) rfl w.heap.size (.slice la ln lc) LX [(15, 0, 0)] (by simp [Act.eval]) HB4.out.1 wc.heap.size 1 1 (by simp [Act.eval]) rfl (Blk.new wc _ _) (by omega) (by rw [HLX.out.1]; omega) HB4.out.2.1 ?_; intro v6 w6 h6 g6 a6 f6; obtain ⟨fa, fc, rfl⟩ := f6)
            rw [HLX.out.1] at h6 a6 ⊢
            have hR6 : CeG w g ⟨s, i, f⟩ { M.new S I1 with words := caW } (catchL j q code) [] (.slice fa (ln + 1) fc) (.slice none 0 0) w6 := by
              have h9 := HB4.out.2.2 _ w6 h6 g6 a6
              rw [HLX.out.2] at h9
              exact h9
            obtain ⟨F', hE, hFn, hrow, hcall⟩ := hR6.call
            have hone := caOne S I1 j q code hn1l hn2l 0 S [] I1
            have hDef := Define_ok hE (Nat.zero_le _) (Nat.le_of_ble_eq_true rfl) (catchL j q code) hone.len hone.op (catch_may j q code _ hn1l hn2l (by show (3 : Int) ≤ 3; decide)) (.slice fa (ln + 1) fc) (CodeRow.insAt hR6.code) hrow
            rw [show ((({ M.new S I1 with words := caW } : M).ends.length : Nat) : Int) + 1 = 1 from rfl] at hDef
            have HCL := Lib.hid hcall
            clear hE hFn hrow hcall hone hR6 h6 g6 a6 HB4
            refine hDef.mono ?_
            rintro _ w7 ⟨rfl, K7⟩
            have hR7 := HCL.out _ _ K7
            obtain ⟨F', hE, hFn, hrow, hcall⟩ := hR7.call
            have hAdd := Add_ok hE (Nat.le_of_ble_eq_true rfl) 5 1 0 (.inr (.inl ⟨.inl rfl, by decide, by show (1 : Int) ≤ (1 : Int); decide⟩)) ml (cell_quiet hR7.touch HML.out)
            rw [show (((({ M.new S I1 with words := caW } : M).laid (catchL j q code)).words.length : Nat) : Int) + 1 = 4 from rfl] at hAdd
            have HCL := Lib.hid hcall
            clear hE hFn hrow hcall hDef hR7 K7
            go_wp2_with fail
            refine hAdd.mono ?_
            rintro _ w8 ⟨rfl, K8⟩
            have H8 : Hid (CeG w g ⟨s, i, f⟩ (caM S I1 j q code) (catchL j q code) [] (.slice fa (ln + 1) fc) (.slice none 0 0) w8) := Lib.hid (HCL.out _ _ K8)
            clear hAdd K8
            have hm3 : x3.tmod 21 = n3 := by rw [Int.tmod_eq_emod_of_nonneg h3.1]; exact hn3
            have hS0 : S = { S with st := [] } := by have := HSS.out.1; cases S; simp at this; subst this; rfl
            have H8' : Hid (CeG w g ⟨s, i, f⟩ { caM S I1 j q code with S := { S with st := (List.range 0).map (fun i : Nat => (i : Int)) } } (catchL j q code) [] (.slice fa (ln + 1) fc) (.slice none 0 0) w8) := Lib.hid (by
              have h9 := H8.out
              have e : ({ caM S I1 j q code with S := { S with st := (List.range 0).map (fun i : Nat => (i : Int)) } } : M) = caM S I1 j q code := by
                show ({ caM S I1 j q code with S := { S with st := [] } } : M) = _
                rw [← hS0]
                rfl
              rw [e]
              exact h9)
            clear H8 hS0
            go_wp2_with fail
            go_loopw [139] (fun iv wr => ∃ t : Nat, t ≤ n3 ∧ iv = .int .i64 t ∧ CeG w g ⟨s, i, f⟩ { caM S I1 j q code with S := { S with st := (List.range t).map (fun i : Nat => (i : Int)) } } (catchL j q code) [] (.slice fa (ln + 1) fc) (.slice none 0 0) wr) (fun iv _ => n3 - (intOf iv).toNat)
            case atStart => exact ⟨0, Nat.zero_le _, rfl, H8'.out⟩
            case round =>
              obtain ⟨t, ht, rfl, hR⟩ := hrel
              clear H8'
              rcases Nat.lt_or_ge t n3 with hlt | hge
              · obtain ⟨F', hE, hFn, hrow, hcall⟩ := hR.call
                have hSk := hE.stack_of
                have hlen : ((List.range t).map (fun i : Nat => (i : Int))).length = t := by rw [List.length_map, List.length_range]
                have hPu := stPush_eng hE (by show ((List.range t).map (fun i : Nat => (i : Int))).length ≤ 128; omega) (t : Int)
                have hpo : ({ caM S I1 j q code with S := { S with st := (List.range t).map (fun i : Nat => (i : Int)) } } : M).push (t : Int) = (0, { caM S I1 j q code with S := { S with st := (List.range (t + 1)).map (fun i : Nat => (i : Int)) } }) := by
                  unfold M.push pushS
                  rw [if_pos (by show ((List.range t).map (fun i : Nat => (i : Int))).length < 128; omega), List.range_succ, List.map_append]
                  rfl
                rw [hpo] at hPu
                dsimp only at hPu
                have HCL := Lib.hid hcall
                clear hE hFn hrow hcall hR hpo hlen
                go_wp2_with fail
                refine hSk.mono ?_
                rintro _ _ ⟨rfl, rfl⟩
                clear hSk
                go_wp2_with fail
                refine hPu.mono ?_
                rintro _ w9 ⟨rfl, K9⟩
                have H9 := Lib.hid (HCL.out _ _ K9)
                clear hPu K9
                go_wp2_with fail
                go_roundw
                case rel => exact ⟨t + 1, by omega, vint (by omega), H9.out⟩
                case measure => simp only [intOf]; omega
              · obtain rfl : t = n3 := by omega
                obtain ⟨F', hE, hFn, hrow, hcall⟩ := hR.call
                have hWd := word_eng hE (by show s3.size ≤ 1000; decide)
                have HCL := Lib.hid hcall
                clear hE hFn hrow hcall hR hge ht
                go_wp2_with fail
                refine hWd.mono ?_
                rintro _ w9 ⟨rfl, K9⟩
                have hR9 : CeG w g ⟨s, i, f⟩ { caM S I1 j q code with S := { S with st := (List.range t).map (fun i : Nat => (i : Int)) }, I := I2 } (catchL j q code) [] (.slice fa (ln + 1) fc) (.slice none 0 0) w9 := HCL.out _ _ K9
                obtain ⟨F', hE, hFn, hrow, hcall⟩ := hR9.call
                have hIn := inIn_eng hE
                have hFr := frames_eng hE
                have hPu := pushFr_eng hE tok rfl w9 (Touch.refl [] w9)
                rw [show ({ caM S I1 j q code with S := { S with st := (List.range t).map (fun i : Nat => (i : Int)) }, I := I2 } : M).pushFr tok = (0, { caM S I1 j q code with S := { S with st := (List.range t).map (fun i : Nat => (i : Int)) }, I := I2, fr := [tok] }) from rfl] at hPu
                dsimp only at hPu hIn
                have HCL := Lib.hid hcall
                clear hE hFn hrow hcall hR9 hWd K9
                go_wp2_with fail
                refine hIn.mono ?_
                rintro _ _ ⟨rfl, rfl⟩
                clear hIn
                go_wp2_with fail
                refine hFr.mono ?_
                rintro _ _ ⟨rfl, rfl⟩
                clear hFr
                go_wp2_with fail
                refine hPu.mono ?_
                rintro _ w10 ⟨rfl, K10⟩
                have hR10 : CeG w g ⟨s, i, f⟩ { caM S I1 j q code with S := { S with st := (List.range t).map (fun i : Nat => (i : Int)) }, I := I2, fr := [tok] } (catchL j q code) [] (.slice fa (ln + 1) fc) (.slice none 0 0) w10 := HCL.out _ _ K10
                obtain ⟨F', hE, hFn, hrow, hcall⟩ := hR10.call
                have hSk := hE.stack_of
                have hlen : ((List.range t).map (fun i : Nat => (i : Int))).length = t := by rw [List.length_map, List.length_range]
                have hPu := stPush_eng hE (by show ((List.range t).map (fun i : Nat => (i : Int))).length ≤ 128; omega) 4
                have hpo : ({ caM S I1 j q code with S := { S with st := (List.range t).map (fun i : Nat => (i : Int)) }, I := I2, fr := [tok] } : M).push 4 = (0, { caM S I1 j q code with S := { S with st := (List.range t).map (fun i : Nat => (i : Int)) ++ [4] }, I := I2, fr := [tok] }) := by
                  unfold M.push pushS
                  rw [if_pos (by show ((List.range t).map (fun i : Nat => (i : Int))).length < 128; omega)]
                rw [hpo] at hPu
                dsimp only at hPu
                have HCL := Lib.hid hcall
                have HLEN := Lib.hid hlen
                clear hE hFn hrow hcall hR10 K10 hpo hlen
                go_wp2_with fail
                refine hSk.mono ?_
                rintro _ _ ⟨rfl, rfl⟩
                clear hSk
                go_wp2_with fail
                refine hPu.mono ?_
                rintro _ w11 ⟨rfl, K11⟩
                have hR11 : CeG w g ⟨s, i, f⟩ { caM S I1 j q code with S := { S with st := (List.range t).map (fun i : Nat => (i : Int)) ++ [4] }, I := I2, fr := [tok] } (catchL j q code) [] (.slice fa (ln + 1) fc) (.slice none 0 0) w11 := HCL.out _ _ K11
                obtain ⟨F', hE, hFn, hrow, hcall⟩ := hR11.call
                have hEx := exec_yes hE (Nat.le_of_ble_eq_true rfl) 3 (2, 8, 0) rfl
                have HCL := Lib.hid hcall
                clear hE hFn hrow hcall hR11 K11 hPu
                go_wp2_with fail
                refine hEx.mono ?_
                rintro _ w12 ⟨rfl, K12⟩
                have hR12 : CeG w g ⟨s, i, f⟩ { caM S I1 j q code with nx := 3, fr := [tok], S := { S with st := (List.range t).map (fun i : Nat => (i : Int)) ++ [4] }, I := I2 } (catchL j q code) [] (.slice fa (ln + 1) fc) (.slice none 0 0) w12 := HCL.out _ _ K12
                obtain ⟨F', hE, hFn, hrow, hcall⟩ := hR12.call
                have hone := caOne S I1 j q code hn1l hn2l 3 { S with st := (List.range t).map (fun i : Nat => (i : Int)) ++ [4] } [tok] I2
                have hctl : CtlOk ({ caM S I1 j q code with nx := 3, fr := [tok], S := { S with st := (List.range t).map (fun i : Nat => (i : Int)) ++ [4] }, I := I2 } : M) := ctl_of rfl
                have hStep := Step_sem hE (hone.fine (by show ((List.range t).map (fun i : Nat => (i : Int)) ++ [4]).length ≤ 128; rw [List.length_append, HLEN.out]; show t + 1 ≤ 128; omega) (Nat.le_of_ble_eq_true rfl) ⟨Nat.le_of_ble_eq_true rfl, by show s3.size ≤ 1000; decide, I2_bt.all⟩ HSS.out.2.1) hFn hR12.touch pD_fine (fun n hn => by
                  rcases hn with ⟨_, v, hw⟩ | ⟨h0, _⟩
                  · have e : some ((2 : Int), (8 : Int), (0 : Int)) = some (1, n, v) := hw
                    injection e with e
                    injection e with e _
                    exact absurd e (by decide)
                  · exact absurd h0 (show ¬ (3 : Int) = 0 by decide)) hctl (fun op a v ha => by
                  unfold M.at_ at ha
                  rw [if_pos (.inl (show (0 : Int) < 1 by decide))] at ha
                  cases ha)
                rw [caStep S I1 j q code ((List.range t).map (fun i : Nat => (i : Int))) I2] at hStep
                dsimp only at hStep
                rw [HLEN.out] at hStep
                have HCL := Lib.hid hcall
                have hfk := status_kind
                clear hE hFn hrow hcall hR12 K12 hEx hone hctl
                go_wp2_with fail
                refine hStep.mono ?_
                rintro _ w13 ⟨rfl, K13⟩
                have hR13 : CeG w g ⟨s, i, f⟩ { caM S I1 j q code with nx := 4, fr := [tok, callFr 0 0, ⟨5, ((t : Nat) : Int), 1, I2.cur.on, 0, []⟩], S := { S with st := (List.range t).map (fun i : Nat => (i : Int)) }, I := I2 } (catchL j q code) [] (.slice fa (ln + 1) fc) (.slice none 0 0) w13 := HCL.out _ _ K13
                obtain ⟨ST, hST⟩ : ∃ ST, (List.range t).map (fun i : Nat => (i : Int)) = ST := ⟨_, rfl⟩
                rw [hST] at hR13
                have hlen := HLEN.out
                rw [hST] at hlen
                have HST := Lib.hid hST
                obtain ⟨F', hE, hFn, hrow, hcall⟩ := hR13.call
                have hSk := hE.stack_of
                have hDp := stDepth_eng hE
                dsimp only at hDp
                rw [hlen] at hDp
                have H13 := Lib.hid hR13
                have HLEN := Lib.hid hlen
                clear hE hFn hrow hcall hR13 K13 hStep hlen hST HCL
                unfold stV
                dsimp only
                go_wp2_with fail
                refine hSk.mono ?_
                rintro _ _ ⟨rfl, rfl⟩
                clear hSk
                go_wp2_with fail
                refine hDp.mono ?_
                rintro _ _ ⟨rfl, rfl⟩
                clear hDp
                have hm4 : x4.tmod 6 = n4 := by rw [Int.tmod_eq_emod_of_nonneg h4.1]; exact hn4
                go_wp2_with fail
                go_loopw [178] (fun iv wr => ∃ (u : Nat) (I : Ins), u ≤ n4 ∧ iv = .int .u8 u ∧ BtI I u ∧ CeG w g ⟨s, i, f⟩ { caM S I1 j q code with nx := 4, fr := [tok, callFr 0 0, ⟨5, ((t : Nat) : Int), 1, I2.cur.on, 0, []⟩], S := { S with st := ST }, I := I } (catchL j q code) [] (.slice fa (ln + 1) fc) (.slice none 0 0) wr) (fun iv _ => n4 - (intOf iv).toNat)
                case atStart => exact ⟨0, I2, Nat.zero_le _, rfl, I2_bt, H13.out⟩
                case round =>
                  obtain ⟨u, I, hu, rfl, hBt, hR⟩ := hrel
                  clear H13
                  rcases Nat.lt_or_ge u n4 with hlt | hge
                  · obtain ⟨F', hE, hFn, hrow, hcall⟩ := hR.call
                    have hWd := word_eng hE hBt.cur
                    have HCL := Lib.hid hcall
                    have HBT := Lib.hid (hBt.word (wordN I.cur.text I.cur.on))
                    clear hE hFn hrow hcall hR hBt
                    go_wp2_with fail
                    refine hWd.mono ?_
                    rintro _ w14 ⟨rfl, K14⟩
                    have hR14 := HCL.out _ _ K14
                    obtain ⟨F', hE, hFn, hrow, hcall⟩ := hR14.call
                    have hOp := open_eng hE ⟨#[105, 110, 110, 101, 114]⟩ (by decide) (by have h9 : I.outer.length = 1 + u := HBT.out.outer; show I.outer.length < 8; omega) (by have h9 : I.many = 1 + u := HBT.out.many; show I.many < 1000000; omega)
                    have HCL := Lib.hid hcall
                    clear hE hFn hrow hcall hR14 K14 hWd
                    go_wp2_with fail
                    refine hOp.mono ?_
                    rintro _ w15 ⟨rfl, K15⟩
                    have hR15 := HCL.out _ _ K15
                    have H15 := Lib.hid (And.intro (HBT.out.open_ ⟨#[105, 110, 110, 101, 114]⟩ (by decide)) hR15)
                    have hu8 : IntKind.u8.wrap ((u : Int) + 1) = ((u + 1 : Nat) : Int) := by unfold IntKind.wrap; simp [IntKind.signed, IntKind.bits]; omega
                    clear hOp K15 hR15 HBT
                    go_wp2_with fail
                    go_roundw
                    case rel => exact ⟨u + 1, _, by omega, by simp, H15.out.1, H15.out.2⟩
                    case measure => simp only [intOf]; omega
                  · obtain rfl : u = n4 := by omega
                    obtain ⟨F', hE, hFn, hrow, hcall⟩ := hR.call
                    have hone := caOne S I1 j q code hn1l hn2l 4 { S with st := ST } [tok, callFr 0 0, ⟨5, ((t : Nat) : Int), 1, I2.cur.on, 0, []⟩] I
                    have hone0 := caOne S I1 j q code hn1l hn2l 0 S [] I
                    have hmf : ∃ I', (if code = 0 then ({ caM S I1 j q code with I := I } : M) else { ({ caM S I1 j q code with I := I } : M) with I := backI ({ caM S I1 j q code with I := I } : M).I 1 I2.cur.on }) = { caM S I1 j q code with I := I' } ∧ (code ≠ 0 → I'.outer.length = 1 ∧ I'.cur.on = I2.cur.on) := by
                      by_cases h : code = 0
                      · exact ⟨I, if_pos h, fun h' => absurd h h'⟩
                      · exact ⟨_, if_neg h, fun _ => back_of hBt _ I2_on⟩
                    obtain ⟨I', hmf, hI'⟩ := hmf
                    have hrun := catch_law (D := pD) (m := ({ caM S I1 j q code with I := I } : M)) j q code hn1l hn2l hone0.defAt (Nat.le_of_ble_eq_true rfl) 4 (by decide) (caWord S I1 j q code).2.2.2 (caWord S I1 j q code).1 (caWord S I1 j q code).2.1 ST (by rw [HLEN.out]; omega) 1 I2.cur.on
                    rw [hmf, HLEN.out] at hrun
                    have hctl : CtlOk ({ caM S I1 j q code with nx := 4, fr := [tok, callFr 0 0, ⟨5, ((t : Nat) : Int), 1, I2.cur.on, 0, []⟩], S := { S with st := ST }, I := I } : M) := ctl_of rfl
                    have hRun := run_law (D := pD) (bad := fun S => S.out = [7]) hE (hone.fine (by show ST.length ≤ 128; rw [HLEN.out]; omega) (Nat.le_of_ble_eq_true rfl) ⟨by show I.outer.length ≤ 8; have := hBt.outer; omega, hBt.cur, hBt.all⟩ HSS.out.2.1) hFn hR.touch pD_fine pD_bad (fun S st h => h) (fun _ => False) (fun _ _ h => h.elim) (fun _ _ _ => rfl) hctl (hone.noLoc (fun x hx => (catchL_op j q code x hx).2)) 200 (by decide) hrun (by show ¬ S.out = [7]; rw [HSS.out.2.2]; decide) (fun n hn => nothing_next rfl rfl n hn)
                    rw [show ((200 : Nat) : Int) = 200 from rfl] at hRun
                    have HCL := Lib.hid hcall
                    have HI' := Lib.hid hI'
                    clear hE hFn hrow hcall hone hone0 hmf hrun hctl hR hBt hge hu hI'
                    go_wp2_with fail
                    refine hRun.mono ?_
                    rintro _ wE ⟨s9, mf, rfl, KE, rfl, rfl⟩
                    have hRE := HCL.out _ _ KE
                    have bS := Blk.new wE 48 #[.int .i64 3, .int .i64 6, .int .i64 0]
                    have tS := (Touch.refl [] wE).alloc (.cells #[.int .i64 3, .int .i64 6, .int .i64 0] 48)
                    have hRG := hRE.quiet tS
                    obtain ⟨y, hy⟩ : ∃ y, wE.heap.size = y := ⟨_, rfl⟩
                    rw [hy] at bS
                    unfold stV
                    dsimp only
                    clear hRE KE hRun tS HCL
                    go_upto_region 46 with fail
                    generalize wE.alloc (.cells #[.int .i64 3, .int .i64 6, .int .i64 0] 48) = wG at *
                    clear hy
                    obtain ⟨F', hE, hFn, hrow, hcall⟩ := hRG.call
                    have hSk := hE.stack_of
                    have hl1 : (ST ++ [code]).length = t + 1 := by rw [List.length_append, HLEN.out]; rfl
                    have hAll := all_eng hE (by show (ST ++ [code]).length ≤ 128; omega)
                    rw [show (({ caM S I1 j q code with I := I' } : M).go 0 0 (ST ++ [code]) [tok]).S.st.length = t + 1 from hl1] at hAll
                    have HG := Lib.hid (And.intro hRG bS)
                    have HL1 := Lib.hid hl1
                    clear hE hFn hrow hcall hRG bS hl1
                    go_wp2_with fail
                    refine hSk.mono ?_
                    rintro _ _ ⟨rfl, rfl⟩
                    clear hSk
                    generalize (({ caM S I1 j q code with I := I' } : M).go 0 0 (ST ++ [code]) [tok]).S.k = kk at *
                    go_wp2_with fail
                    refine hAll.mono ?_
                    rintro _ wH ⟨a2, c2, rfl, hRB, tB⟩
                    have hRB : RowR wH (.slice a2 (t + 1) c2) (ST ++ [code]) := hRB
                    obtain ⟨gb, off, ha2, hcl⟩ : ∃ gb off, a2 = some ⟨gb, off, none⟩ ∧ ∀ u, u < t + 1 → wH.cell? ⟨gb, off + u, none⟩ = some (.int .i64 ((ST ++ [code]).getD u 0)) := by
                      obtain ⟨a', c', e, hc⟩ := hRB
                      injection e with e1 e2 e3
                      subst e1
                      obtain ⟨gb, off, h1, _⟩ := hc 0 (by rw [HL1.out]; omega)
                      refine ⟨gb, off, h1, fun u hu => ?_⟩
                      obtain ⟨g2, o2, h2, h3⟩ := hc u (by rw [HL1.out]; exact hu)
                      rw [h1] at h2
                      injection h2 with h2
                      injection h2 with h4 h5
                      subst h4 h5
                      exact h3
                    subst ha2
                    have bH := HG.out.2.touch tB (by simp)
                    have y0 : wH.cell? ⟨y, 0, none⟩ = some (.int .i64 3) := bH.cell 0
                    have hRH := HG.out.1.quiet tB
                    obtain ⟨F', hE, hFn, hrow, hcall⟩ := hRH.call
                    have hFr := frames_eng hE
                    have hDp := frDepth_eng hE
                    rw [show ((({ caM S I1 j q code with I := I' } : M).go 0 0 (ST ++ [code]) [tok]).fr.length : Int) = 1 from rfl] at hDp
                    have hInD := inDepth_eng hE
                    have hInI := inIn_eng hE
                    rw [show (({ caM S I1 j q code with I := I' } : M).go 0 0 (ST ++ [code]) [tok]).I = I' from rfl] at hInD hInI
                    have hct : wH.cell? ⟨gb, off + t, none⟩ = some (.int .i64 code) := by
                      have h9 := hcl t (by omega)
                      rw [List.getD_eq_getElem?_getD, List.getElem?_append_right (by rw [HLEN.out]; exact Nat.le_refl _), HLEN.out, Nat.sub_self] at h9
                      exact h9
                    have HCT : Hid (∀ u : Nat, u < t → wH.cell? ⟨gb, off + u, none⟩ = some (.int .i64 u)) := Lib.hid (fun u hu => by
                      have h9 := hcl u (by omega)
                      rw [List.getD_eq_getElem?_getD, List.getElem?_append_left (by rw [HLEN.out]; exact hu), ← HST.out, List.getElem?_map, List.getElem?_range hu] at h9
                      exact h9)
                    have HIN := Lib.hid (And.intro hInD hInI)
                    have HTH := Lib.hid hRH.touch
                    clear hE hFn hrow hcall hRB tB hAll bH hRH hcl hInD hInI HG
                    go_wp2_with fail
                    refine hFr.mono ?_
                    rintro _ _ ⟨rfl, rfl⟩
                    clear hFr
                    go_wp2_with fail
                    refine hDp.mono ?_
                    rintro _ _ ⟨rfl, rfl⟩
                    clear hDp
                    go_wp2_with fail
                    go_loopw [215] (fun iv wr => ∃ u : Nat, u ≤ t ∧ iv = .int .i64 u ∧ wH = wr) (fun iv _ => t - (intOf iv).toNat)
                    case atStart => exact ⟨0, Nat.zero_le _, rfl, rfl⟩
                    case round =>
                      obtain ⟨v, hv, rfl, rfl⟩ := hrel
                      rcases Nat.lt_or_ge v t with hlt | hge
                      · have hcu := HCT.out v hlt
                        go_wp2_with fail
                        go_roundw
                        case rel => exact ⟨v + 1, by omega, vint (by omega), trivial⟩
                        case measure => simp only [intOf]; omega
                      · obtain rfl : v = t := by omega
                        by_cases hc0 : code = 0
                        · subst hc0
                          go_wp2_with fail
                          go_ret
                          exact ⟨rfl, HTH.out⟩
                        · have hc1 : (code == 0) = false := by simpa using hc0
                          obtain ⟨hInD, hInI⟩ := HIN.out
                          obtain ⟨hd1, hd2⟩ := HI'.out hc0
                          rw [hd1] at hInD
                          rw [hd2] at hInI
                          clear hc0
                          go_wp2_with fail
                          refine hInD.mono ?_
                          rintro _ _ ⟨rfl, rfl⟩
                          clear hInD
                          go_wp2_with fail
                          refine hInI.mono ?_
                          rintro _ _ ⟨rfl, rfl⟩
                          clear hInI
                          go_wp2_with fail
                          go_ret
                          exact ⟨rfl, HTH.out⟩
end En
end Go.Proofs.YtdokeddjcpnmiaaGreatDoor
