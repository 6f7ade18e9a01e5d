import Derived.Test.YtdokeddjcpnmiaaGreatDoorKLocP
import Derived.Test.YtdokeddjcpnmiaaGreatDoorKLwX
import Derived.Test.YtdokeddjcpnmiaaGreatDoorJPlX
import Derived.Deep.CutRange
/- EngineLocals: the walk. -/
namespace Go.Proofs.YtdokeddjcpnmiaaGreatDoor
open Go.RowKit
namespace En

set_option maxRecDepth 100000 in
set_option maxHeartbeats 6400000 in
theorem EngineLocals_walk (l : List Int) (v : Value) (at_ x : Int) (w : World) (h : ArgC w v l) (hat : 0 ≤ at_ ∧ at_ ≤ 255) (ml : Int) (hml : w.cell? ⟨3, 0, none⟩ = some (.int .i64 ml)) : Calls Tryz.prog 5 #[v, .int .u8 at_, .int .i64 x] w fun e w' => e = .returned (.bool true) ∧ Touch [] w w' := by
  obtain ⟨a, n, c, q, rfl, hmin, hq, hqc, hlen, hcells⟩ := h.openN 16
  obtain ⟨ys, hys⟩ : ∃ ys, l.take 16 = ys := ⟨_, rfl⟩
  rw [hys] at hlen hcells
  have hmin : min (n : Int) 16 = (q : Int) := hmin
  have hS := shown_any w ml hml
  have HC := Lib.hid hcells
  have HML := Lib.hid hml
  have HL := Lib.hid hlen
  clear h hcells hml hys hlen
  go_enter Tryz.func5, Tryz.ntmps5
  go_wp2_with fail
  refine hS.mono ?_
  rintro _ w0 ⟨rfl, t0⟩
  have hB := built_any w0 ml (cell_quiet t0 HML.out)
  have HT0 := Lib.hid t0
  clear hS t0
  go_wp2_with fail
  refine hB.mono ?_
  rintro _ w1 ⟨g, p, F, S, rfl, hE, hF, t1, hn, hst, hbs, hh, hout, hmade⟩
  have hok : PS.ok S := ⟨by rw [hout]; decide, by rw [hmade]; decide, by rw [hn]; decide, by rw [hn]⟩
  have hFw : ∀ x ∈ F, w.heap.size ≤ x := fun x hx => Nat.le_trans HT0.out.size (hF x hx)
  have H0 : Hid (CeG w g p { M.new S ins0' with words := wordsT } [] [] (.slice none 0 0) (.slice none 0 0) w1) := Lib.hid ⟨⟨F, hE, hFw, by simp [rowOf], by simp [rowOf]⟩, CodeRow.none _ _, WantRow.none _ _, by simp [rowOf], HT0.out.trans t1 (by simp)⟩
  have HS := Lib.hid (And.intro hst (And.intro hok hout))
  clear hE hF t1 hn hst hbs hh hout hmade hok hB hFw
  rcases Nat.eq_zero_or_pos q with h0 | h0
  · subst h0
    have HQ := Lib.hid H0.out.touch
    clear H0
    go_wp2_with fail
    go_ret
    exact ⟨rfl, HQ.out⟩
  · obtain ⟨gb, off, rfl⟩ : ∃ gb off, a = some ⟨gb, off, none⟩ := by
      rcases HC.out w (Touch.refl [] w) with ⟨e, h9⟩ | ⟨ad, c9, e, h9⟩
      · have := HL.out; rw [h9] at this; simp at this; omega
      · obtain ⟨gg, off, spot⟩ := ad
        have hsp : spot = none := by simpa [Addr.add] using World.cell?_spot (h9 0 _ (cells_get ys 0 (by rw [HL.out]; exact h0)))
        subst hsp
        injection e with e _ _
        exact ⟨gg, off, e⟩
    have HCL : Hid (∀ W, Touch [] w W → ∀ j u, (cells ys)[j]? = some u → W.cell? ⟨gb, off + j, none⟩ = some u) := Lib.hid (by
      intro W t j u hj
      rcases HC.out W t with ⟨e, _⟩ | ⟨ad, c9, e, h9⟩
      · cases e
      · injection e with e _ _
        injection e with e
        subst e
        have h8 := h9 j u hj
        rw [add_off] at h8
        exact h8)
    obtain ⟨kk, hkk, hkq⟩ : ∃ kk : Nat, at_ % (q : Int) = kk ∧ kk < q := by
      refine ⟨(at_ % (q : Int)).toNat, ?_, ?_⟩
      · have := Int.emod_nonneg at_ (show (q : Int) ≠ 0 by omega); omega
      · have h1 := Int.emod_nonneg at_ (show (q : Int) ≠ 0 by omega)
        have h2 := Int.emod_lt_of_pos at_ (show (0 : Int) < q by omega)
        omega
    have hkt : at_.tmod (q : Int) = kk := by rw [Int.tmod_eq_emod_of_nonneg hat.1]; exact hkk
    have hq0 : ((q : Int) == 0) = false := by simp; omega
    have HK := Lib.hid (And.intro hkk hkt)
    obtain ⟨F', hE, hFn, _, hcall⟩ := H0.out.call
    have bI := Blk.new w1 56 #[.int .u8 12, .int .i64 1, .int .i64 0, .int .u8 1, .int .i64 0, .int .i64 77, .int .u8 14, .int .i64 0, .int .i64 0, .int .u8 15, .int .i64 0, .int .i64 0]
    have tI := (Touch.refl [] w1).alloc (.cells #[.int .u8 12, .int .i64 1, .int .i64 0, .int .u8 1, .int .i64 0, .int .i64 77, .int .u8 14, .int .i64 0, .int .i64 0, .int .u8 15, .int .i64 0, .int .i64 0] 56)
    have hlt := hE.lt
    have hDef := Define_ok (hE.touch tI (by simp)) (Nat.zero_le _) (Nat.le_of_ble_eq_true rfl) innerL (by decide) (fun u hu => (innerL_op u hu).1) (inner_may _) (.slice (some ⟨w1.heap.size, 0, none⟩) 4 4) (ins_blk (L := innerL) bI 4) (fun b hb => by
      simp only [rowOf, List.mem_cons, List.not_mem_nil, or_false] at hb
      rw [hb]
      exact ⟨bI.lt, fun hx => by have := hlt _ hx; omega⟩)
    rw [show ((({ M.new S ins0' with words := wordsT } : M).ends.length : Nat) : Int) + 1 = 1 from rfl] at hDef
    have HCA := Lib.hid (fun m2 W2 (K : Keep (w1.alloc (.cells #[.int .u8 12, .int .i64 1, .int .i64 0, .int .u8 1, .int .i64 0, .int .i64 77, .int .u8 14, .int .i64 0, .int .i64 0, .int .u8 15, .int .i64 0, .int .i64 0] 56)) g p F' m2 W2) => hcall m2 W2 (K.pre tI))
    clear hE hFn hcall bI tI hlt H0
    go_wp2_with fail
    refine hDef.mono ?_
    rintro _ w2 ⟨rfl, K2⟩
    have hR2 := HCA.out _ _ K2
    obtain ⟨F', hE, hFn, _, hcall⟩ := hR2.call
    have hAdd := Add_ok hE (by show wordsT.length < 600; rw [wordsT_len]; decide) 5 1 0 (.inr (.inl ⟨.inl rfl, by decide, by show (1 : Int) ≤ (1 : Int); decide⟩)) ml (cell_quiet hR2.touch HML.out)
    rw [show (((({ M.new S ins0' with words := wordsT } : M).laid innerL).words.length : Nat) : Int) + 1 = 181 by show ((wordsT.length : Nat) : Int) + 1 = _; rw [wordsT_len]; rfl] at hAdd
    have HCB := Lib.hid hcall
    clear hE hFn hcall hR2 K2 hDef HCA
    go_wp2_with fail
    refine hAdd.mono ?_
    rintro _ w3 ⟨rfl, K3⟩
    have hR3 : CeG w g p (lc1 S) [] [] (.slice none 0 0) (.slice none 0 0) w3 := HCB.out _ _ K3
    have tA := (Touch.refl [] w3).alloc (.cells #[.int .u8 12, .int .i64 q, .int .i64 0, .int .u8 1, .int .i64 0, .int .i64 x, .int .u8 14, .int .i64 kk, .int .i64 0, .int .u8 1, .int .i64 0, .int .i64 5, .int .u8 2, .int .i64 181, .int .i64 0] 56)
    have hR4 : CeG w g p (lc1 S) [((12 : Int), ((q : Nat) : Int), (0 : Int)), (1, 0, x), (14, ((kk : Nat) : Int), 0), (1, 0, 5), (2, 181, 0)] [] (.slice (some ⟨w3.heap.size, 0, none⟩) 5 5) (.slice none 0 0) (w3.alloc (.cells #[.int .u8 12, .int .i64 q, .int .i64 0, .int .u8 1, .int .i64 0, .int .i64 x, .int .u8 14, .int .i64 kk, .int .i64 0, .int .u8 1, .int .i64 0, .int .i64 5, .int .u8 2, .int .i64 181, .int .i64 0] 56)) := hR3.code_new tA (code_fresh hR3.touch.size [((12 : Int), ((q : Nat) : Int), (0 : Int)), (1, 0, x), (14, ((kk : Nat) : Int), 0), (1, 0, 5), (2, 181, 0)] (Nat.le_of_ble_eq_true rfl)) (by simp [rowOf])
    clear hAdd K3 hR3 tA HCB
    go_upto_region 12 with fail
    generalize w3.alloc (.cells #[.int .u8 12, .int .i64 q, .int .i64 0, .int .u8 1, .int .i64 0, .int .i64 x, .int .u8 14, .int .i64 kk, .int .i64 0, .int .u8 1, .int .i64 0, .int .i64 5, .int .u8 2, .int .i64 181, .int .i64 0] 56) = w4 at *
    obtain ⟨z3, hz3⟩ : ∃ z3, w3.heap.size = z3 := ⟨_, rfl⟩
    rw [hz3] at hR4
    try rw [hz3]
    clear hz3
    have H4 := Lib.hid (show CeG w g p (lc1 S) ([((12 : Int), ((q : Nat) : Int), (0 : Int)), (1, 0, x), (14, ((kk : Nat) : Int), 0), (1, 0, 5), (2, 181, 0)] ++ ((List.range' 0 0).map fun i => ((13 : Int), ((i : Nat) : Int), (0 : Int)))) [] (.slice (some ⟨z3, 0, none⟩) 5 5) (.slice none 0 0) w4 from hR4)
    clear hR4
    go_wp2_with fail
    go_loopw [71, 15] (fun iv cv wr => ∃ j : Nat, j ≤ q ∧ iv = .int .i64 j ∧ CeG w g p (lc1 S) ([((12 : Int), ((q : Nat) : Int), (0 : Int)), (1, 0, x), (14, ((kk : Nat) : Int), 0), (1, 0, 5), (2, 181, 0)] ++ ((List.range' 0 j).map fun i => ((13 : Int), ((i : Nat) : Int), (0 : Int)))) [] cv (.slice none 0 0) wr) (fun iv _ _ => q - (intOf iv).toNat)
    case atStart => exact ⟨0, Nat.zero_le _, rfl, H4.out⟩
    case round =>
      obtain ⟨j, hj, rfl, hR⟩ := hrel
      clear H4
      obtain ⟨ca, cc, hcv⟩ := hR.code.form
      have hln : ([((12 : Int), ((q : Nat) : Int), (0 : Int)), (1, 0, x), (14, ((kk : Nat) : Int), 0), (1, 0, 5), (2, 181, 0)] ++ ((List.range' 0 j).map fun i => ((13 : Int), ((i : Nat) : Int), (0 : Int)))).length = 5 + j := by simp; omega
      rw [hln] at hcv
      subst hcv
      rcases Nat.lt_or_ge j q with hlt | hge
      · have tB := (Touch.refl [] wr).alloc (.cells #[.int .u8 13, .int .i64 j, .int .i64 0] 56)
        have HB4 := Lib.hid (And.intro (hR.quiet tB).code (And.intro (hR.quiet tB).touch.size (fun v' w2 q1 q2 q3 => hR.code_next (X := [((13 : Int), ((j : Nat) : Int), (0 : Int))]) (v' := v') (w2 := w2) tB q1 q2 q3)))
        have HLN := Lib.hid hln
        clear hR tB hln
        go_wp2_with (refine wpList_code rfl (.tmp 74) (.tmp 77) rfl w.heap.size (.slice ca (5 + j) cc) ([((12 : Int), ((q : Nat) : Int), (0 : Int)), (1, 0, x), (14, ((kk : Nat) : Int), 0), (1, 0, 5), (2, 181, 0)] ++ ((List.range' 0 j).map fun i => ((13 : Int), ((i : Nat) : Int), (0 : Int)))) [(13, ((j : Nat) : Int), 0)] (by simp [Act.eval]) HB4.out.1 wr.heap.size 1 1 (by simp [Act.eval]) rfl (Blk.new wr _ _) (by omega) (by rw [HLN.out]; omega) HB4.out.2.1 ?_; intro v6 w6 h6 g6 a6 f6)
        have H6 := Lib.hid (show CeG w g p (lc1 S) ([((12 : Int), ((q : Nat) : Int), (0 : Int)), (1, 0, x), (14, ((kk : Nat) : Int), 0), (1, 0, 5), (2, 181, 0)] ++ ((List.range' 0 (j + 1)).map fun i => ((13 : Int), ((i : Nat) : Int), (0 : Int)))) [] v6 (.slice none 0 0) w6 by
          rw [List.range'_1_concat, List.map_append, ← List.append_assoc, Nat.zero_add]
          exact HB4.out.2.2 v6 w6 h6 g6 a6)
        clear h6 g6 a6 f6
        go_roundw
        case rel => exact ⟨j + 1, by omega, vint (by omega), H6.out⟩
        case measure => simp only [intOf]; omega
      · obtain rfl : j = q := by omega
        have tB := (Touch.refl [] wr).alloc (.cells #[.int .u8 15, .int .i64 0, .int .i64 0] 56)
        have HB4 := Lib.hid (And.intro (hR.quiet tB).code (And.intro (hR.quiet tB).touch.size (fun v' w2 q1 q2 q3 => hR.code_next (X := [((15 : Int), (0 : Int), (0 : Int))]) (v' := v') (w2 := w2) tB q1 q2 q3)))
        have HLN := Lib.hid hln
        clear hR tB hln hge hj
        go_upto_region 17 with fail
        go_wp2_with (refine wpList_code rfl (.tmp 82) (.tmp 84) rfl w.heap.size (.slice ca (5 + j) cc) ([((12 : Int), ((j : Nat) : Int), (0 : Int)), (1, 0, x), (14, ((kk : Nat) : Int), 0), (1, 0, 5), (2, 181, 0)] ++ ((List.range' 0 j).map fun i => ((13 : Int), ((i : Nat) : Int), (0 : Int)))) [(15, 0, 0)] (by simp [Act.eval]) HB4.out.1 wr.heap.size 1 1 (by simp [Act.eval]) rfl (Blk.new wr _ _) (by omega) (by rw [HLN.out]; omega) HB4.out.2.1 ?_; intro v6 w6 h6 g6 a6 f6; obtain ⟨fa, fc, rfl⟩ := f6)
        rw [HLN.out] at h6 a6
        have hR6 : CeG w g p (lc1 S) (localL j x kk 181) [] (.slice fa (5 + j + 1) fc) (.slice none 0 0) w6 := by
          have h9 := HB4.out.2.2 _ w6 h6 g6 a6
          rw [List.append_assoc] at h9
          exact h9
        have hj16 : j ≤ 16 := by omega
        rw [show 5 + j + 1 = j + 1 + 1 + 1 + 1 + 1 + 1 by omega] at hR6
        obtain ⟨F', hE, hFn, hrow, hcall⟩ := hR6.call
        have hDef := Define_ok hE (Nat.le_of_ble_eq_true rfl) (Nat.le_of_ble_eq_true rfl) (localL j x kk 181) (by rw [localL_len]; omega) (fun u hu => (localL_op j hj16 x kk hkq u hu).1) (local_may j x kk 181 _ h0 hj16 hkq ⟨by decide, by show (181 : Int) ≤ (((wordsT ++ [((5 : Int), (1 : Int), (0 : Int))]).length : Nat) : Int); rw [List.length_append, wordsT_len]; decide⟩) (.slice fa (j + 1 + 1 + 1 + 1 + 1 + 1) fc) (CodeRow.insAt hR6.code) hrow
        rw [show (((lc1 S).ends.length : Nat) : Int) + 1 = 2 from rfl] at hDef
        have HCD := Lib.hid hcall
        clear hE hFn hrow hcall hR6 h6 g6 a6 HB4
        refine hDef.mono ?_
        rintro _ w7 ⟨rfl, K7⟩
        have hR7 := HCD.out _ _ K7
        obtain ⟨F', hE, hFn, hrow, hcall⟩ := hR7.call
        have hAdd := Add_ok hE (by show (wordsT ++ [((5 : Int), (1 : Int), (0 : Int))]).length < 600; rw [List.length_append, wordsT_len]; decide) 5 2 0 (.inr (.inl ⟨.inl rfl, by decide, by show (2 : Int) ≤ (2 : Int); decide⟩)) ml (cell_quiet hR7.touch HML.out)
        rw [show ((((lc1 S).laid (localL j x kk 181)).words.length : Nat) : Int) + 1 = 182 by show (((wordsT ++ [((5 : Int), (1 : Int), (0 : Int))]).length : Nat) : Int) + 1 = _; rw [List.length_append, wordsT_len]; rfl] at hAdd
        have HCE := Lib.hid hcall
        clear hE hFn hrow hcall hR7 K7 hDef HCD
        go_wp2_with fail
        refine hAdd.mono ?_
        rintro _ w8 ⟨rfl, K8⟩
        have hR8 : CeG w g p (lcM S j x kk) (localL j x kk 181) [] (.slice fa (j + 1 + 1 + 1 + 1 + 1 + 1) fc) (.slice none 0 0) w8 := by
          have h9 := HCE.out _ _ K8
          have e : ({ (lc1 S).laid (localL j x kk 181) with words := ((lc1 S).laid (localL j x kk 181)).words ++ [(5, 2, 0)] } : M) = lcM S j x kk := by
            show ({ (lc1 S).laid (localL j x kk 181) with words := (wordsT ++ [((5 : Int), (1 : Int), (0 : Int))]) ++ [(5, 2, 0)] } : M) = _
            rw [List.append_assoc]
            rfl
          rw [e] at h9
          exact h9
        obtain ⟨F', hE, hFn, hrow, hcall⟩ := hR8.call
        have hSt := state_eng hE
        have hSk := hE.stack_of
        have hPut := put_in hE (gg := gb) (off := off) (c := c) (l := ys) (HCL.out w8 hR8.touch) (by show S.st.length + ys.length ≤ 128; rw [HS.out.1, HL.out]; show 0 + j ≤ 128; omega)
        rw [HL.out] at hPut
        have HCF := Lib.hid hcall
        clear hE hFn hrow hcall hR8 K8 hAdd HCE
        go_wp2_with fail
        refine hSt.mono ?_
        rintro _ _ ⟨rfl, rfl⟩
        clear hSt
        go_wp2_with fail
        refine hSk.mono ?_
        rintro _ _ ⟨rfl, rfl⟩
        clear hSk
        go_wp2_with fail
        refine hPut.mono ?_
        rintro _ w9 ⟨rfl, K9⟩
        have hR9 : CeG w g p { lcM S j x kk with S := { S with st := ys } } (localL j x kk 181) [] (.slice fa (j + 1 + 1 + 1 + 1 + 1 + 1) fc) (.slice none 0 0) w9 := by
          have h9 := HCF.out _ _ K9
          have e : ({ lcM S j x kk with S := { (lcM S j x kk).S with st := (lcM S j x kk).S.st ++ ys } } : M) = { lcM S j x kk with S := { S with st := ys } } := by
            show ({ lcM S j x kk with S := { S with st := S.st ++ ys } } : M) = _
            rw [HS.out.1]
            rfl
          rw [e] at h9
          exact h9
        obtain ⟨F', hE, hFn, hrow, hcall⟩ := hR9.call
        have hEx := exec_yes hE (by show (wordsT ++ [((5 : Int), (1 : Int), (0 : Int)), (5, 2, 0)]).length ≤ 1000000; rw [List.length_append, wordsT_len]; decide) 182 (5, 2, 0) (lc_words S j x kk).2
        have HCG := Lib.hid hcall
        clear hE hFn hrow hcall hR9 K9 hPut HCF
        go_wp2_with fail
        refine hEx.mono ?_
        rintro _ wA ⟨rfl, KA⟩
        have hRA : CeG w g p { lcM S j x kk with nx := 182, S := { S with st := ys } } (localL j x kk 181) [] (.slice fa (j + 1 + 1 + 1 + 1 + 1 + 1) fc) (.slice none 0 0) wA := HCG.out _ _ KA
        have bC : WantRow w.heap.size (wA.alloc (.cells #[] 33)) (.slice (some ⟨wA.heap.size, 0, none⟩) 0 0) [] := row_fresh (w := wA) (B := w.heap.size) hRA.touch.size [] (Nat.zero_le _)
        have tC := (Touch.refl [] wA).alloc (.cells #[] 33)
        have HBC := Lib.hid (And.intro bC (And.intro tC (And.intro (hRA.touch.trans tC (by simp)) hRA)))
        clear bC tC hRA KA hEx HCG
        go_upto_region 21 with fail
        go_upto_region 22 with (refine wpList_wantA rfl (.tmp 125) (.tmp 126) rfl w.heap.size (.slice (some ⟨wA.heap.size, 0, none⟩) 0 0) [] ys (by simp [Act.eval]) HBC.out.1 gb off j c (by simp [Act.eval]) HL.out.symm (HCL.out _ HBC.out.2.2.1) h0 (by show 0 + j ≤ 1000000; omega) HBC.out.2.2.1.size ?_; intro v7 w7 k7 g7 a7 f7; obtain ⟨gw, wc0, f7⟩ := f7; have f8 := f7.trans (congrArg (fun z => Value.slice (some ⟨gw, 0, none⟩) z wc0) (show ([] : List Int).length + j = j from Nat.zero_add j)); clear f7; subst f8)
        rw [List.nil_append] at k7
        have t7 : Touch [] wA w7 := HBC.out.2.1.grown g7 (fun z hz => .inr (by simp [Value.ownBlock] at hz; omega))
        have r7 : ∀ z ∈ rowOf (.slice (some ⟨gw, 0, none⟩) j wc0), wA.heap.size ≤ z := fun z hz => by
          have hz := rowOf_mem.1 hz
          rcases a7 with e | e
          · rw [e] at hz; simp [Value.ownBlock] at hz; omega
          · rw [e, World.size_alloc] at hz; injection hz with hz; omega
        have hcl := fun u v (h : (cells ys)[u]? = some v) => World.ownsRow.cells k7 (g := gw) rfl u v h
        have hck : w7.cell? ⟨gw, kk, none⟩ = some (.int .i64 (ys.getD kk 0)) := by
          have h9 := hcl kk _ (cells_get ys kk (by rw [HL.out]; exact hkq))
          rw [add_off, Nat.zero_add] at h9
          exact h9
        have hfz : w7.frozen? ⟨gw, kk, none⟩ = false := by
          rcases k7.2 with ⟨e, _⟩ | ⟨g', cap', cur, hv, hg, hh, _⟩
          · cases e
          · injection hv with e1 e2 e3
            injection e1 with e1
            injection e1 with e1
            subst e1
            exact (show Blk w7 gw 33 cur from hh).frozen kk
        have hRB := HBC.out.2.2.2.want_new t7 k7 r7
        have hRC : CeG w g p { lcM S j x kk with nx := 182, S := { S with st := ys } } (localL j x kk 181) (ys.set kk x) (.slice fa (j + 1 + 1 + 1 + 1 + 1 + 1) fc) (.slice (some ⟨gw, 0, none⟩) j wc0) (w7.setCell ⟨gw, kk, none⟩ (.int .i64 x)) := by
          rw [← HL.out] at hRB ⊢
          exact hRB.want_set kk x
        clear hRB hcl t7 r7 k7 g7 a7 HBC
        have HRC := Lib.hid hRC
        clear hRC
        go_upto_region 23 with fail
        have hRC := HRC.out
        generalize w7.setCell ⟨gw, kk, none⟩ (.int .i64 x) = wC at *
        clear HRC hck hfz
        obtain ⟨F', hE, hFn, hrow, hcall⟩ := hRC.call
        have hrun := lcRun S ys (by rw [HL.out]; exact h0) (by rw [HL.out]; exact hj16) x kk (by rw [HL.out]; exact hkq)
        rw [HL.out] at hrun
        have hctl : CtlOk ({ lcM S j x kk with nx := 182, S := { S with st := ys } } : M) := ctl_of (ctl_app _ _ ctl_table rfl)
        have hloc : LocB ({ lcM S j x kk with nx := 182, S := { S with st := ys } } : M) := lc_locB (lc_code S j x kk) (lc_ends S j x kk) hj16 hkq
        have hRun := run_lawL (D := pD) (bad := fun S => S.out = [7]) hE (lcFine S j hj16 x kk 182 ys (by rw [HL.out]; omega) HS.out.2.1) hFn hRC.touch pD_fine pD_bad (fun S st h => h) (fun _ _ => False) (fun _ _ h => h.elim) (fun _ _ _ => rfl) hctl hloc 200 (by decide) hrun (by show ¬ S.out = [7]; rw [HS.out.2.2]; decide) (fun n hn => nothing_next rfl rfl n hn)
        rw [show ((200 : Nat) : Int) = 200 from rfl] at hRun
        have HCH := Lib.hid hcall
        have hfk := status_kind
        clear hE hFn hrow hcall hRC hrun hctl hloc
        go_wp2_with fail
        refine hRun.mono ?_
        rintro _ wE ⟨s9, mf, rfl, KE, rfl, rfl⟩
        have hRE := HCH.out _ _ KE
        obtain ⟨F', hE, hFn, hrow, hcall⟩ := hRE.call
        have hSt := state_eng hE
        have hSk := hE.stack_of
        have hsl : (ys.set kk x).length = j := by rw [List.length_set]; exact HL.out
        have hAll := all_eng hE (by show (ys.set kk x).length ≤ 128; omega)
        rw [show ((lcM S j x kk).go 0 0 (ys.set kk x) []).S.st.length = j from hsl] at hAll
        have HRE := Lib.hid hRE
        have HSL := Lib.hid hsl
        clear hE hFn hrow hcall hRun hRE KE hsl HCH
        unfold stV
        dsimp only
        go_wp2_with fail
        refine hSt.mono ?_
        rintro _ _ ⟨rfl, rfl⟩
        clear hSt
        go_wp2_with fail
        refine hSk.mono ?_
        rintro _ _ ⟨rfl, rfl⟩
        clear hSk
        generalize ((lcM S j x kk).go 0 0 (ys.set kk x) []).S.k = kz at *
        go_wp2_with fail
        refine hAll.mono ?_
        rintro _ wF ⟨a2, c2, rfl, hRB, tB⟩
        have hRB : RowR wF (.slice a2 j c2) (ys.set kk x) := hRB
        have hSame := Same_eq (.slice a2 j c2) (.slice (some ⟨gw, 0, none⟩) j wc0) (ys.set kk x) wF hRB (RowR.own (HRE.out.quiet tB).want) (by have h1 := HSL.out; omega)
        have HRF := Lib.hid (HRE.out.quiet tB)
        clear hRB tB hAll
        go_wp2_with fail
        refine hSame.mono ?_
        rintro _ wG ⟨rfl, tG⟩
        have hRG := HRF.out.quiet tG
        obtain ⟨F', hE, hFn, hrow, hcall⟩ := hRG.call
        have hFr := frames_eng hE
        have hDp := frDepth_eng hE
        rw [show (((lcM S j x kk).go 0 0 (ys.set kk x) []).fr.length : Int) = 0 from rfl] at hDp
        have HTG := Lib.hid hRG.touch
        clear hE hFn hrow hcall hSame tG hRG
        go_wp2_with fail
        refine hFr.mono ?_
        rintro _ _ ⟨rfl, rfl⟩
        clear hFr
        go_wp2_with fail
        refine hDp.mono ?_
        rintro _ _ ⟨rfl, rfl⟩
        clear hDp
        go_wp2_with fail
        go_ret
        exact ⟨rfl, HTG.out⟩
end En
end Go.Proofs.YtdokeddjcpnmiaaGreatDoor
