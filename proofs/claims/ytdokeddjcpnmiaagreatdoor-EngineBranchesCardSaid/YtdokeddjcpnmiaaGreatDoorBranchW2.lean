/- EngineBranches: the walk. -/
import Derived.Test.YtdokeddjcpnmiaaGreatDoorBranchW
import Derived.Test.YtdokeddjcpnmiaaGreatDoorJLwX
import Derived.Test.YtdokeddjcpnmiaaGreatDoorJPlX
import Derived.Deep.CutRange
namespace Go.Proofs.YtdokeddjcpnmiaaGreatDoor
open Go.RowKit
namespace En

theorem CellsAt.rowR {w : World} {v : Value} {l : List Int} (h : CellsAt w v l) : RowR w v l := by
  rcases h with ⟨rfl, rfl⟩ | ⟨ad, c, rfl, h⟩
  · exact ⟨none, 0, rfl, fun i hi => by simp at hi⟩
  · refine ⟨some ad, c, rfl, fun i hi => ?_⟩
    have hc := h i _ (cells_get l i hi)
    obtain ⟨g, off, spot⟩ := ad
    have hs : spot = none := by simpa [Addr.add] using World.cell?_spot (h 0 _ (cells_get l 0 (by omega)))
    subst hs
    rw [add_off] at hc
    exact ⟨g, off, rfl, hc⟩
theorem bItem_op (i a : Nat) (c : Int) : ∀ x ∈ bItem i a c, (0 ≤ x.1 ∧ x.1 < 256) ∧ (x.1 ≠ 12 ∧ x.1 ≠ 13 ∧ x.1 ≠ 14) ∧ 0 ≤ x.2.1 ∧ x.2.1 ≤ ((a + 7 : Nat) : Int) := by
  intro x hx
  unfold bItem at hx
  split at hx
  · simp only [List.mem_cons, List.not_mem_nil, or_false] at hx
    rcases hx with rfl | rfl | rfl | rfl | rfl <;> (simp only []; omega)
  · simp only [List.mem_cons, List.not_mem_nil, or_false] at hx
    rcases hx with rfl | rfl | rfl | rfl | rfl | rfl | rfl <;> (simp only []; omega)
theorem bFrom_op : ∀ (l : List Int) (i a : Nat), ∀ x ∈ bFrom i a l, (0 ≤ x.1 ∧ x.1 < 256) ∧ (x.1 ≠ 12 ∧ x.1 ≠ 13 ∧ x.1 ≠ 14) ∧ 0 ≤ x.2.1 ∧ x.2.1 ≤ ((a + 7 * l.length + 7 : Nat) : Int)
  | [], i, a, x, hx => by cases hx
  | c :: r, i, a, x, hx => by
    unfold bFrom at hx
    rcases List.mem_append.1 hx with hx | hx
    · obtain ⟨h1, h2, h3, h4⟩ := bItem_op i a c x hx
      exact ⟨h1, h2, h3, by rw [List.length_cons]; omega⟩
    · obtain ⟨h1, h2, h3, h4⟩ := bFrom_op r (i + 1) (a + bLen i) x hx
      have : bLen i ≤ 7 := by unfold bLen; split <;> omega
      exact ⟨h1, h2, h3, by rw [List.length_cons]; omega⟩
/-- the engine that is run -/
def brM (S : PS) (ys : List Int) : M := { ({ M.new S ins0' with words := wordsT } : M).laid (bFrom 0 0 ys ++ [(15, 0, 0)]) with words := wordsT ++ [(5, 1, 0)] }
theorem brOne (S : PS) (ys : List Int) (hy : ys.length ≤ 20) (W : List (Int × Int × Int)) (hW : W.length ≤ 1000) (nx : Int) : One ({ brM S ys with words := W, nx := nx } : M) (bFrom 0 0 ys ++ [(15, 0, 0)]) := by
  have hl := bFrom_le ys 0 0
  refine ⟨by show [] ++ codeOf _ = _; rw [List.nil_append], by show [] ++ [_] = _; rw [List.nil_append]; rw [show ({ M.new S ins0' with words := wordsT } : M).code.length = 0 from rfl, Nat.zero_add], by rw [List.length_append]; show _ + 1 ≤ 500; omega, fun x hx => ?_, hW⟩
  rcases List.mem_append.1 hx with hx | hx
  · obtain ⟨h1, h2, h3, h4⟩ := bFrom_op ys 0 0 x hx
    exact ⟨h1, h3, by omega⟩
  · rw [List.mem_singleton.1 hx]
    decide
theorem brRun (S : PS) (hst : S.st = []) (ys : List Int) (hy : ys.length ≤ 20) : M.run pD 300 { brM S ys with nx := 181 } = ((5, 0, 0), (brM S ys).go 0 0 (ys.map wantB) []) := by
  have hone := brOne S ys hy (wordsT ++ [(5, 1, 0)]) (by rw [List.length_append, wordsT_len]; decide) 0
  have hA := hone.defAt
  have h := branches_law (D := pD) (m := brM S ys) ys hy hA 181 0 (by decide) (word_last (brM S ys) wordsT (5, 1, 0) rfl) (Nat.le_of_ble_eq_true rfl)
  have e : ({ brM S ys with nx := 181 } : M) = { (brM S ys).go 0 0 [] [] with nx := 181 } := by
    have : S = { S with st := [] } := by cases S; simp at hst; subst hst; rfl
    show ({ brM S ys with nx := 181 } : M) = { brM { S with st := [] } ys with nx := 181 }
    rw [← this]
  rw [e]
  exact h
set_option maxRecDepth 100000 in
set_option maxHeartbeats 6400000 in
theorem EngineBranches_walk (l : List Int) (v : Value) (w : World) (h : ArgC w v l) (ml : Int) (hml : w.cell? ⟨3, 0, none⟩ = some (.int .i64 ml)) : Calls Tryz.prog 7 #[v] w fun e w' => e = .returned (.bool true) ∧ Touch [] w w' := by
  obtain ⟨a, n, c, q, rfl, hmin, hq, hqc, hlen, hcells⟩ := h.openN 20
  obtain ⟨ys, hys⟩ : ∃ ys, l.take 20 = ys := ⟨_, rfl⟩
  rw [hys] at hlen hcells
  have hmin : min (n : Int) 20 = (q : Int) := hmin
  have hS := shown_any w ml hml
  have HC := Lib.hid hcells
  have HML := Lib.hid hml
  have HL := Lib.hid hlen
  clear h hcells hml hys hlen
  go_enter Tryz.func7, Tryz.ntmps7
  go_wp2_with fail
  refine hS.mono ?_
  rintro _ w0 ⟨rfl, t0⟩
  have hB := built_any w0 ml (cell_quiet t0 HML.out)
  have HT0 := Lib.hid t0
  clear hS t0
  go_wp2_with fail
  refine hB.mono ?_
  rintro _ w1 ⟨g, p, F, S, rfl, hE, hF, t1, hn, hst, hbs, hh, hout, hmade⟩
  have hok : PS.ok S := ⟨by rw [hout]; decide, by rw [hmade]; decide, by rw [hn]; decide, by rw [hn]⟩
  have HE : Hid (OwnF w0 g p F { M.new S ins0' with words := wordsT } w1) := Lib.hid ⟨hE, hF, t1⟩
  have HS := Lib.hid (And.intro hst (And.intro hok hout))
  have HTT := Lib.hid (HT0.out.trans t1 (by simp))
  clear hE hF t1 hn hst hbs hh hout hmade hok hB
  go_wp2_with fail
  have H0 : Hid (BrRel w1 ys 0 (.slice none 0 0) (.slice none 0 0) w1) := Lib.hid ⟨CodeRow.none _ _, WantRow.none _ _, Touch.refl _ _, by simp [rowOf]⟩
  go_loopw [26, 6, 7] (fun iv cv wv wr => ∃ k : Nat, k ≤ q ∧ iv = .int .i64 k ∧ BrRel w1 ys k cv wv wr) (fun iv _ _ _ => q - (intOf iv).toNat)
  case atStart => exact ⟨0, Nat.zero_le _, rfl, H0.out⟩
  case round =>
    obtain ⟨k, hk, rfl, hR⟩ := hrel
    clear H0
    rcases Nat.lt_or_ge k q with hlt | hge
    · obtain ⟨b, co, hb, hcx⟩ := CellsAt.rowR (HC.out wr (HTT.out.trans hR.touch (by simp)))
      obtain ⟨cw, hcw⟩ : ∃ cw, ys[k]? = some cw := ⟨_, List.getElem?_eq_getElem (by rw [HL.out]; exact hlt)⟩
      obtain ⟨gb, off, hbe, hcell⟩ := hcx k (by rw [HL.out]; exact hlt)
      rw [HL.out] at hb
      injection hb with hb1 hb2 hb3
      subst hb1 hbe
      rw [show ys.getD k 0 = cw by rw [List.getD_eq_getElem?_getD, hcw]; rfl] at hcell
      obtain ⟨ca, cc, hcv⟩ := hR.code.form
      obtain ⟨wa, wc0, hwv⟩ := hR.want.form
      obtain ⟨ln, hln⟩ : ∃ ln, (bFrom 0 0 (ys.take k)).length = ln := ⟨_, rfl⟩
      have hlb : ln ≤ 140 := by
        have h1 := bFrom_le (ys.take k) 0 0
        rw [List.length_take] at h1
        omega
      rw [hln] at hcv
      rw [show ((ys.take k).map wantB).length = k by rw [List.length_map, List.length_take, HL.out]; omega] at hwv
      subst hcv hwv
      have HR := Lib.hid (And.intro hR (And.intro hcw hln))
      clear hR hcx hcw hln hb3
      have HCODE : Hid (∀ ob, CodeRow w1.heap.size (wr.alloc ob) (.slice ca ln cc) (bFrom 0 0 (ys.take k)) ∧ w1.heap.size ≤ (wr.alloc ob).heap.size) := Lib.hid fun ob => ⟨row_touch HR.out.1.code ((Touch.refl [] wr).alloc ob) (by simp), by have := HR.out.1.touch.size; rw [World.size_alloc]; omega⟩
      have HCN : Hid (∀ ob v' w2, CodeRow w1.heap.size w2 v' (bFrom 0 0 (ys.take k) ++ bItem k (bFrom 0 0 (ys.take k)).length cw) → (wr.alloc ob).grownBy w2 (Value.slice ca ln cc).ownBlock → (v'.ownBlock = (Value.slice ca ln cc).ownBlock ∨ v'.ownBlock = some (wr.alloc ob).heap.size) → CodeRow w1.heap.size w2 v' (bFrom 0 0 (ys.take (k + 1))) ∧ WantRow w1.heap.size w2 (.slice wa k wc0) ((ys.take k).map wantB) ∧ Touch [] w1 w2 ∧ ∀ x ∈ rowOf v', x ∉ rowOf (.slice wa k wc0)) := Lib.hid fun ob v' w2 q1 q2 q3 => by
        have tt := (Touch.refl [] wr).alloc ob
        exact BrRel.code_next (W := wr.alloc ob) ⟨row_touch HR.out.1.code tt (by simp), row_touch HR.out.1.want tt (by simp), HR.out.1.touch.trans tt (by simp), HR.out.1.off⟩ HR.out.2.1 q1 q2 q3
      have HLN : Hid ((bFrom 0 0 (ys.take k)).length + 5 ≤ 1000000) := Lib.hid (by rw [HR.out.2.2]; omega)
      have HLN7 : Hid ((bFrom 0 0 (ys.take k)).length + 7 ≤ 1000000) := Lib.hid (by rw [HR.out.2.2]; omega)
      have hw4 : IntKind.i64.wrap ((ln : Int) + 4) = ((ln + 4 : Nat) : Int) := by rw [IntKind.wrap_i64]; omega
      have hw5 : IntKind.i64.wrap ((ln : Int) + 5) = ((ln + 5 : Nat) : Int) := by rw [IntKind.wrap_i64]; omega
      have hw7 : IntKind.i64.wrap ((ln : Int) + 7) = ((ln + 7 : Nat) : Int) := by rw [IntKind.wrap_i64]; omega
      have hpar := Nat.mod_two_eq_zero_or_one k
      have HP := Lib.hid hpar
      clear hpar
      go_upto_if 35 with fail
      go_cut [6, 35] from 36 to 72 (fun v _ wc => ∃ cv', v = cv' ∧ (∃ a c, cv' = .slice a (ln + bLen k) c) ∧ CodeRow w1.heap.size wc cv' (bFrom 0 0 (ys.take (k + 1))) ∧ WantRow w1.heap.size wc (.slice wa k wc0) ((ys.take k).map wantB) ∧ Touch [] w1 wc ∧ ∀ x ∈ rowOf cv', x ∉ rowOf (.slice wa k wc0))
      case first =>
        rcases HP.out with h2 | h2
        · have e2 : ((k : Int) % 2 == 0) = true := by rw [beq_iff_eq]; omega
          have HB : Hid (bItem k ln cw = [(1, 0, cw), (4, ((ln + 4 : Nat) : Int), 0), (1, 0, 7), (3, ((ln + 5 : Nat) : Int), 0), (1, 0, 9)]) := Lib.hid (by unfold bItem; rw [if_pos h2])
          have HBL : Hid (bLen k = 5) := Lib.hid (by unfold bLen; rw [if_pos h2])
          clear h2
          go_wp2_with (refine wpList_code rfl (.tmp 36) (.tmp 47) rfl w1.heap.size (.slice ca ln cc) (bFrom 0 0 (ys.take k)) [(1, 0, cw), (4, ((ln + 4 : Nat) : Int), 0), (1, 0, 7), (3, ((ln + 5 : Nat) : Int), 0), (1, 0, 9)] (by simp [Act.eval]) (HCODE.out _).1 wr.heap.size 5 5 (by simp [Act.eval]) rfl (Blk.new wr _ _) (by omega) HLN.out (HCODE.out _).2 ?_; intro v6 w6 h6 g6 a6 f6)
          go_meet
          have h6 : CodeRow w1.heap.size w6 v6 (bFrom 0 0 (ys.take k) ++ bItem k (bFrom 0 0 (ys.take k)).length cw) := by rw [HR.out.2.2, HB.out]; exact h6
          obtain ⟨r1, r2, r3, r4⟩ := HCN.out _ v6 w6 h6 g6 a6
          rw [HR.out.2.2] at f6
          exact ⟨v6, rfl, by rw [HBL.out]; exact f6, r1, r2, r3, r4⟩
        · have e2 : ((k : Int) % 2 == 0) = false := by simp; omega
          have HB : Hid (bItem k ln cw = [(1, 0, cw), (1, 0, 0), (10, ((ln + 5 : Nat) : Int), 0), (1, 0, 9), (3, ((ln + 7 : Nat) : Int), 0), (11, 0, 0), (1, 0, 7)]) := Lib.hid (by unfold bItem; rw [if_neg (by omega)])
          have HBL : Hid (bLen k = 7) := Lib.hid (by unfold bLen; rw [if_neg (by omega)])
          clear h2
          go_wp2_with (refine wpList_code rfl (.tmp 49) (.tmp 62) rfl w1.heap.size (.slice ca ln cc) (bFrom 0 0 (ys.take k)) [(1, 0, cw), (1, 0, 0), (10, ((ln + 5 : Nat) : Int), 0), (1, 0, 9), (3, ((ln + 7 : Nat) : Int), 0), (11, 0, 0), (1, 0, 7)] (by simp [Act.eval]) (HCODE.out _).1 wr.heap.size 7 7 (by simp [Act.eval]) rfl (Blk.new wr _ _) (by omega) HLN7.out (HCODE.out _).2 ?_; intro v6 w6 h6 g6 a6 f6)
          go_meet
          have h6 : CodeRow w1.heap.size w6 v6 (bFrom 0 0 (ys.take k) ++ bItem k (bFrom 0 0 (ys.take k)).length cw) := by rw [HR.out.2.2, HB.out]; exact h6
          obtain ⟨r1, r2, r3, r4⟩ := HCN.out _ v6 w6 h6 g6 a6
          rw [HR.out.2.2] at f6
          exact ⟨v6, rfl, by rw [HBL.out]; exact f6, r1, r2, r3, r4⟩
      case rest =>
        obtain ⟨cv', rfl, ⟨fa, fc, rfl⟩, k1, k2, k3, k4⟩ := hcut
        have HK := Lib.hid (And.intro k1 (And.intro k2 (And.intro k3 k4)))
        have HW2 : Hid (∀ ob, WantRow w1.heap.size (wc.alloc ob) (.slice wa k wc0) ((ys.take k).map wantB) ∧ w1.heap.size ≤ (wc.alloc ob).heap.size) := Lib.hid fun ob => ⟨row_touch k2 ((Touch.refl [] wc).alloc ob) (by simp), by have := k3.size; rw [World.size_alloc]; omega⟩
        have HLW : Hid (((ys.take k).map wantB).length + 1 ≤ 1000000) := Lib.hid (by rw [List.length_map, List.length_take]; omega)
        have HNX : Hid (∀ ob v' w2, WantRow w1.heap.size w2 v' ((ys.take k).map wantB ++ [wantB cw]) → (wc.alloc ob).grownBy w2 (Value.slice wa k wc0).ownBlock → (v'.ownBlock = (Value.slice wa k wc0).ownBlock ∨ v'.ownBlock = some (wc.alloc ob).heap.size) → BrRel w1 ys (k + 1) (.slice fa (ln + bLen k) fc) v' w2) := Lib.hid fun ob v' w2 q1 q2 q3 => by
          have tt := (Touch.refl [] wc).alloc ob
          exact want_next (row_touch k1 tt (by simp)) (row_touch k2 tt (by simp)) (k3.trans tt (by simp)) k4 HR.out.2.1 q1 q2 q3
        clear k1 k2 k3 k4 hw4 hw5 hw7
        by_cases h0 : cw = 0
        · subst h0
          go_wp2_with (refine wpList_want rfl (.tmp 66) (.tmp 67) rfl w1.heap.size (.slice wa k wc0) ((ys.take k).map wantB) [9] (by simp [Act.eval]) (HW2.out _).1 wc.heap.size 1 1 (by simp [Act.eval]) rfl (Blk.new wc _ _) (by omega) HLW.out (HW2.out _).2 ?_; intro v7 w7 h7 g7 a7 f7)
          have H7 := Lib.hid (HNX.out _ v7 w7 h7 g7 a7)
          clear h7 g7 a7 f7
          go_roundw
          case rel => exact ⟨k + 1, by omega, vint (by omega), H7.out⟩
          case measure => simp only [intOf]; omega
        · have e0 : (cw == 0) = false := by simpa using h0
          have hwn : wantB cw = 7 := by unfold wantB; rw [if_neg h0]
          rw [hwn] at HNX
          clear h0
          go_wp2_with (refine wpList_want rfl (.tmp 69) (.tmp 70) rfl w1.heap.size (.slice wa k wc0) ((ys.take k).map wantB) [7] (by simp [Act.eval]) (HW2.out _).1 wc.heap.size 1 1 (by simp [Act.eval]) rfl (Blk.new wc _ _) (by omega) HLW.out (HW2.out _).2 ?_; intro v7 w7 h7 g7 a7 f7)
          have H7 := Lib.hid (HNX.out _ v7 w7 h7 g7 a7)
          clear h7 g7 a7 f7
          go_roundw
          case rel => exact ⟨k + 1, by omega, vint (by omega), H7.out⟩
          case measure => simp only [intOf]; omega
    · obtain rfl : k = q := by omega
      have hyl : ys.length ≤ 20 := by rw [HL.out]; exact hq
      have htk : ys.take k = ys := List.take_of_length_le (by rw [HL.out]; exact Nat.le_refl _)
      obtain ⟨hC, hW, tR, hO⟩ := hR
      rw [htk] at hC hW
      obtain ⟨ca, cc, hcv⟩ := hC.form
      obtain ⟨wa, wc0, hwv⟩ := hW.form
      rw [show (ys.map wantB).length = k by rw [List.length_map]; exact HL.out] at hwv
      obtain ⟨ln, hln⟩ : ∃ ln, (bFrom 0 0 ys).length = ln := ⟨_, rfl⟩
      rw [hln] at hcv
      subst hcv hwv
      have hlb : ln ≤ 140 := by
        have h1 := bFrom_le ys 0 0
        omega
      have HCODE : Hid (∀ ob, CodeRow w1.heap.size (wr.alloc ob) (.slice ca ln cc) (bFrom 0 0 ys) ∧ w1.heap.size ≤ (wr.alloc ob).heap.size) := Lib.hid fun ob => ⟨row_touch hC ((Touch.refl [] wr).alloc ob) (by simp), by have := tR.size; rw [World.size_alloc]; omega⟩
      have HLN : Hid ((bFrom 0 0 ys).length + 1 ≤ 1000000) := Lib.hid (by omega)
      have HR := Lib.hid (And.intro hC (And.intro hW (And.intro tR (And.intro hO (And.intro hyl hln)))))
      clear hC hW tR hO htk hyl hln
      go_upto_region 19 with fail
      go_wp2_with (refine wpList_code rfl (.tmp 75) (.tmp 77) rfl w1.heap.size (.slice ca ln cc) (bFrom 0 0 ys) [(15, 0, 0)] (by simp [Act.eval]) (HCODE.out _).1 wr.heap.size 1 1 (by simp [Act.eval]) rfl (Blk.new wr _ _) (by omega) HLN.out (HCODE.out _).2 ?_; intro v6 w6 h6 g6 a6 f6; obtain ⟨fa, fc, rfl⟩ := f6)
      obtain ⟨tn, htn⟩ : ∃ tn, (bFrom 0 0 ys).length + 1 = tn := ⟨_, rfl⟩
      rw [htn] at h6 a6 ⊢
      have hr0 := HR.out
      have tA := (Touch.refl [] wr).alloc (.cells #[.int .u8 15, .int .i64 0, .int .i64 0] 56)
      have t16 := Touch.row_grown (hr0.2.2.1.trans tA (by simp)) g6 (fun j hj => own_from hr0.1 j (rowOf_mem.2 hj))
      have hW6 : WantRow w1.heap.size w6 (.slice wa k wc0) (ys.map wantB) := by
        have tt : Touch (rowOf (.slice ca ln cc)) (wr.alloc (.cells #[.int .u8 15, .int .i64 0, .int .i64 0] 56)) w6 := (Touch.refl _ _).grown g6 fun j hj => .inl (rowOf_mem.2 hj)
        exact row_touch (row_touch hr0.2.1 tA (by simp)) tt (fun x hx hc => hr0.2.2.2.1 x hc hx)
      have hE6 := HE.out.eng.touch t16 (by simp)
      have hFw : ∀ x ∈ F, w.heap.size ≤ x := fun x hx => Nat.le_trans HT0.out.size (HE.out.new x hx)
      have hFl := HE.out.eng.lt
      have tw6 := HTT.out.trans t16 (by simp)
      have hDef := Define_ok hE6 (Nat.zero_le _) (Nat.le_of_ble_eq_true rfl) (bFrom 0 0 ys ++ [(15, 0, 0)]) (brOne S ys hr0.2.2.2.2.1 [] (by decide) 0).len (brOne S ys hr0.2.2.2.2.1 [] (by decide) 0).op (branch_may ys _ hr0.2.2.2.2.1) (.slice fa tn fc) (CodeRow.insAt h6) (fun b hb => ⟨(World.ownsRow.lt h6 b (rowOf_mem.1 hb)).2, fun hx => by
        have h1 := (World.ownsRow.lt h6 b (rowOf_mem.1 hb)).1
        have h2 := hFl b hx
        omega⟩)
      rw [show (({ M.new S ins0' with words := wordsT } : M).ends.length : Int) + 1 = 1 from rfl] at hDef
      have HG := Lib.hid (And.intro hFw (And.intro tw6 (And.intro hW6 hFl)))
      clear h6 g6 a6 hr0 tA t16 hW6 hE6 hFw hFl tw6 htn HCODE HLN
      refine hDef.mono ?_
      rintro _ w7 ⟨rfl, K7⟩
      obtain ⟨F7, e7, n7, t7, _, c7⟩ := keep_own HG.out.1 HG.out.2.1 K7
      have hAdd := Add_ok e7 (Nat.le_of_ble_eq_true rfl) 5 1 0 (.inr (.inl ⟨.inl rfl, by decide, by show (1 : Int) ≤ (1 : Int); decide⟩)) ml (cell_quiet t7 HML.out)
      rw [show (((({ M.new S ins0' with words := wordsT } : M).laid (bFrom 0 0 ys ++ [(15, 0, 0)])).words.length : Nat) : Int) + 1 = 181 by show ((wordsT.length : Nat) : Int) + 1 = _; rw [wordsT_len]; rfl] at hAdd
      have C7 := Lib.hid c7
      clear K7 e7 n7 t7 c7 hDef
      go_wp2_with fail
      refine hAdd.mono ?_
      rintro _ w8 ⟨rfl, K8⟩
      have K8 : Keep w6 g p F (brM S ys) w8 := C7.out _ _ K8
      obtain ⟨F8, e8, n8, t8, _, c8⟩ := keep_own HG.out.1 HG.out.2.1 K8
      have hEx := exec_yes e8 (by show (wordsT ++ [(5, 1, 0)]).length ≤ 1000000; rw [List.length_append, wordsT_len]; decide) 181 (5, 1, 0) (word_last (brM S ys) wordsT (5, 1, 0) rfl)
      have C8 := Lib.hid c8
      clear K8 e8 n8 t8 c8 hAdd
      go_wp2_with fail
      refine hEx.mono ?_
      rintro _ w9 ⟨rfl, K9⟩
      have K9 : Keep w6 g p F { brM S ys with nx := 181 } w9 := C8.out _ _ K9
      obtain ⟨F9, e9, n9, t9, _, c9⟩ := keep_own HG.out.1 HG.out.2.1 K9
      have hone := brOne S ys HR.out.2.2.2.2.1 (wordsT ++ [(5, 1, 0)]) (by rw [List.length_append, wordsT_len]; decide) 181
      have hRun := run_law (D := pD) (bad := fun S => S.out = [7]) e9 (hone.fine (by show S.st.length ≤ 128; rw [HS.out.1]; decide) (Nat.le_of_ble_eq_true rfl) ⟨Nat.le_of_ble_eq_true rfl, Nat.le_of_ble_eq_true rfl, by intro o ho; cases ho⟩ HS.out.2.1) n9 t9 pD_fine pD_bad (fun S st h => h) (fun _ => False) (fun _ _ h => h.elim) (fun _ _ _ => rfl) (ctl_of (ctl_app _ _ ctl_table rfl)) (hone.noLoc (fun x hx => by
        rcases List.mem_append.1 hx with hx | hx
        · exact (bFrom_op ys 0 0 x hx).2.1
        · rw [List.mem_singleton.1 hx]; decide)) 300 (by decide) (brRun S HS.out.1 ys HR.out.2.2.2.2.1) (by show ¬ S.out = [7]; rw [HS.out.2.2]; decide) (fun n hn => nothing_next rfl rfl n hn)
      rw [show ((300 : Nat) : Int) = 300 from rfl] at hRun
      have C9 := Lib.hid c9
      have hfk := status_kind
      clear K9 e9 n9 t9 c9 hEx hone
      go_wp2_with fail
      refine hRun.mono ?_
      rintro _ wA ⟨s, mf, rfl, KA, rfl, rfl⟩
      have KA := C9.out _ _ KA
      obtain ⟨FA, eA, nA, tA, uA, cA⟩ := keep_own HG.out.1 HG.out.2.1 KA
      have hSt := state_eng eA
      have hSk := eA.stack_of
      have hAll := all_eng eA (by show (ys.map wantB).length ≤ 128; rw [List.length_map]; have := HR.out.2.2.2.2.1; omega)
      rw [show ((brM S ys).go 0 0 (ys.map wantB) []).S.st.length = k by show (ys.map wantB).length = k; rw [List.length_map]; exact HL.out] at hAll
      have HX := Lib.hid (And.intro tA (row_touch HG.out.2.2.1 uA (fun x hx hf => by
        have h1 := HG.out.2.2.2 x hf
        have h2 := own_from HG.out.2.2.1 x hx
        omega)))
      clear KA eA nA tA uA cA hRun
      unfold stV
      dsimp only
      go_wp2_with fail
      refine hSt.mono ?_
      rintro _ _ ⟨rfl, rfl⟩
      clear hSt
      go_wp2_with fail
      refine hSk.mono ?_
      rintro _ _ ⟨rfl, rfl⟩
      clear hSk
      generalize ((brM S ys).go 0 0 (ys.map wantB) []).S.k = kk at *
      go_wp2_with fail
      refine hAll.mono ?_
      rintro _ wB ⟨a2, c2, rfl, hRB, tB⟩
      have hRB : RowR wB (.slice a2 k c2) (ys.map wantB) := hRB
      have hSame := Same_eq (.slice a2 k c2) (.slice wa k wc0) (ys.map wantB) wB hRB (RowR.own (row_touch HX.out.2 tB (by simp))) (by rw [List.length_map]; have := HR.out.2.2.2.2.1; omega)
      have HTB := Lib.hid (HX.out.1.trans tB (by simp))
      clear hRB tB hAll
      go_wp2_with fail
      refine hSame.mono ?_
      rintro _ wC ⟨rfl, tC⟩
      have HTC := Lib.hid (HTB.out.trans tC (by simp))
      clear hSame tC
      go_wp2_with fail
      go_ret
      exact ⟨rfl, HTC.out⟩
end En
end Go.Proofs.YtdokeddjcpnmiaaGreatDoor
