/- EngineCells: the walk. -/
import Derived.Test.YtdokeddjcpnmiaaGreatDoorECellR
import Derived.Test.YtdokeddjcpnmiaaGreatDoorJRunX
import Derived.Test.YtdokeddjcpnmiaaGreatDoorJMapsA
import Derived.Test.YtdokeddjcpnmiaaGreatDoorJFrameAny
import Derived.Deep.CutRange
namespace Go.Proofs.YtdokeddjcpnmiaaGreatDoor
open Go.RowKit
namespace En

-- TABLE 15
def tabE15 (ca : Option Addr) (cc k : Nat) : List (Nat × Nat × Value) := [(0, 63, .slice ca (2 * k) cc), (1, 64, .int .i64 (181 + 2 * (k : Int))), (2, 65, .int .i64 (182 + 2 * (k : Int))), (4, 67, .int .i64 (k : Int)), (5, 68, .int .i64 ((k / 2 : Nat) : Int)), (6, 69, .int .i64 ((k / 2 % 2 : Nat) : Int)), (8, 71, .int .i64 (ceNum k)), (9, 72, .agg #[.int .u8 2, .int .i64 (ceNum k), .int .i64 0]), (10, 73, .int .i64 108), (11, 74, .agg #[.int .u8 2, .int .i64 108, .int .i64 0])]
theorem tabE15_lt {ca : Option Addr} {cc k : Nat} : ∀ x ∈ tabE15 ca cc k, x.2.1 = x.1 + 63 ∧ x.1 ≤ 11 ∧ x.1 ≠ 3 ∧ x.1 ≠ 7 := by
  intro x hx; simp only [tabE15, List.mem_cons, List.not_mem_nil, or_false] at hx; rcases hx with rfl | rfl | rfl | rfl | rfl | rfl | rfl | rfl | rfl | rfl <;> simp
theorem tabE15_val {ca : Option Addr} {cc k : Nat} : ∀ x ∈ tabE15 ca cc k, ∀ y ∈ tabE15 ca cc k, x.1 = y.1 → x.2.2 = y.2.2 := by
  have key : ∀ x ∈ tabE15 ca cc k, (tabE15 ca cc k).find? (fun y => y.1 == x.1) = some x := by
    intro x hx; simp only [tabE15, List.mem_cons, List.not_mem_nil, or_false] at hx; rcases hx with rfl | rfl | rfl | rfl | rfl | rfl | rfl | rfl | rfl | rfl <;> rfl
  intro x hx y hy e
  have h1 := key x hx
  have h2 := key y hy
  rw [e, h2] at h1
  injection h1 with h1
  rw [h1]
theorem tabE15_step {ca : Option Addr} {cc k : Nat} {listed : Array Bool} {f : Nat → Value} (h : TabOk (tabE15 ca cc k) listed f) (i : Nat) (v : Value) (hv : (i, i + 63, v) ∈ tabE15 ca cc k) : TabOk (tabE15 ca cc k) (listed.setIfInBounds i true) (fun j => if j = i + 63 then v else f j) := by
  refine h.step (fun x hx => ⟨fun e => ?_, fun e => ?_⟩)
  · have h1 := (tabE15_lt x hx).1
    exact ⟨by omega, tabE15_val x hx _ hv e⟩
  · have h1 := (tabE15_lt x hx).1
    omega
theorem tabE15_other {ca : Option Addr} {cc k : Nat} {listed : Array Bool} {f : Nat → Value} (h : TabOk (tabE15 ca cc k) listed f) (i d : Nat) (v : Value) (hi : i = 3 ∨ i = 7 ∨ 12 ≤ i) (hd : d = 66 ∨ d = 70 ∨ 75 ≤ d ∨ d < 63) : TabOk (tabE15 ca cc k) (listed.setIfInBounds i true) (fun j => if j = d then v else f j) := fun x hx hl => by
  obtain ⟨h1, h2, h3, h4⟩ := tabE15_lt x hx
  simp only [if_neg (show ¬ x.2.1 = d by omega)]
  rcases listed_set hl with h5 | h5
  · omega
  · exact h x hx h5
/-- a row that was made: its slot, its block -/
def RowE (i s : Nat) (t : TypeId) (cs : Array Value) (listed : Array Bool) (f : Nat → Value) (W : World) : Prop := listed.getD i false = true → ∃ r, f s = .slice (some ⟨r, 0, none⟩) 2 2 ∧ Blk W r t cs
def PtrE (p : Nat) (listed : Array Bool) (f : Nat → Value) : Prop := listed.getD 7 false = true → ∀ r, f 66 = .slice (some ⟨r, 0, none⟩) 2 2 → f 70 = .pointer (some ⟨r, p, none⟩)
section
variable {i s p : Nat} {t : TypeId} {cs : Array Value} {listed : Array Bool} {f : Nat → Value} {W W' : World}
theorem RowE.step (h : RowE i s t cs listed f W) {j d : Nat} {v : Value} (h1 : j ≠ i) (h2 : s ≠ d) : RowE i s t cs (listed.setIfInBounds j true) (fun q => if q = d then v else f q) W := fun hl => by
  rw [getD_set_ne h1] at hl
  simp only [if_neg h2]
  exact h hl
theorem RowE.world (h : RowE i s t cs listed f W) (tt : ∀ r, Blk W r t cs → Blk W' r t cs) : RowE i s t cs listed f W' := fun hl => by
  obtain ⟨r, e, hb⟩ := h hl
  exact ⟨r, e, tt r hb⟩
theorem PtrE.step (h : PtrE p listed f) {j d : Nat} {v : Value} (h1 : j ≠ 7) (h2 : 66 ≠ d) (h3 : 70 ≠ d) : PtrE p (listed.setIfInBounds j true) (fun q => if q = d then v else f q) := fun hl r => by
  rw [getD_set_ne h1] at hl
  simp only [if_neg h2, if_neg h3]
  exact h hl r
end
/-- what the append has left -/
def EndE (w wc : World) (LC : List (Int × Int × Int)) (X : List (Int × Int × Int)) (cv : Value) (n : Nat) (listed : Array Bool) (f : Nat → Value) (W : World) : Prop :=
  listed.getD 13 false = true → ∃ Wm, Touch [] wc Wm ∧ CodeRow w.heap.size W (f 76) (LC ++ X) ∧ Wm.grownBy W cv.ownBlock ∧ ((f 76).ownBlock = cv.ownBlock ∨ (f 76).ownBlock = some Wm.heap.size) ∧ ∃ a c, f 76 = .slice a n c
-- END TABLE 15
set_option maxRecDepth 100000 in
set_option maxHeartbeats 6400000 in
theorem EngineCells_walk (l : List Int) (v : Value) (w : World) (h : ArgC w v l) (ml : Int) (hml : w.cell? ⟨3, 0, none⟩ = some (.int .i64 ml)) : Calls Tryz.prog 6 #[v] w fun e w' => e = .returned (.bool true) ∧ Touch [] w w' := by
  obtain ⟨a, n, c, q, rfl, hmin, hq, hqc, hlen, hcells⟩ := h.openN 20
  obtain ⟨ys, hys⟩ : ∃ ys, l.take 20 = ys := ⟨_, rfl⟩
  rw [hys] at hlen hcells
  have hmin : min (n : Int) 20 = (q : Int) := hmin
  have hS := shown_any w ml hml
  have HC := Lib.hid hcells
  have HML := Lib.hid hml
  have HL := Lib.hid hlen
  clear h hcells hml hys hlen
  go_enter Tryz.func6, Tryz.ntmps6
  go_wp2_with fail
  refine hS.mono ?_
  rintro _ w0 ⟨rfl, t0⟩
  have hB := built_any w0 ml (cell_quiet t0 HML.out)
  have HT0 := Lib.hid t0
  clear hS t0
  go_wp2_with fail
  refine hB.mono ?_
  rintro _ w1 ⟨g, p, F, S, rfl, hE, hF, t1, hn, hst, hbs, hh, hout, hmade⟩
  have hok : PS.ok S := ⟨by rw [hout]; decide, by rw [hmade]; decide, by rw [hn]; decide, by rw [hn]⟩
  have hFw : ∀ x ∈ F, w.heap.size ≤ x := fun x hx => Nat.le_trans HT0.out.size (hF x hx)
  have H0 : Hid (CeG w g p { M.new S ins0' with words := wordsT ++ ceWs 0 (ys.take 0) } (putL (ceUs 0 (ys.take 0))) (ceWant (ys.take 0)) (.slice none 0 0) (.slice none 0 0) w1) := Lib.hid ⟨⟨F, by rw [show ceWs 0 (ys.take 0) = [] from rfl, List.append_nil]; exact hE, hFw, by simp [rowOf], by simp [rowOf]⟩, CodeRow.none _ _, WantRow.none _ _, by simp [rowOf], HT0.out.trans t1 (by simp)⟩
  have HS := Lib.hid (And.intro hst (And.intro hok hout))
  clear hE hF t1 hn hst hbs hh hout hmade hok hB hFw
  go_wp2_with fail
  go_loopw [33, 6, 7] (fun iv cv wv wr => ∃ k : Nat, k ≤ q ∧ iv = .int .i64 k ∧ CeG w g p { M.new S ins0' with words := wordsT ++ ceWs 0 (ys.take k) } (putL (ceUs 0 (ys.take k))) (ceWant (ys.take k)) cv wv wr ∧ (k = 0 → wv = .slice none 0 0)) (fun iv _ _ _ => q - (intOf iv).toNat)
  case atStart => exact ⟨0, Nat.zero_le _, rfl, H0.out, fun _ => rfl⟩
  case round =>
    obtain ⟨k, hk, rfl, hR, hwn⟩ := hrel
    have HWN := Lib.hid hwn
    clear hwn
    clear H0
    rcases Nat.lt_or_ge k q with hlt | hge
    · obtain ⟨b, co, hb, hcx⟩ := cells_rowR (HC.out wr hR.touch)
      obtain ⟨cw, hcw⟩ : ∃ cw, ys[k]? = some cw := ⟨_, List.getElem?_eq_getElem (by rw [HL.out]; exact hlt)⟩
      obtain ⟨gb, off, hbe, hcell⟩ := hcx k (by rw [HL.out]; exact hlt)
      rw [HL.out] at hb
      injection hb with hb1 hb2 hb3
      subst hb1 hbe
      rw [show ys.getD k 0 = cw by rw [List.getD_eq_getElem?_getD, hcw]; rfl] at hcell
      have htk : ys.take (k + 1) = ys.take k ++ [cw] := by
        rw [List.take_succ_eq_append_getElem (by rw [HL.out]; exact hlt)]
        congr 2
        exact (List.getElem?_eq_some_iff.1 hcw).2
      have htl : (ys.take k).length = k := by rw [List.length_take, HL.out]; omega
      have HTK := Lib.hid (And.intro htk htl)
      obtain ⟨ca, cc, hcv⟩ := hR.code.form
      obtain ⟨wa, wc0, hwv⟩ := hR.want.form
      rw [show (putL (ceUs 0 (ys.take k))).length = 2 * k by rw [putL_len, ceUs_len, htl]] at hcv
      rw [ceWant_len, htl] at hwv
      subst hcv hwv
      have HR := Lib.hid hR
      have HXP := fun W => xt_any ⟨#[62, 114]⟩ 107 at_tor W
      rw [show ((107 : Nat) : Int) + 1 = 108 from rfl] at HXP
      have HXP := Lib.hid HXP
      have hpar := Nat.mod_two_eq_zero_or_one k
      have HP := Lib.hid hpar
      clear hR hcx hcw hb3 htk htl hpar
      go_upto_region 11 with fail
      go_cut [10, 11] from 38 to 49 (fun xv ev wx => xv = .int .i64 (181 + 2 * (k : Int)) ∧ ev = .int .i64 0 ∧ CeG w g p { M.new S ins0' with words := wordsT ++ ceWs 0 (ys.take k) ++ [(ceK k, 0, cw)] } (putL (ceUs 0 (ys.take k))) (ceWant (ys.take k)) (.slice ca (2 * k) cc) (.slice wa (2 * k) wc0) wx)
      case first =>
        have bI := Blk.new wr 3 #[.int .i64 6, .int .i64 9]
        have tI := (Touch.refl [] wr).alloc (.cells #[.int .i64 6, .int .i64 9] 3)
        obtain ⟨F', hE, hFn, _, hcall⟩ := (HR.out.quiet tI).call
        have hAdd := Add_ok hE (by show (wordsT ++ ceWs 0 (ys.take k)).length < 600; rw [List.length_append, wordsT_len, ceWs_len, HTK.out.2]; omega) (ceK k) 0 cw (.inr (.inr (.inl ⟨by unfold ceK; split; exact .inl rfl; exact .inr rfl, rfl⟩))) ml (cell_quiet (HR.out.touch.trans tI (by simp)) HML.out)
        rw [show ((({ M.new S ins0' with words := wordsT ++ ceWs 0 (ys.take k) } : M).words.length : Nat) : Int) + 1 = 181 + 2 * (k : Int) by show (((wordsT ++ ceWs 0 (ys.take k)).length : Nat) : Int) + 1 = _; rw [List.length_append, wordsT_len, ceWs_len, HTK.out.2]; omega] at hAdd
        have HCL := Lib.hid hcall
        have i0 := bI.cell 0
        have i1 := bI.cell 1
        clear hE hFn hcall tI bI
        rcases HP.out with h2 | h2
        · have e2 : (k : Int) % 2 = 0 := by omega
          have eK : ceK k = 6 := by unfold ceK; rw [if_pos h2]
          rw [eK] at hAdd
          have EK := Lib.hid eK
          clear h2 eK
          go_wp2_with fail
          refine hAdd.mono ?_
          rintro _ w3 ⟨rfl, K3⟩
          have HK3 := Lib.hid (HCL.out _ _ K3)
          clear hAdd K3
          go_wp2_with fail
          go_meet
          rw [EK.out]
          exact ⟨rfl, rfl, HK3.out⟩
        · have e2 : (k : Int) % 2 = 1 := by omega
          have eK : ceK k = 9 := by unfold ceK; rw [if_neg (by omega)]
          rw [eK] at hAdd
          have EK := Lib.hid eK
          clear h2 eK
          go_wp2_with fail
          refine hAdd.mono ?_
          rintro _ w3 ⟨rfl, K3⟩
          have HK3 := Lib.hid (HCL.out _ _ K3)
          clear hAdd K3
          go_wp2_with fail
          go_meet
          rw [EK.out]
          exact ⟨rfl, rfl, HK3.out⟩
      case rest =>
        obtain ⟨rfl, rfl, hR2⟩ := hcut
        obtain ⟨F', hE, hFn, _, hcall⟩ := hR2.call
        have hlw : (wordsT ++ ceWs 0 (ys.take k) ++ [(ceK k, 0, cw)]).length = 181 + 2 * k := by rw [List.length_append, List.length_append, wordsT_len, ceWs_len, HTK.out.2]; simp; omega
        have hAdd := Add_ok hE (by show (wordsT ++ ceWs 0 (ys.take k) ++ [(ceK k, 0, cw)]).length < 600; rw [hlw]; omega) 8 (181 + 2 * (k : Int)) 0 (.inr (.inr (.inr ⟨rfl, by omega, by show 181 + 2 * (k : Int) ≤ ((wordsT ++ ceWs 0 (ys.take k) ++ [(ceK k, 0, cw)]).length : Int); rw [hlw]; omega⟩))) ml (cell_quiet hR2.touch HML.out)
        rw [show ((({ M.new S ins0' with words := wordsT ++ ceWs 0 (ys.take k) ++ [(ceK k, 0, cw)] } : M).words.length : Nat) : Int) + 1 = 182 + 2 * (k : Int) by show (((wordsT ++ ceWs 0 (ys.take k) ++ [(ceK k, 0, cw)]).length : Nat) : Int) + 1 = _; rw [hlw]; omega] at hAdd
        have HCL := Lib.hid hcall
        clear hE hFn hcall hlw hR2
        go_wp2_with fail
        refine hAdd.mono ?_
        rintro _ w4 ⟨rfl, K4⟩
        have hR3 := HCL.out _ _ K4
        have HR3 : Hid (CeG w g p { M.new S ins0' with words := wordsT ++ ceWs 0 (ys.take (k + 1)) } (putL (ceUs 0 (ys.take k))) (ceWant (ys.take k)) (.slice ca (2 * k) cc) (.slice wa (2 * k) wc0) w4) := Lib.hid (by
          rw [HTK.out.1, ceWs_snoc, HTK.out.2, Nat.zero_add, ← List.append_assoc]
          have e : wordsT ++ ceWs 0 (ys.take k) ++ [(ceK k, 0, cw), (8, 181 + 2 * (k : Int), 0)] = wordsT ++ ceWs 0 (ys.take k) ++ [(ceK k, 0, cw)] ++ [(8, 181 + 2 * (k : Int), 0)] := by simp
          rw [e]
          exact hR3)
        clear hAdd K4 hR3 HCL
        go_upto_region 15 with fail
        go_cut [6] from 63 to 76 (fun v wx => ∃ fa fc, v = .slice fa (2 * k + 2) fc ∧ CeG w g p { M.new S ins0' with words := wordsT ++ ceWs 0 (ys.take (k + 1)) } (putL (ceUs 0 (ys.take (k + 1)))) (ceWant (ys.take k)) v (.slice wa (2 * k) wc0) wx)
        case first =>
          have HQ : Hid ((k : Int).tdiv 2 = ((k / 2 : Nat) : Int) ∧ (((k / 2 : Nat) : Int)).tmod 2 = ((k / 2 % 2 : Nat) : Int)) := Lib.hid ⟨by rw [Int.tdiv_eq_ediv_of_nonneg (by omega)]; omega, by rw [Int.tmod_eq_emod_of_nonneg (by omega)]; omega⟩
          have hpar2 := Nat.mod_two_eq_zero_or_one (k / 2)
          rcases hpar2 with hp | hp
          · have HPAR := Lib.hid hp
            have HNUM := Lib.hid (show ceNum k = 181 + 2 * (k : Int) by unfold ceNum; rw [if_pos hp])
            clear hp
            -- REGION 15.0
            refine frame_six (fun f => #[.slice (some ⟨gb, off, none⟩) n c, undef, u2, .bool true, .pointer (some ⟨g, 0, none⟩), .slice (some ⟨gb, off, none⟩) q c, f 6, .slice wa (2 * k) wc0, .int .i64 (k : Int), .int .i64 cw, .int .i64 (181 + 2 * (k : Int)), .int .i64 0, .int .i64 (182 + 2 * (k : Int)), .int .i64 0, undef, undef, undef, undef, undef, undef, undef, undef, .bool true, .pointer (some ⟨g, 0, none⟩), .pointer (some ⟨g, 0, none⟩), .bool false, .slice (some ⟨gb, off, none⟩) n c, .slice (some ⟨gb, off, none⟩) n c, .int .i64 (n : Int), .int .i64 (q : Int), .slice (some ⟨gb, off, none⟩) q c, .slice (some ⟨gb, off, none⟩) q c, .int .i64 (q : Int), .int .i64 (k : Int), .bool true, .int .i64 (k : Int), .pointer (some ⟨gb, off + k, none⟩), .int .i64 cw, u38, u39, u40, u41, u42, u43, u44, u45, u46, u47, u48, u49, .tuple #[.int .i64 (182 + 2 * (k : Int)), .int .i64 0], .pointer (some ⟨g, 0, none⟩), .int .i64 (181 + 2 * (k : Int)), .agg #[.int .i64 8, .int .i64 (181 + 2 * (k : Int)), .int .i64 0], .tuple #[.int .i64 (182 + 2 * (k : Int)), .int .i64 0], .int .i64 (182 + 2 * (k : Int)), .int .i64 0, .int .i64 0, .bool false, .bool false, .int .i64 0, .bool false, .bool false, f 63, f 64, f 65, f 66, f 67, f 68, f 69, f 70, f 71, f 72, f 73, f 74, f 75, f 76, u77, u78, u79, u80, u81, u82, undef, undef, undef, undef, undef, undef, undef, undef, undef, undef, undef, undef, undef, undef, undef, undef, undef, undef, undef, undef, undef, undef, undef, undef, undef, undef, undef, undef, undef, undef, undef, undef, undef, undef, undef, undef, undef, undef, undef, undef, undef, undef, undef, undef, undef, undef, undef, undef, undef, undef, undef, undef, undef, undef, undef, undef, undef, undef, undef, undef, undef, undef, undef, undef, undef, undef, undef, undef, undef, undef, undef, undef, undef, undef, undef, undef, undef, undef, undef, undef, undef, undef, undef, undef, undef, undef, undef, undef, undef, undef, undef, undef, undef, undef, undef, undef, undef, undef, undef, undef, undef, undef, undef, undef, undef]) (fun j => if j = 6 then .slice ca (2 * k) cc else if j = 63 then u63 else if j = 64 then u64 else if j = 65 then u65 else if j = 66 then u66 else if j = 67 then u67 else if j = 68 then u68 else if j = 69 then u69 else if j = 70 then u70 else if j = 71 then u71 else if j = 72 then u72 else if j = 73 then u73 else if j = 74 then u74 else if j = 75 then u75 else u76) rfl (.slice ca (2 * k) cc) rfl (fun f h6 => ?_)
            refine region_inv2 (fun listed a_ Wx => ∃ f : Nat → Value, a_ = { tmps := #[.slice (some ⟨gb, off, none⟩) n c, undef, u2, .bool true, .pointer (some ⟨g, 0, none⟩), .slice (some ⟨gb, off, none⟩) q c, f 6, .slice wa (2 * k) wc0, .int .i64 (k : Int), .int .i64 cw, .int .i64 (181 + 2 * (k : Int)), .int .i64 0, .int .i64 (182 + 2 * (k : Int)), .int .i64 0, undef, undef, undef, undef, undef, undef, undef, undef, .bool true, .pointer (some ⟨g, 0, none⟩), .pointer (some ⟨g, 0, none⟩), .bool false, .slice (some ⟨gb, off, none⟩) n c, .slice (some ⟨gb, off, none⟩) n c, .int .i64 (n : Int), .int .i64 (q : Int), .slice (some ⟨gb, off, none⟩) q c, .slice (some ⟨gb, off, none⟩) q c, .int .i64 (q : Int), .int .i64 (k : Int), .bool true, .int .i64 (k : Int), .pointer (some ⟨gb, off + k, none⟩), .int .i64 cw, u38, u39, u40, u41, u42, u43, u44, u45, u46, u47, u48, u49, .tuple #[.int .i64 (182 + 2 * (k : Int)), .int .i64 0], .pointer (some ⟨g, 0, none⟩), .int .i64 (181 + 2 * (k : Int)), .agg #[.int .i64 8, .int .i64 (181 + 2 * (k : Int)), .int .i64 0], .tuple #[.int .i64 (182 + 2 * (k : Int)), .int .i64 0], .int .i64 (182 + 2 * (k : Int)), .int .i64 0, .int .i64 0, .bool false, .bool false, .int .i64 0, .bool false, .bool false, f 63, f 64, f 65, f 66, f 67, f 68, f 69, f 70, f 71, f 72, f 73, f 74, f 75, f 76, u77, u78, u79, u80, u81, u82, undef, undef, undef, undef, undef, undef, undef, undef, undef, undef, undef, undef, undef, undef, undef, undef, undef, undef, undef, undef, undef, undef, undef, undef, undef, undef, undef, undef, undef, undef, undef, undef, undef, undef, undef, undef, undef, undef, undef, undef, undef, undef, undef, undef, undef, undef, undef, undef, undef, undef, undef, undef, undef, undef, undef, undef, undef, undef, undef, undef, undef, undef, undef, undef, undef, undef, undef, undef, undef, undef, undef, undef, undef, undef, undef, undef, undef, undef, undef, undef, undef, undef, undef, undef, undef, undef, undef, undef, undef, undef, undef, undef, undef, undef, undef, undef, undef, undef, undef, undef, undef, undef, undef, undef, undef], defers := [] } ∧ TabOk (tabE15 ca cc k) listed f ∧ (listed.getD 13 false = false → Touch [] w4 Wx ∧ RowE 3 66 3 #[.int .i64 (181 + 2 * (k : Int)), .int .i64 (182 + 2 * (k : Int))] listed f Wx ∧ RowE 12 75 56 (([((2 : Int), ceNum k, (0 : Int)), (2, 108, 0)] : List (Int × Int × Int)).flatMap insCells).toArray listed f Wx ∧ PtrE 0 listed f) ∧ (listed.getD 14 false = false → f 6 = .slice ca (2 * k) cc) ∧ (listed.getD 14 false = true → f 6 = f 76) ∧ EndE w w4 (putL (ceUs 0 (ys.take k))) [((2 : Int), ceNum k, (0 : Int)), (2, 108, 0)] (.slice ca (2 * k) cc) (2 * k + 2) listed f Wx) (by kernel_rfl) (by kernel_rfl) ?h0 ?step ?fin
            case h0 =>
              intro listed hs hl
              exact ⟨f, rfl, fun x _ h => (by rw [hl] at h; cases h), fun _ => ⟨(Touch.refl [] w4).drew, fun h => (by rw [hl] at h; cases h), fun h => (by rw [hl] at h; cases h), fun h => (by rw [hl] at h; cases h)⟩, fun _ => h6, fun h => (by rw [hl] at h; cases h), fun h => (by rw [hl] at h; cases h)⟩
            case step =>
              rintro listed a_ Wx ⟨f, rfl, hT, hA, h6a, h6b, hEnd⟩ hC i o_ ho hli hdep
              try dsimp only
              have hi : i < 15 := (Array.getElem?_eq_some_iff.1 ho).1
              rcases (by omega : i = 0 ∨ i = 1 ∨ i = 2 ∨ i = 3 ∨ i = 4 ∨ i = 5 ∨ i = 6 ∨ i = 7 ∨ i = 8 ∨ i = 9 ∨ i = 10 ∨ i = 11 ∨ i = 12 ∨ i = 13 ∨ i = 14) with rfl | rfl | rfl | rfl | rfl | rfl | rfl | rfl | rfl | rfl | rfl | rfl | rfl | rfl | rfl
              · cases (show some _ = some o_ from ho)
                have h13 : listed.getD 13 false = false := by
                  cases e_ : listed.getD 13 false with
                  | false => rfl
                  | true =>
                    have l0 := hC 13 _ rfl e_ { on := 0, ground := .data } (by simp) rfl
                    rw [getD_false hli] at l0
                    cases l0
                obtain ⟨tq, hR1, hR2, hP⟩ := hA h13
                have h14 : listed.getD 14 false = false := by
                  cases e_ : listed.getD 14 false with
                  | false => rfl
                  | true =>
                    have l13 := hC 14 _ rfl e_ { on := 13, ground := .data } (by simp) rfl
                    rw [h13] at l13
                    cases l13
                have g6 := h6a h14
                refine wpOp_of ho rfl ?_
                refine wp_value (v := .slice ca (2 * k) cc) (w1 := Wx) ?_ ⟨_, rfl, tabE15_step hT 0 (.slice ca (2 * k) cc) (by simp [tabE15]), fun _ => ⟨tq, hR1.step (by omega) (by omega), hR2.step (by omega) (by omega), hP.step (by omega) (by omega) (by omega)⟩, fun hl => (by rw [getD_set_ne (by omega)] at hl; simp only [if_neg (show ¬ 6 = 63 by omega)]; exact h6a hl), fun hl => (by rw [getD_set_ne (by omega)] at hl; simp only [if_neg (show ¬ 6 = 63 by omega), if_neg (show ¬ 76 = 63 by omega)]; exact h6b hl), fun hl => (by rw [getD_set_ne (by omega), h13] at hl; cases hl)⟩
                clear hdep hC hli ho hT hA hR1 hR2 hP h6a h6b hEnd tq
                first | (go_simp; done) | (go_simp; rfl)
              · cases (show some _ = some o_ from ho)
                have h13 : listed.getD 13 false = false := by
                  cases e_ : listed.getD 13 false with
                  | false => rfl
                  | true =>
                    have l12 := hC 13 _ rfl e_ { on := 12, ground := .data } (by simp) rfl
                    have l9 := hC 12 _ rfl l12 { on := 9, ground := .data } (by simp) rfl
                    have l8 := hC 9 _ rfl l9 { on := 8, ground := .data } (by simp) rfl
                    have l7 := hC 8 _ rfl l8 { on := 7, ground := .data } (by simp) rfl
                    have l3 := hC 7 _ rfl l7 { on := 3, ground := .data } (by simp) rfl
                    have l1 := hC 3 _ rfl l3 { on := 1, ground := .data } (by simp) rfl
                    rw [getD_false hli] at l1
                    cases l1
                obtain ⟨tq, hR1, hR2, hP⟩ := hA h13
                refine wpOp_of ho rfl ?_
                refine wp_value (v := .int .i64 (181 + 2 * (k : Int))) (w1 := Wx) ?_ ⟨_, rfl, tabE15_step hT 1 (.int .i64 (181 + 2 * (k : Int))) (by simp [tabE15]), fun _ => ⟨tq, hR1.step (by omega) (by omega), hR2.step (by omega) (by omega), hP.step (by omega) (by omega) (by omega)⟩, fun hl => (by rw [getD_set_ne (by omega)] at hl; simp only [if_neg (show ¬ 6 = 64 by omega)]; exact h6a hl), fun hl => (by rw [getD_set_ne (by omega)] at hl; simp only [if_neg (show ¬ 6 = 64 by omega), if_neg (show ¬ 76 = 64 by omega)]; exact h6b hl), fun hl => (by rw [getD_set_ne (by omega), h13] at hl; cases hl)⟩
                clear hdep hC hli ho hT hA hR1 hR2 hP h6a h6b hEnd tq
                first | (go_simp; done) | (go_simp; rfl)
              · cases (show some _ = some o_ from ho)
                have h13 : listed.getD 13 false = false := by
                  cases e_ : listed.getD 13 false with
                  | false => rfl
                  | true =>
                    have l12 := hC 13 _ rfl e_ { on := 12, ground := .data } (by simp) rfl
                    have l9 := hC 12 _ rfl l12 { on := 9, ground := .data } (by simp) rfl
                    have l8 := hC 9 _ rfl l9 { on := 8, ground := .data } (by simp) rfl
                    have l7 := hC 8 _ rfl l8 { on := 7, ground := .data } (by simp) rfl
                    have l3 := hC 7 _ rfl l7 { on := 3, ground := .data } (by simp) rfl
                    have l2 := hC 3 _ rfl l3 { on := 2, ground := .data } (by simp) rfl
                    rw [getD_false hli] at l2
                    cases l2
                obtain ⟨tq, hR1, hR2, hP⟩ := hA h13
                refine wpOp_of ho rfl ?_
                refine wp_value (v := .int .i64 (182 + 2 * (k : Int))) (w1 := Wx) ?_ ⟨_, rfl, tabE15_step hT 2 (.int .i64 (182 + 2 * (k : Int))) (by simp [tabE15]), fun _ => ⟨tq, hR1.step (by omega) (by omega), hR2.step (by omega) (by omega), hP.step (by omega) (by omega) (by omega)⟩, fun hl => (by rw [getD_set_ne (by omega)] at hl; simp only [if_neg (show ¬ 6 = 65 by omega)]; exact h6a hl), fun hl => (by rw [getD_set_ne (by omega)] at hl; simp only [if_neg (show ¬ 6 = 65 by omega), if_neg (show ¬ 76 = 65 by omega)]; exact h6b hl), fun hl => (by rw [getD_set_ne (by omega), h13] at hl; cases hl)⟩
                clear hdep hC hli ho hT hA hR1 hR2 hP h6a h6b hEnd tq
                first | (go_simp; done) | (go_simp; rfl)
              · cases (show some _ = some o_ from ho)
                have h13 : listed.getD 13 false = false := by
                  cases e_ : listed.getD 13 false with
                  | false => rfl
                  | true =>
                    have l12 := hC 13 _ rfl e_ { on := 12, ground := .data } (by simp) rfl
                    have l9 := hC 12 _ rfl l12 { on := 9, ground := .data } (by simp) rfl
                    have l8 := hC 9 _ rfl l9 { on := 8, ground := .data } (by simp) rfl
                    have l7 := hC 8 _ rfl l8 { on := 7, ground := .data } (by simp) rfl
                    have l3 := hC 7 _ rfl l7 { on := 3, ground := .data } (by simp) rfl
                    rw [getD_false hli] at l3
                    cases l3
                obtain ⟨tq, hR1, hR2, hP⟩ := hA h13
                have g64 : f 64 = .int .i64 (181 + 2 * (k : Int)) := hT (1, 64, .int .i64 (181 + 2 * (k : Int))) (by simp [tabE15]) (hdep { on := 1, ground := .data } (by simp) rfl)
                have g65 : f 65 = .int .i64 (182 + 2 * (k : Int)) := hT (2, 65, .int .i64 (182 + 2 * (k : Int))) (by simp [tabE15]) (hdep { on := 2, ground := .data } (by simp) rfl)
                refine wpOp_of ho rfl ?_
                have hPn : PtrE 0 (listed.setIfInBounds 3 true) (fun j => if j = 66 then .slice (some ⟨Wx.heap.size, 0, none⟩) 2 2 else f j) := by
                  intro l7
                  rw [getD_set_ne (by omega)] at l7
                  have l3 := hC 7 _ rfl l7 { on := 3, ground := .data } (by simp) rfl
                  rw [getD_false hli] at l3
                  cases l3
                refine wp_value (v := .slice (some ⟨Wx.heap.size, 0, none⟩) 2 2) (w1 := Wx.alloc (.cells (#[.int .i64 (181 + 2 * (k : Int)), .int .i64 (182 + 2 * (k : Int))]) 3)) ?_ ⟨_, rfl, tabE15_other hT 3 66 _ (by omega) (by omega), fun _ => ⟨tq.alloc _, fun _ => ⟨Wx.heap.size, by simp, Blk.new Wx _ _⟩, (hR2.step (by omega) (by omega)).world (fun r hb => hb.alloc _), hPn⟩, fun hl => (by rw [getD_set_ne (by omega)] at hl; simp only [if_neg (show ¬ 6 = 66 by omega)]; exact h6a hl), fun hl => (by rw [getD_set_ne (by omega)] at hl; simp only [if_neg (show ¬ 6 = 66 by omega), if_neg (show ¬ 76 = 66 by omega)]; exact h6b hl), fun hl => (by rw [getD_set_ne (by omega), h13] at hl; cases hl)⟩
                clear hdep hC hli ho hT hA hR1 hR2 hP h6a h6b hEnd tq hPn
                first | (go_simp; done) | (go_simp; rfl)
              · cases (show some _ = some o_ from ho)
                have h13 : listed.getD 13 false = false := by
                  cases e_ : listed.getD 13 false with
                  | false => rfl
                  | true =>
                    have l12 := hC 13 _ rfl e_ { on := 12, ground := .data } (by simp) rfl
                    have l9 := hC 12 _ rfl l12 { on := 9, ground := .data } (by simp) rfl
                    have l8 := hC 9 _ rfl l9 { on := 8, ground := .data } (by simp) rfl
                    have l7 := hC 8 _ rfl l8 { on := 7, ground := .data } (by simp) rfl
                    have l6 := hC 7 _ rfl l7 { on := 6, ground := .data } (by simp) rfl
                    have l5 := hC 6 _ rfl l6 { on := 5, ground := .data } (by simp) rfl
                    have l4 := hC 5 _ rfl l5 { on := 4, ground := .data } (by simp) rfl
                    rw [getD_false hli] at l4
                    cases l4
                obtain ⟨tq, hR1, hR2, hP⟩ := hA h13
                refine wpOp_of ho rfl ?_
                refine wp_value (v := .int .i64 (k : Int)) (w1 := Wx) ?_ ⟨_, rfl, tabE15_step hT 4 (.int .i64 (k : Int)) (by simp [tabE15]), fun _ => ⟨tq, hR1.step (by omega) (by omega), hR2.step (by omega) (by omega), hP.step (by omega) (by omega) (by omega)⟩, fun hl => (by rw [getD_set_ne (by omega)] at hl; simp only [if_neg (show ¬ 6 = 67 by omega)]; exact h6a hl), fun hl => (by rw [getD_set_ne (by omega)] at hl; simp only [if_neg (show ¬ 6 = 67 by omega), if_neg (show ¬ 76 = 67 by omega)]; exact h6b hl), fun hl => (by rw [getD_set_ne (by omega), h13] at hl; cases hl)⟩
                clear hdep hC hli ho hT hA hR1 hR2 hP h6a h6b hEnd tq
                first | (go_simp; done) | (go_simp; rfl)
              · cases (show some _ = some o_ from ho)
                have h13 : listed.getD 13 false = false := by
                  cases e_ : listed.getD 13 false with
                  | false => rfl
                  | true =>
                    have l12 := hC 13 _ rfl e_ { on := 12, ground := .data } (by simp) rfl
                    have l9 := hC 12 _ rfl l12 { on := 9, ground := .data } (by simp) rfl
                    have l8 := hC 9 _ rfl l9 { on := 8, ground := .data } (by simp) rfl
                    have l7 := hC 8 _ rfl l8 { on := 7, ground := .data } (by simp) rfl
                    have l6 := hC 7 _ rfl l7 { on := 6, ground := .data } (by simp) rfl
                    have l5 := hC 6 _ rfl l6 { on := 5, ground := .data } (by simp) rfl
                    rw [getD_false hli] at l5
                    cases l5
                obtain ⟨tq, hR1, hR2, hP⟩ := hA h13
                have g67 : f 67 = .int .i64 (k : Int) := hT (4, 67, .int .i64 (k : Int)) (by simp [tabE15]) (hdep { on := 4, ground := .data } (by simp) rfl)
                refine wpOp_of ho rfl ?_
                have hq1 := HQ.out.1
                have hq2 := HQ.out.2
                refine wp_value (v := .int .i64 ((k / 2 : Nat) : Int)) (w1 := Wx) ?_ ⟨_, rfl, tabE15_step hT 5 (.int .i64 ((k / 2 : Nat) : Int)) (by simp [tabE15]), fun _ => ⟨tq, hR1.step (by omega) (by omega), hR2.step (by omega) (by omega), hP.step (by omega) (by omega) (by omega)⟩, fun hl => (by rw [getD_set_ne (by omega)] at hl; simp only [if_neg (show ¬ 6 = 68 by omega)]; exact h6a hl), fun hl => (by rw [getD_set_ne (by omega)] at hl; simp only [if_neg (show ¬ 6 = 68 by omega), if_neg (show ¬ 76 = 68 by omega)]; exact h6b hl), fun hl => (by rw [getD_set_ne (by omega), h13] at hl; cases hl)⟩
                clear hdep hC hli ho hT hA hR1 hR2 hP h6a h6b hEnd tq
                first | (go_simp; done) | (go_simp; rfl) | (go_simp; rw [IntKind.wrap_i64]; omega) | (go_simp; simp [hq1, hq2]; done) | (go_simp; rw [hq1]) | (go_simp; rw [hq2])
              · cases (show some _ = some o_ from ho)
                have h13 : listed.getD 13 false = false := by
                  cases e_ : listed.getD 13 false with
                  | false => rfl
                  | true =>
                    have l12 := hC 13 _ rfl e_ { on := 12, ground := .data } (by simp) rfl
                    have l9 := hC 12 _ rfl l12 { on := 9, ground := .data } (by simp) rfl
                    have l8 := hC 9 _ rfl l9 { on := 8, ground := .data } (by simp) rfl
                    have l7 := hC 8 _ rfl l8 { on := 7, ground := .data } (by simp) rfl
                    have l6 := hC 7 _ rfl l7 { on := 6, ground := .data } (by simp) rfl
                    rw [getD_false hli] at l6
                    cases l6
                obtain ⟨tq, hR1, hR2, hP⟩ := hA h13
                have g68 : f 68 = .int .i64 ((k / 2 : Nat) : Int) := hT (5, 68, .int .i64 ((k / 2 : Nat) : Int)) (by simp [tabE15]) (hdep { on := 5, ground := .data } (by simp) rfl)
                refine wpOp_of ho rfl ?_
                have hq1 := HQ.out.1
                have hq2 := HQ.out.2
                refine wp_value (v := .int .i64 ((k / 2 % 2 : Nat) : Int)) (w1 := Wx) ?_ ⟨_, rfl, tabE15_step hT 6 (.int .i64 ((k / 2 % 2 : Nat) : Int)) (by simp [tabE15]), fun _ => ⟨tq, hR1.step (by omega) (by omega), hR2.step (by omega) (by omega), hP.step (by omega) (by omega) (by omega)⟩, fun hl => (by rw [getD_set_ne (by omega)] at hl; simp only [if_neg (show ¬ 6 = 69 by omega)]; exact h6a hl), fun hl => (by rw [getD_set_ne (by omega)] at hl; simp only [if_neg (show ¬ 6 = 69 by omega), if_neg (show ¬ 76 = 69 by omega)]; exact h6b hl), fun hl => (by rw [getD_set_ne (by omega), h13] at hl; cases hl)⟩
                clear hdep hC hli ho hT hA hR1 hR2 hP h6a h6b hEnd tq
                first | (go_simp; done) | (go_simp; rfl) | (go_simp; rw [IntKind.wrap_i64]; omega) | (go_simp; simp [hq1, hq2]; done) | (go_simp; rw [hq1]) | (go_simp; rw [hq2])
              · cases (show some _ = some o_ from ho)
                have h13 : listed.getD 13 false = false := by
                  cases e_ : listed.getD 13 false with
                  | false => rfl
                  | true =>
                    have l12 := hC 13 _ rfl e_ { on := 12, ground := .data } (by simp) rfl
                    have l9 := hC 12 _ rfl l12 { on := 9, ground := .data } (by simp) rfl
                    have l8 := hC 9 _ rfl l9 { on := 8, ground := .data } (by simp) rfl
                    have l7 := hC 8 _ rfl l8 { on := 7, ground := .data } (by simp) rfl
                    rw [getD_false hli] at l7
                    cases l7
                obtain ⟨tq, hR1, hR2, hP⟩ := hA h13
                have g69 : f 69 = .int .i64 ((k / 2 % 2 : Nat) : Int) := hT (6, 69, .int .i64 ((k / 2 % 2 : Nat) : Int)) (by simp [tabE15]) (hdep { on := 6, ground := .data } (by simp) rfl)
                refine wpOp_of ho rfl ?_
                obtain ⟨r, g66, hbr⟩ := hR1 (hdep { on := 3, ground := .data } (by simp) rfl)
                have hq0 := HPAR.out
                rw [hq0] at g69
                have hPn : PtrE 0 (listed.setIfInBounds 7 true) (fun j => if j = 70 then .pointer (some ⟨r, 0, none⟩) else f j) := by
                  intro _ r2 e
                  simp only [if_neg (show ¬ 66 = 70 by omega)] at e
                  rw [g66] at e
                  injection e with e
                  injection e with e
                  injection e with e
                  subst e
                  simp
                refine wp_value (v := .pointer (some ⟨r, 0, none⟩)) (w1 := Wx) ?_ ⟨_, rfl, tabE15_other hT 7 70 _ (by omega) (by omega), fun _ => ⟨tq, hR1.step (by omega) (by omega), hR2.step (by omega) (by omega), hPn⟩, fun hl => (by rw [getD_set_ne (by omega)] at hl; simp only [if_neg (show ¬ 6 = 70 by omega)]; exact h6a hl), fun hl => (by rw [getD_set_ne (by omega)] at hl; simp only [if_neg (show ¬ 6 = 70 by omega), if_neg (show ¬ 76 = 70 by omega)]; exact h6b hl), fun hl => (by rw [getD_set_ne (by omega), h13] at hl; cases hl)⟩
                clear hdep hC hli ho hT hA hR1 hR2 hP h6a h6b hEnd tq hbr hPn
                first | (go_simp; done) | (go_simp; rfl)
              · cases (show some _ = some o_ from ho)
                have h13 : listed.getD 13 false = false := by
                  cases e_ : listed.getD 13 false with
                  | false => rfl
                  | true =>
                    have l12 := hC 13 _ rfl e_ { on := 12, ground := .data } (by simp) rfl
                    have l9 := hC 12 _ rfl l12 { on := 9, ground := .data } (by simp) rfl
                    have l8 := hC 9 _ rfl l9 { on := 8, ground := .data } (by simp) rfl
                    rw [getD_false hli] at l8
                    cases l8
                obtain ⟨tq, hR1, hR2, hP⟩ := hA h13
                refine wpOp_of ho rfl ?_
                have l7 := hdep { on := 7, ground := .data } (by simp) rfl
                have l3 := hC 7 _ rfl l7 { on := 3, ground := .data } (by simp) rfl
                obtain ⟨r, g66, hbr⟩ := hR1 l3
                have g70 := hP l7 r g66
                have c0 := hbr.cell 0
                have hN := HNUM.out
                refine wp_value (v := .int .i64 (ceNum k)) (w1 := Wx) ?_ ⟨_, rfl, tabE15_step hT 8 (.int .i64 (ceNum k)) (by simp [tabE15]), fun _ => ⟨tq, hR1.step (by omega) (by omega), hR2.step (by omega) (by omega), hP.step (by omega) (by omega) (by omega)⟩, fun hl => (by rw [getD_set_ne (by omega)] at hl; simp only [if_neg (show ¬ 6 = 71 by omega)]; exact h6a hl), fun hl => (by rw [getD_set_ne (by omega)] at hl; simp only [if_neg (show ¬ 6 = 71 by omega), if_neg (show ¬ 76 = 71 by omega)]; exact h6b hl), fun hl => (by rw [getD_set_ne (by omega), h13] at hl; cases hl)⟩
                clear hdep hC hli ho hT hA hR1 hR2 hP h6a h6b hEnd tq hbr
                first | (go_simp; done) | (go_simp; rfl) | (go_simp; rw [hN]) | (go_simp; simp [hN])
              · cases (show some _ = some o_ from ho)
                have h13 : listed.getD 13 false = false := by
                  cases e_ : listed.getD 13 false with
                  | false => rfl
                  | true =>
                    have l12 := hC 13 _ rfl e_ { on := 12, ground := .data } (by simp) rfl
                    have l9 := hC 12 _ rfl l12 { on := 9, ground := .data } (by simp) rfl
                    rw [getD_false hli] at l9
                    cases l9
                obtain ⟨tq, hR1, hR2, hP⟩ := hA h13
                have g71 : f 71 = .int .i64 (ceNum k) := hT (8, 71, .int .i64 (ceNum k)) (by simp [tabE15]) (hdep { on := 8, ground := .data } (by simp) rfl)
                refine wpOp_of ho rfl ?_
                refine wp_value (v := .agg #[.int .u8 2, .int .i64 (ceNum k), .int .i64 0]) (w1 := Wx) ?_ ⟨_, rfl, tabE15_step hT 9 (.agg #[.int .u8 2, .int .i64 (ceNum k), .int .i64 0]) (by simp [tabE15]), fun _ => ⟨tq, hR1.step (by omega) (by omega), hR2.step (by omega) (by omega), hP.step (by omega) (by omega) (by omega)⟩, fun hl => (by rw [getD_set_ne (by omega)] at hl; simp only [if_neg (show ¬ 6 = 72 by omega)]; exact h6a hl), fun hl => (by rw [getD_set_ne (by omega)] at hl; simp only [if_neg (show ¬ 6 = 72 by omega), if_neg (show ¬ 76 = 72 by omega)]; exact h6b hl), fun hl => (by rw [getD_set_ne (by omega), h13] at hl; cases hl)⟩
                clear hdep hC hli ho hT hA hR1 hR2 hP h6a h6b hEnd tq
                first | (go_simp; done) | (go_simp; rfl)
              · cases (show some _ = some o_ from ho)
                have h13 : listed.getD 13 false = false := by
                  cases e_ : listed.getD 13 false with
                  | false => rfl
                  | true =>
                    have l12 := hC 13 _ rfl e_ { on := 12, ground := .data } (by simp) rfl
                    have l11 := hC 12 _ rfl l12 { on := 11, ground := .data } (by simp) rfl
                    have l10 := hC 11 _ rfl l11 { on := 10, ground := .data } (by simp) rfl
                    rw [getD_false hli] at l10
                    cases l10
                obtain ⟨tq, hR1, hR2, hP⟩ := hA h13
                refine wpOp_of ho rfl ?_
                refine wp_enter (f := 24) (args := #[.string ⟨#[62, 114]⟩]) (w1 := Wx) ?_ ((HXP.out Wx).mono ?_)
                · clear hdep hC hli ho hT hA hR1 hR2 hP h6a h6b hEnd tq
                  first | (go_simp; done) | (go_simp; rfl)
                · rintro _ W1 ⟨rfl, t1⟩
                  exact ⟨_, rfl, _, rfl, tabE15_step hT 10 (.int .i64 108) (by simp [tabE15]), fun _ => ⟨tq.trans t1 (by simp), (hR1.step (by omega) (by omega)).world (fun r hb => hb.touch t1 (by simp)), (hR2.step (by omega) (by omega)).world (fun r hb => hb.touch t1 (by simp)), hP.step (by omega) (by omega) (by omega)⟩, fun hl => (by rw [getD_set_ne (by omega)] at hl; simp only [if_neg (show ¬ 6 = 73 by omega)]; exact h6a hl), fun hl => (by rw [getD_set_ne (by omega)] at hl; simp only [if_neg (show ¬ 6 = 73 by omega), if_neg (show ¬ 76 = 73 by omega)]; exact h6b hl), fun hl => (by rw [getD_set_ne (by omega), h13] at hl; cases hl)⟩
              · cases (show some _ = some o_ from ho)
                have h13 : listed.getD 13 false = false := by
                  cases e_ : listed.getD 13 false with
                  | false => rfl
                  | true =>
                    have l12 := hC 13 _ rfl e_ { on := 12, ground := .data } (by simp) rfl
                    have l11 := hC 12 _ rfl l12 { on := 11, ground := .data } (by simp) rfl
                    rw [getD_false hli] at l11
                    cases l11
                obtain ⟨tq, hR1, hR2, hP⟩ := hA h13
                have g73 : f 73 = .int .i64 108 := hT (10, 73, .int .i64 108) (by simp [tabE15]) (hdep { on := 10, ground := .data } (by simp) rfl)
                refine wpOp_of ho rfl ?_
                refine wp_value (v := .agg #[.int .u8 2, .int .i64 108, .int .i64 0]) (w1 := Wx) ?_ ⟨_, rfl, tabE15_step hT 11 (.agg #[.int .u8 2, .int .i64 108, .int .i64 0]) (by simp [tabE15]), fun _ => ⟨tq, hR1.step (by omega) (by omega), hR2.step (by omega) (by omega), hP.step (by omega) (by omega) (by omega)⟩, fun hl => (by rw [getD_set_ne (by omega)] at hl; simp only [if_neg (show ¬ 6 = 74 by omega)]; exact h6a hl), fun hl => (by rw [getD_set_ne (by omega)] at hl; simp only [if_neg (show ¬ 6 = 74 by omega), if_neg (show ¬ 76 = 74 by omega)]; exact h6b hl), fun hl => (by rw [getD_set_ne (by omega), h13] at hl; cases hl)⟩
                clear hdep hC hli ho hT hA hR1 hR2 hP h6a h6b hEnd tq
                first | (go_simp; done) | (go_simp; rfl)
              · cases (show some _ = some o_ from ho)
                have h13 : listed.getD 13 false = false := by
                  cases e_ : listed.getD 13 false with
                  | false => rfl
                  | true =>
                    have l12 := hC 13 _ rfl e_ { on := 12, ground := .data } (by simp) rfl
                    rw [getD_false hli] at l12
                    cases l12
                obtain ⟨tq, hR1, hR2, hP⟩ := hA h13
                have g72 : f 72 = .agg #[.int .u8 2, .int .i64 (ceNum k), .int .i64 0] := hT (9, 72, .agg #[.int .u8 2, .int .i64 (ceNum k), .int .i64 0]) (by simp [tabE15]) (hdep { on := 9, ground := .data } (by simp) rfl)
                have g74 : f 74 = .agg #[.int .u8 2, .int .i64 108, .int .i64 0] := hT (11, 74, .agg #[.int .u8 2, .int .i64 108, .int .i64 0]) (by simp [tabE15]) (hdep { on := 11, ground := .data } (by simp) rfl)
                refine wpOp_of ho rfl ?_
                have hPn : PtrE 0 (listed.setIfInBounds 12 true) (fun j => if j = 75 then .slice (some ⟨Wx.heap.size, 0, none⟩) 2 2 else f j) := by
                  exact hP.step (by omega) (by omega) (by omega)
                refine wp_value (v := .slice (some ⟨Wx.heap.size, 0, none⟩) 2 2) (w1 := Wx.alloc (.cells ((([((2 : Int), ceNum k, (0 : Int)), (2, 108, 0)] : List (Int × Int × Int)).flatMap insCells).toArray) 56)) ?_ ⟨_, rfl, tabE15_other hT 12 75 _ (by omega) (by omega), fun _ => ⟨tq.alloc _, (hR1.step (by omega) (by omega)).world (fun r hb => hb.alloc _), fun _ => ⟨Wx.heap.size, by simp, Blk.new Wx _ _⟩, hPn⟩, fun hl => (by rw [getD_set_ne (by omega)] at hl; simp only [if_neg (show ¬ 6 = 75 by omega)]; exact h6a hl), fun hl => (by rw [getD_set_ne (by omega)] at hl; simp only [if_neg (show ¬ 6 = 75 by omega), if_neg (show ¬ 76 = 75 by omega)]; exact h6b hl), fun hl => (by rw [getD_set_ne (by omega), h13] at hl; cases hl)⟩
                clear hdep hC hli ho hT hA hR1 hR2 hP h6a h6b hEnd tq hPn
                first | (go_simp; done) | (go_simp; rfl)
              · cases (show some _ = some o_ from ho)
                have h13 : listed.getD 13 false = false := getD_false hli
                obtain ⟨tq, hR1, hR2, hP⟩ := hA h13
                have h14 : listed.getD 14 false = false := by
                  cases e_ : listed.getD 14 false with
                  | false => rfl
                  | true =>
                    have l13 := hC 14 _ rfl e_ { on := 13, ground := .data } (by simp) rfl
                    rw [h13] at l13
                    cases l13
                have g63 : f 63 = .slice ca (2 * k) cc := hT (0, 63, .slice ca (2 * k) cc) (by simp [tabE15]) (hdep { on := 0, ground := .data } (by simp) rfl)
                obtain ⟨r, g75, hbr⟩ := hR2 (hdep { on := 12, ground := .data } (by simp) rfl)
                have hcr := (HR3.out.quiet tq)
                refine wpOp_of ho rfl ?_
                refine wp_code (.tmp 63) (.tmp 75) rfl w.heap.size (.slice ca (2 * k) cc) (putL (ceUs 0 (ys.take k))) [((2 : Int), ceNum k, (0 : Int)), (2, 108, 0)] (by simp [Act.eval, g63]) hcr.code r 2 2 (by simp [Act.eval, g75]) rfl hbr (by omega) (by rw [putL_len, ceUs_len, HTK.out.2]; omega) hcr.touch.size ?_
                intro v6 w6 k6 e6 a6 f6
                rw [putL_len, ceUs_len, HTK.out.2] at f6
                exact ⟨_, rfl, tabE15_other hT 13 76 _ (by omega) (by omega), fun hl => (by rw [getD_set_same hli] at hl; cases hl), fun hl => (by rw [getD_set_ne (by omega)] at hl; simp only [if_neg (show ¬ 6 = 76 by omega)]; exact h6a hl), fun hl => (by rw [getD_set_ne (by omega), h14] at hl; cases hl), fun _ => ⟨Wx, tq, by simpa using k6, e6, by simpa using a6, by simpa using f6⟩⟩
              · cases (show some _ = some o_ from ho)
                have h13 := hdep { on := 13, ground := .data } (by simp) rfl
                refine wpOp_of ho rfl ?_
                refine wp_value (v := f 76) (w1 := Wx) ?_ ⟨_, rfl, tabE15_other hT 14 6 _ (by omega) (by omega), fun hl => (by rw [getD_set_ne (by omega), h13] at hl; cases hl), fun hl => (by rw [getD_set_same hli] at hl; cases hl), fun _ => (by simp), fun _ => (by simpa using hEnd h13)⟩
                clear hdep hC hli ho hT hA h6a h6b hEnd
                first | (go_simp; done) | (go_simp; rfl)
            case fin =>
              rintro listed a_ Wx hl ⟨f, rfl, hT, hA, h6a, h6b, hEnd⟩
              obtain ⟨Wm, tWm, kc, eg, ag, fa, fc, ff⟩ := hEnd (hl 13 (by decide))
              have e6 := h6b (hl 14 (by decide))
              rw [ff] at e6 kc ag
              rw [e6]
              have HF := Lib.hid (HR3.out.code_next tWm kc eg ag)
              clear hT hA h6a h6b hEnd hl ff e6 kc eg ag tWm
              dsimp only
              go_wp2_with fail
              go_meet
              refine ⟨fa, fc, rfl, ?_⟩
              have e9 : putL (ceUs 0 (ys.take (k + 1))) = putL (ceUs 0 (ys.take k)) ++ [((2 : Int), ceNum k, (0 : Int)), (2, 108, 0)] := by rw [HTK.out.1, ceUs_snoc, putL_app, HTK.out.2, Nat.zero_add]; rfl
              rw [e9]
              exact HF.out
            -- END 15.0
          · have HPAR := Lib.hid hp
            have HNUM := Lib.hid (show ceNum k = 182 + 2 * (k : Int) by unfold ceNum; rw [if_neg (by omega)])
            clear hp
            -- REGION 15.1
            refine frame_six (fun f => #[.slice (some ⟨gb, off, none⟩) n c, undef, u2, .bool true, .pointer (some ⟨g, 0, none⟩), .slice (some ⟨gb, off, none⟩) q c, f 6, .slice wa (2 * k) wc0, .int .i64 (k : Int), .int .i64 cw, .int .i64 (181 + 2 * (k : Int)), .int .i64 0, .int .i64 (182 + 2 * (k : Int)), .int .i64 0, undef, undef, undef, undef, undef, undef, undef, undef, .bool true, .pointer (some ⟨g, 0, none⟩), .pointer (some ⟨g, 0, none⟩), .bool false, .slice (some ⟨gb, off, none⟩) n c, .slice (some ⟨gb, off, none⟩) n c, .int .i64 (n : Int), .int .i64 (q : Int), .slice (some ⟨gb, off, none⟩) q c, .slice (some ⟨gb, off, none⟩) q c, .int .i64 (q : Int), .int .i64 (k : Int), .bool true, .int .i64 (k : Int), .pointer (some ⟨gb, off + k, none⟩), .int .i64 cw, u38, u39, u40, u41, u42, u43, u44, u45, u46, u47, u48, u49, .tuple #[.int .i64 (182 + 2 * (k : Int)), .int .i64 0], .pointer (some ⟨g, 0, none⟩), .int .i64 (181 + 2 * (k : Int)), .agg #[.int .i64 8, .int .i64 (181 + 2 * (k : Int)), .int .i64 0], .tuple #[.int .i64 (182 + 2 * (k : Int)), .int .i64 0], .int .i64 (182 + 2 * (k : Int)), .int .i64 0, .int .i64 0, .bool false, .bool false, .int .i64 0, .bool false, .bool false, f 63, f 64, f 65, f 66, f 67, f 68, f 69, f 70, f 71, f 72, f 73, f 74, f 75, f 76, u77, u78, u79, u80, u81, u82, undef, undef, undef, undef, undef, undef, undef, undef, undef, undef, undef, undef, undef, undef, undef, undef, undef, undef, undef, undef, undef, undef, undef, undef, undef, undef, undef, undef, undef, undef, undef, undef, undef, undef, undef, undef, undef, undef, undef, undef, undef, undef, undef, undef, undef, undef, undef, undef, undef, undef, undef, undef, undef, undef, undef, undef, undef, undef, undef, undef, undef, undef, undef, undef, undef, undef, undef, undef, undef, undef, undef, undef, undef, undef, undef, undef, undef, undef, undef, undef, undef, undef, undef, undef, undef, undef, undef, undef, undef, undef, undef, undef, undef, undef, undef, undef, undef, undef, undef, undef, undef, undef, undef, undef, undef]) (fun j => if j = 6 then .slice ca (2 * k) cc else if j = 63 then u63 else if j = 64 then u64 else if j = 65 then u65 else if j = 66 then u66 else if j = 67 then u67 else if j = 68 then u68 else if j = 69 then u69 else if j = 70 then u70 else if j = 71 then u71 else if j = 72 then u72 else if j = 73 then u73 else if j = 74 then u74 else if j = 75 then u75 else u76) rfl (.slice ca (2 * k) cc) rfl (fun f h6 => ?_)
            refine region_inv2 (fun listed a_ Wx => ∃ f : Nat → Value, a_ = { tmps := #[.slice (some ⟨gb, off, none⟩) n c, undef, u2, .bool true, .pointer (some ⟨g, 0, none⟩), .slice (some ⟨gb, off, none⟩) q c, f 6, .slice wa (2 * k) wc0, .int .i64 (k : Int), .int .i64 cw, .int .i64 (181 + 2 * (k : Int)), .int .i64 0, .int .i64 (182 + 2 * (k : Int)), .int .i64 0, undef, undef, undef, undef, undef, undef, undef, undef, .bool true, .pointer (some ⟨g, 0, none⟩), .pointer (some ⟨g, 0, none⟩), .bool false, .slice (some ⟨gb, off, none⟩) n c, .slice (some ⟨gb, off, none⟩) n c, .int .i64 (n : Int), .int .i64 (q : Int), .slice (some ⟨gb, off, none⟩) q c, .slice (some ⟨gb, off, none⟩) q c, .int .i64 (q : Int), .int .i64 (k : Int), .bool true, .int .i64 (k : Int), .pointer (some ⟨gb, off + k, none⟩), .int .i64 cw, u38, u39, u40, u41, u42, u43, u44, u45, u46, u47, u48, u49, .tuple #[.int .i64 (182 + 2 * (k : Int)), .int .i64 0], .pointer (some ⟨g, 0, none⟩), .int .i64 (181 + 2 * (k : Int)), .agg #[.int .i64 8, .int .i64 (181 + 2 * (k : Int)), .int .i64 0], .tuple #[.int .i64 (182 + 2 * (k : Int)), .int .i64 0], .int .i64 (182 + 2 * (k : Int)), .int .i64 0, .int .i64 0, .bool false, .bool false, .int .i64 0, .bool false, .bool false, f 63, f 64, f 65, f 66, f 67, f 68, f 69, f 70, f 71, f 72, f 73, f 74, f 75, f 76, u77, u78, u79, u80, u81, u82, undef, undef, undef, undef, undef, undef, undef, undef, undef, undef, undef, undef, undef, undef, undef, undef, undef, undef, undef, undef, undef, undef, undef, undef, undef, undef, undef, undef, undef, undef, undef, undef, undef, undef, undef, undef, undef, undef, undef, undef, undef, undef, undef, undef, undef, undef, undef, undef, undef, undef, undef, undef, undef, undef, undef, undef, undef, undef, undef, undef, undef, undef, undef, undef, undef, undef, undef, undef, undef, undef, undef, undef, undef, undef, undef, undef, undef, undef, undef, undef, undef, undef, undef, undef, undef, undef, undef, undef, undef, undef, undef, undef, undef, undef, undef, undef, undef, undef, undef, undef, undef, undef, undef, undef, undef], defers := [] } ∧ TabOk (tabE15 ca cc k) listed f ∧ (listed.getD 13 false = false → Touch [] w4 Wx ∧ RowE 3 66 3 #[.int .i64 (181 + 2 * (k : Int)), .int .i64 (182 + 2 * (k : Int))] listed f Wx ∧ RowE 12 75 56 (([((2 : Int), ceNum k, (0 : Int)), (2, 108, 0)] : List (Int × Int × Int)).flatMap insCells).toArray listed f Wx ∧ PtrE 1 listed f) ∧ (listed.getD 14 false = false → f 6 = .slice ca (2 * k) cc) ∧ (listed.getD 14 false = true → f 6 = f 76) ∧ EndE w w4 (putL (ceUs 0 (ys.take k))) [((2 : Int), ceNum k, (0 : Int)), (2, 108, 0)] (.slice ca (2 * k) cc) (2 * k + 2) listed f Wx) (by kernel_rfl) (by kernel_rfl) ?h0 ?step ?fin
            case h0 =>
              intro listed hs hl
              exact ⟨f, rfl, fun x _ h => (by rw [hl] at h; cases h), fun _ => ⟨(Touch.refl [] w4).drew, fun h => (by rw [hl] at h; cases h), fun h => (by rw [hl] at h; cases h), fun h => (by rw [hl] at h; cases h)⟩, fun _ => h6, fun h => (by rw [hl] at h; cases h), fun h => (by rw [hl] at h; cases h)⟩
            case step =>
              rintro listed a_ Wx ⟨f, rfl, hT, hA, h6a, h6b, hEnd⟩ hC i o_ ho hli hdep
              try dsimp only
              have hi : i < 15 := (Array.getElem?_eq_some_iff.1 ho).1
              rcases (by omega : i = 0 ∨ i = 1 ∨ i = 2 ∨ i = 3 ∨ i = 4 ∨ i = 5 ∨ i = 6 ∨ i = 7 ∨ i = 8 ∨ i = 9 ∨ i = 10 ∨ i = 11 ∨ i = 12 ∨ i = 13 ∨ i = 14) with rfl | rfl | rfl | rfl | rfl | rfl | rfl | rfl | rfl | rfl | rfl | rfl | rfl | rfl | rfl
              · cases (show some _ = some o_ from ho)
                have h13 : listed.getD 13 false = false := by
                  cases e_ : listed.getD 13 false with
                  | false => rfl
                  | true =>
                    have l0 := hC 13 _ rfl e_ { on := 0, ground := .data } (by simp) rfl
                    rw [getD_false hli] at l0
                    cases l0
                obtain ⟨tq, hR1, hR2, hP⟩ := hA h13
                have h14 : listed.getD 14 false = false := by
                  cases e_ : listed.getD 14 false with
                  | false => rfl
                  | true =>
                    have l13 := hC 14 _ rfl e_ { on := 13, ground := .data } (by simp) rfl
                    rw [h13] at l13
                    cases l13
                have g6 := h6a h14
                refine wpOp_of ho rfl ?_
                refine wp_value (v := .slice ca (2 * k) cc) (w1 := Wx) ?_ ⟨_, rfl, tabE15_step hT 0 (.slice ca (2 * k) cc) (by simp [tabE15]), fun _ => ⟨tq, hR1.step (by omega) (by omega), hR2.step (by omega) (by omega), hP.step (by omega) (by omega) (by omega)⟩, fun hl => (by rw [getD_set_ne (by omega)] at hl; simp only [if_neg (show ¬ 6 = 63 by omega)]; exact h6a hl), fun hl => (by rw [getD_set_ne (by omega)] at hl; simp only [if_neg (show ¬ 6 = 63 by omega), if_neg (show ¬ 76 = 63 by omega)]; exact h6b hl), fun hl => (by rw [getD_set_ne (by omega), h13] at hl; cases hl)⟩
                clear hdep hC hli ho hT hA hR1 hR2 hP h6a h6b hEnd tq
                first | (go_simp; done) | (go_simp; rfl)
              · cases (show some _ = some o_ from ho)
                have h13 : listed.getD 13 false = false := by
                  cases e_ : listed.getD 13 false with
                  | false => rfl
                  | true =>
                    have l12 := hC 13 _ rfl e_ { on := 12, ground := .data } (by simp) rfl
                    have l9 := hC 12 _ rfl l12 { on := 9, ground := .data } (by simp) rfl
                    have l8 := hC 9 _ rfl l9 { on := 8, ground := .data } (by simp) rfl
                    have l7 := hC 8 _ rfl l8 { on := 7, ground := .data } (by simp) rfl
                    have l3 := hC 7 _ rfl l7 { on := 3, ground := .data } (by simp) rfl
                    have l1 := hC 3 _ rfl l3 { on := 1, ground := .data } (by simp) rfl
                    rw [getD_false hli] at l1
                    cases l1
                obtain ⟨tq, hR1, hR2, hP⟩ := hA h13
                refine wpOp_of ho rfl ?_
                refine wp_value (v := .int .i64 (181 + 2 * (k : Int))) (w1 := Wx) ?_ ⟨_, rfl, tabE15_step hT 1 (.int .i64 (181 + 2 * (k : Int))) (by simp [tabE15]), fun _ => ⟨tq, hR1.step (by omega) (by omega), hR2.step (by omega) (by omega), hP.step (by omega) (by omega) (by omega)⟩, fun hl => (by rw [getD_set_ne (by omega)] at hl; simp only [if_neg (show ¬ 6 = 64 by omega)]; exact h6a hl), fun hl => (by rw [getD_set_ne (by omega)] at hl; simp only [if_neg (show ¬ 6 = 64 by omega), if_neg (show ¬ 76 = 64 by omega)]; exact h6b hl), fun hl => (by rw [getD_set_ne (by omega), h13] at hl; cases hl)⟩
                clear hdep hC hli ho hT hA hR1 hR2 hP h6a h6b hEnd tq
                first | (go_simp; done) | (go_simp; rfl)
              · cases (show some _ = some o_ from ho)
                have h13 : listed.getD 13 false = false := by
                  cases e_ : listed.getD 13 false with
                  | false => rfl
                  | true =>
                    have l12 := hC 13 _ rfl e_ { on := 12, ground := .data } (by simp) rfl
                    have l9 := hC 12 _ rfl l12 { on := 9, ground := .data } (by simp) rfl
                    have l8 := hC 9 _ rfl l9 { on := 8, ground := .data } (by simp) rfl
                    have l7 := hC 8 _ rfl l8 { on := 7, ground := .data } (by simp) rfl
                    have l3 := hC 7 _ rfl l7 { on := 3, ground := .data } (by simp) rfl
                    have l2 := hC 3 _ rfl l3 { on := 2, ground := .data } (by simp) rfl
                    rw [getD_false hli] at l2
                    cases l2
                obtain ⟨tq, hR1, hR2, hP⟩ := hA h13
                refine wpOp_of ho rfl ?_
                refine wp_value (v := .int .i64 (182 + 2 * (k : Int))) (w1 := Wx) ?_ ⟨_, rfl, tabE15_step hT 2 (.int .i64 (182 + 2 * (k : Int))) (by simp [tabE15]), fun _ => ⟨tq, hR1.step (by omega) (by omega), hR2.step (by omega) (by omega), hP.step (by omega) (by omega) (by omega)⟩, fun hl => (by rw [getD_set_ne (by omega)] at hl; simp only [if_neg (show ¬ 6 = 65 by omega)]; exact h6a hl), fun hl => (by rw [getD_set_ne (by omega)] at hl; simp only [if_neg (show ¬ 6 = 65 by omega), if_neg (show ¬ 76 = 65 by omega)]; exact h6b hl), fun hl => (by rw [getD_set_ne (by omega), h13] at hl; cases hl)⟩
                clear hdep hC hli ho hT hA hR1 hR2 hP h6a h6b hEnd tq
                first | (go_simp; done) | (go_simp; rfl)
              · cases (show some _ = some o_ from ho)
                have h13 : listed.getD 13 false = false := by
                  cases e_ : listed.getD 13 false with
                  | false => rfl
                  | true =>
                    have l12 := hC 13 _ rfl e_ { on := 12, ground := .data } (by simp) rfl
                    have l9 := hC 12 _ rfl l12 { on := 9, ground := .data } (by simp) rfl
                    have l8 := hC 9 _ rfl l9 { on := 8, ground := .data } (by simp) rfl
                    have l7 := hC 8 _ rfl l8 { on := 7, ground := .data } (by simp) rfl
                    have l3 := hC 7 _ rfl l7 { on := 3, ground := .data } (by simp) rfl
                    rw [getD_false hli] at l3
                    cases l3
                obtain ⟨tq, hR1, hR2, hP⟩ := hA h13
                have g64 : f 64 = .int .i64 (181 + 2 * (k : Int)) := hT (1, 64, .int .i64 (181 + 2 * (k : Int))) (by simp [tabE15]) (hdep { on := 1, ground := .data } (by simp) rfl)
                have g65 : f 65 = .int .i64 (182 + 2 * (k : Int)) := hT (2, 65, .int .i64 (182 + 2 * (k : Int))) (by simp [tabE15]) (hdep { on := 2, ground := .data } (by simp) rfl)
                refine wpOp_of ho rfl ?_
                have hPn : PtrE 1 (listed.setIfInBounds 3 true) (fun j => if j = 66 then .slice (some ⟨Wx.heap.size, 0, none⟩) 2 2 else f j) := by
                  intro l7
                  rw [getD_set_ne (by omega)] at l7
                  have l3 := hC 7 _ rfl l7 { on := 3, ground := .data } (by simp) rfl
                  rw [getD_false hli] at l3
                  cases l3
                refine wp_value (v := .slice (some ⟨Wx.heap.size, 0, none⟩) 2 2) (w1 := Wx.alloc (.cells (#[.int .i64 (181 + 2 * (k : Int)), .int .i64 (182 + 2 * (k : Int))]) 3)) ?_ ⟨_, rfl, tabE15_other hT 3 66 _ (by omega) (by omega), fun _ => ⟨tq.alloc _, fun _ => ⟨Wx.heap.size, by simp, Blk.new Wx _ _⟩, (hR2.step (by omega) (by omega)).world (fun r hb => hb.alloc _), hPn⟩, fun hl => (by rw [getD_set_ne (by omega)] at hl; simp only [if_neg (show ¬ 6 = 66 by omega)]; exact h6a hl), fun hl => (by rw [getD_set_ne (by omega)] at hl; simp only [if_neg (show ¬ 6 = 66 by omega), if_neg (show ¬ 76 = 66 by omega)]; exact h6b hl), fun hl => (by rw [getD_set_ne (by omega), h13] at hl; cases hl)⟩
                clear hdep hC hli ho hT hA hR1 hR2 hP h6a h6b hEnd tq hPn
                first | (go_simp; done) | (go_simp; rfl)
              · cases (show some _ = some o_ from ho)
                have h13 : listed.getD 13 false = false := by
                  cases e_ : listed.getD 13 false with
                  | false => rfl
                  | true =>
                    have l12 := hC 13 _ rfl e_ { on := 12, ground := .data } (by simp) rfl
                    have l9 := hC 12 _ rfl l12 { on := 9, ground := .data } (by simp) rfl
                    have l8 := hC 9 _ rfl l9 { on := 8, ground := .data } (by simp) rfl
                    have l7 := hC 8 _ rfl l8 { on := 7, ground := .data } (by simp) rfl
                    have l6 := hC 7 _ rfl l7 { on := 6, ground := .data } (by simp) rfl
                    have l5 := hC 6 _ rfl l6 { on := 5, ground := .data } (by simp) rfl
                    have l4 := hC 5 _ rfl l5 { on := 4, ground := .data } (by simp) rfl
                    rw [getD_false hli] at l4
                    cases l4
                obtain ⟨tq, hR1, hR2, hP⟩ := hA h13
                refine wpOp_of ho rfl ?_
                refine wp_value (v := .int .i64 (k : Int)) (w1 := Wx) ?_ ⟨_, rfl, tabE15_step hT 4 (.int .i64 (k : Int)) (by simp [tabE15]), fun _ => ⟨tq, hR1.step (by omega) (by omega), hR2.step (by omega) (by omega), hP.step (by omega) (by omega) (by omega)⟩, fun hl => (by rw [getD_set_ne (by omega)] at hl; simp only [if_neg (show ¬ 6 = 67 by omega)]; exact h6a hl), fun hl => (by rw [getD_set_ne (by omega)] at hl; simp only [if_neg (show ¬ 6 = 67 by omega), if_neg (show ¬ 76 = 67 by omega)]; exact h6b hl), fun hl => (by rw [getD_set_ne (by omega), h13] at hl; cases hl)⟩
                clear hdep hC hli ho hT hA hR1 hR2 hP h6a h6b hEnd tq
                first | (go_simp; done) | (go_simp; rfl)
              · cases (show some _ = some o_ from ho)
                have h13 : listed.getD 13 false = false := by
                  cases e_ : listed.getD 13 false with
                  | false => rfl
                  | true =>
                    have l12 := hC 13 _ rfl e_ { on := 12, ground := .data } (by simp) rfl
                    have l9 := hC 12 _ rfl l12 { on := 9, ground := .data } (by simp) rfl
                    have l8 := hC 9 _ rfl l9 { on := 8, ground := .data } (by simp) rfl
                    have l7 := hC 8 _ rfl l8 { on := 7, ground := .data } (by simp) rfl
                    have l6 := hC 7 _ rfl l7 { on := 6, ground := .data } (by simp) rfl
                    have l5 := hC 6 _ rfl l6 { on := 5, ground := .data } (by simp) rfl
                    rw [getD_false hli] at l5
                    cases l5
                obtain ⟨tq, hR1, hR2, hP⟩ := hA h13
                have g67 : f 67 = .int .i64 (k : Int) := hT (4, 67, .int .i64 (k : Int)) (by simp [tabE15]) (hdep { on := 4, ground := .data } (by simp) rfl)
                refine wpOp_of ho rfl ?_
                have hq1 := HQ.out.1
                have hq2 := HQ.out.2
                refine wp_value (v := .int .i64 ((k / 2 : Nat) : Int)) (w1 := Wx) ?_ ⟨_, rfl, tabE15_step hT 5 (.int .i64 ((k / 2 : Nat) : Int)) (by simp [tabE15]), fun _ => ⟨tq, hR1.step (by omega) (by omega), hR2.step (by omega) (by omega), hP.step (by omega) (by omega) (by omega)⟩, fun hl => (by rw [getD_set_ne (by omega)] at hl; simp only [if_neg (show ¬ 6 = 68 by omega)]; exact h6a hl), fun hl => (by rw [getD_set_ne (by omega)] at hl; simp only [if_neg (show ¬ 6 = 68 by omega), if_neg (show ¬ 76 = 68 by omega)]; exact h6b hl), fun hl => (by rw [getD_set_ne (by omega), h13] at hl; cases hl)⟩
                clear hdep hC hli ho hT hA hR1 hR2 hP h6a h6b hEnd tq
                first | (go_simp; done) | (go_simp; rfl) | (go_simp; rw [IntKind.wrap_i64]; omega) | (go_simp; simp [hq1, hq2]; done) | (go_simp; rw [hq1]) | (go_simp; rw [hq2])
              · cases (show some _ = some o_ from ho)
                have h13 : listed.getD 13 false = false := by
                  cases e_ : listed.getD 13 false with
                  | false => rfl
                  | true =>
                    have l12 := hC 13 _ rfl e_ { on := 12, ground := .data } (by simp) rfl
                    have l9 := hC 12 _ rfl l12 { on := 9, ground := .data } (by simp) rfl
                    have l8 := hC 9 _ rfl l9 { on := 8, ground := .data } (by simp) rfl
                    have l7 := hC 8 _ rfl l8 { on := 7, ground := .data } (by simp) rfl
                    have l6 := hC 7 _ rfl l7 { on := 6, ground := .data } (by simp) rfl
                    rw [getD_false hli] at l6
                    cases l6
                obtain ⟨tq, hR1, hR2, hP⟩ := hA h13
                have g68 : f 68 = .int .i64 ((k / 2 : Nat) : Int) := hT (5, 68, .int .i64 ((k / 2 : Nat) : Int)) (by simp [tabE15]) (hdep { on := 5, ground := .data } (by simp) rfl)
                refine wpOp_of ho rfl ?_
                have hq1 := HQ.out.1
                have hq2 := HQ.out.2
                refine wp_value (v := .int .i64 ((k / 2 % 2 : Nat) : Int)) (w1 := Wx) ?_ ⟨_, rfl, tabE15_step hT 6 (.int .i64 ((k / 2 % 2 : Nat) : Int)) (by simp [tabE15]), fun _ => ⟨tq, hR1.step (by omega) (by omega), hR2.step (by omega) (by omega), hP.step (by omega) (by omega) (by omega)⟩, fun hl => (by rw [getD_set_ne (by omega)] at hl; simp only [if_neg (show ¬ 6 = 69 by omega)]; exact h6a hl), fun hl => (by rw [getD_set_ne (by omega)] at hl; simp only [if_neg (show ¬ 6 = 69 by omega), if_neg (show ¬ 76 = 69 by omega)]; exact h6b hl), fun hl => (by rw [getD_set_ne (by omega), h13] at hl; cases hl)⟩
                clear hdep hC hli ho hT hA hR1 hR2 hP h6a h6b hEnd tq
                first | (go_simp; done) | (go_simp; rfl) | (go_simp; rw [IntKind.wrap_i64]; omega) | (go_simp; simp [hq1, hq2]; done) | (go_simp; rw [hq1]) | (go_simp; rw [hq2])
              · cases (show some _ = some o_ from ho)
                have h13 : listed.getD 13 false = false := by
                  cases e_ : listed.getD 13 false with
                  | false => rfl
                  | true =>
                    have l12 := hC 13 _ rfl e_ { on := 12, ground := .data } (by simp) rfl
                    have l9 := hC 12 _ rfl l12 { on := 9, ground := .data } (by simp) rfl
                    have l8 := hC 9 _ rfl l9 { on := 8, ground := .data } (by simp) rfl
                    have l7 := hC 8 _ rfl l8 { on := 7, ground := .data } (by simp) rfl
                    rw [getD_false hli] at l7
                    cases l7
                obtain ⟨tq, hR1, hR2, hP⟩ := hA h13
                have g69 : f 69 = .int .i64 ((k / 2 % 2 : Nat) : Int) := hT (6, 69, .int .i64 ((k / 2 % 2 : Nat) : Int)) (by simp [tabE15]) (hdep { on := 6, ground := .data } (by simp) rfl)
                refine wpOp_of ho rfl ?_
                obtain ⟨r, g66, hbr⟩ := hR1 (hdep { on := 3, ground := .data } (by simp) rfl)
                have hq0 := HPAR.out
                rw [hq0] at g69
                have hPn : PtrE 1 (listed.setIfInBounds 7 true) (fun j => if j = 70 then .pointer (some ⟨r, 1, none⟩) else f j) := by
                  intro _ r2 e
                  simp only [if_neg (show ¬ 66 = 70 by omega)] at e
                  rw [g66] at e
                  injection e with e
                  injection e with e
                  injection e with e
                  subst e
                  simp
                refine wp_value (v := .pointer (some ⟨r, 1, none⟩)) (w1 := Wx) ?_ ⟨_, rfl, tabE15_other hT 7 70 _ (by omega) (by omega), fun _ => ⟨tq, hR1.step (by omega) (by omega), hR2.step (by omega) (by omega), hPn⟩, fun hl => (by rw [getD_set_ne (by omega)] at hl; simp only [if_neg (show ¬ 6 = 70 by omega)]; exact h6a hl), fun hl => (by rw [getD_set_ne (by omega)] at hl; simp only [if_neg (show ¬ 6 = 70 by omega), if_neg (show ¬ 76 = 70 by omega)]; exact h6b hl), fun hl => (by rw [getD_set_ne (by omega), h13] at hl; cases hl)⟩
                clear hdep hC hli ho hT hA hR1 hR2 hP h6a h6b hEnd tq hbr hPn
                first | (go_simp; done) | (go_simp; rfl)
              · cases (show some _ = some o_ from ho)
                have h13 : listed.getD 13 false = false := by
                  cases e_ : listed.getD 13 false with
                  | false => rfl
                  | true =>
                    have l12 := hC 13 _ rfl e_ { on := 12, ground := .data } (by simp) rfl
                    have l9 := hC 12 _ rfl l12 { on := 9, ground := .data } (by simp) rfl
                    have l8 := hC 9 _ rfl l9 { on := 8, ground := .data } (by simp) rfl
                    rw [getD_false hli] at l8
                    cases l8
                obtain ⟨tq, hR1, hR2, hP⟩ := hA h13
                refine wpOp_of ho rfl ?_
                have l7 := hdep { on := 7, ground := .data } (by simp) rfl
                have l3 := hC 7 _ rfl l7 { on := 3, ground := .data } (by simp) rfl
                obtain ⟨r, g66, hbr⟩ := hR1 l3
                have g70 := hP l7 r g66
                have c0 := hbr.cell 1
                have hN := HNUM.out
                refine wp_value (v := .int .i64 (ceNum k)) (w1 := Wx) ?_ ⟨_, rfl, tabE15_step hT 8 (.int .i64 (ceNum k)) (by simp [tabE15]), fun _ => ⟨tq, hR1.step (by omega) (by omega), hR2.step (by omega) (by omega), hP.step (by omega) (by omega) (by omega)⟩, fun hl => (by rw [getD_set_ne (by omega)] at hl; simp only [if_neg (show ¬ 6 = 71 by omega)]; exact h6a hl), fun hl => (by rw [getD_set_ne (by omega)] at hl; simp only [if_neg (show ¬ 6 = 71 by omega), if_neg (show ¬ 76 = 71 by omega)]; exact h6b hl), fun hl => (by rw [getD_set_ne (by omega), h13] at hl; cases hl)⟩
                clear hdep hC hli ho hT hA hR1 hR2 hP h6a h6b hEnd tq hbr
                first | (go_simp; done) | (go_simp; rfl) | (go_simp; rw [hN]) | (go_simp; simp [hN])
              · cases (show some _ = some o_ from ho)
                have h13 : listed.getD 13 false = false := by
                  cases e_ : listed.getD 13 false with
                  | false => rfl
                  | true =>
                    have l12 := hC 13 _ rfl e_ { on := 12, ground := .data } (by simp) rfl
                    have l9 := hC 12 _ rfl l12 { on := 9, ground := .data } (by simp) rfl
                    rw [getD_false hli] at l9
                    cases l9
                obtain ⟨tq, hR1, hR2, hP⟩ := hA h13
                have g71 : f 71 = .int .i64 (ceNum k) := hT (8, 71, .int .i64 (ceNum k)) (by simp [tabE15]) (hdep { on := 8, ground := .data } (by simp) rfl)
                refine wpOp_of ho rfl ?_
                refine wp_value (v := .agg #[.int .u8 2, .int .i64 (ceNum k), .int .i64 0]) (w1 := Wx) ?_ ⟨_, rfl, tabE15_step hT 9 (.agg #[.int .u8 2, .int .i64 (ceNum k), .int .i64 0]) (by simp [tabE15]), fun _ => ⟨tq, hR1.step (by omega) (by omega), hR2.step (by omega) (by omega), hP.step (by omega) (by omega) (by omega)⟩, fun hl => (by rw [getD_set_ne (by omega)] at hl; simp only [if_neg (show ¬ 6 = 72 by omega)]; exact h6a hl), fun hl => (by rw [getD_set_ne (by omega)] at hl; simp only [if_neg (show ¬ 6 = 72 by omega), if_neg (show ¬ 76 = 72 by omega)]; exact h6b hl), fun hl => (by rw [getD_set_ne (by omega), h13] at hl; cases hl)⟩
                clear hdep hC hli ho hT hA hR1 hR2 hP h6a h6b hEnd tq
                first | (go_simp; done) | (go_simp; rfl)
              · cases (show some _ = some o_ from ho)
                have h13 : listed.getD 13 false = false := by
                  cases e_ : listed.getD 13 false with
                  | false => rfl
                  | true =>
                    have l12 := hC 13 _ rfl e_ { on := 12, ground := .data } (by simp) rfl
                    have l11 := hC 12 _ rfl l12 { on := 11, ground := .data } (by simp) rfl
                    have l10 := hC 11 _ rfl l11 { on := 10, ground := .data } (by simp) rfl
                    rw [getD_false hli] at l10
                    cases l10
                obtain ⟨tq, hR1, hR2, hP⟩ := hA h13
                refine wpOp_of ho rfl ?_
                refine wp_enter (f := 24) (args := #[.string ⟨#[62, 114]⟩]) (w1 := Wx) ?_ ((HXP.out Wx).mono ?_)
                · clear hdep hC hli ho hT hA hR1 hR2 hP h6a h6b hEnd tq
                  first | (go_simp; done) | (go_simp; rfl)
                · rintro _ W1 ⟨rfl, t1⟩
                  exact ⟨_, rfl, _, rfl, tabE15_step hT 10 (.int .i64 108) (by simp [tabE15]), fun _ => ⟨tq.trans t1 (by simp), (hR1.step (by omega) (by omega)).world (fun r hb => hb.touch t1 (by simp)), (hR2.step (by omega) (by omega)).world (fun r hb => hb.touch t1 (by simp)), hP.step (by omega) (by omega) (by omega)⟩, fun hl => (by rw [getD_set_ne (by omega)] at hl; simp only [if_neg (show ¬ 6 = 73 by omega)]; exact h6a hl), fun hl => (by rw [getD_set_ne (by omega)] at hl; simp only [if_neg (show ¬ 6 = 73 by omega), if_neg (show ¬ 76 = 73 by omega)]; exact h6b hl), fun hl => (by rw [getD_set_ne (by omega), h13] at hl; cases hl)⟩
              · cases (show some _ = some o_ from ho)
                have h13 : listed.getD 13 false = false := by
                  cases e_ : listed.getD 13 false with
                  | false => rfl
                  | true =>
                    have l12 := hC 13 _ rfl e_ { on := 12, ground := .data } (by simp) rfl
                    have l11 := hC 12 _ rfl l12 { on := 11, ground := .data } (by simp) rfl
                    rw [getD_false hli] at l11
                    cases l11
                obtain ⟨tq, hR1, hR2, hP⟩ := hA h13
                have g73 : f 73 = .int .i64 108 := hT (10, 73, .int .i64 108) (by simp [tabE15]) (hdep { on := 10, ground := .data } (by simp) rfl)
                refine wpOp_of ho rfl ?_
                refine wp_value (v := .agg #[.int .u8 2, .int .i64 108, .int .i64 0]) (w1 := Wx) ?_ ⟨_, rfl, tabE15_step hT 11 (.agg #[.int .u8 2, .int .i64 108, .int .i64 0]) (by simp [tabE15]), fun _ => ⟨tq, hR1.step (by omega) (by omega), hR2.step (by omega) (by omega), hP.step (by omega) (by omega) (by omega)⟩, fun hl => (by rw [getD_set_ne (by omega)] at hl; simp only [if_neg (show ¬ 6 = 74 by omega)]; exact h6a hl), fun hl => (by rw [getD_set_ne (by omega)] at hl; simp only [if_neg (show ¬ 6 = 74 by omega), if_neg (show ¬ 76 = 74 by omega)]; exact h6b hl), fun hl => (by rw [getD_set_ne (by omega), h13] at hl; cases hl)⟩
                clear hdep hC hli ho hT hA hR1 hR2 hP h6a h6b hEnd tq
                first | (go_simp; done) | (go_simp; rfl)
              · cases (show some _ = some o_ from ho)
                have h13 : listed.getD 13 false = false := by
                  cases e_ : listed.getD 13 false with
                  | false => rfl
                  | true =>
                    have l12 := hC 13 _ rfl e_ { on := 12, ground := .data } (by simp) rfl
                    rw [getD_false hli] at l12
                    cases l12
                obtain ⟨tq, hR1, hR2, hP⟩ := hA h13
                have g72 : f 72 = .agg #[.int .u8 2, .int .i64 (ceNum k), .int .i64 0] := hT (9, 72, .agg #[.int .u8 2, .int .i64 (ceNum k), .int .i64 0]) (by simp [tabE15]) (hdep { on := 9, ground := .data } (by simp) rfl)
                have g74 : f 74 = .agg #[.int .u8 2, .int .i64 108, .int .i64 0] := hT (11, 74, .agg #[.int .u8 2, .int .i64 108, .int .i64 0]) (by simp [tabE15]) (hdep { on := 11, ground := .data } (by simp) rfl)
                refine wpOp_of ho rfl ?_
                have hPn : PtrE 1 (listed.setIfInBounds 12 true) (fun j => if j = 75 then .slice (some ⟨Wx.heap.size, 0, none⟩) 2 2 else f j) := by
                  exact hP.step (by omega) (by omega) (by omega)
                refine wp_value (v := .slice (some ⟨Wx.heap.size, 0, none⟩) 2 2) (w1 := Wx.alloc (.cells ((([((2 : Int), ceNum k, (0 : Int)), (2, 108, 0)] : List (Int × Int × Int)).flatMap insCells).toArray) 56)) ?_ ⟨_, rfl, tabE15_other hT 12 75 _ (by omega) (by omega), fun _ => ⟨tq.alloc _, (hR1.step (by omega) (by omega)).world (fun r hb => hb.alloc _), fun _ => ⟨Wx.heap.size, by simp, Blk.new Wx _ _⟩, hPn⟩, fun hl => (by rw [getD_set_ne (by omega)] at hl; simp only [if_neg (show ¬ 6 = 75 by omega)]; exact h6a hl), fun hl => (by rw [getD_set_ne (by omega)] at hl; simp only [if_neg (show ¬ 6 = 75 by omega), if_neg (show ¬ 76 = 75 by omega)]; exact h6b hl), fun hl => (by rw [getD_set_ne (by omega), h13] at hl; cases hl)⟩
                clear hdep hC hli ho hT hA hR1 hR2 hP h6a h6b hEnd tq hPn
                first | (go_simp; done) | (go_simp; rfl)
              · cases (show some _ = some o_ from ho)
                have h13 : listed.getD 13 false = false := getD_false hli
                obtain ⟨tq, hR1, hR2, hP⟩ := hA h13
                have h14 : listed.getD 14 false = false := by
                  cases e_ : listed.getD 14 false with
                  | false => rfl
                  | true =>
                    have l13 := hC 14 _ rfl e_ { on := 13, ground := .data } (by simp) rfl
                    rw [h13] at l13
                    cases l13
                have g63 : f 63 = .slice ca (2 * k) cc := hT (0, 63, .slice ca (2 * k) cc) (by simp [tabE15]) (hdep { on := 0, ground := .data } (by simp) rfl)
                obtain ⟨r, g75, hbr⟩ := hR2 (hdep { on := 12, ground := .data } (by simp) rfl)
                have hcr := (HR3.out.quiet tq)
                refine wpOp_of ho rfl ?_
                refine wp_code (.tmp 63) (.tmp 75) rfl w.heap.size (.slice ca (2 * k) cc) (putL (ceUs 0 (ys.take k))) [((2 : Int), ceNum k, (0 : Int)), (2, 108, 0)] (by simp [Act.eval, g63]) hcr.code r 2 2 (by simp [Act.eval, g75]) rfl hbr (by omega) (by rw [putL_len, ceUs_len, HTK.out.2]; omega) hcr.touch.size ?_
                intro v6 w6 k6 e6 a6 f6
                rw [putL_len, ceUs_len, HTK.out.2] at f6
                exact ⟨_, rfl, tabE15_other hT 13 76 _ (by omega) (by omega), fun hl => (by rw [getD_set_same hli] at hl; cases hl), fun hl => (by rw [getD_set_ne (by omega)] at hl; simp only [if_neg (show ¬ 6 = 76 by omega)]; exact h6a hl), fun hl => (by rw [getD_set_ne (by omega), h14] at hl; cases hl), fun _ => ⟨Wx, tq, by simpa using k6, e6, by simpa using a6, by simpa using f6⟩⟩
              · cases (show some _ = some o_ from ho)
                have h13 := hdep { on := 13, ground := .data } (by simp) rfl
                refine wpOp_of ho rfl ?_
                refine wp_value (v := f 76) (w1 := Wx) ?_ ⟨_, rfl, tabE15_other hT 14 6 _ (by omega) (by omega), fun hl => (by rw [getD_set_ne (by omega), h13] at hl; cases hl), fun hl => (by rw [getD_set_same hli] at hl; cases hl), fun _ => (by simp), fun _ => (by simpa using hEnd h13)⟩
                clear hdep hC hli ho hT hA h6a h6b hEnd
                first | (go_simp; done) | (go_simp; rfl)
            case fin =>
              rintro listed a_ Wx hl ⟨f, rfl, hT, hA, h6a, h6b, hEnd⟩
              obtain ⟨Wm, tWm, kc, eg, ag, fa, fc, ff⟩ := hEnd (hl 13 (by decide))
              have e6 := h6b (hl 14 (by decide))
              rw [ff] at e6 kc ag
              rw [e6]
              have HF := Lib.hid (HR3.out.code_next tWm kc eg ag)
              clear hT hA h6a h6b hEnd hl ff e6 kc eg ag tWm
              dsimp only
              go_wp2_with fail
              go_meet
              refine ⟨fa, fc, rfl, ?_⟩
              have e9 : putL (ceUs 0 (ys.take (k + 1))) = putL (ceUs 0 (ys.take k)) ++ [((2 : Int), ceNum k, (0 : Int)), (2, 108, 0)] := by rw [HTK.out.1, ceUs_snoc, putL_app, HTK.out.2, Nat.zero_add]; rfl
              rw [e9]
              exact HF.out
            -- END 15.1
        case rest =>
          obtain ⟨fa, fc, rfl, hR4⟩ := hcut
          have hR4' := hR4
          obtain ⟨_, _, hwant, _, htouch⟩ := hR4'
          have bC := row_fresh (w := wc) (B := w.heap.size) htouch.size [cw, cw] (Nat.le_of_ble_eq_true rfl)
          have tC := (Touch.refl [] wc).alloc (.cells #[.int .i64 cw, .int .i64 cw] 33)
          have HNXT : Hid (∀ v' w2, Touch [] wc w2 → WantRow w.heap.size w2 v' (ceWant (ys.take (k + 1))) → (∀ x ∈ rowOf v', wc.heap.size ≤ x) → CeG w g p { M.new S ins0' with words := wordsT ++ ceWs 0 (ys.take (k + 1)) } (putL (ceUs 0 (ys.take (k + 1)))) (ceWant (ys.take (k + 1))) (.slice fa (2 * k + 2) fc) v' w2) := Lib.hid fun v' w2 t6 k6 r6 => hR4.want_new t6 k6 r6
          have HWT := Lib.hid (show ceWant (ys.take (k + 1)) = [cw, cw] ++ ceWant (ys.take k) by rw [HTK.out.1, ceWant_snoc])
          have hwl : (ceWant (ys.take k)).length = 2 * k := by rw [ceWant_len, HTK.out.2]
          have bC : WantRow w.heap.size (wc.alloc (.cells #[.int .i64 cw, .int .i64 cw] 33)) (.slice (some ⟨wc.heap.size, 0, none⟩) 2 2) [cw, cw] := bC
          obtain ⟨i0, hi, hz0, hz1, hz2⟩ := info_cell'
          rcases Nat.eq_zero_or_pos k with h0 | h0
          · subst h0
            have hnil : Value.slice wa (2 * 0) wc0 = .slice none 0 0 := HWN.out rfl
            injection hnil with e1 e2 e3
            subst e1 e3
            have HBC := Lib.hid (And.intro bC tC)
            have HW0 := Lib.hid (show ceWant (ys.take (0 + 1)) = [cw, cw] by rw [HWT.out]; rfl)
            clear bC tC hR4 hwant htouch hwl e2
            go_wp2_with (refine wpList_append_own_none rfl (.tmp 79) (.tmp 80) 25 rfl w.heap.size 33 i0 1 Tryz.underlying25 hi (.slice (some ⟨wc.heap.size, 0, none⟩) 2 2) 2 (cells [cw, cw]) (by simp [Act.eval]) HBC.out.1 (by simp [Act.eval]) ?_)
            go_roundw
            case rel => exact ⟨0 + 1, by omega, vint (by omega), HNXT.out _ _ HBC.out.2 (by rw [HW0.out]; exact HBC.out.1) (by simp [rowOf]), fun h => absurd h (by omega)⟩
            case measure => simp only [intOf]; omega
          · obtain ⟨gw, rfl⟩ : ∃ gw, wa = some ⟨gw, 0, none⟩ := by
              rcases Go.Joins.ownsRow_forms hwant with ⟨e, h9⟩ | ⟨g9, cap9, e⟩
              · rw [hwl] at h9; omega
              · injection e with e _ _; exact ⟨g9, e⟩
            have hrow := row_touch hwant tC (by simp)
            rw [show WantRow = fun B w v L => World.ownsRow w B 33 1 v L.length (cells L) from rfl] at hwant
            have hcl : ∀ j u, (cells (ceWant (ys.take k)))[j]? = some u → (wc.alloc (.cells #[.int .i64 cw, .int .i64 cw] 33)).cell? ⟨gw, j, none⟩ = some u := fun j u hj => by
              have h9 := World.ownsRow.cells hrow (g := gw) rfl j u hj
              rw [add_off, Nat.zero_add] at h9
              exact h9
            have HBC := Lib.hid (And.intro bC (And.intro tC (And.intro hcl hwl)))
            have HSZ := Lib.hid (Nat.le_trans htouch.size tC.size)
            clear bC tC hR4 hwant htouch hwl hrow hcl
            go_wp2_with (refine wpList_wantR rfl (.tmp 79) (.tmp 80) rfl w.heap.size (.slice (some ⟨wc.heap.size, 0, none⟩) 2 2) [cw, cw] (ceWant (ys.take k)) (by simp [Act.eval]) HBC.out.1 gw (2 * k) wc0 (by simp [Act.eval]) HBC.out.2.2.2.symm HBC.out.2.2.1 (by omega) (by show 2 + 2 * k ≤ 1000000; omega) HSZ.out ?_; intro v7 w7 k7 g7 a7 f7)
            have t7 : Touch [] wc w7 := HBC.out.2.1.grown g7 (fun j hj => .inr (by simp [Value.ownBlock] at hj; omega))
            have r7 : ∀ x ∈ rowOf v7, wc.heap.size ≤ x := fun x hx => by
              have hx := rowOf_mem.1 hx
              rcases a7 with e | e
              · rw [e] at hx; simp [Value.ownBlock] at hx; omega
              · rw [e, World.size_alloc] at hx; injection hx with hx; omega
            have H7 := Lib.hid (HNXT.out v7 w7 t7 (by rw [HWT.out]; exact k7) r7)
            clear k7 g7 a7 f7 t7 r7
            go_roundw
            case rel => exact ⟨k + 1, by omega, vint (by omega), H7.out, fun h => absurd h (by omega)⟩
            case measure => simp only [intOf]; omega
    · obtain rfl : k = q := by omega
      have hyl : ys.length = k := HL.out
      have htk : ys.take k = ys := List.take_of_length_le (by omega)
      rw [htk] at hR
      have HY := Lib.hid hyl
      obtain ⟨wa, wc0, hwv⟩ := hR.want.form
      obtain ⟨ca, cc, hcv⟩ := hR.code.form
      subst hwv hcv
      obtain ⟨nw, hnw⟩ : ∃ nw, (ceWant ys).length = nw := ⟨_, rfl⟩
      rw [hnw] at hR
      rw [hnw]
      have H2 := Lib.hid (show CeG w g p { M.new S ins0' with words := wordsT ++ ceWs 0 ys } (putL (ceUs 0 ys) ++ getL 0) (ceWant ys) (.slice ca (putL (ceUs 0 ys)).length cc) (.slice wa nw wc0) wr by
        rw [show getL 0 = [] from rfl, List.append_nil]
        exact hR)
      have HNW := Lib.hid hnw
      clear hR hyl htk hk hge HWN hnw
      have HXC := fun W => xt_any ⟨#[114, 64]⟩ 109 at_copyr W
      rw [show ((109 : Nat) : Int) + 1 = 110 from rfl] at HXC
      have HXC := Lib.hid HXC
      have HXF := fun W => xt_any ⟨#[114, 62]⟩ 108 at_fromr W
      rw [show ((108 : Nat) : Int) + 1 = 109 from rfl] at HXF
      have HXF := Lib.hid HXF
      go_wp2_with fail
      go_loopw [85, 6] (fun iv cv wr => ∃ j : Nat, j ≤ k ∧ iv = .int .i64 j ∧ CeG w g p { M.new S ins0' with words := wordsT ++ ceWs 0 ys } (putL (ceUs 0 ys) ++ getL j) (ceWant ys) cv (.slice wa nw wc0) wr) (fun iv _ _ => k - (intOf iv).toNat)
      case atStart => exact ⟨0, Nat.zero_le _, rfl, H2.out⟩
      case round =>
        obtain ⟨j, hj, rfl, hR⟩ := hrel
        clear H2
        obtain ⟨ca2, cc2, hcv⟩ := hR.code.form
        have hln : (putL (ceUs 0 ys) ++ getL j).length = 2 * k + 2 * j := by rw [List.length_append, putL_len, ceUs_len, getL_len, HY.out]
        rw [hln] at hcv
        subst hcv
        rcases Nat.lt_or_ge j k with hlt | hge
        · have HR := Lib.hid hR
          have HLN := Lib.hid hln
          clear hR hln
          go_wp2_with fail
          refine Calls.mono (HXC.out _) ?_
          rintro _ w3 ⟨rfl, t3⟩
          have HT3 := Lib.hid t3
          clear t3
          go_wp2_with fail
          refine Calls.mono (HXF.out _) ?_
          rintro _ w4 ⟨rfl, t4⟩
          have hR4 := HR.out.quiet (HT3.out.trans t4 (by simp))
          have tB := (Touch.refl [] w4).alloc (.cells #[.int .u8 2, .int .i64 110, .int .i64 0, .int .u8 2, .int .i64 109, .int .i64 0] 56)
          have HB4 := Lib.hid (And.intro (hR4.quiet tB).code (And.intro (hR4.quiet tB).touch.size (fun v' w2 q1 q2 q3 => hR4.code_next (X := [((2 : Int), (110 : Int), (0 : Int)), (2, 109, 0)]) (v' := v') (w2 := w2) tB q1 q2 q3)))
          clear t4 hR4 tB HT3
          go_wp2_with (refine wpList_code rfl (.tmp 87) (.tmp 92) rfl w.heap.size (.slice ca2 (2 * k + 2 * j) cc2) (putL (ceUs 0 ys) ++ getL j) [(2, 110, 0), (2, 109, 0)] (by simp [Act.eval]) HB4.out.1 w4.heap.size 2 2 (by simp [Act.eval]) rfl (Blk.new w4 _ _) (by omega) (by rw [HLN.out]; omega) HB4.out.2.1 ?_; intro v6 w6 h6 g6 a6 f6)
          have H6 := Lib.hid (show CeG w g p { M.new S ins0' with words := wordsT ++ ceWs 0 ys } (putL (ceUs 0 ys) ++ getL (j + 1)) (ceWant ys) v6 (.slice wa nw wc0) w6 by
            rw [getL_succ, ← List.append_assoc]
            exact HB4.out.2.2 v6 w6 h6 g6 a6)
          clear h6 g6 a6 f6
          go_roundw
          case rel => exact ⟨j + 1, by omega, vint (by omega), H6.out⟩
          case measure => simp only [intOf]; omega
        · obtain rfl : j = k := by omega
          have hR4 := hR
          have tB := (Touch.refl [] wr).alloc (.cells #[.int .u8 15, .int .i64 0, .int .i64 0] 56)
          have HB4 := Lib.hid (And.intro (hR4.quiet tB).code (And.intro (hR4.quiet tB).touch.size (fun v' w2 q1 q2 q3 => hR4.code_next (X := [((15 : Int), (0 : Int), (0 : Int))]) (v' := v') (w2 := w2) tB q1 q2 q3)))
          have HLN := Lib.hid hln
          clear hR hR4 tB hln hge hj
          go_upto_region 22 with fail
          go_wp2_with (refine wpList_code rfl (.tmp 97) (.tmp 99) rfl w.heap.size (.slice ca2 (2 * j + 2 * j) cc2) (putL (ceUs 0 ys) ++ getL j) [(15, 0, 0)] (by simp [Act.eval]) HB4.out.1 wr.heap.size 1 1 (by simp [Act.eval]) rfl (Blk.new wr _ _) (by omega) (by rw [HLN.out]; omega) HB4.out.2.1 ?_; intro v6 w6 h6 g6 a6 f6; obtain ⟨fa, fc, rfl⟩ := f6)
          obtain ⟨tn, htn⟩ : ∃ tn, (putL (ceUs 0 ys)).length + (getL j).length + 1 = tn := ⟨_, rfl⟩
          rw [List.length_append, htn] at h6 a6
          rw [htn]
          have hR6 : CeG w g p { M.new S ins0' with words := wordsT ++ ceWs 0 ys } (ceL ys) (ceWant ys) (.slice fa tn fc) (.slice wa nw wc0) w6 := by
            have h9 := HB4.out.2.2 _ w6 h6 g6 a6
            rw [List.append_assoc] at h9
            unfold ceL
            rw [HY.out]
            exact h9
          have hy20 : ys.length ≤ 20 := by rw [HY.out]; exact hq
          obtain ⟨F', hE, hFn, hrow, hcall⟩ := hR6.call
          have hone := ceOne S ys hy20 [] (by decide) 0 S []
          have hDef := Define_ok hE (Nat.zero_le _) (Nat.le_of_ble_eq_true rfl) (ceL ys) hone.len hone.op (by
            have h9 := cells_may (ceUs 0 ys) ((wordsT ++ ceWs 0 ys).length : Int) (by rw [ceUs_len]; exact hy20) (by rw [List.length_append, wordsT_len]; omega) (fun x hx => by
              obtain ⟨i, h1, h2⟩ := ceUs_mem ys 0 x hx
              have hi := (List.getElem?_eq_some_iff.1 h1).1
              rw [h2, Nat.zero_add, List.length_append, wordsT_len, ceWs_len]
              unfold ceNum
              split <;> omega)
            rw [ceUs_len] at h9
            exact h9) (.slice fa tn fc) (CodeRow.insAt hR6.code) hrow
          rw [show ((({ M.new S ins0' with words := wordsT ++ ceWs 0 ys } : M).ends.length : Nat) : Int) + 1 = 1 from rfl] at hDef
          have HCL := Lib.hid hcall
          have HY20 := Lib.hid hy20
          clear hE hFn hrow hcall hone hR6 h6 g6 a6 htn HB4 HLN hy20
          refine hDef.mono ?_
          rintro _ w7 ⟨rfl, K7⟩
          have hR7 := HCL.out _ _ K7
          obtain ⟨F', hE, hFn, hrow, hcall⟩ := hR7.call
          have hAdd := Add_ok hE (by show (wordsT ++ ceWs 0 ys).length < 600; rw [List.length_append, wordsT_len, ceWs_len, HY.out]; omega) 5 1 0 (.inr (.inl ⟨.inl rfl, by decide, by show (1 : Int) ≤ (1 : Int); decide⟩)) ml (cell_quiet hR7.touch HML.out)
          rw [show (((({ M.new S ins0' with words := wordsT ++ ceWs 0 ys } : M).laid (ceL ys)).words.length : Nat) : Int) + 1 = 181 + 2 * (j : Int) by show (((wordsT ++ ceWs 0 ys).length : Nat) : Int) + 1 = _; rw [List.length_append, wordsT_len, ceWs_len, HY.out]; omega] at hAdd
          have HCL := Lib.hid hcall
          clear hE hFn hrow hcall hDef hR7 K7
          go_wp2_with fail
          refine hAdd.mono ?_
          rintro _ w8 ⟨rfl, K8⟩
          have hR8 := HCL.out _ _ K8
          obtain ⟨F', hE, hFn, hrow, hcall⟩ := hR8.call
          have hlw : (wordsT ++ ceWs 0 ys ++ [((5 : Int), (1 : Int), (0 : Int))]).length = 181 + 2 * j := by rw [List.length_append, List.length_append, wordsT_len, ceWs_len, HY.out]; simp; omega
          have hAdd2 := Add_ok hE (by show (wordsT ++ ceWs 0 ys ++ [((5 : Int), (1 : Int), (0 : Int))]).length < 600; rw [hlw]; omega) 8 0 0 (.inr (.inr (.inr ⟨rfl, by decide, Int.natCast_nonneg _⟩))) ml (cell_quiet hR8.touch HML.out)
          rw [show ((({ (({ M.new S ins0' with words := wordsT ++ ceWs 0 ys } : M).laid (ceL ys)) with words := ((({ M.new S ins0' with words := wordsT ++ ceWs 0 ys } : M).laid (ceL ys)).words) ++ [(5, 1, 0)] } : M).words.length : Nat) : Int) + 1 = 182 + 2 * (j : Int) by show (((wordsT ++ ceWs 0 ys ++ [((5 : Int), (1 : Int), (0 : Int))]).length : Nat) : Int) + 1 = _; rw [hlw]; omega] at hAdd2
          have HCL := Lib.hid hcall
          clear hE hFn hrow hcall hAdd hR8 K8 hlw
          go_wp2_with fail
          refine hAdd2.mono ?_
          rintro _ w9 ⟨rfl, K9⟩
          have hR9 : CeG w g p (ceM S ys) (ceL ys) (ceWant ys) (.slice fa tn fc) (.slice wa nw wc0) w9 := by
            have h9 := HCL.out _ _ K9
            have e : wordsT ++ ceWs 0 ys ++ [((5 : Int), (1 : Int), (0 : Int))] ++ [(8, 0, 0)] = wordsT ++ ceWs 0 ys ++ [(5, 1, 0), (8, 0, 0)] := by simp
            unfold ceM
            rw [← e]
            exact h9
          obtain ⟨F', hE, hFn, hrow, hcall⟩ := hR9.call
          have hwl : (ceM S ys).words.length ≤ 1000000 := by show (wordsT ++ ceWs 0 ys ++ [((5 : Int), (1 : Int), (0 : Int)), (8, 0, 0)]).length ≤ 1000000; rw [ceWords_len, HY.out]; omega
          have hw5 := (ce_last S ys).1
          rw [HY.out] at hw5
          have hEx := exec_yes hE hwl (181 + 2 * (j : Int)) (5, 1, 0) hw5
          have HCL := Lib.hid hcall
          clear hE hFn hrow hcall hAdd2 hR9 K9 hw5 hwl
          go_wp2_with fail
          refine hEx.mono ?_
          rintro _ w10 ⟨rfl, K10⟩
          have hR10 : CeG w g p { ceM S ys with nx := 181 + 2 * (j : Int) } (ceL ys) (ceWant ys) (.slice fa tn fc) (.slice wa nw wc0) w10 := HCL.out _ _ K10
          obtain ⟨F', hE, hFn, hrow, hcall⟩ := hR10.call
          have hone := ceOne S ys HY20.out (ceM S ys).words (by show (wordsT ++ ceWs 0 ys ++ [((5 : Int), (1 : Int), (0 : Int)), (8, 0, 0)]).length ≤ 1000; rw [ceWords_len, HY.out]; omega) (181 + 2 * (j : Int)) S []
          have hctl : ctlB (wordsT ++ ceWs 0 ys ++ [((5 : Int), (1 : Int), (0 : Int)), (8, 0, 0)]) = true := ctl_app _ _ (ctl_app _ _ ctl_table (ceWs_ctl ys 0)) rfl
          have hloc := hone.noLoc (fun x hx => by
            rcases ceL_op ys HY20.out x hx with ⟨h1, _⟩ | rfl
            · rw [h1]; decide
            · decide)
          have hrun := ceRun S HS.out.1 ys HY20.out
          rw [HY.out] at hrun
          have hRun := run_law (D := pD) (bad := fun S => S.out = [7]) hE (hone.fine (by show S.st.length ≤ 128; rw [HS.out.1]; decide) (Nat.le_of_ble_eq_true rfl) ⟨Nat.le_of_ble_eq_true rfl, Nat.le_of_ble_eq_true rfl, by intro o ho; cases ho⟩ HS.out.2.1) hFn hR10.touch pD_fine pD_bad (fun S st h => h) (fun _ => False) (fun _ _ h => h.elim) (fun _ _ _ => rfl) (ctl_of hctl) hloc 300 (by decide) hrun (by show ¬ S.out = [7]; rw [HS.out.2.2]; decide) (fun n hn => nothing_next rfl rfl n hn)
          rw [show ((300 : Nat) : Int) = 300 from rfl] at hRun
          have HCL := Lib.hid hcall
          have hfk := status_kind
          clear hE hFn hrow hcall hEx hR10 K10 hone hrun
          go_wp2_with fail
          refine hRun.mono ?_
          rintro _ wA ⟨s, mf, rfl, KA, rfl, rfl⟩
          have hRA := HCL.out _ _ KA
          obtain ⟨F', hE, hFn, hrow, hcall⟩ := hRA.call
          have hSt := state_eng hE
          have hSk := hE.stack_of
          have hwn : (ceWant ys).length = nw := HNW.out
          have hwn2 : nw ≤ 40 := by rw [← hwn, ceWant_len, HY.out]; omega
          have hAll := all_eng hE (by show (ceWant ys).length ≤ 128; omega)
          rw [show ((ceM S ys).go 0 0 (ceWant ys) []).S.st.length = nw from hwn] at hAll
          have HRA := Lib.hid hRA
          have HWN2 := Lib.hid hwn2
          clear hE hFn hrow hcall hRun hRA KA hwn hwn2
          unfold stV
          dsimp only
          go_wp2_with fail
          refine hSt.mono ?_
          rintro _ _ ⟨rfl, rfl⟩
          clear hSt
          go_wp2_with fail
          refine hSk.mono ?_
          rintro _ _ ⟨rfl, rfl⟩
          clear hSk
          generalize ((ceM S ys).go 0 0 (ceWant ys) []).S.k = kk at *
          go_wp2_with fail
          refine hAll.mono ?_
          rintro _ wB ⟨a2, c2, rfl, hRB, tB⟩
          have hRB : RowR wB (.slice a2 nw c2) (ceWant ys) := hRB
          have hSame := Same_eq (.slice a2 nw c2) (.slice wa nw wc0) (ceWant ys) wB hRB (RowR.own (HRA.out.quiet tB).want) (by have h1 := HNW.out; have h2 := HWN2.out; omega)
          have HRB := Lib.hid (HRA.out.quiet tB)
          clear hRB tB hAll
          go_wp2_with fail
          refine hSame.mono ?_
          rintro _ wC ⟨rfl, tC⟩
          have hRC := HRB.out.quiet tC
          obtain ⟨F', hE, hFn, hrow, hcall⟩ := hRC.call
          have hFr := frames_eng hE
          have hDp := frDepth_eng hE
          rw [show (((ceM S ys).go 0 0 (ceWant ys) []).fr.length : Int) = 0 from rfl] at hDp
          have hw8 := (ce_last S ys).2
          rw [HY.out] at hw8
          have hEx2 := exec_yes hE (by show (wordsT ++ ceWs 0 ys ++ [((5 : Int), (1 : Int), (0 : Int)), (8, 0, 0)]).length ≤ 1000000; rw [ceWords_len, HY.out]; omega) (182 + 2 * (j : Int)) (8, 0, 0) hw8
          have HCL := Lib.hid hcall
          have HW8 := Lib.hid hw8
          clear hE hFn hrow hcall hSame tC hRC hw8
          go_wp2_with fail
          refine hFr.mono ?_
          rintro _ _ ⟨rfl, rfl⟩
          clear hFr
          go_wp2_with fail
          refine hDp.mono ?_
          rintro _ _ ⟨rfl, rfl⟩
          clear hDp
          go_wp2_with fail
          refine hEx2.mono ?_
          rintro _ wD ⟨rfl, KD⟩
          have hRD : CeG w g p { (ceM S ys).go 0 0 (ceWant ys) [] with nx := 182 + 2 * (j : Int) } (ceL ys) (ceWant ys) (.slice fa tn fc) (.slice wa nw wc0) wD := HCL.out _ _ KD
          obtain ⟨F', hE, hFn, hrow, hcall⟩ := hRD.call
          have hone := ceOne S ys HY20.out (ceM S ys).words (by show (wordsT ++ ceWs 0 ys ++ [((5 : Int), (1 : Int), (0 : Int)), (8, 0, 0)]).length ≤ 1000; rw [ceWords_len, HY.out]; omega) (182 + 2 * (j : Int)) { S with st := ceWant ys } []
          have hloc := hone.noLoc (fun x hx => by
            rcases ceL_op ys HY20.out x hx with ⟨h1, _⟩ | rfl
            · rw [h1]; decide
            · decide)
          have hrun := none_law (D := pD) (m := ceM S ys) (ceWant ys) (182 + 2 * (j : Int)) 0 (by omega) HW8.out 4
          have hRun := run_law (D := pD) (bad := fun S => S.out = [7]) hE (hone.fine (by show (ceWant ys).length ≤ 128; have h1 := HNW.out; have h2 := HWN2.out; omega) (Nat.le_of_ble_eq_true rfl) ⟨Nat.le_of_ble_eq_true rfl, Nat.le_of_ble_eq_true rfl, by intro o ho; cases ho⟩ HS.out.2.1) hFn hRD.touch pD_fine pD_bad (fun S st h => h) (fun _ => False) (fun _ _ h => h.elim) (fun _ _ _ => rfl) (ctl_of hctl) hloc 5 (by decide) hrun (by show ¬ S.out = [7]; rw [HS.out.2.2]; decide) (fun n hn => nothing_next rfl rfl n hn)
          rw [show ((5 : Nat) : Int) = 5 from rfl] at hRun
          have HCL := Lib.hid hcall
          clear hE hFn hrow hcall hEx2 hRD KD hone hrun hloc
          go_wp2_with fail
          refine hRun.mono ?_
          rintro _ wE ⟨s, mf, rfl, KE, rfl, rfl⟩
          have hRE := HCL.out _ _ KE
          have bS := Blk.new wE 48 #[.int .i64 4, .int .i64 0, .int .i64 (-32)]
          have tS := (Touch.refl [] wE).alloc (.cells #[.int .i64 4, .int .i64 0, .int .i64 (-32)] 48)
          have HQE := Lib.hid (hRE.touch.trans tS (by simp))
          obtain ⟨y, hy⟩ : ∃ y, wE.heap.size = y := ⟨_, rfl⟩
          rw [hy] at bS
          unfold stV
          dsimp only
          clear hRE KE hRun tS
          go_upto_region 30 with fail
          generalize wE.alloc (.cells #[.int .i64 4, .int .i64 0, .int .i64 (-32)] 48) = wG at *
          clear hy
          have y0 : wG.cell? ⟨y, 0, none⟩ = some (.int .i64 4) := bS.cell 0
          have y2 : wG.cell? ⟨y, 2, none⟩ = some (.int .i64 (-32)) := bS.cell 2
          have hN1 := Step_nil wG
          have hN2 := Lib.hid (fun W => Exec_nil 1 W)
          have hN3 := Lib.hid (fun W => State_nil W)
          clear bS
          go_wp2_with fail
          refine hN1.mono ?_
          rintro _ wH ⟨rfl, tH⟩
          have HTH := Lib.hid (HQE.out.trans tH (by simp))
          clear hN1 tH y0 y2
          go_wp2_with fail
          refine (hN2.out _).mono ?_
          rintro _ _ ⟨rfl, rfl⟩
          go_wp2_with fail
          refine (hN3.out _).mono ?_
          rintro _ _ ⟨rfl, rfl⟩
          go_wp2_with fail
          go_ret
          exact ⟨rfl, HTH.out⟩
end En
end Go.Proofs.YtdokeddjcpnmiaaGreatDoor
