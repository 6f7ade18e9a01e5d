/- PrimTells: the law's walk. -/
import Derived.Test.YtkbchpaofmlhgaaGreatDoorTellsP
namespace Go.Proofs.YtkbchpaofmlhgaaGreatDoor
open Go.RowKit

/-- a row of small numbers that came in -/
def ArgU (w : World) (v : Value) (l : List Int) : Prop :=
  ∃ a c, v = .slice a l.length c ∧ l.length ≤ c ∧ c ≤ 9223372036854775807 ∧ ∀ j, j < l.length → ∃ g off, a = some ⟨g, off, none⟩ ∧ w.cell? ⟨g, off + j, none⟩ = some (.int .u16 (l.getD j 0))
/-- where the telling stands -/
structure TellAt (S : PS) (want : ByteArray) (j : Nat) : Prop where
  ok : S.ok
  n : S.n = 1024
  st : S.st = []
  bs : S.bs = bs0
  out : S.out = (strL want).take 4000
  size : want.size ≤ 4300 * j
theorem TellAt.more {S S' : PS} {want T x : ByteArray} {j : Nat} (h : TellAt S want j) (hT : T.size ≤ 4000) (hx : x.size ≤ 300) (e : S' = { S with st := [], out := sayL (sayL S.out T) x }) : TellAt S' (want ++ (T ++ x)) (j + 1) := by
  subst e
  refine ⟨⟨sayL_len (sayL_len h.ok.1 T) x, h.ok.2⟩, h.n, rfl, h.bs, ?_, ?_⟩
  · rw [← ByteArray.append_assoc]
    exact told_more (told_more h.out)
  · have := h.size
    simp only [ByteArray.size_append]
    omega
set_option maxRecDepth 100000 in
set_option maxHeartbeats 3200000 in
theorem PrimTells_walk (l : List Int) (v : Value) (t : ByteArray) (w : World) (hl : ArgU w v l) (hu : ∀ x ∈ l, 0 ≤ x ∧ x ≤ 65535) :
    Calls Tryz.prog 9 #[v, .string t] w fun e w' => e = .returned (.bool true) ∧ Touch [] w w' := by
  obtain ⟨a, c, rfl, hlc, hc, hcell⟩ := hl
  have hSh := fun w => shown_any w
  have hmt : min (t.size : Int) 300 = (min t.size 300 : Nat) := by omega
  obtain ⟨k, hk⟩ : ∃ k, min t.size 300 = k := ⟨_, rfl⟩
  rw [hk] at hmt
  have hk1 : k ≤ t.size := by omega
  have hk2 : k ≤ 300 := by omega
  have hkx : (t.extract 0 k).size = k := by simp; omega
  obtain ⟨n, hn⟩ : ∃ n, l.length = n := ⟨_, rfl⟩
  have hmn : min (n : Int) 30 = (min n 30 : Nat) := by omega
  obtain ⟨q, hq⟩ : ∃ q, min n 30 = q := ⟨_, rfl⟩
  rw [hq] at hmn
  rw [hn] at hlc hcell ⊢
  have hq1 : q ≤ n := by omega
  have hq2 : q ≤ 30 := by omega
  have HL := Lib.hid (And.intro hn (And.intro hcell hu))
  clear hk hq hn hcell hu
  go_enter Tryz.func9, Tryz.ntmps9
  go_wp2_with fail
  refine (hSh _).mono ?_
  rintro _ w1 ⟨rfl, t1⟩
  have hN := live_new w w1 t1
  clear hSh t1
  go_wp2_with fail
  refine hN.mono ?_
  rintro _ w2 ⟨s, S, rfl, hL, hok, h1, h2, h3, _, h5, _⟩
  clear hN
  have HX := Lib.hid hkx
  obtain ⟨x, hx⟩ : ∃ x, t.extract 0 k = x := ⟨_, rfl⟩
  rw [hx] at hkx
  have H0 : Hid (∃ S, Live w w2 s S ∧ TellAt S .empty 0) := ⟨S, hL, hok, h1, h2, h3, by rw [h5]; rfl, by decide⟩
  clear hL hok h1 h2 h3 h5
  go_wp2_with fail
  go_loopw [36, 9] (fun iv sv wr => ∃ (j : Nat) (want : ByteArray) (S : PS), j ≤ q ∧ iv = .int .i64 j ∧ sv = .string want ∧ Live w wr s S ∧ TellAt S want j) (fun iv _ _ => q - (intOf iv).toNat)
  case atStart =>
    obtain ⟨S, h1, h2⟩ := H0.out
    exact ⟨0, .empty, S, Nat.zero_le _, rfl, rfl, h1, h2⟩
  case round =>
    obtain ⟨j, want, S, hj, rfl, rfl, hL, hT⟩ := hrel
    by_cases hlt : j < q
    · have hlt2 : (j : Int) < q := by omega
      obtain ⟨g, off, rfl, hce⟩ := HL.out.2.1 j (by omega)
      have hce := cell_quiet hL.t hce
      have hux : 0 ≤ l.getD j 0 ∧ l.getD j 0 ≤ 65535 := by
        have hjl : j < l.length := by have := HL.out.1; omega
        have : l.getD j 0 = l[j] := by simp [List.getD, List.getElem?_eq_getElem hjl]
        rw [this]
        exact HL.out.2.2 _ (List.getElem_mem hjl)
      obtain ⟨u, hu⟩ : ∃ u : Nat, l.getD j 0 = u := ⟨(l.getD j 0).toNat, by omega⟩
      rw [hu] at hce hux
      have e1 : IntKind.i64.wrap (u : Int) = u := by rw [IntKind.wrap_i64]; omega
      have ej : IntKind.i64.wrap ((j : Int) + 1) = (j + 1 : Nat) := by rw [IntKind.wrap_i64]; omega
      have hSt := live_stack hL
      have hPu := live_push hL (by rw [hT.st]; decide) (u : Int)
      rw [hT.st, List.nil_append] at hPu
      have HT := Lib.hid (And.intro hT (And.intro hj hu))
      clear hL hT hj hu
      go_wp2_with fail
      refine hSt.mono ?_
      rintro _ _ ⟨rfl, rfl⟩
      clear hSt
      go_wp2_with fail
      refine hPu.mono ?_
      rintro _ w3 ⟨rfl, hL3⟩
      clear hPu
      have hD := live_spaces hL3 HT.out.1.ok (u := u) rfl
      clear hL3
      go_wp2_with fail
      refine hD.mono ?_
      rintro _ w4 ⟨rfl, hL4⟩
      clear hD
      have hSay := live_say hL4 (by show (sayL S.out _).length ≤ 4000; exact sayL_len HT.out.1.ok.1 _) x
      clear hL4
      go_wp2_with fail
      refine hSay.mono ?_
      rintro _ w5 ⟨rfl, hL5⟩
      clear hSay
      have hF := fill_any u w5
      have HL5 := Lib.hid hL5
      clear hL5
      go_wp2_with fail
      refine hF.mono ?_
      rintro _ w6 ⟨fv, rfl, hrow, t6⟩
      have hcv := row_text hrow
      rw [nums_blanks] at hcv
      have hB : want.size ≤ 4300 * j := HT.out.1.size
      have hj30 : 4300 * j ≤ 129000 := by omega
      obtain ⟨T, hTt⟩ : ∃ T : ByteArray, blanks (min u 4000) = T := ⟨_, rfl⟩
      have hTs : T.size ≤ 4000 := by rw [← hTt, blanks_size]; exact Nat.min_le_right _ _
      rw [hTt] at hcv
      have HR := Lib.hid (And.intro hTt (And.intro (HL5.out.quiet t6) hrow))
      clear hF hrow t6 hTt
      go_wp2_with fail
      refine ⟨⟨j + 1, want ++ (T ++ x), _, by omega, vint (by omega), rfl, HR.out.2.1, HT.out.1.more hTs (by omega) (by rw [HR.out.1])⟩, ?_⟩
      simp only [intOf]
      omega
    · obtain rfl : j = q := by omega
      have hNt := live_note hL hT.n x
      have hB : want.size ≤ 4300 * j := hT.size
      have hj30 : 4300 * j ≤ 129000 := by omega
      have hmx : min (k : Int) 256 = (min k 256 : Nat) := by omega
      obtain ⟨m, hm⟩ : ∃ m, min k 256 = m := ⟨_, rfl⟩
      rw [hkx] at hNt
      rw [hm] at hNt hmx
      have hm1 : m ≤ k := by omega
      have hm2 : m ≤ 256 := by omega
      have HT := Lib.hid (And.intro hT hm)
      clear hL hT hm hlt
      go_wp2_with fail
      refine hNt.mono ?_
      rintro _ w3 ⟨rfl, hL3⟩
      clear hNt
      have hSt := live_stack hL3
      have HL3 := Lib.hid hL3
      clear hL3
      go_wp2_with fail
      refine hSt.mono ?_
      rintro _ _ ⟨rfl, rfl⟩
      clear hSt
      have bM := Blk.new w3 36 #[.int .i64 768, .int .i64 (m : Int)]
      have hPu := live_put (HL3.out.quiet ((Touch.refl [] w3).alloc (.cells #[.int .i64 768, .int .i64 (m : Int)] 36))) _ [768, (m : Int)] (CellsAt.blk (cs := [768, (m : Int)]) bM 2) (by show S.st.length + 2 ≤ 128; rw [HT.out.1.st]; decide)
      clear bM
      go_wp2_with fail
      refine hPu.mono ?_
      rintro _ w4 ⟨rfl, hL4⟩
      clear hPu
      have hTy := live_type hL4 HT.out.1.ok (p := 768) (k := m) (by show S.st ++ [768, (m : Int)] = _; rw [HT.out.1.st]; rfl) (by show 768 + m ≤ S.n; rw [HT.out.1.n]; omega)
      have hxm : (x.extract 0 m).size = m := by simp; omega
      have etx : PS.text { S with st := S.st ++ [768, (m : Int)], bs := wrtL S.bs 768 (strL (x.extract 0 m)) } 768 m = x.extract 0 m := by
        have h1 : (strL (x.extract 0 m)).length = m := by rw [strL_len, hxm]
        show strOfNums (cutL (wrtL S.bs 768 (strL (x.extract 0 m))) 768 m) = _
        have h2 := cut_noted S.bs (strL (x.extract 0 m)) 768 (by rw [HT.out.1.bs]; decide +kernel)
        rw [h1] at h2
        rw [h2, nums_str]
      rw [etx] at hTy
      clear hL4 etx
      go_wp2_with fail
      refine hTy.mono ?_
      rintro _ w5 ⟨rfl, hL5⟩
      clear hTy
      obtain ⟨X, hX⟩ : ∃ X : ByteArray, x.extract 0 m = X := ⟨_, rfl⟩
      rw [hX] at hxm hL5
      have eout : strOfNums (sayL S.out X) = (want ++ X).extract 0 (min (want ++ X).size 4000) := by
        rw [told_more HT.out.1.out, show (strL (want ++ X)).take 4000 = strL ((want ++ X).extract 0 (min (want ++ X).size 4000)) from ?_, nums_str]
        rw [strL_take, List.take_eq_take_iff, strL_len]
        omega
      have hO := live_out (hL5.quiet ((Touch.refl [] w5).drew))
      change Calls _ _ _ _ (fun e w' => e = .returned (.string (strOfNums (sayL S.out X))) ∧ _) at hO
      rw [eout] at hO
      have hWs : (want ++ X).size ≤ 140000 := by simp only [ByteArray.size_append]; omega
      have HT5 := Lib.hid hL5.t
      clear hL5 eout
      obtain ⟨Y, hY⟩ : ∃ Y : ByteArray, want ++ X = Y := ⟨_, rfl⟩
      rw [hY] at hO hWs
      have hmy : min (Y.size : Int) 4000 = (min Y.size 4000 : Nat) := by omega
      obtain ⟨r, hr⟩ : ∃ r, min Y.size 4000 = r := ⟨_, rfl⟩
      rw [hr] at hO hmy
      have hr1 : r ≤ Y.size := by omega
      have HY := Lib.hid (And.intro hX (And.intro hY hr))
      go_upto_region 23 with fail
      clear HY
      go_region_with (go_at_call 17; refine hO.mono ?_; rintro _ _ ⟨rfl, rfl⟩)
      all_goals go_wp2_with fail
      all_goals go_ret
      all_goals exact ⟨rfl, HT5.out.drew⟩
end Go.Proofs.YtkbchpaofmlhgaaGreatDoor
