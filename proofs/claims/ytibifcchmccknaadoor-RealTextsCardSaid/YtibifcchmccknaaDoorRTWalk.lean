/- The walk of RealTexts. -/
import Derived.Test.YtibifcchmccknaaDoorRTLaw
namespace Go.Proofs.YtibifcchmccknaaDoor
open Go.RowKit

set_option maxHeartbeats 6400000 in
set_option maxRecDepth 100000 in
theorem RealTexts_walk (f : Int) (f0 : -9223372036854775808 ≤ f) (f1 : f ≤ 9223372036854775807) (s : ByteArray) (hs : s.size ≤ maxLen) (w : World) (hT : TzTab w) (hP : PowTab w) (hM : MaxIs w) (hE : ErrIs w) (hR : RngIs w) :
    Calls Tryd.prog 6 #[.int .i64 f, .string s] w fun e w' => e = .returned (.bool true) ∧ Touch [] w w' := by
  have HT := Lib.hid hT
  have HP := Lib.hid hP
  have HM := Lib.hid hM
  have HE := Lib.hid hE
  have HR := Lib.hid hR
  clear hT hP hM hE hR
  have hT100 : (s.extract 0 (min (s.size : Int) 100).toNat).size ≤ 200 := by rw [ByteArray.size_extract]; omega
  obtain ⟨T, hTT⟩ : ∃ T, s.extract 0 (min (s.size : Int) 100).toNat = T := ⟨_, rfl⟩
  rw [hTT] at hT100
  obtain ⟨v0, b0, hN, hU⟩ := num_agree T hT100
  have hD := fun W => rNumber_any T hT100 W
  have HTs := Lib.hid hTT
  have HN := Lib.hid hN
  have HU := Lib.hid hU
  have HD := Lib.hid hD
  clear hTT hN hU hD
  have hsz : (s.size : Int) ≤ 9223372036854775807 := by simp only [maxLen] at hs; omega
  go_enter Tryd.func6, Tryd.ntmps6
  go_wp2_with fail
  refine (shown_any _ HT.out HP.out).mono ?_
  rintro _ w1 ⟨rfl, t1⟩
  go_wp2_with fail
  rw [HTs.out]
  go_wp2_with fail
  refine (HN.out _ (HT.out.touch t1) (HM.out.touch t1) (HE.out.touch t1) (HR.out.touch t1)).mono ?_
  rintro _ w2 ⟨rfl, t2⟩
  have t3 := t1.trans t2 (by simp)
  clear t1 t2
  go_wp2_with fail
  refine (HD.out _).mono ?_
  rintro _ w3 ⟨v, b, hv, rfl, t4⟩
  obtain ⟨rfl, rfl⟩ := HU.out v b hv
  have t5 := t3.trans t4 (by simp)
  clear t3 t4 hv
  go_wp2_with fail
  refine (Text_any f _ (HT.out.touch t5) (tab_touch HP.out t5)).mono ?_
  rintro _ w4 ⟨x, hx, rfl, t6⟩
  have t7 := t5.trans t6 (by simp)
  clear t5 t6
  go_wp2_with fail
  refine (rtext_any f f0 f1 _).mono ?_
  rintro _ w5 ⟨y, hy, rfl, t8⟩
  obtain rfl := text_uniq _ _ _ hx hy
  have t9 := t7.trans t8 (by simp)
  clear t7 t8 hx hy
  go_wp2_with fail
  go_ret
  exact ⟨rfl, t9⟩
end Go.Proofs.YtibifcchmccknaaDoor
