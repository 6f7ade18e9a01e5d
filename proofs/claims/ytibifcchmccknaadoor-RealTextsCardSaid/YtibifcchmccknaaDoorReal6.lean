/- The contract of To; sums of whole numbers; the walk of RealWhole. -/
import Derived.Test.YtibifcchmccknaaDoorReal5
import Derived.Test.YtibifcchmccknaaDoorFloat3
namespace Go.Proofs.YtibifcchmccknaaDoor
open Go.RowKit

theorem beyond_num : Fl.Zv 4890909195324358656 = 9223372036854775808 * (Fl.U : Int) ∧ Fl.fin 4890909195324358656 := by
  have h := word_63
  refine ⟨?_, fin_nat h.1⟩
  unfold Fl.Zv
  rw [show Fl.sg 4890909195324358656 = false by decide, show Fl.rg 4890909195324358656 = 4890909195324358656 by decide, h.2]
  simp
theorem below_num : Fl.Zv 14114281232179134464 = -9223372036854775808 * (Fl.U : Int) ∧ Fl.fin 14114281232179134464 := by
  have h := word_63
  have e : Fl.rg 14114281232179134464 = 4890909195324358656 := by decide
  refine ⟨?_, by unfold Fl.fin; rw [e]; exact h.1⟩
  unfold Fl.Zv
  rw [show Fl.sg 14114281232179134464 = true by decide, e, h.2]
  simp [Int.neg_mul]
theorem ge_beyond {y : Nat} (hy : Fl.fin y) {v : Int} (h : Fl.Zv y = v * (Fl.U : Int)) : (FloatKind.f64.format.order y 14114281232179134464 == some .gt || FloatKind.f64.format.order y 14114281232179134464 == some .eq) = decide (-9223372036854775808 ≤ v) := by
  have ho : FloatKind.f64.format.order y 14114281232179134464 = _ := Fl.order_fin hy below_num.2
  rw [ho, h, below_num.1, Fl.compare_mul _ _ _ (by exact_mod_cast Fl.U_pos)]
  rcases Int.lt_trichotomy v (-9223372036854775808) with h1 | h1 | h1
  · rw [Int.compare_eq_lt.2 h1, decide_eq_false (by omega)]; rfl
  · rw [h1, Int.compare_eq_eq.2 rfl]; rfl
  · rw [Int.compare_eq_gt.2 h1, decide_eq_true (by omega)]; rfl
theorem lt_beyond {y : Nat} (hy : Fl.fin y) {v : Int} (h : Fl.Zv y = v * (Fl.U : Int)) : (FloatKind.f64.format.order y 4890909195324358656 == some .lt) = decide (v < 9223372036854775808) := by
  have ho : FloatKind.f64.format.order y 4890909195324358656 = _ := Fl.order_fin hy beyond_num.2
  rw [ho, h, beyond_num.1, Fl.compare_mul _ _ _ (by exact_mod_cast Fl.U_pos)]
  rcases Int.lt_trichotomy v 9223372036854775808 with h1 | h1 | h1
  · rw [Int.compare_eq_lt.2 h1, decide_eq_true h1]; rfl
  · rw [h1, Int.compare_eq_eq.2 rfl]; rfl
  · rw [Int.compare_eq_gt.2 h1, decide_eq_false (by omega)]; rfl
theorem unit_abs {y : Nat} {v : Int} (h : Fl.Zv y = v * (Fl.U : Int)) : Fl.Iv (Fl.rg y) = v.natAbs := by
  have h1 := Fl.natAbs_Zv y
  rw [h, Int.natAbs_mul, Int.natAbs_natCast] at h1
  unfold Fl.Iv
  rw [← h1, Nat.mul_div_cancel _ Fl.U_pos]
theorem conv_whole {y : Nat} (hy : Fl.fin y) {v : Int} (h : Fl.Zv y = v * (Fl.U : Int)) (h0 : -9223372036854775808 ≤ v) (h1 : v < 9223372036854775808) : floatToIntVal .f64 y .i64 = some v := by
  have hI := unit_abs h
  have hsg : (if Fl.sg y then -(Fl.Iv (Fl.rg y) : Int) else (Fl.Iv (Fl.rg y) : Int)) = v := by
    rw [hI]
    have hp : (0 : Int) < (Fl.U : Int) := by exact_mod_cast Fl.U_pos
    unfold Fl.Zv at h
    cases hs : Fl.sg y
    · rw [hs, if_neg (by simp)] at h
      have hv : 0 ≤ v := by
        rcases Int.lt_or_le v 0 with h2 | h2
        · have := Int.mul_neg_of_neg_of_pos h2 hp; omega
        · exact h2
      rw [if_neg (by simp)]; omega
    · rw [hs, if_pos rfl] at h
      have hv : v ≤ 0 := by
        rcases Int.lt_or_le 0 v with h2 | h2
        · have := Int.mul_pos h2 hp; omega
        · exact h2
      rw [if_pos rfl]; omega
  have h2 : (FloatKind.f64.decode y).toInt .zero = some v := by
    have h3 := Fl.toInt_fin hy
    rw [hsg] at h3
    exact h3
  unfold floatToIntVal
  rw [h2]
  have e3 : IntKind.min .i64 = -9223372036854775808 := by decide
  have e4 : IntKind.max .i64 = 9223372036854775807 := by decide
  dsimp only
  rw [e3, e4, if_pos (by omega)]

theorem neg_run {P : Program} (W : World) (x : Nat) : (Op.unary .neg (.float .f64 x)).run P W = .ok (.float .f64 (Op.negFloat .f64 x)) W := rfl

/-- what To tells of a finite number: it is cut towards 0; out of range: an error -/
def cutOf (x : Nat) : Int := if Fl.sg x then -(Fl.Iv (Fl.rg x) : Int) else (Fl.Iv (Fl.rg x) : Int)
def toOf (v : Int) : Value := if -9223372036854775808 ≤ v ∧ v < 9223372036854775808 then .tuple #[.int .i64 v, .int .i64 0] else .tuple #[.int .i64 0, .int .i64 (-43)]

set_option maxHeartbeats 6400000 in
set_option maxRecDepth 100000 in
theorem to_fin (a : Int) (hf : Fl.fin (bitsOf a)) (w : World) : Calls Tryd.prog 15 #[.int .i64 a] w fun e w' => e = .returned (toOf (cutOf (bitsOf a))) ∧ w = w' := by
  obtain ⟨x, hx⟩ : ∃ x, bitsOf a = x := ⟨_, rfl⟩
  have hlt : x < 18446744073709551616 := by rw [← hx]; exact bitsOf_lt a
  have hN := number_any a
  rw [hx] at hN hf ⊢
  clear hx
  have hr : Fl.rg x < 9218868437227405312 := hf
  -- what is rounded, and its sign
  obtain ⟨hq, hv⟩ := floW_spec hr
  obtain ⟨q, hqe⟩ : ∃ q, floW (Fl.rg x) = q := ⟨_, rfl⟩
  have hFl := fun W => Floor_pos (Fl.rg x) hr W
  rw [hqe] at hq hv hFl
  have h0 : Fl.fin 0 := fin_nat (by omega)
  have ho : FloatKind.f64.format.order x 0 = _ := Fl.order_fin (x := x) (y := 0) hf h0
  rw [show Fl.Zv 0 = 0 by decide] at ho
  by_cases hneg : Fl.Zv x < 0
  · -- below 0
    rw [Int.compare_eq_lt.2 hneg] at ho
    have hl : (FloatKind.f64.format.order x 0 == some .lt) = true := by rw [ho]; rfl
    have hs : Fl.sg x = true := by
      cases h : Fl.sg x
      · unfold Fl.Zv at hneg; rw [h, if_neg (by simp)] at hneg; omega
      · rfl
    have hxb : 9223372036854775808 ≤ x := by
      unfold Fl.sg at hs
      rcases Nat.lt_or_ge x 9223372036854775808 with h | h
      · rw [show x / 9223372036854775808 = 0 by omega] at hs; cases hs
      · exact h
    have en : Op.negFloat .f64 x = Fl.rg x := by rw [negFloat_eq x hlt]; unfold negOf Fl.rg; rw [if_neg (by omega)]; omega
    have hen := fun W => neg_run (P := Tryd.prog) W x
    rw [en] at hen
    have en2 : Op.negFloat .f64 q = 9223372036854775808 + q := by rw [negFloat_eq q (by omega)]; unfold negOf; rw [if_pos (by omega)]
    obtain ⟨y, hy⟩ : ∃ y, 9223372036854775808 + q = y := ⟨_, rfl⟩
    have hyr : Fl.rg y = q := by unfold Fl.rg; omega
    have hyf : Fl.fin y := by unfold Fl.fin; omega
    have hys : Fl.sg y = true := by unfold Fl.sg; rw [show y / 9223372036854775808 = 1 by omega]; rfl
    have hz : Fl.Zv y = cutOf x * (Fl.U : Int) := by
      unfold Fl.Zv cutOf; rw [hyr, hys, hs, if_pos rfl, if_pos rfl, hv, Int.natCast_mul, Int.neg_mul]
    have hge := ge_beyond hyf hz
    have hltb := lt_beyond hyf hz
    have hcv := conv_whole hyf hz
    rw [hy] at en2
    have hen2 := fun W => neg_run (P := Tryd.prog) W q
    rw [en2] at hen2
    obtain ⟨v, hve⟩ : ∃ v, cutOf x = v := ⟨_, rfl⟩
    rw [hve] at hge hltb hcv ⊢
    have hv0 : v ≤ 0 := by rw [← hve]; unfold cutOf; rw [hs, if_pos rfl]; omega
    rw [decide_eq_true (show v < 9223372036854775808 by omega)] at hltb
    clear ho hneg hs hxb hy hyr hyf hys hz hve hqe hv h0 hf
    by_cases hin : -9223372036854775808 ≤ v
    · have hT : toOf v = .tuple #[.int .i64 v, .int .i64 0] := by unfold toOf; rw [if_pos (by omega)]
      have hc := fun W => run_convert_float_int (P := Tryd.prog) W 40 22 .f64 .i64 y v (by kernel_rfl) (by kernel_rfl) (hcv hin (by omega))
      rw [decide_eq_true hin] at hge
      rw [hT]
      clear hT hcv
      go_enter Tryd.func15, Tryd.ntmps15
      go_wp2_with fail
      refine (hN _).mono ?_
      rintro _ _ ⟨rfl, rfl⟩
      go_wp2_with fail
      refine (hFl _).mono ?_
      rintro _ _ ⟨rfl, rfl⟩
      go_wp2_with fail
      go_ret2
      exact ⟨rfl, rfl⟩
    · have hT : toOf v = .tuple #[.int .i64 0, .int .i64 (-43)] := by unfold toOf; rw [if_neg (by omega)]
      rw [decide_eq_false hin] at hge
      rw [hT]
      clear hT hcv
      go_enter Tryd.func15, Tryd.ntmps15
      go_wp2_with fail
      refine (hN _).mono ?_
      rintro _ _ ⟨rfl, rfl⟩
      go_wp2_with fail
      refine (hFl _).mono ?_
      rintro _ _ ⟨rfl, rfl⟩
      go_wp2_with fail
      go_ret2
      exact ⟨rfl, rfl⟩
  · -- not below 0
    have hl : (FloatKind.f64.format.order x 0 == some .lt) = false := by
      rw [ho]
      rcases Int.lt_trichotomy (Fl.Zv x) 0 with h | h | h
      · exact absurd h hneg
      · rw [h, Int.compare_eq_eq.2 rfl]; rfl
      · rw [Int.compare_eq_gt.2 h]; rfl
    obtain ⟨y, hyf, hz, hFloor⟩ : ∃ y, Fl.fin y ∧ Fl.Zv y = cutOf x * (Fl.U : Int) ∧ ∀ W, Calls Tryd.prog 25 #[.float .f64 x] W fun e w' => e = .returned (.float .f64 y) ∧ W = w' := by
      cases hs : Fl.sg x
      · have hxr : Fl.rg x = x := by
          unfold Fl.sg at hs
          unfold Fl.rg
          rcases Nat.lt_or_ge x 9223372036854775808 with h | h
          · omega
          · rw [show x / 9223372036854775808 = 1 by omega] at hs; cases hs
        refine ⟨q, fin_nat hq, ?_, ?_⟩
        · have e1 : Fl.sg q = false := by unfold Fl.sg; rw [show q / 9223372036854775808 = 0 by omega]; rfl
          have e2 : Fl.rg q = q := by unfold Fl.rg; omega
          unfold Fl.Zv cutOf
          rw [hs, e1, e2, hv, if_neg (by simp), if_neg (by simp), Int.natCast_mul]
        · rw [hxr] at hFl
          exact hFl
      · have hr0 : Fl.rg x = 0 := by
          rcases Nat.eq_zero_or_pos (Fl.rg x) with h | h
          · exact h
          · have := Fl.Nv_lt h
            exfalso
            apply hneg
            unfold Fl.Zv
            rw [hs, if_pos rfl]
            omega
        have hx : x = 9223372036854775808 := by
          unfold Fl.sg at hs
          unfold Fl.rg at hr0
          rcases Nat.lt_or_ge x 9223372036854775808 with h | h
          · rw [show x / 9223372036854775808 = 0 by omega] at hs; cases hs
          · omega
        subst hx
        refine ⟨9223372036854775808, hf, by decide +kernel, fun W => ?_⟩
        have h46 := run_floor 9223372036854775808 hf W
        rw [show FloatKind.f64.encode ((FloatKind.f64.decode 9223372036854775808).integral .down) = 9223372036854775808 by decide +kernel] at h46
        exact floor_any _ _ _ _ h46
    have hge := ge_beyond hyf hz
    have hltb := lt_beyond hyf hz
    have hcv := conv_whole hyf hz
    have hv0 : 0 ≤ cutOf x := by
      unfold cutOf
      cases hs : Fl.sg x
      · rw [if_neg (by simp)]; omega
      · have : Fl.Iv (Fl.rg x) = 0 := by
          have : Fl.Nv (Fl.rg x) = 0 := by unfold Fl.Zv at hneg; rw [hs, if_pos rfl] at hneg; omega
          unfold Fl.Iv; rw [this, Nat.zero_div]
        rw [if_pos rfl, this]; decide
    obtain ⟨v, hve⟩ : ∃ v, cutOf x = v := ⟨_, rfl⟩
    rw [hve] at hge hltb hcv hv0 ⊢
    rw [decide_eq_true (show -9223372036854775808 ≤ v by omega)] at hge
    clear ho hneg hyf hz hve hqe hv hq hFl h0 hf
    by_cases hin : v < 9223372036854775808
    · have hT : toOf v = .tuple #[.int .i64 v, .int .i64 0] := by unfold toOf; rw [if_pos (by omega)]
      have hc := fun W => run_convert_float_int (P := Tryd.prog) W 40 22 .f64 .i64 y v (by kernel_rfl) (by kernel_rfl) (hcv (by omega) hin)
      rw [decide_eq_true hin] at hltb
      rw [hT]
      clear hT hcv
      go_enter Tryd.func15, Tryd.ntmps15
      go_wp2_with fail
      refine (hN _).mono ?_
      rintro _ _ ⟨rfl, rfl⟩
      go_wp2_with fail
      refine (hFloor _).mono ?_
      rintro _ _ ⟨rfl, rfl⟩
      go_wp2_with fail
      go_ret2
      exact ⟨rfl, rfl⟩
    · have hT : toOf v = .tuple #[.int .i64 0, .int .i64 (-43)] := by unfold toOf; rw [if_neg (by omega)]
      rw [decide_eq_false hin] at hltb
      rw [hT]
      clear hT hcv
      go_enter Tryd.func15, Tryd.ntmps15
      go_wp2_with fail
      refine (hN _).mono ?_
      rintro _ _ ⟨rfl, rfl⟩
      go_wp2_with fail
      refine (hFloor _).mono ?_
      rintro _ _ ⟨rfl, rfl⟩
      go_wp2_with fail
      go_ret2
      exact ⟨rfl, rfl⟩

/-- the law's own short word for what is done to two whole numbers -/
theorem whole_two (k a b c : Int) (w : World) (h : ∀ W, Calls Tryd.prog 10 #[.int .i64 k, .int .i64 (madeOf (floatOfInt .f64 a)), .int .i64 (madeOf (floatOfInt .f64 b))] W fun e w' => e = .returned (.tuple #[.int .i64 c, .int .i64 0]) ∧ Touch [] W w') :
    Calls Tryd.prog 12 #[.int .i64 k, .int .i64 a, .int .i64 b] w fun e w' => e = .returned (.int .i64 c) ∧ Touch [] w w' := by
  have H := Lib.hid h
  clear h
  go_enter Tryd.func12, Tryd.ntmps12
  go_wp2_with fail
  refine (of_any a _).mono ?_
  rintro _ _ ⟨rfl, rfl⟩
  go_wp2_with fail
  refine (of_any b _).mono ?_
  rintro _ _ ⟨rfl, rfl⟩
  go_wp2_with fail
  refine (H.out _).mono ?_
  rintro _ w1 ⟨rfl, ht⟩
  go_wp2_with fail
  go_ret
  exact ⟨rfl, ht⟩
/-- a whole number as a real one -/
def ofC (n : Int) : Int := madeOf (floatOfInt .f64 n)
theorem bits_of (n : Int) (h : n.natAbs < 9007199254740992) : bitsOf (ofC n) = floatOfInt .f64 n := by
  obtain ⟨hf, _, _, _⟩ := Fl.flt_num n h
  have hb : floatOfInt .f64 n < 18446744073709551616 := by
    have := floatOfInt_wf .f64 n
    simpa [Lit.wf] using this
  refine bits_made _ hb ?_
  unfold nanB
  unfold Fl.fin at hf
  omega
theorem whole_add (a b : Int) (w : World) (ha : a.natAbs < 9007199254740992) (hb : b.natAbs < 9007199254740992) (hc : (a + b).natAbs < 9007199254740992) :
    Calls Tryd.prog 12 #[.int .i64 3, .int .i64 a, .int .i64 b] w fun e w' => e = .returned (.int .i64 (ofC (a + b))) ∧ Touch [] w w' := by
  refine whole_two 3 a b _ w fun W => ?_
  have h := two_add (ofC a) (ofC b) W
  rw [bits_of a ha, bits_of b hb, show floatBits .add .f64 (floatOfInt .f64 a) (floatOfInt .f64 b) = some (floatOfInt .f64 (a + b)) from Fl.add_flt a b ha hb hc] at h
  exact h
theorem whole_sub (a b : Int) (w : World) (ha : a.natAbs < 9007199254740992) (hb : b.natAbs < 9007199254740992) (hc : (a - b).natAbs < 9007199254740992) :
    Calls Tryd.prog 12 #[.int .i64 4, .int .i64 a, .int .i64 b] w fun e w' => e = .returned (.int .i64 (ofC (a - b))) ∧ Touch [] w w' := by
  refine whole_two 4 a b _ w fun W => ?_
  have h := two_sub (ofC a) (ofC b) W
  rw [bits_of a ha, bits_of b hb, show floatBits .sub .f64 (floatOfInt .f64 a) (floatOfInt .f64 b) = some (floatOfInt .f64 (a - b)) from Fl.sub_flt a b ha hb hc] at h
  exact h
theorem whole_mul (a b : Int) (w : World) (ha : a.natAbs < 9007199254740992) (hb : b.natAbs < 9007199254740992) (hc : (a * b).natAbs < 9007199254740992) (a0 : a ≠ 0) (b0 : b ≠ 0) :
    Calls Tryd.prog 12 #[.int .i64 5, .int .i64 a, .int .i64 b] w fun e w' => e = .returned (.int .i64 (ofC (a * b))) ∧ Touch [] w w' := by
  refine whole_two 5 a b _ w fun W => ?_
  have h := two_mul (ofC a) (ofC b) W
  rw [bits_of a ha, bits_of b hb, show floatBits .mul .f64 (floatOfInt .f64 a) (floatOfInt .f64 b) = some (floatOfInt .f64 (a * b)) from Fl.mul_flt a b ha hb hc a0 b0] at h
  exact h
theorem whole_less (a b : Int) (w : World) (ha : a.natAbs < 9007199254740992) (hb : b.natAbs < 9007199254740992) :
    Calls Tryd.prog 12 #[.int .i64 9, .int .i64 a, .int .i64 b] w fun e w' => e = .returned (.int .i64 (truthC (decide (a < b)))) ∧ Touch [] w w' := by
  refine whole_two 9 a b _ w fun W => ?_
  have h := two_less (ofC a) (ofC b) W
  rw [bits_of a ha, bits_of b hb, Fl.order_flt a b ha hb] at h
  have e : (some (compare a b) == some Ordering.lt) = decide (a < b) := by
    rcases Int.lt_trichotomy a b with h1 | h1 | h1
    · rw [Int.compare_eq_lt.2 h1, decide_eq_true h1]; rfl
    · rw [h1, Int.compare_eq_eq.2 rfl, decide_eq_false (by omega)]; rfl
    · rw [Int.compare_eq_gt.2 h1, decide_eq_false (by omega)]; rfl
  rw [e] at h
  exact h.mono fun _ _ ⟨h1, h2⟩ => ⟨h1, h2 ▸ Touch.refl _ _⟩
theorem whole_equal (a b : Int) (w : World) (ha : a.natAbs < 9007199254740992) (hb : b.natAbs < 9007199254740992) :
    Calls Tryd.prog 12 #[.int .i64 10, .int .i64 a, .int .i64 b] w fun e w' => e = .returned (.int .i64 (truthC (decide (a = b)))) ∧ Touch [] w w' := by
  refine whole_two 10 a b _ w fun W => ?_
  have h := two_equal (ofC a) (ofC b) W
  rw [bits_of a ha, bits_of b hb, Fl.order_flt a b ha hb] at h
  have e : (some (compare a b) == some Ordering.eq) = decide (a = b) := by
    rcases Int.lt_trichotomy a b with h1 | h1 | h1
    · rw [Int.compare_eq_lt.2 h1, decide_eq_false (by omega)]; rfl
    · rw [h1, Int.compare_eq_eq.2 rfl, decide_eq_true rfl]; rfl
    · rw [Int.compare_eq_gt.2 h1, decide_eq_false (by omega)]; rfl
  rw [e] at h
  exact h.mono fun _ _ ⟨h1, h2⟩ => ⟨h1, h2 ▸ Touch.refl _ _⟩
/-- half of one: what it is, cut, and twice -/
theorem whole_half (a : Int) (ha : a.natAbs < 9007199254740992) : ∃ h : Int, (∀ w, Calls Tryd.prog 12 #[.int .i64 6, .int .i64 a, .int .i64 2] w fun e w' => e = .returned (.int .i64 h) ∧ Touch [] w w') ∧
    (∀ w, Calls Tryd.prog 15 #[.int .i64 h] w fun e w' => e = .returned (.tuple #[.int .i64 (Int.tdiv a 2), .int .i64 0]) ∧ w = w') ∧
    (∀ w, Calls Tryd.prog 10 #[.int .i64 3, .int .i64 h, .int .i64 h] w fun e w' => e = .returned (.tuple #[.int .i64 (ofC a), .int .i64 0]) ∧ Touch [] w w') := by
  obtain ⟨q, hq, h2, hd⟩ := Fl.half_flt a ha
  obtain ⟨x, hx⟩ : ∃ x, Ieee.double.word (decide (a < 0)) q = x := ⟨_, rfl⟩
  have hsx : Fl.sg x = decide (a < 0) := by rw [← hx]; exact Fl.sg_word _ _ (by omega)
  have hrx : Fl.rg x = q := by rw [← hx]; exact Fl.rg_word _ _ (by omega)
  have hfx : Fl.fin x := by rw [← hx]; exact Fl.fin_word _ hq
  have hlx : x < 18446744073709551616 := by
    rw [← hx]; unfold Ieee.Format.word; rw [Fl.c_sign]; split <;> omega
  have hnx : ¬ nanB x := by unfold nanB; unfold Fl.fin at hfx; omega
  have hbx : bitsOf (madeOf x) = x := bits_made x hlx hnx
  have ht := Fl.twice_half a ha hq h2
  rw [hx] at ht hd
  refine ⟨madeOf x, fun w => whole_two 6 a 2 _ w fun W => ?_, fun w => ?_, fun w => ?_⟩
  · have h := two_div (ofC a) (ofC 2) W
    rw [bits_of a ha, bits_of 2 (by decide), show floatOfInt .f64 2 = 4611686018427387904 by decide, show floatBits .quo .f64 (floatOfInt .f64 a) 4611686018427387904 = some x from hd] at h
    exact h
  · have h := to_fin (madeOf x) (by rw [hbx]; exact hfx) w
    rw [hbx] at h
    have e : cutOf x = Int.tdiv a 2 := by
      unfold cutOf
      rw [hrx, hsx, Fl.Iv_half h2]
      rcases Int.lt_or_le a 0 with h3 | h3
      · obtain ⟨n, rfl⟩ : ∃ n : Nat, a = -(n : Int) := ⟨a.natAbs, by omega⟩
        rw [decide_eq_true h3, if_pos rfl, Int.neg_tdiv, Int.natAbs_neg, Int.natAbs_natCast]
        rfl
      · obtain ⟨n, rfl⟩ : ∃ n : Nat, a = (n : Int) := ⟨a.toNat, by omega⟩
        rw [decide_eq_false (by omega), if_neg (by simp), Int.natAbs_natCast]
        rfl
    rw [e] at h
    have hb : -9223372036854775808 ≤ Int.tdiv a 2 ∧ Int.tdiv a 2 < 9223372036854775808 := by
      rw [← e]; unfold cutOf; rw [hrx, Fl.Iv_half h2]; split <;> omega
    rw [show toOf (Int.tdiv a 2) = .tuple #[.int .i64 (Int.tdiv a 2), .int .i64 0] by unfold toOf; rw [if_pos hb]] at h
    exact h
  · have h := two_add (madeOf x) (madeOf x) w
    rw [hbx, show floatBits .add .f64 x x = some (floatOfInt .f64 a) from ht] at h
    exact h

theorem lawTruth_any (b : Bool) (w : World) : Calls Tryd.prog 14 #[.bool b] w fun e w' => e = .returned (.int .i64 (truthC b)) ∧ w = w' := by
  cases b
  all_goals
    go_enter Tryd.func14, Tryd.ntmps14
    go_wp2
    go_ret
    exact ⟨rfl, rfl⟩

end Go.Proofs.YtibifcchmccknaaDoor
