import Derived.Test.YtkbchpaofmlhgaaGreatDoorJMapsA
import Derived.Test.YtkbchpaofmlhgaaGreatDoorJLiveA
import Derived.Test.YtkbchpaofmlhgaaGreatDoorJOpsA
import Derived.ProofKit
import Derived.Laws.Entries
import Derived.Laws.Bits64
import Derived.Deep.LoopGhost
/- The document's package for cells: Many, One. -/
namespace Go.Proofs.YtkbchpaofmlhgaaGreatDoor
open Go.RowKit

theorem RMany_any (op : Int) (w : World) : Calls Tryz.prog 26 #[.int .i64 op] w fun e w' => e = .returned (.int .i64 (manyF op)) ∧ w = w' := by
  have H := Lib.hid (rfl : manyF op = manyF op)
  generalize hn : manyF op = n at H ⊢
  have H2 := Lib.hid hn
  clear hn H
  go_enter Tryz.func26, Tryz.ntmps26
  go_wp2
  all_goals go_ret
  all_goals refine ⟨?_, rfl⟩
  all_goals have h := H2.out
  all_goals unfold manyF at h
  all_goals first | (rw [if_pos (by omega)] at h; subst h; rfl) | (rw [if_neg (by omega), if_pos (by omega)] at h; subst h; rfl) | (rw [if_neg (by omega), if_neg (by omega)] at h; subst h; rfl)
theorem RTruth_any (b : Bool) (w : World) : Calls Tryz.prog 50 #[.bool b] w fun e w' => e = .returned (.int .i64 (truthF b)) ∧ w = w' := by
  cases b
  all_goals go_enter Tryz.func50, Tryz.ntmps50
  all_goals go_wp2
  all_goals go_ret
  all_goals exact ⟨rfl, rfl⟩
theorem RHalf_any (a : Int) (ha : Cell6 a) (w : World) : Calls Tryz.prog 49 #[.int .i64 a] w fun e w' => e = .returned (.int .i64 (a / 2)) ∧ w = w' := by
  unfold Cell6 at ha
  obtain ⟨h, hh⟩ : ∃ h, a.tdiv 2 = h := ⟨_, rfl⟩
  obtain ⟨r, hr⟩ : ∃ r, a.tmod 2 = r := ⟨_, rfl⟩
  have e := Int.mul_tdiv_add_tmod a 2
  rw [hh, hr] at e
  have hr1 : r = 0 ∨ r = 1 ∨ r = -1 := by
    rw [← hr]
    have h1 := Int.tmod_lt_of_pos a (show (0 : Int) < 2 by decide)
    have h2 : -2 < a.tmod 2 := by
      have := Int.lt_tmod_of_pos a (show (0 : Int) < 2 by decide)
      omega
    omega
  have hs : (a < 0 → r ≤ 0) ∧ (0 ≤ a → 0 ≤ r) := ⟨fun h => by
    have h3 := Int.tmod_nonneg 2 (show 0 ≤ -a by omega)
    rw [Int.neg_tmod] at h3
    omega, fun h => by rw [← hr]; exact Int.tmod_nonneg _ h⟩
  have ew : IntKind.i64.wrap h = h := by rw [IntKind.wrap_i64]; omega
  have ew2 : IntKind.i64.wrap (h - 1) = h - 1 := by rw [IntKind.wrap_i64]; omega
  have eh : a / 2 = if a < 0 ∧ r ≠ 0 then h - 1 else h := by split <;> omega
  rw [eh]
  clear eh e
  by_cases h1 : a < 0
  · by_cases h2 : r = 0
    · subst h2
      rw [if_neg (by simp)]
      have hb : ((0 : Int) != 0) = false := rfl
      clear hs hr1
      go_enter Tryz.func49, Tryz.ntmps49
      go_wp2_with fail
      all_goals go_ret
      all_goals exact ⟨rfl, rfl⟩
    · rw [if_pos ⟨h1, h2⟩]
      have hb : (r != 0) = true := by simpa using h2
      clear hs hr1
      go_enter Tryz.func49, Tryz.ntmps49
      go_wp2_with fail
      all_goals go_ret
      all_goals exact ⟨rfl, rfl⟩
  · rw [if_neg (fun h => h1 h.1)]
    clear hs hr1
    go_enter Tryz.func49, Tryz.ntmps49
    go_wp2_with fail
    all_goals go_ret
    all_goals exact ⟨rfl, rfl⟩
theorem invert_same (a : Int) : bits .xor .i64 (-1) a = wrap64 (-1 - a) := by
  have key : (BitVec.ofInt 64 (-1) ^^^ BitVec.ofInt 64 a).toNat = 18446744073709551615 - (a % 18446744073709551616).toNat := by
    rw [show BitVec.ofInt 64 (-1) = BitVec.allOnes 64 from by decide, BitVec.allOnes_xor, BitVec.toNat_not, BitVec.toNat_ofInt]
    rfl
  show IntKind.i64.wrap ((BitVec.ofInt 64 (-1) ^^^ BitVec.ofInt 64 a).toNat : Nat) = _
  rw [key, IntKind.wrap_i64]
  unfold wrap64
  omega
theorem ROne_1 (a : Int) (w : World) : Calls Tryz.prog 25 #[.int .i64 1, .int .i64 a] w fun e w' => e = .returned (.tuple #[.int .i64 (wrap64 (-a)), .int .i64 0]) ∧ w = w' := by
  go_enter Tryz.func25, Tryz.ntmps25
  go_wp2_with fail
  all_goals go_ret2
  all_goals exact ⟨rfl, rfl⟩
theorem ROne_3 (a : Int) (w : World) : Calls Tryz.prog 25 #[.int .i64 3, .int .i64 a] w fun e w' => e = .returned (.tuple #[.int .i64 (wrap64 (-1 - a)), .int .i64 0]) ∧ w = w' := by
  go_enter Tryz.func25, Tryz.ntmps25
  go_wp2_with fail
  all_goals go_ret2
  all_goals exact ⟨rfl, rfl⟩
theorem ROne_4 (a : Int) (w : World) : Calls Tryz.prog 25 #[.int .i64 4, .int .i64 a] w fun e w' => e = .returned (.tuple #[.int .i64 (wrap64 (a + 1)), .int .i64 0]) ∧ w = w' := by
  go_enter Tryz.func25, Tryz.ntmps25
  go_wp2_with fail
  all_goals go_ret2
  all_goals exact ⟨rfl, rfl⟩
theorem ROne_5 (a : Int) (w : World) : Calls Tryz.prog 25 #[.int .i64 5, .int .i64 a] w fun e w' => e = .returned (.tuple #[.int .i64 (wrap64 (a - 1)), .int .i64 0]) ∧ w = w' := by
  go_enter Tryz.func25, Tryz.ntmps25
  go_wp2_with fail
  all_goals go_ret2
  all_goals exact ⟨rfl, rfl⟩
theorem ROne_6 (a : Int) (w : World) : Calls Tryz.prog 25 #[.int .i64 6, .int .i64 a] w fun e w' => e = .returned (.tuple #[.int .i64 (wrap64 (a + a)), .int .i64 0]) ∧ w = w' := by
  go_enter Tryz.func25, Tryz.ntmps25
  go_wp2_with fail
  all_goals go_ret2
  all_goals exact ⟨rfl, rfl⟩
theorem ROne_7 (a : Int) (ha : Cell6 a) (w : World) : Calls Tryz.prog 25 #[.int .i64 7, .int .i64 a] w fun e w' => e = .returned (.tuple #[.int .i64 (a / 2), .int .i64 0]) ∧ w = w' := by
  have hH := fun w => RHalf_any a ha w
  go_enter Tryz.func25, Tryz.ntmps25
  go_wp2_with fail
  refine (hH _).mono ?_
  rintro _ _ ⟨rfl, rfl⟩
  go_wp2_with fail
  all_goals go_ret2
  all_goals exact ⟨rfl, rfl⟩
theorem ROne_8 (a : Int) (w : World) : Calls Tryz.prog 25 #[.int .i64 8, .int .i64 a] w fun e w' => e = .returned (.tuple #[.int .i64 (truthF (decide (a = 0))), .int .i64 0]) ∧ w = w' := by
  have hT := fun b w => RTruth_any b w
  go_enter Tryz.func25, Tryz.ntmps25
  go_wp2_with fail
  refine (hT _ _).mono ?_
  rintro _ _ ⟨rfl, rfl⟩
  go_wp2_with fail
  all_goals go_ret2
  all_goals exact ⟨rfl, rfl⟩
theorem ROne_9 (a : Int) (w : World) : Calls Tryz.prog 25 #[.int .i64 9, .int .i64 a] w fun e w' => e = .returned (.tuple #[.int .i64 (truthF (decide (a < 0))), .int .i64 0]) ∧ w = w' := by
  have hT := fun b w => RTruth_any b w
  go_enter Tryz.func25, Tryz.ntmps25
  go_wp2_with fail
  refine (hT _ _).mono ?_
  rintro _ _ ⟨rfl, rfl⟩
  go_wp2_with fail
  all_goals go_ret2
  all_goals exact ⟨rfl, rfl⟩
theorem ROne_10 (a : Int) (w : World) : Calls Tryz.prog 25 #[.int .i64 10, .int .i64 a] w fun e w' => e = .returned (.tuple #[.int .i64 (truthF (!decide (a = 0))), .int .i64 0]) ∧ w = w' := by
  have hT := fun b w => RTruth_any b w
  go_enter Tryz.func25, Tryz.ntmps25
  go_wp2_with fail
  refine (hT _ _).mono ?_
  rintro _ _ ⟨rfl, rfl⟩
  go_wp2_with fail
  all_goals go_ret2
  all_goals exact ⟨rfl, rfl⟩
theorem ROne_2 (a : Int) (w : World) : Calls Tryz.prog 25 #[.int .i64 2, .int .i64 a] w fun e w' => e = .returned (.tuple #[.int .i64 (if a < 0 then wrap64 (-a) else a), .int .i64 0]) ∧ w = w' := by
  by_cases hn : a < 0
  · rw [if_pos hn]
    go_enter Tryz.func25, Tryz.ntmps25
    go_wp2_with fail
    go_ret2
    exact ⟨rfl, rfl⟩
  · rw [if_neg hn]
    go_enter Tryz.func25, Tryz.ntmps25
    go_wp2_with fail
    go_ret2
    exact ⟨rfl, rfl⟩
theorem ROne_any (op a : Int) (h : 1 ≤ op ∧ op ≤ 10) (ha : Cell6 a) (w : World) : Calls Tryz.prog 25 #[.int .i64 op, .int .i64 a] w fun e w' => e = .returned (.tuple #[.int .i64 (oneF op a).1, .int .i64 (oneF op a).2]) ∧ w = w' := by
  have hk : op = 1 ∨ op = 2 ∨ op = 3 ∨ op = 4 ∨ op = 5 ∨ op = 6 ∨ op = 7 ∨ op = 8 ∨ op = 9 ∨ op = 10 := by omega
  rcases hk with rfl | rfl | rfl | rfl | rfl | rfl | rfl | rfl | rfl | rfl
  · exact ROne_1 a w
  · exact ROne_2 a w
  · rw [show oneF 3 a = (bits .xor .i64 (-1) a, 0) from rfl, invert_same]
    exact ROne_3 a w
  · exact ROne_4 a w
  · exact ROne_5 a w
  · rw [show oneF 6 a = (wrap64 (a * 2), 0) from rfl, show a * 2 = a + a by omega]
    exact ROne_6 a w
  · exact ROne_7 a ha w
  · exact ROne_8 a w
  · exact ROne_9 a w
  · exact ROne_10 a w
end Go.Proofs.YtkbchpaofmlhgaaGreatDoor

/- rhytonref01.One at what is done to two: refused. -/
namespace Go.Proofs.YtkbchpaofmlhgaaGreatDoor
open Go.RowKit

set_option maxHeartbeats 1600000 in
theorem ROne_out (op a : Int) (h : 11 ≤ op) (w : World) : Calls Tryz.prog 25 #[.int .i64 op, .int .i64 a] w fun e w' => e = .returned (.tuple #[.int .i64 0, .int .i64 1]) ∧ w = w' := by
  have e1 : (op == 1) = false := by rw [beq_eq_false_iff_ne]; omega
  have e2 : (op == 2) = false := by rw [beq_eq_false_iff_ne]; omega
  have e3 : (op == 3) = false := by rw [beq_eq_false_iff_ne]; omega
  have e4 : (op == 4) = false := by rw [beq_eq_false_iff_ne]; omega
  have e5 : (op == 5) = false := by rw [beq_eq_false_iff_ne]; omega
  have e6 : (op == 6) = false := by rw [beq_eq_false_iff_ne]; omega
  have e7 : (op == 7) = false := by rw [beq_eq_false_iff_ne]; omega
  have e8 : (op == 8) = false := by rw [beq_eq_false_iff_ne]; omega
  have e9 : (op == 9) = false := by rw [beq_eq_false_iff_ne]; omega
  have e10 : (op == 10) = false := by rw [beq_eq_false_iff_ne]; omega
  clear h
  go_enter Tryz.func25, Tryz.ntmps25
  go_wp2_with fail
  go_ret2
  exact ⟨rfl, rfl⟩
/-- what the document tells of one, at any number -/
def one1 (k a : Int) : Int × Int := if k ≤ 10 then oneF k a else (0, 1)
theorem ROne_all (op a : Int) (h : 1 ≤ op) (ha : Cell6 a) (w : World) : Calls Tryz.prog 25 #[.int .i64 op, .int .i64 a] w fun e w' => e = .returned (.tuple #[.int .i64 (one1 op a).1, .int .i64 (one1 op a).2]) ∧ w = w' := by
  unfold one1
  by_cases h1 : op ≤ 10
  · rw [if_pos h1]
    exact ROne_any op a ⟨h, h1⟩ ha w
  · rw [if_neg h1]
    exact ROne_out op a (by omega) w
end Go.Proofs.YtkbchpaofmlhgaaGreatDoor

/- The document's comparisons of cells. -/
namespace Go.Proofs.YtkbchpaofmlhgaaGreatDoor
open Go.RowKit

theorem RCmp_21 (a b : Int) (w : World) : Calls Tryz.prog 54 #[.int .i64 21, .int .i64 a, .int .i64 b] w fun e w' => e = .returned (.int .i64 (truthF (decide (a = b)))) ∧ w = w' := by
  have hT := fun b w => RTruth_any b w
  go_enter Tryz.func54, Tryz.ntmps54
  go_wp2_with fail
  refine (hT _ _).mono ?_
  rintro _ _ ⟨rfl, rfl⟩
  go_wp2_with fail
  go_ret
  exact ⟨rfl, rfl⟩
theorem RCmp_22 (a b : Int) (w : World) : Calls Tryz.prog 54 #[.int .i64 22, .int .i64 a, .int .i64 b] w fun e w' => e = .returned (.int .i64 (truthF (!decide (a = b)))) ∧ w = w' := by
  have hT := fun b w => RTruth_any b w
  go_enter Tryz.func54, Tryz.ntmps54
  go_wp2_with fail
  refine (hT _ _).mono ?_
  rintro _ _ ⟨rfl, rfl⟩
  go_wp2_with fail
  go_ret
  exact ⟨rfl, rfl⟩
theorem RCmp_23 (a b : Int) (w : World) : Calls Tryz.prog 54 #[.int .i64 23, .int .i64 a, .int .i64 b] w fun e w' => e = .returned (.int .i64 (truthF (decide (a < b)))) ∧ w = w' := by
  have hT := fun b w => RTruth_any b w
  go_enter Tryz.func54, Tryz.ntmps54
  go_wp2_with fail
  refine (hT _ _).mono ?_
  rintro _ _ ⟨rfl, rfl⟩
  go_wp2_with fail
  go_ret
  exact ⟨rfl, rfl⟩
theorem RCmp_24 (a b : Int) (w : World) : Calls Tryz.prog 54 #[.int .i64 24, .int .i64 a, .int .i64 b] w fun e w' => e = .returned (.int .i64 (truthF (decide (b < a)))) ∧ w = w' := by
  have hT := fun b w => RTruth_any b w
  go_enter Tryz.func54, Tryz.ntmps54
  go_wp2_with fail
  refine (hT _ _).mono ?_
  rintro _ _ ⟨rfl, rfl⟩
  go_wp2_with fail
  go_ret
  exact ⟨rfl, rfl⟩
theorem RCmp_26 (a b : Int) (w : World) : Calls Tryz.prog 54 #[.int .i64 26, .int .i64 a, .int .i64 b] w fun e w' => e = .returned (.int .i64 (if a < b then a else b)) ∧ w = w' := by
  by_cases h : a < b
  · rw [if_pos h]
    go_enter Tryz.func54, Tryz.ntmps54
    go_wp2_with fail
    go_ret
    exact ⟨rfl, rfl⟩
  · rw [if_neg h]
    go_enter Tryz.func54, Tryz.ntmps54
    go_wp2_with fail
    go_ret
    exact ⟨rfl, rfl⟩
theorem RCmp_27 (a b : Int) (w : World) : Calls Tryz.prog 54 #[.int .i64 27, .int .i64 a, .int .i64 b] w fun e w' => e = .returned (.int .i64 (if a < b then b else a)) ∧ w = w' := by
  by_cases h : a < b
  · rw [if_pos h]
    go_enter Tryz.func54, Tryz.ntmps54
    go_wp2_with fail
    go_ret
    exact ⟨rfl, rfl⟩
  · rw [if_neg h]
    go_enter Tryz.func54, Tryz.ntmps54
    go_wp2_with fail
    go_ret
    exact ⟨rfl, rfl⟩
end Go.Proofs.YtkbchpaofmlhgaaGreatDoor

/- The document's sums, differences and products of cells; its comparison without signs. -/
namespace Go.Proofs.YtkbchpaofmlhgaaGreatDoor
open Go.RowKit

theorem RCmp_25 (a b : Int) (ha : Cell6 a) (hb : Cell6 b) (w : World) : Calls Tryz.prog 54 #[.int .i64 25, .int .i64 a, .int .i64 b] w fun e w' => e = .returned (.int .i64 (truthF (decide (IntKind.u64.wrap a < IntKind.u64.wrap b)))) ∧ w = w' := by
  have hT := fun b w => RTruth_any b w
  have key : decide (IntKind.u64.wrap a < IntKind.u64.wrap b) = if decide (a < 0) != decide (b < 0) then decide (b < 0) else decide (a < b) := by
    unfold Cell6 at ha hb
    rw [IntKind.wrap_u64, IntKind.wrap_u64]
    by_cases h1 : a < 0 <;> by_cases h2 : b < 0 <;> simp [h1, h2] <;> omega
  rw [key]
  clear key ha hb
  by_cases h1 : a < 0
  all_goals by_cases h2 : b < 0
  all_goals simp only [h1, h2, decide_true, decide_false, bne_self_eq_false, Bool.true_bne, Bool.false_bne, Bool.not_false, if_true, Bool.false_eq_true, if_false]
  all_goals go_enter Tryz.func54, Tryz.ntmps54
  all_goals go_wp2_with fail
  all_goals refine (hT _ _).mono ?_
  all_goals rintro _ _ ⟨rfl, rfl⟩
  all_goals go_wp2_with fail
  all_goals go_ret
  all_goals exact ⟨rfl, rfl⟩
theorem RTwo_11 (a b : Int) (w : World) : Calls Tryz.prog 27 #[.int .i64 11, .int .i64 a, .int .i64 b] w fun e w' => e = .returned (.tuple #[.int .i64 (wrap64 (a + b)), .int .i64 0]) ∧ w = w' := by
  have hM := fun w => RMany_any 11 w
  rw [show manyF 11 = 2 from rfl] at hM
  go_enter Tryz.func27, Tryz.ntmps27
  go_wp2_with fail
  refine (hM _).mono ?_
  rintro _ _ ⟨rfl, rfl⟩
  go_wp2_with fail
  go_ret2
  exact ⟨rfl, rfl⟩
theorem RTwo_12 (a b : Int) (w : World) : Calls Tryz.prog 27 #[.int .i64 12, .int .i64 a, .int .i64 b] w fun e w' => e = .returned (.tuple #[.int .i64 (wrap64 (a - b)), .int .i64 0]) ∧ w = w' := by
  have hM := fun w => RMany_any 12 w
  rw [show manyF 12 = 2 from rfl] at hM
  go_enter Tryz.func27, Tryz.ntmps27
  go_wp2_with fail
  refine (hM _).mono ?_
  rintro _ _ ⟨rfl, rfl⟩
  go_wp2_with fail
  go_ret2
  exact ⟨rfl, rfl⟩
theorem RTwo_13 (a b : Int) (w : World) : Calls Tryz.prog 27 #[.int .i64 13, .int .i64 a, .int .i64 b] w fun e w' => e = .returned (.tuple #[.int .i64 (wrap64 (a * b)), .int .i64 0]) ∧ w = w' := by
  have hM := fun w => RMany_any 13 w
  rw [show manyF 13 = 2 from rfl] at hM
  go_enter Tryz.func27, Tryz.ntmps27
  go_wp2_with fail
  refine (hM _).mono ?_
  rintro _ _ ⟨rfl, rfl⟩
  go_wp2_with fail
  go_ret2
  exact ⟨rfl, rfl⟩
end Go.Proofs.YtkbchpaofmlhgaaGreatDoor

/- Bits of two numbers, bit by bit; bits moved; quotients rounded down: plain. -/
namespace Go.Proofs.YtkbchpaofmlhgaaGreatDoor
open Go.RowKit
namespace R1

def bitG (one both : Bool) (x y : Nat) : Nat := if (x % 2 + y % 2 = 1 ∧ one = true) ∨ (x % 2 + y % 2 = 2 ∧ both = true) then 1 else 0
theorem bitG_le (one both : Bool) (x y : Nat) : bitG one both x y ≤ 1 := by unfold bitG; split <;> omega
def outG (one both : Bool) (X Y : Nat) : Nat → Nat
  | 0 => 0
  | i + 1 => outG one both X Y i + bitG one both (X / 2 ^ i) (Y / 2 ^ i) * 2 ^ i
theorem outG_lt (one both : Bool) (X Y : Nat) : ∀ i, outG one both X Y i < 2 ^ i
  | 0 => Nat.zero_lt_one
  | i + 1 => by
    have h := outG_lt one both X Y i
    have h1 : bitG one both (X / 2 ^ i) (Y / 2 ^ i) * 2 ^ i ≤ 1 * 2 ^ i := Nat.mul_le_mul_right _ (bitG_le _ _ _ _)
    unfold outG
    rw [Nat.pow_succ]
    omega
theorem outG_mod (one both : Bool) (X Y Z : Nat) (h : ∀ i, Z / 2 ^ i % 2 = bitG one both (X / 2 ^ i) (Y / 2 ^ i)) : ∀ i, outG one both X Y i = Z % 2 ^ i
  | 0 => by rw [Nat.pow_zero, Nat.mod_one]; rfl
  | i + 1 => by
    unfold outG
    rw [outG_mod one both X Y Z h i, ← h i, Nat.mod_pow_succ, Nat.mul_comm]
theorem bit_dec (X i : Nat) : X / 2 ^ i % 2 = (X.testBit i).toNat := by
  rw [Nat.testBit_eq_decide_div_mod_eq]
  by_cases h : X / 2 ^ i % 2 = 1
  · rw [decide_eq_true h]; exact h
  · rw [decide_eq_false h]; show _ = 0; omega
theorem out_and (X Y : Nat) (hX : X < 2 ^ 64) : outG false true X Y 64 = X &&& Y := by
  rw [outG_mod false true X Y (X &&& Y) (fun i => ?_) 64]
  · exact Nat.mod_eq_of_lt (Nat.lt_of_le_of_lt Nat.and_le_left hX)
  · unfold bitG
    rw [bit_dec, bit_dec X, bit_dec Y, Nat.testBit_and]
    cases X.testBit i <;> cases Y.testBit i <;> rfl
theorem out_or (X Y : Nat) (hX : X < 2 ^ 64) (hY : Y < 2 ^ 64) : outG true true X Y 64 = X ||| Y := by
  rw [outG_mod true true X Y (X ||| Y) (fun i => ?_) 64]
  · exact Nat.mod_eq_of_lt (Nat.or_lt_two_pow hX hY)
  · unfold bitG
    rw [bit_dec, bit_dec X, bit_dec Y, Nat.testBit_or]
    cases X.testBit i <;> cases Y.testBit i <;> rfl
theorem out_xor (X Y : Nat) (hX : X < 2 ^ 64) (hY : Y < 2 ^ 64) : outG true false X Y 64 = X ^^^ Y := by
  rw [outG_mod true false X Y (X ^^^ Y) (fun i => ?_) 64]
  · exact Nat.mod_eq_of_lt (Nat.xor_lt_two_pow hX hY)
  · unfold bitG
    rw [bit_dec, bit_dec X, bit_dec Y, Nat.testBit_xor]
    cases X.testBit i <;> cases Y.testBit i <;> rfl
def nat64 (a : Int) : Nat := (a % 18446744073709551616).toNat
theorem nat64_lt (a : Int) : nat64 a < 18446744073709551616 := by unfold nat64; omega
theorem nat64_wrap (a : Int) : IntKind.u64.wrap a = (nat64 a : Int) := by rw [IntKind.wrap_u64]; unfold nat64; omega
theorem ofInt_nat (a : Int) : (BitVec.ofInt 64 a).toNat = nat64 a := by
  rw [BitVec.toNat_ofInt]
  unfold nat64
  rfl
theorem bits_and (a b : Int) : bits .and .i64 a b = IntKind.i64.wrap ((outG false true (nat64 a) (nat64 b) 64 : Nat) : Int) := by
  rw [out_and _ _ (nat64_lt a), ← ofInt_nat a, ← ofInt_nat b, ← BitVec.toNat_and]; rfl
theorem bits_or (a b : Int) : bits .or .i64 a b = IntKind.i64.wrap ((outG true true (nat64 a) (nat64 b) 64 : Nat) : Int) := by
  rw [out_or _ _ (nat64_lt a) (nat64_lt b), ← ofInt_nat a, ← ofInt_nat b, ← BitVec.toNat_or]; rfl
theorem bits_xor (a b : Int) : bits .xor .i64 a b = IntKind.i64.wrap ((outG true false (nat64 a) (nat64 b) 64 : Nat) : Int) := by
  rw [out_xor _ _ (nat64_lt a) (nat64_lt b), ← ofInt_nat a, ← ofInt_nat b, ← BitVec.toNat_xor]; rfl
/-- the sign of the bits that differ -/
theorem xor_sign (a b : Int) (ha0 : -9223372036854775808 ≤ a) (ha : a ≤ 9223372036854775807) (hb0 : -9223372036854775808 ≤ b) (hb : b ≤ 9223372036854775807) : 0 ≤ bits .xor .i64 a b ↔ (a < 0 ↔ b < 0) := by
  rw [bits_xor]
  have hlt := outG_lt true false (nat64 a) (nat64 b) 63
  have hbit : bitG true false (nat64 a / 2 ^ 63) (nat64 b / 2 ^ 63) = if (a < 0 ↔ b < 0) then 0 else 1 := by
    have e : (2 : Nat) ^ 63 = 9223372036854775808 := by decide
    rw [e]
    unfold bitG nat64
    by_cases h1 : a < 0 <;> by_cases h2 : b < 0
    · rw [if_pos (by simp [h1, h2] : a < 0 ↔ b < 0), if_neg (by simp; omega)]
    · rw [if_neg (by simp [h1, h2] : ¬ (a < 0 ↔ b < 0)), if_pos (by simp; omega)]
    · rw [if_neg (by simp [h1, h2] : ¬ (a < 0 ↔ b < 0)), if_pos (by simp; omega)]
    · rw [if_pos (by simp [h1, h2] : a < 0 ↔ b < 0), if_neg (by simp; omega)]
  have hs : outG true false (nat64 a) (nat64 b) 64 = outG true false (nat64 a) (nat64 b) 63 + bitG true false (nat64 a / 2 ^ 63) (nat64 b / 2 ^ 63) * 2 ^ 63 := rfl
  have e : (2 : Nat) ^ 63 = 9223372036854775808 := by decide
  rw [hbit, e] at hs
  rw [e] at hlt
  rw [IntKind.wrap_i64]
  by_cases h : (a < 0 ↔ b < 0)
  · rw [if_pos h] at hs
    refine ⟨fun _ => h, fun _ => by omega⟩
  · rw [if_neg h] at hs
    refine ⟨fun _ => by omega, fun g => absurd g h⟩
/-- a quotient, rounded down, and what is left -/
theorem divided_plain (a b : Int) (hb : b ≠ 0) (hb1 : b ≠ -1) (ha0 : -9223372036854775808 ≤ a) (ha : a ≤ 9223372036854775807) (hb0 : -9223372036854775808 ≤ b) (hb9 : b ≤ 9223372036854775807) :
    IntKind.i64.wrap (a.tdiv b) = a.tdiv b ∧ IntKind.i64.wrap (a - IntKind.i64.wrap (a.tdiv b * b)) = a.tmod b := by
  have h1 := Int.mul_tdiv_add_tmod a b
  have h3 : -9223372036854775808 ≤ a.tdiv b ∧ a.tdiv b ≤ 9223372036854775807 := by
    by_cases hb2 : b = 1
    · subst hb2
      rw [Int.tdiv_one]
      exact ⟨ha0, ha⟩
    · have h2 : (a.tdiv b).natAbs ≤ 9223372036854775808 / 2 := by
        rw [Int.natAbs_tdiv]
        exact Nat.le_trans (Nat.div_le_div_left (show 2 ≤ b.natAbs by omega) (by decide)) (Nat.div_le_div_right (by omega))
      omega
  have h4 : (a.tmod b).natAbs < b.natAbs := by rw [Int.natAbs_tmod]; exact Nat.mod_lt _ (by omega)
  have hc : b * a.tdiv b = a.tdiv b * b := Int.mul_comm _ _
  generalize a.tdiv b * b = m at *
  refine ⟨by rw [IntKind.wrap_i64]; omega, ?_⟩
  rw [IntKind.wrap_i64, IntKind.wrap_i64]
  omega
theorem up_step (X i : Nat) : X * 2 ^ i % 18446744073709551616 * 2 % 18446744073709551616 = X * 2 ^ (i + 1) % 18446744073709551616 := by
  rw [Nat.pow_succ, ← Nat.mul_assoc]
  omega
theorem down_step (X i : Nat) : X / 2 ^ i / 2 = X / 2 ^ (i + 1) := by rw [Nat.pow_succ, Nat.div_div_eq_div_mul]
theorem up_last (a : Int) (k : Nat) : IntKind.i64.wrap ((nat64 a * 2 ^ k % 18446744073709551616 : Nat) : Int) = wrap64 (a * 2 ^ k) := by
  obtain ⟨c, hc⟩ : ∃ c : Int, (nat64 a : Int) = a + 18446744073709551616 * c := ⟨-(a / 18446744073709551616), by unfold nat64; omega⟩
  have h : ((nat64 a * 2 ^ k : Nat) : Int) = a * 2 ^ k + 18446744073709551616 * (c * 2 ^ k) := by
    rw [Int.natCast_mul, hc, Int.add_mul, Int.mul_assoc]
    simp
  rw [IntKind.wrap_i64]
  unfold wrap64
  generalize nat64 a * 2 ^ k = A at *
  generalize a * 2 ^ k = B at *
  generalize c * 2 ^ k = C at *
  omega
theorem down_last (a : Int) (k : Nat) : IntKind.i64.wrap ((nat64 a / 2 ^ k : Nat) : Int) = wrap64 (IntKind.u64.wrap a / 2 ^ k) := by
  rw [nat64_wrap, show ((nat64 a : Int) / 2 ^ k) = ((nat64 a / 2 ^ k : Nat) : Int) by simp]
  generalize nat64 a / 2 ^ k = A
  rw [IntKind.wrap_i64]
  unfold wrap64
  omega
theorem min_nat (b : Int) : min (IntKind.u64.wrap b).toNat 64 = min (nat64 b) 64 := by rw [nat64_wrap]; rfl
theorem bit_step (X Y i : Nat) (one both : Bool) : outG one both X Y (i + 1) = outG one both X Y i + bitG one both (X / 2 ^ i) (Y / 2 ^ i) * 2 ^ i := rfl
end R1
end Go.Proofs.YtkbchpaofmlhgaaGreatDoor

/- rhytonref01's bits, moved, divided: walked. -/
namespace Go.Proofs.YtkbchpaofmlhgaaGreatDoor
open Go.RowKit
namespace R1

theorem w64 (x : Int) : IntKind.i64.wrap x = wrap64 x := by rw [IntKind.wrap_i64]; unfold wrap64; omega
theorem pow_cast (i : Nat) : ((2 ^ i : Nat) : Int) = (2 : Int) ^ i := by simp
theorem natI (n : Int) (h : 0 ≤ n) : ∃ m : Nat, n = m := ⟨n.toNat, by omega⟩
theorem bit_round (x y o : Int) (X Y i : Nat) (one both : Bool) (hi : i < 64) (h : x = ((X / 2 ^ i : Nat) : Int) ∧ y = ((Y / 2 ^ i : Nat) : Int) ∧ o = ((outG one both X Y i : Nat) : Int)) (bt : Nat) (hb : bitG one both x.toNat y.toNat = bt) :
    x / 2 = ((X / 2 ^ (i + 1) : Nat) : Int) ∧ y / 2 = ((Y / 2 ^ (i + 1) : Nat) : Int) ∧ o + bt * 2 ^ i = ((outG one both X Y (i + 1) : Nat) : Int) ∧ o + bt * 2 ^ i < 18446744073709551616 ∧ (2 : Int) ^ i < 18446744073709551616 ∧ 0 ≤ (2 : Int) ^ i := by
  obtain ⟨rfl, rfl, rfl⟩ := h
  have hlt := outG_lt one both X Y (i + 1)
  have hp : (2 : Nat) ^ (i + 1) ≤ 2 ^ 64 := Nat.pow_le_pow_right (by decide) (by omega)
  have h64 : (2 : Nat) ^ 64 = 18446744073709551616 := by decide
  have hp1 : (2 : Nat) ^ (i + 1) = 2 ^ i * 2 := Nat.pow_succ ..
  have hs := bit_step X Y i one both
  rw [Int.toNat_natCast, Int.toNat_natCast] at hb
  rw [hb] at hs
  have hc : ((bt * 2 ^ i : Nat) : Int) = bt * 2 ^ i := by rw [Int.natCast_mul, pow_cast]
  rw [← down_step, ← down_step, hs, ← hc, ← pow_cast]
  generalize bt * 2 ^ i = B at *
  generalize (2 : Nat) ^ i = P at *
  refine ⟨by omega, by omega, by omega, by omega, by omega, by omega⟩
theorem half_wrap (x : Int) (h0 : 0 ≤ x) (h1 : x < 18446744073709551616) : IntKind.u64.wrap (x.tdiv 2) = x / 2 := by
  rw [Int.tdiv_eq_ediv_of_nonneg h0, IntKind.wrap_u64]; omega
def BitAt (X Y : Nat) (one both : Bool) (i : Nat) (x y o : Int) : Prop := x = ((X / 2 ^ i : Nat) : Int) ∧ y = ((Y / 2 ^ i : Nat) : Int) ∧ o = ((outG one both X Y i : Nat) : Int)
theorem BitAt.rel0 {X Y i : Nat} {one both : Bool} {x y o : Int} (h : BitAt X Y one both i x y o) (hi : i < 64) (x0 : 0 ≤ x) (x1 : x < 18446744073709551616) (y0 : 0 ≤ y) (y1 : y < 18446744073709551616) (bx by_ : Nat) (hx : x % 2 = bx) (hy : y % 2 = by_) (hb : bitG one both bx by_ = 0) :
    BitAt X Y one both (i + 1) (IntKind.u64.wrap (x.tdiv 2)) (IntKind.u64.wrap (y.tdiv 2)) o := by
  have hg : bitG one both x.toNat y.toNat = 0 := by
    rw [← hb]; unfold bitG
    rw [show x.toNat % 2 = bx % 2 by omega, show y.toNat % 2 = by_ % 2 by omega]
  obtain ⟨h1, h2, h3, _, _, _⟩ := bit_round x y o X Y i one both hi h 0 hg
  exact ⟨by rw [half_wrap x x0 x1]; exact h1, by rw [half_wrap y y0 y1]; exact h2, by rw [← h3]; simp⟩
theorem BitAt.rel1 {X Y i : Nat} {one both : Bool} {x y o p : Int} (h : BitAt X Y one both i x y o) (hi : i < 64) (x0 : 0 ≤ x) (x1 : x < 18446744073709551616) (y0 : 0 ≤ y) (y1 : y < 18446744073709551616) (bx by_ : Nat) (hx : x % 2 = bx) (hy : y % 2 = by_) (hb : bitG one both bx by_ = 1) (hp : (2 : Int) ^ i = p) :
    BitAt X Y one both (i + 1) (IntKind.u64.wrap (x.tdiv 2)) (IntKind.u64.wrap (y.tdiv 2)) (IntKind.u64.wrap (o + p)) := by
  have hg : bitG one both x.toNat y.toNat = 1 := by
    rw [← hb]; unfold bitG
    rw [show x.toNat % 2 = bx % 2 by omega, show y.toNat % 2 = by_ % 2 by omega]
  obtain ⟨h1, h2, h3, h4, _, h5⟩ := bit_round x y o X Y i one both hi h 1 hg
  have ho : 0 ≤ o := by have := h.2.2; omega
  refine ⟨by rw [half_wrap x x0 x1]; exact h1, by rw [half_wrap y y0 y1]; exact h2, ?_⟩
  rw [hp] at h3 h4 h5
  rw [← h3, IntKind.wrap_u64]
  simp only [Int.natCast_one, Int.one_mul] at h4 ⊢
  omega
theorem BitAt.less {X Y i : Nat} {one both : Bool} {x y o : Int} (h : BitAt X Y one both i x y o) (hX : X < 18446744073709551616) (hY : Y < 18446744073709551616) : (0 ≤ x ∧ x < 18446744073709551616) ∧ 0 ≤ y ∧ y < 18446744073709551616 := by
  obtain ⟨rfl, rfl, _⟩ := h
  have h1 := Nat.div_le_self X (2 ^ i)
  have h2 := Nat.div_le_self Y (2 ^ i)
  generalize X / 2 ^ i = A at *
  generalize Y / 2 ^ i = B at *
  omega

set_option maxRecDepth 100000 in
set_option maxHeartbeats 3200000 in
theorem bitsR_any (one both : Bool) (a b : Int) (w : World) : Calls Tryz.prog 52 #[.int .i64 a, .int .i64 b, .bool one, .bool both] w fun e w' => e = .returned (.int .i64 (IntKind.i64.wrap ((outG one both (nat64 a) (nat64 b) 64 : Nat) : Int))) ∧ w = w' := by
  obtain ⟨r, hr⟩ : ∃ r, IntKind.i64.wrap ((outG one both (nat64 a) (nat64 b) 64 : Nat) : Int) = r := ⟨_, rfl⟩
  rw [hr]
  have ea := nat64_wrap a
  have eb := nat64_wrap b
  have la := nat64_lt a
  have lb := nat64_lt b
  generalize nat64 a = X at *
  generalize nat64 b = Y at *
  go_enter Tryz.func52, Tryz.ntmps52
  go_wp2_with (simp only [ea, eb])
  clear ea eb
  have HR := Lib.hid hr
  clear hr
  go_loopg [9, 10, 11, 12, 13] 65 (fun gf s9 s10 s11 s12 s13 wr => ∃ (i : Nat) (x y o : Int), wr = w ∧ s9 = .int .u64 x ∧ s10 = .int .u64 y ∧ s11 = .int .u64 o ∧ s12 = .int .i64 i ∧ i ≤ 64 ∧ gf + i = 65 ∧ Hid (BitAt X Y one both i x y o))
  case atStart => exact ⟨0, X, Y, 0, rfl, rfl, rfl, rfl, rfl, by omega, by omega, Lib.hid ⟨by simp, by simp, rfl⟩⟩
  case round =>
    obtain ⟨i, x, y, o, rfl, rfl, rfl, rfl, rfl, hi, hg, HX⟩ := hrel
    have HL := Lib.hid (And.intro la lb)
    have x0 := (HX.out.less la lb).1.1
    have y0 := (HX.out.less la lb).2.1
    by_cases hlt : i < 64
    · have h1 : (i : Int) < 64 := by omega
      have ek : IntKind.i64.wrap ((i : Int) + 1) = ((i + 1 : Nat) : Int) := by rw [IntKind.wrap_i64]; omega
      have hi0 : 0 ≤ (i : Int) := by omega
      have hi64 : (i : Int) ≤ 64 := by omega
      have HJ := Lib.hid (And.intro hlt hg)
      have p2 := (bit_round x y o X Y i one both hlt HX.out _ rfl).2.2.2.2.1
      have p3 := (bit_round x y o X Y i one both hlt HX.out _ rfl).2.2.2.2.2
      obtain ⟨p, hp⟩ : ∃ p : Int, (2 : Int) ^ i = p := ⟨_, rfl⟩
      have wp : IntKind.u64.wrap p = p := by rw [IntKind.wrap_u64]; omega
      have HP := Lib.hid hp
      rw [hp] at p2 p3
      have hx2 : x % 2 = 0 ∨ x % 2 = 1 := by omega
      have hy2 : y % 2 = 0 ∨ y % 2 = 1 := by omega
      clear hlt hg hi la lb
      rcases hx2 with hx2 | hx2 <;> rcases hy2 with hy2 | hy2 <;> cases one <;> cases both
      all_goals
        go_wp2_with fail
        go_roundg (gk - 1)
        case measure => have := HJ.out; omega
        case rel =>
          refine ⟨i + 1, _, _, _, rfl, rfl, rfl, rfl, vint (by omega), by have := HJ.out; omega, by have := HJ.out; omega, ?_⟩
          have hl := HX.out.less HL.out.1 HL.out.2
          first
            | exact Lib.hid (HX.out.rel0 HJ.out.1 hl.1.1 hl.1.2 hl.2.1 hl.2.2 _ _ hx2 hy2 (by decide))
            | exact Lib.hid (HX.out.rel1 HJ.out.1 hl.1.1 hl.1.2 hl.2.1 hl.2.2 _ _ hx2 hy2 (by decide) HP.out)
    · have h1 : ¬ (i : Int) < 64 := by omega
      obtain rfl : i = 64 := by omega
      clear la lb x0 y0 hlt hg hi
      go_wp2_with fail
      go_ret
      exact ⟨by rw [← HR.out, HX.out.2.2, w64]; rfl, rfl⟩

set_option maxRecDepth 100000 in
set_option maxHeartbeats 3200000 in
theorem movedR_up (a b : Int) (w : World) : Calls Tryz.prog 53 #[.int .i64 a, .int .i64 b, .bool true] w fun e w' => e = .returned (.int .i64 (wrap64 (a * 2 ^ min (nat64 b) 64))) ∧ w = w' := by
  obtain ⟨r, hr⟩ : ∃ r, wrap64 (a * 2 ^ min (nat64 b) 64) = r := ⟨_, rfl⟩
  rw [hr]
  rw [← up_last] at hr
  have ea := nat64_wrap a
  have eb := nat64_wrap b
  have la := nat64_lt a
  generalize nat64 a = X at *
  generalize nat64 b = n at *
  go_enter Tryz.func53, Tryz.ntmps53
  go_wp2_with (simp only [ea, eb])
  clear ea eb
  have HR := Lib.hid hr
  clear hr
  go_loopg [7, 9] 65 (fun gf s7 s9 wr => ∃ (i : Nat) (x : Int), wr = w ∧ s7 = .int .u64 x ∧ s9 = .int .u64 i ∧ i ≤ min n 64 ∧ gf + i = 65 ∧ 0 ≤ x ∧ Hid (x = ((X * 2 ^ i % 18446744073709551616 : Nat) : Int)))
  case atStart => exact ⟨0, X, rfl, rfl, rfl, by omega, by omega, by omega, Lib.hid (by simp; omega)⟩
  case round =>
    obtain ⟨i, x, rfl, rfl, rfl, hi, hg, x0, HX⟩ := hrel
    have HL := Lib.hid la
    by_cases hlt : i < min n 64
    · have h1 : (i : Int) < n := by omega
      have h2 : (i : Int) < 64 := by omega
      have ek : IntKind.u64.wrap ((i : Int) + 1) = ((i + 1 : Nat) : Int) := by rw [IntKind.wrap_u64]; omega
      have HJ := Lib.hid (And.intro hlt hg)
      clear hlt hg hi la
      go_wp2_with fail
      go_roundg (gk - 1)
      case measure => have := HJ.out; omega
      case rel =>
        refine ⟨i + 1, _, rfl, rfl, vint (by omega), by have := HJ.out; omega, by have := HJ.out; omega, ?_, Lib.hid ?_⟩
        · rw [IntKind.wrap_u64]; omega
        · rw [IntKind.wrap_u64, ← up_step, HX.out]; omega
    · obtain rfl : i = min n 64 := by omega
      obtain ⟨k, hk⟩ : ∃ k, min n 64 = k := ⟨_, rfl⟩
      rw [hk] at HX HR ⊢
      have hc : ¬ (k : Int) < n ∨ ((k : Int) < n ∧ ¬ (k : Int) < 64) := by omega
      clear la x0 hlt hg hi hk
      rcases hc with hc | ⟨hc, hd⟩
      all_goals
        go_wp2_with fail
        go_ret
        exact ⟨by rw [← HR.out, HX.out, w64]; rfl, rfl⟩
set_option maxRecDepth 100000 in
set_option maxHeartbeats 3200000 in
theorem movedR_down (a b : Int) (w : World) : Calls Tryz.prog 53 #[.int .i64 a, .int .i64 b, .bool false] w fun e w' => e = .returned (.int .i64 (wrap64 (IntKind.u64.wrap a / 2 ^ min (nat64 b) 64))) ∧ w = w' := by
  obtain ⟨r, hr⟩ : ∃ r, wrap64 (IntKind.u64.wrap a / 2 ^ min (nat64 b) 64) = r := ⟨_, rfl⟩
  rw [hr]
  rw [← down_last] at hr
  have ea := nat64_wrap a
  have eb := nat64_wrap b
  have la := nat64_lt a
  generalize nat64 a = X at *
  generalize nat64 b = n at *
  go_enter Tryz.func53, Tryz.ntmps53
  go_wp2_with (simp only [ea, eb])
  clear ea eb
  have HR := Lib.hid hr
  clear hr
  go_loopg [7, 9] 65 (fun gf s7 s9 wr => ∃ (i : Nat) (x : Int), wr = w ∧ s7 = .int .u64 x ∧ s9 = .int .u64 i ∧ i ≤ min n 64 ∧ gf + i = 65 ∧ 0 ≤ x ∧ Hid (x = ((X / 2 ^ i : Nat) : Int)))
  case atStart => exact ⟨0, X, rfl, rfl, rfl, by omega, by omega, by omega, Lib.hid (by simp)⟩
  case round =>
    obtain ⟨i, x, rfl, rfl, rfl, hi, hg, x0, HX⟩ := hrel
    have HL := Lib.hid la
    by_cases hlt : i < min n 64
    · have h1 : (i : Int) < n := by omega
      have h2 : (i : Int) < 64 := by omega
      have ek : IntKind.u64.wrap ((i : Int) + 1) = ((i + 1 : Nat) : Int) := by rw [IntKind.wrap_u64]; omega
      have HJ := Lib.hid (And.intro hlt hg)
      clear hlt hg hi la
      go_wp2_with fail
      go_roundg (gk - 1)
      case measure => have := HJ.out; omega
      case rel =>
        have hx := HX.out
        have hd := Nat.div_le_self X (2 ^ i)
        have hl := HL.out
        refine ⟨i + 1, _, rfl, rfl, vint (by omega), by have := HJ.out; omega, by have := HJ.out; omega, ?_, Lib.hid ?_⟩
        · rw [IntKind.wrap_u64]; omega
        · rw [half_wrap x x0 (by generalize X / 2 ^ i = A at *; omega), ← down_step, hx]; omega
    · obtain rfl : i = min n 64 := by omega
      obtain ⟨k, hk⟩ : ∃ k, min n 64 = k := ⟨_, rfl⟩
      rw [hk] at HX HR ⊢
      have hc : ¬ (k : Int) < n ∨ ((k : Int) < n ∧ ¬ (k : Int) < 64) := by omega
      clear la x0 hlt hg hi hk
      rcases hc with hc | ⟨hc, hd⟩
      all_goals
        go_wp2_with fail
        go_ret
        exact ⟨by rw [← HR.out, HX.out, w64]; rfl, rfl⟩
end R1
end Go.Proofs.YtkbchpaofmlhgaaGreatDoor
