import Derived.Test.YtkbchpaofmlhgaaGreatDoorJLiveA
import Derived.Test.YtkbchpaofmlhgaaGreatDoorJPairT
import Derived.Test.YtkbchpaofmlhgaaGreatDoorJLongA
import Derived.Test.YtkbchpaofmlhgaaGreatDoorJRealOps
import Derived.Test.YtkbchpaofmlhgaaGreatDoorJRnD
import Derived.Test.YtkbchpaofmlhgaaGreatDoorJRefA
import Derived.Test.YtkbchpaofmlhgaaGreatDoorJCellOps
import Derived.Test.YtkbchpaofmlhgaaGreatDoorJStkA
import Derived.Test.YtkbchpaofmlhgaaGreatDoorJRnB
import Derived.Test.YtkbchpaofmlhgaaGreatDoorJPairSems
/- PrimCells: what its own run does: cells are put, something is done, all is told. -/
namespace Go.Proofs.YtkbchpaofmlhgaaGreatDoor
open Go.RowKit

/-- what is done to a state that holds these cells -/
def RunIs (w0 : World) (op : Int) (l : List Int) (r : Int) (res : List Int) : Prop := ∀ (w : World) (s : Nat) (S : PS), Live w0 w s S → S.ok → S.st = l →
  Calls Tryz.prog 14 #[.pointer (some ⟨s, 0, none⟩), .int .i64 op] w fun e w' => e = .returned (.int .i64 r) ∧ ∃ S', Live w0 w' s S' ∧ S'.st = res

set_option maxRecDepth 100000 in
set_option maxHeartbeats 1600000 in
theorem run_any (w : World) (op : Int) (l : List Int) (cv : Value) (hc : CellsAt w cv l) (hl : l.length ≤ 4) (r : Int) (res : List Int) (hres : res.length ≤ 4) (hD : RunIs w op l r res) :
    Calls Tryz.prog 24 #[.int .i64 op, cv] w fun e w' => ∃ v, e = .returned (.tuple #[v, .int .i64 r]) ∧ CellsG w' v res ∧ Touch [] w w' := by
  have hN := live_new w w (Touch.refl [] w)
  have HC := Lib.hid (And.intro hc (And.intro hl (And.intro hres hD)))
  clear hc hl hres hD
  go_enter Tryz.func24, Tryz.ntmps24
  go_wp2_with fail
  refine hN.mono ?_
  rintro _ w2 ⟨s, S, rfl, hLv, hokS, hnS, hstS, hbsS, hhS, hoS, hmS⟩
  clear hN
  have hSt := live_stack hLv
  have hPu : Calls Tryz.prog 13 #[.pointer (some ⟨S.k, 0, none⟩), cv] w2 fun e w' => e = .returned (.int .i64 0) ∧ Live w w' s { S with st := l } := by
    have h := live_put hLv cv l (HC.out.1.quiet hLv.t) (by rw [hstS]; have := HC.out.2.1; simp only [List.length_nil]; omega)
    rw [hstS, List.nil_append] at h
    exact h
  have HS := Lib.hid hokS
  clear hLv hokS hnS hstS hbsS hhS hoS hmS
  go_wp2_with fail
  refine hSt.mono ?_
  rintro _ _ ⟨rfl, rfl⟩
  clear hSt
  go_wp2_with fail
  refine hPu.mono ?_
  rintro _ w3 ⟨rfl, hL3⟩
  clear hPu
  have hDo := HC.out.2.2.2 w3 s { S with st := l } hL3 HS.out rfl
  clear hL3
  go_wp2_with fail
  refine hDo.mono ?_
  rintro _ w4 ⟨rfl, S', hL4, hst⟩
  clear hDo
  have hSt := live_stack hL4
  have hAl := live_all hL4 (by rw [hst]; have := HC.out.2.2.1; omega)
  rw [hst] at hAl
  have HL := Lib.hid hL4.t
  clear hL4 hst
  go_wp2_with fail
  refine hSt.mono ?_
  rintro _ _ ⟨rfl, rfl⟩
  clear hSt
  go_wp2_with fail
  refine hAl.mono ?_
  rintro _ w5 ⟨v, rfl, hcg, hrow, t5⟩
  have HG := Lib.hid hcg
  clear hAl hcg hrow
  have HT := Lib.hid (HL.out.trans t5 (by simp))
  clear t5
  go_wp2_with fail
  go_ret2
  exact ⟨v, rfl, HG.out, HT.out⟩
end Go.Proofs.YtkbchpaofmlhgaaGreatDoor

/- rhytonref02's Add and UDiv are package pair's; rhytonref04's Two is package real's. -/
namespace Go.Proofs.YtkbchpaofmlhgaaGreatDoor
open Go.RowKit

theorem add_pairs (p q : Int × Int) : (pairOf (((⟨p.1, p.2⟩ : PairV).num + (⟨q.1, q.2⟩ : PairV).num) % 340282366920938463463374607431768211456)).v = pairW (addP p q) := by
  obtain ⟨a, b⟩ := p
  obtain ⟨c, d⟩ := q
  have e1 : bitsOf a = b64 a := rfl
  have e2 : bitsOf b = b64 b := rfl
  have e3 : bitsOf c = b64 c := rfl
  have e4 : bitsOf d = b64 d := rfl
  have l1 := b64_lt a
  have l2 := b64_lt b
  have l3 := b64_lt c
  have l4 := b64_lt d
  unfold PairV.v pairOf PairV.num addP pairW
  simp only [e1, e2, e3, e4]
  generalize b64 a = x at *
  generalize b64 b = y at *
  generalize b64 c = z at *
  generalize b64 d = u at *
  have h1 : cellOf ((x + 18446744073709551616 * y + (z + 18446744073709551616 * u)) % 340282366920938463463374607431768211456 % 18446744073709551616) = wrap64 (((x : Int) + z) % 18446744073709551616) := by
    unfold cellOf wrap64; split <;> omega
  have h2 : cellOf ((x + 18446744073709551616 * y + (z + 18446744073709551616 * u)) % 340282366920938463463374607431768211456 / 18446744073709551616 % 18446744073709551616) = wrap64 (((y : Int) + u + ((x : Int) + z) / 18446744073709551616) % 18446744073709551616) := by
    unfold cellOf wrap64; split <;> omega
  rw [h1, h2]
theorem PAdd_any (p q : Int × Int) (w : World) : Calls Tryz.prog 28 #[pairW p, pairW q] w fun e w' => e = .returned (pairW (addP p q)) ∧ Touch [] w w' := by
  rw [← add_pairs]
  exact padd_any ⟨p.1, p.2⟩ ⟨q.1, q.2⟩ w
theorem quo_high (n B : Nat) (x y : Nat) (hn : n = x + 18446744073709551616 * y) (hx : x < 18446744073709551616) (hB0 : 0 < B) : (B ≤ y → 18446744073709551616 ≤ n / B) ∧ (¬ B ≤ y → n / B < 18446744073709551616) := by
  refine ⟨fun h => ?_, fun h => ?_⟩
  · rw [Nat.le_div_iff_mul_le hB0]
    have := Nat.mul_le_mul_left 18446744073709551616 h
    omega
  · rw [Nat.div_lt_iff_lt_mul hB0]
    have := Nat.mul_le_mul_left 18446744073709551616 (show y + 1 ≤ B by omega)
    omega
set_option maxRecDepth 100000 in
theorem PUDiv_any (p : Int × Int) (b : Int) (h1 : Cell64 p.1) (h2 : Cell64 p.2) (hb : Cell64 b) (w : World) :
    Calls Tryz.prog 29 #[pairW p, .int .i64 b] w fun e w' => e = .returned (.tuple #[.int .i64 (udivT p b).1.1, .int .i64 (udivT p b).1.2, .int .i64 (udivT p b).2]) ∧ Touch [] w w' := by
  unfold udivT
  by_cases hb0 : b = 0
  · rw [if_pos hb0]
    subst hb0
    obtain ⟨x, y⟩ := p
    unfold pairW
    clear h1 h2 hb
    go_enter Tryz.func29, Tryz.ntmps29
    go_wp2_with fail
    go_ret3
    exact ⟨rfl, (Touch.refl _ _).alloc _⟩
  · have hn := numP_lt p
    have hB0 : 0 < b64 b := by unfold b64; unfold Cell64 at hb; omega
    have hl := fun W => long_any (numP p) (b64 b) hn hB0 (b64_lt b) W
    have hqq := quo_high (numP p) (b64 b) (b64 p.1) (b64 p.2) rfl (b64_lt _) hB0
    have hq128 : numP p / b64 b < 340282366920938463463374607431768211456 := Nat.lt_of_le_of_lt (Nat.div_le_self _ _) hn
    rw [cellOf_b64 b hb, two_numP p h1 h2] at hl
    unfold pairW
    obtain ⟨x, y⟩ := p
    dsimp only at *
    have hbne : (b == 0) = false := beq_eq_false_iff_ne.2 hb0
    rw [if_neg hb0]
    clear h1 h2 hb hn hB0
    by_cases hr : b64 b ≤ b64 y
    · rw [if_pos hr]
      have hge := hqq.1 hr
      have hph : (ph (numP (x, y) / b64 b) != 0) = true := by
        rw [bne_iff_ne]
        generalize numP (x, y) / b64 b = q at *
        unfold ph cellOf
        split <;> omega
      unfold two at hl
      obtain ⟨r, hr'⟩ : ∃ r, pl (numP (x, y) % b64 b) = r := ⟨_, rfl⟩
      obtain ⟨q, hq⟩ : ∃ q, pl (numP (x, y) / b64 b) = q := ⟨_, rfl⟩
      obtain ⟨h, hh⟩ : ∃ h, ph (numP (x, y) / b64 b) = h := ⟨_, rfl⟩
      rw [hr', hq, hh] at hl
      rw [hh] at hph
      clear hr' hq hh hge hr hq128 hqq hb0
      go_enter Tryz.func29, Tryz.ntmps29
      go_wp2_with fail
      refine (hl _).mono ?_
      rintro _ w1 ⟨rfl, t1⟩
      have tw := ((Touch.refl [] w).alloc _).trans t1 (by simp)
      clear t1 hl
      go_upto_region 4 with (fail)
      have bA := Blk.new w1 38 #[.int .i64 q, .int .i64 h]
      have tw := tw.alloc (.cells #[.int .i64 q, .int .i64 h] 38)
      generalize w1.alloc (.cells #[.int .i64 q, .int .i64 h] 38) = wA at *
      have a0 := bA.cell 0
      have a1 := bA.cell 1
      go_wp2_with fail
      go_ret3
      exact ⟨rfl, tw⟩
    · rw [if_neg hr]
      have hlt := hqq.2 hr
      have e1 : cellOf (numP (x, y) % b64 b) = pl (numP (x, y) % b64 b) := by
        have := Nat.mod_lt (numP (x, y)) (show 0 < b64 b by
          rcases Nat.eq_zero_or_pos (b64 b) with h | h
          · omega
          · exact h)
        have := b64_lt b
        unfold pl
        rw [Nat.mod_eq_of_lt (by omega : numP (x, y) % b64 b < 18446744073709551616)]
      have e2 : cellOf (numP (x, y) / b64 b) = pl (numP (x, y) / b64 b) := by
        unfold pl
        rw [Nat.mod_eq_of_lt hlt]
      rw [e1, e2]
      have hh := (p_small (numP (x, y) / b64 b) hlt).2
      unfold two at hl
      rw [hh] at hl
      obtain ⟨r, hr'⟩ : ∃ r, pl (numP (x, y) % b64 b) = r := ⟨_, rfl⟩
      obtain ⟨q, hq⟩ : ∃ q, pl (numP (x, y) / b64 b) = q := ⟨_, rfl⟩
      rw [hr', hq] at hl ⊢
      clear hr' hq hh hlt hr hq128 hqq e1 e2 hb0
      go_enter Tryz.func29, Tryz.ntmps29
      go_wp2_with fail
      refine (hl _).mono ?_
      rintro _ w1 ⟨rfl, t1⟩
      have tw := ((Touch.refl [] w).alloc _).trans t1 (by simp)
      clear t1 hl
      go_upto_region 4 with (fail)
      have bA := Blk.new w1 38 #[.int .i64 q, .int .i64 0]
      have tw := tw.alloc (.cells #[.int .i64 q, .int .i64 0] 38)
      generalize w1.alloc (.cells #[.int .i64 q, .int .i64 0] 38) = wA at *
      have a0 := bA.cell 0
      have a1 := bA.cell 1
      go_wp2_with fail
      go_quiet (fail)
      go_wp2
      go_ret3
      exact ⟨rfl, tw.drewN _⟩
theorem RReal_any (k : Int) (h : 3 ≤ k ∧ k ≤ 10) (a b : Int) (ha : Cell64 a) (hb : Cell64 b) (w : World) : Calls Tryz.prog 30 #[.int .i64 k, .int .i64 a, .int .i64 b] w fun e w' => e = .returned (.tuple #[.int .i64 (twoRl k a b), .int .i64 0]) ∧ Touch [] w w' := by
  rcases (by omega : k = 3 ∨ k = 4 ∨ k = 5 ∨ k = 6 ∨ k = 7 ∨ k = 8 ∨ k = 9 ∨ k = 10) with rfl | rfl | rfl | rfl | rfl | rfl | rfl | rfl
  · exact Rn.real_add a b ha.1 ha.2 hb.1 hb.2 w
  · exact Rn.real_sub a b ha.1 ha.2 hb.1 hb.2 w
  · exact Rn.real_mul a b ha.1 ha.2 hb.1 hb.2 w
  · exact Rn.real_div a b ha.1 ha.2 hb.1 hb.2 w
  · exact Rn.real_min a b ha.1 ha.2 hb.1 hb.2 w
  · exact Rn.real_max a b ha.1 ha.2 hb.1 hb.2 w
  · exact Rn.real_less a b ha.1 ha.2 hb.1 hb.2 w
  · exact Rn.real_equal a b ha.1 ha.2 hb.1 hb.2 w
end Go.Proofs.YtkbchpaofmlhgaaGreatDoor

/- rhytonref01's divided and Two: all that is done to two cells. -/
namespace Go.Proofs.YtkbchpaofmlhgaaGreatDoor
open Go.RowKit
namespace R1

theorem floored_plain (a b : Int) (ha : Cell64 a) (hb : Cell64 b) (q r : Int) (hq : wrap64 (a.tdiv b) = q) (hr : a.tmod b = r) :
    flooredF a b = if r = 0 ∨ (r < 0 ↔ b < 0) then (q, r) else (wrap64 (q - 1), wrap64 (r + b)) := by
  have hc := tmod_cell a b ha
  unfold Cell64 at ha hb hc
  have hx := xor_sign (a.tmod b) b hc.1 hc.2 hb.1 hb.2
  unfold flooredF
  rw [hq, hr] at *
  by_cases h1 : r = 0
  · rw [if_pos (.inl h1), if_pos (.inl h1)]
  · by_cases h2 : (r < 0 ↔ b < 0)
    · rw [if_pos (.inr (hx.2 h2)), if_pos (.inr h2)]
    · rw [if_neg (by rintro (h | h); exact h1 h; exact h2 (hx.1 h)), if_neg (by rintro (h | h); exact h1 h; exact h2 h)]
set_option maxRecDepth 100000 in
set_option maxHeartbeats 1600000 in
theorem dividedR_any (a b : Int) (ha : Cell64 a) (hb : Cell64 b) (h0 : b ≠ 0) (w : World) : Calls Tryz.prog 51 #[.int .i64 a, .int .i64 b] w fun e w' => e = .returned (.tuple #[.int .i64 (flooredF a b).1, .int .i64 (flooredF a b).2]) ∧ w = w' := by
  by_cases h1 : b = -1
  · subst h1
    have hq : a.tdiv (-1) = -a := by rw [Int.tdiv_neg, Int.tdiv_one]
    have hr : a.tmod (-1) = 0 := by rw [Int.tmod_neg, Int.tmod_one]
    rw [floored_plain a (-1) ha hb _ _ rfl rfl, hq, hr, if_pos (.inl rfl)]
    clear hq hr ha hb h0
    go_enter Tryz.func51, Tryz.ntmps51
    go_wp2_with fail
    go_ret2
    exact ⟨by simp, rfl⟩
  · obtain ⟨e1, e2⟩ := divided_plain a b h0 h1 ha.1 ha.2 hb.1 hb.2
    rw [w64] at e1 e2
    rw [w64] at e2
    obtain ⟨q, hq⟩ : ∃ q, wrap64 (a.tdiv b) = q := ⟨_, rfl⟩
    obtain ⟨r, hr⟩ : ∃ r, a.tmod b = r := ⟨_, rfl⟩
    rw [floored_plain a b ha hb q r hq hr]
    rw [hr, ← e1, hq] at e2
    clear hr e1 ha hb
    by_cases c1 : r = 0
    · rw [if_pos (.inl c1)]
      subst c1
      go_enter Tryz.func51, Tryz.ntmps51
      go_wp2_with fail
      go_ret2
      exact ⟨by rw [e2, hq]; rfl, rfl⟩
    · have c1' : (r != 0) = true := by simp [c1]
      by_cases c2 : r < 0 <;> by_cases c3 : b < 0
      · rw [if_pos (.inr (by simp [c2, c3]))]
        go_enter Tryz.func51, Tryz.ntmps51
        go_wp2_with fail
        go_ret2
        exact ⟨by rw [e2, hq]; rfl, rfl⟩
      · rw [if_neg (by rintro (h | h); exact c1 h; exact c3 (h.1 c2))]
        go_enter Tryz.func51, Tryz.ntmps51
        go_wp2_with fail
        go_ret2
        exact ⟨rfl, rfl⟩
      · rw [if_neg (by rintro (h | h); exact c1 h; exact c2 (h.2 c3))]
        go_enter Tryz.func51, Tryz.ntmps51
        go_wp2_with fail
        go_ret2
        exact ⟨rfl, rfl⟩
      · rw [if_pos (.inr (by simp [c2, c3]))]
        go_enter Tryz.func51, Tryz.ntmps51
        go_wp2_with fail
        go_ret2
        exact ⟨rfl, rfl⟩
theorem RTwo_14z (a b : Int) (h : b = 0) (w : World) : Calls Tryz.prog 27 #[.int .i64 14, .int .i64 a, .int .i64 b] w fun e w' => e = .returned (.tuple #[.int .i64 (0), .int .i64 (-10)]) ∧ w = w' := by
  have hM := fun w => RMany_any 14 w
  rw [show manyF 14 = 2 from rfl] at hM
  subst h
  go_enter Tryz.func27, Tryz.ntmps27
  go_wp2_with fail
  refine (hM _).mono ?_
  rintro _ _ ⟨rfl, rfl⟩
  go_wp2_with fail
  go_ret2
  exact ⟨rfl, rfl⟩
theorem RTwo_14 (a b : Int) (ha : Cell64 a) (hb : Cell64 b) (h : ¬ b = 0) (w : World) : Calls Tryz.prog 27 #[.int .i64 14, .int .i64 a, .int .i64 b] w fun e w' => e = .returned (.tuple #[.int .i64 ((flooredF a b).1), .int .i64 (0)]) ∧ w = w' := by
  have hM := fun w => RMany_any 14 w
  rw [show manyF 14 = 2 from rfl] at hM
  have hC := fun w => dividedR_any a b ha hb h w
  clear ha hb
  go_enter Tryz.func27, Tryz.ntmps27
  go_wp2_with fail
  refine (hM _).mono ?_
  rintro _ _ ⟨rfl, rfl⟩
  go_wp2_with fail
  refine (hC _).mono ?_
  rintro _ _ ⟨rfl, rfl⟩
  go_wp2_with fail
  go_ret2
  exact ⟨rfl, rfl⟩
theorem RTwo_15z (a b : Int) (h : b = 0) (w : World) : Calls Tryz.prog 27 #[.int .i64 15, .int .i64 a, .int .i64 b] w fun e w' => e = .returned (.tuple #[.int .i64 (0), .int .i64 (-10)]) ∧ w = w' := by
  have hM := fun w => RMany_any 15 w
  rw [show manyF 15 = 2 from rfl] at hM
  subst h
  go_enter Tryz.func27, Tryz.ntmps27
  go_wp2_with fail
  refine (hM _).mono ?_
  rintro _ _ ⟨rfl, rfl⟩
  go_wp2_with fail
  go_ret2
  exact ⟨rfl, rfl⟩
theorem RTwo_15 (a b : Int) (ha : Cell64 a) (hb : Cell64 b) (h : ¬ b = 0) (w : World) : Calls Tryz.prog 27 #[.int .i64 15, .int .i64 a, .int .i64 b] w fun e w' => e = .returned (.tuple #[.int .i64 ((flooredF a b).2), .int .i64 (0)]) ∧ w = w' := by
  have hM := fun w => RMany_any 15 w
  rw [show manyF 15 = 2 from rfl] at hM
  have hC := fun w => dividedR_any a b ha hb h w
  clear ha hb
  go_enter Tryz.func27, Tryz.ntmps27
  go_wp2_with fail
  refine (hM _).mono ?_
  rintro _ _ ⟨rfl, rfl⟩
  go_wp2_with fail
  refine (hC _).mono ?_
  rintro _ _ ⟨rfl, rfl⟩
  go_wp2_with fail
  go_ret2
  exact ⟨rfl, rfl⟩
theorem RTwo_16 (a b : Int) (w : World) : Calls Tryz.prog 27 #[.int .i64 16, .int .i64 a, .int .i64 b] w fun e w' => e = .returned (.tuple #[.int .i64 (bits .and .i64 a b), .int .i64 (0)]) ∧ w = w' := by
  have hM := fun w => RMany_any 16 w
  rw [show manyF 16 = 2 from rfl] at hM
  have hC := fun w => bitsR_any false true a b w
  rw [← bits_and] at hC
  go_enter Tryz.func27, Tryz.ntmps27
  go_wp2_with fail
  refine (hM _).mono ?_
  rintro _ _ ⟨rfl, rfl⟩
  go_wp2_with fail
  refine (hC _).mono ?_
  rintro _ _ ⟨rfl, rfl⟩
  go_wp2_with fail
  go_ret2
  exact ⟨rfl, rfl⟩
theorem RTwo_17 (a b : Int) (w : World) : Calls Tryz.prog 27 #[.int .i64 17, .int .i64 a, .int .i64 b] w fun e w' => e = .returned (.tuple #[.int .i64 (bits .or .i64 a b), .int .i64 (0)]) ∧ w = w' := by
  have hM := fun w => RMany_any 17 w
  rw [show manyF 17 = 2 from rfl] at hM
  have hC := fun w => bitsR_any true true a b w
  rw [← bits_or] at hC
  go_enter Tryz.func27, Tryz.ntmps27
  go_wp2_with fail
  refine (hM _).mono ?_
  rintro _ _ ⟨rfl, rfl⟩
  go_wp2_with fail
  refine (hC _).mono ?_
  rintro _ _ ⟨rfl, rfl⟩
  go_wp2_with fail
  go_ret2
  exact ⟨rfl, rfl⟩
theorem RTwo_18 (a b : Int) (w : World) : Calls Tryz.prog 27 #[.int .i64 18, .int .i64 a, .int .i64 b] w fun e w' => e = .returned (.tuple #[.int .i64 (bits .xor .i64 a b), .int .i64 (0)]) ∧ w = w' := by
  have hM := fun w => RMany_any 18 w
  rw [show manyF 18 = 2 from rfl] at hM
  have hC := fun w => bitsR_any true false a b w
  rw [← bits_xor] at hC
  go_enter Tryz.func27, Tryz.ntmps27
  go_wp2_with fail
  refine (hM _).mono ?_
  rintro _ _ ⟨rfl, rfl⟩
  go_wp2_with fail
  refine (hC _).mono ?_
  rintro _ _ ⟨rfl, rfl⟩
  go_wp2_with fail
  go_ret2
  exact ⟨rfl, rfl⟩
theorem RTwo_19 (a b : Int) (w : World) : Calls Tryz.prog 27 #[.int .i64 19, .int .i64 a, .int .i64 b] w fun e w' => e = .returned (.tuple #[.int .i64 (wrap64 (a * 2 ^ min (IntKind.u64.wrap b).toNat 64)), .int .i64 (0)]) ∧ w = w' := by
  have hM := fun w => RMany_any 19 w
  rw [show manyF 19 = 2 from rfl] at hM
  have hC := fun w => movedR_up a b w
  rw [← min_nat] at hC
  obtain ⟨r, hr⟩ : ∃ r, wrap64 (a * 2 ^ min (IntKind.u64.wrap b).toNat 64) = r := ⟨_, rfl⟩
  rw [hr] at hC ⊢
  clear hr
  go_enter Tryz.func27, Tryz.ntmps27
  go_wp2_with fail
  refine (hM _).mono ?_
  rintro _ _ ⟨rfl, rfl⟩
  go_wp2_with fail
  refine (hC _).mono ?_
  rintro _ _ ⟨rfl, rfl⟩
  go_wp2_with fail
  go_ret2
  exact ⟨rfl, rfl⟩
theorem RTwo_20 (a b : Int) (w : World) : Calls Tryz.prog 27 #[.int .i64 20, .int .i64 a, .int .i64 b] w fun e w' => e = .returned (.tuple #[.int .i64 (wrap64 (IntKind.u64.wrap a / 2 ^ min (IntKind.u64.wrap b).toNat 64)), .int .i64 (0)]) ∧ w = w' := by
  have hM := fun w => RMany_any 20 w
  rw [show manyF 20 = 2 from rfl] at hM
  have hC := fun w => movedR_down a b w
  rw [← min_nat] at hC
  obtain ⟨r, hr⟩ : ∃ r, wrap64 (IntKind.u64.wrap a / 2 ^ min (IntKind.u64.wrap b).toNat 64) = r := ⟨_, rfl⟩
  rw [hr] at hC ⊢
  clear hr
  go_enter Tryz.func27, Tryz.ntmps27
  go_wp2_with fail
  refine (hM _).mono ?_
  rintro _ _ ⟨rfl, rfl⟩
  go_wp2_with fail
  refine (hC _).mono ?_
  rintro _ _ ⟨rfl, rfl⟩
  go_wp2_with fail
  go_ret2
  exact ⟨rfl, rfl⟩
theorem RTwo_21 (a b : Int) (w : World) : Calls Tryz.prog 27 #[.int .i64 21, .int .i64 a, .int .i64 b] w fun e w' => e = .returned (.tuple #[.int .i64 (truthF (decide (a = b))), .int .i64 (0)]) ∧ w = w' := by
  have hM := fun w => RMany_any 21 w
  rw [show manyF 21 = 2 from rfl] at hM
  have hC := fun w => RCmp_21 a b w
  obtain ⟨r, hr⟩ : ∃ r, (truthF (decide (a = b))) = r := ⟨_, rfl⟩
  rw [hr] at hC ⊢
  clear hr
  go_enter Tryz.func27, Tryz.ntmps27
  go_wp2_with fail
  refine (hM _).mono ?_
  rintro _ _ ⟨rfl, rfl⟩
  go_wp2_with fail
  refine (hC _).mono ?_
  rintro _ _ ⟨rfl, rfl⟩
  go_wp2_with fail
  go_ret2
  exact ⟨rfl, rfl⟩
theorem RTwo_22 (a b : Int) (w : World) : Calls Tryz.prog 27 #[.int .i64 22, .int .i64 a, .int .i64 b] w fun e w' => e = .returned (.tuple #[.int .i64 (truthF (!decide (a = b))), .int .i64 (0)]) ∧ w = w' := by
  have hM := fun w => RMany_any 22 w
  rw [show manyF 22 = 2 from rfl] at hM
  have hC := fun w => RCmp_22 a b w
  obtain ⟨r, hr⟩ : ∃ r, (truthF (!decide (a = b))) = r := ⟨_, rfl⟩
  rw [hr] at hC ⊢
  clear hr
  go_enter Tryz.func27, Tryz.ntmps27
  go_wp2_with fail
  refine (hM _).mono ?_
  rintro _ _ ⟨rfl, rfl⟩
  go_wp2_with fail
  refine (hC _).mono ?_
  rintro _ _ ⟨rfl, rfl⟩
  go_wp2_with fail
  go_ret2
  exact ⟨rfl, rfl⟩
theorem RTwo_23 (a b : Int) (w : World) : Calls Tryz.prog 27 #[.int .i64 23, .int .i64 a, .int .i64 b] w fun e w' => e = .returned (.tuple #[.int .i64 (truthF (decide (a < b))), .int .i64 (0)]) ∧ w = w' := by
  have hM := fun w => RMany_any 23 w
  rw [show manyF 23 = 2 from rfl] at hM
  have hC := fun w => RCmp_23 a b w
  obtain ⟨r, hr⟩ : ∃ r, (truthF (decide (a < b))) = r := ⟨_, rfl⟩
  rw [hr] at hC ⊢
  clear hr
  go_enter Tryz.func27, Tryz.ntmps27
  go_wp2_with fail
  refine (hM _).mono ?_
  rintro _ _ ⟨rfl, rfl⟩
  go_wp2_with fail
  refine (hC _).mono ?_
  rintro _ _ ⟨rfl, rfl⟩
  go_wp2_with fail
  go_ret2
  exact ⟨rfl, rfl⟩
theorem RTwo_24 (a b : Int) (w : World) : Calls Tryz.prog 27 #[.int .i64 24, .int .i64 a, .int .i64 b] w fun e w' => e = .returned (.tuple #[.int .i64 (truthF (decide (b < a))), .int .i64 (0)]) ∧ w = w' := by
  have hM := fun w => RMany_any 24 w
  rw [show manyF 24 = 2 from rfl] at hM
  have hC := fun w => RCmp_24 a b w
  obtain ⟨r, hr⟩ : ∃ r, (truthF (decide (b < a))) = r := ⟨_, rfl⟩
  rw [hr] at hC ⊢
  clear hr
  go_enter Tryz.func27, Tryz.ntmps27
  go_wp2_with fail
  refine (hM _).mono ?_
  rintro _ _ ⟨rfl, rfl⟩
  go_wp2_with fail
  refine (hC _).mono ?_
  rintro _ _ ⟨rfl, rfl⟩
  go_wp2_with fail
  go_ret2
  exact ⟨rfl, rfl⟩
theorem RTwo_25 (a b : Int) (ha : Cell6 a) (hb : Cell6 b) (w : World) : Calls Tryz.prog 27 #[.int .i64 25, .int .i64 a, .int .i64 b] w fun e w' => e = .returned (.tuple #[.int .i64 (truthF (decide (IntKind.u64.wrap a < IntKind.u64.wrap b))), .int .i64 (0)]) ∧ w = w' := by
  have hM := fun w => RMany_any 25 w
  rw [show manyF 25 = 2 from rfl] at hM
  have hC := fun w => RCmp_25 a b ha hb w
  obtain ⟨r, hr⟩ : ∃ r, (truthF (decide (IntKind.u64.wrap a < IntKind.u64.wrap b))) = r := ⟨_, rfl⟩
  rw [hr] at hC ⊢
  clear hr
  clear ha hb
  go_enter Tryz.func27, Tryz.ntmps27
  go_wp2_with fail
  refine (hM _).mono ?_
  rintro _ _ ⟨rfl, rfl⟩
  go_wp2_with fail
  refine (hC _).mono ?_
  rintro _ _ ⟨rfl, rfl⟩
  go_wp2_with fail
  go_ret2
  exact ⟨rfl, rfl⟩
theorem RTwo_26 (a b : Int) (w : World) : Calls Tryz.prog 27 #[.int .i64 26, .int .i64 a, .int .i64 b] w fun e w' => e = .returned (.tuple #[.int .i64 (if a < b then a else b), .int .i64 (0)]) ∧ w = w' := by
  have hM := fun w => RMany_any 26 w
  rw [show manyF 26 = 2 from rfl] at hM
  have hC := fun w => RCmp_26 a b w
  obtain ⟨r, hr⟩ : ∃ r, (if a < b then a else b) = r := ⟨_, rfl⟩
  rw [hr] at hC ⊢
  clear hr
  go_enter Tryz.func27, Tryz.ntmps27
  go_wp2_with fail
  refine (hM _).mono ?_
  rintro _ _ ⟨rfl, rfl⟩
  go_wp2_with fail
  refine (hC _).mono ?_
  rintro _ _ ⟨rfl, rfl⟩
  go_wp2_with fail
  go_ret2
  exact ⟨rfl, rfl⟩
theorem RTwo_27 (a b : Int) (w : World) : Calls Tryz.prog 27 #[.int .i64 27, .int .i64 a, .int .i64 b] w fun e w' => e = .returned (.tuple #[.int .i64 (if a < b then b else a), .int .i64 (0)]) ∧ w = w' := by
  have hM := fun w => RMany_any 27 w
  rw [show manyF 27 = 2 from rfl] at hM
  have hC := fun w => RCmp_27 a b w
  obtain ⟨r, hr⟩ : ∃ r, (if a < b then b else a) = r := ⟨_, rfl⟩
  rw [hr] at hC ⊢
  clear hr
  go_enter Tryz.func27, Tryz.ntmps27
  go_wp2_with fail
  refine (hM _).mono ?_
  rintro _ _ ⟨rfl, rfl⟩
  go_wp2_with fail
  refine (hC _).mono ?_
  rintro _ _ ⟨rfl, rfl⟩
  go_wp2_with fail
  go_ret2
  exact ⟨rfl, rfl⟩
/-- EACH of them is what package cell tells -/
theorem RTwo_any (op : Int) (h : 11 ≤ op ∧ op ≤ 27) (a b : Int) (ha : Cell64 a) (hb : Cell64 b) (w : World) : Calls Tryz.prog 27 #[.int .i64 op, .int .i64 a, .int .i64 b] w fun e w' => e = .returned (.tuple #[.int .i64 (twoR op a b).1, .int .i64 (twoR op a b).2]) ∧ w = w' := by
  have ha6 : Cell6 a := by unfold Cell64 at ha; unfold Cell6; omega
  have hb6 : Cell6 b := by unfold Cell64 at hb; unfold Cell6; omega
  rcases (by omega : op = 11 ∨ op = 12 ∨ op = 13 ∨ op = 14 ∨ op = 15 ∨ op = 16 ∨ op = 17 ∨ op = 18 ∨ op = 19 ∨ op = 20 ∨ op = 21 ∨ op = 22 ∨ op = 23 ∨ op = 24 ∨ op = 25 ∨ op = 26 ∨ op = 27) with rfl | rfl | rfl | rfl | rfl | rfl | rfl | rfl | rfl | rfl | rfl | rfl | rfl | rfl | rfl | rfl | rfl
  · rw [show twoR 11 a b = (twoF 11 a b, 0) from if_neg (by omega)]
    exact RTwo_11 a b w
  · rw [show twoR 12 a b = (twoF 12 a b, 0) from if_neg (by omega)]
    exact RTwo_12 a b w
  · rw [show twoR 13 a b = (twoF 13 a b, 0) from if_neg (by omega)]
    exact RTwo_13 a b w
  · by_cases h0 : b = 0
    · rw [show twoR 14 a b = (0, -10) from if_pos ⟨h0, .inl rfl⟩]
      exact RTwo_14z a b h0 w
    · rw [show twoR 14 a b = (twoF 14 a b, 0) from if_neg (fun h => h0 h.1)]
      exact RTwo_14 a b ha hb h0 w
  · by_cases h0 : b = 0
    · rw [show twoR 15 a b = (0, -10) from if_pos ⟨h0, .inr rfl⟩]
      exact RTwo_15z a b h0 w
    · rw [show twoR 15 a b = (twoF 15 a b, 0) from if_neg (fun h => h0 h.1)]
      exact RTwo_15 a b ha hb h0 w
  · rw [show twoR 16 a b = (twoF 16 a b, 0) from if_neg (by omega)]
    exact RTwo_16 a b w
  · rw [show twoR 17 a b = (twoF 17 a b, 0) from if_neg (by omega)]
    exact RTwo_17 a b w
  · rw [show twoR 18 a b = (twoF 18 a b, 0) from if_neg (by omega)]
    exact RTwo_18 a b w
  · rw [show twoR 19 a b = (twoF 19 a b, 0) from if_neg (by omega)]
    exact RTwo_19 a b w
  · rw [show twoR 20 a b = (twoF 20 a b, 0) from if_neg (by omega)]
    exact RTwo_20 a b w
  · rw [show twoR 21 a b = (twoF 21 a b, 0) from if_neg (by omega)]
    exact RTwo_21 a b w
  · rw [show twoR 22 a b = (twoF 22 a b, 0) from if_neg (by omega)]
    exact RTwo_22 a b w
  · rw [show twoR 23 a b = (twoF 23 a b, 0) from if_neg (by omega)]
    exact RTwo_23 a b w
  · rw [show twoR 24 a b = (twoF 24 a b, 0) from if_neg (by omega)]
    exact RTwo_24 a b w
  · rw [show twoR 25 a b = (twoF 25 a b, 0) from if_neg (by omega)]
    exact RTwo_25 a b ha6 hb6 w
  · rw [show twoR 26 a b = (twoF 26 a b, 0) from if_neg (by omega)]
    exact RTwo_26 a b w
  · rw [show twoR 27 a b = (twoF 27 a b, 0) from if_neg (by omega), show twoF 27 a b = (if a < b then b else a) from by
      show (if b < a then a else b) = _
      split <;> split <;> omega]
    exact RTwo_27 a b w
end R1
end Go.Proofs.YtkbchpaofmlhgaaGreatDoor

/- PrimCells: the law's walk. -/
namespace Go.Proofs.YtkbchpaofmlhgaaGreatDoor
open Go.RowKit

theorem cellsG_row {w : World} {v : Value} {l : List Int} (h : CellsG w v l) : RowR w v l := by
  rcases h with ⟨rfl, rfl⟩ | ⟨g, c, rfl, hc⟩
  · exact ⟨none, 0, rfl, fun i hi => by simp at hi⟩
  · exact ⟨_, c, rfl, fun i hi => ⟨g, 0, rfl, by rw [Nat.zero_add]; exact hc i _ (cells_get l i hi)⟩⟩
/-- what a run with one cell leaves -/
def run1 (k a : Int) : Int × List Int := if k ≤ 10 then ((oneF k a).2, if (oneF k a).2 = 0 then [(oneF k a).1] else [a]) else (-4, [a])
def run2 (k a b : Int) : Int × List Int := ((twoR k a b).2, if (twoR k a b).2 = 0 then [(twoR k a b).1] else [a, b])
theorem run1_len (k a : Int) : (run1 k a).2.length ≤ 4 := by
  unfold run1
  split
  · show (if _ then _ else _ : List Int).length ≤ 4
    split <;> simp
  · simp
theorem run2_len (k a b : Int) : (run2 k a b).2.length ≤ 4 := by
  unfold run2
  show (if _ then _ else _ : List Int).length ≤ 4
  split <;> simp

/-- all that the law asks of package prim -/
structure Ops : Prop where
  one : ∀ w k a, 1 ≤ k → k ≤ 27 → RunIs w k [a] (run1 k a).1 (run1 k a).2
  two : ∀ w k a b, 11 ≤ k → k ≤ 27 → RunIs w k [a, b] (run2 k a b).1 (run2 k a b).2
  add : ∀ w a b c d, AllC [a, b, c, d] → RunIs w 44 [a, b, c, d] 0 [(addP (a, b) (c, d)).1, (addP (a, b) (c, d)).2]
  div : ∀ w a b c, AllC [a, b, c] → RunIs w 55 [a, b, c] (udivT (a, b) c).2 (if (udivT (a, b) c).2 = 0 then [(udivT (a, b) c).1.1, (udivT (a, b) c).1.2] else [a, b, c])
  real : ∀ w k a b, 63 ≤ k → k ≤ 70 → RunIs w k [a, b] 0 [twoRl (k - 60) a b]

def tabC11 (z : Nat) (a b c d : Int) : List (Nat × Nat × Value) := [(0, 85, .pointer (some ⟨z, 0, none⟩)), (1, 86, .int .i64 a), (2, 87, .pointer (some ⟨z, 1, none⟩)), (3, 88, .int .i64 b), (4, 89, .agg #[.int .i64 a, .int .i64 b]), (5, 90, .pointer (some ⟨z, 2, none⟩)), (6, 91, .int .i64 c), (7, 92, .pointer (some ⟨z, 3, none⟩)), (8, 93, .int .i64 d), (9, 94, .agg #[.int .i64 c, .int .i64 d])]
/-- a pair that was made, perhaps not yet filled -/
def PairAt (listed : Array Bool) (f : Nat → Value) (W : World) (ia is slot m : Nat) (u v : Int) : Prop := listed.getD ia false = true → ∃ p, f slot = .pointer (some ⟨p, 0, none⟩) ∧ m ≤ p ∧ Blk W p 38 (if listed.getD is false = true then #[.int .i64 u, .int .i64 v] else #[.int .i64 0, .int .i64 0])
def Apart (listed : Array Bool) (f : Nat → Value) : Prop := listed.getD 10 false = true → listed.getD 11 false = true → ∀ p q, f 12 = .pointer (some ⟨p, 0, none⟩) → f 13 = .pointer (some ⟨q, 0, none⟩) → p ≠ q
section
variable {listed : Array Bool} {f : Nat → Value} {W W' : World} {ia is slot m : Nat} {u v : Int}
theorem PairAt.step (h : PairAt listed f W ia is slot m u v) {i d : Nat} {x : Value} (h1 : i ≠ ia) (h2 : i ≠ is) (h3 : slot ≠ d) : PairAt (listed.setIfInBounds i true) (fun j => if j = d then x else f j) W ia is slot m u v := fun hl => by
  rw [getD_set_ne h1] at hl
  obtain ⟨p, e, hm, hb⟩ := h hl
  rw [getD_set_ne h2]
  exact ⟨p, by simp only [if_neg h3]; exact e, hm, hb⟩
theorem PairAt.keep (h : PairAt listed f W ia is slot m u v) {i : Nat} (h1 : i ≠ ia) (h2 : i ≠ is) : PairAt (listed.setIfInBounds i true) f W ia is slot m u v := fun hl => by
  rw [getD_set_ne h1] at hl
  rw [getD_set_ne h2]
  exact h hl
theorem PairAt.world (h : PairAt listed f W ia is slot m u v) (t : ∀ p cs, f slot = .pointer (some ⟨p, 0, none⟩) → listed.getD ia false = true → Blk W p 38 cs → Blk W' p 38 cs) : PairAt listed f W' ia is slot m u v := fun hl => by
  obtain ⟨p, e, hm, hb⟩ := h hl
  exact ⟨p, e, hm, t p _ e hl hb⟩
theorem Apart.step (h : Apart listed f) {i d : Nat} {x : Value} (h1 : i ≠ 10) (h2 : i ≠ 11) (h3 : d ≠ 12) (h4 : d ≠ 13) : Apart (listed.setIfInBounds i true) (fun j => if j = d then x else f j) := fun l1 l2 p q e1 e2 => by
  rw [getD_set_ne h1] at l1
  rw [getD_set_ne h2] at l2
  simp only [if_neg (Ne.symm h3), if_neg (Ne.symm h4)] at e1 e2
  exact h l1 l2 p q e1 e2
theorem Apart.keep (h : Apart listed f) {i : Nat} (h1 : i ≠ 10) (h2 : i ≠ 11) : Apart (listed.setIfInBounds i true) f := fun l1 l2 => by
  rw [getD_set_ne h1] at l1
  rw [getD_set_ne h2] at l2
  exact h l1 l2
theorem tabC_other {tab : List (Nat × Nat × Value)} (h : TabOk tab listed f) {i d : Nat} {v : Value} (hu : ∀ x ∈ tab, x.1 ≠ i ∧ x.2.1 ≠ d) : TabOk tab (listed.setIfInBounds i true) (fun j => if j = d then v else f j) := fun x hx hl => by
  simp only [if_neg (hu x hx).2]
  rcases listed_set hl with h1 | h1
  · exact absurd h1 (hu x hx).1
  · exact h x hx h1
theorem blk_lt {w : World} {g : Nat} {t : TypeId} {cs : Array Value} (h : Blk w g t cs) : g < w.heap.size := (Array.getElem?_eq_some_iff.1 h).1
end
set_option maxRecDepth 100000 in
set_option maxHeartbeats 3200000 in
theorem PrimCells_way (hO : Ops) (a b c d o : Int) (ha : Cell64 a) (hb : Cell64 b) (hc : Cell64 c) (hd : Cell64 d) (o0 : 0 ≤ o) (o1 : o ≤ 255) (w : World) :
    Calls Tryz.prog 6 #[.agg #[.int .i64 a, .int .i64 b, .int .i64 c, .int .i64 d], .int .u8 o] w fun e w' => e = .returned (.bool true) ∧ Touch [] w w' := by
  have hSh := fun W => shown_any W
  have HC := Lib.hid (And.intro ha (And.intro hb (And.intro hc hd)))
  have ha6 : Cell6 a := by unfold Cell64 at ha; unfold Cell6; omega
  have hOn := fun k (h : 1 ≤ k) W => ROne_all k a h ha6 W
  have hMn := fun k W => RMany_any k W
  clear ha hb hc hd ha6
  go_enter Tryz.func6, Tryz.ntmps6
  go_wp2_with fail
  refine (hSh _).mono ?_
  rintro _ w1 ⟨rfl, t1⟩
  clear hSh
  have bL := (Blk.new w 49 #[.int .i64 a, .int .i64 b, .int .i64 c, .int .i64 d]).touch t1 (by simp)
  have tw := ((Touch.refl [] w).alloc (.cells #[.int .i64 a, .int .i64 b, .int .i64 c, .int .i64 d] 49)).trans t1 (by simp)
  obtain ⟨z, hz⟩ : ∃ z, w.heap.size = z := ⟨_, rfl⟩
  rw [hz] at bL ⊢
  clear t1 hz
  have l0 := bL.cell 0
  have l1 := bL.cell 1
  go_upto_region 4 with (fail)
  obtain ⟨k, hk⟩ : ∃ k, o % 27 + 1 = k := ⟨_, rfl⟩
  rw [hk]
  have k1 : 1 ≤ k := by omega
  have k27 : k ≤ 27 := by omega
  have HK := Lib.hid (And.intro k1 k27)
  have hOn := hOn k k1
  have hMn := hMn k
  clear hk k1 k27
  obtain ⟨w0, hw0⟩ : ∃ w0, (one1 k a).1 = w0 := ⟨_, rfl⟩
  obtain ⟨e0, he0⟩ : ∃ e0, (one1 k a).2 = e0 := ⟨_, rfl⟩
  rw [hw0, he0] at hOn
  have HW := Lib.hid (And.intro hw0 he0)
  clear hw0 he0
  go_wp2_with fail
  refine (hOn _).mono ?_
  rintro _ _ ⟨rfl, rfl⟩
  clear hOn
  go_wp2_with fail
  obtain ⟨r1, hr1⟩ : ∃ r1, (run1 k a).1 = r1 := ⟨_, rfl⟩
  obtain ⟨q1, hq1⟩ : ∃ q1, (run1 k a).2 = q1 := ⟨_, rfl⟩
  have hR := run_any (w1.alloc (.cells #[.int .i64 a] 36)) k [a] (.slice (some ⟨w1.heap.size, 0, none⟩) 1 1) (CellsAt.blk (cs := [a]) (Blk.new w1 36 #[.int .i64 a]) 1) (by simp) (run1 k a).1 (run1 k a).2 (run1_len k a) (hO.one _ k a HK.out.1 HK.out.2)
  rw [hr1, hq1] at hR
  refine hR.mono ?_
  rintro _ w2 ⟨v, rfl, hcg, t2⟩
  have bL := (bL.alloc (.cells #[.int .i64 a] 36)).touch t2 (by simp)
  have tw := (tw.alloc (.cells #[.int .i64 a] 36)).trans t2 (by simp)
  clear t2 hR l0 l1
  have HG := Lib.hid (And.intro hcg (And.intro hr1 hq1))
  clear hcg hr1 hq1
  have l0 := bL.cell 0
  have l1 := bL.cell 1
  go_wp2_with fail
  refine (hMn _).mono ?_
  rintro _ _ ⟨rfl, rfl⟩
  clear hMn
  go_upto_if 50 with (fail)
  go_cut [8, 9, 10, 11] from 27 (fun s8 s9 s10 s11 wx => ∃ (x e : Int) (v : Value), s8 = .int .i64 x ∧ s9 = .int .i64 e ∧ s10 = v ∧ s11 = .int .i64 e ∧ Hid (e = 0 → CellsG wx v [x]) ∧ Blk wx z 49 (#[.int .i64 a, .int .i64 b, .int .i64 c, .int .i64 d]) ∧ Touch [] w wx)
  case first =>
    by_cases h10 : k ≤ 10
    · have hm : manyF k = 1 := by unfold manyF; rw [if_pos ⟨HK.out.1, h10⟩]
      have hm2 : (((manyF k : Nat) : Int) == 2) = false := by rw [hm]; rfl
      obtain rfl : e0 = r1 := by
        have h1 := HW.out.2
        have h2 := HG.out.2.1
        unfold one1 at h1
        unfold run1 at h2
        rw [if_pos h10] at h1 h2
        exact h1.symm.trans h2
      have HL := Lib.hid (show e0 = 0 → CellsG w2 v [w0] from fun h => by
        have h1 := HW.out
        have h2 := HG.out.2.2
        unfold one1 at h1
        unfold run1 at h2
        rw [if_pos h10] at h1 h2
        simp only [] at h2
        rw [if_pos (by rw [h1.2]; exact h), h1.1] at h2
        rw [h2]
        exact HG.out.1)
      clear h10 hm
      go_wp2_with fail
      go_meet
      exact ⟨w0, e0, v, rfl, rfl, rfl, rfl, HL, bL, tw⟩
    · have hk11 : 11 ≤ k := by omega
      have hm : manyF k = 2 := by unfold manyF; rw [if_neg (by omega), if_pos ⟨hk11, HK.out.2⟩]
      have hm2 : (((manyF k : Nat) : Int) == 2) = true := by rw [hm]; rfl
      have hTw := fun W => R1.RTwo_any k ⟨hk11, HK.out.2⟩ a b HC.out.1 HC.out.2.1 W
      have HK2 := Lib.hid hk11
      clear h10 hk11 hm
      obtain ⟨w3, hw3⟩ : ∃ w3, (twoR k a b).1 = w3 := ⟨_, rfl⟩
      obtain ⟨e3, he3⟩ : ∃ e3, (twoR k a b).2 = e3 := ⟨_, rfl⟩
      rw [hw3, he3] at hTw
      go_wp2_with fail
      refine (hTw _).mono ?_
      rintro _ _ ⟨rfl, rfl⟩
      clear hTw
      go_wp2_with fail
      have hR := run_any (w2.alloc (.cells #[.int .i64 a, .int .i64 b] 36)) k [a, b] (.slice (some ⟨w2.heap.size, 0, none⟩) 2 2) (CellsAt.blk (cs := [a, b]) (Blk.new w2 36 #[.int .i64 a, .int .i64 b]) 2) (by simp) (run2 k a b).1 (run2 k a b).2 (run2_len k a b) (hO.two _ k a b HK2.out HK.out.2)
      rw [show (run2 k a b).1 = e3 from he3] at hR
      refine hR.mono ?_
      rintro _ w4 ⟨v2, rfl, hcg, t2⟩
      have bL := (bL.alloc (.cells #[.int .i64 a, .int .i64 b] 36)).touch t2 (by simp)
      have tw := (tw.alloc (.cells #[.int .i64 a, .int .i64 b] 36)).trans t2 (by simp)
      clear t2 hR l0 l1
      have HL := Lib.hid (show e3 = 0 → CellsG w4 v2 [w3] from fun h => by
        have h2 : (run2 k a b).2 = [w3] := by
          unfold run2
          show (if (twoR k a b).2 = 0 then [(twoR k a b).1] else [a, b]) = _
          rw [if_pos (by rw [he3]; exact h), hw3]
        rw [← h2]
        exact hcg)
      clear hcg hw3 he3
      go_wp2_with fail
      go_meet
      exact ⟨w3, e3, v2, rfl, rfl, rfl, rfl, HL, bL, tw⟩
  case rest =>
    clear bL tw l0 l1 HG HW HK
    obtain ⟨x, e, v, rfl, rfl, rfl, rfl, HG, bL, tw⟩ := hcut
    go_upto_region 9 with (fail)
    go_cut [84] from 27 (fun s84 wx => s84 = .bool false ∧ Blk wx z 49 (#[.int .i64 a, .int .i64 b, .int .i64 c, .int .i64 d]) ∧ Touch [] w wx)
    case first =>
      have hee : (e != e) = false := by simp
      by_cases he : e = 0
      · have he0 : (e == 0) = true := by simp [he]
        have hS := Same_eq u10 (.slice (some ⟨wc.heap.size, 0, none⟩) 1 1) [x] (wc.alloc (.cells #[.int .i64 x] 36)) ((cellsG_row (HG.out he)).quiet ((Touch.refl [] wc).alloc _)) (RowR.blk (cs := [x]) (Blk.new wc 36 #[.int .i64 x]) 1) (by simp)
        have bL := bL.alloc (.cells #[.int .i64 x] 36)
        have tw := tw.alloc (.cells #[.int .i64 x] 36)
        clear he HG
        go_wp2_with fail
        refine hS.mono ?_
        rintro _ w3 ⟨rfl, t3⟩
        have bL := bL.touch t3 (by simp)
        have tw := tw.trans t3 (by simp)
        clear t3 hS
        go_wp2_with fail
        go_meet
        exact ⟨rfl, bL, tw⟩
      · have he0 : (e == 0) = false := by simp [he]
        clear he HG
        go_wp2_with fail
        go_meet
        exact ⟨rfl, bL, tw⟩
    case rest =>
      clear bL tw HG
      obtain ⟨rfl, bL, tw⟩ := hcut
      have l0 := bL.cell 0
      have l1 := bL.cell 1
      have l2 := bL.cell 2
      have l3 := bL.cell 3
      go_upto_region 11 with (fail)
      go_cut [12, 13] from 27 (fun s12 s13 wx => ∃ p q : Nat, s12 = .pointer (some ⟨p, 0, none⟩) ∧ s13 = .pointer (some ⟨q, 0, none⟩) ∧ Blk wx p 38 (#[.int .i64 a, .int .i64 b]) ∧ Blk wx q 38 (#[.int .i64 c, .int .i64 d]) ∧ Blk wx z 49 (#[.int .i64 a, .int .i64 b, .int .i64 c, .int .i64 d]) ∧ Touch [] w wx)
      case first =>
        clear l0 l1 l2 l3
        have hzl : z < wc.heap.size := blk_lt bL
        obtain ⟨m, hm⟩ : ∃ m, wc.heap.size = m := ⟨_, rfl⟩
        rw [hm] at hzl
        refine frame_any (fun g f => #[.agg #[.int .i64 a, .int .i64 b, .int .i64 c, .int .i64 d], .int .u8 o, .pointer (some ⟨z, 0, none⟩), undef, .bool false, .bool true, .func (.func 24) #[] #[], .int .i64 k, .int .i64 x, .int .i64 e, u10, .int .i64 e, f 12, f 13, undef, undef, undef, undef, undef, undef, undef, undef, undef, undef, undef, undef, undef, g 27, g 28, g 29, g 30, g 31, g 32, g 33, g 34, g 35, g 36, g 37, g 38, g 39, g 40, g 41, g 42, g 43, g 44, g 45, g 46, g 47, g 48, g 49, g 50, g 51, g 52, g 53, g 54, g 55, g 56, g 57, g 58, g 59, g 60, g 61, g 62, g 63, g 64, g 65, g 66, g 67, g 68, g 69, g 70, g 71, g 72, g 73, g 74, g 75, g 76, g 77, g 78, g 79, g 80, g 81, g 82, g 83, g 84, f 85, f 86, f 87, f 88, f 89, f 90, f 91, f 92, f 93, f 94, g 95, g 96, g 97, g 98, g 99, g 100, g 101, g 102, g 103, g 104, g 105, g 106, g 107, g 108, g 109, g 110, g 111, g 112, g 113, g 114, g 115, g 116, g 117, g 118, g 119, g 120, g 121, g 122, g 123, g 124, g 125, g 126, g 127, g 128, g 129, g 130, g 131, g 132, g 133, g 134, g 135, g 136, g 137, g 138, g 139, g 140, g 141, g 142, g 143, g 144, g 145, g 146, g 147, g 148, g 149, g 150, g 151, g 152, g 153, g 154, g 155, g 156, g 157, g 158, g 159, g 160, g 161, g 162, g 163, g 164, g 165, g 166, g 167, g 168, g 169, g 170, g 171, g 172, g 173, g 174, g 175, g 176, g 177, g 178, g 179, g 180, g 181, g 182, g 183, g 184, g 185, g 186, g 187, g 188, g 189, g 190]) rfl (fun g f => ?_)
        refine region_inv2 (fun listed a_ Wx => ∃ f : Nat → Value, a_ = { tmps := #[.agg #[.int .i64 a, .int .i64 b, .int .i64 c, .int .i64 d], .int .u8 o, .pointer (some ⟨z, 0, none⟩), undef, .bool false, .bool true, .func (.func 24) #[] #[], .int .i64 k, .int .i64 x, .int .i64 e, u10, .int .i64 e, f 12, f 13, undef, undef, undef, undef, undef, undef, undef, undef, undef, undef, undef, undef, undef, g 27, g 28, g 29, g 30, g 31, g 32, g 33, g 34, g 35, g 36, g 37, g 38, g 39, g 40, g 41, g 42, g 43, g 44, g 45, g 46, g 47, g 48, g 49, g 50, g 51, g 52, g 53, g 54, g 55, g 56, g 57, g 58, g 59, g 60, g 61, g 62, g 63, g 64, g 65, g 66, g 67, g 68, g 69, g 70, g 71, g 72, g 73, g 74, g 75, g 76, g 77, g 78, g 79, g 80, g 81, g 82, g 83, g 84, f 85, f 86, f 87, f 88, f 89, f 90, f 91, f 92, f 93, f 94, g 95, g 96, g 97, g 98, g 99, g 100, g 101, g 102, g 103, g 104, g 105, g 106, g 107, g 108, g 109, g 110, g 111, g 112, g 113, g 114, g 115, g 116, g 117, g 118, g 119, g 120, g 121, g 122, g 123, g 124, g 125, g 126, g 127, g 128, g 129, g 130, g 131, g 132, g 133, g 134, g 135, g 136, g 137, g 138, g 139, g 140, g 141, g 142, g 143, g 144, g 145, g 146, g 147, g 148, g 149, g 150, g 151, g 152, g 153, g 154, g 155, g 156, g 157, g 158, g 159, g 160, g 161, g 162, g 163, g 164, g 165, g 166, g 167, g 168, g 169, g 170, g 171, g 172, g 173, g 174, g 175, g 176, g 177, g 178, g 179, g 180, g 181, g 182, g 183, g 184, g 185, g 186, g 187, g 188, g 189, g 190], defers := [] } ∧ TabOk (tabC11 z a b c d) listed f ∧ Blk Wx z 49 (#[.int .i64 a, .int .i64 b, .int .i64 c, .int .i64 d]) ∧ Touch [] wc Wx ∧ PairAt listed f Wx 10 12 12 m a b ∧ PairAt listed f Wx 11 13 13 m c d ∧ Apart listed f) (by kernel_rfl) (by kernel_rfl) ?h0 ?step ?fin
        case h0 =>
          intro listed hs hl
          exact ⟨f, rfl, fun x _ h => (by rw [hl] at h; cases h), bL.touch (Touch.refl [] wc).drew (by simp), (Touch.refl [] wc).drew, fun h => (by rw [hl] at h; cases h), fun h => (by rw [hl] at h; cases h), fun h => (by rw [hl] at h; cases h)⟩
        case step =>
          rintro listed a_ Wx ⟨f, rfl, hT, bX, tq, hP, hQ, hA⟩ hC i o_ ho hli hdep
          try dsimp only
          have hi : i < 14 := (Array.getElem?_eq_some_iff.1 ho).1
          have l0 := bX.cell 0
          have l1 := bX.cell 1
          have l2 := bX.cell 2
          have l3 := bX.cell 3
          have hms : m ≤ Wx.heap.size := by rw [← hm]; exact tq.size
          rcases (by omega : i = 0 ∨ i = 1 ∨ i = 2 ∨ i = 3 ∨ i = 4 ∨ i = 5 ∨ i = 6 ∨ i = 7 ∨ i = 8 ∨ i = 9 ∨ i = 10 ∨ i = 11 ∨ i = 12 ∨ i = 13) with rfl | rfl | rfl | rfl | rfl | rfl | rfl | rfl | rfl | rfl | rfl | rfl | rfl | rfl
          · cases (show some _ = some o_ from ho)
            refine wpOp_of ho rfl ?_
            refine wp_value (v := .pointer (some ⟨z, 0, none⟩)) (w1 := Wx) ?_ ⟨_, rfl, hT.step (i := 0) (d := 85) (v := .pointer (some ⟨z, 0, none⟩)) (by intro x hx; simp only [tabC11, List.mem_cons, List.not_mem_nil, or_false] at hx; rcases hx with rfl | rfl | rfl | rfl | rfl | rfl | rfl | rfl | rfl | rfl <;> simp), bX, tq, hP.step (by omega) (by omega) (by omega), hQ.step (by omega) (by omega) (by omega), hA.step (by omega) (by omega) (by omega) (by omega)⟩
            clear hdep hC hli ho hT hP hQ hA bX
            first | (go_simp; done) | (go_simp; rfl)
          · cases (show some _ = some o_ from ho)
            have g85 : f 85 = .pointer (some ⟨z, 0, none⟩) := hT (0, 85, .pointer (some ⟨z, 0, none⟩)) (by simp [tabC11]) (hdep { on := 0, ground := .data } (by simp) rfl)
            refine wpOp_of ho rfl ?_
            refine wp_value (v := .int .i64 a) (w1 := Wx) ?_ ⟨_, rfl, hT.step (i := 1) (d := 86) (v := .int .i64 a) (by intro x hx; simp only [tabC11, List.mem_cons, List.not_mem_nil, or_false] at hx; rcases hx with rfl | rfl | rfl | rfl | rfl | rfl | rfl | rfl | rfl | rfl <;> simp), bX, tq, hP.step (by omega) (by omega) (by omega), hQ.step (by omega) (by omega) (by omega), hA.step (by omega) (by omega) (by omega) (by omega)⟩
            clear hdep hC hli ho hT hP hQ hA bX
            first | (go_simp; done) | (go_simp; rfl)
          · cases (show some _ = some o_ from ho)
            refine wpOp_of ho rfl ?_
            refine wp_value (v := .pointer (some ⟨z, 1, none⟩)) (w1 := Wx) ?_ ⟨_, rfl, hT.step (i := 2) (d := 87) (v := .pointer (some ⟨z, 1, none⟩)) (by intro x hx; simp only [tabC11, List.mem_cons, List.not_mem_nil, or_false] at hx; rcases hx with rfl | rfl | rfl | rfl | rfl | rfl | rfl | rfl | rfl | rfl <;> simp), bX, tq, hP.step (by omega) (by omega) (by omega), hQ.step (by omega) (by omega) (by omega), hA.step (by omega) (by omega) (by omega) (by omega)⟩
            clear hdep hC hli ho hT hP hQ hA bX
            first | (go_simp; done) | (go_simp; rfl)
          · cases (show some _ = some o_ from ho)
            have g87 : f 87 = .pointer (some ⟨z, 1, none⟩) := hT (2, 87, .pointer (some ⟨z, 1, none⟩)) (by simp [tabC11]) (hdep { on := 2, ground := .data } (by simp) rfl)
            refine wpOp_of ho rfl ?_
            refine wp_value (v := .int .i64 b) (w1 := Wx) ?_ ⟨_, rfl, hT.step (i := 3) (d := 88) (v := .int .i64 b) (by intro x hx; simp only [tabC11, List.mem_cons, List.not_mem_nil, or_false] at hx; rcases hx with rfl | rfl | rfl | rfl | rfl | rfl | rfl | rfl | rfl | rfl <;> simp), bX, tq, hP.step (by omega) (by omega) (by omega), hQ.step (by omega) (by omega) (by omega), hA.step (by omega) (by omega) (by omega) (by omega)⟩
            clear hdep hC hli ho hT hP hQ hA bX
            first | (go_simp; done) | (go_simp; rfl)
          · cases (show some _ = some o_ from ho)
            have g86 : f 86 = .int .i64 a := hT (1, 86, .int .i64 a) (by simp [tabC11]) (hdep { on := 1, ground := .data } (by simp) rfl)
            have g88 : f 88 = .int .i64 b := hT (3, 88, .int .i64 b) (by simp [tabC11]) (hdep { on := 3, ground := .data } (by simp) rfl)
            refine wpOp_of ho rfl ?_
            refine wp_value (v := .agg #[.int .i64 a, .int .i64 b]) (w1 := Wx) ?_ ⟨_, rfl, hT.step (i := 4) (d := 89) (v := .agg #[.int .i64 a, .int .i64 b]) (by intro x hx; simp only [tabC11, List.mem_cons, List.not_mem_nil, or_false] at hx; rcases hx with rfl | rfl | rfl | rfl | rfl | rfl | rfl | rfl | rfl | rfl <;> simp), bX, tq, hP.step (by omega) (by omega) (by omega), hQ.step (by omega) (by omega) (by omega), hA.step (by omega) (by omega) (by omega) (by omega)⟩
            clear hdep hC hli ho hT hP hQ hA bX
            first | (go_simp; done) | (go_simp; rfl)
          · cases (show some _ = some o_ from ho)
            refine wpOp_of ho rfl ?_
            refine wp_value (v := .pointer (some ⟨z, 2, none⟩)) (w1 := Wx) ?_ ⟨_, rfl, hT.step (i := 5) (d := 90) (v := .pointer (some ⟨z, 2, none⟩)) (by intro x hx; simp only [tabC11, List.mem_cons, List.not_mem_nil, or_false] at hx; rcases hx with rfl | rfl | rfl | rfl | rfl | rfl | rfl | rfl | rfl | rfl <;> simp), bX, tq, hP.step (by omega) (by omega) (by omega), hQ.step (by omega) (by omega) (by omega), hA.step (by omega) (by omega) (by omega) (by omega)⟩
            clear hdep hC hli ho hT hP hQ hA bX
            first | (go_simp; done) | (go_simp; rfl)
          · cases (show some _ = some o_ from ho)
            have g90 : f 90 = .pointer (some ⟨z, 2, none⟩) := hT (5, 90, .pointer (some ⟨z, 2, none⟩)) (by simp [tabC11]) (hdep { on := 5, ground := .data } (by simp) rfl)
            refine wpOp_of ho rfl ?_
            refine wp_value (v := .int .i64 c) (w1 := Wx) ?_ ⟨_, rfl, hT.step (i := 6) (d := 91) (v := .int .i64 c) (by intro x hx; simp only [tabC11, List.mem_cons, List.not_mem_nil, or_false] at hx; rcases hx with rfl | rfl | rfl | rfl | rfl | rfl | rfl | rfl | rfl | rfl <;> simp), bX, tq, hP.step (by omega) (by omega) (by omega), hQ.step (by omega) (by omega) (by omega), hA.step (by omega) (by omega) (by omega) (by omega)⟩
            clear hdep hC hli ho hT hP hQ hA bX
            first | (go_simp; done) | (go_simp; rfl)
          · cases (show some _ = some o_ from ho)
            refine wpOp_of ho rfl ?_
            refine wp_value (v := .pointer (some ⟨z, 3, none⟩)) (w1 := Wx) ?_ ⟨_, rfl, hT.step (i := 7) (d := 92) (v := .pointer (some ⟨z, 3, none⟩)) (by intro x hx; simp only [tabC11, List.mem_cons, List.not_mem_nil, or_false] at hx; rcases hx with rfl | rfl | rfl | rfl | rfl | rfl | rfl | rfl | rfl | rfl <;> simp), bX, tq, hP.step (by omega) (by omega) (by omega), hQ.step (by omega) (by omega) (by omega), hA.step (by omega) (by omega) (by omega) (by omega)⟩
            clear hdep hC hli ho hT hP hQ hA bX
            first | (go_simp; done) | (go_simp; rfl)
          · cases (show some _ = some o_ from ho)
            have g92 : f 92 = .pointer (some ⟨z, 3, none⟩) := hT (7, 92, .pointer (some ⟨z, 3, none⟩)) (by simp [tabC11]) (hdep { on := 7, ground := .data } (by simp) rfl)
            refine wpOp_of ho rfl ?_
            refine wp_value (v := .int .i64 d) (w1 := Wx) ?_ ⟨_, rfl, hT.step (i := 8) (d := 93) (v := .int .i64 d) (by intro x hx; simp only [tabC11, List.mem_cons, List.not_mem_nil, or_false] at hx; rcases hx with rfl | rfl | rfl | rfl | rfl | rfl | rfl | rfl | rfl | rfl <;> simp), bX, tq, hP.step (by omega) (by omega) (by omega), hQ.step (by omega) (by omega) (by omega), hA.step (by omega) (by omega) (by omega) (by omega)⟩
            clear hdep hC hli ho hT hP hQ hA bX
            first | (go_simp; done) | (go_simp; rfl)
          · cases (show some _ = some o_ from ho)
            have g91 : f 91 = .int .i64 c := hT (6, 91, .int .i64 c) (by simp [tabC11]) (hdep { on := 6, ground := .data } (by simp) rfl)
            have g93 : f 93 = .int .i64 d := hT (8, 93, .int .i64 d) (by simp [tabC11]) (hdep { on := 8, ground := .data } (by simp) rfl)
            refine wpOp_of ho rfl ?_
            refine wp_value (v := .agg #[.int .i64 c, .int .i64 d]) (w1 := Wx) ?_ ⟨_, rfl, hT.step (i := 9) (d := 94) (v := .agg #[.int .i64 c, .int .i64 d]) (by intro x hx; simp only [tabC11, List.mem_cons, List.not_mem_nil, or_false] at hx; rcases hx with rfl | rfl | rfl | rfl | rfl | rfl | rfl | rfl | rfl | rfl <;> simp), bX, tq, hP.step (by omega) (by omega) (by omega), hQ.step (by omega) (by omega) (by omega), hA.step (by omega) (by omega) (by omega) (by omega)⟩
            clear hdep hC hli ho hT hP hQ hA bX
            first | (go_simp; done) | (go_simp; rfl)
          · cases (show some _ = some o_ from ho)
            refine wpOp_of ho rfl ?_
            have hns : listed.getD 12 false = false := by
              cases e_ : listed.getD 12 false with
              | false => rfl
              | true =>
                have h2 := hC 12 _ rfl e_ { on := 10, ground := .data } (by simp) rfl
                rw [getD_false hli] at h2
                cases h2
            have hme : PairAt (listed.setIfInBounds 10 true) (fun j => if j = 12 then .pointer (some ⟨Wx.heap.size, 0, none⟩) else f j) (Wx.alloc (.cells #[.int .i64 0, .int .i64 0] 38)) 10 12 12 m a b := fun _ => ⟨Wx.heap.size, by simp, hms, by
              rw [getD_set_ne (by omega), hns]
              exact Blk.new Wx _ _⟩
            have hmo := (hQ.world (W' := Wx.alloc (.cells #[.int .i64 0, .int .i64 0] 38)) (fun p cs _ _ hb => hb.alloc _)).step (i := 10) (d := 12) (x := .pointer (some ⟨Wx.heap.size, 0, none⟩)) (by omega) (by omega) (by omega)
            have hap : Apart (listed.setIfInBounds 10 true) (fun j => if j = 12 then .pointer (some ⟨Wx.heap.size, 0, none⟩) else f j) := fun l1_ l2_ p_ q_ e1_ e2_ => by
              rw [getD_set_ne (by omega)] at l2_
              obtain ⟨q0, e0, _, hb⟩ := hQ l2_
              have := blk_lt hb
              simp at e1_
              simp only [if_neg (by omega : ¬ 13 = 12)] at e2_
              rw [e0] at e2_
              injection e2_ with e3_
              injection e3_ with e4_
              injection e4_ with e5_
              omega
            refine wp_value (v := .pointer (some ⟨Wx.heap.size, 0, none⟩)) (w1 := Wx.alloc (.cells #[.int .i64 0, .int .i64 0] 38)) ?_ ⟨_, rfl, tabC_other hT (i := 10) (d := 12) (v := .pointer (some ⟨Wx.heap.size, 0, none⟩)) (by intro x hx; simp only [tabC11, List.mem_cons, List.not_mem_nil, or_false] at hx; rcases hx with rfl | rfl | rfl | rfl | rfl | rfl | rfl | rfl | rfl | rfl <;> simp), bX.alloc _, tq.alloc _, hme, hmo, hap⟩
            clear hdep hC hli ho hT hP hQ hA bX hme hmo hap
            first | (go_simp; done) | (go_simp; rfl)
          · cases (show some _ = some o_ from ho)
            refine wpOp_of ho rfl ?_
            have hns : listed.getD 13 false = false := by
              cases e_ : listed.getD 13 false with
              | false => rfl
              | true =>
                have h2 := hC 13 _ rfl e_ { on := 11, ground := .data } (by simp) rfl
                rw [getD_false hli] at h2
                cases h2
            have hme : PairAt (listed.setIfInBounds 11 true) (fun j => if j = 13 then .pointer (some ⟨Wx.heap.size, 0, none⟩) else f j) (Wx.alloc (.cells #[.int .i64 0, .int .i64 0] 38)) 11 13 13 m c d := fun _ => ⟨Wx.heap.size, by simp, hms, by
              rw [getD_set_ne (by omega), hns]
              exact Blk.new Wx _ _⟩
            have hmo := (hP.world (W' := Wx.alloc (.cells #[.int .i64 0, .int .i64 0] 38)) (fun p cs _ _ hb => hb.alloc _)).step (i := 11) (d := 13) (x := .pointer (some ⟨Wx.heap.size, 0, none⟩)) (by omega) (by omega) (by omega)
            have hap : Apart (listed.setIfInBounds 11 true) (fun j => if j = 13 then .pointer (some ⟨Wx.heap.size, 0, none⟩) else f j) := fun l1_ l2_ p_ q_ e1_ e2_ => by
              rw [getD_set_ne (by omega)] at l1_
              obtain ⟨p0, e0, _, hb⟩ := hP l1_
              have := blk_lt hb
              simp at e2_
              simp only [if_neg (by omega : ¬ 12 = 13)] at e1_
              rw [e0] at e1_
              injection e1_ with e3_
              injection e3_ with e4_
              injection e4_ with e5_
              omega
            refine wp_value (v := .pointer (some ⟨Wx.heap.size, 0, none⟩)) (w1 := Wx.alloc (.cells #[.int .i64 0, .int .i64 0] 38)) ?_ ⟨_, rfl, tabC_other hT (i := 11) (d := 13) (v := .pointer (some ⟨Wx.heap.size, 0, none⟩)) (by intro x hx; simp only [tabC11, List.mem_cons, List.not_mem_nil, or_false] at hx; rcases hx with rfl | rfl | rfl | rfl | rfl | rfl | rfl | rfl | rfl | rfl <;> simp), bX.alloc _, tq.alloc _, hmo, hme, hap⟩
            clear hdep hC hli ho hT hP hQ hA bX hme hmo hap
            first | (go_simp; done) | (go_simp; rfl)
          · cases (show some _ = some o_ from ho)
            refine wpOp_of ho rfl ?_
            have hla : listed.getD 10 false = true := hdep { on := 10, ground := .data } (by simp) rfl
            have g89 : f 89 = .agg #[.int .i64 a, .int .i64 b] := hT (4, 89, .agg #[.int .i64 a, .int .i64 b]) (by simp [tabC11]) (hdep { on := 4, ground := .data } (by simp) rfl)
            obtain ⟨p, gp, hmp, hb⟩ := hP hla
            rw [if_neg (by rw [getD_false hli]; simp)] at hb
            have c0 := hb.cell 0
            have c1 := hb.cell 1
            have fz0 := hb.frozen 0
            have fz1 := hb.frozen 1
            have hzp : z ≠ p := by omega
            have hme : PairAt (listed.setIfInBounds 12 true) f ((Wx.setCell ⟨p, 0, none⟩ (.int .i64 a)).setCell ⟨p, 1, none⟩ (.int .i64 b)) 10 12 12 m a b := fun _ => ⟨p, gp, hmp, by
              rw [getD_set_same hli, if_pos rfl]
              exact hb.two_set _ _⟩
            have hmo := (hQ.world (W' := (Wx.setCell ⟨p, 0, none⟩ (.int .i64 a)).setCell ⟨p, 1, none⟩ (.int .i64 b)) (fun q cs eq hq hb2 => hb2.two_far (fun h => hA hla hq p q gp eq h.symm) _ _)).keep (i := 12) (by omega) (by omega)
            have tq2 : Touch [] wc ((Wx.setCell ⟨p, 0, none⟩ (.int .i64 a)).setCell ⟨p, 1, none⟩ (.int .i64 b)) := (tq.setCell (.inr (by show _ ≤ p; omega)) _).setCell (.inr (by show _ ≤ p; omega)) _
            refine wp_skip (w1 := (Wx.setCell ⟨p, 0, none⟩ (.int .i64 a)).setCell ⟨p, 1, none⟩ (.int .i64 b)) ?_ ⟨f, rfl, hT.keep (i := 12) (by intro x hx; simp only [tabC11, List.mem_cons, List.not_mem_nil, or_false] at hx; rcases hx with rfl | rfl | rfl | rfl | rfl | rfl | rfl | rfl | rfl | rfl <;> simp), bX.two_far hzp _ _, tq2, hme, hmo, hA.keep (by omega) (by omega)⟩
            clear hdep hC hli ho hT hP hQ hA bX hme hmo hb tq2
            first | (go_simp; done) | (go_simp; rfl)
          · cases (show some _ = some o_ from ho)
            refine wpOp_of ho rfl ?_
            have hla : listed.getD 11 false = true := hdep { on := 11, ground := .data } (by simp) rfl
            have g94 : f 94 = .agg #[.int .i64 c, .int .i64 d] := hT (9, 94, .agg #[.int .i64 c, .int .i64 d]) (by simp [tabC11]) (hdep { on := 9, ground := .data } (by simp) rfl)
            obtain ⟨p, gp, hmp, hb⟩ := hQ hla
            rw [if_neg (by rw [getD_false hli]; simp)] at hb
            have c0 := hb.cell 0
            have c1 := hb.cell 1
            have fz0 := hb.frozen 0
            have fz1 := hb.frozen 1
            have hzp : z ≠ p := by omega
            have hme : PairAt (listed.setIfInBounds 13 true) f ((Wx.setCell ⟨p, 0, none⟩ (.int .i64 c)).setCell ⟨p, 1, none⟩ (.int .i64 d)) 11 13 13 m c d := fun _ => ⟨p, gp, hmp, by
              rw [getD_set_same hli, if_pos rfl]
              exact hb.two_set _ _⟩
            have hmo := (hP.world (W' := (Wx.setCell ⟨p, 0, none⟩ (.int .i64 c)).setCell ⟨p, 1, none⟩ (.int .i64 d)) (fun q cs eq hq hb2 => hb2.two_far (fun h => hA hq hla q p eq gp h) _ _)).keep (i := 13) (by omega) (by omega)
            have tq2 : Touch [] wc ((Wx.setCell ⟨p, 0, none⟩ (.int .i64 c)).setCell ⟨p, 1, none⟩ (.int .i64 d)) := (tq.setCell (.inr (by show _ ≤ p; omega)) _).setCell (.inr (by show _ ≤ p; omega)) _
            refine wp_skip (w1 := (Wx.setCell ⟨p, 0, none⟩ (.int .i64 c)).setCell ⟨p, 1, none⟩ (.int .i64 d)) ?_ ⟨f, rfl, hT.keep (i := 13) (by intro x hx; simp only [tabC11, List.mem_cons, List.not_mem_nil, or_false] at hx; rcases hx with rfl | rfl | rfl | rfl | rfl | rfl | rfl | rfl | rfl | rfl <;> simp), bX.two_far hzp _ _, tq2, hmo, hme, hA.keep (by omega) (by omega)⟩
            clear hdep hC hli ho hT hP hQ hA bX hme hmo hb tq2
            first | (go_simp; done) | (go_simp; rfl)
        case fin =>
          rintro listed a_ Wx hl ⟨f, rfl, hT, bX, tq, hP, hQ, hA⟩
          obtain ⟨p, gp, _, hp⟩ := hP (hl 10 (by decide))
          obtain ⟨q, gq, _, hq⟩ := hQ (hl 11 (by decide))
          rw [if_pos (hl 12 (by decide))] at hp
          rw [if_pos (hl 13 (by decide))] at hq
          rw [gp, gq]
          have tw2 := tw.trans tq (by simp)
          clear hT hP hQ hA hl
          dsimp only
          go_wp2_with fail
          go_meet
          exact ⟨p, q, rfl, rfl, hp, hq, bX, tw2⟩
      case rest =>
        clear bL tw l0 l1 l2 l3
        obtain ⟨p, q, rfl, rfl, bP, bQ, bL, tw⟩ := hcut
        obtain ⟨s1, hs1⟩ : ∃ s1, (addP (a, b) (c, d)).1 = s1 := ⟨_, rfl⟩
        obtain ⟨s2, hs2⟩ : ∃ s2, (addP (a, b) (c, d)).2 = s2 := ⟨_, rfl⟩
        have hAd := fun W => PAdd_any (a, b) (c, d) W
        have hRa := hO.add wc a b c d (by intro y hy; simp only [List.mem_cons, List.not_mem_nil, or_false] at hy; rcases hy with rfl | rfl | rfl | rfl; exact HC.out.1; exact HC.out.2.1; exact HC.out.2.2.1; exact HC.out.2.2.2)
        unfold pairW at hAd
        rw [hs1, hs2] at hAd hRa
        clear hs1 hs2
        have P0 := bP.cell 0
        have P1 := bP.cell 1
        have Q0 := bQ.cell 0
        have Q1 := bQ.cell 1
        have l0 := bL.cell 0
        have l1 := bL.cell 1
        have l2 := bL.cell 2
        have l3 := bL.cell 3
        go_wp2_with fail
        refine (run_any wc 44 [a, b, c, d] (.slice (some ⟨z, 0, none⟩) 4 4) (CellsAt.blk (cs := [a, b, c, d]) bL 4) (by simp) 0 [s1, s2] (by simp) hRa).mono ?_
        rintro _ w3 ⟨v1, rfl, hcg, t3⟩
        clear hRa
        clear P0 P1 Q0 Q1 l0 l1 l2 l3
        have bP := bP.touch t3 (by simp)
        have bQ := bQ.touch t3 (by simp)
        have bL := bL.touch t3 (by simp)
        have tw := tw.trans t3 (by simp)
        clear t3
        have HV1 := Lib.hid (cellsG_row hcg)
        clear hcg
        have P0 := bP.cell 0
        have P1 := bP.cell 1
        have Q0 := bQ.cell 0
        have Q1 := bQ.cell 1
        have l0 := bL.cell 0
        have l1 := bL.cell 1
        have l2 := bL.cell 2
        have l3 := bL.cell 3
        go_wp2_with fail
        refine (hAd _).mono ?_
        rintro _ w4 ⟨rfl, t4⟩
        clear hAd
        clear P0 P1 Q0 Q1 l0 l1 l2 l3
        have bP := bP.touch t4 (by simp)
        have bQ := bQ.touch t4 (by simp)
        have bL := bL.touch t4 (by simp)
        have tw := tw.trans t4 (by simp)
        have HV1 := Lib.hid (HV1.out.quiet t4)
        clear t4
        have bS := Blk.new w4 38 #[.int .i64 s1, .int .i64 s2]
        have bP := bP.alloc (.cells #[.int .i64 s1, .int .i64 s2] 38)
        have bL := bL.alloc (.cells #[.int .i64 s1, .int .i64 s2] 38)
        have tw := tw.alloc (.cells #[.int .i64 s1, .int .i64 s2] 38)
        have HV1 := Lib.hid (HV1.out.quiet ((Touch.refl [] w4).alloc (.cells #[.int .i64 s1, .int .i64 s2] 38)))
        obtain ⟨y, hy⟩ : ∃ y, w4.heap.size = y := ⟨_, rfl⟩
        go_upto_region 14 with (fail)
        rw [hy] at bS
        try rw [hy]
        clear hy bQ
        generalize w4.alloc (.cells #[.int .i64 s1, .int .i64 s2] 38) = w5 at *
        have hDv := fun W => PUDiv_any (a, b) c HC.out.1 HC.out.2.1 HC.out.2.2.1 W
        obtain ⟨r, hr⟩ : ∃ r, (udivT (a, b) c).1.1 = r := ⟨_, rfl⟩
        obtain ⟨u, hu⟩ : ∃ u, (udivT (a, b) c).1.2 = u := ⟨_, rfl⟩
        obtain ⟨h, hh⟩ : ∃ h, (udivT (a, b) c).2 = h := ⟨_, rfl⟩
        have hRd := fun W => hO.div W a b c (by intro y hy; simp only [List.mem_cons, List.not_mem_nil, or_false] at hy; rcases hy with rfl | rfl | rfl; exact HC.out.1; exact HC.out.2.1; exact HC.out.2.2.1)
        unfold pairW at hDv
        rw [hr, hu, hh] at hDv hRd
        clear hr hu hh
        have P0 := bP.cell 0
        have P1 := bP.cell 1
        have l2 := bL.cell 2
        go_wp2_with fail
        refine (hDv _).mono ?_
        rintro _ w6 ⟨rfl, t6⟩
        clear hDv P0 P1 l2 bP
        have bS := bS.touch t6 (by simp)
        have bL := bL.touch t6 (by simp)
        have tw := tw.trans t6 (by simp)
        have HV1 := Lib.hid (HV1.out.quiet t6)
        clear t6
        have l0 := bL.cell 0
        have l1 := bL.cell 1
        have l2 := bL.cell 2
        go_wp2_with fail
        have hR := run_any (w6.alloc (.cells #[.int .i64 a, .int .i64 b, .int .i64 c] 36)) 55 [a, b, c] (.slice (some ⟨w6.heap.size, 0, none⟩) 3 3) (CellsAt.blk (cs := [a, b, c]) (Blk.new w6 36 #[.int .i64 a, .int .i64 b, .int .i64 c]) 3) (by simp) h _ (by split <;> simp) (hRd _)
        refine hR.mono ?_
        rintro _ w7 ⟨v2, rfl, hcg, t7⟩
        clear hR hRd l0 l1 l2
        have bS := (bS.alloc (.cells #[.int .i64 a, .int .i64 b, .int .i64 c] 36)).touch t7 (by simp)
        have bL := (bL.alloc (.cells #[.int .i64 a, .int .i64 b, .int .i64 c] 36)).touch t7 (by simp)
        have tw := (tw.alloc (.cells #[.int .i64 a, .int .i64 b, .int .i64 c] 36)).trans t7 (by simp)
        have HV1 := Lib.hid (HV1.out.quiet (((Touch.refl [] w6).alloc (.cells #[.int .i64 a, .int .i64 b, .int .i64 c] 36)).trans t7 (by simp)))
        have HV2 := Lib.hid (show h = 0 → RowR w7 v2 [r, u] from fun h0 => by rw [if_pos h0] at hcg; exact cellsG_row hcg)
        clear t7 hcg
        go_upto_region 16 with (fail)
        have S0 := bS.cell 0
        have S1 := bS.cell 1
        go_cut [152] from 27 (fun s152 wx => s152 = .bool false ∧ Blk wx z 49 (#[.int .i64 a, .int .i64 b, .int .i64 c, .int .i64 d]) ∧ Touch [] w wx)
        case first =>
          have hhh : (h != h) = false := by simp
          have hS1 := Same_eq v1 (.slice (some ⟨w7.heap.size, 0, none⟩) 2 2) [s1, s2] (w7.alloc (.cells #[.int .i64 s1, .int .i64 s2] 36)) (HV1.out.quiet ((Touch.refl [] w7).alloc _)) (RowR.blk (cs := [s1, s2]) (Blk.new w7 36 #[.int .i64 s1, .int .i64 s2]) 2) (by simp)
          have bL := bL.alloc (.cells #[.int .i64 s1, .int .i64 s2] 36)
          have tw := tw.alloc (.cells #[.int .i64 s1, .int .i64 s2] 36)
          have tq := (Touch.refl [] w7).alloc (.cells #[.int .i64 s1, .int .i64 s2] 36)
          by_cases h0 : h = 0
          · have hr0 : (h == 0) = true := by simp [h0]
            have HV := Lib.hid (HV2.out h0)
            clear HV2 h0
            go_wp2_with fail
            refine hS1.mono ?_
            rintro _ w8 ⟨rfl, t8⟩
            have bL := bL.touch t8 (by simp)
            have tw := tw.trans t8 (by simp)
            have tq := tq.trans t8 (by simp)
            have hS2 := Same_eq v2 (.slice (some ⟨w8.heap.size, 0, none⟩) 2 2) [r, u] (w8.alloc (.cells #[.int .i64 r, .int .i64 u] 36)) (HV.out.quiet (tq.alloc _)) (RowR.blk (cs := [r, u]) (Blk.new w8 36 #[.int .i64 r, .int .i64 u]) 2) (by simp)
            clear t8 hS1 tq S0 S1
            go_wp2_with fail
            refine hS2.mono ?_
            rintro _ w9 ⟨rfl, t9⟩
            have bL := (bL.alloc (.cells #[.int .i64 r, .int .i64 u] 36)).touch t9 (by simp)
            have tw := (tw.alloc (.cells #[.int .i64 r, .int .i64 u] 36)).trans t9 (by simp)
            clear t9 hS2
            go_wp2_with fail
            go_meet
            exact ⟨rfl, bL, tw⟩
          · have hr0 : (h == 0) = false := by simp [h0]
            clear HV2 h0
            go_wp2_with fail
            refine hS1.mono ?_
            rintro _ w8 ⟨rfl, t8⟩
            have bL := bL.touch t8 (by simp)
            have tw := tw.trans t8 (by simp)
            clear t8 hS1 tq S0 S1
            go_wp2_with fail
            go_meet
            exact ⟨rfl, bL, tw⟩
        case rest =>
          clear bL tw bS S0 S1 HV1 HV2
          obtain ⟨rfl, bL, tw⟩ := hcut
          have l0 := bL.cell 0
          have l1 := bL.cell 1
          go_upto_region 19 with (fail)
          obtain ⟨m, hm⟩ : ∃ m, o % 8 + 3 = m := ⟨_, rfl⟩
          rw [hm]
          have m3 : 3 ≤ m := by omega
          have m10 : m ≤ 10 := by omega
          have HM := Lib.hid (And.intro m3 m10)
          have hTw := fun W => RReal_any m ⟨m3, m10⟩ a b HC.out.1 HC.out.2.1 W
          have hRr := fun W => hO.real W (m - 1 + 61) a b (by have := HM.out; omega) (by have := HM.out; omega)
          rw [show m - 1 + 61 - 60 = m by omega] at hRr
          obtain ⟨x1, hx1⟩ : ∃ x1, twoRl m a b = x1 := ⟨_, rfl⟩
          rw [hx1] at hTw hRr
          clear hx1
          go_wp2_with fail
          refine (hTw _).mono ?_
          rintro _ w8 ⟨rfl, t8⟩
          clear hTw l0 l1
          have bL := bL.touch t8 (by simp)
          have tw := tw.trans t8 (by simp)
          clear t8
          have l0 := bL.cell 0
          have l1 := bL.cell 1
          go_wp2_with fail
          have hR := run_any (w8.alloc (.cells #[.int .i64 a, .int .i64 b] 36)) (m - 1 + 61) [a, b] (.slice (some ⟨w8.heap.size, 0, none⟩) 2 2) (CellsAt.blk (cs := [a, b]) (Blk.new w8 36 #[.int .i64 a, .int .i64 b]) 2) (by simp) 0 [x1] (by simp) (hRr _)
          refine hR.mono ?_
          rintro _ w9 ⟨v3, rfl, hcg, t9⟩
          clear hR hRr l0 l1 bL
          have tw := (tw.alloc (.cells #[.int .i64 a, .int .i64 b] 36)).trans t9 (by simp)
          clear t9
          have hS := Same_eq v3 (.slice (some ⟨w9.heap.size, 0, none⟩) 1 1) [x1] (w9.alloc (.cells #[.int .i64 x1] 36)) ((cellsG_row hcg).quiet ((Touch.refl [] w9).alloc _)) (RowR.blk (cs := [x1]) (Blk.new w9 36 #[.int .i64 x1]) 1) (by simp)
          clear hcg
          go_wp2_with fail
          refine hS.mono ?_
          rintro _ w10 ⟨rfl, t10⟩
          have tw := (tw.alloc (.cells #[.int .i64 x1] 36)).trans t10 (by simp)
          clear t10 hS
          go_wp2_with fail
          go_ret
          exact ⟨rfl, tw⟩
end Go.Proofs.YtkbchpaofmlhgaaGreatDoor

/- PrimCells: what is done to a state that holds just the cells that a word takes. -/
namespace Go.Proofs.YtkbchpaofmlhgaaGreatDoor
open Go.RowKit

theorem RunIs.of {w0 : World} {op : Int} {n : Nat} {act : List Int → PS → (List Int × Int) × PS} {l : List Int} {r : Int} {res : List Int}
    (hd : ∀ (w : World) (s : Nat) (S : PS), Live w0 w s S → S.ok → S.st = l → Calls Tryz.prog 14 #[.pointer (some ⟨s, 0, none⟩), .int .i64 op] w fun e w' => e = .returned (.int .i64 (doP n act S).1) ∧ Live w0 w' s (doP n act S).2)
    (hr : ∀ S : PS, S.st = l → (doP n act S).1 = r ∧ (doP n act S).2.st = res) : RunIs w0 op l r res := by
  intro w s S h hok hl
  refine (hd w s S h hok hl).mono ?_
  rintro _ w' ⟨rfl, h2⟩
  obtain ⟨e1, e2⟩ := hr S hl
  exact ⟨by rw [e1], _, h2, e2⟩
theorem run_C {w0 : World} {op : Int} {n : Nat} {act : List Int → PS → (List Int × Int) × PS} {l : List Int} {r : Int} {res : List Int} (hsem : OpSemC op n (fun _ _ => True) act) (h1 : 1 ≤ op) (h2 : op ≤ 27) (hn : n ≤ 4) (hl : l.length ≤ 4)
    (hr : ∀ S : PS, S.st = l → (doP n act S).1 = r ∧ (doP n act S).2.st = res) : RunIs w0 op l r res :=
  RunIs.of (fun w s S h hok hS => by
    obtain ⟨F, k1, k2, k3⟩ := h
    refine (Do_semC op n _ act hsem h1 h2 hn w s F S k1 hok (by rw [hS]; omega) (fun _ => trivial)).mono ?_
    rintro _ w' ⟨F', rfl, j1, j2, j3⟩
    exact ⟨rfl, Live.next j1 k2 k3 j2 j3⟩) hr
theorem run_R {w0 : World} {op : Int} {n : Nat} {act : List Int → PS → (List Int × Int) × PS} {l : List Int} {r : Int} {res : List Int} (hsem : OpSemC op n (fun _ _ => True) act) (h1 : 61 ≤ op) (h2 : op ≤ 70) (hn : n ≤ 4) (hl : l.length ≤ 4)
    (hr : ∀ S : PS, S.st = l → (doP n act S).1 = r ∧ (doP n act S).2.st = res) : RunIs w0 op l r res :=
  RunIs.of (fun w s S h hok hS => by
    obtain ⟨F, k1, k2, k3⟩ := h
    refine (Do_semR op n _ act hsem h1 h2 hn w s F S k1 hok (by rw [hS]; omega) (fun _ => trivial)).mono ?_
    rintro _ w' ⟨F', rfl, j1, j2, j3⟩
    exact ⟨rfl, Live.next j1 k2 k3 j2 j3⟩) hr
theorem run_P {w0 : World} {op : Int} {n : Nat} {act : List Int → PS → (List Int × Int) × PS} {l : List Int} {r : Int} {res : List Int} (hsem : OpSem op n (fun l _ => AllC l) act) (h1 : 43 ≤ op) (h2 : op < 61) (hn : n ≤ 4) (hl : l.length ≤ 4) (hc : AllC l)
    (hr : ∀ S : PS, S.st = l → (doP n act S).1 = r ∧ (doP n act S).2.st = res) : RunIs w0 op l r res :=
  RunIs.of (fun w s S h hok hS => live_do h hsem h1 (by omega) (.inl h2) hn hok (by rw [hS]; omega) (fun _ x hx => hc x (by rw [← hS]; exact List.mem_of_mem_drop hx))) hr
/-- a word that takes all that is there -/
theorem doP_full {n : Nat} {act : List Int → PS → (List Int × Int) × PS} {l res : List Int} {r : Int} (hl : l.length = n) (hres : res.length ≤ 128) (ha : ∀ S, act l S = ((res, r), S)) (S : PS) (hS : S.st = l) :
    (doP n act S).1 = r ∧ (doP n act S).2.st = if r = 0 then res else l := by
  have h1 : S.st.drop (S.st.length - n) = l := by rw [hS, hl, Nat.sub_self, List.drop_zero]
  have h2 : S.st.take (S.st.length - n) = [] := by rw [hS, hl, Nat.sub_self, List.take_zero]
  unfold doP
  rw [if_neg (by rw [hS]; omega), h1, h2]
  simp only [ha]
  by_cases hr : r = 0
  · rw [if_pos hr, if_pos (by simpa using hres), if_pos hr]
    exact ⟨hr.symm, rfl⟩
  · rw [if_neg hr, if_neg hr]
    exact ⟨rfl, hS⟩
theorem doP_under {n : Nat} {act : List Int → PS → (List Int × Int) × PS} {l : List Int} (hl : l.length < n) (S : PS) (hS : S.st = l) : (doP n act S).1 = -4 ∧ (doP n act S).2.st = l := by
  unfold doP
  rw [if_pos (by rw [hS]; exact hl)]
  exact ⟨rfl, hS⟩

theorem run_one (w0 : World) (k a : Int) (h : 1 ≤ k ∧ k ≤ 10) : RunIs w0 k [a] (oneF k a).2 (if (oneF k a).2 = 0 then [(oneF k a).1] else [a]) :=
  run_C (cell1_sem k (by unfold manyF; rw [if_pos h])) h.1 (by omega) (by omega) (by simp) (doP_full rfl (by simp) (fun _ => rfl))
theorem run_few (w0 : World) (k a : Int) (h : 11 ≤ k ∧ k ≤ 27) : RunIs w0 k [a] (-4) [a] :=
  run_C (cell2_sem k (by unfold manyF; rw [if_neg (by omega), if_pos h])) (by omega) h.2 (by omega) (by simp) (doP_under (by simp))
theorem run_two (w0 : World) (k a b : Int) (h : 11 ≤ k ∧ k ≤ 27) : RunIs w0 k [a, b] (twoR k a b).2 (if (twoR k a b).2 = 0 then [(twoR k a b).1] else [a, b]) :=
  run_C (cell2_sem k (by unfold manyF; rw [if_neg (by omega), if_pos h])) (by omega) h.2 (by omega) (by simp) (doP_full rfl (by simp) (fun _ => rfl))
theorem run_add2 (w0 : World) (a b c d : Int) (hc : AllC [a, b, c, d]) : RunIs w0 44 [a, b, c, d] 0 [(addP (a, b) (c, d)).1, (addP (a, b) (c, d)).2] :=
  run_P pair44 (by omega) (by omega) (by omega) (by simp) hc (fun S hS => by
    have h := doP_full (n := 4) (l := [a, b, c, d]) (res := [(addP (a, b) (c, d)).1, (addP (a, b) (c, d)).2]) (r := 0) (act := fun l S => (([(pf44 l).1, (pf44 l).2], 0), S)) rfl (by simp) (fun _ => rfl) S hS
    rw [if_pos rfl] at h
    exact h)
theorem run_udiv (w0 : World) (a b c : Int) (hc : AllC [a, b, c]) : RunIs w0 55 [a, b, c] (udivT (a, b) c).2 (if (udivT (a, b) c).2 = 0 then [(udivT (a, b) c).1.1, (udivT (a, b) c).1.2] else [a, b, c]) :=
  run_P pair55 (by omega) (by omega) (by omega) (by simp) hc (doP_full rfl (by simp) (fun _ => rfl))
theorem run_real (w0 : World) (k a b : Int) (h : 63 ≤ k ∧ k ≤ 70) : RunIs w0 k [a, b] 0 [twoRl (k - 60) a b] :=
  run_R (real2_sem k h) (by omega) h.2 (by omega) (by simp) (fun S hS => by
    have h := doP_full (n := 2) (l := [a, b]) (res := [twoRl (k - 60) a b]) (r := 0) (act := fun l S => (([twoRl (k - 60) (l.getD 0 0) (l.getD 1 0)], 0), S)) rfl (by simp) (fun _ => rfl) S hS
    rw [if_pos rfl] at h
    exact h)
end Go.Proofs.YtkbchpaofmlhgaaGreatDoor

/- PrimCells: the walk, with what package prim does. -/
namespace Go.Proofs.YtkbchpaofmlhgaaGreatDoor
open Go.RowKit

theorem cells_ops : Ops where
  one w k a h1 h2 := by
    unfold run1
    by_cases h : k ≤ 10
    · rw [if_pos h]
      exact run_one w k a ⟨h1, h⟩
    · rw [if_neg h]
      exact run_few w k a ⟨by omega, h2⟩
  two w k a b h1 h2 := run_two w k a b ⟨h1, h2⟩
  add w a b c d h := run_add2 w a b c d h
  div w a b c h := run_udiv w a b c h
  real w k a b h1 h2 := run_real w k a b ⟨h1, h2⟩
theorem PrimCells_walk (a b c d o : Int) (w : World) (ha : -9223372036854775808 ≤ a ∧ a ≤ 9223372036854775807) (hb : -9223372036854775808 ≤ b ∧ b ≤ 9223372036854775807) (hc : -9223372036854775808 ≤ c ∧ c ≤ 9223372036854775807) (hd : -9223372036854775808 ≤ d ∧ d ≤ 9223372036854775807) (ho : 0 ≤ o ∧ o ≤ 255) :
    Calls Tryz.prog 6 #[.agg #[.int .i64 a, .int .i64 b, .int .i64 c, .int .i64 d], .int .u8 o] w fun e w' => e = .returned (.bool true) ∧ Touch [] w w' :=
  PrimCells_way cells_ops a b c d o ha hb hc hd ho.1 ho.2 w
end Go.Proofs.YtkbchpaofmlhgaaGreatDoor
