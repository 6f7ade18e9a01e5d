import Derived.Test.YtkbchpaofmlhgaaGreatDoorJSignA
/- The package pair, the rest: twice, half, comparisons, products with signs, quotients of any cells. -/
namespace Go.Proofs.YtkbchpaofmlhgaaGreatDoor
open Go.RowKit

/-- every one is a cell -/
def AllC (l : List Int) : Prop := ∀ x ∈ l, Cell64 x
/-- a pair as a number without a sign -/
def numP (p : Int × Int) : Nat := b64 p.1 + 18446744073709551616 * b64 p.2
theorem numP_lt (p : Int × Int) : numP p < 340282366920938463463374607431768211456 := by have := b64_lt p.1; have := b64_lt p.2; unfold numP; omega
theorem pl_numP (p : Int × Int) (h : Cell64 p.1) : pl (numP p) = p.1 := by unfold pl numP cellOf b64 Cell64 at *; split <;> omega
theorem ph_numP (p : Int × Int) (h : Cell64 p.2) : ph (numP p) = p.2 := by unfold ph numP cellOf b64 Cell64 at *; split <;> omega
theorem two_numP (p : Int × Int) (h1 : Cell64 p.1) (h2 : Cell64 p.2) : two (numP p) = #[.int .i64 p.1, .int .i64 p.2] := by unfold two; rw [pl_numP p h1, ph_numP p h2]
theorem cellOf_b64 (a : Int) (h : Cell64 a) : cellOf (b64 a) = a := by unfold cellOf b64 Cell64 at *; split <;> omega

/-- what is left, and the quotient, without signs -/
def udivT (p : Int × Int) (b : Int) : (Int × Int) × Int :=
  if b = 0 then ((0, 0), -10) else if b64 b ≤ b64 p.2 then ((0, 0), -11) else ((cellOf (numP p % b64 b), cellOf (numP p / b64 b)), 0)
theorem UDiv_tot (p : Int × Int) (b : Int) (h1 : Cell64 p.1) (h2 : Cell64 p.2) (hb : Cell64 b) (w : World) :
    Calls Tryz.prog 129 #[pairW p, .int .i64 b] w fun e w' => e = .returned (.tuple #[.int .i64 (udivT p b).1.1, .int .i64 (udivT p b).1.2, .int .i64 (udivT p b).2]) ∧ Touch [] w w' := by
  unfold udivT
  by_cases hb0 : b = 0
  · rw [if_pos hb0]
    subst hb0
    obtain ⟨x, y⟩ := p
    unfold pairW
    clear h1 h2 hb
    go_enter Tryz.func129, Tryz.ntmps129
    go_wp2_with fail
    go_ret3
    exact ⟨rfl, (Touch.refl [] w).alloc _⟩
  · rw [if_neg hb0]
    by_cases hlt : b64 b ≤ b64 p.2
    · rw [if_pos hlt]
      obtain ⟨x, y⟩ := p
      have e1 := b64_wrap y
      have e2 := b64_wrap b
      have g1 : (b64 y : Int) ≥ (b64 b : Int) := by simp only at hlt; omega
      have g2 : (b == 0) = false := beq_eq_false_iff_ne.2 hb0
      clear h1 h2 hb hlt
      unfold pairW
      obtain ⟨Y, hY⟩ : ∃ z : Int, (b64 y : Int) = z := ⟨_, rfl⟩
      obtain ⟨B, hB⟩ : ∃ z : Int, (b64 b : Int) = z := ⟨_, rfl⟩
      rw [hY] at e1 g1
      rw [hB] at e2 g1
      clear hY hB
      go_enter Tryz.func129, Tryz.ntmps129
      go_wp2_with fail
      go_ret3
      exact ⟨rfl, (Touch.refl [] w).alloc _⟩
    · rw [if_neg hlt]
      have hp0 : 0 < b64 b := by unfold b64 Cell64 at *; omega
      have h := udivP (numP p) (b64 b) (numP_lt p) hp0 (b64_lt b) (by have := b64_lt p.1; unfold numP; omega) w
      rw [two_numP p h1 h2, cellOf_b64 b hb] at h
      exact h
theorem udivT_cell (p : Int × Int) (b : Int) : Cell64 (udivT p b).1.1 ∧ Cell64 (udivT p b).1.2 := by
  have z : Cell64 0 := by unfold Cell64; decide
  have hc : ∀ n, n < 18446744073709551616 → Cell64 (cellOf n) := fun n h => cell_bounds n h
  unfold udivT
  split
  · exact ⟨z, z⟩
  · rename_i hb0
    split
    · exact ⟨z, z⟩
    · rename_i h
      have := b64_lt b
      have := b64_lt p.1
      have hp0 : 0 < b64 b := by omega
      refine ⟨hc _ (Nat.lt_trans (Nat.mod_lt _ hp0) (b64_lt b)), hc _ ?_⟩
      rw [Nat.div_lt_iff_lt_mul hp0]
      unfold numP
      omega
theorem udivT_err (p : Int × Int) (b : Int) : (udivT p b).2 = 0 ∨ (udivT p b).2 = -10 ∨ (udivT p b).2 = -11 := by
  unfold udivT
  split
  · exact .inr (.inl rfl)
  · split
    · exact .inr (.inr rfl)
    · exact .inl rfl

/-- twice, half -/
def twiceP (p : Int × Int) : Int × Int := (wrap64 (p.1 * 2), bits .or .i64 (wrap64 (p.2 * 2)) (wrap64 (IntKind.u64.wrap p.1 / 9223372036854775808)))
theorem Twice_any (p : Int × Int) (w : World) : Calls Tryz.prog 114 #[pairW p] w fun e w' => e = .returned (pairW (twiceP p)) ∧ Touch [] w w' := by
  obtain ⟨x, y⟩ := p
  unfold pairW twiceP
  go_enter Tryz.func114, Tryz.ntmps114
  go_wp2_with fail
  go_returns
  exact ⟨rfl, ((Touch.refl _ _).alloc _).alloc _⟩
def halfP (p : Int × Int) : Int × Int := (wrap64 (bits .or .u64 (IntKind.u64.wrap p.1 / 2) (IntKind.u64.wrap (IntKind.u64.wrap p.2 * 9223372036854775808))), p.2 / 2)
theorem Half_any (p : Int × Int) (w : World) : Calls Tryz.prog 116 #[pairW p] w fun e w' => e = .returned (pairW (halfP p)) ∧ Touch [] w w' := by
  obtain ⟨x, y⟩ := p
  unfold pairW halfP
  go_enter Tryz.func116, Tryz.ntmps116
  go_wp2_with fail
  go_returns
  exact ⟨rfl, ((Touch.refl _ _).alloc _).alloc _⟩

/-- a pair without its sign -/
def sizeP (p : Int × Int) : Int × Int := if p.2 < 0 then negP p else p
theorem Size_pair (p : Int × Int) (w : World) : Calls Tryz.prog 207 #[pairW p] w fun e w' => e = .returned (pairW (sizeP p)) ∧ Touch [] w w' := by
  have hN := fun W => Neg_any p W
  unfold sizeP
  by_cases h : p.2 < 0
  · rw [if_pos h]
    obtain ⟨x, y⟩ := p
    simp only at h
    obtain ⟨⟨a, b⟩, hr⟩ : ∃ r, negP (x, y) = r := ⟨_, rfl⟩
    rw [hr] at hN ⊢
    clear hr
    unfold pairW at hN ⊢
    go_enter Tryz.func207, Tryz.ntmps207
    go_wp2_with fail
    refine (hN _).mono ?_
    rintro _ w1 ⟨rfl, t1⟩
    have b4 := Blk.new_at2 t1 (n := w.heap.size + 1) (by simp)
    have t2 : Touch [] w w1 := (((Touch.refl [] w).alloc _).alloc _).trans t1 (by simp)
    have e0 := b4.cell 0
    have e1 := b4.cell 1
    have f0 := b4.frozen 0
    have f1 := b4.frozen 1
    clear t1
    go_wp2_with fail
    obtain ⟨z0, z1⟩ := two_back b4 (.int .i64 a) (.int .i64 b)
    refine bodyPost_ret (by simp [results, Tryz.results207, go_sem, z0, z1]; try rfl) rfl ⟨rfl, ?_⟩
    exact (t2.setCell (.inr (by simp)) _).setCell (.inr (by simp)) _
  · rw [if_neg h]
    obtain ⟨x, y⟩ := p
    simp only at h
    clear hN
    unfold pairW
    go_enter Tryz.func207, Tryz.ntmps207
    go_wp2_with fail
    go_returns
    exact ⟨rfl, ((Touch.refl _ _).alloc _).alloc _⟩

/-- products with signs -/
def mulP (a b : Int) : Int × Int := ((umulP a b).1, wrap64 ((umulP a b).2 - wrap64 (bits .and .i64 (a / 9223372036854775808) b + bits .and .i64 (b / 9223372036854775808) a)))
set_option maxHeartbeats 1000000 in
theorem Mul_any (a b : Int) (w : World) : Calls Tryz.prog 102 #[.int .i64 a, .int .i64 b] w fun e w' => e = .returned (pairW (mulP a b)) ∧ Touch [] w w' := by
  have hU := fun W => UMul_any a b W
  unfold mulP
  obtain ⟨⟨lo, hi⟩, hr⟩ : ∃ r, umulP a b = r := ⟨_, rfl⟩
  rw [hr] at hU ⊢
  clear hr
  unfold pairW at hU ⊢
  go_enter Tryz.func102, Tryz.ntmps102
  go_wp2_with fail
  refine (hU _).mono ?_
  rintro _ w1 ⟨rfl, t1⟩
  have b4 := (Blk.new w 38 #[.int .i64 0, .int .i64 0]).touch t1 (by simp)
  have t2 : Touch [] w w1 := ((Touch.refl [] w).alloc _).trans t1 (by simp)
  have e0 := fun o => (b4.alloc o).cell 0
  have e1 := fun o => (b4.alloc o).cell 1
  have f0 := fun o => (b4.alloc o).frozen 0
  have f1 := fun o => (b4.alloc o).frozen 1
  have HB := Lib.hid (fun o => b4.alloc o)
  have HT := Lib.hid t2
  clear t1 hU b4 t2
  go_wp2_with fail
  have hb := HB.out (.cells #[.int .i64 lo, .int .i64 (wrap64 (hi - wrap64 (bits .and .i64 (a / 9223372036854775808) b + bits .and .i64 (b / 9223372036854775808) a)))] 38)
  obtain ⟨z0, z1⟩ := two_back hb (.int .i64 lo) (.int .i64 (wrap64 (hi - wrap64 (bits .and .i64 (a / 9223372036854775808) b + bits .and .i64 (b / 9223372036854775808) a))))
  refine bodyPost_ret (by simp [results, Tryz.results102, go_sem, z0, z1]; try rfl) rfl ⟨rfl, ?_⟩
  exact ((HT.out.alloc _).setCell (.inr (Nat.le_refl _)) _).setCell (.inr (Nat.le_refl _)) _
end Go.Proofs.YtkbchpaofmlhgaaGreatDoor
