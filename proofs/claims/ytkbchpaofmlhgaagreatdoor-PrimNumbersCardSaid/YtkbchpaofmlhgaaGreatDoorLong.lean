/- rhytonref02.long: the division of a pair by a cell, bit by bit. -/
import Derived.Test.YtkbchpaofmlhgaaGreatDoorPairB
import Derived.Deep.RegionWith
namespace Go.Proofs.YtkbchpaofmlhgaaGreatDoor
open Go.RowKit

/-- a number's two cells -/
def pl (n : Nat) : Int := cellOf (n % 18446744073709551616)
def ph (n : Nat) : Int := cellOf (n / 18446744073709551616 % 18446744073709551616)
theorem pv_cells (n : Nat) : pv n = .agg #[.int .i64 (pl n), .int .i64 (ph n)] := rfl
theorem ph_neg (n : Nat) (h : n < 340282366920938463463374607431768211456) : (ph n < 0) ↔ 170141183460469231731687303715884105728 ≤ n := by
  unfold ph cellOf
  split <;> omega
theorem pl_bounds (n : Nat) : -9223372036854775808 ≤ pl n ∧ pl n ≤ 9223372036854775807 := cell_bounds _ (by omega)
theorem p_small (B : Nat) (h : B < 18446744073709551616) : pl B = cellOf B ∧ ph B = 0 := by
  unfold pl ph
  rw [Nat.mod_eq_of_lt h, Nat.div_eq_of_lt h]
  exact ⟨rfl, rfl⟩

theorem twice_p (a : Nat) (ha : a < 340282366920938463463374607431768211456) (r : Nat) (hr : r = (a + a) % 340282366920938463463374607431768211456) (w : World) :
    Calls Tryz.prog 86 #[.agg #[.int .i64 (pl a), .int .i64 (ph a)]] w fun e w' => e = .returned (.agg #[.int .i64 (pl r), .int .i64 (ph r)]) ∧ Touch [] w w' := by
  subst hr
  exact twice_pv a ha w
theorem add_p (a b : Nat) (ha : a < 340282366920938463463374607431768211456) (hb : b < 340282366920938463463374607431768211456) (r : Nat) (hr : r = (a + b) % 340282366920938463463374607431768211456) (w : World) :
    Calls Tryz.prog 28 #[.agg #[.int .i64 (pl a), .int .i64 (ph a)], .agg #[.int .i64 (pl b), .int .i64 (ph b)]] w fun e w' => e = .returned (.agg #[.int .i64 (pl r), .int .i64 (ph r)]) ∧ Touch [] w w' := by
  subst hr
  exact add_pv a b ha hb w
theorem neg_p (a : Nat) (ha : a < 340282366920938463463374607431768211456) (r : Nat) (hr : r = (340282366920938463463374607431768211456 - a) % 340282366920938463463374607431768211456) (w : World) :
    Calls Tryz.prog 19 #[.agg #[.int .i64 (pl a), .int .i64 (ph a)]] w fun e w' => e = .returned (.agg #[.int .i64 (pl r), .int .i64 (ph r)]) ∧ Touch [] w w' := by
  subst hr
  exact neg_pv a ha w
theorem less_p (a b : Nat) (ha : a < 340282366920938463463374607431768211456) (hb : b < 340282366920938463463374607431768211456) (w : World) :
    Calls Tryz.prog 87 #[.agg #[.int .i64 (pl a), .int .i64 (ph a)], .agg #[.int .i64 (pl b), .int .i64 (ph b)]] w fun e w' => e = .returned (.bool (decide (a < b))) ∧ Touch [] w w' := less_pv a b ha hb w

/-- a pair's two cells in a block -/
abbrev two (n : Nat) : Array Value := #[.int .i64 (pl n), .int .i64 (ph n)]
theorem Blk.two_set {w : World} {b : Nat} {T : TypeId} {x y : Value} (h : Blk w b T #[x, y]) (u v : Value) : Blk ((w.setCell ⟨b, 0, none⟩ u).setCell ⟨b, 1, none⟩ v) b T #[u, v] := (h.set_ 0 u).set_ 1 v
theorem Blk.two_far {w : World} {b c : Nat} {T : TypeId} {cs : Array Value} (h : Blk w c T cs) (hne : c ≠ b) (u v : Value) : Blk ((w.setCell ⟨b, 0, none⟩ u).setCell ⟨b, 1, none⟩ v) c T cs := (h.far (p := ⟨b, 0, none⟩) hne u).far (p := ⟨b, 1, none⟩) hne v

/-- the blocks of long: the pair, the result, what is left, the quotient -/
structure LB (w0 : World) (n P L Q : Nat) (w : World) : Prop where
  p : Blk w n 38 (two P)
  r : Blk w (n + 1) 38 #[.int .i64 0, .int .i64 0]
  l : Blk w (n + 2) 38 (two L)
  q : Blk w (n + 3) 38 (two Q)
  t : Touch [] w0 w
  n0 : w0.heap.size ≤ n
section
variable {w0 w w' : World} {n P L Q : Nat}
theorem LB.quiet (h : LB w0 n P L Q w) (t : Touch [] w w') : LB w0 n P L Q w' := ⟨h.p.touch t (by simp), h.r.touch t (by simp), h.l.touch t (by simp), h.q.touch t (by simp), h.t.trans t (by simp), h.n0⟩
theorem LB.setP (h : LB w0 n P L Q w) (P' : Nat) : LB w0 n P' L Q ((w.setCell ⟨n, 0, none⟩ (.int .i64 (pl P'))).setCell ⟨n, 1, none⟩ (.int .i64 (ph P'))) :=
  ⟨h.p.two_set _ _, h.r.two_far (by omega) _ _, h.l.two_far (by omega) _ _, h.q.two_far (by omega) _ _, (h.t.setCell (.inr h.n0) _).setCell (.inr h.n0) _, h.n0⟩
theorem LB.setL (h : LB w0 n P L Q w) (L' : Nat) : LB w0 n P L' Q ((w.setCell ⟨n + 2, 0, none⟩ (.int .i64 (pl L'))).setCell ⟨n + 2, 1, none⟩ (.int .i64 (ph L'))) :=
  ⟨h.p.two_far (by omega) _ _, h.r.two_far (by omega) _ _, h.l.two_set _ _, h.q.two_far (by omega) _ _, (h.t.setCell (.inr (Nat.le_trans h.n0 (by simp))) _).setCell (.inr (Nat.le_trans h.n0 (by simp))) _, h.n0⟩
theorem LB.setQ (h : LB w0 n P L Q w) (Q' : Nat) : LB w0 n P L Q' ((w.setCell ⟨n + 3, 0, none⟩ (.int .i64 (pl Q'))).setCell ⟨n + 3, 1, none⟩ (.int .i64 (ph Q'))) :=
  ⟨h.p.two_far (by omega) _ _, h.r.two_far (by omega) _ _, h.l.two_far (by omega) _ _, h.q.two_set _ _, (h.t.setCell (.inr (Nat.le_trans h.n0 (by simp))) _).setCell (.inr (Nat.le_trans h.n0 (by simp))) _, h.n0⟩
/-- the cells as the walk wants them -/
structure LC (n P L Q : Nat) (w : World) : Prop where
  p0 : w.cell? ⟨n, 0, none⟩ = some (.int .i64 (pl P))
  p1 : w.cell? ⟨n, 1, none⟩ = some (.int .i64 (ph P))
  l0 : w.cell? ⟨n + 2, 0, none⟩ = some (.int .i64 (pl L))
  l1 : w.cell? ⟨n + 2, 1, none⟩ = some (.int .i64 (ph L))
  q0 : w.cell? ⟨n + 3, 0, none⟩ = some (.int .i64 (pl Q))
  q1 : w.cell? ⟨n + 3, 1, none⟩ = some (.int .i64 (ph Q))
  fp0 : w.frozen? ⟨n, 0, none⟩ = false
  fp1 : w.frozen? ⟨n, 1, none⟩ = false
  fl0 : w.frozen? ⟨n + 2, 0, none⟩ = false
  fl1 : w.frozen? ⟨n + 2, 1, none⟩ = false
  fq0 : w.frozen? ⟨n + 3, 0, none⟩ = false
  fq1 : w.frozen? ⟨n + 3, 1, none⟩ = false
theorem LB.cells (h : LB w0 n P L Q w) : LC n P L Q w := ⟨h.p.cell 0, h.p.cell 1, h.l.cell 0, h.l.cell 1, h.q.cell 0, h.q.cell 1, h.p.frozen 0, h.p.frozen 1, h.l.frozen 0, h.l.frozen 1, h.q.frozen 0, h.q.frozen 1⟩
end

/-- the division's state behind i bits -/
theorem long_step (n i : Nat) (hi : i < 128) :
    n / 2 ^ (128 - (i + 1)) = 2 * (n / 2 ^ (128 - i)) + (if 170141183460469231731687303715884105728 ≤ n * 2 ^ i % 340282366920938463463374607431768211456 then 1 else 0) := by
  obtain ⟨k, hk⟩ : ∃ k, 128 - i = k + 1 := ⟨127 - i, by omega⟩
  have hk2 : 128 - (i + 1) = k := by omega
  rw [hk, hk2]
  have e1 : (340282366920938463463374607431768211456 : Nat) = 2 ^ i * (2 * 2 ^ k) := by
    rw [← Nat.pow_succ', ← Nat.pow_add, show i + (k + 1) = 128 by omega]
  have e2 : (170141183460469231731687303715884105728 : Nat) = 2 ^ i * 2 ^ k := by
    rw [← Nat.pow_add, show i + k = 127 by omega]
  rw [Nat.mul_comm n, e1, e2, Nat.mul_mod_mul_left, Nat.pow_succ, Nat.mul_comm (2 ^ k) 2]
  have hp := Nat.two_pow_pos i
  have hq := Nat.two_pow_pos k
  have hle : (2 ^ i * 2 ^ k ≤ 2 ^ i * (n % (2 * 2 ^ k))) ↔ 2 ^ k ≤ n % (2 * 2 ^ k) := ⟨fun h => Nat.le_of_mul_le_mul_left h hp, fun h => Nat.mul_le_mul_left _ h⟩
  simp only [hle]
  generalize 2 ^ k = m at *
  have h1 := Nat.div_add_mod n (2 * m)
  have h2 := Nat.mod_lt n (show 0 < 2 * m by omega)
  generalize n / (2 * m) = a at *
  generalize n % (2 * m) = b at *
  clear hle e1 e2
  rw [← h1]
  split
  · rename_i h
    obtain ⟨c, rfl⟩ : ∃ c, b = m + c := ⟨b - m, by omega⟩
    rw [show 2 * m * a + (m + c) = c + m * (2 * a + 1) by rw [Nat.mul_add, Nat.mul_comm 2 m, Nat.mul_assoc, Nat.mul_one]; omega, Nat.add_mul_div_left _ _ hq, Nat.div_eq_of_lt (by omega)]
    omega
  · rename_i h
    rw [show 2 * m * a + b = b + m * (2 * a) by rw [Nat.mul_comm 2 m, Nat.mul_assoc]; omega, Nat.add_mul_div_left _ _ hq, Nat.div_eq_of_lt (by omega)]
    omega

end Go.Proofs.YtkbchpaofmlhgaaGreatDoor
