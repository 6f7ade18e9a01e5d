import Derived.Test.YtkbchpaofmlhgaaGreatDoorReals7
import Derived.Test.YtkbchpaofmlhgaaGreatDoorWorld
import Derived.Handy
import Derived.Deep.Cut
import Derived.Deep.RegionWith
import Derived.Laws.StructEq
import Derived.Lib.ItoaNum
/- The document's pairs: contracts of rhytonref02's small functions; a pair is a number below 2^128. -/
namespace Go.Proofs.YtkbchpaofmlhgaaGreatDoor
open Go.RowKit

/-- a pair -/
structure PairV where
  lo : Int
  hi : Int
def PairV.v (p : PairV) : Value := .agg #[.int .i64 p.lo, .int .i64 p.hi]
def PairV.ok (p : PairV) : Prop := -9223372036854775808 ≤ p.lo ∧ p.lo ≤ 9223372036854775807 ∧ -9223372036854775808 ≤ p.hi ∧ p.hi ≤ 9223372036854775807
/-- its number -/
def PairV.num (p : PairV) : Nat := bitsOf p.lo + 18446744073709551616 * bitsOf p.hi
/-- the pair of a number -/
def pairOf (n : Nat) : PairV := ⟨cellOf (n % 18446744073709551616), cellOf (n / 18446744073709551616 % 18446744073709551616)⟩

theorem below_any (a b : Int) (w : World) : Calls Tryz.prog 55 #[.int .i64 a, .int .i64 b] w fun e w' => e = .returned (.bool (decide (bitsOf a < bitsOf b))) ∧ w = w' := by
  have h : decide (IntKind.u64.wrap a < IntKind.u64.wrap b) = decide (bitsOf a < bitsOf b) := by
    rw [IntKind.wrap_u64, IntKind.wrap_u64, decide_eq_decide, ← bitsOf_cast, ← bitsOf_cast]
    omega
  go_enter Tryz.func55, Tryz.ntmps55
  go_wp2_with (simp only [h])
  go_ret
  exact ⟨rfl, rfl⟩

theorem bits_wrap (a : Int) : bitsOf (wrap64 a) = bitsOf a := by unfold bitsOf wrap64; omega
theorem bits_add (a b : Int) : bitsOf (a + b) = (bitsOf a + bitsOf b) % 18446744073709551616 := by unfold bitsOf; omega
theorem wrap_cell (a : Int) : wrap64 a = cellOf (bitsOf a) := by unfold bitsOf wrap64 cellOf; split <;> omega
theorem pair_parts (n : Nat) : (pairOf n).lo = cellOf (n % 18446744073709551616) ∧ (pairOf n).hi = cellOf (n / 18446744073709551616 % 18446744073709551616) := ⟨rfl, rfl⟩
theorem padd_law (p q : PairV) : (pairOf ((p.num + q.num) % 340282366920938463463374607431768211456)).lo = wrap64 (p.lo + q.lo) ∧
    (pairOf ((p.num + q.num) % 340282366920938463463374607431768211456)).hi = if bitsOf (wrap64 (p.lo + q.lo)) < bitsOf p.lo then wrap64 (wrap64 (p.hi + q.hi) + 1) else wrap64 (p.hi + q.hi) := by
  have h1 := bitsOf_lt p.lo
  have h2 := bitsOf_lt q.lo
  have h3 := bitsOf_lt p.hi
  have h4 := bitsOf_lt q.hi
  rw [(pair_parts _).1, (pair_parts _).2, bits_wrap, bits_add]
  have e1 : wrap64 (p.lo + q.lo) = cellOf ((bitsOf p.lo + bitsOf q.lo) % 18446744073709551616) := by rw [wrap_cell, bits_add]
  have e2 : wrap64 (p.hi + q.hi) = cellOf ((bitsOf p.hi + bitsOf q.hi) % 18446744073709551616) := by rw [wrap_cell, bits_add]
  have e3 : wrap64 (wrap64 (p.hi + q.hi) + 1) = cellOf ((bitsOf p.hi + bitsOf q.hi + 1) % 18446744073709551616) := by
    rw [wrap_cell, bits_add, bits_wrap, bits_add, show bitsOf 1 = 1 by decide]
    congr 1
    omega
  rw [e3, e1, e2]
  unfold PairV.num
  generalize bitsOf p.lo = a at *
  generalize bitsOf q.lo = b at *
  generalize bitsOf p.hi = c at *
  generalize bitsOf q.hi = d at *
  clear e1 e2 e3
  refine ⟨congrArg cellOf (by omega), ?_⟩
  by_cases h : (a + b) % 18446744073709551616 < a
  · rw [if_pos h]
    exact congrArg cellOf (by omega)
  · rw [if_neg h]
    exact congrArg cellOf (by omega)

set_option maxRecDepth 100000 in
theorem padd_any (p q : PairV) (w : World) : Calls Tryz.prog 28 #[p.v, q.v] w fun e w' => e = .returned (pairOf ((p.num + q.num) % 340282366920938463463374607431768211456)).v ∧ Touch [] w w' := by
  obtain ⟨hl, hh⟩ := padd_law p q
  obtain ⟨r, hr⟩ : ∃ r, pairOf ((p.num + q.num) % 340282366920938463463374607431768211456) = r := ⟨_, rfl⟩
  rw [hr] at hl hh ⊢
  clear hr
  unfold PairV.v
  by_cases hb : bitsOf (wrap64 (p.lo + q.lo)) < bitsOf p.lo
  · rw [if_pos hb] at hh
    have hd := decide_eq_true hb
    rw [hl, hh]
    clear hl hh hb
    go_enter Tryz.func28, Tryz.ntmps28
    go_wp2_with fail
    refine (below_any _ _ _).mono ?_
    rintro _ _ ⟨rfl, rfl⟩
    rw [hd]
    go_wp2_with fail
    go_returns
    exact ⟨rfl, (((Touch.refl _ _).alloc _).alloc _).alloc _⟩
  · rw [if_neg hb] at hh
    have hd := decide_eq_false hb
    rw [hl, hh]
    clear hl hh hb
    go_enter Tryz.func28, Tryz.ntmps28
    go_wp2_with fail
    refine (below_any _ _ _).mono ?_
    rintro _ _ ⟨rfl, rfl⟩
    rw [hd]
    go_wp2_with fail
    go_returns
    exact ⟨rfl, (((Touch.refl _ _).alloc _).alloc _).alloc _⟩
end Go.Proofs.YtkbchpaofmlhgaaGreatDoor

/- The document's pairs, second part: a pair is a number below 2^128; Add, Twice, Neg, ULess. -/
namespace Go.Proofs.YtkbchpaofmlhgaaGreatDoor
open Go.RowKit

/-- the pair of a number, as a value -/
def pv (n : Nat) : Value := (pairOf n).v
theorem bits_cell (n : Nat) (h : n < 18446744073709551616) : bitsOf (cellOf n) = n := by unfold bitsOf cellOf; split <;> omega
theorem num_pair (n : Nat) (h : n < 340282366920938463463374607431768211456) : (pairOf n).num = n := by
  unfold PairV.num pairOf
  simp only
  rw [bits_cell _ (by omega), bits_cell _ (by omega)]
  omega
theorem pv_form (n : Nat) : pv n = .agg #[.int .i64 (cellOf (n % 18446744073709551616)), .int .i64 (cellOf (n / 18446744073709551616 % 18446744073709551616))] := rfl
theorem cell_bounds (n : Nat) (h : n < 18446744073709551616) : -9223372036854775808 ≤ cellOf n ∧ cellOf n ≤ 9223372036854775807 := by unfold cellOf; split <;> omega
theorem add_pv (a b : Nat) (ha : a < 340282366920938463463374607431768211456) (hb : b < 340282366920938463463374607431768211456) (w : World) :
    Calls Tryz.prog 28 #[pv a, pv b] w fun e w' => e = .returned (pv ((a + b) % 340282366920938463463374607431768211456)) ∧ Touch [] w w' := by
  have h := padd_any (pairOf a) (pairOf b) w
  rw [num_pair a ha, num_pair b hb] at h
  exact h

theorem size_alloc (w : World) (A : Obj) : (w.alloc A).heap.size = w.heap.size + 1 := by
  show (w.heap.push A).size = _
  rw [Array.size_push]
/-- the newest block's two cells, behind a call -/
theorem two_cells {w w1 : World} {u v : Value} {T : TypeId} (t : Touch [] (w.alloc (.cells #[u, v] T)) w1) (n : Nat) (hn : w.heap.size = n) :
    w1.cell? ⟨n, 0, none⟩ = some u ∧ w1.cell? ⟨n, 1, none⟩ = some v ∧ w1.frozen? ⟨n, 0, none⟩ = false ∧ w1.frozen? ⟨n, 1, none⟩ = false := by
  subst hn
  have hlt : w.heap.size < (w.alloc (.cells #[u, v] T)).heap.size := by rw [size_alloc]; omega
  refine ⟨(t.cell (p := ⟨w.heap.size, 0, none⟩) hlt (by simp)).trans ?_, (t.cell (p := ⟨w.heap.size, 1, none⟩) hlt (by simp)).trans ?_, (t.frozen (p := ⟨w.heap.size, 0, none⟩) hlt (by simp)).trans ?_, (t.frozen (p := ⟨w.heap.size, 1, none⟩) hlt (by simp)).trans ?_⟩
  · rw [World.cell?_alloc_new]; rfl
  · rw [World.cell?_alloc_new]; rfl
  · exact World.frozen?_alloc_new _ _ _ _
  · exact World.frozen?_alloc_new _ _ _ _

set_option maxRecDepth 100000 in
theorem twice_pv (a : Nat) (ha : a < 340282366920938463463374607431768211456) (w : World) :
    Calls Tryz.prog 86 #[pv a] w fun e w' => e = .returned (pv ((a + a) % 340282366920938463463374607431768211456)) ∧ Touch [] w w' := by
  have h := fun W => add_pv a a ha ha W
  obtain ⟨r, hr⟩ : ∃ r, (a + a) % 340282366920938463463374607431768211456 = r := ⟨_, rfl⟩
  rw [hr] at h ⊢
  clear hr
  rw [pv_form a] at h ⊢
  rw [pv_form r] at h ⊢
  go_enter Tryz.func86, Tryz.ntmps86
  go_wp2_with fail
  refine (h _).mono ?_
  rintro _ w1 ⟨rfl, t1⟩
  obtain ⟨c0, c1, f0, f1⟩ := two_cells t1 (w.heap.size + 1) (size_alloc _ _)
  have t2 : Touch [] w w1 := (((Touch.refl [] w).alloc _).alloc _).trans t1 (by simp)
  clear t1
  go_wp2_with fail
  have e0 := fun u => World.cell?_setCell_same w1 ⟨w.heap.size + 1, 0, none⟩ u c0
  refine bodyPost_ret (by simp [results, Tryz.results86, go_sem, e0, c1]; try rfl) rfl ?_
  exact ⟨rfl, (t2.setCell (by simp) _).setCell (by simp) _⟩

theorem not_cell (x : Nat) (h : x < 18446744073709551616) : wrap64 (-1 - cellOf x) = cellOf (18446744073709551615 - x) := by
  unfold wrap64 cellOf
  split <;> split <;> omega
set_option maxRecDepth 100000 in
theorem neg_pv (a : Nat) (ha : a < 340282366920938463463374607431768211456) (w : World) :
    Calls Tryz.prog 19 #[pv a] w fun e w' => e = .returned (pv ((340282366920938463463374607431768211456 - a) % 340282366920938463463374607431768211456)) ∧ Touch [] w w' := by
  have h := fun W => add_pv (340282366920938463463374607431768211455 - a) 1 (by omega) (by omega) W
  rw [show 340282366920938463463374607431768211455 - a + 1 = 340282366920938463463374607431768211456 - a by omega] at h
  obtain ⟨r, hr⟩ : ∃ r, (340282366920938463463374607431768211456 - a) % 340282366920938463463374607431768211456 = r := ⟨_, rfl⟩
  rw [hr] at h ⊢
  clear hr
  rw [pv_form a]
  rw [pv_form r] at h ⊢
  rw [pv_form 1, pv_form (340282366920938463463374607431768211455 - a)] at h
  have n0 := not_cell (a % 18446744073709551616) (by omega)
  have n1 := not_cell (a / 18446744073709551616 % 18446744073709551616) (by omega)
  rw [show 18446744073709551615 - a % 18446744073709551616 = (340282366920938463463374607431768211455 - a) % 18446744073709551616 by omega] at n0
  rw [show 18446744073709551615 - a / 18446744073709551616 % 18446744073709551616 = (340282366920938463463374607431768211455 - a) / 18446744073709551616 % 18446744073709551616 by omega] at n1
  rw [← n0, ← n1, show cellOf (1 % 18446744073709551616) = 1 by decide, show cellOf (1 / 18446744073709551616 % 18446744073709551616) = 0 by decide] at h
  clear n0 n1
  go_enter Tryz.func19, Tryz.ntmps19
  go_wp2_with fail
  refine (h _).mono ?_
  rintro _ w1 ⟨rfl, t1⟩
  obtain ⟨c0, c1, f0, f1⟩ := two_cells t1 (w.heap.size + 1) (size_alloc _ _)
  have t2 : Touch [] w w1 := (((Touch.refl [] w).alloc _).alloc _).trans t1 (by simp)
  clear t1
  go_wp2_with fail
  have e0 := fun u => World.cell?_setCell_same w1 ⟨w.heap.size + 1, 0, none⟩ u c0
  refine bodyPost_ret (by simp [results, Tryz.results19, go_sem, e0, c1]; try rfl) rfl ?_
  exact ⟨rfl, (t2.setCell (by simp) _).setCell (by simp) _⟩

set_option maxRecDepth 100000 in
theorem less_pv (a b : Nat) (ha : a < 340282366920938463463374607431768211456) (hb : b < 340282366920938463463374607431768211456) (w : World) :
    Calls Tryz.prog 87 #[pv a, pv b] w fun e w' => e = .returned (.bool (decide (a < b))) ∧ Touch [] w w' := by
  have hlo := fun W => below_any (cellOf (a % 18446744073709551616)) (cellOf (b % 18446744073709551616)) W
  have hhi := fun W => below_any (cellOf (a / 18446744073709551616 % 18446744073709551616)) (cellOf (b / 18446744073709551616 % 18446744073709551616)) W
  rw [bits_cell _ (by omega), bits_cell _ (by omega)] at hlo hhi
  rw [pv_form a, pv_form b]
  have hinj : (cellOf (a / 18446744073709551616 % 18446744073709551616) = cellOf (b / 18446744073709551616 % 18446744073709551616)) ↔ a / 18446744073709551616 = b / 18446744073709551616 := by
    refine ⟨fun h => ?_, fun h => by rw [h]⟩
    have := congrArg bitsOf h
    rw [bits_cell _ (by omega), bits_cell _ (by omega)] at this
    omega
  by_cases he : cellOf (a / 18446744073709551616 % 18446744073709551616) = cellOf (b / 18446744073709551616 % 18446744073709551616)
  · have he2 := hinj.1 he
    have hd : decide (a % 18446744073709551616 < b % 18446744073709551616) = decide (a < b) := by
      rw [decide_eq_decide]; omega
    rw [hd] at hlo
    rw [he]
    clear he he2 hinj hd hhi
    go_enter Tryz.func87, Tryz.ntmps87
    go_wp2_with fail
    refine (hlo _).mono ?_
    rintro _ _ ⟨rfl, rfl⟩
    go_wp2_with fail
    go_ret
    exact ⟨rfl, ((Touch.refl _ _).alloc _).alloc _⟩
  · have he2 : a / 18446744073709551616 ≠ b / 18446744073709551616 := fun h => he (hinj.2 h)
    have hd : decide (a / 18446744073709551616 % 18446744073709551616 < b / 18446744073709551616 % 18446744073709551616) = decide (a < b) := by
      rw [decide_eq_decide]; omega
    rw [hd] at hhi
    clear he2 hinj hd hlo
    go_enter Tryz.func87, Tryz.ntmps87
    go_wp2_with fail
    refine (hhi _).mono ?_
    rintro _ _ ⟨rfl, rfl⟩
    go_wp2_with fail
    go_ret
    exact ⟨rfl, ((Touch.refl _ _).alloc _).alloc _⟩

end Go.Proofs.YtkbchpaofmlhgaaGreatDoor

/- rhytonref02.long: the division of a pair by a cell, bit by bit. -/
namespace Go.Proofs.YtkbchpaofmlhgaaGreatDoor
open Go.RowKit

/-- a number's two cells -/
def pl (n : Nat) : Int := cellOf (n % 18446744073709551616)
def ph (n : Nat) : Int := cellOf (n / 18446744073709551616 % 18446744073709551616)
theorem pv_cells (n : Nat) : pv n = .agg #[.int .i64 (pl n), .int .i64 (ph n)] := rfl
theorem ph_neg (n : Nat) (h : n < 340282366920938463463374607431768211456) : (ph n < 0) ↔ 170141183460469231731687303715884105728 ≤ n := by
  unfold ph cellOf
  split <;> omega
theorem pl_bounds (n : Nat) : -9223372036854775808 ≤ pl n ∧ pl n ≤ 9223372036854775807 := cell_bounds _ (by omega)
theorem p_small (B : Nat) (h : B < 18446744073709551616) : pl B = cellOf B ∧ ph B = 0 := by
  unfold pl ph
  rw [Nat.mod_eq_of_lt h, Nat.div_eq_of_lt h]
  exact ⟨rfl, rfl⟩

theorem twice_p (a : Nat) (ha : a < 340282366920938463463374607431768211456) (r : Nat) (hr : r = (a + a) % 340282366920938463463374607431768211456) (w : World) :
    Calls Tryz.prog 86 #[.agg #[.int .i64 (pl a), .int .i64 (ph a)]] w fun e w' => e = .returned (.agg #[.int .i64 (pl r), .int .i64 (ph r)]) ∧ Touch [] w w' := by
  subst hr
  exact twice_pv a ha w
theorem add_p (a b : Nat) (ha : a < 340282366920938463463374607431768211456) (hb : b < 340282366920938463463374607431768211456) (r : Nat) (hr : r = (a + b) % 340282366920938463463374607431768211456) (w : World) :
    Calls Tryz.prog 28 #[.agg #[.int .i64 (pl a), .int .i64 (ph a)], .agg #[.int .i64 (pl b), .int .i64 (ph b)]] w fun e w' => e = .returned (.agg #[.int .i64 (pl r), .int .i64 (ph r)]) ∧ Touch [] w w' := by
  subst hr
  exact add_pv a b ha hb w
theorem neg_p (a : Nat) (ha : a < 340282366920938463463374607431768211456) (r : Nat) (hr : r = (340282366920938463463374607431768211456 - a) % 340282366920938463463374607431768211456) (w : World) :
    Calls Tryz.prog 19 #[.agg #[.int .i64 (pl a), .int .i64 (ph a)]] w fun e w' => e = .returned (.agg #[.int .i64 (pl r), .int .i64 (ph r)]) ∧ Touch [] w w' := by
  subst hr
  exact neg_pv a ha w
theorem less_p (a b : Nat) (ha : a < 340282366920938463463374607431768211456) (hb : b < 340282366920938463463374607431768211456) (w : World) :
    Calls Tryz.prog 87 #[.agg #[.int .i64 (pl a), .int .i64 (ph a)], .agg #[.int .i64 (pl b), .int .i64 (ph b)]] w fun e w' => e = .returned (.bool (decide (a < b))) ∧ Touch [] w w' := less_pv a b ha hb w

/-- a pair's two cells in a block -/
abbrev two (n : Nat) : Array Value := #[.int .i64 (pl n), .int .i64 (ph n)]
theorem Blk.two_set {w : World} {b : Nat} {T : TypeId} {x y : Value} (h : Blk w b T #[x, y]) (u v : Value) : Blk ((w.setCell ⟨b, 0, none⟩ u).setCell ⟨b, 1, none⟩ v) b T #[u, v] := (h.set_ 0 u).set_ 1 v
theorem Blk.two_far {w : World} {b c : Nat} {T : TypeId} {cs : Array Value} (h : Blk w c T cs) (hne : c ≠ b) (u v : Value) : Blk ((w.setCell ⟨b, 0, none⟩ u).setCell ⟨b, 1, none⟩ v) c T cs := (h.far (p := ⟨b, 0, none⟩) hne u).far (p := ⟨b, 1, none⟩) hne v

/-- the blocks of long: the pair, the result, what is left, the quotient -/
structure LB (w0 : World) (n P L Q : Nat) (w : World) : Prop where
  p : Blk w n 38 (two P)
  r : Blk w (n + 1) 38 #[.int .i64 0, .int .i64 0]
  l : Blk w (n + 2) 38 (two L)
  q : Blk w (n + 3) 38 (two Q)
  t : Touch [] w0 w
  n0 : w0.heap.size ≤ n
section
variable {w0 w w' : World} {n P L Q : Nat}
theorem LB.quiet (h : LB w0 n P L Q w) (t : Touch [] w w') : LB w0 n P L Q w' := ⟨h.p.touch t (by simp), h.r.touch t (by simp), h.l.touch t (by simp), h.q.touch t (by simp), h.t.trans t (by simp), h.n0⟩
theorem LB.setP (h : LB w0 n P L Q w) (P' : Nat) : LB w0 n P' L Q ((w.setCell ⟨n, 0, none⟩ (.int .i64 (pl P'))).setCell ⟨n, 1, none⟩ (.int .i64 (ph P'))) :=
  ⟨h.p.two_set _ _, h.r.two_far (by omega) _ _, h.l.two_far (by omega) _ _, h.q.two_far (by omega) _ _, (h.t.setCell (.inr h.n0) _).setCell (.inr h.n0) _, h.n0⟩
theorem LB.setL (h : LB w0 n P L Q w) (L' : Nat) : LB w0 n P L' Q ((w.setCell ⟨n + 2, 0, none⟩ (.int .i64 (pl L'))).setCell ⟨n + 2, 1, none⟩ (.int .i64 (ph L'))) :=
  ⟨h.p.two_far (by omega) _ _, h.r.two_far (by omega) _ _, h.l.two_set _ _, h.q.two_far (by omega) _ _, (h.t.setCell (.inr (Nat.le_trans h.n0 (by simp))) _).setCell (.inr (Nat.le_trans h.n0 (by simp))) _, h.n0⟩
theorem LB.setQ (h : LB w0 n P L Q w) (Q' : Nat) : LB w0 n P L Q' ((w.setCell ⟨n + 3, 0, none⟩ (.int .i64 (pl Q'))).setCell ⟨n + 3, 1, none⟩ (.int .i64 (ph Q'))) :=
  ⟨h.p.two_far (by omega) _ _, h.r.two_far (by omega) _ _, h.l.two_far (by omega) _ _, h.q.two_set _ _, (h.t.setCell (.inr (Nat.le_trans h.n0 (by simp))) _).setCell (.inr (Nat.le_trans h.n0 (by simp))) _, h.n0⟩
/-- the cells as the walk wants them -/
structure LC (n P L Q : Nat) (w : World) : Prop where
  p0 : w.cell? ⟨n, 0, none⟩ = some (.int .i64 (pl P))
  p1 : w.cell? ⟨n, 1, none⟩ = some (.int .i64 (ph P))
  l0 : w.cell? ⟨n + 2, 0, none⟩ = some (.int .i64 (pl L))
  l1 : w.cell? ⟨n + 2, 1, none⟩ = some (.int .i64 (ph L))
  q0 : w.cell? ⟨n + 3, 0, none⟩ = some (.int .i64 (pl Q))
  q1 : w.cell? ⟨n + 3, 1, none⟩ = some (.int .i64 (ph Q))
  fp0 : w.frozen? ⟨n, 0, none⟩ = false
  fp1 : w.frozen? ⟨n, 1, none⟩ = false
  fl0 : w.frozen? ⟨n + 2, 0, none⟩ = false
  fl1 : w.frozen? ⟨n + 2, 1, none⟩ = false
  fq0 : w.frozen? ⟨n + 3, 0, none⟩ = false
  fq1 : w.frozen? ⟨n + 3, 1, none⟩ = false
theorem LB.cells (h : LB w0 n P L Q w) : LC n P L Q w := ⟨h.p.cell 0, h.p.cell 1, h.l.cell 0, h.l.cell 1, h.q.cell 0, h.q.cell 1, h.p.frozen 0, h.p.frozen 1, h.l.frozen 0, h.l.frozen 1, h.q.frozen 0, h.q.frozen 1⟩
end

/-- the division's state behind i bits -/
theorem long_step (n i : Nat) (hi : i < 128) :
    n / 2 ^ (128 - (i + 1)) = 2 * (n / 2 ^ (128 - i)) + (if 170141183460469231731687303715884105728 ≤ n * 2 ^ i % 340282366920938463463374607431768211456 then 1 else 0) := by
  obtain ⟨k, hk⟩ : ∃ k, 128 - i = k + 1 := ⟨127 - i, by omega⟩
  have hk2 : 128 - (i + 1) = k := by omega
  rw [hk, hk2]
  have e1 : (340282366920938463463374607431768211456 : Nat) = 2 ^ i * (2 * 2 ^ k) := by
    rw [← Nat.pow_succ', ← Nat.pow_add, show i + (k + 1) = 128 by omega]
  have e2 : (170141183460469231731687303715884105728 : Nat) = 2 ^ i * 2 ^ k := by
    rw [← Nat.pow_add, show i + k = 127 by omega]
  rw [Nat.mul_comm n, e1, e2, Nat.mul_mod_mul_left, Nat.pow_succ, Nat.mul_comm (2 ^ k) 2]
  have hp := Nat.two_pow_pos i
  have hq := Nat.two_pow_pos k
  have hle : (2 ^ i * 2 ^ k ≤ 2 ^ i * (n % (2 * 2 ^ k))) ↔ 2 ^ k ≤ n % (2 * 2 ^ k) := ⟨fun h => Nat.le_of_mul_le_mul_left h hp, fun h => Nat.mul_le_mul_left _ h⟩
  simp only [hle]
  generalize 2 ^ k = m at *
  have h1 := Nat.div_add_mod n (2 * m)
  have h2 := Nat.mod_lt n (show 0 < 2 * m by omega)
  generalize n / (2 * m) = a at *
  generalize n % (2 * m) = b at *
  clear hle e1 e2
  rw [← h1]
  split
  · rename_i h
    obtain ⟨c, rfl⟩ : ∃ c, b = m + c := ⟨b - m, by omega⟩
    rw [show 2 * m * a + (m + c) = c + m * (2 * a + 1) by rw [Nat.mul_add, Nat.mul_comm 2 m, Nat.mul_assoc, Nat.mul_one]; omega, Nat.add_mul_div_left _ _ hq, Nat.div_eq_of_lt (by omega)]
    omega
  · rename_i h
    rw [show 2 * m * a + b = b + m * (2 * a) by rw [Nat.mul_comm 2 m, Nat.mul_assoc]; omega, Nat.add_mul_div_left _ _ hq, Nat.div_eq_of_lt (by omega)]
    omega

end Go.Proofs.YtkbchpaofmlhgaaGreatDoor

/- rhytonref02.long: the walk. (Printed by wip/long2.py.) -/
namespace Go.Proofs.YtkbchpaofmlhgaaGreatDoor
open Go.RowKit

theorem div_next {M B Q L b : Nat} (hB : 0 < B) (hQ : Q = M / B) (hL : L = M % B) :
    (2 * L + b < B → (2 * M + b) / B = 2 * Q ∧ (2 * M + b) % B = 2 * L + b) ∧ (B ≤ 2 * L + b → b ≤ 1 → (2 * M + b) / B = 2 * Q + 1 ∧ (2 * M + b) % B = 2 * L + b - B) := by
  have h1 := Nat.div_add_mod M B
  have h2 := Nat.mod_lt M hB
  rw [← hQ, ← hL] at h1
  rw [← hL] at h2
  refine ⟨fun h => (Nat.div_mod_unique hB).2 ⟨?_, h⟩, fun h hb => (Nat.div_mod_unique hB).2 ⟨?_, by omega⟩⟩
  · rw [Nat.mul_left_comm]; omega
  · rw [Nat.mul_add, Nat.mul_left_comm]; omega

set_option maxRecDepth 100000 in
set_option maxHeartbeats 6400000 in
theorem long_any (n B : Nat) (hn : n < 340282366920938463463374607431768211456) (hB0 : 0 < B) (hB : B < 18446744073709551616) (w : World) :
    Calls Tryz.prog 56 #[.agg (two n), .int .i64 (cellOf B)] w fun e w' => e = .returned (.tuple #[.int .i64 (pl (n % B)), .agg (two (n / B))]) ∧ Touch [] w w' := by
  obtain ⟨hpB, hhB⟩ := p_small B hB
  have hless := fun L (hL : L < 340282366920938463463374607431768211456) W => less_p L B hL (by omega) W
  have hneg := fun W => neg_p B (by omega) (340282366920938463463374607431768211456 - B) (by omega) W
  have hadd := fun a r b (ha : a < 340282366920938463463374607431768211456) (hb : b < 340282366920938463463374607431768211456) hr W => add_p a b ha hb r hr W
  have hone := fun a r (ha : a < 340282366920938463463374607431768211456) hr W => add_p a 1 ha (by omega) r hr W
  rw [show pl 1 = 1 by decide, show ph 1 = 0 by decide] at hone
  rw [hpB, hhB] at hless hneg
  unfold two
  go_enter Tryz.func56, Tryz.ntmps56
  go_wp2_with fail
  go_loopw [8] (fun i wr => ∃ (k P L Q : Nat), k ≤ 128 ∧ i = .int .i64 k ∧ P = n * 2 ^ k % 340282366920938463463374607431768211456 ∧ L = n / 2 ^ (128 - k) % B ∧ Q = n / 2 ^ (128 - k) / B ∧ LB w w.heap.size P L Q wr) (fun i _ => 128 - (intOf i).toNat)
  case atStart =>
    have e0 : n / 2 ^ 128 = 0 := Nat.div_eq_of_lt hn
    refine ⟨0, n, 0, 0, by omega, rfl, by simp; omega, by rw [Nat.sub_zero, e0, Nat.zero_mod], by rw [Nat.sub_zero, e0, Nat.zero_div], ⟨?_, ?_, ?_, ?_, ?_, Nat.le_refl _⟩⟩
    · exact (((Blk.new w _ _).alloc _).alloc _).alloc _
    · exact ((Blk.new_at (n := w.heap.size + 1) (w.alloc _) (by simp) _ _).alloc _).alloc _
    · exact (Blk.new_at (n := w.heap.size + 2) ((w.alloc _).alloc _) (by simp) _ _).alloc _
    · exact Blk.new_at (n := w.heap.size + 3) (((w.alloc _).alloc _).alloc _) (by simp) _ _
    · exact ((((Touch.refl [] w).alloc _).alloc _).alloc _).alloc _
  case round =>
    obtain ⟨k, P, L, Q, hk, rfl, hP, hL, hQ, hb⟩ := hrel
    by_cases hlt : k < 128
    · have hstep := long_step n k hlt
      have hMlt : n / 2 ^ (128 - (k + 1)) ≤ n := Nat.div_le_self _ _
      have hP2 : n * 2 ^ (k + 1) % 340282366920938463463374607431768211456 = (P + P) % 340282366920938463463374607431768211456 := by
        rw [Nat.pow_succ, ← Nat.mul_assoc, hP, ← Nat.mul_two, Nat.mod_mul_mod]
      rw [← hP] at hstep
      obtain ⟨M, hM⟩ : ∃ M, n / 2 ^ (128 - k) = M := ⟨_, rfl⟩
      obtain ⟨M2, hM2⟩ : ∃ M, n / 2 ^ (128 - (k + 1)) = M := ⟨_, rfl⟩
      rw [hM] at hstep hL hQ
      rw [hM2] at hstep hMlt
      have hPlt : P < 340282366920938463463374607431768211456 := by rw [hP]; exact Nat.mod_lt _ (by omega)
      obtain ⟨bit, hbit⟩ : ∃ bit : Nat, (if 170141183460469231731687303715884105728 ≤ P then 1 else 0) = bit := ⟨_, rfl⟩
      rw [hbit] at hstep
      have hbit1 : bit ≤ 1 := by rw [← hbit]; split <;> omega
      have hLB : L < B := by rw [hL]; exact Nat.mod_lt _ hB0
      have hQM : Q ≤ M := by rw [hQ]; exact Nat.div_le_self _ _
      have hdiv := div_next (b := bit) hB0 hQ hL
      rw [← hstep] at hdiv
      have HD := Lib.hid hdiv
      have HP2 := Lib.hid hP2
      have HM2 := Lib.hid hM2
      clear hP hL hQ hM hM2 hP2 hdiv
      have hsg := ph_neg P hPlt
      have HB := Lib.hid hbit
      have HS := Lib.hid hstep
      have hQ2 : Q + Q < 340282366920938463463374607431768211456 := by omega
      have hQ3 : Q + Q + bit ≤ M2 := by omega
      obtain ⟨p0, p1, l0, l1, q0, q1, fp0, fp1, fl0, fl1, fq0, fq1⟩ := hb.cells
      go_wp2_with fail
      refine (twice_p L (by omega) (L + L) (by omega) _).mono ?_
      rintro _ w1 ⟨rfl, t1⟩
      clear p0 p1 l0 l1 q0 q1 fp0 fp1 fl0 fl1 fq0 fq1
      have hb := hb.quiet t1
      clear t1
      obtain ⟨p0, p1, l0, l1, q0, q1, fp0, fp1, fl0, fl1, fq0, fq1⟩ := hb.cells
      go_upto_region 7 with (fail)
      clear p0 p1 l0 l1 q0 q1 fp0 fp1 fl0 fl1 fq0 fq1
      have hb := hb.setL (L + L)
      generalize (w1.setCell ⟨w.heap.size + 2, 0, none⟩ (.int .i64 (pl (L + L)))).setCell ⟨w.heap.size + 2, 1, none⟩ (.int .i64 (ph (L + L))) = w2 at *
      obtain ⟨p0, p1, l0, l1, q0, q1, fp0, fp1, fl0, fl1, fq0, fq1⟩ := hb.cells
      obtain ⟨L2, hL2⟩ : ∃ L2, L + L + bit = L2 := ⟨_, rfl⟩
      have hL2lt : L2 < 36893488147419103232 := by omega
      have hcase : (170141183460469231731687303715884105728 ≤ P ∧ bit = 1) ∨ (¬ 170141183460469231731687303715884105728 ≤ P ∧ bit = 0) := by
        have := HB.out
        split at this
        · exact .inl ⟨by assumption, this.symm⟩
        · exact .inr ⟨by assumption, this.symm⟩
      rcases hcase with ⟨hge, rfl⟩ | ⟨hge, rfl⟩
      case' inl =>
        have hng : ph P < 0 := hsg.2 hge
        go_wp2_with fail
        refine (hone (L + L) L2 (by omega) (by omega) _).mono ?_
        rintro _ w3 ⟨rfl, t1⟩
        clear p0 p1 l0 l1 q0 q1 fp0 fp1 fl0 fl1 fq0 fq1
        have hb := hb.quiet t1
        clear t1
        obtain ⟨p0, p1, l0, l1, q0, q1, fp0, fp1, fl0, fl1, fq0, fq1⟩ := hb.cells
        go_upto_region 9 with (fail)
        clear p0 p1 l0 l1 q0 q1 fp0 fp1 fl0 fl1 fq0 fq1
        have hb := hb.setL L2
        generalize (w3.setCell ⟨w.heap.size + 2, 0, none⟩ (.int .i64 (pl L2))).setCell ⟨w.heap.size + 2, 1, none⟩ (.int .i64 (ph L2)) = w4 at *
        obtain ⟨p0, p1, l0, l1, q0, q1, fp0, fp1, fl0, fl1, fq0, fq1⟩ := hb.cells
      case' inr =>
        have hng : ¬ ph P < 0 := fun h => hge (hsg.1 h)
        rw [Nat.add_zero] at hL2
        go_upto_region 9 with (fail)
        clear p0 p1 l0 l1 q0 q1 fp0 fp1 fl0 fl1 fq0 fq1
        rw [hL2] at hb
        obtain ⟨p0, p1, l0, l1, q0, q1, fp0, fp1, fl0, fl1, fq0, fq1⟩ := hb.cells
      all_goals
        clear hng hsg hge
        obtain ⟨P2, hPP⟩ : ∃ P2, (P + P) % 340282366920938463463374607431768211456 = P2 := ⟨_, rfl⟩
        have HP3 := Lib.hid hPP
        have HD2 := Lib.hid hL2
        have h2p := twice_p P hPlt P2 hPP.symm
        clear hPP hL2
        go_wp2_with fail
        refine (h2p _).mono ?_
        rintro _ w5 ⟨rfl, t1⟩
        clear p0 p1 l0 l1 q0 q1 fp0 fp1 fl0 fl1 fq0 fq1
        have hb := hb.quiet t1
        clear t1
        obtain ⟨p0, p1, l0, l1, q0, q1, fp0, fp1, fl0, fl1, fq0, fq1⟩ := hb.cells
        go_upto_region 10 with (fail)
        clear p0 p1 l0 l1 q0 q1 fp0 fp1 fl0 fl1 fq0 fq1
        have hb := hb.setP P2
        generalize (w5.setCell ⟨w.heap.size, 0, none⟩ (.int .i64 (pl P2))).setCell ⟨w.heap.size, 1, none⟩ (.int .i64 (ph P2)) = w6 at *
        obtain ⟨p0, p1, l0, l1, q0, q1, fp0, fp1, fl0, fl1, fq0, fq1⟩ := hb.cells
        clear h2p
        go_wp2_with fail
        refine (twice_p Q (by omega) (Q + Q) (by omega) _).mono ?_
        rintro _ w7 ⟨rfl, t1⟩
        clear p0 p1 l0 l1 q0 q1 fp0 fp1 fl0 fl1 fq0 fq1
        have hb := hb.quiet t1
        clear t1
        obtain ⟨p0, p1, l0, l1, q0, q1, fp0, fp1, fl0, fl1, fq0, fq1⟩ := hb.cells
        go_upto_region 11 with (fail)
        clear p0 p1 l0 l1 q0 q1 fp0 fp1 fl0 fl1 fq0 fq1
        have hb := hb.setQ (Q + Q)
        generalize (w7.setCell ⟨w.heap.size + 3, 0, none⟩ (.int .i64 (pl (Q + Q)))).setCell ⟨w.heap.size + 3, 1, none⟩ (.int .i64 (ph (Q + Q))) = w8 at *
        obtain ⟨p0, p1, l0, l1, q0, q1, fp0, fp1, fl0, fl1, fq0, fq1⟩ := hb.cells
        go_wp2_with fail
        refine (hless L2 (by omega) _).mono ?_
        rintro _ w9 ⟨rfl, t1⟩
        clear p0 p1 l0 l1 q0 q1 fp0 fp1 fl0 fl1 fq0 fq1
        have hb := hb.quiet t1
        clear t1
        obtain ⟨p0, p1, l0, l1, q0, q1, fp0, fp1, fl0, fl1, fq0, fq1⟩ := hb.cells
        by_cases hlb : L2 < B
        · rw [decide_eq_true hlb]
          go_wp2_with fail
          obtain ⟨d1, d2⟩ := HD.out.1 (by have := HD2.out; omega)
          refine ⟨⟨k + 1, P2, L2, Q + Q, by omega, rfl, ?_, ?_, ?_, hb⟩, by simp only [intOf]; omega⟩
          · rw [HP2.out, HP3.out]
          · rw [HM2.out, d2]; have := HD2.out; omega
          · rw [HM2.out, d1]; omega
        · rw [decide_eq_false hlb]
          obtain ⟨d1, d2⟩ := HD.out.2 (by have := HD2.out; omega) hbit1
          have hrest := hadd L2 (L2 - B) (340282366920938463463374607431768211456 - B) (by omega) (by omega) (by omega)
          go_upto_region 12 with (fail)
          clear p0 p1 l0 l1 q0 q1 fp0 fp1 fl0 fl1 fq0 fq1
          have hb := hb.quiet (Touch.refl [] w9).drew
          obtain ⟨p0, p1, l0, l1, q0, q1, fp0, fp1, fl0, fl1, fq0, fq1⟩ := hb.cells
          go_region_with (first | (go_at_call 19; (refine (hneg _).mono ?_); rintro _ w10 ⟨rfl, t10⟩; have hb := hb.quiet t10; obtain ⟨p0, p1, l0, l1, q0, q1, fp0, fp1, fl0, fl1, fq0, fq1⟩ := hb.cells) | (go_at_call 28; (refine (hrest _).mono ?_); rintro _ w11 ⟨rfl, t11⟩; have hb := hb.quiet t11; obtain ⟨p0, p1, l0, l1, q0, q1, fp0, fp1, fl0, fl1, fq0, fq1⟩ := hb.cells))
          all_goals
            clear p0 p1 l0 l1 q0 q1 fp0 fp1 fl0 fl1 fq0 fq1
            have hb := hb.setL (L2 - B)
            generalize (w11.setCell ⟨w.heap.size + 2, 0, none⟩ (.int .i64 (pl (L2 - B)))).setCell ⟨w.heap.size + 2, 1, none⟩ (.int .i64 (ph (L2 - B))) = w12 at *
            obtain ⟨p0, p1, l0, l1, q0, q1, fp0, fp1, fl0, fl1, fq0, fq1⟩ := hb.cells
            go_wp2_with fail
            refine (hone (Q + Q) (Q + Q + 1) (by omega) (by omega) _).mono ?_
            rintro _ w13 ⟨rfl, t1⟩
            clear p0 p1 l0 l1 q0 q1 fp0 fp1 fl0 fl1 fq0 fq1
            have hb := hb.quiet t1
            clear t1
            obtain ⟨p0, p1, l0, l1, q0, q1, fp0, fp1, fl0, fl1, fq0, fq1⟩ := hb.cells
            go_upto_region 5 with (fail)
            clear p0 p1 l0 l1 q0 q1 fp0 fp1 fl0 fl1 fq0 fq1
            have hb := hb.setQ (Q + Q + 1)
            generalize (w13.setCell ⟨w.heap.size + 3, 0, none⟩ (.int .i64 (pl (Q + Q + 1)))).setCell ⟨w.heap.size + 3, 1, none⟩ (.int .i64 (ph (Q + Q + 1))) = w14 at *
            obtain ⟨p0, p1, l0, l1, q0, q1, fp0, fp1, fl0, fl1, fq0, fq1⟩ := hb.cells
            go_wp2_with fail
            refine ⟨⟨k + 1, P2, L2 - B, Q + Q + 1, by omega, rfl, ?_, ?_, ?_, hb⟩, by simp only [intOf]; omega⟩
            · rw [HP2.out, HP3.out]
            · rw [HM2.out, d2]; have := HD2.out; omega
            · rw [HM2.out, d1]; omega
    · obtain rfl : k = 128 := by omega
      rw [Nat.sub_self, Nat.pow_zero, Nat.div_one] at hL hQ
      subst hL
      subst hQ
      have bR := hb.r
      have r0 := bR.cell 0
      have r1 := bR.cell 1
      have g0 := bR.frozen 0
      have g1 := bR.frozen 1
      obtain ⟨p0, p1, l0, l1, q0, q1, fp0, fp1, fl0, fl1, fq0, fq1⟩ := hb.cells
      go_upto_region 14 with (fail)
      go_region
      go_wp2_with fail
      obtain ⟨z2, z3⟩ := two_back bR (.int .i64 (pl (n / B))) (.int .i64 (ph (n / B)))
      refine bodyPost_ret (by simp [results, Tryz.results56, go_sem, z2, z3]; try rfl) rfl ⟨rfl, ?_⟩
      exact ((hb.t.setCell (.inr (by simp)) _).setCell (.inr (by simp)) _).drew
end Go.Proofs.YtkbchpaofmlhgaaGreatDoor

/- rhytonref02.UDiv, rhytonref03.right and Step. -/
namespace Go.Proofs.YtkbchpaofmlhgaaGreatDoor
open Go.RowKit

set_option maxRecDepth 100000 in
set_option maxHeartbeats 1600000 in
theorem udiv_any (n B : Nat) (hn : n < 340282366920938463463374607431768211456) (hB0 : 0 < B) (hB : B < 9223372036854775808) (hq : n / B < 18446744073709551616) (w : World) :
    Calls Tryz.prog 29 #[.agg (two n), .int .i64 (B : Int)] w fun e w' => e = .returned (.tuple #[.int .i64 (pl (n % B)), .int .i64 (pl (n / B)), .int .i64 0]) ∧ Touch [] w w' := by
  have hc : cellOf B = (B : Int) := by unfold cellOf; rw [if_pos hB]
  have hl := fun W => long_any n B hn hB0 (by omega) W
  rw [hc] at hl
  have hh := (p_small (n / B) hq).2
  have hB0' : ((B : Int) == 0) = false := beq_eq_false_iff_ne.2 (by omega)
  unfold two at hl ⊢
  rw [hh] at hl
  obtain ⟨r, hr⟩ : ∃ r, pl (n % B) = r := ⟨_, rfl⟩
  obtain ⟨q, hq⟩ : ∃ q, pl (n / B) = q := ⟨_, rfl⟩
  rw [hr, hq] at hl ⊢
  clear hr hq hh hc
  go_enter Tryz.func29, Tryz.ntmps29
  go_wp2_with fail
  refine (hl _).mono ?_
  rintro _ w1 ⟨rfl, t1⟩
  have tw := ((Touch.refl [] w).alloc _).trans t1 (by simp)
  clear t1 hl
  go_upto_region 4 with (fail)
  have bA := Blk.new w1 38 #[.int .i64 q, .int .i64 0]
  have tw := tw.alloc (.cells #[.int .i64 q, .int .i64 0] 38)
  generalize w1.alloc (.cells #[.int .i64 q, .int .i64 0] 38) = wA at *
  have a0 := bA.cell 0
  have a1 := bA.cell 1
  go_wp2_with fail
  go_quiet (fail)
  go_wp2
  go_ret3
  exact ⟨rfl, tw.drewN _⟩

theorem right_any (b : Int) (h0 : 2 ≤ b) (h1 : b ≤ 36) (w : World) : Calls Tryz.prog 48 #[.int .i64 b] w fun e w' => e = .returned (.bool true) ∧ w = w' := by
  go_enter Tryz.func48, Tryz.ntmps48
  go_wp2_with fail
  go_ret
  exact ⟨rfl, rfl⟩

theorem step_law (n B : Nat) (hB0 : 0 < B) : n / B = n / 18446744073709551616 / B * 18446744073709551616 + (n % 18446744073709551616 + 18446744073709551616 * (n / 18446744073709551616 % B)) / B ∧
    n % B = (n % 18446744073709551616 + 18446744073709551616 * (n / 18446744073709551616 % B)) % B := by
  have h1 := Nat.div_add_mod n 18446744073709551616
  have h2 := Nat.div_add_mod (n / 18446744073709551616) B
  generalize n / 18446744073709551616 = H at *
  generalize n % 18446744073709551616 = l at *
  generalize H / B = q at *
  generalize H % B = r at *
  subst h2
  have e : n = l + 18446744073709551616 * r + B * (q * 18446744073709551616) := by
    rw [← h1, Nat.mul_add, Nat.mul_left_comm, Nat.mul_comm q]
    omega
  rw [e, Nat.add_mul_div_left _ _ hB0, Nat.add_mul_mod_self_left]
  exact ⟨Nat.add_comm _ _, rfl⟩

/-- the digits -/
def lettersS : ByteArray := ⟨#[48, 49, 50, 51, 52, 53, 54, 55, 56, 57, 65, 66, 67, 68, 69, 70, 71, 72, 73, 74, 75, 76, 77, 78, 79, 80, 81, 82, 83, 84, 85, 86, 87, 88, 89, 90]⟩
def digC (d : Nat) : UInt8 := lettersS.data.toList.getD d 0
theorem run_letter (d : Nat) (hd : d < 36) (W : World) : (Instr.index 9 (.string lettersS) (.int .i64 (d : Int))).run Tryz.prog W = .ok (.int .u8 (((digC d).toNat : Nat) : Int)) W := by
  have hs : lettersS.size = 36 := by decide
  rw [run_index_string W _ lettersS _ _ (by kernel_rfl)]
  have hlt : d < lettersS.size := by rw [hs]; exact hd
  have hget : lettersS[d]'hlt = digC d := by
    unfold digC
    rw [List.getD_eq_getElem?_getD, List.getElem?_eq_getElem (by simpa [lettersS] using hd)]
    rfl
  simp [hlt, hget]

set_option maxRecDepth 100000 in
set_option maxHeartbeats 1600000 in
theorem step_any (n B : Nat) (hn : n < 340282366920938463463374607431768211456) (hB0 : 2 ≤ B) (hB : B ≤ 36) (w : World) :
    Calls Tryz.prog 64 #[.agg (two n), .int .i64 (B : Int)] w fun e w' => e = .returned (.tuple #[.agg (two (n / B)), .int .u8 (((digC (n % B)).toNat : Nat) : Int)]) ∧ Touch [] w w' := by
  obtain ⟨l1, l2⟩ := step_law n B (by omega)
  have hr1 : n / 18446744073709551616 % B < B := Nat.mod_lt _ (by omega)
  have hH : n / 18446744073709551616 < 18446744073709551616 := by omega
  have hq1 : n / 18446744073709551616 / B < 18446744073709551616 := Nat.lt_of_le_of_lt (Nat.div_le_self _ _) hH
  have u1 := fun W => udiv_any (n / 18446744073709551616) B (by omega) (by omega) (by omega) hq1 W
  obtain ⟨m, hm⟩ : ∃ m, n % 18446744073709551616 + 18446744073709551616 * (n / 18446744073709551616 % B) = m := ⟨_, rfl⟩
  rw [hm] at l1 l2
  have hq2 : m / B < 18446744073709551616 := by
    rw [Nat.div_lt_iff_lt_mul (by omega), ← hm, Nat.mul_comm 18446744073709551616 B]
    have : 18446744073709551616 * (n / 18446744073709551616 % B) + 18446744073709551616 ≤ B * 18446744073709551616 := by
      rw [Nat.mul_comm B, ← Nat.mul_succ]
      exact Nat.mul_le_mul_left _ hr1
    omega
  have hm128 : m < 340282366920938463463374607431768211456 := by
    rw [← hm]
    omega
  have u2 := fun W => udiv_any m B hm128 (by omega) (by omega) hq2 W
  have e1 : pl (n / 18446744073709551616) = ph n ∧ ph (n / 18446744073709551616) = 0 := by
    unfold pl ph
    refine ⟨rfl, ?_⟩
    rw [Nat.div_eq_of_lt hH]
    rfl
  have e2 : pl m = pl n ∧ ph m = pl (n / 18446744073709551616 % B) := by
    unfold pl ph
    constructor
    · congr 1
      omega
    · congr 1
      omega
  have e3 : pl (n / B) = pl (m / B) ∧ ph (n / B) = pl (n / 18446744073709551616 / B) := by
    have key : ∀ g t : Nat, t < 18446744073709551616 → (g * 18446744073709551616 + t) % 18446744073709551616 = t % 18446744073709551616 ∧ (g * 18446744073709551616 + t) / 18446744073709551616 % 18446744073709551616 = g % 18446744073709551616 := fun g t h => by omega
    obtain ⟨f1, f2⟩ := key _ _ hq2
    rw [← l1] at f1 f2
    exact ⟨congrArg cellOf f1, congrArg cellOf f2⟩
  have e4 : pl (m % B) = ((n % B : Nat) : Int) := by
    have : m % B < B := Nat.mod_lt _ (by omega)
    rw [← l2] at this ⊢
    unfold pl cellOf
    rw [Nat.mod_eq_of_lt (by omega), if_pos (by omega)]
  have hlet := run_letter (n % B) (Nat.lt_of_lt_of_le (Nat.mod_lt _ (by omega)) hB)
  have hrt := fun W => right_any (B : Int) (by omega) (by omega) W
  unfold two at u1 u2 ⊢
  rw [e1.1, e1.2] at u1
  rw [e2.1, e2.2, e4] at u2
  rw [e3.1, e3.2]
  obtain ⟨d, hd⟩ : ∃ d, n % B = d := ⟨_, rfl⟩
  rw [hd] at u2 hlet ⊢
  obtain ⟨r1, hr1e⟩ : ∃ r, pl (n / 18446744073709551616 % B) = r := ⟨_, rfl⟩
  obtain ⟨q1, hq1e⟩ : ∃ r, pl (n / 18446744073709551616 / B) = r := ⟨_, rfl⟩
  obtain ⟨q2, hq2e⟩ : ∃ r, pl (m / B) = r := ⟨_, rfl⟩
  rw [hr1e, hq1e] at u1
  rw [hr1e, hq2e] at u2
  rw [hq1e, hq2e]
  obtain ⟨c, hc⟩ : ∃ c : Int, (((digC d).toNat : Nat) : Int) = c := ⟨_, rfl⟩
  rw [hc] at hlet ⊢
  have hBs : Hid (2 ≤ B ∧ B ≤ 36) := ⟨hB0, hB⟩
  clear hc hr1e hq1e hq2e hd e1 e2 e3 e4 l1 l2 hm hm128 hq1 hq2 hr1 hH
  unfold lettersS at hlet
  go_enter Tryz.func64, Tryz.ntmps64
  go_wp2_with fail
  refine (hrt _).mono ?_
  rintro _ _ ⟨rfl, rfl⟩
  go_wp2_with fail
  refine (u1 _).mono ?_
  rintro _ w1 ⟨rfl, t1⟩
  have bP := (Blk.new w 38 #[.int .i64 (pl n), .int .i64 (ph n)]).alloc (.cells #[.int .i64 0, .int .i64 0] 38)
  have bR := Blk.new_at (n := w.heap.size + 1) (w.alloc (.cells #[.int .i64 (pl n), .int .i64 (ph n)] 38)) (by simp) 38 #[.int .i64 0, .int .i64 0]
  have bP := bP.touch t1 (by simp)
  have bR := bR.touch t1 (by simp)
  have tw := (((Touch.refl [] w).alloc _).alloc _).trans t1 (by simp)
  clear t1 u1
  have p0 := bP.cell 0
  go_wp2_with fail
  refine (u2 _).mono ?_
  rintro _ w2 ⟨rfl, t2⟩
  have bR := bR.touch t2 (by simp)
  have tw := tw.trans t2 (by simp)
  clear t2 u2 bP p0
  have r0 := bR.cell 0
  have r1 := bR.cell 1
  have g0 := bR.frozen 0
  have g1 := bR.frozen 1
  go_upto_region 5 with (fail)
  go_region
  all_goals go_wp2_with fail
  all_goals
    obtain ⟨z0, z1⟩ := two_back bR (.int .i64 q2) (.int .i64 q1)
    refine bodyPost_ret (by simp [results, Tryz.results64, go_sem, z0, z1]; try rfl) rfl ⟨rfl, ?_⟩
    exact ((tw.setCell (.inr (by simp)) _).setCell (.inr (by simp)) _).drew

end Go.Proofs.YtkbchpaofmlhgaaGreatDoor

/- rhytonref03.Text: a pair's digits in a base. -/
namespace Go.Proofs.YtkbchpaofmlhgaaGreatDoor
open Go.RowKit

theorem pair_struct : Tryz.prog.underlying 38 = some (.struct (Tryz.prog.fieldsOf 38)) := by kernel_rfl
theorem pair_stood : Tryz.prog.stoodInHeld 38 = false := by kernel_rfl
theorem pair_guard : Tryz.prog.eqGuardType Tryz.prog.depth 38 = false := by kernel_rfl
theorem pair_eql (a b c d : Int) (w : World) : (binOp .eql 38 (.agg #[.int .i64 a, .int .i64 b]) (.agg #[.int .i64 c, .int .i64 d])).run Tryz.prog w = .ok (.bool (a == c && b == d)) w := by
  rw [run_eql_struct, run_equalIn_agg _ _ _ _ _ pair_struct pair_stood]
  simp only [Program.fieldsOf, Tryz.underlying38]
  go_simp
  repeat' split
  all_goals simp_all

/-- a number's digits in a base -/
def baseL (B n : Nat) : List UInt8 := if _h : 2 ≤ B ∧ B ≤ n then baseL B (n / B) ++ [digC (n % B)] else [digC n]
termination_by n
decreasing_by exact Nat.div_lt_self (by omega) (by omega)
theorem baseL_more (B n : Nat) (h2 : 2 ≤ B) (h : B ≤ n) : baseL B n = baseL B (n / B) ++ [digC (n % B)] := by rw [baseL, dif_pos ⟨h2, h⟩]
theorem baseL_last (B n : Nat) (h : n < B) : baseL B n = [digC n] := by rw [baseL, dif_neg (by omega)]
theorem baseL_dec (n : Nat) : baseL 10 n = Lib.decDigits n := by
  induction n using Nat.strongRecOn with
  | ind n ih =>
    have hd : ∀ u, u < 10 → digC u = UInt8.ofNat (48 + u) := by decide
    rw [Lib.decDigits]
    split
    · rename_i h
      rw [baseL_last 10 n h, hd n h]
    · rename_i h
      rw [baseL_more 10 n (by omega) (by omega), ih (n / 10) (by omega), hd (n % 10) (by omega)]

theorem pair_nil (m : Nat) (h : m < 340282366920938463463374607431768211456) : (pl m == 0 && ph m == 0) = decide (m = 0) := by
  rw [Bool.eq_iff_iff, Bool.and_eq_true, beq_iff_eq, beq_iff_eq, decide_eq_true_eq]
  unfold pl ph cellOf
  refine ⟨fun ⟨h1, h2⟩ => ?_, fun h => by subst h; exact ⟨rfl, rfl⟩⟩
  split at h1 <;> split at h2 <;> omega

theorem conv_one (u : World) (c : UInt8) : (convert 66 9 (.slice (some ⟨u.heap.size, 0, none⟩) 1 1)).run Tryz.prog (u.alloc (.cells #[.int .u8 (c.toNat : Int)] 5)) = .ok (.string ⟨#[c]⟩) (u.alloc (.cells #[.int .u8 (c.toNat : Int)] 5)) :=
  run_convert_bytes_back (P := Tryz.prog) (u.alloc (.cells #[.int .u8 (c.toNat : Int)] 5)) 66 9 5 ⟨u.heap.size, 0, none⟩ 1 [c] Tryz.underlying66 Tryz.underlying5 Tryz.underlying9 (fun j hj => by
    obtain rfl : j = 0 := by simpa using hj
    exact cell_one_new u (.int .u8 (c.toNat : Int)) 5 0 _ rfl)

theorem str_cons (c : UInt8) (s : ByteArray) : ((⟨#[c]⟩ : ByteArray) ++ s).data.toList = c :: s.data.toList := by
  simp

set_option maxRecDepth 100000 in
set_option maxHeartbeats 3200000 in
theorem text_any (n B : Nat) (hn : n < 340282366920938463463374607431768211456) (hB0 : 2 ≤ B) (hB : B ≤ 36) (w : World) :
    Calls Tryz.prog 34 #[.agg (two n), .int .i64 (B : Int)] w fun e w' => e = .returned (.string ⟨(baseL B n).toArray⟩) ∧ Touch [] w w' := by
  have hrt := fun W => right_any (B : Int) (by omega) (by omega) W
  have hstep := fun m (hm : m < 340282366920938463463374607431768211456) W => step_any m B hm hB0 hB W
  unfold two at hstep ⊢
  go_enter Tryz.func34, Tryz.ntmps34
  go_wp2_with fail
  refine (hrt _).mono ?_
  rintro _ _ ⟨rfl, rfl⟩
  have b0 := Blk.new w 38 #[.int .i64 (pl n), .int .i64 (ph n)]
  have t0 := (Touch.refl [] w).alloc (.cells #[.int .i64 (pl n), .int .i64 (ph n)] 38)
  have HB0 := Lib.hid (And.intro b0 t0)
  clear b0 t0
  go_wp2_with fail
  go_loopw [5] (fun sv wr => ∃ (m : Nat) (acc : ByteArray), sv = .string acc ∧ acc.size ≤ 128 ∧ m < 2 ^ (128 - acc.size) ∧ baseL B n = baseL B m ++ acc.data.toList ∧ Blk wr w.heap.size 38 #[.int .i64 (pl m), .int .i64 (ph m)] ∧ Touch [] w wr) (fun sv _ => match sv with | .string x => 129 - x.size | _ => 0)
  case atStart => exact ⟨n, ⟨#[]⟩, rfl, by decide, hn, by simp, HB0.out.1, HB0.out.2⟩
  case round =>
    obtain ⟨m, acc, rfl, hacc, hm, hL, bP, tw⟩ := hrel
    have hm128 : m < 340282366920938463463374607431768211456 := Nat.lt_of_lt_of_le hm (Nat.pow_le_pow_right (by decide) (by omega) : 2 ^ (128 - acc.size) ≤ 2 ^ 128)
    have hs := hstep m hm128
    obtain ⟨c, hc⟩ : ∃ c, digC (m % B) = c := ⟨_, rfl⟩
    obtain ⟨m2, hm2⟩ : ∃ m2, m / B = m2 := ⟨_, rfl⟩
    rw [hc, hm2] at hs
    have HM := Lib.hid hm
    have HL := Lib.hid hL
    have HC := Lib.hid hc
    have HM2 := Lib.hid hm2
    have hm2lt : m2 < 340282366920938463463374607431768211456 := by rw [← hm2]; exact Nat.lt_of_le_of_lt (Nat.div_le_self _ _) hm128
    clear hm hL hc hm2
    have p0 := bP.cell 0
    have p1 := bP.cell 1
    go_wp2_with fail
    refine (hs _).mono ?_
    rintro _ w1 ⟨rfl, t1⟩
    have bP := bP.touch t1 (by simp)
    have tw := tw.trans t1 (by simp)
    clear t1 hs p0 p1
    go_upto_region 5 with (fail)
    have hlt := bP.lt
    have bQ := Blk.new w1 38 #[.int .i64 (pl m2), .int .i64 (ph m2)]
    have bP := bP.alloc (.cells #[.int .i64 (pl m2), .int .i64 (ph m2)] 38)
    have tw := tw.alloc (.cells #[.int .i64 (pl m2), .int .i64 (ph m2)] 38)
    have hne : w.heap.size ≠ w1.heap.size := by omega
    generalize w1.alloc (.cells #[.int .i64 (pl m2), .int .i64 (ph m2)] 38) = wA at *
    have hcv := conv_one wA c
    go_upto_region 6 with (fail)
    have bQ := bQ.alloc (.cells #[.int .u8 (c.toNat : Int)] 5)
    have bP := bP.alloc (.cells #[.int .u8 (c.toNat : Int)] 5)
    have tw := tw.alloc (.cells #[.int .u8 (c.toNat : Int)] 5)
    generalize wA.alloc (.cells #[.int .u8 (c.toNat : Int)] 5) = wB at *
    clear hcv hlt
    have q0 := bQ.cell 0
    have q1 := bQ.cell 1
    have p0 := bP.cell 0
    have p1 := bP.cell 1
    have g0 := bP.frozen 0
    have g1 := bP.frozen 1
    go_upto_region 7 with (fail)
    have bP := bP.two_set (.int .i64 (pl m2)) (.int .i64 (ph m2))
    have tw := (tw.setCell (p := ⟨w.heap.size, 0, none⟩) (.inr (Nat.le_refl _)) (.int .i64 (pl m2))).setCell (p := ⟨w.heap.size, 1, none⟩) (.inr (Nat.le_refl _)) (.int .i64 (ph m2))
    clear q0 q1 p0 p1 g0 g1 bQ
    generalize (wB.setCell ⟨w.heap.size, 0, none⟩ (.int .i64 (pl m2))).setCell ⟨w.heap.size, 1, none⟩ (.int .i64 (ph m2)) = wC at *
    have p0 := bP.cell 0
    have p1 := bP.cell 1
    have heq := fun W => pair_eql (pl m2) (ph m2) 0 0 W
    rw [pair_nil m2 hm2lt] at heq
    have hgd := pair_guard
    have hB0' : 0 < B := by omega
    by_cases hz : m2 = 0
    · rw [decide_eq_true hz] at heq
      have hmB : m < B := by
        have := HM2.out
        rw [hz] at this
        exact (Nat.div_eq_zero_iff_lt hB0').1 this
      have HmB := Lib.hid hmB
      clear hz hmB
      go_wp2_with fail
      go_ret
      refine ⟨congrArg (fun s => Ending.returned (.string s)) (str_ext ?_), tw⟩
      rw [str_cons, ← HC.out, Nat.mod_eq_of_lt HmB.out]
      show _ = (baseL B n).toArray.toList
      rw [List.toList_toArray, HL.out, baseL_last B m HmB.out]
      rfl
    · rw [decide_eq_false hz] at heq
      have hsz : ((⟨#[c]⟩ : ByteArray) ++ acc).size = acc.size + 1 := by
        rw [ByteArray.size_append, Nat.add_comm]
        rfl
      have hBm : B ≤ m := by
        rcases Nat.lt_or_ge m B with h | h
        · exact absurd (by rw [← HM2.out, Nat.div_eq_of_lt h]) hz
        · exact h
      have hacc2 : acc.size + 1 ≤ 128 := by
        rcases Nat.lt_or_ge acc.size 128 with h | h
        · omega
        · have := HM.out
          rw [show 128 - acc.size = 0 by omega, Nat.pow_zero] at this
          omega
      have hm2p : m2 < 2 ^ (128 - (acc.size + 1)) := by
        have h1 := HM.out
        rw [show 128 - acc.size = (128 - (acc.size + 1)) + 1 by omega, Nat.pow_succ] at h1
        rw [← HM2.out]
        have h2 : m / B ≤ m / 2 := Nat.div_le_div_left hB0 (by omega)
        omega
      have hLm : baseL B n = baseL B m2 ++ ((⟨#[c]⟩ : ByteArray) ++ acc).data.toList := by
        rw [str_cons, HL.out, baseL_more B m hB0 hBm, HM2.out, HC.out]
        simp
      have HX := Lib.hid (And.intro hsz (And.intro hacc2 (And.intro hm2p hLm)))
      clear hz hsz hBm hm2p hLm
      go_wp2_with fail
      refine ⟨⟨m2, _, rfl, by rw [HX.out.1]; exact HX.out.2.1, by rw [HX.out.1]; exact HX.out.2.2.1, HX.out.2.2.2, bP, tw⟩, ?_⟩
      show 129 - ((⟨#[c]⟩ : ByteArray) ++ acc).size < 129 - acc.size
      rw [HX.out.1]
      omega
end Go.Proofs.YtkbchpaofmlhgaaGreatDoor
