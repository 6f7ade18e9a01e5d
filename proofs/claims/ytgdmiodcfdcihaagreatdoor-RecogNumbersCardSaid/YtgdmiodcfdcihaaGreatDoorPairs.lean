/- The package pair: what its functions make of pairs, as functions of the pairs alone. -/
import Derived.Test.YtgdmiodcfdcihaaGreatDoorShelfZD
import Derived.Test.YtgdmiodcfdcihaaGreatDoorWorld
import Derived.Handy
namespace Go.Proofs.YtgdmiodcfdcihaaGreatDoor
open Go.RowKit

/-- a pair as it lies -/
def pairW (p : Int × Int) : Value := .agg #[.int .i64 p.1, .int .i64 p.2]

theorem run_Add64 (x y c : Int) (hx : 0 ≤ x) (hy : 0 ≤ y) (hc0 : 0 ≤ c) (hc : c ≤ 1) (w : World) :
    (callFunc 90 #[.int .u64 x, .int .u64 y, .int .u64 c]).run Tryz.prog w = .ok (.value (.tuple #[.int .u64 ((x + y + c) % 18446744073709551616), .int .u64 ((x + y + c) / 18446744073709551616)])) w := by
  rw [run_callFunc_extern Tryz.func90 (by kernel_rfl) (by kernel_rfl) (by kernel_rfl) (e := add64Entry) (by kernel_rfl)]
  rw [run_add64 x y c hx hy hc0 hc w]
  rfl

/-- the low 64 bits of a cell, as a number -/
def b64 (a : Int) : Nat := (a % 18446744073709551616).toNat
theorem b64_lt (a : Int) : b64 a < 18446744073709551616 := by unfold b64; omega
theorem b64_wrap (a : Int) : IntKind.u64.wrap a = (b64 a : Int) := by rw [IntKind.wrap_u64]; unfold b64; omega

theorem made_any (hi lo : Int) (w : World) : Calls Tryz.prog 80 #[.int .u64 hi, .int .u64 lo] w fun e w' => e = .returned (pairW (wrap64 lo, wrap64 hi)) ∧ Touch [] w w' := by
  unfold pairW
  go_enter Tryz.func80, Tryz.ntmps80
  go_wp2_with fail
  go_returns
  exact ⟨rfl, (Touch.refl _ _).alloc _⟩

def ofP (a : Int) : Int × Int := (a, a / 9223372036854775808)
theorem Of_any (a : Int) (w : World) : Calls Tryz.prog 78 #[.int .i64 a] w fun e w' => e = .returned (pairW (ofP a)) ∧ Touch [] w w' := by
  unfold pairW ofP
  go_enter Tryz.func78, Tryz.ntmps78
  go_wp2_with fail
  go_returns
  exact ⟨rfl, (Touch.refl _ _).alloc _⟩

def umulP (a b : Int) : Int × Int := (wrap64 ((b64 a * b64 b % 18446744073709551616 : Nat) : Int), wrap64 ((b64 a * b64 b / 18446744073709551616 : Nat) : Int))
theorem UMul_any (a b : Int) (w : World) : Calls Tryz.prog 76 #[.int .i64 a, .int .i64 b] w fun e w' => e = .returned (pairW (umulP a b)) ∧ Touch [] w w' := by
  have ha := b64_wrap a
  have hb := b64_wrap b
  have hmul := fun w => Tryz.bits_Mul64 (b64 a) (b64 b) (b64_lt a) (b64_lt b) w
  unfold umulP
  obtain ⟨s, hs⟩ : ∃ s : Int, ((b64 a * b64 b % 18446744073709551616 : Nat) : Int) = s := ⟨_, rfl⟩
  obtain ⟨u, hu⟩ : ∃ s : Int, ((b64 a * b64 b / 18446744073709551616 : Nat) : Int) = s := ⟨_, rfl⟩
  rw [hs, hu]
  simp only [hs, hu] at hmul
  clear hs hu
  unfold pairW
  go_enter Tryz.func76, Tryz.ntmps76
  go_wp2_with (simp only [ha, hb])
  refine (hmul _).mono ?_
  rintro _ _ ⟨rfl, rfl⟩
  go_wp2_with fail
  refine (made_any _ _ _).mono ?_
  rintro _ w1 ⟨rfl, t1⟩
  have b4 := (Blk.new w 33 #[.int .i64 0, .int .i64 0]).touch t1 (by simp)
  have t2 : Touch [] w w1 := ((Touch.refl [] w).alloc _).trans t1 (by simp)
  have e0 := b4.cell 0
  have e1 := b4.cell 1
  have f0 := b4.frozen 0
  have f1 := b4.frozen 1
  clear t1
  unfold pairW
  go_wp2_with fail
  obtain ⟨z0, z1⟩ := two_back b4 (.int .i64 (wrap64 s)) (.int .i64 (wrap64 u))
  refine bodyPost_ret (by simp [results, Tryz.results76, go_sem, z0, z1]; try rfl) rfl ⟨rfl, ?_⟩
  exact (t2.setCell (.inr (Nat.le_refl _)) _).setCell (.inr (Nat.le_refl _)) _

/-- sums -/
def addP (p q : Int × Int) : Int × Int :=
  let s : Int := (b64 p.1 : Int) + b64 q.1
  (wrap64 (s % 18446744073709551616), wrap64 (((b64 p.2 : Int) + b64 q.2 + s / 18446744073709551616) % 18446744073709551616))
set_option maxRecDepth 100000 in
theorem Add_any (p q : Int × Int) (w : World) : Calls Tryz.prog 77 #[pairW p, pairW q] w fun e w' => e = .returned (pairW (addP p q)) ∧ Touch [] w w' := by
  obtain ⟨a, c⟩ := p
  obtain ⟨b, d⟩ := q
  have ha := b64_wrap a
  have hb := b64_wrap b
  have hc := b64_wrap c
  have hd := b64_wrap d
  have la := b64_lt a
  have lb := b64_lt b
  have r1 := fun w => run_Add64 (b64 a) (b64 b) 0 (by omega) (by omega) (by omega) (by omega) w
  obtain ⟨k, hk, hk0, hk1⟩ : ∃ k : Int, ((b64 a : Int) + b64 b + 0) / 18446744073709551616 = k ∧ 0 ≤ k ∧ k ≤ 1 := ⟨_, rfl, by omega, by omega⟩
  have r2 := fun w => run_Add64 (b64 c) (b64 d) k (by omega) (by omega) hk0 hk1 w
  obtain ⟨s, hs⟩ : ∃ s : Int, ((b64 a : Int) + b64 b + 0) % 18446744073709551616 = s := ⟨_, rfl⟩
  obtain ⟨u, hu⟩ : ∃ s : Int, ((b64 c : Int) + b64 d + k) % 18446744073709551616 = s := ⟨_, rfl⟩
  obtain ⟨m, hm⟩ : ∃ s : Int, ((b64 c : Int) + b64 d + k) / 18446744073709551616 = s := ⟨_, rfl⟩
  have hr : addP (a, c) (b, d) = (wrap64 s, wrap64 u) := by
    rw [Int.add_zero] at hk hs
    simp only [addP, hk, hs, hu]
  rw [hk, hs] at r1
  rw [hu, hm] at r2
  rw [hr]
  clear hr hk hs hu hm la lb
  unfold pairW
  go_enter Tryz.func77, Tryz.ntmps77
  go_wp2_with (simp only [ha, hb, hc, hd])
  refine (made_any _ _ _).mono ?_
  rintro _ w1 ⟨rfl, t1⟩
  have b4 := (Blk.new_at2 t1 (n := w.heap.size + 2) (by simp))
  have t2 : Touch [] w w1 := ((((Touch.refl [] w).alloc _).alloc _).alloc _).trans t1 (by simp)
  have e0 := b4.cell 0
  have e1 := b4.cell 1
  have f0 := b4.frozen 0
  have f1 := b4.frozen 1
  clear t1
  unfold pairW
  go_wp2_with fail
  obtain ⟨z0, z1⟩ := two_back b4 (.int .i64 (wrap64 s)) (.int .i64 (wrap64 u))
  refine bodyPost_ret (by simp [results, Tryz.results77, go_sem, z0, z1]; try rfl) rfl ⟨rfl, ?_⟩
  exact (t2.setCell (.inr (by simp; omega)) _).setCell (.inr (by simp; omega)) _

theorem run_Sub64 (x y c : Nat) (hc : c ≤ 1) (w : World) :
    (callFunc 79 #[.int .u64 x, .int .u64 y, .int .u64 c]).run Tryz.prog w = .ok (.value (.tuple #[.int .u64 (((x + 18446744073709551616 - y - c) % 18446744073709551616 : Nat) : Int), .int .u64 ((if x < y + c then 1 else 0 : Nat) : Int)])) w := by
  obtain ⟨E, hE, hr⟩ : ∃ E : Array Value → Sem Value, E = (fun args => do
    let (x, y, b) ← Extern.MathBitsCarry.three "Sub64" args
    pure (Extern.MathBitsCarry.pair ((x + Extern.MathBitsCarry.m64 - y - b) % Extern.MathBitsCarry.m64) (if x < y + b then 1 else 0))) ∧ True := ⟨_, rfl, trivial⟩
  rw [run_callFunc_extern Tryz.func79 (by kernel_rfl) (by kernel_rfl) (by kernel_rfl) (e := E) (by subst hE; kernel_rfl)]
  subst hE
  have : c = 0 ∨ c = 1 := by omega
  rcases this with rfl | rfl <;> rfl

/-- less a pair -/
def negP (p : Int × Int) : Int × Int :=
  let k : Nat := if 0 < b64 p.1 + 0 then 1 else 0
  (wrap64 (((0 + 18446744073709551616 - b64 p.1 - 0) % 18446744073709551616 : Nat) : Int), wrap64 (((0 + 18446744073709551616 - b64 p.2 - k) % 18446744073709551616 : Nat) : Int))
set_option maxRecDepth 100000 in
theorem Neg_any (p : Int × Int) (w : World) : Calls Tryz.prog 67 #[pairW p] w fun e w' => e = .returned (pairW (negP p)) ∧ Touch [] w w' := by
  obtain ⟨a, c⟩ := p
  have ha := b64_wrap a
  have hc := b64_wrap c
  have r1 := fun w => run_Sub64 0 (b64 a) 0 (by omega) w
  obtain ⟨k, hk, hk1⟩ : ∃ k : Nat, (if 0 < b64 a + 0 then 1 else 0) = k ∧ k ≤ 1 := ⟨_, rfl, by split <;> omega⟩
  have r2 := fun w => run_Sub64 0 (b64 c) k hk1 w
  obtain ⟨s, hs⟩ : ∃ s : Int, (((0 + 18446744073709551616 - b64 a - 0) % 18446744073709551616 : Nat) : Int) = s := ⟨_, rfl⟩
  obtain ⟨u, hu⟩ : ∃ s : Int, (((0 + 18446744073709551616 - b64 c - k) % 18446744073709551616 : Nat) : Int) = s := ⟨_, rfl⟩
  obtain ⟨m, hm⟩ : ∃ s : Int, ((if 0 < b64 c + k then 1 else 0 : Nat) : Int) = s := ⟨_, rfl⟩
  have hr : negP (a, c) = (wrap64 s, wrap64 u) := by
    simp only [negP, hk, hs, hu]
  rw [hk, hs] at r1
  rw [hu, hm] at r2
  rw [hr]
  clear hr hk hs hu hm hk1
  have z0 : ((0 : Nat) : Int) = 0 := rfl
  rw [z0] at r1 r2
  unfold pairW
  go_enter Tryz.func67, Tryz.ntmps67
  go_wp2_with (simp only [ha, hc])
  refine (made_any _ _ _).mono ?_
  rintro _ w1 ⟨rfl, t1⟩
  have b4 := (Blk.new_at2 t1 (n := w.heap.size + 1) (by simp))
  have t2 : Touch [] w w1 := (((Touch.refl [] w).alloc _).alloc _).trans t1 (by simp)
  have e0 := b4.cell 0
  have e1 := b4.cell 1
  have f0 := b4.frozen 0
  have f1 := b4.frozen 1
  clear t1
  unfold pairW
  go_wp2_with fail
  obtain ⟨z0, z1⟩ := two_back b4 (.int .i64 (wrap64 s)) (.int .i64 (wrap64 u))
  refine bodyPost_ret (by simp [results, Tryz.results67, go_sem, z0, z1]; try rfl) rfl ⟨rfl, ?_⟩
  exact (t2.setCell (.inr (by simp)) _).setCell (.inr (by simp)) _
end Go.Proofs.YtgdmiodcfdcihaaGreatDoor
