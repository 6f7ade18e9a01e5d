/- The contracts of package cell: the words that are done to two cells. -/
import Derived.Test.YtnhhflnanogpjaaGreatDoorCell
import Derived.Test.YtnhhflnanogpjaaGreatDoorMaps
import Derived.Deep.QuietTactic
namespace Go.Proofs.YtnhhflnanogpjaaGreatDoor
open Go.RowKit

/-- a quotient, rounded down, and what is left -/
def flooredF (a b : Int) : Int × Int :=
  if a.tmod b = 0 ∨ 0 ≤ bits .xor .i64 (a.tmod b) b then (wrap64 (a.tdiv b), a.tmod b) else (wrap64 (wrap64 (a.tdiv b) - 1), wrap64 (a.tmod b + b))
theorem tmod_cell (a b : Int) (h : Cell64 a) : Cell64 (a.tmod b) := by
  unfold Cell64 at *
  rcases Int.le_total 0 a with h0 | h0
  · have h1 := Int.tmod_nonneg (a := a) b h0
    have h2 : a.tmod b ≤ a := by
      have := Int.natAbs_tmod a b
      have h3 : (a.tmod b).natAbs ≤ a.natAbs := by rw [this]; exact Nat.mod_le _ _
      omega
    omega
  · have h3 : (a.tmod b).natAbs ≤ a.natAbs := by rw [Int.natAbs_tmod]; exact Nat.mod_le _ _
    have h4 : a.tmod b ≤ 0 := by
      have := Int.tmod_nonneg (a := -a) b (by omega)
      rw [Int.neg_tmod] at this
      omega
    omega
theorem flooredF_cell (a b : Int) (h : Cell64 a) : Cell64 (flooredF a b).1 ∧ Cell64 (flooredF a b).2 := by
  unfold flooredF
  split
  · exact ⟨wrap64_cell _, tmod_cell a b h⟩
  · exact ⟨wrap64_cell _, wrap64_cell _⟩

theorem floored_any (a b : Int) (hb : ¬ b = 0) (w : World) : Calls Tryz.prog 94 #[.int .i64 a, .int .i64 b] w fun e w' =>
    e = .returned (.tuple #[.int .i64 (flooredF a b).1, .int .i64 (flooredF a b).2]) ∧ Touch [] w w' := by
  unfold flooredF
  by_cases h1 : a.tmod b = 0
  · rw [if_pos (.inl h1)]
    go_enter Tryz.func94, Tryz.ntmps94
    go_wp2
    go_quiet (fail)
    go_wp2
    all_goals go_ret2
    all_goals refine ⟨?_, (Touch.refl _ _).drewN _⟩
    all_goals first | rfl | (rw [h1]; rfl)
  have h1' : (a.tmod b != 0) = true := by simp [h1]
  by_cases h2 : 0 ≤ bits .xor .i64 (a.tmod b) b
  · rw [if_pos (.inr h2)]
    have h2' : ¬ bits .xor .i64 (a.tmod b) b < 0 := by omega
    go_enter Tryz.func94, Tryz.ntmps94
    go_wp2
    go_quiet (fail)
    go_wp2
    all_goals go_ret2
    all_goals exact ⟨rfl, (Touch.refl _ _).drewN _⟩
  · rw [if_neg (by omega)]
    have h2' : bits .xor .i64 (a.tmod b) b < 0 := by omega
    go_enter Tryz.func94, Tryz.ntmps94
    go_wp2
    go_quiet (fail)
    go_wp2
    all_goals go_ret2
    all_goals exact ⟨rfl, (Touch.refl _ _).drewN _⟩

def Does2 (f : FuncId) (a b r : Int) (w : World) : Prop := Calls Tryz.prog f #[.int .i64 a, .int .i64 b] w fun e w' => e = .returned (.int .i64 r) ∧ Touch [] w w'
theorem D1 (a b : Int) (w : World) : Does2 90 a b (wrap64 (a + b)) w := by
  unfold Does2
  go_enter Tryz.func90, Tryz.ntmps90
  go_wp2
  go_ret
  exact ⟨rfl, Touch.refl _ _⟩
theorem D2 (a b : Int) (w : World) : Does2 91 a b (wrap64 (a - b)) w := by
  unfold Does2
  go_enter Tryz.func91, Tryz.ntmps91
  go_wp2
  go_ret
  exact ⟨rfl, Touch.refl _ _⟩
theorem D3 (a b : Int) (w : World) : Does2 92 a b (wrap64 (a * b)) w := by
  unfold Does2
  go_enter Tryz.func92, Tryz.ntmps92
  go_wp2
  go_ret
  exact ⟨rfl, Touch.refl _ _⟩
theorem D4 (a b : Int) (hb : ¬ b = 0) (w : World) : Does2 93 a b (flooredF a b).1 w := by
  unfold Does2
  have hT := fun w => floored_any a b hb w
  generalize flooredF a b = r at hT ⊢
  go_enter Tryz.func93, Tryz.ntmps93
  go_wp2_with fail
  refine (hT _).mono ?_
  rintro _ w1 ⟨rfl, t1⟩
  go_wp2
  go_ret
  exact ⟨rfl, t1⟩
theorem D5 (a b : Int) (hb : ¬ b = 0) (w : World) : Does2 95 a b (flooredF a b).2 w := by
  unfold Does2
  have hT := fun w => floored_any a b hb w
  generalize flooredF a b = r at hT ⊢
  go_enter Tryz.func95, Tryz.ntmps95
  go_wp2_with fail
  refine (hT _).mono ?_
  rintro _ w1 ⟨rfl, t1⟩
  go_wp2
  go_ret
  exact ⟨rfl, t1⟩
theorem D6 (a b : Int) (w : World) : Does2 96 a b (bits .and .i64 a b) w := by
  unfold Does2
  go_enter Tryz.func96, Tryz.ntmps96
  go_wp2
  go_ret
  exact ⟨rfl, Touch.refl _ _⟩
theorem D7 (a b : Int) (w : World) : Does2 97 a b (bits .or .i64 a b) w := by
  unfold Does2
  go_enter Tryz.func97, Tryz.ntmps97
  go_wp2
  go_ret
  exact ⟨rfl, Touch.refl _ _⟩
theorem D8 (a b : Int) (w : World) : Does2 98 a b (bits .xor .i64 a b) w := by
  unfold Does2
  go_enter Tryz.func98, Tryz.ntmps98
  go_wp2
  go_ret
  exact ⟨rfl, Touch.refl _ _⟩
theorem D9 (a b : Int) (w : World) : Does2 99 a b (wrap64 (a * 2 ^ min (IntKind.u64.wrap b).toNat 64)) w := by
  unfold Does2
  go_enter Tryz.func99, Tryz.ntmps99
  go_wp2
  go_ret
  exact ⟨rfl, Touch.refl _ _⟩
theorem D10 (a b : Int) (w : World) : Does2 100 a b (wrap64 (IntKind.u64.wrap a / 2 ^ min (IntKind.u64.wrap b).toNat 64)) w := by
  unfold Does2
  go_enter Tryz.func100, Tryz.ntmps100
  go_wp2
  go_ret
  exact ⟨rfl, Touch.refl _ _⟩
theorem D11 (a b : Int) (w : World) : Does2 101 a b (truthF (decide (a = b))) w := by
  unfold Does2
  have hT := fun b w => Truth_any b w
  go_enter Tryz.func101, Tryz.ntmps101
  go_wp2_with fail
  refine (hT _ _).mono ?_
  rintro _ _ ⟨rfl, rfl⟩
  go_wp2
  go_ret
  exact ⟨rfl, Touch.refl _ _⟩
theorem D12 (a b : Int) (w : World) : Does2 102 a b (truthF (!decide (a = b))) w := by
  unfold Does2
  have hT := fun b w => Truth_any b w
  go_enter Tryz.func102, Tryz.ntmps102
  go_wp2_with fail
  refine (hT _ _).mono ?_
  rintro _ _ ⟨rfl, rfl⟩
  go_wp2
  go_ret
  exact ⟨rfl, Touch.refl _ _⟩
theorem D13 (a b : Int) (w : World) : Does2 103 a b (truthF (decide (a < b))) w := by
  unfold Does2
  have hT := fun b w => Truth_any b w
  go_enter Tryz.func103, Tryz.ntmps103
  go_wp2_with fail
  refine (hT _ _).mono ?_
  rintro _ _ ⟨rfl, rfl⟩
  go_wp2
  go_ret
  exact ⟨rfl, Touch.refl _ _⟩
theorem D14 (a b : Int) (w : World) : Does2 104 a b (truthF (decide (b < a))) w := by
  unfold Does2
  have hT := fun b w => Truth_any b w
  go_enter Tryz.func104, Tryz.ntmps104
  go_wp2_with fail
  refine (hT _ _).mono ?_
  rintro _ _ ⟨rfl, rfl⟩
  go_wp2
  go_ret
  exact ⟨rfl, Touch.refl _ _⟩
theorem D15 (a b : Int) (w : World) : Does2 105 a b (truthF (decide (IntKind.u64.wrap a < IntKind.u64.wrap b))) w := by
  unfold Does2
  have hT := fun b w => Truth_any b w
  go_enter Tryz.func105, Tryz.ntmps105
  go_wp2_with fail
  refine (hT _ _).mono ?_
  rintro _ _ ⟨rfl, rfl⟩
  go_wp2
  go_ret
  exact ⟨rfl, Touch.refl _ _⟩
theorem D16 (a b : Int) (w : World) : Does2 106 a b (if a < b then a else b) w := by
  unfold Does2
  go_enter Tryz.func106, Tryz.ntmps106
  go_wp2
  all_goals go_ret
  all_goals refine ⟨ret1 (vint ?_), Touch.refl _ _⟩
  all_goals first | rfl | omega | (split <;> omega)
theorem D17 (a b : Int) (w : World) : Does2 107 a b (if b < a then a else b) w := by
  unfold Does2
  go_enter Tryz.func107, Tryz.ntmps107
  go_wp2
  all_goals go_ret
  all_goals refine ⟨ret1 (vint ?_), Touch.refl _ _⟩
  all_goals first | rfl | omega | (split <;> omega)

/-- what is done to two cells, by its number -/
def twoF (op a b : Int) : Int :=
  if op = 11 then wrap64 (a + b)
  else if op = 12 then wrap64 (a - b)
  else if op = 13 then wrap64 (a * b)
  else if op = 14 then (flooredF a b).1
  else if op = 15 then (flooredF a b).2
  else if op = 16 then bits .and .i64 a b
  else if op = 17 then bits .or .i64 a b
  else if op = 18 then bits .xor .i64 a b
  else if op = 19 then wrap64 (a * 2 ^ min (IntKind.u64.wrap b).toNat 64)
  else if op = 20 then wrap64 (IntKind.u64.wrap a / 2 ^ min (IntKind.u64.wrap b).toNat 64)
  else if op = 21 then truthF (decide (a = b))
  else if op = 22 then truthF (!decide (a = b))
  else if op = 23 then truthF (decide (a < b))
  else if op = 24 then truthF (decide (b < a))
  else if op = 25 then truthF (decide (IntKind.u64.wrap a < IntKind.u64.wrap b))
  else if op = 26 then (if a < b then a else b)
  else (if b < a then a else b)
theorem ite_cell {p : Prop} [Decidable p] {x y : Int} (hx : Cell64 x) (hy : Cell64 y) : Cell64 (if p then x else y) := by
  split
  · exact hx
  · exact hy
theorem twoF_cell (op a b : Int) (h : Cell64 a) (k : Cell64 b) : Cell64 (twoF op a b) := by
  have f := flooredF_cell a b h
  have f1 := f.1
  have f2 := f.2
  have t := truthF_cell
  have wr := wrap64_cell
  have bi := bits_cell
  clear f
  unfold twoF
  generalize flooredF a b = fl at *
  repeat' first | assumption | apply wr | apply t | apply bi | apply ite_cell

def fv (f : FuncId) : Value := .func (.func f) #[] #[]
def fnOf (op : Nat) : FuncId := [90, 91, 92, 93, 95, 96, 97, 98, 99, 100, 101, 102, 103, 104, 105, 106, 107].getD (op - 11) 0
def doesL : List (Int × Value) := [(11, fv 90), (12, fv 91), (13, fv 92), (14, fv 93), (15, fv 95), (16, fv 96), (17, fv 97), (18, fv 98), (19, fv 99), (20, fv 100), (21, fv 101), (22, fv 102), (23, fv 103), (24, fv 104), (25, fv 105), (26, fv 106), (27, fv 107)]

theorem fn_does (op : Nat) (h : 11 ≤ op ∧ op ≤ 27) (a b : Int) (hb : ¬ (b = 0 ∧ (op = 14 ∨ op = 15))) (w : World) : Does2 (fnOf op) a b (twoF op a b) w := by
  rcases (by omega : op = 11 ∨ op = 12 ∨ op = 13 ∨ op = 14 ∨ op = 15 ∨ op = 16 ∨ op = 17 ∨ op = 18 ∨ op = 19 ∨ op = 20 ∨ op = 21 ∨ op = 22 ∨ op = 23 ∨ op = 24 ∨ op = 25 ∨ op = 26 ∨ op = 27) with rfl | rfl | rfl | rfl | rfl | rfl | rfl | rfl | rfl | rfl | rfl | rfl | rfl | rfl | rfl | rfl | rfl
  · exact D1 a b w
  · exact D2 a b w
  · exact D3 a b w
  · exact D4 a b (fun e => hb ⟨e, by simp⟩) w
  · exact D5 a b (fun e => hb ⟨e, by simp⟩) w
  · exact D6 a b w
  · exact D7 a b w
  · exact D8 a b w
  · exact D9 a b w
  · exact D10 a b w
  · exact D11 a b w
  · exact D12 a b w
  · exact D13 a b w
  · exact D14 a b w
  · exact D15 a b w
  · exact D16 a b w
  · exact D17 a b w

set_option maxRecDepth 100000 in
set_option maxHeartbeats 4000000 in
theorem does_any (w : World) : Calls Tryz.prog 81 #[] w fun e w' => ∃ b, e = .returned (.map (some b)) ∧ IMap w' b doesL ∧ Touch [] w w' := by
  have tall := (Touch.refl [] w).alloc (.map #[] 0)
  have i0 := IMap.new w
  have hmm := @run_makeMap Tryz.prog
  go_enter Tryz.func81, Tryz.ntmps81
  go_wp2_with (refine wpList_iins _ rfl _ _ _ 121 rfl _ _ Tryz.underlying121 Tryz.underlying3 w.heap.size _ rfl (by first | assumption | exact i0) _ rfl _ rfl ?_; intro wn hn tn; have tall := tall.trans tn (by simp))
  clear hmm
  go_ret
  refine ⟨w.heap.size, rfl, ?_, tall⟩
  exact hn

theorem does_at (op : Nat) (h : 11 ≤ op ∧ op ≤ 27) : atKey doesL op = some (fv (fnOf op)) := by
  rcases (by omega : op = 11 ∨ op = 12 ∨ op = 13 ∨ op = 14 ∨ op = 15 ∨ op = 16 ∨ op = 17 ∨ op = 18 ∨ op = 19 ∨ op = 20 ∨ op = 21 ∨ op = 22 ∨ op = 23 ∨ op = 24 ∨ op = 25 ∨ op = 26 ∨ op = 27) with rfl | rfl | rfl | rfl | rfl | rfl | rfl | rfl | rfl | rfl | rfl | rfl | rfl | rfl | rfl | rfl | rfl <;> rfl

end Go.Proofs.YtnhhflnanogpjaaGreatDoor
