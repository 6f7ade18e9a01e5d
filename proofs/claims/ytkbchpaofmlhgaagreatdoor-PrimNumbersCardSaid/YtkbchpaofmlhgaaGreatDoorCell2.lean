/- The contracts of package cell: the words that are done to two cells. -/
import Derived.Test.YtkbchpaofmlhgaaGreatDoorCell
import Derived.Test.YtkbchpaofmlhgaaGreatDoorMaps
import Derived.Deep.QuietTactic
namespace Go.Proofs.YtkbchpaofmlhgaaGreatDoor
open Go.RowKit

/-- a quotient, rounded down, and what is left -/
def flooredF (a b : Int) : Int × Int :=
  if a.tmod b = 0 ∨ 0 ≤ bits .xor .i64 (a.tmod b) b then (wrap64 (a.tdiv b), a.tmod b) else (wrap64 (wrap64 (a.tdiv b) - 1), wrap64 (a.tmod b + b))
theorem tmod_cell (a b : Int) (h : Cell64 a) : Cell64 (a.tmod b) := by
  unfold Cell64 at *
  rcases Int.le_total 0 a with h0 | h0
  · have h1 := Int.tmod_nonneg (a := a) b h0
    have h2 : a.tmod b ≤ a := by
      have := Int.natAbs_tmod a b
      have h3 : (a.tmod b).natAbs ≤ a.natAbs := by rw [this]; exact Nat.mod_le _ _
      omega
    omega
  · have h3 : (a.tmod b).natAbs ≤ a.natAbs := by rw [Int.natAbs_tmod]; exact Nat.mod_le _ _
    have h4 : a.tmod b ≤ 0 := by
      have := Int.tmod_nonneg (a := -a) b (by omega)
      rw [Int.neg_tmod] at this
      omega
    omega
theorem flooredF_cell (a b : Int) (h : Cell64 a) : Cell64 (flooredF a b).1 ∧ Cell64 (flooredF a b).2 := by
  unfold flooredF
  split
  · exact ⟨wrap64_cell _, tmod_cell a b h⟩
  · exact ⟨wrap64_cell _, wrap64_cell _⟩

theorem floored_any (a b : Int) (hb : ¬ b = 0) (w : World) : Calls Tryz.prog 191 #[.int .i64 a, .int .i64 b] w fun e w' =>
    e = .returned (.tuple #[.int .i64 (flooredF a b).1, .int .i64 (flooredF a b).2]) ∧ Touch [] w w' := by
  unfold flooredF
  by_cases h1 : a.tmod b = 0
  · rw [if_pos (.inl h1)]
    go_enter Tryz.func191, Tryz.ntmps191
    go_wp2
    go_quiet (fail)
    go_wp2
    all_goals go_ret2
    all_goals refine ⟨?_, (Touch.refl _ _).drewN _⟩
    all_goals first | rfl | (rw [h1]; rfl)
  have h1' : (a.tmod b != 0) = true := by simp [h1]
  by_cases h2 : 0 ≤ bits .xor .i64 (a.tmod b) b
  · rw [if_pos (.inr h2)]
    have h2' : ¬ bits .xor .i64 (a.tmod b) b < 0 := by omega
    go_enter Tryz.func191, Tryz.ntmps191
    go_wp2
    go_quiet (fail)
    go_wp2
    all_goals go_ret2
    all_goals exact ⟨rfl, (Touch.refl _ _).drewN _⟩
  · rw [if_neg (by omega)]
    have h2' : bits .xor .i64 (a.tmod b) b < 0 := by omega
    go_enter Tryz.func191, Tryz.ntmps191
    go_wp2
    go_quiet (fail)
    go_wp2
    all_goals go_ret2
    all_goals exact ⟨rfl, (Touch.refl _ _).drewN _⟩

def Does2 (f : FuncId) (a b r : Int) (w : World) : Prop := Calls Tryz.prog f #[.int .i64 a, .int .i64 b] w fun e w' => e = .returned (.int .i64 r) ∧ Touch [] w w'
theorem D1 (a b : Int) (w : World) : Does2 187 a b (wrap64 (a + b)) w := by
  unfold Does2
  go_enter Tryz.func187, Tryz.ntmps187
  go_wp2
  go_ret
  exact ⟨rfl, Touch.refl _ _⟩
theorem D2 (a b : Int) (w : World) : Does2 188 a b (wrap64 (a - b)) w := by
  unfold Does2
  go_enter Tryz.func188, Tryz.ntmps188
  go_wp2
  go_ret
  exact ⟨rfl, Touch.refl _ _⟩
theorem D3 (a b : Int) (w : World) : Does2 189 a b (wrap64 (a * b)) w := by
  unfold Does2
  go_enter Tryz.func189, Tryz.ntmps189
  go_wp2
  go_ret
  exact ⟨rfl, Touch.refl _ _⟩
theorem D4 (a b : Int) (hb : ¬ b = 0) (w : World) : Does2 190 a b (flooredF a b).1 w := by
  unfold Does2
  have hT := fun w => floored_any a b hb w
  generalize flooredF a b = r at hT ⊢
  go_enter Tryz.func190, Tryz.ntmps190
  go_wp2_with fail
  refine (hT _).mono ?_
  rintro _ w1 ⟨rfl, t1⟩
  go_wp2
  go_ret
  exact ⟨rfl, t1⟩
theorem D5 (a b : Int) (hb : ¬ b = 0) (w : World) : Does2 192 a b (flooredF a b).2 w := by
  unfold Does2
  have hT := fun w => floored_any a b hb w
  generalize flooredF a b = r at hT ⊢
  go_enter Tryz.func192, Tryz.ntmps192
  go_wp2_with fail
  refine (hT _).mono ?_
  rintro _ w1 ⟨rfl, t1⟩
  go_wp2
  go_ret
  exact ⟨rfl, t1⟩
theorem D6 (a b : Int) (w : World) : Does2 193 a b (bits .and .i64 a b) w := by
  unfold Does2
  go_enter Tryz.func193, Tryz.ntmps193
  go_wp2
  go_ret
  exact ⟨rfl, Touch.refl _ _⟩
theorem D7 (a b : Int) (w : World) : Does2 194 a b (bits .or .i64 a b) w := by
  unfold Does2
  go_enter Tryz.func194, Tryz.ntmps194
  go_wp2
  go_ret
  exact ⟨rfl, Touch.refl _ _⟩
theorem D8 (a b : Int) (w : World) : Does2 195 a b (bits .xor .i64 a b) w := by
  unfold Does2
  go_enter Tryz.func195, Tryz.ntmps195
  go_wp2
  go_ret
  exact ⟨rfl, Touch.refl _ _⟩
theorem D9 (a b : Int) (w : World) : Does2 196 a b (wrap64 (a * 2 ^ min (IntKind.u64.wrap b).toNat 64)) w := by
  unfold Does2
  go_enter Tryz.func196, Tryz.ntmps196
  go_wp2
  go_ret
  exact ⟨rfl, Touch.refl _ _⟩
theorem D10 (a b : Int) (w : World) : Does2 197 a b (wrap64 (IntKind.u64.wrap a / 2 ^ min (IntKind.u64.wrap b).toNat 64)) w := by
  unfold Does2
  go_enter Tryz.func197, Tryz.ntmps197
  go_wp2
  go_ret
  exact ⟨rfl, Touch.refl _ _⟩
theorem D11 (a b : Int) (w : World) : Does2 198 a b (truthF (decide (a = b))) w := by
  unfold Does2
  have hT := fun b w => Truth_any b w
  go_enter Tryz.func198, Tryz.ntmps198
  go_wp2_with fail
  refine (hT _ _).mono ?_
  rintro _ _ ⟨rfl, rfl⟩
  go_wp2
  go_ret
  exact ⟨rfl, Touch.refl _ _⟩
theorem D12 (a b : Int) (w : World) : Does2 199 a b (truthF (!decide (a = b))) w := by
  unfold Does2
  have hT := fun b w => Truth_any b w
  go_enter Tryz.func199, Tryz.ntmps199
  go_wp2_with fail
  refine (hT _ _).mono ?_
  rintro _ _ ⟨rfl, rfl⟩
  go_wp2
  go_ret
  exact ⟨rfl, Touch.refl _ _⟩
theorem D13 (a b : Int) (w : World) : Does2 200 a b (truthF (decide (a < b))) w := by
  unfold Does2
  have hT := fun b w => Truth_any b w
  go_enter Tryz.func200, Tryz.ntmps200
  go_wp2_with fail
  refine (hT _ _).mono ?_
  rintro _ _ ⟨rfl, rfl⟩
  go_wp2
  go_ret
  exact ⟨rfl, Touch.refl _ _⟩
theorem D14 (a b : Int) (w : World) : Does2 201 a b (truthF (decide (b < a))) w := by
  unfold Does2
  have hT := fun b w => Truth_any b w
  go_enter Tryz.func201, Tryz.ntmps201
  go_wp2_with fail
  refine (hT _ _).mono ?_
  rintro _ _ ⟨rfl, rfl⟩
  go_wp2
  go_ret
  exact ⟨rfl, Touch.refl _ _⟩
theorem D15 (a b : Int) (w : World) : Does2 202 a b (truthF (decide (IntKind.u64.wrap a < IntKind.u64.wrap b))) w := by
  unfold Does2
  have hT := fun b w => Truth_any b w
  go_enter Tryz.func202, Tryz.ntmps202
  go_wp2_with fail
  refine (hT _ _).mono ?_
  rintro _ _ ⟨rfl, rfl⟩
  go_wp2
  go_ret
  exact ⟨rfl, Touch.refl _ _⟩
theorem D16 (a b : Int) (w : World) : Does2 203 a b (if a < b then a else b) w := by
  unfold Does2
  go_enter Tryz.func203, Tryz.ntmps203
  go_wp2
  all_goals go_ret
  all_goals refine ⟨ret1 (vint ?_), Touch.refl _ _⟩
  all_goals first | rfl | omega | (split <;> omega)
theorem D17 (a b : Int) (w : World) : Does2 204 a b (if b < a then a else b) w := by
  unfold Does2
  go_enter Tryz.func204, Tryz.ntmps204
  go_wp2
  all_goals go_ret
  all_goals refine ⟨ret1 (vint ?_), Touch.refl _ _⟩
  all_goals first | rfl | omega | (split <;> omega)

/-- what is done to two cells, by its number -/
def twoF (op a b : Int) : Int :=
  if op = 11 then wrap64 (a + b)
  else if op = 12 then wrap64 (a - b)
  else if op = 13 then wrap64 (a * b)
  else if op = 14 then (flooredF a b).1
  else if op = 15 then (flooredF a b).2
  else if op = 16 then bits .and .i64 a b
  else if op = 17 then bits .or .i64 a b
  else if op = 18 then bits .xor .i64 a b
  else if op = 19 then wrap64 (a * 2 ^ min (IntKind.u64.wrap b).toNat 64)
  else if op = 20 then wrap64 (IntKind.u64.wrap a / 2 ^ min (IntKind.u64.wrap b).toNat 64)
  else if op = 21 then truthF (decide (a = b))
  else if op = 22 then truthF (!decide (a = b))
  else if op = 23 then truthF (decide (a < b))
  else if op = 24 then truthF (decide (b < a))
  else if op = 25 then truthF (decide (IntKind.u64.wrap a < IntKind.u64.wrap b))
  else if op = 26 then (if a < b then a else b)
  else (if b < a then a else b)
theorem ite_cell {p : Prop} [Decidable p] {x y : Int} (hx : Cell64 x) (hy : Cell64 y) : Cell64 (if p then x else y) := by
  split
  · exact hx
  · exact hy
theorem twoF_cell (op a b : Int) (h : Cell64 a) (k : Cell64 b) : Cell64 (twoF op a b) := by
  have f := flooredF_cell a b h
  have f1 := f.1
  have f2 := f.2
  have t := truthF_cell
  have wr := wrap64_cell
  have bi := bitwise_cell
  clear f
  unfold twoF
  generalize flooredF a b = fl at *
  repeat' first | assumption | apply wr | apply t | apply bi | apply ite_cell

def fv (f : FuncId) : Value := .func (.func f) #[] #[]
def fnOf (op : Nat) : FuncId := [187, 188, 189, 190, 192, 193, 194, 195, 196, 197, 198, 199, 200, 201, 202, 203, 204].getD (op - 11) 0
def doesL : List (Int × Value) := [(11, fv 187), (12, fv 188), (13, fv 189), (14, fv 190), (15, fv 192), (16, fv 193), (17, fv 194), (18, fv 195), (19, fv 196), (20, fv 197), (21, fv 198), (22, fv 199), (23, fv 200), (24, fv 201), (25, fv 202), (26, fv 203), (27, fv 204)]

theorem fn_does (op : Nat) (h : 11 ≤ op ∧ op ≤ 27) (a b : Int) (hb : ¬ (b = 0 ∧ (op = 14 ∨ op = 15))) (w : World) : Does2 (fnOf op) a b (twoF op a b) w := by
  rcases (by omega : op = 11 ∨ op = 12 ∨ op = 13 ∨ op = 14 ∨ op = 15 ∨ op = 16 ∨ op = 17 ∨ op = 18 ∨ op = 19 ∨ op = 20 ∨ op = 21 ∨ op = 22 ∨ op = 23 ∨ op = 24 ∨ op = 25 ∨ op = 26 ∨ op = 27) with rfl | rfl | rfl | rfl | rfl | rfl | rfl | rfl | rfl | rfl | rfl | rfl | rfl | rfl | rfl | rfl | rfl
  · exact D1 a b w
  · exact D2 a b w
  · exact D3 a b w
  · exact D4 a b (fun e => hb ⟨e, by simp⟩) w
  · exact D5 a b (fun e => hb ⟨e, by simp⟩) w
  · exact D6 a b w
  · exact D7 a b w
  · exact D8 a b w
  · exact D9 a b w
  · exact D10 a b w
  · exact D11 a b w
  · exact D12 a b w
  · exact D13 a b w
  · exact D14 a b w
  · exact D15 a b w
  · exact D16 a b w
  · exact D17 a b w

set_option maxRecDepth 100000 in
set_option maxHeartbeats 4000000 in
theorem does_any (w : World) : Calls Tryz.prog 96 #[] w fun e w' => ∃ b, e = .returned (.map (some b)) ∧ IMap w' b doesL ∧ Touch [] w w' := by
  have tall := (Touch.refl [] w).alloc (.map #[] 0)
  have i0 := IMap.new w
  have hmm := @run_makeMap Tryz.prog
  go_enter Tryz.func96, Tryz.ntmps96
  go_wp2_with (refine wpList_iins _ rfl _ _ _ 138 rfl _ _ Tryz.underlying138 Tryz.underlying3 w.heap.size _ rfl (by first | assumption | exact i0) _ rfl _ rfl ?_; intro wn hn tn; have tall := tall.trans tn (by simp))
  clear hmm
  go_ret
  refine ⟨w.heap.size, rfl, ?_, tall⟩
  exact hn

theorem does_at (op : Nat) (h : 11 ≤ op ∧ op ≤ 27) : atKey doesL op = some (fv (fnOf op)) := by
  rcases (by omega : op = 11 ∨ op = 12 ∨ op = 13 ∨ op = 14 ∨ op = 15 ∨ op = 16 ∨ op = 17 ∨ op = 18 ∨ op = 19 ∨ op = 20 ∨ op = 21 ∨ op = 22 ∨ op = 23 ∨ op = 24 ∨ op = 25 ∨ op = 26 ∨ op = 27) with rfl | rfl | rfl | rfl | rfl | rfl | rfl | rfl | rfl | rfl | rfl | rfl | rfl | rfl | rfl | rfl | rfl <;> rfl

end Go.Proofs.YtkbchpaofmlhgaaGreatDoor
