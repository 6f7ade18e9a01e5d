import Derived.Test.YtdokeddjcpnmiaaGreatDoorJMapsA
import Derived.Deep.QuietTactic
import Derived.Shelf.Abstract
import Derived.Test.YtdokeddjcpnmiaaGreatDoorJStkA
import Derived.Test.YtdokeddjcpnmiaaGreatDoorJPDo
import Derived.Test.YtdokeddjcpnmiaaGreatDoorJFind
import Derived.Test.YtdokeddjcpnmiaaGreatDoorJPDoC
/- The contracts of package cell: the words that are done to two cells. -/
namespace Go.Proofs.YtdokeddjcpnmiaaGreatDoor
open Go.RowKit

/-- a quotient, rounded down, and what is left -/
def flooredF (a b : Int) : Int × Int :=
  if a.tmod b = 0 ∨ 0 ≤ bits .xor .i64 (a.tmod b) b then (wrap64 (a.tdiv b), a.tmod b) else (wrap64 (wrap64 (a.tdiv b) - 1), wrap64 (a.tmod b + b))
theorem tmod_cell (a b : Int) (h : Cell64 a) : Cell64 (a.tmod b) := by
  unfold Cell64 at *
  rcases Int.le_total 0 a with h0 | h0
  · have h1 := Int.tmod_nonneg (a := a) b h0
    have h2 : a.tmod b ≤ a := by
      have := Int.natAbs_tmod a b
      have h3 : (a.tmod b).natAbs ≤ a.natAbs := by rw [this]; exact Nat.mod_le _ _
      omega
    omega
  · have h3 : (a.tmod b).natAbs ≤ a.natAbs := by rw [Int.natAbs_tmod]; exact Nat.mod_le _ _
    have h4 : a.tmod b ≤ 0 := by
      have := Int.tmod_nonneg (a := -a) b (by omega)
      rw [Int.neg_tmod] at this
      omega
    omega
theorem flooredF_cell (a b : Int) (h : Cell64 a) : Cell64 (flooredF a b).1 ∧ Cell64 (flooredF a b).2 := by
  unfold flooredF
  split
  · exact ⟨wrap64_cell _, tmod_cell a b h⟩
  · exact ⟨wrap64_cell _, wrap64_cell _⟩

theorem floored_any (a b : Int) (hb : ¬ b = 0) (w : World) : Calls Tryz.prog 253 #[.int .i64 a, .int .i64 b] w fun e w' =>
    e = .returned (.tuple #[.int .i64 (flooredF a b).1, .int .i64 (flooredF a b).2]) ∧ Touch [] w w' := by
  unfold flooredF
  by_cases h1 : a.tmod b = 0
  · rw [if_pos (.inl h1)]
    go_enter Tryz.func253, Tryz.ntmps253
    go_wp2
    go_quiet (fail)
    go_wp2
    all_goals go_ret2
    all_goals refine ⟨?_, (Touch.refl _ _).drewN _⟩
    all_goals first | rfl | (rw [h1]; rfl)
  have h1' : (a.tmod b != 0) = true := by simp [h1]
  by_cases h2 : 0 ≤ bits .xor .i64 (a.tmod b) b
  · rw [if_pos (.inr h2)]
    have h2' : ¬ bits .xor .i64 (a.tmod b) b < 0 := by omega
    go_enter Tryz.func253, Tryz.ntmps253
    go_wp2
    go_quiet (fail)
    go_wp2
    all_goals go_ret2
    all_goals exact ⟨rfl, (Touch.refl _ _).drewN _⟩
  · rw [if_neg (by omega)]
    have h2' : bits .xor .i64 (a.tmod b) b < 0 := by omega
    go_enter Tryz.func253, Tryz.ntmps253
    go_wp2
    go_quiet (fail)
    go_wp2
    all_goals go_ret2
    all_goals exact ⟨rfl, (Touch.refl _ _).drewN _⟩

def Does2 (f : FuncId) (a b r : Int) (w : World) : Prop := Calls Tryz.prog f #[.int .i64 a, .int .i64 b] w fun e w' => e = .returned (.int .i64 r) ∧ Touch [] w w'
theorem D1 (a b : Int) (w : World) : Does2 249 a b (wrap64 (a + b)) w := by
  unfold Does2
  go_enter Tryz.func249, Tryz.ntmps249
  go_wp2
  go_ret
  exact ⟨rfl, Touch.refl _ _⟩
theorem D2 (a b : Int) (w : World) : Does2 250 a b (wrap64 (a - b)) w := by
  unfold Does2
  go_enter Tryz.func250, Tryz.ntmps250
  go_wp2
  go_ret
  exact ⟨rfl, Touch.refl _ _⟩
theorem D3 (a b : Int) (w : World) : Does2 251 a b (wrap64 (a * b)) w := by
  unfold Does2
  go_enter Tryz.func251, Tryz.ntmps251
  go_wp2
  go_ret
  exact ⟨rfl, Touch.refl _ _⟩
theorem D4 (a b : Int) (hb : ¬ b = 0) (w : World) : Does2 252 a b (flooredF a b).1 w := by
  unfold Does2
  have hT := fun w => floored_any a b hb w
  generalize flooredF a b = r at hT ⊢
  go_enter Tryz.func252, Tryz.ntmps252
  go_wp2_with fail
  refine (hT _).mono ?_
  rintro _ w1 ⟨rfl, t1⟩
  go_wp2
  go_ret
  exact ⟨rfl, t1⟩
theorem D5 (a b : Int) (hb : ¬ b = 0) (w : World) : Does2 254 a b (flooredF a b).2 w := by
  unfold Does2
  have hT := fun w => floored_any a b hb w
  generalize flooredF a b = r at hT ⊢
  go_enter Tryz.func254, Tryz.ntmps254
  go_wp2_with fail
  refine (hT _).mono ?_
  rintro _ w1 ⟨rfl, t1⟩
  go_wp2
  go_ret
  exact ⟨rfl, t1⟩
theorem D6 (a b : Int) (w : World) : Does2 255 a b (bits .and .i64 a b) w := by
  unfold Does2
  go_enter Tryz.func255, Tryz.ntmps255
  go_wp2
  go_ret
  exact ⟨rfl, Touch.refl _ _⟩
theorem D7 (a b : Int) (w : World) : Does2 256 a b (bits .or .i64 a b) w := by
  unfold Does2
  go_enter Tryz.func256, Tryz.ntmps256
  go_wp2
  go_ret
  exact ⟨rfl, Touch.refl _ _⟩
theorem D8 (a b : Int) (w : World) : Does2 257 a b (bits .xor .i64 a b) w := by
  unfold Does2
  go_enter Tryz.func257, Tryz.ntmps257
  go_wp2
  go_ret
  exact ⟨rfl, Touch.refl _ _⟩
theorem D9 (a b : Int) (w : World) : Does2 258 a b (wrap64 (a * 2 ^ min (IntKind.u64.wrap b).toNat 64)) w := by
  unfold Does2
  go_enter Tryz.func258, Tryz.ntmps258
  go_wp2
  go_ret
  exact ⟨rfl, Touch.refl _ _⟩
theorem D10 (a b : Int) (w : World) : Does2 259 a b (wrap64 (IntKind.u64.wrap a / 2 ^ min (IntKind.u64.wrap b).toNat 64)) w := by
  unfold Does2
  go_enter Tryz.func259, Tryz.ntmps259
  go_wp2
  go_ret
  exact ⟨rfl, Touch.refl _ _⟩
theorem D11 (a b : Int) (w : World) : Does2 260 a b (truthF (decide (a = b))) w := by
  unfold Does2
  have hT := fun b w => Truth_any b w
  go_enter Tryz.func260, Tryz.ntmps260
  go_wp2_with fail
  refine (hT _ _).mono ?_
  rintro _ _ ⟨rfl, rfl⟩
  go_wp2
  go_ret
  exact ⟨rfl, Touch.refl _ _⟩
theorem D12 (a b : Int) (w : World) : Does2 261 a b (truthF (!decide (a = b))) w := by
  unfold Does2
  have hT := fun b w => Truth_any b w
  go_enter Tryz.func261, Tryz.ntmps261
  go_wp2_with fail
  refine (hT _ _).mono ?_
  rintro _ _ ⟨rfl, rfl⟩
  go_wp2
  go_ret
  exact ⟨rfl, Touch.refl _ _⟩
theorem D13 (a b : Int) (w : World) : Does2 262 a b (truthF (decide (a < b))) w := by
  unfold Does2
  have hT := fun b w => Truth_any b w
  go_enter Tryz.func262, Tryz.ntmps262
  go_wp2_with fail
  refine (hT _ _).mono ?_
  rintro _ _ ⟨rfl, rfl⟩
  go_wp2
  go_ret
  exact ⟨rfl, Touch.refl _ _⟩
theorem D14 (a b : Int) (w : World) : Does2 263 a b (truthF (decide (b < a))) w := by
  unfold Does2
  have hT := fun b w => Truth_any b w
  go_enter Tryz.func263, Tryz.ntmps263
  go_wp2_with fail
  refine (hT _ _).mono ?_
  rintro _ _ ⟨rfl, rfl⟩
  go_wp2
  go_ret
  exact ⟨rfl, Touch.refl _ _⟩
theorem D15 (a b : Int) (w : World) : Does2 264 a b (truthF (decide (IntKind.u64.wrap a < IntKind.u64.wrap b))) w := by
  unfold Does2
  have hT := fun b w => Truth_any b w
  go_enter Tryz.func264, Tryz.ntmps264
  go_wp2_with fail
  refine (hT _ _).mono ?_
  rintro _ _ ⟨rfl, rfl⟩
  go_wp2
  go_ret
  exact ⟨rfl, Touch.refl _ _⟩
theorem D16 (a b : Int) (w : World) : Does2 265 a b (if a < b then a else b) w := by
  unfold Does2
  go_enter Tryz.func265, Tryz.ntmps265
  go_wp2
  all_goals go_ret
  all_goals refine ⟨ret1 (vint ?_), Touch.refl _ _⟩
  all_goals first | rfl | omega | (split <;> omega)
theorem D17 (a b : Int) (w : World) : Does2 266 a b (if b < a then a else b) w := by
  unfold Does2
  go_enter Tryz.func266, Tryz.ntmps266
  go_wp2
  all_goals go_ret
  all_goals refine ⟨ret1 (vint ?_), Touch.refl _ _⟩
  all_goals first | rfl | omega | (split <;> omega)

/-- what is done to two cells, by its number -/
def twoF (op a b : Int) : Int :=
  if op = 11 then wrap64 (a + b)
  else if op = 12 then wrap64 (a - b)
  else if op = 13 then wrap64 (a * b)
  else if op = 14 then (flooredF a b).1
  else if op = 15 then (flooredF a b).2
  else if op = 16 then bits .and .i64 a b
  else if op = 17 then bits .or .i64 a b
  else if op = 18 then bits .xor .i64 a b
  else if op = 19 then wrap64 (a * 2 ^ min (IntKind.u64.wrap b).toNat 64)
  else if op = 20 then wrap64 (IntKind.u64.wrap a / 2 ^ min (IntKind.u64.wrap b).toNat 64)
  else if op = 21 then truthF (decide (a = b))
  else if op = 22 then truthF (!decide (a = b))
  else if op = 23 then truthF (decide (a < b))
  else if op = 24 then truthF (decide (b < a))
  else if op = 25 then truthF (decide (IntKind.u64.wrap a < IntKind.u64.wrap b))
  else if op = 26 then (if a < b then a else b)
  else (if b < a then a else b)
theorem ite_cell {p : Prop} [Decidable p] {x y : Int} (hx : Cell64 x) (hy : Cell64 y) : Cell64 (if p then x else y) := by
  split
  · exact hx
  · exact hy
theorem twoF_cell (op a b : Int) (h : Cell64 a) (k : Cell64 b) : Cell64 (twoF op a b) := by
  have f := flooredF_cell a b h
  have f1 := f.1
  have f2 := f.2
  have t := truthF_cell
  have wr := wrap64_cell
  have bi := bitwise_cell
  clear f
  unfold twoF
  generalize flooredF a b = fl at *
  repeat' first | assumption | apply wr | apply t | apply bi | apply ite_cell

def fv (f : FuncId) : Value := .func (.func f) #[] #[]
def fnOf (op : Nat) : FuncId := [249, 250, 251, 252, 254, 255, 256, 257, 258, 259, 260, 261, 262, 263, 264, 265, 266].getD (op - 11) 0
def doesL : List (Int × Value) := [(11, fv 249), (12, fv 250), (13, fv 251), (14, fv 252), (15, fv 254), (16, fv 255), (17, fv 256), (18, fv 257), (19, fv 258), (20, fv 259), (21, fv 260), (22, fv 261), (23, fv 262), (24, fv 263), (25, fv 264), (26, fv 265), (27, fv 266)]

theorem fn_does (op : Nat) (h : 11 ≤ op ∧ op ≤ 27) (a b : Int) (hb : ¬ (b = 0 ∧ (op = 14 ∨ op = 15))) (w : World) : Does2 (fnOf op) a b (twoF op a b) w := by
  rcases (by omega : op = 11 ∨ op = 12 ∨ op = 13 ∨ op = 14 ∨ op = 15 ∨ op = 16 ∨ op = 17 ∨ op = 18 ∨ op = 19 ∨ op = 20 ∨ op = 21 ∨ op = 22 ∨ op = 23 ∨ op = 24 ∨ op = 25 ∨ op = 26 ∨ op = 27) with rfl | rfl | rfl | rfl | rfl | rfl | rfl | rfl | rfl | rfl | rfl | rfl | rfl | rfl | rfl | rfl | rfl
  · exact D1 a b w
  · exact D2 a b w
  · exact D3 a b w
  · exact D4 a b (fun e => hb ⟨e, by simp⟩) w
  · exact D5 a b (fun e => hb ⟨e, by simp⟩) w
  · exact D6 a b w
  · exact D7 a b w
  · exact D8 a b w
  · exact D9 a b w
  · exact D10 a b w
  · exact D11 a b w
  · exact D12 a b w
  · exact D13 a b w
  · exact D14 a b w
  · exact D15 a b w
  · exact D16 a b w
  · exact D17 a b w

set_option maxRecDepth 100000 in
set_option maxHeartbeats 4000000 in
theorem does_any (w : World) : Calls Tryz.prog 151 #[] w fun e w' => ∃ b, e = .returned (.map (some b)) ∧ IMap w' b doesL ∧ Touch [] w w' := by
  have tall := (Touch.refl [] w).alloc (.map #[] 0)
  have i0 := IMap.new w
  have hmm := @run_makeMap Tryz.prog
  go_enter Tryz.func151, Tryz.ntmps151
  go_wp2_with (refine wpList_iins _ rfl _ _ _ 204 rfl _ _ Tryz.underlying204 Tryz.underlying3 w.heap.size _ rfl (by first | assumption | exact i0) _ rfl _ rfl ?_; intro wn hn tn; have tall := tall.trans tn (by simp))
  clear hmm
  go_ret
  refine ⟨w.heap.size, rfl, ?_, tall⟩
  exact hn

theorem does_at (op : Nat) (h : 11 ≤ op ∧ op ≤ 27) : atKey doesL op = some (fv (fnOf op)) := by
  rcases (by omega : op = 11 ∨ op = 12 ∨ op = 13 ∨ op = 14 ∨ op = 15 ∨ op = 16 ∨ op = 17 ∨ op = 18 ∨ op = 19 ∨ op = 20 ∨ op = 21 ∨ op = 22 ∨ op = 23 ∨ op = 24 ∨ op = 25 ∨ op = 26 ∨ op = 27) with rfl | rfl | rfl | rfl | rfl | rfl | rfl | rfl | rfl | rfl | rfl | rfl | rfl | rfl | rfl | rfl | rfl <;> rfl

end Go.Proofs.YtdokeddjcpnmiaaGreatDoor

/- The contract of cell.Two. -/
namespace Go.Proofs.YtdokeddjcpnmiaaGreatDoor
open Go.RowKit

theorem fn_enters (op : Nat) (h : 11 ≤ op ∧ op ≤ 27) : Enters Tryz.prog (fnOf op) := by
  rcases (by omega : op = 11 ∨ op = 12 ∨ op = 13 ∨ op = 14 ∨ op = 15 ∨ op = 16 ∨ op = 17 ∨ op = 18 ∨ op = 19 ∨ op = 20 ∨ op = 21 ∨ op = 22 ∨ op = 23 ∨ op = 24 ∨ op = 25 ∨ op = 26 ∨ op = 27) with rfl | rfl | rfl | rfl | rfl | rfl | rfl | rfl | rfl | rfl | rfl | rfl | rfl | rfl | rfl | rfl | rfl
  · exact enters_of Tryz.func249 (by kernel_rfl) rfl
  · exact enters_of Tryz.func250 (by kernel_rfl) rfl
  · exact enters_of Tryz.func251 (by kernel_rfl) rfl
  · exact enters_of Tryz.func252 (by kernel_rfl) rfl
  · exact enters_of Tryz.func254 (by kernel_rfl) rfl
  · exact enters_of Tryz.func255 (by kernel_rfl) rfl
  · exact enters_of Tryz.func256 (by kernel_rfl) rfl
  · exact enters_of Tryz.func257 (by kernel_rfl) rfl
  · exact enters_of Tryz.func258 (by kernel_rfl) rfl
  · exact enters_of Tryz.func259 (by kernel_rfl) rfl
  · exact enters_of Tryz.func260 (by kernel_rfl) rfl
  · exact enters_of Tryz.func261 (by kernel_rfl) rfl
  · exact enters_of Tryz.func262 (by kernel_rfl) rfl
  · exact enters_of Tryz.func263 (by kernel_rfl) rfl
  · exact enters_of Tryz.func264 (by kernel_rfl) rfl
  · exact enters_of Tryz.func265 (by kernel_rfl) rfl
  · exact enters_of Tryz.func266 (by kernel_rfl) rfl

set_option maxHeartbeats 1000000 in
theorem Two_ok (op : Nat) (h : 11 ≤ op ∧ op ≤ 27) (a b : Int) (hb : ¬ (b = 0 ∧ (op = 14 ∨ op = 15))) (w : World) :
    Calls Tryz.prog 128 #[.int .i64 op, .int .i64 a, .int .i64 b] w fun e w' => e = .returned (.tuple #[.int .i64 (twoF op a b), .int .i64 0]) ∧ Touch [] w w' := by
  have hf := fun w => fn_does op h a b hb w
  have hat := does_at op h
  have hent : ∀ (args : Array Value) (w : World), (callFunc (fnOf op) args).run Tryz.prog w = .ok (.enter (fnOf op) args) w := fn_enters op h
  unfold Does2 at hf
  unfold fv at hat
  generalize fnOf op = f at hf hat hent
  generalize twoF op a b = r at hf ⊢
  have hD := does_any w
  obtain ⟨z, hz⟩ : ∃ z : Int, (op : Int) = z := ⟨_, rfl⟩
  have hbz : ¬ (b = 0 ∧ (z = 14 ∨ z = 15)) := by omega
  rw [hz] at hat ⊢
  clear hz h hb
  by_cases hb0 : b = 0
  · have z14 : ¬ z = 14 := by omega
    have z15 : ¬ z = 15 := by omega
    clear hbz
    subst hb0
    go_enter Tryz.func128, Tryz.ntmps128
    go_wp2_with fail
    refine hD.mono ?_
    rintro _ w1 ⟨m, rfl, hm, t1⟩
    have hlk := (hm.lookup Tryz.underlying204 Tryz.underlying3 hat).2
    clear hm hat hD
    have z14' : (z == 14) = false := by simp [z14]
    have z15' : (z == 15) = false := by simp [z15]
    go_wp2_with fail
    refine (hf _).mono ?_
    rintro _ w2 ⟨rfl, t2⟩
    go_wp2
    go_ret2
    exact ⟨rfl, t1.trans t2 (by simp)⟩
  · clear hbz
    go_enter Tryz.func128, Tryz.ntmps128
    go_wp2_with fail
    refine hD.mono ?_
    rintro _ w1 ⟨m, rfl, hm, t1⟩
    have hlk := (hm.lookup Tryz.underlying204 Tryz.underlying3 hat).2
    clear hm hat hD
    go_wp2_with fail
    refine (hf _).mono ?_
    rintro _ w2 ⟨rfl, t2⟩
    go_wp2
    go_ret2
    exact ⟨rfl, t1.trans t2 (by simp)⟩

theorem Two_zero (op : Nat) (h : op = 14 ∨ op = 15) (a : Int) (w : World) :
    Calls Tryz.prog 128 #[.int .i64 op, .int .i64 a, .int .i64 0] w fun e w' => e = .returned (.tuple #[.int .i64 0, .int .i64 (-10)]) ∧ Touch [] w w' := by
  have hat := does_at op (by omega)
  unfold fv at hat
  generalize fnOf op = f at hat
  have hD := does_any w
  obtain ⟨z, hz⟩ : ∃ z : Int, (op : Int) = z := ⟨_, rfl⟩
  have hz2 : z = 14 ∨ z = 15 := by omega
  rw [hz] at hat ⊢
  clear hz h
  rcases hz2 with rfl | rfl
  all_goals go_enter Tryz.func128, Tryz.ntmps128
  all_goals go_wp2_with fail
  all_goals refine hD.mono ?_
  all_goals rintro _ w1 ⟨m, rfl, hm, t1⟩
  all_goals have hlk := (hm.lookup Tryz.underlying204 Tryz.underlying3 hat).2
  all_goals clear hm hat hD
  all_goals go_wp2_with fail
  all_goals go_ret2
  all_goals exact ⟨rfl, t1⟩
end Go.Proofs.YtdokeddjcpnmiaaGreatDoor

/- Rows of one cell, of two. -/
namespace Go.Proofs.YtdokeddjcpnmiaaGreatDoor
open Go.RowKit

/-- behind something that was done -/
def Done (W : World) (s : Nat) (F : List Nat) (S S' : PS) (w' : World) : Prop := ∃ F', StateAt w' s F' S' ∧ PS.same S S' ∧ Touch F W w' ∧ Sub W F F'
theorem Done.alloc {W w : World} {s : Nat} {F : List Nat} {S S' : PS} (h : Done W s F S S' w) (o : Obj) : Done W s F S S' (w.alloc o) := by
  obtain ⟨F', h1, h2, h3, h4⟩ := h
  exact ⟨F', h1.quiet ((Touch.refl [] w).alloc o), h2, h3.alloc o, h4⟩
theorem Done.on {W w w' : World} {s : Nat} {F : List Nat} {S S' : PS} (h : Done W s F S S' w) (t : Touch [] w w') : Done W s F S S' w' := by
  obtain ⟨F', h1, h2, h3, h4⟩ := h
  exact ⟨F', h1.quiet t, h2, h3.trans t (by simp), h4⟩
theorem Done.self {W w' : World} {s : Nat} {F : List Nat} {S : PS} (h : StateAt W s F S) (t : Touch [] W w') : Done W s F S S w' := ⟨F, h.quiet t, ⟨rfl, rfl, rfl, rfl, rfl, rfl⟩, t.mono (by simp), Sub.refl _ _⟩
theorem Done.out {W w' : World} {s : Nat} {F : List Nat} {S S' : PS} (h : Done W s F S S' w') : ∃ F', StateAt w' s F' S' ∧ PS.same S S' ∧ Touch F W w' ∧ Sub W F F' := h
def ActDone (W : World) (s : Nat) (F : List Nat) (S : PS) (r : (List Int × Int) × PS) : Ending → World → Prop := fun e w' => ∃ ov, e = .returned (.tuple #[ov, .int .i64 r.1.2]) ∧ CellsAt w' ov r.1.1 ∧ Done W s F S r.2 w'
theorem ActDone.post {P : Program} {f : FuncId} {args : Array Value} {W : World} {s : Nat} {F : List Nat} {S : PS} {r : (List Int × Int) × PS} (h : Calls P f args W (ActDone W s F S r)) :
    Calls P f args W fun e w' => ∃ ov F', e = .returned (.tuple #[ov, .int .i64 r.1.2]) ∧ CellsAt w' ov r.1.1 ∧ StateAt w' s F' r.2 ∧ PS.same S r.2 ∧ Touch F W w' ∧ Sub W F F' :=
  h.mono fun _ _ ⟨ov, h1, h2, F', h3⟩ => ⟨ov, F', h1, h2, h3⟩

section
variable {W : World} {s : Nat} {F : List Nat} {S S' : PS} {g : Nat} {fn : FuncId} {first cap : Array Value} {lv : Value} {x y z : Int}
theorem tells_clo (hb : Blk W g 132 #[.func (.func fn) first cap]) (hE : Enters Tryz.prog fn)
    (h : Calls Tryz.prog fn (first ++ #[lv] ++ cap) W fun e w' => e = .returned (.int .i64 x) ∧ Done W s F S S' w') : Calls Tryz.prog 281 (#[] ++ #[lv] ++ #[.pointer (some ⟨g, 0, none⟩)]) W (ActDone W s F S (([], x), S')) := by
  have c0 := hb.cell 0
  have hent : ∀ (args : Array Value) (w : World), (callFunc fn args).run Tryz.prog w = .ok (.enter fn args) w := hE
  clear hb hE
  show Calls Tryz.prog 281 #[lv, .pointer (some ⟨g, 0, none⟩)] W _
  go_enter Tryz.func281, Tryz.ntmps281
  go_wp2_with fail
  refine h.mono ?_
  rintro _ w1 ⟨rfl, hd⟩
  have HD := Lib.hid hd
  clear h hd
  go_wp2_with fail
  go_ret2
  exact ⟨_, rfl, .inl ⟨rfl, rfl⟩, HD.out⟩
theorem gives_clo (hb : Blk W g 223 #[.func (.func fn) first cap]) (hE : Enters Tryz.prog fn)
    (h : Calls Tryz.prog fn (first ++ #[lv] ++ cap) W fun e w' => e = .returned (.int .i64 x) ∧ Done W s F S S' w') : Calls Tryz.prog 274 (#[] ++ #[lv] ++ #[.pointer (some ⟨g, 0, none⟩)]) W (ActDone W s F S (([x], 0), S')) := by
  have c0 := hb.cell 0
  have hent : ∀ (args : Array Value) (w : World), (callFunc fn args).run Tryz.prog w = .ok (.enter fn args) w := hE
  clear hb hE
  show Calls Tryz.prog 274 #[lv, .pointer (some ⟨g, 0, none⟩)] W _
  go_enter Tryz.func274, Tryz.ntmps274
  go_wp2_with fail
  refine h.mono ?_
  rintro _ w1 ⟨rfl, hd⟩
  have HD := Lib.hid hd
  clear h hd
  go_wp2_with fail
  go_ret2
  exact ⟨_, rfl, .inr ⟨_, _, rfl, fun j u hj => by rw [add_off, Nat.zero_add]; exact ((Blk.new w1 _ _).cell j).trans (by simpa [cells] using hj)⟩, HD.out.alloc _⟩
theorem may_clo (hb : Blk W g 182 #[.func (.func fn) first cap]) (hE : Enters Tryz.prog fn)
    (h : Calls Tryz.prog fn (first ++ #[lv] ++ cap) W fun e w' => e = .returned (.tuple #[.int .i64 x, .int .i64 y]) ∧ Done W s F S S' w') : Calls Tryz.prog 149 (#[] ++ #[lv] ++ #[.pointer (some ⟨g, 0, none⟩)]) W (ActDone W s F S (([x], y), S')) := by
  have c0 := hb.cell 0
  have hent : ∀ (args : Array Value) (w : World), (callFunc fn args).run Tryz.prog w = .ok (.enter fn args) w := hE
  clear hb hE
  show Calls Tryz.prog 149 #[lv, .pointer (some ⟨g, 0, none⟩)] W _
  go_enter Tryz.func149, Tryz.ntmps149
  go_wp2_with fail
  refine h.mono ?_
  rintro _ w1 ⟨rfl, hd⟩
  have HD := Lib.hid hd
  clear h hd
  go_wp2_with fail
  go_ret2
  exact ⟨_, rfl, .inr ⟨_, _, rfl, fun j u hj => by rw [add_off, Nat.zero_add]; exact ((Blk.new w1 _ _).cell j).trans (by simpa [cells] using hj)⟩, HD.out.alloc _⟩
theorem divides_clo (hb : Blk W g 215 #[.func (.func fn) first cap]) (hE : Enters Tryz.prog fn)
    (h : Calls Tryz.prog fn (first ++ #[lv] ++ cap) W fun e w' => e = .returned (.tuple #[.int .i64 x, .int .i64 z, .int .i64 y]) ∧ Done W s F S S' w') : Calls Tryz.prog 278 (#[] ++ #[lv] ++ #[.pointer (some ⟨g, 0, none⟩)]) W (ActDone W s F S (([x, z], y), S')) := by
  have c0 := hb.cell 0
  have hent : ∀ (args : Array Value) (w : World), (callFunc fn args).run Tryz.prog w = .ok (.enter fn args) w := hE
  clear hb hE
  show Calls Tryz.prog 278 #[lv, .pointer (some ⟨g, 0, none⟩)] W _
  go_enter Tryz.func278, Tryz.ntmps278
  go_wp2_with fail
  refine h.mono ?_
  rintro _ w1 ⟨rfl, hd⟩
  have HD := Lib.hid hd
  clear h hd
  go_wp2_with fail
  go_ret2
  exact ⟨_, rfl, .inr ⟨_, _, rfl, fun j u hj => by rw [add_off, Nat.zero_add]; exact ((Blk.new w1 _ _).cell j).trans (by simpa [cells] using hj)⟩, HD.out.alloc _⟩
end

theorem found_says {B s m : Nat} {op : Int} {v : Value} {W : World} (h : FoundAt B s m op v W) (h1 : pairsOp op = 0) (h2 : memoryOp op = 0) : ∃ b C, B ≤ C ∧ B ≤ b ∧ saysPV C b s (saysOp op) v W ∧ Blk W b 37 #[.pointer (some ⟨s, 0, none⟩)] := by
  rcases h with ⟨b, C, _, _, ⟨h3, _⟩, _⟩ | ⟨b, C, _, _, ⟨h3, _⟩, _⟩ | ⟨b, C, k1, k2, h3, h4⟩
  · exact absurd h1 h3
  · exact absurd h2 h3
  · exact ⟨b, C, k1, k2, h3.2, h4⟩
theorem found_memory {B s m : Nat} {op : Int} {v : Value} {W : World} (h : FoundAt B s m op v W) (h1 : pairsOp op = 0) (h2 : saysOp op = 0) : ∃ b C, B ≤ C ∧ B ≤ b ∧ memoryPV C b s (memoryOp op) v W ∧ Blk W b 89 #[.pointer (some ⟨m, 0, none⟩)] := by
  rcases h with ⟨b, C, _, _, ⟨h3, _⟩, _⟩ | ⟨b, C, k1, k2, h3, h4⟩ | ⟨b, C, _, _, ⟨h3, _⟩, _⟩
  · exact absurd h1 h3
  · exact ⟨b, C, k1, k2, h3.2, h4⟩
  · exact absurd h2 h3
theorem act_open {B g0 : Nat} {t : Int} {clo f : FuncId} {ty : TypeId} {t' : Int} {first cap : Array Value} {fv : Value} {W : World} (h : ActAt B t clo ty fv (.agg #[.int .i64 t', .func (.func f) first cap]) W) (hg0 : g0 ≤ B) :
    ∃ g, g0 ≤ g ∧ Blk W g ty #[fv] ∧ t' = t ∧ f = clo ∧ first = #[] ∧ cap = #[.pointer (some ⟨g, 0, none⟩)] := by
  obtain ⟨g, e, h1, h2⟩ := h
  injection e with e
  injection e with e
  injection e with e1 e
  injection e with e2 e
  injection e1 with _ e1
  injection e2 with e2 e3 e4
  injection e2 with e2
  exact ⟨g, by omega, h2, e1, e2, e3, e4⟩

/-- the cells that were taken, as the walk wants them -/
theorem CellsG.one {w : World} {lv : Value} {l : List Int} (h : CellsG w lv l) (hl : l.length = 1) : ∃ g c x, l = [x] ∧ lv = .slice (some ⟨g, 0, none⟩) 1 c ∧ w.cell? ⟨g, 0, none⟩ = some (.int .i64 x) := by
  obtain ⟨x, rfl⟩ := List.length_eq_one_iff.1 hl
  obtain ⟨g, c, e, h⟩ := h.get (by simp)
  exact ⟨g, c, x, rfl, e, h 0 (by simp)⟩
theorem CellsG.two {w : World} {lv : Value} {l : List Int} (h : CellsG w lv l) (hl : l.length = 2) : ∃ g c x y, l = [x, y] ∧ lv = .slice (some ⟨g, 0, none⟩) 2 c ∧ w.cell? ⟨g, 0, none⟩ = some (.int .i64 x) ∧ w.cell? ⟨g, 1, none⟩ = some (.int .i64 y) := by
  obtain ⟨x, y, rfl⟩ : ∃ x y, l = [x, y] := by
    match l, hl with
    | [x, y], _ => exact ⟨x, y, rfl⟩
  obtain ⟨g, c, e, h⟩ := h.get (by simp)
  exact ⟨g, c, x, y, rfl, e, h 0 (by simp), h 1 (by simp)⟩
end Go.Proofs.YtdokeddjcpnmiaaGreatDoor

/- Operations of cells, by their numbers: what each makes of a state. -/
namespace Go.Proofs.YtdokeddjcpnmiaaGreatDoor
open Go.RowKit

theorem cell1_sem (op : Int) (h : manyF op = 1) : OpSemC op 1 (fun _ _ => True) (fun l S => (([(oneF op (l.getD 0 0)).1], (oneF op (l.getD 0 0)).2), S)) := by
  intro W B s F S t f first cap l lv hok hS hF hfd
  obtain ⟨b, C, hC, hb, hA, hB⟩ := hfd
  have harm : armOf op = (1, 125) := by unfold armOf; rw [if_pos h]
  rw [harm] at hA
  obtain ⟨g, _, hg, rfl, rfl, rfl, rfl⟩ := act_open hA (Nat.zero_le _)
  refine ⟨rfl, enters_of Tryz.func149 (by kernel_rfl) rfl, fun hl hpre hc => ActDone.post (may_clo hg (enters_of Tryz.func125 (by kernel_rfl) rfl) ?_)⟩
  obtain ⟨ad, c, q, e, rfl, cq⟩ := hc.one hl
  subst e
  show Calls Tryz.prog _ _ W fun e w' => e = .returned (.tuple #[.int .i64 (oneF op q).1, .int .i64 (oneF op q).2]) ∧ Done W s F S S w'
  have hO := fun w => One_any op q w
  obtain ⟨r, hr⟩ : ∃ r, oneF op q = r := ⟨_, rfl⟩
  rw [hr] at hO ⊢
  unfold OneSays at hO
  have b0 := (hB.touch ((Touch.refl [] W).drew) (by simp)).cell 0
  have x0 := cell_quiet ((Touch.refl [] W).drew) cq
  have HD := Lib.hid (Done.self hS ((Touch.refl [] W).drew))
  clear hS hB hA hg hF hc cq hr harm h
  show Calls Tryz.prog 125 #[.slice (some ⟨ad, 0, none⟩) 1 c, .pointer (some ⟨b, 0, none⟩)] W _
  go_enter Tryz.func125, Tryz.ntmps125
  go_upto_region 1 with fail
  go_region_with (go_at_call 126; refine (hO _).mono ?_; rintro _ _ ⟨rfl, rfl⟩)
  all_goals go_wp2_with fail
  all_goals go_ret2
  all_goals exact ⟨rfl, HD.out⟩
/-- what is done to two cells: a cell, or an error -/
def twoR (op a b : Int) : Int × Int := if b = 0 ∧ (op = 14 ∨ op = 15) then (0, -10) else (twoF op a b, 0)
theorem TwoR_any (op : Int) (h : 11 ≤ op ∧ op ≤ 27) (a b : Int) (w : World) : Calls Tryz.prog 128 #[.int .i64 op, .int .i64 a, .int .i64 b] w fun e w' => e = .returned (.tuple #[.int .i64 (twoR op a b).1, .int .i64 (twoR op a b).2]) ∧ Touch [] w w' := by
  obtain ⟨k, rfl⟩ : ∃ k : Nat, op = k := ⟨op.toNat, by omega⟩
  unfold twoR
  by_cases hb : b = 0 ∧ ((k : Int) = 14 ∨ (k : Int) = 15)
  · rw [if_pos hb]
    obtain ⟨rfl, hk⟩ := hb
    exact Two_zero k (by omega) a w
  · rw [if_neg hb]
    exact Two_ok k (by omega) a b (by omega) w
set_option maxHeartbeats 1000000 in
theorem cell2_sem (op : Int) (h : manyF op = 2) : OpSemC op 2 (fun _ _ => True) (fun l S => (([(twoR op (l.getD 0 0) (l.getD 1 0)).1], (twoR op (l.getD 0 0) (l.getD 1 0)).2), S)) := by
  intro W B s F S t f first cap l lv hok hS hF hfd
  obtain ⟨b, C, hC, hb, hA, hB⟩ := hfd
  have harm : armOf op = (2, 127) := by unfold armOf; rw [if_neg (by omega), if_pos h]
  rw [harm] at hA
  obtain ⟨g, _, hg, rfl, rfl, rfl, rfl⟩ := act_open hA (Nat.zero_le _)
  refine ⟨rfl, enters_of Tryz.func149 (by kernel_rfl) rfl, fun hl hpre hc => ActDone.post (may_clo hg (enters_of Tryz.func127 (by kernel_rfl) rfl) ?_)⟩
  obtain ⟨ad, c, q, q1, e, rfl, cq, cq1⟩ := hc.two hl
  subst e
  show Calls Tryz.prog _ _ W fun e w' => e = .returned (.tuple #[.int .i64 (twoR op q q1).1, .int .i64 (twoR op q q1).2]) ∧ Done W s F S S w'
  have h27 : 11 ≤ op ∧ op ≤ 27 := by unfold manyF at h; split at h <;> first | omega | (split at h <;> omega)
  have hO := fun w => TwoR_any op h27 q q1 w
  obtain ⟨r, hr⟩ : ∃ r, twoR op q q1 = r := ⟨_, rfl⟩
  rw [hr] at hO ⊢
  have b0 := (hB.touch ((Touch.refl [] W).drew) (by simp)).cell 0
  have x0 := cell_quiet ((Touch.refl [] W).drew) cq
  have x1 := cell_quiet ((Touch.refl [] W).drew) cq1
  have HH := Lib.hid hS
  clear hS hB hA hg hF hc cq cq1 hr harm h h27
  show Calls Tryz.prog 127 #[.slice (some ⟨ad, 0, none⟩) 2 c, .pointer (some ⟨b, 0, none⟩)] W _
  go_enter Tryz.func127, Tryz.ntmps127
  go_upto_region 1 with fail
  go_region_with (go_at_call 128; refine (hO _).mono ?_; rintro _ w1 ⟨rfl, t1⟩; have HD : Hid (Done W s F S S w1) := Done.self HH.out t1.of_drew; clear t1)
  all_goals go_wp2_with fail
  all_goals go_ret2
  all_goals exact ⟨rfl, HD.out⟩
end Go.Proofs.YtdokeddjcpnmiaaGreatDoor
