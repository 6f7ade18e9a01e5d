import Derived.Test.YtkbchpaofmlhgaaGreatDoorJFair
import Derived.Test.YtkbchpaofmlhgaaGreatDoorJPairSems
import Derived.Test.YtkbchpaofmlhgaaGreatDoorJRealOps
import Derived.Test.YtkbchpaofmlhgaaGreatDoorJTotOps
import Derived.Test.YtkbchpaofmlhgaaGreatDoorJTotOps2
import Derived.Test.YtkbchpaofmlhgaaGreatDoorJSaysA
/- Each of prim's operations is fair: cells', pairs', real numbers', the memory's. Printed by opall.py. -/
namespace Go.Proofs.YtkbchpaofmlhgaaGreatDoor
open Go.RowKit

theorem udivT_no (p : Int × Int) (b : Int) : (udivT p b).2 ≠ 1 := by
  rcases udivT_err p b with h | h | h <;> rw [h] <;> decide
theorem ite_no {c : Prop} [Decidable c] (a : Int × Int) : (if c then (a, (0 : Int)) else ((0, 0), -11)).2 ≠ 1 := by
  split
  · exact (by decide : (0 : Int) ≠ 1)
  · exact (by decide : (-11 : Int) ≠ 1)
theorem truncT_no (p : Int × Int) (b : Int) : (truncT p b).2 ≠ 1 := by
  unfold truncT
  split
  · exact udivT_no _ _
  · exact ite_no _
theorem floorT_no (p : Int × Int) (b : Int) : (floorT p b).2 ≠ 1 := by
  unfold floorT
  split
  · exact udivT_no _ _
  · exact ite_no _
theorem twoR_no (op a b : Int) : (twoR op a b).2 ≠ 1 := by
  unfold twoR
  split
  · exact (by decide : (-10 : Int) ≠ 1)
  · exact (by decide : (0 : Int) ≠ 1)
theorem toR_no (a : Int) : (Rl.toR a).2 ≠ 1 := by
  unfold Rl.toR
  split
  · exact (by decide : (0 : Int) ≠ 1)
  · exact (by decide : (-43 : Int) ≠ 1)
theorem getE_no (n : Nat) (p : Int) : getE n p ≠ 1 := by
  unfold getE
  split
  · decide
  · split <;> decide
theorem pieE_no (n : Nat) (p k : Int) : pieE n p k ≠ 1 := by
  unfold pieE
  split <;> decide
theorem movE_no (n : Nat) (p q k : Int) : movE n p q k ≠ 1 := by
  unfold movE
  split <;> decide
theorem allE_no (n here : Nat) (k : Int) : allE n here k ≠ 1 := by
  unfold allE
  split <;> decide
theorem comE_no (n here : Nat) : comE n here ≠ 1 := by
  unfold comE
  split
  · exact allE_no _ _ _
  · decide
theorem g2E_no (n : Nat) (p : Int) : g2E n p ≠ 1 := by
  unfold g2E
  split <;> exact getE_no _ _
theorem p2E_no (n : Nat) (p : Int) : p2E n p ≠ 1 := by
  unfold p2E
  split
  · split <;> exact getE_no _ _
  · exact getE_no _ _
theorem filT_bad {bs : List Int} {n : Nat} {p k c : Int} (h : pieE n p k ≠ 0) : filT bs n p k c = bs := by
  unfold filT
  unfold pieE at h
  split
  · rename_i hk
    rw [if_pos hk] at h
    exact absurd rfl h
  · rfl
theorem movT_bad {bs : List Int} {n : Nat} {p q k : Int} (h : movE n p q k ≠ 0) : movT bs n p q k = bs := by
  unfold movT
  unfold movE at h
  split
  · rename_i hk
    rw [if_pos hk] at h
    exact absurd rfl h
  · rfl
theorem allH_bad {n here : Nat} {k : Int} (h : allE n here k ≠ 0) : allH n here k = here := by
  unfold allH
  unfold allE at h
  split
  · rename_i hk
    rw [if_pos hk] at h
    exact absurd rfl h
  · rfl
theorem p2B_bad {bs : List Int} {n : Nat} {p x y : Int} (h : p2E n p ≠ 0) : p2B bs n p x y = bs := by
  unfold p2B
  unfold p2E at h
  by_cases h1 : getE n p = 0
  · rw [if_pos h1] at h ⊢
    by_cases h2 : getE n (IntKind.i64.wrap (p + 8)) = 0
    · rw [if_pos h2] at h
      exact absurd h1 h
    · rw [if_neg h2]
  · rw [if_neg h1]
theorem com_bad {bs : List Int} {n here : Nat} {x : Int} (h : comE n here ≠ 0) : comB bs n here x = bs ∧ comH n here = here := by
  unfold comB comH
  unfold comE at h
  by_cases h8 : here % 8 = 0
  · rw [if_pos h8] at h ⊢
    have hk : ¬ okA n here 8 := fun hk => h (by unfold allE; rw [if_pos hk])
    exact ⟨if_neg (fun z => hk z.2), allH_bad h⟩
  · rw [if_neg h8]
    exact ⟨if_neg (fun z => h8 z.1), rfl⟩
theorem cco_bad {bs : List Int} {n here : Nat} {x : Int} (h : ccoE n here ≠ 0) : ccoB bs n here x = bs ∧ allH n here 1 = here := by
  unfold ccoB
  unfold ccoE at h
  have hk : ¬ okA n here 1 := fun hk => h (by unfold allE; rw [if_pos hk])
  exact ⟨if_neg hk, allH_bad h⟩
theorem cell1_any (w0 : World) (op : Int) (h : manyF op = 1) : OpAny w0 op := by
  have ho : 1 ≤ op ∧ op ≤ 10 := by unfold manyF at h; split at h <;> first | assumption | (split at h <;> omega)
  have hc := cell1_sem op h
  have he : ∀ a, (oneF op a).2 = 0 := by
    intro a
    rcases (by omega : op = 1 ∨ op = 2 ∨ op = 3 ∨ op = 4 ∨ op = 5 ∨ op = 6 ∨ op = 7 ∨ op = 8 ∨ op = 9 ∨ op = 10) with rfl | rfl | rfl | rfl | rfl | rfl | rfl | rfl | rfl | rfl <;> rfl
  have F := fair_pure 1 (fun l => [(oneF op (l.getD 0 0)).1]) (fun l => (oneF op (l.getD 0 0)).2) (fun l => by rw [he]; decide) (fun _ => by simp)
  exact hc.any1 ho.1 (by omega) (by decide) F.1 (fun _ => F.2) (fun _ _ _ _ _ => trivial)
theorem cell2_any (w0 : World) (op : Int) (h : manyF op = 2) : OpAny w0 op := by
  have ho : 11 ≤ op ∧ op ≤ 27 := by unfold manyF at h; split at h <;> first | omega | (split at h <;> omega)
  have F := fair_pure 2 (fun l => [(twoR op (l.getD 0 0) (l.getD 1 0)).1]) (fun l => (twoR op (l.getD 0 0) (l.getD 1 0)).2) (fun l => twoR_no _ _ _) (fun _ => by simp)
  exact (cell2_sem op h).any1 (by omega) ho.2 (by decide) F.1 (fun _ => F.2) (fun _ _ _ _ _ => trivial)
theorem real_any (w0 : World) (op : Int) (h : 61 ≤ op ∧ op ≤ 70) : OpAny w0 op := by
  by_cases h1 : op ≤ 62
  · have F := fair_pure 1 (fun l => [oneRl (op - 60) (l.getD 0 0)]) (fun _ => 0) (fun _ => by decide) (fun _ => by simp)
    exact (real1_sem op (by omega)).anyR h.1 h.2 (by decide) F.1 (fun _ => F.2) (fun _ _ _ _ _ => trivial)
  · have F := fair_pure 2 (fun l => [twoRl (op - 60) (l.getD 0 0) (l.getD 1 0)]) (fun _ => 0) (fun _ => by decide) (fun _ => by simp)
    exact (real2_sem op (by omega)).anyR h.1 h.2 (by decide) F.1 (fun _ => F.2) (fun _ _ _ _ _ => trivial)
theorem any43 (w0 : World) : OpAny w0 43 := pair43.any (by decide) (by decide) (by decide) (by decide) (fair_pure 1 (fun l => [(pf43 l).1, (pf43 l).2]) (fun _ => 0) (fun _ => by decide) (fun _ => Nat.le_refl _)).1 (fun _ => (fair_pure 1 (fun l => [(pf43 l).1, (pf43 l).2]) (fun _ => 0) (fun _ => by decide) (fun _ => Nat.le_refl _)).2) (fun l _ _ _ h => h)
theorem any44 (w0 : World) : OpAny w0 44 := pair44.any (by decide) (by decide) (by decide) (by decide) (fair_pure 4 (fun l => [(pf44 l).1, (pf44 l).2]) (fun _ => 0) (fun _ => by decide) (fun _ => Nat.le_refl _)).1 (fun _ => (fair_pure 4 (fun l => [(pf44 l).1, (pf44 l).2]) (fun _ => 0) (fun _ => by decide) (fun _ => Nat.le_refl _)).2) (fun l _ _ _ h => h)
theorem any45 (w0 : World) : OpAny w0 45 := pair45.any (by decide) (by decide) (by decide) (by decide) (fair_pure 4 (fun l => [(pf45 l).1, (pf45 l).2]) (fun _ => 0) (fun _ => by decide) (fun _ => Nat.le_refl _)).1 (fun _ => (fair_pure 4 (fun l => [(pf45 l).1, (pf45 l).2]) (fun _ => 0) (fun _ => by decide) (fun _ => Nat.le_refl _)).2) (fun l _ _ _ h => h)
theorem any46 (w0 : World) : OpAny w0 46 := pair46.any (by decide) (by decide) (by decide) (by decide) (fair_pure 2 (fun l => [(pf46 l).1, (pf46 l).2]) (fun _ => 0) (fun _ => by decide) (fun _ => Nat.le_refl _)).1 (fun _ => (fair_pure 2 (fun l => [(pf46 l).1, (pf46 l).2]) (fun _ => 0) (fun _ => by decide) (fun _ => Nat.le_refl _)).2) (fun l _ _ _ h => h)
theorem any47 (w0 : World) : OpAny w0 47 := pair47.any (by decide) (by decide) (by decide) (by decide) (fair_pure 2 (fun l => [(pf47 l).1, (pf47 l).2]) (fun _ => 0) (fun _ => by decide) (fun _ => Nat.le_refl _)).1 (fun _ => (fair_pure 2 (fun l => [(pf47 l).1, (pf47 l).2]) (fun _ => 0) (fun _ => by decide) (fun _ => Nat.le_refl _)).2) (fun l _ _ _ h => h)
theorem any48 (w0 : World) : OpAny w0 48 := pair48.any (by decide) (by decide) (by decide) (by decide) (fair_pure 4 (fun l => [pf48 l]) (fun _ => 0) (fun _ => by decide) (fun _ => by simp)).1 (fun _ => (fair_pure 4 (fun l => [pf48 l]) (fun _ => 0) (fun _ => by decide) (fun _ => by simp)).2) (fun l _ _ _ h => h)
theorem any49 (w0 : World) : OpAny w0 49 := pair49.any (by decide) (by decide) (by decide) (by decide) (fair_pure 4 (fun l => [pf49 l]) (fun _ => 0) (fun _ => by decide) (fun _ => by simp)).1 (fun _ => (fair_pure 4 (fun l => [pf49 l]) (fun _ => 0) (fun _ => by decide) (fun _ => by simp)).2) (fun l _ _ _ h => h)
theorem any50 (w0 : World) : OpAny w0 50 := pair50.any (by decide) (by decide) (by decide) (by decide) (fair_pure 4 (fun l => [pf50 l]) (fun _ => 0) (fun _ => by decide) (fun _ => by simp)).1 (fun _ => (fair_pure 4 (fun l => [pf50 l]) (fun _ => 0) (fun _ => by decide) (fun _ => by simp)).2) (fun l _ _ _ h => h)
theorem any51 (w0 : World) : OpAny w0 51 := pair51.any (by decide) (by decide) (by decide) (by decide) (fair_pure 2 (fun l => [(pf51 l).1, (pf51 l).2]) (fun _ => 0) (fun _ => by decide) (fun _ => Nat.le_refl _)).1 (fun _ => (fair_pure 2 (fun l => [(pf51 l).1, (pf51 l).2]) (fun _ => 0) (fun _ => by decide) (fun _ => Nat.le_refl _)).2) (fun l _ _ _ h => h)
theorem any52 (w0 : World) : OpAny w0 52 := pair52.any (by decide) (by decide) (by decide) (by decide) (fair_pure 2 (fun l => [(pf52 l).1, (pf52 l).2]) (fun _ => 0) (fun _ => by decide) (fun _ => Nat.le_refl _)).1 (fun _ => (fair_pure 2 (fun l => [(pf52 l).1, (pf52 l).2]) (fun _ => 0) (fun _ => by decide) (fun _ => Nat.le_refl _)).2) (fun l _ _ _ h => h)
theorem any53 (w0 : World) : OpAny w0 53 := pair53.any (by decide) (by decide) (by decide) (by decide) (fair_pure 2 (fun l => [(pf53 l).1, (pf53 l).2]) (fun _ => 0) (fun _ => by decide) (fun _ => Nat.le_refl _)).1 (fun _ => (fair_pure 2 (fun l => [(pf53 l).1, (pf53 l).2]) (fun _ => 0) (fun _ => by decide) (fun _ => Nat.le_refl _)).2) (fun l _ _ _ h => h)
theorem any54 (w0 : World) : OpAny w0 54 := pair54.any (by decide) (by decide) (by decide) (by decide) (fair_pure 2 (fun l => [(pf54 l).1, (pf54 l).2]) (fun _ => 0) (fun _ => by decide) (fun _ => Nat.le_refl _)).1 (fun _ => (fair_pure 2 (fun l => [(pf54 l).1, (pf54 l).2]) (fun _ => 0) (fun _ => by decide) (fun _ => Nat.le_refl _)).2) (fun l _ _ _ h => h)
theorem any55 (w0 : World) : OpAny w0 55 := pair55.any (by decide) (by decide) (by decide) (by decide) (fair_pure 3 (fun l => [(pf55 l).1.1, (pf55 l).1.2]) (fun l => (pf55 l).2) (fun l => udivT_no _ _) (fun _ => Nat.le_refl _)).1 (fun _ => (fair_pure 3 (fun l => [(pf55 l).1.1, (pf55 l).1.2]) (fun l => (pf55 l).2) (fun l => udivT_no _ _) (fun _ => Nat.le_refl _)).2) (fun l _ _ _ h => h)
theorem any56 (w0 : World) : OpAny w0 56 := pair56.any (by decide) (by decide) (by decide) (by decide) (fair_pure 3 (fun l => [(pf56 l).1.1, (pf56 l).1.2]) (fun l => (pf56 l).2) (fun l => floorT_no _ _) (fun _ => Nat.le_refl _)).1 (fun _ => (fair_pure 3 (fun l => [(pf56 l).1.1, (pf56 l).1.2]) (fun l => (pf56 l).2) (fun l => floorT_no _ _) (fun _ => Nat.le_refl _)).2) (fun l _ _ _ h => h)
theorem any57 (w0 : World) : OpAny w0 57 := pair57.any (by decide) (by decide) (by decide) (by decide) (fair_pure 3 (fun l => [(pf57 l).1.1, (pf57 l).1.2]) (fun l => (pf57 l).2) (fun l => truncT_no _ _) (fun _ => Nat.le_refl _)).1 (fun _ => (fair_pure 3 (fun l => [(pf57 l).1.1, (pf57 l).1.2]) (fun l => (pf57 l).2) (fun l => truncT_no _ _) (fun _ => Nat.le_refl _)).2) (fun l _ _ _ h => h)
theorem any58 (w0 : World) : OpAny w0 58 := pair58.any (by decide) (by decide) (by decide) (by decide) (fair_pure 3 (fun l => [(pf58 l).1]) (fun l => (pf58 l).2) (fun l => floorT_no _ _) (fun _ => by simp)).1 (fun _ => (fair_pure 3 (fun l => [(pf58 l).1]) (fun l => (pf58 l).2) (fun l => floorT_no _ _) (fun _ => by simp)).2) (fun l _ _ _ h => h)
theorem any59 (w0 : World) : OpAny w0 59 := pair59.any (by decide) (by decide) (by decide) (by decide) (fair_pure 3 (fun l => [(pf59 l).1.1, (pf59 l).1.2]) (fun l => (pf59 l).2) (fun l => floorT_no _ _) (fun _ => Nat.le_refl _)).1 (fun _ => (fair_pure 3 (fun l => [(pf59 l).1.1, (pf59 l).1.2]) (fun l => (pf59 l).2) (fun l => floorT_no _ _) (fun _ => Nat.le_refl _)).2) (fun l _ _ _ h => h)
theorem any60 (w0 : World) : OpAny w0 60 := pair60.any (by decide) (by decide) (by decide) (by decide) (fair_pure 2 (fun l => [(pf60 l).1.1, (pf60 l).1.2]) (fun l => (pf60 l).2) (fun l => twoR_no _ _ _) (fun _ => Nat.le_refl _)).1 (fun _ => (fair_pure 2 (fun l => [(pf60 l).1.1, (pf60 l).1.2]) (fun l => (pf60 l).2) (fun l => twoR_no _ _ _) (fun _ => Nat.le_refl _)).2) (fun l _ _ _ h => h)
theorem any71 (w0 : World) : OpAny w0 71 := pair71.any (by decide) (by decide) (by decide) (by decide) (fair_pure 1 (fun l => [pf71 l]) (fun _ => 0) (fun _ => by decide) (fun _ => by simp)).1 (fun _ => (fair_pure 1 (fun l => [pf71 l]) (fun _ => 0) (fun _ => by decide) (fun _ => by simp)).2) (fun l _ _ _ h => h)
theorem any72 (w0 : World) : OpAny w0 72 := pair72.any (by decide) (by decide) (by decide) (by decide) (fair_pure 1 (fun l => [(pf72 l).1]) (fun l => (pf72 l).2) (fun l => toR_no _) (fun _ => by simp)).1 (fun _ => (fair_pure 1 (fun l => [(pf72 l).1]) (fun l => (pf72 l).2) (fun l => toR_no _) (fun _ => by simp)).2) (fun l _ _ _ h => h)
theorem any73 (w0 : World) : OpAny w0 73 := get_tot.any (by decide) (by decide) (by decide) (by decide) (fair_ask 1 (fun l n bs k => [getV bs n (l.getD 0 0)]) (fun l n bs k => getE n (l.getD 0 0)) (fun _ _ _ _ => getE_no _ _) (fun _ _ _ _ => by simp)).1 (fun _ => (fair_ask 1 (fun l n bs k => [getV bs n (l.getD 0 0)]) (fun l n bs k => getE n (l.getD 0 0)) (fun _ _ _ _ => getE_no _ _) (fun _ _ _ _ => by simp)).2) (fun _ _ _ _ _ => trivial)
theorem any74 (w0 : World) : OpAny w0 74 := put_tot.any (by decide) (by decide) (by decide) (by decide) (fair_mem 2 (fun l n bs k => getE n (l.getD 1 0)) (fun l n bs k => putT bs n (l.getD 1 0) (l.getD 0 0)) (fun l n bs k => k) (fun _ _ _ _ => getE_no _ _) (fun _ _ _ _ h => ⟨putT_bad h, rfl⟩)).1 (fun _ => (fair_mem 2 (fun l n bs k => getE n (l.getD 1 0)) (fun l n bs k => putT bs n (l.getD 1 0) (l.getD 0 0)) (fun l n bs k => k) (fun _ _ _ _ => getE_no _ _) (fun _ _ _ _ h => ⟨putT_bad h, rfl⟩)).2) (fun _ _ _ _ _ => trivial)
theorem any75 (w0 : World) : OpAny w0 75 := getC_tot.any (by decide) (by decide) (by decide) (by decide) (fair_ask 1 (fun l n bs k => [gbV bs n (l.getD 0 0)]) (fun l n bs k => pieE n (l.getD 0 0) 1) (fun _ _ _ _ => pieE_no _ _ _) (fun _ _ _ _ => by simp)).1 (fun _ => (fair_ask 1 (fun l n bs k => [gbV bs n (l.getD 0 0)]) (fun l n bs k => pieE n (l.getD 0 0) 1) (fun _ _ _ _ => pieE_no _ _ _) (fun _ _ _ _ => by simp)).2) (fun _ _ _ _ _ => trivial)
theorem any76 (w0 : World) : OpAny w0 76 := putC_tot.any (by decide) (by decide) (by decide) (by decide) (fair_mem 2 (fun l n bs k => pieE n (l.getD 1 0) 1) (fun l n bs k => filT bs n (l.getD 1 0) 1 (l.getD 0 0 % 256)) (fun l n bs k => k) (fun _ _ _ _ => pieE_no _ _ _) (fun _ _ _ _ h => ⟨filT_bad h, rfl⟩)).1 (fun _ => (fair_mem 2 (fun l n bs k => pieE n (l.getD 1 0) 1) (fun l n bs k => filT bs n (l.getD 1 0) 1 (l.getD 0 0 % 256)) (fun l n bs k => k) (fun _ _ _ _ => pieE_no _ _ _) (fun _ _ _ _ h => ⟨filT_bad h, rfl⟩)).2) (fun _ _ _ _ _ => trivial)
theorem any77 (w0 : World) : OpAny w0 77 := addTo_tot.any (by decide) (by decide) (by decide) (by decide) (fair_mem 2 (fun l n bs k => getE n (l.getD 1 0)) (fun l n bs k => putT bs n (l.getD 1 0) (IntKind.i64.wrap (getV bs n (l.getD 1 0) + l.getD 0 0))) (fun l n bs k => k) (fun _ _ _ _ => getE_no _ _) (fun _ _ _ _ h => ⟨putT_bad h, rfl⟩)).1 (fun _ => (fair_mem 2 (fun l n bs k => getE n (l.getD 1 0)) (fun l n bs k => putT bs n (l.getD 1 0) (IntKind.i64.wrap (getV bs n (l.getD 1 0) + l.getD 0 0))) (fun l n bs k => k) (fun _ _ _ _ => getE_no _ _) (fun _ _ _ _ h => ⟨putT_bad h, rfl⟩)).2) (fun _ _ _ _ _ => trivial)
theorem any78 (w0 : World) : OpAny w0 78 := get2_tot.any (by decide) (by decide) (by decide) (by decide) (fair_ask 1 (fun l n bs k => [g2X bs n (l.getD 0 0), g2Y bs n (l.getD 0 0)]) (fun l n bs k => g2E n (l.getD 0 0)) (fun _ _ _ _ => g2E_no _ _) (fun _ _ _ _ => by simp)).1 (fun _ => (fair_ask 1 (fun l n bs k => [g2X bs n (l.getD 0 0), g2Y bs n (l.getD 0 0)]) (fun l n bs k => g2E n (l.getD 0 0)) (fun _ _ _ _ => g2E_no _ _) (fun _ _ _ _ => by simp)).2) (fun _ _ _ _ _ => trivial)
theorem any79 (w0 : World) : OpAny w0 79 := put2_tot.any (by decide) (by decide) (by decide) (by decide) (fair_mem 3 (fun l n bs k => p2E n (l.getD 2 0)) (fun l n bs k => p2B bs n (l.getD 2 0) (l.getD 0 0) (l.getD 1 0)) (fun l n bs k => k) (fun _ _ _ _ => p2E_no _ _) (fun _ _ _ _ h => ⟨p2B_bad h, rfl⟩)).1 (fun _ => (fair_mem 3 (fun l n bs k => p2E n (l.getD 2 0)) (fun l n bs k => p2B bs n (l.getD 2 0) (l.getD 0 0) (l.getD 1 0)) (fun l n bs k => k) (fun _ _ _ _ => p2E_no _ _) (fun _ _ _ _ h => ⟨p2B_bad h, rfl⟩)).2) (fun _ _ _ _ _ => trivial)
theorem any80 (w0 : World) : OpAny w0 80 := fill_tot.any (by decide) (by decide) (by decide) (by decide) (fair_mem 3 (fun l n bs k => pieE n (l.getD 0 0) (l.getD 1 0)) (fun l n bs k => filT bs n (l.getD 0 0) (l.getD 1 0) (l.getD 2 0 % 256)) (fun l n bs k => k) (fun _ _ _ _ => pieE_no _ _ _) (fun _ _ _ _ h => ⟨filT_bad h, rfl⟩)).1 (fun _ => (fair_mem 3 (fun l n bs k => pieE n (l.getD 0 0) (l.getD 1 0)) (fun l n bs k => filT bs n (l.getD 0 0) (l.getD 1 0) (l.getD 2 0 % 256)) (fun l n bs k => k) (fun _ _ _ _ => pieE_no _ _ _) (fun _ _ _ _ h => ⟨filT_bad h, rfl⟩)).2) (fun _ _ _ _ _ => trivial)
theorem any81 (w0 : World) : OpAny w0 81 := move_tot.any (by decide) (by decide) (by decide) (by decide) (fair_mem 3 (fun l n bs k => movE n (l.getD 0 0) (l.getD 1 0) (l.getD 2 0)) (fun l n bs k => movT bs n (l.getD 0 0) (l.getD 1 0) (l.getD 2 0)) (fun l n bs k => k) (fun _ _ _ _ => movE_no _ _ _ _) (fun _ _ _ _ h => ⟨movT_bad h, rfl⟩)).1 (fun _ => (fair_mem 3 (fun l n bs k => movE n (l.getD 0 0) (l.getD 1 0) (l.getD 2 0)) (fun l n bs k => movT bs n (l.getD 0 0) (l.getD 1 0) (l.getD 2 0)) (fun l n bs k => k) (fun _ _ _ _ => movE_no _ _ _ _) (fun _ _ _ _ h => ⟨movT_bad h, rfl⟩)).2) (fun _ _ _ _ _ => trivial)
theorem any82 (w0 : World) : OpAny w0 82 := here_sem.any (by decide) (by decide) (by decide) (by decide) (fair_ask 0 (fun l n bs k => [(k : Int)]) (fun l n bs k => 0) (fun _ _ _ _ => by decide) (fun _ _ _ _ => by simp)).1 (fun _ => (fair_ask 0 (fun l n bs k => [(k : Int)]) (fun l n bs k => 0) (fun _ _ _ _ => by decide) (fun _ _ _ _ => by simp)).2) (fun _ _ _ _ _ => trivial)
theorem any83 (w0 : World) : OpAny w0 83 := allot_tot.any (by decide) (by decide) (by decide) (by decide) (fair_mem 1 (fun l n bs k => allE n k (l.getD 0 0)) (fun l n bs k => bs) (fun l n bs k => allH n k (l.getD 0 0)) (fun _ _ _ _ => allE_no _ _ _) (fun _ _ _ _ h => ⟨rfl, allH_bad h⟩)).1 (fun _ => (fair_mem 1 (fun l n bs k => allE n k (l.getD 0 0)) (fun l n bs k => bs) (fun l n bs k => allH n k (l.getD 0 0)) (fun _ _ _ _ => allE_no _ _ _) (fun _ _ _ _ h => ⟨rfl, allH_bad h⟩)).2) (fun _ _ _ _ _ => trivial)
theorem any84 (w0 : World) : OpAny w0 84 := comma_tot.any (by decide) (by decide) (by decide) (by decide) (fair_mem 1 (fun l n bs k => comE n k) (fun l n bs k => comB bs n k (l.getD 0 0)) (fun l n bs k => comH n k) (fun _ _ _ _ => comE_no _ _) (fun _ _ _ _ h => com_bad h)).1 (fun _ => (fair_mem 1 (fun l n bs k => comE n k) (fun l n bs k => comB bs n k (l.getD 0 0)) (fun l n bs k => comH n k) (fun _ _ _ _ => comE_no _ _) (fun _ _ _ _ h => com_bad h)).2) (fun _ _ _ _ _ => trivial)
theorem any85 (w0 : World) : OpAny w0 85 := ccomma_tot.any (by decide) (by decide) (by decide) (by decide) (fair_mem 1 (fun l n bs k => ccoE n k) (fun l n bs k => ccoB bs n k (l.getD 0 0 % 256)) (fun l n bs k => allH n k 1) (fun _ _ _ _ => allE_no _ _ _) (fun _ _ _ _ h => cco_bad h)).1 (fun _ => (fair_mem 1 (fun l n bs k => ccoE n k) (fun l n bs k => ccoB bs n k (l.getD 0 0 % 256)) (fun l n bs k => allH n k 1) (fun _ _ _ _ => allE_no _ _ _) (fun _ _ _ _ h => cco_bad h)).2) (fun _ _ _ _ _ => trivial)
theorem any86 (w0 : World) : OpAny w0 86 := align_tot.any (by decide) (by decide) (by decide) (by decide) (fair_mem 0 (fun l n bs k => allE n k (alignK k)) (fun l n bs k => bs) (fun l n bs k => allH n k (alignK k)) (fun _ _ _ _ => allE_no _ _ _) (fun _ _ _ _ h => ⟨rfl, allH_bad h⟩)).1 (fun _ => (fair_mem 0 (fun l n bs k => allE n k (alignK k)) (fun l n bs k => bs) (fun l n bs k => allH n k (alignK k)) (fun _ _ _ _ => allE_no _ _ _) (fun _ _ _ _ h => ⟨rfl, allH_bad h⟩)).2) (fun _ _ _ _ _ => trivial)
theorem any87 (w0 : World) : OpAny w0 87 := aligned_tot.any (by decide) (by decide) (by decide) (by decide) (fair_pure 1 (fun l => [bits .andNot .i64 (wrap64 (wrap64 (l.getD 0 0 + 8) - 1)) 7]) (fun _ => 0) (fun _ => by decide) (fun _ => by simp)).1 (fun _ => (fair_pure 1 (fun l => [bits .andNot .i64 (wrap64 (wrap64 (l.getD 0 0 + 8) - 1)) 7]) (fun _ => 0) (fun _ => by decide) (fun _ => by simp)).2) (fun _ _ _ _ _ => trivial)
theorem any88 (w0 : World) : OpAny w0 88 := bytes_tot.any (by decide) (by decide) (by decide) (by decide) (fair_pure 1 (fun l => [wrap64 (l.getD 0 0 * 8)]) (fun _ => 0) (fun _ => by decide) (fun _ => by simp)).1 (fun _ => (fair_pure 1 (fun l => [wrap64 (l.getD 0 0 * 8)]) (fun _ => 0) (fun _ => by decide) (fun _ => by simp)).2) (fun _ _ _ _ _ => trivial)
theorem any89 (w0 : World) : OpAny w0 89 := count_tot.any (by decide) (by decide) (by decide) (by decide) (fair_ask 1 (fun l n bs k => [wrap64 (l.getD 0 0 + 1), gbV bs n (l.getD 0 0)]) (fun l n bs k => pieE n (l.getD 0 0) 1) (fun _ _ _ _ => pieE_no _ _ _) (fun _ _ _ _ => by simp)).1 (fun _ => (fair_ask 1 (fun l n bs k => [wrap64 (l.getD 0 0 + 1), gbV bs n (l.getD 0 0)]) (fun l n bs k => pieE n (l.getD 0 0) 1) (fun _ _ _ _ => pieE_no _ _ _) (fun _ _ _ _ => by simp)).2) (fun _ _ _ _ _ => trivial)
theorem any100 (w0 : World) : OpAny w0 100 := (base_tot 100 10 rfl rfl (fun _ _ _ _ _ h => h)).any (by decide) (by decide) (by decide) (by decide) (fair_mem 0 (fun l n bs k => getE n 0) (fun l n bs k => putT bs n 0 10) (fun l n bs k => k) (fun _ _ _ _ => getE_no _ _) (fun _ _ _ _ h => ⟨putT_bad h, rfl⟩)).1 (fun _ => (fair_mem 0 (fun l n bs k => getE n 0) (fun l n bs k => putT bs n 0 10) (fun l n bs k => k) (fun _ _ _ _ => getE_no _ _) (fun _ _ _ _ h => ⟨putT_bad h, rfl⟩)).2) (fun _ _ _ _ _ => trivial)
theorem any101 (w0 : World) : OpAny w0 101 := (base_tot 101 16 rfl rfl (fun _ _ _ _ _ h => h)).any (by decide) (by decide) (by decide) (by decide) (fair_mem 0 (fun l n bs k => getE n 0) (fun l n bs k => putT bs n 0 16) (fun l n bs k => k) (fun _ _ _ _ => getE_no _ _) (fun _ _ _ _ h => ⟨putT_bad h, rfl⟩)).1 (fun _ => (fair_mem 0 (fun l n bs k => getE n 0) (fun l n bs k => putT bs n 0 16) (fun l n bs k => k) (fun _ _ _ _ => getE_no _ _) (fun _ _ _ _ h => ⟨putT_bad h, rfl⟩)).2) (fun _ _ _ _ _ => trivial)
end Go.Proofs.YtkbchpaofmlhgaaGreatDoor
