/- Which nodes are a tree, in plain words; the contracts of many and number. -/
import Derived.Test.YtnhhflnanogpjaaGreatDoorWorld
import Derived.BigQuiet
namespace Go.Proofs.YtnhhflnanogpjaaGreatDoor
open Go.RowKit

def manyK (k : Int) : Int :=
  if k = 1 ∨ k = 2 ∨ k = 8 ∨ k = 9 ∨ k = 10 ∨ k = 12 ∨ k = 13 then 0
  else if k = 5 ∨ k = 6 then 1 else if k = 4 ∨ k = 7 then 2 else if k = 3 then -1 else if k = 11 then -2 else -3
def numberK (k n locals : Int) : Bool :=
  if k = 1 then true else if k = 2 then decide (1 ≤ n) && decide (n ≤ 42) else if k = 12 ∨ k = 13 then decide (0 ≤ n) && decide (n < locals) else decide (n = 0)

theorem many_any (k : Int) (w : World) : Calls Tryz.prog 21 #[.int .i64 k] w fun e w' => e = .returned (.int .i64 (manyK k)) ∧ w = w' := by
  by_cases hk : 1 ≤ k ∧ k ≤ 13
  · rcases (by omega : k = 1 ∨ k = 2 ∨ k = 3 ∨ k = 4 ∨ k = 5 ∨ k = 6 ∨ k = 7 ∨ k = 8 ∨ k = 9 ∨ k = 10 ∨ k = 11 ∨ k = 12 ∨ k = 13) with rfl | rfl | rfl | rfl | rfl | rfl | rfl | rfl | rfl | rfl | rfl | rfl | rfl
    all_goals clear hk
    all_goals go_enter Tryz.func21, Tryz.ntmps21
    all_goals go_wp2
    all_goals go_ret
    all_goals exact ⟨rfl, rfl⟩
  · have hm : manyK k = -3 := by
      unfold manyK
      rw [if_neg (by omega), if_neg (by omega), if_neg (by omega), if_neg (by omega), if_neg (by omega)]
    rw [hm]
    have h1 : (k == 1) = false := by simp; omega
    have h2 : (k == 2) = false := by simp; omega
    have h3 : (k == 3) = false := by simp; omega
    have h4 : (k == 4) = false := by simp; omega
    have h5 : (k == 5) = false := by simp; omega
    have h6 : (k == 6) = false := by simp; omega
    have h7 : (k == 7) = false := by simp; omega
    have h8 : (k == 8) = false := by simp; omega
    have h9 : (k == 9) = false := by simp; omega
    have h10 : (k == 10) = false := by simp; omega
    have h11 : (k == 11) = false := by simp; omega
    have h12 : (k == 12) = false := by simp; omega
    have h13 : (k == 13) = false := by simp; omega
    clear hk hm
    go_enter Tryz.func21, Tryz.ntmps21
    go_wp2
    go_ret
    exact ⟨rfl, rfl⟩

theorem number_any (k n locals : Int) (kv : Value) (hkv : ∃ a m c, kv = .slice a m c) (w : World) : Calls Tryz.prog 22 #[.agg #[.int .i64 k, .int .i64 n, kv], .int .i64 locals] w fun e w' => e = .returned (.bool (numberK k n locals)) ∧ Touch [] w w' := by
  obtain ⟨a, m, c, rfl⟩ := hkv
  have t := (Touch.refl [] w).alloc (.cells #[.int .i64 k, .int .i64 n, .slice a m c] 37)
  by_cases h1 : k = 1
  · subst h1
    have HT := Lib.hid t
    clear t
    show Calls _ _ _ _ (fun e w' => e = .returned (.bool true) ∧ _)
    go_enter Tryz.func22, Tryz.ntmps22
    go_wp2
    go_ret
    exact ⟨rfl, HT.out⟩
  by_cases h2 : k = 2
  · subst h2
    have HT := Lib.hid t
    have hr : numberK 2 n locals = (decide (1 ≤ n) && decide (n ≤ 42)) := rfl
    rw [hr]
    clear t hr
    by_cases ha : 1 ≤ n
    · by_cases hb : n ≤ 42
      all_goals (go_enter Tryz.func22, Tryz.ntmps22; go_wp2; go_ret; refine ⟨?_, HT.out⟩; first | rfl | (simp [ha, hb]; done) | (simp; omega))
    · go_enter Tryz.func22, Tryz.ntmps22
      go_wp2
      go_ret
      refine ⟨?_, HT.out⟩
      first | rfl | (simp; omega)
  by_cases h12 : k = 12 ∨ k = 13
  · have HT := Lib.hid t
    have hr : numberK k n locals = (decide (0 ≤ n) && decide (n < locals)) := by unfold numberK; rw [if_neg h1, if_neg h2, if_pos h12]
    rw [hr]
    clear t hr h1 h2
    by_cases ha : 0 ≤ n
    · by_cases hb : n < locals
      all_goals rcases h12 with rfl | rfl
      all_goals (go_enter Tryz.func22, Tryz.ntmps22; go_wp2; go_ret; refine ⟨?_, HT.out⟩; first | rfl | (simp [ha, hb]; done) | (simp; omega))
    · rcases h12 with rfl | rfl
      all_goals (go_enter Tryz.func22, Tryz.ntmps22; go_wp2; go_ret; refine ⟨?_, HT.out⟩; first | rfl | (simp; omega))
  · have HT := Lib.hid t
    have hr : numberK k n locals = decide (n = 0) := by unfold numberK; rw [if_neg h1, if_neg h2, if_neg h12]
    have b1 : (k == 1) = false := by simp; omega
    have b2 : (k == 2) = false := by simp; omega
    have b12 : (k == 12) = false := by simp; omega
    have b13 : (k == 13) = false := by simp; omega
    rw [hr]
    clear t hr h1 h2 h12
    go_enter Tryz.func22, Tryz.ntmps22
    go_wp2
    go_ret
    refine ⟨?_, HT.out⟩
    first | rfl | simp
end Go.Proofs.YtnhhflnanogpjaaGreatDoor
