/- The sums of TreeSums: until and while. -/
import Derived.Test.YtnhhflnanogpjaaGreatDoorSumsLaw2
namespace Go.Proofs.YtnhhflnanogpjaaGreatDoor
open Go.RowKit

theorem goes_pop {st lc lp : List Int} {s f b : Nat} (x : Int) : Does1 popM ⟨st ++ [x], lc, lp, s, f, b⟩ x ⟨st, lc, lp, s, f, b⟩ := by
  refine Does1.bind (a := [x]) (s := ⟨st, lc, lp, s, f, b⟩) ?_ rfl
  unfold Does1 takeM
  rw [if_neg (by simp)]
  simp
theorem tuck_do (S i : Int) : doF 34 [S, i] = (0, [i, S, i]) := rfl
theorem swap_do (S i : Int) : doF 30 [S, i] = (0, [i, S]) := rfl
theorem dup_do (S i : Int) : doF 28 [S, i] = (0, [S, i, i]) := rfl
theorem drop_do (S i : Int) : doF 29 [S, i] = (0, [S]) := rfl
theorem eq_two (x y : Int) : twoF 21 x y = truthF (decide (x = y)) := rfl
theorem less_two (x y : Int) : twoF 23 x y = truthF (decide (x < y)) := rfl

/-- tuck + swap 1+ -/
theorem four_words {l : List NodeV} {d k1 k2 k3 k4 : Nat} (h1 : l.getD k1 NodeV.none = ⟨2, 34, []⟩) (h2 : l.getD k2 NodeV.none = ⟨2, 11, []⟩) (h3 : l.getD k3 NodeV.none = ⟨2, 30, []⟩) (h4 : l.getD k4 NodeV.none = ⟨2, 4, []⟩) {S i : Int} {s f b : Nat} (h : s + 4 ≤ f)
    (hS : 0 ≤ S ∧ S ≤ 1000000) (hi : 0 ≤ i ∧ i ≤ 1000000) {rest : List Den} {t : Run} (hr : Does1 (seqD rest) ⟨[S + i, i + 1], [], [], s + 4, f, b⟩ false t) :
    Does1 (seqD (denN l (d + 1) k1 :: denN l (d + 1) k2 :: denN l (d + 1) k3 :: denN l (d + 1) k4 :: rest)) ⟨[S, i], [], [], s, f, b⟩ false t := by
  refine goes_seq (goes_do h1 (by decide) (by omega) (tuck_do S i)) ?_
  have e2 := goes_two (d := d) h2 (by decide) (x := S) (y := i) (st := [i]) (lc := []) (lp := []) (s := s + 1) (f := f) (b := b) (by omega) (by simp)
  rw [add_small hS.1 hi.1 hS.2 hi.2] at e2
  refine goes_seq e2 ?_
  refine goes_seq (goes_do h3 (by decide) (by omega) (swap_do i (S + i))) ?_
  have e4 := goes_one (d := d) h4 (by decide) (x := i) (st := [S + i]) (lc := []) (lp := []) (s := s + 1 + 1 + 1) (f := f) (b := b) (by omega) (by simp) (by rw [inc_small hi.1 hi.2])
  rw [inc_small hi.1 hi.2] at e4
  exact goes_seq e4 hr

theorem until_round (a e : Int) {S i : Int} {s f b : Nat} (h : s + 8 ≤ f) (hS : 0 ≤ S ∧ S ≤ 1000000) (hi : 0 ≤ i ∧ i ≤ 100000) :
    Does1 (untilRound (denN (untilL a e) 11 9) ()) ⟨[S, i], [], [], s, f, b⟩ (if i + 1 = e then .inr false else .inl ()) ⟨[S + i, i + 1], [], [], s + 8, f, b⟩ := by
  refine Does1.bind (a := false) (s := ⟨[S + i, i + 1] ++ [truthF (decide (i + 1 = e))], [], [], s + 8, f, b⟩) ?_ ?_
  · show Does1 (nodeD ⟨3, 0, [2, 3, 4, 5, 6, 7, 8]⟩ [denN (untilL a e) 10 2, denN (untilL a e) 10 3, denN (untilL a e) 10 4, denN (untilL a e) 10 5, denN (untilL a e) 10 6, denN (untilL a e) 10 7, denN (untilL a e) 10 8]) _ _ _
    refine goes_node (by omega) ?_
    show Does1 (seqD [denN (untilL a e) 10 2, denN (untilL a e) 10 3, denN (untilL a e) 10 4, denN (untilL a e) 10 5, denN (untilL a e) 10 6, denN (untilL a e) 10 7, denN (untilL a e) 10 8]) _ _ _
    refine four_words rfl rfl rfl rfl (by omega) hS ⟨hi.1, by omega⟩ ?_
    refine goes_seq (goes_do rfl (by decide) (by omega) (dup_do (S + i) (i + 1))) ?_
    refine goes_seq (goes_lit (st := [S + i, i + 1, i + 1]) rfl (by omega) (by simp)) ?_
    have e2 := goes_two (l := untilL a e) (d := 9) (k := 8) (op := 21) rfl (by decide) (x := i + 1) (y := e) (st := [S + i, i + 1]) (lc := []) (lp := []) (s := s + 1 + 4 + 1 + 1) (f := f) (b := b) (by omega) (by simp)
    rw [eq_two] at e2
    exact goes_seq e2 (goes_seq_nil _)
  · refine Does1.bind (goes_pop _) ?_
    by_cases hh : i + 1 = e
    · rw [if_pos hh]
      simp only [hh, decide_true]
      rfl
    · rw [if_neg hh]
      simp only [hh, decide_false]
      rfl
theorem until_loop (a e : Int) (f b : Nat) (he : e ≤ 1000) : ∀ (j k : Nat) (S i : Int) (s : Nat), j < k → i + (j + 1 : Nat) = e → s + 9 * (j + 1) ≤ f → 0 ≤ i → 0 ≤ S → S + 1000 * (j + 1) ≤ 1000000 →
    Does1 (loopM (untilRound (denN (untilL a e) 11 9)) k ()) ⟨[S, i], [], [], s, f, b⟩ false ⟨[S + sumF (j + 1) i, e], [], [], s + 9 * (j + 1), f, b⟩
  | _, 0, _, _, _, h, _, _, _, _, _ => by omega
  | 0, k + 1, S, i, s, h, hi, hs, h0, hS, hS2 => by
    have hr := until_round a e (S := S) (i := i) (s := s + 1) (f := f) (b := b) (by omega) ⟨hS, by omega⟩ ⟨h0, by omega⟩
    rw [if_pos (by omega), show i + 1 = e by omega] at hr
    have := loop_end (k := k) (show s < f by omega) hr
    simpa [sumF] using this
  | j + 1, k + 1, S, i, s, h, hi, hs, h0, hS, hS2 => by
    have hr := until_round a e (S := S) (i := i) (s := s + 1) (f := f) (b := b) (by omega) ⟨hS, by omega⟩ ⟨h0, by omega⟩
    rw [if_neg (by omega)] at hr
    have ih := until_loop a e f b he j k (S + i) (i + 1) (s + 1 + 8) (by omega) (by omega) (by omega) (by omega) (by omega) (by omega)
    have := loop_next (show s < f by omega) hr ih
    have e1 : S + i + sumF (j + 1) (i + 1) = S + sumF (j + 1 + 1) i := by simp only [sumF]; omega
    have e2 : s + 1 + 8 + 9 * (j + 1) = s + 9 * (j + 1 + 1) := by omega
    rw [e1, e2] at this
    exact this
theorem until_mean (a : Int) (n : Nat) (ha : 0 ≤ a ∧ a ≤ 100) (hn : n < 30) : ∃ k, meanF (untilL a (a + (n + 1 : Nat))) 0 [] 2000 = ⟨[sumF (n + 1) a], 0, true, k⟩ := by
  obtain ⟨e, he⟩ : ∃ e : Int, a + (n + 1 : Nat) = e := ⟨_, rfl⟩
  rw [he]
  have hu : Does1 (denN (untilL a e) 12 10) ⟨[0, a], [], [], 3, 2000, 0⟩ false ⟨[0 + sumF (n + 1) a, e], [], [], 4 + 9 * (n + 1), 2000, 0⟩ := by
    show Does1 (nodeD ⟨6, 0, [9]⟩ [denN (untilL a e) 11 9]) _ _ _
    refine goes_node (by decide) ?_
    show Does1 (loopD (untilRound (denN (untilL a e) 11 9)) ()) _ _ _
    refine loopD_goes (k := 1997) rfl ?_
    exact until_loop a e 2000 0 (by omega) n 1997 0 a 4 (by omega) he (by omega) ha.1 (by decide) (by omega)
  have htop : Does1 (denN (untilL a e) 13 12) ⟨[], [], [], 0, 2000, 0⟩ false ⟨[0 + sumF (n + 1) a], [], [], 4 + 9 * (n + 1) + 1, 2000, 0⟩ := by
    show Does1 (nodeD ⟨3, 0, [0, 1, 10, 11]⟩ [denN (untilL a e) 12 0, denN (untilL a e) 12 1, denN (untilL a e) 12 10, denN (untilL a e) 12 11]) _ _ _
    refine goes_node (by decide) ?_
    show Does1 (seqD [denN (untilL a e) 12 0, denN (untilL a e) 12 1, denN (untilL a e) 12 10, denN (untilL a e) 12 11]) _ _ _
    exact goes_seq (goes_lit (st := []) rfl (by decide) (by simp)) (goes_seq (goes_lit (st := [0]) rfl (by decide) (by simp)) (goes_seq hu (goes_seq (goes_do rfl (by decide) (by omega) (drop_do _ e)) (goes_seq_nil _))))
  refine ⟨4 + 9 * (n + 1) + 1, ?_⟩
  have := mean_of (l := untilL a e) htop
  rw [this, Int.zero_add]

theorem while_first (a e : Int) {S i : Int} {s f b : Nat} (h : s + 4 ≤ f) : Does1 (denN (whileL a e) 12 5) ⟨[S, i], [], [], s, f, b⟩ false ⟨[S, i] ++ [truthF (decide (i < e))], [], [], s + 4, f, b⟩ := by
  show Does1 (nodeD ⟨3, 0, [2, 3, 4]⟩ [denN (whileL a e) 11 2, denN (whileL a e) 11 3, denN (whileL a e) 11 4]) _ _ _
  refine goes_node (by omega) ?_
  show Does1 (seqD [denN (whileL a e) 11 2, denN (whileL a e) 11 3, denN (whileL a e) 11 4]) _ _ _
  refine goes_seq (goes_do rfl (by decide) (by omega) (dup_do S i)) ?_
  refine goes_seq (goes_lit (st := [S, i, i]) rfl (by omega) (by simp)) ?_
  have e2 := goes_two (l := whileL a e) (d := 10) (k := 4) (op := 23) rfl (by decide) (x := i) (y := e) (st := [S, i]) (lc := []) (lp := []) (s := s + 1 + 1 + 1) (f := f) (b := b) (by omega) (by simp)
  rw [less_two] at e2
  exact goes_seq e2 (goes_seq_nil _)
theorem while_on (a e : Int) {S i : Int} {s f b : Nat} (h : s + 9 ≤ f) (hS : 0 ≤ S ∧ S ≤ 1000000) (hi : 0 ≤ i ∧ i ≤ 100000) (hie : i < e) :
    Does1 (whileRound (denN (whileL a e) 12 5) (denN (whileL a e) 12 10) ()) ⟨[S, i], [], [], s, f, b⟩ (.inl ()) ⟨[S + i, i + 1], [], [], s + 9, f, b⟩ := by
  refine Does1.bind (while_first a e (by omega)) ?_
  refine Does1.bind (goes_pop _) ?_
  simp only [hie, decide_true]
  refine Does1.bind (a := false) (s := ⟨[S + i, i + 1], [], [], s + 9, f, b⟩) ?_ rfl
  show Does1 (nodeD ⟨3, 0, [6, 7, 8, 9]⟩ [denN (whileL a e) 11 6, denN (whileL a e) 11 7, denN (whileL a e) 11 8, denN (whileL a e) 11 9]) _ _ _
  refine goes_node (by omega) ?_
  exact four_words (l := whileL a e) (d := 10) (k1 := 6) (k2 := 7) (k3 := 8) (k4 := 9) rfl rfl rfl rfl (by omega) hS ⟨hi.1, by omega⟩ (goes_seq_nil _)
theorem while_off (a e : Int) {S : Int} {s f b : Nat} (h : s + 4 ≤ f) :
    Does1 (whileRound (denN (whileL a e) 12 5) (denN (whileL a e) 12 10) ()) ⟨[S, e], [], [], s, f, b⟩ (.inr false) ⟨[S, e], [], [], s + 4, f, b⟩ := by
  refine Does1.bind (while_first a e (by omega)) ?_
  refine Does1.bind (goes_pop _) ?_
  have : ¬ e < e := by omega
  simp only [this, decide_false]
  rfl
theorem while_loop (a e : Int) (f b : Nat) (he : e ≤ 1000) : ∀ (j k : Nat) (S i : Int) (s : Nat), j < k → i + (j : Nat) = e → s + 10 * j + 5 ≤ f → 0 ≤ i → 0 ≤ S → S + 1000 * j ≤ 1000000 →
    Does1 (loopM (whileRound (denN (whileL a e) 12 5) (denN (whileL a e) 12 10)) k ()) ⟨[S, i], [], [], s, f, b⟩ false ⟨[S + sumF j i, e], [], [], s + 10 * j + 5, f, b⟩
  | _, 0, _, _, _, h, _, _, _, _, _ => by omega
  | 0, k + 1, S, i, s, h, hi, hs, h0, hS, hS2 => by
    obtain rfl : i = e := by omega
    have := loop_end (k := k) (show s < f by omega) (while_off a i (S := S) (s := s + 1) (f := f) (b := b) (by omega))
    simpa [sumF] using this
  | j + 1, k + 1, S, i, s, h, hi, hs, h0, hS, hS2 => by
    have hr := while_on a e (S := S) (i := i) (s := s + 1) (f := f) (b := b) (by omega) ⟨hS, by omega⟩ ⟨h0, by omega⟩ (by omega)
    have ih := while_loop a e f b he j k (S + i) (i + 1) (s + 1 + 9) (by omega) (by omega) (by omega) (by omega) (by omega) (by omega)
    have := loop_next (show s < f by omega) hr ih
    have e1 : S + i + sumF j (i + 1) = S + sumF (j + 1) i := by simp only [sumF]; omega
    have e2 : s + 1 + 9 + 10 * j + 5 = s + 10 * (j + 1) + 5 := by omega
    rw [e1, e2] at this
    exact this
theorem while_mean (a : Int) (n : Nat) (ha : 0 ≤ a ∧ a ≤ 100) (hn : n < 30) : ∃ k, meanF (whileL a (a + (n + 1 : Nat))) 0 [] 2000 = ⟨[sumF (n + 1) a], 0, true, k⟩ := by
  obtain ⟨e, he⟩ : ∃ e : Int, a + (n + 1 : Nat) = e := ⟨_, rfl⟩
  rw [he]
  have hu : Does1 (denN (whileL a e) 13 11) ⟨[0, a], [], [], 3, 2000, 0⟩ false ⟨[0 + sumF (n + 1) a, e], [], [], 4 + 10 * (n + 1) + 5, 2000, 0⟩ := by
    show Does1 (nodeD ⟨7, 0, [5, 10]⟩ [denN (whileL a e) 12 5, denN (whileL a e) 12 10]) _ _ _
    refine goes_node (by decide) ?_
    show Does1 (loopD (whileRound (denN (whileL a e) 12 5) (denN (whileL a e) 12 10)) ()) _ _ _
    refine loopD_goes (k := 1997) rfl ?_
    exact while_loop a e 2000 0 (by omega) (n + 1) 1997 0 a 4 (by omega) he (by omega) ha.1 (by decide) (by omega)
  have htop : Does1 (denN (whileL a e) 14 13) ⟨[], [], [], 0, 2000, 0⟩ false ⟨[0 + sumF (n + 1) a], [], [], 4 + 10 * (n + 1) + 5 + 1, 2000, 0⟩ := by
    show Does1 (nodeD ⟨3, 0, [0, 1, 11, 12]⟩ [denN (whileL a e) 13 0, denN (whileL a e) 13 1, denN (whileL a e) 13 11, denN (whileL a e) 13 12]) _ _ _
    refine goes_node (by decide) ?_
    show Does1 (seqD [denN (whileL a e) 13 0, denN (whileL a e) 13 1, denN (whileL a e) 13 11, denN (whileL a e) 13 12]) _ _ _
    exact goes_seq (goes_lit (st := []) rfl (by decide) (by simp)) (goes_seq (goes_lit (st := [0]) rfl (by decide) (by simp)) (goes_seq hu (goes_seq (goes_do rfl (by decide) (by omega) (drop_do _ e)) (goes_seq_nil _))))
  refine ⟨4 + 10 * (n + 1) + 5 + 1, ?_⟩
  have := mean_of (l := whileL a e) htop
  rw [this, Int.zero_add]

/-- the formula -/
theorem sumF_formula (a : Int) (n : Nat) (hn : n < 30) : (n + 1 : Nat) * a + ((n + 1 : Nat) * ((n + 1 : Nat) - 1) : Int).tdiv 2 = sumF (n + 1) a := by
  have h0 : (0 : Int) ≤ ((n + 1 : Nat) : Int) * (((n + 1 : Nat) : Int) - 1) := Int.mul_nonneg (by omega) (by omega)
  rw [Int.tdiv_eq_ediv_of_nonneg h0]
  clear h0
  have : n = 0 ∨ n = 1 ∨ n = 2 ∨ n = 3 ∨ n = 4 ∨ n = 5 ∨ n = 6 ∨ n = 7 ∨ n = 8 ∨ n = 9 ∨ n = 10 ∨ n = 11 ∨ n = 12 ∨ n = 13 ∨ n = 14 ∨ n = 15 ∨ n = 16 ∨ n = 17 ∨ n = 18 ∨ n = 19 ∨ n = 20 ∨ n = 21 ∨ n = 22 ∨ n = 23 ∨ n = 24 ∨ n = 25 ∨ n = 26 ∨ n = 27 ∨ n = 28 ∨ n = 29 := by omega
  rcases this with rfl | rfl | rfl | rfl | rfl | rfl | rfl | rfl | rfl | rfl | rfl | rfl | rfl | rfl | rfl | rfl | rfl | rfl | rfl | rfl | rfl | rfl | rfl | rfl | rfl | rfl | rfl | rfl | rfl | rfl
  all_goals (simp only [sumF]; omega)
end Go.Proofs.YtnhhflnanogpjaaGreatDoor
