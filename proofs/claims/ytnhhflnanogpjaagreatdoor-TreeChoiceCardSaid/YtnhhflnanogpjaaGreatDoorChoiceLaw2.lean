/- TreeChoice: what a choice of k kids means over one cell (plain law). -/
import Derived.Test.YtnhhflnanogpjaaGreatDoorSumsLaw
import Derived.Test.YtnhhflnanogpjaaGreatDoorChoiceLaw
namespace Go.Proofs.YtnhhflnanogpjaaGreatDoor
open Go.RowKit

def choiceL (k : Nat) : List NodeV := (List.range k).map (fun i : Nat => (⟨1, 100 + (i : Int), []⟩ : NodeV)) ++ [⟨11, 0, (List.range k).map Int.ofNat⟩]
def wantF (k : Nat) (n : Int) : Int := if 0 ≤ n ∧ n < (k : Int) - 1 then 100 + n else n
theorem choice_len (k : Nat) : (choiceL k).length = k + 1 := by simp [choiceL]
theorem choice_lit {k i : Nat} (h : i < k) : (choiceL k).getD i NodeV.none = ⟨1, 100 + (i : Int), []⟩ := by
  unfold choiceL
  rw [List.getD, List.getElem?_append_left (by simpa using h), List.getElem?_map, List.getElem?_range h]
  rfl
theorem choice_case (k : Nat) : (choiceL k).getD k NodeV.none = ⟨11, 0, (List.range k).map Int.ofNat⟩ := by
  unfold choiceL
  rw [List.getD, List.getElem?_append_right (by simp)]
  simp
theorem take_pair {lc lp : List Int} {s f b : Nat} (x y : Int) : Does1 (takeM 2) ⟨[x, y], lc, lp, s, f, b⟩ [x, y] ⟨[], lc, lp, s, f, b⟩ := rfl
theorem pop_last {st lc lp : List Int} {s f b : Nat} (x : Int) : Does1 popM ⟨st ++ [x], lc, lp, s, f, b⟩ x ⟨st, lc, lp, s, f, b⟩ := by
  refine Does1.bind (a := [x]) (s := ⟨st, lc, lp, s, f, b⟩) ?_ rfl
  unfold Does1 takeM
  rw [if_neg (by simp)]
  simp
/-- the kids from one on -/
theorem case_goes (k d : Nat) (n : Int) (f : Nat) : ∀ (j i : Nat) (s : Nat), i + (j + 1) = k → s + 2 * (j + 1) ≤ f → (0 ≤ n → (i : Int) ≤ n ∨ (k : Int) - 1 ≤ n) →
    ∃ t, Does1 (caseD ((List.range' i (j + 1)).map fun i => denN (choiceL k) (d + 1) i) i) ⟨[n], [], [], s, f, 0⟩ false t ∧ t.st = [if 0 ≤ n ∧ n < (k : Int) - 1 then 100 + n else n]
  | 0, i, s, hi, hs, hn => by
    refine ⟨⟨[n], [], [], s + 1, f, 0⟩, ?_, ?_⟩
    · show Does1 ((denN (choiceL k) (d + 1) i).bind fun l => if l then .pure true else popM.bind fun _ => .pure false) _ _ _
      refine Does1.bind (goes_lit (choice_lit (by omega)) (by omega) (by simp)) ?_
      exact Does1.bind (pop_last _) rfl
    · have : ¬ (0 ≤ n ∧ n < (k : Int) - 1) := by omega
      rw [if_neg this]
  | j + 1, i, s, hi, hs, hn => by
    have e : (List.range' i (j + 1 + 1)).map (fun i => denN (choiceL k) (d + 1) i) = denN (choiceL k) (d + 1) i :: (List.range' (i + 1) (j + 1)).map (fun i => denN (choiceL k) (d + 1) i) := by
      rw [List.range'_succ, List.map_cons]
    have e2 : ∃ a l, (List.range' (i + 1) (j + 1)).map (fun i => denN (choiceL k) (d + 1) i) = a :: l := by
      rw [List.range'_succ, List.map_cons]; exact ⟨_, _, rfl⟩
    rw [e]
    by_cases h : n = i
    · obtain ⟨a, l, e2⟩ := e2
      rw [e2]
      refine ⟨⟨[100 + (i : Int)], [], [], s + 1 + 1, f, 0⟩, ?_, ?_⟩
      · show Does1 (stepM.bind fun _ => (pushM i).bind fun _ => (takeM 2).bind fun y => if y.getD 0 0 = y.getD 1 0 then denN (choiceL k) (d + 1) i else (pushM (y.getD 0 0)).bind fun _ => caseD (a :: l) (i + 1)) _ _ _
        refine Does1.bind (goes_step (by omega)) ?_
        refine Does1.bind (a := ()) (s := ⟨[n, (i : Int)], [], [], s + 1, f, 0⟩) (by unfold Does1 pushM; rw [if_neg (by simp)]; rfl) ?_
        refine Does1.bind (take_pair n i) ?_
        rw [if_pos (by show n = i; exact h)]
        exact goes_lit (st := []) (choice_lit (by omega)) (by omega) (by simp)
      · rw [if_pos (by omega), h]
    · obtain ⟨t, ih, ih2⟩ := case_goes k d n f j (i + 1) (s + 1) (by omega) (by omega) (by omega)
      obtain ⟨a, l, e2⟩ := e2
      rw [e2] at ih ⊢
      refine ⟨t, ?_, ih2⟩
      show Does1 (stepM.bind fun _ => (pushM i).bind fun _ => (takeM 2).bind fun y => if y.getD 0 0 = y.getD 1 0 then denN (choiceL k) (d + 1) i else (pushM (y.getD 0 0)).bind fun _ => caseD (a :: l) (i + 1)) _ _ _
      refine Does1.bind (goes_step (by omega)) ?_
      refine Does1.bind (a := ()) (s := ⟨[n, (i : Int)], [], [], s + 1, f, 0⟩) (by unfold Does1 pushM; rw [if_neg (by simp)]; rfl) ?_
      refine Does1.bind (take_pair n i) ?_
      rw [if_neg (by show ¬ n = i; exact h)]
      exact Does1.bind (a := ()) (s := ⟨[n], [], [], s + 1, f, 0⟩) (by unfold Does1 pushM; rw [if_neg (by simp)]; rfl) ih
theorem mean_of1 {l : List NodeV} {n : Int} {f : Nat} {x : Bool} {t : Run} (h : Does1 (denN l l.length (l.length - 1)) ⟨[n], [], [], 0, f, 0⟩ x t) : meanF l 0 [n] f = ⟨t.st, 0, true, t.steps⟩ := by
  unfold meanF
  rw [if_neg (by simp)]
  have e : denN l l.length (l.length - 1) ⟨([n] : List Int).take (([n] : List Int).length - 0), ([n] : List Int).drop (([n] : List Int).length - 0), [], 0, f, 0⟩ = (.ok x, t) := h
  rw [e]
theorem denN_succ (l : List NodeV) (d k : Nat) : denN l (d + 1) k = nodeD (l.getD k NodeV.none) ((l.getD k NodeV.none).kids.map fun i => denN l d i.toNat) := rfl
theorem kind_case (ks : List Int) (kids : List Den) : kindD ⟨11, 0, ks⟩ kids = caseD kids 0 := rfl
/-- WHAT A CHOICE MEANS -/
theorem choice_mean (k : Nat) (hk : 1 ≤ k ∧ k ≤ 10) (n : Int) : ∃ s, meanF (choiceL k) 0 [n] 100 = ⟨[wantF k n], 0, true, s⟩ := by
  obtain ⟨j, rfl⟩ : ∃ j, k = j + 1 := ⟨k - 1, by omega⟩
  obtain ⟨t, h, h2⟩ := case_goes (j + 1) j n 100 j 0 1 (by omega) (by omega) (by omega)
  have htop : Does1 (denN (choiceL (j + 1)) (choiceL (j + 1)).length ((choiceL (j + 1)).length - 1)) ⟨[n], [], [], 0, 100, 0⟩ false t := by
    rw [choice_len, Nat.add_sub_cancel]
    rw [denN_succ, choice_case]
    refine goes_node (by decide) ?_
    rw [kind_case, List.map_map, List.range_eq_range']
    exact h
  refine ⟨t.steps, ?_⟩
  rw [mean_of1 htop, h2]
  rfl
/-- ... and it is right -/
def choiceOk (k : Nat) : Bool := rightB (choiceL (k + 1)) 0
theorem choice_right' : (List.range 10).all choiceOk = true := by kernel_rfl
theorem choice_right {k : Nat} (hk : 1 ≤ k ∧ k ≤ 10) : rightB (choiceL k) 0 = true := by
  obtain ⟨j, rfl⟩ : ∃ j, k = j + 1 := ⟨k - 1, by omega⟩
  exact List.all_eq_true.1 choice_right' j (List.mem_range.2 (by omega))
theorem choice_ok {k : Nat} (hk : 1 ≤ k ∧ k ≤ 10) : NodesOk (choiceL k) := by
  intro v hv
  rcases List.mem_append.1 hv with h | h
  · obtain ⟨i, hi, rfl⟩ := List.mem_map.1 h
    have := List.mem_range.1 hi
    exact ⟨by unfold Cell64; simp only; omega, by simp⟩
  · rw [List.mem_singleton] at h
    subst h
    exact ⟨by show Cell64 0; unfold Cell64; decide, by simp; omega⟩
/-- the leaving loop -/
theorem left_mean {m : Nat} (h : 1 ≤ m ∧ m ≤ 20) : ∃ c s, meanF (leftL (m : Int)) 0 [] 2000 = ⟨(List.range m).map Int.ofNat, c, true, s⟩ := by
  obtain ⟨j, rfl⟩ : ∃ j, m = j + 1 := ⟨m - 1, by omega⟩
  have h1 := List.all_eq_true.1 left_ok j (List.mem_range.2 (by omega))
  unfold leftOk at h1
  rw [show ((j : Int) + 1) = ((j + 1 : Nat) : Int) from rfl] at h1
  generalize meanF (leftL ((j + 1 : Nat) : Int)) 0 [] 2000 = v at h1 ⊢
  obtain ⟨st, c, done, s⟩ := v
  simp only [Bool.and_eq_true, decide_eq_true_eq] at h1
  exact ⟨c, s, by rw [h1.1, h1.2]⟩
def leftRight (k : Nat) : Bool := rightB (leftL ((k : Int) + 1)) 0
theorem left_right (x : Int) : rightB (leftL x) 0 = true := by kernel_rfl
theorem left_nodes_ok {x : Int} (hx : Cell64 x) : NodesOk (leftL x) := by
  intro v hv
  simp only [leftL, List.mem_cons, List.not_mem_nil, or_false] at hv
  rcases hv with rfl | rfl | rfl | rfl | rfl | rfl | rfl | rfl | rfl | rfl | rfl | rfl
  all_goals exact ⟨by first | exact hx | (unfold Cell64; decide), by simp⟩
end Go.Proofs.YtnhhflnanogpjaaGreatDoor
