/- The sums of TreeSums: the three loops. -/
import Derived.Test.YtnhhflnanogpjaaGreatDoorSumsLaw
namespace Go.Proofs.YtnhhflnanogpjaaGreatDoor
open Go.RowKit

variable {α β : Type}
theorem loop_end {round : α → Mn (α ⊕ β)} {k : Nat} {a : α} {z : β} {st lc lp : List Int} {s f b : Nat} {t : Run} (h : s < f) (hr : Does1 (round a) ⟨st, lc, lp, s + 1, f, b⟩ (.inr z) t) : Does1 (loopM round (k + 1) a) ⟨st, lc, lp, s, f, b⟩ z t :=
  (goes_step h).bind (hr.bind (Does1.pure z t))
theorem loop_next {round : α → Mn (α ⊕ β)} {k : Nat} {a a' : α} {z : β} {st lc lp : List Int} {s f b : Nat} {r t : Run} (h : s < f) (hr : Does1 (round a) ⟨st, lc, lp, s + 1, f, b⟩ (.inl a') r) (hk : Does1 (loopM round k a') r z t) : Does1 (loopM round (k + 1) a) ⟨st, lc, lp, s, f, b⟩ z t :=
  (goes_step h).bind (hr.bind hk)
theorem add_small {x y : Int} (hx : 0 ≤ x) (hy : 0 ≤ y) (hx2 : x ≤ 1000000) (hy2 : y ≤ 1000000) : twoF 11 x y = x + y := by
  show wrap64 (x + y) = x + y
  unfold wrap64
  omega
theorem inc_small {x : Int} (hx : 0 ≤ x) (hx2 : x ≤ 1000000) : oneF 4 x = (x + 1, 0) := by
  show (wrap64 (x + 1), (0 : Int)) = (x + 1, 0)
  unfold wrap64
  congr 1
  omega
def sumF : Nat → Int → Int
  | 0, _ => 0
  | j + 1, i => i + sumF j (i + 1)
theorem sumF_small : ∀ (j : Nat) (i : Int), 0 ≤ i → 0 ≤ sumF j i ∧ sumF j i ≤ j * (i + j)
  | 0, _, _ => by simp [sumF]
  | j + 1, i, h => by
    obtain ⟨h1, h2⟩ := sumF_small j (i + 1) (by omega)
    refine ⟨by simp only [sumF]; omega, ?_⟩
    simp only [sumF]
    have e : (((j + 1 : Nat) : Int)) * (i + ((j + 1 : Nat) : Int)) = (j : Int) * (i + 1 + j) + (i + j + 1) := by
      rw [Int.natCast_add, Int.add_mul, Int.natCast_one, Int.one_mul]
      congr 1
      · congr 1; omega
      · omega
    rw [e]
    omega

theorem do_body (a e : Int) {S i : Int} {s f b : Nat} (h : s + 3 ≤ f) (hS : 0 ≤ S ∧ S ≤ 1000000) (hi : 0 ≤ i ∧ i ≤ 1000000) :
    Does1 (denN (doL a e) 6 5) ⟨[S], [], [i], s, f, b⟩ false ⟨[S + i], [], [i], s + 3, f, b⟩ := by
  show Does1 (nodeD ⟨3, 0, [3, 4]⟩ [denN (doL a e) 5 3, denN (doL a e) 5 4]) _ _ _
  refine goes_node (by omega) ?_
  show Does1 (seqD [denN (doL a e) 5 3, denN (doL a e) 5 4]) _ _ _
  refine goes_seq (goes_index (lp := []) rfl (by omega) (by simp)) (goes_seq ?_ (goes_seq_nil _))
  have h2 := goes_two (l := doL a e) (d := 4) (k := 4) (op := 11) (x := S) (y := i) (st := []) (lc := []) (lp := [i]) (s := s + 1 + 1) (f := f) (b := b) rfl (by decide) (by omega) (by decide)
  rw [add_small hS.1 hi.1 hS.2 hi.2] at h2
  exact h2
theorem do_round (a e : Int) {S i : Int} {s f b : Nat} (h : s + 3 ≤ f) (hS : 0 ≤ S ∧ S ≤ 1000000) (hi : 0 ≤ i ∧ i ≤ 1000000) (he : i < e ∧ e ≤ 1000000) :
    Does1 (doRound (denN (doL a e) 6 5) e i) ⟨[S], [], [], s, f, b⟩ (if i + 1 = e then .inr () else .inl (i + 1)) ⟨[S + i], [], [], s + 3, f, b⟩ := by
  refine Does1.bind (a := false) (s := ⟨[S + i], [], [], s + 3, f, b⟩) ?_ ?_
  · have hb := do_body a e (b := b) h hS hi
    unfold Does1 at hb ⊢
    unfold inLoop
    show (match denN (doL a e) 6 5 ⟨[S], [], [i], s, f, b⟩ with
      | (.ok x, s') => (Out.ok x, ({ s' with loops := s'.loops.take 0 } : Run))
      | (.bad x o, s') => (.bad x o, s')) = _
    rw [hb]
    rfl
  · show (Out.ok _, _) = (Out.ok _, _)
    have e1 : wrap64 (i - e) = i - e := by unfold wrap64; omega
    have e2 : wrap64 (i + 1) = i + 1 := by unfold wrap64; omega
    rw [e1, e2]
    by_cases hh : i + 1 = e
    · rw [if_pos hh, if_pos (by simp; omega)]
    · rw [if_neg hh, if_neg (by simp; omega)]
theorem do_loop (a e : Int) (f b : Nat) (he : e ≤ 1000) : ∀ (j k : Nat) (S i : Int) (s : Nat), j < k → i + (j + 1 : Nat) = e → s + 4 * (j + 1) ≤ f → 0 ≤ i → 0 ≤ S → S + 1000 * (j + 1) ≤ 1000000 →
    Does1 (loopM (doRound (denN (doL a e) 6 5) e) k i) ⟨[S], [], [], s, f, b⟩ () ⟨[S + sumF (j + 1) i], [], [], s + 4 * (j + 1), f, b⟩
  | _, 0, _, _, _, h, _, _, _, _, _ => by omega
  | 0, k + 1, S, i, s, h, hi, hs, h0, hS, hS2 => by
    have hr := do_round a e (S := S) (i := i) (s := s + 1) (f := f) (b := b) (by omega) ⟨hS, by omega⟩ ⟨h0, by omega⟩ (by omega)
    rw [if_pos (by omega)] at hr
    have := loop_end (k := k) (show s < f by omega) hr
    simpa [sumF] using this
  | j + 1, k + 1, S, i, s, h, hi, hs, h0, hS, hS2 => by
    have hr := do_round a e (S := S) (i := i) (s := s + 1) (f := f) (b := b) (by omega) ⟨hS, by omega⟩ ⟨h0, by omega⟩ (by omega)
    rw [if_neg (by omega)] at hr
    have ih := do_loop a e f b he j k (S + i) (i + 1) (s + 1 + 3) (by omega) (by omega) (by omega) (by omega) (by omega) (by omega)
    have := loop_next (show s < f by omega) hr ih
    have e1 : S + i + sumF (j + 1) (i + 1) = S + sumF (j + 1 + 1) i := by simp only [sumF]; omega
    have e2 : s + 1 + 3 + 4 * (j + 1) = s + 4 * (j + 1 + 1) := by omega
    rw [e1, e2] at this
    exact this
theorem take_two {st lc lp : List Int} {s f b : Nat} (x y : Int) : Does1 (takeM 2) ⟨st ++ [x, y], lc, lp, s, f, b⟩ [x, y] ⟨st, lc, lp, s, f, b⟩ := by
  unfold Does1 takeM
  rw [if_neg (by simp)]
  simp
theorem loopD_goes {round : α → Mn (α ⊕ β)} {a : α} {z : β} {st lc lp : List Int} {s f b k : Nat} {t : Run} (hk : f + 1 - s = k) (h : Does1 (loopM round k a) ⟨st, lc, lp, s, f, b⟩ z t) : Does1 (loopD round a) ⟨st, lc, lp, s, f, b⟩ z t := by
  subst hk
  exact h
theorem mean_of {l : List NodeV} {f : Nat} {x : Bool} {t : Run} (h : Does1 (denN l l.length (l.length - 1)) ⟨[], [], [], 0, f, 0⟩ x t) : meanF l 0 [] f = ⟨t.st, 0, true, t.steps⟩ := by
  unfold meanF
  rw [if_neg (by simp)]
  have e : denN l l.length (l.length - 1) ⟨([] : List Int).take (([] : List Int).length - 0), ([] : List Int).drop (([] : List Int).length - 0), [], 0, f, 0⟩ = (.ok x, t) := h
  rw [e]
theorem do_mean (a : Int) (n : Nat) (ha : 0 ≤ a ∧ a ≤ 100) (hn : n < 30) : ∃ k, meanF (doL a (a + (n + 1 : Nat))) 0 [] 2000 = ⟨[sumF (n + 1) a], 0, true, k⟩ := by
  obtain ⟨e, he⟩ : ∃ e : Int, a + (n + 1 : Nat) = e := ⟨_, rfl⟩
  rw [he]
  have hdo : Does1 (denN (doL a e) 7 6) ⟨[0, e, a], [], [], 4, 2000, 0⟩ false ⟨[0 + sumF (n + 1) a], [], [], 5 + 4 * (n + 1), 2000, 0⟩ := by
    show Does1 (nodeD ⟨5, 0, [5]⟩ [denN (doL a e) 6 5]) _ _ _
    refine goes_node (by decide) ?_
    show Does1 (plainD (doU (denN (doL a e) 6 5))) _ _ _
    refine Does1.bind (a := ()) ?_ rfl
    refine Does1.bind (a := [e, a]) (s := ⟨[0], [], [], 5, 2000, 0⟩) (take_two (st := [0]) e a) ?_
    rw [if_neg (by show ¬ e = a; omega)]
    refine loopD_goes (k := 1996) rfl ?_
    exact do_loop a e 2000 0 (by omega) n 1996 0 a 5 (by omega) he (by omega) ha.1 (by decide) (by omega)
  have htop : Does1 (denN (doL a e) 8 7) ⟨[], [], [], 0, 2000, 0⟩ false ⟨[0 + sumF (n + 1) a], [], [], 5 + 4 * (n + 1), 2000, 0⟩ := by
    show Does1 (nodeD ⟨3, 0, [0, 1, 2, 6]⟩ [denN (doL a e) 7 0, denN (doL a e) 7 1, denN (doL a e) 7 2, denN (doL a e) 7 6]) _ _ _
    refine goes_node (by decide) ?_
    show Does1 (seqD [denN (doL a e) 7 0, denN (doL a e) 7 1, denN (doL a e) 7 2, denN (doL a e) 7 6]) _ _ _
    exact goes_seq (goes_lit (st := []) rfl (by decide) (by simp)) (goes_seq (goes_lit (st := [0]) rfl (by decide) (by simp)) (goes_seq (goes_lit (st := [0, e]) rfl (by decide) (by simp)) (goes_seq hdo (goes_seq_nil _))))
  refine ⟨5 + 4 * (n + 1), ?_⟩
  have := mean_of (l := doL a e) htop
  rw [this, Int.zero_add]
end Go.Proofs.YtnhhflnanogpjaaGreatDoor
