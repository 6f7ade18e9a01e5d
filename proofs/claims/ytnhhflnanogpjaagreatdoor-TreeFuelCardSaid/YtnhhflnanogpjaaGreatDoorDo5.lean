/- The contract of stack's Do, at all its words. -/
import Derived.Test.YtnhhflnanogpjaaGreatDoorTreePure
namespace Go.Proofs.YtnhhflnanogpjaaGreatDoor
open Go.RowKit

def DoSays (w : World) (b : Nat) (F : List Nat) (op : Int) (r : Int × List Int) : Prop :=
  Calls Tryz.prog 62 #[.pointer (some ⟨b, 0, none⟩), .int .i64 op] w fun e w' =>
    ∃ F', e = .returned (.int .i64 r.1) ∧ StackAt w' b F' r.2 ∧ Touch F w w' ∧ Sub w F F'

theorem DoSays.same {w : World} {b : Nat} {F : List Nat} {L : List Int} {op e0 : Int} (h : StackAt w b F L)
    (k : Calls Tryz.prog 62 #[.pointer (some ⟨b, 0, none⟩), .int .i64 op] w fun e w' => e = .returned (.int .i64 e0) ∧ Touch [] w w') : DoSays w b F op (e0, L) := by
  refine k.mono ?_
  rintro _ w' ⟨rfl, t⟩
  exact ⟨F, rfl, h.touch t (by simp), t.mono (by simp), Sub.refl _ _⟩

theorem far_any (w : World) (b : Nat) (F : List Nat) (L : List Int) (h : StackAt w b F L) (op : Int) (hop : op = 40 ∨ op = 41) (hL : L.length ≤ 128) (hc : ∀ x ∈ L, Cell64 x) :
    Calls Tryz.prog 78 #[.pointer (some ⟨b, 0, none⟩), .int .i64 op] w fun e w' =>
      ∃ F', e = .returned (.int .i64 (farF op L).1) ∧ StackAt w' b F' (farF op L).2 ∧ Touch F w w' ∧ Sub w F F' := by
  have same : ∀ {e0 : Int}, (Calls Tryz.prog 78 #[.pointer (some ⟨b, 0, none⟩), .int .i64 op] w fun e w' => e = .returned (.int .i64 e0) ∧ Touch [] w w') →
      Calls Tryz.prog 78 #[.pointer (some ⟨b, 0, none⟩), .int .i64 op] w fun e w' => ∃ F', e = .returned (.int .i64 e0) ∧ StackAt w' b F' L ∧ Touch F w w' ∧ Sub w F F' := fun k => k.mono (by
    rintro _ w' ⟨rfl, t⟩
    exact ⟨F, rfl, h.touch t (by simp), t.mono (by simp), Sub.refl _ _⟩)
  by_cases h0 : L.length = 0
  · have e : farF op L = (-4, L) := by unfold farF; rw [if_pos (.inl h0)]
    rw [e]
    have hL0 : L = [] := List.eq_nil_of_length_eq_zero h0
    subst hL0
    exact same (far_none w b F op h)
  obtain ⟨n, hn⟩ : ∃ n, L.length = n + 1 := ⟨L.length - 1, by omega⟩
  obtain ⟨x, hx⟩ : ∃ x, L.getD n 0 = x := ⟨_, rfl⟩
  have hcx : Cell64 x := hc x (by rw [← hx, List.getD, List.getElem?_eq_getElem (by omega)]; exact List.getElem_mem (by omega))
  by_cases hu : IntKind.u64.wrap x < n
  · have hx2 : x = x.toNat ∧ x.toNat < n := by
      unfold Cell64 at hcx
      rw [IntKind.wrap_u64] at hu
      omega
    obtain ⟨d, hd⟩ : ∃ d, x.toNat = d := ⟨_, rfl⟩
    rw [hd] at hx2
    obtain ⟨hxd, hdn⟩ := hx2
    have e : farF op L = (if op = 40 then (0, L.take n ++ [L.getD (n - 1 - d) 0]) else (0, (L.take n).take (n - 1 - d) ++ (L.take n).drop (n - d) ++ [L.getD (n - 1 - d) 0])) := by
      unfold farF
      rw [if_neg]
      · simp only [hn, Nat.add_sub_cancel, hx, hd]
      · simp only [hn, Nat.add_sub_cancel, hx]
        simp [hu]
    rw [e]
    rcases hop with rfl | rfl
    · rw [if_pos rfl]
      exact (far_pick w b F L h n hn (by omega) d (hx.trans hxd) hdn).mono (by
        rintro _ w' ⟨rfl, hs, t⟩
        exact ⟨F, rfl, hs, t, Sub.refl _ _⟩)
    · rw [if_neg (by decide)]
      exact far_roll w b F L h n hn (by omega) d (hx.trans hxd) hdn
  · have e : farF op L = (-4, L) := by
      unfold farF
      rw [if_pos]
      refine .inr ?_
      rw [hn, Nat.add_sub_cancel, hx]
      exact hu
    rw [e]
    exact same (far_under w b F L op h n hn (by omega) x hx hu)

set_option maxHeartbeats 1000000 in
theorem Do_far (w : World) (b : Nat) (F : List Nat) (op : Int) (hop : op = 40 ∨ op = 41) (r : Int × List Int)
    (hf : Calls Tryz.prog 78 #[.pointer (some ⟨b, 0, none⟩), .int .i64 op] w fun e w' => ∃ F', e = .returned (.int .i64 r.1) ∧ StackAt w' b F' r.2 ∧ Touch F w w' ∧ Sub w F F') : DoSays w b F op r := by
  unfold DoSays
  rcases hop with rfl | rfl
  all_goals go_enter Tryz.func62, Tryz.ntmps62
  all_goals go_wp2_with fail
  all_goals refine hf.mono ?_
  all_goals rintro _ w1 ⟨F', rfl, hs, t1, hsub⟩
  all_goals go_wp2
  all_goals go_ret
  all_goals exact ⟨F', rfl, hs, t1, hsub⟩

theorem shape_small : ∀ k, k < 12 → (shapesF.getD k (0, [])).1 ≤ 4 ∧ (shapesF.getD k (0, [])).2.length ≤ 6 ∧ (∀ i ∈ (shapesF.getD k (0, [])).2, i < (shapesF.getD k (0, [])).1) ∧ 1 ≤ (shapesF.getD k (0, [])).1 := by
  decide

theorem Do_any (w : World) (b : Nat) (F : List Nat) (L : List Int) (h : StackAt w b F L) (op : Int) (h1 : 28 ≤ op) (h2 : op ≤ 42) (hL : L.length ≤ 128) (hc : ∀ x ∈ L, Cell64 x) : DoSays w b F op (doF op L) := by
  unfold doF
  by_cases hf : op = 40 ∨ op = 41
  · rw [if_pos hf]
    exact Do_far w b F op hf _ (far_any w b F L h op hf hL hc)
  rw [if_neg hf]
  by_cases h42 : op = 42
  · rw [if_pos h42]
    subst h42
    by_cases hl : L.length = 128
    · rw [if_pos hl]
      exact .same h (Do_depth_over w b F L h hl)
    · rw [if_neg hl]
      exact Do_depth w b F L h (by omega)
  rw [if_neg h42]
  obtain ⟨k, hk, rfl⟩ : ∃ k : Nat, k < 12 ∧ op = (28 + k : Nat) := ⟨(op - 28).toNat, by omega, by omega⟩
  have hS := Shape_any k hk
  obtain ⟨s1, s2, s3, s4⟩ := shape_small k hk
  rw [show (((28 + k : Nat) : Int) - 28).toNat = k by omega]
  generalize shapesF.getD k (0, []) = s at *
  obtain ⟨t, ps⟩ := s
  simp only at hS s1 s2 s3 s4 ⊢
  by_cases c1 : L.length < t
  · rw [if_pos c1]
    exact .same h (Do_under w b F L h _ t ps hS (by omega) (by omega) h42 c1)
  rw [if_neg c1]
  by_cases h35 : ((28 + k : Nat) : Int) = 35
  · have hk7 : k = 7 := by omega
    subst hk7
    by_cases c2 : L.getD (L.length - 1) 0 = 0
    · rw [if_pos ⟨h35, c2⟩]
      exact .same h (Do_qzero w b F L h t ps hS s1 _ rfl c2 s4 hL (by omega))
    · rw [if_neg (fun e => c2 e.2)]
      by_cases c3 : 128 < L.length - t + ps.length
      · rw [if_pos c3]
        exact .same h (Do_qover w b F L h t ps hS s1 s2 _ rfl c2 s4 hL (by omega) c3)
      · rw [if_neg c3]
        exact Do_qdup w b F L h t ps hS s3 s1 s2 _ rfl c2 s4 hL (by omega) (by omega)
  · rw [if_neg (fun e => h35 e.1)]
    by_cases c3 : 128 < L.length - t + ps.length
    · rw [if_pos c3]
      exact .same h (Do_over w b F L h _ t ps hS s1 s2 (by omega) (by omega) h42 h35 hL (by omega) c3)
    · rw [if_neg c3]
      exact Do_shape w b F L h _ t ps hS s3 s1 s2 (by omega) (by omega) h42 h35 hL (by omega) (by omega)
end Go.Proofs.YtnhhflnanogpjaaGreatDoor
