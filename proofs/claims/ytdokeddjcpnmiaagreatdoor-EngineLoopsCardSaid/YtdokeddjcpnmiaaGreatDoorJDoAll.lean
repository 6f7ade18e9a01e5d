import Derived.Test.YtdokeddjcpnmiaaGreatDoorJDoB
import Derived.Test.YtdokeddjcpnmiaaGreatDoorJMapsA
/- stack's Do, at all its words; what is below what it takes stays. Printed by mkdoall.py. -/
namespace Go.Proofs.YtdokeddjcpnmiaaGreatDoor
open Go.RowKit

def farF (op : Int) (st : List Int) : Int × List Int :=
  if st.length = 0 ∨ ¬ IntKind.u64.wrap (st.getD (st.length - 1) 0) < (st.length - 1 : Nat) then (-4, st)
  else
    let n := st.length - 1
    let d := (st.getD n 0).toNat
    let y := st.getD (n - 1 - d) 0
    if op = 40 then (0, st.take n ++ [y]) else (0, (st.take n).take (n - 1 - d) ++ (st.take n).drop (n - d) ++ [y])
def doF (op : Int) (st : List Int) : Int × List Int :=
  if op = 40 ∨ op = 41 then farF op st
  else if op = 42 then (if st.length = 128 then (-3, st) else (0, st ++ [(st.length : Int)]))
  else
    let s := shapesF.getD (op - 28).toNat (0, [])
    if st.length < s.1 then (-4, st)
    else if op = 35 ∧ st.getD (st.length - 1) 0 = 0 then (0, st)
    else if 128 < st.length - s.1 + s.2.length then (-3, st)
    else (0, st.take (st.length - s.1) ++ s.2.map fun i => (st.drop (st.length - s.1)).getD i 0)
def DoSays (w : World) (b : Nat) (F : List Nat) (op : Int) (r : Int × List Int) : Prop :=
  Calls Tryz.prog 96 #[.pointer (some ⟨b, 0, none⟩), .int .i64 op] w fun e w' =>
    ∃ F', e = .returned (.int .i64 r.1) ∧ StackAt w' b F' r.2 ∧ Touch F w w' ∧ Sub w F F'

theorem DoSays.same {w : World} {b : Nat} {F : List Nat} {L : List Int} {op e0 : Int} (h : StackAt w b F L)
    (k : Calls Tryz.prog 96 #[.pointer (some ⟨b, 0, none⟩), .int .i64 op] w fun e w' => e = .returned (.int .i64 e0) ∧ Touch [] w w') : DoSays w b F op (e0, L) := by
  refine k.mono ?_
  rintro _ w' ⟨rfl, t⟩
  exact ⟨F, rfl, h.touch t (by simp), t.mono (by simp), Sub.refl _ _⟩

theorem far_any (w : World) (b : Nat) (F : List Nat) (L : List Int) (h : StackAt w b F L) (op : Int) (hop : op = 40 ∨ op = 41) (hL : L.length ≤ 128) (hc : ∀ x ∈ L, Cell64 x) :
    Calls Tryz.prog 121 #[.pointer (some ⟨b, 0, none⟩), .int .i64 op] w fun e w' =>
      ∃ F', e = .returned (.int .i64 (farF op L).1) ∧ StackAt w' b F' (farF op L).2 ∧ Touch F w w' ∧ Sub w F F' := by
  have same : ∀ {e0 : Int}, (Calls Tryz.prog 121 #[.pointer (some ⟨b, 0, none⟩), .int .i64 op] w fun e w' => e = .returned (.int .i64 e0) ∧ Touch [] w w') →
      Calls Tryz.prog 121 #[.pointer (some ⟨b, 0, none⟩), .int .i64 op] w fun e w' => ∃ F', e = .returned (.int .i64 e0) ∧ StackAt w' b F' L ∧ Touch F w w' ∧ Sub w F F' := fun k => k.mono (by
    rintro _ w' ⟨rfl, t⟩
    exact ⟨F, rfl, h.touch t (by simp), t.mono (by simp), Sub.refl _ _⟩)
  by_cases h0 : L.length = 0
  · have e : farF op L = (-4, L) := by unfold farF; rw [if_pos (.inl h0)]
    rw [e]
    have hL0 : L = [] := List.eq_nil_of_length_eq_zero h0
    subst hL0
    exact same (far_none w b F op h)
  obtain ⟨n, hn⟩ : ∃ n, L.length = n + 1 := ⟨L.length - 1, by omega⟩
  obtain ⟨x, hx⟩ : ∃ x, L.getD n 0 = x := ⟨_, rfl⟩
  have hcx : Cell64 x := hc x (by rw [← hx, List.getD, List.getElem?_eq_getElem (by omega)]; exact List.getElem_mem (by omega))
  by_cases hu : IntKind.u64.wrap x < n
  · have hx2 : x = x.toNat ∧ x.toNat < n := by
      unfold Cell64 at hcx
      rw [IntKind.wrap_u64] at hu
      omega
    obtain ⟨d, hd⟩ : ∃ d, x.toNat = d := ⟨_, rfl⟩
    rw [hd] at hx2
    obtain ⟨hxd, hdn⟩ := hx2
    have e : farF op L = (if op = 40 then (0, L.take n ++ [L.getD (n - 1 - d) 0]) else (0, (L.take n).take (n - 1 - d) ++ (L.take n).drop (n - d) ++ [L.getD (n - 1 - d) 0])) := by
      unfold farF
      rw [if_neg]
      · simp only [hn, Nat.add_sub_cancel, hx, hd]
      · simp only [hn, Nat.add_sub_cancel, hx]
        simp [hu]
    rw [e]
    rcases hop with rfl | rfl
    · rw [if_pos rfl]
      exact (far_pick w b F L h n hn (by omega) d (hx.trans hxd) hdn).mono (by
        rintro _ w' ⟨rfl, hs, t⟩
        exact ⟨F, rfl, hs, t, Sub.refl _ _⟩)
    · rw [if_neg (by decide)]
      exact far_roll w b F L h n hn (by omega) d (hx.trans hxd) hdn
  · have e : farF op L = (-4, L) := by
      unfold farF
      rw [if_pos]
      refine .inr ?_
      rw [hn, Nat.add_sub_cancel, hx]
      exact hu
    rw [e]
    exact same (far_under w b F L op h n hn (by omega) x hx hu)

set_option maxHeartbeats 1000000 in
theorem Do_far (w : World) (b : Nat) (F : List Nat) (op : Int) (hop : op = 40 ∨ op = 41) (r : Int × List Int)
    (hf : Calls Tryz.prog 121 #[.pointer (some ⟨b, 0, none⟩), .int .i64 op] w fun e w' => ∃ F', e = .returned (.int .i64 r.1) ∧ StackAt w' b F' r.2 ∧ Touch F w w' ∧ Sub w F F') : DoSays w b F op r := by
  unfold DoSays
  rcases hop with rfl | rfl
  all_goals go_enter Tryz.func96, Tryz.ntmps96
  all_goals go_wp2_with fail
  all_goals refine hf.mono ?_
  all_goals rintro _ w1 ⟨F', rfl, hs, t1, hsub⟩
  all_goals go_wp2
  all_goals go_ret
  all_goals exact ⟨F', rfl, hs, t1, hsub⟩

theorem shape_small : ∀ k, k < 12 → (shapesF.getD k (0, [])).1 ≤ 4 ∧ (shapesF.getD k (0, [])).2.length ≤ 6 ∧ (∀ i ∈ (shapesF.getD k (0, [])).2, i < (shapesF.getD k (0, [])).1) ∧ 1 ≤ (shapesF.getD k (0, [])).1 := by
  decide

theorem Do_any (w : World) (b : Nat) (F : List Nat) (L : List Int) (h : StackAt w b F L) (op : Int) (h1 : 28 ≤ op) (h2 : op ≤ 42) (hL : L.length ≤ 128) (hc : ∀ x ∈ L, Cell64 x) : DoSays w b F op (doF op L) := by
  unfold doF
  by_cases hf : op = 40 ∨ op = 41
  · rw [if_pos hf]
    exact Do_far w b F op hf _ (far_any w b F L h op hf hL hc)
  rw [if_neg hf]
  by_cases h42 : op = 42
  · rw [if_pos h42]
    subst h42
    by_cases hl : L.length = 128
    · rw [if_pos hl]
      exact .same h (Do_depth_over w b F L h hl)
    · rw [if_neg hl]
      exact Do_depth w b F L h (by omega)
  rw [if_neg h42]
  obtain ⟨k, hk, rfl⟩ : ∃ k : Nat, k < 12 ∧ op = (28 + k : Nat) := ⟨(op - 28).toNat, by omega, by omega⟩
  have hS := Shape_any k hk
  obtain ⟨s1, s2, s3, s4⟩ := shape_small k hk
  rw [show (((28 + k : Nat) : Int) - 28).toNat = k by omega]
  generalize shapesF.getD k (0, []) = s at *
  obtain ⟨t, ps⟩ := s
  simp only at hS s1 s2 s3 s4 ⊢
  by_cases c1 : L.length < t
  · rw [if_pos c1]
    exact .same h (Do_under w b F L h _ t ps hS (by omega) (by omega) h42 c1)
  rw [if_neg c1]
  by_cases h35 : ((28 + k : Nat) : Int) = 35
  · have hk7 : k = 7 := by omega
    subst hk7
    by_cases c2 : L.getD (L.length - 1) 0 = 0
    · rw [if_pos ⟨h35, c2⟩]
      exact .same h (Do_qzero w b F L h t ps hS s1 _ rfl c2 s4 hL (by omega))
    · rw [if_neg (fun e => c2 e.2)]
      by_cases c3 : 128 < L.length - t + ps.length
      · rw [if_pos c3]
        exact .same h (Do_qover w b F L h t ps hS s1 s2 _ rfl c2 s4 hL (by omega) c3)
      · rw [if_neg c3]
        exact Do_qdup w b F L h t ps hS s3 s1 s2 _ rfl c2 s4 hL (by omega) (by omega)
  · rw [if_neg (fun e => h35 e.1)]
    by_cases c3 : 128 < L.length - t + ps.length
    · rw [if_pos c3]
      exact .same h (Do_over w b F L h _ t ps hS s1 s2 (by omega) (by omega) h42 h35 hL (by omega) c3)
    · rw [if_neg c3]
      exact Do_shape w b F L h _ t ps hS s3 s1 s2 (by omega) (by omega) h42 h35 hL (by omega) (by omega)
theorem farF_err (op : Int) (L : List Int) : (farF op L).1 = 0 ∨ ((farF op L).1 = -4 ∧ (farF op L).2 = L) := by
  unfold farF
  split
  · exact .inr ⟨rfl, rfl⟩
  · simp only []
    split
    · exact .inl rfl
    · exact .inl rfl
theorem doF_err (op : Int) (L : List Int) : (doF op L).1 = 0 ∨ (((doF op L).1 = -4 ∨ (doF op L).1 = -3) ∧ (doF op L).2 = L) := by
  unfold doF
  split
  · rcases farF_err op L with h | ⟨h, k⟩
    · exact .inl h
    · exact .inr ⟨.inl h, k⟩
  · split
    · split
      · exact .inr ⟨.inr rfl, rfl⟩
      · exact .inl rfl
    · simp only []
      split
      · exact .inr ⟨.inl rfl, rfl⟩
      · split
        · exact .inl rfl
        · split
          · exact .inr ⟨.inr rfl, rfl⟩
          · exact .inl rfl
theorem getD_app (x y : List Int) (i : Nat) (z : Int) : (x ++ y).getD (x.length + i) z = y.getD i z := by
  simp [List.getD, List.getElem?_append_right]
theorem drop_app (x y : List Int) (i : Nat) : (x ++ y).drop (x.length + i) = y.drop i := by
  rw [List.drop_append, List.drop_eq_nil_of_le (by omega), List.nil_append]
  congr 1
  omega
theorem take_app (x y : List Int) (i : Nat) : (x ++ y).take (x.length + i) = x ++ y.take i := by
  rw [List.take_append, List.take_of_length_le (by omega)]
  congr 2
  omega
theorem farF_below (op : Int) (x y : List Int) (hc : ∀ z ∈ y, Cell64 z) (hl : x.length + y.length ≤ 120) (h : (farF op y).1 ≠ -4) : farF op (x ++ y) = ((farF op y).1, x ++ (farF op y).2) := by
  by_cases h0 : y.length = 0 ∨ ¬ IntKind.u64.wrap (y.getD (y.length - 1) 0) < (y.length - 1 : Nat)
  · exact absurd (by unfold farF; rw [if_pos h0]) h
  · obtain ⟨m, hm⟩ : ∃ m, y.length = m + 1 := ⟨y.length - 1, by omega⟩
    have hl2 : (x ++ y).length = x.length + m + 1 := by rw [List.length_append, hm]; omega
    have hg : (x ++ y).getD (x.length + m) 0 = y.getD m 0 := getD_app x y m 0
    rw [hm, Nat.add_sub_cancel] at h0
    have hcm : Cell64 (y.getD m 0) := hc _ (by rw [List.getD, List.getElem?_eq_getElem (by omega)]; exact List.getElem_mem (by omega))
    obtain ⟨v, hv⟩ : ∃ v, y.getD m 0 = v := ⟨_, rfl⟩
    rw [hv] at h0 hcm hg
    have hd : v.toNat < m ∧ IntKind.u64.wrap v < m := by
      unfold Cell64 at hcm
      rw [IntKind.wrap_u64] at h0 ⊢
      omega
    have e1 : farF op y = (if op = 40 then (0, y.take m ++ [y.getD (m - 1 - v.toNat) 0]) else (0, (y.take m).take (m - 1 - v.toNat) ++ (y.take m).drop (m - v.toNat) ++ [y.getD (m - 1 - v.toNat) 0])) := by
      unfold farF
      rw [if_neg (by rw [hm, Nat.add_sub_cancel, hv]; omega)]
      simp only [hm, Nat.add_sub_cancel, hv]
    have e2 : farF op (x ++ y) = (if op = 40 then (0, (x ++ y).take (x.length + m) ++ [(x ++ y).getD (x.length + m - 1 - v.toNat) 0]) else (0, ((x ++ y).take (x.length + m)).take (x.length + m - 1 - v.toNat) ++ ((x ++ y).take (x.length + m)).drop (x.length + m - v.toNat) ++ [(x ++ y).getD (x.length + m - 1 - v.toNat) 0])) := by
      unfold farF
      rw [if_neg (by rw [hl2, Nat.add_sub_cancel, hg]; omega)]
      simp only [hl2, Nat.add_sub_cancel, hg]
    rw [e1, e2]
    obtain ⟨d, hdd⟩ : ∃ d, v.toNat = d := ⟨_, rfl⟩
    rw [hdd] at hd ⊢
    rw [show x.length + m - 1 - d = x.length + (m - 1 - d) by omega, show x.length + m - d = x.length + (m - d) by omega, getD_app, take_app, take_app, drop_app]
    split <;> simp
theorem doF_below (op : Int) (x y : List Int) (h1 : 28 ≤ op) (h2 : op ≤ 41) (hc : ∀ z ∈ y, Cell64 z) (hl : x.length + y.length ≤ 120) (h : (doF op y).1 ≠ -4) : doF op (x ++ y) = ((doF op y).1, x ++ (doF op y).2) := by
  unfold doF at h ⊢
  by_cases hf : op = 40 ∨ op = 41
  · rw [if_pos hf] at h ⊢
    rw [if_pos hf]
    exact farF_below op x y hc hl h
  · rw [if_neg hf] at h ⊢
    rw [if_neg hf, if_neg (show ¬ op = 42 by omega)]
    rw [if_neg (show ¬ op = 42 by omega)] at h ⊢
    obtain ⟨k, hk, rfl⟩ : ∃ k : Nat, k < 12 ∧ op = (28 + k : Nat) := ⟨(op - 28).toNat, by omega, by omega⟩
    obtain ⟨s1, s2, s3, s4⟩ := shape_small k hk
    rw [show (((28 + k : Nat) : Int) - 28).toNat = k by omega] at h ⊢
    generalize shapesF.getD k (0, []) = s at *
    obtain ⟨t, ps⟩ := s
    simp only at s1 s2 s3 s4 h ⊢
    by_cases c1 : y.length < t
    · rw [if_pos c1] at h
      exact absurd rfl h
    rw [if_neg c1] at h ⊢
    have e0 : (x ++ y).length = x.length + y.length := List.length_append
    rw [e0, if_neg (by omega)]
    have e1 : x.length + y.length - 1 = x.length + (y.length - 1) := by omega
    have e2 : x.length + y.length - t = x.length + (y.length - t) := by omega
    rw [e1, e2, getD_app, take_app, drop_app]
    by_cases c2 : ((28 + k : Nat) : Int) = 35 ∧ y.getD (y.length - 1) 0 = 0
    · rw [if_pos c2, if_pos c2]
    · rw [if_neg c2, if_neg c2, if_neg (by omega), if_neg (by omega)]
      simp
end Go.Proofs.YtdokeddjcpnmiaaGreatDoor
