import Derived.Test.YtkbchpaofmlhgaaGreatDoorJPairX
import Derived.Test.YtkbchpaofmlhgaaGreatDoorJPairD2
import Derived.Test.YtkbchpaofmlhgaaGreatDoorJCellOps
import Derived.Test.YtkbchpaofmlhgaaGreatDoorJRlX
import Derived.Test.YtkbchpaofmlhgaaGreatDoorJMapsA
/- More operations of prim's map of pairs, each at any cells: its functions. Printed by pairops.py. -/
namespace Go.Proofs.YtkbchpaofmlhgaaGreatDoor
open Go.RowKit

theorem mulP_cell (a b : Int) : Cell64 (mulP a b).1 ∧ Cell64 (mulP a b).2 := ⟨wrap64_cell _, wrap64_cell _⟩
/-- what is left, the quotient, and how it went -/
def divModT (a b : Int) : (Int × Int) × Int := (((twoR 15 a b).1, (twoR 14 a b).1), (twoR 14 a b).2)
def tabP14 (ad c : Nat) (q0 q1 q2 x y e : Int) : List (Nat × Nat × Value) := [(0, 5, (.slice (some ⟨ad, 0, none⟩) 3 c)), (1, 6, (.agg #[.int .i64 q0, .int .i64 q1])), (2, 7, (.slice (some ⟨ad, 0, none⟩) 3 c)), (3, 8, (.pointer (some ⟨ad, 2, none⟩))), (4, 9, (.int .i64 q2)), (5, 10, (.tuple #[.int .i64 x, .int .i64 y, .int .i64 e])), (6, 11, (.int .i64 x)), (7, 12, (.int .i64 y)), (8, 13, (.int .i64 e)), (9, 2, (.int .i64 x)), (10, 3, (.int .i64 y)), (11, 4, (.int .i64 e))]
set_option maxRecDepth 100000 in
set_option maxHeartbeats 1000000 in
theorem ps14 (W : World) (ad c : Nat) (q0 q1 q2 : Int) (c0 : W.cell? ⟨ad, 0, none⟩ = some (.int .i64 q0)) (c1 : W.cell? ⟨ad, 1, none⟩ = some (.int .i64 q1)) (c2 : W.cell? ⟨ad, 2, none⟩ = some (.int .i64 q2)) (k0 : Cell64 q0) (k1 : Cell64 q1) (k2 : Cell64 q2) : Calls Tryz.prog 128 #[.slice (some ⟨ad, 0, none⟩) 3 c] W fun e w' => e = .returned (.tuple #[.int .i64 (udivT (q0, q1) q2).1.1, .int .i64 (udivT (q0, q1) q2).1.2, .int .i64 (udivT (q0, q1) q2).2]) ∧ Touch [] W w' := by
  have hA := fun w (t : Touch [] W w) => a_any ad 3 c q0 q1 w (by decide) (cell_quiet t c0) (cell_quiet t c1)
  have hO := fun w => UDiv_tot (q0, q1) q2 k0 k1 k2 w
  obtain ⟨⟨⟨x, y⟩, e⟩, hr⟩ : ∃ r, udivT (q0, q1) q2 = r := ⟨_, rfl⟩
  rw [hr] at hO ⊢
  clear hr
  unfold pairW at hO
  have hlt : (2 : Int) < 3 := by decide
  clear c0 c1 k0 k1 k2
  go_enter Tryz.func128, Tryz.ntmps128
  go_upto_region 1 with fail
  refine region_inv (fun listed a Wx => ∃ f : Nat → Value, a = { tmps := #[(.slice (some ⟨ad, 0, none⟩) 3 c), undef, f 2, f 3, f 4, f 5, f 6, f 7, f 8, f 9, f 10, f 11, f 12, f 13], defers := [] } ∧ TabOk (tabP14 ad c q0 q1 q2 x y e) listed f ∧ Touch [] W Wx) (by kernel_rfl) (by kernel_rfl) ?h0 ?step ?fin
  case h0 =>
    intro listed hs hl
    exact ⟨fun j => if j = 2 then .int .i64 0 else if j = 3 then .int .i64 0 else if j = 4 then .int .i64 0 else undef, rfl, fun x _ h => (by rw [hl] at h; cases h), (Touch.refl [] W).drew⟩
  case step =>
    rintro listed a Wx ⟨f, rfl, hT, t⟩ hC i o ho hli hdep
    try dsimp only
    have hi : i < 12 := (Array.getElem?_eq_some_iff.1 ho).1
    have x2 := cell_quiet t c2
    rcases (by omega : i = 0 ∨ i = 1 ∨ i = 2 ∨ i = 3 ∨ i = 4 ∨ i = 5 ∨ i = 6 ∨ i = 7 ∨ i = 8 ∨ i = 9 ∨ i = 10 ∨ i = 11) with rfl | rfl | rfl | rfl | rfl | rfl | rfl | rfl | rfl | rfl | rfl | rfl
    · cases (show some _ = some o from ho)
      refine wpOp_of ho rfl ?_
      refine wp_value (v := (.slice (some ⟨ad, 0, none⟩) 3 c)) (w1 := Wx) ?_ ⟨_, rfl, hT.step (i := 0) (d := 5) (v := (.slice (some ⟨ad, 0, none⟩) 3 c)) (by intro x hx; simp only [tabP14, List.mem_cons, List.not_mem_nil, or_false] at hx; rcases hx with rfl | rfl | rfl | rfl | rfl | rfl | rfl | rfl | rfl | rfl | rfl | rfl <;> simp), t⟩
      clear hdep hC hli ho hT
      first | (go_simp; done) | (go_simp; rfl)
    · cases (show some _ = some o from ho)
      refine wpOp_of ho rfl ?_
      have g0 : f 5 = (.slice (some ⟨ad, 0, none⟩) 3 c) := hT (0, 5, (.slice (some ⟨ad, 0, none⟩) 3 c)) (by simp [tabP14]) (hdep { on := 0, ground := .data } (by simp) rfl)
      refine wp_enter (f := 108) (args := #[(.slice (some ⟨ad, 0, none⟩) 3 c)]) (w1 := Wx) ?_ ((hA Wx t).mono ?_)
      · clear hdep hC hli ho hT
        first | (go_simp; done) | (go_simp; rfl)
      · rintro _ W1 ⟨rfl, t1⟩
        exact ⟨_, rfl, _, rfl, hT.step (i := 1) (d := 6) (v := (.agg #[.int .i64 q0, .int .i64 q1])) (by intro x hx; simp only [tabP14, List.mem_cons, List.not_mem_nil, or_false] at hx; rcases hx with rfl | rfl | rfl | rfl | rfl | rfl | rfl | rfl | rfl | rfl | rfl | rfl <;> simp), t.trans t1 (by simp)⟩
    · cases (show some _ = some o from ho)
      refine wpOp_of ho rfl ?_
      refine wp_value (v := (.slice (some ⟨ad, 0, none⟩) 3 c)) (w1 := Wx) ?_ ⟨_, rfl, hT.step (i := 2) (d := 7) (v := (.slice (some ⟨ad, 0, none⟩) 3 c)) (by intro x hx; simp only [tabP14, List.mem_cons, List.not_mem_nil, or_false] at hx; rcases hx with rfl | rfl | rfl | rfl | rfl | rfl | rfl | rfl | rfl | rfl | rfl | rfl <;> simp), t⟩
      clear hdep hC hli ho hT
      first | (go_simp; done) | (go_simp; rfl)
    · cases (show some _ = some o from ho)
      refine wpOp_of ho rfl ?_
      have g2 : f 7 = (.slice (some ⟨ad, 0, none⟩) 3 c) := hT (2, 7, (.slice (some ⟨ad, 0, none⟩) 3 c)) (by simp [tabP14]) (hdep { on := 2, ground := .data } (by simp) rfl)
      refine wp_value (v := (.pointer (some ⟨ad, 2, none⟩))) (w1 := Wx) ?_ ⟨_, rfl, hT.step (i := 3) (d := 8) (v := (.pointer (some ⟨ad, 2, none⟩))) (by intro x hx; simp only [tabP14, List.mem_cons, List.not_mem_nil, or_false] at hx; rcases hx with rfl | rfl | rfl | rfl | rfl | rfl | rfl | rfl | rfl | rfl | rfl | rfl <;> simp), t⟩
      clear hdep hC hli ho hT
      first | (go_simp; done) | (go_simp; rfl)
    · cases (show some _ = some o from ho)
      refine wpOp_of ho rfl ?_
      have g3 : f 8 = (.pointer (some ⟨ad, 2, none⟩)) := hT (3, 8, (.pointer (some ⟨ad, 2, none⟩))) (by simp [tabP14]) (hdep { on := 3, ground := .data } (by simp) rfl)
      refine wp_value (v := (.int .i64 q2)) (w1 := Wx) ?_ ⟨_, rfl, hT.step (i := 4) (d := 9) (v := (.int .i64 q2)) (by intro x hx; simp only [tabP14, List.mem_cons, List.not_mem_nil, or_false] at hx; rcases hx with rfl | rfl | rfl | rfl | rfl | rfl | rfl | rfl | rfl | rfl | rfl | rfl <;> simp), t⟩
      clear hdep hC hli ho hT
      first | (go_simp; done) | (go_simp; rfl)
    · cases (show some _ = some o from ho)
      refine wpOp_of ho rfl ?_
      have g1 : f 6 = (.agg #[.int .i64 q0, .int .i64 q1]) := hT (1, 6, (.agg #[.int .i64 q0, .int .i64 q1])) (by simp [tabP14]) (hdep { on := 1, ground := .data } (by simp) rfl)
      have g4 : f 9 = (.int .i64 q2) := hT (4, 9, (.int .i64 q2)) (by simp [tabP14]) (hdep { on := 4, ground := .data } (by simp) rfl)
      refine wp_enter (f := 129) (args := #[(.agg #[.int .i64 q0, .int .i64 q1]), .int .i64 q2]) (w1 := Wx) ?_ ((hO Wx).mono ?_)
      · clear hdep hC hli ho hT
        first | (go_simp; done) | (go_simp; rfl)
      · rintro _ W1 ⟨rfl, t1⟩
        exact ⟨_, rfl, _, rfl, hT.step (i := 5) (d := 10) (v := (.tuple #[.int .i64 x, .int .i64 y, .int .i64 e])) (by intro x hx; simp only [tabP14, List.mem_cons, List.not_mem_nil, or_false] at hx; rcases hx with rfl | rfl | rfl | rfl | rfl | rfl | rfl | rfl | rfl | rfl | rfl | rfl <;> simp), t.trans t1 (by simp)⟩
    · cases (show some _ = some o from ho)
      refine wpOp_of ho rfl ?_
      have g5 : f 10 = (.tuple #[.int .i64 x, .int .i64 y, .int .i64 e]) := hT (5, 10, (.tuple #[.int .i64 x, .int .i64 y, .int .i64 e])) (by simp [tabP14]) (hdep { on := 5, ground := .data } (by simp) rfl)
      refine wp_value (v := (.int .i64 x)) (w1 := Wx) ?_ ⟨_, rfl, hT.step (i := 6) (d := 11) (v := (.int .i64 x)) (by intro x hx; simp only [tabP14, List.mem_cons, List.not_mem_nil, or_false] at hx; rcases hx with rfl | rfl | rfl | rfl | rfl | rfl | rfl | rfl | rfl | rfl | rfl | rfl <;> simp), t⟩
      clear hdep hC hli ho hT
      first | (go_simp; done) | (go_simp; rfl)
    · cases (show some _ = some o from ho)
      refine wpOp_of ho rfl ?_
      have g5 : f 10 = (.tuple #[.int .i64 x, .int .i64 y, .int .i64 e]) := hT (5, 10, (.tuple #[.int .i64 x, .int .i64 y, .int .i64 e])) (by simp [tabP14]) (hdep { on := 5, ground := .data } (by simp) rfl)
      refine wp_value (v := (.int .i64 y)) (w1 := Wx) ?_ ⟨_, rfl, hT.step (i := 7) (d := 12) (v := (.int .i64 y)) (by intro x hx; simp only [tabP14, List.mem_cons, List.not_mem_nil, or_false] at hx; rcases hx with rfl | rfl | rfl | rfl | rfl | rfl | rfl | rfl | rfl | rfl | rfl | rfl <;> simp), t⟩
      clear hdep hC hli ho hT
      first | (go_simp; done) | (go_simp; rfl)
    · cases (show some _ = some o from ho)
      refine wpOp_of ho rfl ?_
      have g5 : f 10 = (.tuple #[.int .i64 x, .int .i64 y, .int .i64 e]) := hT (5, 10, (.tuple #[.int .i64 x, .int .i64 y, .int .i64 e])) (by simp [tabP14]) (hdep { on := 5, ground := .data } (by simp) rfl)
      refine wp_value (v := (.int .i64 e)) (w1 := Wx) ?_ ⟨_, rfl, hT.step (i := 8) (d := 13) (v := (.int .i64 e)) (by intro x hx; simp only [tabP14, List.mem_cons, List.not_mem_nil, or_false] at hx; rcases hx with rfl | rfl | rfl | rfl | rfl | rfl | rfl | rfl | rfl | rfl | rfl | rfl <;> simp), t⟩
      clear hdep hC hli ho hT
      first | (go_simp; done) | (go_simp; rfl)
    · cases (show some _ = some o from ho)
      refine wpOp_of ho rfl ?_
      have g6 : f 11 = (.int .i64 x) := hT (6, 11, (.int .i64 x)) (by simp [tabP14]) (hdep { on := 6, ground := .data } (by simp) rfl)
      refine wp_value (v := (.int .i64 x)) (w1 := Wx) ?_ ⟨_, rfl, hT.step (i := 9) (d := 2) (v := (.int .i64 x)) (by intro x hx; simp only [tabP14, List.mem_cons, List.not_mem_nil, or_false] at hx; rcases hx with rfl | rfl | rfl | rfl | rfl | rfl | rfl | rfl | rfl | rfl | rfl | rfl <;> simp), t⟩
      clear hdep hC hli ho hT
      first | (go_simp; done) | (go_simp; rfl)
    · cases (show some _ = some o from ho)
      refine wpOp_of ho rfl ?_
      have g7 : f 12 = (.int .i64 y) := hT (7, 12, (.int .i64 y)) (by simp [tabP14]) (hdep { on := 7, ground := .data } (by simp) rfl)
      refine wp_value (v := (.int .i64 y)) (w1 := Wx) ?_ ⟨_, rfl, hT.step (i := 10) (d := 3) (v := (.int .i64 y)) (by intro x hx; simp only [tabP14, List.mem_cons, List.not_mem_nil, or_false] at hx; rcases hx with rfl | rfl | rfl | rfl | rfl | rfl | rfl | rfl | rfl | rfl | rfl | rfl <;> simp), t⟩
      clear hdep hC hli ho hT
      first | (go_simp; done) | (go_simp; rfl)
    · cases (show some _ = some o from ho)
      refine wpOp_of ho rfl ?_
      have g8 : f 13 = (.int .i64 e) := hT (8, 13, (.int .i64 e)) (by simp [tabP14]) (hdep { on := 8, ground := .data } (by simp) rfl)
      refine wp_value (v := (.int .i64 e)) (w1 := Wx) ?_ ⟨_, rfl, hT.step (i := 11) (d := 4) (v := (.int .i64 e)) (by intro x hx; simp only [tabP14, List.mem_cons, List.not_mem_nil, or_false] at hx; rcases hx with rfl | rfl | rfl | rfl | rfl | rfl | rfl | rfl | rfl | rfl | rfl | rfl <;> simp), t⟩
      clear hdep hC hli ho hT
      first | (go_simp; done) | (go_simp; rfl)
  case fin =>
    rintro listed a Wx hl ⟨f, rfl, hT, t⟩
    have e5 : f 5 = (.slice (some ⟨ad, 0, none⟩) 3 c) := hT (0, 5, (.slice (some ⟨ad, 0, none⟩) 3 c)) (by simp [tabP14]) (hl 0 (by decide))
    have e6 : f 6 = (.agg #[.int .i64 q0, .int .i64 q1]) := hT (1, 6, (.agg #[.int .i64 q0, .int .i64 q1])) (by simp [tabP14]) (hl 1 (by decide))
    have e7 : f 7 = (.slice (some ⟨ad, 0, none⟩) 3 c) := hT (2, 7, (.slice (some ⟨ad, 0, none⟩) 3 c)) (by simp [tabP14]) (hl 2 (by decide))
    have e8 : f 8 = (.pointer (some ⟨ad, 2, none⟩)) := hT (3, 8, (.pointer (some ⟨ad, 2, none⟩))) (by simp [tabP14]) (hl 3 (by decide))
    have e9 : f 9 = (.int .i64 q2) := hT (4, 9, (.int .i64 q2)) (by simp [tabP14]) (hl 4 (by decide))
    have e10 : f 10 = (.tuple #[.int .i64 x, .int .i64 y, .int .i64 e]) := hT (5, 10, (.tuple #[.int .i64 x, .int .i64 y, .int .i64 e])) (by simp [tabP14]) (hl 5 (by decide))
    have e11 : f 11 = (.int .i64 x) := hT (6, 11, (.int .i64 x)) (by simp [tabP14]) (hl 6 (by decide))
    have e12 : f 12 = (.int .i64 y) := hT (7, 12, (.int .i64 y)) (by simp [tabP14]) (hl 7 (by decide))
    have e13 : f 13 = (.int .i64 e) := hT (8, 13, (.int .i64 e)) (by simp [tabP14]) (hl 8 (by decide))
    have e2 : f 2 = (.int .i64 x) := hT (9, 2, (.int .i64 x)) (by simp [tabP14]) (hl 9 (by decide))
    have e3 : f 3 = (.int .i64 y) := hT (10, 3, (.int .i64 y)) (by simp [tabP14]) (hl 10 (by decide))
    have e4 : f 4 = (.int .i64 e) := hT (11, 4, (.int .i64 e)) (by simp [tabP14]) (hl 11 (by decide))
    have T := Lib.hid t
    clear hT hl t hA hO c2
    rw [e5, e6, e7, e8, e9, e10, e11, e12, e13, e2, e3, e4]
    clear e5 e6 e7 e8 e9 e10 e11 e12 e13 e2 e3 e4
    go_wp2_with fail
    go_ret3
    exact ⟨rfl, T.out⟩
def tabP15 (ad c : Nat) (q0 q1 q2 x y e : Int) : List (Nat × Nat × Value) := [(0, 5, (.slice (some ⟨ad, 0, none⟩) 3 c)), (1, 6, (.agg #[.int .i64 q0, .int .i64 q1])), (2, 7, (.slice (some ⟨ad, 0, none⟩) 3 c)), (3, 8, (.pointer (some ⟨ad, 2, none⟩))), (4, 9, (.int .i64 q2)), (5, 10, (.tuple #[.int .i64 x, .int .i64 y, .int .i64 e])), (6, 11, (.int .i64 x)), (7, 12, (.int .i64 y)), (8, 13, (.int .i64 e)), (9, 2, (.int .i64 x)), (10, 3, (.int .i64 y)), (11, 4, (.int .i64 e))]
set_option maxRecDepth 100000 in
set_option maxHeartbeats 1000000 in
theorem ps15 (W : World) (ad c : Nat) (q0 q1 q2 : Int) (c0 : W.cell? ⟨ad, 0, none⟩ = some (.int .i64 q0)) (c1 : W.cell? ⟨ad, 1, none⟩ = some (.int .i64 q1)) (c2 : W.cell? ⟨ad, 2, none⟩ = some (.int .i64 q2)) (k0 : Cell64 q0) (k1 : Cell64 q1) (k2 : Cell64 q2) : Calls Tryz.prog 130 #[.slice (some ⟨ad, 0, none⟩) 3 c] W fun e w' => e = .returned (.tuple #[.int .i64 (floorT (q0, q1) q2).1.1, .int .i64 (floorT (q0, q1) q2).1.2, .int .i64 (floorT (q0, q1) q2).2]) ∧ Touch [] W w' := by
  have hA := fun w (t : Touch [] W w) => a_any ad 3 c q0 q1 w (by decide) (cell_quiet t c0) (cell_quiet t c1)
  have hO := fun w => Floor_tot (q0, q1) q2 k0 k1 k2 w
  obtain ⟨⟨⟨x, y⟩, e⟩, hr⟩ : ∃ r, floorT (q0, q1) q2 = r := ⟨_, rfl⟩
  rw [hr] at hO ⊢
  clear hr
  unfold pairW at hO
  have hlt : (2 : Int) < 3 := by decide
  clear c0 c1 k0 k1 k2
  go_enter Tryz.func130, Tryz.ntmps130
  go_upto_region 1 with fail
  refine region_inv (fun listed a Wx => ∃ f : Nat → Value, a = { tmps := #[(.slice (some ⟨ad, 0, none⟩) 3 c), undef, f 2, f 3, f 4, f 5, f 6, f 7, f 8, f 9, f 10, f 11, f 12, f 13], defers := [] } ∧ TabOk (tabP15 ad c q0 q1 q2 x y e) listed f ∧ Touch [] W Wx) (by kernel_rfl) (by kernel_rfl) ?h0 ?step ?fin
  case h0 =>
    intro listed hs hl
    exact ⟨fun j => if j = 2 then .int .i64 0 else if j = 3 then .int .i64 0 else if j = 4 then .int .i64 0 else undef, rfl, fun x _ h => (by rw [hl] at h; cases h), (Touch.refl [] W).drew⟩
  case step =>
    rintro listed a Wx ⟨f, rfl, hT, t⟩ hC i o ho hli hdep
    try dsimp only
    have hi : i < 12 := (Array.getElem?_eq_some_iff.1 ho).1
    have x2 := cell_quiet t c2
    rcases (by omega : i = 0 ∨ i = 1 ∨ i = 2 ∨ i = 3 ∨ i = 4 ∨ i = 5 ∨ i = 6 ∨ i = 7 ∨ i = 8 ∨ i = 9 ∨ i = 10 ∨ i = 11) with rfl | rfl | rfl | rfl | rfl | rfl | rfl | rfl | rfl | rfl | rfl | rfl
    · cases (show some _ = some o from ho)
      refine wpOp_of ho rfl ?_
      refine wp_value (v := (.slice (some ⟨ad, 0, none⟩) 3 c)) (w1 := Wx) ?_ ⟨_, rfl, hT.step (i := 0) (d := 5) (v := (.slice (some ⟨ad, 0, none⟩) 3 c)) (by intro x hx; simp only [tabP15, List.mem_cons, List.not_mem_nil, or_false] at hx; rcases hx with rfl | rfl | rfl | rfl | rfl | rfl | rfl | rfl | rfl | rfl | rfl | rfl <;> simp), t⟩
      clear hdep hC hli ho hT
      first | (go_simp; done) | (go_simp; rfl)
    · cases (show some _ = some o from ho)
      refine wpOp_of ho rfl ?_
      have g0 : f 5 = (.slice (some ⟨ad, 0, none⟩) 3 c) := hT (0, 5, (.slice (some ⟨ad, 0, none⟩) 3 c)) (by simp [tabP15]) (hdep { on := 0, ground := .data } (by simp) rfl)
      refine wp_enter (f := 108) (args := #[(.slice (some ⟨ad, 0, none⟩) 3 c)]) (w1 := Wx) ?_ ((hA Wx t).mono ?_)
      · clear hdep hC hli ho hT
        first | (go_simp; done) | (go_simp; rfl)
      · rintro _ W1 ⟨rfl, t1⟩
        exact ⟨_, rfl, _, rfl, hT.step (i := 1) (d := 6) (v := (.agg #[.int .i64 q0, .int .i64 q1])) (by intro x hx; simp only [tabP15, List.mem_cons, List.not_mem_nil, or_false] at hx; rcases hx with rfl | rfl | rfl | rfl | rfl | rfl | rfl | rfl | rfl | rfl | rfl | rfl <;> simp), t.trans t1 (by simp)⟩
    · cases (show some _ = some o from ho)
      refine wpOp_of ho rfl ?_
      refine wp_value (v := (.slice (some ⟨ad, 0, none⟩) 3 c)) (w1 := Wx) ?_ ⟨_, rfl, hT.step (i := 2) (d := 7) (v := (.slice (some ⟨ad, 0, none⟩) 3 c)) (by intro x hx; simp only [tabP15, List.mem_cons, List.not_mem_nil, or_false] at hx; rcases hx with rfl | rfl | rfl | rfl | rfl | rfl | rfl | rfl | rfl | rfl | rfl | rfl <;> simp), t⟩
      clear hdep hC hli ho hT
      first | (go_simp; done) | (go_simp; rfl)
    · cases (show some _ = some o from ho)
      refine wpOp_of ho rfl ?_
      have g2 : f 7 = (.slice (some ⟨ad, 0, none⟩) 3 c) := hT (2, 7, (.slice (some ⟨ad, 0, none⟩) 3 c)) (by simp [tabP15]) (hdep { on := 2, ground := .data } (by simp) rfl)
      refine wp_value (v := (.pointer (some ⟨ad, 2, none⟩))) (w1 := Wx) ?_ ⟨_, rfl, hT.step (i := 3) (d := 8) (v := (.pointer (some ⟨ad, 2, none⟩))) (by intro x hx; simp only [tabP15, List.mem_cons, List.not_mem_nil, or_false] at hx; rcases hx with rfl | rfl | rfl | rfl | rfl | rfl | rfl | rfl | rfl | rfl | rfl | rfl <;> simp), t⟩
      clear hdep hC hli ho hT
      first | (go_simp; done) | (go_simp; rfl)
    · cases (show some _ = some o from ho)
      refine wpOp_of ho rfl ?_
      have g3 : f 8 = (.pointer (some ⟨ad, 2, none⟩)) := hT (3, 8, (.pointer (some ⟨ad, 2, none⟩))) (by simp [tabP15]) (hdep { on := 3, ground := .data } (by simp) rfl)
      refine wp_value (v := (.int .i64 q2)) (w1 := Wx) ?_ ⟨_, rfl, hT.step (i := 4) (d := 9) (v := (.int .i64 q2)) (by intro x hx; simp only [tabP15, List.mem_cons, List.not_mem_nil, or_false] at hx; rcases hx with rfl | rfl | rfl | rfl | rfl | rfl | rfl | rfl | rfl | rfl | rfl | rfl <;> simp), t⟩
      clear hdep hC hli ho hT
      first | (go_simp; done) | (go_simp; rfl)
    · cases (show some _ = some o from ho)
      refine wpOp_of ho rfl ?_
      have g1 : f 6 = (.agg #[.int .i64 q0, .int .i64 q1]) := hT (1, 6, (.agg #[.int .i64 q0, .int .i64 q1])) (by simp [tabP15]) (hdep { on := 1, ground := .data } (by simp) rfl)
      have g4 : f 9 = (.int .i64 q2) := hT (4, 9, (.int .i64 q2)) (by simp [tabP15]) (hdep { on := 4, ground := .data } (by simp) rfl)
      refine wp_enter (f := 101) (args := #[(.agg #[.int .i64 q0, .int .i64 q1]), .int .i64 q2]) (w1 := Wx) ?_ ((hO Wx).mono ?_)
      · clear hdep hC hli ho hT
        first | (go_simp; done) | (go_simp; rfl)
      · rintro _ W1 ⟨rfl, t1⟩
        exact ⟨_, rfl, _, rfl, hT.step (i := 5) (d := 10) (v := (.tuple #[.int .i64 x, .int .i64 y, .int .i64 e])) (by intro x hx; simp only [tabP15, List.mem_cons, List.not_mem_nil, or_false] at hx; rcases hx with rfl | rfl | rfl | rfl | rfl | rfl | rfl | rfl | rfl | rfl | rfl | rfl <;> simp), t.trans t1 (by simp)⟩
    · cases (show some _ = some o from ho)
      refine wpOp_of ho rfl ?_
      have g5 : f 10 = (.tuple #[.int .i64 x, .int .i64 y, .int .i64 e]) := hT (5, 10, (.tuple #[.int .i64 x, .int .i64 y, .int .i64 e])) (by simp [tabP15]) (hdep { on := 5, ground := .data } (by simp) rfl)
      refine wp_value (v := (.int .i64 x)) (w1 := Wx) ?_ ⟨_, rfl, hT.step (i := 6) (d := 11) (v := (.int .i64 x)) (by intro x hx; simp only [tabP15, List.mem_cons, List.not_mem_nil, or_false] at hx; rcases hx with rfl | rfl | rfl | rfl | rfl | rfl | rfl | rfl | rfl | rfl | rfl | rfl <;> simp), t⟩
      clear hdep hC hli ho hT
      first | (go_simp; done) | (go_simp; rfl)
    · cases (show some _ = some o from ho)
      refine wpOp_of ho rfl ?_
      have g5 : f 10 = (.tuple #[.int .i64 x, .int .i64 y, .int .i64 e]) := hT (5, 10, (.tuple #[.int .i64 x, .int .i64 y, .int .i64 e])) (by simp [tabP15]) (hdep { on := 5, ground := .data } (by simp) rfl)
      refine wp_value (v := (.int .i64 y)) (w1 := Wx) ?_ ⟨_, rfl, hT.step (i := 7) (d := 12) (v := (.int .i64 y)) (by intro x hx; simp only [tabP15, List.mem_cons, List.not_mem_nil, or_false] at hx; rcases hx with rfl | rfl | rfl | rfl | rfl | rfl | rfl | rfl | rfl | rfl | rfl | rfl <;> simp), t⟩
      clear hdep hC hli ho hT
      first | (go_simp; done) | (go_simp; rfl)
    · cases (show some _ = some o from ho)
      refine wpOp_of ho rfl ?_
      have g5 : f 10 = (.tuple #[.int .i64 x, .int .i64 y, .int .i64 e]) := hT (5, 10, (.tuple #[.int .i64 x, .int .i64 y, .int .i64 e])) (by simp [tabP15]) (hdep { on := 5, ground := .data } (by simp) rfl)
      refine wp_value (v := (.int .i64 e)) (w1 := Wx) ?_ ⟨_, rfl, hT.step (i := 8) (d := 13) (v := (.int .i64 e)) (by intro x hx; simp only [tabP15, List.mem_cons, List.not_mem_nil, or_false] at hx; rcases hx with rfl | rfl | rfl | rfl | rfl | rfl | rfl | rfl | rfl | rfl | rfl | rfl <;> simp), t⟩
      clear hdep hC hli ho hT
      first | (go_simp; done) | (go_simp; rfl)
    · cases (show some _ = some o from ho)
      refine wpOp_of ho rfl ?_
      have g6 : f 11 = (.int .i64 x) := hT (6, 11, (.int .i64 x)) (by simp [tabP15]) (hdep { on := 6, ground := .data } (by simp) rfl)
      refine wp_value (v := (.int .i64 x)) (w1 := Wx) ?_ ⟨_, rfl, hT.step (i := 9) (d := 2) (v := (.int .i64 x)) (by intro x hx; simp only [tabP15, List.mem_cons, List.not_mem_nil, or_false] at hx; rcases hx with rfl | rfl | rfl | rfl | rfl | rfl | rfl | rfl | rfl | rfl | rfl | rfl <;> simp), t⟩
      clear hdep hC hli ho hT
      first | (go_simp; done) | (go_simp; rfl)
    · cases (show some _ = some o from ho)
      refine wpOp_of ho rfl ?_
      have g7 : f 12 = (.int .i64 y) := hT (7, 12, (.int .i64 y)) (by simp [tabP15]) (hdep { on := 7, ground := .data } (by simp) rfl)
      refine wp_value (v := (.int .i64 y)) (w1 := Wx) ?_ ⟨_, rfl, hT.step (i := 10) (d := 3) (v := (.int .i64 y)) (by intro x hx; simp only [tabP15, List.mem_cons, List.not_mem_nil, or_false] at hx; rcases hx with rfl | rfl | rfl | rfl | rfl | rfl | rfl | rfl | rfl | rfl | rfl | rfl <;> simp), t⟩
      clear hdep hC hli ho hT
      first | (go_simp; done) | (go_simp; rfl)
    · cases (show some _ = some o from ho)
      refine wpOp_of ho rfl ?_
      have g8 : f 13 = (.int .i64 e) := hT (8, 13, (.int .i64 e)) (by simp [tabP15]) (hdep { on := 8, ground := .data } (by simp) rfl)
      refine wp_value (v := (.int .i64 e)) (w1 := Wx) ?_ ⟨_, rfl, hT.step (i := 11) (d := 4) (v := (.int .i64 e)) (by intro x hx; simp only [tabP15, List.mem_cons, List.not_mem_nil, or_false] at hx; rcases hx with rfl | rfl | rfl | rfl | rfl | rfl | rfl | rfl | rfl | rfl | rfl | rfl <;> simp), t⟩
      clear hdep hC hli ho hT
      first | (go_simp; done) | (go_simp; rfl)
  case fin =>
    rintro listed a Wx hl ⟨f, rfl, hT, t⟩
    have e5 : f 5 = (.slice (some ⟨ad, 0, none⟩) 3 c) := hT (0, 5, (.slice (some ⟨ad, 0, none⟩) 3 c)) (by simp [tabP15]) (hl 0 (by decide))
    have e6 : f 6 = (.agg #[.int .i64 q0, .int .i64 q1]) := hT (1, 6, (.agg #[.int .i64 q0, .int .i64 q1])) (by simp [tabP15]) (hl 1 (by decide))
    have e7 : f 7 = (.slice (some ⟨ad, 0, none⟩) 3 c) := hT (2, 7, (.slice (some ⟨ad, 0, none⟩) 3 c)) (by simp [tabP15]) (hl 2 (by decide))
    have e8 : f 8 = (.pointer (some ⟨ad, 2, none⟩)) := hT (3, 8, (.pointer (some ⟨ad, 2, none⟩))) (by simp [tabP15]) (hl 3 (by decide))
    have e9 : f 9 = (.int .i64 q2) := hT (4, 9, (.int .i64 q2)) (by simp [tabP15]) (hl 4 (by decide))
    have e10 : f 10 = (.tuple #[.int .i64 x, .int .i64 y, .int .i64 e]) := hT (5, 10, (.tuple #[.int .i64 x, .int .i64 y, .int .i64 e])) (by simp [tabP15]) (hl 5 (by decide))
    have e11 : f 11 = (.int .i64 x) := hT (6, 11, (.int .i64 x)) (by simp [tabP15]) (hl 6 (by decide))
    have e12 : f 12 = (.int .i64 y) := hT (7, 12, (.int .i64 y)) (by simp [tabP15]) (hl 7 (by decide))
    have e13 : f 13 = (.int .i64 e) := hT (8, 13, (.int .i64 e)) (by simp [tabP15]) (hl 8 (by decide))
    have e2 : f 2 = (.int .i64 x) := hT (9, 2, (.int .i64 x)) (by simp [tabP15]) (hl 9 (by decide))
    have e3 : f 3 = (.int .i64 y) := hT (10, 3, (.int .i64 y)) (by simp [tabP15]) (hl 10 (by decide))
    have e4 : f 4 = (.int .i64 e) := hT (11, 4, (.int .i64 e)) (by simp [tabP15]) (hl 11 (by decide))
    have T := Lib.hid t
    clear hT hl t hA hO c2
    rw [e5, e6, e7, e8, e9, e10, e11, e12, e13, e2, e3, e4]
    clear e5 e6 e7 e8 e9 e10 e11 e12 e13 e2 e3 e4
    go_wp2_with fail
    go_ret3
    exact ⟨rfl, T.out⟩
def tabP16 (ad c : Nat) (q0 q1 q2 x y e : Int) : List (Nat × Nat × Value) := [(0, 5, (.slice (some ⟨ad, 0, none⟩) 3 c)), (1, 6, (.agg #[.int .i64 q0, .int .i64 q1])), (2, 7, (.slice (some ⟨ad, 0, none⟩) 3 c)), (3, 8, (.pointer (some ⟨ad, 2, none⟩))), (4, 9, (.int .i64 q2)), (5, 10, (.tuple #[.int .i64 x, .int .i64 y, .int .i64 e])), (6, 11, (.int .i64 x)), (7, 12, (.int .i64 y)), (8, 13, (.int .i64 e)), (9, 2, (.int .i64 x)), (10, 3, (.int .i64 y)), (11, 4, (.int .i64 e))]
set_option maxRecDepth 100000 in
set_option maxHeartbeats 1000000 in
theorem ps16 (W : World) (ad c : Nat) (q0 q1 q2 : Int) (c0 : W.cell? ⟨ad, 0, none⟩ = some (.int .i64 q0)) (c1 : W.cell? ⟨ad, 1, none⟩ = some (.int .i64 q1)) (c2 : W.cell? ⟨ad, 2, none⟩ = some (.int .i64 q2)) (k0 : Cell64 q0) (k1 : Cell64 q1) (k2 : Cell64 q2) : Calls Tryz.prog 131 #[.slice (some ⟨ad, 0, none⟩) 3 c] W fun e w' => e = .returned (.tuple #[.int .i64 (truncT (q0, q1) q2).1.1, .int .i64 (truncT (q0, q1) q2).1.2, .int .i64 (truncT (q0, q1) q2).2]) ∧ Touch [] W w' := by
  have hA := fun w (t : Touch [] W w) => a_any ad 3 c q0 q1 w (by decide) (cell_quiet t c0) (cell_quiet t c1)
  have hO := fun w => Trunc_tot (q0, q1) q2 k0 k1 k2 w
  obtain ⟨⟨⟨x, y⟩, e⟩, hr⟩ : ∃ r, truncT (q0, q1) q2 = r := ⟨_, rfl⟩
  rw [hr] at hO ⊢
  clear hr
  unfold pairW at hO
  have hlt : (2 : Int) < 3 := by decide
  clear c0 c1 k0 k1 k2
  go_enter Tryz.func131, Tryz.ntmps131
  go_upto_region 1 with fail
  refine region_inv (fun listed a Wx => ∃ f : Nat → Value, a = { tmps := #[(.slice (some ⟨ad, 0, none⟩) 3 c), undef, f 2, f 3, f 4, f 5, f 6, f 7, f 8, f 9, f 10, f 11, f 12, f 13], defers := [] } ∧ TabOk (tabP16 ad c q0 q1 q2 x y e) listed f ∧ Touch [] W Wx) (by kernel_rfl) (by kernel_rfl) ?h0 ?step ?fin
  case h0 =>
    intro listed hs hl
    exact ⟨fun j => if j = 2 then .int .i64 0 else if j = 3 then .int .i64 0 else if j = 4 then .int .i64 0 else undef, rfl, fun x _ h => (by rw [hl] at h; cases h), (Touch.refl [] W).drew⟩
  case step =>
    rintro listed a Wx ⟨f, rfl, hT, t⟩ hC i o ho hli hdep
    try dsimp only
    have hi : i < 12 := (Array.getElem?_eq_some_iff.1 ho).1
    have x2 := cell_quiet t c2
    rcases (by omega : i = 0 ∨ i = 1 ∨ i = 2 ∨ i = 3 ∨ i = 4 ∨ i = 5 ∨ i = 6 ∨ i = 7 ∨ i = 8 ∨ i = 9 ∨ i = 10 ∨ i = 11) with rfl | rfl | rfl | rfl | rfl | rfl | rfl | rfl | rfl | rfl | rfl | rfl
    · cases (show some _ = some o from ho)
      refine wpOp_of ho rfl ?_
      refine wp_value (v := (.slice (some ⟨ad, 0, none⟩) 3 c)) (w1 := Wx) ?_ ⟨_, rfl, hT.step (i := 0) (d := 5) (v := (.slice (some ⟨ad, 0, none⟩) 3 c)) (by intro x hx; simp only [tabP16, List.mem_cons, List.not_mem_nil, or_false] at hx; rcases hx with rfl | rfl | rfl | rfl | rfl | rfl | rfl | rfl | rfl | rfl | rfl | rfl <;> simp), t⟩
      clear hdep hC hli ho hT
      first | (go_simp; done) | (go_simp; rfl)
    · cases (show some _ = some o from ho)
      refine wpOp_of ho rfl ?_
      have g0 : f 5 = (.slice (some ⟨ad, 0, none⟩) 3 c) := hT (0, 5, (.slice (some ⟨ad, 0, none⟩) 3 c)) (by simp [tabP16]) (hdep { on := 0, ground := .data } (by simp) rfl)
      refine wp_enter (f := 108) (args := #[(.slice (some ⟨ad, 0, none⟩) 3 c)]) (w1 := Wx) ?_ ((hA Wx t).mono ?_)
      · clear hdep hC hli ho hT
        first | (go_simp; done) | (go_simp; rfl)
      · rintro _ W1 ⟨rfl, t1⟩
        exact ⟨_, rfl, _, rfl, hT.step (i := 1) (d := 6) (v := (.agg #[.int .i64 q0, .int .i64 q1])) (by intro x hx; simp only [tabP16, List.mem_cons, List.not_mem_nil, or_false] at hx; rcases hx with rfl | rfl | rfl | rfl | rfl | rfl | rfl | rfl | rfl | rfl | rfl | rfl <;> simp), t.trans t1 (by simp)⟩
    · cases (show some _ = some o from ho)
      refine wpOp_of ho rfl ?_
      refine wp_value (v := (.slice (some ⟨ad, 0, none⟩) 3 c)) (w1 := Wx) ?_ ⟨_, rfl, hT.step (i := 2) (d := 7) (v := (.slice (some ⟨ad, 0, none⟩) 3 c)) (by intro x hx; simp only [tabP16, List.mem_cons, List.not_mem_nil, or_false] at hx; rcases hx with rfl | rfl | rfl | rfl | rfl | rfl | rfl | rfl | rfl | rfl | rfl | rfl <;> simp), t⟩
      clear hdep hC hli ho hT
      first | (go_simp; done) | (go_simp; rfl)
    · cases (show some _ = some o from ho)
      refine wpOp_of ho rfl ?_
      have g2 : f 7 = (.slice (some ⟨ad, 0, none⟩) 3 c) := hT (2, 7, (.slice (some ⟨ad, 0, none⟩) 3 c)) (by simp [tabP16]) (hdep { on := 2, ground := .data } (by simp) rfl)
      refine wp_value (v := (.pointer (some ⟨ad, 2, none⟩))) (w1 := Wx) ?_ ⟨_, rfl, hT.step (i := 3) (d := 8) (v := (.pointer (some ⟨ad, 2, none⟩))) (by intro x hx; simp only [tabP16, List.mem_cons, List.not_mem_nil, or_false] at hx; rcases hx with rfl | rfl | rfl | rfl | rfl | rfl | rfl | rfl | rfl | rfl | rfl | rfl <;> simp), t⟩
      clear hdep hC hli ho hT
      first | (go_simp; done) | (go_simp; rfl)
    · cases (show some _ = some o from ho)
      refine wpOp_of ho rfl ?_
      have g3 : f 8 = (.pointer (some ⟨ad, 2, none⟩)) := hT (3, 8, (.pointer (some ⟨ad, 2, none⟩))) (by simp [tabP16]) (hdep { on := 3, ground := .data } (by simp) rfl)
      refine wp_value (v := (.int .i64 q2)) (w1 := Wx) ?_ ⟨_, rfl, hT.step (i := 4) (d := 9) (v := (.int .i64 q2)) (by intro x hx; simp only [tabP16, List.mem_cons, List.not_mem_nil, or_false] at hx; rcases hx with rfl | rfl | rfl | rfl | rfl | rfl | rfl | rfl | rfl | rfl | rfl | rfl <;> simp), t⟩
      clear hdep hC hli ho hT
      first | (go_simp; done) | (go_simp; rfl)
    · cases (show some _ = some o from ho)
      refine wpOp_of ho rfl ?_
      have g1 : f 6 = (.agg #[.int .i64 q0, .int .i64 q1]) := hT (1, 6, (.agg #[.int .i64 q0, .int .i64 q1])) (by simp [tabP16]) (hdep { on := 1, ground := .data } (by simp) rfl)
      have g4 : f 9 = (.int .i64 q2) := hT (4, 9, (.int .i64 q2)) (by simp [tabP16]) (hdep { on := 4, ground := .data } (by simp) rfl)
      refine wp_enter (f := 132) (args := #[(.agg #[.int .i64 q0, .int .i64 q1]), .int .i64 q2]) (w1 := Wx) ?_ ((hO Wx).mono ?_)
      · clear hdep hC hli ho hT
        first | (go_simp; done) | (go_simp; rfl)
      · rintro _ W1 ⟨rfl, t1⟩
        exact ⟨_, rfl, _, rfl, hT.step (i := 5) (d := 10) (v := (.tuple #[.int .i64 x, .int .i64 y, .int .i64 e])) (by intro x hx; simp only [tabP16, List.mem_cons, List.not_mem_nil, or_false] at hx; rcases hx with rfl | rfl | rfl | rfl | rfl | rfl | rfl | rfl | rfl | rfl | rfl | rfl <;> simp), t.trans t1 (by simp)⟩
    · cases (show some _ = some o from ho)
      refine wpOp_of ho rfl ?_
      have g5 : f 10 = (.tuple #[.int .i64 x, .int .i64 y, .int .i64 e]) := hT (5, 10, (.tuple #[.int .i64 x, .int .i64 y, .int .i64 e])) (by simp [tabP16]) (hdep { on := 5, ground := .data } (by simp) rfl)
      refine wp_value (v := (.int .i64 x)) (w1 := Wx) ?_ ⟨_, rfl, hT.step (i := 6) (d := 11) (v := (.int .i64 x)) (by intro x hx; simp only [tabP16, List.mem_cons, List.not_mem_nil, or_false] at hx; rcases hx with rfl | rfl | rfl | rfl | rfl | rfl | rfl | rfl | rfl | rfl | rfl | rfl <;> simp), t⟩
      clear hdep hC hli ho hT
      first | (go_simp; done) | (go_simp; rfl)
    · cases (show some _ = some o from ho)
      refine wpOp_of ho rfl ?_
      have g5 : f 10 = (.tuple #[.int .i64 x, .int .i64 y, .int .i64 e]) := hT (5, 10, (.tuple #[.int .i64 x, .int .i64 y, .int .i64 e])) (by simp [tabP16]) (hdep { on := 5, ground := .data } (by simp) rfl)
      refine wp_value (v := (.int .i64 y)) (w1 := Wx) ?_ ⟨_, rfl, hT.step (i := 7) (d := 12) (v := (.int .i64 y)) (by intro x hx; simp only [tabP16, List.mem_cons, List.not_mem_nil, or_false] at hx; rcases hx with rfl | rfl | rfl | rfl | rfl | rfl | rfl | rfl | rfl | rfl | rfl | rfl <;> simp), t⟩
      clear hdep hC hli ho hT
      first | (go_simp; done) | (go_simp; rfl)
    · cases (show some _ = some o from ho)
      refine wpOp_of ho rfl ?_
      have g5 : f 10 = (.tuple #[.int .i64 x, .int .i64 y, .int .i64 e]) := hT (5, 10, (.tuple #[.int .i64 x, .int .i64 y, .int .i64 e])) (by simp [tabP16]) (hdep { on := 5, ground := .data } (by simp) rfl)
      refine wp_value (v := (.int .i64 e)) (w1 := Wx) ?_ ⟨_, rfl, hT.step (i := 8) (d := 13) (v := (.int .i64 e)) (by intro x hx; simp only [tabP16, List.mem_cons, List.not_mem_nil, or_false] at hx; rcases hx with rfl | rfl | rfl | rfl | rfl | rfl | rfl | rfl | rfl | rfl | rfl | rfl <;> simp), t⟩
      clear hdep hC hli ho hT
      first | (go_simp; done) | (go_simp; rfl)
    · cases (show some _ = some o from ho)
      refine wpOp_of ho rfl ?_
      have g6 : f 11 = (.int .i64 x) := hT (6, 11, (.int .i64 x)) (by simp [tabP16]) (hdep { on := 6, ground := .data } (by simp) rfl)
      refine wp_value (v := (.int .i64 x)) (w1 := Wx) ?_ ⟨_, rfl, hT.step (i := 9) (d := 2) (v := (.int .i64 x)) (by intro x hx; simp only [tabP16, List.mem_cons, List.not_mem_nil, or_false] at hx; rcases hx with rfl | rfl | rfl | rfl | rfl | rfl | rfl | rfl | rfl | rfl | rfl | rfl <;> simp), t⟩
      clear hdep hC hli ho hT
      first | (go_simp; done) | (go_simp; rfl)
    · cases (show some _ = some o from ho)
      refine wpOp_of ho rfl ?_
      have g7 : f 12 = (.int .i64 y) := hT (7, 12, (.int .i64 y)) (by simp [tabP16]) (hdep { on := 7, ground := .data } (by simp) rfl)
      refine wp_value (v := (.int .i64 y)) (w1 := Wx) ?_ ⟨_, rfl, hT.step (i := 10) (d := 3) (v := (.int .i64 y)) (by intro x hx; simp only [tabP16, List.mem_cons, List.not_mem_nil, or_false] at hx; rcases hx with rfl | rfl | rfl | rfl | rfl | rfl | rfl | rfl | rfl | rfl | rfl | rfl <;> simp), t⟩
      clear hdep hC hli ho hT
      first | (go_simp; done) | (go_simp; rfl)
    · cases (show some _ = some o from ho)
      refine wpOp_of ho rfl ?_
      have g8 : f 13 = (.int .i64 e) := hT (8, 13, (.int .i64 e)) (by simp [tabP16]) (hdep { on := 8, ground := .data } (by simp) rfl)
      refine wp_value (v := (.int .i64 e)) (w1 := Wx) ?_ ⟨_, rfl, hT.step (i := 11) (d := 4) (v := (.int .i64 e)) (by intro x hx; simp only [tabP16, List.mem_cons, List.not_mem_nil, or_false] at hx; rcases hx with rfl | rfl | rfl | rfl | rfl | rfl | rfl | rfl | rfl | rfl | rfl | rfl <;> simp), t⟩
      clear hdep hC hli ho hT
      first | (go_simp; done) | (go_simp; rfl)
  case fin =>
    rintro listed a Wx hl ⟨f, rfl, hT, t⟩
    have e5 : f 5 = (.slice (some ⟨ad, 0, none⟩) 3 c) := hT (0, 5, (.slice (some ⟨ad, 0, none⟩) 3 c)) (by simp [tabP16]) (hl 0 (by decide))
    have e6 : f 6 = (.agg #[.int .i64 q0, .int .i64 q1]) := hT (1, 6, (.agg #[.int .i64 q0, .int .i64 q1])) (by simp [tabP16]) (hl 1 (by decide))
    have e7 : f 7 = (.slice (some ⟨ad, 0, none⟩) 3 c) := hT (2, 7, (.slice (some ⟨ad, 0, none⟩) 3 c)) (by simp [tabP16]) (hl 2 (by decide))
    have e8 : f 8 = (.pointer (some ⟨ad, 2, none⟩)) := hT (3, 8, (.pointer (some ⟨ad, 2, none⟩))) (by simp [tabP16]) (hl 3 (by decide))
    have e9 : f 9 = (.int .i64 q2) := hT (4, 9, (.int .i64 q2)) (by simp [tabP16]) (hl 4 (by decide))
    have e10 : f 10 = (.tuple #[.int .i64 x, .int .i64 y, .int .i64 e]) := hT (5, 10, (.tuple #[.int .i64 x, .int .i64 y, .int .i64 e])) (by simp [tabP16]) (hl 5 (by decide))
    have e11 : f 11 = (.int .i64 x) := hT (6, 11, (.int .i64 x)) (by simp [tabP16]) (hl 6 (by decide))
    have e12 : f 12 = (.int .i64 y) := hT (7, 12, (.int .i64 y)) (by simp [tabP16]) (hl 7 (by decide))
    have e13 : f 13 = (.int .i64 e) := hT (8, 13, (.int .i64 e)) (by simp [tabP16]) (hl 8 (by decide))
    have e2 : f 2 = (.int .i64 x) := hT (9, 2, (.int .i64 x)) (by simp [tabP16]) (hl 9 (by decide))
    have e3 : f 3 = (.int .i64 y) := hT (10, 3, (.int .i64 y)) (by simp [tabP16]) (hl 10 (by decide))
    have e4 : f 4 = (.int .i64 e) := hT (11, 4, (.int .i64 e)) (by simp [tabP16]) (hl 11 (by decide))
    have T := Lib.hid t
    clear hT hl t hA hO c2
    rw [e5, e6, e7, e8, e9, e10, e11, e12, e13, e2, e3, e4]
    clear e5 e6 e7 e8 e9 e10 e11 e12 e13 e2 e3 e4
    go_wp2_with fail
    go_ret3
    exact ⟨rfl, T.out⟩
def tabP1 (ad c : Nat) (q0 q1 q2 u v x y e : Int) : List (Nat × Nat × Value) := [(0, 5, (.slice (some ⟨ad, 0, none⟩) 3 c)), (1, 6, (.pointer (some ⟨ad, 0, none⟩))), (2, 7, (.int .i64 q0)), (3, 8, (.slice (some ⟨ad, 0, none⟩) 3 c)), (4, 9, (.pointer (some ⟨ad, 1, none⟩))), (5, 10, (.int .i64 q1)), (6, 11, (.agg #[.int .i64 u, .int .i64 v])), (7, 12, (.slice (some ⟨ad, 0, none⟩) 3 c)), (8, 13, (.pointer (some ⟨ad, 2, none⟩))), (9, 14, (.int .i64 q2)), (10, 15, (.tuple #[.int .i64 x, .int .i64 y, .int .i64 e])), (11, 16, (.int .i64 x)), (12, 17, (.int .i64 y)), (13, 18, (.int .i64 e)), (14, 2, (.int .i64 x)), (15, 3, (.int .i64 y)), (16, 4, (.int .i64 e))]
set_option maxRecDepth 100000 in
set_option maxHeartbeats 1000000 in
theorem ps1 (W : World) (ad c : Nat) (q0 q1 q2 : Int) (c0 : W.cell? ⟨ad, 0, none⟩ = some (.int .i64 q0)) (c1 : W.cell? ⟨ad, 1, none⟩ = some (.int .i64 q1)) (c2 : W.cell? ⟨ad, 2, none⟩ = some (.int .i64 q2)) (k2 : Cell64 q2) : Calls Tryz.prog 100 #[.slice (some ⟨ad, 0, none⟩) 3 c] W fun e w' => e = .returned (.tuple #[.int .i64 (floorT (mulP q0 q1) q2).1.1, .int .i64 (floorT (mulP q0 q1) q2).1.2, .int .i64 (floorT (mulP q0 q1) q2).2]) ∧ Touch [] W w' := by
  have hM := fun w => Mul_any q0 q1 w
  have hO := fun w => Floor_tot (mulP q0 q1) q2 (mulP_cell q0 q1).1 (mulP_cell q0 q1).2 k2 w
  obtain ⟨⟨⟨x, y⟩, e⟩, hr⟩ : ∃ r, floorT (mulP q0 q1) q2 = r := ⟨_, rfl⟩
  rw [hr] at hO ⊢
  clear hr
  obtain ⟨⟨u, v⟩, hr⟩ : ∃ r, mulP q0 q1 = r := ⟨_, rfl⟩
  rw [hr] at hM hO
  clear hr k2
  unfold pairW at hM hO
  have hlt0 : (0 : Int) < 3 := by decide
  have hlt1 : (1 : Int) < 3 := by decide
  have hlt2 : (2 : Int) < 3 := by decide
  go_enter Tryz.func100, Tryz.ntmps100
  go_upto_region 1 with fail
  refine region_inv (fun listed a Wx => ∃ f : Nat → Value, a = { tmps := #[(.slice (some ⟨ad, 0, none⟩) 3 c), undef, f 2, f 3, f 4, f 5, f 6, f 7, f 8, f 9, f 10, f 11, f 12, f 13, f 14, f 15, f 16, f 17, f 18], defers := [] } ∧ TabOk (tabP1 ad c q0 q1 q2 u v x y e) listed f ∧ Touch [] W Wx) (by kernel_rfl) (by kernel_rfl) ?h0 ?step ?fin
  case h0 =>
    intro listed hs hl
    exact ⟨fun j => if j = 2 then .int .i64 0 else if j = 3 then .int .i64 0 else if j = 4 then .int .i64 0 else undef, rfl, fun x _ h => (by rw [hl] at h; cases h), (Touch.refl [] W).drew⟩
  case step =>
    rintro listed a Wx ⟨f, rfl, hT, t⟩ hC i o ho hli hdep
    try dsimp only
    have hi : i < 17 := (Array.getElem?_eq_some_iff.1 ho).1
    have x0 := cell_quiet t c0
    have x1 := cell_quiet t c1
    have x2 := cell_quiet t c2
    rcases (by omega : i = 0 ∨ i = 1 ∨ i = 2 ∨ i = 3 ∨ i = 4 ∨ i = 5 ∨ i = 6 ∨ i = 7 ∨ i = 8 ∨ i = 9 ∨ i = 10 ∨ i = 11 ∨ i = 12 ∨ i = 13 ∨ i = 14 ∨ i = 15 ∨ i = 16) with rfl | rfl | rfl | rfl | rfl | rfl | rfl | rfl | rfl | rfl | rfl | rfl | rfl | rfl | rfl | rfl | rfl
    · cases (show some _ = some o from ho)
      refine wpOp_of ho rfl ?_
      refine wp_value (v := (.slice (some ⟨ad, 0, none⟩) 3 c)) (w1 := Wx) ?_ ⟨_, rfl, hT.step (i := 0) (d := 5) (v := (.slice (some ⟨ad, 0, none⟩) 3 c)) (by intro x hx; simp only [tabP1, List.mem_cons, List.not_mem_nil, or_false] at hx; rcases hx with rfl | rfl | rfl | rfl | rfl | rfl | rfl | rfl | rfl | rfl | rfl | rfl | rfl | rfl | rfl | rfl | rfl <;> simp), t⟩
      clear hdep hC hli ho hT
      first | (go_simp; done) | (go_simp; rfl)
    · cases (show some _ = some o from ho)
      refine wpOp_of ho rfl ?_
      have g0 : f 5 = (.slice (some ⟨ad, 0, none⟩) 3 c) := hT (0, 5, (.slice (some ⟨ad, 0, none⟩) 3 c)) (by simp [tabP1]) (hdep { on := 0, ground := .data } (by simp) rfl)
      refine wp_value (v := (.pointer (some ⟨ad, 0, none⟩))) (w1 := Wx) ?_ ⟨_, rfl, hT.step (i := 1) (d := 6) (v := (.pointer (some ⟨ad, 0, none⟩))) (by intro x hx; simp only [tabP1, List.mem_cons, List.not_mem_nil, or_false] at hx; rcases hx with rfl | rfl | rfl | rfl | rfl | rfl | rfl | rfl | rfl | rfl | rfl | rfl | rfl | rfl | rfl | rfl | rfl <;> simp), t⟩
      clear hdep hC hli ho hT
      first | (go_simp; done) | (go_simp; rfl)
    · cases (show some _ = some o from ho)
      refine wpOp_of ho rfl ?_
      have g1 : f 6 = (.pointer (some ⟨ad, 0, none⟩)) := hT (1, 6, (.pointer (some ⟨ad, 0, none⟩))) (by simp [tabP1]) (hdep { on := 1, ground := .data } (by simp) rfl)
      refine wp_value (v := (.int .i64 q0)) (w1 := Wx) ?_ ⟨_, rfl, hT.step (i := 2) (d := 7) (v := (.int .i64 q0)) (by intro x hx; simp only [tabP1, List.mem_cons, List.not_mem_nil, or_false] at hx; rcases hx with rfl | rfl | rfl | rfl | rfl | rfl | rfl | rfl | rfl | rfl | rfl | rfl | rfl | rfl | rfl | rfl | rfl <;> simp), t⟩
      clear hdep hC hli ho hT
      first | (go_simp; done) | (go_simp; rfl)
    · cases (show some _ = some o from ho)
      refine wpOp_of ho rfl ?_
      refine wp_value (v := (.slice (some ⟨ad, 0, none⟩) 3 c)) (w1 := Wx) ?_ ⟨_, rfl, hT.step (i := 3) (d := 8) (v := (.slice (some ⟨ad, 0, none⟩) 3 c)) (by intro x hx; simp only [tabP1, List.mem_cons, List.not_mem_nil, or_false] at hx; rcases hx with rfl | rfl | rfl | rfl | rfl | rfl | rfl | rfl | rfl | rfl | rfl | rfl | rfl | rfl | rfl | rfl | rfl <;> simp), t⟩
      clear hdep hC hli ho hT
      first | (go_simp; done) | (go_simp; rfl)
    · cases (show some _ = some o from ho)
      refine wpOp_of ho rfl ?_
      have g3 : f 8 = (.slice (some ⟨ad, 0, none⟩) 3 c) := hT (3, 8, (.slice (some ⟨ad, 0, none⟩) 3 c)) (by simp [tabP1]) (hdep { on := 3, ground := .data } (by simp) rfl)
      refine wp_value (v := (.pointer (some ⟨ad, 1, none⟩))) (w1 := Wx) ?_ ⟨_, rfl, hT.step (i := 4) (d := 9) (v := (.pointer (some ⟨ad, 1, none⟩))) (by intro x hx; simp only [tabP1, List.mem_cons, List.not_mem_nil, or_false] at hx; rcases hx with rfl | rfl | rfl | rfl | rfl | rfl | rfl | rfl | rfl | rfl | rfl | rfl | rfl | rfl | rfl | rfl | rfl <;> simp), t⟩
      clear hdep hC hli ho hT
      first | (go_simp; done) | (go_simp; rfl)
    · cases (show some _ = some o from ho)
      refine wpOp_of ho rfl ?_
      have g4 : f 9 = (.pointer (some ⟨ad, 1, none⟩)) := hT (4, 9, (.pointer (some ⟨ad, 1, none⟩))) (by simp [tabP1]) (hdep { on := 4, ground := .data } (by simp) rfl)
      refine wp_value (v := (.int .i64 q1)) (w1 := Wx) ?_ ⟨_, rfl, hT.step (i := 5) (d := 10) (v := (.int .i64 q1)) (by intro x hx; simp only [tabP1, List.mem_cons, List.not_mem_nil, or_false] at hx; rcases hx with rfl | rfl | rfl | rfl | rfl | rfl | rfl | rfl | rfl | rfl | rfl | rfl | rfl | rfl | rfl | rfl | rfl <;> simp), t⟩
      clear hdep hC hli ho hT
      first | (go_simp; done) | (go_simp; rfl)
    · cases (show some _ = some o from ho)
      refine wpOp_of ho rfl ?_
      have g2 : f 7 = (.int .i64 q0) := hT (2, 7, (.int .i64 q0)) (by simp [tabP1]) (hdep { on := 2, ground := .data } (by simp) rfl)
      have g5 : f 10 = (.int .i64 q1) := hT (5, 10, (.int .i64 q1)) (by simp [tabP1]) (hdep { on := 5, ground := .data } (by simp) rfl)
      refine wp_enter (f := 102) (args := #[.int .i64 q0, .int .i64 q1]) (w1 := Wx) ?_ ((hM Wx).mono ?_)
      · clear hdep hC hli ho hT
        first | (go_simp; done) | (go_simp; rfl)
      · rintro _ W1 ⟨rfl, t1⟩
        exact ⟨_, rfl, _, rfl, hT.step (i := 6) (d := 11) (v := (.agg #[.int .i64 u, .int .i64 v])) (by intro x hx; simp only [tabP1, List.mem_cons, List.not_mem_nil, or_false] at hx; rcases hx with rfl | rfl | rfl | rfl | rfl | rfl | rfl | rfl | rfl | rfl | rfl | rfl | rfl | rfl | rfl | rfl | rfl <;> simp), t.trans t1 (by simp)⟩
    · cases (show some _ = some o from ho)
      refine wpOp_of ho rfl ?_
      refine wp_value (v := (.slice (some ⟨ad, 0, none⟩) 3 c)) (w1 := Wx) ?_ ⟨_, rfl, hT.step (i := 7) (d := 12) (v := (.slice (some ⟨ad, 0, none⟩) 3 c)) (by intro x hx; simp only [tabP1, List.mem_cons, List.not_mem_nil, or_false] at hx; rcases hx with rfl | rfl | rfl | rfl | rfl | rfl | rfl | rfl | rfl | rfl | rfl | rfl | rfl | rfl | rfl | rfl | rfl <;> simp), t⟩
      clear hdep hC hli ho hT
      first | (go_simp; done) | (go_simp; rfl)
    · cases (show some _ = some o from ho)
      refine wpOp_of ho rfl ?_
      have g7 : f 12 = (.slice (some ⟨ad, 0, none⟩) 3 c) := hT (7, 12, (.slice (some ⟨ad, 0, none⟩) 3 c)) (by simp [tabP1]) (hdep { on := 7, ground := .data } (by simp) rfl)
      refine wp_value (v := (.pointer (some ⟨ad, 2, none⟩))) (w1 := Wx) ?_ ⟨_, rfl, hT.step (i := 8) (d := 13) (v := (.pointer (some ⟨ad, 2, none⟩))) (by intro x hx; simp only [tabP1, List.mem_cons, List.not_mem_nil, or_false] at hx; rcases hx with rfl | rfl | rfl | rfl | rfl | rfl | rfl | rfl | rfl | rfl | rfl | rfl | rfl | rfl | rfl | rfl | rfl <;> simp), t⟩
      clear hdep hC hli ho hT
      first | (go_simp; done) | (go_simp; rfl)
    · cases (show some _ = some o from ho)
      refine wpOp_of ho rfl ?_
      have g8 : f 13 = (.pointer (some ⟨ad, 2, none⟩)) := hT (8, 13, (.pointer (some ⟨ad, 2, none⟩))) (by simp [tabP1]) (hdep { on := 8, ground := .data } (by simp) rfl)
      refine wp_value (v := (.int .i64 q2)) (w1 := Wx) ?_ ⟨_, rfl, hT.step (i := 9) (d := 14) (v := (.int .i64 q2)) (by intro x hx; simp only [tabP1, List.mem_cons, List.not_mem_nil, or_false] at hx; rcases hx with rfl | rfl | rfl | rfl | rfl | rfl | rfl | rfl | rfl | rfl | rfl | rfl | rfl | rfl | rfl | rfl | rfl <;> simp), t⟩
      clear hdep hC hli ho hT
      first | (go_simp; done) | (go_simp; rfl)
    · cases (show some _ = some o from ho)
      refine wpOp_of ho rfl ?_
      have g6 : f 11 = (.agg #[.int .i64 u, .int .i64 v]) := hT (6, 11, (.agg #[.int .i64 u, .int .i64 v])) (by simp [tabP1]) (hdep { on := 6, ground := .data } (by simp) rfl)
      have g9 : f 14 = (.int .i64 q2) := hT (9, 14, (.int .i64 q2)) (by simp [tabP1]) (hdep { on := 9, ground := .data } (by simp) rfl)
      refine wp_enter (f := 101) (args := #[(.agg #[.int .i64 u, .int .i64 v]), .int .i64 q2]) (w1 := Wx) ?_ ((hO Wx).mono ?_)
      · clear hdep hC hli ho hT
        first | (go_simp; done) | (go_simp; rfl)
      · rintro _ W1 ⟨rfl, t1⟩
        exact ⟨_, rfl, _, rfl, hT.step (i := 10) (d := 15) (v := (.tuple #[.int .i64 x, .int .i64 y, .int .i64 e])) (by intro x hx; simp only [tabP1, List.mem_cons, List.not_mem_nil, or_false] at hx; rcases hx with rfl | rfl | rfl | rfl | rfl | rfl | rfl | rfl | rfl | rfl | rfl | rfl | rfl | rfl | rfl | rfl | rfl <;> simp), t.trans t1 (by simp)⟩
    · cases (show some _ = some o from ho)
      refine wpOp_of ho rfl ?_
      have g10 : f 15 = (.tuple #[.int .i64 x, .int .i64 y, .int .i64 e]) := hT (10, 15, (.tuple #[.int .i64 x, .int .i64 y, .int .i64 e])) (by simp [tabP1]) (hdep { on := 10, ground := .data } (by simp) rfl)
      refine wp_value (v := (.int .i64 x)) (w1 := Wx) ?_ ⟨_, rfl, hT.step (i := 11) (d := 16) (v := (.int .i64 x)) (by intro x hx; simp only [tabP1, List.mem_cons, List.not_mem_nil, or_false] at hx; rcases hx with rfl | rfl | rfl | rfl | rfl | rfl | rfl | rfl | rfl | rfl | rfl | rfl | rfl | rfl | rfl | rfl | rfl <;> simp), t⟩
      clear hdep hC hli ho hT
      first | (go_simp; done) | (go_simp; rfl)
    · cases (show some _ = some o from ho)
      refine wpOp_of ho rfl ?_
      have g10 : f 15 = (.tuple #[.int .i64 x, .int .i64 y, .int .i64 e]) := hT (10, 15, (.tuple #[.int .i64 x, .int .i64 y, .int .i64 e])) (by simp [tabP1]) (hdep { on := 10, ground := .data } (by simp) rfl)
      refine wp_value (v := (.int .i64 y)) (w1 := Wx) ?_ ⟨_, rfl, hT.step (i := 12) (d := 17) (v := (.int .i64 y)) (by intro x hx; simp only [tabP1, List.mem_cons, List.not_mem_nil, or_false] at hx; rcases hx with rfl | rfl | rfl | rfl | rfl | rfl | rfl | rfl | rfl | rfl | rfl | rfl | rfl | rfl | rfl | rfl | rfl <;> simp), t⟩
      clear hdep hC hli ho hT
      first | (go_simp; done) | (go_simp; rfl)
    · cases (show some _ = some o from ho)
      refine wpOp_of ho rfl ?_
      have g10 : f 15 = (.tuple #[.int .i64 x, .int .i64 y, .int .i64 e]) := hT (10, 15, (.tuple #[.int .i64 x, .int .i64 y, .int .i64 e])) (by simp [tabP1]) (hdep { on := 10, ground := .data } (by simp) rfl)
      refine wp_value (v := (.int .i64 e)) (w1 := Wx) ?_ ⟨_, rfl, hT.step (i := 13) (d := 18) (v := (.int .i64 e)) (by intro x hx; simp only [tabP1, List.mem_cons, List.not_mem_nil, or_false] at hx; rcases hx with rfl | rfl | rfl | rfl | rfl | rfl | rfl | rfl | rfl | rfl | rfl | rfl | rfl | rfl | rfl | rfl | rfl <;> simp), t⟩
      clear hdep hC hli ho hT
      first | (go_simp; done) | (go_simp; rfl)
    · cases (show some _ = some o from ho)
      refine wpOp_of ho rfl ?_
      have g11 : f 16 = (.int .i64 x) := hT (11, 16, (.int .i64 x)) (by simp [tabP1]) (hdep { on := 11, ground := .data } (by simp) rfl)
      refine wp_value (v := (.int .i64 x)) (w1 := Wx) ?_ ⟨_, rfl, hT.step (i := 14) (d := 2) (v := (.int .i64 x)) (by intro x hx; simp only [tabP1, List.mem_cons, List.not_mem_nil, or_false] at hx; rcases hx with rfl | rfl | rfl | rfl | rfl | rfl | rfl | rfl | rfl | rfl | rfl | rfl | rfl | rfl | rfl | rfl | rfl <;> simp), t⟩
      clear hdep hC hli ho hT
      first | (go_simp; done) | (go_simp; rfl)
    · cases (show some _ = some o from ho)
      refine wpOp_of ho rfl ?_
      have g12 : f 17 = (.int .i64 y) := hT (12, 17, (.int .i64 y)) (by simp [tabP1]) (hdep { on := 12, ground := .data } (by simp) rfl)
      refine wp_value (v := (.int .i64 y)) (w1 := Wx) ?_ ⟨_, rfl, hT.step (i := 15) (d := 3) (v := (.int .i64 y)) (by intro x hx; simp only [tabP1, List.mem_cons, List.not_mem_nil, or_false] at hx; rcases hx with rfl | rfl | rfl | rfl | rfl | rfl | rfl | rfl | rfl | rfl | rfl | rfl | rfl | rfl | rfl | rfl | rfl <;> simp), t⟩
      clear hdep hC hli ho hT
      first | (go_simp; done) | (go_simp; rfl)
    · cases (show some _ = some o from ho)
      refine wpOp_of ho rfl ?_
      have g13 : f 18 = (.int .i64 e) := hT (13, 18, (.int .i64 e)) (by simp [tabP1]) (hdep { on := 13, ground := .data } (by simp) rfl)
      refine wp_value (v := (.int .i64 e)) (w1 := Wx) ?_ ⟨_, rfl, hT.step (i := 16) (d := 4) (v := (.int .i64 e)) (by intro x hx; simp only [tabP1, List.mem_cons, List.not_mem_nil, or_false] at hx; rcases hx with rfl | rfl | rfl | rfl | rfl | rfl | rfl | rfl | rfl | rfl | rfl | rfl | rfl | rfl | rfl | rfl | rfl <;> simp), t⟩
      clear hdep hC hli ho hT
      first | (go_simp; done) | (go_simp; rfl)
  case fin =>
    rintro listed a Wx hl ⟨f, rfl, hT, t⟩
    have e5 : f 5 = (.slice (some ⟨ad, 0, none⟩) 3 c) := hT (0, 5, (.slice (some ⟨ad, 0, none⟩) 3 c)) (by simp [tabP1]) (hl 0 (by decide))
    have e6 : f 6 = (.pointer (some ⟨ad, 0, none⟩)) := hT (1, 6, (.pointer (some ⟨ad, 0, none⟩))) (by simp [tabP1]) (hl 1 (by decide))
    have e7 : f 7 = (.int .i64 q0) := hT (2, 7, (.int .i64 q0)) (by simp [tabP1]) (hl 2 (by decide))
    have e8 : f 8 = (.slice (some ⟨ad, 0, none⟩) 3 c) := hT (3, 8, (.slice (some ⟨ad, 0, none⟩) 3 c)) (by simp [tabP1]) (hl 3 (by decide))
    have e9 : f 9 = (.pointer (some ⟨ad, 1, none⟩)) := hT (4, 9, (.pointer (some ⟨ad, 1, none⟩))) (by simp [tabP1]) (hl 4 (by decide))
    have e10 : f 10 = (.int .i64 q1) := hT (5, 10, (.int .i64 q1)) (by simp [tabP1]) (hl 5 (by decide))
    have e11 : f 11 = (.agg #[.int .i64 u, .int .i64 v]) := hT (6, 11, (.agg #[.int .i64 u, .int .i64 v])) (by simp [tabP1]) (hl 6 (by decide))
    have e12 : f 12 = (.slice (some ⟨ad, 0, none⟩) 3 c) := hT (7, 12, (.slice (some ⟨ad, 0, none⟩) 3 c)) (by simp [tabP1]) (hl 7 (by decide))
    have e13 : f 13 = (.pointer (some ⟨ad, 2, none⟩)) := hT (8, 13, (.pointer (some ⟨ad, 2, none⟩))) (by simp [tabP1]) (hl 8 (by decide))
    have e14 : f 14 = (.int .i64 q2) := hT (9, 14, (.int .i64 q2)) (by simp [tabP1]) (hl 9 (by decide))
    have e15 : f 15 = (.tuple #[.int .i64 x, .int .i64 y, .int .i64 e]) := hT (10, 15, (.tuple #[.int .i64 x, .int .i64 y, .int .i64 e])) (by simp [tabP1]) (hl 10 (by decide))
    have e16 : f 16 = (.int .i64 x) := hT (11, 16, (.int .i64 x)) (by simp [tabP1]) (hl 11 (by decide))
    have e17 : f 17 = (.int .i64 y) := hT (12, 17, (.int .i64 y)) (by simp [tabP1]) (hl 12 (by decide))
    have e18 : f 18 = (.int .i64 e) := hT (13, 18, (.int .i64 e)) (by simp [tabP1]) (hl 13 (by decide))
    have e2 : f 2 = (.int .i64 x) := hT (14, 2, (.int .i64 x)) (by simp [tabP1]) (hl 14 (by decide))
    have e3 : f 3 = (.int .i64 y) := hT (15, 3, (.int .i64 y)) (by simp [tabP1]) (hl 15 (by decide))
    have e4 : f 4 = (.int .i64 e) := hT (16, 4, (.int .i64 e)) (by simp [tabP1]) (hl 16 (by decide))
    have T := Lib.hid t
    clear hT hl t hM hO c0 c1 c2
    rw [e5, e6, e7, e8, e9, e10, e11, e12, e13, e14, e15, e16, e17, e18, e2, e3, e4]
    clear e5 e6 e7 e8 e9 e10 e11 e12 e13 e14 e15 e16 e17 e18 e2 e3 e4
    go_wp2_with fail
    go_ret3
    exact ⟨rfl, T.out⟩
set_option maxRecDepth 100000 in
set_option maxHeartbeats 1000000 in
theorem ps18 (W : World) (ad c : Nat) (q0 q1 : Int) (c0 : W.cell? ⟨ad, 0, none⟩ = some (.int .i64 q0)) (c1 : W.cell? ⟨ad, 1, none⟩ = some (.int .i64 q1))  : Calls Tryz.prog 134 #[.slice (some ⟨ad, 0, none⟩) 2 c] W fun e w' => e = .returned (.tuple #[.int .i64 (divModT q0 q1).1.1, .int .i64 (divModT q0 q1).1.2, .int .i64 (divModT q0 q1).2]) ∧ Touch [] W w' := by
  have hQ := fun w => TwoR_any 14 (by decide) q0 q1 w
  have hR := fun w => TwoR_any 15 (by decide) q0 q1 w
  unfold divModT
  obtain ⟨⟨x, e⟩, hx⟩ : ∃ r, twoR 14 q0 q1 = r := ⟨_, rfl⟩
  obtain ⟨⟨y, e2⟩, hy⟩ : ∃ r, twoR 15 q0 q1 = r := ⟨_, rfl⟩
  rw [hx] at hQ ⊢
  rw [hy] at hR ⊢
  clear hx hy
  have r0 := cell_quiet ((Touch.refl [] W).drew) c0
  have r1 := cell_quiet ((Touch.refl [] W).drew) c1
  have HC := Lib.hid (And.intro c0 c1)
  have H0 := Lib.hid ((Touch.refl [] W).drew)
  clear c0 c1
  go_enter Tryz.func134, Tryz.ntmps134
  go_upto_region 1 with fail
  go_cut [5, 6] from 9 to 18 (fun xv ev wx => xv = .int .i64 x ∧ ev = .int .i64 e ∧ Touch [] W wx)
  case first =>
    go_region_with (go_at_call 77; refine (hQ _).mono ?_; rintro _ w1 ⟨rfl, t1⟩)
    all_goals (go_wp2_with fail; go_meet; exact ⟨rfl, rfl, t1.of_drew⟩)
  case rest =>
    obtain ⟨rfl, rfl, t1⟩ := hcut
    clear r0 r1
    have r0 := cell_quiet t1.drew HC.out.1
    have r1 := cell_quiet t1.drew HC.out.2
    have T1 := Lib.hid t1.drew
    clear t1
    go_upto_region 2 with fail
    go_region_with (go_at_call 77; refine (hR _).mono ?_; rintro _ w2 ⟨rfl, t2⟩; have T2 := Lib.hid (T1.out.trans t2 (by simp)); clear t2)
    all_goals go_wp2_with fail
    all_goals go_ret3
    all_goals exact ⟨rfl, T2.out⟩
set_option maxRecDepth 100000 in
set_option maxHeartbeats 1000000 in
theorem ps19 (W : World) (ad c : Nat) (q0 : Int) (c0 : W.cell? ⟨ad, 0, none⟩ = some (.int .i64 q0))  : Calls Tryz.prog 135 #[.slice (some ⟨ad, 0, none⟩) 1 c] W fun e w' => e = .returned (.int .i64 (Rl.madeOf (floatOfInt .f64 q0))) ∧ Touch [] W w' := by
  have hO := fun w => Rl.of_any q0 w
  obtain ⟨z, hz⟩ : ∃ z, Rl.madeOf (floatOfInt .f64 q0) = z := ⟨_, rfl⟩
  rw [hz] at hO ⊢
  clear hz
  go_enter Tryz.func135, Tryz.ntmps135
  go_wp2_with fail
  refine (hO _).mono ?_
  rintro _ _ ⟨rfl, rfl⟩
  go_wp2_with fail
  go_ret
  exact ⟨rfl, Touch.refl _ _⟩
set_option maxRecDepth 100000 in
set_option maxHeartbeats 1000000 in
theorem ps20 (W : World) (ad c : Nat) (q0 : Int) (c0 : W.cell? ⟨ad, 0, none⟩ = some (.int .i64 q0))  : Calls Tryz.prog 137 #[.slice (some ⟨ad, 0, none⟩) 1 c] W fun e w' => e = .returned (.tuple #[.int .i64 (Rl.toR q0).1, .int .i64 (Rl.toR q0).2]) ∧ Touch [] W w' := by
  have hO := fun w => Rl.to_any q0 w
  obtain ⟨⟨x, e⟩, hz⟩ : ∃ z, Rl.toR q0 = z := ⟨_, rfl⟩
  rw [hz] at hO ⊢
  clear hz
  go_enter Tryz.func137, Tryz.ntmps137
  go_wp2_with fail
  refine (hO _).mono ?_
  rintro _ w1 ⟨rfl, t1⟩
  have T1 := Lib.hid t1
  clear t1
  go_wp2_with fail
  go_ret2
  exact ⟨rfl, T1.out⟩
set_option maxHeartbeats 1000000 in
theorem ps17 (W : World) (ad b c : Nat) (q0 q1 q2 : Int) (c0 : W.cell? ⟨ad, 0, none⟩ = some (.int .i64 q0)) (c1 : W.cell? ⟨ad, 1, none⟩ = some (.int .i64 q1)) (c2 : W.cell? ⟨ad, 2, none⟩ = some (.int .i64 q2)) (k2 : Cell64 q2)
    (hB : Blk W b 144 #[.func (.func 100) #[] #[]]) : Calls Tryz.prog 133 #[.slice (some ⟨ad, 0, none⟩) 3 c, .pointer (some ⟨b, 0, none⟩)] W fun e w' => e = .returned (.tuple #[.int .i64 (floorT (mulP q0 q1) q2).1.2, .int .i64 (floorT (mulP q0 q1) q2).2]) ∧ Touch [] W w' := by
  have hO := ps1 W ad c q0 q1 q2 c0 c1 c2 k2
  have b0 := hB.cell 0
  have hent : ∀ (args : Array Value) (w : World), (callFunc 100 args).run Tryz.prog w = .ok (.enter 100 args) w := enters_of Tryz.func100 (by kernel_rfl) rfl
  obtain ⟨⟨⟨x, y⟩, e⟩, hr⟩ : ∃ r, floorT (mulP q0 q1) q2 = r := ⟨_, rfl⟩
  rw [hr] at hO ⊢
  clear hr c0 c1 c2 k2 hB
  go_enter Tryz.func133, Tryz.ntmps133
  go_wp2_with fail
  refine hO.mono ?_
  rintro _ w1 ⟨rfl, t1⟩
  have T1 := Lib.hid t1
  clear t1 hO
  go_wp2_with fail
  go_ret2
  exact ⟨rfl, T1.out⟩
end Go.Proofs.YtkbchpaofmlhgaaGreatDoor
