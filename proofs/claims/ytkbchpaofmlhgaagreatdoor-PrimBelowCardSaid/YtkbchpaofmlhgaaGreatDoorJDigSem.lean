import Derived.Test.YtkbchpaofmlhgaaGreatDoorJDigT
/- prim's digits as operations, at any cells. -/
namespace Go.Proofs.YtkbchpaofmlhgaaGreatDoor
open Go.RowKit

/-- digits that are made: one, or all -/
def digF (all : Bool) (l : List Int) (S : PS) : (List Int × Int) × PS :=
  if ¬ (2 ≤ S.base ∧ S.base ≤ 36) then (([l.getD 0 0, l.getD 1 0], -40), S)
  else if all = true then
    if S.made.length + (digL S.base.toNat (numP (l.getD 0 0, l.getD 1 0))).length ≤ 200 then (([0, 0], 0), { S with made := S.made ++ digL S.base.toNat (numP (l.getD 0 0, l.getD 1 0)) })
    else (([pl (numP (l.getD 0 0, l.getD 1 0) / S.base.toNat ^ (200 - S.made.length + 1)), ph (numP (l.getD 0 0, l.getD 1 0) / S.base.toNat ^ (200 - S.made.length + 1))], -17), S)
  else if S.made.length < 200 then (([pl (numP (l.getD 0 0, l.getD 1 0) / S.base.toNat), ph (numP (l.getD 0 0, l.getD 1 0) / S.base.toNat)], 0), { S with made := S.made ++ [(((digC (numP (l.getD 0 0, l.getD 1 0) % S.base.toNat)).toNat : Nat) : Int)] })
  else (([pl (numP (l.getD 0 0, l.getD 1 0) / S.base.toNat), ph (numP (l.getD 0 0, l.getD 1 0) / S.base.toNat)], -17), S)
theorem dig_clo (W : World) (s g1 g2 ad c : Nat) (all : Bool) (x y : Int) (hx : Cell64 x) (hy : Cell64 y) (F : List Nat) (S : PS) (hS : StateAt W s F S) (hok : S.ok)
    (hg1 : g1 ∉ F) (hg2 : g2 ∉ F) (b1 : Blk W g1 24 #[.pointer (some ⟨s, 0, none⟩)]) (b2 : Blk W g2 4 #[.bool all]) (h0 : W.cell? ⟨ad, 0, none⟩ = some (.int .i64 x)) (h1 : W.cell? ⟨ad, 1, none⟩ = some (.int .i64 y)) :
    Calls Tryz.prog 233 #[.slice (some ⟨ad, 0, none⟩) 2 c, .pointer (some ⟨g1, 0, none⟩), .pointer (some ⟨g2, 0, none⟩)] W (ActDone W s F S (digF all [x, y] S)) := by
  have hn := numP_lt (x, y)
  have e0 : pl (numP (x, y)) = x := pl_numP (x, y) hx
  have e1 : ph (numP (x, y)) = y := ph_numP (x, y) hy
  have hm : S.made.length ≤ 200 := hok.2.1
  unfold digF
  simp only [List.getD_cons_zero, List.getD_cons_succ]
  by_cases hb : 2 ≤ S.base ∧ S.base ≤ 36
  · rw [if_neg (fun h => h hb)]
    have hB : S.base = (S.base.toNat : Int) := by omega
    generalize S.base.toNat = B at hB ⊢
    generalize numP (x, y) = n at hn e0 e1 ⊢
    have h0' : W.cell? ⟨ad, 0, none⟩ = some (.int .i64 (pl n)) := by rw [e0]; exact h0
    have h1' : W.cell? ⟨ad, 1, none⟩ = some (.int .i64 (ph n)) := by rw [e1]; exact h1
    cases all with
    | true =>
      rw [if_pos rfl]
      by_cases hr : S.made.length + (digL B n).length ≤ 200
      · rw [if_pos hr]
        exact digits_cloP W s g1 g2 ad c n B F S hS hok hB (by omega) (by omega) hn hr hg1 hg2 b1 b2 h0' h1'
      · rw [if_neg hr]
        exact digits_good W s g1 g2 ad c true n B F S hS hok hB (by omega) (by omega) hn _ (.inr (.inr ⟨rfl, by omega, 200 - S.made.length, by omega, rfl⟩)) hg1 hg2 b1 b2 h0' h1'
    | false =>
      rw [if_neg (by simp)]
      by_cases hr : S.made.length < 200
      · rw [if_pos hr]
        exact digits_good W s g1 g2 ad c false n B F S hS hok hB (by omega) (by omega) hn _ (.inl ⟨rfl, hr, rfl⟩) hg1 hg2 b1 b2 h0' h1'
      · rw [if_neg hr]
        exact digits_good W s g1 g2 ad c false n B F S hS hok hB (by omega) (by omega) hn _ (.inr (.inl ⟨rfl, hr, rfl⟩)) hg1 hg2 b1 b2 h0' h1'
  · rw [if_pos hb]
    exact digits_bad W s g1 g2 ad c all x y F S hS hok hb hg1 hg2 b1 b2 h0 h1
theorem dig_sem (op : Int) (all : Bool) (h1 : pairsOp op = 0) (h2 : memoryOp op = 0) (hP : ∀ B b s v W, saysPV B b s (saysOp op) v W → DigAct B s all v W) : OpSem op 2 (fun l _ => AllC l) (digF all) := by
  intro W B' s F S t f first cap l lv hok hS hF hfd
  obtain ⟨b, C, hC, hb, hA, hB⟩ := found_says hfd h1 h2
  obtain ⟨g1, g2, k1, k2, b1, b2, e⟩ := hP _ _ _ _ _ hA
  injection e with e
  injection e with e
  injection e with e1 e
  injection e1 with _ e1
  injection e with e2 _
  injection e2 with e2 e3 e4
  injection e2 with e2
  subst e1 e2 e3 e4
  refine ⟨rfl, enters_of Tryz.func233 (by kernel_rfl) rfl, fun hl hpre hc => ActDone.post ?_⟩
  obtain ⟨ad, c, x, y, rfl, rfl, cx, cy⟩ := hc.two hl
  exact dig_clo W s g1 g2 ad c all x y (hpre x (by simp)) (hpre y (by simp)) F S hS hok (fun hm => by have := hF _ hm; omega) (fun hm => by have := hF _ hm; omega) b1 b2 cx cy
end Go.Proofs.YtkbchpaofmlhgaaGreatDoor
