/- recog.All: what a text is by the first of some recognizers; recog.First. -/
import Derived.Test.YtgdmiodcfdcihaaGreatDoorRecog3
namespace Go.Proofs.YtgdmiodcfdcihaaGreatDoor
open Go.RowKit

def allF (K : Int → KnownV) : List Int → KnownV × Nat
  | [] => (KnownV.none, 0)
  | k :: r => if 0 < k then (KnownV.none, 0) else if (K k).kind = 0 then ((allF K r).1, (allF K r).2 + 1) else (K k, 0)

/-- a slice of numbers -/
def Nums (w : World) (a : Option Addr) (l : List Int) : Prop := ∀ j (_ : j < l.length), ∃ g off, a = some ⟨g, off, none⟩ ∧ g < w.heap.size ∧ w.cell? ⟨g, off + j, none⟩ = some (.int .i64 (l.getD j 0))
theorem Nums.quiet {w w' : World} {a : Option Addr} {l : List Int} (h : Nums w a l) (t : Touch [] w w') : Nums w' a l := fun j hj => by
  obtain ⟨g, off, ha, hg, hc⟩ := h j hj
  exact ⟨g, off, ha, Nat.lt_of_lt_of_le hg t.size, (t.cell (p := ⟨g, off + j, none⟩) hg (by simp)).trans hc⟩

set_option maxRecDepth 100000 in
set_option maxHeartbeats 3200000 in
theorem All_any (w : World) (l : List Int) (hlen : l.length ≤ 1000) (a : Option Addr) (c : Nat) (hn : Nums w a l) (vs vd vb vl : Value) (K : Int → KnownV)
    (hone : ∀ k, k < l.length → (∀ i, i < k → (K (l.getD i 0)).kind = 0) → l.getD k 0 ≤ 0 → ∀ w', Touch [] w w' → Calls Tryz.prog 8 #[.int .i64 (l.getD k 0), vs, vd, vb, vl] w' fun e w'' => e = .returned (K (l.getD k 0)).v ∧ Touch [] w' w'') :
    Calls Tryz.prog 13 #[.slice a l.length c, vs, vd, vb, vl] w fun e w' => e = .returned (.tuple #[(allF K l).1.v, .int .i64 (allF K l).2]) ∧ Touch [] w w' := by
  have bK0 : Blk (w.alloc (.cells #[.int .i64 0, .int .i64 0, .bool false, .int .i64 0, .int .i64 0] 27)) w.heap.size 27 #[.int .i64 0, .int .i64 0, .bool false, .int .i64 0, .int .i64 0] := Blk.new w _ _
  have t0 := (Touch.refl [] w).alloc (.cells #[.int .i64 0, .int .i64 0, .bool false, .int .i64 0, .int .i64 0] 27)
  obtain ⟨R, hR⟩ : ∃ R, allF K l = R := ⟨_, rfl⟩
  rw [hR]
  go_enter Tryz.func13, Tryz.ntmps13
  go_wp2_with fail
  generalize hw0 : w.alloc (.cells #[.int .i64 0, .int .i64 0, .bool false, .int .i64 0, .int .i64 0] 27) = w0 at *
  clear hw0
  go_loopw [17] (fun i wr => ∃ k : Nat, k ≤ l.length ∧ i = .int .i64 k ∧ R = ((allF K (l.drop k)).1, (allF K (l.drop k)).2 + k) ∧ Blk wr w.heap.size 27 #[.int .i64 0, .int .i64 0, .bool false, .int .i64 0, .int .i64 0] ∧ Touch [] w wr ∧ ∀ i, i < k → (K (l.getD i 0)).kind = 0) (fun i _ => l.length - (intOf i).toNat)
  case atStart => exact ⟨0, Nat.zero_le _, rfl, by simp [hR], bK0, t0, fun i hi => absurd hi (by omega)⟩
  case round =>
    obtain ⟨k, hk, rfl, hr, bK, tw, hzs⟩ := hrel
    clear hR bK0 t0
    by_cases hlt : k < l.length
    · obtain ⟨g, off, rfl, hg, hc⟩ := (hn.quiet tw) k hlt
      have hd : l.drop k = l.getD k 0 :: l.drop (k + 1) := by
        rw [List.drop_eq_getElem_cons hlt]
        simp [List.getD_eq_getElem?_getD, List.getElem?_eq_getElem hlt]
      have hone' := fun hle => hone k hlt hzs hle wr tw
      obtain ⟨x, hx⟩ : ∃ x, l.getD k 0 = x := ⟨_, rfl⟩
      rw [hx] at hd hc hone'
      rw [hd, allF] at hr
      clear hd hone
      by_cases hpos : 0 < x
      · rw [if_pos hpos] at hr
        clear hx
        have k0 := bK.cell 0
        have k1 := bK.cell 1
        have k2 := bK.cell 2
        have k3 := bK.cell 3
        have k4 := bK.cell 4
        have j0 := bK.frozen 0
        have j1 := bK.frozen 1
        have j2 := bK.frozen 2
        have j3 := bK.frozen 3
        have j4 := bK.frozen 4
        subst hr
        go_wp2_with fail
        obtain ⟨z0, z1, z2, z3, z4⟩ := five_back bK (.int .i64 0) (.int .i64 0) (.bool false) (.int .i64 0) (.int .i64 0)
        refine bodyPost_ret (by simp [results, Tryz.results13, go_sem, z0, z1, z2, z3, z4]; try rfl) rfl ⟨by simp; rfl, ?_⟩
        exact five_touch tw (.inr (Nat.le_refl _)) _ _ _ _ _
      · rw [if_neg hpos] at hr
        have hle : x ≤ 0 := by omega
        have hone' := hone' hle
        have hX := Lib.hid hx
        clear hx
        go_wp2_with fail
        refine hone'.mono ?_
        rintro _ w2 ⟨rfl, t2⟩
        have bK := bK.touch t2 (by simp)
        have tw := tw.trans t2 (by simp)
        obtain ⟨⟨x0, x1, x2, x3, x4⟩, hk'⟩ : ∃ q, K x = q := ⟨_, rfl⟩
        rw [hk'] at hr ⊢
        have hKX := Lib.hid hk'
        clear t2 hk'
        unfold KnownV.v
        go_upto_region 7 with (fail)
        have bA := Blk.new w2 27 #[.int .i64 x0, .int .i64 x1, .bool x2, .int .i64 x3, .int .i64 x4]
        have bK := bK.alloc (.cells #[.int .i64 x0, .int .i64 x1, .bool x2, .int .i64 x3, .int .i64 x4] 27)
        have tw := tw.alloc (.cells #[.int .i64 x0, .int .i64 x1, .bool x2, .int .i64 x3, .int .i64 x4] 27)
        generalize w2.alloc (.cells #[.int .i64 x0, .int .i64 x1, .bool x2, .int .i64 x3, .int .i64 x4] 27) = wA at *
        have k0 := bK.cell 0
        have k1 := bK.cell 1
        have k2 := bK.cell 2
        have k3 := bK.cell 3
        have k4 := bK.cell 4
        have j0 := bK.frozen 0
        have j1 := bK.frozen 1
        have j2 := bK.frozen 2
        have j3 := bK.frozen 3
        have j4 := bK.frozen 4
        have a0 := bA.cell 0
        have a1 := bA.cell 1
        have a2 := bA.cell 2
        have a3 := bA.cell 3
        have a4 := bA.cell 4
        by_cases hz : x0 = 0
        · subst hz
          rw [if_pos rfl] at hr
          go_wp2_with fail
          refine ⟨⟨k + 1, by omega, rfl, by rw [hr]; simp; omega, bK, tw, fun i hi => ?_⟩, ?_⟩
          · by_cases hik : i = k
            · subst hik
              rw [hX.out, hKX.out]
            · exact hzs i (by omega)
          simp only [intOf]
          omega
        · rw [if_neg hz] at hr
          have hz' : (x0 != 0) = true := by simpa using hz
          subst hr
          go_wp2_with fail
          obtain ⟨z0, z1, z2, z3, z4⟩ := five_back bK (.int .i64 x0) (.int .i64 x1) (.bool x2) (.int .i64 x3) (.int .i64 x4)
          refine bodyPost_ret (by simp [results, Tryz.results13, go_sem, z0, z1, z2, z3, z4]; try rfl) rfl ⟨by simp; rfl, ?_⟩
          exact five_touch tw (.inr (Nat.le_refl _)) _ _ _ _ _
    · obtain rfl : k = l.length := by omega
      rw [List.drop_eq_nil_of_le (Nat.le_refl _), allF] at hr
      have k0 := bK.cell 0
      have k1 := bK.cell 1
      have k2 := bK.cell 2
      have k3 := bK.cell 3
      have k4 := bK.cell 4
      have j0 := bK.frozen 0
      have j1 := bK.frozen 1
      have j2 := bK.frozen 2
      have j3 := bK.frozen 3
      have j4 := bK.frozen 4
      subst hr
      go_wp2_with fail
      obtain ⟨z0, z1, z2, z3, z4⟩ := five_back bK (.int .i64 0) (.int .i64 0) (.bool false) (.int .i64 0) (.int .i64 0)
      refine bodyPost_ret (by simp [results, Tryz.results13, go_sem, z0, z1, z2, z3, z4]; try rfl) rfl ⟨by simp; rfl, ?_⟩
      exact five_touch tw (.inr (Nat.le_refl _)) _ _ _ _ _

def firstL : List Int := [-6, -1, -2, -3, -4, -5]
theorem First_any (w : World) : Calls Tryz.prog 14 #[] w fun e w' => ∃ g, e = .returned (.slice (some ⟨g, 0, none⟩) 6 6) ∧ Nums w' (some ⟨g, 0, none⟩) firstL ∧ Touch [] w w' := by
  go_enter Tryz.func14, Tryz.ntmps14
  go_wp2_with fail
  go_ret
  refine ⟨_, rfl, fun j hj => ⟨_, 0, rfl, by simp, ?_⟩, (Touch.refl _ _).alloc _⟩
  have hj' : j < 6 := hj
  rw [Nat.zero_add]
  have := (Blk.new w 3 #[.int .i64 (-6), .int .i64 (-1), .int .i64 (-2), .int .i64 (-3), .int .i64 (-4), .int .i64 (-5)]).cell j
  rw [this]
  rcases (show j = 0 ∨ j = 1 ∨ j = 2 ∨ j = 3 ∨ j = 4 ∨ j = 5 by omega) with rfl | rfl | rfl | rfl | rfl | rfl <;> rfl
end Go.Proofs.YtgdmiodcfdcihaaGreatDoor
