/- recog: the closures for names, numbers and letters. -/
import Derived.Test.YtgdmiodcfdcihaaGreatDoorLocal
import Derived.Test.YtgdmiodcfdcihaaGreatDoorDict2
import Derived.Test.YtgdmiodcfdcihaaGreatDoorNumber
import Derived.Deep.Cut
namespace Go.Proofs.YtgdmiodcfdcihaaGreatDoor
open Go.RowKit

theorem five_over {w : World} {g : Nat} {t : TypeId} {a b c d e : Value} (h : Blk w g t #[a, b, c, d, e]) (x y z u v : Value) (o : Obj) (W : World)
    (hW : W = (((((w.setCell ⟨g, 0, none⟩ x).setCell ⟨g, 1, none⟩ y).setCell ⟨g, 2, none⟩ z).setCell ⟨g, 3, none⟩ u).setCell ⟨g, 4, none⟩ v).alloc o) :
    W.cell? ⟨g, 0, none⟩ = some x ∧ W.cell? ⟨g, 1, none⟩ = some y ∧ W.cell? ⟨g, 2, none⟩ = some z ∧ W.cell? ⟨g, 3, none⟩ = some u ∧ W.cell? ⟨g, 4, none⟩ = some v := by
  subst hW
  have hb := (h.five x y z u v).alloc o
  exact ⟨hb.cell 0, hb.cell 1, hb.cell 2, hb.cell 3, hb.cell 4⟩
theorem five_back {w : World} {g : Nat} {t : TypeId} {a b c d e : Value} (h : Blk w g t #[a, b, c, d, e]) (x y z u v : Value) :
    (w.setCell ⟨g, 0, none⟩ x).cell? ⟨g, 0, none⟩ = some x ∧ ((w.setCell ⟨g, 0, none⟩ x).setCell ⟨g, 1, none⟩ y).cell? ⟨g, 1, none⟩ = some y ∧
    (((w.setCell ⟨g, 0, none⟩ x).setCell ⟨g, 1, none⟩ y).setCell ⟨g, 2, none⟩ z).cell? ⟨g, 2, none⟩ = some z ∧
    ((((w.setCell ⟨g, 0, none⟩ x).setCell ⟨g, 1, none⟩ y).setCell ⟨g, 2, none⟩ z).setCell ⟨g, 3, none⟩ u).cell? ⟨g, 3, none⟩ = some u ∧
    (((((w.setCell ⟨g, 0, none⟩ x).setCell ⟨g, 1, none⟩ y).setCell ⟨g, 2, none⟩ z).setCell ⟨g, 3, none⟩ u).setCell ⟨g, 4, none⟩ v).cell? ⟨g, 4, none⟩ = some v :=
  ⟨(h.set_ 0 x).cell 0, ((h.set_ 0 x).set_ 1 y).cell 1, (((h.set_ 0 x).set_ 1 y).set_ 2 z).cell 2, ((((h.set_ 0 x).set_ 1 y).set_ 2 z).set_ 3 u).cell 3, (h.five x y z u v).cell 4⟩

def zeroKnown : Array Value := #[.int .i64 0, .int .i64 0, .bool false, .int .i64 0, .int .i64 0]

set_option maxRecDepth 100000 in
set_option maxHeartbeats 800000 in
theorem Name_any (s : ByteArray) (hs : s.size ≤ 100000) (D : Nat) (F : List Nat) (H : List Head) (bD bS : Nat) (w : World) (h : DictAt w D F H) (cD : w.cell? ⟨bD, 0, none⟩ = some (.pointer (some ⟨D, 0, none⟩))) (cS : w.cell? ⟨bS, 0, none⟩ = some (.string s)) (hD : bD < w.heap.size) (hS : bS < w.heap.size) :
    Calls Tryz.prog 32 #[.pointer (some ⟨bD, 0, none⟩), .pointer (some ⟨bS, 0, none⟩)] w fun e w' =>
      e = .returned (.tuple #[(⟨1, ((lookH H (foldB s) H.length).getD Head.none).xt, ((lookH H (foldB s) H.length).getD Head.none).now, 0, 0⟩ : KnownV).v, .bool (lookH H (foldB s) H.length).isSome]) ∧ Touch [] w w' := by
  have hfi := Find_any (w.alloc (.cells zeroKnown 27)) D F H (h.quiet ((Touch.refl _ _).alloc _)) s hs
  obtain ⟨R, hR⟩ : ∃ R, lookH H (foldB s) H.length = R := ⟨_, rfl⟩
  rw [hR] at hfi ⊢
  obtain ⟨x, hx⟩ : ∃ x, R.getD Head.none = x := ⟨_, rfl⟩
  obtain ⟨b, hb⟩ : ∃ b, R.isSome = b := ⟨_, rfl⟩
  rw [show foundV R = .tuple #[x.v, .bool b] by rw [← hx, ← hb]; rfl] at hfi
  rw [hx, hb]
  clear hR hs h hx hb
  unfold zeroKnown at hfi
  go_enter Tryz.func32, Tryz.ntmps32
  go_wp2_with fail
  refine hfi.mono ?_
  rintro _ w1 ⟨rfl, t1⟩
  have bK : Blk w1 w.heap.size 27 #[.int .i64 0, .int .i64 0, .bool false, .int .i64 0, .int .i64 0] := (Blk.new w _ _).touch t1 (by simp)
  have tw : Touch [] w w1 := ((Touch.refl [] w).alloc _).trans t1 (by simp)
  clear t1
  unfold Head.v
  go_upto_region 2 with (fail)
  have bA := Blk.new w1 45 #[.string x.name, .int .i64 x.xt, .bool x.now]
  have bK := bK.alloc (.cells #[.string x.name, .int .i64 x.xt, .bool x.now] 45)
  have tw := tw.alloc (.cells #[.string x.name, .int .i64 x.xt, .bool x.now] 45)
  generalize w1.alloc (.cells #[.string x.name, .int .i64 x.xt, .bool x.now] 45) = wA at *
  have a1 := bA.cell 1
  have a2 := bA.cell 2
  have k0 := bK.cell 0
  have k1 := bK.cell 1
  have k2 := bK.cell 2
  have k3 := bK.cell 3
  have k4 := bK.cell 4
  have j0 := bK.frozen 0
  have j1 := bK.frozen 1
  have j2 := bK.frozen 2
  have j3 := bK.frozen 3
  have j4 := bK.frozen 4
  go_wp2_with fail
  obtain ⟨z0, z1, z2, z3, z4⟩ := five_back bK (.int .i64 1) (.int .i64 x.xt) (.bool x.now) (.int .i64 0) (.int .i64 0)
  refine bodyPost_ret (by simp [results, Tryz.results32, go_sem, z0, z1, z2, z3, z4]; try rfl) rfl ⟨rfl, ?_⟩
  exact five_touch tw (.inr (Nat.le_refl _)) _ _ _ _ _

set_option maxRecDepth 100000 in
theorem number_any (s : ByteArray) (hs : s.size ≤ 200) (base : Int) (hb : 2 ≤ base) (hb' : base ≤ 36) (kind : Int) (w : World) :
    Calls Tryz.prog 35 #[.string s, .int .i64 base, .int .i64 kind] w fun e w' => e = .returned (.tuple #[pairW (numF s base).1, .bool ((numF s base).2 == kind)]) ∧ Touch [] w w' := by
  have hn := Number_any s hs base hb hb' (w.alloc (.cells #[.int .i64 0, .int .i64 0] 33))
  obtain ⟨⟨⟨p0, p1⟩, k⟩, hR⟩ : ∃ R, numF s base = R := ⟨_, rfl⟩
  rw [hR] at hn ⊢
  clear hR hs hb hb'
  go_enter Tryz.func35, Tryz.ntmps35
  go_wp2_with fail
  refine hn.mono ?_
  rintro _ w1 ⟨rfl, t1⟩
  have b6 := Blk.new_at2 t1 rfl
  have tw : Touch [] w w1 := ((Touch.refl [] w).alloc _).trans t1 (by simp)
  clear t1
  unfold pairW
  go_upto_region 2 with (fail)
  have bA := Blk.new w1 33 #[.int .i64 p0, .int .i64 p1]
  have b6 := b6.alloc (.cells #[.int .i64 p0, .int .i64 p1] 33)
  have tw := tw.alloc (.cells #[.int .i64 p0, .int .i64 p1] 33)
  generalize w1.alloc (.cells #[.int .i64 p0, .int .i64 p1] 33) = wA at *
  have a0 := bA.cell 0
  have a1 := bA.cell 1
  have e0 := b6.cell 0
  have e1 := b6.cell 1
  have f0 := b6.frozen 0
  have f1 := b6.frozen 1
  go_wp2_with fail
  obtain ⟨z0, z1⟩ := two_back b6 (.int .i64 p0) (.int .i64 p1)
  refine bodyPost_ret (by simp [results, Tryz.results35, go_sem, z0, z1]; try rfl) rfl ⟨rfl, ?_⟩
  exact (tw.setCell (.inr (Nat.le_refl _)) _).setCell (.inr (Nat.le_refl _)) _
end Go.Proofs.YtgdmiodcfdcihaaGreatDoor
