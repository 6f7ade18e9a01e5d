/- recog.One at the recognizer of real numbers. (Printed by wip/recogr.py.) -/
import Derived.Test.YtgdmiodcfdcihaaGreatDoorShown16
import Derived.Test.YtgdmiodcfdcihaaGreatDoorNumAny3
namespace Go.Proofs.YtgdmiodcfdcihaaGreatDoor
open Go.RowKit

/-- the tables and errors that real.Number looks into -/
structure Tabs (w : World) : Prop where
  tz : TzTab w
  max : MaxIs w
  err : ErrIs w
  rng : RngIs w
theorem Tabs.touch {w w' : World} (h : Tabs w) (t : Touch [] w w') : Tabs w' := ⟨h.tz.touch t, h.max.touch t, h.err.touch t, h.rng.touch t⟩
def GivenR (w : World) (s : ByteArray) (D : Nat) (F : List Nat) (H : List Head) (base : Int) (a : Option Addr) (cap : Nat) (zs : List Small) : Prop := Given w s D F H base a cap zs ∧ Tabs w
theorem GivenR.quiet {w w' : World} {s : ByteArray} {D : Nat} {F : List Nat} {H : List Head} {base : Int} {a : Option Addr} {cap : Nat} {zs : List Small} (h : GivenR w s D F H base a cap zs) (t : Touch [] w w') : GivenR w' s D F H base a cap zs :=
  ⟨h.1.quiet t, h.2.touch t⟩

set_option maxRecDepth 100000 in
theorem RealR_any (s : ByteArray) (v : Int) (b : Bool) (hN : NumIs s v b) (bS : Nat) (w : World) (hT : Tabs w) (cS : w.cell? ⟨bS, 0, none⟩ = some (.string s)) (hS : bS < w.heap.size) :
    Calls Tryz.prog 38 #[.pointer (some ⟨bS, 0, none⟩)] w fun e w' =>
      e = .returned (.tuple #[(⟨2, 0, false, v, 0⟩ : KnownV).v, .bool b]) ∧ Touch [] w w' := by
  have hT1 := hT.touch ((Touch.refl [] w).alloc (.cells #[.int .i64 0, .int .i64 0, .bool false, .int .i64 0, .int .i64 0] 27))
  have hn := hN _ hT1.tz hT1.max hT1.err hT1.rng
  clear hT hT1 hN
  go_enter Tryz.func38, Tryz.ntmps38
  go_wp2_with fail
  refine hn.mono ?_
  rintro _ w1 ⟨rfl, t1⟩
  have bK : Blk w1 w.heap.size 27 #[.int .i64 0, .int .i64 0, .bool false, .int .i64 0, .int .i64 0] := (Blk.new w _ _).touch t1 (by simp)
  have tw : Touch [] w w1 := ((Touch.refl [] w).alloc _).trans t1 (by simp)
  clear t1
  have k0 := bK.cell 0
  have k1 := bK.cell 1
  have k2 := bK.cell 2
  have k3 := bK.cell 3
  have k4 := bK.cell 4
  have j0 := bK.frozen 0
  have j1 := bK.frozen 1
  have j2 := bK.frozen 2
  have j3 := bK.frozen 3
  have j4 := bK.frozen 4
  go_wp2_with fail
  obtain ⟨z0, z1, z2, z3, z4⟩ := five_back bK (.int .i64 2) (.int .i64 0) (.bool false) (.int .i64 v) (.int .i64 0)
  refine bodyPost_ret (by simp [results, Tryz.results38, go_sem, z0, z1, z2, z3, z4]; try rfl) rfl ⟨rfl, ?_⟩
  exact five_touch tw (.inr (Nat.le_refl _)) _ _ _ _ _

set_option maxRecDepth 100000 in
set_option maxHeartbeats 1600000 in
theorem One_real (w : World) (s : ByteArray) (D : Nat) (F : List Nat) (H : List Head) (base : Int) (a : Option Addr) (cap : Nat) (zs : List Small) (fv : Int) (fb : Bool) (hN : NumIs s fv fb) (g : GivenR w s D F H base a cap zs) :
    Calls Tryz.prog 8 #[.int .i64 (-5), .string s, .pointer (some ⟨D, 0, none⟩), .int .i64 base, .slice a zs.length cap] w fun e w' =>
      e = .returned (toldK ⟨2, 0, false, fv, 0⟩ fb).v ∧ Touch [] w w' := by
  have hcall : ∀ w2 n, GivenR w2 s D F H base a cap zs → Blk w2 n 9 #[.string s] → Blk w2 (n + 1) 24 #[.pointer (some ⟨D, 0, none⟩)] → Blk w2 (n + 2) 3 #[.int .i64 base] → Blk w2 (n + 3) 34 #[.slice a zs.length cap] →
      Calls Tryz.prog 38 #[.pointer (some ⟨n, 0, none⟩)] w2 fun e w' => e = .returned (.tuple #[(⟨2, 0, false, fv, 0⟩ : KnownV).v, .bool fb]) ∧ Touch [] w2 w' := by
    intro w2 n g b0 b1 b2 b3
    exact RealR_any s fv fb hN n w2 g.2 (b0.cell 0) b0.lt
  have has := asks_any s D base a zs.length cap (w.alloc (.cells #[.int .i64 0, .int .i64 0, .bool false, .int .i64 0, .int .i64 0] 27))
  have g0 := g.quiet ((Touch.refl [] w).alloc (.cells #[.int .i64 0, .int .i64 0, .bool false, .int .i64 0, .int .i64 0] 27))
  obtain ⟨⟨x0, x1, x2, x3, x4⟩, hk⟩ : ∃ k : KnownV, ⟨2, 0, false, fv, 0⟩ = k := ⟨_, rfl⟩
  obtain ⟨ok, ho⟩ : ∃ ok : Bool, fb = ok := ⟨_, rfl⟩
  clear hN
  simp only [hk, ho] at hcall ⊢
  clear hk ho g
  obtain ⟨n, hn⟩ : ∃ n, (w.alloc (.cells #[.int .i64 0, .int .i64 0, .bool false, .int .i64 0, .int .i64 0] 27)).heap.size = n := ⟨_, rfl⟩
  rw [hn] at has
  go_enter Tryz.func8, Tryz.ntmps8
  go_wp2_with fail
  refine has.mono ?_
  rintro _ w1 ⟨rfl, hm, t1, b0, b1, b2, b3⟩
  have g1 := g0.quiet t1
  have bK := (Blk.new w 27 #[.int .i64 0, .int .i64 0, .bool false, .int .i64 0, .int .i64 0]).touch t1 (by simp)
  have tw : Touch [] w w1 := ((Touch.refl [] w).alloc _).trans t1 (by simp)
  have hl := (hm.lookup (P := Tryz.prog) Tryz.underlying58 Tryz.underlying3 (x := -5) rfl).2
  clear t1 g0 hn has
  go_wp2_with fail
  refine (hcall w1 n g1 b0 b1 b2 b3).mono ?_
  rintro _ w2 ⟨rfl, t2⟩
  have bK := bK.touch t2 (by simp)
  have tw := tw.trans t2 (by simp)
  clear t2 b0 b1 b2 b3 g1 hl hm hcall
  unfold KnownV.v
  go_upto_region 5 with (fail)
  have bA := Blk.new w2 27 #[.int .i64 x0, .int .i64 x1, .bool x2, .int .i64 x3, .int .i64 x4]
  have bK := bK.alloc (.cells #[.int .i64 x0, .int .i64 x1, .bool x2, .int .i64 x3, .int .i64 x4] 27)
  have tw := tw.alloc (.cells #[.int .i64 x0, .int .i64 x1, .bool x2, .int .i64 x3, .int .i64 x4] 27)
  generalize w2.alloc (.cells #[.int .i64 x0, .int .i64 x1, .bool x2, .int .i64 x3, .int .i64 x4] 27) = wA at *
  have k0 := bK.cell 0
  have k1 := bK.cell 1
  have k2 := bK.cell 2
  have k3 := bK.cell 3
  have k4 := bK.cell 4
  have j0 := bK.frozen 0
  have j1 := bK.frozen 1
  have j2 := bK.frozen 2
  have j3 := bK.frozen 3
  have j4 := bK.frozen 4
  have a0 := bA.cell 0
  have a1 := bA.cell 1
  have a2 := bA.cell 2
  have a3 := bA.cell 3
  have a4 := bA.cell 4
  cases ok with
  | true =>
    go_wp2_with fail
    obtain ⟨z0, z1, z2, z3, z4⟩ := five_back bK (.int .i64 x0) (.int .i64 x1) (.bool x2) (.int .i64 x3) (.int .i64 x4)
    refine bodyPost_ret (by simp [results, Tryz.results8, go_sem, z0, z1, z2, z3, z4]; try rfl) rfl ⟨rfl, ?_⟩
    exact five_touch tw (.inr (Nat.le_refl _)) _ _ _ _ _
  | false =>
    go_wp2_with fail
    obtain ⟨z0, z1, z2, z3, z4⟩ := five_back bK (.int .i64 0) (.int .i64 0) (.bool false) (.int .i64 0) (.int .i64 0)
    refine bodyPost_ret (by simp [results, Tryz.results8, go_sem, z0, z1, z2, z3, z4]; try rfl) rfl ⟨rfl, ?_⟩
    exact five_touch tw (.inr (Nat.le_refl _)) _ _ _ _ _

end Go.Proofs.YtgdmiodcfdcihaaGreatDoor
