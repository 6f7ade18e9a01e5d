/- recog.One: what a text is by one recognizer. (Printed by wip/recog3.py.) -/
import Derived.Test.YtgdmiodcfdcihaaGreatDoorRecog2
namespace Go.Proofs.YtgdmiodcfdcihaaGreatDoor
open Go.RowKit

/-- what recognizers are given: a text, a dictionary of one list, a base, locals -/
structure Given (w : World) (s : ByteArray) (D : Nat) (F : List Nat) (H : List Head) (base : Int) (a : Option Addr) (cap : Nat) (zs : List Small) : Prop where
  text : s.size ≤ 200
  dict : DictAt w D F H
  base0 : 2 ≤ base
  base1 : base ≤ 36
  locs : Texts w.heap.size w (.slice a zs.length cap) zs
  few : zs.length ≤ 1000
theorem Texts.more {n m : Nat} {w : World} {sv : Value} {zs : List Small} (hn : n ≤ m) : Texts n w sv zs → Texts m w sv zs
  | ⟨a, cap, e, .inl h0⟩ => ⟨a, cap, e, .inl h0⟩
  | ⟨a, cap, e, .inr ⟨b, off, ha, hb, hc⟩⟩ => ⟨a, cap, e, .inr ⟨b, off, ha, Nat.lt_of_lt_of_le hb hn, hc⟩⟩
theorem Given.quiet {w w' : World} {s : ByteArray} {D : Nat} {F : List Nat} {H : List Head} {base : Int} {a : Option Addr} {cap : Nat} {zs : List Small} (h : Given w s D F H base a cap zs) (t : Touch [] w w') : Given w' s D F H base a cap zs :=
  ⟨h.text, h.dict.quiet t, h.base0, h.base1, (h.locs.below (t.below (Nat.le_refl _) (by simp))).more t.size, h.few⟩

/-- told just where it is so -/
def toldK (k : KnownV) (ok : Bool) : KnownV := if ok then k else KnownV.none

theorem known_zero : KnownV.none.v = .agg #[.int .i64 0, .int .i64 0, .bool false, .int .i64 0, .int .i64 0] := rfl

set_option maxRecDepth 100000 in
set_option maxHeartbeats 1600000 in
theorem One_name (w : World) (s : ByteArray) (D : Nat) (F : List Nat) (H : List Head) (base : Int) (a : Option Addr) (cap : Nat) (zs : List Small) (g : Given w s D F H base a cap zs) :
    Calls Tryz.prog 8 #[.int .i64 (-1), .string s, .pointer (some ⟨D, 0, none⟩), .int .i64 base, .slice a zs.length cap] w fun e w' =>
      e = .returned (toldK ⟨1, ((lookH H (foldB s) H.length).getD Head.none).xt, ((lookH H (foldB s) H.length).getD Head.none).now, 0, 0⟩ (lookH H (foldB s) H.length).isSome).v ∧ Touch [] w w' := by
  have hcall : ∀ w2 n, Given w2 s D F H base a cap zs → Blk w2 n 9 #[.string s] → Blk w2 (n + 1) 24 #[.pointer (some ⟨D, 0, none⟩)] → Blk w2 (n + 2) 3 #[.int .i64 base] → Blk w2 (n + 3) 34 #[.slice a zs.length cap] →
      Calls Tryz.prog 32 #[.pointer (some ⟨n + 1, 0, none⟩), .pointer (some ⟨n, 0, none⟩)] w2 fun e w' => e = .returned (.tuple #[(⟨1, ((lookH H (foldB s) H.length).getD Head.none).xt, ((lookH H (foldB s) H.length).getD Head.none).now, 0, 0⟩ : KnownV).v, .bool (lookH H (foldB s) H.length).isSome]) ∧ Touch [] w2 w' := by
    intro w2 n g b0 b1 b2 b3
    exact Name_any s (Nat.le_trans g.text (by omega)) D F H (n + 1) n w2 g.dict (b1.cell 0) (b0.cell 0) b1.lt b0.lt
  have has := asks_any s D base a zs.length cap (w.alloc (.cells #[.int .i64 0, .int .i64 0, .bool false, .int .i64 0, .int .i64 0] 27))
  have g0 := g.quiet ((Touch.refl [] w).alloc (.cells #[.int .i64 0, .int .i64 0, .bool false, .int .i64 0, .int .i64 0] 27))
  obtain ⟨⟨x0, x1, x2, x3, x4⟩, hk⟩ : ∃ k : KnownV, ⟨1, ((lookH H (foldB s) H.length).getD Head.none).xt, ((lookH H (foldB s) H.length).getD Head.none).now, 0, 0⟩ = k := ⟨_, rfl⟩
  obtain ⟨ok, ho⟩ : ∃ ok : Bool, (lookH H (foldB s) H.length).isSome = ok := ⟨_, rfl⟩
  simp only [hk, ho] at hcall ⊢
  clear hk ho g
  obtain ⟨n, hn⟩ : ∃ n, (w.alloc (.cells #[.int .i64 0, .int .i64 0, .bool false, .int .i64 0, .int .i64 0] 27)).heap.size = n := ⟨_, rfl⟩
  rw [hn] at has
  go_enter Tryz.func8, Tryz.ntmps8
  go_wp2_with fail
  refine has.mono ?_
  rintro _ w1 ⟨rfl, hm, t1, b0, b1, b2, b3⟩
  have g1 := g0.quiet t1
  have bK := (Blk.new w 27 #[.int .i64 0, .int .i64 0, .bool false, .int .i64 0, .int .i64 0]).touch t1 (by simp)
  have tw : Touch [] w w1 := ((Touch.refl [] w).alloc _).trans t1 (by simp)
  have hl := (hm.lookup (P := Tryz.prog) Tryz.underlying58 Tryz.underlying3 (x := -1) rfl).2
  clear t1 g0 hn has
  go_wp2_with fail
  refine (hcall w1 n g1 b0 b1 b2 b3).mono ?_
  rintro _ w2 ⟨rfl, t2⟩
  have bK := bK.touch t2 (by simp)
  have tw := tw.trans t2 (by simp)
  clear t2 b0 b1 b2 b3 g1 hl hm hcall
  unfold KnownV.v
  go_upto_region 5 with (fail)
  have bA := Blk.new w2 27 #[.int .i64 x0, .int .i64 x1, .bool x2, .int .i64 x3, .int .i64 x4]
  have bK := bK.alloc (.cells #[.int .i64 x0, .int .i64 x1, .bool x2, .int .i64 x3, .int .i64 x4] 27)
  have tw := tw.alloc (.cells #[.int .i64 x0, .int .i64 x1, .bool x2, .int .i64 x3, .int .i64 x4] 27)
  generalize w2.alloc (.cells #[.int .i64 x0, .int .i64 x1, .bool x2, .int .i64 x3, .int .i64 x4] 27) = wA at *
  have k0 := bK.cell 0
  have k1 := bK.cell 1
  have k2 := bK.cell 2
  have k3 := bK.cell 3
  have k4 := bK.cell 4
  have j0 := bK.frozen 0
  have j1 := bK.frozen 1
  have j2 := bK.frozen 2
  have j3 := bK.frozen 3
  have j4 := bK.frozen 4
  have a0 := bA.cell 0
  have a1 := bA.cell 1
  have a2 := bA.cell 2
  have a3 := bA.cell 3
  have a4 := bA.cell 4
  cases ok with
  | true =>
    go_wp2_with fail
    obtain ⟨z0, z1, z2, z3, z4⟩ := five_back bK (.int .i64 x0) (.int .i64 x1) (.bool x2) (.int .i64 x3) (.int .i64 x4)
    refine bodyPost_ret (by simp [results, Tryz.results8, go_sem, z0, z1, z2, z3, z4]; try rfl) rfl ⟨rfl, ?_⟩
    exact five_touch tw (.inr (Nat.le_refl _)) _ _ _ _ _
  | false =>
    go_wp2_with fail
    obtain ⟨z0, z1, z2, z3, z4⟩ := five_back bK (.int .i64 0) (.int .i64 0) (.bool false) (.int .i64 0) (.int .i64 0)
    refine bodyPost_ret (by simp [results, Tryz.results8, go_sem, z0, z1, z2, z3, z4]; try rfl) rfl ⟨rfl, ?_⟩
    exact five_touch tw (.inr (Nat.le_refl _)) _ _ _ _ _

set_option maxRecDepth 100000 in
set_option maxHeartbeats 1600000 in
theorem One_cell (w : World) (s : ByteArray) (D : Nat) (F : List Nat) (H : List Head) (base : Int) (a : Option Addr) (cap : Nat) (zs : List Small) (g : Given w s D F H base a cap zs) :
    Calls Tryz.prog 8 #[.int .i64 (-2), .string s, .pointer (some ⟨D, 0, none⟩), .int .i64 base, .slice a zs.length cap] w fun e w' =>
      e = .returned (toldK ⟨2, 0, false, (numF s base).1.1, 0⟩ ((numF s base).2 == 1)).v ∧ Touch [] w w' := by
  have hcall : ∀ w2 n, Given w2 s D F H base a cap zs → Blk w2 n 9 #[.string s] → Blk w2 (n + 1) 24 #[.pointer (some ⟨D, 0, none⟩)] → Blk w2 (n + 2) 3 #[.int .i64 base] → Blk w2 (n + 3) 34 #[.slice a zs.length cap] →
      Calls Tryz.prog 34 #[.pointer (some ⟨n, 0, none⟩), .pointer (some ⟨n + 2, 0, none⟩)] w2 fun e w' => e = .returned (.tuple #[(⟨2, 0, false, (numF s base).1.1, 0⟩ : KnownV).v, .bool ((numF s base).2 == 1)]) ∧ Touch [] w2 w' := by
    intro w2 n g b0 b1 b2 b3
    exact Cell_any s g.text base g.base0 g.base1 n (n + 2) w2 (b0.cell 0) (b2.cell 0) b0.lt b2.lt
  have has := asks_any s D base a zs.length cap (w.alloc (.cells #[.int .i64 0, .int .i64 0, .bool false, .int .i64 0, .int .i64 0] 27))
  have g0 := g.quiet ((Touch.refl [] w).alloc (.cells #[.int .i64 0, .int .i64 0, .bool false, .int .i64 0, .int .i64 0] 27))
  obtain ⟨⟨x0, x1, x2, x3, x4⟩, hk⟩ : ∃ k : KnownV, ⟨2, 0, false, (numF s base).1.1, 0⟩ = k := ⟨_, rfl⟩
  obtain ⟨ok, ho⟩ : ∃ ok : Bool, ((numF s base).2 == 1) = ok := ⟨_, rfl⟩
  simp only [hk, ho] at hcall ⊢
  clear hk ho g
  obtain ⟨n, hn⟩ : ∃ n, (w.alloc (.cells #[.int .i64 0, .int .i64 0, .bool false, .int .i64 0, .int .i64 0] 27)).heap.size = n := ⟨_, rfl⟩
  rw [hn] at has
  go_enter Tryz.func8, Tryz.ntmps8
  go_wp2_with fail
  refine has.mono ?_
  rintro _ w1 ⟨rfl, hm, t1, b0, b1, b2, b3⟩
  have g1 := g0.quiet t1
  have bK := (Blk.new w 27 #[.int .i64 0, .int .i64 0, .bool false, .int .i64 0, .int .i64 0]).touch t1 (by simp)
  have tw : Touch [] w w1 := ((Touch.refl [] w).alloc _).trans t1 (by simp)
  have hl := (hm.lookup (P := Tryz.prog) Tryz.underlying58 Tryz.underlying3 (x := -2) rfl).2
  clear t1 g0 hn has
  go_wp2_with fail
  refine (hcall w1 n g1 b0 b1 b2 b3).mono ?_
  rintro _ w2 ⟨rfl, t2⟩
  have bK := bK.touch t2 (by simp)
  have tw := tw.trans t2 (by simp)
  clear t2 b0 b1 b2 b3 g1 hl hm hcall
  unfold KnownV.v
  go_upto_region 5 with (fail)
  have bA := Blk.new w2 27 #[.int .i64 x0, .int .i64 x1, .bool x2, .int .i64 x3, .int .i64 x4]
  have bK := bK.alloc (.cells #[.int .i64 x0, .int .i64 x1, .bool x2, .int .i64 x3, .int .i64 x4] 27)
  have tw := tw.alloc (.cells #[.int .i64 x0, .int .i64 x1, .bool x2, .int .i64 x3, .int .i64 x4] 27)
  generalize w2.alloc (.cells #[.int .i64 x0, .int .i64 x1, .bool x2, .int .i64 x3, .int .i64 x4] 27) = wA at *
  have k0 := bK.cell 0
  have k1 := bK.cell 1
  have k2 := bK.cell 2
  have k3 := bK.cell 3
  have k4 := bK.cell 4
  have j0 := bK.frozen 0
  have j1 := bK.frozen 1
  have j2 := bK.frozen 2
  have j3 := bK.frozen 3
  have j4 := bK.frozen 4
  have a0 := bA.cell 0
  have a1 := bA.cell 1
  have a2 := bA.cell 2
  have a3 := bA.cell 3
  have a4 := bA.cell 4
  cases ok with
  | true =>
    go_wp2_with fail
    obtain ⟨z0, z1, z2, z3, z4⟩ := five_back bK (.int .i64 x0) (.int .i64 x1) (.bool x2) (.int .i64 x3) (.int .i64 x4)
    refine bodyPost_ret (by simp [results, Tryz.results8, go_sem, z0, z1, z2, z3, z4]; try rfl) rfl ⟨rfl, ?_⟩
    exact five_touch tw (.inr (Nat.le_refl _)) _ _ _ _ _
  | false =>
    go_wp2_with fail
    obtain ⟨z0, z1, z2, z3, z4⟩ := five_back bK (.int .i64 0) (.int .i64 0) (.bool false) (.int .i64 0) (.int .i64 0)
    refine bodyPost_ret (by simp [results, Tryz.results8, go_sem, z0, z1, z2, z3, z4]; try rfl) rfl ⟨rfl, ?_⟩
    exact five_touch tw (.inr (Nat.le_refl _)) _ _ _ _ _

set_option maxRecDepth 100000 in
set_option maxHeartbeats 1600000 in
theorem One_pair (w : World) (s : ByteArray) (D : Nat) (F : List Nat) (H : List Head) (base : Int) (a : Option Addr) (cap : Nat) (zs : List Small) (g : Given w s D F H base a cap zs) :
    Calls Tryz.prog 8 #[.int .i64 (-3), .string s, .pointer (some ⟨D, 0, none⟩), .int .i64 base, .slice a zs.length cap] w fun e w' =>
      e = .returned (toldK ⟨3, 0, false, (numF s base).1.1, (numF s base).1.2⟩ ((numF s base).2 == 2)).v ∧ Touch [] w w' := by
  have hcall : ∀ w2 n, Given w2 s D F H base a cap zs → Blk w2 n 9 #[.string s] → Blk w2 (n + 1) 24 #[.pointer (some ⟨D, 0, none⟩)] → Blk w2 (n + 2) 3 #[.int .i64 base] → Blk w2 (n + 3) 34 #[.slice a zs.length cap] →
      Calls Tryz.prog 36 #[.pointer (some ⟨n, 0, none⟩), .pointer (some ⟨n + 2, 0, none⟩)] w2 fun e w' => e = .returned (.tuple #[(⟨3, 0, false, (numF s base).1.1, (numF s base).1.2⟩ : KnownV).v, .bool ((numF s base).2 == 2)]) ∧ Touch [] w2 w' := by
    intro w2 n g b0 b1 b2 b3
    exact Pair_any s g.text base g.base0 g.base1 n (n + 2) w2 (b0.cell 0) (b2.cell 0) b0.lt b2.lt
  have has := asks_any s D base a zs.length cap (w.alloc (.cells #[.int .i64 0, .int .i64 0, .bool false, .int .i64 0, .int .i64 0] 27))
  have g0 := g.quiet ((Touch.refl [] w).alloc (.cells #[.int .i64 0, .int .i64 0, .bool false, .int .i64 0, .int .i64 0] 27))
  obtain ⟨⟨x0, x1, x2, x3, x4⟩, hk⟩ : ∃ k : KnownV, ⟨3, 0, false, (numF s base).1.1, (numF s base).1.2⟩ = k := ⟨_, rfl⟩
  obtain ⟨ok, ho⟩ : ∃ ok : Bool, ((numF s base).2 == 2) = ok := ⟨_, rfl⟩
  simp only [hk, ho] at hcall ⊢
  clear hk ho g
  obtain ⟨n, hn⟩ : ∃ n, (w.alloc (.cells #[.int .i64 0, .int .i64 0, .bool false, .int .i64 0, .int .i64 0] 27)).heap.size = n := ⟨_, rfl⟩
  rw [hn] at has
  go_enter Tryz.func8, Tryz.ntmps8
  go_wp2_with fail
  refine has.mono ?_
  rintro _ w1 ⟨rfl, hm, t1, b0, b1, b2, b3⟩
  have g1 := g0.quiet t1
  have bK := (Blk.new w 27 #[.int .i64 0, .int .i64 0, .bool false, .int .i64 0, .int .i64 0]).touch t1 (by simp)
  have tw : Touch [] w w1 := ((Touch.refl [] w).alloc _).trans t1 (by simp)
  have hl := (hm.lookup (P := Tryz.prog) Tryz.underlying58 Tryz.underlying3 (x := -3) rfl).2
  clear t1 g0 hn has
  go_wp2_with fail
  refine (hcall w1 n g1 b0 b1 b2 b3).mono ?_
  rintro _ w2 ⟨rfl, t2⟩
  have bK := bK.touch t2 (by simp)
  have tw := tw.trans t2 (by simp)
  clear t2 b0 b1 b2 b3 g1 hl hm hcall
  unfold KnownV.v
  go_upto_region 5 with (fail)
  have bA := Blk.new w2 27 #[.int .i64 x0, .int .i64 x1, .bool x2, .int .i64 x3, .int .i64 x4]
  have bK := bK.alloc (.cells #[.int .i64 x0, .int .i64 x1, .bool x2, .int .i64 x3, .int .i64 x4] 27)
  have tw := tw.alloc (.cells #[.int .i64 x0, .int .i64 x1, .bool x2, .int .i64 x3, .int .i64 x4] 27)
  generalize w2.alloc (.cells #[.int .i64 x0, .int .i64 x1, .bool x2, .int .i64 x3, .int .i64 x4] 27) = wA at *
  have k0 := bK.cell 0
  have k1 := bK.cell 1
  have k2 := bK.cell 2
  have k3 := bK.cell 3
  have k4 := bK.cell 4
  have j0 := bK.frozen 0
  have j1 := bK.frozen 1
  have j2 := bK.frozen 2
  have j3 := bK.frozen 3
  have j4 := bK.frozen 4
  have a0 := bA.cell 0
  have a1 := bA.cell 1
  have a2 := bA.cell 2
  have a3 := bA.cell 3
  have a4 := bA.cell 4
  cases ok with
  | true =>
    go_wp2_with fail
    obtain ⟨z0, z1, z2, z3, z4⟩ := five_back bK (.int .i64 x0) (.int .i64 x1) (.bool x2) (.int .i64 x3) (.int .i64 x4)
    refine bodyPost_ret (by simp [results, Tryz.results8, go_sem, z0, z1, z2, z3, z4]; try rfl) rfl ⟨rfl, ?_⟩
    exact five_touch tw (.inr (Nat.le_refl _)) _ _ _ _ _
  | false =>
    go_wp2_with fail
    obtain ⟨z0, z1, z2, z3, z4⟩ := five_back bK (.int .i64 0) (.int .i64 0) (.bool false) (.int .i64 0) (.int .i64 0)
    refine bodyPost_ret (by simp [results, Tryz.results8, go_sem, z0, z1, z2, z3, z4]; try rfl) rfl ⟨rfl, ?_⟩
    exact five_touch tw (.inr (Nat.le_refl _)) _ _ _ _ _

set_option maxRecDepth 100000 in
set_option maxHeartbeats 1600000 in
theorem One_char (w : World) (s : ByteArray) (D : Nat) (F : List Nat) (H : List Head) (base : Int) (a : Option Addr) (cap : Nat) (zs : List Small) (g : Given w s D F H base a cap zs) :
    Calls Tryz.prog 8 #[.int .i64 (-4), .string s, .pointer (some ⟨D, 0, none⟩), .int .i64 base, .slice a zs.length cap] w fun e w' =>
      e = .returned (toldK (charK (charF s)) (charF s).isSome).v ∧ Touch [] w w' := by
  have hcall : ∀ w2 n, Given w2 s D F H base a cap zs → Blk w2 n 9 #[.string s] → Blk w2 (n + 1) 24 #[.pointer (some ⟨D, 0, none⟩)] → Blk w2 (n + 2) 3 #[.int .i64 base] → Blk w2 (n + 3) 34 #[.slice a zs.length cap] →
      Calls Tryz.prog 37 #[.pointer (some ⟨n, 0, none⟩)] w2 fun e w' => e = .returned (.tuple #[((charK (charF s)) : KnownV).v, .bool (charF s).isSome]) ∧ Touch [] w2 w' := by
    intro w2 n g b0 b1 b2 b3
    exact Char_any s n w2 (b0.cell 0) b0.lt
  have has := asks_any s D base a zs.length cap (w.alloc (.cells #[.int .i64 0, .int .i64 0, .bool false, .int .i64 0, .int .i64 0] 27))
  have g0 := g.quiet ((Touch.refl [] w).alloc (.cells #[.int .i64 0, .int .i64 0, .bool false, .int .i64 0, .int .i64 0] 27))
  obtain ⟨⟨x0, x1, x2, x3, x4⟩, hk⟩ : ∃ k : KnownV, (charK (charF s)) = k := ⟨_, rfl⟩
  obtain ⟨ok, ho⟩ : ∃ ok : Bool, (charF s).isSome = ok := ⟨_, rfl⟩
  simp only [hk, ho] at hcall ⊢
  clear hk ho g
  obtain ⟨n, hn⟩ : ∃ n, (w.alloc (.cells #[.int .i64 0, .int .i64 0, .bool false, .int .i64 0, .int .i64 0] 27)).heap.size = n := ⟨_, rfl⟩
  rw [hn] at has
  go_enter Tryz.func8, Tryz.ntmps8
  go_wp2_with fail
  refine has.mono ?_
  rintro _ w1 ⟨rfl, hm, t1, b0, b1, b2, b3⟩
  have g1 := g0.quiet t1
  have bK := (Blk.new w 27 #[.int .i64 0, .int .i64 0, .bool false, .int .i64 0, .int .i64 0]).touch t1 (by simp)
  have tw : Touch [] w w1 := ((Touch.refl [] w).alloc _).trans t1 (by simp)
  have hl := (hm.lookup (P := Tryz.prog) Tryz.underlying58 Tryz.underlying3 (x := -4) rfl).2
  clear t1 g0 hn has
  go_wp2_with fail
  refine (hcall w1 n g1 b0 b1 b2 b3).mono ?_
  rintro _ w2 ⟨rfl, t2⟩
  have bK := bK.touch t2 (by simp)
  have tw := tw.trans t2 (by simp)
  clear t2 b0 b1 b2 b3 g1 hl hm hcall
  unfold KnownV.v
  go_upto_region 5 with (fail)
  have bA := Blk.new w2 27 #[.int .i64 x0, .int .i64 x1, .bool x2, .int .i64 x3, .int .i64 x4]
  have bK := bK.alloc (.cells #[.int .i64 x0, .int .i64 x1, .bool x2, .int .i64 x3, .int .i64 x4] 27)
  have tw := tw.alloc (.cells #[.int .i64 x0, .int .i64 x1, .bool x2, .int .i64 x3, .int .i64 x4] 27)
  generalize w2.alloc (.cells #[.int .i64 x0, .int .i64 x1, .bool x2, .int .i64 x3, .int .i64 x4] 27) = wA at *
  have k0 := bK.cell 0
  have k1 := bK.cell 1
  have k2 := bK.cell 2
  have k3 := bK.cell 3
  have k4 := bK.cell 4
  have j0 := bK.frozen 0
  have j1 := bK.frozen 1
  have j2 := bK.frozen 2
  have j3 := bK.frozen 3
  have j4 := bK.frozen 4
  have a0 := bA.cell 0
  have a1 := bA.cell 1
  have a2 := bA.cell 2
  have a3 := bA.cell 3
  have a4 := bA.cell 4
  cases ok with
  | true =>
    go_wp2_with fail
    obtain ⟨z0, z1, z2, z3, z4⟩ := five_back bK (.int .i64 x0) (.int .i64 x1) (.bool x2) (.int .i64 x3) (.int .i64 x4)
    refine bodyPost_ret (by simp [results, Tryz.results8, go_sem, z0, z1, z2, z3, z4]; try rfl) rfl ⟨rfl, ?_⟩
    exact five_touch tw (.inr (Nat.le_refl _)) _ _ _ _ _
  | false =>
    go_wp2_with fail
    obtain ⟨z0, z1, z2, z3, z4⟩ := five_back bK (.int .i64 0) (.int .i64 0) (.bool false) (.int .i64 0) (.int .i64 0)
    refine bodyPost_ret (by simp [results, Tryz.results8, go_sem, z0, z1, z2, z3, z4]; try rfl) rfl ⟨rfl, ?_⟩
    exact five_touch tw (.inr (Nat.le_refl _)) _ _ _ _ _

set_option maxRecDepth 100000 in
set_option maxHeartbeats 1600000 in
theorem One_local (w : World) (s : ByteArray) (D : Nat) (F : List Nat) (H : List Head) (base : Int) (a : Option Addr) (cap : Nat) (zs : List Small) (g : Given w s D F H base a cap zs) :
    Calls Tryz.prog 8 #[.int .i64 (-6), .string s, .pointer (some ⟨D, 0, none⟩), .int .i64 base, .slice a zs.length cap] w fun e w' =>
      e = .returned (toldK (localK (lastF zs (foldB s) zs.length)) (lastF zs (foldB s) zs.length).isSome).v ∧ Touch [] w w' := by
  have hcall : ∀ w2 n, Given w2 s D F H base a cap zs → Blk w2 n 9 #[.string s] → Blk w2 (n + 1) 24 #[.pointer (some ⟨D, 0, none⟩)] → Blk w2 (n + 2) 3 #[.int .i64 base] → Blk w2 (n + 3) 34 #[.slice a zs.length cap] →
      Calls Tryz.prog 40 #[.pointer (some ⟨n, 0, none⟩), .pointer (some ⟨n + 3, 0, none⟩)] w2 fun e w' => e = .returned (.tuple #[((localK (lastF zs (foldB s) zs.length)) : KnownV).v, .bool (lastF zs (foldB s) zs.length).isSome]) ∧ Touch [] w2 w' := by
    intro w2 n g b0 b1 b2 b3
    exact Local_any s (Nat.le_trans g.text (by omega)) zs g.few (.slice a zs.length cap) n (n + 3) w2 (b0.cell 0) (b3.cell 0) b0.lt b3.lt g.locs
  have has := asks_any s D base a zs.length cap (w.alloc (.cells #[.int .i64 0, .int .i64 0, .bool false, .int .i64 0, .int .i64 0] 27))
  have g0 := g.quiet ((Touch.refl [] w).alloc (.cells #[.int .i64 0, .int .i64 0, .bool false, .int .i64 0, .int .i64 0] 27))
  obtain ⟨⟨x0, x1, x2, x3, x4⟩, hk⟩ : ∃ k : KnownV, (localK (lastF zs (foldB s) zs.length)) = k := ⟨_, rfl⟩
  obtain ⟨ok, ho⟩ : ∃ ok : Bool, (lastF zs (foldB s) zs.length).isSome = ok := ⟨_, rfl⟩
  simp only [hk, ho] at hcall ⊢
  clear hk ho g
  obtain ⟨n, hn⟩ : ∃ n, (w.alloc (.cells #[.int .i64 0, .int .i64 0, .bool false, .int .i64 0, .int .i64 0] 27)).heap.size = n := ⟨_, rfl⟩
  rw [hn] at has
  go_enter Tryz.func8, Tryz.ntmps8
  go_wp2_with fail
  refine has.mono ?_
  rintro _ w1 ⟨rfl, hm, t1, b0, b1, b2, b3⟩
  have g1 := g0.quiet t1
  have bK := (Blk.new w 27 #[.int .i64 0, .int .i64 0, .bool false, .int .i64 0, .int .i64 0]).touch t1 (by simp)
  have tw : Touch [] w w1 := ((Touch.refl [] w).alloc _).trans t1 (by simp)
  have hl := (hm.lookup (P := Tryz.prog) Tryz.underlying58 Tryz.underlying3 (x := -6) rfl).2
  clear t1 g0 hn has
  go_wp2_with fail
  refine (hcall w1 n g1 b0 b1 b2 b3).mono ?_
  rintro _ w2 ⟨rfl, t2⟩
  have bK := bK.touch t2 (by simp)
  have tw := tw.trans t2 (by simp)
  clear t2 b0 b1 b2 b3 g1 hl hm hcall
  unfold KnownV.v
  go_upto_region 5 with (fail)
  have bA := Blk.new w2 27 #[.int .i64 x0, .int .i64 x1, .bool x2, .int .i64 x3, .int .i64 x4]
  have bK := bK.alloc (.cells #[.int .i64 x0, .int .i64 x1, .bool x2, .int .i64 x3, .int .i64 x4] 27)
  have tw := tw.alloc (.cells #[.int .i64 x0, .int .i64 x1, .bool x2, .int .i64 x3, .int .i64 x4] 27)
  generalize w2.alloc (.cells #[.int .i64 x0, .int .i64 x1, .bool x2, .int .i64 x3, .int .i64 x4] 27) = wA at *
  have k0 := bK.cell 0
  have k1 := bK.cell 1
  have k2 := bK.cell 2
  have k3 := bK.cell 3
  have k4 := bK.cell 4
  have j0 := bK.frozen 0
  have j1 := bK.frozen 1
  have j2 := bK.frozen 2
  have j3 := bK.frozen 3
  have j4 := bK.frozen 4
  have a0 := bA.cell 0
  have a1 := bA.cell 1
  have a2 := bA.cell 2
  have a3 := bA.cell 3
  have a4 := bA.cell 4
  cases ok with
  | true =>
    go_wp2_with fail
    obtain ⟨z0, z1, z2, z3, z4⟩ := five_back bK (.int .i64 x0) (.int .i64 x1) (.bool x2) (.int .i64 x3) (.int .i64 x4)
    refine bodyPost_ret (by simp [results, Tryz.results8, go_sem, z0, z1, z2, z3, z4]; try rfl) rfl ⟨rfl, ?_⟩
    exact five_touch tw (.inr (Nat.le_refl _)) _ _ _ _ _
  | false =>
    go_wp2_with fail
    obtain ⟨z0, z1, z2, z3, z4⟩ := five_back bK (.int .i64 0) (.int .i64 0) (.bool false) (.int .i64 0) (.int .i64 0)
    refine bodyPost_ret (by simp [results, Tryz.results8, go_sem, z0, z1, z2, z3, z4]; try rfl) rfl ⟨rfl, ?_⟩
    exact five_touch tw (.inr (Nat.le_refl _)) _ _ _ _ _
end Go.Proofs.YtgdmiodcfdcihaaGreatDoor
