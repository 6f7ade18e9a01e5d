import Derived.Test.YtkbchpaofmlhgaaGreatDoorJRnB
import Derived.Deep.LoopGhost
/- rhytonref04's add: the sum of two finite ones. -/
namespace Go.Proofs.YtkbchpaofmlhgaaGreatDoor
open Go.RowKit
namespace Rn

/-- the sum of two numbers of units: with their signs, and, perhaps, a bit more of the first -/
def TailIs (sx sy : Bool) (P Q : Nat) (e : Int) (more : Bool) (v : Int) : Prop :=
  v = if sx = sy then cellOf (Fl.Sr sx (P + Q) e more) else if P = Q ∧ more = false then 0 else if P < Q then cellOf (Fl.Sr sy (Q - P) e more) else cellOf (Fl.Sr sx (P - Q) e more)
/-- how both come to the same unit -/
def MidIs (sx sy : Bool) (mx my : Nat) (ex ey : Int) (P Q : Nat) (e : Int) (more : Bool) : Prop :=
  (64 < ex - ey ∧ P = mx * 2048 ∧ e = ex - 11 ∧ more = decide (my ≠ 0) ∧ Q = if my ≠ 0 ∧ sx ≠ sy then 1 else 0) ∨ (ex - ey ≤ 64 ∧ P = mx * 2 ^ (ex - ey).toNat ∧ Q = my ∧ e = ey ∧ more = false)
def PreIs (sx sy : Bool) (mx my : Nat) (ex ey : Int) (P Q : Nat) (e e2 : Int) (more : Bool) : Prop :=
  (64 < ex - ey ∧ P = mx * 2048 ∧ e = ex - 11 ∧ e2 = ex - 11 ∧ more = decide (my ≠ 0) ∧ Q = if my ≠ 0 ∧ sx ≠ sy then 1 else 0) ∨ (ex - ey ≤ 64 ∧ P = mx ∧ e = ex ∧ e2 = ey ∧ more = false ∧ Q = my)
theorem PreIs.mid {sx sy : Bool} {mx my : Nat} {ex ey : Int} {P Q j : Nat} {e e2 : Int} {more : Bool} (h : PreIs sx sy mx my ex ey P Q e e2 more) (hj : (j : Int) = e - e2) : MidIs sx sy mx my ex ey (P * 2 ^ j) Q e2 more := by
  rcases h with ⟨h1, h2, h3, h4, h5, h6⟩ | ⟨h1, h2, h3, h4, h5, h6⟩
  · obtain rfl : j = 0 := by omega
    exact .inl ⟨h1, by rw [h2, Nat.pow_zero, Nat.mul_one], h4, h5, h6⟩
  · exact .inr ⟨h1, by rw [h2, show (ex - ey).toNat = j by omega], h6, h4, h5⟩
theorem PreIs.low {sx sy : Bool} {mx my : Nat} {ex ey : Int} {P Q j : Nat} {e e2 : Int} {more : Bool} (h : PreIs sx sy mx my ex ey P Q e e2 more) (hx : mx < 9007199254740992) (he : ey ≤ ex) (h0 : -1074 ≤ ey) (h9 : ex ≤ 971) : (((j : Int) ≤ e - e2) → P * 2 ^ j < 166153499473114484112975882535043072 ∧ j ≤ 64) ∧ e2 ≤ e ∧ -1085 ≤ e2 ∧ e ≤ 971 := by
  rcases h with ⟨h1, h2, h3, h4, _, _⟩ | ⟨h1, h2, h3, h4, _, _⟩
  · refine ⟨fun hj => ?_, by omega, by omega, by omega⟩
    obtain rfl : j = 0 := by omega
    exact ⟨by rw [Nat.pow_zero]; omega, by omega⟩
  · refine ⟨fun hj => ?_, by omega, by omega, by omega⟩
    have hp : (2 : Nat) ^ j ≤ 2 ^ 64 := Nat.pow_le_pow_right (by decide) (by omega)
    have h64 : (2 : Nat) ^ 64 = 18446744073709551616 := by decide
    have hm : P * 2 ^ j ≤ P * 2 ^ 64 := Nat.mul_le_mul_left _ hp
    rw [h64] at hm
    exact ⟨by omega, by omega⟩
def AddIs (sx sy : Bool) (mx my : Nat) (ex ey v : Int) : Prop := ∃ P Q e more, MidIs sx sy mx my ex ey P Q e more ∧ TailIs sx sy P Q e more v
theorem mid_bounds {sx sy : Bool} {mx my : Nat} {ex ey : Int} {P Q : Nat} {e : Int} {more : Bool} (h : MidIs sx sy mx my ex ey P Q e more) (hx : mx < 9007199254740992) (hy : my < 9007199254740992) (he : ey ≤ ex) (hn : ey < ex → 4503599627370496 ≤ mx) :
    P < 166153499473114484112975882535043072 ∧ Q < 9007199254740992 ∧ (more = true → 9223372036854775808 ≤ P ∧ Q ≤ 1) := by
  rcases h with ⟨h1, rfl, _, rfl, rfl⟩ | ⟨h1, rfl, rfl, _, rfl⟩
  · have := hn (by omega)
    refine ⟨by omega, by split <;> omega, fun _ => ⟨by omega, by split <;> omega⟩⟩
  · have hp : (2 : Nat) ^ (ex - ey).toNat ≤ 2 ^ 64 := Nat.pow_le_pow_right (by decide) (by omega)
    have h64 : (2 : Nat) ^ 64 = 18446744073709551616 := by decide
    have hm : mx * 2 ^ (ex - ey).toNat ≤ mx * 2 ^ 64 := Nat.mul_le_mul_left _ hp
    rw [h64] at hm
    refine ⟨by omega, hy, fun h => by cases h⟩
theorem pair_same (P Q : Nat) (hP : P < 340282366920938463463374607431768211456) (hQ : Q < 340282366920938463463374607431768211456) : (pl P == pl Q && ph P == ph Q) = decide (P = Q) := by
  rw [Bool.eq_iff_iff, Bool.and_eq_true, beq_iff_eq, beq_iff_eq, decide_eq_true_eq]
  refine ⟨fun ⟨h1, h2⟩ => ?_, fun h => by subst h; exact ⟨rfl, rfl⟩⟩
  unfold pl at h1
  unfold ph at h2
  have e1 : P % 18446744073709551616 = Q % 18446744073709551616 := by unfold cellOf at h1; split at h1 <;> split at h1 <;> omega
  have e2 : P / 18446744073709551616 % 18446744073709551616 = Q / 18446744073709551616 % 18446744073709551616 := by unfold cellOf at h2; split at h2 <;> split at h2 <;> omega
  omega
theorem four_far {w : World} {g b : Nat} {t : TypeId} {cs : Array Value} (h : Blk w g t cs) (hne : g ≠ b) (x y z u : Value) : Blk ((((w.setCell ⟨b, 0, none⟩ x).setCell ⟨b, 1, none⟩ y).setCell ⟨b, 2, none⟩ z).setCell ⟨b, 3, none⟩ u) g t cs :=
  (((h.far (p := ⟨b, 0, none⟩) hne x).far (p := ⟨b, 1, none⟩) hne y).far (p := ⟨b, 2, none⟩) hne z).far (p := ⟨b, 3, none⟩) hne u
theorem four_touch {w0 w : World} {b : Nat} (h : Touch [] w0 w) (hb : w0.heap.size ≤ b) (x y z u : Value) : Touch [] w0 ((((w.setCell ⟨b, 0, none⟩ x).setCell ⟨b, 1, none⟩ y).setCell ⟨b, 2, none⟩ z).setCell ⟨b, 3, none⟩ u) :=
  (((h.setCell (.inr hb) x).setCell (.inr hb) y).setCell (.inr hb) z).setCell (.inr hb) u
theorem four_size (w : World) (b : Nat) (x y z u : Value) : ((((w.setCell ⟨b, 0, none⟩ x).setCell ⟨b, 1, none⟩ y).setCell ⟨b, 2, none⟩ z).setCell ⟨b, 3, none⟩ u).heap.size = w.heap.size := by simp [World.setCell]
def tabA21 (z : Nat) (more sx : Bool) (p0 p1 q0 q1 r0 r1 e2 r : Int) : List (Nat × Nat × Value) := [(0, 72, .pointer (some ⟨z, 1, none⟩)), (1, 73, .bool sx), (2, 74, .agg #[.int .i64 p0, .int .i64 p1]), (3, 75, .agg #[.int .i64 q0, .int .i64 q1]), (4, 76, .agg #[.int .i64 r0, .int .i64 r1]), (5, 77, .pointer (some ⟨z, 3, none⟩)), (6, 78, .int .i64 e2), (7, 79, .bool more), (8, 80, .int .i64 r), (9, 4, .int .i64 r)]
def tabA25 (z : Nat) (more sy : Bool) (p0 p1 q0 q1 n0 n1 r0 r1 e2 r : Int) : List (Nat × Nat × Value) := [(0, 91, .pointer (some ⟨z + 1, 1, none⟩)), (1, 92, .bool sy), (2, 93, .agg #[.int .i64 q0, .int .i64 q1]), (3, 94, .agg #[.int .i64 p0, .int .i64 p1]), (4, 95, .agg #[.int .i64 n0, .int .i64 n1]), (5, 96, .agg #[.int .i64 r0, .int .i64 r1]), (6, 97, .pointer (some ⟨z, 3, none⟩)), (7, 98, .int .i64 e2), (8, 99, .bool more), (9, 100, .int .i64 r), (10, 4, .int .i64 r)]
def tabA26 (z : Nat) (more sx : Bool) (p0 p1 q0 q1 n0 n1 r0 r1 e2 r : Int) : List (Nat × Nat × Value) := [(0, 101, .pointer (some ⟨z, 1, none⟩)), (1, 102, .bool sx), (2, 103, .agg #[.int .i64 p0, .int .i64 p1]), (3, 104, .agg #[.int .i64 q0, .int .i64 q1]), (4, 105, .agg #[.int .i64 n0, .int .i64 n1]), (5, 106, .agg #[.int .i64 r0, .int .i64 r1]), (6, 107, .pointer (some ⟨z, 3, none⟩)), (7, 108, .int .i64 e2), (8, 109, .bool more), (9, 110, .int .i64 r), (10, 4, .int .i64 r)]
set_option maxRecDepth 100000 in
set_option maxHeartbeats 6400000 in
theorem add_fin (sa sb : Bool) (ma mb : Nat) (ea eb : Int) (ha : ma < 9007199254740992) (hb : mb < 9007199254740992) (ea0 : -1074 ≤ ea) (ea1 : ea ≤ 971) (eb0 : -1074 ≤ eb) (eb1 : eb ≤ 971) (na : -1074 < ea → 4503599627370496 ≤ ma) (nb : -1074 < eb → 4503599627370496 ≤ mb)
    (sx sy : Bool) (mx my : Nat) (ex ey : Int) (hxy : (ea < eb ∧ sx = sb ∧ mx = mb ∧ ex = eb ∧ sy = sa ∧ my = ma ∧ ey = ea) ∨ (¬ ea < eb ∧ sx = sa ∧ mx = ma ∧ ex = ea ∧ sy = sb ∧ my = mb ∧ ey = eb)) (w : World) :
    Calls Tryz.prog 89 #[.agg (PartV.mk 2 sa ma ea).cells, .agg (PartV.mk 2 sb mb eb).cells] w fun e w' => ∃ v, AddIs sx sy mx my ex ey v ∧ e = .returned (.int .i64 v) ∧ Touch [] w w' := by
  have hx : mx < 9007199254740992 := by rcases hxy with ⟨_, _, rfl, _⟩ | ⟨_, _, rfl, _⟩ <;> assumption
  have hy' : my < 9007199254740992 := by rcases hxy with ⟨_, _, _, _, _, rfl, _⟩ | ⟨_, _, _, _, _, rfl, _⟩ <;> assumption
  have he : ey ≤ ex ∧ -1074 ≤ ey ∧ ex ≤ 971 ∧ (ey < ex → 4503599627370496 ≤ mx) := by
    rcases hxy with ⟨_, rfl, rfl, rfl, rfl, rfl, rfl⟩ | ⟨_, rfl, rfl, rfl, rfl, rfl, rfl⟩
    · exact ⟨by omega, by omega, by omega, fun h => nb (by omega)⟩
    · exact ⟨by omega, by omega, by omega, fun h => na (by omega)⟩
  obtain ⟨he0, he1, he2, hnx⟩ := he
  obtain ⟨ia, hia⟩ : ∃ ia : Int, (ma : Int) = ia := ⟨_, rfl⟩
  obtain ⟨ib, hib⟩ : ∃ ib : Int, (mb : Int) = ib := ⟨_, rfl⟩
  have HX := Lib.hid (And.intro hxy (And.intro hnx (And.intro hia hib)))
  unfold PartV.cells
  rw [hia, hib]
  have hcase : ea < eb ∨ ¬ ea < eb := Classical.em _
  clear hxy hia hib na nb ha hb hnx
  dsimp only
  go_enter Tryz.func89, Tryz.ntmps89
  go_upto_region 1 with (fail)
  have bA := (Blk.new w 106 #[.int .i64 2, .bool sa, .int .u64 ia, .int .i64 ea]).alloc (.cells #[.int .i64 2, .bool sb, .int .u64 ib, .int .i64 eb] 106)
  have bB := Blk.new_at (n := w.heap.size + 1) (w.alloc (.cells #[.int .i64 2, .bool sa, .int .u64 ia, .int .i64 ea] 106)) (by simp) 106 #[.int .i64 2, .bool sb, .int .u64 ib, .int .i64 eb]
  have tw := ((Touch.refl [] w).alloc (.cells #[.int .i64 2, .bool sa, .int .u64 ia, .int .i64 ea] 106)).alloc (.cells #[.int .i64 2, .bool sb, .int .u64 ib, .int .i64 eb] 106)
  have hz2 : ((w.alloc (.cells #[.int .i64 2, .bool sa, .int .u64 ia, .int .i64 ea] 106)).alloc (.cells #[.int .i64 2, .bool sb, .int .u64 ib, .int .i64 eb] 106)).heap.size = w.heap.size + 2 := by simp
  generalize (w.alloc (.cells #[.int .i64 2, .bool sa, .int .u64 ia, .int .i64 ea] 106)).alloc (.cells #[.int .i64 2, .bool sb, .int .u64 ib, .int .i64 eb] 106) = wA at *
  have a0 := bA.cell 0
  have a1 := bA.cell 1
  have a2 := bA.cell 2
  have a3 := bA.cell 3
  have b0 := bB.cell 0
  have b1 := bB.cell 1
  have b2 := bB.cell 2
  have b3 := bB.cell 3
  obtain ⟨z, hz⟩ : ∃ z, w.heap.size = z := ⟨_, rfl⟩
  rw [hz] at bA bB a0 a1 a2 a3 b0 b1 b2 b3 hz2 ⊢
  have TW := Lib.hid (And.intro tw (Nat.le_of_eq hz))
  clear tw hz
  obtain ⟨ix, hix⟩ : ∃ ix : Int, (mx : Int) = ix := ⟨_, rfl⟩
  obtain ⟨iy, hiy⟩ : ∃ iy : Int, (my : Int) = iy := ⟨_, rfl⟩
  have HI := Lib.hid (And.intro hix hiy)
  have HSW := Lib.hid (show (ea < eb ∧ sx = sb ∧ ix = ib ∧ ex = eb ∧ sy = sa ∧ iy = ia ∧ ey = ea) ∨ (¬ ea < eb ∧ sx = sa ∧ ix = ia ∧ ex = ea ∧ sy = sb ∧ iy = ib ∧ ey = eb) from by
    have h1 := HX.out.2.2.1
    have h2 := HX.out.2.2.2
    rcases HX.out.1 with ⟨g1, g2, g3, g4, g5, g6, g7⟩ | ⟨g1, g2, g3, g4, g5, g6, g7⟩
    · exact .inl ⟨g1, g2, by omega, g4, g5, by omega, g7⟩
    · exact .inr ⟨g1, g2, by omega, g4, g5, by omega, g7⟩)
  have X0 : 0 ≤ ix := by omega
  have X1 : ix < 9007199254740992 := by omega
  have Y0 : 0 ≤ iy := by omega
  have Y1 : iy < 9007199254740992 := by omega
  clear hix hiy
  -- the greater exponent ahead
  go_upto_if 13 with (fail)
  go_cut [] from 9 (fun wx => Blk wx z 106 (#[.int .i64 2, .bool sx, .int .u64 ix, .int .i64 ex]) ∧ Blk wx (z + 1) 106 (#[.int .i64 2, .bool sy, .int .u64 iy, .int .i64 ey]) ∧ Touch [] w wx ∧ wx.heap.size = z + 2)
  case first =>
    rcases hcase with h | h
    · have f0 := bA.frozen 0
      have f1 := bA.frozen 1
      have f2 := bA.frozen 2
      have f3 := bA.frozen 3
      have g0 := bB.frozen 0
      have g1 := bB.frozen 1
      have g2 := bB.frozen 2
      have g3 := bB.frozen 3
      go_wp2_with fail
      go_meet
      rcases HSW.out with ⟨_, rfl, rfl, rfl, rfl, rfl, rfl⟩ | ⟨h', _⟩
      · exact ⟨four_far (four_set bA _ _ _ _) (by omega) _ _ _ _, four_set (four_far bB (by omega) _ _ _ _) _ _ _ _, four_touch (four_touch TW.out.1 TW.out.2 _ _ _ _) (by have := TW.out.2; omega) _ _ _ _, by rw [four_size, four_size]; exact hz2⟩
      · exfalso; omega
    · go_wp2_with fail
      go_meet
      rcases HSW.out with ⟨h', _⟩ | ⟨_, rfl, rfl, rfl, rfl, rfl, rfl⟩
      · exfalso; omega
      · exact ⟨bA, bB, TW.out.1, hz2⟩
  case rest =>
    obtain ⟨cA, cB, tw, hsz⟩ := hcut
    clear a0 a1 a2 a3 b0 b1 b2 b3 bA bB hz2
    have a2 := cA.cell 2
    have b2 := cB.cell 2
    have WX : IntKind.i64.wrap ix = ix := by rw [IntKind.wrap_i64]; omega
    have WY : IntKind.i64.wrap iy = iy := by rw [IntKind.wrap_i64]; omega
    go_upto_region 5 with fail
    have bP := (Blk.new_at (n := z + 2) wc hsz 38 #[.int .i64 ix, .int .i64 0]).alloc (.cells #[.int .i64 iy, .int .i64 0] 38)
    have bQ := Blk.new_at (n := z + 3) (wc.alloc (.cells #[.int .i64 ix, .int .i64 0] 38)) (by simp [hsz]) 38 #[.int .i64 iy, .int .i64 0]
    have cA := (cA.alloc (.cells #[.int .i64 ix, .int .i64 0] 38)).alloc (.cells #[.int .i64 iy, .int .i64 0] 38)
    have cB := (cB.alloc (.cells #[.int .i64 ix, .int .i64 0] 38)).alloc (.cells #[.int .i64 iy, .int .i64 0] 38)
    have tw := (tw.alloc (.cells #[.int .i64 ix, .int .i64 0] 38)).alloc (.cells #[.int .i64 iy, .int .i64 0] 38)
    generalize (wc.alloc (.cells #[.int .i64 ix, .int .i64 0] 38)).alloc (.cells #[.int .i64 iy, .int .i64 0] 38) = wD at *
    clear a2 b2 WX WY hsz
    rw [show z + 2 + 1 = z + 3 from rfl]
    have a3 := cA.cell 3
    have b3 := cB.cell 3
    have W0 : IntKind.i64.wrap (ex - ey) = ex - ey := by rw [IntKind.wrap_i64]; omega
    go_upto_if 29 with (fail)
    have hd : 64 < ex - ey ∨ ¬ 64 < ex - ey := Classical.em _
    clear a3 b3
    go_cut [7] from 8 (fun s7 wx => ∃ (P Q : Nat) (e e2 : Int) (more : Bool), s7 = .bool more ∧ Hid (PreIs sx sy mx my ex ey P Q e e2 more) ∧ Blk wx z 106 (#[.int .i64 2, .bool sx, .int .u64 ix, .int .i64 e]) ∧ Blk wx (z + 1) 106 (#[.int .i64 2, .bool sy, .int .u64 iy, .int .i64 e2]) ∧ Blk wx (z + 2) 38 (two P) ∧ Blk wx (z + 3) 38 (two Q) ∧ Touch [] w wx)
    case first =>
      have e2 : two mx = #[.int .i64 ix, .int .i64 0] := by
        unfold two
        rw [pl_nat mx (by omega), (p_small mx (by omega)).2, HI.out.1]
      have e3 : two my = #[.int .i64 iy, .int .i64 0] := by
        unfold two
        rw [pl_nat my (by omega), (p_small my (by omega)).2, HI.out.2]
      rw [← e2] at bP
      rw [← e3] at bQ
      clear e2 e3 W0
      rcases hd with hd | hd
      · have htw := fun x r (hx : x < 340282366920938463463374607431768211456) hr W => twice_p x hx r hr W
        have hnx : 4503599627370496 ≤ mx := HX.out.2.1 (by omega)
        have HNX := Lib.hid hnx
        clear hnx
        go_wp2_with fail
        go_loopg [8] 12 (fun gf s8 wr => ∃ (i : Nat) (y : Int) (P : Nat), s8 = .int .i64 i ∧ i ≤ 11 ∧ gf + i = 12 ∧ y = ex - i ∧ Hid (P = mx * 2 ^ i) ∧ Blk wr z 106 (#[.int .i64 2, .bool sx, .int .u64 ix, .int .i64 y]) ∧ Blk wr (z + 1) 106 (#[.int .i64 2, .bool sy, .int .u64 iy, .int .i64 ey]) ∧ Blk wr (z + 2) 38 (two P) ∧ Blk wr (z + 3) 38 (two my) ∧ Touch [] w wr)
        case atStart => exact ⟨0, ex, mx, rfl, by omega, by omega, by simp, Lib.hid (by simp), cA, cB, bP, bQ, tw⟩
        case round =>
          clear cA cB bP bQ tw
          obtain ⟨i, y, P, rfl, hi, hg, hy, HP, cA, cB, bP, bQ, tw⟩ := hrel
          have hPb : P < 166153499473114484112975882535043072 := by
            rw [(show P = mx * 2 ^ i from HP.out)]
            have hp : (2 : Nat) ^ i ≤ 2 ^ 11 := Nat.pow_le_pow_right (by decide) hi
            have hm : mx * 2 ^ i ≤ mx * 2 ^ 11 := Nat.mul_le_mul_left _ hp
            rw [show (2 : Nat) ^ 11 = 2048 by decide] at hm
            omega
          have HY := Lib.hid hy
          have hb1 : -1100 ≤ y - 1 := by omega
          have hb2 : y - 1 ≤ 971 := by omega
          by_cases hlt : i < 11
          · have h1 : (i : Int) < 11 := by omega
            have ek : IntKind.i64.wrap ((i : Int) + 1) = ((i + 1 : Nat) : Int) := by rw [IntKind.wrap_i64]; omega
            have hT := htw P (P + P) (by omega) (by omega) wr
            have HP2 : Hid (P + P = mx * 2 ^ (i + 1)) := Lib.hid (by rw [Nat.pow_succ, ← Nat.mul_assoc, ← (show P = mx * 2 ^ i from HP.out)]; omega)
            have HJ := Lib.hid hlt
            have a3 := cA.cell 3
            have fa := cA.frozen 3
            have p0 := bP.cell 0
            have p1 := bP.cell 1
            clear hy HP hPb hlt htw
            go_wp2_with fail
            refine hT.mono ?_
            rintro _ w1 ⟨rfl, t1⟩
            clear hT a3 p0 p1 fa
            have cA := cA.touch t1 (by simp)
            have cB := cB.touch t1 (by simp)
            have bP := bP.touch t1 (by simp)
            have bQ := bQ.touch t1 (by simp)
            have tw := tw.trans t1 (by simp)
            clear t1
            have a3 := cA.cell 3
            have fa := cA.frozen 3
            have p0 := bP.cell 0
            have p1 := bP.cell 1
            have fp0 := bP.frozen 0
            have fp1 := bP.frozen 1
            go_wp2_with fail
            go_roundg (gk - 1)
            case measure => have := HJ.out; omega
            case rel =>
              have hz := TW.out.2
              refine ⟨i + 1, y - 1, P + P, vint (by omega), by have := HJ.out; omega, by have := HJ.out; omega, by have := HY.out; omega, HP2, ((cA.far (p := ⟨z + 2, 0, none⟩) (by simp) _).far (p := ⟨z + 2, 1, none⟩) (by simp) _).set_ 3 (.int .i64 (y - 1)), ((cB.far (p := ⟨z + 2, 0, none⟩) (by simp) _).far (p := ⟨z + 2, 1, none⟩) (by simp) _).far (p := ⟨z, 3, none⟩) (by simp) _, ((bP.two_set (.int .i64 (pl (P + P))) (.int .i64 (ph (P + P)))).far (p := ⟨z, 3, none⟩) (by simp) _), ((bQ.two_far (by simp) _ _).far (p := ⟨z, 3, none⟩) (by simp) _), ?_⟩
              exact (((tw.setCell (.inr (by simp; omega)) _).setCell (.inr (by simp; omega)) _).setCell (.inr (by simp; omega)) _)
          · have h1 : ¬ (i : Int) < 11 := by omega
            obtain rfl : i = 11 := by omega
            have a1 := cA.cell 1
            have a3 := cA.cell 3
            have b1 := cB.cell 1
            have b2 := cB.cell 2
            have b3 := cB.cell 3
            have fb := cB.frozen 3
            have q0 := bQ.cell 0
            have q1 := bQ.cell 1
            have fq0 := bQ.frozen 0
            have fq1 := bQ.frozen 1
            have hmy : (iy != 0) = decide (my ≠ 0) := by have := HI.out.2; rw [Bool.eq_iff_iff, bne_iff_ne, decide_eq_true_eq]; omega
            have HPP : Hid (P = mx * 2048) := Lib.hid ((show P = mx * 2 ^ 11 from HP.out).trans (by rw [show (2 : Nat) ^ 11 = 2048 by decide]))
            obtain ⟨mo, hmo⟩ : ∃ mo, decide (my ≠ 0) = mo := ⟨_, rfl⟩
            rw [hmo] at hmy
            have HMO := Lib.hid hmo
            clear hmo HP hPb hlt h1 htw
            have HD := Lib.hid (And.intro hd hy)
            clear hd hy
            have tz0 : two 0 = #[.int .i64 0, .int .i64 0] := rfl
            have tz1 : two 1 = #[.int .i64 1, .int .i64 0] := rfl
            have y1 : -1100 ≤ y := by have := HD.out.2; omega
            have y2 : y ≤ 971 := by have := HD.out.2; omega
            clear hb1 hb2
            cases mo
            · go_wp2_with fail
              go_meet
              have hy := HD.out.2
              have hz := TW.out.2
              refine ⟨P, 0, y, y, false, rfl, Lib.hid (.inl ⟨HD.out.1, HPP.out, by omega, by omega, HMO.out.symm, (if_neg (fun h => (of_decide_eq_false HMO.out) h.1)).symm⟩), (((cA.far (p := ⟨z + 3, 0, none⟩) (by simp) _).far (p := ⟨z + 3, 1, none⟩) (by simp) _).far (p := ⟨z + 1, 3, none⟩) (by simp) _), (((cB.far (p := ⟨z + 3, 0, none⟩) (by simp) _).far (p := ⟨z + 3, 1, none⟩) (by simp) _).set_ 3 (.int .i64 y)), (((bP.far (p := ⟨z + 3, 0, none⟩) (by simp) _).far (p := ⟨z + 3, 1, none⟩) (by simp) _).far (p := ⟨z + 1, 3, none⟩) (by simp) _), ?_, ?_⟩
              · rw [tz0]
                exact ((bQ.two_set (.int .i64 0) (.int .i64 0)).far (p := ⟨z + 1, 3, none⟩) (by simp) _)
              · exact (((tw.setCell (.inr (by simp; omega)) _).setCell (.inr (by simp; omega)) _).setCell (.inr (by simp; omega)) _)
            · cases sx <;> cases sy
              · go_wp2_with fail
                go_meet
                have hy := HD.out.2
                have hz := TW.out.2
                refine ⟨P, 0, y, y, true, rfl, Lib.hid (.inl ⟨HD.out.1, HPP.out, by omega, by omega, HMO.out.symm, (if_neg (fun h => h.2 rfl)).symm⟩), (((cA.far (p := ⟨z + 3, 0, none⟩) (by simp) _).far (p := ⟨z + 3, 1, none⟩) (by simp) _).far (p := ⟨z + 1, 3, none⟩) (by simp) _), (((cB.far (p := ⟨z + 3, 0, none⟩) (by simp) _).far (p := ⟨z + 3, 1, none⟩) (by simp) _).set_ 3 (.int .i64 y)), (((bP.far (p := ⟨z + 3, 0, none⟩) (by simp) _).far (p := ⟨z + 3, 1, none⟩) (by simp) _).far (p := ⟨z + 1, 3, none⟩) (by simp) _), ?_, ?_⟩
                · rw [tz0]
                  exact ((bQ.two_set (.int .i64 0) (.int .i64 0)).far (p := ⟨z + 1, 3, none⟩) (by simp) _)
                · exact (((tw.setCell (.inr (by simp; omega)) _).setCell (.inr (by simp; omega)) _).setCell (.inr (by simp; omega)) _)
              · go_wp2_with fail
                go_meet
                have hy := HD.out.2
                have hz := TW.out.2
                refine ⟨P, 1, y, y, true, rfl, Lib.hid (.inl ⟨HD.out.1, HPP.out, by omega, by omega, HMO.out.symm, (if_pos ⟨of_decide_eq_true HMO.out, by simp⟩).symm⟩), (((((cA.far (p := ⟨z + 3, 0, none⟩) (by simp) _).far (p := ⟨z + 3, 1, none⟩) (by simp) _).far (p := ⟨z + 3, 0, none⟩) (by simp) _).far (p := ⟨z + 3, 1, none⟩) (by simp) _).far (p := ⟨z + 1, 3, none⟩) (by simp) _), (((((cB.far (p := ⟨z + 3, 0, none⟩) (by simp) _).far (p := ⟨z + 3, 1, none⟩) (by simp) _).far (p := ⟨z + 3, 0, none⟩) (by simp) _).far (p := ⟨z + 3, 1, none⟩) (by simp) _).set_ 3 (.int .i64 y)), (((((bP.far (p := ⟨z + 3, 0, none⟩) (by simp) _).far (p := ⟨z + 3, 1, none⟩) (by simp) _).far (p := ⟨z + 3, 0, none⟩) (by simp) _).far (p := ⟨z + 3, 1, none⟩) (by simp) _).far (p := ⟨z + 1, 3, none⟩) (by simp) _), ?_, ?_⟩
                · rw [tz1]
                  exact (((bQ.two_set (.int .i64 0) (.int .i64 0)).two_set (.int .i64 1) (.int .i64 0)).far (p := ⟨z + 1, 3, none⟩) (by simp) _)
                · exact (((((tw.setCell (.inr (by simp; omega)) _).setCell (.inr (by simp; omega)) _).setCell (.inr (by simp; omega)) _).setCell (.inr (by simp; omega)) _).setCell (.inr (by simp; omega)) _)
              · go_wp2_with fail
                go_meet
                have hy := HD.out.2
                have hz := TW.out.2
                refine ⟨P, 1, y, y, true, rfl, Lib.hid (.inl ⟨HD.out.1, HPP.out, by omega, by omega, HMO.out.symm, (if_pos ⟨of_decide_eq_true HMO.out, by simp⟩).symm⟩), (((((cA.far (p := ⟨z + 3, 0, none⟩) (by simp) _).far (p := ⟨z + 3, 1, none⟩) (by simp) _).far (p := ⟨z + 3, 0, none⟩) (by simp) _).far (p := ⟨z + 3, 1, none⟩) (by simp) _).far (p := ⟨z + 1, 3, none⟩) (by simp) _), (((((cB.far (p := ⟨z + 3, 0, none⟩) (by simp) _).far (p := ⟨z + 3, 1, none⟩) (by simp) _).far (p := ⟨z + 3, 0, none⟩) (by simp) _).far (p := ⟨z + 3, 1, none⟩) (by simp) _).set_ 3 (.int .i64 y)), (((((bP.far (p := ⟨z + 3, 0, none⟩) (by simp) _).far (p := ⟨z + 3, 1, none⟩) (by simp) _).far (p := ⟨z + 3, 0, none⟩) (by simp) _).far (p := ⟨z + 3, 1, none⟩) (by simp) _).far (p := ⟨z + 1, 3, none⟩) (by simp) _), ?_, ?_⟩
                · rw [tz1]
                  exact (((bQ.two_set (.int .i64 0) (.int .i64 0)).two_set (.int .i64 1) (.int .i64 0)).far (p := ⟨z + 1, 3, none⟩) (by simp) _)
                · exact (((((tw.setCell (.inr (by simp; omega)) _).setCell (.inr (by simp; omega)) _).setCell (.inr (by simp; omega)) _).setCell (.inr (by simp; omega)) _).setCell (.inr (by simp; omega)) _)
              · go_wp2_with fail
                go_meet
                have hy := HD.out.2
                have hz := TW.out.2
                refine ⟨P, 0, y, y, true, rfl, Lib.hid (.inl ⟨HD.out.1, HPP.out, by omega, by omega, HMO.out.symm, (if_neg (fun h => h.2 rfl)).symm⟩), (((cA.far (p := ⟨z + 3, 0, none⟩) (by simp) _).far (p := ⟨z + 3, 1, none⟩) (by simp) _).far (p := ⟨z + 1, 3, none⟩) (by simp) _), (((cB.far (p := ⟨z + 3, 0, none⟩) (by simp) _).far (p := ⟨z + 3, 1, none⟩) (by simp) _).set_ 3 (.int .i64 y)), (((bP.far (p := ⟨z + 3, 0, none⟩) (by simp) _).far (p := ⟨z + 3, 1, none⟩) (by simp) _).far (p := ⟨z + 1, 3, none⟩) (by simp) _), ?_, ?_⟩
                · rw [tz0]
                  exact ((bQ.two_set (.int .i64 0) (.int .i64 0)).far (p := ⟨z + 1, 3, none⟩) (by simp) _)
                · exact (((tw.setCell (.inr (by simp; omega)) _).setCell (.inr (by simp; omega)) _).setCell (.inr (by simp; omega)) _)
      · go_wp2_with fail
        go_meet
        exact ⟨mx, my, ex, ey, false, rfl, Lib.hid (.inr ⟨by omega, rfl, rfl, rfl, rfl, rfl⟩), cA, cB, bP, bQ, tw⟩
    case rest =>
      clear cA cB bP bQ tw hd
      obtain ⟨P0, Q, e, e2, more, rfl, HM, cA, cB, bP, bQ, tw⟩ := hcut
      have htw := fun x r (hx : x < 340282366920938463463374607431768211456) hr W => twice_p x hx r hr W
      have HLOW := Lib.hid (fun j => PreIs.low (j := j) HM.out hx he0 he1 he2)
      have B1 : e2 ≤ e := (HLOW.out 0).2.1
      have B2 : -1085 ≤ e2 := (HLOW.out 0).2.2.1
      have B3 : e ≤ 971 := (HLOW.out 0).2.2.2
      have B4 : e - e2 ≤ 64 := by
        have := ((HLOW.out (e - e2).toNat).1 (by omega)).2
        omega
      go_wp2_with fail
      go_loopg [] 65 (fun gf wr => ∃ (j : Nat) (y : Int) (P : Nat), y = e - j ∧ gf + j = 65 ∧ (j : Int) ≤ e - e2 ∧ Hid (P = P0 * 2 ^ j) ∧ Blk wr z 106 (#[.int .i64 2, .bool sx, .int .u64 ix, .int .i64 y]) ∧ Blk wr (z + 1) 106 (#[.int .i64 2, .bool sy, .int .u64 iy, .int .i64 e2]) ∧ Blk wr (z + 2) 38 (two P) ∧ Blk wr (z + 3) 38 (two Q) ∧ Touch [] w wr)
      case atStart => exact ⟨0, e, P0, by simp, by omega, by omega, Lib.hid (by simp), cA, cB, bP, bQ, tw⟩
      case round =>
        clear cA cB bP bQ tw
        obtain ⟨j, y, P, hy, hg, hj, HP, cA, cB, bP, bQ, tw⟩ := hrel
        have a3 := cA.cell 3
        have b3 := cB.cell 3
        have fa := cA.frozen 3
        have p0 := bP.cell 0
        have p1 := bP.cell 1
        have hPb : P < 166153499473114484112975882535043072 := by
          rw [(show P = P0 * 2 ^ j from HP.out)]
          exact ((HLOW.out j).1 hj).1
        have HY := Lib.hid hy
        by_cases hlt : (j : Int) < e - e2
        · have h1 : e2 < y := by omega
          have hT := htw P (P + P) (by omega) (by omega) wr
          have HP2 : Hid (P + P = P0 * 2 ^ (j + 1)) := Lib.hid (by rw [Nat.pow_succ, ← Nat.mul_assoc, ← (show P = P0 * 2 ^ j from HP.out)]; omega)
          have hyb : -1100 ≤ y - 1 := by omega
          have hyc : y - 1 ≤ 971 := by omega
          have HJ := Lib.hid hlt
          clear hy HP hPb hlt htw
          go_wp2_with fail
          refine hT.mono ?_
          rintro _ w1 ⟨rfl, t1⟩
          clear hT a3 b3 p0 p1 fa
          have cA := cA.touch t1 (by simp)
          have cB := cB.touch t1 (by simp)
          have bP := bP.touch t1 (by simp)
          have bQ := bQ.touch t1 (by simp)
          have tw := tw.trans t1 (by simp)
          clear t1
          have a3 := cA.cell 3
          have fa := cA.frozen 3
          have p0 := bP.cell 0
          have p1 := bP.cell 1
          have fp0 := bP.frozen 0
          have fp1 := bP.frozen 1
          go_wp2_with fail
          go_roundg (gk - 1)
          case measure => have := HJ.out; omega
          case rel =>
            have hz := TW.out.2
            refine ⟨j + 1, y - 1, P + P, by have := HY.out; omega, by have := HJ.out; omega, by have := HJ.out; omega, HP2, ((cA.far (p := ⟨z + 2, 0, none⟩) (by simp) _).far (p := ⟨z + 2, 1, none⟩) (by simp) _).set_ 3 (.int .i64 (y - 1)), ((cB.far (p := ⟨z + 2, 0, none⟩) (by simp) _).far (p := ⟨z + 2, 1, none⟩) (by simp) _).far (p := ⟨z, 3, none⟩) (by simp) _, ((bP.two_set (.int .i64 (pl (P + P))) (.int .i64 (ph (P + P)))).far (p := ⟨z, 3, none⟩) (by simp) _), ((bQ.two_far (by simp) _ _).far (p := ⟨z, 3, none⟩) (by simp) _), ?_⟩
            exact (((tw.setCell (.inr (by simp; omega)) _).setCell (.inr (by simp; omega)) _).setCell (.inr (by simp; omega)) _)
        · have h1 : ¬ e2 < y := by omega
          have HMID : Hid (MidIs sx sy mx my ex ey P Q e2 more) := Lib.hid (by have := PreIs.mid (j := j) HM.out (by omega); rw [← (show P = P0 * 2 ^ j from HP.out)] at this; exact this)
          have hye : e2 = y := by omega
          subst hye
          clear hy HP hPb hlt HY htw
          obtain ⟨m1, m2, m3⟩ := mid_bounds HMID.out hx hy' he0 HX.out.2.1
          have a1 := cA.cell 1
          have b1 := cB.cell 1
          have c0 : wr.cell? ⟨z + 2, 0, none⟩ = some (.int .i64 (pl P)) := bP.cell 0
          have c1 : wr.cell? ⟨z + 2, 1, none⟩ = some (.int .i64 (ph P)) := bP.cell 1
          have d0 : wr.cell? ⟨z + 3, 0, none⟩ = some (.int .i64 (pl Q)) := bQ.cell 0
          have d1 : wr.cell? ⟨z + 3, 1, none⟩ = some (.int .i64 (ph Q)) := bQ.cell 1
          have HT := Lib.hid tw
          have HB := Lib.hid (And.intro m1 (And.intro m2 m3))
          clear cA cB bP bQ tw fa p0 p1 m1 m2 m3
          by_cases hs : sx = sy
          · have HR0 : Hid (TailIs sx sy P Q e2 more (cellOf (Fl.Sr sx (P + Q) e2 more))) := Lib.hid (by unfold TailIs; rw [if_pos hs])
            have hS := fun W => add_p P Q (by have := HB.out; omega) (by have := HB.out; omega) (P + Q) (by have := HB.out; omega) W
            have hR := fun W => rounded_all sx more (P + Q) (by have := HB.out; omega) (by
              have := HB.out.2.2
              cases more with
              | false => exact .inl rfl
              | true => right; have := this rfl; omega) e2 (by omega) (by omega) W
            unfold two at hR
            obtain ⟨r, hr⟩ : ∃ r, cellOf (Fl.Sr sx (P + Q) e2 more) = r := ⟨_, rfl⟩
            rw [hr] at hR HR0
            clear hr
            subst hs
            obtain ⟨p0, hp0⟩ : ∃ p0, pl P = p0 := ⟨_, rfl⟩
            obtain ⟨p1, hp1⟩ : ∃ p1, ph P = p1 := ⟨_, rfl⟩
            obtain ⟨q0, hq0⟩ : ∃ q0, pl Q = q0 := ⟨_, rfl⟩
            obtain ⟨q1, hq1⟩ : ∃ q1, ph Q = q1 := ⟨_, rfl⟩
            obtain ⟨r0, hr0⟩ : ∃ r0, pl (P + Q) = r0 := ⟨_, rfl⟩
            obtain ⟨r1, hr1⟩ : ∃ r1, ph (P + Q) = r1 := ⟨_, rfl⟩
            rw [hp0] at c0 hS
            rw [hp1] at c1 hS
            rw [hq0] at d0 hS
            rw [hq1] at d1 hS
            rw [hr0, hr1] at hS hR
            clear hp0 hp1 hq0 hq1 hr0 hr1
            go_upto_region 21 with fail
            refine frame_any (fun g f => #[.agg #[.int .i64 2, .bool sa, .int .u64 ia, .int .i64 ea], .agg #[.int .i64 2, .bool sb, .int .u64 ib, .int .i64 eb], .pointer (some ⟨z, 0, none⟩), .pointer (some ⟨z + 1, 0, none⟩), f 4, .pointer (some ⟨z + 2, 0, none⟩), .pointer (some ⟨z + 3, 0, none⟩), .bool more, g 8, g 9, g 10, g 11, g 12, g 13, g 14, g 15, g 16, g 17, g 18, g 19, g 20, g 21, g 22, g 23, g 24, g 25, g 26, g 27, g 28, g 29, g 30, g 31, g 32, g 33, g 34, g 35, g 36, g 37, g 38, g 39, g 40, g 41, g 42, g 43, g 44, g 45, g 46, g 47, g 48, g 49, g 50, g 51, g 52, g 53, g 54, g 55, g 56, g 57, g 58, g 59, g 60, g 61, g 62, g 63, g 64, g 65, g 66, g 67, g 68, g 69, g 70, g 71, f 72, f 73, f 74, f 75, f 76, f 77, f 78, f 79, f 80, g 81, g 82, g 83, g 84, g 85, g 86, g 87, g 88, g 89, g 90, g 91, g 92, g 93, g 94, g 95, g 96, g 97, g 98, g 99, g 100, g 101, g 102, g 103, g 104, g 105, g 106, g 107, g 108, g 109, g 110]) rfl (fun g f => ?_)
            refine region_inv2 (fun listed a Wx => ∃ f : Nat → Value, a = { tmps := #[.agg #[.int .i64 2, .bool sa, .int .u64 ia, .int .i64 ea], .agg #[.int .i64 2, .bool sb, .int .u64 ib, .int .i64 eb], .pointer (some ⟨z, 0, none⟩), .pointer (some ⟨z + 1, 0, none⟩), f 4, .pointer (some ⟨z + 2, 0, none⟩), .pointer (some ⟨z + 3, 0, none⟩), .bool more, g 8, g 9, g 10, g 11, g 12, g 13, g 14, g 15, g 16, g 17, g 18, g 19, g 20, g 21, g 22, g 23, g 24, g 25, g 26, g 27, g 28, g 29, g 30, g 31, g 32, g 33, g 34, g 35, g 36, g 37, g 38, g 39, g 40, g 41, g 42, g 43, g 44, g 45, g 46, g 47, g 48, g 49, g 50, g 51, g 52, g 53, g 54, g 55, g 56, g 57, g 58, g 59, g 60, g 61, g 62, g 63, g 64, g 65, g 66, g 67, g 68, g 69, g 70, g 71, f 72, f 73, f 74, f 75, f 76, f 77, f 78, f 79, f 80, g 81, g 82, g 83, g 84, g 85, g 86, g 87, g 88, g 89, g 90, g 91, g 92, g 93, g 94, g 95, g 96, g 97, g 98, g 99, g 100, g 101, g 102, g 103, g 104, g 105, g 106, g 107, g 108, g 109, g 110], defers := [] } ∧ TabOk (tabA21 z more sx p0 p1 q0 q1 r0 r1 e2 r) listed f ∧ Touch [] wr Wx) (by kernel_rfl) (by kernel_rfl) ?h0 ?step ?fin
            case h0 =>
              intro listed hs hl
              exact ⟨f, rfl, fun x _ h => (by rw [hl] at h; cases h), (Touch.refl [] wr).drew⟩
            case step =>
              rintro listed a Wx ⟨f, rfl, hT, tq⟩ hC i o ho hli hdep
              try dsimp only
              have hi : i < 10 := (Array.getElem?_eq_some_iff.1 ho).1
              have a1 := cell_quiet tq a1
              have a3 := cell_quiet tq a3
              have b1 := cell_quiet tq b1
              have c0 := cell_quiet tq c0
              have c1 := cell_quiet tq c1
              have d0 := cell_quiet tq d0
              have d1 := cell_quiet tq d1
              rcases (by omega : i = 0 ∨ i = 1 ∨ i = 2 ∨ i = 3 ∨ i = 4 ∨ i = 5 ∨ i = 6 ∨ i = 7 ∨ i = 8 ∨ i = 9) with rfl | rfl | rfl | rfl | rfl | rfl | rfl | rfl | rfl | rfl
              · cases (show some _ = some o from ho)
                refine wpOp_of ho rfl ?_
                refine wp_value (v := .pointer (some ⟨z, 1, none⟩)) (w1 := Wx) ?_ ⟨_, rfl, hT.step (i := 0) (d := 72) (v := .pointer (some ⟨z, 1, none⟩)) (by intro x hx; simp only [tabA21, List.mem_cons, List.not_mem_nil, or_false] at hx; rcases hx with rfl | rfl | rfl | rfl | rfl | rfl | rfl | rfl | rfl | rfl <;> simp), tq⟩
                clear hdep hC hli ho hT
                first | (go_simp; done) | (go_simp; rfl)
              · cases (show some _ = some o from ho)
                have g0 : f 72 = .pointer (some ⟨z, 1, none⟩) := hT (0, 72, .pointer (some ⟨z, 1, none⟩)) (by simp [tabA21]) (hdep { on := 0, ground := .data } (by simp) rfl)
                refine wpOp_of ho rfl ?_
                refine wp_value (v := .bool sx) (w1 := Wx) ?_ ⟨_, rfl, hT.step (i := 1) (d := 73) (v := .bool sx) (by intro x hx; simp only [tabA21, List.mem_cons, List.not_mem_nil, or_false] at hx; rcases hx with rfl | rfl | rfl | rfl | rfl | rfl | rfl | rfl | rfl | rfl <;> simp), tq⟩
                clear hdep hC hli ho hT
                first | (go_simp; done) | (go_simp; rfl)
              · cases (show some _ = some o from ho)
                refine wpOp_of ho rfl ?_
                refine wp_value (v := .agg #[.int .i64 p0, .int .i64 p1]) (w1 := Wx) ?_ ⟨_, rfl, hT.step (i := 2) (d := 74) (v := .agg #[.int .i64 p0, .int .i64 p1]) (by intro x hx; simp only [tabA21, List.mem_cons, List.not_mem_nil, or_false] at hx; rcases hx with rfl | rfl | rfl | rfl | rfl | rfl | rfl | rfl | rfl | rfl <;> simp), tq⟩
                clear hdep hC hli ho hT
                first | (go_simp; done) | (go_simp; rfl)
              · cases (show some _ = some o from ho)
                refine wpOp_of ho rfl ?_
                refine wp_value (v := .agg #[.int .i64 q0, .int .i64 q1]) (w1 := Wx) ?_ ⟨_, rfl, hT.step (i := 3) (d := 75) (v := .agg #[.int .i64 q0, .int .i64 q1]) (by intro x hx; simp only [tabA21, List.mem_cons, List.not_mem_nil, or_false] at hx; rcases hx with rfl | rfl | rfl | rfl | rfl | rfl | rfl | rfl | rfl | rfl <;> simp), tq⟩
                clear hdep hC hli ho hT
                first | (go_simp; done) | (go_simp; rfl)
              · cases (show some _ = some o from ho)
                have g2 : f 74 = .agg #[.int .i64 p0, .int .i64 p1] := hT (2, 74, .agg #[.int .i64 p0, .int .i64 p1]) (by simp [tabA21]) (hdep { on := 2, ground := .data } (by simp) rfl)
                have g3 : f 75 = .agg #[.int .i64 q0, .int .i64 q1] := hT (3, 75, .agg #[.int .i64 q0, .int .i64 q1]) (by simp [tabA21]) (hdep { on := 3, ground := .data } (by simp) rfl)
                refine wpOp_of ho rfl ?_
                refine wp_enter (f := 28) (args := #[.agg #[.int .i64 p0, .int .i64 p1], .agg #[.int .i64 q0, .int .i64 q1]]) (w1 := Wx) ?_ ((hS Wx).mono ?_)
                · clear hdep hC hli ho hT
                  first | (go_simp; done) | (go_simp; rfl)
                · rintro _ W1 ⟨rfl, t1⟩
                  exact ⟨_, rfl, _, rfl, hT.step (i := 4) (d := 76) (v := .agg #[.int .i64 r0, .int .i64 r1]) (by intro x hx; simp only [tabA21, List.mem_cons, List.not_mem_nil, or_false] at hx; rcases hx with rfl | rfl | rfl | rfl | rfl | rfl | rfl | rfl | rfl | rfl <;> simp), tq.trans t1 (by simp)⟩
              · cases (show some _ = some o from ho)
                refine wpOp_of ho rfl ?_
                refine wp_value (v := .pointer (some ⟨z, 3, none⟩)) (w1 := Wx) ?_ ⟨_, rfl, hT.step (i := 5) (d := 77) (v := .pointer (some ⟨z, 3, none⟩)) (by intro x hx; simp only [tabA21, List.mem_cons, List.not_mem_nil, or_false] at hx; rcases hx with rfl | rfl | rfl | rfl | rfl | rfl | rfl | rfl | rfl | rfl <;> simp), tq⟩
                clear hdep hC hli ho hT
                first | (go_simp; done) | (go_simp; rfl)
              · cases (show some _ = some o from ho)
                have g5 : f 77 = .pointer (some ⟨z, 3, none⟩) := hT (5, 77, .pointer (some ⟨z, 3, none⟩)) (by simp [tabA21]) (hdep { on := 5, ground := .data } (by simp) rfl)
                refine wpOp_of ho rfl ?_
                refine wp_value (v := .int .i64 e2) (w1 := Wx) ?_ ⟨_, rfl, hT.step (i := 6) (d := 78) (v := .int .i64 e2) (by intro x hx; simp only [tabA21, List.mem_cons, List.not_mem_nil, or_false] at hx; rcases hx with rfl | rfl | rfl | rfl | rfl | rfl | rfl | rfl | rfl | rfl <;> simp), tq⟩
                clear hdep hC hli ho hT
                first | (go_simp; done) | (go_simp; rfl)
              · cases (show some _ = some o from ho)
                refine wpOp_of ho rfl ?_
                refine wp_value (v := .bool more) (w1 := Wx) ?_ ⟨_, rfl, hT.step (i := 7) (d := 79) (v := .bool more) (by intro x hx; simp only [tabA21, List.mem_cons, List.not_mem_nil, or_false] at hx; rcases hx with rfl | rfl | rfl | rfl | rfl | rfl | rfl | rfl | rfl | rfl <;> simp), tq⟩
                clear hdep hC hli ho hT
                first | (go_simp; done) | (go_simp; rfl)
              · cases (show some _ = some o from ho)
                have g1 : f 73 = .bool sx := hT (1, 73, .bool sx) (by simp [tabA21]) (hdep { on := 1, ground := .data } (by simp) rfl)
                have g4 : f 76 = .agg #[.int .i64 r0, .int .i64 r1] := hT (4, 76, .agg #[.int .i64 r0, .int .i64 r1]) (by simp [tabA21]) (hdep { on := 4, ground := .data } (by simp) rfl)
                have g6 : f 78 = .int .i64 e2 := hT (6, 78, .int .i64 e2) (by simp [tabA21]) (hdep { on := 6, ground := .data } (by simp) rfl)
                have g7 : f 79 = .bool more := hT (7, 79, .bool more) (by simp [tabA21]) (hdep { on := 7, ground := .data } (by simp) rfl)
                refine wpOp_of ho rfl ?_
                refine wp_enter (f := 90) (args := #[.bool sx, .agg #[.int .i64 r0, .int .i64 r1], .int .i64 e2, .bool more]) (w1 := Wx) ?_ ((hR Wx).mono ?_)
                · clear hdep hC hli ho hT
                  first | (go_simp; done) | (go_simp; rfl)
                · rintro _ W1 ⟨rfl, t1⟩
                  exact ⟨_, rfl, _, rfl, hT.step (i := 8) (d := 80) (v := .int .i64 r) (by intro x hx; simp only [tabA21, List.mem_cons, List.not_mem_nil, or_false] at hx; rcases hx with rfl | rfl | rfl | rfl | rfl | rfl | rfl | rfl | rfl | rfl <;> simp), tq.trans t1 (by simp)⟩
              · cases (show some _ = some o from ho)
                have g8 : f 80 = .int .i64 r := hT (8, 80, .int .i64 r) (by simp [tabA21]) (hdep { on := 8, ground := .data } (by simp) rfl)
                refine wpOp_of ho rfl ?_
                refine wp_value (v := .int .i64 r) (w1 := Wx) ?_ ⟨_, rfl, hT.step (i := 9) (d := 4) (v := .int .i64 r) (by intro x hx; simp only [tabA21, List.mem_cons, List.not_mem_nil, or_false] at hx; rcases hx with rfl | rfl | rfl | rfl | rfl | rfl | rfl | rfl | rfl | rfl <;> simp), tq⟩
                clear hdep hC hli ho hT
                first | (go_simp; done) | (go_simp; rfl)
            case fin =>
              rintro listed a Wx hl ⟨f, rfl, hT, tq⟩
              have e72 : f 72 = .pointer (some ⟨z, 1, none⟩) := hT (0, 72, .pointer (some ⟨z, 1, none⟩)) (by simp [tabA21]) (hl 0 (by decide))
              have e73 : f 73 = .bool sx := hT (1, 73, .bool sx) (by simp [tabA21]) (hl 1 (by decide))
              have e74 : f 74 = .agg #[.int .i64 p0, .int .i64 p1] := hT (2, 74, .agg #[.int .i64 p0, .int .i64 p1]) (by simp [tabA21]) (hl 2 (by decide))
              have e75 : f 75 = .agg #[.int .i64 q0, .int .i64 q1] := hT (3, 75, .agg #[.int .i64 q0, .int .i64 q1]) (by simp [tabA21]) (hl 3 (by decide))
              have e76 : f 76 = .agg #[.int .i64 r0, .int .i64 r1] := hT (4, 76, .agg #[.int .i64 r0, .int .i64 r1]) (by simp [tabA21]) (hl 4 (by decide))
              have e77 : f 77 = .pointer (some ⟨z, 3, none⟩) := hT (5, 77, .pointer (some ⟨z, 3, none⟩)) (by simp [tabA21]) (hl 5 (by decide))
              have e78 : f 78 = .int .i64 e2 := hT (6, 78, .int .i64 e2) (by simp [tabA21]) (hl 6 (by decide))
              have e79 : f 79 = .bool more := hT (7, 79, .bool more) (by simp [tabA21]) (hl 7 (by decide))
              have e80 : f 80 = .int .i64 r := hT (8, 80, .int .i64 r) (by simp [tabA21]) (hl 8 (by decide))
              have e4 : f 4 = .int .i64 r := hT (9, 4, .int .i64 r) (by simp [tabA21]) (hl 9 (by decide))
              have TQ := Lib.hid tq
              clear hT hl tq hS hR
              rw [e72, e73, e74, e75, e76, e77, e78, e79, e80, e4]
              clear e72 e73 e74 e75 e76 e77 e78 e79 e80 e4
              go_wp2_with fail
              go_ret
              exact ⟨r, ⟨P, Q, e2, more, HMID.out, HR0.out⟩, rfl, HT.out.trans TQ.out (by simp)⟩
          · have hsb : (sx == sy) = false := beq_eq_false_iff_ne.2 hs
            have heq := fun W => pair_eql (pl P) (ph P) (pl Q) (ph Q) W
            rw [pair_same P Q (by have := HB.out; omega) (by have := HB.out; omega)] at heq
            by_cases hPQ : P = Q
            · have hmf : more = false := by
                cases more with
                | false => rfl
                | true => have := HB.out.2.2 rfl; omega
              have HR0 : Hid (TailIs sx sy P Q e2 more 0) := Lib.hid (by unfold TailIs; rw [if_neg hs, if_pos ⟨hPQ, hmf⟩])
              rw [decide_eq_true hPQ] at heq
              clear hPQ
              subst hmf
              go_wp2_with fail
              go_ret
              exact ⟨0, ⟨P, Q, e2, false, HMID.out, HR0.out⟩, rfl, HT.out⟩
            · rw [decide_eq_false hPQ] at heq
              have hUL := fun W => less_p P Q (by have := HB.out; omega) (by have := HB.out; omega) W
              by_cases hlt : P < Q
              · have hmf : more = false := by
                  cases more with
                  | false => rfl
                  | true => have := HB.out.2.2 rfl; omega
                have HR0 : Hid (TailIs sx sy P Q e2 more (cellOf (Fl.Sr sy (Q - P) e2 more))) := Lib.hid (by unfold TailIs; rw [if_neg hs, if_neg (fun h => hPQ h.1), if_pos hlt])
                rw [decide_eq_true hlt] at hUL
                have hN := fun W => neg_p P (by have := HB.out; omega) ((340282366920938463463374607431768211456 - P) % 340282366920938463463374607431768211456) rfl W
                have hS := fun W => add_p Q ((340282366920938463463374607431768211456 - P) % 340282366920938463463374607431768211456) (by have := HB.out; omega) (Nat.mod_lt _ (by omega)) (Q - P) (by have := HB.out; omega) W
                have hR := fun W => rounded_all sy more (Q - P) (by have := HB.out; omega) (.inl hmf) e2 (by omega) (by omega) W
                obtain ⟨r, hr⟩ : ∃ r, cellOf (Fl.Sr sy (Q - P) e2 more) = r := ⟨_, rfl⟩
                rw [hr] at hR HR0
                unfold two at hR
                obtain ⟨p0, hp0⟩ : ∃ p0, pl P = p0 := ⟨_, rfl⟩
                obtain ⟨p1, hp1⟩ : ∃ p1, ph P = p1 := ⟨_, rfl⟩
                obtain ⟨q0, hq0⟩ : ∃ q0, pl Q = q0 := ⟨_, rfl⟩
                obtain ⟨q1, hq1⟩ : ∃ q1, ph Q = q1 := ⟨_, rfl⟩
                obtain ⟨r0, hr0⟩ : ∃ r0, pl (Q - P) = r0 := ⟨_, rfl⟩
                obtain ⟨r1, hr1⟩ : ∃ r1, ph (Q - P) = r1 := ⟨_, rfl⟩
                obtain ⟨n0, hn0⟩ : ∃ n0, pl ((340282366920938463463374607431768211456 - P) % 340282366920938463463374607431768211456) = n0 := ⟨_, rfl⟩
                obtain ⟨n1, hn1⟩ : ∃ n1, ph ((340282366920938463463374607431768211456 - P) % 340282366920938463463374607431768211456) = n1 := ⟨_, rfl⟩
                simp only [hp0, hp1, hq0, hq1, hr0, hr1, hn0, hn1] at c0 c1 d0 d1 hN hS hR hUL heq
                clear hr hp0 hp1 hq0 hq1 hr0 hr1 hn0 hn1 hPQ hlt
                clear hmf
                go_wp2_with fail
                refine (hUL _).mono ?_
                rintro _ w1 ⟨rfl, t1⟩
                have a1 := cell_quiet t1 a1
                have a3 := cell_quiet t1 a3
                have b1 := cell_quiet t1 b1
                have c0 := cell_quiet t1 c0
                have c1 := cell_quiet t1 c1
                have d0 := cell_quiet t1 d0
                have d1 := cell_quiet t1 d1
                have HT := Lib.hid (HT.out.trans t1 (by simp))
                clear t1 hUL heq b3
                go_upto_region 25 with fail
                refine frame_any (fun g f => #[.agg #[.int .i64 2, .bool sa, .int .u64 ia, .int .i64 ea], .agg #[.int .i64 2, .bool sb, .int .u64 ib, .int .i64 eb], .pointer (some ⟨z, 0, none⟩), .pointer (some ⟨z + 1, 0, none⟩), f 4, .pointer (some ⟨z + 2, 0, none⟩), .pointer (some ⟨z + 3, 0, none⟩), .bool more, g 8, g 9, g 10, g 11, g 12, g 13, g 14, g 15, g 16, g 17, g 18, g 19, g 20, g 21, g 22, g 23, g 24, g 25, g 26, g 27, g 28, g 29, g 30, g 31, g 32, g 33, g 34, g 35, g 36, g 37, g 38, g 39, g 40, g 41, g 42, g 43, g 44, g 45, g 46, g 47, g 48, g 49, g 50, g 51, g 52, g 53, g 54, g 55, g 56, g 57, g 58, g 59, g 60, g 61, g 62, g 63, g 64, g 65, g 66, g 67, g 68, g 69, g 70, g 71, g 72, g 73, g 74, g 75, g 76, g 77, g 78, g 79, g 80, g 81, g 82, g 83, g 84, g 85, g 86, g 87, g 88, g 89, g 90, f 91, f 92, f 93, f 94, f 95, f 96, f 97, f 98, f 99, f 100, g 101, g 102, g 103, g 104, g 105, g 106, g 107, g 108, g 109, g 110]) rfl (fun g f => ?_)
                refine region_inv2 (fun listed a Wx => ∃ f : Nat → Value, a = { tmps := #[.agg #[.int .i64 2, .bool sa, .int .u64 ia, .int .i64 ea], .agg #[.int .i64 2, .bool sb, .int .u64 ib, .int .i64 eb], .pointer (some ⟨z, 0, none⟩), .pointer (some ⟨z + 1, 0, none⟩), f 4, .pointer (some ⟨z + 2, 0, none⟩), .pointer (some ⟨z + 3, 0, none⟩), .bool more, g 8, g 9, g 10, g 11, g 12, g 13, g 14, g 15, g 16, g 17, g 18, g 19, g 20, g 21, g 22, g 23, g 24, g 25, g 26, g 27, g 28, g 29, g 30, g 31, g 32, g 33, g 34, g 35, g 36, g 37, g 38, g 39, g 40, g 41, g 42, g 43, g 44, g 45, g 46, g 47, g 48, g 49, g 50, g 51, g 52, g 53, g 54, g 55, g 56, g 57, g 58, g 59, g 60, g 61, g 62, g 63, g 64, g 65, g 66, g 67, g 68, g 69, g 70, g 71, g 72, g 73, g 74, g 75, g 76, g 77, g 78, g 79, g 80, g 81, g 82, g 83, g 84, g 85, g 86, g 87, g 88, g 89, g 90, f 91, f 92, f 93, f 94, f 95, f 96, f 97, f 98, f 99, f 100, g 101, g 102, g 103, g 104, g 105, g 106, g 107, g 108, g 109, g 110], defers := [] } ∧ TabOk (tabA25 z more sy p0 p1 q0 q1 n0 n1 r0 r1 e2 r) listed f ∧ Touch [] w1 Wx) (by kernel_rfl) (by kernel_rfl) ?h0 ?step ?fin
                case h0 =>
                  intro listed hs hl
                  exact ⟨f, rfl, fun x _ h => (by rw [hl] at h; cases h), (Touch.refl [] w1).drew⟩
                case step =>
                  rintro listed a Wx ⟨f, rfl, hT, tq⟩ hC i o ho hli hdep
                  try dsimp only
                  have hi : i < 11 := (Array.getElem?_eq_some_iff.1 ho).1
                  have a1 := cell_quiet tq a1
                  have a3 := cell_quiet tq a3
                  have b1 := cell_quiet tq b1
                  have c0 := cell_quiet tq c0
                  have c1 := cell_quiet tq c1
                  have d0 := cell_quiet tq d0
                  have d1 := cell_quiet tq d1
                  rcases (by omega : i = 0 ∨ i = 1 ∨ i = 2 ∨ i = 3 ∨ i = 4 ∨ i = 5 ∨ i = 6 ∨ i = 7 ∨ i = 8 ∨ i = 9 ∨ i = 10) with rfl | rfl | rfl | rfl | rfl | rfl | rfl | rfl | rfl | rfl | rfl
                  · cases (show some _ = some o from ho)
                    refine wpOp_of ho rfl ?_
                    refine wp_value (v := .pointer (some ⟨z + 1, 1, none⟩)) (w1 := Wx) ?_ ⟨_, rfl, hT.step (i := 0) (d := 91) (v := .pointer (some ⟨z + 1, 1, none⟩)) (by intro x hx; simp only [tabA25, List.mem_cons, List.not_mem_nil, or_false] at hx; rcases hx with rfl | rfl | rfl | rfl | rfl | rfl | rfl | rfl | rfl | rfl | rfl <;> simp), tq⟩
                    clear hdep hC hli ho hT
                    first | (go_simp; done) | (go_simp; rfl)
                  · cases (show some _ = some o from ho)
                    have g0 : f 91 = .pointer (some ⟨z + 1, 1, none⟩) := hT (0, 91, .pointer (some ⟨z + 1, 1, none⟩)) (by simp [tabA25]) (hdep { on := 0, ground := .data } (by simp) rfl)
                    refine wpOp_of ho rfl ?_
                    refine wp_value (v := .bool sy) (w1 := Wx) ?_ ⟨_, rfl, hT.step (i := 1) (d := 92) (v := .bool sy) (by intro x hx; simp only [tabA25, List.mem_cons, List.not_mem_nil, or_false] at hx; rcases hx with rfl | rfl | rfl | rfl | rfl | rfl | rfl | rfl | rfl | rfl | rfl <;> simp), tq⟩
                    clear hdep hC hli ho hT
                    first | (go_simp; done) | (go_simp; rfl)
                  · cases (show some _ = some o from ho)
                    refine wpOp_of ho rfl ?_
                    refine wp_value (v := .agg #[.int .i64 q0, .int .i64 q1]) (w1 := Wx) ?_ ⟨_, rfl, hT.step (i := 2) (d := 93) (v := .agg #[.int .i64 q0, .int .i64 q1]) (by intro x hx; simp only [tabA25, List.mem_cons, List.not_mem_nil, or_false] at hx; rcases hx with rfl | rfl | rfl | rfl | rfl | rfl | rfl | rfl | rfl | rfl | rfl <;> simp), tq⟩
                    clear hdep hC hli ho hT
                    first | (go_simp; done) | (go_simp; rfl)
                  · cases (show some _ = some o from ho)
                    refine wpOp_of ho rfl ?_
                    refine wp_value (v := .agg #[.int .i64 p0, .int .i64 p1]) (w1 := Wx) ?_ ⟨_, rfl, hT.step (i := 3) (d := 94) (v := .agg #[.int .i64 p0, .int .i64 p1]) (by intro x hx; simp only [tabA25, List.mem_cons, List.not_mem_nil, or_false] at hx; rcases hx with rfl | rfl | rfl | rfl | rfl | rfl | rfl | rfl | rfl | rfl | rfl <;> simp), tq⟩
                    clear hdep hC hli ho hT
                    first | (go_simp; done) | (go_simp; rfl)
                  · cases (show some _ = some o from ho)
                    have g3 : f 94 = .agg #[.int .i64 p0, .int .i64 p1] := hT (3, 94, .agg #[.int .i64 p0, .int .i64 p1]) (by simp [tabA25]) (hdep { on := 3, ground := .data } (by simp) rfl)
                    refine wpOp_of ho rfl ?_
                    refine wp_enter (f := 19) (args := #[.agg #[.int .i64 p0, .int .i64 p1]]) (w1 := Wx) ?_ ((hN Wx).mono ?_)
                    · clear hdep hC hli ho hT
                      first | (go_simp; done) | (go_simp; rfl)
                    · rintro _ W1 ⟨rfl, t1⟩
                      exact ⟨_, rfl, _, rfl, hT.step (i := 4) (d := 95) (v := .agg #[.int .i64 n0, .int .i64 n1]) (by intro x hx; simp only [tabA25, List.mem_cons, List.not_mem_nil, or_false] at hx; rcases hx with rfl | rfl | rfl | rfl | rfl | rfl | rfl | rfl | rfl | rfl | rfl <;> simp), tq.trans t1 (by simp)⟩
                  · cases (show some _ = some o from ho)
                    have g2 : f 93 = .agg #[.int .i64 q0, .int .i64 q1] := hT (2, 93, .agg #[.int .i64 q0, .int .i64 q1]) (by simp [tabA25]) (hdep { on := 2, ground := .data } (by simp) rfl)
                    have g4 : f 95 = .agg #[.int .i64 n0, .int .i64 n1] := hT (4, 95, .agg #[.int .i64 n0, .int .i64 n1]) (by simp [tabA25]) (hdep { on := 4, ground := .data } (by simp) rfl)
                    refine wpOp_of ho rfl ?_
                    refine wp_enter (f := 28) (args := #[.agg #[.int .i64 q0, .int .i64 q1], .agg #[.int .i64 n0, .int .i64 n1]]) (w1 := Wx) ?_ ((hS Wx).mono ?_)
                    · clear hdep hC hli ho hT
                      first | (go_simp; done) | (go_simp; rfl)
                    · rintro _ W1 ⟨rfl, t1⟩
                      exact ⟨_, rfl, _, rfl, hT.step (i := 5) (d := 96) (v := .agg #[.int .i64 r0, .int .i64 r1]) (by intro x hx; simp only [tabA25, List.mem_cons, List.not_mem_nil, or_false] at hx; rcases hx with rfl | rfl | rfl | rfl | rfl | rfl | rfl | rfl | rfl | rfl | rfl <;> simp), tq.trans t1 (by simp)⟩
                  · cases (show some _ = some o from ho)
                    refine wpOp_of ho rfl ?_
                    refine wp_value (v := .pointer (some ⟨z, 3, none⟩)) (w1 := Wx) ?_ ⟨_, rfl, hT.step (i := 6) (d := 97) (v := .pointer (some ⟨z, 3, none⟩)) (by intro x hx; simp only [tabA25, List.mem_cons, List.not_mem_nil, or_false] at hx; rcases hx with rfl | rfl | rfl | rfl | rfl | rfl | rfl | rfl | rfl | rfl | rfl <;> simp), tq⟩
                    clear hdep hC hli ho hT
                    first | (go_simp; done) | (go_simp; rfl)
                  · cases (show some _ = some o from ho)
                    have g6 : f 97 = .pointer (some ⟨z, 3, none⟩) := hT (6, 97, .pointer (some ⟨z, 3, none⟩)) (by simp [tabA25]) (hdep { on := 6, ground := .data } (by simp) rfl)
                    refine wpOp_of ho rfl ?_
                    refine wp_value (v := .int .i64 e2) (w1 := Wx) ?_ ⟨_, rfl, hT.step (i := 7) (d := 98) (v := .int .i64 e2) (by intro x hx; simp only [tabA25, List.mem_cons, List.not_mem_nil, or_false] at hx; rcases hx with rfl | rfl | rfl | rfl | rfl | rfl | rfl | rfl | rfl | rfl | rfl <;> simp), tq⟩
                    clear hdep hC hli ho hT
                    first | (go_simp; done) | (go_simp; rfl)
                  · cases (show some _ = some o from ho)
                    refine wpOp_of ho rfl ?_
                    refine wp_value (v := .bool more) (w1 := Wx) ?_ ⟨_, rfl, hT.step (i := 8) (d := 99) (v := .bool more) (by intro x hx; simp only [tabA25, List.mem_cons, List.not_mem_nil, or_false] at hx; rcases hx with rfl | rfl | rfl | rfl | rfl | rfl | rfl | rfl | rfl | rfl | rfl <;> simp), tq⟩
                    clear hdep hC hli ho hT
                    first | (go_simp; done) | (go_simp; rfl)
                  · cases (show some _ = some o from ho)
                    have g1 : f 92 = .bool sy := hT (1, 92, .bool sy) (by simp [tabA25]) (hdep { on := 1, ground := .data } (by simp) rfl)
                    have g5 : f 96 = .agg #[.int .i64 r0, .int .i64 r1] := hT (5, 96, .agg #[.int .i64 r0, .int .i64 r1]) (by simp [tabA25]) (hdep { on := 5, ground := .data } (by simp) rfl)
                    have g7 : f 98 = .int .i64 e2 := hT (7, 98, .int .i64 e2) (by simp [tabA25]) (hdep { on := 7, ground := .data } (by simp) rfl)
                    have g8 : f 99 = .bool more := hT (8, 99, .bool more) (by simp [tabA25]) (hdep { on := 8, ground := .data } (by simp) rfl)
                    refine wpOp_of ho rfl ?_
                    refine wp_enter (f := 90) (args := #[.bool sy, .agg #[.int .i64 r0, .int .i64 r1], .int .i64 e2, .bool more]) (w1 := Wx) ?_ ((hR Wx).mono ?_)
                    · clear hdep hC hli ho hT
                      first | (go_simp; done) | (go_simp; rfl)
                    · rintro _ W1 ⟨rfl, t1⟩
                      exact ⟨_, rfl, _, rfl, hT.step (i := 9) (d := 100) (v := .int .i64 r) (by intro x hx; simp only [tabA25, List.mem_cons, List.not_mem_nil, or_false] at hx; rcases hx with rfl | rfl | rfl | rfl | rfl | rfl | rfl | rfl | rfl | rfl | rfl <;> simp), tq.trans t1 (by simp)⟩
                  · cases (show some _ = some o from ho)
                    have g9 : f 100 = .int .i64 r := hT (9, 100, .int .i64 r) (by simp [tabA25]) (hdep { on := 9, ground := .data } (by simp) rfl)
                    refine wpOp_of ho rfl ?_
                    refine wp_value (v := .int .i64 r) (w1 := Wx) ?_ ⟨_, rfl, hT.step (i := 10) (d := 4) (v := .int .i64 r) (by intro x hx; simp only [tabA25, List.mem_cons, List.not_mem_nil, or_false] at hx; rcases hx with rfl | rfl | rfl | rfl | rfl | rfl | rfl | rfl | rfl | rfl | rfl <;> simp), tq⟩
                    clear hdep hC hli ho hT
                    first | (go_simp; done) | (go_simp; rfl)
                case fin =>
                  rintro listed a Wx hl ⟨f, rfl, hT, tq⟩
                  have e91 : f 91 = .pointer (some ⟨z + 1, 1, none⟩) := hT (0, 91, .pointer (some ⟨z + 1, 1, none⟩)) (by simp [tabA25]) (hl 0 (by decide))
                  have e92 : f 92 = .bool sy := hT (1, 92, .bool sy) (by simp [tabA25]) (hl 1 (by decide))
                  have e93 : f 93 = .agg #[.int .i64 q0, .int .i64 q1] := hT (2, 93, .agg #[.int .i64 q0, .int .i64 q1]) (by simp [tabA25]) (hl 2 (by decide))
                  have e94 : f 94 = .agg #[.int .i64 p0, .int .i64 p1] := hT (3, 94, .agg #[.int .i64 p0, .int .i64 p1]) (by simp [tabA25]) (hl 3 (by decide))
                  have e95 : f 95 = .agg #[.int .i64 n0, .int .i64 n1] := hT (4, 95, .agg #[.int .i64 n0, .int .i64 n1]) (by simp [tabA25]) (hl 4 (by decide))
                  have e96 : f 96 = .agg #[.int .i64 r0, .int .i64 r1] := hT (5, 96, .agg #[.int .i64 r0, .int .i64 r1]) (by simp [tabA25]) (hl 5 (by decide))
                  have e97 : f 97 = .pointer (some ⟨z, 3, none⟩) := hT (6, 97, .pointer (some ⟨z, 3, none⟩)) (by simp [tabA25]) (hl 6 (by decide))
                  have e98 : f 98 = .int .i64 e2 := hT (7, 98, .int .i64 e2) (by simp [tabA25]) (hl 7 (by decide))
                  have e99 : f 99 = .bool more := hT (8, 99, .bool more) (by simp [tabA25]) (hl 8 (by decide))
                  have e100 : f 100 = .int .i64 r := hT (9, 100, .int .i64 r) (by simp [tabA25]) (hl 9 (by decide))
                  have e4 : f 4 = .int .i64 r := hT (10, 4, .int .i64 r) (by simp [tabA25]) (hl 10 (by decide))
                  have TQ := Lib.hid tq
                  clear hT hl tq hS hR hN
                  rw [e91, e92, e93, e94, e95, e96, e97, e98, e99, e100, e4]
                  clear e91 e92 e93 e94 e95 e96 e97 e98 e99 e100 e4
                  go_wp2_with fail
                  go_ret
                  exact ⟨r, ⟨P, Q, e2, more, HMID.out, HR0.out⟩, rfl, HT.out.trans TQ.out (by simp)⟩
              · have HR0 : Hid (TailIs sx sy P Q e2 more (cellOf (Fl.Sr sx (P - Q) e2 more))) := Lib.hid (by unfold TailIs; rw [if_neg hs, if_neg (fun h => hPQ h.1), if_neg hlt])
                rw [decide_eq_false hlt] at hUL
                have hN := fun W => neg_p Q (by have := HB.out; omega) ((340282366920938463463374607431768211456 - Q) % 340282366920938463463374607431768211456) rfl W
                have hS := fun W => add_p P ((340282366920938463463374607431768211456 - Q) % 340282366920938463463374607431768211456) (by have := HB.out; omega) (Nat.mod_lt _ (by omega)) (P - Q) (by have := HB.out; omega) W
                have hR := fun W => rounded_all sx more (P - Q) (by have := HB.out; omega) (by
                  have := HB.out.2.2
                  cases more with
                  | false => exact .inl rfl
                  | true => right; have := this rfl; omega) e2 (by omega) (by omega) W
                obtain ⟨r, hr⟩ : ∃ r, cellOf (Fl.Sr sx (P - Q) e2 more) = r := ⟨_, rfl⟩
                rw [hr] at hR HR0
                unfold two at hR
                obtain ⟨p0, hp0⟩ : ∃ p0, pl P = p0 := ⟨_, rfl⟩
                obtain ⟨p1, hp1⟩ : ∃ p1, ph P = p1 := ⟨_, rfl⟩
                obtain ⟨q0, hq0⟩ : ∃ q0, pl Q = q0 := ⟨_, rfl⟩
                obtain ⟨q1, hq1⟩ : ∃ q1, ph Q = q1 := ⟨_, rfl⟩
                obtain ⟨r0, hr0⟩ : ∃ r0, pl (P - Q) = r0 := ⟨_, rfl⟩
                obtain ⟨r1, hr1⟩ : ∃ r1, ph (P - Q) = r1 := ⟨_, rfl⟩
                obtain ⟨n0, hn0⟩ : ∃ n0, pl ((340282366920938463463374607431768211456 - Q) % 340282366920938463463374607431768211456) = n0 := ⟨_, rfl⟩
                obtain ⟨n1, hn1⟩ : ∃ n1, ph ((340282366920938463463374607431768211456 - Q) % 340282366920938463463374607431768211456) = n1 := ⟨_, rfl⟩
                simp only [hp0, hp1, hq0, hq1, hr0, hr1, hn0, hn1] at c0 c1 d0 d1 hN hS hR hUL heq
                clear hr hp0 hp1 hq0 hq1 hr0 hr1 hn0 hn1 hPQ hlt
                go_wp2_with fail
                refine (hUL _).mono ?_
                rintro _ w1 ⟨rfl, t1⟩
                have a1 := cell_quiet t1 a1
                have a3 := cell_quiet t1 a3
                have b1 := cell_quiet t1 b1
                have c0 := cell_quiet t1 c0
                have c1 := cell_quiet t1 c1
                have d0 := cell_quiet t1 d0
                have d1 := cell_quiet t1 d1
                have HT := Lib.hid (HT.out.trans t1 (by simp))
                clear t1 hUL heq b3
                go_upto_region 26 with fail
                refine frame_any (fun g f => #[.agg #[.int .i64 2, .bool sa, .int .u64 ia, .int .i64 ea], .agg #[.int .i64 2, .bool sb, .int .u64 ib, .int .i64 eb], .pointer (some ⟨z, 0, none⟩), .pointer (some ⟨z + 1, 0, none⟩), f 4, .pointer (some ⟨z + 2, 0, none⟩), .pointer (some ⟨z + 3, 0, none⟩), .bool more, g 8, g 9, g 10, g 11, g 12, g 13, g 14, g 15, g 16, g 17, g 18, g 19, g 20, g 21, g 22, g 23, g 24, g 25, g 26, g 27, g 28, g 29, g 30, g 31, g 32, g 33, g 34, g 35, g 36, g 37, g 38, g 39, g 40, g 41, g 42, g 43, g 44, g 45, g 46, g 47, g 48, g 49, g 50, g 51, g 52, g 53, g 54, g 55, g 56, g 57, g 58, g 59, g 60, g 61, g 62, g 63, g 64, g 65, g 66, g 67, g 68, g 69, g 70, g 71, g 72, g 73, g 74, g 75, g 76, g 77, g 78, g 79, g 80, g 81, g 82, g 83, g 84, g 85, g 86, g 87, g 88, g 89, g 90, g 91, g 92, g 93, g 94, g 95, g 96, g 97, g 98, g 99, g 100, f 101, f 102, f 103, f 104, f 105, f 106, f 107, f 108, f 109, f 110]) rfl (fun g f => ?_)
                refine region_inv2 (fun listed a Wx => ∃ f : Nat → Value, a = { tmps := #[.agg #[.int .i64 2, .bool sa, .int .u64 ia, .int .i64 ea], .agg #[.int .i64 2, .bool sb, .int .u64 ib, .int .i64 eb], .pointer (some ⟨z, 0, none⟩), .pointer (some ⟨z + 1, 0, none⟩), f 4, .pointer (some ⟨z + 2, 0, none⟩), .pointer (some ⟨z + 3, 0, none⟩), .bool more, g 8, g 9, g 10, g 11, g 12, g 13, g 14, g 15, g 16, g 17, g 18, g 19, g 20, g 21, g 22, g 23, g 24, g 25, g 26, g 27, g 28, g 29, g 30, g 31, g 32, g 33, g 34, g 35, g 36, g 37, g 38, g 39, g 40, g 41, g 42, g 43, g 44, g 45, g 46, g 47, g 48, g 49, g 50, g 51, g 52, g 53, g 54, g 55, g 56, g 57, g 58, g 59, g 60, g 61, g 62, g 63, g 64, g 65, g 66, g 67, g 68, g 69, g 70, g 71, g 72, g 73, g 74, g 75, g 76, g 77, g 78, g 79, g 80, g 81, g 82, g 83, g 84, g 85, g 86, g 87, g 88, g 89, g 90, g 91, g 92, g 93, g 94, g 95, g 96, g 97, g 98, g 99, g 100, f 101, f 102, f 103, f 104, f 105, f 106, f 107, f 108, f 109, f 110], defers := [] } ∧ TabOk (tabA26 z more sx p0 p1 q0 q1 n0 n1 r0 r1 e2 r) listed f ∧ Touch [] w1 Wx) (by kernel_rfl) (by kernel_rfl) ?h0 ?step ?fin
                case h0 =>
                  intro listed hs hl
                  exact ⟨f, rfl, fun x _ h => (by rw [hl] at h; cases h), (Touch.refl [] w1).drew⟩
                case step =>
                  rintro listed a Wx ⟨f, rfl, hT, tq⟩ hC i o ho hli hdep
                  try dsimp only
                  have hi : i < 11 := (Array.getElem?_eq_some_iff.1 ho).1
                  have a1 := cell_quiet tq a1
                  have a3 := cell_quiet tq a3
                  have b1 := cell_quiet tq b1
                  have c0 := cell_quiet tq c0
                  have c1 := cell_quiet tq c1
                  have d0 := cell_quiet tq d0
                  have d1 := cell_quiet tq d1
                  rcases (by omega : i = 0 ∨ i = 1 ∨ i = 2 ∨ i = 3 ∨ i = 4 ∨ i = 5 ∨ i = 6 ∨ i = 7 ∨ i = 8 ∨ i = 9 ∨ i = 10) with rfl | rfl | rfl | rfl | rfl | rfl | rfl | rfl | rfl | rfl | rfl
                  · cases (show some _ = some o from ho)
                    refine wpOp_of ho rfl ?_
                    refine wp_value (v := .pointer (some ⟨z, 1, none⟩)) (w1 := Wx) ?_ ⟨_, rfl, hT.step (i := 0) (d := 101) (v := .pointer (some ⟨z, 1, none⟩)) (by intro x hx; simp only [tabA26, List.mem_cons, List.not_mem_nil, or_false] at hx; rcases hx with rfl | rfl | rfl | rfl | rfl | rfl | rfl | rfl | rfl | rfl | rfl <;> simp), tq⟩
                    clear hdep hC hli ho hT
                    first | (go_simp; done) | (go_simp; rfl)
                  · cases (show some _ = some o from ho)
                    have g0 : f 101 = .pointer (some ⟨z, 1, none⟩) := hT (0, 101, .pointer (some ⟨z, 1, none⟩)) (by simp [tabA26]) (hdep { on := 0, ground := .data } (by simp) rfl)
                    refine wpOp_of ho rfl ?_
                    refine wp_value (v := .bool sx) (w1 := Wx) ?_ ⟨_, rfl, hT.step (i := 1) (d := 102) (v := .bool sx) (by intro x hx; simp only [tabA26, List.mem_cons, List.not_mem_nil, or_false] at hx; rcases hx with rfl | rfl | rfl | rfl | rfl | rfl | rfl | rfl | rfl | rfl | rfl <;> simp), tq⟩
                    clear hdep hC hli ho hT
                    first | (go_simp; done) | (go_simp; rfl)
                  · cases (show some _ = some o from ho)
                    refine wpOp_of ho rfl ?_
                    refine wp_value (v := .agg #[.int .i64 p0, .int .i64 p1]) (w1 := Wx) ?_ ⟨_, rfl, hT.step (i := 2) (d := 103) (v := .agg #[.int .i64 p0, .int .i64 p1]) (by intro x hx; simp only [tabA26, List.mem_cons, List.not_mem_nil, or_false] at hx; rcases hx with rfl | rfl | rfl | rfl | rfl | rfl | rfl | rfl | rfl | rfl | rfl <;> simp), tq⟩
                    clear hdep hC hli ho hT
                    first | (go_simp; done) | (go_simp; rfl)
                  · cases (show some _ = some o from ho)
                    refine wpOp_of ho rfl ?_
                    refine wp_value (v := .agg #[.int .i64 q0, .int .i64 q1]) (w1 := Wx) ?_ ⟨_, rfl, hT.step (i := 3) (d := 104) (v := .agg #[.int .i64 q0, .int .i64 q1]) (by intro x hx; simp only [tabA26, List.mem_cons, List.not_mem_nil, or_false] at hx; rcases hx with rfl | rfl | rfl | rfl | rfl | rfl | rfl | rfl | rfl | rfl | rfl <;> simp), tq⟩
                    clear hdep hC hli ho hT
                    first | (go_simp; done) | (go_simp; rfl)
                  · cases (show some _ = some o from ho)
                    have g3 : f 104 = .agg #[.int .i64 q0, .int .i64 q1] := hT (3, 104, .agg #[.int .i64 q0, .int .i64 q1]) (by simp [tabA26]) (hdep { on := 3, ground := .data } (by simp) rfl)
                    refine wpOp_of ho rfl ?_
                    refine wp_enter (f := 19) (args := #[.agg #[.int .i64 q0, .int .i64 q1]]) (w1 := Wx) ?_ ((hN Wx).mono ?_)
                    · clear hdep hC hli ho hT
                      first | (go_simp; done) | (go_simp; rfl)
                    · rintro _ W1 ⟨rfl, t1⟩
                      exact ⟨_, rfl, _, rfl, hT.step (i := 4) (d := 105) (v := .agg #[.int .i64 n0, .int .i64 n1]) (by intro x hx; simp only [tabA26, List.mem_cons, List.not_mem_nil, or_false] at hx; rcases hx with rfl | rfl | rfl | rfl | rfl | rfl | rfl | rfl | rfl | rfl | rfl <;> simp), tq.trans t1 (by simp)⟩
                  · cases (show some _ = some o from ho)
                    have g2 : f 103 = .agg #[.int .i64 p0, .int .i64 p1] := hT (2, 103, .agg #[.int .i64 p0, .int .i64 p1]) (by simp [tabA26]) (hdep { on := 2, ground := .data } (by simp) rfl)
                    have g4 : f 105 = .agg #[.int .i64 n0, .int .i64 n1] := hT (4, 105, .agg #[.int .i64 n0, .int .i64 n1]) (by simp [tabA26]) (hdep { on := 4, ground := .data } (by simp) rfl)
                    refine wpOp_of ho rfl ?_
                    refine wp_enter (f := 28) (args := #[.agg #[.int .i64 p0, .int .i64 p1], .agg #[.int .i64 n0, .int .i64 n1]]) (w1 := Wx) ?_ ((hS Wx).mono ?_)
                    · clear hdep hC hli ho hT
                      first | (go_simp; done) | (go_simp; rfl)
                    · rintro _ W1 ⟨rfl, t1⟩
                      exact ⟨_, rfl, _, rfl, hT.step (i := 5) (d := 106) (v := .agg #[.int .i64 r0, .int .i64 r1]) (by intro x hx; simp only [tabA26, List.mem_cons, List.not_mem_nil, or_false] at hx; rcases hx with rfl | rfl | rfl | rfl | rfl | rfl | rfl | rfl | rfl | rfl | rfl <;> simp), tq.trans t1 (by simp)⟩
                  · cases (show some _ = some o from ho)
                    refine wpOp_of ho rfl ?_
                    refine wp_value (v := .pointer (some ⟨z, 3, none⟩)) (w1 := Wx) ?_ ⟨_, rfl, hT.step (i := 6) (d := 107) (v := .pointer (some ⟨z, 3, none⟩)) (by intro x hx; simp only [tabA26, List.mem_cons, List.not_mem_nil, or_false] at hx; rcases hx with rfl | rfl | rfl | rfl | rfl | rfl | rfl | rfl | rfl | rfl | rfl <;> simp), tq⟩
                    clear hdep hC hli ho hT
                    first | (go_simp; done) | (go_simp; rfl)
                  · cases (show some _ = some o from ho)
                    have g6 : f 107 = .pointer (some ⟨z, 3, none⟩) := hT (6, 107, .pointer (some ⟨z, 3, none⟩)) (by simp [tabA26]) (hdep { on := 6, ground := .data } (by simp) rfl)
                    refine wpOp_of ho rfl ?_
                    refine wp_value (v := .int .i64 e2) (w1 := Wx) ?_ ⟨_, rfl, hT.step (i := 7) (d := 108) (v := .int .i64 e2) (by intro x hx; simp only [tabA26, List.mem_cons, List.not_mem_nil, or_false] at hx; rcases hx with rfl | rfl | rfl | rfl | rfl | rfl | rfl | rfl | rfl | rfl | rfl <;> simp), tq⟩
                    clear hdep hC hli ho hT
                    first | (go_simp; done) | (go_simp; rfl)
                  · cases (show some _ = some o from ho)
                    refine wpOp_of ho rfl ?_
                    refine wp_value (v := .bool more) (w1 := Wx) ?_ ⟨_, rfl, hT.step (i := 8) (d := 109) (v := .bool more) (by intro x hx; simp only [tabA26, List.mem_cons, List.not_mem_nil, or_false] at hx; rcases hx with rfl | rfl | rfl | rfl | rfl | rfl | rfl | rfl | rfl | rfl | rfl <;> simp), tq⟩
                    clear hdep hC hli ho hT
                    first | (go_simp; done) | (go_simp; rfl)
                  · cases (show some _ = some o from ho)
                    have g1 : f 102 = .bool sx := hT (1, 102, .bool sx) (by simp [tabA26]) (hdep { on := 1, ground := .data } (by simp) rfl)
                    have g5 : f 106 = .agg #[.int .i64 r0, .int .i64 r1] := hT (5, 106, .agg #[.int .i64 r0, .int .i64 r1]) (by simp [tabA26]) (hdep { on := 5, ground := .data } (by simp) rfl)
                    have g7 : f 108 = .int .i64 e2 := hT (7, 108, .int .i64 e2) (by simp [tabA26]) (hdep { on := 7, ground := .data } (by simp) rfl)
                    have g8 : f 109 = .bool more := hT (8, 109, .bool more) (by simp [tabA26]) (hdep { on := 8, ground := .data } (by simp) rfl)
                    refine wpOp_of ho rfl ?_
                    refine wp_enter (f := 90) (args := #[.bool sx, .agg #[.int .i64 r0, .int .i64 r1], .int .i64 e2, .bool more]) (w1 := Wx) ?_ ((hR Wx).mono ?_)
                    · clear hdep hC hli ho hT
                      first | (go_simp; done) | (go_simp; rfl)
                    · rintro _ W1 ⟨rfl, t1⟩
                      exact ⟨_, rfl, _, rfl, hT.step (i := 9) (d := 110) (v := .int .i64 r) (by intro x hx; simp only [tabA26, List.mem_cons, List.not_mem_nil, or_false] at hx; rcases hx with rfl | rfl | rfl | rfl | rfl | rfl | rfl | rfl | rfl | rfl | rfl <;> simp), tq.trans t1 (by simp)⟩
                  · cases (show some _ = some o from ho)
                    have g9 : f 110 = .int .i64 r := hT (9, 110, .int .i64 r) (by simp [tabA26]) (hdep { on := 9, ground := .data } (by simp) rfl)
                    refine wpOp_of ho rfl ?_
                    refine wp_value (v := .int .i64 r) (w1 := Wx) ?_ ⟨_, rfl, hT.step (i := 10) (d := 4) (v := .int .i64 r) (by intro x hx; simp only [tabA26, List.mem_cons, List.not_mem_nil, or_false] at hx; rcases hx with rfl | rfl | rfl | rfl | rfl | rfl | rfl | rfl | rfl | rfl | rfl <;> simp), tq⟩
                    clear hdep hC hli ho hT
                    first | (go_simp; done) | (go_simp; rfl)
                case fin =>
                  rintro listed a Wx hl ⟨f, rfl, hT, tq⟩
                  have e101 : f 101 = .pointer (some ⟨z, 1, none⟩) := hT (0, 101, .pointer (some ⟨z, 1, none⟩)) (by simp [tabA26]) (hl 0 (by decide))
                  have e102 : f 102 = .bool sx := hT (1, 102, .bool sx) (by simp [tabA26]) (hl 1 (by decide))
                  have e103 : f 103 = .agg #[.int .i64 p0, .int .i64 p1] := hT (2, 103, .agg #[.int .i64 p0, .int .i64 p1]) (by simp [tabA26]) (hl 2 (by decide))
                  have e104 : f 104 = .agg #[.int .i64 q0, .int .i64 q1] := hT (3, 104, .agg #[.int .i64 q0, .int .i64 q1]) (by simp [tabA26]) (hl 3 (by decide))
                  have e105 : f 105 = .agg #[.int .i64 n0, .int .i64 n1] := hT (4, 105, .agg #[.int .i64 n0, .int .i64 n1]) (by simp [tabA26]) (hl 4 (by decide))
                  have e106 : f 106 = .agg #[.int .i64 r0, .int .i64 r1] := hT (5, 106, .agg #[.int .i64 r0, .int .i64 r1]) (by simp [tabA26]) (hl 5 (by decide))
                  have e107 : f 107 = .pointer (some ⟨z, 3, none⟩) := hT (6, 107, .pointer (some ⟨z, 3, none⟩)) (by simp [tabA26]) (hl 6 (by decide))
                  have e108 : f 108 = .int .i64 e2 := hT (7, 108, .int .i64 e2) (by simp [tabA26]) (hl 7 (by decide))
                  have e109 : f 109 = .bool more := hT (8, 109, .bool more) (by simp [tabA26]) (hl 8 (by decide))
                  have e110 : f 110 = .int .i64 r := hT (9, 110, .int .i64 r) (by simp [tabA26]) (hl 9 (by decide))
                  have e4 : f 4 = .int .i64 r := hT (10, 4, .int .i64 r) (by simp [tabA26]) (hl 10 (by decide))
                  have TQ := Lib.hid tq
                  clear hT hl tq hS hR hN
                  rw [e101, e102, e103, e104, e105, e106, e107, e108, e109, e110, e4]
                  clear e101 e102 e103 e104 e105 e106 e107 e108 e109 e110 e4
                  go_wp2_with fail
                  go_ret
                  exact ⟨r, ⟨P, Q, e2, more, HMID.out, HR0.out⟩, rfl, HT.out.trans TQ.out (by simp)⟩
end Rn
end Go.Proofs.YtkbchpaofmlhgaaGreatDoor

/- rhytonref04's sum of two finite ones. -/
namespace Go.Proofs.YtkbchpaofmlhgaaGreatDoor
open Go.RowKit
namespace Rn

set_option maxRecDepth 100000 in
set_option maxHeartbeats 1600000 in
theorem sum_fin (sa sb : Bool) (ma mb : Nat) (ea eb : Int) (ha : ma < 9007199254740992) (hb : mb < 9007199254740992) (ea0 : -1074 ≤ ea) (ea1 : ea ≤ 971) (eb0 : -1074 ≤ eb) (eb1 : eb ≤ 971) (na : -1074 < ea → 4503599627370496 ≤ ma) (nb : -1074 < eb → 4503599627370496 ≤ mb)
    (sx sy : Bool) (mx my : Nat) (ex ey : Int) (hxy : (ea < eb ∧ sx = sb ∧ mx = mb ∧ ex = eb ∧ sy = sa ∧ my = ma ∧ ey = ea) ∨ (¬ ea < eb ∧ sx = sa ∧ mx = ma ∧ ex = ea ∧ sy = sb ∧ my = mb ∧ ey = eb)) (w : World) :
    Calls Tryz.prog 59 #[.agg (PartV.mk 2 sa ma ea).cells, .agg (PartV.mk 2 sb mb eb).cells] w fun e w' => ∃ v, AddIs sx sy mx my ex ey v ∧ e = .returned (.int .i64 v) ∧ Touch [] w w' := by
  have hC := fun W => add_fin sa sb ma mb ea eb ha hb ea0 ea1 eb0 eb1 na nb sx sy mx my ex ey hxy W
  unfold PartV.cells at hC ⊢
  obtain ⟨ia, hia⟩ : ∃ ia : Int, (ma : Int) = ia := ⟨_, rfl⟩
  obtain ⟨ib, hib⟩ : ∃ ib : Int, (mb : Int) = ib := ⟨_, rfl⟩
  dsimp only at hC ⊢
  rw [hia, hib] at hC ⊢
  clear hia hib ha hb ea0 ea1 eb0 eb1 na nb hxy
  go_enter Tryz.func59, Tryz.ntmps59
  go_upto_region 1 with (fail)
  have bA := (Blk.new w 106 #[.int .i64 2, .bool sa, .int .u64 ia, .int .i64 ea]).alloc (.cells #[.int .i64 2, .bool sb, .int .u64 ib, .int .i64 eb] 106)
  have bB := Blk.new_at (n := w.heap.size + 1) (w.alloc (.cells #[.int .i64 2, .bool sa, .int .u64 ia, .int .i64 ea] 106)) (by simp) 106 #[.int .i64 2, .bool sb, .int .u64 ib, .int .i64 eb]
  have tw := ((Touch.refl [] w).alloc (.cells #[.int .i64 2, .bool sa, .int .u64 ia, .int .i64 ea] 106)).alloc (.cells #[.int .i64 2, .bool sb, .int .u64 ib, .int .i64 eb] 106)
  generalize (w.alloc (.cells #[.int .i64 2, .bool sa, .int .u64 ia, .int .i64 ea] 106)).alloc (.cells #[.int .i64 2, .bool sb, .int .u64 ib, .int .i64 eb] 106) = wA at *
  have a0 := bA.cell 0
  have a1 := bA.cell 1
  have a2 := bA.cell 2
  have a3 := bA.cell 3
  have b0 := bB.cell 0
  have b1 := bB.cell 1
  have b2 := bB.cell 2
  have b3 := bB.cell 3
  clear bA bB
  go_wp2_with fail
  refine (hC _).mono ?_
  rintro _ w1 ⟨v, hv, rfl, t1⟩
  go_wp2_with fail
  go_ret
  exact ⟨v, hv, rfl, tw.trans t1 (by simp)⟩
end Rn
end Go.Proofs.YtkbchpaofmlhgaaGreatDoor
