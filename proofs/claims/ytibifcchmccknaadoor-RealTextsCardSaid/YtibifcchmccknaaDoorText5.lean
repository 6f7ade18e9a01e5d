/- rhytonref04.Open and Text. -/
import Derived.Test.YtibifcchmccknaaDoorText4
namespace Go.Proofs.YtibifcchmccknaaDoor
open Go.RowKit

/-- a real number's parts -/
structure PartV where
  kind : Int
  neg : Bool
  m : Int
  e : Int
abbrev PartV.cells (p : PartV) : Array Value := #[.int .i64 p.kind, .bool p.neg, .int .u64 p.m, .int .i64 p.e]
def partF (x : Nat) : PartV :=
  if x / 4503599627370496 % 2048 = 2047 then ⟨if x % 4503599627370496 = 0 then 1 else 0, Fl.sg x, (x % 4503599627370496 : Nat), 0⟩
  else if x / 4503599627370496 % 2048 = 0 then ⟨2, Fl.sg x, (x % 4503599627370496 : Nat), -1074⟩
  else ⟨2, Fl.sg x, (x % 4503599627370496 + 4503599627370496 : Nat), (x / 4503599627370496 % 2048 : Nat) - 1075⟩

theorem Blk.four {w : World} {g : Nat} {t : TypeId} {a b c d : Value} (h : Blk w g t #[a, b, c, d]) (x y z u : Value) : Blk ((((w.setCell ⟨g, 0, none⟩ x).setCell ⟨g, 1, none⟩ y).setCell ⟨g, 2, none⟩ z).setCell ⟨g, 3, none⟩ u) g t #[x, y, z, u] :=
  (((h.set_ 0 x).set_ 1 y).set_ 2 z).set_ 3 u
theorem four_back {w : World} {g : Nat} {t : TypeId} {a b c d : Value} (h : Blk w g t #[a, b, c, d]) (x y z u : Value) :
    (w.setCell ⟨g, 0, none⟩ x).cell? ⟨g, 0, none⟩ = some x ∧ ((w.setCell ⟨g, 0, none⟩ x).setCell ⟨g, 1, none⟩ y).cell? ⟨g, 1, none⟩ = some y ∧ (((w.setCell ⟨g, 0, none⟩ x).setCell ⟨g, 1, none⟩ y).setCell ⟨g, 2, none⟩ z).cell? ⟨g, 2, none⟩ = some z ∧
      ((((w.setCell ⟨g, 0, none⟩ x).setCell ⟨g, 1, none⟩ y).setCell ⟨g, 2, none⟩ z).setCell ⟨g, 3, none⟩ u).cell? ⟨g, 3, none⟩ = some u :=
  ⟨(h.set_ 0 x).cell 0, ((h.set_ 0 x).set_ 1 y).cell 1, (((h.set_ 0 x).set_ 1 y).set_ 2 z).cell 2, (h.four x y z u).cell 3⟩

set_option maxRecDepth 100000 in
set_option maxHeartbeats 1600000 in
theorem open_any (f : Int) (f0 : -9223372036854775808 ≤ f) (f1 : f ≤ 9223372036854775807) (w : World) : Calls Tryd.prog 37 #[.int .i64 f] w fun e w' => e = .returned (.agg (partF (bitsOf f)).cells) ∧ Touch [] w w' := by
  have hx : IntKind.u64.wrap f = (bitsOf f : Int) := by rw [IntKind.wrap_u64, bitsOf_cast]
  have hlt := bitsOf_lt f
  have hsg : (decide (f < 0)) = Fl.sg (bitsOf f) := by
    unfold Fl.sg bitsOf
    rw [Bool.eq_iff_iff, decide_eq_true_eq, beq_iff_eq]
    omega
  obtain ⟨x, hxe⟩ : ∃ x, bitsOf f = x := ⟨_, rfl⟩
  rw [hxe] at hx hlt hsg ⊢
  obtain ⟨fr, hfr⟩ : ∃ fr, x % 4503599627370496 = fr := ⟨_, rfl⟩
  obtain ⟨e, he⟩ : ∃ e, x / 4503599627370496 % 2048 = e := ⟨_, rfl⟩
  have hP : partF x = if e = 2047 then ⟨if fr = 0 then 1 else 0, Fl.sg x, (fr : Int), 0⟩ else if e = 0 then ⟨2, Fl.sg x, (fr : Int), -1074⟩ else ⟨2, Fl.sg x, (fr : Int) + 4503599627370496, (e : Int) - 1075⟩ := by
    unfold partF
    rw [hfr, he]
    rfl
  obtain ⟨sg, hse⟩ : ∃ sg, Fl.sg x = sg := ⟨_, rfl⟩
  rw [hse] at hP hsg
  have hA : (x : Int) % 4503599627370496 = (fr : Int) := by rw [← hfr]; rfl
  have hB : (x : Int) / 4503599627370496 % 2048 = (e : Int) := by rw [← he]; rfl
  have hfl : fr < 4503599627370496 := by omega
  have hel : e < 2048 := by omega
  obtain ⟨V, hV⟩ : ∃ V, partF x = V := ⟨_, rfl⟩
  rw [hV] at hP ⊢
  have HP := Lib.hid hP
  clear hP hse hfr he hxe hV f0 f1
  go_enter Tryd.func37, Tryd.ntmps37
  go_upto_region 4 with (fail)
  have bR := (Blk.new w 59 #[.int .i64 0, .bool false, .int .u64 0, .int .i64 0]).alloc (.cells #[.int .i64 2, .bool sg, .int .u64 (fr : Int), .int .i64 0] 59)
  have bP := Blk.new_at (n := w.heap.size + 1) (w.alloc (.cells #[.int .i64 0, .bool false, .int .u64 0, .int .i64 0] 59)) (by simp) 59 #[.int .i64 2, .bool sg, .int .u64 (fr : Int), .int .i64 0]
  have tw := ((Touch.refl [] w).alloc (.cells #[.int .i64 0, .bool false, .int .u64 0, .int .i64 0] 59)).alloc (.cells #[.int .i64 2, .bool sg, .int .u64 (fr : Int), .int .i64 0] 59)
  generalize (w.alloc (.cells #[.int .i64 0, .bool false, .int .u64 0, .int .i64 0] 59)).alloc (.cells #[.int .i64 2, .bool sg, .int .u64 (fr : Int), .int .i64 0] 59) = wA at *
  have p0 := bP.cell 0
  have p1 := bP.cell 1
  have p2 := bP.cell 2
  have p3 := bP.cell 3
  have r0 := bR.cell 0
  have r1 := bR.cell 1
  have r2 := bR.cell 2
  have r3 := bR.cell 3
  have fp0 := bP.frozen 0
  have fp2 := bP.frozen 2
  have fp3 := bP.frozen 3
  have fr0 := bR.frozen 0
  have fr1 := bR.frozen 1
  have fr2 := bR.frozen 2
  have fr3 := bR.frozen 3
  by_cases h1 : e = 2047
  · have h1' : ((e : Int) == 2047) = true := by rw [beq_iff_eq]; omega
    by_cases h2 : fr = 0
    · have h2' : ((fr : Int) != 0) = false := by simp [h2]
      obtain rfl : V = ⟨1, sg, (fr : Int), 0⟩ := by rw [HP.out, if_pos h1, if_pos h2]
      clear h1 h2 HP
      go_wp2_with fail
      obtain ⟨z0, z1, z2, z3⟩ := four_back (bR.far (p := ⟨w.heap.size + 1, 0, none⟩) (by simp) (.int .i64 1)) (.int .i64 1) (.bool sg) (.int .u64 (fr : Int)) (.int .i64 0)
      refine bodyPost_ret (by simp [results, Tryd.results37, go_sem, z0, z1, z2, z3]; try rfl) rfl ⟨rfl, ?_⟩
      exact ((((tw.setCell (.inr (by simp)) _).setCell (.inr (by simp)) _).setCell (.inr (by simp)) _).setCell (.inr (by simp)) _).setCell (.inr (by simp)) _
    · have h2' : ((fr : Int) != 0) = true := by simp; omega
      obtain rfl : V = ⟨0, sg, (fr : Int), 0⟩ := by rw [HP.out, if_pos h1, if_neg h2]
      clear h1 h2 HP
      go_wp2_with fail
      obtain ⟨z0, z1, z2, z3⟩ := four_back ((bR.far (p := ⟨w.heap.size + 1, 0, none⟩) (by simp) (.int .i64 1)).far (p := ⟨w.heap.size + 1, 0, none⟩) (by simp) (.int .i64 0)) (.int .i64 0) (.bool sg) (.int .u64 (fr : Int)) (.int .i64 0)
      refine bodyPost_ret (by simp [results, Tryd.results37, go_sem, z0, z1, z2, z3]; try rfl) rfl ⟨rfl, ?_⟩
      exact (((((tw.setCell (.inr (by simp)) _).setCell (.inr (by simp)) _).setCell (.inr (by simp)) _).setCell (.inr (by simp)) _).setCell (.inr (by simp)) _).setCell (.inr (by simp)) _
  · have h1' : ((e : Int) == 2047) = false := beq_eq_false_iff_ne.2 (by omega)
    by_cases h2 : e = 0
    · have h2' : ((e : Int) == 0) = true := by rw [h2]; rfl
      obtain rfl : V = ⟨2, sg, (fr : Int), -1074⟩ := by rw [HP.out, if_neg h1, if_pos h2]
      clear h1 h2 HP
      go_wp2_with fail
      obtain ⟨z0, z1, z2, z3⟩ := four_back (bR.far (p := ⟨w.heap.size + 1, 3, none⟩) (by simp) (.int .i64 (-1074))) (.int .i64 2) (.bool sg) (.int .u64 (fr : Int)) (.int .i64 (-1074))
      refine bodyPost_ret (by simp [results, Tryd.results37, go_sem, z0, z1, z2, z3]; try rfl) rfl ⟨rfl, ?_⟩
      exact ((((tw.setCell (.inr (by simp)) _).setCell (.inr (by simp)) _).setCell (.inr (by simp)) _).setCell (.inr (by simp)) _).setCell (.inr (by simp)) _
    · have h2' : ((e : Int) == 0) = false := beq_eq_false_iff_ne.2 (by omega)
      obtain rfl : V = ⟨2, sg, (fr : Int) + 4503599627370496, (e : Int) - 1075⟩ := by rw [HP.out, if_neg h1, if_neg h2]
      clear h1 h2 HP
      go_wp2_with fail
      obtain ⟨z0, z1, z2, z3⟩ := four_back ((bR.far (p := ⟨w.heap.size + 1, 2, none⟩) (by simp) (.int .u64 ((fr : Int) + 4503599627370496))).far (p := ⟨w.heap.size + 1, 3, none⟩) (by simp) (.int .i64 ((e : Int) - 1075))) (.int .i64 2) (.bool sg) (.int .u64 ((fr : Int) + 4503599627370496)) (.int .i64 ((e : Int) - 1075))
      refine bodyPost_ret (by simp [results, Tryd.results37, go_sem, z0, z1, z2, z3]; try rfl) rfl ⟨rfl, ?_⟩
      exact (((((tw.setCell (.inr (by simp)) _).setCell (.inr (by simp)) _).setCell (.inr (by simp)) _).setCell (.inr (by simp)) _).setCell (.inr (by simp)) _).setCell (.inr (by simp)) _
end Go.Proofs.YtibifcchmccknaaDoor
