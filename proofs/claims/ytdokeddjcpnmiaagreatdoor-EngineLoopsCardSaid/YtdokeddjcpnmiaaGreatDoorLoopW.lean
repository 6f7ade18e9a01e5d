/- EngineLoops: the walk. -/
import Derived.Test.YtdokeddjcpnmiaaGreatDoorLoopD
import Derived.Test.YtdokeddjcpnmiaaGreatDoorJMapsA
import Derived.Test.YtdokeddjcpnmiaaGreatDoorJFrameAny
import Derived.Deep.CutRange
namespace Go.Proofs.YtdokeddjcpnmiaaGreatDoor
open Go.RowKit
namespace En

theorem tmod_small (x : Int) (h : -128 ≤ x ∧ x ≤ 127) : ∃ a, wrap64 (x.tmod 50) = a ∧ -49 ≤ a ∧ a ≤ 49 := by
  refine ⟨_, rfl, ?_⟩
  have h1 : -49 ≤ x.tmod 50 ∧ x.tmod 50 ≤ 49 := by
    rcases Int.lt_or_le x 0 with hx | hx
    · have e : x.tmod 50 = -((-x).tmod 50) := by rw [Int.neg_tmod, Int.neg_neg]
      rw [e, Int.tmod_eq_emod_of_nonneg (by omega)]
      omega
    · rw [Int.tmod_eq_emod_of_nonneg hx]
      omega
  unfold wrap64
  omega
theorem at_i : atName (preL 5) ⟨#[105]⟩ = some 110 := by kernel_rfl
theorem at_plus : atName (preL 5) ⟨#[43]⟩ = some 10 := by kernel_rfl
theorem at_eq : atName (preL 5) ⟨#[61]⟩ = some 20 := by kernel_rfl
def beginF (asks : Bool) : Int × Int := if asks then (6, 13) else (5, 0)
-- TABLE 9
theorem loopL_code (asks : Bool) (b a c k : Int) : ((loopL asks b a c k).flatMap insCells).toArray = #[.int .u8 1, .int .i64 0, .int .i64 0, .int .u8 1, .int .i64 0, .int .i64 b, .int .u8 1, .int .i64 0, .int .i64 a, .int .u8 (beginF asks).1, .int .i64 (beginF asks).2, .int .i64 0, .int .u8 2, .int .i64 111, .int .i64 0, .int .u8 2, .int .i64 11, .int .i64 0, .int .u8 2, .int .i64 111, .int .i64 0, .int .u8 1, .int .i64 0, .int .i64 c, .int .u8 2, .int .i64 21, .int .i64 0, .int .u8 4, .int .i64 11, .int .i64 0, .int .u8 9, .int .i64 13, .int .i64 0, .int .u8 1, .int .i64 0, .int .i64 k, .int .u8 8, .int .i64 4, .int .i64 0, .int .u8 15, .int .i64 0, .int .i64 0] := by
  cases asks <;> rfl
def tabL9 (a b k x3 e ek : Int) (asks : Bool) : List (Nat × Nat × Value) := [(0, 44, .agg #[.int .u8 1, .int .i64 0, .int .i64 0]), (1, 45, .int .i64 b), (2, 46, .agg #[.int .u8 1, .int .i64 0, .int .i64 b]), (3, 47, .int .i64 a), (4, 48, .agg #[.int .u8 1, .int .i64 0, .int .i64 a]), (5, 49, .agg #[.int .u8 (beginF asks).1, .int .i64 (beginF asks).2, .int .i64 0]), (6, 50, .int .i64 111), (7, 51, .agg #[.int .u8 2, .int .i64 111, .int .i64 0]), (8, 52, .int .i64 11), (9, 53, .agg #[.int .u8 2, .int .i64 11, .int .i64 0]), (10, 54, .int .i64 111), (11, 55, .agg #[.int .u8 2, .int .i64 111, .int .i64 0]), (12, 56, .int .i64 a), (13, 57, .int .u8 x3), (14, 58, .int .u8 e), (15, 59, .int .i64 e), (16, 60, .int .i64 k), (17, 61, .int .i64 ek), (18, 62, .int .i64 (a + ek)), (19, 63, .agg #[.int .u8 1, .int .i64 0, .int .i64 (a + ek)]), (20, 64, .int .i64 21), (21, 65, .agg #[.int .u8 2, .int .i64 21, .int .i64 0]), (22, 66, .agg #[.int .u8 4, .int .i64 11, .int .i64 0]), (23, 67, .agg #[.int .u8 9, .int .i64 13, .int .i64 0]), (24, 68, .int .i64 k), (25, 69, .agg #[.int .u8 1, .int .i64 0, .int .i64 k]), (26, 70, .agg #[.int .u8 8, .int .i64 4, .int .i64 0]), (27, 71, .agg #[.int .u8 15, .int .i64 0, .int .i64 0])]
theorem tabL9_step {a b k x3 e ek : Int} {asks : Bool} {listed : Array Bool} {f : Nat → Value} (h : TabOk (tabL9 a b k x3 e ek asks) listed f) (i : Nat) (v : Value) (_ : i < 28) (hv : (tabL9 a b k x3 e ek asks)[i]? = some (i, i + 44, v)) : TabOk (tabL9 a b k x3 e ek asks) (listed.setIfInBounds i true) (fun j => if j = i + 44 then v else f j) := by
  refine h.step (fun x hx => ?_)
  have hall : ∀ x ∈ tabL9 a b k x3 e ek asks, x.2.1 = x.1 + 44 ∧ (tabL9 a b k x3 e ek asks)[x.1]? = some x := by
    intro x hx; simp only [tabL9, List.mem_cons, List.not_mem_nil, or_false] at hx; rcases hx with rfl | rfl | rfl | rfl | rfl | rfl | rfl | rfl | rfl | rfl | rfl | rfl | rfl | rfl | rfl | rfl | rfl | rfl | rfl | rfl | rfl | rfl | rfl | rfl | rfl | rfl | rfl | rfl <;> exact ⟨rfl, rfl⟩
  obtain ⟨h1, h2⟩ := hall x hx
  refine ⟨fun e => ?_, fun e => by omega⟩
  rw [e, hv] at h2
  injection h2 with h2
  rw [← h2]
  exact ⟨rfl, rfl⟩
theorem tabL9_lt {a b k x3 e ek : Int} {asks : Bool} : ∀ x ∈ tabL9 a b k x3 e ek asks, x.1 < 28 ∧ x.2.1 < 72 ∧ 44 ≤ x.2.1 := by
  intro x hx; simp only [tabL9, List.mem_cons, List.not_mem_nil, or_false] at hx; rcases hx with rfl | rfl | rfl | rfl | rfl | rfl | rfl | rfl | rfl | rfl | rfl | rfl | rfl | rfl | rfl | rfl | rfl | rfl | rfl | rfl | rfl | rfl | rfl | rfl | rfl | rfl | rfl | rfl <;> simp
theorem tabL9_other {a b k x3 e ek : Int} {asks : Bool} {listed : Array Bool} {f : Nat → Value} (h : TabOk (tabL9 a b k x3 e ek asks) listed f) (i d : Nat) (v : Value) (hi : 28 ≤ i) (hd : 72 ≤ d ∨ d < 44) : TabOk (tabL9 a b k x3 e ek asks) (listed.setIfInBounds i true) (fun j => if j = d then v else f j) := fun x hx hl => by
  obtain ⟨h1, h2, h3⟩ := tabL9_lt x hx
  simp only [if_neg (show ¬ x.2.1 = d by omega)]
  rcases listed_set hl with h4 | h4
  · omega
  · exact h x hx h4
theorem tabL9_keep {a b k x3 e ek : Int} {asks : Bool} {listed : Array Bool} {f : Nat → Value} (h : TabOk (tabL9 a b k x3 e ek asks) listed f) (i : Nat) (hi : 28 ≤ i) : TabOk (tabL9 a b k x3 e ek asks) (listed.setIfInBounds i true) f :=
  h.keep fun x hx => by have := tabL9_lt x hx; omega
/-- the row that was made, the definition of it, its block -/
def RowL9 (cs : Array Value) (m : Nat) (listed : Array Bool) (f : Nat → Value) (W : World) : Prop := listed.getD 28 false = true → ∃ r, f 72 = .slice (some ⟨r, 0, none⟩) 14 14 ∧ m ≤ r ∧ Blk W r 56 cs
def DefL9 (listed : Array Bool) (f : Nat → Value) : Prop := listed.getD 29 false = true → f 73 = .agg #[f 72]
def BlkL9 (m : Nat) (listed : Array Bool) (f : Nat → Value) (W : World) : Prop := listed.getD 30 false = true → ∃ q, f 17 = .pointer (some ⟨q, 0, none⟩) ∧ m ≤ q ∧ Blk W q 24 (if listed.getD 31 false = true then #[f 72] else #[.slice none 0 0])
section
variable {cs : Array Value} {m : Nat} {listed : Array Bool} {f : Nat → Value} {W W' : World}
theorem RowL9.step (h : RowL9 cs m listed f W) {i d : Nat} {v : Value} (h1 : i ≠ 28) (h2 : 72 ≠ d) : RowL9 cs m (listed.setIfInBounds i true) (fun j => if j = d then v else f j) W := fun hl => by
  rw [getD_set_ne h1] at hl
  simp only [if_neg h2]
  exact h hl
theorem RowL9.keep (h : RowL9 cs m listed f W) {i : Nat} (h1 : i ≠ 28) : RowL9 cs m (listed.setIfInBounds i true) f W := fun hl => by
  rw [getD_set_ne h1] at hl
  exact h hl
theorem RowL9.world (h : RowL9 cs m listed f W) (t : ∀ r, Blk W r 56 cs → Blk W' r 56 cs) : RowL9 cs m listed f W' := fun hl => by
  obtain ⟨r, e, hm, hb⟩ := h hl
  exact ⟨r, e, hm, t r hb⟩
theorem DefL9.step (h : DefL9 listed f) {i d : Nat} {v : Value} (h1 : i ≠ 29) (h2 : 72 ≠ d) (h3 : 73 ≠ d) : DefL9 (listed.setIfInBounds i true) (fun j => if j = d then v else f j) := fun hl => by
  rw [getD_set_ne h1] at hl
  simp only [if_neg h2, if_neg h3]
  exact h hl
theorem DefL9.keep (h : DefL9 listed f) {i : Nat} (h1 : i ≠ 29) : DefL9 (listed.setIfInBounds i true) f := fun hl => by
  rw [getD_set_ne h1] at hl
  exact h hl
theorem BlkL9.step (h : BlkL9 m listed f W) {i d : Nat} {v : Value} (h1 : i ≠ 30) (h2 : i ≠ 31) (h3 : 17 ≠ d) (h4 : 72 ≠ d) : BlkL9 m (listed.setIfInBounds i true) (fun j => if j = d then v else f j) W := fun hl => by
  rw [getD_set_ne h1] at hl
  obtain ⟨q, e, hm, hb⟩ := h hl
  refine ⟨q, by simp only [if_neg h3]; exact e, hm, ?_⟩
  rw [getD_set_ne h2]
  simp only [if_neg h4]
  exact hb
theorem BlkL9.world (h : BlkL9 m listed f W) (t : ∀ q cs, Blk W q 24 cs → Blk W' q 24 cs) : BlkL9 m listed f W' := fun hl => by
  obtain ⟨q, e, hm, hb⟩ := h hl
  exact ⟨q, e, hm, t q _ hb⟩
theorem blk_ty_ne {w : World} {g g' : Nat} {t t' : TypeId} {cs cs' : Array Value} (h : Blk w g t cs) (h' : Blk w g' t' cs') (ht : t ≠ t') : g ≠ g' := by
  rintro rfl
  unfold Blk at h h'
  rw [h] at h'
  injection h' with h'
  injection h' with _ h2 _
  exact ht h2
end
-- END TABLE 9
set_option maxRecDepth 100000 in
set_option maxHeartbeats 6400000 in
theorem EngineLoops_walk (x0 x1 x2 x3 : Int) (asks : Bool) (w : World) (h0 : -128 ≤ x0 ∧ x0 ≤ 127) (h1 : -128 ≤ x1 ∧ x1 ≤ 127) (h2 : 0 ≤ x2 ∧ x2 ≤ 255) (h3 : 0 ≤ x3 ∧ x3 ≤ 255) (ml : Int) (hml : w.cell? ⟨3, 0, none⟩ = some (.int .i64 ml)) : Calls Tryz.prog 4 #[.int .i8 x0, .int .i8 x1, .int .u8 x2, .int .u8 x3, .bool asks] w fun e w' => e = .returned (.bool true) ∧ Touch [] w w' := by
  have hS := shown_any w ml hml
  have HML := Lib.hid hml
  clear hml
  go_enter Tryz.func4, Tryz.ntmps4
  go_wp2_with fail
  refine hS.mono ?_
  rintro _ w0 ⟨rfl, t0⟩
  have hB := built_any w0 ml (cell_quiet t0 HML.out)
  have HT0 := Lib.hid t0
  clear hS t0
  go_wp2_with fail
  refine hB.mono ?_
  rintro _ w1 ⟨g, p, F, S, rfl, hE, hF, t1, hns, hst, hbs, hh, hout, hmade⟩
  have hok : PS.ok S := ⟨by rw [hout]; decide, by rw [hmade]; decide, by rw [hns]; decide, by rw [hns]⟩
  have hFw : ∀ x ∈ F, w.heap.size ≤ x := fun x hx => Nat.le_trans HT0.out.size (hF x hx)
  have tw1 := HT0.out.trans t1 (by simp)
  have HG := Lib.hid (And.intro hFw (And.intro tw1 (And.intro hst (And.intro hok (And.intro hout hE)))))
  clear hE hF t1 hns hst hbs hh hout hmade hok hB hFw tw1
  go_upto_region 7 with fail
  obtain ⟨a, ha, ha0⟩ := tmod_small x0 h0
  obtain ⟨b, hb, hb0⟩ := tmod_small x1 h1
  obtain ⟨k, hk, hk0⟩ : ∃ k, x2 % 5 + 1 = k ∧ 1 ≤ k ∧ k ≤ 5 := ⟨_, rfl, by omega⟩
  obtain ⟨e, he, he0⟩ : ∃ e, x3 % 9 = e ∧ 0 ≤ e ∧ e ≤ 8 := ⟨_, rfl, by omega⟩
  rw [ha, hb, hk]
  have bZ := Blk.new w1 56 #[.int .u8 5, .int .i64 0, .int .i64 0]
  have tZ := (Touch.refl [] w1).alloc (.cells #[.int .u8 5, .int .i64 0, .int .i64 0] 56)
  obtain ⟨z, hz⟩ : ∃ z, w1.heap.size = z := ⟨_, rfl⟩
  rw [hz] at bZ ⊢
  generalize w1.alloc (.cells #[.int .u8 5, .int .i64 0, .int .i64 0] 56) = w2 at *
  have z0 := bZ.cell 0
  have z1 := bZ.cell 1
  have z2 := bZ.cell 2
  have f0 := bZ.frozen 0
  have f1 := bZ.frozen 1
  have f2 := bZ.frozen 2
  have HZ := Lib.hid (And.intro bZ (And.intro tZ hz))
  clear bZ tZ hz ha hb hk
  go_upto_if 42 with fail
  go_cut [16] from 43 to 43 (fun v wc => v = .pointer (some ⟨z, 0, none⟩) ∧ Blk wc z 56 #[.int .u8 (beginF asks).1, .int .i64 (beginF asks).2, .int .i64 0] ∧ Touch [] w1 wc)
  case first =>
    cases asks with
    | true =>
      go_wp2_with fail
      go_meet
      exact ⟨rfl, HZ.out.1.three _ _ _, ((HZ.out.2.1.setCell (.inr (by rw [HZ.out.2.2]; exact Nat.le_refl _)) _).setCell (.inr (by rw [HZ.out.2.2]; exact Nat.le_refl _)) _).setCell (.inr (by rw [HZ.out.2.2]; exact Nat.le_refl _)) _⟩
    | false =>
      go_wp2_with fail
      go_meet
      exact ⟨rfl, HZ.out.1, HZ.out.2.1⟩
  case rest =>
    obtain ⟨rfl, bC, tC⟩ := hcut
    have hek : 0 ≤ e * k ∧ e * k ≤ 40 := by
      constructor
      · exact Int.mul_nonneg he0.1 (by omega)
      · have h1 := Int.mul_le_mul_of_nonneg_right he0.2 (show 0 ≤ k by omega)
        omega
    obtain ⟨ek, hek1⟩ : ∃ ek, e * k = ek := ⟨_, rfl⟩
    rw [hek1] at hek
    have he1 : x3 % 9 = e := he
    have hbz := bC
    have z0 : wc.cell? ⟨z, 0, none⟩ = some (.int .u8 (beginF asks).1) := bC.cell 0
    have z1 : wc.cell? ⟨z, 1, none⟩ = some (.int .i64 (beginF asks).2) := bC.cell 1
    have z2 : wc.cell? ⟨z, 2, none⟩ = some (.int .i64 0) := bC.cell 2
    have HXI := fun W => xt_any ⟨#[105]⟩ 110 at_i W
    rw [show ((110 : Nat) : Int) + 1 = 111 from rfl] at HXI
    have HXI := Lib.hid HXI
    have HXP := fun W => xt_any ⟨#[43]⟩ 10 at_plus W
    rw [show ((10 : Nat) : Int) + 1 = 11 from rfl] at HXP
    have HXP := Lib.hid HXP
    have HXE := fun W => xt_any ⟨#[61]⟩ 20 at_eq W
    rw [show ((20 : Nat) : Int) + 1 = 21 from rfl] at HXE
    have HXE := Lib.hid HXE
    have HCC := Lib.hid (And.intro bC tC)
    clear bC tC hbz
    go_upto_region 9 with fail
    go_cut [17] from 44 to 73 (fun v wd => ∃ q r, v = .pointer (some ⟨q, 0, none⟩) ∧ Blk wd q 24 #[.slice (some ⟨r, 0, none⟩) 14 14] ∧ Blk wd r 56 ((loopL asks b a (a + ek) k).flatMap insCells).toArray ∧ w1.heap.size ≤ q ∧ w1.heap.size ≤ r ∧ q ≠ r ∧ Touch [] w1 wd)
    case first =>
      have hbz := HCC.out.1
      have tq := HCC.out.2
      have hw1 : IntKind.i64.wrap ek = ek := by rw [IntKind.wrap_i64]; omega
      have hw2 : IntKind.i64.wrap (a + ek) = a + ek := by rw [IntKind.wrap_i64]; omega
      -- REGION 9
      obtain ⟨m, hm⟩ : ∃ m, wc.heap.size = m := ⟨_, rfl⟩
      have HB0 := HCC.out.1
      have HW1 := Lib.hid (And.intro hw1 hw2)
      have hzm : z < m := by rw [← hm]; exact HB0.lt
      refine frame_any (fun g_ f => #[.int .i8 x0, .int .i8 x1, .int .u8 x2, .int .u8 x3, .bool asks, undef, undef, undef, undef, undef, .bool false, .bool true, .pointer (some ⟨g, 0, none⟩), .int .i64 a, .int .i64 b, .int .i64 k, .pointer (some ⟨z, 0, none⟩), f 17, undef, undef, undef, undef, undef, undef, undef, undef, undef, .bool true, .pointer (some ⟨g, 0, none⟩), .pointer (some ⟨g, 0, none⟩), .bool false, .int .i8 x0, .int .i8 (x0.tmod 50), .int .i64 a, .int .i8 x1, .int .i8 (x1.tmod 50), .int .i64 b, .int .u8 x2, .int .u8 (x2 % 5), .int .i64 (x2 % 5), .int .i64 k, .agg #[.int .u8 5, .int .i64 0, .int .i64 0], .bool asks, u43, f 44, f 45, f 46, f 47, f 48, f 49, f 50, f 51, f 52, f 53, f 54, f 55, f 56, f 57, f 58, f 59, f 60, f 61, f 62, f 63, f 64, f 65, f 66, f 67, f 68, f 69, f 70, f 71, f 72, f 73, undef, undef, undef, undef, undef, undef, undef, undef, undef, undef, undef, undef, undef, undef, undef, undef, undef, undef, undef, undef, undef, undef, undef, undef, undef, undef, undef, undef, undef, undef, undef, undef, undef, undef, undef, undef, undef, undef, undef, undef, undef, undef, undef, undef, undef, undef, undef, undef, undef, undef, undef, undef, undef, undef, undef, undef, undef, undef, undef, undef, undef, undef, undef, undef, undef, undef, undef, undef, undef, undef, undef, undef, undef, undef, undef, undef, undef, undef, undef, undef, undef, undef, undef, undef, undef, undef, undef, undef, undef, undef, undef, undef, undef, undef, undef, undef, undef, undef, undef, undef, undef, undef, undef, undef, undef, undef, undef, undef, undef, undef, undef, undef]) rfl (fun g_ f => ?_)
      refine region_inv2 (fun listed a_ Wx => ∃ f : Nat → Value, a_ = { tmps := #[.int .i8 x0, .int .i8 x1, .int .u8 x2, .int .u8 x3, .bool asks, undef, undef, undef, undef, undef, .bool false, .bool true, .pointer (some ⟨g, 0, none⟩), .int .i64 a, .int .i64 b, .int .i64 k, .pointer (some ⟨z, 0, none⟩), f 17, undef, undef, undef, undef, undef, undef, undef, undef, undef, .bool true, .pointer (some ⟨g, 0, none⟩), .pointer (some ⟨g, 0, none⟩), .bool false, .int .i8 x0, .int .i8 (x0.tmod 50), .int .i64 a, .int .i8 x1, .int .i8 (x1.tmod 50), .int .i64 b, .int .u8 x2, .int .u8 (x2 % 5), .int .i64 (x2 % 5), .int .i64 k, .agg #[.int .u8 5, .int .i64 0, .int .i64 0], .bool asks, u43, f 44, f 45, f 46, f 47, f 48, f 49, f 50, f 51, f 52, f 53, f 54, f 55, f 56, f 57, f 58, f 59, f 60, f 61, f 62, f 63, f 64, f 65, f 66, f 67, f 68, f 69, f 70, f 71, f 72, f 73, undef, undef, undef, undef, undef, undef, undef, undef, undef, undef, undef, undef, undef, undef, undef, undef, undef, undef, undef, undef, undef, undef, undef, undef, undef, undef, undef, undef, undef, undef, undef, undef, undef, undef, undef, undef, undef, undef, undef, undef, undef, undef, undef, undef, undef, undef, undef, undef, undef, undef, undef, undef, undef, undef, undef, undef, undef, undef, undef, undef, undef, undef, undef, undef, undef, undef, undef, undef, undef, undef, undef, undef, undef, undef, undef, undef, undef, undef, undef, undef, undef, undef, undef, undef, undef, undef, undef, undef, undef, undef, undef, undef, undef, undef, undef, undef, undef, undef, undef, undef, undef, undef, undef, undef, undef, undef, undef, undef, undef, undef, undef, undef], defers := [] } ∧ TabOk (tabL9 a b k x3 e ek asks) listed f ∧ Blk Wx z 56 #[.int .u8 (beginF asks).1, .int .i64 (beginF asks).2, .int .i64 0] ∧ Touch [] wc Wx ∧ RowL9 (((loopL asks b a (a + ek) k).flatMap insCells).toArray) m listed f Wx ∧ DefL9 listed f ∧ BlkL9 m listed f Wx) (by kernel_rfl) (by kernel_rfl) ?h0 ?step ?fin
      case h0 =>
        intro listed hs hl
        exact ⟨f, rfl, fun x _ h => (by rw [hl] at h; cases h), HB0.touch (Touch.refl [] wc).drew (by simp), (Touch.refl [] wc).drew, fun h => (by rw [hl] at h; cases h), fun h => (by rw [hl] at h; cases h), fun h => (by rw [hl] at h; cases h)⟩
      case step =>
        rintro listed a_ Wx ⟨f, rfl, hT, bX, tq, hR, hD, hQ⟩ hC i o_ ho hli hdep
        try dsimp only
        have hi : i < 32 := (Array.getElem?_eq_some_iff.1 ho).1
        have hms : m ≤ Wx.heap.size := by rw [← hm]; exact tq.size
        rcases (by omega : i = 0 ∨ i = 1 ∨ i = 2 ∨ i = 3 ∨ i = 4 ∨ i = 5 ∨ i = 6 ∨ i = 7 ∨ i = 8 ∨ i = 9 ∨ i = 10 ∨ i = 11 ∨ i = 12 ∨ i = 13 ∨ i = 14 ∨ i = 15 ∨ i = 16 ∨ i = 17 ∨ i = 18 ∨ i = 19 ∨ i = 20 ∨ i = 21 ∨ i = 22 ∨ i = 23 ∨ i = 24 ∨ i = 25 ∨ i = 26 ∨ i = 27 ∨ i = 28 ∨ i = 29 ∨ i = 30 ∨ i = 31) with rfl | rfl | rfl | rfl | rfl | rfl | rfl | rfl | rfl | rfl | rfl | rfl | rfl | rfl | rfl | rfl | rfl | rfl | rfl | rfl | rfl | rfl | rfl | rfl | rfl | rfl | rfl | rfl | rfl | rfl | rfl | rfl
        · cases (show some _ = some o_ from ho)
          refine wpOp_of ho rfl ?_
          refine wp_value (v := .agg #[.int .u8 1, .int .i64 0, .int .i64 0]) (w1 := Wx) ?_ ⟨_, rfl, tabL9_step hT 0 (.agg #[.int .u8 1, .int .i64 0, .int .i64 0]) (by omega) rfl, bX, tq, hR.step (by omega) (by omega), hD.step (by omega) (by omega) (by omega), hQ.step (by omega) (by omega) (by omega) (by omega)⟩
          clear hdep hC hli ho hT hR hD hQ bX
          first | (go_simp; done) | (go_simp; rfl)
        · cases (show some _ = some o_ from ho)
          refine wpOp_of ho rfl ?_
          refine wp_value (v := .int .i64 b) (w1 := Wx) ?_ ⟨_, rfl, tabL9_step hT 1 (.int .i64 b) (by omega) rfl, bX, tq, hR.step (by omega) (by omega), hD.step (by omega) (by omega) (by omega), hQ.step (by omega) (by omega) (by omega) (by omega)⟩
          clear hdep hC hli ho hT hR hD hQ bX
          first | (go_simp; done) | (go_simp; rfl)
        · cases (show some _ = some o_ from ho)
          have g45 : f 45 = .int .i64 b := hT (1, 45, .int .i64 b) (by simp [tabL9]) (hdep { on := 1, ground := .data } (by simp) rfl)
          refine wpOp_of ho rfl ?_
          refine wp_value (v := .agg #[.int .u8 1, .int .i64 0, .int .i64 b]) (w1 := Wx) ?_ ⟨_, rfl, tabL9_step hT 2 (.agg #[.int .u8 1, .int .i64 0, .int .i64 b]) (by omega) rfl, bX, tq, hR.step (by omega) (by omega), hD.step (by omega) (by omega) (by omega), hQ.step (by omega) (by omega) (by omega) (by omega)⟩
          clear hdep hC hli ho hT hR hD hQ bX
          first | (go_simp; done) | (go_simp; rfl)
        · cases (show some _ = some o_ from ho)
          refine wpOp_of ho rfl ?_
          refine wp_value (v := .int .i64 a) (w1 := Wx) ?_ ⟨_, rfl, tabL9_step hT 3 (.int .i64 a) (by omega) rfl, bX, tq, hR.step (by omega) (by omega), hD.step (by omega) (by omega) (by omega), hQ.step (by omega) (by omega) (by omega) (by omega)⟩
          clear hdep hC hli ho hT hR hD hQ bX
          first | (go_simp; done) | (go_simp; rfl)
        · cases (show some _ = some o_ from ho)
          have g47 : f 47 = .int .i64 a := hT (3, 47, .int .i64 a) (by simp [tabL9]) (hdep { on := 3, ground := .data } (by simp) rfl)
          refine wpOp_of ho rfl ?_
          refine wp_value (v := .agg #[.int .u8 1, .int .i64 0, .int .i64 a]) (w1 := Wx) ?_ ⟨_, rfl, tabL9_step hT 4 (.agg #[.int .u8 1, .int .i64 0, .int .i64 a]) (by omega) rfl, bX, tq, hR.step (by omega) (by omega), hD.step (by omega) (by omega) (by omega), hQ.step (by omega) (by omega) (by omega) (by omega)⟩
          clear hdep hC hli ho hT hR hD hQ bX
          first | (go_simp; done) | (go_simp; rfl)
        · cases (show some _ = some o_ from ho)
          refine wpOp_of ho rfl ?_
          have l0 := bX.cell 0
          have l1 := bX.cell 1
          have l2 := bX.cell 2
          refine wp_value (v := .agg #[.int .u8 (beginF asks).1, .int .i64 (beginF asks).2, .int .i64 0]) (w1 := Wx) ?_ ⟨_, rfl, tabL9_step hT 5 (.agg #[.int .u8 (beginF asks).1, .int .i64 (beginF asks).2, .int .i64 0]) (by omega) rfl, bX, tq, hR.step (by omega) (by omega), hD.step (by omega) (by omega) (by omega), hQ.step (by omega) (by omega) (by omega) (by omega)⟩
          clear hdep hC hli ho hT hR hD hQ bX
          first | (go_simp; done) | (go_simp; rfl)
        · cases (show some _ = some o_ from ho)
          refine wpOp_of ho rfl ?_
          refine wp_enter (f := 24) (args := #[.string ⟨#[105]⟩]) (w1 := Wx) ?_ ((HXI.out Wx).mono ?_)
          · clear hdep hC hli ho hT hR hD hQ bX
            first | (go_simp; done) | (go_simp; rfl)
          · rintro _ W1 ⟨rfl, t1⟩
            exact ⟨_, rfl, _, rfl, tabL9_step hT 6 (.int .i64 111) (by omega) rfl, bX.touch t1 (by simp), tq.trans t1 (by simp), (hR.step (by omega) (by omega)).world (fun r hb => hb.touch t1 (by simp)), hD.step (by omega) (by omega) (by omega), (hQ.step (by omega) (by omega) (by omega) (by omega)).world (fun q cs hb => hb.touch t1 (by simp))⟩
        · cases (show some _ = some o_ from ho)
          have g50 : f 50 = .int .i64 111 := hT (6, 50, .int .i64 111) (by simp [tabL9]) (hdep { on := 6, ground := .data } (by simp) rfl)
          refine wpOp_of ho rfl ?_
          refine wp_value (v := .agg #[.int .u8 2, .int .i64 111, .int .i64 0]) (w1 := Wx) ?_ ⟨_, rfl, tabL9_step hT 7 (.agg #[.int .u8 2, .int .i64 111, .int .i64 0]) (by omega) rfl, bX, tq, hR.step (by omega) (by omega), hD.step (by omega) (by omega) (by omega), hQ.step (by omega) (by omega) (by omega) (by omega)⟩
          clear hdep hC hli ho hT hR hD hQ bX
          first | (go_simp; done) | (go_simp; rfl)
        · cases (show some _ = some o_ from ho)
          refine wpOp_of ho rfl ?_
          refine wp_enter (f := 24) (args := #[.string ⟨#[43]⟩]) (w1 := Wx) ?_ ((HXP.out Wx).mono ?_)
          · clear hdep hC hli ho hT hR hD hQ bX
            first | (go_simp; done) | (go_simp; rfl)
          · rintro _ W1 ⟨rfl, t1⟩
            exact ⟨_, rfl, _, rfl, tabL9_step hT 8 (.int .i64 11) (by omega) rfl, bX.touch t1 (by simp), tq.trans t1 (by simp), (hR.step (by omega) (by omega)).world (fun r hb => hb.touch t1 (by simp)), hD.step (by omega) (by omega) (by omega), (hQ.step (by omega) (by omega) (by omega) (by omega)).world (fun q cs hb => hb.touch t1 (by simp))⟩
        · cases (show some _ = some o_ from ho)
          have g52 : f 52 = .int .i64 11 := hT (8, 52, .int .i64 11) (by simp [tabL9]) (hdep { on := 8, ground := .data } (by simp) rfl)
          refine wpOp_of ho rfl ?_
          refine wp_value (v := .agg #[.int .u8 2, .int .i64 11, .int .i64 0]) (w1 := Wx) ?_ ⟨_, rfl, tabL9_step hT 9 (.agg #[.int .u8 2, .int .i64 11, .int .i64 0]) (by omega) rfl, bX, tq, hR.step (by omega) (by omega), hD.step (by omega) (by omega) (by omega), hQ.step (by omega) (by omega) (by omega) (by omega)⟩
          clear hdep hC hli ho hT hR hD hQ bX
          first | (go_simp; done) | (go_simp; rfl)
        · cases (show some _ = some o_ from ho)
          refine wpOp_of ho rfl ?_
          refine wp_enter (f := 24) (args := #[.string ⟨#[105]⟩]) (w1 := Wx) ?_ ((HXI.out Wx).mono ?_)
          · clear hdep hC hli ho hT hR hD hQ bX
            first | (go_simp; done) | (go_simp; rfl)
          · rintro _ W1 ⟨rfl, t1⟩
            exact ⟨_, rfl, _, rfl, tabL9_step hT 10 (.int .i64 111) (by omega) rfl, bX.touch t1 (by simp), tq.trans t1 (by simp), (hR.step (by omega) (by omega)).world (fun r hb => hb.touch t1 (by simp)), hD.step (by omega) (by omega) (by omega), (hQ.step (by omega) (by omega) (by omega) (by omega)).world (fun q cs hb => hb.touch t1 (by simp))⟩
        · cases (show some _ = some o_ from ho)
          have g54 : f 54 = .int .i64 111 := hT (10, 54, .int .i64 111) (by simp [tabL9]) (hdep { on := 10, ground := .data } (by simp) rfl)
          refine wpOp_of ho rfl ?_
          refine wp_value (v := .agg #[.int .u8 2, .int .i64 111, .int .i64 0]) (w1 := Wx) ?_ ⟨_, rfl, tabL9_step hT 11 (.agg #[.int .u8 2, .int .i64 111, .int .i64 0]) (by omega) rfl, bX, tq, hR.step (by omega) (by omega), hD.step (by omega) (by omega) (by omega), hQ.step (by omega) (by omega) (by omega) (by omega)⟩
          clear hdep hC hli ho hT hR hD hQ bX
          first | (go_simp; done) | (go_simp; rfl)
        · cases (show some _ = some o_ from ho)
          refine wpOp_of ho rfl ?_
          refine wp_value (v := .int .i64 a) (w1 := Wx) ?_ ⟨_, rfl, tabL9_step hT 12 (.int .i64 a) (by omega) rfl, bX, tq, hR.step (by omega) (by omega), hD.step (by omega) (by omega) (by omega), hQ.step (by omega) (by omega) (by omega) (by omega)⟩
          clear hdep hC hli ho hT hR hD hQ bX
          first | (go_simp; done) | (go_simp; rfl)
        · cases (show some _ = some o_ from ho)
          refine wpOp_of ho rfl ?_
          refine wp_value (v := .int .u8 x3) (w1 := Wx) ?_ ⟨_, rfl, tabL9_step hT 13 (.int .u8 x3) (by omega) rfl, bX, tq, hR.step (by omega) (by omega), hD.step (by omega) (by omega) (by omega), hQ.step (by omega) (by omega) (by omega) (by omega)⟩
          clear hdep hC hli ho hT hR hD hQ bX
          first | (go_simp; done) | (go_simp; rfl)
        · cases (show some _ = some o_ from ho)
          have g57 : f 57 = .int .u8 x3 := hT (13, 57, .int .u8 x3) (by simp [tabL9]) (hdep { on := 13, ground := .data } (by simp) rfl)
          refine wpOp_of ho rfl ?_
          have e8 : x3.tmod 9 = e := by rw [Int.tmod_eq_emod_of_nonneg h3.1]; exact he1
          refine wp_value (v := .int .u8 e) (w1 := Wx) ?_ ⟨_, rfl, tabL9_step hT 14 (.int .u8 e) (by omega) rfl, bX, tq, hR.step (by omega) (by omega), hD.step (by omega) (by omega) (by omega), hQ.step (by omega) (by omega) (by omega) (by omega)⟩
          clear hdep hC hli ho hT hR hD hQ bX
          first | (go_simp; done) | (go_simp; rfl) | (go_simp; rw [e8])
        · cases (show some _ = some o_ from ho)
          have g58 : f 58 = .int .u8 e := hT (14, 58, .int .u8 e) (by simp [tabL9]) (hdep { on := 14, ground := .data } (by simp) rfl)
          refine wpOp_of ho rfl ?_
          refine wp_value (v := .int .i64 e) (w1 := Wx) ?_ ⟨_, rfl, tabL9_step hT 15 (.int .i64 e) (by omega) rfl, bX, tq, hR.step (by omega) (by omega), hD.step (by omega) (by omega) (by omega), hQ.step (by omega) (by omega) (by omega) (by omega)⟩
          clear hdep hC hli ho hT hR hD hQ bX
          first | (go_simp; done) | (go_simp; rfl) | (go_simp; rw [IntKind.wrap_i64]; omega)
        · cases (show some _ = some o_ from ho)
          refine wpOp_of ho rfl ?_
          refine wp_value (v := .int .i64 k) (w1 := Wx) ?_ ⟨_, rfl, tabL9_step hT 16 (.int .i64 k) (by omega) rfl, bX, tq, hR.step (by omega) (by omega), hD.step (by omega) (by omega) (by omega), hQ.step (by omega) (by omega) (by omega) (by omega)⟩
          clear hdep hC hli ho hT hR hD hQ bX
          first | (go_simp; done) | (go_simp; rfl)
        · cases (show some _ = some o_ from ho)
          have g59 : f 59 = .int .i64 e := hT (15, 59, .int .i64 e) (by simp [tabL9]) (hdep { on := 15, ground := .data } (by simp) rfl)
          have g60 : f 60 = .int .i64 k := hT (16, 60, .int .i64 k) (by simp [tabL9]) (hdep { on := 16, ground := .data } (by simp) rfl)
          refine wpOp_of ho rfl ?_
          refine wp_value (v := .int .i64 ek) (w1 := Wx) ?_ ⟨_, rfl, tabL9_step hT 17 (.int .i64 ek) (by omega) rfl, bX, tq, hR.step (by omega) (by omega), hD.step (by omega) (by omega) (by omega), hQ.step (by omega) (by omega) (by omega) (by omega)⟩
          clear hdep hC hli ho hT hR hD hQ bX
          first | (go_simp; done) | (go_simp; rfl) | (go_simp; rw [hek1, HW1.out.1]) | (go_simp; simp only [hek1, HW1.out.1])
        · cases (show some _ = some o_ from ho)
          have g56 : f 56 = .int .i64 a := hT (12, 56, .int .i64 a) (by simp [tabL9]) (hdep { on := 12, ground := .data } (by simp) rfl)
          have g61 : f 61 = .int .i64 ek := hT (17, 61, .int .i64 ek) (by simp [tabL9]) (hdep { on := 17, ground := .data } (by simp) rfl)
          refine wpOp_of ho rfl ?_
          refine wp_value (v := .int .i64 (a + ek)) (w1 := Wx) ?_ ⟨_, rfl, tabL9_step hT 18 (.int .i64 (a + ek)) (by omega) rfl, bX, tq, hR.step (by omega) (by omega), hD.step (by omega) (by omega) (by omega), hQ.step (by omega) (by omega) (by omega) (by omega)⟩
          clear hdep hC hli ho hT hR hD hQ bX
          first | (go_simp; done) | (go_simp; rfl) | (go_simp; rw [HW1.out.2]) | (go_simp; simp only [HW1.out.2])
        · cases (show some _ = some o_ from ho)
          have g62 : f 62 = .int .i64 (a + ek) := hT (18, 62, .int .i64 (a + ek)) (by simp [tabL9]) (hdep { on := 18, ground := .data } (by simp) rfl)
          refine wpOp_of ho rfl ?_
          refine wp_value (v := .agg #[.int .u8 1, .int .i64 0, .int .i64 (a + ek)]) (w1 := Wx) ?_ ⟨_, rfl, tabL9_step hT 19 (.agg #[.int .u8 1, .int .i64 0, .int .i64 (a + ek)]) (by omega) rfl, bX, tq, hR.step (by omega) (by omega), hD.step (by omega) (by omega) (by omega), hQ.step (by omega) (by omega) (by omega) (by omega)⟩
          clear hdep hC hli ho hT hR hD hQ bX
          first | (go_simp; done) | (go_simp; rfl)
        · cases (show some _ = some o_ from ho)
          refine wpOp_of ho rfl ?_
          refine wp_enter (f := 24) (args := #[.string ⟨#[61]⟩]) (w1 := Wx) ?_ ((HXE.out Wx).mono ?_)
          · clear hdep hC hli ho hT hR hD hQ bX
            first | (go_simp; done) | (go_simp; rfl)
          · rintro _ W1 ⟨rfl, t1⟩
            exact ⟨_, rfl, _, rfl, tabL9_step hT 20 (.int .i64 21) (by omega) rfl, bX.touch t1 (by simp), tq.trans t1 (by simp), (hR.step (by omega) (by omega)).world (fun r hb => hb.touch t1 (by simp)), hD.step (by omega) (by omega) (by omega), (hQ.step (by omega) (by omega) (by omega) (by omega)).world (fun q cs hb => hb.touch t1 (by simp))⟩
        · cases (show some _ = some o_ from ho)
          have g64 : f 64 = .int .i64 21 := hT (20, 64, .int .i64 21) (by simp [tabL9]) (hdep { on := 20, ground := .data } (by simp) rfl)
          refine wpOp_of ho rfl ?_
          refine wp_value (v := .agg #[.int .u8 2, .int .i64 21, .int .i64 0]) (w1 := Wx) ?_ ⟨_, rfl, tabL9_step hT 21 (.agg #[.int .u8 2, .int .i64 21, .int .i64 0]) (by omega) rfl, bX, tq, hR.step (by omega) (by omega), hD.step (by omega) (by omega) (by omega), hQ.step (by omega) (by omega) (by omega) (by omega)⟩
          clear hdep hC hli ho hT hR hD hQ bX
          first | (go_simp; done) | (go_simp; rfl)
        · cases (show some _ = some o_ from ho)
          refine wpOp_of ho rfl ?_
          refine wp_value (v := .agg #[.int .u8 4, .int .i64 11, .int .i64 0]) (w1 := Wx) ?_ ⟨_, rfl, tabL9_step hT 22 (.agg #[.int .u8 4, .int .i64 11, .int .i64 0]) (by omega) rfl, bX, tq, hR.step (by omega) (by omega), hD.step (by omega) (by omega) (by omega), hQ.step (by omega) (by omega) (by omega) (by omega)⟩
          clear hdep hC hli ho hT hR hD hQ bX
          first | (go_simp; done) | (go_simp; rfl)
        · cases (show some _ = some o_ from ho)
          refine wpOp_of ho rfl ?_
          refine wp_value (v := .agg #[.int .u8 9, .int .i64 13, .int .i64 0]) (w1 := Wx) ?_ ⟨_, rfl, tabL9_step hT 23 (.agg #[.int .u8 9, .int .i64 13, .int .i64 0]) (by omega) rfl, bX, tq, hR.step (by omega) (by omega), hD.step (by omega) (by omega) (by omega), hQ.step (by omega) (by omega) (by omega) (by omega)⟩
          clear hdep hC hli ho hT hR hD hQ bX
          first | (go_simp; done) | (go_simp; rfl)
        · cases (show some _ = some o_ from ho)
          refine wpOp_of ho rfl ?_
          refine wp_value (v := .int .i64 k) (w1 := Wx) ?_ ⟨_, rfl, tabL9_step hT 24 (.int .i64 k) (by omega) rfl, bX, tq, hR.step (by omega) (by omega), hD.step (by omega) (by omega) (by omega), hQ.step (by omega) (by omega) (by omega) (by omega)⟩
          clear hdep hC hli ho hT hR hD hQ bX
          first | (go_simp; done) | (go_simp; rfl)
        · cases (show some _ = some o_ from ho)
          have g68 : f 68 = .int .i64 k := hT (24, 68, .int .i64 k) (by simp [tabL9]) (hdep { on := 24, ground := .data } (by simp) rfl)
          refine wpOp_of ho rfl ?_
          refine wp_value (v := .agg #[.int .u8 1, .int .i64 0, .int .i64 k]) (w1 := Wx) ?_ ⟨_, rfl, tabL9_step hT 25 (.agg #[.int .u8 1, .int .i64 0, .int .i64 k]) (by omega) rfl, bX, tq, hR.step (by omega) (by omega), hD.step (by omega) (by omega) (by omega), hQ.step (by omega) (by omega) (by omega) (by omega)⟩
          clear hdep hC hli ho hT hR hD hQ bX
          first | (go_simp; done) | (go_simp; rfl)
        · cases (show some _ = some o_ from ho)
          refine wpOp_of ho rfl ?_
          refine wp_value (v := .agg #[.int .u8 8, .int .i64 4, .int .i64 0]) (w1 := Wx) ?_ ⟨_, rfl, tabL9_step hT 26 (.agg #[.int .u8 8, .int .i64 4, .int .i64 0]) (by omega) rfl, bX, tq, hR.step (by omega) (by omega), hD.step (by omega) (by omega) (by omega), hQ.step (by omega) (by omega) (by omega) (by omega)⟩
          clear hdep hC hli ho hT hR hD hQ bX
          first | (go_simp; done) | (go_simp; rfl)
        · cases (show some _ = some o_ from ho)
          refine wpOp_of ho rfl ?_
          refine wp_value (v := .agg #[.int .u8 15, .int .i64 0, .int .i64 0]) (w1 := Wx) ?_ ⟨_, rfl, tabL9_step hT 27 (.agg #[.int .u8 15, .int .i64 0, .int .i64 0]) (by omega) rfl, bX, tq, hR.step (by omega) (by omega), hD.step (by omega) (by omega) (by omega), hQ.step (by omega) (by omega) (by omega) (by omega)⟩
          clear hdep hC hli ho hT hR hD hQ bX
          first | (go_simp; done) | (go_simp; rfl)
        · cases (show some _ = some o_ from ho)
          have g44 : f 44 = .agg #[.int .u8 1, .int .i64 0, .int .i64 0] := hT (0, 44, .agg #[.int .u8 1, .int .i64 0, .int .i64 0]) (by simp [tabL9]) (hdep { on := 0, ground := .data } (by simp) rfl)
          have g46 : f 46 = .agg #[.int .u8 1, .int .i64 0, .int .i64 b] := hT (2, 46, .agg #[.int .u8 1, .int .i64 0, .int .i64 b]) (by simp [tabL9]) (hdep { on := 2, ground := .data } (by simp) rfl)
          have g48 : f 48 = .agg #[.int .u8 1, .int .i64 0, .int .i64 a] := hT (4, 48, .agg #[.int .u8 1, .int .i64 0, .int .i64 a]) (by simp [tabL9]) (hdep { on := 4, ground := .data } (by simp) rfl)
          have g49 : f 49 = .agg #[.int .u8 (beginF asks).1, .int .i64 (beginF asks).2, .int .i64 0] := hT (5, 49, .agg #[.int .u8 (beginF asks).1, .int .i64 (beginF asks).2, .int .i64 0]) (by simp [tabL9]) (hdep { on := 5, ground := .data } (by simp) rfl)
          have g51 : f 51 = .agg #[.int .u8 2, .int .i64 111, .int .i64 0] := hT (7, 51, .agg #[.int .u8 2, .int .i64 111, .int .i64 0]) (by simp [tabL9]) (hdep { on := 7, ground := .data } (by simp) rfl)
          have g53 : f 53 = .agg #[.int .u8 2, .int .i64 11, .int .i64 0] := hT (9, 53, .agg #[.int .u8 2, .int .i64 11, .int .i64 0]) (by simp [tabL9]) (hdep { on := 9, ground := .data } (by simp) rfl)
          have g55 : f 55 = .agg #[.int .u8 2, .int .i64 111, .int .i64 0] := hT (11, 55, .agg #[.int .u8 2, .int .i64 111, .int .i64 0]) (by simp [tabL9]) (hdep { on := 11, ground := .data } (by simp) rfl)
          have g63 : f 63 = .agg #[.int .u8 1, .int .i64 0, .int .i64 (a + ek)] := hT (19, 63, .agg #[.int .u8 1, .int .i64 0, .int .i64 (a + ek)]) (by simp [tabL9]) (hdep { on := 19, ground := .data } (by simp) rfl)
          have g65 : f 65 = .agg #[.int .u8 2, .int .i64 21, .int .i64 0] := hT (21, 65, .agg #[.int .u8 2, .int .i64 21, .int .i64 0]) (by simp [tabL9]) (hdep { on := 21, ground := .data } (by simp) rfl)
          have g66 : f 66 = .agg #[.int .u8 4, .int .i64 11, .int .i64 0] := hT (22, 66, .agg #[.int .u8 4, .int .i64 11, .int .i64 0]) (by simp [tabL9]) (hdep { on := 22, ground := .data } (by simp) rfl)
          have g67 : f 67 = .agg #[.int .u8 9, .int .i64 13, .int .i64 0] := hT (23, 67, .agg #[.int .u8 9, .int .i64 13, .int .i64 0]) (by simp [tabL9]) (hdep { on := 23, ground := .data } (by simp) rfl)
          have g69 : f 69 = .agg #[.int .u8 1, .int .i64 0, .int .i64 k] := hT (25, 69, .agg #[.int .u8 1, .int .i64 0, .int .i64 k]) (by simp [tabL9]) (hdep { on := 25, ground := .data } (by simp) rfl)
          have g70 : f 70 = .agg #[.int .u8 8, .int .i64 4, .int .i64 0] := hT (26, 70, .agg #[.int .u8 8, .int .i64 4, .int .i64 0]) (by simp [tabL9]) (hdep { on := 26, ground := .data } (by simp) rfl)
          have g71 : f 71 = .agg #[.int .u8 15, .int .i64 0, .int .i64 0] := hT (27, 71, .agg #[.int .u8 15, .int .i64 0, .int .i64 0]) (by simp [tabL9]) (hdep { on := 27, ground := .data } (by simp) rfl)
          refine wpOp_of ho rfl ?_
          refine wp_value (v := .slice (some ⟨Wx.heap.size, 0, none⟩) 14 14) (w1 := Wx.alloc (.cells (((loopL asks b a (a + ek) k).flatMap insCells).toArray) 56)) ?_ ⟨_, rfl, tabL9_other hT 28 72 _ (by omega) (by omega), bX.alloc _, tq.alloc _, fun _ => ⟨Wx.heap.size, by simp, hms, Blk.new Wx _ _⟩, ?_, ?_⟩
          · clear hdep hC hli ho hT hR hD hQ bX
            rw [loopL_code]
            first | (go_simp; done) | (go_simp; rfl)
          · intro h29
            rw [getD_set_ne (by omega)] at h29
            have h2 := hC 29 _ rfl h29 { on := 28, ground := .data } (by simp) rfl
            rw [getD_false hli] at h2
            cases h2
          · intro h30
            rw [getD_set_ne (by omega)] at h30
            obtain ⟨q, e1, hm1, hb⟩ := hQ h30
            have h31 : listed.getD 31 false = false := by
              cases e_ : listed.getD 31 false with
              | false => rfl
              | true =>
                have h2 := hC 31 _ rfl e_ { on := 29, ground := .data } (by simp) rfl
                have h3 := hC 29 _ rfl h2 { on := 28, ground := .data } (by simp) rfl
                rw [getD_false hli] at h3
                cases h3
            refine ⟨q, by simp only [if_neg (show ¬ 17 = 72 by omega)]; exact e1, hm1, ?_⟩
            rw [getD_set_ne (by omega), h31, if_neg (by simp)]
            rw [h31, if_neg (by simp)] at hb
            exact hb.alloc _
        · cases (show some _ = some o_ from ho)
          obtain ⟨r, g72, hmr, hbr⟩ := hR (hdep { on := 28, ground := .data } (by simp) rfl)
          refine wpOp_of ho rfl ?_
          refine wp_value (v := .agg #[f 72]) (w1 := Wx) ?_ ⟨_, rfl, tabL9_other hT 29 73 _ (by omega) (by omega), bX, tq, hR.step (by omega) (by omega), fun _ => (by simp), hQ.step (by omega) (by omega) (by omega) (by omega)⟩
          clear hdep hC hli ho hT hR hD hQ bX hbr
          first | (go_simp; done) | (go_simp; rfl)
        · cases (show some _ = some o_ from ho)
          have h31 : listed.getD 31 false = false := by
            cases e_ : listed.getD 31 false with
            | false => rfl
            | true =>
              have h2 := hC 31 _ rfl e_ { on := 30, ground := .data } (by simp) rfl
              rw [getD_false hli] at h2
              cases h2
          refine wpOp_of ho rfl ?_
          refine wp_value (v := .pointer (some ⟨Wx.heap.size, 0, none⟩)) (w1 := Wx.alloc (.cells #[.slice none 0 0] 24)) ?_ ⟨_, rfl, tabL9_other hT 30 17 _ (by omega) (by omega), bX.alloc _, tq.alloc _, (hR.step (by omega) (by omega)).world (fun r hb => hb.alloc _), hD.step (by omega) (by omega) (by omega), fun _ => ⟨Wx.heap.size, by simp, hms, ?_⟩⟩
          · clear hdep hC hli ho hT hR hD hQ bX
            first | (go_simp; done) | (go_simp; rfl)
          · rw [getD_set_ne (by omega), h31, if_neg (by simp)]
            exact Blk.new Wx _ _
        · cases (show some _ = some o_ from ho)
          have h29 : listed.getD 29 false = true := hdep { on := 29, ground := .data } (by simp) rfl
          have h28 := hC 29 _ rfl h29 { on := 28, ground := .data } (by simp) rfl
          have g73 := hD h29
          obtain ⟨r, g72, hmr, hbr⟩ := hR h28
          obtain ⟨q, g17, hmq, hb⟩ := hQ (hdep { on := 30, ground := .data } (by simp) rfl)
          rw [if_neg (by rw [getD_false hli]; simp)] at hb
          rw [g72] at g73
          have c0 := hb.cell 0
          have fz0 := hb.frozen 0
          have hqz : z ≠ q := by omega
          have hqr : r ≠ q := blk_ty_ne hbr hb (by decide)
          have hR2 : RowL9 (((loopL asks b a (a + ek) k).flatMap insCells).toArray) m (listed.setIfInBounds 31 true) f (Wx.setCell ⟨q, 0, none⟩ (.slice (some ⟨r, 0, none⟩) 14 14)) := fun _ => ⟨r, g72, hmr, hbr.far (by simpa using hqr) _⟩
          have hQ2 : BlkL9 m (listed.setIfInBounds 31 true) f (Wx.setCell ⟨q, 0, none⟩ (.slice (some ⟨r, 0, none⟩) 14 14)) := fun _ => ⟨q, g17, hmq, by rw [getD_set_same hli, if_pos rfl, g72]; exact hb.set_ 0 _⟩
          have tq2 : Touch [] wc (Wx.setCell ⟨q, 0, none⟩ (.slice (some ⟨r, 0, none⟩) 14 14)) := tq.setCell (.inr (by show _ ≤ q; omega)) _
          refine wpOp_of ho rfl ?_
          refine wp_skip (w1 := Wx.setCell ⟨q, 0, none⟩ (.slice (some ⟨r, 0, none⟩) 14 14)) ?_ ⟨f, rfl, tabL9_keep hT 31 (by omega), bX.far (by simpa using hqz) _, tq2, hR2, hD.keep (by omega), hQ2⟩
          clear hdep hC hli ho hT hR hD hQ bX hR2 hQ2 tq2 hb hbr
          first | (go_simp; done) | (go_simp; rfl)
      case fin =>
        rintro listed a_ Wx hl ⟨f, rfl, hT, bX, tq, hR, hD, hQ⟩
        obtain ⟨r, g72, hmr, hbr⟩ := hR (hl 28 (by decide))
        obtain ⟨q, g17, hmq, hb⟩ := hQ (hl 30 (by decide))
        rw [if_pos (hl 31 (by decide)), g72] at hb
        rw [g17]
        have HF := Lib.hid (show Blk Wx q 24 #[.slice (some ⟨r, 0, none⟩) 14 14] ∧ Blk Wx r 56 (((loopL asks b a (a + ek) k).flatMap insCells).toArray) ∧ w1.heap.size ≤ q ∧ w1.heap.size ≤ r ∧ q ≠ r ∧ Touch [] w1 Wx from ⟨hb, hbr, Nat.le_trans (by rw [← hm]; exact HCC.out.2.size) hmq, Nat.le_trans (by rw [← hm]; exact HCC.out.2.size) hmr, (blk_ty_ne hbr hb (by decide)).symm, HCC.out.2.trans tq (by simp)⟩)
        clear hT hR hD hQ hl hb hbr bX tq g72 g17
        dsimp only
        go_wp2_with fail
        go_meet
        exact ⟨q, r, rfl, HF.out⟩
      -- END 9
    case rest =>
      obtain ⟨q, r, rfl, bq, br, hq1, hr1, hqr, tD⟩ := hcut
      obtain ⟨c, hc⟩ : ∃ c, c = if e = 0 then -1000 else a + ek := ⟨_, rfl⟩
      have q0 := bq.cell 0
      have r23 := br.cell 23
      have rf := br.frozen 23
      have HD1 := Lib.hid (And.intro bq (And.intro br (And.intro hq1 (And.intro hr1 (And.intro hqr tD)))))
      have e8 : x3.tmod 9 = e := by rw [Int.tmod_eq_emod_of_nonneg h3.1]; exact he1
      clear bq br hq1 hr1 hqr tD z0 z1 z2 HCC
      go_upto_if 76 with fail
      go_cut [] from 74 to 80 (fun wf => Blk wf q 24 #[.slice (some ⟨r, 0, none⟩) 14 14] ∧ Blk wf r 56 ((loopL asks b a c k).flatMap insCells).toArray ∧ Touch [] w1 wf)
      case first =>
        have hset : ∀ W, Blk W r 56 ((loopL asks b a (a + ek) k).flatMap insCells).toArray → Blk (W.setCell ⟨r, 23, none⟩ (.int .i64 (-1000))) r 56 ((loopL asks b a (-1000) k).flatMap insCells).toArray := fun W hB => by
          have h := hB.set_ 23 (.int .i64 (-1000))
          have e : (((loopL asks b a (a + ek) k).flatMap insCells).toArray).setIfInBounds 23 (.int .i64 (-1000)) = ((loopL asks b a (-1000) k).flatMap insCells).toArray := by cases asks <;> rfl
          rw [e] at h
          exact h
        have HS := Lib.hid hset
        clear hset
        by_cases he2 : e = 0
        · have hcc : c = -1000 := by rw [hc, if_pos he2]
          have HCC := Lib.hid hcc
          have ez : (e == 0) = true := by rw [he2]; rfl
          have ez2 : (x3 % 9 == 0) = true := by rw [he1, he2]; rfl
          have ez3 : (x3.tmod 9 == 0) = true := by rw [e8, he2]; rfl
          clear hc hcc he2 he he1 e8
          go_wp2_with fail
          go_meet
          rw [HCC.out]
          exact ⟨HD1.out.1.far (p := ⟨r, 23, none⟩) HD1.out.2.2.2.2.1 _, HS.out _ HD1.out.2.1, HD1.out.2.2.2.2.2.setCell (.inr HD1.out.2.2.2.1) _⟩
        · have hcc : c = a + ek := by rw [hc, if_neg he2]
          have HCC := Lib.hid hcc
          have ez : (e == 0) = false := by simpa using he2
          have ez2 : (x3 % 9 == 0) = false := by rw [he1]; exact ez
          have ez3 : (x3.tmod 9 == 0) = false := by rw [e8]; exact ez
          clear hc hcc he2 he he1 e8
          go_wp2_with fail
          go_meet
          rw [HCC.out]
          exact ⟨HD1.out.1, HD1.out.2.1, HD1.out.2.2.2.2.2⟩
      case rest =>
        obtain ⟨bq, br, tF⟩ := hcut
        have HE1 := Lib.hid (And.intro he1 (And.intro e8 (And.intro hc (And.intro hek hek1))))
        have hone := dlOne S asks b a c k (wordsT ++ [(5, 1, 0)]) (by rw [List.length_append, wordsT_len]; decide) 0
        have hE := HG.out.2.2.2.2.2
        have hFl := hE.lt
        have q0 := bq.cell 0
        have hDef := Define_ok (hE.touch tF (by simp)) (Nat.zero_le _) (Nat.le_of_ble_eq_true rfl) (loopL asks b a c k) (show (14 : Nat) ≤ 500 by decide) hone.op (loop_may asks b a c k _ (by show (111 : Int) ≤ (wordsT.length : Int); rw [wordsT_len]; decide)) (.slice (some ⟨r, 0, none⟩) 14 14) (ins_blk (L := loopL asks b a c k) br 14) (fun x hx => by
          simp only [rowOf, List.mem_cons, List.not_mem_nil, or_false] at hx
          rw [hx]
          refine ⟨br.lt, fun hx => ?_⟩
          have h1 := hFl _ hx
          have h2 := HD1.out.2.2.2.1
          omega)
        rw [show ((({ M.new S ins0' with words := wordsT } : M).ends.length : Nat) : Int) + 1 = 1 from rfl] at hDef
        have HTF := Lib.hid tF
        clear bq br tF hE hFl hone he he1 e8 hc hek hek1 rf r23
        go_wp2_with fail
        refine hDef.mono ?_
        rintro _ w5 ⟨rfl, K5⟩
        have K5 := Keep.pre HTF.out K5
        obtain ⟨F5, e5, n5, q5, _, c5⟩ := keep_own HG.out.1 HG.out.2.1 K5
        have hAdd := Add_ok e5 (Nat.le_of_ble_eq_true rfl) 5 1 0 (.inr (.inl ⟨.inl rfl, by decide, by show (1 : Int) ≤ (1 : Int); decide⟩)) ml (cell_quiet q5 HML.out)
        rw [show (((({ M.new S ins0' with words := wordsT } : M).laid (loopL asks b a c k)).words.length : Nat) : Int) + 1 = 181 by show ((wordsT.length : Nat) : Int) + 1 = _; rw [wordsT_len]; rfl] at hAdd
        have C5 := Lib.hid c5
        clear K5 e5 n5 q5 c5 hDef q0
        go_wp2_with fail
        refine hAdd.mono ?_
        rintro _ w8 ⟨rfl, K8⟩
        have K8 : Keep w1 g p F (dlM S (loopL asks b a c k)) w8 := C5.out _ _ K8
        obtain ⟨F8, e8, n8, t8, _, c8⟩ := keep_own HG.out.1 HG.out.2.1 K8
        have hEx := exec_yes e8 (by show (wordsT ++ [(5, 1, 0)]).length ≤ 1000000; rw [List.length_append, wordsT_len]; decide) 181 (5, 1, 0) (word_last (dlM S (loopL asks b a c k)) wordsT (5, 1, 0) rfl)
        have C8 := Lib.hid c8
        clear K8 e8 n8 t8 c8 hAdd
        go_wp2_with fail
        refine hEx.mono ?_
        rintro _ w9 ⟨rfl, K9⟩
        have K9 : Keep w1 g p F { dlM S (loopL asks b a c k) with nx := 181 } w9 := C8.out _ _ K9
        have HK9 := Lib.hid K9
        clear K9 hEx C8
        go_upto_region 17 with fail
        go_cut [23] from 106 to 116 (fun v wx => v = .bool (decide (a < b) || (asks && decide (a = b))) ∧ w9 = wx)
        case first =>
          by_cases hab : a < b
          · go_wp2_with fail
            go_meet
            exact ⟨by rw [decide_eq_true hab]; rfl, rfl⟩
          · have hdn : decide (a < b) = false := decide_eq_false hab
            cases asks with
            | false =>
              go_wp2_with fail
              go_meet
              exact ⟨by rw [hdn]; rfl, rfl⟩
            | true =>
              obtain ⟨q, hq⟩ : ∃ q, (a == b) = q := ⟨_, rfl⟩
              go_wp2_with fail
              go_meet
              exact ⟨by rw [hdn, ← hq]; by_cases e0 : a = b <;> simp [e0], rfl⟩
        case rest =>
          obtain ⟨rfl, rfl⟩ := hcut
          obtain ⟨en, hen⟩ : ∃ en, (decide (a < b) || (asks && decide (a = b))) = en := ⟨_, rfl⟩
          rw [hen]
          obtain ⟨want, hwant⟩ : ∃ want, want = if asks = true ∧ a = b then 0 else (wantG e b k 200 a 0).1 := ⟨_, rfl⟩
          have HW := Lib.hid (And.intro hen hwant)
          clear hen hwant
          go_upto_region 18 with fail
          go_cut [123] from 117 to 122 (fun v wx => v = .bool (!asks || !decide (a = b)) ∧ w9 = wx)
          case first =>
            cases asks with
            | false =>
              go_wp2_with fail
              go_meet
              exact ⟨rfl, rfl⟩
            | true =>
              obtain ⟨q, hq⟩ : ∃ q, (a != b) = q := ⟨_, rfl⟩
              go_wp2_with fail
              go_meet
              exact ⟨by rw [← hq]; by_cases e0 : a = b <;> simp [e0], rfl⟩
          case rest =>
            obtain ⟨rfl, rfl⟩ := hcut
            obtain ⟨gq, hgq⟩ : ∃ gq, (!asks || !decide (a = b)) = gq := ⟨_, rfl⟩
            rw [hgq]
            have HGQ := Lib.hid hgq
            clear hgq
            go_upto_if 123 with fail
            go_cut [22, 23] from 24 to 154 (fun wv ev wx => ∃ en2, wv = .int .i64 want ∧ ev = .bool en2 ∧ (en2 = true ↔ (a < b ∨ (asks = true ∧ a = b) ∨ 1 ≤ e)) ∧ w9 = wx)
            case first =>
              cases gq with
              | false =>
                have hx : asks = true ∧ a = b := by
                  have h := HGQ.out
                  cases asks with
                  | false => cases h
                  | true => exact ⟨rfl, by simpa using h⟩
                have h1 := HW.out.1
                have h2 := HW.out.2
                rw [if_pos hx] at h2
                have henT : en = true := by rw [← h1, decide_eq_true hx.2, hx.1]; simp
                have HX := Lib.hid (And.intro hx (And.intro h2 henT))
                clear h1 h2 hx henT
                go_wp2_with fail
                go_meet
                exact ⟨en, by rw [HX.out.2.1], rfl, ⟨fun _ => .inr (.inl HX.out.1), fun _ => HX.out.2.2⟩, rfl⟩
              | true =>
                have hx : ¬ (asks = true ∧ a = b) := by
                  rintro ⟨h1, h2⟩
                  have h := HGQ.out
                  rw [h1, decide_eq_true h2] at h
                  cases h
                have h1 := HW.out.1
                have h2 := HW.out.2
                rw [if_neg hx] at h2
                have henT : en = true ↔ a < b := by
                  rw [← h1]
                  constructor
                  · intro h
                    rcases Bool.or_eq_true _ _ ▸ h with h | h
                    · exact of_decide_eq_true h
                    · rw [Bool.and_eq_true] at h
                      exact absurd ⟨h.1, of_decide_eq_true h.2⟩ hx
                  · intro h
                    rw [decide_eq_true h]
                    rfl
                obtain ⟨WG, hWG⟩ : ∃ WG, wantG e b k 200 a 0 = WG := ⟨_, rfl⟩
                rw [hWG] at h2
                have HX := Lib.hid (And.intro hx (And.intro h2 henT))
                have HWG := Lib.hid hWG
                have HB := Lib.hid (And.intro HE1.out.1 (And.intro HE1.out.2.1 (And.intro ha0 (And.intro hb0 (And.intro hk0 he0)))))
                clear h1 h2 hx henT ha0 hb0 hk0 he0 hWG
                go_wp2_with fail
                go_loopw [22, 23, 24, 25] (fun wv ev iv mv wr => ∃ n : Nat, n ≤ 200 ∧ ∃ s i, wv = .int .i64 s ∧ ev = .bool en ∧ iv = .int .i64 i ∧ mv = .int .i64 n ∧ i = a + n * k ∧ wantG e b k (200 - n) i s = WG ∧ w9 = wr) (fun _ _ _ mv _ => 200 - (intOf mv).toNat)
                case atStart => exact ⟨0, by omega, 0, a, rfl, rfl, rfl, rfl, by omega, HWG.out, rfl⟩
                case round =>
                  obtain ⟨n, hn, s, i, rfl, rfl, rfl, rfl, hi, hg, rfl⟩ := hrel
                  obtain ⟨he1, e8, ha0, hb0, hk0, he0⟩ := HB.out
                  rcases Nat.lt_or_ge n 200 with hlt | hge
                  · obtain ⟨f, hf⟩ : ∃ f, 200 - n = f + 1 := ⟨200 - n - 1, by omega⟩
                    rw [hf] at hg
                    unfold wantG at hg
                    have hfe : (200 : Int) - (f + 1 : Nat) = n := by omega
                    rw [hfe] at hg
                    have hnk : 0 ≤ (n : Int) * k ∧ (n : Int) * k ≤ 1000 := by
                      constructor
                      · exact Int.mul_nonneg (by omega) (by omega)
                      · have h1 := Int.mul_le_mul_of_nonneg_left hk0.2 (show (0 : Int) ≤ n by omega)
                        omega
                    obtain ⟨nk, hnk1⟩ : ∃ nk, (n : Int) * k = nk := ⟨_, rfl⟩
                    rw [hnk1] at hi hnk
                    have hmul : ((n + 1 : Nat) : Int) * k = nk + k := by rw [← hnk1]; push_cast; rw [Int.add_mul, Int.one_mul]
                    obtain ⟨s1, hs1⟩ : ∃ s1, wrap64 (s + i) = s1 := ⟨_, rfl⟩
                    rw [hs1] at hg
                    have w1' : IntKind.i64.wrap (s + i) = s1 := by rw [← hs1, IntKind.wrap_i64]; unfold wrap64; omega
                    have w2' : IntKind.i64.wrap (i + k) = i + k := by rw [IntKind.wrap_i64]; omega
                    have w3' : IntKind.i64.wrap ((n : Int) + 1) = ((n + 1 : Nat) : Int) := by rw [IntKind.wrap_i64]; omega
                    have hlt' : (n : Int) < 200 := by omega
                    have HI := Lib.hid (And.intro hi (And.intro hmul (And.intro hf hg)))
                    have HNK := Lib.hid hnk
                    clear hi hmul hf hg hnk1 hs1 hfe hnk ha0 hb0
                    by_cases hA : e ≠ 0 ∧ (n : Int) = e
                    · have hgA := HI.out.2.2.2
                      rw [if_pos hA] at hgA
                      have a1 : (e != 0) = true := by simpa using hA.1
                      have a2 : ((n : Int) == e) = true := by simpa using hA.2
                      have HA := Lib.hid (And.intro hA hgA)
                      clear hA hgA
                      go_wp2_with fail
                      go_meet
                      exact ⟨true, by rw [HX.out.2.1, ← HA.out.2], rfl, ⟨fun _ => .inr (.inr (by have h1 := HA.out.1.1; have h2 := HB.out.2.2.2.2.2.1; omega)), fun _ => rfl⟩, rfl⟩
                    · have hgA := HI.out.2.2.2
                      rw [if_neg hA] at hgA
                      have HGA := Lib.hid hgA
                      clear hgA
                      by_cases hB : i < b ∧ i + k ≥ b
                      · have hgB := HGA.out
                        rw [if_pos hB] at hgB
                        obtain ⟨b1, b2⟩ := hB
                        have hab : a < b := by
                          have h1 := HI.out.1
                          have h2 := HNK.out.1
                          omega
                        have HGB := Lib.hid (And.intro hgB hab)
                        clear hgB hab
                        by_cases h00 : e = 0
                        · have a1 : (e != 0) = false := by simpa using h00
                          clear h00 hA
                          go_wp2_with fail
                          go_meet
                          exact ⟨en, by rw [HX.out.2.1, ← HGB.out.1], rfl, ⟨fun _ => .inl HGB.out.2, fun _ => HX.out.2.2.2 HGB.out.2⟩, rfl⟩
                        · have a1 : (e != 0) = true := by simpa using h00
                          have a2 : ((n : Int) == e) = false := by
                            rw [beq_eq_false_iff_ne]
                            exact fun h => hA ⟨h00, h⟩
                          clear h00 hA
                          go_wp2_with fail
                          go_meet
                          exact ⟨en, by rw [HX.out.2.1, ← HGB.out.1], rfl, ⟨fun _ => .inl HGB.out.2, fun _ => HX.out.2.2.2 HGB.out.2⟩, rfl⟩
                      · have hgB := HGA.out
                        rw [if_neg hB] at hgB
                        have HGB := Lib.hid (show wantG e b k (200 - (n + 1)) (i + k) s1 = WG by rw [show 200 - (n + 1) = f by have := HI.out.2.2.1; omega]; exact hgB)
                        have HNX := Lib.hid (show i + k = a + ((n + 1 : Nat) : Int) * k by rw [HI.out.2.1, HI.out.1]; omega)
                        clear hgB
                        by_cases h00 : e = 0
                        · have a1 : (e != 0) = false := by simpa using h00
                          clear h00 hA
                          by_cases b1 : i < b
                          · have b2 : ¬ i + k ≥ b := fun h => hB ⟨b1, h⟩
                            clear hB
                            go_wp2_with fail
                            go_roundw
                            case rel => exact ⟨n + 1, by omega, s1, i + k, rfl, rfl, rfl, vint (by omega), HNX.out, HGB.out, (by first | rfl | trivial)⟩
                            case measure => simp only [intOf]; omega
                          · clear hB
                            go_wp2_with fail
                            go_roundw
                            case rel => exact ⟨n + 1, by omega, s1, i + k, rfl, rfl, rfl, vint (by omega), HNX.out, HGB.out, (by first | rfl | trivial)⟩
                            case measure => simp only [intOf]; omega
                        · have a1 : (e != 0) = true := by simpa using h00
                          have a2 : ((n : Int) == e) = false := by
                            rw [beq_eq_false_iff_ne]
                            exact fun h => hA ⟨h00, h⟩
                          clear h00 hA
                          by_cases b1 : i < b
                          · have b2 : ¬ i + k ≥ b := fun h => hB ⟨b1, h⟩
                            clear hB
                            go_wp2_with fail
                            go_roundw
                            case rel => exact ⟨n + 1, by omega, s1, i + k, rfl, rfl, rfl, vint (by omega), HNX.out, HGB.out, (by first | rfl | trivial)⟩
                            case measure => simp only [intOf]; omega
                          · clear hB
                            go_wp2_with fail
                            go_roundw
                            case rel => exact ⟨n + 1, by omega, s1, i + k, rfl, rfl, rfl, vint (by omega), HNX.out, HGB.out, (by first | rfl | trivial)⟩
                            case measure => simp only [intOf]; omega
                  · obtain rfl : n = 200 := by omega
                    have hg0 : (s, false) = WG := hg
                    have hiff : en = true ↔ (a < b ∨ (asks = true ∧ a = b) ∨ 1 ≤ e) := by
                      rw [HX.out.2.2]
                      constructor
                      · exact fun h => .inl h
                      · rintro (h | h | h)
                        · exact h
                        · exact absurd h HX.out.1
                        · rcases Int.lt_or_le a b with h1 | h1
                          · exact h1
                          · have h2 := wantG_left e b k hk0.1 h (by omega) 200 a 0 h1 (by omega)
                            rw [HWG.out, ← hg0] at h2
                            cases h2
                    have HF := Lib.hid (And.intro hg0 hiff)
                    clear hg hg0 hiff hi he1 e8 ha0 hb0 hk0 he0 hge hn
                    go_wp2_with fail
                    go_meet
                    exact ⟨en, by rw [HX.out.2.1, ← HF.out.1], rfl, HF.out.2, rfl⟩
            case rest =>
              obtain ⟨en2, rfl, rfl, hen2, rfl⟩ := hcut
              obtain ⟨F9, e9, n9, t9, _, c9⟩ := keep_own HG.out.1 HG.out.2.1 HK9.out
              obtain ⟨he1, e8, hc, hek, hek1⟩ := HE1.out
              have hone := dlOne S asks b a c k (wordsT ++ [(5, 1, 0)]) (by rw [List.length_append, wordsT_len]; decide) 181
              have hok := dlOk S asks b a c k
              have hce : c = if e = 0 then -1000 else a + e * k := by rw [hek1]; exact hc
              have hst := dl_start S HG.out.2.2.1 (loopL asks b a c k)
              have hfine := hone.fine (by show S.st.length ≤ 128; rw [HG.out.2.2.1]; decide) (Nat.le_of_ble_eq_true rfl) ⟨Nat.le_of_ble_eq_true rfl, Nat.le_of_ble_eq_true rfl, by intro o ho; cases ho⟩ HG.out.2.2.2.1
              have hword : (dlM S (loopL asks b a c k)).word 181 = some (5, 1, 0) := word_last (dlM S (loopL asks b a c k)) wordsT (5, 1, 0) rfl
              have hctl : CtlOk ({ dlM S (loopL asks b a c k) with nx := 181 } : M) := ctl_of (ctl_app _ _ ctl_table rfl)
              have hloc := hone.noLoc (fun x hx => (loopL_op asks b a c k x hx).2.1)
              have hlaw := loops_law hok asks rfl (by omega) (by omega) hk0 he0 hce (by omega) 181 0 (by decide) hword
              dsimp only at hlaw
              rw [← HW.out.2, ← hst] at hlaw
              have hgd : ∀ n S', (n = 11 ∨ n = 21) → S'.st.length ≤ 128 → PS.ok S' → DoOk w lD p.s S' n := fun n S' hg h1 h2 => lD_do hg h1 h2
              have hbd : ∀ n S', ¬ (n = 11 ∨ n = 21) → (lD n S').2.out = [7] := fun n S' hg => by
                unfold lD
                rw [if_neg hg]
                rfl
              cases hb2 : en2 with
              | true =>
                have hg := hen2.1 hb2
                have hrun := hlaw.1 hg
                have hRun := run_law2 (D := lD) (bad := fun S => S.out = [7]) e9 hfine n9 t9 lD_fine lD_bad (fun S st h => h) (fun n _ => n = 11 ∨ n = 21) (fun n S' hg h1 h2 => hgd n S' hg h1 h2) (fun n S' hg => hbd n S' hg) hctl hloc 2000 (by decide) hrun (by show ¬ S.out = [7]; rw [HG.out.2.2.2.2.1]; decide) (fun n hn => absurd hn (nothing_next rfl rfl n))
                rw [show ((2000 : Nat) : Int) = 2000 from rfl] at hRun
                have C9 := Lib.hid c9
                clear hlaw hrun hg hb2 hfine hctl hloc hok hone hst hword hce hgd hbd e9 n9 t9 c9 hen2 he1 e8 hc hek hek1 ha0 hb0 hk0 he0
                go_wp2_with fail
                refine hRun.mono ?_
                rintro _ wB ⟨sF, mF, rfl, KB, rfl, rfl⟩
                have KB := C9.out _ _ KB
                obtain ⟨FB, eB, nB, qB, _, cB⟩ := keep_own HG.out.1 HG.out.2.1 KB
                have bS := Blk.new wB 48 #[.int .i64 5, .int .i64 0, .int .i64 0]
                have tS := (Touch.refl [] wB).alloc (.cells #[.int .i64 5, .int .i64 0, .int .i64 0] 48)
                have eC := eB.touch tS (by simp)
                have qC := qB.trans tS (by simp)
                obtain ⟨y, hy⟩ : ∃ y, wB.heap.size = y := ⟨_, rfl⟩
                rw [hy] at bS
                unfold stV
                dsimp only
                clear KB eB nB qB cB hRun C9 tS
                go_upto_region 29 with fail
                generalize wB.alloc (.cells #[.int .i64 5, .int .i64 0, .int .i64 0] 48) = wC at *
                clear hy
                have hSt3 := state_eng eC
                have hSk3 := eC.stack_of
                have hAll := all_eng eC (by show ([want] : List Int).length ≤ 128; exact Nat.le_of_ble_eq_true rfl)
                rw [show ({ (dlM S (loopL asks b a c k)).lp 0 [want] [] with df := 0 } : M).S.st.length = 1 from rfl] at hAll
                have y0 : wC.cell? ⟨y, 0, none⟩ = some (.int .i64 5) := bS.cell 0
                have HE := Lib.hid (And.intro eC qC)
                generalize ({ (dlM S (loopL asks b a c k)).lp 0 [want] [] with df := 0 } : M).S.k = kk at *
                clear eC qC bS
                go_wp2_with fail
                refine hSt3.mono ?_
                rintro _ _ ⟨rfl, rfl⟩
                clear hSt3
                go_wp2_with fail
                refine hSk3.mono ?_
                rintro _ _ ⟨rfl, rfl⟩
                clear hSk3
                go_wp2_with fail
                refine hAll.mono ?_
                rintro _ wD ⟨a2, c2, rfl, hRD, tD⟩
                have hRD : RowR wD (.slice a2 1 c2) [want] := hRD
                have bW := Blk.new wD 33 #[.int .i64 want]
                have tW := (Touch.refl [] wD).alloc (.cells #[.int .i64 want] 33)
                have hSame := Same_eq (.slice a2 1 c2) (.slice (some ⟨wD.heap.size, 0, none⟩) 1 1) [want] _ (hRD.quiet tW) (RowR.blk (cs := [want]) bW 1) (by show (1 : Nat) ≤ _; decide)
                have eD := HE.out.1.touch (tD.trans tW (by simp)) (by simp)
                have qD := HE.out.2.trans (tD.trans tW (by simp)) (by simp)
                have HD5 := Lib.hid (And.intro eD qD)
                clear hRD bW tW tD hAll eD qD
                go_wp2_with fail
                refine hSame.mono ?_
                rintro _ wE ⟨rfl, tE⟩
                have hFr3 := frames_eng (HD5.out.1.touch tE (by simp))
                have hDp3 := frDepth_eng (HD5.out.1.touch tE (by simp))
                rw [show (({ (dlM S (loopL asks b a c k)).lp 0 [want] [] with df := 0 } : M).fr.length : Int) = 0 from rfl] at hDp3
                have QE := Lib.hid (HD5.out.2.trans tE (by simp))
                clear hSame tE
                go_wp2_with fail
                refine hFr3.mono ?_
                rintro _ _ ⟨rfl, rfl⟩
                clear hFr3
                go_wp2_with fail
                refine hDp3.mono ?_
                rintro _ _ ⟨rfl, rfl⟩
                clear hDp3
                go_wp2_with fail
                go_ret
                exact ⟨rfl, QE.out⟩
              | false =>
                have hg : ¬ (a < b ∨ (asks = true ∧ a = b) ∨ 1 ≤ e) := fun h => by
                  rw [hen2.2 h] at hb2
                  cases hb2
                obtain ⟨i', s', hfar⟩ := loops_far hok asks e rfl (by omega) (by omega) hk0 he0 hce 181 0 (by decide) hword hg
                rw [← hst] at hfar
                have hRun := run_law3 (D := lD) (bad := fun S => S.out = [7]) e9 hfine n9 t9 lD_fine lD_bad (fun S st h => h) (fun n _ => n = 11 ∨ n = 21) (fun n S' hg h1 h2 => hgd n S' hg h1 h2) (fun n S' hg => hbd n S' hg) hctl hloc 2000 (by decide) 2005 (by decide) hfar (by show ¬ S.out = [7]; rw [HG.out.2.2.2.2.1]; decide)
                rw [show ((2000 : Nat) : Int) = 2000 from rfl] at hRun
                have C9 := Lib.hid c9
                clear hlaw hfar hg hb2 hfine hctl hloc hok hone hst hword hce hgd hbd e9 n9 t9 c9 hen2 he1 e8 hc hek hek1 ha0 hb0 hk0 he0
                go_wp2_with fail
                refine hRun.mono ?_
                rintro _ wB ⟨⟨sF1, sF2, sF3⟩, mF, rfl, KB, hsF⟩
                dsimp only at hsF
                subst hsF
                have KB := C9.out _ _ KB
                obtain ⟨FB, eB, nB, qB, _, cB⟩ := keep_own HG.out.1 HG.out.2.1 KB
                have bS := Blk.new wB 48 #[.int .i64 1, .int .i64 sF2, .int .i64 sF3]
                have tS := (Touch.refl [] wB).alloc (.cells #[.int .i64 1, .int .i64 sF2, .int .i64 sF3] 48)
                have qC := Lib.hid (qB.trans tS (by simp))
                obtain ⟨y, hy⟩ : ∃ y, wB.heap.size = y := ⟨_, rfl⟩
                rw [hy] at bS
                unfold stV
                dsimp only
                clear KB eB nB qB cB hRun C9 tS
                go_upto_region 29 with fail
                generalize wB.alloc (.cells #[.int .i64 1, .int .i64 sF2, .int .i64 sF3] 48) = wC at *
                clear hy
                have y0 : wC.cell? ⟨y, 0, none⟩ = some (.int .i64 1) := bS.cell 0
                go_wp2_with fail
                go_ret
                exact ⟨rfl, qC.out⟩
end En
end Go.Proofs.YtdokeddjcpnmiaaGreatDoor
