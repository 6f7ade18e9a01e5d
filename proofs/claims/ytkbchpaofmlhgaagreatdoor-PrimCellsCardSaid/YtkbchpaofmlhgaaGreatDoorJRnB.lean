import Derived.Test.YtkbchpaofmlhgaaGreatDoorJMapsA
import Derived.Test.YtkbchpaofmlhgaaGreatDoorJRnA
import Derived.Test.YtkbchpaofmlhgaaGreatDoorJStkA
import Derived.ProofKit
import Derived.Deep.LoopGhost
/- A frame by its slots alone; guarded operations (for regions by region_inv). -/
namespace Go.Proofs.YtkbchpaofmlhgaaGreatDoor
open Go.RowKit

/-- a frame by its slots alone -/
theorem frame_any {P : Program} {code : Code} {Q : Exit → Go.Act → World → Prop} {T : Array Value} {d : List Deferred} {w : World} (arr : (Nat → Value) → (Nat → Value) → Array Value)
    (hT : T = arr (fun j => T.getD j undef) (fun j => T.getD j undef)) (h : ∀ g f, code.wp P Q { tmps := arr g f, defers := d } w) : code.wp P Q { tmps := T, defers := d } w := by
  rw [hT]
  exact h _ _
theorem yield_of {ops : Array Oper} {tmps : Array Value} {j d : Nat} {b : Bool} {o : Oper} (h1 : ops[j]? = some o) (h2 : o.dst = some d) (h3 : tmps[d]? = some (.bool b)) : yielded ops tmps j = some b := by
  unfold yielded
  rw [h1]
  simp [h2, h3]
theorem wpOp_guard {P : Program} {ops : Array Oper} {Q : Exit → Go.Act → World → Prop} {i : Nat} {o : Oper} {K : Go.Act → World → Prop} {a : Go.Act} {w : World} {j : Nat} {b : Bool} (ho : ops[i]? = some o) (hg : o.guard = some (j, b)) (hy : yielded ops a.tmps j = some b) (h : o.wp P a w K Q) : wpOp P ops Q i K a w := by
  unfold wpOp
  rw [ho]
  simp only [Region.wanted, hg, hy, beq_self_eq_true, if_true]
  exact .inl h
section
variable {P : Program} {ops : Array Oper} {Q : Exit → Go.Act → World → Prop}
/-- each operation waits for earlier ones alone, as far as any order goes -/
def afterB2 (ops : Array Oper) : Bool := (List.range ops.size).all fun i => ((ops[i]?).map fun o => o.after.all fun e => !Region.binds .any e || decide (e.on < i)).getD true
theorem ready_nil2 {listed : Array Bool} (hs : listed.size = ops.size) (ha : afterB2 ops = true) (h : Region.ready .any ops listed = []) : ∀ i, i < ops.size → listed.getD i false = true := by
  intro i
  induction i using Nat.strongRecOn with
  | ind i ih =>
    intro hi
    cases e : listed.getD i false with
    | true => rfl
    | false =>
      have hm : i ∈ Region.ready .any ops listed := by
        unfold Region.ready
        simp only [List.mem_filter, List.mem_range, Bool.and_eq_true, Bool.not_eq_true']
        refine ⟨hi, ?_, ?_⟩
        · rw [Array.getD_eq_getD_getElem?] at e ⊢
          rw [Array.getElem?_eq_getElem (by omega)] at e ⊢
          exact e
        · obtain ⟨o, ho⟩ : ∃ o, ops[i]? = some o := ⟨_, Array.getElem?_eq_getElem hi⟩
          rw [ho]
          simp only [Option.map_some, Option.getD_some, Array.all_eq_true_iff_forall_mem]
          intro x hx
          unfold afterB2 at ha
          rw [List.all_eq_true] at ha
          have := ha i (by simpa using hi)
          rw [ho] at this
          simp only [Option.map_some, Option.getD_some, Array.all_eq_true_iff_forall_mem] at this
          have h2 := this x hx
          cases hb : Region.binds .any x with
          | false => simp
          | true =>
            rw [hb] at h2
            have h3 : x.on < i := by simpa using h2
            rw [ih x.on h3 (by omega)]
            simp
      rw [h] at hm
      cases hm
theorem region_inv2 {id : Nat} {a : Go.Act} {w : World} (I : Array Bool → Go.Act → World → Prop) (hm : P.follows .mixedOrders = true) (ha : afterB2 ops = true)
    (h0 : ∀ listed : Array Bool, listed.size = ops.size → (∀ i, listed.getD i false = false) → I listed a w.drew)
    (step : ∀ listed a w, I listed a w → Closed .any ops listed → ∀ i o, ops[i]? = some o → listed.getD i true = false → (∀ e ∈ o.after, Region.binds .any e = true → listed.getD e.on false = true) → wpOp P ops Q i (fun a' w' => I (listed.setIfInBounds i true) a' w') a w)
    (fin : ∀ listed a w, (∀ i, i < ops.size → listed.getD i false = true) → I listed a w → Q .normal a w) : (Code.region id ops true).wp P Q a w := by
  have hz : ∀ i, (Array.replicate ops.size false).getD i false = false := fun i => by
    rw [Array.getD_eq_getD_getElem?]
    rw [Array.getElem?_replicate]
    split <;> rfl
  refine wp_region_any hm (wpAny_inv (fun listed a w => I listed a w ∧ Closed .any ops listed) (fun listed a w hs h i hi => ?_) (fun listed a w hs h hr => fin listed a w (ready_nil2 hs ha hr) h.1) _ _ a _ (by simp) ?_ ⟨h0 _ (by simp) hz, fun i o _ h => by rw [hz] at h; cases h⟩)
  · obtain ⟨h1, h2, h3⟩ := ready_spec hi
    obtain ⟨o, ho⟩ : ∃ o, ops[i]? = some o := ⟨_, Array.getElem?_eq_getElem h1⟩
    exact wpOp_mono (fun a' w' k => ⟨k, h.2.set h3⟩) (step listed a w h.1 h.2 i o ho h2 (h3 o ho))
  · unfold leftOf
    refine Nat.le_trans (List.length_filter_le _ _) (by simp)
end
end Go.Proofs.YtkbchpaofmlhgaaGreatDoor

/- rhytonref04's product. -/
namespace Go.Proofs.YtkbchpaofmlhgaaGreatDoor
open Go.RowKit
namespace Rn

theorem pl_nat (m : Nat) (h : m < 9223372036854775808) : pl m = (m : Int) := by
  rw [(p_small m (by omega)).1]
  unfold cellOf
  rw [if_pos h]
def tabMul (z : Nat) (s : Bool) (ia ib ea eb nl nh r : Int) : List (Nat × Nat × Value) := [(0, 41, .bool s), (1, 42, .pointer (some ⟨z, 2, none⟩)), (2, 43, .int .u64 ia), (3, 44, .int .i64 ia), (4, 45, .pointer (some ⟨z + 1, 2, none⟩)), (5, 46, .int .u64 ib), (6, 47, .int .i64 ib), (7, 48, .agg #[.int .i64 nl, .int .i64 nh]), (8, 49, .pointer (some ⟨z, 3, none⟩)), (9, 50, .int .i64 ea), (10, 51, .pointer (some ⟨z + 1, 3, none⟩)), (11, 52, .int .i64 eb), (12, 53, .int .i64 (ea + eb)), (13, 54, .int .i64 r), (14, 4, .int .i64 r)]
set_option maxRecDepth 100000 in
set_option maxHeartbeats 3200000 in
theorem product_fin (sa sb : Bool) (ma mb : Nat) (ea eb : Int) (ha : ma < 9007199254740992) (hb : mb < 9007199254740992) (ea0 : -1100 ≤ ea) (ea1 : ea ≤ 1100) (eb0 : -1100 ≤ eb) (eb1 : eb ≤ 1100) (w : World) :
    Calls Tryz.prog 60 #[.agg (PartV.mk 2 sa ma ea).cells, .agg (PartV.mk 2 sb mb eb).cells] w fun e w' => e = .returned (.int .i64 (cellOf (Fl.Sr (sa != sb) (ma * mb) (ea + eb) false))) ∧ Touch [] w w' := by
  have hlt : ma * mb < 9007199254740992 * 9007199254740992 := by
    rcases Nat.eq_zero_or_pos mb with rfl | h0
    · simp
    · exact Nat.lt_of_lt_of_le (Nat.mul_lt_mul_of_pos_right ha h0) (Nat.mul_le_mul_left _ (by omega))
  have hM := fun W => umul_any ma mb (by omega) (by omega) W
  rw [pl_nat ma (by omega), pl_nat mb (by omega)] at hM
  have hR := fun W => rounded_all (sa != sb) false (ma * mb) (by omega) (.inl rfl) (ea + eb) (by omega) (by omega) W
  obtain ⟨r, hr⟩ : ∃ r, cellOf (Fl.Sr (sa != sb) (ma * mb) (ea + eb) false) = r := ⟨_, rfl⟩
  rw [hr] at hR ⊢
  obtain ⟨s, hs⟩ : ∃ s, (sa != sb) = s := ⟨_, rfl⟩
  rw [hs] at hR
  obtain ⟨n, hn⟩ : ∃ n, ma * mb = n := ⟨_, rfl⟩
  rw [hn] at hR hM
  obtain ⟨ia, hia⟩ : ∃ ia : Int, (ma : Int) = ia := ⟨_, rfl⟩
  obtain ⟨ib, hib⟩ : ∃ ib : Int, (mb : Int) = ib := ⟨_, rfl⟩
  unfold PartV.cells
  rw [hia, hib] at hM ⊢
  have h0a : 0 ≤ ia := by omega
  have h1a : ia < 9223372036854775808 := by omega
  have h0b : 0 ≤ ib := by omega
  have h1b : ib < 9223372036854775808 := by omega
  unfold two at hM hR
  clear hr hn hlt hia hib ha hb
  dsimp only
  go_enter Tryz.func60, Tryz.ntmps60
  go_upto_region 1 with (fail)
  have bA := (Blk.new w 106 #[.int .i64 2, .bool sa, .int .u64 ia, .int .i64 ea]).alloc (.cells #[.int .i64 2, .bool sb, .int .u64 ib, .int .i64 eb] 106)
  have bB := Blk.new_at (n := w.heap.size + 1) (w.alloc (.cells #[.int .i64 2, .bool sa, .int .u64 ia, .int .i64 ea] 106)) (by simp) 106 #[.int .i64 2, .bool sb, .int .u64 ib, .int .i64 eb]
  have tw := ((Touch.refl [] w).alloc (.cells #[.int .i64 2, .bool sa, .int .u64 ia, .int .i64 ea] 106)).alloc (.cells #[.int .i64 2, .bool sb, .int .u64 ib, .int .i64 eb] 106)
  generalize (w.alloc (.cells #[.int .i64 2, .bool sa, .int .u64 ia, .int .i64 ea] 106)).alloc (.cells #[.int .i64 2, .bool sb, .int .u64 ib, .int .i64 eb] 106) = wA at *
  have a0 := bA.cell 0
  have a1 := bA.cell 1
  have a2 := bA.cell 2
  have a3 := bA.cell 3
  have b0 := bB.cell 0
  have b1 := bB.cell 1
  have b2 := bB.cell 2
  have b3 := bB.cell 3
  have hc : ((ia == 0) = true ∨ (ia == 0) = false ∧ (ib == 0) = true ∨ (ia == 0) = false ∧ (ib == 0) = false) := by cases (ia == 0) <;> cases (ib == 0) <;> simp
  have TW := Lib.hid tw
  clear tw bA bB
  obtain ⟨nl, hnl⟩ : ∃ nl, pl n = nl := ⟨_, rfl⟩
  obtain ⟨nh, hnh⟩ : ∃ nh, ph n = nh := ⟨_, rfl⟩
  rw [hnl, hnh] at hM hR
  obtain ⟨z, hz⟩ : ∃ z, w.heap.size = z := ⟨_, rfl⟩
  rw [hz] at a0 a1 a2 a3 b0 b1 b2 b3 ⊢
  clear hnl hnh hz
  go_upto_region 2 with fail
  rw [show (!(sa == sb)) = s by rw [← hs]; cases sa <;> cases sb <;> rfl]
  clear hs
  go_cut [6] from 12 (fun s6 wx => wA = wx)
  case first =>
    rcases hc with hc | ⟨hc, hd⟩ | ⟨hc, hd⟩
    all_goals
      go_wp2_with fail
      go_meet
      rfl
  case rest =>
    obtain rfl := hcut
    clear hc
    go_upto_region 7 with fail
    have hsum : IntKind.i64.wrap (ea + eb) = ea + eb := by rw [IntKind.wrap_i64]; omega
    have hwa : IntKind.i64.wrap ia = ia := by rw [IntKind.wrap_i64]; omega
    have hwb : IntKind.i64.wrap ib = ib := by rw [IntKind.wrap_i64]; omega
    refine frame_any (fun g f => #[.agg #[.int .i64 2, .bool sa, .int .u64 ia, .int .i64 ea], .agg #[.int .i64 2, .bool sb, .int .u64 ib, .int .i64 eb], .pointer (some ⟨z, 0, none⟩), .pointer (some ⟨z + 1, 0, none⟩), f 4, .bool s, g 6, g 7, g 8, g 9, g 10, g 11, g 12, g 13, g 14, g 15, g 16, g 17, g 18, g 19, g 20, g 21, g 22, g 23, g 24, g 25, g 26, g 27, g 28, g 29, g 30, g 31, g 32, g 33, g 34, g 35, g 36, g 37, g 38, g 39, g 40, f 41, f 42, f 43, f 44, f 45, f 46, f 47, f 48, f 49, f 50, f 51, f 52, f 53, f 54]) rfl (fun g f => ?_)
    refine region_inv2 (fun listed a Wx => ∃ f : Nat → Value, a = { tmps := #[.agg #[.int .i64 2, .bool sa, .int .u64 ia, .int .i64 ea], .agg #[.int .i64 2, .bool sb, .int .u64 ib, .int .i64 eb], .pointer (some ⟨z, 0, none⟩), .pointer (some ⟨z + 1, 0, none⟩), f 4, .bool s, g 6, g 7, g 8, g 9, g 10, g 11, g 12, g 13, g 14, g 15, g 16, g 17, g 18, g 19, g 20, g 21, g 22, g 23, g 24, g 25, g 26, g 27, g 28, g 29, g 30, g 31, g 32, g 33, g 34, g 35, g 36, g 37, g 38, g 39, g 40, f 41, f 42, f 43, f 44, f 45, f 46, f 47, f 48, f 49, f 50, f 51, f 52, f 53, f 54], defers := [] } ∧ TabOk (tabMul z s ia ib ea eb nl nh r) listed f ∧ Touch [] wA Wx) (by kernel_rfl) (by kernel_rfl) ?h0 ?step ?fin
    case h0 =>
      intro listed hs hl
      exact ⟨f, rfl, fun x _ h => (by rw [hl] at h; cases h), (Touch.refl [] wA).drew⟩
    case step =>
      rintro listed a Wx ⟨f, rfl, hT, tq⟩ hC i o ho hli hdep
      try dsimp only
      have hi : i < 15 := (Array.getElem?_eq_some_iff.1 ho).1
      have a2 := cell_quiet tq a2
      have a3 := cell_quiet tq a3
      have b2 := cell_quiet tq b2
      have b3 := cell_quiet tq b3
      rcases (by omega : i = 0 ∨ i = 1 ∨ i = 2 ∨ i = 3 ∨ i = 4 ∨ i = 5 ∨ i = 6 ∨ i = 7 ∨ i = 8 ∨ i = 9 ∨ i = 10 ∨ i = 11 ∨ i = 12 ∨ i = 13 ∨ i = 14) with rfl | rfl | rfl | rfl | rfl | rfl | rfl | rfl | rfl | rfl | rfl | rfl | rfl | rfl | rfl
      · cases (show some _ = some o from ho)
        refine wpOp_of ho rfl ?_
        refine wp_value (v := .bool s) (w1 := Wx) ?_ ⟨_, rfl, hT.step (i := 0) (d := 41) (v := .bool s) (by intro x hx; simp only [tabMul, List.mem_cons, List.not_mem_nil, or_false] at hx; rcases hx with rfl | rfl | rfl | rfl | rfl | rfl | rfl | rfl | rfl | rfl | rfl | rfl | rfl | rfl | rfl <;> simp), tq⟩
        clear hdep hC hli ho hT
        first | (go_simp; done) | (go_simp; rfl)
      · cases (show some _ = some o from ho)
        refine wpOp_of ho rfl ?_
        refine wp_value (v := .pointer (some ⟨z, 2, none⟩)) (w1 := Wx) ?_ ⟨_, rfl, hT.step (i := 1) (d := 42) (v := .pointer (some ⟨z, 2, none⟩)) (by intro x hx; simp only [tabMul, List.mem_cons, List.not_mem_nil, or_false] at hx; rcases hx with rfl | rfl | rfl | rfl | rfl | rfl | rfl | rfl | rfl | rfl | rfl | rfl | rfl | rfl | rfl <;> simp), tq⟩
        clear hdep hC hli ho hT
        first | (go_simp; done) | (go_simp; rfl)
      · cases (show some _ = some o from ho)
        have g1 : f 42 = .pointer (some ⟨z, 2, none⟩) := hT (1, 42, .pointer (some ⟨z, 2, none⟩)) (by simp [tabMul]) (hdep { on := 1, ground := .data } (by simp) rfl)
        refine wpOp_of ho rfl ?_
        refine wp_value (v := .int .u64 ia) (w1 := Wx) ?_ ⟨_, rfl, hT.step (i := 2) (d := 43) (v := .int .u64 ia) (by intro x hx; simp only [tabMul, List.mem_cons, List.not_mem_nil, or_false] at hx; rcases hx with rfl | rfl | rfl | rfl | rfl | rfl | rfl | rfl | rfl | rfl | rfl | rfl | rfl | rfl | rfl <;> simp), tq⟩
        clear hdep hC hli ho hT
        first | (go_simp; done) | (go_simp; rfl)
      · cases (show some _ = some o from ho)
        have g2 : f 43 = .int .u64 ia := hT (2, 43, .int .u64 ia) (by simp [tabMul]) (hdep { on := 2, ground := .data } (by simp) rfl)
        refine wpOp_of ho rfl ?_
        refine wp_value (v := .int .i64 ia) (w1 := Wx) ?_ ⟨_, rfl, hT.step (i := 3) (d := 44) (v := .int .i64 ia) (by intro x hx; simp only [tabMul, List.mem_cons, List.not_mem_nil, or_false] at hx; rcases hx with rfl | rfl | rfl | rfl | rfl | rfl | rfl | rfl | rfl | rfl | rfl | rfl | rfl | rfl | rfl <;> simp), tq⟩
        clear hdep hC hli ho hT
        first | (go_simp; done) | (go_simp; rfl)
      · cases (show some _ = some o from ho)
        refine wpOp_of ho rfl ?_
        refine wp_value (v := .pointer (some ⟨z + 1, 2, none⟩)) (w1 := Wx) ?_ ⟨_, rfl, hT.step (i := 4) (d := 45) (v := .pointer (some ⟨z + 1, 2, none⟩)) (by intro x hx; simp only [tabMul, List.mem_cons, List.not_mem_nil, or_false] at hx; rcases hx with rfl | rfl | rfl | rfl | rfl | rfl | rfl | rfl | rfl | rfl | rfl | rfl | rfl | rfl | rfl <;> simp), tq⟩
        clear hdep hC hli ho hT
        first | (go_simp; done) | (go_simp; rfl)
      · cases (show some _ = some o from ho)
        have g4 : f 45 = .pointer (some ⟨z + 1, 2, none⟩) := hT (4, 45, .pointer (some ⟨z + 1, 2, none⟩)) (by simp [tabMul]) (hdep { on := 4, ground := .data } (by simp) rfl)
        refine wpOp_of ho rfl ?_
        refine wp_value (v := .int .u64 ib) (w1 := Wx) ?_ ⟨_, rfl, hT.step (i := 5) (d := 46) (v := .int .u64 ib) (by intro x hx; simp only [tabMul, List.mem_cons, List.not_mem_nil, or_false] at hx; rcases hx with rfl | rfl | rfl | rfl | rfl | rfl | rfl | rfl | rfl | rfl | rfl | rfl | rfl | rfl | rfl <;> simp), tq⟩
        clear hdep hC hli ho hT
        first | (go_simp; done) | (go_simp; rfl)
      · cases (show some _ = some o from ho)
        have g5 : f 46 = .int .u64 ib := hT (5, 46, .int .u64 ib) (by simp [tabMul]) (hdep { on := 5, ground := .data } (by simp) rfl)
        refine wpOp_of ho rfl ?_
        refine wp_value (v := .int .i64 ib) (w1 := Wx) ?_ ⟨_, rfl, hT.step (i := 6) (d := 47) (v := .int .i64 ib) (by intro x hx; simp only [tabMul, List.mem_cons, List.not_mem_nil, or_false] at hx; rcases hx with rfl | rfl | rfl | rfl | rfl | rfl | rfl | rfl | rfl | rfl | rfl | rfl | rfl | rfl | rfl <;> simp), tq⟩
        clear hdep hC hli ho hT
        first | (go_simp; done) | (go_simp; rfl)
      · cases (show some _ = some o from ho)
        have g3 : f 44 = .int .i64 ia := hT (3, 44, .int .i64 ia) (by simp [tabMul]) (hdep { on := 3, ground := .data } (by simp) rfl)
        have g6 : f 47 = .int .i64 ib := hT (6, 47, .int .i64 ib) (by simp [tabMul]) (hdep { on := 6, ground := .data } (by simp) rfl)
        refine wpOp_of ho rfl ?_
        refine wp_enter (f := 91) (args := #[.int .i64 ia, .int .i64 ib]) (w1 := Wx) ?_ ((hM Wx).mono ?_)
        · clear hdep hC hli ho hT
          first | (go_simp; done) | (go_simp; rfl)
        · rintro _ W1 ⟨rfl, t1⟩
          exact ⟨_, rfl, _, rfl, hT.step (i := 7) (d := 48) (v := .agg #[.int .i64 nl, .int .i64 nh]) (by intro x hx; simp only [tabMul, List.mem_cons, List.not_mem_nil, or_false] at hx; rcases hx with rfl | rfl | rfl | rfl | rfl | rfl | rfl | rfl | rfl | rfl | rfl | rfl | rfl | rfl | rfl <;> simp), tq.trans t1 (by simp)⟩
      · cases (show some _ = some o from ho)
        refine wpOp_of ho rfl ?_
        refine wp_value (v := .pointer (some ⟨z, 3, none⟩)) (w1 := Wx) ?_ ⟨_, rfl, hT.step (i := 8) (d := 49) (v := .pointer (some ⟨z, 3, none⟩)) (by intro x hx; simp only [tabMul, List.mem_cons, List.not_mem_nil, or_false] at hx; rcases hx with rfl | rfl | rfl | rfl | rfl | rfl | rfl | rfl | rfl | rfl | rfl | rfl | rfl | rfl | rfl <;> simp), tq⟩
        clear hdep hC hli ho hT
        first | (go_simp; done) | (go_simp; rfl)
      · cases (show some _ = some o from ho)
        have g8 : f 49 = .pointer (some ⟨z, 3, none⟩) := hT (8, 49, .pointer (some ⟨z, 3, none⟩)) (by simp [tabMul]) (hdep { on := 8, ground := .data } (by simp) rfl)
        refine wpOp_of ho rfl ?_
        refine wp_value (v := .int .i64 ea) (w1 := Wx) ?_ ⟨_, rfl, hT.step (i := 9) (d := 50) (v := .int .i64 ea) (by intro x hx; simp only [tabMul, List.mem_cons, List.not_mem_nil, or_false] at hx; rcases hx with rfl | rfl | rfl | rfl | rfl | rfl | rfl | rfl | rfl | rfl | rfl | rfl | rfl | rfl | rfl <;> simp), tq⟩
        clear hdep hC hli ho hT
        first | (go_simp; done) | (go_simp; rfl)
      · cases (show some _ = some o from ho)
        refine wpOp_of ho rfl ?_
        refine wp_value (v := .pointer (some ⟨z + 1, 3, none⟩)) (w1 := Wx) ?_ ⟨_, rfl, hT.step (i := 10) (d := 51) (v := .pointer (some ⟨z + 1, 3, none⟩)) (by intro x hx; simp only [tabMul, List.mem_cons, List.not_mem_nil, or_false] at hx; rcases hx with rfl | rfl | rfl | rfl | rfl | rfl | rfl | rfl | rfl | rfl | rfl | rfl | rfl | rfl | rfl <;> simp), tq⟩
        clear hdep hC hli ho hT
        first | (go_simp; done) | (go_simp; rfl)
      · cases (show some _ = some o from ho)
        have g10 : f 51 = .pointer (some ⟨z + 1, 3, none⟩) := hT (10, 51, .pointer (some ⟨z + 1, 3, none⟩)) (by simp [tabMul]) (hdep { on := 10, ground := .data } (by simp) rfl)
        refine wpOp_of ho rfl ?_
        refine wp_value (v := .int .i64 eb) (w1 := Wx) ?_ ⟨_, rfl, hT.step (i := 11) (d := 52) (v := .int .i64 eb) (by intro x hx; simp only [tabMul, List.mem_cons, List.not_mem_nil, or_false] at hx; rcases hx with rfl | rfl | rfl | rfl | rfl | rfl | rfl | rfl | rfl | rfl | rfl | rfl | rfl | rfl | rfl <;> simp), tq⟩
        clear hdep hC hli ho hT
        first | (go_simp; done) | (go_simp; rfl)
      · cases (show some _ = some o from ho)
        have g9 : f 50 = .int .i64 ea := hT (9, 50, .int .i64 ea) (by simp [tabMul]) (hdep { on := 9, ground := .data } (by simp) rfl)
        have g11 : f 52 = .int .i64 eb := hT (11, 52, .int .i64 eb) (by simp [tabMul]) (hdep { on := 11, ground := .data } (by simp) rfl)
        refine wpOp_of ho rfl ?_
        refine wp_value (v := .int .i64 (ea + eb)) (w1 := Wx) ?_ ⟨_, rfl, hT.step (i := 12) (d := 53) (v := .int .i64 (ea + eb)) (by intro x hx; simp only [tabMul, List.mem_cons, List.not_mem_nil, or_false] at hx; rcases hx with rfl | rfl | rfl | rfl | rfl | rfl | rfl | rfl | rfl | rfl | rfl | rfl | rfl | rfl | rfl <;> simp), tq⟩
        clear hdep hC hli ho hT
        first | (go_simp; done) | (go_simp; rfl)
      · cases (show some _ = some o from ho)
        have g0 : f 41 = .bool s := hT (0, 41, .bool s) (by simp [tabMul]) (hdep { on := 0, ground := .data } (by simp) rfl)
        have g7 : f 48 = .agg #[.int .i64 nl, .int .i64 nh] := hT (7, 48, .agg #[.int .i64 nl, .int .i64 nh]) (by simp [tabMul]) (hdep { on := 7, ground := .data } (by simp) rfl)
        have g12 : f 53 = .int .i64 (ea + eb) := hT (12, 53, .int .i64 (ea + eb)) (by simp [tabMul]) (hdep { on := 12, ground := .data } (by simp) rfl)
        refine wpOp_of ho rfl ?_
        refine wp_enter (f := 90) (args := #[.bool s, .agg #[.int .i64 nl, .int .i64 nh], .int .i64 (ea + eb), .bool false]) (w1 := Wx) ?_ ((hR Wx).mono ?_)
        · clear hdep hC hli ho hT
          first | (go_simp; done) | (go_simp; rfl)
        · rintro _ W1 ⟨rfl, t1⟩
          exact ⟨_, rfl, _, rfl, hT.step (i := 13) (d := 54) (v := .int .i64 r) (by intro x hx; simp only [tabMul, List.mem_cons, List.not_mem_nil, or_false] at hx; rcases hx with rfl | rfl | rfl | rfl | rfl | rfl | rfl | rfl | rfl | rfl | rfl | rfl | rfl | rfl | rfl <;> simp), tq.trans t1 (by simp)⟩
      · cases (show some _ = some o from ho)
        have g13 : f 54 = .int .i64 r := hT (13, 54, .int .i64 r) (by simp [tabMul]) (hdep { on := 13, ground := .data } (by simp) rfl)
        refine wpOp_of ho rfl ?_
        refine wp_value (v := .int .i64 r) (w1 := Wx) ?_ ⟨_, rfl, hT.step (i := 14) (d := 4) (v := .int .i64 r) (by intro x hx; simp only [tabMul, List.mem_cons, List.not_mem_nil, or_false] at hx; rcases hx with rfl | rfl | rfl | rfl | rfl | rfl | rfl | rfl | rfl | rfl | rfl | rfl | rfl | rfl | rfl <;> simp), tq⟩
        clear hdep hC hli ho hT
        first | (go_simp; done) | (go_simp; rfl)
    case fin =>
      rintro listed a Wx hl ⟨f, rfl, hT, tq⟩
      have e41 : f 41 = .bool s := hT (0, 41, .bool s) (by simp [tabMul]) (hl 0 (by decide))
      have e42 : f 42 = .pointer (some ⟨z, 2, none⟩) := hT (1, 42, .pointer (some ⟨z, 2, none⟩)) (by simp [tabMul]) (hl 1 (by decide))
      have e43 : f 43 = .int .u64 ia := hT (2, 43, .int .u64 ia) (by simp [tabMul]) (hl 2 (by decide))
      have e44 : f 44 = .int .i64 ia := hT (3, 44, .int .i64 ia) (by simp [tabMul]) (hl 3 (by decide))
      have e45 : f 45 = .pointer (some ⟨z + 1, 2, none⟩) := hT (4, 45, .pointer (some ⟨z + 1, 2, none⟩)) (by simp [tabMul]) (hl 4 (by decide))
      have e46 : f 46 = .int .u64 ib := hT (5, 46, .int .u64 ib) (by simp [tabMul]) (hl 5 (by decide))
      have e47 : f 47 = .int .i64 ib := hT (6, 47, .int .i64 ib) (by simp [tabMul]) (hl 6 (by decide))
      have e48 : f 48 = .agg #[.int .i64 nl, .int .i64 nh] := hT (7, 48, .agg #[.int .i64 nl, .int .i64 nh]) (by simp [tabMul]) (hl 7 (by decide))
      have e49 : f 49 = .pointer (some ⟨z, 3, none⟩) := hT (8, 49, .pointer (some ⟨z, 3, none⟩)) (by simp [tabMul]) (hl 8 (by decide))
      have e50 : f 50 = .int .i64 ea := hT (9, 50, .int .i64 ea) (by simp [tabMul]) (hl 9 (by decide))
      have e51 : f 51 = .pointer (some ⟨z + 1, 3, none⟩) := hT (10, 51, .pointer (some ⟨z + 1, 3, none⟩)) (by simp [tabMul]) (hl 10 (by decide))
      have e52 : f 52 = .int .i64 eb := hT (11, 52, .int .i64 eb) (by simp [tabMul]) (hl 11 (by decide))
      have e53 : f 53 = .int .i64 (ea + eb) := hT (12, 53, .int .i64 (ea + eb)) (by simp [tabMul]) (hl 12 (by decide))
      have e54 : f 54 = .int .i64 r := hT (13, 54, .int .i64 r) (by simp [tabMul]) (hl 13 (by decide))
      have e4 : f 4 = .int .i64 r := hT (14, 4, .int .i64 r) (by simp [tabMul]) (hl 14 (by decide))
      have TQ := Lib.hid tq
      clear hT hl tq hM hR
      rw [e41, e42, e43, e44, e45, e46, e47, e48, e49, e50, e51, e52, e53, e54, e4]
      clear e41 e42 e43 e44 e45 e46 e47 e48 e49 e50 e51 e52 e53 e54 e4
      go_wp2_with fail
      go_ret
      exact ⟨rfl, TW.out.trans TQ.out (by simp)⟩
end Rn
end Go.Proofs.YtkbchpaofmlhgaaGreatDoor

/- rhytonref04's sum, product, quotient of what has no end, or by none. -/
namespace Go.Proofs.YtkbchpaofmlhgaaGreatDoor
open Go.RowKit
namespace Rn

set_option maxHeartbeats 1600000 in
theorem prod_no_a (sa sb : Bool) (ma : Int) (ea eb : Int)  (w : World) :
    Calls Tryz.prog 60 #[.agg (PartV.mk 1 sa ma ea).cells, .agg (PartV.mk 2 sb 0 eb).cells] w fun e w' => e = .returned (.int .i64 (9221120237041090560)) ∧ Touch [] w w' := by
  unfold PartV.cells
  dsimp only
  go_enter Tryz.func60, Tryz.ntmps60
  go_upto_region 1 with (fail)
  have bA := (Blk.new w 106 #[.int .i64 1, .bool sa, .int .u64 ma, .int .i64 ea]).alloc (.cells #[.int .i64 2, .bool sb, .int .u64 0, .int .i64 eb] 106)
  have bB := Blk.new_at (n := w.heap.size + 1) (w.alloc (.cells #[.int .i64 1, .bool sa, .int .u64 ma, .int .i64 ea] 106)) (by simp) 106 #[.int .i64 2, .bool sb, .int .u64 0, .int .i64 eb]
  have tw := ((Touch.refl [] w).alloc (.cells #[.int .i64 1, .bool sa, .int .u64 ma, .int .i64 ea] 106)).alloc (.cells #[.int .i64 2, .bool sb, .int .u64 0, .int .i64 eb] 106)
  generalize (w.alloc (.cells #[.int .i64 1, .bool sa, .int .u64 ma, .int .i64 ea] 106)).alloc (.cells #[.int .i64 2, .bool sb, .int .u64 0, .int .i64 eb] 106) = wA at *
  have a0 := bA.cell 0
  have a1 := bA.cell 1
  have a2 := bA.cell 2
  have a3 := bA.cell 3
  have b0 := bB.cell 0
  have b1 := bB.cell 1
  have b2 := bB.cell 2
  have b3 := bB.cell 3
  have TW := Lib.hid tw
  clear tw bA bB
  rcases sa with _ | _ <;> rcases sb with _ | _
  all_goals
    go_wp2_with fail
    go_ret
    exact ⟨rfl, TW.out⟩
set_option maxHeartbeats 1600000 in
theorem prod_no_b (sa sb : Bool) (mb : Int) (ea eb : Int)  (w : World) :
    Calls Tryz.prog 60 #[.agg (PartV.mk 2 sa 0 ea).cells, .agg (PartV.mk 1 sb mb eb).cells] w fun e w' => e = .returned (.int .i64 (9221120237041090560)) ∧ Touch [] w w' := by
  unfold PartV.cells
  dsimp only
  go_enter Tryz.func60, Tryz.ntmps60
  go_upto_region 1 with (fail)
  have bA := (Blk.new w 106 #[.int .i64 2, .bool sa, .int .u64 0, .int .i64 ea]).alloc (.cells #[.int .i64 1, .bool sb, .int .u64 mb, .int .i64 eb] 106)
  have bB := Blk.new_at (n := w.heap.size + 1) (w.alloc (.cells #[.int .i64 2, .bool sa, .int .u64 0, .int .i64 ea] 106)) (by simp) 106 #[.int .i64 1, .bool sb, .int .u64 mb, .int .i64 eb]
  have tw := ((Touch.refl [] w).alloc (.cells #[.int .i64 2, .bool sa, .int .u64 0, .int .i64 ea] 106)).alloc (.cells #[.int .i64 1, .bool sb, .int .u64 mb, .int .i64 eb] 106)
  generalize (w.alloc (.cells #[.int .i64 2, .bool sa, .int .u64 0, .int .i64 ea] 106)).alloc (.cells #[.int .i64 1, .bool sb, .int .u64 mb, .int .i64 eb] 106) = wA at *
  have a0 := bA.cell 0
  have a1 := bA.cell 1
  have a2 := bA.cell 2
  have a3 := bA.cell 3
  have b0 := bB.cell 0
  have b1 := bB.cell 1
  have b2 := bB.cell 2
  have b3 := bB.cell 3
  have TW := Lib.hid tw
  clear tw bA bB
  rcases sa with _ | _ <;> rcases sb with _ | _
  all_goals
    go_wp2_with fail
    go_ret
    exact ⟨rfl, TW.out⟩
set_option maxHeartbeats 1600000 in
theorem prod_inf_a (sa sb : Bool) (ma mb : Int) (ea eb : Int) (h : (mb == 0) = false) (w : World) :
    Calls Tryz.prog 60 #[.agg (PartV.mk 1 sa ma ea).cells, .agg (PartV.mk 2 sb mb eb).cells] w fun e w' => e = .returned (.int .i64 (cellOf (Ieee.double.word (sa != sb) 9218868437227405312))) ∧ Touch [] w w' := by
  have hC := fun s W => infR_any s W
  unfold PartV.cells
  dsimp only
  go_enter Tryz.func60, Tryz.ntmps60
  go_upto_region 1 with (fail)
  have bA := (Blk.new w 106 #[.int .i64 1, .bool sa, .int .u64 ma, .int .i64 ea]).alloc (.cells #[.int .i64 2, .bool sb, .int .u64 mb, .int .i64 eb] 106)
  have bB := Blk.new_at (n := w.heap.size + 1) (w.alloc (.cells #[.int .i64 1, .bool sa, .int .u64 ma, .int .i64 ea] 106)) (by simp) 106 #[.int .i64 2, .bool sb, .int .u64 mb, .int .i64 eb]
  have tw := ((Touch.refl [] w).alloc (.cells #[.int .i64 1, .bool sa, .int .u64 ma, .int .i64 ea] 106)).alloc (.cells #[.int .i64 2, .bool sb, .int .u64 mb, .int .i64 eb] 106)
  generalize (w.alloc (.cells #[.int .i64 1, .bool sa, .int .u64 ma, .int .i64 ea] 106)).alloc (.cells #[.int .i64 2, .bool sb, .int .u64 mb, .int .i64 eb] 106) = wA at *
  have a0 := bA.cell 0
  have a1 := bA.cell 1
  have a2 := bA.cell 2
  have a3 := bA.cell 3
  have b0 := bB.cell 0
  have b1 := bB.cell 1
  have b2 := bB.cell 2
  have b3 := bB.cell 3
  have TW := Lib.hid tw
  clear tw bA bB
  rcases sa with _ | _ <;> rcases sb with _ | _
  all_goals
    go_wp2_with fail
    refine (hC _ _).mono ?_
    rintro _ _ ⟨rfl, rfl⟩
    go_wp2_with fail
    go_ret
    exact ⟨rfl, TW.out⟩
set_option maxHeartbeats 1600000 in
theorem prod_inf_b (sa sb : Bool) (ma mb : Int) (ea eb : Int) (h : (ma == 0) = false) (w : World) :
    Calls Tryz.prog 60 #[.agg (PartV.mk 2 sa ma ea).cells, .agg (PartV.mk 1 sb mb eb).cells] w fun e w' => e = .returned (.int .i64 (cellOf (Ieee.double.word (sa != sb) 9218868437227405312))) ∧ Touch [] w w' := by
  have hC := fun s W => infR_any s W
  unfold PartV.cells
  dsimp only
  go_enter Tryz.func60, Tryz.ntmps60
  go_upto_region 1 with (fail)
  have bA := (Blk.new w 106 #[.int .i64 2, .bool sa, .int .u64 ma, .int .i64 ea]).alloc (.cells #[.int .i64 1, .bool sb, .int .u64 mb, .int .i64 eb] 106)
  have bB := Blk.new_at (n := w.heap.size + 1) (w.alloc (.cells #[.int .i64 2, .bool sa, .int .u64 ma, .int .i64 ea] 106)) (by simp) 106 #[.int .i64 1, .bool sb, .int .u64 mb, .int .i64 eb]
  have tw := ((Touch.refl [] w).alloc (.cells #[.int .i64 2, .bool sa, .int .u64 ma, .int .i64 ea] 106)).alloc (.cells #[.int .i64 1, .bool sb, .int .u64 mb, .int .i64 eb] 106)
  generalize (w.alloc (.cells #[.int .i64 2, .bool sa, .int .u64 ma, .int .i64 ea] 106)).alloc (.cells #[.int .i64 1, .bool sb, .int .u64 mb, .int .i64 eb] 106) = wA at *
  have a0 := bA.cell 0
  have a1 := bA.cell 1
  have a2 := bA.cell 2
  have a3 := bA.cell 3
  have b0 := bB.cell 0
  have b1 := bB.cell 1
  have b2 := bB.cell 2
  have b3 := bB.cell 3
  have TW := Lib.hid tw
  clear tw bA bB
  rcases sa with _ | _ <;> rcases sb with _ | _
  all_goals
    go_wp2_with fail
    refine (hC _ _).mono ?_
    rintro _ _ ⟨rfl, rfl⟩
    go_wp2_with fail
    go_ret
    exact ⟨rfl, TW.out⟩
set_option maxHeartbeats 1600000 in
theorem prod_inf_ab (sa sb : Bool) (ma mb : Int) (ea eb : Int)  (w : World) :
    Calls Tryz.prog 60 #[.agg (PartV.mk 1 sa ma ea).cells, .agg (PartV.mk 1 sb mb eb).cells] w fun e w' => e = .returned (.int .i64 (cellOf (Ieee.double.word (sa != sb) 9218868437227405312))) ∧ Touch [] w w' := by
  have hC := fun s W => infR_any s W
  unfold PartV.cells
  dsimp only
  go_enter Tryz.func60, Tryz.ntmps60
  go_upto_region 1 with (fail)
  have bA := (Blk.new w 106 #[.int .i64 1, .bool sa, .int .u64 ma, .int .i64 ea]).alloc (.cells #[.int .i64 1, .bool sb, .int .u64 mb, .int .i64 eb] 106)
  have bB := Blk.new_at (n := w.heap.size + 1) (w.alloc (.cells #[.int .i64 1, .bool sa, .int .u64 ma, .int .i64 ea] 106)) (by simp) 106 #[.int .i64 1, .bool sb, .int .u64 mb, .int .i64 eb]
  have tw := ((Touch.refl [] w).alloc (.cells #[.int .i64 1, .bool sa, .int .u64 ma, .int .i64 ea] 106)).alloc (.cells #[.int .i64 1, .bool sb, .int .u64 mb, .int .i64 eb] 106)
  generalize (w.alloc (.cells #[.int .i64 1, .bool sa, .int .u64 ma, .int .i64 ea] 106)).alloc (.cells #[.int .i64 1, .bool sb, .int .u64 mb, .int .i64 eb] 106) = wA at *
  have a0 := bA.cell 0
  have a1 := bA.cell 1
  have a2 := bA.cell 2
  have a3 := bA.cell 3
  have b0 := bB.cell 0
  have b1 := bB.cell 1
  have b2 := bB.cell 2
  have b3 := bB.cell 3
  have TW := Lib.hid tw
  clear tw bA bB
  rcases sa with _ | _ <;> rcases sb with _ | _
  all_goals
    go_wp2_with fail
    refine (hC _ _).mono ?_
    rintro _ _ ⟨rfl, rfl⟩
    go_wp2_with fail
    go_ret
    exact ⟨rfl, TW.out⟩
set_option maxHeartbeats 1600000 in
theorem quo_no_inf (sa sb : Bool) (ma mb : Int) (ea eb : Int)  (w : World) :
    Calls Tryz.prog 61 #[.agg (PartV.mk 1 sa ma ea).cells, .agg (PartV.mk 1 sb mb eb).cells] w fun e w' => e = .returned (.int .i64 (9221120237041090560)) ∧ Touch [] w w' := by
  unfold PartV.cells
  dsimp only
  go_enter Tryz.func61, Tryz.ntmps61
  go_upto_region 1 with (fail)
  have bA := (Blk.new w 106 #[.int .i64 1, .bool sa, .int .u64 ma, .int .i64 ea]).alloc (.cells #[.int .i64 1, .bool sb, .int .u64 mb, .int .i64 eb] 106)
  have bB := Blk.new_at (n := w.heap.size + 1) (w.alloc (.cells #[.int .i64 1, .bool sa, .int .u64 ma, .int .i64 ea] 106)) (by simp) 106 #[.int .i64 1, .bool sb, .int .u64 mb, .int .i64 eb]
  have tw := ((Touch.refl [] w).alloc (.cells #[.int .i64 1, .bool sa, .int .u64 ma, .int .i64 ea] 106)).alloc (.cells #[.int .i64 1, .bool sb, .int .u64 mb, .int .i64 eb] 106)
  generalize (w.alloc (.cells #[.int .i64 1, .bool sa, .int .u64 ma, .int .i64 ea] 106)).alloc (.cells #[.int .i64 1, .bool sb, .int .u64 mb, .int .i64 eb] 106) = wA at *
  have a0 := bA.cell 0
  have a1 := bA.cell 1
  have a2 := bA.cell 2
  have a3 := bA.cell 3
  have b0 := bB.cell 0
  have b1 := bB.cell 1
  have b2 := bB.cell 2
  have b3 := bB.cell 3
  have TW := Lib.hid tw
  clear tw bA bB
  rcases sa with _ | _ <;> rcases sb with _ | _
  all_goals
    go_wp2_with fail
    go_ret
    exact ⟨rfl, TW.out⟩
set_option maxHeartbeats 1600000 in
theorem quo_no_zero (sa sb : Bool) (ea eb : Int)  (w : World) :
    Calls Tryz.prog 61 #[.agg (PartV.mk 2 sa 0 ea).cells, .agg (PartV.mk 2 sb 0 eb).cells] w fun e w' => e = .returned (.int .i64 (9221120237041090560)) ∧ Touch [] w w' := by
  unfold PartV.cells
  dsimp only
  go_enter Tryz.func61, Tryz.ntmps61
  go_upto_region 1 with (fail)
  have bA := (Blk.new w 106 #[.int .i64 2, .bool sa, .int .u64 0, .int .i64 ea]).alloc (.cells #[.int .i64 2, .bool sb, .int .u64 0, .int .i64 eb] 106)
  have bB := Blk.new_at (n := w.heap.size + 1) (w.alloc (.cells #[.int .i64 2, .bool sa, .int .u64 0, .int .i64 ea] 106)) (by simp) 106 #[.int .i64 2, .bool sb, .int .u64 0, .int .i64 eb]
  have tw := ((Touch.refl [] w).alloc (.cells #[.int .i64 2, .bool sa, .int .u64 0, .int .i64 ea] 106)).alloc (.cells #[.int .i64 2, .bool sb, .int .u64 0, .int .i64 eb] 106)
  generalize (w.alloc (.cells #[.int .i64 2, .bool sa, .int .u64 0, .int .i64 ea] 106)).alloc (.cells #[.int .i64 2, .bool sb, .int .u64 0, .int .i64 eb] 106) = wA at *
  have a0 := bA.cell 0
  have a1 := bA.cell 1
  have a2 := bA.cell 2
  have a3 := bA.cell 3
  have b0 := bB.cell 0
  have b1 := bB.cell 1
  have b2 := bB.cell 2
  have b3 := bB.cell 3
  have TW := Lib.hid tw
  clear tw bA bB
  rcases sa with _ | _ <;> rcases sb with _ | _
  all_goals
    go_wp2_with fail
    go_ret
    exact ⟨rfl, TW.out⟩
set_option maxHeartbeats 1600000 in
theorem quo_inf (sa sb : Bool) (ma mb : Int) (ea eb : Int) (h : (mb == 0) = false) (w : World) :
    Calls Tryz.prog 61 #[.agg (PartV.mk 1 sa ma ea).cells, .agg (PartV.mk 2 sb mb eb).cells] w fun e w' => e = .returned (.int .i64 (cellOf (Ieee.double.word (sa != sb) 9218868437227405312))) ∧ Touch [] w w' := by
  have hC := fun s W => infR_any s W
  unfold PartV.cells
  dsimp only
  go_enter Tryz.func61, Tryz.ntmps61
  go_upto_region 1 with (fail)
  have bA := (Blk.new w 106 #[.int .i64 1, .bool sa, .int .u64 ma, .int .i64 ea]).alloc (.cells #[.int .i64 2, .bool sb, .int .u64 mb, .int .i64 eb] 106)
  have bB := Blk.new_at (n := w.heap.size + 1) (w.alloc (.cells #[.int .i64 1, .bool sa, .int .u64 ma, .int .i64 ea] 106)) (by simp) 106 #[.int .i64 2, .bool sb, .int .u64 mb, .int .i64 eb]
  have tw := ((Touch.refl [] w).alloc (.cells #[.int .i64 1, .bool sa, .int .u64 ma, .int .i64 ea] 106)).alloc (.cells #[.int .i64 2, .bool sb, .int .u64 mb, .int .i64 eb] 106)
  generalize (w.alloc (.cells #[.int .i64 1, .bool sa, .int .u64 ma, .int .i64 ea] 106)).alloc (.cells #[.int .i64 2, .bool sb, .int .u64 mb, .int .i64 eb] 106) = wA at *
  have a0 := bA.cell 0
  have a1 := bA.cell 1
  have a2 := bA.cell 2
  have a3 := bA.cell 3
  have b0 := bB.cell 0
  have b1 := bB.cell 1
  have b2 := bB.cell 2
  have b3 := bB.cell 3
  have TW := Lib.hid tw
  clear tw bA bB
  rcases sa with _ | _ <;> rcases sb with _ | _
  all_goals
    go_wp2_with fail
    refine (hC _ _).mono ?_
    rintro _ _ ⟨rfl, rfl⟩
    go_wp2_with fail
    go_ret
    exact ⟨rfl, TW.out⟩
set_option maxHeartbeats 1600000 in
theorem quo_inf0 (sa sb : Bool) (ma : Int) (ea eb : Int)  (w : World) :
    Calls Tryz.prog 61 #[.agg (PartV.mk 1 sa ma ea).cells, .agg (PartV.mk 2 sb 0 eb).cells] w fun e w' => e = .returned (.int .i64 (cellOf (Ieee.double.word (sa != sb) 9218868437227405312))) ∧ Touch [] w w' := by
  have hC := fun s W => infR_any s W
  unfold PartV.cells
  dsimp only
  go_enter Tryz.func61, Tryz.ntmps61
  go_upto_region 1 with (fail)
  have bA := (Blk.new w 106 #[.int .i64 1, .bool sa, .int .u64 ma, .int .i64 ea]).alloc (.cells #[.int .i64 2, .bool sb, .int .u64 0, .int .i64 eb] 106)
  have bB := Blk.new_at (n := w.heap.size + 1) (w.alloc (.cells #[.int .i64 1, .bool sa, .int .u64 ma, .int .i64 ea] 106)) (by simp) 106 #[.int .i64 2, .bool sb, .int .u64 0, .int .i64 eb]
  have tw := ((Touch.refl [] w).alloc (.cells #[.int .i64 1, .bool sa, .int .u64 ma, .int .i64 ea] 106)).alloc (.cells #[.int .i64 2, .bool sb, .int .u64 0, .int .i64 eb] 106)
  generalize (w.alloc (.cells #[.int .i64 1, .bool sa, .int .u64 ma, .int .i64 ea] 106)).alloc (.cells #[.int .i64 2, .bool sb, .int .u64 0, .int .i64 eb] 106) = wA at *
  have a0 := bA.cell 0
  have a1 := bA.cell 1
  have a2 := bA.cell 2
  have a3 := bA.cell 3
  have b0 := bB.cell 0
  have b1 := bB.cell 1
  have b2 := bB.cell 2
  have b3 := bB.cell 3
  have TW := Lib.hid tw
  clear tw bA bB
  rcases sa with _ | _ <;> rcases sb with _ | _
  all_goals
    go_wp2_with fail
    refine (hC _ _).mono ?_
    rintro _ _ ⟨rfl, rfl⟩
    go_wp2_with fail
    go_ret
    exact ⟨rfl, TW.out⟩
set_option maxHeartbeats 1600000 in
theorem quo_by_zero (sa sb : Bool) (ma : Int) (ea eb : Int) (h : (ma == 0) = false) (w : World) :
    Calls Tryz.prog 61 #[.agg (PartV.mk 2 sa ma ea).cells, .agg (PartV.mk 2 sb 0 eb).cells] w fun e w' => e = .returned (.int .i64 (cellOf (Ieee.double.word (sa != sb) 9218868437227405312))) ∧ Touch [] w w' := by
  have hC := fun s W => infR_any s W
  unfold PartV.cells
  dsimp only
  go_enter Tryz.func61, Tryz.ntmps61
  go_upto_region 1 with (fail)
  have bA := (Blk.new w 106 #[.int .i64 2, .bool sa, .int .u64 ma, .int .i64 ea]).alloc (.cells #[.int .i64 2, .bool sb, .int .u64 0, .int .i64 eb] 106)
  have bB := Blk.new_at (n := w.heap.size + 1) (w.alloc (.cells #[.int .i64 2, .bool sa, .int .u64 ma, .int .i64 ea] 106)) (by simp) 106 #[.int .i64 2, .bool sb, .int .u64 0, .int .i64 eb]
  have tw := ((Touch.refl [] w).alloc (.cells #[.int .i64 2, .bool sa, .int .u64 ma, .int .i64 ea] 106)).alloc (.cells #[.int .i64 2, .bool sb, .int .u64 0, .int .i64 eb] 106)
  generalize (w.alloc (.cells #[.int .i64 2, .bool sa, .int .u64 ma, .int .i64 ea] 106)).alloc (.cells #[.int .i64 2, .bool sb, .int .u64 0, .int .i64 eb] 106) = wA at *
  have a0 := bA.cell 0
  have a1 := bA.cell 1
  have a2 := bA.cell 2
  have a3 := bA.cell 3
  have b0 := bB.cell 0
  have b1 := bB.cell 1
  have b2 := bB.cell 2
  have b3 := bB.cell 3
  have TW := Lib.hid tw
  clear tw bA bB
  rcases sa with _ | _ <;> rcases sb with _ | _
  all_goals
    go_wp2_with fail
    refine (hC _ _).mono ?_
    rintro _ _ ⟨rfl, rfl⟩
    go_wp2_with fail
    go_ret
    exact ⟨rfl, TW.out⟩
set_option maxHeartbeats 1600000 in
theorem quo_by_inf (sa sb : Bool) (ma mb : Int) (ea eb : Int)  (w : World) :
    Calls Tryz.prog 61 #[.agg (PartV.mk 2 sa ma ea).cells, .agg (PartV.mk 1 sb mb eb).cells] w fun e w' => e = .returned (.int .i64 (cellOf (Ieee.double.word (sa != sb) 0))) ∧ Touch [] w w' := by
  have hC := fun s W => signedR_any s 0 (by omega) W
  unfold PartV.cells
  dsimp only
  go_enter Tryz.func61, Tryz.ntmps61
  go_upto_region 1 with (fail)
  have bA := (Blk.new w 106 #[.int .i64 2, .bool sa, .int .u64 ma, .int .i64 ea]).alloc (.cells #[.int .i64 1, .bool sb, .int .u64 mb, .int .i64 eb] 106)
  have bB := Blk.new_at (n := w.heap.size + 1) (w.alloc (.cells #[.int .i64 2, .bool sa, .int .u64 ma, .int .i64 ea] 106)) (by simp) 106 #[.int .i64 1, .bool sb, .int .u64 mb, .int .i64 eb]
  have tw := ((Touch.refl [] w).alloc (.cells #[.int .i64 2, .bool sa, .int .u64 ma, .int .i64 ea] 106)).alloc (.cells #[.int .i64 1, .bool sb, .int .u64 mb, .int .i64 eb] 106)
  generalize (w.alloc (.cells #[.int .i64 2, .bool sa, .int .u64 ma, .int .i64 ea] 106)).alloc (.cells #[.int .i64 1, .bool sb, .int .u64 mb, .int .i64 eb] 106) = wA at *
  have a0 := bA.cell 0
  have a1 := bA.cell 1
  have a2 := bA.cell 2
  have a3 := bA.cell 3
  have b0 := bB.cell 0
  have b1 := bB.cell 1
  have b2 := bB.cell 2
  have b3 := bB.cell 3
  have TW := Lib.hid tw
  clear tw bA bB
  rcases sa with _ | _ <;> rcases sb with _ | _
  all_goals
    go_wp2_with fail
    refine (hC _ _).mono ?_
    rintro _ _ ⟨rfl, rfl⟩
    go_wp2_with fail
    go_ret
    exact ⟨rfl, TW.out⟩
set_option maxHeartbeats 1600000 in
theorem sum_inf_a (sa sb : Bool) (ma mb : Int) (ea eb : Int)  (w : World) :
    Calls Tryz.prog 59 #[.agg (PartV.mk 1 sa ma ea).cells, .agg (PartV.mk 2 sb mb eb).cells] w fun e w' => e = .returned (.int .i64 (cellOf (Ieee.double.word (sa) 9218868437227405312))) ∧ Touch [] w w' := by
  have hC := fun s W => infR_any s W
  unfold PartV.cells
  dsimp only
  go_enter Tryz.func59, Tryz.ntmps59
  go_upto_region 1 with (fail)
  have bA := (Blk.new w 106 #[.int .i64 1, .bool sa, .int .u64 ma, .int .i64 ea]).alloc (.cells #[.int .i64 2, .bool sb, .int .u64 mb, .int .i64 eb] 106)
  have bB := Blk.new_at (n := w.heap.size + 1) (w.alloc (.cells #[.int .i64 1, .bool sa, .int .u64 ma, .int .i64 ea] 106)) (by simp) 106 #[.int .i64 2, .bool sb, .int .u64 mb, .int .i64 eb]
  have tw := ((Touch.refl [] w).alloc (.cells #[.int .i64 1, .bool sa, .int .u64 ma, .int .i64 ea] 106)).alloc (.cells #[.int .i64 2, .bool sb, .int .u64 mb, .int .i64 eb] 106)
  generalize (w.alloc (.cells #[.int .i64 1, .bool sa, .int .u64 ma, .int .i64 ea] 106)).alloc (.cells #[.int .i64 2, .bool sb, .int .u64 mb, .int .i64 eb] 106) = wA at *
  have a0 := bA.cell 0
  have a1 := bA.cell 1
  have a2 := bA.cell 2
  have a3 := bA.cell 3
  have b0 := bB.cell 0
  have b1 := bB.cell 1
  have b2 := bB.cell 2
  have b3 := bB.cell 3
  have TW := Lib.hid tw
  clear tw bA bB
  rcases sa with _ | _ <;> rcases sb with _ | _
  all_goals
    go_wp2_with fail
    refine (hC _ _).mono ?_
    rintro _ _ ⟨rfl, rfl⟩
    go_wp2_with fail
    go_ret
    exact ⟨rfl, TW.out⟩
set_option maxHeartbeats 1600000 in
theorem sum_inf_b (sa sb : Bool) (ma mb : Int) (ea eb : Int)  (w : World) :
    Calls Tryz.prog 59 #[.agg (PartV.mk 2 sa ma ea).cells, .agg (PartV.mk 1 sb mb eb).cells] w fun e w' => e = .returned (.int .i64 (cellOf (Ieee.double.word (sb) 9218868437227405312))) ∧ Touch [] w w' := by
  have hC := fun s W => infR_any s W
  unfold PartV.cells
  dsimp only
  go_enter Tryz.func59, Tryz.ntmps59
  go_upto_region 1 with (fail)
  have bA := (Blk.new w 106 #[.int .i64 2, .bool sa, .int .u64 ma, .int .i64 ea]).alloc (.cells #[.int .i64 1, .bool sb, .int .u64 mb, .int .i64 eb] 106)
  have bB := Blk.new_at (n := w.heap.size + 1) (w.alloc (.cells #[.int .i64 2, .bool sa, .int .u64 ma, .int .i64 ea] 106)) (by simp) 106 #[.int .i64 1, .bool sb, .int .u64 mb, .int .i64 eb]
  have tw := ((Touch.refl [] w).alloc (.cells #[.int .i64 2, .bool sa, .int .u64 ma, .int .i64 ea] 106)).alloc (.cells #[.int .i64 1, .bool sb, .int .u64 mb, .int .i64 eb] 106)
  generalize (w.alloc (.cells #[.int .i64 2, .bool sa, .int .u64 ma, .int .i64 ea] 106)).alloc (.cells #[.int .i64 1, .bool sb, .int .u64 mb, .int .i64 eb] 106) = wA at *
  have a0 := bA.cell 0
  have a1 := bA.cell 1
  have a2 := bA.cell 2
  have a3 := bA.cell 3
  have b0 := bB.cell 0
  have b1 := bB.cell 1
  have b2 := bB.cell 2
  have b3 := bB.cell 3
  have TW := Lib.hid tw
  clear tw bA bB
  rcases sa with _ | _ <;> rcases sb with _ | _
  all_goals
    go_wp2_with fail
    refine (hC _ _).mono ?_
    rintro _ _ ⟨rfl, rfl⟩
    go_wp2_with fail
    go_ret
    exact ⟨rfl, TW.out⟩
set_option maxHeartbeats 1600000 in
theorem sum_inf_ab (sa sb : Bool) (ma mb : Int) (ea eb : Int) (w : World) :
    Calls Tryz.prog 59 #[.agg (PartV.mk 1 sa ma ea).cells, .agg (PartV.mk 1 sb mb eb).cells] w fun e w' => e = .returned (.int .i64 (if sa = sb then cellOf (Ieee.double.word sa 9218868437227405312) else 9221120237041090560)) ∧ Touch [] w w' := by
  have hC := fun s W => infR_any s W
  unfold PartV.cells
  dsimp only
  go_enter Tryz.func59, Tryz.ntmps59
  go_upto_region 1 with (fail)
  have bA := (Blk.new w 106 #[.int .i64 1, .bool sa, .int .u64 ma, .int .i64 ea]).alloc (.cells #[.int .i64 1, .bool sb, .int .u64 mb, .int .i64 eb] 106)
  have bB := Blk.new_at (n := w.heap.size + 1) (w.alloc (.cells #[.int .i64 1, .bool sa, .int .u64 ma, .int .i64 ea] 106)) (by simp) 106 #[.int .i64 1, .bool sb, .int .u64 mb, .int .i64 eb]
  have tw := ((Touch.refl [] w).alloc (.cells #[.int .i64 1, .bool sa, .int .u64 ma, .int .i64 ea] 106)).alloc (.cells #[.int .i64 1, .bool sb, .int .u64 mb, .int .i64 eb] 106)
  generalize (w.alloc (.cells #[.int .i64 1, .bool sa, .int .u64 ma, .int .i64 ea] 106)).alloc (.cells #[.int .i64 1, .bool sb, .int .u64 mb, .int .i64 eb] 106) = wA at *
  have a0 := bA.cell 0
  have a1 := bA.cell 1
  have a2 := bA.cell 2
  have a3 := bA.cell 3
  have b0 := bB.cell 0
  have b1 := bB.cell 1
  have b2 := bB.cell 2
  have b3 := bB.cell 3
  have TW := Lib.hid tw
  clear tw bA bB
  rcases sa with _ | _ <;> rcases sb with _ | _
  all_goals
    go_wp2_with fail
    try
      refine (hC _ _).mono ?_
      rintro _ _ ⟨rfl, rfl⟩
      go_wp2_with fail
    go_ret
    exact ⟨rfl, TW.out⟩
end Rn
end Go.Proofs.YtkbchpaofmlhgaaGreatDoor

/- rhytonref04's quotient, of what is finite. -/
namespace Go.Proofs.YtkbchpaofmlhgaaGreatDoor
open Go.RowKit
namespace Rn

theorem quo_parts (A D : Nat) (hD0 : 0 < D) : A % D * 18446744073709551616 / D < 18446744073709551616 ∧ A * 18446744073709551616 / D = A / D * 18446744073709551616 + A % D * 18446744073709551616 / D ∧ A * 18446744073709551616 % D = A % D * 18446744073709551616 % D := by
  have h := Nat.mod_lt A hD0
  have e : A * 18446744073709551616 = D * (A / D * 18446744073709551616) + A % D * 18446744073709551616 := by
    rw [← Nat.mul_assoc, ← Nat.add_mul, Nat.div_add_mod]
  refine ⟨Nat.div_lt_of_lt_mul (Nat.mul_lt_mul_of_pos_right h (by omega)), ?_, ?_⟩
  · rw [e, Nat.mul_add_div hD0]
  · rw [e, Nat.mul_add_mod]

theorem two_of (h q : Nat) (hh : h < 9223372036854775808) (hq : q < 18446744073709551616) : two (h * 18446744073709551616 + q) = #[.int .i64 (pl q), .int .i64 (h : Int)] := by
  have e1 : (h * 18446744073709551616 + q) % 18446744073709551616 = q := by omega
  have e2 : (h * 18446744073709551616 + q) / 18446744073709551616 = h := by omega
  have e3 : pl (h * 18446744073709551616 + q) = pl q := by unfold pl; rw [e1, Nat.mod_eq_of_lt hq]
  have e4 : ph (h * 18446744073709551616 + q) = (h : Int) := by unfold ph cellOf; rw [e2, Nat.mod_eq_of_lt (by omega), if_pos hh]
  unfold two
  rw [e3, e4]
theorem two_top (h : Nat) (hh : h < 9223372036854775808) : two (h * 18446744073709551616) = #[.int .i64 0, .int .i64 (h : Int)] := by
  have e1 : h * 18446744073709551616 % 18446744073709551616 = 0 := by omega
  have e2 : h * 18446744073709551616 / 18446744073709551616 = h := by omega
  have e3 : pl (h * 18446744073709551616) = 0 := by unfold pl; rw [e1]; decide
  have e4 : ph (h * 18446744073709551616) = (h : Int) := by unfold ph cellOf; rw [e2, Nat.mod_eq_of_lt (by omega), if_pos hh]
  unfold two
  rw [e3, e4]
theorem quo_big0 (A D P Q : Nat) (h : P * D ≤ A * Q) (hD0 : 0 < D) : P ≤ A * Q / D := (Nat.le_div_iff_mul_le hD0).2 h
theorem quo_big (A D : Nat) (hA : 4503599627370496 ≤ A) (hD0 : 0 < D) (hD : D < 9007199254740992) : 9007199254740992 ≤ A * 18446744073709551616 / D :=
  quo_big0 A D _ _ (by omega) hD0
theorem quo_lt (A D : Nat) (hA : A < 9007199254740992) : A * 18446744073709551616 / D < 42535295865117307932921825928971026432 := Nat.lt_of_le_of_lt (Nat.div_le_self _ _) (by omega)
theorem quo_lt2 (A D : Nat) (hD0 : 0 < D) (hD : D < 9007199254740992) : A % D * 18446744073709551616 < 340282366920938463463374607431768211456 ∧ A % D < 9007199254740992 := by
  have h1 : A % D < D := Nat.mod_lt _ hD0
  generalize A % D = r at *
  omega
theorem quo_rem (A D : Nat) (hD0 : 0 < D) (hD : D < 9007199254740992) : pl (A % D) = ((A % D : Nat) : Int) := pl_nat _ (by have := Nat.mod_lt A hD0; omega)
theorem ne_dec (a b : Nat) (h : b = a) : ((a : Int) != 0) = decide (b ≠ 0) := by
  subst h
  rw [Bool.eq_iff_iff, bne_iff_ne, decide_eq_true_eq]
  omega
set_option maxRecDepth 100000 in
theorem quo_more (A D : Nat) (hA : A < 9007199254740992) (hD0 : 4503599627370496 ≤ D) (hD : D < 9007199254740992) (h0 : A = 0 ∨ 4503599627370496 ≤ A) :
    (A * 18446744073709551616 / D < 42535295865117307932921825928971026432) ∧ (A = 0 ∨ 9007199254740992 ≤ A * 18446744073709551616 / D) ∧ two (A % D * 18446744073709551616) = #[.int .i64 0, .int .i64 ((A % D : Nat) : Int)] ∧
      two (A * 18446744073709551616 / D) = #[.int .i64 (pl (A % D * 18446744073709551616 / D)), .int .i64 ((A / D : Nat) : Int)] ∧ pl (A % D * 18446744073709551616 % D) = ((A % D * 18446744073709551616 % D : Nat) : Int) ∧
      (((A % D * 18446744073709551616 % D : Nat) : Int) != 0) = decide (A * 18446744073709551616 % D ≠ 0) ∧ A % D < 9007199254740992 ∧ A / D < 9007199254740992 ∧ A % D * 18446744073709551616 < 340282366920938463463374607431768211456 := by
  have hp : 0 < D := by omega
  obtain ⟨p1, p2, p3⟩ := quo_parts A D hp
  refine ⟨quo_lt A D hA, h0.imp id (fun h => quo_big A D h hp hD), two_top _ (Nat.lt_trans (quo_lt2 A D hp hD).2 (by decide)), ?_, quo_rem _ D hp hD, ne_dec _ _ p3, (quo_lt2 A D hp hD).2, Nat.lt_of_le_of_lt (Nat.div_le_self _ _) hA, (quo_lt2 A D hp hD).1⟩
  rw [p2]
  exact two_of _ _ (Nat.lt_of_le_of_lt (Nat.div_le_self _ _) (Nat.lt_trans hA (by decide))) p1
def tabQ1 (z : Nat) (iA D rm lf q : Int) : List (Nat × Nat × Value) := [(0, 85, .pointer (some ⟨z, 2, none⟩)), (1, 86, .int .u64 iA), (2, 87, .pointer (some ⟨z + 1, 2, none⟩)), (3, 88, .int .u64 D), (4, 89, .int .u64 rm), (5, 90, .int .i64 rm), (6, 91, .agg #[.int .i64 0, .int .i64 rm]), (7, 92, .pointer (some ⟨z + 1, 2, none⟩)), (8, 93, .int .u64 D), (9, 94, .int .i64 D), (10, 95, .tuple #[.int .i64 lf, .int .i64 q, .int .i64 0]), (11, 84, .tuple #[.int .i64 lf, .int .i64 q, .int .i64 0]), (12, 96, .int .i64 lf), (13, 97, .int .i64 q), (14, 98, .int .i64 0), (15, 7, .int .i64 lf), (16, 8, .int .i64 q), (17, 9, .int .i64 0)]
def tabQ2 (z : Nat) (s more : Bool) (iA D qh lf q y x r : Int) : List (Nat × Nat × Value) := [(0, 99, .bool s), (1, 100, .int .i64 q), (2, 101, .pointer (some ⟨z, 2, none⟩)), (3, 102, .int .u64 iA), (4, 103, .pointer (some ⟨z + 1, 2, none⟩)), (5, 104, .int .u64 D), (6, 105, .int .u64 qh), (7, 106, .int .i64 qh), (8, 107, .agg #[.int .i64 q, .int .i64 qh]), (9, 108, .pointer (some ⟨z, 3, none⟩)), (10, 109, .int .i64 y), (11, 110, .pointer (some ⟨z + 1, 3, none⟩)), (12, 111, .int .i64 x), (13, 112, .int .i64 (y - x)), (14, 113, .int .i64 (y - x - 64)), (15, 114, .int .i64 lf), (16, 115, .bool more), (17, 116, .int .i64 r), (18, 4, .int .i64 r)]
/-- the quotient: both made as long as they may be, one divided by the other, so many bits, and whether something is left -/
def QuoIs (s : Bool) (ma mb : Nat) (ea eb v : Int) : Prop := ∃ j k : Nat, (4503599627370496 ≤ mb * 2 ^ j ∧ mb * 2 ^ j < 9007199254740992) ∧ (ma = 0 ∧ k = 0 ∨ 4503599627370496 ≤ ma * 2 ^ k ∧ ma * 2 ^ k < 9007199254740992) ∧
  v = cellOf (Fl.Sr s (ma * 2 ^ k * 18446744073709551616 / (mb * 2 ^ j)) (ea - k - (eb - j) - 64) (decide (ma * 2 ^ k * 18446744073709551616 % (mb * 2 ^ j) ≠ 0)))
set_option maxRecDepth 100000 in
set_option maxHeartbeats 3200000 in
theorem quotient_fin (sa sb : Bool) (ma mb : Nat) (ea eb : Int) (ha : ma < 9007199254740992) (hb0 : 0 < mb) (hb : mb < 9007199254740992) (ea0 : -1100 ≤ ea) (ea1 : ea ≤ 1100) (eb0 : -1100 ≤ eb) (eb1 : eb ≤ 1100) (w : World) :
    Calls Tryz.prog 61 #[.agg (PartV.mk 2 sa ma ea).cells, .agg (PartV.mk 2 sb mb eb).cells] w fun e w' => ∃ v, QuoIs (sa != sb) ma mb ea eb v ∧ e = .returned (.int .i64 v) ∧ Touch [] w w' := by
  obtain ⟨s, hs⟩ : ∃ s, (sa != sb) = s := ⟨_, rfl⟩
  rw [hs]
  obtain ⟨ia, hia⟩ : ∃ ia : Int, (ma : Int) = ia := ⟨_, rfl⟩
  obtain ⟨ib, hib⟩ : ∃ ib : Int, (mb : Int) = ib := ⟨_, rfl⟩
  have HA := Lib.hid (And.intro hia (And.intro hib (And.intro ha (And.intro hb0 hb))))
  have ib0 : (ib == 0) = false := by rw [beq_eq_false_iff_ne]; omega
  unfold PartV.cells
  rw [hia, hib]
  clear hia hib ha hb0 hb
  dsimp only
  go_enter Tryz.func61, Tryz.ntmps61
  go_upto_region 1 with (fail)
  have bA := (Blk.new w 106 #[.int .i64 2, .bool sa, .int .u64 ia, .int .i64 ea]).alloc (.cells #[.int .i64 2, .bool sb, .int .u64 ib, .int .i64 eb] 106)
  have bB := Blk.new_at (n := w.heap.size + 1) (w.alloc (.cells #[.int .i64 2, .bool sa, .int .u64 ia, .int .i64 ea] 106)) (by simp) 106 #[.int .i64 2, .bool sb, .int .u64 ib, .int .i64 eb]
  have tw := ((Touch.refl [] w).alloc (.cells #[.int .i64 2, .bool sa, .int .u64 ia, .int .i64 ea] 106)).alloc (.cells #[.int .i64 2, .bool sb, .int .u64 ib, .int .i64 eb] 106)
  generalize (w.alloc (.cells #[.int .i64 2, .bool sa, .int .u64 ia, .int .i64 ea] 106)).alloc (.cells #[.int .i64 2, .bool sb, .int .u64 ib, .int .i64 eb] 106) = wA at *
  have a0 := bA.cell 0
  have a1 := bA.cell 1
  have a2 := bA.cell 2
  have a3 := bA.cell 3
  have b0 := bB.cell 0
  have b1 := bB.cell 1
  have b2 := bB.cell 2
  have b3 := bB.cell 3
  obtain ⟨z, hz⟩ : ∃ z, w.heap.size = z := ⟨_, rfl⟩
  rw [hz] at bA bB a0 a1 a2 a3 b0 b1 b2 b3 ⊢
  have TW := Lib.hid (And.intro tw (Nat.le_of_eq hz))
  clear tw hz
  have hc : ((ia == 0) = true ∨ (ia == 0) = false) := by cases (ia == 0) <;> simp
  go_upto_region 2 with fail
  rw [show (!(sa == sb)) = s by rw [← hs]; cases sa <;> cases sb <;> rfl]
  clear hs hc
  go_wp2_with fail
  clear a0 a1 a2 a3 b0 b1 b2 b3
  -- the divisor
  go_loopg [] 53 (fun gf wr => ∃ (M j : Nat) (x : Int), Hid (M = mb * 2 ^ j ∧ x = eb - j) ∧ gf + j = 53 ∧ M < 9007199254740992 ∧ -1160 ≤ x ∧ x ≤ 1100 ∧ 2 ^ j ≤ M ∧ Blk wr z 106 (#[.int .i64 2, .bool sa, .int .u64 ia, .int .i64 ea]) ∧ Blk wr (z + 1) 106 (#[.int .i64 2, .bool sb, .int .u64 (M : Int), .int .i64 x]) ∧ Touch [] w wr)
  case atStart => exact ⟨mb, 0, eb, ⟨by simp, by simp⟩, by omega, HA.out.2.2.2.2, by omega, by omega, HA.out.2.2.2.1, bA, by rw [HA.out.2.1]; exact bB, TW.out.1⟩
  case round =>
    obtain ⟨M, j, x, HJ, hg, hM, hx0, hx1, hj2, cA, cB, tw⟩ := hrel
    have a0 := cA.cell 0
    have a2 := cA.cell 2
    have a3 := cA.cell 3
    have b0 := cB.cell 0
    have b2 := cB.cell 2
    have b3 := cB.cell 3
    have f2 := cB.frozen 2
    have f3 := cB.frozen 3
    by_cases hlt : M < 4503599627370496
    · have hi : (M : Int) < 4503599627370496 := by omega
      have hj : j < 52 := by
        rcases Nat.lt_or_ge j 52 with h | h
        · exact h
        · have : (2 : Nat) ^ 52 ≤ 2 ^ j := Nat.pow_le_pow_right (by decide) h
          omega
      have hJ2 : M * 2 = mb * 2 ^ (j + 1) ∧ x - 1 = eb - ((j + 1 : Nat) : Int) := by
        obtain ⟨h1, h2⟩ := (show M = mb * 2 ^ j ∧ x = eb - j from HJ)
        refine ⟨by rw [Nat.pow_succ, ← Nat.mul_assoc, ← h1], by omega⟩
      have hp2 : 2 ^ (j + 1) ≤ M * 2 := by rw [Nat.pow_succ]; omega
      have hxj : -1160 ≤ x - 1 := by have := (show M = mb * 2 ^ j ∧ x = eb - j from HJ).2; omega
      have HJ2 := Lib.hid (And.intro hJ2 hp2)
      clear hJ2 hp2 HJ hj2
      go_wp2_with fail
      go_roundg (gk - 1)
      case measure => omega
      case rel =>
        refine ⟨M * 2, j + 1, x - 1, HJ2.out.1, by omega, by omega, hxj, by omega, HJ2.out.2, (cA.far (p := ⟨z + 1, 2, none⟩) (by simp) _).far (p := ⟨z + 1, 3, none⟩) (by simp) _, ?_, (tw.setCell (.inr (by have := TW.out.2; simp; omega)) _).setCell (.inr (by have := TW.out.2; simp; omega)) _⟩
        have := (cB.set_ 2 (.int .u64 ((M : Int) * 2))).set_ 3 (.int .i64 (x - 1))
        rw [show ((M * 2 : Nat) : Int) = (M : Int) * 2 by omega]
        exact this
    · have hi : ¬ (M : Int) < 4503599627370496 := by omega
      have HJ1 := Lib.hid (And.intro (show M = mb * 2 ^ j ∧ x = eb - j from HJ) (And.intro hlt hM))
      clear HJ hg hj2 a0 a3 b0 b3 f2 f3
      go_wp2_with fail
      -- what is divided
      clear a2 b2
      go_loopg [] 53 (fun gf wr => ∃ (A k : Nat) (y : Int), Hid (A = ma * 2 ^ k ∧ y = ea - k ∧ (ma = 0 → k = 0)) ∧ gf + k = 53 ∧ A < 9007199254740992 ∧ -1160 ≤ y ∧ y ≤ 1100 ∧ (0 < ma → 2 ^ k ≤ A) ∧ Blk wr z 106 (#[.int .i64 2, .bool sa, .int .u64 (A : Int), .int .i64 y]) ∧ Blk wr (z + 1) 106 (#[.int .i64 2, .bool sb, .int .u64 (M : Int), .int .i64 x]) ∧ Touch [] w wr)
      case atStart => exact ⟨ma, 0, ea, ⟨by simp, by simp, fun _ => rfl⟩, by omega, HA.out.2.2.1, by omega, by omega, fun h => (show 1 ≤ ma from h), by rw [HA.out.1]; exact cA, cB, tw⟩
      case round =>
        clear cA cB tw
        obtain ⟨A, k, y, HK, hg, hA, hy0, hy1, hk2, cA, cB, tw⟩ := hrel
        have a0 := cA.cell 0
        have a2 := cA.cell 2
        have a3 := cA.cell 3
        have b0 := cB.cell 0
        have b2 := cB.cell 2
        have b3 := cB.cell 3
        have f2 := cA.frozen 2
        have f3 := cA.frozen 3
        by_cases hlt : A ≠ 0 ∧ A < 4503599627370496
        · have hn : ((A : Int) != 0) = true := by simp; omega
          have hi : (A : Int) < 4503599627370496 := by omega
          have hma : 0 < ma := by
            rcases Nat.eq_zero_or_pos ma with h | h
            · have := (show A = ma * 2 ^ k ∧ y = ea - k ∧ (ma = 0 → k = 0) from HK).1
              rw [h, Nat.zero_mul] at this
              omega
            · exact h
          have hk := hk2 hma
          have hkl : k < 52 := by
            rcases Nat.lt_or_ge k 52 with h | h
            · exact h
            · have : (2 : Nat) ^ 52 ≤ 2 ^ k := Nat.pow_le_pow_right (by decide) h
              omega
          have hK2 : A * 2 = ma * 2 ^ (k + 1) ∧ y - 1 = ea - ((k + 1 : Nat) : Int) ∧ (ma = 0 → k + 1 = 0) := by
            obtain ⟨h1, h2, h3⟩ := (show A = ma * 2 ^ k ∧ y = ea - k ∧ (ma = 0 → k = 0) from HK)
            refine ⟨by rw [Nat.pow_succ, ← Nat.mul_assoc, ← h1], by omega, fun h => by omega⟩
          have hp2 : 2 ^ (k + 1) ≤ A * 2 := by rw [Nat.pow_succ]; omega
          have hyj : -1160 ≤ y - 1 := by have := (show A = ma * 2 ^ k ∧ y = ea - k ∧ (ma = 0 → k = 0) from HK).2.1; omega
          have HK2 := Lib.hid (And.intro hK2 hp2)
          clear hK2 hp2 HK hk2 hk hma hlt
          go_wp2_with fail
          go_roundg (gk - 1)
          case measure => omega
          case rel =>
            refine ⟨A * 2, k + 1, y - 1, HK2.out.1, by omega, by omega, hyj, by omega, fun _ => HK2.out.2, ?_, (cB.far (p := ⟨z, 2, none⟩) (by simp) _).far (p := ⟨z, 3, none⟩) (by simp) _, (tw.setCell (.inr (by have := TW.out.2; simp; omega)) _).setCell (.inr (by have := TW.out.2; simp; omega)) _⟩
            have := (cA.set_ 2 (.int .u64 ((A : Int) * 2))).set_ 3 (.int .i64 (y - 1))
            rw [show ((A * 2 : Nat) : Int) = (A : Int) * 2 by omega]
            exact this
        · have hD0 : 4503599627370496 ≤ M := by have := HJ1.out.2.1; omega
          obtain ⟨hN, hbig, e1, e2, e3, hmo0, hrl, hqd2, hn128⟩ := quo_more A M hA hD0 hM (by omega)
          have hU := fun W => udiv_any (A % M * 18446744073709551616) M hn128 (by omega) (by omega) (quo_parts A M (by omega)).1 W
          have hR := fun W => rounded_all s (decide (A * 18446744073709551616 % M ≠ 0)) (A * 18446744073709551616 / M) hN (by
            rcases hbig with h | h
            · left; rw [h]; simp
            · exact .inr h) (y - x - 64) (by omega) (by omega) W
          rw [e1, e3] at hU
          rw [e2] at hR
          obtain ⟨q, hq⟩ : ∃ q, pl (A % M * 18446744073709551616 / M) = q := ⟨_, rfl⟩
          rw [hq] at hU hR
          obtain ⟨r, hr⟩ : ∃ r, cellOf (Fl.Sr s (A * 18446744073709551616 / M) (y - x - 64) (decide (A * 18446744073709551616 % M ≠ 0))) = r := ⟨_, rfl⟩
          rw [hr] at hR
          obtain ⟨more, hmore⟩ : ∃ more, decide (A * 18446744073709551616 % M ≠ 0) = more := ⟨_, rfl⟩
          have HEND : Hid (ma = 0 ∧ k = 0 ∨ 4503599627370496 ≤ ma * 2 ^ k ∧ ma * 2 ^ k < 9007199254740992) := by
            obtain ⟨h1, h2, h3⟩ := (show A = ma * 2 ^ k ∧ y = ea - k ∧ (ma = 0 → k = 0) from HK)
            rw [← h1]
            rcases Nat.eq_zero_or_pos ma with h | h
            · exact .inl ⟨h, h3 h⟩
            · right
              have := hk2 h
              have := Nat.two_pow_pos k
              omega
          have HR2 : Hid (cellOf (Fl.Sr s (ma * 2 ^ k * 18446744073709551616 / (mb * 2 ^ j)) (ea - k - (eb - j) - 64) (decide (ma * 2 ^ k * 18446744073709551616 % (mb * 2 ^ j) ≠ 0))) = r) := by
            obtain ⟨h1, h2, h3⟩ := (show A = ma * 2 ^ k ∧ y = ea - k ∧ (ma = 0 → k = 0) from HK)
            obtain ⟨g1, g2⟩ := HJ1.out.1
            rw [← h1, ← g1, ← h2, ← g2]
            exact hr
          rw [hmore] at hR hmo0
          obtain ⟨rm, hrm⟩ : ∃ rm : Int, ((A % M : Nat) : Int) = rm := ⟨_, rfl⟩
          obtain ⟨qh, hqh⟩ : ∃ qh : Int, ((A / M : Nat) : Int) = qh := ⟨_, rfl⟩
          obtain ⟨lf, hlf⟩ : ∃ lf : Int, ((A % M * 18446744073709551616 % M : Nat) : Int) = lf := ⟨_, rfl⟩
          obtain ⟨iA, hiA⟩ : ∃ iA : Int, (A : Int) = iA := ⟨_, rfl⟩
          obtain ⟨D, hiD⟩ : ∃ D : Int, (M : Int) = D := ⟨_, rfl⟩
          have m1 : iA % D = rm := by rw [← hiA, ← hiD, ← hrm]; rfl
          have m2 : iA / D = qh := by rw [← hiA, ← hiD, ← hqh]; rfl
          rw [hrm, hlf, hiD] at hU
          rw [hqh] at hR
          rw [hlf] at hmo0
          rw [hiA] at a2
          rw [hiD] at b2
          have l1 : 0 ≤ iA := by omega
          have l2 : iA < 9007199254740992 := by omega
          have l3 : 0 < D := by omega
          have l4 : D < 9007199254740992 := by omega
          have l5 : 0 ≤ rm := by rw [← hrm]; exact Int.natCast_nonneg _
          have l6 : rm < 9007199254740992 := by rw [← hrm]; exact Int.ofNat_lt.2 hrl
          have l7 : 0 ≤ qh := by rw [← hqh]; exact Int.natCast_nonneg _
          have l8 : qh < 9007199254740992 := by rw [← hqh]; exact Int.ofNat_lt.2 hqd2
          have hD2 : ¬ D = 0 := by omega
          have W6 : IntKind.u64.wrap qh = qh := by rw [IntKind.wrap_u64]; omega
          have W7 : IntKind.u64.wrap rm = rm := by rw [IntKind.wrap_u64]; omega
          have hD1 : (D == 0) = false := by rw [beq_eq_false_iff_ne]; omega
          have hex : (iA != 0) = false ∨ (iA != 0) = true ∧ ¬ iA < 4503599627370496 := by
            by_cases h : iA = 0
            · left; simp [h]
            · right; refine ⟨by simpa using h, by omega⟩
          have W1 : IntKind.i64.wrap (y - x) = y - x := by rw [IntKind.wrap_i64]; omega
          have W2 : IntKind.i64.wrap (y - x - 64) = y - x - 64 := by rw [IntKind.wrap_i64]; omega
          have W3 : IntKind.i64.wrap rm = rm := by rw [IntKind.wrap_i64]; omega
          have W4 : IntKind.i64.wrap qh = qh := by rw [IntKind.wrap_i64]; omega
          have W5 : IntKind.i64.wrap D = D := by rw [IntKind.wrap_i64]; omega
          have T1 : iA.tmod D = rm := by rw [Int.tmod_eq_emod_of_nonneg l1]; exact m1
          have T2 : iA.tdiv D = qh := by rw [Int.tdiv_eq_ediv_of_nonneg l1]; exact m2
          have HT := Lib.hid tw
          have HM := Lib.hid (And.intro HJ1.out.2.1 HJ1.out.2.2)
          clear HK hk2 hlt hrl hN hbig e1 e2 e3 hqd2 hn128 hq hr hmore hrm hqh hlf hiA hiD cA cB tw f2 f3 a0 b0 hg hD0
          rcases hex with hex | ⟨hex, hex2⟩
          all_goals
            go_upto_region 15 with fail
            refine frame_any (fun g f => #[.agg #[.int .i64 2, .bool sa, .int .u64 ia, .int .i64 ea], .agg #[.int .i64 2, .bool sb, .int .u64 ib, .int .i64 eb], .pointer (some ⟨z, 0, none⟩), .pointer (some ⟨z + 1, 0, none⟩), g 4, .bool s, g 6, f 7, f 8, f 9, g 10, g 11, g 12, g 13, g 14, g 15, g 16, g 17, g 18, g 19, g 20, g 21, g 22, g 23, g 24, g 25, g 26, g 27, g 28, g 29, g 30, g 31, g 32, g 33, g 34, g 35, g 36, g 37, g 38, g 39, g 40, g 41, g 42, g 43, g 44, g 45, g 46, g 47, g 48, g 49, g 50, g 51, g 52, g 53, g 54, g 55, g 56, g 57, g 58, g 59, g 60, g 61, g 62, g 63, g 64, g 65, g 66, g 67, g 68, g 69, g 70, g 71, g 72, g 73, g 74, g 75, g 76, g 77, g 78, g 79, g 80, g 81, g 82, g 83, f 84, f 85, f 86, f 87, f 88, f 89, f 90, f 91, f 92, f 93, f 94, f 95, f 96, f 97, f 98, g 99, g 100, g 101, g 102, g 103, g 104, g 105, g 106, g 107, g 108, g 109, g 110, g 111, g 112, g 113, g 114, g 115, g 116]) rfl (fun g f => ?_)
            refine region_inv2 (fun listed a Wx => ∃ f : Nat → Value, a = { tmps := #[.agg #[.int .i64 2, .bool sa, .int .u64 ia, .int .i64 ea], .agg #[.int .i64 2, .bool sb, .int .u64 ib, .int .i64 eb], .pointer (some ⟨z, 0, none⟩), .pointer (some ⟨z + 1, 0, none⟩), g 4, .bool s, g 6, f 7, f 8, f 9, g 10, g 11, g 12, g 13, g 14, g 15, g 16, g 17, g 18, g 19, g 20, g 21, g 22, g 23, g 24, g 25, g 26, g 27, g 28, g 29, g 30, g 31, g 32, g 33, g 34, g 35, g 36, g 37, g 38, g 39, g 40, g 41, g 42, g 43, g 44, g 45, g 46, g 47, g 48, g 49, g 50, g 51, g 52, g 53, g 54, g 55, g 56, g 57, g 58, g 59, g 60, g 61, g 62, g 63, g 64, g 65, g 66, g 67, g 68, g 69, g 70, g 71, g 72, g 73, g 74, g 75, g 76, g 77, g 78, g 79, g 80, g 81, g 82, g 83, f 84, f 85, f 86, f 87, f 88, f 89, f 90, f 91, f 92, f 93, f 94, f 95, f 96, f 97, f 98, g 99, g 100, g 101, g 102, g 103, g 104, g 105, g 106, g 107, g 108, g 109, g 110, g 111, g 112, g 113, g 114, g 115, g 116], defers := [] } ∧ TabOk (tabQ1 z iA D rm lf q) listed f ∧ Touch [] wr Wx) (by kernel_rfl) (by kernel_rfl) ?h0 ?step ?fin
            case h0 =>
              intro listed hs hl
              exact ⟨f, rfl, fun x _ h => (by rw [hl] at h; cases h), (Touch.refl [] wr).drew⟩
            case step =>
              rintro listed a Wx ⟨f, rfl, hT, tq⟩ hC i o ho hli hdep
              try dsimp only
              have hi : i < 18 := (Array.getElem?_eq_some_iff.1 ho).1
              have a2 := cell_quiet tq a2
              have a3 := cell_quiet tq a3
              have b2 := cell_quiet tq b2
              have b3 := cell_quiet tq b3
              rcases (by omega : i = 0 ∨ i = 1 ∨ i = 2 ∨ i = 3 ∨ i = 4 ∨ i = 5 ∨ i = 6 ∨ i = 7 ∨ i = 8 ∨ i = 9 ∨ i = 10 ∨ i = 11 ∨ i = 12 ∨ i = 13 ∨ i = 14 ∨ i = 15 ∨ i = 16 ∨ i = 17) with rfl | rfl | rfl | rfl | rfl | rfl | rfl | rfl | rfl | rfl | rfl | rfl | rfl | rfl | rfl | rfl | rfl | rfl
              · cases (show some _ = some o from ho)
                refine wpOp_of ho rfl ?_
                refine wp_value (v := .pointer (some ⟨z, 2, none⟩)) (w1 := Wx) ?_ ⟨_, rfl, hT.step (i := 0) (d := 85) (v := .pointer (some ⟨z, 2, none⟩)) (by intro x hx; simp only [tabQ1, List.mem_cons, List.not_mem_nil, or_false] at hx; rcases hx with rfl | rfl | rfl | rfl | rfl | rfl | rfl | rfl | rfl | rfl | rfl | rfl | rfl | rfl | rfl | rfl | rfl | rfl <;> simp), tq⟩
                clear hdep hC hli ho hT
                first | (go_simp; done) | (go_simp; rfl)
              · cases (show some _ = some o from ho)
                have g0 : f 85 = .pointer (some ⟨z, 2, none⟩) := hT (0, 85, .pointer (some ⟨z, 2, none⟩)) (by simp [tabQ1]) (hdep { on := 0, ground := .data } (by simp) rfl)
                refine wpOp_of ho rfl ?_
                refine wp_value (v := .int .u64 iA) (w1 := Wx) ?_ ⟨_, rfl, hT.step (i := 1) (d := 86) (v := .int .u64 iA) (by intro x hx; simp only [tabQ1, List.mem_cons, List.not_mem_nil, or_false] at hx; rcases hx with rfl | rfl | rfl | rfl | rfl | rfl | rfl | rfl | rfl | rfl | rfl | rfl | rfl | rfl | rfl | rfl | rfl | rfl <;> simp), tq⟩
                clear hdep hC hli ho hT
                first | (go_simp; done) | (go_simp; rfl)
              · cases (show some _ = some o from ho)
                refine wpOp_of ho rfl ?_
                refine wp_value (v := .pointer (some ⟨z + 1, 2, none⟩)) (w1 := Wx) ?_ ⟨_, rfl, hT.step (i := 2) (d := 87) (v := .pointer (some ⟨z + 1, 2, none⟩)) (by intro x hx; simp only [tabQ1, List.mem_cons, List.not_mem_nil, or_false] at hx; rcases hx with rfl | rfl | rfl | rfl | rfl | rfl | rfl | rfl | rfl | rfl | rfl | rfl | rfl | rfl | rfl | rfl | rfl | rfl <;> simp), tq⟩
                clear hdep hC hli ho hT
                first | (go_simp; done) | (go_simp; rfl)
              · cases (show some _ = some o from ho)
                have g2 : f 87 = .pointer (some ⟨z + 1, 2, none⟩) := hT (2, 87, .pointer (some ⟨z + 1, 2, none⟩)) (by simp [tabQ1]) (hdep { on := 2, ground := .data } (by simp) rfl)
                refine wpOp_of ho rfl ?_
                refine wp_value (v := .int .u64 D) (w1 := Wx) ?_ ⟨_, rfl, hT.step (i := 3) (d := 88) (v := .int .u64 D) (by intro x hx; simp only [tabQ1, List.mem_cons, List.not_mem_nil, or_false] at hx; rcases hx with rfl | rfl | rfl | rfl | rfl | rfl | rfl | rfl | rfl | rfl | rfl | rfl | rfl | rfl | rfl | rfl | rfl | rfl <;> simp), tq⟩
                clear hdep hC hli ho hT
                first | (go_simp; done) | (go_simp; rfl)
              · cases (show some _ = some o from ho)
                have g1 : f 86 = .int .u64 iA := hT (1, 86, .int .u64 iA) (by simp [tabQ1]) (hdep { on := 1, ground := .data } (by simp) rfl)
                have g3 : f 88 = .int .u64 D := hT (3, 88, .int .u64 D) (by simp [tabQ1]) (hdep { on := 3, ground := .data } (by simp) rfl)
                refine wpOp_of ho rfl ?_
                refine wp_value (v := .int .u64 rm) (w1 := Wx) ?_ ⟨_, rfl, hT.step (i := 4) (d := 89) (v := .int .u64 rm) (by intro x hx; simp only [tabQ1, List.mem_cons, List.not_mem_nil, or_false] at hx; rcases hx with rfl | rfl | rfl | rfl | rfl | rfl | rfl | rfl | rfl | rfl | rfl | rfl | rfl | rfl | rfl | rfl | rfl | rfl <;> simp), tq⟩
                clear hdep hC hli ho hT
                first | (go_simp; done) | (go_simp; rfl)
              · cases (show some _ = some o from ho)
                have g4 : f 89 = .int .u64 rm := hT (4, 89, .int .u64 rm) (by simp [tabQ1]) (hdep { on := 4, ground := .data } (by simp) rfl)
                refine wpOp_of ho rfl ?_
                refine wp_value (v := .int .i64 rm) (w1 := Wx) ?_ ⟨_, rfl, hT.step (i := 5) (d := 90) (v := .int .i64 rm) (by intro x hx; simp only [tabQ1, List.mem_cons, List.not_mem_nil, or_false] at hx; rcases hx with rfl | rfl | rfl | rfl | rfl | rfl | rfl | rfl | rfl | rfl | rfl | rfl | rfl | rfl | rfl | rfl | rfl | rfl <;> simp), tq⟩
                clear hdep hC hli ho hT
                first | (go_simp; done) | (go_simp; rfl)
              · cases (show some _ = some o from ho)
                have g5 : f 90 = .int .i64 rm := hT (5, 90, .int .i64 rm) (by simp [tabQ1]) (hdep { on := 5, ground := .data } (by simp) rfl)
                refine wpOp_of ho rfl ?_
                refine wp_value (v := .agg #[.int .i64 0, .int .i64 rm]) (w1 := Wx) ?_ ⟨_, rfl, hT.step (i := 6) (d := 91) (v := .agg #[.int .i64 0, .int .i64 rm]) (by intro x hx; simp only [tabQ1, List.mem_cons, List.not_mem_nil, or_false] at hx; rcases hx with rfl | rfl | rfl | rfl | rfl | rfl | rfl | rfl | rfl | rfl | rfl | rfl | rfl | rfl | rfl | rfl | rfl | rfl <;> simp), tq⟩
                clear hdep hC hli ho hT
                first | (go_simp; done) | (go_simp; rfl)
              · cases (show some _ = some o from ho)
                refine wpOp_of ho rfl ?_
                refine wp_value (v := .pointer (some ⟨z + 1, 2, none⟩)) (w1 := Wx) ?_ ⟨_, rfl, hT.step (i := 7) (d := 92) (v := .pointer (some ⟨z + 1, 2, none⟩)) (by intro x hx; simp only [tabQ1, List.mem_cons, List.not_mem_nil, or_false] at hx; rcases hx with rfl | rfl | rfl | rfl | rfl | rfl | rfl | rfl | rfl | rfl | rfl | rfl | rfl | rfl | rfl | rfl | rfl | rfl <;> simp), tq⟩
                clear hdep hC hli ho hT
                first | (go_simp; done) | (go_simp; rfl)
              · cases (show some _ = some o from ho)
                have g7 : f 92 = .pointer (some ⟨z + 1, 2, none⟩) := hT (7, 92, .pointer (some ⟨z + 1, 2, none⟩)) (by simp [tabQ1]) (hdep { on := 7, ground := .data } (by simp) rfl)
                refine wpOp_of ho rfl ?_
                refine wp_value (v := .int .u64 D) (w1 := Wx) ?_ ⟨_, rfl, hT.step (i := 8) (d := 93) (v := .int .u64 D) (by intro x hx; simp only [tabQ1, List.mem_cons, List.not_mem_nil, or_false] at hx; rcases hx with rfl | rfl | rfl | rfl | rfl | rfl | rfl | rfl | rfl | rfl | rfl | rfl | rfl | rfl | rfl | rfl | rfl | rfl <;> simp), tq⟩
                clear hdep hC hli ho hT
                first | (go_simp; done) | (go_simp; rfl)
              · cases (show some _ = some o from ho)
                have g8 : f 93 = .int .u64 D := hT (8, 93, .int .u64 D) (by simp [tabQ1]) (hdep { on := 8, ground := .data } (by simp) rfl)
                refine wpOp_of ho rfl ?_
                refine wp_value (v := .int .i64 D) (w1 := Wx) ?_ ⟨_, rfl, hT.step (i := 9) (d := 94) (v := .int .i64 D) (by intro x hx; simp only [tabQ1, List.mem_cons, List.not_mem_nil, or_false] at hx; rcases hx with rfl | rfl | rfl | rfl | rfl | rfl | rfl | rfl | rfl | rfl | rfl | rfl | rfl | rfl | rfl | rfl | rfl | rfl <;> simp), tq⟩
                clear hdep hC hli ho hT
                first | (go_simp; done) | (go_simp; rfl)
              · cases (show some _ = some o from ho)
                have g6 : f 91 = .agg #[.int .i64 0, .int .i64 rm] := hT (6, 91, .agg #[.int .i64 0, .int .i64 rm]) (by simp [tabQ1]) (hdep { on := 6, ground := .data } (by simp) rfl)
                have g9 : f 94 = .int .i64 D := hT (9, 94, .int .i64 D) (by simp [tabQ1]) (hdep { on := 9, ground := .data } (by simp) rfl)
                refine wpOp_of ho rfl ?_
                refine wp_enter (f := 29) (args := #[.agg #[.int .i64 0, .int .i64 rm], .int .i64 D]) (w1 := Wx) ?_ ((hU Wx).mono ?_)
                · clear hdep hC hli ho hT
                  first | (go_simp; done) | (go_simp; rfl)
                · rintro _ W1 ⟨rfl, t1⟩
                  exact ⟨_, rfl, _, rfl, hT.step (i := 10) (d := 95) (v := .tuple #[.int .i64 lf, .int .i64 q, .int .i64 0]) (by intro x hx; simp only [tabQ1, List.mem_cons, List.not_mem_nil, or_false] at hx; rcases hx with rfl | rfl | rfl | rfl | rfl | rfl | rfl | rfl | rfl | rfl | rfl | rfl | rfl | rfl | rfl | rfl | rfl | rfl <;> simp), tq.trans t1 (by simp)⟩
              · cases (show some _ = some o from ho)
                have g10 : f 95 = .tuple #[.int .i64 lf, .int .i64 q, .int .i64 0] := hT (10, 95, .tuple #[.int .i64 lf, .int .i64 q, .int .i64 0]) (by simp [tabQ1]) (hdep { on := 10, ground := .data } (by simp) rfl)
                refine wpOp_of ho rfl ?_
                refine wp_value (v := .tuple #[.int .i64 lf, .int .i64 q, .int .i64 0]) (w1 := Wx) ?_ ⟨_, rfl, hT.step (i := 11) (d := 84) (v := .tuple #[.int .i64 lf, .int .i64 q, .int .i64 0]) (by intro x hx; simp only [tabQ1, List.mem_cons, List.not_mem_nil, or_false] at hx; rcases hx with rfl | rfl | rfl | rfl | rfl | rfl | rfl | rfl | rfl | rfl | rfl | rfl | rfl | rfl | rfl | rfl | rfl | rfl <;> simp), tq⟩
                clear hdep hC hli ho hT
                first | (go_simp; done) | (go_simp; rfl)
              · cases (show some _ = some o from ho)
                have g11 : f 84 = .tuple #[.int .i64 lf, .int .i64 q, .int .i64 0] := hT (11, 84, .tuple #[.int .i64 lf, .int .i64 q, .int .i64 0]) (by simp [tabQ1]) (hdep { on := 11, ground := .data } (by simp) rfl)
                refine wpOp_of ho rfl ?_
                refine wp_value (v := .int .i64 lf) (w1 := Wx) ?_ ⟨_, rfl, hT.step (i := 12) (d := 96) (v := .int .i64 lf) (by intro x hx; simp only [tabQ1, List.mem_cons, List.not_mem_nil, or_false] at hx; rcases hx with rfl | rfl | rfl | rfl | rfl | rfl | rfl | rfl | rfl | rfl | rfl | rfl | rfl | rfl | rfl | rfl | rfl | rfl <;> simp), tq⟩
                clear hdep hC hli ho hT
                first | (go_simp; done) | (go_simp; rfl)
              · cases (show some _ = some o from ho)
                have g11 : f 84 = .tuple #[.int .i64 lf, .int .i64 q, .int .i64 0] := hT (11, 84, .tuple #[.int .i64 lf, .int .i64 q, .int .i64 0]) (by simp [tabQ1]) (hdep { on := 11, ground := .data } (by simp) rfl)
                refine wpOp_of ho rfl ?_
                refine wp_value (v := .int .i64 q) (w1 := Wx) ?_ ⟨_, rfl, hT.step (i := 13) (d := 97) (v := .int .i64 q) (by intro x hx; simp only [tabQ1, List.mem_cons, List.not_mem_nil, or_false] at hx; rcases hx with rfl | rfl | rfl | rfl | rfl | rfl | rfl | rfl | rfl | rfl | rfl | rfl | rfl | rfl | rfl | rfl | rfl | rfl <;> simp), tq⟩
                clear hdep hC hli ho hT
                first | (go_simp; done) | (go_simp; rfl)
              · cases (show some _ = some o from ho)
                have g11 : f 84 = .tuple #[.int .i64 lf, .int .i64 q, .int .i64 0] := hT (11, 84, .tuple #[.int .i64 lf, .int .i64 q, .int .i64 0]) (by simp [tabQ1]) (hdep { on := 11, ground := .data } (by simp) rfl)
                refine wpOp_of ho rfl ?_
                refine wp_value (v := .int .i64 0) (w1 := Wx) ?_ ⟨_, rfl, hT.step (i := 14) (d := 98) (v := .int .i64 0) (by intro x hx; simp only [tabQ1, List.mem_cons, List.not_mem_nil, or_false] at hx; rcases hx with rfl | rfl | rfl | rfl | rfl | rfl | rfl | rfl | rfl | rfl | rfl | rfl | rfl | rfl | rfl | rfl | rfl | rfl <;> simp), tq⟩
                clear hdep hC hli ho hT
                first | (go_simp; done) | (go_simp; rfl)
              · cases (show some _ = some o from ho)
                have g12 : f 96 = .int .i64 lf := hT (12, 96, .int .i64 lf) (by simp [tabQ1]) (hdep { on := 12, ground := .data } (by simp) rfl)
                refine wpOp_of ho rfl ?_
                refine wp_value (v := .int .i64 lf) (w1 := Wx) ?_ ⟨_, rfl, hT.step (i := 15) (d := 7) (v := .int .i64 lf) (by intro x hx; simp only [tabQ1, List.mem_cons, List.not_mem_nil, or_false] at hx; rcases hx with rfl | rfl | rfl | rfl | rfl | rfl | rfl | rfl | rfl | rfl | rfl | rfl | rfl | rfl | rfl | rfl | rfl | rfl <;> simp), tq⟩
                clear hdep hC hli ho hT
                first | (go_simp; done) | (go_simp; rfl)
              · cases (show some _ = some o from ho)
                have g13 : f 97 = .int .i64 q := hT (13, 97, .int .i64 q) (by simp [tabQ1]) (hdep { on := 13, ground := .data } (by simp) rfl)
                refine wpOp_of ho rfl ?_
                refine wp_value (v := .int .i64 q) (w1 := Wx) ?_ ⟨_, rfl, hT.step (i := 16) (d := 8) (v := .int .i64 q) (by intro x hx; simp only [tabQ1, List.mem_cons, List.not_mem_nil, or_false] at hx; rcases hx with rfl | rfl | rfl | rfl | rfl | rfl | rfl | rfl | rfl | rfl | rfl | rfl | rfl | rfl | rfl | rfl | rfl | rfl <;> simp), tq⟩
                clear hdep hC hli ho hT
                first | (go_simp; done) | (go_simp; rfl)
              · cases (show some _ = some o from ho)
                have g14 : f 98 = .int .i64 0 := hT (14, 98, .int .i64 0) (by simp [tabQ1]) (hdep { on := 14, ground := .data } (by simp) rfl)
                refine wpOp_of ho rfl ?_
                refine wp_value (v := .int .i64 0) (w1 := Wx) ?_ ⟨_, rfl, hT.step (i := 17) (d := 9) (v := .int .i64 0) (by intro x hx; simp only [tabQ1, List.mem_cons, List.not_mem_nil, or_false] at hx; rcases hx with rfl | rfl | rfl | rfl | rfl | rfl | rfl | rfl | rfl | rfl | rfl | rfl | rfl | rfl | rfl | rfl | rfl | rfl <;> simp), tq⟩
                clear hdep hC hli ho hT
                first | (go_simp; done) | (go_simp; rfl)
            case fin =>
              rintro listed a Wx hl ⟨f, rfl, hT, tq⟩
              have e85 : f 85 = .pointer (some ⟨z, 2, none⟩) := hT (0, 85, .pointer (some ⟨z, 2, none⟩)) (by simp [tabQ1]) (hl 0 (by decide))
              have e86 : f 86 = .int .u64 iA := hT (1, 86, .int .u64 iA) (by simp [tabQ1]) (hl 1 (by decide))
              have e87 : f 87 = .pointer (some ⟨z + 1, 2, none⟩) := hT (2, 87, .pointer (some ⟨z + 1, 2, none⟩)) (by simp [tabQ1]) (hl 2 (by decide))
              have e88 : f 88 = .int .u64 D := hT (3, 88, .int .u64 D) (by simp [tabQ1]) (hl 3 (by decide))
              have e89 : f 89 = .int .u64 rm := hT (4, 89, .int .u64 rm) (by simp [tabQ1]) (hl 4 (by decide))
              have e90 : f 90 = .int .i64 rm := hT (5, 90, .int .i64 rm) (by simp [tabQ1]) (hl 5 (by decide))
              have e91 : f 91 = .agg #[.int .i64 0, .int .i64 rm] := hT (6, 91, .agg #[.int .i64 0, .int .i64 rm]) (by simp [tabQ1]) (hl 6 (by decide))
              have e92 : f 92 = .pointer (some ⟨z + 1, 2, none⟩) := hT (7, 92, .pointer (some ⟨z + 1, 2, none⟩)) (by simp [tabQ1]) (hl 7 (by decide))
              have e93 : f 93 = .int .u64 D := hT (8, 93, .int .u64 D) (by simp [tabQ1]) (hl 8 (by decide))
              have e94 : f 94 = .int .i64 D := hT (9, 94, .int .i64 D) (by simp [tabQ1]) (hl 9 (by decide))
              have e95 : f 95 = .tuple #[.int .i64 lf, .int .i64 q, .int .i64 0] := hT (10, 95, .tuple #[.int .i64 lf, .int .i64 q, .int .i64 0]) (by simp [tabQ1]) (hl 10 (by decide))
              have e84 : f 84 = .tuple #[.int .i64 lf, .int .i64 q, .int .i64 0] := hT (11, 84, .tuple #[.int .i64 lf, .int .i64 q, .int .i64 0]) (by simp [tabQ1]) (hl 11 (by decide))
              have e96 : f 96 = .int .i64 lf := hT (12, 96, .int .i64 lf) (by simp [tabQ1]) (hl 12 (by decide))
              have e97 : f 97 = .int .i64 q := hT (13, 97, .int .i64 q) (by simp [tabQ1]) (hl 13 (by decide))
              have e98 : f 98 = .int .i64 0 := hT (14, 98, .int .i64 0) (by simp [tabQ1]) (hl 14 (by decide))
              have e7 : f 7 = .int .i64 lf := hT (15, 7, .int .i64 lf) (by simp [tabQ1]) (hl 15 (by decide))
              have e8 : f 8 = .int .i64 q := hT (16, 8, .int .i64 q) (by simp [tabQ1]) (hl 16 (by decide))
              have e9 : f 9 = .int .i64 0 := hT (17, 9, .int .i64 0) (by simp [tabQ1]) (hl 17 (by decide))
              have TQ := Lib.hid tq
              clear hT hl tq hU
              rw [e85, e86, e87, e88, e89, e90, e91, e92, e93, e94, e95, e84, e96, e97, e98, e7, e8, e9]
              clear e85 e86 e87 e88 e89 e90 e91 e92 e93 e94 e95 e84 e96 e97 e98 e7 e8 e9
              generalize Wx = wq at *
              have a2 := cell_quiet TQ.out a2
              have a3 := cell_quiet TQ.out a3
              have b2 := cell_quiet TQ.out b2
              have b3 := cell_quiet TQ.out b3
              have TQ1 := Lib.hid (HT.out.trans TQ.out (by simp))
              clear TQ
              go_upto_region 16 with fail
              refine frame_any (fun g f => #[.agg #[.int .i64 2, .bool sa, .int .u64 ia, .int .i64 ea], .agg #[.int .i64 2, .bool sb, .int .u64 ib, .int .i64 eb], .pointer (some ⟨z, 0, none⟩), .pointer (some ⟨z + 1, 0, none⟩), f 4, .bool s, g 6, .int .i64 lf, .int .i64 q, .int .i64 0, g 10, g 11, g 12, g 13, g 14, g 15, g 16, g 17, g 18, g 19, g 20, g 21, g 22, g 23, g 24, g 25, g 26, g 27, g 28, g 29, g 30, g 31, g 32, g 33, g 34, g 35, g 36, g 37, g 38, g 39, g 40, g 41, g 42, g 43, g 44, g 45, g 46, g 47, g 48, g 49, g 50, g 51, g 52, g 53, g 54, g 55, g 56, g 57, g 58, g 59, g 60, g 61, g 62, g 63, g 64, g 65, g 66, g 67, g 68, g 69, g 70, g 71, g 72, g 73, g 74, g 75, g 76, g 77, g 78, g 79, g 80, g 81, g 82, g 83, g 84, g 85, g 86, g 87, g 88, g 89, g 90, g 91, g 92, g 93, g 94, g 95, g 96, g 97, g 98, f 99, f 100, f 101, f 102, f 103, f 104, f 105, f 106, f 107, f 108, f 109, f 110, f 111, f 112, f 113, f 114, f 115, f 116]) rfl (fun g f => ?_)
              refine region_inv2 (fun listed a Wx => ∃ f : Nat → Value, a = { tmps := #[.agg #[.int .i64 2, .bool sa, .int .u64 ia, .int .i64 ea], .agg #[.int .i64 2, .bool sb, .int .u64 ib, .int .i64 eb], .pointer (some ⟨z, 0, none⟩), .pointer (some ⟨z + 1, 0, none⟩), f 4, .bool s, g 6, .int .i64 lf, .int .i64 q, .int .i64 0, g 10, g 11, g 12, g 13, g 14, g 15, g 16, g 17, g 18, g 19, g 20, g 21, g 22, g 23, g 24, g 25, g 26, g 27, g 28, g 29, g 30, g 31, g 32, g 33, g 34, g 35, g 36, g 37, g 38, g 39, g 40, g 41, g 42, g 43, g 44, g 45, g 46, g 47, g 48, g 49, g 50, g 51, g 52, g 53, g 54, g 55, g 56, g 57, g 58, g 59, g 60, g 61, g 62, g 63, g 64, g 65, g 66, g 67, g 68, g 69, g 70, g 71, g 72, g 73, g 74, g 75, g 76, g 77, g 78, g 79, g 80, g 81, g 82, g 83, g 84, g 85, g 86, g 87, g 88, g 89, g 90, g 91, g 92, g 93, g 94, g 95, g 96, g 97, g 98, f 99, f 100, f 101, f 102, f 103, f 104, f 105, f 106, f 107, f 108, f 109, f 110, f 111, f 112, f 113, f 114, f 115, f 116], defers := [] } ∧ TabOk (tabQ2 z s more iA D qh lf q y x r) listed f ∧ Touch [] wq Wx) (by kernel_rfl) (by kernel_rfl) ?h0 ?step ?fin
              case h0 =>
                intro listed hs hl
                exact ⟨f, rfl, fun x _ h => (by rw [hl] at h; cases h), (Touch.refl [] wq).drew⟩
              case step =>
                rintro listed a Wx ⟨f, rfl, hT, tq⟩ hC i o ho hli hdep
                try dsimp only
                have hi : i < 19 := (Array.getElem?_eq_some_iff.1 ho).1
                have a2 := cell_quiet tq a2
                have a3 := cell_quiet tq a3
                have b2 := cell_quiet tq b2
                have b3 := cell_quiet tq b3
                rcases (by omega : i = 0 ∨ i = 1 ∨ i = 2 ∨ i = 3 ∨ i = 4 ∨ i = 5 ∨ i = 6 ∨ i = 7 ∨ i = 8 ∨ i = 9 ∨ i = 10 ∨ i = 11 ∨ i = 12 ∨ i = 13 ∨ i = 14 ∨ i = 15 ∨ i = 16 ∨ i = 17 ∨ i = 18) with rfl | rfl | rfl | rfl | rfl | rfl | rfl | rfl | rfl | rfl | rfl | rfl | rfl | rfl | rfl | rfl | rfl | rfl | rfl
                · cases (show some _ = some o from ho)
                  refine wpOp_of ho rfl ?_
                  refine wp_value (v := .bool s) (w1 := Wx) ?_ ⟨_, rfl, hT.step (i := 0) (d := 99) (v := .bool s) (by intro x hx; simp only [tabQ2, List.mem_cons, List.not_mem_nil, or_false] at hx; rcases hx with rfl | rfl | rfl | rfl | rfl | rfl | rfl | rfl | rfl | rfl | rfl | rfl | rfl | rfl | rfl | rfl | rfl | rfl | rfl <;> simp), tq⟩
                  clear hdep hC hli ho hT
                  first | (go_simp; done) | (go_simp; rfl)
                · cases (show some _ = some o from ho)
                  refine wpOp_of ho rfl ?_
                  refine wp_value (v := .int .i64 q) (w1 := Wx) ?_ ⟨_, rfl, hT.step (i := 1) (d := 100) (v := .int .i64 q) (by intro x hx; simp only [tabQ2, List.mem_cons, List.not_mem_nil, or_false] at hx; rcases hx with rfl | rfl | rfl | rfl | rfl | rfl | rfl | rfl | rfl | rfl | rfl | rfl | rfl | rfl | rfl | rfl | rfl | rfl | rfl <;> simp), tq⟩
                  clear hdep hC hli ho hT
                  first | (go_simp; done) | (go_simp; rfl)
                · cases (show some _ = some o from ho)
                  refine wpOp_of ho rfl ?_
                  refine wp_value (v := .pointer (some ⟨z, 2, none⟩)) (w1 := Wx) ?_ ⟨_, rfl, hT.step (i := 2) (d := 101) (v := .pointer (some ⟨z, 2, none⟩)) (by intro x hx; simp only [tabQ2, List.mem_cons, List.not_mem_nil, or_false] at hx; rcases hx with rfl | rfl | rfl | rfl | rfl | rfl | rfl | rfl | rfl | rfl | rfl | rfl | rfl | rfl | rfl | rfl | rfl | rfl | rfl <;> simp), tq⟩
                  clear hdep hC hli ho hT
                  first | (go_simp; done) | (go_simp; rfl)
                · cases (show some _ = some o from ho)
                  have g2 : f 101 = .pointer (some ⟨z, 2, none⟩) := hT (2, 101, .pointer (some ⟨z, 2, none⟩)) (by simp [tabQ2]) (hdep { on := 2, ground := .data } (by simp) rfl)
                  refine wpOp_of ho rfl ?_
                  refine wp_value (v := .int .u64 iA) (w1 := Wx) ?_ ⟨_, rfl, hT.step (i := 3) (d := 102) (v := .int .u64 iA) (by intro x hx; simp only [tabQ2, List.mem_cons, List.not_mem_nil, or_false] at hx; rcases hx with rfl | rfl | rfl | rfl | rfl | rfl | rfl | rfl | rfl | rfl | rfl | rfl | rfl | rfl | rfl | rfl | rfl | rfl | rfl <;> simp), tq⟩
                  clear hdep hC hli ho hT
                  first | (go_simp; done) | (go_simp; rfl)
                · cases (show some _ = some o from ho)
                  refine wpOp_of ho rfl ?_
                  refine wp_value (v := .pointer (some ⟨z + 1, 2, none⟩)) (w1 := Wx) ?_ ⟨_, rfl, hT.step (i := 4) (d := 103) (v := .pointer (some ⟨z + 1, 2, none⟩)) (by intro x hx; simp only [tabQ2, List.mem_cons, List.not_mem_nil, or_false] at hx; rcases hx with rfl | rfl | rfl | rfl | rfl | rfl | rfl | rfl | rfl | rfl | rfl | rfl | rfl | rfl | rfl | rfl | rfl | rfl | rfl <;> simp), tq⟩
                  clear hdep hC hli ho hT
                  first | (go_simp; done) | (go_simp; rfl)
                · cases (show some _ = some o from ho)
                  have g4 : f 103 = .pointer (some ⟨z + 1, 2, none⟩) := hT (4, 103, .pointer (some ⟨z + 1, 2, none⟩)) (by simp [tabQ2]) (hdep { on := 4, ground := .data } (by simp) rfl)
                  refine wpOp_of ho rfl ?_
                  refine wp_value (v := .int .u64 D) (w1 := Wx) ?_ ⟨_, rfl, hT.step (i := 5) (d := 104) (v := .int .u64 D) (by intro x hx; simp only [tabQ2, List.mem_cons, List.not_mem_nil, or_false] at hx; rcases hx with rfl | rfl | rfl | rfl | rfl | rfl | rfl | rfl | rfl | rfl | rfl | rfl | rfl | rfl | rfl | rfl | rfl | rfl | rfl <;> simp), tq⟩
                  clear hdep hC hli ho hT
                  first | (go_simp; done) | (go_simp; rfl)
                · cases (show some _ = some o from ho)
                  have g3 : f 102 = .int .u64 iA := hT (3, 102, .int .u64 iA) (by simp [tabQ2]) (hdep { on := 3, ground := .data } (by simp) rfl)
                  have g5 : f 104 = .int .u64 D := hT (5, 104, .int .u64 D) (by simp [tabQ2]) (hdep { on := 5, ground := .data } (by simp) rfl)
                  refine wpOp_of ho rfl ?_
                  refine wp_value (v := .int .u64 qh) (w1 := Wx) ?_ ⟨_, rfl, hT.step (i := 6) (d := 105) (v := .int .u64 qh) (by intro x hx; simp only [tabQ2, List.mem_cons, List.not_mem_nil, or_false] at hx; rcases hx with rfl | rfl | rfl | rfl | rfl | rfl | rfl | rfl | rfl | rfl | rfl | rfl | rfl | rfl | rfl | rfl | rfl | rfl | rfl <;> simp), tq⟩
                  clear hdep hC hli ho hT
                  first | (go_simp; done) | (go_simp; rfl)
                · cases (show some _ = some o from ho)
                  have g6 : f 105 = .int .u64 qh := hT (6, 105, .int .u64 qh) (by simp [tabQ2]) (hdep { on := 6, ground := .data } (by simp) rfl)
                  refine wpOp_of ho rfl ?_
                  refine wp_value (v := .int .i64 qh) (w1 := Wx) ?_ ⟨_, rfl, hT.step (i := 7) (d := 106) (v := .int .i64 qh) (by intro x hx; simp only [tabQ2, List.mem_cons, List.not_mem_nil, or_false] at hx; rcases hx with rfl | rfl | rfl | rfl | rfl | rfl | rfl | rfl | rfl | rfl | rfl | rfl | rfl | rfl | rfl | rfl | rfl | rfl | rfl <;> simp), tq⟩
                  clear hdep hC hli ho hT
                  first | (go_simp; done) | (go_simp; rfl)
                · cases (show some _ = some o from ho)
                  have g1 : f 100 = .int .i64 q := hT (1, 100, .int .i64 q) (by simp [tabQ2]) (hdep { on := 1, ground := .data } (by simp) rfl)
                  have g7 : f 106 = .int .i64 qh := hT (7, 106, .int .i64 qh) (by simp [tabQ2]) (hdep { on := 7, ground := .data } (by simp) rfl)
                  refine wpOp_of ho rfl ?_
                  refine wp_value (v := .agg #[.int .i64 q, .int .i64 qh]) (w1 := Wx) ?_ ⟨_, rfl, hT.step (i := 8) (d := 107) (v := .agg #[.int .i64 q, .int .i64 qh]) (by intro x hx; simp only [tabQ2, List.mem_cons, List.not_mem_nil, or_false] at hx; rcases hx with rfl | rfl | rfl | rfl | rfl | rfl | rfl | rfl | rfl | rfl | rfl | rfl | rfl | rfl | rfl | rfl | rfl | rfl | rfl <;> simp), tq⟩
                  clear hdep hC hli ho hT
                  first | (go_simp; done) | (go_simp; rfl)
                · cases (show some _ = some o from ho)
                  refine wpOp_of ho rfl ?_
                  refine wp_value (v := .pointer (some ⟨z, 3, none⟩)) (w1 := Wx) ?_ ⟨_, rfl, hT.step (i := 9) (d := 108) (v := .pointer (some ⟨z, 3, none⟩)) (by intro x hx; simp only [tabQ2, List.mem_cons, List.not_mem_nil, or_false] at hx; rcases hx with rfl | rfl | rfl | rfl | rfl | rfl | rfl | rfl | rfl | rfl | rfl | rfl | rfl | rfl | rfl | rfl | rfl | rfl | rfl <;> simp), tq⟩
                  clear hdep hC hli ho hT
                  first | (go_simp; done) | (go_simp; rfl)
                · cases (show some _ = some o from ho)
                  have g9 : f 108 = .pointer (some ⟨z, 3, none⟩) := hT (9, 108, .pointer (some ⟨z, 3, none⟩)) (by simp [tabQ2]) (hdep { on := 9, ground := .data } (by simp) rfl)
                  refine wpOp_of ho rfl ?_
                  refine wp_value (v := .int .i64 y) (w1 := Wx) ?_ ⟨_, rfl, hT.step (i := 10) (d := 109) (v := .int .i64 y) (by intro x hx; simp only [tabQ2, List.mem_cons, List.not_mem_nil, or_false] at hx; rcases hx with rfl | rfl | rfl | rfl | rfl | rfl | rfl | rfl | rfl | rfl | rfl | rfl | rfl | rfl | rfl | rfl | rfl | rfl | rfl <;> simp), tq⟩
                  clear hdep hC hli ho hT
                  first | (go_simp; done) | (go_simp; rfl)
                · cases (show some _ = some o from ho)
                  refine wpOp_of ho rfl ?_
                  refine wp_value (v := .pointer (some ⟨z + 1, 3, none⟩)) (w1 := Wx) ?_ ⟨_, rfl, hT.step (i := 11) (d := 110) (v := .pointer (some ⟨z + 1, 3, none⟩)) (by intro x hx; simp only [tabQ2, List.mem_cons, List.not_mem_nil, or_false] at hx; rcases hx with rfl | rfl | rfl | rfl | rfl | rfl | rfl | rfl | rfl | rfl | rfl | rfl | rfl | rfl | rfl | rfl | rfl | rfl | rfl <;> simp), tq⟩
                  clear hdep hC hli ho hT
                  first | (go_simp; done) | (go_simp; rfl)
                · cases (show some _ = some o from ho)
                  have g11 : f 110 = .pointer (some ⟨z + 1, 3, none⟩) := hT (11, 110, .pointer (some ⟨z + 1, 3, none⟩)) (by simp [tabQ2]) (hdep { on := 11, ground := .data } (by simp) rfl)
                  refine wpOp_of ho rfl ?_
                  refine wp_value (v := .int .i64 x) (w1 := Wx) ?_ ⟨_, rfl, hT.step (i := 12) (d := 111) (v := .int .i64 x) (by intro x hx; simp only [tabQ2, List.mem_cons, List.not_mem_nil, or_false] at hx; rcases hx with rfl | rfl | rfl | rfl | rfl | rfl | rfl | rfl | rfl | rfl | rfl | rfl | rfl | rfl | rfl | rfl | rfl | rfl | rfl <;> simp), tq⟩
                  clear hdep hC hli ho hT
                  first | (go_simp; done) | (go_simp; rfl)
                · cases (show some _ = some o from ho)
                  have g10 : f 109 = .int .i64 y := hT (10, 109, .int .i64 y) (by simp [tabQ2]) (hdep { on := 10, ground := .data } (by simp) rfl)
                  have g12 : f 111 = .int .i64 x := hT (12, 111, .int .i64 x) (by simp [tabQ2]) (hdep { on := 12, ground := .data } (by simp) rfl)
                  refine wpOp_of ho rfl ?_
                  refine wp_value (v := .int .i64 (y - x)) (w1 := Wx) ?_ ⟨_, rfl, hT.step (i := 13) (d := 112) (v := .int .i64 (y - x)) (by intro x hx; simp only [tabQ2, List.mem_cons, List.not_mem_nil, or_false] at hx; rcases hx with rfl | rfl | rfl | rfl | rfl | rfl | rfl | rfl | rfl | rfl | rfl | rfl | rfl | rfl | rfl | rfl | rfl | rfl | rfl <;> simp), tq⟩
                  clear hdep hC hli ho hT
                  first | (go_simp; done) | (go_simp; rfl)
                · cases (show some _ = some o from ho)
                  have g13 : f 112 = .int .i64 (y - x) := hT (13, 112, .int .i64 (y - x)) (by simp [tabQ2]) (hdep { on := 13, ground := .data } (by simp) rfl)
                  refine wpOp_of ho rfl ?_
                  refine wp_value (v := .int .i64 (y - x - 64)) (w1 := Wx) ?_ ⟨_, rfl, hT.step (i := 14) (d := 113) (v := .int .i64 (y - x - 64)) (by intro x hx; simp only [tabQ2, List.mem_cons, List.not_mem_nil, or_false] at hx; rcases hx with rfl | rfl | rfl | rfl | rfl | rfl | rfl | rfl | rfl | rfl | rfl | rfl | rfl | rfl | rfl | rfl | rfl | rfl | rfl <;> simp), tq⟩
                  clear hdep hC hli ho hT
                  first | (go_simp; done) | (go_simp; rfl)
                · cases (show some _ = some o from ho)
                  refine wpOp_of ho rfl ?_
                  refine wp_value (v := .int .i64 lf) (w1 := Wx) ?_ ⟨_, rfl, hT.step (i := 15) (d := 114) (v := .int .i64 lf) (by intro x hx; simp only [tabQ2, List.mem_cons, List.not_mem_nil, or_false] at hx; rcases hx with rfl | rfl | rfl | rfl | rfl | rfl | rfl | rfl | rfl | rfl | rfl | rfl | rfl | rfl | rfl | rfl | rfl | rfl | rfl <;> simp), tq⟩
                  clear hdep hC hli ho hT
                  first | (go_simp; done) | (go_simp; rfl)
                · cases (show some _ = some o from ho)
                  have g15 : f 114 = .int .i64 lf := hT (15, 114, .int .i64 lf) (by simp [tabQ2]) (hdep { on := 15, ground := .data } (by simp) rfl)
                  refine wpOp_of ho rfl ?_
                  refine wp_value (v := .bool more) (w1 := Wx) ?_ ⟨_, rfl, hT.step (i := 16) (d := 115) (v := .bool more) (by intro x hx; simp only [tabQ2, List.mem_cons, List.not_mem_nil, or_false] at hx; rcases hx with rfl | rfl | rfl | rfl | rfl | rfl | rfl | rfl | rfl | rfl | rfl | rfl | rfl | rfl | rfl | rfl | rfl | rfl | rfl <;> simp), tq⟩
                  clear hdep hC hli ho hT
                  first | (go_simp; done) | (go_simp; rfl)
                · cases (show some _ = some o from ho)
                  have g0 : f 99 = .bool s := hT (0, 99, .bool s) (by simp [tabQ2]) (hdep { on := 0, ground := .data } (by simp) rfl)
                  have g8 : f 107 = .agg #[.int .i64 q, .int .i64 qh] := hT (8, 107, .agg #[.int .i64 q, .int .i64 qh]) (by simp [tabQ2]) (hdep { on := 8, ground := .data } (by simp) rfl)
                  have g14 : f 113 = .int .i64 (y - x - 64) := hT (14, 113, .int .i64 (y - x - 64)) (by simp [tabQ2]) (hdep { on := 14, ground := .data } (by simp) rfl)
                  have g16 : f 115 = .bool more := hT (16, 115, .bool more) (by simp [tabQ2]) (hdep { on := 16, ground := .data } (by simp) rfl)
                  refine wpOp_of ho rfl ?_
                  refine wp_enter (f := 90) (args := #[.bool s, .agg #[.int .i64 q, .int .i64 qh], .int .i64 (y - x - 64), .bool more]) (w1 := Wx) ?_ ((hR Wx).mono ?_)
                  · clear hdep hC hli ho hT
                    first | (go_simp; done) | (go_simp; rfl)
                  · rintro _ W1 ⟨rfl, t1⟩
                    exact ⟨_, rfl, _, rfl, hT.step (i := 17) (d := 116) (v := .int .i64 r) (by intro x hx; simp only [tabQ2, List.mem_cons, List.not_mem_nil, or_false] at hx; rcases hx with rfl | rfl | rfl | rfl | rfl | rfl | rfl | rfl | rfl | rfl | rfl | rfl | rfl | rfl | rfl | rfl | rfl | rfl | rfl <;> simp), tq.trans t1 (by simp)⟩
                · cases (show some _ = some o from ho)
                  have g17 : f 116 = .int .i64 r := hT (17, 116, .int .i64 r) (by simp [tabQ2]) (hdep { on := 17, ground := .data } (by simp) rfl)
                  refine wpOp_of ho rfl ?_
                  refine wp_value (v := .int .i64 r) (w1 := Wx) ?_ ⟨_, rfl, hT.step (i := 18) (d := 4) (v := .int .i64 r) (by intro x hx; simp only [tabQ2, List.mem_cons, List.not_mem_nil, or_false] at hx; rcases hx with rfl | rfl | rfl | rfl | rfl | rfl | rfl | rfl | rfl | rfl | rfl | rfl | rfl | rfl | rfl | rfl | rfl | rfl | rfl <;> simp), tq⟩
                  clear hdep hC hli ho hT
                  first | (go_simp; done) | (go_simp; rfl)
              case fin =>
                rintro listed a Wx hl ⟨f, rfl, hT, tq⟩
                have e99 : f 99 = .bool s := hT (0, 99, .bool s) (by simp [tabQ2]) (hl 0 (by decide))
                have e100 : f 100 = .int .i64 q := hT (1, 100, .int .i64 q) (by simp [tabQ2]) (hl 1 (by decide))
                have e101 : f 101 = .pointer (some ⟨z, 2, none⟩) := hT (2, 101, .pointer (some ⟨z, 2, none⟩)) (by simp [tabQ2]) (hl 2 (by decide))
                have e102 : f 102 = .int .u64 iA := hT (3, 102, .int .u64 iA) (by simp [tabQ2]) (hl 3 (by decide))
                have e103 : f 103 = .pointer (some ⟨z + 1, 2, none⟩) := hT (4, 103, .pointer (some ⟨z + 1, 2, none⟩)) (by simp [tabQ2]) (hl 4 (by decide))
                have e104 : f 104 = .int .u64 D := hT (5, 104, .int .u64 D) (by simp [tabQ2]) (hl 5 (by decide))
                have e105 : f 105 = .int .u64 qh := hT (6, 105, .int .u64 qh) (by simp [tabQ2]) (hl 6 (by decide))
                have e106 : f 106 = .int .i64 qh := hT (7, 106, .int .i64 qh) (by simp [tabQ2]) (hl 7 (by decide))
                have e107 : f 107 = .agg #[.int .i64 q, .int .i64 qh] := hT (8, 107, .agg #[.int .i64 q, .int .i64 qh]) (by simp [tabQ2]) (hl 8 (by decide))
                have e108 : f 108 = .pointer (some ⟨z, 3, none⟩) := hT (9, 108, .pointer (some ⟨z, 3, none⟩)) (by simp [tabQ2]) (hl 9 (by decide))
                have e109 : f 109 = .int .i64 y := hT (10, 109, .int .i64 y) (by simp [tabQ2]) (hl 10 (by decide))
                have e110 : f 110 = .pointer (some ⟨z + 1, 3, none⟩) := hT (11, 110, .pointer (some ⟨z + 1, 3, none⟩)) (by simp [tabQ2]) (hl 11 (by decide))
                have e111 : f 111 = .int .i64 x := hT (12, 111, .int .i64 x) (by simp [tabQ2]) (hl 12 (by decide))
                have e112 : f 112 = .int .i64 (y - x) := hT (13, 112, .int .i64 (y - x)) (by simp [tabQ2]) (hl 13 (by decide))
                have e113 : f 113 = .int .i64 (y - x - 64) := hT (14, 113, .int .i64 (y - x - 64)) (by simp [tabQ2]) (hl 14 (by decide))
                have e114 : f 114 = .int .i64 lf := hT (15, 114, .int .i64 lf) (by simp [tabQ2]) (hl 15 (by decide))
                have e115 : f 115 = .bool more := hT (16, 115, .bool more) (by simp [tabQ2]) (hl 16 (by decide))
                have e116 : f 116 = .int .i64 r := hT (17, 116, .int .i64 r) (by simp [tabQ2]) (hl 17 (by decide))
                have e4 : f 4 = .int .i64 r := hT (18, 4, .int .i64 r) (by simp [tabQ2]) (hl 18 (by decide))
                have TQ := Lib.hid tq
                clear hT hl tq hR
                rw [e99, e100, e101, e102, e103, e104, e105, e106, e107, e108, e109, e110, e111, e112, e113, e114, e115, e116, e4]
                clear e99 e100 e101 e102 e103 e104 e105 e106 e107 e108 e109 e110 e111 e112 e113 e114 e115 e116 e4
                go_wp2_with fail
                go_ret
                exact ⟨r, ⟨j, k, ⟨by rw [← HJ1.out.1.1]; have := HM.out; omega, by rw [← HJ1.out.1.1]; exact HM.out.2⟩, HEND.out, HR2.out.symm⟩, rfl, TQ1.out.trans TQ.out (by simp)⟩
end Rn
end Go.Proofs.YtkbchpaofmlhgaaGreatDoor
