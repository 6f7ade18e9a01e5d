/- rhytonref09.Dict: In and Find. -/
import Derived.Test.YtgdmiodcfdcihaaGreatDoorRFold
namespace Go.Proofs.YtgdmiodcfdcihaaGreatDoor
open Go.RowKit

theorem refCells_at (H : List Head) : ∀ (k i : Nat), k < H.length → i < 4 → (refCells H)[k * 4 + i]? = ((H.getD k Head.none).refCells)[i]? := by
  induction H with
  | nil => intro k i hk; simp at hk
  | cons x r ih =>
    intro k i hk hi
    unfold refCells
    rw [List.flatMap_cons]
    cases k with
    | zero =>
      rw [Nat.zero_mul, Nat.zero_add, List.getElem?_append_left (by show i < 4; exact hi)]
      rfl
    | succ k =>
      rw [List.getElem?_append_right (by show 4 ≤ _; omega), show (k + 1) * 4 + i - x.refCells.length = k * 4 + i by show (k + 1) * 4 + i - 4 = _; omega]
      have := ih k i (by simpa using hk) hi
      unfold refCells at this
      rw [this]
      rfl

set_option maxRecDepth 100000 in
set_option maxHeartbeats 1600000 in
theorem RIn_any (w : World) (R : Nat) (F : List Nat) (H : List Head) (h : RefAt w R F H) (hH : H.length ≤ 1000) (hn : ∀ k, k < H.length → (H.getD k Head.none).name.size ≤ 1000) (s : ByteArray) (hs : s.size ≤ 1000) :
    Calls Tryz.prog 29 #[.pointer (some ⟨R, 0, none⟩), .int .i64 1, .string s] w fun e w' => e = .returned (foundV (lookH H (foldB s) H.length)) ∧ Touch [] w w' := by
  have hfold := fun w => refold_any s hs w
  obtain ⟨f, hf⟩ : ∃ f, foldB s = f := ⟨_, rfl⟩
  rw [hf] at hfold ⊢
  obtain ⟨V, hV⟩ : ∃ V, lookH H f H.length = V := ⟨_, rfl⟩
  rw [hV]
  clear hf hs
  have HE := Lib.hid h
  obtain ⟨v, ob, h1, h2, rfl, h5, h6, h7⟩ := h
  obtain ⟨a, cap, rfl⟩ : ∃ a cap, v = .slice a H.length cap := by
    rcases h6.2 with ⟨rfl, h0⟩ | ⟨g, cap, cur, h1, _⟩
    · exact ⟨none, 0, by rw [h0]⟩
    · exact ⟨_, cap, h1⟩
  have b6 := Blk.new w 45 #[.string .empty, .int .i64 0, .bool false]
  have t1 := (Touch.refl [] w).alloc (.cells #[.string .empty, .int .i64 0, .bool false] 45)
  have c0 := h1.cell 0
  have hRl := h1.lt
  go_enter Tryz.func29, Tryz.ntmps29
  go_upto_region 1 with (fail)
  have hz : ({ data := #[] } : ByteArray) = .empty := rfl
  rw [hz]
  generalize w.alloc (.cells #[.string .empty, .int .i64 0, .bool false] 45) = w1 at *
  have b1 := h1.touch t1 (by simp)
  have hr := row_touch h6 t1 (by simp)
  have c0 := b1.cell 0
  have hRl1 := b1.lt
  go_wp2_with fail
  clear c0
  go_loopw [8] (fun i wr => ∃ k : Nat, k ≤ H.length ∧ i = .int .i64 ((k : Int) - 1) ∧ V = lookH H f k ∧ Touch [] w1 wr) (fun i _ => (intOf i + 1).toNat)
  case atStart => exact ⟨H.length, Nat.le_refl _, rfl, hV.symm, Touch.refl _ _⟩
  case round =>
    obtain ⟨k, hk, rfl, hl, tr⟩ := hrel
    have c6 := (b6.touch tr (by simp))
    have e0 := c6.cell 0
    have e1 := c6.cell 1
    have e2 := c6.cell 2
    have f0 := c6.frozen 0
    have f1 := c6.frozen 1
    have f2 := c6.frozen 2
    have h6l := c6.lt
    clear hV
    cases k with
    | zero =>
      go_wp2_with fail
      have bz := c6.three (.string .empty) (.int .i64 0) (.bool false)
      have z0 := bz.cell 0
      have z1 := bz.cell 1
      have z2 := bz.cell 2
      subst hl
      refine bodyPost_ret (by simp [results, Tryz.results29, go_sem, z0, z1, z2]; rfl) rfl ⟨rfl, ?_⟩
      exact ((((t1.trans tr (by simp)).setCell (.inr (Nat.le_refl _)) _).setCell (.inr (Nat.le_refl _)) _).setCell (.inr (Nat.le_refl _)) _)
    | succ k =>
      rw [show ((k + 1 : Nat) : Int) - 1 = (k : Int) by omega]
      have hrr := row_touch hr tr (by simp)
      obtain ⟨g, cap, hsl, _, hgl⟩ := hrr.form (by omega)
      cases hsl
      have c0 := (b1.touch tr (by simp)).cell 0
      have q := fun i (hi : i < 4) => (hrr.cellAt (k * 4 + i) (by omega)).trans (refCells_at H k i (by omega) hi)
      have hlk : lookH H f (k + 1) = if foldB (H.getD k Head.none).name = f then some (H.getD k Head.none) else lookH H f k := rfl
      have hns := hn k (by omega)
      obtain ⟨x, hx⟩ : ∃ x, H.getD k Head.none = x := ⟨_, rfl⟩
      rw [hx] at q hlk hns
      have q0 := q 0 (by omega)
      have q1 := q 1 (by omega)
      have q2 := q 2 (by omega)
      have q3 := q 3 (by omega)
      simp only [Head.refCells, Nat.add_zero] at q0 q1 q2 q3
      have hRw : R < wr.heap.size := Nat.lt_of_lt_of_le hRl1 tr.size
      have hfx := fun w => refold_any x.name hns w
      clear q
      go_wp2_with fail
      refine (hfx _).mono ?_
      rintro _ w2 ⟨rfl, t2⟩
      go_wp2_with fail
      refine (hfold _).mono ?_
      rintro _ w3 ⟨rfl, t3⟩
      have t4 := t2.trans t3 (by simp)
      have tr := tr.trans t4 (by simp)
      clear t2 t3 e0 e1 e2 f0 f1 f2 c0 q0 q1 q2 q3 hrr
      have hrr := row_touch hr tr (by simp)
      have c0 := (b1.touch tr (by simp)).cell 0
      have q := fun i (hi : i < 4) => (hrr.cellAt (k * 4 + i) (by omega)).trans (refCells_at H k i (by omega) hi)
      rw [hx] at q
      have q0 := q 0 (by omega)
      have q1 := q 1 (by omega)
      have q2 := q 2 (by omega)
      simp only [Head.refCells, Nat.add_zero] at q0 q1 q2
      have c6 := (b6.touch tr (by simp))
      have e0 := c6.cell 0
      have e1 := c6.cell 1
      have e2 := c6.cell 2
      have f0 := c6.frozen 0
      have f1 := c6.frozen 1
      have f2 := c6.frozen 2
      have h6l := c6.lt
      have hRw : R < w3.heap.size := Nat.lt_of_lt_of_le hRl1 tr.size
      have hgl3 : g < w3.heap.size := Nat.lt_of_lt_of_le hgl t4.size
      clear q t4
      by_cases hm : foldB x.name = f
      · have hm' : ((foldB x.name).toList == f.toList) = true := by rw [str_beq]; simpa using hm
        rw [if_pos hm] at hlk
        rw [hlk] at hl
        subst hl
        go_wp2_with fail
        have bz := c6.three (.string x.name) (.int .i64 x.xt) (.bool x.now)
        have z0 := bz.cell 0
        have z1 := bz.cell 1
        have z2 := bz.cell 2
        refine bodyPost_ret (by simp [results, Tryz.results29, go_sem, z0, z1, z2]; rfl) rfl ⟨rfl, ?_⟩
        exact ((((t1.trans tr (by simp)).setCell (.inr (Nat.le_refl _)) _).setCell (.inr (Nat.le_refl _)) _).setCell (.inr (Nat.le_refl _)) _)
      · have hm' : ((foldB x.name).toList == f.toList) = false := by rw [str_beq]; simpa using hm
        rw [if_neg hm] at hlk
        rw [hlk] at hl
        go_wp2_with fail
        refine ⟨⟨k, by omega, rfl, hl, tr⟩, ?_⟩
        simp only [intOf]
        omega
theorem RefAt.order {w : World} {R : Nat} {F : List Nat} {H : List Head} (h : RefAt w R F H) : ∃ ob, w.cell? ⟨R, 2, none⟩ = some (.slice (some ⟨ob, 0, none⟩) 1 1) ∧ w.cell? ⟨ob, 0, none⟩ = some (.int .i64 1) ∧ R < w.heap.size ∧ ob < w.heap.size := by
  obtain ⟨v, ob, h1, h2, rfl, h5, h6, h7⟩ := h
  exact ⟨ob, h1.cell 2, h2.cell 0, h1.lt, h2.lt⟩

set_option maxRecDepth 100000 in
set_option maxHeartbeats 1600000 in
theorem RFind_any (w : World) (R : Nat) (F : List Nat) (H : List Head) (h : RefAt w R F H) (hH : H.length ≤ 1000) (hn : ∀ k, k < H.length → (H.getD k Head.none).name.size ≤ 1000) (s : ByteArray) (hs : s.size ≤ 1000) :
    Calls Tryz.prog 15 #[.pointer (some ⟨R, 0, none⟩), .string s] w fun e w' => e = .returned (foundV (lookH H (foldB s) H.length)) ∧ Touch [] w w' := by
  have hin := fun w' (t : Touch [] w w') => RIn_any w' R F H (h.touch t (by simp)) hH hn s hs
  have hor := fun w' (t : Touch [] w w') => (h.touch t (by simp)).order
  obtain ⟨V, hV⟩ : ∃ V, lookH H (foldB s) H.length = V := ⟨_, rfl⟩
  simp only [hV] at hin ⊢
  obtain ⟨ob, c2, co, hRl, hol⟩ := h.order
  have HW : Hid (∀ w', Touch [] w w' → w'.cell? ⟨R, 2, none⟩ = some (.slice (some ⟨ob, 0, none⟩) 1 1) ∧ w'.cell? ⟨ob, 0, none⟩ = some (.int .i64 1) ∧ R < w'.heap.size ∧ ob < w'.heap.size) := fun w' t =>
    ⟨(t.cell (p := ⟨R, 2, none⟩) hRl (by simp)).trans c2, (t.cell (p := ⟨ob, 0, none⟩) hol (by simp)).trans co, Nat.lt_of_lt_of_le hRl t.size, Nat.lt_of_lt_of_le hol t.size⟩
  have HI := Lib.hid hin
  clear hin hor hV hs hn hH h c2 co
  have b4 := Blk.new w 45 #[.string .empty, .int .i64 0, .bool false]
  have t1 := (Touch.refl [] w).alloc (.cells #[.string .empty, .int .i64 0, .bool false] 45)
  go_enter Tryz.func15, Tryz.ntmps15
  go_upto_region 1 with (fail)
  have hz : ({ data := #[] } : ByteArray) = .empty := rfl
  rw [hz]
  generalize w.alloc (.cells #[.string .empty, .int .i64 0, .bool false] 45) = w1 at *
  obtain ⟨c2, co, hR1, ho1⟩ := HW.out w1 t1
  go_wp2_with fail
  cases V with
  | none =>
    refine wp_loop_rounds 2 ?_
    rw [rounds_succ]
    go_wp2_with fail
    refine (HI.out _ t1).mono ?_
    rintro _ w2 ⟨rfl, t2⟩
    have b5 := b4.touch t2 (by simp)
    have t3 : Touch [] w w2 := t1.trans t2 (by simp)
    clear t2 c2 co hR1 ho1
    simp only [foundV, Option.getD_none, Head.v, Head.none, Option.isSome_none]
    go_upto_region 5 with (fail)
    have b5 := b5.alloc (.cells #[.string .empty, .int .i64 0, .bool false] 45)
    have t3 := t3.alloc (.cells #[.string .empty, .int .i64 0, .bool false] 45)
    generalize w2.alloc (.cells #[.string .empty, .int .i64 0, .bool false] 45) = w4 at *
    obtain ⟨c2, co, hR1, ho1⟩ := HW.out w4 t3
    have h5 := b5.lt
    have e0 := b5.cell 0
    have e1 := b5.cell 1
    have e2 := b5.cell 2
    have f0 := b5.frozen 0
    have f1 := b5.frozen 1
    have f2 := b5.frozen 2
    go_wp2_with fail
    rw [rounds_succ]
    go_wp2_with fail
    have bz := b5.three (.string .empty) (.int .i64 0) (.bool false)
    have z0 := bz.cell 0
    have z1 := bz.cell 1
    have z2 := bz.cell 2
    refine bodyPost_ret (by simp [results, Tryz.results15, go_sem, z0, z1, z2]; rfl) rfl ⟨rfl, ?_⟩
    exact (((t3.setCell (.inr (Nat.le_refl _)) _).setCell (.inr (Nat.le_refl _)) _).setCell (.inr (Nat.le_refl _)) _)
  | some x =>
    refine wp_loop_rounds 1 ?_
    rw [rounds_succ]
    go_wp2_with fail
    refine (HI.out _ t1).mono ?_
    rintro _ w2 ⟨rfl, t2⟩
    have b5 := b4.touch t2 (by simp)
    have t3 : Touch [] w w2 := t1.trans t2 (by simp)
    clear t2 c2 co hR1 ho1
    simp only [foundV, Option.getD_some, Head.v, Option.isSome_some]
    go_upto_region 5 with (fail)
    have b7 := Blk.new w2 45 #[.string x.name, .int .i64 x.xt, .bool x.now]
    have b5 := b5.alloc (.cells #[.string x.name, .int .i64 x.xt, .bool x.now] 45)
    have t3 := t3.alloc (.cells #[.string x.name, .int .i64 x.xt, .bool x.now] 45)
    generalize w2.alloc (.cells #[.string x.name, .int .i64 x.xt, .bool x.now] 45) = w4 at *
    have g0 := b7.cell 0
    have g1 := b7.cell 1
    have g2 := b7.cell 2
    have h5 := b5.lt
    have e0 := b5.cell 0
    have e1 := b5.cell 1
    have e2 := b5.cell 2
    have f0 := b5.frozen 0
    have f1 := b5.frozen 1
    have f2 := b5.frozen 2
    go_wp2_with fail
    have bz := b5.three (.string x.name) (.int .i64 x.xt) (.bool x.now)
    have z0 := bz.cell 0
    have z1 := bz.cell 1
    have z2 := bz.cell 2
    refine bodyPost_ret (by simp [results, Tryz.results15, go_sem, z0, z1, z2]; rfl) rfl ⟨rfl, ?_⟩
    exact (((t3.setCell (.inr (Nat.le_refl _)) _).setCell (.inr (Nat.le_refl _)) _).setCell (.inr (Nat.le_refl _)) _)
end Go.Proofs.YtgdmiodcfdcihaaGreatDoor
