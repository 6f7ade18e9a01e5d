/- dict.Dict: In and Find. -/
import Derived.Test.YtgdmiodcfdcihaaGreatDoorDict
namespace Go.Proofs.YtgdmiodcfdcihaaGreatDoor
open Go.RowKit

def Head.none : Head := ⟨.empty, 0, false⟩
/-- the last of the first k words whose name, made small, is f -/
def lookH (H : List Head) (f : ByteArray) : Nat → Option Head
  | 0 => .none
  | k + 1 => if foldB (H.getD k Head.none).name = f then some (H.getD k Head.none) else lookH H f k
def Head.v (h : Head) : Value := .agg #[.string h.name, .int .i64 h.xt, .bool h.now]
def foundV (o : Option Head) : Value := .tuple #[(o.getD Head.none).v, .bool o.isSome]

theorem headCells_at (H : List Head) (k i : Nat) (hk : k < H.length) (hi : i < 6) : (headCells H)[k * 6 + i]? = ((H.getD k Head.none).cells k)[i]? := by
  have key : ∀ (n : Nat) (f : Nat → List Value) (hf : ∀ i, (f i).length = 6) (k : Nat), k < n → ((List.range n).flatMap f)[k * 6 + i]? = (f k)[i]? := by
    intro n f hf
    induction n with
    | zero => intro k hk; omega
    | succ n ih =>
      intro k hk
      rw [List.range_succ, List.flatMap_append]
      have hl : ((List.range n).flatMap f).length = n * 6 := by
        rw [List.length_flatMap]
        simp only [hf, List.map_const', List.sum_replicate_nat, List.length_range]
      by_cases hkn : k < n
      · rw [List.getElem?_append_left (by rw [hl]; omega)]
        exact ih k hkn
      · obtain rfl : k = n := by omega
        rw [List.getElem?_append_right (by rw [hl]; omega), hl]
        simp [show k * 6 + i - k * 6 = i by omega]
  exact key H.length _ (fun i => by simp [Head.cells]) k hk

set_option maxHeartbeats 3200000 in
set_option maxRecDepth 100000 in
theorem In_any (w : World) (D : Nat) (F : List Nat) (H : List Head) (h : DictAt w D F H) (s : ByteArray) (hs : s.size ≤ 100000) :
    Calls Tryz.prog 48 #[.pointer (some ⟨D, 0, none⟩), .int .i64 1, .string s] w fun e w' => e = .returned (foundV (lookH H (foldB s) H.length)) ∧ Touch [] w w' := by
  have hfold := fun w => Fold_any s hs w
  have hkn := fun w' (t : Touch [] w w') => known_any w' D F H (h.quiet t)
  have hlt := h.lt
  obtain ⟨f, hf⟩ : ∃ f, foldB s = f := ⟨_, rfl⟩
  rw [hf] at hfold ⊢
  obtain ⟨R, hR⟩ : ∃ R, lookH H f H.length = R := ⟨_, rfl⟩
  rw [hR]
  clear hf hs
  go_enter Tryz.func48, Tryz.ntmps48
  go_wp2_with fail
  refine (hkn _ ((Touch.refl _ _).alloc _)).mono ?_
  rintro _ _ ⟨rfl, rfl⟩
  go_wp2_with fail
  refine (hfold _).mono ?_
  rintro _ w1 ⟨rfl, t0⟩
  have b6 := (Blk.new w 45 #[.string .empty, .int .i64 0, .bool false]).touch t0 (by simp)
  have t1 : Touch [] w w1 := ((Touch.refl [] w).alloc _).trans t0 (by simp)
  have h1 := h.quiet t1
  clear hfold hkn
  obtain ⟨hv, mb, ob, b1, b2, b3, rfl, hnd, hr⟩ := h1
  have c0 := b1.cell 0
  have c1 := b1.cell 1
  simp only [dictCells] at c0 c1
  have hlk := (b2.lookup (P := Tryz.prog) Tryz.underlying52 Tryz.underlying3 (x := 1) rfl).1
  go_wp2_with fail
  clear hlk c0 c1 t0
  have hDw := b1.lt
  have hgw : ∀ g, g ∈ rowOf hv → g < w1.heap.size := fun g hg => row_lt hr hg
  go_loopw [9] (fun i wr => ∃ k : Nat, k ≤ H.length ∧ i = .int .i64 ((k : Int) - 1) ∧ R = lookH H f k ∧ Touch [] w1 wr) (fun i _ => (intOf i + 1).toNat)
  case atStart => exact ⟨H.length, Nat.le_refl _, rfl, hR.symm, Touch.refl _ _⟩
  case round =>
    obtain ⟨k, hk, rfl, hl, tr⟩ := hrel
    have c6 := (b6.touch tr (by simp))
    have e0 := c6.cell 0
    have e1 := c6.cell 1
    have e2 := c6.cell 2
    have f0 := c6.frozen 0
    have f1 := c6.frozen 1
    have f2 := c6.frozen 2
    have h6 := c6.lt
    clear hR
    cases k with
    | zero =>
      go_wp2_with fail
      have bz := c6.three (.string .empty) (.int .i64 0) (.bool false)
      have z0 := bz.cell 0
      have z1 := bz.cell 1
      have z2 := bz.cell 2
      have hz : ({ data := #[] } : ByteArray) = .empty := rfl
      rw [hz]
      subst hl
      refine bodyPost_ret (by simp [results, Tryz.results48, go_sem, z0, z1, z2]; rfl) rfl ⟨rfl, ?_⟩
      ·      · exact ((((t1.trans tr (by simp)).setCell (.inr (Nat.le_refl _)) _).setCell (.inr (Nat.le_refl _)) _).setCell (.inr (Nat.le_refl _)) _)
    | succ k =>
      rw [show ((k + 1 : Nat) : Int) - 1 = (k : Int) by omega]
      have hrr := row_touch hr tr (by simp)
      obtain ⟨g, cap, rfl⟩ : ∃ g cap, hv = .slice (some ⟨g, 0, none⟩) H.length cap := by
        rcases hrr.2 with ⟨_, h0⟩ | ⟨g, cap, cur, h1, _⟩
        · omega
        · exact ⟨g, cap, h1⟩
      have c0 := (b1.touch tr (by simp)).cell 0
      simp only [dictCells] at c0
      have q := fun i (hi : i < 6) => (hrr.cellAt (k * 6 + i) (by omega)).trans (headCells_at H k i (by omega) hi)
      have hlk : lookH H f (k + 1) = if foldB (H.getD k Head.none).name = f then some (H.getD k Head.none) else lookH H f k := rfl
      obtain ⟨x, hx⟩ : ∃ x, H.getD k Head.none = x := ⟨_, rfl⟩
      rw [hx] at q hlk
      have q0 := q 0 (by omega)
      have q1 := q 1 (by omega)
      have q2 := q 2 (by omega)
      have q3 := q 3 (by omega)
      have q4 := q 4 (by omega)
      have q5 := q 5 (by omega)
      simp only [Head.cells, Nat.add_zero] at q0 q1 q2 q3 q4 q5
      have hg1 : ((k : Int) != -1) = true := by simp
      have hgl := hgw g (by simp [rowOf])
      have hsz := tr.size
      clear q
      by_cases hm : foldB x.name = f
      · have hm' : ((foldB x.name).toList == f.toList) = true := by rw [str_beq]; simpa using hm
        rw [if_pos hm] at hlk
        rw [hlk] at hl
        subst hl
        go_wp2_with fail
        have bz := (c6.three (.string x.name) (.int .i64 x.xt) (.bool x.now)).alloc (.cells #[.string x.name, .int .i64 x.xt, .bool x.now, .string f, .int .i64 1, .int .i64 ((k : Int) - 1)] 86)
        have z0 := bz.cell 0
        have z1 := bz.cell 1
        have z2 := bz.cell 2
        refine bodyPost_ret (by simp [results, Tryz.results48, go_sem, z0, z1, z2]; rfl) rfl ⟨rfl, ?_⟩
        exact (((((t1.trans tr (by simp)).setCell (.inr (Nat.le_refl _)) _).setCell (.inr (Nat.le_refl _)) _).setCell (.inr (Nat.le_refl _)) _).alloc _)
      · have hm' : ((foldB x.name).toList == f.toList) = false := by rw [str_beq]; simpa using hm
        rw [if_neg hm] at hlk
        rw [hlk] at hl
        have hDr : D < wr.heap.size := by omega
        have hgr : g < wr.heap.size := by omega
        go_wp2_with fail
        refine ⟨⟨k, by omega, rfl, hl, tr.alloc _⟩, ?_⟩
        simp only [intOf]
        omega

theorem Find_any (w : World) (D : Nat) (F : List Nat) (H : List Head) (h : DictAt w D F H) (s : ByteArray) (hs : s.size ≤ 100000) :
    Calls Tryz.prog 33 #[.pointer (some ⟨D, 0, none⟩), .string s] w fun e w' => e = .returned (foundV (lookH H (foldB s) H.length)) ∧ Touch [] w w' := by
  have hor := fun w' (t : Touch [] w w') => Order_any w' D F H (h.quiet t)
  have hin := fun w' (t : Touch [] w w') => In_any w' D F H (h.quiet t) s hs
  obtain ⟨R, hR⟩ : ∃ R, lookH H (foldB s) H.length = R := ⟨_, rfl⟩
  simp only [hR] at hin ⊢
  clear hR hs h
  go_enter Tryz.func33, Tryz.ntmps33
  go_wp2_with fail
  refine (hor _ ((Touch.refl _ _).alloc _)).mono ?_
  rintro _ w1 ⟨g, c, rfl, cg, t0, hg0, hg1⟩
  have b4 := (Blk.new w 45 #[.string .empty, .int .i64 0, .bool false]).touch t0 (by simp)
  have t1 : Touch [] w w1 := ((Touch.refl [] w).alloc _).trans t0 (by simp)
  clear hor t0
  go_wp2_with fail
  have h4 := b4.lt
  cases R with
  | none =>
    refine wp_loop_rounds 2 ?_
    rw [rounds_succ]
    go_wp2_with fail
    refine (hin _ t1).mono ?_
    rintro _ w2 ⟨rfl, t2⟩
    have b5 := b4.touch t2 (by simp)
    have t3 : Touch [] w w2 := t1.trans t2 (by simp)
    have cg2 := (t2.cell (p := ⟨g, 0, none⟩) hg1 (by simp)).trans cg
    have h5 := b5.lt
    have e0 := b5.cell 0
    have e1 := b5.cell 1
    have e2 := b5.cell 2
    have f0 := b5.frozen 0
    have f1 := b5.frozen 1
    have f2 := b5.frozen 2
    simp only [foundV, Option.getD_none, Head.v, Head.none, Option.isSome_none]
    go_wp2_with fail
    rw [rounds_succ]
    go_wp2_with fail
    have bz := (b5.three (.string .empty) (.int .i64 0) (.bool false)).alloc (.cells #[.string .empty, .int .i64 0, .bool false] 45)
    have z0 := bz.cell 0
    have z1 := bz.cell 1
    have z2 := bz.cell 2
    have hz : ({ data := #[] } : ByteArray) = .empty := rfl
    rw [hz]
    refine bodyPost_ret (by simp [results, Tryz.results33, go_sem, z0, z1, z2]; rfl) rfl ⟨rfl, ?_⟩
    exact (((t3.setCell (.inr (Nat.le_refl _)) _).setCell (.inr (Nat.le_refl _)) _).setCell (.inr (Nat.le_refl _)) _).alloc _
  | some x =>
    refine wp_loop_rounds 1 ?_
    rw [rounds_succ]
    go_wp2_with fail
    refine (hin _ t1).mono ?_
    rintro _ w2 ⟨rfl, t2⟩
    have b5 := b4.touch t2 (by simp)
    have t3 : Touch [] w w2 := t1.trans t2 (by simp)
    have h5 := b5.lt
    have e0 := b5.cell 0
    have e1 := b5.cell 1
    have e2 := b5.cell 2
    have f0 := b5.frozen 0
    have f1 := b5.frozen 1
    have f2 := b5.frozen 2
    simp only [foundV, Option.getD_some, Head.v, Option.isSome_some]
    go_wp2_with fail
    have bz := (b5.three (.string x.name) (.int .i64 x.xt) (.bool x.now)).alloc (.cells #[.string x.name, .int .i64 x.xt, .bool x.now] 45)
    have z0 := bz.cell 0
    have z1 := bz.cell 1
    have z2 := bz.cell 2
    refine bodyPost_ret (by simp [results, Tryz.results33, go_sem, z0, z1, z2]; rfl) rfl ⟨rfl, ?_⟩
    exact (((t3.setCell (.inr (Nat.le_refl _)) _).setCell (.inr (Nat.le_refl _)) _).setCell (.inr (Nat.le_refl _)) _).alloc _
end Go.Proofs.YtgdmiodcfdcihaaGreatDoor
