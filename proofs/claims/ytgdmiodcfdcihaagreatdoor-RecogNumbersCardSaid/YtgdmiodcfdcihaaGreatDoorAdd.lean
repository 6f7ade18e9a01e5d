/- dict.Dict: Add. -/
import Derived.Test.YtgdmiodcfdcihaaGreatDoorDict2
import Derived.Deep.Cut
import Derived.Deep.RegionLaw
import Derived.Deep.RegionWith
import Derived.Deep.RegionHeld3
import Derived.Deep.AppendLies
namespace Go.Proofs.YtgdmiodcfdcihaaGreatDoor
open Go.RowKit

theorem info_head : (Tryz.prog.info? 86).map (fun i => (i.zero, i.size, i.bytes)) = some (some (.agg #[.string .empty, .int .i64 0, .bool false, .string .empty, .int .i64 0, .int .i64 0]), 6, 64) := by kernel_rfl

theorem headCells_snoc (H : List Head) (x : Head) : headCells (H ++ [x]) = headCells H ++ x.cells H.length := by
  unfold headCells
  rw [List.length_append, List.length_singleton, List.range_succ, List.flatMap_append]
  congr 1
  · rw [List.flatMap_def, List.flatMap_def]
    congr 1
    refine List.map_congr_left fun i hi => ?_
    have : i < H.length := List.mem_range.1 hi
    simp [List.getD_eq_getElem?_getD, List.getElem?_append_left this]
  · simp [List.getD_eq_getElem?_getD]
theorem Head.cells_one (x : Head) (n : Nat) : ∀ u ∈ x.cells n, u.oneCell' = true := by
  intro u hu
  simp [Head.cells] at hu
  rcases hu with rfl | rfl | rfl | rfl | rfl | rfl <;> rfl

theorem Add_empty (w : World) (D : Nat) (xt : Int) : Calls Tryz.prog 22 #[.pointer (some ⟨D, 0, none⟩), .string .empty, .int .i64 xt] w fun e w' => e = .returned (.int .i64 (-16)) ∧ w = w' := by
  have he : (ByteArray.empty).toList.isEmpty = true := by rw [ByteArray.toList_eq]; rfl
  go_enter Tryz.func22, Tryz.ntmps22
  go_wp2_with fail
  go_ret
  exact ⟨rfl, rfl⟩

/-- the five cells of a dictionary -/
structure Five (w : World) (D : Nat) (hv : Value) (mb ob : Nat) : Prop where
  c0 : w.cell? ⟨D, 0, none⟩ = some hv
  c1 : w.cell? ⟨D, 1, none⟩ = some (.map (some mb))
  c4 : w.cell? ⟨D, 4, none⟩ = some (.int .i64 1)
  f0 : w.frozen? ⟨D, 0, none⟩ = false
theorem fiveOf {w : World} {D : Nat} {hv : Value} {mb ob : Nat} (h : Blk w D 55 (dictCells hv mb ob)) : Five w D hv mb ob := ⟨h.cell 0, h.cell 1, h.cell 4, h.frozen 0⟩

/-- a store in a drawn region, by its own run -/
theorem step_store {P : Program} {ops : Array Oper} {o : Oper} {a : Act} {w : World} {K : Act → World → Prop} {Q : Exit → Act → World → Prop} {E : Prop} (hgd : o.guard = none) (t : TypeId) (d x : Operand) (ho : o.op = .store t d x)
    (p u : Value) (hp : a.eval d = p) (hu : a.eval x = u) (W : World) (hrun : (Instr.storeAt t p u).run P w = .ok () W) (h : K (a.put o.dst undef) W) :
    if Region.wanted o (yielded ops a.tmps) = true then Oper.wp P o a w K Q else E := by
  have hw : Region.wanted o (yielded ops a.tmps) = true := by simp [Region.wanted, hgd]
  rw [if_pos hw]
  unfold Oper.wp
  simp [execOp, ho, hp, hu, hrun, Result.andThen]
  exact h

theorem six_touch {a w : World} {g : Nat} (h : Touch [] a w) (hg : a.heap.size ≤ g) (x y z u v t : Value) :
    Touch [] a ((((((w.setCell ⟨g, 0, none⟩ x).setCell ⟨g, 1, none⟩ y).setCell ⟨g, 2, none⟩ z).setCell ⟨g, 3, none⟩ u).setCell ⟨g, 4, none⟩ v).setCell ⟨g, 5, none⟩ t) :=
  (((((h.setCell (.inr hg) x).setCell (.inr hg) y).setCell (.inr hg) z).setCell (.inr hg) u).setCell (.inr hg) v).setCell (.inr hg) t
theorem Blk.six {w : World} {g : Nat} {ty : TypeId} {a b c d e f : Value} (h : Blk w g ty #[a, b, c, d, e, f]) (x y z u v t : Value) :
    Blk ((((((w.setCell ⟨g, 0, none⟩ x).setCell ⟨g, 1, none⟩ y).setCell ⟨g, 2, none⟩ z).setCell ⟨g, 3, none⟩ u).setCell ⟨g, 4, none⟩ v).setCell ⟨g, 5, none⟩ t) g ty #[x, y, z, u, v, t] :=
  (((((h.set_ 0 x).set_ 1 y).set_ 2 z).set_ 3 u).set_ 4 v).set_ 5 t

theorem dict_end {w wc wu w1 : World} {D mb ob g2 cap cap0 : Nat} {a0 : Option Addr} {H : List Head} {o : Obj} (s f : ByteArray) (xt : Int) (hf : foldB s = f)
    (tG : Touch [] w wc) (tU : Touch [mb] wc.drew wu) (iM2 : IMap wu mb (putKey [(1, .int .i64 ((H.length : Int) - 1))] 1 (.int .i64 (H.length : Int)))) (bO1 : Blk wc ob 3 #[.int .i64 1])
    (bD2 : Blk wu D 55 (dictCells (.slice a0 H.length cap0) mb ob)) (hnd : (D :: mb :: ob :: rowOf (.slice a0 H.length cap0)).Nodup) (hDl : D < w.heap.size) (hml : mb < w.heap.size) (hol : ob < w.heap.size)
    (hown : w1.ownsRow 0 86 6 (.slice (some ⟨g2, 0, none⟩) (H.length + 1) cap) (H.length + 1) (headCells H ++ [.string s, .int .i64 xt, .bool false, .string f, .int .i64 1, .int .i64 ((H.length : Int) - 1)]))
    (hgr : (wu.alloc o).drew.grownBy w1 (Value.slice a0 H.length cap0).ownBlock) (hat : (Value.slice a0 H.length cap0).ownBlock = some g2 ∨ g2 = (wu.alloc o).drew.heap.size) :
    ∃ F', DictAt (w1.setCell ⟨D, 0, none⟩ (.slice (some ⟨g2, 0, none⟩) (H.length + 1) cap)) D F' (H ++ [⟨s, xt, false⟩]) ∧ Touch (D :: mb :: ob :: rowOf (.slice a0 H.length cap0)) w (w1.setCell ⟨D, 0, none⟩ (.slice (some ⟨g2, 0, none⟩) (H.length + 1) cap)) ∧
      ∀ q, q ∈ F' → q ∈ D :: mb :: ob :: rowOf (.slice a0 H.length cap0) ∨ w.heap.size ≤ q := by
  have hsz : w.heap.size ≤ wu.heap.size := Nat.le_trans tG.size tU.size
  have hz : (wu.alloc o).drew.heap.size = wu.heap.size + 1 := by simp
  have hnd' := hnd
  simp only [List.nodup_cons, List.mem_cons, not_or] at hnd'
  obtain ⟨⟨hDm, hDo, hDr⟩, ⟨hmo, hmr⟩, hor, _⟩ := hnd'
  have hgD : g2 ≠ D ∧ g2 ≠ mb ∧ g2 ≠ ob := by
    rcases hat with h | h
    · have h2 := rowOf_mem.2 h
      exact ⟨fun e => hDr (e ▸ h2), fun e => hmr (e ▸ h2), fun e => hor (e ▸ h2)⟩
    · refine ⟨?_, ?_, ?_⟩ <;> omega
  have hne : ∀ q, q ∉ rowOf (.slice a0 H.length cap0) → some q ≠ (Value.slice a0 H.length cap0).ownBlock := fun q hq e => hq (rowOf_mem.2 e.symm)
  have t1 : Touch (D :: mb :: ob :: rowOf (.slice a0 H.length cap0)) w wu := (tG.drew.mono (by simp)).trans tU (by simp)
  have t2 : Touch (D :: mb :: ob :: rowOf (.slice a0 H.length cap0)) w w1 := ((t1.alloc o).drew).grown hgr fun k hk => .inl (by simp [rowOf_mem, hk])
  refine ⟨D :: mb :: ob :: rowOf (.slice (some ⟨g2, 0, none⟩) (H.length + 1) cap), ⟨.slice (some ⟨g2, 0, none⟩) (H.length + 1) cap, mb, ob, ?_, ?_, ?_, rfl, ?_, ?_⟩, t2.setCell (by simp) _, ?_⟩
  · exact ((((bD2.alloc o).drew).grown hgr (hne D hDr)).set_ 0 _)
  · have h1 : IMap w1 mb _ := ((iM2.alloc o).drew).block (hgr.block mb (by have := iM2.lt; omega) (hne mb hmr))
    have h2 := h1.setCell (p := ⟨D, 0, none⟩) (fun e => hDm e.symm) (.slice (some ⟨g2, 0, none⟩) (H.length + 1) cap)
    have e : putKey [(1, Value.int .i64 ((H.length : Int) - 1))] 1 (.int .i64 (H.length : Int)) = [(1, .int .i64 ((((H ++ [(⟨s, xt, false⟩ : Head)]).length : Nat) : Int) - 1))] := by
      simp [putKey]
    rw [← e]
    exact h2
  · exact (((((bO1.drew).touch tU (by simp; exact fun e => hmo e.symm)).alloc o).drew).grown hgr (hne ob hor)).far (by exact fun e => hDo e.symm) _
  · simp only [List.nodup_cons, List.mem_cons, not_or, rowOf, List.not_mem_nil, or_false, not_false_eq_true, List.nodup_nil, and_true]
    exact ⟨⟨hDm, hDo, fun e => hgD.1 e.symm⟩, ⟨hmo, fun e => hgD.2.1 e.symm⟩, fun e => hgD.2.2 e.symm⟩
  · rw [headCells_snoc, List.length_append, List.length_singleton]
    have e : (⟨s, xt, false⟩ : Head).cells H.length = [.string s, .int .i64 xt, .bool false, .string f, .int .i64 1, .int .i64 ((H.length : Int) - 1)] := by
      unfold Head.cells
      rw [hf]
    rw [e]
    exact row_touch hown (F := [D]) ((Touch.refl _ _).setCell (by simp) _) (by simp [rowOf]; exact hgD.1)
  · intro q hq
    simp only [rowOf, List.mem_cons, List.not_mem_nil, or_false] at hq
    rcases hq with rfl | rfl | rfl | rfl
    · exact .inl (by simp)
    · exact .inl (by simp)
    · exact .inl (by simp)
    · rcases hat with h | h
      · exact .inl (by simp [rowOf_mem, h])
      · exact .inr (by omega)

/-- what region 9 holds on to -/
structure AddS (w : World) (D mb : Nat) (n : Int) (W : World) : Prop where
  c1 : W.cell? ⟨D, 1, none⟩ = some (.map (some mb))
  c4 : W.cell? ⟨D, 4, none⟩ = some (.int .i64 1)
  lk : (Instr.lookup 52 (.map (some mb)) (.int .i64 1) false).run Tryz.prog W = .ok (.int .i64 n) W
  lt : D < W.heap.size
  t : Touch [] w W

set_option maxRecDepth 100000 in
set_option maxHeartbeats 1200000 in
theorem Add_yes (w : World) (D : Nat) (F : List Nat) (H : List Head) (h : DictAt w D F H) (hH : H.length < 2000) (s : ByteArray) (hs0 : s.size ≠ 0) (hs : s.size ≤ 31) (xt : Int) :
    Calls Tryz.prog 22 #[.pointer (some ⟨D, 0, none⟩), .string s, .int .i64 xt] w fun e w' =>
      e = .returned (.int .i64 0) ∧ ∃ F', DictAt w' D F' (H ++ [⟨s, xt, false⟩]) ∧ Touch F w w' ∧ ∀ f, f ∈ F' → f ∈ F ∨ w.heap.size ≤ f := by
  have hfold := fun w => Fold_any s (by omega) w
  obtain ⟨hv, mb, ob, bD, iM, bO, rfl, hnd, hr⟩ := h
  obtain ⟨a0, cap0, hva⟩ : ∃ a0 cap0, hv = .slice a0 H.length cap0 := by
    rcases hr.2 with ⟨rfl, h0⟩ | ⟨g, cap, cur, h1, _⟩
    · exact ⟨none, 0, by rw [h0]⟩
    · exact ⟨_, cap, h1⟩
  subst hva
  have hne : s.toList.isEmpty = false := by
    rw [ByteArray.toList_eq]
    cases hl : s.data.toList with
    | nil => exact absurd (by rw [← str_size, hl]; rfl) hs0
    | cons c l => rfl
  obtain ⟨c0, c1, c4, f0⟩ := fiveOf bD
  have hDl := bD.lt
  obtain ⟨f, hf⟩ : ∃ f, foldB s = f := ⟨_, rfl⟩
  rw [hf] at hfold
  go_enter Tryz.func22, Tryz.ntmps22
  go_wp2_with fail
  go_cut [7] from 25 (fun s7 wr => ∃ g : Nat, s7 = .pointer (some ⟨g, 0, none⟩) ∧ Blk wr g 86 #[.string s, .int .i64 xt, .bool false, .string f, .int .i64 1, .int .i64 ((H.length : Int) - 1)] ∧ Touch [] w wr ∧ w.heap.size ≤ g)
  case first =>
    have hS : ∀ W, Touch [] w W → AddS w D mb ((H.length : Int) - 1) W := fun W t => by
      obtain ⟨q0, q1, q4, _⟩ := fiveOf (bD.touch t (by simp))
      exact ⟨q1, q4, ((iM.touch t (by simp)).lookup (P := Tryz.prog) Tryz.underlying52 Tryz.underlying3 (x := 1) rfl).1, (bD.touch t (by simp)).lt, t⟩
    have hB : ∀ W g, Blk W g 86 #[.string ⟨#[]⟩, .int .i64 0, .bool false, .string ⟨#[]⟩, .int .i64 0, .int .i64 0] → Touch [] w W → w.heap.size ≤ g → ∃ W6, (Instr.storeAt 86 (.pointer (some ⟨g, 0, none⟩)) (.agg #[.string s, .int .i64 xt, .bool false, .string f, .int .i64 1, .int .i64 ((H.length : Int) - 1)])).run Tryz.prog W = .ok () W6 ∧
        Blk W6 g 86 #[.string s, .int .i64 xt, .bool false, .string f, .int .i64 1, .int .i64 ((H.length : Int) - 1)] ∧ Touch [] w W6 := fun W g bN t7 hg => by
      have k0 := bN.cell 0
      have k1 := bN.cell 1
      have k2 := bN.cell 2
      have k3 := bN.cell 3
      have k4 := bN.cell 4
      have k5 := bN.cell 5
      have j0 := bN.frozen 0
      have j1 := bN.frozen 1
      have j2 := bN.frozen 2
      have j3 := bN.frozen 3
      have j4 := bN.frozen 4
      have j5 := bN.frozen 5
      refine ⟨_, ?_, bN.six _ _ _ _ _ _, six_touch t7 hg _ _ _ _ _ _⟩
      clear hfold hS
      go_simp
    have HB := Lib.hid hB
    have HS := Lib.hid hS
    clear hS hB c0 c1 c4 f0
    refine wp_region_held_drew (S := (AddS w D mb ((H.length : Int) - 1))) (by kernel_rfl) (HS.out _ (Touch.refl _ _).drew) (fun hHeld => ?_)
    refine wpAnyH_take (i := 0) (oi := { dst := some 25, op := Op.move (Operand.tmp 1), type := 9, pos := "dict.go:47", after := #[], guard := none }) (v := ?v0) rfl (by kernel_rfl) (by kernel_rfl) (by kernel_rfl) (fun _ _ _ h => h) (Or.inl ⟨by rfl, ?y0⟩) (by assumption) ?r0
    case y0 =>
      intro W hW
      have s4 := hW.lt
      go_simp
      try with_reducible rfl
    try simp only [Act.put, List.setIfInBounds_toArray, List.set_cons_zero, List.set_cons_succ]
    refine wpAnyH_take (i := 1) (oi := { dst := some 26, op := Op.move (Operand.tmp 2), type := 3, pos := "dict.go:47", after := #[], guard := none }) (v := ?v1) rfl (by kernel_rfl) (by kernel_rfl) (by kernel_rfl) (fun _ _ _ h => h) (Or.inl ⟨by rfl, ?y1⟩) (by assumption) ?r1
    case y1 =>
      intro W hW
      have s4 := hW.lt
      go_simp
      try with_reducible rfl
    try simp only [Act.put, List.setIfInBounds_toArray, List.set_cons_zero, List.set_cons_succ]
    refine wpAnyH_take (i := 2) (oi := { dst := some 27, op := Op.build 45 #[(0, Operand.tmp 25), (1, Operand.tmp 26)], type := 45, pos := "dict.go:47", after := #[{ on := 0, ground := Ground.data }, { on := 1, ground := Ground.data }], guard := none }) (v := ?v2) rfl (by kernel_rfl) (by kernel_rfl) (by kernel_rfl) (fun _ _ _ h => h) (Or.inl ⟨by rfl, ?y2⟩) (by assumption) ?r2
    case y2 =>
      intro W hW
      have s4 := hW.lt
      go_simp
      try with_reducible rfl
    try simp only [Act.put, List.setIfInBounds_toArray, List.set_cons_zero, List.set_cons_succ]
    refine wpAnyH_take (i := 3) (oi := { dst := some 28, op := Op.move (Operand.tmp 1), type := 9, pos := "dict.go:47", after := #[], guard := none }) (v := ?v3) rfl (by kernel_rfl) (by kernel_rfl) (by kernel_rfl) (fun _ _ _ h => h) (Or.inl ⟨by rfl, ?y3⟩) (by assumption) ?r3
    case y3 =>
      intro W hW
      have s4 := hW.lt
      go_simp
      try with_reducible rfl
    try simp only [Act.put, List.setIfInBounds_toArray, List.set_cons_zero, List.set_cons_succ]
    refine wpAnyH_take (i := 5) (oi := { dst := some 30, op := Op.move (Operand.tmp 0), type := 24, pos := "dict.go:47", after := #[], guard := none }) (v := ?v5) rfl (by kernel_rfl) (by kernel_rfl) (by kernel_rfl) (fun _ _ _ h => h) (Or.inl ⟨by rfl, ?y5⟩) (by assumption) ?r5
    case y5 =>
      intro W hW
      have s4 := hW.lt
      go_simp
      try with_reducible rfl
    try simp only [Act.put, List.setIfInBounds_toArray, List.set_cons_zero, List.set_cons_succ]
    refine wpAnyH_take (i := 6) (oi := { dst := some 31, op := Op.nilCheck (Operand.tmp 30), type := 0, pos := "dict.go:47", after := #[{ on := 5, ground := Ground.data }], guard := none }) (v := ?v6) rfl (by kernel_rfl) (by kernel_rfl) (by kernel_rfl) (fun _ _ _ h => h) (Or.inl ⟨by rfl, ?y6⟩) (by assumption) ?r6
    case y6 =>
      intro W hW
      have s4 := hW.lt
      go_simp
      try with_reducible rfl
    try simp only [Act.put, List.setIfInBounds_toArray, List.set_cons_zero, List.set_cons_succ]
    refine wpAnyH_take (i := 7) (oi := { dst := some 32, op := Op.fieldAddr 55 (Operand.tmp 31) 4, type := 0, pos := "dict.go:47", after := #[{ on := 6, ground := Ground.data }], guard := none }) (v := ?v7) rfl (by kernel_rfl) (by kernel_rfl) (by kernel_rfl) (fun _ _ _ h => h) (Or.inl ⟨by rfl, ?y7⟩) (by assumption) ?r7
    case y7 =>
      intro W hW
      have s4 := hW.lt
      go_simp
      try with_reducible rfl
    try simp only [Act.put, List.setIfInBounds_toArray, List.set_cons_zero, List.set_cons_succ]
    refine wpAnyH_take (i := 8) (oi := { dst := some 33, op := Op.load 3 (Operand.tmp 32), type := 3, pos := "dict.go:47", after := #[{ on := 7, ground := Ground.data }], guard := none }) (v := ?v8) rfl (by kernel_rfl) (by kernel_rfl) (by kernel_rfl) (fun _ _ _ h => h) (Or.inl ⟨by rfl, ?y8⟩) (by assumption) ?r8
    case y8 =>
      intro W hW
      have s1 := hW.c1
      have s2 := hW.c4
      have s3 := hW.lk
      have s4 := hW.lt
      go_simp
      try with_reducible rfl
    try simp only [Act.put, List.setIfInBounds_toArray, List.set_cons_zero, List.set_cons_succ]
    refine wpAnyH_take (i := 9) (oi := { dst := some 34, op := Op.move (Operand.tmp 0), type := 24, pos := "dict.go:47", after := #[], guard := none }) (v := ?v9) rfl (by kernel_rfl) (by kernel_rfl) (by kernel_rfl) (fun _ _ _ h => h) (Or.inl ⟨by rfl, ?y9⟩) (by assumption) ?r9
    case y9 =>
      intro W hW
      have s4 := hW.lt
      go_simp
      try with_reducible rfl
    try simp only [Act.put, List.setIfInBounds_toArray, List.set_cons_zero, List.set_cons_succ]
    refine wpAnyH_take (i := 10) (oi := { dst := some 35, op := Op.nilCheck (Operand.tmp 34), type := 0, pos := "dict.go:47", after := #[{ on := 9, ground := Ground.data }], guard := none }) (v := ?v10) rfl (by kernel_rfl) (by kernel_rfl) (by kernel_rfl) (fun _ _ _ h => h) (Or.inl ⟨by rfl, ?y10⟩) (by assumption) ?r10
    case y10 =>
      intro W hW
      have s4 := hW.lt
      go_simp
      try with_reducible rfl
    try simp only [Act.put, List.setIfInBounds_toArray, List.set_cons_zero, List.set_cons_succ]
    refine wpAnyH_take (i := 11) (oi := { dst := some 36, op := Op.fieldAddr 55 (Operand.tmp 35) 1, type := 0, pos := "dict.go:47", after := #[{ on := 10, ground := Ground.data }], guard := none }) (v := ?v11) rfl (by kernel_rfl) (by kernel_rfl) (by kernel_rfl) (fun _ _ _ h => h) (Or.inl ⟨by rfl, ?y11⟩) (by assumption) ?r11
    case y11 =>
      intro W hW
      have s4 := hW.lt
      go_simp
      try with_reducible rfl
    try simp only [Act.put, List.setIfInBounds_toArray, List.set_cons_zero, List.set_cons_succ]
    refine wpAnyH_take (i := 12) (oi := { dst := some 37, op := Op.load 52 (Operand.tmp 36), type := 52, pos := "dict.go:47", after := #[{ on := 11, ground := Ground.data }], guard := none }) (v := ?v12) rfl (by kernel_rfl) (by kernel_rfl) (by kernel_rfl) (fun _ _ _ h => h) (Or.inl ⟨by rfl, ?y12⟩) (by assumption) ?r12
    case y12 =>
      intro W hW
      have s1 := hW.c1
      have s2 := hW.c4
      have s3 := hW.lk
      have s4 := hW.lt
      go_simp
      try with_reducible rfl
    try simp only [Act.put, List.setIfInBounds_toArray, List.set_cons_zero, List.set_cons_succ]
    refine wpAnyH_take (i := 13) (oi := { dst := some 38, op := Op.move (Operand.tmp 0), type := 24, pos := "dict.go:47", after := #[], guard := none }) (v := ?v13) rfl (by kernel_rfl) (by kernel_rfl) (by kernel_rfl) (fun _ _ _ h => h) (Or.inl ⟨by rfl, ?y13⟩) (by assumption) ?r13
    case y13 =>
      intro W hW
      have s4 := hW.lt
      go_simp
      try with_reducible rfl
    try simp only [Act.put, List.setIfInBounds_toArray, List.set_cons_zero, List.set_cons_succ]
    refine wpAnyH_take (i := 14) (oi := { dst := some 39, op := Op.nilCheck (Operand.tmp 38), type := 0, pos := "dict.go:47", after := #[{ on := 13, ground := Ground.data }], guard := none }) (v := ?v14) rfl (by kernel_rfl) (by kernel_rfl) (by kernel_rfl) (fun _ _ _ h => h) (Or.inl ⟨by rfl, ?y14⟩) (by assumption) ?r14
    case y14 =>
      intro W hW
      have s4 := hW.lt
      go_simp
      try with_reducible rfl
    try simp only [Act.put, List.setIfInBounds_toArray, List.set_cons_zero, List.set_cons_succ]
    refine wpAnyH_take (i := 15) (oi := { dst := some 40, op := Op.fieldAddr 55 (Operand.tmp 39) 4, type := 0, pos := "dict.go:47", after := #[{ on := 14, ground := Ground.data }], guard := none }) (v := ?v15) rfl (by kernel_rfl) (by kernel_rfl) (by kernel_rfl) (fun _ _ _ h => h) (Or.inl ⟨by rfl, ?y15⟩) (by assumption) ?r15
    case y15 =>
      intro W hW
      have s4 := hW.lt
      go_simp
      try with_reducible rfl
    try simp only [Act.put, List.setIfInBounds_toArray, List.set_cons_zero, List.set_cons_succ]
    refine wpAnyH_take (i := 16) (oi := { dst := some 41, op := Op.load 3 (Operand.tmp 40), type := 3, pos := "dict.go:47", after := #[{ on := 15, ground := Ground.data }], guard := none }) (v := ?v16) rfl (by kernel_rfl) (by kernel_rfl) (by kernel_rfl) (fun _ _ _ h => h) (Or.inl ⟨by rfl, ?y16⟩) (by assumption) ?r16
    case y16 =>
      intro W hW
      have s1 := hW.c1
      have s2 := hW.c4
      have s3 := hW.lk
      have s4 := hW.lt
      go_simp
      try with_reducible rfl
    try simp only [Act.put, List.setIfInBounds_toArray, List.set_cons_zero, List.set_cons_succ]
    refine wpAnyH_take (i := 17) (oi := { dst := some 42, op := Op.lookup 52 (Operand.tmp 37) (Operand.tmp 41) false, type := 3, pos := "dict.go:47", after := #[{ on := 12, ground := Ground.data }, { on := 16, ground := Ground.data }], guard := none }) (v := ?v17) rfl (by kernel_rfl) (by kernel_rfl) (by kernel_rfl) (fun _ _ _ h => h) (Or.inl ⟨by rfl, ?y17⟩) (by assumption) ?r17
    case y17 =>
      intro W hW
      have s1 := hW.c1
      have s2 := hW.c4
      have s3 := hW.lk
      have s4 := hW.lt
      go_simp
      try with_reducible rfl
    try simp only [Act.put, List.setIfInBounds_toArray, List.set_cons_zero, List.set_cons_succ]
    refine wpAnyH_ready (rs := [4, 19]) (by kernel_rfl) (by simp) ?_
    refine AllReadyH.cons (o := { dst := some 29, op := Op.call { callee := Callee.value (Operand.func 41), args := #[Operand.tmp 28], argTypes := #[9] }, type := 9, pos := "dict.go:47", after := #[{ on := 3, ground := Ground.data }], guard := none }) rfl (fun K hK => ?_) ?_
    · have d5 := hHeld.t
      go_simp
      refine (hfold _).mono ?_
      rintro _ w5 ⟨rfl, t5⟩
      go_wp2_with fail
      have t6 := d5.trans t5 (by simp)
      refine hK.out _ _ (HS.out _ t6) (fun hH2 => ?_)
      clear hK K
      try simp only [Act.put, List.setIfInBounds_toArray, List.set_cons_zero, List.set_cons_succ]
      refine wpAnyH_take (i := 18) (oi := { dst := some 43, op := Op.build 86 #[(0, Operand.tmp 27), (1, Operand.tmp 29), (2, Operand.tmp 33), (3, Operand.tmp 42)], type := 86, pos := "dict.go:47", after := #[{ on := 2, ground := Ground.data }, { on := 4, ground := Ground.data }, { on := 8, ground := Ground.data }, { on := 17, ground := Ground.data }], guard := none }) (v := ?v18) rfl (by kernel_rfl) (by kernel_rfl) (by kernel_rfl) (fun _ _ _ h => h) (Or.inl ⟨by rfl, ?y18⟩) (by assumption) ?r18
      case y18 =>
        intro W hW
        have s4 := hW.lt
        go_simp
        try with_reducible rfl
      try simp only [Act.put, List.setIfInBounds_toArray, List.set_cons_zero, List.set_cons_succ]
      refine wpAnyH_ready (rs := [19]) (by kernel_rfl) (by simp) ?_
      refine AllReadyH.cons (o := { dst := some 7, op := Op.alloc 86, type := 0, pos := "dict.go:47", after := #[], guard := none }) rfl (fun K hK => ?_) ?_
      · go_simp
        have bN := Blk.new w5 86 #[.string ⟨#[]⟩, .int .i64 0, .bool false, .string ⟨#[]⟩, .int .i64 0, .int .i64 0]
        have t7 := t6.alloc (.cells #[.string ⟨#[]⟩, .int .i64 0, .bool false, .string ⟨#[]⟩, .int .i64 0, .int .i64 0] 86)
        have hge : w.heap.size ≤ w5.heap.size := t6.size
        refine hK.out _ _ (HS.out _ t7) (fun hH3 => ?_)
        clear hK K
        try simp only [Act.put, List.setIfInBounds_toArray, List.set_cons_zero, List.set_cons_succ]
        obtain ⟨W6, hrun6, b6, t8⟩ := HB.out _ _ bN t7 hge
        clear HB hHeld hH2 hH3
        refine wpAnyH_ready (rs := [20]) (by kernel_rfl) (by simp) ?_
        refine AllReadyH.cons (o := { dst := none, op := Op.store 86 (Operand.tmp 7) (Operand.tmp 43), type := 0, pos := "dict.go:47", after := #[{ on := 19, ground := Ground.data }, { on := 18, ground := Ground.data }, { on := 4, ground := Ground.chain }, { on := 0, ground := Ground.phase }, { on := 1, ground := Ground.phase }, { on := 2, ground := Ground.phase }, { on := 3, ground := Ground.phase }, { on := 4, ground := Ground.phase }, { on := 5, ground := Ground.phase }, { on := 6, ground := Ground.phase }, { on := 7, ground := Ground.phase }, { on := 8, ground := Ground.phase }, { on := 9, ground := Ground.phase }, { on := 10, ground := Ground.phase }, { on := 11, ground := Ground.phase }, { on := 12, ground := Ground.phase }, { on := 13, ground := Ground.phase }, { on := 14, ground := Ground.phase }, { on := 15, ground := Ground.phase }, { on := 16, ground := Ground.phase }, { on := 17, ground := Ground.phase }, { on := 18, ground := Ground.phase }, { on := 19, ground := Ground.phase }], guard := none }) rfl (fun K hK => ?_) ?_
        · refine step_store rfl 86 _ _ rfl _ _ rfl rfl W6 hrun6 ?_
          refine hK.out _ _ (HS.out _ t8) (fun hH4 => ?_)
          clear hK K
          refine wpAnyH_done (by kernel_rfl) ?_ _
          clear hH4
          go_wp2_with fail
          go_meet
          case rel =>
            exact ⟨_, rfl, b6, t8, hge⟩
        · exact AllReadyH.nil
      · exact AllReadyH.nil
    refine AllReadyH.cons (o := { dst := some 7, op := Op.alloc 86, type := 0, pos := "dict.go:47", after := #[], guard := none }) rfl (fun K hK => ?_) ?_
    · go_simp
      have bN := (Blk.new w.drew 86 #[.string ⟨#[]⟩, .int .i64 0, .bool false, .string ⟨#[]⟩, .int .i64 0, .int .i64 0])
      have t7 := (Touch.refl [] w).drew.alloc (.cells #[.string ⟨#[]⟩, .int .i64 0, .bool false, .string ⟨#[]⟩, .int .i64 0, .int .i64 0] 86)
      have hge : w.heap.size ≤ w.drew.heap.size := Nat.le_refl _
      refine hK.out _ _ (HS.out _ t7) (fun hH2 => ?_)
      clear hK K
      try simp only [Act.put, List.setIfInBounds_toArray, List.set_cons_zero, List.set_cons_succ]
      refine wpAnyH_ready (rs := [4]) (by kernel_rfl) (by simp) ?_
      refine AllReadyH.cons (o := { dst := some 29, op := Op.call { callee := Callee.value (Operand.func 41), args := #[Operand.tmp 28], argTypes := #[9] }, type := 9, pos := "dict.go:47", after := #[{ on := 3, ground := Ground.data }], guard := none }) rfl (fun K hK => ?_) ?_
      · go_simp
        refine (hfold _).mono ?_
        rintro _ w5 ⟨rfl, t5⟩
        have bM := bN.touch t5 (by simp)
        have t6 := t7.trans t5 (by simp)
        clear bN t7 t5 hfold
        go_wp2_with fail
        refine hK.out _ _ (HS.out _ t6) (fun hH3 => ?_)
        clear hK K
        try simp only [Act.put, List.setIfInBounds_toArray, List.set_cons_zero, List.set_cons_succ]
        refine wpAnyH_take (i := 18) (oi := { dst := some 43, op := Op.build 86 #[(0, Operand.tmp 27), (1, Operand.tmp 29), (2, Operand.tmp 33), (3, Operand.tmp 42)], type := 86, pos := "dict.go:47", after := #[{ on := 2, ground := Ground.data }, { on := 4, ground := Ground.data }, { on := 8, ground := Ground.data }, { on := 17, ground := Ground.data }], guard := none }) (v := ?v18b) rfl (by kernel_rfl) (by kernel_rfl) (by kernel_rfl) (fun _ _ _ h => h) (Or.inl ⟨by rfl, ?y18b⟩) (by assumption) ?r18b
        case y18b =>
          intro W hW
          have s4 := hW.lt
          go_simp
          try with_reducible rfl
        try simp only [Act.put, List.setIfInBounds_toArray, List.set_cons_zero, List.set_cons_succ]
        obtain ⟨W6, hrun6, b6, t8⟩ := HB.out _ _ bM t6 hge
        clear HB hHeld hH2
        refine wpAnyH_ready (rs := [20]) (by kernel_rfl) (by simp) ?_
        refine AllReadyH.cons (o := { dst := none, op := Op.store 86 (Operand.tmp 7) (Operand.tmp 43), type := 0, pos := "dict.go:47", after := #[{ on := 19, ground := Ground.data }, { on := 18, ground := Ground.data }, { on := 4, ground := Ground.chain }, { on := 0, ground := Ground.phase }, { on := 1, ground := Ground.phase }, { on := 2, ground := Ground.phase }, { on := 3, ground := Ground.phase }, { on := 4, ground := Ground.phase }, { on := 5, ground := Ground.phase }, { on := 6, ground := Ground.phase }, { on := 7, ground := Ground.phase }, { on := 8, ground := Ground.phase }, { on := 9, ground := Ground.phase }, { on := 10, ground := Ground.phase }, { on := 11, ground := Ground.phase }, { on := 12, ground := Ground.phase }, { on := 13, ground := Ground.phase }, { on := 14, ground := Ground.phase }, { on := 15, ground := Ground.phase }, { on := 16, ground := Ground.phase }, { on := 17, ground := Ground.phase }, { on := 18, ground := Ground.phase }, { on := 19, ground := Ground.phase }], guard := none }) rfl (fun K hK => ?_) ?_
        · refine step_store rfl 86 _ _ rfl _ _ rfl rfl W6 hrun6 ?_
          refine hK.out _ _ (HS.out _ t8) (fun hH4 => ?_)
          clear hK K
          refine wpAnyH_done (by kernel_rfl) ?_ _
          clear hH4
          go_wp2_with fail
          go_meet
          case rel =>
            exact ⟨_, rfl, b6, t8, hge⟩
        · exact AllReadyH.nil
      · exact AllReadyH.nil
    · exact AllReadyH.nil
  case rest =>
    obtain ⟨g, rfl, bG, tG, hgw⟩ := hcut
    clear hfold c0 c1 c4 f0
    have bD1 := bD.touch tG (by simp)
    have iM1 := iM.touch tG (by simp)
    have bO1 := bO.touch tG (by simp)
    have hr1 := row_touch hr tG (by simp)
    obtain ⟨wu, hrunU, iM2, tU⟩ := (iM1.drew).update (P := Tryz.prog) Tryz.underlying52 Tryz.underlying3 1 (.int .i64 (H.length : Int))
    obtain ⟨c0, c1, c4, f0⟩ := fiveOf bD1
    have hDl1 := bD1.lt
    have hml := iM.lt
    have hol := bO.lt
    have hdm : D ∉ [mb] := by simp only [List.nodup_cons, List.mem_cons] at hnd; simp; omega
    have hom : ob ∉ [mb] := by simp only [List.nodup_cons, List.mem_cons] at hnd; simp; omega
    have bD2 := (bD1.drew).touch tU hdm
    have HE := Lib.hid (And.intro bG (And.intro tG (And.intro tU (And.intro iM2 (And.intro bO1 hr1)))))
    clear bG tG tU iM2 bO1 hr1 bD iM bO hr iM1 bD1
    have hDrow : D ∉ rowOf (.slice a0 H.length cap0) := by simp only [List.nodup_cons, List.mem_cons] at hnd; exact fun h => hnd.1 (.inr (.inr h))
    have hmrow : mb ∉ rowOf (.slice a0 H.length cap0) := by simp only [List.nodup_cons, List.mem_cons] at hnd; exact fun h => hnd.2.1 (.inr h)
    have HV : Hid (some D ≠ (Value.slice a0 H.length cap0).ownBlock) := fun e => hDrow (rowOf_mem.2 e.symm)
    have HA : Hid (H.length + 1 ≤ maxLen) := by show _ ≤ maxLen; unfold maxLen; omega
    have HB2 : Hid ((H.length + 1) * 64 ≤ 140737488355328) := by show (H.length + 1) * 64 ≤ 140737488355328; omega
    obtain ⟨i0, hi, hz0, hz1, hz2⟩ := info_parts info_head
    have HN := Lib.hid (World.news_of_block (heap_alloc_new wu (.cells #[.string s, .int .i64 xt, .bool false, .string f, .int .i64 1, .int .i64 ((H.length : Int) - 1)] 86)))
    have HR := Lib.hid (row_touch (row_drewN HE.out.2.2.2.2.2 1) HE.out.2.2.1 (fun q hq => by simp only [List.mem_singleton]; rintro rfl; exact hmrow hq))
    go_upto_region 10 with fail
    go_region
    clear c0 c1 c4 f0 hrunU
    have bG2 := ((HE.out.1).drew).touch HE.out.2.2.1 (by simp; omega)
    have k0 := bG2.cell 0
    have k1 := bG2.cell 1
    have k2 := bG2.cell 2
    have k3 := bG2.cell 3
    have k4 := bG2.cell 4
    have k5 := bG2.cell 5
    have hgu := bG2.lt
    have hDu := bD2.lt
    obtain ⟨c0, c1, c4, f0⟩ := fiveOf bD2
    clear c1 c4 bG2
    go_upto_region 11 with fail
    go_region_law (refine step_append_lies _ rfl (.tmp 61) (.tmp 63) 53 rfl 0 86 i0 _ 6 64 Tryz.underlying53 hi hz0 hz1 hz2 rfl (by omega) (.slice a0 H.length cap0) H.length (headCells H) (by simp [Act.eval]) (HR.out.alloc _) ⟨wu.heap.size, 0, none⟩ 1 1 [.string s, .int .i64 xt, .bool false, .string f, .int .i64 1, .int .i64 ((H.length : Int) - 1)] (by simp [Act.eval]) rfl HN.out (by simp [Value.oneCell']) (by omega) HA.out HB2.out (Nat.zero_le _) _ rfl ?_; intro g2 cap w1 hown hgr hat hlt; obtain ⟨d0, _, _, e0⟩ := fiveOf (((bD2.alloc _).drew).grown hgr HV.out); have HG := Lib.hid (And.intro hown (And.intro hgr (And.intro hat hlt))); clear hown hgr hat hlt)
    all_goals clear k0 k1 k2 k3 k4 k5 c0 f0
    all_goals go_wp2_with fail
    all_goals go_ret
    all_goals exact ⟨rfl, by simpa only [List.mem_cons] using dict_end s f xt hf HE.out.2.1 HE.out.2.2.1 HE.out.2.2.2.1 HE.out.2.2.2.2.1 bD2 hnd hDl hml hol HG.out.1 HG.out.2.1 HG.out.2.2.1⟩
end Go.Proofs.YtgdmiodcfdcihaaGreatDoor
