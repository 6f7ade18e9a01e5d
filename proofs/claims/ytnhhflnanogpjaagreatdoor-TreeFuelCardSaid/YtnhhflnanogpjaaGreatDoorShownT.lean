/- shown: the document's example. -/
import Derived.Test.YtnhhflnanogpjaaGreatDoorTShown
namespace Go.Proofs.YtnhhflnanogpjaaGreatDoor
open Go.RowKit

def shownL : List NodeV := [⟨1, 3, []⟩, ⟨1, 0, []⟩, ⟨8, 0, []⟩, ⟨5, 0, [2]⟩, ⟨3, 0, [0, 1, 3]⟩]
theorem shown_right : rightB shownL 0 = true := by kernel_rfl
theorem shown_mean : meanF shownL 0 [] 100 = ⟨[0, 1, 2], 0, true, (meanF shownL 0 [] 100).steps⟩ := by kernel_rfl
theorem shown_cnt : cntF shownL shownL.length (shownL.length - 1) ≤ 1000000 := by decide +kernel
theorem shown_ok : NodesOk shownL := by
  intro v hv
  simp only [shownL, List.mem_cons, List.not_mem_nil, or_false] at hv
  rcases hv with rfl | rfl | rfl | rfl | rfl <;> exact ⟨by unfold Cell64; decide, by decide⟩
theorem itoa3 : textI 3 = ⟨#[51]⟩ := by
  unfold textI Lib.itoa
  rw [if_neg (by decide), show (3 : Int).toNat = 3 from rfl, Lib.decDigits_one (by decide)]
  rfl
theorem itoa0 : textI 0 = ⟨#[48]⟩ := by
  unfold textI Lib.itoa
  rw [if_neg (by decide), show (0 : Int).toNat = 0 from rfl, Lib.decDigits_one (by decide)]
  rfl
theorem own_num {n : Int} {ws : List ByteArray} (h : OwnW n 1 ws) : ws = [textI n] := by
  rcases h with h | h | h | h | h | h | h
  all_goals first | exact h.2 | (exact absurd h.1 (by decide))
theorem own_i {n : Int} {ws : List ByteArray} (h : OwnW n 8 ws) : ws = [⟨#[105]⟩] := by
  rcases h with h | h | h | h | h | h | h
  all_goals first | exact h.2 | (exact absurd h.1 (by decide))
theorem wordsR_own {l : List NodeV} {d k : Nat} {v : NodeV} (hv : l.getD k NodeV.none = v) (ho : ownKind v.kind) {ws : List ByteArray} (h : wordsR l (d + 1) k ws) : OwnW v.n v.kind ws := by
  unfold wordsR at h
  rw [hv, if_pos ho] at h
  exact h
theorem wordsR_not {l : List NodeV} {d k : Nat} {v : NodeV} (hv : l.getD k NodeV.none = v) (ho : ¬ ownKind v.kind) (h11 : ¬ v.kind = 11) {ws : List ByteArray} (h : wordsR l (d + 1) k ws) :
    ∃ parts : Nat → List ByteArray, (∀ i, i < v.kids.length → wordsR l d (v.kids.getD i 0).toNat (parts i)) ∧ ws = endF v.kind (outA v.kind) (allF (outA v.kind) parts v.kids.length) := by
  unfold wordsR at h
  rw [hv, if_neg ho, if_neg h11] at h
  exact h
theorem shown_words {ws : List ByteArray} (h : wordsR shownL shownL.length (shownL.length - 1) ws) : ws = [⟨#[51]⟩, ⟨#[48]⟩, bDo, ⟨#[105]⟩, bLoop] := by
  obtain ⟨p, hp, rfl⟩ := wordsR_not (d := 4) (k := 4) (v := ⟨3, 0, [0, 1, 3]⟩) rfl (by decide) (by decide) h
  have h0 := own_num (wordsR_own (d := 3) (k := 0) (v := ⟨1, 3, []⟩) rfl (by decide) (hp 0 (by decide)))
  have h1 := own_num (wordsR_own (d := 3) (k := 1) (v := ⟨1, 0, []⟩) rfl (by decide) (hp 1 (by decide)))
  obtain ⟨q, hq, h2⟩ := wordsR_not (d := 3) (k := 3) (v := ⟨5, 0, [2]⟩) rfl (by decide) (by decide) (hp 2 (by decide))
  have h3 := own_i (wordsR_own (d := 2) (k := 2) (v := ⟨8, 0, []⟩) rfl (by decide) (hq 0 (by decide)))
  rw [itoa3] at h0
  rw [itoa0] at h1
  have e2 : p 2 = [bDo, ⟨#[105]⟩, bLoop] := by
    rw [h2]
    show endF 5 (outA 5) (allF (outA 5) q 1) = _
    simp only [allF, h3]
    rfl
  show endF 3 (outA 3) (allF (outA 3) p 3) = _
  simp only [allF, h0, h1, e2]
  rfl
theorem shown_text : textF [⟨#[51]⟩, ⟨#[48]⟩, bDo, ⟨#[105]⟩, bLoop] = ⟨#[51, 32, 48, 32, 63, 100, 111, 32, 105, 32, 108, 111, 111, 112, 32]⟩ := by kernel_rfl

/-- a node in a row -/
theorem shown_nodes {w : World} {g g1 g2 : Nat} (hb : Blk w g 37 #[.int .i64 1, .int .i64 3, .slice none 0 0, .int .i64 1, .int .i64 0, .slice none 0 0, .int .i64 8, .int .i64 0, .slice none 0 0, .int .i64 5, .int .i64 0, .slice (some ⟨g1, 0, none⟩) 1 1, .int .i64 3, .int .i64 0, .slice (some ⟨g2, 0, none⟩) 3 3])
    (h1 : Blk w g1 3 #[.int .i64 2]) (h2 : Blk w g2 3 #[.int .i64 0, .int .i64 1, .int .i64 3]) : NodesAt w (.slice (some ⟨g, 0, none⟩) 5 5) shownL := by
  refine ⟨g, 5, rfl, Nat.le_refl _, fun i hi => ?_⟩
  have hi5 : i < 5 := hi
  rcases (by omega : i = 0 ∨ i = 1 ∨ i = 2 ∨ i = 3 ∨ i = 4) with rfl | rfl | rfl | rfl | rfl
  · exact ⟨.slice none 0 0, hb.cell 0, hb.cell 1, hb.cell 2, .inl ⟨_, _, rfl, rfl⟩⟩
  · exact ⟨.slice none 0 0, hb.cell 3, hb.cell 4, hb.cell 5, .inl ⟨_, _, rfl, rfl⟩⟩
  · exact ⟨.slice none 0 0, hb.cell 6, hb.cell 7, hb.cell 8, .inl ⟨_, _, rfl, rfl⟩⟩
  · exact ⟨_, hb.cell 9, hb.cell 10, hb.cell 11, .inr ⟨g1, 0, 1, rfl, fun j hj => by
      have : j < 1 := hj
      rcases (by omega : j = 0) with rfl
      exact h1.cell 0⟩⟩
  · exact ⟨_, hb.cell 12, hb.cell 13, hb.cell 14, .inr ⟨g2, 0, 3, rfl, fun j hj => by
      have : j < 3 := hj
      rcases (by omega : j = 0 ∨ j = 1 ∨ j = 2) with rfl | rfl | rfl
      · exact h2.cell 0
      · exact h2.cell 1
      · exact h2.cell 2⟩⟩

set_option maxRecDepth 100000 in
set_option maxHeartbeats 1000000 in
theorem shown_any (w : World) (hT : TabsOk w) : Calls Tryz.prog 6 #[] w fun e w' => e = .returned (.bool true) ∧ Touch [] w w' := by
  have hMean := fun (W : World) lv (hN : NodesAt W lv shownL) => Mean_go shownL lv 0 (.slice none 0 0) [] 100 W hN shown_right shown_ok (.inl ⟨rfl, rfl⟩) (fun x hx => by cases hx) (by decide) (by decide)
  rw [shown_mean] at hMean
  have HM := Lib.hid hMean
  have HT := Lib.hid hT
  clear hMean hT
  go_enter Tryz.func6, Tryz.ntmps6
  go_upto_region 2 with fail
  have hN : NodesAt (((w.alloc (Obj.cells #[Value.int IntKind.i64 2] 3)).alloc (Obj.cells #[Value.int IntKind.i64 0, Value.int IntKind.i64 1, Value.int IntKind.i64 3] 3)).alloc (Obj.cells #[Value.int IntKind.i64 1, Value.int IntKind.i64 3, Value.slice none 0 0, Value.int IntKind.i64 1, Value.int IntKind.i64 0, Value.slice none 0 0, Value.int IntKind.i64 8, Value.int IntKind.i64 0, Value.slice none 0 0, Value.int IntKind.i64 5, Value.int IntKind.i64 0, Value.slice (some ⟨w.heap.size, 0, none⟩) 1 1, Value.int IntKind.i64 3, Value.int IntKind.i64 0, Value.slice (some ⟨w.heap.size + 1, 0, none⟩) 3 3] 37)) (.slice (some ⟨w.heap.size + 1 + 1, 0, none⟩) 5 5) shownL :=
    shown_nodes (g1 := w.heap.size) (g2 := w.heap.size + 1) (Blk.new_at _ (by simp) _ _) (((Blk.new w _ _).alloc _).alloc _) ((Blk.new_at _ (by simp) _ _).alloc _)
  have tN : Touch [] w (((w.alloc (Obj.cells #[Value.int IntKind.i64 2] 3)).alloc (Obj.cells #[Value.int IntKind.i64 0, Value.int IntKind.i64 1, Value.int IntKind.i64 3] 3)).alloc (Obj.cells #[Value.int IntKind.i64 1, Value.int IntKind.i64 3, Value.slice none 0 0, Value.int IntKind.i64 1, Value.int IntKind.i64 0, Value.slice none 0 0, Value.int IntKind.i64 8, Value.int IntKind.i64 0, Value.slice none 0 0, Value.int IntKind.i64 5, Value.int IntKind.i64 0, Value.slice (some ⟨w.heap.size, 0, none⟩) 1 1, Value.int IntKind.i64 3, Value.int IntKind.i64 0, Value.slice (some ⟨w.heap.size + 1, 0, none⟩) 3 3] 37)) := (((Touch.refl [] w).alloc _).alloc _).alloc _
  generalize (((w.alloc (Obj.cells #[Value.int IntKind.i64 2] 3)).alloc (Obj.cells #[Value.int IntKind.i64 0, Value.int IntKind.i64 1, Value.int IntKind.i64 3] 3)).alloc (Obj.cells #[Value.int IntKind.i64 1, Value.int IntKind.i64 3, Value.slice none 0 0, Value.int IntKind.i64 1, Value.int IntKind.i64 0, Value.slice none 0 0, Value.int IntKind.i64 8, Value.int IntKind.i64 0, Value.slice none 0 0, Value.int IntKind.i64 5, Value.int IntKind.i64 0, Value.slice (some ⟨w.heap.size, 0, none⟩) 1 1, Value.int IntKind.i64 3, Value.int IntKind.i64 0, Value.slice (some ⟨w.heap.size + 1, 0, none⟩) 3 3] 37)) = W0 at *
  obtain ⟨st, hst⟩ : ∃ st, (meanF shownL 0 [] 100).steps = st := ⟨_, rfl⟩
  have hM := HM.out W0 _ hN
  rw [hst] at hM
  have HN := Lib.hid (And.intro hN tN)
  clear hN tN HM hst
  go_wp2_with fail
  refine hM.mono ?_
  rintro _ w1 ⟨sv, rfl, hrow, t1⟩
  obtain ⟨sa, sc, rfl⟩ := own_slice hrow
  simp only [MeantV.val] at hrow ⊢
  have hrr := row_read hrow
  rw [show ([0, 1, 2] : List Int).length = 3 from rfl] at hrow ⊢
  have hrr : RowC w1 (.slice sa 3 sc) [0, 1, 2] := hrr
  clear hM hrow
  go_upto_region 3 with fail
  have bM := Blk.new w1 29 #[Value.slice sa 3 sc, Value.int IntKind.i64 0, Value.bool true, Value.int IntKind.i64 (st : Int)]
  have tM := (Touch.refl [] w1).alloc (Obj.cells #[Value.slice sa 3 sc, Value.int IntKind.i64 0, Value.bool true, Value.int IntKind.i64 (st : Int)] 29)
  generalize (w1.alloc (Obj.cells #[Value.slice sa 3 sc, Value.int IntKind.i64 0, Value.bool true, Value.int IntKind.i64 (st : Int)] 29)) = W2 at *
  have t2 := t1.trans tM (by simp)
  have hTx := Text_zero shownL _ W2 (HN.out.1.quiet t2) shown_right shown_ok shown_cnt (HT.out.touch (HN.out.2.trans t2 (by simp)))
  have HB := Lib.hid (And.intro bM (And.intro (hrr.quiet tM) (HN.out.2.trans t2 (by simp))))
  clear bM tM hrr t1 t2 HN
  go_wp2_with fail
  refine hTx.mono ?_
  rintro _ w3 ⟨ws, hws, rfl, t3⟩
  obtain rfl := shown_words hws
  rw [shown_text]
  have b3 := HB.out.1.touch t3 (by simp)
  have r3 := HB.out.2.1.quiet t3
  have tt := HB.out.2.2.trans t3 (by simp)
  have m0 := b3.cell 0
  have m1 := b3.cell 1
  have m2 := b3.cell 2
  have hSm := Same_eq (.slice sa 3 sc) (.slice (some ⟨w3.heap.size, 0, none⟩) 3 3) [0, 1, 2] (w3.alloc (Obj.cells #[.int .i64 0, .int .i64 1, .int .i64 2] 34)) (r3.quiet ((Touch.refl [] w3).alloc _)) (RowC.blk (cs := [0, 1, 2]) (Blk.new w3 _ _) 3) (by decide)
  have HTT := Lib.hid (tt.alloc (Obj.cells #[.int .i64 0, .int .i64 1, .int .i64 2] 34))
  clear hTx hws b3 r3 tt HB t3
  go_wp2_with fail
  refine hSm.mono ?_
  rintro _ w4 ⟨rfl, t4⟩
  go_wp2
  go_ret
  exact ⟨rfl, HTT.out.trans t4 (by simp)⟩
end Go.Proofs.YtnhhflnanogpjaaGreatDoor
