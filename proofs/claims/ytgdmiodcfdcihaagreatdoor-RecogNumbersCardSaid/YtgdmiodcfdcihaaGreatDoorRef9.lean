/- rhytonref09.Dict: New, Add, Now. -/
import Derived.Test.YtgdmiodcfdcihaaGreatDoorNow
namespace Go.Proofs.YtgdmiodcfdcihaaGreatDoor
open Go.RowKit

theorem info_one9 : (Tryz.prog.info? 88).map (fun i => (i.zero, i.size, i.bytes)) = some (some (.agg #[.string .empty, .int .i64 0, .bool false, .int .i64 0]), 4, 40) := by kernel_rfl

def Head.refCells (h : Head) : List Value := [.string h.name, .int .i64 h.xt, .bool h.now, .int .i64 1]
/-- words as the document's dictionary keeps them -/
def refCells (H : List Head) : List Value := H.flatMap Head.refCells
theorem refCells_len (H : List Head) : (refCells H).length = H.length * 4 := by
  unfold refCells
  induction H with
  | nil => rfl
  | cons x r ih => rw [List.flatMap_cons, List.length_append, ih, List.length_cons, show x.refCells.length = 4 from rfl]; omega
theorem refCells_snoc (H : List Head) (x : Head) : refCells (H ++ [x]) = refCells H ++ x.refCells := by simp [refCells]
theorem refCells_one (H : List Head) : ∀ u ∈ refCells H, u.oneCell' = true := by
  intro u hu
  simp only [refCells, List.mem_flatMap] at hu
  obtain ⟨x, _, hx⟩ := hu
  simp only [Head.refCells, List.mem_cons, List.not_mem_nil, or_false] at hx
  rcases hx with rfl | rfl | rfl | rfl <;> rfl

/-- the document's dictionary of one list, at block R, over the blocks F -/
def RefAt (w : World) (R : Nat) (F : List Nat) (H : List Head) : Prop :=
  ∃ v ob, Blk w R 74 #[v, .int .i64 1, .slice (some ⟨ob, 0, none⟩) 1 1, .int .i64 1] ∧ Blk w ob 3 #[.int .i64 1] ∧ F = R :: ob :: rowOf v ∧ F.Nodup ∧
    w.ownsRow 0 88 4 v H.length (refCells H) ∧ (H = [] → v = .slice none 0 0)
section
variable {w w' : World} {R : Nat} {F G : List Nat} {H : List Head}
theorem RefAt.touch (h : RefAt w R F H) (ht : Touch G w w') (hn : ∀ f, f ∈ F → f ∉ G) : RefAt w' R F H := by
  obtain ⟨v, ob, h1, h2, rfl, h5, h6, h7⟩ := h
  exact ⟨v, ob, h1.touch ht (hn _ (by simp)), h2.touch ht (hn _ (by simp)), rfl, h5, row_touch h6 ht fun g hg => hn g (by simp [hg]), h7⟩
theorem RefAt.lt (h : RefAt w R F H) : ∀ f, f ∈ F → f < w.heap.size := by
  obtain ⟨v, ob, h1, h2, rfl, h5, h6, h7⟩ := h
  intro f hf
  simp only [List.mem_cons] at hf
  rcases hf with rfl | rfl | hf
  · exact h1.lt
  · exact h2.lt
  · exact row_lt h6 hf
end

theorem RNew_any (w : World) : Calls Tryz.prog 21 #[] w fun e w' => ∃ R F, e = .returned (.pointer (some ⟨R, 0, none⟩)) ∧ RefAt w' R F [] ∧ Touch [] w w' ∧ ∀ f, f ∈ F → w.heap.size ≤ f := by
  go_enter Tryz.func21, Tryz.ntmps21
  go_wp2_with fail
  go_ret
  have b0 := (Blk.new w 3 #[.int .i64 1]).alloc (.cells #[.slice none 0 0, .int .i64 1, .slice (some ⟨w.heap.size, 0, none⟩) 1 1, .int .i64 1] 74)
  have b1 := Blk.new_at (n := w.heap.size + 1) (w.alloc (.cells #[.int .i64 1] 3)) (by simp) 74 #[.slice none 0 0, .int .i64 1, .slice (some ⟨w.heap.size, 0, none⟩) 1 1, .int .i64 1]
  exact ⟨w.heap.size + 1, _, rfl, ⟨.slice none 0 0, w.heap.size, b1, b0, rfl, by simp [rowOf], World.ownsRow_nil _ _ _ _, fun _ => rfl⟩, ((Touch.refl _ _).alloc _).alloc _, by simp [rowOf]⟩

theorem ref_end {w w1 : World} {R : Nat} {F : List Nat} {H : List Head} {g2 cap N : Nat} (x : Head) (h : RefAt w R F H) (t1 : Touch [] w w1) (hN : N = H.length + 1)
    (hown : w1.ownsRow 0 88 4 (.slice (some ⟨g2, 0, none⟩) N cap) N (refCells H ++ x.refCells)) (hg : w.heap.size ≤ g2) :
    ∃ F', RefAt (w1.setCell ⟨R, 0, none⟩ (.slice (some ⟨g2, 0, none⟩) N cap)) R F' (H ++ [x]) ∧ Touch F w (w1.setCell ⟨R, 0, none⟩ (.slice (some ⟨g2, 0, none⟩) N cap)) ∧ ∀ q, q ∈ F' → q ∈ F ∨ w.heap.size ≤ q := by
  obtain ⟨v, ob, h1, h2, rfl, h5, h6, h7⟩ := h
  subst hN
  have hRl := h1.lt
  have hol := h2.lt
  have hRo : R ≠ ob := by
    simp only [List.nodup_cons, List.mem_cons, not_or] at h5
    exact h5.1.1
  refine ⟨R :: ob :: rowOf (.slice (some ⟨g2, 0, none⟩) (H.length + 1) cap), ⟨_, ob, (h1.touch t1 (by simp)).set_ 0 _, (h2.touch t1 (by simp)).far (p := ⟨R, 0, none⟩) (fun e => hRo e.symm) _, rfl, ?_, ?_, by simp⟩, (t1.mono (by simp)).setCell (by simp) _, ?_⟩
  · simp only [rowOf, List.nodup_cons, List.mem_cons, List.not_mem_nil, or_false, not_or, not_false_eq_true, List.nodup_nil, and_true]
    exact ⟨⟨hRo, by omega⟩, by omega⟩
  · rw [refCells_snoc, List.length_append, List.length_singleton]
    exact row_touch hown (F := [R]) ((Touch.refl _ _).setCell (by simp) _) (by simp [rowOf]; omega)
  · intro q hq
    simp only [rowOf, List.mem_cons, List.not_mem_nil, or_false] at hq
    rcases hq with rfl | rfl | rfl
    · exact .inl (by simp)
    · exact .inl (by simp)
    · exact .inr hg

theorem row_lit_at {w : World} {b : Nat} (hb : w.heap.size = b) : (w.alloc (.cells #[] 88)).ownsRow 0 88 4 (.slice (some ⟨b, 0, none⟩) 0 0) 0 [] := by
  subst hb
  exact World.ownsRow_lit w #[] 0 (Nat.zero_le _) (by decide) rfl

theorem ref_fin {w w1 : World} {A B : Obj} {b n c g2 : Nat} (hgr : ((w.alloc A).alloc B).drew.grownBy w1 (Value.slice (some ⟨b, 0, none⟩) n c).ownBlock)
    (hat : (Value.slice (some ⟨b, 0, none⟩) n c).ownBlock = some g2 ∨ g2 = ((w.alloc A).alloc B).drew.heap.size) (hb : w.heap.size ≤ b) : Touch [] w w1 ∧ w.heap.size ≤ g2 := by
  refine ⟨((((Touch.refl [] w).alloc A).alloc B).drew).grown hgr (fun k hk => .inr ?_), ?_⟩
  · simp [Value.ownBlock] at hk
    omega
  · rcases hat with h | h
    · simp [Value.ownBlock] at h
      omega
    · simp at h
      omega

set_option maxRecDepth 100000 in
set_option maxHeartbeats 2400000 in
theorem RAdd_first (w : World) (R : Nat) (F : List Nat) (h : RefAt w R F []) (s : ByteArray) (hs0 : s.size ≠ 0) (hs : s.size ≤ 31) (xt : Int) :
    Calls Tryz.prog 23 #[.pointer (some ⟨R, 0, none⟩), .string s, .int .i64 xt] w fun e w' =>
      e = .returned (.int .i64 0) ∧ ∃ F', RefAt w' R F' [⟨s, xt, false⟩] ∧ Touch F w w' ∧ ∀ q, q ∈ F' → q ∈ F ∨ w.heap.size ≤ q := by
  have HE := Lib.hid h
  obtain ⟨v, ob, h1, h2, rfl, h5, h6, h7⟩ := h
  obtain rfl := h7 rfl
  have c0 := h1.cell 0
  have c3 := h1.cell 3
  have f0 := h1.frozen 0
  have hRl := h1.lt
  have hs0' : ((s.size : Int) == 0) = false := beq_eq_false_iff_ne.2 (by omega)
  have HR : Hid (∀ W, Touch [] w W → W.cell? ⟨R, 0, none⟩ = some (.slice none 0 0) ∧ W.frozen? ⟨R, 0, none⟩ = false ∧ R < W.heap.size) := fun W t => ⟨(h1.touch t (by simp)).cell 0, (h1.touch t (by simp)).frozen 0, (h1.touch t (by simp)).lt⟩
  clear h1 h2 h5 h6 h7
  obtain ⟨i0, hi, hz0, hz1, hz2⟩ := info_parts info_one9
  have HA : Hid (0 + 1 ≤ maxLen) := by show _ ≤ maxLen; decide
  have HB : Hid ((0 + 1) * 40 ≤ 140737488355328) := by show (0 + 1) * 40 ≤ 140737488355328; omega
  go_enter Tryz.func23, Tryz.ntmps23
  go_upto_region 7 with (fail)
  go_region_law (refine step_append_lies _ rfl (.tmp 25) (.tmp 34) 72 rfl 0 88 i0 _ 4 40 Tryz.underlying72 hi hz0 hz1 hz2 rfl (by omega) (.slice (some ⟨_, 0, none⟩) 0 0) 0 [] rfl (by first | exact row_lit_at rfl | exact row_lit_at (by simp) | exact (row_lit_at rfl).alloc _) ⟨_, 0, none⟩ 1 1 [.string s, .int .i64 xt, .bool false, .int .i64 1] rfl rfl (by first | exact World.news_of_block (Blk.new_at (n := w.heap.size + 1) (w.alloc _) (by simp) _ #[.string s, .int .i64 xt, .bool false, .int .i64 1]) | exact World.news_of_block ((Blk.new w _ #[.string s, .int .i64 xt, .bool false, .int .i64 1]).alloc _)) (by simp [Value.oneCell']) (by omega) HA.out HB.out (Nat.zero_le _) _ rfl ?_; intro g2 cap w1 hown hgr hat hlt; have HG := Lib.hid (ref_fin hgr hat (by omega)); obtain ⟨d0, e0, hRl1⟩ := HR.out w1 HG.out.1; have HO := Lib.hid hown; clear hown hgr hat hlt)
  all_goals go_wp2_with fail
  all_goals go_ret
  all_goals exact ⟨rfl, ref_end ⟨s, xt, false⟩ HE.out HG.out.1 rfl HO.out HG.out.2⟩
end Go.Proofs.YtgdmiodcfdcihaaGreatDoor
