/- dict.Dict: a dictionary of one list in memory; New, Order, known, In, Find. -/
import Derived.Test.YtgdmiodcfdcihaaGreatDoorFold
import Derived.Test.YtgdmiodcfdcihaaGreatDoorMaps
import Derived.Test.YtgdmiodcfdcihaaGreatDoorShelfZD
import Derived.Handy
namespace Go.Proofs.YtgdmiodcfdcihaaGreatDoor
open Go.RowKit

/-- a word -/
structure Head where
  name : ByteArray
  xt : Int
  now : Bool
def Head.cells (h : Head) (i : Nat) : List Value := [.string h.name, .int .i64 h.xt, .bool h.now, .string (foldB h.name), .int .i64 1, .int .i64 ((i : Int) - 1)]
/-- words of one list as cells -/
def headCells (H : List Head) : List Value := (List.range H.length).flatMap fun i => (H.getD i ⟨.empty, 0, false⟩).cells i
def dictCells (hv : Value) (mb ob : Nat) : Array Value := #[hv, .map (some mb), .int .i64 1, .slice (some ⟨ob, 0, none⟩) 1 1, .int .i64 1]

/-- a dictionary of one list lies at block D, over the blocks F, with the words H -/
def DictAt (w : World) (D : Nat) (F : List Nat) (H : List Head) : Prop :=
  ∃ hv mb ob, Blk w D 55 (dictCells hv mb ob) ∧ IMap w mb [(1, .int .i64 ((H.length : Int) - 1))] ∧ Blk w ob 3 #[.int .i64 1] ∧ F = D :: mb :: ob :: rowOf hv ∧ F.Nodup ∧
    w.ownsRow 0 86 6 hv H.length (headCells H)

section
variable {w w' : World} {D : Nat} {F G : List Nat} {H : List Head}
theorem DictAt.touch (h : DictAt w D F H) (ht : Touch G w w') (hn : ∀ f, f ∈ F → f ∉ G) : DictAt w' D F H := by
  obtain ⟨hv, mb, ob, h1, h2, h3, rfl, h5, h6⟩ := h
  exact ⟨hv, mb, ob, h1.touch ht (hn _ (by simp)), h2.touch ht (hn _ (by simp)), h3.touch ht (hn _ (by simp)), rfl, h5, row_touch h6 ht fun g hg => hn g (by simp [hg])⟩
theorem DictAt.quiet (h : DictAt w D F H) (ht : Touch [] w w') : DictAt w' D F H := h.touch ht (by simp)
theorem DictAt.lt (h : DictAt w D F H) : ∀ f, f ∈ F → f < w.heap.size := by
  obtain ⟨hv, mb, ob, h1, h2, h3, rfl, h5, h6⟩ := h
  intro f hf
  simp only [List.mem_cons] at hf
  rcases hf with rfl | rfl | rfl | hf
  · exact h1.lt
  · exact h2.lt
  · exact h3.lt
  · exact row_lt h6 hf
end

theorem New_any (w : World) : Calls Tryz.prog 7 #[] w fun e w' => ∃ D F, e = .returned (.pointer (some ⟨D, 0, none⟩)) ∧ DictAt w' D F [] ∧ Touch [] w w' ∧ ∀ f, f ∈ F → w.heap.size ≤ f := by
  have hmm := @run_makeMap Tryz.prog
  go_enter Tryz.func7, Tryz.ntmps7
  go_wp2_with (refine wpList_iins _ rfl _ _ _ 52 rfl _ _ Tryz.underlying52 Tryz.underlying3 _ [] rfl (IMap.new _) _ rfl _ rfl ?_; intro w1 h1 t1)
  go_ret
  have h2 : IMap w1 w.heap.size [(1, .int .i64 (-1))] := h1
  have hlt := h2.lt
  refine ⟨w1.heap.size + 1, _, rfl, ⟨.slice none 0 0, w.heap.size, w1.heap.size, ?_, ?_, ?_, rfl, ?_, ?_⟩, ?_, ?_⟩
  · exact Blk.new_at _ (by simp) _ _
  · exact (h2.alloc _).alloc _
  · exact (Blk.new _ _ _).alloc _
  · simp [rowOf]
    omega
  · exact World.ownsRow_nil _ _ _ _
  · exact (((((Touch.refl [] w).alloc (.map #[] 0)).trans t1 (by simp)).alloc _).alloc _).mono (by simp)
  · intro f hf
    have hs := t1.size
    simp at hs
    simp only [rowOf, List.mem_cons, List.not_mem_nil, or_false] at hf
    rcases hf with rfl | rfl | rfl <;> omega

theorem known_any (w : World) (D : Nat) (F : List Nat) (H : List Head) (h : DictAt w D F H) : Calls Tryz.prog 62 #[.pointer (some ⟨D, 0, none⟩), .int .i64 1] w fun e w' => e = .returned (.bool true) ∧ w = w' := by
  obtain ⟨hv, mb, ob, h1, h2, h3, rfl, h5, h6⟩ := h
  have c2 := h1.cell 2
  simp only [dictCells] at c2
  go_enter Tryz.func62, Tryz.ntmps62
  go_wp2
  go_ret
  exact ⟨rfl, rfl⟩

theorem Order_any (w : World) (D : Nat) (F : List Nat) (H : List Head) (h : DictAt w D F H) : Calls Tryz.prog 47 #[.pointer (some ⟨D, 0, none⟩)] w fun e w' => ∃ g c, e = .returned (.slice (some ⟨g, 0, none⟩) 1 c) ∧ w'.cell? ⟨g, 0, none⟩ = some (.int .i64 1) ∧ Touch [] w w' ∧ w.heap.size ≤ g ∧ g < w'.heap.size := by
  obtain ⟨hv, mb, ob, h1, h2, h3, rfl, h5, h6⟩ := h
  have c3 := h1.cell 3
  simp only [dictCells] at c3
  go_enter Tryz.func47, Tryz.ntmps47
  go_wp2_with fail
  refine (Tryz.slices_Clone_int ob 0 1 1 [1] w (by simp) (by simp) (fun j hj => by
    simp only [List.length_cons, List.length_nil, Nat.zero_add, Nat.lt_one_iff] at hj
    subst hj
    exact h3.cell 0)).mono ?_
  rintro _ w1 ⟨v, rfl, hr, hn, hb⟩
  obtain ⟨g, c, rfl, hg⟩ : ∃ g c, v = .slice (some ⟨g, 0, none⟩) 1 c ∧ w.heap.size ≤ g := by
    rcases hr.2 with ⟨_, h0⟩ | ⟨g, cap, cur, h1, h2, _⟩
    · omega
    · exact ⟨g, cap, h1, h2⟩
  have hc := hr.cellAt 0 (by simp)
  have hl := row_lt hr (g := g) (by simp [rowOf])
  go_wp2_with fail
  go_ret
  exact ⟨g, c, rfl, by simpa using hc, Touch.of_below hb _, hg, hl⟩
end Go.Proofs.YtgdmiodcfdcihaaGreatDoor
