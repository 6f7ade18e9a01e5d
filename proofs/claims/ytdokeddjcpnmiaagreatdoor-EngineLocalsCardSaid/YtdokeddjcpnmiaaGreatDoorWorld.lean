import Derived.Test.YtdokeddjcpnmiaaGreatDoorBase
import Derived.Maps.AppendAt
import Derived.Deep.AppendLies
import Derived.Deep.Draws
import Derived.OneCell
/- Words for memory, over any program: which blocks a step may have changed, and rows of a call's own. -/
namespace Go.Proofs.YtdokeddjcpnmiaaGreatDoor
open Go.RowKit

/-- w' is w but for the blocks of F, and for what is new -/
structure Touch (F : List Nat) (w w' : World) : Prop where
  os : w'.os = w.os
  tape : w'.tape = w.tape
  output : w'.output = w.output
  size : w.heap.size ≤ w'.heap.size
  block : ∀ k, k < w.heap.size → k ∉ F → w'.heap[k]? = w.heap[k]?

section
variable {F G : List Nat} {a w w' w'' : World}
theorem Touch.refl (F : List Nat) (w : World) : Touch F w w := ⟨rfl, rfl, rfl, Nat.le_refl _, fun _ _ _ => rfl⟩
theorem Touch.trans (h : Touch F w w') (k : Touch G w' w'') (hs : ∀ g, g ∈ G → g ∈ F ∨ w.heap.size ≤ g) : Touch F w w'' :=
  ⟨k.os.trans h.os, k.tape.trans h.tape, k.output.trans h.output, Nat.le_trans h.size k.size, fun i hi hn => by
    rw [k.block i (Nat.lt_of_lt_of_le hi h.size) (fun hg => by rcases hs i hg with h1 | h1; exact hn h1; omega)]
    exact h.block i hi hn⟩
theorem Touch.mono (h : Touch F w w') (hs : ∀ g, g ∈ F → g ∈ G ∨ w.heap.size ≤ g) : Touch G w w' := (Touch.refl G w).trans h hs
theorem Touch.drew (h : Touch F a w) : Touch F a w.drew := ⟨h.os, h.tape, h.output, h.size, h.block⟩
theorem Touch.drewN (h : Touch F a w) (n : Nat) : Touch F a (w.drewN n) := ⟨h.os, h.tape, h.output, h.size, h.block⟩
theorem Touch.alloc (h : Touch F a w) (o : Obj) : Touch F a (w.alloc o) :=
  ⟨h.os, h.tape, h.output, Nat.le_trans h.size (by simp), fun k hk hn => (Below.heap_alloc _ _ _ (Nat.lt_of_lt_of_le hk h.size)).trans (h.block k hk hn)⟩
theorem Touch.setCell (h : Touch F a w) {p : Addr} (hp : p.block ∈ F ∨ a.heap.size ≤ p.block) (u : Value) : Touch F a (w.setCell p u) :=
  ⟨h.os, h.tape, h.output, by simpa [World.setCell] using h.size, fun k hk hn => (Below.heap_setCell _ _ _ _ (by rintro rfl; rcases hp with hp | hp; exact hn hp; omega)).trans (h.block k hk hn)⟩
theorem Touch.grown (h : Touch F a w) {row : Option Nat} (hg : w.grownBy w' row) (hr : ∀ k, row = some k → k ∈ F ∨ a.heap.size ≤ k) : Touch F a w' :=
  ⟨hg.os.trans h.os, hg.tape.trans h.tape, hg.output.trans h.output, Nat.le_trans h.size hg.size, fun k hk hn =>
    (hg.block k (Nat.lt_of_lt_of_le hk h.size) (fun e => by rcases hr k e.symm with h1 | h1; exact hn h1; omega)).trans (h.block k hk hn)⟩
theorem Touch.below (h : Touch F w w') {B : Nat} (hB : B ≤ w.heap.size) (hF : ∀ f, f ∈ F → B ≤ f) : Below B w w' :=
  ⟨h.os, h.tape, h.output, h.size, fun k hk => h.block k (by omega) (fun hf => by have := hF k hf; omega)⟩
theorem Touch.of_below (h : Below w.heap.size w w') (F : List Nat) : Touch F w w' := ⟨h.os, h.tape, h.output, h.size, fun k hk _ => h.block k hk⟩
theorem Touch.cell (h : Touch F w w') {p : Addr} (hp : p.block < w.heap.size) (hn : p.block ∉ F) : w'.cell? p = w.cell? p := World.cell?_of_block (h.block _ hp hn)
theorem Touch.frozen (h : Touch F w w') {p : Addr} (hp : p.block < w.heap.size) (hn : p.block ∉ F) : w'.frozen? p = w.frozen? p := World.frozen?_of_block (h.block _ hp hn)
end

/-- of the blocks of F' each was one of F, or is new -/
def Sub (w : World) (F F' : List Nat) : Prop := ∀ f, f ∈ F' → f ∈ F ∨ w.heap.size ≤ f
theorem Sub.refl (w : World) (F : List Nat) : Sub w F F := fun _ h => .inl h
theorem Sub.trans {w w' : World} {F G H : List Nat} (h : Sub w F G) (k : Sub w' G H) (hs : w.heap.size ≤ w'.heap.size) : Sub w F H := fun f hf => by
  rcases k f hf with h1 | h1
  · exact h f h1
  · exact .inr (by omega)

/-- a block that is known whole -/
def Blk (w : World) (g : Nat) (t : TypeId) (cs : Array Value) : Prop := w.heap[g]? = some (.cells cs t (0, 0))
section
variable {w w' : World} {g : Nat} {t : TypeId} {cs : Array Value}
theorem Blk.lt (h : Blk w g t cs) : g < w.heap.size := lt_of_block h
theorem Blk.cell (h : Blk w g t cs) (i : Nat) : w.cell? ⟨g, i, none⟩ = cs[i]? := cell_of_row w g i cs t (0, 0) h
theorem Blk.frozen (h : Blk w g t cs) (i : Nat) : w.frozen? ⟨g, i, none⟩ = false := by
  unfold Blk at h
  simp [World.frozen?, h]
theorem Blk.new (w : World) (t : TypeId) (cs : Array Value) : Blk (w.alloc (.cells cs t)) w.heap.size t cs := heap_alloc_new w _
theorem Blk.drew (h : Blk w g t cs) : Blk w.drew g t cs := h
theorem Blk.drewN (h : Blk w g t cs) (n : Nat) : Blk (w.drewN n) g t cs := h
theorem Blk.alloc (h : Blk w g t cs) (o : Obj) : Blk (w.alloc o) g t cs := (Below.heap_alloc w o g h.lt).trans h
theorem Blk.set_ (h : Blk w g t cs) (i : Nat) (u : Value) : Blk (w.setCell ⟨g, i, none⟩ u) g t (cs.setIfInBounds i u) := by
  unfold Blk at h ⊢
  simp [World.setCell, Array.getElem?_modify, h]
theorem Blk.far (h : Blk w g t cs) {p : Addr} (hp : g ≠ p.block) (u : Value) : Blk (w.setCell p u) g t cs := (Below.heap_setCell w p u g hp).trans h
theorem Blk.touch {F : List Nat} (h : Blk w g t cs) (hb : Touch F w w') (hg : g ∉ F) : Blk w' g t cs := (hb.block g h.lt hg).trans h
theorem Blk.grown {row : Option Nat} (h : Blk w g t cs) (hb : w.grownBy w' row) (hg : some g ≠ row) : Blk w' g t cs := (hb.block g h.lt hg).trans h
end

/-- the block of a slice's row, if it has one -/
def rowOf : Value → List Nat
  | .slice (some a) _ _ => [a.block]
  | _ => []
theorem rowOf_mem {v : Value} {g : Nat} : g ∈ rowOf v ↔ v.ownBlock = some g := by
  cases v with
  | slice a n c => cases a with
    | none => simp [rowOf, Value.ownBlock]
    | some a => simp [rowOf, Value.ownBlock, eq_comm]
  | _ => simp [rowOf, Value.ownBlock]

section
variable {w w' : World} {base : Nat} {e : TypeId} {size n : Nat} {v : Value} {xs : List Value}
theorem row_lt (h : w.ownsRow base e size v n xs) {g : Nat} (hg : g ∈ rowOf v) : g < w.heap.size := (h.lt g (rowOf_mem.1 hg)).2
theorem row_touch (h : w.ownsRow base e size v n xs) {F : List Nat} (ht : Touch F w w') (hn : ∀ g, g ∈ rowOf v → g ∉ F) : w'.ownsRow base e size v n xs := by
  refine ⟨h.1, ?_⟩
  rcases h.2 with h0 | ⟨g, cap, cur, rfl, hb, hg, hr⟩
  · exact .inl h0
  · exact .inr ⟨g, cap, cur, rfl, hb, (ht.block g (lt_of_block hg) (hn g (by simp [rowOf]))).trans hg, hr⟩
theorem row_drewN (h : w.ownsRow base e size v n xs) (k : Nat) : (w.drewN k).ownsRow base e size v n xs := h
end

theorem Touch.of_drew {F : List Nat} {w w' : World} (h : Touch F w.drew w') : Touch F w w' := ⟨h.os, h.tape, h.output, h.size, h.block⟩
theorem Touch.of_drewN {F : List Nat} {w w' : World} {n : Nat} (h : Touch F (w.drewN n) w') : Touch F w w' := ⟨h.os, h.tape, h.output, h.size, h.block⟩

theorem Blk.new_at {n : Nat} (w : World) (h : w.heap.size = n) (t : TypeId) (cs : Array Value) : Blk (w.alloc (.cells cs t)) n t cs := h ▸ Blk.new w t cs

theorem Blk.two {w : World} {g : Nat} {t : TypeId} {a b : Value} (h : Blk w g t #[a, b]) (x y : Value) : Blk ((w.setCell ⟨g, 0, none⟩ x).setCell ⟨g, 1, none⟩ y) g t #[x, y] :=
  (h.set_ 0 x).set_ 1 y

theorem Blk.new_at2 {w w1 : World} {t : TypeId} {cs : Array Value} (h : Touch [] (w.alloc (.cells cs t)) w1) {n : Nat} (hn : w.heap.size = n) : Blk w1 n t cs := hn ▸ (Blk.new w t cs).touch h (by simp)

/-- a pair that is stored as a result, read again -/
theorem two_back {w : World} {g : Nat} {t : TypeId} {a b : Value} (h : Blk w g t #[a, b]) (x y : Value) :
    (w.setCell ⟨g, 0, none⟩ x).cell? ⟨g, 0, none⟩ = some x ∧ ((w.setCell ⟨g, 0, none⟩ x).setCell ⟨g, 1, none⟩ y).cell? ⟨g, 1, none⟩ = some y :=
  ⟨(h.set_ 0 x).cell 0, (h.two x y).cell 1⟩

theorem Blk.three {w : World} {g : Nat} {t : TypeId} {a b c : Value} (h : Blk w g t #[a, b, c]) (x y z : Value) : Blk (((w.setCell ⟨g, 0, none⟩ x).setCell ⟨g, 1, none⟩ y).setCell ⟨g, 2, none⟩ z) g t #[x, y, z] :=
  ((h.set_ 0 x).set_ 1 y).set_ 2 z

theorem str_beq (a b : ByteArray) : (a.toList == b.toList) = decide (a = b) := by
  rw [ByteArray.toList_eq, ByteArray.toList_eq]
  by_cases h : a = b
  · subst h; simp
  · simp only [h, decide_false, beq_eq_false_iff_ne, ne_eq]
    exact fun e => h (str_ext e)

end Go.Proofs.YtdokeddjcpnmiaaGreatDoor
