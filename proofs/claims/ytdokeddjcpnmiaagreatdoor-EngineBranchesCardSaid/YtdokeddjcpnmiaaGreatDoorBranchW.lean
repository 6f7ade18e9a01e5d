/- EngineBranches: the walk. -/
import Derived.Test.YtdokeddjcpnmiaaGreatDoorJLwX
import Derived.Test.YtdokeddjcpnmiaaGreatDoorJRowX
import Derived.Test.YtdokeddjcpnmiaaGreatDoorJPlX
namespace Go.Proofs.YtdokeddjcpnmiaaGreatDoor
open Go.RowKit
namespace En

theorem bFrom_snoc : ∀ (l : List Int) (i a : Nat) (c : Int), bFrom i a (l ++ [c]) = bFrom i a l ++ bItem (i + l.length) (a + (bFrom i a l).length) c
  | [], i, a, c => by simp [bFrom]
  | x :: l, i, a, c => by
    have h := bFrom_snoc l (i + 1) (a + bLen i) c
    rw [List.cons_append]
    unfold bFrom
    rw [h, List.append_assoc, List.length_append, bItem_len, List.length_cons]
    congr 3
    · omega
    · omega
theorem bFrom_le : ∀ (l : List Int) (i a : Nat), (bFrom i a l).length ≤ 7 * l.length
  | [], i, a => Nat.zero_le _
  | c :: r, i, a => by
    have h := bFrom_le r (i + 1) (a + bLen i)
    unfold bFrom
    rw [List.length_append, bItem_len, List.length_cons]
    have : bLen i ≤ 7 := by unfold bLen; split <;> omega
    omega
structure BrRel (w1 : World) (ys : List Int) (k : Nat) (cv wv : Value) (wr : World) : Prop where
  code : CodeRow w1.heap.size wr cv (bFrom 0 0 (ys.take k))
  want : WantRow w1.heap.size wr wv ((ys.take k).map wantB)
  touch : Touch [] w1 wr
  off : ∀ x ∈ rowOf cv, x ∉ rowOf wv
theorem own_row {v : Value} {g : Nat} (h : g ∈ rowOf v) : v.ownBlock = some g := rowOf_mem.1 h
theorem BrRel.code_next {w1 W w2 : World} {ys : List Int} {k : Nat} {cv wv v' : Value} {c : Int} (h : BrRel w1 ys k cv wv W) (hc : ys[k]? = some c) (h1 : CodeRow w1.heap.size w2 v' (bFrom 0 0 (ys.take k) ++ bItem k (bFrom 0 0 (ys.take k)).length c)) (hg : W.grownBy w2 cv.ownBlock) (ha : v'.ownBlock = cv.ownBlock ∨ v'.ownBlock = some W.heap.size) :
    CodeRow w1.heap.size w2 v' (bFrom 0 0 (ys.take (k + 1))) ∧ WantRow w1.heap.size w2 wv ((ys.take k).map wantB) ∧ Touch [] w1 w2 ∧ ∀ x ∈ rowOf v', x ∉ rowOf wv := by
  have hk : k < ys.length := (List.getElem?_eq_some_iff.1 hc).1
  have ht : ys.take (k + 1) = ys.take k ++ [c] := by
    rw [List.take_succ_eq_append_getElem hk]
    congr 2
    exact (List.getElem?_eq_some_iff.1 hc).2
  have hl : (ys.take k).length = k := by rw [List.length_take]; omega
  refine ⟨?_, ?_, Touch.row_grown h.touch hg (fun j hj => own_from h.code j (rowOf_mem.2 hj)), fun x hx hw => ?_⟩
  · rw [ht, bFrom_snoc, hl, Nat.zero_add, Nat.zero_add]
    exact h1
  · have t : Touch (rowOf cv) W w2 := (Touch.refl (rowOf cv) W).grown hg fun j hj => .inl (rowOf_mem.2 hj)
    exact row_touch h.want t (fun x hx hc => h.off x hc hx)
  · have hx := own_row hx
    rcases ha with e | e
    · rw [e] at hx
      exact h.off x (rowOf_mem.2 hx) hw
    · rw [e] at hx
      injection hx with hx
      have := (World.ownsRow.lt h.want x (own_row hw)).2
      omega
theorem want_next {w1 W w2 : World} {ys : List Int} {k : Nat} {cv wv v' : Value} {c : Int} (hcode : CodeRow w1.heap.size W cv (bFrom 0 0 (ys.take (k + 1)))) (hwant : WantRow w1.heap.size W wv ((ys.take k).map wantB)) (t : Touch [] w1 W) (off : ∀ x ∈ rowOf cv, x ∉ rowOf wv) (hc : ys[k]? = some c) (h1 : WantRow w1.heap.size w2 v' ((ys.take k).map wantB ++ [wantB c])) (hg : W.grownBy w2 wv.ownBlock) (ha : v'.ownBlock = wv.ownBlock ∨ v'.ownBlock = some W.heap.size) :
    BrRel w1 ys (k + 1) cv v' w2 := by
  have hk : k < ys.length := (List.getElem?_eq_some_iff.1 hc).1
  have ht : ys.take (k + 1) = ys.take k ++ [c] := by
    rw [List.take_succ_eq_append_getElem hk]
    congr 2
    exact (List.getElem?_eq_some_iff.1 hc).2
  refine ⟨?_, ?_, Touch.row_grown t hg (fun j hj => own_from hwant j (rowOf_mem.2 hj)), fun x hx hw => ?_⟩
  · have tt : Touch (rowOf wv) W w2 := (Touch.refl (rowOf wv) W).grown hg fun j hj => .inl (rowOf_mem.2 hj)
    exact row_touch hcode tt (fun x hx hw => off x hx hw)
  · rw [ht, List.map_append]
    exact h1
  · have hw := own_row hw
    rcases ha with e | e
    · rw [e] at hw
      exact off x hx (rowOf_mem.2 hw)
    · rw [e] at hw
      injection hw with hw
      have := (World.ownsRow.lt hcode x (own_row hx)).2
      omega
end En
end Go.Proofs.YtdokeddjcpnmiaaGreatDoor
