/- slices.Reverse of bytes that are owned. -/
import Derived.Shelf.SlicesE.Reverse
import Derived.Sort.OwnSorted
import Derived.Test.YtkbchpaofmlhgaaGreatDoorSay2
import Derived.Test.YtkbchpaofmlhgaaGreatDoorProg
namespace Go.Proofs
open Go.Shelf
def Tryz.laysRev_ren : Go.Shelf.Ren := ⟨fun | 35 => 236 | n => n, fun | 22 => 66 | 23 => 5 | 3 => 3 | 4 => 4 | 0 => 0 | n => n, fun | n => n⟩
theorem Tryz.laysRev : Go.Proofs.SlLaysE.n35 Tryz.prog Tryz.laysRev_ren := {
  mixed := by kernel_rfl
  f35 := ⟨Tryz.f236.name, by decide, Tryz.func236.trans (congrArg some (by kernel_rfl))⟩
  t0 := Tryz.underlying0
  a0 := Tryz.isAgg0
  z0 := Tryz.sizeOf0
  v0 := Tryz.zeroValue0
  t3 := Tryz.underlying3
  a3 := Tryz.isAgg3
  z3 := Tryz.sizeOf3
  v3 := Tryz.zeroValue3
  t4 := Tryz.underlying4
  a4 := Tryz.isAgg4
  z4 := Tryz.sizeOf4
  v4 := Tryz.zeroValue4
  t22 := Tryz.underlying66
  a22 := Tryz.isAgg66
  z22 := Tryz.sizeOf66
  v22 := Tryz.zeroValue66
  a23 := Tryz.isAgg5
  z23 := Tryz.sizeOf5 }
end Go.Proofs
namespace Go.Proofs.YtkbchpaofmlhgaaGreatDoor
open Go.RowKit Go.Sort

theorem enc_one : OneCell (Value.int .u8) := by
  intro x
  rfl
theorem take_put (cur : Array Value) (ts : List Int) (h : ts.length ≤ cur.size) : (putCells (Value.int .u8) 0 ts.toArray cur).toList.take ts.length = ts.map (Value.int .u8) := by
  apply List.ext_getElem?
  intro j
  by_cases hj : j < ts.length
  · rw [List.getElem?_take_of_lt hj, Array.getElem?_toList]
    simp [putCells, hj, show j < cur.size by omega]
  · rw [List.getElem?_take_eq_none (by omega), List.getElem?_eq_none (by simp; omega)]
theorem rev_any (w : World) (base : Nat) (v : Value) (l : List Int) (h : w.ownsRow base 5 1 v l.length (bytesV l)) :
    Calls Tryz.prog 236 #[v] w fun e w' => e = .returned (.tuple #[]) ∧ w'.ownsRow base 5 1 v l.length (bytesV l.reverse) ∧ Touch (rowOf v) w w' := by
  have hrun := @AnyE.slices_Reverse Tryz.prog Tryz.laysRev_ren Int _ Tryz.laysRev (Value.int .u8) enc_one
  rcases h.2 with ⟨rfl, h0⟩ | ⟨g, cap, cur, rfl, hbg, hg, hnc, hcm, hcs, htake⟩
  · obtain rfl := List.eq_nil_of_length_eq_zero h0
    refine (AnyE.slices_Reverse_empty (P := Tryz.prog) Tryz.laysRev none 0 w).mono ?_
    rintro _ w' ⟨rfl, rfl⟩
    exact ⟨rfl, h, Touch.refl _ _⟩
  · have hl : l.length ≤ cur.size := by rw [hcs]; omega
    have htk : cur.toList.take l.length = l.map (Value.int .u8) := by simpa [bytesV] using htake
    have hH : Holds (Value.int .u8) w g 0 l.toArray := by
      intro j hj
      have hj' : j < l.length := by simpa using hj
      refine ⟨?_, by simp [World.frozen?, hg]⟩
      have h1 : (cur.toList.take l.length)[j]? = (l.map (Value.int .u8))[j]? := by rw [htk]
      rw [List.getElem?_take_of_lt hj'] at h1
      simp only [World.cell?, hg, Nat.zero_add]
      simp only [Option.isSome_none, Bool.false_eq_true, if_false]
      rw [← Array.getElem?_toList, h1]
      simp [hj']
    refine (hrun g 0 cap l w hH (by unfold maxLen at hcm; omega)).mono ?_
    rintro _ w' ⟨rfl, q, rfl⟩
    refine ⟨rfl, ⟨by simp [bytesV], .inr ⟨g, cap, putCells (Value.int .u8) 0 l.reverse.toArray cur, rfl, hbg, ?_, hnc, hcm, by simpa [putCells] using hcs, ?_⟩⟩, ⟨rfl, rfl, rfl, by simp, fun k hk hne => ?_⟩⟩
    · simp [putRow, mapBlock, Sort.ahead, Array.getElem?_modify, hg, onCells]
    · have := take_put cur l.reverse (by simp; exact hl)
      simpa [bytesV] using this
    · have : g ≠ k := fun e => hne (by simp [rowOf, e])
      simp [putRow, mapBlock, Sort.ahead, Array.getElem?_modify, this]
end Go.Proofs.YtkbchpaofmlhgaaGreatDoor
