/- Operations of prim's memory map: what each does where it goes right. Printed by memops.py. -/
import Derived.Test.YtkbchpaofmlhgaaGreatDoorOps2
import Derived.Test.YtkbchpaofmlhgaaGreatDoorMemLaw
namespace Go.Proofs.YtkbchpaofmlhgaaGreatDoor
open Go.RowKit

theorem StateAt.mem {w : World} {s : Nat} {F : List Nat} {S : PS} (h : StateAt w s F S) : MemAt w S.m S.g S.n S.bs S.here := by
  obtain ⟨FS, ov, mv, hp, _⟩ := h
  exact hp.mem
theorem StateAt.len {w : World} {s : Nat} {F : List Nat} {S : PS} (h : StateAt w s F S) : S.bs.length = S.n ∧ S.n ≤ 65536 := ⟨h.mem.len, h.mem.small⟩
theorem MemAt.quiet {w w' : World} {m g n here : Nat} {bs : List Int} (h : MemAt w m g n bs here) (t : Touch [] w w') : MemAt w' m g n bs here := h.touch t (by simp) (by simp)
theorem cell_keep {F : List Nat} {w w' : World} {p : Addr} {u : Value} (t : Touch F w w') (h : w.cell? p = some u) (hn : p.block ∉ F) : w'.cell? p = some u := (t.cell (World.block_lt_of_cell? w p h) hn).trans h
theorem Done.mem {W w' : World} {s : Nat} {F : List Nat} {S : PS} {bs' : List Int} {here' : Nat} (h : StateAt W s F S) (hm : MemAt w' S.m S.g S.n bs' here') (t : Touch [S.m, S.g] W w') : Done W s F S { S with bs := bs', here := here' } w' := by
  obtain ⟨FS, ov, mv, hp, rfl⟩ := h
  exact ⟨_, ⟨FS, ov, mv, hp.memory hm t, rfl⟩, ⟨rfl, rfl, rfl, rfl, rfl, rfl⟩, t.mono (fun g hg => .inl (by simp only [List.mem_cons, List.not_mem_nil, or_false] at hg; rcases hg with rfl | rfl <;> simp [foot])), Sub.refl _ _⟩
end Go.Proofs.YtkbchpaofmlhgaaGreatDoor
