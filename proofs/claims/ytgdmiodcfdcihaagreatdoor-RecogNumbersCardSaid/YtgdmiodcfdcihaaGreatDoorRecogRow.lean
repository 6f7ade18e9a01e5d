/- What this seat's rows list: three tables, two errors; a world for the witness. -/
import Derived.Test.YtgdmiodcfdcihaaGreatDoorRows1S
import Derived.Test.YtgdmiodcfdcihaaGreatDoorCards
import Derived.Test.YtgdmiodcfdcihaaGreatDoorTie
import Derived.WalkKit
import Derived.ProofKit
import Derived.OpenShut
import Derived.Deep.DeepHandedRow
import Derived.Lib.LaidTab
import Derived.ChangeSlices
import Derived.Lib.TrailingZeros
import Derived.Lib.ItoaNum
namespace Go.Proofs.YtgdmiodcfdcihaaGreatDoor
open Go.ChangeShapes Go.WideShapes Go.ChangeAt Go.RowKit

theorem own : ownKnob Tryz.prog.godebug = none := by kernel_rfl
def putCells (vs : Array Value) : Obj → Obj
  | .cells _ t frozen => .cells vs t frozen
  | o => o
abbrev textR : ByteArray := { data := #[118, 97, 108, 117, 101, 32, 111, 117, 116, 32, 111, 102, 32, 114, 97, 110, 103, 101] }
abbrev textS : ByteArray := { data := #[105, 110, 118, 97, 108, 105, 100, 32, 115, 121, 110, 116, 97, 120] }
noncomputable def low : Nat := (World.holding Tryz.prog default ⟨#[], #[], []⟩).heap.size
/-- A WORLD FOR THE WITNESS: the tables, and the two errors as their initialisers lay them. -/
noncomputable def laidWorld5 (os : Os) : World :=
  let w0 := World.holding Tryz.prog os ⟨#[.cells #[.string textR] 154, .cells #[.string textS] 154], #[], []⟩
  { w0 with heap := ((((w0.heap.modify 0 (putCells (Lib.deBruijn64tab.map fun n : Nat => Value.int .u8 n).toArray)).modify 5 (putCells (Lib.pow10Tab.map fun n : Int => Value.int .u64 n).toArray)).modify 6 (putCells (Lib.deBruijn32tab.map fun n : Nat => Value.int .u8 n).toArray)).modify 4 (putCells #[.iface 152 (.pointer (some ⟨low, 0, none⟩))])).modify 3 (putCells #[.iface 152 (.pointer (some ⟨low + 1, 0, none⟩))]) }
/-- a slice of cells that came in -/
theorem open_nums {H : Type} {enc : TypeId × Value → H} {P : Program} {w : World} {t e : TypeId} {v : Value} {d : DataW H} {p : List MemPlace} {b0 : Nat} (ht : P.underlying t = some (.slice e)) (he : P.underlying e = some (.int .i64)) (hc : P.cellsOf e = 1)
    (hv : Value.okWide P w .any b0 t v) (h : DataW.Trod enc P w 0 (fun _ => true) true t v d p) (hlt : ∀ x ∈ p, x.block < w.heap.size) :
    ∃ (a : Option Addr) (l : List Int) (c : Nat), v = .slice a l.length c ∧ l.length ≤ c ∧ ∀ j (_ : j < l.length), ∃ g off, a = some ⟨g, off, none⟩ ∧ g < w.heap.size ∧ w.cell? ⟨g, off + j, none⟩ = some (.int .i64 (l.getD j 0)) := by
  obtain ⟨a0, len, cap, rfl⟩ := okWide_slice ht hv
  obtain ⟨fuel, hf⟩ := h
  rcases Go.ChangeShapes.open_ints ht he hc hf with ⟨hcs, hx⟩ | ⟨a, len', cap', zs, hcs, _, hl, hm, hz, hx, hcell, hws⟩
  · simp [Value.cells] at hcs
    obtain ⟨rfl, rfl, rfl⟩ := hcs
    exact ⟨none, [], 0, rfl, by simp, by simp⟩
  · simp [Value.cells] at hcs
    obtain ⟨rfl, rfl, rfl⟩ := hcs
    simp only [Prod.mk.injEq] at hx
    obtain ⟨rfl, rfl⟩ := hx
    simp only [if_true] at hz
    have hlen : (zs.take len).length = len := by rw [List.length_take]; omega
    refine ⟨some a, zs.take len, cap, by rw [hlen], by omega, fun j hj => ?_⟩
    rw [hlen] at hj
    obtain ⟨b, off, spot⟩ := a
    have hspot : spot = none := by simpa [Addr.add] using World.cell?_spot (hcell 0 (by omega))
    subst hspot
    refine ⟨b, off, rfl, hlt (.cell b off) (MemPlace.mem_row.2 ⟨0, by omega, by simp⟩), ?_⟩
    have hc := hcell j (by omega)
    rw [add_plain] at hc
    rw [hc]
    have e : (zs.take len).getD j 0 = zs.getD j 0 := by simp [List.getD, hj]
    rw [e]
end Go.Proofs.YtgdmiodcfdcihaaGreatDoor
