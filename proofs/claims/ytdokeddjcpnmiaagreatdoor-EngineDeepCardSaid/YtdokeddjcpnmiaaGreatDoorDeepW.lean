/- EngineDeep: the walk. -/
import Derived.Test.YtdokeddjcpnmiaaGreatDoorJLwX
import Derived.Test.YtdokeddjcpnmiaaGreatDoorJPlX
import Derived.Test.YtdokeddjcpnmiaaGreatDoorJOpY
import Derived.Test.YtdokeddjcpnmiaaGreatDoorJTSet
namespace Go.Proofs.YtdokeddjcpnmiaaGreatDoor
open Go.RowKit
namespace En

theorem at_dup : atName (preL 5) ⟨#[100, 117, 112]⟩ = some 27 := by kernel_rfl
theorem at_dec : atName (preL 5) ⟨#[49, 45]⟩ = some 4 := by kernel_rfl
theorem at_catch : atName (preL 5) ⟨#[99, 97, 116, 99, 104]⟩ = some 114 := by kernel_rfl
theorem w28 : wordsT[27]? = some (1, 28, 0) := by kernel_rfl
theorem w5 : wordsT[4]? = some (1, 5, 0) := by kernel_rfl
theorem w115 : wordsT[114]? = some (2, 8, 0) := by kernel_rfl
theorem word_table {m : M} {X : List (Int × Int × Int)} (h : m.words = wordsT ++ X) {i : Nat} {u : Int × Int × Int} (hu : wordsT[i]? = some u) : m.word ((i : Int) + 1) = some u := by
  have hi : i < wordsT.length := (List.getElem?_eq_some_iff.1 hu).1
  unfold M.word
  rw [if_neg (by omega), h, show ((i : Int) + 1 - 1).toNat = i by omega, List.getElem?_append_left hi]
  exact hu
/-- the engine that is run -/
def dpM (S : PS) : M := { ({ M.new S ins0' with words := wordsT ++ [(8, 0, 0)] } : M).laid (deepL 181) with words := wordsT ++ [(5, 1, 0)] }
theorem dpOne (S : PS) (W : List (Int × Int × Int)) (hW : W.length ≤ 1000) (nx : Int) (fr : List Fr) (st : List Int) : One ({ dpM S with words := W, nx := nx, fr := fr, S := { S with st := st } } : M) (deepL 181) := by
  refine ⟨rfl, rfl, by decide, ?_, hW⟩
  intro x hx
  simp only [deepL, List.mem_cons, List.not_mem_nil, or_false] at hx
  rcases hx with rfl | rfl | rfl | rfl | rfl <;> decide
theorem dpRun (S : PS) (n : Nat) (hn : n ≤ 150) : ∃ (st : List Int) (J : Ins), M.run eD 2000 { dpM S with nx := 115, fr := [tok], S := { S with st := [(n : Int), 181] } } = ((3, 6, 0), ({ dpM S with I := J } : M).go 0 0 st [tok]) ∧ st.length = 2 ∧ (n ≤ 124 → st = [0, 0]) ∧ (125 ≤ n → st.getD 1 0 = -5) := by
  have hone := dpOne S (wordsT ++ [(5, 1, 0)]) (by rw [List.length_append, wordsT_len]; decide) 0 [] S.st
  exact deep_law (D := eD) (m := dpM S) (self := 181) hone.defAt (word_table (i := 27) rfl w28) (word_table (i := 4) rfl w5) (word_last (dpM S) wordsT (5, 1, 0) rfl) (Nat.le_of_ble_eq_true rfl) (eD_28 S) (eD_5 S) n hn (word_table (i := 114) rfl w115) (by decide)
end En
end Go.Proofs.YtdokeddjcpnmiaaGreatDoor
