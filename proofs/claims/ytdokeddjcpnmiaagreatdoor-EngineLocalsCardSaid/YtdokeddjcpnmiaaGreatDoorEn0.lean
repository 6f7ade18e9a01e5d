import Derived.Test.YtdokeddjcpnmiaaGreatDoorWorld
/- Frames, plain: what is put on, taken off, and found, as functions of the frames alone. -/
namespace Go.Proofs.YtdokeddjcpnmiaaGreatDoor
open Go.RowKit
namespace En

/-- a frame -/
structure Fr where
  k : Int
  a : Int
  b : Int
  x : Int
  y : Int
  l : List Int
def Fr.none : Fr := ⟨0, 0, 0, 0, 0, []⟩
/-- the uppermost, the others -/
def topF (L : List Fr) : Fr := L.getLastD .none
def catchF : List Fr → Option (Fr × List Fr)
  | [] => Option.none
  | f :: r => match catchF r with
    | some (x, q) => some (x, f :: q)
    | Option.none => if f.k = 5 then some (f, []) else Option.none
theorem catchF_none {L : List Fr} (h : ∀ f ∈ L, f.k ≠ 5) : catchF L = Option.none := by
  induction L with
  | nil => rfl
  | cons f r ih =>
    unfold catchF
    rw [ih (fun x hx => h x (List.mem_cons_of_mem _ hx))]
    simp [h f List.mem_cons_self]
theorem catchF_last {L R : List Fr} {f : Fr} (h1 : f.k = 5) (h2 : ∀ x ∈ R, x.k ≠ 5) : catchF (L ++ f :: R) = some (f, L) := by
  induction L with
  | nil =>
    show catchF (f :: R) = _
    unfold catchF
    rw [catchF_none h2]
    simp [h1]
  | cons g r ih =>
    show catchF (g :: (r ++ f :: R)) = _
    unfold catchF
    rw [ih]
/-- a loop's place; how a loop goes on -/
def indexF (L : List Fr) (n : Nat) : Int × Int :=
  if (∀ i, i ≤ n → i < L.length → (L.getD (L.length - 1 - i) .none).k = 3) ∧ n < L.length then ((L.getD (L.length - 1 - n) .none).x, 0) else (0, -26)
def endsF (left by_ : Int) : Bool := (decide (left < 0) == decide (by_ ≥ 0)) && (decide (left < 0) != decide (wrap64 (left + by_) < 0))
end En
end Go.Proofs.YtdokeddjcpnmiaaGreatDoor
