/- Rows of cells that are read, and put on a stack; a stack that is cut. -/
import Derived.Test.YtkbchpaofmlhgaaGreatDoorPState
namespace Go.Proofs.YtkbchpaofmlhgaaGreatDoor
open Go.RowKit

theorem cell_quiet {w w' : World} {p : Addr} {u : Value} (t : Touch [] w w') (h : w.cell? p = some u) : w'.cell? p = some u := (t.cell (World.block_lt_of_cell? w p h) (by simp)).trans h
theorem own_slice {w : World} {base n : Nat} {e : TypeId} {size : Nat} {v : Value} {xs : List Value} (h : w.ownsRow base e size v n xs) : ∃ a c, v = .slice a n c := by
  rcases h.2 with ⟨rfl, h0⟩ | ⟨g, cap, cur, rfl, _⟩
  · exact ⟨none, 0, by rw [h0]⟩
  · exact ⟨_, _, rfl⟩
theorem own_low {w : World} {base n : Nat} {e : TypeId} {size : Nat} {v : Value} {xs : List Value} (h : w.ownsRow base e size v n xs) : w.ownsRow 0 e size v n xs := by
  refine ⟨h.1, ?_⟩
  rcases h.2 with h | ⟨g, cap, cur, h1, _, h3⟩
  · exact .inl h
  · exact .inr ⟨g, cap, cur, h1, Nat.zero_le _, h3⟩
/-- a row of cells -/
def CellsAt (w : World) (cv : Value) (cs : List Int) : Prop :=
  (cv = .slice none 0 0 ∧ cs = []) ∨ ∃ ad c, cv = .slice (some ad) cs.length c ∧ ∀ j u, (cells cs)[j]? = some u → w.cell? (ad.add j) = some u
theorem CellsAt.quiet {w w' : World} {cv : Value} {cs : List Int} (h : CellsAt w cv cs) (t : Touch [] w w') : CellsAt w' cv cs := by
  rcases h with h | ⟨ad, c, e, hc⟩
  · exact .inl h
  · exact .inr ⟨ad, c, e, fun j u hj => cell_quiet t (hc j u hj)⟩
theorem CellsAt.touch {F : List Nat} {w w' : World} {base : Nat} {cv : Value} {cs : List Int} (h : w.ownsRow base 36 1 cv cs.length (cells cs)) (t : Touch F w w') (hn : ∀ x ∈ rowOf cv, x ∉ F) : w'.ownsRow base 36 1 cv cs.length (cells cs) := row_touch h t hn
theorem row_cells {w : World} {base : Nat} {v : Value} {cs : List Int} (h : w.ownsRow base 36 1 v cs.length (cells cs)) : CellsAt w v cs := by
  rcases h.2 with ⟨e, h0⟩ | ⟨g, cap, cur, e, _⟩
  · exact .inl ⟨e, List.eq_nil_of_length_eq_zero h0⟩
  · subst e
    exact .inr ⟨⟨g, 0, none⟩, cap, rfl, fun j u hj => h.cells (g := g) rfl j u hj⟩
theorem CellsAt.form {w : World} {cv : Value} {cs : List Int} (h : CellsAt w cv cs) : ∃ a c, cv = .slice a cs.length c := by
  rcases h with ⟨rfl, rfl⟩ | ⟨ad, c, rfl, _⟩
  · exact ⟨none, 0, rfl⟩
  · exact ⟨_, _, rfl⟩
theorem CellsAt.get {w : World} {cv : Value} {cs : List Int} (h : CellsAt w cv cs) {i : Nat} (hi : i < cs.length) : ∃ ad c, cv = .slice (some ad) cs.length c ∧ w.cell? (ad.add i) = some (.int .i64 (cs.getD i 0)) := by
  rcases h with ⟨_, rfl⟩ | ⟨ad, c, e, hc⟩
  · simp at hi
  · exact ⟨ad, c, e, hc i _ (cells_get cs i hi)⟩
theorem CellsAt.blk {w : World} {g : Nat} {t : TypeId} {cs : List Int} (h : Blk w g t (cells cs).toArray) (c : Nat) : CellsAt w (.slice (some ⟨g, 0, none⟩) cs.length c) cs :=
  .inr ⟨⟨g, 0, none⟩, c, rfl, fun j u hj => by rw [add_off, Nat.zero_add]; exact (h.cell j).trans (by simpa using hj)⟩
theorem Put_row (w : World) (b : Nat) (F : List Nat) (L : List Int) (h : StackAt w b F L) (cv : Value) (M : List Int) (hc : CellsAt w cv M) (hl : L.length + M.length ≤ 128) :
    Calls Tryz.prog 13 #[.pointer (some ⟨b, 0, none⟩), cv] w fun e w' => ∃ F', e = .returned (.int .i64 0) ∧ StackAt w' b F' (L ++ M) ∧ Touch F w w' ∧ Sub w F F' := by
  rcases hc with ⟨rfl, rfl⟩ | ⟨ad, c, rfl, hc⟩
  · exact (Put_none w b F L h (by simpa using hl)).mono fun e w' ⟨h1, h2, h3⟩ => ⟨F, h1, by simpa using h2, h3, Sub.refl _ _⟩
  · exact Put_at w b F L h ad c M hl hc
theorem row_take0 {w : World} {a : Option Addr} {cap n : Nat} {xs : List Value} (h : w.ownsRow 0 36 1 (.slice a n cap) n xs) : w.ownsRow 0 36 1 (.slice a 0 cap) 0 [] := by
  refine ⟨rfl, ?_⟩
  rcases h.2 with ⟨e, h0⟩ | ⟨g, c, cur, e, hb, hg, h1, h2, h3, h4⟩
  · injection e with e1 e2 e3
    exact .inl ⟨by rw [e1, e3], rfl⟩
  · injection e with e1 e2 e3
    subst e1 e3
    exact .inr ⟨g, cap, cur, rfl, hb, hg, Nat.zero_le _, h2, h3, by simp⟩
set_option maxHeartbeats 1000000 in
theorem Cut_zero (w : World) (b : Nat) (F : List Nat) (L : List Int) (h : StackAt w b F L) :
    Calls Tryz.prog 23 #[.pointer (some ⟨b, 0, none⟩), .int .i64 0] w fun e w' => e = .returned (.tuple #[]) ∧ StackAt w' b F [] ∧ Touch F w w' := by
  obtain ⟨v, hb, rfl, hnb, hr⟩ := h
  have c0 := hb.cell 0
  have f0 := hb.frozen 0
  obtain ⟨a, cap, rfl⟩ := own_slice hr
  go_enter Tryz.func23, Tryz.ntmps23
  have hmin : min (0 : Int) 128 = 0 := rfl
  have hneg : ¬ ((L.length : Int) < 0) := by omega
  have htt := fun u => (Touch.refl [b] w).setCell (p := ⟨b, 0, none⟩) (by simp) u
  have H := Lib.hid (And.intro hb (And.intro hr htt))
  clear hb htt
  go_wp2_with fail
  go_loopw [9] (fun _ wr => wr = w) (fun _ _ => 0)
  case atStart => rfl
  case round =>
    obtain rfl := hrel
    go_wp2_with fail
    go_end0
    have hs := H.out.1.set_ 0 (.slice a 0 cap)
    refine ⟨rfl, ⟨_, hs, ?_, ?_, ?_⟩, (H.out.2.2 _).mono (fun k hk => .inl (by simp at hk; simp [hk]))⟩
    · cases a <;> rfl
    · exact fun h => hnb (by cases a <;> exact h)
    · exact row_touch (row_take0 H.out.2.1) (H.out.2.2 _) (fun k hk hkb => hnb (by rw [List.mem_singleton.1 hkb] at hk; cases a <;> exact hk))
end Go.Proofs.YtkbchpaofmlhgaaGreatDoor
