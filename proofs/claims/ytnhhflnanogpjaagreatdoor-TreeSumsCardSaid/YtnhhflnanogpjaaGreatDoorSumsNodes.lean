/- The rows of nodes that TreeSums lays (printed by wip/sums.py). -/
import Derived.Test.YtnhhflnanogpjaaGreatDoorShownT
import Derived.Test.YtnhhflnanogpjaaGreatDoorSumsLaw3
namespace Go.Proofs.YtnhhflnanogpjaaGreatDoor
open Go.RowKit

theorem kids_of {w : World} {g : Nat} {ks : List Int} (h : Blk w g 3 (ks.map (Value.int .i64)).toArray) : KidsAt w (.slice (some ⟨g, 0, none⟩) ks.length ks.length) ks :=
  .inr ⟨g, 0, ks.length, rfl, fun j hj => by
    refine (h.cell (0 + j)).trans ?_
    simp [List.getD, List.getElem?_eq_getElem hj]⟩

def doC (a e : Int) (g1 g2 g3 : Nat) : Array Value := #[.int .i64 1, .int .i64 0, .slice none 0 0, .int .i64 1, .int .i64 e, .slice none 0 0, .int .i64 1, .int .i64 a, .slice none 0 0, .int .i64 8, .int .i64 0, .slice none 0 0, .int .i64 2, .int .i64 11, .slice none 0 0, .int .i64 3, .int .i64 0, .slice (some ⟨g1, 0, none⟩) 2 2, .int .i64 5, .int .i64 0, .slice (some ⟨g2, 0, none⟩) 1 1, .int .i64 3, .int .i64 0, .slice (some ⟨g3, 0, none⟩) 4 4]
theorem do_nodes {w : World} {g g1 g2 g3 : Nat} {a e : Int} (hb : Blk w g 37 (doC a e g1 g2 g3)) (h1 : Blk w g1 3 #[.int .i64 3, .int .i64 4]) (h2 : Blk w g2 3 #[.int .i64 5]) (h3 : Blk w g3 3 #[.int .i64 0, .int .i64 1, .int .i64 2, .int .i64 6]) : NodesAt w (.slice (some ⟨g, 0, none⟩) 8 8) (doL a e) := by
  refine ⟨g, 8, rfl, Nat.le_refl _, fun i hi => ?_⟩
  have hi5 : i < 8 := hi
  rcases (by omega : i = 0 ∨ i = 1 ∨ i = 2 ∨ i = 3 ∨ i = 4 ∨ i = 5 ∨ i = 6 ∨ i = 7) with rfl | rfl | rfl | rfl | rfl | rfl | rfl | rfl
  · exact ⟨_, hb.cell 0, hb.cell 1, hb.cell 2, .inl ⟨rfl, rfl⟩⟩
  · exact ⟨_, hb.cell 3, hb.cell 4, hb.cell 5, .inl ⟨rfl, rfl⟩⟩
  · exact ⟨_, hb.cell 6, hb.cell 7, hb.cell 8, .inl ⟨rfl, rfl⟩⟩
  · exact ⟨_, hb.cell 9, hb.cell 10, hb.cell 11, .inl ⟨rfl, rfl⟩⟩
  · exact ⟨_, hb.cell 12, hb.cell 13, hb.cell 14, .inl ⟨rfl, rfl⟩⟩
  · exact ⟨_, hb.cell 15, hb.cell 16, hb.cell 17, kids_of (ks := [3, 4]) h1⟩
  · exact ⟨_, hb.cell 18, hb.cell 19, hb.cell 20, kids_of (ks := [5]) h2⟩
  · exact ⟨_, hb.cell 21, hb.cell 22, hb.cell 23, kids_of (ks := [0, 1, 2, 6]) h3⟩
theorem do_right (a e : Int) : rightB (doL a e) 0 = true := by kernel_rfl
theorem do_ok {a e : Int} (ha : Cell64 a) (he : Cell64 e) : NodesOk (doL a e) := by
  intro v hv
  simp only [doL, List.mem_cons, List.not_mem_nil, or_false] at hv
  rcases hv with rfl | rfl | rfl | rfl | rfl | rfl | rfl | rfl
  all_goals exact ⟨by first | exact ha | exact he | (unfold Cell64; decide), by simp⟩
def untilC (a e : Int) (g1 g2 g3 : Nat) : Array Value := #[.int .i64 1, .int .i64 0, .slice none 0 0, .int .i64 1, .int .i64 a, .slice none 0 0, .int .i64 2, .int .i64 34, .slice none 0 0, .int .i64 2, .int .i64 11, .slice none 0 0, .int .i64 2, .int .i64 30, .slice none 0 0, .int .i64 2, .int .i64 4, .slice none 0 0, .int .i64 2, .int .i64 28, .slice none 0 0, .int .i64 1, .int .i64 e, .slice none 0 0, .int .i64 2, .int .i64 21, .slice none 0 0, .int .i64 3, .int .i64 0, .slice (some ⟨g1, 0, none⟩) 7 7, .int .i64 6, .int .i64 0, .slice (some ⟨g2, 0, none⟩) 1 1, .int .i64 2, .int .i64 29, .slice none 0 0, .int .i64 3, .int .i64 0, .slice (some ⟨g3, 0, none⟩) 4 4]
theorem until_nodes {w : World} {g g1 g2 g3 : Nat} {a e : Int} (hb : Blk w g 37 (untilC a e g1 g2 g3)) (h1 : Blk w g1 3 #[.int .i64 2, .int .i64 3, .int .i64 4, .int .i64 5, .int .i64 6, .int .i64 7, .int .i64 8]) (h2 : Blk w g2 3 #[.int .i64 9]) (h3 : Blk w g3 3 #[.int .i64 0, .int .i64 1, .int .i64 10, .int .i64 11]) : NodesAt w (.slice (some ⟨g, 0, none⟩) 13 13) (untilL a e) := by
  refine ⟨g, 13, rfl, Nat.le_refl _, fun i hi => ?_⟩
  have hi5 : i < 13 := hi
  rcases (by omega : i = 0 ∨ i = 1 ∨ i = 2 ∨ i = 3 ∨ i = 4 ∨ i = 5 ∨ i = 6 ∨ i = 7 ∨ i = 8 ∨ i = 9 ∨ i = 10 ∨ i = 11 ∨ i = 12) with rfl | rfl | rfl | rfl | rfl | rfl | rfl | rfl | rfl | rfl | rfl | rfl | rfl
  · exact ⟨_, hb.cell 0, hb.cell 1, hb.cell 2, .inl ⟨rfl, rfl⟩⟩
  · exact ⟨_, hb.cell 3, hb.cell 4, hb.cell 5, .inl ⟨rfl, rfl⟩⟩
  · exact ⟨_, hb.cell 6, hb.cell 7, hb.cell 8, .inl ⟨rfl, rfl⟩⟩
  · exact ⟨_, hb.cell 9, hb.cell 10, hb.cell 11, .inl ⟨rfl, rfl⟩⟩
  · exact ⟨_, hb.cell 12, hb.cell 13, hb.cell 14, .inl ⟨rfl, rfl⟩⟩
  · exact ⟨_, hb.cell 15, hb.cell 16, hb.cell 17, .inl ⟨rfl, rfl⟩⟩
  · exact ⟨_, hb.cell 18, hb.cell 19, hb.cell 20, .inl ⟨rfl, rfl⟩⟩
  · exact ⟨_, hb.cell 21, hb.cell 22, hb.cell 23, .inl ⟨rfl, rfl⟩⟩
  · exact ⟨_, hb.cell 24, hb.cell 25, hb.cell 26, .inl ⟨rfl, rfl⟩⟩
  · exact ⟨_, hb.cell 27, hb.cell 28, hb.cell 29, kids_of (ks := [2, 3, 4, 5, 6, 7, 8]) h1⟩
  · exact ⟨_, hb.cell 30, hb.cell 31, hb.cell 32, kids_of (ks := [9]) h2⟩
  · exact ⟨_, hb.cell 33, hb.cell 34, hb.cell 35, .inl ⟨rfl, rfl⟩⟩
  · exact ⟨_, hb.cell 36, hb.cell 37, hb.cell 38, kids_of (ks := [0, 1, 10, 11]) h3⟩
theorem until_right (a e : Int) : rightB (untilL a e) 0 = true := by kernel_rfl
theorem until_ok {a e : Int} (ha : Cell64 a) (he : Cell64 e) : NodesOk (untilL a e) := by
  intro v hv
  simp only [untilL, List.mem_cons, List.not_mem_nil, or_false] at hv
  rcases hv with rfl | rfl | rfl | rfl | rfl | rfl | rfl | rfl | rfl | rfl | rfl | rfl | rfl
  all_goals exact ⟨by first | exact ha | exact he | (unfold Cell64; decide), by simp⟩
def whileC (a e : Int) (g1 g2 g3 g4 : Nat) : Array Value := #[.int .i64 1, .int .i64 0, .slice none 0 0, .int .i64 1, .int .i64 a, .slice none 0 0, .int .i64 2, .int .i64 28, .slice none 0 0, .int .i64 1, .int .i64 e, .slice none 0 0, .int .i64 2, .int .i64 23, .slice none 0 0, .int .i64 3, .int .i64 0, .slice (some ⟨g1, 0, none⟩) 3 3, .int .i64 2, .int .i64 34, .slice none 0 0, .int .i64 2, .int .i64 11, .slice none 0 0, .int .i64 2, .int .i64 30, .slice none 0 0, .int .i64 2, .int .i64 4, .slice none 0 0, .int .i64 3, .int .i64 0, .slice (some ⟨g2, 0, none⟩) 4 4, .int .i64 7, .int .i64 0, .slice (some ⟨g3, 0, none⟩) 2 2, .int .i64 2, .int .i64 29, .slice none 0 0, .int .i64 3, .int .i64 0, .slice (some ⟨g4, 0, none⟩) 4 4]
theorem while_nodes {w : World} {g g1 g2 g3 g4 : Nat} {a e : Int} (hb : Blk w g 37 (whileC a e g1 g2 g3 g4)) (h1 : Blk w g1 3 #[.int .i64 2, .int .i64 3, .int .i64 4]) (h2 : Blk w g2 3 #[.int .i64 6, .int .i64 7, .int .i64 8, .int .i64 9]) (h3 : Blk w g3 3 #[.int .i64 5, .int .i64 10]) (h4 : Blk w g4 3 #[.int .i64 0, .int .i64 1, .int .i64 11, .int .i64 12]) : NodesAt w (.slice (some ⟨g, 0, none⟩) 14 14) (whileL a e) := by
  refine ⟨g, 14, rfl, Nat.le_refl _, fun i hi => ?_⟩
  have hi5 : i < 14 := hi
  rcases (by omega : i = 0 ∨ i = 1 ∨ i = 2 ∨ i = 3 ∨ i = 4 ∨ i = 5 ∨ i = 6 ∨ i = 7 ∨ i = 8 ∨ i = 9 ∨ i = 10 ∨ i = 11 ∨ i = 12 ∨ i = 13) with rfl | rfl | rfl | rfl | rfl | rfl | rfl | rfl | rfl | rfl | rfl | rfl | rfl | rfl
  · exact ⟨_, hb.cell 0, hb.cell 1, hb.cell 2, .inl ⟨rfl, rfl⟩⟩
  · exact ⟨_, hb.cell 3, hb.cell 4, hb.cell 5, .inl ⟨rfl, rfl⟩⟩
  · exact ⟨_, hb.cell 6, hb.cell 7, hb.cell 8, .inl ⟨rfl, rfl⟩⟩
  · exact ⟨_, hb.cell 9, hb.cell 10, hb.cell 11, .inl ⟨rfl, rfl⟩⟩
  · exact ⟨_, hb.cell 12, hb.cell 13, hb.cell 14, .inl ⟨rfl, rfl⟩⟩
  · exact ⟨_, hb.cell 15, hb.cell 16, hb.cell 17, kids_of (ks := [2, 3, 4]) h1⟩
  · exact ⟨_, hb.cell 18, hb.cell 19, hb.cell 20, .inl ⟨rfl, rfl⟩⟩
  · exact ⟨_, hb.cell 21, hb.cell 22, hb.cell 23, .inl ⟨rfl, rfl⟩⟩
  · exact ⟨_, hb.cell 24, hb.cell 25, hb.cell 26, .inl ⟨rfl, rfl⟩⟩
  · exact ⟨_, hb.cell 27, hb.cell 28, hb.cell 29, .inl ⟨rfl, rfl⟩⟩
  · exact ⟨_, hb.cell 30, hb.cell 31, hb.cell 32, kids_of (ks := [6, 7, 8, 9]) h2⟩
  · exact ⟨_, hb.cell 33, hb.cell 34, hb.cell 35, kids_of (ks := [5, 10]) h3⟩
  · exact ⟨_, hb.cell 36, hb.cell 37, hb.cell 38, .inl ⟨rfl, rfl⟩⟩
  · exact ⟨_, hb.cell 39, hb.cell 40, hb.cell 41, kids_of (ks := [0, 1, 11, 12]) h4⟩
theorem while_right (a e : Int) : rightB (whileL a e) 0 = true := by kernel_rfl
theorem while_ok {a e : Int} (ha : Cell64 a) (he : Cell64 e) : NodesOk (whileL a e) := by
  intro v hv
  simp only [whileL, List.mem_cons, List.not_mem_nil, or_false] at hv
  rcases hv with rfl | rfl | rfl | rfl | rfl | rfl | rfl | rfl | rfl | rfl | rfl | rfl | rfl | rfl
  all_goals exact ⟨by first | exact ha | exact he | (unfold Cell64; decide), by simp⟩
theorem lit_any (x : Int) (w : World) : Calls Tryz.prog 12 #[.int .i64 x] w fun e w' => e = .returned (.agg #[.int .i64 1, .int .i64 x, .slice none 0 0]) ∧ Touch [] w w' := by
  have b := Blk.new w 37 #[.int .i64 1, .int .i64 x, .slice none 0 0]
  have q0 := b.cell 0
  have q1 := b.cell 1
  have q2 := b.cell 2
  have t := (Touch.refl [] w).alloc (.cells #[.int .i64 1, .int .i64 x, .slice none 0 0] 37)
  go_enter Tryz.func12, Tryz.ntmps12
  go_wp2
  refine bodyPost_ret (v := .agg #[.int .i64 1, .int .i64 x, .slice none 0 0]) ?_ rfl ⟨rfl, t⟩
  simp [results, Tryz.f12, go_sem, q0, q1, q2]
theorem primn_any (x : Int) (w : World) : Calls Tryz.prog 13 #[.int .i64 x] w fun e w' => e = .returned (.agg #[.int .i64 2, .int .i64 x, .slice none 0 0]) ∧ Touch [] w w' := by
  have b := Blk.new w 37 #[.int .i64 2, .int .i64 x, .slice none 0 0]
  have q0 := b.cell 0
  have q1 := b.cell 1
  have q2 := b.cell 2
  have t := (Touch.refl [] w).alloc (.cells #[.int .i64 2, .int .i64 x, .slice none 0 0] 37)
  go_enter Tryz.func13, Tryz.ntmps13
  go_wp2
  refine bodyPost_ret (v := .agg #[.int .i64 2, .int .i64 x, .slice none 0 0]) ?_ rfl ⟨rfl, t⟩
  simp [results, Tryz.f13, go_sem, q0, q1, q2]
end Go.Proofs.YtnhhflnanogpjaaGreatDoor
