import Derived.Test.YtdokeddjcpnmiaaGreatDoorEn0
import Derived.Test.YtdokeddjcpnmiaaGreatDoorJStkA
import Derived.Deep.Cut
import Derived.Deep.LoopGhost
import Derived.Deep.RegionLaw
import Derived.BigQuiet
import Derived.ProofKit
import Derived.Lib.SliceRun
import Derived.RangeFuncBox
import Derived.RangeFuncLeaves
import Derived.RangeFuncNested
import Derived.RangeFuncCalls
import Derived.Shelf.Abstract
import Derived.WalkKit
import Derived.OwnWalkIn
import Derived.TacticsInMore
import Derived.LoopNIn
import Derived.LoopIn
import Derived.Stop.RegionWithIn
/- The contracts of frame.Frames' methods: frames in memory, those of kind 4 with a row of locals, and what each method makes of them. -/
namespace Go.Proofs.YtdokeddjcpnmiaaGreatDoor
open Go.RowKit
namespace En

/-- a frame, as it lies: its locals are a slice -/
structure Fq where
  f : Fr
  v : Value
def fqCells (q : Fq) : List Value := [.int .i64 q.f.k, .int .i64 q.f.a, .int .i64 q.f.b, .int .i64 q.f.x, .int .i64 q.f.y, q.v]
/-- its locals lie in a row of their own; only a frame of kind 4 has some -/
def Fq.ok (w : World) (q : Fq) : Prop := (q.f.k ≠ 4 → q.f.l = [] ∧ q.v = .slice none 0 0) ∧ q.f.l.length ≤ 1000 ∧ w.ownsRow 0 33 1 q.v q.f.l.length (cells q.f.l)
def Fq.nil (f : Fr) : Fq := ⟨f, .slice none 0 0⟩
theorem Fq.nil_ok (w : World) (f : Fr) (h : f.l = []) : (Fq.nil f).ok w := ⟨fun _ => ⟨h, rfl⟩, by show f.l.length ≤ 1000; rw [h]; decide, by show w.ownsRow 0 33 1 (.slice none 0 0) f.l.length (cells f.l); rw [h]; exact World.ownsRow_nil _ _ _ _⟩
theorem Fq.ok.form {w : World} {q : Fq} (h : q.ok w) : ∃ a c, q.v = .slice a q.f.l.length c := row_value h.2.2
theorem Fq.ok.touch {w w' : World} {G : List Nat} {q : Fq} (h : q.ok w) (t : Touch G w w') (hn : ∀ x ∈ rowOf q.v, x ∉ G) : q.ok w' := ⟨h.1, h.2.1, row_touch h.2.2 t hn⟩
theorem Fq.ok.lt {w : World} {q : Fq} (h : q.ok w) : ∀ x ∈ rowOf q.v, x < w.heap.size := fun _ hx => row_lt h.2.2 hx
theorem fqCells_one {w : World} {q : Fq} (h : q.ok w) : ∀ u ∈ fqCells q, u.oneCell' = true := by
  obtain ⟨a, c, e⟩ := h.form
  intro u hu; simp [fqCells] at hu; rcases hu with rfl | rfl | rfl | rfl | rfl | rfl
  · rfl
  · rfl
  · rfl
  · rfl
  · rfl
  · rw [e]; rfl
/-- the blocks of the locals -/
def rowsF (Q : List Fq) : List Nat := Q.flatMap fun q => rowOf q.v
theorem rowsF_app (A B : List Fq) : rowsF (A ++ B) = rowsF A ++ rowsF B := List.flatMap_append
theorem rowsF_mem {Q : List Fq} {x : Nat} : x ∈ rowsF Q ↔ ∃ q ∈ Q, x ∈ rowOf q.v := List.mem_flatMap
structure RawAt (w : World) (b : Nat) (v : Value) (Q : List Fq) : Prop where
  blk : Blk w b 97 #[v]
  row : w.ownsRow 0 45 6 v Q.length (Q.flatMap fqCells)
  ok : ∀ q ∈ Q, q.ok w
  nd : (b :: (rowOf v ++ rowsF Q)).Nodup
/-- frames lie at block b, over the blocks F -/
def FramesAt (w : World) (b : Nat) (F : List Nat) (L : List Fr) : Prop := ∃ v Q, RawAt w b v Q ∧ L = Q.map (·.f) ∧ (∀ x, x ∈ b :: (rowOf v ++ rowsF Q) → x ∈ F) ∧ ∀ x ∈ F, x < w.heap.size
section
variable {w w' : World} {b : Nat} {v : Value} {Q : List Fq} {F G : List Nat} {L : List Fr}
theorem RawAt.b_row (h : RawAt w b v Q) : b ∉ rowOf v := fun e => (List.nodup_cons.1 h.nd).1 (List.mem_append_left _ e)
theorem RawAt.b_loc (h : RawAt w b v Q) : b ∉ rowsF Q := fun e => (List.nodup_cons.1 h.nd).1 (List.mem_append_right _ e)
theorem RawAt.row_loc (h : RawAt w b v Q) : ∀ x ∈ rowOf v, x ∉ rowsF Q := fun x hx hy => (List.nodup_append.1 (List.nodup_cons.1 h.nd).2).2.2 x hx x hy rfl
theorem RawAt.touch (h : RawAt w b v Q) (t : Touch G w w') (hn : ∀ x, x ∈ b :: (rowOf v ++ rowsF Q) → x ∉ G) : RawAt w' b v Q :=
  ⟨h.blk.touch t (hn b (by simp)), row_touch h.row t (fun x hx => hn x (by simp [hx])), fun q hq => (h.ok q hq).touch t (fun x hx => hn x (by
    have : x ∈ rowsF Q := rowsF_mem.2 ⟨q, hq, hx⟩
    simp [this])), h.nd⟩
theorem RawAt.lt (h : RawAt w b v Q) : ∀ x, x ∈ b :: (rowOf v ++ rowsF Q) → x < w.heap.size := by
  intro x hx
  rcases List.mem_cons.1 hx with rfl | hx
  · exact h.blk.lt
  · rcases List.mem_append.1 hx with hx | hx
    · exact row_lt h.row hx
    · obtain ⟨q, hq, hx⟩ := rowsF_mem.1 hx
      exact (h.ok q hq).lt x hx
theorem FramesAt.touch (h : FramesAt w b F L) (ht : Touch G w w') (hn : ∀ f, f ∈ F → f ∉ G) : FramesAt w' b F L := by
  obtain ⟨v, Q, hr, rfl, hF, hl⟩ := h
  exact ⟨v, Q, hr.touch ht (fun x hx => hn x (hF x hx)), rfl, hF, fun x hx => Nat.lt_of_lt_of_le (hl x hx) ht.size⟩
theorem FramesAt.lt (h : FramesAt w b F L) : ∀ f, f ∈ F → f < w.heap.size := by
  obtain ⟨v, Q, hr, rfl, hF, hl⟩ := h
  exact hl
/-- only a frame of kind 4 has locals -/
theorem FramesAt.noLoc (h : FramesAt w b F L) : ∀ f ∈ L, f.k ≠ 4 → f.l = [] := by
  obtain ⟨v, Q, hr, rfl, _, _⟩ := h
  intro f hf hk
  obtain ⟨q, hq, rfl⟩ := List.mem_map.1 hf
  exact ((hr.ok q hq).1 hk).1
end
theorem FNew_any (w : World) : Calls Tryz.prog 53 #[] w fun e w' => e = .returned (.pointer (some ⟨w.heap.size, 0, none⟩)) ∧ FramesAt w' w.heap.size [w.heap.size] [] ∧ Touch [] w w' := by
  go_enter Tryz.func53, Tryz.ntmps53
  go_wp2
  go_ret
  exact ⟨rfl, ⟨.slice none 0 0, [], ⟨Blk.new _ _ _, World.ownsRow_nil _ _ _ _, (fun _ h => (by cases h)), by simp [rowOf, rowsF]⟩, rfl, by simp [rowOf, rowsF], by simp⟩, (Touch.refl _ _).alloc _⟩
theorem fr_row {w : World} {v : Value} {n : Nat} {xs : List Value} {e : TypeId} (h : w.ownsRow 0 e 6 v n xs) : ∃ a c, v = .slice a n c := by
  rcases Go.Joins.ownsRow_forms h with ⟨rfl, rfl⟩ | ⟨g, cap, rfl⟩
  · exact ⟨none, 0, rfl⟩
  · exact ⟨_, _, rfl⟩
theorem FDepth_any (w : World) (b : Nat) (F : List Nat) (L : List Fr) (h : FramesAt w b F L) : Calls Tryz.prog 22 #[.pointer (some ⟨b, 0, none⟩)] w fun e w' => e = .returned (.int .i64 L.length) ∧ w = w' := by
  obtain ⟨v, Q, hr, rfl, hF, hl⟩ := h
  obtain ⟨a, c, rfl⟩ := fr_row hr.row
  have c0 := hr.blk.cell 0
  clear hr hF hl
  rw [List.length_map]
  go_enter Tryz.func22, Tryz.ntmps22
  go_wp2
  go_ret
  exact ⟨rfl, rfl⟩
abbrev frA (f : Fr) : Array Value := #[.int .i64 f.k, .int .i64 f.a, .int .i64 f.b, .int .i64 f.x, .int .i64 f.y, .slice none 0 0]
theorem six_set {w : World} {g : Nat} {t : TypeId} {a b c d e f : Value} (h : Blk w g t #[a, b, c, d, e, f]) (x y z u v r : Value) :
    Blk ((((((w.setCell ⟨g, 0, none⟩ x).setCell ⟨g, 1, none⟩ y).setCell ⟨g, 2, none⟩ z).setCell ⟨g, 3, none⟩ u).setCell ⟨g, 4, none⟩ v).setCell ⟨g, 5, none⟩ r) g t #[x, y, z, u, v, r] :=
  (((((h.set_ 0 x).set_ 1 y).set_ 2 z).set_ 3 u).set_ 4 v).set_ 5 r
theorem six_touch {w0 w : World} {F : List Nat} {b : Nat} (h : Touch F w0 w) (hb : b ∈ F ∨ w0.heap.size ≤ b) (x y z u v r : Value) : Touch F w0 ((((((w.setCell ⟨b, 0, none⟩ x).setCell ⟨b, 1, none⟩ y).setCell ⟨b, 2, none⟩ z).setCell ⟨b, 3, none⟩ u).setCell ⟨b, 4, none⟩ v).setCell ⟨b, 5, none⟩ r) :=
  (((((h.setCell hb x).setCell hb y).setCell hb z).setCell hb u).setCell hb v).setCell hb r
set_option maxHeartbeats 1000000 in
theorem own_any (k a b x y : Int) (w : World) : Calls Tryz.prog 42 #[.agg #[.int .i64 k, .int .i64 a, .int .i64 b, .int .i64 x, .int .i64 y, .slice none 0 0]] w fun e w' =>
    e = .returned (.agg #[.int .i64 k, .int .i64 a, .int .i64 b, .int .i64 x, .int .i64 y, .slice none 0 0]) ∧ Touch [] w w' := by
  have hC := fun W => Clone_nil 0 0 W
  go_enter Tryz.func42, Tryz.ntmps42
  go_upto_region 1 with (fail)
  have bA := (Blk.new w 45 #[.int .i64 k, .int .i64 a, .int .i64 b, .int .i64 x, .int .i64 y, .slice none 0 0]).alloc (.cells #[.int .i64 0, .int .i64 0, .int .i64 0, .int .i64 0, .int .i64 0, .slice none 0 0] 45)
  have bB := Blk.new_at (n := w.heap.size + 1) (w.alloc (.cells #[.int .i64 k, .int .i64 a, .int .i64 b, .int .i64 x, .int .i64 y, .slice none 0 0] 45)) (by simp) 45 #[.int .i64 0, .int .i64 0, .int .i64 0, .int .i64 0, .int .i64 0, .slice none 0 0]
  have tw := ((Touch.refl [] w).alloc (.cells #[.int .i64 k, .int .i64 a, .int .i64 b, .int .i64 x, .int .i64 y, .slice none 0 0] 45)).alloc (.cells #[.int .i64 0, .int .i64 0, .int .i64 0, .int .i64 0, .int .i64 0, .slice none 0 0] 45)
  generalize (w.alloc (.cells #[.int .i64 k, .int .i64 a, .int .i64 b, .int .i64 x, .int .i64 y, .slice none 0 0] 45)).alloc (.cells #[.int .i64 0, .int .i64 0, .int .i64 0, .int .i64 0, .int .i64 0, .slice none 0 0] 45) = wA at *
  obtain ⟨z, hz⟩ : ∃ z, w.heap.size = z := ⟨_, rfl⟩
  rw [hz] at bA bB ⊢
  have a5 := bA.cell 5
  have fa := bA.frozen 5
  go_wp2_with fail
  refine (hC _).mono ?_
  rintro _ _ ⟨rfl, rfl⟩
  have bA2 := bA.set_ 5 (.slice none 0 0)
  have bB2 := bB.far (p := ⟨z, 5, none⟩) (by simp) (.slice none 0 0)
  have tw2 := tw.setCell (p := ⟨z, 5, none⟩) (.inr (by show w.heap.size ≤ z; omega)) (.slice none 0 0)
  have k0 := bA2.cell 0
  have k1 := bA2.cell 1
  have k2 := bA2.cell 2
  have k3 := bA2.cell 3
  have k4 := bA2.cell 4
  have k5 := bA2.cell 5
  go_upto_region 2 with (fail)
  generalize wA.setCell ⟨z, 5, none⟩ (.slice none 0 0) = wB at *
  have c0 := bB2.cell 0
  have c1 := bB2.cell 1
  have c2 := bB2.cell 2
  have c3 := bB2.cell 3
  have c4 := bB2.cell 4
  have c5 := bB2.cell 5
  have f0 := bB2.frozen 0
  have f1 := bB2.frozen 1
  have f2 := bB2.frozen 2
  have f3 := bB2.frozen 3
  have f4 := bB2.frozen 4
  have f5 := bB2.frozen 5
  clear a5 fa bA bB bA2 tw hC
  go_wp2_with fail
  have bR := six_set bB2 (.int .i64 k) (.int .i64 a) (.int .i64 b) (.int .i64 x) (.int .i64 y) (.slice none 0 0)
  have r0 := bR.cell 0
  have r1 := bR.cell 1
  have r2 := bR.cell 2
  have r3 := bR.cell 3
  have r4 := bR.cell 4
  have r5 := bR.cell 5
  refine bodyPost_ret (by simp [results, Tryz.results42, go_sem, r0, r1, r2, r3, r4, r5]; try rfl) rfl ?_
  exact ⟨rfl, six_touch tw2 (.inr (by show w.heap.size ≤ z + 1; omega)) _ _ _ _ _ _⟩
theorem own_weak {w : World} {A B n s : Nat} {e : TypeId} {v : Value} {xs : List Value} (h : w.ownsRow A e s v n xs) (hB : B ≤ A) : w.ownsRow B e s v n xs := by
  obtain ⟨h1, h2⟩ := h
  refine ⟨h1, h2.imp id ?_⟩
  rintro ⟨g, cap, cur, hv, hg, hh⟩
  exact ⟨g, cap, cur, hv, Nat.le_trans hB hg, hh⟩
/-- cells that may be read -/
def LocIn (w : World) (v : Value) (l : List Int) : Prop := (v = .slice none 0 0 ∧ l = []) ∨ ∃ g c, v = .slice (some ⟨g, 0, none⟩) l.length c ∧ ∀ j u, (cells l)[j]? = some u → w.cell? ⟨g, j, none⟩ = some u
theorem row_locIn {w : World} {base : Nat} {v : Value} {l : List Int} (h : w.ownsRow base 33 1 v l.length (cells l)) : LocIn w v l := by
  rcases h.2 with ⟨e, h0⟩ | ⟨g, cap, cur, e, _⟩
  · exact .inl ⟨e, List.eq_nil_of_length_eq_zero h0⟩
  · subst e
    refine .inr ⟨g, cap, rfl, fun j u hj => ?_⟩
    have := h.cells (g := g) rfl j u hj
    rw [add_off, Nat.zero_add] at this
    exact this
theorem LocIn.form {w : World} {v : Value} {l : List Int} (h : LocIn w v l) : ∃ a c, v = .slice a l.length c := by
  rcases h with ⟨e, rfl⟩ | ⟨g, c, e, _⟩
  · exact ⟨_, _, e⟩
  · exact ⟨_, _, e⟩
theorem LocIn.quiet {w w' : World} {v : Value} {l : List Int} (h : LocIn w v l) (t : Touch [] w w') : LocIn w' v l := by
  rcases h with h | ⟨g, c, e, hc⟩
  · exact .inl h
  · exact .inr ⟨g, c, e, fun j u hj => cell_quiet t (hc j u hj)⟩
theorem CloneC_row {w : World} {v : Value} {L : List Int} (h : LocIn w v L) (hL : L.length ≤ 1000000) : Calls Tryz.prog 44 #[v] w fun e w' =>
      ∃ v, e = .returned v ∧ w'.ownsRow w.heap.size 33 1 v L.length (cells L) ∧ Touch [] w w' := by
  rcases h with ⟨rfl, rfl⟩ | ⟨g, cap, rfl, hc⟩
  · refine (Clone_nil 0 0 w).mono ?_
    rintro _ _ ⟨rfl, rfl⟩
    exact ⟨_, rfl, World.ownsRow_nil _ _ _ _, Touch.refl _ _⟩
  · refine (Clone_any g 0 cap L w hL (fun j u hj => ?_)).mono ?_
    · rw [Nat.zero_add]
      exact hc j u hj
    · rintro _ w' ⟨v', rfl, h1, _, h3⟩
      exact ⟨v', rfl, h1, h3⟩
set_option maxHeartbeats 1000000 in
theorem own_loc (k a b x y : Int) (v : Value) (l : List Int) (hl : l.length ≤ 1000) (w : World) (hr : LocIn w v l) : Calls Tryz.prog 42 #[.agg #[.int .i64 k, .int .i64 a, .int .i64 b, .int .i64 x, .int .i64 y, v]] w fun e w' =>
    ∃ v', e = .returned (.agg #[.int .i64 k, .int .i64 a, .int .i64 b, .int .i64 x, .int .i64 y, v']) ∧ w'.ownsRow w.heap.size 33 1 v' l.length (cells l) ∧ Touch [] w w' := by
  obtain ⟨va, vc, rfl⟩ := hr.form
  obtain ⟨n, hn⟩ : ∃ n, l.length = n := ⟨_, rfl⟩
  have hC := Lib.hid (fun W (t : Touch [] w W) => CloneC_row (hr.quiet t) (by omega : l.length ≤ 1000000))
  rw [hn] at hC ⊢
  clear hr
  go_enter Tryz.func42, Tryz.ntmps42
  go_upto_region 1 with (fail)
  have bA := (Blk.new w 45 #[.int .i64 k, .int .i64 a, .int .i64 b, .int .i64 x, .int .i64 y, .slice va n vc]).alloc (.cells #[.int .i64 0, .int .i64 0, .int .i64 0, .int .i64 0, .int .i64 0, .slice none 0 0] 45)
  have bB := Blk.new_at (n := w.heap.size + 1) (w.alloc (.cells #[.int .i64 k, .int .i64 a, .int .i64 b, .int .i64 x, .int .i64 y, .slice va n vc] 45)) (by simp) 45 #[.int .i64 0, .int .i64 0, .int .i64 0, .int .i64 0, .int .i64 0, .slice none 0 0]
  have tw := ((Touch.refl [] w).alloc (.cells #[.int .i64 k, .int .i64 a, .int .i64 b, .int .i64 x, .int .i64 y, .slice va n vc] 45)).alloc (.cells #[.int .i64 0, .int .i64 0, .int .i64 0, .int .i64 0, .int .i64 0, .slice none 0 0] 45)
  have hsz : ((w.alloc (.cells #[.int .i64 k, .int .i64 a, .int .i64 b, .int .i64 x, .int .i64 y, .slice va n vc] 45)).alloc (.cells #[.int .i64 0, .int .i64 0, .int .i64 0, .int .i64 0, .int .i64 0, .slice none 0 0] 45)).heap.size = w.heap.size + 2 := by simp
  generalize (w.alloc (.cells #[.int .i64 k, .int .i64 a, .int .i64 b, .int .i64 x, .int .i64 y, .slice va n vc] 45)).alloc (.cells #[.int .i64 0, .int .i64 0, .int .i64 0, .int .i64 0, .int .i64 0, .slice none 0 0] 45) = wA at *
  obtain ⟨z, hz⟩ : ∃ z, w.heap.size = z := ⟨_, rfl⟩
  rw [hz] at bA bB hsz ⊢
  have a5 := bA.cell 5
  have HSZ := Lib.hid (And.intro hsz hz)
  clear hsz hz
  go_wp2_with fail
  refine (hC.out _ tw).mono ?_
  rintro _ w3 ⟨v', rfl, hown, t3⟩
  rw [HSZ.out.1] at hown
  obtain ⟨va', vc', rfl⟩ : ∃ a c, v' = .slice a n c := by
    rcases Go.Joins.ownsRow_forms hown with ⟨rfl, h0⟩ | ⟨g, cap, rfl⟩
    · exact ⟨none, 0, by rw [h0]⟩
    · exact ⟨_, _, rfl⟩
  have HO := Lib.hid hown
  clear a5
  have a5 := (bA.touch t3 (by simp)).cell 5
  have fa := (bA.touch t3 (by simp)).frozen 5
  have bA2 := (bA.touch t3 (by simp)).set_ 5 (.slice va' n vc')
  have bB2 := (bB.touch t3 (by simp)).far (p := ⟨z, 5, none⟩) (by simp) (.slice va' n vc')
  have tw2 := (tw.trans t3 (by simp)).setCell (p := ⟨z, 5, none⟩) (.inr (by show w.heap.size ≤ z; rw [HSZ.out.2]; exact Nat.le_refl _)) (.slice va' n vc')
  have t33 := (Touch.refl [z, z + 1] w3).setCell (p := ⟨z, 5, none⟩) (by simp) (.slice va' n vc')
  have k0 := bA2.cell 0
  have k1 := bA2.cell 1
  have k2 := bA2.cell 2
  have k3 := bA2.cell 3
  have k4 := bA2.cell 4
  have k5 := bA2.cell 5
  clear hown t3
  go_upto_region 2 with (fail)
  generalize w3.setCell ⟨z, 5, none⟩ (.slice va' n vc') = wB at *
  have c0 := bB2.cell 0
  have c1 := bB2.cell 1
  have c2 := bB2.cell 2
  have c3 := bB2.cell 3
  have c4 := bB2.cell 4
  have c5 := bB2.cell 5
  have f0 := bB2.frozen 0
  have f1 := bB2.frozen 1
  have f2 := bB2.frozen 2
  have f3 := bB2.frozen 3
  have f4 := bB2.frozen 4
  have f5 := bB2.frozen 5
  clear a5 fa bA bB bA2 tw hC
  go_wp2_with fail
  have bR := six_set bB2 (.int .i64 k) (.int .i64 a) (.int .i64 b) (.int .i64 x) (.int .i64 y) (.slice va' n vc')
  have r0 := bR.cell 0
  have r1 := bR.cell 1
  have r2 := bR.cell 2
  have r3 := bR.cell 3
  have r4 := bR.cell 4
  have r5 := bR.cell 5
  refine bodyPost_ret (by simp [results, Tryz.results42, go_sem, r0, r1, r2, r3, r4, r5]; try rfl) rfl ?_
  have t34 := six_touch t33 (b := z + 1) (.inl (by simp)) (.int .i64 k) (.int .i64 a) (.int .i64 b) (.int .i64 x) (.int .i64 y) (.slice va' n vc')
  have t2w := six_touch tw2 (b := z + 1) (.inr (by rw [HSZ.out.2]; omega)) (.int .i64 k) (.int .i64 a) (.int .i64 b) (.int .i64 x) (.int .i64 y) (.slice va' n vc')
  refine ⟨_, rfl, ?_, t2w⟩
  have h1 := row_touch HO.out t34 (fun g hg => by
    have h2 := (World.ownsRow.lt HO.out g (rowOf_mem.1 hg)).1
    simp only [List.mem_cons, List.not_mem_nil, or_false]
    omega)
  exact own_weak h1 (by have := HSZ.out.2; omega)
end En
end Go.Proofs.YtdokeddjcpnmiaaGreatDoor

/- frame.Frames.Push. -/
namespace Go.Proofs.YtdokeddjcpnmiaaGreatDoor
open Go.RowKit
namespace En

theorem info_frame : (Tryz.prog.info? 45).map (fun i => (i.zero, i.size, i.bytes)) = some (some (.agg #[.int .i64 0, .int .i64 0, .int .i64 0, .int .i64 0, .int .i64 0, .slice none 0 0]), 6, 64) := by kernel_rfl
theorem info_frame' : ∃ i0, Tryz.prog.info? 45 = some i0 ∧ i0.zero = some (.agg #[.int .i64 0, .int .i64 0, .int .i64 0, .int .i64 0, .int .i64 0, .slice none 0 0]) ∧ i0.size = 6 ∧ i0.bytes = 64 := by
  have h := info_frame
  cases hi : Tryz.prog.info? 45 with
  | none => rw [hi] at h; cases h
  | some i =>
    rw [hi] at h
    simp only [Option.map_some, Option.some.injEq, Prod.mk.injEq] at h
    exact ⟨i, rfl, h.1, h.2.1, h.2.2⟩
theorem row_one {v : Value} {y : Nat} {r : List Nat} (h : rowOf v = y :: r) : r = [] := by
  cases v with
  | slice a n c =>
    cases a with
    | none => cases h
    | some a => injection h with _ h2; exact h2.symm
  | _ => cases h
theorem push_end {w W w1 : World} {b : Nat} {Q : List Fq} {v : Value} {g cap n : Nat} (q : Fq) (h : RawAt w b v Q) (t : Touch [] w W) (hn : Q.length = n) {F : List Nat} (hF : ∀ x, x ∈ b :: (rowOf v ++ rowsF Q) → x ∈ F) (hFl : ∀ x ∈ F, x < w.heap.size) (hq : q.ok W) (hqr : ∀ x ∈ rowOf q.v, w.heap.size ≤ x)
    (hown : w1.ownsRow 0 45 6 (.slice (some ⟨g, 0, none⟩) (n + 1) cap) (n + 1) (Q.flatMap fqCells ++ fqCells q))
    (hgr : W.grownBy w1 v.ownBlock) (hat : v.ownBlock = some g ∨ g = W.heap.size) :
    ∃ F', FramesAt (w1.setCell ⟨b, 0, none⟩ (.slice (some ⟨g, 0, none⟩) (n + 1) cap)) b F' (Q.map (·.f) ++ [q.f]) ∧ Touch F w (w1.setCell ⟨b, 0, none⟩ (.slice (some ⟨g, 0, none⟩) (n + 1) cap)) ∧ Sub w F F' := by
  have hbl := h.blk.lt
  have hz := t.size
  have hlt := h.lt
  have hnb := h.b_row
  have hgb : g ≠ b := by
    rintro rfl
    rcases hat with h | h
    · exact hnb (rowOf_mem.2 h)
    · omega
  have hqW := hq.lt
  have hgQ : ∀ x ∈ rowsF Q, x ≠ g := by
    rintro x hx rfl
    rcases hat with e | e
    · exact h.row_loc _ (rowOf_mem.2 e) hx
    · have := hlt x (by simp [hx]); omega
  have hgq : ∀ x ∈ rowOf q.v, x ≠ g := by
    rintro x hx rfl
    rcases hat with e | e
    · have h1 := hlt x (by simp [rowOf_mem.2 e])
      have h2 := hqr x hx
      omega
    · have := hqW x hx; omega
  have tw1 : Touch (rowOf v) W w1 := (Touch.refl _ W).grown hgr fun k hk => .inl (rowOf_mem.2 hk)
  have tb : Touch [b] w1 (w1.setCell ⟨b, 0, none⟩ (.slice (some ⟨g, 0, none⟩) (n + 1) cap)) := (Touch.refl [b] w1).setCell (by simp) _
  have hb1 : Blk w1 b 97 #[v] := (h.blk.touch t (by simp)).touch tw1 hnb
  have h1 : Touch F w w1 := (t.mono (by simp)).trans tw1 (fun k hk => .inl (hF k (by simp [hk])))
  have hgl : g < (w1.setCell ⟨b, 0, none⟩ (.slice (some ⟨g, 0, none⟩) (n + 1) cap)).heap.size := by
    have := (World.ownsRow.lt hown g rfl).2
    exact Nat.lt_of_lt_of_le this tb.size
  have hqs : ∀ x ∈ rowOf q.v, x < (w1.setCell ⟨b, 0, none⟩ (.slice (some ⟨g, 0, none⟩) (n + 1) cap)).heap.size := fun x hx => Nat.lt_of_lt_of_le (hqW x hx) (Nat.le_trans tw1.size tb.size)
  refine ⟨F ++ (g :: rowOf q.v), ⟨.slice (some ⟨g, 0, none⟩) (n + 1) cap, Q ++ [q], ⟨hb1.set_ 0 _, ?_, ?_, ?_⟩, by simp, ?_, ?_⟩, h1.trans tb (fun k hk => .inl (by rw [List.mem_singleton.1 hk]; exact hF b (by simp))), ?_⟩
  · have e : (Q ++ [q]).flatMap fqCells = Q.flatMap fqCells ++ fqCells q := by simp
    have el : (Q ++ [q]).length = n + 1 := by simp [hn]
    rw [e, el]
    exact row_touch hown tb (by simp [rowOf]; omega)
  · intro x hx
    rcases List.mem_append.1 hx with hx | hx
    · have hxr : ∀ y ∈ rowOf x.v, y ∈ rowsF Q := fun y hy => rowsF_mem.2 ⟨x, hx, hy⟩
      refine ((((h.ok x hx).touch t (by simp)).touch tw1 (fun y hy hv => h.row_loc y hv (hxr y hy))).touch tb (fun y hy hb => ?_))
      rw [List.mem_singleton.1 hb] at hy
      exact h.b_loc (hxr b hy)
    · rw [List.mem_singleton.1 hx]
      refine ((hq.touch tw1 (fun y hy hv => ?_)).touch tb (fun y hy hb => ?_))
      · have h1 := hlt y (by simp [hv])
        have h2 := hqr y hy
        omega
      · rw [List.mem_singleton.1 hb] at hy
        have h2 := hqr b hy
        omega
  · have e1 : rowOf (Value.slice (some ⟨g, 0, none⟩) (n + 1) cap) = [g] := rfl
    rw [e1, rowsF_app, List.nodup_cons, List.singleton_append, List.nodup_cons]
    have e2 : rowsF [q] = rowOf q.v := by simp [rowsF]
    rw [e2]
    refine ⟨?_, ?_, ?_⟩
    · simp only [List.mem_cons, List.mem_append]
      rintro (e | e | e)
      · exact hgb e.symm
      · exact h.b_loc e
      · have := hqr b e; omega
    · simp only [List.mem_append]
      rintro (e | e)
      · exact hgQ g e rfl
      · exact hgq g e rfl
    · refine List.nodup_append.2 ⟨(List.nodup_append.1 (List.nodup_cons.1 h.nd).2).2.1, ?_, fun x hx y hy e => ?_⟩
      · rcases hr : rowOf q.v with _ | ⟨y, r⟩
        · exact List.nodup_nil
        · have : r = [] := row_one hr
          rw [this]
          simp
      · subst e
        have h1 := hlt x (by simp [hx])
        have h2 := hqr x hy
        omega
  · intro x hx
    rw [rowsF_app] at hx
    have e2 : rowsF [q] = rowOf q.v := by simp [rowsF]
    rw [e2] at hx
    simp only [rowOf, List.mem_cons, List.mem_append, List.not_mem_nil, or_false] at hx
    rcases hx with rfl | rfl | hx | hx
    · exact List.mem_append_left _ (hF _ (by simp))
    · exact List.mem_append_right _ (by simp)
    · exact List.mem_append_left _ (hF _ (by simp [hx]))
    · exact List.mem_append_right _ (List.mem_cons_of_mem _ hx)
  · intro x hx
    rcases List.mem_append.1 hx with hx | hx
    · exact Nat.lt_of_lt_of_le (hFl x hx) (Nat.le_trans hz (Nat.le_trans tw1.size tb.size))
    · rcases List.mem_cons.1 hx with rfl | hx
      · exact hgl
      · exact hqs x hx
  · intro x hx
    rcases List.mem_append.1 hx with hx | hx
    · exact .inl hx
    · rcases List.mem_cons.1 hx with rfl | hx
      · rcases hat with h | h
        · exact .inl (hF _ (by simp [rowOf_mem.2 h]))
        · exact .inr (by omega)
      · exact .inr (hqr x hx)
/-- what own makes of a frame -/
def OwnOk (w : World) (f : Fr) (v : Value) : Prop := Calls Tryz.prog 42 #[.agg #[.int .i64 f.k, .int .i64 f.a, .int .i64 f.b, .int .i64 f.x, .int .i64 f.y, v]] w fun e w' =>
  ∃ v', e = .returned (.agg #[.int .i64 f.k, .int .i64 f.a, .int .i64 f.b, .int .i64 f.x, .int .i64 f.y, v']) ∧ (Fq.mk f v').ok w' ∧ (∀ x ∈ rowOf v', w.heap.size ≤ x) ∧ Touch [] w w'
theorem own_of_nil (w : World) (f : Fr) (hf : f.l = []) : OwnOk w f (.slice none 0 0) := by
  refine (own_any f.k f.a f.b f.x f.y w).mono ?_
  rintro _ w' ⟨rfl, t⟩
  exact ⟨_, rfl, Fq.nil_ok w' f hf, by simp [rowOf], t⟩
theorem own_of_loc (w : World) (f : Fr) (v : Value) (hk : f.k = 4) (hl : f.l.length ≤ 1000) (hr : LocIn w v f.l) : OwnOk w f v := by
  refine (own_loc f.k f.a f.b f.x f.y v f.l hl w hr).mono ?_
  rintro _ w' ⟨v', rfl, h1, t⟩
  exact ⟨v', rfl, ⟨fun h => absurd hk h, hl, own_weak h1 (Nat.zero_le _)⟩, fun x hx => (World.ownsRow.lt h1 x (rowOf_mem.1 hx)).1, t⟩
theorem own_of {w : World} {q : Fq} (h : q.ok w) : OwnOk w q.f q.v := by
  by_cases hk : q.f.k = 4
  · exact own_of_loc w q.f q.v hk h.2.1 (row_locIn h.2.2)
  · obtain ⟨h1, h2⟩ := h.1 hk
    rw [h2]
    exact own_of_nil w q.f h1
set_option maxRecDepth 100000 in
set_option maxHeartbeats 3200000 in
theorem FPush_gen (w : World) (b : Nat) (F : List Nat) (L : List Fr) (h : FramesAt w b F L) (hL : L.length < 128) (f : Fr) (fv : Value) (hfv : ∃ a n c, fv = .slice a n c) (hO : ∀ W, Touch [] w W → OwnOk W f fv) :
    Calls Tryz.prog 18 #[.pointer (some ⟨b, 0, none⟩), .agg #[.int .i64 f.k, .int .i64 f.a, .int .i64 f.b, .int .i64 f.x, .int .i64 f.y, fv]] w fun e w' => e = .returned (.int .i64 0) ∧ ∃ F', FramesAt w' b F' (L ++ [f]) ∧ Touch F w w' ∧ Sub w F F' := by
  obtain ⟨ga, gn, gc, rfl⟩ := hfv
  obtain ⟨v, Q, hR, rfl, hF, hFl⟩ := h
  rw [List.length_map] at hL
  obtain ⟨va, vc, hva⟩ := fr_row hR.row
  obtain ⟨n, hn⟩ : ∃ n, Q.length = n := ⟨_, rfl⟩
  rw [hn] at hva hL
  have hr := hR.row
  rw [hn] at hr
  subst hva
  obtain ⟨i0, hi, hz0, hz1, hz2⟩ := info_frame'
  have HA : Hid (n + 1 ≤ maxLen) := by show _ ≤ maxLen; unfold maxLen; omega
  have HB : Hid ((n + 1) * 64 ≤ 140737488355328) := by show (n + 1) * 64 ≤ 140737488355328; omega
  have HR := Lib.hid (fun W (t : Touch [] w W) => row_touch hr t (by simp))
  have HV : Hid (some b ≠ (Value.slice va n vc).ownBlock) := fun e => hR.b_row (rowOf_mem.2 e.symm)
  have HBB := Lib.hid hR.blk
  have hOw := Lib.hid hO
  have HE := Lib.hid (fun (W w1 : World) (g cap : Nat) (q : Fq) => push_end (W := W) (w1 := w1) (g := g) (cap := cap) q hR (n := n) (v := .slice va n vc) (hF := hF) (hFl := hFl))
  have c0 := (hR.blk.alloc (.cells #[.int .i64 f.k, .int .i64 f.a, .int .i64 f.b, .int .i64 f.x, .int .i64 f.y, .slice ga gn gc] 45)).cell 0
  have hlt : ¬ (n : Int) ≥ 128 := by omega
  have HN := Lib.hid hn
  clear hr hR hn hO hF hFl
  go_enter Tryz.func18, Tryz.ntmps18
  go_upto_region 5 with (fail)
  have tw := (Touch.refl [] w).alloc (.cells #[.int .i64 f.k, .int .i64 f.a, .int .i64 f.b, .int .i64 f.x, .int .i64 f.y, .slice ga gn gc] 45)
  have bX := Blk.new w 45 #[.int .i64 f.k, .int .i64 f.a, .int .i64 f.b, .int .i64 f.x, .int .i64 f.y, .slice ga gn gc]
  have x0 := bX.cell 0
  have x1 := bX.cell 1
  have x2 := bX.cell 2
  have x3 := bX.cell 3
  have x4 := bX.cell 4
  have x5 := bX.cell 5
  generalize w.alloc (.cells #[.int .i64 f.k, .int .i64 f.a, .int .i64 f.b, .int .i64 f.x, .int .i64 f.y, .slice ga gn gc] 45) = wA at *
  go_region_law (first
    | (go_simp; go_at_call 42; refine (hOw.out _ tw.drew).mono ?_; rintro _ w5 ⟨v5, rfl, ok5, lt5, t5⟩; obtain ⟨qa, qc, rfl⟩ : ∃ a c, v5 = .slice a f.l.length c := ok5.form; obtain ⟨ln, hln⟩ : ∃ ln, f.l.length = ln := ⟨_, rfl⟩; rw [hln] at ok5 lt5 ⊢; have HQ := Lib.hid (And.intro ok5 (show ∀ x ∈ rowOf (.slice qa ln qc), w.heap.size ≤ x from fun x hx => Nat.le_trans tw.size (lt5 x hx))); have tw5 := Lib.hid (tw.drew.trans t5 (by simp)); have c0 := ((HBB.out.touch tw5.out (by simp)).alloc (.cells #[.int .i64 f.k, .int .i64 f.a, .int .i64 f.b, .int .i64 f.x, .int .i64 f.y, .slice qa ln qc] 45)).cell 0; have c00 := (HBB.out.touch tw5.out (by simp)).cell 0; clear t5 ok5 lt5 hln)
    | (refine step_append_lies _ rfl (.tmp 19) (.tmp 22) 95 rfl 0 45 i0 _ 6 64 Tryz.underlying95 hi hz0 hz1 hz2 rfl (by omega) (.slice va n vc) n (Q.flatMap fqCells) (by simp [Act.eval]) (HR.out _ (tw5.out.alloc _)) ⟨_, 0, none⟩ 1 1 (fqCells ⟨f, .slice qa ln qc⟩) (by simp [Act.eval]) rfl (World.news_of_block (heap_alloc_new _ _)) (fqCells_one HQ.out.1) (by omega) HA.out HB.out (Nat.zero_le _) _ rfl ?_; intro g cap w1 hown hgr hat hlt2; have HG := Lib.hid (HE.out _ _ _ _ ⟨f, .slice qa ln qc⟩ (tw5.out.alloc _) HN.out (HQ.out.1.touch ((Touch.refl [] _).alloc _) (by simp)) HQ.out.2 hown hgr hat); have hb1 := ((HBB.out.touch tw5.out (by simp)).alloc (.cells #[.int .i64 f.k, .int .i64 f.a, .int .i64 f.b, .int .i64 f.x, .int .i64 f.y, .slice qa ln qc] 45)).grown hgr HV.out; have d0 := hb1.cell 0; have g0 := hb1.frozen 0; clear hown hgr hat hlt2 hb1))
  all_goals go_wp2_with fail
  all_goals go_ret
  all_goals exact ⟨rfl, HG.out⟩
theorem FPush_ok (w : World) (b : Nat) (F : List Nat) (L : List Fr) (h : FramesAt w b F L) (hL : L.length < 128) (f : Fr) (hf : f.l = []) :
    Calls Tryz.prog 18 #[.pointer (some ⟨b, 0, none⟩), .agg (frA f)] w fun e w' => e = .returned (.int .i64 0) ∧ ∃ F', FramesAt w' b F' (L ++ [f]) ∧ Touch F w w' ∧ Sub w F F' :=
  FPush_gen w b F L h hL f (.slice none 0 0) ⟨_, _, _, rfl⟩ fun W _ => own_of_nil W f hf
theorem FPush_loc (w : World) (b : Nat) (F : List Nat) (L : List Fr) (h : FramesAt w b F L) (hL : L.length < 128) (f : Fr) (v : Value) (hk : f.k = 4) (hl : f.l.length ≤ 1000) (hr : LocIn w v f.l) :
    Calls Tryz.prog 18 #[.pointer (some ⟨b, 0, none⟩), .agg #[.int .i64 f.k, .int .i64 f.a, .int .i64 f.b, .int .i64 f.x, .int .i64 f.y, v]] w fun e w' => e = .returned (.int .i64 0) ∧ ∃ F', FramesAt w' b F' (L ++ [f]) ∧ Touch F w w' ∧ Sub w F F' :=
  FPush_gen w b F L h hL f v (by obtain ⟨a, c, e⟩ := hr.form; exact ⟨_, _, _, e⟩) fun W t => own_of_loc W f v hk hl (hr.quiet t)
end En
end Go.Proofs.YtdokeddjcpnmiaaGreatDoor

/- frame.Frames.Push of one too many; Top; Cut. -/
namespace Go.Proofs.YtdokeddjcpnmiaaGreatDoor
open Go.RowKit
namespace En

theorem flat_len6 (L : List Fq) : (L.flatMap fqCells).length = L.length * 6 := by
  induction L with
  | nil => rfl
  | cons f r ih =>
    rw [List.flatMap_cons, List.length_append, ih]
    show 6 + r.length * 6 = (r.length + 1) * 6
    omega
theorem flat_at (L : List Fq) (m i : Nat) (f : Fq) (h : L[m]? = some f) (hi : i < 6) : (L.flatMap fqCells)[m * 6 + i]? = (fqCells f)[i]? := by
  induction L generalizing m with
  | nil => simp at h
  | cons x r ih =>
    rw [List.flatMap_cons]
    cases m with
    | zero =>
      simp at h
      subst h
      rw [Nat.zero_mul, Nat.zero_add, List.getElem?_append_left (by show i < 6; exact hi)]
    | succ m =>
      rw [List.getElem?_append_right (by show 6 ≤ (m + 1) * 6 + i; omega)]
      rw [show (m + 1) * 6 + i - (fqCells x).length = m * 6 + i by show (m + 1) * 6 + i - 6 = _; omega]
      exact ih m (by simpa using h)
/-- a frame's cells, where it lies -/
theorem fr_cell {w : World} {g cap n : Nat} {L : List Fq} (hr : w.ownsRow 0 45 6 (.slice (some ⟨g, 0, none⟩) n cap) n (L.flatMap fqCells)) {m : Nat} {q : Fq} (h : L[m]? = some q) :
    w.cell? ⟨g, m * 6, none⟩ = some (.int .i64 q.f.k) ∧ w.cell? ⟨g, m * 6 + 1, none⟩ = some (.int .i64 q.f.a) ∧ w.cell? ⟨g, m * 6 + 2, none⟩ = some (.int .i64 q.f.b) ∧ w.cell? ⟨g, m * 6 + 3, none⟩ = some (.int .i64 q.f.x) ∧ w.cell? ⟨g, m * 6 + 4, none⟩ = some (.int .i64 q.f.y) ∧ w.cell? ⟨g, m * 6 + 5, none⟩ = some q.v := by
  have hc := hr.cells (g := g) rfl
  have key : ∀ i u, i < 6 → (fqCells q)[i]? = some u → w.cell? ⟨g, m * 6 + i, none⟩ = some u := fun i u hi hu => by
    have := hc (m * 6 + i) u (by rw [flat_at L m i q h hi, hu])
    rw [add_off, Nat.zero_add] at this
    exact this
  exact ⟨key 0 _ (by decide) rfl, key 1 _ (by decide) rfl, key 2 _ (by decide) rfl, key 3 _ (by decide) rfl, key 4 _ (by decide) rfl, key 5 _ (by decide) rfl⟩
theorem FPush_deepG (w : World) (b : Nat) (F : List Nat) (L : List Fr) (h : FramesAt w b F L) (hL : 128 ≤ L.length) (f : Fr) (fv : Value) (hfv : ∃ a n c, fv = .slice a n c) :
    Calls Tryz.prog 18 #[.pointer (some ⟨b, 0, none⟩), .agg #[.int .i64 f.k, .int .i64 f.a, .int .i64 f.b, .int .i64 f.x, .int .i64 f.y, fv]] w fun e w' => e = .returned (.int .i64 (-5)) ∧ Touch [] w w' := by
  obtain ⟨ga, gn, gc, rfl⟩ := hfv
  obtain ⟨v, Q, hR, rfl, hF, hFl⟩ := h
  rw [List.length_map] at hL
  obtain ⟨va, vc, rfl⟩ := fr_row hR.row
  have c0 := (hR.blk.alloc (.cells #[.int .i64 f.k, .int .i64 f.a, .int .i64 f.b, .int .i64 f.x, .int .i64 f.y, .slice ga gn gc] 45)).cell 0
  have hge : (Q.length : Int) ≥ 128 := by omega
  clear hR hF hFl
  go_enter Tryz.func18, Tryz.ntmps18
  go_wp2_with fail
  go_ret
  exact ⟨rfl, (Touch.refl _ _).alloc _⟩
theorem FPush_deep (w : World) (b : Nat) (F : List Nat) (L : List Fr) (h : FramesAt w b F L) (hL : 128 ≤ L.length) (f : Fr) :
    Calls Tryz.prog 18 #[.pointer (some ⟨b, 0, none⟩), .agg (frA f)] w fun e w' => e = .returned (.int .i64 (-5)) ∧ Touch [] w w' :=
  FPush_deepG w b F L h hL f (.slice none 0 0) ⟨_, _, _, rfl⟩
theorem FTop_nil (w : World) (b : Nat) (F : List Nat) (h : FramesAt w b F []) :
    Calls Tryz.prog 21 #[.pointer (some ⟨b, 0, none⟩)] w fun e w' => e = .returned (.tuple #[.agg (frA Fr.none), .bool false]) ∧ Touch [] w w' := by
  have hD := FDepth_any _ b F [] (h.touch ((Touch.refl [] w).alloc (.cells #[.int .i64 0, .int .i64 0, .int .i64 0, .int .i64 0, .int .i64 0, .slice none 0 0] 45)) (by simp))
  have bR := Blk.new w 45 #[.int .i64 0, .int .i64 0, .int .i64 0, .int .i64 0, .int .i64 0, .slice none 0 0]
  have tw := (Touch.refl [] w).alloc (.cells #[.int .i64 0, .int .i64 0, .int .i64 0, .int .i64 0, .int .i64 0, .slice none 0 0] 45)
  have f0 := bR.frozen 0
  have f1 := bR.frozen 1
  have f2 := bR.frozen 2
  have f3 := bR.frozen 3
  have f4 := bR.frozen 4
  have f5 := bR.frozen 5
  have c0 := bR.cell 0
  have c1 := bR.cell 1
  have c2 := bR.cell 2
  have c3 := bR.cell 3
  have c4 := bR.cell 4
  have c5 := bR.cell 5
  clear h
  unfold frA Fr.none
  go_enter Tryz.func21, Tryz.ntmps21
  go_wp2_with fail
  refine hD.mono ?_
  rintro _ _ ⟨rfl, rfl⟩
  clear hD
  obtain ⟨z, hz⟩ : ∃ z, w.heap.size = z := ⟨_, rfl⟩
  rw [hz] at bR f0 f1 f2 f3 f4 f5 c0 c1 c2 c3 c4 c5 ⊢
  generalize w.alloc (.cells #[.int .i64 0, .int .i64 0, .int .i64 0, .int .i64 0, .int .i64 0, .slice none 0 0] 45) = wA at *
  go_wp2_with fail
  have bS := six_set bR (.int .i64 0) (.int .i64 0) (.int .i64 0) (.int .i64 0) (.int .i64 0) (.slice none 0 0)
  have r0 := bS.cell 0
  have r1 := bS.cell 1
  have r2 := bS.cell 2
  have r3 := bS.cell 3
  have r4 := bS.cell 4
  have r5 := bS.cell 5
  refine bodyPost_ret (by simp [results, Tryz.results21, go_sem, r0, r1, r2, r3, r4, r5]; try rfl) rfl ?_
  exact ⟨rfl, six_touch tw (.inr (by omega)) _ _ _ _ _ _⟩
end En
end Go.Proofs.YtdokeddjcpnmiaaGreatDoor

/- frame.Frames.Top of some, Cut. -/
namespace Go.Proofs.YtdokeddjcpnmiaaGreatDoor
open Go.RowKit
namespace En

set_option maxRecDepth 100000 in
set_option maxHeartbeats 1600000 in
theorem FTop_gen (w : World) (b : Nat) (v : Value) (Q : List Fq) (q : Fq) (h : RawAt w b v (Q ++ [q])) (hQ : Q.length < 1000) :
    Calls Tryz.prog 21 #[.pointer (some ⟨b, 0, none⟩)] w fun e w' => (∃ v', e = .returned (.tuple #[.agg #[.int .i64 q.f.k, .int .i64 q.f.a, .int .i64 q.f.b, .int .i64 q.f.x, .int .i64 q.f.y, v'], .bool true]) ∧ (Fq.mk q.f v').ok w') ∧ Touch [] w w' := by
  have tw := (Touch.refl [] w).alloc (.cells #[.int .i64 0, .int .i64 0, .int .i64 0, .int .i64 0, .int .i64 0, .slice none 0 0] 45)
  have hA := h.touch tw (by simp)
  have hD := FDepth_any _ b (b :: (rowOf v ++ rowsF (Q ++ [q]))) _ ⟨v, Q ++ [q], hA, rfl, fun _ h => h, hA.lt⟩
  have bR := Blk.new w 45 #[.int .i64 0, .int .i64 0, .int .i64 0, .int .i64 0, .int .i64 0, .slice none 0 0]
  obtain ⟨z, hz⟩ : ∃ z, w.heap.size = z := ⟨_, rfl⟩
  rw [hz] at bR
  generalize hWA : w.alloc (.cells #[.int .i64 0, .int .i64 0, .int .i64 0, .int .i64 0, .int .i64 0, .slice none 0 0] 45) = wA at *
  obtain ⟨hb, hr, hok, _⟩ := hA
  obtain ⟨n, hn⟩ : ∃ n, Q.length = n := ⟨_, rfl⟩
  have hlen : (Q ++ [q]).length = n + 1 := by simp [hn]
  rw [List.length_map] at hD
  rw [hlen] at hr hD
  have hform : ∃ g cap, v = .slice (some ⟨g, 0, none⟩) (n + 1) cap := by
    rcases Go.Joins.ownsRow_forms hr with ⟨_, h0⟩ | ⟨g, cap, rfl⟩
    · omega
    · exact ⟨g, cap, rfl⟩
  obtain ⟨g, cap, rfl⟩ := hform
  have hget : (Q ++ [q])[n]? = some q := by rw [← hn]; simp
  obtain ⟨e0, e1, e2, e3, e4, e5⟩ := fr_cell hr hget
  have hq := hok q (by simp)
  obtain ⟨f, fv⟩ := q
  dsimp only at e0 e1 e2 e3 e4 e5 hq ⊢
  obtain ⟨fa, fc, rfl⟩ : ∃ a c, fv = .slice a f.l.length c := hq.form
  obtain ⟨fl, hfl⟩ : ∃ fl, f.l.length = fl := ⟨_, rfl⟩
  rw [hfl] at e5 hq
  have hOw := Lib.hid (fun W (t : Touch [] wA W) => own_of (hq.touch t (by simp)))
  have c0 := hb.cell 0
  have hne : (((n + 1 : Nat) : Int) == 0) = false := by rw [beq_eq_false_iff_ne]; omega
  have hw : IntKind.i64.wrap (n : Int) = (n : Int) := by rw [IntKind.wrap_i64]; omega
  have hlt : (n : Int) < (n : Int) + 1 := by omega
  have h0 : (0 : Int) ≤ n := by omega
  clear hr h hn hlen hget hb hok hq hfl
  go_enter Tryz.func21, Tryz.ntmps21
  go_upto_region 1 with (fail)
  go_wp2_with fail
  refine hD.mono ?_
  rintro _ _ ⟨rfl, rfl⟩
  clear hD
  go_upto_region 3 with (fail)
  go_region_law (first
    | (go_simp; go_at_call 42; refine (hOw.out _ (Touch.refl [] wA).drew).mono ?_; rintro _ w5 ⟨v5, rfl, ok5, lt5, t5⟩; obtain ⟨qa, qc, rfl⟩ : ∃ a c, v5 = .slice a f.l.length c := ok5.form; obtain ⟨ln, hln⟩ : ∃ ln, f.l.length = ln := ⟨_, rfl⟩; rw [hln] at ok5 lt5 ⊢; have HO := Lib.hid (And.intro ok5 (And.intro lt5 (bR.lt))); clear ok5 hln; have bR5 := bR.touch ((Touch.refl [] wA).drew.trans t5 (by simp)) (by simp); have tw5 := tw.drew.trans t5 (by simp); have f0 := bR5.frozen 0; have f1 := bR5.frozen 1; have f2 := bR5.frozen 2; have f3 := bR5.frozen 3; have f4 := bR5.frozen 4; have f5 := bR5.frozen 5; have k0 := bR5.cell 0; have k1 := bR5.cell 1; have k2 := bR5.cell 2; have k3 := bR5.cell 3; have k4 := bR5.cell 4; have k5 := bR5.cell 5))
  all_goals go_wp2_with fail
  all_goals
    have bS := six_set bR5 (.int .i64 f.k) (.int .i64 f.a) (.int .i64 f.b) (.int .i64 f.x) (.int .i64 f.y) (.slice qa ln qc)
    have r0 := bS.cell 0
    have r1 := bS.cell 1
    have r2 := bS.cell 2
    have r3 := bS.cell 3
    have r4 := bS.cell 4
    have r5 := bS.cell 5
    refine bodyPost_ret (by simp [results, Tryz.results21, go_sem, r0, r1, r2, r3, r4, r5]; try rfl) rfl ?_
    have t6 := six_touch (Touch.refl [z] w5) (b := z) (.inl (by simp)) (.int .i64 f.k) (.int .i64 f.a) (.int .i64 f.b) (.int .i64 f.x) (.int .i64 f.y) (.slice qa ln qc)
    refine ⟨⟨_, rfl, HO.out.1.touch t6 (fun x hx hz => ?_)⟩, six_touch tw5 (.inr (by omega)) _ _ _ _ _ _⟩
    have h1 := HO.out.2.1 x hx
    have h2 := HO.out.2.2
    rw [List.mem_singleton.1 hz] at h1
    exact absurd h1 (by show ¬ wA.drew.heap.size ≤ z; rw [show wA.drew.heap.size = wA.heap.size from rfl]; omega)
theorem fq_last {Q : List Fr} {f : Fr} {R : List Fq} (h : Q ++ [f] = R.map (·.f)) : ∃ R0 q, R = R0 ++ [q] ∧ Q = R0.map (·.f) ∧ q.f = f := by
  have hne : R ≠ [] := by
    rintro rfl
    simp at h
  refine ⟨R.dropLast, R.getLast hne, (List.dropLast_concat_getLast hne).symm, ?_⟩
  rw [← List.dropLast_concat_getLast hne, List.map_append] at h
  obtain ⟨h1, h2⟩ := List.append_inj' h rfl
  refine ⟨by rw [h1], ?_⟩
  simp at h2
  exact h2.symm
theorem FTop_any (w : World) (b : Nat) (F : List Nat) (Q : List Fr) (f : Fr) (h : FramesAt w b F (Q ++ [f])) (hQ : Q.length < 1000) :
    Calls Tryz.prog 21 #[.pointer (some ⟨b, 0, none⟩)] w fun e w' => (∃ v', e = .returned (.tuple #[.agg #[.int .i64 f.k, .int .i64 f.a, .int .i64 f.b, .int .i64 f.x, .int .i64 f.y, v'], .bool true]) ∧ (Fq.mk f v').ok w') ∧ Touch [] w w' := by
  obtain ⟨v, R, hR, hL, _, _⟩ := h
  obtain ⟨R0, q, rfl, rfl, rfl⟩ := fq_last hL
  exact FTop_gen w b v R0 q hR (by simpa using hQ)
theorem FTop_some (w : World) (b : Nat) (F : List Nat) (Q : List Fr) (f : Fr) (h : FramesAt w b F (Q ++ [f])) (hQ : Q.length < 1000) (hk : f.k ≠ 4) :
    Calls Tryz.prog 21 #[.pointer (some ⟨b, 0, none⟩)] w fun e w' => e = .returned (.tuple #[.agg (frA f), .bool true]) ∧ Touch [] w w' := by
  refine (FTop_any w b F Q f h hQ).mono ?_
  rintro _ w' ⟨⟨v', rfl, hv⟩, t⟩
  have e := (hv.1 hk).2
  dsimp only at e
  rw [e]
  exact ⟨rfl, t⟩
end En
end Go.Proofs.YtdokeddjcpnmiaaGreatDoor

/- frame.Frames.Cut; Depth by one cell. -/
namespace Go.Proofs.YtdokeddjcpnmiaaGreatDoor
open Go.RowKit
namespace En

theorem FDepth_cell (w : World) (b n c : Nat) (a : Option Addr) (c0 : w.cell? ⟨b, 0, none⟩ = some (.slice a n c)) : Calls Tryz.prog 22 #[.pointer (some ⟨b, 0, none⟩)] w fun e w' => e = .returned (.int .i64 n) ∧ w = w' := by
  go_enter Tryz.func22, Tryz.ntmps22
  go_wp2
  go_ret
  exact ⟨rfl, rfl⟩
theorem row_take6 {w : World} {g cap n m : Nat} {L : List Fq} (h : w.ownsRow 0 45 6 (.slice (some ⟨g, 0, none⟩) n cap) n (L.flatMap fqCells)) (hn : L.length = n) (hm : m ≤ n) :
    w.ownsRow 0 45 6 (.slice (some ⟨g, 0, none⟩) m cap) m ((L.take m).flatMap fqCells) := by
  have key : ∀ (L : List Fq) (m : Nat), (L.take m).flatMap fqCells = (L.flatMap fqCells).take (m * 6) := by
    intro L
    induction L with
    | nil => intro m; simp
    | cons f r ih =>
      intro m
      cases m with
      | zero => simp
      | succ m =>
        rw [List.take_succ_cons, List.flatMap_cons, List.flatMap_cons, ih, show (m + 1) * 6 = (fqCells f).length + m * 6 by show (m + 1) * 6 = 6 + m * 6; omega, List.take_length_add_append]
  obtain ⟨h1, h2⟩ := h
  rcases h2 with ⟨h0, _⟩ | ⟨g', cap', cur, hv, hg, hh, hn', hcap, hsz, htake⟩
  · cases h0
  · cases hv
    refine ⟨by rw [flat_len6, List.length_take, hn]; congr 1; omega, .inr ⟨g, cap, cur, rfl, hg, hh, by omega, hcap, hsz, ?_⟩⟩
    rw [key, ← htake, List.take_take]
    congr 1
    omega
theorem row_cap6 {w : World} {g cap n : Nat} {xs : List Value} (h : w.ownsRow 0 45 6 (.slice (some ⟨g, 0, none⟩) n cap) n xs) : n ≤ cap := by
  rcases h.2 with ⟨h0, _⟩ | ⟨g', cap', cur, hv, hg, hh, hn', hcap, _, _⟩
  · cases h0
  · cases hv; exact hn'
theorem nodup_take {b : Nat} {v v' : Value} {Q : List Fq} {m : Nat} (h : (b :: (rowOf v ++ rowsF Q)).Nodup) (hv : rowOf v' = rowOf v) : (b :: (rowOf v' ++ rowsF (Q.take m))).Nodup := by
  rw [hv]
  have e : rowsF Q = rowsF (Q.take m) ++ rowsF (Q.drop m) := by rw [← rowsF_app, List.take_append_drop]
  rw [e, ← List.append_assoc, ← List.cons_append] at h
  exact (List.nodup_append.1 h).1
set_option maxHeartbeats 1600000 in
theorem FCut_any (w : World) (b : Nat) (F : List Nat) (L : List Fr) (h : FramesAt w b F L) (hL : L.length ≤ 1000) (i : Int) :
    Calls Tryz.prog 77 #[.pointer (some ⟨b, 0, none⟩), .int .i64 i] w fun e w' => e = .returned (.tuple #[]) ∧ FramesAt w' b F (L.take i.toNat) ∧ Touch F w w' := by
  have hD := FDepth_any w b F L h
  have h0 := h
  obtain ⟨v, Q, hR, hLQ, hF, hFl⟩ := h
  have hb := hR.blk
  have hr := hR.row
  have hbF : b ∈ F := hF b (by simp)
  have hLl : L.length = Q.length := by rw [hLQ, List.length_map]
  have c0 := hb.cell 0
  have f0 := hb.frozen 0
  obtain ⟨m, hm⟩ : ∃ m, i.toNat = m := ⟨_, rfl⟩
  rw [hm]
  rcases Nat.lt_or_ge m L.length with hlt | hge
  · obtain ⟨n, hn⟩ : ∃ n, Q.length = n := ⟨_, rfl⟩
    rw [hLl, hn] at hD hlt hL
    rw [hn] at hr
    rcases Go.Joins.ownsRow_forms hr with ⟨rfl, hn0⟩ | ⟨g, cap, rfl⟩
    · omega
    have hcap := row_cap6 hr
    have hlt' : (m : Int) < (n : Int) := by omega
    have HE := Lib.hid (fun (w1 : World) (hB : Blk w1 b 97 #[.slice (some ⟨g, 0, none⟩) m cap]) (t : Touch [b] w w1) => (⟨.slice (some ⟨g, 0, none⟩) m cap, Q.take m, ⟨hB, by
      rw [List.length_take, hn, Nat.min_eq_left (by omega)]
      exact row_touch (row_take6 hr hn (by omega)) t (by intro k hk hkb; rw [List.mem_singleton.1 hkb] at hk; exact hR.b_row hk), fun q hq => (hR.ok q (List.mem_of_mem_take hq)).touch t (fun x hx hb => by
        rw [List.mem_singleton.1 hb] at hx
        exact hR.b_loc (rowsF_mem.2 ⟨q, List.mem_of_mem_take hq, hx⟩)), nodup_take hR.nd rfl⟩, by rw [hLQ, List.map_take], fun x hx => hF x (by
        rcases List.mem_cons.1 hx with hx | hx
        · simp [hx]
        · rcases List.mem_append.1 hx with hx | hx
          · exact List.mem_cons_of_mem _ (List.mem_append_left _ hx)
          · obtain ⟨q, hq, hx⟩ := rowsF_mem.1 hx
            exact List.mem_cons_of_mem _ (List.mem_append_right _ (rowsF_mem.2 ⟨q, List.mem_of_mem_take hq, hx⟩))), fun x hx => Nat.lt_of_lt_of_le (hFl x hx) t.size⟩ : FramesAt w1 b F (L.take m)))
    have HB := Lib.hid hb
    have HF := Lib.hid hbF
    clear hr hn h0 hb hR hLQ hF hFl hLl hbF
    rcases Int.lt_or_le i 0 with hi | hi
    · have h3 : ((0 : Nat) : Int) < (n : Int) := by omega
      obtain rfl : m = 0 := by omega
      go_enter Tryz.func77, Tryz.ntmps77
      go_wp2_with (go_at_call 22; refine hD.mono ?_; rintro e w' ⟨rfl, rfl⟩)
      go_end0
      rw [show (max i 0).toNat = 0 by omega]
      exact ⟨rfl, HE.out _ (HB.out.set_ 0 _) ((Touch.refl _ _).setCell (by simp) _), (Touch.refl _ _).setCell (.inl HF.out) _⟩
    · obtain rfl : i = (m : Int) := by omega
      go_enter Tryz.func77, Tryz.ntmps77
      go_wp2_with (go_at_call 22; refine hD.mono ?_; rintro e w' ⟨rfl, rfl⟩)
      go_end0
      exact ⟨rfl, HE.out _ (HB.out.set_ 0 _) ((Touch.refl _ _).setCell (by simp) _), (Touch.refl _ _).setCell (.inl HF.out) _⟩
  · rw [List.take_of_length_le hge]
    obtain ⟨n, hn⟩ : ∃ n, L.length = n := ⟨_, rfl⟩
    rw [hn] at hge hD
    have HE := Lib.hid h0
    clear hr h0 hb hR hLQ hF hFl hbF
    rcases Int.lt_or_le i 0 with hi | hi
    · obtain rfl : m = 0 := by omega
      obtain rfl : n = 0 := by omega
      go_enter Tryz.func77, Tryz.ntmps77
      go_wp2_with (go_at_call 22; refine hD.mono ?_; rintro e w' ⟨rfl, rfl⟩)
      go_end0
      exact ⟨rfl, HE.out, Touch.refl _ _⟩
    · obtain rfl : i = (m : Int) := by omega
      have hge' : ¬ (m : Int) < (n : Int) := by omega
      go_enter Tryz.func77, Tryz.ntmps77
      go_wp2_with (go_at_call 22; refine hD.mono ?_; rintro e w' ⟨rfl, rfl⟩)
      go_end0
      exact ⟨rfl, HE.out, Touch.refl _ _⟩
end En
end Go.Proofs.YtdokeddjcpnmiaaGreatDoor

/- frame.Frames.down: what it yields. -/
namespace Go.Proofs.YtdokeddjcpnmiaaGreatDoor
open Go.RowKit Go.Shelf
namespace En

attribute [local go_sem] Oper.semAt_some

/-- what has come when k rounds are over -/
def uptoF {α : Type} (f : Nat → α) (k : Nat) : List α := (List.range k).map f
theorem uptoF_succ {α : Type} (f : Nat → α) (k : Nat) : uptoF f (k + 1) = uptoF f k ++ [f k] := by simp [uptoF, List.range_succ]
theorem uptoF_length {α : Type} (f : Nat → α) (k : Nat) : (uptoF f k).length = k := by simp [uptoF]
/-- the k-th from above -/
abbrev Ix (len : Nat) := Fin (len - 1 + 1)
def nth (len : Nat) (k : Nat) : Ix len := ⟨len - 1 - k, by omega⟩
theorem wideC {n : Nat} {P : Program} {f : FuncId} {args : Array Value} {w : World} {R : Ending → World → Prop} (h : Calls P f args w R) : CallsIn Fence.wide n P f args w R := callsIn_wide.2 h
theorem wideR {n : Nat} {P : Program} {f : FuncId} {args : Array Value} {w : World} {R : Ending → World → Prop} (l : Nat) (h : Calls P f args w R) : CallsIn (Fence.wide.inRound l) n P f args w R := CallsIn.inRound l (wideC h)

set_option maxRecDepth 100000 in
set_option maxHeartbeats 2000000 in
theorem down1_in (n : Nat) (_hn : 1 ≤ n) (l Bs n₀ b g len cap : Nat) (a : Option Addr) (hreach : len ≤ 1000000) (hb : b < n₀) (ha : len ≠ 0 → a = some ⟨g, 0, none⟩) (J Jx : List (Ix len) → World → Prop)
    (hY : ∀ (pre : List (Ix len)) (x : Ix len) W, J pre W → pre.length < len → YieldAt Fence.wide (n - 1) Tryz.prog l #[.int .i64 (x.1 : Int), .pointer (some ⟨g, x.1 * 6, none⟩)] W fun e W' =>
      (e = .returned (.bool true) ∧ J (pre ++ [x]) W' ∧ Below n₀ W W') ∨ (e = .returned (.bool false) ∧ Jx (pre ++ [x]) W'))
    (W : World) (hBs0 : Bs < n₀) (hBs : W.cell? ⟨Bs, 0, none⟩ = some (.pointer (some ⟨b, 0, none⟩))) (hc : W.cell? ⟨b, 0, none⟩ = some (.slice a len cap)) (h0 : J [] W) :
    CallsIn Fence.wide n Tryz.prog 141 #[.func (.yield l) #[] #[], .pointer (some ⟨Bs, 0, none⟩)] W fun e W' => (∃ v, e = .returned v) ∧
      ((∃ ys, ys = uptoF (nth len) len ∧ J ys W') ∨ (∃ pre, (∃ k, k ≤ len ∧ pre = uptoF (nth len) k) ∧ Jx pre W')) := by
  have hD := wideC (n := n - 1) (FDepth_cell W b len cap a hc)
  refine callsIn_of_wp Tryz.func141 rfl trivial ?_ rfl
  simp only [Tryz.ntmps141, List.size_toArray, List.length_cons, List.length_nil, Nat.reduceAdd, Nat.reduceSub, Array.replicate_succ, Array.replicate_zero, List.push_toArray, List.append_toArray, List.nil_append, List.cons_append]
  gi_wp2_with fail
  refine ⟨trivial, hD.mono ?_⟩
  rintro _ _ ⟨rfl, rfl⟩
  clear hD
  gi_wp2_with fail
  gi_loopw [3] (fun i wr => ∃ k : Nat, k ≤ len ∧ i = .int .i64 ((len : Int) - 1 - k) ∧ J (uptoF (nth len) k) wr ∧ Below n₀ W wr)
    (fun i _ => (intOf i + 1).toNat)
  case atStart => exact ⟨0, Nat.zero_le _, vint (by omega), h0, Below.refl _ _⟩
  case round =>
    obtain ⟨k, hk, rfl, hJs, hnx⟩ := hrel
    by_cases hlt : k < len
    · obtain ⟨m, hm⟩ : ∃ m : Nat, m = len - 1 - k := ⟨_, rfl⟩
      have hmi : (len : Int) - 1 - k = (m : Int) := by omega
      rw [hmi]
      obtain rfl := ha (by omega)
      have hcx' := (hnx.cell (p := ⟨b, 0, none⟩) hb).trans hc
      have hcs' := (hnx.cell (p := ⟨Bs, 0, none⟩) hBs0).trans hBs
      have hml : m < len := by omega
      have hml2 : m < len - 1 + 1 := by omega
      have he : nth len k = ⟨m, hml2⟩ := by unfold nth; simp only [← hm]
      obtain ⟨fn, tmps, assign, body, hy, hR⟩ := hY _ ⟨m, hml2⟩ wr hJs (by rw [uptoF_length]; exact hlt)
      try dsimp only at hy
      clear hm
      gi_wp2
      refine hR.mono ?_
      rintro e W3 (⟨rfl, hJ3, hk3⟩ | ⟨rfl, hJx3⟩)
      · gi_wp2
        go_roundw
        case rel => exact ⟨k + 1, by omega, vint (by omega), by rw [uptoF_succ, he]; exact hJ3, hnx.trans hk3⟩
        case measure => simp only [intOf]; omega
      · gi_wp2
        refine bodyPost_ret (results_none rfl _ _ _) rfl ?_
        exact ⟨⟨_, rfl⟩, .inr ⟨_, ⟨k + 1, by omega, by rw [uptoF_succ, he]⟩, hJx3⟩⟩
    · obtain rfl : k = len := by omega
      rw [show (k : Int) - 1 - k = -1 by omega]
      gi_wp2
      go_end0
      exact ⟨⟨_, rfl⟩, .inl ⟨_, rfl, hJs⟩⟩
set_option maxHeartbeats 1000000 in
theorem down_in (n b : Nat) (w : World) :
    CallsIn Fence.wide n Tryz.prog 109 #[.pointer (some ⟨b, 0, none⟩)] w fun e w' => e = .returned (.func (.func 141) #[] #[.pointer (some ⟨w.heap.size, 0, none⟩)]) ∧ w' = w.alloc (.cells #[.pointer (some ⟨b, 0, none⟩)] 41) := by
  refine callsIn_of_wp Tryz.func109 rfl trivial ?_ rfl
  simp only [Tryz.ntmps109, List.size_toArray, List.length_cons, List.length_nil, Nat.reduceAdd, Nat.reduceSub, Array.replicate_succ, Array.replicate_zero, List.push_toArray, List.append_toArray, List.nil_append, List.cons_append]
  gi_wp2
  go_ret
  exact ⟨rfl, rfl⟩
theorem down_stops (n : Nat) (hn : 1 ≤ n) (Bs n₀ b g len cap : Nat) (a : Option Addr) (hreach : len ≤ 1000000) (hb : b < n₀) (ha : len ≠ 0 → a = some ⟨g, 0, none⟩) (w : World) (hBs : Bs < n₀) (hn₀ : n₀ ≤ w.heap.size)
    (hp : w.cell? ⟨Bs, 0, none⟩ = some (.pointer (some ⟨b, 0, none⟩))) (hc : w.cell? ⟨b, 0, none⟩ = some (.slice a len cap)) :
    SeqStopsK Fence.wide n Tryz.prog 141 #[.pointer (some ⟨Bs, 0, none⟩)] (fun x : Ix len => #[Value.int .i64 (x.1 : Int), .pointer (some ⟨g, x.1 * 6, none⟩)]) (Below n₀) (fun ys => ys = uptoF (nth len) len)
      (fun pre => ∃ k, k ≤ len ∧ pre = uptoF (nth len) k) len w := fun l J Jx W hW _ _ hY h0 =>
  down1_in n hn l Bs n₀ b g len cap a hreach hb ha J Jx hY W hBs ((hW.cell (p := ⟨Bs, 0, none⟩) (Nat.lt_of_lt_of_le hBs hn₀)).trans hp) ((hW.cell (p := ⟨b, 0, none⟩) (Nat.lt_of_lt_of_le hb hn₀)).trans hc) h0
end En
end Go.Proofs.YtdokeddjcpnmiaaGreatDoor

/- frame.Frames.upper: the frame on top, if it is of a kind. -/
namespace Go.Proofs.YtdokeddjcpnmiaaGreatDoor
open Go.RowKit Go.Shelf
namespace En

attribute [local go_sem] Oper.semAt_some

theorem _root_.Go.Proofs.YtdokeddjcpnmiaaGreatDoor.Blk.ownE {A B : World} {row : Option Nat} {g : Nat} {t : TypeId} {cs : Array Value} (h : Blk A g t cs) (hg : A.grownBy B row) (hr : ∀ r, row = some r → ∃ o : Obj, A.heap[r]? = some o ∧ o.isCells = false) : Blk B g t cs :=
  h.grown hg fun e => by
    obtain ⟨o, ho, hc⟩ := hr g e.symm
    unfold Blk at h
    rw [h] at ho
    cases ho
    simp [Obj.isCells] at hc

theorem _root_.Go.Proofs.YtdokeddjcpnmiaaGreatDoor.Touch.keepsE {W W' : World} (h : Touch [] W W') (B : Nat) : KeepsFrom B W W' :=
  ⟨h.size, fun k o _ hk _ => (h.block k (Array.getElem?_eq_some_iff.1 hk).1 (by simp)).trans hk⟩
theorem drew_keeps (B : Nat) (W : World) : KeepsFrom B W W.drew := (Touch.refl [] W).drew.keepsE B

set_option maxRecDepth 100000 in
set_option maxHeartbeats 3200000 in
theorem upper_any (w : World) (b g n cap : Nat) (a : Option Addr) (ks : Nat → Int) (hb : b < w.heap.size) (hc : w.cell? ⟨b, 0, none⟩ = some (.slice a n cap)) (ha : n ≠ 0 → a = some ⟨g, 0, none⟩) (hg : g < w.heap.size) (hn : n ≤ 1000)
    (hk : ∀ i, i < n → w.cell? ⟨g, i * 6, none⟩ = some (.int .i64 (ks i))) (kind : Int) (R : Option Addr) (hR : R = if n ≠ 0 ∧ ks (n - 1) = kind then some ⟨g, (n - 1) * 6, none⟩ else none) :
    Calls Tryz.prog 108 #[.pointer (some ⟨b, 0, none⟩), .int .i64 kind] w fun e w' => e = .returned (.pointer R) ∧ Touch [] w w' := by
  suffices h : CallsIn Fence.wide 10 Tryz.prog 108 #[.pointer (some ⟨b, 0, none⟩), .int .i64 kind] w fun e w' => e = .returned (.pointer R) ∧ Below w.heap.size w w' from
    (callsIn_wide.1 h).mono fun _ _ h => ⟨h.1, Touch.of_below h.2 _⟩
  refine callsIn_of_wp_marks Tryz.func108 rfl trivial ?_ rfl
  simp only [Tryz.ntmps108, List.size_toArray, List.length_cons, List.length_nil, Nat.reduceAdd, Nat.reduceSub, Array.replicate_succ, Array.replicate_zero, List.push_toArray, List.append_toArray, List.nil_append, List.cons_append]
  gi_wp2_with fail
  refine ⟨trivial, (down_in 9 b _).mono ?_⟩
  rintro _ _ ⟨rfl, rfl⟩
  have bK : Blk (((w.alloc (.cells #[.int .i64 kind] 3)).alloc (.cells #[.pointer none] 161)).alloc (.cells #[.pointer (some ⟨b, 0, none⟩)] 41)) w.heap.size 3 #[.int .i64 kind] := ((Blk.new w _ _).alloc _).alloc _
  have bP : Blk (((w.alloc (.cells #[.int .i64 kind] 3)).alloc (.cells #[.pointer none] 161)).alloc (.cells #[.pointer (some ⟨b, 0, none⟩)] 41)) (w.heap.size + 1) 161 #[.pointer none] := (Blk.new_at _ (by simp) _ _).alloc _
  have bB : Blk (((w.alloc (.cells #[.int .i64 kind] 3)).alloc (.cells #[.pointer none] 161)).alloc (.cells #[.pointer (some ⟨b, 0, none⟩)] 41)) (w.heap.size + 2) 41 #[.pointer (some ⟨b, 0, none⟩)] := Blk.new_at _ (by simp) _ _
  have tw := (((Touch.refl [] w).alloc (.cells #[.int .i64 kind] 3)).alloc (.cells #[.pointer none] 161)).alloc (.cells #[.pointer (some ⟨b, 0, none⟩)] 41)
  have hsN : ((w.alloc (.cells #[.int .i64 kind] 3)).alloc (.cells #[.pointer none] 161)).heap.size = w.heap.size + 2 := by simp
  have hs0 : (((w.alloc (.cells #[.int .i64 kind] 3)).alloc (.cells #[.pointer none] 161)).alloc (.cells #[.pointer (some ⟨b, 0, none⟩)] 41)).heap.size = w.heap.size + 3 := by simp
  rw [hsN]
  generalize hW0 : ((w.alloc (.cells #[.int .i64 kind] 3)).alloc (.cells #[.pointer none] 161)).alloc (.cells #[.pointer (some ⟨b, 0, none⟩)] 41) = W0 at *
  clear hW0 hsN
  have hB0 : Below w.heap.size w W0 := tw.below (Nat.le_refl _) (by simp)
  have hc0 := (hB0.cell (p := ⟨b, 0, none⟩) hb).trans hc
  gi_wp2_with fail
  refine wpIn_rangeFunc_ownG (F := Fence.wide) rfl (by omega) (gf := 141) (lb := #[.pointer (some ⟨w.heap.size + 2, 0, none⟩)]) rfl trivial (enters_of Tryz.func141 (by kernel_rfl) rfl)
    (down_stops 9 (by omega) (w.heap.size + 2) W0.heap.size b g n cap a (by omega) (by omega) ha W0 (by omega) (Nat.le_refl _) (bB.cell 0) hc0) belowK_t (belowK_b (Nat.le_refl _)) (Below.refl _ _) (fun _ => rfl)
    (fun pre W => (pre = [] ∧ Blk W w.heap.size 3 #[.int .i64 kind] ∧ Blk W (w.heap.size + 1) 161 #[.pointer none]) ∧ Below w.heap.size w W)
    (fun c pre W => (∃ x, pre = [x] ∧ ((c = .ret ∧ ks x.1 = kind ∧ Blk W (w.heap.size + 1) 161 #[.pointer (some ⟨g, x.1 * 6, none⟩)]) ∨ (c = .exit 0 ∧ ks x.1 ≠ kind ∧ Blk W (w.heap.size + 1) 161 #[.pointer none]))) ∧ Below w.heap.size w W)
    (OwnFrom.and (Own.from (fun s A B row hs hg hr => ⟨hs.1, hs.2.1.ownE hg hr, hs.2.2.ownE hg hr⟩) _) (ownFrom_below (Nat.le_refl _) (by omega)))
    (fun c => OwnFrom.and (Own.from (fun s A B row hs hg hr => by obtain ⟨x, e1, e2⟩ := hs; exact ⟨x, e1, e2.imp (fun h => ⟨h.1, h.2.1, h.2.2.ownE hg hr⟩) (fun h => ⟨h.1, h.2.1, h.2.2.ownE hg hr⟩)⟩) _) (ownFrom_below (Nat.le_refl _) (by omega)))
    ⟨⟨rfl, bK, bP⟩, hB0⟩
    (fun x => { tmps := #[.pointer (some ⟨b, 0, none⟩), .int .i64 kind, undef, .pointer (some ⟨w.heap.size, 0, none⟩), .pointer (some ⟨w.heap.size + 1, 0, none⟩), undef, .pointer (some ⟨g, x.1 * 6, none⟩), .pointer (some ⟨b, 0, none⟩), .func (.func 141) #[] #[.pointer (some ⟨w.heap.size + 2, 0, none⟩)], .int .i64 (x.1 : Int), .pointer (some ⟨g, x.1 * 6, none⟩), undef, undef, undef, undef, undef, undef, undef], defers := [] }) ?assign ?body ?done ?stop
  case assign =>
    intro l x W K hK
    gi_wp2
    exact hK
  case body =>
    rintro l pre x W ⟨⟨rfl, cK, cP⟩, hB⟩ hx
    have hx1 : x.1 < n := by have := x.2; simp at hx; omega
    have k0 := cK.cell 0
    have p0 := cP.frozen 0
    have p1 := cP.cell 0
    have kx := (hB.cell (p := ⟨g, x.1 * 6, none⟩) hg).trans (hk x.1 hx1)
    have hbs := hB.size
    by_cases hx : ks x.1 = kind
    · have hx' : (ks x.1 == kind) = true := by simpa using hx
      gi_wp2_with fail
      gi_region_with (fail)
      all_goals gi_wp2_with fail
      all_goals
        have hkk : KeepsFrom W0.heap.size W (W.setCell ⟨w.heap.size + 1, 0, none⟩ (.pointer (some ⟨g, x.1 * 6, none⟩))) := (KeepsOthers.setCell _ _ _).from _
        have hkk := hkk.trans (drew_keeps _ _)
        have hbb : Below w.heap.size w (W.setCell ⟨w.heap.size + 1, 0, none⟩ (.pointer (some ⟨g, x.1 * 6, none⟩))).drew := (((Touch.of_below hB []).setCell (.inr (by simp)) _).drew).below (Nat.le_refl _) (by simp)
        exact ⟨hkk, ⟨x, rfl, .inl ⟨rfl, hx, cP.set_ 0 _⟩⟩, hbb⟩
    · have hx' : (ks x.1 == kind) = false := by simpa using hx
      gi_wp2_with fail
      gi_region_with (fail)
      all_goals gi_wp2_with fail
      all_goals
        have hkk := drew_keeps W0.heap.size W
        exact ⟨hkk, ⟨x, rfl, .inr ⟨rfl, hx, cP⟩⟩, ((Touch.of_below hB []).drew).below (Nat.le_refl _) (by simp)⟩
  case done =>
    rintro D ys W hD rfl ⟨⟨hne, cK, cP⟩, hB⟩ hK
    have hn0 : n = 0 := by
      rcases Nat.eq_zero_or_pos n with h | h
      · exact h
      · have := congrArg List.length hne
        rw [uptoF_length] at this
        simp at this
        omega
    rw [if_neg (fun h => h.1 hn0)] at hR
    subst hR
    have p0 := cP.frozen 0
    have p1 := cP.cell 0
    have hPn := cP.lt
    gi_wp2_with fail
    have bz := cP.set_ 0 (.pointer none)
    have hK' := (KeepsOthers.setCell W ⟨w.heap.size + 1, 0, none⟩ (.pointer none)).same D _ hK rfl
    refine ⟨by simp, .inl ⟨_, _, rfl, run_takeDeferred hK', ?_⟩⟩
    have bz2 := bz.grown (grownBy_putObj' _ D (.deferred none)) (by simp; omega)
    have q0 := bz2.cell 0
    refine ⟨.pointer none, ?_, rfl, ?_⟩
    · simp [results, Tryz.f108, go_sem, q0]
    · have u1 : Touch [] w W := Touch.of_below hB []
      exact ((u1.setCell (.inr (by simp)) _).below (Nat.le_refl _) (by simp)).trans (belowK_b (w := w) (Nat.le_refl _) _ D _ _ (by omega) hK' rfl rfl)
  case stop =>
    rintro D c pre W hD ⟨k, hk, rfl⟩ ⟨⟨x, e1, e2⟩, hB⟩ hK
    obtain rfl : k = 1 := by have := congrArg List.length e1; rw [uptoF_length] at this; simpa using this
    obtain rfl : nth n 0 = x := by
      rw [show (1 : Nat) = 0 + 1 from rfl, uptoF_succ] at e1
      simpa [uptoF] using e1
    have e0 : (nth n 0).1 = n - 1 := rfl
    rw [e0] at e2
    rcases e2 with ⟨rfl, e3, cP⟩ | ⟨rfl, e3, cP⟩
    · rw [if_pos ⟨by omega, e3⟩] at hR
      subst hR
      gi_wp2_with fail
      refine ⟨by simp, .inl ⟨_, _, rfl, run_takeDeferred hK, ?_⟩⟩
      have hPn := cP.lt
      have bz2 := cP.grown (grownBy_putObj' _ D (.deferred none)) (by simp; omega)
      have q0 := bz2.cell 0
      refine ⟨.pointer (some ⟨g, (n - 1) * 6, none⟩), ?_, rfl, ?_⟩
      · simp [results, Tryz.f108, go_sem, q0]
      · exact hB.trans (belowK_b (w := w) (Nat.le_refl _) W D _ _ (by omega) hK rfl rfl)
    · rw [if_neg (fun h => e3 h.2)] at hR
      subst hR
      have p0 := cP.frozen 0
      have p1 := cP.cell 0
      have hPn := cP.lt
      gi_wp2_with fail
      have bz := cP.set_ 0 (.pointer none)
      have hK' := (KeepsOthers.setCell W ⟨w.heap.size + 1, 0, none⟩ (.pointer none)).same D _ hK rfl
      refine ⟨by simp, .inl ⟨_, _, rfl, run_takeDeferred hK', ?_⟩⟩
      have bz2 := bz.grown (grownBy_putObj' _ D (.deferred none)) (by simp; omega)
      have q0 := bz2.cell 0
      refine ⟨.pointer none, ?_, rfl, ?_⟩
      · simp [results, Tryz.f108, go_sem, q0]
      · have u1 : Touch [] w W := Touch.of_below hB []
        exact ((u1.setCell (.inr (by simp)) _).below (Nat.le_refl _) (by simp)).trans (belowK_b (w := w) (Nat.le_refl _) _ D _ _ (by omega) hK' rfl rfl)
end En
end Go.Proofs.YtdokeddjcpnmiaaGreatDoor

/- frame.Frames.Pop; Step. -/
namespace Go.Proofs.YtdokeddjcpnmiaaGreatDoor
open Go.RowKit Go.Shelf
namespace En

theorem topF_snoc (Q : List Fr) (f : Fr) : topF (Q ++ [f]) = f := by simp [topF]
theorem flat_at' {L : List Fr} {i : Nat} (hi : i < L.length) : L[i]? = some (L.getD i .none) := by rw [List.getD_eq_getElem?_getD, List.getElem?_eq_getElem hi]; rfl
/-- the frames, as upper needs them -/
theorem FramesAt.parts {w : World} {b : Nat} {F : List Nat} {L : List Fr} (h : FramesAt w b F L) : ∃ g cap a, w.cell? ⟨b, 0, none⟩ = some (.slice a L.length cap) ∧ (L.length ≠ 0 → a = some ⟨g, 0, none⟩) ∧ g < w.heap.size ∧ b < w.heap.size ∧
    (∀ i, i < L.length → w.cell? ⟨g, i * 6, none⟩ = some (.int .i64 (L.getD i .none).k)) ∧ (L.length ≠ 0 → ∃ Q, RawAt w b (.slice (some ⟨g, 0, none⟩) L.length cap) Q ∧ L = Q.map (·.f) ∧ b ∈ F ∧ g ∈ F ∧ (∀ x ∈ rowsF Q, x ∈ F)) := by
  obtain ⟨v, Q, hR, rfl, hF, hl⟩ := h
  rw [List.length_map]
  have hr := hR.row
  rcases Go.Joins.ownsRow_forms hr with ⟨rfl, h0⟩ | ⟨g, cap, rfl⟩
  · have c0 := hR.blk.cell 0
    rw [h0]
    exact ⟨b, 0, none, c0, fun h => absurd rfl h, hR.blk.lt, hR.blk.lt, fun i hi => absurd hi (Nat.not_lt_zero _), fun h => absurd rfl h⟩
  · refine ⟨g, cap, some ⟨g, 0, none⟩, hR.blk.cell 0, fun _ => rfl, row_lt hr (by simp [rowOf]), hR.blk.lt, fun i hi => ?_, fun _ => ⟨Q, hR, rfl, hF b (by simp), hF g (by simp [rowOf]), fun x hx => hF x (by simp [hx])⟩⟩
    have h1 := (fr_cell hr (List.getElem?_eq_getElem hi)).1
    rw [h1, List.getD_eq_getElem?_getD, List.getElem?_map, List.getElem?_eq_getElem hi]
    rfl
theorem up_yes (w : World) (b : Nat) (F : List Nat) (Q : List Fr) (f : Fr) (h : FramesAt w b F (Q ++ [f])) (hQ : Q.length < 1000) {g cap : Nat} (hc : w.cell? ⟨b, 0, none⟩ = some (.slice (some ⟨g, 0, none⟩) (Q.length + 1) cap)) :
    Calls Tryz.prog 108 #[.pointer (some ⟨b, 0, none⟩), .int .i64 f.k] w fun e w' => e = .returned (.pointer (some ⟨g, Q.length * 6, none⟩)) ∧ Touch [] w w' := by
  have hlen : (Q ++ [f]).length = Q.length + 1 := by simp
  obtain ⟨g', cap', a, c0, ha, hg, hb, hk, _⟩ := h.parts
  rw [hlen] at c0 ha hk
  obtain rfl := ha (by omega)
  rw [hc] at c0
  injection c0 with c0
  injection c0 with e1 e2 e3
  injection e1 with e1
  injection e1 with e1
  subst e1 e3
  refine upper_any w b g (Q.length + 1) cap _ (fun i => ((Q ++ [f]).getD i .none).k) hb hc (fun _ => rfl) hg (by omega) hk f.k _ ?_
  rw [if_pos ⟨by omega, by simp [List.getD_eq_getElem?_getD]⟩]
  rfl
theorem up_no (w : World) (b : Nat) (F : List Nat) (L : List Fr) (h : FramesAt w b F L) (hL : L.length ≤ 1000) (kind : Int) (hk : L = [] ∨ (topF L).k ≠ kind) :
    Calls Tryz.prog 108 #[.pointer (some ⟨b, 0, none⟩), .int .i64 kind] w fun e w' => e = .returned (.pointer none) ∧ Touch [] w w' := by
  obtain ⟨g', cap', a, c0, ha, hg, hb, hkk, _⟩ := h.parts
  refine upper_any w b g' L.length cap' a (fun i => (L.getD i .none).k) hb c0 ha hg hL hkk kind _ ?_
  rw [if_neg]
  rintro ⟨h1, h2⟩
  rcases hk with rfl | hk
  · exact h1 rfl
  · refine hk ?_
    rw [← h2]
    obtain ⟨Q, f, rfl⟩ : ∃ Q f, L = Q ++ [f] := ⟨L.dropLast, L.getLast (by intro e; rw [e] at h1; exact h1 rfl), (List.dropLast_concat_getLast (by intro e; rw [e] at h1; exact h1 rfl)).symm⟩
    rw [topF_snoc]
    simp [List.getD_eq_getElem?_getD]
set_option maxRecDepth 100000 in
set_option maxHeartbeats 1600000 in
theorem FPop_no (w : World) (b : Nat) (F : List Nat) (L : List Fr) (h : FramesAt w b F L) (hL : L.length ≤ 1000) (kind : Int) (hk : L = [] ∨ (topF L).k ≠ kind) :
    Calls Tryz.prog 72 #[.pointer (some ⟨b, 0, none⟩), .int .i64 kind] w fun e w' => e = .returned (.tuple #[.agg (frA Fr.none), .int .i64 (-6)]) ∧ Touch [] w w' := by
  have tw := (Touch.refl [] w).alloc (.cells #[.int .i64 0, .int .i64 0, .int .i64 0, .int .i64 0, .int .i64 0, .slice none 0 0] 45)
  have hU := up_no _ b F L (h.touch tw (by simp)) hL kind hk
  have bR := Blk.new w 45 #[.int .i64 0, .int .i64 0, .int .i64 0, .int .i64 0, .int .i64 0, .slice none 0 0]
  clear h
  unfold frA Fr.none
  go_enter Tryz.func72, Tryz.ntmps72
  go_wp2_with fail
  refine hU.mono ?_
  rintro _ w2 ⟨rfl, t2⟩
  have tw2 := tw.trans t2 (by simp)
  have bR2 := bR.touch t2 (by simp)
  clear hU bR tw t2
  obtain ⟨z, hz⟩ : ∃ z, w.heap.size = z := ⟨_, rfl⟩
  rw [hz] at bR2 ⊢
  have f0 := bR2.frozen 0
  have f1 := bR2.frozen 1
  have f2 := bR2.frozen 2
  have f3 := bR2.frozen 3
  have f4 := bR2.frozen 4
  have f5 := bR2.frozen 5
  have c0 := bR2.cell 0
  have c1 := bR2.cell 1
  have c2 := bR2.cell 2
  have c3 := bR2.cell 3
  have c4 := bR2.cell 4
  have c5 := bR2.cell 5
  go_wp2_with fail
  have bS := six_set bR2 (.int .i64 0) (.int .i64 0) (.int .i64 0) (.int .i64 0) (.int .i64 0) (.slice none 0 0)
  have r0 := bS.cell 0
  have r1 := bS.cell 1
  have r2 := bS.cell 2
  have r3 := bS.cell 3
  have r4 := bS.cell 4
  have r5 := bS.cell 5
  refine bodyPost_ret (by simp [results, Tryz.results72, go_sem, r0, r1, r2, r3, r4, r5]; try rfl) rfl ?_
  exact ⟨rfl, six_touch tw2 (.inr (by omega)) _ _ _ _ _ _⟩
set_option maxRecDepth 100000 in
set_option maxHeartbeats 3200000 in
theorem FPop_gen (w : World) (b : Nat) (F : List Nat) (Q : List Fr) (f : Fr) (h : FramesAt w b F (Q ++ [f])) (hQ : Q.length < 1000) :
    Calls Tryz.prog 72 #[.pointer (some ⟨b, 0, none⟩), .int .i64 f.k] w fun e w' => (∃ v', e = .returned (.tuple #[.agg #[.int .i64 f.k, .int .i64 f.a, .int .i64 f.b, .int .i64 f.x, .int .i64 f.y, v'], .int .i64 0]) ∧ (∃ a n c, v' = .slice a n c) ∧ (f.k ≠ 4 → v' = .slice none 0 0)) ∧ FramesAt w' b F Q ∧ Touch F w w' := by
  have tw := (Touch.refl [] w).alloc (.cells #[.int .i64 0, .int .i64 0, .int .i64 0, .int .i64 0, .int .i64 0, .slice none 0 0] 45)
  have hA := h.touch tw (by simp)
  have bR := Blk.new w 45 #[.int .i64 0, .int .i64 0, .int .i64 0, .int .i64 0, .int .i64 0, .slice none 0 0]
  obtain ⟨z, hz⟩ : ∃ z, w.heap.size = z := ⟨_, rfl⟩
  rw [hz] at bR
  have hFz : ∀ x ∈ F, x < z := fun x hx => hz ▸ h.lt x hx
  generalize hWA : w.alloc (.cells #[.int .i64 0, .int .i64 0, .int .i64 0, .int .i64 0, .int .i64 0, .slice none 0 0] 45) = wA at *
  have hlen : (Q ++ [f]).length = Q.length + 1 := by simp
  obtain ⟨g, cap, a, c0, ha, hg, hbb, hk, hrest⟩ := hA.parts
  rw [hlen] at c0 ha hk hrest
  obtain rfl := ha (by omega)
  obtain ⟨R, hR, hRL, _, _, _⟩ := hrest (by omega)
  obtain ⟨R0, q, rfl, hR0, hqf⟩ := fq_last hRL
  have hb := hR.blk
  have hr := hR.row
  have hq := hR.ok q (by simp)
  have hU := up_yes wA b F Q f hA hQ c0
  obtain ⟨n, hn⟩ : ∃ n, Q.length = n := ⟨_, rfl⟩
  have hn0 : R0.length = n := by rw [← hn, hR0, List.length_map]
  have hget : (R0 ++ [q])[n]? = some q := by rw [← hn0]; simp
  have htk : (Q ++ [f]).take n = Q := by rw [← hn]; simp
  rw [show (R0 ++ [q]).length = n + 1 by simp [hn0]] at hr
  rw [hn] at hr hb c0 hU hQ
  obtain ⟨qf, qv⟩ := q
  dsimp only at hqf
  subst hqf
  obtain ⟨fa, fc, hqv⟩ : ∃ a c, qv = .slice a qf.l.length c := hq.form
  subst hqv
  obtain ⟨fl, hfl⟩ : ∃ fl, qf.l.length = fl := ⟨_, rfl⟩
  rw [hfl] at hq hr hget
  have hOw := Lib.hid (fun W (t : Touch [] wA W) => own_of (hq.touch t (by simp)))
  have hw : IntKind.i64.wrap (n : Int) = (n : Int) := by rw [IntKind.wrap_i64]; omega
  have HAA := Lib.hid hA
  have HRR := Lib.hid hr
  have HT := Lib.hid htk
  have HG := Lib.hid hget
  have HL := Lib.hid hlen
  have HN := Lib.hid hn
  have HB := Lib.hid hb
  clear h hA hk hrest ha hr hget htk hlen hn c0 hb hq hR hRL hR0 hn0 hfl
  generalize qf = f at *
  go_enter Tryz.func72, Tryz.ntmps72
  go_upto_region 1 with (fail)
  go_wp2_with fail
  refine hU.mono ?_
  rintro _ w2 ⟨rfl, t2⟩
  have tw2 := tw.trans t2 (by simp)
  have bR2 := bR.touch t2 (by simp)
  have H2 := Lib.hid (HAA.out.touch t2 (by simp))
  obtain ⟨e0, e1, e2, e3, e4, e5⟩ := fr_cell (row_touch HRR.out t2 (by simp)) HG.out
  dsimp only at e0 e1 e2 e3 e4 e5
  have HT2 := Lib.hid t2
  clear hU bR
  go_upto_region 6 with (fail)
  go_upto_region 7 with (go_at_call 42; refine (hOw.out _ HT2.out).mono ?_; rintro _ w3 ⟨v3, rfl, ok3, _, t3⟩; obtain ⟨qa, qc, rfl⟩ : ∃ a c, v3 = .slice a f.l.length c := ok3.form; obtain ⟨ln, hln⟩ : ∃ ln, f.l.length = ln := ⟨_, rfl⟩; rw [hln] at ok3; rw [hln]; have HO := Lib.hid (show f.k ≠ 4 → Value.slice qa ln qc = .slice none 0 0 from fun h => (ok3.1 h).2); clear ok3 hln)
  have tw3 := tw2.trans t3 (by simp)
  have H3 := Lib.hid (H2.out.touch t3 (by simp))
  have bR3 := bR2.touch t3 (by simp)
  have hz3 : z < w3.heap.size := bR3.lt
  have hz3' : w.heap.size ≤ w3.heap.size := tw3.size
  obtain ⟨y, hy⟩ : ∃ y, w3.heap.size = y := ⟨_, rfl⟩
  rw [hy] at hz3 hz3' ⊢
  have bY6 := Blk.new_at (n := y) w3 hy 45 #[.int .i64 f.k, .int .i64 f.a, .int .i64 f.b, .int .i64 f.x, .int .i64 f.y, .slice qa ln qc]
  have t36 := (Touch.refl [] w3).alloc (.cells #[.int .i64 f.k, .int .i64 f.a, .int .i64 f.b, .int .i64 f.x, .int .i64 f.y, .slice qa ln qc] 45)
  have c4 := (((HB.out.touch t2 (by simp)).touch t3 (by simp)).touch t36 (by simp)).cell 0
  generalize w3.alloc (.cells #[.int .i64 f.k, .int .i64 f.a, .int .i64 f.b, .int .i64 f.x, .int .i64 f.y, .slice qa ln qc] 45) = w4 at *
  have tw4 := tw3.trans t36 (by simp)
  have H4 := Lib.hid (H3.out.touch t36 (by simp))
  have bR4 := bR3.touch t36 (by simp)
  have hC := FCut_any w4 b F _ H4.out (by rw [HL.out, HN.out]; omega) n
  rw [show ((n : Int)).toNat = n by omega, HT.out] at hC
  clear e0 e1 e2 e3 e4 e5 bR2 bR3 t3 t2 t36 hOw
  go_upto_region 8 with (go_at_call 77; refine hC.mono ?_; rintro _ w5 ⟨rfl, h5, t5⟩)
  have bR5 := bR4.touch t5 (fun hz' => by have := hFz _ hz'; omega)
  have bY5 := bY6.touch t5 (fun hz' => by have := hFz _ hz'; omega)
  have k0 := bY5.cell 0
  have k1 := bY5.cell 1
  have k2 := bY5.cell 2
  have k3 := bY5.cell 3
  have k4 := bY5.cell 4
  have k5 := bY5.cell 5
  have f0 := bR5.frozen 0
  have f1 := bR5.frozen 1
  have f2 := bR5.frozen 2
  have f3 := bR5.frozen 3
  have f4 := bR5.frozen 4
  have f5 := bR5.frozen 5
  have j0 := bR5.cell 0
  have j1 := bR5.cell 1
  have j2 := bR5.cell 2
  have j3 := bR5.cell 3
  have j4 := bR5.cell 4
  have j5 := bR5.cell 5
  go_wp2_with fail
  have bS := six_set bR5 (.int .i64 f.k) (.int .i64 f.a) (.int .i64 f.b) (.int .i64 f.x) (.int .i64 f.y) (.slice qa ln qc)
  have r0 := bS.cell 0
  have r1 := bS.cell 1
  have r2 := bS.cell 2
  have r3 := bS.cell 3
  have r4 := bS.cell 4
  have r5 := bS.cell 5
  refine bodyPost_ret (by simp [results, Tryz.results72, go_sem, r0, r1, r2, r3, r4, r5]; try rfl) rfl ?_
  have t6 := six_touch (Touch.refl [z] w5) (b := z) (.inl (by simp)) (.int .i64 f.k) (.int .i64 f.a) (.int .i64 f.b) (.int .i64 f.x) (.int .i64 f.y) (.slice qa ln qc)
  refine ⟨⟨_, rfl, ⟨_, _, _, rfl⟩, HO.out⟩, h5.touch t6 (fun x hx hxz => by have := hFz x hx; simp at hxz; omega), ?_⟩
  exact six_touch ((tw4.mono (G := F) (by simp)).trans t5 (fun x hx => .inl hx)) (.inr (by omega)) _ _ _ _ _ _
theorem FPop_yes (w : World) (b : Nat) (F : List Nat) (Q : List Fr) (f : Fr) (h : FramesAt w b F (Q ++ [f])) (hQ : Q.length < 1000) (hk : f.k ≠ 4) :
    Calls Tryz.prog 72 #[.pointer (some ⟨b, 0, none⟩), .int .i64 f.k] w fun e w' => e = .returned (.tuple #[.agg (frA f), .int .i64 0]) ∧ FramesAt w' b F Q ∧ Touch F w w' := by
  refine (FPop_gen w b F Q f h hQ).mono ?_
  rintro _ w' ⟨⟨v', rfl, _, hv⟩, h2, h3⟩
  rw [hv hk]
  exact ⟨rfl, h2, h3⟩
end En
end Go.Proofs.YtdokeddjcpnmiaaGreatDoor

/- frame.Frames.Step. -/
namespace Go.Proofs.YtdokeddjcpnmiaaGreatDoor
open Go.RowKit Go.Shelf
namespace En

theorem row_setx {w : World} {g cap n : Nat} {Q : List Fq} {f : Fr} {v : Value} (hn : Q.length = n) (h : w.ownsRow 0 45 6 (.slice (some ⟨g, 0, none⟩) (n + 1) cap) (n + 1) ((Q ++ [Fq.mk f v]).flatMap fqCells)) (x : Int) :
    (w.setCell ⟨g, n * 6 + 3, none⟩ (.int .i64 x)).ownsRow 0 45 6 (.slice (some ⟨g, 0, none⟩) (n + 1) cap) (n + 1) ((Q ++ [Fq.mk { f with x := x } v]).flatMap fqCells) := by
  subst hn
  have hl := flat_len6 Q
  obtain ⟨h1, h2⟩ := h
  rcases h2 with ⟨h0, _⟩ | ⟨g', cap', cur, hv, hg, hh, hn', hcap, hsz, htake⟩
  · cases h0
  · cases hv
    have hb : Blk w g 45 cur := hh
    refine ⟨by rw [flat_len6]; simp, .inr ⟨g, cap, cur.setIfInBounds (Q.length * 6 + 3) (.int .i64 x), rfl, hg, hb.set_ (Q.length * 6 + 3) _, hn', hcap, by rw [Array.size_setIfInBounds]; exact hsz, ?_⟩⟩
    rw [Array.toList_setIfInBounds, List.take_set, htake, List.flatMap_append, List.flatMap_append, List.set_append_right _ _ (by omega), hl, show Q.length * 6 + 3 - Q.length * 6 = 3 by omega]
    rfl
/-- the uppermost frame's place turns -/
theorem raw_setx {w : World} {b g cap n : Nat} {R0 : List Fq} {f : Fr} {v : Value} {F : List Nat} (hR : RawAt w b (.slice (some ⟨g, 0, none⟩) (n + 1) cap) (R0 ++ [⟨f, v⟩])) (hn : R0.length = n) (hF : ∀ x, x ∈ b :: (rowOf (.slice (some ⟨g, 0, none⟩) (n + 1) cap) ++ rowsF (R0 ++ [⟨f, v⟩])) → x ∈ F) (hl : ∀ x ∈ F, x < w.heap.size) (x : Int) :
    FramesAt (w.setCell ⟨g, n * 6 + 3, none⟩ (.int .i64 x)) b F (R0.map (·.f) ++ [{ f with x := x }]) := by
  have t : Touch [g] w (w.setCell ⟨g, n * 6 + 3, none⟩ (.int .i64 x)) := (Touch.refl [g] w).setCell (by simp) _
  have hbg : b ≠ g := fun e => hR.b_row (by simp [rowOf, e])
  have hrs : rowsF (R0 ++ [⟨{ f with x := x }, v⟩]) = rowsF (R0 ++ [⟨f, v⟩]) := by simp [rowsF]
  have hlen : (R0 ++ [(⟨{ f with x := x }, v⟩ : Fq)]).length = n + 1 := by simp [hn]
  have hr := hR.row
  rw [show (R0 ++ [(⟨f, v⟩ : Fq)]).length = n + 1 by simp [hn]] at hr
  refine ⟨.slice (some ⟨g, 0, none⟩) (n + 1) cap, R0 ++ [⟨{ f with x := x }, v⟩], ⟨hR.blk.far hbg _, ?_, ?_, ?_⟩, by simp, ?_, fun y hy => Nat.lt_of_lt_of_le (hl y hy) t.size⟩
  · rw [hlen]
    exact row_setx hn hr x
  · have key : ∀ q : Fq, q ∈ R0 ++ [⟨f, v⟩] → q.ok (w.setCell ⟨g, n * 6 + 3, none⟩ (.int .i64 x)) := fun q hq => (hR.ok q hq).touch t (fun y hy hyg => by
      rw [List.mem_singleton.1 hyg] at hy
      exact hR.row_loc g (by simp [rowOf]) (rowsF_mem.2 ⟨q, hq, hy⟩))
    intro q hq
    rcases List.mem_append.1 hq with hq | hq
    · exact key q (List.mem_append_left _ hq)
    · rw [List.mem_singleton.1 hq]
      exact key ⟨f, v⟩ (by simp)
  · rw [hrs]
    exact hR.nd
  · rw [hrs]
    exact hF
set_option maxRecDepth 100000 in
set_option maxHeartbeats 1600000 in
theorem FStep_no (w : World) (b : Nat) (F : List Nat) (L : List Fr) (h : FramesAt w b F L) (hL : L.length ≤ 1000) (by_ : Int) (hk : L = [] ∨ (topF L).k ≠ 3) :
    Calls Tryz.prog 111 #[.pointer (some ⟨b, 0, none⟩), .int .i64 by_] w fun e w' => e = .returned (.tuple #[.bool false, .int .i64 (-26)]) ∧ Touch [] w w' := by
  have hU := up_no _ b F L h hL 3 hk
  clear h
  go_enter Tryz.func111, Tryz.ntmps111
  go_wp2_with fail
  refine hU.mono ?_
  rintro _ w2 ⟨rfl, t2⟩
  go_wp2_with fail
  go_ret2
  exact ⟨rfl, t2⟩
set_option maxRecDepth 100000 in
set_option maxHeartbeats 3200000 in
theorem FStep_yes (w : World) (b : Nat) (F : List Nat) (Q : List Fr) (f : Fr) (h : FramesAt w b F (Q ++ [f])) (hQ : Q.length < 1000) (hf : f.k = 3) (by_ : Int) (p q r : Bool) (hp : p = decide (wrap64 (f.x - f.y) < 0)) (hq : q = decide (by_ ≥ 0)) (hr : r = decide (wrap64 (wrap64 (f.x - f.y) + by_) < 0)) (res : Bool) (hres : res = ((p == q) && (p != r))) (L' : List Fr) (hL' : L' = if res = true then Q else Q ++ [{ f with x := wrap64 (f.x + by_) }]) :
    Calls Tryz.prog 111 #[.pointer (some ⟨b, 0, none⟩), .int .i64 by_] w fun e w' => e = .returned (.tuple #[.bool res, .int .i64 0]) ∧ FramesAt w' b F L' ∧ Touch F w w' := by
  have hlen : (Q ++ [f]).length = Q.length + 1 := by simp
  obtain ⟨lf, hlf⟩ : ∃ lf, wrap64 (f.x - f.y) = lf := ⟨_, rfl⟩
  obtain ⟨nx, hnx⟩ : ∃ nx, wrap64 (f.x + by_) = nx := ⟨_, rfl⟩
  rw [hlf] at hp hr
  obtain ⟨sm, hsm⟩ : ∃ sm, wrap64 (lf + by_) = sm := ⟨_, rfl⟩
  rw [hsm] at hr
  rw [hnx] at hL'
  have el : IntKind.i64.wrap (f.x - f.y) = lf := by rw [← hlf, IntKind.wrap_i64]; unfold wrap64; omega
  have en : IntKind.i64.wrap (f.x + by_) = nx := by rw [← hnx, IntKind.wrap_i64]; unfold wrap64; omega
  have es : IntKind.i64.wrap (lf + by_) = sm := by rw [← hsm, IntKind.wrap_i64]; unfold wrap64; omega
  clear hlf hnx hsm
  obtain ⟨g, cap, a, c0, ha, hg, hbb, hk, hrest⟩ := h.parts
  rw [hlen] at c0 ha hk hrest
  obtain rfl := ha (by omega)
  obtain ⟨R, hR, hRL, hbF, hgF, hlF⟩ := hrest (by omega)
  obtain ⟨R0, q, rfl, hR0, hqf⟩ := fq_last hRL
  obtain ⟨qf, qv⟩ := q
  dsimp only at hqf
  subst hqf
  have hU := up_yes w b F Q qf h hQ c0
  rw [hf] at hU
  have hb := hR.blk
  have hr0 := hR.row
  obtain ⟨n, hn⟩ : ∃ n, Q.length = n := ⟨_, rfl⟩
  have hn0 : R0.length = n := by rw [← hn, hR0, List.length_map]
  rw [show (R0 ++ [(⟨qf, qv⟩ : Fq)]).length = n + 1 by simp [hn0]] at hr0
  have hFl := h.lt
  rw [hn] at hR hb c0 hU hQ hlen hr0
  have HE := Lib.hid (fun (W : World) (t : Touch [] w W) => (by
    have h1 := raw_setx (F := F) (hR.touch t (by simp)) hn0 (fun x hx => by
      rcases List.mem_cons.1 hx with hx | hx
      · rw [hx]; exact hbF
      · rcases List.mem_append.1 hx with hx | hx
        · simp [rowOf] at hx; rw [hx]; exact hgF
        · exact hlF x hx) (fun x hx => Nat.lt_of_lt_of_le (hFl x hx) t.size) nx
    rw [← hR0] at h1
    exact h1 : FramesAt (W.setCell ⟨g, n * 6 + 3, none⟩ (.int .i64 (nx))) b F (Q ++ [{ qf with x := nx }])))
  have HT := Lib.hid (fun (W : World) (t : Touch [] w W) => ((t.mono (G := F) (by simp)).setCell (p := ⟨g, n * 6 + 3, none⟩) (.inl hgF) (.int .i64 (nx))))
  have htk : ∀ u : Fr, (Q ++ [u]).take n = Q := fun u => by rw [← hn]; simp
  have hget : (R0 ++ [(⟨qf, qv⟩ : Fq)])[n]? = some ⟨qf, qv⟩ := by rw [← hn0]; simp
  have hq := hR.ok ⟨qf, qv⟩ (by simp)
  generalize qf = f at *
  have hw : IntKind.i64.wrap (n : Int) = (n : Int) := by rw [IntKind.wrap_i64]; omega
  have HRR := Lib.hid hr0
  have HK := Lib.hid htk
  have HG := Lib.hid hget
  have HB := Lib.hid hb
  have HN := Lib.hid hn
  clear hk hrest ha hr0 hget htk hlen hn c0 hb h hbb hg hf hR hR0 hn0 hRL hFl hbF hgF hlF hq
  go_enter Tryz.func111, Tryz.ntmps111
  go_upto_region 1 with (fail)
  go_wp2_with fail
  refine hU.mono ?_
  rintro _ w2 ⟨rfl, t2⟩
  obtain ⟨e0, e1, e2, e3, e4, e5⟩ := fr_cell (row_touch HRR.out t2 (by simp)) HG.out
  have fz : w2.frozen? ⟨g, n * 6 + 3, none⟩ = false := by
    obtain ⟨cur, hcur⟩ : ∃ cur, Blk w2 g 45 cur := by
      rcases (row_touch HRR.out t2 (by simp)).2 with ⟨h0, _⟩ | ⟨g', cap', cur, hv, _, hh, _⟩
      · cases h0
      · cases hv; exact ⟨cur, hh⟩
    exact hcur.frozen _
  have HE2 := Lib.hid (fun k => HE.out (w2.drewN k) (t2.drewN k))
  have HT2 := Lib.hid (fun k => HT.out (w2.drewN k) (t2.drewN k))
  have c0 := (HB.out.touch t2 (by simp)).cell 0
  have hC := Lib.hid (fun k => FCut_any _ b F _ (HE2.out k) (by rw [List.length_append, HN.out]; simp; omega) n)
  go_upto_region 6 with (fail)
  go_quiet (fail)
  have h1 := hp.symm
  have h2 := hq.symm
  have h3 := hr.symm
  clear hp hq hr
  have htn : ((n : Int)).toNat = n := by omega
  have HL' := Lib.hid hL'
  clear hL'
  cases p <;> cases q <;> cases r
  all_goals simp only [decide_eq_true_eq, decide_eq_false_iff_not] at h1 h2 h3
  all_goals simp at hres
  all_goals subst hres
  all_goals go_wp2_with (go_at_call 77; refine (hC.out _).mono ?_; rintro _ w5 ⟨rfl, h5, t5⟩)
  all_goals go_ret2
  all_goals have hLL := HL'.out
  all_goals simp at hLL
  all_goals subst hLL
  all_goals first
    | (refine ⟨rfl, ?_, HT2.out _⟩; exact HE2.out _)
    | (rw [htn, HK.out] at h5; exact ⟨rfl, h5, (HT2.out _).trans t5 (fun x hx => .inl hx)⟩)
end En
end Go.Proofs.YtdokeddjcpnmiaaGreatDoor

/- frame.Frames.Catch. -/
namespace Go.Proofs.YtdokeddjcpnmiaaGreatDoor
open Go.RowKit Go.Shelf
namespace En

attribute [local go_sem] Oper.semAt_some

theorem framesOwn {β : Type} {B b : Nat} {F : List Nat} {L : β → List Fr} (hF : ∀ f ∈ F, f < B) : OwnFrom B (fun (x : β) W => FramesAt W b F (L x)) := by
  intro s W W' row hs hg hr
  cases row with
  | none => exact hs.touch ((Touch.refl [] W).grown hg (by simp)) (by simp)
  | some r => exact hs.touch ((Touch.refl [r] W).grown hg (by simp)) (fun f hf hfr => by have h1 := hF f hf; have h2 := (hr r rfl).1; simp at hfr; omega)
theorem touchOwn {β : Type} {B : Nat} {F : List Nat} {w : World} (hB : w.heap.size ≤ B) : OwnFrom B (fun (_ : β) W => Touch F w W) := by
  intro s W W' row hs hg hr
  exact hs.grown hg (fun k e => .inr (Nat.le_trans hB (hr k e).1))
theorem _root_.Go.Proofs.YtdokeddjcpnmiaaGreatDoor.Touch.keepsF {F : List Nat} {W W' : World} (h : Touch F W W') (B : Nat) (hF : ∀ f ∈ F, f < B) : KeepsFrom B W W' :=
  ⟨h.size, fun k o hB hk _ => (h.block k (Array.getElem?_eq_some_iff.1 hk).1 (fun hf => by have := hF k hf; omega)).trans hk⟩
theorem catch_at {L : List Fr} {x : Nat} (hx : x < L.length) (h5 : (L.getD x .none).k = 5) (hr : ∀ j, x < j → j < L.length → (L.getD j .none).k ≠ 5) : catchF L = some (L.getD x .none, L.take x) := by
  have e : L = L.take x ++ L.getD x .none :: L.drop (x + 1) := by
    conv => lhs; rw [← List.take_append_drop x L]
    congr 1
    rw [List.getD_eq_getElem?_getD, List.getElem?_eq_getElem hx]
    exact List.drop_eq_getElem_cons hx
  rw [e] 
  have e2 : (L.take x ++ L.getD x .none :: L.drop (x + 1)).take x = L.take x := by rw [← e]
  have e3 : (L.take x ++ L.getD x .none :: L.drop (x + 1)).getD x .none = L.getD x .none := by rw [← e]
  rw [e2, e3]
  refine catchF_last h5 ?_
  intro y hy
  obtain ⟨i, hi, rfl⟩ := List.mem_iff_getElem.1 hy
  rw [List.length_drop] at hi
  have h1 := hr (x + 1 + i) (by omega) (by omega)
  rw [List.getElem_drop]
  rwa [List.getD_eq_getElem?_getD, List.getElem?_eq_getElem (by omega)] at h1

set_option maxRecDepth 100000 in
set_option maxHeartbeats 3200000 in
theorem FCatch_any (w : World) (b : Nat) (F : List Nat) (L : List Fr) (h : FramesAt w b F L) (hL : L.length ≤ 1000) (R : Fr) (ok : Bool) (L' : List Fr) (hR : (ok = true ∧ catchF L = some (R, L')) ∨ (ok = false ∧ catchF L = none ∧ R = Fr.none ∧ L' = L)) :
    Calls Tryz.prog 75 #[.pointer (some ⟨b, 0, none⟩)] w fun e w' => e = .returned (.tuple #[.agg (frA R), .bool ok]) ∧ FramesAt w' b F L' ∧ Touch F w w' := by
  suffices h : CallsIn Fence.wide 10 Tryz.prog 75 #[.pointer (some ⟨b, 0, none⟩)] w fun e w' => e = .returned (.tuple #[.agg (frA R), .bool ok]) ∧ FramesAt w' b F L' ∧ Touch F w w' from callsIn_wide.1 h
  have hFl : ∀ f ∈ F, f < w.heap.size := h.lt
  obtain ⟨g, cap, a, hc, ha, hg, hb, hk, hrest⟩ := h.parts
  obtain ⟨n, hn⟩ : ∃ n, L.length = n := ⟨_, rfl⟩
  rw [hn] at hL hc ha hk hrest
  obtain ⟨ks, hks⟩ : ∃ ks : Nat → Int, (fun i => (L.getD i .none).k) = ks := ⟨_, rfl⟩
  have hks' : ∀ i, (L.getD i .none).k = ks i := fun i => congrFun hks i
  simp only [hks'] at hk
  have HR := Lib.hid hR
  have HF := Lib.hid h
  have HN := Lib.hid hn
  have HK := Lib.hid hks'
  clear hR h hn hks hks'
  unfold frA
  refine callsIn_of_wp_marks Tryz.func75 rfl trivial ?_ rfl
  simp only [Tryz.ntmps75, List.size_toArray, List.length_cons, List.length_nil, Nat.reduceAdd, Nat.reduceSub, Array.replicate_succ, Array.replicate_zero, List.push_toArray, List.append_toArray, List.nil_append, List.cons_append]
  gi_wp2_with fail
  refine ⟨trivial, (down_in 9 b _).mono ?_⟩
  rintro _ _ ⟨rfl, rfl⟩
  obtain ⟨WA, hWA⟩ : ∃ WA, ((w.alloc (.cells #[.pointer (some ⟨b, 0, none⟩)] 41)).alloc (.cells #[.int .i64 0, .int .i64 0, .int .i64 0, .int .i64 0, .int .i64 0, .slice none 0 0] 45)).alloc (.cells #[.bool false] 4) = WA := ⟨_, rfl⟩
  have bP : Blk WA w.heap.size 41 #[.pointer (some ⟨b, 0, none⟩)] := by rw [← hWA]; exact ((Blk.new w _ _).alloc _).alloc _
  have bX : Blk WA (w.heap.size + 1) 45 #[.int .i64 0, .int .i64 0, .int .i64 0, .int .i64 0, .int .i64 0, .slice none 0 0] := by rw [← hWA]; exact (Blk.new_at _ (by simp) _ _).alloc _
  have bE : Blk WA (w.heap.size + 2) 4 #[.bool false] := by rw [← hWA]; exact Blk.new_at _ (by simp) _ _
  have tw : Touch [] w WA := by rw [← hWA]; exact (((Touch.refl [] w).alloc _).alloc _).alloc _
  have hsN : WA.heap.size = w.heap.size + 3 := by rw [← hWA]; simp
  rw [hWA, hsN]
  clear hWA
  have bP := bP.alloc (.cells #[.pointer (some ⟨b, 0, none⟩)] 41)
  have bX := bX.alloc (.cells #[.pointer (some ⟨b, 0, none⟩)] 41)
  have bE := bE.alloc (.cells #[.pointer (some ⟨b, 0, none⟩)] 41)
  have bB : Blk (WA.alloc (.cells #[.pointer (some ⟨b, 0, none⟩)] 41)) (w.heap.size + 3) 41 #[.pointer (some ⟨b, 0, none⟩)] := Blk.new_at _ hsN _ _
  have tw := tw.alloc (.cells #[.pointer (some ⟨b, 0, none⟩)] 41)
  have hs0 : (WA.alloc (.cells #[.pointer (some ⟨b, 0, none⟩)] 41)).heap.size = w.heap.size + 4 := by simp [hsN]
  generalize WA.alloc (.cells #[.pointer (some ⟨b, 0, none⟩)] 41) = W0 at *
  clear hsN
  have hB0 : Below w.heap.size w W0 := tw.below (Nat.le_refl _) (by simp)
  have hc0 := (hB0.cell (p := ⟨b, 0, none⟩) hb).trans hc
  gi_wp2_with fail
  refine wpIn_rangeFunc_ownG (F := Fence.wide) rfl (by omega) (gf := 141) (lb := #[.pointer (some ⟨w.heap.size + 3, 0, none⟩)]) rfl trivial (enters_of Tryz.func141 (by kernel_rfl) rfl)
    (down_stops 9 (by omega) (w.heap.size + 3) W0.heap.size b g n cap a (by omega) (by omega) ha W0 (by omega) (Nat.le_refl _) (bB.cell 0) hc0) belowK_t (belowK_b (Nat.le_refl _)) (Below.refl _ _) (fun _ => rfl)
    (fun pre W => ((∀ x ∈ pre, ks x.1 ≠ 5) ∧ Blk W w.heap.size 41 #[.pointer (some ⟨b, 0, none⟩)] ∧ Blk W (w.heap.size + 1) 45 #[.int .i64 0, .int .i64 0, .int .i64 0, .int .i64 0, .int .i64 0, .slice none 0 0] ∧ Blk W (w.heap.size + 2) 4 #[.bool false]) ∧ Below w.heap.size w W)
    (fun c pre W => (∃ ini x, pre = ini ++ [x] ∧ (∀ x ∈ ini, ks x.1 ≠ 5) ∧ c = .ret ∧ ks x.1 = 5 ∧ Blk W (w.heap.size + 1) 45 (frA (L.getD x.1 .none)) ∧ Blk W (w.heap.size + 2) 4 #[.bool true]) ∧ FramesAt W b F (match pre.getLast? with | some x => L.take x.1 | none => []) ∧ Touch F w W)
    (OwnFrom.and (Own.from (fun s A B row hs hg hr => ⟨hs.1, hs.2.1.ownE hg hr, hs.2.2.1.ownE hg hr, hs.2.2.2.ownE hg hr⟩) _) (ownFrom_below (Nat.le_refl _) (by omega)))
    (fun c => OwnFrom.and (Own.from (fun s A B row hs hg hr => by
      obtain ⟨ini, x, e1, e0, e2, e3, e4, e5⟩ := hs
      exact ⟨ini, x, e1, e0, e2, e3, e4.ownE hg hr, e5.ownE hg hr⟩) _) (OwnFrom.and (framesOwn (fun f hf => by have := hFl f hf; omega)) (touchOwn (by omega))))
    ⟨⟨by simp, bP, bX, bE⟩, hB0⟩
    (fun x => { tmps := #[.pointer (some ⟨b, 0, none⟩), .pointer (some ⟨w.heap.size, 0, none⟩), .pointer (some ⟨w.heap.size + 1, 0, none⟩), .pointer (some ⟨w.heap.size + 2, 0, none⟩), .int .i64 (x.1 : Int), .pointer (some ⟨g, x.1 * 6, none⟩), undef, .pointer (some ⟨b, 0, none⟩), .func (.func 141) #[] #[.pointer (some ⟨w.heap.size + 3, 0, none⟩)], .int .i64 (x.1 : Int), .pointer (some ⟨g, x.1 * 6, none⟩), undef, undef, undef, undef, undef, undef, undef, undef, undef, undef, undef, undef, undef, undef], defers := [] }) ?assign ?body ?done ?stop
  case assign =>
    intro l x W K hK
    gi_wp2
    exact hK
  case body =>
    rintro l pre x W ⟨⟨hpre, cP, cX, cE⟩, hB⟩ hx
    have hx1 : x.1 < n := by have := x.2; omega
    have p0 := cP.cell 0
    have kx := (hB.cell (p := ⟨g, x.1 * 6, none⟩) hg).trans (hk x.1 hx1)
    by_cases hx5 : ks x.1 = 5
    · have hx' : (ks x.1 == 5) = true := by simpa using hx5
      have hA := HF.out.touch (Touch.of_below hB []) (by simp)
      obtain ⟨RQ, hRQ, hRL, _, _, _⟩ := hrest (by omega)
      have hlq : RQ.length = n := by rw [← HN.out, hRL, List.length_map]
      have hlR : x.1 < RQ.length := by omega
      have hrow := hRQ.row
      rw [hlq] at hrow
      obtain ⟨v0, v1, v2, v3, v4, v5⟩ := fr_cell (row_touch hrow (Touch.of_below hB []) (by simp)) (List.getElem?_eq_getElem hlR)
      have hqf : (RQ[x.1]).f = L.getD x.1 .none := by rw [hRL, List.getD_eq_getElem?_getD, List.getElem?_map, List.getElem?_eq_getElem hlR]; rfl
      have hq5 := ((hRQ.ok _ (List.getElem_mem hlR)).1 (by rw [hqf, HK.out, hx5]; decide)).2
      rw [hqf] at v0 v1 v2 v3 v4
      rw [hq5] at v5
      clear hrow hRQ hRL hqf hq5
      obtain ⟨f, hf⟩ : ∃ f, L.getD x.1 .none = f := ⟨_, rfl⟩
      rw [hf] at v0 v1 v2 v3 v4
      have hfk : f.k = 5 := by rw [← hf, HK.out]; exact hx5
      have hOw := fun W => wideR (n := 7) l (own_any f.k f.a f.b f.x f.y W)
      rw [hfk] at hOw
      gi_wp2_with fail
      refine ⟨trivial, (hOw _).mono ?_⟩
      rintro _ w3 ⟨rfl, t3⟩
      have cP3 := (cP.touch t3 (by simp)).alloc (.cells #[.int .i64 5, .int .i64 f.a, .int .i64 f.b, .int .i64 f.x, .int .i64 f.y, .slice none 0 0] 45)
      have cX3 := (cX.touch t3 (by simp)).alloc (.cells #[.int .i64 5, .int .i64 f.a, .int .i64 f.b, .int .i64 f.x, .int .i64 f.y, .slice none 0 0] 45)
      have cE3 := (cE.touch t3 (by simp)).alloc (.cells #[.int .i64 5, .int .i64 f.a, .int .i64 f.b, .int .i64 f.x, .int .i64 f.y, .slice none 0 0] 45)
      have t4 := t3.alloc (.cells #[.int .i64 5, .int .i64 f.a, .int .i64 f.b, .int .i64 f.x, .int .i64 f.y, .slice none 0 0] 45)
      have hA4 := hA.touch t4 (by simp)
      obtain ⟨y, hy⟩ : ∃ y, w3.heap.size = y := ⟨_, rfl⟩
      have hyW : W.heap.size ≤ y := by rw [← hy]; exact t3.size
      have hEl := cE.lt
      have cY := Blk.new_at (n := y) w3 hy 45 #[.int .i64 5, .int .i64 f.a, .int .i64 f.b, .int .i64 f.x, .int .i64 f.y, .slice none 0 0]
      have q0 := cP3.cell 0
      have hC := wideR (n := 7) l (FCut_any _ b F _ hA4 (by rw [HN.out]; omega) (x.1 : Int))
      rw [show ((x.1 : Int)).toNat = x.1 by omega] at hC
      clear p0 kx v0 v1 v2 v3 v4 v5 hOw
      gi_wp2_with fail
      refine ⟨trivial, hC.mono ?_⟩
      rintro _ w5 ⟨rfl, h5, t5⟩
      have hFn : ∀ k, w.heap.size ≤ k → k ∉ F := fun k hk hkF => by have := hFl k hkF; omega
      have cX5 := cX3.touch t5 (hFn _ (by omega))
      have cE5 := cE3.touch t5 (hFn _ (by omega))
      have cY5 := cY.touch t5 (hFn _ (by have := hB.size; omega))
      have k0 := cY5.cell 0
      have k1 := cY5.cell 1
      have k2 := cY5.cell 2
      have k3 := cY5.cell 3
      have k4 := cY5.cell 4
      have k5 := cY5.cell 5
      have f0 := cX5.frozen 0
      have f1 := cX5.frozen 1
      have f2 := cX5.frozen 2
      have f3 := cX5.frozen 3
      have f4 := cX5.frozen 4
      have f5 := cX5.frozen 5
      have j0 := cX5.cell 0
      have j1 := cX5.cell 1
      have j2 := cX5.cell 2
      have j3 := cX5.cell 3
      have j4 := cX5.cell 4
      have j5 := cX5.cell 5
      have e0 := cE5.frozen 0
      have e1 := cE5.cell 0
      gi_wp2_with fail
      have b6 := six_set cX5 (.int .i64 5) (.int .i64 f.a) (.int .i64 f.b) (.int .i64 f.x) (.int .i64 f.y) (.slice none 0 0)
      have t6 := (six_touch (Touch.refl [w.heap.size + 1, w.heap.size + 2] w5) (b := w.heap.size + 1) (.inl (by simp)) (.int .i64 5) (.int .i64 f.a) (.int .i64 f.b) (.int .i64 f.x) (.int .i64 f.y) (.slice none 0 0)).setCell (p := ⟨w.heap.size + 2, 0, none⟩) (.inl (by simp)) (.bool true)
      have tt : Touch F w w5 := ((Touch.of_below hB F).trans t4 (by simp)).trans t5 (fun k hk => .inl hk)
      refine ⟨?_, ⟨pre, x, rfl, hpre, rfl, hx5, ?_, ?_⟩, ?_, ?_⟩
      · exact ((t4.keepsE _).trans (t5.keepsF _ (fun k hk => by have := hFl k hk; omega))).trans (t6.keepsF _ (fun k hk => by simp at hk; omega))
      · rw [hf]
        have := b6.far (p := ⟨w.heap.size + 2, 0, none⟩) (by simp) (.bool true)
        unfold frA
        rw [hfk]
        exact this
      · exact (((((((cE5.far (by simp) _).far (by simp) _).far (by simp) _).far (by simp) _).far (by simp) _).far (by simp) _).set_ 0 _)
      · simp only [List.getLast?_append, List.getLast?_singleton]
        exact h5.touch t6 (fun k hk => by have := hFl k hk; simp; omega)
      · exact (six_touch tt (.inr (by simp)) _ _ _ _ _ _).setCell (.inr (by simp)) _
    · have hx' : (ks x.1 == 5) = false := by simpa using hx5
      gi_wp2_with fail
      exact ⟨KeepsFrom.refl _ _, Below.refl _ _, ⟨⟨fun y hy => (List.mem_append.1 hy).elim (hpre y) (fun e => by simp at e; subst e; exact hx5), cP, cX, cE⟩, hB⟩⟩
  case done =>
    rintro D ys W hD rfl ⟨⟨hne, cP, cX, cE⟩, hB⟩ hK
    have hnone : catchF L = none := catchF_none fun y hy => by
      obtain ⟨i, hi, rfl⟩ := List.mem_iff_getElem.1 hy
      rw [HN.out] at hi
      have h1 := hne (nth n (n - 1 - i)) (by unfold uptoF; exact List.mem_map.2 ⟨n - 1 - i, by simp; omega, rfl⟩)
      have h2 : (nth n (n - 1 - i)).1 = i := by show n - 1 - (n - 1 - i) = i; omega
      rw [h2, ← HK.out, List.getD_eq_getElem?_getD, List.getElem?_eq_getElem (by rw [HN.out]; exact hi)] at h1
      exact h1
    rcases HR.out with ⟨_, h9⟩ | ⟨rfl, _, rfl, rfl⟩
    · rw [hnone] at h9; cases h9
    have f0 := cX.frozen 0
    have f1 := cX.frozen 1
    have f2 := cX.frozen 2
    have f3 := cX.frozen 3
    have f4 := cX.frozen 4
    have f5 := cX.frozen 5
    have j0 := cX.cell 0
    have j1 := cX.cell 1
    have j2 := cX.cell 2
    have j3 := cX.cell 3
    have j4 := cX.cell 4
    have j5 := cX.cell 5
    have e0 := cE.frozen 0
    have e1 := cE.cell 0
    have hPn := cX.lt
    have hPe := cE.lt
    gi_wp2_with fail
    have b6 := (six_set cX (.int .i64 0) (.int .i64 0) (.int .i64 0) (.int .i64 0) (.int .i64 0) (.slice none 0 0)).far (p := ⟨w.heap.size + 2, 0, none⟩) (by simp) (.bool false)
    have b7 := ((((((cE.far (p := ⟨w.heap.size + 1, 0, none⟩) (by simp) (.int .i64 0)).far (p := ⟨w.heap.size + 1, 1, none⟩) (by simp) (.int .i64 0)).far (p := ⟨w.heap.size + 1, 2, none⟩) (by simp) (.int .i64 0)).far (p := ⟨w.heap.size + 1, 3, none⟩) (by simp) (.int .i64 0)).far (p := ⟨w.heap.size + 1, 4, none⟩) (by simp) (.int .i64 0)).far (p := ⟨w.heap.size + 1, 5, none⟩) (by simp) (.slice none 0 0)).set_ 0 (.bool false)
    have t6 := (six_touch (Touch.refl [w.heap.size + 1, w.heap.size + 2] W) (b := w.heap.size + 1) (.inl (by simp)) (.int .i64 0) (.int .i64 0) (.int .i64 0) (.int .i64 0) (.int .i64 0) (.slice none 0 0)).setCell (p := ⟨w.heap.size + 2, 0, none⟩) (.inl (by simp)) (.bool false)
    have hK' := (t6.keepsF W0.heap.size (fun k hk => by simp at hk; omega)).2 D _ hD hK rfl
    refine ⟨by simp, .inl ⟨_, _, rfl, run_takeDeferred hK', ?_⟩⟩
    have bz2 := b6.grown (grownBy_putObj' _ D (.deferred none)) (by simp; omega)
    have bz3 := b7.grown (grownBy_putObj' _ D (.deferred none)) (by simp; omega)
    have q0 := bz2.cell 0
    have q1 := bz2.cell 1
    have q2 := bz2.cell 2
    have q3 := bz2.cell 3
    have q4 := bz2.cell 4
    have q5 := bz2.cell 5
    have q6 := bz3.cell 0
    have tf := (((Touch.of_below hB F).trans t6 (fun k hk => .inr (by simp at hk; omega))).grown (grownBy_putObj' _ D (.deferred none)) (fun k e => .inr (by cases e; omega)))
    have tn := (((Touch.of_below hB []).trans t6 (fun k hk => .inr (by simp at hk; omega))).grown (grownBy_putObj' _ D (.deferred none)) (fun k e => .inr (by cases e; omega)))
    refine ⟨.tuple #[.agg #[.int .i64 0, .int .i64 0, .int .i64 0, .int .i64 0, .int .i64 0, .slice none 0 0], .bool false], ?_, rfl, HF.out.touch tn (by simp), tf⟩
    simp [results, Tryz.f75, go_sem, q0, q1, q2, q3, q4, q5, q6]
  case stop =>
    rintro D c pre W hD ⟨k, hk, rfl⟩ ⟨⟨ini, x, e1, e0, rfl, e3, cX, cE⟩, hA, hT⟩ hK
    obtain ⟨k', rfl⟩ : ∃ k', k = k' + 1 := by
      cases k with
      | zero => simp [uptoF] at e1
      | succ k' => exact ⟨k', rfl⟩
    rw [uptoF_succ] at e1 hA
    simp only [List.getLast?_append, List.getLast?_singleton] at hA
    obtain ⟨rfl, e5⟩ := List.append_inj' e1 rfl
    obtain rfl : nth n k' = x := by simpa using e5
    have e9 : (nth n k').1 = n - 1 - k' := rfl
    obtain ⟨j, hj⟩ : ∃ j, n - 1 - k' = j := ⟨_, rfl⟩
    rw [e9, hj] at e3 cX
    have hA' : FramesAt W b F (L.take j) := by rw [← hj]; exact hA
    have hcat := catch_at (L := L) (x := j) (by rw [HN.out]; omega) (by rw [HK.out]; exact e3) (fun i hi hi2 => by
      rw [HK.out]
      rw [HN.out] at hi2
      have h1 := e0 (nth n (n - 1 - i)) (by unfold uptoF; exact List.mem_map.2 ⟨n - 1 - i, by simp; omega, rfl⟩)
      have h2 : (nth n (n - 1 - i)).1 = i := by show n - 1 - (n - 1 - i) = i; omega
      rw [h2] at h1
      exact h1)
    rcases HR.out with ⟨rfl, h9⟩ | ⟨rfl, h9, rfl, rfl⟩
    · rw [hcat] at h9
      injection h9 with h9
      injection h9 with h9 h10
      subst h9 h10
      gi_wp2_with fail
      refine ⟨by simp, .inl ⟨_, _, rfl, run_takeDeferred hK, ?_⟩⟩
      have hPn := cX.lt
      have hPe := cE.lt
      have bz2 := cX.grown (grownBy_putObj' _ D (.deferred none)) (by simp; omega)
      have bz3 := cE.grown (grownBy_putObj' _ D (.deferred none)) (by simp; omega)
      have q0 := bz2.cell 0
      have q1 := bz2.cell 1
      have q2 := bz2.cell 2
      have q3 := bz2.cell 3
      have q4 := bz2.cell 4
      have q5 := bz2.cell 5
      have q6 := bz3.cell 0
      refine ⟨.tuple #[.agg (frA (L.getD j .none)), .bool true], ?_, rfl, ?_, hT.grown (grownBy_putObj' _ D (.deferred none)) (fun k e => .inr (by cases e; omega))⟩
      · simp [results, Tryz.f75, go_sem, q0, q1, q2, q3, q4, q5, q6]
      · exact hA'.touch ((Touch.refl [D] W).grown (grownBy_putObj' _ D (.deferred none)) (fun k e => by cases e; exact .inl (by simp))) (fun k hk => by have := hFl k hk; simp; omega)
    · rw [hcat] at h9; cases h9
end En
end Go.Proofs.YtdokeddjcpnmiaaGreatDoor

/- frame.Frames.Index. -/
namespace Go.Proofs.YtdokeddjcpnmiaaGreatDoor
open Go.RowKit Go.Shelf
namespace En

attribute [local go_sem] Oper.semAt_some

set_option maxRecDepth 100000 in
set_option maxHeartbeats 3200000 in
theorem Idx_any (w : World) (b g n cap : Nat) (a : Option Addr) (ks xs : Nat → Int) (hb : b < w.heap.size) (hc : w.cell? ⟨b, 0, none⟩ = some (.slice a n cap)) (ha : n ≠ 0 → a = some ⟨g, 0, none⟩) (hg : g < w.heap.size) (hn : n ≤ 1000)
    (hk : ∀ i, i < n → w.cell? ⟨g, i * 6, none⟩ = some (.int .i64 (ks i))) (hxs : ∀ i, i < n → w.cell? ⟨g, i * 6 + 3, none⟩ = some (.int .i64 (xs i))) (outer : Nat) (ho : outer < 1000) (R : Int × Int)
    (hR : R = if outer < n ∧ ∀ i, i ≤ outer → ks (n - 1 - i) = 3 then (xs (n - 1 - outer), 0) else (0, -26)) :
    Calls Tryz.prog 244 #[.pointer (some ⟨b, 0, none⟩), .int .i64 outer] w fun e w' => e = .returned (.tuple #[.int .i64 R.1, .int .i64 R.2]) ∧ Touch [] w w' := by
  suffices h : CallsIn Fence.wide 10 Tryz.prog 244 #[.pointer (some ⟨b, 0, none⟩), .int .i64 outer] w fun e w' => e = .returned (.tuple #[.int .i64 R.1, .int .i64 R.2]) ∧ Below w.heap.size w w' from
    (callsIn_wide.1 h).mono fun _ _ h => ⟨h.1, Touch.of_below h.2 _⟩
  obtain ⟨R1, R2⟩ := R
  have HR := Lib.hid hR
  clear hR
  refine callsIn_of_wp_marks Tryz.func244 rfl trivial ?_ rfl
  simp only [Tryz.ntmps244, List.size_toArray, List.length_cons, List.length_nil, Nat.reduceAdd, Nat.reduceSub, Array.replicate_succ, Array.replicate_zero, List.push_toArray, List.append_toArray, List.nil_append, List.cons_append]
  gi_wp2_with fail
  refine ⟨trivial, (down_in 9 b _).mono ?_⟩
  rintro _ _ ⟨rfl, rfl⟩
  obtain ⟨WA, hWA⟩ : ∃ WA, (((w.alloc (.cells #[.pointer (some ⟨b, 0, none⟩)] 41)).alloc (.cells #[.int .i64 outer] 3)).alloc (.cells #[.int .i64 0] 33)).alloc (.cells #[.int .i64 0] 29) = WA := ⟨_, rfl⟩
  have bP : Blk WA w.heap.size 41 #[.pointer (some ⟨b, 0, none⟩)] := by rw [← hWA]; exact (((Blk.new w _ _).alloc _).alloc _).alloc _
  have bO : Blk WA (w.heap.size + 1) 3 #[.int .i64 outer] := by rw [← hWA]; exact ((Blk.new_at _ (by simp) _ _).alloc _).alloc _
  have bX : Blk WA (w.heap.size + 2) 33 #[.int .i64 0] := by rw [← hWA]; exact (Blk.new_at _ (by simp) _ _).alloc _
  have bE : Blk WA (w.heap.size + 3) 29 #[.int .i64 0] := by rw [← hWA]; exact Blk.new_at _ (by simp) _ _
  have tw : Touch [] w WA := by rw [← hWA]; exact ((((Touch.refl [] w).alloc _).alloc _).alloc _).alloc _
  have hsN : WA.heap.size = w.heap.size + 4 := by rw [← hWA]; simp
  rw [hWA, hsN]
  clear hWA
  have bP := bP.alloc (.cells #[.pointer (some ⟨b, 0, none⟩)] 41)
  have bO := bO.alloc (.cells #[.pointer (some ⟨b, 0, none⟩)] 41)
  have bX := bX.alloc (.cells #[.pointer (some ⟨b, 0, none⟩)] 41)
  have bE := bE.alloc (.cells #[.pointer (some ⟨b, 0, none⟩)] 41)
  have bB : Blk (WA.alloc (.cells #[.pointer (some ⟨b, 0, none⟩)] 41)) (w.heap.size + 4) 41 #[.pointer (some ⟨b, 0, none⟩)] := Blk.new_at _ hsN _ _
  have tw := tw.alloc (.cells #[.pointer (some ⟨b, 0, none⟩)] 41)
  have hs0 : (WA.alloc (.cells #[.pointer (some ⟨b, 0, none⟩)] 41)).heap.size = w.heap.size + 5 := by simp [hsN]
  generalize WA.alloc (.cells #[.pointer (some ⟨b, 0, none⟩)] 41) = W0 at *
  clear hsN
  have hB0 : Below w.heap.size w W0 := tw.below (Nat.le_refl _) (by simp)
  have hc0 := (hB0.cell (p := ⟨b, 0, none⟩) hb).trans hc
  gi_wp2_with fail
  refine wpIn_rangeFunc_ownG (F := Fence.wide) rfl (by omega) (gf := 141) (lb := #[.pointer (some ⟨w.heap.size + 4, 0, none⟩)]) rfl trivial (enters_of Tryz.func141 (by kernel_rfl) rfl)
    (down_stops 9 (by omega) (w.heap.size + 4) W0.heap.size b g n cap a (by omega) (by omega) ha W0 (by omega) (Nat.le_refl _) (bB.cell 0) hc0) belowK_t (belowK_b (Nat.le_refl _)) (Below.refl _ _) (fun _ => rfl)
    (fun pre W => ((∀ x ∈ pre, ks x.1 = 3 ∧ n - 1 - x.1 ≠ outer) ∧ Blk W w.heap.size 41 #[.pointer (some ⟨b, 0, none⟩)] ∧ Blk W (w.heap.size + 1) 3 #[.int .i64 outer] ∧ Blk W (w.heap.size + 2) 33 #[.int .i64 0] ∧ Blk W (w.heap.size + 3) 29 #[.int .i64 0]) ∧ Below w.heap.size w W)
    (fun c pre W => (∃ ini x, pre = ini ++ [x] ∧ (∀ x ∈ ini, ks x.1 = 3 ∧ n - 1 - x.1 ≠ outer) ∧ ((c = .ret ∧ ks x.1 = 3 ∧ n - 1 - x.1 = outer ∧ Blk W (w.heap.size + 2) 33 #[.int .i64 (xs x.1)] ∧ Blk W (w.heap.size + 3) 29 #[.int .i64 0]) ∨ (c = .exit 0 ∧ ks x.1 ≠ 3 ∧ Blk W (w.heap.size + 2) 33 #[.int .i64 0] ∧ Blk W (w.heap.size + 3) 29 #[.int .i64 0]))) ∧ Below w.heap.size w W)
    (OwnFrom.and (Own.from (fun s A B row hs hg hr => ⟨hs.1, hs.2.1.ownE hg hr, hs.2.2.1.ownE hg hr, hs.2.2.2.1.ownE hg hr, hs.2.2.2.2.ownE hg hr⟩) _) (ownFrom_below (Nat.le_refl _) (by omega)))
    (fun c => OwnFrom.and (Own.from (fun s A B row hs hg hr => by
      obtain ⟨ini, x, e1, e0, e2⟩ := hs
      exact ⟨ini, x, e1, e0, e2.imp (fun h => ⟨h.1, h.2.1, h.2.2.1, h.2.2.2.1.ownE hg hr, h.2.2.2.2.ownE hg hr⟩) (fun h => ⟨h.1, h.2.1, h.2.2.1.ownE hg hr, h.2.2.2.ownE hg hr⟩)⟩) _) (ownFrom_below (Nat.le_refl _) (by omega)))
    ⟨⟨by simp, bP, bO, bX, bE⟩, hB0⟩
    (fun x => { tmps := #[.pointer (some ⟨b, 0, none⟩), .int .i64 outer, .pointer (some ⟨w.heap.size, 0, none⟩), .pointer (some ⟨w.heap.size + 1, 0, none⟩), .pointer (some ⟨w.heap.size + 2, 0, none⟩), .pointer (some ⟨w.heap.size + 3, 0, none⟩), .int .i64 (x.1 : Int), .pointer (some ⟨g, x.1 * 6, none⟩), .pointer (some ⟨b, 0, none⟩), .bool false, .pointer (some ⟨b, 0, none⟩), .func (.func 141) #[] #[.pointer (some ⟨w.heap.size + 4, 0, none⟩)], .int .i64 (x.1 : Int), .pointer (some ⟨g, x.1 * 6, none⟩), undef, undef, undef, undef, undef, undef, undef, undef, undef, undef, undef, undef, undef, undef, undef, undef, undef, undef, undef], defers := [] }) ?assign ?body ?done ?stop
  case assign =>
    intro l x W K hK
    gi_wp2
    exact hK
  case body =>
    rintro l pre x W ⟨⟨hpre, cP, cO, cX, cE⟩, hB⟩ hx
    have hx1 : x.1 < n := by have := x.2; omega
    have p0 := cP.cell 0
    have o0 := cO.cell 0
    have x0 := cX.cell 0
    have xf := cX.frozen 0
    have z0 := cE.cell 0
    have zf := cE.frozen 0
    have cb := (hB.cell (p := ⟨b, 0, none⟩) hb).trans hc
    have kx := (hB.cell (p := ⟨g, x.1 * 6, none⟩) hg).trans (hk x.1 hx1)
    have vx := (hB.cell (p := ⟨g, x.1 * 6 + 3, none⟩) hg).trans (hxs x.1 hx1)
    have hbs := hB.size
    have hgg : g ≠ w.heap.size + 2 := by omega
    have e1 : IntKind.i64.wrap ((n : Int) - 1) = n - 1 := by rw [IntKind.wrap_i64]; omega
    have e2 : IntKind.i64.wrap ((n : Int) - 1 - x.1) = ((n - 1 - x.1 : Nat) : Int) := by rw [IntKind.wrap_i64]; omega
    by_cases hx3 : ks x.1 = 3
    · have hx' : (ks x.1 != 3) = false := by simpa using hx3
      obtain ⟨q, hq⟩ : ∃ q, (((n - 1 - x.1 : Nat) : Int) == (outer : Int)) = q := ⟨_, rfl⟩
      gi_wp2_with fail
      gi_region_with (fail)
      all_goals cases q
      all_goals gi_wp2_with fail
      all_goals first
        | (have hxo : n - 1 - x.1 ≠ outer := by rw [beq_eq_false_iff_ne] at hq; omega
           have hkk := drew_keeps W0.heap.size W
           have hbb : Below w.heap.size w W.drew := ((Touch.of_below hB []).drew).below (Nat.le_refl _) (by simp)
           exact ⟨hkk, (Below.refl _ W).drew, ⟨⟨fun y hy => (List.mem_append.1 hy).elim (hpre y) (fun e => by simp at e; subst e; exact ⟨hx3, hxo⟩), cP, cO, cX, cE⟩, hbb⟩⟩)
        | (have hxo : n - 1 - x.1 = outer := by rw [beq_iff_eq] at hq; omega
           have hkk : KeepsFrom W0.heap.size W ((W.setCell ⟨w.heap.size + 2, 0, none⟩ (.int .i64 (xs x.1))).setCell ⟨w.heap.size + 3, 0, none⟩ (.int .i64 0)) := ((KeepsOthers.setCell _ _ _).trans (KeepsOthers.setCell _ _ _)).from _
           have hkk := hkk.trans (drew_keeps _ _)
           have hbb : Below w.heap.size w ((W.setCell ⟨w.heap.size + 2, 0, none⟩ (.int .i64 (xs x.1))).setCell ⟨w.heap.size + 3, 0, none⟩ (.int .i64 0)).drew := ((((Touch.of_below hB []).setCell (.inr (by simp)) _).setCell (.inr (by simp)) _).drew).below (Nat.le_refl _) (by simp)
           exact ⟨hkk, ⟨pre, x, rfl, hpre, .inl ⟨rfl, hx3, hxo, (cX.set_ 0 _).far (by simp) _, (cE.far (by simp) _).set_ 0 _⟩⟩, hbb⟩)
    · have hx' : (ks x.1 != 3) = true := by simpa using hx3
      gi_wp2_with fail
      exact ⟨KeepsFrom.refl _ _, ⟨pre, x, rfl, hpre, .inr ⟨rfl, hx3, cX, cE⟩⟩, hB⟩
  case done =>
    rintro D ys W hD rfl ⟨⟨hne, cP, cO, cX, cE⟩, hB⟩ hK
    have hres : ¬ (outer < n ∧ ∀ i, i ≤ outer → ks (n - 1 - i) = 3) := by
      rintro ⟨h1, _⟩
      have h2 := hne (nth n outer) (by unfold uptoF; exact List.mem_map.2 ⟨outer, by simp [h1], rfl⟩)
      have h3 : (nth n outer).1 = n - 1 - outer := rfl
      rw [h3] at h2
      omega
    have h9 := HR.out
    rw [if_neg hres] at h9
    injection h9 with h9 h10
    subst h9 h10
    have x0 := cX.frozen 0
    have x1 := cX.cell 0
    have z0 := cE.frozen 0
    have z1 := cE.cell 0
    have hPn := cX.lt
    gi_wp2_with fail
    have bz := (cX.set_ 0 (.int .i64 0)).far (p := ⟨w.heap.size + 3, 0, none⟩) (by simp) (.int .i64 (-26))
    have bz' := (cE.far (p := ⟨w.heap.size + 2, 0, none⟩) (by simp) (.int .i64 0)).set_ 0 (.int .i64 (-26))
    have hK' := ((KeepsOthers.setCell W ⟨w.heap.size + 2, 0, none⟩ (.int .i64 0)).trans (KeepsOthers.setCell _ ⟨w.heap.size + 3, 0, none⟩ (.int .i64 (-26)))).same D _ hK rfl
    refine ⟨by simp, .inl ⟨_, _, rfl, run_takeDeferred hK', ?_⟩⟩
    have bz2 := bz.grown (grownBy_putObj' _ D (.deferred none)) (by simp; omega)
    have bz3 := bz'.grown (grownBy_putObj' _ D (.deferred none)) (by simp; omega)
    have q0 := bz2.cell 0
    have q1 := bz3.cell 0
    refine ⟨.tuple #[.int .i64 0, .int .i64 (-26)], ?_, rfl, ?_⟩
    · simp [results, Tryz.f244, go_sem, q0, q1]
    · have u1 : Touch [] w W := Touch.of_below hB []
      exact (((u1.setCell (.inr (by show w.heap.size ≤ w.heap.size + 1 + 1; omega)) _).setCell (.inr (by show w.heap.size ≤ w.heap.size + 1 + 1 + 1; omega)) _).below (Nat.le_refl _) (by simp)).trans (belowK_b (w := w) (Nat.le_refl _) _ D _ _ (by omega) hK' rfl rfl)
  case stop =>
    rintro D c pre W hD ⟨k, hk, rfl⟩ ⟨⟨ini, x, e1, e0, e2⟩, hB⟩ hK
    obtain ⟨k', rfl⟩ : ∃ k', k = k' + 1 := by
      cases k with
      | zero => simp [uptoF] at e1
      | succ k' => exact ⟨k', rfl⟩
    rw [uptoF_succ] at e1
    obtain ⟨rfl, e5⟩ := List.append_inj' e1 rfl
    obtain rfl : nth n k' = x := by simpa using e5
    have e3 : (nth n k').1 = n - 1 - k' := rfl
    rw [e3] at e2
    have hbef : ∀ i, i < k' → ks (n - 1 - i) = 3 ∧ n - 1 - (n - 1 - i) ≠ outer := fun i hi => e0 (nth n i) (by unfold uptoF; exact List.mem_map.2 ⟨i, by simp [hi], rfl⟩)
    rcases e2 with ⟨rfl, e3, e4, cX, cE⟩ | ⟨rfl, e3, cX, cE⟩
    · have hko : k' = outer := by omega
      have h9 := HR.out
      rw [if_pos ⟨by omega, fun i hi => by
        rcases Nat.lt_or_ge i k' with h | h
        · exact (hbef i h).1
        · rw [show i = k' by omega]; exact e3⟩] at h9
      injection h9 with h9 h10
      subst h9 h10
      subst hko
      gi_wp2_with fail
      refine ⟨by simp, .inl ⟨_, _, rfl, run_takeDeferred hK, ?_⟩⟩
      have hPn := cX.lt
      have hPe := cE.lt
      have bz2 := cX.grown (grownBy_putObj' _ D (.deferred none)) (by simp; omega)
      have bz3 := cE.grown (grownBy_putObj' _ D (.deferred none)) (by simp; omega)
      have q0 := bz2.cell 0
      have q1 := bz3.cell 0
      refine ⟨.tuple #[.int .i64 (xs (n - 1 - k')), .int .i64 0], ?_, rfl, ?_⟩
      · simp [results, Tryz.f244, go_sem, q0, q1]
      · exact hB.trans (belowK_b (w := w) (Nat.le_refl _) W D _ _ (by omega) hK rfl rfl)
    · have hres : ¬ (outer < n ∧ ∀ i, i ≤ outer → ks (n - 1 - i) = 3) := by
        rintro ⟨h1, h2⟩
        rcases Nat.lt_or_ge outer k' with h | h
        · exact (hbef outer h).2 (by omega)
        · exact e3 (h2 k' h)
      have h9 := HR.out
      rw [if_neg hres] at h9
      injection h9 with h9 h10
      subst h9 h10
      have x0 := cX.frozen 0
      have x1 := cX.cell 0
      have z0 := cE.frozen 0
      have z1 := cE.cell 0
      have hPn := cX.lt
      have hPe := cE.lt
      gi_wp2_with fail
      have bz := (cX.set_ 0 (.int .i64 0)).far (p := ⟨w.heap.size + 3, 0, none⟩) (by simp) (.int .i64 (-26))
      have bz' := (cE.far (p := ⟨w.heap.size + 2, 0, none⟩) (by simp) (.int .i64 0)).set_ 0 (.int .i64 (-26))
      have hK' := ((KeepsOthers.setCell W ⟨w.heap.size + 2, 0, none⟩ (.int .i64 0)).trans (KeepsOthers.setCell _ ⟨w.heap.size + 3, 0, none⟩ (.int .i64 (-26)))).same D _ hK rfl
      refine ⟨by simp, .inl ⟨_, _, rfl, run_takeDeferred hK', ?_⟩⟩
      have bz2 := bz.grown (grownBy_putObj' _ D (.deferred none)) (by simp; omega)
      have bz3 := bz'.grown (grownBy_putObj' _ D (.deferred none)) (by simp; omega)
      have q0 := bz2.cell 0
      have q1 := bz3.cell 0
      refine ⟨.tuple #[.int .i64 0, .int .i64 (-26)], ?_, rfl, ?_⟩
      · simp [results, Tryz.f244, go_sem, q0, q1]
      · have u1 : Touch [] w W := Touch.of_below hB []
        exact (((u1.setCell (.inr (by show w.heap.size ≤ w.heap.size + 1 + 1; omega)) _).setCell (.inr (by show w.heap.size ≤ w.heap.size + 1 + 1 + 1; omega)) _).below (Nat.le_refl _) (by simp)).trans (belowK_b (w := w) (Nat.le_refl _) _ D _ _ (by omega) hK' rfl rfl)
end En
end Go.Proofs.YtdokeddjcpnmiaaGreatDoor

/- stack.Stack.Cut: cut, or filled up with zeros. -/
namespace Go.Proofs.YtdokeddjcpnmiaaGreatDoor
open Go.RowKit

/-- what is left of a stack that is cut -/
def stackCut (n : Nat) (l : List Int) : List Int := (l ++ List.replicate (n - l.length) 0).take n
theorem cut_append {w W w1 : World} {b : Nat} {L : List Int} {a : Option Addr} {cap len : Nat} {v' : Value} (hb : Blk w b 94 #[.slice a len cap]) (hnb : b ∉ rowOf (.slice a len cap)) (t : Touch [] w W) (hlen : L.length = len)
    (hown : w1.ownsRow 0 33 1 v' (len + 1) (cells L ++ [.int .i64 0])) (hgrow : W.grownBy w1 (Value.slice a len cap).ownBlock) (hloc : v'.ownBlock = (Value.slice a len cap).ownBlock ∨ v'.ownBlock = some W.heap.size) :
    ∃ F', StackAt (w1.setCell ⟨b, 0, none⟩ v') b F' (L ++ [0]) ∧ Touch (b :: rowOf (.slice a len cap)) w (w1.setCell ⟨b, 0, none⟩ v') ∧ Sub w (b :: rowOf (.slice a len cap)) F' := by
  have hbl := hb.lt
  have hz := t.size
  have hB : Blk w1 b 94 #[.slice a len cap] := (hb.touch t (by simp)).grown hgrow (fun e => hnb (rowOf_mem.2 e.symm))
  have htt := fun u => ((t.mono (G := b :: rowOf (.slice a len cap)) (by simp)).grown hgrow (fun k hk => .inl (by simp [rowOf_mem, hk]))).setCell (p := ⟨b, 0, none⟩) (by simp) u
  have hnb' : b ∉ rowOf v' := fun hb' => by
    rcases hloc with e | e
    · exact hnb (rowOf_mem.2 (e ▸ rowOf_mem.1 hb'))
    · rw [rowOf_mem.1 hb'] at e
      simp at e
      omega
  refine ⟨b :: rowOf v', ⟨v', hB.set_ 0 _, rfl, hnb', ?_⟩, htt _, ?_⟩
  · rw [cells_append, List.length_append, hlen]
    exact row_touch hown (F := [b]) ((Touch.refl _ _).setCell (by simp) _) (by intro k hk hkb; rw [List.mem_singleton.1 hkb] at hk; exact hnb' hk)
  · intro f hf
    rcases List.mem_cons.1 hf with rfl | hf
    · exact .inl (by simp)
    · rcases hloc with e | e
      · exact .inl (by simp [rowOf_mem, ← e, rowOf_mem.1 hf])
      · rw [rowOf_mem.1 hf] at e
        simp at e
        exact .inr (by omega)
set_option maxRecDepth 100000 in
set_option maxHeartbeats 2000000 in
theorem StkCut_any (w : World) (b : Nat) (F : List Nat) (L : List Int) (h : StackAt w b F L) (i : Int) (n : Nat) (hi : min (max i 0) 128 = (n : Int)) :
    Calls Tryz.prog 76 #[.pointer (some ⟨b, 0, none⟩), .int .i64 i] w fun e w' => e = .returned (.tuple #[]) ∧ ∃ F', StackAt w' b F' (stackCut n L) ∧ Touch F w w' ∧ Sub w F F' := by
  obtain ⟨i0, hi0, hz0, hz1, hz2⟩ := info_cell'
  go_enter Tryz.func76, Tryz.ntmps76
  go_wp2_with fail
  have hn128 : n ≤ 128 := by omega
  clear hi
  go_loopg [] (n - L.length) (fun g wr => ∃ j F1, g = n - L.length - j ∧ j ≤ n - L.length ∧ StackAt wr b F1 (L ++ List.replicate j 0) ∧ Touch F w wr ∧ Sub w F F1)
  case atStart => exact ⟨0, F, by omega, by omega, by simpa using h, Touch.refl _ _, Sub.refl _ _⟩
  case round =>
    obtain ⟨j, F1, hg, hj, hS, hT, hSub⟩ := hrel
    obtain ⟨v, hb, rfl, hnb, hr⟩ := hS
    obtain ⟨a, cap, hv⟩ := row_value hr
    obtain ⟨len, hlen⟩ : ∃ len, (L ++ List.replicate j 0).length = len := ⟨_, rfl⟩
    rw [hlen] at hr hv
    have hlen2 : L.length + j = len := by rw [← hlen]; simp
    subst hv
    have c0 := hb.cell 0
    have f0 := hb.frozen 0
    have HG := Lib.hid hg
    rcases Nat.lt_or_ge len n with hlt | hge
    · have hlt' : (len : Int) < (n : Int) := by omega
      have HE := Lib.hid (fun (w1 : World) (v' : Value) h1 h2 h3 => cut_append (W := wr.alloc (.cells #[.int .i64 0] 33)) (w1 := w1) (v' := v') hb hnb ((Touch.refl [] wr).alloc _) hlen h1 h2 h3)
      have HR := Lib.hid (row_touch hr ((Touch.refl [] wr).alloc (.cells #[.int .i64 0] 33)) (by simp))
      have HV := Lib.hid (fun (w1 : World) (hg : (wr.alloc (.cells #[.int .i64 0] 33)).grownBy w1 (Value.slice a len cap).ownBlock) => (hb.alloc (.cells #[.int .i64 0] 33)).grown hg (fun e => hnb (rowOf_mem.2 e.symm)))
      have HA : Hid (len + 1 ≤ 128) := by show _ ≤ 128; omega
      have HBN := Lib.hid (Blk.new wr 33 #[.int .i64 0])
      clear hr hnb hb f0
      go_wp2_with (at_builtin; refine wpList_append_own_at _ rfl _ _ 25 rfl 0 33 i0 (.int .i64 0) 1 8 Tryz.underlying25 hi0 hz0 hz1 hz2 rfl (by decide) _ _ _ rfl HR.out ⟨wr.heap.size, 0, none⟩ 1 1 [.int .i64 0] rfl rfl ?qc2 ?qc3 ?qc4 ?qc5 (Nat.zero_le _) ?_)
      case qc2 =>
        intro j u hj
        have hj0 : j = 0 := by have := (List.getElem?_eq_some_iff.1 hj).1; simp at this; omega
        subst hj0
        rw [show ((⟨wr.heap.size, 0, none⟩ : Addr).add 0) = ⟨wr.heap.size, 0, none⟩ from rfl, HBN.out.cell 0]
        simpa using hj
      case qc3 => intro u hu; simp at hu; subst hu; rfl
      case qc4 => unfold maxLen; have := HA.out; omega
      case qc5 => have := HA.out; omega
      intro v' w1 hown hgrow hnil hloc
      obtain ⟨a', c', rfl⟩ := row_value hown
      have HX := Lib.hid (HE.out w1 _ hown hgrow (by simpa using hloc))
      have hv1 := HV.out w1 hgrow
      have f1 := hv1.frozen 0
      have c1 := hv1.cell 0
      clear hown hgrow hnil hloc hv1
      go_wp2_with fail
      obtain ⟨F2, h1, h2, h3⟩ := HX.out
      go_roundg (n - L.length - (j + 1))
      case measure => rw [HG.out]; omega
      case rel => exact ⟨j + 1, F2, rfl, by omega, by rw [List.replicate_succ', ← List.append_assoc]; exact h1, hT.trans h2 hSub, hSub.trans h3 hT.size⟩
    · have hge' : ¬ (len : Int) < (n : Int) := by omega
      have hjn : j = n - L.length := by omega
      have HE := Lib.hid (fun (W : World) (v : Value) (hB : Blk W b 94 #[v]) (hrow : rowOf v = rowOf (.slice a len cap)) (hown : W.ownsRow 0 33 1 v n (cells ((L ++ List.replicate j 0).take n))) => (⟨v, hB, by rw [hrow], by rw [hrow]; exact hnb, by
        rw [stackCut, ← hjn, List.length_take, hlen, Nat.min_eq_left (by omega)]; exact hown⟩ : StackAt W b (b :: rowOf (.slice a len cap)) (stackCut n L)))
      have HB := Lib.hid hb
      rcases Go.Joins.ownsRow_forms hr with ⟨hv, hn0⟩ | ⟨g, cap', hv⟩
      · have hn00 : n = 0 := by omega
        injection hv with hv1 hv2 hv3
        subst hv1 hv2 hv3 hn00
        have HNB := Lib.hid hnb
        clear hr hnb hb
        go_wp2_with fail
        go_end0
        refine ⟨rfl, _, HE.out _ _ (HB.out.set_ 0 _) rfl ?_, hT.trans ((Touch.refl _ _).setCell (by simp) _) hSub, hSub⟩
        exact World.ownsRow_nil _ _ _ _
      · injection hv with hv1 hv2 hv3
        subst hv1 hv3
        have hcap := row_cap hr
        have HR := Lib.hid (row_take hr hge)
        have HNB := Lib.hid hnb
        clear hr hnb hb
        go_wp2_with fail
        go_end0
        refine ⟨rfl, _, HE.out _ _ (HB.out.set_ 0 _) rfl ?_, hT.trans ((Touch.refl _ _).setCell (by simp) _) hSub, hSub⟩
        exact row_touch HR.out (F := [b]) ((Touch.refl _ _).setCell (by simp) _) (by intro k hk hkb; rw [List.mem_singleton.1 hkb] at hk; exact HNB.out hk)
end Go.Proofs.YtdokeddjcpnmiaaGreatDoor
