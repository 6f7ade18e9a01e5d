import Derived.Test.YtdokeddjcpnmiaaGreatDoorJPlX
import Derived.Test.YtdokeddjcpnmiaaGreatDoorKFrmX
import Derived.Test.YtdokeddjcpnmiaaGreatDoorJPDo
import Derived.Deep.Cut
import Derived.Deep.RegionLaw
import Derived.BigQuiet
/- The engine in memory: a block, three rows, frames, a state, an input, all apart. -/
namespace Go.Proofs.YtdokeddjcpnmiaaGreatDoor
open Go.RowKit
namespace En

def wdCells (x : Int × Int × Int) : List Value := [.int .i64 x.1, .int .i64 x.2.1, .int .i64 x.2.2]
theorem wdCells_one (x : Int × Int × Int) : ∀ u ∈ wdCells x, u.oneCell' = true := by
  intro u hu; simp [wdCells] at hu; rcases hu with rfl | rfl | rfl <;> rfl
/-- lists of blocks, no one in two of them -/
def Apart : List (List Nat) → Prop
  | [] => True
  | A :: r => (∀ x ∈ A, ∀ B ∈ r, x ∉ B) ∧ Apart r
theorem Apart.head {A A' : List Nat} {r : List (List Nat)} {n : Nat} (h : Apart (A :: r)) (hs : ∀ x ∈ A', x ∈ A ∨ n ≤ x) (hl : ∀ B ∈ r, ∀ x ∈ B, x < n) : Apart (A' :: r) := by
  refine ⟨fun x hx B hB hxB => ?_, h.2⟩
  rcases hs x hx with g | g
  · exact h.1 x g B hB hxB
  · have := hl B hB x hxB; omega
theorem Apart.tail {A : List Nat} {r r' : List (List Nat)} (_h : Apart (A :: r)) (h2 : Apart r') (hs : ∀ x ∈ A, ∀ B ∈ r', x ∉ B) : Apart (A :: r') := ⟨hs, h2⟩
/-- one of them turned -/
theorem Apart.turn {n : Nat} {A' : List Nat} : ∀ {r : List (List Nat)} {A : List Nat} {q : List (List Nat)}, Apart (r ++ A :: q) → (∀ x ∈ A', x ∈ A ∨ n ≤ x) → (∀ B ∈ r ++ q, ∀ x ∈ B, x < n) → Apart (r ++ A' :: q)
  | [], A, q, h, hs, hl => Apart.head h hs hl
  | C :: r, A, q, h, hs, hl => by
    refine ⟨fun x hx B hB hxB => ?_, Apart.turn h.2 hs (fun B hB => hl B (List.mem_cons_of_mem _ hB))⟩
    rcases List.mem_append.1 hB with g | g
    · exact h.1 x hx B (List.mem_append_left _ g) hxB
    · rcases List.mem_cons.1 g with rfl | g
      · rcases hs x hxB with k | k
        · exact h.1 x hx A (List.mem_append_right _ (by simp)) k
        · have := hl C (by simp) x hx; omega
      · exact h.1 x hx B (List.mem_append_right _ (List.mem_cons_of_mem _ g)) hxB
theorem Apart.mid {A : List Nat} : ∀ {r q : List (List Nat)}, Apart (r ++ A :: q) → ∀ B ∈ r ++ q, ∀ x ∈ B, x ∉ A
  | [], q, h, B, hB, x, hx => fun hxA => h.1 x hxA B hB hx
  | C :: r, q, h, B, hB, x, hx => by
    rcases List.mem_cons.1 hB with rfl | hB
    · exact h.1 x hx A (List.mem_append_right _ (by simp))
    · exact Apart.mid h.2 B hB x hx

/-- where its parts lie -/
structure Lay where
  s : Nat
  i : Nat
  f : Nat
structure Lie (w : World) (g : Nat) (p : Lay) (cv ev wv : Value) (Ff FS FI : List Nat) (m : M) : Prop where
  blk : Blk w g 85 #[cv, ev, wv, .pointer (some ⟨p.f, 0, none⟩), .int .i64 m.df, .int .i64 m.on, .int .i64 m.nx, .pointer (some ⟨p.s, 0, none⟩), .pointer (some ⟨p.i, 0, none⟩)]
  code : w.ownsRow 0 33 1 cv m.code.length (cells m.code)
  ends : w.ownsRow 0 3 1 ev m.ends.length (cells m.ends)
  words : w.ownsRow 0 35 3 wv m.words.length (m.words.flatMap wdCells)
  fr : FramesAt w p.f Ff m.fr
  st : StateAt w p.s FS m.S
  inp : InAt w p.i FI m.I
  apart : Apart [[g], rowOf cv, rowOf ev, rowOf wv, Ff, FS, FI]
def footE (g : Nat) (cv ev wv : Value) (Ff FS FI : List Nat) : List Nat := [g] ++ (rowOf cv ++ (rowOf ev ++ (rowOf wv ++ (Ff ++ (FS ++ FI)))))
def EngAt (w : World) (g : Nat) (p : Lay) (F : List Nat) (m : M) : Prop := ∃ cv ev wv Ff FS FI, Lie w g p cv ev wv Ff FS FI m ∧ F = footE g cv ev wv Ff FS FI
/-- what a call leaves -/
def Keep (w : World) (g : Nat) (p : Lay) (F : List Nat) (m : M) (w' : World) : Prop := ∃ F', EngAt w' g p F' m ∧ Touch F w w' ∧ Sub w F F'
section
variable {w w' : World} {g : Nat} {p : Lay} {cv ev wv : Value} {Ff FS FI F : List Nat} {m m' : M}
theorem Lie.lt (h : Lie w g p cv ev wv Ff FS FI m) : ∀ B ∈ [[g], rowOf cv, rowOf ev, rowOf wv, Ff, FS, FI], ∀ x ∈ B, x < w.heap.size := by
  intro B hB x hx
  simp only [List.mem_cons, List.not_mem_nil, or_false] at hB
  rcases hB with rfl | rfl | rfl | rfl | rfl | rfl | rfl
  · simp at hx; subst hx; exact h.blk.lt
  · exact row_lt h.code hx
  · exact row_lt h.ends hx
  · exact row_lt h.words hx
  · exact h.fr.lt x hx
  · exact h.st.lt x hx
  · exact h.inp.lt x hx
theorem EngAt.lt (h : EngAt w g p F m) : ∀ x ∈ F, x < w.heap.size := by
  obtain ⟨cv, ev, wv, Ff, FS, FI, h, rfl⟩ := h
  intro x hx
  have k := h.lt
  simp only [footE, List.mem_append] at hx
  rcases hx with hx | hx | hx | hx | hx | hx | hx
  · exact k _ (by simp) x hx
  · exact k (rowOf cv) (by simp) x hx
  · exact k (rowOf ev) (by simp) x hx
  · exact k (rowOf wv) (by simp) x hx
  · exact k Ff (by simp) x hx
  · exact k FS (by simp) x hx
  · exact k FI (by simp) x hx
theorem EngAt.touch {G : List Nat} (h : EngAt w g p F m) (t : Touch G w w') (hn : ∀ x ∈ F, x ∉ G) : EngAt w' g p F m := by
  obtain ⟨cv, ev, wv, Ff, FS, FI, h, rfl⟩ := h
  have hm : ∀ B ∈ [[g], rowOf cv, rowOf ev, rowOf wv, Ff, FS, FI], ∀ x ∈ B, x ∉ G := fun B hB x hx => hn x (by
    simp only [List.mem_cons, List.not_mem_nil, or_false] at hB
    simp only [footE, List.mem_append]
    rcases hB with rfl | rfl | rfl | rfl | rfl | rfl | rfl <;> simp_all)
  refine ⟨cv, ev, wv, Ff, FS, FI, ⟨h.blk.touch t (hm [g] (by simp) g (by simp)), row_touch h.code t (hm _ (by simp)), row_touch h.ends t (hm _ (by simp)), row_touch h.words t (hm _ (by simp)), h.fr.touch t (hm _ (by simp)), ?_, h.inp.touch t (hm _ (by simp)), h.apart⟩, rfl⟩
  obtain ⟨FK, ov, mv, hp, e⟩ := h.st
  exact ⟨FK, ov, mv, hp.quiet t (by rw [← e]; exact hm _ (by simp)), e⟩
theorem Keep.refl (h : EngAt w g p F m) : Keep w g p F m w := ⟨F, h, Touch.refl _ _, Sub.refl _ _⟩
theorem Keep.trans {w2 : World} {F1 : List Nat} {m2 : M} (t : Touch F w w') (s : Sub w F F1) (k : Keep w' g p F1 m2 w2) : Keep w g p F m2 w2 := by
  obtain ⟨F2, h, t2, s2⟩ := k
  exact ⟨F2, h, t.trans t2 s, fun x hx => (s2 x hx).elim (fun g => s x g) (fun g => .inr (Nat.le_trans t.size g))⟩
end
end En
end Go.Proofs.YtdokeddjcpnmiaaGreatDoor

/- The engine in memory: one part of it turns, the others stay. -/
namespace Go.Proofs.YtdokeddjcpnmiaaGreatDoor
open Go.RowKit
namespace En

def engCells (p : Lay) (cv ev wv : Value) (m : M) : Array Value := #[cv, ev, wv, .pointer (some ⟨p.f, 0, none⟩), .int .i64 m.df, .int .i64 m.on, .int .i64 m.nx, .pointer (some ⟨p.s, 0, none⟩), .pointer (some ⟨p.i, 0, none⟩)]
section
variable {w w' : World} {g : Nat} {p : Lay} {cv ev wv : Value} {Ff FS FI F : List Nat} {m m' : M}
theorem foot_mem {x : Nat} : x ∈ footE g cv ev wv Ff FS FI ↔ x = g ∨ x ∈ rowOf cv ∨ x ∈ rowOf ev ∨ x ∈ rowOf wv ∨ x ∈ Ff ∨ x ∈ FS ∨ x ∈ FI := by simp [footE]
theorem Lie.off (h : Lie w g p cv ev wv Ff FS FI m) : (∀ x ∈ [g], x ∉ Ff ∧ x ∉ FS ∧ x ∉ FI) ∧ (∀ x ∈ rowOf cv, x ∉ [g] ∧ x ∉ Ff ∧ x ∉ FS ∧ x ∉ FI) ∧ (∀ x ∈ rowOf ev, x ∉ [g] ∧ x ∉ Ff ∧ x ∉ FS ∧ x ∉ FI) ∧ (∀ x ∈ rowOf wv, x ∉ [g] ∧ x ∉ Ff ∧ x ∉ FS ∧ x ∉ FI) ∧ (∀ x ∈ Ff, x ∉ [g] ∧ x ∉ FS ∧ x ∉ FI) ∧ (∀ x ∈ FS, x ∉ [g] ∧ x ∉ Ff ∧ x ∉ FI) ∧ ∀ x ∈ FI, x ∉ [g] ∧ x ∉ Ff ∧ x ∉ FS := by
  have hg := fun B hB x hx => Apart.mid (r := []) h.apart B hB x hx
  have hf := fun B hB x hx => Apart.mid (r := [[g], rowOf cv, rowOf ev, rowOf wv]) h.apart B hB x hx
  have hs := fun B hB x hx => Apart.mid (r := [[g], rowOf cv, rowOf ev, rowOf wv, Ff]) h.apart B hB x hx
  have hi := fun B hB x hx => Apart.mid (r := [[g], rowOf cv, rowOf ev, rowOf wv, Ff, FS]) h.apart B hB x hx
  exact ⟨fun x hx => ⟨hf [g] (by simp) x hx, hs [g] (by simp) x hx, hi [g] (by simp) x hx⟩,
    fun x hx => ⟨hg (rowOf cv) (by simp) x hx, hf (rowOf cv) (by simp) x hx, hs (rowOf cv) (by simp) x hx, hi (rowOf cv) (by simp) x hx⟩,
    fun x hx => ⟨hg (rowOf ev) (by simp) x hx, hf (rowOf ev) (by simp) x hx, hs (rowOf ev) (by simp) x hx, hi (rowOf ev) (by simp) x hx⟩,
    fun x hx => ⟨hg (rowOf wv) (by simp) x hx, hf (rowOf wv) (by simp) x hx, hs (rowOf wv) (by simp) x hx, hi (rowOf wv) (by simp) x hx⟩,
    fun x hx => ⟨hg Ff (by simp) x hx, hs Ff (by simp) x hx, hi Ff (by simp) x hx⟩,
    fun x hx => ⟨hg FS (by simp) x hx, hf FS (by simp) x hx, hi FS (by simp) x hx⟩,
    fun x hx => ⟨hg FI (by simp) x hx, hf FI (by simp) x hx, hs FI (by simp) x hx⟩⟩
theorem State_touch {S : PS} {s : Nat} {FS G : List Nat} (h : StateAt w s FS S) (t : Touch G w w') (hn : ∀ x ∈ FS, x ∉ G) : StateAt w' s FS S := by
  obtain ⟨FK, ov, mv, hp, e⟩ := h
  exact ⟨FK, ov, mv, hp.quiet t (by rw [← e]; exact hn), e⟩
/-- the frames turn -/
theorem Lie.frs (h : Lie w g p cv ev wv Ff FS FI m) {Ff' : List Nat} {L : List Fr} (hf : FramesAt w' p.f Ff' L) (t : Touch Ff w w') (s : Sub w Ff Ff') : Keep w g p (footE g cv ev wv Ff FS FI) { m with fr := L } w' := by
  obtain ⟨a1, a2, a3, a4, a5, a6, a7⟩ := h.off
  refine ⟨footE g cv ev wv Ff' FS FI, ⟨cv, ev, wv, Ff', FS, FI, ⟨h.blk.touch t (a1 g (by simp)).1, row_touch h.code t (fun x hx => (a2 x hx).2.1), row_touch h.ends t (fun x hx => (a3 x hx).2.1), row_touch h.words t (fun x hx => (a4 x hx).2.1), hf, State_touch h.st t (fun x hx => (a6 x hx).2.1), h.inp.touch t (fun x hx => (a7 x hx).2.1), ?_⟩, rfl⟩, t.mono (fun x hx => .inl (foot_mem.2 (by simp [hx]))), ?_⟩
  · exact Apart.turn (r := [[g], rowOf cv, rowOf ev, rowOf wv]) h.apart (fun x hx => s x hx) (fun B hB x hx => h.lt B (by simp at hB; rcases hB with e | e | e | e | e | e <;> simp [e]) x hx)
  · intro x hx
    rw [foot_mem] at hx ⊢
    rcases hx with e | e | e | e | e | e | e
    · simp [e]
    · simp [e]
    · simp [e]
    · simp [e]
    · rcases s x e with k | k
      · simp [k]
      · exact .inr k
    · simp [e]
    · simp [e]
/-- the state turns -/
theorem Lie.stt_ (h : Lie w g p cv ev wv Ff FS FI m) {FS' : List Nat} {S : PS} (hs : StateAt w' p.s FS' S) (t : Touch FS w w') (s : Sub w FS FS') : EngAt w' g p (footE g cv ev wv Ff FS' FI) { m with S := S } ∧ Touch (footE g cv ev wv Ff FS FI) w w' ∧ Sub w (footE g cv ev wv Ff FS FI) (footE g cv ev wv Ff FS' FI) := by
  obtain ⟨a1, a2, a3, a4, a5, a6, a7⟩ := h.off
  refine ⟨⟨cv, ev, wv, Ff, FS', FI, ⟨h.blk.touch t (a1 g (by simp)).2.1, row_touch h.code t (fun x hx => (a2 x hx).2.2.1), row_touch h.ends t (fun x hx => (a3 x hx).2.2.1), row_touch h.words t (fun x hx => (a4 x hx).2.2.1), h.fr.touch t (fun x hx => (a5 x hx).2.1), hs, h.inp.touch t (fun x hx => (a7 x hx).2.2), ?_⟩, rfl⟩, t.mono (fun x hx => .inl (foot_mem.2 (by simp [hx]))), ?_⟩
  · exact Apart.turn (r := [[g], rowOf cv, rowOf ev, rowOf wv, Ff]) h.apart (fun x hx => s x hx) (fun B hB x hx => h.lt B (by simp at hB; rcases hB with e | e | e | e | e | e <;> simp [e]) x hx)
  · intro x hx
    rw [foot_mem] at hx ⊢
    rcases hx with e | e | e | e | e | e | e
    · simp [e]
    · simp [e]
    · simp [e]
    · simp [e]
    · simp [e]
    · rcases s x e with k | k
      · simp [k]
      · exact .inr k
    · simp [e]
theorem Lie.stt (h : Lie w g p cv ev wv Ff FS FI m) {FS' : List Nat} {S : PS} (hs : StateAt w' p.s FS' S) (t : Touch FS w w') (s : Sub w FS FS') : Keep w g p (footE g cv ev wv Ff FS FI) { m with S := S } w' := ⟨_, h.stt_ hs t s⟩
/-- the input turns -/
theorem Lie.inpt (h : Lie w g p cv ev wv Ff FS FI m) {FI' : List Nat} {I : Ins} (hs : InAt w' p.i FI' I) (t : Touch FI w w') (s : Sub w FI FI') : Keep w g p (footE g cv ev wv Ff FS FI) { m with I := I } w' := by
  obtain ⟨a1, a2, a3, a4, a5, a6, a7⟩ := h.off
  refine ⟨footE g cv ev wv Ff FS FI', ⟨cv, ev, wv, Ff, FS, FI', ⟨h.blk.touch t (a1 g (by simp)).2.2, row_touch h.code t (fun x hx => (a2 x hx).2.2.2), row_touch h.ends t (fun x hx => (a3 x hx).2.2.2), row_touch h.words t (fun x hx => (a4 x hx).2.2.2), h.fr.touch t (fun x hx => (a5 x hx).2.2), State_touch h.st t (fun x hx => (a6 x hx).2.2), hs, ?_⟩, rfl⟩, t.mono (fun x hx => .inl (foot_mem.2 (by simp [hx]))), ?_⟩
  · exact Apart.turn (r := [[g], rowOf cv, rowOf ev, rowOf wv, Ff, FS]) h.apart (fun x hx => s x hx) (fun B hB x hx => h.lt B (by simp at hB; rcases hB with e | e | e | e | e | e <;> simp [e]) x hx)
  · intro x hx
    rw [foot_mem] at hx ⊢
    rcases hx with e | e | e | e | e | e | e
    · simp [e]
    · simp [e]
    · simp [e]
    · simp [e]
    · simp [e]
    · simp [e]
    · rcases s x e with k | k
      · simp [k]
      · exact .inr k
/-- the block turns -/
theorem Lie.own (h : Lie w g p cv ev wv Ff FS FI m) (d o n : Int) (hb : Blk w' g 85 (engCells p cv ev wv { m with df := d, on := o, nx := n })) (t : Touch [g] w w') : Keep w g p (footE g cv ev wv Ff FS FI) { m with df := d, on := o, nx := n } w' := by
  obtain ⟨a1, a2, a3, a4, a5, a6, a7⟩ := h.off
  exact ⟨footE g cv ev wv Ff FS FI, ⟨cv, ev, wv, Ff, FS, FI, ⟨hb, row_touch h.code t (fun x hx => (a2 x hx).1), row_touch h.ends t (fun x hx => (a3 x hx).1), row_touch h.words t (fun x hx => (a4 x hx).1), h.fr.touch t (fun x hx => (a5 x hx).1), State_touch h.st t (fun x hx => (a6 x hx).1), h.inp.touch t (fun x hx => (a7 x hx).1), h.apart⟩, rfl⟩, t.mono (fun x hx => .inl (foot_mem.2 (by simp at hx; simp [hx]))), Sub.refl _ _⟩
/-- the stack turns -/
theorem Lie.stk (h : Lie w g p cv ev wv Ff FS FI m) {FK FK' : List Nat} {ov mv : Value} {L : List Int} (hp : Parts w p.s FK ov mv m.S) (e : FS = foot p.s m.S FK ov mv) (hs : StackAt w' m.S.k FK' L) (t : Touch FK w w') (s : Sub w FK FK') : Keep w g p (footE g cv ev wv Ff FS FI) { m with S := { m.S with st := L } } w' := by
  subst e
  exact h.stt (S := { m.S with st := L }) ⟨FK', ov, mv, hp.stack hs t, rfl⟩ (t.mono (fun x hx => .inl (foot_has_stack x hx))) (foot_stack s)
theorem Keep.then {w2 : World} {m2 : M} (k : Keep w g p F m w') (k2 : ∀ F', EngAt w' g p F' m → Keep w' g p F' m2 w2) : Keep w g p F m2 w2 := by
  obtain ⟨F', h, t, s⟩ := k
  exact Keep.trans t s (k2 F' h)
theorem Keep.quiet {w2 : World} (k : Keep w g p F m w') (t2 : Touch [] w' w2) : Keep w g p F m w2 := k.then fun F' h => ⟨F', h.touch t2 (by simp), t2.mono (by simp), Sub.refl _ _⟩
theorem Keep.pre {w0 : World} (t : Touch [] w0 w) (k : Keep w g p F m' w') : Keep w0 g p F m' w' := Keep.trans (t.mono (by simp)) (Sub.refl _ _) k
end
/-- a status -/
abbrev stV (s : St) : Value := .agg #[.int .i64 s.1, .int .i64 s.2.1, .int .i64 s.2.2]
theorem PStack_cell (w : World) (s k : Nat) (c : w.cell? ⟨s, 1, none⟩ = some (.pointer (some ⟨k, 0, none⟩))) : Calls Tryz.prog 15 #[.pointer (some ⟨s, 0, none⟩)] w fun e w' => e = .returned (.pointer (some ⟨k, 0, none⟩)) ∧ w = w' := by
  go_enter Tryz.func15, Tryz.ntmps15
  go_wp2_with fail
  go_ret
  exact ⟨rfl, rfl⟩
end En
end Go.Proofs.YtdokeddjcpnmiaaGreatDoor

/- The engine's small functions: place, find, push, jump, named, call, leave. -/
namespace Go.Proofs.YtdokeddjcpnmiaaGreatDoor
open Go.RowKit
namespace En

set_option maxHeartbeats 1000000 in
theorem place_sem {w : World} {g : Nat} {p : Lay} {F : List Nat} {m : M} (h : EngAt w g p F m) (d o : Int) : Calls Tryz.prog 73 #[.pointer (some ⟨g, 0, none⟩), .int .i64 d, .int .i64 o] w fun e w' => e = .returned (.tuple #[]) ∧ Keep w g p F (m.place d o) w' := by
  obtain ⟨cv, ev, wv, Ff, FS, FI, h, rfl⟩ := h
  have c4 := h.blk.cell 4
  have f4 := h.blk.frozen 4
  have c5 := h.blk.cell 5
  have f5 := h.blk.frozen 5
  have HH := Lib.hid h
  clear h
  go_enter Tryz.func73, Tryz.ntmps73
  go_wp2_with fail
  go_end0
  exact ⟨rfl, HH.out.own d o m.nx ((HH.out.blk.set_ 4 _).set_ 5 _) (((Touch.refl [g] w).setCell (by simp) _).setCell (by simp) _)⟩
theorem words_len (L : List (Int × Int × Int)) : (L.flatMap wdCells).length = L.length * 3 := by
  induction L with
  | nil => rfl
  | cons f r ih =>
    rw [List.flatMap_cons, List.length_append, ih]
    show 3 + r.length * 3 = (r.length + 1) * 3
    omega
theorem words_at (L : List (Int × Int × Int)) (m i : Nat) (f : Int × Int × Int) (h : L[m]? = some f) (hi : i < 3) : (L.flatMap wdCells)[m * 3 + i]? = (wdCells f)[i]? := by
  induction L generalizing m with
  | nil => simp at h
  | cons x r ih =>
    rw [List.flatMap_cons]
    cases m with
    | zero =>
      simp at h
      subst h
      rw [Nat.zero_mul, Nat.zero_add, List.getElem?_append_left (by show i < 3; exact hi)]
    | succ m =>
      rw [List.getElem?_append_right (by show 3 ≤ (m + 1) * 3 + i; omega)]
      rw [show (m + 1) * 3 + i - (wdCells x).length = m * 3 + i by show (m + 1) * 3 + i - 3 = _; omega]
      exact ih m (by simpa using h)
theorem word_cell {w : World} {g cap n : Nat} {L : List (Int × Int × Int)} (hr : w.ownsRow 0 35 3 (.slice (some ⟨g, 0, none⟩) n cap) n (L.flatMap wdCells)) {m : Nat} {f : Int × Int × Int} (h : L[m]? = some f) :
    w.cell? ⟨g, m * 3, none⟩ = some (.int .i64 f.1) ∧ w.cell? ⟨g, m * 3 + 1, none⟩ = some (.int .i64 f.2.1) ∧ w.cell? ⟨g, m * 3 + 2, none⟩ = some (.int .i64 f.2.2) := by
  have hc := hr.cells (g := g) rfl
  have key : ∀ i u, i < 3 → (wdCells f)[i]? = some u → w.cell? ⟨g, m * 3 + i, none⟩ = some u := fun i u hi hu => by
    have := hc (m * 3 + i) u (by rw [words_at L m i f h hi, hu])
    rw [add_off, Nat.zero_add] at this
    exact this
  exact ⟨key 0 _ (by decide) rfl, key 1 _ (by decide) rfl, key 2 _ (by decide) rfl⟩
/-- a word's place -/
def FoundW (w : World) (F : List Nat) (m : M) (xt : Int) (a : Option Addr) : Prop := match m.word xt with
  | none => a = none
  | some u => ∃ b i, a = some ⟨b, i * 3, none⟩ ∧ b ∈ F ∧ i = (xt - 1).toNat ∧ w.cell? ⟨b, i * 3, none⟩ = some (.int .i64 u.1) ∧ w.cell? ⟨b, i * 3 + 1, none⟩ = some (.int .i64 u.2.1) ∧ w.cell? ⟨b, i * 3 + 2, none⟩ = some (.int .i64 u.2.2)
set_option maxHeartbeats 2000000 in
theorem find_sem {w : World} {g : Nat} {p : Lay} {F : List Nat} {m : M} (h : EngAt w g p F m) (hl : m.words.length ≤ 1000000) (xt : Int) : Calls Tryz.prog 43 #[.pointer (some ⟨g, 0, none⟩), .int .i64 xt] w fun e w' => ∃ a, e = .returned (.pointer a) ∧ w = w' ∧ FoundW w F m xt a := by
  obtain ⟨cv, ev, wv, Ff, FS, FI, h, rfl⟩ := h
  have c2 := h.blk.cell 2
  have hw := h.words
  by_cases h1 : xt < 1
  · clear h hw c2
    go_enter Tryz.func43, Tryz.ntmps43
    go_wp2_with fail
    go_ret
    refine ⟨_, rfl, rfl, ?_⟩
    unfold FoundW M.word
    rw [if_pos h1]
  · obtain ⟨n, hn⟩ : ∃ n, m.words.length = n := ⟨_, rfl⟩
    rw [hn] at hw hl
    by_cases h2 : xt > (n : Int)
    · have hnone : m.word xt = none := by
        unfold M.word
        rw [if_neg h1, List.getElem?_eq_none (by omega)]
      rcases Go.Joins.ownsRow_forms hw with ⟨rfl, h0⟩ | ⟨b, cap, rfl⟩
      all_goals
        clear h hw hn
        try subst h0
        go_enter Tryz.func43, Tryz.ntmps43
        go_wp2_with fail
        go_ret
        refine ⟨_, rfl, rfl, ?_⟩
        unfold FoundW
        rw [hnone]
    · rcases Go.Joins.ownsRow_forms hw with ⟨rfl, h0⟩ | ⟨b, cap, rfl⟩
      · omega
      · obtain ⟨i, rfl⟩ : ∃ i : Nat, xt = i + 1 := ⟨(xt - 1).toNat, by omega⟩
        have hi : i < n := by omega
        have hsome : m.word ((i : Int) + 1) = some (m.words[i]'(by omega)) := by
          unfold M.word
          rw [if_neg h1, show ((i : Int) + 1 - 1).toNat = i by omega, List.getElem?_eq_getElem]
        obtain ⟨k0, k1, k2⟩ := word_cell hw (List.getElem?_eq_getElem (by omega) : m.words[i]? = some (m.words[i]'(by omega)))
        obtain ⟨u, hu⟩ : ∃ u, m.words[i]'(by omega) = u := ⟨_, rfl⟩
        rw [hu] at k0 k1 k2 hsome
        have e1 : IntKind.i64.wrap (i : Int) = i := by rw [IntKind.wrap_i64]; omega
        have e2 : (i : Int) < (n : Int) := by omega
        have e3 : ¬ (i : Int) + 1 > (n : Int) := by omega
        have HM := Lib.hid (foot_mem (x := b) (g := g) (cv := cv) (ev := ev) (wv := .slice (some ⟨b, 0, none⟩) n cap) (Ff := Ff) (FS := FS) (FI := FI))
        clear h hw hn hu
        go_enter Tryz.func43, Tryz.ntmps43
        go_wp2_with fail
        go_ret
        refine ⟨_, rfl, rfl, ?_⟩
        unfold FoundW
        rw [hsome]
        exact ⟨b, i, rfl, HM.out.2 (by simp [rowOf]), by omega, k0, k1, k2⟩
set_option maxHeartbeats 1000000 in
theorem push_sem {w : World} {g : Nat} {p : Lay} {F : List Nat} {m : M} (h : EngAt w g p F m) (hst : m.S.st.length ≤ 128) (x : Int) : Calls Tryz.prog 66 #[.pointer (some ⟨g, 0, none⟩), .int .i64 x] w fun e w' => e = .returned (.int .i64 (m.push x).1) ∧ Keep w g p F (m.push x).2 w' := by
  obtain ⟨cv, ev, wv, Ff, FS, FI, h, rfl⟩ := h
  have c7 := h.blk.cell 7
  obtain ⟨FK, ov, mv, hp, e⟩ := h.st
  have hK := PStack_cell w p.s m.S.k (hp.blk.cell 1)
  have HH := Lib.hid (And.intro h (And.intro hp e))
  rcases Nat.lt_or_ge m.S.st.length 128 with hlt | hge
  · have hP := Push_ok w _ _ _ hp.stk hlt x
    clear h hp
    go_enter Tryz.func66, Tryz.ntmps66
    go_wp2_with fail
    refine hK.mono ?_
    rintro _ _ ⟨rfl, rfl⟩
    clear hK
    go_wp2_with fail
    refine hP.mono ?_
    rintro _ w1 ⟨F', rfl, hs, t1, hsub⟩
    go_wp2_with fail
    go_ret
    have e1 : pushS m.S x = (0, { m.S with st := m.S.st ++ [x] }) := if_pos hlt
    unfold M.push
    rw [e1]
    exact ⟨rfl, HH.out.1.stk HH.out.2.1 HH.out.2.2 hs t1 hsub⟩
  · have hP := Push_over w _ _ _ hp.stk (by omega) x
    clear h hp
    go_enter Tryz.func66, Tryz.ntmps66
    go_wp2_with fail
    refine hK.mono ?_
    rintro _ _ ⟨rfl, rfl⟩
    clear hK
    go_wp2_with fail
    refine hP.mono ?_
    rintro _ w1 ⟨rfl, t1⟩
    go_wp2_with fail
    go_ret
    have e1 : pushS m.S x = (-3, m.S) := if_neg (by omega)
    unfold M.push
    rw [e1]
    exact ⟨rfl, (Keep.refl ⟨_, _, _, _, _, _, HH.out.1, rfl⟩).quiet t1⟩
set_option maxHeartbeats 1000000 in
theorem jump_sem {w : World} {g : Nat} {p : Lay} {F : List Nat} {m : M} (h : EngAt w g p F m) (is_ : Bool) (tgt : Int) : Calls Tryz.prog 80 #[.pointer (some ⟨g, 0, none⟩), .bool is_, .int .i64 tgt] w fun e w' => e = .returned (.int .i64 (m.jump is_ tgt).1) ∧ Keep w g p F (m.jump is_ tgt).2 w' := by
  obtain ⟨cv, ev, wv, Ff, FS, FI, h, rfl⟩ := h
  have c5 := h.blk.cell 5
  have f5 := h.blk.frozen 5
  have HH := Lib.hid h
  clear h
  cases is_
  · go_enter Tryz.func80, Tryz.ntmps80
    go_wp2_with fail
    go_ret
    exact ⟨rfl, Keep.refl ⟨_, _, _, _, _, _, HH.out, rfl⟩⟩
  · go_enter Tryz.func80, Tryz.ntmps80
    go_wp2_with fail
    go_ret
    exact ⟨rfl, HH.out.own m.df tgt m.nx (HH.out.blk.set_ 5 _) ((Touch.refl [g] w).setCell (by simp) _)⟩
end En
end Go.Proofs.YtdokeddjcpnmiaaGreatDoor

/- The engine's named, call, leave. -/
namespace Go.Proofs.YtdokeddjcpnmiaaGreatDoor
open Go.RowKit
namespace En

set_option maxHeartbeats 1000000 in
theorem named_sem {w : World} {g : Nat} {p : Lay} {F : List Nat} {m : M} (h : EngAt w g p F m) (hl : m.words.length ≤ 1000000) (x : Int) : Calls Tryz.prog 139 #[.pointer (some ⟨g, 0, none⟩), .int .i64 x] w fun e w' => e = .returned (.int .i64 (m.named x).1) ∧ Keep w g p F (m.named x).2 w' := by
  have hF := find_sem h hl x
  have hE := h
  obtain ⟨cv, ev, wv, Ff, FS, FI, h, rfl⟩ := h
  have c6 := h.blk.cell 6
  have f6 := h.blk.frozen 6
  have HH := Lib.hid (And.intro h hE)
  clear h hE
  cases hw : m.word x with
  | none =>
    unfold M.named
    rw [hw]
    unfold FoundW at hF
    rw [hw] at hF
    go_enter Tryz.func139, Tryz.ntmps139
    go_wp2_with fail
    refine hF.mono ?_
    rintro _ _ ⟨_, rfl, rfl, rfl⟩
    clear hF
    go_wp2_with fail
    go_ret
    exact ⟨rfl, Keep.refl HH.out.2⟩
  | some u =>
    unfold M.named
    rw [hw]
    unfold FoundW at hF
    rw [hw] at hF
    go_enter Tryz.func139, Tryz.ntmps139
    go_wp2_with fail
    refine hF.mono ?_
    rintro _ _ ⟨_, rfl, rfl, b, i, rfl, _⟩
    clear hF
    go_wp2_with fail
    go_ret
    exact ⟨rfl, HH.out.1.own m.df m.on x (HH.out.1.blk.set_ 6 _) ((Touch.refl [g] w).setCell (by simp) _)⟩
theorem pushLoc_sem {w : World} {g : Nat} {p : Lay} {cv ev wv : Value} {Ff FS FI : List Nat} {m : M} (h : Lie w g p cv ev wv Ff FS FI m) (f : Fr) (v : Value) (hk : f.k = 4) (hl : f.l.length ≤ 1000) (W : World) (t : Touch [] w W) (hr : LocIn W v f.l) :
    Calls Tryz.prog 18 #[.pointer (some ⟨p.f, 0, none⟩), .agg #[.int .i64 f.k, .int .i64 f.a, .int .i64 f.b, .int .i64 f.x, .int .i64 f.y, v]] W fun e w' => e = .returned (.int .i64 (m.pushFr f).1) ∧ Keep w g p (footE g cv ev wv Ff FS FI) (m.pushFr f).2 w' := by
  have hfr := h.fr.touch t (by simp)
  rcases Nat.lt_or_ge m.fr.length 128 with hlt | hge
  · refine (FPush_loc W p.f Ff m.fr hfr hlt f v hk hl hr).mono ?_
    rintro e w' ⟨rfl, F', h2, t2, s2⟩
    have e1 : m.pushFr f = (0, { m with fr := m.fr ++ [f] }) := if_pos hlt
    rw [e1]
    exact ⟨rfl, h.frs h2 ((t.mono (by simp)).trans t2 (fun x hx => .inl hx)) (fun x hx => (s2 x hx).imp id (Nat.le_trans t.size))⟩
  · refine (FPush_deepG W p.f Ff m.fr hfr hge f v (by obtain ⟨a, c, e⟩ := hr.form; exact ⟨_, _, _, e⟩)).mono ?_
    rintro e w' ⟨rfl, t2⟩
    have e1 : m.pushFr f = (-5, m) := if_neg (by omega)
    rw [e1]
    exact ⟨rfl, ((Keep.refl (w := w) ⟨cv, ev, wv, Ff, FS, FI, h, rfl⟩).quiet t).quiet t2⟩
theorem pushFr_sem {w : World} {g : Nat} {p : Lay} {cv ev wv : Value} {Ff FS FI : List Nat} {m : M} (h : Lie w g p cv ev wv Ff FS FI m) (f : Fr) (hf : f.l = []) (W : World) (t : Touch [] w W) :
    Calls Tryz.prog 18 #[.pointer (some ⟨p.f, 0, none⟩), .agg (frA f)] W fun e w' => e = .returned (.int .i64 (m.pushFr f).1) ∧ Keep w g p (footE g cv ev wv Ff FS FI) (m.pushFr f).2 w' := by
  obtain ⟨F1, hE, t1, s1⟩ := (Keep.refl (w := w) ⟨cv, ev, wv, Ff, FS, FI, h, rfl⟩ : Keep w g p _ m w).quiet t
  have hfr := h.fr.touch t (by simp)
  rcases Nat.lt_or_ge m.fr.length 128 with hlt | hge
  · refine (FPush_ok W p.f Ff m.fr hfr hlt f hf).mono ?_
    rintro e w' ⟨rfl, F', h2, t2, s2⟩
    have e1 : m.pushFr f = (0, { m with fr := m.fr ++ [f] }) := if_pos hlt
    rw [e1]
    exact ⟨rfl, h.frs h2 ((t.mono (by simp)).trans t2 (fun x hx => .inl hx)) (fun x hx => (s2 x hx).imp id (Nat.le_trans t.size))⟩
  · refine (FPush_deep W p.f Ff m.fr hfr hge f).mono ?_
    rintro e w' ⟨rfl, t2⟩
    have e1 : m.pushFr f = (-5, m) := if_neg (by omega)
    rw [e1]
    exact ⟨rfl, ((Keep.refl (w := w) ⟨cv, ev, wv, Ff, FS, FI, h, rfl⟩).quiet t).quiet t2⟩
set_option maxRecDepth 100000 in
set_option maxHeartbeats 1600000 in
theorem call_sem {w : World} {g : Nat} {p : Lay} {F : List Nat} {m : M} (h : EngAt w g p F m) (n : Int) : Calls Tryz.prog 65 #[.pointer (some ⟨g, 0, none⟩), .int .i64 n] w fun e w' => e = .returned (.int .i64 (m.call n).1) ∧ Keep w g p F (m.call n).2 w' := by
  have hE := h
  obtain ⟨cv, ev, wv, Ff, FS, FI, h, rfl⟩ := h
  have c1 := h.blk.cell 1
  have c3 := h.blk.cell 3
  have c4 := h.blk.cell 4
  have c5 := h.blk.cell 5
  obtain ⟨ea, ec, hev⟩ := row_value h.ends
  rw [hev] at c1
  clear hev
  obtain ⟨len, hlen⟩ : ∃ len, m.ends.length = len := ⟨_, rfl⟩
  rw [hlen] at c1
  have hP := fun W t => pushFr_sem h ⟨1, m.df, m.on, 0, 0, []⟩ rfl W t
  have HE := Lib.hid hE
  unfold M.call
  rw [hlen]
  clear h hE
  by_cases h1 : n < 1
  · rw [if_pos (.inl h1)]
    go_enter Tryz.func65, Tryz.ntmps65
    go_wp2_with fail
    go_ret
    exact ⟨rfl, Keep.refl HE.out⟩
  by_cases h2 : n > (len : Int)
  · rw [if_pos (.inr h2)]
    go_enter Tryz.func65, Tryz.ntmps65
    go_wp2_with fail
    go_ret
    exact ⟨rfl, Keep.refl HE.out⟩
  rw [if_neg (by omega)]
  unfold frA at hP
  obtain ⟨r, hr⟩ : ∃ r, m.pushFr ⟨1, m.df, m.on, 0, 0, []⟩ = r := ⟨_, rfl⟩
  rw [hr] at hP ⊢
  dsimp only at hP ⊢
  obtain ⟨r1, r2⟩ := r
  dsimp only at hP ⊢
  have HC := Lib.hid (fun (W : World) F1 (hW : EngAt W g p F1 r2) => place_sem hW n 0)
  clear hr
  by_cases h0 : r1 = 0
  · rw [if_pos h0]
    subst h0
    go_enter Tryz.func65, Tryz.ntmps65
    go_wp2_with fail
    go_region_law (first | (go_simp; go_at_call 18; refine (hP _ ((Touch.refl [] w).drew)).mono ?_; rintro _ w5 ⟨rfl, hk⟩; have HK := Lib.hid hk; clear hk))
    all_goals obtain ⟨F1, k1, k2, k3⟩ := HK.out
    all_goals have hC := HC.out _ _ k1
    all_goals clear c1 c3 c4 c5
    all_goals go_wp2_with fail
    all_goals refine hC.mono ?_
    all_goals rintro _ w6 ⟨rfl, hk6⟩
    all_goals go_wp2_with fail
    all_goals go_ret
    all_goals exact ⟨rfl, Keep.trans k2 k3 hk6⟩
  · rw [if_neg h0]
    have h0' : (r1 == 0) = false := by simpa using h0
    go_enter Tryz.func65, Tryz.ntmps65
    go_wp2_with fail
    go_region_law (first | (go_simp; go_at_call 18; refine (hP _ ((Touch.refl [] w).drew)).mono ?_; rintro _ w5 ⟨rfl, hk⟩; have HK := Lib.hid hk; clear hk))
    all_goals go_wp2_with fail
    all_goals go_ret
    all_goals exact ⟨rfl, HK.out⟩
set_option maxHeartbeats 1000000 in
theorem leave_sem {w : World} {g : Nat} {p : Lay} {F : List Nat} {m : M} (h : EngAt w g p F m) (hfr : m.fr.length ≤ 128) : Calls Tryz.prog 112 #[.pointer (some ⟨g, 0, none⟩)] w fun e w' => e = .returned (.int .i64 (m.leave).1) ∧ Keep w g p F (m.leave).2 w' := by
  have hE := h
  obtain ⟨cv, ev, wv, Ff, FS, FI, h, rfl⟩ := h
  have c3 := h.blk.cell 3
  by_cases hk : m.fr ≠ [] ∧ (topF m.fr).k = 3
  · obtain ⟨Q, f, hQ⟩ : ∃ Q f, m.fr = Q ++ [f] := ⟨m.fr.dropLast, m.fr.getLast hk.1, (List.dropLast_concat_getLast hk.1).symm⟩
    have hfk : f.k = 3 := by rw [← topF_snoc Q f, ← hQ]; exact hk.2
    have hP := FPop_yes w p.f Ff Q f (hQ ▸ h.fr) (by have := congrArg List.length hQ; simp at this; omega) (by rw [hfk]; decide)
    rw [hfk] at hP
    have e1 : m.leave = (0, { m with fr := Q }) := by
      unfold M.leave M.pop
      rw [if_pos hk, hQ, drop_app1]
    rw [e1]
    have HH := Lib.hid h
    clear h hE
    unfold frA at hP
    go_enter Tryz.func112, Tryz.ntmps112
    go_wp2_with fail
    refine hP.mono ?_
    rintro _ w1 ⟨rfl, h1, t1⟩
    have HT := Lib.hid (HH.out.frs h1 t1 (Sub.refl _ _))
    clear hP h1 t1
    go_wp2_with fail
    go_ret
    exact ⟨rfl, HT.out.quiet ((Touch.refl [] _).alloc _)⟩
  · have hP := FPop_no w p.f Ff m.fr h.fr (by omega) 3 (by by_cases h0 : m.fr = []; exact .inl h0; exact .inr fun h3 => hk ⟨h0, h3⟩)
    have e1 : m.leave = (-26, m) := by
      unfold M.leave M.pop
      rw [if_neg hk]
    rw [e1]
    have HH := Lib.hid hE
    clear h hE
    unfold frA Fr.none at hP
    go_enter Tryz.func112, Tryz.ntmps112
    go_wp2_with fail
    refine hP.mono ?_
    rintro _ w1 ⟨rfl, t1⟩
    have HT := Lib.hid ((Keep.refl HH.out).quiet t1)
    clear hP t1
    go_wp2_with fail
    go_ret
    exact ⟨rfl, HT.out.quiet ((Touch.refl [] _).alloc _)⟩
end En
end Go.Proofs.YtdokeddjcpnmiaaGreatDoor

/- What a call on one part of the engine leaves. -/
namespace Go.Proofs.YtdokeddjcpnmiaaGreatDoor
open Go.RowKit
namespace En

section
variable {w w' : World} {g : Nat} {p : Lay} {F : List Nat} {m : M}
theorem Keep.blk {z : Nat} {t : TypeId} {cs : Array Value} (k : Keep w g p F m w') (h : Blk w z t cs) (hz : z ∉ F) : Blk w' z t cs := by
  obtain ⟨F', _, t2, _⟩ := k
  exact h.touch t2 hz
theorem Keep.finish {W0 W W' : World} {G : List Nat} (t0 : Touch [] w W0) (k : Keep W0 g p F m W) (hG : ∀ z ∈ G, w.heap.size ≤ z ∧ z < W0.heap.size) (hF : ∀ f ∈ F, f < w.heap.size) (t : Touch G W W') : Keep w g p F m W' := by
  obtain ⟨F', h, t2, s⟩ := k
  refine ⟨F', h.touch t (fun x hx hg => ?_), ((t0.mono (by simp)).trans t2 (fun x hx => .inl hx)).trans t (fun x hx => .inr (hG x hx).1), fun x hx => (s x hx).imp id (Nat.le_trans t0.size)⟩
  obtain ⟨h1, h2⟩ := hG x hg
  rcases s x hx with e | e
  · have := hF x e; omega
  · omega
/-- what its block, and the state's, hold -/
theorem EngAt.view (h : EngAt w g p F m) : (∃ cv ev wv, Blk w g 85 (engCells p cv ev wv m) ∧ (∃ a c, cv = .slice a m.code.length c) ∧ (∃ a c, ev = .slice a m.ends.length c) ∧ ∃ a c, wv = .slice a m.words.length c) ∧ w.cell? ⟨p.s, 1, none⟩ = some (.pointer (some ⟨m.S.k, 0, none⟩)) := by
  obtain ⟨cv, ev, wv, Ff, FS, FI, h, rfl⟩ := h
  obtain ⟨FK, ov, mv, hp, e⟩ := h.st
  refine ⟨⟨cv, ev, wv, h.blk, row_value h.code, row_value h.ends, ?_⟩, hp.blk.cell 1⟩
  rcases Go.Joins.ownsRow_forms h.words with ⟨h1, h0⟩ | ⟨g, cap, h1⟩
  · exact ⟨none, 0, by rw [h1, h0]⟩
  · exact ⟨_, _, h1⟩
theorem Keep.open {W0 : World} (k : Keep W0 g p F m w) : ∃ F', EngAt w g p F' m ∧ Hid (∀ m2 W2, Keep w g p F' m2 W2 → Keep W0 g p F m2 W2) := by
  obtain ⟨F', h, t, s⟩ := k
  exact ⟨F', h, Lib.hid fun m2 W2 k2 => Keep.trans t s k2⟩
theorem EngAt.c3 (h : EngAt w g p F m) : w.cell? ⟨g, 3, none⟩ = some (.pointer (some ⟨p.f, 0, none⟩)) := by obtain ⟨⟨_, _, _, b, _⟩, _⟩ := h.view; exact b.cell 3
theorem EngAt.c4 (h : EngAt w g p F m) : w.cell? ⟨g, 4, none⟩ = some (.int .i64 m.df) := by obtain ⟨⟨_, _, _, b, _⟩, _⟩ := h.view; exact b.cell 4
theorem EngAt.c5 (h : EngAt w g p F m) : w.cell? ⟨g, 5, none⟩ = some (.int .i64 m.on) := by obtain ⟨⟨_, _, _, b, _⟩, _⟩ := h.view; exact b.cell 5
theorem EngAt.c6 (h : EngAt w g p F m) : w.cell? ⟨g, 6, none⟩ = some (.int .i64 m.nx) := by obtain ⟨⟨_, _, _, b, _⟩, _⟩ := h.view; exact b.cell 6
theorem EngAt.c7 (h : EngAt w g p F m) : w.cell? ⟨g, 7, none⟩ = some (.pointer (some ⟨p.s, 0, none⟩)) := by obtain ⟨⟨_, _, _, b, _⟩, _⟩ := h.view; exact b.cell 7
theorem EngAt.c8 (h : EngAt w g p F m) : w.cell? ⟨g, 8, none⟩ = some (.pointer (some ⟨p.i, 0, none⟩)) := by obtain ⟨⟨_, _, _, b, _⟩, _⟩ := h.view; exact b.cell 8
theorem EngAt.z (h : EngAt w g p F m) (i : Nat) : w.frozen? ⟨g, i, none⟩ = false := by obtain ⟨⟨_, _, _, b, _⟩, _⟩ := h.view; exact b.frozen i
theorem EngAt.own_mem (h : EngAt w g p F m) : g ∈ F := by obtain ⟨_, _, _, _, _, _, hh, rfl⟩ := h; exact foot_mem.2 (.inl rfl)
theorem EngAt.stack_of (h : EngAt w g p F m) : Calls Tryz.prog 15 #[.pointer (some ⟨p.s, 0, none⟩)] w fun e w' => e = .returned (.pointer (some ⟨m.S.k, 0, none⟩)) ∧ w = w' := PStack_cell w p.s m.S.k h.view.2
theorem EngAt.setNext (h : EngAt w g p F m) (n : Int) : Keep w g p F { m with nx := n } (w.setCell ⟨g, 6, none⟩ (.int .i64 n)) := by
  obtain ⟨cv, ev, wv, Ff, FS, FI, h, rfl⟩ := h
  exact h.own m.df m.on n (h.blk.set_ 6 _) ((Touch.refl [g] w).setCell (by simp) _)
theorem EngAt.setOn (h : EngAt w g p F m) (n : Int) : Keep w g p F { m with on := n } (w.setCell ⟨g, 5, none⟩ (.int .i64 n)) := by
  obtain ⟨cv, ev, wv, Ff, FS, FI, h, rfl⟩ := h
  exact h.own m.df n m.nx (h.blk.set_ 5 _) ((Touch.refl [g] w).setCell (by simp) _)
theorem frCut_eng (h : EngAt w g p F m) (hfr : m.fr.length ≤ 128) (i : Int) : Calls Tryz.prog 77 #[.pointer (some ⟨p.f, 0, none⟩), .int .i64 i] w fun e w' => e = .returned (.tuple #[]) ∧ Keep w g p F { m with fr := m.fr.take i.toNat } w' := by
  obtain ⟨cv, ev, wv, Ff, FS, FI, h, rfl⟩ := h
  refine (FCut_any w p.f Ff m.fr h.fr (by omega) i).mono ?_
  rintro e w' ⟨rfl, h1, t1⟩
  exact ⟨rfl, h.frs h1 t1 (Sub.refl _ _)⟩
theorem catch_eng (h : EngAt w g p F m) (hfr : m.fr.length ≤ 128) (R : Fr) (ok : Bool) (L' : List Fr) (hR : (ok = true ∧ catchF m.fr = some (R, L')) ∨ (ok = false ∧ catchF m.fr = none ∧ R = Fr.none ∧ L' = m.fr)) : Calls Tryz.prog 75 #[.pointer (some ⟨p.f, 0, none⟩)] w fun e w' => e = .returned (.tuple #[.agg (frA R), .bool ok]) ∧ Keep w g p F { m with fr := L' } w' := by
  obtain ⟨cv, ev, wv, Ff, FS, FI, h, rfl⟩ := h
  refine (FCatch_any w p.f Ff m.fr h.fr (by omega) R ok L' hR).mono ?_
  rintro e w' ⟨rfl, h1, t1⟩
  exact ⟨rfl, h.frs h1 t1 (Sub.refl _ _)⟩
theorem stCut_eng (h : EngAt w g p F m) (i : Int) : Calls Tryz.prog 76 #[.pointer (some ⟨m.S.k, 0, none⟩), .int .i64 i] w fun e w' => e = .returned (.tuple #[]) ∧ Keep w g p F { m with S := { m.S with st := stCut i m.S.st } } w' := by
  obtain ⟨cv, ev, wv, Ff, FS, FI, h, rfl⟩ := h
  obtain ⟨FK, ov, mv, hp, e⟩ := h.st
  obtain ⟨n, hn⟩ : ∃ n : Nat, min (max i 0) 128 = (n : Int) := ⟨(min (max i 0) 128).toNat, by omega⟩
  refine (StkCut_any w _ _ _ hp.stk i n hn).mono ?_
  rintro _ w' ⟨rfl, F', h1, t1, s1⟩
  have e2 : stackCut n m.S.st = stCut i m.S.st := by
    unfold stackCut stCut
    rw [hn]
    rfl
  rw [e2] at h1
  exact ⟨rfl, h.stk hp e h1 t1 s1⟩
theorem stPush_eng (h : EngAt w g p F m) (hst : m.S.st.length ≤ 128) (x : Int) : Calls Tryz.prog 33 #[.pointer (some ⟨m.S.k, 0, none⟩), .int .i64 x] w fun e w' => e = .returned (.int .i64 (m.push x).1) ∧ Keep w g p F (m.push x).2 w' := by
  have hE := h
  obtain ⟨cv, ev, wv, Ff, FS, FI, h, rfl⟩ := h
  obtain ⟨FK, ov, mv, hp, e⟩ := h.st
  rcases Nat.lt_or_ge m.S.st.length 128 with hlt | hge
  · refine (Push_ok w _ _ _ hp.stk hlt x).mono ?_
    rintro _ w1 ⟨F', rfl, hs, t1, hsub⟩
    have e1 : pushS m.S x = (0, { m.S with st := m.S.st ++ [x] }) := if_pos hlt
    unfold M.push
    rw [e1]
    exact ⟨rfl, h.stk hp e hs t1 hsub⟩
  · refine (Push_over w _ _ _ hp.stk (by omega) x).mono ?_
    rintro _ w1 ⟨rfl, t1⟩
    have e1 : pushS m.S x = (-3, m.S) := if_neg (by omega)
    unfold M.push
    rw [e1]
    exact ⟨rfl, (Keep.refl hE).quiet t1⟩
theorem stDepth_eng (h : EngAt w g p F m) : Calls Tryz.prog 23 #[.pointer (some ⟨m.S.k, 0, none⟩)] w fun e w' => e = .returned (.int .i64 m.S.st.length) ∧ w = w' := by
  obtain ⟨cv, ev, wv, Ff, FS, FI, h, rfl⟩ := h
  obtain ⟨FK, ov, mv, hp, e⟩ := h.st
  exact Depth_any w _ _ _ hp.stk
theorem inCut_eng (h : EngAt w g p F m) (hd : m.I.outer.length ≤ 8) (i : Int) : Calls Tryz.prog 78 #[.pointer (some ⟨p.i, 0, none⟩), .int .i64 i] w fun e w' => e = .returned (.tuple #[]) ∧ Keep w g p F { m with I := m.I.cutAll i.toNat } w' := by
  obtain ⟨cv, ev, wv, Ff, FS, FI, h, rfl⟩ := h
  refine (Cut_any w p.i FI m.I h.inp i hd).mono ?_
  rintro _ w' ⟨rfl, F', h1, t1, s1⟩
  exact ⟨rfl, h.inpt h1 t1 s1⟩
theorem inDepth_eng (h : EngAt w g p F m) : Calls Tryz.prog 36 #[.pointer (some ⟨p.i, 0, none⟩)] w fun e w' => e = .returned (.int .i64 m.I.outer.length) ∧ w = w' := by
  obtain ⟨cv, ev, wv, Ff, FS, FI, h, rfl⟩ := h
  exact SrcDepth_any w p.i FI m.I h.inp
theorem inIn_eng (h : EngAt w g p F m) : Calls Tryz.prog 35 #[.pointer (some ⟨p.i, 0, none⟩)] w fun e w' => e = .returned (.int .i64 m.I.cur.on) ∧ w = w' := by
  obtain ⟨cv, ev, wv, Ff, FS, FI, h, rfl⟩ := h
  exact In_any w p.i FI m.I h.inp
theorem inSeek_eng (h : EngAt w g p F m) (hm : m.I.cur.text.size ≤ 1000) (i : Int) : Calls Tryz.prog 79 #[.pointer (some ⟨p.i, 0, none⟩), .int .i64 i] w fun e w' => e = .returned (.tuple #[]) ∧ Keep w g p F { m with I := { m.I with cur := { m.I.cur with on := (max (min i m.I.cur.text.size) 0).toNat } } } w' := by
  obtain ⟨cv, ev, wv, Ff, FS, FI, h, rfl⟩ := h
  refine (Seek_any w p.i FI m.I h.inp i hm).mono ?_
  rintro _ w' ⟨rfl, F', h1, t1, s1⟩
  have e1 : heldAt m.I.cur.text i = (max (min i m.I.cur.text.size) 0).toNat := by unfold heldAt; omega
  rw [e1] at h1
  exact ⟨rfl, h.inpt h1 t1 s1⟩
theorem top_eng (h : EngAt w g p F m) (hfr : m.fr.length ≤ 128) : Calls Tryz.prog 21 #[.pointer (some ⟨p.f, 0, none⟩)] w fun e w' => (∃ a n c, e = .returned (.tuple #[.agg #[.int .i64 (topF m.fr).k, .int .i64 (topF m.fr).a, .int .i64 (topF m.fr).b, .int .i64 (topF m.fr).x, .int .i64 (topF m.fr).y, .slice a n c], .bool (decide (m.fr ≠ []))])) ∧ Touch [] w w' := by
  obtain ⟨cv, ev, wv, Ff, FS, FI, h, rfl⟩ := h
  by_cases h0 : m.fr = []
  · have hf := h.fr
    rw [h0] at hf
    refine (FTop_nil w p.f Ff hf).mono ?_
    rintro _ w' ⟨rfl, t⟩
    rw [h0]
    exact ⟨⟨none, 0, 0, rfl⟩, t⟩
  · obtain ⟨Q, f, hQ⟩ : ∃ Q f, m.fr = Q ++ [f] := ⟨m.fr.dropLast, m.fr.getLast h0, (List.dropLast_concat_getLast h0).symm⟩
    refine (FTop_any w p.f Ff Q f (hQ ▸ h.fr) (by have := congrArg List.length hQ; simp at this; omega)).mono ?_
    rintro _ w' ⟨⟨v, rfl, hv⟩, t⟩
    rw [hQ, topF_snoc]
    obtain ⟨a, c, e⟩ := hv.form
    dsimp only at e
    exact ⟨⟨a, f.l.length, c, by simp [e]⟩, t⟩
end
end En
end Go.Proofs.YtdokeddjcpnmiaaGreatDoor
