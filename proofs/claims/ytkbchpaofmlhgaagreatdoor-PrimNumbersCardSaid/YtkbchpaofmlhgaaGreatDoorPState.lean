/- prim's state: a stack, a memory, what was told, a number that is being made; where they lie. -/
import Derived.Test.YtkbchpaofmlhgaaGreatDoorMem2
import Derived.Test.YtkbchpaofmlhgaaGreatDoorPutAt
namespace Go.Proofs.YtkbchpaofmlhgaaGreatDoor
open Go.RowKit

structure PS where
  t : Nat
  k : Nat
  m : Nat
  g : Nat
  n : Nat
  st : List Int
  bs : List Int
  here : Nat
  out : List Int
  made : List Int

/-- a block is of a type -/
def TyAt (w : World) (b : Nat) (ty : TypeId) : Prop := ∃ cs fz, w.heap[b]? = some (.cells cs ty fz)
theorem TyAt.ne {w : World} {a b : Nat} {t u : TypeId} (h : TyAt w a t) (k : TyAt w b u) (hn : t ≠ u) : a ≠ b := by
  rintro rfl
  obtain ⟨_, _, e1⟩ := h
  obtain ⟨_, _, e2⟩ := k
  rw [e1] at e2
  injection e2 with e2
  injection e2 with _ e3 _
  exact hn e3
theorem Blk.ty {w : World} {b : Nat} {t : TypeId} {cs : Array Value} (h : Blk w b t cs) : TyAt w b t := ⟨_, _, h⟩
theorem row_ty {w : World} {base n s : Nat} {e : TypeId} {v : Value} {xs : List Value} (h : w.ownsRow base e s v n xs) : ∀ x ∈ rowOf v, TyAt w x e := by
  intro x hx
  rcases h.2 with ⟨rfl, _⟩ | ⟨g, cap, cur, rfl, _, hg, _⟩
  · simp [rowOf] at hx
  · simp [rowOf] at hx
    subst hx
    exact ⟨_, _, hg⟩
theorem stk_ty {w : World} {b : Nat} {F : List Nat} {L : List Int} (h : StackAt w b F L) : ∀ x ∈ F, TyAt w x 85 ∨ TyAt w x 36 := by
  obtain ⟨v, hb, rfl, _, hr⟩ := h
  intro x hx
  rcases List.mem_cons.1 hx with rfl | hx
  · exact .inl hb.ty
  · exact .inr (row_ty hr x hx)

def BRow (w : World) (v : Value) (l : List Int) : Prop := w.ownsRow 0 5 1 v l.length (bytesV l) ∧ Bytes l
structure Parts (w : World) (s : Nat) (FS : List Nat) (ov mv : Value) (S : PS) : Prop where
  blk : Blk w s 83 #[.pointer (some ⟨S.t, 0, none⟩), .pointer (some ⟨S.k, 0, none⟩), .pointer (some ⟨S.m, 0, none⟩), mv]
  tel : Blk w S.t 81 #[ov]
  stk : StackAt w S.k FS S.st
  mem : MemAt w S.m S.g S.n S.bs S.here
  out : BRow w ov S.out
  made : BRow w mv S.made
  go : S.g ∉ rowOf ov
  gm : S.g ∉ rowOf mv
  om : ∀ x ∈ rowOf ov, x ∉ rowOf mv
def foot (s : Nat) (S : PS) (FS : List Nat) (ov mv : Value) : List Nat := s :: S.t :: S.m :: S.g :: (FS ++ (rowOf ov ++ rowOf mv))
def StateAt (w : World) (s : Nat) (F : List Nat) (S : PS) : Prop := ∃ FS ov mv, Parts w s FS ov mv S ∧ F = foot s S FS ov mv
section
variable {w w' : World} {s : Nat} {FS : List Nat} {ov mv : Value} {S : PS}
theorem Parts.stk_apart (h : Parts w s FS ov mv S) : s ∉ FS ∧ S.t ∉ FS ∧ S.m ∉ FS ∧ S.g ∉ FS ∧ (∀ x ∈ rowOf ov, x ∉ FS) ∧ ∀ x ∈ rowOf mv, x ∉ FS := by
  have hk := stk_ty h.stk
  have key : ∀ a t, TyAt w a t → t ≠ 85 → t ≠ 36 → a ∉ FS := fun a t ha h1 h2 hf => by
    rcases hk a hf with h | h
    · exact ha.ne h h1 rfl
    · exact ha.ne h h2 rfl
  exact ⟨key _ _ h.blk.ty (by decide) (by decide), key _ _ h.tel.ty (by decide) (by decide), key _ _ h.mem.blk.ty (by decide) (by decide), key _ _ h.mem.row.ty (by decide) (by decide), fun x hx => key _ _ (row_ty h.out.1 x hx) (by decide) (by decide), fun x hx => key _ _ (row_ty h.made.1 x hx) (by decide) (by decide)⟩
theorem Parts.quiet {G : List Nat} (h : Parts w s FS ov mv S) (t : Touch G w w') (hn : ∀ x ∈ foot s S FS ov mv, x ∉ G) : Parts w' s FS ov mv S := by
  have hm : ∀ x, x ∈ foot s S FS ov mv ↔ x = s ∨ x = S.t ∨ x = S.m ∨ x = S.g ∨ x ∈ FS ∨ x ∈ rowOf ov ∨ x ∈ rowOf mv := by simp [foot]
  refine ⟨h.blk.touch t (hn _ ((hm _).2 (by simp))), h.tel.touch t (hn _ ((hm _).2 (by simp))), h.stk.touch t (fun f hf => hn _ ((hm _).2 (by simp [hf]))), h.mem.touch t (hn _ ((hm _).2 (by simp))) (hn _ ((hm _).2 (by simp))), ⟨row_touch h.out.1 t (fun x hx => hn _ ((hm _).2 (by simp [hx]))), h.out.2⟩, ⟨row_touch h.made.1 t (fun x hx => hn _ ((hm _).2 (by simp [hx]))), h.made.2⟩, h.go, h.gm, h.om⟩
theorem StateAt.quiet {F : List Nat} (h : StateAt w s F S) (t : Touch [] w w') : StateAt w' s F S := by
  obtain ⟨FS, ov, mv, h, rfl⟩ := h
  exact ⟨FS, ov, mv, h.quiet t (by simp), rfl⟩
/-- the stack turns -/
theorem Parts.stack {FS' : List Nat} {L : List Int} (h : Parts w s FS ov mv S) (hs : StackAt w' S.k FS' L) (t : Touch FS w w') : Parts w' s FS' ov mv { S with st := L } := by
  obtain ⟨a1, a2, a3, a4, a5, a6⟩ := h.stk_apart
  exact ⟨h.blk.touch t a1, h.tel.touch t a2, hs, h.mem.touch t a3 a4, ⟨row_touch h.out.1 t a5, h.out.2⟩, ⟨row_touch h.made.1 t a6, h.made.2⟩, h.go, h.gm, h.om⟩
theorem foot_stack {FS' : List Nat} {L : List Int} (hs : Sub w FS FS') : Sub w (foot s S FS ov mv) (foot s { S with st := L } FS' ov mv) := by
  intro f hf
  simp only [foot, List.mem_cons, List.mem_append] at hf ⊢
  rcases hf with h | h | h | h | h | h | h
  · exact .inl (.inl h)
  · exact .inl (.inr (.inl h))
  · exact .inl (.inr (.inr (.inl h)))
  · exact .inl (.inr (.inr (.inr (.inl h))))
  · rcases hs f h with h | h
    · exact .inl (.inr (.inr (.inr (.inr (.inl h)))))
    · exact .inr h
  · exact .inl (.inr (.inr (.inr (.inr (.inr (.inl h))))))
  · exact .inl (.inr (.inr (.inr (.inr (.inr (.inr h))))))
theorem foot_has_stack : ∀ x ∈ FS, x ∈ foot s S FS ov mv := fun x hx => by simp [foot, hx]
/-- the memory turns -/
theorem Parts.memory {bs' : List Int} {here' : Nat} (h : Parts w s FS ov mv S) (hm : MemAt w' S.m S.g S.n bs' here') (t : Touch [S.m, S.g] w w') : Parts w' s FS ov mv { S with bs := bs', here := here' } := by
  obtain ⟨a1, a2, a3, a4, a5, a6⟩ := h.stk_apart
  have key : ∀ a ty, TyAt w a ty → ty ≠ 114 → ty ≠ 5 → a ∉ [S.m, S.g] := fun a ty ha h1 h2 hf => by
    simp only [List.mem_cons, List.not_mem_nil, or_false] at hf
    rcases hf with rfl | rfl
    · exact ha.ne h.mem.blk.ty h1 rfl
    · exact ha.ne h.mem.row.ty h2 rfl
  have rw_ : ∀ v, (∀ x ∈ rowOf v, TyAt w x 5) → S.g ∉ rowOf v → ∀ x ∈ rowOf v, x ∉ [S.m, S.g] := fun v hv hg x hx hf => by
    simp only [List.mem_cons, List.not_mem_nil, or_false] at hf
    rcases hf with rfl | rfl
    · exact (hv _ hx).ne h.mem.blk.ty (by decide) rfl
    · exact hg hx
  exact ⟨h.blk.touch t (key _ _ h.blk.ty (by decide) (by decide)), h.tel.touch t (key _ _ h.tel.ty (by decide) (by decide)), h.stk.touch t (fun f hf hg => by
    simp only [List.mem_cons, List.not_mem_nil, or_false] at hg
    rcases hg with rfl | rfl
    · exact a3 hf
    · exact a4 hf), hm, ⟨row_touch h.out.1 t (rw_ ov (row_ty h.out.1) h.go), h.out.2⟩, ⟨row_touch h.made.1 t (rw_ mv (row_ty h.made.1) h.gm), h.made.2⟩, h.go, h.gm, h.om⟩
end

set_option maxHeartbeats 1000000 in
theorem PNew_ok (n : Nat) (h1 : 1024 ≤ n) (h2 : n ≤ 65536) (h3 : n % 8 = 0) (w : World) : Calls Tryz.prog 11 #[.int .i64 n] w fun e w' => ∃ s F S, e = .returned (.tuple #[.pointer (some ⟨s, 0, none⟩), .int .i64 0]) ∧ StateAt w' s F S ∧ (∀ x ∈ F, w.heap.size ≤ x) ∧ Touch [] w w' ∧ S.n = n ∧ S.st = [] ∧ S.bs = putF (List.replicate n 0) 0 10 8 ∧ S.here = 8 ∧ S.out = [] ∧ S.made = [] := by
  have hM := MNew_ok n h1 h2 h3 w
  have hS := fun W => New_any W
  go_enter Tryz.func11, Tryz.ntmps11
  go_wp2_with fail
  refine hM.mono ?_
  rintro _ w1 ⟨rfl, hm, t1⟩
  have hC := Comma_ok hm 10 (by decide) (by omega)
  have s1 := t1.size
  clear hM
  go_wp2_with fail
  refine hC.mono ?_
  rintro _ w2 ⟨rfl, hm, t2⟩
  clear hC
  go_upto_region 5 with fail
  have hmT := hm.touch ((Touch.refl [] w2).alloc (.cells #[.slice none 0 0] 81)) (by simp) (by simp)
  have bT := Blk.new w2 81 #[.slice none 0 0]
  have T2 := (t1.trans t2 (fun g hg => by simp only [List.mem_cons, List.not_mem_nil, or_false] at hg; omega)).alloc (.cells #[.slice none 0 0] 81)
  have s2 := T2.size
  have hS2 := hS (w2.alloc (.cells #[.slice none 0 0] 81))
  have z2 : w.heap.size + 2 ≤ w2.heap.size := by
    have h1 := hm.blk.lt
    have h2 := t2.size
    omega
  have sT : (w2.alloc (.cells #[.slice none 0 0] 81)).heap.size = w2.heap.size + 1 := by simp
  have HH := Lib.hid (And.intro hmT (And.intro bT (And.intro T2 (And.intro z2 sT))))
  clear hm hmT bT T2 t1 t2 s1 s2 hS z2 sT
  go_wp2_with fail
  refine hS2.mono ?_
  rintro _ w3 ⟨rfl, hk, t3⟩
  clear hS2
  obtain ⟨hmT, bT, T2, z2, sT⟩ := HH.out
  rw [sT] at hk
  have t4 := (Touch.refl [] w3).alloc (.cells #[.pointer (some ⟨w2.heap.size, 0, none⟩), .pointer (some ⟨w2.heap.size + 1, 0, none⟩), .pointer (some ⟨w.heap.size + 1, 0, none⟩), .slice none 0 0] 83)
  have bS := Blk.new w3 83 #[.pointer (some ⟨w2.heap.size, 0, none⟩), .pointer (some ⟨w2.heap.size + 1, 0, none⟩), .pointer (some ⟨w.heap.size + 1, 0, none⟩), .slice none 0 0]
  have t34 := t3.trans t4 (by simp)
  have z3 := t3.size
  have hfin : StateAt (w3.alloc (.cells #[.pointer (some ⟨w2.heap.size, 0, none⟩), .pointer (some ⟨w2.heap.size + 1, 0, none⟩), .pointer (some ⟨w.heap.size + 1, 0, none⟩), .slice none 0 0] 83)) w3.heap.size (foot w3.heap.size ⟨w2.heap.size, (w2.heap.size + 1), w.heap.size + 1, w.heap.size, n, [], putF (List.replicate n 0) 0 10 8, 8, [], []⟩ [w2.heap.size + 1] (.slice none 0 0) (.slice none 0 0)) ⟨w2.heap.size, (w2.heap.size + 1), w.heap.size + 1, w.heap.size, n, [], putF (List.replicate n 0) 0 10 8, 8, [], []⟩ :=
    ⟨_, _, _, ⟨bS, bT.touch t34 (by simp), hk.touch t4 (by simp), hmT.touch t34 (by simp) (by simp), ⟨World.ownsRow_nil _ _ _ _, by simp [Bytes]⟩, ⟨World.ownsRow_nil _ _ _ _, by simp [Bytes]⟩, by simp [rowOf], by simp [rowOf], by simp [rowOf]⟩, rfl⟩
  have hF : ∀ x ∈ foot w3.heap.size ⟨w2.heap.size, (w2.heap.size + 1), w.heap.size + 1, w.heap.size, n, [], putF (List.replicate n 0) 0 10 8, 8, [], []⟩ [w2.heap.size + 1] (.slice none 0 0) (.slice none 0 0), w.heap.size ≤ x := by
    intro x hx
    simp only [foot, rowOf, List.mem_cons, List.mem_append, List.not_mem_nil, or_false] at hx
    have h1 := t3.size
    have h2 := T2.size
    omega
  have HF := Lib.hid (And.intro hfin (And.intro hF (T2.trans t34 (by simp))))
  clear hfin hF t3 t4 t34 bS hk hmT bT T2 z2 z3
  go_wp2_with fail
  go_ret2
  exact ⟨_, _, _, rfl, HF.out.1, HF.out.2.1, HF.out.2.2, rfl, rfl, rfl, rfl, rfl, rfl⟩
end Go.Proofs.YtkbchpaofmlhgaaGreatDoor
