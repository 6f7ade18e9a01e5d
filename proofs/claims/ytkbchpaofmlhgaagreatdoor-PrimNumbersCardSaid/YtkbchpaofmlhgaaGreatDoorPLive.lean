/- A state of the law's own: what is done to it, step by step. -/
import Derived.Test.YtkbchpaofmlhgaaGreatDoorPShown
namespace Go.Proofs.YtkbchpaofmlhgaaGreatDoor
open Go.RowKit

/-- a state that was made behind a world -/
def Live (w0 w : World) (s : Nat) (S : PS) : Prop := ∃ F, StateAt w s F S ∧ (∀ x ∈ F, w0.heap.size ≤ x) ∧ Touch [] w0 w
section
variable {w0 w w' : World} {s : Nat} {S S' : PS}
theorem Live.t (h : Live w0 w s S) : Touch [] w0 w := by
  obtain ⟨_, _, _, h⟩ := h
  exact h
theorem Live.quiet (h : Live w0 w s S) (t : Touch [] w w') : Live w0 w' s S := by
  obtain ⟨F, h1, h2, h3⟩ := h
  exact ⟨F, h1.quiet t, h2, h3.trans t (by simp)⟩
theorem Live.next {F F' : List Nat} (h1 : StateAt w' s F' S') (hF : ∀ x ∈ F, w0.heap.size ≤ x) (h3 : Touch [] w0 w) (t : Touch F w w') (hs : Sub w F F') : Live w0 w' s S' :=
  ⟨F', h1, Sub.new hF hs h3.size, Sub.touch hF h3 t⟩
theorem live_new (w0 w : World) (t0 : Touch [] w0 w) : Calls Tryz.prog 11 #[.int .i64 1024] w fun e w' => ∃ s S, e = .returned (.tuple #[.pointer (some ⟨s, 0, none⟩), .int .i64 0]) ∧ Live w0 w' s S ∧ S.ok ∧ S.n = 1024 ∧ S.st = [] ∧ S.bs = bs0 ∧ S.here = 8 ∧ S.out = [] ∧ S.made = [] := by
  refine (New1024 w).mono ?_
  rintro _ w' ⟨s, F, S, rfl, h1, h2, h3, h4⟩
  exact ⟨s, S, rfl, ⟨F, h1, fun x hx => Nat.le_trans t0.size (h2 x hx), t0.trans h3 (by simp)⟩, h4⟩
theorem live_do {op : Int} {n : Nat} {pre : List Int → PS → Prop} {act : List Int → PS → (List Int × Int) × PS} (h : Live w0 w s S) (hsem : OpSem op n pre act) (h1 : 43 ≤ op) (h2 : op ≤ 107) (h3 : op < 61 ∨ 70 < op) (hn : n ≤ 4) (hok : S.ok) (hst : S.st.length ≤ 128)
    (hpre : n ≤ S.st.length → pre (S.st.drop (S.st.length - n)) { S with st := S.st.take (S.st.length - n) }) :
    Calls Tryz.prog 14 #[.pointer (some ⟨s, 0, none⟩), .int .i64 op] w fun e w' => e = .returned (.int .i64 (doP n act S).1) ∧ Live w0 w' s (doP n act S).2 := by
  obtain ⟨F, k1, k2, k3⟩ := h
  refine (Do_sem op n pre act hsem h1 h2 h3 hn w s F S k1 hok hst hpre).mono ?_
  rintro _ w' ⟨F', rfl, j1, j2, j3⟩
  exact ⟨rfl, Live.next j1 k2 k3 j2 j3⟩
theorem live_say (h : Live w0 w s S) (hl : S.out.length ≤ 4000) (x : ByteArray) :
    Calls Tryz.prog 36 #[.pointer (some ⟨s, 0, none⟩), .string x] w fun e w' => e = .returned (.tuple #[]) ∧ Live w0 w' s { S with out := sayL S.out x } := by
  obtain ⟨F, k1, k2, k3⟩ := h
  refine (PSay_any k1 hl x).mono ?_
  rintro _ w' ⟨F', rfl, j1, j2, j3⟩
  exact ⟨rfl, Live.next j1 k2 k3 j2 j3⟩
theorem live_out (h : Live w0 w s S) : Calls Tryz.prog 17 #[.pointer (some ⟨s, 0, none⟩)] w fun e w' => e = .returned (.string (strOfNums S.out)) ∧ w = w' := by
  obtain ⟨F, k1, _⟩ := h
  exact POut_any k1
theorem live_stack (h : Live w0 w s S) : Calls Tryz.prog 12 #[.pointer (some ⟨s, 0, none⟩)] w fun e w' => e = .returned (.pointer (some ⟨S.k, 0, none⟩)) ∧ w = w' := by
  obtain ⟨F, k1, _⟩ := h
  exact PStack_any k1
theorem live_mem (h : Live w0 w s S) : Calls Tryz.prog 31 #[.pointer (some ⟨s, 0, none⟩)] w fun e w' => e = .returned (.pointer (some ⟨S.m, 0, none⟩)) ∧ w = w' := by
  obtain ⟨F, k1, _⟩ := h
  exact PMem_any k1
/-- the stack turns -/
theorem Live.stack {FS' : List Nat} {L : List Int} {FS : List Nat} {ov mv : Value} (hp : Parts w s FS ov mv S) (hF : ∀ x ∈ foot s S FS ov mv, w0.heap.size ≤ x) (h3 : Touch [] w0 w) (hk : StackAt w' S.k FS' L) (t : Touch FS w w') (hs : Sub w FS FS') : Live w0 w' s { S with st := L } :=
  Live.next ⟨FS', ov, mv, hp.stack hk t, rfl⟩ hF h3 (t.mono (fun g hg => .inl (foot_has_stack g hg))) (foot_stack hs)
theorem live_push (h : Live w0 w s S) (hl : S.st.length < 128) (x : Int) : Calls Tryz.prog 35 #[.pointer (some ⟨S.k, 0, none⟩), .int .i64 x] w fun e w' => e = .returned (.int .i64 0) ∧ Live w0 w' s { S with st := S.st ++ [x] } := by
  obtain ⟨F, ⟨FS, ov, mv, hp, rfl⟩, k2, k3⟩ := h
  refine (Push_ok w S.k FS S.st hp.stk hl x).mono ?_
  rintro _ w' ⟨F', rfl, j1, j2, j3⟩
  exact ⟨rfl, Live.stack hp k2 k3 j1 j2 j3⟩
theorem live_put (h : Live w0 w s S) (cv : Value) (M : List Int) (hc : CellsAt w cv M) (hl : S.st.length + M.length ≤ 128) : Calls Tryz.prog 13 #[.pointer (some ⟨S.k, 0, none⟩), cv] w fun e w' => e = .returned (.int .i64 0) ∧ Live w0 w' s { S with st := S.st ++ M } := by
  obtain ⟨F, ⟨FS, ov, mv, hp, rfl⟩, k2, k3⟩ := h
  refine (Put_row w S.k FS S.st hp.stk cv M hc hl).mono ?_
  rintro _ w' ⟨F', rfl, j1, j2, j3⟩
  exact ⟨rfl, Live.stack hp k2 k3 j1 j2 j3⟩
theorem live_all (h : Live w0 w s S) (hl : S.st.length ≤ 128) : Calls Tryz.prog 15 #[.pointer (some ⟨S.k, 0, none⟩)] w fun e w' => ∃ v, e = .returned v ∧ CellsG w' v S.st ∧ w'.ownsRow w.heap.size 36 1 v S.st.length (cells S.st) ∧ Touch [] w w' := by
  obtain ⟨F, k1, _⟩ := h
  refine (PAll k1 hl).mono ?_
  rintro _ w' ⟨v, rfl, h1, h2⟩
  exact ⟨v, rfl, row_cellsG h1, h1, h2⟩
theorem live_cut (h : Live w0 w s S) : Calls Tryz.prog 23 #[.pointer (some ⟨S.k, 0, none⟩), .int .i64 0] w fun e w' => e = .returned (.tuple #[]) ∧ Live w0 w' s { S with st := [] } := by
  obtain ⟨F, ⟨FS, ov, mv, hp, rfl⟩, k2, k3⟩ := h
  refine (Cut_zero w S.k FS S.st hp.stk).mono ?_
  rintro _ w' ⟨rfl, j1, j2⟩
  exact ⟨rfl, Live.stack hp k2 k3 j1 j2 (Sub.refl _ _)⟩
theorem live_text (h : Live w0 w s S) (p k : Nat) (hk : p + k ≤ S.n) : Calls Tryz.prog 32 #[.pointer (some ⟨S.m, 0, none⟩), .int .i64 p, .int .i64 k] w fun e w' => e = .returned (.tuple #[.string (S.text p k), .int .i64 0]) ∧ Touch [] w w' := by
  obtain ⟨F, ⟨FS, ov, mv, hp, rfl⟩, k2, k3⟩ := h
  exact MText_ok hp.mem p k hk
theorem Live.len (h : Live w0 w s S) : S.bs.length = S.n ∧ S.n ≤ 65536 := by
  obtain ⟨F, ⟨FS, ov, mv, hp, rfl⟩, k2, k3⟩ := h
  exact ⟨hp.mem.len, hp.mem.small⟩
/-- a text is noted -/
theorem live_note (h : Live w0 w s S) (hn : S.n = 1024) (x : ByteArray) : Calls Tryz.prog 38 #[.pointer (some ⟨s, 0, none⟩), .string x] w fun e w' => e = .returned (.tuple #[.int .i64 768, .int .i64 (min x.size 256 : Nat)]) ∧ Live w0 w' s { S with bs := wrtL S.bs 768 (strL (x.extract 0 (min x.size 256))) } := by
  obtain ⟨F, ⟨FS, ov, mv, hp, rfl⟩, k2, k3⟩ := h
  have s2 := hp.blk.cell 2
  have hSz := Size_any hp.mem
  have hmin : min (x.size : Int) 256 = (min x.size 256 : Nat) := by omega
  have hle : min x.size 256 ≤ x.size := Nat.min_le_left _ _
  have hle2 : min x.size 256 ≤ 256 := Nat.min_le_right _ _
  obtain ⟨k, hk⟩ : ∃ k, min x.size 256 = k := ⟨_, rfl⟩
  rw [hk] at hmin hle hle2 ⊢
  have hks : (x.extract 0 k).size = k := by simp; omega
  have hW := fun w' (t : Touch [] w w') => MWrite_ok (hp.mem.touch t (by simp) (by simp)) 768 (x.extract 0 k) (by rw [hks]; omega)
  rw [hn] at hSz
  have HH := Lib.hid (And.intro hp (And.intro k2 k3))
  have HK := Lib.hid hks
  have e1 : IntKind.i64.wrap ((1024 : Int) - 256) = 768 := by decide
  clear hp k2 k3 hks hk
  go_enter Tryz.func38, Tryz.ntmps38
  go_wp2_with fail
  refine hSz.mono ?_
  rintro _ _ ⟨rfl, rfl⟩
  clear hSz
  have hW := hW _ (Touch.refl [] _)
  go_wp2_with fail
  refine hW.mono ?_
  rintro _ w1 ⟨rfl, hm, t1⟩
  have HM := Lib.hid (And.intro hm t1)
  clear hW hm t1
  go_wp2_with fail
  go_ret2
  refine ⟨by first | rfl | rw [HK.out], Live.next ⟨FS, ov, mv, HH.out.1.memory HM.out.1 (HM.out.2.mono (fun g hg => .inl (by simp at hg; simp [hg]))), rfl⟩ HH.out.2.1 HH.out.2.2 (HM.out.2.mono (fun g hg => .inl (by simp at hg; simp [foot, hg]))) (Sub.refl _ _)⟩
end
end Go.Proofs.YtkbchpaofmlhgaaGreatDoor
