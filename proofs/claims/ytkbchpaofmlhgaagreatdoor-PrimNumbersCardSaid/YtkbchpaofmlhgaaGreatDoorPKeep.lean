/- A state of the law's own, beside blocks that are kept; what the stack alone does. -/
import Derived.Test.YtkbchpaofmlhgaaGreatDoorTellsP
import Derived.Test.YtkbchpaofmlhgaaGreatDoorDo
namespace Go.Proofs.YtkbchpaofmlhgaaGreatDoor
open Go.RowKit

/-- what lies in blocks is as it was -/
def On (K : List Nat) (w w' : World) : Prop := ∀ x ∈ K, w'.heap[x]? = w.heap[x]?
theorem On.refl (K : List Nat) (w : World) : On K w w := fun _ _ => rfl
theorem On.trans {K : List Nat} {a b c : World} (h : On K a b) (k : On K b c) : On K a c := fun x hx => (k x hx).trans (h x hx)
theorem On.blk {K : List Nat} {w w' : World} {b : Nat} {t : TypeId} {cs : Array Value} (o : On K w w') (hb : b ∈ K) (h : Blk w b t cs) : Blk w' b t cs := (o b hb).trans h
theorem On.sub {K L : List Nat} {w w' : World} (h : On K w w') (hs : ∀ x ∈ L, x ∈ K) : On L w w' := fun x hx => h x (hs x hx)
/-- a state that was made behind a world, beside blocks -/
def LiveK (w0 w : World) (s : Nat) (S : PS) (K : List Nat) : Prop := ∃ F, StateAt w s F S ∧ (∀ x ∈ F, w0.heap.size ≤ x) ∧ Touch [] w0 w ∧ ∀ x ∈ K, x ∉ F ∧ x < w.heap.size
section
variable {w0 w w' : World} {s : Nat} {S S' : PS} {K : List Nat}
theorem LiveK.t (h : LiveK w0 w s S K) : Touch [] w0 w := by
  obtain ⟨_, _, _, h, _⟩ := h
  exact h
theorem LiveK.live (h : LiveK w0 w s S K) : Live w0 w s S := by
  obtain ⟨F, h1, h2, h3, _⟩ := h
  exact ⟨F, h1, h2, h3⟩
theorem Live.keep (h : Live w0 w s S) : LiveK w0 w s S [] := by
  obtain ⟨F, h1, h2, h3⟩ := h
  exact ⟨F, h1, h2, h3, by simp⟩
theorem LiveK.quiet (h : LiveK w0 w s S K) (t : Touch [] w w') : LiveK w0 w' s S K := by
  obtain ⟨F, h1, h2, h3, h4⟩ := h
  exact ⟨F, h1.quiet t, h2, h3.trans t (by simp), fun x hx => ⟨(h4 x hx).1, Nat.lt_of_lt_of_le (h4 x hx).2 t.size⟩⟩
theorem LiveK.on (h : LiveK w0 w s S K) (t : Touch [] w w') : On K w w' := by
  obtain ⟨F, h1, h2, h3, h4⟩ := h
  exact fun x hx => t.block x (h4 x hx).2 (by simp)
/-- a block of one's own is kept from now on -/
theorem LiveK.more {b : Nat} (h : LiveK w0 w s S K) (t : Touch [] w w') (hb : w.heap.size ≤ b) (hlt : b < w'.heap.size) : LiveK w0 w' s S (b :: K) := by
  have hq := h.quiet t
  obtain ⟨F, h1, h2, h3, h4⟩ := h
  obtain ⟨F2, k1, k2, k3, k4⟩ : LiveK w0 w' s S K := ⟨F, h1.quiet t, h2, h3.trans t (by simp), fun x hx => ⟨(h4 x hx).1, Nat.lt_of_lt_of_le (h4 x hx).2 t.size⟩⟩
  refine ⟨F, h1.quiet t, h2, h3.trans t (by simp), fun x hx => ?_⟩
  rcases List.mem_cons.1 hx with rfl | hx
  · exact ⟨fun hm => by have := h1.lt _ hm; omega, hlt⟩
  · exact ⟨(h4 x hx).1, Nat.lt_of_lt_of_le (h4 x hx).2 t.size⟩
theorem LiveK.less {L : List Nat} (h : LiveK w0 w s S K) (hs : ∀ x ∈ L, x ∈ K) : LiveK w0 w s S L := by
  obtain ⟨F, h1, h2, h3, h4⟩ := h
  exact ⟨F, h1, h2, h3, fun x hx => h4 x (hs x hx)⟩
/-- something that is done to the state alone -/
theorem LiveK.step {P : Program} {f : FuncId} {args : Array Value} {e0 : Ending} (h : LiveK w0 w s S K) (hC : ∀ F, StateAt w s F S → Calls P f args w fun e w' => e = e0 ∧ ∃ F', StateAt w' s F' S' ∧ Touch F w w' ∧ Sub w F F') :
    Calls P f args w fun e w' => e = e0 ∧ LiveK w0 w' s S' K ∧ On K w w' := by
  obtain ⟨F, h1, h2, h3, h4⟩ := h
  refine (hC F h1).mono ?_
  rintro _ w' ⟨rfl, F', k1, k2, k3⟩
  refine ⟨rfl, ⟨F', k1, Sub.new h2 k3 h3.size, Sub.touch h2 h3 k2, fun x hx => ⟨fun hm => ?_, Nat.lt_of_lt_of_le (h4 x hx).2 k2.size⟩⟩, fun x hx => k2.block x (h4 x hx).2 (h4 x hx).1⟩
  rcases k3 x hm with hm | hm
  · exact (h4 x hx).1 hm
  · have := (h4 x hx).2; omega
theorem st_stack {P : Program} {f : FuncId} {args : Array Value} {e0 : Ending} {F : List Nat} {L : List Int} (h : StateAt w s F S) (hC : ∀ FS, StackAt w S.k FS S.st → Calls P f args w fun e w' => ∃ FS', e = e0 ∧ StackAt w' S.k FS' L ∧ Touch FS w w' ∧ Sub w FS FS') :
    Calls P f args w fun e w' => e = e0 ∧ ∃ F', StateAt w' s F' { S with st := L } ∧ Touch F w w' ∧ Sub w F F' := by
  obtain ⟨FS, ov, mv, hp, rfl⟩ := h
  refine (hC FS hp.stk).mono ?_
  rintro _ w' ⟨FS', rfl, k1, k2, k3⟩
  exact ⟨rfl, _, ⟨FS', ov, mv, hp.stack k1 k2, rfl⟩, k2.mono (fun g hg => .inl (foot_has_stack g hg)), foot_stack k3⟩
theorem keep_cut (h : LiveK w0 w s S K) : Calls Tryz.prog 23 #[.pointer (some ⟨S.k, 0, none⟩), .int .i64 0] w fun e w' => e = .returned (.tuple #[]) ∧ LiveK w0 w' s { S with st := [] } K ∧ On K w w' :=
  h.step fun _ hS => st_stack hS fun FS hk => (Cut_zero w S.k FS S.st hk).mono (by
    rintro _ w' ⟨rfl, j1, j2⟩
    exact ⟨FS, rfl, j1, j2, Sub.refl _ _⟩)
theorem keep_put (h : LiveK w0 w s S K) (cv : Value) (M : List Int) (hc : CellsAt w cv M) (hl : S.st.length + M.length ≤ 128) : Calls Tryz.prog 13 #[.pointer (some ⟨S.k, 0, none⟩), cv] w fun e w' => e = .returned (.int .i64 0) ∧ LiveK w0 w' s { S with st := S.st ++ M } K ∧ On K w w' :=
  h.step fun _ hS => st_stack hS fun FS hk => Put_row w S.k FS S.st hk cv M hc hl
theorem keep_push (h : LiveK w0 w s S K) (hl : S.st.length < 128) (x : Int) : Calls Tryz.prog 35 #[.pointer (some ⟨S.k, 0, none⟩), .int .i64 x] w fun e w' => e = .returned (.int .i64 0) ∧ LiveK w0 w' s { S with st := S.st ++ [x] } K ∧ On K w w' :=
  h.step fun _ hS => st_stack hS fun FS hk => Push_ok w S.k FS S.st hk hl x
/-- what prim's Do does by one of the maps -/
theorem st_doP {F : List Nat} {T : PS} {op : Int} {n : Nat} {pre : List Int → PS → Prop} {act : List Int → PS → (List Int × Int) × PS} (hS : StateAt w s F S) (hsem : OpSem op n pre act) (h1 : 43 ≤ op) (h2 : op ≤ 107) (h3 : op < 61 ∨ 70 < op) (hn : n ≤ 4) (hok : S.ok)
    (rest l o : List Int) (hst : S.st = rest ++ l) (hl : l.length = n) (hlen : S.st.length ≤ 128) (hpre : pre l { S with st := rest }) (ha : act l { S with st := rest } = ((o, 0), T)) (ht : T.st = rest) (hlen2 : rest.length + o.length ≤ 128) :
    Calls Tryz.prog 14 #[.pointer (some ⟨s, 0, none⟩), .int .i64 op] w fun e w' => e = .returned (.int .i64 0) ∧ ∃ F', StateAt w' s F' { T with st := rest ++ o } ∧ Touch F w w' ∧ Sub w F F' := by
  have e1 : S.st.length - n = rest.length := by rw [hst, List.length_append]; omega
  have e2 : S.st.drop rest.length = l := by rw [hst]; simp
  have e3 : S.st.take rest.length = rest := by rw [hst]; simp
  have hD := Do_sem op n pre act hsem h1 h2 h3 hn w s F S hS hok hlen (fun _ => by rw [e1, e2, e3]; exact hpre)
  rw [doP_ok hst hl ha ht hlen2] at hD
  exact hD.mono fun _ _ ⟨F', a1, a2⟩ => ⟨a1, F', a2⟩
/-- what prim's Do does by the stack alone -/
theorem st_doS {F : List Nat} {L : List Int} {op e : Int} (hS : StateAt w s F S) (h1 : 28 ≤ op) (h2 : op ≤ 42)
    (hC : ∀ FS, StackAt w S.k FS S.st → Calls Tryz.prog 42 #[.pointer (some ⟨S.k, 0, none⟩), .int .i64 op] w fun r w' => ∃ FS', r = .returned (.int .i64 e) ∧ StackAt w' S.k FS' L ∧ Touch FS w w' ∧ Sub w FS FS') :
    Calls Tryz.prog 14 #[.pointer (some ⟨s, 0, none⟩), .int .i64 op] w fun r w' => r = .returned (.int .i64 e) ∧ ∃ F', StateAt w' s F' { S with st := L } ∧ Touch F w w' ∧ Sub w F F' := by
  have hk := st_stack hS hC
  have s1 : w.cell? ⟨s, 1, none⟩ = some (.pointer (some ⟨S.k, 0, none⟩)) := by
    obtain ⟨FS, ov, mv, hp, _⟩ := hS
    exact hp.blk.cell 1
  have g1 : op ≥ 28 := by omega
  clear hS hC
  go_enter Tryz.func14, Tryz.ntmps14
  go_wp2_with fail
  refine hk.mono ?_
  rintro _ w1 ⟨rfl, F', k1, k2, k3⟩
  have HD := Lib.hid (And.intro k1 (And.intro k2 k3))
  clear hk k1 k2 k3
  go_wp2_with fail
  go_ret
  exact ⟨rfl, F', HD.out⟩
/-- dup -/
theorem st_dup {F : List Nat} {rest : List Int} {x : Int} (hS : StateAt w s F S) (hst : S.st = rest ++ [x]) (hl : rest.length ≤ 120) :
    Calls Tryz.prog 14 #[.pointer (some ⟨s, 0, none⟩), .int .i64 28] w fun r w' => r = .returned (.int .i64 0) ∧ ∃ F', StateAt w' s F' { S with st := rest ++ [x, x] } ∧ Touch F w w' ∧ Sub w F F' := by
  have hlen : S.st.length = rest.length + 1 := by rw [hst]; simp
  refine st_doS hS (by decide) (by decide) fun FS hk => ?_
  have h := Do_shape w S.k FS S.st hk 28 1 [0, 0] (fun w => Shape_0 w) (by decide) (by decide) (by decide) (by decide) (by decide) (by decide) (by decide) (by omega) (by omega) (by simp; omega)
  have e1 : S.st.length - 1 = rest.length := by omega
  have e2 : S.st.drop rest.length = [x] := by rw [hst]; simp
  have e3 : S.st.take rest.length = rest := by rw [hst]; simp
  rw [e1, e2, e3] at h
  exact h
/-- drop -/
theorem st_drop {F : List Nat} {rest : List Int} {x : Int} (hS : StateAt w s F S) (hst : S.st = rest ++ [x]) (hl : rest.length ≤ 120) :
    Calls Tryz.prog 14 #[.pointer (some ⟨s, 0, none⟩), .int .i64 29] w fun r w' => r = .returned (.int .i64 0) ∧ ∃ F', StateAt w' s F' { S with st := rest } ∧ Touch F w w' ∧ Sub w F F' := by
  have hlen : S.st.length = rest.length + 1 := by rw [hst]; simp
  refine st_doS hS (by decide) (by decide) fun FS hk => ?_
  have h := Do_shape w S.k FS S.st hk 29 1 [] (fun w => Shape_1 w) (by decide) (by decide) (by decide) (by decide) (by decide) (by decide) (by decide) (by omega) (by omega) (by simp; omega)
  have e1 : S.st.length - 1 = rest.length := by omega
  have e3 : S.st.take rest.length = rest := by rw [hst]; simp
  rw [e1, e3, List.map_nil, List.append_nil] at h
  exact h
end
end Go.Proofs.YtkbchpaofmlhgaaGreatDoor
