import Derived.Test.YtdokeddjcpnmiaaGreatDoorJCelX
import Derived.Test.YtdokeddjcpnmiaaGreatDoorJDoAll
import Derived.Test.YtdokeddjcpnmiaaGreatDoorJRunX
/- What is done by the numbers that the Engine's laws use: + and = (11, 21), dup and 1- (28, 5). -/
namespace Go.Proofs.YtdokeddjcpnmiaaGreatDoor
open Go.RowKit
namespace En

theorem doP_len8 {n : Nat} {act : List Int → PS → (List Int × Int) × PS} {S : PS} (h : S.st.length ≤ 128) : (doP n act S).2.st.length ≤ 128 := by
  unfold doP
  split
  · exact h
  · simp only []
    split
    · split
      · simp only [List.length_append]; assumption
      · exact h
    · exact h
theorem doP_self8 {n : Nat} {act : List Int → PS → (List Int × Int) × PS} (ha : ∀ l S, (act l S).2 = S) (S : PS) (K : PS → Prop) (hk : ∀ S st, K S → K { S with st := st }) (h : K S) : K (doP n act S).2 := by
  unfold doP
  split
  · exact h
  · simp only [ha]
    split
    · split
      · exact hk _ _ (hk _ _ h)
      · exact hk _ _ (hk _ _ h)
    · exact hk _ _ (hk _ _ h)
def act1 (op : Int) : List Int → PS → (List Int × Int) × PS := fun l S => (([(oneF op (l.getD 0 0)).1], (oneF op (l.getD 0 0)).2), S)
def act2 (op : Int) : List Int → PS → (List Int × Int) × PS := fun l S => (([(twoR op (l.getD 0 0) (l.getD 1 0)).1], (twoR op (l.getD 0 0) (l.getD 1 0)).2), S)
/-- what is not known -/
def poison (S : PS) : PS := { S with out := [7] }
def lD : Int → PS → Int × PS := fun n S => if n = 11 ∨ n = 21 then doP 2 (act2 n) S else (777, poison S)
theorem lD_fine : FineD PS.ok lD := by
  intro n S h1 h2
  unfold lD
  split
  · exact ⟨doP_len8 h1, doP_self8 (fun _ _ => rfl) S PS.ok (fun _ _ h => h) h2⟩
  · exact ⟨h1, show ([7] : List Int).length ≤ 4000 by decide, h2.2⟩
theorem lD_bad : FineD (fun S : PS => S.out = [7]) lD := by
  intro n S h1 h2
  unfold lD
  split
  · exact ⟨doP_len8 h1, doP_self8 (fun _ _ => rfl) S (fun S => S.out = [7]) (fun _ _ h => h) h2⟩
  · exact ⟨h1, rfl⟩
theorem lD_do {wB : World} {s : Nat} {S : PS} {n : Int} (hn : n = 11 ∨ n = 21) (h1 : S.st.length ≤ 128) (h2 : PS.ok S) : DoOk wB lD s S n := by
  intro W F' hS _ _
  have hm : manyF n = 2 := by rcases hn with rfl | rfl <;> decide
  have h := Do_semC n 2 (fun _ _ => True) (act2 n) (cell2_sem n hm) (by omega) (by omega) (by decide) W s F' S hS h2 h1 (fun _ => trivial)
  have e : lD n S = doP 2 (act2 n) S := by unfold lD; rw [if_pos hn]
  rw [e]
  exact h
end En
end Go.Proofs.YtdokeddjcpnmiaaGreatDoor

/- What is done by dup and 1- (28, 5), for EngineDeep. -/
namespace Go.Proofs.YtdokeddjcpnmiaaGreatDoor
open Go.RowKit
namespace En

section
variable {w w0 w' : World} {s : Nat} {S : PS}
theorem st_stack {P : Program} {f : FuncId} {args : Array Value} {e0 : Ending} {F : List Nat} {L : List Int} (h : StateAt w s F S) (hC : ∀ FS, StackAt w S.k FS S.st → Calls P f args w fun e w' => ∃ FS', e = e0 ∧ StackAt w' S.k FS' L ∧ Touch FS w w' ∧ Sub w FS FS') :
    Calls P f args w fun e w' => e = e0 ∧ ∃ F', StateAt w' s F' { S with st := L } ∧ Touch F w w' ∧ Sub w F F' := by
  obtain ⟨FS, ov, mv, hp, rfl⟩ := h
  refine (hC FS hp.stk).mono ?_
  rintro _ w' ⟨FS', rfl, k1, k2, k3⟩
  exact ⟨rfl, _, ⟨FS', ov, mv, hp.stack k1 k2, rfl⟩, k2.mono (fun g hg => .inl (foot_has_stack g hg)), foot_stack k3⟩
set_option maxHeartbeats 1000000 in
theorem st_doS {F : List Nat} {L : List Int} {op e : Int} (hS : StateAt w s F S) (h1 : 28 ≤ op) (h2 : op ≤ 42)
    (hC : ∀ FS, StackAt w S.k FS S.st → Calls Tryz.prog 96 #[.pointer (some ⟨S.k, 0, none⟩), .int .i64 op] w fun r w' => ∃ FS', r = .returned (.int .i64 e) ∧ StackAt w' S.k FS' L ∧ Touch FS w w' ∧ Sub w FS FS') :
    Calls Tryz.prog 64 #[.pointer (some ⟨s, 0, none⟩), .int .i64 op] w fun r w' => r = .returned (.int .i64 e) ∧ ∃ F', StateAt w' s F' { S with st := L } ∧ Touch F w w' ∧ Sub w F F' := by
  have hk := st_stack hS hC
  have s1 : w.cell? ⟨s, 1, none⟩ = some (.pointer (some ⟨S.k, 0, none⟩)) := by
    obtain ⟨FS, ov, mv, hp, _⟩ := hS
    exact hp.blk.cell 1
  have g1 : op ≥ 28 := by omega
  clear hS hC
  go_enter Tryz.func64, Tryz.ntmps64
  go_wp2_with fail
  refine hk.mono ?_
  rintro _ w1 ⟨rfl, F', k1, k2, k3⟩
  have HD := Lib.hid (And.intro k1 (And.intro k2 k3))
  clear hk k1 k2 k3
  go_wp2_with fail
  go_ret
  exact ⟨rfl, F', HD.out⟩
end
theorem Do_dup (w : World) (b : Nat) (F : List Nat) (L : List Int) (h : StackAt w b F L) (hL : L.length ≤ 128) : DoSays w b F 28 (doF 28 L) := by
  unfold doF
  rw [if_neg (by decide), if_neg (by decide)]
  have hS := Shape_any 0 (by decide)
  obtain ⟨s1, s2, s3, s4⟩ := shape_small 0 (by decide)
  rw [show ((28 : Int) - 28).toNat = 0 from rfl]
  generalize shapesF.getD 0 (0, []) = s at *
  obtain ⟨t, ps⟩ := s
  simp only at hS s1 s2 s3 s4 ⊢
  by_cases c1 : L.length < t
  · rw [if_pos c1]
    exact .same h (Do_under w b F L h _ t ps hS (by omega) (by omega) (by decide) c1)
  rw [if_neg c1, if_neg (fun e => absurd e.1 (by decide))]
  by_cases c3 : 128 < L.length - t + ps.length
  · rw [if_pos c3]
    exact .same h (Do_over w b F L h _ t ps hS s1 s2 (by omega) (by omega) (by decide) (by decide) hL (by omega) c3)
  · rw [if_neg c3]
    exact Do_shape w b F L h _ t ps hS s3 s1 s2 (by omega) (by omega) (by decide) (by decide) hL (by omega) (by omega)
theorem doF28_len (L : List Int) (h : L.length ≤ 128) : (doF 28 L).2.length ≤ 128 := by
  unfold doF
  rw [if_neg (by decide), if_neg (by decide)]
  simp only []
  split
  · exact h
  · split
    · exact h
    · split
      · exact h
      · simp only [List.length_append, List.length_take, List.length_map]; omega
def eD : Int → PS → Int × PS := fun n S => if n = 28 then ((doF 28 S.st).1, { S with st := (doF 28 S.st).2 }) else if n = 5 then doP 1 (act1 5) S else (777, poison S)
theorem eD_fine : FineD PS.ok eD := by
  intro n S h1 h2
  unfold eD
  split
  · exact ⟨doF28_len _ h1, h2⟩
  · split
    · exact ⟨doP_len8 h1, doP_self8 (fun _ _ => rfl) S PS.ok (fun _ _ h => h) h2⟩
    · exact ⟨h1, show ([7] : List Int).length ≤ 4000 by decide, h2.2⟩
theorem eD_bad : FineD (fun S : PS => S.out = [7]) eD := by
  intro n S h1 h2
  unfold eD
  split
  · exact ⟨doF28_len _ h1, h2⟩
  · split
    · exact ⟨doP_len8 h1, doP_self8 (fun _ _ => rfl) S (fun S => S.out = [7]) (fun _ _ h => h) h2⟩
    · exact ⟨h1, rfl⟩
theorem eD_do {wB : World} {s : Nat} {S : PS} {n : Int} (hn : n = 28 ∨ n = 5) (h1 : S.st.length ≤ 128) (h2 : PS.ok S) : DoOk wB eD s S n := by
  intro W F' hS _ _
  rcases hn with rfl | rfl
  · have e : eD 28 S = ((doF 28 S.st).1, { S with st := (doF 28 S.st).2 }) := by unfold eD; rw [if_pos rfl]
    rw [e]
    refine (st_doS hS (by decide) (by decide) fun FS hk => Do_dup W S.k FS S.st hk h1).mono ?_
    rintro _ w' ⟨rfl, F2, k1, k2, k3⟩
    exact ⟨F2, rfl, k1, k2, k3⟩
  · have hm : manyF 5 = 1 := by decide
    have h := Do_semC 5 1 (fun _ _ => True) (act1 5) (cell1_sem 5 hm) (by decide) (by decide) (by decide) W s F' S hS h2 h1 (fun _ => trivial)
    have e : eD 5 S = doP 1 (act1 5) S := by unfold eD; rw [if_neg (by decide), if_pos rfl]
    rw [e]
    exact h
theorem eD_28 (S : PS) (x : Int) : eD 28 { S with st := [x] } = (0, { S with st := [x, x] }) := rfl
theorem eD_5 (S : PS) (x : Int) : eD 5 { S with st := [x] } = (0, { S with st := [wrap64 (x - 1)] }) := by
  have e : eD 5 { S with st := [x] } = doP 1 (act1 5) { S with st := [x] } := by unfold eD; rw [if_neg (by decide), if_pos rfl]
  rw [e]
  rfl
end En
end Go.Proofs.YtdokeddjcpnmiaaGreatDoor
