/- The contracts of package stack: New, Depth, Take, Put, Push, All. -/
import Derived.Test.YtkbchpaofmlhgaaGreatDoorWorld
import Derived.Deep.RegionLaw
import Derived.Lib.SliceRun
import Derived.Lib.SmallJoins
import Derived.Lib.Walk
import Derived.Maps.AppendAt
import Derived.Laws.AppendOwnNone
namespace Go.Proofs.YtkbchpaofmlhgaaGreatDoor
open Go.RowKit

def cells (L : List Int) : List Value := L.map (Value.int .i64)
theorem cells_one (L : List Int) : ∀ u ∈ cells L, u.oneCell' = true := by
  intro u hu
  obtain ⟨x, _, rfl⟩ := List.mem_map.1 hu
  rfl
theorem cells_get (L : List Int) (j : Nat) (h : j < L.length) : (cells L)[j]? = some (.int .i64 (L.getD j 0)) := by
  simp [cells, List.getD, List.getElem?_eq_getElem h]
theorem cells_length (L : List Int) : (cells L).length = L.length := List.length_map _
theorem cells_append (A B : List Int) : cells (A ++ B) = cells A ++ cells B := List.map_append

/-- a stack lies at block b, over the blocks F, and holds L -/
def StackAt (w : World) (b : Nat) (F : List Nat) (L : List Int) : Prop :=
  ∃ v, Blk w b 85 #[v] ∧ F = b :: rowOf v ∧ b ∉ rowOf v ∧ w.ownsRow 0 36 1 v L.length (cells L)

theorem StackAt.touch {w w' : World} {b : Nat} {F G : List Nat} {L : List Int} (h : StackAt w b F L) (ht : Touch G w w') (hn : ∀ f, f ∈ F → f ∉ G) : StackAt w' b F L := by
  obtain ⟨v, hb, rfl, hnb, hr⟩ := h
  exact ⟨v, hb.touch ht (hn b (by simp)), rfl, hnb, row_touch hr ht fun g hg => hn g (by simp [hg])⟩
theorem StackAt.lt {w : World} {b : Nat} {F : List Nat} {L : List Int} (h : StackAt w b F L) : ∀ f, f ∈ F → f < w.heap.size := by
  obtain ⟨v, hb, rfl, hnb, hr⟩ := h
  intro f hf
  rcases List.mem_cons.1 hf with rfl | hf
  · exact hb.lt
  · exact row_lt hr hf

theorem New_any (w : World) : Calls Tryz.prog 41 #[] w fun e w' => e = .returned (.pointer (some ⟨w.heap.size, 0, none⟩)) ∧ StackAt w' w.heap.size [w.heap.size] [] ∧ Touch [] w w' := by
  go_enter Tryz.func41, Tryz.ntmps41
  go_wp2
  go_ret
  exact ⟨rfl, ⟨.slice none 0 0, Blk.new w _ _, rfl, by simp [rowOf], World.ownsRow_nil _ _ _ _⟩, (Touch.refl _ _).alloc _⟩

theorem row_value {w : World} {v : Value} {n : Nat} {xs : List Value} {e : TypeId} (h : w.ownsRow 0 e 1 v n xs) : ∃ a c, v = .slice a n c := by
  rcases Go.Joins.ownsRow_forms h with ⟨rfl, rfl⟩ | ⟨g, cap, rfl⟩
  · exact ⟨none, 0, rfl⟩
  · exact ⟨_, _, rfl⟩

theorem Depth_any (w : World) (b : Nat) (F : List Nat) (L : List Int) (h : StackAt w b F L) : Calls Tryz.prog 20 #[.pointer (some ⟨b, 0, none⟩)] w fun e w' => e = .returned (.int .i64 L.length) ∧ w = w' := by
  obtain ⟨v, hb, rfl, hnb, hr⟩ := h
  obtain ⟨a, c, rfl⟩ := row_value hr
  have c0 := hb.cell 0
  go_enter Tryz.func20, Tryz.ntmps20
  go_wp2
  go_ret
  exact ⟨rfl, rfl⟩

theorem info_cell : (Tryz.prog.info? 36).map (fun i => (i.zero, i.size, i.bytes)) = some (some (.int .i64 0), 1, 8) := by kernel_rfl
theorem info_cell' : ∃ i0, Tryz.prog.info? 36 = some i0 ∧ i0.zero = some (.int .i64 0) ∧ i0.size = 1 ∧ i0.bytes = 8 := by
  have h := info_cell
  cases hi : Tryz.prog.info? 36 with
  | none => rw [hi] at h; cases h
  | some i => rw [hi] at h; simp at h; exact ⟨i, rfl, h.1, h.2.1, h.2.2⟩

set_option maxHeartbeats 1000000 in
/-- slices.Clone of cells -/
theorem Clone_any (g off c : Nat) (L : List Int) (w : World) (hL : L.length ≤ 1000000) (hc : ∀ j u, (cells L)[j]? = some u → w.cell? ⟨g, off + j, none⟩ = some u) :
    Calls Tryz.prog 45 #[.slice (some ⟨g, off, none⟩) L.length c] w fun e w' =>
      ∃ v, e = .returned v ∧ w'.ownsRow w.heap.size 36 1 v L.length (cells L) ∧ v ≠ .slice none 0 0 ∧ Touch [] w w' := by
  obtain ⟨i0, hi, hz0, hz1, hz2⟩ := info_cell'
  have q : ∀ (w : World) (a : Option Addr) (n c n' c' : Nat), (binOp .eql 22 (.slice a n c) (.slice none n' c')).run Tryz.prog w = .ok (.bool a.isNone) w := fun w a n c n' c' => Lib.run_eql_slice_nil w _ _ a n c n' c' Tryz.underlying22
  obtain ⟨n, hn⟩ : ∃ n, L.length = n := ⟨_, rfl⟩
  have hcl : (cells L).length = n := by rw [cells_length, hn]
  rw [hn] at hL ⊢
  have A := Lib.hid hc
  clear hc hn
  go_enter Tryz.func45, Tryz.ntmps45
  go_wp2_with (at_builtin; refine wpList_append_own _ rfl _ _ 22 rfl w.heap.size 36 i0 (.int .i64 0) 1 8 Tryz.underlying22 hi hz0 hz1 hz2 rfl (by decide) _ _ _ rfl (World.ownsRow_made w #[] 0 (Nat.le_refl _) (Nat.zero_le _) rfl) ⟨g, off, none⟩ n c (cells L) rfl ?qc1 ?qc2 ?qc3 ?qc4 ?qc5 ?qc6 ?_)
  case qc1 => omega
  case qc2 =>
    intro j u hj
    rw [Addr.add_lit]
    exact Lib.cell?_alloc_some _ (A.out j u hj)
  case qc3 => exact cells_one L
  case qc4 => unfold maxLen; omega
  case qc5 => omega
  case qc6 => simp
  intro v' w1 hown hgrow hnil
  go_wp2
  go_ret
  refine ⟨v', rfl, by simpa using hown, hnil, Touch.of_below ?_ _⟩
  exact ((Below.refl _ w).alloc (Nat.le_refl _) _).grown hgrow (by simp) (by intro k hk; simp [Value.ownBlock] at hk; omega)

set_option maxHeartbeats 1000000 in
theorem Clone_nil (n c : Nat) (w : World) : Calls Tryz.prog 45 #[.slice none n c] w fun e w' => e = .returned (.slice none 0 0) ∧ w = w' := by
  have q : ∀ (w : World) (a : Option Addr) (n c n' c' : Nat), (binOp .eql 22 (.slice a n c) (.slice none n' c')).run Tryz.prog w = .ok (.bool a.isNone) w := fun w a n c n' c' => Lib.run_eql_slice_nil w _ _ a n c n' c' Tryz.underlying22
  go_enter Tryz.func45, Tryz.ntmps45
  go_wp2
  go_ret
  exact ⟨rfl, rfl⟩

/-- a shorter row -/
theorem row_take {w : World} {base : Nat} {e : TypeId} {g cap n m : Nat} {L : List Int} (h : w.ownsRow base e 1 (.slice (some ⟨g, 0, none⟩) n cap) n (cells L)) (hm : m ≤ n) :
    w.ownsRow base e 1 (.slice (some ⟨g, 0, none⟩) m cap) m (cells (L.take m)) := by
  obtain ⟨h1, h2⟩ := h
  rw [cells_length] at h1
  rcases h2 with ⟨h0, _⟩ | ⟨g', cap', cur, hv, hg, hh, hn', hcap, hsz, htake⟩
  · cases h0
  · cases hv
    refine ⟨by rw [cells_length, List.length_take]; omega, .inr ⟨g, cap, cur, rfl, hg, hh, by omega, hcap, hsz, ?_⟩⟩
    rw [cells, List.map_take, ← cells, ← htake, List.take_take]
    congr 1
    omega

theorem row_cap {w : World} {e : TypeId} {g cap n : Nat} {xs : List Value} (h : w.ownsRow 0 e 1 (.slice (some ⟨g, 0, none⟩) n cap) n xs) : n ≤ cap := by
  rcases h.2 with ⟨h0, _⟩ | ⟨g', cap', cur, hv, hg, hh, hn', hcap, _, _⟩
  · cases h0
  · cases hv; exact hn'

theorem row_drop {w : World} {e : TypeId} {g cap n : Nat} {L : List Int} (h : w.ownsRow 0 e 1 (.slice (some ⟨g, 0, none⟩) n cap) n (cells L)) (m : Nat) (j : Nat) (u : Value) (hj : (cells (L.drop m))[j]? = some u) :
    w.cell? ⟨g, m + j, none⟩ = some u := by
  rw [h.cellAt (m + j) ?_]
  · rw [cells, List.map_drop, List.getElem?_drop] at hj
    exact hj
  · have h1 := h.1
    rw [cells_length] at h1
    have h2 := (List.getElem?_eq_some_iff.1 hj).1
    rw [cells_length, List.length_drop] at h2
    omega
theorem clone_of {g off c n m : Nat} {L : List Int} (w : World) (hn : L.length = n) (hL : m + n ≤ 1000000) (hc : ∀ j u, (cells L)[j]? = some u → w.cell? ⟨g, off + j, none⟩ = some u) :
    Calls Tryz.prog 45 #[.slice (some ⟨g, off, none⟩) n c] w fun e w' =>
      ∃ v, e = .returned v ∧ w'.ownsRow w.heap.size 36 1 v n (cells L) ∧ v ≠ .slice none 0 0 ∧ Touch [] w w' := by
  subst hn
  exact Clone_any g off c L w (by omega) hc

set_option maxHeartbeats 2000000 in
theorem Take_ok (w : World) (b : Nat) (F : List Nat) (L : List Int) (h : StackAt w b F L) (n : Nat) (hn : n ≤ L.length) (hL : L.length ≤ 1000000) :
    Calls Tryz.prog 44 #[.pointer (some ⟨b, 0, none⟩), .int .i64 n] w fun e w' =>
      ∃ v, e = .returned (.tuple #[v, .int .i64 0]) ∧ w'.ownsRow w.heap.size 36 1 v n (cells (L.drop (L.length - n))) ∧ StackAt w' b F (L.take (L.length - n)) ∧ Touch F w w' := by
  have hD := Depth_any w b F L h
  obtain ⟨v, hb, rfl, hnb, hr⟩ := h
  have c0 := hb.cell 0
  have f0 := hb.frozen 0
  obtain ⟨m, hm⟩ : ∃ m, L.length - n = m := ⟨_, rfl⟩
  have hdl : (L.drop m).length = n := by rw [List.length_drop]; omega
  have htl : (L.take m).length = m := by rw [List.length_take]; omega
  have hlm : L.length = m + n := by omega
  rw [hm]
  rw [hlm] at hr hD hL
  rcases Go.Joins.ownsRow_forms hr with ⟨rfl, hn0⟩ | ⟨g, cap, rfl⟩
  · have hm0 : m = 0 := by omega
    have hn0' : n = 0 := by omega
    subst hm0 hn0'
    have hcl := Clone_nil 0 0 w
    go_enter Tryz.func44, Tryz.ntmps44
    go_wp2_with fail
    refine hD.mono ?_
    rintro _ _ ⟨rfl, rfl⟩
    go_wp2_with fail
    refine hcl.mono ?_
    rintro _ _ ⟨rfl, rfl⟩
    go_wp2
    go_ret2
    have hL0 : L = [] := List.eq_nil_of_length_eq_zero hlm
    subst hL0
    refine ⟨_, rfl, World.ownsRow_nil _ _ _ _, ⟨_, hb.set_ 0 _, rfl, hnb, World.ownsRow_nil _ _ _ _⟩, (Touch.refl _ _).setCell (by simp) _⟩
  · have hcap := row_cap hr
    have e1 : IntKind.i64.wrap (((m + n : Nat) : Int) - (n : Int)) = m := by rw [IntKind.wrap_i64]; omega
    have e2 : ¬ (n : Int) < 0 := by omega
    have e3 : ¬ (m : Int) < 0 := by omega
    go_enter Tryz.func44, Tryz.ntmps44
    go_wp2_with fail
    refine hD.mono ?_
    rintro _ _ ⟨rfl, rfl⟩
    have hrow := fun j u => row_drop hr m j u
    clear hD
    go_wp2_with fail
    case' inl => 
      refine (clone_of (off := 0) (c := 0) w hdl hL ?_).mono ?_
      · intro j u hj
        have hn0 : n = 0 := by omega
        rw [List.eq_nil_of_length_eq_zero (hdl.trans hn0)] at hj
        cases hj
    case' inr =>
      refine (clone_of w hdl hL hrow).mono ?_
    all_goals rintro _ w1 ⟨v', rfl, hown, hne, t1⟩
    all_goals have c1 := (hb.touch t1 (by simp)).cell 0
    all_goals have f1 := (hb.touch t1 (by simp)).frozen 0
    all_goals clear c0 f0 hrow
    all_goals go_wp2
    all_goals go_ret2
    all_goals have hB := hb.touch t1 (by simp)
    all_goals have hlt := hb.lt
    all_goals have htt := fun u => (t1.mono (G := [b]) (by simp)).setCell (p := ⟨b, 0, none⟩) (by simp) u
    all_goals try (have hcm : m = cap := by omega)
    all_goals try subst hcm
    all_goals refine ⟨v', rfl, ?_, ⟨_, hB.set_ 0 _, rfl, hnb, ?_⟩, (htt _).mono (G := b :: rowOf (.slice (some ⟨g, 0, none⟩) 0 0)) (fun k hk => .inl (by simp at hk; simp [hk]))⟩
    all_goals first | exact ownsRow_setCell_below hown hlt _ | (rw [htl]; refine row_touch (row_take hr ?_) (htt _) ?_ <;> first | omega | (intro k hk hkb; rw [List.mem_singleton.1 hkb] at hk; exact hnb hk))

theorem Take_under (w : World) (b : Nat) (F : List Nat) (L : List Int) (h : StackAt w b F L) (n : Nat) (hn : L.length < n) (hL : n ≤ 1000000) :
    Calls Tryz.prog 44 #[.pointer (some ⟨b, 0, none⟩), .int .i64 n] w fun e w' => e = .returned (.tuple #[.slice none 0 0, .int .i64 (-4)]) ∧ w = w' := by
  have hD := Depth_any w b F L h
  obtain ⟨len, hlen⟩ : ∃ len, L.length = len := ⟨_, rfl⟩
  rw [hlen] at hD hn
  clear hlen h
  have e1 : IntKind.i64.wrap ((len : Int) - (n : Int)) = len - n := by rw [IntKind.wrap_i64]; omega
  have e2 : ¬ (n : Int) < 0 := by omega
  have e3 : (len : Int) - n < 0 := by omega
  go_enter Tryz.func44, Tryz.ntmps44
  go_wp2_with fail
  refine hD.mono ?_
  rintro _ _ ⟨rfl, rfl⟩
  go_wp2
  go_ret2
  exact ⟨rfl, rfl⟩

theorem All_any (w : World) (b : Nat) (F : List Nat) (L : List Int) (h : StackAt w b F L) (hL : L.length ≤ 1000000) :
    Calls Tryz.prog 15 #[.pointer (some ⟨b, 0, none⟩)] w fun e w' => ∃ v, e = .returned v ∧ w'.ownsRow w.heap.size 36 1 v L.length (cells L) ∧ Touch [] w w' := by
  obtain ⟨v, hb, rfl, hnb, hr⟩ := h
  have c0 := hb.cell 0
  rcases Go.Joins.ownsRow_forms hr with ⟨rfl, hn0⟩ | ⟨g, cap, rfl⟩
  · have hL0 : L = [] := List.eq_nil_of_length_eq_zero hn0
    subst hL0
    have hcl := Clone_nil 0 0 w
    go_enter Tryz.func15, Tryz.ntmps15
    go_wp2_with fail
    refine hcl.mono ?_
    rintro _ _ ⟨rfl, rfl⟩
    go_wp2
    go_ret
    exact ⟨_, rfl, World.ownsRow_nil _ _ _ _, Touch.refl _ _⟩
  · have hcl := Clone_any g 0 cap L w hL (fun j u hj => by rw [hr.cellAt (0 + j) (by have := (List.getElem?_eq_some_iff.1 hj).1; rw [cells_length] at this; omega), Nat.zero_add]; exact hj)
    obtain ⟨len, hlen⟩ : ∃ len, L.length = len := ⟨_, rfl⟩
    rw [hlen] at hcl c0 ⊢
    clear hlen hr hb
    go_enter Tryz.func15, Tryz.ntmps15
    go_wp2_with fail
    refine hcl.mono ?_
    rintro _ w1 ⟨v', rfl, hown, hne, t1⟩
    go_wp2
    go_ret
    exact ⟨_, rfl, hown, t1⟩

set_option maxRecDepth 100000 in
set_option maxHeartbeats 2000000 in
/-- what is put lies in a row of its own, and there is room -/
theorem Put_ok (w : World) (b : Nat) (F : List Nat) (L : List Int) (h : StackAt w b F L) (g off c : Nat) (M : List Int) (hM : L.length + M.length ≤ 128) (hc : ∀ j u, (cells M)[j]? = some u → w.cell? ⟨g, off + j, none⟩ = some u) :
    Calls Tryz.prog 13 #[.pointer (some ⟨b, 0, none⟩), .slice (some ⟨g, off, none⟩) M.length c] w fun e w' =>
      ∃ F', e = .returned (.int .i64 0) ∧ StackAt w' b F' (L ++ M) ∧ Touch F w w' ∧ Sub w F F' := by
  obtain ⟨i0, hi, hz0, hz1, hz2⟩ := info_cell'
  obtain ⟨v, hb, rfl, hnb, hr⟩ := h
  have c0 := hb.cell 0
  have hbl := hb.lt
  obtain ⟨len, hlen⟩ : ∃ len, L.length = len := ⟨_, rfl⟩
  obtain ⟨n, hn⟩ : ∃ n, M.length = n := ⟨_, rfl⟩
  have hcl : (cells M).length = n * 1 := by rw [cells_length, hn, Nat.mul_one]
  have hLM : (L ++ M).length = len + n := by rw [List.length_append, hlen, hn]
  rw [hlen, hn] at hM
  rw [hlen] at hr
  rw [hn]
  have A := Lib.hid hc
  have B := Lib.hid hLM
  clear hc hn hlen hLM
  obtain ⟨a, cap, rfl⟩ := row_value hr
  have e1 : IntKind.i64.wrap (128 - (len : Int)) = 128 - len := by rw [IntKind.wrap_i64]; omega
  have e2 : ¬ (n : Int) > 128 - len := by omega
  go_enter Tryz.func13, Tryz.ntmps13
  go_wp2_with (at_builtin; refine wpList_append_own_at _ rfl _ _ 22 rfl 0 36 i0 (.int .i64 0) 1 8 Tryz.underlying22 hi hz0 hz1 hz2 rfl (by decide) _ _ _ rfl hr ⟨g, off, none⟩ n c (cells M) rfl hcl ?qc2 ?qc3 ?qc4 ?qc5 (Nat.zero_le _) ?_)
  case qc2 =>
    intro j u hj
    exact A.out j u hj
  case qc3 => exact cells_one M
  case qc4 => unfold maxLen; omega
  case qc5 => omega
  intro v' w1 hown hgrow hnil hloc
  have hB : Blk w1 b 85 #[.slice a len cap] := hb.grown hgrow (fun e => hnb (rowOf_mem.2 e.symm))
  have hf1 := hB.frozen 0
  have c1 := hB.cell 0
  have htt := fun u => ((Touch.refl (b :: rowOf (.slice a len cap)) w).grown hgrow (fun k hk => .inl (by simp [rowOf_mem, hk]))).setCell (p := ⟨b, 0, none⟩) (by simp) u
  have hnb' : b ∉ rowOf v' := fun hb' => by
    rcases hloc with e | e
    · exact hnb (rowOf_mem.2 (e ▸ rowOf_mem.1 hb'))
    · rw [rowOf_mem.1 hb'] at e
      simp at e
      omega
  have hsub : Sub w (b :: rowOf (.slice a len cap)) (b :: rowOf v') := by
    intro f hf
    rcases List.mem_cons.1 hf with rfl | hf
    · exact .inl (by simp)
    · rcases hloc with e | e
      · exact .inl (by simp [rowOf_mem, ← e, rowOf_mem.1 hf])
      · rw [rowOf_mem.1 hf] at e
        simp at e
        exact .inr (by omega)
  clear hloc hnil hgrow hr
  rw [← cells_append] at hown
  obtain ⟨a', c', rfl⟩ := row_value hown
  have H1 := Lib.hid htt
  have H2 := Lib.hid hown
  have H3 := Lib.hid hsub
  have H4 := Lib.hid hB
  clear htt hown hsub hB c0 hb
  go_wp2
  go_ret
  refine ⟨_, rfl, ⟨_, H4.out.set_ 0 _, rfl, hnb', ?_⟩, H1.out _, H3.out⟩
  rw [B.out]
  exact row_touch H2.out ((Touch.refl [b] w1).setCell (by simp) _) (fun k hk hkb => hnb' (by rw [List.mem_singleton.1 hkb] at hk; exact hk))
end Go.Proofs.YtkbchpaofmlhgaaGreatDoor
