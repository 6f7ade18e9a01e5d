import Derived.Test.YtdokeddjcpnmiaaGreatDoorWorld
import Derived.Deep.RegionLaw
import Derived.Lib.SliceRun
import Derived.Lib.SmallJoins
import Derived.Lib.Walk
import Derived.Maps.AppendAt
import Derived.Laws.AppendOwnNone
import Derived.Test.YtdokeddjcpnmiaaGreatDoorJMapsA
import Derived.BigQuiet
import Derived.Laws.MakeOwn
import Derived.Deep.QuietTactic
import Derived.Deep.Cut
/- The contracts of package stack: New, Depth, Take, Put, Push, All. -/
namespace Go.Proofs.YtdokeddjcpnmiaaGreatDoor
open Go.RowKit

def cells (L : List Int) : List Value := L.map (Value.int .i64)
theorem cells_one (L : List Int) : ∀ u ∈ cells L, u.oneCell' = true := by
  intro u hu
  obtain ⟨x, _, rfl⟩ := List.mem_map.1 hu
  rfl
theorem cells_get (L : List Int) (j : Nat) (h : j < L.length) : (cells L)[j]? = some (.int .i64 (L.getD j 0)) := by
  simp [cells, List.getD, List.getElem?_eq_getElem h]
theorem cells_length (L : List Int) : (cells L).length = L.length := List.length_map _
theorem cells_append (A B : List Int) : cells (A ++ B) = cells A ++ cells B := List.map_append

/-- a stack lies at block b, over the blocks F, and holds L -/
def StackAt (w : World) (b : Nat) (F : List Nat) (L : List Int) : Prop :=
  ∃ v, Blk w b 94 #[v] ∧ F = b :: rowOf v ∧ b ∉ rowOf v ∧ w.ownsRow 0 33 1 v L.length (cells L)

theorem StackAt.touch {w w' : World} {b : Nat} {F G : List Nat} {L : List Int} (h : StackAt w b F L) (ht : Touch G w w') (hn : ∀ f, f ∈ F → f ∉ G) : StackAt w' b F L := by
  obtain ⟨v, hb, rfl, hnb, hr⟩ := h
  exact ⟨v, hb.touch ht (hn b (by simp)), rfl, hnb, row_touch hr ht fun g hg => hn g (by simp [hg])⟩
theorem StackAt.lt {w : World} {b : Nat} {F : List Nat} {L : List Int} (h : StackAt w b F L) : ∀ f, f ∈ F → f < w.heap.size := by
  obtain ⟨v, hb, rfl, hnb, hr⟩ := h
  intro f hf
  rcases List.mem_cons.1 hf with rfl | hf
  · exact hb.lt
  · exact row_lt hr hf

theorem New_any (w : World) : Calls Tryz.prog 52 #[] w fun e w' => e = .returned (.pointer (some ⟨w.heap.size, 0, none⟩)) ∧ StackAt w' w.heap.size [w.heap.size] [] ∧ Touch [] w w' := by
  go_enter Tryz.func52, Tryz.ntmps52
  go_wp2
  go_ret
  exact ⟨rfl, ⟨.slice none 0 0, Blk.new w _ _, rfl, by simp [rowOf], World.ownsRow_nil _ _ _ _⟩, (Touch.refl _ _).alloc _⟩

theorem row_value {w : World} {v : Value} {n : Nat} {xs : List Value} {e : TypeId} (h : w.ownsRow 0 e 1 v n xs) : ∃ a c, v = .slice a n c := by
  rcases Go.Joins.ownsRow_forms h with ⟨rfl, rfl⟩ | ⟨g, cap, rfl⟩
  · exact ⟨none, 0, rfl⟩
  · exact ⟨_, _, rfl⟩

theorem Depth_any (w : World) (b : Nat) (F : List Nat) (L : List Int) (h : StackAt w b F L) : Calls Tryz.prog 23 #[.pointer (some ⟨b, 0, none⟩)] w fun e w' => e = .returned (.int .i64 L.length) ∧ w = w' := by
  obtain ⟨v, hb, rfl, hnb, hr⟩ := h
  obtain ⟨a, c, rfl⟩ := row_value hr
  have c0 := hb.cell 0
  go_enter Tryz.func23, Tryz.ntmps23
  go_wp2
  go_ret
  exact ⟨rfl, rfl⟩

theorem info_cell : (Tryz.prog.info? 33).map (fun i => (i.zero, i.size, i.bytes)) = some (some (.int .i64 0), 1, 8) := by kernel_rfl
theorem info_cell' : ∃ i0, Tryz.prog.info? 33 = some i0 ∧ i0.zero = some (.int .i64 0) ∧ i0.size = 1 ∧ i0.bytes = 8 := by
  have h := info_cell
  cases hi : Tryz.prog.info? 33 with
  | none => rw [hi] at h; cases h
  | some i => rw [hi] at h; simp at h; exact ⟨i, rfl, h.1, h.2.1, h.2.2⟩

set_option maxHeartbeats 1000000 in
/-- slices.Clone of cells -/
theorem Clone_any (g off c : Nat) (L : List Int) (w : World) (hL : L.length ≤ 1000000) (hc : ∀ j u, (cells L)[j]? = some u → w.cell? ⟨g, off + j, none⟩ = some u) :
    Calls Tryz.prog 44 #[.slice (some ⟨g, off, none⟩) L.length c] w fun e w' =>
      ∃ v, e = .returned v ∧ w'.ownsRow w.heap.size 33 1 v L.length (cells L) ∧ v ≠ .slice none 0 0 ∧ Touch [] w w' := by
  obtain ⟨i0, hi, hz0, hz1, hz2⟩ := info_cell'
  have q : ∀ (w : World) (a : Option Addr) (n c n' c' : Nat), (binOp .eql 25 (.slice a n c) (.slice none n' c')).run Tryz.prog w = .ok (.bool a.isNone) w := fun w a n c n' c' => Lib.run_eql_slice_nil w _ _ a n c n' c' Tryz.underlying25
  obtain ⟨n, hn⟩ : ∃ n, L.length = n := ⟨_, rfl⟩
  have hcl : (cells L).length = n := by rw [cells_length, hn]
  rw [hn] at hL ⊢
  have A := Lib.hid hc
  clear hc hn
  go_enter Tryz.func44, Tryz.ntmps44
  go_wp2_with (at_builtin; refine wpList_append_own _ rfl _ _ 25 rfl w.heap.size 33 i0 (.int .i64 0) 1 8 Tryz.underlying25 hi hz0 hz1 hz2 rfl (by decide) _ _ _ rfl (World.ownsRow_made w #[] 0 (Nat.le_refl _) (Nat.zero_le _) rfl) ⟨g, off, none⟩ n c (cells L) rfl ?qc1 ?qc2 ?qc3 ?qc4 ?qc5 ?qc6 ?_)
  case qc1 => omega
  case qc2 =>
    intro j u hj
    rw [Addr.add_lit]
    exact Lib.cell?_alloc_some _ (A.out j u hj)
  case qc3 => exact cells_one L
  case qc4 => unfold maxLen; omega
  case qc5 => omega
  case qc6 => simp
  intro v' w1 hown hgrow hnil
  go_wp2
  go_ret
  refine ⟨v', rfl, by simpa using hown, hnil, Touch.of_below ?_ _⟩
  exact ((Below.refl _ w).alloc (Nat.le_refl _) _).grown hgrow (by simp) (by intro k hk; simp [Value.ownBlock] at hk; omega)

set_option maxHeartbeats 1000000 in
theorem Clone_nil (n c : Nat) (w : World) : Calls Tryz.prog 44 #[.slice none n c] w fun e w' => e = .returned (.slice none 0 0) ∧ w = w' := by
  have q : ∀ (w : World) (a : Option Addr) (n c n' c' : Nat), (binOp .eql 25 (.slice a n c) (.slice none n' c')).run Tryz.prog w = .ok (.bool a.isNone) w := fun w a n c n' c' => Lib.run_eql_slice_nil w _ _ a n c n' c' Tryz.underlying25
  go_enter Tryz.func44, Tryz.ntmps44
  go_wp2
  go_ret
  exact ⟨rfl, rfl⟩

/-- a shorter row -/
theorem row_take {w : World} {base : Nat} {e : TypeId} {g cap n m : Nat} {L : List Int} (h : w.ownsRow base e 1 (.slice (some ⟨g, 0, none⟩) n cap) n (cells L)) (hm : m ≤ n) :
    w.ownsRow base e 1 (.slice (some ⟨g, 0, none⟩) m cap) m (cells (L.take m)) := by
  obtain ⟨h1, h2⟩ := h
  rw [cells_length] at h1
  rcases h2 with ⟨h0, _⟩ | ⟨g', cap', cur, hv, hg, hh, hn', hcap, hsz, htake⟩
  · cases h0
  · cases hv
    refine ⟨by rw [cells_length, List.length_take]; omega, .inr ⟨g, cap, cur, rfl, hg, hh, by omega, hcap, hsz, ?_⟩⟩
    rw [cells, List.map_take, ← cells, ← htake, List.take_take]
    congr 1
    omega

theorem row_cap {w : World} {e : TypeId} {g cap n : Nat} {xs : List Value} (h : w.ownsRow 0 e 1 (.slice (some ⟨g, 0, none⟩) n cap) n xs) : n ≤ cap := by
  rcases h.2 with ⟨h0, _⟩ | ⟨g', cap', cur, hv, hg, hh, hn', hcap, _, _⟩
  · cases h0
  · cases hv; exact hn'

theorem row_drop {w : World} {e : TypeId} {g cap n : Nat} {L : List Int} (h : w.ownsRow 0 e 1 (.slice (some ⟨g, 0, none⟩) n cap) n (cells L)) (m : Nat) (j : Nat) (u : Value) (hj : (cells (L.drop m))[j]? = some u) :
    w.cell? ⟨g, m + j, none⟩ = some u := by
  rw [h.cellAt (m + j) ?_]
  · rw [cells, List.map_drop, List.getElem?_drop] at hj
    exact hj
  · have h1 := h.1
    rw [cells_length] at h1
    have h2 := (List.getElem?_eq_some_iff.1 hj).1
    rw [cells_length, List.length_drop] at h2
    omega
theorem clone_of {g off c n m : Nat} {L : List Int} (w : World) (hn : L.length = n) (hL : m + n ≤ 1000000) (hc : ∀ j u, (cells L)[j]? = some u → w.cell? ⟨g, off + j, none⟩ = some u) :
    Calls Tryz.prog 44 #[.slice (some ⟨g, off, none⟩) n c] w fun e w' =>
      ∃ v, e = .returned v ∧ w'.ownsRow w.heap.size 33 1 v n (cells L) ∧ v ≠ .slice none 0 0 ∧ Touch [] w w' := by
  subst hn
  exact Clone_any g off c L w (by omega) hc

set_option maxHeartbeats 2000000 in
theorem Take_ok (w : World) (b : Nat) (F : List Nat) (L : List Int) (h : StackAt w b F L) (n : Nat) (hn : n ≤ L.length) (hL : L.length ≤ 1000000) :
    Calls Tryz.prog 98 #[.pointer (some ⟨b, 0, none⟩), .int .i64 n] w fun e w' =>
      ∃ v, e = .returned (.tuple #[v, .int .i64 0]) ∧ w'.ownsRow w.heap.size 33 1 v n (cells (L.drop (L.length - n))) ∧ StackAt w' b F (L.take (L.length - n)) ∧ Touch F w w' := by
  have hD := Depth_any w b F L h
  obtain ⟨v, hb, rfl, hnb, hr⟩ := h
  have c0 := hb.cell 0
  have f0 := hb.frozen 0
  obtain ⟨m, hm⟩ : ∃ m, L.length - n = m := ⟨_, rfl⟩
  have hdl : (L.drop m).length = n := by rw [List.length_drop]; omega
  have htl : (L.take m).length = m := by rw [List.length_take]; omega
  have hlm : L.length = m + n := by omega
  rw [hm]
  rw [hlm] at hr hD hL
  rcases Go.Joins.ownsRow_forms hr with ⟨rfl, hn0⟩ | ⟨g, cap, rfl⟩
  · have hm0 : m = 0 := by omega
    have hn0' : n = 0 := by omega
    subst hm0 hn0'
    have hcl := Clone_nil 0 0 w
    go_enter Tryz.func98, Tryz.ntmps98
    go_wp2_with fail
    refine hD.mono ?_
    rintro _ _ ⟨rfl, rfl⟩
    go_wp2_with fail
    refine hcl.mono ?_
    rintro _ _ ⟨rfl, rfl⟩
    go_wp2
    go_ret2
    have hL0 : L = [] := List.eq_nil_of_length_eq_zero hlm
    subst hL0
    refine ⟨_, rfl, World.ownsRow_nil _ _ _ _, ⟨_, hb.set_ 0 _, rfl, hnb, World.ownsRow_nil _ _ _ _⟩, (Touch.refl _ _).setCell (by simp) _⟩
  · have hcap := row_cap hr
    have e1 : IntKind.i64.wrap (((m + n : Nat) : Int) - (n : Int)) = m := by rw [IntKind.wrap_i64]; omega
    have e2 : ¬ (n : Int) < 0 := by omega
    have e3 : ¬ (m : Int) < 0 := by omega
    go_enter Tryz.func98, Tryz.ntmps98
    go_wp2_with fail
    refine hD.mono ?_
    rintro _ _ ⟨rfl, rfl⟩
    have hrow := fun j u => row_drop hr m j u
    clear hD
    go_wp2_with fail
    case' inl => 
      refine (clone_of (off := 0) (c := 0) w hdl hL ?_).mono ?_
      · intro j u hj
        have hn0 : n = 0 := by omega
        rw [List.eq_nil_of_length_eq_zero (hdl.trans hn0)] at hj
        cases hj
    case' inr =>
      refine (clone_of w hdl hL hrow).mono ?_
    all_goals rintro _ w1 ⟨v', rfl, hown, hne, t1⟩
    all_goals have c1 := (hb.touch t1 (by simp)).cell 0
    all_goals have f1 := (hb.touch t1 (by simp)).frozen 0
    all_goals clear c0 f0 hrow
    all_goals go_wp2
    all_goals go_ret2
    all_goals have hB := hb.touch t1 (by simp)
    all_goals have hlt := hb.lt
    all_goals have htt := fun u => (t1.mono (G := [b]) (by simp)).setCell (p := ⟨b, 0, none⟩) (by simp) u
    all_goals try (have hcm : m = cap := by omega)
    all_goals try subst hcm
    all_goals refine ⟨v', rfl, ?_, ⟨_, hB.set_ 0 _, rfl, hnb, ?_⟩, (htt _).mono (G := b :: rowOf (.slice (some ⟨g, 0, none⟩) 0 0)) (fun k hk => .inl (by simp at hk; simp [hk]))⟩
    all_goals first | exact ownsRow_setCell_below hown hlt _ | (rw [htl]; refine row_touch (row_take hr ?_) (htt _) ?_ <;> first | omega | (intro k hk hkb; rw [List.mem_singleton.1 hkb] at hk; exact hnb hk))

theorem Take_under (w : World) (b : Nat) (F : List Nat) (L : List Int) (h : StackAt w b F L) (n : Nat) (hn : L.length < n) (hL : n ≤ 1000000) :
    Calls Tryz.prog 98 #[.pointer (some ⟨b, 0, none⟩), .int .i64 n] w fun e w' => e = .returned (.tuple #[.slice none 0 0, .int .i64 (-4)]) ∧ w = w' := by
  have hD := Depth_any w b F L h
  obtain ⟨len, hlen⟩ : ∃ len, L.length = len := ⟨_, rfl⟩
  rw [hlen] at hD hn
  clear hlen h
  have e1 : IntKind.i64.wrap ((len : Int) - (n : Int)) = len - n := by rw [IntKind.wrap_i64]; omega
  have e2 : ¬ (n : Int) < 0 := by omega
  have e3 : (len : Int) - n < 0 := by omega
  go_enter Tryz.func98, Tryz.ntmps98
  go_wp2_with fail
  refine hD.mono ?_
  rintro _ _ ⟨rfl, rfl⟩
  go_wp2
  go_ret2
  exact ⟨rfl, rfl⟩

theorem All_any (w : World) (b : Nat) (F : List Nat) (L : List Int) (h : StackAt w b F L) (hL : L.length ≤ 1000000) :
    Calls Tryz.prog 26 #[.pointer (some ⟨b, 0, none⟩)] w fun e w' => ∃ v, e = .returned v ∧ w'.ownsRow w.heap.size 33 1 v L.length (cells L) ∧ Touch [] w w' := by
  obtain ⟨v, hb, rfl, hnb, hr⟩ := h
  have c0 := hb.cell 0
  rcases Go.Joins.ownsRow_forms hr with ⟨rfl, hn0⟩ | ⟨g, cap, rfl⟩
  · have hL0 : L = [] := List.eq_nil_of_length_eq_zero hn0
    subst hL0
    have hcl := Clone_nil 0 0 w
    go_enter Tryz.func26, Tryz.ntmps26
    go_wp2_with fail
    refine hcl.mono ?_
    rintro _ _ ⟨rfl, rfl⟩
    go_wp2
    go_ret
    exact ⟨_, rfl, World.ownsRow_nil _ _ _ _, Touch.refl _ _⟩
  · have hcl := Clone_any g 0 cap L w hL (fun j u hj => by rw [hr.cellAt (0 + j) (by have := (List.getElem?_eq_some_iff.1 hj).1; rw [cells_length] at this; omega), Nat.zero_add]; exact hj)
    obtain ⟨len, hlen⟩ : ∃ len, L.length = len := ⟨_, rfl⟩
    rw [hlen] at hcl c0 ⊢
    clear hlen hr hb
    go_enter Tryz.func26, Tryz.ntmps26
    go_wp2_with fail
    refine hcl.mono ?_
    rintro _ w1 ⟨v', rfl, hown, hne, t1⟩
    go_wp2
    go_ret
    exact ⟨_, rfl, hown, t1⟩

set_option maxRecDepth 100000 in
set_option maxHeartbeats 2000000 in
/-- what is put lies in a row of its own, and there is room -/
theorem Put_ok (w : World) (b : Nat) (F : List Nat) (L : List Int) (h : StackAt w b F L) (g off c : Nat) (M : List Int) (hM : L.length + M.length ≤ 128) (hc : ∀ j u, (cells M)[j]? = some u → w.cell? ⟨g, off + j, none⟩ = some u) :
    Calls Tryz.prog 16 #[.pointer (some ⟨b, 0, none⟩), .slice (some ⟨g, off, none⟩) M.length c] w fun e w' =>
      ∃ F', e = .returned (.int .i64 0) ∧ StackAt w' b F' (L ++ M) ∧ Touch F w w' ∧ Sub w F F' := by
  obtain ⟨i0, hi, hz0, hz1, hz2⟩ := info_cell'
  obtain ⟨v, hb, rfl, hnb, hr⟩ := h
  have c0 := hb.cell 0
  have hbl := hb.lt
  obtain ⟨len, hlen⟩ : ∃ len, L.length = len := ⟨_, rfl⟩
  obtain ⟨n, hn⟩ : ∃ n, M.length = n := ⟨_, rfl⟩
  have hcl : (cells M).length = n * 1 := by rw [cells_length, hn, Nat.mul_one]
  have hLM : (L ++ M).length = len + n := by rw [List.length_append, hlen, hn]
  rw [hlen, hn] at hM
  rw [hlen] at hr
  rw [hn]
  have A := Lib.hid hc
  have B := Lib.hid hLM
  clear hc hn hlen hLM
  obtain ⟨a, cap, rfl⟩ := row_value hr
  have e1 : IntKind.i64.wrap (128 - (len : Int)) = 128 - len := by rw [IntKind.wrap_i64]; omega
  have e2 : ¬ (n : Int) > 128 - len := by omega
  go_enter Tryz.func16, Tryz.ntmps16
  go_wp2_with (at_builtin; refine wpList_append_own_at _ rfl _ _ 25 rfl 0 33 i0 (.int .i64 0) 1 8 Tryz.underlying25 hi hz0 hz1 hz2 rfl (by decide) _ _ _ rfl hr ⟨g, off, none⟩ n c (cells M) rfl hcl ?qc2 ?qc3 ?qc4 ?qc5 (Nat.zero_le _) ?_)
  case qc2 =>
    intro j u hj
    exact A.out j u hj
  case qc3 => exact cells_one M
  case qc4 => unfold maxLen; omega
  case qc5 => omega
  intro v' w1 hown hgrow hnil hloc
  have hB : Blk w1 b 94 #[.slice a len cap] := hb.grown hgrow (fun e => hnb (rowOf_mem.2 e.symm))
  have hf1 := hB.frozen 0
  have c1 := hB.cell 0
  have htt := fun u => ((Touch.refl (b :: rowOf (.slice a len cap)) w).grown hgrow (fun k hk => .inl (by simp [rowOf_mem, hk]))).setCell (p := ⟨b, 0, none⟩) (by simp) u
  have hnb' : b ∉ rowOf v' := fun hb' => by
    rcases hloc with e | e
    · exact hnb (rowOf_mem.2 (e ▸ rowOf_mem.1 hb'))
    · rw [rowOf_mem.1 hb'] at e
      simp at e
      omega
  have hsub : Sub w (b :: rowOf (.slice a len cap)) (b :: rowOf v') := by
    intro f hf
    rcases List.mem_cons.1 hf with rfl | hf
    · exact .inl (by simp)
    · rcases hloc with e | e
      · exact .inl (by simp [rowOf_mem, ← e, rowOf_mem.1 hf])
      · rw [rowOf_mem.1 hf] at e
        simp at e
        exact .inr (by omega)
  clear hloc hnil hgrow hr
  rw [← cells_append] at hown
  obtain ⟨a', c', rfl⟩ := row_value hown
  have H1 := Lib.hid htt
  have H2 := Lib.hid hown
  have H3 := Lib.hid hsub
  have H4 := Lib.hid hB
  clear htt hown hsub hB c0 hb
  go_wp2
  go_ret
  refine ⟨_, rfl, ⟨_, H4.out.set_ 0 _, rfl, hnb', ?_⟩, H1.out _, H3.out⟩
  rw [B.out]
  exact row_touch H2.out ((Touch.refl [b] w1).setCell (by simp) _) (fun k hk hkb => hnb' (by rw [List.mem_singleton.1 hkb] at hk; exact hk))
end Go.Proofs.YtdokeddjcpnmiaaGreatDoor

/- The contracts of package stack: Push, and Put of nothing or of too much. -/
namespace Go.Proofs.YtdokeddjcpnmiaaGreatDoor
open Go.RowKit

set_option maxHeartbeats 1000000 in
theorem Put_none (w : World) (b : Nat) (F : List Nat) (L : List Int) (h : StackAt w b F L) (hL : L.length ≤ 128) :
    Calls Tryz.prog 16 #[.pointer (some ⟨b, 0, none⟩), .slice none 0 0] w fun e w' => e = .returned (.int .i64 0) ∧ StackAt w' b F L ∧ Touch F w w' := by
  obtain ⟨i0, hi, hz0, hz1, hz2⟩ := info_cell'
  obtain ⟨v, hb, rfl, hnb, hr⟩ := h
  have c0 := hb.cell 0
  have f0 := hb.frozen 0
  obtain ⟨len, hlen⟩ : ∃ len, L.length = len := ⟨_, rfl⟩
  rw [hlen] at hL
  obtain ⟨a, cap, rfl⟩ := row_value hr
  rw [hlen] at hr
  have H1 := Lib.hid hb
  have H2 := Lib.hid hlen
  rw [hlen] at c0 H1 hnb ⊢
  have e1 : IntKind.i64.wrap (128 - (len : Int)) = 128 - len := by rw [IntKind.wrap_i64]; omega
  have e2 : ¬ (0 : Int) > 128 - len := by omega
  clear hb hlen
  go_enter Tryz.func16, Tryz.ntmps16
  go_wp2_with (at_builtin; refine wpList_append_own_none rfl _ _ 25 rfl 0 33 i0 1 Tryz.underlying25 hi _ _ _ rfl hr rfl ?_)
  go_wp2
  go_ret
  have htt := fun u => (Touch.refl [b] w).setCell (p := ⟨b, 0, none⟩) (by simp) u
  refine ⟨rfl, ⟨_, H1.out.set_ 0 _, rfl, hnb, ?_⟩, (htt _).mono (G := b :: rowOf (.slice a len cap)) (fun k hk => .inl (by simp at hk; simp [hk]))⟩
  rw [H2.out]
  exact row_touch hr (htt _) (fun k hk hkb => hnb (by rw [List.mem_singleton.1 hkb] at hk; exact hk))

set_option maxHeartbeats 1000000 in
theorem Put_over (w : World) (b : Nat) (F : List Nat) (L : List Int) (h : StackAt w b F L) (hL : L.length ≤ 128) (a : Option Addr) (n c : Nat) (hn : 128 < L.length + n) :
    Calls Tryz.prog 16 #[.pointer (some ⟨b, 0, none⟩), .slice a n c] w fun e w' => e = .returned (.int .i64 (-3)) ∧ w = w' := by
  obtain ⟨v, hb, rfl, hnb, hr⟩ := h
  have c0 := hb.cell 0
  obtain ⟨len, hlen⟩ : ∃ len, L.length = len := ⟨_, rfl⟩
  rw [hlen] at hL hn
  obtain ⟨a, cap, rfl⟩ := row_value hr
  rw [hlen] at c0
  have e1 : IntKind.i64.wrap (128 - (len : Int)) = 128 - len := by rw [IntKind.wrap_i64]; omega
  have e2 : (n : Int) > 128 - len := by omega
  clear hb hlen hr
  go_enter Tryz.func16, Tryz.ntmps16
  go_wp2
  go_ret
  exact ⟨rfl, rfl⟩

theorem StackAt.alloc {w : World} {b : Nat} {F : List Nat} {L : List Int} (h : StackAt w b F L) (o : Obj) : StackAt (w.alloc o) b F L := h.touch ((Touch.refl [] w).alloc o) (by simp)

set_option maxHeartbeats 1000000 in
theorem Push_ok (w : World) (b : Nat) (F : List Nat) (L : List Int) (h : StackAt w b F L) (hL : L.length < 128) (x : Int) :
    Calls Tryz.prog 33 #[.pointer (some ⟨b, 0, none⟩), .int .i64 x] w fun e w' =>
      ∃ F', e = .returned (.int .i64 0) ∧ StackAt w' b F' (L ++ [x]) ∧ Touch F w w' ∧ Sub w F F' := by
  have hp := Put_ok (w.alloc (.cells #[.int .i64 x] 33)) b F L (h.alloc _) w.heap.size 0 1 [x] (by simp; omega)
    (fun j u hj => by
      have h2 := (List.getElem?_eq_some_iff.1 hj).1
      have hj0 : j = 0 := by simp [cells] at h2; omega
      subst hj0
      rw [(Blk.new w 33 #[.int .i64 x]).cell (0 + 0)]
      simpa [cells] using hj)
  rw [show ([x] : List Int).length = 1 from rfl] at hp
  clear h
  go_enter Tryz.func33, Tryz.ntmps33
  go_wp2_with fail
  refine hp.mono ?_
  rintro _ w1 ⟨F', rfl, hs, t1, hsub⟩
  go_wp2
  go_ret
  exact ⟨F', rfl, hs, ((Touch.refl F w).alloc _).trans t1 (fun k hk => .inl hk), Sub.trans (Sub.refl w F) hsub (by simp)⟩

set_option maxHeartbeats 1000000 in
theorem Push_over (w : World) (b : Nat) (F : List Nat) (L : List Int) (h : StackAt w b F L) (hL : L.length = 128) (x : Int) :
    Calls Tryz.prog 33 #[.pointer (some ⟨b, 0, none⟩), .int .i64 x] w fun e w' => e = .returned (.int .i64 (-3)) ∧ Touch [] w w' := by
  have hp := Put_over (w.alloc (.cells #[.int .i64 x] 33)) b F L (h.alloc _) (by omega) (some ⟨w.heap.size, 0, none⟩) 1 1 (by omega)
  clear h
  go_enter Tryz.func33, Tryz.ntmps33
  go_wp2_with fail
  refine hp.mono ?_
  rintro _ w1 ⟨rfl, rfl⟩
  go_wp2
  go_ret
  exact ⟨rfl, (Touch.refl _ _).alloc _⟩
end Go.Proofs.YtdokeddjcpnmiaaGreatDoor

/- The memory: bytes in a row, of which some are given out. -/
namespace Go.Proofs.YtdokeddjcpnmiaaGreatDoor
open Go.RowKit

def bytesV (bs : List Int) : List Value := bs.map (Value.int .u8)
def Bytes (bs : List Int) : Prop := ∀ x ∈ bs, 0 ≤ x ∧ x ≤ 255
structure MemAt (w : World) (m g n : Nat) (bs : List Int) (here : Nat) : Prop where
  blk : Blk w m 144 #[.slice (some ⟨g, 0, none⟩) n n, .int .i64 here]
  row : Blk w g 5 (bytesV bs).toArray
  len : bs.length = n
  byte : Bytes bs
  small : n ≤ 65536
  low : here ≤ n
section
variable {w w' : World} {m g n here : Nat} {bs : List Int}
theorem MemAt.touch {F : List Nat} (h : MemAt w m g n bs here) (t : Touch F w w') (h1 : m ∉ F) (h2 : g ∉ F) : MemAt w' m g n bs here := ⟨h.blk.touch t h1, h.row.touch t h2, h.len, h.byte, h.small, h.low⟩
theorem MemAt.ne (h : MemAt w m g n bs here) : m ≠ g := by
  intro e
  have h1 := h.blk
  have h2 := h.row
  subst e
  unfold Blk at h1 h2
  rw [h1] at h2
  injection h2 with h2
  injection h2 with _ h2 _
  cases h2
theorem MemAt.cell (h : MemAt w m g n bs here) {i : Nat} (hi : i < n) : w.cell? ⟨g, i, none⟩ = some (.int .u8 (bs.getD i 0)) := by
  rw [h.row.cell i]
  simp [bytesV, List.getD, List.getElem?_eq_getElem (show i < bs.length by rw [h.len]; exact hi)]
theorem Bytes.getD (h : Bytes bs) (i : Nat) : 0 ≤ bs.getD i 0 ∧ bs.getD i 0 ≤ 255 := by
  rw [List.getD]
  cases e : bs[i]? with
  | none => simp
  | some x => exact h x (List.mem_of_getElem? e)

theorem Size_any (h : MemAt w m g n bs here) : Calls Tryz.prog 245 #[.pointer (some ⟨m, 0, none⟩)] w fun e w' => e = .returned (.int .i64 n) ∧ w = w' := by
  have c0 := h.blk.cell 0
  clear h
  go_enter Tryz.func245, Tryz.ntmps245
  go_wp2
  go_ret
  exact ⟨rfl, rfl⟩
theorem Here_any (h : MemAt w m g n bs here) : Calls Tryz.prog 88 #[.pointer (some ⟨m, 0, none⟩)] w fun e w' => e = .returned (.int .i64 here) ∧ w = w' := by
  have c0 := h.blk.cell 1
  clear h
  go_enter Tryz.func88, Tryz.ntmps88
  go_wp2
  go_ret
  exact ⟨rfl, rfl⟩
set_option maxHeartbeats 1000000 in
theorem piece_ok (h : MemAt w m g n bs here) (p k : Nat) (hk : p + k ≤ n) : Calls Tryz.prog 144 #[.pointer (some ⟨m, 0, none⟩), .int .i64 p, .int .i64 k] w fun e w' => ∃ a, e = .returned (.tuple #[.slice (some a) k k, .int .i64 0]) ∧ (0 < k → a = ⟨g, p, none⟩) ∧ Touch [] w w' := by
  have hS := Size_any h
  have c0 := h.blk.cell 0
  have hs := h.small
  have e1 : IntKind.i64.wrap ((n : Int) - p) = n - p := by rw [IntKind.wrap_i64]; omega
  have e2 : IntKind.i64.wrap ((p : Int) + k) = (p + k : Nat) := by rw [IntKind.wrap_i64]; omega
  have g1 : ¬ (p : Int) < 0 := by omega
  have g2 : ¬ (p : Int) > n := by omega
  have g3 : ¬ (k : Int) < 0 := by omega
  have g4 : ¬ (k : Int) > n - p := by omega
  clear h
  go_enter Tryz.func144, Tryz.ntmps144
  go_wp2_with fail
  refine hS.mono ?_
  rintro _ _ ⟨rfl, rfl⟩
  clear hS
  go_wp2_with fail
  all_goals go_ret2
  · obtain rfl : k = 0 := by omega
    exact ⟨⟨g, 0, none⟩, rfl, fun h => by omega, Touch.refl _ _⟩
  · exact ⟨⟨g, p, none⟩, rfl, fun _ => rfl, Touch.refl _ _⟩
set_option maxHeartbeats 1000000 in
theorem piece_bad (h : MemAt w m g n bs here) (p k : Int) (hk : p < 0 ∨ n < p ∨ k < 0 ∨ n - p < k) : Calls Tryz.prog 144 #[.pointer (some ⟨m, 0, none⟩), .int .i64 p, .int .i64 k] w fun e w' => e = .returned (.tuple #[.slice none 0 0, .int .i64 (-9)]) ∧ Touch [] w w' := by
  have hS := Size_any h
  have c0 := h.blk.cell 0
  have hs := h.small
  have hcase : p < 0 ∨ (¬ p < 0 ∧ p > n) ∨ (¬ p < 0 ∧ ¬ p > n ∧ k < 0) ∨ (¬ p < 0 ∧ ¬ p > n ∧ ¬ k < 0 ∧ IntKind.i64.wrap ((n : Int) - p) = n - p ∧ k > n - p) := by
    by_cases h1 : p < 0
    · exact .inl h1
    · by_cases h2 : p > n
      · exact .inr (.inl ⟨h1, h2⟩)
      · by_cases h3 : k < 0
        · exact .inr (.inr (.inl ⟨h1, h2, h3⟩))
        · exact .inr (.inr (.inr ⟨h1, h2, h3, by rw [IntKind.wrap_i64]; omega, by omega⟩))
  clear h hk
  rcases hcase with h1 | ⟨h1, h2⟩ | ⟨h1, h2, h3⟩ | ⟨h1, h2, h3, h4, h5⟩
  all_goals
    go_enter Tryz.func144, Tryz.ntmps144
    go_wp2_with fail
    refine hS.mono ?_
    rintro _ _ ⟨rfl, rfl⟩
    go_wp2_with fail
    all_goals go_ret2
    all_goals exact ⟨rfl, Touch.refl _ _⟩
set_option maxHeartbeats 1000000 in
theorem cell_ok (h : MemAt w m g n bs here) (p : Nat) (hp : p + 8 ≤ n) (ha : p % 8 = 0) : Calls Tryz.prog 118 #[.pointer (some ⟨m, 0, none⟩), .int .i64 p] w fun e w' => e = .returned (.tuple #[.slice (some ⟨g, p, none⟩) 8 8, .int .i64 0]) ∧ Touch [] w w' := by
  have hP := piece_ok h p 8 hp
  have hs := h.small
  have e1 : (p : Int).tmod 8 = 0 := by rw [Int.tmod_eq_emod_of_nonneg (by omega)]; omega
  clear h
  go_enter Tryz.func118, Tryz.ntmps118
  go_wp2_with fail
  refine hP.mono ?_
  rintro _ w1 ⟨a, rfl, ha, t1⟩
  obtain rfl := ha (by decide)
  clear hP
  go_wp2_with fail
  go_ret2
  exact ⟨rfl, t1⟩
set_option maxHeartbeats 1000000 in
theorem cell_bad (h : MemAt w m g n bs here) (p : Int) (hp : ¬ (0 ≤ p ∧ p + 8 ≤ n ∧ p % 8 = 0)) : Calls Tryz.prog 118 #[.pointer (some ⟨m, 0, none⟩), .int .i64 p] w fun e w' => (∃ c, e = .returned (.tuple #[.slice none 0 0, .int .i64 c]) ∧ c = (if 0 ≤ p ∧ p + 8 ≤ n then -23 else -9)) ∧ Touch [] w w' := by
  by_cases hin : 0 ≤ p ∧ p + 8 ≤ n
  · obtain ⟨q, rfl⟩ : ∃ q : Nat, p = q := ⟨p.toNat, by omega⟩
    rw [if_pos hin]
    have hP := piece_ok h q 8 (by omega)
    have e1 : ¬ (q : Int) % 8 = 0 := by omega
    have e1' : ((q : Int) % 8 != 0) = true := by simpa using e1
    clear h hin hp
    go_enter Tryz.func118, Tryz.ntmps118
    go_wp2_with fail
    refine hP.mono ?_
    rintro _ w1 ⟨a, rfl, ha, t1⟩
    clear hP ha
    go_wp2_with fail
    go_ret2
    exact ⟨⟨_, rfl, rfl⟩, t1⟩
  · rw [if_neg hin]
    have hP := piece_bad h p 8 (by omega)
    clear h hin hp
    go_enter Tryz.func118, Tryz.ntmps118
    go_wp2_with fail
    refine hP.mono ?_
    rintro _ w1 ⟨rfl, t1⟩
    clear hP
    go_wp2_with fail
    go_ret2
    exact ⟨⟨_, rfl, rfl⟩, t1⟩
/-- the cell at a place, from its bytes -/
def orF (bs : List Int) (p : Nat) : Nat → Int
  | 0 => 0
  | i + 1 => bits .or .i64 (orF bs p i) (wrap64 (bs.getD (p + i) 0 * 2 ^ (8 * i)))
def getF (bs : List Int) (p : Nat) : Int := orF bs p 8
set_option maxRecDepth 100000 in
set_option maxHeartbeats 1000000 in
theorem Get_ok (h : MemAt w m g n bs here) (p : Nat) (hp : p + 8 ≤ n) (ha : p % 8 = 0) : Calls Tryz.prog 195 #[.pointer (some ⟨m, 0, none⟩), .int .i64 p] w fun e w' => e = .returned (.tuple #[.int .i64 (getF bs p), .int .i64 0]) ∧ Touch [] w w' := by
  have hC := cell_ok h p hp ha
  have H := Lib.hid h
  have hs := h.small
  clear h
  go_enter Tryz.func195, Tryz.ntmps195
  go_wp2_with fail
  refine hC.mono ?_
  rintro _ w1 ⟨rfl, t1⟩
  clear hC
  go_wp2_with fail
  go_loopw [19, 8] (fun i xv wr => ∃ j : Nat, j ≤ 8 ∧ i = .int .i64 j ∧ xv = .int .i64 (orF bs p j) ∧ Touch [] w wr) (fun i _ _ => 8 - (intOf i).toNat)
  case atStart => exact ⟨0, Nat.zero_le _, rfl, rfl, t1⟩
  case round =>
    obtain ⟨j, hj, rfl, rfl, t2⟩ := hrel
    clear t1
    by_cases hlt : j < 8
    · have hlt2 : (j : Int) < 8 := by omega
      have hc := (H.out.touch t2 (by simp) (by simp)).cell (i := p + j) (by omega)
      have hb := H.out.byte.getD (p + j)
      obtain ⟨c, hcc⟩ : ∃ c, bs.getD (p + j) 0 = c := ⟨_, rfl⟩
      rw [hcc] at hc hb
      have ek : IntKind.i64.wrap ((j : Int) + 1) = (j + 1 : Nat) := by rw [IntKind.wrap_i64]; omega
      have e8 : IntKind.i64.wrap (8 * (j : Int)) = 8 * j := by rw [IntKind.wrap_i64]; omega
      have ec : IntKind.i64.wrap c = c := by rw [IntKind.wrap_i64]; omega
      have T2 := Lib.hid t2
      have HC := Lib.hid hcc
      clear t2 hcc
      go_wp2_with fail
      go_roundw
      case rel => exact ⟨j + 1, by omega, vint (by omega), by rw [orF, HC.out], T2.out⟩
      case measure => simp only [intOf]; omega
    · obtain rfl : j = 8 := by omega
      have T2 := Lib.hid t2
      clear t2 hlt
      go_wp2_with fail
      go_ret2
      exact ⟨rfl, T2.out⟩
set_option maxRecDepth 100000 in
set_option maxHeartbeats 1000000 in
theorem Get_bad (h : MemAt w m g n bs here) (p : Int) (hp : ¬ (0 ≤ p ∧ p + 8 ≤ n ∧ p % 8 = 0)) : Calls Tryz.prog 195 #[.pointer (some ⟨m, 0, none⟩), .int .i64 p] w fun e w' => e = .returned (.tuple #[.int .i64 0, .int .i64 (if 0 ≤ p ∧ p + 8 ≤ n then -23 else -9)]) ∧ Touch [] w w' := by
  have hC := cell_bad h p hp
  clear h hp
  obtain ⟨c, hc⟩ : ∃ c : Int, (if 0 ≤ p ∧ p + 8 ≤ (n : Int) then (-23 : Int) else -9) = c := ⟨_, rfl⟩
  rw [hc] at hC ⊢
  clear hc
  go_enter Tryz.func195, Tryz.ntmps195
  go_wp2_with fail
  refine hC.mono ?_
  rintro _ w1 ⟨⟨_, rfl, rfl⟩, t1⟩
  clear hC
  go_wp2_with fail
  go_loopw [19, 8] (fun i xv wr => i = .int .i64 0 ∧ xv = .int .i64 0 ∧ Touch [] w wr) (fun i _ _ => 8 - (intOf i).toNat)
  case atStart => exact ⟨rfl, rfl, t1⟩
  case round =>
    obtain ⟨rfl, rfl, t2⟩ := hrel
    clear t1
    go_wp2_with fail
    go_ret2
    exact ⟨rfl, t2⟩

/-- a cell as bytes -/
def putF (bs : List Int) (p : Nat) (x : Int) : Nat → List Int
  | 0 => bs
  | i + 1 => (putF bs p x i).set (p + i) (x / 2 ^ (8 * i) % 256)
theorem putF_len (bs : List Int) (p : Nat) (x : Int) : ∀ i, (putF bs p x i).length = bs.length
  | 0 => rfl
  | i + 1 => by rw [putF, List.length_set, putF_len bs p x i]
theorem u8_range (x : Int) : 0 ≤ x % 256 ∧ x % 256 ≤ 255 := by omega
theorem Bytes.set (h : Bytes bs) (i : Nat) {x : Int} (hx : 0 ≤ x ∧ x ≤ 255) : Bytes (bs.set i x) := fun y hy => by
  rcases List.mem_or_eq_of_mem_set hy with h1 | h1
  · exact h y h1
  · rw [h1]; exact hx
theorem MemAt.store (h : MemAt w m g n bs here) (i : Nat) {x : Int} (hx : 0 ≤ x ∧ x ≤ 255) : MemAt (w.setCell ⟨g, i, none⟩ (.int .u8 x)) m g n (bs.set i x) here := by
  refine ⟨h.blk.far (fun e => h.ne e) _, ?_, by rw [List.length_set]; exact h.len, h.byte.set i hx, h.small, h.low⟩
  have h1 := h.row.set_ i (.int .u8 x)
  have e : (bytesV bs).toArray.setIfInBounds i (.int .u8 x) = (bytesV (bs.set i x)).toArray := by
    simp [bytesV, List.setIfInBounds_toArray, List.map_set]
  rw [e] at h1
  exact h1
set_option maxRecDepth 100000 in
set_option maxHeartbeats 1000000 in
theorem MPut_ok (h : MemAt w m g n bs here) (p : Nat) (x : Int) (hp : p + 8 ≤ n) (ha : p % 8 = 0) : Calls Tryz.prog 90 #[.pointer (some ⟨m, 0, none⟩), .int .i64 p, .int .i64 x] w fun e w' => e = .returned (.int .i64 0) ∧ MemAt w' m g n (putF bs p x 8) here ∧ Touch [g] w w' := by
  have hC := cell_ok h p hp ha
  have H := Lib.hid h
  have hs := h.small
  clear h
  go_enter Tryz.func90, Tryz.ntmps90
  go_wp2_with fail
  refine hC.mono ?_
  rintro _ w1 ⟨rfl, t1⟩
  clear hC
  go_wp2_with fail
  go_loopw [18] (fun i wr => ∃ j : Nat, j ≤ 8 ∧ i = .int .i64 j ∧ MemAt wr m g n (putF bs p x j) here ∧ Touch [g] w wr) (fun i _ => 8 - (intOf i).toNat)
  case atStart => exact ⟨0, Nat.zero_le _, rfl, H.out.touch t1 (by simp) (by simp), t1.mono (by simp)⟩
  case round =>
    obtain ⟨j, hj, rfl, hM, t2⟩ := hrel
    clear t1
    by_cases hlt : j < 8
    · have hlt2 : (j : Int) < 8 := by omega
      have hc := hM.cell (i := p + j) (by omega)
      have hf := hM.row.frozen (p + j)
      have hM2 := hM.store (p + j) (u8_range (x / 2 ^ (8 * j)))
      have t3 := t2.setCell (p := ⟨g, p + j, none⟩) (.inl (by simp)) (.int .u8 (x / 2 ^ (8 * j) % 256))
      have ek : IntKind.i64.wrap ((j : Int) + 1) = (j + 1 : Nat) := by rw [IntKind.wrap_i64]; omega
      have e8 : IntKind.i64.wrap (8 * (j : Int)) = 8 * j := by rw [IntKind.wrap_i64]; omega
      have HM := Lib.hid (And.intro hM2 t3)
      clear hM t2 hM2 t3
      go_wp2_with fail
      go_roundw
      case rel => exact ⟨j + 1, by omega, vint (by omega), HM.out.1, HM.out.2⟩
      case measure => simp only [intOf]; omega
    · obtain rfl : j = 8 := by omega
      have HM := Lib.hid (And.intro hM t2)
      clear t2 hlt hM
      go_wp2_with fail
      go_ret
      exact ⟨rfl, HM.out.1, HM.out.2⟩
end
end Go.Proofs.YtdokeddjcpnmiaaGreatDoor

/- The memory: made, given out, told as text. -/
namespace Go.Proofs.YtdokeddjcpnmiaaGreatDoor
open Go.RowKit

theorem info_u8 : (Tryz.prog.info? 5).map (fun i => (i.zero, i.size, i.bytes)) = some (some (.int .u8 0), 1, 1) := by kernel_rfl
theorem info_u8' : ∃ i0, Tryz.prog.info? 5 = some i0 ∧ i0.zero = some (.int .u8 0) ∧ i0.size = 1 ∧ i0.bytes = 1 := by
  have h := info_u8
  cases hi : Tryz.prog.info? 5 with
  | none => rw [hi] at h; cases h
  | some i => rw [hi] at h; simp at h; exact ⟨i, rfl, h.1, h.2.1, h.2.2⟩
section
variable {w w' : World} {m g n here : Nat} {bs : List Int}
theorem make_bytes (n : Nat) (hn : n ≤ 65536) (w : World) : (Instr.makeSlice 90 (.int .i64 (n : Int)) (.int .i64 (n : Int))).run Tryz.prog w = .ok (.slice (some ⟨w.heap.size, 0, none⟩) n n) (w.alloc (.cells (bytesV (List.replicate n 0)).toArray 5)) := by
  obtain ⟨i0, hi0, hz0, hz1, hz2⟩ := info_u8'
  have h := run_makeSlice (w := w) (P := Tryz.prog) 90 5 i0 _ Tryz.underlying90 hi0 hz0 .i64 .i64 n n (by omega) (Int.le_refl _) (by rw [hz1]; omega) (by rw [hz2]; omega) (by omega)
  rw [hz1] at h
  have e : madeCells (Value.cells (.int .u8 0)) ((n : Int).toNat * 1) = (bytesV (List.replicate n 0)).toArray := by
    apply Array.ext
    · simp [madeCells, bytesV]
    · intro i h1 h2
      simp [madeCells, bytesV, Nat.mod_one, Value.cells]
  rw [e] at h
  simpa using h
set_option maxHeartbeats 1000000 in
theorem MNew_ok (n : Nat) (h1 : 1024 ≤ n) (h2 : n ≤ 65536) (h3 : n % 8 = 0) (w : World) : Calls Tryz.prog 50 #[.int .i64 n] w fun e w' => e = .returned (.tuple #[.pointer (some ⟨w.heap.size + 1, 0, none⟩), .int .i64 0]) ∧ MemAt w' (w.heap.size + 1) w.heap.size n (List.replicate n 0) 0 ∧ Touch [] w w' := by
  have hm := make_bytes n h2
  have g1 : ¬ (n : Int) < 1024 := by omega
  have g2 : ¬ (n : Int) > 65536 := by omega
  have g3 : (n : Int).tmod 8 = 0 := by rw [Int.tmod_eq_emod_of_nonneg (by omega)]; omega
  have g4 : (n : Int) % 8 = 0 := by omega
  have bR := (Blk.new w 5 (bytesV (List.replicate n 0)).toArray).alloc (.cells #[.slice (some ⟨w.heap.size, 0, none⟩) n n, .int .i64 0] 144)
  have bM := Blk.new_at (n := w.heap.size + 1) (w.alloc (.cells (bytesV (List.replicate n 0)).toArray 5)) (by simp) 144 #[.slice (some ⟨w.heap.size, 0, none⟩) n n, .int .i64 0]
  have t := ((Touch.refl [] w).alloc (.cells (bytesV (List.replicate n 0)).toArray 5)).alloc (.cells #[.slice (some ⟨w.heap.size, 0, none⟩) n n, .int .i64 0] 144)
  have hfin : MemAt _ (w.heap.size + 1) w.heap.size n (List.replicate n 0) 0 := ⟨bM, bR, by simp, fun x hx => by rw [List.eq_of_mem_replicate hx]; decide, h2, Nat.zero_le _⟩
  have HF := Lib.hid (And.intro hfin t)
  clear hfin t bR bM h1 h2 h3
  go_enter Tryz.func50, Tryz.ntmps50
  go_wp2_with fail
  go_ret2
  exact ⟨rfl, HF.out.1, HF.out.2⟩
set_option maxHeartbeats 1000000 in
theorem Allot_ok (h : MemAt w m g n bs here) (k : Int) (h1 : k ≤ n - 512 - here) (h2 : -(here : Int) ≤ k) (here' : Nat) (hh : (here' : Int) = here + k) (h3 : 512 ≤ n) : Calls Tryz.prog 89 #[.pointer (some ⟨m, 0, none⟩), .int .i64 k] w fun e w' => e = .returned (.int .i64 0) ∧ MemAt w' m g n bs here' ∧ Touch [m] w w' := by
  have c0 := h.blk.cell 0
  have c1 := h.blk.cell 1
  have f1 := h.blk.frozen 1
  have hs := h.small
  have hl := h.low
  have e1 : IntKind.i64.wrap ((n : Int) - 512) = n - 512 := by rw [IntKind.wrap_i64]; omega
  have e2 : IntKind.i64.wrap ((n : Int) - 512 - here) = n - 512 - here := by rw [IntKind.wrap_i64]; omega
  have e3 : IntKind.i64.wrap (-(here : Int)) = -here := by rw [IntKind.wrap_i64]; omega
  have e4 : IntKind.i64.wrap ((here : Int) + k) = here' := by rw [IntKind.wrap_i64]; omega
  have g1 : ¬ k > n - 512 - here := by omega
  have g2 : ¬ k < -(here : Int) := by omega
  have hlow : here' ≤ n := by omega
  have H := Lib.hid (And.intro h hlow)
  clear h h1 h2 hh h3 hlow
  go_enter Tryz.func89, Tryz.ntmps89
  go_upto_region 3 with fail
  go_quiet (fail)
  go_wp2_with fail
  go_ret
  refine ⟨rfl, ⟨(H.out.1.blk.drewN nq).set_ 1 _, (H.out.1.row.drewN nq).far (fun e => H.out.1.ne e.symm) _, H.out.1.len, H.out.1.byte, H.out.1.small, H.out.2⟩, ((Touch.refl [m] w).drewN nq).setCell (by simp) _⟩
set_option maxHeartbeats 1000000 in
theorem Allot_bad (h : MemAt w m g n bs here) (k : Int) (hk : (n : Int) - 512 - here < k ∨ k < -(here : Int)) (h3 : 512 ≤ n) : Calls Tryz.prog 89 #[.pointer (some ⟨m, 0, none⟩), .int .i64 k] w fun e w' => e = .returned (.int .i64 (-8)) ∧ Touch [] w w' := by
  have c0 := h.blk.cell 0
  have c1 := h.blk.cell 1
  have hs := h.small
  have hl := h.low
  have e1 : IntKind.i64.wrap ((n : Int) - 512) = n - 512 := by rw [IntKind.wrap_i64]; omega
  have e2 : IntKind.i64.wrap ((n : Int) - 512 - here) = n - 512 - here := by rw [IntKind.wrap_i64]; omega
  have e3 : IntKind.i64.wrap (-(here : Int)) = -here := by rw [IntKind.wrap_i64]; omega
  have hc : k > n - 512 - here ∨ (¬ k > n - 512 - here ∧ k < -(here : Int)) := by omega
  clear h hk h3
  rcases hc with g1 | ⟨g1, g2⟩
  all_goals
    go_enter Tryz.func89, Tryz.ntmps89
    go_upto_region 3 with fail
    go_quiet (fail)
    go_wp2_with fail
    go_ret
    exact ⟨rfl, (Touch.refl [] w).drewN _⟩
set_option maxHeartbeats 1000000 in
theorem Comma_ok (h : MemAt w m g n bs here) (x : Int) (h8 : here % 8 = 0) (h1 : here + 8 + 512 ≤ n) : Calls Tryz.prog 51 #[.pointer (some ⟨m, 0, none⟩), .int .i64 x] w fun e w' => e = .returned (.int .i64 0) ∧ MemAt w' m g n (putF bs here x 8) (here + 8) ∧ Touch [m, g] w w' := by
  have hH := Here_any h
  have hA := Allot_ok h 8 (by omega) (by omega) (here + 8) (by omega) (by omega)
  have e1 : (here : Int) % 8 = 0 := by omega
  have H := Lib.hid h8
  clear h
  go_enter Tryz.func51, Tryz.ntmps51
  go_wp2_with fail
  refine hH.mono ?_
  rintro _ _ ⟨rfl, rfl⟩
  clear hH
  go_wp2_with fail
  refine hA.mono ?_
  rintro _ w1 ⟨rfl, hM, t1⟩
  have hP := MPut_ok hM here x (by omega) H.out
  clear hA hM
  go_wp2_with fail
  refine hP.mono ?_
  rintro _ w2 ⟨rfl, hM, t2⟩
  clear hP
  go_wp2_with fail
  go_ret
  exact ⟨rfl, hM, (t1.mono (G := [m, g]) (by simp)).trans t2 (by simp)⟩
end
end Go.Proofs.YtdokeddjcpnmiaaGreatDoor

/- The contract of stack's Put, wherever the cells lie that came in. -/
namespace Go.Proofs.YtdokeddjcpnmiaaGreatDoor
open Go.RowKit

theorem add_off (g off j : Nat) : ((⟨g, off, none⟩ : Addr).add j) = ⟨g, off + j, none⟩ := by
  unfold Addr.add
  by_cases h : j = 0 <;> simp [h]
set_option maxRecDepth 100000 in
set_option maxHeartbeats 2000000 in
theorem Put_at (w : World) (b : Nat) (F : List Nat) (L : List Int) (h : StackAt w b F L) (ad : Addr) (c : Nat) (M : List Int) (hM : L.length + M.length ≤ 128) (hc : ∀ j u, (cells M)[j]? = some u → w.cell? (ad.add j) = some u) :
    Calls Tryz.prog 16 #[.pointer (some ⟨b, 0, none⟩), .slice (some ad) M.length c] w fun e w' =>
      ∃ F', e = .returned (.int .i64 0) ∧ StackAt w' b F' (L ++ M) ∧ Touch F w w' ∧ Sub w F F' := by
  obtain ⟨i0, hi, hz0, hz1, hz2⟩ := info_cell'
  obtain ⟨v, hb, rfl, hnb, hr⟩ := h
  have c0 := hb.cell 0
  have hbl := hb.lt
  obtain ⟨len, hlen⟩ : ∃ len, L.length = len := ⟨_, rfl⟩
  obtain ⟨n, hn⟩ : ∃ n, M.length = n := ⟨_, rfl⟩
  have hcl : (cells M).length = n * 1 := by rw [cells_length, hn, Nat.mul_one]
  have hLM : (L ++ M).length = len + n := by rw [List.length_append, hlen, hn]
  rw [hlen, hn] at hM
  rw [hlen] at hr
  rw [hn]
  have A := Lib.hid hc
  have B := Lib.hid hLM
  clear hc hn hlen hLM
  obtain ⟨a, cap, rfl⟩ := row_value hr
  have e1 : IntKind.i64.wrap (128 - (len : Int)) = 128 - len := by rw [IntKind.wrap_i64]; omega
  have e2 : ¬ (n : Int) > 128 - len := by omega
  go_enter Tryz.func16, Tryz.ntmps16
  go_wp2_with (at_builtin; refine wpList_append_own_at _ rfl _ _ 25 rfl 0 33 i0 (.int .i64 0) 1 8 Tryz.underlying25 hi hz0 hz1 hz2 rfl (by decide) _ _ _ rfl hr ad n c (cells M) rfl hcl ?qc2 ?qc3 ?qc4 ?qc5 (Nat.zero_le _) ?_)
  case qc2 =>
    intro j u hj
    exact A.out j u hj
  case qc3 => exact cells_one M
  case qc4 => unfold maxLen; omega
  case qc5 => omega
  intro v' w1 hown hgrow hnil hloc
  have hB : Blk w1 b 94 #[.slice a len cap] := hb.grown hgrow (fun e => hnb (rowOf_mem.2 e.symm))
  have hf1 := hB.frozen 0
  have c1 := hB.cell 0
  have htt := fun u => ((Touch.refl (b :: rowOf (.slice a len cap)) w).grown hgrow (fun k hk => .inl (by simp [rowOf_mem, hk]))).setCell (p := ⟨b, 0, none⟩) (by simp) u
  have hnb' : b ∉ rowOf v' := fun hb' => by
    rcases hloc with e | e
    · exact hnb (rowOf_mem.2 (e ▸ rowOf_mem.1 hb'))
    · rw [rowOf_mem.1 hb'] at e
      simp at e
      omega
  have hsub : Sub w (b :: rowOf (.slice a len cap)) (b :: rowOf v') := by
    intro f hf
    rcases List.mem_cons.1 hf with rfl | hf
    · exact .inl (by simp)
    · rcases hloc with e | e
      · exact .inl (by simp [rowOf_mem, ← e, rowOf_mem.1 hf])
      · rw [rowOf_mem.1 hf] at e
        simp at e
        exact .inr (by omega)
  clear hloc hnil hgrow hr
  rw [← cells_append] at hown
  obtain ⟨a', c', rfl⟩ := row_value hown
  have H1 := Lib.hid htt
  have H2 := Lib.hid hown
  have H3 := Lib.hid hsub
  have H4 := Lib.hid hB
  clear htt hown hsub hB c0 hb
  go_wp2
  go_ret
  refine ⟨_, rfl, ⟨_, H4.out.set_ 0 _, rfl, hnb', ?_⟩, H1.out _, H3.out⟩
  rw [B.out]
  exact row_touch H2.out ((Touch.refl [b] w1).setCell (by simp) _) (fun k hk hkb => hnb' (by rw [List.mem_singleton.1 hkb] at hk; exact hk))
end Go.Proofs.YtdokeddjcpnmiaaGreatDoor

/- prim's state: a stack, a memory, what was told, a number that is being made; where they lie. -/
namespace Go.Proofs.YtdokeddjcpnmiaaGreatDoor
open Go.RowKit

structure PS where
  t : Nat
  k : Nat
  m : Nat
  g : Nat
  n : Nat
  st : List Int
  bs : List Int
  here : Nat
  out : List Int
  made : List Int

/-- a block is of a type -/
def TyAt (w : World) (b : Nat) (ty : TypeId) : Prop := ∃ cs fz, w.heap[b]? = some (.cells cs ty fz)
theorem TyAt.ne {w : World} {a b : Nat} {t u : TypeId} (h : TyAt w a t) (k : TyAt w b u) (hn : t ≠ u) : a ≠ b := by
  rintro rfl
  obtain ⟨_, _, e1⟩ := h
  obtain ⟨_, _, e2⟩ := k
  rw [e1] at e2
  injection e2 with e2
  injection e2 with _ e3 _
  exact hn e3
theorem Blk.ty {w : World} {b : Nat} {t : TypeId} {cs : Array Value} (h : Blk w b t cs) : TyAt w b t := ⟨_, _, h⟩
theorem row_ty {w : World} {base n s : Nat} {e : TypeId} {v : Value} {xs : List Value} (h : w.ownsRow base e s v n xs) : ∀ x ∈ rowOf v, TyAt w x e := by
  intro x hx
  rcases h.2 with ⟨rfl, _⟩ | ⟨g, cap, cur, rfl, _, hg, _⟩
  · simp [rowOf] at hx
  · simp [rowOf] at hx
    subst hx
    exact ⟨_, _, hg⟩
theorem stk_ty {w : World} {b : Nat} {F : List Nat} {L : List Int} (h : StackAt w b F L) : ∀ x ∈ F, TyAt w x 94 ∨ TyAt w x 33 := by
  obtain ⟨v, hb, rfl, _, hr⟩ := h
  intro x hx
  rcases List.mem_cons.1 hx with rfl | hx
  · exact .inl hb.ty
  · exact .inr (row_ty hr x hx)

def BRow (w : World) (v : Value) (l : List Int) : Prop := w.ownsRow 0 5 1 v l.length (bytesV l) ∧ Bytes l
structure Parts (w : World) (s : Nat) (FS : List Nat) (ov mv : Value) (S : PS) : Prop where
  blk : Blk w s 92 #[.pointer (some ⟨S.t, 0, none⟩), .pointer (some ⟨S.k, 0, none⟩), .pointer (some ⟨S.m, 0, none⟩), mv]
  tel : Blk w S.t 110 #[ov]
  stk : StackAt w S.k FS S.st
  mem : MemAt w S.m S.g S.n S.bs S.here
  out : BRow w ov S.out
  made : BRow w mv S.made
  go : S.g ∉ rowOf ov
  gm : S.g ∉ rowOf mv
  om : ∀ x ∈ rowOf ov, x ∉ rowOf mv
def foot (s : Nat) (S : PS) (FS : List Nat) (ov mv : Value) : List Nat := s :: S.t :: S.m :: S.g :: (FS ++ (rowOf ov ++ rowOf mv))
def StateAt (w : World) (s : Nat) (F : List Nat) (S : PS) : Prop := ∃ FS ov mv, Parts w s FS ov mv S ∧ F = foot s S FS ov mv
section
variable {w w' : World} {s : Nat} {FS : List Nat} {ov mv : Value} {S : PS}
theorem Parts.stk_apart (h : Parts w s FS ov mv S) : s ∉ FS ∧ S.t ∉ FS ∧ S.m ∉ FS ∧ S.g ∉ FS ∧ (∀ x ∈ rowOf ov, x ∉ FS) ∧ ∀ x ∈ rowOf mv, x ∉ FS := by
  have hk := stk_ty h.stk
  have key : ∀ a t, TyAt w a t → t ≠ 94 → t ≠ 33 → a ∉ FS := fun a t ha h1 h2 hf => by
    rcases hk a hf with h | h
    · exact ha.ne h h1 rfl
    · exact ha.ne h h2 rfl
  exact ⟨key _ _ h.blk.ty (by decide) (by decide), key _ _ h.tel.ty (by decide) (by decide), key _ _ h.mem.blk.ty (by decide) (by decide), key _ _ h.mem.row.ty (by decide) (by decide), fun x hx => key _ _ (row_ty h.out.1 x hx) (by decide) (by decide), fun x hx => key _ _ (row_ty h.made.1 x hx) (by decide) (by decide)⟩
theorem Parts.quiet {G : List Nat} (h : Parts w s FS ov mv S) (t : Touch G w w') (hn : ∀ x ∈ foot s S FS ov mv, x ∉ G) : Parts w' s FS ov mv S := by
  have hm : ∀ x, x ∈ foot s S FS ov mv ↔ x = s ∨ x = S.t ∨ x = S.m ∨ x = S.g ∨ x ∈ FS ∨ x ∈ rowOf ov ∨ x ∈ rowOf mv := by simp [foot]
  refine ⟨h.blk.touch t (hn _ ((hm _).2 (by simp))), h.tel.touch t (hn _ ((hm _).2 (by simp))), h.stk.touch t (fun f hf => hn _ ((hm _).2 (by simp [hf]))), h.mem.touch t (hn _ ((hm _).2 (by simp))) (hn _ ((hm _).2 (by simp))), ⟨row_touch h.out.1 t (fun x hx => hn _ ((hm _).2 (by simp [hx]))), h.out.2⟩, ⟨row_touch h.made.1 t (fun x hx => hn _ ((hm _).2 (by simp [hx]))), h.made.2⟩, h.go, h.gm, h.om⟩
theorem StateAt.quiet {F : List Nat} (h : StateAt w s F S) (t : Touch [] w w') : StateAt w' s F S := by
  obtain ⟨FS, ov, mv, h, rfl⟩ := h
  exact ⟨FS, ov, mv, h.quiet t (by simp), rfl⟩
/-- the stack turns -/
theorem Parts.stack {FS' : List Nat} {L : List Int} (h : Parts w s FS ov mv S) (hs : StackAt w' S.k FS' L) (t : Touch FS w w') : Parts w' s FS' ov mv { S with st := L } := by
  obtain ⟨a1, a2, a3, a4, a5, a6⟩ := h.stk_apart
  exact ⟨h.blk.touch t a1, h.tel.touch t a2, hs, h.mem.touch t a3 a4, ⟨row_touch h.out.1 t a5, h.out.2⟩, ⟨row_touch h.made.1 t a6, h.made.2⟩, h.go, h.gm, h.om⟩
theorem foot_stack {FS' : List Nat} {L : List Int} (hs : Sub w FS FS') : Sub w (foot s S FS ov mv) (foot s { S with st := L } FS' ov mv) := by
  intro f hf
  simp only [foot, List.mem_cons, List.mem_append] at hf ⊢
  rcases hf with h | h | h | h | h | h | h
  · exact .inl (.inl h)
  · exact .inl (.inr (.inl h))
  · exact .inl (.inr (.inr (.inl h)))
  · exact .inl (.inr (.inr (.inr (.inl h))))
  · rcases hs f h with h | h
    · exact .inl (.inr (.inr (.inr (.inr (.inl h)))))
    · exact .inr h
  · exact .inl (.inr (.inr (.inr (.inr (.inr (.inl h))))))
  · exact .inl (.inr (.inr (.inr (.inr (.inr (.inr h))))))
theorem foot_has_stack : ∀ x ∈ FS, x ∈ foot s S FS ov mv := fun x hx => by simp [foot, hx]
/-- the memory turns -/
theorem Parts.memory {bs' : List Int} {here' : Nat} (h : Parts w s FS ov mv S) (hm : MemAt w' S.m S.g S.n bs' here') (t : Touch [S.m, S.g] w w') : Parts w' s FS ov mv { S with bs := bs', here := here' } := by
  obtain ⟨a1, a2, a3, a4, a5, a6⟩ := h.stk_apart
  have key : ∀ a ty, TyAt w a ty → ty ≠ 144 → ty ≠ 5 → a ∉ [S.m, S.g] := fun a ty ha h1 h2 hf => by
    simp only [List.mem_cons, List.not_mem_nil, or_false] at hf
    rcases hf with rfl | rfl
    · exact ha.ne h.mem.blk.ty h1 rfl
    · exact ha.ne h.mem.row.ty h2 rfl
  have rw_ : ∀ v, (∀ x ∈ rowOf v, TyAt w x 5) → S.g ∉ rowOf v → ∀ x ∈ rowOf v, x ∉ [S.m, S.g] := fun v hv hg x hx hf => by
    simp only [List.mem_cons, List.not_mem_nil, or_false] at hf
    rcases hf with rfl | rfl
    · exact (hv _ hx).ne h.mem.blk.ty (by decide) rfl
    · exact hg hx
  exact ⟨h.blk.touch t (key _ _ h.blk.ty (by decide) (by decide)), h.tel.touch t (key _ _ h.tel.ty (by decide) (by decide)), h.stk.touch t (fun f hf hg => by
    simp only [List.mem_cons, List.not_mem_nil, or_false] at hg
    rcases hg with rfl | rfl
    · exact a3 hf
    · exact a4 hf), hm, ⟨row_touch h.out.1 t (rw_ ov (row_ty h.out.1) h.go), h.out.2⟩, ⟨row_touch h.made.1 t (rw_ mv (row_ty h.made.1) h.gm), h.made.2⟩, h.go, h.gm, h.om⟩
end

set_option maxHeartbeats 1000000 in
theorem PNew_ok (n : Nat) (h1 : 1024 ≤ n) (h2 : n ≤ 65536) (h3 : n % 8 = 0) (w : World) : Calls Tryz.prog 29 #[.int .i64 n] w fun e w' => ∃ s F S, e = .returned (.tuple #[.pointer (some ⟨s, 0, none⟩), .int .i64 0]) ∧ StateAt w' s F S ∧ (∀ x ∈ F, w.heap.size ≤ x) ∧ Touch [] w w' ∧ S.n = n ∧ S.st = [] ∧ S.bs = putF (List.replicate n 0) 0 10 8 ∧ S.here = 8 ∧ S.out = [] ∧ S.made = [] := by
  have hM := MNew_ok n h1 h2 h3 w
  have hS := fun W => New_any W
  go_enter Tryz.func29, Tryz.ntmps29
  go_wp2_with fail
  refine hM.mono ?_
  rintro _ w1 ⟨rfl, hm, t1⟩
  have hC := Comma_ok hm 10 (by decide) (by omega)
  have s1 := t1.size
  clear hM
  go_wp2_with fail
  refine hC.mono ?_
  rintro _ w2 ⟨rfl, hm, t2⟩
  clear hC
  go_upto_region 5 with fail
  have hmT := hm.touch ((Touch.refl [] w2).alloc (.cells #[.slice none 0 0] 110)) (by simp) (by simp)
  have bT := Blk.new w2 110 #[.slice none 0 0]
  have T2 := (t1.trans t2 (fun g hg => by simp only [List.mem_cons, List.not_mem_nil, or_false] at hg; omega)).alloc (.cells #[.slice none 0 0] 110)
  have s2 := T2.size
  have hS2 := hS (w2.alloc (.cells #[.slice none 0 0] 110))
  have z2 : w.heap.size + 2 ≤ w2.heap.size := by
    have h1 := hm.blk.lt
    have h2 := t2.size
    omega
  have sT : (w2.alloc (.cells #[.slice none 0 0] 110)).heap.size = w2.heap.size + 1 := by simp
  have HH := Lib.hid (And.intro hmT (And.intro bT (And.intro T2 (And.intro z2 sT))))
  clear hm hmT bT T2 t1 t2 s1 s2 hS z2 sT
  go_wp2_with fail
  refine hS2.mono ?_
  rintro _ w3 ⟨rfl, hk, t3⟩
  clear hS2
  obtain ⟨hmT, bT, T2, z2, sT⟩ := HH.out
  rw [sT] at hk
  have t4 := (Touch.refl [] w3).alloc (.cells #[.pointer (some ⟨w2.heap.size, 0, none⟩), .pointer (some ⟨w2.heap.size + 1, 0, none⟩), .pointer (some ⟨w.heap.size + 1, 0, none⟩), .slice none 0 0] 92)
  have bS := Blk.new w3 92 #[.pointer (some ⟨w2.heap.size, 0, none⟩), .pointer (some ⟨w2.heap.size + 1, 0, none⟩), .pointer (some ⟨w.heap.size + 1, 0, none⟩), .slice none 0 0]
  have t34 := t3.trans t4 (by simp)
  have z3 := t3.size
  have hfin : StateAt (w3.alloc (.cells #[.pointer (some ⟨w2.heap.size, 0, none⟩), .pointer (some ⟨w2.heap.size + 1, 0, none⟩), .pointer (some ⟨w.heap.size + 1, 0, none⟩), .slice none 0 0] 92)) w3.heap.size (foot w3.heap.size ⟨w2.heap.size, (w2.heap.size + 1), w.heap.size + 1, w.heap.size, n, [], putF (List.replicate n 0) 0 10 8, 8, [], []⟩ [w2.heap.size + 1] (.slice none 0 0) (.slice none 0 0)) ⟨w2.heap.size, (w2.heap.size + 1), w.heap.size + 1, w.heap.size, n, [], putF (List.replicate n 0) 0 10 8, 8, [], []⟩ :=
    ⟨_, _, _, ⟨bS, bT.touch t34 (by simp), hk.touch t4 (by simp), hmT.touch t34 (by simp) (by simp), ⟨World.ownsRow_nil _ _ _ _, by simp [Bytes]⟩, ⟨World.ownsRow_nil _ _ _ _, by simp [Bytes]⟩, by simp [rowOf], by simp [rowOf], by simp [rowOf]⟩, rfl⟩
  have hF : ∀ x ∈ foot w3.heap.size ⟨w2.heap.size, (w2.heap.size + 1), w.heap.size + 1, w.heap.size, n, [], putF (List.replicate n 0) 0 10 8, 8, [], []⟩ [w2.heap.size + 1] (.slice none 0 0) (.slice none 0 0), w.heap.size ≤ x := by
    intro x hx
    simp only [foot, rowOf, List.mem_cons, List.mem_append, List.not_mem_nil, or_false] at hx
    have h1 := t3.size
    have h2 := T2.size
    omega
  have HF := Lib.hid (And.intro hfin (And.intro hF (T2.trans t34 (by simp))))
  clear hfin hF t3 t4 t34 bS hk hmT bT T2 z2 z3
  go_wp2_with fail
  go_ret2
  exact ⟨_, _, _, rfl, HF.out.1, HF.out.2.1, HF.out.2.2, rfl, rfl, rfl, rfl, rfl, rfl⟩
end Go.Proofs.YtdokeddjcpnmiaaGreatDoor

/- Rows of cells that are read, and put on a stack; a stack that is cut. -/
namespace Go.Proofs.YtdokeddjcpnmiaaGreatDoor
open Go.RowKit

theorem cell_quiet {w w' : World} {p : Addr} {u : Value} (t : Touch [] w w') (h : w.cell? p = some u) : w'.cell? p = some u := (t.cell (World.block_lt_of_cell? w p h) (by simp)).trans h
theorem own_slice {w : World} {base n : Nat} {e : TypeId} {size : Nat} {v : Value} {xs : List Value} (h : w.ownsRow base e size v n xs) : ∃ a c, v = .slice a n c := by
  rcases h.2 with ⟨rfl, h0⟩ | ⟨g, cap, cur, rfl, _⟩
  · exact ⟨none, 0, by rw [h0]⟩
  · exact ⟨_, _, rfl⟩
theorem own_low {w : World} {base n : Nat} {e : TypeId} {size : Nat} {v : Value} {xs : List Value} (h : w.ownsRow base e size v n xs) : w.ownsRow 0 e size v n xs := by
  refine ⟨h.1, ?_⟩
  rcases h.2 with h | ⟨g, cap, cur, h1, _, h3⟩
  · exact .inl h
  · exact .inr ⟨g, cap, cur, h1, Nat.zero_le _, h3⟩
/-- a row of cells -/
def CellsAt (w : World) (cv : Value) (cs : List Int) : Prop :=
  (cv = .slice none 0 0 ∧ cs = []) ∨ ∃ ad c, cv = .slice (some ad) cs.length c ∧ ∀ j u, (cells cs)[j]? = some u → w.cell? (ad.add j) = some u
theorem CellsAt.quiet {w w' : World} {cv : Value} {cs : List Int} (h : CellsAt w cv cs) (t : Touch [] w w') : CellsAt w' cv cs := by
  rcases h with h | ⟨ad, c, e, hc⟩
  · exact .inl h
  · exact .inr ⟨ad, c, e, fun j u hj => cell_quiet t (hc j u hj)⟩
theorem CellsAt.touch {F : List Nat} {w w' : World} {base : Nat} {cv : Value} {cs : List Int} (h : w.ownsRow base 33 1 cv cs.length (cells cs)) (t : Touch F w w') (hn : ∀ x ∈ rowOf cv, x ∉ F) : w'.ownsRow base 33 1 cv cs.length (cells cs) := row_touch h t hn
theorem row_cells {w : World} {base : Nat} {v : Value} {cs : List Int} (h : w.ownsRow base 33 1 v cs.length (cells cs)) : CellsAt w v cs := by
  rcases h.2 with ⟨e, h0⟩ | ⟨g, cap, cur, e, _⟩
  · exact .inl ⟨e, List.eq_nil_of_length_eq_zero h0⟩
  · subst e
    exact .inr ⟨⟨g, 0, none⟩, cap, rfl, fun j u hj => h.cells (g := g) rfl j u hj⟩
theorem CellsAt.form {w : World} {cv : Value} {cs : List Int} (h : CellsAt w cv cs) : ∃ a c, cv = .slice a cs.length c := by
  rcases h with ⟨rfl, rfl⟩ | ⟨ad, c, rfl, _⟩
  · exact ⟨none, 0, rfl⟩
  · exact ⟨_, _, rfl⟩
theorem CellsAt.get {w : World} {cv : Value} {cs : List Int} (h : CellsAt w cv cs) {i : Nat} (hi : i < cs.length) : ∃ ad c, cv = .slice (some ad) cs.length c ∧ w.cell? (ad.add i) = some (.int .i64 (cs.getD i 0)) := by
  rcases h with ⟨_, rfl⟩ | ⟨ad, c, e, hc⟩
  · simp at hi
  · exact ⟨ad, c, e, hc i _ (cells_get cs i hi)⟩
theorem CellsAt.blk {w : World} {g : Nat} {t : TypeId} {cs : List Int} (h : Blk w g t (cells cs).toArray) (c : Nat) : CellsAt w (.slice (some ⟨g, 0, none⟩) cs.length c) cs :=
  .inr ⟨⟨g, 0, none⟩, c, rfl, fun j u hj => by rw [add_off, Nat.zero_add]; exact (h.cell j).trans (by simpa using hj)⟩
theorem Put_row (w : World) (b : Nat) (F : List Nat) (L : List Int) (h : StackAt w b F L) (cv : Value) (M : List Int) (hc : CellsAt w cv M) (hl : L.length + M.length ≤ 128) :
    Calls Tryz.prog 16 #[.pointer (some ⟨b, 0, none⟩), cv] w fun e w' => ∃ F', e = .returned (.int .i64 0) ∧ StackAt w' b F' (L ++ M) ∧ Touch F w w' ∧ Sub w F F' := by
  rcases hc with ⟨rfl, rfl⟩ | ⟨ad, c, rfl, hc⟩
  · exact (Put_none w b F L h (by simpa using hl)).mono fun e w' ⟨h1, h2, h3⟩ => ⟨F, h1, by simpa using h2, h3, Sub.refl _ _⟩
  · exact Put_at w b F L h ad c M hl hc
theorem row_take0 {w : World} {a : Option Addr} {cap n : Nat} {xs : List Value} (h : w.ownsRow 0 33 1 (.slice a n cap) n xs) : w.ownsRow 0 33 1 (.slice a 0 cap) 0 [] := by
  refine ⟨rfl, ?_⟩
  rcases h.2 with ⟨e, h0⟩ | ⟨g, c, cur, e, hb, hg, h1, h2, h3, h4⟩
  · injection e with e1 e2 e3
    exact .inl ⟨by rw [e1, e3], rfl⟩
  · injection e with e1 e2 e3
    subst e1 e3
    exact .inr ⟨g, cap, cur, rfl, hb, hg, Nat.zero_le _, h2, h3, by simp⟩
set_option maxHeartbeats 1000000 in
theorem Cut_zero (w : World) (b : Nat) (F : List Nat) (L : List Int) (h : StackAt w b F L) :
    Calls Tryz.prog 76 #[.pointer (some ⟨b, 0, none⟩), .int .i64 0] w fun e w' => e = .returned (.tuple #[]) ∧ StackAt w' b F [] ∧ Touch F w w' := by
  obtain ⟨v, hb, rfl, hnb, hr⟩ := h
  have c0 := hb.cell 0
  have f0 := hb.frozen 0
  obtain ⟨a, cap, rfl⟩ := own_slice hr
  go_enter Tryz.func76, Tryz.ntmps76
  have hmin : min (0 : Int) 128 = 0 := rfl
  have hneg : ¬ ((L.length : Int) < 0) := by omega
  have htt := fun u => (Touch.refl [b] w).setCell (p := ⟨b, 0, none⟩) (by simp) u
  have H := Lib.hid (And.intro hb (And.intro hr htt))
  clear hb htt
  go_wp2_with fail
  go_loopw [9] (fun _ wr => wr = w) (fun _ _ => 0)
  case atStart => rfl
  case round =>
    obtain rfl := hrel
    go_wp2_with fail
    go_end0
    have hs := H.out.1.set_ 0 (.slice a 0 cap)
    refine ⟨rfl, ⟨_, hs, ?_, ?_, ?_⟩, (H.out.2.2 _).mono (fun k hk => .inl (by simp at hk; simp [hk]))⟩
    · cases a <;> rfl
    · exact fun h => hnb (by cases a <;> exact h)
    · exact row_touch (row_take0 H.out.2.1) (H.out.2.2 _) (fun k hk hkb => hnb (by rw [List.mem_singleton.1 hkb] at hk; cases a <;> exact hk))
end Go.Proofs.YtdokeddjcpnmiaaGreatDoor

/- Rows of cells held against each other. -/
namespace Go.Proofs.YtdokeddjcpnmiaaGreatDoor
open Go.RowKit

/-- a row of cells that is read -/
def RowR (w : World) (v : Value) (cs : List Int) : Prop := ∃ a c, v = .slice a cs.length c ∧ ∀ i, i < cs.length → ∃ g off, a = some ⟨g, off, none⟩ ∧ w.cell? ⟨g, off + i, none⟩ = some (.int .i64 (cs.getD i 0))
theorem RowR.quiet {w w' : World} {v : Value} {cs : List Int} (h : RowR w v cs) (t : Touch [] w w') : RowR w' v cs := by
  obtain ⟨a, c, e, k⟩ := h
  exact ⟨a, c, e, fun i hi => by obtain ⟨g, off, e, hc⟩ := k i hi; exact ⟨g, off, e, cell_quiet t hc⟩⟩
theorem RowR.blk {w : World} {g : Nat} {t : TypeId} {cs : List Int} (h : Blk w g t (cells cs).toArray) (c : Nat) : RowR w (.slice (some ⟨g, 0, none⟩) cs.length c) cs :=
  ⟨_, _, rfl, fun i hi => ⟨g, 0, rfl, by rw [Nat.zero_add]; exact (h.cell i).trans (by simpa using cells_get cs i hi)⟩⟩

set_option maxHeartbeats 1000000 in
theorem Same_eq (v1 v2 : Value) (cs : List Int) (w : World) (h1 : RowR w v1 cs) (h2 : RowR w v2 cs) (hl : cs.length ≤ 9223372036854775807) :
    Calls Tryz.prog 25 #[v1, v2] w fun e w' => e = .returned (.bool true) ∧ Touch [] w w' := by
  obtain ⟨a1, c1, rfl, k1⟩ := h1
  obtain ⟨a2, c2, rfl, k2⟩ := h2
  obtain ⟨n, hn⟩ : ∃ n, cs.length = n := ⟨_, rfl⟩
  rw [hn] at k1 k2 hl ⊢
  have hnn : ((n : Int) != n) = false := by simp
  have HK := Lib.hid (And.intro k1 (And.intro k2 hn))
  clear k1 k2 hn
  go_enter Tryz.func25, Tryz.ntmps25
  go_wp2_with fail
  go_loopw [5] (fun i wr => ∃ j : Nat, j ≤ n ∧ i = .int .i64 j ∧ ∃ d, wr = w.drewN d) (fun i _ => n - (intOf i).toNat)
  case atStart => exact ⟨0, Nat.zero_le _, rfl, 0, rfl⟩
  case round =>
    obtain ⟨j, hj, rfl, d, rfl⟩ := hrel
    by_cases hlt : j < n
    · have hlt' : decide ((j : Int) < n) = true := by simp; omega
      obtain ⟨g1, o1, rfl, e1⟩ := HK.out.1 j hlt
      obtain ⟨g2, o2, rfl, e2⟩ := HK.out.2.1 j hlt
      obtain ⟨z, hz⟩ : ∃ z, cs.getD j 0 = z := ⟨_, rfl⟩
      rw [hz] at e1 e2
      have hzz : (z != z) = false := by simp
      have ek : IntKind.i64.wrap ((j : Int) + 1) = (j + 1 : Nat) := by rw [IntKind.wrap_i64]; omega
      clear hz
      go_wp2_with fail
      go_region
      all_goals go_wp2_with fail
      all_goals go_roundw
      case rel => exact ⟨j + 1, by omega, vint (by omega), d + 1, by simp⟩
      case measure => simp only [intOf]; omega
    · have hlt' : decide ((j : Int) < n) = false := by simp; omega
      go_wp2_with fail
      go_ret
      exact ⟨rfl, (Touch.refl [] w).drewN d⟩
end Go.Proofs.YtdokeddjcpnmiaaGreatDoor
