/- The contracts of pick and roll. -/
import Derived.Test.YtnhhflnanogpjaaGreatDoorDo3
import Derived.Test.YtnhhflnanogpjaaGreatDoorShelfDel
import Derived.Lib.OwnBridge
namespace Go.Proofs.YtnhhflnanogpjaaGreatDoor
open Go.RowKit

theorem stack_of_row {w : World} {b g c m : Nat} {M : List Int} (hbg : b ≠ g)
    (hB : Blk w b 72 #[.slice (some ⟨g, 0, none⟩) m c]) (hr : w.ownsRow 0 34 1 (.slice (some ⟨g, 0, none⟩) m c) m (cells M)) (hM : M.length = m) : StackAt w b [b, g] M := by
  subst hM
  exact ⟨_, hB, rfl, by simp [rowOf]; exact hbg, hr⟩

set_option maxRecDepth 100000 in
set_option maxHeartbeats 2000000 in
theorem far_pick (w : World) (b : Nat) (F : List Nat) (L : List Int) (h : StackAt w b F L) (n : Nat) (hn : L.length = n + 1) (hL : n ≤ 128) (d : Nat) (hx : L.getD n 0 = d) (hd : d < n) :
    Calls Tryz.prog 78 #[.pointer (some ⟨b, 0, none⟩), .int .i64 40] w fun e w' => e = .returned (.int .i64 0) ∧ StackAt w' b F (L.take n ++ [L.getD (n - 1 - d) 0]) ∧ Touch F w w' := by
  obtain ⟨g, c, hb, hbg, rfl, hc, hr, hcell⟩ := stack_last h n hn
  have g0 := hb.cell 0
  have gx := hcell n (Nat.le_refl _)
  rw [hx] at gx
  have gy := hcell (n - 1 - d) (by omega)
  obtain ⟨y, hy⟩ : ∃ y, L.getD (n - 1 - d) 0 = y := ⟨_, rfl⟩
  rw [hy] at gy ⊢
  have fx := hr.frozenAt n
  obtain ⟨at_, hat⟩ : ∃ k, n - 1 - d = k := ⟨_, rfl⟩
  rw [hat] at gy
  have en : IntKind.i64.wrap (((n + 1 : Nat) : Int) - 1) = n := by rw [IntKind.wrap_i64]; omega
  have en1 : IntKind.i64.wrap ((n : Int) - 1) = (n - 1 : Nat) := by rw [IntKind.wrap_i64]; omega
  have en2 : IntKind.i64.wrap (((n - 1 : Nat) : Int) - d) = at_ := by rw [IntKind.wrap_i64]; omega
  have eu : IntKind.u64.wrap (n : Int) = n := by rw [IntKind.wrap_u64]; omega
  have ed : IntKind.u64.wrap (d : Int) = d := by rw [IntKind.wrap_u64]; omega
  have e0 : ¬ (n : Int) < 0 := by omega
  have e1 : ¬ (n : Int) ≤ d := by omega
  have e2 : at_ < n + 1 := by omega
  have Hr := Lib.hid (And.intro hb (And.intro hr (And.intro hn hat)))
  have hbg' := Lib.hid hbg
  clear h hb hbg hr hcell hx hn hy hat
  go_enter Tryz.func78, Tryz.ntmps78
  go_wp2
  go_ret
  obtain ⟨hb, hr, hn, hat⟩ := Hr.out
  refine ⟨rfl, stack_of_row hbg'.out (hb.far (fun e => hbg'.out e) _) ?_ (by simp; omega), (Touch.refl _ _).setCell (by simp) _⟩
  have hs := (hr.stored n (.int .i64 y)).1
  have e : (cells L).set n (.int .i64 y) = cells (L.take n ++ [y]) := by
    apply List.ext_getElem?
    intro j
    simp only [cells, List.getElem?_set, List.getElem?_map, List.length_map, List.getElem?_append, List.getElem?_take, List.length_take]
    by_cases h1 : j < n
    · rw [if_neg (by omega), if_pos (by omega), if_pos h1]
    · by_cases h2 : n = j
      · subst h2
        rw [if_pos rfl, if_pos (by omega), if_neg (by omega), show n - min n L.length = 0 by omega]
        rfl
      · rw [if_neg h2, if_neg (by omega), List.getElem?_eq_none (by omega), List.getElem?_eq_none (by simp; omega)]
  rw [e] at hs
  exact hs

set_option maxRecDepth 100000 in
set_option maxHeartbeats 4000000 in
theorem far_roll (w : World) (b : Nat) (F : List Nat) (L : List Int) (h : StackAt w b F L) (n : Nat) (hn : L.length = n + 1) (hL : n ≤ 128) (d : Nat) (hx : L.getD n 0 = d) (hd : d < n) :
    Calls Tryz.prog 78 #[.pointer (some ⟨b, 0, none⟩), .int .i64 41] w fun e w' =>
      ∃ F', e = .returned (.int .i64 0) ∧ StackAt w' b F' ((L.take n).take (n - 1 - d) ++ (L.take n).drop (n - d) ++ [L.getD (n - 1 - d) 0]) ∧ Touch F w w' ∧ Sub w F F' := by
  obtain ⟨i0, hi, hz0, hz1, hz2⟩ := info_cell'
  obtain ⟨g, c, hb, hbg, rfl, hc, hr, hcell⟩ := stack_last h n hn
  have g0 := hb.cell 0
  have gx := hcell n (Nat.le_refl _)
  rw [hx] at gx
  have gy := hcell (n - 1 - d) (by omega)
  obtain ⟨y, hy⟩ : ∃ y, L.getD (n - 1 - d) 0 = y := ⟨_, rfl⟩
  rw [hy] at gy ⊢
  obtain ⟨at_, hat⟩ : ∃ k, n - 1 - d = k := ⟨_, rfl⟩
  rw [show n - d = at_ + 1 by omega]
  rw [hat] at gy ⊢
  have hr' := row_take hr (m := n) (by omega)
  have hzl : (L.take n).length = n := by rw [List.length_take]; omega
  obtain ⟨Z, hZ⟩ : ∃ Z, L.take n = Z := ⟨_, rfl⟩
  rw [hZ] at hr' hzl ⊢
  have hcm : c ≤ 9223372036854775807 := by
    rcases hr.2 with ⟨h0, _⟩ | ⟨g', cap', cur, hv, _, _, _, hcm, _, _⟩
    · cases h0
    · cases hv; unfold maxLen at hcm; omega
  obtain ⟨g', cap', hv, _, _, _, _, _, hH⟩ := Lib.holds_of_ownsRow (enc := Value.int .i64) (zs := Z) hr' (by simp)
  injection hv with hv1 _ hv2
  injection hv1 with hv1
  injection hv1 with hv1
  subst hv1 hv2
  have hD := Tryz.slices_Delete_cells g 0 c at_ (at_ + 1) Z w hH (by omega) hcm (by omega) (by omega)
  rw [hzl] at hD
  rw [show n - (at_ + 1 - at_) = n - 1 by omega, show at_ + 1 - at_ = 1 by omega] at hD
  have hown : ∀ q, (Sort.putRow (Value.int .i64) (Sort.ahead w q) g 0 (Z.take at_ ++ Z.drop (at_ + 1) ++ List.replicate 1 0).toArray).ownsRow 0 34 1 (.slice (some ⟨g, 0, none⟩) (n - 1) c) (n - 1) (cells (Z.take at_ ++ Z.drop (at_ + 1))) := fun q => by
    have := Lib.ownsRow_putRow (q := q) (k := n - 1) (zs := Z) (ys := Z.take at_ ++ Z.drop (at_ + 1) ++ List.replicate 1 0) hr' (by simp; omega) (by omega)
    rw [List.take_left' (by simp; omega)] at this
    exact this
  have hTo : ∀ q, Touch [g] w (Sort.putRow (Value.int .i64) (Sort.ahead w q) g 0 (Z.take at_ ++ Z.drop (at_ + 1) ++ List.replicate 1 0).toArray) := fun q =>
    ⟨rfl, rfl, rfl, by simp [Sort.putRow, Sort.mapBlock, Sort.ahead], fun k _ hk => by
      simp only [List.mem_singleton] at hk
      simp [Sort.putRow, Sort.mapBlock, Sort.ahead, Array.getElem?_modify, show g ≠ k from fun e => hk e.symm]⟩
  have en : IntKind.i64.wrap (((n + 1 : Nat) : Int) - 1) = n := by rw [IntKind.wrap_i64]; omega
  have en1 : IntKind.i64.wrap ((n : Int) - 1) = (n - 1 : Nat) := by rw [IntKind.wrap_i64]; omega
  have en2 : IntKind.i64.wrap (((n - 1 : Nat) : Int) - d) = at_ := by rw [IntKind.wrap_i64]; omega
  have en3 : IntKind.i64.wrap ((at_ : Int) + 1) = (at_ + 1 : Nat) := by rw [IntKind.wrap_i64]; omega
  have eu : IntKind.u64.wrap (n : Int) = n := by rw [IntKind.wrap_u64]; omega
  have ed : IntKind.u64.wrap (d : Int) = d := by rw [IntKind.wrap_u64]; omega
  have e0 : ¬ (n : Int) < 0 := by omega
  have e1 : ¬ (n : Int) ≤ d := by omega
  have e2 : at_ < n + 1 := by omega
  have hml : (Z.take at_ ++ Z.drop (at_ + 1)).length = n - 1 := by simp; omega
  generalize (Z.take at_ ++ Z.drop (at_ + 1)) = M at hD hown hTo hml ⊢
  have Hr := Lib.hid (And.intro hb (And.intro hown (And.intro hTo hml)))
  have hbg' := Lib.hid hbg
  have hbl := hb.lt
  clear h hb hbg hr hr' hcell hx hn hy hat hZ hzl hH hown hTo hml
  go_enter Tryz.func78, Tryz.ntmps78
  go_wp2_with fail
  refine hD.mono ?_
  rintro _ w1 ⟨rfl, q, hw1⟩
  obtain ⟨hb, hown, hTo, hml⟩ := Hr.out
  have hB1 : Blk w1 b 72 #[.slice (some ⟨g, 0, none⟩) (n + 1) c] := hw1 ▸ hb.touch (hTo q) (by simp; exact hbg'.out)
  have hO1 : w1.ownsRow 0 34 1 (.slice (some ⟨g, 0, none⟩) (n - 1) c) (n - 1) (cells M) := hw1 ▸ hown q
  have hT1 : Touch [g] w w1 := hw1 ▸ hTo q
  clear hw1 hb hown hTo Hr hD g0 gx gy
  have hN := (Blk.new w1 34 #[.int .i64 y])
  have hO2 := hO1.alloc (.cells #[.int .i64 y] 34)
  go_wp2_with (at_builtin; refine wpList_append_own_at _ rfl _ _ 23 rfl 0 34 i0 (.int .i64 0) 1 8 Tryz.underlying23 hi hz0 hz1 hz2 rfl (by decide) _ _ _ rfl hO2 ⟨w1.heap.size, 0, none⟩ 1 1 (cells [y]) rfl rfl ?qc2 (cells_one _) (by unfold maxLen; omega) (by omega) (Nat.zero_le _) ?_)
  case qc2 =>
    intro j u hj
    have h2 := (List.getElem?_eq_some_iff.1 hj).1
    have hj0 : j = 0 := by simp [cells] at h2; omega
    subst hj0
    exact (hN.cell (0 + 0)).trans (by simpa [cells] using hj)
  intro v' w2 hown2 hgrow hnil hloc
  have hgb : some b ≠ (Value.slice (some ⟨g, 0, none⟩) (n - 1) c).ownBlock := by simp [Value.ownBlock]; exact fun e => hbg'.out e
  have hB2 : Blk w2 b 72 #[.slice (some ⟨g, 0, none⟩) (n + 1) c] := (hB1.alloc _).grown hgrow hgb
  have hT2 : Touch [b, g] w w2 := ((hT1.mono (G := [b, g]) (by simp)).alloc _).grown hgrow (fun k hk => by simp [Value.ownBlock] at hk; simp [hk])
  have f2 := hB2.frozen 0
  have c2 := hB2.cell 0
  obtain ⟨a', c', rfl⟩ := row_value hown2
  have hw1s : w.heap.size ≤ w1.heap.size := hT1.size
  have hnb' : b ∉ rowOf (.slice a' (n - 1 + 1) c') := fun hb' => by
    rcases hloc with e | e
    · exact hgb (e ▸ (rowOf_mem.1 hb').symm)
    · rw [rowOf_mem.1 hb'] at e
      simp at e
      omega
  have hsub : Sub w [b, g] (b :: rowOf (.slice a' (n - 1 + 1) c')) := by
    intro f hf
    rcases List.mem_cons.1 hf with rfl | hf
    · exact .inl (by simp)
    · rcases hloc with e | e
      · rw [rowOf_mem.1 hf] at e
        simp [Value.ownBlock] at e
        exact .inl (by simp [e])
      · rw [rowOf_mem.1 hf] at e
        simp at e
        exact .inr (by omega)
  rw [← cells_append] at hown2
  have K1 := Lib.hid hB2
  have K2 := Lib.hid hT2
  have K3 := Lib.hid hsub
  have K4 := Lib.hid hown2
  have K5 := Lib.hid hnb'
  clear hB2 hT2 hsub hown2 hnb' hloc hnil hgrow hgb hO2 hN hO1 hT1 hB1
  go_wp2
  go_ret
  refine ⟨_, rfl, ⟨_, K1.out.set_ 0 _, rfl, K5.out, ?_⟩, K2.out.setCell (by simp) _, K3.out⟩
  rw [List.length_append, hml]
  exact row_touch K4.out ((Touch.refl [b] w2).setCell (by simp) _) (fun k hk hkb => K5.out (by rw [List.mem_singleton.1 hkb] at hk; exact hk))
end Go.Proofs.YtnhhflnanogpjaaGreatDoor
