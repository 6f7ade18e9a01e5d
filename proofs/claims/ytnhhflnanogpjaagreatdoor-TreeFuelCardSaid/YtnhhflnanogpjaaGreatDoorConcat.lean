/- slices.Grow of no words, slices.Concat of rows of words. -/
import Derived.Test.YtnhhflnanogpjaaGreatDoorWordP
import Derived.Lib.AppendZerosOnto
import Derived.Lib.AppendZeros
namespace Go.Proofs.YtnhhflnanogpjaaGreatDoor
open Go.RowKit

theorem grow_run (n : Nat) (h0 : 0 < n) (hn : n ≤ 1000000) (w : World) : ∃ (G : Nat) (cs : Array Value), n ≤ G ∧ G ≤ maxLen ∧ cs.size = G ∧ ∀ ty, (Builtin.append_ #[67, 3] ty #[.slice none 0 0, .int .i64 n]).run Tryz.prog w =
    .ok (.slice (some ⟨w.heap.size, 0, none⟩) n G) (w.drew.alloc (.cells cs 9)) := by
  obtain ⟨i0, hi0, hz0, hz1, hz2⟩ := info_str'
  have hold : (Builtin.firstCells i0.size 0 (.slice none 0 0)).run Tryz.prog w.drew = .ok ([] : List Value).toArray w.drew := run_firstCells_none w.drew i0.size 0 0 0
  have h := fun ty => Lib.run_append_grow_zeros w 67 3 ty 9 i0 (.string .empty) .i64 .i64 Tryz.underlying67 Tryz.underlying3 hi0 hz0 none 0 0 [] hold n h0 (by omega) (by omega) (by omega) (by rw [hz2]; omega) (growslice_fits (by omega) (by rw [hz2]; omega))
  rw [Nat.zero_add] at h
  have hz : (Value.cells (.string .empty)).size = 1 := rfl
  have hG := grownCap_ge w n 0 9
  have hG2 := grownCap_le_maxLen w n 0 9 (by unfold maxLen; omega)
  refine ⟨grownCap w n 0 9, _, hG, hG2, ?_, h⟩
  simp only [Array.size_append, size_zeroCells, hz]
  simp
  omega
theorem Grow_nil (n : Nat) (h0 : 0 < n) (hn : n ≤ 1000000) (w : World) :
    Calls Tryz.prog 74 #[.slice none 0 0, .int .i64 n] w fun e w' => ∃ v, e = .returned v ∧ WordsAt w' w.heap.size v [] ∧ Touch [] w w' := by
  obtain ⟨G, cs, hG, hG2, hcs, hr⟩ := grow_run n h0 hn w
  have b := Blk.new w.drew 9 cs
  have t := ((Touch.refl [] w).drew).alloc (.cells cs 9)
  have hfin : WordsAt (w.drew.alloc (.cells cs 9)) w.heap.size (.slice (some ⟨w.heap.size, 0, none⟩) 0 G) [] :=
    ⟨rfl, .inr ⟨w.heap.size, G, cs, rfl, Nat.le_refl _, b, Nat.zero_le _, hG2, by omega, by simp⟩⟩
  have HF := Lib.hid (And.intro hfin t)
  have HG := Lib.hid (And.intro hG hcs)
  have h1 : ¬ ((n : Int) < 0) := by omega
  have h2 : (n : Int) > 0 := by omega
  have h3 : IntKind.i64.wrap ((n : Int) - 0) = n := by rw [IntKind.wrap_i64]; omega
  have h4 : G ≤ 9223372036854775807 := by unfold maxLen at hG2; omega
  clear hfin b t hG hcs hG2
  go_enter Tryz.func74, Tryz.ntmps74
  go_wp2_with (at_builtin; refine Lib.wpList_append_run _ rfl _ _ _ _ rfl _ _ rfl rfl _ _ (hr _) ?_)
  all_goals (go_ret; exact ⟨_, rfl, HF.out.1, HF.out.2⟩)

def catF (ps : Nat → List ByteArray) : Nat → List ByteArray
  | 0 => []
  | j + 1 => catF ps j ++ ps j
theorem catF_le (ps : Nat → List ByteArray) : ∀ (n j : Nat), j ≤ n → (catF ps j).length ≤ (catF ps n).length
  | 0, j, h => by obtain rfl : j = 0 := by omega
                  exact Nat.le_refl _
  | n + 1, j, h => by
    by_cases e : j = n + 1
    · subst e; exact Nat.le_refl _
    · have := catF_le ps n j (by omega)
      simp only [catF, List.length_append]
      omega
set_option maxHeartbeats 1000000 in
set_option maxRecDepth 100000 in
theorem Concat_go (g n : Nat) (vs : Nat → Value) (ps : Nat → List ByteArray) (w : World) (hn : n ≤ 3) (hc : ∀ j, j < n → w.cell? ⟨g, j, none⟩ = some (vs j) ∧ WordsAt w 0 (vs j) (ps j)) (h0 : 0 < (catF ps n).length) (hl : (catF ps n).length ≤ 1000000) :
    Calls Tryz.prog 53 #[.slice (some ⟨g, 0, none⟩) n n] w fun e w' => ∃ v, e = .returned v ∧ WordsAt w' w.heap.size v (catF ps n) ∧ Touch [] w w' := by
  have HC := Lib.hid hc
  have HL := Lib.hid (And.intro h0 hl)
  clear hc h0 hl
  go_enter Tryz.func53, Tryz.ntmps53
  go_wp2_with fail
  go_loopw [11, 3] (fun i sv wr => ∃ j : Nat, j ≤ n ∧ i = .int .i64 j ∧ sv = .int .i64 (catF ps j).length ∧ Touch [] w wr) (fun i _ _ => n - (intOf i).toNat)
  case atStart => exact ⟨0, Nat.zero_le _, rfl, rfl, Touch.refl _ _⟩
  case round =>
    obtain ⟨j, hj, rfl, rfl, t0⟩ := hrel
    by_cases hlt : j < n
    · have hlt2 : (j : Int) < n := by omega
      obtain ⟨hcj, hw⟩ := HC.out j hlt
      have hcj := cell_quiet t0 hcj
      have T0 := Lib.hid t0
      clear t0
      obtain ⟨a, c, hv⟩ := own_slice' hw
      rw [hv] at hcj
      have ek : IntKind.i64.wrap ((j : Int) + 1) = (j + 1 : Nat) := by rw [IntKind.wrap_i64]; omega
      have hle := catF_le ps n (j + 1) (by omega)
      have hl2 := HL.out.2
      have hsum : (catF ps (j + 1)).length = (catF ps j).length + (ps j).length := by simp only [catF, List.length_append]
      have es : IntKind.i64.wrap (((catF ps j).length : Int) + (ps j).length) = ((catF ps (j + 1)).length : Int) := by rw [IntKind.wrap_i64]; omega
      have hnn : ¬ (((catF ps (j + 1)).length : Int) < 0) := by omega
      obtain ⟨A, hA⟩ : ∃ A, (catF ps j).length = A := ⟨_, rfl⟩
      obtain ⟨B, hB⟩ : ∃ B, (catF ps (j + 1)).length = B := ⟨_, rfl⟩
      obtain ⟨C, hCC⟩ : ∃ C, (ps j).length = C := ⟨_, rfl⟩
      rw [hA, hCC, hB] at es
      rw [hA] at *
      rw [hB] at hnn
      rw [hCC] at hcj
      have HB := Lib.hid hB
      clear hw hv hle hl2 hsum hA hB hCC
      go_wp2_with fail
      go_roundw
      case rel => exact ⟨j + 1, by omega, vint (by omega), by rw [HB.out], T0.out⟩
      case measure => simp only [intOf]; omega
    · obtain rfl : j = n := by omega
      obtain ⟨wz, hwz⟩ : ∃ z, z = wr := ⟨_, rfl⟩
      subst hwz
      have hlt2 : ¬ (j : Int) < j := by omega
      have hG := Grow_nil (catF ps j).length HL.out.1 HL.out.2 wz
      obtain ⟨N, hN⟩ : ∃ N, (catF ps j).length = N := ⟨_, rfl⟩
      rw [hN] at hG ⊢
      have T0 := Lib.hid t0
      clear hlt hN t0
      go_wp2_with fail
      refine hG.mono ?_
      rintro _ w1 ⟨v, rfl, hW, t1⟩
      clear hG
      go_wp2_with fail
      go_loopw [27, 6] (fun i v wr' => ∃ q : Nat, q ≤ j ∧ i = .int .i64 q ∧ WordsAt wr' wz.heap.size v (catF ps q) ∧ Touch [] wz wr') (fun i _ _ => j - (intOf i).toNat)
      case atStart => exact ⟨0, Nat.zero_le _, rfl, hW, t1⟩
      case round =>
        obtain ⟨q, hq, rfl, hR, t2⟩ := hrel
        clear hW t1
        by_cases hlt : q < j
        · have hlt2 : (q : Int) < j := by omega
          obtain ⟨hcj, hw⟩ := HC.out q hlt
          have hcj := cell_quiet (T0.out.trans t2 (by simp)) hcj
          have hw := hw.quiet (T0.out.trans t2 (by simp))
          have ek : IntKind.i64.wrap ((q : Int) + 1) = (q + 1 : Nat) := by rw [IntKind.wrap_i64]; omega
          have hle := catF_le ps j (q + 1) (by omega)
          have hb : (catF ps q).length + (ps q).length ≤ 10000000 := by
            have := HL.out.2
            have hsum : (catF ps (q + 1)).length = (catF ps q).length + (ps q).length := by simp only [catF, List.length_append]
            omega
          obtain ⟨qa, qc, hvq⟩ := own_slice' hw
          rw [hvq] at hcj hw
          have hs := t2.size
          clear hle hvq
          have T2 := Lib.hid t2
          clear t2
          go_wp2_with (at_builtin; refine wpList_words rfl _ _ rfl _ _ _ _ wz.heap.size 0 rfl hR rfl hw hb hs ?_)
          intro v' w2 k1 k2 k3 k4
          have hbk : ∀ g, some g = Value.ownBlock u6 → wz.heap.size ≤ g := fun g hg => (World.ownsRow.lt hR g hg.symm).1
          have t3 : Touch [] wz w2 := T2.out.grown k2 (fun k hk => .inr (hbk k hk.symm))
          have HK := Lib.hid (And.intro k1 t3)
          clear k1 k2 k3 k4 t3 hbk hR hw hcj hs
          go_wp2_with fail
          go_roundw
          case rel => exact ⟨q + 1, by omega, vint (by omega), by rw [catF]; exact HK.out.1, HK.out.2⟩
          case measure => simp only [intOf]; omega
        · obtain rfl : q = j := by omega
          have hlt2 : ¬ (q : Int) < q := by omega
          go_wp2_with fail
          go_ret
          exact ⟨_, rfl, hR.low T0.out.size, T0.out.trans t2 (by simp)⟩
end Go.Proofs.YtnhhflnanogpjaaGreatDoor
