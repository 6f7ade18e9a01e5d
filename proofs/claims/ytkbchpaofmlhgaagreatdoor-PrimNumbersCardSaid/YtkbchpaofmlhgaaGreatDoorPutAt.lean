/- The contract of stack's Put, wherever the cells lie that came in. -/
import Derived.Test.YtkbchpaofmlhgaaGreatDoorStk2
namespace Go.Proofs.YtkbchpaofmlhgaaGreatDoor
open Go.RowKit

theorem add_off (g off j : Nat) : ((⟨g, off, none⟩ : Addr).add j) = ⟨g, off + j, none⟩ := by
  unfold Addr.add
  by_cases h : j = 0 <;> simp [h]
set_option maxRecDepth 100000 in
set_option maxHeartbeats 2000000 in
theorem Put_at (w : World) (b : Nat) (F : List Nat) (L : List Int) (h : StackAt w b F L) (ad : Addr) (c : Nat) (M : List Int) (hM : L.length + M.length ≤ 128) (hc : ∀ j u, (cells M)[j]? = some u → w.cell? (ad.add j) = some u) :
    Calls Tryz.prog 13 #[.pointer (some ⟨b, 0, none⟩), .slice (some ad) M.length c] w fun e w' =>
      ∃ F', e = .returned (.int .i64 0) ∧ StackAt w' b F' (L ++ M) ∧ Touch F w w' ∧ Sub w F F' := by
  obtain ⟨i0, hi, hz0, hz1, hz2⟩ := info_cell'
  obtain ⟨v, hb, rfl, hnb, hr⟩ := h
  have c0 := hb.cell 0
  have hbl := hb.lt
  obtain ⟨len, hlen⟩ : ∃ len, L.length = len := ⟨_, rfl⟩
  obtain ⟨n, hn⟩ : ∃ n, M.length = n := ⟨_, rfl⟩
  have hcl : (cells M).length = n * 1 := by rw [cells_length, hn, Nat.mul_one]
  have hLM : (L ++ M).length = len + n := by rw [List.length_append, hlen, hn]
  rw [hlen, hn] at hM
  rw [hlen] at hr
  rw [hn]
  have A := Lib.hid hc
  have B := Lib.hid hLM
  clear hc hn hlen hLM
  obtain ⟨a, cap, rfl⟩ := row_value hr
  have e1 : IntKind.i64.wrap (128 - (len : Int)) = 128 - len := by rw [IntKind.wrap_i64]; omega
  have e2 : ¬ (n : Int) > 128 - len := by omega
  go_enter Tryz.func13, Tryz.ntmps13
  go_wp2_with (at_builtin; refine wpList_append_own_at _ rfl _ _ 22 rfl 0 36 i0 (.int .i64 0) 1 8 Tryz.underlying22 hi hz0 hz1 hz2 rfl (by decide) _ _ _ rfl hr ad n c (cells M) rfl hcl ?qc2 ?qc3 ?qc4 ?qc5 (Nat.zero_le _) ?_)
  case qc2 =>
    intro j u hj
    exact A.out j u hj
  case qc3 => exact cells_one M
  case qc4 => unfold maxLen; omega
  case qc5 => omega
  intro v' w1 hown hgrow hnil hloc
  have hB : Blk w1 b 85 #[.slice a len cap] := hb.grown hgrow (fun e => hnb (rowOf_mem.2 e.symm))
  have hf1 := hB.frozen 0
  have c1 := hB.cell 0
  have htt := fun u => ((Touch.refl (b :: rowOf (.slice a len cap)) w).grown hgrow (fun k hk => .inl (by simp [rowOf_mem, hk]))).setCell (p := ⟨b, 0, none⟩) (by simp) u
  have hnb' : b ∉ rowOf v' := fun hb' => by
    rcases hloc with e | e
    · exact hnb (rowOf_mem.2 (e ▸ rowOf_mem.1 hb'))
    · rw [rowOf_mem.1 hb'] at e
      simp at e
      omega
  have hsub : Sub w (b :: rowOf (.slice a len cap)) (b :: rowOf v') := by
    intro f hf
    rcases List.mem_cons.1 hf with rfl | hf
    · exact .inl (by simp)
    · rcases hloc with e | e
      · exact .inl (by simp [rowOf_mem, ← e, rowOf_mem.1 hf])
      · rw [rowOf_mem.1 hf] at e
        simp at e
        exact .inr (by omega)
  clear hloc hnil hgrow hr
  rw [← cells_append] at hown
  obtain ⟨a', c', rfl⟩ := row_value hown
  have H1 := Lib.hid htt
  have H2 := Lib.hid hown
  have H3 := Lib.hid hsub
  have H4 := Lib.hid hB
  clear htt hown hsub hB c0 hb
  go_wp2
  go_ret
  refine ⟨_, rfl, ⟨_, H4.out.set_ 0 _, rfl, hnb', ?_⟩, H1.out _, H3.out⟩
  rw [B.out]
  exact row_touch H2.out ((Touch.refl [b] w1).setCell (by simp) _) (fun k hk hkb => hnb' (by rw [List.mem_singleton.1 hkb] at hk; exact hk))
end Go.Proofs.YtkbchpaofmlhgaaGreatDoor
