/- rhytonref07.Fold. -/
import Derived.Test.YtgdmiodcfdcihaaGreatDoorFilled
namespace Go.Proofs.YtgdmiodcfdcihaaGreatDoor
open Go.RowKit

theorem info_u8 : (Tryz.prog.info? 5).map (fun i => (i.zero, i.size, i.bytes)) = some (some (.int .u8 0), 1, 1) := by kernel_rfl

/-- the bytes, made small, as cells -/
def foldV (l : List UInt8) : List Value := l.map fun c => .int .u8 (foldC c.toNat : Int)

set_option maxRecDepth 100000 in
set_option maxHeartbeats 1600000 in
theorem refold_any (s : ByteArray) (hs : s.size ≤ 1000) (w : World) : Calls Tryz.prog 45 #[.string s] w fun e w' => e = .returned (.string (foldB s)) ∧ Touch [] w w' := by
  obtain ⟨i0, hi, hz0, hz1, hz2⟩ := info_parts info_u8
  obtain ⟨f, hf⟩ : ∃ f, foldB s = f := ⟨_, rfl⟩
  rw [hf]
  have hfd : f.data.toList = s.data.toList.map fun c => UInt8.ofNat (foldC c.toNat) := by rw [← hf]; unfold foldB; simp
  have HF := Lib.hid hfd
  clear hf hfd
  go_enter Tryz.func45, Tryz.ntmps45
  go_wp2_with fail
  go_loopw [4, 3] (fun i out wr => ∃ k : Nat, k ≤ s.size ∧ i = .int .i64 k ∧ wr.ownsRow w.heap.size 5 1 out k (foldV (s.data.toList.take k)) ∧ Touch [] w wr) (fun i _ _ => s.size - (intOf i).toNat)
  case atStart => exact ⟨0, Nat.zero_le _, rfl, World.ownsRow_nil _ _ _ _, Touch.refl _ _⟩
  case round =>
    obtain ⟨k, hk, rfl, hr, tr⟩ := hrel
    by_cases hlt : k < s.size
    · obtain ⟨c, hc⟩ : ∃ c, s[k]'hlt = c := ⟨_, rfl⟩
      have hnext : foldV (s.data.toList.take (k + 1)) = foldV (s.data.toList.take k) ++ [.int .u8 (foldC c.toNat : Int)] := by
        have hl : k < s.data.toList.length := by rw [str_size]; exact hlt
        have hg : s.data.toList[k] = c := by rw [← hc]; exact (List.getElem?_eq_some_iff.1 (str_get s k hlt)).2
        unfold foldV
        rw [List.take_succ_eq_append_getElem hl, List.map_append, hg]
        rfl
      have HNx := Lib.hid hnext
      have hlc := c.toNat_lt
      have hszw := tr.size
      obtain ⟨L, hL⟩ : ∃ L, foldV (s.data.toList.take k) = L := ⟨_, rfl⟩
      rw [hL] at hr
      have HL := Lib.hid hL
      clear hnext hL
      by_cases hup : 65 ≤ c.toNat ∧ c.toNat ≤ 90
      · have e : (foldC c.toNat : Int) = (c.toNat : Int) + 32 := by unfold foldC; rw [if_pos hup]; rfl
        obtain ⟨u1, u2⟩ := hup
        have HE := Lib.hid e
        clear e
        go_wp2_with (at_builtin; refine wpList_append_own_at _ rfl (.tmp 23) (.tmp 25) 29 rfl w.heap.size 5 i0 (.int .u8 0) 1 1 Tryz.underlying29 hi hz0 hz1 hz2 rfl (by decide) _ _ _ rfl (hr.alloc _) ⟨wr.heap.size, 0, none⟩ 1 1 [_] rfl rfl (cell_one_new _ _ _) (by intro u hu; simp at hu; subst hu; rfl) (by unfold maxLen; omega) (by omega) (by simp; omega) ?_; intro v' w1 hown' hgrow hnil hloc; go_frame)
        refine ⟨⟨k + 1, by omega, rfl, ?_, ?_⟩, by simp only [intOf]; omega⟩
        · rw [HNx.out, HL.out, HE.out]
          exact hown'
        · exact (tr.alloc _).grown hgrow (fun j hj => .inr (hr.lt j hj).1)
      · have e : (foldC c.toNat : Int) = (c.toNat : Int) := by rw [foldC_no c hup]
        have HE := Lib.hid e
        clear e
        rcases (show c.toNat < 65 ∨ (65 ≤ c.toNat ∧ 90 < c.toNat) by omega) with u1 | ⟨u1, u2⟩
        all_goals
          go_wp2_with (at_builtin; refine wpList_append_own_at _ rfl (.tmp 23) (.tmp 25) 29 rfl w.heap.size 5 i0 (.int .u8 0) 1 1 Tryz.underlying29 hi hz0 hz1 hz2 rfl (by decide) _ _ _ rfl (hr.alloc _) ⟨wr.heap.size, 0, none⟩ 1 1 [_] rfl rfl (cell_one_new _ _ _) (by intro u hu; simp at hu; subst hu; rfl) (by unfold maxLen; omega) (by omega) (by simp; omega) ?_; intro v' w1 hown' hgrow hnil hloc; go_frame)
          refine ⟨⟨k + 1, by omega, rfl, ?_, ?_⟩, by simp only [intOf]; omega⟩
          · rw [HNx.out, HL.out, HE.out]
            exact hown'
          · exact (tr.alloc _).grown hgrow (fun j hj => .inr (hr.lt j hj).1)
    · obtain rfl : k = s.size := by omega
      rw [List.take_of_length_le (by rw [str_size]; exact Nat.le_refl _)] at hr
      have hlen : f.data.toList.length = s.size := by rw [HF.out, List.length_map, str_size]
      have hcv : ∃ a cap, u3 = .slice a s.size cap ∧ (convert 29 9 (.slice a s.size cap)).run Tryz.prog wr = .ok (.string f) wr := by
        rcases hr.2 with ⟨rfl, h0⟩ | ⟨g, cap, cur, rfl, hb, hg, hnc, hcm, hcs, htake⟩
        · rw [h0] at hlen ⊢
          have hnil : f.data.toList = [] := List.eq_nil_of_length_eq_zero hlen
          have hf0 : f = ⟨#[]⟩ := str_ext (by rw [hnil])
          rw [hf0]
          refine ⟨none, 0, rfl, ?_⟩
          go_simp
          first | rfl | (simp [Conv.bytesToString]; done) | (simp [Conv.bytesToString]; rfl)
        · refine ⟨_, cap, rfl, ?_⟩
          have h := run_convert_bytes_back (P := Tryz.prog) wr 29 9 5 ⟨g, 0, none⟩ cap f.data.toList Tryz.underlying29 Tryz.underlying5 Tryz.underlying9 (fun j hj => by
            refine hr.cells (g := g) rfl j _ ?_
            have hj2 : j < s.data.toList.length := by rw [str_size]; omega
            unfold foldV
            rw [List.getElem?_map, List.getElem?_eq_getElem hj2]
            have hfj : f.data.toList[j]? = some (UInt8.ofNat (foldC s.data.toList[j].toNat)) := by rw [HF.out, List.getElem?_map, List.getElem?_eq_getElem hj2]; rfl
            rw [List.getElem?_eq_getElem hj] at hfj
            rw [Option.some.inj hfj, foldC_back]
            rfl)
          rw [hlen] at h
          rw [h]
      obtain ⟨a, cap, rfl, hrun⟩ := hcv
      clear hr hi hz0 hz1 hz2
      go_wp2_with fail
      go_ret
      exact ⟨rfl, tr⟩
end Go.Proofs.YtgdmiodcfdcihaaGreatDoor
