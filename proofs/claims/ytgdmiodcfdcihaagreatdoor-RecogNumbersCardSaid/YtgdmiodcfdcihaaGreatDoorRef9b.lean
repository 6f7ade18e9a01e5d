/- rhytonref09.Dict: Add onto words that are there. -/
import Derived.Test.YtgdmiodcfdcihaaGreatDoorRef9
namespace Go.Proofs.YtgdmiodcfdcihaaGreatDoor
open Go.RowKit

theorem ref_grow {w W w1 : World} {b n c g2 : Nat} (t : Touch [] w W) (hgr : W.grownBy w1 (Value.slice (some ⟨b, 0, none⟩) n c).ownBlock)
    (hat : (Value.slice (some ⟨b, 0, none⟩) n c).ownBlock = some g2 ∨ g2 = W.heap.size) (hb : w.heap.size ≤ b) : Touch [] w w1 ∧ w.heap.size ≤ g2 := by
  refine ⟨t.grown hgr (fun k hk => .inr ?_), ?_⟩
  · simp [Value.ownBlock] at hk
    omega
  · have := t.size
    rcases hat with h | h
    · simp [Value.ownBlock] at h
      omega
    · omega

set_option maxRecDepth 100000 in
set_option maxHeartbeats 4800000 in
theorem RAdd_more (w : World) (R : Nat) (F : List Nat) (H : List Head) (h : RefAt w R F H) (hH0 : H ≠ []) (hH : H.length < 2000) (s : ByteArray) (hs0 : s.size ≠ 0) (hs : s.size ≤ 31) (xt : Int) :
    Calls Tryz.prog 23 #[.pointer (some ⟨R, 0, none⟩), .string s, .int .i64 xt] w fun e w' =>
      e = .returned (.int .i64 0) ∧ ∃ F', RefAt w' R F' (H ++ [⟨s, xt, false⟩]) ∧ Touch F w w' ∧ ∀ q, q ∈ F' → q ∈ F ∨ w.heap.size ≤ q := by
  have HE := Lib.hid h
  obtain ⟨v, ob, h1, h2, rfl, h5, h6, h7⟩ := h
  obtain ⟨N, hN⟩ : ∃ N, H.length = N := ⟨_, rfl⟩
  have hN0 : 0 < N := by rw [← hN]; exact List.length_pos_iff.2 hH0
  rw [hN] at h6 hH
  obtain ⟨g0, cap0, rfl, _, hgl⟩ := h6.form hN0
  have c0 := h1.cell 0
  have c3 := h1.cell 3
  have f0 := h1.frozen 0
  have hRl := h1.lt
  have hs0' : ((s.size : Int) == 0) = false := beq_eq_false_iff_ne.2 (by omega)
  have HR : Hid (∀ W, Touch [] w W → W.cell? ⟨R, 0, none⟩ = some (.slice (some ⟨g0, 0, none⟩) N cap0) ∧ W.cell? ⟨R, 3, none⟩ = some (.int .i64 1) ∧ W.frozen? ⟨R, 0, none⟩ = false ∧ R < W.heap.size) := fun W t => ⟨(h1.touch t (by simp)).cell 0, (h1.touch t (by simp)).cell 3, (h1.touch t (by simp)).frozen 0, (h1.touch t (by simp)).lt⟩
  have HW : Hid (∀ W, Touch [] w W → ∀ j u, (refCells H)[j]? = some u → W.cell? ((⟨g0, 0, none⟩ : Addr).add j) = some u) := fun W t => (row_touch h6 t (by simp)).cells (g := g0) rfl
  have HLn : Hid ((refCells H).length = N * 4) := by show _ = _; rw [refCells_len, hN]
  have HN1 : Hid (N + 1 = H.length + 1) := by show _ = _; rw [hN]
  clear h1 h2 h5 h6 h7 hN hH0
  obtain ⟨i0, hi, hz0, hz1, hz2⟩ := info_parts info_one9
  have HA : Hid (0 + N ≤ maxLen) := by show _ ≤ maxLen; unfold maxLen; omega
  have HB : Hid ((0 + N) * 40 ≤ 140737488355328) := by show (0 + N) * 40 ≤ 140737488355328; omega
  have HA2 : Hid (N + 1 ≤ maxLen) := by show _ ≤ maxLen; unfold maxLen; omega
  have HB2 : Hid ((N + 1) * 40 ≤ 140737488355328) := by show (N + 1) * 40 ≤ 140737488355328; omega
  go_enter Tryz.func23, Tryz.ntmps23
  go_upto_region 7 with (fail)
  go_region_law (first
    | (refine step_append_lies _ rfl (.tmp 20) (.tmp 24) 72 rfl 0 88 i0 _ 4 40 Tryz.underlying72 hi hz0 hz1 hz2 rfl (by omega) (.slice (some ⟨_, 0, none⟩) 0 0) 0 [] rfl (by first | exact row_lit_at rfl | exact row_lit_at (by simp) | exact (row_lit_at rfl).alloc _) ⟨g0, 0, none⟩ N cap0 (refCells H) rfl HLn.out (HW.out _ (by first | exact ((Touch.refl [] w).alloc _).drew | exact (((Touch.refl [] w).alloc _).alloc _).drew)) (refCells_one H) hN0 HA.out HB.out (Nat.zero_le _) _ rfl ?_; intro g1 cap1 w1 hown hgr hat hlt; rw [Nat.zero_add] at hown ⊢; rw [List.nil_append] at hown; (first | (have HN34 := Lib.hid (((Blk.new_at (n := w.heap.size + 1) (w.alloc _) (by simp) 88 #[.string s, .int .i64 xt, .bool false, .int .i64 1]).drew).grown hgr (by simp [Value.ownBlock]))) | (have HN34 := Lib.hid ((((Blk.new w 88 #[.string s, .int .i64 xt, .bool false, .int .i64 1]).alloc _).drew).grown hgr (by simp [Value.ownBlock]))) | skip); have HG := Lib.hid (ref_grow (by first | exact ((Touch.refl [] w).alloc _).drew | exact (((Touch.refl [] w).alloc _).alloc _).drew) hgr hat (by omega)); obtain ⟨_, d3, _, hRl1⟩ := HR.out w1 HG.out.1; have HO := Lib.hid hown; clear hown hgr hat hlt)
    | (refine step_append_lies _ rfl (.tmp 25) (.tmp 34) 72 rfl 0 88 i0 _ 4 40 Tryz.underlying72 hi hz0 hz1 hz2 rfl (by omega) (.slice (some ⟨_, 0, none⟩) N _) N (refCells H) rfl (by first | exact HO.out | exact HO.out.alloc _) ⟨_, 0, none⟩ 1 1 [.string s, .int .i64 xt, .bool false, .int .i64 1] rfl rfl (by first | exact World.news_of_block HN34.out | exact World.news_of_block (Blk.new _ _ #[.string s, .int .i64 xt, .bool false, .int .i64 1])) (by simp [Value.oneCell']) (by omega) HA2.out HB2.out (Nat.zero_le _) _ rfl ?_; intro g2 cap2 w2 hown2 hgr2 hat2 hlt2; have HG2 := Lib.hid (ref_grow (by first | exact HG.out.1 | exact HG.out.1.alloc _) hgr2 hat2 HG.out.2); obtain ⟨k0, _, j0, hRl2⟩ := HR.out w2 HG2.out.1; have HO2 := Lib.hid hown2; clear hown2 hgr2 hat2 hlt2))
  all_goals go_wp2_with fail
  all_goals go_ret
  all_goals exact ⟨rfl, ref_end ⟨s, xt, false⟩ HE.out HG2.out.1 HN1.out HO2.out HG2.out.2⟩
end Go.Proofs.YtgdmiodcfdcihaaGreatDoor
