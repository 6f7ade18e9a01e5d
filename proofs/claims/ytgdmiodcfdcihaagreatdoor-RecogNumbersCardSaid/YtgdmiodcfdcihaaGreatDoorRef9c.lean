/- rhytonref09.Dict: Now; both dictionaries' Add at any name of up to 31 bytes. -/
import Derived.Test.YtgdmiodcfdcihaaGreatDoorRef9b
namespace Go.Proofs.YtgdmiodcfdcihaaGreatDoor
open Go.RowKit

theorem ref_last (H : List Head) (x : Head) : (refCells (H ++ [x])).set (H.length * 4 + 2) (.bool true) = refCells (H ++ [⟨x.name, x.xt, true⟩]) := by
  rw [refCells_snoc, refCells_snoc, List.set_append_right _ _ (by rw [refCells_len]; omega), refCells_len, Nat.add_sub_cancel_left]
  rfl

set_option maxRecDepth 100000 in
set_option maxHeartbeats 1200000 in
theorem RNow_any (w : World) (R : Nat) (F : List Nat) (H : List Head) (h : RefAt w R F H) (hH : H.length < 2000) :
    Calls Tryz.prog 25 #[.pointer (some ⟨R, 0, none⟩)] w fun e w' =>
      ∃ v : Int, e = .returned (.int .i64 v) ∧ RefAt w' R F (nowL H) ∧ Touch F w w' := by
  have HE := Lib.hid h
  obtain ⟨v, ob, h1, h2, rfl, h5, h6, h7⟩ := h
  rcases List.eq_nil_or_concat H with rfl | ⟨H0, x, rfl⟩
  · obtain rfl := h7 rfl
    have c0 := h1.cell 0
    clear h1 h2 h5 h6 h7
    go_enter Tryz.func25, Tryz.ntmps25
    go_wp2_with fail
    go_ret
    exact ⟨2, rfl, HE.out, Touch.refl _ _⟩
  · rw [List.concat_eq_append] at *
    clear HE
    rw [nowL_snoc]
    obtain ⟨n, hn⟩ : ∃ n, H0.length = n := ⟨_, rfl⟩
    have hlen : (H0 ++ [x]).length = n + 1 := by simp [hn]
    obtain ⟨N, hN⟩ : ∃ N, n + 1 = N := ⟨_, rfl⟩
    rw [hlen, hN] at h6 hH
    obtain ⟨g, cap, rfl, _, hgl⟩ := h6.form (by omega)
    have c0 := h1.cell 0
    have hRl := h1.lt
    have hw : IntKind.i64.wrap ((N : Int) - 1) = (n : Int) := by rw [IntKind.wrap_i64]; omega
    have hc := h6.cellAt (n * 4 + 2) (by omega)
    have hfz := h6.frozenAt (n * 4 + 2)
    have hsm : (refCells (H0 ++ [x]))[n * 4 + 2]? = some (.bool x.now) := by
      rw [refCells_snoc, List.getElem?_append_right (by rw [refCells_len]; omega), refCells_len, hn, Nat.add_sub_cancel_left]
      rfl
    rw [hsm] at hc
    have hst := (h6.stored (n * 4 + 2) (.bool true))
    have hset := ref_last H0 x
    rw [hn] at hset
    rw [hset] at hst
    have hgD : g ≠ R ∧ g ≠ ob := by
      simp only [rowOf, List.nodup_cons, List.mem_cons, List.not_mem_nil, or_false, not_or] at h5
      exact ⟨fun e => h5.1.2 e.symm, fun e => h5.2.1 e.symm⟩
    have HE : Hid (RefAt (w.setCell ⟨g, n * 4 + 2, none⟩ (.bool true)) R (R :: ob :: rowOf (.slice (some ⟨g, 0, none⟩) N cap)) (H0 ++ [⟨x.name, x.xt, true⟩]) ∧ Touch (R :: ob :: rowOf (.slice (some ⟨g, 0, none⟩) N cap)) w (w.setCell ⟨g, n * 4 + 2, none⟩ (.bool true))) := by
      have hl2 : (H0 ++ [(⟨x.name, x.xt, true⟩ : Head)]).length = N := by simp [hn, hN]
      refine ⟨⟨_, ob, h1.far (p := ⟨g, n * 4 + 2, none⟩) (fun e => hgD.1 e.symm) _, h2.far (p := ⟨g, n * 4 + 2, none⟩) (fun e => hgD.2 e.symm) _, rfl, h5, ?_, by simp⟩, (Touch.refl _ _).setCell (.inl (by simp [rowOf])) _⟩
      rw [hl2]
      exact hst.1
    clear h1 h2 h5 h6 h7 hst hset hsm hgD hlen hn
    have hNp : 0 < N := by omega
    have hN0 : ((N : Int) == 0) = false := beq_eq_false_iff_ne.2 (by omega)
    have hnN : n < N := by omega
    clear hN
    go_enter Tryz.func25, Tryz.ntmps25
    go_upto_region 3 with (fail)
    go_region
    all_goals go_wp2_with fail
    all_goals go_ret
    all_goals exact ⟨0, rfl, HE.out.1.touch (Touch.refl [] _).drew (by simp), HE.out.2.drew⟩

/-- the words behind an Add -/
def addL (H : List Head) (s : ByteArray) (xt : Int) : List Head := if s.size = 0 then H else H ++ [⟨s, xt, false⟩]
theorem addL_len (H : List Head) (s : ByteArray) (xt : Int) : (addL H s xt).length ≤ H.length + 1 := by
  unfold addL
  split
  · omega
  · simp

theorem RAdd_any (w : World) (R : Nat) (F : List Nat) (H : List Head) (h : RefAt w R F H) (hH : H.length < 2000) (s : ByteArray) (hs : s.size ≤ 31) (xt : Int) :
    Calls Tryz.prog 23 #[.pointer (some ⟨R, 0, none⟩), .string s, .int .i64 xt] w fun e w' =>
      ∃ (v : Int) (F' : List Nat), e = .returned (.int .i64 v) ∧ RefAt w' R F' (addL H s xt) ∧ Touch F w w' ∧ ∀ q, q ∈ F' → q ∈ F ∨ w.heap.size ≤ q := by
  by_cases h0 : s.size = 0
  · have e : addL H s xt = H := by unfold addL; rw [if_pos h0]
    rw [e]
    have h0' : ((s.size : Int) == 0) = true := by rw [h0]; rfl
    have HE := Lib.hid h
    clear h e
    go_enter Tryz.func23, Tryz.ntmps23
    go_wp2_with fail
    go_ret
    exact ⟨-16, F, rfl, HE.out, Touch.refl _ _, fun _ hq => .inl hq⟩
  · have e : addL H s xt = H ++ [⟨s, xt, false⟩] := by unfold addL; rw [if_neg h0]
    rw [e]
    by_cases hn : H = []
    · subst hn
      exact (RAdd_first w R F h s h0 hs xt).mono fun _ _ ⟨h1, F', h2⟩ => ⟨0, F', h1, h2⟩
    · exact (RAdd_more w R F H h hn hH s h0 hs xt).mono fun _ _ ⟨h1, F', h2⟩ => ⟨0, F', h1, h2⟩

theorem DAdd_any (w : World) (D : Nat) (F : List Nat) (H : List Head) (h : DictAt w D F H) (hH : H.length < 2000) (s : ByteArray) (hs : s.size ≤ 31) (xt : Int) :
    Calls Tryz.prog 22 #[.pointer (some ⟨D, 0, none⟩), .string s, .int .i64 xt] w fun e w' =>
      ∃ (v : Int) (F' : List Nat), e = .returned (.int .i64 v) ∧ DictAt w' D F' (addL H s xt) ∧ Touch F w w' ∧ ∀ q, q ∈ F' → q ∈ F ∨ w.heap.size ≤ q := by
  by_cases h0 : s.size = 0
  · have e : addL H s xt = H := by unfold addL; rw [if_pos h0]
    rw [e]
    obtain rfl : s = .empty := str_ext (List.eq_nil_of_length_eq_zero (by rw [str_size]; exact h0))
    exact (Add_empty w D xt).mono fun _ _ ⟨h1, h2⟩ => ⟨-16, F, h1, h2 ▸ h, h2 ▸ Touch.refl _ _, fun _ hq => .inl hq⟩
  · have e : addL H s xt = H ++ [⟨s, xt, false⟩] := by unfold addL; rw [if_neg h0]
    rw [e]
    exact (Add_yes w D F H h hH s h0 hs xt).mono fun _ _ ⟨h1, F', h2⟩ => ⟨0, F', h1, h2⟩
end Go.Proofs.YtgdmiodcfdcihaaGreatDoor
