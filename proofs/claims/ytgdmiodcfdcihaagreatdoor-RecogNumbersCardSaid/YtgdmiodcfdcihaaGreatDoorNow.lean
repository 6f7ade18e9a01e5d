/- dict.Dict: Now. -/
import Derived.Test.YtgdmiodcfdcihaaGreatDoorAdd
namespace Go.Proofs.YtgdmiodcfdcihaaGreatDoor
open Go.RowKit

/-- the last word is one that is done now -/
def nowL : List Head → List Head
  | [] => []
  | [x] => [⟨x.name, x.xt, true⟩]
  | x :: y :: r => x :: nowL (y :: r)
theorem nowL_snoc (H : List Head) (x : Head) : nowL (H ++ [x]) = H ++ [⟨x.name, x.xt, true⟩] := by
  induction H with
  | nil => rfl
  | cons y r ih =>
    cases r with
    | nil => rfl
    | cons z t =>
      show y :: nowL ((z :: t) ++ [x]) = _
      rw [ih]
      rfl
theorem nowL_len (H : List Head) : (nowL H).length = H.length := by
  rcases List.eq_nil_or_concat H with rfl | ⟨H0, x, rfl⟩
  · rfl
  · rw [List.concat_eq_append, nowL_snoc]
    simp
theorem headCells_len (H : List Head) : (headCells H).length = H.length * 6 := by
  unfold headCells
  generalize hn : H.length = n
  clear hn
  induction n with
  | zero => rfl
  | succ n ih =>
    rw [List.range_succ, List.flatMap_append, List.length_append, ih]
    simp [Head.cells]
    omega

theorem set_last (H : List Head) (x : Head) : (headCells (H ++ [x])).set (H.length * 6 + 2) (.bool true) = headCells (H ++ [⟨x.name, x.xt, true⟩]) := by
  rw [headCells_snoc, headCells_snoc, List.set_append_right _ _ (by rw [headCells_len]; omega), headCells_len, Nat.add_sub_cancel_left]
  rfl

set_option maxRecDepth 100000 in
set_option maxHeartbeats 1200000 in
theorem Now_any (w : World) (D : Nat) (F : List Nat) (H : List Head) (h : DictAt w D F H) (hH : H.length < 2000) :
    Calls Tryz.prog 24 #[.pointer (some ⟨D, 0, none⟩)] w fun e w' =>
      ∃ v : Int, e = .returned (.int .i64 v) ∧ DictAt w' D F (nowL H) ∧ Touch F w w' := by
  obtain ⟨hv, mb, ob, bD, iM, bO, rfl, hnd, hr⟩ := h
  rcases List.eq_nil_or_concat H with rfl | ⟨H0, x, rfl⟩
  · obtain ⟨a0, cap0, rfl⟩ : ∃ a0 cap0, hv = .slice a0 0 cap0 := by
      rcases hr.2 with ⟨rfl, h0⟩ | ⟨g, cap, cur, h1, _⟩
      · exact ⟨none, 0, rfl⟩
      · exact ⟨_, cap, h1⟩
    obtain ⟨c0, _, _, _⟩ := fiveOf bD
    have HE : Hid (DictAt w D (D :: mb :: ob :: rowOf (.slice a0 0 cap0)) []) := ⟨_, mb, ob, bD, iM, bO, rfl, hnd, hr⟩
    clear bD iM bO hnd hr
    go_enter Tryz.func24, Tryz.ntmps24
    go_wp2_with fail
    go_ret
    exact ⟨2, rfl, HE.out, Touch.refl _ _⟩
  · rw [List.concat_eq_append] at *
    rw [nowL_snoc]
    obtain ⟨n, hn⟩ : ∃ n, H0.length = n := ⟨_, rfl⟩
    have hlen : (H0 ++ [x]).length = n + 1 := by simp [hn]
    obtain ⟨N, hN⟩ : ∃ N, n + 1 = N := ⟨_, rfl⟩
    rw [hlen, hN] at hr hH iM
    obtain ⟨g, cap, rfl, _, hgl⟩ := hr.form (by omega)
    obtain ⟨c0, _, _, f0⟩ := fiveOf bD
    have hDl := bD.lt
    have hw : IntKind.i64.wrap ((N : Int) - 1) = (n : Int) := by rw [IntKind.wrap_i64]; omega
    have hc := hr.cellAt (n * 6 + 2) (by omega)
    have hfz := hr.frozenAt (n * 6 + 2)
    have hsm : (headCells (H0 ++ [x]))[n * 6 + 2]? = some (.bool x.now) := by
      rw [headCells_snoc, List.getElem?_append_right (by rw [headCells_len]; omega), headCells_len, hn, Nat.add_sub_cancel_left]
      rfl
    rw [hsm] at hc
    have hst := (hr.stored (n * 6 + 2) (.bool true))
    have hset := set_last H0 x
    rw [hn] at hset
    rw [hset] at hst
    have hgD : g ≠ D ∧ g ≠ mb ∧ g ≠ ob := by
      simp only [rowOf, List.nodup_cons, List.mem_cons, List.not_mem_nil, or_false, not_or] at hnd
      exact ⟨fun e => hnd.1.2.2 e.symm, fun e => hnd.2.1.2 e.symm, fun e => hnd.2.2.1 e.symm⟩
    have HE : Hid (DictAt (w.setCell ⟨g, n * 6 + 2, none⟩ (.bool true)) D (D :: mb :: ob :: rowOf (.slice (some ⟨g, 0, none⟩) N cap)) (H0 ++ [⟨x.name, x.xt, true⟩]) ∧ Touch (D :: mb :: ob :: rowOf (.slice (some ⟨g, 0, none⟩) N cap)) w (w.setCell ⟨g, n * 6 + 2, none⟩ (.bool true))) := by
      have hl2 : (H0 ++ [(⟨x.name, x.xt, true⟩ : Head)]).length = N := by simp [hn, hN]
      refine ⟨⟨_, mb, ob, bD.far (p := ⟨g, n * 6 + 2, none⟩) (fun e => hgD.1 e.symm) _, ?_, bO.far (p := ⟨g, n * 6 + 2, none⟩) (fun e => hgD.2.2 e.symm) _, rfl, hnd, ?_⟩, (Touch.refl _ _).setCell (.inl (by simp [rowOf])) _⟩
      · rw [hl2]
        exact iM.setCell (p := ⟨g, n * 6 + 2, none⟩) (fun e => hgD.2.1 e.symm) _
      · rw [hl2]
        exact hst.1
    clear bD iM bO hnd hr hst hset hsm hgD hlen hn
    have hNp : 0 < N := by omega
    have hnN : n < N := by omega
    clear hN
    go_enter Tryz.func24, Tryz.ntmps24
    go_upto_region 3 with (fail)
    go_region
    all_goals go_wp2_with fail
    all_goals go_ret
    all_goals exact ⟨0, rfl, HE.out.1.quiet ((Touch.refl [] _).drew), HE.out.2.drew⟩
end Go.Proofs.YtgdmiodcfdcihaaGreatDoor
