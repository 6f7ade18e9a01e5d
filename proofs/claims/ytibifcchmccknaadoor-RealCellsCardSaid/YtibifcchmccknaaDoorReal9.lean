/- The walk of RealCells. -/
import Derived.Test.YtibifcchmccknaaDoorReal8
namespace Go.Proofs.YtibifcchmccknaaDoor
open Go.RowKit

/-- how the first half of the law goes: small; great; or out of range -/
def FirstIs (n x e : Int) : Prop :=
  (-9007199254740992 < n ∧ n < 9007199254740992 ∧ x = n ∧ e = 0) ∨
  ((n ≤ -9007199254740992 ∨ 9007199254740992 ≤ n) ∧ e = 0 ∧ x - n ≤ 512 ∧ n - x ≤ 512 ∧ -9223372036854775808 ≤ x ∧ x ≤ 9223372036854775807) ∨
  (9223372036854775296 ≤ n ∧ x = 0 ∧ e = -43)
theorem first_is (n : Int) (n0 : -9223372036854775808 ≤ n) (n1 : n ≤ 9223372036854775807) : ∃ x e : Int, FirstIs n x e ∧ ∀ w, Calls Tryd.prog 15 #[.int .i64 (ofC n)] w fun e' w' => e' = .returned (.tuple #[.int .i64 x, .int .i64 e]) ∧ w = w' := by
  obtain ⟨v, hN, hf, hc⟩ := near_any n n0 n1
  have h := to_fin (ofC n) hf
  rw [hc] at h
  unfold toOf at h
  by_cases hin : -9223372036854775808 ≤ v ∧ v < 9223372036854775808
  · rw [if_pos hin] at h
    refine ⟨v, 0, ?_, h⟩
    by_cases hs : -9007199254740992 < n ∧ n < 9007199254740992
    · exact .inl ⟨hs.1, hs.2, hN.small hs.1 hs.2, rfl⟩
    · have := hN.up
      have := hN.low
      exact .inr (.inl ⟨by omega, rfl, by omega, by omega, by omega, by omega⟩)
  · rw [if_neg hin] at h
    have := hN.pos
    have := hN.up
    exact ⟨0, -43, .inr (.inr ⟨by omega, rfl, rfl⟩), h⟩
/-- how the second half begins -/
def ThenIs (f y g : Int) : Prop := (g = -43 ∧ y = 0) ∨ (g = 0 ∧ y = cutOf (bitsOf f) ∧ Fl.fin (bitsOf f) ∧ -9223372036854775808 ≤ cutOf (bitsOf f) ∧ cutOf (bitsOf f) < 9223372036854775808)
theorem then_is (f : Int) : ∃ y g : Int, ThenIs f y g ∧ ∀ w, Calls Tryd.prog 15 #[.int .i64 f] w fun e' w' => e' = .returned (.tuple #[.int .i64 y, .int .i64 g]) ∧ Touch [] w w' := by
  by_cases hf : Fl.fin (bitsOf f)
  · have h := to_fin f hf
    unfold toOf at h
    by_cases hin : -9223372036854775808 ≤ cutOf (bitsOf f) ∧ cutOf (bitsOf f) < 9223372036854775808
    · rw [if_pos hin] at h
      exact ⟨_, 0, .inr ⟨rfl, rfl, hf, hin.1, hin.2⟩, fun w => (h w).mono fun _ _ ⟨h1, h2⟩ => ⟨h1, h2 ▸ Touch.refl _ _⟩⟩
    · rw [if_neg hin] at h
      exact ⟨0, -43, .inl ⟨rfl, rfl⟩, fun w => (h w).mono fun _ _ ⟨h1, h2⟩ => ⟨h1, h2 ▸ Touch.refl _ _⟩⟩
  · exact ⟨0, -43, .inl ⟨rfl, rfl⟩, fun w => to_none f hf w⟩

set_option maxHeartbeats 6400000 in
set_option maxRecDepth 100000 in
theorem RealCells_walk (n f : Int) (n0 : -9223372036854775808 ≤ n) (n1 : n ≤ 9223372036854775807) (_ : -9223372036854775808 ≤ f) (_ : f ≤ 9223372036854775807) (w : World) (hT : TzTab w) (hP : PowTab w) :
    Calls Tryd.prog 5 #[.int .i64 n, .int .i64 f] w fun e w' => e = .returned (.bool true) ∧ Touch [] w w' := by
  have HT := Lib.hid hT
  have HP := Lib.hid hP
  clear hT hP
  obtain ⟨x, e, hF, hx⟩ := first_is n n0 n1
  obtain ⟨y, g, hG, hy⟩ := then_is f
  have HG := Lib.hid hG
  clear hG
  have hcase : (∃ s : Bool, s = true ∧ -9007199254740992 < n ∧ n < 9007199254740992 ∧ x = n ∧ e = 0) ∨ (n ≤ -9007199254740992 ∧ e = 0 ∧ x - n ≤ 512 ∧ n - x ≤ 512 ∧ -9223372036854775808 ≤ x ∧ x ≤ 9223372036854775807) ∨ (-9007199254740992 < n ∧ 9007199254740992 ≤ n ∧ e = 0 ∧ x - n ≤ 512 ∧ n - x ≤ 512 ∧ -9223372036854775808 ≤ x ∧ x ≤ 9223372036854775807) ∨ (-9007199254740992 < n ∧ 9223372036854775296 ≤ n ∧ x = 0 ∧ e = -43) := by
    rcases hF with ⟨h1, h2, h3, h4⟩ | ⟨h1, h2, h3, h4, h5, h6⟩ | ⟨h1, h2, h3⟩
    · exact .inl ⟨true, rfl, h1, h2, h3, h4⟩
    · rcases h1 with h1 | h1
      · exact .inr (.inl ⟨h1, h2, h3, h4, h5, h6⟩)
      · exact .inr (.inr (.inl ⟨by omega, h1, h2, h3, h4, h5, h6⟩))
    · exact .inr (.inr (.inr ⟨by omega, h1, h2, h3⟩))
  clear hF
  go_enter Tryd.func5, Tryd.ntmps5
  go_wp2_with fail
  refine (shown_any _ HT.out HP.out).mono ?_
  rintro _ w1 ⟨rfl, t1⟩
  go_wp2_with fail
  refine (of_cell _ _).mono ?_
  rintro _ _ ⟨rfl, rfl⟩
  go_wp2_with fail
  refine (hx _).mono ?_
  rintro _ _ ⟨rfl, rfl⟩
  rcases hcase with ⟨s, hs, h1, h2, rfl, rfl⟩ | ⟨h1, rfl, h2, h3, h4, h5⟩ | ⟨h0, h1, rfl, h2, h3, h4, h5⟩ | ⟨h0, h1, rfl, rfl⟩
  case' inr.inl => have s1 : wrap64 (x - n) = x - n := by unfold wrap64; omega
  case' inr.inl => have s2 : wrap64 (n - x) = n - x := by unfold wrap64; omega
  case' inr.inr.inl => have s1 : wrap64 (x - n) = x - n := by unfold wrap64; omega
  case' inr.inr.inl => have s2 : wrap64 (n - x) = n - x := by unfold wrap64; omega
  all_goals
    go_wp2_with fail
    refine (hy _).mono ?_
    rintro _ w2 ⟨rfl, t2⟩
    have t3 := t1.trans t2 (by simp)
    clear t1 t2
    rcases HG.out with ⟨hg, hy0⟩ | ⟨hg, hy0, hfin, _, _⟩
    case' inl =>
      subst hg hy0
      go_wp2_with fail
      go_ret
      exact ⟨rfl, t3⟩
    obtain ⟨s1, s2, s3, s4, k1, k2, k3, k4, k5, k6⟩ := rest_is f hfin
    rw [← hy0] at k2 k4
    subst hg
    clear hy0 hfin
    go_wp2_with fail
    refine (k1 _).mono ?_
    rintro _ _ ⟨rfl, rfl⟩
    go_wp2_with fail
    refine (of_cell _ _).mono ?_
    rintro _ _ ⟨rfl, rfl⟩
    go_wp2_with fail
    refine (k2 _).mono ?_
    rintro _ _ ⟨rfl, rfl⟩
    go_wp2_with fail
    refine (k3 _).mono ?_
    rintro _ _ ⟨rfl, rfl⟩
    go_wp2_with fail
    refine (of_cell _ _).mono ?_
    rintro _ _ ⟨rfl, rfl⟩
    go_wp2_with fail
    refine (k4 _).mono ?_
    rintro _ w4 ⟨rfl, t4⟩
    have t5 := t3.trans t4 (by simp)
    clear t3 t4
    go_wp2_with fail
    refine (k5 _).mono ?_
    rintro _ _ ⟨rfl, rfl⟩
    go_wp2_with fail
    refine (of_cell _ _).mono ?_
    rintro _ _ ⟨rfl, rfl⟩
    go_wp2_with fail
    refine (k6 _).mono ?_
    rintro _ _ ⟨rfl, rfl⟩
    go_wp2_with fail
    go_ret
    exact ⟨rfl, t5⟩

end Go.Proofs.YtibifcchmccknaaDoor
