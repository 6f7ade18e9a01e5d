/- The walk of RealBack. -/
import Derived.Test.YtibifcchmccknaaDoorReal14
namespace Go.Proofs.YtibifcchmccknaaDoor
open Go.RowKit

theorem noparts_of (s : ByteArray) (sg : Bool) (l : List UInt8) (hl : l.length ≤ 18) (h1 : Lib.trimPrefix s.data.toList [45] = l) (h2 : Lib.hasPrefix s.data.toList [45] = sg) (h3 : Lib.cut l [112] = (l, [], false)) (h4 : Lib.atoi l = none) :
    NoParts s ⟨l.toArray⟩ ⟨#[]⟩ sg false where
  c1 W := by
    have h := Tryd.strings_CutPrefix s ⟨#[45]⟩ W
    rw [show (⟨#[45]⟩ : ByteArray).data.toList = [45] from rfl, h1, h2] at h
    exact h.mono fun _ _ ⟨h1, h2⟩ => ⟨h1, h2.symm⟩
  c2 W hM := by
    obtain ⟨mx, hmx⟩ := hM
    have h := Tryd.strings_Cut ⟨l.toArray⟩ ⟨#[112]⟩ mx W (by rw [size_of]; omega) hmx
    rw [str_of, show (⟨#[112]⟩ : ByteArray).data.toList = [112] from rfl, h3] at h
    exact h.mono fun _ _ ⟨h1, n, h2⟩ => ⟨h1, h2 ▸ (Touch.refl _ _).drewN _⟩
  c3 W := by
    have h := Tryd.strings_CutPrefix ⟨#[]⟩ ⟨#[45]⟩ W
    exact h.mono fun _ _ ⟨h1, h2⟩ => ⟨h1, h2.symm⟩
  c4 W hE := by
    obtain ⟨ev, hv, hev⟩ := hE
    exact whole_no _ (by rw [size_of]; exact hl) (by rw [str_of]; exact h4) ev 16 W hv hev
  c5 W hE := by
    obtain ⟨ev, hv, hev⟩ := hE
    exact whole_no ⟨#[]⟩ (by decide) rfl ev 4 W hv hev
theorem nan_parts : NoParts ⟨#[110, 97, 110]⟩ ⟨#[110, 97, 110]⟩ ⟨#[]⟩ false false := noparts_of _ _ [110, 97, 110] (by decide) (by decide) (by decide) (by decide) (by decide)
theorem inf_parts : NoParts ⟨#[105, 110, 102]⟩ ⟨#[105, 110, 102]⟩ ⟨#[]⟩ false false := noparts_of _ _ [105, 110, 102] (by decide) (by decide) (by decide) (by decide) (by decide)
theorem neg_parts : NoParts ⟨#[45, 105, 110, 102]⟩ ⟨#[105, 110, 102]⟩ ⟨#[]⟩ true false := noparts_of _ _ [105, 110, 102] (by decide) (by decide) (by decide) (by decide) (by decide)

/-- what Number tells of the text of f -/
def BackIs (f : Int) (s : ByteArray) : Prop :=
  ((s = ⟨#[110, 97, 110]⟩ ∨ s = ⟨#[105, 110, 102]⟩ ∨ s = ⟨#[45, 105, 110, 102]⟩) ∧ ∀ w, MaxIs w → ErrIs w → Calls Tryd.prog 18 #[.string s] w fun e w' => e = .returned (.tuple #[.int .i64 0, .bool false]) ∧ Touch [] w w') ∨
  ((112 : UInt8) ∈ s.data.toList ∧ ∀ w, TzTab w → MaxIs w → Calls Tryd.prog 18 #[.string s] w fun e w' => e = .returned (.tuple #[.int .i64 f, .bool true]) ∧ Touch [] w w')
theorem sgn_list (x : Nat) : (sgnS x).data.toList = if Fl.sg x then [45] else [] := by
  unfold sgnS
  cases Fl.sg x <;> rfl
theorem back_is (f : Int) (f0 : -9223372036854775808 ≤ f) (f1 : f ≤ 9223372036854775807) (s : ByteArray) (h : TextIs (bitsOf f) s) : BackIs f s := by
  have hlt := bitsOf_lt f
  have hback := cellOf_bitsOf f f0 f1
  obtain ⟨x, hx⟩ : ∃ x, bitsOf f = x := ⟨_, rfl⟩
  rw [hx] at h hlt hback
  have hmade : ∀ r, r = Fl.rg x → r ≤ 9218868437227405312 → madeOf (Ieee.double.word (Fl.sg x) r) = f := by
    intro r hr hle
    rw [hr, Fl.word_of x hlt]
    unfold madeOf
    rw [if_neg (by unfold nanB; omega), hback]
  rcases h with ⟨_, rfl⟩ | ⟨_, rfl⟩ | ⟨h, rfl⟩ | ⟨hf, m, t, h1, h2, _, _, rfl⟩
  · exact .inl ⟨.inl rfl, fun w hM hE => number_none _ _ _ _ _ nan_parts w hM hE⟩
  · cases hs : Fl.sg x
    · have e : sgnS x ++ ⟨#[105, 110, 102]⟩ = ⟨#[105, 110, 102]⟩ := by unfold sgnS; rw [hs]; rfl
      rw [e]
      exact .inl ⟨.inr (.inl rfl), fun w hM hE => number_none _ _ _ _ _ inf_parts w hM hE⟩
    · have e : sgnS x ++ ⟨#[105, 110, 102]⟩ = ⟨#[45, 105, 110, 102]⟩ := by unfold sgnS; rw [hs]; rfl
      rw [e]
      exact .inl ⟨.inr (.inr rfl), fun w hM hE => number_none _ _ _ _ _ neg_parts w hM hE⟩
  · refine .inr ⟨by simp [ByteArray.data_append], fun w hT hM => ?_⟩
    have hp := parts_of (sgnS x ++ ⟨#[48]⟩ ++ ⟨#[112]⟩ ++ ⟨#[48]⟩) (Fl.sg x) 0 0 (by decide) (by decide) (by
      simp only [ByteArray.data_append, Array.toList_append, sgn_list]
      have e1 : Lib.decDigits 0 = [48] := by decide +kernel
      have e2 : Lib.itoa 0 = [48] := by decide +kernel
      rw [e1, e2]
      simp)
    have hn := number_zero _ _ _ _ _ _ hp w hM
    rw [hmade 0 h.symm (by omega)] at hn
    exact hn
  · refine .inr ⟨by simp [ByteArray.data_append], fun w hT hM => ?_⟩
    have hE := Fl.E_le hf
    have hm53 := odd_le h1 h2
    have ht : t < 2099 := by
      have := bitLen_bound (by omega) hf h2 (by omega)
      omega
    have hp := parts_of (sgnS x ++ ⟨(Lib.decDigits m).toArray⟩ ++ ⟨#[112]⟩ ++ ⟨(Lib.itoa ((t : Int) - 1074)).toArray⟩) (Fl.sg x) m ((t : Int) - 1074) (by omega) (by omega) (by
      simp only [ByteArray.data_append, Array.toList_append, sgn_list]
      simp)
    have hn := number_some _ _ _ _ _ _ _ m _ t (Fl.rg x) hp h1 hm53 hf h2 (by
      by_cases h : (t : Int) - 1074 < 0
      · rw [decide_eq_true h, if_pos rfl]; omega
      · rw [decide_eq_false h, if_neg (by simp)]; omega) (by omega) w hT hM
    rw [hmade _ rfl (by omega)] at hn
    exact hn

set_option maxHeartbeats 6400000 in
set_option maxRecDepth 100000 in
theorem RealBack_walk (f : Int) (f0 : -9223372036854775808 ≤ f) (f1 : f ≤ 9223372036854775807) (w : World) (hT : TzTab w) (hP : PowTab w) (hM : MaxIs w) (hE : ErrIs w) :
    Calls Tryd.prog 7 #[.int .i64 f] w fun e w' => e = .returned (.bool true) ∧ Touch [] w w' := by
  have HT := Lib.hid hT
  have HP := Lib.hid hP
  have HM := Lib.hid hM
  have HE := Lib.hid hE
  clear hT hP hM hE
  go_enter Tryd.func7, Tryd.ntmps7
  go_wp2_with fail
  refine (shown_any _ HT.out HP.out).mono ?_
  rintro _ w1 ⟨rfl, t1⟩
  go_wp2_with fail
  refine (Text_any f _ (HT.out.touch t1) (tab_touch HP.out t1)).mono ?_
  rintro _ w2 ⟨s, hs, rfl, t2⟩
  have t3 := t1.trans t2 (by simp)
  clear t1 t2
  rcases back_is f f0 f1 s hs with ⟨hlit, hN⟩ | ⟨hp, hN⟩
  · clear hs
    rcases hlit with rfl | rfl | rfl
    all_goals
      go_wp2_with fail
      refine (hN _ (HM.out.touch t3) (HE.out.touch t3)).mono ?_
      rintro _ w4 ⟨rfl, t4⟩
      have t5 := t3.trans t4 (by simp)
      clear t3 t4 hN
      go_wp2_with fail
      go_ret
      exact ⟨rfl, t5⟩
  · have n1 : (s.toList == [110, 97, 110]) = false := by
      rw [beq_eq_false_iff_ne, ByteArray.toList_eq]; intro h; rw [h] at hp; exact absurd hp (by decide)
    have n2 : (s.toList == [105, 110, 102]) = false := by
      rw [beq_eq_false_iff_ne, ByteArray.toList_eq]; intro h; rw [h] at hp; exact absurd hp (by decide)
    have n3 : (s.toList == [45, 105, 110, 102]) = false := by
      rw [beq_eq_false_iff_ne, ByteArray.toList_eq]; intro h; rw [h] at hp; exact absurd hp (by decide)
    clear hs hp
    go_wp2_with fail
    refine (hN _ (HT.out.touch t3) (HM.out.touch t3)).mono ?_
    rintro _ w4 ⟨rfl, t4⟩
    have t5 := t3.trans t4 (by simp)
    clear t3 t4 hN
    go_wp2_with fail
    go_ret
    exact ⟨rfl, t5⟩

end Go.Proofs.YtibifcchmccknaaDoor
