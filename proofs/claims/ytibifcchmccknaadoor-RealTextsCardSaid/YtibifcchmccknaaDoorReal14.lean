/- The parts of the texts that Text makes. -/
import Derived.Test.YtibifcchmccknaaDoorReal13
namespace Go.Proofs.YtibifcchmccknaaDoor
open Go.RowKit

theorem dec_len : ∀ (k m : Nat), 0 < k → m < 10 ^ k → (Lib.decDigits m).length ≤ k
  | 0, _, h, _ => absurd h (Nat.lt_irrefl 0)
  | k + 1, m, _, h => by
    rw [Lib.decDigits]
    split
    · simp
    · rename_i h10
      rw [List.length_append]
      rcases k with _ | k
      · rw [Nat.zero_add, Nat.pow_one] at h; omega
      · have := dec_len (k + 1) (m / 10) (by omega) (by rw [Nat.pow_succ] at h; omega)
        simp only [List.length_cons, List.length_nil]
        omega
theorem odd_le {m t r : Nat} (hm : m % 2 = 1) (hv : Fl.Nv r = m * 2 ^ t) : m < 9007199254740992 := by
  have hM := Fl.M_lt r
  unfold Fl.Nv at hv
  rcases Nat.lt_or_ge t (Fl.E r) with h | h
  · obtain ⟨d, hd⟩ : ∃ d, Fl.E r = (d + 1) + t := ⟨Fl.E r - t - 1, by omega⟩
    rw [hd, Nat.pow_add, ← Nat.mul_assoc] at hv
    have h2 := Nat.eq_of_mul_eq_mul_right (Nat.two_pow_pos t) hv
    rw [Nat.pow_succ, ← Nat.mul_assoc] at h2
    omega
  · obtain ⟨d, hd⟩ : ∃ d, t = d + Fl.E r := ⟨t - Fl.E r, by omega⟩
    rw [hd, Nat.pow_add, ← Nat.mul_assoc] at hv
    have h2 := Nat.eq_of_mul_eq_mul_right (Nat.two_pow_pos (Fl.E r)) hv
    have h3 : m * 1 ≤ m * 2 ^ d := Nat.mul_le_mul_left _ (Nat.two_pow_pos d)
    omega
theorem str_of (l : List UInt8) : (⟨l.toArray⟩ : ByteArray).data.toList = l := by simp
theorem size_of (l : List UInt8) : (⟨l.toArray⟩ : ByteArray).size = l.length := by
  show l.toArray.size = _
  rw [List.size_toArray]
theorem whole_dec (m : Nat) (k : Nat) (hk : 0 < k) (hk2 : k ≤ 16) (hm : m < 10 ^ k) (W : World) :
    Calls Tryd.prog 29 #[.string ⟨(Lib.decDigits m).toArray⟩, .int .i64 k] W fun e w' => e = .returned (.tuple #[.int .i64 m, .bool true]) ∧ Touch [] W w' := by
  have hl := dec_len k m hk hm
  have hs := size_of (Lib.decDigits m)
  have h0 : 0 < (⟨(Lib.decDigits m).toArray⟩ : ByteArray).size := by rw [hs]; exact List.length_pos_iff.2 (dec_ne m)
  have hc := dec_digit m ((⟨(Lib.decDigits m).toArray⟩ : ByteArray)[0]'h0) (by
    show (Lib.decDigits m).toArray[0]'_ ∈ _
    rw [List.getElem_toArray]
    exact List.getElem_mem _)
  exact whole_ok _ (m : Int) (by rw [hs]; omega) (by rw [str_of]; exact atoi_dec m) h0 _ rfl hc.1 hc.2 k (by rw [hs]; omega) W
theorem no_p (m : Nat) : (112 : UInt8) ∉ Lib.decDigits m := by
  intro h
  have := dec_digit m _ h
  exact absurd this.2 (by decide)
theorem no_sign (m : Nat) (r : List UInt8) : ∀ b, (Lib.decDigits m ++ r).head? = some b → b ≠ 45 := by
  intro b hb
  cases h : Lib.decDigits m with
  | nil => exact absurd h (dec_ne m)
  | cons c t =>
    rw [h] at hb
    have e : c = b := by simpa using hb
    have := dec_digit m c (by rw [h]; simp)
    intro h2
    rw [e, h2] at this
    exact absurd this.1 (by decide)

/-- THE PARTS of sign, digits, p, digits -/
theorem parts_of (s : ByteArray) (sg : Bool) (m : Nat) (e : Int) (hm : m < 10 ^ 16) (he : e.natAbs < 10 ^ 4) (hs : s.data.toList = (if sg then [45] else []) ++ (Lib.decDigits m ++ 112 :: Lib.itoa e)) :
    Parts s ⟨(Lib.decDigits m ++ 112 :: Lib.itoa e).toArray⟩ ⟨(Lib.decDigits m).toArray⟩ ⟨(Lib.itoa e).toArray⟩ ⟨(Lib.decDigits e.natAbs).toArray⟩ sg (decide (e < 0)) m e.natAbs where
  c1 W := by
    have h := Tryd.strings_CutPrefix s ⟨#[45]⟩ W
    have hp : Lib.trimPrefix s.data.toList [45] = Lib.decDigits m ++ 112 :: Lib.itoa e ∧ Lib.hasPrefix s.data.toList [45] = sg := by
      rw [hs]
      cases sg
      · exact prefix_no _ 45 (no_sign m _)
      · exact prefix_yes _ 45
    rw [show (⟨#[45]⟩ : ByteArray).data.toList = [45] from rfl, hp.1, hp.2] at h
    exact h.mono fun _ _ ⟨h1, h2⟩ => ⟨h1, h2.symm⟩
  c2 W hM := by
    obtain ⟨mx, hmx⟩ := hM
    have hi : (Lib.itoa e).length ≤ 5 := by
      have := dec_len 4 e.natAbs (by omega) he
      unfold Lib.itoa
      split
      · rw [List.length_cons]; omega
      · rw [show e.toNat = e.natAbs by omega]; omega
    have hd := dec_len 16 m (by omega) hm
    have h := Tryd.strings_Cut ⟨(Lib.decDigits m ++ 112 :: Lib.itoa e).toArray⟩ ⟨#[112]⟩ mx W (by rw [size_of, List.length_append, List.length_cons]; omega) hmx
    rw [str_of, show (⟨#[112]⟩ : ByteArray).data.toList = [112] from rfl, cut_one _ _ _ (no_p m)] at h
    exact h.mono fun _ _ ⟨h1, n, h2⟩ => ⟨h1, h2 ▸ (Touch.refl _ _).drewN _⟩
  c3 W := by
    have h := Tryd.strings_CutPrefix ⟨(Lib.itoa e).toArray⟩ ⟨#[45]⟩ W
    have hp : Lib.trimPrefix (Lib.itoa e) [45] = Lib.decDigits e.natAbs ∧ Lib.hasPrefix (Lib.itoa e) [45] = decide (e < 0) := by
      unfold Lib.itoa
      by_cases hn : e < 0
      · rw [if_pos hn, decide_eq_true hn]
        exact prefix_yes _ 45
      · rw [if_neg hn, decide_eq_false hn, show e.toNat = e.natAbs by omega]
        have := no_sign e.natAbs []
        rw [List.append_nil] at this
        exact prefix_no _ 45 this
    rw [str_of, show (⟨#[45]⟩ : ByteArray).data.toList = [45] from rfl, hp.1, hp.2] at h
    exact h.mono fun _ _ ⟨h1, h2⟩ => ⟨h1, h2.symm⟩
  c4 W := whole_dec m 16 (by omega) (by omega) hm W
  c5 W := whole_dec e.natAbs 4 (by omega) (by omega) he W

end Go.Proofs.YtibifcchmccknaaDoor
