/- real.Number at any text (2). -/
import Derived.Test.YtibifcchmccknaaDoorNumAny
namespace Go.Proofs.YtibifcchmccknaaDoor
open Go.RowKit

theorem size_of' (l : List UInt8) : (⟨l.toArray⟩ : ByteArray).size = l.length := by
  show l.toArray.size = _
  rw [List.size_toArray]
theorem trim_len (l p : List UInt8) : (Lib.trimPrefix l p).length ≤ l.length := by
  unfold Lib.trimPrefix
  split
  · rw [List.length_drop]; omega
  · exact Nat.le_refl _
theorem cut_len (l p : List UInt8) : (Lib.cut l p).1.length ≤ l.length ∧ (Lib.cut l p).2.1.length ≤ l.length := by
  unfold Lib.cut
  split
  · simp only [List.length_take, List.length_drop]; omega
  · simp
theorem bitLen_log (x : Nat) (h0 : x ≠ 0) (h : x < 18446744073709551616) : Lib.bitLen x = x.log2 + 1 := by
  have h1 := Nat.log2_self_le h0
  have h2 := Nat.lt_log2_self (n := x)
  rw [Lib.bitLen_shift x.log2 x h1 h]
  have : x / 2 ^ x.log2 = 1 := by
    rw [Nat.div_eq_iff (Nat.two_pow_pos _)]
    rw [Nat.pow_succ] at h2
    omega
  rw [this]
  rfl

/-- Number's answer at s -/
def NumIs (s : ByteArray) (v : Int) (b : Bool) : Prop := ∀ w, TzTab w → MaxIs w → ErrIs w → RngIs w →
  Calls Tryd.prog 18 #[.string s] w fun e w' => e = .returned (.tuple #[.int .i64 v, .bool b]) ∧ Touch [] w w'

/-- the five parts -/
structure PartsA (s rest hd tl tl2 : ByteArray) (sg found under : Bool) (m k : Int) (ok is : Bool) : Prop where
  c1 : ∀ W, Calls Tryd.prog 27 #[.string s, .string ⟨#[45]⟩] W fun e w' => e = .returned (.tuple #[.string rest, .bool sg]) ∧ W = w'
  c2 : ∀ W, MaxIs W → Calls Tryd.prog 28 #[.string rest, .string ⟨#[112]⟩] W fun e w' => e = .returned (.tuple #[.string hd, .string tl, .bool found]) ∧ Touch [] W w'
  c3 : ∀ W, Calls Tryd.prog 27 #[.string tl, .string ⟨#[45]⟩] W fun e w' => e = .returned (.tuple #[.string tl2, .bool under]) ∧ W = w'
  c4 : ∀ W, ErrIs W → RngIs W → Calls Tryd.prog 29 #[.string hd, .int .i64 16] W fun e w' => e = .returned (.tuple #[.int .i64 m, .bool ok]) ∧ Touch [] W w'
  c5 : ∀ W, ErrIs W → RngIs W → Calls Tryd.prog 29 #[.string tl2, .int .i64 4] W fun e w' => e = .returned (.tuple #[.int .i64 k, .bool is]) ∧ Touch [] W w'
  km : ok = true → m.natAbs < 10 ^ 16
  kk : is = true → k.natAbs < 10 ^ 4

theorem partsA (s : ByteArray) (hs : s.size ≤ 200) : ∃ rest hd tl tl2 sg found under m k ok is, PartsA s rest hd tl tl2 sg found under m k ok is := by
  have e1 : s.data.toList.length ≤ 200 := by rw [Array.length_toList]; exact hs
  have l1 := trim_len s.data.toList [45]
  have l2 := cut_len (Lib.trimPrefix s.data.toList [45]) [112]
  have l3 := trim_len (Lib.cut (Lib.trimPrefix s.data.toList [45]) [112]).2.1 [45]
  obtain ⟨m, ok, km, h4⟩ := whole_any ⟨(Lib.cut (Lib.trimPrefix s.data.toList [45]) [112]).1.toArray⟩ (by rw [size_of']; omega) 16
  obtain ⟨k, is, kk, h5⟩ := whole_any ⟨(Lib.trimPrefix (Lib.cut (Lib.trimPrefix s.data.toList [45]) [112]).2.1 [45]).toArray⟩ (by rw [size_of']; omega) 4
  refine ⟨⟨(Lib.trimPrefix s.data.toList [45]).toArray⟩, _, ⟨(Lib.cut (Lib.trimPrefix s.data.toList [45]) [112]).2.1.toArray⟩, _, Lib.hasPrefix s.data.toList [45], (Lib.cut (Lib.trimPrefix s.data.toList [45]) [112]).2.2, Lib.hasPrefix (Lib.cut (Lib.trimPrefix s.data.toList [45]) [112]).2.1 [45], m, k, ok, is, ?_, ?_, ?_, h4, h5, km, kk⟩
  · intro W
    exact (Tryd.strings_CutPrefix s ⟨#[45]⟩ W).mono fun _ _ ⟨h1, h2⟩ => ⟨h1, h2.symm⟩
  · rintro W ⟨mx, hmx⟩
    have h := Tryd.strings_Cut ⟨(Lib.trimPrefix s.data.toList [45]).toArray⟩ ⟨#[112]⟩ mx W (by rw [size_of']; omega) hmx
    exact h.mono fun _ _ ⟨h1, n, h2⟩ => ⟨h1, h2 ▸ (Touch.refl _ _).drewN _⟩
  · intro W
    exact (Tryd.strings_CutPrefix ⟨(Lib.cut (Lib.trimPrefix s.data.toList [45]) [112]).2.1.toArray⟩ ⟨#[45]⟩ W).mono fun _ _ ⟨h1, h2⟩ => ⟨h1, h2.symm⟩

set_option maxHeartbeats 6400000 in
set_option maxRecDepth 100000 in
theorem Number_no (s rest hd tl tl2 : ByteArray) (sg found under : Bool) (m k : Int) (ok is : Bool) (hP : PartsA s rest hd tl tl2 sg found under m k ok is)
    (h : found = false ∨ found = true ∧ ok = false ∨ found = true ∧ ok = true ∧ is = false ∨ found = true ∧ ok = true ∧ is = true ∧ 9007199254740992 < m) : NumIs s 0 false := by
  intro w hT hM hE hR
  have HM := Lib.hid hM
  have HE := Lib.hid hE
  have HR := Lib.hid hR
  have c1 := hP.c1
  have c2 := hP.c2
  have c3 := hP.c3
  have c4 := hP.c4
  have c5 := hP.c5
  clear hP hT hM hE hR
  rcases h with rfl | ⟨rfl, rfl⟩ | ⟨rfl, rfl, rfl⟩ | ⟨rfl, rfl, rfl, hbig⟩
  all_goals
    go_enter Tryd.func18, Tryd.ntmps18
    go_wp2_with fail
    refine (c1 _).mono ?_
    rintro _ _ ⟨rfl, rfl⟩
    go_wp2_with fail
    refine (c2 _ HM.out).mono ?_
    rintro _ w2 ⟨rfl, t2⟩
    go_wp2_with fail
    refine (c3 _).mono ?_
    rintro _ _ ⟨rfl, rfl⟩
    go_wp2_with fail
    refine (c4 _ (HE.out.touch t2) (HR.out.touch t2)).mono ?_
    rintro _ w3 ⟨rfl, t3⟩
    have t4 := t2.trans t3 (by simp)
    clear t2 t3
    go_wp2_with fail
    refine (c5 _ (HE.out.touch t4) (HR.out.touch t4)).mono ?_
    rintro _ w5 ⟨rfl, t5⟩
    have t6 := t4.trans t5 (by simp)
    clear t4 t5 c1 c2 c3 c4 c5
    go_wp2_with fail
    go_ret2
    exact ⟨rfl, t6⟩

set_option maxHeartbeats 6400000 in
set_option maxRecDepth 100000 in
/-- a whole part that is nought or below it -/
theorem Number_zero (s rest hd tl tl2 : ByteArray) (sg under : Bool) (m k : Int) (hP : PartsA s rest hd tl tl2 sg true under m k true true) (hm : m ≤ 0) : NumIs s (madeOf (Ieee.double.word sg 0)) true := by
  intro w hT hM hE hR
  have HM := Lib.hid hM
  have HE := Lib.hid hE
  have HR := Lib.hid hR
  have hcs := fun W => copysign_any 0 (by omega) W
  have hword : Ieee.double.word true 0 = 9223372036854775808 := by decide
  have hmade := fun W => made_any (Ieee.double.word sg 0) (by cases sg <;> decide) W
  have hbig : ¬ 9007199254740992 < m := by omega
  have hpos : ¬ 0 < m := by omega
  have hk := hP.kk rfl
  have hk0 : -10000 < k := by omega
  have hk1 : k < 10000 := by omega
  have c1 := hP.c1
  have c2 := hP.c2
  have c3 := hP.c3
  have c4 := hP.c4
  have c5 := hP.c5
  clear hP hT hM hE hR hk
  rcases under with _ | _
  all_goals
    go_enter Tryd.func18, Tryd.ntmps18
    go_wp2_with fail
    refine (c1 _).mono ?_
    rintro _ _ ⟨rfl, rfl⟩
    go_wp2_with fail
    refine (c2 _ HM.out).mono ?_
    rintro _ w2 ⟨rfl, t2⟩
    go_wp2_with fail
    refine (c3 _).mono ?_
    rintro _ _ ⟨rfl, rfl⟩
    go_wp2_with fail
    refine (c4 _ (HE.out.touch t2) (HR.out.touch t2)).mono ?_
    rintro _ w3 ⟨rfl, t3⟩
    have t4 := t2.trans t3 (by simp)
    clear t2 t3
    go_wp2_with fail
    refine (c5 _ (HE.out.touch t4) (HR.out.touch t4)).mono ?_
    rintro _ w5 ⟨rfl, t5⟩
    have t6 := t4.trans t5 (by simp)
    clear t4 t5 c1 c2 c3 c4 c5
    rcases sg with _ | _
    · rw [Fl.word_false] at hmade
      go_wp2_with fail
      refine (hmade _).mono ?_
      rintro _ _ ⟨rfl, rfl⟩
      go_wp2_with fail
      go_ret2
      exact ⟨ret2 (vint (by rw [Fl.word_false])) rfl, t6⟩
    · rw [hword] at hmade
      go_wp2_with fail
      refine (hcs _).mono ?_
      rintro _ _ ⟨rfl, rfl⟩
      go_wp2_with fail
      refine (hmade _).mono ?_
      rintro _ _ ⟨rfl, rfl⟩
      go_wp2_with fail
      go_ret2
      exact ⟨ret2 (vint (by rw [hword])) rfl, t6⟩

end Go.Proofs.YtibifcchmccknaaDoor
