/- Number, at a text whose parts are known; the walk of RealBack. -/
import Derived.Test.YtibifcchmccknaaDoorReal11
namespace Go.Proofs.YtibifcchmccknaaDoor
open Go.RowKit

/-- MaxLen holds some int -/
def MaxIs (w : World) : Prop := ∃ mx, w.cell? ⟨2, 0, none⟩ = some (.int .i64 mx)
theorem MaxIs.touch {w w' : World} (h : MaxIs w) (ht : Touch [] w w') : MaxIs w' := by
  obtain ⟨mx, hm⟩ := h
  refine ⟨mx, ?_⟩
  have hlt : 2 < w.heap.size := by
    rcases Nat.lt_or_ge 2 w.heap.size with h' | h'
    · exact h'
    · rw [World.cell?] at hm
      simp [Array.getElem?_eq_none h'] at hm
  rw [ht.cell (p := ⟨2, 0, none⟩) hlt (by simp)]
  exact hm

/-- the parts of a text, as Number takes them -/
structure Parts (s rest hd tl tl2 : ByteArray) (sg under : Bool) (m k : Nat) : Prop where
  c1 : ∀ W, Calls Tryd.prog 27 #[.string s, .string ⟨#[45]⟩] W fun e w' => e = .returned (.tuple #[.string rest, .bool sg]) ∧ W = w'
  c2 : ∀ W, MaxIs W → Calls Tryd.prog 28 #[.string rest, .string ⟨#[112]⟩] W fun e w' => e = .returned (.tuple #[.string hd, .string tl, .bool true]) ∧ Touch [] W w'
  c3 : ∀ W, Calls Tryd.prog 27 #[.string tl, .string ⟨#[45]⟩] W fun e w' => e = .returned (.tuple #[.string tl2, .bool under]) ∧ W = w'
  c4 : ∀ W, Calls Tryd.prog 29 #[.string hd, .int .i64 16] W fun e w' => e = .returned (.tuple #[.int .i64 m, .bool true]) ∧ Touch [] W w'
  c5 : ∀ W, Calls Tryd.prog 29 #[.string tl2, .int .i64 4] W fun e w' => e = .returned (.tuple #[.int .i64 k, .bool true]) ∧ Touch [] W w'

theorem bitLen_bound {m t r : Nat} (hm0 : m ≠ 0) (hr : r < 9218868437227405312) (hv : Fl.Nv r = m * 2 ^ t) (hm : m < 18446744073709551616) : Lib.bitLen m + t ≤ 2098 := by
  have hM : Fl.M r ≠ 0 := by
    intro h
    rw [Fl.Nv, h, Nat.zero_mul] at hv
    rcases Nat.mul_eq_zero.1 hv.symm with h1 | h1
    · exact hm0 h1
    · exact absurd h1 (Nat.ne_of_gt (Nat.two_pow_pos _))
  have e1 := Fl.log2_mul_pow (Fl.M r) (Fl.E r) hM
  have e2 := Fl.log2_mul_pow m t hm0
  rw [← hv] at e2
  rw [show Fl.M r * 2 ^ Fl.E r = Fl.Nv r from rfl] at e1
  have h3 := (Fl.log_M r).resolve_left hM
  have hE := Fl.E_le hr
  have hl : m.log2 < 64 := (Nat.log2_lt hm0).2 (by simpa using hm)
  have := Lib.bitLen_le m (m.log2 + 1) (by omega) (Fl.nat_pow_log m hm0)
  omega

set_option maxHeartbeats 6400000 in
set_option maxRecDepth 100000 in
theorem number_some (s rest hd tl tl2 : ByteArray) (sg under : Bool) (m k t r : Nat) (hP : Parts s rest hd tl tl2 sg under m k) (hm : m % 2 = 1) (hm53 : m < 9007199254740992) (hr : r < 9218868437227405312) (hv : Fl.Nv r = m * 2 ^ t)
    (he : (if under then -(k : Int) else (k : Int)) = (t : Int) - 1074) (hk : k < 10000) (w : World) (hT : TzTab w) (hM : MaxIs w) :
    Calls Tryd.prog 18 #[.string s] w fun e w' => e = .returned (.tuple #[.int .i64 (madeOf (Ieee.double.word sg r)), .bool true]) ∧ Touch [] w w' := by
  have HT := Lib.hid hT
  have HM := Lib.hid hM
  have hm0 : m ≠ 0 := by omega
  obtain ⟨q0, hq0, hv0, hw0⟩ := Fl.flt_spec (m : Int) (by omega)
  rw [decide_eq_false (by omega), Fl.word_false] at hw0
  have hsc := fun W => scaled_any m t r q0 hm53 hm0 hr hv hq0 (by simpa using hv0) W
  have hbl := bitLen_bound hm0 hr hv (by omega)
  have hctz : Lib.ctz 64 m = 0 := by
    obtain ⟨n, hn, _⟩ := Lib.ctzFrom_spec 64 m (by omega) (by omega)
    unfold Lib.ctz
    rw [if_neg hm0]
    rcases Nat.eq_zero_or_pos (Lib.ctzFrom 64 m) with h | h
    · exact h
    · obtain ⟨j, hj⟩ : ∃ j, Lib.ctzFrom 64 m = j + 1 := ⟨Lib.ctzFrom 64 m - 1, by omega⟩
      rw [hj, Nat.pow_succ, Nat.mul_comm (2 ^ j) 2, Nat.mul_assoc] at hn
      omega
  have hlen := fun W => Tryd.bits_Len64 (m : Int) W (by omega) (by omega)
  rw [Int.toNat_natCast] at hlen
  obtain ⟨b, hb⟩ : ∃ b, Lib.bitLen m = b := ⟨_, rfl⟩
  rw [hb] at hlen hbl
  have hcs := fun W => copysign_any r (by omega) W
  have hword : Ieee.double.word true r = 9223372036854775808 + r := by unfold Ieee.Format.word; rw [Fl.c_sign]; rfl
  have hmade := fun W => made_any (Ieee.double.word sg r) (by unfold Ieee.Format.word; rw [Fl.c_sign]; split <;> omega) W
  have c1 := hP.c1
  have c2 := hP.c2
  have c3 := hP.c3
  have c4 := hP.c4
  have c5 := hP.c5
  have HV := Lib.hid hv
  clear hT hM hv hv0 hP hb
  cases under
  all_goals
    have he' : (_ : Int) = (t : Int) - 1074 := he
    clear he
    simp only [Bool.false_eq_true, if_false, if_true] at he'
    have hb2 : (t : Int) - 1074 + b ≤ 1024 := by omega
    have hb1 : -1074 ≤ (t : Int) - 1074 := by omega
    rw [← he'] at hsc hb1 hb2
    have HE := Lib.hid he'
    clear he' hbl
    go_enter Tryd.func18, Tryd.ntmps18
    go_wp2_with fail
    refine (c1 _).mono ?_
    rintro _ _ ⟨rfl, rfl⟩
    go_wp2_with fail
    refine (c2 _ HM.out).mono ?_
    rintro _ w2 ⟨rfl, t2⟩
    go_wp2_with fail
    refine (c3 _).mono ?_
    rintro _ _ ⟨rfl, rfl⟩
    go_wp2_with fail
    refine (c4 _).mono ?_
    rintro _ w3 ⟨rfl, t3⟩
    have t4 := t2.trans t3 (by simp)
    clear t2 t3
    go_wp2_with fail
    refine (c5 _).mono ?_
    rintro _ w5 ⟨rfl, t5⟩
    have t6 := t4.trans t5 (by simp)
    clear t4 t5 c1 c2 c3 c4 c5
    go_wp2_with fail
    refine (tz_any m (by omega) hm0 _ (HT.out.touch t6)).mono ?_
    rintro _ _ ⟨rfl, rfl⟩
    rw [hctz]
    go_wp2_with fail
    refine (hlen _).mono ?_
    rintro _ _ ⟨rfl, rfl⟩
    go_wp2_with fail
    refine (hsc _).mono ?_
    rintro _ _ ⟨rfl, rfl⟩
    rcases sg with _ | _
    · rw [Fl.word_false] at hmade
      go_wp2_with fail
      refine (hmade _).mono ?_
      rintro _ _ ⟨rfl, rfl⟩
      go_wp2_with fail
      go_ret2
      exact ⟨ret2 (vint (by rw [Fl.word_false])) rfl, t6⟩
    · rw [hword] at hmade
      go_wp2_with fail
      refine (hcs _).mono ?_
      rintro _ _ ⟨rfl, rfl⟩
      go_wp2_with fail
      refine (hmade _).mono ?_
      rintro _ _ ⟨rfl, rfl⟩
      go_wp2_with fail
      go_ret2
      exact ⟨ret2 (vint (by rw [hword])) rfl, t6⟩

end Go.Proofs.YtibifcchmccknaaDoor
