/- rhytonref02.Of, rhytonref03.Signed, rhytonref04.digits and Open. -/
import Derived.Test.YtibifcchmccknaaDoorText3
import Derived.Test.YtibifcchmccknaaDoorNumAny3
namespace Go.Proofs.YtibifcchmccknaaDoor
open Go.RowKit

/-- the pair of a cell, as a number -/
def ofN (a : Int) : Nat := (a % 340282366920938463463374607431768211456).toNat
theorem ofN_lt (a : Int) : ofN a < 340282366920938463463374607431768211456 := by unfold ofN; omega
theorem ofN_cells (a : Int) (h0 : -9223372036854775808 ≤ a) (h1 : a ≤ 9223372036854775807) : pl (ofN a) = a ∧ ph (ofN a) = if a < 0 then -1 else 0 := by
  unfold pl ph ofN cellOf
  constructor
  · split <;> omega
  · by_cases h : a < 0
    · rw [if_pos h]
      split <;> omega
    · rw [if_neg h]
      split <;> omega

set_option maxRecDepth 100000 in
theorem rof_any (a : Int) (h0 : -9223372036854775808 ≤ a) (h1 : a ≤ 9223372036854775807) (w : World) : Calls Tryd.prog 57 #[.int .i64 a] w fun e w' => e = .returned (.agg (two (ofN a))) ∧ Touch [] w w' := by
  obtain ⟨e1, e2⟩ := ofN_cells a h0 h1
  unfold two
  rw [e1, e2]
  have bR := Blk.new w 57 #[.int .i64 0, .int .i64 0]
  have tw := (Touch.refl [] w).alloc (.cells #[.int .i64 0, .int .i64 0] 57)
  clear e1 e2 h0 h1
  by_cases h : a < 0
  · rw [if_pos h]
    go_enter Tryd.func57, Tryd.ntmps57
    go_wp2_with fail
    go_returns
    exact ⟨rfl, by first | exact tw | exact (Touch.refl _ _).alloc _⟩
  · rw [if_neg h]
    go_enter Tryd.func57, Tryd.ntmps57
    go_wp2_with fail
    go_returns
    exact ⟨rfl, by first | exact tw | exact (Touch.refl _ _).alloc _⟩

theorem baseL_len (B : Nat) (hB : 2 ≤ B) : ∀ (k n : Nat), n < 2 ^ (k + 1) → (baseL B n).length ≤ k + 1
  | 0, n, h => by
    rw [baseL_last B n (by omega)]
    exact Nat.le_refl _
  | k + 1, n, h => by
    by_cases hn : n < B
    · rw [baseL_last B n hn]
      simp
    · rw [baseL_more B n hB (by omega), List.length_append, List.length_singleton]
      have h2 : n / B ≤ n / 2 := Nat.div_le_div_left hB (by omega)
      have := baseL_len B hB k (n / B) (by rw [Nat.pow_succ] at h; omega)
      omega
theorem baseL_size (B n : Nat) (hB : 2 ≤ B) (hn : n < 340282366920938463463374607431768211456) : (⟨(baseL B n).toArray⟩ : ByteArray).size ≤ 128 := by
  rw [size_of]
  exact baseL_len B hB 127 n hn

/-- a pair with its sign -/
def signedL (B N : Nat) : List UInt8 := if 170141183460469231731687303715884105728 ≤ N then 45 :: baseL B ((340282366920938463463374607431768211456 - N) % 340282366920938463463374607431768211456) else baseL B N
set_option maxRecDepth 100000 in
theorem signed_any (N B : Nat) (hN : N < 340282366920938463463374607431768211456) (hB0 : 2 ≤ B) (hB : B ≤ 36) (w : World) :
    Calls Tryd.prog 56 #[.agg (two N), .int .i64 (B : Int)] w fun e w' => e = .returned (.string ⟨(signedL B N).toArray⟩) ∧ Touch [] w w' := by
  have hrt := fun W => right_any (B : Int) (by omega) (by omega) W
  have hsg := ph_neg N hN
  have b0 := Blk.new w 57 #[.int .i64 (pl N), .int .i64 (ph N)]
  have tw := (Touch.refl [] w).alloc (.cells #[.int .i64 (pl N), .int .i64 (ph N)] 57)
  by_cases h : 170141183460469231731687303715884105728 ≤ N
  · have hn := hsg.2 h
    have hneg := fun W => neg_p N hN _ rfl W
    have htx := fun W => text_any ((340282366920938463463374607431768211456 - N) % 340282366920938463463374607431768211456) B (Nat.mod_lt _ (by omega)) hB0 hB W
    have e : signedL B N = 45 :: baseL B ((340282366920938463463374607431768211456 - N) % 340282366920938463463374607431768211456) := by unfold signedL; rw [if_pos h]
    rw [e]
    have hlen := baseL_size B ((340282366920938463463374607431768211456 - N) % 340282366920938463463374607431768211456) hB0 (Nat.mod_lt _ (by omega))
    obtain ⟨R, hR⟩ : ∃ R, (340282366920938463463374607431768211456 - N) % 340282366920938463463374607431768211456 = R := ⟨_, rfl⟩
    rw [hR] at hneg htx hlen ⊢
    have hcat : (⟨(45 :: baseL B R).toArray⟩ : ByteArray) = (⟨#[45]⟩ : ByteArray) ++ ⟨(baseL B R).toArray⟩ := str_ext (by simp)
    rw [hcat]
    obtain ⟨S, hS⟩ : ∃ S : ByteArray, ⟨(baseL B R).toArray⟩ = S := ⟨_, rfl⟩
    rw [hS] at htx hlen ⊢
    unfold two at htx ⊢
    clear hR e h hsg hcat hS
    go_enter Tryd.func56, Tryd.ntmps56
    go_wp2_with fail
    refine (hrt _).mono ?_
    rintro _ _ ⟨rfl, rfl⟩
    go_wp2_with fail
    refine (hneg _).mono ?_
    rintro _ w1 ⟨rfl, t1⟩
    have tw := tw.trans t1 (by simp)
    go_wp2_with fail
    refine (htx _).mono ?_
    rintro _ w2 ⟨rfl, t2⟩
    have tw := tw.trans t2 (by simp)
    go_wp2_with fail
    go_ret
    exact ⟨rfl, tw⟩
  · have hn : ¬ ph N < 0 := fun h' => h (hsg.1 h')
    have htx := fun W => text_any N B hN hB0 hB W
    have e : signedL B N = baseL B N := by unfold signedL; rw [if_neg h]
    rw [e]
    unfold two at htx ⊢
    clear e h hsg hrt
    go_enter Tryd.func56, Tryd.ntmps56
    go_wp2_with fail
    refine (htx _).mono ?_
    rintro _ w2 ⟨rfl, t2⟩
    have tw := tw.trans t2 (by simp)
    go_wp2_with fail
    go_ret
    exact ⟨rfl, by first | exact tw | exact (Touch.refl _ _).alloc _⟩

theorem signed_itoa (n : Int) (h0 : -9223372036854775808 ≤ n) (h1 : n ≤ 9223372036854775807) : signedL 10 (ofN n) = Lib.itoa n := by
  unfold signedL Lib.itoa
  by_cases h : n < 0
  · rw [if_pos h, if_pos (by unfold ofN; omega), show (340282366920938463463374607431768211456 - ofN n) % 340282366920938463463374607431768211456 = n.natAbs by unfold ofN; omega, baseL_dec]
  · rw [if_neg h, if_neg (by unfold ofN; omega), show ofN n = n.toNat by unfold ofN; omega, baseL_dec]

set_option maxRecDepth 100000 in
theorem digits_any (n : Int) (h0 : -9223372036854775808 ≤ n) (h1 : n ≤ 9223372036854775807) (w : World) :
    Calls Tryd.prog 43 #[.int .i64 n] w fun e w' => e = .returned (.string ⟨(Lib.itoa n).toArray⟩) ∧ Touch [] w w' := by
  have ho := fun W => rof_any n h0 h1 W
  have hs := fun W => signed_any (ofN n) 10 (ofN_lt n) (by omega) (by omega) W
  rw [signed_itoa n h0 h1] at hs
  unfold two at ho hs
  clear h0 h1
  go_enter Tryd.func43, Tryd.ntmps43
  go_wp2_with fail
  refine (ho _).mono ?_
  rintro _ w1 ⟨rfl, t1⟩
  go_wp2_with fail
  refine (hs _).mono ?_
  rintro _ w2 ⟨rfl, t2⟩
  go_wp2_with fail
  go_ret
  exact ⟨rfl, t1.trans t2 (by simp)⟩

end Go.Proofs.YtibifcchmccknaaDoor
