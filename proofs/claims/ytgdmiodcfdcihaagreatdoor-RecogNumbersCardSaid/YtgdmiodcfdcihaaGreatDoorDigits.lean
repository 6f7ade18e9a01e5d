/- digit.Number: what it makes of a text, as a function of the text alone. -/
import Derived.Test.YtgdmiodcfdcihaaGreatDoorPairs
namespace Go.Proofs.YtgdmiodcfdcihaaGreatDoor
open Go.RowKit

theorem right_yes (b : Int) (h : 2 ≤ b) (h' : b ≤ 36) (w : World) : Calls Tryz.prog 63 #[.int .i64 b] w fun e w' => e = .returned (.bool true) ∧ w = w' := by
  go_enter Tryz.func63, Tryz.ntmps63
  go_wp2
  go_ret
  exact ⟨rfl, rfl⟩

def basesF (c : Nat) : Nat := if c = 35 then 10 else if c = 36 then 16 else if c = 37 then 2 else 0
theorem bases_any (c : Nat) (w : World) : Calls Tryz.prog 64 #[.int .u8 c] w fun e w' => e = .returned (.int .i64 (basesF c)) ∧ w = w' := by
  unfold basesF
  by_cases h1 : c = 35
  · subst h1
    go_enter Tryz.func64, Tryz.ntmps64
    go_wp2
    go_ret
    exact ⟨rfl, rfl⟩
  by_cases h2 : c = 36
  · subst h2
    go_enter Tryz.func64, Tryz.ntmps64
    go_wp2
    go_ret
    exact ⟨rfl, rfl⟩
  by_cases h3 : c = 37
  · subst h3
    go_enter Tryz.func64, Tryz.ntmps64
    go_wp2
    go_ret
    exact ⟨rfl, rfl⟩
  rw [if_neg h1, if_neg h2, if_neg h3]
  have e1 : ((c : Int) == 35) = false := by simp; omega
  have e2 : ((c : Int) == 36) = false := by simp; omega
  have e3 : ((c : Int) == 37) = false := by simp; omega
  go_enter Tryz.func64, Tryz.ntmps64
  go_wp2
  go_ret
  exact ⟨rfl, rfl⟩

def digitsB : List UInt8 := [48, 49, 50, 51, 52, 53, 54, 55, 56, 57, 65, 66, 67, 68, 69, 70, 71, 72, 73, 74, 75, 76, 77, 78, 79, 80, 81, 82, 83, 84, 85, 86, 87, 88, 89, 90]
/-- where a letter stands among the digits; -1: nowhere -/
def placeF (c : UInt8) : Int := Lib.indexByte digitsB (if 97 ≤ c.toNat ∧ c.toNat ≤ 122 then UInt8.ofNat (c.toNat - 32) else c)
def valF (c : UInt8) (base : Int) : Int × Bool := if 0 ≤ placeF c ∧ placeF c < base then (placeF c, true) else (0, false)

theorem toU8 (n : Nat) (_h : n < 256) : (n : Int).toNat.toUInt8 = UInt8.ofNat n := by simp
theorem Value_any (c : UInt8) (base : Int) (w : World) : Calls Tryz.prog 75 #[.int .u8 (c.toNat : Int), .int .i64 base] w fun e w' => e = .returned (.tuple #[.int .i64 (valF c base).1, .bool (valF c base).2]) ∧ w = w' := by
  have hc := c.toNat_lt
  have hp : placeF c = Lib.indexByte digitsB (if 97 ≤ c.toNat ∧ c.toNat ≤ 122 then UInt8.ofNat (c.toNat - 32) else c) := rfl
  unfold valF
  obtain ⟨i, hi⟩ : ∃ i, placeF c = i := ⟨_, rfl⟩
  rw [hi] at hp ⊢
  clear hi
  by_cases hl : 97 ≤ c.toNat ∧ c.toNat ≤ 122
  · rw [if_pos hl] at hp
    have hix := fun w => Tryz.strings_IndexByte ⟨digitsB.toArray⟩ (((c.toNat - 32 : Nat) : Int)) w
    rw [toU8 _ (by omega), ← hp, show ((c.toNat - 32 : Nat) : Int) = (c.toNat : Int) - 32 by omega] at hix
    clear hp
    rcases (show (0 ≤ i ∧ i < base) ∨ i < 0 ∨ base ≤ i ∧ 0 ≤ i by omega) with hq | hq | hq
    · rw [if_pos hq]
      go_enter Tryz.func75, Tryz.ntmps75
      go_wp2_with fail
      refine (hix _).mono ?_
      rintro _ _ ⟨rfl, rfl⟩
      go_wp2_with fail
      go_ret2
      exact ⟨rfl, rfl⟩
    all_goals
      rw [if_neg (by omega)]
      go_enter Tryz.func75, Tryz.ntmps75
      go_wp2_with fail
      refine (hix _).mono ?_
      rintro _ _ ⟨rfl, rfl⟩
      go_wp2_with fail
      go_ret2
      exact ⟨rfl, rfl⟩
  · rw [if_neg hl] at hp
    have hix := fun w => Tryz.strings_IndexByte ⟨digitsB.toArray⟩ ((c.toNat : Int)) w
    rw [toU8 _ (by omega), UInt8.ofNat_toNat, ← hp] at hix
    clear hp
    rcases (show (c.toNat < 97 ∨ 97 ≤ c.toNat ∧ 122 < c.toNat) by omega) with hl | hl
    all_goals
      rcases (show (0 ≤ i ∧ i < base) ∨ i < 0 ∨ base ≤ i ∧ 0 ≤ i by omega) with hq | hq | hq
      · rw [if_pos hq]
        go_enter Tryz.func75, Tryz.ntmps75
        go_wp2_with fail
        refine (hix _).mono ?_
        rintro _ _ ⟨rfl, rfl⟩
        go_wp2_with fail
        go_ret2
        exact ⟨rfl, rfl⟩
      all_goals
        rw [if_neg (by omega)]
        go_enter Tryz.func75, Tryz.ntmps75
        go_wp2_with fail
        refine (hix _).mono ?_
        rintro _ _ ⟨rfl, rfl⟩
        go_wp2_with fail
        go_ret2
        exact ⟨rfl, rfl⟩

/-- one digit more -/
def stepP (p : Int × Int) (base n : Int) : Int × Int :=
  addP ((umulP p.1 base).1, wrap64 ((umulP p.1 base).2 + wrap64 (p.2 * base))) (ofP n)
/-- digits taken in: the pair then, and how many bytes were none -/
def acceptP (p : Int × Int) (base : Int) : List UInt8 → (Int × Int) × Nat
  | [] => (p, 0)
  | c :: l => if (valF c base).2 then acceptP (stepP p base (valF c base).1) base l else (p, l.length + 1)

set_option maxHeartbeats 3200000 in
set_option maxRecDepth 100000 in
theorem Accept_any (p : Int × Int) (s : ByteArray) (hs : s.size ≤ 1000) (base : Int) (hb : 2 ≤ base) (hb' : base ≤ 36) (w : World) :
    Calls Tryz.prog 66 #[pairW p, .string s, .int .i64 base] w fun e w' =>
      e = .returned (.tuple #[pairW (acceptP p base s.data.toList).1, .int .i64 (acceptP p base s.data.toList).2]) ∧ Touch [] w w' := by
  have hv := fun c w => Value_any c base w
  have hr := fun w => right_yes base hb hb' w
  have hmu := fun a w => UMul_any a base w
  obtain ⟨R, hR⟩ : ∃ R, acceptP p base s.data.toList = R := ⟨_, rfl⟩
  rw [hR]
  obtain ⟨p0, p1⟩ := p
  unfold pairW
  go_enter Tryz.func66, Tryz.ntmps66
  go_wp2_with fail
  have hB3 := (Blk.new w 33 #[.int .i64 p0, .int .i64 p1]).alloc (.cells #[.int .i64 0, .int .i64 0] 33)
  have hB6 := (Blk.new_at (w.alloc (.cells #[.int .i64 p0, .int .i64 p1] 33)) (n := w.heap.size + 1) (by simp) 33 #[.int .i64 0, .int .i64 0])
  have ht := ((Touch.refl [] w).alloc (.cells #[.int .i64 p0, .int .i64 p1] 33)).alloc (.cells #[.int .i64 0, .int .i64 0] 33)
  generalize hw0 : (w.alloc (.cells #[.int .i64 p0, .int .i64 p1] 33)).alloc (.cells #[.int .i64 0, .int .i64 0] 33) = w0 at *
  clear hw0
  go_loopw [14] (fun i wr => ∃ (k : Nat) (q : Int × Int), k ≤ s.size ∧ i = .int .i64 k ∧ R = acceptP q base (s.data.toList.drop k) ∧ Blk wr w.heap.size 33 #[.int .i64 q.1, .int .i64 q.2] ∧ Blk wr (w.heap.size + 1) 33 #[.int .i64 0, .int .i64 0] ∧ Touch [] w wr) (fun i _ => s.size - (intOf i).toNat)
  case atStart => exact ⟨0, (p0, p1), Nat.zero_le _, rfl, by simpa using hR.symm, hB3, hB6, ht⟩
  case round =>
    obtain ⟨k, q, hk, rfl, hq, b3, b6, tr⟩ := hrel
    clear hR hB3 hB6 ht
    have d0 := b3.cell 0
    have d1 := b3.cell 1
    have df0 := b3.frozen 0
    have df1 := b3.frozen 1
    have e0 := b6.cell 0
    have e1 := b6.cell 1
    have f0 := b6.frozen 0
    have f1 := b6.frozen 1
    by_cases hlt : k < s.size
    · have hcons : s.data.toList.drop k = s.data[k] :: s.data.toList.drop (k + 1) := by
        rw [List.drop_eq_getElem_cons (by simpa using hlt)]
        simp
      rw [hcons, acceptP] at hq
      clear hcons
      cases hval : (valF s.data[k] base).2 with
      | false =>
        rw [hval, if_neg (by simp), List.length_drop, Array.length_toList, show s.data.size = s.size from rfl, show s.size - (k + 1) + 1 = s.size - k by omega] at hq
        have hv1 := fun w => hv s.data[k] w
        rw [hval] at hv1
        clear hv
        go_wp2_with fail
        refine (hv1 _).mono ?_
        rintro _ _ ⟨rfl, rfl⟩
        go_wp2_with fail
        obtain ⟨z0, z1⟩ := two_back b6 (.int .i64 q.1) (.int .i64 q.2)
        subst hq
        refine bodyPost_ret (by simp [results, Tryz.results66, go_sem, z0, z1]; try rfl) rfl ⟨?_, ?_⟩
        · rw [show ((s.size - k : Nat) : Int) = (s.size : Int) - k by omega]
        · exact (tr.setCell (.inr (by simp)) _).setCell (.inr (by simp)) _
      | true =>
        rw [hval, if_pos rfl] at hq
        have hv1 := fun w => hv s.data[k] w
        rw [hval] at hv1
        clear hv
        obtain ⟨n, hn⟩ : ∃ n, (valF s.data[k] base).1 = n := ⟨_, rfl⟩
        rw [hn] at hv1 hq
        go_wp2_with fail
        refine (hv1 _).mono ?_
        rintro _ _ ⟨rfl, rfl⟩
        go_wp2_with fail
        refine (hr _).mono ?_
        rintro _ _ ⟨rfl, rfl⟩
        go_wp2_with fail
        refine (hmu _ _).mono ?_
        rintro _ w3 ⟨rfl, t3⟩
        obtain ⟨m, hm⟩ : ∃ m, umulP q.1 base = m := ⟨_, rfl⟩
        rw [hm]
        have c3 := b3.touch t3 (by simp)
        have c6 := b6.touch t3 (by simp)
        have u3 : Touch [] w w3 := tr.trans t3 (by simp)
        have d0 := c3.cell 0
        have d1 := c3.cell 1
        have hl3 := c3.lt
        have hq' : stepP q base n = addP (m.1, wrap64 (m.2 + wrap64 (q.2 * base))) (ofP n) := by
          rw [← hm]
          rfl
        rw [hq'] at hq
        clear hm hq'
        unfold pairW
        go_wp2_with fail
        obtain ⟨x, hx⟩ : ∃ x, wrap64 (m.2 + wrap64 (q.2 * base)) = x := ⟨_, rfl⟩
        rw [hx] at hq ⊢
        have b11 := Blk.new w3 33 #[.int .i64 m.1, .int .i64 x]
        have a3 := c3.alloc (.cells #[.int .i64 m.1, .int .i64 x] 33)
        have a6 := c6.alloc (.cells #[.int .i64 m.1, .int .i64 x] 33)
        have ua := u3.alloc (.cells #[.int .i64 m.1, .int .i64 x] 33)
        generalize hwA : w3.alloc (.cells #[.int .i64 m.1, .int .i64 x] 33) = wA at *
        clear hwA hx d0 d1 e0 e1 f0 f1 df0 df1 hl3 t3
        have g0 := b11.cell 0
        have g1 := b11.cell 1
        go_region_with (first
          | (go_at_call 78; refine (Of_any _ _).mono ?_; rintro _ w4 ⟨rfl, t4⟩; have t4 := t4.of_drew; have g40 := (b11.touch t4 (by simp)).cell 0; have g41 := (b11.touch t4 (by simp)).cell 1; have k3 := a3.touch t4 (by simp); have k6 := a6.touch t4 (by simp); have uk := ua.trans t4 (by simp))
          | (go_at_call 77; refine (Add_any (m.1, x) (ofP n) _).mono ?_; rintro _ w5 ⟨rfl, t5⟩; have k3 := k3.touch t5 (by simp); have k6 := k6.touch t5 (by simp); have uk := uk.trans t5 (by simp); have h0 := k3.cell 0; have h1 := k3.cell 1; have h2 := k3.frozen 0; have h3 := k3.frozen 1; unfold pairW))
        all_goals go_wp2_with fail
        all_goals refine ⟨⟨k + 1, addP (m.1, x) (ofP n), by omega, rfl, hq, k3.two _ _, (k6.far (by simp) _).far (by simp) _, (uk.setCell (.inr (Nat.le_refl _)) _).setCell (.inr (Nat.le_refl _)) _⟩, ?_⟩
        all_goals simp only [intOf]
        all_goals omega
    · obtain rfl : k = s.size := by omega
      rw [List.drop_eq_nil_of_le (by simp), acceptP] at hq
      subst hq
      go_wp2_with fail
      obtain ⟨z0, z1⟩ := two_back b6 (.int .i64 q.1) (.int .i64 q.2)
      refine bodyPost_ret (by simp [results, Tryz.results66, go_sem, z0, z1]; try rfl) rfl ⟨rfl, ?_⟩
      exact (tr.setCell (.inr (by simp)) _).setCell (.inr (by simp)) _
end Go.Proofs.YtgdmiodcfdcihaaGreatDoor
