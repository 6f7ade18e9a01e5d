/- recog: the closures for numbers and letters; what recognizers are asked. -/
import Derived.Test.YtgdmiodcfdcihaaGreatDoorRecog1
namespace Go.Proofs.YtgdmiodcfdcihaaGreatDoor
open Go.RowKit

set_option maxRecDepth 100000 in
set_option maxHeartbeats 800000 in
theorem Cell_any (s : ByteArray) (hs : s.size ≤ 200) (base : Int) (hb : 2 ≤ base) (hb' : base ≤ 36) (bS bB : Nat) (w : World) (cS : w.cell? ⟨bS, 0, none⟩ = some (.string s)) (cB : w.cell? ⟨bB, 0, none⟩ = some (.int .i64 base)) (hS : bS < w.heap.size) (hB : bB < w.heap.size) :
    Calls Tryz.prog 34 #[.pointer (some ⟨bS, 0, none⟩), .pointer (some ⟨bB, 0, none⟩)] w fun e w' =>
      e = .returned (.tuple #[(⟨2, 0, false, (numF s base).1.1, 0⟩ : KnownV).v, .bool ((numF s base).2 == 1)]) ∧ Touch [] w w' := by
  have hn := number_any s hs base hb hb' 1 (w.alloc (.cells zeroKnown 27))
  obtain ⟨⟨⟨p0, p1⟩, k⟩, hR⟩ : ∃ R, numF s base = R := ⟨_, rfl⟩
  rw [hR] at hn ⊢
  obtain ⟨b, hkb⟩ : ∃ b, (k == (1 : Int)) = b := ⟨_, rfl⟩
  simp only [hkb] at hn ⊢
  unfold zeroKnown at hn
  clear hR hs hb hb' hkb
  go_enter Tryz.func34, Tryz.ntmps34
  go_wp2_with fail
  refine hn.mono ?_
  rintro _ w1 ⟨rfl, t1⟩
  have bK : Blk w1 w.heap.size 27 #[.int .i64 0, .int .i64 0, .bool false, .int .i64 0, .int .i64 0] := (Blk.new w _ _).touch t1 (by simp)
  have tw : Touch [] w w1 := ((Touch.refl [] w).alloc _).trans t1 (by simp)
  clear t1
  unfold pairW
  go_upto_region 2 with (fail)
  have bA := Blk.new w1 33 #[.int .i64 p0, .int .i64 p1]
  have bK := bK.alloc (.cells #[.int .i64 p0, .int .i64 p1] 33)
  have tw := tw.alloc (.cells #[.int .i64 p0, .int .i64 p1] 33)
  generalize w1.alloc (.cells #[.int .i64 p0, .int .i64 p1] 33) = wA at *
  have a0 := bA.cell 0
  have a1 := bA.cell 1
  have k0 := bK.cell 0
  have k1 := bK.cell 1
  have k2 := bK.cell 2
  have k3 := bK.cell 3
  have k4 := bK.cell 4
  have j0 := bK.frozen 0
  have j1 := bK.frozen 1
  have j2 := bK.frozen 2
  have j3 := bK.frozen 3
  have j4 := bK.frozen 4
  go_wp2_with fail
  obtain ⟨z0, z1, z2, z3, z4⟩ := five_back bK (.int .i64 2) (.int .i64 0) (.bool false) (.int .i64 p0) (.int .i64 0)
  refine bodyPost_ret (by simp [results, Tryz.results34, go_sem, z0, z1, z2, z3, z4]; try rfl) rfl ⟨rfl, ?_⟩
  exact five_touch tw (.inr (Nat.le_refl _)) _ _ _ _ _

set_option maxRecDepth 100000 in
set_option maxHeartbeats 800000 in
theorem Pair_any (s : ByteArray) (hs : s.size ≤ 200) (base : Int) (hb : 2 ≤ base) (hb' : base ≤ 36) (bS bB : Nat) (w : World) (cS : w.cell? ⟨bS, 0, none⟩ = some (.string s)) (cB : w.cell? ⟨bB, 0, none⟩ = some (.int .i64 base)) (hS : bS < w.heap.size) (hB : bB < w.heap.size) :
    Calls Tryz.prog 36 #[.pointer (some ⟨bS, 0, none⟩), .pointer (some ⟨bB, 0, none⟩)] w fun e w' =>
      e = .returned (.tuple #[(⟨3, 0, false, (numF s base).1.1, (numF s base).1.2⟩ : KnownV).v, .bool ((numF s base).2 == 2)]) ∧ Touch [] w w' := by
  have hn := number_any s hs base hb hb' 2 (w.alloc (.cells zeroKnown 27))
  obtain ⟨⟨⟨p0, p1⟩, k⟩, hR⟩ : ∃ R, numF s base = R := ⟨_, rfl⟩
  rw [hR] at hn ⊢
  obtain ⟨b, hkb⟩ : ∃ b, (k == (2 : Int)) = b := ⟨_, rfl⟩
  simp only [hkb] at hn ⊢
  unfold zeroKnown at hn
  clear hR hs hb hb' hkb
  go_enter Tryz.func36, Tryz.ntmps36
  go_wp2_with fail
  refine hn.mono ?_
  rintro _ w1 ⟨rfl, t1⟩
  have bK : Blk w1 w.heap.size 27 #[.int .i64 0, .int .i64 0, .bool false, .int .i64 0, .int .i64 0] := (Blk.new w _ _).touch t1 (by simp)
  have tw : Touch [] w w1 := ((Touch.refl [] w).alloc _).trans t1 (by simp)
  clear t1
  unfold pairW
  go_upto_region 2 with (fail)
  have bA := Blk.new w1 33 #[.int .i64 p0, .int .i64 p1]
  have bK := bK.alloc (.cells #[.int .i64 p0, .int .i64 p1] 33)
  have tw := tw.alloc (.cells #[.int .i64 p0, .int .i64 p1] 33)
  generalize w1.alloc (.cells #[.int .i64 p0, .int .i64 p1] 33) = wA at *
  have a0 := bA.cell 0
  have a1 := bA.cell 1
  have k0 := bK.cell 0
  have k1 := bK.cell 1
  have k2 := bK.cell 2
  have k3 := bK.cell 3
  have k4 := bK.cell 4
  have j0 := bK.frozen 0
  have j1 := bK.frozen 1
  have j2 := bK.frozen 2
  have j3 := bK.frozen 3
  have j4 := bK.frozen 4
  go_wp2_with fail
  obtain ⟨z0, z1, z2, z3, z4⟩ := five_back bK (.int .i64 3) (.int .i64 0) (.bool false) (.int .i64 p0) (.int .i64 p1)
  refine bodyPost_ret (by simp [results, Tryz.results36, go_sem, z0, z1, z2, z3, z4]; try rfl) rfl ⟨rfl, ?_⟩
  exact five_touch tw (.inr (Nat.le_refl _)) _ _ _ _ _

/-- the letter between two marks -/
def charF (s : ByteArray) : Option UInt8 := match s.data.toList with
  | [a, c, b] => if a.toNat = 39 ∧ b.toNat = 39 then some c else none
  | _ => none
def charK (o : Option UInt8) : KnownV := match o with
  | some c => ⟨2, 0, false, c.toNat, 0⟩
  | none => KnownV.none

set_option maxRecDepth 100000 in
set_option maxHeartbeats 1600000 in
theorem Char_any (s : ByteArray) (bS : Nat) (w : World) (cS : w.cell? ⟨bS, 0, none⟩ = some (.string s)) (hS : bS < w.heap.size) :
    Calls Tryz.prog 37 #[.pointer (some ⟨bS, 0, none⟩)] w fun e w' => e = .returned (.tuple #[(charK (charF s)).v, .bool (charF s).isSome]) ∧ Touch [] w w' := by
  have bK : Blk (w.alloc (.cells #[.int .i64 0, .int .i64 0, .bool false, .int .i64 0, .int .i64 0] 27)) w.heap.size 27 #[.int .i64 0, .int .i64 0, .bool false, .int .i64 0, .int .i64 0] := Blk.new w _ _
  have k0 := bK.cell 0
  have k1 := bK.cell 1
  have k2 := bK.cell 2
  have k3 := bK.cell 3
  have k4 := bK.cell 4
  obtain ⟨R, hR⟩ : ∃ R, charF s = R := ⟨_, rfl⟩
  rw [hR]
  by_cases h3 : s.size = 3
  · obtain ⟨a, c, b, hl⟩ : ∃ a c b, s.data.toList = [a, c, b] := by
      have : s.data.toList.length = 3 := by rw [str_size]; exact h3
      match hm : s.data.toList, this with
      | [a, c, b], _ => exact ⟨a, c, b, rfl⟩
    unfold charF at hR
    rw [hl] at hR
    simp only at hR
    have g0 : s[0]'(by omega) = a := by
      have := str_get s 0 (by omega)
      rw [hl] at this
      simpa using this.symm
    have g1 : s[1]'(by omega) = c := by
      have := str_get s 1 (by omega)
      rw [hl] at this
      simpa using this.symm
    have g2 : s[2]'(by omega) = b := by
      have := str_get s 2 (by omega)
      rw [hl] at this
      simpa using this.symm
    have hlc := c.toNat_lt
    clear hl
    rcases (show (a.toNat = 39 ∧ b.toNat = 39) ∨ (a.toNat ≠ 39) ∨ (a.toNat = 39 ∧ b.toNat ≠ 39) by omega) with h | h | h
    · rw [if_pos h] at hR
      subst hR
      obtain ⟨ha, hb⟩ := h
      unfold charK KnownV.v
      have e1 : ((a.toNat : Int) != 39) = false := by simp; omega
      have e2 : ((b.toNat : Int) != 39) = false := by simp; omega
      go_enter Tryz.func37, Tryz.ntmps37
      go_wp2_with fail
      go_returns
      exact ⟨rfl, (Touch.refl _ _).alloc _⟩
    all_goals
      rw [if_neg (by omega)] at hR
      subst hR
      unfold charK KnownV.v KnownV.none
    · have e1 : ((a.toNat : Int) != 39) = true := by simp; omega
      go_enter Tryz.func37, Tryz.ntmps37
      go_wp2_with fail
      go_returns
      exact ⟨rfl, (Touch.refl _ _).alloc _⟩
    · obtain ⟨ha, hb⟩ := h
      have e1 : ((a.toNat : Int) != 39) = false := by simp; omega
      have e2 : ((b.toNat : Int) != 39) = true := by simp; omega
      go_enter Tryz.func37, Tryz.ntmps37
      go_wp2_with fail
      go_returns
      exact ⟨rfl, (Touch.refl _ _).alloc _⟩
  · have hn : charF s = none := by
      unfold charF
      split
      · rename_i x y z he
        exact absurd (by rw [← str_size, he]; rfl) h3
      · rfl
    rw [hn] at hR
    subst hR
    unfold charK KnownV.v KnownV.none
    have e0 : ((s.size : Int) != 3) = true := by simp; omega
    go_enter Tryz.func37, Tryz.ntmps37
    go_wp2_with fail
    go_returns
    exact ⟨rfl, (Touch.refl _ _).alloc _⟩

/-- what is asked: the map of the six closures -/
def askList (n : Nat) : List (Int × Value) :=
  [(-1, .func (.func 32) #[] #[.pointer (some ⟨n + 1, 0, none⟩), .pointer (some ⟨n, 0, none⟩)]),
   (-2, .func (.func 34) #[] #[.pointer (some ⟨n, 0, none⟩), .pointer (some ⟨n + 2, 0, none⟩)]),
   (-3, .func (.func 36) #[] #[.pointer (some ⟨n, 0, none⟩), .pointer (some ⟨n + 2, 0, none⟩)]),
   (-4, .func (.func 37) #[] #[.pointer (some ⟨n, 0, none⟩)]),
   (-5, .func (.func 38) #[] #[.pointer (some ⟨n, 0, none⟩)]),
   (-6, .func (.func 40) #[] #[.pointer (some ⟨n, 0, none⟩), .pointer (some ⟨n + 3, 0, none⟩)])]

set_option maxRecDepth 100000 in
set_option maxHeartbeats 1600000 in
theorem asks_any (s : ByteArray) (D : Nat) (base : Int) (a : Option Addr) (len cap : Nat) (w : World) :
    Calls Tryz.prog 18 #[.string s, .pointer (some ⟨D, 0, none⟩), .int .i64 base, .slice a len cap] w fun e w' =>
      e = .returned (.map (some (w.heap.size + 4))) ∧ IMap w' (w.heap.size + 4) (askList w.heap.size) ∧ Touch [] w w' ∧
        Blk w' w.heap.size 9 #[.string s] ∧ Blk w' (w.heap.size + 1) 24 #[.pointer (some ⟨D, 0, none⟩)] ∧ Blk w' (w.heap.size + 2) 3 #[.int .i64 base] ∧ Blk w' (w.heap.size + 3) 34 #[.slice a len cap] := by
  have hmm := @run_makeMap Tryz.prog
  have b0 := (((Blk.new w 9 #[.string s]).alloc (.cells #[.pointer (some ⟨D, 0, none⟩)] 24)).alloc (.cells #[.int .i64 base] 3)).alloc (.cells #[.slice a len cap] 34)
  have b1 := ((Blk.new_at (n := w.heap.size + 1) (w.alloc (.cells #[.string s] 9)) (by simp) 24 #[.pointer (some ⟨D, 0, none⟩)]).alloc (.cells #[.int .i64 base] 3)).alloc (.cells #[.slice a len cap] 34)
  have b2 := (Blk.new_at (n := w.heap.size + 2) ((w.alloc (.cells #[.string s] 9)).alloc (.cells #[.pointer (some ⟨D, 0, none⟩)] 24)) (by simp) 3 #[.int .i64 base]).alloc (.cells #[.slice a len cap] 34)
  have b3 := Blk.new_at (n := w.heap.size + 3) (((w.alloc (.cells #[.string s] 9)).alloc (.cells #[.pointer (some ⟨D, 0, none⟩)] 24)).alloc (.cells #[.int .i64 base] 3)) (by simp) 34 #[.slice a len cap]
  have t4 := ((((Touch.refl [] w).alloc (.cells #[.string s] 9)).alloc (.cells #[.pointer (some ⟨D, 0, none⟩)] 24)).alloc (.cells #[.int .i64 base] 3)).alloc (.cells #[.slice a len cap] 34)
  have hs : ((((w.alloc (.cells #[.string s] 9)).alloc (.cells #[.pointer (some ⟨D, 0, none⟩)] 24)).alloc (.cells #[.int .i64 base] 3)).alloc (.cells #[.slice a len cap] 34)).heap.size = w.heap.size + 4 := by simp
  have hmk := hmm 58 ((((w.alloc (.cells #[.string s] 9)).alloc (.cells #[.pointer (some ⟨D, 0, none⟩)] 24)).alloc (.cells #[.int .i64 base] 3)).alloc (.cells #[.slice a len cap] 34))
  have i0 := IMap.new ((((w.alloc (.cells #[.string s] 9)).alloc (.cells #[.pointer (some ⟨D, 0, none⟩)] 24)).alloc (.cells #[.int .i64 base] 3)).alloc (.cells #[.slice a len cap] 34))
  rw [hs] at i0
  go_enter Tryz.func18, Tryz.ntmps18
  have tall := t4.alloc (.map #[] 0)
  have b0 := b0.alloc (.map #[] 0)
  have b1 := b1.alloc (.map #[] 0)
  have b2 := b2.alloc (.map #[] 0)
  have b3 := b3.alloc (.map #[] 0)
  clear t4
  go_wp2_with (refine wpList_iins _ rfl _ _ _ 58 rfl _ _ Tryz.underlying58 Tryz.underlying3 _ _ rfl (by first | assumption | exact i0) _ rfl _ rfl ?_; intro wn hn tn; have tall := tall.trans tn (by simp <;> omega); have b0 := b0.touch tn (by simp <;> omega); have b1 := b1.touch tn (by simp <;> omega); have b2 := b2.touch tn (by simp <;> omega); have b3 := b3.touch tn (by simp <;> omega))
  go_ret
  refine ⟨rfl, ?_, tall, b0, b1, b2, b3⟩
  exact hn
end Go.Proofs.YtgdmiodcfdcihaaGreatDoor
