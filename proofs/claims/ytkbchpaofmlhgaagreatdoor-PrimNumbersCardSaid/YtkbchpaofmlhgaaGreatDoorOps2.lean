/- Here, dot, spaces, type: operations of prim by their numbers. -/
import Derived.Test.YtkbchpaofmlhgaaGreatDoorOps1
import Derived.Test.YtkbchpaofmlhgaaGreatDoorDig2
import Derived.Test.YtkbchpaofmlhgaaGreatDoorShelf7
namespace Go.Proofs.YtkbchpaofmlhgaaGreatDoor
open Go.RowKit

theorem baseL_lenS (B : Nat) (hB : 2 ≤ B) : ∀ (k n : Nat), n < 2 ^ (k + 1) → (baseL B n).length ≤ k + 1
  | 0, n, h => by
    rw [baseL_last B n (by omega)]
    exact Nat.le_refl _
  | k + 1, n, h => by
    by_cases hn : n < B
    · rw [baseL_last B n hn]
      simp
    · rw [baseL_more B n hB (by omega), List.length_append, List.length_singleton]
      have h2 : n / B ≤ n / 2 := Nat.div_le_div_left hB (by omega)
      have := baseL_lenS B hB k (n / B) (by rw [Nat.pow_succ] at h; omega)
      omega
/-- a number as text, and a blank -/
def numT (B n : Nat) : ByteArray := ⟨(baseL B n).toArray⟩ ++ ⟨#[32]⟩
theorem number_ok {w : World} {s : Nat} {F : List Nat} {S : PS} (h : StateAt w s F S) (hok : S.ok) (n B : Nat) (hn : n < 18446744073709551616) (hB : S.base = B) (h2 : 2 ≤ B) (h36 : B ≤ 36) :
    Calls Tryz.prog 176 #[.pointer (some ⟨s, 0, none⟩), .agg #[.int .i64 (cellOf n), .int .i64 0]] w fun e w' => e = .returned (.int .i64 0) ∧ Done w s F S { S with out := sayL S.out (numT B n) } w' := by
  have hS := fun W => signedS n B hn h2 h36 W
  have hlen := baseL_lenS B h2 63 n hn
  unfold numT
  obtain ⟨T, hT⟩ : ∃ T : ByteArray, ⟨(baseL B n).toArray⟩ = T := ⟨_, rfl⟩
  have hsz : T.size ≤ 64 := by rw [← hT]; simpa [ByteArray.size] using hlen
  rw [hT] at hS ⊢
  clear hlen hT
  obtain ⟨c, hc⟩ : ∃ c : Int, cellOf n = c := ⟨_, rfl⟩
  rw [hc] at hS ⊢
  clear hc
  have bP := Blk.new w 38 #[.int .i64 c, .int .i64 0]
  have tP := (Touch.refl [] w).alloc (.cells #[.int .i64 c, .int .i64 0] 38)
  have hBa := Base_ok (h.quiet tP) hok.2.2.1 (by omega)
  rw [hB] at hBa
  have HH := Lib.hid (And.intro h (And.intro hok (And.intro bP tP)))
  clear h hok bP tP hB
  go_enter Tryz.func176, Tryz.ntmps176
  go_wp2_with fail
  refine hBa.mono ?_
  rintro _ w1 ⟨rfl, t1⟩
  have b1 := HH.out.2.2.1.touch t1 (by simp)
  have T1 := HH.out.2.2.2.trans t1 (by simp)
  have p0 := b1.cell 0
  have p1 := b1.cell 1
  have H1 := Lib.hid T1
  clear hBa t1 b1 T1
  go_wp2_with fail
  refine (hS _).mono ?_
  rintro _ w2 ⟨rfl, t2⟩
  have T2 := H1.out.trans t2 (by simp)
  have hSay := PSay_any (HH.out.1.quiet T2) HH.out.2.1.1 (T ++ ⟨#[32]⟩)
  have H2 := Lib.hid T2
  clear hS t2 T2 p0 p1
  go_wp2_with fail
  refine hSay.mono ?_
  rintro _ w3 ⟨F', rfl, k1, k2, k3⟩
  have HD : Hid (Done w s F S { S with out := sayL S.out (T ++ ⟨#[32]⟩) } w3) := ⟨F', k1, ⟨rfl, rfl, rfl, rfl, rfl, rfl⟩, (H2.out.mono (by simp)).trans k2 (fun g hg => .inl hg), k3.lower H2.out.size⟩
  clear hSay k1 k2 k3
  go_wp2_with fail
  go_ret
  exact ⟨rfl, HD.out⟩
theorem of_any (n : Nat) (hn : n < 9223372036854775808) (w : World) : Calls Tryz.prog 105 #[.int .i64 (n : Int)] w fun e w' => e = .returned (.agg #[.int .i64 (cellOf n), .int .i64 0]) ∧ Touch [] w w' := by
  have e1 : (n : Int) / 9223372036854775808 = 0 := by omega
  have e2 := small_cell n hn
  rw [e2]
  have bR := Blk.new w 38 #[.int .i64 0, .int .i64 0]
  go_enter Tryz.func105, Tryz.ntmps105
  go_wp2_with fail
  go_returns
  exact ⟨rfl, (Touch.refl _ _).alloc _⟩
/-- the cells that were taken, as the walk wants them -/
theorem CellsG.one {w : World} {lv : Value} {l : List Int} (h : CellsG w lv l) (hl : l.length = 1) : ∃ g c x, l = [x] ∧ lv = .slice (some ⟨g, 0, none⟩) 1 c ∧ w.cell? ⟨g, 0, none⟩ = some (.int .i64 x) := by
  obtain ⟨x, rfl⟩ := List.length_eq_one_iff.1 hl
  obtain ⟨g, c, e, h⟩ := h.get (by simp)
  exact ⟨g, c, x, rfl, e, h 0 (by simp)⟩
theorem CellsG.two {w : World} {lv : Value} {l : List Int} (h : CellsG w lv l) (hl : l.length = 2) : ∃ g c x y, l = [x, y] ∧ lv = .slice (some ⟨g, 0, none⟩) 2 c ∧ w.cell? ⟨g, 0, none⟩ = some (.int .i64 x) ∧ w.cell? ⟨g, 1, none⟩ = some (.int .i64 y) := by
  obtain ⟨x, y, rfl⟩ : ∃ x y, l = [x, y] := by
    match l, hl with
    | [x, y], _ => exact ⟨x, y, rfl⟩
  obtain ⟨g, c, e, h⟩ := h.get (by simp)
  exact ⟨g, c, x, y, rfl, e, h 0 (by simp), h 1 (by simp)⟩
theorem CellsG.three {w : World} {lv : Value} {l : List Int} (h : CellsG w lv l) (hl : l.length = 3) : ∃ g c x y z, l = [x, y, z] ∧ lv = .slice (some ⟨g, 0, none⟩) 3 c ∧ w.cell? ⟨g, 0, none⟩ = some (.int .i64 x) ∧ w.cell? ⟨g, 1, none⟩ = some (.int .i64 y) ∧ w.cell? ⟨g, 2, none⟩ = some (.int .i64 z) := by
  obtain ⟨x, y, z, rfl⟩ : ∃ x y z, l = [x, y, z] := by
    match l, hl with
    | [x, y, z], _ => exact ⟨x, y, z, rfl⟩
  obtain ⟨g, c, e, h⟩ := h.get (by simp)
  exact ⟨g, c, x, y, z, rfl, e, h 0 (by simp), h 1 (by simp), h 2 (by simp)⟩
theorem here_sem : OpSem 82 0 (fun _ _ => True) (fun _ S => (([S.here], 0), S)) := by
  intro W B s F S t f first cap l lv hok hS hF hfd
  obtain ⟨b, C, hC, hb, hA, hB⟩ := found_memory hfd rfl rfl
  obtain ⟨g, _, hg, rfl, rfl, rfl, rfl⟩ := act_open (hA : ActAt C 0 213 149 (.func (.func 153) #[] #[.pointer (some ⟨b, 0, none⟩)]) _ W) (Nat.zero_le _)
  refine ⟨rfl, enters_of Tryz.func213 (by kernel_rfl) rfl, fun hl _ hc => ActDone.post (gives_clo hg (enters_of Tryz.func153 (by kernel_rfl) rfl) ?_)⟩
  have hH : Calls Tryz.prog 33 #[.pointer (some ⟨S.m, 0, none⟩)] W fun e w' => e = .returned (.int .i64 S.here) ∧ W = w' := by
    obtain ⟨FS, ov, mv, hp, _⟩ := hS
    exact Here_any hp.mem
  have b0 := hB.cell 0
  have HF := Lib.hid (Done.self hS (Touch.refl [] W))
  clear hS hB hA hg hfd hc
  show Calls Tryz.prog 153 #[lv, .pointer (some ⟨b, 0, none⟩)] W _
  go_enter Tryz.func153, Tryz.ntmps153
  go_wp2_with fail
  refine hH.mono ?_
  rintro _ _ ⟨rfl, rfl⟩
  clear hH
  go_wp2_with fail
  go_ret
  exact ⟨rfl, HF.out⟩
end Go.Proofs.YtkbchpaofmlhgaaGreatDoor
