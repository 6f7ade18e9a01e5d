/- recog.May: whether some recognizers may be asked. -/
import Derived.Test.YtgdmiodcfdcihaaGreatDoorRecog4
namespace Go.Proofs.YtgdmiodcfdcihaaGreatDoor
open Go.RowKit

/-- a number that stands for no recognizer, among so many words -/
def badI (words k : Int) : Bool := decide (k = 0) || (decide (k < -6) || decide (words < k))
def mayF (l : List Int) (words : Int) : Bool := decide (l.length ≤ 8) && !(l.any (badI words))

theorem May1_any (k words : Int) (n : Nat) (w : World) (c : w.cell? ⟨n, 0, none⟩ = some (.int .i64 words)) :
    Calls Tryz.prog 30 #[.int .i64 k, .pointer (some ⟨n, 0, none⟩)] w fun e w' => e = .returned (.bool (badI words k)) ∧ w = w' := by
  by_cases h0 : k = 0
  · have hb : badI words k = true := by simp [badI, h0]
    rw [hb]
    subst h0
    clear hb
    go_enter Tryz.func30, Tryz.ntmps30
    go_wp2_with fail
    go_ret
    exact ⟨rfl, rfl⟩
  · have h0' : (k == 0) = false := beq_eq_false_iff_ne.2 h0
    by_cases h1 : k < -6
    · have hb : badI words k = true := by simp [badI, h1]
      rw [hb]
      clear hb
      go_enter Tryz.func30, Tryz.ntmps30
      go_wp2_with fail
      go_ret
      exact ⟨rfl, rfl⟩
    · by_cases h2 : words < k
      · have hb : badI words k = true := by simp [badI, h2]
        rw [hb]
        clear hb
        go_enter Tryz.func30, Tryz.ntmps30
        go_wp2_with fail
        go_ret
        exact ⟨rfl, rfl⟩
      · have hb : badI words k = false := by simp [badI, h0, h2]; omega
        rw [hb]
        clear hb
        go_enter Tryz.func30, Tryz.ntmps30
        go_wp2_with fail
        go_ret
        exact ⟨rfl, rfl⟩

theorem any_take (l : List Int) (f : Int → Bool) (k : Nat) (hk : k < l.length) (h : (l.take k).any f = false) : (l.take (k + 1)).any f = f (l.getD k 0) := by
  rw [List.take_succ_eq_append_getElem hk, List.any_append, h]
  simp [List.getD_eq_getElem?_getD, List.getElem?_eq_getElem hk]
theorem any_yes (l : List Int) (f : Int → Bool) (k : Nat) (hk : k < l.length) (h : f (l.getD k 0) = true) : l.any f = true := by
  rw [List.any_eq_true]
  refine ⟨l.getD k 0, ?_, h⟩
  rw [List.getD_eq_getElem?_getD, List.getElem?_eq_getElem hk]
  exact List.getElem_mem hk

set_option maxRecDepth 100000 in
set_option maxHeartbeats 1600000 in
theorem IndexF_any (l : List Int) (hl : l.length ≤ 1000) (a : Option Addr) (c : Nat) (words : Int) (n : Nat) (w : World) (hn : Nums w a l) (hc : w.cell? ⟨n, 0, none⟩ = some (.int .i64 words)) :
    Calls Tryz.prog 46 #[.slice a l.length c, .func (.func 30) #[] #[.pointer (some ⟨n, 0, none⟩)]] w fun e w' => ∃ j : Int, e = .returned (.int .i64 j) ∧ decide (j ≥ 0) = l.any (badI words) ∧ w = w' := by
  go_enter Tryz.func46, Tryz.ntmps46
  go_wp2_with fail
  go_loopw [8] (fun i wr => ∃ k : Nat, k ≤ l.length ∧ i = .int .i64 k ∧ (l.take k).any (badI words) = false ∧ w = wr) (fun i _ => l.length - (intOf i).toNat)
  case atStart => exact ⟨0, Nat.zero_le _, rfl, by simp, rfl⟩
  case round =>
    obtain ⟨k, hk, rfl, hr, rfl⟩ := hrel
    by_cases hlt : k < l.length
    · obtain ⟨g, off, rfl, hg, hcl⟩ := hn k hlt
      have hany := any_take l (badI words) k hlt hr
      have hyes := any_yes l (badI words) k hlt
      obtain ⟨x, hx⟩ : ∃ x, l.getD k 0 = x := ⟨_, rfl⟩
      rw [hx] at hcl hany hyes
      have hM := May1_any x words n w hc
      obtain ⟨b, hb⟩ : ∃ b, badI words x = b := ⟨_, rfl⟩
      rw [hb] at hany hM hyes
      have HA := Lib.hid hany
      have HY := Lib.hid hyes
      have HN := Lib.hid hn
      clear hr hx hb hany hyes hn
      go_wp2_with fail
      refine hM.mono ?_
      rintro _ _ ⟨rfl, rfl⟩
      cases b with
      | true =>
        go_wp2_with fail
        go_ret
        refine ⟨(k : Int), rfl, ?_, rfl⟩
        rw [show l.any (badI words) = true by first | exact HY.out | exact HY.out rfl | exact HY.out trivial]
        exact decide_eq_true (by omega)
      | false =>
        go_wp2_with fail
        refine ⟨⟨k + 1, by omega, rfl, HA.out, trivial⟩, ?_⟩
        simp only [intOf]
        omega
    · obtain rfl : k = l.length := by omega
      rw [List.take_length] at hr
      go_wp2_with fail
      go_ret
      refine ⟨_, rfl, ?_, rfl⟩
      rw [hr]
      rfl

set_option maxRecDepth 100000 in
theorem Contains_any (l : List Int) (hl : l.length ≤ 1000) (a : Option Addr) (c : Nat) (words : Int) (n : Nat) (w : World) (hn : Nums w a l) (hc : w.cell? ⟨n, 0, none⟩ = some (.int .i64 words)) :
    Calls Tryz.prog 31 #[.slice a l.length c, .func (.func 30) #[] #[.pointer (some ⟨n, 0, none⟩)]] w fun e w' => e = .returned (.bool (l.any (badI words))) ∧ w = w' := by
  have hI := IndexF_any l hl a c words n w hn hc
  clear hn hc
  go_enter Tryz.func31, Tryz.ntmps31
  go_wp2_with fail
  refine hI.mono ?_
  rintro _ _ ⟨j, rfl, hj, rfl⟩
  have hj2 : (decide (j ≥ 0)) = decide (0 ≤ j) := rfl
  have HJ := Lib.hid (hj2.symm.trans hj)
  clear hj hj2
  go_wp2_with fail
  go_ret
  exact ⟨congrArg (fun b => Ending.returned (.bool b)) HJ.out, rfl⟩

set_option maxRecDepth 100000 in
theorem May_any (l : List Int) (hl : l.length ≤ 1000) (a : Option Addr) (c : Nat) (words : Int) (w : World) (hn : Nums w a l) :
    Calls Tryz.prog 17 #[.slice a l.length c, .int .i64 words] w fun e w' => e = .returned (.bool (mayF l words)) ∧ Touch [] w w' := by
  have t0 := (Touch.refl [] w).alloc (.cells #[.int .i64 words] 3)
  have hC := Contains_any l hl a c words w.heap.size _ (hn.quiet t0) ((Blk.new w 3 #[.int .i64 words]).cell 0)
  obtain ⟨b, hb⟩ : ∃ b, l.any (badI words) = b := ⟨_, rfl⟩
  have hF : mayF l words = (decide (l.length ≤ 8) && !b) := by rw [← hb]; rfl
  rw [hb] at hC
  rw [hF]
  clear hb hn hF
  by_cases h8 : l.length ≤ 8
  · have h8' : (l.length : Int) ≤ 8 := by omega
    rw [decide_eq_true h8]
    go_enter Tryz.func17, Tryz.ntmps17
    go_wp2_with fail
    refine hC.mono ?_
    rintro _ _ ⟨rfl, rfl⟩
    clear hC
    go_wp2_with fail
    go_ret
    exact ⟨rfl, t0⟩
  · have h8' : ¬ (l.length : Int) ≤ 8 := by omega
    rw [decide_eq_false h8]
    clear hC
    go_enter Tryz.func17, Tryz.ntmps17
    go_wp2_with fail
    go_ret
    exact ⟨rfl, t0⟩

end Go.Proofs.YtgdmiodcfdcihaaGreatDoor
