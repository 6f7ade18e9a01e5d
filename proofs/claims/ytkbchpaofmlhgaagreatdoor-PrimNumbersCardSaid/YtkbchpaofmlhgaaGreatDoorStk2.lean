/- The contracts of package stack: Push, and Put of nothing or of too much. -/
import Derived.Test.YtkbchpaofmlhgaaGreatDoorStk
namespace Go.Proofs.YtkbchpaofmlhgaaGreatDoor
open Go.RowKit

set_option maxHeartbeats 1000000 in
theorem Put_none (w : World) (b : Nat) (F : List Nat) (L : List Int) (h : StackAt w b F L) (hL : L.length ≤ 128) :
    Calls Tryz.prog 13 #[.pointer (some ⟨b, 0, none⟩), .slice none 0 0] w fun e w' => e = .returned (.int .i64 0) ∧ StackAt w' b F L ∧ Touch F w w' := by
  obtain ⟨i0, hi, hz0, hz1, hz2⟩ := info_cell'
  obtain ⟨v, hb, rfl, hnb, hr⟩ := h
  have c0 := hb.cell 0
  have f0 := hb.frozen 0
  obtain ⟨len, hlen⟩ : ∃ len, L.length = len := ⟨_, rfl⟩
  rw [hlen] at hL
  obtain ⟨a, cap, rfl⟩ := row_value hr
  rw [hlen] at hr
  have H1 := Lib.hid hb
  have H2 := Lib.hid hlen
  rw [hlen] at c0 H1 hnb ⊢
  have e1 : IntKind.i64.wrap (128 - (len : Int)) = 128 - len := by rw [IntKind.wrap_i64]; omega
  have e2 : ¬ (0 : Int) > 128 - len := by omega
  clear hb hlen
  go_enter Tryz.func13, Tryz.ntmps13
  go_wp2_with (at_builtin; refine wpList_append_own_none rfl _ _ 22 rfl 0 36 i0 1 Tryz.underlying22 hi _ _ _ rfl hr rfl ?_)
  go_wp2
  go_ret
  have htt := fun u => (Touch.refl [b] w).setCell (p := ⟨b, 0, none⟩) (by simp) u
  refine ⟨rfl, ⟨_, H1.out.set_ 0 _, rfl, hnb, ?_⟩, (htt _).mono (G := b :: rowOf (.slice a len cap)) (fun k hk => .inl (by simp at hk; simp [hk]))⟩
  rw [H2.out]
  exact row_touch hr (htt _) (fun k hk hkb => hnb (by rw [List.mem_singleton.1 hkb] at hk; exact hk))

set_option maxHeartbeats 1000000 in
theorem Put_over (w : World) (b : Nat) (F : List Nat) (L : List Int) (h : StackAt w b F L) (hL : L.length ≤ 128) (a : Option Addr) (n c : Nat) (hn : 128 < L.length + n) :
    Calls Tryz.prog 13 #[.pointer (some ⟨b, 0, none⟩), .slice a n c] w fun e w' => e = .returned (.int .i64 (-3)) ∧ w = w' := by
  obtain ⟨v, hb, rfl, hnb, hr⟩ := h
  have c0 := hb.cell 0
  obtain ⟨len, hlen⟩ : ∃ len, L.length = len := ⟨_, rfl⟩
  rw [hlen] at hL hn
  obtain ⟨a, cap, rfl⟩ := row_value hr
  rw [hlen] at c0
  have e1 : IntKind.i64.wrap (128 - (len : Int)) = 128 - len := by rw [IntKind.wrap_i64]; omega
  have e2 : (n : Int) > 128 - len := by omega
  clear hb hlen hr
  go_enter Tryz.func13, Tryz.ntmps13
  go_wp2
  go_ret
  exact ⟨rfl, rfl⟩

theorem StackAt.alloc {w : World} {b : Nat} {F : List Nat} {L : List Int} (h : StackAt w b F L) (o : Obj) : StackAt (w.alloc o) b F L := h.touch ((Touch.refl [] w).alloc o) (by simp)

set_option maxHeartbeats 1000000 in
theorem Push_ok (w : World) (b : Nat) (F : List Nat) (L : List Int) (h : StackAt w b F L) (hL : L.length < 128) (x : Int) :
    Calls Tryz.prog 35 #[.pointer (some ⟨b, 0, none⟩), .int .i64 x] w fun e w' =>
      ∃ F', e = .returned (.int .i64 0) ∧ StackAt w' b F' (L ++ [x]) ∧ Touch F w w' ∧ Sub w F F' := by
  have hp := Put_ok (w.alloc (.cells #[.int .i64 x] 36)) b F L (h.alloc _) w.heap.size 0 1 [x] (by simp; omega)
    (fun j u hj => by
      have h2 := (List.getElem?_eq_some_iff.1 hj).1
      have hj0 : j = 0 := by simp [cells] at h2; omega
      subst hj0
      rw [(Blk.new w 36 #[.int .i64 x]).cell (0 + 0)]
      simpa [cells] using hj)
  rw [show ([x] : List Int).length = 1 from rfl] at hp
  clear h
  go_enter Tryz.func35, Tryz.ntmps35
  go_wp2_with fail
  refine hp.mono ?_
  rintro _ w1 ⟨F', rfl, hs, t1, hsub⟩
  go_wp2
  go_ret
  exact ⟨F', rfl, hs, ((Touch.refl F w).alloc _).trans t1 (fun k hk => .inl hk), Sub.trans (Sub.refl w F) hsub (by simp)⟩

set_option maxHeartbeats 1000000 in
theorem Push_over (w : World) (b : Nat) (F : List Nat) (L : List Int) (h : StackAt w b F L) (hL : L.length = 128) (x : Int) :
    Calls Tryz.prog 35 #[.pointer (some ⟨b, 0, none⟩), .int .i64 x] w fun e w' => e = .returned (.int .i64 (-3)) ∧ Touch [] w w' := by
  have hp := Put_over (w.alloc (.cells #[.int .i64 x] 36)) b F L (h.alloc _) (by omega) (some ⟨w.heap.size, 0, none⟩) 1 1 (by omega)
  clear h
  go_enter Tryz.func35, Tryz.ntmps35
  go_wp2_with fail
  refine hp.mono ?_
  rintro _ w1 ⟨rfl, rfl⟩
  go_wp2
  go_ret
  exact ⟨rfl, (Touch.refl _ _).alloc _⟩
end Go.Proofs.YtkbchpaofmlhgaaGreatDoor
