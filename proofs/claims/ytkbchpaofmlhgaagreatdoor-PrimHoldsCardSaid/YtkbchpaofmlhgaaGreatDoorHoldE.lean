/- The operation end. -/
import Derived.Test.YtkbchpaofmlhgaaGreatDoorHold2
import Derived.Test.YtkbchpaofmlhgaaGreatDoorMemBase
namespace Go.Proofs.YtkbchpaofmlhgaaGreatDoor
open Go.RowKit

theorem strOf_size {l : List Int} (h : Bytes l) : (strOfNums l).size = l.length := by
  have e := congrArg List.length (str_nums h)
  rwa [strL_len] at e
set_option maxRecDepth 100000 in
set_option maxHeartbeats 4000000 in
theorem end_clo (W : World) (s : Nat) (F : List Nat) (S : PS) (lv : Value) (hS : StateAt W s F S) (hok : S.ok) (hn : S.n = 1024) :
    Calls Tryz.prog 185 #[.pointer (some ⟨s, 0, none⟩), lv] W (ActDone W s F S (([((768 - S.made.length : Nat) : Int), (S.made.length : Int)], 0), { S with bs := wrtL S.bs (768 - S.made.length) S.made.reverse })) := by
  have hm200 := hok.2.1
  obtain ⟨k, hk⟩ : ∃ k, S.made.length = k := ⟨_, rfl⟩
  obtain ⟨p, hp⟩ : ∃ p, 768 - k = p := ⟨_, rfl⟩
  rw [hk] at hm200
  rw [hk, hp]
  have e1 : IntKind.i64.wrap ((1024 : Int) - 256) = 768 := by decide
  have e2 : IntKind.i64.wrap ((768 : Int) - (k : Int)) = (p : Int) := by rw [IntKind.wrap_i64]; omega
  have hmade : ∃ mv, W.cell? ⟨s, 3, none⟩ = some mv ∧ BRow W mv S.made ∧ W.cell? ⟨s, 2, none⟩ = some (.pointer (some ⟨S.m, 0, none⟩)) := by
    obtain ⟨FS, ov, mv, h, _⟩ := hS
    exact ⟨mv, h.blk.cell 3, h.made, h.blk.cell 2⟩
  obtain ⟨mv, s3, hr, s2⟩ := hmade
  have hC := CloneB_row hr (by omega)
  have hrv : Bytes S.made.reverse := fun x hx => hr.2 x (List.mem_reverse.1 hx)
  have HS := Lib.hid (And.intro hS (And.intro hrv (And.intro hk hn)))
  clear hS hr hrv hok
  go_enter Tryz.func185, Tryz.ntmps185
  go_wp2_with fail
  refine hC.mono ?_
  rintro _ w1 ⟨v, rfl, hown, t1⟩
  have hR := rev_any w1 W.heap.size v S.made hown
  obtain ⟨a, c, rfl⟩ := own_slice hown
  rw [hk] at hR hown
  have hlow := own_from hown
  have H1 := Lib.hid (And.intro hlow t1)
  clear hC hown hlow t1 s3
  go_wp2_with fail
  refine hR.mono ?_
  rintro _ w2 ⟨rfl, hown, t2⟩
  have T2 : Touch [] W w2 := H1.out.2.trans t2 (fun g hg => .inr (H1.out.1 g hg))
  have hMem := HS.out.1.mem.quiet T2
  have hSz := Size_any hMem
  rw [HS.out.2.2.2] at hSz
  have q2 := cell_quiet T2 s2
  have q3 := cell_quiet T2.drew s2
  have q4 := cell_quiet (T2.alloc (.cells #[.int .i64 (p : Int), .int .i64 (k : Int)] 36)).drew s2
  have hrow : ∀ w, Touch [] w2 w → BRow w (.slice a k c) S.made.reverse := fun w t => ⟨by rw [List.length_reverse, hk]; exact row_touch (own_low hown) t (by simp), HS.out.2.1⟩
  have hcv := row_text (hrow _ (Touch.refl [] w2).drew)
  have hcv2 := row_text (hrow _ ((Touch.refl [] w2).alloc (.cells #[.int .i64 (p : Int), .int .i64 (k : Int)] 36)).drew)
  have hxs : (strOfNums S.made.reverse).size = k := by rw [strOf_size HS.out.2.1, List.length_reverse]; exact HS.out.2.2.1
  have hsl := str_nums HS.out.2.1
  obtain ⟨X, hX⟩ : ∃ X, strOfNums S.made.reverse = X := ⟨_, rfl⟩
  rw [hX] at hcv hcv2 hxs hsl
  have hWr := fun w (t : Touch [] w2 w) => MWrite_ok (hMem.quiet t) p X (by rw [hxs, HS.out.2.2.2]; omega)
  rw [hsl] at hWr
  have HT := Lib.hid T2
  clear hR hown t2 T2 hrow hX hMem hsl hxs s2
  go_wp2_with fail
  refine hSz.mono ?_
  rintro _ _ ⟨rfl, rfl⟩
  clear hSz q2
  go_upto_region 4 with fail
  go_region_with (go_at_call 67; refine (hWr _ (by first | exact (Touch.refl [] w2).drew | exact ((Touch.refl [] w2).alloc _).drew)).mono ?_; rintro _ w3 ⟨rfl, hm, t3⟩; have HM := Lib.hid (And.intro hm t3); clear hm t3)
  all_goals go_wp2_with fail
  all_goals go_ret2
  all_goals have hne : w2.heap.size ∉ [S.g] := fun hm => absurd (HS.out.1.mem.quiet HT.out).row.lt (by rw [List.mem_singleton.1 hm]; exact Nat.lt_irrefl _)
  all_goals first | exact ⟨_, rfl, CellsAt.blk (cs := [(p : Int), (k : Int)]) (Blk.new w3 _ _) 2, (Done.mem HS.out.1 HM.out.1 (HT.out.mono (by simp) |>.trans HM.out.2.of_drew (fun g hg => .inl (by rw [List.mem_singleton.1 hg]; simp)))).alloc _⟩ | exact ⟨_, rfl, CellsAt.blk (cs := [(p : Int), (k : Int)]) ((Blk.new w2 _ _).drew.touch HM.out.2 hne) 2, Done.mem HS.out.1 HM.out.1 (Touch.trans (G := [S.g]) (((HT.out.alloc _).drew).mono (by simp)) HM.out.2 (fun g hg => .inl (by rw [List.mem_singleton.1 hg]; simp)))⟩
theorem end_sem : OpSem 107 2 (fun _ S => S.n = 1024) (fun _ S => (([((768 - S.made.length : Nat) : Int), (S.made.length : Int)], 0), { S with bs := wrtL S.bs (768 - S.made.length) S.made.reverse })) := by
  intro W B' s F S t f first cap l lv hok hS hF hfd
  obtain ⟨b, C, hC, hb, hA, hB⟩ := found_says hfd rfl rfl
  have e : (Value.agg #[.int .i64 t, .func (.func f) first cap]) = .agg #[.int .i64 2, .func (.func 185) #[.pointer (some ⟨s, 0, none⟩)] #[]] := hA
  injection e with e
  injection e with e
  injection e with e1 e
  injection e1 with _ e1
  injection e with e2 _
  injection e2 with e2 e3 e4
  injection e2 with e2
  subst e1 e2 e3 e4
  exact ⟨rfl, enters_of Tryz.func185 (by kernel_rfl) rfl, fun hl hpre hc => ActDone.post (end_clo W s F S lv hS hok hpre)⟩
end Go.Proofs.YtkbchpaofmlhgaaGreatDoor
