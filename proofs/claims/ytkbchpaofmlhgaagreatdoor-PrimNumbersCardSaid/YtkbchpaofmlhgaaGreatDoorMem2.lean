/- The memory: made, given out, told as text. -/
import Derived.Test.YtkbchpaofmlhgaaGreatDoorMem1
import Derived.Laws.MakeOwn
import Derived.Deep.QuietTactic
import Derived.Deep.Cut
namespace Go.Proofs.YtkbchpaofmlhgaaGreatDoor
open Go.RowKit

theorem info_u8 : (Tryz.prog.info? 5).map (fun i => (i.zero, i.size, i.bytes)) = some (some (.int .u8 0), 1, 1) := by kernel_rfl
theorem info_u8' : ∃ i0, Tryz.prog.info? 5 = some i0 ∧ i0.zero = some (.int .u8 0) ∧ i0.size = 1 ∧ i0.bytes = 1 := by
  have h := info_u8
  cases hi : Tryz.prog.info? 5 with
  | none => rw [hi] at h; cases h
  | some i => rw [hi] at h; simp at h; exact ⟨i, rfl, h.1, h.2.1, h.2.2⟩
section
variable {w w' : World} {m g n here : Nat} {bs : List Int}
theorem make_bytes (n : Nat) (hn : n ≤ 65536) (w : World) : (Instr.makeSlice 66 (.int .i64 (n : Int)) (.int .i64 (n : Int))).run Tryz.prog w = .ok (.slice (some ⟨w.heap.size, 0, none⟩) n n) (w.alloc (.cells (bytesV (List.replicate n 0)).toArray 5)) := by
  obtain ⟨i0, hi0, hz0, hz1, hz2⟩ := info_u8'
  have h := run_makeSlice (w := w) (P := Tryz.prog) 66 5 i0 _ Tryz.underlying66 hi0 hz0 .i64 .i64 n n (by omega) (Int.le_refl _) (by rw [hz1]; omega) (by rw [hz2]; omega) (by omega)
  rw [hz1] at h
  have e : madeCells (Value.cells (.int .u8 0)) ((n : Int).toNat * 1) = (bytesV (List.replicate n 0)).toArray := by
    apply Array.ext
    · simp [madeCells, bytesV]
    · intro i h1 h2
      simp [madeCells, bytesV, Nat.mod_one, Value.cells]
  rw [e] at h
  simpa using h
set_option maxHeartbeats 1000000 in
theorem MNew_ok (n : Nat) (h1 : 1024 ≤ n) (h2 : n ≤ 65536) (h3 : n % 8 = 0) (w : World) : Calls Tryz.prog 39 #[.int .i64 n] w fun e w' => e = .returned (.tuple #[.pointer (some ⟨w.heap.size + 1, 0, none⟩), .int .i64 0]) ∧ MemAt w' (w.heap.size + 1) w.heap.size n (List.replicate n 0) 0 ∧ Touch [] w w' := by
  have hm := make_bytes n h2
  have g1 : ¬ (n : Int) < 1024 := by omega
  have g2 : ¬ (n : Int) > 65536 := by omega
  have g3 : (n : Int).tmod 8 = 0 := by rw [Int.tmod_eq_emod_of_nonneg (by omega)]; omega
  have g4 : (n : Int) % 8 = 0 := by omega
  have bR := (Blk.new w 5 (bytesV (List.replicate n 0)).toArray).alloc (.cells #[.slice (some ⟨w.heap.size, 0, none⟩) n n, .int .i64 0] 114)
  have bM := Blk.new_at (n := w.heap.size + 1) (w.alloc (.cells (bytesV (List.replicate n 0)).toArray 5)) (by simp) 114 #[.slice (some ⟨w.heap.size, 0, none⟩) n n, .int .i64 0]
  have t := ((Touch.refl [] w).alloc (.cells (bytesV (List.replicate n 0)).toArray 5)).alloc (.cells #[.slice (some ⟨w.heap.size, 0, none⟩) n n, .int .i64 0] 114)
  have hfin : MemAt _ (w.heap.size + 1) w.heap.size n (List.replicate n 0) 0 := ⟨bM, bR, by simp, fun x hx => by rw [List.eq_of_mem_replicate hx]; decide, h2, Nat.zero_le _⟩
  have HF := Lib.hid (And.intro hfin t)
  clear hfin t bR bM h1 h2 h3
  go_enter Tryz.func39, Tryz.ntmps39
  go_wp2_with fail
  go_ret2
  exact ⟨rfl, HF.out.1, HF.out.2⟩
set_option maxHeartbeats 1000000 in
theorem Allot_ok (h : MemAt w m g n bs here) (k : Int) (h1 : k ≤ n - 512 - here) (h2 : -(here : Int) ≤ k) (here' : Nat) (hh : (here' : Int) = here + k) (h3 : 512 ≤ n) : Calls Tryz.prog 68 #[.pointer (some ⟨m, 0, none⟩), .int .i64 k] w fun e w' => e = .returned (.int .i64 0) ∧ MemAt w' m g n bs here' ∧ Touch [m] w w' := by
  have c0 := h.blk.cell 0
  have c1 := h.blk.cell 1
  have f1 := h.blk.frozen 1
  have hs := h.small
  have hl := h.low
  have e1 : IntKind.i64.wrap ((n : Int) - 512) = n - 512 := by rw [IntKind.wrap_i64]; omega
  have e2 : IntKind.i64.wrap ((n : Int) - 512 - here) = n - 512 - here := by rw [IntKind.wrap_i64]; omega
  have e3 : IntKind.i64.wrap (-(here : Int)) = -here := by rw [IntKind.wrap_i64]; omega
  have e4 : IntKind.i64.wrap ((here : Int) + k) = here' := by rw [IntKind.wrap_i64]; omega
  have g1 : ¬ k > n - 512 - here := by omega
  have g2 : ¬ k < -(here : Int) := by omega
  have hlow : here' ≤ n := by omega
  have H := Lib.hid (And.intro h hlow)
  clear h h1 h2 hh h3 hlow
  go_enter Tryz.func68, Tryz.ntmps68
  go_upto_region 3 with fail
  go_quiet (fail)
  go_wp2_with fail
  go_ret
  refine ⟨rfl, ⟨(H.out.1.blk.drewN nq).set_ 1 _, (H.out.1.row.drewN nq).far (fun e => H.out.1.ne e.symm) _, H.out.1.len, H.out.1.byte, H.out.1.small, H.out.2⟩, ((Touch.refl [m] w).drewN nq).setCell (by simp) _⟩
set_option maxHeartbeats 1000000 in
theorem Allot_bad (h : MemAt w m g n bs here) (k : Int) (hk : (n : Int) - 512 - here < k ∨ k < -(here : Int)) (h3 : 512 ≤ n) : Calls Tryz.prog 68 #[.pointer (some ⟨m, 0, none⟩), .int .i64 k] w fun e w' => e = .returned (.int .i64 (-8)) ∧ Touch [] w w' := by
  have c0 := h.blk.cell 0
  have c1 := h.blk.cell 1
  have hs := h.small
  have hl := h.low
  have e1 : IntKind.i64.wrap ((n : Int) - 512) = n - 512 := by rw [IntKind.wrap_i64]; omega
  have e2 : IntKind.i64.wrap ((n : Int) - 512 - here) = n - 512 - here := by rw [IntKind.wrap_i64]; omega
  have e3 : IntKind.i64.wrap (-(here : Int)) = -here := by rw [IntKind.wrap_i64]; omega
  have hc : k > n - 512 - here ∨ (¬ k > n - 512 - here ∧ k < -(here : Int)) := by omega
  clear h hk h3
  rcases hc with g1 | ⟨g1, g2⟩
  all_goals
    go_enter Tryz.func68, Tryz.ntmps68
    go_upto_region 3 with fail
    go_quiet (fail)
    go_wp2_with fail
    go_ret
    exact ⟨rfl, (Touch.refl [] w).drewN _⟩
set_option maxHeartbeats 1000000 in
theorem Comma_ok (h : MemAt w m g n bs here) (x : Int) (h8 : here % 8 = 0) (h1 : here + 8 + 512 ≤ n) : Calls Tryz.prog 40 #[.pointer (some ⟨m, 0, none⟩), .int .i64 x] w fun e w' => e = .returned (.int .i64 0) ∧ MemAt w' m g n (putF bs here x 8) (here + 8) ∧ Touch [m, g] w w' := by
  have hH := Here_any h
  have hA := Allot_ok h 8 (by omega) (by omega) (here + 8) (by omega) (by omega)
  have e1 : (here : Int) % 8 = 0 := by omega
  have H := Lib.hid h8
  clear h
  go_enter Tryz.func40, Tryz.ntmps40
  go_wp2_with fail
  refine hH.mono ?_
  rintro _ _ ⟨rfl, rfl⟩
  clear hH
  go_wp2_with fail
  refine hA.mono ?_
  rintro _ w1 ⟨rfl, hM, t1⟩
  have hP := MPut_ok hM here x (by omega) H.out
  clear hA hM
  go_wp2_with fail
  refine hP.mono ?_
  rintro _ w2 ⟨rfl, hM, t2⟩
  clear hP
  go_wp2_with fail
  go_ret
  exact ⟨rfl, hM, (t1.mono (G := [m, g]) (by simp)).trans t2 (by simp)⟩
end
end Go.Proofs.YtkbchpaofmlhgaaGreatDoor
