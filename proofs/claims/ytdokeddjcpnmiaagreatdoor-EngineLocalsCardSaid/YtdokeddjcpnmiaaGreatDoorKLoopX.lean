import Derived.Test.YtdokeddjcpnmiaaGreatDoorJPlX
import Derived.Test.YtdokeddjcpnmiaaGreatDoorJStkA
import Derived.Deep.Cut
import Derived.Deep.CutRange
import Derived.Shelf.Bits.Mul64
import Derived.Test.YtdokeddjcpnmiaaGreatDoorProg
import Derived.Test.YtdokeddjcpnmiaaGreatDoorKTLay
import Derived.Deep.RegionLaw
import Derived.Laws.CopyOwn
import Derived.Laws.BitsLemmas
import Derived.Deep.OwnRows
import Derived.Deep.AppendLies
import Derived.Laws.OwnMore
import Derived.Maps.AppendAt
import Derived.Test.YtdokeddjcpnmiaaGreatDoorJMapsA
/- ins.kind, ins.steps. -/
namespace Go.Proofs.YtdokeddjcpnmiaaGreatDoor
open Go.RowKit
namespace En

set_option maxRecDepth 100000 in
set_option maxHeartbeats 3200000 in
theorem kind_any (op : Int) (w : World) : Calls Tryz.prog 61 #[.int .u8 op] w fun e w' => e = .returned (.int .i64 (insKind op)) ∧ w = w' := by
  by_cases h : op = 3 ∨ op = 4 ∨ op = 6 ∨ op = 7 ∨ op = 8 ∨ op = 9 ∨ op = 10 ∨ op = 2 ∨ op = 12 ∨ op = 13 ∨ op = 14
  · rcases h with rfl | rfl | rfl | rfl | rfl | rfl | rfl | rfl | rfl | rfl | rfl
    all_goals go_enter Tryz.func61, Tryz.ntmps61
    all_goals go_wp2
    all_goals go_ret
    all_goals exact ⟨rfl, rfl⟩
  · have e : insKind op = 0 := by
      unfold insKind
      rw [if_neg (by omega), if_neg (by omega), if_neg (by omega), if_neg (by omega)]
    rw [e]
    have q2 : (op == 2) = false := by simp; omega
    have q3 : (op == 3) = false := by simp; omega
    have q4 : (op == 4) = false := by simp; omega
    have q6 : (op == 6) = false := by simp; omega
    have q7 : (op == 7) = false := by simp; omega
    have q8 : (op == 8) = false := by simp; omega
    have q9 : (op == 9) = false := by simp; omega
    have q10 : (op == 10) = false := by simp; omega
    have q12 : (op == 12) = false := by simp; omega
    have q13 : (op == 13) = false := by simp; omega
    have q14 : (op == 14) = false := by simp; omega
    clear h e
    go_enter Tryz.func61, Tryz.ntmps61
    go_wp2
    go_ret
    exact ⟨rfl, rfl⟩
def stepCells (x : Int × Int) : List Value := [.int .i64 x.1, .int .i64 x.2]
def StepsAt (w : World) (v : Value) (l : List (Int × Int)) : Prop := (l = [] ∧ v = .slice none 0 0) ∨ ∃ b, v = .slice (some ⟨b, 0, none⟩) l.length l.length ∧ Blk w b 151 (l.flatMap stepCells).toArray
set_option maxRecDepth 100000 in
set_option maxHeartbeats 3200000 in
theorem steps_any (op a v : Int) (j : Nat) (hj : j ≤ 1000000) (l : Int) (hl : 0 ≤ l ∧ l ≤ 1000000) (w : World) : Calls Tryz.prog 94 #[.agg #[.int .u8 op, .int .i64 a, .int .i64 v], .int .i64 j, .int .i64 l] w fun e w' => ∃ sv, e = .returned sv ∧ StepsAt w' sv (stepsF op a j l) ∧ Touch [] w w' := by
  have bB := Blk.new w 56 #[.int .u8 op, .int .i64 a, .int .i64 v]
  have tB := (Touch.refl [] w).alloc (.cells #[.int .u8 op, .int .i64 a, .int .i64 v] 56)
  obtain ⟨z, hz⟩ : ∃ z, w.heap.size = z := ⟨_, rfl⟩
  rw [hz] at bB
  have x0 := bB.cell 0
  have x1 := bB.cell 1
  obtain ⟨hl0, hl1⟩ := hl
  have HB := Lib.hid (And.intro bB tB)
  clear bB tB
  go_enter Tryz.func94, Tryz.ntmps94
  go_upto_region 1 with fail
  clear hz
  generalize w.alloc (.cells #[.int .u8 op, .int .i64 a, .int .i64 v] 56) = W0 at *
  have A1 := fun ob => cell_quiet ((Touch.refl [] W0).alloc ob) x1
  have A2 := fun ob ob2 => cell_quiet (((Touch.refl [] W0).alloc ob).alloc ob2) x1
  go_cut [7, 8] from 9 to 16 (fun v7 v8 wc => ∃ y7 y8, v7 = .pointer (some ⟨y7, 0, none⟩) ∧ v8 = .pointer (some ⟨y8, 0, none⟩) ∧ Blk wc y7 151 #[.int .i64 ((j : Int) + 1), .int .i64 l] ∧ Blk wc y8 151 #[.int .i64 a, .int .i64 l] ∧ Touch [] W0 wc)
  case first =>
    go_region
    all_goals go_wp2_with fail
    all_goals go_meet
    · exact ⟨_, _, rfl, rfl, ((Blk.new W0 _ _).alloc _).drew, (Blk.new_at (n := W0.heap.size + 1) (W0.alloc _) (by simp) _ _).drew, (((Touch.refl [] W0).alloc _).alloc _).drew⟩
    · exact ⟨_, _, rfl, rfl, (Blk.new_at (n := W0.heap.size + 1) (W0.alloc _) (by simp) _ _).drew, ((Blk.new W0 _ _).alloc _).drew, (((Touch.refl [] W0).alloc _).alloc _).drew⟩
  case rest =>
    obtain ⟨y7, y8, rfl, rfl, b7, b8, tc⟩ := hcut
    have bB := HB.out.1.touch tc (by simp)
    have HT := Lib.hid (HB.out.2.trans tc (by simp))
    have x0 := bB.cell 0
    have x1 := bB.cell 1
    have s0 := b7.cell 0
    have s1 := b7.cell 1
    have t0 := b8.cell 0
    have t1 := b8.cell 1
    clear A1 A2 bB b7 b8 tc HB
    by_cases h15 : op = 15
    · subst h15
      go_wp2_with fail
      go_ret
      exact ⟨_, rfl, .inl ⟨rfl, rfl⟩, HT.out⟩
    have q15 : (op == 15) = false := by simpa using h15
    by_cases h3 : op = 3
    · subst h3
      clear h15 q15
      go_wp2_with fail
      go_ret
      exact ⟨_, rfl, .inr ⟨_, rfl, Blk.new _ _ _⟩, HT.out.alloc _⟩
    have q3 : (op == 3) = false := by simpa using h3
    by_cases h9 : op = 9
    · subst h9
      clear h15 q15 h3 q3
      go_wp2_with fail
      go_ret
      exact ⟨_, rfl, .inr ⟨_, rfl, Blk.new _ _ _⟩, HT.out.alloc _⟩
    have q9 : (op == 9) = false := by simpa using h9
    by_cases h4 : op = 4
    · subst h4
      clear h15 q15 h3 q3 h9 q9
      go_wp2_with fail
      go_ret
      exact ⟨_, rfl, .inr ⟨_, rfl, Blk.new _ _ _⟩, HT.out.alloc _⟩
    have q4 : (op == 4) = false := by simpa using h4
    by_cases h10 : op = 10
    · subst h10
      clear h15 q15 h3 q3 h9 q9 h4 q4
      go_wp2_with fail
      go_ret
      exact ⟨_, rfl, .inr ⟨_, rfl, Blk.new _ _ _⟩, HT.out.alloc _⟩
    have q10 : (op == 10) = false := by simpa using h10
    by_cases h5 : op = 5
    · subst h5
      clear h15 q15 h3 q3 h9 q9 h4 q4 h10 q10
      go_wp2_with fail
      go_ret
      exact ⟨_, rfl, .inr ⟨_, rfl, Blk.new _ _ _⟩, HT.out.alloc _⟩
    have q5 : (op == 5) = false := by simpa using h5
    by_cases h6 : op = 6
    · subst h6
      clear h15 q15 h3 q3 h9 q9 h4 q4 h10 q10 h5 q5
      go_wp2_with fail
      go_ret
      exact ⟨_, rfl, .inr ⟨_, rfl, Blk.new _ _ _⟩, HT.out.alloc _⟩
    have q6 : (op == 6) = false := by simpa using h6
    by_cases h7 : op = 7
    · subst h7
      clear h15 q15 h3 q3 h9 q9 h4 q4 h10 q10 h5 q5 h6 q6
      go_wp2_with fail
      go_ret
      exact ⟨_, rfl, .inr ⟨_, rfl, Blk.new _ _ _⟩, HT.out.alloc _⟩
    have q7 : (op == 7) = false := by simpa using h7
    by_cases h8 : op = 8
    · subst h8
      clear h15 q15 h3 q3 h9 q9 h4 q4 h10 q10 h5 q5 h6 q6 h7 q7
      go_wp2_with fail
      go_ret
      exact ⟨_, rfl, .inr ⟨_, rfl, Blk.new _ _ _⟩, HT.out.alloc _⟩
    have q8 : (op == 8) = false := by simpa using h8
    have e : stepsF op a j l = [((j : Int) + 1, l)] := by
      unfold stepsF
      rw [if_neg h15, if_neg h3, if_neg h9, if_neg (by omega), if_neg h5, if_neg h6, if_neg (by omega)]
    have HE := Lib.hid e
    clear h15 h3 h9 h4 h10 h5 h6 h7 h8 e
    go_wp2_with fail
    go_ret
    exact ⟨_, rfl, by rw [HE.out]; exact .inr ⟨_, rfl, Blk.new _ _ _⟩, HT.out.alloc _⟩
end En
end Go.Proofs.YtdokeddjcpnmiaaGreatDoor

/- bits.Mul, laid at this dump (wip/mkshelf8.py). -/
namespace Go.Proofs
open Go.Shelf
def Tryz.mlays212_ren : Go.Shelf.Ren := ⟨fun | 212 => 119 | 263 => 145 | 264 => 146 | n => n, fun | 46 => 127 | 51 => 192 | 146 => 193 | 53 => 195 | 148 => 196 | n => n, fun | n => n⟩
theorem Tryz.mlays212 : Go.Proofs.Lays.n212 Tryz.prog Tryz.mlays212_ren := {
  mixed := by kernel_rfl
  f212 := Tryz.func119.trans (congrArg some (by kernel_rfl))
  f263 := Tryz.func145.trans (congrArg some (by kernel_rfl))
  f264 := Tryz.func146.trans (congrArg some (by kernel_rfl))
  t46 := Tryz.underlying127
  a46 := Tryz.isAgg127
  z46 := Tryz.sizeOf127
  v46 := Tryz.zeroValue127
  t51 := Tryz.underlying192
  a51 := Tryz.isAgg192
  z51 := Tryz.sizeOf192
  v51 := Tryz.zeroValue192
  t53 := Tryz.underlying195
  a53 := Tryz.isAgg195
  z53 := Tryz.sizeOf195
  v53 := Tryz.zeroValue195
  t146 := Tryz.underlying193
  a146 := Tryz.isAgg193
  z146 := Tryz.sizeOf193
  v146 := Tryz.zeroValue193
  t148 := Tryz.underlying196
  a148 := Tryz.isAgg196
  z148 := Tryz.sizeOf196
  v148 := Tryz.zeroValue196 }
open Go.RowKit in
theorem Tryz.mul_any (x y : Nat) (hx : x < 18446744073709551616) (hy : y < 18446744073709551616) (w : World) :
    Calls Tryz.prog 119 #[.int .u64 x, .int .u64 y] w fun e w' => e = .returned (.tuple #[.int .u64 ((x * y / 18446744073709551616 : Nat) : Int), .int .u64 ((x * y % 18446744073709551616 : Nat) : Int)]) ∧ w' = w := Any.bits_Mul Tryz.mlays212 x y hx hy w
end Go.Proofs

/- slices.Repeat of one number. -/
namespace Go.Proofs.YtdokeddjcpnmiaaGreatDoor
open Go.RowKit
namespace En

def filledL (x : Int) (k n : Nat) : List Int := List.replicate k x ++ List.replicate (n - k) 0
theorem filled_splice (x : Int) (k n c : Nat) (_hc : k + c ≤ n) : splice (cells (filledL x k n)) k (cells (List.replicate c x)) = cells (filledL x (k + c) n) := by
  unfold splice filledL
  have h1 : (cells (List.replicate k x ++ List.replicate (n - k) 0)).take k = cells (List.replicate k x) := by
    rw [cells_append, List.take_append_of_le_length (by simp [cells]), List.take_of_length_le (by simp [cells])]
  have h2 : (cells (List.replicate k x ++ List.replicate (n - k) 0)).drop (k + (cells (List.replicate c x)).length) = cells (List.replicate (n - (k + c)) 0) := by
    rw [cells_append, cells_length, List.length_replicate, List.drop_append, List.drop_of_length_le (by simp [cells])]
    simp only [cells, List.map_replicate, List.length_replicate, List.drop_replicate, List.nil_append]
    congr 1
    omega
  rw [h1, h2, ← cells_append, ← cells_append]
  congr 1
  rw [← List.append_assoc, List.replicate_append_replicate]
def RepRel (w : World) (r : Nat) (x : Int) (n k : Nat) (wr : World) : Prop := Blk wr r 3 (cells (filledL x k n)).toArray ∧ Below w.heap.size w wr
theorem filled_length (x : Int) (k n : Nat) (h : k ≤ n) : (filledL x k n).length = n := by
  unfold filledL
  simp
  omega
theorem madeCells_fill (x : Int) (n : Nat) : madeCells #[.int .i64 0] n = (cells (filledL x 0 n)).toArray := by
  unfold madeCells filledL cells
  apply Array.ext
  · simp
  · intro i h1 h2
    simp [Nat.mod_one]
theorem filled_get (x : Int) (k n j : Nat) (hj : j < k) : (cells (filledL x k n))[j]? = some (.int .i64 x) := by
  unfold filledL
  rw [cells_append, List.getElem?_append_left (by simpa [cells] using hj)]
  simp [cells, hj]
set_option maxRecDepth 100000 in
set_option maxHeartbeats 3200000 in
theorem Repeat_one (x : Int) (n : Nat) (h1 : 1 ≤ n) (hn : n ≤ 1000000) (b c : Nat) (w : World) (hx : w.cell? ⟨b, 0, none⟩ = some (.int .i64 x)) : Calls Tryz.prog 93 #[.slice (some ⟨b, 0, none⟩) 1 c, .int .i64 n] w fun e w' =>
    e = .returned (.slice (some ⟨w.heap.size, 0, none⟩) n n) ∧ Blk w' w.heap.size 3 (cells (List.replicate n x)).toArray ∧ Touch [] w w' := by
  obtain ⟨i0, hi, hz0, hz1, hz2⟩ := info_int'
  have hM := Tryz.mul_any 1 n (by decide) (by omega) w
  have e1 : 1 * n / 18446744073709551616 = 0 := by omega
  have e2 : 1 * n % 18446744073709551616 = n := by omega
  rw [show ((1 : Nat) : Int) = 1 from rfl, e1, e2] at hM
  have hmk := fun w => run_make_row (P := Tryz.prog) 62 3 i0 (.int .i64 0) Tryz.underlying62 hi hz0 hz1 rfl .i64 .i64 n (by rw [hz2]; omega) (by omega) w
  have hsz : (Tryz.prog.info? 3).map (·.size) = some 1 := by rw [hi]; simp [hz1]
  have d1 : decide ((n : Int) > 9223372036854775807) = false := by simp; omega
  clear e1 e2 hi hz0 hz1 hz2
  go_enter Tryz.func93, Tryz.ntmps93
  go_wp2_with fail
  refine Calls.mono (hM.mono (fun e w' h => (And.intro h.1 h.2.symm : e = _ ∧ w = w'))) ?_
  rintro _ _ ⟨rfl, rfl⟩
  clear hM
  have HX0 : Hid (w.cell? ⟨b, 0, none⟩ = some (.int .i64 x)) := hx
  have HBW : Hid (b < w.heap.size) := Lib.hid (World.block_lt_of_cell? w _ hx)
  clear hx
  go_upto_region 7 with fail
  rw [madeCells_fill x n]
  have HNEW : Hid ((w.alloc (.cells (cells (filledL x 0 n)).toArray 3)).heap[w.heap.size]? = some (.cells (cells (filledL x 0 n)).toArray 3 (0, 0))) := Lib.hid (Blk.new w _ _)
  have HBEL : Hid (Below w.heap.size w (w.alloc (.cells (cells (filledL x 0 n)).toArray 3))) := Lib.hid ((Below.refl _ w).alloc (Nat.le_refl _) _)
  have HSRC : Hid ((w.alloc (.cells (cells (filledL x 0 n)).toArray 3)).cell? ⟨b, 0, none⟩ = some (.int .i64 x)) := Lib.hid (cell_quiet ((Touch.refl [] w).alloc _) HX0.out)
  have HS1 : Hid (∀ j v, (cells [x])[j]? = some v → (w.alloc (.cells (cells (filledL x 0 n)).toArray 3)).cell? (Addr.add ⟨b, 0, none⟩ j) = some v) := Lib.hid fun j v hj => by
    cases j with
    | zero =>
      simp only [cells, List.map_cons, List.getElem?_cons_zero, Option.some.injEq] at hj
      rw [← hj]
      exact HSRC.out
    | succ j => simp [cells] at hj
  have HSZ : Hid ((Tryz.prog.info? 3).map (·.size) = some 1) := Lib.hid hsz
  have HM1 : Hid ((cells [x]).length = Nat.min 1 n) := Lib.hid (by show 1 = min 1 n; omega)
  have HF1 : Hid (0 + (cells [x]).length ≤ (cells (filledL x 0 n)).length) := Lib.hid (by rw [cells_length, cells_length, filled_length _ _ _ (Nat.zero_le _)]; simp; omega)
  clear hsz hmk d1
  go_wp2_with (with_reducible refine wpList_copy_splice rfl (.tmp 31) (.tmp 32) 62 62 rfl 3 Tryz.underlying62 HSZ.out (some ⟨w.heap.size, 0, none⟩) (some ⟨b, 0, none⟩) n n 1 c (by simp [Act.eval]) (by simp [Act.eval]) w.heap.size 0 (cells (filledL x 0 n)) 3 HNEW.out (cells [x]) HM1.out (fun _ => ⟨rfl, _, rfl, HS1.out⟩) HF1.out (cells_one _) w.heap.size w HBEL.out (Nat.le_refl _) ?_; intro w2 hg2 hb2)
  have HR : Hid (RepRel w w.heap.size x n 1 w2) := Lib.hid ⟨by
    have h := hg2.out
    rw [show [x] = List.replicate 1 x from rfl, filled_splice x 0 n 1 (by omega)] at h
    exact h, hb2⟩
  clear HNEW HBEL HSRC HM1 HF1 hg2 hb2 HX0
  go_loopw [8] (fun kv wr => ∃ k : Nat, 1 ≤ k ∧ k ≤ n ∧ kv = .int .i64 k ∧ RepRel w w.heap.size x n k wr) (fun kv _ => n - (intOf kv).toNat)
  case atStart => exact ⟨1, Nat.le_refl _, h1, rfl, HR.out⟩
  case round =>
    obtain ⟨k, hk1, hkn, rfl, hRR⟩ := hrel
    have HRR := Lib.hid hRR
    clear hRR HR
    rcases Nat.lt_or_ge k n with hlt | hge
    · obtain ⟨d, hd⟩ : ∃ d, min k (n - k) = d := ⟨_, rfl⟩
      have HD := Lib.hid hd
      have HL1 : Hid ((cells (List.replicate d x)).length = Nat.min k (n - k)) := Lib.hid (by rw [cells_length, List.length_replicate, ← hd])
      have HF1 : Hid (k + (cells (List.replicate d x)).length ≤ (cells (filledL x k n)).length) := Lib.hid (by rw [cells_length, cells_length, filled_length _ _ _ hkn, List.length_replicate]; omega)
      have e8 : decide ((k : Int) < (n : Int)) = true := by simp; omega
      have HS2 : Hid (∀ j v, (cells (List.replicate d x))[j]? = some v → wr.cell? (Addr.add ⟨w.heap.size, 0, none⟩ j) = some v) := Lib.hid fun j v hj => by
        have hjd : j < d := by
          rcases Nat.lt_or_ge j d with h | h
          · exact h
          · rw [List.getElem?_eq_none (by rw [cells_length, List.length_replicate]; exact h)] at hj
            cases hj
        have e : v = .int .i64 x := by
          simp only [cells, List.map_replicate, List.getElem?_replicate, hjd, if_true, Option.some.injEq] at hj
          exact hj.symm
        rw [e]
        have h2 := HRR.out.1.cell j
        rw [List.getElem?_toArray, filled_get x k n j (by omega)] at h2
        rw [show Addr.add ⟨w.heap.size, 0, none⟩ j = ⟨w.heap.size, j, none⟩ from by rw [Addr.add_lit, Nat.zero_add]]
        exact h2
      have hw : IntKind.i64.wrap ((k : Int) + ((cells (List.replicate d x)).length : Int)) = ((k + d : Nat) : Int) := by
        rw [cells_length, List.length_replicate, IntKind.wrap_i64]
        omega
      have HD2 : Hid (1 ≤ d ∧ k + d ≤ n) := Lib.hid (by omega)
      have HB0 : Hid (Below w.heap.size w wr) := Lib.hid (And.right HRR.out)
      have HB1 : Hid (Below w.heap.size w wr.drew) := Lib.hid HB0.out.drew
      have HKN : Hid (n ≠ k) := Lib.hid (by omega)
      clear hd
      go_upto_region 9 with fail
      go_region_law (refine step_copy_splice rfl (.tmp 41) (.tmp 44) 62 62 rfl 3 Tryz.underlying62 HSZ.out (some ⟨w.heap.size, k, none⟩) (some ⟨w.heap.size, 0, none⟩) (n - k) (n - k) k n (by simp [Act.eval, Act.put, HKN.out]) (by simp [Act.eval, Act.put]) w.heap.size k (cells (filledL x k n)) 3 HRR.out.1 (cells (List.replicate d x)) HL1.out (fun _ => ⟨rfl, _, rfl, HS2.out⟩) HF1.out (cells_one _) w.heap.size w (by first | with_reducible exact HB0.out | with_reducible exact HB1.out) (Nat.le_refl _) ?_; intro w3 hg3 hb3)
      all_goals go_wp2_with fail
      all_goals (refine ⟨⟨k + d, by have := HD2.out; omega, HD2.out.2, by rw [Int.natCast_add], ?_, hb3⟩, ?_⟩)
      all_goals first
        | (have h := hg3.out; rw [filled_splice x k n d HD2.out.2] at h; exact h)
        | (have h := HD2.out; simp only [intOf]; omega)
    · obtain rfl : k = n := by omega
      have e8 : decide ((k : Int) < (k : Int)) = false := by simp
      have HFIN : Hid (Blk wr w.heap.size 3 (cells (List.replicate k x)).toArray) := Lib.hid (by have h := HRR.out.1; unfold filledL at h; simpa using h)
      go_wp2_with fail
      go_ret
      exact ⟨rfl, HFIN.out, Touch.of_below HRR.out.2 _⟩
end En
end Go.Proofs.YtdokeddjcpnmiaaGreatDoor

/- ins.Loops: the plain part, and the append of steps. -/
namespace Go.Proofs.YtdokeddjcpnmiaaGreatDoor
open Go.RowKit
namespace En

def negs (tab : List Int) : Nat := tab.countP (fun x => decide (x < 0))
theorem negs_set (tab : List Int) (k : Nat) (l : Int) (hk : k < tab.length) (h1 : tab.getD k 0 < 0) (hl : 0 ≤ l) : negs (tab.set k l) + 1 = negs tab := by
  induction tab generalizing k with
  | nil => simp at hk
  | cons a t ih =>
    cases k with
    | zero =>
      simp only [List.getD_cons_zero] at h1
      simp only [negs, List.set_cons_zero, List.countP_cons]
      rw [if_neg (by simpa using hl), if_pos (by simpa using h1)]
    | succ k =>
      simp only [List.getD_cons_succ] at h1
      simp only [negs, List.set_cons_succ, List.countP_cons] at ih ⊢
      have := ih k (by simpa using hk) h1
      omega
theorem negs_le (tab : List Int) : negs tab ≤ tab.length := List.countP_le_length
theorem stepsF_len (op a j l : Int) : (stepsF op a j l).length ≤ 2 := by
  unfold stepsF
  repeat' split
  all_goals simp
theorem stepsF_lev (op a j l : Int) : ∀ x ∈ stepsF op a j l, x.2 ≤ l + 1 := by
  unfold stepsF
  repeat' split
  all_goals (intro x hx; simp at hx)
  all_goals first
    | omega
    | (subst hx; show _ ≤ _; first | omega | (simp; omega))
    | (rcases hx with rfl | rfl <;> (show _ ≤ _; first | omega | (simp; omega)))
/-- what holds at the loop's head -/
structure LInv (L : List (Int × Int × Int)) (gf : Nat) (tab : List Int) (todo : List (Int × Int)) : Prop where
  len : tab.length = L.length
  top : gf ≤ 2 * L.length + 1
  fuel : todo.length + 2 * negs tab ≤ gf
  lev : ∀ x ∈ todo, x.2 + gf ≤ 2 * L.length + 1
  runs : ∀ T, loopsF L = some T → ∃ f, loopsGo L f tab todo = some T
theorem LInv.start {L : List (Int × Int × Int)} (h : L ≠ []) : LInv L (2 * L.length + 1) (List.replicate L.length (-1)) [(0, 0)] := by
  refine ⟨by simp, Nat.le_refl _, ?_, ?_, fun T hT => ?_⟩
  · have := negs_le (List.replicate L.length (-1))
    rw [List.length_replicate] at this
    show 1 + _ ≤ _
    omega
  · intro x hx
    rw [List.mem_singleton.1 hx]
    show (0 : Int) + _ ≤ _
    omega
  · unfold loopsF at hT
    rw [if_neg h] at hT
    exact ⟨_, hT⟩
section
variable {L : List (Int × Int × Int)} {gf : Nat} {tab : List Int} {ds : List (Int × Int)} {a l : Int}
theorem LInv.pop (h : LInv L gf tab (ds ++ [(a, l)])) : ∃ g', gf = g' + 1 ∧ ds.length + 2 * negs tab ≤ g' ∧ l ≤ 2 * L.length ∧ g' ≤ 2 * L.length := by
  have h0 := h.top
  have h1 := h.fuel
  have h2 := h.lev (a, l) (by simp)
  rw [List.length_append] at h1
  simp at h1 h2
  exact ⟨gf - 1, by omega, by omega, by omega, by omega⟩
theorem LInv.go (h : LInv L gf tab (ds ++ [(a, l)])) {T : List Int} (hT : loopsF L = some T) : ∃ f, loopsGo L (f + 1) tab (ds ++ [(a, l)]) = some T := by
  obtain ⟨f, hf⟩ := h.runs T hT
  cases f with
  | zero => cases hf
  | succ f => exact ⟨f, hf⟩
theorem go_unfold (f : Nat) : loopsGo L (f + 1) tab (ds ++ [(a, l)]) = (if a < 0 ∨ (L.length : Int) ≤ a ∨ l < 0 then none else if tab.getD a.toNat 0 = l then loopsGo L f tab ds else if 0 ≤ tab.getD a.toNat 0 then none else loopsGo L f (tab.set a.toNat l) (ds ++ stepsF (opAt L a.toNat).1 (opAt L a.toNat).2.1 a l)) := by
  have e : (ds ++ [(a, l)]).getLast? = some (a, l) := by simp
  rw [loopsGo, e]
  simp only [List.dropLast_concat]
theorem LInv.bad (h : LInv L gf tab (ds ++ [(a, l)])) (hb : a < 0 ∨ (L.length : Int) ≤ a ∨ l < 0) : loopsF L = none := by
  cases hF : loopsF L with
  | none => rfl
  | some T =>
    obtain ⟨f, hf⟩ := h.go hF
    rw [go_unfold, if_pos hb] at hf
    cases hf
theorem LInv.same {k : Nat} (h : LInv L (gf + 1) tab (ds ++ [((k : Int), l)])) (hk : k < L.length) (hl : 0 ≤ l) (he : tab.getD k 0 = l) : LInv L gf tab ds := by
  obtain ⟨g', hg, h1, h2, h3⟩ := h.pop
  refine ⟨h.len, by omega, by omega, fun x hx => ?_, fun T hT => ?_⟩
  · have := h.lev x (by simp [hx])
    omega
  · obtain ⟨f, hf⟩ := h.go hT
    rw [go_unfold, if_neg (by omega), Int.toNat_natCast, if_pos he] at hf
    exact ⟨f, hf⟩
theorem LInv.twice {k : Nat} (h : LInv L gf tab (ds ++ [((k : Int), l)])) (hk : k < L.length) (hl : 0 ≤ l) (he : tab.getD k 0 ≠ l) (hn : 0 ≤ tab.getD k 0) : loopsF L = none := by
  cases hF : loopsF L with
  | none => rfl
  | some T =>
    obtain ⟨f, hf⟩ := h.go hF
    rw [go_unfold, if_neg (by omega), Int.toNat_natCast, if_neg he, if_pos hn] at hf
    cases hf
theorem LInv.on {k : Nat} (h : LInv L (gf + 1) tab (ds ++ [((k : Int), l)])) (hk : k < L.length) (hl : 0 ≤ l) (hn : tab.getD k 0 < 0) : LInv L gf (tab.set k l) (ds ++ stepsF (opAt L k).1 (opAt L k).2.1 k l) := by
  obtain ⟨g', hg, h1, h2, h9⟩ := h.pop
  have hs := negs_set tab k l (by rw [h.len]; exact hk) hn hl
  have h3 := stepsF_len (opAt L k).1 (opAt L k).2.1 k l
  refine ⟨by rw [List.length_set]; exact h.len, by omega, by rw [List.length_append]; omega, fun x hx => ?_, fun T hT => ?_⟩
  · rcases List.mem_append.1 hx with hx | hx
    · have := h.lev x (by simp [hx])
      omega
    · have h4 := stepsF_lev _ _ _ _ x hx
      have h5 := h.lev ((k : Int), l) (by simp)
      have h6 : l + ((gf + 1 : Nat) : Int) ≤ 2 * L.length + 1 := h5
      omega
  · obtain ⟨f, hf⟩ := h.go hT
    rw [go_unfold, if_neg (by omega), Int.toNat_natCast, if_neg (by omega), if_neg (by omega)] at hf
    exact ⟨f, hf⟩
end
theorem LInv.end_ {L : List (Int × Int × Int)} {gf : Nat} {tab T : List Int} (h : LInv L gf tab []) (hT : loopsF L = some T) : T = tab := by
  obtain ⟨f, hf⟩ := h.runs T hT
  cases f with
  | zero => cases hf
  | succ f =>
    have e : loopsGo L (f + 1) tab [] = some tab := rfl
    rw [e] at hf
    exact (Option.some.inj hf).symm
theorem todo_last (todo : List (Int × Int)) (h : 0 < todo.length) : ∃ ds a l, todo = ds ++ [(a, l)] := by
  have h0 : todo ≠ [] := fun e => by rw [e] at h; simp at h
  refine ⟨todo.dropLast, (todo.getLast h0).1, (todo.getLast h0).2, ?_⟩
  exact (List.dropLast_concat_getLast h0).symm
theorem steps_one (l : List (Int × Int)) : ∀ u ∈ l.flatMap stepCells, u.oneCell' = true := by
  intro u hu
  obtain ⟨x, _, hx⟩ := List.mem_flatMap.1 hu
  simp only [stepCells, List.mem_cons, List.not_mem_nil, or_false] at hx
  rcases hx with rfl | rfl <;> rfl
theorem steps_length (l : List (Int × Int)) : (l.flatMap stepCells).length = l.length * 2 := by
  induction l with
  | nil => rfl
  | cons x l ih => rw [List.flatMap_cons, List.length_append, ih, List.length_cons]; show 2 + _ = _; omega
theorem info_step : (Tryz.prog.info? 151).map (fun i => (i.zero, i.size, i.bytes)) = some (some (.agg #[.int .i64 0, .int .i64 0]), 2, 16) := by kernel_rfl
theorem info_step' : ∃ i0, Tryz.prog.info? 151 = some i0 ∧ i0.zero = some (.agg #[.int .i64 0, .int .i64 0]) ∧ i0.size = 2 ∧ i0.bytes = 16 := by
  have h := info_step
  cases hi : Tryz.prog.info? 151 with
  | none => rw [hi] at h; cases h
  | some i => rw [hi] at h; simp at h; exact ⟨i, rfl, h.1, h.2.1, h.2.2⟩
def StepsRow (B : Nat) (w : World) (v : Value) (l : List (Int × Int)) : Prop := w.ownsRow B 151 2 v l.length (l.flatMap stepCells)
/-- the append of what ins.steps answers, as a step of a region that draws -/
theorem step_append_steps {ops : Array Oper} {o : Oper} {a : Act} {w : World} {K : Act → World → Prop} {Q : Exit → Act → World → Prop} {E : Prop} (hgd : o.guard = none) (s x : Operand)
    (ho : o.op = .call { callee := .builtin .append, args := #[s, x], argTypes := #[152, 152] }) (B : Nat) (v : Value) (T l : List (Int × Int)) (hs : a.eval s = v) (hown : StepsRow B w v T) (sv : Value) (hx : a.eval x = sv) (hl : StepsAt w sv l) (hT : T.length + l.length ≤ 1000000) (hB : B ≤ w.heap.size)
    (h : ∀ v' w', StepsRow B w' v' (T ++ l) → w.grownBy w' v.ownBlock → (v'.ownBlock = v.ownBlock ∨ v'.ownBlock = some w.heap.size) → K (a.put o.dst v') w') :
    if Region.wanted o (yielded ops a.tmps) = true then Oper.wp Tryz.prog o a w K Q else E := by
  obtain ⟨i0, hi, hz, hsz, hby⟩ := info_step'
  have hw : Region.wanted o (yielded ops a.tmps) = true := by simp [Region.wanted, hgd]
  rw [if_pos hw]
  have hml : (1000000 : Nat) ≤ maxLen := by unfold maxLen; omega
  rcases hl with ⟨rfl, rfl⟩ | ⟨b, rfl, hb⟩
  · have hrun := run_append_owned_none (P := Tryz.prog) (w := w) B 152 o.type 151 i0 2 Tryz.underlying152 hi v T.length _ hown
    unfold Oper.wp
    simp [execOp, ho, resolve, invoke, builtin, hs, hx, hrun, Result.andThen]
    exact h v w (by rw [List.append_nil]; exact hown) ⟨rfl, rfl, rfl, Nat.le_refl _, fun _ _ _ => rfl⟩ (.inl rfl)
  · obtain ⟨v', w', hr, h2, h3, _, h5⟩ := run_append_own_at (P := Tryz.prog) (w := w) B 152 o.type 151 i0 _ 2 16 Tryz.underlying152 hi hz hsz hby rfl (by omega) v T.length _ hown ⟨b, 0, none⟩ l.length l.length (l.flatMap stepCells) (steps_length l) (World.news_of_block hb) (steps_one l) (by omega) (by omega) hB
    unfold Oper.wp
    simp [execOp, ho, resolve, invoke, builtin, hs, hx, hr, Result.andThen]
    exact h v' w' (by unfold StepsRow; rw [List.length_append, List.flatMap_append]; exact h2) h3 h5
theorem StepsRow.touch {B : Nat} {F : List Nat} {w w' : World} {v : Value} {l : List (Int × Int)} (h : StepsRow B w v l) (t : Touch F w w') (hn : ∀ x ∈ rowOf v, x ∉ F) : StepsRow B w' v l := row_touch h t hn
theorem StepsRow.none_ {B : Nat} {w : World} {v : Value} (h : StepsRow B w v []) : ∃ a c, v = .slice a 0 c := by
  rcases h.2 with ⟨e, _⟩ | ⟨g, cap, cur, e, _⟩
  · exact ⟨none, 0, e⟩
  · exact ⟨_, cap, e⟩
theorem StepsRow.form {B : Nat} {w : World} {v : Value} {ds : List (Int × Int)} {a l : Int} (h : StepsRow B w v (ds ++ [(a, l)])) : ∃ g c, v = .slice (some ⟨g, 0, none⟩) (ds.length + 1) c ∧ ds.length + 1 ≤ c ∧ B ≤ g ∧ g < w.heap.size ∧ w.cell? ⟨g, ds.length * 2, none⟩ = some (.int .i64 a) ∧ w.cell? ⟨g, ds.length * 2 + 1, none⟩ = some (.int .i64 l) ∧ StepsRow B w (.slice (some ⟨g, 0, none⟩) ds.length c) ds := by
  have hl : (ds ++ [(a, l)]).length = ds.length + 1 := by simp
  unfold StepsRow at h
  rw [hl] at h
  rcases h.2 with ⟨_, h0⟩ | ⟨g, cap, cur, e, hB, hg, h1, h2, h3, h4⟩
  · omega
  · have hc : ∀ j u, ((ds ++ [(a, l)]).flatMap stepCells)[j]? = some u → w.cell? ⟨g, j, none⟩ = some u := fun j u hj => by
      rw [cell_of_row w g j cur _ _ hg, ← Array.getElem?_toList]
      rw [← h4, List.getElem?_take] at hj
      split at hj
      · exact hj
      · cases hj
    have hlast : ∀ j, ((ds ++ [(a, l)]).flatMap stepCells)[ds.length * 2 + j]? = (stepCells (a, l))[j]? := fun j => by
      rw [List.flatMap_append, List.getElem?_append_right (by rw [steps_length]; omega), steps_length]
      simp
    refine ⟨g, cap, e, h1, hB, lt_of_block hg, hc _ _ (hlast 0), hc _ _ (hlast 1), ?_⟩
    refine ⟨steps_length ds, .inr ⟨g, cap, cur, rfl, hB, hg, by omega, h2, h3, ?_⟩⟩
    have h5 := congrArg (List.take (ds.length * 2)) h4
    rw [List.take_take, Nat.min_eq_left (by omega), List.flatMap_append, List.take_append_of_le_length (by rw [steps_length]; exact Nat.le_refl _)] at h5
    exact h5.trans (List.take_of_length_le (by rw [steps_length]; exact Nat.le_refl _))
end En
end Go.Proofs.YtdokeddjcpnmiaaGreatDoor

/- ins.May: the plain part. -/
namespace Go.Proofs.YtdokeddjcpnmiaaGreatDoor
open Go.RowKit
namespace En

def lowL : List (Int × Value) := [(2, .int .i64 1), (3, .int .i64 1)]
def highL (a b c : Int) : List (Int × Value) := [(1, .int .i64 a), (2, .int .i64 b), (3, .int .i64 16), (4, .int .i64 c)]
theorem zero_int (w : World) : (zeroValue 3).run Tryz.prog w = .ok (.int .i64 0) w := by kernel_rfl
def localsF (L : List (Int × Int × Int)) : Int := if (opAt L 0).1 = 12 then (opAt L 0).2.1 else 0
def highW (L : List (Int × Int × Int)) (words : Int) (k : Int) : Int :=
  if k = 1 then L.length - 1 else if k = 2 then words else if k = 3 then 16 else if k = 4 then IntKind.i64.wrap (localsF L - 1) else 0
theorem atKey_none {l : List (Int × Value)} {k : Int} (h : ∀ p ∈ l, p.1 ≠ k) : atKey l k = none := by
  unfold atKey
  rw [List.find?_eq_none.2 (fun p hp => by simpa using h p hp)]
  rfl
theorem low_at {w : World} {b : Nat} (h : IMap w b lowL) (op : Int) : (Instr.lookup 124 (.map (some b)) (.int .i64 (insKind op)) false).run Tryz.prog w = .ok (.int .i64 (lowF (insKind op))) w := by
  by_cases h2 : insKind op = 2
  · rw [h2]
    exact (h.lookup (P := Tryz.prog) Tryz.underlying124 Tryz.underlying3 (x := 2) (v := .int .i64 1) rfl).1
  by_cases h3 : insKind op = 3
  · rw [h3]
    exact (h.lookup (P := Tryz.prog) Tryz.underlying124 Tryz.underlying3 (x := 3) (v := .int .i64 1) rfl).1
  have e : lowF (insKind op) = 0 := by unfold lowF; rw [if_neg (by omega)]
  rw [e]
  exact (h.lookup_none (P := Tryz.prog) Tryz.underlying124 Tryz.underlying3 (atKey_none (by intro p hp; simp only [lowL, List.mem_cons, List.not_mem_nil, or_false] at hp; rcases hp with rfl | rfl <;> exact fun e => by simp only at e; omega)) (z := .int .i64 0) zero_int).1
theorem high_at {w : World} {b : Nat} {L : List (Int × Int × Int)} {words : Int} (h : IMap w b (highL (L.length - 1) words (IntKind.i64.wrap (localsF L - 1)))) (op : Int) : (Instr.lookup 124 (.map (some b)) (.int .i64 (insKind op)) false).run Tryz.prog w = .ok (.int .i64 (highW L words (insKind op))) w := by
  by_cases h1 : insKind op = 1
  · rw [h1]
    exact (h.lookup (P := Tryz.prog) Tryz.underlying124 Tryz.underlying3 (x := 1) rfl).1
  by_cases h2 : insKind op = 2
  · rw [h2]
    exact (h.lookup (P := Tryz.prog) Tryz.underlying124 Tryz.underlying3 (x := 2) rfl).1
  by_cases h3 : insKind op = 3
  · rw [h3]
    exact (h.lookup (P := Tryz.prog) Tryz.underlying124 Tryz.underlying3 (x := 3) rfl).1
  by_cases h4 : insKind op = 4
  · rw [h4]
    exact (h.lookup (P := Tryz.prog) Tryz.underlying124 Tryz.underlying3 (x := 4) rfl).1
  have e : highW L words (insKind op) = 0 := by unfold highW; rw [if_neg h1, if_neg h2, if_neg h3, if_neg h4]
  rw [e]
  exact (h.lookup_none (P := Tryz.prog) Tryz.underlying124 Tryz.underlying3 (atKey_none (by intro p hp; simp only [highL, List.mem_cons, List.not_mem_nil, or_false] at hp; rcases hp with rfl | rfl | rfl | rfl <;> exact fun e => by simp only at e; omega)) (z := .int .i64 0) zero_int).1
/-- the test of one instruction, as the code does it -/
def testW (L : List (Int × Int × Int)) (words : Int) (tab : List Int) (i : Nat) : Prop :=
  let x := opAt L i
  1 ≤ x.1 ∧ x.1 < 16 ∧ (x.1 = 1 ∨ x.2.2 = 0) ∧ lowF (insKind x.1) ≤ x.2.1 ∧ x.2.1 ≤ highW L words (insKind x.1) ∧ ¬ (x.1 = 12 ∧ 0 < i) ∧ ¬ (x.1 = 15 ∧ i + 1 = L.length ∧ 0 < tab.getD i 0)
theorem kind_four {op : Int} (h : insKind op = 4) : op = 13 ∨ op = 14 := by
  unfold insKind at h
  repeat' split at h
  all_goals first
    | assumption
    | omega
theorem kind_12 : insKind 12 = 3 := by decide
theorem high_low {L : List (Int × Int × Int)} {words k : Int} (h : k = 4 → 1 ≤ localsF L ∧ localsF L ≤ 16 ∨ localsF L = 0) : highW L words k = highF L words k := by
  unfold highW highF
  repeat' split
  all_goals first
    | rfl
    | (rw [IntKind.wrap_i64]; have h := h (by assumption); unfold localsF at h ⊢; omega)
theorem test_zero {L : List (Int × Int × Int)} {words : Int} {tab : List Int} (h : testW L words tab 0) : (1 ≤ localsF L ∧ localsF L ≤ 16) ∨ localsF L = 0 := by
  unfold localsF
  split
  · rename_i h12
    obtain ⟨_, _, _, h1, h2, _⟩ := h
    rw [h12, kind_12] at h1 h2
    exact .inl ⟨h1, h2⟩
  · exact .inr rfl
theorem may_zero {L : List (Int × Int × Int)} {words : Int} {tab : List Int} (h : oneMay L words tab 0) : (1 ≤ localsF L ∧ localsF L ≤ 16) ∨ localsF L = 0 := by
  unfold localsF
  split
  · rename_i h12
    obtain ⟨_, _, _, h1, h2, _⟩ := h
    rw [h12, kind_12] at h1 h2
    exact .inl ⟨h1, h2⟩
  · exact .inr rfl
theorem may_test {L : List (Int × Int × Int)} {words : Int} {tab : List Int} (h0 : (1 ≤ localsF L ∧ localsF L ≤ 16) ∨ localsF L = 0) (i : Nat) : oneMay L words tab i ↔ testW L words tab i := by
  unfold oneMay testW
  simp only [high_low (words := words) (fun _ => h0)]
end En
end Go.Proofs.YtdokeddjcpnmiaaGreatDoor
