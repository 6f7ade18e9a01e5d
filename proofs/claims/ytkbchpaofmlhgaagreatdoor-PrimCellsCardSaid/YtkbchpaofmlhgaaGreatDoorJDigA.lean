import Derived.Test.YtkbchpaofmlhgaaGreatDoorJOpsA
import Derived.Test.YtkbchpaofmlhgaaGreatDoorJLongA
/- Digits of a number of one cell: bits.Div64, pair.UDiv, digit.Step. -/
namespace Go.Proofs.YtkbchpaofmlhgaaGreatDoor
open Go.RowKit

set_option maxHeartbeats 1000000 in
theorem div64_small (n B : Nat) (hn : n < 18446744073709551616) (hB0 : 0 < B) (hB : B < 9223372036854775808) (w : World) :
    Calls Tryz.prog 218 #[.int .u64 0, .int .u64 n, .int .u64 B] w fun e w' => e = .returned (.tuple #[.int .u64 (n / B : Nat), .int .u64 (n % B : Nat)]) ∧ Touch [] w w' := by
  have g1 : ¬ (B : Int) ≤ 0 := by omega
  have g2 : ((B : Int) == 0) = false := beq_eq_false_iff_ne.2 (by omega)
  have q1 : (n : Int).tdiv B = (n / B : Nat) := Int.ofNat_tdiv n B
  have q2 : (n : Int).tmod B = (n % B : Nat) := by rw [Int.ofNat_tmod]
  have wq : ∀ q : Nat, q < 18446744073709551616 → IntKind.u64.wrap (q : Int) = q := fun q h => by rw [IntKind.wrap_u64]; omega
  have w1 := wq (n / B) (Nat.lt_of_le_of_lt (Nat.div_le_self _ _) hn)
  have w2 := wq (n % B) (Nat.lt_of_le_of_lt (Nat.mod_le _ _) hn)
  obtain ⟨q, hq⟩ : ∃ q : Nat, n / B = q := ⟨_, rfl⟩
  obtain ⟨r, hr⟩ : ∃ r : Nat, n % B = r := ⟨_, rfl⟩
  rw [hq] at q1 w1 ⊢
  rw [hr] at q2 w2 ⊢
  clear wq hq hr
  go_enter Tryz.func218, Tryz.ntmps218
  go_wp2_with fail
  go_quiet (fail)
  go_wp2
  go_ret2
  exact ⟨rfl, ((Touch.refl _ _).drewN _)⟩
theorem u64_cell (n : Nat) (hn : n < 18446744073709551616) : IntKind.u64.wrap (cellOf n) = n := by rw [IntKind.wrap_u64]; unfold cellOf; split <;> omega
theorem i64_cell (n : Nat) (hn : n < 18446744073709551616) : IntKind.i64.wrap (n : Int) = cellOf n := by rw [IntKind.wrap_i64]; unfold cellOf; split <;> omega
theorem small_cell (n : Nat) (hn : n < 9223372036854775808) : cellOf n = n := by unfold cellOf; rw [if_pos hn]
set_option maxHeartbeats 1000000 in
theorem udivS (n B : Nat) (hn : n < 18446744073709551616) (hB0 : 0 < B) (hB : B < 9223372036854775808) (w : World) :
    Calls Tryz.prog 129 #[.agg #[.int .i64 (cellOf n), .int .i64 0], .int .i64 (B : Int)] w fun e w' => e = .returned (.tuple #[.int .i64 (cellOf (n % B)), .int .i64 (cellOf (n / B)), .int .i64 0]) ∧ Touch [] w w' := by
  have hD := fun W => div64_small n B hn hB0 hB W
  have g2 : ((B : Int) == 0) = false := beq_eq_false_iff_ne.2 (by omega)
  have e1 := u64_cell n hn
  have e2 : IntKind.u64.wrap (B : Int) = B := by rw [IntKind.wrap_u64]; omega
  have e3 := i64_cell (n / B) (Nat.lt_of_le_of_lt (Nat.div_le_self _ _) hn)
  have e4 := i64_cell (n % B) (Nat.lt_of_le_of_lt (Nat.mod_le _ _) hn)
  have g3 : ¬ (0 : Int) ≥ B := by omega
  obtain ⟨c, hc⟩ : ∃ c : Int, cellOf n = c := ⟨_, rfl⟩
  obtain ⟨q, hq⟩ : ∃ q : Nat, n / B = q := ⟨_, rfl⟩
  obtain ⟨r, hr⟩ : ∃ r : Nat, n % B = r := ⟨_, rfl⟩
  rw [hq] at e3 hD ⊢
  rw [hr] at e4 hD ⊢
  rw [hc] at e1 ⊢
  clear hc hq hr
  go_enter Tryz.func129, Tryz.ntmps129
  go_wp2_with fail
  refine (hD _).mono ?_
  rintro _ w1 ⟨rfl, t1⟩
  clear hD
  go_wp2_with fail
  go_ret3
  exact ⟨rfl, ((Touch.refl [] w).alloc _).trans t1 (by simp)⟩
theorem char_any (d : Nat) (hd : d < 36) (w : World) : Calls Tryz.prog 251 #[.int .i64 (d : Int)] w fun e w' => e = .returned (.int .u8 (((digC d).toNat : Nat) : Int)) ∧ w = w' := by
  have hl := run_letter d hd w
  have g1 : ¬ (d : Int) < 0 := by omega
  have g2 : ¬ (d : Int) ≥ 36 := by omega
  unfold lettersS at hl
  go_enter Tryz.func251, Tryz.ntmps251
  go_wp2_with fail
  go_ret
  exact ⟨rfl, rfl⟩
theorem rightD_any (b : Int) (h0 : 2 ≤ b) (h1 : b ≤ 36) (w : World) : Calls Tryz.prog 249 #[.int .i64 b] w fun e w' => e = .returned (.bool true) ∧ w = w' := by
  go_enter Tryz.func249, Tryz.ntmps249
  go_wp2_with fail
  go_ret
  exact ⟨rfl, rfl⟩
set_option maxRecDepth 100000 in
set_option maxHeartbeats 1000000 in
theorem stepS (n B : Nat) (hn : n < 18446744073709551616) (hB0 : 2 ≤ B) (hB : B ≤ 36) (w : World) :
    Calls Tryz.prog 234 #[.agg #[.int .i64 (cellOf n), .int .i64 0], .int .i64 (B : Int)] w fun e w' => e = .returned (.tuple #[.agg #[.int .i64 (cellOf (n / B)), .int .i64 0], .int .u8 (((digC (n % B)).toNat : Nat) : Int)]) ∧ Touch [] w w' := by
  have hr := fun W => rightD_any (B : Int) (by omega) (by omega) W
  have h1 := fun W => udivS 0 B (by omega) (by omega) (by omega) W
  have h2 := fun W => udivS n B hn (by omega) (by omega) W
  have hm : n % B < B := Nat.mod_lt _ (by omega)
  have hch := fun W => char_any (n % B) (by omega) W
  rw [Nat.zero_mod, Nat.zero_div, small_cell 0 (by decide)] at h1
  rw [small_cell (n % B) (by omega)] at h2
  obtain ⟨c, hc⟩ : ∃ c : Int, cellOf n = c := ⟨_, rfl⟩
  obtain ⟨q, hq⟩ : ∃ q : Int, cellOf (n / B) = q := ⟨_, rfl⟩
  obtain ⟨r, hrr⟩ : ∃ r : Nat, n % B = r := ⟨_, rfl⟩
  rw [hc] at h2 ⊢
  rw [hq] at h2 ⊢
  rw [hrr] at h2 hch ⊢
  clear hc hq hrr hm
  go_enter Tryz.func234, Tryz.ntmps234
  go_wp2_with fail
  refine (hr _).mono ?_
  rintro _ _ ⟨rfl, rfl⟩
  clear hr
  have bP := (Blk.new w 38 #[.int .i64 c, .int .i64 0]).alloc (.cells #[.int .i64 0, .int .i64 0] 38)
  have bR := Blk.new_at (n := w.heap.size + 1) (w.alloc (.cells #[.int .i64 c, .int .i64 0] 38)) (by simp) 38 #[.int .i64 0, .int .i64 0]
  have tt := ((Touch.refl [] w).alloc (.cells #[.int .i64 c, .int .i64 0] 38)).alloc (.cells #[.int .i64 0, .int .i64 0] 38)
  go_wp2_with fail
  refine (h1 _).mono ?_
  rintro _ w1 ⟨rfl, t1⟩
  have bP := bP.touch t1 (by simp)
  have bR := bR.touch t1 (by simp)
  have tw := tt.trans t1 (by simp)
  clear t1 h1 tt
  have p0 := bP.cell 0
  go_wp2_with fail
  refine (h2 _).mono ?_
  rintro _ w2 ⟨rfl, t2⟩
  have bR := bR.touch t2 (by simp)
  have tw := tw.trans t2 (by simp)
  clear t2 h2 bP p0
  have r0 := bR.cell 0
  have r1 := bR.cell 1
  have g0 := bR.frozen 0
  have g1 := bR.frozen 1
  go_wp2_with fail
  refine (hch _).mono ?_
  rintro _ _ ⟨rfl, rfl⟩
  go_wp2_with fail
  obtain ⟨z0, z1⟩ := two_back bR (.int .i64 q) (.int .i64 0)
  refine bodyPost_ret (by simp [results, Tryz.results234, go_sem, z0, z1]; try rfl) rfl ⟨rfl, ?_⟩
  exact (tw.setCell (.inr (by simp)) _).setCell (.inr (by simp)) _
end Go.Proofs.YtkbchpaofmlhgaaGreatDoor

/- digit.Text and Signed of a number of one cell. -/
namespace Go.Proofs.YtkbchpaofmlhgaaGreatDoor
open Go.RowKit

def numsU (l : List UInt8) : List Int := l.map fun c => (c.toNat : Int)
theorem numsU_bytes (l : List UInt8) : Bytes (numsU l) := by
  intro x hx
  obtain ⟨b, _, rfl⟩ := List.mem_map.1 hx
  have := b.toNat_lt
  omega
theorem numsU_str (l : List UInt8) : strOfNums (numsU l) = ⟨l.toArray⟩ := by
  have := nums_str ⟨l.toArray⟩
  unfold strL at this
  simpa [numsU] using this
theorem numsU_len (l : List UInt8) : (numsU l).length = l.length := List.length_map _

/-- where a digit's loop stands: the row of digits, the pair's number -/
structure DigLoop (w0 : World) (B n : Nat) (acc : List UInt8) (m : Nat) (more : Bool) (sv : Value) (wr : World) : Prop where
  row : wr.ownsRow (w0.heap.size + 1) 5 1 sv acc.length (bytesV (numsU acc))
  pair : Blk wr w0.heap.size 38 #[.int .i64 (cellOf m), .int .i64 0]
  t : Touch [] w0 wr
  small : m < 2 ^ (64 - acc.length)
  short : acc.length ≤ 64
  live : more = true → acc = [] ∨ m ≠ 0
  text : baseL B n = (if more then baseL B m else []) ++ acc.reverse
theorem cell_nil (m : Nat) (h : m < 18446744073709551616) : (cellOf m == 0 && (0 : Int) == 0) = decide (m = 0) := by
  rw [Bool.eq_iff_iff, Bool.and_eq_true, beq_iff_eq, decide_eq_true_eq]
  unfold cellOf
  split <;> simp <;> omega

theorem pair_neq (a b c d : Int) (w : World) : (binOp .neq 38 (.agg #[.int .i64 a, .int .i64 b]) (.agg #[.int .i64 c, .int .i64 d])).run Tryz.prog w = .ok (.bool (!(a == c && b == d))) w := by
  rw [run_neq_struct, run_equalIn_agg _ _ _ _ _ pair_struct pair_stood]
  simp only [Program.fieldsOf, Tryz.underlying38]
  go_simp
  repeat' split
  all_goals simp_all
set_option maxRecDepth 100000 in
set_option maxHeartbeats 3200000 in
theorem textS (n B : Nat) (hn : n < 18446744073709551616) (hB0 : 2 ≤ B) (hB : B ≤ 36) (w : World) :
    Calls Tryz.prog 250 #[.agg #[.int .i64 (cellOf n), .int .i64 0], .int .i64 (B : Int)] w fun e w' => e = .returned (.string ⟨(baseL B n).toArray⟩) ∧ Touch [] w w' := by
  obtain ⟨i0, hi, hz0, hz1, hz2⟩ := info_byte'
  have hrt := fun W => rightD_any (B : Int) (by omega) (by omega) W
  have hstep := fun m (hm : m < 18446744073709551616) W => stepS m B hm hB0 hB W
  go_enter Tryz.func250, Tryz.ntmps250
  go_wp2_with fail
  refine (hrt _).mono ?_
  rintro _ _ ⟨rfl, rfl⟩
  have b0 := Blk.new w 38 #[.int .i64 (cellOf n), .int .i64 0]
  have t0 := (Touch.refl [] w).alloc (.cells #[.int .i64 (cellOf n), .int .i64 0] 38)
  have HD : Hid (DigLoop w B n [] n true (.slice none 0 0) (w.alloc (.cells #[.int .i64 (cellOf n), .int .i64 0] 38))) := ⟨World.ownsRow_nil _ _ _ _, b0, t0, hn, by decide, fun _ => .inl rfl, by simp⟩
  clear b0 t0
  go_wp2_with fail
  go_loopw [5, 6] (fun sv mv wr => ∃ acc m more, mv = .bool more ∧ DigLoop w B n acc m more sv wr) (fun sv _ _ => match sv with | .slice _ k _ => 65 - k | _ => 0)
  case atStart => exact ⟨[], n, true, rfl, HD.out⟩
  case round =>
    obtain ⟨acc, m, more, rfl, hD⟩ := hrel
    obtain ⟨ra, rc, rfl⟩ := own_slice hD.row
    cases more with
    | false =>
      have hrev := rev_any wr (w.heap.size + 1) _ (numsU acc) (by rw [numsU_len]; exact hD.row)
      have HT := Lib.hid (And.intro hD.text hD.t)
      have hlow := own_from hD.row
      have HL := Lib.hid hlow
      clear hD hrt hstep hlow
      go_wp2_with fail
      refine hrev.mono ?_
      rintro _ w1 ⟨rfl, hown, t1⟩
      have hc := row_text (w := w1) (v := .slice ra acc.length rc) (l := (numsU acc).reverse) ⟨by rw [List.length_reverse]; exact own_low hown, fun x hx => numsU_bytes acc x (List.mem_reverse.1 hx)⟩
      have tw := HT.out.2.trans t1 (fun g hg => .inr (by have := HL.out g hg; omega))
      have HW := Lib.hid tw
      clear hrev hown t1 tw
      go_wp2_with fail
      go_ret
      refine ⟨?_, HW.out⟩
      have e1 : (numsU acc).reverse = numsU acc.reverse := by unfold numsU; rw [List.map_reverse]
      have e2 := HT.out.1
      rw [if_neg (by simp), List.nil_append] at e2
      rw [e1, numsU_str, e2]
      rfl
    | true =>
      have hm64 : m < 18446744073709551616 := Nat.lt_of_lt_of_le hD.small (Nat.pow_le_pow_right (by decide) (by omega) : 2 ^ (64 - acc.length) ≤ 2 ^ 64)
      have hs := hstep m hm64
      obtain ⟨c, hc⟩ : ∃ c, digC (m % B) = c := ⟨_, rfl⟩
      obtain ⟨m2, hm2⟩ : ∃ m2, m / B = m2 := ⟨_, rfl⟩
      rw [hc, hm2] at hs
      have HC := Lib.hid hc
      have HM2 := Lib.hid hm2
      have hm2lt : m2 < 18446744073709551616 := by rw [← hm2]; exact Nat.lt_of_le_of_lt (Nat.div_le_self _ _) hm64
      have p0 := hD.pair.cell 0
      have p1 := hD.pair.cell 1
      have HD1 := Lib.hid hD
      clear hc hm2 hD hstep hrt
      go_wp2_with fail
      refine (hs _).mono ?_
      rintro _ w1 ⟨rfl, t1⟩
      have bP := HD1.out.pair.touch t1 (by simp)
      have rw1 := row_touch HD1.out.row t1 (by simp)
      have tw := HD1.out.t.trans t1 (by simp)
      clear t1 hs p0 p1
      have p0 := bP.cell 0
      have p1 := bP.cell 1
      have g0 := bP.frozen 0
      have g1 := bP.frozen 1
      go_upto_region 9 with (fail)
      have bP2 := bP.two_set (.int .i64 (cellOf m2)) (.int .i64 0)
      have tw2 := (tw.setCell (p := ⟨w.heap.size, 0, none⟩) (.inr (Nat.le_refl _)) (.int .i64 (cellOf m2))).setCell (p := ⟨w.heap.size, 1, none⟩) (.inr (Nat.le_refl _)) (.int .i64 0)
      have hlow : ∀ x ∈ rowOf (.slice ra acc.length rc), w.heap.size + 1 ≤ x := own_from rw1
      have rw2 := row_touch rw1 (F := [w.heap.size]) (((Touch.refl _ w1).setCell (p := ⟨w.heap.size, 0, none⟩) (by simp) (.int .i64 (cellOf m2))).setCell (p := ⟨w.heap.size, 1, none⟩) (by simp) (.int .i64 0)) (fun x hx hm => by have := hlow x hx; rw [List.mem_singleton.1 hm] at this; omega)
      clear p0 p1 g0 g1 bP tw rw1
      generalize (w1.setCell ⟨w.heap.size, 0, none⟩ (.int .i64 (cellOf m2))).setCell ⟨w.heap.size, 1, none⟩ (.int .i64 0) = w2 at *
      have z2 := bP2.lt
      have HP := Lib.hid (And.intro bP2 (And.intro tw2 hlow))
      have hal := HD1.out.short
      have HR := Lib.hid rw2
      clear bP2 tw2 rw2 hlow
      go_wp2_with (at_builtin; refine wpList_append_own_at _ rfl _ _ 66 rfl (w.heap.size + 1) 5 i0 (.int .u8 0) 1 1 Tryz.underlying66 hi hz0 hz1 hz2 rfl (by decide) _ _ _ rfl (HR.out.alloc _) ⟨w2.heap.size, 0, none⟩ 1 1 [.int .u8 (c.toNat : Int)] rfl rfl ?qc2 ?qc3 ?qc4 ?qc5 ?qc6 ?_)
      case qc2 =>
        intro j u hj
        rw [add_off, Nat.zero_add]
        exact ((Blk.new w2 5 #[.int .u8 (c.toNat : Int)]).cell j).trans (by simpa using hj)
      case qc3 => simp [Value.oneCell']
      case qc4 => unfold maxLen; omega
      case qc5 => omega
      case qc6 => simp; omega
      intro v' w3 hown hgr hnil hloc
      obtain ⟨a3, c3, rfl⟩ := own_slice hown
      obtain ⟨bP2, tw2, hlow⟩ := HP.out
      have bP3 := (bP2.alloc (.cells #[.int .u8 (c.toNat : Int)] 5)).grown hgr (fun e => by have := hlow w.heap.size (rowOf_mem.2 e.symm); omega)
      have tw3 : Touch [] w w3 := (tw2.alloc (.cells #[.int .u8 (c.toNat : Int)] 5)).grown hgr (fun k hk => .inr (by have := hlow k (rowOf_mem.2 hk); omega))
      have hrow : w3.ownsRow (w.heap.size + 1) 5 1 (.slice a3 (acc.length + 1) c3) (acc ++ [c]).length (bytesV (numsU (acc ++ [c]))) := by
        have e : bytesV (numsU (acc ++ [c])) = bytesV (numsU acc) ++ [.int .u8 (c.toNat : Int)] := by simp [bytesV, numsU]
        rw [e, List.length_append]
        exact hown
      have p0 := bP3.cell 0
      have p1 := bP3.cell 1
      have heq := fun W => pair_neq (cellOf m2) 0 0 0 W
      rw [cell_nil m2 hm2lt] at heq
      have hgd := pair_guard
      have hB0' : 0 < B := by omega
      have HB := Lib.hid (And.intro bP3 (And.intro tw3 hrow))
      clear bP2 tw2 hlow bP3 tw3 hrow hown hgr hnil hloc
      have hal1 : acc.length + 1 ≤ 64 := by
        have h1 := HD1.out.small
        rcases Nat.lt_or_ge acc.length 64 with h | h
        · exact h
        · rw [show 64 - acc.length = 0 by omega, Nat.pow_zero] at h1
          rcases HD1.out.live rfl with h2 | h2
          · rw [h2] at h; simp at h
          · omega
      by_cases hz : m2 = 0
      · rw [decide_eq_true hz] at heq
        have hmB : m < B := by
          have := HM2.out
          rw [hz] at this
          exact (Nat.div_eq_zero_iff_lt hB0').1 this
        have HF : Hid (DigLoop w B n (acc ++ [c]) m2 false (.slice a3 (acc.length + 1) c3) w3) := by
          have ht := HD1.out.text
          refine ⟨HB.out.2.2, HB.out.1, HB.out.2.1, ?_, by simpa using hal1, fun h => by simp at h, ?_⟩
          · rw [hz]; exact Nat.two_pow_pos _
          · rw [ht, if_pos rfl, baseL_last B m hmB, if_neg (by simp), ← HC.out, Nat.mod_eq_of_lt hmB]
            simp
        clear hz hmB HB
        go_wp2_with fail
        exact ⟨⟨_, _, false, rfl, HF.out⟩, by show 65 - (acc.length + 1) < 65 - acc.length; omega⟩
      · rw [decide_eq_false hz] at heq
        have hBm : B ≤ m := by
          rcases Nat.lt_or_ge m B with h | h
          · exact absurd (by rw [← HM2.out, Nat.div_eq_of_lt h]) hz
          · exact h
        have HF : Hid (DigLoop w B n (acc ++ [c]) m2 true (.slice a3 (acc.length + 1) c3) w3) := by
          have ht := HD1.out.text
          have h1 := HD1.out.small
          refine ⟨HB.out.2.2, HB.out.1, HB.out.2.1, ?_, by simpa using hal1, fun _ => .inr hz, ?_⟩
          · rw [List.length_append, List.length_singleton]
            rw [show 64 - acc.length = (64 - (acc.length + 1)) + 1 by omega, Nat.pow_succ] at h1
            rw [← HM2.out]
            have h2 : m / B ≤ m / 2 := Nat.div_le_div_left hB0 (by omega)
            omega
          · rw [ht, if_pos rfl, if_pos rfl, baseL_more B m hB0 hBm, HM2.out, HC.out]
            simp
        clear hz hBm HB
        go_wp2_with fail
        exact ⟨⟨_, _, true, rfl, HF.out⟩, by show 65 - (acc.length + 1) < 65 - acc.length; omega⟩

theorem signedS (n B : Nat) (hn : n < 18446744073709551616) (hB0 : 2 ≤ B) (hB : B ≤ 36) (w : World) :
    Calls Tryz.prog 232 #[.agg #[.int .i64 (cellOf n), .int .i64 0], .int .i64 (B : Int)] w fun e w' => e = .returned (.string ⟨(baseL B n).toArray⟩) ∧ Touch [] w w' := by
  have hT := fun W => textS n B hn hB0 hB W
  obtain ⟨c, hc⟩ : ∃ c : Int, cellOf n = c := ⟨_, rfl⟩
  rw [hc] at hT ⊢
  clear hc
  go_enter Tryz.func232, Tryz.ntmps232
  go_wp2_with fail
  refine (hT _).mono ?_
  rintro _ w1 ⟨rfl, t1⟩
  clear hT
  go_wp2_with fail
  go_ret
  exact ⟨rfl, ((Touch.refl [] w).alloc _).trans t1 (by simp)⟩
end Go.Proofs.YtkbchpaofmlhgaaGreatDoor
