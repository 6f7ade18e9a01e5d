/- All digits of a number; the end of it. -/
import Derived.Test.YtkbchpaofmlhgaaGreatDoorHold2
import Derived.Test.YtkbchpaofmlhgaaGreatDoorPKeep
import Derived.Test.YtkbchpaofmlhgaaGreatDoorMemBase
namespace Go.Proofs.YtkbchpaofmlhgaaGreatDoor
open Go.RowKit

/-- a state, beside blocks that are kept -/
def Kept (W : World) (s : Nat) (F K : List Nat) (w : World) (U : PS) : Prop := ∃ F', StateAt w s F' U ∧ Touch F W w ∧ Sub W F F' ∧ ∀ x ∈ K, x ∉ F' ∧ x < w.heap.size
section
variable {W w w' : World} {s : Nat} {F K : List Nat} {S U U' : PS}
theorem Kept.quiet (h : Kept W s F K w U) (t : Touch [] w w') : Kept W s F K w' U := by
  obtain ⟨F', h1, h2, h3, h4⟩ := h
  exact ⟨F', h1.quiet t, h2.trans t (by simp), h3, fun x hx => ⟨(h4 x hx).1, Nat.lt_of_lt_of_le (h4 x hx).2 t.size⟩⟩
theorem Kept.size (h : Kept W s F K w U) : W.heap.size ≤ w.heap.size := by
  obtain ⟨F', h1, h2, h3, h4⟩ := h
  exact h2.size
theorem Kept.more {b : Nat} (h : Kept W s F K w U) (t : Touch [] w w') (hb : w.heap.size ≤ b) (hlt : b < w'.heap.size) : Kept W s F (b :: K) w' U := by
  have hq := h.quiet t
  obtain ⟨F', h1, h2, h3, h4⟩ := h
  refine ⟨F', h1.quiet t, h2.trans t (by simp), h3, fun x hx => ?_⟩
  rcases List.mem_cons.1 hx with rfl | hx
  · exact ⟨fun hm => by have := h1.lt _ hm; omega, hlt⟩
  · exact ⟨(h4 x hx).1, Nat.lt_of_lt_of_le (h4 x hx).2 t.size⟩
theorem Kept.own {b : Nat} (h : Kept W s F K w U) (hb : b ∈ K) (hW : W.heap.size ≤ b) (t : Touch [b] w w') : Kept W s F K w' U := by
  obtain ⟨F', h1, h2, h3, h4⟩ := h
  refine ⟨F', ?_, h2.trans t (fun g hg => .inr (by rw [List.mem_singleton.1 hg]; exact hW)), h3, fun x hx => ⟨(h4 x hx).1, Nat.lt_of_lt_of_le (h4 x hx).2 t.size⟩⟩
  obtain ⟨FS, ov, mv, hp, rfl⟩ := h1
  exact ⟨FS, ov, mv, hp.quiet t (fun x hx hm => (h4 b hb).1 (by rw [← List.mem_singleton.1 hm]; exact hx)), rfl⟩
theorem Kept.step {P : Program} {f : FuncId} {args : Array Value} {e0 : Ending} (h : Kept W s F K w U) (hC : ∀ F', StateAt w s F' U → Calls P f args w fun e w' => e = e0 ∧ Done w s F' U U' w') :
    Calls P f args w fun e w' => e = e0 ∧ Kept W s F K w' U' ∧ On K w w' := by
  obtain ⟨F1, h1, h2, h3, h4⟩ := h
  refine (hC F1 h1).mono ?_
  rintro _ w' ⟨rfl, F2, k1, _, k2, k3⟩
  refine ⟨rfl, ⟨F2, k1, h2.trans k2 (fun g hg => h3 g hg), Sub.trans h3 k3 h2.size, fun x hx => ⟨fun hm => ?_, Nat.lt_of_lt_of_le (h4 x hx).2 k2.size⟩⟩, fun x hx => k2.block x (h4 x hx).2 (h4 x hx).1⟩
  rcases k3 x hm with hm | hm
  · exact (h4 x hx).1 hm
  · have := (h4 x hx).2; omega
theorem Kept.done (h : Kept W s F K w U) (hs : PS.same S U) : Done W s F S U w := by
  obtain ⟨F', h1, h2, h3, _⟩ := h
  exact ⟨F', h1, hs, h2, h3⟩
end
/-- digits, the last one first -/
def digL (B n : Nat) : List Int := (numsU (baseL B n)).reverse
theorem digL_last (B n : Nat) (h : n < B) : digL B n = [((digC n).toNat : Int)] := by
  unfold digL
  rw [baseL_last B n h]
  rfl
theorem digL_more (B n : Nat) (h2 : 2 ≤ B) (h : B ≤ n) : digL B n = ((digC (n % B)).toNat : Int) :: digL B (n / B) := by
  unfold digL
  rw [baseL_more B n h2 h]
  simp [numsU]
theorem digL_len (B n : Nat) : (digL B n).length = (baseL B n).length := by simp [digL, numsU]
def numAt (w : World) (p : Nat) : Nat := match w.cell? ⟨p, 0, none⟩ with
  | some (.int _ v) => (v % 18446744073709551616).toNat
  | _ => 0
theorem numAt_pair {w : World} {p m : Nat} {y : Value} (h : Blk w p 38 #[.int .i64 (cellOf m), y]) (hm : m < 18446744073709551616) : numAt w p = m := by
  unfold numAt
  rw [h.cell 0]
  show (cellOf m % 18446744073709551616).toNat = m
  unfold cellOf
  split <;> omega
/-- how the digits stand: of what number more are to be made -/
structure DigR (W : World) (s g1 g2 p : Nat) (F : List Nat) (S : PS) (B n : Nat) (more : Bool) (wr : World) (m : Nat) (acc : List Int) : Prop where
  kept : Kept W s F [p, g1, g2] wr { S with made := S.made ++ acc }
  pair : Blk wr p 38 #[.int .i64 (cellOf m), .int .i64 0]
  b1 : Blk wr g1 24 #[.pointer (some ⟨s, 0, none⟩)]
  b2 : Blk wr g2 4 #[.bool true]
  small : m < 18446744073709551616
  text : digL B n = acc ++ (if more then digL B m else [])
  stop : more = false → m = 0
set_option maxRecDepth 100000 in
set_option maxHeartbeats 3200000 in
theorem digits_clo (W : World) (s g1 g2 ad c n B : Nat) (F : List Nat) (S : PS) (hS : StateAt W s F S) (hok : S.ok) (hB : S.base = B) (hB0 : 2 ≤ B) (hB1 : B ≤ 36) (hn : n < 18446744073709551616) (hlen : S.made.length + (digL B n).length ≤ 200)
    (hg1 : g1 ∉ F) (hg2 : g2 ∉ F) (b1 : Blk W g1 24 #[.pointer (some ⟨s, 0, none⟩)]) (b2 : Blk W g2 4 #[.bool true]) (h0 : W.cell? ⟨ad, 0, none⟩ = some (.int .i64 (cellOf n))) (h1 : W.cell? ⟨ad, 1, none⟩ = some (.int .i64 0)) :
    Calls Tryz.prog 233 #[.slice (some ⟨ad, 0, none⟩) 2 c, .pointer (some ⟨g1, 0, none⟩), .pointer (some ⟨g2, 0, none⟩)] W (ActDone W s F S (([0, 0], 0), { S with made := S.made ++ digL B n })) := by
  have hBa := Base_ok hS hok.2.2.1 (by rw [hB]; omega)
  rw [hB] at hBa
  have hk0 : Kept W s F [g1, g2] W S := ⟨F, hS, Touch.refl _ _, Sub.refl _ _, fun x hx => by
    simp only [List.mem_cons, List.not_mem_nil, or_false] at hx
    rcases hx with rfl | rfl
    · exact ⟨hg1, b1.lt⟩
    · exact ⟨hg2, b2.lt⟩⟩
  have d0 := b1.cell 0
  have s0 : ∃ mv, W.cell? ⟨s, 3, none⟩ = some mv ∧ ∃ a cap, mv = .slice a S.made.length cap := by
    obtain ⟨FS, ov, mv, hp, _⟩ := hS
    exact ⟨mv, hp.blk.cell 3, own_slice hp.made.1⟩
  obtain ⟨mv, s3, ma, mc, rfl⟩ := s0
  obtain ⟨ml, hml⟩ : ∃ ml, S.made.length = ml := ⟨_, rfl⟩
  rw [hml] at s3 hlen
  have hst := fun m (hm : m < 18446744073709551616) W => stepS m B hm hB0 hB1 W
  obtain ⟨q, hq⟩ : ∃ q, cellOf n = q := ⟨_, rfl⟩
  rw [hq] at h0
  have HQ := Lib.hid hq
  have HH := Lib.hid (And.intro hk0 (And.intro b1 (And.intro b2 (And.intro hml hlen))))
  clear hq hk0 hS hg1 hg2 b1 b2 hok hB hml hlen
  go_enter Tryz.func233, Tryz.ntmps233
  go_wp2_with fail
  refine hBa.mono ?_
  rintro _ w1 ⟨rfl, t1⟩
  clear hBa d0
  have d1 := (HH.out.2.1.touch t1.drew (by simp)).cell 0
  have s1 := cell_quiet t1.drew s3
  have hA := fun w (t : Touch [] W w) => a_any ad 2 c q 0 w (Nat.le_refl _) (cell_quiet t h0) (cell_quiet t h1)
  have HT := Lib.hid t1
  clear t1
  go_upto_region 2 with fail
  go_cut [8, 9] from 17 to 23 (fun pv nv wx => ∃ p, pv = .pointer (some ⟨p, 0, none⟩) ∧ nv = .int .i64 (ml : Int) ∧ Blk wx p 38 #[.int .i64 q, .int .i64 0] ∧ W.heap.size ≤ p ∧ Touch [] W wx)
  case first =>
    have HG1 : Hid (g1 < w1.heap.size) := (HH.out.2.1.touch HT.out (by simp)).lt
    have HG2 : Hid (s < w1.heap.size) := World.block_lt_of_cell? _ _ s1
    have e1 := fun o => cell_quiet (((Touch.refl [] w1).alloc o).drew) ((HH.out.2.1.touch HT.out (by simp)).cell 0)
    have f1 := fun o => cell_quiet (((Touch.refl [] w1).alloc o).drew) (cell_quiet HT.out s3)
    go_region_with (go_at_call 108; refine (hA _ (by first | exact HT.out.drew | exact HT.out.drew.alloc _)).mono ?_; rintro _ w2 ⟨rfl, t2⟩; have T2 := Touch.trans (by first | exact HT.out.drew | exact HT.out.drew.alloc _) t2 (by simp); have d2 := (HH.out.2.1.touch T2 (by simp)).cell 0; have s2 := cell_quiet T2 s3; have e2 := fun o => cell_quiet ((Touch.refl [] w2).alloc o) d2; have f2 := fun o => cell_quiet ((Touch.refl [] w2).alloc o) s2; try (have bP := ((Blk.new w1 38 #[.int .i64 0, .int .i64 0]).drew).touch t2 (by simp)); try (have p0 := bP.cell 0); try (have p1 := bP.cell 1); try (have z0 := bP.frozen 0); try (have z1 := bP.frozen 1); try (have d3 := fun i u j v => cell_keep (((Touch.refl [w1.heap.size] w2).setCell (p := ⟨w1.heap.size, i, none⟩) (by simp) u).setCell (p := ⟨w1.heap.size, j, none⟩) (by simp) v) d2 (fun hm => absurd (List.mem_singleton.1 hm) (Nat.ne_of_lt HG1.out))); try (have s3' := fun i u j v => cell_keep (((Touch.refl [w1.heap.size] w2).setCell (p := ⟨w1.heap.size, i, none⟩) (by simp) u).setCell (p := ⟨w1.heap.size, j, none⟩) (by simp) v) s2 (fun hm => absurd (List.mem_singleton.1 hm) (Nat.ne_of_lt HG2.out))))
    all_goals (go_wp2_with fail; go_meet; first | exact ⟨_, rfl, rfl, Blk.new w2 _ _, T2.size, T2.alloc _⟩ | exact ⟨_, rfl, rfl, bP.two_set _ _, HT.out.size, (T2.setCell (.inr HT.out.size) _).setCell (.inr HT.out.size) _⟩)
  case rest =>
    obtain ⟨p, rfl, rfl, bP, hWp, tc⟩ := hcut
    have HD : Hid (DigR W s g1 g2 p F S B n true wc n []) := ⟨by
      have hk := HH.out.1.more tc hWp bP.lt
      rwa [show ({ S with made := S.made ++ [] } : PS) = S from by rw [List.append_nil]], by rw [HQ.out]; exact bP, HH.out.2.1.touch tc (by simp), HH.out.2.2.1.touch tc (by simp), hn, by simp, fun h => by simp at h⟩
    have HW := Lib.hid hWp
    have HG : Hid (g1 ≠ p ∧ g2 ≠ p) := ⟨fun e => by have := HH.out.2.1.lt; omega, fun e => by have := HH.out.2.2.1.lt; omega⟩
    clear hA s3 h0 h1 d1 s1 bP hWp tc
    go_wp2_with fail
    go_loopw [7, 10] (fun ev mv wr => ∃ more m acc, ev = .int .i64 0 ∧ mv = .bool more ∧ DigR W s g1 g2 p F S B n more wr m acc) (fun _ mv wr => 2 * numAt wr p + (match mv with | .bool true => 1 | _ => 0))
    case atStart => exact ⟨true, n, [], rfl, rfl, HD.out⟩
    case round =>
      obtain ⟨more, m, acc, rfl, rfl, hD⟩ := hrel
      cases more with
      | false =>
        obtain rfl := hD.stop rfl
        have p0 : wr.cell? ⟨p, 0, none⟩ = some (.int .i64 0) := hD.pair.cell 0
        have p1 : wr.cell? ⟨p, 1, none⟩ = some (.int .i64 0) := hD.pair.cell 1
        have ht := hD.text
        rw [if_neg (by simp), List.append_nil] at ht
        have HF : Hid (Done W s F S { S with made := S.made ++ digL B n } wr) := by
          rw [ht]
          exact hD.kept.done ⟨rfl, rfl, rfl, rfl, rfl, rfl⟩
        clear hD ht
        go_wp2_with fail
        go_ret2
        exact ⟨_, rfl, CellsAt.blk (cs := [0, 0]) (Blk.new wr _ _) 2, HF.out.alloc _⟩
      | true =>
        have hs := hst m hD.small
        obtain ⟨c8, hc8⟩ : ∃ c8, digC (m % B) = c8 := ⟨_, rfl⟩
        obtain ⟨m2, hm2⟩ : ∃ m2, m / B = m2 := ⟨_, rfl⟩
        rw [hc8, hm2] at hs
        have hm2lt : m2 < 18446744073709551616 := by rw [← hm2]; exact Nat.lt_of_le_of_lt (Nat.div_le_self _ _) hD.small
        have HC := Lib.hid (And.intro hc8 hm2)
        have p0 := hD.pair.cell 0
        have p1 := hD.pair.cell 1
        have HD1 := Lib.hid hD
        clear hc8 hm2 hD
        go_wp2_with fail
        refine (hs _).mono ?_
        rintro _ w1 ⟨rfl, t1⟩
        have bP := HD1.out.pair.touch t1 (by simp)
        have HT1 := Lib.hid t1
        clear t1 hs p0 p1
        have p0 := bP.cell 0
        have p1 := bP.cell 1
        have z0 := bP.frozen 0
        have z1 := bP.frozen 1
        go_upto_region 8 with fail
        have bP2 := bP.two_set (.int .i64 (cellOf m2)) (.int .i64 0)
        have hk1 := (HD1.out.kept.quiet HT1.out).own (by simp) HW.out (((Touch.refl [p] w1).setCell (p := ⟨p, 0, none⟩) (by simp) (.int .i64 (cellOf m2))).setCell (p := ⟨p, 1, none⟩) (by simp) (.int .i64 0))
        have tP := ((Touch.refl [p] w1).setCell (p := ⟨p, 0, none⟩) (by simp) (.int .i64 (cellOf m2))).setCell (p := ⟨p, 1, none⟩) (by simp) (.int .i64 0)
        have bb1 := (HD1.out.b1.touch HT1.out (by simp)).touch tP (fun hm => HG.out.1 (List.mem_singleton.1 hm))
        have bb2 := (HD1.out.b2.touch HT1.out (by simp)).touch tP (fun hm => HG.out.2 (List.mem_singleton.1 hm))
        clear p0 p1 z0 z1 bP tP
        generalize (w1.setCell ⟨p, 0, none⟩ (.int .i64 (cellOf m2))).setCell ⟨p, 1, none⟩ (.int .i64 0) = w2 at *
        have d0 := bb1.cell 0
        have hcl : 0 ≤ ((c8.toNat : Nat) : Int) ∧ ((c8.toNat : Nat) : Int) ≤ 255 := by have := c8.toNat_lt; omega
        have hacc : S.made.length + acc.length < 200 := by
          have h1 := HH.out.2.2.2.2
          have h2 := HD1.out.text
          have h3 := HH.out.2.2.2.1
          rw [if_pos rfl] at h2
          have h4 := congrArg List.length h2
          rw [List.length_append] at h4
          have h5 : 1 ≤ (digL B m).length := by
            rcases Nat.lt_or_ge m B with h | h
            · rw [digL_last B m h]; exact Nat.le_refl _
            · rw [digL_more B m hB0 h]; simp
          omega
        have hH := hk1.step (fun F' hS => hold_ok hS (by show (S.made ++ acc).length < 200; rw [List.length_append]; exact hacc) _ hcl)
        have HB2 := Lib.hid (And.intro bP2 (And.intro bb1 bb2))
        clear bP2 bb1 bb2 hk1 hacc hcl
        go_wp2_with fail
        refine hH.mono ?_
        rintro _ w3 ⟨rfl, hk3, on3⟩
        have bP3 := on3.blk (by simp) HB2.out.1
        have bb1 := on3.blk (by simp) HB2.out.2.1
        have bb2 := on3.blk (by simp) HB2.out.2.2
        have d2 := bb2.cell 0
        have p0 := bP3.cell 0
        have p1 := bP3.cell 1
        have heq := fun W => pair_neq (cellOf m2) 0 0 0 W
        rw [cell_nil m2 hm2lt] at heq
        have hgd := pair_guard
        have hk4 : Kept W s F [p, g1, g2] w3 { S with made := S.made ++ (acc ++ [((c8.toNat : Nat) : Int)]) } := by
          have h := hk3
          have e : S.made ++ acc ++ [((c8.toNat : Nat) : Int)] = S.made ++ (acc ++ [((c8.toNat : Nat) : Int)]) := List.append_assoc _ _ _
          rw [← e]
          exact h
        have hnu : numAt wr p = m := numAt_pair HD1.out.pair HD1.out.small
        have hnu3 : numAt w3 p = m2 := numAt_pair bP3 hm2lt
        have HB3 := Lib.hid (And.intro bP3 (And.intro bb1 (And.intro bb2 (And.intro hk4 (And.intro hnu hnu3)))))
        clear bP3 bb1 bb2 hk4 hnu hnu3 hk3 on3 hH d0
        by_cases hz : m2 = 0
        · rw [decide_eq_true hz] at heq
          have hmB : m < B := by
            have := HC.out.2
            rw [hz] at this
            exact (Nat.div_eq_zero_iff_lt (by omega)).1 this
          have HF : Hid (DigR W s g1 g2 p F S B n false w3 m2 (acc ++ [((c8.toNat : Nat) : Int)])) := by
            have ht := HD1.out.text
            refine ⟨HB3.out.2.2.2.1, HB3.out.1, HB3.out.2.1, HB3.out.2.2.1, hm2lt, ?_, fun _ => hz⟩
            rw [ht, if_pos rfl, if_neg (by simp), digL_last B m hmB, ← HC.out.1, Nat.mod_eq_of_lt hmB]
            simp
          clear hz hmB
          go_wp2_with fail
          refine ⟨⟨false, m2, _, rfl, rfl, HF.out⟩, ?_⟩
          have h1 := HB3.out.2.2.2.2.1
          have h2 := HB3.out.2.2.2.2.2
          have h3 := HF.out.stop rfl
          simp only [h1, h2, h3]
          omega
        · rw [decide_eq_false hz] at heq
          have hBm : B ≤ m := by
            rcases Nat.lt_or_ge m B with h | h
            · exact absurd (by rw [← HC.out.2, Nat.div_eq_of_lt h]) hz
            · exact h
          have HF : Hid (DigR W s g1 g2 p F S B n true w3 m2 (acc ++ [((c8.toNat : Nat) : Int)])) := by
            have ht := HD1.out.text
            refine ⟨HB3.out.2.2.2.1, HB3.out.1, HB3.out.2.1, HB3.out.2.2.1, hm2lt, ?_, fun h => by simp at h⟩
            rw [ht, if_pos rfl, if_pos rfl, digL_more B m hB0 hBm, HC.out.1, HC.out.2]
            simp
          have hmm : Hid (m2 < m) := by
            show m2 < m
            rw [← HC.out.2]
            exact Nat.div_lt_self (by omega) (by omega)
          clear hz hBm
          go_wp2_with fail
          refine ⟨⟨true, m2, _, rfl, rfl, HF.out⟩, ?_⟩
          have h1 := HB3.out.2.2.2.2.1
          have h2 := HB3.out.2.2.2.2.2
          have h3 := hmm.out
          simp only [h1, h2]
          omega
end Go.Proofs.YtkbchpaofmlhgaaGreatDoor
