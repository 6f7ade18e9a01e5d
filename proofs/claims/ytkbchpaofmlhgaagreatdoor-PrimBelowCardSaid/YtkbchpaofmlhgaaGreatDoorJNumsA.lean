import Derived.Test.YtkbchpaofmlhgaaGreatDoorJSignA
import Derived.Test.YtkbchpaofmlhgaaGreatDoorJHoldA
import Derived.Test.YtkbchpaofmlhgaaGreatDoorJLiveA
import Derived.Test.YtkbchpaofmlhgaaGreatDoorJLongA
/- Operations on numbers: sign, rot, the telling of a pair, all digits of a pair. -/
namespace Go.Proofs.YtkbchpaofmlhgaaGreatDoor
open Go.RowKit

section
variable {w w' : World} {s : Nat} {S : PS}
/-- rot -/
theorem st_rot {F : List Nat} {rest : List Int} {x y z : Int} (hS : StateAt w s F S) (hst : S.st = rest ++ [x, y, z]) (hl : rest.length ≤ 120) :
    Calls Tryz.prog 14 #[.pointer (some ⟨s, 0, none⟩), .int .i64 32] w fun r w' => r = .returned (.int .i64 0) ∧ ∃ F', StateAt w' s F' { S with st := rest ++ [y, z, x] } ∧ Touch F w w' ∧ Sub w F F' := by
  have hlen : S.st.length = rest.length + 3 := by rw [hst]; simp
  refine st_doS hS (by decide) (by decide) fun FS hk => ?_
  have h := Do_shape w S.k FS S.st hk 32 3 [1, 2, 0] (fun w => Shape_4 w) (by decide) (by decide) (by decide) (by decide) (by decide) (by decide) (by decide) (by omega) (by omega) (by simp; omega)
  have e1 : S.st.length - 3 = rest.length := by omega
  have e2 : S.st.drop rest.length = [x, y, z] := by rw [hst]; simp
  have e3 : S.st.take rest.length = rest := by rw [hst]; simp
  rw [e1, e2, e3] at h
  exact h
end
def signF (l : List Int) (S : PS) : (List Int × Int) × PS := if l.getD 0 0 < 0 then (if S.made.length < 200 then (([], 0), { S with made := S.made ++ [45] }) else (([], -17), S)) else (([], 0), S)
set_option maxHeartbeats 1000000 in
theorem sign_sem : OpSem 106 1 (fun _ _ => True) signF := by
  intro W B s F S t f first cap l lv hok hS hF hfd
  obtain ⟨b, C, hC, hb, hA, hB⟩ := found_says hfd rfl rfl
  obtain ⟨g, _, hg, rfl, rfl, rfl, rfl⟩ := act_open (hA : ActAt C 1 220 154 (.func (.func 184) #[] #[.pointer (some ⟨b, 0, none⟩)]) _ W) (Nat.zero_le _)
  refine ⟨rfl, enters_of Tryz.func220 (by kernel_rfl) rfl, fun hl hpre hc => ?_⟩
  obtain ⟨ad, c, q, e, rfl, cq⟩ := hc.one hl
  subst e
  have b0 := hB.cell 0
  have HH := Lib.hid (And.intro hS hB)
  by_cases hneg : q < 0
  · have key : ∀ (x : Int) (T : PS), (Calls Tryz.prog 183 #[.pointer (some ⟨s, 0, none⟩), .int .u8 45] W fun e w' => e = .returned (.int .i64 x) ∧ Done W s F S T w') → Calls Tryz.prog 184 (#[] ++ #[.slice (some ⟨ad, 0, none⟩) 1 c] ++ #[.pointer (some ⟨b, 0, none⟩)]) W fun e w' => e = .returned (.int .i64 x) ∧ Done W s F S T w' := by
      intro x T hH
      clear hS hB hA hg hfd hc hF
      show Calls Tryz.prog 184 #[.slice (some ⟨ad, 0, none⟩) 1 c, .pointer (some ⟨b, 0, none⟩)] W _
      go_enter Tryz.func184, Tryz.ntmps184
      go_wp2_with fail
      refine hH.mono ?_
      rintro _ w1 ⟨rfl, hd⟩
      have HD := Lib.hid hd
      clear hd hH
      go_wp2_with fail
      go_ret
      exact ⟨rfl, HD.out⟩
    by_cases hlt : S.made.length < 200
    · have e : signF [q] S = (([], 0), { S with made := S.made ++ [45] }) := by unfold signF; rw [List.getD_cons_zero, if_pos hneg, if_pos hlt]
      rw [e]
      exact ActDone.post (tells_clo hg (enters_of Tryz.func184 (by kernel_rfl) rfl) (key 0 _ (hold_ok hS hlt 45 (by decide))))
    · have e : signF [q] S = (([], -17), S) := by unfold signF; rw [List.getD_cons_zero, if_pos hneg, if_neg hlt]
      rw [e]
      refine ActDone.post (tells_clo hg (enters_of Tryz.func184 (by kernel_rfl) rfl) (key (-17) _ ((hold_full hS hlt 45).mono ?_)))
      rintro _ _ ⟨rfl, rfl⟩
      exact ⟨rfl, Done.self hS (Touch.refl _ _)⟩
  · have e : signF [q] S = (([], 0), S) := by unfold signF; rw [List.getD_cons_zero, if_neg hneg]
    rw [e]
    have HD := Lib.hid (Done.self hS (Touch.refl [] W))
    refine ActDone.post (tells_clo hg (enters_of Tryz.func184 (by kernel_rfl) rfl) ?_)
    clear hS hB hA hg hfd hc hF e
    show Calls Tryz.prog 184 #[.slice (some ⟨ad, 0, none⟩) 1 c, .pointer (some ⟨b, 0, none⟩)] W _
    go_enter Tryz.func184, Tryz.ntmps184
    go_wp2_with fail
    go_ret
    exact ⟨rfl, HD.out⟩
/-- a number with its sign as text, and a blank -/
def sgnT (B n : Nat) : ByteArray := ⟨(signedL B n).toArray⟩ ++ ⟨#[32]⟩
theorem signedL_size (B n : Nat) (hB : 2 ≤ B) (hn : n < 340282366920938463463374607431768211456) : (⟨(signedL B n).toArray⟩ : ByteArray).size ≤ 129 := by
  unfold signedL
  split
  · have h := baseL_size B ((340282366920938463463374607431768211456 - n) % 340282366920938463463374607431768211456) hB (Nat.mod_lt _ (by decide))
    simp only [ByteArray.size, List.size_toArray, List.length_cons] at h ⊢
    omega
  · have h := baseL_size B n hB hn
    omega
theorem numberP_ok {w : World} {s : Nat} {F : List Nat} {S : PS} (h : StateAt w s F S) (hok : S.ok) (n B : Nat) (hn : n < 340282366920938463463374607431768211456) (hB : S.base = B) (h2 : 2 ≤ B) (h36 : B ≤ 36) :
    Calls Tryz.prog 176 #[.pointer (some ⟨s, 0, none⟩), .agg (two n)] w fun e w' => e = .returned (.int .i64 0) ∧ Done w s F S { S with out := sayL S.out (sgnT B n) } w' := by
  have hS := fun W => signedP n B hn h2 h36 W
  have hsz := signedL_size B n h2 hn
  unfold sgnT
  obtain ⟨T, hT⟩ : ∃ T : ByteArray, ⟨(signedL B n).toArray⟩ = T := ⟨_, rfl⟩
  rw [hT] at hS hsz ⊢
  clear hT
  unfold two at hS ⊢
  obtain ⟨lo, h1⟩ : ∃ c : Int, pl n = c := ⟨_, rfl⟩
  obtain ⟨hi, h3⟩ : ∃ c : Int, ph n = c := ⟨_, rfl⟩
  rw [h1, h3] at hS ⊢
  clear h1 h3
  have bP := Blk.new w 38 #[.int .i64 lo, .int .i64 hi]
  have tP := (Touch.refl [] w).alloc (.cells #[.int .i64 lo, .int .i64 hi] 38)
  have hBa := Base_ok (h.quiet tP) hok.2.2.1 (by omega)
  rw [hB] at hBa
  have HH := Lib.hid (And.intro h (And.intro hok (And.intro bP tP)))
  clear h hok bP tP hB
  go_enter Tryz.func176, Tryz.ntmps176
  go_wp2_with fail
  refine hBa.mono ?_
  rintro _ w1 ⟨rfl, t1⟩
  have b1 := HH.out.2.2.1.touch t1 (by simp)
  have T1 := HH.out.2.2.2.trans t1 (by simp)
  have p0 := b1.cell 0
  have p1 := b1.cell 1
  have H1 := Lib.hid T1
  clear hBa t1 b1 T1
  go_wp2_with fail
  refine (hS _).mono ?_
  rintro _ w2 ⟨rfl, t2⟩
  have T2 := H1.out.trans t2 (by simp)
  have hSay := PSay_any (HH.out.1.quiet T2) HH.out.2.1.1 (T ++ ⟨#[32]⟩)
  have H2 := Lib.hid T2
  clear hS t2 T2 p0 p1
  go_wp2_with fail
  refine hSay.mono ?_
  rintro _ w3 ⟨F', rfl, k1, k2, k3⟩
  have HD : Hid (Done w s F S { S with out := sayL S.out (T ++ ⟨#[32]⟩) } w3) := ⟨F', k1, ⟨rfl, rfl, rfl, rfl, rfl, rfl⟩, (H2.out.mono (by simp)).trans k2 (fun g hg => .inl hg), k3.lower H2.out.size⟩
  clear hSay k1 k2 k3
  go_wp2_with fail
  go_ret
  exact ⟨rfl, HD.out⟩
theorem numberP_bad {w : World} {s : Nat} {F : List Nat} {S : PS} (h : StateAt w s F S) (hok : S.ok) (lo hi : Int) (hB : ¬ (2 ≤ S.base ∧ S.base ≤ 36)) :
    Calls Tryz.prog 176 #[.pointer (some ⟨s, 0, none⟩), .agg #[.int .i64 lo, .int .i64 hi]] w fun e w' => e = .returned (.int .i64 (-40)) ∧ Touch [] w w' := by
  have tP := (Touch.refl [] w).alloc (.cells #[.int .i64 lo, .int .i64 hi] 38)
  have hBa := Base_bad (h.quiet tP) hok.2.2.1 hB
  have HT := Lib.hid tP
  clear h hok tP hB
  go_enter Tryz.func176, Tryz.ntmps176
  go_wp2_with fail
  refine hBa.mono ?_
  rintro _ w1 ⟨rfl, t1⟩
  clear hBa
  go_wp2_with fail
  go_ret
  exact ⟨rfl, HT.out.trans t1 (by simp)⟩
/-- what a pair that is told makes of the state -/
def ddotF (l : List Int) (S : PS) : (List Int × Int) × PS := if 2 ≤ S.base ∧ S.base ≤ 36 then (([], 0), { S with out := sayL S.out (sgnT S.baseN (b64 (l.getD 1 0) * 18446744073709551616 + b64 (l.getD 0 0))) }) else (([], -40), S)
set_option maxHeartbeats 1000000 in
theorem ddot_sem : OpSem 93 2 (fun l _ => ∃ n : Nat, n < 340282366920938463463374607431768211456 ∧ l = [pl n, ph n]) ddotF := by
  intro W B s F S t f first cap l lv hok hS hF hfd
  obtain ⟨b, C, hC, hb, hA, hB⟩ := found_says hfd rfl rfl
  obtain ⟨g, _, hg, rfl, rfl, rfl, rfl⟩ := act_open (hA : ActAt C 2 220 154 (.func (.func 178) #[] #[.pointer (some ⟨b, 0, none⟩)]) _ W) (Nat.zero_le _)
  refine ⟨rfl, enters_of Tryz.func220 (by kernel_rfl) rfl, fun hl hpre hc => ?_⟩
  obtain ⟨n, hn, rfl⟩ := hpre
  obtain ⟨ad, c, x, y, e, rfl, cx, cy⟩ := hc.two hl
  injection e with e1 e
  injection e with e2 _
  subst e1 e2
  have key : ∀ (x : Int) (T : PS), (∀ w, Touch [] W w → Calls Tryz.prog 176 #[.pointer (some ⟨s, 0, none⟩), .agg (two n)] w fun e w' => e = .returned (.int .i64 x) ∧ Done W s F S T w') → Calls Tryz.prog 178 (#[] ++ #[.slice (some ⟨ad, 0, none⟩) 2 c] ++ #[.pointer (some ⟨b, 0, none⟩)]) W fun e w' => e = .returned (.int .i64 x) ∧ Done W s F S T w' := by
    intro x T hN
    have hA := fun w (t : Touch [] W w) => a_any ad 2 c (pl n) (ph n) w (Nat.le_refl _) (cell_quiet t cx) (cell_quiet t cy)
    unfold two at hN
    have b0 := (hB.touch ((Touch.refl [] W).drew) (by simp)).cell 0
    have HH := Lib.hid hB
    clear hS hB hg hfd hc hF
    show Calls Tryz.prog 178 #[.slice (some ⟨ad, 0, none⟩) 2 c, .pointer (some ⟨b, 0, none⟩)] W _
    go_enter Tryz.func178, Tryz.ntmps178
    go_upto_region 1 with fail
    go_region_with (first | (go_at_call 108; refine (hA _ ((Touch.refl [] W).drew)).mono ?_; rintro _ w1 ⟨rfl, t1⟩; have c1 := (HH.out.touch t1.of_drew (by simp)).cell 0; have T1 := Lib.hid t1.of_drew; clear t1) | (go_at_call 176; refine (hN _ T1.out).mono ?_; rintro _ w2 ⟨rfl, hd⟩; have HD := Lib.hid hd; clear hd))
    all_goals go_wp2_with fail
    all_goals go_ret
    all_goals exact ⟨rfl, HD.out⟩
  by_cases hbase : 2 ≤ S.base ∧ S.base ≤ 36
  · have e : ddotF [pl n, ph n] S = (([], 0), { S with out := sayL S.out (sgnT S.baseN n) }) := by
      unfold ddotF
      rw [if_pos hbase]
      show (([], 0), ({ S with out := sayL S.out (sgnT S.baseN (b64 (ph n) * 18446744073709551616 + b64 (pl n))) } : PS)) = _
      rw [b64_pl, b64_ph n hn, show n / 18446744073709551616 * 18446744073709551616 + n % 18446744073709551616 = n by omega]
    rw [e]
    refine ActDone.post (tells_clo hg (enters_of Tryz.func178 (by kernel_rfl) rfl) (key 0 _ fun w t => (numberP_ok (hS.quiet t) hok n S.baseN hn (by unfold PS.baseN; omega) (by unfold PS.baseN; omega) (by unfold PS.baseN; omega)).mono ?_))
    rintro _ w' ⟨rfl, F', h1, h2, h3, h4⟩
    exact ⟨rfl, F', h1, h2, (t.mono (by simp)).trans h3 (fun g hg => .inl hg), h4.lower t.size⟩
  · have e : ddotF [pl n, ph n] S = (([], -40), S) := by unfold ddotF; rw [if_neg hbase]
    rw [e]
    refine ActDone.post (tells_clo hg (enters_of Tryz.func178 (by kernel_rfl) rfl) (key (-40) _ fun w t => (numberP_bad (hS.quiet t) hok (pl n) (ph n) hbase).mono ?_))
    rintro _ w' ⟨rfl, t2⟩
    exact ⟨rfl, Done.self hS (t.trans t2 (by simp))⟩
end Go.Proofs.YtkbchpaofmlhgaaGreatDoor

/- More operations of prim's memory map. Printed by memops.py. -/
namespace Go.Proofs.YtkbchpaofmlhgaaGreatDoor
open Go.RowKit

set_option maxHeartbeats 1000000 in
theorem put_sem : OpSem 74 2 (fun l S => ∃ (x : Int) (p : Nat), l = [x, (p : Int)] ∧ p + 8 ≤ S.n ∧ p % 8 = 0) (fun l S => (([], 0), { S with bs := putF S.bs (l.getD 1 0).toNat (l.getD 0 0) 8 })) := by
  intro W B s F S t f first cap l lv hok hS hF hfd
  obtain ⟨b, C, hC, hb, hA, hB⟩ := found_memory hfd rfl rfl
  obtain ⟨g, _, hg, rfl, rfl, rfl, rfl⟩ := act_open (hA : ActAt C 2 220 154 (.func (.func 143) #[] #[.pointer (some ⟨b, 0, none⟩)]) _ W) (Nat.zero_le _)
  refine ⟨rfl, enters_of Tryz.func220 (by kernel_rfl) rfl, fun hl hpre hc => ActDone.post (tells_clo hg (enters_of Tryz.func143 (by kernel_rfl) rfl) ?_)⟩
  obtain ⟨x, p, rfl, hp, h8⟩ := hpre
  obtain ⟨ad, c, q0, q1, e, rfl, cq0, cq1⟩ := hc.two hl
  injection e with e1 e
  injection e with e2 e
  subst e1 e2
  clear e
  show Calls Tryz.prog _ _ W fun e w' => e = .returned (.int .i64 0) ∧ Done W s F S { S with bs := putF S.bs p x 8 } w'
  have hG := MPut_ok (hS.mem.quiet ((Touch.refl [] W).drew)) p x hp h8
  have HH := Lib.hid (And.intro hS hB)
  have b0 := (hB.touch ((Touch.refl [] W).drew) (by simp)).cell 0
  have x0 := cell_quiet ((Touch.refl [] W).drew) cq0
  have x1 := cell_quiet ((Touch.refl [] W).drew) cq1
  clear hS hB hA hg hfd hc hF cq0 cq1
  show Calls Tryz.prog 143 #[.slice (some ⟨ad, 0, none⟩) 2 c, .pointer (some ⟨b, 0, none⟩)] W _
  go_enter Tryz.func143, Tryz.ntmps143
  go_upto_region 1 with fail
  go_region_with (go_at_call 69; refine hG.mono ?_; rintro _ w1 ⟨rfl, hm, t1⟩; have HD : Hid (Done W s F S _ w1) := Done.mem HH.out.1 hm (t1.of_drew.mono (fun g hg => .inl (by simp only [List.mem_singleton] at hg; subst hg; simp))); clear hm t1)
  all_goals go_wp2_with fail
  all_goals go_ret
  all_goals exact ⟨rfl, HD.out⟩
end Go.Proofs.YtkbchpaofmlhgaaGreatDoor

/- PrimNumbers: what its walk needs. -/
namespace Go.Proofs.YtkbchpaofmlhgaaGreatDoor
open Go.RowKit

theorem digits_semP : OpSem 104 2 (fun l S => ∃ n B : Nat, l = [pl n, ph n] ∧ n < 340282366920938463463374607431768211456 ∧ S.base = B ∧ 2 ≤ B ∧ B ≤ 36 ∧ S.made.length + (digL B n).length ≤ 200) (fun l S => (([0, 0], 0), { S with made := S.made ++ digL S.base.toNat (b64 (l.getD 1 0) * 18446744073709551616 + b64 (l.getD 0 0)) })) := by
  intro W B' s F S t f first cap l lv hok hS hF hfd
  obtain ⟨b, C, hC, hb, hA, hB⟩ := found_says hfd rfl rfl
  obtain ⟨g1, g2, k1, k2, b1, b2, e⟩ := (hA : DigAct C s true _ W)
  injection e with e
  injection e with e
  injection e with e1 e
  injection e1 with _ e1
  injection e with e2 _
  injection e2 with e2 e3 e4
  injection e2 with e2
  subst e1 e2 e3 e4
  refine ⟨rfl, enters_of Tryz.func233 (by kernel_rfl) rfl, fun hl hpre hc => ActDone.post ?_⟩
  obtain ⟨n, B, rfl, hn, hbase, hB0, hB1, hlen⟩ := hpre
  obtain ⟨ad, c, x, y, e, rfl, cx, cy⟩ := hc.two hl
  injection e with e1 e
  injection e with e2 _
  subst e1 e2
  have e : b64 (ph n) * 18446744073709551616 + b64 (pl n) = n := by rw [b64_pl, b64_ph n hn]; omega
  show Calls Tryz.prog _ _ W (ActDone W s F S (([0, 0], 0), { S with made := S.made ++ digL S.base.toNat (b64 (ph n) * 18446744073709551616 + b64 (pl n)) }))
  rw [e, hbase, Int.toNat_natCast]
  exact digits_cloP W s g1 g2 ad c n B F S hS hok hbase hB0 hB1 hn hlen (fun hm => by have := hF _ hm; omega) (fun hm => by have := hF _ hm; omega) b1 b2 cx cy
/-- an operation that goes right, in any world; some, one behind the other -/
def Goes (s : Nat) (op : Int) (S T : PS) : Prop := ∀ (w : World) (F : List Nat), StateAt w s F S → Calls Tryz.prog 14 #[.pointer (some ⟨s, 0, none⟩), .int .i64 op] w fun e w' => e = .returned (.int .i64 0) ∧ ∃ F', StateAt w' s F' T ∧ Touch F w w' ∧ Sub w F F'
def Going (s : Nat) : List Int → PS → PS → Prop
  | [], S, T => S = T
  | op :: r, S, T => ∃ U, Goes s op S U ∧ Going s r U T
theorem LiveK.own {w0 w w' : World} {s b : Nat} {S : PS} {K : List Nat} (h : LiveK w0 w s S K) (hb : b ∈ K) (hW : w0.heap.size ≤ b) (t : Touch [b] w w') : LiveK w0 w' s S K := by
  obtain ⟨F, h1, h2, h3, h4⟩ := h
  refine ⟨F, ?_, h2, h3.trans t (fun g hg => .inr (by rw [List.mem_singleton.1 hg]; exact hW)), fun x hx => ⟨(h4 x hx).1, Nat.lt_of_lt_of_le (h4 x hx).2 t.size⟩⟩
  obtain ⟨FS, ov, mv, hp, rfl⟩ := h1
  exact ⟨FS, ov, mv, hp.quiet t (fun x hx hm => (h4 b hb).1 (by rw [← List.mem_singleton.1 hm]; exact hx)), rfl⟩
section
variable {s : Nat} {S : PS}
theorem goes_digits (hok : S.ok) (rest : List Int) (n B : Nat) (hn : n < 340282366920938463463374607431768211456) (hst : S.st = rest ++ [pl n, ph n]) (hb : S.base = (B : Int)) (hB0 : 2 ≤ B) (hB1 : B ≤ 36) (hlen : S.made.length + (digL B n).length ≤ 200) (hl : rest.length ≤ 100) : Goes s 104 S { S with st := rest ++ [0, 0], made := S.made ++ digL B n } := fun w F hS => by
  have e : b64 (ph n) * 18446744073709551616 + b64 (pl n) = n := by rw [b64_pl, b64_ph n hn]; omega
  exact st_doP (T := { S with st := rest, made := S.made ++ digL B n }) hS digits_semP (by decide) (by decide) (by decide) (by decide) hok rest [pl n, ph n] [0, 0] hst rfl (by rw [hst]; simp; omega) ⟨n, B, rfl, hn, hb, hB0, hB1, hlen⟩ (by
    show (([0, 0], 0), ({ S with st := rest, made := S.made ++ digL (PS.base { S with st := rest }).toNat (b64 (([pl n, ph n] : List Int).getD 1 0) * 18446744073709551616 + b64 (([pl n, ph n] : List Int).getD 0 0)) } : PS)) = _
    rw [show ([pl n, ph n] : List Int).getD 1 0 = ph n from rfl, show ([pl n, ph n] : List Int).getD 0 0 = pl n from rfl, e, show PS.base { S with st := rest } = S.base from rfl, hb]
    rfl) rfl (by simp; omega)
theorem goes_rot (rest : List Int) (x y z : Int) (hst : S.st = rest ++ [x, y, z]) (hl : rest.length ≤ 100) : Goes s 32 S { S with st := rest ++ [y, z, x] } := fun w F hS => st_rot hS hst (by omega)
theorem goes_sign (hok : S.ok) (rest : List Int) (x : Int) (hst : S.st = rest ++ [x]) (hm : S.made.length < 200) (hl : rest.length ≤ 100) : Goes s 106 S { S with st := rest, made := S.made ++ (if x < 0 then [45] else []) } := fun w F hS => by
  have h := st_doP (T := { S with st := rest, made := S.made ++ (if x < 0 then [45] else []) }) hS sign_sem (by decide) (by decide) (by decide) (by decide) hok rest [x] [] hst rfl (by rw [hst]; simp; omega) trivial (by
    unfold signF
    rw [List.getD_cons_zero]
    by_cases hx : x < 0
    · rw [if_pos hx, if_pos hx, if_pos hm]
    · rw [if_neg hx, if_neg hx, List.append_nil]) rfl (by simp; omega)
  rwa [List.append_nil] at h
theorem goes_end (hok : S.ok) (hn : S.n = 1024) (rest : List Int) (x y : Int) (hst : S.st = rest ++ [x, y]) (hl : rest.length ≤ 100) : Goes s 107 S { S with st := rest ++ [((768 - S.made.length : Nat) : Int), (S.made.length : Int)], bs := wrtL S.bs (768 - S.made.length) S.made.reverse } := fun w F hS =>
  st_doP (T := { S with st := rest, bs := wrtL S.bs (768 - S.made.length) S.made.reverse }) hS end_sem (by decide) (by decide) (by decide) (by decide) hok rest [x, y] [((768 - S.made.length : Nat) : Int), (S.made.length : Int)] hst rfl (by rw [hst]; simp; omega) hn rfl rfl (by simp; omega)
theorem goes_type (hok : S.ok) (rest : List Int) (p k : Nat) (hst : S.st = rest ++ [(p : Int), (k : Int)]) (hpk : p + k ≤ S.n) (hl : rest.length ≤ 100) : Goes s 98 S { S with st := rest, out := sayL S.out (S.text p k) } := fun w F hS => by
  have h := st_doP (T := { S with st := rest, out := sayL S.out (S.text p k) }) hS type_sem (by decide) (by decide) (by decide) (by decide) hok rest [(p : Int), (k : Int)] [] hst rfl (by rw [hst]; simp; omega) ⟨p, k, rfl, hpk⟩ rfl rfl (by simp; omega)
  rwa [List.append_nil] at h
theorem goes_put (hok : S.ok) (rest : List Int) (x : Int) (p : Nat) (hst : S.st = rest ++ [x, (p : Int)]) (hp : p + 8 ≤ S.n) (h8 : p % 8 = 0) (hl : rest.length ≤ 100) : Goes s 74 S { S with st := rest, bs := putF S.bs p x 8 } := fun w F hS => by
  have h := st_doP (T := { S with st := rest, bs := putF S.bs p x 8 }) hS put_sem (by decide) (by decide) (by decide) (by decide) hok rest [x, (p : Int)] [] hst rfl (by rw [hst]; simp; omega) ⟨x, p, rfl, hp, h8⟩ rfl rfl (by simp; omega)
  rwa [List.append_nil] at h
theorem goes_begin (hok : S.ok) (hl : S.st.length ≤ 100) : Goes s 102 S { S with made := [] } := fun w F hS => by
  have h := st_doP (T := { S with made := [] }) hS begin_sem (by decide) (by decide) (by decide) (by decide) hok S.st [] [] (by simp) rfl (by omega) trivial rfl rfl (by simp; omega)
  rwa [List.append_nil] at h
end
theorem signedL_digits (B N : Nat) (hN : N < 340282366920938463463374607431768211456) : ((digL B (if ph N < 0 then (340282366920938463463374607431768211456 - N) % 340282366920938463463374607431768211456 else N)) ++ (if ph N < 0 then [45] else [])).reverse = numsU (signedL B N) := by
  have h := ph_neg N hN
  by_cases hn : ph N < 0
  · rw [if_pos hn, if_pos hn]
    unfold signedL digL
    rw [if_pos (h.1 hn), List.reverse_append, List.reverse_reverse]
    rfl
  · rw [if_neg hn, if_neg hn, List.append_nil]
    unfold signedL digL
    rw [if_neg (fun hh => hn (h.2 hh)), List.reverse_reverse]
theorem goes_ddot {s : Nat} {S : PS} (hok : S.ok) (rest : List Int) (n : Nat) (hn : n < 340282366920938463463374607431768211456) (hst : S.st = rest ++ [pl n, ph n]) (hb : 2 ≤ S.base ∧ S.base ≤ 36) (hl : rest.length ≤ 100) : Goes s 93 S { S with st := rest, out := sayL S.out (sgnT S.baseN n) } := fun w F hS => by
  have e : b64 (ph n) * 18446744073709551616 + b64 (pl n) = n := by rw [b64_pl, b64_ph n hn]; omega
  have h := st_doP (T := { S with st := rest, out := sayL S.out (sgnT S.baseN n) }) hS ddot_sem (by decide) (by decide) (by decide) (by decide) hok rest [pl n, ph n] [] hst rfl (by rw [hst]; simp; omega) ⟨n, hn, rfl⟩ (by
    unfold ddotF
    rw [if_pos (show 2 ≤ PS.base { S with st := rest } ∧ PS.base { S with st := rest } ≤ 36 from hb)]
    show (([], 0), ({ S with st := rest, out := sayL S.out (sgnT (PS.baseN { S with st := rest }) (b64 (ph n) * 18446744073709551616 + b64 (pl n))) } : PS)) = _
    rw [e]
    rfl) rfl (by simp; omega)
  rwa [List.append_nil] at h
theorem sayL_room {out : List Int} {t : ByteArray} (h : out.length + t.size ≤ 4000) : sayL out t = out ++ strL t := by
  unfold sayL
  rw [List.take_of_length_le]
  rw [strL_len]
  omega
/-- what is known of the state behind the base -/
structure NumAt (S : PS) (base : Int) : Prop where
  ok : S.ok
  n : S.n = 1024
  len : S.bs.length = 1024
  base : S.base = base
  out : S.out = []
  made : S.made = []
  st : S.st = []
theorem digL_size (B n : Nat) (hB : 2 ≤ B) (hn : n < 340282366920938463463374607431768211456) : (digL B n).length ≤ 128 := by
  rw [digL_len]
  exact baseL_len B hB 127 n hn
theorem numbers_going {s : Nat} {S : PS} {N M B : Nat} (hA : NumAt S (B : Int)) (hB : 2 ≤ B ∧ B ≤ 36) (hN : N < 340282366920938463463374607431768211456) (hM : M < 340282366920938463463374607431768211456 ∧ (if ph N < 0 then (340282366920938463463374607431768211456 - N) % 340282366920938463463374607431768211456 else N) = M) :
    ∃ T : PS, Going s [104, 32, 106, 107, 98] { S with st := [ph N, pl M, ph M], out := sayL S.out (sgnT B N), made := [] } T ∧ T.st = [] ∧ strOfNums T.out = (⟨(signedL B N).toArray⟩ ++ ⟨#[32]⟩) ++ ⟨(signedL B N).toArray⟩ := by
  have hD := digL_size B M hB.1 hM.1
  obtain ⟨o1, ho1⟩ : ∃ o1, sayL S.out (sgnT B N) = o1 := ⟨_, rfl⟩
  have hlo : o1.length ≤ 4000 := by rw [← ho1]; exact sayL_len hA.ok.1 _
  obtain ⟨sg, hsg⟩ : ∃ sg : List Int, (if ph N < 0 then [45] else []) = sg := ⟨_, rfl⟩
  have hsl : sg.length ≤ 1 := by rw [← hsg]; split <;> simp
  have hrev : (([] ++ digL B M) ++ sg).reverse = numsU (signedL B N) := by
    have h := signedL_digits B N hN
    rw [hM.2, hsg] at h
    rw [List.nil_append]
    exact h
  obtain ⟨R, hR⟩ : ∃ R, ([] ++ digL B M) ++ sg = R := ⟨_, rfl⟩
  have hRl : R.length ≤ 129 := by
    rw [← hR]
    simp only [List.nil_append, List.length_append]
    omega
  rw [ho1]
  have ok : ∀ (st bs made out : List Int), out.length ≤ 4000 → made.length ≤ 200 → PS.ok { S with st := st, bs := bs, made := made, out := out } := fun st bs made out h1 h2 => ⟨h1, h2, hA.ok.2.2⟩
  have k1 : Goes s 104 { S with st := [ph N, pl M, ph M], out := o1, made := [] } { S with st := [ph N, 0, 0], out := o1, made := [] ++ digL B M } := goes_digits (S := { S with st := [ph N, pl M, ph M], out := o1, made := [] }) (ok _ S.bs _ _ hlo (by simp)) [ph N] M B hM.1 rfl hA.base hB.1 hB.2 (by show ([] : List Int).length + _ ≤ 200; simp; omega) (by simp)
  have k2 : Goes s 32 { S with st := [ph N, 0, 0], out := o1, made := [] ++ digL B M } { S with st := [0, 0, ph N], out := o1, made := [] ++ digL B M } := goes_rot (S := { S with st := [ph N, 0, 0], out := o1, made := [] ++ digL B M }) [] (ph N) 0 0 rfl (by simp)
  have k3 : Goes s 106 { S with st := [0, 0, ph N], out := o1, made := [] ++ digL B M } { S with st := [0, 0], out := o1, made := R } := by
    have h := goes_sign (s := s) (S := { S with st := [0, 0, ph N], out := o1, made := [] ++ digL B M }) (ok _ S.bs _ _ hlo (by simp; omega)) [0, 0] (ph N) rfl (by show ([] ++ digL B M).length < 200; simp; omega) (by simp)
    rw [hsg, hR] at h
    exact h
  have k4 : Goes s 107 { S with st := [0, 0], out := o1, made := R } { S with st := [((768 - R.length : Nat) : Int), (R.length : Int)], bs := wrtL S.bs (768 - R.length) R.reverse, out := o1, made := R } := goes_end (S := { S with st := [0, 0], out := o1, made := R }) (ok _ S.bs _ _ hlo (by omega)) hA.n [] 0 0 rfl (by simp)
  have k5 : Goes s 98 { S with st := [((768 - R.length : Nat) : Int), (R.length : Int)], bs := wrtL S.bs (768 - R.length) R.reverse, out := o1, made := R } { S with st := [], bs := wrtL S.bs (768 - R.length) R.reverse, out := sayL o1 (strOfNums (cutL (wrtL S.bs (768 - R.length) R.reverse) (768 - R.length) R.length)), made := R } := goes_type (S := { S with st := [((768 - R.length : Nat) : Int), (R.length : Int)], bs := wrtL S.bs (768 - R.length) R.reverse, out := o1, made := R }) (ok _ _ _ _ hlo (by omega)) [] (768 - R.length) R.length rfl (by show 768 - R.length + R.length ≤ S.n; rw [hA.n]; omega) (by simp)
  refine ⟨_, ⟨_, k1, _, k2, _, k3, _, k4, _, k5, rfl⟩, rfl, ?_⟩
  show strOfNums (sayL o1 (strOfNums (cutL (wrtL S.bs (768 - R.length) R.reverse) (768 - R.length) R.length))) = _
  have hc := cut_noted S.bs R.reverse (768 - R.length) (by rw [hA.len]; omega)
  rw [List.length_reverse] at hc
  rw [hc]
  have hrR : R.reverse = numsU (signedL B N) := by rw [← hR]; exact hrev
  rw [hrR, numsU_str]
  have hsz := signedL_size B N hB.1 hN
  have hso : o1 = strL (sgnT B N) := by
    rw [← ho1, hA.out, sayL_room]
    · rfl
    · show 0 + (sgnT B N).size ≤ 4000
      unfold sgnT
      rw [ByteArray.size_append]
      have : (⟨#[32]⟩ : ByteArray).size = 1 := rfl
      omega
  rw [sayL_room]
  · rw [hso, ← strL_append, nums_str]
    rfl
  · rw [hso, strL_len]
    unfold sgnT
    rw [ByteArray.size_append]
    have : (⟨#[32]⟩ : ByteArray).size = 1 := rfl
    omega
theorem bad_ddot {s : Nat} {S : PS} (hok : S.ok) (n : Nat) (hn : n < 340282366920938463463374607431768211456) (hst : S.st = [pl n, ph n]) (hb : ¬ (2 ≤ S.base ∧ S.base ≤ 36)) (w : World) (F : List Nat) (hS : StateAt w s F S) : Calls Tryz.prog 14 #[.pointer (some ⟨s, 0, none⟩), .int .i64 93] w fun e w' => e = .returned (.int .i64 (-40)) ∧ ∃ F', StateAt w' s F' S ∧ Touch F w w' ∧ Sub w F F' := by
  have hD := Do_sem 93 2 _ _ ddot_sem (by decide) (by decide) (by decide) (by decide) w s F S hS hok (by rw [hst]; simp) (fun _ => ⟨n, hn, by rw [hst]; rfl⟩)
  have e : doP 2 ddotF S = (-40, S) := by
    unfold doP
    rw [if_neg (by rw [hst]; simp)]
    have e1 : ∀ l T, PS.base T = PS.base S → ddotF l T = (([], -40), T) := fun l T hT => by unfold ddotF; rw [if_neg (by rw [hT]; exact hb)]
    rw [e1 (List.drop (S.st.length - 2) S.st) { S with st := List.take (S.st.length - 2) S.st } rfl]
    rfl
  rw [e] at hD
  exact hD.mono fun _ _ ⟨F', a1, a2⟩ => ⟨a1, F', a2⟩
end Go.Proofs.YtkbchpaofmlhgaaGreatDoor

/- PrimNumbers: the law's walk. Printed by numw.py. -/
namespace Go.Proofs.YtkbchpaofmlhgaaGreatDoor
open Go.RowKit

theorem live_base_ok {w0 w : World} {s : Nat} {S : PS} (h : Live w0 w s S) (hn : 1024 ≤ S.n) (hb : 2 ≤ S.base ∧ S.base ≤ 36) : Calls Tryz.prog 18 #[.pointer (some ⟨s, 0, none⟩)] w fun e w' => e = .returned (.tuple #[.int .i64 S.base, .int .i64 0]) ∧ Touch [] w w' := by
  obtain ⟨F, h1, _⟩ := h
  exact Base_ok h1 hn hb
theorem live_base_bad {w0 w : World} {s : Nat} {S : PS} (h : Live w0 w s S) (hn : 1024 ≤ S.n) (hb : ¬ (2 ≤ S.base ∧ S.base ≤ 36)) : Calls Tryz.prog 18 #[.pointer (some ⟨s, 0, none⟩)] w fun e w' => e = .returned (.tuple #[.int .i64 0, .int .i64 (-40)]) ∧ Touch [] w w' := by
  obtain ⟨F, h1, _⟩ := h
  exact Base_bad h1 hn hb
theorem live_depth {w0 w : World} {s : Nat} {S : PS} (h : Live w0 w s S) : Calls Tryz.prog 20 #[.pointer (some ⟨S.k, 0, none⟩)] w fun e w' => e = .returned (.int .i64 S.st.length) ∧ w = w' := by
  obtain ⟨F, ⟨FS, ov, mv, hp, rfl⟩, _⟩ := h
  exact Depth_any w S.k FS S.st hp.stk
end Go.Proofs.YtkbchpaofmlhgaaGreatDoor
