import Derived.Test.YtkbchpaofmlhgaaGreatDoorJPairT
import Derived.Test.YtkbchpaofmlhgaaGreatDoorJNumsA
import Derived.Test.YtkbchpaofmlhgaaGreatDoorJTotMem
/- Operations of prim's map of what tells, each at any cells. -/
namespace Go.Proofs.YtkbchpaofmlhgaaGreatDoor
open Go.RowKit

/-- a pair that is told in the base -/
def numbF (p : Int × Int) (S : PS) : Int × PS := if 2 ≤ S.base ∧ S.base ≤ 36 then (0, { S with out := sayL S.out (sgnT S.baseN (numP p)) }) else (-40, S)
theorem number_tot {w : World} {s : Nat} {F : List Nat} {S : PS} (h : StateAt w s F S) (hok : S.ok) (p : Int × Int) (h1 : Cell64 p.1) (h2 : Cell64 p.2) :
    Calls Tryz.prog 176 #[.pointer (some ⟨s, 0, none⟩), pairW p] w fun e w' => e = .returned (.int .i64 (numbF p S).1) ∧ Done w s F S (numbF p S).2 w' := by
  unfold numbF
  by_cases hb : 2 ≤ S.base ∧ S.base ≤ 36
  · rw [if_pos hb]
    have hN := numberP_ok h hok (numP p) S.baseN (numP_lt p) (by unfold PS.baseN; omega) (by unfold PS.baseN; omega) (by unfold PS.baseN; omega)
    rw [two_numP p h1 h2] at hN
    exact hN
  · rw [if_neg hb]
    refine (numberP_bad h hok p.1 p.2 hb).mono ?_
    rintro _ w' ⟨rfl, t⟩
    exact ⟨rfl, Done.self h t⟩
/-- a number that is told of cells: by a function that makes a pair of them -/
theorem Done.behind {W w w' : World} {s : Nat} {F : List Nat} {S S' : PS} (t : Touch [] W w) (h : Done w s F S S' w') : Done W s F S S' w' := by
  obtain ⟨F', h1, h2, h3, h4⟩ := h
  exact ⟨F', h1, h2, (t.mono (by simp)).trans h3 (fun g hg => .inl hg), h4.lower t.size⟩
theorem ofP_cell (x : Int) (h : Cell64 x) : Cell64 (ofP x).1 ∧ Cell64 (ofP x).2 := by unfold ofP Cell64 at *; omega
theorem zero_cell : Cell64 0 := by unfold Cell64; decide
set_option maxHeartbeats 1000000 in
theorem dot_tot : OpSem 91 1 (fun l _ => AllC l) (fun l S => (([], (numbF (ofP (l.getD 0 0)) S).1), (numbF (ofP (l.getD 0 0)) S).2)) := by
  intro W B s F S t f first cap l lv hok hS hF hfd
  obtain ⟨b, C, hC, hb, hA, hB⟩ := found_says hfd rfl rfl
  obtain ⟨g, _, hg, rfl, rfl, rfl, rfl⟩ := act_open (hA : ActAt C 1 220 154 (.func (.func 175) #[] #[.pointer (some ⟨b, 0, none⟩)]) _ W) (Nat.zero_le _)
  refine ⟨rfl, enters_of Tryz.func220 (by kernel_rfl) rfl, fun hl hpre hc => ActDone.post (tells_clo hg (enters_of Tryz.func175 (by kernel_rfl) rfl) ?_)⟩
  obtain ⟨ad, c, x, rfl, rfl, hx⟩ := hc.one hl
  simp only [List.getD_cons_zero]
  have hx64 := hpre x (by simp)
  have hO := fun w => Of_any x w
  have hN := fun w (h : StateAt w s F S) => number_tot h hok (ofP x) (ofP_cell x hx64).1 (ofP_cell x hx64).2
  obtain ⟨⟨r, T⟩, hr⟩ : ∃ r, numbF (ofP x) S = r := ⟨_, rfl⟩
  rw [hr] at hN ⊢
  clear hr
  obtain ⟨⟨lo, hi⟩, hp⟩ : ∃ p, ofP x = p := ⟨_, rfl⟩
  rw [hp] at hO hN
  clear hp
  unfold pairW at hO hN
  have b0 := (hB.touch ((Touch.refl [] W).drew) (by simp)).cell 0
  have x0 := cell_quiet ((Touch.refl [] W).drew) hx
  have HH := Lib.hid (And.intro hS hB)
  clear hS hB hA hg hfd hc hx hF hpre hx64
  show Calls Tryz.prog 175 #[.slice (some ⟨ad, 0, none⟩) 1 c, .pointer (some ⟨b, 0, none⟩)] W _
  go_enter Tryz.func175, Tryz.ntmps175
  go_upto_region 1 with fail
  go_region_with (first | (go_at_call 105; refine (hO _).mono ?_; rintro _ w1 ⟨rfl, t1⟩; have c1 := (HH.out.2.touch t1.of_drew (by simp)).cell 0; have T1 := Lib.hid t1.of_drew; clear t1) | (go_at_call 176; refine (hN _ (HH.out.1.quiet T1.out)).mono ?_; rintro _ w2 ⟨rfl, hd⟩; have HD : Hid (Done W s F S T w2) := hd.behind T1.out; clear hd))
  all_goals go_wp2_with fail
  all_goals go_ret
  all_goals exact ⟨rfl, HD.out⟩
set_option maxHeartbeats 1000000 in
theorem udot_tot : OpSem 92 1 (fun l _ => AllC l) (fun l S => (([], (numbF (l.getD 0 0, 0) S).1), (numbF (l.getD 0 0, 0) S).2)) := by
  intro W B s F S t f first cap l lv hok hS hF hfd
  obtain ⟨b, C, hC, hb, hA, hB⟩ := found_says hfd rfl rfl
  obtain ⟨g, _, hg, rfl, rfl, rfl, rfl⟩ := act_open (hA : ActAt C 1 220 154 (.func (.func 177) #[] #[.pointer (some ⟨b, 0, none⟩)]) _ W) (Nat.zero_le _)
  refine ⟨rfl, enters_of Tryz.func220 (by kernel_rfl) rfl, fun hl hpre hc => ActDone.post (tells_clo hg (enters_of Tryz.func177 (by kernel_rfl) rfl) ?_)⟩
  obtain ⟨ad, c, x, rfl, rfl, hx⟩ := hc.one hl
  simp only [List.getD_cons_zero]
  have hx64 := hpre x (by simp)
  have hN := fun w (h : StateAt w s F S) => number_tot h hok (x, 0) hx64 zero_cell
  obtain ⟨⟨r, T⟩, hr⟩ : ∃ r, numbF (x, 0) S = r := ⟨_, rfl⟩
  rw [hr] at hN ⊢
  clear hr
  unfold pairW at hN
  have b0 := (hB.touch ((Touch.refl [] W).drew) (by simp)).cell 0
  have x0 := cell_quiet ((Touch.refl [] W).drew) hx
  have HH := Lib.hid hS
  clear hS hB hA hg hfd hc hx hF hpre hx64
  show Calls Tryz.prog 177 #[.slice (some ⟨ad, 0, none⟩) 1 c, .pointer (some ⟨b, 0, none⟩)] W _
  go_enter Tryz.func177, Tryz.ntmps177
  go_upto_region 1 with fail
  go_region_with (go_at_call 176; refine (hN _ (HH.out.quiet ((Touch.refl [] W).drew))).mono ?_; rintro _ w2 ⟨rfl, hd⟩; have HD : Hid (Done W s F S T w2) := hd.behind ((Touch.refl [] W).drew); clear hd)
  all_goals go_wp2_with fail
  all_goals go_ret
  all_goals exact ⟨rfl, HD.out⟩
set_option maxHeartbeats 1000000 in
theorem ddot_tot : OpSem 93 2 (fun l _ => AllC l) (fun l S => (([], (numbF (l.getD 0 0, l.getD 1 0) S).1), (numbF (l.getD 0 0, l.getD 1 0) S).2)) := by
  intro W B s F S t f first cap l lv hok hS hF hfd
  obtain ⟨b, C, hC, hb, hA, hB⟩ := found_says hfd rfl rfl
  obtain ⟨g, _, hg, rfl, rfl, rfl, rfl⟩ := act_open (hA : ActAt C 2 220 154 (.func (.func 178) #[] #[.pointer (some ⟨b, 0, none⟩)]) _ W) (Nat.zero_le _)
  refine ⟨rfl, enters_of Tryz.func220 (by kernel_rfl) rfl, fun hl hpre hc => ActDone.post (tells_clo hg (enters_of Tryz.func178 (by kernel_rfl) rfl) ?_)⟩
  obtain ⟨ad, c, x, y, rfl, rfl, cx, cy⟩ := hc.two hl
  show Calls Tryz.prog _ _ W fun e w' => e = .returned (.int .i64 (numbF (x, y) S).1) ∧ Done W s F S (numbF (x, y) S).2 w'
  have hN := fun w (h : StateAt w s F S) => number_tot h hok (x, y) (hpre x (by simp)) (hpre y (by simp))
  obtain ⟨⟨r, T⟩, hr⟩ : ∃ r, numbF (x, y) S = r := ⟨_, rfl⟩
  rw [hr] at hN ⊢
  clear hr
  unfold pairW at hN
  have hA := fun w (t : Touch [] W w) => a_any ad 2 c x y w (Nat.le_refl _) (cell_quiet t cx) (cell_quiet t cy)
  have b0 := (hB.touch ((Touch.refl [] W).drew) (by simp)).cell 0
  have HH := Lib.hid (And.intro hS hB)
  clear hS hB hg hfd hc hF hpre
  show Calls Tryz.prog 178 #[.slice (some ⟨ad, 0, none⟩) 2 c, .pointer (some ⟨b, 0, none⟩)] W _
  go_enter Tryz.func178, Tryz.ntmps178
  go_upto_region 1 with fail
  go_region_with (first | (go_at_call 108; refine (hA _ ((Touch.refl [] W).drew)).mono ?_; rintro _ w1 ⟨rfl, t1⟩; have c1 := (HH.out.2.touch t1.of_drew (by simp)).cell 0; have T1 := Lib.hid t1.of_drew; clear t1) | (go_at_call 176; refine (hN _ (HH.out.1.quiet T1.out)).mono ?_; rintro _ w2 ⟨rfl, hd⟩; have HD : Hid (Done W s F S T w2) := hd.behind T1.out; clear hd))
  all_goals go_wp2_with fail
  all_goals go_ret
  all_goals exact ⟨rfl, HD.out⟩
set_option maxHeartbeats 1000000 in
theorem type_tot : OpSem 98 2 (fun _ _ => True) (fun l S => (([], pieE S.n (l.getD 0 0) (l.getD 1 0)), { S with out := sayL S.out (textV S.bs S.n (l.getD 0 0) (l.getD 1 0)) })) := by
  intro W B s F S t f first cap l lv hok hS hF hfd
  obtain ⟨b, C, hC, hb, hA, hB⟩ := found_says hfd rfl rfl
  obtain ⟨g, _, hg, rfl, rfl, rfl, rfl⟩ := act_open (hA : ActAt C 2 220 154 (.func (.func 174) #[] #[.pointer (some ⟨b, 0, none⟩)]) _ W) (Nat.zero_le _)
  refine ⟨rfl, enters_of Tryz.func220 (by kernel_rfl) rfl, fun hl hpre hc => ActDone.post (tells_clo hg (enters_of Tryz.func174 (by kernel_rfl) rfl) ?_)⟩
  obtain ⟨ad, c, p, k, rfl, rfl, hx, hy⟩ := hc.two hl
  show Calls Tryz.prog _ _ W fun e w' => e = .returned (.int .i64 (pieE S.n p k)) ∧ Done W s F S { S with out := sayL S.out (textV S.bs S.n p k) } w'
  have hT : Calls Tryz.prog 32 #[.pointer (some ⟨S.m, 0, none⟩), .int .i64 p, .int .i64 k] W.drew fun e w' => e = .returned (.tuple #[.string (textV S.bs S.n p k), .int .i64 (pieE S.n p k)]) ∧ Touch [] W.drew w' := by
    obtain ⟨FS, ov, mv, hp, _⟩ := hS
    exact Text_tot (hp.mem.touch ((Touch.refl [] W).drew) (by simp) (by simp)) p k
  have hSay := fun w (h : StateAt w s F S) => PSay_any h hok.1 (textV S.bs S.n p k)
  obtain ⟨tx, htx⟩ : ∃ z, textV S.bs S.n p k = z := ⟨_, rfl⟩
  obtain ⟨ee, hee⟩ : ∃ z, pieE S.n p k = z := ⟨_, rfl⟩
  rw [htx] at hT hSay ⊢
  rw [hee] at hT ⊢
  clear htx hee
  have s2 : W.drew.cell? ⟨s, 2, none⟩ = some (.pointer (some ⟨S.m, 0, none⟩)) := by
    obtain ⟨FS, ov, mv, hp, _⟩ := hS
    exact (hp.blk.touch ((Touch.refl [] W).drew) (by simp)).cell 2
  have b0 := (hB.touch ((Touch.refl [] W).drew) (by simp)).cell 0
  have x0 := cell_quiet ((Touch.refl [] W).drew) hx
  have y0 := cell_quiet ((Touch.refl [] W).drew) hy
  have HH := Lib.hid (And.intro hS hB)
  clear hS hB hA hg hfd hc hx hy hF
  show Calls Tryz.prog 174 #[.slice (some ⟨ad, 0, none⟩) 2 c, .pointer (some ⟨b, 0, none⟩)] W _
  go_enter Tryz.func174, Tryz.ntmps174
  go_upto_region 1 with fail
  go_cut [4, 5] from 6 to 19 (fun tv ev wx => tv = .string tx ∧ ev = .int .i64 ee ∧ Touch [] W wx)
  case first =>
    go_region_with (go_at_call 32; refine hT.mono ?_; rintro _ w1 ⟨rfl, t1⟩)
    all_goals (go_wp2_with fail; go_meet; exact ⟨rfl, rfl, t1.of_drew⟩)
  case rest =>
    obtain ⟨rfl, rfl, t1⟩ := hcut
    clear hT b0 x0 y0 s2
    have b0 := (HH.out.2.touch t1 (by simp)).cell 0
    have hSay := hSay _ (HH.out.1.quiet t1)
    have T1 := Lib.hid t1
    clear t1
    go_wp2_with fail
    refine hSay.mono ?_
    rintro _ w2 ⟨F', rfl, k1, k2, k3⟩
    have HD : Hid (Done W s F S { S with out := sayL S.out tx } w2) := ⟨F', k1, ⟨rfl, rfl, rfl, rfl, rfl, rfl⟩, (T1.out.mono (by simp)).trans k2 (fun g hg => .inl hg), k3.lower T1.out.size⟩
    clear hSay k1 k2 k3
    go_wp2_with fail
    go_ret
    exact ⟨rfl, HD.out⟩
set_option maxHeartbeats 1000000 in
theorem cr_tot : OpSem 95 0 (fun _ _ => True) (fun _ S => (([], 0), { S with out := sayL S.out ⟨#[10]⟩ })) := by
  intro W B s F S t f first cap l lv hok hS hF hfd
  obtain ⟨b, C, hC, hb, hA, hB⟩ := found_says hfd rfl rfl
  obtain ⟨g, hg0, hg, hA⟩ := (hA : SayAct C 0 b (.func (.func 170) #[] #[]) _ W)
  obtain ⟨g2, _, hg2, rfl, rfl, rfl, rfl⟩ := act_open hA (Nat.zero_le _)
  refine ⟨rfl, enters_of Tryz.func220 (by kernel_rfl) rfl, fun hl hpre hc => ActDone.post (tells_clo hg2 (enters_of Tryz.func164 (by kernel_rfl) rfl) (say_fn hS hok hB hg (enters_of Tryz.func170 (by kernel_rfl) rfl) ?_))⟩
  clear hS hB hA hg hfd hc hF hg2 hg0
  show Calls Tryz.prog 170 #[lv] W.drew _
  go_enter Tryz.func170, Tryz.ntmps170
  go_wp2_with fail
  go_ret
  exact ⟨rfl, Touch.refl [] _⟩
set_option maxHeartbeats 1000000 in
theorem space_tot : OpSem 96 0 (fun _ _ => True) (fun _ S => (([], 0), { S with out := sayL S.out ⟨#[32]⟩ })) := by
  intro W B s F S t f first cap l lv hok hS hF hfd
  obtain ⟨b, C, hC, hb, hA, hB⟩ := found_says hfd rfl rfl
  obtain ⟨g, hg0, hg, hA⟩ := (hA : SayAct C 0 b (.func (.func 171) #[] #[]) _ W)
  obtain ⟨g2, _, hg2, rfl, rfl, rfl, rfl⟩ := act_open hA (Nat.zero_le _)
  refine ⟨rfl, enters_of Tryz.func220 (by kernel_rfl) rfl, fun hl hpre hc => ActDone.post (tells_clo hg2 (enters_of Tryz.func164 (by kernel_rfl) rfl) (say_fn hS hok hB hg (enters_of Tryz.func171 (by kernel_rfl) rfl) ?_))⟩
  clear hS hB hA hg hfd hc hF hg2 hg0
  show Calls Tryz.prog 171 #[lv] W.drew _
  go_enter Tryz.func171, Tryz.ntmps171
  go_wp2_with fail
  go_ret
  exact ⟨rfl, Touch.refl [] _⟩
end Go.Proofs.YtkbchpaofmlhgaaGreatDoor

/- More operations of prim's map of what tells, each at any cells: emit, decimal, hex. -/
namespace Go.Proofs.YtkbchpaofmlhgaaGreatDoor
open Go.RowKit

set_option maxRecDepth 100000 in
set_option maxHeartbeats 1000000 in
theorem emit_tot : OpSem 90 1 (fun _ _ => True) (fun l S => (([], 0), { S with out := sayL S.out (strOfNums [l.getD 0 0 % 256]) })) := by
  intro W B s F S t f first cap l lv hok hS hF hfd
  obtain ⟨b, C, hC, hb, hA, hB⟩ := found_says hfd rfl rfl
  obtain ⟨g, hg0, hg, hA⟩ := (hA : SayAct C 1 b (.func (.func 167) #[] #[]) _ W)
  obtain ⟨g2, _, hg2, rfl, rfl, rfl, rfl⟩ := act_open hA (Nat.zero_le _)
  refine ⟨rfl, enters_of Tryz.func220 (by kernel_rfl) rfl, fun hl hpre hc => ActDone.post (tells_clo hg2 (enters_of Tryz.func164 (by kernel_rfl) rfl) (say_fn hS hok hB hg (enters_of Tryz.func167 (by kernel_rfl) rfl) ?_))⟩
  obtain ⟨ad, c, x, rfl, rfl, hx⟩ := hc.one hl
  simp only [List.getD_cons_zero]
  have x0 := cell_quiet ((Touch.refl [] W).drew) hx
  have bN := (Blk.new W 5 #[.int .u8 (x % 256)]).drew
  have hcv : (convert 66 9 (.slice (some ⟨W.heap.size, 0, none⟩) 1 1)).run Tryz.prog ((W.alloc (.cells #[.int .u8 (x % 256)] 5)).drew) = .ok (.string (strOfNums [x % 256])) ((W.alloc (.cells #[.int .u8 (x % 256)] 5)).drew) :=
    run_convert_bytes_arg (P := Tryz.prog) _ _ _ Tryz.underlying66 Tryz.underlying5 W.heap.size 0 1 1 [x % 256] rfl (fun i hi => by
      obtain rfl : i = 0 := by simpa using hi
      exact bN.cell 0) _ Tryz.underlying9
  clear hS hB hA hg hfd hc hx hF hg2 hg0 bN
  show Calls Tryz.prog 167 #[.slice (some ⟨ad, 0, none⟩) 1 c] W.drew _
  go_enter Tryz.func167, Tryz.ntmps167
  go_wp2_with fail
  go_ret
  have tt := ((Touch.refl [] W).alloc (.cells #[.int .u8 (x % 256)] 5)).drew
  exact ⟨rfl, ⟨tt.os, tt.tape, tt.output, tt.size, tt.block⟩⟩
/-- a base that is put -/
theorem StateAt.two {w : World} {s : Nat} {F : List Nat} {S : PS} (h : StateAt w s F S) : w.cell? ⟨s, 2, none⟩ = some (.pointer (some ⟨S.m, 0, none⟩)) := by
  obtain ⟨FS, ov, mv, hp, _⟩ := h
  exact hp.blk.cell 2
set_option maxHeartbeats 1000000 in
theorem base_tot (op n : Int) (h1 : pairsOp op = 0) (h2 : memoryOp op = 0) (hP : ∀ B b s v W, saysPV B b s (saysOp op) v W → BaseAct B n b v W) : OpSem op 0 (fun _ _ => True) (fun _ S => (([], getE S.n 0), { S with bs := putT S.bs S.n 0 n })) := by
  intro W B s F S t f first cap l lv hok hS hF hfd
  obtain ⟨b, C, hC, hb, hA, hB⟩ := found_says hfd h1 h2
  obtain ⟨g, hg0, hg, hA⟩ := hP _ _ _ _ _ hA
  obtain ⟨g2, _, hg2, rfl, rfl, rfl, rfl⟩ := act_open hA (Nat.zero_le _)
  refine ⟨rfl, enters_of Tryz.func220 (by kernel_rfl) rfl, fun hl hpre hc => ActDone.post (tells_clo hg2 (enters_of Tryz.func166 (by kernel_rfl) rfl) ?_)⟩
  show Calls Tryz.prog _ _ W fun e w' => e = .returned (.int .i64 (getE S.n 0)) ∧ Done W s F S { S with bs := putT S.bs S.n 0 n } w'
  have hG := Put_tot (hS.mem.quiet ((Touch.refl [] W).drew)) 0 n
  obtain ⟨ee, he⟩ : ∃ z, getE S.n 0 = z := ⟨_, rfl⟩
  rw [he] at hG ⊢
  clear he
  have b0 := (hB.touch ((Touch.refl [] W).drew) (by simp)).cell 0
  have g0 := (hg.touch ((Touch.refl [] W).drew) (by simp)).cell 0
  have s2 := cell_quiet ((Touch.refl [] W).drew) hS.two
  have HH := Lib.hid hS
  clear hS hB hA hg hg2 hfd hc hF hok hb hg0
  show Calls Tryz.prog 166 #[lv, .pointer (some ⟨b, 0, none⟩), .pointer (some ⟨g, 0, none⟩)] W _
  go_enter Tryz.func166, Tryz.ntmps166
  go_upto_region 1 with fail
  go_region_with (go_at_call 69; refine hG.mono ?_; rintro _ w1 ⟨rfl, hm, t1⟩; have HD : Hid (Done W s F S _ w1) := Done.mem HH.out hm t1.of_drew; clear hm t1)
  all_goals go_wp2_with fail
  all_goals go_ret
  all_goals exact ⟨rfl, HD.out⟩
end Go.Proofs.YtkbchpaofmlhgaaGreatDoor
