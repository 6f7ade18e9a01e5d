import Derived.Test.YtkbchpaofmlhgaaGreatDoorJOpsA
import Derived.Test.YtkbchpaofmlhgaaGreatDoorJDigA
import Derived.Test.YtkbchpaofmlhgaaGreatDoorShelf7
import Derived.Laws.BitsAllLaws
import Derived.Test.YtkbchpaofmlhgaaGreatDoorJStkA
import Derived.Deep.LoopGhost
import Derived.Deep.Cut
import Derived.Lib.OthersKept
/- Here, dot, spaces, type: operations of prim by their numbers. -/
namespace Go.Proofs.YtkbchpaofmlhgaaGreatDoor
open Go.RowKit

theorem baseL_lenS (B : Nat) (hB : 2 ≤ B) : ∀ (k n : Nat), n < 2 ^ (k + 1) → (baseL B n).length ≤ k + 1
  | 0, n, h => by
    rw [baseL_last B n (by omega)]
    exact Nat.le_refl _
  | k + 1, n, h => by
    by_cases hn : n < B
    · rw [baseL_last B n hn]
      simp
    · rw [baseL_more B n hB (by omega), List.length_append, List.length_singleton]
      have h2 : n / B ≤ n / 2 := Nat.div_le_div_left hB (by omega)
      have := baseL_lenS B hB k (n / B) (by rw [Nat.pow_succ] at h; omega)
      omega
/-- a number as text, and a blank -/
def numT (B n : Nat) : ByteArray := ⟨(baseL B n).toArray⟩ ++ ⟨#[32]⟩
theorem number_ok {w : World} {s : Nat} {F : List Nat} {S : PS} (h : StateAt w s F S) (hok : S.ok) (n B : Nat) (hn : n < 18446744073709551616) (hB : S.base = B) (h2 : 2 ≤ B) (h36 : B ≤ 36) :
    Calls Tryz.prog 176 #[.pointer (some ⟨s, 0, none⟩), .agg #[.int .i64 (cellOf n), .int .i64 0]] w fun e w' => e = .returned (.int .i64 0) ∧ Done w s F S { S with out := sayL S.out (numT B n) } w' := by
  have hS := fun W => signedS n B hn h2 h36 W
  have hlen := baseL_lenS B h2 63 n hn
  unfold numT
  obtain ⟨T, hT⟩ : ∃ T : ByteArray, ⟨(baseL B n).toArray⟩ = T := ⟨_, rfl⟩
  have hsz : T.size ≤ 64 := by rw [← hT]; simpa [ByteArray.size] using hlen
  rw [hT] at hS ⊢
  clear hlen hT
  obtain ⟨c, hc⟩ : ∃ c : Int, cellOf n = c := ⟨_, rfl⟩
  rw [hc] at hS ⊢
  clear hc
  have bP := Blk.new w 38 #[.int .i64 c, .int .i64 0]
  have tP := (Touch.refl [] w).alloc (.cells #[.int .i64 c, .int .i64 0] 38)
  have hBa := Base_ok (h.quiet tP) hok.2.2.1 (by omega)
  rw [hB] at hBa
  have HH := Lib.hid (And.intro h (And.intro hok (And.intro bP tP)))
  clear h hok bP tP hB
  go_enter Tryz.func176, Tryz.ntmps176
  go_wp2_with fail
  refine hBa.mono ?_
  rintro _ w1 ⟨rfl, t1⟩
  have b1 := HH.out.2.2.1.touch t1 (by simp)
  have T1 := HH.out.2.2.2.trans t1 (by simp)
  have p0 := b1.cell 0
  have p1 := b1.cell 1
  have H1 := Lib.hid T1
  clear hBa t1 b1 T1
  go_wp2_with fail
  refine (hS _).mono ?_
  rintro _ w2 ⟨rfl, t2⟩
  have T2 := H1.out.trans t2 (by simp)
  have hSay := PSay_any (HH.out.1.quiet T2) HH.out.2.1.1 (T ++ ⟨#[32]⟩)
  have H2 := Lib.hid T2
  clear hS t2 T2 p0 p1
  go_wp2_with fail
  refine hSay.mono ?_
  rintro _ w3 ⟨F', rfl, k1, k2, k3⟩
  have HD : Hid (Done w s F S { S with out := sayL S.out (T ++ ⟨#[32]⟩) } w3) := ⟨F', k1, ⟨rfl, rfl, rfl, rfl, rfl, rfl⟩, (H2.out.mono (by simp)).trans k2 (fun g hg => .inl hg), k3.lower H2.out.size⟩
  clear hSay k1 k2 k3
  go_wp2_with fail
  go_ret
  exact ⟨rfl, HD.out⟩
theorem of_any (n : Nat) (hn : n < 9223372036854775808) (w : World) : Calls Tryz.prog 105 #[.int .i64 (n : Int)] w fun e w' => e = .returned (.agg #[.int .i64 (cellOf n), .int .i64 0]) ∧ Touch [] w w' := by
  have e1 : (n : Int) / 9223372036854775808 = 0 := by omega
  have e2 := small_cell n hn
  rw [e2]
  have bR := Blk.new w 38 #[.int .i64 0, .int .i64 0]
  go_enter Tryz.func105, Tryz.ntmps105
  go_wp2_with fail
  go_returns
  exact ⟨rfl, (Touch.refl _ _).alloc _⟩
/-- the cells that were taken, as the walk wants them -/
theorem CellsG.one {w : World} {lv : Value} {l : List Int} (h : CellsG w lv l) (hl : l.length = 1) : ∃ g c x, l = [x] ∧ lv = .slice (some ⟨g, 0, none⟩) 1 c ∧ w.cell? ⟨g, 0, none⟩ = some (.int .i64 x) := by
  obtain ⟨x, rfl⟩ := List.length_eq_one_iff.1 hl
  obtain ⟨g, c, e, h⟩ := h.get (by simp)
  exact ⟨g, c, x, rfl, e, h 0 (by simp)⟩
theorem CellsG.two {w : World} {lv : Value} {l : List Int} (h : CellsG w lv l) (hl : l.length = 2) : ∃ g c x y, l = [x, y] ∧ lv = .slice (some ⟨g, 0, none⟩) 2 c ∧ w.cell? ⟨g, 0, none⟩ = some (.int .i64 x) ∧ w.cell? ⟨g, 1, none⟩ = some (.int .i64 y) := by
  obtain ⟨x, y, rfl⟩ : ∃ x y, l = [x, y] := by
    match l, hl with
    | [x, y], _ => exact ⟨x, y, rfl⟩
  obtain ⟨g, c, e, h⟩ := h.get (by simp)
  exact ⟨g, c, x, y, rfl, e, h 0 (by simp), h 1 (by simp)⟩
theorem CellsG.three {w : World} {lv : Value} {l : List Int} (h : CellsG w lv l) (hl : l.length = 3) : ∃ g c x y z, l = [x, y, z] ∧ lv = .slice (some ⟨g, 0, none⟩) 3 c ∧ w.cell? ⟨g, 0, none⟩ = some (.int .i64 x) ∧ w.cell? ⟨g, 1, none⟩ = some (.int .i64 y) ∧ w.cell? ⟨g, 2, none⟩ = some (.int .i64 z) := by
  obtain ⟨x, y, z, rfl⟩ : ∃ x y z, l = [x, y, z] := by
    match l, hl with
    | [x, y, z], _ => exact ⟨x, y, z, rfl⟩
  obtain ⟨g, c, e, h⟩ := h.get (by simp)
  exact ⟨g, c, x, y, z, rfl, e, h 0 (by simp), h 1 (by simp), h 2 (by simp)⟩
theorem here_sem : OpSem 82 0 (fun _ _ => True) (fun _ S => (([S.here], 0), S)) := by
  intro W B s F S t f first cap l lv hok hS hF hfd
  obtain ⟨b, C, hC, hb, hA, hB⟩ := found_memory hfd rfl rfl
  obtain ⟨g, _, hg, rfl, rfl, rfl, rfl⟩ := act_open (hA : ActAt C 0 213 149 (.func (.func 153) #[] #[.pointer (some ⟨b, 0, none⟩)]) _ W) (Nat.zero_le _)
  refine ⟨rfl, enters_of Tryz.func213 (by kernel_rfl) rfl, fun hl _ hc => ActDone.post (gives_clo hg (enters_of Tryz.func153 (by kernel_rfl) rfl) ?_)⟩
  have hH : Calls Tryz.prog 33 #[.pointer (some ⟨S.m, 0, none⟩)] W fun e w' => e = .returned (.int .i64 S.here) ∧ W = w' := by
    obtain ⟨FS, ov, mv, hp, _⟩ := hS
    exact Here_any hp.mem
  have b0 := hB.cell 0
  have HF := Lib.hid (Done.self hS (Touch.refl [] W))
  clear hS hB hA hg hfd hc
  show Calls Tryz.prog 153 #[lv, .pointer (some ⟨b, 0, none⟩)] W _
  go_enter Tryz.func153, Tryz.ntmps153
  go_wp2_with fail
  refine hH.mono ?_
  rintro _ _ ⟨rfl, rfl⟩
  clear hH
  go_wp2_with fail
  go_ret
  exact ⟨rfl, HF.out⟩
end Go.Proofs.YtkbchpaofmlhgaaGreatDoor

/- The operations dot, spaces, type. -/
namespace Go.Proofs.YtkbchpaofmlhgaaGreatDoor
open Go.RowKit

def PS.baseN (S : PS) : Nat := S.base.toNat
set_option maxHeartbeats 1000000 in
theorem dot_sem : OpSem 91 1 (fun l S => 0 ≤ l.getD 0 0 ∧ l.getD 0 0 < 9223372036854775808 ∧ 2 ≤ S.base ∧ S.base ≤ 36) (fun l S => (([], 0), { S with out := sayL S.out (numT S.baseN (l.getD 0 0).toNat) })) := by
  intro W B s F S t f first cap l lv hok hS hF hfd
  obtain ⟨b, C, hC, hb, hA, hB⟩ := found_says hfd rfl rfl
  obtain ⟨g, _, hg, rfl, rfl, rfl, rfl⟩ := act_open (hA : ActAt C 1 220 154 (.func (.func 175) #[] #[.pointer (some ⟨b, 0, none⟩)]) _ W) (Nat.zero_le _)
  refine ⟨rfl, enters_of Tryz.func220 (by kernel_rfl) rfl, fun hl hpre hc => ActDone.post (tells_clo hg (enters_of Tryz.func175 (by kernel_rfl) rfl) ?_)⟩
  obtain ⟨ad, c, x, rfl, rfl, hx⟩ := hc.one hl
  obtain ⟨h0, h1, h2, h3⟩ := hpre
  simp only [List.getD_cons_zero] at h0 h1 ⊢
  obtain ⟨n, rfl⟩ : ∃ n : Nat, x = n := ⟨x.toNat, by omega⟩
  have hO := fun w => of_any n (by omega) w
  have hN := fun w (h : StateAt w s F S) => number_ok h hok n S.baseN (by omega) (by unfold PS.baseN; omega) (by unfold PS.baseN; omega) (by unfold PS.baseN; omega)
  rw [Int.toNat_natCast]
  have b0 := (hB.touch ((Touch.refl [] W).drew) (by simp)).cell 0
  have x0 := cell_quiet ((Touch.refl [] W).drew) hx
  have HH := Lib.hid (And.intro hS hB)
  clear hS hB hA hg hfd hc hx hF
  show Calls Tryz.prog 175 #[.slice (some ⟨ad, 0, none⟩) 1 c, .pointer (some ⟨b, 0, none⟩)] W _
  go_enter Tryz.func175, Tryz.ntmps175
  go_upto_region 1 with fail
  go_region_with (first | (go_at_call 105; refine (hO _).mono ?_; rintro _ w1 ⟨rfl, t1⟩; have c1 := (HH.out.2.touch t1.of_drew (by simp)).cell 0; have T1 := Lib.hid t1.of_drew; clear t1) | (go_at_call 176; refine (hN _ (HH.out.1.quiet T1.out)).mono ?_; rintro _ w2 ⟨rfl, F2, k1, k0, k2, k3⟩; have HD : Hid (Done W s F S { S with out := sayL S.out (numT S.baseN n) } w2) := ⟨F2, k1, k0, (T1.out.mono (by simp)).trans k2 (fun g hg => .inl hg), k3.lower T1.out.size⟩; clear k1 k2 k3 k0))
  all_goals go_wp2_with fail
  all_goals go_ret
  all_goals exact ⟨rfl, HD.out⟩
theorem run_rep (w : World) (n : Nat) (hn : n ≤ 4000) : Calls Tryz.prog 173 #[.string ⟨#[32]⟩, .int .i64 (n : Int)] w fun e w' => e = .returned (.string ⟨(List.replicate n (32 : UInt8)).toArray⟩) ∧ Touch [] w w' := by
  refine (Tryz.strings_Repeat ⟨#[32]⟩ n w (by omega) (by simp [ByteArray.size]; omega)).mono ?_
  rintro _ w' ⟨rfl, hb⟩
  refine ⟨?_, Touch.of_below hb _⟩
  have e : ∀ n, Lib.repeatL [(32 : UInt8)] n = List.replicate n 32 := by
    intro n
    induction n with
    | zero => rfl
    | succ n ih => rw [List.replicate_succ, ← ih]; rfl
  have e2 : (⟨#[(32 : UInt8)]⟩ : ByteArray).data.toList = [32] := rfl
  rw [e2, e]
set_option maxHeartbeats 1000000 in
theorem spaces_sem : OpSem 97 1 (fun _ _ => True) (fun l S => (([], 0), { S with out := sayL S.out ⟨(List.replicate (min (max (l.getD 0 0) 0) 4000).toNat (32 : UInt8)).toArray⟩ })) := by
  intro W B s F S t f first cap l lv hok hS hF hfd
  obtain ⟨b, C, hC, hb, hA, hB⟩ := found_says hfd rfl rfl
  obtain ⟨g, hg0, hg, hA⟩ := (hA : SayAct C 1 b (.func (.func 172) #[] #[]) _ W)
  obtain ⟨g2, _, hg2, rfl, rfl, rfl, rfl⟩ := act_open hA (Nat.zero_le _)
  refine ⟨rfl, enters_of Tryz.func220 (by kernel_rfl) rfl, fun hl hpre hc => ActDone.post (tells_clo hg2 (enters_of Tryz.func164 (by kernel_rfl) rfl) (say_fn hS hok hB hg (enters_of Tryz.func172 (by kernel_rfl) rfl) ?_))⟩
  obtain ⟨ad, c, x, rfl, rfl, hx⟩ := hc.one hl
  simp only [List.getD_cons_zero]
  have x0 := cell_quiet ((Touch.refl [] W).drew) hx
  obtain ⟨n, hn⟩ : ∃ n : Nat, min (max x 0) 4000 = n := ⟨(min (max x 0) 4000).toNat, by omega⟩
  have hR := fun w => run_rep w n (by omega)
  rw [hn, Int.toNat_natCast]
  clear hS hB hA hg hfd hc hx hF hg2 hg0
  show Calls Tryz.prog 172 #[.slice (some ⟨ad, 0, none⟩) 1 c] W.drew _
  go_enter Tryz.func172, Tryz.ntmps172
  go_wp2_with fail
  refine (hR _).mono ?_
  rintro _ w1 ⟨rfl, t1⟩
  clear hR
  go_wp2_with fail
  go_ret
  exact ⟨rfl, t1⟩
/-- a text out of the memory -/
def PS.text (S : PS) (p k : Nat) : ByteArray := strOfNums (cutL S.bs p k)
set_option maxHeartbeats 1000000 in
theorem type_sem : OpSem 98 2 (fun l S => ∃ p k : Nat, l = [(p : Int), (k : Int)] ∧ p + k ≤ S.n) (fun l S => (([], 0), { S with out := sayL S.out (S.text (l.getD 0 0).toNat (l.getD 1 0).toNat) })) := by
  intro W B s F S t f first cap l lv hok hS hF hfd
  obtain ⟨b, C, hC, hb, hA, hB⟩ := found_says hfd rfl rfl
  obtain ⟨g, _, hg, rfl, rfl, rfl, rfl⟩ := act_open (hA : ActAt C 2 220 154 (.func (.func 174) #[] #[.pointer (some ⟨b, 0, none⟩)]) _ W) (Nat.zero_le _)
  refine ⟨rfl, enters_of Tryz.func220 (by kernel_rfl) rfl, fun hl hpre hc => ActDone.post (tells_clo hg (enters_of Tryz.func174 (by kernel_rfl) rfl) ?_)⟩
  obtain ⟨p, k, rfl, hpk⟩ := hpre
  obtain ⟨ad, c, x, y, e, rfl, hx, hy⟩ := hc.two hl
  injection e with e1 e
  injection e with e2 e
  subst e1 e2
  clear e
  have hg0 : ((([(p : Int), (k : Int)] : List Int).getD 0 0).toNat, ([(p : Int), (k : Int)] : List Int).getD 1 0) = (p, (k : Int)) := rfl
  show Calls Tryz.prog _ _ W fun e w' => e = .returned (.int .i64 0) ∧ Done W s F S { S with out := sayL S.out (S.text p k) } w'
  clear hg0
  have hT : Calls Tryz.prog 32 #[.pointer (some ⟨S.m, 0, none⟩), .int .i64 p, .int .i64 k] W.drew fun e w' => e = .returned (.tuple #[.string (S.text p k), .int .i64 0]) ∧ Touch [] W.drew w' := by
    obtain ⟨FS, ov, mv, hp, _⟩ := hS
    exact MText_ok (hp.mem.touch ((Touch.refl [] W).drew) (by simp) (by simp)) p k hpk
  have s2 : W.drew.cell? ⟨s, 2, none⟩ = some (.pointer (some ⟨S.m, 0, none⟩)) := by
    obtain ⟨FS, ov, mv, hp, _⟩ := hS
    exact (hp.blk.touch ((Touch.refl [] W).drew) (by simp)).cell 2
  have b0 := (hB.touch ((Touch.refl [] W).drew) (by simp)).cell 0
  have x0 := cell_quiet ((Touch.refl [] W).drew) hx
  have y0 := cell_quiet ((Touch.refl [] W).drew) hy
  have hSay := fun w (h : StateAt w s F S) => PSay_any h hok.1 (S.text p k)
  have HH := Lib.hid (And.intro hS hB)
  clear hS hB hA hg hfd hc hx hy hF
  show Calls Tryz.prog 174 #[.slice (some ⟨ad, 0, none⟩) 2 c, .pointer (some ⟨b, 0, none⟩)] W _
  go_enter Tryz.func174, Tryz.ntmps174
  go_upto_region 1 with fail
  go_cut [4, 5] from 6 to 19 (fun tv ev wx => tv = .string (S.text p k) ∧ ev = .int .i64 0 ∧ Touch [] W wx)
  case first =>
    go_region_with (go_at_call 32; refine hT.mono ?_; rintro _ w1 ⟨rfl, t1⟩)
    all_goals (go_wp2_with fail; go_meet; exact ⟨rfl, rfl, t1.of_drew⟩)
  case rest =>
    obtain ⟨rfl, rfl, t1⟩ := hcut
    have c1 := (HH.out.2.touch t1 (by simp)).cell 0
    have hS1 := hSay _ (HH.out.1.quiet t1)
    have T1 := Lib.hid t1
    clear hT b0 x0 y0 s2 t1 hSay
    go_wp2_with fail
    refine hS1.mono ?_
    rintro _ w2 ⟨F2, rfl, k1, k2, k3⟩
    have HD : Hid (Done W s F S { S with out := sayL S.out (S.text p k) } w2) := ⟨F2, k1, ⟨rfl, rfl, rfl, rfl, rfl, rfl⟩, (T1.out.mono (by simp)).trans k2 (fun g hg => .inl hg), k3.lower T1.out.size⟩
    clear hS1 k1 k2 k3
    go_wp2_with fail
    go_ret
    exact ⟨rfl, HD.out⟩
end Go.Proofs.YtkbchpaofmlhgaaGreatDoor

/- The law's head: the document's example. -/
namespace Go.Proofs.YtkbchpaofmlhgaaGreatDoor
open Go.RowKit

/-- a state's ground: the bytes behind New -/
def bs0 : List Int := putF (List.replicate 1024 0) 0 10 8
theorem base0 : getF bs0 0 = 10 := by decide +kernel
theorem numT8 : numT 10 8 = ⟨#[56, 32]⟩ := by
  unfold numT
  rw [baseL_last 10 8 (by decide)]
  decide +kernel
theorem New1024 (w : World) : Calls Tryz.prog 11 #[.int .i64 1024] w fun e w' => ∃ s F S, e = .returned (.tuple #[.pointer (some ⟨s, 0, none⟩), .int .i64 0]) ∧ StateAt w' s F S ∧ (∀ x ∈ F, w.heap.size ≤ x) ∧ Touch [] w w' ∧ S.ok ∧ S.n = 1024 ∧ S.st = [] ∧ S.bs = bs0 ∧ S.here = 8 ∧ S.out = [] ∧ S.made = [] := by
  refine (PNew_ok 1024 (by decide) (by decide) (by decide) w).mono ?_
  rintro _ w' ⟨s, F, S, rfl, h1, h2, h3, h4, h5, h6, h7, h8, h9⟩
  exact ⟨s, F, S, rfl, h1, h2, h3, ⟨by rw [h8]; decide, by rw [h9]; decide, by rw [h4]; decide, by rw [h4]⟩, h4, h5, h6, h7, h8, h9⟩
theorem Sub.touch {w w1 : World} {F : List Nat} (hF : ∀ x ∈ F, w.heap.size ≤ x) (t : Touch [] w w1) {w2 : World} (t2 : Touch F w1 w2) : Touch [] w w2 := t.trans t2 (fun g hg => .inr (hF g hg))
theorem Sub.new {w w1 : World} {F F' : List Nat} (hF : ∀ x ∈ F, w.heap.size ≤ x) (hs : Sub w1 F F') (hz : w.heap.size ≤ w1.heap.size) : ∀ x ∈ F', w.heap.size ≤ x := fun x hx => by
  rcases hs x hx with h | h
  · exact hF x h
  · omega
theorem PAll {w : World} {s : Nat} {F : List Nat} {S : PS} (h : StateAt w s F S) (hl : S.st.length ≤ 128) : Calls Tryz.prog 15 #[.pointer (some ⟨S.k, 0, none⟩)] w fun e w' => ∃ v, e = .returned v ∧ w'.ownsRow w.heap.size 36 1 v S.st.length (cells S.st) ∧ Touch [] w w' := by
  obtain ⟨FS, ov, mv, hp, _⟩ := h
  exact All_any w S.k FS S.st hp.stk (by omega)
/-- a row that was handed out lies on, behind what touches older blocks -/
theorem row_on {w w1 w2 : World} {F : List Nat} {v : Value} {l : List Int} {s : Nat} {S : PS} (h : w1.ownsRow w.heap.size 36 1 v l.length (cells l)) (hS : StateAt w s F S) (t : Touch F w1 w2) : CellsG w2 v l :=
  row_cellsG (row_touch h t (fun x hx hm => by have h1 := own_from h x hx; have h2 := hS.lt x hm; omega))
set_option maxRecDepth 100000 in
set_option maxHeartbeats 1000000 in
theorem shown_any (w : World) : Calls Tryz.prog 10 #[] w fun e w' => e = .returned (.bool true) ∧ Touch [] w w' := by
  have hN := New1024 w
  go_enter Tryz.func10, Tryz.ntmps10
  go_wp2_with fail
  refine hN.mono ?_
  rintro _ w1 ⟨s, F, S, rfl, hS, hF, t1, hok, hn, hst, hbs, hhere, hout, hmade⟩
  clear hN
  have hD := Do_sem 82 0 _ _ here_sem (by decide) (by decide) (by decide) (by decide) w1 s F S hS hok (by rw [hst]; decide) (fun _ => trivial)
  have e1 : doP 0 (fun _ S => (([(S.here : Int)], 0), S)) S = (0, { S with st := [8] }) := by
    unfold doP
    simp [hst, hhere]
  rw [e1] at hD
  have HH := Lib.hid (And.intro hF (And.intro t1 (And.intro hok (And.intro hbs (And.intro hout hn)))))
  clear hF t1 hok hbs hhere hout hmade hn e1 hS hst
  go_wp2_with fail
  refine hD.mono ?_
  rintro _ w2 ⟨F2, rfl, hS2, t2, s2⟩
  clear hD
  obtain ⟨hF, t1, hok, hbs, hout, hn⟩ := HH.out
  have T2 := Sub.touch hF t1 t2
  have hF2 := Sub.new hF s2 t1.size
  have hSt := PStack_any hS2
  have hAl := fun w' (t : Touch [] w2 w') => (hS2.quiet t)
  have hok2 : PS.ok { S with st := [8] } := hok
  have hD := fun w3 (h : StateAt w3 s F2 { S with st := [8] }) => Do_sem 91 1 _ _ dot_sem (by decide) (by decide) (by decide) (by decide) w3 s F2 { S with st := [8] } h hok2 (by simp) (fun _ => ⟨by simp, by simp, by show 2 ≤ getF S.bs 0; rw [hbs, base0]; decide, by show getF S.bs 0 ≤ 36; rw [hbs, base0]; decide⟩)
  have e2 : doP 1 (fun l S => (([], 0), { S with out := sayL S.out (numT S.baseN (l.getD 0 0).toNat) })) { S with st := [8] } = (0, { S with st := [], out := [56, 32] }) := by
    have hb : PS.baseN { S with st := [] } = 10 := by unfold PS.baseN PS.base; rw [hbs, base0]; rfl
    have hv : sayL [] (numT 10 8) = [56, 32] := by rw [numT8]; decide +kernel
    unfold doP
    simp only [List.length_cons, List.length_nil, Nat.zero_add, Nat.sub_self, List.drop_zero, List.take_zero, List.getD_cons_zero]
    rw [hb, hout]
    show (if 1 < 1 then _ else _) = _
    rw [if_neg (by decide)]
    rw [show (8 : Int).toNat = 8 from rfl, hv]
    rfl
  rw [e2] at hD
  have hAl := PAll hS2 (by simp)
  have hz : w.heap.size ≤ w2.heap.size := T2.size
  have HG := Lib.hid (And.intro T2 (And.intro hF2 (And.intro hS2 hz)))
  clear e2 hok2 hF t1 hok hbs hout hn T2 hF2 t2 s2 HH hz
  go_wp2_with fail
  refine hSt.mono ?_
  rintro _ _ ⟨rfl, rfl⟩
  clear hSt
  go_wp2_with fail
  refine hAl.mono ?_
  rintro _ w3 ⟨v, rfl, hv, t3⟩
  clear hAl
  obtain ⟨T2, hF2, hS2, hz⟩ := HG.out
  have hD := hD w3 (hS2.quiet t3)
  obtain ⟨ra, rc, rfl⟩ := own_slice hv
  have HV := Lib.hid (And.intro hv t3)
  clear hv t3 T2 hF2 hS2 hz
  go_wp2_with fail
  refine hD.mono ?_
  rintro _ w4 ⟨F4, rfl, hS4, t4, s4⟩
  clear hD
  obtain ⟨T2, hF2, hS2, hz⟩ := HG.out
  obtain ⟨g, c, x, ex, ev, hx⟩ := (row_on HV.out.1 hS2 t4).one rfl
  injection ex with ex _
  subst ex
  injection ev with ev1 ev2 ev3
  subst ev1 ev3
  have hO := POut_any hS4
  have eO : strOfNums [56, 32] = ⟨#[56, 32]⟩ := by decide +kernel
  change Calls _ _ _ _ (fun e w' => e = .returned (.string (strOfNums [56, 32])) ∧ _) at hO
  rw [eO] at hO
  have T4 := Sub.touch hF2 (T2.trans HV.out.2 (by simp)) t4
  have HZ := Lib.hid T4
  clear T4 T2 hF2 hS2 hz HV t4 s4 hS4 eO ev2
  go_wp2_with fail
  refine hO.mono ?_
  rintro _ _ ⟨rfl, rfl⟩
  clear hO
  go_wp2_with fail
  go_ret
  exact ⟨rfl, HZ.out⟩
end Go.Proofs.YtkbchpaofmlhgaaGreatDoor

/- A state of the law's own: what is done to it, step by step. -/
namespace Go.Proofs.YtkbchpaofmlhgaaGreatDoor
open Go.RowKit

/-- a state that was made behind a world -/
def Live (w0 w : World) (s : Nat) (S : PS) : Prop := ∃ F, StateAt w s F S ∧ (∀ x ∈ F, w0.heap.size ≤ x) ∧ Touch [] w0 w
section
variable {w0 w w' : World} {s : Nat} {S S' : PS}
theorem Live.t (h : Live w0 w s S) : Touch [] w0 w := by
  obtain ⟨_, _, _, h⟩ := h
  exact h
theorem Live.quiet (h : Live w0 w s S) (t : Touch [] w w') : Live w0 w' s S := by
  obtain ⟨F, h1, h2, h3⟩ := h
  exact ⟨F, h1.quiet t, h2, h3.trans t (by simp)⟩
theorem Live.next {F F' : List Nat} (h1 : StateAt w' s F' S') (hF : ∀ x ∈ F, w0.heap.size ≤ x) (h3 : Touch [] w0 w) (t : Touch F w w') (hs : Sub w F F') : Live w0 w' s S' :=
  ⟨F', h1, Sub.new hF hs h3.size, Sub.touch hF h3 t⟩
theorem live_new (w0 w : World) (t0 : Touch [] w0 w) : Calls Tryz.prog 11 #[.int .i64 1024] w fun e w' => ∃ s S, e = .returned (.tuple #[.pointer (some ⟨s, 0, none⟩), .int .i64 0]) ∧ Live w0 w' s S ∧ S.ok ∧ S.n = 1024 ∧ S.st = [] ∧ S.bs = bs0 ∧ S.here = 8 ∧ S.out = [] ∧ S.made = [] := by
  refine (New1024 w).mono ?_
  rintro _ w' ⟨s, F, S, rfl, h1, h2, h3, h4⟩
  exact ⟨s, S, rfl, ⟨F, h1, fun x hx => Nat.le_trans t0.size (h2 x hx), t0.trans h3 (by simp)⟩, h4⟩
theorem live_do {op : Int} {n : Nat} {pre : List Int → PS → Prop} {act : List Int → PS → (List Int × Int) × PS} (h : Live w0 w s S) (hsem : OpSem op n pre act) (h1 : 43 ≤ op) (h2 : op ≤ 107) (h3 : op < 61 ∨ 70 < op) (hn : n ≤ 4) (hok : S.ok) (hst : S.st.length ≤ 128)
    (hpre : n ≤ S.st.length → pre (S.st.drop (S.st.length - n)) { S with st := S.st.take (S.st.length - n) }) :
    Calls Tryz.prog 14 #[.pointer (some ⟨s, 0, none⟩), .int .i64 op] w fun e w' => e = .returned (.int .i64 (doP n act S).1) ∧ Live w0 w' s (doP n act S).2 := by
  obtain ⟨F, k1, k2, k3⟩ := h
  refine (Do_sem op n pre act hsem h1 h2 h3 hn w s F S k1 hok hst hpre).mono ?_
  rintro _ w' ⟨F', rfl, j1, j2, j3⟩
  exact ⟨rfl, Live.next j1 k2 k3 j2 j3⟩
theorem live_say (h : Live w0 w s S) (hl : S.out.length ≤ 4000) (x : ByteArray) :
    Calls Tryz.prog 36 #[.pointer (some ⟨s, 0, none⟩), .string x] w fun e w' => e = .returned (.tuple #[]) ∧ Live w0 w' s { S with out := sayL S.out x } := by
  obtain ⟨F, k1, k2, k3⟩ := h
  refine (PSay_any k1 hl x).mono ?_
  rintro _ w' ⟨F', rfl, j1, j2, j3⟩
  exact ⟨rfl, Live.next j1 k2 k3 j2 j3⟩
theorem live_out (h : Live w0 w s S) : Calls Tryz.prog 17 #[.pointer (some ⟨s, 0, none⟩)] w fun e w' => e = .returned (.string (strOfNums S.out)) ∧ w = w' := by
  obtain ⟨F, k1, _⟩ := h
  exact POut_any k1
theorem live_stack (h : Live w0 w s S) : Calls Tryz.prog 12 #[.pointer (some ⟨s, 0, none⟩)] w fun e w' => e = .returned (.pointer (some ⟨S.k, 0, none⟩)) ∧ w = w' := by
  obtain ⟨F, k1, _⟩ := h
  exact PStack_any k1
theorem live_mem (h : Live w0 w s S) : Calls Tryz.prog 31 #[.pointer (some ⟨s, 0, none⟩)] w fun e w' => e = .returned (.pointer (some ⟨S.m, 0, none⟩)) ∧ w = w' := by
  obtain ⟨F, k1, _⟩ := h
  exact PMem_any k1
/-- the stack turns -/
theorem Live.stack {FS' : List Nat} {L : List Int} {FS : List Nat} {ov mv : Value} (hp : Parts w s FS ov mv S) (hF : ∀ x ∈ foot s S FS ov mv, w0.heap.size ≤ x) (h3 : Touch [] w0 w) (hk : StackAt w' S.k FS' L) (t : Touch FS w w') (hs : Sub w FS FS') : Live w0 w' s { S with st := L } :=
  Live.next ⟨FS', ov, mv, hp.stack hk t, rfl⟩ hF h3 (t.mono (fun g hg => .inl (foot_has_stack g hg))) (foot_stack hs)
theorem live_push (h : Live w0 w s S) (hl : S.st.length < 128) (x : Int) : Calls Tryz.prog 35 #[.pointer (some ⟨S.k, 0, none⟩), .int .i64 x] w fun e w' => e = .returned (.int .i64 0) ∧ Live w0 w' s { S with st := S.st ++ [x] } := by
  obtain ⟨F, ⟨FS, ov, mv, hp, rfl⟩, k2, k3⟩ := h
  refine (Push_ok w S.k FS S.st hp.stk hl x).mono ?_
  rintro _ w' ⟨F', rfl, j1, j2, j3⟩
  exact ⟨rfl, Live.stack hp k2 k3 j1 j2 j3⟩
theorem live_put (h : Live w0 w s S) (cv : Value) (M : List Int) (hc : CellsAt w cv M) (hl : S.st.length + M.length ≤ 128) : Calls Tryz.prog 13 #[.pointer (some ⟨S.k, 0, none⟩), cv] w fun e w' => e = .returned (.int .i64 0) ∧ Live w0 w' s { S with st := S.st ++ M } := by
  obtain ⟨F, ⟨FS, ov, mv, hp, rfl⟩, k2, k3⟩ := h
  refine (Put_row w S.k FS S.st hp.stk cv M hc hl).mono ?_
  rintro _ w' ⟨F', rfl, j1, j2, j3⟩
  exact ⟨rfl, Live.stack hp k2 k3 j1 j2 j3⟩
theorem live_all (h : Live w0 w s S) (hl : S.st.length ≤ 128) : Calls Tryz.prog 15 #[.pointer (some ⟨S.k, 0, none⟩)] w fun e w' => ∃ v, e = .returned v ∧ CellsG w' v S.st ∧ w'.ownsRow w.heap.size 36 1 v S.st.length (cells S.st) ∧ Touch [] w w' := by
  obtain ⟨F, k1, _⟩ := h
  refine (PAll k1 hl).mono ?_
  rintro _ w' ⟨v, rfl, h1, h2⟩
  exact ⟨v, rfl, row_cellsG h1, h1, h2⟩
theorem live_cut (h : Live w0 w s S) : Calls Tryz.prog 23 #[.pointer (some ⟨S.k, 0, none⟩), .int .i64 0] w fun e w' => e = .returned (.tuple #[]) ∧ Live w0 w' s { S with st := [] } := by
  obtain ⟨F, ⟨FS, ov, mv, hp, rfl⟩, k2, k3⟩ := h
  refine (Cut_zero w S.k FS S.st hp.stk).mono ?_
  rintro _ w' ⟨rfl, j1, j2⟩
  exact ⟨rfl, Live.stack hp k2 k3 j1 j2 (Sub.refl _ _)⟩
theorem live_text (h : Live w0 w s S) (p k : Nat) (hk : p + k ≤ S.n) : Calls Tryz.prog 32 #[.pointer (some ⟨S.m, 0, none⟩), .int .i64 p, .int .i64 k] w fun e w' => e = .returned (.tuple #[.string (S.text p k), .int .i64 0]) ∧ Touch [] w w' := by
  obtain ⟨F, ⟨FS, ov, mv, hp, rfl⟩, k2, k3⟩ := h
  exact MText_ok hp.mem p k hk
theorem Live.len (h : Live w0 w s S) : S.bs.length = S.n ∧ S.n ≤ 65536 := by
  obtain ⟨F, ⟨FS, ov, mv, hp, rfl⟩, k2, k3⟩ := h
  exact ⟨hp.mem.len, hp.mem.small⟩
/-- a text is noted -/
theorem live_note (h : Live w0 w s S) (hn : S.n = 1024) (x : ByteArray) : Calls Tryz.prog 38 #[.pointer (some ⟨s, 0, none⟩), .string x] w fun e w' => e = .returned (.tuple #[.int .i64 768, .int .i64 (min x.size 256 : Nat)]) ∧ Live w0 w' s { S with bs := wrtL S.bs 768 (strL (x.extract 0 (min x.size 256))) } := by
  obtain ⟨F, ⟨FS, ov, mv, hp, rfl⟩, k2, k3⟩ := h
  have s2 := hp.blk.cell 2
  have hSz := Size_any hp.mem
  have hmin : min (x.size : Int) 256 = (min x.size 256 : Nat) := by omega
  have hle : min x.size 256 ≤ x.size := Nat.min_le_left _ _
  have hle2 : min x.size 256 ≤ 256 := Nat.min_le_right _ _
  obtain ⟨k, hk⟩ : ∃ k, min x.size 256 = k := ⟨_, rfl⟩
  rw [hk] at hmin hle hle2 ⊢
  have hks : (x.extract 0 k).size = k := by simp; omega
  have hW := fun w' (t : Touch [] w w') => MWrite_ok (hp.mem.touch t (by simp) (by simp)) 768 (x.extract 0 k) (by rw [hks]; omega)
  rw [hn] at hSz
  have HH := Lib.hid (And.intro hp (And.intro k2 k3))
  have HK := Lib.hid hks
  have e1 : IntKind.i64.wrap ((1024 : Int) - 256) = 768 := by decide
  clear hp k2 k3 hks hk
  go_enter Tryz.func38, Tryz.ntmps38
  go_wp2_with fail
  refine hSz.mono ?_
  rintro _ _ ⟨rfl, rfl⟩
  clear hSz
  have hW := hW _ (Touch.refl [] _)
  go_wp2_with fail
  refine hW.mono ?_
  rintro _ w1 ⟨rfl, hm, t1⟩
  have HM := Lib.hid (And.intro hm t1)
  clear hW hm t1
  go_wp2_with fail
  go_ret2
  refine ⟨by first | rfl | rw [HK.out], Live.next ⟨FS, ov, mv, HH.out.1.memory HM.out.1 (HM.out.2.mono (fun g hg => .inl (by simp at hg; simp [hg]))), rfl⟩ HH.out.2.1 HH.out.2.2 (HM.out.2.mono (fun g hg => .inl (by simp at hg; simp [foot, hg]))) (Sub.refl _ _)⟩
end
end Go.Proofs.YtkbchpaofmlhgaaGreatDoor

/- Plain laws of cells that lie in bytes: what is put is got again. -/
namespace Go.Proofs.YtkbchpaofmlhgaaGreatDoor
open Go.RowKit

theorem ofInt_wrap (a : Int) : BitVec.ofInt 64 (wrap64 a) = BitVec.ofInt 64 a := by
  apply BitVec.eq_of_toNat_eq
  rw [BitVec.toNat_ofInt, BitVec.toNat_ofInt]
  congr 1
  unfold wrap64
  omega
theorem or_wrap (a b : Nat) : bits .or .i64 (wrap64 a) (wrap64 b) = wrap64 ((a % 18446744073709551616 ||| b % 18446744073709551616 : Nat) : Int) := by
  show IntKind.i64.wrap ((BitVec.ofInt 64 (wrap64 a) ||| BitVec.ofInt 64 (wrap64 b)).toNat : Int) = _
  rw [ofInt_wrap, ofInt_wrap, BitVec.toNat_or, BitVec.ofInt_natCast, BitVec.ofInt_natCast, BitVec.toNat_ofNat, BitVec.toNat_ofNat, IntKind.wrap_i64, show (2 : Nat) ^ 64 = 18446744073709551616 from rfl]
  unfold wrap64
  omega
/-- bytes as a number -/
def natF (f : Nat → Nat) : Nat → Nat
  | 0 => 0
  | i + 1 => natF f i + f i * 2 ^ (8 * i)
theorem natF_lt (f : Nat → Nat) : ∀ i, (∀ j, j < i → f j < 256) → natF f i < 2 ^ (8 * i)
  | 0, _ => by simp [natF]
  | i + 1, h => by
    have h1 := natF_lt f i (fun j hj => h j (by omega))
    have h2 := h i (by omega)
    have e : 2 ^ (8 * (i + 1)) = 256 * 2 ^ (8 * i) := by rw [show 8 * (i + 1) = 8 + 8 * i by omega, Nat.pow_add]
    rw [natF, e]
    have h3 : f i * 2 ^ (8 * i) ≤ 255 * 2 ^ (8 * i) := Nat.mul_le_mul_right _ (by omega)
    omega
theorem orF_nat (bs : List Int) (p : Nat) (f : Nat → Nat) : ∀ i, i ≤ 8 → (∀ j, j < i → bs.getD (p + j) 0 = (f j : Int) ∧ f j < 256) → orF bs p i = wrap64 (natF f i)
  | 0, _, _ => by rw [orF, natF]; unfold wrap64; omega
  | i + 1, hi, h => by
    have h1 := orF_nat bs p f i (by omega) (fun j hj => h j (by omega))
    have h2 := natF_lt f i (fun j hj => (h j (by omega)).2)
    have h3 := natF_lt f (i + 1) (fun j hj => (h j (by omega)).2)
    have h4 : (2 : Nat) ^ (8 * (i + 1)) ≤ 2 ^ 64 := Nat.pow_le_pow_right (by decide) (by omega)
    rw [orF, h1, (h i (by omega)).1, show ((f i : Int) * 2 ^ (8 * i)) = ((f i * 2 ^ (8 * i) : Nat) : Int) by simp, or_wrap]
    rw [natF] at h3 ⊢
    rw [Nat.mod_eq_of_lt (by omega), Nat.mod_eq_of_lt (by omega)]
    congr 2
    rw [Nat.or_comm, Nat.add_comm, Nat.mul_comm]
    exact (Nat.two_pow_add_eq_or_of_lt h2 (f i)).symm
theorem natF_congr {f g : Nat → Nat} : ∀ i, (∀ j, j < i → f j = g j) → natF f i = natF g i
  | 0, _ => rfl
  | i + 1, h => by rw [natF, natF, natF_congr i (fun j hj => h j (by omega)), h i (by omega)]
theorem getDi_set (l : List Int) (i j : Nat) (x : Int) (hi : i < l.length) : (l.set i x).getD j 0 = if i = j then x else l.getD j 0 := by
  simp only [List.getD, List.getElem?_set]
  split
  · rename_i h
    subst h
    simp
  · rfl
theorem putF_get (bs : List Int) (p : Nat) (x : Int) : ∀ i, p + i ≤ bs.length → ∀ q, (putF bs p x i).getD q 0 = if p ≤ q ∧ q < p + i then x / 2 ^ (8 * (q - p)) % 256 else bs.getD q 0
  | 0, _, q => by rw [putF, if_neg (by omega)]
  | i + 1, h, q => by
    rw [putF, getDi_set _ _ _ _ (by rw [putF_len]; omega), putF_get bs p x i (by omega) q]
    by_cases h1 : p + i = q
    · rw [if_pos h1, if_pos (by omega)]
      rw [show q - p = i by omega]
    · rw [if_neg h1]
      by_cases h2 : p ≤ q ∧ q < p + i
      · rw [if_pos h2, if_pos (by omega)]
      · rw [if_neg h2, if_neg (by omega)]
theorem natF_div (x : Int) : ∀ i, (natF (fun j => (x / 2 ^ (8 * j) % 256).toNat) i : Int) = x % 2 ^ (8 * i)
  | 0 => by simp [natF]
  | i + 1 => by
    have h1 := natF_div x i
    have e : (2 : Int) ^ (8 * (i + 1)) = 2 ^ (8 * i) * 256 := by rw [show 8 * (i + 1) = 8 * i + 8 by omega, Int.pow_add]; rfl
    have h2 : 0 ≤ x / 2 ^ (8 * i) % 256 := Int.emod_nonneg _ (by decide)
    rw [natF, Int.natCast_add, h1, Int.natCast_mul, Int.toNat_of_nonneg h2, e, Int.natCast_pow]
    have hp : (0 : Int) ≤ 2 ^ (8 * i) := Int.pow_nonneg (by decide)
    have h3 : x % (2 ^ (8 * i) * 256) = x % 2 ^ (8 * i) + 2 ^ (8 * i) * (x / 2 ^ (8 * i) % 256) := by
      have a1 := Int.emod_add_mul_ediv x (2 ^ (8 * i) * 256)
      have a2 := Int.emod_add_mul_ediv x (2 ^ (8 * i))
      have a3 := Int.emod_add_mul_ediv (x / 2 ^ (8 * i)) 256
      have a4 : x / (2 ^ (8 * i) * 256) = x / 2 ^ (8 * i) / 256 := (Int.ediv_ediv_of_nonneg hp).symm
      rw [a4] at a1
      generalize x / 2 ^ (8 * i) = q at *
      generalize (2 : Int) ^ (8 * i) = P at *
      have a5 : P * q = P * (q % 256) + P * 256 * (q / 256) := by
        conv => lhs; rw [← a3]
        rw [Int.mul_add, Int.mul_assoc]
      omega
    rw [h3, Int.mul_comm (x / 2 ^ (8 * i) % 256)]
    rfl
/-- a cell -/
def Cell6 (x : Int) : Prop := -9223372036854775808 ≤ x ∧ x < 9223372036854775808
theorem getF_put (bs : List Int) (p : Nat) (x : Int) (h : p + 8 ≤ bs.length) (hx : Cell6 x) : getF (putF bs p x 8) p = x := by
  unfold getF
  rw [orF_nat _ p (fun j => (x / 2 ^ (8 * j) % 256).toNat) 8 (by decide) (fun j hj => ?_)]
  · rw [natF_div x 8]
    obtain ⟨h1, h2⟩ := hx
    show wrap64 (x % 2 ^ 64) = x
    unfold wrap64
    omega
  · have h2 : 0 ≤ x / 2 ^ (8 * j) % 256 := Int.emod_nonneg _ (by decide)
    have h3 : x / 2 ^ (8 * j) % 256 < 256 := Int.emod_lt_of_pos _ (by decide)
    rw [putF_get bs p x 8 h, if_pos (by omega), show p + j - p = j by omega]
    show _ = (((x / 2 ^ (8 * j) % 256).toNat : Nat) : Int) ∧ _
    generalize x / 2 ^ (8 * j) % 256 = y at *
    show y = (y.toNat : Int) ∧ y.toNat < 256
    omega
theorem orF_congr {cs bs : List Int} {p : Nat} : ∀ i, (∀ j, j < i → cs.getD (p + j) 0 = bs.getD (p + j) 0) → orF cs p i = orF bs p i
  | 0, _ => rfl
  | i + 1, h => by rw [orF, orF, orF_congr i (fun j hj => h j (by omega)), h i (by omega)]
theorem getF_far (bs : List Int) (p q : Nat) (x : Int) (h : p + 8 ≤ bs.length) (hq : q + 8 ≤ p ∨ p + 8 ≤ q) : getF (putF bs p x 8) q = getF bs q :=
  orF_congr 8 (fun j hj => by rw [putF_get bs p x 8 h, if_neg (by omega)])
theorem filL_get (bs : List Int) (p : Nat) (c : Int) : ∀ i, p + i ≤ bs.length → ∀ q, (filL bs p c i).getD q 0 = if p ≤ q ∧ q < p + i then c else bs.getD q 0
  | 0, _, q => by rw [filL, if_neg (by omega)]
  | i + 1, h, q => by
    rw [filL, getDi_set _ _ _ _ (by rw [filL_len]; omega), filL_get bs p c i (by omega) q]
    by_cases h1 : p + i = q
    · rw [if_pos h1, if_pos (by omega)]
    · rw [if_neg h1]
      by_cases h2 : p ≤ q ∧ q < p + i
      · rw [if_pos h2, if_pos (by omega)]
      · rw [if_neg h2, if_neg (by omega)]
theorem getF_fil (bs : List Int) (p : Nat) (c : Nat) (h : p + 8 ≤ bs.length) (hc : c < 256) : getF (filL bs p c 8) p = wrap64 ((c : Int) * 72340172838076673) := by
  unfold getF
  rw [orF_nat _ p (fun _ => c) 8 (by decide) (fun j hj => ⟨by rw [filL_get bs p c 8 h, if_pos (by omega)], hc⟩)]
  simp only [natF]
  congr 1
  omega
/-- eight at a time, upwards -/
theorem down8 (y : Int) (hy : Cell6 y) : bits .andNot .i64 y 7 = y - y % 8 := by
  have h7 : (BitVec.ofInt 64 7) = 7#64 := by decide
  have key : (BitVec.ofInt 64 y &&& ~~~BitVec.ofInt 64 7).toNat = (y % 18446744073709551616).toNat / 8 * 8 := by
    rw [h7, BitVec.toNat_and, BitVec.toNat_ofInt]
    rw [show (~~~7#64).toNat = 18446744073709551608 from by decide]
    rw [nat_hi64_3]
    have : ((y % ((2 ^ 64 : Nat) : Int)).toNat) = (y % 18446744073709551616).toNat := rfl
    rw [this]
    omega
  show IntKind.i64.wrap ((BitVec.ofInt 64 y &&& ~~~BitVec.ofInt 64 7).toNat : Nat) = _
  rw [key, IntKind.wrap_i64]
  obtain ⟨h1, h2⟩ := hy
  omega
end Go.Proofs.YtkbchpaofmlhgaaGreatDoor

/- PrimTells: what its walk needs. -/
namespace Go.Proofs.YtkbchpaofmlhgaaGreatDoor
open Go.RowKit

theorem doP_ok {n : Nat} {act : List Int → PS → (List Int × Int) × PS} {S T : PS} {rest l o : List Int} (hst : S.st = rest ++ l) (hl : l.length = n) (ha : act l { S with st := rest } = ((o, 0), T)) (ht : T.st = rest) (hlen : rest.length + o.length ≤ 128) :
    doP n act S = (0, { T with st := rest ++ o }) := by
  unfold doP
  have h1 : ¬ S.st.length < n := by rw [hst, List.length_append]; omega
  have h2 : S.st.length - n = rest.length := by rw [hst, List.length_append]; omega
  rw [if_neg h1, h2]
  have h3 : S.st.drop rest.length = l := by rw [hst]; simp
  have h4 : S.st.take rest.length = rest := by rw [hst]; simp
  rw [h3, h4, ha]
  simp only [if_true, ht]
  rw [if_pos hlen]
theorem live_doP {w0 w : World} {s : Nat} {S T : PS} {op : Int} {n : Nat} {pre : List Int → PS → Prop} {act : List Int → PS → (List Int × Int) × PS} (h : Live w0 w s S) (hsem : OpSem op n pre act) (h1 : 43 ≤ op) (h2 : op ≤ 107) (h3 : op < 61 ∨ 70 < op) (hn : n ≤ 4) (hok : S.ok)
    (rest l o : List Int) (hst : S.st = rest ++ l) (hl : l.length = n) (hlen : S.st.length ≤ 128) (hpre : pre l { S with st := rest }) (ha : act l { S with st := rest } = ((o, 0), T)) (ht : T.st = rest) (hlen2 : rest.length + o.length ≤ 128) :
    Calls Tryz.prog 14 #[.pointer (some ⟨s, 0, none⟩), .int .i64 op] w fun e w' => e = .returned (.int .i64 0) ∧ Live w0 w' s { T with st := rest ++ o } := by
  have hD := live_do h hsem h1 h2 h3 hn hok hlen (fun _ => by
    have h2 : S.st.length - n = rest.length := by rw [hst, List.length_append]; omega
    rw [h2]
    have h3 : S.st.drop rest.length = l := by rw [hst]; simp
    have h4 : S.st.take rest.length = rest := by rw [hst]; simp
    rw [h3, h4]
    exact hpre)
  rw [doP_ok hst hl ha ht hlen2] at hD
  exact hD
theorem strL_append (a b : ByteArray) : strL (a ++ b) = strL a ++ strL b := by
  unfold strL
  rw [ByteArray.data_append, Array.toList_append, List.map_append]
theorem told_more {out : List Int} {want t : ByteArray} (h : out = (strL want).take 4000) : sayL out t = (strL (want ++ t)).take 4000 := by
  unfold sayL
  rw [strL_append, List.take_append, h, List.length_take]
  congr 2
  omega
/-- so many blanks -/
def blanks (k : Nat) : ByteArray := ⟨(List.replicate k (32 : UInt8)).toArray⟩
theorem blanks_size (k : Nat) : (blanks k).size = k := by simp [blanks, ByteArray.size]
theorem filL_rep (k : Nat) : ∀ j, j ≤ k → filL (List.replicate k 0) 0 32 j = List.replicate j 32 ++ List.replicate (k - j) 0
  | 0, _ => by simp [filL]
  | j + 1, h => by
    rw [filL, filL_rep k j (by omega)]
    have e : k - j = (k - (j + 1)) + 1 := by omega
    rw [e, List.replicate_succ (n := k - (j + 1)), Nat.zero_add]
    rw [List.set_append_right _ _ (by simp)]
    simp only [List.length_replicate, Nat.sub_self, List.set_cons_zero]
    rw [List.replicate_succ' (n := j)]
    simp
theorem nums_blanks (k : Nat) : strOfNums (List.replicate k 32) = blanks k := by
  unfold strOfNums blanks
  rw [List.map_replicate]
  rfl
theorem blk_row {w : World} {g k : Nat} {l : List Int} (h : Blk w g 5 (bytesV l).toArray) (hl : l.length = k) (hk : k ≤ 65536) : w.ownsRow 0 5 1 (.slice (some ⟨g, 0, none⟩) k k) l.length (bytesV l) := by
  subst hl
  refine ⟨by simp [bytesV], .inr ⟨g, l.length, _, rfl, Nat.zero_le _, h, Nat.le_refl _, by unfold maxLen; omega, by simp [bytesV], ?_⟩⟩
  rw [Nat.mul_one]
  exact List.take_of_length_le (by simp [bytesV])
set_option maxHeartbeats 1000000 in
theorem fill_any (n : Nat) (w : World) : Calls Tryz.prog 37 #[.int .i64 n] w fun e w' => ∃ v, e = .returned v ∧ BRow w' v (List.replicate (min n 4000) 32) ∧ Touch [] w w' := by
  have hmin : min (n : Int) 4000 = (min n 4000 : Nat) := by omega
  have hk4 : min n 4000 ≤ 4000 := Nat.min_le_right _ _
  obtain ⟨k, hk⟩ : ∃ k, min n 4000 = k := ⟨_, rfl⟩
  rw [hk] at hmin hk4 ⊢
  clear hk
  have hmk := fun W => make_bytes k (by omega) W
  go_enter Tryz.func37, Tryz.ntmps37
  go_wp2_with fail
  have b0 := Blk.new w 5 (bytesV (List.replicate k 0)).toArray
  have t0 := (Touch.refl [] w).alloc (.cells (bytesV (List.replicate k 0)).toArray 5)
  have H0 : Hid (Blk (w.alloc (.cells (bytesV (List.replicate k 0)).toArray 5)) w.heap.size 5 (bytesV (filL (List.replicate k 0) 0 32 0)).toArray ∧ Touch [] w (w.alloc (.cells (bytesV (List.replicate k 0)).toArray 5))) := ⟨b0, t0⟩
  clear b0 t0
  go_loopw [10] (fun i wr => ∃ j : Nat, j ≤ k ∧ i = .int .i64 j ∧ Blk wr w.heap.size 5 (bytesV (filL (List.replicate k 0) 0 32 j)).toArray ∧ Touch [] w wr) (fun i _ => k - (intOf i).toNat)
  case atStart => exact ⟨0, Nat.zero_le _, rfl, H0.out.1, H0.out.2⟩
  case round =>
    obtain ⟨j, hj, rfl, hb, t2⟩ := hrel
    by_cases hlt : j < k
    · have hlt2 : (j : Int) < k := by omega
      have ej : IntKind.i64.wrap ((j : Int) + 1) = (j + 1 : Nat) := by rw [IntKind.wrap_i64]; omega
      have hlen : (filL (List.replicate k 0) 0 32 j).length = k := by rw [filL_len]; simp
      have hcell : wr.cell? ⟨w.heap.size, j, none⟩ = some (.int .u8 ((filL (List.replicate k 0) 0 32 j).getD j 0)) := by
        rw [hb.cell j]
        simp [bytesV, List.getD, List.getElem?_eq_getElem (show j < (filL (List.replicate k 0) 0 32 j).length by omega)]
      have hfz := hb.frozen j
      have hb2 := hb.set_ j (.int .u8 32)
      have e : (bytesV (filL (List.replicate k 0) 0 32 j)).toArray.setIfInBounds j (.int .u8 32) = (bytesV (filL (List.replicate k 0) 0 32 (j + 1))).toArray := by
        rw [filL, Nat.zero_add]
        simp [bytesV, List.setIfInBounds_toArray, List.map_set]
      rw [e] at hb2
      have HF := Lib.hid (And.intro hb2 (t2.setCell (p := ⟨w.heap.size, j, none⟩) (.inr (Nat.le_refl _)) (.int .u8 32)))
      clear hb t2 hb2 e hlen
      go_wp2_with fail
      go_roundw
      case rel => exact ⟨j + 1, by omega, vint (by omega), HF.out.1, HF.out.2⟩
      case measure => simp only [intOf]; omega
    · obtain rfl : j = k := by omega
      have HF := Lib.hid (And.intro hb t2)
      clear hb t2 hlt
      go_wp2_with fail
      go_ret
      refine ⟨_, rfl, ?_, HF.out.2⟩
      have e : filL (List.replicate j 0) 0 32 j = List.replicate j 32 := by rw [filL_rep j j (Nat.le_refl _)]; simp
      have h := HF.out.1
      rw [e] at h
      exact ⟨blk_row h (by simp) (by omega), fun x hx => by rw [List.eq_of_mem_replicate hx]; decide⟩
theorem cut_noted (bs l : List Int) (p : Nat) (h : p ≤ bs.length) : cutL (wrtL bs p l) p l.length = l := by
  unfold cutL wrtL
  rw [List.append_assoc]
  have h1 : (bs.take p).length = p := by simp; omega
  rw [List.drop_append, List.drop_eq_nil_of_le (by omega), h1, Nat.sub_self, List.drop_zero, List.nil_append]
  simp
theorem live_spaces {w0 w : World} {s : Nat} {S : PS} (h : Live w0 w s S) (hok : S.ok) {u : Nat} (hst : S.st = [(u : Int)]) :
    Calls Tryz.prog 14 #[.pointer (some ⟨s, 0, none⟩), .int .i64 97] w fun e w' => e = .returned (.int .i64 0) ∧ Live w0 w' s { S with st := [], out := sayL S.out (blanks (min u 4000)) } := by
  have e : (min (max (u : Int) 0) 4000).toNat = min u 4000 := by omega
  exact live_doP (T := { S with st := [], out := sayL S.out (blanks (min u 4000)) }) h spaces_sem (by decide) (by decide) (by decide) (by decide) hok [] [(u : Int)] [] hst rfl (by rw [hst]; exact (by decide : 1 ≤ 128)) trivial (by
    rw [List.getD_cons_zero, e]
    rfl) rfl (by decide)
theorem live_type {w0 w : World} {s : Nat} {S : PS} (h : Live w0 w s S) (hok : S.ok) {p k : Nat} (hst : S.st = [(p : Int), (k : Int)]) (hpk : p + k ≤ S.n) :
    Calls Tryz.prog 14 #[.pointer (some ⟨s, 0, none⟩), .int .i64 98] w fun e w' => e = .returned (.int .i64 0) ∧ Live w0 w' s { S with st := [], out := sayL S.out (S.text p k) } :=
  live_doP (T := { S with st := [], out := sayL S.out (S.text p k) }) h type_sem (by decide) (by decide) (by decide) (by decide) hok [] [(p : Int), (k : Int)] [] hst rfl (by rw [hst]; exact (by decide : 2 ≤ 128)) ⟨p, k, rfl, hpk⟩ rfl rfl (by decide)
end Go.Proofs.YtkbchpaofmlhgaaGreatDoor

/- The contract of stack's shapes: which cells are taken, and which are put. -/
namespace Go.Proofs.YtkbchpaofmlhgaaGreatDoor
open Go.RowKit

def places (ps : List Nat) : ByteArray := ⟨(ps.map fun i => UInt8.ofNat (97 + i)).toArray⟩
def ShapeSays (op : Int) (t : Int) (s : ByteArray) (w : World) : Prop :=
  Calls Tryz.prog 71 #[.int .i64 op] w fun e w' => e = .returned (.tuple #[.agg #[.int .i64 t, .string s], .bool true]) ∧ Touch [] w w'

set_option maxRecDepth 100000 in
theorem Shape_0 (w : World) : ShapeSays 28 1 ⟨#[97, 97]⟩ w := by
  unfold ShapeSays
  go_enter Tryz.func71, Tryz.ntmps71
  go_wp2
  refine bodyPost_ret (by simp [results, Tryz.results71, go_sem]; try rfl) rfl ⟨rfl, ?_⟩
  exact ((Touch.refl [] w).alloc _).alloc _
set_option maxRecDepth 100000 in
theorem Shape_1 (w : World) : ShapeSays 29 1 ⟨#[]⟩ w := by
  unfold ShapeSays
  go_enter Tryz.func71, Tryz.ntmps71
  go_wp2
  refine bodyPost_ret (by simp [results, Tryz.results71, go_sem]; try rfl) rfl ⟨rfl, ?_⟩
  exact ((Touch.refl [] w).alloc _).alloc _
set_option maxRecDepth 100000 in
theorem Shape_2 (w : World) : ShapeSays 30 2 ⟨#[98, 97]⟩ w := by
  unfold ShapeSays
  go_enter Tryz.func71, Tryz.ntmps71
  go_wp2
  refine bodyPost_ret (by simp [results, Tryz.results71, go_sem]; try rfl) rfl ⟨rfl, ?_⟩
  exact ((Touch.refl [] w).alloc _).alloc _
set_option maxRecDepth 100000 in
theorem Shape_3 (w : World) : ShapeSays 31 2 ⟨#[97, 98, 97]⟩ w := by
  unfold ShapeSays
  go_enter Tryz.func71, Tryz.ntmps71
  go_wp2
  refine bodyPost_ret (by simp [results, Tryz.results71, go_sem]; try rfl) rfl ⟨rfl, ?_⟩
  exact ((Touch.refl [] w).alloc _).alloc _
set_option maxRecDepth 100000 in
theorem Shape_4 (w : World) : ShapeSays 32 3 ⟨#[98, 99, 97]⟩ w := by
  unfold ShapeSays
  go_enter Tryz.func71, Tryz.ntmps71
  go_wp2
  refine bodyPost_ret (by simp [results, Tryz.results71, go_sem]; try rfl) rfl ⟨rfl, ?_⟩
  exact ((Touch.refl [] w).alloc _).alloc _
set_option maxRecDepth 100000 in
theorem Shape_5 (w : World) : ShapeSays 33 2 ⟨#[98]⟩ w := by
  unfold ShapeSays
  go_enter Tryz.func71, Tryz.ntmps71
  go_wp2
  refine bodyPost_ret (by simp [results, Tryz.results71, go_sem]; try rfl) rfl ⟨rfl, ?_⟩
  exact ((Touch.refl [] w).alloc _).alloc _
set_option maxRecDepth 100000 in
theorem Shape_6 (w : World) : ShapeSays 34 2 ⟨#[98, 97, 98]⟩ w := by
  unfold ShapeSays
  go_enter Tryz.func71, Tryz.ntmps71
  go_wp2
  refine bodyPost_ret (by simp [results, Tryz.results71, go_sem]; try rfl) rfl ⟨rfl, ?_⟩
  exact ((Touch.refl [] w).alloc _).alloc _
set_option maxRecDepth 100000 in
theorem Shape_7 (w : World) : ShapeSays 35 1 ⟨#[97, 97]⟩ w := by
  unfold ShapeSays
  go_enter Tryz.func71, Tryz.ntmps71
  go_wp2
  refine bodyPost_ret (by simp [results, Tryz.results71, go_sem]; try rfl) rfl ⟨rfl, ?_⟩
  exact ((Touch.refl [] w).alloc _).alloc _
set_option maxRecDepth 100000 in
theorem Shape_8 (w : World) : ShapeSays 36 2 ⟨#[97, 98, 97, 98]⟩ w := by
  unfold ShapeSays
  go_enter Tryz.func71, Tryz.ntmps71
  go_wp2
  refine bodyPost_ret (by simp [results, Tryz.results71, go_sem]; try rfl) rfl ⟨rfl, ?_⟩
  exact ((Touch.refl [] w).alloc _).alloc _
set_option maxRecDepth 100000 in
theorem Shape_9 (w : World) : ShapeSays 37 2 ⟨#[]⟩ w := by
  unfold ShapeSays
  go_enter Tryz.func71, Tryz.ntmps71
  go_wp2
  refine bodyPost_ret (by simp [results, Tryz.results71, go_sem]; try rfl) rfl ⟨rfl, ?_⟩
  exact ((Touch.refl [] w).alloc _).alloc _
set_option maxRecDepth 100000 in
theorem Shape_10 (w : World) : ShapeSays 38 4 ⟨#[99, 100, 97, 98]⟩ w := by
  unfold ShapeSays
  go_enter Tryz.func71, Tryz.ntmps71
  go_wp2
  refine bodyPost_ret (by simp [results, Tryz.results71, go_sem]; try rfl) rfl ⟨rfl, ?_⟩
  exact ((Touch.refl [] w).alloc _).alloc _
set_option maxRecDepth 100000 in
theorem Shape_11 (w : World) : ShapeSays 39 4 ⟨#[97, 98, 99, 100, 97, 98]⟩ w := by
  unfold ShapeSays
  go_enter Tryz.func71, Tryz.ntmps71
  go_wp2
  refine bodyPost_ret (by simp [results, Tryz.results71, go_sem]; try rfl) rfl ⟨rfl, ?_⟩
  exact ((Touch.refl [] w).alloc _).alloc _

/-- how many are taken, and which are put, by each word -/
def shapesF : List (Nat × List Nat) := [(1, [0, 0]), (1, []), (2, [1, 0]), (2, [0, 1, 0]), (3, [1, 2, 0]), (2, [1]), (2, [1, 0, 1]), (1, [0, 0]), (2, [0, 1, 0, 1]), (2, []), (4, [2, 3, 0, 1]), (4, [0, 1, 2, 3, 0, 1])]
theorem Shape_any (k : Nat) (hk : k < 12) (w : World) : ShapeSays (28 + k : Nat) ((shapesF.getD k (0, [])).1 : Nat) (places (shapesF.getD k (0, [])).2) w := by
  match k, hk with
  | 0, _ => exact Shape_0 w
  | 1, _ => exact Shape_1 w
  | 2, _ => exact Shape_2 w
  | 3, _ => exact Shape_3 w
  | 4, _ => exact Shape_4 w
  | 5, _ => exact Shape_5 w
  | 6, _ => exact Shape_6 w
  | 7, _ => exact Shape_7 w
  | 8, _ => exact Shape_8 w
  | 9, _ => exact Shape_9 w
  | 10, _ => exact Shape_10 w
  | 11, _ => exact Shape_11 w
end Go.Proofs.YtkbchpaofmlhgaaGreatDoor

/- The contract of stack's Do, at a word that takes some cells and puts some of them. -/
namespace Go.Proofs.YtkbchpaofmlhgaaGreatDoor
open Go.RowKit

theorem places_size (ps : List Nat) : (places ps).size = ps.length := by simp [places, ByteArray.size]
theorem places_at (ps : List Nat) (hps : ∀ i ∈ ps, i < 4) (j : Nat) (hj : j < (places ps).size) : ((places ps)[j]'hj).toNat = 97 + ps.getD j 0 := by
  have hl : j < ps.length := by rw [places_size] at hj; exact hj
  have h1 : (places ps)[j]'hj = UInt8.ofNat (97 + ps.getD j 0) := by
    have : (places ps)[j]'hj = (ps.map fun i => UInt8.ofNat (97 + i)).toArray[j]'(by simpa using hl) := rfl
    rw [this]
    simp [List.getD, List.getElem?_eq_getElem hl]
  have h2 := hps (ps.getD j 0) (by rw [List.getD, List.getElem?_eq_getElem hl]; exact List.getElem_mem hl)
  rw [h1]
  generalize ps.getD j 0 = x at h2
  simp
  omega

theorem iter_touch {F : List Nat} {a w : World} (h : Touch F a w) {k : Nat} (hk : k ∈ F ∨ a.heap.size ≤ k) (s : ByteArray) (pos : Nat) : Touch F a (w.iterAt k s pos) :=
  h.trans (G := [k]) ⟨rfl, rfl, rfl, by rw [Lib.iterAt_size]; exact Nat.le_refl _, fun i _ hi => Lib.iterAt_other w k i s pos (by simpa using hi)⟩ (by simpa using hk)
theorem StackAt.iter {w : World} {b : Nat} {F : List Nat} {L : List Int} (h : StackAt w b F L) {k : Nat} (hk : k ∉ F) (s : ByteArray) (pos : Nat) : StackAt (w.iterAt k s pos) b F L :=
  h.touch (iter_touch (Touch.refl [k] w) (by simp) s pos) (by simp; rintro f hf rfl; exact hk hf)

/-- what the loop of Do has made after j rounds -/
def DoAt (w : World) (b : Nat) (F : List Nat) (A : List Int) (v : Value) (M : List Int) (it : Nat) (s : ByteArray) (ps : List Nat) (j : Nat) (wr : World) : Prop :=
  ∃ F', StackAt wr b F' (A ++ (ps.take j).map fun i => M.getD i 0) ∧ Touch F w wr ∧ Sub w F F' ∧ it ∉ F' ∧ w.heap.size ≤ it ∧ (∀ g ∈ rowOf v, g ∉ F' ∧ g ≠ it ∧ w.heap.size ≤ g) ∧ wr.ownsRow 0 36 1 v M.length (cells M) ∧ wr.heap[it]? = some (.stringIter s j)

set_option maxRecDepth 100000 in
set_option maxHeartbeats 4000000 in
theorem Do_shape (w : World) (b : Nat) (F : List Nat) (L : List Int) (h : StackAt w b F L) (op : Int) (t : Nat) (ps : List Nat) (hS : ∀ w, ShapeSays op t (places ps) w) (hps : ∀ i ∈ ps, i < t) (ht4 : t ≤ 4) (hp6 : ps.length ≤ 6)
    (h40 : ¬ op = 40) (h41 : ¬ op = 41) (h42 : ¬ op = 42) (h35 : ¬ op = 35) (hL : L.length ≤ 128) (ht : t ≤ L.length) (hroom : L.length - t + ps.length ≤ 128) :
    Calls Tryz.prog 42 #[.pointer (some ⟨b, 0, none⟩), .int .i64 op] w fun e w' =>
      ∃ F', e = .returned (.int .i64 0) ∧ StackAt w' b F' (L.take (L.length - t) ++ ps.map fun i => (L.drop (L.length - t)).getD i 0) ∧ Touch F w w' ∧ Sub w F F' := by
  obtain ⟨s, hs⟩ : ∃ s, places ps = s := ⟨_, rfl⟩
  have hsz : s.size = ps.length := by rw [← hs, places_size]
  have hat : ∀ j (hj : j < s.size), (s[j]'hj).toNat = 97 + ps.getD j 0 := by
    subst hs
    exact places_at ps (fun i hi => by have := hps i hi; omega)
  rw [hs] at hS
  obtain ⟨v0, hb0, hF0, hnb0, hr0⟩ := id h
  obtain ⟨a0, c0, rfl⟩ := row_value hr0
  have HL := Lib.hid h.lt
  have H := Lib.hid h
  have g0 := hb0.cell 0
  obtain ⟨n, hn⟩ : ∃ n, L.length = n := ⟨_, rfl⟩
  have Hh := Lib.hid (And.intro hps hat)
  have Hn := Lib.hid hn
  rw [hn] at hL ht hroom g0 ⊢
  have Hb := Lib.hid hb0
  clear h hb0 hF0 hnb0 hr0 hps hat hn hs
  obtain ⟨m, hm⟩ : ∃ m, n - t = m := ⟨_, rfl⟩
  rw [hm] at hroom ⊢
  have e1 : ¬ (n : Int) < t := by omega
  have e2 : IntKind.i64.wrap ((n : Int) - t) = m := by rw [IntKind.wrap_i64]; omega
  have e3 : IntKind.i64.wrap ((m : Int) + (s.size : Int)) = (m + ps.length : Nat) := by rw [IntKind.wrap_i64, hsz]; omega
  have e4 : ¬ ((m + ps.length : Nat) : Int) > 128 := by omega
  go_enter Tryz.func42, Tryz.ntmps42
  have b40 : (op == 40) = false := by simp [h40]
  have b41 : (op == 41) = false := by simp [h41]
  have b42 : (op == 42) = false := by simp [h42]
  have b35 : (op == 35) = false := by simp [h35]
  go_wp2_with fail
  refine (hS _).mono ?_
  rintro _ w1 ⟨rfl, t1⟩
  go_upto_region 8 with (fail)
  have hFw : ∀ f, f ∈ F → f < w1.heap.size := fun f hf => Nat.lt_of_lt_of_le (HL.out f hf) t1.size
  have hSA : StackAt (w1.alloc (.cells #[.int .i64 t, .string s] 120)) b F L := (H.out.touch t1 (by simp)).alloc _
  have bA := Blk.new w1 120 #[.int .i64 t, .string s]
  have tA := t1.alloc (.cells #[.int .i64 t, .string s] 120)
  have hbF : b ∈ F := by obtain ⟨v, _, rfl, _⟩ := H.out; simp
  have g1 : (w1.alloc (.cells #[.int .i64 t, .string s] 120)).cell? ⟨b, 0, none⟩ = some (.slice a0 n c0) := (tA.cell (p := ⟨b, 0, none⟩) (HL.out b hbF) (by simp)).trans g0
  have hFS : w1.heap.size ∉ F := fun hf => Nat.lt_irrefl _ (hFw _ hf)
  have hSw : w.heap.size ≤ w1.heap.size := t1.size
  generalize hwA : w1.alloc (.cells #[.int .i64 t, .string s] 120) = wA at *
  generalize hBS : w1.heap.size = BS at *
  clear hwA hBS t1 g0 Hb
  have hT := Take_ok wA b F L hSA t (by rw [Hn.out]; omega) (by rw [Hn.out]; omega)
  rw [Hn.out, hm] at hT
  have hML : (L.drop m).length = t := by rw [List.length_drop, Hn.out]; omega
  have z0 := bA.cell 0
  have z1 := bA.cell 1
  have HA := Lib.hid tA
  have HS := Lib.hid hSA
  clear tA hSA
  go_wp2_with fail
  refine hT.mono ?_
  rintro _ w2 ⟨v, rfl, hown, hS2, t2⟩
  have hBA := bA.lt
  have y0 := (t2.cell (p := ⟨BS, 0, none⟩) hBA hFS).trans z0
  have y1 := (t2.cell (p := ⟨BS, 1, none⟩) hBA hFS).trans z1
  have T2 := Lib.hid ((HA.out.mono (G := F) (by simp)).trans t2 (fun g hg => .inl hg))
  clear hT z0 z1 bA g1
  go_upto_region 19 with (fail)
  have hAlen : (L.take m).length = m := by rw [List.length_take, Hn.out]; omega
  have D0 : DoAt w b F (L.take m) v (L.drop m) w2.heap.size s ps 0 (w2.iter s 0) := by
    refine ⟨F, by rw [List.take_zero, List.map_nil, List.append_nil]; exact hS2.alloc _, T2.out.alloc _, Sub.refl _ _, fun hf => Nat.lt_irrefl _ (Nat.lt_of_lt_of_le (HL.out _ hf) T2.out.size), T2.out.size, ?_, ?_, World.iter_heap w2 s 0⟩
    · intro g hg
      have h1 := hown.lt g (rowOf_mem.1 hg)
      have h2 := HA.out.size
      exact ⟨fun hf => by have := HL.out _ hf; omega, by omega, by omega⟩
    · rw [hML]
      exact (Go.Joins.ownsRow_le hown (Nat.zero_le _)).alloc _
  have hv : ∃ a c, v = .slice a t c := row_value (Go.Joins.ownsRow_le hown (Nat.zero_le _))
  obtain ⟨av, cv, rfl⟩ := hv
  generalize w2.iter s 0 = W0 at D0 ⊢
  generalize w2.heap.size = it at D0 ⊢
  generalize hA : L.take m = A at *
  generalize hM : L.drop m = M at *
  clear hS2 hown t2 y0 y1 T2 HA HS HL H hS hbF hFS hFw hSw hBA
  have HAM := Lib.hid (And.intro hA hM)
  clear hA hM
  go_loopg [11] ps.length (fun gf _ wr => ∃ j, j ≤ ps.length ∧ ps.length ≤ j + gf ∧ DoAt w b F A (.slice av t cv) M it s ps j wr)
  case atStart => exact ⟨0, by omega, by omega, D0⟩
  case round =>
    obtain ⟨j, hj, hgj, hD⟩ := hrel
    clear D0
    by_cases hlt : j < ps.length
    · obtain ⟨g', rfl⟩ : ∃ g', gk = g' + 1 := ⟨gk - 1, by omega⟩
      have hjs : j < s.size := by omega
      obtain ⟨p, hp⟩ : ∃ p, ps.getD j 0 = p := ⟨_, rfl⟩
      have hpt : p < t := by
        have := Hh.out.1 (ps.getD j 0) (by rw [List.getD, List.getElem?_eq_getElem hlt]; exact List.getElem_mem hlt)
        omega
      have hch := Hh.out.2 j hjs
      rw [hp] at hch
      obtain ⟨F', d1, d2, d3, d4, d5, d6, d7, d8⟩ := hD
      have hnx : ∀ ty, (Instr.next (.pointer (some ⟨it, 0, none⟩)) true ty).run Tryz.prog wr = _ := fun ty => Lib.run_next_ascii_at wr it s j ty d8 hjs (by omega)
      rw [hch] at hnx
      have i8 := Lib.iterAt_heap wr it s j (j + 1) d8
      have i1 := d1.iter d4 s (j + 1)
      have i2 := iter_touch d2 (k := it) (.inr d5) s (j + 1)
      have i7 : (wr.iterAt it s (j + 1)).ownsRow 0 36 1 (.slice av t cv) M.length (cells M) := row_touch d7 (iter_touch (Touch.refl [it] wr) (by simp) s (j + 1)) (fun g hg hf => (d6 g hg).2.1 (by simpa using hf))
      generalize wr.iterAt it s (j + 1) = W at *
      obtain ⟨g, rfl⟩ : ∃ g, av = some ⟨g, 0, none⟩ := by
        rcases Go.Joins.ownsRow_forms i7 with ⟨e, e'⟩ | ⟨g, cap, e⟩
        · omega
        · cases e; exact ⟨g, rfl⟩
      have i7' := i7
      rw [hML] at i7'
      have hcell : W.cell? ⟨g, p, none⟩ = some (.int .i64 (M.getD p 0)) := by
        rw [i7'.cellAt p (by omega)]
        exact cells_get M p (by omega)
      obtain ⟨x, hx⟩ : ∃ x, M.getD p 0 = x := ⟨_, rfl⟩
      rw [hx] at hcell
      have hPu := Push_ok W b F' _ i1 (by rw [List.length_append, List.length_map, List.length_take, hAlen]; omega) x
      have K := Lib.hid (And.intro i8 (And.intro i2 (And.intro i7 (And.intro d3 (And.intro d4 (And.intro d5 d6))))))
      clear d1 d2 d3 d4 d5 d6 d7 d8 i8 i1 i2 i7 i7' hch
      have ep : IntKind.i32.wrap ((97 + p : Nat) - 97) = p := by rw [IntKind.wrap_i32]; omega
      have Hx := Lib.hid (And.intro hx hp)
      clear hx hp
      go_wp2_with fail
      refine hPu.mono ?_
      rintro _ w3 ⟨F'', rfl, hs3, t3, hsub3⟩
      obtain ⟨i8, i2, i7, d3, d4, d5, d6⟩ := K.out
      have hD3 : DoAt w b F A (.slice (some ⟨g, 0, none⟩) t cv) M it s ps (j + 1) w3 := by
        have hWs : w.heap.size ≤ W.heap.size := i2.size
        have hitW : it < W.heap.size := (Array.getElem?_eq_some_iff.1 i8).1
        have hgW : ∀ g' ∈ rowOf (.slice (some ⟨g, 0, none⟩) t cv), g' < W.heap.size := fun g' hg' => row_lt i7 hg'
        refine ⟨F'', ?_, i2.trans t3 d3, Sub.trans d3 hsub3 hWs, ?_, d5, ?_, ?_, ?_⟩
        · have e : (ps.take (j + 1)).map (fun i => M.getD i 0) = (ps.take j).map (fun i => M.getD i 0) ++ [x] := by
            rw [List.take_add_one, List.map_append]
            congr 1
            have := Hx.out.1
            have h2 := Hx.out.2
            rw [List.getElem?_eq_getElem hlt]
            rw [List.getD, List.getElem?_eq_getElem hlt] at h2
            simp only [Option.getD_some] at h2
            simp [h2]
            exact this
          rw [e, ← List.append_assoc]
          exact hs3
        · intro hf
          rcases hsub3 _ hf with h | h
          · exact d4 h
          · omega
        · intro g' hg'
          refine ⟨fun hf => ?_, (d6 g' hg').2⟩
          rcases hsub3 _ hf with h | h
          · exact (d6 g' hg').1 h
          · have := hgW g' hg'; omega
        · exact row_touch i7 t3 (fun g' hg' => (d6 g' hg').1)
        · exact (t3.block it hitW d4).trans i8
      clear hs3 t3 hsub3 i8 i2 i7 d3 d4 d5 d6 K hnx hcell
      go_wp2
      go_roundg g'
      case measure => omega
      case rel => exact ⟨j + 1, by omega, by omega, hD3⟩
    · have hje : j = ps.length := by omega
      subst hje
      obtain ⟨F', d1, d2, d3, d4, d5, d6, d7, d8⟩ := hD
      have hnx : ∀ ty, (Instr.next (.pointer (some ⟨it, 0, none⟩)) true ty).run Tryz.prog wr = _ := fun ty => Lib.run_next_end_at wr it s ps.length ty d8 (by omega)
      clear d4 d5 d6 d7 d8
      go_wp2
      go_ret
      rw [List.take_length] at d1
      rw [HAM.out.1, HAM.out.2]
      exact ⟨F', rfl, d1, d2, d3⟩
end Go.Proofs.YtkbchpaofmlhgaaGreatDoor

/- A state of the law's own, beside blocks that are kept; what the stack alone does. -/
namespace Go.Proofs.YtkbchpaofmlhgaaGreatDoor
open Go.RowKit

/-- what lies in blocks is as it was -/
def On (K : List Nat) (w w' : World) : Prop := ∀ x ∈ K, w'.heap[x]? = w.heap[x]?
theorem On.refl (K : List Nat) (w : World) : On K w w := fun _ _ => rfl
theorem On.trans {K : List Nat} {a b c : World} (h : On K a b) (k : On K b c) : On K a c := fun x hx => (k x hx).trans (h x hx)
theorem On.blk {K : List Nat} {w w' : World} {b : Nat} {t : TypeId} {cs : Array Value} (o : On K w w') (hb : b ∈ K) (h : Blk w b t cs) : Blk w' b t cs := (o b hb).trans h
theorem On.sub {K L : List Nat} {w w' : World} (h : On K w w') (hs : ∀ x ∈ L, x ∈ K) : On L w w' := fun x hx => h x (hs x hx)
/-- a state that was made behind a world, beside blocks -/
def LiveK (w0 w : World) (s : Nat) (S : PS) (K : List Nat) : Prop := ∃ F, StateAt w s F S ∧ (∀ x ∈ F, w0.heap.size ≤ x) ∧ Touch [] w0 w ∧ ∀ x ∈ K, x ∉ F ∧ x < w.heap.size
section
variable {w0 w w' : World} {s : Nat} {S S' : PS} {K : List Nat}
theorem LiveK.t (h : LiveK w0 w s S K) : Touch [] w0 w := by
  obtain ⟨_, _, _, h, _⟩ := h
  exact h
theorem LiveK.live (h : LiveK w0 w s S K) : Live w0 w s S := by
  obtain ⟨F, h1, h2, h3, _⟩ := h
  exact ⟨F, h1, h2, h3⟩
theorem Live.keep (h : Live w0 w s S) : LiveK w0 w s S [] := by
  obtain ⟨F, h1, h2, h3⟩ := h
  exact ⟨F, h1, h2, h3, by simp⟩
theorem LiveK.quiet (h : LiveK w0 w s S K) (t : Touch [] w w') : LiveK w0 w' s S K := by
  obtain ⟨F, h1, h2, h3, h4⟩ := h
  exact ⟨F, h1.quiet t, h2, h3.trans t (by simp), fun x hx => ⟨(h4 x hx).1, Nat.lt_of_lt_of_le (h4 x hx).2 t.size⟩⟩
theorem LiveK.on (h : LiveK w0 w s S K) (t : Touch [] w w') : On K w w' := by
  obtain ⟨F, h1, h2, h3, h4⟩ := h
  exact fun x hx => t.block x (h4 x hx).2 (by simp)
/-- a block of one's own is kept from now on -/
theorem LiveK.more {b : Nat} (h : LiveK w0 w s S K) (t : Touch [] w w') (hb : w.heap.size ≤ b) (hlt : b < w'.heap.size) : LiveK w0 w' s S (b :: K) := by
  have hq := h.quiet t
  obtain ⟨F, h1, h2, h3, h4⟩ := h
  obtain ⟨F2, k1, k2, k3, k4⟩ : LiveK w0 w' s S K := ⟨F, h1.quiet t, h2, h3.trans t (by simp), fun x hx => ⟨(h4 x hx).1, Nat.lt_of_lt_of_le (h4 x hx).2 t.size⟩⟩
  refine ⟨F, h1.quiet t, h2, h3.trans t (by simp), fun x hx => ?_⟩
  rcases List.mem_cons.1 hx with rfl | hx
  · exact ⟨fun hm => by have := h1.lt _ hm; omega, hlt⟩
  · exact ⟨(h4 x hx).1, Nat.lt_of_lt_of_le (h4 x hx).2 t.size⟩
theorem LiveK.less {L : List Nat} (h : LiveK w0 w s S K) (hs : ∀ x ∈ L, x ∈ K) : LiveK w0 w s S L := by
  obtain ⟨F, h1, h2, h3, h4⟩ := h
  exact ⟨F, h1, h2, h3, fun x hx => h4 x (hs x hx)⟩
/-- something that is done to the state alone -/
theorem LiveK.step {P : Program} {f : FuncId} {args : Array Value} {e0 : Ending} (h : LiveK w0 w s S K) (hC : ∀ F, StateAt w s F S → Calls P f args w fun e w' => e = e0 ∧ ∃ F', StateAt w' s F' S' ∧ Touch F w w' ∧ Sub w F F') :
    Calls P f args w fun e w' => e = e0 ∧ LiveK w0 w' s S' K ∧ On K w w' := by
  obtain ⟨F, h1, h2, h3, h4⟩ := h
  refine (hC F h1).mono ?_
  rintro _ w' ⟨rfl, F', k1, k2, k3⟩
  refine ⟨rfl, ⟨F', k1, Sub.new h2 k3 h3.size, Sub.touch h2 h3 k2, fun x hx => ⟨fun hm => ?_, Nat.lt_of_lt_of_le (h4 x hx).2 k2.size⟩⟩, fun x hx => k2.block x (h4 x hx).2 (h4 x hx).1⟩
  rcases k3 x hm with hm | hm
  · exact (h4 x hx).1 hm
  · have := (h4 x hx).2; omega
theorem st_stack {P : Program} {f : FuncId} {args : Array Value} {e0 : Ending} {F : List Nat} {L : List Int} (h : StateAt w s F S) (hC : ∀ FS, StackAt w S.k FS S.st → Calls P f args w fun e w' => ∃ FS', e = e0 ∧ StackAt w' S.k FS' L ∧ Touch FS w w' ∧ Sub w FS FS') :
    Calls P f args w fun e w' => e = e0 ∧ ∃ F', StateAt w' s F' { S with st := L } ∧ Touch F w w' ∧ Sub w F F' := by
  obtain ⟨FS, ov, mv, hp, rfl⟩ := h
  refine (hC FS hp.stk).mono ?_
  rintro _ w' ⟨FS', rfl, k1, k2, k3⟩
  exact ⟨rfl, _, ⟨FS', ov, mv, hp.stack k1 k2, rfl⟩, k2.mono (fun g hg => .inl (foot_has_stack g hg)), foot_stack k3⟩
theorem keep_cut (h : LiveK w0 w s S K) : Calls Tryz.prog 23 #[.pointer (some ⟨S.k, 0, none⟩), .int .i64 0] w fun e w' => e = .returned (.tuple #[]) ∧ LiveK w0 w' s { S with st := [] } K ∧ On K w w' :=
  h.step fun _ hS => st_stack hS fun FS hk => (Cut_zero w S.k FS S.st hk).mono (by
    rintro _ w' ⟨rfl, j1, j2⟩
    exact ⟨FS, rfl, j1, j2, Sub.refl _ _⟩)
theorem keep_put (h : LiveK w0 w s S K) (cv : Value) (M : List Int) (hc : CellsAt w cv M) (hl : S.st.length + M.length ≤ 128) : Calls Tryz.prog 13 #[.pointer (some ⟨S.k, 0, none⟩), cv] w fun e w' => e = .returned (.int .i64 0) ∧ LiveK w0 w' s { S with st := S.st ++ M } K ∧ On K w w' :=
  h.step fun _ hS => st_stack hS fun FS hk => Put_row w S.k FS S.st hk cv M hc hl
theorem keep_push (h : LiveK w0 w s S K) (hl : S.st.length < 128) (x : Int) : Calls Tryz.prog 35 #[.pointer (some ⟨S.k, 0, none⟩), .int .i64 x] w fun e w' => e = .returned (.int .i64 0) ∧ LiveK w0 w' s { S with st := S.st ++ [x] } K ∧ On K w w' :=
  h.step fun _ hS => st_stack hS fun FS hk => Push_ok w S.k FS S.st hk hl x
/-- what prim's Do does by one of the maps -/
theorem st_doP {F : List Nat} {T : PS} {op : Int} {n : Nat} {pre : List Int → PS → Prop} {act : List Int → PS → (List Int × Int) × PS} (hS : StateAt w s F S) (hsem : OpSem op n pre act) (h1 : 43 ≤ op) (h2 : op ≤ 107) (h3 : op < 61 ∨ 70 < op) (hn : n ≤ 4) (hok : S.ok)
    (rest l o : List Int) (hst : S.st = rest ++ l) (hl : l.length = n) (hlen : S.st.length ≤ 128) (hpre : pre l { S with st := rest }) (ha : act l { S with st := rest } = ((o, 0), T)) (ht : T.st = rest) (hlen2 : rest.length + o.length ≤ 128) :
    Calls Tryz.prog 14 #[.pointer (some ⟨s, 0, none⟩), .int .i64 op] w fun e w' => e = .returned (.int .i64 0) ∧ ∃ F', StateAt w' s F' { T with st := rest ++ o } ∧ Touch F w w' ∧ Sub w F F' := by
  have e1 : S.st.length - n = rest.length := by rw [hst, List.length_append]; omega
  have e2 : S.st.drop rest.length = l := by rw [hst]; simp
  have e3 : S.st.take rest.length = rest := by rw [hst]; simp
  have hD := Do_sem op n pre act hsem h1 h2 h3 hn w s F S hS hok hlen (fun _ => by rw [e1, e2, e3]; exact hpre)
  rw [doP_ok hst hl ha ht hlen2] at hD
  exact hD.mono fun _ _ ⟨F', a1, a2⟩ => ⟨a1, F', a2⟩
/-- what prim's Do does by the stack alone -/
theorem st_doS {F : List Nat} {L : List Int} {op e : Int} (hS : StateAt w s F S) (h1 : 28 ≤ op) (h2 : op ≤ 42)
    (hC : ∀ FS, StackAt w S.k FS S.st → Calls Tryz.prog 42 #[.pointer (some ⟨S.k, 0, none⟩), .int .i64 op] w fun r w' => ∃ FS', r = .returned (.int .i64 e) ∧ StackAt w' S.k FS' L ∧ Touch FS w w' ∧ Sub w FS FS') :
    Calls Tryz.prog 14 #[.pointer (some ⟨s, 0, none⟩), .int .i64 op] w fun r w' => r = .returned (.int .i64 e) ∧ ∃ F', StateAt w' s F' { S with st := L } ∧ Touch F w w' ∧ Sub w F F' := by
  have hk := st_stack hS hC
  have s1 : w.cell? ⟨s, 1, none⟩ = some (.pointer (some ⟨S.k, 0, none⟩)) := by
    obtain ⟨FS, ov, mv, hp, _⟩ := hS
    exact hp.blk.cell 1
  have g1 : op ≥ 28 := by omega
  clear hS hC
  go_enter Tryz.func14, Tryz.ntmps14
  go_wp2_with fail
  refine hk.mono ?_
  rintro _ w1 ⟨rfl, F', k1, k2, k3⟩
  have HD := Lib.hid (And.intro k1 (And.intro k2 k3))
  clear hk k1 k2 k3
  go_wp2_with fail
  go_ret
  exact ⟨rfl, F', HD.out⟩
/-- dup -/
theorem st_dup {F : List Nat} {rest : List Int} {x : Int} (hS : StateAt w s F S) (hst : S.st = rest ++ [x]) (hl : rest.length ≤ 120) :
    Calls Tryz.prog 14 #[.pointer (some ⟨s, 0, none⟩), .int .i64 28] w fun r w' => r = .returned (.int .i64 0) ∧ ∃ F', StateAt w' s F' { S with st := rest ++ [x, x] } ∧ Touch F w w' ∧ Sub w F F' := by
  have hlen : S.st.length = rest.length + 1 := by rw [hst]; simp
  refine st_doS hS (by decide) (by decide) fun FS hk => ?_
  have h := Do_shape w S.k FS S.st hk 28 1 [0, 0] (fun w => Shape_0 w) (by decide) (by decide) (by decide) (by decide) (by decide) (by decide) (by decide) (by omega) (by omega) (by simp; omega)
  have e1 : S.st.length - 1 = rest.length := by omega
  have e2 : S.st.drop rest.length = [x] := by rw [hst]; simp
  have e3 : S.st.take rest.length = rest := by rw [hst]; simp
  rw [e1, e2, e3] at h
  exact h
/-- drop -/
theorem st_drop {F : List Nat} {rest : List Int} {x : Int} (hS : StateAt w s F S) (hst : S.st = rest ++ [x]) (hl : rest.length ≤ 120) :
    Calls Tryz.prog 14 #[.pointer (some ⟨s, 0, none⟩), .int .i64 29] w fun r w' => r = .returned (.int .i64 0) ∧ ∃ F', StateAt w' s F' { S with st := rest } ∧ Touch F w w' ∧ Sub w F F' := by
  have hlen : S.st.length = rest.length + 1 := by rw [hst]; simp
  refine st_doS hS (by decide) (by decide) fun FS hk => ?_
  have h := Do_shape w S.k FS S.st hk 29 1 [] (fun w => Shape_1 w) (by decide) (by decide) (by decide) (by decide) (by decide) (by decide) (by decide) (by omega) (by omega) (by simp; omega)
  have e1 : S.st.length - 1 = rest.length := by omega
  have e3 : S.st.take rest.length = rest := by rw [hst]; simp
  rw [e1, e3, List.map_nil, List.append_nil] at h
  exact h
end
end Go.Proofs.YtkbchpaofmlhgaaGreatDoor

/- Operations of prim's memory map: what each does where it goes right. Printed by memops.py. -/
namespace Go.Proofs.YtkbchpaofmlhgaaGreatDoor
open Go.RowKit

theorem StateAt.mem {w : World} {s : Nat} {F : List Nat} {S : PS} (h : StateAt w s F S) : MemAt w S.m S.g S.n S.bs S.here := by
  obtain ⟨FS, ov, mv, hp, _⟩ := h
  exact hp.mem
theorem StateAt.len {w : World} {s : Nat} {F : List Nat} {S : PS} (h : StateAt w s F S) : S.bs.length = S.n ∧ S.n ≤ 65536 := ⟨h.mem.len, h.mem.small⟩
theorem MemAt.quiet {w w' : World} {m g n here : Nat} {bs : List Int} (h : MemAt w m g n bs here) (t : Touch [] w w') : MemAt w' m g n bs here := h.touch t (by simp) (by simp)
theorem cell_keep {F : List Nat} {w w' : World} {p : Addr} {u : Value} (t : Touch F w w') (h : w.cell? p = some u) (hn : p.block ∉ F) : w'.cell? p = some u := (t.cell (World.block_lt_of_cell? w p h) hn).trans h
theorem Done.mem {W w' : World} {s : Nat} {F : List Nat} {S : PS} {bs' : List Int} {here' : Nat} (h : StateAt W s F S) (hm : MemAt w' S.m S.g S.n bs' here') (t : Touch [S.m, S.g] W w') : Done W s F S { S with bs := bs', here := here' } w' := by
  obtain ⟨FS, ov, mv, hp, rfl⟩ := h
  exact ⟨_, ⟨FS, ov, mv, hp.memory hm t, rfl⟩, ⟨rfl, rfl, rfl, rfl, rfl, rfl⟩, t.mono (fun g hg => .inl (by simp only [List.mem_cons, List.not_mem_nil, or_false] at hg; rcases hg with rfl | rfl <;> simp [foot])), Sub.refl _ _⟩
end Go.Proofs.YtkbchpaofmlhgaaGreatDoor
