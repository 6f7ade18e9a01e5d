/- The operations dot, spaces, type. -/
import Derived.Test.YtkbchpaofmlhgaaGreatDoorOps2
namespace Go.Proofs.YtkbchpaofmlhgaaGreatDoor
open Go.RowKit

def PS.baseN (S : PS) : Nat := S.base.toNat
set_option maxHeartbeats 1000000 in
theorem dot_sem : OpSem 91 1 (fun l S => 0 ≤ l.getD 0 0 ∧ l.getD 0 0 < 9223372036854775808 ∧ 2 ≤ S.base ∧ S.base ≤ 36) (fun l S => (([], 0), { S with out := sayL S.out (numT S.baseN (l.getD 0 0).toNat) })) := by
  intro W B s F S t f first cap l lv hok hS hF hfd
  obtain ⟨b, C, hC, hb, hA, hB⟩ := found_says hfd rfl rfl
  obtain ⟨g, _, hg, rfl, rfl, rfl, rfl⟩ := act_open (hA : ActAt C 1 220 154 (.func (.func 175) #[] #[.pointer (some ⟨b, 0, none⟩)]) _ W) (Nat.zero_le _)
  refine ⟨rfl, enters_of Tryz.func220 (by kernel_rfl) rfl, fun hl hpre hc => ActDone.post (tells_clo hg (enters_of Tryz.func175 (by kernel_rfl) rfl) ?_)⟩
  obtain ⟨ad, c, x, rfl, rfl, hx⟩ := hc.one hl
  obtain ⟨h0, h1, h2, h3⟩ := hpre
  simp only [List.getD_cons_zero] at h0 h1 ⊢
  obtain ⟨n, rfl⟩ : ∃ n : Nat, x = n := ⟨x.toNat, by omega⟩
  have hO := fun w => of_any n (by omega) w
  have hN := fun w (h : StateAt w s F S) => number_ok h hok n S.baseN (by omega) (by unfold PS.baseN; omega) (by unfold PS.baseN; omega) (by unfold PS.baseN; omega)
  rw [Int.toNat_natCast]
  have b0 := (hB.touch ((Touch.refl [] W).drew) (by simp)).cell 0
  have x0 := cell_quiet ((Touch.refl [] W).drew) hx
  have HH := Lib.hid (And.intro hS hB)
  clear hS hB hA hg hfd hc hx hF
  show Calls Tryz.prog 175 #[.slice (some ⟨ad, 0, none⟩) 1 c, .pointer (some ⟨b, 0, none⟩)] W _
  go_enter Tryz.func175, Tryz.ntmps175
  go_upto_region 1 with fail
  go_region_with (first | (go_at_call 105; refine (hO _).mono ?_; rintro _ w1 ⟨rfl, t1⟩; have c1 := (HH.out.2.touch t1.of_drew (by simp)).cell 0; have T1 := Lib.hid t1.of_drew; clear t1) | (go_at_call 176; refine (hN _ (HH.out.1.quiet T1.out)).mono ?_; rintro _ w2 ⟨rfl, F2, k1, k0, k2, k3⟩; have HD : Hid (Done W s F S { S with out := sayL S.out (numT S.baseN n) } w2) := ⟨F2, k1, k0, (T1.out.mono (by simp)).trans k2 (fun g hg => .inl hg), k3.lower T1.out.size⟩; clear k1 k2 k3 k0))
  all_goals go_wp2_with fail
  all_goals go_ret
  all_goals exact ⟨rfl, HD.out⟩
theorem run_rep (w : World) (n : Nat) (hn : n ≤ 4000) : Calls Tryz.prog 173 #[.string ⟨#[32]⟩, .int .i64 (n : Int)] w fun e w' => e = .returned (.string ⟨(List.replicate n (32 : UInt8)).toArray⟩) ∧ Touch [] w w' := by
  refine (Tryz.strings_Repeat ⟨#[32]⟩ n w (by omega) (by simp [ByteArray.size]; omega)).mono ?_
  rintro _ w' ⟨rfl, hb⟩
  refine ⟨?_, Touch.of_below hb _⟩
  have e : ∀ n, Lib.repeatL [(32 : UInt8)] n = List.replicate n 32 := by
    intro n
    induction n with
    | zero => rfl
    | succ n ih => rw [List.replicate_succ, ← ih]; rfl
  have e2 : (⟨#[(32 : UInt8)]⟩ : ByteArray).data.toList = [32] := rfl
  rw [e2, e]
set_option maxHeartbeats 1000000 in
theorem spaces_sem : OpSem 97 1 (fun _ _ => True) (fun l S => (([], 0), { S with out := sayL S.out ⟨(List.replicate (min (max (l.getD 0 0) 0) 4000).toNat (32 : UInt8)).toArray⟩ })) := by
  intro W B s F S t f first cap l lv hok hS hF hfd
  obtain ⟨b, C, hC, hb, hA, hB⟩ := found_says hfd rfl rfl
  obtain ⟨g, hg0, hg, hA⟩ := (hA : SayAct C 1 b (.func (.func 172) #[] #[]) _ W)
  obtain ⟨g2, _, hg2, rfl, rfl, rfl, rfl⟩ := act_open hA (Nat.zero_le _)
  refine ⟨rfl, enters_of Tryz.func220 (by kernel_rfl) rfl, fun hl hpre hc => ActDone.post (tells_clo hg2 (enters_of Tryz.func164 (by kernel_rfl) rfl) (say_fn hS hok hB hg (enters_of Tryz.func172 (by kernel_rfl) rfl) ?_))⟩
  obtain ⟨ad, c, x, rfl, rfl, hx⟩ := hc.one hl
  simp only [List.getD_cons_zero]
  have x0 := cell_quiet ((Touch.refl [] W).drew) hx
  obtain ⟨n, hn⟩ : ∃ n : Nat, min (max x 0) 4000 = n := ⟨(min (max x 0) 4000).toNat, by omega⟩
  have hR := fun w => run_rep w n (by omega)
  rw [hn, Int.toNat_natCast]
  clear hS hB hA hg hfd hc hx hF hg2 hg0
  show Calls Tryz.prog 172 #[.slice (some ⟨ad, 0, none⟩) 1 c] W.drew _
  go_enter Tryz.func172, Tryz.ntmps172
  go_wp2_with fail
  refine (hR _).mono ?_
  rintro _ w1 ⟨rfl, t1⟩
  clear hR
  go_wp2_with fail
  go_ret
  exact ⟨rfl, t1⟩
/-- a text out of the memory -/
def PS.text (S : PS) (p k : Nat) : ByteArray := strOfNums (cutL S.bs p k)
set_option maxHeartbeats 1000000 in
theorem type_sem : OpSem 98 2 (fun l S => ∃ p k : Nat, l = [(p : Int), (k : Int)] ∧ p + k ≤ S.n) (fun l S => (([], 0), { S with out := sayL S.out (S.text (l.getD 0 0).toNat (l.getD 1 0).toNat) })) := by
  intro W B s F S t f first cap l lv hok hS hF hfd
  obtain ⟨b, C, hC, hb, hA, hB⟩ := found_says hfd rfl rfl
  obtain ⟨g, _, hg, rfl, rfl, rfl, rfl⟩ := act_open (hA : ActAt C 2 220 154 (.func (.func 174) #[] #[.pointer (some ⟨b, 0, none⟩)]) _ W) (Nat.zero_le _)
  refine ⟨rfl, enters_of Tryz.func220 (by kernel_rfl) rfl, fun hl hpre hc => ActDone.post (tells_clo hg (enters_of Tryz.func174 (by kernel_rfl) rfl) ?_)⟩
  obtain ⟨p, k, rfl, hpk⟩ := hpre
  obtain ⟨ad, c, x, y, e, rfl, hx, hy⟩ := hc.two hl
  injection e with e1 e
  injection e with e2 e
  subst e1 e2
  clear e
  have hg0 : ((([(p : Int), (k : Int)] : List Int).getD 0 0).toNat, ([(p : Int), (k : Int)] : List Int).getD 1 0) = (p, (k : Int)) := rfl
  show Calls Tryz.prog _ _ W fun e w' => e = .returned (.int .i64 0) ∧ Done W s F S { S with out := sayL S.out (S.text p k) } w'
  clear hg0
  have hT : Calls Tryz.prog 32 #[.pointer (some ⟨S.m, 0, none⟩), .int .i64 p, .int .i64 k] W.drew fun e w' => e = .returned (.tuple #[.string (S.text p k), .int .i64 0]) ∧ Touch [] W.drew w' := by
    obtain ⟨FS, ov, mv, hp, _⟩ := hS
    exact MText_ok (hp.mem.touch ((Touch.refl [] W).drew) (by simp) (by simp)) p k hpk
  have s2 : W.drew.cell? ⟨s, 2, none⟩ = some (.pointer (some ⟨S.m, 0, none⟩)) := by
    obtain ⟨FS, ov, mv, hp, _⟩ := hS
    exact (hp.blk.touch ((Touch.refl [] W).drew) (by simp)).cell 2
  have b0 := (hB.touch ((Touch.refl [] W).drew) (by simp)).cell 0
  have x0 := cell_quiet ((Touch.refl [] W).drew) hx
  have y0 := cell_quiet ((Touch.refl [] W).drew) hy
  have hSay := fun w (h : StateAt w s F S) => PSay_any h hok.1 (S.text p k)
  have HH := Lib.hid (And.intro hS hB)
  clear hS hB hA hg hfd hc hx hy hF
  show Calls Tryz.prog 174 #[.slice (some ⟨ad, 0, none⟩) 2 c, .pointer (some ⟨b, 0, none⟩)] W _
  go_enter Tryz.func174, Tryz.ntmps174
  go_upto_region 1 with fail
  go_cut [4, 5] from 6 to 19 (fun tv ev wx => tv = .string (S.text p k) ∧ ev = .int .i64 0 ∧ Touch [] W wx)
  case first =>
    go_region_with (go_at_call 32; refine hT.mono ?_; rintro _ w1 ⟨rfl, t1⟩)
    all_goals (go_wp2_with fail; go_meet; exact ⟨rfl, rfl, t1.of_drew⟩)
  case rest =>
    obtain ⟨rfl, rfl, t1⟩ := hcut
    have c1 := (HH.out.2.touch t1 (by simp)).cell 0
    have hS1 := hSay _ (HH.out.1.quiet t1)
    have T1 := Lib.hid t1
    clear hT b0 x0 y0 s2 t1 hSay
    go_wp2_with fail
    refine hS1.mono ?_
    rintro _ w2 ⟨F2, rfl, k1, k2, k3⟩
    have HD : Hid (Done W s F S { S with out := sayL S.out (S.text p k) } w2) := ⟨F2, k1, ⟨rfl, rfl, rfl, rfl, rfl, rfl⟩, (T1.out.mono (by simp)).trans k2 (fun g hg => .inl hg), k3.lower T1.out.size⟩
    clear hS1 k1 k2 k3
    go_wp2_with fail
    go_ret
    exact ⟨rfl, HD.out⟩
end Go.Proofs.YtkbchpaofmlhgaaGreatDoor
