/- RecogLetters: the walk. -/
import Derived.Test.YtgdmiodcfdcihaaGreatDoorSix
import Derived.Test.YtgdmiodcfdcihaaGreatDoorText6
namespace Go.Proofs.YtgdmiodcfdcihaaGreatDoor
open Go.RowKit

/-- what Number tells of a real number's text -/
theorem back_num (f : Int) (f0 : -9223372036854775808 ≤ f) (f1 : f ≤ 9223372036854775807) (s : ByteArray) (h : TextIs (bitsOf f) s) :
    ((s = ⟨#[110, 97, 110]⟩ ∨ s = ⟨#[105, 110, 102]⟩ ∨ s = ⟨#[45, 105, 110, 102]⟩) ∧ NumIs s 0 false) ∨ ((s ≠ ⟨#[110, 97, 110]⟩ ∧ s ≠ ⟨#[105, 110, 102]⟩ ∧ s ≠ ⟨#[45, 105, 110, 102]⟩) ∧ NumIs s f true) := by
  rcases back_is f f0 f1 s h with ⟨h1, h2⟩ | ⟨h1, h2⟩
  · exact .inl ⟨h1, fun w _ hM hE _ => h2 w hM hE⟩
  · refine .inr ⟨⟨?_, ?_, ?_⟩, fun w hT hM _ _ => h2 w hT hM⟩
    all_goals
      rintro rfl
      revert h1
      decide

theorem text_small (x : Nat) (s : ByteArray) (h : TextIs x s) : s.size ≤ 200 := by
  have hs : (sgnS x).size ≤ 1 := by unfold sgnS; split <;> decide
  rcases h with ⟨_, rfl⟩ | ⟨_, rfl⟩ | ⟨_, rfl⟩ | ⟨hf, m, t, h1, h2, h3, h4, rfl⟩
  · decide
  · rw [ByteArray.size_append]
    have : (⟨#[105, 110, 102]⟩ : ByteArray).size = 3 := rfl
    omega
  · rw [ByteArray.size_append, ByteArray.size_append, ByteArray.size_append]
    have e1 : (⟨#[48]⟩ : ByteArray).size = 1 := rfl
    have e2 : (⟨#[112]⟩ : ByteArray).size = 1 := rfl
    omega
  · rw [ByteArray.size_append, ByteArray.size_append, ByteArray.size_append]
    have e2 : (⟨#[112]⟩ : ByteArray).size = 1 := rfl
    have e3 := dec_small m (odd_le h1 h2)
    have e4 := itoa_small ((t : Int) - 1074) (by omega) (by omega)
    omega

theorem known_neq (p q : KnownV) (w : World) : (binOp .neq 27 p.v q.v).run Tryz.prog w = .ok (.bool (!(p.kind == q.kind && p.xt == q.xt && p.now == q.now && p.a == q.a && p.b == q.b))) w := by
  have h := known_eql p q w
  unfold KnownV.v at h ⊢
  rw [run_eql_struct] at h
  rw [run_neq_struct]
  revert h
  cases (Op.equalIn 10000 27 (.agg #[.int .i64 p.kind, .int .i64 p.xt, .bool p.now, .int .i64 p.a, .int .i64 p.b]) (.agg #[.int .i64 q.kind, .int .i64 q.xt, .bool q.now, .int .i64 q.a, .int .i64 q.b])).run Tryz.prog w with
  | ok b w' =>
    intro h
    simp only [Result.andThen, Result.ok.injEq, Value.bool.injEq] at h ⊢
    exact ⟨by rw [h.1], h.2⟩
  | halt e w' =>
    intro h
    simp [Result.andThen] at h

set_option maxRecDepth 100000 in
set_option maxHeartbeats 6400000 in
theorem RecogLetters_walk (c : UInt8) (s : ByteArray) (hs : s.size ≤ maxLen) (f : Int) (f0 : -9223372036854775808 ≤ f) (f1 : f ≤ 9223372036854775807) (W : World) (hT : Tabs W) :
    Calls Tryz.prog 3 #[.int .u8 (c.toNat : Int), .string s, .int .i64 f] W fun e w' => e = .returned (.bool true) ∧ Touch [] W w' := by
  have HT := Lib.hid hT
  clear hT
  unfold maxLen at hs
  have htx := fun W => rtext_any f f0 f1 W
  have HBk : Hid (∀ s, TextIs (bitsOf f) s → _) := fun s h => And.intro (text_small _ s h) (back_num f f0 f1 s h)
  obtain ⟨x, hx⟩ : ∃ x, s.extract 0 (min (s.size : Int) 3).toNat = x := ⟨_, rfl⟩
  have hx3 : x.size ≤ 3 := by rw [← hx, ByteArray.size_extract]; omega
  go_enter Tryz.func3, Tryz.ntmps3
  go_wp2_with fail
  refine (shown_any _).mono ?_
  rintro _ w1 ⟨rfl, t1⟩
  go_wp2_with fail
  refine (New_any _).mono ?_
  rintro _ w2 ⟨D, F, rfl, hd, t2, hF⟩
  have tw := t1.trans t2 (by simp)
  clear t1 t2 hF
  go_upto_region 4 with (fail)
  have hcv := conv_one w2 c
  have ta := (Touch.refl [] w2).alloc (.cells #[.int .u8 (c.toNat : Int)] 5)
  have gv : ∀ w' (t : ByteArray), Touch [] w2 w' → t.size ≤ 200 → GivenR w' t D F [] 10 none 0 [] := fun w' t h hz =>
    ⟨⟨hz, hd.quiet h, by omega, by omega, ⟨none, 0, rfl, .inl rfl⟩, by simp⟩, HT.out.touch (tw.trans h (by simp))⟩
  have h1 := One_char _ ((⟨#[39]⟩ : ByteArray) ++ ⟨#[c]⟩ ++ ⟨#[39]⟩) D F [] 10 none 0 [] (gv _ _ ta (by rw [ByteArray.size_append, ByteArray.size_append]; exact (by decide : (1 : Nat) + 1 + 1 ≤ 200))).1
  rw [show charF ((⟨#[39]⟩ : ByteArray) ++ ⟨#[c]⟩ ++ ⟨#[39]⟩) = some c by unfold charF; simp [ByteArray.data_append]] at h1
  unfold KnownV.v charK toldK at h1
  simp only [Option.isSome_some, if_true] at h1
  have HG := Lib.hid gv
  clear gv hd
  go_wp2_with fail
  refine h1.mono ?_
  rintro _ w3 ⟨rfl, t3⟩
  have u3 := ta.trans t3 (by simp)
  clear h1 hcv ta t3
  go_upto_region 5 with (fail)
  have bK := Blk.new w3 27 #[.int .i64 2, .int .i64 0, .bool false, .int .i64 (c.toNat : Int), .int .i64 0]
  have u3 := u3.alloc (.cells #[.int .i64 2, .int .i64 0, .bool false, .int .i64 (c.toNat : Int), .int .i64 0] 27)
  generalize w3.alloc (.cells #[.int .i64 2, .int .i64 0, .bool false, .int .i64 (c.toNat : Int), .int .i64 0] 27) = wK at *
  have h2 := One_char wK x D F [] 10 none 0 [] (HG.out _ x u3 (by omega)).1
  obtain ⟨⟨y0, y1, y2, y3, y4⟩, hy⟩ : ∃ y, toldK (charK (charF x)) (charF x).isSome = y := ⟨_, rfl⟩
  have hmk : (y0 == 2) = (charF x).isSome := by
    have e : y0 = (toldK (charK (charF x)) (charF x).isSome).kind := by rw [hy]
    rw [e]
    cases charF x <;> rfl
  rw [hy] at h2
  clear hy
  obtain ⟨mk, hm⟩ : ∃ mk, (charF x).isSome = mk := ⟨_, rfl⟩
  rw [hm] at hmk
  have HMk := Lib.hid hm
  clear hm
  unfold KnownV.v at h2
  go_wp2_with fail
  refine h2.mono ?_
  rintro _ w4 ⟨rfl, t4⟩
  have u4 := u3.trans t4 (by simp)
  have bK := bK.touch t4 (by simp)
  clear h2 u3 t4
  go_upto_region 6 with (fail)
  have bY := Blk.new w4 27 #[.int .i64 y0, .int .i64 y1, .bool y2, .int .i64 y3, .int .i64 y4]
  have bK := bK.alloc (.cells #[.int .i64 y0, .int .i64 y1, .bool y2, .int .i64 y3, .int .i64 y4] 27)
  have u4 := u4.alloc (.cells #[.int .i64 y0, .int .i64 y1, .bool y2, .int .i64 y3, .int .i64 y4] 27)
  generalize w4.alloc (.cells #[.int .i64 y0, .int .i64 y1, .bool y2, .int .i64 y3, .int .i64 y4] 27) = wY at *
  go_cut [12] from 16 (fun s12 wx => s12 = .bool mk ∧ wY = wx)
  case first =>
    clear htx
    by_cases h3 : x.size = 3
    · obtain ⟨a, d, b, hl⟩ : ∃ a d b, x.data.toList = [a, d, b] := by
        have : x.data.toList.length = 3 := by rw [str_size]; exact h3
        match hm : x.data.toList, this with
        | [a, d, b], _ => exact ⟨a, d, b, rfl⟩
      have hmk2 := HMk.out
      unfold charF at hmk2
      rw [hl] at hmk2
      simp only at hmk2
      have g0 : x[0]'(by omega) = a := by
        have := str_get x 0 (by omega)
        rw [hl] at this
        simpa using this.symm
      have g2 : x[2]'(by omega) = b := by
        have := str_get x 2 (by omega)
        rw [hl] at this
        simpa using this.symm
      clear hl
      rcases (show (a.toNat = 39 ∧ b.toNat = 39) ∨ (a.toNat ≠ 39) ∨ (a.toNat = 39 ∧ b.toNat ≠ 39) by omega) with h | h | h
      · rw [if_pos h] at hmk2
        obtain ⟨ha, hb⟩ := h
        have e1 : ((a.toNat : Int) == 39) = true := by simp; omega
        have e2 : ((b.toNat : Int) == 39) = true := by simp; omega
        have HM2 := Lib.hid hmk2
        clear hmk2 ha hb hmk HMk
        go_wp2_with fail
        go_meet
        exact ⟨congrArg Value.bool HM2.out, rfl⟩
      · rw [if_neg (by omega)] at hmk2
        have e1 : ((a.toNat : Int) == 39) = false := by simp; omega
        have HM2 := Lib.hid hmk2
        clear hmk2 h hmk HMk
        go_wp2_with fail
        go_meet
        exact ⟨congrArg Value.bool HM2.out, rfl⟩
      · rw [if_neg (by omega)] at hmk2
        obtain ⟨ha, hb⟩ := h
        have e1 : ((a.toNat : Int) == 39) = true := by simp; omega
        have e2 : ((b.toNat : Int) == 39) = false := by simp; omega
        have HM2 := Lib.hid hmk2
        clear hmk2 ha hb hmk HMk
        go_wp2_with fail
        go_meet
        exact ⟨congrArg Value.bool HM2.out, rfl⟩
    · have hn : charF x = none := by
        unfold charF
        split
        · rename_i p q r he
          exact absurd (by rw [← str_size, he]; rfl) h3
        · rfl
      have hmk2 := HMk.out
      rw [hn] at hmk2
      have e0 : ((x.size : Int) == 3) = false := by simp; omega
      have HM2 := Lib.hid hmk2
      clear hmk2 hn hmk HMk
      go_wp2_with fail
      go_meet
      exact ⟨congrArg Value.bool HM2.out, rfl⟩
  case rest =>
    obtain ⟨rfl, rfl⟩ := hcut
    go_wp2_with fail
    refine (htx _).mono ?_
    rintro _ w5 ⟨t, ht, rfl, t5⟩
    have u5 := u4.trans t5 (by simp)
    have bK := bK.touch t5 (by simp)
    have bY := bY.touch t5 (by simp)
    obtain ⟨hsz, hcase⟩ := HBk.out t ht
    clear ht t5 u4 htx hx hx3
    obtain ⟨v, b, hN, hres⟩ : ∃ v b, NumIs t v b ∧ (((t = ⟨#[110, 97, 110]⟩ ∨ t = ⟨#[105, 110, 102]⟩ ∨ t = ⟨#[45, 105, 110, 102]⟩) ∧ v = 0 ∧ b = false) ∨ ((t ≠ ⟨#[110, 97, 110]⟩ ∧ t ≠ ⟨#[105, 110, 102]⟩ ∧ t ≠ ⟨#[45, 105, 110, 102]⟩) ∧ v = f ∧ b = true)) := by
      rcases hcase with ⟨h1, h2⟩ | ⟨h1, h2⟩
      · exact ⟨0, false, h2, .inl ⟨h1, rfl, rfl⟩⟩
      · exact ⟨f, true, h2, .inr ⟨h1, rfl, rfl⟩⟩
    have h5 := One_real w5 t D F [] 10 none 0 [] v b hN (HG.out _ t u5 hsz)
    have HR := Lib.hid hres
    clear hN hres hcase hsz
    obtain ⟨⟨z0, z1, z2, z3, z4⟩, hz⟩ : ∃ z, toldK ⟨2, 0, false, v, 0⟩ b = z := ⟨_, rfl⟩
    rw [hz] at h5
    have HZ := Lib.hid hz
    clear hz
    unfold KnownV.v at h5
    go_wp2_with fail
    refine h5.mono ?_
    rintro _ w6 ⟨rfl, t6⟩
    have u6 := u5.trans t6 (by simp)
    have bK := bK.touch t6 (by simp)
    have bY := bY.touch t6 (by simp)
    clear h5 u5 t6
    go_upto_region 9 with (fail)
    have bZ := Blk.new w6 27 #[.int .i64 z0, .int .i64 z1, .bool z2, .int .i64 z3, .int .i64 z4]
    have bK := bK.alloc (.cells #[.int .i64 z0, .int .i64 z1, .bool z2, .int .i64 z3, .int .i64 z4] 27)
    have bY := bY.alloc (.cells #[.int .i64 z0, .int .i64 z1, .bool z2, .int .i64 z3, .int .i64 z4] 27)
    have u6 := u6.alloc (.cells #[.int .i64 z0, .int .i64 z1, .bool z2, .int .i64 z3, .int .i64 z4] 27)
    generalize w6.alloc (.cells #[.int .i64 z0, .int .i64 z1, .bool z2, .int .i64 z3, .int .i64 z4] 27) = wZ at *
    have k0 := bK.cell 0
    have k1 := bK.cell 1
    have k2 := bK.cell 2
    have k3 := bK.cell 3
    have k4 := bK.cell 4
    have a0 := bY.cell 0
    have d0 := bZ.cell 0
    have d1 := bZ.cell 1
    have d2 := bZ.cell 2
    have d3 := bZ.cell 3
    have d4 := bZ.cell 4
    have heq := fun w => known_eql ⟨2, 0, false, (c.toNat : Int), 0⟩ ⟨2, 0, false, (c.toNat : Int), 0⟩ w
    simp only [KnownV.v, beq_self_eq_true, Bool.and_self] at heq
    have hgd := known_guard
    have hlc := c.toNat_lt
    rcases HR.out with ⟨ht, rfl, rfl⟩ | ⟨⟨n1, n2, n3⟩, rfl, rfl⟩
    · have hz : KnownV.mk z0 z1 z2 z3 z4 = ⟨0, 0, false, 0, 0⟩ := HZ.out.symm
      simp only [KnownV.mk.injEq] at hz
      obtain ⟨rfl, rfl, rfl, rfl, rfl⟩ := hz
      have hneq := fun w => known_neq ⟨0, 0, false, 0, 0⟩ ⟨0, 0, false, 0, 0⟩ w
      simp only [KnownV.v, beq_self_eq_true, Bool.and_self, Bool.not_true] at hneq
      clear HR HZ HG HBk
      rcases ht with rfl | rfl | rfl
      all_goals
        go_wp2_with fail
        go_ret
        exact ⟨rfl, tw.trans u6 (by simp)⟩
    · have hz : KnownV.mk z0 z1 z2 z3 z4 = ⟨2, 0, false, v, 0⟩ := HZ.out.symm
      simp only [KnownV.mk.injEq] at hz
      obtain ⟨rfl, rfl, rfl, rfl, rfl⟩ := hz
      have hneq := fun w => known_neq ⟨2, 0, false, z3, 0⟩ ⟨2, 0, false, z3, 0⟩ w
      simp only [KnownV.v, beq_self_eq_true, Bool.and_self, Bool.not_true] at hneq
      have e1 : ¬ t.toList = [110, 97, 110] := fun h => n1 (str_ext (by rw [← ByteArray.toList_eq, h]))
      have e2 : ¬ t.toList = [105, 110, 102] := fun h => n2 (str_ext (by rw [← ByteArray.toList_eq, h]))
      have e3 : ¬ t.toList = [45, 105, 110, 102] := fun h => n3 (str_ext (by rw [← ByteArray.toList_eq, h]))
      clear HR HZ HG HBk n1 n2 n3
      go_wp2_with fail
      go_ret
      exact ⟨rfl, tw.trans u6 (by simp)⟩
end Go.Proofs.YtgdmiodcfdcihaaGreatDoor
