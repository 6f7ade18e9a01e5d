import Derived.Test.YtdokeddjcpnmiaaGreatDoorKEngA
import Derived.Test.YtdokeddjcpnmiaaGreatDoorJEnFine
import Derived.StillTailTactics
/- The engine's Throw and done. -/
namespace Go.Proofs.YtdokeddjcpnmiaaGreatDoor
open Go.RowKit
namespace En

set_option maxRecDepth 100000 in
set_option maxHeartbeats 3200000 in
theorem throw_none_sem {w : World} {g : Nat} {p : Lay} {F : List Nat} {m : M} (h : EngAt w g p F m) (hf : Fine m) (hc : catchF m.fr = none) (e : Int) : Calls Tryz.prog 48 #[.pointer (some ⟨g, 0, none⟩), .int .i64 e] w fun r w' => r = .returned (stV (m.throw e).1) ∧ Keep w g p F (m.throw e).2 w' := by
  rw [throw_none hc]
  have hFl := h.lt
  have tz := (Touch.refl [] w).alloc (.cells #[.int .i64 0, .int .i64 0, .int .i64 0] 48)
  have bz := Blk.new w 48 #[.int .i64 0, .int .i64 0, .int .i64 0]
  have hE0 := h.touch tz (by simp)
  obtain ⟨z, hz⟩ : ∃ z, w.heap.size = z := ⟨_, rfl⟩
  rw [hz] at bz
  have hzF : z ∉ F := fun hx => by have := hFl z hx; omega
  have hp := place_sem hE0 0 0
  have hzl := bz.lt
  have HF := Lib.hid hf
  clear hf
  go_enter Tryz.func48, Tryz.ntmps48
  go_upto_region 3 with fail
  generalize w.alloc (.cells #[.int .i64 0, .int .i64 0, .int .i64 0] 48) = W0 at *
  go_wp2_with fail
  refine hp.mono ?_
  rintro _ w1 ⟨rfl, k1⟩
  clear hp
  obtain ⟨F1, h1, n1⟩ := k1.open
  have c6 := h1.c6
  have f6 := h1.z 6
  have k2 := n1.out _ _ (h1.setNext 0)
  clear h1 n1 k1
  go_upto_region 5 with fail
  generalize w1.setCell ⟨g, 6, none⟩ (.int .i64 0) = w2 at *
  clear c6 f6
  obtain ⟨F2, h2, n2⟩ := k2.open
  have c3 := h2.c3
  have hC := catch_eng h2 HF.out.fr Fr.none false _ (.inr ⟨rfl, hc, rfl, rfl⟩)
  unfold frA Fr.none at hC
  clear h2 k2
  go_wp2_with fail
  refine hC.mono ?_
  rintro _ w3 ⟨rfl, k3⟩
  clear hC c3
  have K4 := (n2.out _ _ k3).quiet ((Touch.refl [] w3).alloc (.cells #[.int .i64 0, .int .i64 0, .int .i64 0, .int .i64 0, .int .i64 0, .slice none 0 0] 45))
  obtain ⟨F4, h4, n4⟩ := K4.open
  have c7 := h4.c7
  have hS := h4.stack_of
  have hC := stCut_eng h4 0
  clear h4 n2 k3 K4
  go_upto_region 7 with fail
  generalize w3.alloc (.cells #[.int .i64 0, .int .i64 0, .int .i64 0, .int .i64 0, .int .i64 0, .slice none 0 0] 45) = w4 at *
  go_wp2_with fail
  refine hS.mono ?_
  rintro _ _ ⟨rfl, rfl⟩
  clear hS
  go_wp2_with fail
  refine hC.mono ?_
  rintro _ w5 ⟨rfl, k5⟩
  clear hC c7
  obtain ⟨F5, h5, n5⟩ := (n4.out _ _ k5).open
  have c3 := h5.c3
  have hC := frCut_eng h5 HF.out.fr 0
  clear h5 n4 k5
  go_wp2_with fail
  refine hC.mono ?_
  rintro _ w6 ⟨rfl, k6⟩
  clear hC c3
  have k6 := n5.out _ _ k6
  have d6 := k6.blk bz hzF
  have e0 := d6.cell 0
  have e1 := d6.cell 1
  have e2 := d6.cell 2
  have g0 := d6.frozen 0
  have g1 := d6.frozen 1
  have g2 := d6.frozen 2
  have HK := Lib.hid k6
  clear k6
  go_wp2_with fail
  have bS := ((d6.set_ 0 (.int .i64 4)).set_ 1 (.int .i64 0)).set_ 2 (.int .i64 e)
  have r0 := bS.cell 0
  have r1 := bS.cell 1
  have r2 := bS.cell 2
  refine bodyPost_ret (by simp [results, Tryz.results48, go_sem, r0, r1, r2]; try rfl) rfl ?_
  exact ⟨rfl, HK.out.finish tz (G := [z]) (fun y hy => by simp at hy; subst hy; omega) hFl ((((Touch.refl [z] w6).setCell (by simp) _).setCell (by simp) _).setCell (by simp) _)⟩
end En
end Go.Proofs.YtdokeddjcpnmiaaGreatDoor

/- The engine's Throw, caught; Throw at all; done. -/
namespace Go.Proofs.YtdokeddjcpnmiaaGreatDoor
open Go.RowKit
namespace En

/-- where a call has begun: the block of its result -/
structure Start (w W0 : World) (F : List Nat) (z : Nat) : Prop where
  t : Touch [] w W0
  b : Blk W0 z 48 #[.int .i64 0, .int .i64 0, .int .i64 0]
  lo : w.heap.size ≤ z
  F : ∀ f ∈ F, f < w.heap.size
theorem Start.new (w : World) {g : Nat} {p : Lay} {F : List Nat} {m : M} (h : EngAt w g p F m) : Start w (w.alloc (.cells #[.int .i64 0, .int .i64 0, .int .i64 0] 48)) F w.heap.size :=
  ⟨(Touch.refl [] w).alloc _, Blk.new w _ _, Nat.le_refl _, h.lt⟩
section
variable {w W0 W W1 W2 W3 : World} {F : List Nat} {z g : Nat} {p : Lay} {m : M}
theorem Start.not_in (s : Start w W0 F z) : z ∉ F := fun hx => by have := s.F z hx; have := s.lo; omega
theorem Start.blk (s : Start w W0 F z) (k : Keep W0 g p F m W) : Blk W z 48 #[.int .i64 0, .int .i64 0, .int .i64 0] := k.blk s.b s.not_in
theorem Start.end_ (s : Start w W0 F z) (k : Keep W0 g p F m W) (a b c : Value) : Keep w g p F m (((W.setCell ⟨z, 0, none⟩ a).setCell ⟨z, 1, none⟩ b).setCell ⟨z, 2, none⟩ c) :=
  k.finish s.t (G := [z]) (fun y hy => by simp at hy; subst hy; exact ⟨s.lo, s.b.lt⟩) s.F ((((Touch.refl [z] W).setCell (by simp) _).setCell (by simp) _).setCell (by simp) _)
end
theorem three_read {W : World} {z : Nat} (h : Blk W z 48 #[.int .i64 0, .int .i64 0, .int .i64 0]) (a b c : Value) :
    (((W.setCell ⟨z, 0, none⟩ a).setCell ⟨z, 1, none⟩ b).setCell ⟨z, 2, none⟩ c).cell? ⟨z, 0, none⟩ = some a ∧ (((W.setCell ⟨z, 0, none⟩ a).setCell ⟨z, 1, none⟩ b).setCell ⟨z, 2, none⟩ c).cell? ⟨z, 1, none⟩ = some b ∧ (((W.setCell ⟨z, 0, none⟩ a).setCell ⟨z, 1, none⟩ b).setCell ⟨z, 2, none⟩ c).cell? ⟨z, 2, none⟩ = some c := by
  have bS := ((h.set_ 0 a).set_ 1 b).set_ 2 c
  exact ⟨bS.cell 0, bS.cell 1, bS.cell 2⟩
theorem zeros_of {W : World} {z : Nat} (h : Blk W z 48 #[.int .i64 0, .int .i64 0, .int .i64 0]) :
    (W.cell? ⟨z, 0, none⟩ = some (.int .i64 0) ∧ W.cell? ⟨z, 1, none⟩ = some (.int .i64 0) ∧ W.cell? ⟨z, 2, none⟩ = some (.int .i64 0)) ∧ W.frozen? ⟨z, 0, none⟩ = false ∧ W.frozen? ⟨z, 1, none⟩ = false ∧ W.frozen? ⟨z, 2, none⟩ = false :=
  ⟨⟨h.cell 0, h.cell 1, h.cell 2⟩, h.frozen 0, h.frozen 1, h.frozen 2⟩
theorem still_left {P : Program} {f : FuncId} {args : Array Value} {w : World} {v : Value} (h : Calls P f args w fun e w' => e = .returned v ∧ w = w') : Calls P f args w fun e w'' => e = .returned v ∧ w'' = w :=
  h.mono fun _ _ ⟨he, hw⟩ => ⟨he, hw.symm⟩
set_option maxRecDepth 100000 in
set_option maxHeartbeats 3200000 in
theorem throw_some_sem {w : World} {g : Nat} {p : Lay} {F : List Nat} {m : M} (h : EngAt w g p F m) (hf : Fine m) {f : Fr} {r : List Fr} (hc : catchF m.fr = some (f, r)) (e : Int) : Calls Tryz.prog 48 #[.pointer (some ⟨g, 0, none⟩), .int .i64 e] w fun R w' => R = .returned (stV (m.throw e).1) ∧ Keep w g p F (m.throw e).2 w' := by
  rw [throw_some hc]
  have hS0 := Start.new w h
  have hE0 := h.touch hS0.t (by simp)
  obtain ⟨z, hz⟩ : ∃ z, w.heap.size = z := ⟨_, rfl⟩
  rw [hz] at hS0
  have hp := place_sem hE0 0 0
  have HS := Lib.hid hS0
  have HF := Lib.hid hf
  clear hf hS0
  go_enter Tryz.func48, Tryz.ntmps48
  go_upto_region 3 with fail
  clear hz
  generalize w.alloc (.cells #[.int .i64 0, .int .i64 0, .int .i64 0] 48) = W0 at *
  go_wp2_with fail
  refine hp.mono ?_
  rintro _ w1 ⟨rfl, k1⟩
  clear hp
  obtain ⟨F1, h1, n1⟩ := k1.open
  have c6 := h1.c6
  have f6 := h1.z 6
  have k2 := n1.out _ _ (h1.setNext 0)
  clear h1 n1 k1
  go_upto_region 5 with fail
  generalize w1.setCell ⟨g, 6, none⟩ (.int .i64 0) = w2 at *
  clear c6 f6
  obtain ⟨F2, h2, n2⟩ := k2.open
  have c3 := h2.c3
  have hC := catch_eng h2 HF.out.fr f true r (.inl ⟨rfl, hc⟩)
  unfold frA at hC
  clear h2 k2
  go_wp2_with fail
  refine hC.mono ?_
  rintro _ w3 ⟨rfl, k3⟩
  clear hC c3
  have K3 := n2.out _ _ k3
  have hz3 : W0.heap.size ≤ w3.heap.size := by obtain ⟨_, _, t, _⟩ := K3; exact t.size
  have by0 := Blk.new w3 45 #[.int .i64 f.k, .int .i64 f.a, .int .i64 f.b, .int .i64 f.x, .int .i64 f.y, .slice none 0 0]
  obtain ⟨y, hy⟩ : ∃ y, w3.heap.size = y := ⟨_, rfl⟩
  rw [hy] at by0 hz3
  obtain ⟨F3, h3, n3⟩ := K3.open
  have hyF3 : y ∉ F3 := fun hx => by have := h3.lt y hx; omega
  obtain ⟨m1, hm1⟩ : ∃ m1 : M, m1 = { m with df := 0, on := 0, nx := 0, fr := r } := ⟨_, rfl⟩
  have hA4 : EngAt (w3.alloc (.cells #[.int .i64 f.k, .int .i64 f.a, .int .i64 f.b, .int .i64 f.x, .int .i64 f.y, .slice none 0 0] 45)) g p F3 m1 := by
    rw [hm1]
    exact h3.touch ((Touch.refl [] w3).alloc (.cells #[.int .i64 f.k, .int .i64 f.a, .int .i64 f.b, .int .i64 f.x, .int .i64 f.y, .slice none 0 0] 45)) (by simp)
  have n4 : Hid (∀ m2 W2, Keep (w3.alloc (.cells #[.int .i64 f.k, .int .i64 f.a, .int .i64 f.b, .int .i64 f.x, .int .i64 f.y, .slice none 0 0] 45)) g p F3 m2 W2 → Keep W0 g p F m2 W2) := Lib.hid fun m2 W2 k => n3.out _ _ (k.pre ((Touch.refl [] w3).alloc _))
  have c7 := hA4.c7
  have hx1 := by0.cell 1
  have hyl := by0.lt
  clear h3 n2 k3 K3 n3
  go_upto_region 10 with fail
  generalize w3.alloc (.cells #[.int .i64 f.k, .int .i64 f.a, .int .i64 f.b, .int .i64 f.x, .int .i64 f.y, .slice none 0 0] 45) = w4 at *
  have HY := Lib.hid (And.intro by0 (And.intro hyF3 (And.intro hm1 n4)))
  have hSt := (hA4.touch (Touch.refl [] w4).drew (by simp)).stack_of
  have hCu := stCut_eng (hA4.touch (Touch.refl [] w4).drew (by simp)) f.a
  clear hA4 by0 hyF3 hm1 n4 hy hz3
  go_still_tail 7, (by kernel_rfl)
  still_call (still_left hSt)
  repeat still_step
  refine wpStill_nil ?_
  change wpList _ _ _ _ _ w4.drew
  go_wp2_with fail
  refine hCu.mono ?_
  rintro _ w5 ⟨rfl, k5⟩
  have k5 := k5.pre (Touch.refl [] w4).drew
  clear hSt hCu c7 hx1
  obtain ⟨m2, hm2⟩ : ∃ m2 : M, m2 = { m1 with S := { m1.S with st := stCut f.a m1.S.st } } := ⟨_, rfl⟩
  rw [← hm2] at k5
  have hl2 : m2.S.st.length ≤ 128 := by rw [hm2]; exact stCut_len _ _
  obtain ⟨F5, h5, n5⟩ := k5.open
  have c7 := h5.c7
  have hSt := h5.stack_of
  have hPu := stPush_eng h5 hl2 e
  have Hm2 := Lib.hid hm2
  clear hm2 h5 k5
  go_wp2_with fail
  refine hSt.mono ?_
  rintro _ _ ⟨rfl, rfl⟩
  clear hSt
  go_wp2_with fail
  refine hPu.mono ?_
  rintro _ w6 ⟨rfl, k6⟩
  have k6 := n5.out _ _ k6
  clear hPu n5 c7
  obtain ⟨m3, hm3⟩ : ∃ m3 : M, m3 = (m2.push e).2 := ⟨_, rfl⟩
  rw [← hm3] at k6
  have hd3 : m3.I.outer.length ≤ 8 := by rw [hm3, show (m2.push e).2.I = m2.I from rfl, Hm2.out, HY.out.2.2.1]; exact HF.out.ins
  have Hm3 := Lib.hid hm3
  clear hm3
  have by6 := k6.blk HY.out.1 HY.out.2.1
  obtain ⟨F6, h6, n6⟩ := k6.open
  have c8 := h6.c8
  have hx2 := by6.cell 2
  have hIn := inCut_eng (h6.touch (Touch.refl [] w6).drew (by simp)) hd3 f.b
  clear h6 k6 by6
  go_upto_region 12 with fail
  go_still_tail 6, (by kernel_rfl)
  change wpList _ _ _ _ _ w6.drew
  go_wp2_with fail
  refine hIn.mono ?_
  rintro _ w7 ⟨rfl, k7⟩
  have k7 := n6.out _ _ (k7.pre (Touch.refl [] w6).drew)
  clear hIn n6 c8 hx2
  obtain ⟨m4, hm4⟩ : ∃ m4 : M, m4 = { m3 with I := m3.I.cutAll f.b.toNat } := ⟨_, rfl⟩
  rw [← hm4] at k7
  have ht4 : m4.I.cur.text.size ≤ 1000 := by rw [hm4]; show (m3.I.cutAll f.b.toNat).cur.text.size ≤ 1000; rw [Hm3.out, show (m2.push e).2.I = m2.I from rfl, Hm2.out, HY.out.2.2.1]; exact (cutAll_text HF.out.text _).1
  have Hm4 := Lib.hid hm4
  clear hm4
  have by7 := k7.blk HY.out.1 HY.out.2.1
  obtain ⟨F7, h7, n7⟩ := k7.open
  have c8 := h7.c8
  have hx2 := by7.cell 2
  have hDe := inDepth_eng (h7.touch (Touch.refl [] w7).drew (by simp))
  obtain ⟨d, hd⟩ : ∃ d, m4.I.outer.length = d := ⟨_, rfl⟩
  rw [hd] at hDe
  have H7 := Lib.hid (And.intro h7 (And.intro by7 hd))
  clear h7 k7 by7 hd
  go_upto_region 13 with fail
  go_still_tail 7, (by kernel_rfl)
  still_call (still_left hDe)
  repeat still_step
  refine wpStill_nil ?_
  change wpList _ _ _ _ _ w7.drew
  clear hDe hx2 c8
  have t8 := (Touch.refl [] w7).drew
  have hE8 := H7.out.1.touch t8 (by simp)
  have by8 := H7.out.2.1.touch t8 (by simp)
  have HM := Lib.hid (show m4.I = m.I.cutAll f.b.toNat by rw [Hm4.out]; show m3.I.cutAll _ = _; rw [Hm3.out, show (m2.push e).2.I = m2.I from rfl, Hm2.out, HY.out.2.2.1])
  have hfin : ∀ J : Ins, ({ m4 with I := J } : M) = { m with df := 0, on := 0, nx := 0, fr := r, S := (pushS { m.S with st := stCut f.a m.S.st } e).2, I := J } := by
    intro J
    rw [Hm4.out, Hm3.out, Hm2.out, HY.out.2.2.1]
    rfl
  have HJ := Lib.hid hfin
  have HK7 := Lib.hid (fun (m5 : M) (W : World) (k : Keep w7.drew g p F7 m5 W) => HY.out.2.2.2.out m5 W (n7.out m5 W (k.pre t8)))
  have hd7 := H7.out.2.2
  clear hfin n7 t8
  generalize w7.drew = w8 at *
  by_cases hb : (d : Int) = f.b
  · have hb1 : ((d : Int) == f.b) = true := by simpa using hb
    have c8 := hE8.c8
    have hx3 := by8.cell 3
    have hSe := inSeek_eng (hE8.touch (Touch.refl [] w8).drew (by simp)) ht4 f.x
    have HB := Lib.hid (show m4.I.outer.length = f.b by rw [hd7]; exact hb)
    clear hE8 by8 hb hd7
    go_wp2_with fail
    go_upto_region 14 with fail
    go_still_tail 6, (by kernel_rfl)
    change wpList _ _ _ _ _ w8.drew
    go_wp2_with fail
    refine hSe.mono ?_
    rintro _ w9 ⟨rfl, k9⟩
    have k9 := HK7.out _ _ (k9.pre (Touch.refl [] w8).drew)
    rw [HJ.out] at k9
    have hb := HS.out.blk k9
    obtain ⟨⟨e0, e1, e2⟩, g0, g1, g2⟩ := zeros_of hb
    obtain ⟨r0, r1, r2⟩ := three_read hb (.int .i64 1) (.int .i64 0) (.int .i64 0)
    have HE := Lib.hid (HS.out.end_ k9 (.int .i64 1) (.int .i64 0) (.int .i64 0))
    clear hSe k9 hb c8 hx3 hb1
    go_wp2_with fail
    refine bodyPost_ret (by simp [results, Tryz.results48, go_sem, r0, r1, r2]; try rfl) rfl ?_
    rw [back_eq, ← HM.out, if_pos HB.out]
    exact ⟨rfl, HE.out⟩
  · have hb1 : ((d : Int) == f.b) = false := by simpa using hb
    have HB := Lib.hid (show ¬ (m4.I.outer.length = f.b) by rw [hd7]; exact hb)
    have k9 := HK7.out _ _ (Keep.refl hE8)
    have e9 : m4 = { m with df := 0, on := 0, nx := 0, fr := r, S := (pushS { m.S with st := stCut f.a m.S.st } e).2, I := m4.I } := HJ.out m4.I
    rw [e9] at k9
    have hb := HS.out.blk k9
    obtain ⟨⟨e0, e1, e2⟩, g0, g1, g2⟩ := zeros_of hb
    obtain ⟨r0, r1, r2⟩ := three_read hb (.int .i64 1) (.int .i64 0) (.int .i64 0)
    have HE := Lib.hid (HS.out.end_ k9 (.int .i64 1) (.int .i64 0) (.int .i64 0))
    clear k9 hb hE8 by8 hd7 e9
    go_wp2_with fail
    refine bodyPost_ret (by simp [results, Tryz.results48, go_sem, r0, r1, r2]; try rfl) rfl ?_
    rw [back_eq, ← HM.out, if_neg HB.out]
    exact ⟨rfl, HE.out⟩
end En
end Go.Proofs.YtdokeddjcpnmiaaGreatDoor

/- The engine's Throw at all, done; a part of the stack taken, put back. -/
namespace Go.Proofs.YtdokeddjcpnmiaaGreatDoor
open Go.RowKit
namespace En

theorem throw_sem {w : World} {g : Nat} {p : Lay} {F : List Nat} {m : M} (h : EngAt w g p F m) (hf : Fine m) (e : Int) : Calls Tryz.prog 48 #[.pointer (some ⟨g, 0, none⟩), .int .i64 e] w fun R w' => R = .returned (stV (m.throw e).1) ∧ Keep w g p F (m.throw e).2 w' := by
  cases hc : catchF m.fr with
  | none => exact throw_none_sem h hf hc e
  | some y => exact throw_some_sem h hf (f := y.1) (r := y.2) hc e
set_option maxHeartbeats 1600000 in
theorem done_sem {w : World} {g : Nat} {p : Lay} {F : List Nat} {m : M} (h : EngAt w g p F m) (hf : Fine m) (e : Int) : Calls Tryz.prog 63 #[.pointer (some ⟨g, 0, none⟩), .int .i64 e] w fun R w' => R = .returned (stV (M.done (e, m)).1) ∧ Keep w g p F (M.done (e, m)).2 w' := by
  have hS0 := Start.new w h
  have hE0 := h.touch hS0.t (by simp)
  obtain ⟨z, hz⟩ : ∃ z, w.heap.size = z := ⟨_, rfl⟩
  rw [hz] at hS0
  by_cases he : e = 0
  · subst he
    have k0 := Keep.refl hE0
    have hb := hS0.blk k0
    obtain ⟨⟨e0, e1, e2⟩, g0, g1, g2⟩ := zeros_of hb
    obtain ⟨r0, r1, r2⟩ := three_read hb (.int .i64 1) (.int .i64 0) (.int .i64 0)
    have HS := Lib.hid (hS0.end_ k0 (.int .i64 1) (.int .i64 0) (.int .i64 0))
    clear hS0 hE0 h k0 hb
    go_enter Tryz.func63, Tryz.ntmps63
    go_upto_region 1 with fail
    clear hz
    generalize w.alloc (.cells #[.int .i64 0, .int .i64 0, .int .i64 0] 48) = W0 at *
    go_wp2_with fail
    refine bodyPost_ret (by simp [results, Tryz.results63, go_sem, r0, r1, r2]; try rfl) rfl ?_
    exact ⟨rfl, HS.out⟩
  · have e1 : M.done (e, m) = m.throw e := if_neg he
    rw [e1]
    have hT := throw_sem hE0 hf e
    obtain ⟨⟨⟨sa, sb, sc⟩, m'⟩, hq⟩ : ∃ q, m.throw e = q := ⟨_, rfl⟩
    rw [hq] at hT ⊢
    dsimp only at hT ⊢
    have HS := Lib.hid hS0
    clear hS0 hE0 h hq e1
    have he' : (e == 0) = false := by simpa using he
    go_enter Tryz.func63, Tryz.ntmps63
    go_upto_region 1 with fail
    clear hz
    generalize w.alloc (.cells #[.int .i64 0, .int .i64 0, .int .i64 0] 48) = W0 at *
    go_wp2_with fail
    refine hT.mono ?_
    rintro _ w1 ⟨rfl, k1⟩
    have hb := HS.out.blk k1
    obtain ⟨⟨e0, e1, e2⟩, g0, g1, g2⟩ := zeros_of hb
    obtain ⟨r0, r1, r2⟩ := three_read hb (.int .i64 sa) (.int .i64 sb) (.int .i64 sc)
    have HK := Lib.hid (HS.out.end_ k1 (.int .i64 sa) (.int .i64 sb) (.int .i64 sc))
    clear hT k1 hb
    go_wp2_with fail
    refine bodyPost_ret (by simp [results, Tryz.results63, go_sem, r0, r1, r2]; try rfl) rfl ?_
    exact ⟨rfl, HK.out⟩
section
variable {w w' : World} {g : Nat} {p : Lay} {F : List Nat} {m : M}
theorem take_eng (h : EngAt w g p F m) (n : Nat) (hn : n ≤ m.S.st.length) (hs : m.S.st.length ≤ 128) : Calls Tryz.prog 98 #[.pointer (some ⟨m.S.k, 0, none⟩), .int .i64 n] w fun e w' =>
    ∃ v, e = .returned (.tuple #[v, .int .i64 0]) ∧ w'.ownsRow w.heap.size 33 1 v n (cells (m.S.st.drop (m.S.st.length - n))) ∧ EngAt w' g p F { m with S := { m.S with st := m.S.st.take (m.S.st.length - n) } } ∧ Touch F w w' := by
  obtain ⟨cv, ev, wv, Ff, FS, FI, h, rfl⟩ := h
  obtain ⟨FK, ov, mv, hp, e⟩ := h.st
  refine (Take_ok w _ _ _ hp.stk n hn (by omega)).mono ?_
  rintro _ w1 ⟨v, rfl, ho, hs, t⟩
  have hst : StateAt w1 p.s FS { m.S with st := m.S.st.take (m.S.st.length - n) } := ⟨FK, ov, mv, hp.stack hs t, e⟩
  have tS : Touch FS w w1 := t.mono (fun x hx => .inl (by rw [e]; exact foot_has_stack x hx))
  obtain ⟨a, b, _⟩ := h.stt_ hst tS (Sub.refl _ _)
  exact ⟨v, rfl, ho, a, b⟩
theorem put_eng (h : EngAt w g p F m) {cv : Value} {l : List Int} (hc : CellsG w cv l) (hs : m.S.st.length ≤ 128) (hl : m.S.st.length + l.length ≤ 128) : Calls Tryz.prog 16 #[.pointer (some ⟨m.S.k, 0, none⟩), cv] w fun e w' =>
    e = .returned (.int .i64 0) ∧ Keep w g p F { m with S := { m.S with st := m.S.st ++ l } } w' := by
  obtain ⟨dv, ev, wv, Ff, FS, FI, h, rfl⟩ := h
  obtain ⟨FK, ov, mv, hp, e⟩ := h.st
  rcases hc with ⟨rfl, rfl⟩ | ⟨gg, c, rfl, hcell⟩
  · refine (Put_none w _ _ _ hp.stk hs).mono ?_
    rintro _ w1 ⟨rfl, hk, t⟩
    rw [List.append_nil]
    exact ⟨rfl, h.stk hp e hk t (Sub.refl _ _)⟩
  · refine (Put_ok w _ _ _ hp.stk gg 0 c l hl (fun j u hj => by rw [Nat.zero_add]; exact hcell j u hj)).mono ?_
    rintro _ w1 ⟨F', rfl, hk, t, s⟩
    exact ⟨rfl, h.stk hp e hk t s⟩
theorem take_under (h : EngAt w g p F m) (n : Nat) (hn : m.S.st.length < n) (hs : n ≤ 1000000) : Calls Tryz.prog 98 #[.pointer (some ⟨m.S.k, 0, none⟩), .int .i64 n] w fun e w' => e = .returned (.tuple #[.slice none 0 0, .int .i64 (-4)]) ∧ w = w' := by
  obtain ⟨cv, ev, wv, Ff, FS, FI, h, rfl⟩ := h
  obtain ⟨FK, ov, mv, hp, e⟩ := h.st
  exact Take_under w _ _ _ hp.stk n hn hs
end
end En
end Go.Proofs.YtdokeddjcpnmiaaGreatDoor

/- The engine's with: something is done with cells that are taken. -/
namespace Go.Proofs.YtdokeddjcpnmiaaGreatDoor
open Go.RowKit
namespace En

def M.top (m : M) (n : Nat) : List Int := m.S.st.drop (m.S.st.length - n)
def M.taken (m : M) (n : Nat) : M := { m with S := { m.S with st := m.S.st.take (m.S.st.length - n) } }
theorem top_len {m : M} {n : Nat} (h : n ≤ m.S.st.length) : (m.top n).length = n := by unfold M.top; rw [List.length_drop]; omega
theorem taken_len {m : M} {n : Nat} (h : n ≤ m.S.st.length) : (m.taken n).S.st.length = m.S.st.length - n := by show (m.S.st.take _).length = _; rw [List.length_take]; omega
theorem taken_fine {m : M} (h : Fine m) (n : Nat) : Fine (m.taken n) := h.stk (by have := h.st; rw [List.length_take]; omega)
theorem with_under {m : M} {n : Nat} (h : m.S.st.length < n) (do_ : List Int → M → Int × M) : m.with_ n do_ = m.throw (-4) := by
  unfold M.with_
  rw [if_neg (by omega), if_pos (by omega)]
theorem with_do {m : M} {n : Nat} (h : n ≤ m.S.st.length) (do_ : List Int → M → Int × M) : m.with_ n do_ = if (do_ (m.top n) (m.taken n)).1 = 0 then (ran, (do_ (m.top n) (m.taken n)).2) else
    (if (do_ (m.top n) (m.taken n)).2.S.st.length + (m.top n).length ≤ 128 then { (do_ (m.top n) (m.taken n)).2 with S := { (do_ (m.top n) (m.taken n)).2.S with st := (do_ (m.top n) (m.taken n)).2.S.st ++ m.top n } } else (do_ (m.top n) (m.taken n)).2).throw (do_ (m.top n) (m.taken n)).1 := by
  unfold M.with_
  rw [if_neg (by omega), if_neg (by omega)]
  rfl
/-- what a closure does with the cells that were taken -/
def Acts (w : World) (g : Nat) (p : Lay) (F : List Nat) (m : M) (n : Nat) (fid : FuncId) (first caps : Array Value) (do_ : List Int → M → Int × M) : Prop :=
  ∀ W lv, Touch F w W → EngAt W g p F (m.taken n) → CellsG W lv (m.top n) → (m.top n).length = n →
    Calls Tryz.prog fid (first ++ #[lv] ++ caps) W fun e w' => e = .returned (.int .i64 (do_ (m.top n) (m.taken n)).1) ∧ Keep W g p F (do_ (m.top n) (m.taken n)).2 w'
set_option maxRecDepth 100000 in
set_option maxHeartbeats 3200000 in
theorem with_sem {w : World} {g : Nat} {p : Lay} {F : List Nat} {m : M} (h : EngAt w g p F m) (hf : Fine m) (n : Nat) (hn : n ≤ 1000000) (fid : FuncId) (first caps : Array Value) (do_ : List Int → M → Int × M)
    (hEn : Enters Tryz.prog fid) (hdo : Acts w g p F m n fid first caps do_) (hfin : n ≤ m.S.st.length → Fine (do_ (m.top n) (m.taken n)).2) (hput : n ≤ m.S.st.length → (do_ (m.top n) (m.taken n)).1 ≠ 0 → (do_ (m.top n) (m.taken n)).2.S.st.length + n ≤ 128) :
    Calls Tryz.prog 67 #[.pointer (some ⟨g, 0, none⟩), .int .i64 n, .func (.func fid) first caps] w fun R w' => R = .returned (stV (m.with_ n do_).1) ∧ Keep w g p F (m.with_ n do_).2 w' := by
  have hS0 := Start.new w h
  have hE0 := h.touch hS0.t (by simp)
  obtain ⟨z, hz⟩ : ∃ z, w.heap.size = z := ⟨_, rfl⟩
  rw [hz] at hS0
  have c7 := hE0.c7
  have hSt := hE0.stack_of
  rcases Nat.lt_or_ge m.S.st.length n with hlt | hge
  · rw [with_under hlt]
    have hTk := take_under hE0 n hlt hn
    have hT := throw_sem hE0 hf (-4)
    obtain ⟨⟨⟨sa, sb, sc⟩, m'⟩, hq⟩ : ∃ q, m.throw (-4) = q := ⟨_, rfl⟩
    rw [hq] at hT ⊢
    dsimp only at hT ⊢
    have HS := Lib.hid hS0
    clear hS0 hE0 h hq hf hEn hdo hfin hput hlt
    go_enter Tryz.func67, Tryz.ntmps67
    go_upto_region 1 with fail
    clear hz
    generalize w.alloc (.cells #[.int .i64 0, .int .i64 0, .int .i64 0] 48) = W0 at *
    go_wp2_with fail
    refine hSt.mono ?_
    rintro _ _ ⟨rfl, rfl⟩
    clear hSt c7
    go_wp2_with fail
    refine hTk.mono ?_
    rintro _ _ ⟨rfl, rfl⟩
    clear hTk
    go_wp2_with fail
    refine hT.mono ?_
    rintro _ w1 ⟨rfl, k1⟩
    have hb := HS.out.blk k1
    obtain ⟨⟨e0, e1, e2⟩, g0, g1, g2⟩ := zeros_of hb
    obtain ⟨r0, r1, r2⟩ := three_read hb (.int .i64 sa) (.int .i64 sb) (.int .i64 sc)
    have HK := Lib.hid (HS.out.end_ k1 (.int .i64 sa) (.int .i64 sb) (.int .i64 sc))
    clear hT k1 hb
    go_wp2_with fail
    refine bodyPost_ret (by simp [results, Tryz.results67, go_sem, r0, r1, r2]; try rfl) rfl ?_
    exact ⟨rfl, HK.out⟩
  · have hfin := hfin hge
    have hput := hput hge
    have hTk := take_eng hE0 n hge hf.st
    have hW := with_do hge do_
    have hlen := top_len hge
    obtain ⟨r, hr⟩ : ∃ r, do_ (m.top n) (m.taken n) = r := ⟨_, rfl⟩
    rw [hr] at hW hfin hput
    obtain ⟨re, m2⟩ := r
    dsimp only at hW hfin hput
    obtain ⟨q, hq⟩ : ∃ q, M.done (re, (if re = 0 then m2 else { m2 with S := { m2.S with st := m2.S.st ++ m.top n } })) = q := ⟨_, rfl⟩
    have hWq : m.with_ n do_ = q := by
      rw [hW, ← hq]
      unfold M.done
      by_cases h0 : re = 0
      · rw [if_pos h0, if_pos h0, if_pos h0]
      · rw [if_neg h0, if_neg h0, if_neg h0, if_pos (by rw [hlen]; exact hput h0)]
    rw [hWq]
    obtain ⟨⟨sa, sb, sc⟩, m'⟩ := q
    have HA := Lib.hid (And.intro hS0 (And.intro hdo (And.intro hfin (And.intro hput (And.intro hq (And.intro hr (And.intro hlen hf)))))))
    have hent : ∀ (args : Array Value) (w : World), (callFunc fid args).run Tryz.prog w = .ok (.enter fid args) w := hEn
    clear hS0 hE0 h hdo hfin hput hq hr hlen hf hW hWq hEn hge
    go_enter Tryz.func67, Tryz.ntmps67
    go_upto_region 1 with fail
    have hw0 : w.heap.size ≤ (w.alloc (.cells #[.int .i64 0, .int .i64 0, .int .i64 0] 48)).heap.size := by simp
    clear hz
    generalize w.alloc (.cells #[.int .i64 0, .int .i64 0, .int .i64 0] 48) = W0 at *
    go_wp2_with fail
    refine hSt.mono ?_
    rintro _ _ ⟨rfl, rfl⟩
    clear hSt c7
    go_wp2_with fail
    refine hTk.mono ?_
    rintro _ w1 ⟨lv, rfl, hown, hE1, t1⟩
    obtain ⟨la, lc, rfl⟩ := own_slice hown
    obtain ⟨hS0, hdo, hfin, hput, hq, hr, hlen, hf⟩ := HA.out
    have hcs : CellsG w1 (.slice la n lc) (m.top n) := row_cellsG (base := W0.heap.size) (by rw [hlen]; exact hown)
    have tA : Touch F w w1 := (hS0.t.mono (by simp)).trans t1 (fun x hx => .inl hx)
    have hC := hdo w1 (.slice la n lc) tA hE1 hcs hlen
    rw [hr] at hC
    dsimp only at hC
    have k1 : Keep W0 g p F (m.taken n) w1 := ⟨F, hE1, t1, Sub.refl _ _⟩
    have HB := Lib.hid (And.intro hown (And.intro t1 (And.intro hE1 k1)))
    clear hTk hown hE1 hcs tA hdo hr hfin hput hq hf hS0 k1 t1 hlen
    by_cases h0 : re = 0
    · subst h0
      go_wp2_with fail
      refine hC.mono ?_
      rintro _ w2 ⟨rfl, k2⟩
      obtain ⟨F2, h2, n2⟩ := k2.open
      have hD := done_sem h2 HA.out.2.2.1 0
      have hq := HA.out.2.2.2.2.1
      rw [if_pos (by trivial)] at hq
      rw [hq] at hD
      dsimp only at hD
      have HN := Lib.hid (fun m3 W3 (k : Keep w2 g p F2 m3 W3) => Keep.trans HB.out.2.1 (Sub.refl _ _) (n2.out m3 W3 k))
      clear hC hent k2 h2 n2 hq
      go_wp2_with fail
      refine hD.mono ?_
      rintro _ w3 ⟨rfl, k3⟩
      have k3 := HN.out _ _ k3
      have hb := HA.out.1.blk k3
      obtain ⟨⟨e0, e1, e2⟩, g0, g1, g2⟩ := zeros_of hb
      obtain ⟨r0, r1, r2⟩ := three_read hb (.int .i64 sa) (.int .i64 sb) (.int .i64 sc)
      have HK := Lib.hid (HA.out.1.end_ k3 (.int .i64 sa) (.int .i64 sb) (.int .i64 sc))
      clear hD k3 hb
      go_wp2_with fail
      refine bodyPost_ret (by simp [results, Tryz.results67, go_sem, r0, r1, r2]; try rfl) rfl ?_
      exact ⟨rfl, HK.out⟩
    · have h0' : (re == 0) = false := by simpa using h0
      have h0'' : (re != 0) = true := by simpa using h0
      have HZ := Lib.hid h0
      clear h0
      go_wp2_with fail
      refine hC.mono ?_
      rintro _ w2 ⟨rfl, k2⟩
      obtain ⟨F2, h2, n2⟩ := k2.open
      have c7 := h2.c7
      have hSt := h2.stack_of
      have hrow : w2.ownsRow W0.heap.size 33 1 (.slice la n lc) n (cells (m.top n)) := by
        obtain ⟨_, _, t2, _⟩ := k2
        exact row_touch HB.out.1 t2 (fun x hx hxF => by have h3 := own_from HB.out.1 x hx; have h4 := HA.out.1.F x hxF; omega)
      have hcs : CellsG w2 (.slice la n lc) (m.top n) := row_cellsG (base := W0.heap.size) (by rw [HA.out.2.2.2.2.2.2.1]; exact hrow)
      have hPu := put_eng h2 hcs HA.out.2.2.1.st (by rw [HA.out.2.2.2.2.2.2.1]; exact HA.out.2.2.2.1 HZ.out)
      have HN := Lib.hid (fun m3 W3 (k : Keep w2 g p F2 m3 W3) => Keep.trans HB.out.2.1 (Sub.refl _ _) (n2.out m3 W3 k))
      clear hC hent k2 h2 n2 hrow hcs
      go_wp2_with fail
      refine hSt.mono ?_
      rintro _ _ ⟨rfl, rfl⟩
      clear hSt c7
      go_wp2_with fail
      refine hPu.mono ?_
      rintro _ w3 ⟨rfl, k3⟩
      have k3 := HN.out _ _ k3
      obtain ⟨F3, h3, n3⟩ := k3.open
      have hf3 : Fine { m2 with S := { m2.S with st := m2.S.st ++ m.top n } } := HA.out.2.2.1.stk (by rw [List.length_append, HA.out.2.2.2.2.2.2.1]; exact HA.out.2.2.2.1 HZ.out)
      have hD := done_sem h3 hf3 re
      have hq := HA.out.2.2.2.2.1
      rw [if_neg HZ.out] at hq
      rw [hq] at hD
      dsimp only at hD
      clear hPu hq hf3 h3 HN k3
      go_wp2_with fail
      refine hD.mono ?_
      rintro _ w4 ⟨rfl, k4⟩
      have k4 := n3.out _ _ k4
      have hb := HA.out.1.blk k4
      obtain ⟨⟨e0, e1, e2⟩, g0, g1, g2⟩ := zeros_of hb
      obtain ⟨r0, r1, r2⟩ := three_read hb (.int .i64 sa) (.int .i64 sb) (.int .i64 sc)
      have HK := Lib.hid (HA.out.1.end_ k4 (.int .i64 sa) (.int .i64 sb) (.int .i64 sc))
      clear hD k4 hb
      go_wp2_with fail
      refine bodyPost_ret (by simp [results, Tryz.results67, go_sem, r0, r1, r2]; try rfl) rfl ?_
      exact ⟨rfl, HK.out⟩
end En
end Go.Proofs.YtdokeddjcpnmiaaGreatDoor

/- What is done with frames, at the engine; the closures of what takes cells. -/
namespace Go.Proofs.YtdokeddjcpnmiaaGreatDoor
open Go.RowKit
namespace En

def stepF (L : List Fr) (by_ : Int) : Bool × Int × List Fr :=
  if L = [] ∨ (topF L).k ≠ 3 then (false, -26, L) else
    if endsF (wrap64 ((topF L).x - (topF L).y)) by_ then (true, 0, L.dropLast) else (false, 0, L.dropLast ++ [{ topF L with x := wrap64 ((topF L).x + by_) }])
section
variable {w w' : World} {g : Nat} {p : Lay} {F : List Nat} {m : M}
theorem pushFr_eng (h : EngAt w g p F m) (f : Fr) (hf : f.l = []) (W : World) (t : Touch [] w W) :
    Calls Tryz.prog 18 #[.pointer (some ⟨p.f, 0, none⟩), .agg (frA f)] W fun e w' => e = .returned (.int .i64 (m.pushFr f).1) ∧ Keep w g p F (m.pushFr f).2 w' := by
  obtain ⟨cv, ev, wv, Ff, FS, FI, h, rfl⟩ := h
  exact pushFr_sem h f hf W t
theorem snoc_of {L : List Fr} (h0 : L ≠ []) : ∃ Q f, L = Q ++ [f] := ⟨L.dropLast, L.getLast h0, (List.dropLast_concat_getLast h0).symm⟩
theorem step_eng (h : EngAt w g p F m) (hfr : m.fr.length ≤ 128) (by_ : Int) : Calls Tryz.prog 111 #[.pointer (some ⟨p.f, 0, none⟩), .int .i64 by_] w fun e w' =>
    e = .returned (.tuple #[.bool (stepF m.fr by_).1, .int .i64 (stepF m.fr by_).2.1]) ∧ Keep w g p F { m with fr := (stepF m.fr by_).2.2 } w' := by
  have hE := h
  obtain ⟨cv, ev, wv, Ff, FS, FI, h, rfl⟩ := h
  by_cases hk : m.fr = [] ∨ (topF m.fr).k ≠ 3
  · have e1 : stepF m.fr by_ = (false, -26, m.fr) := if_pos hk
    rw [e1]
    refine (FStep_no w p.f Ff m.fr h.fr (by omega) by_ hk).mono ?_
    rintro _ w1 ⟨rfl, t⟩
    exact ⟨rfl, (Keep.refl hE).quiet t⟩
  · obtain ⟨Q, f, hQ⟩ := snoc_of (fun e => hk (.inl e))
    have hlen : Q.length < 1000 := by have := congrArg List.length hQ; simp at this; omega
    have hf3 : f.k = 3 := by
      by_cases h3 : f.k = 3
      · exact h3
      · exact absurd (.inr (by rw [hQ, topF_snoc]; exact h3)) hk
    have e1 : stepF m.fr by_ = if endsF (wrap64 (f.x - f.y)) by_ then (true, 0, Q) else (false, 0, Q ++ [{ f with x := wrap64 (f.x + by_) }]) := by
      unfold stepF
      rw [if_neg hk, hQ, topF_snoc, List.dropLast_concat]
    have hS := FStep_yes w p.f Ff Q f (hQ ▸ h.fr) hlen hf3 by_ _ _ _ rfl rfl rfl (endsF (wrap64 (f.x - f.y)) by_) rfl (if endsF (wrap64 (f.x - f.y)) by_ = true then Q else Q ++ [{ f with x := wrap64 (f.x + by_) }]) rfl
    refine hS.mono ?_
    rintro _ w1 ⟨rfl, h1, t1⟩
    rw [e1]
    by_cases hb : endsF (wrap64 (f.x - f.y)) by_ = true
    · rw [if_pos hb] at h1 ⊢
      rw [hb]
      exact ⟨rfl, h.frs h1 t1 (Sub.refl _ _)⟩
    · rw [if_neg hb] at h1 ⊢
      rw [show endsF (wrap64 (f.x - f.y)) by_ = false by simpa using hb]
      exact ⟨rfl, h.frs h1 t1 (Sub.refl _ _)⟩
theorem pop_yes (h : EngAt w g p F m) (hfr : m.fr.length ≤ 128) (f : Fr) (Q : List Fr) (hQ : m.fr = Q ++ [f]) (k : Int) (hk : f.k = k) (hk4 : k ≠ 4) : Calls Tryz.prog 72 #[.pointer (some ⟨p.f, 0, none⟩), .int .i64 k] w fun e w' =>
    e = .returned (.tuple #[.agg (frA f), .int .i64 0]) ∧ Keep w g p F { m with fr := Q } w' := by
  obtain ⟨cv, ev, wv, Ff, FS, FI, h, rfl⟩ := h
  subst hk
  refine (FPop_yes w p.f Ff Q f (hQ ▸ h.fr) (by have := congrArg List.length hQ; simp at this; omega) hk4).mono ?_
  rintro _ w1 ⟨rfl, h1, t1⟩
  exact ⟨rfl, h.frs h1 t1 (Sub.refl _ _)⟩
theorem pop_any (h : EngAt w g p F m) (hfr : m.fr.length ≤ 128) (f : Fr) (Q : List Fr) (hQ : m.fr = Q ++ [f]) (k : Int) (hk : f.k = k) : Calls Tryz.prog 72 #[.pointer (some ⟨p.f, 0, none⟩), .int .i64 k] w fun e w' =>
    (∃ a n c, e = .returned (.tuple #[.agg #[.int .i64 f.k, .int .i64 f.a, .int .i64 f.b, .int .i64 f.x, .int .i64 f.y, .slice a n c], .int .i64 0])) ∧ Keep w g p F { m with fr := Q } w' := by
  obtain ⟨cv, ev, wv, Ff, FS, FI, h, rfl⟩ := h
  subst hk
  refine (FPop_gen w p.f Ff Q f (hQ ▸ h.fr) (by have := congrArg List.length hQ; simp at this; omega)).mono ?_
  rintro _ w1 ⟨⟨v, rfl, ⟨a, n, c, rfl⟩, _⟩, h1, t1⟩
  exact ⟨⟨a, n, c, rfl⟩, h.frs h1 t1 (Sub.refl _ _)⟩
theorem pop_no (h : EngAt w g p F m) (hfr : m.fr.length ≤ 128) (k : Int) (hk : m.fr = [] ∨ (topF m.fr).k ≠ k) : Calls Tryz.prog 72 #[.pointer (some ⟨p.f, 0, none⟩), .int .i64 k] w fun e w' =>
    e = .returned (.tuple #[.agg (frA Fr.none), .int .i64 (-6)]) ∧ Keep w g p F m w' := by
  have hE := h
  obtain ⟨cv, ev, wv, Ff, FS, FI, h, rfl⟩ := h
  refine (FPop_no w p.f Ff m.fr h.fr (by omega) k hk).mono ?_
  rintro _ w1 ⟨rfl, t1⟩
  exact ⟨rfl, (Keep.refl hE).quiet t1⟩
set_option maxHeartbeats 1000000 in
theorem loop_sem (h : EngAt w g p F m) (hfr : m.fr.length ≤ 128) (by_ tgt : Int) : Calls Tryz.prog 84 #[.pointer (some ⟨g, 0, none⟩), .int .i64 by_, .int .i64 tgt] w fun e w' => e = .returned (.int .i64 (m.loop by_ tgt).1) ∧ Keep w g p F (m.loop by_ tgt).2 w' := by
  have hS := step_eng h hfr by_
  have c3 := h.c3
  by_cases hk : m.fr = [] ∨ (topF m.fr).k ≠ 3
  · have e1 : stepF m.fr by_ = (false, -26, m.fr) := if_pos hk
    have e2 : m.loop by_ tgt = (-26, m) := if_pos hk
    rw [e1] at hS
    rw [e2]
    dsimp only at hS ⊢
    clear e1 e2 hk h hfr
    go_enter Tryz.func84, Tryz.ntmps84
    go_wp2_with fail
    refine hS.mono ?_
    rintro _ w1 ⟨rfl, k1⟩
    have HK := Lib.hid k1
    clear hS k1
    go_wp2_with fail
    go_ret
    exact ⟨rfl, HK.out⟩
  · obtain ⟨b, hb⟩ : ∃ b, endsF (wrap64 ((topF m.fr).x - (topF m.fr).y)) by_ = b := ⟨_, rfl⟩
    obtain ⟨L, hL⟩ : ∃ L, (if b = true then m.fr.dropLast else m.fr.dropLast ++ [{ topF m.fr with x := wrap64 ((topF m.fr).x + by_) }]) = L := ⟨_, rfl⟩
    have e1 : stepF m.fr by_ = (b, 0, L) := by
      unfold stepF
      rw [if_neg hk, hb, ← hL]
      cases b <;> rfl
    have e2 : m.loop by_ tgt = ({ m with fr := L } : M).jump (!b) tgt := by
      unfold M.loop
      rw [if_neg hk]
      dsimp only
      rw [hb, ← hL]
      cases b <;> rfl
    rw [e1] at hS
    rw [e2]
    dsimp only at hS
    have HJ := Lib.hid (fun (W : World) F' (hW : EngAt W g p F' { m with fr := L }) => jump_sem hW (!b) tgt)
    clear e1 e2 hk h hfr hL hb
    go_enter Tryz.func84, Tryz.ntmps84
    go_wp2_with fail
    refine hS.mono ?_
    rintro _ w1 ⟨rfl, k1⟩
    obtain ⟨F1, h1, n1⟩ := k1.open
    have hJ := HJ.out _ _ h1
    clear hS k1 h1 c3
    go_wp2_with fail
    refine hJ.mono ?_
    rintro _ w2 ⟨rfl, k2⟩
    have HK := Lib.hid (n1.out _ _ k2)
    clear hJ k2
    go_wp2_with fail
    go_ret
    exact ⟨rfl, HK.out⟩
end
/-- what a closure holds: the engine's address -/
structure Cap (w : World) (F : List Nat) (b g : Nat) : Prop where
  blk : Blk w b 27 #[.pointer (some ⟨g, 0, none⟩)]
  off : b ∉ F
structure CapX (w : World) (F : List Nat) (b : Nat) (op a v : Int) : Prop where
  blk : Blk w b 56 #[.int .u8 op, .int .i64 a, .int .i64 v]
  off : b ∉ F
theorem Cap.at_ {w W : World} {F : List Nat} {b g : Nat} (h : Cap w F b g) (t : Touch F w W) : W.cell? ⟨b, 0, none⟩ = some (.pointer (some ⟨g, 0, none⟩)) := (h.blk.touch t h.off).cell 0
theorem CapX.at_ {w W : World} {F : List Nat} {b : Nat} {op a v : Int} (h : CapX w F b op a v) (t : Touch F w W) : W.cell? ⟨b, 0, none⟩ = some (.int .u8 op) ∧ W.cell? ⟨b, 1, none⟩ = some (.int .i64 a) ∧ W.cell? ⟨b, 2, none⟩ = some (.int .i64 v) := ⟨(h.blk.touch t h.off).cell 0, (h.blk.touch t h.off).cell 1, (h.blk.touch t h.off).cell 2⟩
end En
end Go.Proofs.YtdokeddjcpnmiaaGreatDoor

/- The engine's closures: what is done with cells that were taken (printed by wip/engclo.py). -/
namespace Go.Proofs.YtdokeddjcpnmiaaGreatDoor
open Go.RowKit
namespace En

section
variable {w : World} {g : Nat} {p : Lay} {F : List Nat} {m : M}
set_option maxRecDepth 100000 in
set_option maxHeartbeats 1600000 in
theorem toR_acts {b : Nat} (hb : Cap w F b g) : Acts w g p F m 1 136 #[] #[.pointer (some ⟨b, 0, none⟩)] (fun l m => m.pushFr ⟨2, 0, 0, l.getD 0 0, 0, []⟩) := by
  intro W lv t hE hc hl
  obtain ⟨gg, c, rfl, hcell⟩ := hc.get (by rw [hl]; decide)
  rw [hl] at hcell ⊢
  have i0 := hcell 0 (by decide)
  have b0 := hb.at_ t
  have c3 := hE.c3
  show Calls Tryz.prog 136 #[.slice (some ⟨gg, 0, none⟩) 1 c, .pointer (some ⟨b, 0, none⟩)] W fun e w' => e = .returned (.int .i64 ((m.taken 1).pushFr ⟨2, 0, 0, (m.top 1).getD 0 0, 0, []⟩).1) ∧ Keep W g p F ((m.taken 1).pushFr ⟨2, 0, 0, (m.top 1).getD 0 0, 0, []⟩).2 w'
  obtain ⟨m1, hm1⟩ : ∃ m1, m.taken 1 = m1 := ⟨_, rfl⟩
  rw [hm1] at hE ⊢
  obtain ⟨x0, hx0⟩ : ∃ x, (m.top 1).getD 0 0 = x := ⟨_, rfl⟩
  rw [hx0] at i0
  try rw [hx0]
  have HM := Lib.hid hm1
  clear hm1 hx0 hcell hc hl t hb
  have hP := pushFr_eng (hE.touch (Touch.refl [] W).drew (by simp)) ⟨2, 0, 0, x0, 0, []⟩ rfl W.drew (Touch.refl [] _)
  unfold frA at hP
  dsimp only at hP
  clear hE
  go_enter Tryz.func136, Tryz.ntmps136
  go_wp2_with fail
  go_still_tail 8, (by kernel_rfl)
  change wpList _ _ _ _ _ W.drew
  go_wp2_with fail
  refine hP.mono ?_
  rintro _ w2 ⟨rfl, k2⟩
  have HK := Lib.hid (k2.pre (Touch.refl [] W).drew)
  clear k2 hP
  go_wp2_with fail
  go_ret
  exact ⟨rfl, HK.out⟩
set_option maxRecDepth 100000 in
set_option maxHeartbeats 1600000 in
theorem exec_acts {b : Nat} (hb : Cap w F b g) (hw : m.words.length ≤ 1000000) : Acts w g p F m 1 138 #[] #[.pointer (some ⟨b, 0, none⟩)] (fun l m => m.named (l.getD 0 0)) := by
  intro W lv t hE hc hl
  obtain ⟨gg, c, rfl, hcell⟩ := hc.get (by rw [hl]; decide)
  rw [hl] at hcell ⊢
  have i0 := hcell 0 (by decide)
  have b0 := hb.at_ t
  have c3 := hE.c3
  show Calls Tryz.prog 138 #[.slice (some ⟨gg, 0, none⟩) 1 c, .pointer (some ⟨b, 0, none⟩)] W fun e w' => e = .returned (.int .i64 ((m.taken 1).named ((m.top 1).getD 0 0)).1) ∧ Keep W g p F ((m.taken 1).named ((m.top 1).getD 0 0)).2 w'
  obtain ⟨m1, hm1⟩ : ∃ m1, m.taken 1 = m1 := ⟨_, rfl⟩
  rw [hm1] at hE ⊢
  obtain ⟨x0, hx0⟩ : ∃ x, (m.top 1).getD 0 0 = x := ⟨_, rfl⟩
  rw [hx0] at i0
  try rw [hx0]
  have HM := Lib.hid hm1
  clear hm1 hx0 hcell hc hl t hb
  have hP := named_sem (hE.touch (Touch.refl [] W).drew (by simp)) (by rw [← HM.out]; exact hw) x0
  clear hE
  go_enter Tryz.func138, Tryz.ntmps138
  go_wp2_with fail
  go_still_tail 4, (by kernel_rfl)
  change wpList _ _ _ _ _ W.drew
  go_wp2_with fail
  refine hP.mono ?_
  rintro _ w2 ⟨rfl, k2⟩
  have HK := Lib.hid (k2.pre (Touch.refl [] W).drew)
  clear k2 hP
  go_wp2_with fail
  go_ret
  exact ⟨rfl, HK.out⟩
set_option maxRecDepth 100000 in
set_option maxHeartbeats 1600000 in
theorem zero_acts {b : Nat} (hb : Cap w F b g) {bx : Nat} {op a v : Int} (hx : CapX w F bx op a v) : Acts w g p F m 1 81 #[] #[.pointer (some ⟨b, 0, none⟩), .pointer (some ⟨bx, 0, none⟩)] (fun l m => m.jump (l.getD 0 0 == 0) a) := by
  intro W lv t hE hc hl
  obtain ⟨gg, c, rfl, hcell⟩ := hc.get (by rw [hl]; decide)
  rw [hl] at hcell ⊢
  have i0 := hcell 0 (by decide)
  have b0 := hb.at_ t
  obtain ⟨q0, q1, q2⟩ := hx.at_ t
  have c3 := hE.c3
  show Calls Tryz.prog 81 #[.slice (some ⟨gg, 0, none⟩) 1 c, .pointer (some ⟨b, 0, none⟩), .pointer (some ⟨bx, 0, none⟩)] W fun e w' => e = .returned (.int .i64 ((m.taken 1).jump ((m.top 1).getD 0 0 == 0) a).1) ∧ Keep W g p F ((m.taken 1).jump ((m.top 1).getD 0 0 == 0) a).2 w'
  obtain ⟨m1, hm1⟩ : ∃ m1, m.taken 1 = m1 := ⟨_, rfl⟩
  rw [hm1] at hE ⊢
  obtain ⟨x0, hx0⟩ : ∃ x, (m.top 1).getD 0 0 = x := ⟨_, rfl⟩
  rw [hx0] at i0
  try rw [hx0]
  have HM := Lib.hid hm1
  clear hm1 hx0 hcell hc hl t hb hx
  by_cases h0 : x0 = 0
  · subst h0
    have hP := jump_sem (hE.touch (Touch.refl [] W).drew (by simp)) true a
    rw [show ((0 : Int) == 0) = true from rfl]
    clear hE
    go_enter Tryz.func81, Tryz.ntmps81
    go_wp2_with fail
    go_still_tail 7, (by kernel_rfl)
    change wpList _ _ _ _ _ W.drew
    go_wp2_with fail
    refine hP.mono ?_
    rintro _ w2 ⟨rfl, k2⟩
    have HK := Lib.hid (k2.pre (Touch.refl [] W).drew)
    clear k2 hP
    go_wp2_with fail
    go_ret
    exact ⟨rfl, HK.out⟩
  · have h1 : (x0 == 0) = false := by simpa using h0
    have hP := jump_sem (hE.touch (Touch.refl [] W).drew (by simp)) false a
    rw [h1]
    clear hE h0
    go_enter Tryz.func81, Tryz.ntmps81
    go_wp2_with fail
    go_still_tail 7, (by kernel_rfl)
    change wpList _ _ _ _ _ W.drew
    go_wp2_with fail
    refine hP.mono ?_
    rintro _ w2 ⟨rfl, k2⟩
    have HK := Lib.hid (k2.pre (Touch.refl [] W).drew)
    clear k2 hP
    go_wp2_with fail
    go_ret
    exact ⟨rfl, HK.out⟩
set_option maxRecDepth 100000 in
set_option maxHeartbeats 1600000 in
theorem begins_acts : Acts w g p F m 2 82 #[.pointer (some ⟨g, 0, none⟩)] #[] (fun l m => m.begins l) := by
  intro W lv t hE hc hl
  obtain ⟨gg, c, rfl, hcell⟩ := hc.get (by rw [hl]; decide)
  rw [hl] at hcell ⊢
  have i0 := hcell 0 (by decide)
  have i1 := hcell 1 (by decide)
  have c3 := hE.c3
  show Calls Tryz.prog 82 #[.pointer (some ⟨g, 0, none⟩), .slice (some ⟨gg, 0, none⟩) 2 c] W fun e w' => e = .returned (.int .i64 ((m.taken 2).pushFr ⟨3, 0, 0, (m.top 2).getD 1 0, (m.top 2).getD 0 0, []⟩).1) ∧ Keep W g p F ((m.taken 2).pushFr ⟨3, 0, 0, (m.top 2).getD 1 0, (m.top 2).getD 0 0, []⟩).2 w'
  obtain ⟨m1, hm1⟩ : ∃ m1, m.taken 2 = m1 := ⟨_, rfl⟩
  rw [hm1] at hE ⊢
  obtain ⟨x0, hx0⟩ : ∃ x, (m.top 2).getD 0 0 = x := ⟨_, rfl⟩
  rw [hx0] at i0
  try rw [hx0]
  obtain ⟨x1, hx1⟩ : ∃ x, (m.top 2).getD 1 0 = x := ⟨_, rfl⟩
  rw [hx1] at i1
  try rw [hx1]
  have HM := Lib.hid hm1
  clear hm1 hx0 hx1 hcell hc hl t
  have hP := pushFr_eng (hE.touch (Touch.refl [] W).drew (by simp)) ⟨3, 0, 0, x1, x0, []⟩ rfl W.drew (Touch.refl [] _)
  unfold frA at hP
  dsimp only at hP
  clear hE
  go_enter Tryz.func82, Tryz.ntmps82
  go_wp2_with fail
  go_still_tail 11, (by kernel_rfl)
  change wpList _ _ _ _ _ W.drew
  go_wp2_with fail
  refine hP.mono ?_
  rintro _ w2 ⟨rfl, k2⟩
  have HK := Lib.hid (k2.pre (Touch.refl [] W).drew)
  clear k2 hP
  go_wp2_with fail
  go_ret
  exact ⟨rfl, HK.out⟩
set_option maxRecDepth 100000 in
set_option maxHeartbeats 1600000 in
theorem plus_acts {b : Nat} (hb : Cap w F b g) {bx : Nat} {op a v : Int} (hx : CapX w F bx op a v) (hfr : m.fr.length ≤ 128) : Acts w g p F m 1 85 #[] #[.pointer (some ⟨b, 0, none⟩), .pointer (some ⟨bx, 0, none⟩)] (fun l m => m.loop (l.getD 0 0) a) := by
  intro W lv t hE hc hl
  obtain ⟨gg, c, rfl, hcell⟩ := hc.get (by rw [hl]; decide)
  rw [hl] at hcell ⊢
  have i0 := hcell 0 (by decide)
  have b0 := hb.at_ t
  obtain ⟨q0, q1, q2⟩ := hx.at_ t
  have c3 := hE.c3
  show Calls Tryz.prog 85 #[.slice (some ⟨gg, 0, none⟩) 1 c, .pointer (some ⟨b, 0, none⟩), .pointer (some ⟨bx, 0, none⟩)] W fun e w' => e = .returned (.int .i64 ((m.taken 1).loop ((m.top 1).getD 0 0) a).1) ∧ Keep W g p F ((m.taken 1).loop ((m.top 1).getD 0 0) a).2 w'
  obtain ⟨m1, hm1⟩ : ∃ m1, m.taken 1 = m1 := ⟨_, rfl⟩
  rw [hm1] at hE ⊢
  obtain ⟨x0, hx0⟩ : ∃ x, (m.top 1).getD 0 0 = x := ⟨_, rfl⟩
  rw [hx0] at i0
  try rw [hx0]
  have HM := Lib.hid hm1
  clear hm1 hx0 hcell hc hl t hb hx
  have hP := loop_sem (hE.touch (Touch.refl [] W).drew (by simp)) (by rw [← HM.out]; exact hfr) x0 a
  clear hE
  go_enter Tryz.func85, Tryz.ntmps85
  go_wp2_with fail
  go_still_tail 6, (by kernel_rfl)
  change wpList _ _ _ _ _ W.drew
  go_wp2_with fail
  refine hP.mono ?_
  rintro _ w2 ⟨rfl, k2⟩
  have HK := Lib.hid (k2.pre (Touch.refl [] W).drew)
  clear k2 hP
  go_wp2_with fail
  go_ret
  exact ⟨rfl, HK.out⟩
set_option maxRecDepth 100000 in
set_option maxHeartbeats 1600000 in
theorem drop_acts : Acts w g p F m 1 113 #[] #[] (fun _ m => (0, m)) := by
  intro W lv t hE hc hl
  obtain ⟨gg, c, rfl, hcell⟩ := hc.get (by rw [hl]; decide)
  rw [hl] at hcell ⊢
  have i0 := hcell 0 (by decide)
  have c3 := hE.c3
  show Calls Tryz.prog 113 #[.slice (some ⟨gg, 0, none⟩) 1 c] W fun e w' => e = .returned (.int .i64 (((0 : Int), m.taken 1)).1) ∧ Keep W g p F (((0 : Int), m.taken 1)).2 w'
  obtain ⟨m1, hm1⟩ : ∃ m1, m.taken 1 = m1 := ⟨_, rfl⟩
  rw [hm1] at hE ⊢
  obtain ⟨x0, hx0⟩ : ∃ x, (m.top 1).getD 0 0 = x := ⟨_, rfl⟩
  rw [hx0] at i0
  try rw [hx0]
  have HM := Lib.hid hm1
  clear hm1 hx0 hcell hc hl t
  have HK := Lib.hid (Keep.refl hE)
  clear hE
  go_enter Tryz.func113, Tryz.ntmps113
  go_wp2_with fail
  go_ret
  exact ⟨rfl, HK.out⟩
set_option maxRecDepth 100000 in
set_option maxHeartbeats 1600000 in
theorem qdo_acts {b : Nat} (hb : Cap w F b g) {bx : Nat} {op a v : Int} (hx : CapX w F bx op a v) : Acts w g p F m 2 83 #[] #[.pointer (some ⟨b, 0, none⟩), .pointer (some ⟨bx, 0, none⟩)] (fun l m => if l.getD 0 0 = l.getD 1 0 then m.jump true a else m.begins l) := by
  intro W lv t hE hc hl
  obtain ⟨gg, c, rfl, hcell⟩ := hc.get (by rw [hl]; decide)
  rw [hl] at hcell ⊢
  have i0 := hcell 0 (by decide)
  have i1 := hcell 1 (by decide)
  rw [hl] at hc
  have HB := Lib.hid (begins_acts (m := m) (g := g) (p := p) W.drew _ t.drew (hE.touch (Touch.refl [] W).drew (by simp)) (show CellsG W.drew _ _ from hc) hl)
  rw [show (#[.pointer (some ⟨g, 0, none⟩)] ++ #[.slice (some ⟨gg, 0, none⟩) 2 c] ++ #[] : Array Value) = #[.pointer (some ⟨g, 0, none⟩), .slice (some ⟨gg, 0, none⟩) 2 c] from rfl] at HB
  have b0 := hb.at_ t
  obtain ⟨q0, q1, q2⟩ := hx.at_ t
  have c3 := hE.c3
  show Calls Tryz.prog 83 #[.slice (some ⟨gg, 0, none⟩) 2 c, .pointer (some ⟨b, 0, none⟩), .pointer (some ⟨bx, 0, none⟩)] W fun e w' => e = .returned (.int .i64 (if (m.top 2).getD 0 0 = (m.top 2).getD 1 0 then (m.taken 2).jump true a else (m.taken 2).pushFr ⟨3, 0, 0, (m.top 2).getD 1 0, (m.top 2).getD 0 0, []⟩).1) ∧ Keep W g p F (if (m.top 2).getD 0 0 = (m.top 2).getD 1 0 then (m.taken 2).jump true a else (m.taken 2).pushFr ⟨3, 0, 0, (m.top 2).getD 1 0, (m.top 2).getD 0 0, []⟩).2 w'
  obtain ⟨m1, hm1⟩ : ∃ m1, m.taken 2 = m1 := ⟨_, rfl⟩
  rw [hm1] at hE ⊢
  obtain ⟨x0, hx0⟩ : ∃ x, (m.top 2).getD 0 0 = x := ⟨_, rfl⟩
  rw [hx0] at i0
  try rw [hx0]
  obtain ⟨x1, hx1⟩ : ∃ x, (m.top 2).getD 1 0 = x := ⟨_, rfl⟩
  rw [hx1] at i1
  try rw [hx1]
  have HX := Lib.hid (And.intro hx1 hx0)
  have HM := Lib.hid hm1
  clear hm1 hx0 hx1 hcell hc hl t hb hx
  by_cases h0 : x0 = x1
  · subst h0
    rw [if_pos rfl]
    have hP := jump_sem (hE.touch (Touch.refl [] W).drew (by simp)) true a
    clear hE HB
    go_enter Tryz.func83, Tryz.ntmps83
    go_wp2_with fail
    go_still (by kernel_rfl)
    go_wp2_with fail
    refine hP.mono ?_
    rintro _ w2 ⟨rfl, k2⟩
    have HK := Lib.hid (k2.pre (Touch.refl [] W).drew)
    clear k2 hP
    go_wp2_with fail
    go_ret
    exact ⟨rfl, HK.out⟩
  · rw [if_neg h0]
    have h1 : (x0 == x1) = false := by simpa using h0
    have hP := HB.out
    rw [HM.out] at hP
    dsimp only at hP
    obtain ⟨R, hR⟩ : ∃ R, (m1.pushFr ⟨3, 0, 0, x1, x0, []⟩) = R := ⟨_, rfl⟩
    have hR2 : m1.begins (m.top 2) = R := by rw [← hR]; unfold M.begins; rw [HX.out.1, HX.out.2]
    rw [hR2] at hP
    rw [hR]
    clear hE HB h0 hR hR2 HX
    go_enter Tryz.func83, Tryz.ntmps83
    go_wp2_with fail
    go_still (by kernel_rfl)
    go_wp2_with fail
    refine hP.mono ?_
    rintro _ w2 ⟨rfl, k2⟩
    have HK := Lib.hid (k2.pre (Touch.refl [] W).drew)
    clear k2 hP
    go_wp2_with fail
    go_ret
    exact ⟨rfl, HK.out⟩
set_option maxRecDepth 100000 in
set_option maxHeartbeats 1600000 in
theorem of_acts {b : Nat} (hb : Cap w F b g) {bx : Nat} {op a v : Int} (hx : CapX w F bx op a v) (hst : (m.taken 2).S.st.length ≤ 128) : Acts w g p F m 2 86 #[] #[.pointer (some ⟨b, 0, none⟩), .pointer (some ⟨bx, 0, none⟩)] (fun l m => if l.getD 0 0 = l.getD 1 0 then (0, m) else (m.push (l.getD 0 0)).2.jump true a) := by
  intro W lv t hE hc hl
  obtain ⟨gg, c, rfl, hcell⟩ := hc.get (by rw [hl]; decide)
  rw [hl] at hcell ⊢
  have i0 := hcell 0 (by decide)
  have i1 := hcell 1 (by decide)
  have hq : True ∧ ∀ (W2 : World), Keep W g p F (((m.taken 2).push ((m.top 2).getD 0 0)).2) W2 → W2.cell? ⟨b, 0, none⟩ = some (.pointer (some ⟨g, 0, none⟩)) ∧ W2.cell? ⟨bx, 1, none⟩ = some (.int .i64 a) := ⟨trivial, fun W2 k => by
    obtain ⟨_, _, t2, _⟩ := k
    exact ⟨hb.at_ (t.trans t2 (fun x hx => .inl hx)), (hx.at_ (t.trans t2 (fun x hx => .inl hx))).2.1⟩⟩
  have b0 := hb.at_ t
  obtain ⟨q0, q1, q2⟩ := hx.at_ t
  have c3 := hE.c3
  show Calls Tryz.prog 86 #[.slice (some ⟨gg, 0, none⟩) 2 c, .pointer (some ⟨b, 0, none⟩), .pointer (some ⟨bx, 0, none⟩)] W fun e w' => e = .returned (.int .i64 (if (m.top 2).getD 0 0 = (m.top 2).getD 1 0 then (0, m.taken 2) else ((m.taken 2).push ((m.top 2).getD 0 0)).2.jump true a).1) ∧ Keep W g p F (if (m.top 2).getD 0 0 = (m.top 2).getD 1 0 then (0, m.taken 2) else ((m.taken 2).push ((m.top 2).getD 0 0)).2.jump true a).2 w'
  obtain ⟨m1, hm1⟩ : ∃ m1, m.taken 2 = m1 := ⟨_, rfl⟩
  rw [hm1] at hE hq ⊢
  obtain ⟨x0, hx0⟩ : ∃ x, (m.top 2).getD 0 0 = x := ⟨_, rfl⟩
  rw [hx0] at i0
  try rw [hx0]
  rw [hx0] at hq
  obtain ⟨x1, hx1⟩ : ∃ x, (m.top 2).getD 1 0 = x := ⟨_, rfl⟩
  rw [hx1] at i1
  try rw [hx1]
  have HM := Lib.hid hm1
  clear hm1 hx0 hx1 hcell hc hl t hb hx
  by_cases h0 : x0 = x1
  · subst h0
    rw [if_pos rfl]
    have HK := Lib.hid ((Keep.refl hE).quiet (Touch.refl [] W).drew)
    clear hE
    go_enter Tryz.func86, Tryz.ntmps86
    go_wp2_with fail
    go_still (by kernel_rfl)
    go_wp2_with fail
    go_ret
    exact ⟨rfl, HK.out⟩
  · rw [if_neg h0]
    have h1 : (x0 == x1) = false := by simpa using h0
    have hP := push_sem (hE.touch ((Touch.refl [] W).drew.drew) (by simp)) (by rw [← HM.out]; exact hst) x0
    have HJ := Lib.hid (fun (W : World) F' (hW : EngAt W g p F' (m1.push x0).2) => jump_sem hW true a)
    have HQ := Lib.hid hq
    clear hE h0 hq
    go_enter Tryz.func86, Tryz.ntmps86
    go_wp2_with fail
    go_still (by kernel_rfl)
    have t1 := (Touch.refl [] W).drew
    have B0 : W.drew.cell? ⟨b, 0, none⟩ = some (.pointer (some ⟨g, 0, none⟩)) := b0
    have I0 : W.drew.cell? ⟨gg, 0, none⟩ = some (.int .i64 x0) := i0
    clear b0 i0 i1 q0 q1 q2 c3
    change Exit.then _ _ Exit.normal _ W.drew
    generalize W.drew = W1 at *
    go_upto_region 3 with fail
    go_still_tail 4, (by kernel_rfl)
    change wpList _ _ _ _ _ W1.drew
    go_wp2_with fail
    refine hP.mono ?_
    rintro _ w2 ⟨rfl, k2⟩
    have k2 := k2.pre t1.drew
    obtain ⟨q1, q2⟩ := HQ.out.2 w2 k2
    obtain ⟨F2, h2, n2⟩ := k2.open
    have hJ := HJ.out _ _ h2
    clear hP k2 h2 HJ B0 I0
    go_wp2_with fail
    refine hJ.mono ?_
    rintro _ w3 ⟨rfl, k3⟩
    have HK := Lib.hid (n2.out _ _ k3)
    clear k3 hJ
    go_wp2_with fail
    go_ret
    exact ⟨rfl, HK.out⟩
end
end En
end Go.Proofs.YtdokeddjcpnmiaaGreatDoor
