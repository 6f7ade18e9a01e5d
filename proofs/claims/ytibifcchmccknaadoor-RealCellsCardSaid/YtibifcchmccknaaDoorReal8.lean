/- To, of what is no finite number; any cell made a real number; the walk of RealCells. -/
import Derived.Test.YtibifcchmccknaaDoorReal6
import Derived.Test.YtibifcchmccknaaDoorFloat4
namespace Go.Proofs.YtibifcchmccknaaDoor
open Go.RowKit

theorem choose_run {P : Program} (q : Question) (w : World) : ∃ k w1, Touch [] w w1 ∧ (choose q).run P w = .ok k w1 := by
  by_cases h : q.forced = true
  · exact ⟨0, w, Touch.refl _ _, by rw [run_choose, if_pos h]⟩
  · exact ⟨q.cut (w.tape w.drawn q), w.drew, (Touch.refl _ _).drew, by rw [run_choose, if_neg h]; rfl⟩
theorem run_floor_inf (x : Nat) (h : Fl.rg x = 9218868437227405312) (w : World) : (callFunc 46 #[.float .f64 x]).run Tryd.prog w = .ok (.value (.float .f64 (FloatKind.f64.encode (.infinity (Fl.sg x))))) w := by
  rw [run_callFunc_extern Tryd.func46 (by kernel_rfl) (by kernel_rfl) (by kernel_rfl) (e := Extern.MathFloor.toIntegral "math.archFloor" .down) (by kernel_rfl)]
  have e : FloatKind.f64.decode x = .infinity (Fl.sg x) := Fl.read_inf h
  obtain ⟨F, hF⟩ : ∃ F : Bool → Nat → Sem Value, Extern.MathFloor.toIntegral "math.archFloor" .down #[.float .f64 x] = (match FloatKind.f64.decode x with
    | .nan s t => F s t
    | d => pure (.float .f64 (FloatKind.f64.encode (d.integral .down)))) := ⟨_, rfl⟩
  rw [hF, e]
  rfl
theorem run_floor_nan (x : Nat) (h : nanB x) (w : World) : ∃ v w1, Touch [] w w1 ∧ nanB v ∧ (callFunc 46 #[.float .f64 x]).run Tryd.prog w = .ok (.value (.float .f64 v)) w1 := by
  rw [run_callFunc_extern Tryd.func46 (by kernel_rfl) (by kernel_rfl) (by kernel_rfl) (e := Extern.MathFloor.toIntegral "math.archFloor" .down) (by kernel_rfl)]
  have e : FloatKind.f64.decode x = .nan (Fl.sg x) (Fl.rg x - 9218868437227405312) := Fl.read_nan h
  obtain ⟨qn, hF⟩ : ∃ qn : Question, Extern.MathFloor.toIntegral "math.archFloor" .down #[.float .f64 x] = (match FloatKind.f64.decode x with
    | .nan s t => if FloatKind.f64.format.quiet t = t then pure (.float .f64 x) else do
      let kept ← choose qn
      pure (.float .f64 (if kept == 1 then x else FloatKind.f64.encode (.nan s (FloatKind.f64.format.quiet t))))
    | d => pure (.float .f64 (FloatKind.f64.encode (d.integral .down)))) := ⟨_, rfl⟩
  rw [hF, e]
  dsimp only
  have hq : ∀ t, nanB (FloatKind.f64.encode (.nan (Fl.sg x) (FloatKind.f64.format.quiet t))) := by
    intro t
    have h1 := Fl.quiet_pos t
    have h2 : Ieee.double.quiet t % 4503599627370496 < 4503599627370496 := Nat.mod_lt _ (by decide)
    unfold nanB
    change 9218868437227405312 < Fl.rg (Ieee.double.word (Fl.sg x) (Ieee.double.infRung + Ieee.double.quiet t % Ieee.double.binade))
    rw [Fl.c_inf, Fl.c_binade, Fl.rg_word _ _ (by omega)]
    omega
  split
  · exact ⟨x, w, Touch.refl _ _, h, rfl⟩
  · obtain ⟨k, w1, ht, hr⟩ := choose_run (P := Tryd.prog) qn w
    refine ⟨if k == 1 then x else FloatKind.f64.encode (.nan (Fl.sg x) (FloatKind.f64.format.quiet (Fl.rg x - 9218868437227405312))), w1, ht, ?_, ?_⟩
    · split
      · exact h
      · exact hq _
    · simp only [Sem.run_bind, hr, Result.andThen, Sem.run_pure]

/-- what is no finite number is refused -/
theorem order_none {x : Nat} (h : nanB x) (y : Nat) : FloatKind.f64.format.order x y = none := Fl.order_nan (.inl h)
set_option maxHeartbeats 6400000 in
set_option maxRecDepth 100000 in
theorem to_none (a : Int) (hf : ¬ Fl.fin (bitsOf a)) (w : World) : Calls Tryd.prog 15 #[.int .i64 a] w fun e w' => e = .returned (.tuple #[.int .i64 0, .int .i64 (-43)]) ∧ Touch [] w w' := by
  obtain ⟨x, hx⟩ : ∃ x, bitsOf a = x := ⟨_, rfl⟩
  have hlt : x < 18446744073709551616 := by rw [← hx]; exact bitsOf_lt a
  have hN := number_any a
  rw [hx] at hN hf
  clear hx
  by_cases hn : nanB x
  · obtain ⟨v, w1, ht, hv, hrun⟩ := run_floor_nan x hn w
    have o1 : (FloatKind.f64.format.order x 0 == some .lt) = false := by rw [order_none hn]; rfl
    have o2 : (FloatKind.f64.format.order v 14114281232179134464 == some .gt || FloatKind.f64.format.order v 14114281232179134464 == some .eq) = false := by rw [order_none hv]; rfl
    have hfl := floor_any x v w w1 hrun
    clear hn hv hrun hf
    go_enter Tryd.func15, Tryd.ntmps15
    go_wp2_with fail
    refine (hN _).mono ?_
    rintro _ _ ⟨rfl, rfl⟩
    go_wp2_with fail
    refine hfl.mono ?_
    rintro _ _ ⟨rfl, rfl⟩
    go_wp2_with fail
    go_ret2
    exact ⟨rfl, ht⟩
  · have hr : Fl.rg x = 9218868437227405312 := by unfold nanB at hn; unfold Fl.fin at hf; omega
    clear hn hf
    have hcases : x = 9218868437227405312 ∨ x = 18442240474082181120 := by unfold Fl.rg at hr; omega
    have hinf := run_floor_inf 9218868437227405312 (by decide) w
    rw [show FloatKind.f64.encode (.infinity (Fl.sg 9218868437227405312)) = 9218868437227405312 by decide +kernel] at hinf
    have hfl := floor_any _ _ w w hinf
    rcases hcases with hx | hx
    · subst hx
      have o1 : (FloatKind.f64.format.order 9218868437227405312 0 == some .lt) = false := by decide +kernel
      have o2 : (FloatKind.f64.format.order 9218868437227405312 14114281232179134464 == some .gt || FloatKind.f64.format.order 9218868437227405312 14114281232179134464 == some .eq) = true := by decide +kernel
      have o3 : (FloatKind.f64.format.order 9218868437227405312 4890909195324358656 == some .lt) = false := by decide +kernel
      clear hinf hr hlt
      go_enter Tryd.func15, Tryd.ntmps15
      go_wp2_with fail
      refine (hN _).mono ?_
      rintro _ _ ⟨rfl, rfl⟩
      go_wp2_with fail
      refine hfl.mono ?_
      rintro _ _ ⟨rfl, rfl⟩
      go_wp2_with fail
      go_ret2
      exact ⟨rfl, Touch.refl _ _⟩
    · subst hx
      have o1 : (FloatKind.f64.format.order 18442240474082181120 0 == some .lt) = true := by decide +kernel
      have o2 : (FloatKind.f64.format.order 18442240474082181120 14114281232179134464 == some .gt || FloatKind.f64.format.order 18442240474082181120 14114281232179134464 == some .eq) = false := by decide +kernel
      have n1 : ∀ W, (Op.unary .neg (.float .f64 18442240474082181120)).run Tryd.prog W = .ok (.float .f64 9218868437227405312) W := fun W => by rw [neg_run, negFloat_eq _ (by omega)]; rfl
      have n2 : ∀ W, (Op.unary .neg (.float .f64 9218868437227405312)).run Tryd.prog W = .ok (.float .f64 18442240474082181120) W := fun W => by rw [neg_run, negFloat_eq _ (by omega)]; rfl
      clear hinf hr hlt
      go_enter Tryd.func15, Tryd.ntmps15
      go_wp2_with fail
      refine (hN _).mono ?_
      rintro _ _ ⟨rfl, rfl⟩
      go_wp2_with fail
      refine hfl.mono ?_
      rintro _ _ ⟨rfl, rfl⟩
      go_wp2_with fail
      go_ret2
      exact ⟨rfl, Touch.refl _ _⟩

/-- ANY CELL, MADE A REAL NUMBER AND BACK: what To tells of Of -/
structure Near (n v : Int) : Prop where
  up : v ≤ n + 512
  low : n ≤ v + 512
  small : -9007199254740992 < n → n < 9007199254740992 → v = n
  pos : -9223372036854775808 ≤ v
  top : v ≤ 9223372036854775808
theorem near_any (n : Int) (n0 : -9223372036854775808 ≤ n) (n1 : n ≤ 9223372036854775807) : ∃ v, Near n v ∧ Fl.fin (bitsOf (ofC n)) ∧ cutOf (bitsOf (ofC n)) = v := by
  obtain ⟨q, R, hq, hv, hw, h1, h2, h3, h4⟩ : ∃ q R, q < 9218868437227405312 ∧ Fl.Nv q = R * Fl.U ∧ floatOfInt .f64 n = Ieee.double.word (decide (n < 0)) q ∧ (R : Int) ≤ n.natAbs + 512 ∧ (n.natAbs : Int) ≤ R + 512 ∧ R ≤ 9223372036854775808 ∧ (n.natAbs < 9007199254740992 → R = n.natAbs) := by
    rcases Nat.lt_or_ge n.natAbs 9007199254740992 with h | h
    · obtain ⟨q, hq, hv, he⟩ := Fl.flt_spec n h
      exact ⟨q, n.natAbs, hq, hv, he, by omega, by omega, by omega, fun _ => rfl⟩
    · obtain ⟨q, R, hq, hv, he, h1, h2, h3⟩ := Fl.near_spec (decide (n < 0)) n.natAbs h (by omega)
      exact ⟨q, R, hq, hv, he, by omega, by omega, h3, fun h4 => by omega⟩
  have hfx := Fl.fin_word (decide (n < 0)) hq
  have hsx : Fl.sg (Ieee.double.word (decide (n < 0)) q) = decide (n < 0) := Fl.sg_word _ _ (by omega)
  have hrx : Fl.rg (Ieee.double.word (decide (n < 0)) q) = q := Fl.rg_word _ _ (by omega)
  have hb : floatOfInt .f64 n < 18446744073709551616 := by
    have := floatOfInt_wf .f64 n
    simpa [Lit.wf] using this
  have hbits : bitsOf (ofC n) = Ieee.double.word (decide (n < 0)) q := by
    rw [← hw]
    refine bits_made _ hb ?_
    rw [hw]
    unfold nanB
    unfold Fl.fin at hfx
    omega
  have hI : Fl.Iv q = R := by unfold Fl.Iv; rw [hv]; exact Nat.mul_div_cancel _ Fl.U_pos
  refine ⟨cutOf (bitsOf (ofC n)), ?_, by rw [hbits]; exact hfx, rfl⟩
  have hcut : cutOf (bitsOf (ofC n)) = if n < 0 then -(R : Int) else (R : Int) := by
    unfold cutOf
    rw [hbits, hsx, hrx, hI]
    by_cases h : n < 0
    · rw [decide_eq_true h, if_pos rfl, if_pos h]
    · rw [decide_eq_false h, if_neg (by simp), if_neg h]
  rw [hcut]
  by_cases h : n < 0
  · rw [if_pos h]
    exact ⟨by omega, by omega, fun h5 h6 => by have := h4 (by omega); omega, by omega, by omega⟩
  · rw [if_neg h]
    exact ⟨by omega, by omega, fun h5 h6 => by have := h4 (by omega); omega, by omega, by omega⟩

theorem diff_abs (sx : Bool) (v : Int) (I P m N : Nat) (hdm : P + m = N) (hI : I = 0 → P = 0) (hv : v = if sx then -(I : Int) else (I : Int)) :
    ((if sx then -(N : Int) else (N : Int)) + -(if v < 0 then -(P : Int) else (P : Int))).natAbs = m := by
  cases sx
  · rw [if_neg (by simp)] at hv
    rw [if_neg (by simp), if_neg (by omega)]
    omega
  · rw [if_pos rfl] at hv
    rw [if_pos rfl]
    by_cases h : v < 0
    · rw [if_pos h]; omega
    · rw [if_neg h]
      have := hI (by omega)
      omega
/-- what a cut number is, and what is left over -/
theorem cut_rest (f : Int) (hf : Fl.fin (bitsOf f)) :
    ∃ y rest : Nat, bitsOf (ofC (cutOf (bitsOf f))) = y ∧ Ieee.double.order (Fl.rg (bitsOf f)) (Fl.rg y) ≠ some .lt ∧ Ieee.double.sub (bitsOf f) y = some rest ∧ rest < 18446744073709551616 ∧ ¬ nanB rest ∧ ¬ nanB y ∧ Ieee.double.order (Fl.rg rest) 4607182418800017408 = some .lt := by
  obtain ⟨x, hx⟩ : ∃ x, bitsOf f = x := ⟨_, rfl⟩
  rw [hx] at hf ⊢
  obtain ⟨r, hr⟩ : ∃ r, Fl.rg x = r := ⟨_, rfl⟩
  have hrf : r < 9218868437227405312 := by rw [← hr]; exact hf
  obtain ⟨v, hv⟩ : ∃ v, cutOf x = v := ⟨_, rfl⟩
  rw [hv]
  have hva : v.natAbs = Fl.Iv r := by rw [← hv, ← hr]; unfold cutOf; split <;> omega
  obtain ⟨hq, hqv⟩ := floW_spec hrf
  obtain ⟨q, hqe⟩ : ∃ q, floW r = q := ⟨_, rfl⟩
  rw [hqe] at hq hqv
  have hw : floatOfInt .f64 v = Ieee.double.word (decide (v < 0)) q := Fl.write_unit _ hq (by rw [hqv, hva])
  have hfy := Fl.fin_word (decide (v < 0)) hq
  have hb : floatOfInt .f64 v < 18446744073709551616 := by
    have := floatOfInt_wf .f64 v
    simpa [Lit.wf] using this
  obtain ⟨y, hy⟩ : ∃ y, Ieee.double.word (decide (v < 0)) q = y := ⟨_, rfl⟩
  have hsy : Fl.sg y = decide (v < 0) := by rw [← hy]; exact Fl.sg_word _ _ (by omega)
  have hry : Fl.rg y = q := by rw [← hy]; exact Fl.rg_word _ _ (by omega)
  rw [hy] at hw hfy
  have hny : ¬ nanB y := by unfold nanB; unfold Fl.fin at hfy; omega
  have hbits : bitsOf (ofC v) = y := by
    rw [← hw]
    refine bits_made _ hb ?_
    rw [hw]
    exact hny
  obtain ⟨q2, hq2, hv2⟩ := Fl.rest_rung hrf
  have hU := Fl.U_pos
  have hdm := Nat.div_add_mod (Fl.Nv r) Fl.U
  have hIv : Fl.U * (Fl.Nv r / Fl.U) = Fl.Iv r * Fl.U := Nat.mul_comm _ _
  have hml := Nat.mod_lt (Fl.Nv r) hU
  rw [hIv] at hdm
  have hZy : Fl.Zv y = if v < 0 then -((Fl.Iv r * Fl.U : Nat) : Int) else ((Fl.Iv r * Fl.U : Nat) : Int) := by
    unfold Fl.Zv
    rw [hsy, hry, hqv]
    by_cases h : v < 0
    · rw [decide_eq_true h, if_pos rfl, if_pos h]
    · rw [decide_eq_false h, if_neg (by simp), if_neg h]
  have hZx : Fl.Zv x = if Fl.sg x then -(Fl.Nv r : Int) else (Fl.Nv r : Int) := by unfold Fl.Zv; rw [hr]
  have hdiff : (Fl.Zv x + -Fl.Zv y).natAbs = Fl.Nv q2 := by
    have hvs : v = if Fl.sg x then -(Fl.Iv r : Int) else (Fl.Iv r : Int) := by rw [← hv]; unfold cutOf; rw [hr]
    rw [hv2, hZx, hZy]
    exact diff_abs _ _ _ _ _ _ hdm (fun h => by rw [h, Nat.zero_mul]) hvs
  have hopp := Fl.Zv_opp hfy
  obtain ⟨rest, hrest⟩ : ∃ rest, Ieee.double.sub x y = some rest ∧ ∃ s, rest = Ieee.double.word s q2 := by
    rw [Fl.sub_as_add hfy]
    refine ⟨_, Fl.add_exact hf (Fl.fin_word _ hfy) hq2 (by rw [hopp]; exact hdiff), _, rfl⟩
  obtain ⟨hs1, s, hs2⟩ := hrest
  have hrr : Fl.rg rest = q2 := by rw [hs2]; exact Fl.rg_word _ _ (by omega)
  refine ⟨y, rest, hbits, ?_, hs1, ?_, ?_, hny, ?_⟩
  · rw [hr, hry]
    have ho : Ieee.double.order r q = _ := order_pos hrf hq
    rw [ho, hqv]
    rcases Nat.lt_trichotomy (Fl.Nv r) (Fl.Iv r * Fl.U) with h | h | h
    · omega
    · rw [h, Nat.compare_eq_eq.2 rfl]; simp
    · rw [Nat.compare_eq_gt.2 h]; simp
  · rw [hs2]; unfold Ieee.Format.word; rw [Fl.c_sign]; split <;> omega
  · unfold nanB; rw [hrr]; omega
  · rw [hrr]
    have h1v : Fl.Nv 4607182418800017408 = Fl.U := by
      have e1 : Fl.M 4607182418800017408 = 2 ^ 52 := by decide
      obtain ⟨k, hk⟩ : ∃ k, Fl.E 4607182418800017408 = k := ⟨_, rfl⟩
      have hk2 : k = 1022 := by rw [← hk]; decide
      have hB : Fl.B = 52 + k := by rw [Fl.B_eq, hk2]
      rw [Fl.Nv, e1, hk, Fl.U_eq, hB, Nat.pow_add]
    have ho : Ieee.double.order q2 4607182418800017408 = _ := order_pos hq2 (by omega)
    rw [ho, h1v, hv2, Nat.compare_eq_lt.2 hml]

theorem cells_abs (a : Int) (w : World) : Calls Tryd.prog 16 #[.int .i64 a] w fun e w' => e = .returned (.int .i64 (madeOf (Fl.rg (bitsOf a)))) ∧ w = w' := by
  go_enter Tryd.func16, Tryd.ntmps16
  go_wp2_with fail
  refine (one_abs a _).mono ?_
  rintro _ _ ⟨rfl, rfl⟩
  go_wp2_with fail
  go_ret
  exact ⟨rfl, rfl⟩

theorem rg_one : bitsOf (ofC 1) = 4607182418800017408 := by decide +kernel
/-- the second half of the law, laid out for the walk: c is f cut -/
theorem rest_is (f : Int) (hf : Fl.fin (bitsOf f)) : ∃ s1 s2 s3 s4 : Int,
    (∀ w, Calls Tryd.prog 16 #[.int .i64 f] w fun e w' => e = .returned (.int .i64 s1) ∧ w = w') ∧
    (∀ w, Calls Tryd.prog 16 #[.int .i64 (ofC (cutOf (bitsOf f)))] w fun e w' => e = .returned (.int .i64 s2) ∧ w = w') ∧
    (∀ w, Calls Tryd.prog 10 #[.int .i64 9, .int .i64 s1, .int .i64 s2] w fun e w' => e = .returned (.tuple #[.int .i64 0, .int .i64 0]) ∧ w = w') ∧
    (∀ w, Calls Tryd.prog 10 #[.int .i64 4, .int .i64 f, .int .i64 (ofC (cutOf (bitsOf f)))] w fun e w' => e = .returned (.tuple #[.int .i64 s3, .int .i64 0]) ∧ Touch [] w w') ∧
    (∀ w, Calls Tryd.prog 16 #[.int .i64 s3] w fun e w' => e = .returned (.int .i64 s4) ∧ w = w') ∧
    (∀ w, Calls Tryd.prog 10 #[.int .i64 9, .int .i64 s4, .int .i64 (ofC 1)] w fun e w' => e = .returned (.tuple #[.int .i64 (-1), .int .i64 0]) ∧ w = w') := by
  obtain ⟨y, rest, hy, ho1, hsub, hrl, hrn, hyn, ho2⟩ := cut_rest f hf
  have hbf : bitsOf (madeOf (Fl.rg (bitsOf f))) = Fl.rg (bitsOf f) := bits_made _ (Nat.lt_trans (rg_lt _) (by decide)) (by unfold nanB; rw [rg_rg]; unfold Fl.fin at hf; omega)
  have hby : bitsOf (madeOf (Fl.rg y)) = Fl.rg y := bits_made _ (Nat.lt_trans (rg_lt _) (by decide)) (by unfold nanB at hyn ⊢; rw [rg_rg]; exact hyn)
  have hbr : bitsOf (madeOf rest) = rest := bits_made _ hrl hrn
  have hbr2 : bitsOf (madeOf (Fl.rg rest)) = Fl.rg rest := bits_made _ (Nat.lt_trans (rg_lt _) (by decide)) (by unfold nanB at hrn ⊢; rw [rg_rg]; exact hrn)
  refine ⟨madeOf (Fl.rg (bitsOf f)), madeOf (Fl.rg y), madeOf rest, madeOf (Fl.rg rest), cells_abs f, fun w => ?_, fun w => ?_, fun w => ?_, fun w => ?_, fun w => ?_⟩
  · have h := cells_abs (ofC (cutOf (bitsOf f))) w
    rw [hy] at h
    exact h
  · have h := two_less (madeOf (Fl.rg (bitsOf f))) (madeOf (Fl.rg y)) w
    rw [hbf, hby, beq_eq_false_iff_ne.2 ho1] at h
    exact h
  · have h := two_sub f (ofC (cutOf (bitsOf f))) w
    rw [hy, show floatBits .sub .f64 (bitsOf f) y = some rest from hsub] at h
    exact h
  · have h := cells_abs (madeOf rest) w
    rw [hbr] at h
    exact h
  · have h := two_less (madeOf (Fl.rg rest)) (ofC 1) w
    rw [hbr2, rg_one, ho2] at h
    exact h
theorem of_cell (n : Int) (w : World) : Calls Tryd.prog 13 #[.int .i64 n] w fun e w' => e = .returned (.int .i64 (ofC n)) ∧ w = w' := of_any n w

end Go.Proofs.YtibifcchmccknaaDoor
