/- RecogNumbers: its card, from its walk. -/
import Derived.Test.YtgdmiodcfdcihaaGreatDoorNumsLaw
import Derived.Test.YtgdmiodcfdcihaaGreatDoorRecogTab
import Derived.Lib.SmallJoins
namespace Go.Proofs.YtgdmiodcfdcihaaGreatDoor
open Go.ChangeShapes Go.WideShapes Go.ChangeAt Go.RowKit
open Go.ChangeMaps (open_string shut_string)

theorem wf_i64 {n : Int} (h : (Lit.int .i64 n).wf = true) : -9223372036854775808 ≤ n ∧ n ≤ 9223372036854775807 := by
  simpa [Lit.wf, IntKind.min, IntKind.max, IntKind.signed, IntKind.bits] using h
theorem wf_u8 {n : Int} (h : (Lit.int .u8 n).wf = true) : 0 ≤ n ∧ n ≤ 255 := by
  simpa [Lit.wf, IntKind.min, IntKind.max, IntKind.signed, IntKind.bits] using h

set_option maxRecDepth 100000 in
theorem recogNumbers_contract (H : Type) (enc : TypeId × Value → H) (W : World) (base : Nat) (args : Array Value) (ds gs : List (DataW H)) (before : List MemPlace)
    (hval : ∀ (j : Nat) t v, Tryz.f4.params[j]? = some t → args[j]? = some v → Value.okWide Tryz.prog W .any base t v)
    (hW : DataW.Whole enc Tryz.prog Tryz.f4.params.toList Rows.recogNumbersSpec.vars false W args.toList ds gs before)
    (hsz : (DataW.weightsEach Tryz.prog (Tryz.f4.params.toList ++ (OpenSpec.ofChange Rows.recogNumbersSpec).bare.plain.varTypes Tryz.prog) (ds ++ gs)).all (· ≤ reachBytes) = true)
    (hL : laidMetH Tryz.prog Rows.recogNumbersRow.laid W) (hS : W.ShapedOpen Tryz.prog) :
    Calls Tryz.prog 4 args W fun e W' => ∃ v, e = .returned v ∧ Rows.recogNumbersSpec.post enc Tryz.prog Tryz.f4 false true false false W args v W' := by
  have hW' := hW
  obtain ⟨p, q, hA0, hV, rfl, _, _⟩ := hW
  have hA : DataW.TrodAll enc Tryz.prog W 0 (fun _ => true) true Tryz.f4.params.toList args.toList ds p := hA0
  rw [Tryz.params4] at hA hval hsz
  have hTb := tabs_is hL hS
  obtain ⟨v0, v1, v2, d0, d1, d2, p0, p1, p2, rfl, rfl, rfl, h0, h1, h2⟩ := trodAll_three hA
  obtain ⟨c0, c1, y0, y1, n, rfl, rfl, rfl, e0, e1⟩ := Go.Joins.open_agg2 Tryz.underlying33 (by kernel_rfl) (by kernel_rfl) (hval 0 33 v0 rfl rfl) h0
  obtain ⟨lo, hc0, rfl, hw0⟩ := DataW.trod_int Tryz.underlying22 e0
  obtain ⟨hi, hc1, rfl, hw1⟩ := DataW.trod_int Tryz.underlying22 e1
  obtain rfl : c0 = .int .i64 lo := by simpa using hc0
  obtain rfl : c1 = .int .i64 hi := by simpa using hc1
  obtain ⟨fuel, hf⟩ := h1
  obtain ⟨t, ht1, ht2, hw2⟩ := DataW.trod_int Tryz.underlying5 hf
  obtain ⟨z, rfl⟩ := Go.WideShapes.okWide_int Tryz.underlying5 (hval 1 5 v1 rfl rfl)
  obtain rfl : z = t := by simpa [Value.cells] using ht1
  simp only [Prod.mk.injEq] at ht2
  obtain ⟨rfl, rfl⟩ := ht2
  have hlt2 : ∀ x ∈ p2, x.block < W.heap.size := fun x hx => by simpa using hW'.lt x (by simp [hx])
  obtain ⟨ss2, hS2⟩ := open_strs Tryz.underlying34 Tryz.underlying9 cellsStr (hval 2 34 v2 rfl rfl) h2 hlt2 fun elems spare hd => by
    have := sized_slice hsz (j := 2) (t := 34) (e := 9) rfl (by rw [hd]; rfl) Tryz.underlying34
    rw [bytesStr] at this
    simp only [reachBytes] at this
    omega
  refine (RecogNumbers_walk lo hi (wf_i64 hw0).1 (wf_i64 hw0).2 (wf_i64 hw1).1 (wf_i64 hw1).2 z (wf_u8 hw2).1 (wf_u8 hw2).2 W v2 ss2 hS2 hTb).mono fun e W' ⟨he, hb⟩ => ?_
  subst he
  exact ⟨_, rfl, law_post laidOut (by rw [Tryz.params4]; exact of_decide_eq_true (by kernel_rfl)) rfl rfl Tryz.underlying4 hW' (fun l hl => by subst hl; rfl) (hb.below (Nat.le_refl _) (by simp))⟩

theorem recogNumbers_laid_met (os : Os) : laidMet Tryz.prog Rows.recogNumbersRow.laid ((laidWorld5 os).forCall (fun _ _ => 0) ⟨#[], #[.agg #[.int .i64 0, .int .i64 0], .int .u8 0, .slice none 0 0], []⟩).memory :=
  laidMet_of_run' 8 (by kernel_rfl) (by kernel_rfl)
theorem recogNumbers_reads (os : Os) {H : Type} (enc : TypeId × Value → H) : ∃ places, DataW.whole enc Tryz.prog ((laidWorld5 os).forCall (fun _ _ => 0) ⟨#[], #[.agg #[.int .i64 0, .int .i64 0], .int .u8 0, .slice none 0 0], []⟩).memory Tryz.f4.params.toList Rows.recogNumbersSpec.vars false (#[.agg #[.int .i64 0, .int .i64 0], .int .u8 0, .slice none 0 0] : Array Value).toList 8 = some ([.agg [.lit (.int .i64 0), .lit (.int .i64 0)], .lit (.int .u8 0), .nil], [], places) :=
  ⟨[], by kernel_rfl⟩

set_option maxRecDepth 100000 in
theorem recogNumbers_lifted (os : Os) (started : os.Started) (H : Type) (enc : TypeId × Value → H) (F : Stop.Interp) :
    ReturnsInHanded {} Tryz.checked os 4 .any ((OpenSpec.ofChange Rows.recogNumbersSpec).preRow enc Tryz.prog Tryz.f4 Rows.recogNumbersRow.domain false Rows.recogNumbersRow.laid) (((OpenSpec.ofChange Rows.recogNumbersSpec).at F).post enc Tryz.prog Tryz.f4 false true false false) := by
  obtain ⟨places, hx⟩ := recogNumbers_reads os enc
  refine returnsInHanded_of_row (C := Tryz.checked) (s := OpenSpec.ofChange Rows.recogNumbersSpec) own started (by kernel_rfl) Tryz.func4
    (witness_row_at (enc := enc) (C := Tryz.checked) false (laidWorld5 os) #[.agg #[.int .i64 0, .int .i64 0], .int .u8 0, .slice none 0 0] rfl (by kernel_rfl) (by kernel_rfl) (by kernel_rfl)
      (OpenSpec.preRow_of_cond 8 hx (by kernel_rfl) (fun k hk => by cases hk) (by kernel_rfl) (recogNumbers_laid_met os))) ?_
  intro W base args ds gs before hval hW _ _ hsz hL hS _
  exact recogNumbers_contract H enc W base args ds gs before hval hW hsz hL hS

theorem recogNumbers_said : Rows.RecogNumbersSaid :=
  OpenClaim.holds_of_cond 4 Tryz.f4 rfl rfl rfl rfl rfl rfl rfl ⟨rfl, rfl, rfl, rfl, rfl⟩ rfl rfl rfl rfl rfl (by kernel_rfl) Tryz.func4 (by kernel_rfl)
    (of_decide_eq_true (by kernel_rfl)) (by unfold Func.isWrapper; first | (rw [if_pos (by decide +kernel)]; kernel_rfl) | (rw [if_neg (by decide +kernel)]; exact ⟨rfl, rfl⟩))
    (fun os started H enc _ F => by rw [OpenClaim.pre_eq_preRow]; exact recogNumbers_lifted os started H enc F)

theorem recogNumbers_plain (f : FuncId) (fn : Func) (hf : Tryz.pinned.checked.prog.funcNamed "rhyton/rhytonlaw16.RecogNumbers" = some f) (hfn : Tryz.pinned.checked.prog.funcs[f]? = some fn) :
    true = Tryz.pinned.checked.prog.looks [] ∧ ∀ (j : Nat) t, fn.params[j]? = some t → Tryz.pinned.checked.prog.wantsStandIn t = false := by
  obtain rfl : f = 4 := Option.some.inj ((show Tryz.prog.funcNamed "rhyton/rhytonlaw16.RecogNumbers" = some 4 by kernel_rfl).symm.trans hf) |>.symm
  obtain rfl : fn = Tryz.f4 := (Option.some.inj (Tryz.func4.symm.trans hfn)).symm
  refine ⟨by kernel_rfl, fun j t ht => ?_⟩
  rw [Tryz.params4] at ht
  have hm : t = 33 ∨ t = 5 ∨ t = 34 := by simpa using Array.mem_of_getElem? ht
  rcases hm with rfl | rfl | rfl
  · exact (show Tryz.prog.wantsStandIn 33 = false by kernel_rfl)
  · exact (show Tryz.prog.wantsStandIn 5 = false by kernel_rfl)
  · exact (show Tryz.prog.wantsStandIn 34 = false by kernel_rfl)

theorem RecogNumbers_card : Rows.RecogNumbersCardSaid :=
  Claim7.holds_tied_plain_at .later [] _ _ _ _ recogNumbers_said (fun _ h => by cases h) (by kernel_rfl) (fun _ h => by cases h) recogNumbers_row_tie rfl ⟨rfl, rfl⟩ (by kernel_rfl) rfl recogNumbers_plain (by kernel_rfl)

#print axioms RecogNumbers_card
end Go.Proofs.YtgdmiodcfdcihaaGreatDoor
