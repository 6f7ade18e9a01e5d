/- EngineCatches: its card, from its walk. -/
import Derived.Test.YtdokeddjcpnmiaaGreatDoorJRowX
import Derived.Test.YtdokeddjcpnmiaaGreatDoorCatW
namespace Go.Proofs.YtdokeddjcpnmiaaGreatDoor
open Go.ChangeShapes Go.WideShapes Go.ChangeAt Go.RowKit
open Go.ChangeMaps (open_string shut_string)

theorem trodAll_5 {H : Type} {enc : TypeId × Value → H} {P : Program} {w : World} {base : Nat} {spare : Nat → Bool} {held : Bool} {t0 t1 t2 t3 t4 : TypeId} {args : Array Value} {ds : List (DataW H)} {ps : List MemPlace} (h : DataW.TrodAll enc P w base spare held [t0, t1, t2, t3, t4] args.toList ds ps) :
    ∃ v0 v1 v2 v3 v4 d0 d1 d2 d3 d4 p0 p1 p2 p3 p4, args = #[v0, v1, v2, v3, v4] ∧ ds = [d0, d1, d2, d3, d4] ∧ ps = p0 ++ (p1 ++ (p2 ++ (p3 ++ p4))) ∧ DataW.Trod enc P w base spare held t0 v0 d0 p0 ∧ DataW.Trod enc P w base spare held t1 v1 d1 p1 ∧ DataW.Trod enc P w base spare held t2 v2 d2 p2 ∧ DataW.Trod enc P w base spare held t3 v3 d3 p3 ∧ DataW.Trod enc P w base spare held t4 v4 d4 p4 := by
  obtain ⟨v0, r0, d0, e0, p0, q0, hargs, rfl, rfl, h0, k0⟩ := trodAll_cons h
  obtain ⟨v1, r1, d1, e1, p1, q1, rfl, rfl, rfl, h1, k1⟩ := trodAll_cons k0
  obtain ⟨v2, r2, d2, e2, p2, q2, rfl, rfl, rfl, h2, k2⟩ := trodAll_cons k1
  obtain ⟨v3, r3, d3, e3, p3, q3, rfl, rfl, rfl, h3, k3⟩ := trodAll_cons k2
  obtain ⟨v4, r4, d4, e4, p4, q4, rfl, rfl, rfl, h4, k4⟩ := trodAll_cons k3
  obtain ⟨rfl, rfl, rfl⟩ := trodAll_nil k4
  exact ⟨v0, v1, v2, v3, v4, d0, d1, d2, d3, d4, p0, p1, p2, p3, p4, by cases args; simp_all, rfl, by simp, h0, h1, h2, h3, h4⟩
set_option maxRecDepth 100000 in
theorem engineCatches_contract (H : Type) (enc : TypeId × Value → H) (W : World) (base : Nat) (args : Array Value) (ds gs : List (DataW H)) (before : List MemPlace)
    (hval : ∀ (j : Nat) t v, Tryz.f9.params[j]? = some t → args[j]? = some v → Value.okWide Tryz.prog W .any base t v)
    (hW : DataW.Whole enc Tryz.prog Tryz.f9.params.toList Rows.engineCatchesSpec.vars false W args.toList ds gs before) (hS : W.ShapedOpen Tryz.prog) :
    Calls Tryz.prog 9 args W fun e W' => ∃ v, e = .returned v ∧ Rows.engineCatchesSpec.post enc Tryz.prog Tryz.f9 false true false false W args v W' := by
  have hW' := hW
  obtain ⟨mx, hmx⟩ := max_cell hS
  obtain ⟨p, q, hA0, hV, rfl, _, _⟩ := hW
  have hA : DataW.TrodAll enc Tryz.prog W 0 (fun _ => true) true Tryz.f9.params.toList args.toList ds p := hA0
  rw [Tryz.params9] at hA hval
  obtain ⟨v0, v1, v2, v3, v4, d0, d1, d2, d3, d4, p0, p1, p2, p3, p4, rfl, rfl, rfl, h0, h1, h2, h3, h4⟩ := trodAll_5 hA
  obtain ⟨x0, rfl, rfl, rfl, wx0⟩ := open_int Tryz.underlying33 (hval 0 33 v0 rfl rfl) h0
  obtain ⟨x1, rfl, rfl, rfl, wx1⟩ := open_int Tryz.underlying5 (hval 1 5 v1 rfl rfl) h1
  obtain ⟨x2, rfl, rfl, rfl, wx2⟩ := open_int Tryz.underlying5 (hval 2 5 v2 rfl rfl) h2
  obtain ⟨x3, rfl, rfl, rfl, wx3⟩ := open_int Tryz.underlying5 (hval 3 5 v3 rfl rfl) h3
  obtain ⟨x4, rfl, rfl, rfl, wx4⟩ := open_int Tryz.underlying5 (hval 4 5 v4 rfl rfl) h4
  refine (En.EngineCatches_walk x0 x1 x2 x3 x4 W (wf_i64 wx0) (wf_u8 wx1) (wf_u8 wx2) (wf_u8 wx3) (wf_u8 wx4) mx hmx).mono fun e W' ⟨he, hb⟩ => ?_
  subst he
  exact ⟨_, rfl, law_post laidOut (by rw [Tryz.params9]; exact of_decide_eq_true (by kernel_rfl)) rfl rfl Tryz.underlying4 hW' (fun l hl => by subst hl; rfl) (hb.below (Nat.le_refl _) (by simp))⟩

theorem engineCatches_laid_met (os : Os) : laidMet Tryz.prog Rows.engineCatchesRow.laid ((laidWorld os).forCall (fun _ _ => 0) ⟨#[], #[.int .i64 0, .int .u8 0, .int .u8 0, .int .u8 0, .int .u8 0], []⟩).memory :=
  laidMet_of_run' 8 (by kernel_rfl) (by kernel_rfl)
theorem engineCatches_reads (os : Os) {H : Type} (enc : TypeId × Value → H) : ∃ places, DataW.whole enc Tryz.prog ((laidWorld os).forCall (fun _ _ => 0) ⟨#[], #[.int .i64 0, .int .u8 0, .int .u8 0, .int .u8 0, .int .u8 0], []⟩).memory Tryz.f9.params.toList Rows.engineCatchesSpec.vars false (#[.int .i64 0, .int .u8 0, .int .u8 0, .int .u8 0, .int .u8 0] : Array Value).toList 8 = some ([.lit (.int .i64 0), .lit (.int .u8 0), .lit (.int .u8 0), .lit (.int .u8 0), .lit (.int .u8 0)], [], places) :=
  ⟨[], by kernel_rfl⟩

set_option maxRecDepth 100000 in
theorem engineCatches_lifted (os : Os) (started : os.Started) (H : Type) (enc : TypeId × Value → H) (F : Stop.Interp) :
    ReturnsInHanded {} Tryz.checked os 9 .any ((OpenSpec.ofChange Rows.engineCatchesSpec).preRow enc Tryz.prog Tryz.f9 Rows.engineCatchesRow.domain false Rows.engineCatchesRow.laid) (((OpenSpec.ofChange Rows.engineCatchesSpec).at F).post enc Tryz.prog Tryz.f9 false true false false) := by
  obtain ⟨places, hx⟩ := engineCatches_reads os enc
  refine returnsInHanded_of_row (C := Tryz.checked) (s := OpenSpec.ofChange Rows.engineCatchesSpec) own started (by kernel_rfl) Tryz.func9
    (witness_row_at (enc := enc) (C := Tryz.checked) false (laidWorld os) #[.int .i64 0, .int .u8 0, .int .u8 0, .int .u8 0, .int .u8 0] rfl (by kernel_rfl) (by kernel_rfl) (by kernel_rfl)
      (OpenSpec.preRow_of_cond 8 hx (by kernel_rfl) (fun k hk => by cases hk) (by kernel_rfl) (engineCatches_laid_met os))) ?_
  intro W base args ds gs before hval hW _ _ _ _ hS _
  exact engineCatches_contract H enc W base args ds gs before hval hW hS

theorem engineCatches_k1 : (Rows.engineCatchesRow.inPlace == Tryz.pinned.checked.prog.inPlace 9) = true := by kernel_rfl
theorem engineCatches_k2 : (Rows.engineCatchesRow.unfollowed == Tryz.pinned.checked.prog.unfollowed 9) = true := by kernel_rfl
theorem engineCatches_k3 : (Rows.engineCatchesRow.recurses == Tryz.pinned.checked.prog.recurses 9) = true := by kernel_rfl
theorem engineCatches_k4 : (Rows.engineCatchesRow.named == Tryz.pinned.checked.prog.varsNamed 9) = true := by kernel_rfl
theorem engineCatches_closed : joinedFacts Tryz.pinned.checked.prog 9 Tryz.f9 (OpenSpec.ofChange Rows.engineCatchesSpec).bare Rows.engineCatchesRow = true := by
  unfold joinedFacts
  rw [engineCatches_k1, engineCatches_k2, engineCatches_k3, engineCatches_k4]
  kernel_rfl
theorem engineCatches_said : Rows.EngineCatchesSaid :=
  OpenClaim.holds_of_cond 9 Tryz.f9 rfl rfl rfl rfl rfl rfl rfl ⟨rfl, rfl, rfl, rfl, rfl⟩ rfl rfl rfl rfl rfl (by kernel_rfl) Tryz.func9 engineCatches_closed
    (of_decide_eq_true (by kernel_rfl)) (by unfold Func.isWrapper; first | (rw [if_pos (by decide +kernel)]; kernel_rfl) | (rw [if_neg (by decide +kernel)]; exact ⟨rfl, rfl⟩))
    (fun os started H enc _ F => by rw [OpenClaim.pre_eq_preRow]; exact engineCatches_lifted os started H enc F)

theorem engineCatches_plain (f : FuncId) (fn : Func) (hf : Tryz.pinned.checked.prog.funcNamed "rhyton/rhytonlaw15.EngineCatches" = some f) (hfn : Tryz.pinned.checked.prog.funcs[f]? = some fn) :
    false = Tryz.pinned.checked.prog.looks [] ∧ ∀ (j : Nat) t, fn.params[j]? = some t → Tryz.pinned.checked.prog.wantsStandIn t = false := by
  obtain rfl : f = 9 := Option.some.inj ((show Tryz.prog.funcNamed "rhyton/rhytonlaw15.EngineCatches" = some 9 by kernel_rfl).symm.trans hf) |>.symm
  obtain rfl : fn = Tryz.f9 := (Option.some.inj (Tryz.func9.symm.trans hfn)).symm
  refine ⟨by kernel_rfl, fun j t ht => ?_⟩
  rw [Tryz.params9] at ht
  have hm := Array.mem_of_getElem? ht
  simp only [List.mem_toArray, List.mem_cons, List.not_mem_nil, or_false] at hm
  rcases hm with rfl | rfl | rfl | rfl | rfl
  · exact (show Tryz.prog.wantsStandIn 33 = false by kernel_rfl)
  · exact (show Tryz.prog.wantsStandIn 5 = false by kernel_rfl)
  · exact (show Tryz.prog.wantsStandIn 5 = false by kernel_rfl)
  · exact (show Tryz.prog.wantsStandIn 5 = false by kernel_rfl)
  · exact (show Tryz.prog.wantsStandIn 5 = false by kernel_rfl)

theorem EngineCatches_card : Rows.EngineCatchesCardSaid :=
  Claim7.holds_tied_plain_at .later [] _ _ _ _ engineCatches_said (fun _ h => by cases h) (by kernel_rfl) (fun _ h => by cases h) engineCatches_row_tie rfl ⟨rfl, rfl⟩ (by kernel_rfl) rfl engineCatches_plain (by kernel_rfl)

#print axioms EngineCatches_card
end Go.Proofs.YtdokeddjcpnmiaaGreatDoor
