/- EngineCells: its card, from its walk. -/
import Derived.Test.YtdokeddjcpnmiaaGreatDoorJRowX
import Derived.Test.YtdokeddjcpnmiaaGreatDoorECellW
namespace Go.Proofs.YtdokeddjcpnmiaaGreatDoor
open Go.ChangeShapes Go.WideShapes Go.ChangeAt Go.RowKit
open Go.ChangeMaps (open_string shut_string)

set_option maxRecDepth 100000 in
theorem engineCells_contract (H : Type) (enc : TypeId × Value → H) (W : World) (base : Nat) (args : Array Value) (ds gs : List (DataW H)) (before : List MemPlace)
    (hval : ∀ (j : Nat) t v, Tryz.f6.params[j]? = some t → args[j]? = some v → Value.okWide Tryz.prog W .any base t v)
    (hW : DataW.Whole enc Tryz.prog Tryz.f6.params.toList Rows.engineCellsSpec.vars false W args.toList ds gs before) (hS : W.ShapedOpen Tryz.prog) :
    Calls Tryz.prog 6 args W fun e W' => ∃ v, e = .returned v ∧ Rows.engineCellsSpec.post enc Tryz.prog Tryz.f6 false true false false W args v W' := by
  have hW' := hW
  obtain ⟨mx, hmx⟩ := max_cell hS
  obtain ⟨p, q, hA0, hV, rfl, _, _⟩ := hW
  have hA : DataW.TrodAll enc Tryz.prog W 0 (fun _ => true) true Tryz.f6.params.toList args.toList ds p := hA0
  rw [Tryz.params6] at hA hval
  obtain ⟨v0, d0, p0, rfl, rfl, rfl, h0⟩ := trodAll_1 hA
  obtain ⟨l0, hL0, _⟩ := open_rowC Tryz.underlying25 Tryz.underlying33 (by kernel_rfl) (hval 0 25 v0 rfl rfl) h0
  refine (En.EngineCells_walk l0 v0 W hL0 mx hmx).mono fun e W' ⟨he, hb⟩ => ?_
  subst he
  exact ⟨_, rfl, law_post laidOut (by rw [Tryz.params6]; exact of_decide_eq_true (by kernel_rfl)) rfl rfl Tryz.underlying4 hW' (fun l hl => by subst hl; rfl) (hb.below (Nat.le_refl _) (by simp))⟩

theorem engineCells_laid_met (os : Os) : laidMet Tryz.prog Rows.engineCellsRow.laid ((laidWorld os).forCall (fun _ _ => 0) ⟨#[], #[.slice none 0 0], []⟩).memory :=
  laidMet_of_run' 8 (by kernel_rfl) (by kernel_rfl)
theorem engineCells_reads (os : Os) {H : Type} (enc : TypeId × Value → H) : ∃ places, DataW.whole enc Tryz.prog ((laidWorld os).forCall (fun _ _ => 0) ⟨#[], #[.slice none 0 0], []⟩).memory Tryz.f6.params.toList Rows.engineCellsSpec.vars false (#[.slice none 0 0] : Array Value).toList 8 = some ([.nil], [], places) :=
  ⟨[], by kernel_rfl⟩

set_option maxRecDepth 100000 in
theorem engineCells_lifted (os : Os) (started : os.Started) (H : Type) (enc : TypeId × Value → H) (F : Stop.Interp) :
    ReturnsInHanded {} Tryz.checked os 6 .any ((OpenSpec.ofChange Rows.engineCellsSpec).preRow enc Tryz.prog Tryz.f6 Rows.engineCellsRow.domain false Rows.engineCellsRow.laid) (((OpenSpec.ofChange Rows.engineCellsSpec).at F).post enc Tryz.prog Tryz.f6 false true false false) := by
  obtain ⟨places, hx⟩ := engineCells_reads os enc
  refine returnsInHanded_of_row (C := Tryz.checked) (s := OpenSpec.ofChange Rows.engineCellsSpec) own started (by kernel_rfl) Tryz.func6
    (witness_row_at (enc := enc) (C := Tryz.checked) false (laidWorld os) #[.slice none 0 0] rfl (by kernel_rfl) (by kernel_rfl) (by kernel_rfl)
      (OpenSpec.preRow_of_cond 8 hx (by kernel_rfl) (fun k hk => by cases hk) (by kernel_rfl) (engineCells_laid_met os))) ?_
  intro W base args ds gs before hval hW _ _ _ _ hS _
  exact engineCells_contract H enc W base args ds gs before hval hW hS

theorem engineCells_k1 : (Rows.engineCellsRow.inPlace == Tryz.pinned.checked.prog.inPlace 6) = true := by kernel_rfl
theorem engineCells_k2 : (Rows.engineCellsRow.unfollowed == Tryz.pinned.checked.prog.unfollowed 6) = true := by kernel_rfl
theorem engineCells_k3 : (Rows.engineCellsRow.recurses == Tryz.pinned.checked.prog.recurses 6) = true := by kernel_rfl
theorem engineCells_k4 : (Rows.engineCellsRow.named == Tryz.pinned.checked.prog.varsNamed 6) = true := by kernel_rfl
theorem engineCells_closed : joinedFacts Tryz.pinned.checked.prog 6 Tryz.f6 (OpenSpec.ofChange Rows.engineCellsSpec).bare Rows.engineCellsRow = true := by
  unfold joinedFacts
  rw [engineCells_k1, engineCells_k2, engineCells_k3, engineCells_k4]
  kernel_rfl
theorem engineCells_said : Rows.EngineCellsSaid :=
  OpenClaim.holds_of_cond 6 Tryz.f6 rfl rfl rfl rfl rfl rfl rfl ⟨rfl, rfl, rfl, rfl, rfl⟩ rfl rfl rfl rfl rfl (by kernel_rfl) Tryz.func6 engineCells_closed
    (of_decide_eq_true (by kernel_rfl)) (by unfold Func.isWrapper; first | (rw [if_pos (by decide +kernel)]; kernel_rfl) | (rw [if_neg (by decide +kernel)]; exact ⟨rfl, rfl⟩))
    (fun os started H enc _ F => by rw [OpenClaim.pre_eq_preRow]; exact engineCells_lifted os started H enc F)

theorem engineCells_plain (f : FuncId) (fn : Func) (hf : Tryz.pinned.checked.prog.funcNamed "rhyton/rhytonlaw15.EngineCells" = some f) (hfn : Tryz.pinned.checked.prog.funcs[f]? = some fn) :
    false = Tryz.pinned.checked.prog.looks [] ∧ ∀ (j : Nat) t, fn.params[j]? = some t → Tryz.pinned.checked.prog.wantsStandIn t = false := by
  obtain rfl : f = 6 := Option.some.inj ((show Tryz.prog.funcNamed "rhyton/rhytonlaw15.EngineCells" = some 6 by kernel_rfl).symm.trans hf) |>.symm
  obtain rfl : fn = Tryz.f6 := (Option.some.inj (Tryz.func6.symm.trans hfn)).symm
  refine ⟨by kernel_rfl, fun j t ht => ?_⟩
  rw [Tryz.params6] at ht
  have hm := Array.mem_of_getElem? ht
  simp only [List.mem_toArray, List.mem_cons, List.not_mem_nil, or_false] at hm
  rcases hm with rfl
  · exact (show Tryz.prog.wantsStandIn 25 = false by kernel_rfl)

theorem EngineCells_card : Rows.EngineCellsCardSaid :=
  Claim7.holds_tied_plain_at .later [] _ _ _ _ engineCells_said (fun _ h => by cases h) (by kernel_rfl) (fun _ h => by cases h) engineCells_row_tie rfl ⟨rfl, rfl⟩ (by kernel_rfl) rfl engineCells_plain (by kernel_rfl)

#print axioms EngineCells_card
end Go.Proofs.YtdokeddjcpnmiaaGreatDoor
