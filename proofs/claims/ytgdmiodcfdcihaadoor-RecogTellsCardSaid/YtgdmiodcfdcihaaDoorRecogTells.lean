/- RecogTells: its card, from its walk. -/
import Derived.Test.YtgdmiodcfdcihaaDoorTellsLaw
import Derived.Test.YtgdmiodcfdcihaaDoorRecogRow
namespace Go.Proofs.YtgdmiodcfdcihaaDoor
open Go.ChangeShapes Go.WideShapes Go.ChangeAt Go.RowKit
open Go.ChangeMaps (open_string shut_string)

theorem cellsCell : Tryd.prog.cellsOf 26 = 1 := by kernel_rfl

set_option maxRecDepth 100000 in
theorem recogTells_contract (H : Type) (enc : TypeId × Value → H) (W : World) (base : Nat) (args : Array Value) (ds gs : List (DataW H)) (before : List MemPlace)
    (hval : ∀ (j : Nat) t v, Tryd.f5.params[j]? = some t → args[j]? = some v → Value.okWide Tryd.prog W .any base t v)
    (hW : DataW.Whole enc Tryd.prog Tryd.f5.params.toList Rows.recogTellsSpec.vars false W args.toList ds gs before) :
    Calls Tryd.prog 5 args W fun e W' => ∃ v, e = .returned v ∧ Rows.recogTellsSpec.post enc Tryd.prog Tryd.f5 false true false false W args v W' := by
  have hW' := hW
  obtain ⟨p, q, hA0, hV, rfl, _, _⟩ := hW
  have hA : DataW.TrodAll enc Tryd.prog W 0 (fun _ => true) true Tryd.f5.params.toList args.toList ds p := hA0
  rw [Tryd.params5] at hA hval
  obtain ⟨v0, v1, d0, d1, p0, p1, rfl, rfl, rfl, h0, h1⟩ := trodAll_two hA
  obtain ⟨x0, rfl, rfl, rfl, wx0⟩ := open_int Tryd.underlying26 (hval 0 26 v0 rfl rfl) h0
  have hlt : ∀ x ∈ p1, x.block < W.heap.size := fun x hx => by simpa using hW'.lt x (by simp [hx])
  obtain ⟨a, l, c, rfl, hlc, hn⟩ := open_nums Tryd.underlying40 Tryd.underlying26 cellsCell (hval 1 40 v1 rfl rfl) h1 hlt
  refine (RecogTells_walk x0 l a c W hlc hn).mono fun e W' ⟨he, hb⟩ => ?_
  subst he
  exact ⟨_, rfl, law_post laidOut (by rw [Tryd.params5]; exact of_decide_eq_true (by kernel_rfl)) rfl rfl Tryd.underlying4 hW' (fun l hl => by subst hl; rfl) (hb.below (Nat.le_refl _) (by simp))⟩

theorem recogTells_laid_met (os : Os) : laidMet Tryd.prog Rows.recogTellsRow.laid ((laidWorld5 os).forCall (fun _ _ => 0) ⟨#[], #[.int .i64 0, .slice none 0 0], []⟩).memory :=
  laidMet_of_run' 8 (by kernel_rfl) (by kernel_rfl)
theorem recogTells_reads (os : Os) {H : Type} (enc : TypeId × Value → H) : ∃ places, DataW.whole enc Tryd.prog ((laidWorld5 os).forCall (fun _ _ => 0) ⟨#[], #[.int .i64 0, .slice none 0 0], []⟩).memory Tryd.f5.params.toList Rows.recogTellsSpec.vars false (#[.int .i64 0, .slice none 0 0] : Array Value).toList 8 = some ([.lit (.int .i64 0), .nil], [], places) :=
  ⟨[], by kernel_rfl⟩

set_option maxRecDepth 100000 in
theorem recogTells_lifted (os : Os) (started : os.Started) (H : Type) (enc : TypeId × Value → H) (F : Stop.Interp) :
    ReturnsInHanded {} Tryd.checked os 5 .any ((OpenSpec.ofChange Rows.recogTellsSpec).preRow enc Tryd.prog Tryd.f5 Rows.recogTellsRow.domain false Rows.recogTellsRow.laid) (((OpenSpec.ofChange Rows.recogTellsSpec).at F).post enc Tryd.prog Tryd.f5 false true false false) := by
  obtain ⟨places, hx⟩ := recogTells_reads os enc
  refine returnsInHanded_of_row (C := Tryd.checked) (s := OpenSpec.ofChange Rows.recogTellsSpec) own started (by kernel_rfl) Tryd.func5
    (witness_row_at (enc := enc) (C := Tryd.checked) false (laidWorld5 os) #[.int .i64 0, .slice none 0 0] rfl (by kernel_rfl) (by kernel_rfl) (by kernel_rfl)
      (OpenSpec.preRow_of_cond 8 hx (by kernel_rfl) (fun k hk => by cases hk) (by kernel_rfl) (recogTells_laid_met os))) ?_
  intro W base args ds gs before hval hW _ _ _ _ _ _
  exact recogTells_contract H enc W base args ds gs before hval hW

theorem recogTells_said : Rows.RecogTellsSaid :=
  OpenClaim.holds_of_cond 5 Tryd.f5 rfl rfl rfl rfl rfl rfl rfl ⟨rfl, rfl, rfl, rfl, rfl⟩ rfl rfl rfl rfl rfl (by kernel_rfl) Tryd.func5 (by kernel_rfl)
    (of_decide_eq_true (by kernel_rfl)) (by unfold Func.isWrapper; first | (rw [if_pos (by decide +kernel)]; kernel_rfl) | (rw [if_neg (by decide +kernel)]; exact ⟨rfl, rfl⟩))
    (fun os started H enc _ F => by rw [OpenClaim.pre_eq_preRow]; exact recogTells_lifted os started H enc F)

theorem recogTells_plain (f : FuncId) (fn : Func) (hf : Tryd.pinned.checked.prog.funcNamed "rhyton/rhytonlaw16.RecogTells" = some f) (hfn : Tryd.pinned.checked.prog.funcs[f]? = some fn) :
    true = Tryd.pinned.checked.prog.looks [] ∧ ∀ (j : Nat) t, fn.params[j]? = some t → Tryd.pinned.checked.prog.wantsStandIn t = false := by
  obtain rfl : f = 5 := Option.some.inj ((show Tryd.prog.funcNamed "rhyton/rhytonlaw16.RecogTells" = some 5 by kernel_rfl).symm.trans hf) |>.symm
  obtain rfl : fn = Tryd.f5 := (Option.some.inj (Tryd.func5.symm.trans hfn)).symm
  refine ⟨by kernel_rfl, fun j t ht => ?_⟩
  rw [Tryd.params5] at ht
  have hm : t = 26 ∨ t = 40 := by simpa using Array.mem_of_getElem? ht
  rcases hm with rfl | rfl
  · exact (show Tryd.prog.wantsStandIn 26 = false by kernel_rfl)
  · exact (show Tryd.prog.wantsStandIn 40 = false by kernel_rfl)

theorem RecogTells_card : Rows.RecogTellsCardSaid :=
  Claim7.holds_tied_plain_at .later [] _ _ _ _ recogTells_said (fun _ h => by cases h) (by kernel_rfl) (fun _ h => by cases h) recogTells_row_tie rfl ⟨rfl, rfl⟩ (by kernel_rfl) rfl recogTells_plain (by kernel_rfl)

#print axioms RecogTells_card
end Go.Proofs.YtgdmiodcfdcihaaDoor
