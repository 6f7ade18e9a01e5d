/- RecogNone: its card, from its walk. -/
import Derived.Test.YtgdmiodcfdcihaaDoorNoneLaw
import Derived.Test.YtgdmiodcfdcihaaDoorRecogTab
namespace Go.Proofs.YtgdmiodcfdcihaaDoor
open Go.ChangeShapes Go.WideShapes Go.ChangeAt Go.RowKit
open Go.ChangeMaps (open_string shut_string)

theorem cellsInt : Tryd.prog.cellsOf 3 = 1 := by kernel_rfl

set_option maxRecDepth 100000 in
theorem recogNone_contract (H : Type) (enc : TypeId × Value → H) (W : World) (base : Nat) (args : Array Value) (ds gs : List (DataW H)) (before : List MemPlace)
    (hval : ∀ (j : Nat) t v, Tryd.f3.params[j]? = some t → args[j]? = some v → Value.okWide Tryd.prog W .any base t v)
    (hW : DataW.Whole enc Tryd.prog Tryd.f3.params.toList Rows.recogNoneSpec.vars false W args.toList ds gs before)
    (hL : laidMetH Tryd.prog Rows.recogNoneRow.laid W) (hS : W.ShapedOpen Tryd.prog) :
    Calls Tryd.prog 3 args W fun e W' => ∃ v, e = .returned v ∧ Rows.recogNoneSpec.post enc Tryd.prog Tryd.f3 false true false false W args v W' := by
  have hW' := hW
  obtain ⟨p, q, hA0, hV, rfl, _, _⟩ := hW
  have hA : DataW.TrodAll enc Tryd.prog W 0 (fun _ => true) true Tryd.f3.params.toList args.toList ds p := hA0
  rw [Tryd.params3] at hA hval
  have hTb := tabs_is hL hS
  obtain ⟨v0, v1, v2, d0, d1, d2, p0, p1, p2, rfl, rfl, rfl, h0, h1, h2⟩ := trodAll_three hA
  obtain ⟨s0, rfl, rfl, rfl, hs0⟩ := open_string Tryd.underlying9 (hval 0 9 v0 rfl rfl) h0
  have hlt : ∀ x ∈ p1, x.block < W.heap.size := fun x hx => by simpa using hW'.lt x (by simp [hx])
  obtain ⟨a, l, c, rfl, hlc, hn⟩ := open_nums Tryd.underlying22 Tryd.underlying3 cellsInt (hval 1 22 v1 rfl rfl) h1 hlt
  obtain ⟨x2, rfl, rfl, rfl, wx2⟩ := open_int Tryd.underlying5 (hval 2 5 v2 rfl rfl) h2
  refine (RecogNone_walk s0 hs0 l a c hlc x2 W hn hTb).mono fun e W' ⟨he, hb⟩ => ?_
  subst he
  exact ⟨_, rfl, law_post laidOut (by rw [Tryd.params3]; exact of_decide_eq_true (by kernel_rfl)) rfl rfl Tryd.underlying4 hW' (fun l hl => by subst hl; rfl) (hb.below (Nat.le_refl _) (by simp))⟩

theorem recogNone_laid_met (os : Os) : laidMet Tryd.prog Rows.recogNoneRow.laid ((laidWorld5 os).forCall (fun _ _ => 0) ⟨#[], #[.string .empty, .slice none 0 0, .int .u8 0], []⟩).memory :=
  laidMet_of_run' 8 (by kernel_rfl) (by kernel_rfl)
theorem recogNone_reads (os : Os) {H : Type} (enc : TypeId × Value → H) : ∃ places, DataW.whole enc Tryd.prog ((laidWorld5 os).forCall (fun _ _ => 0) ⟨#[], #[.string .empty, .slice none 0 0, .int .u8 0], []⟩).memory Tryd.f3.params.toList Rows.recogNoneSpec.vars false (#[.string .empty, .slice none 0 0, .int .u8 0] : Array Value).toList 8 = some ([.lit (.string []), .nil, .lit (.int .u8 0)], [], places) :=
  ⟨[], by kernel_rfl⟩

set_option maxRecDepth 100000 in
theorem recogNone_lifted (os : Os) (started : os.Started) (H : Type) (enc : TypeId × Value → H) (F : Stop.Interp) :
    ReturnsInHanded {} Tryd.checked os 3 .any ((OpenSpec.ofChange Rows.recogNoneSpec).preRow enc Tryd.prog Tryd.f3 Rows.recogNoneRow.domain false Rows.recogNoneRow.laid) (((OpenSpec.ofChange Rows.recogNoneSpec).at F).post enc Tryd.prog Tryd.f3 false true false false) := by
  obtain ⟨places, hx⟩ := recogNone_reads os enc
  refine returnsInHanded_of_row (C := Tryd.checked) (s := OpenSpec.ofChange Rows.recogNoneSpec) own started (by kernel_rfl) Tryd.func3
    (witness_row_at (enc := enc) (C := Tryd.checked) false (laidWorld5 os) #[.string .empty, .slice none 0 0, .int .u8 0] rfl (by kernel_rfl) (by kernel_rfl) (by kernel_rfl)
      (OpenSpec.preRow_of_cond 8 hx (by kernel_rfl) (fun k hk => by cases hk) (by kernel_rfl) (recogNone_laid_met os))) ?_
  intro W base args ds gs before hval hW _ _ _ hL hS _
  exact recogNone_contract H enc W base args ds gs before hval hW hL hS

theorem recogNone_said : Rows.RecogNoneSaid :=
  OpenClaim.holds_of_cond 3 Tryd.f3 rfl rfl rfl rfl rfl rfl rfl ⟨rfl, rfl, rfl, rfl, rfl⟩ rfl rfl rfl rfl rfl (by kernel_rfl) Tryd.func3 (by kernel_rfl)
    (of_decide_eq_true (by kernel_rfl)) (by unfold Func.isWrapper; first | (rw [if_pos (by decide +kernel)]; kernel_rfl) | (rw [if_neg (by decide +kernel)]; exact ⟨rfl, rfl⟩))
    (fun os started H enc _ F => by rw [OpenClaim.pre_eq_preRow]; exact recogNone_lifted os started H enc F)

theorem recogNone_plain (f : FuncId) (fn : Func) (hf : Tryd.pinned.checked.prog.funcNamed "rhyton/rhytonlaw16.RecogNone" = some f) (hfn : Tryd.pinned.checked.prog.funcs[f]? = some fn) :
    true = Tryd.pinned.checked.prog.looks [] ∧ ∀ (j : Nat) t, fn.params[j]? = some t → Tryd.pinned.checked.prog.wantsStandIn t = false := by
  obtain rfl : f = 3 := Option.some.inj ((show Tryd.prog.funcNamed "rhyton/rhytonlaw16.RecogNone" = some 3 by kernel_rfl).symm.trans hf) |>.symm
  obtain rfl : fn = Tryd.f3 := (Option.some.inj (Tryd.func3.symm.trans hfn)).symm
  refine ⟨by kernel_rfl, fun j t ht => ?_⟩
  rw [Tryd.params3] at ht
  have hm : t = 9 ∨ t = 22 ∨ t = 5 := by simpa using Array.mem_of_getElem? ht
  rcases hm with rfl | rfl | rfl
  · exact (show Tryd.prog.wantsStandIn 9 = false by kernel_rfl)
  · exact (show Tryd.prog.wantsStandIn 22 = false by kernel_rfl)
  · exact (show Tryd.prog.wantsStandIn 5 = false by kernel_rfl)

theorem RecogNone_card : Rows.RecogNoneCardSaid :=
  Claim7.holds_tied_plain_at .later [] _ _ _ _ recogNone_said (fun _ h => by cases h) (by kernel_rfl) (fun _ h => by cases h) recogNone_row_tie rfl ⟨rfl, rfl⟩ (by kernel_rfl) rfl recogNone_plain (by kernel_rfl)

#print axioms RecogNone_card
end Go.Proofs.YtgdmiodcfdcihaaDoor
