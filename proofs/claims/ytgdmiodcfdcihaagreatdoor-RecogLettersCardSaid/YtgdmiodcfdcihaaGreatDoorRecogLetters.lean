/- RecogLetters: its card, from its walk. -/
import Derived.Test.YtgdmiodcfdcihaaGreatDoorLettersLaw
import Derived.Test.YtgdmiodcfdcihaaGreatDoorRecogTab
namespace Go.Proofs.YtgdmiodcfdcihaaGreatDoor
open Go.ChangeShapes Go.WideShapes Go.ChangeAt Go.RowKit
open Go.ChangeMaps (open_string shut_string)

set_option maxRecDepth 100000 in
theorem recogLetters_contract (H : Type) (enc : TypeId × Value → H) (W : World) (base : Nat) (args : Array Value) (ds gs : List (DataW H)) (before : List MemPlace)
    (hval : ∀ (j : Nat) t v, Tryz.f3.params[j]? = some t → args[j]? = some v → Value.okWide Tryz.prog W .any base t v)
    (hW : DataW.Whole enc Tryz.prog Tryz.f3.params.toList Rows.recogLettersSpec.vars false W args.toList ds gs before)
    (hL : laidMetH Tryz.prog Rows.recogLettersRow.laid W) (hS : W.ShapedOpen Tryz.prog) :
    Calls Tryz.prog 3 args W fun e W' => ∃ v, e = .returned v ∧ Rows.recogLettersSpec.post enc Tryz.prog Tryz.f3 false true false false W args v W' := by
  have hW' := hW
  obtain ⟨p, q, hA0, hV, rfl, _, _⟩ := hW
  have hA : DataW.TrodAll enc Tryz.prog W 0 (fun _ => true) true Tryz.f3.params.toList args.toList ds p := hA0
  rw [Tryz.params3] at hA hval
  have hTb := tabs_is hL hS
  obtain ⟨v0, v1, v2, d0, d1, d2, p0, p1, p2, rfl, rfl, rfl, h0, h1, h2⟩ := trodAll_three hA
  obtain ⟨x0, rfl, rfl, rfl, wx0⟩ := open_int Tryz.underlying5 (hval 0 5 v0 rfl rfl) h0
  have bx0 : 0 ≤ x0 ∧ x0 ≤ 255 := by simpa [Lit.wf, IntKind.min, IntKind.max, IntKind.signed, IntKind.bits] using wx0
  obtain ⟨s1, rfl, rfl, rfl, hs1⟩ := open_string Tryz.underlying9 (hval 1 9 v1 rfl rfl) h1
  obtain ⟨x2, rfl, rfl, rfl, wx2⟩ := open_int Tryz.underlying22 (hval 2 22 v2 rfl rfl) h2
  have bx2 : -9223372036854775808 ≤ x2 ∧ x2 ≤ 9223372036854775807 := by simpa [Lit.wf, IntKind.min, IntKind.max, IntKind.signed, IntKind.bits] using wx2
  obtain ⟨c, rfl⟩ : ∃ c : UInt8, x0 = (c.toNat : Int) := ⟨UInt8.ofNat x0.toNat, by
    rw [UInt8.toNat_ofNat']
    omega⟩
  refine (RecogLetters_walk c s1 hs1 x2 bx2.1 bx2.2 W hTb).mono fun e W' ⟨he, hb⟩ => ?_
  subst he
  exact ⟨_, rfl, law_post laidOut (by rw [Tryz.params3]; exact of_decide_eq_true (by kernel_rfl)) rfl rfl Tryz.underlying4 hW' (fun l hl => by subst hl; rfl) (hb.below (Nat.le_refl _) (by simp))⟩

theorem recogLetters_laid_met (os : Os) : laidMet Tryz.prog Rows.recogLettersRow.laid ((laidWorld5 os).forCall (fun _ _ => 0) ⟨#[], #[.int .u8 0, .string .empty, .int .i64 0], []⟩).memory :=
  laidMet_of_run' 8 (by kernel_rfl) (by kernel_rfl)
theorem recogLetters_reads (os : Os) {H : Type} (enc : TypeId × Value → H) : ∃ places, DataW.whole enc Tryz.prog ((laidWorld5 os).forCall (fun _ _ => 0) ⟨#[], #[.int .u8 0, .string .empty, .int .i64 0], []⟩).memory Tryz.f3.params.toList Rows.recogLettersSpec.vars false (#[.int .u8 0, .string .empty, .int .i64 0] : Array Value).toList 8 = some ([.lit (.int .u8 0), .lit (.string []), .lit (.int .i64 0)], [], places) :=
  ⟨[], by kernel_rfl⟩

set_option maxRecDepth 100000 in
theorem recogLetters_lifted (os : Os) (started : os.Started) (H : Type) (enc : TypeId × Value → H) (F : Stop.Interp) :
    ReturnsInHanded {} Tryz.checked os 3 .any ((OpenSpec.ofChange Rows.recogLettersSpec).preRow enc Tryz.prog Tryz.f3 Rows.recogLettersRow.domain false Rows.recogLettersRow.laid) (((OpenSpec.ofChange Rows.recogLettersSpec).at F).post enc Tryz.prog Tryz.f3 false true false false) := by
  obtain ⟨places, hx⟩ := recogLetters_reads os enc
  refine returnsInHanded_of_row (C := Tryz.checked) (s := OpenSpec.ofChange Rows.recogLettersSpec) own started (by kernel_rfl) Tryz.func3
    (witness_row_at (enc := enc) (C := Tryz.checked) false (laidWorld5 os) #[.int .u8 0, .string .empty, .int .i64 0] rfl (by kernel_rfl) (by kernel_rfl) (by kernel_rfl)
      (OpenSpec.preRow_of_cond 8 hx (by kernel_rfl) (fun k hk => by cases hk) (by kernel_rfl) (recogLetters_laid_met os))) ?_
  intro W base args ds gs before hval hW _ _ _ hL hS _
  exact recogLetters_contract H enc W base args ds gs before hval hW hL hS

theorem recogLetters_said : Rows.RecogLettersSaid :=
  OpenClaim.holds_of_cond 3 Tryz.f3 rfl rfl rfl rfl rfl rfl rfl ⟨rfl, rfl, rfl, rfl, rfl⟩ rfl rfl rfl rfl rfl (by kernel_rfl) Tryz.func3 (by kernel_rfl)
    (of_decide_eq_true (by kernel_rfl)) (by unfold Func.isWrapper; first | (rw [if_pos (by decide +kernel)]; kernel_rfl) | (rw [if_neg (by decide +kernel)]; exact ⟨rfl, rfl⟩))
    (fun os started H enc _ F => by rw [OpenClaim.pre_eq_preRow]; exact recogLetters_lifted os started H enc F)

theorem recogLetters_plain (f : FuncId) (fn : Func) (hf : Tryz.pinned.checked.prog.funcNamed "rhyton/rhytonlaw16.RecogLetters" = some f) (hfn : Tryz.pinned.checked.prog.funcs[f]? = some fn) :
    true = Tryz.pinned.checked.prog.looks [] ∧ ∀ (j : Nat) t, fn.params[j]? = some t → Tryz.pinned.checked.prog.wantsStandIn t = false := by
  obtain rfl : f = 3 := Option.some.inj ((show Tryz.prog.funcNamed "rhyton/rhytonlaw16.RecogLetters" = some 3 by kernel_rfl).symm.trans hf) |>.symm
  obtain rfl : fn = Tryz.f3 := (Option.some.inj (Tryz.func3.symm.trans hfn)).symm
  refine ⟨by kernel_rfl, fun j t ht => ?_⟩
  rw [Tryz.params3] at ht
  have hm : t = 5 ∨ t = 9 ∨ t = 22 := by simpa using Array.mem_of_getElem? ht
  rcases hm with rfl | rfl | rfl
  · exact (show Tryz.prog.wantsStandIn 5 = false by kernel_rfl)
  · exact (show Tryz.prog.wantsStandIn 9 = false by kernel_rfl)
  · exact (show Tryz.prog.wantsStandIn 22 = false by kernel_rfl)

theorem RecogLetters_card : Rows.RecogLettersCardSaid :=
  Claim7.holds_tied_plain_at .later [] _ _ _ _ recogLetters_said (fun _ h => by cases h) (by kernel_rfl) (fun _ h => by cases h) recogLetters_row_tie rfl ⟨rfl, rfl⟩ (by kernel_rfl) rfl recogLetters_plain (by kernel_rfl)

#print axioms RecogLetters_card
end Go.Proofs.YtgdmiodcfdcihaaGreatDoor
