/- RealTexts: for every cell and every text (its first 100 bytes) the program's text and number are the document's; its card, from its walk. -/
import Derived.Test.YtibifcchmccknaaDoorRTWalk
import Derived.Test.YtibifcchmccknaaDoorRealRow2
namespace Go.Proofs.YtibifcchmccknaaDoor
open Go.ChangeShapes Go.WideShapes Go.ChangeAt Go.RowKit
open Go.ChangeMaps (open_string shut_string)

theorem gRng : Tryd.prog.globalNamed "strconv.ErrRange" = some 5 := by kernel_rfl
theorem tRng : (Tryd.prog.globals[5]?).map (·.type) = some 70 := by kernel_rfl
theorem rng_is {W : World} {rest : List (String × DataW Unit)} (h : laidMet Tryd.prog (("strconv.ErrRange", Rows.laid_strconv_ErrRange) :: rest) W) : RngIs W := by
  obtain ⟨a, _, hv, _, _, _⟩ := laid_sentinel h gRng tRng Tryd.underlying70 rowErr Tryd.underlying123 Tryd.underlying125 rfl rfl Tryd.underlying9 cErr cStr
  have hc : W.cell? ⟨5, 0, none⟩ = some (.iface 123 (.pointer (some a))) := by simpa using World.var?_cell gRng hv 0
  exact ⟨_, hc, .inr ⟨_, _, rfl⟩⟩
set_option maxRecDepth 100000 in
theorem realTexts_contract (H : Type) (enc : TypeId × Value → H) (W : World) (base : Nat) (args : Array Value) (ds gs : List (DataW H)) (before : List MemPlace)
    (hval : ∀ (j : Nat) t v, Tryd.f6.params[j]? = some t → args[j]? = some v → Value.okWide Tryd.prog W .any base t v)
    (hW : DataW.Whole enc Tryd.prog Tryd.f6.params.toList Rows.realTextsSpec.vars false W args.toList ds gs before) (hL : laidMetH Tryd.prog Rows.realTextsRow.laid W) (hS : W.ShapedOpen Tryd.prog) :
    Calls Tryd.prog 6 args W fun e W' => ∃ v, e = .returned v ∧ Rows.realTextsSpec.post enc Tryd.prog Tryd.f6 false true false false W args v W' := by
  have hW' := hW
  obtain ⟨hT, hP⟩ := tabs hL
  have hE := err_is (laid_tail (laid_tail (laid_tail (laid_tail hL))))
  have hR := rng_is (laid_tail (laid_tail (laid_tail hL)))
  have hM := max_is hS
  obtain ⟨p, q, hA0, hV, rfl, _, _⟩ := hW
  have hA : DataW.TrodAll enc Tryd.prog W 0 (fun _ => true) true Tryd.f6.params.toList args.toList ds p := hA0
  rw [Tryd.params6] at hA hval
  obtain ⟨v0, v1, d0, d1, p0, p1, rfl, rfl, rfl, h0, h1⟩ := trodAll_two hA
  obtain ⟨x0, rfl, rfl, rfl, wx0⟩ := open_int Tryd.underlying22 (hval 0 22 v0 rfl rfl) h0
  obtain ⟨s1, rfl, rfl, rfl, hs1⟩ := open_string Tryd.underlying9 (hval 1 9 v1 rfl rfl) h1
  have bx0 : -9223372036854775808 ≤ x0 ∧ x0 ≤ 9223372036854775807 := by simpa [Lit.wf, IntKind.min, IntKind.max, IntKind.signed, IntKind.bits] using wx0
  refine (RealTexts_walk x0 bx0.1 bx0.2 s1 hs1 W hT hP hM hE hR).mono fun e W' ⟨he, hb⟩ => ?_
  subst he
  exact ⟨_, rfl, law_post laidOut (by rw [Tryd.params6]; exact of_decide_eq_true (by kernel_rfl)) rfl rfl Tryd.underlying4 hW' (fun l hl => by subst hl; rfl) (hb.below (Nat.le_refl _) (by simp))⟩

theorem realTexts_laid_met (os : Os) : laidMet Tryd.prog Rows.realTextsRow.laid ((laidWorld5 os).forCall (fun _ _ => 0) ⟨#[], #[.int .i64 0, .string .empty], []⟩).memory :=
  laidMet_of_run' 8 (by kernel_rfl) (by kernel_rfl)
theorem realTexts_reads (os : Os) {H : Type} (enc : TypeId × Value → H) : ∃ places, DataW.whole enc Tryd.prog ((laidWorld5 os).forCall (fun _ _ => 0) ⟨#[], #[.int .i64 0, .string .empty], []⟩).memory Tryd.f6.params.toList Rows.realTextsSpec.vars false (#[.int .i64 0, .string .empty] : Array Value).toList 8 = some ([.lit (.int .i64 0), .lit (.string [])], [], places) :=
  ⟨[], by kernel_rfl⟩

set_option maxRecDepth 100000 in
theorem realTexts_lifted (os : Os) (started : os.Started) (H : Type) (enc : TypeId × Value → H) (F : Stop.Interp) :
    ReturnsInHanded {} Tryd.checked os 6 .any ((OpenSpec.ofChange Rows.realTextsSpec).preRow enc Tryd.prog Tryd.f6 Rows.realTextsRow.domain false Rows.realTextsRow.laid) (((OpenSpec.ofChange Rows.realTextsSpec).at F).post enc Tryd.prog Tryd.f6 false true false false) := by
  obtain ⟨places, hx⟩ := realTexts_reads os enc
  refine returnsInHanded_of_row (C := Tryd.checked) (s := OpenSpec.ofChange Rows.realTextsSpec) own started (by kernel_rfl) Tryd.func6
    (witness_row_at (enc := enc) (C := Tryd.checked) false (laidWorld5 os) #[.int .i64 0, .string .empty] rfl (by kernel_rfl) (by kernel_rfl) (by kernel_rfl)
      (OpenSpec.preRow_of_cond 8 hx (by kernel_rfl) (fun k hk => by cases hk) (by kernel_rfl) (realTexts_laid_met os))) ?_
  intro W base args ds gs before hval hW _ _ _ hL hS _
  exact realTexts_contract H enc W base args ds gs before hval hW hL hS

theorem realTexts_said : Rows.RealTextsSaid :=
  OpenClaim.holds_of_cond 6 Tryd.f6 rfl rfl rfl rfl rfl rfl rfl ⟨rfl, rfl, rfl, rfl, rfl⟩ rfl rfl rfl rfl rfl (by kernel_rfl) Tryd.func6 (by kernel_rfl)
    (of_decide_eq_true (by kernel_rfl)) (by unfold Func.isWrapper; first | (rw [if_pos (by decide +kernel)]; kernel_rfl) | (rw [if_neg (by decide +kernel)]; exact ⟨rfl, rfl⟩))
    (fun os started H enc _ F => by rw [OpenClaim.pre_eq_preRow]; exact realTexts_lifted os started H enc F)

theorem realTexts_plain (f : FuncId) (fn : Func) (hf : Tryd.pinned.checked.prog.funcNamed "rhyton/rhytonlaw04.RealTexts" = some f) (hfn : Tryd.pinned.checked.prog.funcs[f]? = some fn) :
    true = Tryd.pinned.checked.prog.looks [] ∧ ∀ (j : Nat) t, fn.params[j]? = some t → Tryd.pinned.checked.prog.wantsStandIn t = false := by
  obtain rfl : f = 6 := Option.some.inj ((show Tryd.prog.funcNamed "rhyton/rhytonlaw04.RealTexts" = some 6 by kernel_rfl).symm.trans hf) |>.symm
  obtain rfl : fn = Tryd.f6 := (Option.some.inj (Tryd.func6.symm.trans hfn)).symm
  refine ⟨by kernel_rfl, fun j t ht => ?_⟩
  rw [Tryd.params6] at ht
  have hm : t = 22 ∨ t = 9 := by simpa using Array.mem_of_getElem? ht
  rcases hm with rfl | rfl
  · exact (show Tryd.prog.wantsStandIn 22 = false by kernel_rfl)
  · exact (show Tryd.prog.wantsStandIn 9 = false by kernel_rfl)

theorem RealTexts_card : Rows.RealTextsCardSaid :=
  Claim7.holds_tied_plain_at .later [] _ _ _ _ realTexts_said (fun _ h => by cases h) (by kernel_rfl) (fun _ h => by cases h) realTexts_row_tie rfl ⟨rfl, rfl⟩ (by kernel_rfl) rfl realTexts_plain (by kernel_rfl)

#print axioms RealTexts_card
end Go.Proofs.YtibifcchmccknaaDoor
