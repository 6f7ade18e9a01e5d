/- RecogLocals: its card, from its walk. -/
import Derived.Test.YtgdmiodcfdcihaaDoorLocalsLaw
import Derived.Test.YtgdmiodcfdcihaaDoorAdd
import Derived.Test.YtgdmiodcfdcihaaDoorRecogRow
namespace Go.Proofs.YtgdmiodcfdcihaaDoor
open Go.ChangeShapes Go.WideShapes Go.ChangeAt Go.RowKit
open Go.ChangeMaps (open_string shut_string)

theorem add_none : AddOK .empty (-16) [] := fun w D F h => (Add_empty w D 7).mono fun _ _ ⟨h1, h2⟩ => ⟨h1, F, h2 ▸ h, h2 ▸ Touch.refl _ _, fun _ hf => .inl hf⟩
theorem add_one (s : ByteArray) (h0 : s.size ≠ 0) (h1 : s.size ≤ 31) : AddOK s 0 [⟨s, 7, false⟩] := fun w D F h => Add_yes w D F [] h (by simp) s h0 h1 7

set_option maxRecDepth 100000 in
theorem recogLocals_contract (H : Type) (enc : TypeId × Value → H) (W : World) (base : Nat) (args : Array Value) (ds gs : List (DataW H)) (before : List MemPlace)
    (hval : ∀ (j : Nat) t v, Tryd.f4.params[j]? = some t → args[j]? = some v → Value.okWide Tryd.prog W .any base t v)
    (hW : DataW.Whole enc Tryd.prog Tryd.f4.params.toList Rows.recogLocalsSpec.vars false W args.toList ds gs before)
    (hsz : (DataW.weightsEach Tryd.prog (Tryd.f4.params.toList ++ (OpenSpec.ofChange Rows.recogLocalsSpec).bare.plain.varTypes Tryd.prog) (ds ++ gs)).all (· ≤ reachBytes) = true) :
    Calls Tryd.prog 4 args W fun e W' => ∃ v, e = .returned v ∧ Rows.recogLocalsSpec.post enc Tryd.prog Tryd.f4 false true false false W args v W' := by
  have hW' := hW
  obtain ⟨p, q, hA0, hV, rfl, _, _⟩ := hW
  have hA : DataW.TrodAll enc Tryd.prog W 0 (fun _ => true) true Tryd.f4.params.toList args.toList ds p := hA0
  rw [Tryd.params4] at hA hval hsz
  obtain ⟨v0, v1, d0, d1, p0, p1, rfl, rfl, rfl, h0, h1⟩ := trodAll_two hA
  obtain ⟨x1, rfl, rfl, rfl, wx1⟩ := open_int Tryd.underlying5 (hval 1 5 v1 rfl rfl) h1
  have bx1 : 0 ≤ x1 ∧ x1 ≤ 255 := by simpa [Lit.wf, IntKind.min, IntKind.max, IntKind.signed, IntKind.bits] using wx1
  have hlt : ∀ x ∈ p0, x.block < W.heap.size := fun x hx => by simpa using hW'.lt x (by simp [hx])
  obtain ⟨ss, hS⟩ := open_strs Tryd.underlying35 Tryd.underlying9 cellsStr (hval 0 35 v0 rfl rfl) h0 hlt fun elems spare hd => by
    have := sized_slice hsz (j := 0) (t := 35) (e := 9) rfl (by rw [hd]; rfl) Tryd.underlying35
    rw [bytesStr] at this
    simp only [reachBytes] at this
    omega
  refine (RecogLocals_walk add_none add_one W v0 ss hS x1 bx1.1 bx1.2).mono fun e W' ⟨he, hb⟩ => ?_
  subst he
  exact ⟨_, rfl, law_post laidOut (by rw [Tryd.params4]; exact of_decide_eq_true (by kernel_rfl)) rfl rfl Tryd.underlying4 hW' (fun l hl => by subst hl; rfl) (hb.below (Nat.le_refl _) (by simp))⟩

theorem recogLocals_laid_met (os : Os) : laidMet Tryd.prog Rows.recogLocalsRow.laid ((laidWorld5 os).forCall (fun _ _ => 0) ⟨#[], #[.slice none 0 0, .int .u8 0], []⟩).memory :=
  laidMet_of_run' 8 (by kernel_rfl) (by kernel_rfl)
theorem recogLocals_reads (os : Os) {H : Type} (enc : TypeId × Value → H) : ∃ places, DataW.whole enc Tryd.prog ((laidWorld5 os).forCall (fun _ _ => 0) ⟨#[], #[.slice none 0 0, .int .u8 0], []⟩).memory Tryd.f4.params.toList Rows.recogLocalsSpec.vars false (#[.slice none 0 0, .int .u8 0] : Array Value).toList 8 = some ([.nil, .lit (.int .u8 0)], [], places) :=
  ⟨[], by kernel_rfl⟩

set_option maxRecDepth 100000 in
theorem recogLocals_lifted (os : Os) (started : os.Started) (H : Type) (enc : TypeId × Value → H) (F : Stop.Interp) :
    ReturnsInHanded {} Tryd.checked os 4 .any ((OpenSpec.ofChange Rows.recogLocalsSpec).preRow enc Tryd.prog Tryd.f4 Rows.recogLocalsRow.domain false Rows.recogLocalsRow.laid) (((OpenSpec.ofChange Rows.recogLocalsSpec).at F).post enc Tryd.prog Tryd.f4 false true false false) := by
  obtain ⟨places, hx⟩ := recogLocals_reads os enc
  refine returnsInHanded_of_row (C := Tryd.checked) (s := OpenSpec.ofChange Rows.recogLocalsSpec) own started (by kernel_rfl) Tryd.func4
    (witness_row_at (enc := enc) (C := Tryd.checked) false (laidWorld5 os) #[.slice none 0 0, .int .u8 0] rfl (by kernel_rfl) (by kernel_rfl) (by kernel_rfl)
      (OpenSpec.preRow_of_cond 8 hx (by kernel_rfl) (fun k hk => by cases hk) (by kernel_rfl) (recogLocals_laid_met os))) ?_
  intro W base args ds gs before hval hW _ _ hsz _ _ _
  exact recogLocals_contract H enc W base args ds gs before hval hW hsz

theorem recogLocals_said : Rows.RecogLocalsSaid :=
  OpenClaim.holds_of_cond 4 Tryd.f4 rfl rfl rfl rfl rfl rfl rfl ⟨rfl, rfl, rfl, rfl, rfl⟩ rfl rfl rfl rfl rfl (by kernel_rfl) Tryd.func4 (by kernel_rfl)
    (of_decide_eq_true (by kernel_rfl)) (by unfold Func.isWrapper; first | (rw [if_pos (by decide +kernel)]; kernel_rfl) | (rw [if_neg (by decide +kernel)]; exact ⟨rfl, rfl⟩))
    (fun os started H enc _ F => by rw [OpenClaim.pre_eq_preRow]; exact recogLocals_lifted os started H enc F)

theorem recogLocals_plain (f : FuncId) (fn : Func) (hf : Tryd.pinned.checked.prog.funcNamed "rhyton/rhytonlaw16.RecogLocals" = some f) (hfn : Tryd.pinned.checked.prog.funcs[f]? = some fn) :
    true = Tryd.pinned.checked.prog.looks [] ∧ ∀ (j : Nat) t, fn.params[j]? = some t → Tryd.pinned.checked.prog.wantsStandIn t = false := by
  obtain rfl : f = 4 := Option.some.inj ((show Tryd.prog.funcNamed "rhyton/rhytonlaw16.RecogLocals" = some 4 by kernel_rfl).symm.trans hf) |>.symm
  obtain rfl : fn = Tryd.f4 := (Option.some.inj (Tryd.func4.symm.trans hfn)).symm
  refine ⟨by kernel_rfl, fun j t ht => ?_⟩
  rw [Tryd.params4] at ht
  have hm : t = 35 ∨ t = 5 := by simpa using Array.mem_of_getElem? ht
  rcases hm with rfl | rfl
  · exact (show Tryd.prog.wantsStandIn 35 = false by kernel_rfl)
  · exact (show Tryd.prog.wantsStandIn 5 = false by kernel_rfl)

theorem RecogLocals_card : Rows.RecogLocalsCardSaid :=
  Claim7.holds_tied_plain_at .later [] _ _ _ _ recogLocals_said (fun _ h => by cases h) (by kernel_rfl) (fun _ h => by cases h) recogLocals_row_tie rfl ⟨rfl, rfl⟩ (by kernel_rfl) rfl recogLocals_plain (by kernel_rfl)

#print axioms RecogLocals_card
end Go.Proofs.YtgdmiodcfdcihaaDoor
