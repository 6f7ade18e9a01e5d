/- SourceDeep returns true for every argument, and leaves its arguments as they were. No condition but the form's own. -/
import Derived.Test.YtnkepejdboppcaaDeep
import Derived.Test.YtnkepejdboppcaaRows1
namespace Go.Proofs.Ytnkepejdboppcaa
open Go.ChangeShapes Go.WideShapes Go.ChangeAt Go.RowKit
open Go.ChangeMaps (open_string shut_string)

set_option maxRecDepth 100000 in
theorem sourceDeep_lifted (os : Os) (started : os.Started) (H : Type) (enc : TypeId × Value → H) :
    ReturnsInHanded {} Try.checked os 4 .any (Rows.sourceDeepSpec.pre6 enc Try.prog Try.f4 Rows.sourceDeepRow.domain false) (Rows.sourceDeepSpec.post enc Try.prog Try.f4 false true false false) := by
  refine returnsInHanded_of_change_sized (C := Try.checked) own started (by kernel_rfl) Try.func4
    (ChangeSpec.witness6 (enc := enc) (C := Try.checked) false ⟨#[], #[.slice none 0 0], []⟩ 8 (by kernel_rfl) (by kernel_rfl) (by kernel_rfl) (by kernel_rfl)) ?_
  intro W base args ds gs before hval0 hW _ hsz0 _
  have hsz : (DataW.weightsEach Try.prog (Try.f4.params.toList ++ Rows.sourceDeepSpec.plain.varTypes Try.prog) (ds ++ gs)).all (· ≤ reachBytes) = true := hsz0
  clear hsz0
  have hval : ∀ (j : Nat) t v, Try.f4.params[j]? = some t → args[j]? = some v → Value.okWide Try.prog W .any base t v := hval0
  have hW' := hW
  obtain ⟨p, q, hA0, hV, rfl, _, _⟩ := hW
  have hA : DataW.TrodAll enc Try.prog W 0 (fun _ => true) true Try.f4.params.toList args.toList ds p := hA0
  rw [Try.params4] at hA hval hsz
  obtain ⟨v0, d0, rfl, rfl, h0⟩ := trodAll_one hA
  have hlt0 : ∀ x ∈ p, x.block < W.heap.size := fun x hx => by simpa using hW'.lt x (by simp [hx])
  obtain ⟨ss0, hS0⟩ := open_strs Try.underlying22 Try.underlying9 cellsStr (hval 0 22 v0 rfl rfl) h0 hlt0 fun elems spare hd => by
    have := sized_slice hsz (j := 0) (t := 22) (e := 9) rfl (by rw [hd]; rfl) Try.underlying22
    rw [bytesStr] at this
    simp only [reachBytes] at this
    omega
  refine (deep_walk W v0 ss0 hS0).mono fun e W' ⟨he, hb⟩ => ?_
  subst he
  exact ⟨_, rfl, law_post laidOut (by rw [Try.params4]; exact of_decide_eq_true (by kernel_rfl)) rfl rfl Try.underlying4 hW' (fun l hl => by subst hl; rfl) hb⟩

theorem SourceDeep_holds : Rows.SourceDeepSaid :=
  OpenClaim.holds_of_wide 4 Try.f4 rfl rfl rfl rfl rfl rfl rfl ⟨rfl, rfl, rfl, rfl, rfl⟩ rfl rfl rfl rfl rfl (by kernel_rfl) Try.func4 (by kernel_rfl)
    (of_decide_eq_true (by kernel_rfl)) (by unfold Func.isWrapper; first | (rw [if_pos (by decide +kernel)]; kernel_rfl) | (rw [if_neg (by decide +kernel)]; exact ⟨rfl, rfl⟩))
    (fun os started H enc _ => sourceDeep_lifted os started H enc)

#print axioms SourceDeep_holds
end Go.Proofs.Ytnkepejdboppcaa
