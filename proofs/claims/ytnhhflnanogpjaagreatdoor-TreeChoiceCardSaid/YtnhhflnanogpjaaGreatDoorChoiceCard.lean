import Derived.Test.YtnhhflnanogpjaaGreatDoorWorld
import Derived.ProofKit
import Derived.SizedLaws
import Derived.Test.YtnhhflnanogpjaaGreatDoorWord1
import Derived.Test.YtnhhflnanogpjaaGreatDoorCards
import Derived.Test.YtnhhflnanogpjaaGreatDoorTie
import Derived.WalkKit
import Derived.OpenShut
import Derived.Deep.DeepHandedRow
import Derived.Lib.LaidTab
import Derived.Test.YtnhhflnanogpjaaGreatDoorChoiceWalk
/- What every law's row asks behind its walk: the call returned true, and below the heap's size nothing has turned. Arguments that are slices of strings. -/
namespace Go.Proofs.YtnhhflnanogpjaaGreatDoor
open Go.ChangeShapes Go.WideShapes Go.ChangeAt Go.RowKit

theorem law_trod {H : Type} {enc : TypeId × Value → H} {P : Program} (hl : laidOutB P = true) {W W' : World} (hb : Below W.heap.size W W') : ∀ (ts : List TypeId) (vs : List Value) (ds : List (DataW H)) (ps : List MemPlace),
    (∀ t ∈ ts, P.readableRec t = true ∧ t < P.types.size) → DataW.TrodAll enc P W 0 (fun _ => true) true ts vs ds ps → (∀ x ∈ ps, x.block < W.heap.size) →
    DataW.TrodAll enc P W' 0 (fun b => decide (b < W.heap.size)) true ts vs ds ps
  | [], vs, ds, ps, _, h, _ => by
    obtain ⟨rfl, rfl, rfl⟩ := trodAll_nil h
    exact trodAll_mk0
  | t :: ts, vs, ds, ps, ht, h, hlt => by
    obtain ⟨v, vs', d, ds', p, q, rfl, rfl, rfl, h1, h2⟩ := trodAll_cons h
    refine ⟨p, q, Below.trod hl (ht t (by simp)).1 (ht t (by simp)).2 h1 hb fun x hx => hlt x (by simp [hx]), ?_, rfl⟩
    exact law_trod hl hb ts vs' ds' q (fun t' h' => ht t' (by simp [h'])) h2 fun x hx => hlt x (by simp [hx])

theorem law_post {H : Type} {enc : TypeId × Value → H} {P : Program} {f : Func} {s : ChangeSpec} {W W' : World} {args : Array Value} {ds gs : List (DataW H)} {before : List MemPlace} {tb : TypeId}
    (hl : laidOutB P = true) (hts : ∀ t ∈ f.params.toList, P.readableRec t = true ∧ t < P.types.size) (hv : s.vars = []) (hrt : f.resultTypes = #[tb]) (htb : P.underlying tb = some .bool)
    (hW : DataW.Whole enc P f.params.toList s.vars false W args.toList ds gs before) (hfn : ∀ l, l = ds → s.fn H (l ++ []) = { results := [.lit (.bool true)], args := l }) (hb : Below W.heap.size W W') :
    s.post enc P f false true false false W args (.bool true) W' := by
  have hW' := hW
  obtain ⟨p, q, hA, hV, rfl, _, _⟩ := hW
  rw [hv] at hV
  obtain ⟨rfl, rfl⟩ : gs = [] ∧ q = [] := by
    cases gs with
    | nil => exact ⟨rfl, hV⟩
    | cons x r => cases hV
  have hlt : ∀ x ∈ p, x.block < W.heap.size := fun x hx => hW'.lt x (by simp [hx])
  have e := hfn ds rfl
  refine ⟨ds, [], _, [] ++ [], p, [], hW', ?_, ?_, ?_, hb.frame _, fun h => by cases h⟩
  · rw [e, hrt]; exact trodAll_mk1 (shut_bool htb true)
  · rw [e]; exact law_trod hl hb _ _ _ _ hts hA hlt
  · rw [e, hv]; rfl

/-- a slice of strings, nil let in: n texts -/
structure Strs (w : World) (v : Value) (ss : List ByteArray) : Prop where
  form : (v = .slice none 0 0 ∧ ss = []) ∨ (∃ a cap, v = .slice (some a) 0 cap ∧ cap ≤ 140737488355328 ∧ ss = []) ∨ ∃ b off cap, v = .slice (some ⟨b, off, none⟩) ss.length cap ∧ b < w.heap.size ∧ ss.length ≤ cap ∧ cap ≤ 140737488355328 ∧ ∀ i, i < ss.length → w.cell? ⟨b, off + i, none⟩ = some (.string (ss.getD i .empty))
  size : ∀ s, s ∈ ss → s.size ≤ maxLen

theorem open_strs {H : Type} {enc : TypeId × Value → H} {P : Program} {w : World} {t e : TypeId} {v : Value} {d : DataW H} {p : List MemPlace} {b0 : Nat} (ht : P.underlying t = some (.slice e)) (he : P.underlying e = some .string) (hc : P.cellsOf e = 1)
    (hv : Value.okWide P w .any b0 t v) (h : DataW.Trod enc P w 0 (fun _ => true) true t v d p) (hlt : ∀ x ∈ p, x.block < w.heap.size)
    (hsz : ∀ elems spare, d = .slice elems spare → elems.length + spare.length ≤ 140737488355328) : ∃ ss, Strs w v ss := by
  obtain ⟨a0, len, cap, rfl⟩ := okWide_slice ht hv
  obtain ⟨fuel, hf⟩ := h
  rcases open_strings ht he hc hf with ⟨hcs, hx⟩ | ⟨a, len', cap', ss, hcs, _, hl, hm, hz, hx, hcell, hws⟩
  · simp [Value.cells] at hcs
    obtain ⟨rfl, rfl, rfl⟩ := hcs
    exact ⟨[], .inl ⟨rfl, rfl⟩, by simp⟩
  · simp [Value.cells] at hcs
    obtain ⟨rfl, rfl, rfl⟩ := hcs
    simp only [Prod.mk.injEq] at hx
    obtain ⟨rfl, rfl⟩ := hx
    simp only [if_true] at hz
    have hcap := hsz _ _ rfl
    simp only [strs, List.length_map, List.length_take, List.length_drop] at hcap
    refine ⟨ss.take len, ?_, fun s hs => hws s (List.mem_of_mem_take hs)⟩
    by_cases h0 : len = 0
    · subst h0
      exact .inr (.inl ⟨a, cap, rfl, by omega, by simp⟩)
    · obtain ⟨b, off, spot⟩ := a
      have hspot : spot = none := by simpa [Addr.add] using World.cell?_spot (hcell 0 (by omega))
      subst hspot
      have hlen : (ss.take len).length = len := by rw [List.length_take]; omega
      rw [hlen]
      refine .inr (.inr ⟨b, off, cap, rfl, hlt (.cell b off) (MemPlace.mem_row.2 ⟨0, by omega, by simp⟩), hl, by omega, fun i hi => ?_⟩)
      have hc := hcell i (by omega)
      rw [add_plain] at hc
      rw [hc]
      have e : (ss.take len).getD i .empty = ss.getD i .empty := by simp [List.getD, hi]
      rw [e]

end Go.Proofs.YtnhhflnanogpjaaGreatDoor

/- Closed facts of the program that every row's proof asks. -/
namespace Go.Proofs.YtnhhflnanogpjaaGreatDoor
theorem laidOut : laidOutB Tryz.prog = true := by kernel_rfl
theorem cellsStr : Tryz.prog.cellsOf 9 = 1 := by kernel_rfl
theorem bytesStr : Tryz.prog.bytesOf 9 = 16 := by kernel_rfl
end Go.Proofs.YtnhhflnanogpjaaGreatDoor

/- What the rows of the Tree door list: five tables; a world for the witness. -/
namespace Go.Proofs.YtnhhflnanogpjaaGreatDoor
open Go.ChangeShapes Go.WideShapes Go.ChangeAt Go.RowKit

theorem own : ownKnob Tryz.prog.godebug = none := by kernel_rfl
theorem gPowT : Tryz.prog.globalNamed "internal/strconv.uint64pow10" = some 0 := by kernel_rfl
theorem tPowT : (Tryz.prog.globals[0]?).map (·.type) = some 138 := by kernel_rfl
theorem cPowT : Tryz.prog.cellsOf 138 = 20 := by kernel_rfl
theorem cU64T : Tryz.prog.cellsOf 124 = 1 := by kernel_rfl

theorem laid_tail {P : Program} {x : String × DataW Unit} {l : List (String × DataW Unit)} {w : World} (h : laidMet P (x :: l) w) : laidMet P l w := by
  obtain ⟨n, d⟩ := x
  obtain ⟨ps, ⟨g, t, cs, fuel, p, q, e1, e2, e3, e4, hr, rfl⟩, hnd, hrows⟩ := h
  exact ⟨q, hr, (List.nodup_append.1 hnd).2.1, fun b off hp => hrows b off (List.mem_append_right _ hp)⟩

theorem pow_of {W : World} {rest : List (String × DataW Unit)} (h : laidMet Tryz.prog (("internal/strconv.uint64pow10", Rows.laid_internal_strconv_uint64pow10) :: rest) W) : PowTab W :=
  Lib.tabIs_of_head gPowT tPowT (n := 20) (e := 124) (by kernel_rfl) (by kernel_rfl) cU64T cPowT h
theorem max_is {W : World} (h : W.ShapedOpen Tryz.prog) : MaxIs W :=
  Go.Proofs.cell_of_shapedOpen_int (zero := #[.int .i64 0]) (t := 3) h (of_decide_eq_true (by kernel_rfl)) (by kernel_rfl) rfl (by kernel_rfl) (by kernel_rfl) Tryz.underlying3

def lit0 : DataW Unit → List Value
  | .lit (.int k n) => [.int k n]
  | _ => []
def lit1 : DataW Unit → List Value
  | .agg xs => xs.flatMap lit0
  | _ => []
def lit2 : DataW Unit → List Value
  | .agg xs => xs.flatMap lit1
  | _ => []
def putCells (vs : Array Value) : Obj → Obj
  | .cells _ t frozen => .cells vs t frozen
  | o => o
/-- A WORLD FOR THE WITNESS: the settled one, the tables holding what their initialisers lay. -/
noncomputable def laidWorld (os : Os) : World :=
  { World.holding Tryz.prog os ⟨#[], #[], []⟩ with heap := (((((World.holding Tryz.prog os ⟨#[], #[], []⟩).heap.modify 2 (putCells (lit1 Rows.laid_math_bits_deBruijn32tab).toArray)).modify 3 (putCells (lit1 Rows.laid_math_bits_deBruijn64tab).toArray)).modify 0 (putCells (lit1 Rows.laid_internal_strconv_uint64pow10).toArray)).modify 5 (putCells (lit2 Rows.laid_unicode_utf8_acceptRanges).toArray)).modify 4 (putCells (lit1 Rows.laid_unicode_utf8_first).toArray) }
end Go.Proofs.YtnhhflnanogpjaaGreatDoor

/- TreeChoice: its card, from its walk. -/
namespace Go.Proofs.YtnhhflnanogpjaaGreatDoor
open Go.ChangeShapes Go.WideShapes Go.ChangeAt Go.RowKit
open Go.ChangeMaps (open_string shut_string)

set_option maxRecDepth 100000 in
theorem treeChoice_contract (H : Type) (enc : TypeId × Value → H) (W : World) (base : Nat) (args : Array Value) (ds gs : List (DataW H)) (before : List MemPlace)
    (hval : ∀ (j : Nat) t v, Tryz.f5.params[j]? = some t → args[j]? = some v → Value.okWide Tryz.prog W .any base t v)
    (hW : DataW.Whole enc Tryz.prog Tryz.f5.params.toList Rows.treeChoiceSpec.vars false W args.toList ds gs before) (hL : laidMetH Tryz.prog Rows.treeChoiceRow.laid W) (hS : W.ShapedOpen Tryz.prog) :
    Calls Tryz.prog 5 args W fun e W' => ∃ v, e = .returned v ∧ Rows.treeChoiceSpec.post enc Tryz.prog Tryz.f5 false true false false W args v W' := by
  have hW' := hW
  have hP := pow_of (laid_tail (laid_tail hL))
  have hM := max_is hS
  obtain ⟨p, q, hA0, hV, rfl, _, _⟩ := hW
  have hA : DataW.TrodAll enc Tryz.prog W 0 (fun _ => true) true Tryz.f5.params.toList args.toList ds p := hA0
  rw [Tryz.params5] at hA hval
  obtain ⟨v0, v1, v2, d0, d1, d2, p0, p1, p2, rfl, rfl, rfl, h0, h1, h2⟩ := trodAll_three hA
  obtain ⟨x0, rfl, rfl, rfl, wx0⟩ := open_int Tryz.underlying5 (hval 0 5 v0 rfl rfl) h0
  have bx0 : 0 ≤ x0 ∧ x0 ≤ 255 := by simpa [Lit.wf, IntKind.min, IntKind.max, IntKind.signed, IntKind.bits] using wx0
  obtain ⟨x1, rfl, rfl, rfl, wx1⟩ := open_int Tryz.underlying34 (hval 1 34 v1 rfl rfl) h1
  have bx1 : -9223372036854775808 ≤ x1 ∧ x1 ≤ 9223372036854775807 := by simpa [Lit.wf, IntKind.min, IntKind.max, IntKind.signed, IntKind.bits] using wx1
  obtain ⟨x2, rfl, rfl, rfl, wx2⟩ := open_int Tryz.underlying5 (hval 2 5 v2 rfl rfl) h2
  have bx2 : 0 ≤ x2 ∧ x2 ≤ 255 := by simpa [Lit.wf, IntKind.min, IntKind.max, IntKind.signed, IntKind.bits] using wx2
  refine (TreeChoice_walk x0 x1 x2 bx0 bx1 bx2 W ⟨hP, hM⟩).mono fun e W' ⟨he, hb⟩ => ?_
  subst he
  exact ⟨_, rfl, law_post laidOut (by rw [Tryz.params5]; exact of_decide_eq_true (by kernel_rfl)) rfl rfl Tryz.underlying4 hW' (fun l hl => by subst hl; rfl) (hb.below (Nat.le_refl _) (by simp))⟩

theorem treeChoice_laid_met (os : Os) : laidMet Tryz.prog Rows.treeChoiceRow.laid ((laidWorld os).forCall (fun _ _ => 0) ⟨#[], #[.int .u8 0, .int .i64 0, .int .u8 0], []⟩).memory :=
  laidMet_of_run' 8 (by kernel_rfl) (by kernel_rfl)
theorem treeChoice_reads (os : Os) {H : Type} (enc : TypeId × Value → H) : ∃ places, DataW.whole enc Tryz.prog ((laidWorld os).forCall (fun _ _ => 0) ⟨#[], #[.int .u8 0, .int .i64 0, .int .u8 0], []⟩).memory Tryz.f5.params.toList Rows.treeChoiceSpec.vars false (#[.int .u8 0, .int .i64 0, .int .u8 0] : Array Value).toList 8 = some ([.lit (.int .u8 0), .lit (.int .i64 0), .lit (.int .u8 0)], [], places) :=
  ⟨[], by kernel_rfl⟩

set_option maxRecDepth 100000 in
theorem treeChoice_lifted (os : Os) (started : os.Started) (H : Type) (enc : TypeId × Value → H) (F : Stop.Interp) :
    ReturnsInHanded {} Tryz.checked os 5 .any ((OpenSpec.ofChange Rows.treeChoiceSpec).preRow enc Tryz.prog Tryz.f5 Rows.treeChoiceRow.domain false Rows.treeChoiceRow.laid) (((OpenSpec.ofChange Rows.treeChoiceSpec).at F).post enc Tryz.prog Tryz.f5 false true false false) := by
  obtain ⟨places, hx⟩ := treeChoice_reads os enc
  refine returnsInHanded_of_row (C := Tryz.checked) (s := OpenSpec.ofChange Rows.treeChoiceSpec) own started (by kernel_rfl) Tryz.func5
    (witness_row_at (enc := enc) (C := Tryz.checked) false (laidWorld os) #[.int .u8 0, .int .i64 0, .int .u8 0] rfl (by kernel_rfl) (by kernel_rfl) (by kernel_rfl)
      (OpenSpec.preRow_of_cond 8 hx (by kernel_rfl) (fun k hk => by cases hk) (by kernel_rfl) (treeChoice_laid_met os))) ?_
  intro W base args ds gs before hval hW _ _ _ hL hS _
  exact treeChoice_contract H enc W base args ds gs before hval hW hL hS

theorem treeChoice_said : Rows.TreeChoiceSaid :=
  OpenClaim.holds_of_cond 5 Tryz.f5 rfl rfl rfl rfl rfl rfl rfl ⟨rfl, rfl, rfl, rfl, rfl⟩ rfl rfl rfl rfl rfl (by kernel_rfl) Tryz.func5 (by kernel_rfl)
    (of_decide_eq_true (by kernel_rfl)) (by unfold Func.isWrapper; first | (rw [if_pos (by decide +kernel)]; kernel_rfl) | (rw [if_neg (by decide +kernel)]; exact ⟨rfl, rfl⟩))
    (fun os started H enc _ F => by rw [OpenClaim.pre_eq_preRow]; exact treeChoice_lifted os started H enc F)

theorem treeChoice_plain (f : FuncId) (fn : Func) (hf : Tryz.pinned.checked.prog.funcNamed "rhyton/rhytonlaw20.TreeChoice" = some f) (hfn : Tryz.pinned.checked.prog.funcs[f]? = some fn) :
    true = Tryz.pinned.checked.prog.looks [] ∧ ∀ (j : Nat) t, fn.params[j]? = some t → Tryz.pinned.checked.prog.wantsStandIn t = false := by
  obtain rfl : f = 5 := Option.some.inj ((show Tryz.prog.funcNamed "rhyton/rhytonlaw20.TreeChoice" = some 5 by kernel_rfl).symm.trans hf) |>.symm
  obtain rfl : fn = Tryz.f5 := (Option.some.inj (Tryz.func5.symm.trans hfn)).symm
  refine ⟨by kernel_rfl, fun j t ht => ?_⟩
  rw [Tryz.params5] at ht
  have hm := Array.mem_of_getElem? ht
  simp only [List.mem_toArray, List.mem_cons, List.not_mem_nil, or_false] at hm
  rcases hm with rfl | rfl | rfl
  · exact (show Tryz.prog.wantsStandIn 5 = false by kernel_rfl)
  · exact (show Tryz.prog.wantsStandIn 34 = false by kernel_rfl)
  · exact (show Tryz.prog.wantsStandIn 5 = false by kernel_rfl)

theorem TreeChoice_card : Rows.TreeChoiceCardSaid :=
  Claim7.holds_tied_plain_at .later [] _ _ _ _ treeChoice_said (fun _ h => by cases h) (by kernel_rfl) (fun _ h => by cases h) treeChoice_row_tie rfl ⟨rfl, rfl⟩ (by kernel_rfl) rfl treeChoice_plain (by kernel_rfl)

#print axioms TreeChoice_card
end Go.Proofs.YtnhhflnanogpjaaGreatDoor
