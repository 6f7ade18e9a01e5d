import Derived.Test.YtkbchpaofmlhgaaGreatDoorWorld
import Derived.ProofKit
import Derived.SizedLaws
import Derived.Test.YtkbchpaofmlhgaaGreatDoorCards
import Derived.Test.YtkbchpaofmlhgaaGreatDoorTie
import Derived.WalkKit
import Derived.OpenShut
import Derived.Deep.DeepHandedRow
import Derived.Lib.LaidTab
import Derived.ChangeSlices
import Derived.Test.YtkbchpaofmlhgaaGreatDoorNumsWn2
import Derived.Test.YtkbchpaofmlhgaaGreatDoorNumsWp2
import Derived.Test.YtkbchpaofmlhgaaGreatDoorNumsLH
/- What every law's row asks behind its walk: the call returned true, and below the heap's size nothing has turned. Arguments that are slices of strings. -/
namespace Go.Proofs.YtkbchpaofmlhgaaGreatDoor
open Go.ChangeShapes Go.WideShapes Go.ChangeAt Go.RowKit

theorem law_trod {H : Type} {enc : TypeId × Value → H} {P : Program} (hl : laidOutB P = true) {W W' : World} (hb : Below W.heap.size W W') : ∀ (ts : List TypeId) (vs : List Value) (ds : List (DataW H)) (ps : List MemPlace),
    (∀ t ∈ ts, P.readableRec t = true ∧ t < P.types.size) → DataW.TrodAll enc P W 0 (fun _ => true) true ts vs ds ps → (∀ x ∈ ps, x.block < W.heap.size) →
    DataW.TrodAll enc P W' 0 (fun b => decide (b < W.heap.size)) true ts vs ds ps
  | [], vs, ds, ps, _, h, _ => by
    obtain ⟨rfl, rfl, rfl⟩ := trodAll_nil h
    exact trodAll_mk0
  | t :: ts, vs, ds, ps, ht, h, hlt => by
    obtain ⟨v, vs', d, ds', p, q, rfl, rfl, rfl, h1, h2⟩ := trodAll_cons h
    refine ⟨p, q, Below.trod hl (ht t (by simp)).1 (ht t (by simp)).2 h1 hb fun x hx => hlt x (by simp [hx]), ?_, rfl⟩
    exact law_trod hl hb ts vs' ds' q (fun t' h' => ht t' (by simp [h'])) h2 fun x hx => hlt x (by simp [hx])

theorem law_post {H : Type} {enc : TypeId × Value → H} {P : Program} {f : Func} {s : ChangeSpec} {W W' : World} {args : Array Value} {ds gs : List (DataW H)} {before : List MemPlace} {tb : TypeId}
    (hl : laidOutB P = true) (hts : ∀ t ∈ f.params.toList, P.readableRec t = true ∧ t < P.types.size) (hv : s.vars = []) (hrt : f.resultTypes = #[tb]) (htb : P.underlying tb = some .bool)
    (hW : DataW.Whole enc P f.params.toList s.vars false W args.toList ds gs before) (hfn : ∀ l, l = ds → s.fn H (l ++ []) = { results := [.lit (.bool true)], args := l }) (hb : Below W.heap.size W W') :
    s.post enc P f false true false false W args (.bool true) W' := by
  have hW' := hW
  obtain ⟨p, q, hA, hV, rfl, _, _⟩ := hW
  rw [hv] at hV
  obtain ⟨rfl, rfl⟩ : gs = [] ∧ q = [] := by
    cases gs with
    | nil => exact ⟨rfl, hV⟩
    | cons x r => cases hV
  have hlt : ∀ x ∈ p, x.block < W.heap.size := fun x hx => hW'.lt x (by simp [hx])
  have e := hfn ds rfl
  refine ⟨ds, [], _, [] ++ [], p, [], hW', ?_, ?_, ?_, hb.frame _, fun h => by cases h⟩
  · rw [e, hrt]; exact trodAll_mk1 (shut_bool htb true)
  · rw [e]; exact law_trod hl hb _ _ _ _ hts hA hlt
  · rw [e, hv]; rfl

/-- a slice of strings, nil let in: n texts -/
structure Strs (w : World) (v : Value) (ss : List ByteArray) : Prop where
  form : (v = .slice none 0 0 ∧ ss = []) ∨ (∃ a cap, v = .slice (some a) 0 cap ∧ cap ≤ 140737488355328 ∧ ss = []) ∨ ∃ b off cap, v = .slice (some ⟨b, off, none⟩) ss.length cap ∧ b < w.heap.size ∧ ss.length ≤ cap ∧ cap ≤ 140737488355328 ∧ ∀ i, i < ss.length → w.cell? ⟨b, off + i, none⟩ = some (.string (ss.getD i .empty))
  size : ∀ s, s ∈ ss → s.size ≤ maxLen

theorem open_strs {H : Type} {enc : TypeId × Value → H} {P : Program} {w : World} {t e : TypeId} {v : Value} {d : DataW H} {p : List MemPlace} {b0 : Nat} (ht : P.underlying t = some (.slice e)) (he : P.underlying e = some .string) (hc : P.cellsOf e = 1)
    (hv : Value.okWide P w .any b0 t v) (h : DataW.Trod enc P w 0 (fun _ => true) true t v d p) (hlt : ∀ x ∈ p, x.block < w.heap.size)
    (hsz : ∀ elems spare, d = .slice elems spare → elems.length + spare.length ≤ 140737488355328) : ∃ ss, Strs w v ss := by
  obtain ⟨a0, len, cap, rfl⟩ := okWide_slice ht hv
  obtain ⟨fuel, hf⟩ := h
  rcases open_strings ht he hc hf with ⟨hcs, hx⟩ | ⟨a, len', cap', ss, hcs, _, hl, hm, hz, hx, hcell, hws⟩
  · simp [Value.cells] at hcs
    obtain ⟨rfl, rfl, rfl⟩ := hcs
    exact ⟨[], .inl ⟨rfl, rfl⟩, by simp⟩
  · simp [Value.cells] at hcs
    obtain ⟨rfl, rfl, rfl⟩ := hcs
    simp only [Prod.mk.injEq] at hx
    obtain ⟨rfl, rfl⟩ := hx
    simp only [if_true] at hz
    have hcap := hsz _ _ rfl
    simp only [strs, List.length_map, List.length_take, List.length_drop] at hcap
    refine ⟨ss.take len, ?_, fun s hs => hws s (List.mem_of_mem_take hs)⟩
    by_cases h0 : len = 0
    · subst h0
      exact .inr (.inl ⟨a, cap, rfl, by omega, by simp⟩)
    · obtain ⟨b, off, spot⟩ := a
      have hspot : spot = none := by simpa [Addr.add] using World.cell?_spot (hcell 0 (by omega))
      subst hspot
      have hlen : (ss.take len).length = len := by rw [List.length_take]; omega
      rw [hlen]
      refine .inr (.inr ⟨b, off, cap, rfl, hlt (.cell b off) (MemPlace.mem_row.2 ⟨0, by omega, by simp⟩), hl, by omega, fun i hi => ?_⟩)
      have hc := hcell i (by omega)
      rw [add_plain] at hc
      rw [hc]
      have e : (ss.take len).getD i .empty = ss.getD i .empty := by simp [List.getD, hi]
      rw [e]

end Go.Proofs.YtkbchpaofmlhgaaGreatDoor

/- Closed facts of the program that every row's proof asks. -/
namespace Go.Proofs.YtkbchpaofmlhgaaGreatDoor
theorem laidOut : laidOutB Tryz.prog = true := by kernel_rfl
theorem cellsStr : Tryz.prog.cellsOf 9 = 1 := by kernel_rfl
theorem bytesStr : Tryz.prog.bytesOf 9 = 16 := by kernel_rfl
end Go.Proofs.YtkbchpaofmlhgaaGreatDoor

/- What the rows of the Prim door list: three tables; a world for the witness. -/
namespace Go.Proofs.YtkbchpaofmlhgaaGreatDoor
open Go.ChangeShapes Go.WideShapes Go.ChangeAt Go.RowKit

theorem own : ownKnob Tryz.prog.godebug = none := by kernel_rfl
def lit0 : DataW Unit → List Value
  | .lit (.int k n) => [.int k n]
  | _ => []
def lit1 : DataW Unit → List Value
  | .agg xs => xs.flatMap lit0
  | _ => []
def putCells (vs : Array Value) : Obj → Obj
  | .cells _ t frozen => .cells vs t frozen
  | o => o
/-- A WORLD FOR THE WITNESS: the settled one, the tables holding what their initialisers lay. -/
noncomputable def laidWorld (os : Os) : World :=
  { World.holding Tryz.prog os ⟨#[], #[], []⟩ with heap := (((World.holding Tryz.prog os ⟨#[], #[], []⟩).heap.modify 6 (putCells (lit1 Rows.laid_math_bits_deBruijn32tab).toArray)).modify 3 (putCells (lit1 Rows.laid_math_bits_deBruijn64tab).toArray)).modify 4 (putCells (lit1 Rows.laid_internal_strconv_uint64pow10).toArray) }
end Go.Proofs.YtkbchpaofmlhgaaGreatDoor

/- Rows of numbers that come in, opened; arguments, one by one. -/
namespace Go.Proofs.YtkbchpaofmlhgaaGreatDoor
open Go.ChangeShapes Go.WideShapes Go.ChangeAt Go.RowKit

/-- a row of numbers that came in -/
def ArgK (k : IntKind) (w : World) (v : Value) (l : List Int) : Prop :=
  ∃ a c, v = .slice a l.length c ∧ l.length ≤ c ∧ c ≤ 9223372036854775807 ∧ ∀ j, j < l.length → ∃ g off, a = some ⟨g, off, none⟩ ∧ w.cell? ⟨g, off + j, none⟩ = some (.int k (l.getD j 0))
section
variable {H : Type} {enc : TypeId × Value → H} {P : Program} {w : World}
theorem open_kind {k : IntKind} {t e : TypeId} {v : Value} {d : DataW H} {p : List MemPlace} {b0 : Nat} (ht : P.underlying t = some (.slice e)) (he : P.underlying e = some (.int k)) (hc : P.cellsOf e = 1)
    (hv : Value.okWide P w .any b0 t v) (h : DataW.Trod enc P w 0 (fun _ => true) true t v d p) : ∃ l, ArgK k w v l ∧ ∀ n ∈ l, (Lit.int k n).wf = true := by
  obtain ⟨a0, len, cap, rfl⟩ := okWide_slice ht hv
  obtain ⟨fuel, hf⟩ := h
  rcases open_ints ht he hc hf with ⟨hcs, hx⟩ | ⟨a, len', cap', zs, hcs, _, hl, hm, hz, hx, hcell, hws⟩
  · simp [Value.cells] at hcs
    obtain ⟨rfl, rfl, rfl⟩ := hcs
    exact ⟨[], ⟨none, 0, rfl, by simp, by decide, by simp⟩, by simp⟩
  · simp [Value.cells] at hcs
    obtain ⟨rfl, rfl, rfl⟩ := hcs
    simp only [if_true] at hz
    have hlen : (zs.take len).length = len := by rw [List.length_take]; omega
    refine ⟨zs.take len, ⟨some a, cap, by rw [hlen], by omega, by unfold maxLen at hm; exact hm, fun j hj => ?_⟩, fun n hn => hws n (List.mem_of_mem_take hn)⟩
    rw [hlen] at hj
    obtain ⟨b, off, spot⟩ := a
    have hspot : spot = none := by simpa [Addr.add] using World.cell?_spot (hcell 0 (by omega))
    subst hspot
    have hc := hcell j (by omega)
    rw [add_plain] at hc
    refine ⟨b, off, rfl, ?_⟩
    rw [hc]
    have e : (zs.take len).getD j 0 = zs.getD j 0 := by simp [List.getD, hj]
    rw [e]
theorem wf_u16 {n : Int} (h : (Lit.int .u16 n).wf = true) : 0 ≤ n ∧ n ≤ 65535 := by simpa [Lit.wf, IntKind.min, IntKind.max, IntKind.signed, IntKind.bits] using h
theorem wf_u8 {n : Int} (h : (Lit.int .u8 n).wf = true) : 0 ≤ n ∧ n ≤ 255 := by simpa [Lit.wf, IntKind.min, IntKind.max, IntKind.signed, IntKind.bits] using h
theorem wf_u32 {n : Int} (h : (Lit.int .u32 n).wf = true) : 0 ≤ n ∧ n ≤ 4294967295 := by simpa [Lit.wf, IntKind.min, IntKind.max, IntKind.signed, IntKind.bits] using h
theorem wf_i64 {n : Int} (h : (Lit.int .i64 n).wf = true) : -9223372036854775808 ≤ n ∧ n ≤ 9223372036854775807 := by simpa [Lit.wf, IntKind.min, IntKind.max, IntKind.signed, IntKind.bits] using h
end
section
variable {H : Type} {enc : TypeId × Value → H} {P : Program} {w : World} {base : Nat} {spare : Nat → Bool} {held : Bool}
theorem trodAll_2 {t0 t1 : TypeId} {args : Array Value} {ds : List (DataW H)} {ps : List MemPlace} (h : DataW.TrodAll enc P w base spare held [t0, t1] args.toList ds ps) :
    ∃ v0 v1 d0 d1 p0 p1, args = #[v0, v1] ∧ ds = [d0, d1] ∧ ps = p0 ++ p1 ∧ DataW.Trod enc P w base spare held t0 v0 d0 p0 ∧ DataW.Trod enc P w base spare held t1 v1 d1 p1 := by
  obtain ⟨v0, r0, d0, e0, p0, q0, hargs, rfl, rfl, h0, k0⟩ := trodAll_cons h
  obtain ⟨v1, r1, d1, e1, p1, q1, rfl, rfl, rfl, h1, k1⟩ := trodAll_cons k0
  obtain ⟨rfl, rfl, rfl⟩ := trodAll_nil k1
  exact ⟨v0, v1, d0, d1, p0, p1, by cases args; simp_all, rfl, by simp, h0, h1⟩
theorem trodAll_3 {t0 t1 t2 : TypeId} {args : Array Value} {ds : List (DataW H)} {ps : List MemPlace} (h : DataW.TrodAll enc P w base spare held [t0, t1, t2] args.toList ds ps) :
    ∃ v0 v1 v2 d0 d1 d2 p0 p1 p2, args = #[v0, v1, v2] ∧ ds = [d0, d1, d2] ∧ ps = p0 ++ (p1 ++ p2) ∧ DataW.Trod enc P w base spare held t0 v0 d0 p0 ∧ DataW.Trod enc P w base spare held t1 v1 d1 p1 ∧ DataW.Trod enc P w base spare held t2 v2 d2 p2 := by
  obtain ⟨v0, r0, d0, e0, p0, q0, hargs, rfl, rfl, h0, k0⟩ := trodAll_cons h
  obtain ⟨v1, r1, d1, e1, p1, q1, rfl, rfl, rfl, h1, k1⟩ := trodAll_cons k0
  obtain ⟨v2, r2, d2, e2, p2, q2, rfl, rfl, rfl, h2, k2⟩ := trodAll_cons k1
  obtain ⟨rfl, rfl, rfl⟩ := trodAll_nil k2
  exact ⟨v0, v1, v2, d0, d1, d2, p0, p1, p2, by cases args; simp_all, rfl, by simp, h0, h1, h2⟩
theorem trodAll_4 {t0 t1 t2 t3 : TypeId} {args : Array Value} {ds : List (DataW H)} {ps : List MemPlace} (h : DataW.TrodAll enc P w base spare held [t0, t1, t2, t3] args.toList ds ps) :
    ∃ v0 v1 v2 v3 d0 d1 d2 d3 p0 p1 p2 p3, args = #[v0, v1, v2, v3] ∧ ds = [d0, d1, d2, d3] ∧ ps = p0 ++ (p1 ++ (p2 ++ p3)) ∧ DataW.Trod enc P w base spare held t0 v0 d0 p0 ∧ DataW.Trod enc P w base spare held t1 v1 d1 p1 ∧ DataW.Trod enc P w base spare held t2 v2 d2 p2 ∧ DataW.Trod enc P w base spare held t3 v3 d3 p3 := by
  obtain ⟨v0, r0, d0, e0, p0, q0, hargs, rfl, rfl, h0, k0⟩ := trodAll_cons h
  obtain ⟨v1, r1, d1, e1, p1, q1, rfl, rfl, rfl, h1, k1⟩ := trodAll_cons k0
  obtain ⟨v2, r2, d2, e2, p2, q2, rfl, rfl, rfl, h2, k2⟩ := trodAll_cons k1
  obtain ⟨v3, r3, d3, e3, p3, q3, rfl, rfl, rfl, h3, k3⟩ := trodAll_cons k2
  obtain ⟨rfl, rfl, rfl⟩ := trodAll_nil k3
  exact ⟨v0, v1, v2, v3, d0, d1, d2, d3, p0, p1, p2, p3, by cases args; simp_all, rfl, by simp, h0, h1, h2, h3⟩
end
end Go.Proofs.YtkbchpaofmlhgaaGreatDoor

/- A pair that comes in, opened; PrimNumbers' walk at any base. -/
namespace Go.Proofs.YtkbchpaofmlhgaaGreatDoor
open Go.ChangeShapes Go.WideShapes Go.ChangeAt Go.RowKit

theorem open_pair {H : Type} {enc : TypeId × Value → H} {P : Program} {w : World} {t : TypeId} {f0 f1 : Field} {v : Value} {d : DataW H} {p : List MemPlace} {b0 : Nat} (ht : P.underlying t = some (.struct #[f0, f1])) (ct : P.cellsOf t = 2)
    (o0 : f0.offset = 0) (o1 : f1.offset = 1) (c0 : P.cellsOf f0.type = 1) (c1 : P.cellsOf f1.type = 1) (u0 : P.underlying f0.type = some (.int .i64)) (u1 : P.underlying f1.type = some (.int .i64))
    (hv : Value.okWide P w .any b0 t v) (h : DataW.Trod enc P w 0 (fun _ => true) true t v d p) : ∃ a b, v = .agg #[.int .i64 a, .int .i64 b] ∧ (Lit.int .i64 a).wf = true ∧ (Lit.int .i64 b).wf = true := by
  obtain ⟨cs, rfl, hs⟩ := okWide_struct ht hv
  obtain ⟨fuel, hf⟩ := h
  obtain ⟨xs, n, _, _, hl, hxl, hfl⟩ := DataW.trod_struct ht hf
  rw [ct] at hs
  obtain ⟨l⟩ := cs
  match l, hs, xs, hxl with
  | [x0, x1], _, [y0, y1], _ =>
    have g0 := hfl 0 f0 rfl
    have g1 := hfl 1 f1 rfl
    simp [Value.cells, o0, o1, c0, c1] at g0 g1
    obtain ⟨a, ha, _, wa⟩ := DataW.trod_int u0 g0
    obtain ⟨b, hb, _, wb⟩ := DataW.trod_int u1 g1
    injection ha with ha _
    injection hb with hb _
    subst ha hb
    exact ⟨a, b, rfl, wa, wb⟩
theorem pair_num (a b : Int) (ha : -9223372036854775808 ≤ a ∧ a ≤ 9223372036854775807) (hb : -9223372036854775808 ≤ b ∧ b ≤ 9223372036854775807) : ∃ N : Nat, N < 340282366920938463463374607431768211456 ∧ pl N = a ∧ ph N = b := by
  refine ⟨b64 b * 18446744073709551616 + b64 a, ?_, ?_, ?_⟩
  · have := b64_lt a
    have := b64_lt b
    omega
  · unfold pl cellOf b64
    split <;> omega
  · unfold ph cellOf b64
    split <;> omega
theorem PrimNumbers_walk (N : Nat) (base : Int) (w : World) (hN : N < 340282366920938463463374607431768211456) (hb : -9223372036854775808 ≤ base ∧ base ≤ 9223372036854775807) :
    Calls Tryz.prog 4 #[.agg (two N), .int .i64 base] w fun e w' => e = .returned (.bool true) ∧ Touch [] w w' := by
  have h6 : Cell6 base := by unfold Cell6; omega
  by_cases h1 : base < 2
  · exact PrimNumbers_low N base w hN h6 h1
  · by_cases h2 : 36 < base
    · exact PrimNumbers_high N base w hN h6 h2
    · obtain ⟨B, rfl⟩ : ∃ B : Nat, base = B := ⟨base.toNat, by omega⟩
      by_cases hsg : ph N < 0
      · exact PrimNumbers_okn N B w hN h6 (by omega) hsg
      · exact PrimNumbers_okp N B w hN h6 (by omega) hsg
end Go.Proofs.YtkbchpaofmlhgaaGreatDoor

/- PrimNumbers: its card, from its walk. -/
namespace Go.Proofs.YtkbchpaofmlhgaaGreatDoor
open Go.ChangeShapes Go.WideShapes Go.ChangeAt Go.RowKit
open Go.ChangeMaps (open_string shut_string)

set_option maxRecDepth 100000 in
theorem primNumbers_contract (H : Type) (enc : TypeId × Value → H) (W : World) (base : Nat) (args : Array Value) (ds gs : List (DataW H)) (before : List MemPlace)
    (hval : ∀ (j : Nat) t v, Tryz.f4.params[j]? = some t → args[j]? = some v → Value.okWide Tryz.prog W .any base t v)
    (hW : DataW.Whole enc Tryz.prog Tryz.f4.params.toList Rows.primNumbersSpec.vars false W args.toList ds gs before) :
    Calls Tryz.prog 4 args W fun e W' => ∃ v, e = .returned v ∧ Rows.primNumbersSpec.post enc Tryz.prog Tryz.f4 false true false false W args v W' := by
  have hW' := hW
  obtain ⟨p, q, hA0, hV, rfl, _, _⟩ := hW
  have hA : DataW.TrodAll enc Tryz.prog W 0 (fun _ => true) true Tryz.f4.params.toList args.toList ds p := hA0
  rw [Tryz.params4] at hA hval
  obtain ⟨v0, v1, d0, d1, p0, p1, rfl, rfl, rfl, h0, h1⟩ := trodAll_2 hA
  obtain ⟨lo0, hi0, rfl, wl0, wh0⟩ := open_pair Tryz.underlying38 (by kernel_rfl) rfl rfl (by kernel_rfl) (by kernel_rfl) Tryz.underlying36 Tryz.underlying36 (hval 0 38 v0 rfl rfl) h0
  obtain ⟨N0, hN0, rfl, rfl⟩ := pair_num lo0 hi0 (wf_i64 wl0) (wf_i64 wh0)
  obtain ⟨x1, rfl, rfl, rfl, wx1⟩ := open_int Tryz.underlying3 (hval 1 3 v1 rfl rfl) h1
  refine (PrimNumbers_walk N0 x1 W hN0 (wf_i64 wx1)).mono fun e W' ⟨he, hb⟩ => ?_
  subst he
  exact ⟨_, rfl, law_post laidOut (by rw [Tryz.params4]; exact of_decide_eq_true (by kernel_rfl)) rfl rfl Tryz.underlying4 hW' (fun l hl => by subst hl; rfl) (hb.below (Nat.le_refl _) (by simp))⟩

theorem primNumbers_laid_met (os : Os) : laidMet Tryz.prog Rows.primNumbersRow.laid ((laidWorld os).forCall (fun _ _ => 0) ⟨#[], #[.agg #[.int .i64 0, .int .i64 0], .int .i64 0], []⟩).memory :=
  laidMet_of_run' 8 (by kernel_rfl) (by kernel_rfl)
theorem primNumbers_reads (os : Os) {H : Type} (enc : TypeId × Value → H) : ∃ places, DataW.whole enc Tryz.prog ((laidWorld os).forCall (fun _ _ => 0) ⟨#[], #[.agg #[.int .i64 0, .int .i64 0], .int .i64 0], []⟩).memory Tryz.f4.params.toList Rows.primNumbersSpec.vars false (#[.agg #[.int .i64 0, .int .i64 0], .int .i64 0] : Array Value).toList 8 = some ([.agg [.lit (.int .i64 0), .lit (.int .i64 0)], .lit (.int .i64 0)], [], places) :=
  ⟨[], by kernel_rfl⟩

set_option maxRecDepth 100000 in
theorem primNumbers_lifted (os : Os) (started : os.Started) (H : Type) (enc : TypeId × Value → H) (F : Stop.Interp) :
    ReturnsInHanded {} Tryz.checked os 4 .any ((OpenSpec.ofChange Rows.primNumbersSpec).preRow enc Tryz.prog Tryz.f4 Rows.primNumbersRow.domain false Rows.primNumbersRow.laid) (((OpenSpec.ofChange Rows.primNumbersSpec).at F).post enc Tryz.prog Tryz.f4 false true false false) := by
  obtain ⟨places, hx⟩ := primNumbers_reads os enc
  refine returnsInHanded_of_row (C := Tryz.checked) (s := OpenSpec.ofChange Rows.primNumbersSpec) own started (by kernel_rfl) Tryz.func4
    (witness_row_at (enc := enc) (C := Tryz.checked) false (laidWorld os) #[.agg #[.int .i64 0, .int .i64 0], .int .i64 0] rfl (by kernel_rfl) (by kernel_rfl) (by kernel_rfl)
      (OpenSpec.preRow_of_cond 8 hx (by kernel_rfl) (fun k hk => by cases hk) (by kernel_rfl) (primNumbers_laid_met os))) ?_
  intro W base args ds gs before hval hW _ _ _ _ _ _
  exact primNumbers_contract H enc W base args ds gs before hval hW

theorem primNumbers_said : Rows.PrimNumbersSaid :=
  OpenClaim.holds_of_cond 4 Tryz.f4 rfl rfl rfl rfl rfl rfl rfl ⟨rfl, rfl, rfl, rfl, rfl⟩ rfl rfl rfl rfl rfl (by kernel_rfl) Tryz.func4 (by kernel_rfl)
    (of_decide_eq_true (by kernel_rfl)) (by unfold Func.isWrapper; first | (rw [if_pos (by decide +kernel)]; kernel_rfl) | (rw [if_neg (by decide +kernel)]; exact ⟨rfl, rfl⟩))
    (fun os started H enc _ F => by rw [OpenClaim.pre_eq_preRow]; exact primNumbers_lifted os started H enc F)

theorem primNumbers_plain (f : FuncId) (fn : Func) (hf : Tryz.pinned.checked.prog.funcNamed "rhyton/rhytonlaw13.PrimNumbers" = some f) (hfn : Tryz.pinned.checked.prog.funcs[f]? = some fn) :
    false = Tryz.pinned.checked.prog.looks [] ∧ ∀ (j : Nat) t, fn.params[j]? = some t → Tryz.pinned.checked.prog.wantsStandIn t = false := by
  obtain rfl : f = 4 := Option.some.inj ((show Tryz.prog.funcNamed "rhyton/rhytonlaw13.PrimNumbers" = some 4 by kernel_rfl).symm.trans hf) |>.symm
  obtain rfl : fn = Tryz.f4 := (Option.some.inj (Tryz.func4.symm.trans hfn)).symm
  refine ⟨by kernel_rfl, fun j t ht => ?_⟩
  rw [Tryz.params4] at ht
  have hm := Array.mem_of_getElem? ht
  simp only [List.mem_toArray, List.mem_cons, List.not_mem_nil, or_false] at hm
  rcases hm with rfl | rfl
  · exact (show Tryz.prog.wantsStandIn 38 = false by kernel_rfl)
  · exact (show Tryz.prog.wantsStandIn 3 = false by kernel_rfl)

theorem PrimNumbers_card : Rows.PrimNumbersCardSaid :=
  Claim7.holds_tied_plain_at .later [] _ _ _ _ primNumbers_said (fun _ h => by cases h) (by kernel_rfl) (fun _ h => by cases h) primNumbers_row_tie rfl ⟨rfl, rfl⟩ (by kernel_rfl) rfl primNumbers_plain (by kernel_rfl)

#print axioms PrimNumbers_card
end Go.Proofs.YtkbchpaofmlhgaaGreatDoor
