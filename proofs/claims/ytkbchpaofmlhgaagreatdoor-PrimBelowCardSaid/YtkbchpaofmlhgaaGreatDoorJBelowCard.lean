import Derived.Test.YtkbchpaofmlhgaaGreatDoorWorld
import Derived.ProofKit
import Derived.SizedLaws
import Derived.Test.YtkbchpaofmlhgaaGreatDoorCards
import Derived.Test.YtkbchpaofmlhgaaGreatDoorTie
import Derived.WalkKit
import Derived.OpenShut
import Derived.Deep.DeepHandedRow
import Derived.Lib.LaidTab
import Derived.ChangeSlices
import Derived.Test.YtkbchpaofmlhgaaGreatDoorJErrorsW
/- What every law's row asks behind its walk: the call returned true, and below the heap's size nothing has turned. Arguments that are slices of strings. -/
namespace Go.Proofs.YtkbchpaofmlhgaaGreatDoor
open Go.ChangeShapes Go.WideShapes Go.ChangeAt Go.RowKit

theorem law_trod {H : Type} {enc : TypeId × Value → H} {P : Program} (hl : laidOutB P = true) {W W' : World} (hb : Below W.heap.size W W') : ∀ (ts : List TypeId) (vs : List Value) (ds : List (DataW H)) (ps : List MemPlace),
    (∀ t ∈ ts, P.readableRec t = true ∧ t < P.types.size) → DataW.TrodAll enc P W 0 (fun _ => true) true ts vs ds ps → (∀ x ∈ ps, x.block < W.heap.size) →
    DataW.TrodAll enc P W' 0 (fun b => decide (b < W.heap.size)) true ts vs ds ps
  | [], vs, ds, ps, _, h, _ => by
    obtain ⟨rfl, rfl, rfl⟩ := trodAll_nil h
    exact trodAll_mk0
  | t :: ts, vs, ds, ps, ht, h, hlt => by
    obtain ⟨v, vs', d, ds', p, q, rfl, rfl, rfl, h1, h2⟩ := trodAll_cons h
    refine ⟨p, q, Below.trod hl (ht t (by simp)).1 (ht t (by simp)).2 h1 hb fun x hx => hlt x (by simp [hx]), ?_, rfl⟩
    exact law_trod hl hb ts vs' ds' q (fun t' h' => ht t' (by simp [h'])) h2 fun x hx => hlt x (by simp [hx])

theorem law_post {H : Type} {enc : TypeId × Value → H} {P : Program} {f : Func} {s : ChangeSpec} {W W' : World} {args : Array Value} {ds gs : List (DataW H)} {before : List MemPlace} {tb : TypeId}
    (hl : laidOutB P = true) (hts : ∀ t ∈ f.params.toList, P.readableRec t = true ∧ t < P.types.size) (hv : s.vars = []) (hrt : f.resultTypes = #[tb]) (htb : P.underlying tb = some .bool)
    (hW : DataW.Whole enc P f.params.toList s.vars false W args.toList ds gs before) (hfn : ∀ l, l = ds → s.fn H (l ++ []) = { results := [.lit (.bool true)], args := l }) (hb : Below W.heap.size W W') :
    s.post enc P f false true false false W args (.bool true) W' := by
  have hW' := hW
  obtain ⟨p, q, hA, hV, rfl, _, _⟩ := hW
  rw [hv] at hV
  obtain ⟨rfl, rfl⟩ : gs = [] ∧ q = [] := by
    cases gs with
    | nil => exact ⟨rfl, hV⟩
    | cons x r => cases hV
  have hlt : ∀ x ∈ p, x.block < W.heap.size := fun x hx => hW'.lt x (by simp [hx])
  have e := hfn ds rfl
  refine ⟨ds, [], _, [] ++ [], p, [], hW', ?_, ?_, ?_, hb.frame _, fun h => by cases h⟩
  · rw [e, hrt]; exact trodAll_mk1 (shut_bool htb true)
  · rw [e]; exact law_trod hl hb _ _ _ _ hts hA hlt
  · rw [e, hv]; rfl

/-- a slice of strings, nil let in: n texts -/
structure Strs (w : World) (v : Value) (ss : List ByteArray) : Prop where
  form : (v = .slice none 0 0 ∧ ss = []) ∨ (∃ a cap, v = .slice (some a) 0 cap ∧ cap ≤ 140737488355328 ∧ ss = []) ∨ ∃ b off cap, v = .slice (some ⟨b, off, none⟩) ss.length cap ∧ b < w.heap.size ∧ ss.length ≤ cap ∧ cap ≤ 140737488355328 ∧ ∀ i, i < ss.length → w.cell? ⟨b, off + i, none⟩ = some (.string (ss.getD i .empty))
  size : ∀ s, s ∈ ss → s.size ≤ maxLen

theorem open_strs {H : Type} {enc : TypeId × Value → H} {P : Program} {w : World} {t e : TypeId} {v : Value} {d : DataW H} {p : List MemPlace} {b0 : Nat} (ht : P.underlying t = some (.slice e)) (he : P.underlying e = some .string) (hc : P.cellsOf e = 1)
    (hv : Value.okWide P w .any b0 t v) (h : DataW.Trod enc P w 0 (fun _ => true) true t v d p) (hlt : ∀ x ∈ p, x.block < w.heap.size)
    (hsz : ∀ elems spare, d = .slice elems spare → elems.length + spare.length ≤ 140737488355328) : ∃ ss, Strs w v ss := by
  obtain ⟨a0, len, cap, rfl⟩ := okWide_slice ht hv
  obtain ⟨fuel, hf⟩ := h
  rcases open_strings ht he hc hf with ⟨hcs, hx⟩ | ⟨a, len', cap', ss, hcs, _, hl, hm, hz, hx, hcell, hws⟩
  · simp [Value.cells] at hcs
    obtain ⟨rfl, rfl, rfl⟩ := hcs
    exact ⟨[], .inl ⟨rfl, rfl⟩, by simp⟩
  · simp [Value.cells] at hcs
    obtain ⟨rfl, rfl, rfl⟩ := hcs
    simp only [Prod.mk.injEq] at hx
    obtain ⟨rfl, rfl⟩ := hx
    simp only [if_true] at hz
    have hcap := hsz _ _ rfl
    simp only [strs, List.length_map, List.length_take, List.length_drop] at hcap
    refine ⟨ss.take len, ?_, fun s hs => hws s (List.mem_of_mem_take hs)⟩
    by_cases h0 : len = 0
    · subst h0
      exact .inr (.inl ⟨a, cap, rfl, by omega, by simp⟩)
    · obtain ⟨b, off, spot⟩ := a
      have hspot : spot = none := by simpa [Addr.add] using World.cell?_spot (hcell 0 (by omega))
      subst hspot
      have hlen : (ss.take len).length = len := by rw [List.length_take]; omega
      rw [hlen]
      refine .inr (.inr ⟨b, off, cap, rfl, hlt (.cell b off) (MemPlace.mem_row.2 ⟨0, by omega, by simp⟩), hl, by omega, fun i hi => ?_⟩)
      have hc := hcell i (by omega)
      rw [add_plain] at hc
      rw [hc]
      have e : (ss.take len).getD i .empty = ss.getD i .empty := by simp [List.getD, hi]
      rw [e]

end Go.Proofs.YtkbchpaofmlhgaaGreatDoor

/- Closed facts of the program that every row's proof asks. -/
namespace Go.Proofs.YtkbchpaofmlhgaaGreatDoor
theorem laidOut : laidOutB Tryz.prog = true := by kernel_rfl
theorem cellsStr : Tryz.prog.cellsOf 9 = 1 := by kernel_rfl
theorem bytesStr : Tryz.prog.bytesOf 9 = 16 := by kernel_rfl
end Go.Proofs.YtkbchpaofmlhgaaGreatDoor

/- What the rows of the Prim door list: three tables; a world for the witness. -/
namespace Go.Proofs.YtkbchpaofmlhgaaGreatDoor
open Go.ChangeShapes Go.WideShapes Go.ChangeAt Go.RowKit

theorem own : ownKnob Tryz.prog.godebug = none := by kernel_rfl
def lit0 : DataW Unit → List Value
  | .lit (.int k n) => [.int k n]
  | _ => []
def lit1 : DataW Unit → List Value
  | .agg xs => xs.flatMap lit0
  | _ => []
def putCells (vs : Array Value) : Obj → Obj
  | .cells _ t frozen => .cells vs t frozen
  | o => o
/-- A WORLD FOR THE WITNESS: the settled one, the tables holding what their initialisers lay. -/
noncomputable def laidWorld (os : Os) : World :=
  { World.holding Tryz.prog os ⟨#[], #[], []⟩ with heap := (((World.holding Tryz.prog os ⟨#[], #[], []⟩).heap.modify 6 (putCells (lit1 Rows.laid_math_bits_deBruijn32tab).toArray)).modify 3 (putCells (lit1 Rows.laid_math_bits_deBruijn64tab).toArray)).modify 4 (putCells (lit1 Rows.laid_internal_strconv_uint64pow10).toArray) }
end Go.Proofs.YtkbchpaofmlhgaaGreatDoor

/- Rows of numbers that come in, opened; arguments, one by one. -/
namespace Go.Proofs.YtkbchpaofmlhgaaGreatDoor
open Go.ChangeShapes Go.WideShapes Go.ChangeAt Go.RowKit

/-- a row of numbers that came in -/
def ArgK (k : IntKind) (w : World) (v : Value) (l : List Int) : Prop :=
  ∃ a c, v = .slice a l.length c ∧ l.length ≤ c ∧ c ≤ 9223372036854775807 ∧ ∀ j, j < l.length → ∃ g off, a = some ⟨g, off, none⟩ ∧ w.cell? ⟨g, off + j, none⟩ = some (.int k (l.getD j 0))
section
variable {H : Type} {enc : TypeId × Value → H} {P : Program} {w : World}
theorem open_kind {k : IntKind} {t e : TypeId} {v : Value} {d : DataW H} {p : List MemPlace} {b0 : Nat} (ht : P.underlying t = some (.slice e)) (he : P.underlying e = some (.int k)) (hc : P.cellsOf e = 1)
    (hv : Value.okWide P w .any b0 t v) (h : DataW.Trod enc P w 0 (fun _ => true) true t v d p) : ∃ l, ArgK k w v l ∧ ∀ n ∈ l, (Lit.int k n).wf = true := by
  obtain ⟨a0, len, cap, rfl⟩ := okWide_slice ht hv
  obtain ⟨fuel, hf⟩ := h
  rcases open_ints ht he hc hf with ⟨hcs, hx⟩ | ⟨a, len', cap', zs, hcs, _, hl, hm, hz, hx, hcell, hws⟩
  · simp [Value.cells] at hcs
    obtain ⟨rfl, rfl, rfl⟩ := hcs
    exact ⟨[], ⟨none, 0, rfl, by simp, by decide, by simp⟩, by simp⟩
  · simp [Value.cells] at hcs
    obtain ⟨rfl, rfl, rfl⟩ := hcs
    simp only [if_true] at hz
    have hlen : (zs.take len).length = len := by rw [List.length_take]; omega
    refine ⟨zs.take len, ⟨some a, cap, by rw [hlen], by omega, by unfold maxLen at hm; exact hm, fun j hj => ?_⟩, fun n hn => hws n (List.mem_of_mem_take hn)⟩
    rw [hlen] at hj
    obtain ⟨b, off, spot⟩ := a
    have hspot : spot = none := by simpa [Addr.add] using World.cell?_spot (hcell 0 (by omega))
    subst hspot
    have hc := hcell j (by omega)
    rw [add_plain] at hc
    refine ⟨b, off, rfl, ?_⟩
    rw [hc]
    have e : (zs.take len).getD j 0 = zs.getD j 0 := by simp [List.getD, hj]
    rw [e]
theorem wf_u16 {n : Int} (h : (Lit.int .u16 n).wf = true) : 0 ≤ n ∧ n ≤ 65535 := by simpa [Lit.wf, IntKind.min, IntKind.max, IntKind.signed, IntKind.bits] using h
theorem wf_u8 {n : Int} (h : (Lit.int .u8 n).wf = true) : 0 ≤ n ∧ n ≤ 255 := by simpa [Lit.wf, IntKind.min, IntKind.max, IntKind.signed, IntKind.bits] using h
theorem wf_u32 {n : Int} (h : (Lit.int .u32 n).wf = true) : 0 ≤ n ∧ n ≤ 4294967295 := by simpa [Lit.wf, IntKind.min, IntKind.max, IntKind.signed, IntKind.bits] using h
theorem wf_i64 {n : Int} (h : (Lit.int .i64 n).wf = true) : -9223372036854775808 ≤ n ∧ n ≤ 9223372036854775807 := by simpa [Lit.wf, IntKind.min, IntKind.max, IntKind.signed, IntKind.bits] using h
end
section
variable {H : Type} {enc : TypeId × Value → H} {P : Program} {w : World} {base : Nat} {spare : Nat → Bool} {held : Bool}
theorem trodAll_2 {t0 t1 : TypeId} {args : Array Value} {ds : List (DataW H)} {ps : List MemPlace} (h : DataW.TrodAll enc P w base spare held [t0, t1] args.toList ds ps) :
    ∃ v0 v1 d0 d1 p0 p1, args = #[v0, v1] ∧ ds = [d0, d1] ∧ ps = p0 ++ p1 ∧ DataW.Trod enc P w base spare held t0 v0 d0 p0 ∧ DataW.Trod enc P w base spare held t1 v1 d1 p1 := by
  obtain ⟨v0, r0, d0, e0, p0, q0, hargs, rfl, rfl, h0, k0⟩ := trodAll_cons h
  obtain ⟨v1, r1, d1, e1, p1, q1, rfl, rfl, rfl, h1, k1⟩ := trodAll_cons k0
  obtain ⟨rfl, rfl, rfl⟩ := trodAll_nil k1
  exact ⟨v0, v1, d0, d1, p0, p1, by cases args; simp_all, rfl, by simp, h0, h1⟩
theorem trodAll_3 {t0 t1 t2 : TypeId} {args : Array Value} {ds : List (DataW H)} {ps : List MemPlace} (h : DataW.TrodAll enc P w base spare held [t0, t1, t2] args.toList ds ps) :
    ∃ v0 v1 v2 d0 d1 d2 p0 p1 p2, args = #[v0, v1, v2] ∧ ds = [d0, d1, d2] ∧ ps = p0 ++ (p1 ++ p2) ∧ DataW.Trod enc P w base spare held t0 v0 d0 p0 ∧ DataW.Trod enc P w base spare held t1 v1 d1 p1 ∧ DataW.Trod enc P w base spare held t2 v2 d2 p2 := by
  obtain ⟨v0, r0, d0, e0, p0, q0, hargs, rfl, rfl, h0, k0⟩ := trodAll_cons h
  obtain ⟨v1, r1, d1, e1, p1, q1, rfl, rfl, rfl, h1, k1⟩ := trodAll_cons k0
  obtain ⟨v2, r2, d2, e2, p2, q2, rfl, rfl, rfl, h2, k2⟩ := trodAll_cons k1
  obtain ⟨rfl, rfl, rfl⟩ := trodAll_nil k2
  exact ⟨v0, v1, v2, d0, d1, d2, p0, p1, p2, by cases args; simp_all, rfl, by simp, h0, h1, h2⟩
theorem trodAll_4 {t0 t1 t2 t3 : TypeId} {args : Array Value} {ds : List (DataW H)} {ps : List MemPlace} (h : DataW.TrodAll enc P w base spare held [t0, t1, t2, t3] args.toList ds ps) :
    ∃ v0 v1 v2 v3 d0 d1 d2 d3 p0 p1 p2 p3, args = #[v0, v1, v2, v3] ∧ ds = [d0, d1, d2, d3] ∧ ps = p0 ++ (p1 ++ (p2 ++ p3)) ∧ DataW.Trod enc P w base spare held t0 v0 d0 p0 ∧ DataW.Trod enc P w base spare held t1 v1 d1 p1 ∧ DataW.Trod enc P w base spare held t2 v2 d2 p2 ∧ DataW.Trod enc P w base spare held t3 v3 d3 p3 := by
  obtain ⟨v0, r0, d0, e0, p0, q0, hargs, rfl, rfl, h0, k0⟩ := trodAll_cons h
  obtain ⟨v1, r1, d1, e1, p1, q1, rfl, rfl, rfl, h1, k1⟩ := trodAll_cons k0
  obtain ⟨v2, r2, d2, e2, p2, q2, rfl, rfl, rfl, h2, k2⟩ := trodAll_cons k1
  obtain ⟨v3, r3, d3, e3, p3, q3, rfl, rfl, rfl, h3, k3⟩ := trodAll_cons k2
  obtain ⟨rfl, rfl, rfl⟩ := trodAll_nil k3
  exact ⟨v0, v1, v2, v3, d0, d1, d2, d3, p0, p1, p2, p3, by cases args; simp_all, rfl, by simp, h0, h1, h2, h3⟩
end
end Go.Proofs.YtkbchpaofmlhgaaGreatDoor

/- What a row of the Prim door lists, as the walks take it; a row of cells that comes in. -/
namespace Go.Proofs.YtkbchpaofmlhgaaGreatDoor
open Go.ChangeShapes Go.WideShapes Go.ChangeAt Go.RowKit

theorem g64 : Tryz.prog.globalNamed "math/bits.deBruijn64tab" = some 3 := by kernel_rfl
theorem t64 : (Tryz.prog.globals[3]?).map (·.type) = some 203 := by kernel_rfl
theorem c64 : Tryz.prog.cellsOf 203 = 64 := by kernel_rfl
theorem gPow : Tryz.prog.globalNamed "internal/strconv.uint64pow10" = some 4 := by kernel_rfl
theorem tPow : (Tryz.prog.globals[4]?).map (·.type) = some 213 := by kernel_rfl
theorem cPow : Tryz.prog.cellsOf 213 = 20 := by kernel_rfl
theorem cU8 : Tryz.prog.cellsOf 5 = 1 := by kernel_rfl
theorem cU64 : Tryz.prog.cellsOf 104 = 1 := by kernel_rfl
theorem laid_tail {P : Program} {x : String × DataW Unit} {l : List (String × DataW Unit)} {w : World} (h : laidMet P (x :: l) w) : laidMet P l w := by
  obtain ⟨n, d⟩ := x
  obtain ⟨ps, ⟨g, t, cs, fuel, p, q, e1, e2, e3, e4, hr, rfl⟩, hnd, hrows⟩ := h
  exact ⟨q, hr, (List.nodup_append.1 hnd).2.1, fun b off hp => hrows b off (List.mem_append_right _ hp)⟩
/-- WHAT A ROW's LIST GIVES -/
theorem tabs {W : World} {rest : List (String × DataW Unit)} (h : laidMet Tryz.prog (("math/bits.deBruijn32tab", Rows.laid_math_bits_deBruijn32tab) :: ("math/bits.deBruijn64tab", Rows.laid_math_bits_deBruijn64tab) :: ("internal/strconv.uint64pow10", Rows.laid_internal_strconv_uint64pow10) :: rest) W) : Tabs W := by
  have h2 := laid_tail h
  have h3 := laid_tail h2
  have e64 : Lib.TabIs Tryz.prog W "math/bits.deBruijn64tab" .u8 (Lib.deBruijn64tab.map Int.ofNat) := Lib.tabIs_of_head g64 t64 (n := 64) (e := 5) (by kernel_rfl) (by kernel_rfl) cU8 c64 h2
  refine ⟨fun j hj => ?_, Lib.tabIs_of_head gPow tPow (n := 20) (e := 104) (by kernel_rfl) (by kernel_rfl) cU64 cPow h3⟩
  have := e64.cell g64 j (by rw [List.length_map]; exact hj)
  rw [this]
  congr 2
  rw [List.getD_eq_getElem?_getD, List.getElem?_map, List.getD_eq_getElem?_getD]
  cases Lib.deBruijn64tab[j]? <;> rfl
section
variable {H : Type} {enc : TypeId × Value → H} {P : Program} {w : World}
theorem open_rowC {t e : TypeId} {v : Value} {d : DataW H} {p : List MemPlace} {b0 : Nat} (ht : P.underlying t = some (.slice e)) (he : P.underlying e = some (.int .i64)) (hc : P.cellsOf e = 1)
    (hv : Value.okWide P w .any b0 t v) (h : DataW.Trod enc P w 0 (fun _ => true) true t v d p) : ∃ l, ArgC w v l ∧ ∀ n ∈ l, (Lit.int .i64 n).wf = true := by
  obtain ⟨a0, len, cap, rfl⟩ := okWide_slice ht hv
  obtain ⟨fuel, hf⟩ := h
  rcases open_ints ht he hc hf with ⟨hcs, hx⟩ | ⟨a, len', cap', zs, hcs, _, hl, hm, hz, hx, hcell, hws⟩
  · simp [Value.cells] at hcs
    obtain ⟨rfl, rfl, rfl⟩ := hcs
    exact ⟨[], .inl ⟨rfl, rfl⟩, by simp⟩
  · simp [Value.cells] at hcs
    obtain ⟨rfl, rfl, rfl⟩ := hcs
    simp only [if_true] at hz
    have hlen : (zs.take len).length = len := by rw [List.length_take]; omega
    refine ⟨zs.take len, .inr ⟨a, cap, by rw [hlen], by omega, by unfold maxLen at hm; exact hm, fun j u hj => ?_⟩, fun n hn => hws n (List.mem_of_mem_take hn)⟩
    unfold cells at hj
    rw [List.getElem?_map] at hj
    obtain ⟨x, hx1, rfl⟩ := Option.map_eq_some_iff.1 hj
    have hjl : j < len := by
      rw [← hlen]
      rcases Nat.lt_or_ge j (zs.take len).length with h' | h'
      · exact h'
      · rw [List.getElem?_eq_none h'] at hx1; cases hx1
    rw [hcell j (by omega)]
    rw [List.getElem?_take, if_pos hjl] at hx1
    rw [List.getD_eq_getElem?_getD, hx1]
    rfl
end
end Go.Proofs.YtkbchpaofmlhgaaGreatDoor

/- PrimBelow: the law's walk. -/
namespace Go.Proofs.YtkbchpaofmlhgaaGreatDoor
open Go.RowKit

theorem CellsAt.rowR {w : World} {v : Value} {l : List Int} (h : CellsAt w v l) : RowR w v l := by
  rcases h with ⟨rfl, rfl⟩ | ⟨ad, c, rfl, h⟩
  · exact ⟨none, 0, rfl, fun i hi => by simp at hi⟩
  · refine ⟨some ad, c, rfl, fun i hi => ?_⟩
    have hc := h i _ (cells_get l i hi)
    obtain ⟨g, off, spot⟩ := ad
    have hs : spot = none := by simpa [Addr.add] using World.cell?_spot (h 0 _ (cells_get l 0 (by omega)))
    subst hs
    rw [add_off] at hc
    exact ⟨g, off, rfl, hc⟩
theorem ArgC.open50 {w : World} {v : Value} {l : List Int} (h : ArgC w v l) : ∃ (a : Option Addr) (n c k : Nat), v = .slice a n c ∧ min (n : Int) 50 = (k : Int) ∧ k ≤ 50 ∧ k ≤ c ∧ (l.take 50).length = k ∧ ∀ w', Touch [] w w' → CellsAt w' (.slice a k c) (l.take 50) := by
  rcases h with ⟨rfl, rfl⟩ | ⟨ad, c, rfl, h1, _, h2⟩
  · exact ⟨none, 0, 0, 0, rfl, rfl, by omega, by omega, rfl, fun w' _ => .inl ⟨rfl, rfl⟩⟩
  · refine ⟨some ad, l.length, c, min l.length 50, rfl, by omega, Nat.min_le_right _ _, by omega, by rw [List.length_take, Nat.min_comm], fun w' t => ?_⟩
    have := ArgC.take h2 t (min l.length 50) c (Nat.min_le_left _ _)
    rw [show l.take (min l.length 50) = l.take 50 from by
      rcases Nat.le_total l.length 50 with h | h
      · rw [Nat.min_eq_left h, List.take_of_length_le (Nat.le_refl _), List.take_of_length_le h]
      · rw [Nat.min_eq_right h]] at this
    exact this
theorem StateAt.touch {w w' : World} {s : Nat} {F G : List Nat} {S : PS} (h : StateAt w s F S) (t : Touch G w w') (hn : ∀ x ∈ F, x ∉ G) : StateAt w' s F S := by
  obtain ⟨FS, ov, mv, hp, rfl⟩ := h
  exact ⟨FS, ov, mv, hp.quiet t hn, rfl⟩

/-- TWO STATES, apart, both made behind a world -/
def Twin (w0 w : World) (s : Nat) (S : PS) (t : Nat) (T : PS) : Prop := ∃ F G, StateAt w s F S ∧ StateAt w t G T ∧ (∀ x ∈ F, w0.heap.size ≤ x) ∧ (∀ x ∈ G, w0.heap.size ≤ x) ∧ (∀ x ∈ F, x ∉ G) ∧ Touch [] w0 w
section
variable {w0 w w' : World} {s t : Nat} {S T S' T' : PS} {f : FuncId} {args : Array Value} {v : Value}
theorem Twin.left (h : Twin w0 w s S t T) : Live w0 w s S := by
  obtain ⟨F, G, h1, _, h3, _, _, h6⟩ := h
  exact ⟨F, h1, h3, h6⟩
theorem Twin.right (h : Twin w0 w s S t T) : Live w0 w t T := by
  obtain ⟨F, G, _, h2, _, h4, _, h6⟩ := h
  exact ⟨G, h2, h4, h6⟩
theorem Twin.quiet (h : Twin w0 w s S t T) (q : Touch [] w w') : Twin w0 w' s S t T := by
  obtain ⟨F, G, h1, h2, h3, h4, h5, h6⟩ := h
  exact ⟨F, G, h1.quiet q, h2.quiet q, h3, h4, h5, h6.trans q (by simp)⟩
theorem Twin.swap (h : Twin w0 w s S t T) : Twin w0 w t T s S := by
  obtain ⟨F, G, h1, h2, h3, h4, h5, h6⟩ := h
  exact ⟨G, F, h2, h1, h4, h3, fun x hx hf => h5 x hf hx, h6⟩
/-- what is done to one leaves the other -/
theorem Twin.callL (h : Twin w0 w s S t T) (hc : ∀ F, StateAt w s F S → (∀ x ∈ F, w0.heap.size ≤ x) → Touch [] w0 w → Calls Tryz.prog f args w fun e w' => ∃ F', e = .returned v ∧ StateAt w' s F' S' ∧ Touch F w w' ∧ Sub w F F') :
    Calls Tryz.prog f args w fun e w' => e = .returned v ∧ Twin w0 w' s S' t T := by
  obtain ⟨F, G, h1, h2, h3, h4, h5, h6⟩ := h
  refine (hc F h1 h3 h6).mono ?_
  rintro _ w' ⟨F', rfl, k1, k2, k3⟩
  exact ⟨rfl, F', G, k1, h2.touch k2 (fun x hx hf => h5 x hf hx), Sub.new h3 k3 h6.size, h4, fun x hx hg => (k3 x hx).elim (fun hf => h5 x hf hg) (fun hl => by have := h2.lt x hg; omega), Sub.touch h3 h6 k2⟩
theorem Twin.callR (h : Twin w0 w s S t T) (hc : ∀ F, StateAt w t F T → (∀ x ∈ F, w0.heap.size ≤ x) → Touch [] w0 w → Calls Tryz.prog f args w fun e w' => ∃ F', e = .returned v ∧ StateAt w' t F' T' ∧ Touch F w w' ∧ Sub w F F') :
    Calls Tryz.prog f args w fun e w' => e = .returned v ∧ Twin w0 w' s S t T' :=
  (h.swap.callL hc).mono fun _ _ ⟨e, k⟩ => ⟨e, k.swap⟩
theorem st_put {F : List Nat} (h : StateAt w s F S) (cv : Value) (M : List Int) (hc : CellsAt w cv M) (hl : S.st.length + M.length ≤ 128) : Calls Tryz.prog 13 #[.pointer (some ⟨S.k, 0, none⟩), cv] w fun e w' => ∃ F', e = .returned (.int .i64 0) ∧ StateAt w' s F' { S with st := S.st ++ M } ∧ Touch F w w' ∧ Sub w F F' := by
  obtain ⟨FS, ov, mv, hp, rfl⟩ := h
  refine (Put_row w S.k FS S.st hp.stk cv M hc hl).mono ?_
  rintro _ w' ⟨F', rfl, j1, j2, j3⟩
  exact ⟨_, rfl, ⟨F', ov, mv, hp.stack j1 j2, rfl⟩, j2.mono (fun g hg => .inl (foot_has_stack g hg)), foot_stack j3⟩
theorem twin_new (h : Live w0 w s S) : Calls Tryz.prog 11 #[.int .i64 1024] w fun e w' => ∃ t T, e = .returned (.tuple #[.pointer (some ⟨t, 0, none⟩), .int .i64 0]) ∧ Twin w0 w' s S t T ∧ T.ok ∧ T.n = 1024 ∧ T.st = [] ∧ T.bs = bs0 ∧ T.here = 8 ∧ T.out = [] ∧ T.made = [] := by
  refine (New1024 w).mono ?_
  rintro _ w' ⟨t, G, T, rfl, k1, k2, k3, k4⟩
  obtain ⟨F, h1, h2, h3⟩ := h
  exact ⟨t, T, rfl, ⟨F, G, h1.quiet k3, k1, h2, fun x hx => Nat.le_trans h3.size (k2 x hx), fun x hx hg => by have := h1.lt x hx; have := k2 x hg; omega, h3.trans k3 (by simp)⟩, k4⟩
end
theorem doP_len {n : Nat} {act : Act} {S : PS} (h : S.st.length ≤ 128) : (doP n act S).2.st.length ≤ 128 := by
  unfold doP
  split
  · exact h
  · simp only []
    split
    · split
      · rename_i h1
        show (_ ++ _ : List Int).length ≤ 128
        rw [List.length_append]
        exact h1
      · exact h
    · exact h
theorem farF_len (op : Int) (L : List Int) (h : L.length ≤ 128) : (farF op L).2.length ≤ 128 := by
  unfold farF
  split
  · exact h
  · rename_i h0
    simp only []
    split
    · simp only [List.length_append, List.length_take, List.length_cons, List.length_nil]; omega
    · simp only [List.length_append, List.length_take, List.length_drop, List.length_cons, List.length_nil]; omega
theorem doF_len (op : Int) (L : List Int) (h : L.length ≤ 128) : (doF op L).2.length ≤ 128 := by
  unfold doF
  split
  · exact farF_len op L h
  · split
    · split
      · exact h
      · simp only [List.length_append, List.length_cons, List.length_nil]; omega
    · simp only []
      split
      · exact h
      · split
        · exact h
        · split
          · exact h
          · simp only [List.length_append, List.length_take, List.length_map]; omega
/-- of two states that hold the same but for cells below: as do_below, and how deep the stacks are then -/
theorem do_below2 {w0 : World} {S T : PS} {x y : List Int} (hT : Tabs w0) (hS : S.st = x ++ y) (hy : T.st = y) (hA : Alike S T) (h1 : Fit S) (h2 : Fit T) (hl : x.length + y.length ≤ 120) (op : Int) (h42 : op ≠ 42) (h99 : op ≠ 99) :
    ∃ r S' q T', (∀ w s F, StateAt w s F S → (∀ x ∈ F, w0.heap.size ≤ x) → Touch [] w0 w → Goes2 w s F op r S') ∧ (∀ w s F, StateAt w s F T → (∀ x ∈ F, w0.heap.size ≤ x) → Touch [] w0 w → Goes2 w s F op q T') ∧
      (q ≠ -4 → r = q ∧ S'.st = x ++ T'.st ∧ S'.out = T'.out) ∧ S'.st.length ≤ 128 ∧ T'.st.length ≤ 128 := by
  by_cases hk : knownOp op
  · by_cases hs : 28 ≤ op ∧ op ≤ 42
    · have key : ∀ (U : PS), Fit U → ∀ w s F, StateAt w s F U → (∀ x ∈ F, w0.heap.size ≤ x) → Touch [] w0 w → Goes2 w s F op (doF op U.st).1 { U with st := (doF op U.st).2 } := by
        intro U hU w s F hSt _ _
        refine (st_doS hSt hs.1 hs.2 fun FS hk => Do_any w U.k FS U.st hk op hs.1 hs.2 hU.len hU.cells).mono ?_
        rintro _ w' ⟨rfl, F', h1, h2, h3⟩
        exact ⟨F', rfl, h1, h2, h3⟩
      refine ⟨_, _, _, _, key S h1, key T h2, fun hq => ?_, doF_len op _ h1.len, doF_len op _ h2.len⟩
      have hb := doF_below op x y hs.1 (by omega) (by rw [← hy]; exact h2.cells) hl (by rw [← hy]; exact hq)
      rw [hS, hy, hb]
      exact ⟨rfl, rfl, hA.out⟩
    · obtain ⟨n, pre, act, hn, hf, hL, hp, hD⟩ := op_any w0 hT op (by unfold knownOp at hk; omega)
      exact ⟨_, _, _, _, fun w s F hSt hF ht => goes_op hp hD hSt hF ht h1, fun w s F hSt hF ht => goes_op hp hD hSt hF ht h2, fun hq => doP_below hf (hL h99) hA hS hy hl hq, doP_len h1.len, doP_len h2.len⟩
  · have key : ∀ (U : PS), ∀ w s F, StateAt w s F U → (∀ x ∈ F, w0.heap.size ≤ x) → Touch [] w0 w → Goes2 w s F op 1 U := by
      intro U w s F hSt _ _
      refine (Do_none w s U.m op (by unfold knownOp at hk; omega) hSt.two).mono ?_
      rintro _ w' ⟨rfl, t⟩
      exact ⟨F, rfl, hSt.quiet t, t.mono (by simp), Sub.refl _ _⟩
    exact ⟨_, _, _, _, key S, key T, fun _ => ⟨rfl, by rw [hS, hy], hA.out⟩, h1.len, h2.len⟩
theorem row_wide {w : World} {base n : Nat} {e : TypeId} {size : Nat} {v : Value} {xs : List Value} (h : w.ownsRow base e size v n xs) : ∃ a c, v = .slice a n c ∧ n ≤ c := by
  rcases h.2 with ⟨rfl, h0⟩ | ⟨g, cap, cur, rfl, _, _, h3, _⟩
  · exact ⟨none, 0, by rw [h0], by omega⟩
  · exact ⟨_, _, rfl, h3⟩
/-- a frame by its slots alone -/
theorem frame_any {P : Program} {code : Code} {Q : Exit → Go.Act → World → Prop} {T : Array Value} {d : List Deferred} {w : World} (arr : (Nat → Value) → (Nat → Value) → Array Value)
    (hT : T = arr (fun j => T.getD j undef) (fun j => T.getD j undef)) (h : ∀ g f, code.wp P Q { tmps := arr g f, defers := d } w) : code.wp P Q { tmps := T, defers := d } w := by
  rw [hT]
  exact h _ _
theorem yield_of {ops : Array Oper} {tmps : Array Value} {j d : Nat} {b : Bool} {o : Oper} (h1 : ops[j]? = some o) (h2 : o.dst = some d) (h3 : tmps[d]? = some (.bool b)) : yielded ops tmps j = some b := by
  unfold yielded
  rw [h1]
  simp [h2, h3]
theorem wpOp_guard {P : Program} {ops : Array Oper} {Q : Exit → Go.Act → World → Prop} {i : Nat} {o : Oper} {K : Go.Act → World → Prop} {a : Go.Act} {w : World} {j : Nat} {b : Bool} (ho : ops[i]? = some o) (hg : o.guard = some (j, b)) (hy : yielded ops a.tmps j = some b) (h : o.wp P a w K Q) : wpOp P ops Q i K a w := by
  unfold wpOp
  rw [ho]
  simp only [Region.wanted, hg, hy, beq_self_eq_true, if_true]
  exact .inl h
theorem TabOk.other {tab : List (Nat × Nat × Value)} {listed : Array Bool} {f : Nat → Value} (h : TabOk tab listed f) {i d : Nat} {v : Value} (hu : ∀ x ∈ tab, x.1 ≠ i ∧ x.2.1 ≠ d) : TabOk tab (listed.setIfInBounds i true) (fun j => if j = d then v else f j) := fun x hx hl => by
  simp only [if_neg (hu x hx).2]
  rcases listed_set hl with h1 | h1
  · exact absurd h1 (hu x hx).1
  · exact h x hx h1
def AllOk (listed : Array Bool) (f : Nat → Value) (w : World) (l : List Int) : Prop := listed.getD 28 false = true → RowR w (f 115) l
theorem AllOk.step {listed : Array Bool} {f : Nat → Value} {w w' : World} {l : List Int} (h : AllOk listed f w l) {i d : Nat} {v : Value} (hi : i ≠ 28) (hd : d ≠ 115) (t : Touch [] w w') : AllOk (listed.setIfInBounds i true) (fun j => if j = d then v else f j) w' l := fun hl => by
  simp only [if_neg (Ne.symm hd)]
  rcases listed_set hl with h1 | h1
  · exact absurd h1.symm hi
  · exact (h h1).quiet t
-- THE TABLE
def tabBl (a1 : Option Addr) (k1 c1 : Nat) (ra : Option Addr) (rn rc s t Tk : Nat) (r : Int) (sv : Value) (O : ByteArray) : List (Nat × Nat × Value) := [(0, 87, .bool true), (1, 88, .bool true), (2, 89, .int .i64 r), (3, 90, .int .i64 r), (4, 91, .bool true), (5, 92, .bool true), (6, 93, .bool true), (7, 94, .slice ra rn rc), (8, 95, .int .i64 rn), (9, 96, .slice a1 k1 c1), (10, 97, .int .i64 k1), (11, 98, .bool true), (12, 99, .bool true), (13, 100, .bool true), (14, 101, .slice ra rn rc), (15, 102, .slice a1 k1 c1), (16, 103, .int .i64 k1), (17, 104, .slice ra k1 rc), (18, 105, .slice a1 k1 c1), (19, 106, .bool true), (20, 107, .bool true), (21, 108, .bool true), (22, 109, .slice ra rn rc), (23, 110, .slice a1 k1 c1), (24, 111, .int .i64 k1), (25, 112, sv), (26, 113, .pointer (some ⟨t, 0, none⟩)), (27, 114, .pointer (some ⟨Tk, 0, none⟩)), (29, 116, .bool true), (30, 117, .bool true), (31, 118, .bool true), (32, 119, .pointer (some ⟨s, 0, none⟩)), (33, 120, .string O), (34, 121, .pointer (some ⟨t, 0, none⟩)), (35, 122, .string O), (36, 123, .bool true), (37, 124, .bool true), (38, 6, .bool true)]
-- END TABLE
/-- all of a row: its first ones, the others -/
theorem CellsG.cut {w : World} {a : Option Addr} {n c : Nat} {x y : List Int} (h : CellsG w (.slice a n c) (x ++ y)) : RowR w (.slice a x.length c) x := by
  rcases h with ⟨e, h0⟩ | ⟨g, c', e, hc⟩
  · have hx : x = [] := (List.append_eq_nil_iff.1 h0).1
    subst hx
    exact ⟨_, _, rfl, fun i hi => by simp at hi⟩
  · injection e with e1 e2 e3
    subst e1; subst e3
    refine ⟨_, _, rfl, fun i hi => ⟨g, 0, rfl, ?_⟩⟩
    rw [Nat.zero_add, hc i _ (cells_get _ i (by rw [List.length_append]; omega))]
    rw [List.getD_eq_getElem?_getD, List.getElem?_append_left hi, ← List.getD_eq_getElem?_getD]

theorem CellsG.tail {w : World} {a : Option Addr} {n c k : Nat} {x y : List Int} (h : CellsG w (.slice a n c) (x ++ y)) (hk : x.length = k) (hnc : n ≤ c) : RowR w (.slice (if c = k then a else a.map (·.add k)) (n - k) (c - k)) y := by
  subst hk
  rcases h with ⟨e, h0⟩ | ⟨g, c', e, hc⟩
  · obtain ⟨rfl, rfl⟩ := List.append_eq_nil_iff.1 h0
    injection e with e1 e2 e3
    subst e2
    exact ⟨_, _, rfl, fun i hi => by simp at hi⟩
  · injection e with e1 e2 e3
    subst e1; subst e3; subst e2
    rw [List.length_append] at hnc
    refine ⟨_, _, by rw [List.length_append, Nat.add_sub_cancel_left], fun i hi => ⟨g, 0 + x.length, ?_, ?_⟩⟩
    · rw [if_neg (by omega)]
      exact congrArg some (add_off g 0 x.length)
    · rw [Nat.zero_add, hc (x.length + i) _ (cells_get _ _ (by rw [List.length_append]; omega)), getD_app]

set_option maxRecDepth 100000 in
set_option maxHeartbeats 3200000 in
theorem PrimBelow_walk (l1 l2 : List Int) (v1 v2 : Value) (op : Int) (w : World) (h1 : ArgC w v1 l1) (h2 : ArgC w v2 l2) (hc1 : AllC l1) (hc2 : AllC l2) (hT : Tabs w) :
    Calls Tryz.prog 3 #[v1, v2, .int .i64 op] w fun e w' => e = .returned (.bool true) ∧ Touch [] w w' := by
  have hSh := shown_any w
  obtain ⟨a1, n1, c1, k1, rfl, hk1, hk50, hkc1, hl1, hx⟩ := h1.open50
  obtain ⟨a2, n2, c2, k2, rfl, hk2, hk502, hkc2, hl2, hy⟩ := h2.open50
  obtain ⟨x, hX⟩ : ∃ x, l1.take 50 = x := ⟨_, rfl⟩
  obtain ⟨y, hY⟩ : ∃ y, l2.take 50 = y := ⟨_, rfl⟩
  have hcx : AllC x := by rw [← hX]; exact allC_take hc1 50
  have hcy : AllC y := by rw [← hY]; exact allC_take hc2 50
  rw [hX] at hx hl1
  rw [hY] at hy hl2
  have h0k1 : (0 : Int) ≤ k1 := by omega
  have h0k2 : (0 : Int) ≤ k2 := by omega
  have hkc1' : (k1 : Int) ≤ c1 := by omega
  have hkc2' : (k2 : Int) ≤ c2 := by omega
  have HA := Lib.hid (And.intro hx (And.intro hy (And.intro hcx (And.intro hcy (And.intro hl1 (And.intro hl2 (And.intro hk50 (And.intro hk502 hT))))))))
  clear h1 h2 hc1 hc2 hX hY hx hy hcx hcy hl1 hl2 hk50 hk502 hT hkc1 hkc2
  go_enter Tryz.func3, Tryz.ntmps3
  go_wp2_with fail
  refine hSh.mono ?_
  rintro _ w1 ⟨rfl, t1⟩
  have hN := live_new w w1 t1
  clear hSh t1
  go_wp2_with fail
  refine hN.mono ?_
  rintro _ w2 ⟨s, S, rfl, hLv, hokS, hnS, hstS, hbsS, hhS, hoS, hmS⟩
  have hN := twin_new hLv
  clear hLv
  have HS := Lib.hid (And.intro hokS (And.intro hnS (And.intro hstS (And.intro hbsS (And.intro hhS (And.intro hoS hmS))))))
  clear hokS hnS hstS hbsS hhS hoS hmS
  go_wp2_with fail
  refine hN.mono ?_
  rintro _ w3 ⟨t, T, rfl, hTw, hokT, hnT, hstT, hbsT, hhT, hoT, hmT⟩
  clear hN
  have HS2 := Lib.hid (And.intro hokT (And.intro hnT (And.intro hstT (And.intro hbsT (And.intro hhT (And.intro hoT hmT))))))
  have HT := Lib.hid hTw
  clear hokT hnT hstT hbsT hhT hoT hmT hTw
  by_cases g42 : op = 42
  · have e42 : (op == 42) = true := by simp [g42]
    clear g42
    go_wp2_with fail
    go_ret
    exact ⟨rfl, HT.out.left.t⟩
  have e42 : (op == 42) = false := by simp [g42]
  by_cases g99 : op = 99
  · have e99 : (op == 99) = true := by simp [g99]
    clear g42 g99
    go_wp2_with fail
    go_ret
    exact ⟨rfl, HT.out.left.t⟩
  have e99 : (op == 99) = false := by simp [g99]
  have HG := Lib.hid (And.intro g42 g99)
  clear g42 g99
  go_upto_region 6 with fail
  go_region
  go_wp2_with fail
  -- what is put
  have hT3 := HT.out.quiet (Touch.refl [] w3).drew
  have hSt := live_stack hT3.left
  have hPu : Calls Tryz.prog 13 #[.pointer (some ⟨S.k, 0, none⟩), .slice a1 k1 c1] w3.drew fun e w' => e = .returned (.int .i64 0) ∧ Twin w w' s { S with st := x } t T := by
    have h := hT3.callL (fun F hS _ _ => st_put hS _ x (HA.out.1 _ hT3.left.t) (by rw [HS.out.2.2.1]; have := HA.out.2.2.2.2.1; have := HA.out.2.2.2.2.2.2.1; simp only [List.length_nil]; omega))
    rw [HS.out.2.2.1, List.nil_append] at h
    exact h
  clear hT3 HT hN
  go_wp2_with fail
  refine hSt.mono ?_
  rintro _ _ ⟨rfl, rfl⟩
  clear hSt
  go_wp2_with fail
  refine hPu.mono ?_
  rintro _ w4 ⟨rfl, hT4⟩
  have hSt := live_stack hT4.left
  have hPu2 : Calls Tryz.prog 13 #[.pointer (some ⟨S.k, 0, none⟩), .slice a2 k2 c2] w4 fun e w' => e = .returned (.int .i64 0) ∧ Twin w w' s { S with st := x ++ y } t T :=
    hT4.callL (fun F hS _ _ => st_put hS _ y (HA.out.2.1 _ hT4.left.t) (by have := HA.out.2.2.2.2; show x.length + y.length ≤ 128; omega))
  clear hPu hT4
  go_wp2_with fail
  refine hSt.mono ?_
  rintro _ _ ⟨rfl, rfl⟩
  clear hSt
  go_wp2_with fail
  refine hPu2.mono ?_
  rintro _ w5 ⟨rfl, hT5⟩
  have hSt := live_stack hT5.right
  have hPu3 : Calls Tryz.prog 13 #[.pointer (some ⟨T.k, 0, none⟩), .slice a2 k2 c2] w5 fun e w' => e = .returned (.int .i64 0) ∧ Twin w w' s { S with st := x ++ y } t { T with st := y } := by
    have h := hT5.callR (fun F hS _ _ => st_put hS _ y (HA.out.2.1 _ hT5.left.t) (by rw [HS2.out.2.2.1]; have := HA.out.2.2.2.2; simp only [List.length_nil]; omega))
    rw [HS2.out.2.2.1, List.nil_append] at h
    exact h
  clear hPu2 hT5
  go_wp2_with fail
  refine hSt.mono ?_
  rintro _ _ ⟨rfl, rfl⟩
  clear hSt
  go_wp2_with fail
  refine hPu3.mono ?_
  rintro _ w6 ⟨rfl, hT6⟩
  clear hPu3
  -- what is done
  have hal : Alike { S with st := x ++ y } { T with st := y } := ⟨by rw [HS.out.2.1, HS2.out.2.1], by show S.bs = T.bs; rw [HS.out.2.2.2.1, HS2.out.2.2.2.1], by show S.here = T.here; rw [HS.out.2.2.2.2.1, HS2.out.2.2.2.2.1], by show S.out = T.out; rw [HS.out.2.2.2.2.2.1, HS2.out.2.2.2.2.2.1], by show S.made = T.made; rw [HS.out.2.2.2.2.2.2, HS2.out.2.2.2.2.2.2]⟩
  have hfS : Fit { S with st := x ++ y } := ⟨HS.out.1, HS.out.2.1, by have := HA.out.2.2.2.2; show (x ++ y).length ≤ 128; rw [List.length_append]; omega, fun z hz => (List.mem_append.1 hz).elim (HA.out.2.2.1 z) (HA.out.2.2.2.1 z)⟩
  have hfT : Fit { T with st := y } := ⟨HS2.out.1, HS2.out.2.1, by have := HA.out.2.2.2.2; show y.length ≤ 128; omega, HA.out.2.2.2.1⟩
  obtain ⟨r, S', q, T', hgS, hgT, hend, hlS, hlT⟩ := do_below2 HA.out.2.2.2.2.2.2.2.2 (S := { S with st := x ++ y }) (T := { T with st := y }) rfl rfl hal hfS hfT (by have := HA.out.2.2.2.2; omega) op HG.out.1 HG.out.2
  have hD1 : Calls Tryz.prog 14 #[.pointer (some ⟨s, 0, none⟩), .int .i64 op] w6 fun e w' => e = .returned (.int .i64 r) ∧ Twin w w' s S' t { T with st := y } := hT6.callL (fun F h1 h2 h3 => hgS _ _ _ h1 h2 h3)
  have HE := Lib.hid (And.intro hgT (And.intro hend (And.intro hlS hlT)))
  clear hal hfS hfT hgS hgT hend hlS hlT hT6
  go_wp2_with fail
  refine hD1.mono ?_
  rintro _ w7 ⟨rfl, hT7⟩
  have hD2 : Calls Tryz.prog 14 #[.pointer (some ⟨t, 0, none⟩), .int .i64 op] w7 fun e w' => e = .returned (.int .i64 q) ∧ Twin w w' s S' t T' := hT7.callR (fun F h1 h2 h3 => HE.out.1 _ _ _ h1 h2 h3)
  clear hD1 hT7
  by_cases hq : q = -4
  · have eq4 : (q == -4) = true := by simp [hq]
    clear hq
    go_wp2_with fail
    refine hD2.mono ?_
    rintro _ w8 ⟨rfl, hT8⟩
    have H8 := Lib.hid hT8.left.t
    clear hD2 hT8
    go_wp2_with fail
    go_ret
    exact ⟨rfl, H8.out⟩
  have eq4 : (q == -4) = false := by simp [hq]
  obtain ⟨rfl, hst, hout⟩ := HE.out.2.1 hq
  have HL := Lib.hid (And.intro hst (And.intro hout HE.out.2.2))
  clear hq HE hst hout
  go_wp2_with fail
  refine hD2.mono ?_
  rintro _ w8 ⟨rfl, hT8⟩
  have hSt := live_stack hT8.left
  have hAl := live_all hT8.left HL.out.2.2.1
  have HT8 := Lib.hid hT8
  clear hD2 hT8
  go_wp2_with fail
  refine hSt.mono ?_
  rintro _ _ ⟨rfl, rfl⟩
  clear hSt
  go_wp2_with fail
  refine hAl.mono ?_
  rintro _ w9 ⟨rv, rfl, hcg, hrow, t9⟩
  have hT9 := HT8.out.quiet t9
  have hnn : ∃ a n c, rv = .slice a n c ∧ x.length ≤ n ∧ n ≤ c := by
    obtain ⟨a, c, e, h⟩ := row_wide hrow
    exact ⟨a, _, c, e, by rw [HL.out.1, List.length_append]; omega, h⟩
  obtain ⟨ra, rn, rc, rfl, hxn, hnc⟩ := hnn
  have h1 : (k1 : Int) ≤ rn := by have := HA.out.2.2.2.2.1; omega
  have h2 : (k1 : Int) ≤ rc := by have := HA.out.2.2.2.2.1; omega
  have h3 : (rn : Int) ≤ rc := by omega
  have h4 : (rn : Int) ≥ k1 := h1
  have err : (r == r) = true := by simp
  have HT9 := Lib.hid (And.intro hT9 (And.intro hcg (And.intro hxn hnc)))
  clear HT8 hAl hcg t9 hT9 hxn hnc hrow
  have cS1 : ∀ W, Hid (Touch [] w9 W) → Calls Tryz.prog 16 #[.slice ra k1 rc, .slice a1 k1 c1] W fun e w' => e = .returned (.bool true) ∧ Touch [] W w' := fun W h => by
    have hc := HT9.out.2.1
    rw [HL.out.1] at hc
    have hr := hc.cut
    rw [HA.out.2.2.2.2.1] at hr
    exact Same_eq _ _ x W (hr.quiet h.out) (HA.out.1 W (HT9.out.1.left.t.trans h.out (by simp))).rowR (by have := HA.out.2.2.2.2; omega)
  have cSt : ∀ W, Hid (Touch [] w9 W) → Calls Tryz.prog 12 #[.pointer (some ⟨t, 0, none⟩)] W fun e w' => e = .returned (.pointer (some ⟨T'.k, 0, none⟩)) ∧ W = w' := fun W h => live_stack (HT9.out.1.quiet h.out).right
  have cAl : ∀ W, Hid (Touch [] w9 W) → Calls Tryz.prog 15 #[.pointer (some ⟨T'.k, 0, none⟩)] W fun e w' => ∃ va vc, e = .returned (.slice va T'.st.length vc) ∧ RowR w' (.slice va T'.st.length vc) T'.st ∧ Touch [] W w' := fun W h => by
    refine (live_all (HT9.out.1.quiet h.out).right HL.out.2.2.2).mono ?_
    rintro _ w' ⟨v, rfl, h1, h2, h3⟩
    obtain ⟨va, vc, rfl⟩ := own_slice h2
    exact ⟨va, vc, rfl, h1.rowR, h3⟩
  obtain ⟨O, hO⟩ : ∃ O, strOfNums T'.out = O := ⟨_, rfl⟩
  obtain ⟨sv, hsv⟩ : ∃ sv, Value.slice (if rc = k1 then ra else ra.map (·.add k1)) (rn - k1) (rc - k1) = sv := ⟨_, rfl⟩
  have cS2 : ∀ W va vc, Hid (Touch [] w9 W) → RowR W (.slice va T'.st.length vc) T'.st → Calls Tryz.prog 16 #[sv, .slice va T'.st.length vc] W fun e w' => e = .returned (.bool true) ∧ Touch [] W w' := fun W va vc h hv => by
    have hc := HT9.out.2.1
    rw [HL.out.1] at hc
    have hr := hc.tail HA.out.2.2.2.2.1 HT9.out.2.2.2
    rw [hsv] at hr
    exact Same_eq _ _ T'.st W (hr.quiet h.out) hv (by have := HL.out.2.2.2; omega)
  have cO1 : ∀ W, Hid (Touch [] w9 W) → Calls Tryz.prog 17 #[.pointer (some ⟨s, 0, none⟩)] W fun e w' => e = .returned (.string O) ∧ W = w' := fun W h => by
    have := live_out (HT9.out.1.quiet h.out).left
    rw [HL.out.2.1, hO] at this
    exact this
  have cO2 : ∀ W, Hid (Touch [] w9 W) → Calls Tryz.prog 17 #[.pointer (some ⟨t, 0, none⟩)] W fun e w' => e = .returned (.string O) ∧ W = w' := fun W h => by
    have := live_out (HT9.out.1.quiet h.out).right
    rw [hO] at this
    exact this
  clear hk1 hk2 h0k2 hkc1' hkc2' e42 e99 eq4 hO
  go_upto_region 14 with fail
  -- THE REGION
  refine frame_any (fun g f => #[g 0, g 1, g 2, g 3, g 4, g 5, f 6, .bool true, .pointer (some ⟨s, 0, none⟩), g 9, .pointer (some ⟨t, 0, none⟩), g 11, .slice a1 k1 c1, g 13, .int .i64 r, .int .i64 r, .slice ra rn rc, g 17, g 18, g 19, g 20, g 21, g 22, g 23, g 24, g 25, g 26, g 27, g 28, g 29, g 30, g 31, g 32, g 33, g 34, g 35, g 36, g 37, g 38, g 39, g 40, g 41, g 42, g 43, g 44, g 45, g 46, g 47, g 48, g 49, g 50, g 51, g 52, g 53, g 54, g 55, g 56, g 57, g 58, g 59, g 60, g 61, g 62, g 63, g 64, g 65, g 66, g 67, g 68, g 69, g 70, g 71, g 72, g 73, g 74, g 75, g 76, g 77, g 78, g 79, g 80, g 81, g 82, g 83, g 84, g 85, g 86, f 87, f 88, f 89, f 90, f 91, f 92, f 93, f 94, f 95, f 96, f 97, f 98, f 99, f 100, f 101, f 102, f 103, f 104, f 105, f 106, f 107, f 108, f 109, f 110, f 111, f 112, f 113, f 114, f 115, f 116, f 117, f 118, f 119, f 120, f 121, f 122, f 123, f 124]) rfl (fun g f => ?_)
  refine region_inv (fun listed a Wx => ∃ f : Nat → Value, a = { tmps := #[g 0, g 1, g 2, g 3, g 4, g 5, f 6, .bool true, .pointer (some ⟨s, 0, none⟩), g 9, .pointer (some ⟨t, 0, none⟩), g 11, .slice a1 k1 c1, g 13, .int .i64 r, .int .i64 r, .slice ra rn rc, g 17, g 18, g 19, g 20, g 21, g 22, g 23, g 24, g 25, g 26, g 27, g 28, g 29, g 30, g 31, g 32, g 33, g 34, g 35, g 36, g 37, g 38, g 39, g 40, g 41, g 42, g 43, g 44, g 45, g 46, g 47, g 48, g 49, g 50, g 51, g 52, g 53, g 54, g 55, g 56, g 57, g 58, g 59, g 60, g 61, g 62, g 63, g 64, g 65, g 66, g 67, g 68, g 69, g 70, g 71, g 72, g 73, g 74, g 75, g 76, g 77, g 78, g 79, g 80, g 81, g 82, g 83, g 84, g 85, g 86, f 87, f 88, f 89, f 90, f 91, f 92, f 93, f 94, f 95, f 96, f 97, f 98, f 99, f 100, f 101, f 102, f 103, f 104, f 105, f 106, f 107, f 108, f 109, f 110, f 111, f 112, f 113, f 114, f 115, f 116, f 117, f 118, f 119, f 120, f 121, f 122, f 123, f 124], defers := [] } ∧ TabOk (tabBl a1 k1 c1 ra rn rc s t T'.k r sv O) listed f ∧ Touch [] w9 Wx ∧ AllOk listed f Wx T'.st) (by kernel_rfl) (by kernel_rfl) ?h0 ?step ?fin
  case h0 =>
    intro listed hs hl
    exact ⟨f, rfl, fun x _ h => (by rw [hl] at h; cases h), (Touch.refl [] w9).drew, fun h => (by rw [hl] at h; cases h)⟩
  case step =>
    rintro listed a Wx ⟨f, rfl, hT, tq, hA⟩ hC i o ho hli hdep
    try dsimp only
    have hi : i < 39 := (Array.getElem?_eq_some_iff.1 ho).1
    rcases (by omega : i = 0 ∨ i = 1 ∨ i = 2 ∨ i = 3 ∨ i = 4 ∨ i = 5 ∨ i = 6 ∨ i = 7 ∨ i = 8 ∨ i = 9 ∨ i = 10 ∨ i = 11 ∨ i = 12 ∨ i = 13 ∨ i = 14 ∨ i = 15 ∨ i = 16 ∨ i = 17 ∨ i = 18 ∨ i = 19 ∨ i = 20 ∨ i = 21 ∨ i = 22 ∨ i = 23 ∨ i = 24 ∨ i = 25 ∨ i = 26 ∨ i = 27 ∨ i = 28 ∨ i = 29 ∨ i = 30 ∨ i = 31 ∨ i = 32 ∨ i = 33 ∨ i = 34 ∨ i = 35 ∨ i = 36 ∨ i = 37 ∨ i = 38) with rfl | rfl | rfl | rfl | rfl | rfl | rfl | rfl | rfl | rfl | rfl | rfl | rfl | rfl | rfl | rfl | rfl | rfl | rfl | rfl | rfl | rfl | rfl | rfl | rfl | rfl | rfl | rfl | rfl | rfl | rfl | rfl | rfl | rfl | rfl | rfl | rfl | rfl | rfl
    · cases (show some _ = some o from ho)
      refine wpOp_of ho rfl ?_
      refine wp_value (v := .bool true) (w1 := Wx) ?_ ⟨_, rfl, hT.step (i := 0) (d := 87) (v := .bool true) (by intro x hx; simp only [tabBl, List.mem_cons, List.not_mem_nil, or_false] at hx; rcases hx with rfl | rfl | rfl | rfl | rfl | rfl | rfl | rfl | rfl | rfl | rfl | rfl | rfl | rfl | rfl | rfl | rfl | rfl | rfl | rfl | rfl | rfl | rfl | rfl | rfl | rfl | rfl | rfl | rfl | rfl | rfl | rfl | rfl | rfl | rfl | rfl | rfl | rfl <;> simp), tq, hA.step (by decide) (by decide) (Touch.refl [] _)⟩
      clear hdep hC hli ho hT hA
      first | (go_simp; done) | (go_simp; rfl)
    · cases (show some _ = some o from ho)
      have g0 : f 87 = .bool true := hT (0, 87, .bool true) (by simp [tabBl]) (hdep { on := 0, ground := .data } (by simp) rfl)
      refine wpOp_of ho rfl ?_
      refine wp_value (v := .bool true) (w1 := Wx) ?_ ⟨_, rfl, hT.step (i := 1) (d := 88) (v := .bool true) (by intro x hx; simp only [tabBl, List.mem_cons, List.not_mem_nil, or_false] at hx; rcases hx with rfl | rfl | rfl | rfl | rfl | rfl | rfl | rfl | rfl | rfl | rfl | rfl | rfl | rfl | rfl | rfl | rfl | rfl | rfl | rfl | rfl | rfl | rfl | rfl | rfl | rfl | rfl | rfl | rfl | rfl | rfl | rfl | rfl | rfl | rfl | rfl | rfl | rfl <;> simp), tq, hA.step (by decide) (by decide) (Touch.refl [] _)⟩
      clear hdep hC hli ho hT hA
      first | (go_simp; done) | (go_simp; rfl)
    · cases (show some _ = some o from ho)
      have g1 : f 88 = .bool true := hT (1, 88, .bool true) (by simp [tabBl]) (hdep { on := 1, ground := .guard } (by simp) rfl)
      refine wpOp_guard ho rfl (yield_of rfl rfl (congrArg some g1)) ?_
      refine wp_value (v := .int .i64 r) (w1 := Wx) ?_ ⟨_, rfl, hT.step (i := 2) (d := 89) (v := .int .i64 r) (by intro x hx; simp only [tabBl, List.mem_cons, List.not_mem_nil, or_false] at hx; rcases hx with rfl | rfl | rfl | rfl | rfl | rfl | rfl | rfl | rfl | rfl | rfl | rfl | rfl | rfl | rfl | rfl | rfl | rfl | rfl | rfl | rfl | rfl | rfl | rfl | rfl | rfl | rfl | rfl | rfl | rfl | rfl | rfl | rfl | rfl | rfl | rfl | rfl | rfl <;> simp), tq, hA.step (by decide) (by decide) (Touch.refl [] _)⟩
      clear hdep hC hli ho hT hA
      first | (go_simp; done) | (go_simp; rfl)
    · cases (show some _ = some o from ho)
      have g1 : f 88 = .bool true := hT (1, 88, .bool true) (by simp [tabBl]) (hdep { on := 1, ground := .guard } (by simp) rfl)
      refine wpOp_guard ho rfl (yield_of rfl rfl (congrArg some g1)) ?_
      refine wp_value (v := .int .i64 r) (w1 := Wx) ?_ ⟨_, rfl, hT.step (i := 3) (d := 90) (v := .int .i64 r) (by intro x hx; simp only [tabBl, List.mem_cons, List.not_mem_nil, or_false] at hx; rcases hx with rfl | rfl | rfl | rfl | rfl | rfl | rfl | rfl | rfl | rfl | rfl | rfl | rfl | rfl | rfl | rfl | rfl | rfl | rfl | rfl | rfl | rfl | rfl | rfl | rfl | rfl | rfl | rfl | rfl | rfl | rfl | rfl | rfl | rfl | rfl | rfl | rfl | rfl <;> simp), tq, hA.step (by decide) (by decide) (Touch.refl [] _)⟩
      clear hdep hC hli ho hT hA
      first | (go_simp; done) | (go_simp; rfl)
    · cases (show some _ = some o from ho)
      have g2 : f 89 = .int .i64 r := hT (2, 89, .int .i64 r) (by simp [tabBl]) (hdep { on := 2, ground := .data } (by simp) rfl)
      have g3 : f 90 = .int .i64 r := hT (3, 90, .int .i64 r) (by simp [tabBl]) (hdep { on := 3, ground := .data } (by simp) rfl)
      have g1 : f 88 = .bool true := hT (1, 88, .bool true) (by simp [tabBl]) (hdep { on := 1, ground := .guard } (by simp) rfl)
      refine wpOp_guard ho rfl (yield_of rfl rfl (congrArg some g1)) ?_
      refine wp_value (v := .bool true) (w1 := Wx) ?_ ⟨_, rfl, hT.step (i := 4) (d := 91) (v := .bool true) (by intro x hx; simp only [tabBl, List.mem_cons, List.not_mem_nil, or_false] at hx; rcases hx with rfl | rfl | rfl | rfl | rfl | rfl | rfl | rfl | rfl | rfl | rfl | rfl | rfl | rfl | rfl | rfl | rfl | rfl | rfl | rfl | rfl | rfl | rfl | rfl | rfl | rfl | rfl | rfl | rfl | rfl | rfl | rfl | rfl | rfl | rfl | rfl | rfl | rfl <;> simp), tq, hA.step (by decide) (by decide) (Touch.refl [] _)⟩
      clear hdep hC hli ho hT hA
      first | (go_simp; done) | (go_simp; rfl)
    · cases (show some _ = some o from ho)
      have g1 : f 88 = .bool true := hT (1, 88, .bool true) (by simp [tabBl]) (hdep { on := 1, ground := .data } (by simp) rfl)
      have g4 : f 91 = .bool true := hT (4, 91, .bool true) (by simp [tabBl]) (hdep { on := 4, ground := .data } (by simp) rfl)
      refine wpOp_of ho rfl ?_
      refine wp_value (v := .bool true) (w1 := Wx) ?_ ⟨_, rfl, hT.step (i := 5) (d := 92) (v := .bool true) (by intro x hx; simp only [tabBl, List.mem_cons, List.not_mem_nil, or_false] at hx; rcases hx with rfl | rfl | rfl | rfl | rfl | rfl | rfl | rfl | rfl | rfl | rfl | rfl | rfl | rfl | rfl | rfl | rfl | rfl | rfl | rfl | rfl | rfl | rfl | rfl | rfl | rfl | rfl | rfl | rfl | rfl | rfl | rfl | rfl | rfl | rfl | rfl | rfl | rfl <;> simp), tq, hA.step (by decide) (by decide) (Touch.refl [] _)⟩
      clear hdep hC hli ho hT hA
      first | (go_simp; done) | (go_simp; rfl)
    · cases (show some _ = some o from ho)
      have g5 : f 92 = .bool true := hT (5, 92, .bool true) (by simp [tabBl]) (hdep { on := 5, ground := .data } (by simp) rfl)
      refine wpOp_of ho rfl ?_
      refine wp_value (v := .bool true) (w1 := Wx) ?_ ⟨_, rfl, hT.step (i := 6) (d := 93) (v := .bool true) (by intro x hx; simp only [tabBl, List.mem_cons, List.not_mem_nil, or_false] at hx; rcases hx with rfl | rfl | rfl | rfl | rfl | rfl | rfl | rfl | rfl | rfl | rfl | rfl | rfl | rfl | rfl | rfl | rfl | rfl | rfl | rfl | rfl | rfl | rfl | rfl | rfl | rfl | rfl | rfl | rfl | rfl | rfl | rfl | rfl | rfl | rfl | rfl | rfl | rfl <;> simp), tq, hA.step (by decide) (by decide) (Touch.refl [] _)⟩
      clear hdep hC hli ho hT hA
      first | (go_simp; done) | (go_simp; rfl)
    · cases (show some _ = some o from ho)
      have g6 : f 93 = .bool true := hT (6, 93, .bool true) (by simp [tabBl]) (hdep { on := 6, ground := .guard } (by simp) rfl)
      refine wpOp_guard ho rfl (yield_of rfl rfl (congrArg some g6)) ?_
      refine wp_value (v := .slice ra rn rc) (w1 := Wx) ?_ ⟨_, rfl, hT.step (i := 7) (d := 94) (v := .slice ra rn rc) (by intro x hx; simp only [tabBl, List.mem_cons, List.not_mem_nil, or_false] at hx; rcases hx with rfl | rfl | rfl | rfl | rfl | rfl | rfl | rfl | rfl | rfl | rfl | rfl | rfl | rfl | rfl | rfl | rfl | rfl | rfl | rfl | rfl | rfl | rfl | rfl | rfl | rfl | rfl | rfl | rfl | rfl | rfl | rfl | rfl | rfl | rfl | rfl | rfl | rfl <;> simp), tq, hA.step (by decide) (by decide) (Touch.refl [] _)⟩
      clear hdep hC hli ho hT hA
      first | (go_simp; done) | (go_simp; rfl)
    · cases (show some _ = some o from ho)
      have g7 : f 94 = .slice ra rn rc := hT (7, 94, .slice ra rn rc) (by simp [tabBl]) (hdep { on := 7, ground := .data } (by simp) rfl)
      have g6 : f 93 = .bool true := hT (6, 93, .bool true) (by simp [tabBl]) (hdep { on := 6, ground := .guard } (by simp) rfl)
      refine wpOp_guard ho rfl (yield_of rfl rfl (congrArg some g6)) ?_
      refine wp_value (v := .int .i64 rn) (w1 := Wx) ?_ ⟨_, rfl, hT.step (i := 8) (d := 95) (v := .int .i64 rn) (by intro x hx; simp only [tabBl, List.mem_cons, List.not_mem_nil, or_false] at hx; rcases hx with rfl | rfl | rfl | rfl | rfl | rfl | rfl | rfl | rfl | rfl | rfl | rfl | rfl | rfl | rfl | rfl | rfl | rfl | rfl | rfl | rfl | rfl | rfl | rfl | rfl | rfl | rfl | rfl | rfl | rfl | rfl | rfl | rfl | rfl | rfl | rfl | rfl | rfl <;> simp), tq, hA.step (by decide) (by decide) (Touch.refl [] _)⟩
      clear hdep hC hli ho hT hA
      first | (go_simp; done) | (go_simp; rfl)
    · cases (show some _ = some o from ho)
      have g6 : f 93 = .bool true := hT (6, 93, .bool true) (by simp [tabBl]) (hdep { on := 6, ground := .guard } (by simp) rfl)
      refine wpOp_guard ho rfl (yield_of rfl rfl (congrArg some g6)) ?_
      refine wp_value (v := .slice a1 k1 c1) (w1 := Wx) ?_ ⟨_, rfl, hT.step (i := 9) (d := 96) (v := .slice a1 k1 c1) (by intro x hx; simp only [tabBl, List.mem_cons, List.not_mem_nil, or_false] at hx; rcases hx with rfl | rfl | rfl | rfl | rfl | rfl | rfl | rfl | rfl | rfl | rfl | rfl | rfl | rfl | rfl | rfl | rfl | rfl | rfl | rfl | rfl | rfl | rfl | rfl | rfl | rfl | rfl | rfl | rfl | rfl | rfl | rfl | rfl | rfl | rfl | rfl | rfl | rfl <;> simp), tq, hA.step (by decide) (by decide) (Touch.refl [] _)⟩
      clear hdep hC hli ho hT hA
      first | (go_simp; done) | (go_simp; rfl)
    · cases (show some _ = some o from ho)
      have g9 : f 96 = .slice a1 k1 c1 := hT (9, 96, .slice a1 k1 c1) (by simp [tabBl]) (hdep { on := 9, ground := .data } (by simp) rfl)
      have g6 : f 93 = .bool true := hT (6, 93, .bool true) (by simp [tabBl]) (hdep { on := 6, ground := .guard } (by simp) rfl)
      refine wpOp_guard ho rfl (yield_of rfl rfl (congrArg some g6)) ?_
      refine wp_value (v := .int .i64 k1) (w1 := Wx) ?_ ⟨_, rfl, hT.step (i := 10) (d := 97) (v := .int .i64 k1) (by intro x hx; simp only [tabBl, List.mem_cons, List.not_mem_nil, or_false] at hx; rcases hx with rfl | rfl | rfl | rfl | rfl | rfl | rfl | rfl | rfl | rfl | rfl | rfl | rfl | rfl | rfl | rfl | rfl | rfl | rfl | rfl | rfl | rfl | rfl | rfl | rfl | rfl | rfl | rfl | rfl | rfl | rfl | rfl | rfl | rfl | rfl | rfl | rfl | rfl <;> simp), tq, hA.step (by decide) (by decide) (Touch.refl [] _)⟩
      clear hdep hC hli ho hT hA
      first | (go_simp; done) | (go_simp; rfl)
    · cases (show some _ = some o from ho)
      have g8 : f 95 = .int .i64 rn := hT (8, 95, .int .i64 rn) (by simp [tabBl]) (hdep { on := 8, ground := .data } (by simp) rfl)
      have g10 : f 97 = .int .i64 k1 := hT (10, 97, .int .i64 k1) (by simp [tabBl]) (hdep { on := 10, ground := .data } (by simp) rfl)
      have g6 : f 93 = .bool true := hT (6, 93, .bool true) (by simp [tabBl]) (hdep { on := 6, ground := .guard } (by simp) rfl)
      refine wpOp_guard ho rfl (yield_of rfl rfl (congrArg some g6)) ?_
      refine wp_value (v := .bool true) (w1 := Wx) ?_ ⟨_, rfl, hT.step (i := 11) (d := 98) (v := .bool true) (by intro x hx; simp only [tabBl, List.mem_cons, List.not_mem_nil, or_false] at hx; rcases hx with rfl | rfl | rfl | rfl | rfl | rfl | rfl | rfl | rfl | rfl | rfl | rfl | rfl | rfl | rfl | rfl | rfl | rfl | rfl | rfl | rfl | rfl | rfl | rfl | rfl | rfl | rfl | rfl | rfl | rfl | rfl | rfl | rfl | rfl | rfl | rfl | rfl | rfl <;> simp), tq, hA.step (by decide) (by decide) (Touch.refl [] _)⟩
      clear hdep hC hli ho hT hA
      first | (go_simp; done) | (go_simp; rfl)
    · cases (show some _ = some o from ho)
      have g6 : f 93 = .bool true := hT (6, 93, .bool true) (by simp [tabBl]) (hdep { on := 6, ground := .data } (by simp) rfl)
      have g11 : f 98 = .bool true := hT (11, 98, .bool true) (by simp [tabBl]) (hdep { on := 11, ground := .data } (by simp) rfl)
      refine wpOp_of ho rfl ?_
      refine wp_value (v := .bool true) (w1 := Wx) ?_ ⟨_, rfl, hT.step (i := 12) (d := 99) (v := .bool true) (by intro x hx; simp only [tabBl, List.mem_cons, List.not_mem_nil, or_false] at hx; rcases hx with rfl | rfl | rfl | rfl | rfl | rfl | rfl | rfl | rfl | rfl | rfl | rfl | rfl | rfl | rfl | rfl | rfl | rfl | rfl | rfl | rfl | rfl | rfl | rfl | rfl | rfl | rfl | rfl | rfl | rfl | rfl | rfl | rfl | rfl | rfl | rfl | rfl | rfl <;> simp), tq, hA.step (by decide) (by decide) (Touch.refl [] _)⟩
      clear hdep hC hli ho hT hA
      first | (go_simp; done) | (go_simp; rfl)
    · cases (show some _ = some o from ho)
      have g12 : f 99 = .bool true := hT (12, 99, .bool true) (by simp [tabBl]) (hdep { on := 12, ground := .data } (by simp) rfl)
      refine wpOp_of ho rfl ?_
      refine wp_value (v := .bool true) (w1 := Wx) ?_ ⟨_, rfl, hT.step (i := 13) (d := 100) (v := .bool true) (by intro x hx; simp only [tabBl, List.mem_cons, List.not_mem_nil, or_false] at hx; rcases hx with rfl | rfl | rfl | rfl | rfl | rfl | rfl | rfl | rfl | rfl | rfl | rfl | rfl | rfl | rfl | rfl | rfl | rfl | rfl | rfl | rfl | rfl | rfl | rfl | rfl | rfl | rfl | rfl | rfl | rfl | rfl | rfl | rfl | rfl | rfl | rfl | rfl | rfl <;> simp), tq, hA.step (by decide) (by decide) (Touch.refl [] _)⟩
      clear hdep hC hli ho hT hA
      first | (go_simp; done) | (go_simp; rfl)
    · cases (show some _ = some o from ho)
      have g13 : f 100 = .bool true := hT (13, 100, .bool true) (by simp [tabBl]) (hdep { on := 13, ground := .guard } (by simp) rfl)
      refine wpOp_guard ho rfl (yield_of rfl rfl (congrArg some g13)) ?_
      refine wp_value (v := .slice ra rn rc) (w1 := Wx) ?_ ⟨_, rfl, hT.step (i := 14) (d := 101) (v := .slice ra rn rc) (by intro x hx; simp only [tabBl, List.mem_cons, List.not_mem_nil, or_false] at hx; rcases hx with rfl | rfl | rfl | rfl | rfl | rfl | rfl | rfl | rfl | rfl | rfl | rfl | rfl | rfl | rfl | rfl | rfl | rfl | rfl | rfl | rfl | rfl | rfl | rfl | rfl | rfl | rfl | rfl | rfl | rfl | rfl | rfl | rfl | rfl | rfl | rfl | rfl | rfl <;> simp), tq, hA.step (by decide) (by decide) (Touch.refl [] _)⟩
      clear hdep hC hli ho hT hA
      first | (go_simp; done) | (go_simp; rfl)
    · cases (show some _ = some o from ho)
      have g13 : f 100 = .bool true := hT (13, 100, .bool true) (by simp [tabBl]) (hdep { on := 13, ground := .guard } (by simp) rfl)
      refine wpOp_guard ho rfl (yield_of rfl rfl (congrArg some g13)) ?_
      refine wp_value (v := .slice a1 k1 c1) (w1 := Wx) ?_ ⟨_, rfl, hT.step (i := 15) (d := 102) (v := .slice a1 k1 c1) (by intro x hx; simp only [tabBl, List.mem_cons, List.not_mem_nil, or_false] at hx; rcases hx with rfl | rfl | rfl | rfl | rfl | rfl | rfl | rfl | rfl | rfl | rfl | rfl | rfl | rfl | rfl | rfl | rfl | rfl | rfl | rfl | rfl | rfl | rfl | rfl | rfl | rfl | rfl | rfl | rfl | rfl | rfl | rfl | rfl | rfl | rfl | rfl | rfl | rfl <;> simp), tq, hA.step (by decide) (by decide) (Touch.refl [] _)⟩
      clear hdep hC hli ho hT hA
      first | (go_simp; done) | (go_simp; rfl)
    · cases (show some _ = some o from ho)
      have g15 : f 102 = .slice a1 k1 c1 := hT (15, 102, .slice a1 k1 c1) (by simp [tabBl]) (hdep { on := 15, ground := .data } (by simp) rfl)
      have g13 : f 100 = .bool true := hT (13, 100, .bool true) (by simp [tabBl]) (hdep { on := 13, ground := .guard } (by simp) rfl)
      refine wpOp_guard ho rfl (yield_of rfl rfl (congrArg some g13)) ?_
      refine wp_value (v := .int .i64 k1) (w1 := Wx) ?_ ⟨_, rfl, hT.step (i := 16) (d := 103) (v := .int .i64 k1) (by intro x hx; simp only [tabBl, List.mem_cons, List.not_mem_nil, or_false] at hx; rcases hx with rfl | rfl | rfl | rfl | rfl | rfl | rfl | rfl | rfl | rfl | rfl | rfl | rfl | rfl | rfl | rfl | rfl | rfl | rfl | rfl | rfl | rfl | rfl | rfl | rfl | rfl | rfl | rfl | rfl | rfl | rfl | rfl | rfl | rfl | rfl | rfl | rfl | rfl <;> simp), tq, hA.step (by decide) (by decide) (Touch.refl [] _)⟩
      clear hdep hC hli ho hT hA
      first | (go_simp; done) | (go_simp; rfl)
    · cases (show some _ = some o from ho)
      have g14 : f 101 = .slice ra rn rc := hT (14, 101, .slice ra rn rc) (by simp [tabBl]) (hdep { on := 14, ground := .data } (by simp) rfl)
      have g16 : f 103 = .int .i64 k1 := hT (16, 103, .int .i64 k1) (by simp [tabBl]) (hdep { on := 16, ground := .data } (by simp) rfl)
      have g13 : f 100 = .bool true := hT (13, 100, .bool true) (by simp [tabBl]) (hdep { on := 13, ground := .guard } (by simp) rfl)
      refine wpOp_guard ho rfl (yield_of rfl rfl (congrArg some g13)) ?_
      refine wp_value (v := .slice ra k1 rc) (w1 := Wx) ?_ ⟨_, rfl, hT.step (i := 17) (d := 104) (v := .slice ra k1 rc) (by intro x hx; simp only [tabBl, List.mem_cons, List.not_mem_nil, or_false] at hx; rcases hx with rfl | rfl | rfl | rfl | rfl | rfl | rfl | rfl | rfl | rfl | rfl | rfl | rfl | rfl | rfl | rfl | rfl | rfl | rfl | rfl | rfl | rfl | rfl | rfl | rfl | rfl | rfl | rfl | rfl | rfl | rfl | rfl | rfl | rfl | rfl | rfl | rfl | rfl <;> simp), tq, hA.step (by decide) (by decide) (Touch.refl [] _)⟩
      clear hdep hC hli ho hT hA
      first | (go_simp; done) | (go_simp; rfl)
    · cases (show some _ = some o from ho)
      have g13 : f 100 = .bool true := hT (13, 100, .bool true) (by simp [tabBl]) (hdep { on := 13, ground := .guard } (by simp) rfl)
      refine wpOp_guard ho rfl (yield_of rfl rfl (congrArg some g13)) ?_
      refine wp_value (v := .slice a1 k1 c1) (w1 := Wx) ?_ ⟨_, rfl, hT.step (i := 18) (d := 105) (v := .slice a1 k1 c1) (by intro x hx; simp only [tabBl, List.mem_cons, List.not_mem_nil, or_false] at hx; rcases hx with rfl | rfl | rfl | rfl | rfl | rfl | rfl | rfl | rfl | rfl | rfl | rfl | rfl | rfl | rfl | rfl | rfl | rfl | rfl | rfl | rfl | rfl | rfl | rfl | rfl | rfl | rfl | rfl | rfl | rfl | rfl | rfl | rfl | rfl | rfl | rfl | rfl | rfl <;> simp), tq, hA.step (by decide) (by decide) (Touch.refl [] _)⟩
      clear hdep hC hli ho hT hA
      first | (go_simp; done) | (go_simp; rfl)
    · cases (show some _ = some o from ho)
      have g17 : f 104 = .slice ra k1 rc := hT (17, 104, .slice ra k1 rc) (by simp [tabBl]) (hdep { on := 17, ground := .data } (by simp) rfl)
      have g18 : f 105 = .slice a1 k1 c1 := hT (18, 105, .slice a1 k1 c1) (by simp [tabBl]) (hdep { on := 18, ground := .data } (by simp) rfl)
      have g13 : f 100 = .bool true := hT (13, 100, .bool true) (by simp [tabBl]) (hdep { on := 13, ground := .guard } (by simp) rfl)
      refine wpOp_guard ho rfl (yield_of rfl rfl (congrArg some g13)) ?_
      refine wp_enter (f := 16) (args := #[.slice ra k1 rc, .slice a1 k1 c1]) (w1 := Wx) ?_ ((cS1 Wx (Lib.hid tq)).mono ?_)
      · clear hdep hC hli ho hT hA
        first | (go_simp; done) | (go_simp; rfl)
      · rintro _ W1 ⟨rfl, t1⟩
        exact ⟨_, rfl, _, rfl, hT.step (i := 19) (d := 106) (v := .bool true) (by intro x hx; simp only [tabBl, List.mem_cons, List.not_mem_nil, or_false] at hx; rcases hx with rfl | rfl | rfl | rfl | rfl | rfl | rfl | rfl | rfl | rfl | rfl | rfl | rfl | rfl | rfl | rfl | rfl | rfl | rfl | rfl | rfl | rfl | rfl | rfl | rfl | rfl | rfl | rfl | rfl | rfl | rfl | rfl | rfl | rfl | rfl | rfl | rfl | rfl <;> simp), tq.trans t1 (by simp), hA.step (by decide) (by decide) t1⟩
    · cases (show some _ = some o from ho)
      have g13 : f 100 = .bool true := hT (13, 100, .bool true) (by simp [tabBl]) (hdep { on := 13, ground := .data } (by simp) rfl)
      have g19 : f 106 = .bool true := hT (19, 106, .bool true) (by simp [tabBl]) (hdep { on := 19, ground := .data } (by simp) rfl)
      refine wpOp_of ho rfl ?_
      refine wp_value (v := .bool true) (w1 := Wx) ?_ ⟨_, rfl, hT.step (i := 20) (d := 107) (v := .bool true) (by intro x hx; simp only [tabBl, List.mem_cons, List.not_mem_nil, or_false] at hx; rcases hx with rfl | rfl | rfl | rfl | rfl | rfl | rfl | rfl | rfl | rfl | rfl | rfl | rfl | rfl | rfl | rfl | rfl | rfl | rfl | rfl | rfl | rfl | rfl | rfl | rfl | rfl | rfl | rfl | rfl | rfl | rfl | rfl | rfl | rfl | rfl | rfl | rfl | rfl <;> simp), tq, hA.step (by decide) (by decide) (Touch.refl [] _)⟩
      clear hdep hC hli ho hT hA
      first | (go_simp; done) | (go_simp; rfl)
    · cases (show some _ = some o from ho)
      have g20 : f 107 = .bool true := hT (20, 107, .bool true) (by simp [tabBl]) (hdep { on := 20, ground := .data } (by simp) rfl)
      refine wpOp_of ho rfl ?_
      refine wp_value (v := .bool true) (w1 := Wx) ?_ ⟨_, rfl, hT.step (i := 21) (d := 108) (v := .bool true) (by intro x hx; simp only [tabBl, List.mem_cons, List.not_mem_nil, or_false] at hx; rcases hx with rfl | rfl | rfl | rfl | rfl | rfl | rfl | rfl | rfl | rfl | rfl | rfl | rfl | rfl | rfl | rfl | rfl | rfl | rfl | rfl | rfl | rfl | rfl | rfl | rfl | rfl | rfl | rfl | rfl | rfl | rfl | rfl | rfl | rfl | rfl | rfl | rfl | rfl <;> simp), tq, hA.step (by decide) (by decide) (Touch.refl [] _)⟩
      clear hdep hC hli ho hT hA
      first | (go_simp; done) | (go_simp; rfl)
    · cases (show some _ = some o from ho)
      have g21 : f 108 = .bool true := hT (21, 108, .bool true) (by simp [tabBl]) (hdep { on := 21, ground := .guard } (by simp) rfl)
      refine wpOp_guard ho rfl (yield_of rfl rfl (congrArg some g21)) ?_
      refine wp_value (v := .slice ra rn rc) (w1 := Wx) ?_ ⟨_, rfl, hT.step (i := 22) (d := 109) (v := .slice ra rn rc) (by intro x hx; simp only [tabBl, List.mem_cons, List.not_mem_nil, or_false] at hx; rcases hx with rfl | rfl | rfl | rfl | rfl | rfl | rfl | rfl | rfl | rfl | rfl | rfl | rfl | rfl | rfl | rfl | rfl | rfl | rfl | rfl | rfl | rfl | rfl | rfl | rfl | rfl | rfl | rfl | rfl | rfl | rfl | rfl | rfl | rfl | rfl | rfl | rfl | rfl <;> simp), tq, hA.step (by decide) (by decide) (Touch.refl [] _)⟩
      clear hdep hC hli ho hT hA
      first | (go_simp; done) | (go_simp; rfl)
    · cases (show some _ = some o from ho)
      have g21 : f 108 = .bool true := hT (21, 108, .bool true) (by simp [tabBl]) (hdep { on := 21, ground := .guard } (by simp) rfl)
      refine wpOp_guard ho rfl (yield_of rfl rfl (congrArg some g21)) ?_
      refine wp_value (v := .slice a1 k1 c1) (w1 := Wx) ?_ ⟨_, rfl, hT.step (i := 23) (d := 110) (v := .slice a1 k1 c1) (by intro x hx; simp only [tabBl, List.mem_cons, List.not_mem_nil, or_false] at hx; rcases hx with rfl | rfl | rfl | rfl | rfl | rfl | rfl | rfl | rfl | rfl | rfl | rfl | rfl | rfl | rfl | rfl | rfl | rfl | rfl | rfl | rfl | rfl | rfl | rfl | rfl | rfl | rfl | rfl | rfl | rfl | rfl | rfl | rfl | rfl | rfl | rfl | rfl | rfl <;> simp), tq, hA.step (by decide) (by decide) (Touch.refl [] _)⟩
      clear hdep hC hli ho hT hA
      first | (go_simp; done) | (go_simp; rfl)
    · cases (show some _ = some o from ho)
      have g23 : f 110 = .slice a1 k1 c1 := hT (23, 110, .slice a1 k1 c1) (by simp [tabBl]) (hdep { on := 23, ground := .data } (by simp) rfl)
      have g21 : f 108 = .bool true := hT (21, 108, .bool true) (by simp [tabBl]) (hdep { on := 21, ground := .guard } (by simp) rfl)
      refine wpOp_guard ho rfl (yield_of rfl rfl (congrArg some g21)) ?_
      refine wp_value (v := .int .i64 k1) (w1 := Wx) ?_ ⟨_, rfl, hT.step (i := 24) (d := 111) (v := .int .i64 k1) (by intro x hx; simp only [tabBl, List.mem_cons, List.not_mem_nil, or_false] at hx; rcases hx with rfl | rfl | rfl | rfl | rfl | rfl | rfl | rfl | rfl | rfl | rfl | rfl | rfl | rfl | rfl | rfl | rfl | rfl | rfl | rfl | rfl | rfl | rfl | rfl | rfl | rfl | rfl | rfl | rfl | rfl | rfl | rfl | rfl | rfl | rfl | rfl | rfl | rfl <;> simp), tq, hA.step (by decide) (by decide) (Touch.refl [] _)⟩
      clear hdep hC hli ho hT hA
      first | (go_simp; done) | (go_simp; rfl)
    · cases (show some _ = some o from ho)
      have g22 : f 109 = .slice ra rn rc := hT (22, 109, .slice ra rn rc) (by simp [tabBl]) (hdep { on := 22, ground := .data } (by simp) rfl)
      have g24 : f 111 = .int .i64 k1 := hT (24, 111, .int .i64 k1) (by simp [tabBl]) (hdep { on := 24, ground := .data } (by simp) rfl)
      have g21 : f 108 = .bool true := hT (21, 108, .bool true) (by simp [tabBl]) (hdep { on := 21, ground := .guard } (by simp) rfl)
      refine wpOp_guard ho rfl (yield_of rfl rfl (congrArg some g21)) ?_
      refine wp_value (v := sv) (w1 := Wx) ?_ ⟨_, rfl, hT.step (i := 25) (d := 112) (v := sv) (by intro x hx; simp only [tabBl, List.mem_cons, List.not_mem_nil, or_false] at hx; rcases hx with rfl | rfl | rfl | rfl | rfl | rfl | rfl | rfl | rfl | rfl | rfl | rfl | rfl | rfl | rfl | rfl | rfl | rfl | rfl | rfl | rfl | rfl | rfl | rfl | rfl | rfl | rfl | rfl | rfl | rfl | rfl | rfl | rfl | rfl | rfl | rfl | rfl | rfl <;> simp), tq, hA.step (by decide) (by decide) (Touch.refl [] _)⟩
      clear hdep hC hli ho hT hA
      first | (go_simp; done) | (go_simp; rfl) | (go_simp; exact hsv)
    · cases (show some _ = some o from ho)
      have g21 : f 108 = .bool true := hT (21, 108, .bool true) (by simp [tabBl]) (hdep { on := 21, ground := .guard } (by simp) rfl)
      refine wpOp_guard ho rfl (yield_of rfl rfl (congrArg some g21)) ?_
      refine wp_value (v := .pointer (some ⟨t, 0, none⟩)) (w1 := Wx) ?_ ⟨_, rfl, hT.step (i := 26) (d := 113) (v := .pointer (some ⟨t, 0, none⟩)) (by intro x hx; simp only [tabBl, List.mem_cons, List.not_mem_nil, or_false] at hx; rcases hx with rfl | rfl | rfl | rfl | rfl | rfl | rfl | rfl | rfl | rfl | rfl | rfl | rfl | rfl | rfl | rfl | rfl | rfl | rfl | rfl | rfl | rfl | rfl | rfl | rfl | rfl | rfl | rfl | rfl | rfl | rfl | rfl | rfl | rfl | rfl | rfl | rfl | rfl <;> simp), tq, hA.step (by decide) (by decide) (Touch.refl [] _)⟩
      clear hdep hC hli ho hT hA
      first | (go_simp; done) | (go_simp; rfl)
    · cases (show some _ = some o from ho)
      have g26 : f 113 = .pointer (some ⟨t, 0, none⟩) := hT (26, 113, .pointer (some ⟨t, 0, none⟩)) (by simp [tabBl]) (hdep { on := 26, ground := .data } (by simp) rfl)
      have g21 : f 108 = .bool true := hT (21, 108, .bool true) (by simp [tabBl]) (hdep { on := 21, ground := .guard } (by simp) rfl)
      refine wpOp_guard ho rfl (yield_of rfl rfl (congrArg some g21)) ?_
      refine wp_enter (f := 12) (args := #[.pointer (some ⟨t, 0, none⟩)]) (w1 := Wx) ?_ ((cSt Wx (Lib.hid tq)).mono ?_)
      · clear hdep hC hli ho hT hA
        first | (go_simp; done) | (go_simp; rfl)
      · rintro _ W1 ⟨rfl, rfl⟩
        exact ⟨_, rfl, _, rfl, hT.step (i := 27) (d := 114) (v := .pointer (some ⟨T'.k, 0, none⟩)) (by intro x hx; simp only [tabBl, List.mem_cons, List.not_mem_nil, or_false] at hx; rcases hx with rfl | rfl | rfl | rfl | rfl | rfl | rfl | rfl | rfl | rfl | rfl | rfl | rfl | rfl | rfl | rfl | rfl | rfl | rfl | rfl | rfl | rfl | rfl | rfl | rfl | rfl | rfl | rfl | rfl | rfl | rfl | rfl | rfl | rfl | rfl | rfl | rfl | rfl <;> simp), tq, hA.step (by decide) (by decide) (Touch.refl [] _)⟩
    · cases (show some _ = some o from ho)
      have g27 : f 114 = .pointer (some ⟨T'.k, 0, none⟩) := hT (27, 114, .pointer (some ⟨T'.k, 0, none⟩)) (by simp [tabBl]) (hdep { on := 27, ground := .data } (by simp) rfl)
      have g21 : f 108 = .bool true := hT (21, 108, .bool true) (by simp [tabBl]) (hdep { on := 21, ground := .guard } (by simp) rfl)
      refine wpOp_guard ho rfl (yield_of rfl rfl (congrArg some g21)) ?_
      refine wp_enter (f := 15) (args := #[.pointer (some ⟨T'.k, 0, none⟩)]) (w1 := Wx) ?_ ((cAl Wx (Lib.hid tq)).mono ?_)
      · clear hdep hC hli ho hT hA
        first | (go_simp; done) | (go_simp; rfl)
      · rintro _ W1 ⟨va, vc, rfl, hv, t1⟩
        exact ⟨_, rfl, _, rfl, hT.other (i := 28) (d := 115) (v := _) (by intro x hx; simp only [tabBl, List.mem_cons, List.not_mem_nil, or_false] at hx; rcases hx with rfl | rfl | rfl | rfl | rfl | rfl | rfl | rfl | rfl | rfl | rfl | rfl | rfl | rfl | rfl | rfl | rfl | rfl | rfl | rfl | rfl | rfl | rfl | rfl | rfl | rfl | rfl | rfl | rfl | rfl | rfl | rfl | rfl | rfl | rfl | rfl | rfl | rfl <;> simp), tq.trans t1 (by simp), fun _ => hv⟩
    · cases (show some _ = some o from ho)
      have g25 : f 112 = sv := hT (25, 112, sv) (by simp [tabBl]) (hdep { on := 25, ground := .data } (by simp) rfl)
      have g21 : f 108 = .bool true := hT (21, 108, .bool true) (by simp [tabBl]) (hdep { on := 21, ground := .guard } (by simp) rfl)
      obtain ⟨va, vc, g28, hv⟩ : ∃ va vc, f 115 = .slice va T'.st.length vc ∧ RowR Wx (.slice va T'.st.length vc) T'.st := (by obtain ⟨va, vc, e, k⟩ := hA (hdep { on := 28, ground := .data } (by simp) rfl); exact ⟨va, vc, e, va, vc, rfl, k⟩)
      refine wpOp_guard ho rfl (yield_of rfl rfl (congrArg some g21)) ?_
      refine wp_enter (f := 16) (args := #[sv, .slice va T'.st.length vc]) (w1 := Wx) ?_ ((cS2 Wx va vc (Lib.hid tq) hv).mono ?_)
      · clear hdep hC hli ho hT hA
        first | (go_simp; done) | (go_simp; rfl)
      · rintro _ W1 ⟨rfl, t1⟩
        exact ⟨_, rfl, _, rfl, hT.step (i := 29) (d := 116) (v := .bool true) (by intro x hx; simp only [tabBl, List.mem_cons, List.not_mem_nil, or_false] at hx; rcases hx with rfl | rfl | rfl | rfl | rfl | rfl | rfl | rfl | rfl | rfl | rfl | rfl | rfl | rfl | rfl | rfl | rfl | rfl | rfl | rfl | rfl | rfl | rfl | rfl | rfl | rfl | rfl | rfl | rfl | rfl | rfl | rfl | rfl | rfl | rfl | rfl | rfl | rfl <;> simp), tq.trans t1 (by simp), hA.step (by decide) (by decide) t1⟩
    · cases (show some _ = some o from ho)
      have g21 : f 108 = .bool true := hT (21, 108, .bool true) (by simp [tabBl]) (hdep { on := 21, ground := .data } (by simp) rfl)
      have g29 : f 116 = .bool true := hT (29, 116, .bool true) (by simp [tabBl]) (hdep { on := 29, ground := .data } (by simp) rfl)
      refine wpOp_of ho rfl ?_
      refine wp_value (v := .bool true) (w1 := Wx) ?_ ⟨_, rfl, hT.step (i := 30) (d := 117) (v := .bool true) (by intro x hx; simp only [tabBl, List.mem_cons, List.not_mem_nil, or_false] at hx; rcases hx with rfl | rfl | rfl | rfl | rfl | rfl | rfl | rfl | rfl | rfl | rfl | rfl | rfl | rfl | rfl | rfl | rfl | rfl | rfl | rfl | rfl | rfl | rfl | rfl | rfl | rfl | rfl | rfl | rfl | rfl | rfl | rfl | rfl | rfl | rfl | rfl | rfl | rfl <;> simp), tq, hA.step (by decide) (by decide) (Touch.refl [] _)⟩
      clear hdep hC hli ho hT hA
      first | (go_simp; done) | (go_simp; rfl)
    · cases (show some _ = some o from ho)
      have g30 : f 117 = .bool true := hT (30, 117, .bool true) (by simp [tabBl]) (hdep { on := 30, ground := .data } (by simp) rfl)
      refine wpOp_of ho rfl ?_
      refine wp_value (v := .bool true) (w1 := Wx) ?_ ⟨_, rfl, hT.step (i := 31) (d := 118) (v := .bool true) (by intro x hx; simp only [tabBl, List.mem_cons, List.not_mem_nil, or_false] at hx; rcases hx with rfl | rfl | rfl | rfl | rfl | rfl | rfl | rfl | rfl | rfl | rfl | rfl | rfl | rfl | rfl | rfl | rfl | rfl | rfl | rfl | rfl | rfl | rfl | rfl | rfl | rfl | rfl | rfl | rfl | rfl | rfl | rfl | rfl | rfl | rfl | rfl | rfl | rfl <;> simp), tq, hA.step (by decide) (by decide) (Touch.refl [] _)⟩
      clear hdep hC hli ho hT hA
      first | (go_simp; done) | (go_simp; rfl)
    · cases (show some _ = some o from ho)
      have g31 : f 118 = .bool true := hT (31, 118, .bool true) (by simp [tabBl]) (hdep { on := 31, ground := .guard } (by simp) rfl)
      refine wpOp_guard ho rfl (yield_of rfl rfl (congrArg some g31)) ?_
      refine wp_value (v := .pointer (some ⟨s, 0, none⟩)) (w1 := Wx) ?_ ⟨_, rfl, hT.step (i := 32) (d := 119) (v := .pointer (some ⟨s, 0, none⟩)) (by intro x hx; simp only [tabBl, List.mem_cons, List.not_mem_nil, or_false] at hx; rcases hx with rfl | rfl | rfl | rfl | rfl | rfl | rfl | rfl | rfl | rfl | rfl | rfl | rfl | rfl | rfl | rfl | rfl | rfl | rfl | rfl | rfl | rfl | rfl | rfl | rfl | rfl | rfl | rfl | rfl | rfl | rfl | rfl | rfl | rfl | rfl | rfl | rfl | rfl <;> simp), tq, hA.step (by decide) (by decide) (Touch.refl [] _)⟩
      clear hdep hC hli ho hT hA
      first | (go_simp; done) | (go_simp; rfl)
    · cases (show some _ = some o from ho)
      have g32 : f 119 = .pointer (some ⟨s, 0, none⟩) := hT (32, 119, .pointer (some ⟨s, 0, none⟩)) (by simp [tabBl]) (hdep { on := 32, ground := .data } (by simp) rfl)
      have g31 : f 118 = .bool true := hT (31, 118, .bool true) (by simp [tabBl]) (hdep { on := 31, ground := .guard } (by simp) rfl)
      refine wpOp_guard ho rfl (yield_of rfl rfl (congrArg some g31)) ?_
      refine wp_enter (f := 17) (args := #[.pointer (some ⟨s, 0, none⟩)]) (w1 := Wx) ?_ ((cO1 Wx (Lib.hid tq)).mono ?_)
      · clear hdep hC hli ho hT hA
        first | (go_simp; done) | (go_simp; rfl)
      · rintro _ W1 ⟨rfl, rfl⟩
        exact ⟨_, rfl, _, rfl, hT.step (i := 33) (d := 120) (v := .string O) (by intro x hx; simp only [tabBl, List.mem_cons, List.not_mem_nil, or_false] at hx; rcases hx with rfl | rfl | rfl | rfl | rfl | rfl | rfl | rfl | rfl | rfl | rfl | rfl | rfl | rfl | rfl | rfl | rfl | rfl | rfl | rfl | rfl | rfl | rfl | rfl | rfl | rfl | rfl | rfl | rfl | rfl | rfl | rfl | rfl | rfl | rfl | rfl | rfl | rfl <;> simp), tq, hA.step (by decide) (by decide) (Touch.refl [] _)⟩
    · cases (show some _ = some o from ho)
      have g31 : f 118 = .bool true := hT (31, 118, .bool true) (by simp [tabBl]) (hdep { on := 31, ground := .guard } (by simp) rfl)
      refine wpOp_guard ho rfl (yield_of rfl rfl (congrArg some g31)) ?_
      refine wp_value (v := .pointer (some ⟨t, 0, none⟩)) (w1 := Wx) ?_ ⟨_, rfl, hT.step (i := 34) (d := 121) (v := .pointer (some ⟨t, 0, none⟩)) (by intro x hx; simp only [tabBl, List.mem_cons, List.not_mem_nil, or_false] at hx; rcases hx with rfl | rfl | rfl | rfl | rfl | rfl | rfl | rfl | rfl | rfl | rfl | rfl | rfl | rfl | rfl | rfl | rfl | rfl | rfl | rfl | rfl | rfl | rfl | rfl | rfl | rfl | rfl | rfl | rfl | rfl | rfl | rfl | rfl | rfl | rfl | rfl | rfl | rfl <;> simp), tq, hA.step (by decide) (by decide) (Touch.refl [] _)⟩
      clear hdep hC hli ho hT hA
      first | (go_simp; done) | (go_simp; rfl)
    · cases (show some _ = some o from ho)
      have g34 : f 121 = .pointer (some ⟨t, 0, none⟩) := hT (34, 121, .pointer (some ⟨t, 0, none⟩)) (by simp [tabBl]) (hdep { on := 34, ground := .data } (by simp) rfl)
      have g31 : f 118 = .bool true := hT (31, 118, .bool true) (by simp [tabBl]) (hdep { on := 31, ground := .guard } (by simp) rfl)
      refine wpOp_guard ho rfl (yield_of rfl rfl (congrArg some g31)) ?_
      refine wp_enter (f := 17) (args := #[.pointer (some ⟨t, 0, none⟩)]) (w1 := Wx) ?_ ((cO2 Wx (Lib.hid tq)).mono ?_)
      · clear hdep hC hli ho hT hA
        first | (go_simp; done) | (go_simp; rfl)
      · rintro _ W1 ⟨rfl, rfl⟩
        exact ⟨_, rfl, _, rfl, hT.step (i := 35) (d := 122) (v := .string O) (by intro x hx; simp only [tabBl, List.mem_cons, List.not_mem_nil, or_false] at hx; rcases hx with rfl | rfl | rfl | rfl | rfl | rfl | rfl | rfl | rfl | rfl | rfl | rfl | rfl | rfl | rfl | rfl | rfl | rfl | rfl | rfl | rfl | rfl | rfl | rfl | rfl | rfl | rfl | rfl | rfl | rfl | rfl | rfl | rfl | rfl | rfl | rfl | rfl | rfl <;> simp), tq, hA.step (by decide) (by decide) (Touch.refl [] _)⟩
    · cases (show some _ = some o from ho)
      have g33 : f 120 = .string O := hT (33, 120, .string O) (by simp [tabBl]) (hdep { on := 33, ground := .data } (by simp) rfl)
      have g35 : f 122 = .string O := hT (35, 122, .string O) (by simp [tabBl]) (hdep { on := 35, ground := .data } (by simp) rfl)
      have g31 : f 118 = .bool true := hT (31, 118, .bool true) (by simp [tabBl]) (hdep { on := 31, ground := .guard } (by simp) rfl)
      refine wpOp_guard ho rfl (yield_of rfl rfl (congrArg some g31)) ?_
      refine wp_value (v := .bool true) (w1 := Wx) ?_ ⟨_, rfl, hT.step (i := 36) (d := 123) (v := .bool true) (by intro x hx; simp only [tabBl, List.mem_cons, List.not_mem_nil, or_false] at hx; rcases hx with rfl | rfl | rfl | rfl | rfl | rfl | rfl | rfl | rfl | rfl | rfl | rfl | rfl | rfl | rfl | rfl | rfl | rfl | rfl | rfl | rfl | rfl | rfl | rfl | rfl | rfl | rfl | rfl | rfl | rfl | rfl | rfl | rfl | rfl | rfl | rfl | rfl | rfl <;> simp), tq, hA.step (by decide) (by decide) (Touch.refl [] _)⟩
      clear hdep hC hli ho hT hA
      first | (go_simp; done) | (go_simp; rfl)
    · cases (show some _ = some o from ho)
      have g31 : f 118 = .bool true := hT (31, 118, .bool true) (by simp [tabBl]) (hdep { on := 31, ground := .data } (by simp) rfl)
      have g36 : f 123 = .bool true := hT (36, 123, .bool true) (by simp [tabBl]) (hdep { on := 36, ground := .data } (by simp) rfl)
      refine wpOp_of ho rfl ?_
      refine wp_value (v := .bool true) (w1 := Wx) ?_ ⟨_, rfl, hT.step (i := 37) (d := 124) (v := .bool true) (by intro x hx; simp only [tabBl, List.mem_cons, List.not_mem_nil, or_false] at hx; rcases hx with rfl | rfl | rfl | rfl | rfl | rfl | rfl | rfl | rfl | rfl | rfl | rfl | rfl | rfl | rfl | rfl | rfl | rfl | rfl | rfl | rfl | rfl | rfl | rfl | rfl | rfl | rfl | rfl | rfl | rfl | rfl | rfl | rfl | rfl | rfl | rfl | rfl | rfl <;> simp), tq, hA.step (by decide) (by decide) (Touch.refl [] _)⟩
      clear hdep hC hli ho hT hA
      first | (go_simp; done) | (go_simp; rfl)
    · cases (show some _ = some o from ho)
      have g37 : f 124 = .bool true := hT (37, 124, .bool true) (by simp [tabBl]) (hdep { on := 37, ground := .data } (by simp) rfl)
      refine wpOp_of ho rfl ?_
      refine wp_value (v := .bool true) (w1 := Wx) ?_ ⟨_, rfl, hT.step (i := 38) (d := 6) (v := .bool true) (by intro x hx; simp only [tabBl, List.mem_cons, List.not_mem_nil, or_false] at hx; rcases hx with rfl | rfl | rfl | rfl | rfl | rfl | rfl | rfl | rfl | rfl | rfl | rfl | rfl | rfl | rfl | rfl | rfl | rfl | rfl | rfl | rfl | rfl | rfl | rfl | rfl | rfl | rfl | rfl | rfl | rfl | rfl | rfl | rfl | rfl | rfl | rfl | rfl | rfl <;> simp), tq, hA.step (by decide) (by decide) (Touch.refl [] _)⟩
      clear hdep hC hli ho hT hA
      first | (go_simp; done) | (go_simp; rfl)
  case fin =>
    rintro listed a Wx hl ⟨f, rfl, hT, tq, hA⟩
    have e6 : f 6 = .bool true := hT (38, 6, .bool true) (by simp [tabBl]) (hl 38 (by decide))
    have TT := Lib.hid (HT9.out.1.left.t.trans tq (by simp))
    clear hT hl tq hA
    rw [e6]
    clear e6 cS1 cS2 cSt cAl cO1 cO2
    go_wp2_with fail
    go_ret
    exact ⟨rfl, TT.out⟩
  -- END REGION
end Go.Proofs.YtkbchpaofmlhgaaGreatDoor

/- PrimBelow: its card, from its walk. -/
namespace Go.Proofs.YtkbchpaofmlhgaaGreatDoor
open Go.ChangeShapes Go.WideShapes Go.ChangeAt Go.RowKit
open Go.ChangeMaps (open_string shut_string)

set_option maxRecDepth 100000 in
theorem primBelow_contract (H : Type) (enc : TypeId × Value → H) (W : World) (base : Nat) (args : Array Value) (ds gs : List (DataW H)) (before : List MemPlace)
    (hval : ∀ (j : Nat) t v, Tryz.f3.params[j]? = some t → args[j]? = some v → Value.okWide Tryz.prog W .any base t v)
    (hW : DataW.Whole enc Tryz.prog Tryz.f3.params.toList Rows.primBelowSpec.vars false W args.toList ds gs before) (hL : laidMetH Tryz.prog Rows.primBelowRow.laid W) :
    Calls Tryz.prog 3 args W fun e W' => ∃ v, e = .returned v ∧ Rows.primBelowSpec.post enc Tryz.prog Tryz.f3 false true false false W args v W' := by
  have hW' := hW
  obtain ⟨p, q, hA0, hV, rfl, _, _⟩ := hW
  have hA : DataW.TrodAll enc Tryz.prog W 0 (fun _ => true) true Tryz.f3.params.toList args.toList ds p := hA0
  rw [Tryz.params3] at hA hval
  obtain ⟨v0, v1, v2, d0, d1, d2, p0, p1, p2, rfl, rfl, rfl, h0, h1, h2⟩ := trodAll_3 hA
  obtain ⟨l0, hL0, hB0⟩ := open_rowC Tryz.underlying22 Tryz.underlying36 (by kernel_rfl) (hval 0 22 v0 rfl rfl) h0
  obtain ⟨l1, hL1, hB1⟩ := open_rowC Tryz.underlying22 Tryz.underlying36 (by kernel_rfl) (hval 1 22 v1 rfl rfl) h1
  obtain ⟨x2, rfl, rfl, rfl, wx2⟩ := open_int Tryz.underlying3 (hval 2 3 v2 rfl rfl) h2
  refine (PrimBelow_walk l0 l1 v0 v1 x2 W hL0 hL1 (fun x hx => wf_i64 (hB0 x hx)) (fun x hx => wf_i64 (hB1 x hx)) (tabs hL)).mono fun e W' ⟨he, hb⟩ => ?_
  subst he
  exact ⟨_, rfl, law_post laidOut (by rw [Tryz.params3]; exact of_decide_eq_true (by kernel_rfl)) rfl rfl Tryz.underlying4 hW' (fun l hl => by subst hl; rfl) (hb.below (Nat.le_refl _) (by simp))⟩

theorem primBelow_laid_met (os : Os) : laidMet Tryz.prog Rows.primBelowRow.laid ((laidWorld os).forCall (fun _ _ => 0) ⟨#[], #[.slice none 0 0, .slice none 0 0, .int .i64 0], []⟩).memory :=
  laidMet_of_run' 8 (by kernel_rfl) (by kernel_rfl)
theorem primBelow_reads (os : Os) {H : Type} (enc : TypeId × Value → H) : ∃ places, DataW.whole enc Tryz.prog ((laidWorld os).forCall (fun _ _ => 0) ⟨#[], #[.slice none 0 0, .slice none 0 0, .int .i64 0], []⟩).memory Tryz.f3.params.toList Rows.primBelowSpec.vars false (#[.slice none 0 0, .slice none 0 0, .int .i64 0] : Array Value).toList 8 = some ([.nil, .nil, .lit (.int .i64 0)], [], places) :=
  ⟨[], by kernel_rfl⟩

set_option maxRecDepth 100000 in
theorem primBelow_lifted (os : Os) (started : os.Started) (H : Type) (enc : TypeId × Value → H) (F : Stop.Interp) :
    ReturnsInHanded {} Tryz.checked os 3 .any ((OpenSpec.ofChange Rows.primBelowSpec).preRow enc Tryz.prog Tryz.f3 Rows.primBelowRow.domain false Rows.primBelowRow.laid) (((OpenSpec.ofChange Rows.primBelowSpec).at F).post enc Tryz.prog Tryz.f3 false true false false) := by
  obtain ⟨places, hx⟩ := primBelow_reads os enc
  refine returnsInHanded_of_row (C := Tryz.checked) (s := OpenSpec.ofChange Rows.primBelowSpec) own started (by kernel_rfl) Tryz.func3
    (witness_row_at (enc := enc) (C := Tryz.checked) false (laidWorld os) #[.slice none 0 0, .slice none 0 0, .int .i64 0] rfl (by kernel_rfl) (by kernel_rfl) (by kernel_rfl)
      (OpenSpec.preRow_of_cond 8 hx (by kernel_rfl) (fun k hk => by cases hk) (by kernel_rfl) (primBelow_laid_met os))) ?_
  intro W base args ds gs before hval hW _ _ _ hL _ _
  exact primBelow_contract H enc W base args ds gs before hval hW hL

theorem primBelow_said : Rows.PrimBelowSaid :=
  OpenClaim.holds_of_cond 3 Tryz.f3 rfl rfl rfl rfl rfl rfl rfl ⟨rfl, rfl, rfl, rfl, rfl⟩ rfl rfl rfl rfl rfl (by kernel_rfl) Tryz.func3 (by kernel_rfl)
    (of_decide_eq_true (by kernel_rfl)) (by unfold Func.isWrapper; first | (rw [if_pos (by decide +kernel)]; kernel_rfl) | (rw [if_neg (by decide +kernel)]; exact ⟨rfl, rfl⟩))
    (fun os started H enc _ F => by rw [OpenClaim.pre_eq_preRow]; exact primBelow_lifted os started H enc F)

theorem primBelow_plain (f : FuncId) (fn : Func) (hf : Tryz.pinned.checked.prog.funcNamed "rhyton/rhytonlaw13.PrimBelow" = some f) (hfn : Tryz.pinned.checked.prog.funcs[f]? = some fn) :
    false = Tryz.pinned.checked.prog.looks [] ∧ ∀ (j : Nat) t, fn.params[j]? = some t → Tryz.pinned.checked.prog.wantsStandIn t = false := by
  obtain rfl : f = 3 := Option.some.inj ((show Tryz.prog.funcNamed "rhyton/rhytonlaw13.PrimBelow" = some 3 by kernel_rfl).symm.trans hf) |>.symm
  obtain rfl : fn = Tryz.f3 := (Option.some.inj (Tryz.func3.symm.trans hfn)).symm
  refine ⟨by kernel_rfl, fun j t ht => ?_⟩
  rw [Tryz.params3] at ht
  have hm := Array.mem_of_getElem? ht
  simp only [List.mem_toArray, List.mem_cons, List.not_mem_nil, or_false] at hm
  rcases hm with rfl | rfl | rfl
  · exact (show Tryz.prog.wantsStandIn 22 = false by kernel_rfl)
  · exact (show Tryz.prog.wantsStandIn 22 = false by kernel_rfl)
  · exact (show Tryz.prog.wantsStandIn 3 = false by kernel_rfl)

theorem PrimBelow_card : Rows.PrimBelowCardSaid :=
  Claim7.holds_tied_plain_at .later [] _ _ _ _ primBelow_said (fun _ h => by cases h) (by kernel_rfl) (fun _ h => by cases h) primBelow_row_tie rfl ⟨rfl, rfl⟩ (by kernel_rfl) rfl primBelow_plain (by kernel_rfl)

#print axioms PrimBelow_card
end Go.Proofs.YtkbchpaofmlhgaaGreatDoor
