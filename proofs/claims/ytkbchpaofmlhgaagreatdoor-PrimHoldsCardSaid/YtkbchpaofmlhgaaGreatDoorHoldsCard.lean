import Derived.Test.YtkbchpaofmlhgaaGreatDoorWorld
import Derived.ProofKit
import Derived.SizedLaws
import Derived.Test.YtkbchpaofmlhgaaGreatDoorCards
import Derived.Test.YtkbchpaofmlhgaaGreatDoorTie
import Derived.WalkKit
import Derived.OpenShut
import Derived.Deep.DeepHandedRow
import Derived.Lib.LaidTab
import Derived.Test.YtkbchpaofmlhgaaGreatDoorHold3
import Derived.Test.YtkbchpaofmlhgaaGreatDoorHoldE
import Derived.Test.YtkbchpaofmlhgaaGreatDoorText3
import Derived.Test.YtkbchpaofmlhgaaGreatDoorPrimOpen
/- What every law's row asks behind its walk: the call returned true, and below the heap's size nothing has turned. Arguments that are slices of strings. -/
namespace Go.Proofs.YtkbchpaofmlhgaaGreatDoor
open Go.ChangeShapes Go.WideShapes Go.ChangeAt Go.RowKit

theorem law_trod {H : Type} {enc : TypeId × Value → H} {P : Program} (hl : laidOutB P = true) {W W' : World} (hb : Below W.heap.size W W') : ∀ (ts : List TypeId) (vs : List Value) (ds : List (DataW H)) (ps : List MemPlace),
    (∀ t ∈ ts, P.readableRec t = true ∧ t < P.types.size) → DataW.TrodAll enc P W 0 (fun _ => true) true ts vs ds ps → (∀ x ∈ ps, x.block < W.heap.size) →
    DataW.TrodAll enc P W' 0 (fun b => decide (b < W.heap.size)) true ts vs ds ps
  | [], vs, ds, ps, _, h, _ => by
    obtain ⟨rfl, rfl, rfl⟩ := trodAll_nil h
    exact trodAll_mk0
  | t :: ts, vs, ds, ps, ht, h, hlt => by
    obtain ⟨v, vs', d, ds', p, q, rfl, rfl, rfl, h1, h2⟩ := trodAll_cons h
    refine ⟨p, q, Below.trod hl (ht t (by simp)).1 (ht t (by simp)).2 h1 hb fun x hx => hlt x (by simp [hx]), ?_, rfl⟩
    exact law_trod hl hb ts vs' ds' q (fun t' h' => ht t' (by simp [h'])) h2 fun x hx => hlt x (by simp [hx])

theorem law_post {H : Type} {enc : TypeId × Value → H} {P : Program} {f : Func} {s : ChangeSpec} {W W' : World} {args : Array Value} {ds gs : List (DataW H)} {before : List MemPlace} {tb : TypeId}
    (hl : laidOutB P = true) (hts : ∀ t ∈ f.params.toList, P.readableRec t = true ∧ t < P.types.size) (hv : s.vars = []) (hrt : f.resultTypes = #[tb]) (htb : P.underlying tb = some .bool)
    (hW : DataW.Whole enc P f.params.toList s.vars false W args.toList ds gs before) (hfn : ∀ l, l = ds → s.fn H (l ++ []) = { results := [.lit (.bool true)], args := l }) (hb : Below W.heap.size W W') :
    s.post enc P f false true false false W args (.bool true) W' := by
  have hW' := hW
  obtain ⟨p, q, hA, hV, rfl, _, _⟩ := hW
  rw [hv] at hV
  obtain ⟨rfl, rfl⟩ : gs = [] ∧ q = [] := by
    cases gs with
    | nil => exact ⟨rfl, hV⟩
    | cons x r => cases hV
  have hlt : ∀ x ∈ p, x.block < W.heap.size := fun x hx => hW'.lt x (by simp [hx])
  have e := hfn ds rfl
  refine ⟨ds, [], _, [] ++ [], p, [], hW', ?_, ?_, ?_, hb.frame _, fun h => by cases h⟩
  · rw [e, hrt]; exact trodAll_mk1 (shut_bool htb true)
  · rw [e]; exact law_trod hl hb _ _ _ _ hts hA hlt
  · rw [e, hv]; rfl

/-- a slice of strings, nil let in: n texts -/
structure Strs (w : World) (v : Value) (ss : List ByteArray) : Prop where
  form : (v = .slice none 0 0 ∧ ss = []) ∨ (∃ a cap, v = .slice (some a) 0 cap ∧ cap ≤ 140737488355328 ∧ ss = []) ∨ ∃ b off cap, v = .slice (some ⟨b, off, none⟩) ss.length cap ∧ b < w.heap.size ∧ ss.length ≤ cap ∧ cap ≤ 140737488355328 ∧ ∀ i, i < ss.length → w.cell? ⟨b, off + i, none⟩ = some (.string (ss.getD i .empty))
  size : ∀ s, s ∈ ss → s.size ≤ maxLen

theorem open_strs {H : Type} {enc : TypeId × Value → H} {P : Program} {w : World} {t e : TypeId} {v : Value} {d : DataW H} {p : List MemPlace} {b0 : Nat} (ht : P.underlying t = some (.slice e)) (he : P.underlying e = some .string) (hc : P.cellsOf e = 1)
    (hv : Value.okWide P w .any b0 t v) (h : DataW.Trod enc P w 0 (fun _ => true) true t v d p) (hlt : ∀ x ∈ p, x.block < w.heap.size)
    (hsz : ∀ elems spare, d = .slice elems spare → elems.length + spare.length ≤ 140737488355328) : ∃ ss, Strs w v ss := by
  obtain ⟨a0, len, cap, rfl⟩ := okWide_slice ht hv
  obtain ⟨fuel, hf⟩ := h
  rcases open_strings ht he hc hf with ⟨hcs, hx⟩ | ⟨a, len', cap', ss, hcs, _, hl, hm, hz, hx, hcell, hws⟩
  · simp [Value.cells] at hcs
    obtain ⟨rfl, rfl, rfl⟩ := hcs
    exact ⟨[], .inl ⟨rfl, rfl⟩, by simp⟩
  · simp [Value.cells] at hcs
    obtain ⟨rfl, rfl, rfl⟩ := hcs
    simp only [Prod.mk.injEq] at hx
    obtain ⟨rfl, rfl⟩ := hx
    simp only [if_true] at hz
    have hcap := hsz _ _ rfl
    simp only [strs, List.length_map, List.length_take, List.length_drop] at hcap
    refine ⟨ss.take len, ?_, fun s hs => hws s (List.mem_of_mem_take hs)⟩
    by_cases h0 : len = 0
    · subst h0
      exact .inr (.inl ⟨a, cap, rfl, by omega, by simp⟩)
    · obtain ⟨b, off, spot⟩ := a
      have hspot : spot = none := by simpa [Addr.add] using World.cell?_spot (hcell 0 (by omega))
      subst hspot
      have hlen : (ss.take len).length = len := by rw [List.length_take]; omega
      rw [hlen]
      refine .inr (.inr ⟨b, off, cap, rfl, hlt (.cell b off) (MemPlace.mem_row.2 ⟨0, by omega, by simp⟩), hl, by omega, fun i hi => ?_⟩)
      have hc := hcell i (by omega)
      rw [add_plain] at hc
      rw [hc]
      have e : (ss.take len).getD i .empty = ss.getD i .empty := by simp [List.getD, hi]
      rw [e]

end Go.Proofs.YtkbchpaofmlhgaaGreatDoor

/- Closed facts of the program that every row's proof asks. -/
namespace Go.Proofs.YtkbchpaofmlhgaaGreatDoor
theorem laidOut : laidOutB Tryz.prog = true := by kernel_rfl
theorem cellsStr : Tryz.prog.cellsOf 9 = 1 := by kernel_rfl
theorem bytesStr : Tryz.prog.bytesOf 9 = 16 := by kernel_rfl
end Go.Proofs.YtkbchpaofmlhgaaGreatDoor

/- What the rows of the Prim door list: three tables; a world for the witness. -/
namespace Go.Proofs.YtkbchpaofmlhgaaGreatDoor
open Go.ChangeShapes Go.WideShapes Go.ChangeAt Go.RowKit

theorem own : ownKnob Tryz.prog.godebug = none := by kernel_rfl
def lit0 : DataW Unit → List Value
  | .lit (.int k n) => [.int k n]
  | _ => []
def lit1 : DataW Unit → List Value
  | .agg xs => xs.flatMap lit0
  | _ => []
def putCells (vs : Array Value) : Obj → Obj
  | .cells _ t frozen => .cells vs t frozen
  | o => o
/-- A WORLD FOR THE WITNESS: the settled one, the tables holding what their initialisers lay. -/
noncomputable def laidWorld (os : Os) : World :=
  { World.holding Tryz.prog os ⟨#[], #[], []⟩ with heap := (((World.holding Tryz.prog os ⟨#[], #[], []⟩).heap.modify 6 (putCells (lit1 Rows.laid_math_bits_deBruijn32tab).toArray)).modify 3 (putCells (lit1 Rows.laid_math_bits_deBruijn64tab).toArray)).modify 4 (putCells (lit1 Rows.laid_internal_strconv_uint64pow10).toArray) }
end Go.Proofs.YtkbchpaofmlhgaaGreatDoor

/- The operations digits and end. -/
namespace Go.Proofs.YtkbchpaofmlhgaaGreatDoor
open Go.RowKit

theorem digits_sem : OpSem 104 2 (fun l S => ∃ n B : Nat, l = [cellOf n, 0] ∧ n < 18446744073709551616 ∧ S.base = B ∧ 2 ≤ B ∧ B ≤ 36 ∧ S.made.length + (digL B n).length ≤ 200) (fun l S => (([0, 0], 0), { S with made := S.made ++ digL S.base.toNat (l.getD 0 0 % 18446744073709551616).toNat })) := by
  intro W B' s F S t f first cap l lv hok hS hF hfd
  obtain ⟨b, C, hC, hb, hA, hB⟩ := found_says hfd rfl rfl
  obtain ⟨g1, g2, k1, k2, b1, b2, e⟩ := (hA : DigAct C s true _ W)
  injection e with e
  injection e with e
  injection e with e1 e
  injection e1 with _ e1
  injection e with e2 _
  injection e2 with e2 e3 e4
  injection e2 with e2
  subst e1 e2 e3 e4
  refine ⟨rfl, enters_of Tryz.func233 (by kernel_rfl) rfl, fun hl hpre hc => ActDone.post ?_⟩
  obtain ⟨n, B, rfl, hn, hbase, hB0, hB1, hlen⟩ := hpre
  obtain ⟨ad, c, x, y, e, rfl, cx, cy⟩ := hc.two hl
  injection e with e1 e
  injection e with e2 _
  subst e1 e2
  have e : (cellOf n % 18446744073709551616).toNat = n := by unfold cellOf; split <;> omega
  show Calls Tryz.prog _ _ W (ActDone W s F S (([0, 0], 0), { S with made := S.made ++ digL S.base.toNat ((([cellOf n, 0] : List Int).getD 0 0) % 18446744073709551616).toNat }))
  rw [List.getD_cons_zero, e, hbase, Int.toNat_natCast]
  exact digits_clo W s g1 g2 ad c n B F S hS hok hbase hB0 hB1 hn hlen (fun hm => by have := hF _ hm; omega) (fun hm => by have := hF _ hm; omega) b1 b2 cx cy
end Go.Proofs.YtkbchpaofmlhgaaGreatDoor

/- PrimHolds: the law's walk. -/
namespace Go.Proofs.YtkbchpaofmlhgaaGreatDoor
open Go.RowKit

/-- how the number stands that is made -/
structure HoldAt (S : PS) (want : ByteArray) : Prop where
  ok : S.ok
  n : S.n = 1024
  st : S.st = [0, 0]
  bs : S.bs.length = 1024
  made : Bytes S.made
  want : want = strOfNums S.made.reverse
theorem HoldAt.size {S : PS} {want : ByteArray} (h : HoldAt S want) : want.size = S.made.length := by
  rw [h.want, strOf_size (fun x hx => h.made x (List.mem_reverse.1 hx)), List.length_reverse]
theorem strOf_cons (c : UInt8) (l : List Int) : strOfNums ((c.toNat : Int) :: l) = ⟨#[c]⟩ ++ strOfNums l := by
  apply ByteArray.ext
  apply Array.ext'
  rw [ByteArray.data_append, Array.toList_append, strOfNums_data, strOfNums_data, List.map_cons]
  simp
theorem HoldAt.more {S : PS} {want : ByteArray} (h : HoldAt S want) (hl : S.made.length < 200) (c : UInt8) : HoldAt { S with made := S.made ++ [(c.toNat : Int)] } (⟨#[c]⟩ ++ want) := by
  have hc : 0 ≤ ((c.toNat : Nat) : Int) ∧ ((c.toNat : Nat) : Int) ≤ 255 := by have := c.toNat_lt; omega
  refine ⟨⟨h.ok.1, by show (S.made ++ [(c.toNat : Int)]).length ≤ 200; rw [List.length_append]; exact hl, h.ok.2.2⟩, h.n, h.st, h.bs, h.made.append (fun x hx => by rw [List.mem_singleton.1 hx]; exact hc), ?_⟩
  show _ = strOfNums (S.made ++ [(c.toNat : Int)]).reverse
  rw [List.reverse_append, h.want]
  exact (strOf_cons c _).symm
section
variable {w0 w : World} {s : Nat} {S : PS}
theorem live_begin (h : Live w0 w s S) (hok : S.ok) (hst : S.st.length ≤ 100) : Calls Tryz.prog 14 #[.pointer (some ⟨s, 0, none⟩), .int .i64 102] w fun e w' => e = .returned (.int .i64 0) ∧ Live w0 w' s { S with made := [] } := by
  have h := live_doP (T := { S with made := [] }) h begin_sem (by decide) (by decide) (by decide) (by decide) hok S.st [] [] (by simp) rfl (by omega) trivial rfl rfl (by simp; omega)
  rwa [List.append_nil] at h
theorem live_digits (h : Live w0 w s S) (hok : S.ok) (n : Nat) (hn : n < 18446744073709551616) (hst : S.st = [cellOf n, 0]) (hb : S.base = (10 : Nat)) (hlen : S.made.length + (digL 10 n).length ≤ 200) : Calls Tryz.prog 14 #[.pointer (some ⟨s, 0, none⟩), .int .i64 104] w fun e w' => e = .returned (.int .i64 0) ∧ Live w0 w' s { S with st := [0, 0], made := S.made ++ digL 10 n } := by
  have e : (cellOf n % 18446744073709551616).toNat = n := by unfold cellOf; split <;> omega
  exact live_doP (T := { S with st := [], made := S.made ++ digL 10 n }) h digits_sem (by decide) (by decide) (by decide) (by decide) hok [] [cellOf n, 0] [0, 0] hst rfl (by rw [hst]; simp) ⟨n, 10, rfl, hn, hb, by decide, by decide, hlen⟩ (by
    show (([0, 0], 0), ({ S with st := [], made := S.made ++ digL (PS.base { S with st := [] }).toNat ((([cellOf n, 0] : List Int).getD 0 0) % 18446744073709551616).toNat } : PS)) = _
    rw [List.getD_cons_zero, e, show PS.base { S with st := [] } = S.base from rfl, hb]
    rfl) rfl (by decide)
theorem live_hold (h : Live w0 w s S) (hok : S.ok) (c : Int) (hc : 0 ≤ c ∧ c ≤ 255) (hst : S.st = [0, 0, c]) (hl : S.made.length < 200) : Calls Tryz.prog 14 #[.pointer (some ⟨s, 0, none⟩), .int .i64 105] w fun e w' => e = .returned (.int .i64 0) ∧ Live w0 w' s { S with st := [0, 0], made := S.made ++ [c] } :=
  live_doP (T := { S with st := [0, 0], made := S.made ++ [c] }) h hold_sem (by decide) (by decide) (by decide) (by decide) hok [0, 0] [c] [] hst rfl (by rw [hst]; simp) trivial (by
    unfold holdF
    rw [if_pos hl, List.getD_cons_zero, show c % 256 = c by omega]) rfl (by decide)
theorem live_full (h : Live w0 w s S) (hok : S.ok) (c : Int) (hst : S.st = [0, 0, c]) (hl : ¬ S.made.length < 200) : Calls Tryz.prog 14 #[.pointer (some ⟨s, 0, none⟩), .int .i64 105] w fun e w' => e = .returned (.int .i64 (-17)) ∧ Live w0 w' s S := by
  have hD := live_do h hold_sem (by decide) (by decide) (by decide) (by decide) hok (by rw [hst]; simp) (fun _ => trivial)
  have e : doP 1 holdF S = (-17, S) := by
    unfold doP
    rw [if_neg (by rw [hst]; simp)]
    have e1 : ∀ l T, T.made = S.made → holdF l T = (([], -17), T) := fun l T hT => by unfold holdF; rw [if_neg (by rw [hT]; exact hl)]
    rw [e1 (List.drop (S.st.length - 1) S.st) { S with st := List.take (S.st.length - 1) S.st } rfl]
    rfl
  rw [e] at hD
  exact hD
theorem live_drop (h : Live w0 w s S) (c : Int) (hst : S.st = [0, 0, c]) : Calls Tryz.prog 14 #[.pointer (some ⟨s, 0, none⟩), .int .i64 29] w fun e w' => e = .returned (.int .i64 0) ∧ Live w0 w' s { S with st := [0, 0] } :=
  (h.keep.step fun F hS => st_drop (rest := [0, 0]) hS hst (by decide)).mono fun _ _ ⟨h1, h2, _⟩ => ⟨h1, h2.live⟩
theorem live_end (h : Live w0 w s S) (hok : S.ok) (hn : S.n = 1024) (hst : S.st = [0, 0]) : Calls Tryz.prog 14 #[.pointer (some ⟨s, 0, none⟩), .int .i64 107] w fun e w' => e = .returned (.int .i64 0) ∧ Live w0 w' s { S with st := [((768 - S.made.length : Nat) : Int), (S.made.length : Int)], bs := wrtL S.bs (768 - S.made.length) S.made.reverse } :=
  live_doP (T := { S with st := [], bs := wrtL S.bs (768 - S.made.length) S.made.reverse }) h end_sem (by decide) (by decide) (by decide) (by decide) hok [] [0, 0] [((768 - S.made.length : Nat) : Int), (S.made.length : Int)] hst rfl (by rw [hst]; simp) hn rfl rfl (by simp)
end
theorem ten_digits (n : Nat) (hn : n ≤ 4294967295) : (digL 10 n).length ≤ 10 := by
  have key : ∀ k n, n < 10 ^ (k + 1) → (digL 10 n).length ≤ k + 1 := by
    intro k
    induction k with
    | zero => intro n h; rw [digL_last 10 n (by omega)]; simp
    | succ k ih =>
      intro n h
      rcases Nat.lt_or_ge n 10 with h1 | h1
      · rw [digL_last 10 n h1]; simp
      · rw [digL_more 10 n (by decide) h1, List.length_cons]
        have := ih (n / 10) (by rw [Nat.pow_succ] at h; omega)
        omega
  exact key 9 n (by omega)
theorem digL_bytes (B n : Nat) : Bytes (digL B n) := fun x hx => numsU_bytes _ x (List.mem_reverse.1 hx)
set_option maxRecDepth 100000 in
set_option maxHeartbeats 3200000 in
theorem PrimHolds_walk (l : List Int) (v : Value) (x : Int) (w : World) (hl : ArgK .u8 w v l) (hu : ∀ y ∈ l, 0 ≤ y ∧ y ≤ 255) (hx : 0 ≤ x ∧ x ≤ 4294967295) :
    Calls Tryz.prog 8 #[v, .int .u32 x] w fun e w' => e = .returned (.bool true) ∧ Touch [] w w' := by
  obtain ⟨a, c, rfl, hlc, hc, hcell⟩ := hl
  have hSh := fun w => shown_any w
  obtain ⟨z, rfl⟩ : ∃ z : Nat, x = z := ⟨x.toNat, by omega⟩
  have hz : z ≤ 4294967295 := by omega
  have hTx := fun w => text_any z 10 (by omega) (by decide) (by decide) w
  have e2 : two z = #[.int .i64 (z : Int), .int .i64 0] := by
    unfold two pl ph
    rw [Nat.mod_eq_of_lt (by omega), Nat.div_eq_of_lt (by omega), small_cell z (by omega), small_cell 0 (by decide)]
    rfl
  rw [e2] at hTx
  clear e2
  obtain ⟨D, hD⟩ : ∃ D : ByteArray, ⟨(baseL 10 z).toArray⟩ = D := ⟨_, rfl⟩
  rw [hD] at hTx
  have HDg : Hid (D = strOfNums (digL 10 z).reverse) := by
    show D = _
    unfold digL
    rw [List.reverse_reverse, numsU_str, hD]
  clear hD
  obtain ⟨n, hn⟩ : ∃ n, l.length = n := ⟨_, rfl⟩
  have hmn : min (n : Int) 220 = (min n 220 : Nat) := by omega
  obtain ⟨q, hq⟩ : ∃ q, min n 220 = q := ⟨_, rfl⟩
  rw [hq] at hmn
  rw [hn] at hlc hcell ⊢
  have hq1 : q ≤ n := by omega
  have HL := Lib.hid (And.intro hn (And.intro hcell hu))
  clear hq hn hcell hu
  go_enter Tryz.func8, Tryz.ntmps8
  go_wp2_with fail
  refine (hSh _).mono ?_
  rintro _ w1 ⟨rfl, t1⟩
  have hN := live_new w w1 t1
  clear hSh t1
  go_wp2_with fail
  refine hN.mono ?_
  rintro _ w2 ⟨s, S, rfl, hL, hok, h1, h2, h3, _, h5, h6⟩
  clear hN
  have HS := Lib.hid (And.intro hL (And.intro hok (And.intro h1 (And.intro h2 (And.intro h3 h6)))))
  clear hL hok h1 h2 h3 h5 h6
  have ez : IntKind.i64.wrap (z : Int) = (z : Int) := by rw [IntKind.wrap_i64]; omega
  go_wp2_with fail
  refine (hTx _).mono ?_
  rintro _ w3 ⟨rfl, t3⟩
  have hL := HS.out.1.quiet t3
  have hSt := live_stack hL
  have bM := Blk.new w3 36 #[.int .i64 (z : Int), .int .i64 0]
  have hPu := live_put (hL.quiet ((Touch.refl [] w3).alloc (.cells #[.int .i64 (z : Int), .int .i64 0] 36))) _ [(z : Int), 0] (CellsAt.blk (cs := [(z : Int), 0]) bM 2) (by show S.st.length + 2 ≤ 128; rw [HS.out.2.2.2.1]; decide)
  rw [HS.out.2.2.2.1, List.nil_append] at hPu
  clear hTx hL t3 bM
  go_wp2_with fail
  refine hSt.mono ?_
  rintro _ _ ⟨rfl, rfl⟩
  clear hSt
  go_wp2_with fail
  refine hPu.mono ?_
  rintro _ w4 ⟨rfl, hL4⟩
  have hBg := live_begin hL4 HS.out.2.1 (by simp)
  clear hPu hL4
  go_wp2_with fail
  refine hBg.mono ?_
  rintro _ w5 ⟨rfl, hL5⟩
  have hten := ten_digits z hz
  have hDg := live_digits hL5 ⟨HS.out.2.1.1, by simp, HS.out.2.1.2.2⟩ z (by omega) (by rw [small_cell z (by omega)]) (by show getF S.bs 0 = _; rw [HS.out.2.2.2.2.1, base0]; rfl) (by show ([] : List Int).length + _ ≤ 200; simp; omega)
  clear hBg hL5
  go_wp2_with fail
  refine hDg.mono ?_
  rintro _ w6 ⟨rfl, hL6⟩
  have H0 : Hid (∃ S', Live w w6 s S' ∧ HoldAt S' D) := ⟨_, hL6, ⟨HS.out.2.1.1, by show ([] ++ digL 10 z).length ≤ 200; rw [List.nil_append]; omega, HS.out.2.1.2.2⟩, HS.out.2.2.1, rfl, by
    show S.bs.length = 1024
    rw [HS.out.2.2.2.2.1]
    unfold bs0
    rw [putF_len, List.length_replicate], by
    show Bytes ([] ++ digL 10 z)
    rw [List.nil_append]
    exact digL_bytes 10 z, by
    show D = strOfNums ([] ++ digL 10 z).reverse
    rw [List.nil_append]
    exact HDg.out⟩
  clear hDg hL6 hten HDg HS
  go_wp2_with fail
  go_loopw [52, 9] (fun iv sv wr => ∃ (j : Nat) (want : ByteArray) (S : PS), j ≤ q ∧ iv = .int .i64 j ∧ sv = .string want ∧ Live w wr s S ∧ HoldAt S want) (fun iv _ _ => q - (intOf iv).toNat)
  case atStart =>
    obtain ⟨S, h1, h2⟩ := H0.out
    exact ⟨0, D, S, Nat.zero_le _, rfl, rfl, h1, h2⟩
  case round =>
    obtain ⟨j, want, S, hj, rfl, rfl, hL, hT⟩ := hrel
    have hws := hT.size
    have h200 := hT.ok.2.1
    by_cases hlt : j < q
    · have hlt2 : (j : Int) < q := by omega
      obtain ⟨g, off, rfl, hce⟩ := HL.out.2.1 j (by omega)
      have hce := cell_quiet hL.t hce
      have hux : 0 ≤ l.getD j 0 ∧ l.getD j 0 ≤ 255 := by
        have hjl : j < l.length := by have := HL.out.1; omega
        have : l.getD j 0 = l[j] := by simp [List.getD, List.getElem?_eq_getElem hjl]
        rw [this]
        exact HL.out.2.2 _ (List.getElem_mem hjl)
      obtain ⟨u, hu⟩ : ∃ u : UInt8, l.getD j 0 = (u.toNat : Int) := ⟨UInt8.ofNat (l.getD j 0).toNat, by rw [UInt8.toNat_ofNat']; omega⟩
      rw [hu] at hce
      have hu255 := u.toNat_lt
      have ew : IntKind.i64.wrap ((u.toNat : Nat) : Int) = (u.toNat : Int) := by rw [IntKind.wrap_i64]; omega
      have ej : IntKind.i64.wrap ((j : Int) + 1) = (j + 1 : Nat) := by rw [IntKind.wrap_i64]; omega
      have hSt := live_stack hL
      have hPu := live_push hL (by rw [hT.st]; decide) (u.toNat : Int)
      rw [hT.st] at hPu
      obtain ⟨k, hk⟩ : ∃ k, S.made.length = k := ⟨_, rfl⟩
      rw [hk] at hws h200
      have HT := Lib.hid (And.intro hT (And.intro hj hk))
      have hsz : want.size ≤ 200 := by omega
      clear hL hT hj hu hux hk hlt
      by_cases hm : k < 200
      · have gw : ¬ (want.size : Int) ≥ 200 := by omega
        clear hws h200
        go_wp2_with fail
        refine hSt.mono ?_
        rintro _ _ ⟨rfl, rfl⟩
        clear hSt
        go_wp2_with fail
        refine hPu.mono ?_
        rintro _ w7 ⟨rfl, hL7⟩
        have hH := live_hold hL7 HT.out.1.ok (u.toNat : Int) (by omega) rfl (by show S.made.length < 200; rw [HT.out.2.2]; exact hm)
        clear hPu hL7
        go_wp2_with fail
        refine hH.mono ?_
        rintro _ w8 ⟨rfl, hL8⟩
        have hcv := conv_one w8 u
        have H8 : Hid (Live w (w8.alloc (.cells #[.int .u8 (u.toNat : Int)] 5)) s { S with st := [0, 0], made := S.made ++ [(u.toNat : Int)] }) := hL8.quiet ((Touch.refl [] w8).alloc _)
        have HM : Hid (HoldAt { S with st := [0, 0], made := S.made ++ [(u.toNat : Int)] } (⟨#[u]⟩ ++ want)) := by
          have h := HT.out.1.more (by rw [HT.out.2.2]; exact hm) u
          exact ⟨h.ok, h.n, rfl, h.bs, h.made, h.want⟩
        clear hH hL8 hm
        go_wp2_with fail
        refine ⟨⟨j + 1, ⟨#[u]⟩ ++ want, _, by omega, vint (by omega), rfl, H8.out, HM.out⟩, ?_⟩
        simp only [intOf]
        omega
      · have gw : (want.size : Int) ≥ 200 := by omega
        clear hws h200
        go_wp2_with fail
        refine hSt.mono ?_
        rintro _ _ ⟨rfl, rfl⟩
        clear hSt
        go_wp2_with fail
        refine hPu.mono ?_
        rintro _ w7 ⟨rfl, hL7⟩
        have hH := live_full hL7 HT.out.1.ok (u.toNat : Int) rfl (by show ¬ S.made.length < 200; rw [HT.out.2.2]; exact hm)
        clear hPu hL7
        go_wp2_with fail
        refine hH.mono ?_
        rintro _ w8 ⟨rfl, hL8⟩
        have hD := live_drop hL8 (u.toNat : Int) rfl
        clear hH hL8
        go_wp2_with fail
        refine hD.mono ?_
        rintro _ w9 ⟨rfl, hL9⟩
        have HM : Hid (Live w w9 s { S with st := [0, 0] } ∧ HoldAt { S with st := [0, 0] } want) := ⟨hL9, HT.out.1.ok, HT.out.1.n, rfl, HT.out.1.bs, HT.out.1.made, HT.out.1.want⟩
        clear hD hL9 hm
        go_wp2_with fail
        refine ⟨⟨j + 1, want, _, by omega, vint (by omega), rfl, HM.out.1, HM.out.2⟩, ?_⟩
        simp only [intOf]
        omega
    · obtain rfl : j = q := by omega
      have hE := live_end hL hT.ok hT.n hT.st
      obtain ⟨k, hk⟩ : ∃ k, S.made.length = k := ⟨_, rfl⟩
      obtain ⟨p, hp⟩ : ∃ p, 768 - k = p := ⟨_, rfl⟩
      rw [hk] at hws h200
      rw [hk, hp] at hE
      have e2 : IntKind.i64.wrap ((768 : Int) - (k : Int)) = (p : Int) := by rw [IntKind.wrap_i64]; omega
      have hpk : p + k ≤ 1024 := by omega
      have HT := Lib.hid (And.intro hT (And.intro hk hp))
      clear hL hT hj hlt hk hp
      go_wp2_with fail
      refine hE.mono ?_
      rintro _ w7 ⟨rfl, hL7⟩
      have hSt := live_stack hL7
      have hAl := live_all hL7 (by simp)
      have H7 := Lib.hid hL7
      clear hE hL7
      go_wp2_with fail
      refine hSt.mono ?_
      rintro _ _ ⟨rfl, rfl⟩
      clear hSt
      go_wp2_with fail
      refine hAl.mono ?_
      rintro _ w8 ⟨v8, rfl, hg, _, t8⟩
      obtain ⟨gg, cc, y0, y1, ey, rfl, c0, c1⟩ := hg.two rfl
      injection ey with ey1 ey2
      injection ey2 with ey2 _
      subst ey1 ey2
      have hL8 := H7.out.quiet t8
      have x0 := cell_quiet (Touch.refl [] w8).drew c0
      have x1 := cell_quiet (Touch.refl [] w8).drew c1
      have hM := live_mem (hL8.quiet (Touch.refl [] w8).drew)
      have hTt := live_text (hL8.quiet (Touch.refl [] w8).drew) p k (by show p + k ≤ S.n; rw [HT.out.1.n]; exact hpk)
      have ett : PS.text { S with st := [(p : Int), (k : Int)], bs := wrtL S.bs p S.made.reverse } p k = want := by
        show strOfNums (cutL (wrtL S.bs p S.made.reverse) p k) = want
        have h := cut_noted S.bs S.made.reverse p (by rw [HT.out.1.bs]; omega)
        rw [List.length_reverse, HT.out.2.1] at h
        rw [h, HT.out.1.want]
      rw [ett] at hTt
      have H8 := Lib.hid hL8.t
      clear hAl hg t8 hL8 ett hpk
      go_upto_region 27 with fail
      go_region_with (first | (go_at_call 31; refine hM.mono ?_; rintro _ _ ⟨rfl, rfl⟩) | (go_at_call 32; refine hTt.mono ?_; rintro _ w9 ⟨rfl, t9⟩; have H9 := Lib.hid (H8.out.drew.trans t9 (by simp)); clear t9))
      all_goals go_wp2_with fail
      all_goals go_ret
      all_goals exact ⟨rfl, H9.out⟩
end Go.Proofs.YtkbchpaofmlhgaaGreatDoor

/- PrimHolds: its card, from its walk. -/
namespace Go.Proofs.YtkbchpaofmlhgaaGreatDoor
open Go.ChangeShapes Go.WideShapes Go.ChangeAt Go.RowKit
open Go.ChangeMaps (open_string shut_string)

set_option maxRecDepth 100000 in
theorem primHolds_contract (H : Type) (enc : TypeId × Value → H) (W : World) (base : Nat) (args : Array Value) (ds gs : List (DataW H)) (before : List MemPlace)
    (hval : ∀ (j : Nat) t v, Tryz.f8.params[j]? = some t → args[j]? = some v → Value.okWide Tryz.prog W .any base t v)
    (hW : DataW.Whole enc Tryz.prog Tryz.f8.params.toList Rows.primHoldsSpec.vars false W args.toList ds gs before) :
    Calls Tryz.prog 8 args W fun e W' => ∃ v, e = .returned v ∧ Rows.primHoldsSpec.post enc Tryz.prog Tryz.f8 false true false false W args v W' := by
  have hW' := hW
  obtain ⟨p, q, hA0, hV, rfl, _, _⟩ := hW
  have hA : DataW.TrodAll enc Tryz.prog W 0 (fun _ => true) true Tryz.f8.params.toList args.toList ds p := hA0
  rw [Tryz.params8] at hA hval
  obtain ⟨v0, v1, d0, d1, p0, p1, rfl, rfl, rfl, h0, h1⟩ := trodAll_2 hA
  obtain ⟨l0, hL0, hB0⟩ := open_kind Tryz.underlying66 Tryz.underlying5 (by kernel_rfl) (hval 0 66 v0 rfl rfl) h0
  obtain ⟨x1, rfl, rfl, rfl, wx1⟩ := open_int Tryz.underlying67 (hval 1 67 v1 rfl rfl) h1
  refine (PrimHolds_walk l0 v0 x1 W hL0 (fun x hx => wf_u8 (hB0 x hx)) (wf_u32 wx1)).mono fun e W' ⟨he, hb⟩ => ?_
  subst he
  exact ⟨_, rfl, law_post laidOut (by rw [Tryz.params8]; exact of_decide_eq_true (by kernel_rfl)) rfl rfl Tryz.underlying4 hW' (fun l hl => by subst hl; rfl) (hb.below (Nat.le_refl _) (by simp))⟩

theorem primHolds_laid_met (os : Os) : laidMet Tryz.prog Rows.primHoldsRow.laid ((laidWorld os).forCall (fun _ _ => 0) ⟨#[], #[.slice none 0 0, .int .u32 0], []⟩).memory :=
  laidMet_of_run' 8 (by kernel_rfl) (by kernel_rfl)
theorem primHolds_reads (os : Os) {H : Type} (enc : TypeId × Value → H) : ∃ places, DataW.whole enc Tryz.prog ((laidWorld os).forCall (fun _ _ => 0) ⟨#[], #[.slice none 0 0, .int .u32 0], []⟩).memory Tryz.f8.params.toList Rows.primHoldsSpec.vars false (#[.slice none 0 0, .int .u32 0] : Array Value).toList 8 = some ([.nil, .lit (.int .u32 0)], [], places) :=
  ⟨[], by kernel_rfl⟩

set_option maxRecDepth 100000 in
theorem primHolds_lifted (os : Os) (started : os.Started) (H : Type) (enc : TypeId × Value → H) (F : Stop.Interp) :
    ReturnsInHanded {} Tryz.checked os 8 .any ((OpenSpec.ofChange Rows.primHoldsSpec).preRow enc Tryz.prog Tryz.f8 Rows.primHoldsRow.domain false Rows.primHoldsRow.laid) (((OpenSpec.ofChange Rows.primHoldsSpec).at F).post enc Tryz.prog Tryz.f8 false true false false) := by
  obtain ⟨places, hx⟩ := primHolds_reads os enc
  refine returnsInHanded_of_row (C := Tryz.checked) (s := OpenSpec.ofChange Rows.primHoldsSpec) own started (by kernel_rfl) Tryz.func8
    (witness_row_at (enc := enc) (C := Tryz.checked) false (laidWorld os) #[.slice none 0 0, .int .u32 0] rfl (by kernel_rfl) (by kernel_rfl) (by kernel_rfl)
      (OpenSpec.preRow_of_cond 8 hx (by kernel_rfl) (fun k hk => by cases hk) (by kernel_rfl) (primHolds_laid_met os))) ?_
  intro W base args ds gs before hval hW _ _ _ _ _ _
  exact primHolds_contract H enc W base args ds gs before hval hW

theorem primHolds_said : Rows.PrimHoldsSaid :=
  OpenClaim.holds_of_cond 8 Tryz.f8 rfl rfl rfl rfl rfl rfl rfl ⟨rfl, rfl, rfl, rfl, rfl⟩ rfl rfl rfl rfl rfl (by kernel_rfl) Tryz.func8 (by kernel_rfl)
    (of_decide_eq_true (by kernel_rfl)) (by unfold Func.isWrapper; first | (rw [if_pos (by decide +kernel)]; kernel_rfl) | (rw [if_neg (by decide +kernel)]; exact ⟨rfl, rfl⟩))
    (fun os started H enc _ F => by rw [OpenClaim.pre_eq_preRow]; exact primHolds_lifted os started H enc F)

theorem primHolds_plain (f : FuncId) (fn : Func) (hf : Tryz.pinned.checked.prog.funcNamed "rhyton/rhytonlaw13.PrimHolds" = some f) (hfn : Tryz.pinned.checked.prog.funcs[f]? = some fn) :
    false = Tryz.pinned.checked.prog.looks [] ∧ ∀ (j : Nat) t, fn.params[j]? = some t → Tryz.pinned.checked.prog.wantsStandIn t = false := by
  obtain rfl : f = 8 := Option.some.inj ((show Tryz.prog.funcNamed "rhyton/rhytonlaw13.PrimHolds" = some 8 by kernel_rfl).symm.trans hf) |>.symm
  obtain rfl : fn = Tryz.f8 := (Option.some.inj (Tryz.func8.symm.trans hfn)).symm
  refine ⟨by kernel_rfl, fun j t ht => ?_⟩
  rw [Tryz.params8] at ht
  have hm := Array.mem_of_getElem? ht
  simp only [List.mem_toArray, List.mem_cons, List.not_mem_nil, or_false] at hm
  rcases hm with rfl | rfl
  · exact (show Tryz.prog.wantsStandIn 66 = false by kernel_rfl)
  · exact (show Tryz.prog.wantsStandIn 67 = false by kernel_rfl)

theorem PrimHolds_card : Rows.PrimHoldsCardSaid :=
  Claim7.holds_tied_plain_at .later [] _ _ _ _ primHolds_said (fun _ h => by cases h) (by kernel_rfl) (fun _ h => by cases h) primHolds_row_tie rfl ⟨rfl, rfl⟩ (by kernel_rfl) rfl primHolds_plain (by kernel_rfl)

#print axioms PrimHolds_card
end Go.Proofs.YtkbchpaofmlhgaaGreatDoor
