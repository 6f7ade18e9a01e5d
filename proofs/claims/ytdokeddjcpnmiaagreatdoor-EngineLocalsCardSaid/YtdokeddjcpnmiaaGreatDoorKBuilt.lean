import Derived.Test.YtdokeddjcpnmiaaGreatDoorJTabX
import Derived.Test.YtdokeddjcpnmiaaGreatDoorKTaX
import Derived.Test.YtdokeddjcpnmiaaGreatDoorKEngK
/- An engine that has the words of the table (the law's built). -/
namespace Go.Proofs.YtdokeddjcpnmiaaGreatDoor
open Go.RowKit
namespace En

def wordsT : List (Int × Int × Int) := (preL 5).map fun x => (x.2.1, x.2.2, 0)
theorem table_may : (preL 5).all (fun x => decide (1 ≤ x.2.1 ∧ x.2.1 ≤ 4 ∧ 1 ≤ x.2.2 ∧ x.2.2 ≤ kcount x.2.1)) = true := by kernel_rfl
theorem table_len : (preL 5).length = 180 := by kernel_rfl
def BuiltIs (w : World) (e : Ending) (w' : World) : Prop := ∃ g p F S, e = .returned (.pointer (some ⟨g, 0, none⟩)) ∧ EngAt w' g p F { M.new S ins0' with words := wordsT } ∧ (∀ x ∈ F, w.heap.size ≤ x) ∧ Touch [] w w' ∧ S.n = 1024 ∧ S.st = [] ∧ S.bs = putF (List.replicate 1024 0) 0 10 8 ∧ S.here = 8 ∧ S.out = [] ∧ S.made = []
set_option maxRecDepth 100000 in
set_option maxHeartbeats 3200000 in
theorem built_any (w : World) (ml : Int) (hml : w.cell? ⟨3, 0, none⟩ = some (.int .i64 ml)) : Calls Tryz.prog 11 #[] w (BuiltIs w) := by
  have hM := made_any w
  go_enter Tryz.func11, Tryz.ntmps11
  go_wp2_with fail
  refine hM.mono ?_
  rintro _ w0 ⟨g, p, F, S, rfl, hE, hF, t0, hS⟩
  have hA := All_rows w0
  have H0 := Lib.hid (And.intro hE (And.intro hF (And.intro t0 hS)))
  have HML := Lib.hid hml
  clear hM hE hF t0 hS hml
  go_wp2_with fail
  refine hA.mono ?_
  rintro _ w1 ⟨v, rfl, ⟨L, hL, hrow⟩, t1⟩
  have hn : L.length = 180 := by
    have e := congrArg List.length hL
    rw [List.length_map, table_len] at e
    exact e
  obtain ⟨r, c, rfl⟩ : ∃ r c, v = .slice (some ⟨r, 0, none⟩) 180 c := by
    rcases Go.Joins.ownsRow_forms hrow with ⟨_, hz⟩ | ⟨g, cap, e⟩
    · omega
    · exact ⟨g, cap, by rw [e, hn]⟩
  have hE1 := H0.out.1.touch t1 (by simp)
  have hrB : w0.heap.size ≤ r := (hrow.lt r rfl).1
  have hrF : r ∉ F := fun hx => by have := H0.out.1.lt r hx; omega
  have HK0 : Hid (Keep w1 g p F { M.new S ins0' with words := wordsT.take 0 } w1) := Lib.hid (Keep.refl hE1)
  have HR := Lib.hid (And.intro hL (And.intro hrow (And.intro t1 (And.intro hn hrF))))
  clear hL hrow t1 hn hA hE1 hrB hrF
  go_wp2_with fail
  go_loopw [9] (fun iv wr => ∃ k : Nat, k ≤ 180 ∧ iv = .int .i64 k ∧ Keep w1 g p F { M.new S ins0' with words := wordsT.take k } wr) (fun iv _ => 180 - (intOf iv).toNat)
  case atStart => exact ⟨0, by omega, rfl, HK0.out⟩
  case round =>
    obtain ⟨k, hk, rfl, hK⟩ := hrel
    rcases Nat.lt_or_ge k 180 with hlt | hge
    · obtain ⟨y, hy⟩ : ∃ y, L[k]? = some y := ⟨_, List.getElem?_eq_getElem (by rw [HR.out.2.2.2.1]; exact hlt)⟩
      have hx : (preL 5)[k]? = some (keyB y) := by rw [← HR.out.1, List.getElem?_map, hy]; rfl
      obtain ⟨yn, yk, yv, y3, y4⟩ := y
      have hmay := List.all_eq_true.1 table_may _ (List.mem_of_getElem? hx)
      have hmay := of_decide_eq_true hmay
      simp only [keyB] at hmay
      obtain ⟨Fk, hEk, tk, sk⟩ := hK
      have hrr := row_touch HR.out.2.1 tk (by intro z hz; simp only [rowOf, List.mem_cons, List.not_mem_nil, or_false] at hz; rw [hz]; exact HR.out.2.2.2.2)
      have hcl : ∀ j u, (L.flatMap bCells)[j]? = some u → wr.cell? ⟨r, j, none⟩ = some u := fun j u hj => by
        have h := hrr.cells (g := r) rfl j u hj
        first
          | exact h
          | (rw [Addr.add_lit, Nat.zero_add] at h; exact h)
      have c0 : wr.cell? ⟨r, k * 5, none⟩ = some (.string yn) := hcl (k * 5) _ ((flat_five L k _ hy 0 (by omega)).trans rfl)
      have c1 : wr.cell? ⟨r, k * 5 + 1, none⟩ = some (.int .i64 yk) := hcl (k * 5 + 1) _ ((flat_five L k _ hy 1 (by omega)).trans rfl)
      have c2 : wr.cell? ⟨r, k * 5 + 2, none⟩ = some (.int .i64 yv) := hcl (k * 5 + 2) _ ((flat_five L k _ hy 2 (by omega)).trans rfl)
      have c3 : wr.cell? ⟨r, k * 5 + 3, none⟩ = some (.bool y3) := hcl (k * 5 + 3) _ ((flat_five L k _ hy 3 (by omega)).trans rfl)
      have c4 : wr.cell? ⟨r, k * 5 + 4, none⟩ = some (.bool y4) := hcl (k * 5 + 4) _ ((flat_five L k _ hy 4 (by omega)).trans rfl)
      have hwk : (wordsT.take k).length = k := by
        rw [List.length_take]
        unfold wordsT
        rw [List.length_map, table_len]
        omega
      have hnext : wordsT.take (k + 1) = wordsT.take k ++ [(yk, yv, 0)] := by
        have hl : k < wordsT.length := by unfold wordsT; rw [List.length_map, table_len]; exact hlt
        rw [List.take_succ_eq_append_getElem hl]
        congr 1
        have : wordsT[k]? = some (yk, yv, 0) := by unfold wordsT; rw [List.getElem?_map, hx]; rfl
        rw [List.getElem?_eq_getElem hl] at this
        injection this with this
        rw [this]
      have tA := (Touch.refl [] wr).alloc (.cells #[.string yn, .int .i64 yk, .int .i64 yv, .bool y3, .bool y4] 79)
      have hmk : wr.cell? ⟨3, 0, none⟩ = some (.int .i64 ml) := by
        have h1 := cell_quiet H0.out.2.2.1 HML.out
        have h2 := cell_quiet HR.out.2.2.1 h1
        have hsz := World.block_lt_of_cell? _ _ HML.out
        exact (tk.cell (World.block_lt_of_cell? _ _ h2) (fun hx => by have h4 := H0.out.2.1 _ hx; have h5 : (3 : Nat) < w.heap.size := hsz; have h6 : w.heap.size ≤ (3 : Nat) := h4; omega)).trans h2
      have hAdd := Add_ok (m := { M.new S ins0' with words := wordsT.take k }) (hEk.touch tA (by simp)) (by show (wordsT.take k).length < 600; omega) yk yv 0 (.inl hmay) ml (cell_quiet tA hmk)
      have e1 : ({ M.new S ins0' with words := wordsT.take k } : M).words.length = k := hwk
      rw [e1] at hAdd
      have HT := Lib.hid (And.intro tk (And.intro sk (And.intro tA hnext)))
      clear hEk tk sk hrr hcl hwk hnext tA hmk e1 hmay hx hy
      go_wp2_with fail
      refine hAdd.mono ?_
      rintro _ w5 ⟨rfl, hK5⟩
      have HK5 : Hid (Keep w1 g p F { M.new S ins0' with words := wordsT.take (k + 1) } w5) := Lib.hid (by
        rw [HT.out.2.2.2]
        exact Keep.trans HT.out.1 HT.out.2.1 (Keep.pre HT.out.2.2.1 hK5))
      clear hK5 hAdd
      go_wp2_with fail
      go_roundw
      case rel => exact ⟨k + 1, by omega, vint (by omega), HK5.out⟩
      case measure => simp only [intOf]; omega
    · obtain rfl : k = 180 := by omega
      have HF : Hid (∃ F', EngAt wr g p F' { M.new S ins0' with words := wordsT } ∧ (∀ x ∈ F', w.heap.size ≤ x) ∧ Touch [] w wr) := Lib.hid (by
        obtain ⟨F', h1, h2, h3⟩ := hK
        rw [show wordsT.take 180 = wordsT from List.take_of_length_le (by unfold wordsT; rw [List.length_map, table_len]; exact Nat.le_refl _)] at h1
        have s1 := H0.out.2.2.1.size
        have s2 := HR.out.2.2.1.size
        refine ⟨F', h1, fun x hx => ?_, (H0.out.2.2.1.trans HR.out.2.2.1 (by simp)).trans h2 (fun x hx => .inr (H0.out.2.1 x hx))⟩
        rcases h3 x hx with h | h
        · exact H0.out.2.1 x h
        · omega)
      clear hK
      go_wp2_with fail
      go_ret
      obtain ⟨F', h1, h2, h3⟩ := HF.out
      exact ⟨g, p, F', S, rfl, h1, h2, h3, H0.out.2.2.2⟩
end En
end Go.Proofs.YtdokeddjcpnmiaaGreatDoor
