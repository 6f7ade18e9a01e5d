import Derived.Test.YtdokeddjcpnmiaaGreatDoorJPDo
import Derived.Test.YtdokeddjcpnmiaaGreatDoorKMayX
import Derived.Test.YtdokeddjcpnmiaaGreatDoorKRunX
import Derived.Test.YtdokeddjcpnmiaaGreatDoorJPlX
import Derived.Test.YtdokeddjcpnmiaaGreatDoorJStkA
import Derived.Test.YtdokeddjcpnmiaaGreatDoorKTaX
/- A state of 1,024 bytes that is made (out of what PrimTells' head has). -/
namespace Go.Proofs.YtdokeddjcpnmiaaGreatDoor
open Go.RowKit

def bs0 : List Int := putF (List.replicate 1024 0) 0 10 8
theorem New1024 (w : World) : Calls Tryz.prog 29 #[.int .i64 1024] w fun e w' => ∃ s F S, e = .returned (.tuple #[.pointer (some ⟨s, 0, none⟩), .int .i64 0]) ∧ StateAt w' s F S ∧ (∀ x ∈ F, w.heap.size ≤ x) ∧ Touch [] w w' ∧ S.ok ∧ S.n = 1024 ∧ S.st = [] ∧ S.bs = bs0 ∧ S.here = 8 ∧ S.out = [] ∧ S.made = [] := by
  refine (PNew_ok 1024 (by decide) (by decide) (by decide) w).mono ?_
  rintro _ w' ⟨s, F, S, rfl, h1, h2, h3, h4, h5, h6, h7, h8, h9⟩
  exact ⟨s, F, S, rfl, h1, h2, h3, ⟨by rw [h8]; decide, by rw [h9]; decide, by rw [h4]; decide, by rw [h4]⟩, h4, h5, h6, h7, h8, h9⟩
theorem Sub.touch {w w1 : World} {F : List Nat} (hF : ∀ x ∈ F, w.heap.size ≤ x) (t : Touch [] w w1) {w2 : World} (t2 : Touch F w1 w2) : Touch [] w w2 := t.trans t2 (fun g hg => .inr (hF g hg))
theorem Sub.new {w w1 : World} {F F' : List Nat} (hF : ∀ x ∈ F, w.heap.size ≤ x) (hs : Sub w1 F F') (hz : w.heap.size ≤ w1.heap.size) : ∀ x ∈ F', w.heap.size ≤ x := fun x hx => by
  rcases hs x hx with h | h
  · exact hF x h
  · omega
theorem PAll {w : World} {s : Nat} {F : List Nat} {S : PS} (h : StateAt w s F S) (hl : S.st.length ≤ 128) : Calls Tryz.prog 26 #[.pointer (some ⟨S.k, 0, none⟩)] w fun e w' => ∃ v, e = .returned v ∧ w'.ownsRow w.heap.size 33 1 v S.st.length (cells S.st) ∧ Touch [] w w' := by
  obtain ⟨FS, ov, mv, hp, _⟩ := h
  exact All_any w S.k FS S.st hp.stk (by omega)
/-- a row that was handed out lies on, behind what touches older blocks -/
theorem row_on {w w1 w2 : World} {F : List Nat} {v : Value} {l : List Int} {s : Nat} {S : PS} (h : w1.ownsRow w.heap.size 33 1 v l.length (cells l)) (hS : StateAt w s F S) (t : Touch F w1 w2) : CellsG w2 v l :=
  row_cellsG (row_touch h t (fun x hx hm => by have h1 := own_from h x hx; have h2 := hS.lt x hm; omega))
end Go.Proofs.YtdokeddjcpnmiaaGreatDoor

/- The document's example (the law's shown). -/
namespace Go.Proofs.YtdokeddjcpnmiaaGreatDoor
open Go.RowKit
namespace En

/-- words of which none is of kind 1 -/
def RestNP (W : List (Int × Int × Int)) (C E : List Int) : Prop := ∀ m : M, m.words = W → m.code = C → m.ends = E → CtlOk m ∧ NoLoc m ∧ ∀ x n v, m.word x ≠ some (1, n, v)
theorem RestNP.of {m : M} (h1 : CtlOk m) (h2 : NoLoc m) (h3 : ∀ x n v, m.word x ≠ some (1, n, v)) : RestNP m.words m.code m.ends := by
  intro m' e1 e2 e3
  obtain ⟨a, b⟩ := RestIs.of h1 h2 m' e1 e2 e3
  refine ⟨a, b, fun x n v h => h3 x n v ?_⟩
  unfold M.word at h ⊢
  rw [e1] at h
  exact h
def noD : Int → PS → Int × PS := fun _ S => (777, S)
theorem noD_fine : FineD PS.ok noD := fun _ _ h1 h2 => ⟨h1, h2⟩
theorem step_np {w wB : World} {g : Nat} {p : Lay} {F : List Nat} {m : M} (h : EngAt w g p F m) (hR : RestK PS.ok RestNP m) (hF0 : ∀ x ∈ F, wB.heap.size ≤ x) (tB : Touch [] wB w) :
    Calls Tryz.prog 27 #[.pointer (some ⟨g, 0, none⟩)] w fun R w' => R = .returned (stV (m.step noD).1) ∧ Keep w g p F (m.step noD).2 w' := by
  obtain ⟨h1, h2, h3⟩ := hR.rest m rfl rfl rfl
  refine Step_sem h hR.fine hF0 tB noD_fine (fun n hn => ?_) h1 (fun op a v ha ho => ?_)
  · rcases hn with ⟨_, v, hw⟩ | ⟨_, a, v, u, _, hw⟩
    · exact absurd hw (h3 _ _ _)
    · exact absurd hw (h3 _ _ _)
  · have := h2 _ _ _ _ _ ha
    omega
/-- an engine that lies in what was made since w -/
structure OwnF (w : World) (g : Nat) (p : Lay) (F : List Nat) (m : M) (W : World) : Prop where
  eng : EngAt W g p F m
  new : ∀ x ∈ F, w.heap.size ≤ x
  touch : Touch [] w W
theorem OwnF.keep {w W W2 : World} {g : Nat} {p : Lay} {F : List Nat} {m m2 : M} (h : OwnF w g p F m W) (k : Keep W g p F m2 W2) : ∃ F2, OwnF w g p F2 m2 W2 ∧ Touch F W W2 ∧ Sub W F F2 := by
  obtain ⟨F2, h1, h2, h3⟩ := k
  refine ⟨F2, ⟨h1, fun x hx => ?_, h.touch.trans h2 (fun x hx => .inr (h.new x hx))⟩, h2, h3⟩
  rcases h3 x hx with e | e
  · exact h.new x e
  · exact Nat.le_trans h.touch.size e
theorem OwnF.quiet {w W W2 : World} {g : Nat} {p : Lay} {F : List Nat} {m : M} (h : OwnF w g p F m W) (t : Touch [] W W2) : OwnF w g p F m W2 := ⟨h.eng.touch t (by simp), h.new, h.touch.trans t (by simp)⟩
theorem ins_blk {w : World} {b : Nat} {t : TypeId} {L : List (Int × Int × Int)} (h : Blk w b t (L.flatMap insCells).toArray) (c : Nat) : InsAt w (.slice (some ⟨b, 0, none⟩) L.length c) L := by
  refine .inr ⟨b, 0, c, rfl, fun i x hx => ?_⟩
  have hg : ∀ j, j < 3 → (L.flatMap insCells)[i * 3 + j]? = (insCells x)[j]? := fun j hj => by
    clear h
    induction L generalizing i with
    | nil => cases hx
    | cons a t ih =>
      rw [List.flatMap_cons]
      cases i with
      | zero =>
        simp only [List.getElem?_cons_zero, Option.some.injEq] at hx
        rw [hx, Nat.zero_mul, Nat.zero_add, List.getElem?_append_left (by show j < 3; exact hj)]
      | succ i =>
        rw [List.getElem?_cons_succ] at hx
        rw [List.getElem?_append_right (by show 3 ≤ _; omega), show (i + 1) * 3 + j - (insCells a).length = i * 3 + j by show _ - 3 = _; omega]
        exact ih i hx
  refine ⟨?_, ?_, ?_⟩
  · rw [h.cell, List.getElem?_toArray, Nat.zero_add]
    exact (hg 0 (by omega)).trans rfl
  · rw [h.cell, List.getElem?_toArray, Nat.zero_add]
    exact (hg 1 (by omega)).trans rfl
  · rw [h.cell, List.getElem?_toArray, Nat.zero_add]
    exact (hg 2 (by omega)).trans rfl
end En
end Go.Proofs.YtdokeddjcpnmiaaGreatDoor

/- The document's example: the walk (the law's shown). -/
namespace Go.Proofs.YtdokeddjcpnmiaaGreatDoor
open Go.RowKit
namespace En

def shown1 (S : PS) : M := { (M.new S ins0').laid [(1, 0, 5), (15, 0, 0)] with words := [(5, 1, 0)] }
theorem shown_def (S : PS) : DefAt (shown1 S) (1 : Nat) [(1, 0, 5), (15, 0, 0)] :=
  defAt_of (pre := []) (post := []) (b := 0) (by decide) (show (1 : Nat) ≤ 1 by decide) rfl rfl rfl rfl (by intro x hx; simp at hx; rcases hx with rfl | rfl <;> decide)
theorem shown_fine (S : PS) (h : PS.ok S) (hst : S.st = []) : RestK PS.ok RestNP { shown1 S with nx := 1 } := by
  refine ⟨by show S.st.length ≤ 128; rw [hst]; decide, Nat.le_of_ble_eq_true rfl, Nat.le_of_ble_eq_true rfl, ⟨Nat.le_of_ble_eq_true rfl, by intro o ho; cases ho⟩, Nat.le_of_ble_eq_true rfl, Nat.le_of_ble_eq_true rfl, ?_, Nat.le_of_ble_eq_true rfl, h, fun _ _ h => h, RestNP.of ?_ ?_ ?_⟩
  · intro x hx
    have e : ({ shown1 S with nx := 1 } : M).ends = [4] := rfl
    rw [e, List.mem_singleton] at hx
    rw [hx]
    show (0 : Int) ≤ 4 ∧ (4 : Int) ≤ 4
    decide
  · intro x n v hw
    have e : ({ shown1 S with nx := 1 } : M).word x = (if x < 1 then none else [((5 : Int), (1 : Int), (0 : Int))][(x - 1).toNat]?) := rfl
    rw [e] at hw
    split at hw
    · cases hw
    · cases hh : (x - 1).toNat with
      | zero => rw [hh] at hw; cases hw
      | succ j => rw [hh] at hw; simp at hw
  · intro df on op a v hw
    unfold M.at_ at hw
    have e1 : ({ shown1 S with nx := 1 } : M).ends = [4] := rfl
    have e2 : ({ shown1 S with nx := 1 } : M).code = [1, 5, 15, 0] := rfl
    rw [e1] at hw
    split at hw
    · cases hw
    · rename_i hc
      have hdf : df = 1 := by
        have : ¬ (([4] : List Int).length : Int) < df := fun h => hc (.inr (.inl h))
        have h0 : ¬ df < 1 := fun h => hc (.inl h)
        simp at this
        omega
      subst hdf
      have hb : ({ shown1 S with nx := 1 } : M).begin_ 1 = 0 := rfl
      rw [hb] at hw hc
      have hon : on = 0 ∨ on = 1 := by
        have h1 : ¬ on < 0 := fun h => hc (.inr (.inr (.inl h)))
        have h2 : ¬ ((2 : Int) ≤ on) := fun h => hc (.inr (.inr (.inr h)))
        omega
      rw [e2] at hw
      injection hw with hw
      injection hw with h1 _
      rw [← h1]
      rcases hon with rfl | rfl <;> decide
  · intro x n v hw
    have e : ({ shown1 S with nx := 1 } : M).word x = (if x < 1 then none else [((5 : Int), (1 : Int), (0 : Int))][(x - 1).toNat]?) := rfl
    rw [e] at hw
    split at hw
    · cases hw
    · cases hh : (x - 1).toNat with
      | zero => rw [hh] at hw; cases hw
      | succ j => rw [hh] at hw; simp at hw
theorem shown_run (S : PS) (hst : S.st = []) (k : Nat) : M.run noD (k + 4) { shown1 S with nx := 1 } = M.run noD k ((shown1 S).go 0 0 [5] []) := by
  have hA := shown_def S
  have e : ({ shown1 S with nx := 1 } : M) = { (shown1 S).go 0 0 [] [] with nx := 1 } := by
    have : S = { S with st := [] } := by cases S; simp at hst; subst hst; rfl
    show ({ shown1 S with nx := 1 } : M) = { shown1 { S with st := [] } with nx := 1 }
    rw [← this]
  have hF : NoRead [⟨1, 0, 0, 0, 0, []⟩] := by unfold NoRead topF; decide
  rw [e]
  refine (next_call (m := shown1 S) (F := []) (k + 3) [] 0 0 1 1 0 (by decide) rfl (by decide) (show (1 : Int) ≤ 1 by decide) (by decide)).trans ?_
  refine (go_lit hA (by decide) hF (k + 2) 0 [] 0 5 rfl (by decide)).trans ?_
  refine (go_exit hA (by decide) hF (k + 1) 1 [5] 0 0 rfl (by decide)).trans ?_
  exact go_back (m := shown1 S) (F := []) (f := ⟨1, 0, 0, 0, 0, []⟩) k [5] rfl
end En
end Go.Proofs.YtdokeddjcpnmiaaGreatDoor

/- The document's example: the walk (the law's shown). -/
namespace Go.Proofs.YtdokeddjcpnmiaaGreatDoor
open Go.RowKit
namespace En

theorem RowR.own {w : World} {base : Nat} {v : Value} {L : List Int} (h : w.ownsRow base 33 1 v L.length (cells L)) : RowR w v L := by
  rcases h.2 with ⟨e, h0⟩ | ⟨g, cap, cur, e, _⟩
  · exact ⟨none, 0, by rw [e, h0], fun i hi => by omega⟩
  · subst e
    refine ⟨_, cap, rfl, fun i hi => ⟨g, 0, rfl, ?_⟩⟩
    rw [Nat.zero_add]
    have h2 := h.cells (g := g) rfl i _ (cells_get L i hi)
    first
      | exact h2
      | (rw [Addr.add_lit, Nat.zero_add] at h2; exact h2)
theorem EngAt.state {w : World} {g : Nat} {p : Lay} {F : List Nat} {m : M} (h : EngAt w g p F m) : ∃ FS, StateAt w p.s FS m.S := by
  obtain ⟨cv, ev, wv, Ff, FS, FI, hL, _⟩ := h
  exact ⟨FS, hL.st⟩
theorem all_eng {w : World} {g : Nat} {p : Lay} {F : List Nat} {m : M} (h : EngAt w g p F m) (hl : m.S.st.length ≤ 128) : Calls Tryz.prog 26 #[.pointer (some ⟨m.S.k, 0, none⟩)] w fun e w' => ∃ a c, e = .returned (.slice a m.S.st.length c) ∧ RowR w' (.slice a m.S.st.length c) m.S.st ∧ Touch [] w w' := by
  obtain ⟨FS, hS⟩ := h.state
  refine (PAll hS hl).mono ?_
  rintro e w' ⟨v, rfl, hr, t⟩
  have hR := RowR.own hr
  obtain ⟨a, c, rfl, hc⟩ := hR
  exact ⟨a, c, rfl, ⟨a, c, rfl, hc⟩, t⟩
theorem status_kind (x y z : Value) (W : World) : (Instr.field 48 (.agg #[x, y, z]) 0).run Tryz.prog W = .ok x W := by kernel_rfl
theorem status_sort (x y z : Value) (W : World) : (Instr.field 48 (.agg #[x, y, z]) 1).run Tryz.prog W = .ok y W := by kernel_rfl
theorem status_n (x y z : Value) (W : World) : (Instr.field 48 (.agg #[x, y, z]) 2).run Tryz.prog W = .ok z W := by kernel_rfl
set_option maxRecDepth 100000 in
set_option maxHeartbeats 3200000 in
theorem shown_any (w : World) (ml : Int) (hml : w.cell? ⟨3, 0, none⟩ = some (.int .i64 ml)) : Calls Tryz.prog 10 #[] w fun e w' => e = .returned (.bool true) ∧ Touch [] w w' := by
  have hM := made_any w
  have HML := Lib.hid hml
  have hfk := status_kind
  clear hml
  go_enter Tryz.func10, Tryz.ntmps10
  go_wp2_with fail
  refine hM.mono ?_
  rintro _ w0 ⟨g, p, F, S, rfl, hE, hF, t0, hn, hst, hbs, hh, hout, hmade⟩
  have hok : PS.ok S := ⟨by rw [hout]; decide, by rw [hmade]; decide, by rw [hn]; decide, by rw [hn]⟩
  have H0 := Lib.hid (And.intro (⟨hE, hF, t0⟩ : OwnF w g p F (M.new S ins0') w0) (And.intro hst hok))
  have bB := Blk.new w0 56 #[.int .u8 1, .int .i64 0, .int .i64 5, .int .u8 15, .int .i64 0, .int .i64 0]
  have tB := (Touch.refl [] w0).alloc (.cells #[.int .u8 1, .int .i64 0, .int .i64 5, .int .u8 15, .int .i64 0, .int .i64 0] 56)
  have hDef := Define_ok (hE.touch tB (by simp)) (Nat.zero_le _) (Nat.le_of_ble_eq_true rfl) [(1, 0, 5), (15, 0, 0)] (by decide) (by intro x hx; simp at hx; rcases hx with rfl | rfl <;> decide) (shown_may _) (.slice (some ⟨w0.heap.size, 0, none⟩) 2 2) (ins_blk (L := [(1, 0, 5), (15, 0, 0)]) bB 2) (fun b hb => by
    simp only [rowOf, List.mem_cons, List.not_mem_nil, or_false] at hb
    rw [hb]
    refine ⟨by rw [World.size_alloc]; omega, fun hx => ?_⟩
    have := hE.lt _ hx
    omega)
  rw [show (((M.new S ins0').ends.length : Int) + 1) = 1 from rfl] at hDef
  have HTB := Lib.hid tB
  clear hM hE hF t0 hn hst hbs hh hout hmade hok bB tB
  go_wp2_with fail
  refine hDef.mono ?_
  rintro _ w1 ⟨rfl, hK⟩
  obtain ⟨F1, hO1, _, _⟩ := (H0.out.1.quiet HTB.out).keep hK
  have hAdd := Add_ok hO1.eng (Nat.le_of_ble_eq_true rfl) 5 1 0 (.inr (.inl ⟨.inl rfl, by decide, by show (1 : Int) ≤ (1 : Int); decide⟩)) ml (cell_quiet hO1.touch HML.out)
  rw [show (((M.new S ins0').laid [(1, 0, 5), (15, 0, 0)]).words.length : Int) + 1 = 1 from rfl] at hAdd
  have HO1 := Lib.hid hO1
  clear hDef hK hO1
  go_wp2_with fail
  refine hAdd.mono ?_
  rintro _ w2 ⟨rfl, hK⟩
  obtain ⟨F2, hO2, _, _⟩ := HO1.out.keep hK
  have hEx := exec_yes hO2.eng (Nat.le_of_ble_eq_true rfl) 1 (5, 1, 0) rfl
  have HO2 := Lib.hid hO2
  clear hAdd hK hO2
  go_wp2_with fail
  refine hEx.mono ?_
  rintro _ w3 ⟨rfl, hK⟩
  obtain ⟨F3, hO3, _, _⟩ := HO2.out.keep hK
  have HO3 : Hid (OwnF w g p F3 { shown1 S with nx := 1 } w3) := Lib.hid hO3
  clear hEx hK hO3
  go_wp2_with fail
  go_loopw [38, 6] (fun iv ov wr => ∃ k : Nat, k ≤ 4 ∧ iv = .int .i64 k ∧ ov = .bool true ∧ ∃ F' m', OwnF w g p F' m' wr ∧ RestK PS.ok RestNP m' ∧ M.run noD (4 - k) m' = (ran, (shown1 S).go 0 0 [5] [])) (fun iv _ _ => 4 - (intOf iv).toNat)
  case atStart => exact ⟨0, by omega, rfl, rfl, F3, _, HO3.out, shown_fine S H0.out.2.2 H0.out.2.1, shown_run S H0.out.2.1 0⟩
  case round =>
    obtain ⟨k, hk, rfl, rfl, F', m', hO, hR, hr⟩ := hrel
    rcases Nat.lt_or_ge k 4 with hlt | hge
    · have hS := step_np hO.eng hR hO.new hO.touch
      have hr2 : (m'.step noD).1.1 = 1 ∧ M.run noD (4 - (k + 1)) (m'.step noD).2 = (ran, (shown1 S).go 0 0 [5] []) := by
        rw [show 4 - k = (4 - (k + 1)) + 1 by omega] at hr
        unfold M.run at hr
        by_cases h1 : (m'.step noD).1.1 = 1
        · rw [if_neg (fun h => h h1)] at hr
          exact ⟨h1, hr⟩
        · rw [if_pos h1] at hr
          rw [hr] at h1
          exact absurd rfl h1
      have hRs := hR.step noD_fine
      obtain ⟨⟨⟨sa, sb, sc⟩, m2⟩, hms⟩ : ∃ q, m'.step noD = q := ⟨_, rfl⟩
      rw [hms] at hS hr2 hRs
      obtain ⟨h1, hr2⟩ := hr2
      dsimp only at h1
      subst h1
      unfold stV at hS
      dsimp only at hS
      have HH := Lib.hid (And.intro hO (And.intro hRs hr2))
      clear hms hr hr2 hRs hR hO
      go_wp2_with fail
      refine hS.mono ?_
      rintro _ w5 ⟨rfl, hK⟩
      obtain ⟨F5, hO5, _, _⟩ := HH.out.1.keep hK
      have HO5 := Lib.hid hO5
      clear hS hK hO5
      go_wp2_with fail
      go_roundw
      case rel => exact ⟨k + 1, by omega, vint (by omega), rfl, F5, m2, HO5.out, HH.out.2.1, HH.out.2.2⟩
      case measure => simp only [intOf]; omega
    · obtain rfl : k = 4 := by omega
      have e : M.run noD (4 - 4) m' = (ran, m') := rfl
      rw [e] at hr
      injection hr with _ hr
      have hS := step_np hO.eng hR hO.new hO.touch
      rw [hr] at hO hS
      rw [step_halt ((shown1 S).go 0 0 [5] []) rfl rfl rfl] at hS
      unfold stV at hS
      dsimp only at hS
      have HH := Lib.hid hO
      clear hR hr e hO
      go_wp2_with fail
      refine hS.mono ?_
      rintro _ w5 ⟨rfl, hK⟩
      obtain ⟨F5, hO5, _, _⟩ := HH.out.keep hK
      have hSt := state_eng hO5.eng
      have HO5 := Lib.hid hO5
      clear hS hK hO5
      go_wp2_with fail
      refine hSt.mono ?_
      rintro _ _ ⟨rfl, rfl⟩
      have hSk := HO5.out.eng.stack_of
      clear hSt
      go_wp2_with fail
      refine hSk.mono ?_
      rintro _ _ ⟨rfl, rfl⟩
      have hAll := all_eng HO5.out.eng (Nat.le_of_ble_eq_true rfl)
      rw [show ((shown1 S).go 0 0 [5] []).S.st.length = 1 from rfl] at hAll
      clear hSk
      generalize ((shown1 S).go 0 0 [5] []).S.k = kk at *
      go_wp2_with fail
      refine hAll.mono ?_
      rintro _ w6 ⟨a, c, rfl, hR6, t6⟩
      have HR6 : Hid (RowR w6 (.slice a 1 c) [5]) := Lib.hid hR6
      have HT6 := Lib.hid (HO5.out.touch.trans t6 (by simp))
      have b7 := Blk.new w6 33 #[.int .i64 5]
      have t7 := (Touch.refl [] w6).alloc (.cells #[.int .i64 5] 33)
      have hSame := Same_eq (.slice a 1 c) (.slice (some ⟨w6.heap.size, 0, none⟩) 1 1) [5] _ (HR6.out.quiet t7) (RowR.blk (cs := [5]) b7 1) (by decide)
      have HT7 := Lib.hid (HT6.out.trans t7 (by simp))
      clear hR6 t6 b7 t7 hAll
      go_wp2_with fail
      refine hSame.mono ?_
      rintro _ w8 ⟨rfl, t8⟩
      have HT8 := Lib.hid (HT7.out.trans t8 (by simp))
      clear hSame t8
      go_wp2_with fail
      go_ret
      exact ⟨rfl, HT8.out⟩
end En
end Go.Proofs.YtdokeddjcpnmiaaGreatDoor
