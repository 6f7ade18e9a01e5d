import Derived.Test.YtdokeddjcpnmiaaGreatDoorJMapsA
import Derived.Deep.Cut
import Derived.Shelf.Abstract
/- The map of prim.memory (printed by wip/primmap.py). -/
namespace Go.Proofs.YtdokeddjcpnmiaaGreatDoor
open Go.RowKit

def memoryT : MTab := ⟨53, [8, 9, 10, 999, 11, 12, 999, 13, 14, 999, 15, 16, 999, 17, 18, 999, 19, 20, 999, 21, 22, 23, 999, 24, 25, 999, 26, 27, 999, 28, 29, 999, 30, 31, 999, 32, 33, 999, 34, 35, 999, 36, 37, 999, 38, 999, 39, 999, 40, 41, 999, 42, 2], [(3, 73), (6, 75), (9, 74), (12, 76), (15, 77), (18, 78), (22, 79), (25, 80), (28, 81), (31, 82), (34, 83), (37, 84), (40, 85), (43, 86), (45, 87), (47, 88), (50, 89)], 8, 51, 42, 52, 2⟩
def memoryPV (B b : Nat) (s : Nat) : Nat → Value → World → Prop
  | 1, v, _ => v = .func (.func 194) #[] #[.pointer (some ⟨b, 0, none⟩)]
  | 2, v, W => ActAt B 1 149 182 (.func (.func 194) #[] #[.pointer (some ⟨b, 0, none⟩)]) v W
  | 4, v, _ => v = .func (.func 196) #[] #[.pointer (some ⟨b, 0, none⟩)]
  | 5, v, W => ActAt B 1 149 182 (.func (.func 196) #[] #[.pointer (some ⟨b, 0, none⟩)]) v W
  | 7, v, _ => v = .func (.func 199) #[] #[.pointer (some ⟨b, 0, none⟩)]
  | 8, v, W => ActAt B 2 281 132 (.func (.func 199) #[] #[.pointer (some ⟨b, 0, none⟩)]) v W
  | 10, v, _ => v = .func (.func 200) #[] #[.pointer (some ⟨b, 0, none⟩)]
  | 11, v, W => ActAt B 2 281 132 (.func (.func 200) #[] #[.pointer (some ⟨b, 0, none⟩)]) v W
  | 13, v, _ => v = .func (.func 202) #[] #[.pointer (some ⟨b, 0, none⟩)]
  | 14, v, W => ActAt B 2 281 132 (.func (.func 202) #[] #[.pointer (some ⟨b, 0, none⟩)]) v W
  | 16, v, _ => v = .func (.func 203) #[] #[.pointer (some ⟨b, 0, none⟩)]
  | 17, v, W => ActAt B 1 278 215 (.func (.func 203) #[] #[.pointer (some ⟨b, 0, none⟩)]) v W
  | 19, v, _ => v = .pointer (some ⟨s, 0, none⟩)
  | 20, v, _ => v = .func (.func 204) #[.pointer (some ⟨s, 0, none⟩)] #[]
  | 21, v, W => ActAt B 3 281 132 (.func (.func 204) #[.pointer (some ⟨s, 0, none⟩)] #[]) v W
  | 23, v, _ => v = .func (.func 205) #[] #[.pointer (some ⟨b, 0, none⟩)]
  | 24, v, W => ActAt B 3 281 132 (.func (.func 205) #[] #[.pointer (some ⟨b, 0, none⟩)]) v W
  | 26, v, _ => v = .func (.func 207) #[] #[.pointer (some ⟨b, 0, none⟩)]
  | 27, v, W => ActAt B 3 281 132 (.func (.func 207) #[] #[.pointer (some ⟨b, 0, none⟩)]) v W
  | 29, v, _ => v = .func (.func 209) #[] #[.pointer (some ⟨b, 0, none⟩)]
  | 30, v, W => ActAt B 0 274 223 (.func (.func 209) #[] #[.pointer (some ⟨b, 0, none⟩)]) v W
  | 32, v, _ => v = .func (.func 210) #[] #[.pointer (some ⟨b, 0, none⟩)]
  | 33, v, W => ActAt B 1 281 132 (.func (.func 210) #[] #[.pointer (some ⟨b, 0, none⟩)]) v W
  | 35, v, _ => v = .func (.func 211) #[] #[.pointer (some ⟨b, 0, none⟩)]
  | 36, v, W => ActAt B 1 281 132 (.func (.func 211) #[] #[.pointer (some ⟨b, 0, none⟩)]) v W
  | 38, v, _ => v = .func (.func 212) #[] #[.pointer (some ⟨b, 0, none⟩)]
  | 39, v, W => ActAt B 1 281 132 (.func (.func 212) #[] #[.pointer (some ⟨b, 0, none⟩)]) v W
  | 41, v, _ => v = .func (.func 214) #[] #[.pointer (some ⟨b, 0, none⟩)]
  | 42, v, W => ActAt B 0 281 132 (.func (.func 214) #[] #[.pointer (some ⟨b, 0, none⟩)]) v W
  | 44, v, W => ActAt B 1 274 223 (.func (.func 216) #[] #[]) v W
  | 46, v, W => ActAt B 1 274 223 (.func (.func 217) #[] #[]) v W
  | 48, v, _ => v = .func (.func 218) #[] #[.pointer (some ⟨b, 0, none⟩)]
  | 49, v, W => ActAt B 1 278 215 (.func (.func 218) #[] #[.pointer (some ⟨b, 0, none⟩)]) v W
  | _, _, _ => True
def memoryOp (k : Int) : Nat := (([(73, 2), (75, 5), (74, 8), (76, 11), (77, 14), (78, 17), (79, 21), (80, 24), (81, 27), (82, 30), (83, 33), (84, 36), (85, 39), (86, 42), (87, 44), (88, 46), (89, 49)] : List (Int × Nat)).find? fun p => p.1 == k).elim 0 (·.2)
def memoryG (B b : Nat) (s : Nat) (k : Int) (v : Value) (W : World) : Prop := memoryOp k ≠ 0 ∧ memoryPV B b s (memoryOp k) v W
theorem memory_stays (B b : Nat) (s : Nat) : MStays (memoryPV B b s) (memoryG B b s) := by
  have hp : ∀ A C, OnB A C → ∀ j v, memoryPV B b s j v A → memoryPV B b s j v C := by
    intro A C o j v h
    unfold memoryPV at h ⊢
    split at h <;> first | exact h.on o | exact h
  exact ⟨hp, fun A C o k v h => ⟨h.1, hp A C o _ v h.2⟩⟩
theorem memory_ok : memoryT.ok = true := by kernel_rfl
set_option maxRecDepth 100000 in
set_option maxHeartbeats 4000000 in
theorem memory_any (w : World) (s m : Nat) (hm : w.cell? ⟨s, 2, none⟩ = some (.pointer (some ⟨m, 0, none⟩))) : Calls Tryz.prog 134 #[.pointer (some ⟨s, 0, none⟩)] w fun e w' => ∃ mb l b, e = .returned (.map (some mb)) ∧ w.heap.size ≤ b ∧ IMap w' mb l ∧ (∀ k v, atKey l k = some v → memoryG w.heap.size b s k v w') ∧ (∀ p ∈ memoryT.ins, (atKey l p.2).isSome = true) ∧ Touch [] w w' ∧ Blk w' b 89 #[.pointer (some ⟨m, 0, none⟩)] := by
  have bN := Blk.new w 89 #[.pointer (some ⟨m, 0, none⟩)]
  have tN := (Touch.refl [] w).alloc (.cells #[.pointer (some ⟨m, 0, none⟩)] 89)
  go_enter Tryz.func134, Tryz.ntmps134
  go_upto_region 2 with (fail)
  generalize w.alloc (Obj.cells #[Value.pointer (some ⟨m, 0, none⟩)] 89) = W0 at *
  have HN := Lib.hid (And.intro bN tN)
  have hw0 := tN.size
  clear bN tN hm
  have hEdivides := enters_of Tryz.func182 (by kernel_rfl) rfl
  have hEgives := enters_of Tryz.func176 (by kernel_rfl) rfl
  have hEmay := enters_of Tryz.func124 (by kernel_rfl) rfl
  have hEtells := enters_of Tryz.func198 (by kernel_rfl) rfl
  have hmf : ∀ (fn : Fn) (first cap : Array Value) (w : World), (Instr.makeFunc fn first cap).run Tryz.prog w = .ok (.func fn first cap) w := fun _ _ _ _ => rfl
  have hmm := @run_makeMap Tryz.prog
  have hS := memory_stays w.heap.size w.heap.size s
  refine region_inv_plain (fun listed a Wx => ∃ f : Nat → Value, a = { tmps := #[Value.pointer (some ⟨s, 0, none⟩), undef, f 2, Value.pointer (some ⟨w.heap.size, 0, none⟩), Value.pointer (some ⟨s, 0, none⟩), Value.pointer (some ⟨s, 0, none⟩), Value.pointer (some ⟨s, 2, none⟩), Value.pointer (some ⟨m, 0, none⟩), f 8, f 9, f 10, f 11, f 12, f 13, f 14, f 15, f 16, f 17, f 18, f 19, f 20, f 21, f 22, f 23, f 24, f 25, f 26, f 27, f 28, f 29, f 30, f 31, f 32, f 33, f 34, f 35, f 36, f 37, f 38, f 39, f 40, f 41, f 42], defers := [] } ∧ MInv memoryT (memoryPV w.heap.size w.heap.size s) (memoryG w.heap.size w.heap.size s) W0 listed f Wx) (by kernel_rfl) ?h0 ?step ?fin
  case h0 =>
    intro listed hs hl
    exact ⟨fun j => if j = 2 then .map none else undef, rfl, MInv.start hl (Touch.refl [] W0)⟩
  case step =>
    rintro listed a Wx ⟨f, rfl, hI⟩ hC i o ho hli hdep
    try dsimp only
    have hi : i < 53 := (Array.getElem?_eq_some_iff.1 ho).1
    have HI := Lib.hid hI
    have t := hI.t
    clear hI
    rcases (by omega : i = 0 ∨ i = 1 ∨ i = 2 ∨ i = 3 ∨ i = 4 ∨ i = 5 ∨ i = 6 ∨ i = 7 ∨ i = 8 ∨ i = 9 ∨ i = 10 ∨ i = 11 ∨ i = 12 ∨ i = 13 ∨ i = 14 ∨ i = 15 ∨ i = 16 ∨ i = 17 ∨ i = 18 ∨ i = 19 ∨ i = 20 ∨ i = 21 ∨ i = 22 ∨ i = 23 ∨ i = 24 ∨ i = 25 ∨ i = 26 ∨ i = 27 ∨ i = 28 ∨ i = 29 ∨ i = 30 ∨ i = 31 ∨ i = 32 ∨ i = 33 ∨ i = 34 ∨ i = 35 ∨ i = 36 ∨ i = 37 ∨ i = 38 ∨ i = 39 ∨ i = 40 ∨ i = 41 ∨ i = 42 ∨ i = 43 ∨ i = 44 ∨ i = 45 ∨ i = 46 ∨ i = 47 ∨ i = 48 ∨ i = 49 ∨ i = 50 ∨ i = 51 ∨ i = 52) with rfl | rfl | rfl | rfl | rfl | rfl | rfl | rfl | rfl | rfl | rfl | rfl | rfl | rfl | rfl | rfl | rfl | rfl | rfl | rfl | rfl | rfl | rfl | rfl | rfl | rfl | rfl | rfl | rfl | rfl | rfl | rfl | rfl | rfl | rfl | rfl | rfl | rfl | rfl | rfl | rfl | rfl | rfl | rfl | rfl | rfl | rfl | rfl | rfl | rfl | rfl | rfl | rfl
    · cases (show some _ = some o from ho)
      refine wpOp_of ho rfl ?_
      have hn : ∀ p ∈ memoryT.ins, listed.getD p.1 false = false := by
        intro p hp
        simp only [memoryT, List.mem_cons, List.not_mem_nil, or_false] at hp
        rcases hp with rfl | rfl | rfl | rfl | rfl | rfl | rfl | rfl | rfl | rfl | rfl | rfl | rfl | rfl | rfl | rfl | rfl
        · exact not_listed_ (fun e => hC 3 _ rfl e { on := 0, ground := .data } (by simp) rfl) hli
        · exact not_listed_ (fun e => hC 6 _ rfl e { on := 0, ground := .data } (by simp) rfl) hli
        · exact not_listed_ (fun e => hC 9 _ rfl e { on := 0, ground := .data } (by simp) rfl) hli
        · exact not_listed_ (fun e => hC 12 _ rfl e { on := 0, ground := .data } (by simp) rfl) hli
        · exact not_listed_ (fun e => hC 15 _ rfl e { on := 0, ground := .data } (by simp) rfl) hli
        · exact not_listed_ (fun e => hC 18 _ rfl e { on := 0, ground := .data } (by simp) rfl) hli
        · exact not_listed_ (fun e => hC 22 _ rfl e { on := 0, ground := .data } (by simp) rfl) hli
        · exact not_listed_ (fun e => hC 25 _ rfl e { on := 0, ground := .data } (by simp) rfl) hli
        · exact not_listed_ (fun e => hC 28 _ rfl e { on := 0, ground := .data } (by simp) rfl) hli
        · exact not_listed_ (fun e => hC 31 _ rfl e { on := 0, ground := .data } (by simp) rfl) hli
        · exact not_listed_ (fun e => hC 34 _ rfl e { on := 0, ground := .data } (by simp) rfl) hli
        · exact not_listed_ (fun e => hC 37 _ rfl e { on := 0, ground := .data } (by simp) rfl) hli
        · exact not_listed_ (fun e => hC 40 _ rfl e { on := 0, ground := .data } (by simp) rfl) hli
        · exact not_listed_ (fun e => hC 43 _ rfl e { on := 0, ground := .data } (by simp) rfl) hli
        · exact not_listed_ (fun e => hC 45 _ rfl e { on := 0, ground := .data } (by simp) rfl) hli
        · exact not_listed_ (fun e => hC 47 _ rfl e { on := 0, ground := .data } (by simp) rfl) hli
        · exact not_listed_ (fun e => hC 50 _ rfl e { on := 0, ground := .data } (by simp) rfl) hli
      have h1 : listed.getD 51 false = false := not_listed_ (fun e => hC 51 _ rfl e { on := 0, ground := .data } (by simp) rfl) hli
      have h2 : listed.getD 52 false = false := not_listed_ (fun e => hC 52 _ rfl e { on := 0, ground := .phase } (by simp) rfl) hli
      refine wp_value (v := .map (some Wx.heap.size)) (w1 := Wx.alloc (.map #[] 0)) ?_ ⟨_, rfl, HI.out.made hS memory_ok (fun _ _ => trivial) hn h1 h2⟩
      clear hn h1 h2 hdep hC hli ho
      first | (go_simp; done) | (go_simp; rfl)
    · cases (show some _ = some o from ho)
      refine wpOp_of ho rfl ?_
      refine wp_value (v := .func (.func 194) #[] #[.pointer (some ⟨w.heap.size, 0, none⟩)]) (w1 := Wx) ?_ ⟨_, rfl, HI.out.val hS (i := 1) (d := 9) (by kernel_rfl) (Touch.refl [] Wx) rfl⟩
      clear hdep hC hli ho
      first | (go_simp; done) | (go_simp; rfl)
    · cases (show some _ = some o from ho)
      refine wpOp_of ho rfl ?_
      have g1 : f 9 = .func (.func 194) #[] #[.pointer (some ⟨w.heap.size, 0, none⟩)] := HI.out.pv 1 (by decide) (hdep { on := 1, ground := .data } (by simp) rfl)
      refine wp_enter (f := 124) (args := #[.int .i64 1, .func (.func 194) #[] #[.pointer (some ⟨w.heap.size, 0, none⟩)]]) (w1 := Wx) ?_ ((may_new 1 (.func 194) #[] #[.pointer (some ⟨w.heap.size, 0, none⟩)] Wx).mono ?_)
      · clear hdep hC hli ho
        first | (go_simp; done) | (go_simp; rfl)
      · rintro _ W1 ⟨v, rfl, hv, t1⟩
        exact ⟨_, rfl, _, rfl, HI.out.val hS (i := 2) (d := 10) (by kernel_rfl) t1 (hv.low (by have := t.size; omega))⟩
    · cases (show some _ = some o from ho)
      refine wpOp_of ho rfl ?_
      obtain ⟨mb, l, em, k1, k2, k3, k4⟩ := HI.out.map (hdep { on := 0, ground := .data } (by simp) rfl)
      have hv : memoryG w.heap.size w.heap.size s 73 (f 10) Wx := ⟨by decide, HI.out.pv 2 (by decide) (hdep { on := 2, ground := .data } (by simp) rfl)⟩
      obtain ⟨W1, hrun, hm1, t1⟩ := k2.update (P := Tryz.prog) Tryz.underlying184 Tryz.underlying3 73 (f 10)
      exact wp_put 184 (.tmp 8) (.const (.int .i64 73)) (.tmp 10) rfl (show f 8 = _ from em) rfl rfl hrun ⟨f, rfl, HI.out.put hS (i := 3) (key := 73) (by kernel_rfl) (fun _ _ => trivial) em k1 k2 k3 k4 hv hm1 t1⟩
    · cases (show some _ = some o from ho)
      refine wpOp_of ho rfl ?_
      refine wp_value (v := .func (.func 196) #[] #[.pointer (some ⟨w.heap.size, 0, none⟩)]) (w1 := Wx) ?_ ⟨_, rfl, HI.out.val hS (i := 4) (d := 11) (by kernel_rfl) (Touch.refl [] Wx) rfl⟩
      clear hdep hC hli ho
      first | (go_simp; done) | (go_simp; rfl)
    · cases (show some _ = some o from ho)
      refine wpOp_of ho rfl ?_
      have g4 : f 11 = .func (.func 196) #[] #[.pointer (some ⟨w.heap.size, 0, none⟩)] := HI.out.pv 4 (by decide) (hdep { on := 4, ground := .data } (by simp) rfl)
      refine wp_enter (f := 124) (args := #[.int .i64 1, .func (.func 196) #[] #[.pointer (some ⟨w.heap.size, 0, none⟩)]]) (w1 := Wx) ?_ ((may_new 1 (.func 196) #[] #[.pointer (some ⟨w.heap.size, 0, none⟩)] Wx).mono ?_)
      · clear hdep hC hli ho
        first | (go_simp; done) | (go_simp; rfl)
      · rintro _ W1 ⟨v, rfl, hv, t1⟩
        exact ⟨_, rfl, _, rfl, HI.out.val hS (i := 5) (d := 12) (by kernel_rfl) t1 (hv.low (by have := t.size; omega))⟩
    · cases (show some _ = some o from ho)
      refine wpOp_of ho rfl ?_
      obtain ⟨mb, l, em, k1, k2, k3, k4⟩ := HI.out.map (hdep { on := 0, ground := .data } (by simp) rfl)
      have hv : memoryG w.heap.size w.heap.size s 75 (f 12) Wx := ⟨by decide, HI.out.pv 5 (by decide) (hdep { on := 5, ground := .data } (by simp) rfl)⟩
      obtain ⟨W1, hrun, hm1, t1⟩ := k2.update (P := Tryz.prog) Tryz.underlying184 Tryz.underlying3 75 (f 12)
      exact wp_put 184 (.tmp 8) (.const (.int .i64 75)) (.tmp 12) rfl (show f 8 = _ from em) rfl rfl hrun ⟨f, rfl, HI.out.put hS (i := 6) (key := 75) (by kernel_rfl) (fun _ _ => trivial) em k1 k2 k3 k4 hv hm1 t1⟩
    · cases (show some _ = some o from ho)
      refine wpOp_of ho rfl ?_
      refine wp_value (v := .func (.func 199) #[] #[.pointer (some ⟨w.heap.size, 0, none⟩)]) (w1 := Wx) ?_ ⟨_, rfl, HI.out.val hS (i := 7) (d := 13) (by kernel_rfl) (Touch.refl [] Wx) rfl⟩
      clear hdep hC hli ho
      first | (go_simp; done) | (go_simp; rfl)
    · cases (show some _ = some o from ho)
      refine wpOp_of ho rfl ?_
      have g7 : f 13 = .func (.func 199) #[] #[.pointer (some ⟨w.heap.size, 0, none⟩)] := HI.out.pv 7 (by decide) (hdep { on := 7, ground := .data } (by simp) rfl)
      refine wp_enter (f := 198) (args := #[.int .i64 2, .func (.func 199) #[] #[.pointer (some ⟨w.heap.size, 0, none⟩)]]) (w1 := Wx) ?_ ((tells_new 2 (.func 199) #[] #[.pointer (some ⟨w.heap.size, 0, none⟩)] Wx).mono ?_)
      · clear hdep hC hli ho
        first | (go_simp; done) | (go_simp; rfl)
      · rintro _ W1 ⟨v, rfl, hv, t1⟩
        exact ⟨_, rfl, _, rfl, HI.out.val hS (i := 8) (d := 14) (by kernel_rfl) t1 (hv.low (by have := t.size; omega))⟩
    · cases (show some _ = some o from ho)
      refine wpOp_of ho rfl ?_
      obtain ⟨mb, l, em, k1, k2, k3, k4⟩ := HI.out.map (hdep { on := 0, ground := .data } (by simp) rfl)
      have hv : memoryG w.heap.size w.heap.size s 74 (f 14) Wx := ⟨by decide, HI.out.pv 8 (by decide) (hdep { on := 8, ground := .data } (by simp) rfl)⟩
      obtain ⟨W1, hrun, hm1, t1⟩ := k2.update (P := Tryz.prog) Tryz.underlying184 Tryz.underlying3 74 (f 14)
      exact wp_put 184 (.tmp 8) (.const (.int .i64 74)) (.tmp 14) rfl (show f 8 = _ from em) rfl rfl hrun ⟨f, rfl, HI.out.put hS (i := 9) (key := 74) (by kernel_rfl) (fun _ _ => trivial) em k1 k2 k3 k4 hv hm1 t1⟩
    · cases (show some _ = some o from ho)
      refine wpOp_of ho rfl ?_
      refine wp_value (v := .func (.func 200) #[] #[.pointer (some ⟨w.heap.size, 0, none⟩)]) (w1 := Wx) ?_ ⟨_, rfl, HI.out.val hS (i := 10) (d := 15) (by kernel_rfl) (Touch.refl [] Wx) rfl⟩
      clear hdep hC hli ho
      first | (go_simp; done) | (go_simp; rfl)
    · cases (show some _ = some o from ho)
      refine wpOp_of ho rfl ?_
      have g10 : f 15 = .func (.func 200) #[] #[.pointer (some ⟨w.heap.size, 0, none⟩)] := HI.out.pv 10 (by decide) (hdep { on := 10, ground := .data } (by simp) rfl)
      refine wp_enter (f := 198) (args := #[.int .i64 2, .func (.func 200) #[] #[.pointer (some ⟨w.heap.size, 0, none⟩)]]) (w1 := Wx) ?_ ((tells_new 2 (.func 200) #[] #[.pointer (some ⟨w.heap.size, 0, none⟩)] Wx).mono ?_)
      · clear hdep hC hli ho
        first | (go_simp; done) | (go_simp; rfl)
      · rintro _ W1 ⟨v, rfl, hv, t1⟩
        exact ⟨_, rfl, _, rfl, HI.out.val hS (i := 11) (d := 16) (by kernel_rfl) t1 (hv.low (by have := t.size; omega))⟩
    · cases (show some _ = some o from ho)
      refine wpOp_of ho rfl ?_
      obtain ⟨mb, l, em, k1, k2, k3, k4⟩ := HI.out.map (hdep { on := 0, ground := .data } (by simp) rfl)
      have hv : memoryG w.heap.size w.heap.size s 76 (f 16) Wx := ⟨by decide, HI.out.pv 11 (by decide) (hdep { on := 11, ground := .data } (by simp) rfl)⟩
      obtain ⟨W1, hrun, hm1, t1⟩ := k2.update (P := Tryz.prog) Tryz.underlying184 Tryz.underlying3 76 (f 16)
      exact wp_put 184 (.tmp 8) (.const (.int .i64 76)) (.tmp 16) rfl (show f 8 = _ from em) rfl rfl hrun ⟨f, rfl, HI.out.put hS (i := 12) (key := 76) (by kernel_rfl) (fun _ _ => trivial) em k1 k2 k3 k4 hv hm1 t1⟩
    · cases (show some _ = some o from ho)
      refine wpOp_of ho rfl ?_
      refine wp_value (v := .func (.func 202) #[] #[.pointer (some ⟨w.heap.size, 0, none⟩)]) (w1 := Wx) ?_ ⟨_, rfl, HI.out.val hS (i := 13) (d := 17) (by kernel_rfl) (Touch.refl [] Wx) rfl⟩
      clear hdep hC hli ho
      first | (go_simp; done) | (go_simp; rfl)
    · cases (show some _ = some o from ho)
      refine wpOp_of ho rfl ?_
      have g13 : f 17 = .func (.func 202) #[] #[.pointer (some ⟨w.heap.size, 0, none⟩)] := HI.out.pv 13 (by decide) (hdep { on := 13, ground := .data } (by simp) rfl)
      refine wp_enter (f := 198) (args := #[.int .i64 2, .func (.func 202) #[] #[.pointer (some ⟨w.heap.size, 0, none⟩)]]) (w1 := Wx) ?_ ((tells_new 2 (.func 202) #[] #[.pointer (some ⟨w.heap.size, 0, none⟩)] Wx).mono ?_)
      · clear hdep hC hli ho
        first | (go_simp; done) | (go_simp; rfl)
      · rintro _ W1 ⟨v, rfl, hv, t1⟩
        exact ⟨_, rfl, _, rfl, HI.out.val hS (i := 14) (d := 18) (by kernel_rfl) t1 (hv.low (by have := t.size; omega))⟩
    · cases (show some _ = some o from ho)
      refine wpOp_of ho rfl ?_
      obtain ⟨mb, l, em, k1, k2, k3, k4⟩ := HI.out.map (hdep { on := 0, ground := .data } (by simp) rfl)
      have hv : memoryG w.heap.size w.heap.size s 77 (f 18) Wx := ⟨by decide, HI.out.pv 14 (by decide) (hdep { on := 14, ground := .data } (by simp) rfl)⟩
      obtain ⟨W1, hrun, hm1, t1⟩ := k2.update (P := Tryz.prog) Tryz.underlying184 Tryz.underlying3 77 (f 18)
      exact wp_put 184 (.tmp 8) (.const (.int .i64 77)) (.tmp 18) rfl (show f 8 = _ from em) rfl rfl hrun ⟨f, rfl, HI.out.put hS (i := 15) (key := 77) (by kernel_rfl) (fun _ _ => trivial) em k1 k2 k3 k4 hv hm1 t1⟩
    · cases (show some _ = some o from ho)
      refine wpOp_of ho rfl ?_
      refine wp_value (v := .func (.func 203) #[] #[.pointer (some ⟨w.heap.size, 0, none⟩)]) (w1 := Wx) ?_ ⟨_, rfl, HI.out.val hS (i := 16) (d := 19) (by kernel_rfl) (Touch.refl [] Wx) rfl⟩
      clear hdep hC hli ho
      first | (go_simp; done) | (go_simp; rfl)
    · cases (show some _ = some o from ho)
      refine wpOp_of ho rfl ?_
      have g16 : f 19 = .func (.func 203) #[] #[.pointer (some ⟨w.heap.size, 0, none⟩)] := HI.out.pv 16 (by decide) (hdep { on := 16, ground := .data } (by simp) rfl)
      refine wp_enter (f := 182) (args := #[.int .i64 1, .func (.func 203) #[] #[.pointer (some ⟨w.heap.size, 0, none⟩)]]) (w1 := Wx) ?_ ((divides_new 1 (.func 203) #[] #[.pointer (some ⟨w.heap.size, 0, none⟩)] Wx).mono ?_)
      · clear hdep hC hli ho
        first | (go_simp; done) | (go_simp; rfl)
      · rintro _ W1 ⟨v, rfl, hv, t1⟩
        exact ⟨_, rfl, _, rfl, HI.out.val hS (i := 17) (d := 20) (by kernel_rfl) t1 (hv.low (by have := t.size; omega))⟩
    · cases (show some _ = some o from ho)
      refine wpOp_of ho rfl ?_
      obtain ⟨mb, l, em, k1, k2, k3, k4⟩ := HI.out.map (hdep { on := 0, ground := .data } (by simp) rfl)
      have hv : memoryG w.heap.size w.heap.size s 78 (f 20) Wx := ⟨by decide, HI.out.pv 17 (by decide) (hdep { on := 17, ground := .data } (by simp) rfl)⟩
      obtain ⟨W1, hrun, hm1, t1⟩ := k2.update (P := Tryz.prog) Tryz.underlying184 Tryz.underlying3 78 (f 20)
      exact wp_put 184 (.tmp 8) (.const (.int .i64 78)) (.tmp 20) rfl (show f 8 = _ from em) rfl rfl hrun ⟨f, rfl, HI.out.put hS (i := 18) (key := 78) (by kernel_rfl) (fun _ _ => trivial) em k1 k2 k3 k4 hv hm1 t1⟩
    · cases (show some _ = some o from ho)
      refine wpOp_of ho rfl ?_
      refine wp_value (v := .pointer (some ⟨s, 0, none⟩)) (w1 := Wx) ?_ ⟨_, rfl, HI.out.val hS (i := 19) (d := 21) (by kernel_rfl) (Touch.refl [] Wx) rfl⟩
      clear hdep hC hli ho
      first | (go_simp; done) | (go_simp; rfl)
    · cases (show some _ = some o from ho)
      refine wpOp_of ho rfl ?_
      have g19 : f 21 = .pointer (some ⟨s, 0, none⟩) := HI.out.pv 19 (by decide) (hdep { on := 19, ground := .data } (by simp) rfl)
      refine wp_value (v := .func (.func 204) #[.pointer (some ⟨s, 0, none⟩)] #[]) (w1 := Wx) ?_ ⟨_, rfl, HI.out.val hS (i := 20) (d := 22) (by kernel_rfl) (Touch.refl [] Wx) rfl⟩
      clear hdep hC hli ho
      first | (go_simp; done) | (go_simp; rfl)
    · cases (show some _ = some o from ho)
      refine wpOp_of ho rfl ?_
      have g20 : f 22 = .func (.func 204) #[.pointer (some ⟨s, 0, none⟩)] #[] := HI.out.pv 20 (by decide) (hdep { on := 20, ground := .data } (by simp) rfl)
      refine wp_enter (f := 198) (args := #[.int .i64 3, .func (.func 204) #[.pointer (some ⟨s, 0, none⟩)] #[]]) (w1 := Wx) ?_ ((tells_new 3 (.func 204) #[.pointer (some ⟨s, 0, none⟩)] #[] Wx).mono ?_)
      · clear hdep hC hli ho
        first | (go_simp; done) | (go_simp; rfl)
      · rintro _ W1 ⟨v, rfl, hv, t1⟩
        exact ⟨_, rfl, _, rfl, HI.out.val hS (i := 21) (d := 23) (by kernel_rfl) t1 (hv.low (by have := t.size; omega))⟩
    · cases (show some _ = some o from ho)
      refine wpOp_of ho rfl ?_
      obtain ⟨mb, l, em, k1, k2, k3, k4⟩ := HI.out.map (hdep { on := 0, ground := .data } (by simp) rfl)
      have hv : memoryG w.heap.size w.heap.size s 79 (f 23) Wx := ⟨by decide, HI.out.pv 21 (by decide) (hdep { on := 21, ground := .data } (by simp) rfl)⟩
      obtain ⟨W1, hrun, hm1, t1⟩ := k2.update (P := Tryz.prog) Tryz.underlying184 Tryz.underlying3 79 (f 23)
      exact wp_put 184 (.tmp 8) (.const (.int .i64 79)) (.tmp 23) rfl (show f 8 = _ from em) rfl rfl hrun ⟨f, rfl, HI.out.put hS (i := 22) (key := 79) (by kernel_rfl) (fun _ _ => trivial) em k1 k2 k3 k4 hv hm1 t1⟩
    · cases (show some _ = some o from ho)
      refine wpOp_of ho rfl ?_
      refine wp_value (v := .func (.func 205) #[] #[.pointer (some ⟨w.heap.size, 0, none⟩)]) (w1 := Wx) ?_ ⟨_, rfl, HI.out.val hS (i := 23) (d := 24) (by kernel_rfl) (Touch.refl [] Wx) rfl⟩
      clear hdep hC hli ho
      first | (go_simp; done) | (go_simp; rfl)
    · cases (show some _ = some o from ho)
      refine wpOp_of ho rfl ?_
      have g23 : f 24 = .func (.func 205) #[] #[.pointer (some ⟨w.heap.size, 0, none⟩)] := HI.out.pv 23 (by decide) (hdep { on := 23, ground := .data } (by simp) rfl)
      refine wp_enter (f := 198) (args := #[.int .i64 3, .func (.func 205) #[] #[.pointer (some ⟨w.heap.size, 0, none⟩)]]) (w1 := Wx) ?_ ((tells_new 3 (.func 205) #[] #[.pointer (some ⟨w.heap.size, 0, none⟩)] Wx).mono ?_)
      · clear hdep hC hli ho
        first | (go_simp; done) | (go_simp; rfl)
      · rintro _ W1 ⟨v, rfl, hv, t1⟩
        exact ⟨_, rfl, _, rfl, HI.out.val hS (i := 24) (d := 25) (by kernel_rfl) t1 (hv.low (by have := t.size; omega))⟩
    · cases (show some _ = some o from ho)
      refine wpOp_of ho rfl ?_
      obtain ⟨mb, l, em, k1, k2, k3, k4⟩ := HI.out.map (hdep { on := 0, ground := .data } (by simp) rfl)
      have hv : memoryG w.heap.size w.heap.size s 80 (f 25) Wx := ⟨by decide, HI.out.pv 24 (by decide) (hdep { on := 24, ground := .data } (by simp) rfl)⟩
      obtain ⟨W1, hrun, hm1, t1⟩ := k2.update (P := Tryz.prog) Tryz.underlying184 Tryz.underlying3 80 (f 25)
      exact wp_put 184 (.tmp 8) (.const (.int .i64 80)) (.tmp 25) rfl (show f 8 = _ from em) rfl rfl hrun ⟨f, rfl, HI.out.put hS (i := 25) (key := 80) (by kernel_rfl) (fun _ _ => trivial) em k1 k2 k3 k4 hv hm1 t1⟩
    · cases (show some _ = some o from ho)
      refine wpOp_of ho rfl ?_
      refine wp_value (v := .func (.func 207) #[] #[.pointer (some ⟨w.heap.size, 0, none⟩)]) (w1 := Wx) ?_ ⟨_, rfl, HI.out.val hS (i := 26) (d := 26) (by kernel_rfl) (Touch.refl [] Wx) rfl⟩
      clear hdep hC hli ho
      first | (go_simp; done) | (go_simp; rfl)
    · cases (show some _ = some o from ho)
      refine wpOp_of ho rfl ?_
      have g26 : f 26 = .func (.func 207) #[] #[.pointer (some ⟨w.heap.size, 0, none⟩)] := HI.out.pv 26 (by decide) (hdep { on := 26, ground := .data } (by simp) rfl)
      refine wp_enter (f := 198) (args := #[.int .i64 3, .func (.func 207) #[] #[.pointer (some ⟨w.heap.size, 0, none⟩)]]) (w1 := Wx) ?_ ((tells_new 3 (.func 207) #[] #[.pointer (some ⟨w.heap.size, 0, none⟩)] Wx).mono ?_)
      · clear hdep hC hli ho
        first | (go_simp; done) | (go_simp; rfl)
      · rintro _ W1 ⟨v, rfl, hv, t1⟩
        exact ⟨_, rfl, _, rfl, HI.out.val hS (i := 27) (d := 27) (by kernel_rfl) t1 (hv.low (by have := t.size; omega))⟩
    · cases (show some _ = some o from ho)
      refine wpOp_of ho rfl ?_
      obtain ⟨mb, l, em, k1, k2, k3, k4⟩ := HI.out.map (hdep { on := 0, ground := .data } (by simp) rfl)
      have hv : memoryG w.heap.size w.heap.size s 81 (f 27) Wx := ⟨by decide, HI.out.pv 27 (by decide) (hdep { on := 27, ground := .data } (by simp) rfl)⟩
      obtain ⟨W1, hrun, hm1, t1⟩ := k2.update (P := Tryz.prog) Tryz.underlying184 Tryz.underlying3 81 (f 27)
      exact wp_put 184 (.tmp 8) (.const (.int .i64 81)) (.tmp 27) rfl (show f 8 = _ from em) rfl rfl hrun ⟨f, rfl, HI.out.put hS (i := 28) (key := 81) (by kernel_rfl) (fun _ _ => trivial) em k1 k2 k3 k4 hv hm1 t1⟩
    · cases (show some _ = some o from ho)
      refine wpOp_of ho rfl ?_
      refine wp_value (v := .func (.func 209) #[] #[.pointer (some ⟨w.heap.size, 0, none⟩)]) (w1 := Wx) ?_ ⟨_, rfl, HI.out.val hS (i := 29) (d := 28) (by kernel_rfl) (Touch.refl [] Wx) rfl⟩
      clear hdep hC hli ho
      first | (go_simp; done) | (go_simp; rfl)
    · cases (show some _ = some o from ho)
      refine wpOp_of ho rfl ?_
      have g29 : f 28 = .func (.func 209) #[] #[.pointer (some ⟨w.heap.size, 0, none⟩)] := HI.out.pv 29 (by decide) (hdep { on := 29, ground := .data } (by simp) rfl)
      refine wp_enter (f := 176) (args := #[.int .i64 0, .func (.func 209) #[] #[.pointer (some ⟨w.heap.size, 0, none⟩)]]) (w1 := Wx) ?_ ((gives_new 0 (.func 209) #[] #[.pointer (some ⟨w.heap.size, 0, none⟩)] Wx).mono ?_)
      · clear hdep hC hli ho
        first | (go_simp; done) | (go_simp; rfl)
      · rintro _ W1 ⟨v, rfl, hv, t1⟩
        exact ⟨_, rfl, _, rfl, HI.out.val hS (i := 30) (d := 29) (by kernel_rfl) t1 (hv.low (by have := t.size; omega))⟩
    · cases (show some _ = some o from ho)
      refine wpOp_of ho rfl ?_
      obtain ⟨mb, l, em, k1, k2, k3, k4⟩ := HI.out.map (hdep { on := 0, ground := .data } (by simp) rfl)
      have hv : memoryG w.heap.size w.heap.size s 82 (f 29) Wx := ⟨by decide, HI.out.pv 30 (by decide) (hdep { on := 30, ground := .data } (by simp) rfl)⟩
      obtain ⟨W1, hrun, hm1, t1⟩ := k2.update (P := Tryz.prog) Tryz.underlying184 Tryz.underlying3 82 (f 29)
      exact wp_put 184 (.tmp 8) (.const (.int .i64 82)) (.tmp 29) rfl (show f 8 = _ from em) rfl rfl hrun ⟨f, rfl, HI.out.put hS (i := 31) (key := 82) (by kernel_rfl) (fun _ _ => trivial) em k1 k2 k3 k4 hv hm1 t1⟩
    · cases (show some _ = some o from ho)
      refine wpOp_of ho rfl ?_
      refine wp_value (v := .func (.func 210) #[] #[.pointer (some ⟨w.heap.size, 0, none⟩)]) (w1 := Wx) ?_ ⟨_, rfl, HI.out.val hS (i := 32) (d := 30) (by kernel_rfl) (Touch.refl [] Wx) rfl⟩
      clear hdep hC hli ho
      first | (go_simp; done) | (go_simp; rfl)
    · cases (show some _ = some o from ho)
      refine wpOp_of ho rfl ?_
      have g32 : f 30 = .func (.func 210) #[] #[.pointer (some ⟨w.heap.size, 0, none⟩)] := HI.out.pv 32 (by decide) (hdep { on := 32, ground := .data } (by simp) rfl)
      refine wp_enter (f := 198) (args := #[.int .i64 1, .func (.func 210) #[] #[.pointer (some ⟨w.heap.size, 0, none⟩)]]) (w1 := Wx) ?_ ((tells_new 1 (.func 210) #[] #[.pointer (some ⟨w.heap.size, 0, none⟩)] Wx).mono ?_)
      · clear hdep hC hli ho
        first | (go_simp; done) | (go_simp; rfl)
      · rintro _ W1 ⟨v, rfl, hv, t1⟩
        exact ⟨_, rfl, _, rfl, HI.out.val hS (i := 33) (d := 31) (by kernel_rfl) t1 (hv.low (by have := t.size; omega))⟩
    · cases (show some _ = some o from ho)
      refine wpOp_of ho rfl ?_
      obtain ⟨mb, l, em, k1, k2, k3, k4⟩ := HI.out.map (hdep { on := 0, ground := .data } (by simp) rfl)
      have hv : memoryG w.heap.size w.heap.size s 83 (f 31) Wx := ⟨by decide, HI.out.pv 33 (by decide) (hdep { on := 33, ground := .data } (by simp) rfl)⟩
      obtain ⟨W1, hrun, hm1, t1⟩ := k2.update (P := Tryz.prog) Tryz.underlying184 Tryz.underlying3 83 (f 31)
      exact wp_put 184 (.tmp 8) (.const (.int .i64 83)) (.tmp 31) rfl (show f 8 = _ from em) rfl rfl hrun ⟨f, rfl, HI.out.put hS (i := 34) (key := 83) (by kernel_rfl) (fun _ _ => trivial) em k1 k2 k3 k4 hv hm1 t1⟩
    · cases (show some _ = some o from ho)
      refine wpOp_of ho rfl ?_
      refine wp_value (v := .func (.func 211) #[] #[.pointer (some ⟨w.heap.size, 0, none⟩)]) (w1 := Wx) ?_ ⟨_, rfl, HI.out.val hS (i := 35) (d := 32) (by kernel_rfl) (Touch.refl [] Wx) rfl⟩
      clear hdep hC hli ho
      first | (go_simp; done) | (go_simp; rfl)
    · cases (show some _ = some o from ho)
      refine wpOp_of ho rfl ?_
      have g35 : f 32 = .func (.func 211) #[] #[.pointer (some ⟨w.heap.size, 0, none⟩)] := HI.out.pv 35 (by decide) (hdep { on := 35, ground := .data } (by simp) rfl)
      refine wp_enter (f := 198) (args := #[.int .i64 1, .func (.func 211) #[] #[.pointer (some ⟨w.heap.size, 0, none⟩)]]) (w1 := Wx) ?_ ((tells_new 1 (.func 211) #[] #[.pointer (some ⟨w.heap.size, 0, none⟩)] Wx).mono ?_)
      · clear hdep hC hli ho
        first | (go_simp; done) | (go_simp; rfl)
      · rintro _ W1 ⟨v, rfl, hv, t1⟩
        exact ⟨_, rfl, _, rfl, HI.out.val hS (i := 36) (d := 33) (by kernel_rfl) t1 (hv.low (by have := t.size; omega))⟩
    · cases (show some _ = some o from ho)
      refine wpOp_of ho rfl ?_
      obtain ⟨mb, l, em, k1, k2, k3, k4⟩ := HI.out.map (hdep { on := 0, ground := .data } (by simp) rfl)
      have hv : memoryG w.heap.size w.heap.size s 84 (f 33) Wx := ⟨by decide, HI.out.pv 36 (by decide) (hdep { on := 36, ground := .data } (by simp) rfl)⟩
      obtain ⟨W1, hrun, hm1, t1⟩ := k2.update (P := Tryz.prog) Tryz.underlying184 Tryz.underlying3 84 (f 33)
      exact wp_put 184 (.tmp 8) (.const (.int .i64 84)) (.tmp 33) rfl (show f 8 = _ from em) rfl rfl hrun ⟨f, rfl, HI.out.put hS (i := 37) (key := 84) (by kernel_rfl) (fun _ _ => trivial) em k1 k2 k3 k4 hv hm1 t1⟩
    · cases (show some _ = some o from ho)
      refine wpOp_of ho rfl ?_
      refine wp_value (v := .func (.func 212) #[] #[.pointer (some ⟨w.heap.size, 0, none⟩)]) (w1 := Wx) ?_ ⟨_, rfl, HI.out.val hS (i := 38) (d := 34) (by kernel_rfl) (Touch.refl [] Wx) rfl⟩
      clear hdep hC hli ho
      first | (go_simp; done) | (go_simp; rfl)
    · cases (show some _ = some o from ho)
      refine wpOp_of ho rfl ?_
      have g38 : f 34 = .func (.func 212) #[] #[.pointer (some ⟨w.heap.size, 0, none⟩)] := HI.out.pv 38 (by decide) (hdep { on := 38, ground := .data } (by simp) rfl)
      refine wp_enter (f := 198) (args := #[.int .i64 1, .func (.func 212) #[] #[.pointer (some ⟨w.heap.size, 0, none⟩)]]) (w1 := Wx) ?_ ((tells_new 1 (.func 212) #[] #[.pointer (some ⟨w.heap.size, 0, none⟩)] Wx).mono ?_)
      · clear hdep hC hli ho
        first | (go_simp; done) | (go_simp; rfl)
      · rintro _ W1 ⟨v, rfl, hv, t1⟩
        exact ⟨_, rfl, _, rfl, HI.out.val hS (i := 39) (d := 35) (by kernel_rfl) t1 (hv.low (by have := t.size; omega))⟩
    · cases (show some _ = some o from ho)
      refine wpOp_of ho rfl ?_
      obtain ⟨mb, l, em, k1, k2, k3, k4⟩ := HI.out.map (hdep { on := 0, ground := .data } (by simp) rfl)
      have hv : memoryG w.heap.size w.heap.size s 85 (f 35) Wx := ⟨by decide, HI.out.pv 39 (by decide) (hdep { on := 39, ground := .data } (by simp) rfl)⟩
      obtain ⟨W1, hrun, hm1, t1⟩ := k2.update (P := Tryz.prog) Tryz.underlying184 Tryz.underlying3 85 (f 35)
      exact wp_put 184 (.tmp 8) (.const (.int .i64 85)) (.tmp 35) rfl (show f 8 = _ from em) rfl rfl hrun ⟨f, rfl, HI.out.put hS (i := 40) (key := 85) (by kernel_rfl) (fun _ _ => trivial) em k1 k2 k3 k4 hv hm1 t1⟩
    · cases (show some _ = some o from ho)
      refine wpOp_of ho rfl ?_
      refine wp_value (v := .func (.func 214) #[] #[.pointer (some ⟨w.heap.size, 0, none⟩)]) (w1 := Wx) ?_ ⟨_, rfl, HI.out.val hS (i := 41) (d := 36) (by kernel_rfl) (Touch.refl [] Wx) rfl⟩
      clear hdep hC hli ho
      first | (go_simp; done) | (go_simp; rfl)
    · cases (show some _ = some o from ho)
      refine wpOp_of ho rfl ?_
      have g41 : f 36 = .func (.func 214) #[] #[.pointer (some ⟨w.heap.size, 0, none⟩)] := HI.out.pv 41 (by decide) (hdep { on := 41, ground := .data } (by simp) rfl)
      refine wp_enter (f := 198) (args := #[.int .i64 0, .func (.func 214) #[] #[.pointer (some ⟨w.heap.size, 0, none⟩)]]) (w1 := Wx) ?_ ((tells_new 0 (.func 214) #[] #[.pointer (some ⟨w.heap.size, 0, none⟩)] Wx).mono ?_)
      · clear hdep hC hli ho
        first | (go_simp; done) | (go_simp; rfl)
      · rintro _ W1 ⟨v, rfl, hv, t1⟩
        exact ⟨_, rfl, _, rfl, HI.out.val hS (i := 42) (d := 37) (by kernel_rfl) t1 (hv.low (by have := t.size; omega))⟩
    · cases (show some _ = some o from ho)
      refine wpOp_of ho rfl ?_
      obtain ⟨mb, l, em, k1, k2, k3, k4⟩ := HI.out.map (hdep { on := 0, ground := .data } (by simp) rfl)
      have hv : memoryG w.heap.size w.heap.size s 86 (f 37) Wx := ⟨by decide, HI.out.pv 42 (by decide) (hdep { on := 42, ground := .data } (by simp) rfl)⟩
      obtain ⟨W1, hrun, hm1, t1⟩ := k2.update (P := Tryz.prog) Tryz.underlying184 Tryz.underlying3 86 (f 37)
      exact wp_put 184 (.tmp 8) (.const (.int .i64 86)) (.tmp 37) rfl (show f 8 = _ from em) rfl rfl hrun ⟨f, rfl, HI.out.put hS (i := 43) (key := 86) (by kernel_rfl) (fun _ _ => trivial) em k1 k2 k3 k4 hv hm1 t1⟩
    · cases (show some _ = some o from ho)
      refine wpOp_of ho rfl ?_
      refine wp_enter (f := 176) (args := #[.int .i64 1, .func (.func 216) #[] #[]]) (w1 := Wx) ?_ ((gives_new 1 (.func 216) #[] #[] Wx).mono ?_)
      · clear hdep hC hli ho
        first | (go_simp; done) | (go_simp; rfl)
      · rintro _ W1 ⟨v, rfl, hv, t1⟩
        exact ⟨_, rfl, _, rfl, HI.out.val hS (i := 44) (d := 38) (by kernel_rfl) t1 (hv.low (by have := t.size; omega))⟩
    · cases (show some _ = some o from ho)
      refine wpOp_of ho rfl ?_
      obtain ⟨mb, l, em, k1, k2, k3, k4⟩ := HI.out.map (hdep { on := 0, ground := .data } (by simp) rfl)
      have hv : memoryG w.heap.size w.heap.size s 87 (f 38) Wx := ⟨by decide, HI.out.pv 44 (by decide) (hdep { on := 44, ground := .data } (by simp) rfl)⟩
      obtain ⟨W1, hrun, hm1, t1⟩ := k2.update (P := Tryz.prog) Tryz.underlying184 Tryz.underlying3 87 (f 38)
      exact wp_put 184 (.tmp 8) (.const (.int .i64 87)) (.tmp 38) rfl (show f 8 = _ from em) rfl rfl hrun ⟨f, rfl, HI.out.put hS (i := 45) (key := 87) (by kernel_rfl) (fun _ _ => trivial) em k1 k2 k3 k4 hv hm1 t1⟩
    · cases (show some _ = some o from ho)
      refine wpOp_of ho rfl ?_
      refine wp_enter (f := 176) (args := #[.int .i64 1, .func (.func 217) #[] #[]]) (w1 := Wx) ?_ ((gives_new 1 (.func 217) #[] #[] Wx).mono ?_)
      · clear hdep hC hli ho
        first | (go_simp; done) | (go_simp; rfl)
      · rintro _ W1 ⟨v, rfl, hv, t1⟩
        exact ⟨_, rfl, _, rfl, HI.out.val hS (i := 46) (d := 39) (by kernel_rfl) t1 (hv.low (by have := t.size; omega))⟩
    · cases (show some _ = some o from ho)
      refine wpOp_of ho rfl ?_
      obtain ⟨mb, l, em, k1, k2, k3, k4⟩ := HI.out.map (hdep { on := 0, ground := .data } (by simp) rfl)
      have hv : memoryG w.heap.size w.heap.size s 88 (f 39) Wx := ⟨by decide, HI.out.pv 46 (by decide) (hdep { on := 46, ground := .data } (by simp) rfl)⟩
      obtain ⟨W1, hrun, hm1, t1⟩ := k2.update (P := Tryz.prog) Tryz.underlying184 Tryz.underlying3 88 (f 39)
      exact wp_put 184 (.tmp 8) (.const (.int .i64 88)) (.tmp 39) rfl (show f 8 = _ from em) rfl rfl hrun ⟨f, rfl, HI.out.put hS (i := 47) (key := 88) (by kernel_rfl) (fun _ _ => trivial) em k1 k2 k3 k4 hv hm1 t1⟩
    · cases (show some _ = some o from ho)
      refine wpOp_of ho rfl ?_
      refine wp_value (v := .func (.func 218) #[] #[.pointer (some ⟨w.heap.size, 0, none⟩)]) (w1 := Wx) ?_ ⟨_, rfl, HI.out.val hS (i := 48) (d := 40) (by kernel_rfl) (Touch.refl [] Wx) rfl⟩
      clear hdep hC hli ho
      first | (go_simp; done) | (go_simp; rfl)
    · cases (show some _ = some o from ho)
      refine wpOp_of ho rfl ?_
      have g48 : f 40 = .func (.func 218) #[] #[.pointer (some ⟨w.heap.size, 0, none⟩)] := HI.out.pv 48 (by decide) (hdep { on := 48, ground := .data } (by simp) rfl)
      refine wp_enter (f := 182) (args := #[.int .i64 1, .func (.func 218) #[] #[.pointer (some ⟨w.heap.size, 0, none⟩)]]) (w1 := Wx) ?_ ((divides_new 1 (.func 218) #[] #[.pointer (some ⟨w.heap.size, 0, none⟩)] Wx).mono ?_)
      · clear hdep hC hli ho
        first | (go_simp; done) | (go_simp; rfl)
      · rintro _ W1 ⟨v, rfl, hv, t1⟩
        exact ⟨_, rfl, _, rfl, HI.out.val hS (i := 49) (d := 41) (by kernel_rfl) t1 (hv.low (by have := t.size; omega))⟩
    · cases (show some _ = some o from ho)
      refine wpOp_of ho rfl ?_
      obtain ⟨mb, l, em, k1, k2, k3, k4⟩ := HI.out.map (hdep { on := 0, ground := .data } (by simp) rfl)
      have hv : memoryG w.heap.size w.heap.size s 89 (f 41) Wx := ⟨by decide, HI.out.pv 49 (by decide) (hdep { on := 49, ground := .data } (by simp) rfl)⟩
      obtain ⟨W1, hrun, hm1, t1⟩ := k2.update (P := Tryz.prog) Tryz.underlying184 Tryz.underlying3 89 (f 41)
      exact wp_put 184 (.tmp 8) (.const (.int .i64 89)) (.tmp 41) rfl (show f 8 = _ from em) rfl rfl hrun ⟨f, rfl, HI.out.put hS (i := 50) (key := 89) (by kernel_rfl) (fun _ _ => trivial) em k1 k2 k3 k4 hv hm1 t1⟩
    · cases (show some _ = some o from ho)
      refine wpOp_of ho rfl ?_
      refine wp_value (v := f 8) (w1 := Wx) ?_ ⟨_, rfl, HI.out.move memory_ok (fun _ _ => trivial)⟩
      clear hdep hC hli ho
      first | (go_simp; done) | (go_simp; rfl)
    · cases (show some _ = some o from ho)
      refine wpOp_of ho rfl ?_
      refine wp_value (v := f 42) (w1 := Wx) ?_ ⟨_, rfl, HI.out.assign memory_ok (fun _ _ => trivial) (hdep { on := 51, ground := .data } (by simp) rfl)⟩
      clear hdep hC hli ho
      first | (go_simp; done) | (go_simp; rfl)
  case fin =>
    rintro listed a Wx hl ⟨f, rfl, hI⟩
    obtain ⟨mb, l, em, k1, k2, k3, k4⟩ := hI.map (hl 0 (by decide))
    have e6 : f 2 = .map (some mb) := (hI.fin (hl 52 (by decide))).trans em
    have hz : ∀ p ∈ memoryT.ins, p.1 < 53 := by decide
    have hfin : IMap Wx mb l ∧ (∀ k v, atKey l k = some v → memoryG w.heap.size w.heap.size s k v Wx) ∧ (∀ p ∈ memoryT.ins, (atKey l p.2).isSome = true) ∧ Touch [] w Wx := ⟨k2, k3, fun p hp => k4 p hp (hl p.1 (hz p hp)), HN.out.2.trans hI.t (by simp)⟩
    have HF := Lib.hid (And.intro hfin (HN.out.1.touch hI.t (by simp)))
    clear hfin hI k1 k2 k3 k4 em hl hS hmf hmm hEdivides hEgives hEmay hEtells
    rw [e6]
    clear e6
    go_wp2
    go_ret
    exact ⟨mb, l, w.heap.size, rfl, Nat.le_refl _, HF.out.1.1, HF.out.1.2.1, HF.out.1.2.2.1, HF.out.1.2.2.2, HF.out.2⟩
end Go.Proofs.YtdokeddjcpnmiaaGreatDoor
