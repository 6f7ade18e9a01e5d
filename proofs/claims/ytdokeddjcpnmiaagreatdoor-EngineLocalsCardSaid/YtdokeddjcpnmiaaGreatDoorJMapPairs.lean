import Derived.Test.YtdokeddjcpnmiaaGreatDoorJMapsA
import Derived.Deep.Cut
import Derived.Shelf.Abstract
/- The map of prim.pairs (printed by wip/primmap.py). -/
namespace Go.Proofs.YtdokeddjcpnmiaaGreatDoor
open Go.RowKit

def pairsT : MTab := ⟨45, [2, 3, 999, 4, 999, 5, 999, 6, 999, 7, 999, 8, 999, 9, 999, 10, 999, 11, 999, 12, 999, 13, 999, 14, 999, 15, 999, 16, 999, 17, 999, 18, 19, 999, 20, 21, 999, 22, 999, 23, 999, 24, 999, 25, 0], [(2, 43), (4, 44), (6, 45), (8, 46), (10, 51), (12, 52), (14, 53), (16, 54), (18, 47), (20, 48), (22, 49), (24, 50), (26, 55), (28, 56), (30, 57), (33, 59), (36, 58), (38, 60), (40, 71), (42, 72)], 2, 43, 25, 44, 0⟩
def pairsPV (B b : Nat) : Nat → Value → World → Prop
  | 1, v, W => ActAt B 1 270 218 (.func (.func 159) #[] #[]) v W
  | 3, v, W => ActAt B 4 270 218 (.func (.func 161) #[] #[]) v W
  | 5, v, W => ActAt B 4 270 218 (.func (.func 165) #[] #[]) v W
  | 7, v, W => ActAt B 2 270 218 (.func (.func 167) #[] #[]) v W
  | 9, v, W => ActAt B 2 270 218 (.func (.func 168) #[] #[]) v W
  | 11, v, W => ActAt B 2 270 218 (.func (.func 170) #[] #[]) v W
  | 13, v, W => ActAt B 2 270 218 (.func (.func 172) #[] #[]) v W
  | 15, v, W => ActAt B 2 270 218 (.func (.func 173) #[] #[]) v W
  | 17, v, W => ActAt B 2 270 218 (.func (.func 175) #[] #[]) v W
  | 19, v, W => ActAt B 4 274 223 (.func (.func 177) #[] #[]) v W
  | 21, v, W => ActAt B 4 274 223 (.func (.func 179) #[] #[]) v W
  | 23, v, W => ActAt B 4 274 223 (.func (.func 181) #[] #[]) v W
  | 25, v, W => ActAt B 3 278 215 (.func (.func 183) #[] #[]) v W
  | 27, v, W => ActAt B 3 278 215 (.func (.func 185) #[] #[]) v W
  | 29, v, W => ActAt B 3 278 215 (.func (.func 186) #[] #[]) v W
  | 31, v, _ => v = .func (.func 155) #[] #[]
  | 32, v, W => ActAt B 3 278 215 (.func (.func 155) #[] #[]) v W
  | 34, v, _ => v = .func (.func 188) #[] #[.pointer (some ⟨b, 0, none⟩)]
  | 35, v, W => ActAt B 3 149 182 (.func (.func 188) #[] #[.pointer (some ⟨b, 0, none⟩)]) v W
  | 37, v, W => ActAt B 2 278 215 (.func (.func 189) #[] #[]) v W
  | 39, v, W => ActAt B 1 274 223 (.func (.func 190) #[] #[]) v W
  | 41, v, W => ActAt B 1 149 182 (.func (.func 192) #[] #[]) v W
  | _, _, _ => True
def pairsOp (k : Int) : Nat := (([(43, 1), (44, 3), (45, 5), (46, 7), (51, 9), (52, 11), (53, 13), (54, 15), (47, 17), (48, 19), (49, 21), (50, 23), (55, 25), (56, 27), (57, 29), (59, 32), (58, 35), (60, 37), (71, 39), (72, 41)] : List (Int × Nat)).find? fun p => p.1 == k).elim 0 (·.2)
def pairsG (B b : Nat) (k : Int) (v : Value) (W : World) : Prop := pairsOp k ≠ 0 ∧ pairsPV B b (pairsOp k) v W
theorem pairs_stays (B b : Nat) : MStays (pairsPV B b) (pairsG B b) := by
  have hp : ∀ A C, OnB A C → ∀ j v, pairsPV B b j v A → pairsPV B b j v C := by
    intro A C o j v h
    unfold pairsPV at h ⊢
    split at h <;> first | exact h.on o | exact h
  exact ⟨hp, fun A C o k v h => ⟨h.1, hp A C o _ v h.2⟩⟩
theorem pairs_ok : pairsT.ok = true := by kernel_rfl
set_option maxRecDepth 100000 in
set_option maxHeartbeats 4000000 in
theorem pairs_any (w : World) : Calls Tryz.prog 133 #[] w fun e w' => ∃ mb l b, e = .returned (.map (some mb)) ∧ w.heap.size ≤ b ∧ IMap w' mb l ∧ (∀ k v, atKey l k = some v → pairsG w.heap.size b k v w') ∧ (∀ p ∈ pairsT.ins, (atKey l p.2).isSome = true) ∧ Touch [] w w' ∧ Blk w' b 215 #[.func (.func 155) #[] #[]] := by
  have bN := Blk.new w 215 #[.func (.func 155) #[] #[]]
  have tN := (Touch.refl [] w).alloc (.cells #[.func (.func 155) #[] #[]] 215)
  have bO := Blk.new w 215 #[.nilFunc]
  have hsf := store_fn (P := Tryz.prog) (bO.cell 0) (bO.frozen 0) 155 #[]
  clear bO
  go_enter Tryz.func133, Tryz.ntmps133
  go_upto_region 2 with (fail)
  clear hsf
  generalize w.alloc (Obj.cells #[Value.func (Fn.func 155) #[] #[]] 215) = W0 at *
  have HN := Lib.hid (And.intro bN tN)
  have hw0 := tN.size
  clear bN tN
  have hEdivides := enters_of Tryz.func182 (by kernel_rfl) rfl
  have hEgives := enters_of Tryz.func176 (by kernel_rfl) rfl
  have hEmay := enters_of Tryz.func124 (by kernel_rfl) rfl
  have hEwide := enters_of Tryz.func158 (by kernel_rfl) rfl
  have hmf : ∀ (fn : Fn) (first cap : Array Value) (w : World), (Instr.makeFunc fn first cap).run Tryz.prog w = .ok (.func fn first cap) w := fun _ _ _ _ => rfl
  have hmm := @run_makeMap Tryz.prog
  have hS := pairs_stays w.heap.size w.heap.size
  refine region_inv (fun listed a Wx => ∃ f : Nat → Value, a = { tmps := #[f 0, Value.pointer (some ⟨w.heap.size, 0, none⟩), f 2, f 3, f 4, f 5, f 6, f 7, f 8, f 9, f 10, f 11, f 12, f 13, f 14, f 15, f 16, f 17, f 18, f 19, f 20, f 21, f 22, f 23, f 24, f 25], defers := [] } ∧ MInv pairsT (pairsPV w.heap.size w.heap.size) (pairsG w.heap.size w.heap.size) W0 listed f Wx) (by kernel_rfl) (by kernel_rfl) ?h0 ?step ?fin
  case h0 =>
    intro listed hs hl
    exact ⟨fun j => if j = 0 then .map none else undef, rfl, MInv.start hl (Touch.refl [] W0).drew⟩
  case step =>
    rintro listed a Wx ⟨f, rfl, hI⟩ hC i o ho hli hdep
    try dsimp only
    have hi : i < 45 := (Array.getElem?_eq_some_iff.1 ho).1
    have HI := Lib.hid hI
    have t := hI.t
    clear hI
    rcases (by omega : i = 0 ∨ i = 1 ∨ i = 2 ∨ i = 3 ∨ i = 4 ∨ i = 5 ∨ i = 6 ∨ i = 7 ∨ i = 8 ∨ i = 9 ∨ i = 10 ∨ i = 11 ∨ i = 12 ∨ i = 13 ∨ i = 14 ∨ i = 15 ∨ i = 16 ∨ i = 17 ∨ i = 18 ∨ i = 19 ∨ i = 20 ∨ i = 21 ∨ i = 22 ∨ i = 23 ∨ i = 24 ∨ i = 25 ∨ i = 26 ∨ i = 27 ∨ i = 28 ∨ i = 29 ∨ i = 30 ∨ i = 31 ∨ i = 32 ∨ i = 33 ∨ i = 34 ∨ i = 35 ∨ i = 36 ∨ i = 37 ∨ i = 38 ∨ i = 39 ∨ i = 40 ∨ i = 41 ∨ i = 42 ∨ i = 43 ∨ i = 44) with rfl | rfl | rfl | rfl | rfl | rfl | rfl | rfl | rfl | rfl | rfl | rfl | rfl | rfl | rfl | rfl | rfl | rfl | rfl | rfl | rfl | rfl | rfl | rfl | rfl | rfl | rfl | rfl | rfl | rfl | rfl | rfl | rfl | rfl | rfl | rfl | rfl | rfl | rfl | rfl | rfl | rfl | rfl | rfl | rfl
    · cases (show some _ = some o from ho)
      refine wpOp_of ho rfl ?_
      have hn : ∀ p ∈ pairsT.ins, listed.getD p.1 false = false := by
        intro p hp
        simp only [pairsT, List.mem_cons, List.not_mem_nil, or_false] at hp
        rcases hp with rfl | rfl | rfl | rfl | rfl | rfl | rfl | rfl | rfl | rfl | rfl | rfl | rfl | rfl | rfl | rfl | rfl | rfl | rfl | rfl
        · exact not_listed_ (fun e => hC 2 _ rfl e { on := 0, ground := .data } (by simp) rfl) hli
        · exact not_listed_ (fun e => hC 4 _ rfl e { on := 0, ground := .data } (by simp) rfl) hli
        · exact not_listed_ (fun e => hC 6 _ rfl e { on := 0, ground := .data } (by simp) rfl) hli
        · exact not_listed_ (fun e => hC 8 _ rfl e { on := 0, ground := .data } (by simp) rfl) hli
        · exact not_listed_ (fun e => hC 10 _ rfl e { on := 0, ground := .data } (by simp) rfl) hli
        · exact not_listed_ (fun e => hC 12 _ rfl e { on := 0, ground := .data } (by simp) rfl) hli
        · exact not_listed_ (fun e => hC 14 _ rfl e { on := 0, ground := .data } (by simp) rfl) hli
        · exact not_listed_ (fun e => hC 16 _ rfl e { on := 0, ground := .data } (by simp) rfl) hli
        · exact not_listed_ (fun e => hC 18 _ rfl e { on := 0, ground := .data } (by simp) rfl) hli
        · exact not_listed_ (fun e => hC 20 _ rfl e { on := 0, ground := .data } (by simp) rfl) hli
        · exact not_listed_ (fun e => hC 22 _ rfl e { on := 0, ground := .data } (by simp) rfl) hli
        · exact not_listed_ (fun e => hC 24 _ rfl e { on := 0, ground := .data } (by simp) rfl) hli
        · exact not_listed_ (fun e => hC 26 _ rfl e { on := 0, ground := .data } (by simp) rfl) hli
        · exact not_listed_ (fun e => hC 28 _ rfl e { on := 0, ground := .data } (by simp) rfl) hli
        · exact not_listed_ (fun e => hC 30 _ rfl e { on := 0, ground := .data } (by simp) rfl) hli
        · exact not_listed_ (fun e => hC 33 _ rfl e { on := 0, ground := .data } (by simp) rfl) hli
        · exact not_listed_ (fun e => hC 36 _ rfl e { on := 0, ground := .data } (by simp) rfl) hli
        · exact not_listed_ (fun e => hC 38 _ rfl e { on := 0, ground := .data } (by simp) rfl) hli
        · exact not_listed_ (fun e => hC 40 _ rfl e { on := 0, ground := .data } (by simp) rfl) hli
        · exact not_listed_ (fun e => hC 42 _ rfl e { on := 0, ground := .data } (by simp) rfl) hli
      have h1 : listed.getD 43 false = false := not_listed_ (fun e => hC 43 _ rfl e { on := 0, ground := .data } (by simp) rfl) hli
      have h2 : listed.getD 44 false = false := not_listed_ (fun e => hC 44 _ rfl e { on := 0, ground := .phase } (by simp) rfl) hli
      refine wp_value (v := .map (some Wx.heap.size)) (w1 := Wx.alloc (.map #[] 0)) ?_ ⟨_, rfl, HI.out.made hS pairs_ok (fun _ _ => trivial) hn h1 h2⟩
      clear hn h1 h2 hdep hC hli ho
      first | (go_simp; done) | (go_simp; rfl)
    · cases (show some _ = some o from ho)
      refine wpOp_of ho rfl ?_
      refine wp_enter (f := 158) (args := #[.int .i64 1, .func (.func 159) #[] #[]]) (w1 := Wx) ?_ ((wide_new 1 (.func 159) #[] #[] Wx).mono ?_)
      · clear hdep hC hli ho
        first | (go_simp; done) | (go_simp; rfl)
      · rintro _ W1 ⟨v, rfl, hv, t1⟩
        exact ⟨_, rfl, _, rfl, HI.out.val hS (i := 1) (d := 3) (by kernel_rfl) t1 (hv.low (by have := t.size; omega))⟩
    · cases (show some _ = some o from ho)
      refine wpOp_of ho rfl ?_
      obtain ⟨mb, l, em, k1, k2, k3, k4⟩ := HI.out.map (hdep { on := 0, ground := .data } (by simp) rfl)
      have hv : pairsG w.heap.size w.heap.size 43 (f 3) Wx := ⟨by decide, HI.out.pv 1 (by decide) (hdep { on := 1, ground := .data } (by simp) rfl)⟩
      obtain ⟨W1, hrun, hm1, t1⟩ := k2.update (P := Tryz.prog) Tryz.underlying184 Tryz.underlying3 43 (f 3)
      exact wp_put 184 (.tmp 2) (.const (.int .i64 43)) (.tmp 3) rfl (show f 2 = _ from em) rfl rfl hrun ⟨f, rfl, HI.out.put hS (i := 2) (key := 43) (by kernel_rfl) (fun _ _ => trivial) em k1 k2 k3 k4 hv hm1 t1⟩
    · cases (show some _ = some o from ho)
      refine wpOp_of ho rfl ?_
      refine wp_enter (f := 158) (args := #[.int .i64 4, .func (.func 161) #[] #[]]) (w1 := Wx) ?_ ((wide_new 4 (.func 161) #[] #[] Wx).mono ?_)
      · clear hdep hC hli ho
        first | (go_simp; done) | (go_simp; rfl)
      · rintro _ W1 ⟨v, rfl, hv, t1⟩
        exact ⟨_, rfl, _, rfl, HI.out.val hS (i := 3) (d := 4) (by kernel_rfl) t1 (hv.low (by have := t.size; omega))⟩
    · cases (show some _ = some o from ho)
      refine wpOp_of ho rfl ?_
      obtain ⟨mb, l, em, k1, k2, k3, k4⟩ := HI.out.map (hdep { on := 0, ground := .data } (by simp) rfl)
      have hv : pairsG w.heap.size w.heap.size 44 (f 4) Wx := ⟨by decide, HI.out.pv 3 (by decide) (hdep { on := 3, ground := .data } (by simp) rfl)⟩
      obtain ⟨W1, hrun, hm1, t1⟩ := k2.update (P := Tryz.prog) Tryz.underlying184 Tryz.underlying3 44 (f 4)
      exact wp_put 184 (.tmp 2) (.const (.int .i64 44)) (.tmp 4) rfl (show f 2 = _ from em) rfl rfl hrun ⟨f, rfl, HI.out.put hS (i := 4) (key := 44) (by kernel_rfl) (fun _ _ => trivial) em k1 k2 k3 k4 hv hm1 t1⟩
    · cases (show some _ = some o from ho)
      refine wpOp_of ho rfl ?_
      refine wp_enter (f := 158) (args := #[.int .i64 4, .func (.func 165) #[] #[]]) (w1 := Wx) ?_ ((wide_new 4 (.func 165) #[] #[] Wx).mono ?_)
      · clear hdep hC hli ho
        first | (go_simp; done) | (go_simp; rfl)
      · rintro _ W1 ⟨v, rfl, hv, t1⟩
        exact ⟨_, rfl, _, rfl, HI.out.val hS (i := 5) (d := 5) (by kernel_rfl) t1 (hv.low (by have := t.size; omega))⟩
    · cases (show some _ = some o from ho)
      refine wpOp_of ho rfl ?_
      obtain ⟨mb, l, em, k1, k2, k3, k4⟩ := HI.out.map (hdep { on := 0, ground := .data } (by simp) rfl)
      have hv : pairsG w.heap.size w.heap.size 45 (f 5) Wx := ⟨by decide, HI.out.pv 5 (by decide) (hdep { on := 5, ground := .data } (by simp) rfl)⟩
      obtain ⟨W1, hrun, hm1, t1⟩ := k2.update (P := Tryz.prog) Tryz.underlying184 Tryz.underlying3 45 (f 5)
      exact wp_put 184 (.tmp 2) (.const (.int .i64 45)) (.tmp 5) rfl (show f 2 = _ from em) rfl rfl hrun ⟨f, rfl, HI.out.put hS (i := 6) (key := 45) (by kernel_rfl) (fun _ _ => trivial) em k1 k2 k3 k4 hv hm1 t1⟩
    · cases (show some _ = some o from ho)
      refine wpOp_of ho rfl ?_
      refine wp_enter (f := 158) (args := #[.int .i64 2, .func (.func 167) #[] #[]]) (w1 := Wx) ?_ ((wide_new 2 (.func 167) #[] #[] Wx).mono ?_)
      · clear hdep hC hli ho
        first | (go_simp; done) | (go_simp; rfl)
      · rintro _ W1 ⟨v, rfl, hv, t1⟩
        exact ⟨_, rfl, _, rfl, HI.out.val hS (i := 7) (d := 6) (by kernel_rfl) t1 (hv.low (by have := t.size; omega))⟩
    · cases (show some _ = some o from ho)
      refine wpOp_of ho rfl ?_
      obtain ⟨mb, l, em, k1, k2, k3, k4⟩ := HI.out.map (hdep { on := 0, ground := .data } (by simp) rfl)
      have hv : pairsG w.heap.size w.heap.size 46 (f 6) Wx := ⟨by decide, HI.out.pv 7 (by decide) (hdep { on := 7, ground := .data } (by simp) rfl)⟩
      obtain ⟨W1, hrun, hm1, t1⟩ := k2.update (P := Tryz.prog) Tryz.underlying184 Tryz.underlying3 46 (f 6)
      exact wp_put 184 (.tmp 2) (.const (.int .i64 46)) (.tmp 6) rfl (show f 2 = _ from em) rfl rfl hrun ⟨f, rfl, HI.out.put hS (i := 8) (key := 46) (by kernel_rfl) (fun _ _ => trivial) em k1 k2 k3 k4 hv hm1 t1⟩
    · cases (show some _ = some o from ho)
      refine wpOp_of ho rfl ?_
      refine wp_enter (f := 158) (args := #[.int .i64 2, .func (.func 168) #[] #[]]) (w1 := Wx) ?_ ((wide_new 2 (.func 168) #[] #[] Wx).mono ?_)
      · clear hdep hC hli ho
        first | (go_simp; done) | (go_simp; rfl)
      · rintro _ W1 ⟨v, rfl, hv, t1⟩
        exact ⟨_, rfl, _, rfl, HI.out.val hS (i := 9) (d := 7) (by kernel_rfl) t1 (hv.low (by have := t.size; omega))⟩
    · cases (show some _ = some o from ho)
      refine wpOp_of ho rfl ?_
      obtain ⟨mb, l, em, k1, k2, k3, k4⟩ := HI.out.map (hdep { on := 0, ground := .data } (by simp) rfl)
      have hv : pairsG w.heap.size w.heap.size 51 (f 7) Wx := ⟨by decide, HI.out.pv 9 (by decide) (hdep { on := 9, ground := .data } (by simp) rfl)⟩
      obtain ⟨W1, hrun, hm1, t1⟩ := k2.update (P := Tryz.prog) Tryz.underlying184 Tryz.underlying3 51 (f 7)
      exact wp_put 184 (.tmp 2) (.const (.int .i64 51)) (.tmp 7) rfl (show f 2 = _ from em) rfl rfl hrun ⟨f, rfl, HI.out.put hS (i := 10) (key := 51) (by kernel_rfl) (fun _ _ => trivial) em k1 k2 k3 k4 hv hm1 t1⟩
    · cases (show some _ = some o from ho)
      refine wpOp_of ho rfl ?_
      refine wp_enter (f := 158) (args := #[.int .i64 2, .func (.func 170) #[] #[]]) (w1 := Wx) ?_ ((wide_new 2 (.func 170) #[] #[] Wx).mono ?_)
      · clear hdep hC hli ho
        first | (go_simp; done) | (go_simp; rfl)
      · rintro _ W1 ⟨v, rfl, hv, t1⟩
        exact ⟨_, rfl, _, rfl, HI.out.val hS (i := 11) (d := 8) (by kernel_rfl) t1 (hv.low (by have := t.size; omega))⟩
    · cases (show some _ = some o from ho)
      refine wpOp_of ho rfl ?_
      obtain ⟨mb, l, em, k1, k2, k3, k4⟩ := HI.out.map (hdep { on := 0, ground := .data } (by simp) rfl)
      have hv : pairsG w.heap.size w.heap.size 52 (f 8) Wx := ⟨by decide, HI.out.pv 11 (by decide) (hdep { on := 11, ground := .data } (by simp) rfl)⟩
      obtain ⟨W1, hrun, hm1, t1⟩ := k2.update (P := Tryz.prog) Tryz.underlying184 Tryz.underlying3 52 (f 8)
      exact wp_put 184 (.tmp 2) (.const (.int .i64 52)) (.tmp 8) rfl (show f 2 = _ from em) rfl rfl hrun ⟨f, rfl, HI.out.put hS (i := 12) (key := 52) (by kernel_rfl) (fun _ _ => trivial) em k1 k2 k3 k4 hv hm1 t1⟩
    · cases (show some _ = some o from ho)
      refine wpOp_of ho rfl ?_
      refine wp_enter (f := 158) (args := #[.int .i64 2, .func (.func 172) #[] #[]]) (w1 := Wx) ?_ ((wide_new 2 (.func 172) #[] #[] Wx).mono ?_)
      · clear hdep hC hli ho
        first | (go_simp; done) | (go_simp; rfl)
      · rintro _ W1 ⟨v, rfl, hv, t1⟩
        exact ⟨_, rfl, _, rfl, HI.out.val hS (i := 13) (d := 9) (by kernel_rfl) t1 (hv.low (by have := t.size; omega))⟩
    · cases (show some _ = some o from ho)
      refine wpOp_of ho rfl ?_
      obtain ⟨mb, l, em, k1, k2, k3, k4⟩ := HI.out.map (hdep { on := 0, ground := .data } (by simp) rfl)
      have hv : pairsG w.heap.size w.heap.size 53 (f 9) Wx := ⟨by decide, HI.out.pv 13 (by decide) (hdep { on := 13, ground := .data } (by simp) rfl)⟩
      obtain ⟨W1, hrun, hm1, t1⟩ := k2.update (P := Tryz.prog) Tryz.underlying184 Tryz.underlying3 53 (f 9)
      exact wp_put 184 (.tmp 2) (.const (.int .i64 53)) (.tmp 9) rfl (show f 2 = _ from em) rfl rfl hrun ⟨f, rfl, HI.out.put hS (i := 14) (key := 53) (by kernel_rfl) (fun _ _ => trivial) em k1 k2 k3 k4 hv hm1 t1⟩
    · cases (show some _ = some o from ho)
      refine wpOp_of ho rfl ?_
      refine wp_enter (f := 158) (args := #[.int .i64 2, .func (.func 173) #[] #[]]) (w1 := Wx) ?_ ((wide_new 2 (.func 173) #[] #[] Wx).mono ?_)
      · clear hdep hC hli ho
        first | (go_simp; done) | (go_simp; rfl)
      · rintro _ W1 ⟨v, rfl, hv, t1⟩
        exact ⟨_, rfl, _, rfl, HI.out.val hS (i := 15) (d := 10) (by kernel_rfl) t1 (hv.low (by have := t.size; omega))⟩
    · cases (show some _ = some o from ho)
      refine wpOp_of ho rfl ?_
      obtain ⟨mb, l, em, k1, k2, k3, k4⟩ := HI.out.map (hdep { on := 0, ground := .data } (by simp) rfl)
      have hv : pairsG w.heap.size w.heap.size 54 (f 10) Wx := ⟨by decide, HI.out.pv 15 (by decide) (hdep { on := 15, ground := .data } (by simp) rfl)⟩
      obtain ⟨W1, hrun, hm1, t1⟩ := k2.update (P := Tryz.prog) Tryz.underlying184 Tryz.underlying3 54 (f 10)
      exact wp_put 184 (.tmp 2) (.const (.int .i64 54)) (.tmp 10) rfl (show f 2 = _ from em) rfl rfl hrun ⟨f, rfl, HI.out.put hS (i := 16) (key := 54) (by kernel_rfl) (fun _ _ => trivial) em k1 k2 k3 k4 hv hm1 t1⟩
    · cases (show some _ = some o from ho)
      refine wpOp_of ho rfl ?_
      refine wp_enter (f := 158) (args := #[.int .i64 2, .func (.func 175) #[] #[]]) (w1 := Wx) ?_ ((wide_new 2 (.func 175) #[] #[] Wx).mono ?_)
      · clear hdep hC hli ho
        first | (go_simp; done) | (go_simp; rfl)
      · rintro _ W1 ⟨v, rfl, hv, t1⟩
        exact ⟨_, rfl, _, rfl, HI.out.val hS (i := 17) (d := 11) (by kernel_rfl) t1 (hv.low (by have := t.size; omega))⟩
    · cases (show some _ = some o from ho)
      refine wpOp_of ho rfl ?_
      obtain ⟨mb, l, em, k1, k2, k3, k4⟩ := HI.out.map (hdep { on := 0, ground := .data } (by simp) rfl)
      have hv : pairsG w.heap.size w.heap.size 47 (f 11) Wx := ⟨by decide, HI.out.pv 17 (by decide) (hdep { on := 17, ground := .data } (by simp) rfl)⟩
      obtain ⟨W1, hrun, hm1, t1⟩ := k2.update (P := Tryz.prog) Tryz.underlying184 Tryz.underlying3 47 (f 11)
      exact wp_put 184 (.tmp 2) (.const (.int .i64 47)) (.tmp 11) rfl (show f 2 = _ from em) rfl rfl hrun ⟨f, rfl, HI.out.put hS (i := 18) (key := 47) (by kernel_rfl) (fun _ _ => trivial) em k1 k2 k3 k4 hv hm1 t1⟩
    · cases (show some _ = some o from ho)
      refine wpOp_of ho rfl ?_
      refine wp_enter (f := 176) (args := #[.int .i64 4, .func (.func 177) #[] #[]]) (w1 := Wx) ?_ ((gives_new 4 (.func 177) #[] #[] Wx).mono ?_)
      · clear hdep hC hli ho
        first | (go_simp; done) | (go_simp; rfl)
      · rintro _ W1 ⟨v, rfl, hv, t1⟩
        exact ⟨_, rfl, _, rfl, HI.out.val hS (i := 19) (d := 12) (by kernel_rfl) t1 (hv.low (by have := t.size; omega))⟩
    · cases (show some _ = some o from ho)
      refine wpOp_of ho rfl ?_
      obtain ⟨mb, l, em, k1, k2, k3, k4⟩ := HI.out.map (hdep { on := 0, ground := .data } (by simp) rfl)
      have hv : pairsG w.heap.size w.heap.size 48 (f 12) Wx := ⟨by decide, HI.out.pv 19 (by decide) (hdep { on := 19, ground := .data } (by simp) rfl)⟩
      obtain ⟨W1, hrun, hm1, t1⟩ := k2.update (P := Tryz.prog) Tryz.underlying184 Tryz.underlying3 48 (f 12)
      exact wp_put 184 (.tmp 2) (.const (.int .i64 48)) (.tmp 12) rfl (show f 2 = _ from em) rfl rfl hrun ⟨f, rfl, HI.out.put hS (i := 20) (key := 48) (by kernel_rfl) (fun _ _ => trivial) em k1 k2 k3 k4 hv hm1 t1⟩
    · cases (show some _ = some o from ho)
      refine wpOp_of ho rfl ?_
      refine wp_enter (f := 176) (args := #[.int .i64 4, .func (.func 179) #[] #[]]) (w1 := Wx) ?_ ((gives_new 4 (.func 179) #[] #[] Wx).mono ?_)
      · clear hdep hC hli ho
        first | (go_simp; done) | (go_simp; rfl)
      · rintro _ W1 ⟨v, rfl, hv, t1⟩
        exact ⟨_, rfl, _, rfl, HI.out.val hS (i := 21) (d := 13) (by kernel_rfl) t1 (hv.low (by have := t.size; omega))⟩
    · cases (show some _ = some o from ho)
      refine wpOp_of ho rfl ?_
      obtain ⟨mb, l, em, k1, k2, k3, k4⟩ := HI.out.map (hdep { on := 0, ground := .data } (by simp) rfl)
      have hv : pairsG w.heap.size w.heap.size 49 (f 13) Wx := ⟨by decide, HI.out.pv 21 (by decide) (hdep { on := 21, ground := .data } (by simp) rfl)⟩
      obtain ⟨W1, hrun, hm1, t1⟩ := k2.update (P := Tryz.prog) Tryz.underlying184 Tryz.underlying3 49 (f 13)
      exact wp_put 184 (.tmp 2) (.const (.int .i64 49)) (.tmp 13) rfl (show f 2 = _ from em) rfl rfl hrun ⟨f, rfl, HI.out.put hS (i := 22) (key := 49) (by kernel_rfl) (fun _ _ => trivial) em k1 k2 k3 k4 hv hm1 t1⟩
    · cases (show some _ = some o from ho)
      refine wpOp_of ho rfl ?_
      refine wp_enter (f := 176) (args := #[.int .i64 4, .func (.func 181) #[] #[]]) (w1 := Wx) ?_ ((gives_new 4 (.func 181) #[] #[] Wx).mono ?_)
      · clear hdep hC hli ho
        first | (go_simp; done) | (go_simp; rfl)
      · rintro _ W1 ⟨v, rfl, hv, t1⟩
        exact ⟨_, rfl, _, rfl, HI.out.val hS (i := 23) (d := 14) (by kernel_rfl) t1 (hv.low (by have := t.size; omega))⟩
    · cases (show some _ = some o from ho)
      refine wpOp_of ho rfl ?_
      obtain ⟨mb, l, em, k1, k2, k3, k4⟩ := HI.out.map (hdep { on := 0, ground := .data } (by simp) rfl)
      have hv : pairsG w.heap.size w.heap.size 50 (f 14) Wx := ⟨by decide, HI.out.pv 23 (by decide) (hdep { on := 23, ground := .data } (by simp) rfl)⟩
      obtain ⟨W1, hrun, hm1, t1⟩ := k2.update (P := Tryz.prog) Tryz.underlying184 Tryz.underlying3 50 (f 14)
      exact wp_put 184 (.tmp 2) (.const (.int .i64 50)) (.tmp 14) rfl (show f 2 = _ from em) rfl rfl hrun ⟨f, rfl, HI.out.put hS (i := 24) (key := 50) (by kernel_rfl) (fun _ _ => trivial) em k1 k2 k3 k4 hv hm1 t1⟩
    · cases (show some _ = some o from ho)
      refine wpOp_of ho rfl ?_
      refine wp_enter (f := 182) (args := #[.int .i64 3, .func (.func 183) #[] #[]]) (w1 := Wx) ?_ ((divides_new 3 (.func 183) #[] #[] Wx).mono ?_)
      · clear hdep hC hli ho
        first | (go_simp; done) | (go_simp; rfl)
      · rintro _ W1 ⟨v, rfl, hv, t1⟩
        exact ⟨_, rfl, _, rfl, HI.out.val hS (i := 25) (d := 15) (by kernel_rfl) t1 (hv.low (by have := t.size; omega))⟩
    · cases (show some _ = some o from ho)
      refine wpOp_of ho rfl ?_
      obtain ⟨mb, l, em, k1, k2, k3, k4⟩ := HI.out.map (hdep { on := 0, ground := .data } (by simp) rfl)
      have hv : pairsG w.heap.size w.heap.size 55 (f 15) Wx := ⟨by decide, HI.out.pv 25 (by decide) (hdep { on := 25, ground := .data } (by simp) rfl)⟩
      obtain ⟨W1, hrun, hm1, t1⟩ := k2.update (P := Tryz.prog) Tryz.underlying184 Tryz.underlying3 55 (f 15)
      exact wp_put 184 (.tmp 2) (.const (.int .i64 55)) (.tmp 15) rfl (show f 2 = _ from em) rfl rfl hrun ⟨f, rfl, HI.out.put hS (i := 26) (key := 55) (by kernel_rfl) (fun _ _ => trivial) em k1 k2 k3 k4 hv hm1 t1⟩
    · cases (show some _ = some o from ho)
      refine wpOp_of ho rfl ?_
      refine wp_enter (f := 182) (args := #[.int .i64 3, .func (.func 185) #[] #[]]) (w1 := Wx) ?_ ((divides_new 3 (.func 185) #[] #[] Wx).mono ?_)
      · clear hdep hC hli ho
        first | (go_simp; done) | (go_simp; rfl)
      · rintro _ W1 ⟨v, rfl, hv, t1⟩
        exact ⟨_, rfl, _, rfl, HI.out.val hS (i := 27) (d := 16) (by kernel_rfl) t1 (hv.low (by have := t.size; omega))⟩
    · cases (show some _ = some o from ho)
      refine wpOp_of ho rfl ?_
      obtain ⟨mb, l, em, k1, k2, k3, k4⟩ := HI.out.map (hdep { on := 0, ground := .data } (by simp) rfl)
      have hv : pairsG w.heap.size w.heap.size 56 (f 16) Wx := ⟨by decide, HI.out.pv 27 (by decide) (hdep { on := 27, ground := .data } (by simp) rfl)⟩
      obtain ⟨W1, hrun, hm1, t1⟩ := k2.update (P := Tryz.prog) Tryz.underlying184 Tryz.underlying3 56 (f 16)
      exact wp_put 184 (.tmp 2) (.const (.int .i64 56)) (.tmp 16) rfl (show f 2 = _ from em) rfl rfl hrun ⟨f, rfl, HI.out.put hS (i := 28) (key := 56) (by kernel_rfl) (fun _ _ => trivial) em k1 k2 k3 k4 hv hm1 t1⟩
    · cases (show some _ = some o from ho)
      refine wpOp_of ho rfl ?_
      refine wp_enter (f := 182) (args := #[.int .i64 3, .func (.func 186) #[] #[]]) (w1 := Wx) ?_ ((divides_new 3 (.func 186) #[] #[] Wx).mono ?_)
      · clear hdep hC hli ho
        first | (go_simp; done) | (go_simp; rfl)
      · rintro _ W1 ⟨v, rfl, hv, t1⟩
        exact ⟨_, rfl, _, rfl, HI.out.val hS (i := 29) (d := 17) (by kernel_rfl) t1 (hv.low (by have := t.size; omega))⟩
    · cases (show some _ = some o from ho)
      refine wpOp_of ho rfl ?_
      obtain ⟨mb, l, em, k1, k2, k3, k4⟩ := HI.out.map (hdep { on := 0, ground := .data } (by simp) rfl)
      have hv : pairsG w.heap.size w.heap.size 57 (f 17) Wx := ⟨by decide, HI.out.pv 29 (by decide) (hdep { on := 29, ground := .data } (by simp) rfl)⟩
      obtain ⟨W1, hrun, hm1, t1⟩ := k2.update (P := Tryz.prog) Tryz.underlying184 Tryz.underlying3 57 (f 17)
      exact wp_put 184 (.tmp 2) (.const (.int .i64 57)) (.tmp 17) rfl (show f 2 = _ from em) rfl rfl hrun ⟨f, rfl, HI.out.put hS (i := 30) (key := 57) (by kernel_rfl) (fun _ _ => trivial) em k1 k2 k3 k4 hv hm1 t1⟩
    · cases (show some _ = some o from ho)
      refine wpOp_of ho rfl ?_
      have cn := (HN.out.1.touch t (by simp)).cell 0
      refine wp_value (v := .func (.func 155) #[] #[]) (w1 := Wx) ?_ ⟨_, rfl, HI.out.val hS (i := 31) (d := 18) (by kernel_rfl) (Touch.refl [] Wx) rfl⟩
      clear hdep hC hli ho
      first | (go_simp; done) | (go_simp; rfl)
    · cases (show some _ = some o from ho)
      refine wpOp_of ho rfl ?_
      have g31 : f 18 = .func (.func 155) #[] #[] := HI.out.pv 31 (by decide) (hdep { on := 31, ground := .data } (by simp) rfl)
      refine wp_enter (f := 182) (args := #[.int .i64 3, .func (.func 155) #[] #[]]) (w1 := Wx) ?_ ((divides_new 3 (.func 155) #[] #[] Wx).mono ?_)
      · clear hdep hC hli ho
        first | (go_simp; done) | (go_simp; rfl)
      · rintro _ W1 ⟨v, rfl, hv, t1⟩
        exact ⟨_, rfl, _, rfl, HI.out.val hS (i := 32) (d := 19) (by kernel_rfl) t1 (hv.low (by have := t.size; omega))⟩
    · cases (show some _ = some o from ho)
      refine wpOp_of ho rfl ?_
      obtain ⟨mb, l, em, k1, k2, k3, k4⟩ := HI.out.map (hdep { on := 0, ground := .data } (by simp) rfl)
      have hv : pairsG w.heap.size w.heap.size 59 (f 19) Wx := ⟨by decide, HI.out.pv 32 (by decide) (hdep { on := 32, ground := .data } (by simp) rfl)⟩
      obtain ⟨W1, hrun, hm1, t1⟩ := k2.update (P := Tryz.prog) Tryz.underlying184 Tryz.underlying3 59 (f 19)
      exact wp_put 184 (.tmp 2) (.const (.int .i64 59)) (.tmp 19) rfl (show f 2 = _ from em) rfl rfl hrun ⟨f, rfl, HI.out.put hS (i := 33) (key := 59) (by kernel_rfl) (fun _ _ => trivial) em k1 k2 k3 k4 hv hm1 t1⟩
    · cases (show some _ = some o from ho)
      refine wpOp_of ho rfl ?_
      refine wp_value (v := .func (.func 188) #[] #[.pointer (some ⟨w.heap.size, 0, none⟩)]) (w1 := Wx) ?_ ⟨_, rfl, HI.out.val hS (i := 34) (d := 20) (by kernel_rfl) (Touch.refl [] Wx) rfl⟩
      clear hdep hC hli ho
      first | (go_simp; done) | (go_simp; rfl)
    · cases (show some _ = some o from ho)
      refine wpOp_of ho rfl ?_
      have g34 : f 20 = .func (.func 188) #[] #[.pointer (some ⟨w.heap.size, 0, none⟩)] := HI.out.pv 34 (by decide) (hdep { on := 34, ground := .data } (by simp) rfl)
      refine wp_enter (f := 124) (args := #[.int .i64 3, .func (.func 188) #[] #[.pointer (some ⟨w.heap.size, 0, none⟩)]]) (w1 := Wx) ?_ ((may_new 3 (.func 188) #[] #[.pointer (some ⟨w.heap.size, 0, none⟩)] Wx).mono ?_)
      · clear hdep hC hli ho
        first | (go_simp; done) | (go_simp; rfl)
      · rintro _ W1 ⟨v, rfl, hv, t1⟩
        exact ⟨_, rfl, _, rfl, HI.out.val hS (i := 35) (d := 21) (by kernel_rfl) t1 (hv.low (by have := t.size; omega))⟩
    · cases (show some _ = some o from ho)
      refine wpOp_of ho rfl ?_
      obtain ⟨mb, l, em, k1, k2, k3, k4⟩ := HI.out.map (hdep { on := 0, ground := .data } (by simp) rfl)
      have hv : pairsG w.heap.size w.heap.size 58 (f 21) Wx := ⟨by decide, HI.out.pv 35 (by decide) (hdep { on := 35, ground := .data } (by simp) rfl)⟩
      obtain ⟨W1, hrun, hm1, t1⟩ := k2.update (P := Tryz.prog) Tryz.underlying184 Tryz.underlying3 58 (f 21)
      exact wp_put 184 (.tmp 2) (.const (.int .i64 58)) (.tmp 21) rfl (show f 2 = _ from em) rfl rfl hrun ⟨f, rfl, HI.out.put hS (i := 36) (key := 58) (by kernel_rfl) (fun _ _ => trivial) em k1 k2 k3 k4 hv hm1 t1⟩
    · cases (show some _ = some o from ho)
      refine wpOp_of ho rfl ?_
      refine wp_enter (f := 182) (args := #[.int .i64 2, .func (.func 189) #[] #[]]) (w1 := Wx) ?_ ((divides_new 2 (.func 189) #[] #[] Wx).mono ?_)
      · clear hdep hC hli ho
        first | (go_simp; done) | (go_simp; rfl)
      · rintro _ W1 ⟨v, rfl, hv, t1⟩
        exact ⟨_, rfl, _, rfl, HI.out.val hS (i := 37) (d := 22) (by kernel_rfl) t1 (hv.low (by have := t.size; omega))⟩
    · cases (show some _ = some o from ho)
      refine wpOp_of ho rfl ?_
      obtain ⟨mb, l, em, k1, k2, k3, k4⟩ := HI.out.map (hdep { on := 0, ground := .data } (by simp) rfl)
      have hv : pairsG w.heap.size w.heap.size 60 (f 22) Wx := ⟨by decide, HI.out.pv 37 (by decide) (hdep { on := 37, ground := .data } (by simp) rfl)⟩
      obtain ⟨W1, hrun, hm1, t1⟩ := k2.update (P := Tryz.prog) Tryz.underlying184 Tryz.underlying3 60 (f 22)
      exact wp_put 184 (.tmp 2) (.const (.int .i64 60)) (.tmp 22) rfl (show f 2 = _ from em) rfl rfl hrun ⟨f, rfl, HI.out.put hS (i := 38) (key := 60) (by kernel_rfl) (fun _ _ => trivial) em k1 k2 k3 k4 hv hm1 t1⟩
    · cases (show some _ = some o from ho)
      refine wpOp_of ho rfl ?_
      refine wp_enter (f := 176) (args := #[.int .i64 1, .func (.func 190) #[] #[]]) (w1 := Wx) ?_ ((gives_new 1 (.func 190) #[] #[] Wx).mono ?_)
      · clear hdep hC hli ho
        first | (go_simp; done) | (go_simp; rfl)
      · rintro _ W1 ⟨v, rfl, hv, t1⟩
        exact ⟨_, rfl, _, rfl, HI.out.val hS (i := 39) (d := 23) (by kernel_rfl) t1 (hv.low (by have := t.size; omega))⟩
    · cases (show some _ = some o from ho)
      refine wpOp_of ho rfl ?_
      obtain ⟨mb, l, em, k1, k2, k3, k4⟩ := HI.out.map (hdep { on := 0, ground := .data } (by simp) rfl)
      have hv : pairsG w.heap.size w.heap.size 71 (f 23) Wx := ⟨by decide, HI.out.pv 39 (by decide) (hdep { on := 39, ground := .data } (by simp) rfl)⟩
      obtain ⟨W1, hrun, hm1, t1⟩ := k2.update (P := Tryz.prog) Tryz.underlying184 Tryz.underlying3 71 (f 23)
      exact wp_put 184 (.tmp 2) (.const (.int .i64 71)) (.tmp 23) rfl (show f 2 = _ from em) rfl rfl hrun ⟨f, rfl, HI.out.put hS (i := 40) (key := 71) (by kernel_rfl) (fun _ _ => trivial) em k1 k2 k3 k4 hv hm1 t1⟩
    · cases (show some _ = some o from ho)
      refine wpOp_of ho rfl ?_
      refine wp_enter (f := 124) (args := #[.int .i64 1, .func (.func 192) #[] #[]]) (w1 := Wx) ?_ ((may_new 1 (.func 192) #[] #[] Wx).mono ?_)
      · clear hdep hC hli ho
        first | (go_simp; done) | (go_simp; rfl)
      · rintro _ W1 ⟨v, rfl, hv, t1⟩
        exact ⟨_, rfl, _, rfl, HI.out.val hS (i := 41) (d := 24) (by kernel_rfl) t1 (hv.low (by have := t.size; omega))⟩
    · cases (show some _ = some o from ho)
      refine wpOp_of ho rfl ?_
      obtain ⟨mb, l, em, k1, k2, k3, k4⟩ := HI.out.map (hdep { on := 0, ground := .data } (by simp) rfl)
      have hv : pairsG w.heap.size w.heap.size 72 (f 24) Wx := ⟨by decide, HI.out.pv 41 (by decide) (hdep { on := 41, ground := .data } (by simp) rfl)⟩
      obtain ⟨W1, hrun, hm1, t1⟩ := k2.update (P := Tryz.prog) Tryz.underlying184 Tryz.underlying3 72 (f 24)
      exact wp_put 184 (.tmp 2) (.const (.int .i64 72)) (.tmp 24) rfl (show f 2 = _ from em) rfl rfl hrun ⟨f, rfl, HI.out.put hS (i := 42) (key := 72) (by kernel_rfl) (fun _ _ => trivial) em k1 k2 k3 k4 hv hm1 t1⟩
    · cases (show some _ = some o from ho)
      refine wpOp_of ho rfl ?_
      refine wp_value (v := f 2) (w1 := Wx) ?_ ⟨_, rfl, HI.out.move pairs_ok (fun _ _ => trivial)⟩
      clear hdep hC hli ho
      first | (go_simp; done) | (go_simp; rfl)
    · cases (show some _ = some o from ho)
      refine wpOp_of ho rfl ?_
      refine wp_value (v := f 25) (w1 := Wx) ?_ ⟨_, rfl, HI.out.assign pairs_ok (fun _ _ => trivial) (hdep { on := 43, ground := .data } (by simp) rfl)⟩
      clear hdep hC hli ho
      first | (go_simp; done) | (go_simp; rfl)
  case fin =>
    rintro listed a Wx hl ⟨f, rfl, hI⟩
    obtain ⟨mb, l, em, k1, k2, k3, k4⟩ := hI.map (hl 0 (by decide))
    have e6 : f 0 = .map (some mb) := (hI.fin (hl 44 (by decide))).trans em
    have hz : ∀ p ∈ pairsT.ins, p.1 < 45 := by decide
    have hfin : IMap Wx mb l ∧ (∀ k v, atKey l k = some v → pairsG w.heap.size w.heap.size k v Wx) ∧ (∀ p ∈ pairsT.ins, (atKey l p.2).isSome = true) ∧ Touch [] w Wx := ⟨k2, k3, fun p hp => k4 p hp (hl p.1 (hz p hp)), HN.out.2.trans hI.t (by simp)⟩
    have HF := Lib.hid (And.intro hfin (HN.out.1.touch hI.t (by simp)))
    clear hfin hI k1 k2 k3 k4 em hl hS hmf hmm hEdivides hEgives hEmay hEwide
    rw [e6]
    clear e6
    go_wp2
    go_ret
    exact ⟨mb, l, w.heap.size, rfl, Nat.le_refl _, HF.out.1.1, HF.out.1.2.1, HF.out.1.2.2.1, HF.out.1.2.2.2, HF.out.2⟩
end Go.Proofs.YtdokeddjcpnmiaaGreatDoor
