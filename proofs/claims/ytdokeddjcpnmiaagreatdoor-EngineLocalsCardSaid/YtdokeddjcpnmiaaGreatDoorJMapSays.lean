import Derived.Test.YtdokeddjcpnmiaaGreatDoorJMapsA
import Derived.Deep.Cut
import Derived.Shelf.Abstract
/- The map of prim.says (printed by wip/primmap.py). -/
namespace Go.Proofs.YtdokeddjcpnmiaaGreatDoor
open Go.RowKit

def saysT : MTab := ⟨59, [7, 8, 9, 999, 10, 11, 999, 12, 13, 999, 14, 15, 999, 16, 17, 999, 18, 19, 999, 20, 21, 999, 22, 23, 999, 24, 25, 999, 26, 27, 28, 999, 29, 30, 999, 31, 32, 999, 33, 34, 999, 35, 36, 999, 37, 38, 999, 39, 40, 999, 41, 42, 999, 43, 44, 45, 999, 46, 2], [(3, 90), (6, 94), (9, 95), (12, 96), (15, 97), (18, 98), (21, 91), (24, 92), (27, 93), (31, 99), (34, 100), (37, 101), (40, 102), (43, 103), (46, 104), (49, 105), (52, 106), (56, 107)], 7, 57, 46, 58, 2⟩
def saysPV (B b : Nat) (s : Nat) : Nat → Value → World → Prop
  | 1, v, _ => v = .func (.func 219) #[] #[.pointer (some ⟨b, 0, none⟩)]
  | 2, v, W => SayAct B 1 b (.func (.func 224) #[] #[]) v W
  | 4, v, _ => v = .func (.func 219) #[] #[.pointer (some ⟨b, 0, none⟩)]
  | 5, v, W => SayAct B 1 b (.func (.func 225) #[] #[]) v W
  | 7, v, _ => v = .func (.func 219) #[] #[.pointer (some ⟨b, 0, none⟩)]
  | 8, v, W => SayAct B 0 b (.func (.func 227) #[] #[]) v W
  | 10, v, _ => v = .func (.func 219) #[] #[.pointer (some ⟨b, 0, none⟩)]
  | 11, v, W => SayAct B 0 b (.func (.func 228) #[] #[]) v W
  | 13, v, _ => v = .func (.func 219) #[] #[.pointer (some ⟨b, 0, none⟩)]
  | 14, v, W => SayAct B 1 b (.func (.func 229) #[] #[]) v W
  | 16, v, _ => v = .func (.func 231) #[] #[.pointer (some ⟨b, 0, none⟩)]
  | 17, v, W => ActAt B 2 281 132 (.func (.func 231) #[] #[.pointer (some ⟨b, 0, none⟩)]) v W
  | 19, v, _ => v = .func (.func 233) #[] #[.pointer (some ⟨b, 0, none⟩)]
  | 20, v, W => ActAt B 1 281 132 (.func (.func 233) #[] #[.pointer (some ⟨b, 0, none⟩)]) v W
  | 22, v, _ => v = .func (.func 235) #[] #[.pointer (some ⟨b, 0, none⟩)]
  | 23, v, W => ActAt B 1 281 132 (.func (.func 235) #[] #[.pointer (some ⟨b, 0, none⟩)]) v W
  | 25, v, _ => v = .func (.func 236) #[] #[.pointer (some ⟨b, 0, none⟩)]
  | 26, v, W => ActAt B 2 281 132 (.func (.func 236) #[] #[.pointer (some ⟨b, 0, none⟩)]) v W
  | 28, v, _ => v = .pointer (some ⟨s, 0, none⟩)
  | 29, v, _ => v = .func (.func 237) #[.pointer (some ⟨s, 0, none⟩)] #[]
  | 30, v, W => ActAt B 0 281 132 (.func (.func 237) #[.pointer (some ⟨s, 0, none⟩)] #[]) v W
  | 32, v, _ => v = .func (.func 222) #[] #[.pointer (some ⟨b, 0, none⟩)]
  | 33, v, W => BaseAct B 10 b v W
  | 35, v, _ => v = .func (.func 222) #[] #[.pointer (some ⟨b, 0, none⟩)]
  | 36, v, W => BaseAct B 16 b v W
  | 38, v, _ => v = .func (.func 238) #[] #[.pointer (some ⟨b, 0, none⟩)]
  | 39, v, W => ActAt B 0 281 132 (.func (.func 238) #[] #[.pointer (some ⟨b, 0, none⟩)]) v W
  | 41, v, _ => v = .pointer (some ⟨s, 0, none⟩)
  | 42, v, W => DigAct B s false v W
  | 44, v, _ => v = .pointer (some ⟨s, 0, none⟩)
  | 45, v, W => DigAct B s true v W
  | 47, v, _ => v = .func (.func 240) #[] #[.pointer (some ⟨b, 0, none⟩)]
  | 48, v, W => ActAt B 1 281 132 (.func (.func 240) #[] #[.pointer (some ⟨b, 0, none⟩)]) v W
  | 50, v, _ => v = .func (.func 242) #[] #[.pointer (some ⟨b, 0, none⟩)]
  | 51, v, W => ActAt B 1 281 132 (.func (.func 242) #[] #[.pointer (some ⟨b, 0, none⟩)]) v W
  | 53, v, _ => v = .pointer (some ⟨s, 0, none⟩)
  | 54, v, _ => v = .func (.func 243) #[.pointer (some ⟨s, 0, none⟩)] #[]
  | 55, v, _ => v = .agg #[.int .i64 2, .func (.func 243) #[.pointer (some ⟨s, 0, none⟩)] #[]]
  | _, _, _ => True
def saysOp (k : Int) : Nat := (([(90, 2), (94, 5), (95, 8), (96, 11), (97, 14), (98, 17), (91, 20), (92, 23), (93, 26), (99, 30), (100, 33), (101, 36), (102, 39), (103, 42), (104, 45), (105, 48), (106, 51), (107, 55)] : List (Int × Nat)).find? fun p => p.1 == k).elim 0 (·.2)
def saysG (B b : Nat) (s : Nat) (k : Int) (v : Value) (W : World) : Prop := saysOp k ≠ 0 ∧ saysPV B b s (saysOp k) v W
theorem says_stays (B b : Nat) (s : Nat) : MStays (saysPV B b s) (saysG B b s) := by
  have hp : ∀ A C, OnB A C → ∀ j v, saysPV B b s j v A → saysPV B b s j v C := by
    intro A C o j v h
    unfold saysPV at h ⊢
    split at h <;> first | exact h.on o | exact h
  exact ⟨hp, fun A C o k v h => ⟨h.1, hp A C o _ v h.2⟩⟩
theorem says_ok : saysT.ok = true := by kernel_rfl
set_option maxRecDepth 100000 in
set_option maxHeartbeats 4000000 in
theorem says_any (w : World) (s : Nat) : Calls Tryz.prog 135 #[.pointer (some ⟨s, 0, none⟩)] w fun e w' => ∃ mb l b, e = .returned (.map (some mb)) ∧ w.heap.size ≤ b ∧ IMap w' mb l ∧ (∀ k v, atKey l k = some v → saysG w.heap.size b s k v w') ∧ (∀ p ∈ saysT.ins, (atKey l p.2).isSome = true) ∧ Touch [] w w' ∧ Blk w' b 37 #[.pointer (some ⟨s, 0, none⟩)] := by
  have bN := Blk.new w 37 #[.pointer (some ⟨s, 0, none⟩)]
  have tN := (Touch.refl [] w).alloc (.cells #[.pointer (some ⟨s, 0, none⟩)] 37)
  have hmf : ∀ (fn : Fn) (first cap : Array Value) (w : World), (Instr.makeFunc fn first cap).run Tryz.prog w = .ok (.func fn first cap) w := fun _ _ _ _ => rfl
  go_enter Tryz.func135, Tryz.ntmps135
  go_upto_region 3 with (fail)
  generalize w.alloc (Obj.cells #[Value.pointer (some ⟨s, 0, none⟩)] 37) = W0 at *
  have HN := Lib.hid (And.intro bN tN)
  have hw0 := tN.size
  clear bN tN hmf
  have hEs1 := enters_of Tryz.func219 (by kernel_rfl) rfl
  have hEs2 := enters_of Tryz.func222 (by kernel_rfl) rfl
  have hEdg := enters_of Tryz.func239 (by kernel_rfl) rfl
  have hEtells := enters_of Tryz.func198 (by kernel_rfl) rfl
  have hmf : ∀ (fn : Fn) (first cap : Array Value) (w : World), (Instr.makeFunc fn first cap).run Tryz.prog w = .ok (.func fn first cap) w := fun _ _ _ _ => rfl
  have hmm := @run_makeMap Tryz.prog
  have hS := says_stays w.heap.size w.heap.size s
  refine region_inv (fun listed a Wx => ∃ f : Nat → Value, a = { tmps := #[Value.pointer (some ⟨s, 0, none⟩), Value.pointer (some ⟨w.heap.size, 0, none⟩), f 2, Value.func (.func 219) #[] #[.pointer (some ⟨w.heap.size, 0, none⟩)], Value.func (.func 222) #[] #[.pointer (some ⟨w.heap.size, 0, none⟩)], Value.func (.func 219) #[] #[.pointer (some ⟨w.heap.size, 0, none⟩)], Value.func (.func 222) #[] #[.pointer (some ⟨w.heap.size, 0, none⟩)], f 7, f 8, f 9, f 10, f 11, f 12, f 13, f 14, f 15, f 16, f 17, f 18, f 19, f 20, f 21, f 22, f 23, f 24, f 25, f 26, f 27, f 28, f 29, f 30, f 31, f 32, f 33, f 34, f 35, f 36, f 37, f 38, f 39, f 40, f 41, f 42, f 43, f 44, f 45, f 46], defers := [] } ∧ MInv saysT (saysPV w.heap.size w.heap.size s) (saysG w.heap.size w.heap.size s) W0 listed f Wx) (by kernel_rfl) (by kernel_rfl) ?h0 ?step ?fin
  case h0 =>
    intro listed hs hl
    exact ⟨fun j => if j = 2 then .map none else undef, rfl, MInv.start hl (Touch.refl [] W0).drew⟩
  case step =>
    rintro listed a Wx ⟨f, rfl, hI⟩ hC i o ho hli hdep
    try dsimp only
    have hi : i < 59 := (Array.getElem?_eq_some_iff.1 ho).1
    have HI := Lib.hid hI
    have t := hI.t
    clear hI
    rcases (by omega : i = 0 ∨ i = 1 ∨ i = 2 ∨ i = 3 ∨ i = 4 ∨ i = 5 ∨ i = 6 ∨ i = 7 ∨ i = 8 ∨ i = 9 ∨ i = 10 ∨ i = 11 ∨ i = 12 ∨ i = 13 ∨ i = 14 ∨ i = 15 ∨ i = 16 ∨ i = 17 ∨ i = 18 ∨ i = 19 ∨ i = 20 ∨ i = 21 ∨ i = 22 ∨ i = 23 ∨ i = 24 ∨ i = 25 ∨ i = 26 ∨ i = 27 ∨ i = 28 ∨ i = 29 ∨ i = 30 ∨ i = 31 ∨ i = 32 ∨ i = 33 ∨ i = 34 ∨ i = 35 ∨ i = 36 ∨ i = 37 ∨ i = 38 ∨ i = 39 ∨ i = 40 ∨ i = 41 ∨ i = 42 ∨ i = 43 ∨ i = 44 ∨ i = 45 ∨ i = 46 ∨ i = 47 ∨ i = 48 ∨ i = 49 ∨ i = 50 ∨ i = 51 ∨ i = 52 ∨ i = 53 ∨ i = 54 ∨ i = 55 ∨ i = 56 ∨ i = 57 ∨ i = 58) with rfl | rfl | rfl | rfl | rfl | rfl | rfl | rfl | rfl | rfl | rfl | rfl | rfl | rfl | rfl | rfl | rfl | rfl | rfl | rfl | rfl | rfl | rfl | rfl | rfl | rfl | rfl | rfl | rfl | rfl | rfl | rfl | rfl | rfl | rfl | rfl | rfl | rfl | rfl | rfl | rfl | rfl | rfl | rfl | rfl | rfl | rfl | rfl | rfl | rfl | rfl | rfl | rfl | rfl | rfl | rfl | rfl | rfl | rfl
    · cases (show some _ = some o from ho)
      refine wpOp_of ho rfl ?_
      have hn : ∀ p ∈ saysT.ins, listed.getD p.1 false = false := by
        intro p hp
        simp only [saysT, List.mem_cons, List.not_mem_nil, or_false] at hp
        rcases hp with rfl | rfl | rfl | rfl | rfl | rfl | rfl | rfl | rfl | rfl | rfl | rfl | rfl | rfl | rfl | rfl | rfl | rfl
        · exact not_listed_ (fun e => hC 3 _ rfl e { on := 0, ground := .data } (by simp) rfl) hli
        · exact not_listed_ (fun e => hC 6 _ rfl e { on := 0, ground := .data } (by simp) rfl) hli
        · exact not_listed_ (fun e => hC 9 _ rfl e { on := 0, ground := .data } (by simp) rfl) hli
        · exact not_listed_ (fun e => hC 12 _ rfl e { on := 0, ground := .data } (by simp) rfl) hli
        · exact not_listed_ (fun e => hC 15 _ rfl e { on := 0, ground := .data } (by simp) rfl) hli
        · exact not_listed_ (fun e => hC 18 _ rfl e { on := 0, ground := .data } (by simp) rfl) hli
        · exact not_listed_ (fun e => hC 21 _ rfl e { on := 0, ground := .data } (by simp) rfl) hli
        · exact not_listed_ (fun e => hC 24 _ rfl e { on := 0, ground := .data } (by simp) rfl) hli
        · exact not_listed_ (fun e => hC 27 _ rfl e { on := 0, ground := .data } (by simp) rfl) hli
        · exact not_listed_ (fun e => hC 31 _ rfl e { on := 0, ground := .data } (by simp) rfl) hli
        · exact not_listed_ (fun e => hC 34 _ rfl e { on := 0, ground := .data } (by simp) rfl) hli
        · exact not_listed_ (fun e => hC 37 _ rfl e { on := 0, ground := .data } (by simp) rfl) hli
        · exact not_listed_ (fun e => hC 40 _ rfl e { on := 0, ground := .data } (by simp) rfl) hli
        · exact not_listed_ (fun e => hC 43 _ rfl e { on := 0, ground := .data } (by simp) rfl) hli
        · exact not_listed_ (fun e => hC 46 _ rfl e { on := 0, ground := .data } (by simp) rfl) hli
        · exact not_listed_ (fun e => hC 49 _ rfl e { on := 0, ground := .data } (by simp) rfl) hli
        · exact not_listed_ (fun e => hC 52 _ rfl e { on := 0, ground := .data } (by simp) rfl) hli
        · exact not_listed_ (fun e => hC 56 _ rfl e { on := 0, ground := .data } (by simp) rfl) hli
      have h1 : listed.getD 57 false = false := not_listed_ (fun e => hC 57 _ rfl e { on := 0, ground := .data } (by simp) rfl) hli
      have h2 : listed.getD 58 false = false := not_listed_ (fun e => hC 58 _ rfl e { on := 0, ground := .phase } (by simp) rfl) hli
      refine wp_value (v := .map (some Wx.heap.size)) (w1 := Wx.alloc (.map #[] 0)) ?_ ⟨_, rfl, HI.out.made hS says_ok (fun _ _ => trivial) hn h1 h2⟩
      clear hn h1 h2 hdep hC hli ho
      first | (go_simp; done) | (go_simp; rfl)
    · cases (show some _ = some o from ho)
      refine wpOp_of ho rfl ?_
      refine wp_value (v := .func (.func 219) #[] #[.pointer (some ⟨w.heap.size, 0, none⟩)]) (w1 := Wx) ?_ ⟨_, rfl, HI.out.val hS (i := 1) (d := 8) (by kernel_rfl) (Touch.refl [] Wx) rfl⟩
      clear hdep hC hli ho
      first | (go_simp; done) | (go_simp; rfl)
    · cases (show some _ = some o from ho)
      refine wpOp_of ho rfl ?_
      have g1 : f 8 = .func (.func 219) #[] #[.pointer (some ⟨w.heap.size, 0, none⟩)] := HI.out.pv 1 (by decide) (hdep { on := 1, ground := .data } (by simp) rfl)
      refine wp_enter (f := 219) (args := #[.int .i64 1, .func (.func 224) #[] #[], .pointer (some ⟨w.heap.size, 0, none⟩)]) (w1 := Wx) ?_ ((say_new 1 (.func 224) #[] #[] w.heap.size Wx).mono ?_)
      · clear hdep hC hli ho
        first | (go_simp; done) | (go_simp; rfl)
      · rintro _ W1 ⟨v, rfl, hv, t1⟩
        exact ⟨_, rfl, _, rfl, HI.out.val hS (i := 2) (d := 9) (by kernel_rfl) t1 (hv.low (by have := t.size; omega))⟩
    · cases (show some _ = some o from ho)
      refine wpOp_of ho rfl ?_
      obtain ⟨mb, l, em, k1, k2, k3, k4⟩ := HI.out.map (hdep { on := 0, ground := .data } (by simp) rfl)
      have hv : saysG w.heap.size w.heap.size s 90 (f 9) Wx := ⟨by decide, HI.out.pv 2 (by decide) (hdep { on := 2, ground := .data } (by simp) rfl)⟩
      obtain ⟨W1, hrun, hm1, t1⟩ := k2.update (P := Tryz.prog) Tryz.underlying184 Tryz.underlying3 90 (f 9)
      exact wp_put 184 (.tmp 7) (.const (.int .i64 90)) (.tmp 9) rfl (show f 7 = _ from em) rfl rfl hrun ⟨f, rfl, HI.out.put hS (i := 3) (key := 90) (by kernel_rfl) (fun _ _ => trivial) em k1 k2 k3 k4 hv hm1 t1⟩
    · cases (show some _ = some o from ho)
      refine wpOp_of ho rfl ?_
      refine wp_value (v := .func (.func 219) #[] #[.pointer (some ⟨w.heap.size, 0, none⟩)]) (w1 := Wx) ?_ ⟨_, rfl, HI.out.val hS (i := 4) (d := 10) (by kernel_rfl) (Touch.refl [] Wx) rfl⟩
      clear hdep hC hli ho
      first | (go_simp; done) | (go_simp; rfl)
    · cases (show some _ = some o from ho)
      refine wpOp_of ho rfl ?_
      have g4 : f 10 = .func (.func 219) #[] #[.pointer (some ⟨w.heap.size, 0, none⟩)] := HI.out.pv 4 (by decide) (hdep { on := 4, ground := .data } (by simp) rfl)
      refine wp_enter (f := 219) (args := #[.int .i64 1, .func (.func 225) #[] #[], .pointer (some ⟨w.heap.size, 0, none⟩)]) (w1 := Wx) ?_ ((say_new 1 (.func 225) #[] #[] w.heap.size Wx).mono ?_)
      · clear hdep hC hli ho
        first | (go_simp; done) | (go_simp; rfl)
      · rintro _ W1 ⟨v, rfl, hv, t1⟩
        exact ⟨_, rfl, _, rfl, HI.out.val hS (i := 5) (d := 11) (by kernel_rfl) t1 (hv.low (by have := t.size; omega))⟩
    · cases (show some _ = some o from ho)
      refine wpOp_of ho rfl ?_
      obtain ⟨mb, l, em, k1, k2, k3, k4⟩ := HI.out.map (hdep { on := 0, ground := .data } (by simp) rfl)
      have hv : saysG w.heap.size w.heap.size s 94 (f 11) Wx := ⟨by decide, HI.out.pv 5 (by decide) (hdep { on := 5, ground := .data } (by simp) rfl)⟩
      obtain ⟨W1, hrun, hm1, t1⟩ := k2.update (P := Tryz.prog) Tryz.underlying184 Tryz.underlying3 94 (f 11)
      exact wp_put 184 (.tmp 7) (.const (.int .i64 94)) (.tmp 11) rfl (show f 7 = _ from em) rfl rfl hrun ⟨f, rfl, HI.out.put hS (i := 6) (key := 94) (by kernel_rfl) (fun _ _ => trivial) em k1 k2 k3 k4 hv hm1 t1⟩
    · cases (show some _ = some o from ho)
      refine wpOp_of ho rfl ?_
      refine wp_value (v := .func (.func 219) #[] #[.pointer (some ⟨w.heap.size, 0, none⟩)]) (w1 := Wx) ?_ ⟨_, rfl, HI.out.val hS (i := 7) (d := 12) (by kernel_rfl) (Touch.refl [] Wx) rfl⟩
      clear hdep hC hli ho
      first | (go_simp; done) | (go_simp; rfl)
    · cases (show some _ = some o from ho)
      refine wpOp_of ho rfl ?_
      have g7 : f 12 = .func (.func 219) #[] #[.pointer (some ⟨w.heap.size, 0, none⟩)] := HI.out.pv 7 (by decide) (hdep { on := 7, ground := .data } (by simp) rfl)
      refine wp_enter (f := 219) (args := #[.int .i64 0, .func (.func 227) #[] #[], .pointer (some ⟨w.heap.size, 0, none⟩)]) (w1 := Wx) ?_ ((say_new 0 (.func 227) #[] #[] w.heap.size Wx).mono ?_)
      · clear hdep hC hli ho
        first | (go_simp; done) | (go_simp; rfl)
      · rintro _ W1 ⟨v, rfl, hv, t1⟩
        exact ⟨_, rfl, _, rfl, HI.out.val hS (i := 8) (d := 13) (by kernel_rfl) t1 (hv.low (by have := t.size; omega))⟩
    · cases (show some _ = some o from ho)
      refine wpOp_of ho rfl ?_
      obtain ⟨mb, l, em, k1, k2, k3, k4⟩ := HI.out.map (hdep { on := 0, ground := .data } (by simp) rfl)
      have hv : saysG w.heap.size w.heap.size s 95 (f 13) Wx := ⟨by decide, HI.out.pv 8 (by decide) (hdep { on := 8, ground := .data } (by simp) rfl)⟩
      obtain ⟨W1, hrun, hm1, t1⟩ := k2.update (P := Tryz.prog) Tryz.underlying184 Tryz.underlying3 95 (f 13)
      exact wp_put 184 (.tmp 7) (.const (.int .i64 95)) (.tmp 13) rfl (show f 7 = _ from em) rfl rfl hrun ⟨f, rfl, HI.out.put hS (i := 9) (key := 95) (by kernel_rfl) (fun _ _ => trivial) em k1 k2 k3 k4 hv hm1 t1⟩
    · cases (show some _ = some o from ho)
      refine wpOp_of ho rfl ?_
      refine wp_value (v := .func (.func 219) #[] #[.pointer (some ⟨w.heap.size, 0, none⟩)]) (w1 := Wx) ?_ ⟨_, rfl, HI.out.val hS (i := 10) (d := 14) (by kernel_rfl) (Touch.refl [] Wx) rfl⟩
      clear hdep hC hli ho
      first | (go_simp; done) | (go_simp; rfl)
    · cases (show some _ = some o from ho)
      refine wpOp_of ho rfl ?_
      have g10 : f 14 = .func (.func 219) #[] #[.pointer (some ⟨w.heap.size, 0, none⟩)] := HI.out.pv 10 (by decide) (hdep { on := 10, ground := .data } (by simp) rfl)
      refine wp_enter (f := 219) (args := #[.int .i64 0, .func (.func 228) #[] #[], .pointer (some ⟨w.heap.size, 0, none⟩)]) (w1 := Wx) ?_ ((say_new 0 (.func 228) #[] #[] w.heap.size Wx).mono ?_)
      · clear hdep hC hli ho
        first | (go_simp; done) | (go_simp; rfl)
      · rintro _ W1 ⟨v, rfl, hv, t1⟩
        exact ⟨_, rfl, _, rfl, HI.out.val hS (i := 11) (d := 15) (by kernel_rfl) t1 (hv.low (by have := t.size; omega))⟩
    · cases (show some _ = some o from ho)
      refine wpOp_of ho rfl ?_
      obtain ⟨mb, l, em, k1, k2, k3, k4⟩ := HI.out.map (hdep { on := 0, ground := .data } (by simp) rfl)
      have hv : saysG w.heap.size w.heap.size s 96 (f 15) Wx := ⟨by decide, HI.out.pv 11 (by decide) (hdep { on := 11, ground := .data } (by simp) rfl)⟩
      obtain ⟨W1, hrun, hm1, t1⟩ := k2.update (P := Tryz.prog) Tryz.underlying184 Tryz.underlying3 96 (f 15)
      exact wp_put 184 (.tmp 7) (.const (.int .i64 96)) (.tmp 15) rfl (show f 7 = _ from em) rfl rfl hrun ⟨f, rfl, HI.out.put hS (i := 12) (key := 96) (by kernel_rfl) (fun _ _ => trivial) em k1 k2 k3 k4 hv hm1 t1⟩
    · cases (show some _ = some o from ho)
      refine wpOp_of ho rfl ?_
      refine wp_value (v := .func (.func 219) #[] #[.pointer (some ⟨w.heap.size, 0, none⟩)]) (w1 := Wx) ?_ ⟨_, rfl, HI.out.val hS (i := 13) (d := 16) (by kernel_rfl) (Touch.refl [] Wx) rfl⟩
      clear hdep hC hli ho
      first | (go_simp; done) | (go_simp; rfl)
    · cases (show some _ = some o from ho)
      refine wpOp_of ho rfl ?_
      have g13 : f 16 = .func (.func 219) #[] #[.pointer (some ⟨w.heap.size, 0, none⟩)] := HI.out.pv 13 (by decide) (hdep { on := 13, ground := .data } (by simp) rfl)
      refine wp_enter (f := 219) (args := #[.int .i64 1, .func (.func 229) #[] #[], .pointer (some ⟨w.heap.size, 0, none⟩)]) (w1 := Wx) ?_ ((say_new 1 (.func 229) #[] #[] w.heap.size Wx).mono ?_)
      · clear hdep hC hli ho
        first | (go_simp; done) | (go_simp; rfl)
      · rintro _ W1 ⟨v, rfl, hv, t1⟩
        exact ⟨_, rfl, _, rfl, HI.out.val hS (i := 14) (d := 17) (by kernel_rfl) t1 (hv.low (by have := t.size; omega))⟩
    · cases (show some _ = some o from ho)
      refine wpOp_of ho rfl ?_
      obtain ⟨mb, l, em, k1, k2, k3, k4⟩ := HI.out.map (hdep { on := 0, ground := .data } (by simp) rfl)
      have hv : saysG w.heap.size w.heap.size s 97 (f 17) Wx := ⟨by decide, HI.out.pv 14 (by decide) (hdep { on := 14, ground := .data } (by simp) rfl)⟩
      obtain ⟨W1, hrun, hm1, t1⟩ := k2.update (P := Tryz.prog) Tryz.underlying184 Tryz.underlying3 97 (f 17)
      exact wp_put 184 (.tmp 7) (.const (.int .i64 97)) (.tmp 17) rfl (show f 7 = _ from em) rfl rfl hrun ⟨f, rfl, HI.out.put hS (i := 15) (key := 97) (by kernel_rfl) (fun _ _ => trivial) em k1 k2 k3 k4 hv hm1 t1⟩
    · cases (show some _ = some o from ho)
      refine wpOp_of ho rfl ?_
      refine wp_value (v := .func (.func 231) #[] #[.pointer (some ⟨w.heap.size, 0, none⟩)]) (w1 := Wx) ?_ ⟨_, rfl, HI.out.val hS (i := 16) (d := 18) (by kernel_rfl) (Touch.refl [] Wx) rfl⟩
      clear hdep hC hli ho
      first | (go_simp; done) | (go_simp; rfl)
    · cases (show some _ = some o from ho)
      refine wpOp_of ho rfl ?_
      have g16 : f 18 = .func (.func 231) #[] #[.pointer (some ⟨w.heap.size, 0, none⟩)] := HI.out.pv 16 (by decide) (hdep { on := 16, ground := .data } (by simp) rfl)
      refine wp_enter (f := 198) (args := #[.int .i64 2, .func (.func 231) #[] #[.pointer (some ⟨w.heap.size, 0, none⟩)]]) (w1 := Wx) ?_ ((tells_new 2 (.func 231) #[] #[.pointer (some ⟨w.heap.size, 0, none⟩)] Wx).mono ?_)
      · clear hdep hC hli ho
        first | (go_simp; done) | (go_simp; rfl)
      · rintro _ W1 ⟨v, rfl, hv, t1⟩
        exact ⟨_, rfl, _, rfl, HI.out.val hS (i := 17) (d := 19) (by kernel_rfl) t1 (hv.low (by have := t.size; omega))⟩
    · cases (show some _ = some o from ho)
      refine wpOp_of ho rfl ?_
      obtain ⟨mb, l, em, k1, k2, k3, k4⟩ := HI.out.map (hdep { on := 0, ground := .data } (by simp) rfl)
      have hv : saysG w.heap.size w.heap.size s 98 (f 19) Wx := ⟨by decide, HI.out.pv 17 (by decide) (hdep { on := 17, ground := .data } (by simp) rfl)⟩
      obtain ⟨W1, hrun, hm1, t1⟩ := k2.update (P := Tryz.prog) Tryz.underlying184 Tryz.underlying3 98 (f 19)
      exact wp_put 184 (.tmp 7) (.const (.int .i64 98)) (.tmp 19) rfl (show f 7 = _ from em) rfl rfl hrun ⟨f, rfl, HI.out.put hS (i := 18) (key := 98) (by kernel_rfl) (fun _ _ => trivial) em k1 k2 k3 k4 hv hm1 t1⟩
    · cases (show some _ = some o from ho)
      refine wpOp_of ho rfl ?_
      refine wp_value (v := .func (.func 233) #[] #[.pointer (some ⟨w.heap.size, 0, none⟩)]) (w1 := Wx) ?_ ⟨_, rfl, HI.out.val hS (i := 19) (d := 20) (by kernel_rfl) (Touch.refl [] Wx) rfl⟩
      clear hdep hC hli ho
      first | (go_simp; done) | (go_simp; rfl)
    · cases (show some _ = some o from ho)
      refine wpOp_of ho rfl ?_
      have g19 : f 20 = .func (.func 233) #[] #[.pointer (some ⟨w.heap.size, 0, none⟩)] := HI.out.pv 19 (by decide) (hdep { on := 19, ground := .data } (by simp) rfl)
      refine wp_enter (f := 198) (args := #[.int .i64 1, .func (.func 233) #[] #[.pointer (some ⟨w.heap.size, 0, none⟩)]]) (w1 := Wx) ?_ ((tells_new 1 (.func 233) #[] #[.pointer (some ⟨w.heap.size, 0, none⟩)] Wx).mono ?_)
      · clear hdep hC hli ho
        first | (go_simp; done) | (go_simp; rfl)
      · rintro _ W1 ⟨v, rfl, hv, t1⟩
        exact ⟨_, rfl, _, rfl, HI.out.val hS (i := 20) (d := 21) (by kernel_rfl) t1 (hv.low (by have := t.size; omega))⟩
    · cases (show some _ = some o from ho)
      refine wpOp_of ho rfl ?_
      obtain ⟨mb, l, em, k1, k2, k3, k4⟩ := HI.out.map (hdep { on := 0, ground := .data } (by simp) rfl)
      have hv : saysG w.heap.size w.heap.size s 91 (f 21) Wx := ⟨by decide, HI.out.pv 20 (by decide) (hdep { on := 20, ground := .data } (by simp) rfl)⟩
      obtain ⟨W1, hrun, hm1, t1⟩ := k2.update (P := Tryz.prog) Tryz.underlying184 Tryz.underlying3 91 (f 21)
      exact wp_put 184 (.tmp 7) (.const (.int .i64 91)) (.tmp 21) rfl (show f 7 = _ from em) rfl rfl hrun ⟨f, rfl, HI.out.put hS (i := 21) (key := 91) (by kernel_rfl) (fun _ _ => trivial) em k1 k2 k3 k4 hv hm1 t1⟩
    · cases (show some _ = some o from ho)
      refine wpOp_of ho rfl ?_
      refine wp_value (v := .func (.func 235) #[] #[.pointer (some ⟨w.heap.size, 0, none⟩)]) (w1 := Wx) ?_ ⟨_, rfl, HI.out.val hS (i := 22) (d := 22) (by kernel_rfl) (Touch.refl [] Wx) rfl⟩
      clear hdep hC hli ho
      first | (go_simp; done) | (go_simp; rfl)
    · cases (show some _ = some o from ho)
      refine wpOp_of ho rfl ?_
      have g22 : f 22 = .func (.func 235) #[] #[.pointer (some ⟨w.heap.size, 0, none⟩)] := HI.out.pv 22 (by decide) (hdep { on := 22, ground := .data } (by simp) rfl)
      refine wp_enter (f := 198) (args := #[.int .i64 1, .func (.func 235) #[] #[.pointer (some ⟨w.heap.size, 0, none⟩)]]) (w1 := Wx) ?_ ((tells_new 1 (.func 235) #[] #[.pointer (some ⟨w.heap.size, 0, none⟩)] Wx).mono ?_)
      · clear hdep hC hli ho
        first | (go_simp; done) | (go_simp; rfl)
      · rintro _ W1 ⟨v, rfl, hv, t1⟩
        exact ⟨_, rfl, _, rfl, HI.out.val hS (i := 23) (d := 23) (by kernel_rfl) t1 (hv.low (by have := t.size; omega))⟩
    · cases (show some _ = some o from ho)
      refine wpOp_of ho rfl ?_
      obtain ⟨mb, l, em, k1, k2, k3, k4⟩ := HI.out.map (hdep { on := 0, ground := .data } (by simp) rfl)
      have hv : saysG w.heap.size w.heap.size s 92 (f 23) Wx := ⟨by decide, HI.out.pv 23 (by decide) (hdep { on := 23, ground := .data } (by simp) rfl)⟩
      obtain ⟨W1, hrun, hm1, t1⟩ := k2.update (P := Tryz.prog) Tryz.underlying184 Tryz.underlying3 92 (f 23)
      exact wp_put 184 (.tmp 7) (.const (.int .i64 92)) (.tmp 23) rfl (show f 7 = _ from em) rfl rfl hrun ⟨f, rfl, HI.out.put hS (i := 24) (key := 92) (by kernel_rfl) (fun _ _ => trivial) em k1 k2 k3 k4 hv hm1 t1⟩
    · cases (show some _ = some o from ho)
      refine wpOp_of ho rfl ?_
      refine wp_value (v := .func (.func 236) #[] #[.pointer (some ⟨w.heap.size, 0, none⟩)]) (w1 := Wx) ?_ ⟨_, rfl, HI.out.val hS (i := 25) (d := 24) (by kernel_rfl) (Touch.refl [] Wx) rfl⟩
      clear hdep hC hli ho
      first | (go_simp; done) | (go_simp; rfl)
    · cases (show some _ = some o from ho)
      refine wpOp_of ho rfl ?_
      have g25 : f 24 = .func (.func 236) #[] #[.pointer (some ⟨w.heap.size, 0, none⟩)] := HI.out.pv 25 (by decide) (hdep { on := 25, ground := .data } (by simp) rfl)
      refine wp_enter (f := 198) (args := #[.int .i64 2, .func (.func 236) #[] #[.pointer (some ⟨w.heap.size, 0, none⟩)]]) (w1 := Wx) ?_ ((tells_new 2 (.func 236) #[] #[.pointer (some ⟨w.heap.size, 0, none⟩)] Wx).mono ?_)
      · clear hdep hC hli ho
        first | (go_simp; done) | (go_simp; rfl)
      · rintro _ W1 ⟨v, rfl, hv, t1⟩
        exact ⟨_, rfl, _, rfl, HI.out.val hS (i := 26) (d := 25) (by kernel_rfl) t1 (hv.low (by have := t.size; omega))⟩
    · cases (show some _ = some o from ho)
      refine wpOp_of ho rfl ?_
      obtain ⟨mb, l, em, k1, k2, k3, k4⟩ := HI.out.map (hdep { on := 0, ground := .data } (by simp) rfl)
      have hv : saysG w.heap.size w.heap.size s 93 (f 25) Wx := ⟨by decide, HI.out.pv 26 (by decide) (hdep { on := 26, ground := .data } (by simp) rfl)⟩
      obtain ⟨W1, hrun, hm1, t1⟩ := k2.update (P := Tryz.prog) Tryz.underlying184 Tryz.underlying3 93 (f 25)
      exact wp_put 184 (.tmp 7) (.const (.int .i64 93)) (.tmp 25) rfl (show f 7 = _ from em) rfl rfl hrun ⟨f, rfl, HI.out.put hS (i := 27) (key := 93) (by kernel_rfl) (fun _ _ => trivial) em k1 k2 k3 k4 hv hm1 t1⟩
    · cases (show some _ = some o from ho)
      refine wpOp_of ho rfl ?_
      have cn := (HN.out.1.touch t (by simp)).cell 0
      refine wp_value (v := .pointer (some ⟨s, 0, none⟩)) (w1 := Wx) ?_ ⟨_, rfl, HI.out.val hS (i := 28) (d := 26) (by kernel_rfl) (Touch.refl [] Wx) rfl⟩
      clear hdep hC hli ho
      first | (go_simp; done) | (go_simp; rfl)
    · cases (show some _ = some o from ho)
      refine wpOp_of ho rfl ?_
      have g28 : f 26 = .pointer (some ⟨s, 0, none⟩) := HI.out.pv 28 (by decide) (hdep { on := 28, ground := .data } (by simp) rfl)
      refine wp_value (v := .func (.func 237) #[.pointer (some ⟨s, 0, none⟩)] #[]) (w1 := Wx) ?_ ⟨_, rfl, HI.out.val hS (i := 29) (d := 27) (by kernel_rfl) (Touch.refl [] Wx) rfl⟩
      clear hdep hC hli ho
      first | (go_simp; done) | (go_simp; rfl)
    · cases (show some _ = some o from ho)
      refine wpOp_of ho rfl ?_
      have g29 : f 27 = .func (.func 237) #[.pointer (some ⟨s, 0, none⟩)] #[] := HI.out.pv 29 (by decide) (hdep { on := 29, ground := .data } (by simp) rfl)
      refine wp_enter (f := 198) (args := #[.int .i64 0, .func (.func 237) #[.pointer (some ⟨s, 0, none⟩)] #[]]) (w1 := Wx) ?_ ((tells_new 0 (.func 237) #[.pointer (some ⟨s, 0, none⟩)] #[] Wx).mono ?_)
      · clear hdep hC hli ho
        first | (go_simp; done) | (go_simp; rfl)
      · rintro _ W1 ⟨v, rfl, hv, t1⟩
        exact ⟨_, rfl, _, rfl, HI.out.val hS (i := 30) (d := 28) (by kernel_rfl) t1 (hv.low (by have := t.size; omega))⟩
    · cases (show some _ = some o from ho)
      refine wpOp_of ho rfl ?_
      obtain ⟨mb, l, em, k1, k2, k3, k4⟩ := HI.out.map (hdep { on := 0, ground := .data } (by simp) rfl)
      have hv : saysG w.heap.size w.heap.size s 99 (f 28) Wx := ⟨by decide, HI.out.pv 30 (by decide) (hdep { on := 30, ground := .data } (by simp) rfl)⟩
      obtain ⟨W1, hrun, hm1, t1⟩ := k2.update (P := Tryz.prog) Tryz.underlying184 Tryz.underlying3 99 (f 28)
      exact wp_put 184 (.tmp 7) (.const (.int .i64 99)) (.tmp 28) rfl (show f 7 = _ from em) rfl rfl hrun ⟨f, rfl, HI.out.put hS (i := 31) (key := 99) (by kernel_rfl) (fun _ _ => trivial) em k1 k2 k3 k4 hv hm1 t1⟩
    · cases (show some _ = some o from ho)
      refine wpOp_of ho rfl ?_
      refine wp_value (v := .func (.func 222) #[] #[.pointer (some ⟨w.heap.size, 0, none⟩)]) (w1 := Wx) ?_ ⟨_, rfl, HI.out.val hS (i := 32) (d := 29) (by kernel_rfl) (Touch.refl [] Wx) rfl⟩
      clear hdep hC hli ho
      first | (go_simp; done) | (go_simp; rfl)
    · cases (show some _ = some o from ho)
      refine wpOp_of ho rfl ?_
      have g32 : f 29 = .func (.func 222) #[] #[.pointer (some ⟨w.heap.size, 0, none⟩)] := HI.out.pv 32 (by decide) (hdep { on := 32, ground := .data } (by simp) rfl)
      refine wp_enter (f := 222) (args := #[.int .i64 10, .pointer (some ⟨w.heap.size, 0, none⟩)]) (w1 := Wx) ?_ ((base_new 10 w.heap.size Wx).mono ?_)
      · clear hdep hC hli ho
        first | (go_simp; done) | (go_simp; rfl)
      · rintro _ W1 ⟨v, rfl, hv, t1⟩
        exact ⟨_, rfl, _, rfl, HI.out.val hS (i := 33) (d := 30) (by kernel_rfl) t1 (hv.low (by have := t.size; omega))⟩
    · cases (show some _ = some o from ho)
      refine wpOp_of ho rfl ?_
      obtain ⟨mb, l, em, k1, k2, k3, k4⟩ := HI.out.map (hdep { on := 0, ground := .data } (by simp) rfl)
      have hv : saysG w.heap.size w.heap.size s 100 (f 30) Wx := ⟨by decide, HI.out.pv 33 (by decide) (hdep { on := 33, ground := .data } (by simp) rfl)⟩
      obtain ⟨W1, hrun, hm1, t1⟩ := k2.update (P := Tryz.prog) Tryz.underlying184 Tryz.underlying3 100 (f 30)
      exact wp_put 184 (.tmp 7) (.const (.int .i64 100)) (.tmp 30) rfl (show f 7 = _ from em) rfl rfl hrun ⟨f, rfl, HI.out.put hS (i := 34) (key := 100) (by kernel_rfl) (fun _ _ => trivial) em k1 k2 k3 k4 hv hm1 t1⟩
    · cases (show some _ = some o from ho)
      refine wpOp_of ho rfl ?_
      refine wp_value (v := .func (.func 222) #[] #[.pointer (some ⟨w.heap.size, 0, none⟩)]) (w1 := Wx) ?_ ⟨_, rfl, HI.out.val hS (i := 35) (d := 31) (by kernel_rfl) (Touch.refl [] Wx) rfl⟩
      clear hdep hC hli ho
      first | (go_simp; done) | (go_simp; rfl)
    · cases (show some _ = some o from ho)
      refine wpOp_of ho rfl ?_
      have g35 : f 31 = .func (.func 222) #[] #[.pointer (some ⟨w.heap.size, 0, none⟩)] := HI.out.pv 35 (by decide) (hdep { on := 35, ground := .data } (by simp) rfl)
      refine wp_enter (f := 222) (args := #[.int .i64 16, .pointer (some ⟨w.heap.size, 0, none⟩)]) (w1 := Wx) ?_ ((base_new 16 w.heap.size Wx).mono ?_)
      · clear hdep hC hli ho
        first | (go_simp; done) | (go_simp; rfl)
      · rintro _ W1 ⟨v, rfl, hv, t1⟩
        exact ⟨_, rfl, _, rfl, HI.out.val hS (i := 36) (d := 32) (by kernel_rfl) t1 (hv.low (by have := t.size; omega))⟩
    · cases (show some _ = some o from ho)
      refine wpOp_of ho rfl ?_
      obtain ⟨mb, l, em, k1, k2, k3, k4⟩ := HI.out.map (hdep { on := 0, ground := .data } (by simp) rfl)
      have hv : saysG w.heap.size w.heap.size s 101 (f 32) Wx := ⟨by decide, HI.out.pv 36 (by decide) (hdep { on := 36, ground := .data } (by simp) rfl)⟩
      obtain ⟨W1, hrun, hm1, t1⟩ := k2.update (P := Tryz.prog) Tryz.underlying184 Tryz.underlying3 101 (f 32)
      exact wp_put 184 (.tmp 7) (.const (.int .i64 101)) (.tmp 32) rfl (show f 7 = _ from em) rfl rfl hrun ⟨f, rfl, HI.out.put hS (i := 37) (key := 101) (by kernel_rfl) (fun _ _ => trivial) em k1 k2 k3 k4 hv hm1 t1⟩
    · cases (show some _ = some o from ho)
      refine wpOp_of ho rfl ?_
      refine wp_value (v := .func (.func 238) #[] #[.pointer (some ⟨w.heap.size, 0, none⟩)]) (w1 := Wx) ?_ ⟨_, rfl, HI.out.val hS (i := 38) (d := 33) (by kernel_rfl) (Touch.refl [] Wx) rfl⟩
      clear hdep hC hli ho
      first | (go_simp; done) | (go_simp; rfl)
    · cases (show some _ = some o from ho)
      refine wpOp_of ho rfl ?_
      have g38 : f 33 = .func (.func 238) #[] #[.pointer (some ⟨w.heap.size, 0, none⟩)] := HI.out.pv 38 (by decide) (hdep { on := 38, ground := .data } (by simp) rfl)
      refine wp_enter (f := 198) (args := #[.int .i64 0, .func (.func 238) #[] #[.pointer (some ⟨w.heap.size, 0, none⟩)]]) (w1 := Wx) ?_ ((tells_new 0 (.func 238) #[] #[.pointer (some ⟨w.heap.size, 0, none⟩)] Wx).mono ?_)
      · clear hdep hC hli ho
        first | (go_simp; done) | (go_simp; rfl)
      · rintro _ W1 ⟨v, rfl, hv, t1⟩
        exact ⟨_, rfl, _, rfl, HI.out.val hS (i := 39) (d := 34) (by kernel_rfl) t1 (hv.low (by have := t.size; omega))⟩
    · cases (show some _ = some o from ho)
      refine wpOp_of ho rfl ?_
      obtain ⟨mb, l, em, k1, k2, k3, k4⟩ := HI.out.map (hdep { on := 0, ground := .data } (by simp) rfl)
      have hv : saysG w.heap.size w.heap.size s 102 (f 34) Wx := ⟨by decide, HI.out.pv 39 (by decide) (hdep { on := 39, ground := .data } (by simp) rfl)⟩
      obtain ⟨W1, hrun, hm1, t1⟩ := k2.update (P := Tryz.prog) Tryz.underlying184 Tryz.underlying3 102 (f 34)
      exact wp_put 184 (.tmp 7) (.const (.int .i64 102)) (.tmp 34) rfl (show f 7 = _ from em) rfl rfl hrun ⟨f, rfl, HI.out.put hS (i := 40) (key := 102) (by kernel_rfl) (fun _ _ => trivial) em k1 k2 k3 k4 hv hm1 t1⟩
    · cases (show some _ = some o from ho)
      refine wpOp_of ho rfl ?_
      have cn := (HN.out.1.touch t (by simp)).cell 0
      refine wp_value (v := .pointer (some ⟨s, 0, none⟩)) (w1 := Wx) ?_ ⟨_, rfl, HI.out.val hS (i := 41) (d := 35) (by kernel_rfl) (Touch.refl [] Wx) rfl⟩
      clear hdep hC hli ho
      first | (go_simp; done) | (go_simp; rfl)
    · cases (show some _ = some o from ho)
      refine wpOp_of ho rfl ?_
      have g41 : f 35 = .pointer (some ⟨s, 0, none⟩) := HI.out.pv 41 (by decide) (hdep { on := 41, ground := .data } (by simp) rfl)
      refine wp_enter (f := 239) (args := #[.pointer (some ⟨s, 0, none⟩), .bool false]) (w1 := Wx) ?_ ((digits_new s false Wx).mono ?_)
      · clear hdep hC hli ho
        first | (go_simp; done) | (go_simp; rfl)
      · rintro _ W1 ⟨v, rfl, hv, t1⟩
        exact ⟨_, rfl, _, rfl, HI.out.val hS (i := 42) (d := 36) (by kernel_rfl) t1 (hv.low (by have := t.size; omega))⟩
    · cases (show some _ = some o from ho)
      refine wpOp_of ho rfl ?_
      obtain ⟨mb, l, em, k1, k2, k3, k4⟩ := HI.out.map (hdep { on := 0, ground := .data } (by simp) rfl)
      have hv : saysG w.heap.size w.heap.size s 103 (f 36) Wx := ⟨by decide, HI.out.pv 42 (by decide) (hdep { on := 42, ground := .data } (by simp) rfl)⟩
      obtain ⟨W1, hrun, hm1, t1⟩ := k2.update (P := Tryz.prog) Tryz.underlying184 Tryz.underlying3 103 (f 36)
      exact wp_put 184 (.tmp 7) (.const (.int .i64 103)) (.tmp 36) rfl (show f 7 = _ from em) rfl rfl hrun ⟨f, rfl, HI.out.put hS (i := 43) (key := 103) (by kernel_rfl) (fun _ _ => trivial) em k1 k2 k3 k4 hv hm1 t1⟩
    · cases (show some _ = some o from ho)
      refine wpOp_of ho rfl ?_
      have cn := (HN.out.1.touch t (by simp)).cell 0
      refine wp_value (v := .pointer (some ⟨s, 0, none⟩)) (w1 := Wx) ?_ ⟨_, rfl, HI.out.val hS (i := 44) (d := 37) (by kernel_rfl) (Touch.refl [] Wx) rfl⟩
      clear hdep hC hli ho
      first | (go_simp; done) | (go_simp; rfl)
    · cases (show some _ = some o from ho)
      refine wpOp_of ho rfl ?_
      have g44 : f 37 = .pointer (some ⟨s, 0, none⟩) := HI.out.pv 44 (by decide) (hdep { on := 44, ground := .data } (by simp) rfl)
      refine wp_enter (f := 239) (args := #[.pointer (some ⟨s, 0, none⟩), .bool true]) (w1 := Wx) ?_ ((digits_new s true Wx).mono ?_)
      · clear hdep hC hli ho
        first | (go_simp; done) | (go_simp; rfl)
      · rintro _ W1 ⟨v, rfl, hv, t1⟩
        exact ⟨_, rfl, _, rfl, HI.out.val hS (i := 45) (d := 38) (by kernel_rfl) t1 (hv.low (by have := t.size; omega))⟩
    · cases (show some _ = some o from ho)
      refine wpOp_of ho rfl ?_
      obtain ⟨mb, l, em, k1, k2, k3, k4⟩ := HI.out.map (hdep { on := 0, ground := .data } (by simp) rfl)
      have hv : saysG w.heap.size w.heap.size s 104 (f 38) Wx := ⟨by decide, HI.out.pv 45 (by decide) (hdep { on := 45, ground := .data } (by simp) rfl)⟩
      obtain ⟨W1, hrun, hm1, t1⟩ := k2.update (P := Tryz.prog) Tryz.underlying184 Tryz.underlying3 104 (f 38)
      exact wp_put 184 (.tmp 7) (.const (.int .i64 104)) (.tmp 38) rfl (show f 7 = _ from em) rfl rfl hrun ⟨f, rfl, HI.out.put hS (i := 46) (key := 104) (by kernel_rfl) (fun _ _ => trivial) em k1 k2 k3 k4 hv hm1 t1⟩
    · cases (show some _ = some o from ho)
      refine wpOp_of ho rfl ?_
      refine wp_value (v := .func (.func 240) #[] #[.pointer (some ⟨w.heap.size, 0, none⟩)]) (w1 := Wx) ?_ ⟨_, rfl, HI.out.val hS (i := 47) (d := 39) (by kernel_rfl) (Touch.refl [] Wx) rfl⟩
      clear hdep hC hli ho
      first | (go_simp; done) | (go_simp; rfl)
    · cases (show some _ = some o from ho)
      refine wpOp_of ho rfl ?_
      have g47 : f 39 = .func (.func 240) #[] #[.pointer (some ⟨w.heap.size, 0, none⟩)] := HI.out.pv 47 (by decide) (hdep { on := 47, ground := .data } (by simp) rfl)
      refine wp_enter (f := 198) (args := #[.int .i64 1, .func (.func 240) #[] #[.pointer (some ⟨w.heap.size, 0, none⟩)]]) (w1 := Wx) ?_ ((tells_new 1 (.func 240) #[] #[.pointer (some ⟨w.heap.size, 0, none⟩)] Wx).mono ?_)
      · clear hdep hC hli ho
        first | (go_simp; done) | (go_simp; rfl)
      · rintro _ W1 ⟨v, rfl, hv, t1⟩
        exact ⟨_, rfl, _, rfl, HI.out.val hS (i := 48) (d := 40) (by kernel_rfl) t1 (hv.low (by have := t.size; omega))⟩
    · cases (show some _ = some o from ho)
      refine wpOp_of ho rfl ?_
      obtain ⟨mb, l, em, k1, k2, k3, k4⟩ := HI.out.map (hdep { on := 0, ground := .data } (by simp) rfl)
      have hv : saysG w.heap.size w.heap.size s 105 (f 40) Wx := ⟨by decide, HI.out.pv 48 (by decide) (hdep { on := 48, ground := .data } (by simp) rfl)⟩
      obtain ⟨W1, hrun, hm1, t1⟩ := k2.update (P := Tryz.prog) Tryz.underlying184 Tryz.underlying3 105 (f 40)
      exact wp_put 184 (.tmp 7) (.const (.int .i64 105)) (.tmp 40) rfl (show f 7 = _ from em) rfl rfl hrun ⟨f, rfl, HI.out.put hS (i := 49) (key := 105) (by kernel_rfl) (fun _ _ => trivial) em k1 k2 k3 k4 hv hm1 t1⟩
    · cases (show some _ = some o from ho)
      refine wpOp_of ho rfl ?_
      refine wp_value (v := .func (.func 242) #[] #[.pointer (some ⟨w.heap.size, 0, none⟩)]) (w1 := Wx) ?_ ⟨_, rfl, HI.out.val hS (i := 50) (d := 41) (by kernel_rfl) (Touch.refl [] Wx) rfl⟩
      clear hdep hC hli ho
      first | (go_simp; done) | (go_simp; rfl)
    · cases (show some _ = some o from ho)
      refine wpOp_of ho rfl ?_
      have g50 : f 41 = .func (.func 242) #[] #[.pointer (some ⟨w.heap.size, 0, none⟩)] := HI.out.pv 50 (by decide) (hdep { on := 50, ground := .data } (by simp) rfl)
      refine wp_enter (f := 198) (args := #[.int .i64 1, .func (.func 242) #[] #[.pointer (some ⟨w.heap.size, 0, none⟩)]]) (w1 := Wx) ?_ ((tells_new 1 (.func 242) #[] #[.pointer (some ⟨w.heap.size, 0, none⟩)] Wx).mono ?_)
      · clear hdep hC hli ho
        first | (go_simp; done) | (go_simp; rfl)
      · rintro _ W1 ⟨v, rfl, hv, t1⟩
        exact ⟨_, rfl, _, rfl, HI.out.val hS (i := 51) (d := 42) (by kernel_rfl) t1 (hv.low (by have := t.size; omega))⟩
    · cases (show some _ = some o from ho)
      refine wpOp_of ho rfl ?_
      obtain ⟨mb, l, em, k1, k2, k3, k4⟩ := HI.out.map (hdep { on := 0, ground := .data } (by simp) rfl)
      have hv : saysG w.heap.size w.heap.size s 106 (f 42) Wx := ⟨by decide, HI.out.pv 51 (by decide) (hdep { on := 51, ground := .data } (by simp) rfl)⟩
      obtain ⟨W1, hrun, hm1, t1⟩ := k2.update (P := Tryz.prog) Tryz.underlying184 Tryz.underlying3 106 (f 42)
      exact wp_put 184 (.tmp 7) (.const (.int .i64 106)) (.tmp 42) rfl (show f 7 = _ from em) rfl rfl hrun ⟨f, rfl, HI.out.put hS (i := 52) (key := 106) (by kernel_rfl) (fun _ _ => trivial) em k1 k2 k3 k4 hv hm1 t1⟩
    · cases (show some _ = some o from ho)
      refine wpOp_of ho rfl ?_
      have cn := (HN.out.1.touch t (by simp)).cell 0
      refine wp_value (v := .pointer (some ⟨s, 0, none⟩)) (w1 := Wx) ?_ ⟨_, rfl, HI.out.val hS (i := 53) (d := 43) (by kernel_rfl) (Touch.refl [] Wx) rfl⟩
      clear hdep hC hli ho
      first | (go_simp; done) | (go_simp; rfl)
    · cases (show some _ = some o from ho)
      refine wpOp_of ho rfl ?_
      have g53 : f 43 = .pointer (some ⟨s, 0, none⟩) := HI.out.pv 53 (by decide) (hdep { on := 53, ground := .data } (by simp) rfl)
      refine wp_value (v := .func (.func 243) #[.pointer (some ⟨s, 0, none⟩)] #[]) (w1 := Wx) ?_ ⟨_, rfl, HI.out.val hS (i := 54) (d := 44) (by kernel_rfl) (Touch.refl [] Wx) rfl⟩
      clear hdep hC hli ho
      first | (go_simp; done) | (go_simp; rfl)
    · cases (show some _ = some o from ho)
      refine wpOp_of ho rfl ?_
      have g54 : f 44 = .func (.func 243) #[.pointer (some ⟨s, 0, none⟩)] #[] := HI.out.pv 54 (by decide) (hdep { on := 54, ground := .data } (by simp) rfl)
      refine wp_value (v := .agg #[.int .i64 2, .func (.func 243) #[.pointer (some ⟨s, 0, none⟩)] #[]]) (w1 := Wx) ?_ ⟨_, rfl, HI.out.val hS (i := 55) (d := 45) (by kernel_rfl) (Touch.refl [] Wx) rfl⟩
      clear hdep hC hli ho
      first | (go_simp; done) | (go_simp; rfl)
    · cases (show some _ = some o from ho)
      refine wpOp_of ho rfl ?_
      obtain ⟨mb, l, em, k1, k2, k3, k4⟩ := HI.out.map (hdep { on := 0, ground := .data } (by simp) rfl)
      have hv : saysG w.heap.size w.heap.size s 107 (f 45) Wx := ⟨by decide, HI.out.pv 55 (by decide) (hdep { on := 55, ground := .data } (by simp) rfl)⟩
      obtain ⟨W1, hrun, hm1, t1⟩ := k2.update (P := Tryz.prog) Tryz.underlying184 Tryz.underlying3 107 (f 45)
      exact wp_put 184 (.tmp 7) (.const (.int .i64 107)) (.tmp 45) rfl (show f 7 = _ from em) rfl rfl hrun ⟨f, rfl, HI.out.put hS (i := 56) (key := 107) (by kernel_rfl) (fun _ _ => trivial) em k1 k2 k3 k4 hv hm1 t1⟩
    · cases (show some _ = some o from ho)
      refine wpOp_of ho rfl ?_
      refine wp_value (v := f 7) (w1 := Wx) ?_ ⟨_, rfl, HI.out.move says_ok (fun _ _ => trivial)⟩
      clear hdep hC hli ho
      first | (go_simp; done) | (go_simp; rfl)
    · cases (show some _ = some o from ho)
      refine wpOp_of ho rfl ?_
      refine wp_value (v := f 46) (w1 := Wx) ?_ ⟨_, rfl, HI.out.assign says_ok (fun _ _ => trivial) (hdep { on := 57, ground := .data } (by simp) rfl)⟩
      clear hdep hC hli ho
      first | (go_simp; done) | (go_simp; rfl)
  case fin =>
    rintro listed a Wx hl ⟨f, rfl, hI⟩
    obtain ⟨mb, l, em, k1, k2, k3, k4⟩ := hI.map (hl 0 (by decide))
    have e6 : f 2 = .map (some mb) := (hI.fin (hl 58 (by decide))).trans em
    have hz : ∀ p ∈ saysT.ins, p.1 < 59 := by decide
    have hfin : IMap Wx mb l ∧ (∀ k v, atKey l k = some v → saysG w.heap.size w.heap.size s k v Wx) ∧ (∀ p ∈ saysT.ins, (atKey l p.2).isSome = true) ∧ Touch [] w Wx := ⟨k2, k3, fun p hp => k4 p hp (hl p.1 (hz p hp)), HN.out.2.trans hI.t (by simp)⟩
    have HF := Lib.hid (And.intro hfin (HN.out.1.touch hI.t (by simp)))
    clear hfin hI k1 k2 k3 k4 em hl hS hmf hmm hEtells hEs1 hEs2 hEdg
    rw [e6]
    clear e6
    go_wp2
    go_ret
    exact ⟨mb, l, w.heap.size, rfl, Nat.le_refl _, HF.out.1.1, HF.out.1.2.1, HF.out.1.2.2.1, HF.out.1.2.2.2, HF.out.2⟩
end Go.Proofs.YtdokeddjcpnmiaaGreatDoor
