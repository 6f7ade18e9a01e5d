/- The makers of acts. -/
import Derived.Test.YtnhhflnanogpjaaGreatDoorAct3
namespace Go.Proofs.YtnhhflnanogpjaaGreatDoor
open Go.RowKit

variable {α β : Type} {lo hi d nl : Nat} {w w' w1 : World} {b : Nat} {F F1 : List Nat} {r s : Run} {v v2 : Value}

set_option maxHeartbeats 1000000 in
theorem node_act {m : Den} {B : Nat} (h : ActSem lo hi w d nl v m) (hB : Blk w B 56 #[v]) (h1 : lo ≤ B) (h2 : B < hi) :
    ActSem lo hi w d nl (.func (.func 47) #[] #[.pointer (some ⟨B, 0, none⟩)]) (stepM.bind fun _ => m) := by
  refine ⟨47, _, rfl, enters_of Tryz.func47 (by kernel_rfl) rfl, fun w' b F r hr => ?_⟩
  obtain ⟨f, cap, rfl, hE, hf⟩ := h
  have hent : ∀ (args : Array Value) (w : World), (callFunc f args).run Tryz.prog w = .ok (.enter f args) w := hE
  have hS := step_any w' b F r hr.run hr.ok
  obtain ⟨⟨o1, s1⟩, e1⟩ : ∃ q, stepM r = q := ⟨_, rfl⟩
  rw [e1] at hS
  have HR := Lib.hid hr
  have HB := Lib.hid hB
  have HF := Lib.hid hf
  have E1 := Lib.hid e1
  cases o1 with
  | bad x o =>
    rw [bind_bad e1]
    clear e1 hr hB hf hE
    go_enter Tryz.func47, Tryz.ntmps47
    go_wp2_with fail
    refine hS.mono ?_
    rintro _ w1 ⟨rfl, hl⟩
    exact ⟨rfl, rfl, hl⟩
  | ok u =>
    rw [bind_ok e1]
    obtain ⟨⟨o2, s2⟩, e2⟩ : ∃ q, m s1 = q := ⟨_, rfl⟩
    rw [e2]
    have E2 := Lib.hid e2
    clear e1 hr hB hf hE e2
    go_enter Tryz.func47, Tryz.ntmps47
    go_wp2_with fail
    refine hS.mono ?_
    rintro _ w1 ⟨_, rfl, hu, hl⟩
    cases hu
    obtain ⟨F1, g1, t1, s1', _, _⟩ := HR.out.on keep_step E1.out hl
    have c0 := box_cell g1 HB.out h1 h2
    have hC := HF.out w1 b F1 s1 g1
    rw [E2.out] at hC
    have T := Lib.hid (And.intro t1 s1')
    clear hS hl g1 t1 s1'
    go_wp2_with fail
    refine hC.mono ?_
    intro e3 w3 hend
    have hend := hend.after T.out.1 T.out.2
    cases o2 with
    | bad x o =>
      obtain ⟨rfl, hl⟩ := hend
      exact ⟨rfl, rfl, hl⟩
    | ok z =>
      obtain ⟨_, rfl, hz, hl⟩ := hend
      cases hz
      clear hC c0
      go_wp2
      go_ret
      exact ⟨_, rfl, rfl, hl⟩


theorem plain_new (f : FuncId) (cap : Array Value) (w : World) : Calls Tryz.prog 30 #[.func (.func f) #[] cap] w fun e w' =>
    e = .returned (.func (.func 58) #[] #[.pointer (some ⟨w.heap.size, 0, none⟩)]) ∧ w.alloc (.cells #[.func (.func f) #[] cap] 78) = w' := by
  have hmf : ∀ (fn : Fn) (first cap : Array Value) (w : World), (Instr.makeFunc fn first cap).run Tryz.prog w = .ok (.func fn first cap) w := fun _ _ _ _ => rfl
  go_enter Tryz.func30, Tryz.ntmps30
  go_wp2
  go_ret
  exact ⟨rfl, rfl⟩
theorem prim_new (op : Int) (w : World) : Calls Tryz.prog 33 #[.int .i64 op] w fun e w' =>
    e = .returned (.func (.func 58) #[] #[.pointer (some ⟨w.heap.size + 1, 0, none⟩)]) ∧
      (w.alloc (.cells #[.int .i64 op] 3)).alloc (.cells #[.func (.func 60) #[] #[.pointer (some ⟨w.heap.size, 0, none⟩)]] 78) = w' := by
  have hmf : ∀ (fn : Fn) (first cap : Array Value) (w : World), (Instr.makeFunc fn first cap).run Tryz.prog w = .ok (.func fn first cap) w := fun _ _ _ _ => rfl
  have hP := fun (w : World) => plain_new 60 #[.pointer (some ⟨w.heap.size, 0, none⟩)] (w.alloc (.cells #[.int .i64 op] 3))
  go_enter Tryz.func33, Tryz.ntmps33
  go_wp2_with fail
  refine (hP _).mono ?_
  rintro _ w1 ⟨rfl, rfl⟩
  go_wp2
  go_ret
  exact ⟨by simp, rfl⟩
theorem do_new (f : FuncId) (cap : Array Value) (w : World) : Calls Tryz.prog 36 #[.func (.func f) #[] cap] w fun e w' =>
    e = .returned (.func (.func 58) #[] #[.pointer (some ⟨w.heap.size + 1, 0, none⟩)]) ∧
      (w.alloc (.cells #[.func (.func f) #[] cap] 56)).alloc (.cells #[.func (.func 68) #[] #[.pointer (some ⟨w.heap.size, 0, none⟩)]] 78) = w' := by
  have hmf : ∀ (fn : Fn) (first cap : Array Value) (w : World), (Instr.makeFunc fn first cap).run Tryz.prog w = .ok (.func fn first cap) w := fun _ _ _ _ => rfl
  have hP := fun (w : World) => plain_new 68 #[.pointer (some ⟨w.heap.size, 0, none⟩)] (w.alloc (.cells #[.func (.func f) #[] cap] 56))
  go_enter Tryz.func36, Tryz.ntmps36
  go_wp2_with fail
  refine (hP _).mono ?_
  rintro _ w1 ⟨rfl, rfl⟩
  go_wp2
  go_ret
  exact ⟨by simp, rfl⟩
theorem all_new (a : Option Addr) (n c : Nat) (w : World) : Calls Tryz.prog 34 #[.slice a n c] w fun e w' =>
    e = .returned (.func (.func 66) #[] #[.pointer (some ⟨w.heap.size, 0, none⟩)]) ∧ w.alloc (.cells #[.slice a n c] 75) = w' := by
  have hmf : ∀ (fn : Fn) (first cap : Array Value) (w : World), (Instr.makeFunc fn first cap).run Tryz.prog w = .ok (.func fn first cap) w := fun _ _ _ _ => rfl
  go_enter Tryz.func34, Tryz.ntmps34
  go_wp2
  go_ret
  exact ⟨rfl, rfl⟩
theorem choice_new (a : Option Addr) (n c : Nat) (w : World) : Calls Tryz.prog 44 #[.slice a n c] w fun e w' =>
    e = .returned (.func (.func 71) #[] #[.pointer (some ⟨w.heap.size, 0, none⟩)]) ∧ w.alloc (.cells #[.slice a n c] 75) = w' := by
  have hmf : ∀ (fn : Fn) (first cap : Array Value) (w : World), (Instr.makeFunc fn first cap).run Tryz.prog w = .ok (.func fn first cap) w := fun _ _ _ _ => rfl
  go_enter Tryz.func44, Tryz.ntmps44
  go_wp2
  go_ret
  exact ⟨rfl, rfl⟩
theorem until_new (f : FuncId) (cap : Array Value) (w : World) : Calls Tryz.prog 37 #[.func (.func f) #[] cap] w fun e w' =>
    e = .returned (.func (.func 69) #[] #[.pointer (some ⟨w.heap.size, 0, none⟩)]) ∧ w.alloc (.cells #[.func (.func f) #[] cap] 56) = w' := by
  have hmf : ∀ (fn : Fn) (first cap : Array Value) (w : World), (Instr.makeFunc fn first cap).run Tryz.prog w = .ok (.func fn first cap) w := fun _ _ _ _ => rfl
  go_enter Tryz.func37, Tryz.ntmps37
  go_wp2
  go_ret
  exact ⟨rfl, rfl⟩
theorem either_new (f : FuncId) (cap : Array Value) (f2 : FuncId) (cap2 : Array Value) (w : World) : Calls Tryz.prog 35 #[.func (.func f) #[] cap, .func (.func f2) #[] cap2] w fun e w' =>
    e = .returned (.func (.func 67) #[] #[.pointer (some ⟨w.heap.size, 0, none⟩), .pointer (some ⟨w.heap.size + 1, 0, none⟩)]) ∧
      (w.alloc (.cells #[.func (.func f) #[] cap] 56)).alloc (.cells #[.func (.func f2) #[] cap2] 56) = w' := by
  have hmf : ∀ (fn : Fn) (first cap : Array Value) (w : World), (Instr.makeFunc fn first cap).run Tryz.prog w = .ok (.func fn first cap) w := fun _ _ _ _ => rfl
  go_enter Tryz.func35, Tryz.ntmps35
  go_wp2
  go_ret
  exact ⟨rfl, rfl⟩
theorem while_new (f : FuncId) (cap : Array Value) (f2 : FuncId) (cap2 : Array Value) (w : World) : Calls Tryz.prog 38 #[.func (.func f) #[] cap, .func (.func f2) #[] cap2] w fun e w' =>
    e = .returned (.func (.func 70) #[] #[.pointer (some ⟨w.heap.size, 0, none⟩), .pointer (some ⟨w.heap.size + 1, 0, none⟩)]) ∧
      (w.alloc (.cells #[.func (.func f) #[] cap] 56)).alloc (.cells #[.func (.func f2) #[] cap2] 56) = w' := by
  have hmf : ∀ (fn : Fn) (first cap : Array Value) (w : World), (Instr.makeFunc fn first cap).run Tryz.prog w = .ok (.func fn first cap) w := fun _ _ _ _ => rfl
  go_enter Tryz.func38, Tryz.ntmps38
  go_wp2
  go_ret
  exact ⟨rfl, rfl⟩
end Go.Proofs.YtnhhflnanogpjaaGreatDoor
