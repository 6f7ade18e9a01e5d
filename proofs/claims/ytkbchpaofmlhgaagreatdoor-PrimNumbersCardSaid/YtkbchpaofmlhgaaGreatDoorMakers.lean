/- The makers of actions. -/
import Derived.Test.YtkbchpaofmlhgaaGreatDoorMapAny
namespace Go.Proofs.YtkbchpaofmlhgaaGreatDoor
open Go.RowKit

/-- an action: how many cells it takes, and the closure of a maker over what is done -/
def ActAt (B : Nat) (t : Int) (clo : FuncId) (ty : TypeId) (fv : Value) (v : Value) (W : World) : Prop :=
  ∃ g, v = .agg #[.int .i64 t, .func (.func clo) #[] #[.pointer (some ⟨g, 0, none⟩)]] ∧ B ≤ g ∧ Blk W g ty #[fv]
theorem ActAt.on {B : Nat} {t : Int} {clo : FuncId} {ty : TypeId} {fv v : Value} {A W : World} (h : ActAt B t clo ty fv v A) (o : OnB A W) : ActAt B t clo ty fv v W := by
  obtain ⟨g, e, h1, h2⟩ := h
  exact ⟨g, e, h1, o _ _ _ h2⟩
theorem ActAt.low {B C : Nat} {t : Int} {clo : FuncId} {ty : TypeId} {fv v : Value} {A : World} (h : ActAt B t clo ty fv v A) (hc : C ≤ B) : ActAt C t clo ty fv v A := by
  obtain ⟨g, e, h1, h2⟩ := h
  exact ⟨g, e, Nat.le_trans hc h1, h2⟩

theorem store_fn {P : Program} {w : World} {A : Addr} {u : Value} (h1 : w.cell? A = some u) (h2 : w.frozen? A = false) (f : FuncId) (cap : Array Value) : (store A (.func (.func f) #[] cap)).run P w = .ok () (w.setCell A (.func (.func f) #[] cap)) := by
  rw [run_store P w A _ _ rfl]
  rw [h1]
  simp [h2]
theorem may_new (t : Int) (fn : Fn) (fa cap : Array Value) (w : World) : Calls Tryz.prog 73 #[.int .i64 t, .func fn fa cap] w fun e w' => ∃ v, e = .returned v ∧ ActAt w.heap.size t 94 124 (.func fn fa cap) v w' ∧ Touch [] w w' := by
  have b := (Blk.new w 124 #[.func fn fa cap]).alloc (.cells #[.int .i64 t, .func (.func 94) #[] #[.pointer (some ⟨w.heap.size, 0, none⟩)]] 88)
  have tt := ((Touch.refl [] w).alloc (.cells #[.func fn fa cap] 124)).alloc (.cells #[.int .i64 t, .func (.func 94) #[] #[.pointer (some ⟨w.heap.size, 0, none⟩)]] 88)
  have bO := Blk.new_at (n := w.heap.size + 1) (w.alloc (.cells #[.func fn fa cap] 124)) (by simp) 88 #[.int .i64 t, .nilFunc]
  have hsf := store_fn (P := Tryz.prog) (bO.cell 1) (bO.frozen 1) 94 #[.pointer (some ⟨w.heap.size, 0, none⟩)]
  have HF := Lib.hid (And.intro b tt)
  have hmf : ∀ (fn : Fn) (first cap : Array Value) (w : World), (Instr.makeFunc fn first cap).run Tryz.prog w = .ok (.func fn first cap) w := fun _ _ _ _ => rfl
  clear b tt bO
  go_enter Tryz.func73, Tryz.ntmps73
  go_wp2
  refine bodyPost_ret (v := .agg #[.int .i64 t, .func (.func 94) #[] #[.pointer (some ⟨w.heap.size, 0, none⟩)]]) ?_ rfl ⟨_, rfl, ⟨w.heap.size, rfl, Nat.le_refl _, HF.out.1⟩, HF.out.2⟩
  simp [results, Tryz.f73, go_sem]
theorem wide_new (t : Int) (fn : Fn) (fa cap : Array Value) (w : World) : Calls Tryz.prog 103 #[.int .i64 t, .func fn fa cap] w fun e w' => ∃ v, e = .returned v ∧ ActAt w.heap.size t 208 147 (.func fn fa cap) v w' ∧ Touch [] w w' := by
  have b := (Blk.new w 147 #[.func fn fa cap]).alloc (.cells #[.int .i64 t, .func (.func 208) #[] #[.pointer (some ⟨w.heap.size, 0, none⟩)]] 88)
  have tt := ((Touch.refl [] w).alloc (.cells #[.func fn fa cap] 147)).alloc (.cells #[.int .i64 t, .func (.func 208) #[] #[.pointer (some ⟨w.heap.size, 0, none⟩)]] 88)
  have bO := Blk.new_at (n := w.heap.size + 1) (w.alloc (.cells #[.func fn fa cap] 147)) (by simp) 88 #[.int .i64 t, .nilFunc]
  have hsf := store_fn (P := Tryz.prog) (bO.cell 1) (bO.frozen 1) 208 #[.pointer (some ⟨w.heap.size, 0, none⟩)]
  have HF := Lib.hid (And.intro b tt)
  have hmf : ∀ (fn : Fn) (first cap : Array Value) (w : World), (Instr.makeFunc fn first cap).run Tryz.prog w = .ok (.func fn first cap) w := fun _ _ _ _ => rfl
  clear b tt bO
  go_enter Tryz.func103, Tryz.ntmps103
  go_wp2
  refine bodyPost_ret (v := .agg #[.int .i64 t, .func (.func 208) #[] #[.pointer (some ⟨w.heap.size, 0, none⟩)]]) ?_ rfl ⟨_, rfl, ⟨w.heap.size, rfl, Nat.le_refl _, HF.out.1⟩, HF.out.2⟩
  simp [results, Tryz.f103, go_sem]
theorem gives_new (t : Int) (fn : Fn) (fa cap : Array Value) (w : World) : Calls Tryz.prog 121 #[.int .i64 t, .func fn fa cap] w fun e w' => ∃ v, e = .returned v ∧ ActAt w.heap.size t 213 149 (.func fn fa cap) v w' ∧ Touch [] w w' := by
  have b := (Blk.new w 149 #[.func fn fa cap]).alloc (.cells #[.int .i64 t, .func (.func 213) #[] #[.pointer (some ⟨w.heap.size, 0, none⟩)]] 88)
  have tt := ((Touch.refl [] w).alloc (.cells #[.func fn fa cap] 149)).alloc (.cells #[.int .i64 t, .func (.func 213) #[] #[.pointer (some ⟨w.heap.size, 0, none⟩)]] 88)
  have bO := Blk.new_at (n := w.heap.size + 1) (w.alloc (.cells #[.func fn fa cap] 149)) (by simp) 88 #[.int .i64 t, .nilFunc]
  have hsf := store_fn (P := Tryz.prog) (bO.cell 1) (bO.frozen 1) 213 #[.pointer (some ⟨w.heap.size, 0, none⟩)]
  have HF := Lib.hid (And.intro b tt)
  have hmf : ∀ (fn : Fn) (first cap : Array Value) (w : World), (Instr.makeFunc fn first cap).run Tryz.prog w = .ok (.func fn first cap) w := fun _ _ _ _ => rfl
  clear b tt bO
  go_enter Tryz.func121, Tryz.ntmps121
  go_wp2
  refine bodyPost_ret (v := .agg #[.int .i64 t, .func (.func 213) #[] #[.pointer (some ⟨w.heap.size, 0, none⟩)]]) ?_ rfl ⟨_, rfl, ⟨w.heap.size, rfl, Nat.le_refl _, HF.out.1⟩, HF.out.2⟩
  simp [results, Tryz.f121, go_sem]
theorem divides_new (t : Int) (fn : Fn) (fa cap : Array Value) (w : World) : Calls Tryz.prog 127 #[.int .i64 t, .func fn fa cap] w fun e w' => ∃ v, e = .returned v ∧ ActAt w.heap.size t 217 144 (.func fn fa cap) v w' ∧ Touch [] w w' := by
  have b := (Blk.new w 144 #[.func fn fa cap]).alloc (.cells #[.int .i64 t, .func (.func 217) #[] #[.pointer (some ⟨w.heap.size, 0, none⟩)]] 88)
  have tt := ((Touch.refl [] w).alloc (.cells #[.func fn fa cap] 144)).alloc (.cells #[.int .i64 t, .func (.func 217) #[] #[.pointer (some ⟨w.heap.size, 0, none⟩)]] 88)
  have bO := Blk.new_at (n := w.heap.size + 1) (w.alloc (.cells #[.func fn fa cap] 144)) (by simp) 88 #[.int .i64 t, .nilFunc]
  have hsf := store_fn (P := Tryz.prog) (bO.cell 1) (bO.frozen 1) 217 #[.pointer (some ⟨w.heap.size, 0, none⟩)]
  have HF := Lib.hid (And.intro b tt)
  have hmf : ∀ (fn : Fn) (first cap : Array Value) (w : World), (Instr.makeFunc fn first cap).run Tryz.prog w = .ok (.func fn first cap) w := fun _ _ _ _ => rfl
  clear b tt bO
  go_enter Tryz.func127, Tryz.ntmps127
  go_wp2
  refine bodyPost_ret (v := .agg #[.int .i64 t, .func (.func 217) #[] #[.pointer (some ⟨w.heap.size, 0, none⟩)]]) ?_ rfl ⟨_, rfl, ⟨w.heap.size, rfl, Nat.le_refl _, HF.out.1⟩, HF.out.2⟩
  simp [results, Tryz.f127, go_sem]
theorem tells_new (t : Int) (fn : Fn) (fa cap : Array Value) (w : World) : Calls Tryz.prog 142 #[.int .i64 t, .func fn fa cap] w fun e w' => ∃ v, e = .returned v ∧ ActAt w.heap.size t 220 154 (.func fn fa cap) v w' ∧ Touch [] w w' := by
  have b := (Blk.new w 154 #[.func fn fa cap]).alloc (.cells #[.int .i64 t, .func (.func 220) #[] #[.pointer (some ⟨w.heap.size, 0, none⟩)]] 88)
  have tt := ((Touch.refl [] w).alloc (.cells #[.func fn fa cap] 154)).alloc (.cells #[.int .i64 t, .func (.func 220) #[] #[.pointer (some ⟨w.heap.size, 0, none⟩)]] 88)
  have bO := Blk.new_at (n := w.heap.size + 1) (w.alloc (.cells #[.func fn fa cap] 154)) (by simp) 88 #[.int .i64 t, .nilFunc]
  have hsf := store_fn (P := Tryz.prog) (bO.cell 1) (bO.frozen 1) 220 #[.pointer (some ⟨w.heap.size, 0, none⟩)]
  have HF := Lib.hid (And.intro b tt)
  have hmf : ∀ (fn : Fn) (first cap : Array Value) (w : World), (Instr.makeFunc fn first cap).run Tryz.prog w = .ok (.func fn first cap) w := fun _ _ _ _ => rfl
  clear b tt bO
  go_enter Tryz.func142, Tryz.ntmps142
  go_wp2
  refine bodyPost_ret (v := .agg #[.int .i64 t, .func (.func 220) #[] #[.pointer (some ⟨w.heap.size, 0, none⟩)]]) ?_ rfl ⟨_, rfl, ⟨w.heap.size, rfl, Nat.le_refl _, HF.out.1⟩, HF.out.2⟩
  simp [results, Tryz.f142, go_sem]
end Go.Proofs.YtkbchpaofmlhgaaGreatDoor
