/- The makers within says. -/
import Derived.Test.YtkbchpaofmlhgaaGreatDoorMakers
import Derived.Deep.Cut
namespace Go.Proofs.YtkbchpaofmlhgaaGreatDoor
open Go.RowKit

/-- an action that tells what a closure makes of the cells -/
def SayAct (B : Nat) (t : Int) (b : Nat) (fv : Value) (v : Value) (W : World) : Prop :=
  ∃ g, B ≤ g ∧ Blk W g 160 #[fv] ∧ ActAt B t 220 154 (.func (.func 164) #[] #[.pointer (some ⟨b, 0, none⟩), .pointer (some ⟨g, 0, none⟩)]) v W
theorem SayAct.on {B : Nat} {t : Int} {b : Nat} {fv v : Value} {A W : World} (h : SayAct B t b fv v A) (o : OnB A W) : SayAct B t b fv v W := by
  obtain ⟨g, h1, h2, h3⟩ := h
  exact ⟨g, h1, o _ _ _ h2, h3.on o⟩
theorem SayAct.low {B C : Nat} {t : Int} {b : Nat} {fv v : Value} {A : World} (h : SayAct B t b fv v A) (hc : C ≤ B) : SayAct C t b fv v A := by
  obtain ⟨g, h1, h2, h3⟩ := h
  exact ⟨g, Nat.le_trans hc h1, h2, h3.low hc⟩
/-- an action that puts a base -/
def BaseAct (B : Nat) (n : Int) (b : Nat) (v : Value) (W : World) : Prop :=
  ∃ g, B ≤ g ∧ Blk W g 36 #[.int .i64 n] ∧ ActAt B 0 220 154 (.func (.func 166) #[] #[.pointer (some ⟨b, 0, none⟩), .pointer (some ⟨g, 0, none⟩)]) v W
theorem BaseAct.on {B : Nat} {n : Int} {b : Nat} {v : Value} {A W : World} (h : BaseAct B n b v A) (o : OnB A W) : BaseAct B n b v W := by
  obtain ⟨g, h1, h2, h3⟩ := h
  exact ⟨g, h1, o _ _ _ h2, h3.on o⟩
theorem BaseAct.low {B C : Nat} {n : Int} {b : Nat} {v : Value} {A : World} (h : BaseAct B n b v A) (hc : C ≤ B) : BaseAct C n b v A := by
  obtain ⟨g, h1, h2, h3⟩ := h
  exact ⟨g, Nat.le_trans hc h1, h2, h3.low hc⟩
/-- an action that makes digits -/
def DigAct (B : Nat) (s : Nat) (all : Bool) (v : Value) (W : World) : Prop :=
  ∃ g1 g2, B ≤ g1 ∧ B ≤ g2 ∧ Blk W g1 24 #[.pointer (some ⟨s, 0, none⟩)] ∧ Blk W g2 4 #[.bool all] ∧ v = .agg #[.int .i64 2, .func (.func 233) #[] #[.pointer (some ⟨g1, 0, none⟩), .pointer (some ⟨g2, 0, none⟩)]]
theorem DigAct.on {B : Nat} {s : Nat} {all : Bool} {v : Value} {A W : World} (h : DigAct B s all v A) (o : OnB A W) : DigAct B s all v W := by
  obtain ⟨g1, g2, h1, h2, h3, h4, h5⟩ := h
  exact ⟨g1, g2, h1, h2, o _ _ _ h3, o _ _ _ h4, h5⟩
theorem DigAct.low {B C : Nat} {s : Nat} {all : Bool} {v : Value} {A : World} (h : DigAct B s all v A) (hc : C ≤ B) : DigAct C s all v A := by
  obtain ⟨g1, g2, h1, h2, h3, h4, h5⟩ := h
  exact ⟨g1, g2, Nat.le_trans hc h1, Nat.le_trans hc h2, h3, h4, h5⟩

theorem act_parts {B : Nat} {t : Int} {clo : FuncId} {ty : TypeId} {fv v : Value} {W : World} (h : ActAt B t clo ty fv v W) : ∃ g, v = .agg #[.int .i64 t, .func (.func clo) #[] #[.pointer (some ⟨g, 0, none⟩)]] := by
  obtain ⟨g, e, _⟩ := h
  exact ⟨g, e⟩
set_option maxHeartbeats 1000000 in
theorem say_new (t : Int) (fn : Fn) (fa cap : Array Value) (b : Nat) (w : World) : Calls Tryz.prog 163 #[.int .i64 t, .func fn fa cap, .pointer (some ⟨b, 0, none⟩)] w fun e w' => ∃ v, e = .returned v ∧ SayAct w.heap.size t b (.func fn fa cap) v w' ∧ Touch [] w w' := by
  have bF := (Blk.new w 160 #[.func fn fa cap]).alloc (.cells #[.int .i64 0, .nilFunc] 88)
  have bO := Blk.new_at (n := w.heap.size + 1) (w.alloc (.cells #[.func fn fa cap] 160)) (by simp) 88 #[.int .i64 0, .nilFunc]
  have tt := ((Touch.refl [] w).alloc (.cells #[.func fn fa cap] 160)).alloc (.cells #[.int .i64 0, .nilFunc] 88)
  have hmf : ∀ (fn : Fn) (first cap : Array Value) (w : World), (Instr.makeFunc fn first cap).run Tryz.prog w = .ok (.func fn first cap) w := fun _ _ _ _ => rfl
  have sz : ((w.alloc (.cells #[.func fn fa cap] 160)).alloc (.cells #[.int .i64 0, .nilFunc] 88)).heap.size = w.heap.size + 2 := by simp
  go_enter Tryz.func163, Tryz.ntmps163
  go_upto_region 1 with (fail)
  generalize (w.alloc (.cells #[.func fn fa cap] 160)).alloc (.cells #[.int .i64 0, .nilFunc] 88) = W0 at *
  have HN := Lib.hid (And.intro bF (And.intro bO (And.intro tt sz)))
  clear bF bO tt sz
  go_wp2_with fail
  refine (tells_new t _ _ _ _).mono ?_
  rintro _ w1 ⟨v, rfl, hv, t1⟩
  obtain ⟨g, rfl⟩ := act_parts hv
  have bO := HN.out.2.1.touch t1 (by simp)
  have o0 := bO.cell 0
  have fr0 := bO.frozen 0
  have bO1 := bO.set_ 0 (.int .i64 t)
  have hsf := store_fn (P := Tryz.prog) (bO1.cell 1) (bO1.frozen 1) 220 #[.pointer (some ⟨g, 0, none⟩)]
  have bO2 := bO1.set_ 1 (.func (.func 220) #[] #[.pointer (some ⟨g, 0, none⟩)])
  have hvlt : w.heap.size + 2 ≤ W0.heap.size := by have := HN.out.2.2.2; omega
  have hT := ((HN.out.2.2.1.trans t1 (by simp)).setCell (p := ⟨w.heap.size + 1, 0, none⟩) (.inr (by simp)) (.int .i64 t)).setCell (p := ⟨w.heap.size + 1, 1, none⟩) (.inr (by simp)) (.func (.func 220) #[] #[.pointer (some ⟨g, 0, none⟩)])
  have hfin : SayAct w.heap.size t b (.func fn fa cap) (.agg #[.int .i64 t, .func (.func 220) #[] #[.pointer (some ⟨g, 0, none⟩)]]) ((w1.setCell ⟨w.heap.size + 1, 0, none⟩ (.int .i64 t)).setCell ⟨w.heap.size + 1, 1, none⟩ (.func (.func 220) #[] #[.pointer (some ⟨g, 0, none⟩)])) := by
    refine ⟨w.heap.size, Nat.le_refl _, ((HN.out.1.touch t1 (by simp)).far (by simp) _).far (by simp) _, ?_⟩
    obtain ⟨g', e, h1, h2⟩ := hv
    injection e with e
    injection e with e
    simp at e
    subst e
    exact ⟨g, rfl, by omega, (h2.far (by simp only; omega) _).far (by simp only; omega) _⟩
  have q0 : ((w1.setCell ⟨w.heap.size + 1, 0, none⟩ (.int .i64 t)).setCell ⟨w.heap.size + 1, 1, none⟩ (.func (.func 220) #[] #[.pointer (some ⟨g, 0, none⟩)])).cell? ⟨w.heap.size + 1, 0, none⟩ = some (.int .i64 t) := bO2.cell 0
  have q1 : ((w1.setCell ⟨w.heap.size + 1, 0, none⟩ (.int .i64 t)).setCell ⟨w.heap.size + 1, 1, none⟩ (.func (.func 220) #[] #[.pointer (some ⟨g, 0, none⟩)])).cell? ⟨w.heap.size + 1, 1, none⟩ = some (.func (.func 220) #[] #[.pointer (some ⟨g, 0, none⟩)]) := bO2.cell 1
  have HF := Lib.hid (And.intro hfin hT)
  clear hfin hT hv t1 bO bO1 bO2 hvlt
  go_wp2_with fail
  refine bodyPost_ret (v := .agg #[.int .i64 t, .func (.func 220) #[] #[.pointer (some ⟨g, 0, none⟩)]]) ?_ rfl ⟨_, rfl, HF.out.1, HF.out.2⟩
  simp [results, Tryz.f163, go_sem, q0, q1]
set_option maxHeartbeats 1000000 in
theorem base_new (n : Int) (b : Nat) (w : World) : Calls Tryz.prog 165 #[.int .i64 n, .pointer (some ⟨b, 0, none⟩)] w fun e w' => ∃ v, e = .returned v ∧ BaseAct w.heap.size n b v w' ∧ Touch [] w w' := by
  have bF := (Blk.new w 36 #[.int .i64 n]).alloc (.cells #[.int .i64 0, .nilFunc] 88)
  have bO := Blk.new_at (n := w.heap.size + 1) (w.alloc (.cells #[.int .i64 n] 36)) (by simp) 88 #[.int .i64 0, .nilFunc]
  have tt := ((Touch.refl [] w).alloc (.cells #[.int .i64 n] 36)).alloc (.cells #[.int .i64 0, .nilFunc] 88)
  have hmf : ∀ (fn : Fn) (first cap : Array Value) (w : World), (Instr.makeFunc fn first cap).run Tryz.prog w = .ok (.func fn first cap) w := fun _ _ _ _ => rfl
  have sz : ((w.alloc (.cells #[.int .i64 n] 36)).alloc (.cells #[.int .i64 0, .nilFunc] 88)).heap.size = w.heap.size + 2 := by simp
  go_enter Tryz.func165, Tryz.ntmps165
  go_upto_region 1 with (fail)
  generalize (w.alloc (.cells #[.int .i64 n] 36)).alloc (.cells #[.int .i64 0, .nilFunc] 88) = W0 at *
  have HN := Lib.hid (And.intro bF (And.intro bO (And.intro tt sz)))
  clear bF bO tt sz
  go_wp2_with fail
  refine (tells_new 0 _ _ _ _).mono ?_
  rintro _ w1 ⟨v, rfl, hv, t1⟩
  obtain ⟨g, rfl⟩ := act_parts hv
  have bO := HN.out.2.1.touch t1 (by simp)
  have o0 := bO.cell 0
  have fr0 := bO.frozen 0
  have bO1 := bO.set_ 0 (.int .i64 0)
  have hsf := store_fn (P := Tryz.prog) (bO1.cell 1) (bO1.frozen 1) 220 #[.pointer (some ⟨g, 0, none⟩)]
  have bO2 := bO1.set_ 1 (.func (.func 220) #[] #[.pointer (some ⟨g, 0, none⟩)])
  have hvlt : w.heap.size + 2 ≤ W0.heap.size := by have := HN.out.2.2.2; omega
  have hT := ((HN.out.2.2.1.trans t1 (by simp)).setCell (p := ⟨w.heap.size + 1, 0, none⟩) (.inr (by simp)) (.int .i64 0)).setCell (p := ⟨w.heap.size + 1, 1, none⟩) (.inr (by simp)) (.func (.func 220) #[] #[.pointer (some ⟨g, 0, none⟩)])
  have hfin : BaseAct w.heap.size n b (.agg #[.int .i64 0, .func (.func 220) #[] #[.pointer (some ⟨g, 0, none⟩)]]) ((w1.setCell ⟨w.heap.size + 1, 0, none⟩ (.int .i64 0)).setCell ⟨w.heap.size + 1, 1, none⟩ (.func (.func 220) #[] #[.pointer (some ⟨g, 0, none⟩)])) := by
    refine ⟨w.heap.size, Nat.le_refl _, ((HN.out.1.touch t1 (by simp)).far (by simp) _).far (by simp) _, ?_⟩
    obtain ⟨g', e, h1, h2⟩ := hv
    injection e with e
    injection e with e
    simp at e
    subst e
    exact ⟨g, rfl, by omega, (h2.far (by simp only; omega) _).far (by simp only; omega) _⟩
  have q0 : ((w1.setCell ⟨w.heap.size + 1, 0, none⟩ (.int .i64 0)).setCell ⟨w.heap.size + 1, 1, none⟩ (.func (.func 220) #[] #[.pointer (some ⟨g, 0, none⟩)])).cell? ⟨w.heap.size + 1, 0, none⟩ = some (.int .i64 0) := bO2.cell 0
  have q1 : ((w1.setCell ⟨w.heap.size + 1, 0, none⟩ (.int .i64 0)).setCell ⟨w.heap.size + 1, 1, none⟩ (.func (.func 220) #[] #[.pointer (some ⟨g, 0, none⟩)])).cell? ⟨w.heap.size + 1, 1, none⟩ = some (.func (.func 220) #[] #[.pointer (some ⟨g, 0, none⟩)]) := bO2.cell 1
  have HF := Lib.hid (And.intro hfin hT)
  clear hfin hT hv t1 bO bO1 bO2 hvlt
  go_wp2_with fail
  refine bodyPost_ret (v := .agg #[.int .i64 0, .func (.func 220) #[] #[.pointer (some ⟨g, 0, none⟩)]]) ?_ rfl ⟨_, rfl, HF.out.1, HF.out.2⟩
  simp [results, Tryz.f165, go_sem, q0, q1]
set_option maxHeartbeats 1000000 in
theorem digits_new (s : Nat) (all : Bool) (w : World) : Calls Tryz.prog 181 #[.pointer (some ⟨s, 0, none⟩), .bool all] w fun e w' => ∃ v, e = .returned v ∧ DigAct w.heap.size s all v w' ∧ Touch [] w w' := by
  have b1 := ((Blk.new w 24 #[.pointer (some ⟨s, 0, none⟩)]).alloc (.cells #[.bool all] 4)).alloc (.cells #[.int .i64 2, .func (.func 233) #[] #[.pointer (some ⟨w.heap.size, 0, none⟩), .pointer (some ⟨w.heap.size + 1, 0, none⟩)]] 88)
  have b2 := (Blk.new_at (n := w.heap.size + 1) (w.alloc (.cells #[.pointer (some ⟨s, 0, none⟩)] 24)) (by simp) 4 #[.bool all]).alloc (.cells #[.int .i64 2, .func (.func 233) #[] #[.pointer (some ⟨w.heap.size, 0, none⟩), .pointer (some ⟨w.heap.size + 1, 0, none⟩)]] 88)
  have bO := Blk.new_at (n := w.heap.size + 1 + 1) ((w.alloc (.cells #[.pointer (some ⟨s, 0, none⟩)] 24)).alloc (.cells #[.bool all] 4)) (by simp) 88 #[.int .i64 2, .nilFunc]
  have hsf := store_fn (P := Tryz.prog) (bO.cell 1) (bO.frozen 1) 233 #[.pointer (some ⟨w.heap.size, 0, none⟩), .pointer (some ⟨w.heap.size + 1, 0, none⟩)]
  have tt := (((Touch.refl [] w).alloc (.cells #[.pointer (some ⟨s, 0, none⟩)] 24)).alloc (.cells #[.bool all] 4)).alloc (.cells #[.int .i64 2, .func (.func 233) #[] #[.pointer (some ⟨w.heap.size, 0, none⟩), .pointer (some ⟨w.heap.size + 1, 0, none⟩)]] 88)
  have hmf : ∀ (fn : Fn) (first cap : Array Value) (w : World), (Instr.makeFunc fn first cap).run Tryz.prog w = .ok (.func fn first cap) w := fun _ _ _ _ => rfl
  have HF := Lib.hid (And.intro b1 (And.intro b2 tt))
  clear b1 b2 tt bO
  go_enter Tryz.func181, Tryz.ntmps181
  go_wp2
  refine bodyPost_ret (v := .agg #[.int .i64 2, .func (.func 233) #[] #[.pointer (some ⟨w.heap.size, 0, none⟩), .pointer (some ⟨w.heap.size + 1, 0, none⟩)]]) ?_ rfl ⟨_, rfl, ⟨w.heap.size, w.heap.size + 1, Nat.le_refl _, by omega, HF.out.1, HF.out.2.1, rfl⟩, HF.out.2.2⟩
  simp [results, Tryz.f181, go_sem]
end Go.Proofs.YtkbchpaofmlhgaaGreatDoor
