/- does: an act to its end; what was thrown. -/
import Derived.Test.YtnhhflnanogpjaaGreatDoorAct
import Derived.Recover
import Derived.Defers
import Derived.Laws.Pointers
namespace Go.Proofs.YtnhhflnanogpjaaGreatDoor
open Go.RowKit

set_option maxRecDepth 100000 in
theorem catch_panicking (B : Nat) (e : Int) (out : Bool) (x y : Value) (older : List PanicEntry) (w : World) (hb : Blk w B 53 #[x, y]) :
    CallsD Tryz.prog 29 #[.pointer (some ⟨B, 0, none⟩)] (.panicking ({ v := stopV e out, recovered := false } :: older)) w fun en u' w' =>
      en = .returned (.tuple #[]) ∧ u' = .panicking ({ v := stopV e out, recovered := true } :: older) ∧ Blk w' B 53 #[.int .i64 e, .bool out] ∧ Touch [B] w w' := by
  have hb2 := hb.alloc (.cells #[.int .i64 e, .bool out] 53)
  have c0 := hb2.cell 0
  have c1 := hb2.cell 1
  have f0 := hb2.frozen 0
  have f1 := hb2.frozen 1
  have HB2 := Lib.hid hb2
  clear hb2
  unfold stopV
  refine callsD_of_wpS Tryz.func29 rfl fun c₀ cs hu => ?_
  apply wpS_seq
  apply wpS_region
  simp [wpOpsS, go_sem, recoverD, hu, Tryz.ntmps29, Exit.thenS]
  simp only [Array.replicate_succ, Array.replicate_zero, List.push_toArray, List.setIfInBounds_toArray, List.append_toArray, List.nil_append, List.cons_append, List.set_cons_succ, List.set_cons_zero]
  have HB := Lib.hid hb
  generalize hCS : ({ fn := c₀.fn, tmps := c₀.tmps, todo := c₀.todo, defers := c₀.defers, mode := FrameMode.panicking ({ v := Value.iface 53 (Value.agg #[Value.int IntKind.i64 e, Value.bool out]), recovered := true } :: older), kind := c₀.kind, roundOf := c₀.roundOf } : Frame) :: cs = CS
  have HC := Lib.hid hCS
  clear hb hu hCS
  have hta : ∀ (v : Value) (w : World), (Instr.typeAssert (.iface 53 v) 20 53 true).run Tryz.prog w = .ok (.tuple #[v, .bool true]) w := fun v w => by kernel_rfl
  refine wpS_of_wp ?_
  go_wp2
  rw [← HC.out]
  refine ⟨rfl, _, rfl, _, results_none rfl _ _ _, rfl, rfl, HB2.out.two _ _, ?_⟩
  exact (((Touch.refl [B] w).alloc _).setCell (by simp) _).setCell (by simp) _

theorem catch_idle (B : Nat) (w : World) :
    CallsD Tryz.prog 29 #[.pointer (some ⟨B, 0, none⟩)] .returning w fun e u' w' => e = .returned (.tuple #[]) ∧ u' = .returning ∧ w' = w := by
  refine callsD_of_wpS Tryz.func29 rfl fun c₀ cs hu => ?_
  apply wpS_seq
  apply wpS_region
  simp [wpOpsS, go_sem, recoverD, hu, Tryz.ntmps29, Exit.thenS]
  simp only [Array.replicate_succ, Array.replicate_zero, List.push_toArray, List.setIfInBounds_toArray, List.append_toArray, List.nil_append, List.cons_append, List.set_cons_succ, List.set_cons_zero]
  refine wpS_of_wp ?_
  go_wp2
  cases c₀
  simp_all [bodyPostS, results, Tryz.results29]

/-- how does ends -/
def DoesEnd (w : World) (b : Nat) (F : List Nat) (o : Out Bool × Run) : Ending → World → Prop := fun e w' =>
  match o with
  | (.ok _, s) => e = .returned (.agg #[.int .i64 0, .bool false]) ∧ RunLeft w b F s w'
  | (.bad x out, s) => e = .returned (.agg #[.int .i64 x, .bool out]) ∧ RunLost w b F s w'

theorem RunLeft.past {w w1 w2 : World} {b : Nat} {F : List Nat} {r : Run} {o : Obj} (h : RunLeft (w.alloc o) b F r w1) (hF : w.heap.size ∉ F) (t : Touch [w.heap.size] w1 w2) : RunLeft w b F r w2 := by
  obtain ⟨F', k, t1, hs⟩ := h
  have hR : w.heap.size ∉ F' := fun hf => by
    rcases hs _ hf with h | h
    · exact hF h
    · simp at h
      omega
  refine ⟨F', k.touch t (fun f hf hg => hR (by rw [List.mem_singleton.1 hg] at hf; exact hf)), (((Touch.refl F w).alloc o).trans t1 (fun g hg => .inl hg)).trans t (by simp), fun f hf => ?_⟩
  rcases hs f hf with h | h
  · exact .inl h
  · simp at h
    exact .inr (by omega)

set_option maxRecDepth 100000 in
set_option maxHeartbeats 1000000 in
theorem does_any2 {lo hi d nl : Nat} {w w' : World} {b : Nat} {F : List Nat} {r : Run} {v : Value} {m : Den} (h : ActSem lo hi w d nl v m) (hr : RunIn lo hi w w' b F d nl r) :
    Calls Tryz.prog 18 #[.pointer (some ⟨b, 0, none⟩), v] w' (DoesEnd w' b F (m r)) := by
  have hmf : ∀ (fn : Fn) (first cap : Array Value) (w : World), (Instr.makeFunc fn first cap).run Tryz.prog w = .ok (.func fn first cap) w := fun _ _ _ _ => rfl
  obtain ⟨f, cap, rfl, hE, hf⟩ := h
  have hent : ∀ (args : Array Value) (w : World), (callFunc f args).run Tryz.prog w = .ok (.enter f args) w := hE
  have bN := Blk.new w' 53 #[.int .i64 0, .bool false]
  have hq := hr.quiet ((Touch.refl [] w').alloc (.cells #[.int .i64 0, .bool false] 53))
  have hC := hf _ b F r hq
  obtain ⟨⟨o, s⟩, e⟩ : ∃ q, m r = q := ⟨_, rfl⟩
  rw [e] at hC ⊢
  have HF : w'.heap.size ∉ F := fun hg => Nat.lt_irrefl _ (hr.run.lt _ hg)
  have HB := Lib.hid bN
  clear hf hE hq e bN hr
  cases o with
  | ok a =>
    go_enter_defers Tryz.func18, Tryz.ntmps18
    go_wp2_with fail
    refine hC.mono ?_
    rintro _ w1 ⟨_, rfl, hz, hl⟩
    cases hz
    have t1 : Touch F (w'.alloc (.cells #[.int .i64 0, .bool false] 53)) w1 := hl.choose_spec.2.1
    have bR := HB.out.touch t1 HF
    have c0 := bR.cell 0
    have c1 := bR.cell 1
    have f0 := bR.frozen 0
    have f1 := bR.frozen 1
    have HH := Lib.hid (And.intro bR hl)
    clear bR hl t1 hC
    go_wp2
    refine leaves_cons (f := 29) (args := #[.pointer (some ⟨w'.heap.size, 0, none⟩)]) (by simp) (by simp [go_sem]) ?_
    refine (catch_idle w'.heap.size _).mono ?_
    rintro e u' w2 ⟨rfl, rfl, rfl⟩
    have bR2 := HH.out.1.two (.int .i64 0) (.bool false)
    have d0 := bR2.cell 0
    have d1 := bR2.cell 1
    have hl := HH.out.2.past HF (((Touch.refl [w'.heap.size] w1).setCell (p := ⟨w'.heap.size, 0, none⟩) (by simp) (.int .i64 0)).setCell (p := ⟨w'.heap.size, 1, none⟩) (by simp) (.bool false))
    generalize (w1.setCell ⟨w'.heap.size, 0, none⟩ (.int .i64 0)).setCell ⟨w'.heap.size, 1, none⟩ (.bool false) = W at *
    refine ⟨.agg #[.int .i64 0, .bool false], ?_, rfl, hl⟩
    simp [results, Tryz.results18, go_sem, d0, d1]
  | bad x o =>
    go_enter_defers Tryz.func18, Tryz.ntmps18
    go_wp2_with fail
    refine hC.mono ?_
    rintro _ w1 ⟨rfl, X, hl⟩
    have t1 : Touch F (w'.alloc (.cells #[.int .i64 0, .bool false] 53)) w1 := hl.choose_spec.2.1
    have bR := HB.out.touch t1 HF
    unfold stopped
    refine leaves_cons (f := 29) (args := #[.pointer (some ⟨w'.heap.size, 0, none⟩)]) (by simp) (by simp [go_sem]) ?_
    refine (catch_panicking w'.heap.size x o _ _ [] _ bR).mono ?_
    rintro e u' w2 ⟨rfl, rfl, bR2, t2⟩
    have d0 := bR2.cell 0
    have d1 := bR2.cell 1
    have hl3 := hl.past HF t2
    refine ⟨.agg #[.int .i64 x, .bool o], ?_, rfl, X, hl3⟩
    simp [results, Tryz.results18, go_sem, d0, d1]
end Go.Proofs.YtnhhflnanogpjaaGreatDoor
