/- What the makers' closures do; which one a number finds. -/
import Derived.Test.YtkbchpaofmlhgaaGreatDoorMem3
import Derived.Test.YtkbchpaofmlhgaaGreatDoorCell3
namespace Go.Proofs.YtkbchpaofmlhgaaGreatDoor
open Go.RowKit

/-- behind something that was done -/
def Done (W : World) (s : Nat) (F : List Nat) (S S' : PS) (w' : World) : Prop := ∃ F', StateAt w' s F' S' ∧ PS.same S S' ∧ Touch F W w' ∧ Sub W F F'
theorem Done.alloc {W w : World} {s : Nat} {F : List Nat} {S S' : PS} (h : Done W s F S S' w) (o : Obj) : Done W s F S S' (w.alloc o) := by
  obtain ⟨F', h1, h2, h3, h4⟩ := h
  exact ⟨F', h1.quiet ((Touch.refl [] w).alloc o), h2, h3.alloc o, h4⟩
theorem Done.on {W w w' : World} {s : Nat} {F : List Nat} {S S' : PS} (h : Done W s F S S' w) (t : Touch [] w w') : Done W s F S S' w' := by
  obtain ⟨F', h1, h2, h3, h4⟩ := h
  exact ⟨F', h1.quiet t, h2, h3.trans t (by simp), h4⟩
theorem Done.self {W w' : World} {s : Nat} {F : List Nat} {S : PS} (h : StateAt W s F S) (t : Touch [] W w') : Done W s F S S w' := ⟨F, h.quiet t, ⟨rfl, rfl, rfl, rfl, rfl, rfl⟩, t.mono (by simp), Sub.refl _ _⟩
theorem Done.out {W w' : World} {s : Nat} {F : List Nat} {S S' : PS} (h : Done W s F S S' w') : ∃ F', StateAt w' s F' S' ∧ PS.same S S' ∧ Touch F W w' ∧ Sub W F F' := h
def ActDone (W : World) (s : Nat) (F : List Nat) (S : PS) (r : (List Int × Int) × PS) : Ending → World → Prop := fun e w' => ∃ ov, e = .returned (.tuple #[ov, .int .i64 r.1.2]) ∧ CellsAt w' ov r.1.1 ∧ Done W s F S r.2 w'
theorem ActDone.post {P : Program} {f : FuncId} {args : Array Value} {W : World} {s : Nat} {F : List Nat} {S : PS} {r : (List Int × Int) × PS} (h : Calls P f args W (ActDone W s F S r)) :
    Calls P f args W fun e w' => ∃ ov F', e = .returned (.tuple #[ov, .int .i64 r.1.2]) ∧ CellsAt w' ov r.1.1 ∧ StateAt w' s F' r.2 ∧ PS.same S r.2 ∧ Touch F W w' ∧ Sub W F F' :=
  h.mono fun _ _ ⟨ov, h1, h2, F', h3⟩ => ⟨ov, F', h1, h2, h3⟩

section
variable {W : World} {s : Nat} {F : List Nat} {S S' : PS} {g : Nat} {fn : FuncId} {first cap : Array Value} {lv : Value} {x y z : Int}
theorem tells_clo (hb : Blk W g 154 #[.func (.func fn) first cap]) (hE : Enters Tryz.prog fn)
    (h : Calls Tryz.prog fn (first ++ #[lv] ++ cap) W fun e w' => e = .returned (.int .i64 x) ∧ Done W s F S S' w') : Calls Tryz.prog 220 (#[] ++ #[lv] ++ #[.pointer (some ⟨g, 0, none⟩)]) W (ActDone W s F S (([], x), S')) := by
  have c0 := hb.cell 0
  have hent : ∀ (args : Array Value) (w : World), (callFunc fn args).run Tryz.prog w = .ok (.enter fn args) w := hE
  clear hb hE
  show Calls Tryz.prog 220 #[lv, .pointer (some ⟨g, 0, none⟩)] W _
  go_enter Tryz.func220, Tryz.ntmps220
  go_wp2_with fail
  refine h.mono ?_
  rintro _ w1 ⟨rfl, hd⟩
  have HD := Lib.hid hd
  clear h hd
  go_wp2_with fail
  go_ret2
  exact ⟨_, rfl, .inl ⟨rfl, rfl⟩, HD.out⟩
theorem gives_clo (hb : Blk W g 149 #[.func (.func fn) first cap]) (hE : Enters Tryz.prog fn)
    (h : Calls Tryz.prog fn (first ++ #[lv] ++ cap) W fun e w' => e = .returned (.int .i64 x) ∧ Done W s F S S' w') : Calls Tryz.prog 213 (#[] ++ #[lv] ++ #[.pointer (some ⟨g, 0, none⟩)]) W (ActDone W s F S (([x], 0), S')) := by
  have c0 := hb.cell 0
  have hent : ∀ (args : Array Value) (w : World), (callFunc fn args).run Tryz.prog w = .ok (.enter fn args) w := hE
  clear hb hE
  show Calls Tryz.prog 213 #[lv, .pointer (some ⟨g, 0, none⟩)] W _
  go_enter Tryz.func213, Tryz.ntmps213
  go_wp2_with fail
  refine h.mono ?_
  rintro _ w1 ⟨rfl, hd⟩
  have HD := Lib.hid hd
  clear h hd
  go_wp2_with fail
  go_ret2
  exact ⟨_, rfl, .inr ⟨_, _, rfl, fun j u hj => by rw [add_off, Nat.zero_add]; exact ((Blk.new w1 _ _).cell j).trans (by simpa [cells] using hj)⟩, HD.out.alloc _⟩
theorem may_clo (hb : Blk W g 124 #[.func (.func fn) first cap]) (hE : Enters Tryz.prog fn)
    (h : Calls Tryz.prog fn (first ++ #[lv] ++ cap) W fun e w' => e = .returned (.tuple #[.int .i64 x, .int .i64 y]) ∧ Done W s F S S' w') : Calls Tryz.prog 94 (#[] ++ #[lv] ++ #[.pointer (some ⟨g, 0, none⟩)]) W (ActDone W s F S (([x], y), S')) := by
  have c0 := hb.cell 0
  have hent : ∀ (args : Array Value) (w : World), (callFunc fn args).run Tryz.prog w = .ok (.enter fn args) w := hE
  clear hb hE
  show Calls Tryz.prog 94 #[lv, .pointer (some ⟨g, 0, none⟩)] W _
  go_enter Tryz.func94, Tryz.ntmps94
  go_wp2_with fail
  refine h.mono ?_
  rintro _ w1 ⟨rfl, hd⟩
  have HD := Lib.hid hd
  clear h hd
  go_wp2_with fail
  go_ret2
  exact ⟨_, rfl, .inr ⟨_, _, rfl, fun j u hj => by rw [add_off, Nat.zero_add]; exact ((Blk.new w1 _ _).cell j).trans (by simpa [cells] using hj)⟩, HD.out.alloc _⟩
theorem divides_clo (hb : Blk W g 144 #[.func (.func fn) first cap]) (hE : Enters Tryz.prog fn)
    (h : Calls Tryz.prog fn (first ++ #[lv] ++ cap) W fun e w' => e = .returned (.tuple #[.int .i64 x, .int .i64 z, .int .i64 y]) ∧ Done W s F S S' w') : Calls Tryz.prog 217 (#[] ++ #[lv] ++ #[.pointer (some ⟨g, 0, none⟩)]) W (ActDone W s F S (([x, z], y), S')) := by
  have c0 := hb.cell 0
  have hent : ∀ (args : Array Value) (w : World), (callFunc fn args).run Tryz.prog w = .ok (.enter fn args) w := hE
  clear hb hE
  show Calls Tryz.prog 217 #[lv, .pointer (some ⟨g, 0, none⟩)] W _
  go_enter Tryz.func217, Tryz.ntmps217
  go_wp2_with fail
  refine h.mono ?_
  rintro _ w1 ⟨rfl, hd⟩
  have HD := Lib.hid hd
  clear h hd
  go_wp2_with fail
  go_ret2
  exact ⟨_, rfl, .inr ⟨_, _, rfl, fun j u hj => by rw [add_off, Nat.zero_add]; exact ((Blk.new w1 _ _).cell j).trans (by simpa [cells] using hj)⟩, HD.out.alloc _⟩
end

theorem found_says {B s m : Nat} {op : Int} {v : Value} {W : World} (h : FoundAt B s m op v W) (h1 : pairsOp op = 0) (h2 : memoryOp op = 0) : ∃ b C, B ≤ C ∧ B ≤ b ∧ saysPV C b s (saysOp op) v W ∧ Blk W b 24 #[.pointer (some ⟨s, 0, none⟩)] := by
  rcases h with ⟨b, C, _, _, ⟨h3, _⟩, _⟩ | ⟨b, C, _, _, ⟨h3, _⟩, _⟩ | ⟨b, C, k1, k2, h3, h4⟩
  · exact absurd h1 h3
  · exact absurd h2 h3
  · exact ⟨b, C, k1, k2, h3.2, h4⟩
theorem found_memory {B s m : Nat} {op : Int} {v : Value} {W : World} (h : FoundAt B s m op v W) (h1 : pairsOp op = 0) (h2 : saysOp op = 0) : ∃ b C, B ≤ C ∧ B ≤ b ∧ memoryPV C b s (memoryOp op) v W ∧ Blk W b 61 #[.pointer (some ⟨m, 0, none⟩)] := by
  rcases h with ⟨b, C, _, _, ⟨h3, _⟩, _⟩ | ⟨b, C, k1, k2, h3, h4⟩ | ⟨b, C, _, _, ⟨h3, _⟩, _⟩
  · exact absurd h1 h3
  · exact ⟨b, C, k1, k2, h3.2, h4⟩
  · exact absurd h2 h3
theorem act_open {B g0 : Nat} {t : Int} {clo f : FuncId} {ty : TypeId} {t' : Int} {first cap : Array Value} {fv : Value} {W : World} (h : ActAt B t clo ty fv (.agg #[.int .i64 t', .func (.func f) first cap]) W) (hg0 : g0 ≤ B) :
    ∃ g, g0 ≤ g ∧ Blk W g ty #[fv] ∧ t' = t ∧ f = clo ∧ first = #[] ∧ cap = #[.pointer (some ⟨g, 0, none⟩)] := by
  obtain ⟨g, e, h1, h2⟩ := h
  injection e with e
  injection e with e
  injection e with e1 e
  injection e with e2 e
  injection e1 with _ e1
  injection e2 with e2 e3 e4
  injection e2 with e2
  exact ⟨g, by omega, h2, e1, e2, e3, e4⟩

set_option maxHeartbeats 1000000 in
theorem say_fn {W : World} {s : Nat} {F : List Nat} {S : PS} {b g : Nat} {fn : FuncId} {first cap : Array Value} {lv : Value} {x : ByteArray} (hS : StateAt W s F S) (hok : S.ok)
    (hb : Blk W b 24 #[.pointer (some ⟨s, 0, none⟩)]) (hg : Blk W g 160 #[.func (.func fn) first cap]) (hE : Enters Tryz.prog fn)
    (h : Calls Tryz.prog fn (first ++ #[lv] ++ cap) W.drew fun e w' => e = .returned (.string x) ∧ Touch [] W.drew w') :
    Calls Tryz.prog 164 (#[] ++ #[lv] ++ #[.pointer (some ⟨b, 0, none⟩), .pointer (some ⟨g, 0, none⟩)]) W fun e w' => e = .returned (.int .i64 0) ∧ Done W s F S { S with out := sayL S.out x } w' := by
  have b0 := hb.cell 0
  have g0 := hg.cell 0
  have hent : ∀ (args : Array Value) (w : World), (callFunc fn args).run Tryz.prog w = .ok (.enter fn args) w := hE
  have HB := Lib.hid (And.intro hb (And.intro hS hok))
  clear hb hg hE hS hok
  show Calls Tryz.prog 164 #[lv, .pointer (some ⟨b, 0, none⟩), .pointer (some ⟨g, 0, none⟩)] W _
  go_enter Tryz.func164, Tryz.ntmps164
  go_upto_region 1 with fail
  go_region_with (first | (go_at_fn fn; refine h.mono ?_; rintro _ w1 ⟨rfl, t1⟩; have c1 := (HB.out.1.touch t1.of_drew (by simp)).cell 0; have T1 := Lib.hid t1.of_drew; clear t1) | (go_at_call 36; refine (PSay_any (HB.out.2.1.quiet T1.out) HB.out.2.2.1 x).mono ?_; rintro _ w2 ⟨F2, rfl, k1, k2, k3⟩; have HD : Hid (Done W s F S { S with out := sayL S.out x } w2) := ⟨F2, k1, ⟨rfl, rfl, rfl, rfl, rfl, rfl⟩, (T1.out.mono (by simp)).trans k2 (fun g hg => .inl hg), k3.lower T1.out.size⟩; clear k1 k2 k3))
  all_goals go_wp2_with fail
  all_goals go_ret
  all_goals exact ⟨rfl, HD.out⟩
end Go.Proofs.YtkbchpaofmlhgaaGreatDoor
