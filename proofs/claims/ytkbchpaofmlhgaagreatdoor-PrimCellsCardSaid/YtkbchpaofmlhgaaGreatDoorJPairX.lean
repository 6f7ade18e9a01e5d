import Derived.Test.YtkbchpaofmlhgaaGreatDoorJPairT
import Derived.Test.YtkbchpaofmlhgaaGreatDoorJHoldA
import Derived.Test.YtkbchpaofmlhgaaGreatDoorJOpsA
import Derived.StillTailTactics
/- Operations of prim's map of pairs: what each does, from what its function tells. -/
namespace Go.Proofs.YtkbchpaofmlhgaaGreatDoor
open Go.RowKit

theorem OpSem.pre {op : Int} {n : Nat} {p q : List Int → PS → Prop} {act : List Int → PS → (List Int × Int) × PS} (h : OpSem op n p act) (hq : ∀ l S, l.length = n → q l S → p l S) : OpSem op n q act := by
  intro W B s F S t f first cap l lv hok hS hF hfd
  obtain ⟨h1, h2, h3⟩ := h W B s F S t f first cap l lv hok hS hF hfd
  exact ⟨h1, h2, fun hl hp hc => h3 hl (hq l S hl hp) hc⟩
theorem found_pairs {B s m : Nat} {op : Int} {v : Value} {W : World} (h : FoundAt B s m op v W) (h1 : memoryOp op = 0) (h2 : saysOp op = 0) : ∃ b C, B ≤ C ∧ B ≤ b ∧ pairsPV C b (pairsOp op) v W ∧ Blk W b 144 #[.func (.func 100) #[] #[]] := by
  rcases h with ⟨b, C, k1, k2, h3, h4⟩ | ⟨b, C, _, _, ⟨h3, _⟩, _⟩ | ⟨b, C, _, _, ⟨h3, _⟩, _⟩
  · exact ⟨b, C, k1, k2, h3.2, h4⟩
  · exact absurd h1 h3
  · exact absurd h2 h3
section
variable {W : World} {s : Nat} {F : List Nat} {S S' : PS} {g : Nat} {fn : FuncId} {first cap : Array Value} {lv : Value} {x y z : Int}
theorem wide_clo (hb : Blk W g 147 #[.func (.func fn) first cap]) (hE : Enters Tryz.prog fn)
    (h : Calls Tryz.prog fn (first ++ #[lv] ++ cap) W fun e w' => e = .returned (pairW (x, y)) ∧ Done W s F S S' w') : Calls Tryz.prog 208 (#[] ++ #[lv] ++ #[.pointer (some ⟨g, 0, none⟩)]) W (ActDone W s F S (([x, y], 0), S')) := by
  have c0 := hb.cell 0
  have hent : ∀ (args : Array Value) (w : World), (callFunc fn args).run Tryz.prog w = .ok (.enter fn args) w := hE
  clear hb hE
  unfold pairW at h
  show Calls Tryz.prog 208 #[lv, .pointer (some ⟨g, 0, none⟩)] W _
  go_enter Tryz.func208, Tryz.ntmps208
  go_wp2_with fail
  refine h.mono ?_
  rintro _ w1 ⟨rfl, hd⟩
  have HD := Lib.hid hd
  clear h hd
  go_wp2_with fail
  go_ret2
  exact ⟨_, rfl, CellsAt.blk (cs := [x, y]) (Blk.new_at (n := w1.heap.size + 1) (w1.alloc (.cells #[.int .i64 x, .int .i64 y] 38)) (by simp) 36 (cells [x, y]).toArray) 2, (HD.out.alloc _).alloc _⟩
end

theorem wide_semP (op : Int) (n : Nat) (fn : FuncId) (hE : Enters Tryz.prog fn) (h1 : memoryOp op = 0) (h2 : saysOp op = 0) (f : List Int → Int × Int)
    (hP : ∀ C b v W, pairsPV C b (pairsOp op) v W → ActAt C n 208 147 (.func (.func fn) #[] #[]) v W)
    (hf : ∀ W l lv, AllC l → l.length = n → CellsG W lv l → Calls Tryz.prog fn #[lv] W fun e w' => e = .returned (pairW (f l)) ∧ Touch [] W w') :
    OpSem op n (fun l _ => AllC l) (fun l S => (([(f l).1, (f l).2], 0), S)) := by
  intro W B s F S t f' first cap l lv hok hS hF hfd
  obtain ⟨b, C, hC, hb, hA, hB⟩ := found_pairs hfd h1 h2
  obtain ⟨g, _, hg, rfl, rfl, rfl, rfl⟩ := act_open (hP _ _ _ _ hA) (Nat.zero_le _)
  refine ⟨rfl, enters_of Tryz.func208 (by kernel_rfl) rfl, fun hl hpre hc => ActDone.post (wide_clo hg hE ?_)⟩
  exact (hf W l lv hpre hl hc).mono fun e w' ⟨h, t⟩ => ⟨h, Done.self hS t⟩
theorem gives_semP (op : Int) (n : Nat) (fn : FuncId) (hE : Enters Tryz.prog fn) (h1 : memoryOp op = 0) (h2 : saysOp op = 0) (f : List Int → Int)
    (hP : ∀ C b v W, pairsPV C b (pairsOp op) v W → ActAt C n 213 149 (.func (.func fn) #[] #[]) v W)
    (hf : ∀ W l lv, AllC l → l.length = n → CellsG W lv l → Calls Tryz.prog fn #[lv] W fun e w' => e = .returned (.int .i64 (f l)) ∧ Touch [] W w') :
    OpSem op n (fun l _ => AllC l) (fun l S => (([f l], 0), S)) := by
  intro W B s F S t f' first cap l lv hok hS hF hfd
  obtain ⟨b, C, hC, hb, hA, hB⟩ := found_pairs hfd h1 h2
  obtain ⟨g, _, hg, rfl, rfl, rfl, rfl⟩ := act_open (hP _ _ _ _ hA) (Nat.zero_le _)
  refine ⟨rfl, enters_of Tryz.func213 (by kernel_rfl) rfl, fun hl hpre hc => ActDone.post (gives_clo hg hE ?_)⟩
  exact (hf W l lv hpre hl hc).mono fun e w' ⟨h, t⟩ => ⟨h, Done.self hS t⟩
theorem may_semP (op : Int) (n : Nat) (fn : FuncId) (hE : Enters Tryz.prog fn) (h1 : memoryOp op = 0) (h2 : saysOp op = 0) (f : List Int → Int × Int)
    (hP : ∀ C b v W, pairsPV C b (pairsOp op) v W → ActAt C n 94 124 (.func (.func fn) #[] #[]) v W)
    (hf : ∀ W l lv, AllC l → l.length = n → CellsG W lv l → Calls Tryz.prog fn #[lv] W fun e w' => e = .returned (.tuple #[.int .i64 (f l).1, .int .i64 (f l).2]) ∧ Touch [] W w') :
    OpSem op n (fun l _ => AllC l) (fun l S => (([(f l).1], (f l).2), S)) := by
  intro W B s F S t f' first cap l lv hok hS hF hfd
  obtain ⟨b, C, hC, hb, hA, hB⟩ := found_pairs hfd h1 h2
  obtain ⟨g, _, hg, rfl, rfl, rfl, rfl⟩ := act_open (hP _ _ _ _ hA) (Nat.zero_le _)
  refine ⟨rfl, enters_of Tryz.func94 (by kernel_rfl) rfl, fun hl hpre hc => ActDone.post (may_clo hg hE ?_)⟩
  exact (hf W l lv hpre hl hc).mono fun e w' ⟨h, t⟩ => ⟨h, Done.self hS t⟩
theorem mayb_semP (op : Int) (n : Nat) (fn : FuncId) (hE : Enters Tryz.prog fn) (h1 : memoryOp op = 0) (h2 : saysOp op = 0) (f : List Int → Int × Int)
    (hP : ∀ C b v W, pairsPV C b (pairsOp op) v W → ActAt C n 94 124 (.func (.func fn) #[] #[.pointer (some ⟨b, 0, none⟩)]) v W)
    (hf : ∀ W l lv b, AllC l → l.length = n → CellsG W lv l → Blk W b 144 #[.func (.func 100) #[] #[]] → Calls Tryz.prog fn #[lv, .pointer (some ⟨b, 0, none⟩)] W fun e w' => e = .returned (.tuple #[.int .i64 (f l).1, .int .i64 (f l).2]) ∧ Touch [] W w') :
    OpSem op n (fun l _ => AllC l) (fun l S => (([(f l).1], (f l).2), S)) := by
  intro W B s F S t f' first cap l lv hok hS hF hfd
  obtain ⟨b, C, hC, hb, hA, hB⟩ := found_pairs hfd h1 h2
  obtain ⟨g, _, hg, rfl, rfl, rfl, rfl⟩ := act_open (hP _ _ _ _ hA) (Nat.zero_le _)
  refine ⟨rfl, enters_of Tryz.func94 (by kernel_rfl) rfl, fun hl hpre hc => ActDone.post (may_clo hg hE ?_)⟩
  exact (hf W l lv b hpre hl hc hB).mono fun e w' ⟨h, t⟩ => ⟨h, Done.self hS t⟩
theorem divides_semP (op : Int) (n : Nat) (fn : FuncId) (hE : Enters Tryz.prog fn) (h1 : memoryOp op = 0) (h2 : saysOp op = 0) (f : List Int → (Int × Int) × Int)
    (hP : ∀ C b v W, pairsPV C b (pairsOp op) v W → ActAt C n 217 144 (.func (.func fn) #[] #[]) v W)
    (hf : ∀ W l lv, AllC l → l.length = n → CellsG W lv l → Calls Tryz.prog fn #[lv] W fun e w' => e = .returned (.tuple #[.int .i64 (f l).1.1, .int .i64 (f l).1.2, .int .i64 (f l).2]) ∧ Touch [] W w') :
    OpSem op n (fun l _ => AllC l) (fun l S => (([(f l).1.1, (f l).1.2], (f l).2), S)) := by
  intro W B s F S t f' first cap l lv hok hS hF hfd
  obtain ⟨b, C, hC, hb, hA, hB⟩ := found_pairs hfd h1 h2
  obtain ⟨g, _, hg, rfl, rfl, rfl, rfl⟩ := act_open (hP _ _ _ _ hA) (Nat.zero_le _)
  refine ⟨rfl, enters_of Tryz.func217 (by kernel_rfl) rfl, fun hl hpre hc => ActDone.post (divides_clo hg hE ?_)⟩
  exact (hf W l lv hpre hl hc).mono fun e w' ⟨h, t⟩ => ⟨h, Done.self hS t⟩
end Go.Proofs.YtkbchpaofmlhgaaGreatDoor

/- The package pair: comparisons. -/
namespace Go.Proofs.YtkbchpaofmlhgaaGreatDoor
open Go.RowKit

def cmpI (a b : Int) : Int := if a < b then -1 else if b < a then 1 else 0
theorem nanC_any (a : Int) (w : World) : Calls Tryz.prog 237 #[.int .i64 a] w fun e w' => e = .returned (.bool false) ∧ w = w' := by
  go_enter Tryz.func237, Tryz.ntmps237
  go_wp2_with fail
  go_ret
  exact ⟨by simp, rfl⟩
theorem nanU_any (a : Int) (w : World) : Calls Tryz.prog 238 #[.int .u64 a] w fun e w' => e = .returned (.bool false) ∧ w = w' := by
  go_enter Tryz.func238, Tryz.ntmps238
  go_wp2_with fail
  go_ret
  exact ⟨by simp, rfl⟩
theorem cmpC_any (a b : Int) (w : World) : Calls Tryz.prog 215 #[.int .i64 a, .int .i64 b] w fun e w' => e = .returned (.int .i64 (cmpI a b)) ∧ w = w' := by
  have hN := fun a w => nanC_any a w
  unfold cmpI
  by_cases h1 : a < b
  · rw [if_pos h1]
    go_enter Tryz.func215, Tryz.ntmps215
    go_wp2_with fail
    refine (hN _ _).mono ?_
    rintro _ _ ⟨rfl, rfl⟩
    go_wp2_with fail
    refine (hN _ _).mono ?_
    rintro _ _ ⟨rfl, rfl⟩
    go_wp2_with fail
    go_ret
    exact ⟨rfl, rfl⟩
  · rw [if_neg h1]
    by_cases h2 : b < a
    · rw [if_pos h2]
      go_enter Tryz.func215, Tryz.ntmps215
      go_wp2_with fail
      refine (hN _ _).mono ?_
      rintro _ _ ⟨rfl, rfl⟩
      go_wp2_with fail
      refine (hN _ _).mono ?_
      rintro _ _ ⟨rfl, rfl⟩
      go_wp2_with fail
      go_ret
      exact ⟨rfl, rfl⟩
    · rw [if_neg h2]
      go_enter Tryz.func215, Tryz.ntmps215
      go_wp2_with fail
      refine (hN _ _).mono ?_
      rintro _ _ ⟨rfl, rfl⟩
      go_wp2_with fail
      refine (hN _ _).mono ?_
      rintro _ _ ⟨rfl, rfl⟩
      go_wp2_with fail
      go_ret
      exact ⟨rfl, rfl⟩
theorem cmpU_any (a b : Int) (w : World) : Calls Tryz.prog 216 #[.int .u64 a, .int .u64 b] w fun e w' => e = .returned (.int .i64 (cmpI a b)) ∧ w = w' := by
  have hN := fun a w => nanU_any a w
  unfold cmpI
  by_cases h1 : a < b
  · rw [if_pos h1]
    go_enter Tryz.func216, Tryz.ntmps216
    go_wp2_with fail
    refine (hN _ _).mono ?_
    rintro _ _ ⟨rfl, rfl⟩
    go_wp2_with fail
    refine (hN _ _).mono ?_
    rintro _ _ ⟨rfl, rfl⟩
    go_wp2_with fail
    go_ret
    exact ⟨rfl, rfl⟩
  · rw [if_neg h1]
    by_cases h2 : b < a
    · rw [if_pos h2]
      go_enter Tryz.func216, Tryz.ntmps216
      go_wp2_with fail
      refine (hN _ _).mono ?_
      rintro _ _ ⟨rfl, rfl⟩
      go_wp2_with fail
      refine (hN _ _).mono ?_
      rintro _ _ ⟨rfl, rfl⟩
      go_wp2_with fail
      go_ret
      exact ⟨rfl, rfl⟩
    · rw [if_neg h2]
      go_enter Tryz.func216, Tryz.ntmps216
      go_wp2_with fail
      refine (hN _ _).mono ?_
      rintro _ _ ⟨rfl, rfl⟩
      go_wp2_with fail
      refine (hN _ _).mono ?_
      rintro _ _ ⟨rfl, rfl⟩
      go_wp2_with fail
      go_ret
      exact ⟨rfl, rfl⟩
def orI (x y : Int) : Int := if x = 0 then y else x
theorem Or_two (g : Nat) (x y : Int) (w : World) (c0 : w.cell? ⟨g, 0, none⟩ = some (.int .i64 x)) (c1 : w.cell? ⟨g, 1, none⟩ = some (.int .i64 y)) :
    Calls Tryz.prog 214 #[.slice (some ⟨g, 0, none⟩) 2 2] w fun e w' => e = .returned (.int .i64 (orI x y)) ∧ w = w' := by
  obtain ⟨z, hz⟩ : ∃ z, orI x y = z := ⟨_, rfl⟩
  rw [hz]
  have HZ := Lib.hid hz
  clear hz
  go_enter Tryz.func214, Tryz.ntmps214
  go_wp2_with fail
  go_loopw [5, 8] (fun _ i wr => w = wr ∧ (i = .int .i64 0 ∨ (i = .int .i64 1 ∧ x = 0) ∨ (i = .int .i64 2 ∧ x = 0 ∧ y = 0))) (fun _ i _ => 3 - (intOf i).toNat)
  case atStart => exact ⟨rfl, .inl rfl⟩
  case round =>
    obtain ⟨rfl, hrel⟩ := hrel
    rcases hrel with rfl | ⟨rfl, hx⟩ | ⟨rfl, hx, hy⟩
    · by_cases hx : x = 0
      · subst hx
        go_wp2_with fail
        exact ⟨⟨trivial, by simp⟩, by decide⟩
      · have h2 : (x != 0) = true := by simpa using hx
        have e : Hid (x = z) := by
          rw [← HZ.out]
          show x = orI x y
          unfold orI
          rw [if_neg hx]
        clear HZ
        go_wp2_with fail
        go_ret
        exact ⟨by rw [← e.out]; rfl, rfl⟩
    · subst hx
      have e : Hid (y = z) := by
        rw [← HZ.out]
        show y = orI 0 y
        unfold orI
        rw [if_pos rfl]
      clear HZ
      by_cases hy : y = 0
      · subst hy
        go_wp2_with fail
        exact ⟨⟨trivial, by simp⟩, by decide⟩
      · have h2 : (y != 0) = true := by simpa using hy
        go_wp2_with fail
        go_ret
        exact ⟨by rw [← e.out]; rfl, rfl⟩
    · subst hx hy
      have e : Hid (0 = z) := by
        rw [← HZ.out]
        rfl
      clear HZ
      go_wp2_with fail
      go_ret
      exact ⟨by rw [← e.out]; rfl, rfl⟩
theorem still_left {P : Program} {f : FuncId} {args : Array Value} {w : World} {v : Value} (h : Calls P f args w fun e w' => e = .returned v ∧ w = w') : Calls P f args w fun e w'' => e = .returned v ∧ w'' = w :=
  h.mono fun _ _ ⟨e, h⟩ => ⟨e, h.symm⟩
/-- is a pair below another one? -/
def lessP (p q : Int × Int) : Bool := decide (orI (cmpI p.2 q.2) (cmpI (IntKind.u64.wrap p.1) (IntKind.u64.wrap q.1)) < 0)
set_option maxRecDepth 100000 in
set_option maxHeartbeats 4000000 in
theorem Less_any (p q : Int × Int) (w : World) : Calls Tryz.prog 123 #[pairW p, pairW q] w fun e w' => e = .returned (.bool (lessP p q)) ∧ Touch [] w w' := by
  obtain ⟨a, b⟩ := p
  obtain ⟨c, d⟩ := q
  unfold lessP
  simp only []
  have hC := fun w => cmpC_any b d w
  have hU := fun w => cmpU_any (IntKind.u64.wrap a) (IntKind.u64.wrap c) w
  obtain ⟨x, hx⟩ : ∃ x, cmpI b d = x := ⟨_, rfl⟩
  obtain ⟨y, hy⟩ : ∃ x, cmpI (IntKind.u64.wrap a) (IntKind.u64.wrap c) = x := ⟨_, rfl⟩
  rw [hx] at hC ⊢
  rw [hy] at hU ⊢
  clear hx hy
  have hO := fun g w h1 h2 => Or_two g x y w h1 h2
  obtain ⟨z, hz⟩ : ∃ z, orI x y = z := ⟨_, rfl⟩
  rw [hz] at hO ⊢
  clear hz
  unfold pairW
  have b1 := ((Blk.new w 38 #[.int .i64 a, .int .i64 b]).alloc (.cells #[.int .i64 c, .int .i64 d] 38)).drew
  have b2 := (Blk.new_at (n := w.heap.size + 1) (w.alloc (.cells #[.int .i64 a, .int .i64 b] 38)) (by simp) 38 #[.int .i64 c, .int .i64 d]).drew
  have x1 := b1.cell 0
  have x2 := b1.cell 1
  have y1 := b2.cell 0
  have y2 := b2.cell 1
  have T0 := ((Touch.refl [] w).alloc (.cells #[.int .i64 a, .int .i64 b] 38)).alloc (.cells #[.int .i64 c, .int .i64 d] 38)
  clear b1 b2
  go_enter Tryz.func123, Tryz.ntmps123
  go_upto_region 1 with fail
  generalize (w.alloc (.cells #[.int .i64 a, .int .i64 b] 38)).alloc (.cells #[.int .i64 c, .int .i64 d] 38) = W2 at *
  have b3 := Blk.new W2.drew 3 #[.int .i64 x, .int .i64 y]
  have z1 := b3.cell 0
  have z2 := b3.cell 1
  have hO := hO _ _ z1 z2
  have T := Lib.hid (T0.drew.alloc (.cells #[.int .i64 x, .int .i64 y] 3))
  clear T0 z1 z2 b3
  go_still_tail 12, (by kernel_rfl)
  still_call (still_left (hC _))
  repeat still_step
  still_call (still_left (hU _))
  repeat still_step
  refine wpStill_nil ?_
  change wpList _ _ _ _ _ W2.drew
  go_wp2_with (go_at_call 214; refine hO.mono ?_; rintro _ _ ⟨rfl, rfl⟩)
  go_ret
  exact ⟨rfl, T.out⟩
def ulessP (p q : Int × Int) : Bool := lessP (p.1, bits .xor .i64 p.2 (-9223372036854775808)) (q.1, bits .xor .i64 q.2 (-9223372036854775808))
set_option maxHeartbeats 1000000 in
theorem ULess_any (p q : Int × Int) (w : World) : Calls Tryz.prog 125 #[pairW p, pairW q] w fun e w' => e = .returned (.bool (ulessP p q)) ∧ Touch [] w w' := by
  obtain ⟨a, b⟩ := p
  obtain ⟨c, d⟩ := q
  unfold ulessP
  simp only []
  have hL := fun w => Less_any (a, bits .xor .i64 b (-9223372036854775808)) (c, bits .xor .i64 d (-9223372036854775808)) w
  obtain ⟨z, hz⟩ : ∃ z, lessP (a, bits .xor .i64 b (-9223372036854775808)) (c, bits .xor .i64 d (-9223372036854775808)) = z := ⟨_, rfl⟩
  rw [hz] at hL ⊢
  clear hz
  unfold pairW at hL ⊢
  go_enter Tryz.func125, Tryz.ntmps125
  go_wp2_with fail
  refine (hL _).mono ?_
  rintro _ w1 ⟨rfl, t1⟩
  have T := Lib.hid (((Touch.refl [] w).alloc _).alloc _ |>.trans t1 (by simp))
  clear t1 hL
  go_wp2_with fail
  go_ret
  exact ⟨rfl, T.out⟩
end Go.Proofs.YtkbchpaofmlhgaaGreatDoor

/- Operations of prim's map of pairs, each at any cells: its functions. Printed by pairops.py. -/
namespace Go.Proofs.YtkbchpaofmlhgaaGreatDoor
open Go.RowKit

theorem b_any (ad n c : Nat) (x y : Int) (w : World) (hn : 4 ≤ n) (h0 : w.cell? ⟨ad, 2, none⟩ = some (.int .i64 x)) (h1 : w.cell? ⟨ad, 3, none⟩ = some (.int .i64 y)) :
    Calls Tryz.prog 109 #[.slice (some ⟨ad, 0, none⟩) n c] w fun e w' => e = .returned (.agg #[.int .i64 x, .int .i64 y]) ∧ Touch [] w w' := by
  have bR := Blk.new w 38 #[.int .i64 0, .int .i64 0]
  have e1 : (3 : Int) < n := by omega
  have e0 : (2 : Int) < n := by omega
  have tR := (Touch.refl [] w).alloc (.cells #[.int .i64 0, .int .i64 0] 38)
  have x0 := cell_quiet tR.drew h0
  have x1 := cell_quiet tR.drew h1
  go_enter Tryz.func109, Tryz.ntmps109
  have bD := bR.drew
  have f0 := bD.frozen 0
  have f1 := bD.frozen 1
  have r0 := bD.cell 0
  have r1 := bD.cell 1
  clear h0 h1 bR tR bD
  go_upto_region 1 with fail
  go_region
  all_goals go_wp2_with fail
  all_goals go_returns
  all_goals exact ⟨rfl, ((Touch.refl [] w).alloc _).drew⟩
theorem pair_eqlT (a b c d : Int) (w : World) : (binOp .eql 38 (.agg #[.int .i64 a, .int .i64 b]) (.agg #[.int .i64 c, .int .i64 d])).run Tryz.prog w = .ok (.bool (a == c && b == d)) w := by
  rw [run_eql_struct, run_equalIn_agg _ _ _ _ _ pair_struct pair_stood]
  simp only [Program.fieldsOf, Tryz.underlying38]
  go_simp
  repeat' split
  all_goals simp_all
set_option maxHeartbeats 1000000 in
theorem ps3 (W : World) (ad c : Nat) (q0 q1 q2 q3 : Int) (c0 : W.cell? ⟨ad, 0, none⟩ = some (.int .i64 q0)) (c1 : W.cell? ⟨ad, 1, none⟩ = some (.int .i64 q1)) (c2 : W.cell? ⟨ad, 2, none⟩ = some (.int .i64 q2)) (c3 : W.cell? ⟨ad, 3, none⟩ = some (.int .i64 q3))  : Calls Tryz.prog 106 #[.slice (some ⟨ad, 0, none⟩) 4 c] W fun e w' => e = .returned (pairW (addP (q0, q1) (q2, q3))) ∧ Touch [] W w' := by
  have hA := fun w (t : Touch [] W w) => a_any ad 4 c q0 q1 w (by decide) (cell_quiet t c0) (cell_quiet t c1)
  have hB := fun w (t : Touch [] W w) => b_any ad 4 c q2 q3 w (by decide) (cell_quiet t c2) (cell_quiet t c3)
  have hO := fun w => Add_any (q0, q1) (q2, q3) w
  obtain ⟨⟨x0, y0⟩, hr0⟩ : ∃ r, addP (q0, q1) (q2, q3) = r := ⟨_, rfl⟩
  rw [hr0] at hO ⊢
  clear hr0
  unfold pairW at hO ⊢
  have H0 := Lib.hid (And.intro (Blk.new W 38 #[.int .i64 0, .int .i64 0]) ((Touch.refl [] W).alloc (.cells #[.int .i64 0, .int .i64 0] 38)))
  clear c0 c1 c2 c3
  go_enter Tryz.func106, Tryz.ntmps106
  go_wp2_with fail
  refine (hA _ H0.out.2).mono ?_
  rintro _ w1 ⟨rfl, t1⟩
  have H1 := Lib.hid (And.intro (H0.out.1.touch t1 (by simp)) (H0.out.2.trans t1 (by simp)))
  clear t1 hA
  go_wp2_with fail
  refine (hB _ H1.out.2).mono ?_
  rintro _ w2 ⟨rfl, t2⟩
  have H2 := Lib.hid (And.intro (H1.out.1.touch t2 (by simp)) (H1.out.2.trans t2 (by simp)))
  clear t2 hB
  go_wp2_with fail
  refine (hO _).mono ?_
  rintro _ w3 ⟨rfl, t3⟩
  have H3 := Lib.hid (And.intro (H2.out.1.touch t3 (by simp)) (H2.out.2.trans t3 (by simp)))
  clear t3 hO
  have b0 := H3.out.1
  have e0 := b0.cell 0
  have e1 := b0.cell 1
  have f0 := b0.frozen 0
  have f1 := b0.frozen 1
  have HB := Lib.hid b0
  clear b0
  go_wp2_with fail
  obtain ⟨z0, z1⟩ := two_back HB.out (.int .i64 x0) (.int .i64 y0)
  refine bodyPost_ret (by simp [results, Tryz.results106, go_sem, z0, z1]; try rfl) rfl ⟨rfl, ?_⟩
  exact (H3.out.2.setCell (.inr (Nat.le_refl _)) _).setCell (.inr (Nat.le_refl _)) _
set_option maxHeartbeats 1000000 in
theorem ps4 (W : World) (ad c : Nat) (q0 q1 q2 q3 : Int) (c0 : W.cell? ⟨ad, 0, none⟩ = some (.int .i64 q0)) (c1 : W.cell? ⟨ad, 1, none⟩ = some (.int .i64 q1)) (c2 : W.cell? ⟨ad, 2, none⟩ = some (.int .i64 q2)) (c3 : W.cell? ⟨ad, 3, none⟩ = some (.int .i64 q3))  : Calls Tryz.prog 110 #[.slice (some ⟨ad, 0, none⟩) 4 c] W fun e w' => e = .returned (pairW (addP (q0, q1) (negP (q2, q3)))) ∧ Touch [] W w' := by
  have hA := fun w (t : Touch [] W w) => a_any ad 4 c q0 q1 w (by decide) (cell_quiet t c0) (cell_quiet t c1)
  have hB := fun w (t : Touch [] W w) => b_any ad 4 c q2 q3 w (by decide) (cell_quiet t c2) (cell_quiet t c3)
  have hN := fun w => Neg_any (q2, q3) w
  have hO := fun w => Add_any (q0, q1) (negP (q2, q3)) w
  obtain ⟨⟨x1, y1⟩, hr1⟩ : ∃ r, negP (q2, q3) = r := ⟨_, rfl⟩
  rw [hr1] at hN hO ⊢
  clear hr1
  obtain ⟨⟨x0, y0⟩, hr0⟩ : ∃ r, addP (q0, q1) (x1, y1) = r := ⟨_, rfl⟩
  rw [hr0] at hO ⊢
  clear hr0
  unfold pairW at hN hO ⊢
  have H0 := Lib.hid (And.intro (Blk.new W 38 #[.int .i64 0, .int .i64 0]) ((Touch.refl [] W).alloc (.cells #[.int .i64 0, .int .i64 0] 38)))
  clear c0 c1 c2 c3
  go_enter Tryz.func110, Tryz.ntmps110
  go_wp2_with fail
  refine (hA _ H0.out.2).mono ?_
  rintro _ w1 ⟨rfl, t1⟩
  have H1 := Lib.hid (And.intro (H0.out.1.touch t1 (by simp)) (H0.out.2.trans t1 (by simp)))
  clear t1 hA
  go_wp2_with fail
  refine (hB _ H1.out.2).mono ?_
  rintro _ w2 ⟨rfl, t2⟩
  have H2 := Lib.hid (And.intro (H1.out.1.touch t2 (by simp)) (H1.out.2.trans t2 (by simp)))
  clear t2 hB
  go_wp2_with fail
  refine (hN _).mono ?_
  rintro _ w3 ⟨rfl, t3⟩
  have H3 := Lib.hid (And.intro (H2.out.1.touch t3 (by simp)) (H2.out.2.trans t3 (by simp)))
  clear t3 hN
  go_wp2_with fail
  refine (hO _).mono ?_
  rintro _ w4 ⟨rfl, t4⟩
  have H4 := Lib.hid (And.intro (H3.out.1.touch t4 (by simp)) (H3.out.2.trans t4 (by simp)))
  clear t4 hO
  have b0 := H4.out.1
  have e0 := b0.cell 0
  have e1 := b0.cell 1
  have f0 := b0.frozen 0
  have f1 := b0.frozen 1
  have HB := Lib.hid b0
  clear b0
  go_wp2_with fail
  obtain ⟨z0, z1⟩ := two_back HB.out (.int .i64 x0) (.int .i64 y0)
  refine bodyPost_ret (by simp [results, Tryz.results110, go_sem, z0, z1]; try rfl) rfl ⟨rfl, ?_⟩
  exact (H4.out.2.setCell (.inr (Nat.le_refl _)) _).setCell (.inr (Nat.le_refl _)) _
set_option maxHeartbeats 1000000 in
theorem ps5 (W : World) (ad c : Nat) (q0 q1 : Int) (c0 : W.cell? ⟨ad, 0, none⟩ = some (.int .i64 q0)) (c1 : W.cell? ⟨ad, 1, none⟩ = some (.int .i64 q1))  : Calls Tryz.prog 112 #[.slice (some ⟨ad, 0, none⟩) 2 c] W fun e w' => e = .returned (pairW (negP (q0, q1))) ∧ Touch [] W w' := by
  have hA := fun w (t : Touch [] W w) => a_any ad 2 c q0 q1 w (by decide) (cell_quiet t c0) (cell_quiet t c1)
  have hO := fun w => Neg_any (q0, q1) w
  obtain ⟨⟨x0, y0⟩, hr0⟩ : ∃ r, negP (q0, q1) = r := ⟨_, rfl⟩
  rw [hr0] at hO ⊢
  clear hr0
  unfold pairW at hO ⊢
  have H0 := Lib.hid (And.intro (Blk.new W 38 #[.int .i64 0, .int .i64 0]) ((Touch.refl [] W).alloc (.cells #[.int .i64 0, .int .i64 0] 38)))
  clear c0 c1
  go_enter Tryz.func112, Tryz.ntmps112
  go_wp2_with fail
  refine (hA _ H0.out.2).mono ?_
  rintro _ w1 ⟨rfl, t1⟩
  have H1 := Lib.hid (And.intro (H0.out.1.touch t1 (by simp)) (H0.out.2.trans t1 (by simp)))
  clear t1 hA
  go_wp2_with fail
  refine (hO _).mono ?_
  rintro _ w2 ⟨rfl, t2⟩
  have H2 := Lib.hid (And.intro (H1.out.1.touch t2 (by simp)) (H1.out.2.trans t2 (by simp)))
  clear t2 hO
  have b0 := H2.out.1
  have e0 := b0.cell 0
  have e1 := b0.cell 1
  have f0 := b0.frozen 0
  have f1 := b0.frozen 1
  have HB := Lib.hid b0
  clear b0
  go_wp2_with fail
  obtain ⟨z0, z1⟩ := two_back HB.out (.int .i64 x0) (.int .i64 y0)
  refine bodyPost_ret (by simp [results, Tryz.results112, go_sem, z0, z1]; try rfl) rfl ⟨rfl, ?_⟩
  exact (H2.out.2.setCell (.inr (Nat.le_refl _)) _).setCell (.inr (Nat.le_refl _)) _
set_option maxHeartbeats 1000000 in
theorem ps6 (W : World) (ad c : Nat) (q0 q1 : Int) (c0 : W.cell? ⟨ad, 0, none⟩ = some (.int .i64 q0)) (c1 : W.cell? ⟨ad, 1, none⟩ = some (.int .i64 q1))  : Calls Tryz.prog 113 #[.slice (some ⟨ad, 0, none⟩) 2 c] W fun e w' => e = .returned (pairW (twiceP (q0, q1))) ∧ Touch [] W w' := by
  have hA := fun w (t : Touch [] W w) => a_any ad 2 c q0 q1 w (by decide) (cell_quiet t c0) (cell_quiet t c1)
  have hO := fun w => Twice_any (q0, q1) w
  obtain ⟨⟨x0, y0⟩, hr0⟩ : ∃ r, twiceP (q0, q1) = r := ⟨_, rfl⟩
  rw [hr0] at hO ⊢
  clear hr0
  unfold pairW at hO ⊢
  have H0 := Lib.hid (And.intro (Blk.new W 38 #[.int .i64 0, .int .i64 0]) ((Touch.refl [] W).alloc (.cells #[.int .i64 0, .int .i64 0] 38)))
  clear c0 c1
  go_enter Tryz.func113, Tryz.ntmps113
  go_wp2_with fail
  refine (hA _ H0.out.2).mono ?_
  rintro _ w1 ⟨rfl, t1⟩
  have H1 := Lib.hid (And.intro (H0.out.1.touch t1 (by simp)) (H0.out.2.trans t1 (by simp)))
  clear t1 hA
  go_wp2_with fail
  refine (hO _).mono ?_
  rintro _ w2 ⟨rfl, t2⟩
  have H2 := Lib.hid (And.intro (H1.out.1.touch t2 (by simp)) (H1.out.2.trans t2 (by simp)))
  clear t2 hO
  have b0 := H2.out.1
  have e0 := b0.cell 0
  have e1 := b0.cell 1
  have f0 := b0.frozen 0
  have f1 := b0.frozen 1
  have HB := Lib.hid b0
  clear b0
  go_wp2_with fail
  obtain ⟨z0, z1⟩ := two_back HB.out (.int .i64 x0) (.int .i64 y0)
  refine bodyPost_ret (by simp [results, Tryz.results113, go_sem, z0, z1]; try rfl) rfl ⟨rfl, ?_⟩
  exact (H2.out.2.setCell (.inr (Nat.le_refl _)) _).setCell (.inr (Nat.le_refl _)) _
set_option maxHeartbeats 1000000 in
theorem ps7 (W : World) (ad c : Nat) (q0 q1 : Int) (c0 : W.cell? ⟨ad, 0, none⟩ = some (.int .i64 q0)) (c1 : W.cell? ⟨ad, 1, none⟩ = some (.int .i64 q1))  : Calls Tryz.prog 115 #[.slice (some ⟨ad, 0, none⟩) 2 c] W fun e w' => e = .returned (pairW (halfP (q0, q1))) ∧ Touch [] W w' := by
  have hA := fun w (t : Touch [] W w) => a_any ad 2 c q0 q1 w (by decide) (cell_quiet t c0) (cell_quiet t c1)
  have hO := fun w => Half_any (q0, q1) w
  obtain ⟨⟨x0, y0⟩, hr0⟩ : ∃ r, halfP (q0, q1) = r := ⟨_, rfl⟩
  rw [hr0] at hO ⊢
  clear hr0
  unfold pairW at hO ⊢
  have H0 := Lib.hid (And.intro (Blk.new W 38 #[.int .i64 0, .int .i64 0]) ((Touch.refl [] W).alloc (.cells #[.int .i64 0, .int .i64 0] 38)))
  clear c0 c1
  go_enter Tryz.func115, Tryz.ntmps115
  go_wp2_with fail
  refine (hA _ H0.out.2).mono ?_
  rintro _ w1 ⟨rfl, t1⟩
  have H1 := Lib.hid (And.intro (H0.out.1.touch t1 (by simp)) (H0.out.2.trans t1 (by simp)))
  clear t1 hA
  go_wp2_with fail
  refine (hO _).mono ?_
  rintro _ w2 ⟨rfl, t2⟩
  have H2 := Lib.hid (And.intro (H1.out.1.touch t2 (by simp)) (H1.out.2.trans t2 (by simp)))
  clear t2 hO
  have b0 := H2.out.1
  have e0 := b0.cell 0
  have e1 := b0.cell 1
  have f0 := b0.frozen 0
  have f1 := b0.frozen 1
  have HB := Lib.hid b0
  clear b0
  go_wp2_with fail
  obtain ⟨z0, z1⟩ := two_back HB.out (.int .i64 x0) (.int .i64 y0)
  refine bodyPost_ret (by simp [results, Tryz.results115, go_sem, z0, z1]; try rfl) rfl ⟨rfl, ?_⟩
  exact (H2.out.2.setCell (.inr (Nat.le_refl _)) _).setCell (.inr (Nat.le_refl _)) _
set_option maxHeartbeats 1000000 in
theorem ps2 (W : World) (ad c : Nat) (q0 : Int) (c0 : W.cell? ⟨ad, 0, none⟩ = some (.int .i64 q0))  : Calls Tryz.prog 104 #[.slice (some ⟨ad, 0, none⟩) 1 c] W fun e w' => e = .returned (pairW (ofP q0)) ∧ Touch [] W w' := by
  have hO := fun w => Of_any q0 w
  obtain ⟨⟨x0, y0⟩, hr0⟩ : ∃ r, ofP q0 = r := ⟨_, rfl⟩
  rw [hr0] at hO ⊢
  clear hr0
  unfold pairW at hO ⊢
  have r0 := cell_quiet ((Touch.refl [] W).alloc (.cells #[.int .i64 0, .int .i64 0] 38)) c0
  have H0 := Lib.hid (And.intro (Blk.new W 38 #[.int .i64 0, .int .i64 0]) ((Touch.refl [] W).alloc (.cells #[.int .i64 0, .int .i64 0] 38)))
  clear c0
  go_enter Tryz.func104, Tryz.ntmps104
  go_wp2_with fail
  refine (hO _).mono ?_
  rintro _ w1 ⟨rfl, t1⟩
  have H1 := Lib.hid (And.intro (H0.out.1.touch t1 (by simp)) (H0.out.2.trans t1 (by simp)))
  clear t1 hO
  have b0 := H1.out.1
  have e0 := b0.cell 0
  have e1 := b0.cell 1
  have f0 := b0.frozen 0
  have f1 := b0.frozen 1
  have HB := Lib.hid b0
  clear b0
  go_wp2_with fail
  obtain ⟨z0, z1⟩ := two_back HB.out (.int .i64 x0) (.int .i64 y0)
  refine bodyPost_ret (by simp [results, Tryz.results104, go_sem, z0, z1]; try rfl) rfl ⟨rfl, ?_⟩
  exact (H1.out.2.setCell (.inr (Nat.le_refl _)) _).setCell (.inr (Nat.le_refl _)) _
set_option maxHeartbeats 1000000 in
theorem ps8 (W : World) (ad c : Nat) (q0 q1 : Int) (c0 : W.cell? ⟨ad, 0, none⟩ = some (.int .i64 q0)) (c1 : W.cell? ⟨ad, 1, none⟩ = some (.int .i64 q1))  : Calls Tryz.prog 117 #[.slice (some ⟨ad, 0, none⟩) 2 c] W fun e w' => e = .returned (pairW (mulP q0 q1)) ∧ Touch [] W w' := by
  have hO := fun w => Mul_any q0 q1 w
  obtain ⟨⟨x0, y0⟩, hr0⟩ : ∃ r, mulP q0 q1 = r := ⟨_, rfl⟩
  rw [hr0] at hO ⊢
  clear hr0
  unfold pairW at hO ⊢
  have bR := Blk.new W 38 #[.int .i64 0, .int .i64 0]
  have tR := (Touch.refl [] W).alloc (.cells #[.int .i64 0, .int .i64 0] 38)
  have r0 := cell_quiet tR.drew c0
  have r1 := cell_quiet tR.drew c1
  have H0 := Lib.hid (And.intro bR.drew tR.drew)
  clear c0 c1 bR tR
  go_enter Tryz.func117, Tryz.ntmps117
  go_upto_region 1 with fail
  go_region_with (go_at_call 102; refine (hO _).mono ?_; rintro _ w1 ⟨rfl, t1⟩; have b1 := H0.out.1.touch t1 (by simp); have T1 := Lib.hid (H0.out.2.trans t1 (by simp)); have e0 := b1.cell 0; have e1 := b1.cell 1; have f0 := b1.frozen 0; have f1 := b1.frozen 1; have HB := Lib.hid b1; clear b1 t1)
  all_goals go_wp2_with fail
  all_goals obtain ⟨z0, z1⟩ := two_back HB.out (.int .i64 x0) (.int .i64 y0)
  all_goals refine bodyPost_ret (by simp [results, Tryz.results117, go_sem, z0, z1]; try rfl) rfl ⟨rfl, ?_⟩
  all_goals exact (T1.out.setCell (.inr (Nat.le_refl _)) _).setCell (.inr (Nat.le_refl _)) _
set_option maxHeartbeats 1000000 in
theorem ps9 (W : World) (ad c : Nat) (q0 q1 : Int) (c0 : W.cell? ⟨ad, 0, none⟩ = some (.int .i64 q0)) (c1 : W.cell? ⟨ad, 1, none⟩ = some (.int .i64 q1))  : Calls Tryz.prog 118 #[.slice (some ⟨ad, 0, none⟩) 2 c] W fun e w' => e = .returned (pairW (umulP q0 q1)) ∧ Touch [] W w' := by
  have hO := fun w => UMul_any q0 q1 w
  obtain ⟨⟨x0, y0⟩, hr0⟩ : ∃ r, umulP q0 q1 = r := ⟨_, rfl⟩
  rw [hr0] at hO ⊢
  clear hr0
  unfold pairW at hO ⊢
  have bR := Blk.new W 38 #[.int .i64 0, .int .i64 0]
  have tR := (Touch.refl [] W).alloc (.cells #[.int .i64 0, .int .i64 0] 38)
  have r0 := cell_quiet tR.drew c0
  have r1 := cell_quiet tR.drew c1
  have H0 := Lib.hid (And.intro bR.drew tR.drew)
  clear c0 c1 bR tR
  go_enter Tryz.func118, Tryz.ntmps118
  go_upto_region 1 with fail
  go_region_with (go_at_call 119; refine (hO _).mono ?_; rintro _ w1 ⟨rfl, t1⟩; have b1 := H0.out.1.touch t1 (by simp); have T1 := Lib.hid (H0.out.2.trans t1 (by simp)); have e0 := b1.cell 0; have e1 := b1.cell 1; have f0 := b1.frozen 0; have f1 := b1.frozen 1; have HB := Lib.hid b1; clear b1 t1)
  all_goals go_wp2_with fail
  all_goals obtain ⟨z0, z1⟩ := two_back HB.out (.int .i64 x0) (.int .i64 y0)
  all_goals refine bodyPost_ret (by simp [results, Tryz.results118, go_sem, z0, z1]; try rfl) rfl ⟨rfl, ?_⟩
  all_goals exact (T1.out.setCell (.inr (Nat.le_refl _)) _).setCell (.inr (Nat.le_refl _)) _
set_option maxHeartbeats 1000000 in
theorem ps11 (W : World) (ad c : Nat) (q0 q1 q2 q3 : Int) (c0 : W.cell? ⟨ad, 0, none⟩ = some (.int .i64 q0)) (c1 : W.cell? ⟨ad, 1, none⟩ = some (.int .i64 q1)) (c2 : W.cell? ⟨ad, 2, none⟩ = some (.int .i64 q2)) (c3 : W.cell? ⟨ad, 3, none⟩ = some (.int .i64 q3))  : Calls Tryz.prog 122 #[.slice (some ⟨ad, 0, none⟩) 4 c] W fun e w' => e = .returned (.int .i64 (truthF (lessP (q0, q1) (q2, q3)))) ∧ Touch [] W w' := by
  have hA := fun w (t : Touch [] W w) => a_any ad 4 c q0 q1 w (by decide) (cell_quiet t c0) (cell_quiet t c1)
  have hB := fun w (t : Touch [] W w) => b_any ad 4 c q2 q3 w (by decide) (cell_quiet t c2) (cell_quiet t c3)
  have hL := fun w => Less_any (q0, q1) (q2, q3) w
  have hT := fun b w => Truth_any b w
  obtain ⟨z, hz⟩ : ∃ z, lessP (q0, q1) (q2, q3) = z := ⟨_, rfl⟩
  rw [hz] at hL ⊢
  clear hz
  unfold pairW at hL
  have H0 := Lib.hid (Touch.refl [] W)
  clear c0 c1 c2 c3
  go_enter Tryz.func122, Tryz.ntmps122
  go_wp2_with fail
  refine (hA _ H0.out).mono ?_
  rintro _ w1 ⟨rfl, t1⟩
  have H1 := Lib.hid (H0.out.trans t1 (by simp))
  clear t1 hA
  go_wp2_with fail
  refine (hB _ H1.out).mono ?_
  rintro _ w2 ⟨rfl, t2⟩
  have H2 := Lib.hid (H1.out.trans t2 (by simp))
  clear t2 hB
  go_wp2_with fail
  refine (hL _).mono ?_
  rintro _ w3 ⟨rfl, t3⟩
  have H3 := Lib.hid (H2.out.trans t3 (by simp))
  clear t3 hL
  go_wp2_with fail
  refine (hT _ _).mono ?_
  rintro _ _ ⟨rfl, rfl⟩
  have H4 := Lib.hid H3.out
  go_wp2_with fail
  go_ret
  exact ⟨rfl, H4.out⟩
set_option maxHeartbeats 1000000 in
theorem ps12 (W : World) (ad c : Nat) (q0 q1 q2 q3 : Int) (c0 : W.cell? ⟨ad, 0, none⟩ = some (.int .i64 q0)) (c1 : W.cell? ⟨ad, 1, none⟩ = some (.int .i64 q1)) (c2 : W.cell? ⟨ad, 2, none⟩ = some (.int .i64 q2)) (c3 : W.cell? ⟨ad, 3, none⟩ = some (.int .i64 q3))  : Calls Tryz.prog 124 #[.slice (some ⟨ad, 0, none⟩) 4 c] W fun e w' => e = .returned (.int .i64 (truthF (ulessP (q0, q1) (q2, q3)))) ∧ Touch [] W w' := by
  have hA := fun w (t : Touch [] W w) => a_any ad 4 c q0 q1 w (by decide) (cell_quiet t c0) (cell_quiet t c1)
  have hB := fun w (t : Touch [] W w) => b_any ad 4 c q2 q3 w (by decide) (cell_quiet t c2) (cell_quiet t c3)
  have hL := fun w => ULess_any (q0, q1) (q2, q3) w
  have hT := fun b w => Truth_any b w
  obtain ⟨z, hz⟩ : ∃ z, ulessP (q0, q1) (q2, q3) = z := ⟨_, rfl⟩
  rw [hz] at hL ⊢
  clear hz
  unfold pairW at hL
  have H0 := Lib.hid (Touch.refl [] W)
  clear c0 c1 c2 c3
  go_enter Tryz.func124, Tryz.ntmps124
  go_wp2_with fail
  refine (hA _ H0.out).mono ?_
  rintro _ w1 ⟨rfl, t1⟩
  have H1 := Lib.hid (H0.out.trans t1 (by simp))
  clear t1 hA
  go_wp2_with fail
  refine (hB _ H1.out).mono ?_
  rintro _ w2 ⟨rfl, t2⟩
  have H2 := Lib.hid (H1.out.trans t2 (by simp))
  clear t2 hB
  go_wp2_with fail
  refine (hL _).mono ?_
  rintro _ w3 ⟨rfl, t3⟩
  have H3 := Lib.hid (H2.out.trans t3 (by simp))
  clear t3 hL
  go_wp2_with fail
  refine (hT _ _).mono ?_
  rintro _ _ ⟨rfl, rfl⟩
  have H4 := Lib.hid H3.out
  go_wp2_with fail
  go_ret
  exact ⟨rfl, H4.out⟩
set_option maxHeartbeats 1000000 in
theorem ps13 (W : World) (ad c : Nat) (q0 q1 q2 q3 : Int) (c0 : W.cell? ⟨ad, 0, none⟩ = some (.int .i64 q0)) (c1 : W.cell? ⟨ad, 1, none⟩ = some (.int .i64 q1)) (c2 : W.cell? ⟨ad, 2, none⟩ = some (.int .i64 q2)) (c3 : W.cell? ⟨ad, 3, none⟩ = some (.int .i64 q3))  : Calls Tryz.prog 126 #[.slice (some ⟨ad, 0, none⟩) 4 c] W fun e w' => e = .returned (.int .i64 (truthF (q0 == q2 && q1 == q3))) ∧ Touch [] W w' := by
  have hA := fun w (t : Touch [] W w) => a_any ad 4 c q0 q1 w (by decide) (cell_quiet t c0) (cell_quiet t c1)
  have hB := fun w (t : Touch [] W w) => b_any ad 4 c q2 q3 w (by decide) (cell_quiet t c2) (cell_quiet t c3)
  have hT := fun b w => Truth_any b w
  have hE := fun w => pair_eqlT q0 q1 q2 q3 w
  have H0 := Lib.hid (Touch.refl [] W)
  clear c0 c1 c2 c3
  go_enter Tryz.func126, Tryz.ntmps126
  go_wp2_with fail
  refine (hA _ H0.out).mono ?_
  rintro _ w1 ⟨rfl, t1⟩
  have H1 := Lib.hid (H0.out.trans t1 (by simp))
  clear t1 hA
  go_wp2_with fail
  refine (hB _ H1.out).mono ?_
  rintro _ w2 ⟨rfl, t2⟩
  have H2 := Lib.hid (H1.out.trans t2 (by simp))
  clear t2 hB
  go_wp2_with fail
  refine (hT _ _).mono ?_
  rintro _ _ ⟨rfl, rfl⟩
  have H3 := Lib.hid H2.out
  go_wp2_with fail
  go_ret
  exact ⟨rfl, H3.out⟩
set_option maxHeartbeats 1000000 in
theorem ps10 (W : World) (ad c : Nat) (q0 q1 : Int) (c0 : W.cell? ⟨ad, 0, none⟩ = some (.int .i64 q0)) (c1 : W.cell? ⟨ad, 1, none⟩ = some (.int .i64 q1))  : Calls Tryz.prog 120 #[.slice (some ⟨ad, 0, none⟩) 2 c] W fun e w' => e = .returned (pairW (if q1 < 0 then negP (q0, q1) else (q0, q1))) ∧ Touch [] W w' := by
  have hA := fun w (t : Touch [] W w) => a_any ad 2 c q0 q1 w (by decide) (cell_quiet t c0) (cell_quiet t c1)
  have hN := fun w => Neg_any (q0, q1) w
  by_cases h : q1 < 0
  · rw [if_pos h]
    obtain ⟨⟨x0, y0⟩, hr0⟩ : ∃ r, negP (q0, q1) = r := ⟨_, rfl⟩
    rw [hr0] at hN ⊢
    clear hr0
    unfold pairW at hN ⊢
    have r1 := cell_quiet ((Touch.refl [] W).alloc (.cells #[.int .i64 0, .int .i64 0] 38)) c1
    have H0 := Lib.hid (And.intro (Blk.new W 38 #[.int .i64 0, .int .i64 0]) ((Touch.refl [] W).alloc (.cells #[.int .i64 0, .int .i64 0] 38)))
    clear c0 c1
    go_enter Tryz.func120, Tryz.ntmps120
    go_wp2_with fail
    refine (hA _ H0.out.2).mono ?_
    rintro _ w1 ⟨rfl, t1⟩
    have H1 := Lib.hid (And.intro (H0.out.1.touch t1 (by simp)) (H0.out.2.trans t1 (by simp)))
    clear t1 hA
    go_wp2_with fail
    refine (hN _).mono ?_
    rintro _ w2 ⟨rfl, t2⟩
    have H2 := Lib.hid (And.intro (H1.out.1.touch t2 (by simp)) (H1.out.2.trans t2 (by simp)))
    clear t2 hN
    have b0 := H2.out.1
    have e0 := b0.cell 0
    have e1 := b0.cell 1
    have f0 := b0.frozen 0
    have f1 := b0.frozen 1
    have HB := Lib.hid b0
    clear b0
    go_wp2_with fail
    obtain ⟨z0, z1⟩ := two_back HB.out (.int .i64 x0) (.int .i64 y0)
    refine bodyPost_ret (by simp [results, Tryz.results120, go_sem, z0, z1]; try rfl) rfl ⟨rfl, ?_⟩
    exact (H2.out.2.setCell (.inr (Nat.le_refl _)) _).setCell (.inr (Nat.le_refl _)) _
  · rw [if_neg h]
    clear hN
    unfold pairW
    have r1 := cell_quiet ((Touch.refl [] W).alloc (.cells #[.int .i64 0, .int .i64 0] 38)) c1
    have H0 := Lib.hid (And.intro (Blk.new W 38 #[.int .i64 0, .int .i64 0]) ((Touch.refl [] W).alloc (.cells #[.int .i64 0, .int .i64 0] 38)))
    clear c0 c1
    go_enter Tryz.func120, Tryz.ntmps120
    go_wp2_with fail
    refine (hA _ H0.out.2).mono ?_
    rintro _ w1 ⟨rfl, t1⟩
    have H1 := Lib.hid (And.intro (H0.out.1.touch t1 (by simp)) (H0.out.2.trans t1 (by simp)))
    clear t1 hA
    have b0 := H1.out.1
    have e0 := b0.cell 0
    have e1 := b0.cell 1
    have f0 := b0.frozen 0
    have f1 := b0.frozen 1
    have HB := Lib.hid b0
    clear b0
    go_wp2_with fail
    obtain ⟨z0, z1⟩ := two_back HB.out (.int .i64 q0) (.int .i64 q1)
    refine bodyPost_ret (by simp [results, Tryz.results120, go_sem, z0, z1]; try rfl) rfl ⟨rfl, ?_⟩
    exact (H1.out.2.setCell (.inr (Nat.le_refl _)) _).setCell (.inr (Nat.le_refl _)) _
end Go.Proofs.YtkbchpaofmlhgaaGreatDoor
