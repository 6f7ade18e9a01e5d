import Derived.Test.YtkbchpaofmlhgaaGreatDoorJPairT
import Derived.Test.YtkbchpaofmlhgaaGreatDoorJHoldA
/- Operations of prim's map of pairs: what each does, from what its function tells. -/
namespace Go.Proofs.YtkbchpaofmlhgaaGreatDoor
open Go.RowKit

theorem OpSem.pre {op : Int} {n : Nat} {p q : List Int → PS → Prop} {act : List Int → PS → (List Int × Int) × PS} (h : OpSem op n p act) (hq : ∀ l S, l.length = n → q l S → p l S) : OpSem op n q act := by
  intro W B s F S t f first cap l lv hok hS hF hfd
  obtain ⟨h1, h2, h3⟩ := h W B s F S t f first cap l lv hok hS hF hfd
  exact ⟨h1, h2, fun hl hp hc => h3 hl (hq l S hl hp) hc⟩
theorem found_pairs {B s m : Nat} {op : Int} {v : Value} {W : World} (h : FoundAt B s m op v W) (h1 : memoryOp op = 0) (h2 : saysOp op = 0) : ∃ b C, B ≤ C ∧ B ≤ b ∧ pairsPV C b (pairsOp op) v W ∧ Blk W b 144 #[.func (.func 100) #[] #[]] := by
  rcases h with ⟨b, C, k1, k2, h3, h4⟩ | ⟨b, C, _, _, ⟨h3, _⟩, _⟩ | ⟨b, C, _, _, ⟨h3, _⟩, _⟩
  · exact ⟨b, C, k1, k2, h3.2, h4⟩
  · exact absurd h1 h3
  · exact absurd h2 h3
section
variable {W : World} {s : Nat} {F : List Nat} {S S' : PS} {g : Nat} {fn : FuncId} {first cap : Array Value} {lv : Value} {x y z : Int}
theorem wide_clo (hb : Blk W g 147 #[.func (.func fn) first cap]) (hE : Enters Tryz.prog fn)
    (h : Calls Tryz.prog fn (first ++ #[lv] ++ cap) W fun e w' => e = .returned (pairW (x, y)) ∧ Done W s F S S' w') : Calls Tryz.prog 208 (#[] ++ #[lv] ++ #[.pointer (some ⟨g, 0, none⟩)]) W (ActDone W s F S (([x, y], 0), S')) := by
  have c0 := hb.cell 0
  have hent : ∀ (args : Array Value) (w : World), (callFunc fn args).run Tryz.prog w = .ok (.enter fn args) w := hE
  clear hb hE
  unfold pairW at h
  show Calls Tryz.prog 208 #[lv, .pointer (some ⟨g, 0, none⟩)] W _
  go_enter Tryz.func208, Tryz.ntmps208
  go_wp2_with fail
  refine h.mono ?_
  rintro _ w1 ⟨rfl, hd⟩
  have HD := Lib.hid hd
  clear h hd
  go_wp2_with fail
  go_ret2
  exact ⟨_, rfl, CellsAt.blk (cs := [x, y]) (Blk.new_at (n := w1.heap.size + 1) (w1.alloc (.cells #[.int .i64 x, .int .i64 y] 38)) (by simp) 36 (cells [x, y]).toArray) 2, (HD.out.alloc _).alloc _⟩
end

theorem wide_semP (op : Int) (n : Nat) (fn : FuncId) (hE : Enters Tryz.prog fn) (h1 : memoryOp op = 0) (h2 : saysOp op = 0) (f : List Int → Int × Int)
    (hP : ∀ C b v W, pairsPV C b (pairsOp op) v W → ActAt C n 208 147 (.func (.func fn) #[] #[]) v W)
    (hf : ∀ W l lv, AllC l → l.length = n → CellsG W lv l → Calls Tryz.prog fn #[lv] W fun e w' => e = .returned (pairW (f l)) ∧ Touch [] W w') :
    OpSem op n (fun l _ => AllC l) (fun l S => (([(f l).1, (f l).2], 0), S)) := by
  intro W B s F S t f' first cap l lv hok hS hF hfd
  obtain ⟨b, C, hC, hb, hA, hB⟩ := found_pairs hfd h1 h2
  obtain ⟨g, _, hg, rfl, rfl, rfl, rfl⟩ := act_open (hP _ _ _ _ hA) (Nat.zero_le _)
  refine ⟨rfl, enters_of Tryz.func208 (by kernel_rfl) rfl, fun hl hpre hc => ActDone.post (wide_clo hg hE ?_)⟩
  exact (hf W l lv hpre hl hc).mono fun e w' ⟨h, t⟩ => ⟨h, Done.self hS t⟩
theorem gives_semP (op : Int) (n : Nat) (fn : FuncId) (hE : Enters Tryz.prog fn) (h1 : memoryOp op = 0) (h2 : saysOp op = 0) (f : List Int → Int)
    (hP : ∀ C b v W, pairsPV C b (pairsOp op) v W → ActAt C n 213 149 (.func (.func fn) #[] #[]) v W)
    (hf : ∀ W l lv, AllC l → l.length = n → CellsG W lv l → Calls Tryz.prog fn #[lv] W fun e w' => e = .returned (.int .i64 (f l)) ∧ Touch [] W w') :
    OpSem op n (fun l _ => AllC l) (fun l S => (([f l], 0), S)) := by
  intro W B s F S t f' first cap l lv hok hS hF hfd
  obtain ⟨b, C, hC, hb, hA, hB⟩ := found_pairs hfd h1 h2
  obtain ⟨g, _, hg, rfl, rfl, rfl, rfl⟩ := act_open (hP _ _ _ _ hA) (Nat.zero_le _)
  refine ⟨rfl, enters_of Tryz.func213 (by kernel_rfl) rfl, fun hl hpre hc => ActDone.post (gives_clo hg hE ?_)⟩
  exact (hf W l lv hpre hl hc).mono fun e w' ⟨h, t⟩ => ⟨h, Done.self hS t⟩
theorem may_semP (op : Int) (n : Nat) (fn : FuncId) (hE : Enters Tryz.prog fn) (h1 : memoryOp op = 0) (h2 : saysOp op = 0) (f : List Int → Int × Int)
    (hP : ∀ C b v W, pairsPV C b (pairsOp op) v W → ActAt C n 94 124 (.func (.func fn) #[] #[]) v W)
    (hf : ∀ W l lv, AllC l → l.length = n → CellsG W lv l → Calls Tryz.prog fn #[lv] W fun e w' => e = .returned (.tuple #[.int .i64 (f l).1, .int .i64 (f l).2]) ∧ Touch [] W w') :
    OpSem op n (fun l _ => AllC l) (fun l S => (([(f l).1], (f l).2), S)) := by
  intro W B s F S t f' first cap l lv hok hS hF hfd
  obtain ⟨b, C, hC, hb, hA, hB⟩ := found_pairs hfd h1 h2
  obtain ⟨g, _, hg, rfl, rfl, rfl, rfl⟩ := act_open (hP _ _ _ _ hA) (Nat.zero_le _)
  refine ⟨rfl, enters_of Tryz.func94 (by kernel_rfl) rfl, fun hl hpre hc => ActDone.post (may_clo hg hE ?_)⟩
  exact (hf W l lv hpre hl hc).mono fun e w' ⟨h, t⟩ => ⟨h, Done.self hS t⟩
theorem mayb_semP (op : Int) (n : Nat) (fn : FuncId) (hE : Enters Tryz.prog fn) (h1 : memoryOp op = 0) (h2 : saysOp op = 0) (f : List Int → Int × Int)
    (hP : ∀ C b v W, pairsPV C b (pairsOp op) v W → ActAt C n 94 124 (.func (.func fn) #[] #[.pointer (some ⟨b, 0, none⟩)]) v W)
    (hf : ∀ W l lv b, AllC l → l.length = n → CellsG W lv l → Blk W b 144 #[.func (.func 100) #[] #[]] → Calls Tryz.prog fn #[lv, .pointer (some ⟨b, 0, none⟩)] W fun e w' => e = .returned (.tuple #[.int .i64 (f l).1, .int .i64 (f l).2]) ∧ Touch [] W w') :
    OpSem op n (fun l _ => AllC l) (fun l S => (([(f l).1], (f l).2), S)) := by
  intro W B s F S t f' first cap l lv hok hS hF hfd
  obtain ⟨b, C, hC, hb, hA, hB⟩ := found_pairs hfd h1 h2
  obtain ⟨g, _, hg, rfl, rfl, rfl, rfl⟩ := act_open (hP _ _ _ _ hA) (Nat.zero_le _)
  refine ⟨rfl, enters_of Tryz.func94 (by kernel_rfl) rfl, fun hl hpre hc => ActDone.post (may_clo hg hE ?_)⟩
  exact (hf W l lv b hpre hl hc hB).mono fun e w' ⟨h, t⟩ => ⟨h, Done.self hS t⟩
theorem divides_semP (op : Int) (n : Nat) (fn : FuncId) (hE : Enters Tryz.prog fn) (h1 : memoryOp op = 0) (h2 : saysOp op = 0) (f : List Int → (Int × Int) × Int)
    (hP : ∀ C b v W, pairsPV C b (pairsOp op) v W → ActAt C n 217 144 (.func (.func fn) #[] #[]) v W)
    (hf : ∀ W l lv, AllC l → l.length = n → CellsG W lv l → Calls Tryz.prog fn #[lv] W fun e w' => e = .returned (.tuple #[.int .i64 (f l).1.1, .int .i64 (f l).1.2, .int .i64 (f l).2]) ∧ Touch [] W w') :
    OpSem op n (fun l _ => AllC l) (fun l S => (([(f l).1.1, (f l).1.2], (f l).2), S)) := by
  intro W B s F S t f' first cap l lv hok hS hF hfd
  obtain ⟨b, C, hC, hb, hA, hB⟩ := found_pairs hfd h1 h2
  obtain ⟨g, _, hg, rfl, rfl, rfl, rfl⟩ := act_open (hP _ _ _ _ hA) (Nat.zero_le _)
  refine ⟨rfl, enters_of Tryz.func217 (by kernel_rfl) rfl, fun hl hpre hc => ActDone.post (divides_clo hg hE ?_)⟩
  exact (hf W l lv hpre hl hc).mono fun e w' ⟨h, t⟩ => ⟨h, Done.self hS t⟩
end Go.Proofs.YtkbchpaofmlhgaaGreatDoor
