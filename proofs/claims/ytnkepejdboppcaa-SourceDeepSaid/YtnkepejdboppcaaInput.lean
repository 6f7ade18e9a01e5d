/- The contracts of source.Input's methods: an Input in memory, and what each method makes of it. -/
import Derived.Test.YtnkepejdboppcaaScan
import Derived.Test.YtnkepejdboppcaaWorld
import Derived.Deep.RegionLaw
import Derived.Deep.QuietTactic
import Derived.BigQuiet
import Derived.Lib.SliceRun
namespace Go.Proofs.Ytnkepejdboppcaa
open Go.RowKit

theorem own : ownKnob Try.prog.godebug = none := by kernel_rfl
theorem info_one : (Try.prog.info? 45).map (fun i => (i.zero, i.size, i.bytes)) = some (some (.agg #[.string .empty, .int .i64 0, .int .i64 0]), 3, 32) := by kernel_rfl

/-- a source -/
structure One where
  text : ByteArray
  id : Nat
  on : Nat
def One.cells (o : One) : List Value := [.string o.text, .int .i64 o.id, .int .i64 o.on]
theorem One.cells_one (o : One) : ∀ u ∈ o.cells, u.oneCell' = true := by
  intro u hu; simp [One.cells] at hu; rcases hu with rfl | rfl | rfl <;> rfl
def One.none : One := ⟨.empty, 0, 0⟩
/-- sources, the last one being read, those ahead of it (the undermost first), and how many there were -/
structure Ins where
  cur : One
  outer : List One
  many : Nat

def inCells (S : Ins) (v : Value) : Array Value := #[.string S.cur.text, .int .i64 S.cur.id, .int .i64 S.cur.on, v, .int .i64 S.outer.length, .int .i64 S.many]
/-- an Input lies at block b, over the blocks F, and holds S -/
def InAt (w : World) (b : Nat) (F : List Nat) (S : Ins) : Prop :=
  ∃ v, Blk w b 48 (inCells S v) ∧ F = b :: rowOf v ∧ b ∉ rowOf v ∧ w.ownsRow 0 45 3 v S.outer.length (S.outer.flatMap One.cells)

structure Ins.ok (S : Ins) : Prop where
  text : S.cur.text.size ≤ 1000
  on : S.cur.on ≤ S.cur.text.size
  id : S.cur.id ≤ S.many
  outer : ∀ o, o ∈ S.outer → o.text.size ≤ 1000 ∧ o.on ≤ o.text.size ∧ o.id ≤ S.many
  deep : S.outer.length ≤ 8
  many : S.many ≤ 1000000

/-- the six cells, read and free to be written -/
structure Six (w : World) (b : Nat) (S : Ins) (v : Value) : Prop where
  c0 : w.cell? ⟨b, 0, none⟩ = some (.string S.cur.text)
  c1 : w.cell? ⟨b, 1, none⟩ = some (.int .i64 S.cur.id)
  c2 : w.cell? ⟨b, 2, none⟩ = some (.int .i64 S.cur.on)
  c3 : w.cell? ⟨b, 3, none⟩ = some v
  c4 : w.cell? ⟨b, 4, none⟩ = some (.int .i64 S.outer.length)
  c5 : w.cell? ⟨b, 5, none⟩ = some (.int .i64 S.many)
  f0 : w.frozen? ⟨b, 0, none⟩ = false
  f1 : w.frozen? ⟨b, 1, none⟩ = false
  f2 : w.frozen? ⟨b, 2, none⟩ = false
  f3 : w.frozen? ⟨b, 3, none⟩ = false
  f4 : w.frozen? ⟨b, 4, none⟩ = false
  f5 : w.frozen? ⟨b, 5, none⟩ = false
theorem six {w : World} {b : Nat} {S : Ins} {v : Value} (h : Blk w b 48 (inCells S v)) : Six w b S v :=
  ⟨h.cell 0, h.cell 1, h.cell 2, h.cell 3, h.cell 4, h.cell 5, h.frozen 0, h.frozen 1, h.frozen 2, h.frozen 3, h.frozen 4, h.frozen 5⟩

theorem InAt.touch {w w' : World} {b : Nat} {F G : List Nat} {S : Ins} (h : InAt w b F S) (ht : Touch G w w') (hn : ∀ f, f ∈ F → f ∉ G) : InAt w' b F S := by
  obtain ⟨v, hb, rfl, hnb, hr⟩ := h
  exact ⟨v, hb.touch ht (hn b (by simp)), rfl, hnb, row_touch hr ht fun g hg => hn g (by simp [hg])⟩
theorem InAt.lt {w : World} {b : Nat} {F : List Nat} {S : Ins} (h : InAt w b F S) : ∀ f, f ∈ F → f < w.heap.size := by
  obtain ⟨v, hb, rfl, hnb, hr⟩ := h
  intro f hf
  rcases List.mem_cons.1 hf with rfl | hf
  · exact hb.lt
  · exact row_lt hr hf
theorem InAt.drewN {w : World} {b : Nat} {F : List Nat} {S : Ins} (h : InAt w b F S) (n : Nat) : InAt (w.drewN n) b F S := h

/-- what a method leaves -/
def Left (w : World) (b : Nat) (F : List Nat) (S : Ins) (w' : World) : Prop := ∃ F', InAt w' b F' S ∧ Touch F w w' ∧ Sub w F F'

/-- the place turned -/
theorem in_on {w : World} {b : Nat} {S : Ins} {v : Value} (hb : Blk w b 48 (inCells S v)) (hnb : b ∉ rowOf v) (hr : w.ownsRow 0 45 3 v S.outer.length (S.outer.flatMap One.cells)) (i : Int) (n : Nat) (hi : i = n) :
    Left w b (b :: rowOf v) { S with cur := { S.cur with on := n } } (w.setCell ⟨b, 2, none⟩ (.int .i64 i)) := by
  subst hi
  have ht : Touch [b] w (w.setCell ⟨b, 2, none⟩ (.int .i64 n)) := (Touch.refl _ _).setCell (by simp) _
  exact ⟨_, ⟨v, hb.set_ 2 _, rfl, hnb, row_touch hr ht fun g hg => by simp; rintro rfl; exact hnb hg⟩, ht.mono (by simp), Sub.refl _ _⟩

theorem Left.of_drewN {w w' : World} {b : Nat} {F : List Nat} {S : Ins} {n : Nat} (h : Left (w.drewN n) b F S w') : Left w b F S w' := by
  obtain ⟨F', h1, h2, h3⟩ := h
  exact ⟨F', h1, ⟨h2.os, h2.tape, h2.output, h2.size, h2.block⟩, h3⟩
theorem in_read {w : World} {b : Nat} {S : Ins} {v : Value} (hb : Blk w b 48 (inCells S v)) (hnb : b ∉ rowOf v) (hr : w.ownsRow 0 45 3 v S.outer.length (S.outer.flatMap One.cells)) (k n : Nat) :
    Left w b (b :: rowOf v) { S with cur := { S.cur with on := n } } ((w.drewN k).setCell ⟨b, 2, none⟩ (.int .i64 n)) :=
  (in_on (w := w.drewN k) hb hnb hr _ n rfl).of_drewN

theorem New_any (w : World) : Calls Try.prog 8 #[] w fun e w' => e = .returned (.pointer (some ⟨w.heap.size, 0, none⟩)) ∧ w.alloc (.cells (inCells ⟨.none, [], 0⟩ (.slice none 0 0)) 48) = w' := by
  go_enter Try.func8, Try.ntmps8
  go_wp2
  go_ret
  exact ⟨rfl, rfl⟩

theorem Depth_any (w : World) (b : Nat) (F : List Nat) (S : Ins) (h : InAt w b F S) : Calls Try.prog 14 #[.pointer (some ⟨b, 0, none⟩)] w fun e w' => e = .returned (.int .i64 S.outer.length) ∧ w = w' := by
  obtain ⟨v, hb, rfl, hnb, hr⟩ := h
  obtain ⟨c0, c1, c2, c3, c4, c5, f0, f1, f2, f3, f4, f5⟩ := six hb
  go_enter Try.func14, Try.ntmps14
  go_wp2
  go_ret
  exact ⟨rfl, rfl⟩
theorem Text_any (w : World) (b : Nat) (F : List Nat) (S : Ins) (h : InAt w b F S) : Calls Try.prog 15 #[.pointer (some ⟨b, 0, none⟩)] w fun e w' => e = .returned (.string S.cur.text) ∧ w = w' := by
  obtain ⟨v, hb, rfl, hnb, hr⟩ := h
  obtain ⟨c0, c1, c2, c3, c4, c5, f0, f1, f2, f3, f4, f5⟩ := six hb
  go_enter Try.func15, Try.ntmps15
  go_wp2
  go_ret
  exact ⟨rfl, rfl⟩
theorem In_any (w : World) (b : Nat) (F : List Nat) (S : Ins) (h : InAt w b F S) : Calls Try.prog 16 #[.pointer (some ⟨b, 0, none⟩)] w fun e w' => e = .returned (.int .i64 S.cur.on) ∧ w = w' := by
  obtain ⟨v, hb, rfl, hnb, hr⟩ := h
  obtain ⟨c0, c1, c2, c3, c4, c5, f0, f1, f2, f3, f4, f5⟩ := six hb
  go_enter Try.func16, Try.ntmps16
  go_wp2
  go_ret
  exact ⟨rfl, rfl⟩
theorem Save_any (w : World) (b : Nat) (F : List Nat) (S : Ins) (h : InAt w b F S) : Calls Try.prog 13 #[.pointer (some ⟨b, 0, none⟩)] w fun e w' => e = .returned (.tuple #[.int .i64 S.cur.id, .int .i64 S.cur.on]) ∧ ∃ n, w.drewN n = w' := by
  obtain ⟨v, hb, rfl, hnb, hr⟩ := h
  obtain ⟨c0, c1, c2, c3, c4, c5, f0, f1, f2, f3, f4, f5⟩ := six hb
  go_enter Try.func13, Try.ntmps13
  go_wp2
  go_quiet (fail)
  go_wp2
  go_ret2
  exact ⟨rfl, _, rfl⟩

theorem Seek_any (w : World) (b : Nat) (F : List Nat) (S : Ins) (h : InAt w b F S) (i : Int) (hm : S.cur.text.size ≤ 1000) :
    Calls Try.prog 18 #[.pointer (some ⟨b, 0, none⟩), .int .i64 i] w fun e w' => e = .returned (.tuple #[]) ∧ Left w b F { S with cur := { S.cur with on := heldAt S.cur.text i } } w' := by
  obtain ⟨v, hb, rfl, hnb, hr⟩ := h
  obtain ⟨c0, c1, c2, c3, c4, c5, f0, f1, f2, f3, f4, f5⟩ := six hb
  go_enter Try.func18, Try.ntmps18
  go_wp2
  all_goals go_end0
  all_goals refine ⟨rfl, in_on hb hnb hr _ _ ?_⟩
  all_goals (unfold heldAt; omega)

set_option maxHeartbeats 400000 in
theorem read_word (w : World) (b : Nat) (F : List Nat) (S : Ins) (h : InAt w b F S) (hm : S.cur.text.size ≤ 1000) :
    Calls Try.prog 20 #[.pointer (some ⟨b, 0, none⟩), .func (Fn.func 21) #[] #[]] w fun e w' => e = .returned (.string (wordS S.cur.text S.cur.on)) ∧ Left w b F { S with cur := { S.cur with on := wordN S.cur.text S.cur.on } } w' := by
  obtain ⟨v, hb, rfl, hnb, hr⟩ := h
  obtain ⟨c0, c1, c2, c3, c4, c5, f0, f1, f2, f3, f4, f5⟩ := six hb
  go_enter Try.func20, Try.ntmps20
  go_wp2_with fail
  go_quiet ((go_at_call 21; exact quiet_left (Word_any _ _ _ (by omega))))
  go_wp2
  go_ret
  exact ⟨rfl, in_read hb hnb hr _ _⟩
set_option maxHeartbeats 400000 in
theorem Word_in (w : World) (b : Nat) (F : List Nat) (S : Ins) (h : InAt w b F S) (hm : S.cur.text.size ≤ 1000) :
    Calls Try.prog 10 #[.pointer (some ⟨b, 0, none⟩)] w fun e w' => e = .returned (.string (wordS S.cur.text S.cur.on)) ∧ Left w b F { S with cur := { S.cur with on := wordN S.cur.text S.cur.on } } w' := by
  obtain ⟨v, hb, rfl, hnb, hr⟩ := h
  obtain ⟨c0, c1, c2, c3, c4, c5, f0, f1, f2, f3, f4, f5⟩ := six hb
  go_enter Try.func10, Try.ntmps10
  go_wp2_with (go_at_call 20; refine (read_word _ b _ S ⟨v, hb, rfl, hnb, hr⟩ hm).mono ?_; rintro e w' ⟨rfl, hL⟩)
  go_ret
  exact ⟨rfl, hL⟩

def Ins.open_ (S : Ins) (s : ByteArray) : Ins := ⟨⟨s, S.many + 1, 0⟩, S.outer ++ [S.cur], S.many + 1⟩

theorem Blk.to {w : World} {g : Nat} {t : TypeId} {cs cs' : Array Value} (h : Blk w g t cs) (e : cs = cs') : Blk w g t cs' := e ▸ h
theorem cast_succ (n : Nat) : Value.int .i64 ((n + 1 : Nat) : Int) = .int .i64 ((n : Int) + 1) := by rw [Int.natCast_add]; rfl
theorem open_end {w w1 : World} {b : Nat} {S : Ins} {v : Value} {g cap : Nat} (s : ByteArray) (hb : Blk w b 48 (inCells S v)) (hnb : b ∉ rowOf v)
    {o : Obj} (hown : w1.ownsRow 0 45 3 (.slice (some ⟨g, 0, none⟩) (S.outer.length + 1) cap) (S.outer.length + 1) (S.outer.flatMap One.cells ++ S.cur.cells))
    (hgr : (w.alloc o).drew.grownBy w1 v.ownBlock) (hat : v.ownBlock = some g ∨ g = (w.alloc o).drew.heap.size) (_hlt : g < w1.heap.size) :
    Left w b (b :: rowOf v) (S.open_ s) ((((((w1.setCell ⟨b, 3, none⟩ (.slice (some ⟨g, 0, none⟩) (S.outer.length + 1) cap)).setCell ⟨b, 5, none⟩ (.int .i64 ((S.many : Int) + 1))).setCell ⟨b, 4, none⟩ (.int .i64 ((S.outer.length : Int) + 1))).setCell ⟨b, 0, none⟩ (.string s)).setCell ⟨b, 1, none⟩ (.int .i64 ((S.many : Int) + 1))).setCell ⟨b, 2, none⟩ (.int .i64 0)) := by
  have hbl := hb.lt
  have hz : (w.alloc o).drew.heap.size = w.heap.size + 1 := by simp
  have hgb : g ≠ b := by
    rintro rfl
    rcases hat with h | h
    · exact hnb (rowOf_mem.2 h)
    · omega
  have hb1 : Blk w1 b 48 (inCells S v) := ((hb.alloc o).drew).grown hgr (fun e => hnb (rowOf_mem.2 e.symm))
  have h1 : Touch (b :: rowOf v) w w1 := (((Touch.refl _ w).alloc o).drew).grown hgr fun k hk => .inl (by simp [rowOf_mem, hk])
  refine ⟨b :: rowOf (.slice (some ⟨g, 0, none⟩) (S.outer.length + 1) cap), ⟨.slice (some ⟨g, 0, none⟩) (S.outer.length + 1) cap, ?_, rfl, by simp [rowOf]; omega, ?_⟩, ?_, ?_⟩
  · refine ((((((hb1.set_ 3 _).set_ 5 _).set_ 4 _).set_ 0 _).set_ 1 _).set_ 2 _).to ?_
    simp [inCells, Ins.open_]
  · have e : (S.open_ s).outer.flatMap One.cells = S.outer.flatMap One.cells ++ S.cur.cells := by simp [Ins.open_]
    have el : (S.open_ s).outer.length = S.outer.length + 1 := by simp [Ins.open_]
    rw [e, el]
    refine row_touch hown (F := [b]) ?_ (by simp [rowOf]; omega)
    exact ((((((Touch.refl _ _).setCell (by simp) _).setCell (by simp) _).setCell (by simp) _).setCell (by simp) _).setCell (by simp) _).setCell (by simp) _
  · exact (((((h1.setCell (by simp) _).setCell (by simp) _).setCell (by simp) _).setCell (by simp) _).setCell (by simp) _).setCell (by simp) _
  · intro f hf
    simp only [rowOf, List.mem_cons, List.not_mem_nil, or_false] at hf
    rcases hf with rfl | rfl
    · exact .inl (by simp)
    · rcases hat with h | h
      · exact .inl (by simp [rowOf_mem, h])
      · exact .inr (by omega)

set_option maxHeartbeats 800000 in
theorem Open_yes (w : World) (b : Nat) (F : List Nat) (S : Ins) (s : ByteArray) (h : InAt w b F S) (hs : s.size ≤ 1000) (hd : S.outer.length < 8) (hm : S.many < 1000000) :
    Calls Try.prog 9 #[.pointer (some ⟨b, 0, none⟩), .string s] w fun e w' => e = .returned (.int .i64 0) ∧ Left w b F (S.open_ s) w' := by
  obtain ⟨v, hb, rfl, hnb, hr⟩ := h
  obtain ⟨i0, hi, hz0, hz1, hz2⟩ := info_parts info_one
  have HA : Hid (S.outer.length + 1 ≤ maxLen) := by show _ ≤ maxLen; unfold maxLen; omega
  have HB : Hid ((S.outer.length + 1) * 32 ≤ 140737488355328) := by show (S.outer.length + 1) * 32 ≤ 140737488355328; omega
  have HN := Lib.hid (World.news_of_block (heap_alloc_new w (.cells #[.string S.cur.text, .int .i64 S.cur.id, .int .i64 S.cur.on] 45)))
  have HR := Lib.hid hr
  have hbl := hb.lt
  have HV : Hid (some b ≠ v.ownBlock) := fun e => hnb (rowOf_mem.2 e.symm)
  clear hr
  obtain ⟨c0, c1, c2, c3, c4, c5, f0, f1, f2, f3, f4, f5⟩ := six hb
  go_enter Try.func9, Try.ntmps9
  go_wp2_with fail
  go_region_law (refine step_append_lies _ rfl (.tmp 22) (.tmp 27) 46 rfl 0 45 i0 _ 3 32 Try.underlying46 hi hz0 hz1 hz2 rfl (by omega) v S.outer.length (S.outer.flatMap One.cells) (by simp [Act.eval]) (HR.out.alloc _) ⟨w.heap.size, 0, none⟩ 1 1 S.cur.cells (by simp [Act.eval]) rfl HN.out S.cur.cells_one (by omega) HA.out HB.out (Nat.zero_le _) _ rfl ?_; intro g cap w1 hown hgr hat hlt; obtain ⟨d0, d1, d2, d3, d4, d5, g0, g1, g2, g3, g4, g5⟩ := six (((hb.alloc _).drew).grown hgr HV.out); have HG := Lib.hid (And.intro hown (And.intro hgr (And.intro hat hlt))); clear hown hgr hat hlt)
  all_goals go_wp2_with fail
  all_goals go_ret
  all_goals exact ⟨rfl, open_end s hb hnb HG.out.1 HG.out.2.1 HG.out.2.2.1 HG.out.2.2.2⟩

end Go.Proofs.Ytnkepejdboppcaa
