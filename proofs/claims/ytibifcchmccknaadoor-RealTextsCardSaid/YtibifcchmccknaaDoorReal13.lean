/- Number at 0p0 and at what is no number; the parts of a text that Text makes. -/
import Derived.Test.YtibifcchmccknaaDoorReal12
namespace Go.Proofs.YtibifcchmccknaaDoor
open Go.RowKit

set_option maxHeartbeats 6400000 in
set_option maxRecDepth 100000 in
theorem number_zero (s rest hd tl tl2 : ByteArray) (sg : Bool) (hP : Parts s rest hd tl tl2 sg false 0 0) (w : World) (hM : MaxIs w) :
    Calls Tryd.prog 18 #[.string s] w fun e w' => e = .returned (.tuple #[.int .i64 (madeOf (Ieee.double.word sg 0)), .bool true]) ∧ Touch [] w w' := by
  have hcs := fun W => copysign_any 0 (by omega) W
  have hword : Ieee.double.word true 0 = 9223372036854775808 := by decide
  have hmade := fun W => made_any (Ieee.double.word sg 0) (by cases sg <;> decide) W
  have c1 := hP.c1
  have c2 := fun W => hP.c2 W
  have c3 := hP.c3
  have c4 := hP.c4
  have c5 := hP.c5
  clear hP
  rw [Int.natCast_zero] at c4 c5
  go_enter Tryd.func18, Tryd.ntmps18
  go_wp2_with fail
  refine (c1 _).mono ?_
  rintro _ _ ⟨rfl, rfl⟩
  go_wp2_with fail
  refine (c2 _ hM).mono ?_
  rintro _ w2 ⟨rfl, t2⟩
  go_wp2_with fail
  refine (c3 _).mono ?_
  rintro _ _ ⟨rfl, rfl⟩
  go_wp2_with fail
  refine (c4 _).mono ?_
  rintro _ w3 ⟨rfl, t3⟩
  have t4 := t2.trans t3 (by simp)
  clear t2 t3
  go_wp2_with fail
  refine (c5 _).mono ?_
  rintro _ w5 ⟨rfl, t5⟩
  have t6 := t4.trans t5 (by simp)
  clear t4 t5 c1 c2 c3 c4 c5
  rcases sg with _ | _
  · rw [Fl.word_false] at hmade
    go_wp2_with fail
    refine (hmade _).mono ?_
    rintro _ _ ⟨rfl, rfl⟩
    go_wp2_with fail
    go_ret2
    exact ⟨ret2 (vint (by rw [Fl.word_false])) rfl, t6⟩
  · rw [hword] at hmade
    go_wp2_with fail
    refine (hcs _).mono ?_
    rintro _ _ ⟨rfl, rfl⟩
    go_wp2_with fail
    refine (hmade _).mono ?_
    rintro _ _ ⟨rfl, rfl⟩
    go_wp2_with fail
    go_ret2
    exact ⟨ret2 (vint (by rw [hword])) rfl, t6⟩

/-- a text without the letter between -/
structure NoParts (s rest tl2 : ByteArray) (sg under : Bool) : Prop where
  c1 : ∀ W, Calls Tryd.prog 27 #[.string s, .string ⟨#[45]⟩] W fun e w' => e = .returned (.tuple #[.string rest, .bool sg]) ∧ W = w'
  c2 : ∀ W, MaxIs W → Calls Tryd.prog 28 #[.string rest, .string ⟨#[112]⟩] W fun e w' => e = .returned (.tuple #[.string rest, .string ⟨#[]⟩, .bool false]) ∧ Touch [] W w'
  c3 : ∀ W, Calls Tryd.prog 27 #[.string ⟨#[]⟩, .string ⟨#[45]⟩] W fun e w' => e = .returned (.tuple #[.string tl2, .bool under]) ∧ W = w'
  c4 : ∀ W, (∃ ev, W.cell? ⟨4, 0, none⟩ = some ev ∧ (ev = .nilIface ∨ ∃ te pe, ev = .iface te pe)) → Calls Tryd.prog 29 #[.string rest, .int .i64 16] W fun e w' => e = .returned (.tuple #[.int .i64 0, .bool false]) ∧ Touch [] W w'
  c5 : ∀ W, (∃ ev, W.cell? ⟨4, 0, none⟩ = some ev ∧ (ev = .nilIface ∨ ∃ te pe, ev = .iface te pe)) → Calls Tryd.prog 29 #[.string tl2, .int .i64 4] W fun e w' => e = .returned (.tuple #[.int .i64 0, .bool false]) ∧ Touch [] W w'
/-- ErrSyntax holds an error or none -/
def ErrIs (W : World) : Prop := ∃ ev, W.cell? ⟨4, 0, none⟩ = some ev ∧ (ev = .nilIface ∨ ∃ te pe, ev = .iface te pe)
theorem ErrIs.touch {w w' : World} (h : ErrIs w) (ht : Touch [] w w') : ErrIs w' := by
  obtain ⟨ev, hm, hev⟩ := h
  refine ⟨ev, ?_, hev⟩
  have hlt : 4 < w.heap.size := by
    rcases Nat.lt_or_ge 4 w.heap.size with h' | h'
    · exact h'
    · rw [World.cell?] at hm
      simp [Array.getElem?_eq_none h'] at hm
  rw [ht.cell (p := ⟨4, 0, none⟩) hlt (by simp)]
  exact hm

set_option maxHeartbeats 6400000 in
set_option maxRecDepth 100000 in
theorem number_none (s rest tl2 : ByteArray) (sg under : Bool) (hP : NoParts s rest tl2 sg under) (w : World) (hM : MaxIs w) (hE : ErrIs w) :
    Calls Tryd.prog 18 #[.string s] w fun e w' => e = .returned (.tuple #[.int .i64 0, .bool false]) ∧ Touch [] w w' := by
  have HM := Lib.hid hM
  have HE := Lib.hid hE
  have c1 := hP.c1
  have c2 := fun W => hP.c2 W
  have c3 := hP.c3
  have c4 : ∀ W, ErrIs W → Calls _ _ _ W _ := hP.c4
  have c5 : ∀ W, ErrIs W → Calls _ _ _ W _ := hP.c5
  clear hP hM hE
  go_enter Tryd.func18, Tryd.ntmps18
  go_wp2_with fail
  refine (c1 _).mono ?_
  rintro _ _ ⟨rfl, rfl⟩
  go_wp2_with fail
  refine (c2 _ HM.out).mono ?_
  rintro _ w2 ⟨rfl, t2⟩
  go_wp2_with fail
  refine (c3 _).mono ?_
  rintro _ _ ⟨rfl, rfl⟩
  go_wp2_with fail
  refine (c4 _ (HE.out.touch t2)).mono ?_
  rintro _ w3 ⟨rfl, t3⟩
  have t4 := t2.trans t3 (by simp)
  clear t2 t3
  go_wp2_with fail
  refine (c5 _ (HE.out.touch t4)).mono ?_
  rintro _ w5 ⟨rfl, t5⟩
  have t6 := t4.trans t5 (by simp)
  clear t4 t5 c1 c2 c3 c4 c5
  go_wp2_with fail
  go_ret2
  exact ⟨rfl, t6⟩

end Go.Proofs.YtibifcchmccknaaDoor
