/- The contract of layer 8's head 'shown': it is true, and leaves what was there as it was. -/
import Derived.Test.YtnkepejdboppcaaInput3
namespace Go.Proofs.Ytnkepejdboppcaa
open Go.RowKit

def ins0 : Ins := ⟨.none, [], 0⟩
theorem New_in (w : World) : Calls Try.prog 8 #[] w fun e w' => e = .returned (.pointer (some ⟨w.heap.size, 0, none⟩)) ∧ InAt w' w.heap.size [w.heap.size] ins0 ∧ Touch [] w w' :=
  (New_any w).mono fun e w' ⟨he, hw⟩ => by
    subst hw
    exact ⟨he, ⟨.slice none 0 0, Blk.new _ _ _, rfl, by simp [rowOf], World.ownsRow_nil _ _ _ _⟩, (Touch.refl _ _).alloc _⟩

theorem Word_eq (w : World) (b : Nat) (F : List Nat) (S T : Ins) (x : ByteArray) (h : InAt w b F S) (hm : S.cur.text.size ≤ 1000) (hx : wordS S.cur.text S.cur.on = x) (hT : ({ S with cur := { S.cur with on := wordN S.cur.text S.cur.on } } : Ins) = T) :
    Calls Try.prog 10 #[.pointer (some ⟨b, 0, none⟩)] w fun e w' => e = .returned (.string x) ∧ Left w b F T w' := by
  subst hx hT
  exact Word_in w b F S h hm

def strA : ByteArray := ⟨#[97]⟩
def strB : ByteArray := ⟨#[98]⟩
def strC : ByteArray := ⟨#[99]⟩
def strAB : ByteArray := ⟨#[97, 32, 98]⟩
def s1 : Ins := ⟨⟨strAB, 1, 0⟩, [.none], 1⟩
def s2 : Ins := ⟨⟨strAB, 1, 2⟩, [.none], 1⟩
def s3 : Ins := ⟨⟨strC, 2, 0⟩, [.none, ⟨strAB, 1, 2⟩], 2⟩
def s4 : Ins := ⟨⟨strC, 2, 1⟩, [.none, ⟨strAB, 1, 2⟩], 2⟩
def s5 : Ins := ⟨⟨strAB, 1, 2⟩, [.none], 2⟩
def s6 : Ins := ⟨⟨strAB, 1, 3⟩, [.none], 2⟩
theorem word1 : wordS strAB 0 = strA := str_ext (by decide +kernel)
theorem word1n : wordN strAB 0 = 2 := by decide +kernel
theorem word2 : wordS strC 0 = strC := str_ext (by decide +kernel)
theorem word2n : wordN strC 0 = 1 := by decide +kernel
theorem word3 : wordS strAB 2 = strB := str_ext (by decide +kernel)
theorem word3n : wordN strAB 2 = 3 := by decide +kernel

/-- in order: an Input at b that is all new -/
structure New (B : Nat) (w : World) (b : Nat) (S : Ins) (w' : World) : Prop where
  inn : ∃ F, InAt w' b F S ∧ ∀ f, f ∈ F → B ≤ f
  below : Below B w w'
theorem New.step {B : Nat} {w w1 w2 : World} {b : Nat} {S T : Ins} {F : List Nat} (_h : InAt w1 b F S) (hF : ∀ f, f ∈ F → B ≤ f) (hb : Below B w w1) (hB : B ≤ w.heap.size) (k : Left w1 b F T w2) : New B w b T w2 := by
  obtain ⟨F2, h1, h2, h3⟩ := k
  have hz := hb.size
  exact ⟨⟨F2, h1, fun f hf => by rcases h3 f hf with h4 | h4; exact hF f h4; omega⟩, hb.trans (h2.below (by omega) hF)⟩
theorem New.open_ {B : Nat} {w w1 : World} {b : Nat} {S : Ins} (h : New B w b S w1) (hB : B ≤ w.heap.size) (s : ByteArray) (hs : s.size ≤ 1000) (hd : S.outer.length < 8) (hm : S.many < 1000000) :
    Calls Try.prog 9 #[.pointer (some ⟨b, 0, none⟩), .string s] w1 fun e w' => e = .returned (.int .i64 0) ∧ New B w b (S.open_ s) w' := by
  obtain ⟨⟨F, h1, h2⟩, h3⟩ := h
  exact (Open_yes w1 b F S s h1 hs hd hm).mono fun _ _ ⟨he, hl⟩ => ⟨he, New.step h1 h2 h3 hB hl⟩
theorem New.word {B : Nat} {w w1 : World} {b : Nat} {S : Ins} (h : New B w b S w1) (hB : B ≤ w.heap.size) (hm : S.cur.text.size ≤ 1000) :
    Calls Try.prog 10 #[.pointer (some ⟨b, 0, none⟩)] w1 fun e w' => e = .returned (.string (wordS S.cur.text S.cur.on)) ∧ New B w b { S with cur := { S.cur with on := wordN S.cur.text S.cur.on } } w' := by
  obtain ⟨⟨F, h1, h2⟩, h3⟩ := h
  exact (Word_in w1 b F S h1 hm).mono fun _ _ ⟨he, hl⟩ => ⟨he, New.step h1 h2 h3 hB hl⟩
theorem New.close {B : Nat} {w w1 : World} {b : Nat} {S : Ins} (h : New B w b S w1) (hB : B ≤ w.heap.size) (l : List One) (o : One) (hl : S.outer = l ++ [o]) (hd : l.length < 8) :
    Calls Try.prog 12 #[.pointer (some ⟨b, 0, none⟩)] w1 fun e w' => e = .returned (.int .i64 0) ∧ New B w b (S.close o l) w' := by
  obtain ⟨⟨F, h1, h2⟩, h3⟩ := h
  exact (Close_yes w1 b F S h1 l o hl hd).mono fun _ _ ⟨he, hl⟩ => ⟨he, New.step h1 h2 h3 hB hl⟩
theorem New.new {w w1 : World} (h : InAt w1 w.heap.size [w.heap.size] ins0) (ht : Touch [] w w1) : New w.heap.size w w.heap.size ins0 w1 :=
  ⟨⟨_, h, by simp⟩, ht.below (Nat.le_refl _) (by simp)⟩

set_option maxHeartbeats 800000 in
theorem shown8 (w : World) : Calls Try.prog 7 #[] w fun e w' => e = .returned (.bool true) ∧ Below w.heap.size w w' := by
  go_enter Try.func7, Try.ntmps7
  go_wp2_with fail
  refine (New_in _).mono ?_
  rintro e w1 ⟨rfl, h1, t1⟩
  have n1 := New.new h1 t1
  clear h1 t1
  go_wp2_with fail
  refine (n1.open_ (Nat.le_refl _) strAB (by decide) (by decide) (by decide)).mono ?_
  rintro e w2 ⟨rfl, n2 : New _ w _ s1 w2⟩
  go_wp2_with fail
  have c2 := n2.word (Nat.le_refl _) (by decide)
  rw [show wordS s1.cur.text s1.cur.on = strA from word1, show ({ s1 with cur := { s1.cur with on := wordN s1.cur.text s1.cur.on } } : Ins) = s2 by simp [s1, s2, word1n]] at c2
  refine c2.mono ?_
  clear c2
  rintro e w3 ⟨rfl, n3⟩
  go_wp2_with fail
  refine (n3.open_ (Nat.le_refl _) strC (by decide) (by decide) (by decide)).mono ?_
  rintro e w4 ⟨rfl, n4 : New _ w _ s3 w4⟩
  go_wp2_with fail
  have c4 := n4.word (Nat.le_refl _) (by decide)
  rw [show wordS s3.cur.text s3.cur.on = strC from word2, show ({ s3 with cur := { s3.cur with on := wordN s3.cur.text s3.cur.on } } : Ins) = s4 by simp [s3, s4, word2n]] at c4
  refine c4.mono ?_
  clear c4
  rintro e w5 ⟨rfl, n5⟩
  go_wp2_with fail
  refine (n5.close (Nat.le_refl _) [.none] ⟨strAB, 1, 2⟩ rfl (by decide)).mono ?_
  rintro e w6 ⟨rfl, n6 : New _ w _ s5 w6⟩
  have c6 := n6.word (Nat.le_refl _) (by decide)
  rw [show wordS s5.cur.text s5.cur.on = strB from word3, show ({ s5 with cur := { s5.cur with on := wordN s5.cur.text s5.cur.on } } : Ins) = s6 by simp [s5, s6, word3n]] at c6
  have C6 := Lib.hid c6
  clear c6
  unfold strA strC
  go_wp2_with fail
  refine C6.out.mono ?_
  rintro e w7 ⟨rfl, n7⟩
  unfold strB
  go_wp2_with fail
  go_ret
  exact ⟨rfl, n7.below⟩

end Go.Proofs.Ytnkepejdboppcaa
