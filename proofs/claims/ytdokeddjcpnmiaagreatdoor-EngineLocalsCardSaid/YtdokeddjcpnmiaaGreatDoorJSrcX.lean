import Derived.Test.YtdokeddjcpnmiaaGreatDoorBase
import Derived.Test.YtdokeddjcpnmiaaGreatDoorWorld
import Derived.Deep.RegionLaw
import Derived.Deep.QuietTactic
import Derived.BigQuiet
import Derived.Lib.SliceRun
import Derived.IntWalk
import Derived.Deep.LoopGhost
/- The contracts of scan.rest, scan.find, scan.Word and of the reference's Word, as plain functions of bytes. No condition beyond a text's length. -/
namespace Go.Proofs.YtdokeddjcpnmiaaGreatDoor
open Go.RowKit

/-- a place held within a text -/
def heldAt (s : ByteArray) (i : Int) : Nat := min i.toNat s.size
def restS (s : ByteArray) (i : Int) : ByteArray := s.extract (heldAt s i) s.size

theorem heldAt_le (s : ByteArray) (i : Int) : heldAt s i ≤ s.size := by unfold heldAt; omega
theorem ext_rest (s : ByteArray) (k : Nat) : (s.extract k s.size).data.toList = s.data.toList.drop k := by rw [ext_list, ← str_size, List.take_length]
theorem restS_list (s : ByteArray) (i : Int) : (restS s i).data.toList = s.data.toList.drop (heldAt s i) := by
  unfold restS; rw [ext_list, ← str_size, List.take_length]
theorem restS_of (s : ByteArray) (i : Int) (a : Nat) (h : a = heldAt s i) : s.extract a s.size = restS s i := by rw [h]; rfl

set_option maxHeartbeats 400000 in
theorem rest_any (s : ByteArray) (i : Int) (w : World) (hs : s.size ≤ maxLen) :
    Calls Tryz.prog 91 #[.string s, .int .i64 i] w fun e w' => e = .returned (.tuple #[.string (restS s i), .int .i64 (heldAt s i)]) ∧ w = w' := by
  unfold maxLen at hs
  go_enter Tryz.func91, Tryz.ntmps91
  go_wp2
  all_goals go_ret2
  all_goals refine ⟨?_, rfl⟩
  all_goals refine ret2 (vstr ?_) (vint ?_)
  all_goals first
    | (unfold heldAt; omega)
    | (refine str_ext ?_; rw [restS_list])
  · have e : heldAt s i = s.size := by unfold heldAt; split at * <;> omega
    rw [e, ← str_size, List.drop_length]; rfl
  · have e : heldAt s i = 0 := by unfold heldAt; omega
    rw [e, List.drop_zero]
  · have e : heldAt s i = i.toNat := by unfold heldAt; split at * <;> omega
    rw [e, ext_rest]


/-- find's answer: the first byte that is a blank (or is none); the length, if there is none -/
def findN (is : Bool) (l : List UInt8) : Nat := l.findIdx fun c => (decide (c ≤ 32)) == is
theorem findN_le (is : Bool) (l : List UInt8) : findN is l ≤ l.length := List.findIdx_le_length

/-- Word's answer -/
def wordA (s : ByteArray) (i : Int) : Nat := heldAt s i + findN false (s.data.toList.drop (heldAt s i))
def wordL (s : ByteArray) (i : Int) : Nat := findN true (s.data.toList.drop (wordA s i))
def wordS (s : ByteArray) (i : Int) : ByteArray := s.extract (wordA s i) (wordA s i + wordL s i)
def wordN (s : ByteArray) (i : Int) : Nat := min (wordA s i + wordL s i + 1) s.size

theorem findN_at (is : Bool) (l : List UInt8) (k : Nat) (h : ∃ c, l[k]? = some c ∧ ((decide (c ≤ 32)) == is) = true)
    (hb : ∀ j, j < k → ∀ c, l[j]? = some c → ((decide (c ≤ 32)) == is) = false) : findN is l = k := by
  obtain ⟨c, hc, ht⟩ := h
  obtain ⟨hk, rfl⟩ := List.getElem?_eq_some_iff.1 hc
  unfold findN
  rw [List.findIdx_eq hk]
  exact ⟨ht, fun j hj => hb j hj _ (List.getElem?_eq_getElem (by omega))⟩
theorem findN_none (is : Bool) (l : List UInt8) (hb : ∀ (j : Nat) (c : UInt8), l[j]? = some c → ((decide (c ≤ 32)) == is) = false) : findN is l = l.length := by
  unfold findN
  rw [List.findIdx_eq_length]
  intro c hc
  obtain ⟨j, hj⟩ := List.getElem?_of_mem hc
  exact hb j c hj

set_option maxHeartbeats 400000 in
theorem scanFind_any (s : ByteArray) (is : Bool) (w : World) (hs : s.size ≤ maxLen) :
    Calls Tryz.prog 92 #[.string s, .bool is] w fun e w' => e = .returned (.int .i64 (findN is s.data.toList)) ∧ w = w' := by
  unfold maxLen at hs
  go_enter Tryz.func92, Tryz.ntmps92
  go_wp2
  go_loop [8] (fun i => ∃ k : Nat, k ≤ s.size ∧ i = .int .i64 k ∧ ∀ j, j < k → ∀ c, s.data.toList[j]? = some c → ((decide (c ≤ 32)) == is) = false) (fun i => s.size - (intOf i).toNat)
  case atStart => exact ⟨0, Nat.zero_le _, rfl, fun j h => by omega⟩
  case round =>
    obtain ⟨k, hk, rfl, hb⟩ := hrel
    have HB := Lib.hid hb
    clear hb
    by_cases hlt : k < s.size
    · have HG := Lib.hid (str_get s k hlt)
      have HD : Hid (decide ((s[k].toNat : Int) ≤ 32) = decide (s[k] ≤ 32)) := by
        show _ = _
        rw [decide_eq_decide, UInt8.le_iff_toNat_le]; exact ⟨fun h => Int.ofNat_le.1 h, fun h => Int.ofNat_le.2 h⟩
      rcases Bool.eq_false_or_eq_true (decide ((s[k].toNat : Int) ≤ 32) == is) with ht | ht
      · go_wp2
        go_ret
        refine ⟨ret1 (vint ?_), rfl⟩
        rw [HD.out] at ht
        have e : findN is s.data.toList = k := findN_at is _ k (by rw [HG.out]; exact ⟨_, rfl, ht⟩) HB.out
        rw [e]
      · go_wp2
        refine ⟨⟨k + 1, by omega, by go_num, fun j hj c hc => ?_⟩, by simp [intOf]; omega⟩
        rcases Nat.lt_or_ge j k with h1 | h1
        · exact HB.out j h1 c hc
        · obtain rfl : j = k := by omega
          rw [HG.out] at hc
          obtain rfl := Option.some.inj hc
          rw [← HD.out]
          exact ht
    · go_wp2
      go_ret
      refine ⟨ret1 (vint ?_), rfl⟩
      have e : findN is s.data.toList = s.size := by
        rw [← str_size]
        refine findN_none is _ fun j c hj => HB.out j ?_ c hj
        have := str_size s
        have := (List.getElem?_eq_some_iff.1 hj).1
        omega
      rw [e]

/-- what rest and find tell, said of names -/
structure RestIs (s : ByteArray) (i : Int) (r : ByteArray) (h : Nat) : Prop where
  at_ : h = heldAt s i
  list : r.data.toList = s.data.toList.drop h
  size : r.size = s.size - h
theorem rest_is (s : ByteArray) (i : Int) (w : World) (hs : s.size ≤ maxLen) :
    Calls Tryz.prog 91 #[.string s, .int .i64 i] w fun e w' => ∃ r h, RestIs s i r h ∧ h ≤ s.size ∧ r.size ≤ s.size - h ∧ e = .returned (.tuple #[.string r, .int .i64 (h : Nat)]) ∧ w = w' :=
  (rest_any s i w hs).mono fun _ _ ⟨he, hw⟩ => by
    have hz : (restS s i).size = s.size - heldAt s i := by rw [← str_size, restS_list, List.length_drop, str_size]
    exact ⟨_, _, ⟨rfl, restS_list s i, hz⟩, heldAt_le s i, Nat.le_of_eq hz, he, hw⟩
def FindIs (is : Bool) (s : ByteArray) (n : Nat) : Prop := n = findN is s.data.toList
theorem find_is (s : ByteArray) (is : Bool) (w : World) (hs : s.size ≤ maxLen) :
    Calls Tryz.prog 92 #[.string s, .bool is] w fun e w' => ∃ n, FindIs is s n ∧ n ≤ s.size ∧ e = .returned (.int .i64 (n : Nat)) ∧ w = w' :=
  (scanFind_any s is w hs).mono fun _ _ ⟨he, hw⟩ => ⟨_, rfl, by rw [← str_size]; exact findN_le _ _, he, hw⟩

theorem word_end {s r : ByteArray} {i : Int} {h n m : Nat} (HR : RestIs s i r h) (HN : FindIs false r n) (HM : FindIs true (r.extract n r.size) m) :
    wordA s i = h + n ∧ wordL s i = m ∧ (r.extract n r.size).extract 0 m = wordS s i ∧ wordN s i = min (h + n + m + 1) s.size := by
  have hA : wordA s i = h + n := by unfold wordA; rw [← HR.at_, ← HR.list, HN]
  have hL : wordL s i = m := by unfold wordL; rw [hA, HM, ext_rest, HR.list, List.drop_drop]
  refine ⟨hA, hL, ?_, by unfold wordN; rw [hA, hL]⟩
  refine str_ext ?_
  unfold wordS
  rw [ext_list, ext_rest, ext_list, HR.list, hA, hL, List.drop_zero, List.drop_drop, List.take_drop]
theorem Word_any (s : ByteArray) (i : Int) (w : World) (hs : s.size ≤ 140737488355328) :
    Calls Tryz.prog 55 #[.string s, .int .i64 i] w fun e w' => e = .returned (.tuple #[.string (wordS s i), .int .i64 (wordN s i)]) ∧ w = w' := by
  go_enter Tryz.func55, Tryz.ntmps55
  go_wp2_with (go_at_call 91; refine (rest_is s i _ (by unfold maxLen; omega)).mono ?_; rintro e w' ⟨r, h, HR, hh, hr, rfl, rfl⟩)
  refine (find_is r false _ (by unfold maxLen; omega)).mono ?_
  rintro e w' ⟨n, HN, hn, rfl, rfl⟩
  go_wp2_with fail
  refine (find_is (r.extract n r.size) true _ (by unfold maxLen; rw [ByteArray.size_extract]; omega)).mono ?_
  rintro e w' ⟨m, HM, hm, rfl, rfl⟩
  rw [ByteArray.size_extract] at hm
  have hm1 : m ≤ r.size - n := by omega
  clear hm
  go_wp2_with fail
  all_goals go_ret2
  all_goals obtain ⟨_, _, h3, h4⟩ := word_end HR HN HM
  all_goals refine ⟨ret2 (vstr h3) (vint ?_), rfl⟩
  all_goals rw [h4]
  all_goals omega

end Go.Proofs.YtdokeddjcpnmiaaGreatDoor

/- The contracts of source.Input's methods: an Input in memory, and what each method makes of it. -/
namespace Go.Proofs.YtdokeddjcpnmiaaGreatDoor
open Go.RowKit

set_option maxRecDepth 100000 in
theorem own : ownKnob Tryz.prog.godebug = none := by kernel_rfl
set_option maxRecDepth 100000 in
theorem info_one : (Tryz.prog.info? 112).map (fun i => (i.zero, i.size, i.bytes)) = some (some (.agg #[.string .empty, .int .i64 0, .int .i64 0]), 3, 32) := by kernel_rfl

/-- a source -/
structure One where
  text : ByteArray
  id : Nat
  on : Nat
def One.cells (o : One) : List Value := [.string o.text, .int .i64 o.id, .int .i64 o.on]
set_option maxRecDepth 100000 in
theorem One.cells_one (o : One) : ∀ u ∈ o.cells, u.oneCell' = true := by
  intro u hu; simp [One.cells] at hu; rcases hu with rfl | rfl | rfl <;> rfl
def One.none : One := ⟨.empty, 0, 0⟩
/-- sources, the last one being read, those ahead of it (the undermost first), and how many there were -/
structure Ins where
  cur : One
  outer : List One
  many : Nat

def inCells (S : Ins) (v : Value) : Array Value := #[.string S.cur.text, .int .i64 S.cur.id, .int .i64 S.cur.on, v, .int .i64 S.outer.length, .int .i64 S.many]
/-- an Input lies at block b, over the blocks F, and holds S -/
def InAt (w : World) (b : Nat) (F : List Nat) (S : Ins) : Prop :=
  ∃ v, Blk w b 115 (inCells S v) ∧ F = b :: rowOf v ∧ b ∉ rowOf v ∧ w.ownsRow 0 112 3 v S.outer.length (S.outer.flatMap One.cells)

structure Ins.ok (S : Ins) : Prop where
  text : S.cur.text.size ≤ 1000
  on : S.cur.on ≤ S.cur.text.size
  id : S.cur.id ≤ S.many
  outer : ∀ o, o ∈ S.outer → o.text.size ≤ 1000 ∧ o.on ≤ o.text.size ∧ o.id ≤ S.many
  deep : S.outer.length ≤ 8
  many : S.many ≤ 1000000

/-- the six cells, read and free to be written -/
structure Six (w : World) (b : Nat) (S : Ins) (v : Value) : Prop where
  c0 : w.cell? ⟨b, 0, none⟩ = some (.string S.cur.text)
  c1 : w.cell? ⟨b, 1, none⟩ = some (.int .i64 S.cur.id)
  c2 : w.cell? ⟨b, 2, none⟩ = some (.int .i64 S.cur.on)
  c3 : w.cell? ⟨b, 3, none⟩ = some v
  c4 : w.cell? ⟨b, 4, none⟩ = some (.int .i64 S.outer.length)
  c5 : w.cell? ⟨b, 5, none⟩ = some (.int .i64 S.many)
  f0 : w.frozen? ⟨b, 0, none⟩ = false
  f1 : w.frozen? ⟨b, 1, none⟩ = false
  f2 : w.frozen? ⟨b, 2, none⟩ = false
  f3 : w.frozen? ⟨b, 3, none⟩ = false
  f4 : w.frozen? ⟨b, 4, none⟩ = false
  f5 : w.frozen? ⟨b, 5, none⟩ = false
set_option maxRecDepth 100000 in
theorem six {w : World} {b : Nat} {S : Ins} {v : Value} (h : Blk w b 115 (inCells S v)) : Six w b S v :=
  ⟨h.cell 0, h.cell 1, h.cell 2, h.cell 3, h.cell 4, h.cell 5, h.frozen 0, h.frozen 1, h.frozen 2, h.frozen 3, h.frozen 4, h.frozen 5⟩

set_option maxRecDepth 100000 in
theorem InAt.touch {w w' : World} {b : Nat} {F G : List Nat} {S : Ins} (h : InAt w b F S) (ht : Touch G w w') (hn : ∀ f, f ∈ F → f ∉ G) : InAt w' b F S := by
  obtain ⟨v, hb, rfl, hnb, hr⟩ := h
  exact ⟨v, hb.touch ht (hn b (by simp)), rfl, hnb, row_touch hr ht fun g hg => hn g (by simp [hg])⟩
set_option maxRecDepth 100000 in
theorem InAt.lt {w : World} {b : Nat} {F : List Nat} {S : Ins} (h : InAt w b F S) : ∀ f, f ∈ F → f < w.heap.size := by
  obtain ⟨v, hb, rfl, hnb, hr⟩ := h
  intro f hf
  rcases List.mem_cons.1 hf with rfl | hf
  · exact hb.lt
  · exact row_lt hr hf
set_option maxRecDepth 100000 in
theorem InAt.drewN {w : World} {b : Nat} {F : List Nat} {S : Ins} (h : InAt w b F S) (n : Nat) : InAt (w.drewN n) b F S := h

/-- what a method leaves -/
def Left (w : World) (b : Nat) (F : List Nat) (S : Ins) (w' : World) : Prop := ∃ F', InAt w' b F' S ∧ Touch F w w' ∧ Sub w F F'

set_option maxRecDepth 100000 in
/-- the place turned -/
theorem in_on {w : World} {b : Nat} {S : Ins} {v : Value} (hb : Blk w b 115 (inCells S v)) (hnb : b ∉ rowOf v) (hr : w.ownsRow 0 112 3 v S.outer.length (S.outer.flatMap One.cells)) (i : Int) (n : Nat) (hi : i = n) :
    Left w b (b :: rowOf v) { S with cur := { S.cur with on := n } } (w.setCell ⟨b, 2, none⟩ (.int .i64 i)) := by
  subst hi
  have ht : Touch [b] w (w.setCell ⟨b, 2, none⟩ (.int .i64 n)) := (Touch.refl _ _).setCell (by simp) _
  exact ⟨_, ⟨v, hb.set_ 2 _, rfl, hnb, row_touch hr ht fun g hg => by simp; rintro rfl; exact hnb hg⟩, ht.mono (by simp), Sub.refl _ _⟩

set_option maxRecDepth 100000 in
theorem Left.of_drewN {w w' : World} {b : Nat} {F : List Nat} {S : Ins} {n : Nat} (h : Left (w.drewN n) b F S w') : Left w b F S w' := by
  obtain ⟨F', h1, h2, h3⟩ := h
  exact ⟨F', h1, ⟨h2.os, h2.tape, h2.output, h2.size, h2.block⟩, h3⟩
set_option maxRecDepth 100000 in
theorem in_read {w : World} {b : Nat} {S : Ins} {v : Value} (hb : Blk w b 115 (inCells S v)) (hnb : b ∉ rowOf v) (hr : w.ownsRow 0 112 3 v S.outer.length (S.outer.flatMap One.cells)) (k n : Nat) :
    Left w b (b :: rowOf v) { S with cur := { S.cur with on := n } } ((w.drewN k).setCell ⟨b, 2, none⟩ (.int .i64 n)) :=
  (in_on (w := w.drewN k) hb hnb hr _ n rfl).of_drewN

set_option maxRecDepth 100000 in
theorem SrcNew_any (w : World) : Calls Tryz.prog 30 #[] w fun e w' => e = .returned (.pointer (some ⟨w.heap.size, 0, none⟩)) ∧ w.alloc (.cells (inCells ⟨.none, [], 0⟩ (.slice none 0 0)) 115) = w' := by
  go_enter Tryz.func30, Tryz.ntmps30
  go_wp2
  go_ret
  exact ⟨rfl, rfl⟩

set_option maxRecDepth 100000 in
theorem SrcDepth_any (w : World) (b : Nat) (F : List Nat) (S : Ins) (h : InAt w b F S) : Calls Tryz.prog 36 #[.pointer (some ⟨b, 0, none⟩)] w fun e w' => e = .returned (.int .i64 S.outer.length) ∧ w = w' := by
  obtain ⟨v, hb, rfl, hnb, hr⟩ := h
  obtain ⟨c0, c1, c2, c3, c4, c5, f0, f1, f2, f3, f4, f5⟩ := six hb
  go_enter Tryz.func36, Tryz.ntmps36
  go_wp2
  go_ret
  exact ⟨rfl, rfl⟩
set_option maxRecDepth 100000 in
theorem In_any (w : World) (b : Nat) (F : List Nat) (S : Ins) (h : InAt w b F S) : Calls Tryz.prog 35 #[.pointer (some ⟨b, 0, none⟩)] w fun e w' => e = .returned (.int .i64 S.cur.on) ∧ w = w' := by
  obtain ⟨v, hb, rfl, hnb, hr⟩ := h
  obtain ⟨c0, c1, c2, c3, c4, c5, f0, f1, f2, f3, f4, f5⟩ := six hb
  go_enter Tryz.func35, Tryz.ntmps35
  go_wp2
  go_ret
  exact ⟨rfl, rfl⟩
set_option maxRecDepth 100000 in
theorem Seek_any (w : World) (b : Nat) (F : List Nat) (S : Ins) (h : InAt w b F S) (i : Int) (hm : S.cur.text.size ≤ 1000) :
    Calls Tryz.prog 79 #[.pointer (some ⟨b, 0, none⟩), .int .i64 i] w fun e w' => e = .returned (.tuple #[]) ∧ Left w b F { S with cur := { S.cur with on := heldAt S.cur.text i } } w' := by
  obtain ⟨v, hb, rfl, hnb, hr⟩ := h
  obtain ⟨c0, c1, c2, c3, c4, c5, f0, f1, f2, f3, f4, f5⟩ := six hb
  go_enter Tryz.func79, Tryz.ntmps79
  go_wp2
  all_goals go_end0
  all_goals refine ⟨rfl, in_on hb hnb hr _ _ ?_⟩
  all_goals (unfold heldAt; omega)

set_option maxRecDepth 100000 in
set_option maxHeartbeats 400000 in
theorem read_word (w : World) (b : Nat) (F : List Nat) (S : Ins) (h : InAt w b F S) (hm : S.cur.text.size ≤ 1000) :
    Calls Tryz.prog 54 #[.pointer (some ⟨b, 0, none⟩), .func (Fn.func 55) #[] #[]] w fun e w' => e = .returned (.string (wordS S.cur.text S.cur.on)) ∧ Left w b F { S with cur := { S.cur with on := wordN S.cur.text S.cur.on } } w' := by
  obtain ⟨v, hb, rfl, hnb, hr⟩ := h
  obtain ⟨c0, c1, c2, c3, c4, c5, f0, f1, f2, f3, f4, f5⟩ := six hb
  go_enter Tryz.func54, Tryz.ntmps54
  go_wp2_with fail
  go_quiet ((go_at_call 55; exact quiet_left (Word_any _ _ _ (by omega))))
  go_wp2
  go_ret
  exact ⟨rfl, in_read hb hnb hr _ _⟩
set_option maxRecDepth 100000 in
set_option maxHeartbeats 400000 in
theorem Word_in (w : World) (b : Nat) (F : List Nat) (S : Ins) (h : InAt w b F S) (hm : S.cur.text.size ≤ 1000) :
    Calls Tryz.prog 34 #[.pointer (some ⟨b, 0, none⟩)] w fun e w' => e = .returned (.string (wordS S.cur.text S.cur.on)) ∧ Left w b F { S with cur := { S.cur with on := wordN S.cur.text S.cur.on } } w' := by
  obtain ⟨v, hb, rfl, hnb, hr⟩ := h
  obtain ⟨c0, c1, c2, c3, c4, c5, f0, f1, f2, f3, f4, f5⟩ := six hb
  go_enter Tryz.func34, Tryz.ntmps34
  go_wp2_with (go_at_call 54; refine (read_word _ b _ S ⟨v, hb, rfl, hnb, hr⟩ hm).mono ?_; rintro e w' ⟨rfl, hL⟩)
  go_ret
  exact ⟨rfl, hL⟩

def Ins.open_ (S : Ins) (s : ByteArray) : Ins := ⟨⟨s, S.many + 1, 0⟩, S.outer ++ [S.cur], S.many + 1⟩

set_option maxRecDepth 100000 in
theorem Blk.to {w : World} {g : Nat} {t : TypeId} {cs cs' : Array Value} (h : Blk w g t cs) (e : cs = cs') : Blk w g t cs' := e ▸ h
set_option maxRecDepth 100000 in
theorem cast_succ (n : Nat) : Value.int .i64 ((n + 1 : Nat) : Int) = .int .i64 ((n : Int) + 1) := by rw [Int.natCast_add]; rfl
set_option maxRecDepth 100000 in
theorem open_end {w w1 : World} {b : Nat} {S : Ins} {v : Value} {g cap : Nat} (s : ByteArray) (hb : Blk w b 115 (inCells S v)) (hnb : b ∉ rowOf v)
    {o : Obj} (hown : w1.ownsRow 0 112 3 (.slice (some ⟨g, 0, none⟩) (S.outer.length + 1) cap) (S.outer.length + 1) (S.outer.flatMap One.cells ++ S.cur.cells))
    (hgr : (w.alloc o).drew.grownBy w1 v.ownBlock) (hat : v.ownBlock = some g ∨ g = (w.alloc o).drew.heap.size) (_hlt : g < w1.heap.size) :
    Left w b (b :: rowOf v) (S.open_ s) ((((((w1.setCell ⟨b, 3, none⟩ (.slice (some ⟨g, 0, none⟩) (S.outer.length + 1) cap)).setCell ⟨b, 5, none⟩ (.int .i64 ((S.many : Int) + 1))).setCell ⟨b, 4, none⟩ (.int .i64 ((S.outer.length : Int) + 1))).setCell ⟨b, 0, none⟩ (.string s)).setCell ⟨b, 1, none⟩ (.int .i64 ((S.many : Int) + 1))).setCell ⟨b, 2, none⟩ (.int .i64 0)) := by
  have hbl := hb.lt
  have hz : (w.alloc o).drew.heap.size = w.heap.size + 1 := by simp
  have hgb : g ≠ b := by
    rintro rfl
    rcases hat with h | h
    · exact hnb (rowOf_mem.2 h)
    · omega
  have hb1 : Blk w1 b 115 (inCells S v) := ((hb.alloc o).drew).grown hgr (fun e => hnb (rowOf_mem.2 e.symm))
  have h1 : Touch (b :: rowOf v) w w1 := (((Touch.refl _ w).alloc o).drew).grown hgr fun k hk => .inl (by simp [rowOf_mem, hk])
  refine ⟨b :: rowOf (.slice (some ⟨g, 0, none⟩) (S.outer.length + 1) cap), ⟨.slice (some ⟨g, 0, none⟩) (S.outer.length + 1) cap, ?_, rfl, by simp [rowOf]; omega, ?_⟩, ?_, ?_⟩
  · refine ((((((hb1.set_ 3 _).set_ 5 _).set_ 4 _).set_ 0 _).set_ 1 _).set_ 2 _).to ?_
    simp [inCells, Ins.open_]
  · have e : (S.open_ s).outer.flatMap One.cells = S.outer.flatMap One.cells ++ S.cur.cells := by simp [Ins.open_]
    have el : (S.open_ s).outer.length = S.outer.length + 1 := by simp [Ins.open_]
    rw [e, el]
    refine row_touch hown (F := [b]) ?_ (by simp [rowOf]; omega)
    exact ((((((Touch.refl _ _).setCell (by simp) _).setCell (by simp) _).setCell (by simp) _).setCell (by simp) _).setCell (by simp) _).setCell (by simp) _
  · exact (((((h1.setCell (by simp) _).setCell (by simp) _).setCell (by simp) _).setCell (by simp) _).setCell (by simp) _).setCell (by simp) _
  · intro f hf
    simp only [rowOf, List.mem_cons, List.not_mem_nil, or_false] at hf
    rcases hf with rfl | rfl
    · exact .inl (by simp)
    · rcases hat with h | h
      · exact .inl (by simp [rowOf_mem, h])
      · exact .inr (by omega)

set_option maxRecDepth 100000 in
set_option maxRecDepth 100000 in
set_option maxHeartbeats 1600000 in
theorem Open_yes (w : World) (b : Nat) (F : List Nat) (S : Ins) (s : ByteArray) (h : InAt w b F S) (hs : s.size ≤ 1000) (hd : S.outer.length < 8) (hm : S.many < 1000000) :
    Calls Tryz.prog 31 #[.pointer (some ⟨b, 0, none⟩), .string s] w fun e w' => e = .returned (.int .i64 0) ∧ Left w b F (S.open_ s) w' := by
  obtain ⟨v, hb, rfl, hnb, hr⟩ := h
  obtain ⟨i0, hi, hz0, hz1, hz2⟩ := info_parts info_one
  have HA : Hid (S.outer.length + 1 ≤ maxLen) := by show _ ≤ maxLen; unfold maxLen; omega
  have HB : Hid ((S.outer.length + 1) * 32 ≤ 140737488355328) := by show (S.outer.length + 1) * 32 ≤ 140737488355328; omega
  have HN := Lib.hid (World.news_of_block (heap_alloc_new w (.cells #[.string S.cur.text, .int .i64 S.cur.id, .int .i64 S.cur.on] 112)))
  have HR := Lib.hid hr
  have hbl := hb.lt
  have HV : Hid (some b ≠ v.ownBlock) := fun e => hnb (rowOf_mem.2 e.symm)
  clear hr
  obtain ⟨c0, c1, c2, c3, c4, c5, f0, f1, f2, f3, f4, f5⟩ := six hb
  go_enter Tryz.func31, Tryz.ntmps31
  go_wp2_with fail
  go_region_law (refine step_append_lies _ rfl (.tmp 22) (.tmp 27) 113 rfl 0 112 i0 _ 3 32 Tryz.underlying113 hi hz0 hz1 hz2 rfl (by omega) v S.outer.length (S.outer.flatMap One.cells) (by simp [Act.eval]) (HR.out.alloc _) ⟨w.heap.size, 0, none⟩ 1 1 S.cur.cells (by simp [Act.eval]) rfl HN.out S.cur.cells_one (by omega) HA.out HB.out (Nat.zero_le _) _ rfl ?_; intro g cap w1 hown hgr hat hlt; obtain ⟨d0, d1, d2, d3, d4, d5, g0, g1, g2, g3, g4, g5⟩ := six (((hb.alloc _).drew).grown hgr HV.out); have HG := Lib.hid (And.intro hown (And.intro hgr (And.intro hat hlt))); clear hown hgr hat hlt)
  all_goals go_wp2_with fail
  all_goals go_ret
  all_goals exact ⟨rfl, open_end s hb hnb HG.out.1 HG.out.2.1 HG.out.2.2.1 HG.out.2.2.2⟩

end Go.Proofs.YtdokeddjcpnmiaaGreatDoor

/- The contracts of source.Input's Close, Cut, Restore, and of slices.Delete at its last element. -/
namespace Go.Proofs.YtdokeddjcpnmiaaGreatDoor
open Go.RowKit

set_option maxRecDepth 100000 in
theorem zero_one (w : World) : (zeroValue 112).run Tryz.prog w = .ok (.agg #[.string .empty, .int .i64 0, .int .i64 0]) w := by kernel_rfl

set_option maxRecDepth 100000 in
theorem run_clear_one {P : Program} (w : World) (t e ty : TypeId) (zs : List Value) (ht : P.underlying t = some (.slice e)) (hv : ∀ w, (zeroValue e).run P w = .ok (.agg zs.toArray) w) (h1 : ∀ z ∈ zs, z.oneCell' = true) (b o c : Nat)
    (hc : ∀ j, j < zs.length → (w.cell? ⟨b, o + j, none⟩).isSome = true ∧ w.frozen? ⟨b, o + j, none⟩ = false) :
    (Builtin.clear_ #[t] ty #[.slice (some ⟨b, o, none⟩) 1 c]).run P w = .ok (.tuple #[]) (w.setCells b o zs) := by
  have hzc : (Builtin.zeroCells (Value.agg zs.toArray).cells 1).toList = zs := by
    simp [Builtin.zeroCells, Value.cells]
    apply List.ext_getElem
    · simp
    · intro i h1 h2
      simp at h1
      simp [Nat.mod_eq_of_lt h1, List.getElem?_eq_getElem h1]
  have hst := run_storeCells_cells (P := P) b o zs 0 w (by simpa using fun j hj => (hc j hj).1) (by simpa using fun j hj => (hc j hj).2) h1
  simp only [Nat.add_zero] at hst
  simp [Builtin.clear_, run_underlying ht, hv, hzc, hst]

/-- what Delete leaves: its row, with all but the last element as they were -/
structure Deleted (w : World) (g n : Nat) (cur : Array Value) (w' : World) (cur' : Array Value) : Prop where
  blk : Blk w' g 112 cur'
  size : cur'.size = cur.size
  take : cur'.toList.take (n * 3) = cur.toList.take (n * 3)
  touch : Touch [g] w w'
set_option maxRecDepth 100000 in
theorem deleted_of {w : World} {g n : Nat} {cur : Array Value} (hb : Blk w g 112 cur) (x y z : Value) : Deleted w g n cur (w.setCells g (n * 3) [x, y, z]) (((cur.setIfInBounds (n * 3) x).setIfInBounds (n * 3 + 1) y).setIfInBounds (n * 3 + 1 + 1) z) := by
  refine ⟨((hb.set_ _ x).set_ _ y).set_ _ z, by simp, ?_, (((Touch.refl _ w).setCell (by simp) _).setCell (by simp) _).setCell (by simp) _⟩
  apply List.ext_getElem?
  intro i
  simp only [List.getElem?_take]
  split
  · simp only [Array.getElem?_toList]
    rw [Array.getElem?_setIfInBounds_ne (by omega), Array.getElem?_setIfInBounds_ne (by omega), Array.getElem?_setIfInBounds_ne (by omega)]
  · rfl

set_option maxRecDepth 100000 in
set_option maxHeartbeats 800000 in
/-- the last element is let go of, and its cells are cleared -/
theorem Delete_last (w : World) (g n cap : Nat) (cur : Array Value) (hb : Blk w g 112 cur) (hc : n + 1 ≤ cap) (_hm : cap ≤ maxLen) (hz : cur.size = cap * 3) :
    Calls Tryz.prog 142 #[.slice (some ⟨g, 0, none⟩) (n + 1) cap, .int .i64 n, .int .i64 ((n : Int) + 1)] w fun e w' => e = .returned (.slice (some ⟨g, 0, none⟩) n cap) ∧
      ∃ cur', Deleted w g n cur w' cur' := by
  obtain ⟨i0, hi, hz0, hz1, hz2⟩ := info_parts info_one
  have hnc : n ≤ cap := by omega
  have h01 : (0 : Int) ≤ (n : Int) + 1 := by omega
  have HZ := Lib.hid hz
  clear hz
  obtain ⟨A, hA⟩ : ∃ A, (if cap = n + 1 then some (⟨g, 0, none⟩ : Addr) else some ⟨g, (n + 1) * 3, none⟩) = some A := by split <;> exact ⟨_, rfl⟩
  have hsc : ∀ W : World, W.setCells g (n * 3) [] = W := fun _ => rfl
  have hcl := run_clear_one w.drew 113 112 0 [.string .empty, .int .i64 0, .int .i64 0] Tryz.underlying113 zero_one (by simp [Value.oneCell']) g (n * 3) (cap - n) (fun j hj => by
    rw [hb.drew.cell]; exact ⟨Array.getElem?_eq_getElem (show n * 3 + j < cur.size by rw [HZ.out]; simp at hj; omega) ▸ rfl, hb.drew.frozen _⟩)
  go_enter Tryz.func142, Tryz.ntmps142
  go_wp2_with fail
  go_region_law (refine step_append_room rfl (.tmp 22) (.tmp 25) 113 rfl 112 i0 3 Tryz.underlying113 hi hz1 g 0 n cap (by simp [Act.eval, Act.put]) A 0 (cap - (n + 1)) [] (by simp [Act.eval, Act.put]) rfl (by simp) (by simp) (by omega) (by simp) ?_)
  all_goals go_wp2_with fail
  all_goals go_ret
  all_goals obtain ⟨h1, h2, h3, h4⟩ := deleted_of (n := n) hb.drew (.string .empty) (.int .i64 0) (.int .i64 0)
  all_goals exact ⟨rfl, _, h1, h2, h3, ⟨h4.os, h4.tape, h4.output, h4.size, h4.block⟩⟩

set_option maxRecDepth 100000 in
theorem cells_len : ∀ l : List One, (l.flatMap One.cells).length = l.length * 3
  | [] => rfl
  | x :: r => by simp only [List.flatMap_cons, List.length_append, cells_len r, One.cells, List.length_cons, List.length_nil]; omega
set_option maxRecDepth 100000 in
theorem last_cells {l L : List One} {o : One} (h : L = l ++ [o]) : (L.flatMap One.cells)[l.length * 3]? = some (.string o.text) ∧ (L.flatMap One.cells)[l.length * 3 + 1]? = some (.int .i64 o.id) ∧ (L.flatMap One.cells)[l.length * 3 + 2]? = some (.int .i64 o.on) := by
  have hl := cells_len l
  subst h
  rw [List.flatMap_append]
  refine ⟨?_, ?_, ?_⟩ <;> rw [List.getElem?_append_right (by omega), hl]
  · rw [Nat.sub_self]; rfl
  · rw [show l.length * 3 + 1 - l.length * 3 = 1 by omega]; rfl
  · rw [show l.length * 3 + 2 - l.length * 3 = 2 by omega]; rfl

def Ins.close (S : Ins) (o : One) (l : List One) : Ins := ⟨o, l, S.many⟩

/-- the world ahead of Delete -/
def closed4 (w : World) (b : Nat) (o : One) (n : Nat) : World :=
  (((w.setCell ⟨b, 4, none⟩ (.int .i64 n)).setCell ⟨b, 0, none⟩ (.string o.text)).setCell ⟨b, 1, none⟩ (.int .i64 o.id)).setCell ⟨b, 2, none⟩ (.int .i64 o.on)
set_option maxRecDepth 100000 in
theorem blk4 {w : World} {b : Nat} {S : Ins} {v : Value} (hb : Blk w b 115 (inCells S v)) (o : One) (n : Nat) :
    Blk (closed4 w b o n) b 115 #[.string o.text, .int .i64 o.id, .int .i64 o.on, v, .int .i64 n, .int .i64 S.many] :=
  ((((hb.set_ 4 _).set_ 0 _).set_ 1 _).set_ 2 _).to (by simp [inCells])
set_option maxRecDepth 100000 in
theorem touch4 (w : World) (b : Nat) (o : One) (n : Nat) (F : List Nat) (h : b ∈ F) : Touch F w (closed4 w b o n) :=
  ((((Touch.refl _ w).setCell (.inl h) _).setCell (.inl h) _).setCell (.inl h) _).setCell (.inl h) _
set_option maxRecDepth 100000 in
theorem six_again {w w5 : World} {b g n : Nat} {S : Ins} {o : One} {v : Value} {cur cur5 : Array Value} {k : Nat} (h : Deleted ((closed4 w b o n).drewN k) g n cur w5 cur5) (hb : Blk w b 115 (inCells S v)) (hgb : g ≠ b) :
    Six w5 b ⟨o, List.replicate n .none, S.many⟩ v := by
  have h1 : Blk w5 b 115 (inCells ⟨o, List.replicate n .none, S.many⟩ v) := (((blk4 hb o n).drewN k).touch h.touch (by simp; omega)).to (by simp [inCells])
  exact six h1
set_option maxRecDepth 100000 in
theorem close_end {w w5 : World} {b g cap : Nat} {S : Ins} {o : One} {l : List One} {cur cur5 : Array Value} {k : Nat} (hb : Blk w b 115 (inCells S (.slice (some ⟨g, 0, none⟩) (l.length + 1) cap))) (hgb : g ≠ b)
    (h : Deleted ((closed4 w b o l.length).drewN k) g l.length cur w5 cur5) (hcs : cur.size = cap * 3) (htk : cur.toList.take ((l.length + 1) * 3) = S.outer.flatMap One.cells) (hl : S.outer = l ++ [o]) (hc : l.length + 1 ≤ cap) (hm : cap ≤ maxLen) :
    Left w b (b :: rowOf (.slice (some ⟨g, 0, none⟩) (l.length + 1) cap)) (S.close o l) (w5.setCell ⟨b, 3, none⟩ (.slice (some ⟨g, 0, none⟩) l.length cap)) := by
  have h1 : Touch [b, g] w w5 := by
    refine (((touch4 w b o l.length [b, g] (by simp)).drewN k)).trans (G := [g]) h.touch (by simp)
  have hz : (l.flatMap One.cells).length = l.length * 3 := by
    exact cells_len l
  refine ⟨b :: rowOf (.slice (some ⟨g, 0, none⟩) l.length cap), ⟨.slice (some ⟨g, 0, none⟩) l.length cap, ?_, rfl, by simp [rowOf]; omega, ?_⟩, ?_, ?_⟩
  · exact ((((blk4 hb o l.length).drewN k).touch h.touch (by simp; omega)).set_ 3 _).to (by simp [inCells, Ins.close])
  · refine row_touch (w := w5) ⟨hz, .inr ⟨g, cap, cur5, rfl, Nat.zero_le _, h.blk, Nat.le_trans (Nat.le_succ _) hc, hm, by rw [h.size, hcs], ?_⟩⟩ (F := [b]) ((Touch.refl _ _).setCell (by simp) _) (by simp [rowOf]; omega)
    show List.take (l.length * 3) _ = _
    rw [h.take]
    have e := congrArg (List.take (l.length * 3)) htk
    rw [List.take_take, show min (l.length * 3) ((l.length + 1) * 3) = l.length * 3 by omega, hl, List.flatMap_append, List.take_append_of_le_length (by omega), List.take_of_length_le (by omega : (l.flatMap One.cells).length ≤ l.length * 3)] at e
    exact e
  · exact (h1.mono (by simp [rowOf])).setCell (by simp) _
  · intro f hf
    exact .inl (by simpa [rowOf] using hf)

set_option maxRecDepth 100000 in
set_option maxHeartbeats 800000 in
theorem Close_yes (w : World) (b : Nat) (F : List Nat) (S : Ins) (h : InAt w b F S) (l : List One) (o : One) (hl : S.outer = l ++ [o]) (hd : l.length < 8) :
    Calls Tryz.prog 110 #[.pointer (some ⟨b, 0, none⟩)] w fun e w' => e = .returned (.int .i64 0) ∧ Left w b F (S.close o l) w' := by
  have hdep := SrcDepth_any w b F S h
  obtain ⟨v, hb, rfl, hnb, hr⟩ := h
  have hlen : S.outer.length = l.length + 1 := by rw [hl]; simp
  rw [hlen] at hr hdep
  obtain ⟨g, cap, cur, rfl, hbg, hnc, hcm, hcs, htk⟩ : ∃ g cap cur, v = .slice (some ⟨g, 0, none⟩) (l.length + 1) cap ∧ Blk w g 112 cur ∧ l.length + 1 ≤ cap ∧ cap ≤ maxLen ∧ cur.size = cap * 3 ∧ cur.toList.take ((l.length + 1) * 3) = S.outer.flatMap One.cells := by
    rcases hr.2 with ⟨_, h0⟩ | ⟨g, cap, cur, h1, _, h2, h3, h4, h5, h6⟩
    · omega
    · exact ⟨g, cap, cur, h1, h2, h3, h4, h5, h6⟩
  have hgb : g ≠ b := by intro e; exact hnb (by simp [rowOf, e])
  have hg := hbg.lt
  obtain ⟨c0, c1, c2, c3, c4, c5, f0, f1, f2, f3, f4, f5⟩ := six hb
  have e0 := hr.cellAt (l.length * 3) (by omega)
  have e1 := hr.cellAt (l.length * 3 + 1) (by omega)
  have e2 := hr.cellAt (l.length * 3 + 2) (by omega)
  rw [hlen] at c4
  have hx := last_cells hl
  rw [hx.1] at e0
  rw [hx.2.1] at e1
  rw [hx.2.2] at e2
  have hn : (l.length : Int) + 1 - 1 = (l.length : Int) := by omega
  have HR := Lib.hid hr
  have HL := Lib.hid hl
  have HE := Lib.hid hlen
  have HX := Lib.hid hx
  have HD := Lib.hid hdep
  have HCS := Lib.hid hcs
  have HTK := Lib.hid htk
  clear hr hl hlen hx hdep hcs htk
  have hwr : IntKind.i64.wrap ((l.length : Int) + 1) = (l.length : Int) + 1 := IntWalk.i64_in _ (by omega)
  go_enter Tryz.func110, Tryz.ntmps110
  go_wp2_with (go_at_call 36; refine HD.out.mono ?_; rintro e w' ⟨rfl, rfl⟩)
  go_region
  go_wp2_with fail
  go_region_law ((go_simp; go_at_call 142; refine (Delete_last _ g l.length cap cur ((((((hbg.far hgb _).far hgb _).far hgb _).far hgb _).drew).drew) hnc hcm HCS.out).mono ?_; rintro e w5 ⟨rfl, cur5, HW5'⟩; have HW5 : Deleted ((closed4 w b o l.length).drewN 2) g l.length cur w5 cur5 := HW5'; clear HW5'; obtain ⟨d0, d1, d2, d3, d4, d5, g0, g1, g2, g3, g4, g5⟩ := six_again HW5 hb hgb))
  all_goals go_wp2_with fail
  all_goals go_ret
  all_goals exact ⟨rfl, close_end hb hgb HW5 HCS.out HTK.out HL.out hnc hcm⟩

end Go.Proofs.YtdokeddjcpnmiaaGreatDoor

/- The contracts of source.Input's methods where they refuse, of Cut and Restore, and of a nil Input. -/
namespace Go.Proofs.YtdokeddjcpnmiaaGreatDoor
open Go.RowKit

set_option maxRecDepth 100000 in
theorem Open_long (w : World) (b : Nat) (s : ByteArray) (hs : 1000 < s.size) (hm : s.size ≤ maxLen) :
    Calls Tryz.prog 31 #[.pointer (some ⟨b, 0, none⟩), .string s] w fun e w' => e = .returned (.int .i64 3) ∧ w = w' := by
  unfold maxLen at hm
  go_enter Tryz.func31, Tryz.ntmps31
  go_wp2
  go_ret
  exact ⟨rfl, rfl⟩
set_option maxRecDepth 100000 in
theorem Open_deep (w : World) (b : Nat) (F : List Nat) (S : Ins) (s : ByteArray) (h : InAt w b F S) (hs : s.size ≤ 1000) (hd : 8 ≤ S.outer.length) :
    Calls Tryz.prog 31 #[.pointer (some ⟨b, 0, none⟩), .string s] w fun e w' => e = .returned (.int .i64 (-5)) ∧ w = w' := by
  obtain ⟨v, hb, rfl, hnb, hr⟩ := h
  obtain ⟨c0, c1, c2, c3, c4, c5, f0, f1, f2, f3, f4, f5⟩ := six hb
  go_enter Tryz.func31, Tryz.ntmps31
  go_wp2
  go_ret
  exact ⟨rfl, rfl⟩
set_option maxRecDepth 100000 in
theorem Close_none (w : World) (b : Nat) (F : List Nat) (S : Ins) (h : InAt w b F S) (hl : S.outer.length = 0) :
    Calls Tryz.prog 110 #[.pointer (some ⟨b, 0, none⟩)] w fun e w' => e = .returned (.int .i64 2) ∧ w = w' := by
  have hdep := SrcDepth_any w b F S h
  rw [hl] at hdep
  have HD := Lib.hid hdep
  clear hdep hl h
  go_enter Tryz.func110, Tryz.ntmps110
  go_wp2_with (go_at_call 36; refine HD.out.mono ?_; rintro e w' ⟨rfl, rfl⟩)
  go_ret
  exact ⟨rfl, rfl⟩

/-- Cut's answer -/
def Ins.cutAll (S : Ins) (n : Nat) : Ins := if n < S.outer.length then ⟨S.outer.getD n .none, S.outer.take n, S.many⟩ else S

set_option maxRecDepth 100000 in
theorem Open_nil (w : World) (s : ByteArray) : Calls Tryz.prog 31 #[.pointer none, .string s] w fun e w' => e = .returned (.int .i64 2) ∧ w = w' := by
  go_enter Tryz.func31, Tryz.ntmps31
  go_wp2
  go_ret
  exact ⟨rfl, rfl⟩
set_option maxRecDepth 100000 in
theorem SrcDepth_nil (w : World) : Calls Tryz.prog 36 #[.pointer none] w fun e w' => e = .returned (.int .i64 0) ∧ w = w' := by
  go_enter Tryz.func36, Tryz.ntmps36
  go_wp2
  go_ret
  exact ⟨rfl, rfl⟩
set_option maxRecDepth 100000 in
theorem Close_nil (w : World) : Calls Tryz.prog 110 #[.pointer none] w fun e w' => e = .returned (.int .i64 2) ∧ w = w' := by
  go_enter Tryz.func110, Tryz.ntmps110
  go_wp2_with (go_at_call 36; refine (SrcDepth_nil _).mono ?_; rintro e w' ⟨rfl, rfl⟩)
  go_ret
  exact ⟨rfl, rfl⟩
set_option maxRecDepth 100000 in
theorem Word_nil (w : World) : Calls Tryz.prog 34 #[.pointer none] w fun e w' => e = .returned (.string .empty) ∧ w = w' := by
  go_enter Tryz.func34, Tryz.ntmps34
  go_wp2
  go_ret
  exact ⟨rfl, rfl⟩
set_option maxRecDepth 100000 in
theorem cutAll_len (S : Ins) (k : Nat) (hk : k ≤ S.outer.length) : (S.cutAll k).outer.length = k := by
  unfold Ins.cutAll; split
  · simp; omega
  · omega
set_option maxRecDepth 100000 in
theorem cut_step {S : Ins} {k : Nat} (hk : k < S.outer.length) : (S.cutAll (k + 1)).outer = (S.cutAll k).outer ++ [(S.cutAll k).cur] ∧ (S.cutAll (k + 1)).close (S.cutAll k).cur (S.cutAll k).outer = S.cutAll k := by
  have e : S.cutAll k = ⟨S.outer.getD k .none, S.outer.take k, S.many⟩ := by unfold Ins.cutAll; rw [if_pos hk]
  have hg : S.outer.getD k .none = S.outer[k] := by simp [List.getD, List.getElem?_eq_getElem hk]
  rw [e, hg]
  refine ⟨?_, ?_⟩
  · unfold Ins.cutAll
    split
    · exact List.take_succ_eq_append_getElem hk
    · have e2 : S.outer.take (k + 1) = S.outer := List.take_of_length_le (by omega)
      exact e2.symm.trans (List.take_succ_eq_append_getElem hk)
  · unfold Ins.close Ins.cutAll
    split <;> rfl
set_option maxRecDepth 100000 in
theorem cutAll_of_le (S : Ins) (k : Nat) (h : S.outer.length ≤ k) : S.cutAll k = S := by unfold Ins.cutAll; rw [if_neg (by omega)]

set_option maxRecDepth 100000 in
theorem Left.trans {w w1 w2 : World} {b : Nat} {F F1 : List Nat} {S T : Ins} (_h : InAt w1 b F1 T) (ht : Touch F w w1) (hs : Sub w F F1) (k : Left w1 b F1 S w2) : Left w b F S w2 := by
  obtain ⟨F2, h1, h2, h3⟩ := k
  exact ⟨F2, h1, ht.trans h2 hs, hs.trans h3 ht.size⟩

set_option maxRecDepth 100000 in
set_option maxHeartbeats 800000 in
theorem Cut_any (w : World) (b : Nat) (F : List Nat) (S : Ins) (h : InAt w b F S) (i : Int) (hd : S.outer.length ≤ 8) :
    Calls Tryz.prog 78 #[.pointer (some ⟨b, 0, none⟩), .int .i64 i] w fun e w' => e = .returned (.tuple #[]) ∧ Left w b F (S.cutAll i.toNat) w' := by
  have hm : min i.toNat S.outer.length ≤ S.outer.length := by omega
  go_enter Tryz.func78, Tryz.ntmps78
  go_wp2_with fail
  go_loopg [] (S.outer.length - min i.toNat S.outer.length) (fun g wr => ∃ k, min i.toNat S.outer.length ≤ k ∧ k ≤ S.outer.length ∧ g = k - min i.toNat S.outer.length ∧ Left w b F (S.cutAll k) wr)
  case atStart => exact ⟨S.outer.length, hm, Nat.le_refl _, rfl, by rw [cutAll_of_le S _ (Nat.le_refl _)]; exact ⟨F, h, Touch.refl _ _, Sub.refl _ _⟩⟩
  case round =>
    obtain ⟨k, hk1, hk2, hg, F1, h1, ht1, hs1⟩ := hrel
    have HG := Lib.hid hg
    have HD := Lib.hid (SrcDepth_any wr b F1 _ h1)
    have hlen := cutAll_len S k hk2
    rw [hlen] at HD
    have HL := Lib.hid hlen
    clear hg hlen
    rcases Int.lt_or_le i 0 with hi | hi
    all_goals
      rcases Nat.lt_or_ge i.toNat k with hlt | hge
      · obtain ⟨q, rfl⟩ : ∃ q, k = q + 1 := ⟨k - 1, by omega⟩
        obtain ⟨hs, hc⟩ := cut_step (S := S) (k := q) (by omega)
        have HC := Lib.hid (Close_yes wr b F1 _ h1 _ _ hs (by have := congrArg List.length hs; rw [HL.out] at this; simp at this; omega))
        rw [hc] at HC
        clear hs hc
        go_wp2_with (first
          | (go_at_call 36; refine HD.out.mono ?_; rintro e w' ⟨rfl, rfl⟩)
          | (go_at_call 110; refine HC.out.mono ?_; rintro e w2 ⟨rfl, hL⟩))
        go_roundg (q - min i.toNat S.outer.length)
        case measure => rw [HG.out]; omega
        case rel => exact ⟨q, by omega, by omega, rfl, Left.trans h1 ht1 hs1 hL⟩
      · go_wp2_with (go_at_call 36; refine HD.out.mono ?_; rintro e w' ⟨rfl, rfl⟩)
        go_end0
        refine ⟨rfl, ?_⟩
        have e : S.cutAll i.toNat = S.cutAll k := by
          rcases Nat.lt_or_ge i.toNat S.outer.length with h3 | h3
          · rw [show k = i.toNat by omega]
          · rw [cutAll_of_le S _ h3, cutAll_of_le S k (by omega)]
        rw [e]
        exact ⟨F1, h1, ht1, hs1⟩

end Go.Proofs.YtdokeddjcpnmiaaGreatDoor
