import Derived.Shelf.Strings.Split
import Derived.Test.YtdokeddjcpnmiaaGreatDoorProg
import Derived.Test.YtdokeddjcpnmiaaGreatDoorWorld
import Derived.Lib.SplitLaws
import Derived.Lib.IndexBytes
/- strings.Split, laid at this dump (out of the kit's lay-shelf and lay-plain by wip/mkshelf8.py). -/
namespace Go.Proofs
open Go.Shelf
def Tryz.splays146_ren : Go.Shelf.Ren := ⟨fun | 146 => 120 | 221 => 147 | 268 => 246 | 138 => 247 | 143 => 248 | 195 => 300 | 197 => 301 | 218 => 302 | 219 => 303 | 260 => 318 | 217 => 319 | 225 => 320 | 224 => 321 | 267 => 322 | 266 => 333 | 314 => 334 | n => n, fun | 9 => 9 | 31 => 119 | 3 => 3 | 4 => 4 | 0 => 0 | 105 => 276 | 21 => 21 | 5 => 5 | 46 => 127 | 119 => 295 | 139 => 298 | 138 => 297 | 146 => 193 | 51 => 192 | n => n, fun | 1 => 3 | 3 => 5 | 4 => 6 | n => n⟩
theorem Tryz.splays146 : Go.Proofs.Lays.n146 Tryz.prog Tryz.splays146_ren := {
  mixed := by kernel_rfl
  f138 := Tryz.func247.trans (congrArg some (by kernel_rfl))
  f143 := Tryz.func248.trans (congrArg some (by kernel_rfl))
  f146 := Tryz.func120.trans (congrArg some (by kernel_rfl))
  f195 := Tryz.func300.trans (congrArg some (by kernel_rfl))
  f197 := Tryz.func301.trans (congrArg some (by kernel_rfl))
  f217 := Tryz.func319.trans (congrArg some (by kernel_rfl))
  f218 := Tryz.func302.trans (congrArg some (by kernel_rfl))
  f219 := Tryz.func303.trans (congrArg some (by kernel_rfl))
  f221 := Tryz.func147.trans (congrArg some (by kernel_rfl))
  f224 := Tryz.func321.trans (congrArg some (by kernel_rfl))
  f225 := Tryz.func320.trans (congrArg some (by kernel_rfl))
  f260 := Tryz.func318.trans (congrArg some (by kernel_rfl))
  f266 := Tryz.func333.trans (congrArg some (by kernel_rfl))
  f267 := Tryz.func322.trans (congrArg some (by kernel_rfl))
  f268 := Tryz.func246.trans (congrArg some (by kernel_rfl))
  f314 := Tryz.func334.trans (congrArg some (by kernel_rfl))
  t0 := Tryz.underlying0
  a0 := Tryz.isAgg0
  z0 := Tryz.sizeOf0
  v0 := Tryz.zeroValue0
  t3 := Tryz.underlying3
  a3 := Tryz.isAgg3
  z3 := Tryz.sizeOf3
  v3 := Tryz.zeroValue3
  t4 := Tryz.underlying4
  a4 := Tryz.isAgg4
  z4 := Tryz.sizeOf4
  v4 := Tryz.zeroValue4
  t5 := Tryz.underlying5
  a5 := Tryz.isAgg5
  z5 := Tryz.sizeOf5
  v5 := Tryz.zeroValue5
  t9 := Tryz.underlying9
  a9 := Tryz.isAgg9
  z9 := Tryz.sizeOf9
  v9 := Tryz.zeroValue9
  t21 := Tryz.underlying21
  a21 := Tryz.isAgg21
  z21 := Tryz.sizeOf21
  v21 := Tryz.zeroValue21
  t31 := Tryz.underlying119
  a31 := Tryz.isAgg119
  z31 := Tryz.sizeOf119
  v31 := Tryz.zeroValue119
  t46 := Tryz.underlying127
  a46 := Tryz.isAgg127
  z46 := Tryz.sizeOf127
  v46 := Tryz.zeroValue127
  t51 := Tryz.underlying192
  a51 := Tryz.isAgg192
  z51 := Tryz.sizeOf192
  v51 := Tryz.zeroValue192
  t105 := Tryz.underlying276
  a105 := Tryz.isAgg276
  z105 := Tryz.sizeOf276
  v105 := Tryz.zeroValue276
  t119 := Tryz.underlying295
  a119 := Tryz.isAgg295
  z119 := Tryz.sizeOf295
  t138 := Tryz.underlying297
  a138 := Tryz.isAgg297
  z138 := Tryz.sizeOf297
  v138 := Tryz.zeroValue297
  t139 := Tryz.underlying298
  a139 := Tryz.isAgg298
  z139 := Tryz.sizeOf298
  v139 := Tryz.zeroValue298
  t146 := Tryz.underlying193
  a146 := Tryz.isAgg193
  z146 := Tryz.sizeOf193
  v146 := Tryz.zeroValue193
  g1 := by kernel_rfl
  g3 := by kernel_rfl
  g4 := by kernel_rfl }
open Go.RowKit in
theorem Tryz.split_any (s sep : ByteArray) (m : Int) (w : World) (hs : s.size < 4294967281) (hm : w.cell? ⟨3, 0, none⟩ = some (.int .i64 m)) (h1 : 1 ≤ sep.size) :
    Calls Tryz.prog 120 #[.string s, .string sep] w fun e w' =>
      e = .returned (.slice (some ⟨w.heap.size, 0, none⟩) (Lib.countB s sep + 1) (Lib.countB s sep + 1)) ∧ w' = w.alloc (.cells ((Lib.splitB sep 0 (Lib.countB s sep) s).map Value.string).toArray 9) := Any.strings_Split Tryz.splays146 (by kernel_rfl) s sep m w hs hm h1
end Go.Proofs

/- The table's names: table.names, table.Name (printed by wip/tname.py). -/
namespace Go.Proofs.YtdokeddjcpnmiaaGreatDoor
open Go.RowKit
namespace En

/-- a text, cut at a byte -/
def spl (c : UInt8) : List UInt8 → List (List UInt8)
  | [] => [[]]
  | b :: l => if b = c then [] :: spl c l else match spl c l with
    | [] => [[b]]
    | h :: t => (b :: h) :: t
theorem spl_split (c : UInt8) : ∀ s : List UInt8, Lib.splitK [c] 0 (s.count c) s = spl c s
  | [] => rfl
  | b :: l => by
    have ih := spl_split c l
    unfold spl
    by_cases h : b = c
    · subst h
      rw [if_pos rfl, List.count_cons_self]
      unfold Lib.splitK
      have e : Lib.index (b :: l) [b] = 0 := by rw [Lib.index_one]; unfold Lib.indexByte; simp
      rw [e, ih.symm]
      rfl
    · rw [if_neg h, List.count_cons_of_ne h]
      cases hk : l.count c with
      | zero =>
        rw [hk] at ih
        rw [← ih]
        rfl
      | succ k =>
        rw [hk] at ih
        have e : Lib.index (b :: l) [c] = if Lib.index l [c] == -1 then -1 else Lib.index l [c] + 1 := by
          rw [Lib.index_one, Lib.index_one]
          conv => lhs; unfold Lib.indexByte
          rw [if_neg (by simpa using h)]
        have hne : ¬ (Lib.index l [c] == -1) = true := by
          intro hm
          have := Lib.count_miss (beq_iff_eq.1 hm)
          rw [Lib.count_one, hk] at this
          cases this
        obtain ⟨i, hi⟩ : ∃ i : Nat, Lib.index l [c] = i := by
          rw [Lib.index_one] at hne ⊢
          have h1 := Lib.indexByte_ge l c
          have h2 : Lib.indexByte l c ≠ -1 := fun hh => hne (by rw [hh]; rfl)
          exact ⟨(Lib.indexByte l c).toNat, by omega⟩
        rw [if_neg hne, hi] at e
        rw [← ih]
        unfold Lib.splitK
        rw [e, hi]
        have n1 : ¬ ((i : Int) == -1) = true := by simp
        have n2 : ¬ ((i : Int) + 1 == -1) = true := by simp; omega
        rw [if_neg n1, if_neg n2]
        have t1 : ((i : Int) + 1).toNat = i + 1 := by omega
        have t2 : ((i : Int)).toNat = i := by omega
        rw [t1, t2]
        rfl
def sepS : ByteArray := ⟨#[32]⟩
theorem split_pieces (s : ByteArray) : (Lib.splitB sepS 0 (Lib.countB s sepS) s).map (·.data.toList) = spl 32 s.data.toList := by
  rw [Lib.splitB_data]
  have e : Lib.countB s sepS = s.data.toList.count 32 := Lib.count_one 32 s.data.toList
  rw [e]
  exact spl_split 32 s.data.toList
theorem split_good (s : ByteArray) (n : Nat) (h : (spl 32 s.data.toList).length = n ∧ ((spl 32 s.data.toList).all fun l => !l.isEmpty) = true) : (Lib.splitB sepS 0 (Lib.countB s sepS) s).length = n ∧ ∀ x ∈ Lib.splitB sepS 0 (Lib.countB s sepS) s, x ≠ .empty := by
  have hp := split_pieces s
  refine ⟨by rw [← h.1, ← hp, List.length_map], fun x hx he => ?_⟩
  have hm : x.data.toList ∈ spl 32 s.data.toList := by rw [← hp]; exact List.mem_map_of_mem hx
  have := List.all_eq_true.1 h.2 _ hm
  rw [he] at this
  cases this
def tnS1 : ByteArray := ⟨#[110, 101, 103, 97, 116, 101, 32, 97, 98, 115, 32, 105, 110, 118, 101, 114, 116, 32, 49, 43, 32, 49, 45, 32, 50, 42, 32, 50, 47, 32, 48, 61, 32, 48, 60, 32, 48, 60, 62, 32, 43, 32, 45, 32, 42, 32, 47, 32, 109, 111, 100, 32, 97, 110, 100, 32, 111, 114, 32, 120, 111, 114, 32, 108, 115, 104, 105, 102, 116, 32, 114, 115, 104, 105, 102, 116, 32, 61, 32, 60, 62, 32, 60, 32, 62, 32, 117, 60, 32, 109, 105, 110, 32, 109, 97, 120, 32, 100, 117, 112, 32, 100, 114, 111, 112, 32, 115, 119, 97, 112, 32, 111, 118, 101, 114, 32, 114, 111, 116, 32, 110, 105, 112, 32, 116, 117, 99, 107, 32, 63, 100, 117, 112, 32, 50, 100, 117, 112, 32, 50, 100, 114, 111, 112, 32, 50, 115, 119, 97, 112, 32, 50, 111, 118, 101, 114, 32, 112, 105, 99, 107, 32, 114, 111, 108, 108, 32, 100, 101, 112, 116, 104, 32, 115, 62, 100, 32, 100, 43, 32, 100, 45, 32, 100, 110, 101, 103, 97, 116, 101, 32, 100, 97, 98, 115, 32, 100, 60, 32, 100, 117, 60, 32, 100, 61, 32, 100, 50, 42, 32, 100, 50, 47, 32, 109, 42, 32, 117, 109, 42, 32, 117, 109, 47, 109, 111, 100, 32, 102, 109, 47, 109, 111, 100, 32, 115, 109, 47, 114, 101, 109, 32, 42, 47, 32, 42, 47, 109, 111, 100, 32, 47, 109, 111, 100, 32, 102, 110, 101, 103, 97, 116, 101, 32, 102, 97, 98, 115, 32, 102, 43, 32, 102, 45, 32, 102, 42, 32, 102, 47, 32, 102, 109, 105, 110, 32, 102, 109, 97, 120, 32, 102, 60, 32, 102, 61, 32, 115, 62, 102, 32, 102, 62, 115, 32, 64, 32, 33, 32, 99, 64, 32, 99, 33, 32, 43, 33, 32, 50, 64, 32, 50, 33, 32, 102, 105, 108, 108, 32, 109, 111, 118, 101, 32, 104, 101, 114, 101, 32, 97, 108, 108, 111, 116, 32, 44, 32, 99, 44, 32, 97, 108, 105, 103, 110, 32, 97, 108, 105, 103, 110, 101, 100, 32, 99, 101, 108, 108, 115, 32, 99, 111, 117, 110, 116, 32, 101, 109, 105, 116, 32, 46, 32, 117, 46, 32, 100, 46, 32, 102, 46, 32, 99, 114, 32, 115, 112, 97, 99, 101, 32, 115, 112, 97, 99, 101, 115, 32, 116, 121, 112, 101, 32, 46, 115, 32, 100, 101, 99, 105, 109, 97, 108, 32, 104, 101, 120, 32, 60, 35, 32, 35, 32, 35, 115, 32, 104, 111, 108, 100, 32, 115, 105, 103, 110, 32, 35, 62]⟩
theorem tnN1 : (spl 32 tnS1.data.toList).length = 107 ∧ ((spl 32 tnS1.data.toList).all fun l => !l.isEmpty) = true := by decide +kernel
set_option maxRecDepth 100000 in
set_option maxHeartbeats 3200000 in
theorem tnames_1 (w : World) (m : Int) (hm : w.cell? ⟨3, 0, none⟩ = some (.int .i64 m)) : Calls Tryz.prog 95 #[.int .i64 1] w fun e w' => ∃ L : List ByteArray, e = .returned (.slice (some ⟨w.heap.size, 0, none⟩) 107 107) ∧ w.alloc (.cells (L.map Value.string).toArray 9) = w' ∧ L.length = 107 ∧ ∀ x ∈ L, x ≠ .empty := by
  have hS := Tryz.split_any tnS1 sepS m w (by decide +kernel) hm (by decide)
  obtain ⟨h1, h2⟩ := split_good tnS1 107 tnN1
  obtain ⟨L, hL⟩ : ∃ L, Lib.splitB sepS 0 (Lib.countB tnS1 sepS) tnS1 = L := ⟨_, rfl⟩
  have hc : Lib.countB tnS1 sepS + 1 = L.length := by rw [← hL]; exact (Lib.splitB_all sepS (by decide) 0 _ tnS1 rfl).symm
  rw [hL] at hS h1 h2
  rw [hc, h1] at hS
  have HH := Lib.hid (And.intro h1 h2)
  clear h1 h2 hL hc hm
  have hS' : Calls Tryz.prog 120 #[.string tnS1, .string ⟨#[32]⟩] w _ := hS
  unfold tnS1 at hS'
  clear hS
  go_enter Tryz.func95, Tryz.ntmps95
  go_wp2_with fail
  refine hS'.mono ?_
  rintro _ w1 ⟨rfl, rfl⟩
  clear hS'
  go_wp2_with fail
  go_ret
  exact ⟨L, rfl, rfl, HH.out.1, HH.out.2⟩
def tnS2 : ByteArray := ⟨#[62, 114, 32, 114, 62, 32, 114, 64, 32, 105, 32, 106, 32, 117, 110, 108, 111, 111, 112, 32, 101, 120, 101, 99, 117, 116, 101, 32, 99, 97, 116, 99, 104, 32, 116, 104, 114, 111, 119]⟩
theorem tnN2 : (spl 32 tnS2.data.toList).length = 9 ∧ ((spl 32 tnS2.data.toList).all fun l => !l.isEmpty) = true := by decide +kernel
set_option maxRecDepth 100000 in
set_option maxHeartbeats 3200000 in
theorem tnames_2 (w : World) (m : Int) (hm : w.cell? ⟨3, 0, none⟩ = some (.int .i64 m)) : Calls Tryz.prog 95 #[.int .i64 2] w fun e w' => ∃ L : List ByteArray, e = .returned (.slice (some ⟨w.heap.size, 0, none⟩) 9 9) ∧ w.alloc (.cells (L.map Value.string).toArray 9) = w' ∧ L.length = 9 ∧ ∀ x ∈ L, x ≠ .empty := by
  have hS := Tryz.split_any tnS2 sepS m w (by decide +kernel) hm (by decide)
  obtain ⟨h1, h2⟩ := split_good tnS2 9 tnN2
  obtain ⟨L, hL⟩ : ∃ L, Lib.splitB sepS 0 (Lib.countB tnS2 sepS) tnS2 = L := ⟨_, rfl⟩
  have hc : Lib.countB tnS2 sepS + 1 = L.length := by rw [← hL]; exact (Lib.splitB_all sepS (by decide) 0 _ tnS2 rfl).symm
  rw [hL] at hS h1 h2
  rw [hc, h1] at hS
  have HH := Lib.hid (And.intro h1 h2)
  clear h1 h2 hL hc hm
  have hS' : Calls Tryz.prog 120 #[.string tnS2, .string ⟨#[32]⟩] w _ := hS
  unfold tnS2 at hS'
  clear hS
  go_enter Tryz.func95, Tryz.ntmps95
  go_wp2_with fail
  refine hS'.mono ?_
  rintro _ w1 ⟨rfl, rfl⟩
  clear hS'
  go_wp2_with fail
  go_ret
  exact ⟨L, rfl, rfl, HH.out.1, HH.out.2⟩
def tnS3 : ByteArray := ⟨#[105, 102, 32, 101, 108, 115, 101, 32, 116, 104, 101, 110, 32, 98, 101, 103, 105, 110, 32, 119, 104, 105, 108, 101, 32, 114, 101, 112, 101, 97, 116, 32, 117, 110, 116, 105, 108, 32, 97, 103, 97, 105, 110, 32, 100, 111, 32, 63, 100, 111, 32, 108, 111, 111, 112, 32, 43, 108, 111, 111, 112, 32, 108, 101, 97, 118, 101, 32, 99, 97, 115, 101, 32, 111, 102, 32, 101, 110, 100, 111, 102, 32, 101, 110, 100, 99, 97, 115, 101]⟩
theorem tnN3 : (spl 32 tnS3.data.toList).length = 17 ∧ ((spl 32 tnS3.data.toList).all fun l => !l.isEmpty) = true := by decide +kernel
set_option maxRecDepth 100000 in
set_option maxHeartbeats 3200000 in
theorem tnames_3 (w : World) (m : Int) (hm : w.cell? ⟨3, 0, none⟩ = some (.int .i64 m)) : Calls Tryz.prog 95 #[.int .i64 3] w fun e w' => ∃ L : List ByteArray, e = .returned (.slice (some ⟨w.heap.size, 0, none⟩) 17 17) ∧ w.alloc (.cells (L.map Value.string).toArray 9) = w' ∧ L.length = 17 ∧ ∀ x ∈ L, x ≠ .empty := by
  have hS := Tryz.split_any tnS3 sepS m w (by decide +kernel) hm (by decide)
  obtain ⟨h1, h2⟩ := split_good tnS3 17 tnN3
  obtain ⟨L, hL⟩ : ∃ L, Lib.splitB sepS 0 (Lib.countB tnS3 sepS) tnS3 = L := ⟨_, rfl⟩
  have hc : Lib.countB tnS3 sepS + 1 = L.length := by rw [← hL]; exact (Lib.splitB_all sepS (by decide) 0 _ tnS3 rfl).symm
  rw [hL] at hS h1 h2
  rw [hc, h1] at hS
  have HH := Lib.hid (And.intro h1 h2)
  clear h1 h2 hL hc hm
  have hS' : Calls Tryz.prog 120 #[.string tnS3, .string ⟨#[32]⟩] w _ := hS
  unfold tnS3 at hS'
  clear hS
  go_enter Tryz.func95, Tryz.ntmps95
  go_wp2_with fail
  refine hS'.mono ?_
  rintro _ w1 ⟨rfl, rfl⟩
  clear hS'
  go_wp2_with fail
  go_ret
  exact ⟨L, rfl, rfl, HH.out.1, HH.out.2⟩
def tnS4 : ByteArray := ⟨#[58, 32, 58, 110, 111, 110, 97, 109, 101, 32, 59, 32, 101, 120, 105, 116, 32, 114, 101, 99, 117, 114, 115, 101, 32, 91, 32, 93, 32, 108, 105, 116, 101, 114, 97, 108, 32, 99, 111, 109, 112, 105, 108, 101, 44, 32, 112, 111, 115, 116, 112, 111, 110, 101, 32, 39, 32, 91, 39, 93, 32, 105, 109, 109, 101, 100, 105, 97, 116, 101, 32, 99, 114, 101, 97, 116, 101, 32, 100, 111, 101, 115, 62, 32, 99, 111, 110, 115, 116, 97, 110, 116, 32, 118, 97, 114, 105, 97, 98, 108, 101, 32, 118, 97, 108, 117, 101, 32, 116, 111, 32, 100, 101, 102, 101, 114, 32, 105, 115, 32, 99, 104, 97, 114, 32, 91, 99, 104, 97, 114, 93, 32, 40, 32, 92, 32, 115, 34, 32, 115, 92, 34, 32, 46, 34, 32, 101, 118, 97, 108, 117, 97, 116, 101, 32, 112, 97, 114, 115, 101, 32, 112, 97, 114, 115, 101, 45, 110, 97, 109, 101, 32, 115, 97, 118, 101, 45, 105, 110, 112, 117, 116, 32, 114, 101, 115, 116, 111, 114, 101, 45, 105, 110, 112, 117, 116, 32, 123, 58, 32, 119, 111, 114, 100, 108, 105, 115, 116, 32, 115, 101, 116, 45, 99, 117, 114, 114, 101, 110, 116, 32, 115, 101, 116, 45, 111, 114, 100, 101, 114, 32, 103, 101, 116, 45, 111, 114, 100, 101, 114, 32, 109, 97, 114, 107, 101, 114, 32, 115, 101, 116, 45, 114, 101, 99, 111, 103, 110, 105, 122, 101, 114, 115, 32, 103, 101, 116, 45, 114, 101, 99, 111, 103, 110, 105, 122, 101, 114, 115, 32, 107, 101, 121, 32, 98, 121, 101, 32, 40, 100, 111, 101, 115, 62, 41, 32, 40, 116, 111, 41, 32, 40, 105, 115, 41, 32, 40, 109, 97, 114, 107, 101, 114, 41]⟩
theorem tnN4 : (spl 32 tnS4.data.toList).length = 47 ∧ ((spl 32 tnS4.data.toList).all fun l => !l.isEmpty) = true := by decide +kernel
set_option maxRecDepth 100000 in
set_option maxHeartbeats 3200000 in
theorem tnames_4 (w : World) (m : Int) (hm : w.cell? ⟨3, 0, none⟩ = some (.int .i64 m)) : Calls Tryz.prog 95 #[.int .i64 4] w fun e w' => ∃ L : List ByteArray, e = .returned (.slice (some ⟨w.heap.size, 0, none⟩) 47 47) ∧ w.alloc (.cells (L.map Value.string).toArray 9) = w' ∧ L.length = 47 ∧ ∀ x ∈ L, x ≠ .empty := by
  have hS := Tryz.split_any tnS4 sepS m w (by decide +kernel) hm (by decide)
  obtain ⟨h1, h2⟩ := split_good tnS4 47 tnN4
  obtain ⟨L, hL⟩ : ∃ L, Lib.splitB sepS 0 (Lib.countB tnS4 sepS) tnS4 = L := ⟨_, rfl⟩
  have hc : Lib.countB tnS4 sepS + 1 = L.length := by rw [← hL]; exact (Lib.splitB_all sepS (by decide) 0 _ tnS4 rfl).symm
  rw [hL] at hS h1 h2
  rw [hc, h1] at hS
  have HH := Lib.hid (And.intro h1 h2)
  clear h1 h2 hL hc hm
  have hS' : Calls Tryz.prog 120 #[.string tnS4, .string ⟨#[32]⟩] w _ := hS
  unfold tnS4 at hS'
  clear hS
  go_enter Tryz.func95, Tryz.ntmps95
  go_wp2_with fail
  refine hS'.mono ?_
  rintro _ w1 ⟨rfl, rfl⟩
  clear hS'
  go_wp2_with fail
  go_ret
  exact ⟨L, rfl, rfl, HH.out.1, HH.out.2⟩
end En
end Go.Proofs.YtdokeddjcpnmiaaGreatDoor
