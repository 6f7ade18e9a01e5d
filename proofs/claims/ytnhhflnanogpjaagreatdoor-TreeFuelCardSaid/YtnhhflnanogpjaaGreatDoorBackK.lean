/- slices.Backward over numbers: what it yields, where the body keeps the row and the box (turned from the kit's worked text on slices.All). -/
import Derived.RangeFuncBox
import Derived.RangeFuncLeaves
import Derived.RangeFuncNested
import Derived.RangeFuncCalls
import Derived.Shelf.Abstract
import Derived.WalkKit
import Derived.OwnWalkIn
import Derived.TacticsInMore
import Derived.LoopNIn
import Derived.LoopIn
import Derived.Test.YtnhhflnanogpjaaGreatDoorWorld
namespace Go.Proofs.YtnhhflnanogpjaaGreatDoor
open Go.RowKit Go.Shelf

attribute [local go_sem] Oper.semAt_some

/-- what has come when k rounds are over -/
def upto {α : Type} (f : Nat → α) (k : Nat) : List α := (List.range k).map f
theorem upto_succ {α : Type} (f : Nat → α) (k : Nat) : upto f (k + 1) = upto f k ++ [f k] := by simp [upto, List.range_succ]
theorem upto_length {α : Type} (f : Nat → α) (k : Nat) : (upto f k).length = k := by simp [upto]
/-- the k-th from behind -/
def behind (zs : List Int) (k : Nat) : Nat × Int := (zs.length - 1 - k, zs.getD (zs.length - 1 - k) 0)

/-- these blocks are as they were -/
def SameAt (bs : List Nat) (A B : World) : Prop := ∀ k ∈ bs, B.heap[k]? = A.heap[k]?
theorem SameAt.refl (bs : List Nat) (A : World) : SameAt bs A A := fun _ _ => rfl
theorem SameAt.trans {bs : List Nat} {A B C : World} (h : SameAt bs A B) (k : SameAt bs B C) : SameAt bs A C := fun i hi => (k i hi).trans (h i hi)
theorem SameAt.cell {bs : List Nat} {A B : World} (h : SameAt bs A B) {p : Addr} (hp : p.block ∈ bs) : B.cell? p = A.cell? p := World.cell?_of_block (h _ hp)
theorem SameAt.touch {bs F : List Nat} {A B : World} (t : Touch F A B) (h : ∀ k ∈ bs, k < A.heap.size ∧ k ∉ F) : SameAt bs A B := fun k hk => t.block k (h k hk).1 (h k hk).2

set_option maxRecDepth 100000 in
set_option maxHeartbeats 2000000 in
theorem back1_in (F : Fence) (n : Nat) (h8 : F.fn 49) (hro : F.round = none) (_hn : 1 ≤ n) (l Bs : Nat) (bs : List Nat) (b off len cap : Nat) (zs : List Int) (hlen : zs.length = len) (hreach : len ≤ 1000000) (hb : b ∈ bs) (J Jx : List (Nat × Int) → World → Prop)
    (hY : ∀ pre x W, J pre W → pre.length < len → YieldAt F (n - 1) Tryz.prog l #[.int .i64 (x.1 : Int), .int .i64 x.2] W fun e W' =>
      (e = .returned (.bool true) ∧ J (pre ++ [x]) W' ∧ SameAt bs W W') ∨ (e = .returned (.bool false) ∧ Jx (pre ++ [x]) W'))
    (W : World) (hBs0 : Bs ∈ bs) (hBs : W.cell? ⟨Bs, 0, none⟩ = some (.slice (some ⟨b, off, none⟩) len cap)) (hc : ∀ j, j < len → W.cell? ⟨b, off + j, none⟩ = some (.int .i64 (zs.getD j 0))) (h0 : J [] W) :
    CallsIn F n Tryz.prog 49 #[.func (.yield l) #[] #[], .pointer (some ⟨Bs, 0, none⟩)] W fun e W' => (∃ v, e = .returned v) ∧
      ((∃ ys, ys = upto (behind zs) len ∧ J ys W') ∨ (∃ pre, (∃ k, k ≤ len ∧ pre = upto (behind zs) k) ∧ Jx pre W')) := by
  refine callsIn_of_wp Tryz.func49 rfl h8 ?_ hro
  simp only [Tryz.ntmps49, List.size_toArray, List.length_cons, List.length_nil, Nat.reduceAdd, Nat.reduceSub, Array.replicate_succ, Array.replicate_zero, List.push_toArray, List.append_toArray, List.nil_append, List.cons_append]
  gi_wp2
  gi_loopw [3] (fun i wr => ∃ k : Nat, k ≤ len ∧ i = .int .i64 ((len : Int) - 1 - k) ∧ J (upto (behind zs) k) wr ∧ SameAt bs W wr)
    (fun i _ => (intOf i + 1).toNat)
  case atStart => exact ⟨0, Nat.zero_le _, vint (by omega), h0, SameAt.refl _ _⟩
  case round =>
    obtain ⟨k, hk, rfl, hJs, hnx⟩ := hrel
    by_cases hlt : k < len
    · obtain ⟨m, hm⟩ : ∃ m : Nat, m = len - 1 - k := ⟨_, rfl⟩
      have hmi : (len : Int) - 1 - k = (m : Int) := by omega
      rw [hmi]
      have hcx' : wr.cell? ⟨b, off + m, none⟩ = some (.int .i64 (zs.getD m 0)) := (hnx.cell (p := ⟨b, off + m, none⟩) hb).trans (hc m (by omega))
      have hcs' := (hnx.cell (p := ⟨Bs, 0, none⟩) hBs0).trans hBs
      have hml : m < len := by omega
      have he : behind zs k = (m, zs.getD m 0) := by unfold behind; rw [hlen, ← hm]
      obtain ⟨fn, tmps, assign, body, hy, hR⟩ := hY _ (m, zs.getD m 0) wr hJs (by rw [upto_length]; exact hlt)
      dsimp only at hy
      obtain ⟨z, hz⟩ : ∃ z, zs.getD m 0 = z := ⟨_, rfl⟩
      rw [hz] at hcx' hy hR he
      clear hz hm
      gi_wp2
      refine hR.mono ?_
      rintro e W3 (⟨rfl, hJ3, hk3⟩ | ⟨rfl, hJx3⟩)
      · gi_wp2
        go_roundw
        case rel => exact ⟨k + 1, by omega, vint (by omega), by rw [upto_succ, he]; exact hJ3, hnx.trans hk3⟩
        case measure => simp only [intOf]; omega
      · gi_wp2
        refine bodyPost_ret (results_none rfl _ _ _) rfl ?_
        exact ⟨⟨_, rfl⟩, .inr ⟨_, ⟨k + 1, by omega, by rw [upto_succ, he]⟩, hJx3⟩⟩
    · obtain rfl : k = len := by omega
      rw [show (k : Int) - 1 - k = -1 by omega]
      gi_wp2
      go_end0
      exact ⟨⟨_, rfl⟩, .inl ⟨_, rfl, hJs⟩⟩

set_option maxRecDepth 100000 in
set_option maxHeartbeats 1000000 in
theorem back1_nil_in (F : Fence) (n : Nat) (h8 : F.fn 49) (hro : F.round = none) (l Bs : Nat) (a : Option Addr) (cap : Nat) (J : List (Nat × Int) → World → Prop) (W : World) (hBs : W.cell? ⟨Bs, 0, none⟩ = some (.slice a 0 cap)) (h0 : J [] W) :
    CallsIn F n Tryz.prog 49 #[.func (.yield l) #[] #[], .pointer (some ⟨Bs, 0, none⟩)] W fun e W' => (∃ v, e = .returned v) ∧ J [] W' := by
  refine callsIn_of_wp Tryz.func49 rfl h8 ?_ hro
  simp only [Tryz.ntmps49, List.size_toArray, List.length_cons, List.length_nil, Nat.reduceAdd, Nat.reduceSub, Array.replicate_succ, Array.replicate_zero, List.push_toArray, List.append_toArray, List.nil_append, List.cons_append]
  gi_wp2
  gi_loopw [3] (fun i wr => i = .int .i64 (-1) ∧ J [] wr) (fun _ _ => 0)
  case atStart => exact ⟨rfl, h0⟩
  case round =>
    obtain ⟨rfl, hJs⟩ := hrel
    gi_wp2
    go_end0
    exact ⟨⟨_, rfl⟩, hJs⟩

set_option maxHeartbeats 1000000 in
theorem back_in (F : Fence) (n : Nat) (h6 : F.fn 23) (hro : F.round = none) (v : Value) (w : World) (hv : v.oneCell' = true) (hv2 : ∃ a len cap, v = .slice a len cap) :
    CallsIn F n Tryz.prog 23 #[v] w fun e w' => e = .returned (.func (.func 49) #[] #[.pointer (some ⟨w.heap.size, 0, none⟩)]) ∧ w' = w.alloc (.cells #[v] 35) := by
  obtain ⟨a, len, cap, rfl⟩ := hv2
  clear hv
  refine callsIn_of_wp Tryz.func23 rfl h6 ?_ hro
  simp only [Tryz.ntmps23, List.size_toArray, List.length_cons, List.length_nil, Nat.reduceAdd, Nat.reduceSub, Array.replicate_succ, Array.replicate_zero, List.push_toArray, List.append_toArray, List.nil_append, List.cons_append]
  gi_wp2
  go_ret
  exact ⟨rfl, rfl⟩

/-- the slice value holds these numbers, in a block of bs -/
def Nums (bs : List Nat) (W : World) (sv : Value) (zs : List Int) : Prop :=
  ∃ a cap, sv = .slice a zs.length cap ∧ (zs = [] ∨ ∃ b off, a = some ⟨b, off, none⟩ ∧ b ∈ bs ∧ ∀ j, j < zs.length → W.cell? ⟨b, off + j, none⟩ = some (.int .i64 (zs.getD j 0)))

theorem back_stops (F : Fence) (n : Nat) (h8 : F.fn 49) (hro : F.round = none) (hn : 1 ≤ n) (Bs : Nat) (bs : List Nat) (sv : Value) (zs : List Int) (hreach : zs.length ≤ 1000000) (w : World) (hBs : Bs ∈ bs) (hbs : ∀ k ∈ bs, k < w.heap.size)
    (hc : w.cell? ⟨Bs, 0, none⟩ = some sv) (hI : Nums bs w sv zs) :
    SeqStopsK F n Tryz.prog 49 #[.pointer (some ⟨Bs, 0, none⟩)] (fun x : Nat × Int => #[Value.int .i64 (x.1 : Int), .int .i64 x.2]) (SameAt bs) (fun ys => ys = upto (behind zs) zs.length)
      (fun pre => ∃ k, k ≤ zs.length ∧ pre = upto (behind zs) k) zs.length w := fun l J Jx W hW _ _ hY h0 => by
  have hc' := (hW.cell (p := ⟨Bs, 0, none⟩) (hbs _ hBs)).trans hc
  obtain ⟨a, cap, rfl, h⟩ := hI
  rcases h with rfl | ⟨b, off, rfl, hb, hcs⟩
  · exact (back1_nil_in F n h8 hro l Bs a cap J W hc' h0).mono fun e W' ⟨he, hj⟩ => ⟨he, .inl ⟨_, rfl, hj⟩⟩
  · exact back1_in F n h8 hro hn l Bs bs b off zs.length cap zs rfl hreach hb J Jx hY W hBs hc' (fun j hj => (hW.cell (p := ⟨b, off + j, none⟩) (hbs _ hb)).trans (hcs j hj)) h0
end Go.Proofs.YtnhhflnanogpjaaGreatDoor
