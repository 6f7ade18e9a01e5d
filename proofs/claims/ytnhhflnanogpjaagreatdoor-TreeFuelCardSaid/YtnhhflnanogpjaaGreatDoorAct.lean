/- What a function value does to a run in memory, whatever later world that kept its blocks; plain acts. -/
import Derived.Test.YtnhhflnanogpjaaGreatDoorTreeKeep
namespace Go.Proofs.YtnhhflnanogpjaaGreatDoor
open Go.RowKit

def Kept (lo hi : Nat) (w w' : World) : Prop := ∀ k, lo ≤ k → k < hi → w'.heap[k]? = w.heap[k]?
theorem Kept.refl (lo hi : Nat) (w : World) : Kept lo hi w w := fun _ _ _ => rfl
theorem Kept.trans {lo hi : Nat} {a b c : World} (h : Kept lo hi a b) (k : Kept lo hi b c) : Kept lo hi a c := fun i h1 h2 => (k i h1 h2).trans (h i h1 h2)
theorem Kept.of_touch {lo hi : Nat} {F : List Nat} {w w' : World} (t : Touch F w w') (hs : hi ≤ w.heap.size) (hF : ∀ g ∈ F, ¬ (lo ≤ g ∧ g < hi)) : Kept lo hi w w' := fun k h1 h2 => t.block k (by omega) (fun hk => hF k hk ⟨h1, h2⟩)
theorem Kept.blk {lo hi : Nat} {w w' : World} (h : Kept lo hi w w') {B : Nat} {t : TypeId} {cs : Array Value} (hb : Blk w B t cs) (h1 : lo ≤ B) (h2 : B < hi) : Blk w' B t cs := (h B h1 h2).trans hb

/-- a run lies in a later world, apart from the act's blocks -/
structure RunIn (lo hi : Nat) (w w' : World) (b : Nat) (F : List Nat) (d nl : Nat) (r : Run) : Prop where
  kept : Kept lo hi w w'
  size : hi ≤ w'.heap.size
  apart : ∀ g ∈ F, ¬ (lo ≤ g ∧ g < hi)
  run : RunAt w' b F r
  ok : r.ok
  deep : r.loops.length + d ≤ 1000
  nl : r.locals.length = nl

/-- what a function value does -/
def FnSem {α : Type} (enc : α → Value → World → Prop) (lo hi : Nat) (w : World) (d nl : Nat) (v : Value) (m : Mn α) : Prop :=
  ∃ f cap, v = .func (.func f) #[] cap ∧ Enters Tryz.prog f ∧ ∀ w' b F r, RunIn lo hi w w' b F d nl r → Calls Tryz.prog f (#[.pointer (some ⟨b, 0, none⟩)] ++ cap) w' (Ends enc w' b F (m r))
def boolV : Bool → Value → World → Prop := fun x v _ => v = .bool x
abbrev ActSem := FnSem boolV
abbrev PlainSem := FnSem unitV

variable {α : Type} {enc : α → Value → World → Prop} {lo hi d nl : Nat} {w w' w1 : World} {b : Nat} {F : List Nat} {r s : Run} {v : Value} {m : Mn α}

theorem FnSem.wider {lo' hi' : Nat} (h : FnSem enc lo hi w d nl v m) (h1 : lo' ≤ lo) (h2 : hi ≤ hi') : FnSem enc lo' hi' w d nl v m := by
  obtain ⟨f, cap, e, hE, k⟩ := h
  exact ⟨f, cap, e, hE, fun w' b F r hr => k w' b F r ⟨fun i a1 a2 => hr.kept i (by omega) (by omega), by have := hr.size; omega, fun g hg h => hr.apart g hg (by omega), hr.run, hr.ok, hr.deep, hr.nl⟩⟩
theorem FnSem.later (h : FnSem enc lo hi w d nl v m) (k : Kept lo hi w w1) : FnSem enc lo hi w1 d nl v m := by
  obtain ⟨f, cap, e, hE, j⟩ := h
  exact ⟨f, cap, e, hE, fun w' b F r hr => j w' b F r ⟨k.trans hr.kept, hr.size, hr.apart, hr.run, hr.ok, hr.deep, hr.nl⟩⟩
theorem FnSem.deeper {e : Nat} (h : FnSem enc lo hi w d nl v m) (he : d ≤ e) : FnSem enc lo hi w e nl v m := by
  obtain ⟨f, cap, e', hE, j⟩ := h
  exact ⟨f, cap, e', hE, fun w' b F r hr => j w' b F r ⟨hr.kept, hr.size, hr.apart, hr.run, hr.ok, by have := hr.deep; omega, hr.nl⟩⟩

/-- behind a part that came to its end the run lies on -/
theorem RunIn.next (h : RunIn lo hi w w' b F d nl r) (hl : RunLeft w' b F s w1) (ok : s.ok) (hd : s.loops.length = r.loops.length) (hn : s.locals.length = r.locals.length) :
    ∃ F', RunIn lo hi w w1 b F' d nl s ∧ Touch F w' w1 ∧ Sub w' F F' := by
  obtain ⟨F', k, t, hs⟩ := hl
  refine ⟨F', ⟨h.kept.trans (Kept.of_touch t h.size h.apart), Nat.le_trans h.size t.size, fun g hg => ?_, k, ok, by rw [hd]; exact h.deep, hn.trans h.nl⟩, t, hs⟩
  rcases hs g hg with h' | h'
  · exact h.apart g h'
  · have := h.size; omega
theorem RunIn.quiet (h : RunIn lo hi w w' b F d nl r) (t : Touch [] w' w1) : RunIn lo hi w w1 b F d nl r :=
  ⟨h.kept.trans (Kept.of_touch t h.size (by simp)), Nat.le_trans h.size t.size, h.apart, h.run.touch t (by simp), h.ok, h.deep, h.nl⟩

def actT : TypeId := 56
theorem box_cell {B : Nat} {t : TypeId} {v : Value} (h : RunIn lo hi w w' b F d nl r) (hB : Blk w B t #[v]) (h1 : lo ≤ B) (h2 : B < hi) : w'.cell? ⟨B, 0, none⟩ = some v := (h.kept.blk hB h1 h2).cell 0

set_option maxHeartbeats 1000000 in
theorem plain_act {u : Mn Unit} {B : Nat} (h : PlainSem lo hi w d nl v u) (hB : Blk w B 78 #[v]) (h1 : lo ≤ B) (h2 : B < hi) :
    ActSem lo hi w d nl (.func (.func 58) #[] #[.pointer (some ⟨B, 0, none⟩)]) (plainD u) := by
  refine ⟨58, _, rfl, enters_of Tryz.func58 (by kernel_rfl) rfl, fun w' b F r hr => ?_⟩
  obtain ⟨f, cap, rfl, hE, hf⟩ := h
  have hc := hf w' b F r hr
  have c0 := box_cell hr hB h1 h2
  have hent : ∀ (args : Array Value) (w : World), (callFunc f args).run Tryz.prog w = .ok (.enter f args) w := hE
  unfold plainD Mn.bind
  cases e : u r with
  | mk o s =>
    rw [e] at hc
    clear e hf hE hr hB
    cases o with
    | ok a =>
      go_enter Tryz.func58, Tryz.ntmps58
      go_wp2_with fail
      refine hc.mono ?_
      rintro _ w1 ⟨v, rfl, hv, hl⟩
      cases hv
      go_wp2
      go_ret
      exact ⟨_, rfl, rfl, hl⟩
    | bad x o =>
      go_enter Tryz.func58, Tryz.ntmps58
      go_wp2_with fail
      refine hc.mono ?_
      rintro _ w1 ⟨rfl, hl⟩
      exact ⟨rfl, rfl, hl⟩
end Go.Proofs.YtnhhflnanogpjaaGreatDoor
