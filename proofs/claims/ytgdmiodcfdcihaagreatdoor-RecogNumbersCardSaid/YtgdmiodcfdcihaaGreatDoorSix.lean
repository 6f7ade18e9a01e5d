/- recog.One and All at the six recognizers; what is told where all are nothing. -/
import Derived.Test.YtgdmiodcfdcihaaGreatDoorRecogR
import Derived.Test.YtgdmiodcfdcihaaGreatDoorMay
namespace Go.Proofs.YtgdmiodcfdcihaaGreatDoor
open Go.RowKit

theorem field_kind (x0 x1 : Int) (x2 : Bool) (x3 x4 : Int) (w : World) : (Instr.field 27 (.agg #[.int .i64 x0, .int .i64 x1, .bool x2, .int .i64 x3, .int .i64 x4]) 0).run Tryz.prog w = .ok (.int .i64 x0) w := by
  simp [Instr.field, run_underlying Tryz.underlying27, go_sem, asAgg, Result.andThen]
  first | done | rfl | kernel_rfl

/-- One at any of the six, where real.Number's answer is known -/
theorem One_six (w : World) (s : ByteArray) (D : Nat) (F : List Nat) (H : List Head) (base : Int) (a : Option Addr) (cap : Nat) (zs : List Small) (fv : Int) (fb : Bool) (hN : NumIs s fv fb) (g : GivenR w s D F H base a cap zs) (k : Int) (hk : k ∈ firstL) :
    Calls Tryz.prog 8 #[.int .i64 k, .string s, .pointer (some ⟨D, 0, none⟩), .int .i64 base, .slice a zs.length cap] w fun e w' => e = .returned (oneF s H base zs (toldK ⟨2, 0, false, fv, 0⟩ fb) k).v ∧ Touch [] w w' := by
  simp only [firstL, List.mem_cons, List.not_mem_nil, or_false] at hk
  rcases hk with rfl | rfl | rfl | rfl | rfl | rfl
  · exact One_five w s D F H base a cap zs g.1 _ _ (.inl rfl)
  · exact One_five w s D F H base a cap zs g.1 _ _ (.inr (.inl rfl))
  · exact One_five w s D F H base a cap zs g.1 _ _ (.inr (.inr (.inl rfl)))
  · exact One_five w s D F H base a cap zs g.1 _ _ (.inr (.inr (.inr (.inl rfl))))
  · exact One_five w s D F H base a cap zs g.1 _ _ (.inr (.inr (.inr (.inr rfl))))
  · exact One_real w s D F H base a cap zs fv fb hN g

theorem getD_mem {l : List Int} {k : Nat} (h : k < l.length) : l.getD k 0 ∈ l := by
  rw [List.getD_eq_getElem?_getD, List.getElem?_eq_getElem h]
  exact List.getElem_mem h

theorem All_six (w : World) (l : List Int) (hl : ∀ k, k ∈ l → k ∈ firstL) (hlen : l.length ≤ 1000) (c : Nat) (a : Option Addr) (hn : Nums w a l) (s : ByteArray) (D : Nat) (F : List Nat) (H : List Head) (base : Int) (b : Option Addr) (cap : Nat) (zs : List Small) (fv : Int) (fb : Bool) (hN : NumIs s fv fb) (g : GivenR w s D F H base b cap zs) :
    Calls Tryz.prog 13 #[.slice a l.length c, .string s, .pointer (some ⟨D, 0, none⟩), .int .i64 base, .slice b zs.length cap] w fun e w' =>
      e = .returned (.tuple #[(allF (oneF s H base zs (toldK ⟨2, 0, false, fv, 0⟩ fb)) l).1.v, .int .i64 (allF (oneF s H base zs (toldK ⟨2, 0, false, fv, 0⟩ fb)) l).2]) ∧ Touch [] w w' :=
  All_any w l hlen a c hn (.string s) (.pointer (some ⟨D, 0, none⟩)) (.int .i64 base) (.slice b zs.length cap) (oneF s H base zs (toldK ⟨2, 0, false, fv, 0⟩ fb)) fun _ hk _ _ w' t =>
    One_six w' s D F H base b cap zs fv fb hN (g.quiet t) _ (hl _ (getD_mem hk))

/-- all six are nothing just where the whole is, and then at is 6 -/
theorem all_none (K : Int → KnownV) : ∀ (l : List Int), (∀ k, k ∈ l → k ≤ 0) →
    decide ((allF K l).1.kind = 0) = l.all (fun k => decide ((K k).kind = 0)) ∧ (l.all (fun k => decide ((K k).kind = 0)) = decide ((allF K l).2 = l.length))
  | [], _ => ⟨rfl, rfl⟩
  | k :: r, h => by
    have ih := all_none K r fun q hq => h q (List.mem_cons_of_mem _ hq)
    have hk := h k (by simp)
    rw [allF, if_neg (by omega)]
    by_cases hz : (K k).kind = 0
    · rw [if_pos hz]
      simp only [List.all_cons, hz, decide_true, Bool.true_and, List.length_cons]
      refine ⟨ih.1, ih.2.trans ?_⟩
      rw [Bool.eq_iff_iff, decide_eq_true_eq, decide_eq_true_eq]
      omega
    · rw [if_neg hz]
      simp only [List.all_cons, hz, decide_false, Bool.false_and, List.length_cons]
      refine ⟨trivial, (decide_eq_false ?_).symm⟩
      show ¬ (0 : Nat) = r.length + 1
      omega

theorem all_take (l : List Int) (f : Int → Bool) (k : Nat) (hk : k < l.length) : (l.take (k + 1)).all f = ((l.take k).all f && f (l.getD k 0)) := by
  rw [List.take_succ_eq_append_getElem hk, List.all_append]
  simp [List.getD_eq_getElem?_getD, List.getElem?_eq_getElem hk]

theorem nums_one (w : World) (x : Int) : Nums (w.alloc (.cells #[.int .i64 x] 3)) (some ⟨w.heap.size, 0, none⟩) [x] := fun j hj => by
  have hj' : j < 1 := hj
  refine ⟨w.heap.size, 0, rfl, by simp, ?_⟩
  rw [Nat.zero_add, (Blk.new w 3 #[.int .i64 x]).cell j]
  obtain rfl : j = 0 := by omega
  rfl

theorem may_cons (w : Int) (l : List Int) : mayF l w = (decide (l.length ≤ 8) && l.all fun k => mayF [k] w) := by
  unfold mayF
  congr 1
  induction l with
  | nil => rfl
  | cons k r ih =>
    simp only [List.any_cons, List.all_cons, Bool.not_or, ih, List.any_nil, Bool.or_false, List.length_singleton]
    rfl

theorem Nums.take {w : World} {a : Option Addr} {l : List Int} (h : Nums w a l) (n : Nat) : Nums w a (l.take n) := fun j hj => by
  rw [List.length_take] at hj
  obtain ⟨g, off, h1, h2, h3⟩ := h j (by omega)
  refine ⟨g, off, h1, h2, ?_⟩
  rw [h3]
  simp [List.getD, show j < n by omega]

end Go.Proofs.YtgdmiodcfdcihaaGreatDoor
