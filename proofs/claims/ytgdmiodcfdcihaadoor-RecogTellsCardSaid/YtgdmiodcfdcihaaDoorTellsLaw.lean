/- RecogTells: the walk. -/
import Derived.Test.YtgdmiodcfdcihaaDoorTells
namespace Go.Proofs.YtgdmiodcfdcihaaDoor
open Go.RowKit

theorem Nums.take {w : World} {a : Option Addr} {l : List Int} (h : Nums w a l) (n : Nat) : Nums w a (l.take n) := fun j hj => by
  have hj' : j < n ∧ j < l.length := by simpa [List.length_take, Nat.lt_min] using hj
  obtain ⟨g, off, ha, hg, hc⟩ := h j hj'.2
  refine ⟨g, off, ha, hg, hc.trans ?_⟩
  simp [List.getD_eq_getElem?_getD, hj'.1]

set_option maxRecDepth 100000 in
set_option maxHeartbeats 1600000 in
theorem RecogTells_walk (t : Int) (l : List Int) (a : Option Addr) (c : Nat) (w : World) (hcap : l.length ≤ c) (hn : Nums w a l) :
    Calls Tryd.prog 5 #[.int .i64 t, .slice a l.length c] w fun e w' => e = .returned (.bool true) ∧ Touch [] w w' := by
  have htk := fun w => Takes_any t w
  have hrt := fun w => rTakes_any t w
  obtain ⟨⟨n, ok⟩, hk⟩ : ∃ k, takesF t = k := ⟨_, rfl⟩
  simp only [hk] at htk hrt
  clear hk
  have htd := fun w' (u : Touch [] w w') => Told_any t (l.take 4) a c w' (by simp; omega) ((hn.quiet u).take 4)
  have hrd := fun w' (u : Touch [] w w') => rTold_any t (l.take 4) a c w' (by simp; omega) ((hn.quiet u).take 4)
  obtain ⟨R, hR⟩ : ∃ R, toldF t (l.take 4) = R := ⟨_, rfl⟩
  simp only [hR] at htd hrd
  obtain ⟨m, hm, hm4⟩ : ∃ m, (l.take 4).length = m ∧ ((l.length ≤ 4 ∧ m = l.length) ∨ (4 < l.length ∧ m = 4)) := ⟨_, rfl, by simp; omega⟩
  rw [hm] at htd hrd
  have heq := fun w => known_eql R R w
  rw [show (R.kind == R.kind && R.xt == R.xt && R.now == R.now && R.a == R.a && R.b == R.b) = true by simp] at heq
  have hg := known_guard
  obtain ⟨x0, x1, x2, x3, x4⟩ := R
  simp only [KnownV.v] at heq htd hrd
  clear hR hm hn
  go_enter Tryd.func5, Tryd.ntmps5
  go_wp2_with fail
  refine (shown_any _).mono ?_
  rintro _ w1 ⟨rfl, t1⟩
  go_wp2_with fail
  refine (htk _).mono ?_
  rintro _ w2 ⟨rfl, t2⟩
  go_wp2_with fail
  refine (hrt _).mono ?_
  rintro _ w3 ⟨rfl, t3⟩
  have tw : Touch [] w w3 := (t1.trans t2 (by simp)).trans t3 (by simp)
  clear t1 t2 t3
  have hmin : (min (l.length : Int) 4).toNat = m := by omega
  clear hm4
  go_wp2_with fail
  refine (htd _ tw).mono ?_
  rintro _ w4 ⟨rfl, t4⟩
  have tw := tw.trans t4 (by simp)
  go_wp2_with fail
  refine (hrd _ tw).mono ?_
  rintro _ w5 ⟨rfl, t5⟩
  have tw := tw.trans t5 (by simp)
  clear t4 t5
  go_wp2_with fail
  go_ret
  exact ⟨rfl, tw⟩
end Go.Proofs.YtgdmiodcfdcihaaDoor
