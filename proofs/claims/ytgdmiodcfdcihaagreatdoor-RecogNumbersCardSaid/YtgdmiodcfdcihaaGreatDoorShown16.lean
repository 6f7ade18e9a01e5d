/- rhytonlaw16.shown: the document's example. -/
import Derived.Test.YtgdmiodcfdcihaaGreatDoorRecog4
import Derived.Laws.StructEq
namespace Go.Proofs.YtgdmiodcfdcihaaGreatDoor
open Go.RowKit

/-- what a text is by one recognizer; R: as a real number -/
def oneF (s : ByteArray) (H : List Head) (base : Int) (zs : List Small) (R : KnownV) (k : Int) : KnownV :=
  if k = -6 then toldK (localK (lastF zs (foldB s) zs.length)) (lastF zs (foldB s) zs.length).isSome
  else if k = -1 then toldK ⟨1, ((lookH H (foldB s) H.length).getD Head.none).xt, ((lookH H (foldB s) H.length).getD Head.none).now, 0, 0⟩ (lookH H (foldB s) H.length).isSome
  else if k = -2 then toldK ⟨2, 0, false, (numF s base).1.1, 0⟩ ((numF s base).2 == 1)
  else if k = -3 then toldK ⟨3, 0, false, (numF s base).1.1, (numF s base).1.2⟩ ((numF s base).2 == 2)
  else if k = -4 then toldK (charK (charF s)) (charF s).isSome
  else R

theorem One_five (w : World) (s : ByteArray) (D : Nat) (F : List Nat) (H : List Head) (base : Int) (a : Option Addr) (cap : Nat) (zs : List Small) (g : Given w s D F H base a cap zs) (R : KnownV) (k : Int) (hk : k = -6 ∨ k = -1 ∨ k = -2 ∨ k = -3 ∨ k = -4) :
    Calls Tryz.prog 8 #[.int .i64 k, .string s, .pointer (some ⟨D, 0, none⟩), .int .i64 base, .slice a zs.length cap] w fun e w' => e = .returned (oneF s H base zs R k).v ∧ Touch [] w w' := by
  rcases hk with rfl | rfl | rfl | rfl | rfl
  · exact One_local w s D F H base a cap zs g
  · exact One_name w s D F H base a cap zs g
  · exact One_cell w s D F H base a cap zs g
  · exact One_pair w s D F H base a cap zs g
  · exact One_char w s D F H base a cap zs g

theorem known_struct : Tryz.prog.underlying 27 = some (.struct (Tryz.prog.fieldsOf 27)) := by kernel_rfl
theorem known_stood : Tryz.prog.stoodInHeld 27 = false := by kernel_rfl
theorem known_guard : Tryz.prog.eqGuardType Tryz.prog.depth 27 = false := by kernel_rfl
theorem known_eql (p q : KnownV) (w : World) : (binOp .eql 27 p.v q.v).run Tryz.prog w = .ok (.bool (p.kind == q.kind && p.xt == q.xt && p.now == q.now && p.a == q.a && p.b == q.b)) w := by
  unfold KnownV.v
  rw [run_eql_struct, run_equalIn_agg _ _ _ _ _ known_struct known_stood]
  simp only [Program.fieldsOf, Tryz.underlying27]
  go_simp
  repeat' split
  all_goals simp_all

def letterA : ByteArray := ⟨#[39, 65, 39]⟩
theorem shown_all : allF (oneF letterA [] 10 [] KnownV.none) firstL = (⟨2, 0, false, 65, 0⟩, 4) := by kernel_rfl
theorem shown_four (k : Nat) (hk : k < 6) (h : ∀ i, i < k → (oneF letterA [] 10 [] KnownV.none (firstL.getD i 0)).kind = 0) : firstL.getD k 0 = -6 ∨ firstL.getD k 0 = -1 ∨ firstL.getD k 0 = -2 ∨ firstL.getD k 0 = -3 ∨ firstL.getD k 0 = -4 := by
  rcases (show k = 0 ∨ k = 1 ∨ k = 2 ∨ k = 3 ∨ k = 4 ∨ k = 5 by omega) with rfl | rfl | rfl | rfl | rfl | rfl
  · exact .inl rfl
  · exact .inr (.inl rfl)
  · exact .inr (.inr (.inl rfl))
  · exact .inr (.inr (.inr (.inl rfl)))
  · exact .inr (.inr (.inr (.inr rfl)))
  · have := h 4 (by omega)
    have h2 : (oneF letterA [] 10 [] KnownV.none (firstL.getD 4 0)).kind = 2 := by kernel_rfl
    omega

set_option maxRecDepth 100000 in
set_option maxHeartbeats 1600000 in
theorem shown_any (w : World) : Calls Tryz.prog 6 #[] w fun e w' => e = .returned (.bool true) ∧ Touch [] w w' := by
  go_enter Tryz.func6, Tryz.ntmps6
  go_wp2_with fail
  refine (First_any _).mono ?_
  rintro _ w1 ⟨g, rfl, hn, t1⟩
  go_wp2_with fail
  refine (New_any _).mono ?_
  rintro _ w2 ⟨D, F, rfl, hd, t2, hF⟩
  have hn := hn.quiet t2
  have tw := t1.trans t2 (by simp)
  have hal := All_any w2 firstL (by decide) (some ⟨g, 0, none⟩) 6 hn (.string letterA) (.pointer (some ⟨D, 0, none⟩)) (.int .i64 10) (.slice none 0 0) (oneF letterA [] 10 [] KnownV.none) (fun k hk hz _ w' t => by
    have g : Given w' letterA D F [] 10 none 0 [] := ⟨by decide, hd.quiet t, by omega, by omega, ⟨none, 0, rfl, .inl rfl⟩, by simp⟩
    exact One_five w' letterA D F [] 10 none 0 [] g KnownV.none _ (shown_four k hk hz))
  rw [shown_all] at hal
  clear hn hd hF t1 t2
  go_wp2_with fail
  refine hal.mono ?_
  rintro _ w3 ⟨rfl, t3⟩
  have tw := tw.trans t3 (by simp)
  clear hal t3
  unfold KnownV.v
  have hg := known_guard
  have heq := fun w => known_eql ⟨2, 0, false, 65, 0⟩ ⟨2, 0, false, 65, 0⟩ w
  simp only [KnownV.v] at heq
  go_wp2_with fail
  go_ret
  exact ⟨rfl, tw.alloc _⟩
end Go.Proofs.YtgdmiodcfdcihaaGreatDoor
