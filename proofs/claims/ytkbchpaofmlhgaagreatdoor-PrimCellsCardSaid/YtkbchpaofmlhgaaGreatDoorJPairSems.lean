import Derived.Test.YtkbchpaofmlhgaaGreatDoorJPairOps2
/- What each number of prim's map of pairs does. Printed by opall.py. -/
namespace Go.Proofs.YtkbchpaofmlhgaaGreatDoor
open Go.RowKit

theorem CellsG.four {w : World} {lv : Value} {l : List Int} (h : CellsG w lv l) (hl : l.length = 4) : ∃ g c x y z u, l = [x, y, z, u] ∧ lv = .slice (some ⟨g, 0, none⟩) 4 c ∧ w.cell? ⟨g, 0, none⟩ = some (.int .i64 x) ∧ w.cell? ⟨g, 1, none⟩ = some (.int .i64 y) ∧ w.cell? ⟨g, 2, none⟩ = some (.int .i64 z) ∧ w.cell? ⟨g, 3, none⟩ = some (.int .i64 u) := by
  obtain ⟨x, y, z, u, rfl⟩ : ∃ x y z u, l = [x, y, z, u] := by
    match l, hl with
    | [x, y, z, u], _ => exact ⟨x, y, z, u, rfl⟩
  obtain ⟨g, c, e, h⟩ := h.get (by simp)
  exact ⟨g, c, x, y, z, u, rfl, e, h 0 (by simp), h 1 (by simp), h 2 (by simp), h 3 (by simp)⟩
def pf43 (l : List Int) : Int × Int := ofP (l.getD 0 0)
theorem pair43 : OpSem 43 1 (fun l _ => AllC l) (fun l S => (([(pf43 l).1, (pf43 l).2], 0), S)) :=
  wide_semP 43 1 104 (enters_of Tryz.func104 (by kernel_rfl) rfl) rfl rfl pf43 (fun _ _ _ _ h => h) (fun W l lv _ hl hc => by
    obtain ⟨ad, c, q0, rfl, rfl, c0⟩ := hc.one hl
    exact ps2 W ad c q0 c0 )
def pf44 (l : List Int) : Int × Int := addP (l.getD 0 0, l.getD 1 0) (l.getD 2 0, l.getD 3 0)
theorem pair44 : OpSem 44 4 (fun l _ => AllC l) (fun l S => (([(pf44 l).1, (pf44 l).2], 0), S)) :=
  wide_semP 44 4 106 (enters_of Tryz.func106 (by kernel_rfl) rfl) rfl rfl pf44 (fun _ _ _ _ h => h) (fun W l lv _ hl hc => by
    obtain ⟨ad, c, q0, q1, q2, q3, rfl, rfl, c0, c1, c2, c3⟩ := hc.four hl
    exact ps3 W ad c q0 q1 q2 q3 c0 c1 c2 c3 )
def pf45 (l : List Int) : Int × Int := addP (l.getD 0 0, l.getD 1 0) (negP (l.getD 2 0, l.getD 3 0))
theorem pair45 : OpSem 45 4 (fun l _ => AllC l) (fun l S => (([(pf45 l).1, (pf45 l).2], 0), S)) :=
  wide_semP 45 4 110 (enters_of Tryz.func110 (by kernel_rfl) rfl) rfl rfl pf45 (fun _ _ _ _ h => h) (fun W l lv _ hl hc => by
    obtain ⟨ad, c, q0, q1, q2, q3, rfl, rfl, c0, c1, c2, c3⟩ := hc.four hl
    exact ps4 W ad c q0 q1 q2 q3 c0 c1 c2 c3 )
def pf46 (l : List Int) : Int × Int := negP (l.getD 0 0, l.getD 1 0)
theorem pair46 : OpSem 46 2 (fun l _ => AllC l) (fun l S => (([(pf46 l).1, (pf46 l).2], 0), S)) :=
  wide_semP 46 2 112 (enters_of Tryz.func112 (by kernel_rfl) rfl) rfl rfl pf46 (fun _ _ _ _ h => h) (fun W l lv _ hl hc => by
    obtain ⟨ad, c, q0, q1, rfl, rfl, c0, c1⟩ := hc.two hl
    exact ps5 W ad c q0 q1 c0 c1 )
def pf47 (l : List Int) : Int × Int := if l.getD 1 0 < 0 then negP (l.getD 0 0, l.getD 1 0) else (l.getD 0 0, l.getD 1 0)
theorem pair47 : OpSem 47 2 (fun l _ => AllC l) (fun l S => (([(pf47 l).1, (pf47 l).2], 0), S)) :=
  wide_semP 47 2 120 (enters_of Tryz.func120 (by kernel_rfl) rfl) rfl rfl pf47 (fun _ _ _ _ h => h) (fun W l lv _ hl hc => by
    obtain ⟨ad, c, q0, q1, rfl, rfl, c0, c1⟩ := hc.two hl
    exact ps10 W ad c q0 q1 c0 c1 )
def pf48 (l : List Int) : Int := truthF (lessP (l.getD 0 0, l.getD 1 0) (l.getD 2 0, l.getD 3 0))
theorem pair48 : OpSem 48 4 (fun l _ => AllC l) (fun l S => (([pf48 l], 0), S)) :=
  gives_semP 48 4 122 (enters_of Tryz.func122 (by kernel_rfl) rfl) rfl rfl pf48 (fun _ _ _ _ h => h) (fun W l lv _ hl hc => by
    obtain ⟨ad, c, q0, q1, q2, q3, rfl, rfl, c0, c1, c2, c3⟩ := hc.four hl
    exact ps11 W ad c q0 q1 q2 q3 c0 c1 c2 c3 )
def pf49 (l : List Int) : Int := truthF (ulessP (l.getD 0 0, l.getD 1 0) (l.getD 2 0, l.getD 3 0))
theorem pair49 : OpSem 49 4 (fun l _ => AllC l) (fun l S => (([pf49 l], 0), S)) :=
  gives_semP 49 4 124 (enters_of Tryz.func124 (by kernel_rfl) rfl) rfl rfl pf49 (fun _ _ _ _ h => h) (fun W l lv _ hl hc => by
    obtain ⟨ad, c, q0, q1, q2, q3, rfl, rfl, c0, c1, c2, c3⟩ := hc.four hl
    exact ps12 W ad c q0 q1 q2 q3 c0 c1 c2 c3 )
def pf50 (l : List Int) : Int := truthF (l.getD 0 0 == l.getD 2 0 && l.getD 1 0 == l.getD 3 0)
theorem pair50 : OpSem 50 4 (fun l _ => AllC l) (fun l S => (([pf50 l], 0), S)) :=
  gives_semP 50 4 126 (enters_of Tryz.func126 (by kernel_rfl) rfl) rfl rfl pf50 (fun _ _ _ _ h => h) (fun W l lv _ hl hc => by
    obtain ⟨ad, c, q0, q1, q2, q3, rfl, rfl, c0, c1, c2, c3⟩ := hc.four hl
    exact ps13 W ad c q0 q1 q2 q3 c0 c1 c2 c3 )
def pf51 (l : List Int) : Int × Int := twiceP (l.getD 0 0, l.getD 1 0)
theorem pair51 : OpSem 51 2 (fun l _ => AllC l) (fun l S => (([(pf51 l).1, (pf51 l).2], 0), S)) :=
  wide_semP 51 2 113 (enters_of Tryz.func113 (by kernel_rfl) rfl) rfl rfl pf51 (fun _ _ _ _ h => h) (fun W l lv _ hl hc => by
    obtain ⟨ad, c, q0, q1, rfl, rfl, c0, c1⟩ := hc.two hl
    exact ps6 W ad c q0 q1 c0 c1 )
def pf52 (l : List Int) : Int × Int := halfP (l.getD 0 0, l.getD 1 0)
theorem pair52 : OpSem 52 2 (fun l _ => AllC l) (fun l S => (([(pf52 l).1, (pf52 l).2], 0), S)) :=
  wide_semP 52 2 115 (enters_of Tryz.func115 (by kernel_rfl) rfl) rfl rfl pf52 (fun _ _ _ _ h => h) (fun W l lv _ hl hc => by
    obtain ⟨ad, c, q0, q1, rfl, rfl, c0, c1⟩ := hc.two hl
    exact ps7 W ad c q0 q1 c0 c1 )
def pf53 (l : List Int) : Int × Int := mulP (l.getD 0 0) (l.getD 1 0)
theorem pair53 : OpSem 53 2 (fun l _ => AllC l) (fun l S => (([(pf53 l).1, (pf53 l).2], 0), S)) :=
  wide_semP 53 2 117 (enters_of Tryz.func117 (by kernel_rfl) rfl) rfl rfl pf53 (fun _ _ _ _ h => h) (fun W l lv _ hl hc => by
    obtain ⟨ad, c, q0, q1, rfl, rfl, c0, c1⟩ := hc.two hl
    exact ps8 W ad c q0 q1 c0 c1 )
def pf54 (l : List Int) : Int × Int := umulP (l.getD 0 0) (l.getD 1 0)
theorem pair54 : OpSem 54 2 (fun l _ => AllC l) (fun l S => (([(pf54 l).1, (pf54 l).2], 0), S)) :=
  wide_semP 54 2 118 (enters_of Tryz.func118 (by kernel_rfl) rfl) rfl rfl pf54 (fun _ _ _ _ h => h) (fun W l lv _ hl hc => by
    obtain ⟨ad, c, q0, q1, rfl, rfl, c0, c1⟩ := hc.two hl
    exact ps9 W ad c q0 q1 c0 c1 )
def pf55 (l : List Int) : (Int × Int) × Int := udivT (l.getD 0 0, l.getD 1 0) (l.getD 2 0)
theorem pair55 : OpSem 55 3 (fun l _ => AllC l) (fun l S => (([(pf55 l).1.1, (pf55 l).1.2], (pf55 l).2), S)) :=
  divides_semP 55 3 128 (enters_of Tryz.func128 (by kernel_rfl) rfl) rfl rfl pf55 (fun _ _ _ _ h => h) (fun W l lv hA hl hc => by
    obtain ⟨ad, c, q0, q1, q2, rfl, rfl, c0, c1, c2⟩ := hc.three hl
    exact ps14 W ad c q0 q1 q2 c0 c1 c2 (hA q0 (by simp)) (hA q1 (by simp)) (hA q2 (by simp)))
def pf56 (l : List Int) : (Int × Int) × Int := floorT (l.getD 0 0, l.getD 1 0) (l.getD 2 0)
theorem pair56 : OpSem 56 3 (fun l _ => AllC l) (fun l S => (([(pf56 l).1.1, (pf56 l).1.2], (pf56 l).2), S)) :=
  divides_semP 56 3 130 (enters_of Tryz.func130 (by kernel_rfl) rfl) rfl rfl pf56 (fun _ _ _ _ h => h) (fun W l lv hA hl hc => by
    obtain ⟨ad, c, q0, q1, q2, rfl, rfl, c0, c1, c2⟩ := hc.three hl
    exact ps15 W ad c q0 q1 q2 c0 c1 c2 (hA q0 (by simp)) (hA q1 (by simp)) (hA q2 (by simp)))
def pf57 (l : List Int) : (Int × Int) × Int := truncT (l.getD 0 0, l.getD 1 0) (l.getD 2 0)
theorem pair57 : OpSem 57 3 (fun l _ => AllC l) (fun l S => (([(pf57 l).1.1, (pf57 l).1.2], (pf57 l).2), S)) :=
  divides_semP 57 3 131 (enters_of Tryz.func131 (by kernel_rfl) rfl) rfl rfl pf57 (fun _ _ _ _ h => h) (fun W l lv hA hl hc => by
    obtain ⟨ad, c, q0, q1, q2, rfl, rfl, c0, c1, c2⟩ := hc.three hl
    exact ps16 W ad c q0 q1 q2 c0 c1 c2 (hA q0 (by simp)) (hA q1 (by simp)) (hA q2 (by simp)))
def pf58 (l : List Int) : Int × Int := ((floorT (mulP (l.getD 0 0) (l.getD 1 0)) (l.getD 2 0)).1.2, (floorT (mulP (l.getD 0 0) (l.getD 1 0)) (l.getD 2 0)).2)
theorem pair58 : OpSem 58 3 (fun l _ => AllC l) (fun l S => (([(pf58 l).1], (pf58 l).2), S)) :=
  mayb_semP 58 3 133 (enters_of Tryz.func133 (by kernel_rfl) rfl) rfl rfl pf58 (fun _ _ _ _ h => h) (fun W l lv b hA hl hc hB => by
    obtain ⟨ad, c, q0, q1, q2, rfl, rfl, c0, c1, c2⟩ := hc.three hl
    exact ps17 W ad b c q0 q1 q2 c0 c1 c2 (hA q2 (by simp)) hB)
def pf59 (l : List Int) : (Int × Int) × Int := floorT (mulP (l.getD 0 0) (l.getD 1 0)) (l.getD 2 0)
theorem pair59 : OpSem 59 3 (fun l _ => AllC l) (fun l S => (([(pf59 l).1.1, (pf59 l).1.2], (pf59 l).2), S)) :=
  divides_semP 59 3 100 (enters_of Tryz.func100 (by kernel_rfl) rfl) rfl rfl pf59 (fun _ _ _ _ h => h) (fun W l lv hA hl hc => by
    obtain ⟨ad, c, q0, q1, q2, rfl, rfl, c0, c1, c2⟩ := hc.three hl
    exact ps1 W ad c q0 q1 q2 c0 c1 c2 (hA q2 (by simp)))
def pf60 (l : List Int) : (Int × Int) × Int := divModT (l.getD 0 0) (l.getD 1 0)
theorem pair60 : OpSem 60 2 (fun l _ => AllC l) (fun l S => (([(pf60 l).1.1, (pf60 l).1.2], (pf60 l).2), S)) :=
  divides_semP 60 2 134 (enters_of Tryz.func134 (by kernel_rfl) rfl) rfl rfl pf60 (fun _ _ _ _ h => h) (fun W l lv _ hl hc => by
    obtain ⟨ad, c, q0, q1, rfl, rfl, c0, c1⟩ := hc.two hl
    exact ps18 W ad c q0 q1 c0 c1 )
def pf71 (l : List Int) : Int := Rl.madeOf (floatOfInt .f64 (l.getD 0 0))
theorem pair71 : OpSem 71 1 (fun l _ => AllC l) (fun l S => (([pf71 l], 0), S)) :=
  gives_semP 71 1 135 (enters_of Tryz.func135 (by kernel_rfl) rfl) rfl rfl pf71 (fun _ _ _ _ h => h) (fun W l lv _ hl hc => by
    obtain ⟨ad, c, q0, rfl, rfl, c0⟩ := hc.one hl
    exact ps19 W ad c q0 c0 )
def pf72 (l : List Int) : Int × Int := Rl.toR (l.getD 0 0)
theorem pair72 : OpSem 72 1 (fun l _ => AllC l) (fun l S => (([(pf72 l).1], (pf72 l).2), S)) :=
  may_semP 72 1 137 (enters_of Tryz.func137 (by kernel_rfl) rfl) rfl rfl pf72 (fun _ _ _ _ h => h) (fun W l lv _ hl hc => by
    obtain ⟨ad, c, q0, rfl, rfl, c0⟩ := hc.one hl
    exact ps20 W ad c q0 c0 )
end Go.Proofs.YtkbchpaofmlhgaaGreatDoor
