/- The law's head: the document's example. -/
import Derived.Test.YtkbchpaofmlhgaaGreatDoorOps3
namespace Go.Proofs.YtkbchpaofmlhgaaGreatDoor
open Go.RowKit

/-- a state's ground: the bytes behind New -/
def bs0 : List Int := putF (List.replicate 1024 0) 0 10 8
theorem base0 : getF bs0 0 = 10 := by decide +kernel
theorem numT8 : numT 10 8 = ⟨#[56, 32]⟩ := by
  unfold numT
  rw [baseL_last 10 8 (by decide)]
  decide +kernel
theorem New1024 (w : World) : Calls Tryz.prog 11 #[.int .i64 1024] w fun e w' => ∃ s F S, e = .returned (.tuple #[.pointer (some ⟨s, 0, none⟩), .int .i64 0]) ∧ StateAt w' s F S ∧ (∀ x ∈ F, w.heap.size ≤ x) ∧ Touch [] w w' ∧ S.ok ∧ S.n = 1024 ∧ S.st = [] ∧ S.bs = bs0 ∧ S.here = 8 ∧ S.out = [] ∧ S.made = [] := by
  refine (PNew_ok 1024 (by decide) (by decide) (by decide) w).mono ?_
  rintro _ w' ⟨s, F, S, rfl, h1, h2, h3, h4, h5, h6, h7, h8, h9⟩
  exact ⟨s, F, S, rfl, h1, h2, h3, ⟨by rw [h8]; decide, by rw [h9]; decide, by rw [h4]; decide, by rw [h4]⟩, h4, h5, h6, h7, h8, h9⟩
theorem Sub.touch {w w1 : World} {F : List Nat} (hF : ∀ x ∈ F, w.heap.size ≤ x) (t : Touch [] w w1) {w2 : World} (t2 : Touch F w1 w2) : Touch [] w w2 := t.trans t2 (fun g hg => .inr (hF g hg))
theorem Sub.new {w w1 : World} {F F' : List Nat} (hF : ∀ x ∈ F, w.heap.size ≤ x) (hs : Sub w1 F F') (hz : w.heap.size ≤ w1.heap.size) : ∀ x ∈ F', w.heap.size ≤ x := fun x hx => by
  rcases hs x hx with h | h
  · exact hF x h
  · omega
theorem PAll {w : World} {s : Nat} {F : List Nat} {S : PS} (h : StateAt w s F S) (hl : S.st.length ≤ 128) : Calls Tryz.prog 15 #[.pointer (some ⟨S.k, 0, none⟩)] w fun e w' => ∃ v, e = .returned v ∧ w'.ownsRow w.heap.size 36 1 v S.st.length (cells S.st) ∧ Touch [] w w' := by
  obtain ⟨FS, ov, mv, hp, _⟩ := h
  exact All_any w S.k FS S.st hp.stk (by omega)
/-- a row that was handed out lies on, behind what touches older blocks -/
theorem row_on {w w1 w2 : World} {F : List Nat} {v : Value} {l : List Int} {s : Nat} {S : PS} (h : w1.ownsRow w.heap.size 36 1 v l.length (cells l)) (hS : StateAt w s F S) (t : Touch F w1 w2) : CellsG w2 v l :=
  row_cellsG (row_touch h t (fun x hx hm => by have h1 := own_from h x hx; have h2 := hS.lt x hm; omega))
set_option maxRecDepth 100000 in
set_option maxHeartbeats 1000000 in
theorem shown_any (w : World) : Calls Tryz.prog 10 #[] w fun e w' => e = .returned (.bool true) ∧ Touch [] w w' := by
  have hN := New1024 w
  go_enter Tryz.func10, Tryz.ntmps10
  go_wp2_with fail
  refine hN.mono ?_
  rintro _ w1 ⟨s, F, S, rfl, hS, hF, t1, hok, hn, hst, hbs, hhere, hout, hmade⟩
  clear hN
  have hD := Do_sem 82 0 _ _ here_sem (by decide) (by decide) (by decide) (by decide) w1 s F S hS hok (by rw [hst]; decide) (fun _ => trivial)
  have e1 : doP 0 (fun _ S => (([(S.here : Int)], 0), S)) S = (0, { S with st := [8] }) := by
    unfold doP
    simp [hst, hhere]
  rw [e1] at hD
  have HH := Lib.hid (And.intro hF (And.intro t1 (And.intro hok (And.intro hbs (And.intro hout hn)))))
  clear hF t1 hok hbs hhere hout hmade hn e1 hS hst
  go_wp2_with fail
  refine hD.mono ?_
  rintro _ w2 ⟨F2, rfl, hS2, t2, s2⟩
  clear hD
  obtain ⟨hF, t1, hok, hbs, hout, hn⟩ := HH.out
  have T2 := Sub.touch hF t1 t2
  have hF2 := Sub.new hF s2 t1.size
  have hSt := PStack_any hS2
  have hAl := fun w' (t : Touch [] w2 w') => (hS2.quiet t)
  have hok2 : PS.ok { S with st := [8] } := hok
  have hD := fun w3 (h : StateAt w3 s F2 { S with st := [8] }) => Do_sem 91 1 _ _ dot_sem (by decide) (by decide) (by decide) (by decide) w3 s F2 { S with st := [8] } h hok2 (by simp) (fun _ => ⟨by simp, by simp, by show 2 ≤ getF S.bs 0; rw [hbs, base0]; decide, by show getF S.bs 0 ≤ 36; rw [hbs, base0]; decide⟩)
  have e2 : doP 1 (fun l S => (([], 0), { S with out := sayL S.out (numT S.baseN (l.getD 0 0).toNat) })) { S with st := [8] } = (0, { S with st := [], out := [56, 32] }) := by
    have hb : PS.baseN { S with st := [] } = 10 := by unfold PS.baseN PS.base; rw [hbs, base0]; rfl
    have hv : sayL [] (numT 10 8) = [56, 32] := by rw [numT8]; decide +kernel
    unfold doP
    simp only [List.length_cons, List.length_nil, Nat.zero_add, Nat.sub_self, List.drop_zero, List.take_zero, List.getD_cons_zero]
    rw [hb, hout]
    show (if 1 < 1 then _ else _) = _
    rw [if_neg (by decide)]
    rw [show (8 : Int).toNat = 8 from rfl, hv]
    rfl
  rw [e2] at hD
  have hAl := PAll hS2 (by simp)
  have hz : w.heap.size ≤ w2.heap.size := T2.size
  have HG := Lib.hid (And.intro T2 (And.intro hF2 (And.intro hS2 hz)))
  clear e2 hok2 hF t1 hok hbs hout hn T2 hF2 t2 s2 HH hz
  go_wp2_with fail
  refine hSt.mono ?_
  rintro _ _ ⟨rfl, rfl⟩
  clear hSt
  go_wp2_with fail
  refine hAl.mono ?_
  rintro _ w3 ⟨v, rfl, hv, t3⟩
  clear hAl
  obtain ⟨T2, hF2, hS2, hz⟩ := HG.out
  have hD := hD w3 (hS2.quiet t3)
  obtain ⟨ra, rc, rfl⟩ := own_slice hv
  have HV := Lib.hid (And.intro hv t3)
  clear hv t3 T2 hF2 hS2 hz
  go_wp2_with fail
  refine hD.mono ?_
  rintro _ w4 ⟨F4, rfl, hS4, t4, s4⟩
  clear hD
  obtain ⟨T2, hF2, hS2, hz⟩ := HG.out
  obtain ⟨g, c, x, ex, ev, hx⟩ := (row_on HV.out.1 hS2 t4).one rfl
  injection ex with ex _
  subst ex
  injection ev with ev1 ev2 ev3
  subst ev1 ev3
  have hO := POut_any hS4
  have eO : strOfNums [56, 32] = ⟨#[56, 32]⟩ := by decide +kernel
  change Calls _ _ _ _ (fun e w' => e = .returned (.string (strOfNums [56, 32])) ∧ _) at hO
  rw [eO] at hO
  have T4 := Sub.touch hF2 (T2.trans HV.out.2 (by simp)) t4
  have HZ := Lib.hid T4
  clear T4 T2 hF2 hS2 hz HV t4 s4 hS4 eO ev2
  go_wp2_with fail
  refine hO.mono ?_
  rintro _ _ ⟨rfl, rfl⟩
  clear hO
  go_wp2_with fail
  go_ret
  exact ⟨rfl, HZ.out⟩
end Go.Proofs.YtkbchpaofmlhgaaGreatDoor
