/- A run in memory, and the contracts of its methods. -/
import Derived.Test.YtnhhflnanogpjaaGreatDoorDo5
import Derived.WalkSmall
namespace Go.Proofs.YtnhhflnanogpjaaGreatDoor
open Go.RowKit

structure RunParts (w : World) (b bS : Nat) (FS : List Nat) (lv pv : Value) (r : Run) : Prop where
  blk : Blk w b 51 #[.pointer (some ⟨bS, 0, none⟩), lv, pv, .int .i64 r.steps, .int .i64 r.fuel]
  stk : StackAt w bS FS r.st
  loc : w.ownsRow 0 34 1 lv r.locals.length (cells r.locals)
  lps : w.ownsRow 0 34 1 pv r.loops.length (cells r.loops)
  bs : b ∉ FS
  bl : b ∉ rowOf lv
  bp : b ∉ rowOf pv
  sl : ∀ g ∈ FS, g ∉ rowOf lv
  sp : ∀ g ∈ FS, g ∉ rowOf pv
  lp : ∀ g ∈ rowOf lv, g ∉ rowOf pv
  tie : bS = r.sb
/-- a run lies at block b, over the blocks F -/
def RunAt (w : World) (b : Nat) (F : List Nat) (r : Run) : Prop := ∃ bS FS lv pv, RunParts w b bS FS lv pv r ∧ F = b :: (FS ++ (rowOf lv ++ rowOf pv))
/-- what is left of it -/
def RunLeft (w : World) (b : Nat) (F : List Nat) (r : Run) (w' : World) : Prop := ∃ F', RunAt w' b F' r ∧ Touch F w w' ∧ Sub w F F'

theorem RunAt.touch {w w' : World} {b : Nat} {F G : List Nat} {r : Run} (h : RunAt w b F r) (t : Touch G w w') (hn : ∀ f, f ∈ F → f ∉ G) : RunAt w' b F r := by
  obtain ⟨bS, FS, lv, pv, ⟨blk, stk, loc, lps, bs, bl, bp, sl, sp, lp, tie⟩, rfl⟩ := h
  exact ⟨bS, FS, lv, pv, ⟨blk.touch t (hn b (by simp)), stk.touch t (fun f hf => hn f (by simp [hf])), row_touch loc t (fun f hf => hn f (by simp [hf])), row_touch lps t (fun f hf => hn f (by simp [hf])), bs, bl, bp, sl, sp, lp, tie⟩, rfl⟩
theorem RunAt.lt {w : World} {b : Nat} {F : List Nat} {r : Run} (h : RunAt w b F r) : ∀ f, f ∈ F → f < w.heap.size := by
  obtain ⟨bS, FS, lv, pv, ⟨blk, stk, loc, lps, bs, bl, bp, sl, sp, lp, tie⟩, rfl⟩ := h
  intro f hf
  simp only [List.mem_cons, List.mem_append] at hf
  rcases hf with rfl | hf | hf | hf
  · exact blk.lt
  · exact stk.lt f hf
  · exact row_lt loc hf
  · exact row_lt lps hf
theorem RunLeft.trans {w w1 w2 : World} {b : Nat} {F F1 : List Nat} {r : Run} (hF : Touch F w w1) (hs : Sub w F F1) (k : RunLeft w1 b F1 r w2) : RunLeft w b F r w2 := by
  obtain ⟨F2, h, t, s⟩ := k
  exact ⟨F2, h, hF.trans t hs, hs.trans s hF.size⟩
theorem RunLeft.quiet {w w' : World} {b : Nat} {F : List Nat} {r : Run} (h : RunAt w b F r) (t : Touch [] w w') : RunLeft w b F r w' :=
  ⟨F, h.touch t (by simp), t.mono (by simp), Sub.refl _ _⟩

/-- what is left of a run that was ended: whatever its loops are -/
def RunLost (w : World) (b : Nat) (F : List Nat) (r : Run) (w' : World) : Prop := ∃ X, RunLeft w b F { r with loops := X } w'
theorem RunLeft.lost {w w' : World} {b : Nat} {F : List Nat} {r : Run} (h : RunLeft w b F r w') : RunLost w b F r w' := ⟨r.loops, h⟩
theorem RunLost.trans {w w1 w2 : World} {b : Nat} {F F1 : List Nat} {r : Run} (hF : Touch F w w1) (hs : Sub w F F1) (k : RunLost w1 b F1 r w2) : RunLost w b F r w2 := by
  obtain ⟨X, k⟩ := k
  exact ⟨X, RunLeft.trans hF hs k⟩

/-- the stack has turned -/
theorem RunParts.stack {w w' : World} {b bS : Nat} {FS FS' : List Nat} {lv pv : Value} {r : Run} {st : List Int} (h : RunParts w b bS FS lv pv r) (hs : StackAt w' bS FS' st) (t : Touch FS w w') (s : Sub w FS FS') :
    RunLeft w b (b :: (FS ++ (rowOf lv ++ rowOf pv))) { r with st := st } w' := by
  obtain ⟨blk, stk, loc, lps, bs, bl, bp, sl, sp, lp, tie⟩ := h
  have hb := blk.lt
  refine ⟨_, ⟨bS, FS', lv, pv, ⟨blk.touch t bs, hs, row_touch loc t (fun f hf hg => sl f hg hf), row_touch lps t (fun f hf hg => sp f hg hf), ?_, bl, bp, ?_, ?_, lp, tie⟩, rfl⟩, t.mono (fun f hf => .inl (by simp [hf])), ?_⟩
  · intro hf
    rcases s _ hf with h | h
    · exact bs h
    · omega
  · intro g hg hl
    rcases s _ hg with h | h
    · exact sl g h hl
    · have := row_lt loc hl; omega
  · intro g hg hl
    rcases s _ hg with h | h
    · exact sp g h hl
    · have := row_lt lps hl; omega
  · intro f hf
    simp only [List.mem_cons, List.mem_append] at hf ⊢
    rcases hf with rfl | hf | hf | hf
    · exact .inl (.inl rfl)
    · rcases s _ hf with h | h
      · exact .inl (.inr (.inl h))
      · exact .inr h
    · exact .inl (.inr (.inr (.inl hf)))
    · exact .inl (.inr (.inr (.inr hf)))

/-- what ends a run -/
def stopV (e : Int) (out : Bool) : Value := .iface 53 (.agg #[.int .i64 e, .bool out])
def stopped (e : Int) (out : Bool) : Ending := .panicked [{ v := stopV e out, recovered := false }]
/-- how a part of a run ends -/
def Ends {α : Type} (enc : α → Value → World → Prop) (w : World) (b : Nat) (F : List Nat) (o : Out α × Run) : Ending → World → Prop := fun e w' =>
  match o with
  | (.ok a, s) => ∃ v, e = .returned v ∧ enc a v w' ∧ RunLeft w b F s w'
  | (.bad x out, s) => e = stopped x out ∧ RunLost w b F s w'
def unitV : Unit → Value → World → Prop := fun _ v _ => v = .tuple #[]

structure Run.ok (r : Run) : Prop where
  st : ∀ x ∈ r.st, Cell64 x
  locals : ∀ x ∈ r.locals, Cell64 x
  loops : ∀ x ∈ r.loops, Cell64 x
  small : r.st.length ≤ 128
  steps : r.steps ≤ r.fuel
  fuel : r.fuel ≤ 100000

theorem RunParts.stepped {w : World} {b bS : Nat} {FS : List Nat} {lv pv : Value} {r : Run} (h : RunParts w b bS FS lv pv r) (n : Nat) (k : Nat) (i : Int) (hi : i = n) :
    RunLeft w b (b :: (FS ++ (rowOf lv ++ rowOf pv))) { r with steps := n } ((w.drewN k).setCell ⟨b, 3, none⟩ (.int .i64 i)) := by
  subst hi
  obtain ⟨blk, stk, loc, lps, bs, bl, bp, sl, sp, lp, tie⟩ := h
  have t : Touch [b] w ((w.drewN k).setCell ⟨b, 3, none⟩ (.int .i64 n)) := ((Touch.refl [b] w).drewN k).setCell (by simp) _
  refine ⟨_, ⟨bS, FS, lv, pv, ⟨(blk.drewN k).set_ 3 _, stk.touch t (fun f hf hg => ?_), row_touch loc t (fun f hf hg => ?_), row_touch lps t (fun f hf hg => ?_), bs, bl, bp, sl, sp, lp, tie⟩, rfl⟩, t.mono (by simp), Sub.refl _ _⟩
  · simp at hg; exact bs (hg ▸ hf)
  · simp at hg; exact bl (hg ▸ hf)
  · simp at hg; exact bp (hg ▸ hf)

set_option maxHeartbeats 1000000 in
theorem step_any (w : World) (b : Nat) (F : List Nat) (r : Run) (h : RunAt w b F r) (hr : r.ok) :
    Calls Tryz.prog 48 #[.pointer (some ⟨b, 0, none⟩)] w (Ends unitV w b F (stepM r)) := by
  obtain ⟨bS, FS, lv, pv, hp, rfl⟩ := id h
  have c3 := hp.blk.cell 3
  have c4 := hp.blk.cell 4
  have f3 := hp.blk.frozen 3
  have hb := Lib.hid hp
  have hfu := hr.fuel
  have H := Lib.hid h
  clear h hp
  unfold stepM
  obtain ⟨S, hS⟩ : ∃ S : Int, (r.steps : Int) = S := ⟨_, rfl⟩
  obtain ⟨U, hU⟩ : ∃ U : Int, (r.fuel : Int) = U := ⟨_, rfl⟩
  rw [hS] at c3
  rw [hU] at c4
  by_cases hs : r.fuel ≤ r.steps
  · rw [if_pos hs]
    have hSU : U ≤ S := by omega
    clear hs hS hU hr hfu
    go_enter Tryz.func48, Tryz.ntmps48
    go_wp2
    go_quiet (fail)
    go_wp2
    exact ⟨rfl, rfl, (RunLeft.quiet H.out ((Touch.refl _ _).drewN _)).lost⟩
  · rw [if_neg hs]
    have hSU : ¬ U ≤ S := by omega
    have hw : IntKind.i64.wrap (S + 1) = S + 1 := by rw [IntKind.wrap_i64]; omega
    have hS1 : S + 1 = (r.steps + 1 : Nat) := by omega
    have HS := Lib.hid hS1
    clear hs hS hU hr hfu hS1
    go_enter Tryz.func48, Tryz.ntmps48
    go_wp2
    go_quiet (fail)
    go_wp2
    go_end0
    exact ⟨_, rfl, rfl, hb.out.stepped _ _ _ HS.out⟩

theorem asks_ok (w : World) : Calls Tryz.prog 42 #[.int .i64 0] w fun e w' => e = .returned (.tuple #[]) ∧ w = w' := by
  go_enter Tryz.func42, Tryz.ntmps42
  go_wp2
  go_end0
  exact ⟨rfl, rfl⟩
theorem asks_bad (x : Int) (hx : ¬ x = 0) (w : World) : Calls Tryz.prog 42 #[.int .i64 x] w fun e w' => e = stopped x false ∧ w = w' := by
  go_enter Tryz.func42, Tryz.ntmps42
  go_wp2
  exact ⟨rfl, rfl, rfl⟩

def rowV : List Int → Value → World → Prop := fun l v w => w.ownsRow 0 34 1 v l.length (cells l)

set_option maxHeartbeats 1000000 in
theorem take_any (w : World) (b : Nat) (F : List Nat) (r : Run) (h : RunAt w b F r) (hr : r.ok) (n : Nat) (hn : n ≤ 1000) :
    Calls Tryz.prog 63 #[.pointer (some ⟨b, 0, none⟩), .int .i64 n] w (Ends rowV w b F (takeM n r)) := by
  obtain ⟨bS, FS, lv, pv, hp, rfl⟩ := id h
  have c0 := hp.blk.cell 0
  have hb := Lib.hid hp
  have H := Lib.hid h
  have hsm := hr.small
  unfold takeM
  by_cases hs : r.st.length < n
  · rw [if_pos hs]
    have hT := Take_under w bS FS r.st hp.stk n hs (by omega)
    have hA := fun w => asks_bad (-4) (by decide) w
    clear h hp
    go_enter Tryz.func63, Tryz.ntmps63
    go_wp2_with fail
    refine hT.mono ?_
    rintro _ _ ⟨rfl, rfl⟩
    go_wp2_with fail
    refine (hA _).mono ?_
    rintro _ _ ⟨rfl, rfl⟩
    exact ⟨rfl, rfl, (RunLeft.quiet H.out (Touch.refl _ _)).lost⟩
  · rw [if_neg hs]
    have hT := Take_ok w bS FS r.st hp.stk n (by omega) (by omega)
    have hA := fun w => asks_ok w
    have hdl : (r.st.drop (r.st.length - n)).length = n := by rw [List.length_drop]; omega
    clear h hp
    go_enter Tryz.func63, Tryz.ntmps63
    go_wp2_with fail
    refine hT.mono ?_
    rintro _ w1 ⟨v, rfl, hown, hst, t1⟩
    go_wp2_with fail
    refine (hA _).mono ?_
    rintro _ _ ⟨rfl, rfl⟩
    go_wp2
    go_ret
    refine ⟨v, rfl, ?_, hb.out.stack hst t1 (Sub.refl _ _)⟩
    unfold rowV
    rw [hdl]
    exact Go.Joins.ownsRow_le hown (Nat.zero_le _)

def cellV : Int → Value → World → Prop := fun x v _ => v = .int .i64 x

theorem row_first {w : World} {v : Value} {l : List Int} (h : rowV l v w) (hl : l.length = 1) : ∃ g c, v = .slice (some ⟨g, 0, none⟩) 1 c ∧ w.cell? ⟨g, 0, none⟩ = some (.int .i64 (l.getD 0 0)) := by
  unfold rowV at h
  rw [hl] at h
  obtain ⟨g, c, rfl⟩ := Go.Joins.ownsRow_form h (by omega)
  exact ⟨g, c, rfl, by rw [h.cellAt 0 (by omega)]; exact cells_get l 0 (by omega)⟩
theorem row_second {w : World} {v : Value} {l : List Int} (h : rowV l v w) (hl : l.length = 2) : ∃ g c, v = .slice (some ⟨g, 0, none⟩) 2 c ∧ w.cell? ⟨g, 0, none⟩ = some (.int .i64 (l.getD 0 0)) ∧ w.cell? ⟨g, 1, none⟩ = some (.int .i64 (l.getD 1 0)) := by
  unfold rowV at h
  rw [hl] at h
  obtain ⟨g, c, rfl⟩ := Go.Joins.ownsRow_form h (by omega)
  exact ⟨g, c, rfl, by rw [h.cellAt 0 (by omega)]; exact cells_get l 0 (by omega), by rw [h.cellAt 1 (by omega)]; exact cells_get l 1 (by omega)⟩
theorem take_len' {n : Nat} {r s : Run} {l : List Int} (h : takeM n r = (.ok l, s)) : l.length = n := by
  unfold takeM at h
  split at h
  · cases h
  · cases h
    rw [List.length_drop]
    omega

set_option maxHeartbeats 1000000 in
theorem pop_any (w : World) (b : Nat) (F : List Nat) (r : Run) (h : RunAt w b F r) (hr : r.ok) :
    Calls Tryz.prog 43 #[.pointer (some ⟨b, 0, none⟩)] w (Ends cellV w b F (popM r)) := by
  have hT := take_any w b F r h hr 1 (by omega)
  unfold popM Mn.bind
  cases ht : takeM 1 r with
  | mk o s =>
    rw [ht] at hT
    have HT := Lib.hid ht
    clear ht h hr
    cases o with
    | ok l =>
      go_enter Tryz.func43, Tryz.ntmps43
      go_wp2_with fail
      refine hT.mono ?_
      rintro _ w1 ⟨v, rfl, hv, hl⟩
      obtain ⟨g, c, rfl, hc⟩ := row_first hv (take_len' HT.out)
      obtain ⟨x, hx⟩ : ∃ x, l.getD 0 0 = x := ⟨_, rfl⟩
      rw [hx] at hc
      have HX := Lib.hid hx
      clear hx hv hT
      go_wp2
      go_ret
      refine ⟨_, rfl, ?_, hl⟩
      show _ = _
      rw [HX.out]
      rfl
    | bad e o =>
      go_enter Tryz.func43, Tryz.ntmps43
      go_wp2_with fail
      refine hT.mono ?_
      rintro _ w1 ⟨rfl, hl⟩
      exact ⟨rfl, rfl, hl⟩

set_option maxHeartbeats 1000000 in
theorem push_any (w : World) (b : Nat) (F : List Nat) (r : Run) (h : RunAt w b F r) (hr : r.ok) (x : Int) :
    Calls Tryz.prog 32 #[.pointer (some ⟨b, 0, none⟩), .int .i64 x] w (Ends unitV w b F (pushM x r)) := by
  obtain ⟨bS, FS, lv, pv, hp, rfl⟩ := id h
  have c0 := hp.blk.cell 0
  have hb := Lib.hid hp
  have H := Lib.hid h
  have hsm := hr.small
  unfold pushM
  by_cases hs : r.st.length = 128
  · rw [if_pos hs]
    have hT := Push_over w bS FS r.st hp.stk hs x
    have hA := fun w => asks_bad (-3) (by decide) w
    clear h hp
    go_enter Tryz.func32, Tryz.ntmps32
    go_wp2_with fail
    refine hT.mono ?_
    rintro _ w1 ⟨rfl, t1⟩
    go_wp2_with fail
    refine (hA _).mono ?_
    rintro _ _ ⟨rfl, rfl⟩
    exact ⟨rfl, rfl, (RunLeft.quiet H.out t1).lost⟩
  · rw [if_neg hs]
    have hT := Push_ok w bS FS r.st hp.stk (by omega) x
    have hA := fun w => asks_ok w
    clear h hp
    go_enter Tryz.func32, Tryz.ntmps32
    go_wp2_with fail
    refine hT.mono ?_
    rintro _ w1 ⟨F', rfl, hst, t1, hsub⟩
    go_wp2_with fail
    refine (hA _).mono ?_
    rintro _ _ ⟨rfl, rfl⟩
    go_wp2
    go_end0
    exact ⟨_, rfl, rfl, hb.out.stack hst t1 hsub⟩
end Go.Proofs.YtnhhflnanogpjaaGreatDoor
