/- The state's Say, Out, Base, Stack, Mem. -/
import Derived.Test.YtkbchpaofmlhgaaGreatDoorSay
import Derived.Shelf.Bytes.SlSmallAll
namespace Go.Proofs.YtkbchpaofmlhgaaGreatDoor
open Go.RowKit

theorem nums_str (s : ByteArray) : strOfNums (strL s) = s := by
  apply ByteArray.ext
  apply Array.ext'
  rw [strOfNums_data, strL, List.map_map]
  exact (List.map_congr_left (fun b _ => by simp)).trans (List.map_id _)
theorem str_nums {l : List Int} (h : Bytes l) : strL (strOfNums l) = l := by
  unfold strL
  rw [strOfNums_data, List.map_map]
  refine (List.map_congr_left (g := id) (fun x hx => ?_)).trans (List.map_id _)
  have hx := h x hx
  simp only [Function.comp, id]
  rw [UInt8.toNat_ofNat']
  omega
theorem row_text {w : World} {v : Value} {l : List Int} (h : BRow w v l) : (convert 66 9 v).run Tryz.prog w = .ok (.string (strOfNums l)) w := by
  rcases h.1.2 with ⟨rfl, h0⟩ | ⟨g, cap, cur, rfl, _⟩
  · obtain rfl := List.eq_nil_of_length_eq_zero h0
    exact run_convert_bytes_zero w _ _ Tryz.underlying66 Tryz.underlying5 none 0 _ Tryz.underlying9
  · refine run_convert_bytes_arg (P := Tryz.prog) w _ _ Tryz.underlying66 Tryz.underlying5 g 0 l.length cap l rfl (fun i hi => ?_) _ Tryz.underlying9
    have := h.1.cells (g := g) rfl i (.int .u8 (l.getD i 0)) (by simp [bytesV, List.getD, List.getElem?_eq_getElem hi])
    rw [add_off] at this
    exact this

section
variable {w w' : World} {s : Nat} {F FS : List Nat} {ov mv : Value} {S : PS}
theorem Parts.t_apart (h : Parts w s FS ov mv S) : S.t ∉ rowOf ov := fun hm => h.tel.ty.ne (row_ty h.out.1 _ hm) (by decide) rfl
/-- more is told -/
theorem Parts.told {ov' : Value} {out' : List Int} (h : Parts w s FS ov mv S) (hb : Blk w' S.t 81 #[ov']) (hr : BRow w' ov' out') (t : Touch (S.t :: rowOf ov) w w') (hs : ∀ x ∈ rowOf ov', x ∈ rowOf ov ∨ w.heap.size ≤ x) : Parts w' s FS ov' mv { S with out := out' } := by
  have key : ∀ a ty, TyAt w a ty → ty ≠ 81 → a ∉ rowOf ov → a ∉ S.t :: rowOf ov := fun a ty ha h1 h2 hf => by
    rcases List.mem_cons.1 hf with rfl | hf
    · exact ha.ne h.tel.ty h1 rfl
    · exact h2 hf
  obtain ⟨a1, a2, a3, a4, a5, a6⟩ := h.stk_apart
  have hg : S.g ∉ rowOf ov' := fun hm => by
    rcases hs _ hm with h1 | h1
    · exact h.go h1
    · have := h.mem.row.lt; omega
  refine ⟨h.blk.touch t (key _ _ h.blk.ty (by decide) (fun hm => h.blk.ty.ne (row_ty h.out.1 _ hm) (by decide) rfl)), hb, h.stk.touch t (fun f hf hm => ?_), h.mem.touch t (key _ _ h.mem.blk.ty (by decide) (fun hm => h.mem.blk.ty.ne (row_ty h.out.1 _ hm) (by decide) rfl)) (key _ _ h.mem.row.ty (by decide) h.go), hr, ⟨row_touch h.made.1 t (fun x hx => key _ _ (row_ty h.made.1 x hx) (by decide) (fun hm => h.om x hm hx)), h.made.2⟩, hg, h.gm, fun x hx hm => ?_⟩
  · rcases List.mem_cons.1 hm with rfl | hm
    · exact a2 hf
    · exact a5 _ hm hf
  · rcases hs _ hx with h1 | h1
    · exact h.om x h1 hm
    · have := row_lt h.made.1 hm; omega
theorem foot_told {ov' : Value} {out' : List Int} (hs : ∀ x ∈ rowOf ov', x ∈ rowOf ov ∨ w.heap.size ≤ x) : Sub w (foot s S FS ov mv) (foot s { S with out := out' } FS ov' mv) := by
  intro f hf
  simp only [foot, List.mem_cons, List.mem_append] at hf ⊢
  rcases hf with h | h | h | h | h | h | h
  · exact .inl (.inl h)
  · exact .inl (.inr (.inl h))
  · exact .inl (.inr (.inr (.inl h)))
  · exact .inl (.inr (.inr (.inr (.inl h))))
  · exact .inl (.inr (.inr (.inr (.inr (.inl h)))))
  · rcases hs f h with h | h
    · exact .inl (.inr (.inr (.inr (.inr (.inr (.inl h))))))
    · exact .inr h
  · exact .inl (.inr (.inr (.inr (.inr (.inr (.inr h))))))
theorem foot_has_out : ∀ x ∈ S.t :: rowOf ov, x ∈ foot s S FS ov mv := fun x hx => by
  rcases List.mem_cons.1 hx with rfl | hx
  · simp [foot]
  · simp [foot, hx]

theorem PSay_any (h : StateAt w s F S) (hl : S.out.length ≤ 4000) (x : ByteArray) :
    Calls Tryz.prog 36 #[.pointer (some ⟨s, 0, none⟩), .string x] w fun e w' => ∃ F', e = .returned (.tuple #[]) ∧ StateAt w' s F' { S with out := sayL S.out x } ∧ Touch F w w' ∧ Sub w F F' := by
  obtain ⟨FS, ov, mv, hp, rfl⟩ := h
  have hT := TSay_any w S.t ov S.out hp.tel hp.out hp.t_apart hl x
  have s0 := hp.blk.cell 0
  have HP := Lib.hid hp
  clear hp
  go_enter Tryz.func36, Tryz.ntmps36
  go_wp2_with fail
  refine hT.mono ?_
  rintro _ w1 ⟨v', rfl, k1, k2, t1, k3⟩
  have hfin := HP.out.told k1 k2 t1 k3
  have HF := Lib.hid (And.intro hfin (And.intro (t1.mono (G := foot s S FS ov mv) (fun g hg => .inl (foot_has_out g hg))) (foot_told (s := s) (S := S) (FS := FS) (mv := mv) (out' := sayL S.out x) k3)))
  clear hT hfin k1 k2 t1 k3 s0
  go_wp2_with fail
  go_end0
  exact ⟨_, rfl, ⟨_, _, _, HF.out.1, rfl⟩, HF.out.2.1, HF.out.2.2⟩
theorem POut_any (h : StateAt w s F S) : Calls Tryz.prog 17 #[.pointer (some ⟨s, 0, none⟩)] w fun e w' => e = .returned (.string (strOfNums S.out)) ∧ w = w' := by
  obtain ⟨FS, ov, mv, hp, rfl⟩ := h
  have s0 := hp.blk.cell 0
  have t0 := hp.tel.cell 0
  have hc := row_text hp.out
  clear hp
  have hT : Calls Tryz.prog 46 #[.pointer (some ⟨S.t, 0, none⟩)] w fun e w' => e = .returned (.string (strOfNums S.out)) ∧ w = w' := by
    go_enter Tryz.func46, Tryz.ntmps46
    go_wp2_with fail
    go_ret
    exact ⟨rfl, rfl⟩
  clear t0 hc
  go_enter Tryz.func17, Tryz.ntmps17
  go_wp2_with fail
  refine hT.mono ?_
  rintro _ _ ⟨rfl, rfl⟩
  go_wp2_with fail
  go_ret
  exact ⟨rfl, rfl⟩
theorem PStack_any (h : StateAt w s F S) : Calls Tryz.prog 12 #[.pointer (some ⟨s, 0, none⟩)] w fun e w' => e = .returned (.pointer (some ⟨S.k, 0, none⟩)) ∧ w = w' := by
  obtain ⟨FS, ov, mv, hp, rfl⟩ := h
  have s0 := hp.blk.cell 1
  clear hp
  go_enter Tryz.func12, Tryz.ntmps12
  go_wp2_with fail
  go_ret
  exact ⟨rfl, rfl⟩
theorem PMem_any (h : StateAt w s F S) : Calls Tryz.prog 31 #[.pointer (some ⟨s, 0, none⟩)] w fun e w' => e = .returned (.pointer (some ⟨S.m, 0, none⟩)) ∧ w = w' := by
  obtain ⟨FS, ov, mv, hp, rfl⟩ := h
  have s0 := hp.blk.cell 2
  clear hp
  go_enter Tryz.func31, Tryz.ntmps31
  go_wp2_with fail
  go_ret
  exact ⟨rfl, rfl⟩
/-- the base that is written -/
def PS.base (S : PS) : Int := getF S.bs 0
theorem Base_ok (h : StateAt w s F S) (hn : 1024 ≤ S.n) (hb : 2 ≤ S.base ∧ S.base ≤ 36) : Calls Tryz.prog 18 #[.pointer (some ⟨s, 0, none⟩)] w fun e w' => e = .returned (.tuple #[.int .i64 S.base, .int .i64 0]) ∧ Touch [] w w' := by
  obtain ⟨FS, ov, mv, hp, rfl⟩ := h
  have s2 := hp.blk.cell 2
  have hG := Get_ok hp.mem 0 (by omega) (by decide)
  have e : getF S.bs 0 = S.base := rfl
  rw [e] at hG
  clear e hp
  generalize S.base = b at *
  have g1 : ¬ b < 2 := by omega
  have g2 : ¬ b > 36 := by omega
  go_enter Tryz.func18, Tryz.ntmps18
  go_wp2_with fail
  refine hG.mono ?_
  rintro _ w1 ⟨rfl, t1⟩
  clear hG
  go_wp2_with fail
  go_ret2
  exact ⟨rfl, t1⟩
theorem Base_bad (h : StateAt w s F S) (hn : 1024 ≤ S.n) (hb : ¬ (2 ≤ S.base ∧ S.base ≤ 36)) : Calls Tryz.prog 18 #[.pointer (some ⟨s, 0, none⟩)] w fun e w' => e = .returned (.tuple #[.int .i64 0, .int .i64 (-40)]) ∧ Touch [] w w' := by
  obtain ⟨FS, ov, mv, hp, rfl⟩ := h
  have s2 := hp.blk.cell 2
  have hG := Get_ok hp.mem 0 (by omega) (by decide)
  have e : getF S.bs 0 = S.base := rfl
  rw [e] at hG
  clear e hp
  generalize S.base = b at *
  by_cases g1 : b < 2
  all_goals try have g2 : b > 36 := by omega
  all_goals
    go_enter Tryz.func18, Tryz.ntmps18
    go_wp2_with fail
    refine hG.mono ?_
    rintro _ w1 ⟨rfl, t1⟩
    clear hG
    go_wp2_with fail
    go_ret2
    exact ⟨rfl, t1⟩
end
end Go.Proofs.YtkbchpaofmlhgaaGreatDoor
