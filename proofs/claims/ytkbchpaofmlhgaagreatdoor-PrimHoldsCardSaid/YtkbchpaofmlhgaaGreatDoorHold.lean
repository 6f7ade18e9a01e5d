/- A number that is being made: hold; begin; copies of bytes. -/
import Derived.Test.YtkbchpaofmlhgaaGreatDoorOps2
import Derived.Test.YtkbchpaofmlhgaaGreatDoorRev
namespace Go.Proofs.YtkbchpaofmlhgaaGreatDoor
open Go.RowKit

theorem bytes_one (L : List Int) : ∀ u ∈ bytesV L, u.oneCell' = true := by
  intro u hu
  obtain ⟨x, _, rfl⟩ := List.mem_map.1 hu
  rfl
theorem bytesV_length (L : List Int) : (bytesV L).length = L.length := List.length_map _
set_option maxHeartbeats 1000000 in
/-- slices.Clone of bytes -/
theorem CloneB_any (g off c : Nat) (L : List Int) (w : World) (hL : L.length ≤ 1000000) (hc : ∀ j u, (bytesV L)[j]? = some u → w.cell? ⟨g, off + j, none⟩ = some u) :
    Calls Tryz.prog 235 #[.slice (some ⟨g, off, none⟩) L.length c] w fun e w' =>
      ∃ v, e = .returned v ∧ w'.ownsRow w.heap.size 5 1 v L.length (bytesV L) ∧ Touch [] w w' := by
  obtain ⟨i0, hi, hz0, hz1, hz2⟩ := info_byte'
  have q : ∀ (w : World) (a : Option Addr) (n c n' c' : Nat), (binOp .eql 66 (.slice a n c) (.slice none n' c')).run Tryz.prog w = .ok (.bool a.isNone) w := fun w a n c n' c' => Lib.run_eql_slice_nil w _ _ a n c n' c' Tryz.underlying66
  obtain ⟨n, hn⟩ : ∃ n, L.length = n := ⟨_, rfl⟩
  have hcl : (bytesV L).length = n := by rw [bytesV_length, hn]
  rw [hn] at hL ⊢
  have A := Lib.hid hc
  clear hc hn
  go_enter Tryz.func235, Tryz.ntmps235
  go_wp2_with (at_builtin; refine wpList_append_own _ rfl _ _ 66 rfl w.heap.size 5 i0 (.int .u8 0) 1 1 Tryz.underlying66 hi hz0 hz1 hz2 rfl (by decide) _ _ _ rfl (World.ownsRow_made w #[] 0 (Nat.le_refl _) (Nat.zero_le _) rfl) ⟨g, off, none⟩ n c (bytesV L) rfl ?qc1 ?qc2 ?qc3 ?qc4 ?qc5 ?qc6 ?_)
  case qc1 => omega
  case qc2 =>
    intro j u hj
    rw [Addr.add_lit]
    exact Lib.cell?_alloc_some _ (A.out j u hj)
  case qc3 => exact bytes_one L
  case qc4 => unfold maxLen; omega
  case qc5 => omega
  case qc6 => simp
  intro v' w1 hown hgrow hnil
  go_wp2
  go_ret
  refine ⟨v', rfl, by simpa using hown, Touch.of_below ?_ _⟩
  exact ((Below.refl _ w).alloc (Nat.le_refl _) _).grown hgrow (by simp) (by intro k hk; simp [Value.ownBlock] at hk; omega)
set_option maxHeartbeats 1000000 in
theorem CloneB_nil (n c : Nat) (w : World) : Calls Tryz.prog 235 #[.slice none n c] w fun e w' => e = .returned (.slice none 0 0) ∧ w = w' := by
  have q : ∀ (w : World) (a : Option Addr) (n c n' c' : Nat), (binOp .eql 66 (.slice a n c) (.slice none n' c')).run Tryz.prog w = .ok (.bool a.isNone) w := fun w a n c n' c' => Lib.run_eql_slice_nil w _ _ a n c n' c' Tryz.underlying66
  go_enter Tryz.func235, Tryz.ntmps235
  go_wp2
  go_ret
  exact ⟨rfl, rfl⟩
theorem CloneB_row {w : World} {v : Value} {L : List Int} (h : BRow w v L) (hL : L.length ≤ 1000000) : Calls Tryz.prog 235 #[v] w fun e w' =>
      ∃ v, e = .returned v ∧ w'.ownsRow w.heap.size 5 1 v L.length (bytesV L) ∧ Touch [] w w' := by
  rcases h.1.2 with ⟨rfl, h0⟩ | ⟨g, cap, cur, rfl, _⟩
  · obtain rfl := List.eq_nil_of_length_eq_zero h0
    refine (CloneB_nil 0 0 w).mono ?_
    rintro _ _ ⟨rfl, rfl⟩
    exact ⟨_, rfl, World.ownsRow_nil _ _ _ _, Touch.refl _ _⟩
  · exact CloneB_any g 0 cap L w hL (fun j u hj => by
      have := h.1.cells (g := g) rfl j u hj
      rw [add_off] at this
      exact this)

section
variable {w w' : World} {s : Nat} {F FS : List Nat} {ov mv : Value} {S : PS}
theorem Parts.s_apart (h : Parts w s FS ov mv S) : s ∉ rowOf mv := fun hm => h.blk.ty.ne (row_ty h.made.1 _ hm) (by decide) rfl
/-- the number that is being made turns -/
theorem Parts.making {mv' : Value} {made' : List Int} (h : Parts w s FS ov mv S) (hb : Blk w' s 83 #[.pointer (some ⟨S.t, 0, none⟩), .pointer (some ⟨S.k, 0, none⟩), .pointer (some ⟨S.m, 0, none⟩), mv']) (hr : BRow w' mv' made') (t : Touch (s :: rowOf mv) w w') (hs : ∀ x ∈ rowOf mv', x ∈ rowOf mv ∨ w.heap.size ≤ x) : Parts w' s FS ov mv' { S with made := made' } := by
  have key : ∀ a ty, TyAt w a ty → ty ≠ 83 → a ∉ rowOf mv → a ∉ s :: rowOf mv := fun a ty ha h1 h2 hf => by
    rcases List.mem_cons.1 hf with rfl | hf
    · exact ha.ne h.blk.ty h1 rfl
    · exact h2 hf
  obtain ⟨a1, a2, a3, a4, a5, a6⟩ := h.stk_apart
  have hg : S.g ∉ rowOf mv' := fun hm => by
    rcases hs _ hm with h1 | h1
    · exact h.gm h1
    · have := h.mem.row.lt; omega
  refine ⟨hb, h.tel.touch t (key _ _ h.tel.ty (by decide) (fun hm => h.tel.ty.ne (row_ty h.made.1 _ hm) (by decide) rfl)), h.stk.touch t (fun f hf hm => ?_), h.mem.touch t (key _ _ h.mem.blk.ty (by decide) (fun hm => h.mem.blk.ty.ne (row_ty h.made.1 _ hm) (by decide) rfl)) (key _ _ h.mem.row.ty (by decide) h.gm), ⟨row_touch h.out.1 t (fun x hx => key _ _ (row_ty h.out.1 x hx) (by decide) (fun hm => h.om x hx hm)), h.out.2⟩, hr, h.go, hg, fun x hx hm => ?_⟩
  · rcases List.mem_cons.1 hm with rfl | hm
    · exact a1 hf
    · exact a6 _ hm hf
  · rcases hs _ hm with h1 | h1
    · exact h.om x hx h1
    · have := row_lt h.out.1 hx; omega
theorem foot_making {mv' : Value} {made' : List Int} (hs : ∀ x ∈ rowOf mv', x ∈ rowOf mv ∨ w.heap.size ≤ x) : Sub w (foot s S FS ov mv) (foot s { S with made := made' } FS ov mv') := by
  intro f hf
  simp only [foot, List.mem_cons, List.mem_append] at hf ⊢
  rcases hf with h | h | h | h | h | h | h
  · exact .inl (.inl h)
  · exact .inl (.inr (.inl h))
  · exact .inl (.inr (.inr (.inl h)))
  · exact .inl (.inr (.inr (.inr (.inl h))))
  · exact .inl (.inr (.inr (.inr (.inr (.inl h)))))
  · exact .inl (.inr (.inr (.inr (.inr (.inr (.inl h))))))
  · rcases hs f h with h | h
    · exact .inl (.inr (.inr (.inr (.inr (.inr (.inr h))))))
    · exact .inr h
theorem foot_has_made : ∀ x ∈ s :: rowOf mv, x ∈ foot s S FS ov mv := fun x hx => by
  rcases List.mem_cons.1 hx with rfl | hx
  · simp [foot]
  · simp [foot, hx]
theorem done_making {mv' : Value} {made' : List Int} (h : Parts w s FS ov mv S) (hb : Blk w' s 83 #[.pointer (some ⟨S.t, 0, none⟩), .pointer (some ⟨S.k, 0, none⟩), .pointer (some ⟨S.m, 0, none⟩), mv']) (hr : BRow w' mv' made') (t : Touch (s :: rowOf mv) w w') (hs : ∀ x ∈ rowOf mv', x ∈ rowOf mv ∨ w.heap.size ≤ x) : Done w s (foot s S FS ov mv) S { S with made := made' } w' :=
  ⟨_, ⟨FS, ov, mv', h.making hb hr t hs, rfl⟩, ⟨rfl, rfl, rfl, rfl, rfl, rfl⟩, t.mono (fun g hg => .inl (foot_has_made g hg)), foot_making hs⟩

set_option maxRecDepth 100000 in
set_option maxHeartbeats 2000000 in
theorem hold_ok (h : StateAt w s F S) (hl : S.made.length < 200) (c : Int) (hc : 0 ≤ c ∧ c ≤ 255) :
    Calls Tryz.prog 183 #[.pointer (some ⟨s, 0, none⟩), .int .u8 c] w fun e w' => e = .returned (.int .i64 0) ∧ Done w s F S { S with made := S.made ++ [c] } w' := by
  obtain ⟨i0, hi, hz0, hz1, hz2⟩ := info_byte'
  obtain ⟨FS, ov, mv, hp, rfl⟩ := h
  have s3 := hp.blk.cell 3
  have hbl := hp.blk.lt
  obtain ⟨n, hn⟩ : ∃ n, S.made.length = n := ⟨_, rfl⟩
  have hr := hp.made.1
  rw [hn] at hl hr
  obtain ⟨a, cap, rfl⟩ := own_slice hr
  have hnb := hp.s_apart
  have hrA := row_touch hr ((Touch.refl [] w).alloc (.cells #[.int .u8 c] 5)) (by simp)
  have bC := Blk.new w 5 #[.int .u8 c]
  have g1 : ¬ (n : Int) ≥ 200 := by omega
  have HP := Lib.hid (And.intro hp (And.intro hn hc))
  clear hp hn hc hr
  go_enter Tryz.func183, Tryz.ntmps183
  go_wp2_with (at_builtin; refine wpList_append_own_at _ rfl _ _ 66 rfl 0 5 i0 (.int .u8 0) 1 1 Tryz.underlying66 hi hz0 hz1 hz2 rfl (by decide) _ _ _ rfl hrA ⟨w.heap.size, 0, none⟩ 1 1 (bytesV [c]) rfl rfl ?qc2 ?qc3 ?qc4 ?qc5 (Nat.zero_le _) ?_)
  case qc2 =>
    intro j u hj
    have h2 := (List.getElem?_eq_some_iff.1 hj).1
    have hj0 : j = 0 := by simp [bytesV] at h2; omega
    subst hj0
    first | simpa [bytesV] using hj | (rw [add_off, bC.cell (0 + 0)]; simpa [bytesV] using hj)
  case qc3 => exact bytes_one [c]
  case qc4 => unfold maxLen; omega
  case qc5 => omega
  intro v' w1 hown hgrow hnil hloc
  have hB0 := HP.out.1.blk.alloc (.cells #[.int .u8 c] 5)
  have hB := hB0.grown hgrow (fun e => hnb (rowOf_mem.2 e.symm))
  have hf3 := hB.frozen 3
  have c3 := hB.cell 3
  have htt := fun u => (((Touch.refl (s :: rowOf (.slice a n cap)) w).alloc (.cells #[.int .u8 c] 5)).grown hgrow (fun k hk => .inl (by simp [rowOf_mem, hk]))).setCell (p := ⟨s, 3, none⟩) (by simp) u
  have hat : ∀ x ∈ rowOf v', x ∈ rowOf (.slice a n cap) ∨ w.heap.size ≤ x := fun x hx => by
    rcases hloc with e | e
    · exact .inl (rowOf_mem.2 (e ▸ rowOf_mem.1 hx))
    · rw [rowOf_mem.1 hx] at e
      simp at e
      exact .inr (by omega)
  have hnb' : s ∉ rowOf v' := fun hm => by
    rcases hat s hm with h | h
    · exact hnb h
    · omega
  clear hloc hnil hgrow hrA bC
  obtain ⟨a', c', rfl⟩ := own_slice hown
  have H1 := Lib.hid (And.intro htt (And.intro hown (And.intro hat (And.intro hB hnb'))))
  clear htt hown hat hB hB0 s3 hnb hnb'
  go_wp2_with fail
  go_ret
  obtain ⟨htt, hown, hat, hB, hnb'⟩ := H1.out
  obtain ⟨hp, hn, hc⟩ := HP.out
  refine ⟨rfl, done_making hp (hB.set_ 3 _) ⟨?_, hp.made.2.append (fun x hx => by rw [List.mem_singleton.1 hx]; exact hc)⟩ (htt _) hat⟩
  have e : (S.made ++ [c]).length = n + 1 := by rw [List.length_append, hn]; rfl
  rw [e, bytesV_append]
  exact row_touch hown ((Touch.refl [s] w1).setCell (by simp) _) (fun k hk hkb => hnb' (by rw [List.mem_singleton.1 hkb] at hk; exact hk))
theorem hold_full (h : StateAt w s F S) (hl : ¬ S.made.length < 200) (c : Int) :
    Calls Tryz.prog 183 #[.pointer (some ⟨s, 0, none⟩), .int .u8 c] w fun e w' => e = .returned (.int .i64 (-17)) ∧ w = w' := by
  obtain ⟨FS, ov, mv, hp, rfl⟩ := h
  have s3 := hp.blk.cell 3
  obtain ⟨n, hn⟩ : ∃ n, S.made.length = n := ⟨_, rfl⟩
  have hr := hp.made.1
  rw [hn] at hl hr
  obtain ⟨a, cap, rfl⟩ := own_slice hr
  have g1 : (n : Int) ≥ 200 := by omega
  clear hr hp hn
  go_enter Tryz.func183, Tryz.ntmps183
  go_wp2_with fail
  go_ret
  exact ⟨rfl, rfl⟩
end
end Go.Proofs.YtkbchpaofmlhgaaGreatDoor
