import Derived.Test.YtkbchpaofmlhgaaGreatDoorJLiveA
import Derived.Test.YtkbchpaofmlhgaaGreatDoorJOpsA
import Derived.Test.YtkbchpaofmlhgaaGreatDoorJDigA
import Derived.Test.YtkbchpaofmlhgaaGreatDoorJSignA
/- A number that is being made: hold; begin; copies of bytes. -/
namespace Go.Proofs.YtkbchpaofmlhgaaGreatDoor
open Go.RowKit

theorem bytes_one (L : List Int) : ∀ u ∈ bytesV L, u.oneCell' = true := by
  intro u hu
  obtain ⟨x, _, rfl⟩ := List.mem_map.1 hu
  rfl
theorem bytesV_length (L : List Int) : (bytesV L).length = L.length := List.length_map _
set_option maxHeartbeats 1000000 in
/-- slices.Clone of bytes -/
theorem CloneB_any (g off c : Nat) (L : List Int) (w : World) (hL : L.length ≤ 1000000) (hc : ∀ j u, (bytesV L)[j]? = some u → w.cell? ⟨g, off + j, none⟩ = some u) :
    Calls Tryz.prog 235 #[.slice (some ⟨g, off, none⟩) L.length c] w fun e w' =>
      ∃ v, e = .returned v ∧ w'.ownsRow w.heap.size 5 1 v L.length (bytesV L) ∧ Touch [] w w' := by
  obtain ⟨i0, hi, hz0, hz1, hz2⟩ := info_byte'
  have q : ∀ (w : World) (a : Option Addr) (n c n' c' : Nat), (binOp .eql 66 (.slice a n c) (.slice none n' c')).run Tryz.prog w = .ok (.bool a.isNone) w := fun w a n c n' c' => Lib.run_eql_slice_nil w _ _ a n c n' c' Tryz.underlying66
  obtain ⟨n, hn⟩ : ∃ n, L.length = n := ⟨_, rfl⟩
  have hcl : (bytesV L).length = n := by rw [bytesV_length, hn]
  rw [hn] at hL ⊢
  have A := Lib.hid hc
  clear hc hn
  go_enter Tryz.func235, Tryz.ntmps235
  go_wp2_with (at_builtin; refine wpList_append_own _ rfl _ _ 66 rfl w.heap.size 5 i0 (.int .u8 0) 1 1 Tryz.underlying66 hi hz0 hz1 hz2 rfl (by decide) _ _ _ rfl (World.ownsRow_made w #[] 0 (Nat.le_refl _) (Nat.zero_le _) rfl) ⟨g, off, none⟩ n c (bytesV L) rfl ?qc1 ?qc2 ?qc3 ?qc4 ?qc5 ?qc6 ?_)
  case qc1 => omega
  case qc2 =>
    intro j u hj
    rw [Addr.add_lit]
    exact Lib.cell?_alloc_some _ (A.out j u hj)
  case qc3 => exact bytes_one L
  case qc4 => unfold maxLen; omega
  case qc5 => omega
  case qc6 => simp
  intro v' w1 hown hgrow hnil
  go_wp2
  go_ret
  refine ⟨v', rfl, by simpa using hown, Touch.of_below ?_ _⟩
  exact ((Below.refl _ w).alloc (Nat.le_refl _) _).grown hgrow (by simp) (by intro k hk; simp [Value.ownBlock] at hk; omega)
set_option maxHeartbeats 1000000 in
theorem CloneB_nil (n c : Nat) (w : World) : Calls Tryz.prog 235 #[.slice none n c] w fun e w' => e = .returned (.slice none 0 0) ∧ w = w' := by
  have q : ∀ (w : World) (a : Option Addr) (n c n' c' : Nat), (binOp .eql 66 (.slice a n c) (.slice none n' c')).run Tryz.prog w = .ok (.bool a.isNone) w := fun w a n c n' c' => Lib.run_eql_slice_nil w _ _ a n c n' c' Tryz.underlying66
  go_enter Tryz.func235, Tryz.ntmps235
  go_wp2
  go_ret
  exact ⟨rfl, rfl⟩
theorem CloneB_row {w : World} {v : Value} {L : List Int} (h : BRow w v L) (hL : L.length ≤ 1000000) : Calls Tryz.prog 235 #[v] w fun e w' =>
      ∃ v, e = .returned v ∧ w'.ownsRow w.heap.size 5 1 v L.length (bytesV L) ∧ Touch [] w w' := by
  rcases h.1.2 with ⟨rfl, h0⟩ | ⟨g, cap, cur, rfl, _⟩
  · obtain rfl := List.eq_nil_of_length_eq_zero h0
    refine (CloneB_nil 0 0 w).mono ?_
    rintro _ _ ⟨rfl, rfl⟩
    exact ⟨_, rfl, World.ownsRow_nil _ _ _ _, Touch.refl _ _⟩
  · exact CloneB_any g 0 cap L w hL (fun j u hj => by
      have := h.1.cells (g := g) rfl j u hj
      rw [add_off] at this
      exact this)

section
variable {w w' : World} {s : Nat} {F FS : List Nat} {ov mv : Value} {S : PS}
theorem Parts.s_apart (h : Parts w s FS ov mv S) : s ∉ rowOf mv := fun hm => h.blk.ty.ne (row_ty h.made.1 _ hm) (by decide) rfl
/-- the number that is being made turns -/
theorem Parts.making {mv' : Value} {made' : List Int} (h : Parts w s FS ov mv S) (hb : Blk w' s 83 #[.pointer (some ⟨S.t, 0, none⟩), .pointer (some ⟨S.k, 0, none⟩), .pointer (some ⟨S.m, 0, none⟩), mv']) (hr : BRow w' mv' made') (t : Touch (s :: rowOf mv) w w') (hs : ∀ x ∈ rowOf mv', x ∈ rowOf mv ∨ w.heap.size ≤ x) : Parts w' s FS ov mv' { S with made := made' } := by
  have key : ∀ a ty, TyAt w a ty → ty ≠ 83 → a ∉ rowOf mv → a ∉ s :: rowOf mv := fun a ty ha h1 h2 hf => by
    rcases List.mem_cons.1 hf with rfl | hf
    · exact ha.ne h.blk.ty h1 rfl
    · exact h2 hf
  obtain ⟨a1, a2, a3, a4, a5, a6⟩ := h.stk_apart
  have hg : S.g ∉ rowOf mv' := fun hm => by
    rcases hs _ hm with h1 | h1
    · exact h.gm h1
    · have := h.mem.row.lt; omega
  refine ⟨hb, h.tel.touch t (key _ _ h.tel.ty (by decide) (fun hm => h.tel.ty.ne (row_ty h.made.1 _ hm) (by decide) rfl)), h.stk.touch t (fun f hf hm => ?_), h.mem.touch t (key _ _ h.mem.blk.ty (by decide) (fun hm => h.mem.blk.ty.ne (row_ty h.made.1 _ hm) (by decide) rfl)) (key _ _ h.mem.row.ty (by decide) h.gm), ⟨row_touch h.out.1 t (fun x hx => key _ _ (row_ty h.out.1 x hx) (by decide) (fun hm => h.om x hx hm)), h.out.2⟩, hr, h.go, hg, fun x hx hm => ?_⟩
  · rcases List.mem_cons.1 hm with rfl | hm
    · exact a1 hf
    · exact a6 _ hm hf
  · rcases hs _ hm with h1 | h1
    · exact h.om x hx h1
    · have := row_lt h.out.1 hx; omega
theorem foot_making {mv' : Value} {made' : List Int} (hs : ∀ x ∈ rowOf mv', x ∈ rowOf mv ∨ w.heap.size ≤ x) : Sub w (foot s S FS ov mv) (foot s { S with made := made' } FS ov mv') := by
  intro f hf
  simp only [foot, List.mem_cons, List.mem_append] at hf ⊢
  rcases hf with h | h | h | h | h | h | h
  · exact .inl (.inl h)
  · exact .inl (.inr (.inl h))
  · exact .inl (.inr (.inr (.inl h)))
  · exact .inl (.inr (.inr (.inr (.inl h))))
  · exact .inl (.inr (.inr (.inr (.inr (.inl h)))))
  · exact .inl (.inr (.inr (.inr (.inr (.inr (.inl h))))))
  · rcases hs f h with h | h
    · exact .inl (.inr (.inr (.inr (.inr (.inr (.inr h))))))
    · exact .inr h
theorem foot_has_made : ∀ x ∈ s :: rowOf mv, x ∈ foot s S FS ov mv := fun x hx => by
  rcases List.mem_cons.1 hx with rfl | hx
  · simp [foot]
  · simp [foot, hx]
theorem done_making {mv' : Value} {made' : List Int} (h : Parts w s FS ov mv S) (hb : Blk w' s 83 #[.pointer (some ⟨S.t, 0, none⟩), .pointer (some ⟨S.k, 0, none⟩), .pointer (some ⟨S.m, 0, none⟩), mv']) (hr : BRow w' mv' made') (t : Touch (s :: rowOf mv) w w') (hs : ∀ x ∈ rowOf mv', x ∈ rowOf mv ∨ w.heap.size ≤ x) : Done w s (foot s S FS ov mv) S { S with made := made' } w' :=
  ⟨_, ⟨FS, ov, mv', h.making hb hr t hs, rfl⟩, ⟨rfl, rfl, rfl, rfl, rfl, rfl⟩, t.mono (fun g hg => .inl (foot_has_made g hg)), foot_making hs⟩

set_option maxRecDepth 100000 in
set_option maxHeartbeats 2000000 in
theorem hold_ok (h : StateAt w s F S) (hl : S.made.length < 200) (c : Int) (hc : 0 ≤ c ∧ c ≤ 255) :
    Calls Tryz.prog 183 #[.pointer (some ⟨s, 0, none⟩), .int .u8 c] w fun e w' => e = .returned (.int .i64 0) ∧ Done w s F S { S with made := S.made ++ [c] } w' := by
  obtain ⟨i0, hi, hz0, hz1, hz2⟩ := info_byte'
  obtain ⟨FS, ov, mv, hp, rfl⟩ := h
  have s3 := hp.blk.cell 3
  have hbl := hp.blk.lt
  obtain ⟨n, hn⟩ : ∃ n, S.made.length = n := ⟨_, rfl⟩
  have hr := hp.made.1
  rw [hn] at hl hr
  obtain ⟨a, cap, rfl⟩ := own_slice hr
  have hnb := hp.s_apart
  have hrA := row_touch hr ((Touch.refl [] w).alloc (.cells #[.int .u8 c] 5)) (by simp)
  have bC := Blk.new w 5 #[.int .u8 c]
  have g1 : ¬ (n : Int) ≥ 200 := by omega
  have HP := Lib.hid (And.intro hp (And.intro hn hc))
  clear hp hn hc hr
  go_enter Tryz.func183, Tryz.ntmps183
  go_wp2_with (at_builtin; refine wpList_append_own_at _ rfl _ _ 66 rfl 0 5 i0 (.int .u8 0) 1 1 Tryz.underlying66 hi hz0 hz1 hz2 rfl (by decide) _ _ _ rfl hrA ⟨w.heap.size, 0, none⟩ 1 1 (bytesV [c]) rfl rfl ?qc2 ?qc3 ?qc4 ?qc5 (Nat.zero_le _) ?_)
  case qc2 =>
    intro j u hj
    have h2 := (List.getElem?_eq_some_iff.1 hj).1
    have hj0 : j = 0 := by simp [bytesV] at h2; omega
    subst hj0
    first | simpa [bytesV] using hj | (rw [add_off, bC.cell (0 + 0)]; simpa [bytesV] using hj)
  case qc3 => exact bytes_one [c]
  case qc4 => unfold maxLen; omega
  case qc5 => omega
  intro v' w1 hown hgrow hnil hloc
  have hB0 := HP.out.1.blk.alloc (.cells #[.int .u8 c] 5)
  have hB := hB0.grown hgrow (fun e => hnb (rowOf_mem.2 e.symm))
  have hf3 := hB.frozen 3
  have c3 := hB.cell 3
  have htt := fun u => (((Touch.refl (s :: rowOf (.slice a n cap)) w).alloc (.cells #[.int .u8 c] 5)).grown hgrow (fun k hk => .inl (by simp [rowOf_mem, hk]))).setCell (p := ⟨s, 3, none⟩) (by simp) u
  have hat : ∀ x ∈ rowOf v', x ∈ rowOf (.slice a n cap) ∨ w.heap.size ≤ x := fun x hx => by
    rcases hloc with e | e
    · exact .inl (rowOf_mem.2 (e ▸ rowOf_mem.1 hx))
    · rw [rowOf_mem.1 hx] at e
      simp at e
      exact .inr (by omega)
  have hnb' : s ∉ rowOf v' := fun hm => by
    rcases hat s hm with h | h
    · exact hnb h
    · omega
  clear hloc hnil hgrow hrA bC
  obtain ⟨a', c', rfl⟩ := own_slice hown
  have H1 := Lib.hid (And.intro htt (And.intro hown (And.intro hat (And.intro hB hnb'))))
  clear htt hown hat hB hB0 s3 hnb hnb'
  go_wp2_with fail
  go_ret
  obtain ⟨htt, hown, hat, hB, hnb'⟩ := H1.out
  obtain ⟨hp, hn, hc⟩ := HP.out
  refine ⟨rfl, done_making hp (hB.set_ 3 _) ⟨?_, hp.made.2.append (fun x hx => by rw [List.mem_singleton.1 hx]; exact hc)⟩ (htt _) hat⟩
  have e : (S.made ++ [c]).length = n + 1 := by rw [List.length_append, hn]; rfl
  rw [e, bytesV_append]
  exact row_touch hown ((Touch.refl [s] w1).setCell (by simp) _) (fun k hk hkb => hnb' (by rw [List.mem_singleton.1 hkb] at hk; exact hk))
theorem hold_full (h : StateAt w s F S) (hl : ¬ S.made.length < 200) (c : Int) :
    Calls Tryz.prog 183 #[.pointer (some ⟨s, 0, none⟩), .int .u8 c] w fun e w' => e = .returned (.int .i64 (-17)) ∧ w = w' := by
  obtain ⟨FS, ov, mv, hp, rfl⟩ := h
  have s3 := hp.blk.cell 3
  obtain ⟨n, hn⟩ : ∃ n, S.made.length = n := ⟨_, rfl⟩
  have hr := hp.made.1
  rw [hn] at hl hr
  obtain ⟨a, cap, rfl⟩ := own_slice hr
  have g1 : (n : Int) ≥ 200 := by omega
  clear hr hp hn
  go_enter Tryz.func183, Tryz.ntmps183
  go_wp2_with fail
  go_ret
  exact ⟨rfl, rfl⟩
end
end Go.Proofs.YtkbchpaofmlhgaaGreatDoor

/- Operations that make a number: begin, hold, digits, end. -/
namespace Go.Proofs.YtkbchpaofmlhgaaGreatDoor
open Go.RowKit

set_option maxHeartbeats 1000000 in
theorem begin_sem : OpSem 102 0 (fun _ _ => True) (fun _ S => (([], 0), { S with made := [] })) := by
  intro W B s F S t f first cap l lv hok hS hF hfd
  obtain ⟨b, C, hC, hb, hA, hB⟩ := found_says hfd rfl rfl
  obtain ⟨g, _, hg, rfl, rfl, rfl, rfl⟩ := act_open (hA : ActAt C 0 220 154 (.func (.func 180) #[] #[.pointer (some ⟨b, 0, none⟩)]) _ W) (Nat.zero_le _)
  refine ⟨rfl, enters_of Tryz.func220 (by kernel_rfl) rfl, fun hl hpre hc => ActDone.post (tells_clo hg (enters_of Tryz.func180 (by kernel_rfl) rfl) ?_)⟩
  show Calls Tryz.prog _ _ W fun e w' => e = .returned (.int .i64 0) ∧ Done W s F S { S with made := [] } w'
  obtain ⟨FS, ov, mv, hp, rfl⟩ := hS
  have b0 := hB.cell 0
  have s3 := hp.blk.cell 3
  have f3 := hp.blk.frozen 3
  have HD : Hid (Done W s (foot s S FS ov mv) S { S with made := [] } (W.setCell ⟨s, 3, none⟩ (.slice none 0 0))) :=
    done_making hp (hp.blk.set_ 3 _) ⟨World.ownsRow_nil _ _ _ _, fun x hx => by cases hx⟩ ((Touch.refl _ W).setCell (by simp) _) (fun x hx => by simp [rowOf] at hx)
  clear hB hA hg hfd hc hF hp
  show Calls Tryz.prog 180 #[lv, .pointer (some ⟨b, 0, none⟩)] W _
  go_enter Tryz.func180, Tryz.ntmps180
  go_wp2_with fail
  go_ret
  exact ⟨rfl, HD.out⟩
def holdF (l : List Int) (S : PS) : (List Int × Int) × PS := if S.made.length < 200 then (([], 0), { S with made := S.made ++ [l.getD 0 0 % 256] }) else (([], -17), S)
set_option maxHeartbeats 1000000 in
theorem hold_sem : OpSem 105 1 (fun _ _ => True) holdF := by
  intro W B s F S t f first cap l lv hok hS hF hfd
  obtain ⟨b, C, hC, hb, hA, hB⟩ := found_says hfd rfl rfl
  obtain ⟨g, _, hg, rfl, rfl, rfl, rfl⟩ := act_open (hA : ActAt C 1 220 154 (.func (.func 182) #[] #[.pointer (some ⟨b, 0, none⟩)]) _ W) (Nat.zero_le _)
  refine ⟨rfl, enters_of Tryz.func220 (by kernel_rfl) rfl, fun hl hpre hc => ?_⟩
  have key : ∀ (x : Int) (T : PS), (∀ w, Touch [] W w → Calls Tryz.prog 183 #[.pointer (some ⟨s, 0, none⟩), .int .u8 (l.getD 0 0 % 256)] w fun e w' => e = .returned (.int .i64 x) ∧ Done W s F S T w') → Calls Tryz.prog 182 (#[] ++ #[lv] ++ #[.pointer (some ⟨b, 0, none⟩)]) W fun e w' => e = .returned (.int .i64 x) ∧ Done W s F S T w' := by
    intro x T hH
    obtain ⟨ad, c, q, e, rfl, cq⟩ := hc.one hl
    subst e
    rw [List.getD_cons_zero] at hH
    have hH := hH _ (Touch.refl [] W).drew
    have b0 := (hB.touch ((Touch.refl [] W).drew) (by simp)).cell 0
    have x0 := cell_quiet ((Touch.refl [] W).drew) cq
    clear hS hB hA hg hfd hc hF cq
    show Calls Tryz.prog 182 #[.slice (some ⟨ad, 0, none⟩) 1 c, .pointer (some ⟨b, 0, none⟩)] W _
    go_enter Tryz.func182, Tryz.ntmps182
    go_upto_region 1 with fail
    go_region_with (go_at_call 183; refine hH.mono ?_; rintro _ w1 ⟨rfl, hd⟩; have HD := Lib.hid hd; clear hd)
    all_goals go_wp2_with fail
    all_goals go_ret
    all_goals exact ⟨rfl, HD.out⟩
  by_cases hlt : S.made.length < 200
  · have e : holdF l S = (([], 0), { S with made := S.made ++ [l.getD 0 0 % 256] }) := by unfold holdF; rw [if_pos hlt]
    rw [e]
    refine ActDone.post (tells_clo hg (enters_of Tryz.func182 (by kernel_rfl) rfl) (key 0 _ fun w t => (hold_ok (hS.quiet t) hlt _ (by omega)).mono ?_))
    rintro _ w' ⟨rfl, F', h1, h2, h3, h4⟩
    exact ⟨rfl, F', h1, h2, (t.mono (by simp)).trans h3 (fun g hg => .inl hg), h4.lower t.size⟩
  · have e : holdF l S = (([], -17), S) := by unfold holdF; rw [if_neg hlt]
    rw [e]
    refine ActDone.post (tells_clo hg (enters_of Tryz.func182 (by kernel_rfl) rfl) (key (-17) _ fun w t => (hold_full (hS.quiet t) hlt _).mono ?_))
    rintro _ _ ⟨rfl, rfl⟩
    exact ⟨rfl, Done.self hS t⟩
/-- the pair that was taken -/
theorem a_any (ad n c : Nat) (x y : Int) (w : World) (hn : 2 ≤ n) (h0 : w.cell? ⟨ad, 0, none⟩ = some (.int .i64 x)) (h1 : w.cell? ⟨ad, 1, none⟩ = some (.int .i64 y)) :
    Calls Tryz.prog 108 #[.slice (some ⟨ad, 0, none⟩) n c] w fun e w' => e = .returned (.agg #[.int .i64 x, .int .i64 y]) ∧ Touch [] w w' := by
  have bR := Blk.new w 38 #[.int .i64 0, .int .i64 0]
  have e1 : (1 : Int) < n := by omega
  have e0 : (0 : Int) < n := by omega
  have tR := (Touch.refl [] w).alloc (.cells #[.int .i64 0, .int .i64 0] 38)
  have x0 := cell_quiet tR.drew h0
  have x1 := cell_quiet tR.drew h1
  go_enter Tryz.func108, Tryz.ntmps108
  have bD := bR.drew
  have f0 := bD.frozen 0
  have f1 := bD.frozen 1
  have r0 := bD.cell 0
  have r1 := bD.cell 1
  clear h0 h1 bR tR bD
  go_upto_region 1 with fail
  go_region
  all_goals go_wp2_with fail
  all_goals go_returns
  all_goals exact ⟨rfl, ((Touch.refl [] w).alloc _).drew⟩
end Go.Proofs.YtkbchpaofmlhgaaGreatDoor

/- All digits of a number; the end of it. -/
namespace Go.Proofs.YtkbchpaofmlhgaaGreatDoor
open Go.RowKit

/-- a state, beside blocks that are kept -/
def Kept (W : World) (s : Nat) (F K : List Nat) (w : World) (U : PS) : Prop := ∃ F', StateAt w s F' U ∧ Touch F W w ∧ Sub W F F' ∧ ∀ x ∈ K, x ∉ F' ∧ x < w.heap.size
section
variable {W w w' : World} {s : Nat} {F K : List Nat} {S U U' : PS}
theorem Kept.quiet (h : Kept W s F K w U) (t : Touch [] w w') : Kept W s F K w' U := by
  obtain ⟨F', h1, h2, h3, h4⟩ := h
  exact ⟨F', h1.quiet t, h2.trans t (by simp), h3, fun x hx => ⟨(h4 x hx).1, Nat.lt_of_lt_of_le (h4 x hx).2 t.size⟩⟩
theorem Kept.size (h : Kept W s F K w U) : W.heap.size ≤ w.heap.size := by
  obtain ⟨F', h1, h2, h3, h4⟩ := h
  exact h2.size
theorem Kept.more {b : Nat} (h : Kept W s F K w U) (t : Touch [] w w') (hb : w.heap.size ≤ b) (hlt : b < w'.heap.size) : Kept W s F (b :: K) w' U := by
  have hq := h.quiet t
  obtain ⟨F', h1, h2, h3, h4⟩ := h
  refine ⟨F', h1.quiet t, h2.trans t (by simp), h3, fun x hx => ?_⟩
  rcases List.mem_cons.1 hx with rfl | hx
  · exact ⟨fun hm => by have := h1.lt _ hm; omega, hlt⟩
  · exact ⟨(h4 x hx).1, Nat.lt_of_lt_of_le (h4 x hx).2 t.size⟩
theorem Kept.own {b : Nat} (h : Kept W s F K w U) (hb : b ∈ K) (hW : W.heap.size ≤ b) (t : Touch [b] w w') : Kept W s F K w' U := by
  obtain ⟨F', h1, h2, h3, h4⟩ := h
  refine ⟨F', ?_, h2.trans t (fun g hg => .inr (by rw [List.mem_singleton.1 hg]; exact hW)), h3, fun x hx => ⟨(h4 x hx).1, Nat.lt_of_lt_of_le (h4 x hx).2 t.size⟩⟩
  obtain ⟨FS, ov, mv, hp, rfl⟩ := h1
  exact ⟨FS, ov, mv, hp.quiet t (fun x hx hm => (h4 b hb).1 (by rw [← List.mem_singleton.1 hm]; exact hx)), rfl⟩
theorem Kept.step {P : Program} {f : FuncId} {args : Array Value} {e0 : Ending} (h : Kept W s F K w U) (hC : ∀ F', StateAt w s F' U → Calls P f args w fun e w' => e = e0 ∧ Done w s F' U U' w') :
    Calls P f args w fun e w' => e = e0 ∧ Kept W s F K w' U' ∧ On K w w' := by
  obtain ⟨F1, h1, h2, h3, h4⟩ := h
  refine (hC F1 h1).mono ?_
  rintro _ w' ⟨rfl, F2, k1, _, k2, k3⟩
  refine ⟨rfl, ⟨F2, k1, h2.trans k2 (fun g hg => h3 g hg), Sub.trans h3 k3 h2.size, fun x hx => ⟨fun hm => ?_, Nat.lt_of_lt_of_le (h4 x hx).2 k2.size⟩⟩, fun x hx => k2.block x (h4 x hx).2 (h4 x hx).1⟩
  rcases k3 x hm with hm | hm
  · exact (h4 x hx).1 hm
  · have := (h4 x hx).2; omega
theorem Kept.done (h : Kept W s F K w U) (hs : PS.same S U) : Done W s F S U w := by
  obtain ⟨F', h1, h2, h3, _⟩ := h
  exact ⟨F', h1, hs, h2, h3⟩
end
/-- digits, the last one first -/
def digL (B n : Nat) : List Int := (numsU (baseL B n)).reverse
theorem digL_last (B n : Nat) (h : n < B) : digL B n = [((digC n).toNat : Int)] := by
  unfold digL
  rw [baseL_last B n h]
  rfl
theorem digL_more (B n : Nat) (h2 : 2 ≤ B) (h : B ≤ n) : digL B n = ((digC (n % B)).toNat : Int) :: digL B (n / B) := by
  unfold digL
  rw [baseL_more B n h2 h]
  simp [numsU]
theorem digL_len (B n : Nat) : (digL B n).length = (baseL B n).length := by simp [digL, numsU]
def numAt (w : World) (p : Nat) : Nat := match w.cell? ⟨p, 0, none⟩ with
  | some (.int _ v) => (v % 18446744073709551616).toNat
  | _ => 0
theorem numAt_pair {w : World} {p m : Nat} {y : Value} (h : Blk w p 38 #[.int .i64 (cellOf m), y]) (hm : m < 18446744073709551616) : numAt w p = m := by
  unfold numAt
  rw [h.cell 0]
  show (cellOf m % 18446744073709551616).toNat = m
  unfold cellOf
  split <;> omega
/-- how the digits stand: of what number more are to be made -/
structure DigR (W : World) (s g1 g2 p : Nat) (F : List Nat) (S : PS) (B n : Nat) (more : Bool) (wr : World) (m : Nat) (acc : List Int) : Prop where
  kept : Kept W s F [p, g1, g2] wr { S with made := S.made ++ acc }
  pair : Blk wr p 38 #[.int .i64 (cellOf m), .int .i64 0]
  b1 : Blk wr g1 24 #[.pointer (some ⟨s, 0, none⟩)]
  b2 : Blk wr g2 4 #[.bool true]
  small : m < 18446744073709551616
  text : digL B n = acc ++ (if more then digL B m else [])
  stop : more = false → m = 0
set_option maxRecDepth 100000 in
set_option maxHeartbeats 3200000 in
theorem digits_clo (W : World) (s g1 g2 ad c n B : Nat) (F : List Nat) (S : PS) (hS : StateAt W s F S) (hok : S.ok) (hB : S.base = B) (hB0 : 2 ≤ B) (hB1 : B ≤ 36) (hn : n < 18446744073709551616) (hlen : S.made.length + (digL B n).length ≤ 200)
    (hg1 : g1 ∉ F) (hg2 : g2 ∉ F) (b1 : Blk W g1 24 #[.pointer (some ⟨s, 0, none⟩)]) (b2 : Blk W g2 4 #[.bool true]) (h0 : W.cell? ⟨ad, 0, none⟩ = some (.int .i64 (cellOf n))) (h1 : W.cell? ⟨ad, 1, none⟩ = some (.int .i64 0)) :
    Calls Tryz.prog 233 #[.slice (some ⟨ad, 0, none⟩) 2 c, .pointer (some ⟨g1, 0, none⟩), .pointer (some ⟨g2, 0, none⟩)] W (ActDone W s F S (([0, 0], 0), { S with made := S.made ++ digL B n })) := by
  have hBa := Base_ok hS hok.2.2.1 (by rw [hB]; omega)
  rw [hB] at hBa
  have hk0 : Kept W s F [g1, g2] W S := ⟨F, hS, Touch.refl _ _, Sub.refl _ _, fun x hx => by
    simp only [List.mem_cons, List.not_mem_nil, or_false] at hx
    rcases hx with rfl | rfl
    · exact ⟨hg1, b1.lt⟩
    · exact ⟨hg2, b2.lt⟩⟩
  have d0 := b1.cell 0
  have s0 : ∃ mv, W.cell? ⟨s, 3, none⟩ = some mv ∧ ∃ a cap, mv = .slice a S.made.length cap := by
    obtain ⟨FS, ov, mv, hp, _⟩ := hS
    exact ⟨mv, hp.blk.cell 3, own_slice hp.made.1⟩
  obtain ⟨mv, s3, ma, mc, rfl⟩ := s0
  obtain ⟨ml, hml⟩ : ∃ ml, S.made.length = ml := ⟨_, rfl⟩
  rw [hml] at s3 hlen
  have hst := fun m (hm : m < 18446744073709551616) W => stepS m B hm hB0 hB1 W
  obtain ⟨q, hq⟩ : ∃ q, cellOf n = q := ⟨_, rfl⟩
  rw [hq] at h0
  have HQ := Lib.hid hq
  have HH := Lib.hid (And.intro hk0 (And.intro b1 (And.intro b2 (And.intro hml hlen))))
  clear hq hk0 hS hg1 hg2 b1 b2 hok hB hml hlen
  go_enter Tryz.func233, Tryz.ntmps233
  go_wp2_with fail
  refine hBa.mono ?_
  rintro _ w1 ⟨rfl, t1⟩
  clear hBa d0
  have d1 := (HH.out.2.1.touch t1.drew (by simp)).cell 0
  have s1 := cell_quiet t1.drew s3
  have hA := fun w (t : Touch [] W w) => a_any ad 2 c q 0 w (Nat.le_refl _) (cell_quiet t h0) (cell_quiet t h1)
  have HT := Lib.hid t1
  clear t1
  go_upto_region 2 with fail
  go_cut [8, 9] from 17 to 23 (fun pv nv wx => ∃ p, pv = .pointer (some ⟨p, 0, none⟩) ∧ nv = .int .i64 (ml : Int) ∧ Blk wx p 38 #[.int .i64 q, .int .i64 0] ∧ W.heap.size ≤ p ∧ Touch [] W wx)
  case first =>
    have HG1 : Hid (g1 < w1.heap.size) := (HH.out.2.1.touch HT.out (by simp)).lt
    have HG2 : Hid (s < w1.heap.size) := World.block_lt_of_cell? _ _ s1
    have e1 := fun o => cell_quiet (((Touch.refl [] w1).alloc o).drew) ((HH.out.2.1.touch HT.out (by simp)).cell 0)
    have f1 := fun o => cell_quiet (((Touch.refl [] w1).alloc o).drew) (cell_quiet HT.out s3)
    go_region_with (go_at_call 108; refine (hA _ (by first | exact HT.out.drew | exact HT.out.drew.alloc _)).mono ?_; rintro _ w2 ⟨rfl, t2⟩; have T2 := Touch.trans (by first | exact HT.out.drew | exact HT.out.drew.alloc _) t2 (by simp); have d2 := (HH.out.2.1.touch T2 (by simp)).cell 0; have s2 := cell_quiet T2 s3; have e2 := fun o => cell_quiet ((Touch.refl [] w2).alloc o) d2; have f2 := fun o => cell_quiet ((Touch.refl [] w2).alloc o) s2; try (have bP := ((Blk.new w1 38 #[.int .i64 0, .int .i64 0]).drew).touch t2 (by simp)); try (have p0 := bP.cell 0); try (have p1 := bP.cell 1); try (have z0 := bP.frozen 0); try (have z1 := bP.frozen 1); try (have d3 := fun i u j v => cell_keep (((Touch.refl [w1.heap.size] w2).setCell (p := ⟨w1.heap.size, i, none⟩) (by simp) u).setCell (p := ⟨w1.heap.size, j, none⟩) (by simp) v) d2 (fun hm => absurd (List.mem_singleton.1 hm) (Nat.ne_of_lt HG1.out))); try (have s3' := fun i u j v => cell_keep (((Touch.refl [w1.heap.size] w2).setCell (p := ⟨w1.heap.size, i, none⟩) (by simp) u).setCell (p := ⟨w1.heap.size, j, none⟩) (by simp) v) s2 (fun hm => absurd (List.mem_singleton.1 hm) (Nat.ne_of_lt HG2.out))))
    all_goals (go_wp2_with fail; go_meet; first | exact ⟨_, rfl, rfl, Blk.new w2 _ _, T2.size, T2.alloc _⟩ | exact ⟨_, rfl, rfl, bP.two_set _ _, HT.out.size, (T2.setCell (.inr HT.out.size) _).setCell (.inr HT.out.size) _⟩)
  case rest =>
    obtain ⟨p, rfl, rfl, bP, hWp, tc⟩ := hcut
    have HD : Hid (DigR W s g1 g2 p F S B n true wc n []) := ⟨by
      have hk := HH.out.1.more tc hWp bP.lt
      rwa [show ({ S with made := S.made ++ [] } : PS) = S from by rw [List.append_nil]], by rw [HQ.out]; exact bP, HH.out.2.1.touch tc (by simp), HH.out.2.2.1.touch tc (by simp), hn, by simp, fun h => by simp at h⟩
    have HW := Lib.hid hWp
    have HG : Hid (g1 ≠ p ∧ g2 ≠ p) := ⟨fun e => by have := HH.out.2.1.lt; omega, fun e => by have := HH.out.2.2.1.lt; omega⟩
    clear hA s3 h0 h1 d1 s1 bP hWp tc
    go_wp2_with fail
    go_loopw [7, 10] (fun ev mv wr => ∃ more m acc, ev = .int .i64 0 ∧ mv = .bool more ∧ DigR W s g1 g2 p F S B n more wr m acc) (fun _ mv wr => 2 * numAt wr p + (match mv with | .bool true => 1 | _ => 0))
    case atStart => exact ⟨true, n, [], rfl, rfl, HD.out⟩
    case round =>
      obtain ⟨more, m, acc, rfl, rfl, hD⟩ := hrel
      cases more with
      | false =>
        obtain rfl := hD.stop rfl
        have p0 : wr.cell? ⟨p, 0, none⟩ = some (.int .i64 0) := hD.pair.cell 0
        have p1 : wr.cell? ⟨p, 1, none⟩ = some (.int .i64 0) := hD.pair.cell 1
        have ht := hD.text
        rw [if_neg (by simp), List.append_nil] at ht
        have HF : Hid (Done W s F S { S with made := S.made ++ digL B n } wr) := by
          rw [ht]
          exact hD.kept.done ⟨rfl, rfl, rfl, rfl, rfl, rfl⟩
        clear hD ht
        go_wp2_with fail
        go_ret2
        exact ⟨_, rfl, CellsAt.blk (cs := [0, 0]) (Blk.new wr _ _) 2, HF.out.alloc _⟩
      | true =>
        have hs := hst m hD.small
        obtain ⟨c8, hc8⟩ : ∃ c8, digC (m % B) = c8 := ⟨_, rfl⟩
        obtain ⟨m2, hm2⟩ : ∃ m2, m / B = m2 := ⟨_, rfl⟩
        rw [hc8, hm2] at hs
        have hm2lt : m2 < 18446744073709551616 := by rw [← hm2]; exact Nat.lt_of_le_of_lt (Nat.div_le_self _ _) hD.small
        have HC := Lib.hid (And.intro hc8 hm2)
        have p0 := hD.pair.cell 0
        have p1 := hD.pair.cell 1
        have HD1 := Lib.hid hD
        clear hc8 hm2 hD
        go_wp2_with fail
        refine (hs _).mono ?_
        rintro _ w1 ⟨rfl, t1⟩
        have bP := HD1.out.pair.touch t1 (by simp)
        have HT1 := Lib.hid t1
        clear t1 hs p0 p1
        have p0 := bP.cell 0
        have p1 := bP.cell 1
        have z0 := bP.frozen 0
        have z1 := bP.frozen 1
        go_upto_region 8 with fail
        have bP2 := bP.two_set (.int .i64 (cellOf m2)) (.int .i64 0)
        have hk1 := (HD1.out.kept.quiet HT1.out).own (by simp) HW.out (((Touch.refl [p] w1).setCell (p := ⟨p, 0, none⟩) (by simp) (.int .i64 (cellOf m2))).setCell (p := ⟨p, 1, none⟩) (by simp) (.int .i64 0))
        have tP := ((Touch.refl [p] w1).setCell (p := ⟨p, 0, none⟩) (by simp) (.int .i64 (cellOf m2))).setCell (p := ⟨p, 1, none⟩) (by simp) (.int .i64 0)
        have bb1 := (HD1.out.b1.touch HT1.out (by simp)).touch tP (fun hm => HG.out.1 (List.mem_singleton.1 hm))
        have bb2 := (HD1.out.b2.touch HT1.out (by simp)).touch tP (fun hm => HG.out.2 (List.mem_singleton.1 hm))
        clear p0 p1 z0 z1 bP tP
        generalize (w1.setCell ⟨p, 0, none⟩ (.int .i64 (cellOf m2))).setCell ⟨p, 1, none⟩ (.int .i64 0) = w2 at *
        have d0 := bb1.cell 0
        have hcl : 0 ≤ ((c8.toNat : Nat) : Int) ∧ ((c8.toNat : Nat) : Int) ≤ 255 := by have := c8.toNat_lt; omega
        have hacc : S.made.length + acc.length < 200 := by
          have h1 := HH.out.2.2.2.2
          have h2 := HD1.out.text
          have h3 := HH.out.2.2.2.1
          rw [if_pos rfl] at h2
          have h4 := congrArg List.length h2
          rw [List.length_append] at h4
          have h5 : 1 ≤ (digL B m).length := by
            rcases Nat.lt_or_ge m B with h | h
            · rw [digL_last B m h]; exact Nat.le_refl _
            · rw [digL_more B m hB0 h]; simp
          omega
        have hH := hk1.step (fun F' hS => hold_ok hS (by show (S.made ++ acc).length < 200; rw [List.length_append]; exact hacc) _ hcl)
        have HB2 := Lib.hid (And.intro bP2 (And.intro bb1 bb2))
        clear bP2 bb1 bb2 hk1 hacc hcl
        go_wp2_with fail
        refine hH.mono ?_
        rintro _ w3 ⟨rfl, hk3, on3⟩
        have bP3 := on3.blk (by simp) HB2.out.1
        have bb1 := on3.blk (by simp) HB2.out.2.1
        have bb2 := on3.blk (by simp) HB2.out.2.2
        have d2 := bb2.cell 0
        have p0 := bP3.cell 0
        have p1 := bP3.cell 1
        have heq := fun W => pair_neq (cellOf m2) 0 0 0 W
        rw [cell_nil m2 hm2lt] at heq
        have hgd := pair_guard
        have hk4 : Kept W s F [p, g1, g2] w3 { S with made := S.made ++ (acc ++ [((c8.toNat : Nat) : Int)]) } := by
          have h := hk3
          have e : S.made ++ acc ++ [((c8.toNat : Nat) : Int)] = S.made ++ (acc ++ [((c8.toNat : Nat) : Int)]) := List.append_assoc _ _ _
          rw [← e]
          exact h
        have hnu : numAt wr p = m := numAt_pair HD1.out.pair HD1.out.small
        have hnu3 : numAt w3 p = m2 := numAt_pair bP3 hm2lt
        have HB3 := Lib.hid (And.intro bP3 (And.intro bb1 (And.intro bb2 (And.intro hk4 (And.intro hnu hnu3)))))
        clear bP3 bb1 bb2 hk4 hnu hnu3 hk3 on3 hH d0
        by_cases hz : m2 = 0
        · rw [decide_eq_true hz] at heq
          have hmB : m < B := by
            have := HC.out.2
            rw [hz] at this
            exact (Nat.div_eq_zero_iff_lt (by omega)).1 this
          have HF : Hid (DigR W s g1 g2 p F S B n false w3 m2 (acc ++ [((c8.toNat : Nat) : Int)])) := by
            have ht := HD1.out.text
            refine ⟨HB3.out.2.2.2.1, HB3.out.1, HB3.out.2.1, HB3.out.2.2.1, hm2lt, ?_, fun _ => hz⟩
            rw [ht, if_pos rfl, if_neg (by simp), digL_last B m hmB, ← HC.out.1, Nat.mod_eq_of_lt hmB]
            simp
          clear hz hmB
          go_wp2_with fail
          refine ⟨⟨false, m2, _, rfl, rfl, HF.out⟩, ?_⟩
          have h1 := HB3.out.2.2.2.2.1
          have h2 := HB3.out.2.2.2.2.2
          have h3 := HF.out.stop rfl
          simp only [h1, h2, h3]
          omega
        · rw [decide_eq_false hz] at heq
          have hBm : B ≤ m := by
            rcases Nat.lt_or_ge m B with h | h
            · exact absurd (by rw [← HC.out.2, Nat.div_eq_of_lt h]) hz
            · exact h
          have HF : Hid (DigR W s g1 g2 p F S B n true w3 m2 (acc ++ [((c8.toNat : Nat) : Int)])) := by
            have ht := HD1.out.text
            refine ⟨HB3.out.2.2.2.1, HB3.out.1, HB3.out.2.1, HB3.out.2.2.1, hm2lt, ?_, fun h => by simp at h⟩
            rw [ht, if_pos rfl, if_pos rfl, digL_more B m hB0 hBm, HC.out.1, HC.out.2]
            simp
          have hmm : Hid (m2 < m) := by
            show m2 < m
            rw [← HC.out.2]
            exact Nat.div_lt_self (by omega) (by omega)
          clear hz hBm
          go_wp2_with fail
          refine ⟨⟨true, m2, _, rfl, rfl, HF.out⟩, ?_⟩
          have h1 := HB3.out.2.2.2.2.1
          have h2 := HB3.out.2.2.2.2.2
          have h3 := hmm.out
          simp only [h1, h2]
          omega
end Go.Proofs.YtkbchpaofmlhgaaGreatDoor

/- All digits of any pair. Printed by holdp.py. -/
namespace Go.Proofs.YtkbchpaofmlhgaaGreatDoor
open Go.RowKit

def numAtP (w : World) (p : Nat) : Nat := match w.cell? ⟨p, 0, none⟩, w.cell? ⟨p, 1, none⟩ with
  | some (.int _ u), some (.int _ v) => b64 v * 18446744073709551616 + b64 u
  | _, _ => 0
theorem numAtP_pair {w : World} {p m : Nat} (h : Blk w p 38 #[.int .i64 (pl m), .int .i64 (ph m)]) (hm : m < 340282366920938463463374607431768211456) : numAtP w p = m := by
  unfold numAtP
  rw [h.cell 0, h.cell 1]
  show b64 (ph m) * 18446744073709551616 + b64 (pl m) = m
  rw [b64_pl, b64_ph m hm]
  omega
/-- how the digits stand: of what number more are to be made -/
structure DigP (W : World) (s g1 g2 p : Nat) (F : List Nat) (S : PS) (B n : Nat) (more : Bool) (wr : World) (m : Nat) (acc : List Int) : Prop where
  kept : Kept W s F [p, g1, g2] wr { S with made := S.made ++ acc }
  pair : Blk wr p 38 #[.int .i64 (pl m), .int .i64 (ph m)]
  b1 : Blk wr g1 24 #[.pointer (some ⟨s, 0, none⟩)]
  b2 : Blk wr g2 4 #[.bool true]
  small : m < 340282366920938463463374607431768211456
  text : digL B n = acc ++ (if more then digL B m else [])
  stop : more = false → m = 0
set_option maxRecDepth 100000 in
set_option maxHeartbeats 3200000 in
theorem digits_cloP (W : World) (s g1 g2 ad c n B : Nat) (F : List Nat) (S : PS) (hS : StateAt W s F S) (hok : S.ok) (hB : S.base = B) (hB0 : 2 ≤ B) (hB1 : B ≤ 36) (hn : n < 340282366920938463463374607431768211456) (hlen : S.made.length + (digL B n).length ≤ 200)
    (hg1 : g1 ∉ F) (hg2 : g2 ∉ F) (b1 : Blk W g1 24 #[.pointer (some ⟨s, 0, none⟩)]) (b2 : Blk W g2 4 #[.bool true]) (h0 : W.cell? ⟨ad, 0, none⟩ = some (.int .i64 (pl n))) (h1 : W.cell? ⟨ad, 1, none⟩ = some (.int .i64 (ph n))) :
    Calls Tryz.prog 233 #[.slice (some ⟨ad, 0, none⟩) 2 c, .pointer (some ⟨g1, 0, none⟩), .pointer (some ⟨g2, 0, none⟩)] W (ActDone W s F S (([0, 0], 0), { S with made := S.made ++ digL B n })) := by
  have hBa := Base_ok hS hok.2.2.1 (by rw [hB]; omega)
  rw [hB] at hBa
  have hk0 : Kept W s F [g1, g2] W S := ⟨F, hS, Touch.refl _ _, Sub.refl _ _, fun x hx => by
    simp only [List.mem_cons, List.not_mem_nil, or_false] at hx
    rcases hx with rfl | rfl
    · exact ⟨hg1, b1.lt⟩
    · exact ⟨hg2, b2.lt⟩⟩
  have d0 := b1.cell 0
  have s0 : ∃ mv, W.cell? ⟨s, 3, none⟩ = some mv ∧ ∃ a cap, mv = .slice a S.made.length cap := by
    obtain ⟨FS, ov, mv, hp, _⟩ := hS
    exact ⟨mv, hp.blk.cell 3, own_slice hp.made.1⟩
  obtain ⟨mv, s3, ma, mc, rfl⟩ := s0
  obtain ⟨ml, hml⟩ : ∃ ml, S.made.length = ml := ⟨_, rfl⟩
  rw [hml] at s3 hlen
  have hst := fun m (hm : m < 340282366920938463463374607431768211456) W => stepP m B hm hB0 hB1 W
  obtain ⟨q, hq⟩ : ∃ q, pl n = q := ⟨_, rfl⟩
  obtain ⟨qh, hqh⟩ : ∃ q, ph n = q := ⟨_, rfl⟩
  rw [hq] at h0
  rw [hqh] at h1
  have HQ := Lib.hid (And.intro hq hqh)
  have HH := Lib.hid (And.intro hk0 (And.intro b1 (And.intro b2 (And.intro hml hlen))))
  clear hq hqh hk0 hS hg1 hg2 b1 b2 hok hB hml hlen
  go_enter Tryz.func233, Tryz.ntmps233
  go_wp2_with fail
  refine hBa.mono ?_
  rintro _ w1 ⟨rfl, t1⟩
  clear hBa d0
  have d1 := (HH.out.2.1.touch t1.drew (by simp)).cell 0
  have s1 := cell_quiet t1.drew s3
  have hA := fun w (t : Touch [] W w) => a_any ad 2 c q qh w (Nat.le_refl _) (cell_quiet t h0) (cell_quiet t h1)
  have HT := Lib.hid t1
  clear t1
  go_upto_region 2 with fail
  go_cut [8, 9] from 17 to 23 (fun pv nv wx => ∃ p, pv = .pointer (some ⟨p, 0, none⟩) ∧ nv = .int .i64 (ml : Int) ∧ Blk wx p 38 #[.int .i64 q, .int .i64 qh] ∧ W.heap.size ≤ p ∧ Touch [] W wx)
  case first =>
    have HG1 : Hid (g1 < w1.heap.size) := (HH.out.2.1.touch HT.out (by simp)).lt
    have HG2 : Hid (s < w1.heap.size) := World.block_lt_of_cell? _ _ s1
    have e1 := fun o => cell_quiet (((Touch.refl [] w1).alloc o).drew) ((HH.out.2.1.touch HT.out (by simp)).cell 0)
    have f1 := fun o => cell_quiet (((Touch.refl [] w1).alloc o).drew) (cell_quiet HT.out s3)
    go_region_with (go_at_call 108; refine (hA _ (by first | exact HT.out.drew | exact HT.out.drew.alloc _)).mono ?_; rintro _ w2 ⟨rfl, t2⟩; have T2 := Touch.trans (by first | exact HT.out.drew | exact HT.out.drew.alloc _) t2 (by simp); have d2 := (HH.out.2.1.touch T2 (by simp)).cell 0; have s2 := cell_quiet T2 s3; have e2 := fun o => cell_quiet ((Touch.refl [] w2).alloc o) d2; have f2 := fun o => cell_quiet ((Touch.refl [] w2).alloc o) s2; try (have bP := ((Blk.new w1 38 #[.int .i64 0, .int .i64 0]).drew).touch t2 (by simp)); try (have p0 := bP.cell 0); try (have p1 := bP.cell 1); try (have z0 := bP.frozen 0); try (have z1 := bP.frozen 1); try (have d3 := fun i u j v => cell_keep (((Touch.refl [w1.heap.size] w2).setCell (p := ⟨w1.heap.size, i, none⟩) (by simp) u).setCell (p := ⟨w1.heap.size, j, none⟩) (by simp) v) d2 (fun hm => absurd (List.mem_singleton.1 hm) (Nat.ne_of_lt HG1.out))); try (have s3' := fun i u j v => cell_keep (((Touch.refl [w1.heap.size] w2).setCell (p := ⟨w1.heap.size, i, none⟩) (by simp) u).setCell (p := ⟨w1.heap.size, j, none⟩) (by simp) v) s2 (fun hm => absurd (List.mem_singleton.1 hm) (Nat.ne_of_lt HG2.out))))
    all_goals (go_wp2_with fail; go_meet; first | exact ⟨_, rfl, rfl, Blk.new w2 _ _, T2.size, T2.alloc _⟩ | exact ⟨_, rfl, rfl, bP.two_set _ _, HT.out.size, (T2.setCell (.inr HT.out.size) _).setCell (.inr HT.out.size) _⟩)
  case rest =>
    obtain ⟨p, rfl, rfl, bP, hWp, tc⟩ := hcut
    have HD : Hid (DigP W s g1 g2 p F S B n true wc n []) := ⟨by
      have hk := HH.out.1.more tc hWp bP.lt
      rwa [show ({ S with made := S.made ++ [] } : PS) = S from by rw [List.append_nil]], by rw [HQ.out.1, HQ.out.2]; exact bP, HH.out.2.1.touch tc (by simp), HH.out.2.2.1.touch tc (by simp), hn, by simp, fun h => by simp at h⟩
    have HW := Lib.hid hWp
    have HG : Hid (g1 ≠ p ∧ g2 ≠ p) := ⟨fun e => by have := HH.out.2.1.lt; omega, fun e => by have := HH.out.2.2.1.lt; omega⟩
    clear hA s3 h0 h1 d1 s1 bP hWp tc
    go_wp2_with fail
    go_loopw [7, 10] (fun ev mv wr => ∃ more m acc, ev = .int .i64 0 ∧ mv = .bool more ∧ DigP W s g1 g2 p F S B n more wr m acc) (fun _ mv wr => 2 * numAtP wr p + (match mv with | .bool true => 1 | _ => 0))
    case atStart => exact ⟨true, n, [], rfl, rfl, HD.out⟩
    case round =>
      obtain ⟨more, m, acc, rfl, rfl, hD⟩ := hrel
      cases more with
      | false =>
        obtain rfl := hD.stop rfl
        have p0 : wr.cell? ⟨p, 0, none⟩ = some (.int .i64 0) := hD.pair.cell 0
        have p1 : wr.cell? ⟨p, 1, none⟩ = some (.int .i64 0) := hD.pair.cell 1
        have ht := hD.text
        rw [if_neg (by simp), List.append_nil] at ht
        have HF : Hid (Done W s F S { S with made := S.made ++ digL B n } wr) := by
          rw [ht]
          exact hD.kept.done ⟨rfl, rfl, rfl, rfl, rfl, rfl⟩
        clear hD ht
        go_wp2_with fail
        go_ret2
        exact ⟨_, rfl, CellsAt.blk (cs := [0, 0]) (Blk.new wr _ _) 2, HF.out.alloc _⟩
      | true =>
        have hs := hst m hD.small
        obtain ⟨c8, hc8⟩ : ∃ c8, digC (m % B) = c8 := ⟨_, rfl⟩
        obtain ⟨m2, hm2⟩ : ∃ m2, m / B = m2 := ⟨_, rfl⟩
        rw [hc8, hm2] at hs
        have hm2lt : m2 < 340282366920938463463374607431768211456 := by rw [← hm2]; exact Nat.lt_of_le_of_lt (Nat.div_le_self _ _) hD.small
        have HC := Lib.hid (And.intro hc8 hm2)
        have p0 := hD.pair.cell 0
        have p1 := hD.pair.cell 1
        have HD1 := Lib.hid hD
        clear hc8 hm2 hD
        go_wp2_with fail
        refine (hs _).mono ?_
        rintro _ w1 ⟨rfl, t1⟩
        have bP := HD1.out.pair.touch t1 (by simp)
        have HT1 := Lib.hid t1
        clear t1 hs p0 p1
        have p0 := bP.cell 0
        have p1 := bP.cell 1
        have z0 := bP.frozen 0
        have z1 := bP.frozen 1
        go_upto_region 8 with fail
        have bP2 := bP.two_set (.int .i64 (pl m2)) (.int .i64 (ph m2))
        have hk1 := (HD1.out.kept.quiet HT1.out).own (by simp) HW.out (((Touch.refl [p] w1).setCell (p := ⟨p, 0, none⟩) (by simp) (.int .i64 (pl m2))).setCell (p := ⟨p, 1, none⟩) (by simp) (.int .i64 (ph m2)))
        have tP := ((Touch.refl [p] w1).setCell (p := ⟨p, 0, none⟩) (by simp) (.int .i64 (pl m2))).setCell (p := ⟨p, 1, none⟩) (by simp) (.int .i64 (ph m2))
        have bb1 := (HD1.out.b1.touch HT1.out (by simp)).touch tP (fun hm => HG.out.1 (List.mem_singleton.1 hm))
        have bb2 := (HD1.out.b2.touch HT1.out (by simp)).touch tP (fun hm => HG.out.2 (List.mem_singleton.1 hm))
        clear p0 p1 z0 z1 bP tP
        generalize (w1.setCell ⟨p, 0, none⟩ (.int .i64 (pl m2))).setCell ⟨p, 1, none⟩ (.int .i64 (ph m2)) = w2 at *
        have d0 := bb1.cell 0
        have hcl : 0 ≤ ((c8.toNat : Nat) : Int) ∧ ((c8.toNat : Nat) : Int) ≤ 255 := by have := c8.toNat_lt; omega
        have hacc : S.made.length + acc.length < 200 := by
          have h1 := HH.out.2.2.2.2
          have h2 := HD1.out.text
          have h3 := HH.out.2.2.2.1
          rw [if_pos rfl] at h2
          have h4 := congrArg List.length h2
          rw [List.length_append] at h4
          have h5 : 1 ≤ (digL B m).length := by
            rcases Nat.lt_or_ge m B with h | h
            · rw [digL_last B m h]; exact Nat.le_refl _
            · rw [digL_more B m hB0 h]; simp
          omega
        have hH := hk1.step (fun F' hS => hold_ok hS (by show (S.made ++ acc).length < 200; rw [List.length_append]; exact hacc) _ hcl)
        have HB2 := Lib.hid (And.intro bP2 (And.intro bb1 bb2))
        clear bP2 bb1 bb2 hk1 hacc hcl
        go_wp2_with fail
        refine hH.mono ?_
        rintro _ w3 ⟨rfl, hk3, on3⟩
        have bP3 := on3.blk (by simp) HB2.out.1
        have bb1 := on3.blk (by simp) HB2.out.2.1
        have bb2 := on3.blk (by simp) HB2.out.2.2
        have d2 := bb2.cell 0
        have p0 := bP3.cell 0
        have p1 := bP3.cell 1
        have heq := fun W => pair_neq (pl m2) (ph m2) 0 0 W
        rw [pair_nil m2 hm2lt] at heq
        have hgd := pair_guard
        have hk4 : Kept W s F [p, g1, g2] w3 { S with made := S.made ++ (acc ++ [((c8.toNat : Nat) : Int)]) } := by
          have h := hk3
          have e : S.made ++ acc ++ [((c8.toNat : Nat) : Int)] = S.made ++ (acc ++ [((c8.toNat : Nat) : Int)]) := List.append_assoc _ _ _
          rw [← e]
          exact h
        have hnu : numAtP wr p = m := numAtP_pair HD1.out.pair HD1.out.small
        have hnu3 : numAtP w3 p = m2 := numAtP_pair bP3 hm2lt
        have HB3 := Lib.hid (And.intro bP3 (And.intro bb1 (And.intro bb2 (And.intro hk4 (And.intro hnu hnu3)))))
        clear bP3 bb1 bb2 hk4 hnu hnu3 hk3 on3 hH d0
        by_cases hz : m2 = 0
        · rw [decide_eq_true hz] at heq
          have hmB : m < B := by
            have := HC.out.2
            rw [hz] at this
            exact (Nat.div_eq_zero_iff_lt (by omega)).1 this
          have HF : Hid (DigP W s g1 g2 p F S B n false w3 m2 (acc ++ [((c8.toNat : Nat) : Int)])) := by
            have ht := HD1.out.text
            refine ⟨HB3.out.2.2.2.1, HB3.out.1, HB3.out.2.1, HB3.out.2.2.1, hm2lt, ?_, fun _ => hz⟩
            rw [ht, if_pos rfl, if_neg (by simp), digL_last B m hmB, ← HC.out.1, Nat.mod_eq_of_lt hmB]
            simp
          clear hz hmB
          go_wp2_with fail
          refine ⟨⟨false, m2, _, rfl, rfl, HF.out⟩, ?_⟩
          have h1 := HB3.out.2.2.2.2.1
          have h2 := HB3.out.2.2.2.2.2
          have h3 := HF.out.stop rfl
          simp only [h1, h2, h3]
          omega
        · rw [decide_eq_false hz] at heq
          have hBm : B ≤ m := by
            rcases Nat.lt_or_ge m B with h | h
            · exact absurd (by rw [← HC.out.2, Nat.div_eq_of_lt h]) hz
            · exact h
          have HF : Hid (DigP W s g1 g2 p F S B n true w3 m2 (acc ++ [((c8.toNat : Nat) : Int)])) := by
            have ht := HD1.out.text
            refine ⟨HB3.out.2.2.2.1, HB3.out.1, HB3.out.2.1, HB3.out.2.2.1, hm2lt, ?_, fun h => by simp at h⟩
            rw [ht, if_pos rfl, if_pos rfl, digL_more B m hB0 hBm, HC.out.1, HC.out.2]
            simp
          have hmm : Hid (m2 < m) := by
            show m2 < m
            rw [← HC.out.2]
            exact Nat.div_lt_self (by omega) (by omega)
          clear hz hBm
          go_wp2_with fail
          refine ⟨⟨true, m2, _, rfl, rfl, HF.out⟩, ?_⟩
          have h1 := HB3.out.2.2.2.2.1
          have h2 := HB3.out.2.2.2.2.2
          have h3 := hmm.out
          simp only [h1, h2]
          omega
end Go.Proofs.YtkbchpaofmlhgaaGreatDoor

/- The operation end. -/
namespace Go.Proofs.YtkbchpaofmlhgaaGreatDoor
open Go.RowKit

theorem strOf_size {l : List Int} (h : Bytes l) : (strOfNums l).size = l.length := by
  have e := congrArg List.length (str_nums h)
  rwa [strL_len] at e
set_option maxRecDepth 100000 in
set_option maxHeartbeats 4000000 in
theorem end_clo (W : World) (s : Nat) (F : List Nat) (S : PS) (lv : Value) (hS : StateAt W s F S) (hok : S.ok) (hn : S.n = 1024) :
    Calls Tryz.prog 185 #[.pointer (some ⟨s, 0, none⟩), lv] W (ActDone W s F S (([((768 - S.made.length : Nat) : Int), (S.made.length : Int)], 0), { S with bs := wrtL S.bs (768 - S.made.length) S.made.reverse })) := by
  have hm200 := hok.2.1
  obtain ⟨k, hk⟩ : ∃ k, S.made.length = k := ⟨_, rfl⟩
  obtain ⟨p, hp⟩ : ∃ p, 768 - k = p := ⟨_, rfl⟩
  rw [hk] at hm200
  rw [hk, hp]
  have e1 : IntKind.i64.wrap ((1024 : Int) - 256) = 768 := by decide
  have e2 : IntKind.i64.wrap ((768 : Int) - (k : Int)) = (p : Int) := by rw [IntKind.wrap_i64]; omega
  have hmade : ∃ mv, W.cell? ⟨s, 3, none⟩ = some mv ∧ BRow W mv S.made ∧ W.cell? ⟨s, 2, none⟩ = some (.pointer (some ⟨S.m, 0, none⟩)) := by
    obtain ⟨FS, ov, mv, h, _⟩ := hS
    exact ⟨mv, h.blk.cell 3, h.made, h.blk.cell 2⟩
  obtain ⟨mv, s3, hr, s2⟩ := hmade
  have hC := CloneB_row hr (by omega)
  have hrv : Bytes S.made.reverse := fun x hx => hr.2 x (List.mem_reverse.1 hx)
  have HS := Lib.hid (And.intro hS (And.intro hrv (And.intro hk hn)))
  clear hS hr hrv hok
  go_enter Tryz.func185, Tryz.ntmps185
  go_wp2_with fail
  refine hC.mono ?_
  rintro _ w1 ⟨v, rfl, hown, t1⟩
  have hR := rev_any w1 W.heap.size v S.made hown
  obtain ⟨a, c, rfl⟩ := own_slice hown
  rw [hk] at hR hown
  have hlow := own_from hown
  have H1 := Lib.hid (And.intro hlow t1)
  clear hC hown hlow t1 s3
  go_wp2_with fail
  refine hR.mono ?_
  rintro _ w2 ⟨rfl, hown, t2⟩
  have T2 : Touch [] W w2 := H1.out.2.trans t2 (fun g hg => .inr (H1.out.1 g hg))
  have hMem := HS.out.1.mem.quiet T2
  have hSz := Size_any hMem
  rw [HS.out.2.2.2] at hSz
  have q2 := cell_quiet T2 s2
  have q3 := cell_quiet T2.drew s2
  have q4 := cell_quiet (T2.alloc (.cells #[.int .i64 (p : Int), .int .i64 (k : Int)] 36)).drew s2
  have hrow : ∀ w, Touch [] w2 w → BRow w (.slice a k c) S.made.reverse := fun w t => ⟨by rw [List.length_reverse, hk]; exact row_touch (own_low hown) t (by simp), HS.out.2.1⟩
  have hcv := row_text (hrow _ (Touch.refl [] w2).drew)
  have hcv2 := row_text (hrow _ ((Touch.refl [] w2).alloc (.cells #[.int .i64 (p : Int), .int .i64 (k : Int)] 36)).drew)
  have hxs : (strOfNums S.made.reverse).size = k := by rw [strOf_size HS.out.2.1, List.length_reverse]; exact HS.out.2.2.1
  have hsl := str_nums HS.out.2.1
  obtain ⟨X, hX⟩ : ∃ X, strOfNums S.made.reverse = X := ⟨_, rfl⟩
  rw [hX] at hcv hcv2 hxs hsl
  have hWr := fun w (t : Touch [] w2 w) => MWrite_ok (hMem.quiet t) p X (by rw [hxs, HS.out.2.2.2]; omega)
  rw [hsl] at hWr
  have HT := Lib.hid T2
  clear hR hown t2 T2 hrow hX hMem hsl hxs s2
  go_wp2_with fail
  refine hSz.mono ?_
  rintro _ _ ⟨rfl, rfl⟩
  clear hSz q2
  go_upto_region 4 with fail
  go_region_with (go_at_call 67; refine (hWr _ (by first | exact (Touch.refl [] w2).drew | exact ((Touch.refl [] w2).alloc _).drew)).mono ?_; rintro _ w3 ⟨rfl, hm, t3⟩; have HM := Lib.hid (And.intro hm t3); clear hm t3)
  all_goals go_wp2_with fail
  all_goals go_ret2
  all_goals have hne : w2.heap.size ∉ [S.g] := fun hm => absurd (HS.out.1.mem.quiet HT.out).row.lt (by rw [List.mem_singleton.1 hm]; exact Nat.lt_irrefl _)
  all_goals first | exact ⟨_, rfl, CellsAt.blk (cs := [(p : Int), (k : Int)]) (Blk.new w3 _ _) 2, (Done.mem HS.out.1 HM.out.1 (HT.out.mono (by simp) |>.trans HM.out.2.of_drew (fun g hg => .inl (by rw [List.mem_singleton.1 hg]; simp)))).alloc _⟩ | exact ⟨_, rfl, CellsAt.blk (cs := [(p : Int), (k : Int)]) ((Blk.new w2 _ _).drew.touch HM.out.2 hne) 2, Done.mem HS.out.1 HM.out.1 (Touch.trans (G := [S.g]) (((HT.out.alloc _).drew).mono (by simp)) HM.out.2 (fun g hg => .inl (by rw [List.mem_singleton.1 hg]; simp)))⟩
theorem end_sem : OpSem 107 2 (fun _ S => S.n = 1024) (fun _ S => (([((768 - S.made.length : Nat) : Int), (S.made.length : Int)], 0), { S with bs := wrtL S.bs (768 - S.made.length) S.made.reverse })) := by
  intro W B' s F S t f first cap l lv hok hS hF hfd
  obtain ⟨b, C, hC, hb, hA, hB⟩ := found_says hfd rfl rfl
  have e : (Value.agg #[.int .i64 t, .func (.func f) first cap]) = .agg #[.int .i64 2, .func (.func 185) #[.pointer (some ⟨s, 0, none⟩)] #[]] := hA
  injection e with e
  injection e with e
  injection e with e1 e
  injection e1 with _ e1
  injection e with e2 _
  injection e2 with e2 e3 e4
  injection e2 with e2
  subst e1 e2 e3 e4
  exact ⟨rfl, enters_of Tryz.func185 (by kernel_rfl) rfl, fun hl hpre hc => ActDone.post (end_clo W s F S lv hS hok hpre)⟩
end Go.Proofs.YtkbchpaofmlhgaaGreatDoor

/- The operations digits and end. -/
namespace Go.Proofs.YtkbchpaofmlhgaaGreatDoor
open Go.RowKit

theorem digits_sem : OpSem 104 2 (fun l S => ∃ n B : Nat, l = [cellOf n, 0] ∧ n < 18446744073709551616 ∧ S.base = B ∧ 2 ≤ B ∧ B ≤ 36 ∧ S.made.length + (digL B n).length ≤ 200) (fun l S => (([0, 0], 0), { S with made := S.made ++ digL S.base.toNat (l.getD 0 0 % 18446744073709551616).toNat })) := by
  intro W B' s F S t f first cap l lv hok hS hF hfd
  obtain ⟨b, C, hC, hb, hA, hB⟩ := found_says hfd rfl rfl
  obtain ⟨g1, g2, k1, k2, b1, b2, e⟩ := (hA : DigAct C s true _ W)
  injection e with e
  injection e with e
  injection e with e1 e
  injection e1 with _ e1
  injection e with e2 _
  injection e2 with e2 e3 e4
  injection e2 with e2
  subst e1 e2 e3 e4
  refine ⟨rfl, enters_of Tryz.func233 (by kernel_rfl) rfl, fun hl hpre hc => ActDone.post ?_⟩
  obtain ⟨n, B, rfl, hn, hbase, hB0, hB1, hlen⟩ := hpre
  obtain ⟨ad, c, x, y, e, rfl, cx, cy⟩ := hc.two hl
  injection e with e1 e
  injection e with e2 _
  subst e1 e2
  have e : (cellOf n % 18446744073709551616).toNat = n := by unfold cellOf; split <;> omega
  show Calls Tryz.prog _ _ W (ActDone W s F S (([0, 0], 0), { S with made := S.made ++ digL S.base.toNat ((([cellOf n, 0] : List Int).getD 0 0) % 18446744073709551616).toNat }))
  rw [List.getD_cons_zero, e, hbase, Int.toNat_natCast]
  exact digits_clo W s g1 g2 ad c n B F S hS hok hbase hB0 hB1 hn hlen (fun hm => by have := hF _ hm; omega) (fun hm => by have := hF _ hm; omega) b1 b2 cx cy
end Go.Proofs.YtkbchpaofmlhgaaGreatDoor
