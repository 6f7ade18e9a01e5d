import Derived.Test.YtdokeddjcpnmiaaGreatDoorKECellP
/- EngineCells: an engine, a row of instructions and a row of cells beside each other, all apart. -/
namespace Go.Proofs.YtdokeddjcpnmiaaGreatDoor
open Go.RowKit
namespace En

structure CeG (w : World) (g : Nat) (p : Lay) (m : M) (LC : List (Int × Int × Int)) (LW : List Int) (cv wv : Value) (wr : World) : Prop where
  eng : ∃ F', EngAt wr g p F' m ∧ (∀ x ∈ F', w.heap.size ≤ x) ∧ (∀ x ∈ rowOf cv, x ∉ F') ∧ ∀ x ∈ rowOf wv, x ∉ F'
  code : CodeRow w.heap.size wr cv LC
  want : WantRow w.heap.size wr wv LW
  off : ∀ x ∈ rowOf cv, x ∉ rowOf wv
  touch : Touch [] w wr
section
variable {w wr w2 Wm : World} {g : Nat} {p : Lay} {m m2 : M} {LC X : List (Int × Int × Int)} {LW LW' : List Int} {cv wv v' : Value}
theorem own_base {B : Nat} {W : World} {e : TypeId} {s n : Nat} {v : Value} {xs : List Value} (h : W.ownsRow B e s v n xs) : ∀ x ∈ rowOf v, B ≤ x ∧ x < W.heap.size := fun x hx => World.ownsRow.lt h x (rowOf_mem.1 hx)
theorem CeG.quiet (h : CeG w g p m LC LW cv wv wr) (t : Touch [] wr w2) : CeG w g p m LC LW cv wv w2 := by
  obtain ⟨⟨F', h1, h2, h3, h4⟩, h5, h6, h7, h8⟩ := h
  exact ⟨⟨F', h1.touch t (by simp), h2, h3, h4⟩, row_touch h5 t (by simp), row_touch h6 t (by simp), h7, h8.trans t (by simp)⟩
theorem CeG.call (h : CeG w g p m LC LW cv wv wr) : ∃ F', EngAt wr g p F' m ∧ (∀ x ∈ F', w.heap.size ≤ x) ∧ (∀ b ∈ rowOf cv, b < wr.heap.size ∧ b ∉ F') ∧ ∀ m2 w2, Keep wr g p F' m2 w2 → CeG w g p m2 LC LW cv wv w2 := by
  obtain ⟨⟨F', h1, h2, h3, h4⟩, h5, h6, h7, h8⟩ := h
  refine ⟨F', h1, h2, fun x hx => ⟨(own_base h5 x hx).2, h3 x hx⟩, fun m2 w2 ⟨F2, k1, k2, k3⟩ => ⟨⟨F2, k1, fun x hx => ?_, fun x hx hF => ?_, fun x hx hF => ?_⟩, row_touch h5 k2 h3, row_touch h6 k2 h4, h7, h8.trans k2 (fun x hx => .inr (h2 x hx))⟩⟩
  · rcases k3 x hx with e | e
    · exact h2 x e
    · exact Nat.le_trans h8.size e
  · rcases k3 x hF with e | e
    · exact h3 x hx e
    · have := (own_base h5 x hx).2; omega
  · rcases k3 x hF with e | e
    · exact h4 x hx e
    · have := (own_base h6 x hx).2; omega
theorem CeG.code_next (h : CeG w g p m LC LW cv wv wr) (t : Touch [] wr Wm) (h1 : CodeRow w.heap.size w2 v' (LC ++ X)) (hg : Wm.grownBy w2 cv.ownBlock) (ha : v'.ownBlock = cv.ownBlock ∨ v'.ownBlock = some Wm.heap.size) : CeG w g p m (LC ++ X) LW v' wv w2 := by
  obtain ⟨⟨F', e1, e2, e3, e4⟩, h5, h6, h7, h8⟩ := h.quiet t
  have tg : Touch (rowOf cv) Wm w2 := (Touch.refl _ Wm).grown hg fun k hk => .inl (rowOf_mem.2 hk)
  have hrow : ∀ x ∈ rowOf v', x ∈ rowOf cv ∨ x = Wm.heap.size := fun x hx => by
    have hx := rowOf_mem.1 hx
    rcases ha with e | e
    · exact .inl (rowOf_mem.2 (e ▸ hx))
    · rw [e] at hx
      injection hx with hx
      exact .inr hx.symm
  refine ⟨⟨F', e1.touch tg (fun x hx hc => e3 x hc hx), e2, fun x hx hF => ?_, e4⟩, h1, row_touch h6 tg (fun x hx hc => h7 x hc hx), fun x hx hw => ?_, h8.trans tg (fun x hx => .inr (own_base h5 x hx).1)⟩
  · rcases hrow x hx with e | e
    · exact e3 x e hF
    · have := e1.lt x hF; omega
  · rcases hrow x hx with e | e
    · exact h7 x e hw
    · have := (own_base h6 x hw).2; omega
theorem CeG.want_new (h : CeG w g p m LC LW cv wv wr) (t : Touch [] wr w2) (h1 : WantRow w.heap.size w2 v' LW') (hn : ∀ x ∈ rowOf v', wr.heap.size ≤ x) : CeG w g p m LC LW' cv v' w2 := by
  obtain ⟨⟨F', e1, e2, e3, e4⟩, h5, h6, h7, h8⟩ := h.quiet t
  obtain ⟨⟨F0, a1, a2, a3, a4⟩, b5, b6, b7, b8⟩ := h
  refine ⟨⟨F0, a1.touch t (by simp), a2, a3, fun x hx hF => ?_⟩, h5, h1, fun x hx hw => ?_, h8⟩
  · have := a1.lt x hF; have := hn x hx; omega
  · have := (own_base b5 x hx).2; have := hn x hw; omega
end
theorem frame_six {P : Program} {code : Code} {Q : Exit → Go.Act → World → Prop} {T : Array Value} {d : List Deferred} {w : World} (arr : (Nat → Value) → Array Value) (f0 : Nat → Value) (hT : T = arr f0) (v6 : Value) (h6 : f0 6 = v6)
    (k : ∀ f : Nat → Value, f 6 = v6 → code.wp P Q { tmps := arr f, defers := d } w) : code.wp P Q { tmps := T, defers := d } w := by
  rw [hT]
  exact k f0 h6
set_option maxHeartbeats 1000000 in
theorem Step_nil (w : World) : Calls Tryz.prog 27 #[.pointer none] w fun e w' => e = .returned (.agg #[.int .i64 5, .int .i64 0, .int .i64 0]) ∧ Touch [] w w' := by
  have bz := Blk.new w 48 #[.int .i64 0, .int .i64 0, .int .i64 0]
  have tz := (Touch.refl [] w).alloc (.cells #[.int .i64 0, .int .i64 0, .int .i64 0] 48)
  obtain ⟨z, hz⟩ : ∃ z, w.heap.size = z := ⟨_, rfl⟩
  rw [hz] at bz
  go_enter Tryz.func27, Tryz.ntmps27
  go_upto_region 1 with fail
  generalize w.alloc (.cells #[.int .i64 0, .int .i64 0, .int .i64 0] 48) = W0 at *
  obtain ⟨⟨e0, e1, e2⟩, g0, g1, g2⟩ := zeros_of bz
  obtain ⟨r0, r1, r2⟩ := three_read bz (.int .i64 5) (.int .i64 0) (.int .i64 0)
  have HT := Lib.hid (((tz.setCell (p := ⟨z, 0, none⟩) (.inr (by rw [hz]; exact Nat.le_refl _)) (.int .i64 5)).setCell (p := ⟨z, 1, none⟩) (.inr (by rw [hz]; exact Nat.le_refl _)) (.int .i64 0)).setCell (p := ⟨z, 2, none⟩) (.inr (by rw [hz]; exact Nat.le_refl _)) (.int .i64 0))
  clear bz tz hz
  go_wp2_with fail
  refine bodyPost_ret (by simp [results, Tryz.results27, go_sem, r0, r1, r2]; try rfl) rfl ?_
  exact ⟨rfl, HT.out⟩
theorem find_nil (x : Int) (w : World) : Calls Tryz.prog 43 #[.pointer none, .int .i64 x] w fun e w' => e = .returned (.pointer none) ∧ w = w' := by
  go_enter Tryz.func43, Tryz.ntmps43
  go_wp2_with fail
  go_ret
  exact ⟨rfl, rfl⟩
theorem Exec_nil (x : Int) (w : World) : Calls Tryz.prog 19 #[.pointer none, .int .i64 x] w fun e w' => e = .returned (.int .i64 2) ∧ w = w' := by
  have hF := find_nil x w
  go_enter Tryz.func19, Tryz.ntmps19
  go_wp2_with fail
  refine hF.mono ?_
  rintro _ _ ⟨rfl, rfl⟩
  clear hF
  go_wp2_with fail
  go_ret
  exact ⟨rfl, rfl⟩
theorem State_nil (w : World) : Calls Tryz.prog 14 #[.pointer none] w fun e w' => e = .returned (.pointer none) ∧ w = w' := by
  go_enter Tryz.func14, Tryz.ntmps14
  go_wp2_with fail
  go_ret
  exact ⟨rfl, rfl⟩
theorem at_tor : atName (preL 5) ⟨#[62, 114]⟩ = some 107 := by kernel_rfl
theorem at_copyr : atName (preL 5) ⟨#[114, 64]⟩ = some 109 := by kernel_rfl
theorem at_fromr : atName (preL 5) ⟨#[114, 62]⟩ = some 108 := by kernel_rfl
theorem w108 : wordsT[107]? = some (2, 1, 0) := by kernel_rfl
theorem w109 : wordsT[108]? = some (2, 2, 0) := by kernel_rfl
theorem w110 : wordsT[109]? = some (2, 3, 0) := by kernel_rfl
theorem ceWs_ctl : ∀ (l : List Int) (i : Nat), ctlB (ceWs i l) = true
  | [], _ => rfl
  | c :: l, i => by
    unfold ceWs
    have h := ceWs_ctl l (i + 1)
    unfold ctlB at h ⊢
    rw [List.all_cons, List.all_cons, h]
    have e : decide ((ceK i, (0 : Int), c).1 = 2 → 1 ≤ (ceK i, (0 : Int), c).2.1 ∧ (ceK i, (0 : Int), c).2.1 ≤ 9) = true := by
      unfold ceK
      split <;> rfl
    rw [e]
    rfl
theorem ceOne (S : PS) (ys : List Int) (hy : ys.length ≤ 20) (W : List (Int × Int × Int)) (hW : W.length ≤ 1000) (nx : Int) (S' : PS) (fr : List Fr) : One ({ ceM S ys with words := W, nx := nx, S := S', fr := fr } : M) (ceL ys) := by
  have hl := ceL_len ys
  refine ⟨by show [] ++ codeOf _ = _; rw [List.nil_append], by show [] ++ [_] = _; rw [List.nil_append, show ({ M.new S ins0' with words := wordsT ++ ceWs 0 ys } : M).code.length = 0 from rfl, Nat.zero_add], by omega, fun x hx => ?_, hW⟩
  rcases ceL_op ys hy x hx with ⟨h1, h2, h3⟩ | rfl
  · rw [h1]; exact ⟨by decide, by omega, by omega⟩
  · decide
theorem ceWords_len (ys : List Int) : (wordsT ++ ceWs 0 ys ++ [((5 : Int), (1 : Int), (0 : Int)), (8, 0, 0)]).length = 182 + 2 * ys.length := by
  rw [List.length_append, List.length_append, wordsT_len, ceWs_len]
  simp
  omega
theorem ce_last (S : PS) (ys : List Int) : (ceM S ys).word (181 + 2 * (ys.length : Int)) = some (5, 1, 0) ∧ (ceM S ys).word (182 + 2 * (ys.length : Int)) = some (8, 0, 0) := by
  have hl : (wordsT ++ ceWs 0 ys).length = 180 + 2 * ys.length := by rw [List.length_append, wordsT_len, ceWs_len]
  constructor
  · unfold M.word
    rw [if_neg (by omega), show (181 + 2 * (ys.length : Int) - 1).toNat = (wordsT ++ ceWs 0 ys).length + 0 by omega]
    show (wordsT ++ ceWs 0 ys ++ [(5, 1, 0), (8, 0, 0)])[_]? = _
    rw [List.getElem?_append_right (by omega), Nat.add_sub_cancel_left]
    rfl
  · unfold M.word
    rw [if_neg (by omega), show (182 + 2 * (ys.length : Int) - 1).toNat = (wordsT ++ ceWs 0 ys).length + 1 by omega]
    show (wordsT ++ ceWs 0 ys ++ [(5, 1, 0), (8, 0, 0)])[_]? = _
    rw [List.getElem?_append_right (by omega), Nat.add_sub_cancel_left]
    rfl
theorem word_pre {m : M} {X : List (Int × Int × Int)} (h : m.words = wordsT ++ X) {i : Nat} {u : Int × Int × Int} (hu : wordsT[i]? = some u) : m.word ((i : Int) + 1) = some u := by
  have hi : i < wordsT.length := (List.getElem?_eq_some_iff.1 hu).1
  unfold M.word
  rw [if_neg (by omega), h, show ((i : Int) + 1 - 1).toNat = i by omega, List.getElem?_append_left hi]
  exact hu
theorem ceRun (S : PS) (hst : S.st = []) (ys : List Int) (hy : ys.length ≤ 20) : M.run pD 300 { ceM S ys with nx := 181 + 2 * (ys.length : Int) } = ((5, 0, 0), (ceM S ys).go 0 0 (ceWant ys) []) := by
  have hone := ceOne S ys hy (ceM S ys).words (by show (wordsT ++ ceWs 0 ys ++ [(5, 1, 0), (8, 0, 0)]).length ≤ 1000; rw [ceWords_len]; omega) 0 S []
  have hw : (ceM S ys).words = wordsT ++ (ceWs 0 ys ++ [(5, 1, 0), (8, 0, 0)]) := by show wordsT ++ ceWs 0 ys ++ [(5, 1, 0), (8, 0, 0)] = _; rw [List.append_assoc]
  have hA : DefAt (ceM S ys) 1 (putL (ceUs 0 ys) ++ (getL (ceUs 0 ys).length ++ [(15, 0, 0)])) := by
    rw [ceUs_len]
    exact hone.defAt
  have h := cells_law (D := pD) (m := ceM S ys) (ceUs 0 ys) (by rw [ceUs_len]; exact hy) hA (181 + 2 * (ys.length : Int)) 0 (by omega) (ce_last S ys).1 (Nat.le_of_ble_eq_true rfl) (word_pre (i := 107) hw w108) (word_pre (i := 108) hw w109) (word_pre (i := 109) hw w110) (ce_pushes S ys)
  have e : ({ ceM S ys with nx := 181 + 2 * (ys.length : Int) } : M) = { (ceM S ys).go 0 0 [] [] with nx := 181 + 2 * (ys.length : Int) } := by
    have : S = { S with st := [] } := by cases S; simp at hst; subst hst; rfl
    show ({ ceM S ys with nx := 181 + 2 * (ys.length : Int) } : M) = { ceM { S with st := [] } ys with nx := 181 + 2 * (ys.length : Int) }
    rw [← this]
  rw [e, h, ceUs_snd]
  rfl
end En
end Go.Proofs.YtdokeddjcpnmiaaGreatDoor
