/- What a tree means: the contract of Mean. -/
import Derived.Test.YtnhhflnanogpjaaGreatDoorPutAt
import Derived.Test.YtnhhflnanogpjaaGreatDoorRight3
import Derived.Test.YtnhhflnanogpjaaGreatDoorDoes
import Derived.Test.YtnhhflnanogpjaaGreatDoorTreeBlind
namespace Go.Proofs.YtnhhflnanogpjaaGreatDoor
open Go.RowKit

/-- cells that were handed in -/
def CellsAt (w : World) (cv : Value) (cs : List Int) : Prop :=
  (cv = .slice none 0 0 ∧ cs = []) ∨ ∃ ad c, cv = .slice (some ad) cs.length c ∧ ∀ j u, (cells cs)[j]? = some u → w.cell? (ad.add j) = some u
theorem CellsAt.quiet {w w' : World} {cv : Value} {cs : List Int} (h : CellsAt w cv cs) (t : Touch [] w w') : CellsAt w' cv cs := by
  rcases h with h | ⟨ad, c, e, hc⟩
  · exact .inl h
  · exact .inr ⟨ad, c, e, fun j u hj => cell_quiet t (hc j u hj)⟩

def MeantV.val (m : MeantV) (sv : Value) : Value := .agg #[sv, .int .i64 m.code, .bool m.done, .int .i64 m.steps]
/-- a meaning was told -/
def Told (w : World) (m : MeantV) : Ending → World → Prop := fun e w' => ∃ sv, e = .returned (m.val sv) ∧ w'.ownsRow 0 34 1 sv m.st.length (cells m.st) ∧ Touch [] w w'

theorem Put_any (w : World) (b : Nat) (F : List Nat) (h : StackAt w b F []) (cv : Value) (cs : List Int) (hc : CellsAt w cv cs) (hl : cs.length ≤ 128) :
    Calls Tryz.prog 16 #[.pointer (some ⟨b, 0, none⟩), cv] w fun e w' => ∃ F', e = .returned (.int .i64 0) ∧ StackAt w' b F' cs ∧ Touch F w w' ∧ Sub w F F' := by
  rcases hc with ⟨rfl, rfl⟩ | ⟨ad, c, rfl, hc⟩
  · exact (Put_none w b F [] h (by simp)).mono fun e w' ⟨h1, h2, h3⟩ => ⟨F, h1, h2, h3, Sub.refl _ _⟩
  · exact (Put_at w b F [] h ad c cs (by simpa using hl) hc).mono fun e w' ⟨F', h1, h2, h3, h4⟩ => ⟨F', h1, by simpa using h2, h3, h4⟩

theorem four_back {w : World} {g : Nat} {t : TypeId} {a b c d : Value} (h : Blk w g t #[a, b, c, d]) (x y z u : Value) :
    Blk ((((w.setCell ⟨g, 0, none⟩ x).setCell ⟨g, 1, none⟩ y).setCell ⟨g, 2, none⟩ z).setCell ⟨g, 3, none⟩ u) g t #[x, y, z, u] :=
  (((h.set_ 0 x).set_ 1 y).set_ 2 z).set_ 3 u

theorem own_slice {w : World} {base n : Nat} {e : TypeId} {size : Nat} {v : Value} {xs : List Value} (h : w.ownsRow base e size v n xs) : ∃ a c, v = .slice a n c := by
  rcases h.2 with ⟨rfl, h0⟩ | ⟨g, cap, cur, rfl, _⟩
  · exact ⟨none, 0, by rw [h0]⟩
  · exact ⟨_, _, rfl⟩
theorem own_low {w : World} {base n : Nat} {e : TypeId} {size : Nat} {v : Value} {xs : List Value} (h : w.ownsRow base e size v n xs) : w.ownsRow 0 e size v n xs := by
  refine ⟨h.1, ?_⟩
  rcases h.2 with h | ⟨g, cap, cur, h1, _, h3⟩
  · exact .inl h
  · exact .inr ⟨g, cap, cur, h1, Nat.zero_le _, h3⟩
/-- what Mean's variable is when it is told -/
theorem mean_ret {w W : World} {m : MeantV} {sv : Value} {tmps : Array Value} {a b c d : Value} (h8 : tmps[8]? = some (.pointer (some ⟨w.heap.size, 0, none⟩))) (B : Blk W w.heap.size 29 #[a, b, c, d]) (T : Touch [] w W) (R : W.ownsRow 0 34 1 sv m.st.length (cells m.st)) (hsv : w.heap.size ∉ rowOf sv) :
    bodyPost Tryz.prog Tryz.f8 (Told w m) .ret { tmps := tmps, defers := [] } ((((W.setCell ⟨w.heap.size, 0, none⟩ sv).setCell ⟨w.heap.size, 1, none⟩ (.int .i64 m.code)).setCell ⟨w.heap.size, 2, none⟩ (.bool m.done)).setCell ⟨w.heap.size, 3, none⟩ (.int .i64 m.steps)) := by
  have hB := four_back B sv (.int .i64 m.code) (.bool m.done) (.int .i64 m.steps)
  have q0 := hB.cell 0
  have q1 := hB.cell 1
  have q2 := hB.cell 2
  have q3 := hB.cell 3
  have hT : Touch [] w ((((W.setCell ⟨w.heap.size, 0, none⟩ sv).setCell ⟨w.heap.size, 1, none⟩ (.int .i64 m.code)).setCell ⟨w.heap.size, 2, none⟩ (.bool m.done)).setCell ⟨w.heap.size, 3, none⟩ (.int .i64 m.steps)) := (((T.setCell (.inr (Nat.le_refl _)) _).setCell (.inr (Nat.le_refl _)) _).setCell (.inr (Nat.le_refl _)) _).setCell (.inr (Nat.le_refl _)) _
  have hRow := row_touch R (F := [w.heap.size]) ((((Touch.refl [w.heap.size] W).setCell (p := ⟨w.heap.size, 0, none⟩) (by simp) sv).setCell (p := ⟨w.heap.size, 1, none⟩) (by simp) (.int .i64 m.code)).setCell (p := ⟨w.heap.size, 2, none⟩) (by simp) (.bool m.done) |>.setCell (p := ⟨w.heap.size, 3, none⟩) (by simp) (.int .i64 m.steps)) (fun g hg => by
    rw [List.mem_singleton]
    rintro rfl
    exact hsv hg)
  generalize (((W.setCell ⟨w.heap.size, 0, none⟩ sv).setCell ⟨w.heap.size, 1, none⟩ (.int .i64 m.code)).setCell ⟨w.heap.size, 2, none⟩ (.bool m.done)).setCell ⟨w.heap.size, 3, none⟩ (.int .i64 m.steps) = W' at *
  refine bodyPost_ret (v := m.val sv) ?_ rfl ⟨sv, rfl, hRow, hT⟩
  simp [results, Tryz.f8, go_sem, h8, q0, q1, q2, q3, MeantV.val]

theorem rightB_spec {l : List NodeV} {locals : Int} (h : rightB l locals = true) : ∃ nl : Nat, locals = nl ∧ nl ≤ 16 ∧ 1 ≤ l.length ∧ l.length ≤ 100 ∧ (∃ ps, partsF l locals l.length = some ps) := by
  unfold rightB at h
  split at h
  · cases h
  · rename_i hn
    cases e : partsF l locals l.length with
    | none => rw [e] at h; cases h
    | some ps => exact ⟨locals.toNat, by omega, by omega, by omega, by omega, ps, rfl⟩
theorem right_fine {l : List NodeV} {nl : Nat} (h : rightB l nl = true) (hk : ∀ v ∈ l, v.kids.length ≤ 1000) : ∀ i, i < l.length → NodeFine nl i (l.getD i NodeV.none) := fun i hi => by
  obtain ⟨_, _, _, _, _, ps, hps⟩ := rightB_spec h
  have := (partsF_ok l nl l.length ps hps).2.2 i hi
  exact fine_of this.1 this.2 (hk _ (by rw [List.getD, List.getElem?_eq_getElem hi]; exact List.getElem_mem _))

theorem RunLeft.parts {w w' : World} {b : Nat} {F : List Nat} {s : Run} (h : RunLeft w b F s w') : ∃ FS, Blk w' b 51 #[.pointer (some ⟨s.sb, 0, none⟩), (w'.cell? ⟨b, 1, none⟩).getD undef, (w'.cell? ⟨b, 2, none⟩).getD undef, .int .i64 s.steps, .int .i64 s.fuel] ∧ StackAt w' s.sb FS s.st ∧ Touch F w w' := by
  obtain ⟨F', ⟨bS, FS, lv, pv, hp, _⟩, t, _⟩ := h
  have h1 := hp.blk.cell 1
  have h2 := hp.blk.cell 2
  have e1 : w'.cell? ⟨b, 1, none⟩ = some lv := h1
  have e2 : w'.cell? ⟨b, 2, none⟩ = some pv := h2
  rw [e1, e2, ← hp.tie]
  exact ⟨FS, hp.blk, hp.stk, t⟩
theorem RunLost.blk {w w' : World} {b : Nat} {F : List Nat} {s : Run} (h : RunLost w b F s w') : ∃ FS, Blk w' b 51 #[.pointer (some ⟨s.sb, 0, none⟩), (w'.cell? ⟨b, 1, none⟩).getD undef, (w'.cell? ⟨b, 2, none⟩).getD undef, .int .i64 s.steps, .int .i64 s.fuel] ∧ StackAt w' s.sb FS s.st ∧ Touch F w w' := by
  obtain ⟨X, h⟩ := h
  exact h.parts

set_option maxRecDepth 100000 in
set_option maxHeartbeats 4000000 in
theorem Mean_go (l : List NodeV) (lv : Value) (nl : Nat) (cv : Value) (cs : List Int) (f : Nat) (w : World) (hN : NodesAt w lv l) (hR : rightB l nl = true) (hok : NodesOk l) (hC : CellsAt w cv cs) (hcs : AllCells cs) (hcl : cs.length ≤ 128) (hf : f ≤ 100000) :
    Calls Tryz.prog 8 #[lv, .int .i64 nl, cv, .int .i64 f] w (Told w (meanF l nl cs f)) := by
  obtain ⟨nl', hnl, hn16, hl1, hl2, _⟩ := rightB_spec hR
  obtain rfl : nl = nl' := by omega
  have hk : ∀ v ∈ l, v.kids.length ≤ 1000 := fun v hv => (hok v hv).2
  have hfine := right_fine hR hk
  have hRight := fun W (t : Touch [] w W) => Right_go l lv nl W (hN.quiet t) hn16 hl1 hl2 hk
  rw [hR] at hRight
  have hNew := fun W => New_any W
  obtain ⟨g, c, rfl, hlc, hcells⟩ := id hN
  obtain ⟨ca, cc, rfl⟩ : ∃ ca cc, cv = .slice ca cs.length cc := by
    rcases hC with ⟨rfl, rfl⟩ | ⟨ad, c, rfl, _⟩
    · exact ⟨none, 0, rfl⟩
    · exact ⟨_, _, rfl⟩
  have hgt : decide ((128 : Int) < cs.length) = false := by simp; omega
  have B8 := Blk.new w 29 #[.slice none 0 0, .int .i64 0, .bool false, .int .i64 0]
  have T8 := (Touch.refl [] w).alloc (.cells #[.slice none 0 0, .int .i64 0, .bool false, .int .i64 0] 29)
  have H8 := Lib.hid (And.intro B8 (And.intro T8 (And.intro hN (And.intro hcells (And.intro hfine (And.intro hC (And.intro hcs hR)))))))
  clear B8 hN hcells hfine hC hcs hR
  go_enter Tryz.func8, Tryz.ntmps8
  go_wp2_with fail
  refine (hRight _ T8).mono ?_
  rintro _ w1 ⟨rfl, t1⟩
  go_wp2_with fail
  refine (hNew _).mono ?_
  rintro _ w2 ⟨rfl, hS2, t2⟩
  have T2 := (T8.trans t1 (by simp)).trans t2 (by simp)
  go_wp2_with fail
  refine (Put_any w2 _ _ hS2 _ cs (H8.out.2.2.2.2.2.1.quiet T2) hcl).mono ?_
  rintro _ w3 ⟨F3, rfl, hS3, t3, s3⟩
  have hz1 : w.heap.size < w1.heap.size := by have := t1.size; simp at this; omega
  have T3 := T2.trans t3 (fun g hg => .inr (by rw [List.mem_singleton.1 hg]; omega))
  have hF3 : ∀ g ∈ F3, w.heap.size < g := fun g hg => by
    rcases s3 g hg with h | h
    · rw [List.mem_singleton.1 h]; exact hz1
    · have := t2.size; omega
  have B3 : Blk w3 w.heap.size 29 #[.slice none 0 0, .int .i64 0, .bool false, .int .i64 0] := ((H8.out.1.touch t1 (by simp)).touch t2 (by simp)).touch t3 (by simp; omega)
  clear T8 T2 t1 t2 t3 s3 hS2 hRight hNew
  by_cases hu : cs.length < nl
  · have hm : meanF l nl cs f = ⟨[], -4, true, 0⟩ := by unfold meanF; rw [if_pos hu]
    have HM := Lib.hid hm
    have c0 := B3.cell 0
    have c1 := B3.cell 1
    have c2 := B3.cell 2
    have c3 := B3.cell 3
    have f0 := B3.frozen 0
    have f1 := B3.frozen 1
    have f2 := B3.frozen 2
    have f3 := B3.frozen 3
    have HB := Lib.hid (And.intro B3 T3)
    clear B3 T3 hm hgt hF3
    go_wp2_with fail
    refine (Take_under w3 _ _ cs hS3 nl hu (by omega)).mono ?_
    rintro _ _ ⟨rfl, rfl⟩
    clear hS3
    go_wp2
    rw [HM.out]
    exact mean_ret (m := ⟨[], -4, true, 0⟩) (by rfl) HB.out.1 HB.out.2 (World.ownsRow_nil _ _ _ _) (by simp [rowOf])
  · have hTk := Take_ok w3 _ _ cs hS3 nl (by omega) (by omega)
    have HB := Lib.hid (And.intro B3 (And.intro T3 hS3))
    clear B3 T3 hS3
    go_wp2_with fail
    refine hTk.mono ?_
    rintro _ w4 ⟨v, rfl, hrow, hS4, t4⟩
    obtain ⟨va, vc, rfl⟩ : ∃ a c, v = .slice a nl c := by
      rcases hrow.2 with ⟨rfl, h0⟩ | ⟨g, cap, cur, rfl, _⟩
      · exact ⟨none, 0, by rw [h0]⟩
      · exact ⟨_, _, rfl⟩
    have hmx : max (f : Int) 0 = f := by omega
    have hwl : IntKind.i64.wrap ((l.length : Int) - 1) = ((l.length - 1 : Nat) : Int) := by rw [IntKind.wrap_i64]; omega
    clear hTk
    go_wp2_with fail
    obtain ⟨B3, T3, hS3⟩ := HB.out
    have hT4 : Touch [] w w4 := T3.trans t4 (fun g hg => .inr (by have := hF3 g hg; omega))
    have B4 := B3.touch t4 (fun hg => by have := hF3 _ hg; omega)
    have hlt3 := hS3.lt
    have ht4 := t4.size
    have hrl : w4.ownsRow 0 34 1 (.slice va nl vc) nl (cells (cs.drop (cs.length - nl))) := by
      refine ⟨hrow.1, ?_⟩
      rcases hrow.2 with h | ⟨g, cap, cur, h1, h2, h3⟩
      · exact .inl h
      · exact .inr ⟨g, cap, cur, h1, Nat.zero_le _, h3⟩
    have hrow0 : ∀ g ∈ rowOf (.slice va nl vc), w3.heap.size ≤ g ∧ g < w4.heap.size := fun g hg => hrow.lt g (rowOf_mem.1 hg)
    have hdl : (cs.drop (cs.length - nl)).length = nl := by rw [List.length_drop]; omega
    have hRun : RunAt (w4.alloc (Obj.cells #[Value.pointer (some ⟨w1.heap.size, 0, none⟩), Value.slice va nl vc, Value.slice none 0 0, Value.int IntKind.i64 0, Value.int IntKind.i64 (f : Int)] 51)) w4.heap.size (w4.heap.size :: (F3 ++ (rowOf (.slice va nl vc) ++ rowOf (.slice none 0 0)))) ⟨cs.take (cs.length - nl), cs.drop (cs.length - nl), [], 0, f, w1.heap.size⟩ := by
      have tA := (Touch.refl [] w4).alloc (Obj.cells #[Value.pointer (some ⟨w1.heap.size, 0, none⟩), Value.slice va nl vc, Value.slice none 0 0, Value.int IntKind.i64 0, Value.int IntKind.i64 (f : Int)] 51)
      refine ⟨w1.heap.size, F3, _, _, ⟨Blk.new w4 _ _, hS4.touch tA (by simp), ?_, World.ownsRow_nil _ _ _ _, ?_, ?_, by simp [rowOf], ?_, by simp [rowOf], by simp [rowOf], rfl⟩, rfl⟩
      · show World.ownsRow _ _ _ _ _ (cs.drop (cs.length - nl)).length _
        rw [hdl]
        exact row_touch hrl tA (by simp)
      · intro h; have := hlt3 _ h; omega
      · intro h; have := hrow0 _ h; omega
      · intro g hg h; have := hlt3 _ hg; have := (hrow0 _ h).1; omega
    have T5 := hT4.alloc (Obj.cells #[Value.pointer (some ⟨w1.heap.size, 0, none⟩), Value.slice va nl vc, Value.slice none 0 0, Value.int IntKind.i64 0, Value.int IntKind.i64 (f : Int)] 51)
    have B5 := B4.alloc (Obj.cells #[Value.pointer (some ⟨w1.heap.size, 0, none⟩), Value.slice va nl vc, Value.slice none 0 0, Value.int IntKind.i64 0, Value.int IntKind.i64 (f : Int)] 51)
    have hFw : ∀ g ∈ (w4.heap.size :: (F3 ++ (rowOf (.slice va nl vc) ++ rowOf (.slice none 0 0)))), w.heap.size < g := by
      have h0 := T3.size
      have h1 := B3.lt
      intro g hg
      simp only [List.mem_cons, List.mem_append] at hg
      rcases hg with rfl | hg | hg | hg
      · omega
      · exact hF3 g hg
      · have := (hrow0 _ hg).1; omega
      · simp [rowOf] at hg
    generalize hF5 : (w4.heap.size :: (F3 ++ (rowOf (.slice va nl vc) ++ rowOf (.slice none 0 0)))) = F5 at *
    generalize w4.alloc (Obj.cells #[Value.pointer (some ⟨w1.heap.size, 0, none⟩), Value.slice va nl vc, Value.slice none 0 0, Value.int IntKind.i64 0, Value.int IntKind.i64 (f : Int)] 51) = w5 at *
    obtain ⟨_, _, hN, hcells, hfine, hC, hcs, hR⟩ := H8.out
    refine (made_any l nl hok hfine _ (l.length - 1) (by omega) w5 (hN.quiet T5)).mono ?_
    rintro _ w6 ⟨v, rfl, t6, hA⟩
    have hA := hA l.length (by omega)
    have hRI : RunIn w5.heap.size w6.heap.size w6 w6 w4.heap.size F5 l.length nl ⟨cs.take (cs.length - nl), cs.drop (cs.length - nl), [], 0, f, w1.heap.size⟩ :=
      ⟨Kept.refl _ _ _, Nat.le_refl _, fun g hg h => by have := hRun.lt g hg; omega, hRun.touch t6 (by simp), ⟨hcs.take _, hcs.drop _, fun x hx => by simp at hx, by show (cs.take _).length ≤ 128; rw [List.length_take]; omega, Nat.zero_le _, hf⟩, by show 0 + l.length ≤ 1000; omega, hdl⟩
    have hD := does_any2 hA hRI
    obtain ⟨⟨o, s⟩, e⟩ : ∃ q, denN l l.length (l.length - 1) ⟨cs.take (cs.length - nl), cs.drop (cs.length - nl), [], 0, f, w1.heap.size⟩ = q := ⟨_, rfl⟩
    rw [e] at hD
    have hm : meanF l nl cs f = (match (o, s) with
      | (.ok _, s) => ⟨s.st, 0, true, s.steps⟩
      | (.bad e o, s) => if o then ⟨[], 0, false, s.steps⟩ else if e = 0 then ⟨s.st, 0, true, s.steps⟩ else ⟨[], e, true, s.steps⟩) := by
      rw [mean_at l nl cs f w1.heap.size hu, e]
      rfl
    have hkeep : (o, s).2.ok := by
      have := (keep_node hok l.length (l.length - 1)) _ hRI.ok hRI.deep
      rw [e] at this
      exact this.1
    have HM := Lib.hid hm
    obtain ⟨f', cap', rfl, _⟩ := id hA
    have T6 := T5.trans t6 (by simp)
    have B6 := B5.touch t6 (by simp)
    have E := Lib.hid e
    have HX := Lib.hid (And.intro T6 (And.intro B6 (And.intro hFw hkeep)))
    clear hm e hRI hA hcells hfine hC hcs hR hN T6 B6 hkeep hFw T5 B5 hRun hF5 hrow0 hrl hdl B4 hT4 B3 T3 hS3 hS4 hrow t4 t6 HB H8 hlt3 hF3 hmx hwl hgt
    have hsb : s.sb = w1.heap.size := by
      have := node_sb l l.length (l.length - 1) ⟨cs.take (cs.length - nl), cs.drop (cs.length - nl), [], 0, f, w1.heap.size⟩
      rw [E.out] at this
      exact this
    cases o with
    | ok a =>
      have HM2 := Lib.hid (show meanF l nl cs f = ⟨s.st, 0, true, s.steps⟩ from HM.out)
      clear HM
      go_wp2_with fail
      refine hD.mono ?_
      rintro _ w7 ⟨rfl, hl⟩
      obtain ⟨T6, B6, hFw, hkeep⟩ := HX.out
      obtain ⟨FS, hRb, hSt, t7⟩ := hl.parts
      rw [hsb] at hSt
      have T7 := T6.trans t7 (fun g hg => .inr (by have := hFw g hg; omega))
      have B7 := B6.touch t7 (fun hg => by have := hFw _ hg; omega)
      have r3 := hRb.cell 3
      have hS7 : s.st.length ≤ 128 := hkeep.small
      have TZ := T7.alloc (.cells #[.int .i64 0, .bool false] 53)
      have BZ := B7.alloc (.cells #[.int .i64 0, .bool false] 53)
      have SZ := hSt.alloc (.cells #[.int .i64 0, .bool false] 53)
      have RZ := hRb.alloc (.cells #[.int .i64 0, .bool false] 53)
      have ZZ := Blk.new w7 53 #[.int .i64 0, .bool false]
      have HZ := Lib.hid (And.intro TZ (And.intro BZ (And.intro SZ (And.intro RZ ZZ))))
      clear TZ BZ SZ RZ ZZ T7 B7 hRb hSt hl t7 T6 B6 hFw hkeep HX hD hsb E
      go_upto_region 10 with fail
      obtain ⟨TZ, BZ, SZ, RZ, ZZ⟩ := HZ.out
      generalize w7.alloc (.cells #[.int .i64 0, .bool false] 53) = WZ at *
      have c0 := BZ.cell 0
      have c1 := BZ.cell 1
      have c2 := BZ.cell 2
      have c3 := BZ.cell 3
      have f0 := BZ.frozen 0
      have f1 := BZ.frozen 1
      have f2 := BZ.frozen 2
      have f3 := BZ.frozen 3
      have r3 := RZ.cell 3
      have z0 := ZZ.cell 0
      have z1 := ZZ.cell 1
      have HZ2 := Lib.hid (And.intro TZ (And.intro BZ (And.intro SZ RZ)))
      clear TZ BZ SZ RZ ZZ HZ
      go_wp2_with fail
      clear c0 c1 c2 c3 f0 f1 f2 f3
      go_region_with (go_at_call 20; refine (All_any _ _ _ _ (HZ2.out.2.2.1.touch (Touch.refl [] WZ).drew (by simp)) (by omega)).mono ?_; rintro _ wa ⟨av, rfl, hra, ta⟩; obtain ⟨aa, ac, rfl⟩ := own_slice hra; have hva := hra.lt; have BA := HZ2.out.2.1.drew.touch ta (by simp); have TA := HZ2.out.1.drew.trans ta (by simp); have RA := own_low hra; have hBl := HZ2.out.2.1.lt; have r3 := (HZ2.out.2.2.2.drew.touch ta (by simp)).cell 3; have c0 := BA.cell 0; have c1 := BA.cell 1; have c2 := BA.cell 2; have c3 := BA.cell 3; have f0 := BA.frozen 0; have f1 := BA.frozen 1; have f2 := BA.frozen 2; have f3 := BA.frozen 3; have HD := Lib.hid (And.intro BA (And.intro TA (And.intro RA (And.intro hva hBl)))); clear BA TA RA hra hva ta)
      all_goals go_wp2
      all_goals rw [HM2.out]
      all_goals refine mean_ret (m := ⟨s.st, 0, true, s.steps⟩) (by rfl) HD.out.1 HD.out.2.1 HD.out.2.2.1 (fun hg => ?_)
      all_goals
        have h1 := (HD.out.2.2.2.1 _ (rowOf_mem.1 hg)).1
        have h2 := HD.out.2.2.2.2
        have h3 : WZ.drew.heap.size = WZ.heap.size := rfl
        omega
    | bad x out =>
      go_wp2_with fail
      refine hD.mono ?_
      rintro _ w7 ⟨rfl, hl⟩
      obtain ⟨T6, B6, hFw, hkeep⟩ := HX.out
      obtain ⟨FS, hRb, hSt, t7⟩ := hl.blk
      rw [hsb] at hSt
      cases out with
      | true =>
        have HM2 := Lib.hid (show meanF l nl cs f = ⟨[], 0, false, s.steps⟩ from HM.out)
        clear HM
        have T7 := T6.trans t7 (fun g hg => .inr (by have := hFw g hg; omega))
        have B7 := B6.touch t7 (fun hg => by have := hFw _ hg; omega)
        have r3 := hRb.cell 3
        have hS7 : s.st.length ≤ 128 := hkeep.small
        have TZ := T7.alloc (.cells #[.int .i64 x, .bool true] 53)
        have BZ := B7.alloc (.cells #[.int .i64 x, .bool true] 53)
        have SZ := hSt.alloc (.cells #[.int .i64 x, .bool true] 53)
        have RZ := hRb.alloc (.cells #[.int .i64 x, .bool true] 53)
        have ZZ := Blk.new w7 53 #[.int .i64 x, .bool true]
        have HZ := Lib.hid (And.intro TZ (And.intro BZ (And.intro SZ (And.intro RZ ZZ))))
        clear TZ BZ SZ RZ ZZ T7 B7 hRb hSt hl t7 T6 B6 hFw hkeep HX hD hsb E
        go_upto_region 10 with fail
        obtain ⟨TZ, BZ, SZ, RZ, ZZ⟩ := HZ.out
        generalize w7.alloc (.cells #[.int .i64 x, .bool true] 53) = WZ at *
        have c0 := BZ.cell 0
        have c1 := BZ.cell 1
        have c2 := BZ.cell 2
        have c3 := BZ.cell 3
        have f0 := BZ.frozen 0
        have f1 := BZ.frozen 1
        have f2 := BZ.frozen 2
        have f3 := BZ.frozen 3
        have r3 := RZ.cell 3
        have z0 := ZZ.cell 0
        have z1 := ZZ.cell 1
        have HZ2 := Lib.hid (And.intro TZ (And.intro BZ (And.intro SZ RZ)))
        clear TZ BZ SZ RZ ZZ HZ
        go_wp2
        rw [HM2.out]
        exact mean_ret (m := ⟨[], 0, false, s.steps⟩) (by rfl) HZ2.out.2.1 HZ2.out.1 (World.ownsRow_nil _ _ _ _) (by simp [rowOf])
      | false =>
        by_cases hx : x = 0
        · subst hx
          have HM2 := Lib.hid (show meanF l nl cs f = ⟨s.st, 0, true, s.steps⟩ from HM.out)
          clear HM
          have T7 := T6.trans t7 (fun g hg => .inr (by have := hFw g hg; omega))
          have B7 := B6.touch t7 (fun hg => by have := hFw _ hg; omega)
          have r3 := hRb.cell 3
          have hS7 : s.st.length ≤ 128 := hkeep.small
          have TZ := T7.alloc (.cells #[.int .i64 0, .bool false] 53)
          have BZ := B7.alloc (.cells #[.int .i64 0, .bool false] 53)
          have SZ := hSt.alloc (.cells #[.int .i64 0, .bool false] 53)
          have RZ := hRb.alloc (.cells #[.int .i64 0, .bool false] 53)
          have ZZ := Blk.new w7 53 #[.int .i64 0, .bool false]
          have HZ := Lib.hid (And.intro TZ (And.intro BZ (And.intro SZ (And.intro RZ ZZ))))
          clear TZ BZ SZ RZ ZZ T7 B7 hRb hSt hl t7 T6 B6 hFw hkeep HX hD hsb E
          go_upto_region 10 with fail
          obtain ⟨TZ, BZ, SZ, RZ, ZZ⟩ := HZ.out
          generalize w7.alloc (.cells #[.int .i64 0, .bool false] 53) = WZ at *
          have c0 := BZ.cell 0
          have c1 := BZ.cell 1
          have c2 := BZ.cell 2
          have c3 := BZ.cell 3
          have f0 := BZ.frozen 0
          have f1 := BZ.frozen 1
          have f2 := BZ.frozen 2
          have f3 := BZ.frozen 3
          have r3 := RZ.cell 3
          have z0 := ZZ.cell 0
          have z1 := ZZ.cell 1
          have HZ2 := Lib.hid (And.intro TZ (And.intro BZ (And.intro SZ RZ)))
          clear TZ BZ SZ RZ ZZ HZ
          go_wp2_with fail
          clear c0 c1 c2 c3 f0 f1 f2 f3
          go_region_with (go_at_call 20; refine (All_any _ _ _ _ (HZ2.out.2.2.1.touch (Touch.refl [] WZ).drew (by simp)) (by omega)).mono ?_; rintro _ wa ⟨av, rfl, hra, ta⟩; obtain ⟨aa, ac, rfl⟩ := own_slice hra; have hva := hra.lt; have BA := HZ2.out.2.1.drew.touch ta (by simp); have TA := HZ2.out.1.drew.trans ta (by simp); have RA := own_low hra; have hBl := HZ2.out.2.1.lt; have r3 := (HZ2.out.2.2.2.drew.touch ta (by simp)).cell 3; have c0 := BA.cell 0; have c1 := BA.cell 1; have c2 := BA.cell 2; have c3 := BA.cell 3; have f0 := BA.frozen 0; have f1 := BA.frozen 1; have f2 := BA.frozen 2; have f3 := BA.frozen 3; have HD := Lib.hid (And.intro BA (And.intro TA (And.intro RA (And.intro hva hBl)))); clear BA TA RA hra hva ta)
          all_goals go_wp2
          all_goals rw [HM2.out]
          all_goals refine mean_ret (m := ⟨s.st, 0, true, s.steps⟩) (by rfl) HD.out.1 HD.out.2.1 HD.out.2.2.1 (fun hg => ?_)
          all_goals
            have h1 := (HD.out.2.2.2.1 _ (rowOf_mem.1 hg)).1
            have h2 := HD.out.2.2.2.2
            have h3 : WZ.drew.heap.size = WZ.heap.size := rfl
            omega
        · have HM2 := Lib.hid (show meanF l nl cs f = ⟨[], x, true, s.steps⟩ from by rw [HM.out]; simp only [Bool.false_eq_true, if_false, if_neg hx])
          clear HM
          have T7 := T6.trans t7 (fun g hg => .inr (by have := hFw g hg; omega))
          have B7 := B6.touch t7 (fun hg => by have := hFw _ hg; omega)
          have r3 := hRb.cell 3
          have hS7 : s.st.length ≤ 128 := hkeep.small
          have TZ := T7.alloc (.cells #[.int .i64 x, .bool false] 53)
          have BZ := B7.alloc (.cells #[.int .i64 x, .bool false] 53)
          have SZ := hSt.alloc (.cells #[.int .i64 x, .bool false] 53)
          have RZ := hRb.alloc (.cells #[.int .i64 x, .bool false] 53)
          have ZZ := Blk.new w7 53 #[.int .i64 x, .bool false]
          have HZ := Lib.hid (And.intro TZ (And.intro BZ (And.intro SZ (And.intro RZ ZZ))))
          clear TZ BZ SZ RZ ZZ T7 B7 hRb hSt hl t7 T6 B6 hFw hkeep HX hD hsb E
          go_upto_region 10 with fail
          obtain ⟨TZ, BZ, SZ, RZ, ZZ⟩ := HZ.out
          generalize w7.alloc (.cells #[.int .i64 x, .bool false] 53) = WZ at *
          have c0 := BZ.cell 0
          have c1 := BZ.cell 1
          have c2 := BZ.cell 2
          have c3 := BZ.cell 3
          have f0 := BZ.frozen 0
          have f1 := BZ.frozen 1
          have f2 := BZ.frozen 2
          have f3 := BZ.frozen 3
          have r3 := RZ.cell 3
          have z0 := ZZ.cell 0
          have z1 := ZZ.cell 1
          have HZ2 := Lib.hid (And.intro TZ (And.intro BZ (And.intro SZ RZ)))
          clear TZ BZ SZ RZ ZZ HZ
          have hxn : (x != 0) = true := by simpa using hx
          go_wp2_with fail
          go_still_tail 7, (by kernel_rfl)
          change wpList _ _ _ _ _ WZ.drew
          have TD := HZ2.out.1.drew
          have BD := HZ2.out.2.1.drew
          clear c0 c1 c2 c3 f0 f1 f2 f3 r3 z0 z1 HZ2
          generalize WZ.drew = WD at *
          have c0 := BD.cell 0
          have c1 := BD.cell 1
          have c2 := BD.cell 2
          have c3 := BD.cell 3
          have f0 := BD.frozen 0
          have f1 := BD.frozen 1
          have f2 := BD.frozen 2
          have f3 := BD.frozen 3
          have HD := Lib.hid (And.intro BD TD)
          clear BD TD
          go_wp2
          rw [HM2.out]
          exact mean_ret (m := ⟨[], x, true, s.steps⟩) (by rfl) HD.out.1 HD.out.2 (World.ownsRow_nil _ _ _ _) (by simp [rowOf])
end Go.Proofs.YtnhhflnanogpjaaGreatDoor
