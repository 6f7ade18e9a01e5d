/- RecogNumbers: the walk. -/
import Derived.Test.YtgdmiodcfdcihaaGreatDoorSix
import Derived.Test.YtgdmiodcfdcihaaGreatDoorRFind
import Derived.Test.YtgdmiodcfdcihaaGreatDoorNumLaw2
namespace Go.Proofs.YtgdmiodcfdcihaaGreatDoor
open Go.RowKit

theorem Strs.quiet' {w w' : World} {v : Value} {ss : List ByteArray} (h : Strs w v ss) (t : Touch [] w w') : Strs w' v ss := by
  refine ⟨?_, h.size⟩
  rcases h.form with h | h | ⟨b, off, cap, e, hb, h1, h2, hc⟩
  · exact .inl h
  · exact .inr (.inl h)
  · exact .inr (.inr ⟨b, off, cap, e, Nat.lt_of_lt_of_le hb t.size, h1, h2, fun i hi => (t.cell (p := ⟨b, off + i, none⟩) hb (by simp)).trans (hc i hi)⟩)
theorem names30 (ss : List ByteArray) (j : Nat) : ((namesF ss).getD j Small.nil).1.size ≤ 30 := by
  unfold namesF
  rw [List.getD_eq_getElem?_getD, List.getElem?_map]
  cases (ss.take 12)[j]? with
  | none => simp [Small.nil]
  | some x => simp [cut30, ByteArray.size_extract]; omega
theorem signed_size (B N : Nat) (hB : 2 ≤ B) (hN : N < 340282366920938463463374607431768211456) : (⟨(signedL B N).toArray⟩ : ByteArray).size ≤ 130 := by
  rw [size_of]
  unfold signedL
  split
  · rw [List.length_cons]
    have := baseL_len B hB 127 ((340282366920938463463374607431768211456 - N) % 340282366920938463463374607431768211456) (Nat.mod_lt _ (by omega))
    omega
  · have := baseL_len B hB 127 N hN
    omega
theorem Blk.five_set {w : World} {b : Nat} {T : TypeId} {p q r s t : Value} (h : Blk w b T #[p, q, r, s, t]) (x y z u v : Value) :
    Blk (((((w.setCell ⟨b, 0, none⟩ x).setCell ⟨b, 1, none⟩ y).setCell ⟨b, 2, none⟩ z).setCell ⟨b, 3, none⟩ u).setCell ⟨b, 4, none⟩ v) b T #[x, y, z, u, v] := ((((h.set_ 0 x).set_ 1 y).set_ 2 z).set_ 3 u).set_ 4 v
theorem Blk.five_far {w : World} {b c : Nat} {T : TypeId} {cs : Array Value} (h : Blk w c T cs) (hne : c ≠ b) (x y z u v : Value) :
    Blk (((((w.setCell ⟨b, 0, none⟩ x).setCell ⟨b, 1, none⟩ y).setCell ⟨b, 2, none⟩ z).setCell ⟨b, 3, none⟩ u).setCell ⟨b, 4, none⟩ v) c T cs :=
  ((((h.far (p := ⟨b, 0, none⟩) hne x).far (p := ⟨b, 1, none⟩) hne y).far (p := ⟨b, 2, none⟩) hne z).far (p := ⟨b, 3, none⟩) hne u).far (p := ⟨b, 4, none⟩) hne v
theorem nowL_names (H : List Head) (h : ∀ x ∈ H, x.name.size ≤ 1000) : ∀ x ∈ nowL H, x.name.size ≤ 1000 := by
  rcases List.eq_nil_or_concat H with rfl | ⟨H0, y, rfl⟩
  · exact h
  · rw [List.concat_eq_append] at h ⊢
    rw [nowL_snoc]
    intro x hx
    rw [List.mem_append, List.mem_singleton] at hx
    rcases hx with hx | rfl
    · exact h x (by simp [hx])
    · exact h y (by simp)
theorem fillL_names (zs : List Small) (hz : ∀ j, (zs.getD j Small.nil).1.size ≤ 30) : ∀ k, ∀ x ∈ fillL zs k, x.name.size ≤ 1000
  | 0, x, hx => by simp [fillL] at hx
  | k + 1, x, hx => by
    have hadd : ∀ x ∈ addL (fillL zs k) (zs.getD k Small.nil).1 ((k : Int) + 1), x.name.size ≤ 1000 := by
      intro y hy
      unfold addL at hy
      split at hy
      · exact fillL_names zs hz k y hy
      · rw [List.mem_append, List.mem_singleton] at hy
        rcases hy with hy | rfl
        · exact fillL_names zs hz k y hy
        · exact Nat.le_trans (hz k) (by omega)
    rw [fillL] at hx
    split at hx
    · exact nowL_names _ hadd x hx
    · exact hadd x hx

/-- what is told of a pair's text, of a cell's: its word, if there is one, or the number; and where -/
def toldP (V : Option Head) (lo hi : Int) : KnownV × Nat := match V with
  | some e => (⟨1, e.xt, e.now, 0, 0⟩, 1)
  | none => (⟨3, 0, false, lo, hi⟩, 3)
def toldC (V : Option Head) (lo : Int) : KnownV × Nat := match V with
  | some e => (⟨1, e.xt, e.now, 0, 0⟩, 1)
  | none => (⟨2, 0, false, lo, 0⟩, 2)
theorem all_pair (s : ByteArray) (H : List Head) (b : Int) (R : KnownV) (lo hi : Int) (h : numF s b = ((lo, hi), 2)) :
    allF (oneF s H b [] R) firstL = toldP (lookH H (foldB s) H.length) lo hi := by
  have e6 : oneF s H b [] R (-6) = KnownV.none := by unfold oneF; rw [if_pos rfl]; rfl
  have e1 : oneF s H b [] R (-1) = toldK ⟨1, ((lookH H (foldB s) H.length).getD Head.none).xt, ((lookH H (foldB s) H.length).getD Head.none).now, 0, 0⟩ (lookH H (foldB s) H.length).isSome := by
    unfold oneF; rw [if_neg (by decide), if_pos rfl]
  have e2 : oneF s H b [] R (-2) = KnownV.none := by unfold oneF; rw [if_neg (by decide), if_neg (by decide), if_pos rfl, h]; rfl
  have e3 : oneF s H b [] R (-3) = ⟨3, 0, false, lo, hi⟩ := by unfold oneF; rw [if_neg (by decide), if_neg (by decide), if_neg (by decide), if_pos rfl, h]; rfl
  unfold firstL
  rw [allF, if_neg (by decide), e6, if_pos (show KnownV.none.kind = 0 from rfl), allF, if_neg (by decide)]
  cases hl : lookH H (foldB s) H.length with
  | some e =>
    rw [hl] at e1
    have e1' : oneF s H b [] R (-1) = ⟨1, e.xt, e.now, 0, 0⟩ := e1
    rw [e1', if_neg (by show ¬ (1 : Int) = 0; decide)]
    rfl
  | none =>
    rw [hl] at e1
    have e1' : oneF s H b [] R (-1) = KnownV.none := e1
    rw [e1', if_pos (show KnownV.none.kind = 0 from rfl), allF, if_neg (by decide), e2, if_pos (show KnownV.none.kind = 0 from rfl), allF, if_neg (by decide), e3, if_neg (by show ¬ (3 : Int) = 0; decide)]
    rfl
theorem all_cell (s : ByteArray) (H : List Head) (b : Int) (R : KnownV) (lo : Int) (h : numF s b = ((lo, 0), 1)) :
    allF (oneF s H b [] R) firstL = toldC (lookH H (foldB s) H.length) lo := by
  have e6 : oneF s H b [] R (-6) = KnownV.none := by unfold oneF; rw [if_pos rfl]; rfl
  have e1 : oneF s H b [] R (-1) = toldK ⟨1, ((lookH H (foldB s) H.length).getD Head.none).xt, ((lookH H (foldB s) H.length).getD Head.none).now, 0, 0⟩ (lookH H (foldB s) H.length).isSome := by
    unfold oneF; rw [if_neg (by decide), if_pos rfl]
  have e2 : oneF s H b [] R (-2) = ⟨2, 0, false, lo, 0⟩ := by unfold oneF; rw [if_neg (by decide), if_neg (by decide), if_pos rfl, h]; rfl
  unfold firstL
  rw [allF, if_neg (by decide), e6, if_pos (show KnownV.none.kind = 0 from rfl), allF, if_neg (by decide)]
  cases hl : lookH H (foldB s) H.length with
  | some e =>
    rw [hl] at e1
    have e1' : oneF s H b [] R (-1) = ⟨1, e.xt, e.now, 0, 0⟩ := e1
    rw [e1', if_neg (by show ¬ (1 : Int) = 0; decide)]
    rfl
  | none =>
    rw [hl] at e1
    have e1' : oneF s H b [] R (-1) = KnownV.none := e1
    rw [e1', if_pos (show KnownV.none.kind = 0 from rfl), allF, if_neg (by decide), e2, if_neg (by show ¬ (2 : Int) = 0; decide)]
    rfl

set_option maxRecDepth 100000 in
set_option maxHeartbeats 6400000 in
theorem RecogNumbers_walk (lo hi : Int) (l0 : -9223372036854775808 ≤ lo) (l1 : lo ≤ 9223372036854775807) (h0 : -9223372036854775808 ≤ hi) (h1 : hi ≤ 9223372036854775807) (t : Int) (t0 : 0 ≤ t) (t1 : t ≤ 255) (W : World) (v : Value) (ss : List ByteArray) (hS : Strs W v ss) (hT : Tabs W) :
    Calls Tryz.prog 4 #[.agg #[.int .i64 lo, .int .i64 hi], .int .u8 t, v] W fun e w' => e = .returned (.bool true) ∧ Touch [] W w' := by
  have HT := Lib.hid hT
  clear hT
  have hfl := fun w' (u : Touch [] W w') => filled_any w' v ss (fun w2 t => hS.quiet' (u.trans t (by simp)))
  have hnam := fillL_names (namesF ss) (names30 ss) (namesF ss).length
  have hlen := fillL_len (namesF ss) (namesF ss).length
  have h12 : (namesF ss).length ≤ 12 := by unfold namesF; simp; omega
  obtain ⟨H, hH⟩ : ∃ H, fillL (namesF ss) (namesF ss).length = H := ⟨_, rfl⟩
  rw [hH] at hlen hnam
  simp only [hH] at hfl
  have hH12 : H.length ≤ 12 := by omega
  clear hH hS hlen h12
  have hnm : ∀ k, k < H.length → (H.getD k Head.none).name.size ≤ 1000 := fun k hk => hnam _ (by
    rw [List.getD_eq_getElem?_getD, List.getElem?_eq_getElem hk]
    exact List.getElem_mem hk)
  clear hnam
  -- the base
  obtain ⟨q, hq⟩ : ∃ q, t.tmod 35 = q := ⟨_, rfl⟩
  have q0 : 0 ≤ q := by rw [← hq]; exact Int.tmod_nonneg _ t0
  have q1 : q < 35 := by rw [← hq]; exact Int.tmod_lt_of_pos _ (by omega)
  obtain ⟨B, hB⟩ : ∃ B : Nat, q + 2 = (B : Int) := ⟨(q + 2).toNat, by omega⟩
  have hB2 : 2 ≤ B := by omega
  have hB36 : B ≤ 36 := by omega
  -- the two texts
  obtain ⟨N, hN, hNl, hNh⟩ : ∃ N, N < 340282366920938463463374607431768211456 ∧ pl N = lo ∧ ph N = hi := by
    have b1 := bitsOf_lt lo
    have b2 := bitsOf_lt hi
    refine ⟨bitsOf lo + 18446744073709551616 * bitsOf hi, by omega, ?_, ?_⟩
    · unfold pl
      rw [show (bitsOf lo + 18446744073709551616 * bitsOf hi) % 18446744073709551616 = bitsOf lo by omega]
      exact cellOf_bitsOf lo l0 l1
    · unfold ph
      rw [show (bitsOf lo + 18446744073709551616 * bitsOf hi) / 18446744073709551616 % 18446744073709551616 = bitsOf hi by omega]
      exact cellOf_bitsOf hi h0 h1
  have hs1 := fun W => signed_any N B hN hB2 hB36 W
  have ho := fun W => rof_any lo l0 l1 W
  have hs2 := fun W => signed_any (ofN lo) B (ofN_lt lo) hB2 hB36 W
  unfold two at hs1 ho hs2
  rw [hNl, hNh] at hs1
  have hz1 := signed_size B N hB2 hN
  have hz2 := signed_size B (ofN lo) hB2 (ofN_lt lo)
  obtain ⟨S1, hS1⟩ : ∃ S : ByteArray, ⟨(signedL B N).toArray⟩ = S := ⟨_, rfl⟩
  obtain ⟨S2, hS2⟩ : ∃ S : ByteArray, ⟨(signedL B (ofN lo)).toArray⟩ = S := ⟨_, rfl⟩
  rw [hS1] at hs1 hz1
  rw [hS2] at hs2 hz2
  have hsz1 : (S1 ++ ⟨#[46]⟩).size ≤ 200 := by
    rw [ByteArray.size_append]
    have : (⟨#[46]⟩ : ByteArray).size = 1 := rfl
    omega
  have hn1 : numF (S1 ++ ⟨#[46]⟩) (B : Int) = ((lo, hi), 2) := by
    have := numF_signed B hB2 hB36 N hN true (S1 ++ ⟨#[46]⟩) (by rw [← hS1]; simp [ByteArray.data_append])
    rw [this]
    unfold pP
    rw [hNl, hNh]
    rfl
  have hn2 : numF S2 (B : Int) = ((lo, 0), 1) := by
    have := numF_signed B hB2 hB36 (ofN lo) (ofN_lt lo) false S2 (by rw [← hS2]; simp)
    rw [this, (ofN_cells lo l0 l1).1]
    rfl
  obtain ⟨fv1, fb1, hF1⟩ := Number_all _ hsz1
  obtain ⟨fv2, fb2, hF2⟩ := Number_all S2 (by omega)
  have hall1 := all_pair (S1 ++ ⟨#[46]⟩) H (B : Int) (toldK ⟨2, 0, false, fv1, 0⟩ fb1) lo hi hn1
  have hall2 := all_cell S2 H (B : Int) (toldK ⟨2, 0, false, fv2, 0⟩ fb2) lo hn2
  clear hn1 hn2 hS1 hS2 hNl hNh hN l0 l1 h0 h1
  have HA1 := Lib.hid hall1
  have HA2 := Lib.hid hall2
  have HF1 := Lib.hid hF1
  have HF2 := Lib.hid hF2
  clear hall1 hall2 hF1 hF2
  go_enter Tryz.func4, Tryz.ntmps4
  go_wp2_with fail
  refine (shown_any _).mono ?_
  rintro _ w1 ⟨rfl, u1⟩
  have bP := (Blk.new W 33 #[.int .i64 lo, .int .i64 hi]).touch u1 (by simp)
  have tw := ((Touch.refl [] W).alloc (.cells #[.int .i64 lo, .int .i64 hi] 33)).trans u1 (by simp)
  clear u1
  go_wp2_with fail
  refine (hfl w1 tw).mono ?_
  rintro _ w2 ⟨D, R, F, G, rfl, hd, hr, _, _, u2⟩
  have bP := bP.touch u2 (by simp)
  have tw := tw.trans u2 (by simp)
  clear u2 hfl
  have gv : ∀ w' (s : ByteArray), Touch [] w2 w' → s.size ≤ 200 → GivenR w' s D F H (B : Int) none 0 [] := fun w' s h hz =>
    ⟨⟨hz, hd.quiet h, by omega, by omega, ⟨none, 0, rfl, .inl rfl⟩, by simp⟩, HT.out.touch (tw.trans h (by simp))⟩
  have fi := fun w' (s : ByteArray) (h : Touch [] w2 w') (hz : s.size ≤ 200) => RFind_any w' R G H (hr.touch h (by simp)) (by omega) hnm s (by omega)
  have hPlt := bP.lt
  have HG := Lib.hid gv
  have HFi := Lib.hid fi
  clear gv fi hd hr hnm hH12
  have p0 := bP.cell 0
  have p1 := bP.cell 1
  go_wp2_with fail
  refine (hs1 _).mono ?_
  rintro _ w3 ⟨rfl, u3⟩
  have bP := bP.touch u3 (by simp)
  clear p0 p1 hs1
  have p0 := bP.cell 0
  have p1 := bP.cell 1
  go_wp2_with fail
  refine (ho _).mono ?_
  rintro _ w4 ⟨rfl, u4⟩
  go_wp2_with fail
  refine (hs2 _).mono ?_
  rintro _ w5 ⟨rfl, u5⟩
  have ux := (u3.trans u4 (by simp)).trans u5 (by simp)
  have bP := (bP.touch u4 (by simp)).touch u5 (by simp)
  clear p0 p1 u3 u4 u5 ho hs2
  have p0 := bP.cell 0
  have p1 := bP.cell 1
  go_upto_region 7 with (fail)
  have bW := Blk.new w5 27 #[.int .i64 3, .int .i64 0, .bool false, .int .i64 lo, .int .i64 hi]
  have bP := bP.alloc (.cells #[.int .i64 3, .int .i64 0, .bool false, .int .i64 lo, .int .i64 hi] 27)
  have hnW : w2.heap.size ≤ w5.heap.size := ux.size
  have ux := ux.alloc (.cells #[.int .i64 3, .int .i64 0, .bool false, .int .i64 lo, .int .i64 hi] 27)
  generalize w5.alloc (.cells #[.int .i64 3, .int .i64 0, .bool false, .int .i64 lo, .int .i64 hi] 27) = wW at *
  generalize w5.heap.size = nW at *
  clear p0 p1
  go_wp2_with fail
  refine (First_any _).mono ?_
  rintro _ w6 ⟨gl, rfl, hn6, u6⟩
  have hall := All_six w6 firstL (fun _ h => h) (by decide) 6 (some ⟨gl, 0, none⟩) hn6 _ D F H (B : Int) none 0 [] fv1 fb1 HF1.out (HG.out w6 _ (ux.trans u6 (by simp)) hsz1)
  rw [HA1.out] at hall
  obtain ⟨V1, hV1⟩ : ∃ V, lookH H (foldB (S1 ++ ⟨#[46]⟩)) H.length = V := ⟨_, rfl⟩
  rw [hV1] at hall
  have HV1 := Lib.hid hV1
  obtain ⟨⟨⟨k0, k1, k2, k3, k4⟩, at1⟩, hk⟩ : ∃ r : KnownV × Nat, toldP V1 lo hi = r := ⟨_, rfl⟩
  rw [hk] at hall
  have HK := Lib.hid hk
  clear hk hV1
  go_wp2_with fail
  refine hall.mono ?_
  rintro _ w7 ⟨rfl, u7⟩
  have u7 := u6.trans u7 (by simp)
  have ux := ux.trans u7 (by simp)
  have bP := bP.touch u7 (by simp)
  have bW := bW.touch u7 (by simp)
  clear hall hn6 u6 u7
  unfold KnownV.v
  go_upto_region 8 with (fail)
  have hltP := bP.lt
  have hltW := bW.lt
  have bK := Blk.new w7 27 #[.int .i64 k0, .int .i64 k1, .bool k2, .int .i64 k3, .int .i64 k4]
  have bP := bP.alloc (.cells #[.int .i64 k0, .int .i64 k1, .bool k2, .int .i64 k3, .int .i64 k4] 27)
  have bW := bW.alloc (.cells #[.int .i64 k0, .int .i64 k1, .bool k2, .int .i64 k3, .int .i64 k4] 27)
  have ux := ux.alloc (.cells #[.int .i64 k0, .int .i64 k1, .bool k2, .int .i64 k3, .int .i64 k4] 27)
  have hWK : nW ≠ w7.heap.size := by omega
  generalize w7.alloc (.cells #[.int .i64 k0, .int .i64 k1, .bool k2, .int .i64 k3, .int .i64 k4] 27) = wK at *
  generalize w7.heap.size = nK at *
  have hfind := HFi.out wK _ ux hsz1
  rw [HV1.out] at hfind
  go_wp2_with fail
  refine hfind.mono ?_
  rintro _ w8 ⟨rfl, u8⟩
  have ux := ux.trans u8 (by simp)
  have bP := bP.touch u8 (by simp)
  have bW := bW.touch u8 (by simp)
  have bK := bK.touch u8 (by simp)
  clear hfind u8
  obtain ⟨⟨en, ex, ew⟩, he⟩ : ∃ e : Head, V1.getD Head.none = e := ⟨_, rfl⟩
  obtain ⟨ok1, hok⟩ : ∃ b, V1.isSome = b := ⟨_, rfl⟩
  unfold foundV
  rw [he, hok]
  have HE1 := Lib.hid (And.intro he hok)
  clear he hok
  unfold Head.v
  go_upto_if 61 with (fail)
  have bE := Blk.new w8 45 #[.string en, .int .i64 ex, .bool ew]
  have bP := bP.alloc (.cells #[.string en, .int .i64 ex, .bool ew] 45)
  have bW := bW.alloc (.cells #[.string en, .int .i64 ex, .bool ew] 45)
  have bK := bK.alloc (.cells #[.string en, .int .i64 ex, .bool ew] 45)
  have ux := ux.alloc (.cells #[.string en, .int .i64 ex, .bool ew] 45)
  have hltW := bW.lt
  generalize w8.alloc (.cells #[.string en, .int .i64 ex, .bool ew] 45) = wE at *
  go_cut [15] from 23 (fun s15 wx => s15 = .int .i64 3 ∧ Blk wx W.heap.size 33 #[.int .i64 lo, .int .i64 hi] ∧ Blk wx nW 27 #[.int .i64 k0, .int .i64 k1, .bool k2, .int .i64 k3, .int .i64 k4] ∧ Blk wx nK 27 #[.int .i64 k0, .int .i64 k1, .bool k2, .int .i64 k3, .int .i64 k4] ∧ Touch [] w2 wx)
  case first =>
    have c0 := bW.cell 0
    have c1 := bW.cell 1
    have c2 := bW.cell 2
    have c3 := bW.cell 3
    have c4 := bW.cell 4
    have f0 := bW.frozen 0
    have f1 := bW.frozen 1
    have f2 := bW.frozen 2
    have f3 := bW.frozen 3
    have f4 := bW.frozen 4
    have g1 := bE.cell 1
    have g2 := bE.cell 2
    have hk := HK.out
    obtain ⟨he, hok⟩ := HE1.out
    cases V1 with
    | none =>
      simp only [toldP, Prod.mk.injEq, KnownV.mk.injEq] at hk
      obtain ⟨⟨rfl, rfl, rfl, rfl, rfl⟩, rfl⟩ := hk
      simp only [Option.isSome_none] at hok
      subst hok
      clear he
      go_wp2_with fail
      go_meet
      exact ⟨rfl, bP, bW, bK, ux⟩
    | some e =>
      simp only [toldP, Prod.mk.injEq, KnownV.mk.injEq] at hk
      obtain ⟨⟨rfl, rfl, rfl, rfl, rfl⟩, rfl⟩ := hk
      simp only [Option.isSome_some] at hok
      subst hok
      have he2 : e = ⟨en, ex, ew⟩ := he
      subst he2
      clear he
      go_wp2_with fail
      go_meet
      exact ⟨rfl, bP.five_far (by omega) _ _ _ _ _, bW.five_set _ _ _ _ _, bK.five_far (fun e => hWK e.symm) _ _ _ _ _, five_touch ux (.inr hnW) _ _ _ _ _⟩
  case rest =>
    obtain ⟨rfl, bP, bW, bK, ux⟩ := hcut
    clear bE HE1 HV1 HK HA1 HF1
    go_wp2_with fail
    refine (First_any _).mono ?_
    rintro _ w10 ⟨gm, rfl, hn10, u10⟩
    have hall := All_six w10 firstL (fun _ h => h) (by decide) 6 (some ⟨gm, 0, none⟩) hn10 S2 D F H (B : Int) none 0 [] fv2 fb2 HF2.out (HG.out w10 _ (ux.trans u10 (by simp)) (by omega))
    rw [HA2.out] at hall
    obtain ⟨V2, hV2⟩ : ∃ V, lookH H (foldB S2) H.length = V := ⟨_, rfl⟩
    rw [hV2] at hall
    have HV2 := Lib.hid hV2
    obtain ⟨⟨⟨x0, x1, x2, x3, x4⟩, at2⟩, hk⟩ : ∃ r : KnownV × Nat, toldC V2 lo = r := ⟨_, rfl⟩
    rw [hk] at hall
    have HK := Lib.hid hk
    clear hk hV2
    go_wp2_with fail
    refine hall.mono ?_
    rintro _ w11 ⟨rfl, u11⟩
    have u11 := u10.trans u11 (by simp)
    have ux := ux.trans u11 (by simp)
    have bP := bP.touch u11 (by simp)
    have bW := bW.touch u11 (by simp)
    have bK := bK.touch u11 (by simp)
    clear hall hn10 u10 u11
    unfold KnownV.v
    go_upto_region 13 with (fail)
    have bX := Blk.new w11 27 #[.int .i64 x0, .int .i64 x1, .bool x2, .int .i64 x3, .int .i64 x4]
    have bP := bP.alloc (.cells #[.int .i64 x0, .int .i64 x1, .bool x2, .int .i64 x3, .int .i64 x4] 27)
    have bW := bW.alloc (.cells #[.int .i64 x0, .int .i64 x1, .bool x2, .int .i64 x3, .int .i64 x4] 27)
    have bK := bK.alloc (.cells #[.int .i64 x0, .int .i64 x1, .bool x2, .int .i64 x3, .int .i64 x4] 27)
    have ux := ux.alloc (.cells #[.int .i64 x0, .int .i64 x1, .bool x2, .int .i64 x3, .int .i64 x4] 27)
    generalize w11.alloc (.cells #[.int .i64 x0, .int .i64 x1, .bool x2, .int .i64 x3, .int .i64 x4] 27) = wX at *
    generalize w11.heap.size = nX at *
    have p0 := bP.cell 0
    go_upto_region 14 with (fail)
    have hnC : w2.heap.size ≤ wX.heap.size := ux.size
    have hlX := bX.lt
    have hlW := bW.lt
    have hlK := bK.lt
    have bC := Blk.new wX 27 #[.int .i64 2, .int .i64 0, .bool false, .int .i64 lo, .int .i64 0]
    have bW := bW.alloc (.cells #[.int .i64 2, .int .i64 0, .bool false, .int .i64 lo, .int .i64 0] 27)
    have bK := bK.alloc (.cells #[.int .i64 2, .int .i64 0, .bool false, .int .i64 lo, .int .i64 0] 27)
    have bX := bX.alloc (.cells #[.int .i64 2, .int .i64 0, .bool false, .int .i64 lo, .int .i64 0] 27)
    have ux := ux.alloc (.cells #[.int .i64 2, .int .i64 0, .bool false, .int .i64 lo, .int .i64 0] 27)
    clear p0 bP
    generalize wX.alloc (.cells #[.int .i64 2, .int .i64 0, .bool false, .int .i64 lo, .int .i64 0] 27) = wC at *
    have hne : nX ≠ wX.heap.size ∧ nW ≠ wX.heap.size ∧ nK ≠ wX.heap.size := ⟨by omega, by omega, by omega⟩
    generalize wX.heap.size = nC at *
    clear hlX hlW hlK
    have hfind := HFi.out wC S2 ux (by omega)
    rw [HV2.out] at hfind
    go_wp2_with fail
    refine hfind.mono ?_
    rintro _ w12 ⟨rfl, u12⟩
    have ux := ux.trans u12 (by simp)
    have bW := bW.touch u12 (by simp)
    have bK := bK.touch u12 (by simp)
    have bX := bX.touch u12 (by simp)
    have bC := bC.touch u12 (by simp)
    clear hfind u12
    obtain ⟨⟨en, ex, ew⟩, he⟩ : ∃ e : Head, V2.getD Head.none = e := ⟨_, rfl⟩
    obtain ⟨ok2, hok⟩ : ∃ b, V2.isSome = b := ⟨_, rfl⟩
    unfold foundV
    rw [he, hok]
    have HE1 := Lib.hid (And.intro he hok)
    clear he hok
    unfold Head.v
    go_upto_if 86 with (fail)
    have bE := Blk.new w12 45 #[.string en, .int .i64 ex, .bool ew]
    have bW := bW.alloc (.cells #[.string en, .int .i64 ex, .bool ew] 45)
    have bK := bK.alloc (.cells #[.string en, .int .i64 ex, .bool ew] 45)
    have bX := bX.alloc (.cells #[.string en, .int .i64 ex, .bool ew] 45)
    have bC := bC.alloc (.cells #[.string en, .int .i64 ex, .bool ew] 45)
    have ux := ux.alloc (.cells #[.string en, .int .i64 ex, .bool ew] 45)
    generalize w12.alloc (.cells #[.string en, .int .i64 ex, .bool ew] 45) = wE2 at *
    go_cut [19] from 23 (fun s19 wx => s19 = .int .i64 2 ∧ Blk wx nW 27 #[.int .i64 k0, .int .i64 k1, .bool k2, .int .i64 k3, .int .i64 k4] ∧ Blk wx nK 27 #[.int .i64 k0, .int .i64 k1, .bool k2, .int .i64 k3, .int .i64 k4] ∧ Blk wx nX 27 #[.int .i64 x0, .int .i64 x1, .bool x2, .int .i64 x3, .int .i64 x4] ∧ Blk wx nC 27 #[.int .i64 x0, .int .i64 x1, .bool x2, .int .i64 x3, .int .i64 x4] ∧ Touch [] w2 wx)
    case first =>
      have c0 := bC.cell 0
      have c1 := bC.cell 1
      have c2 := bC.cell 2
      have c3 := bC.cell 3
      have c4 := bC.cell 4
      have f0 := bC.frozen 0
      have f1 := bC.frozen 1
      have f2 := bC.frozen 2
      have f3 := bC.frozen 3
      have f4 := bC.frozen 4
      have g1 := bE.cell 1
      have g2 := bE.cell 2
      have hk := HK.out
      obtain ⟨he, hok⟩ := HE1.out
      cases V2 with
      | none =>
        simp only [toldC, Prod.mk.injEq, KnownV.mk.injEq] at hk
        obtain ⟨⟨rfl, rfl, rfl, rfl, rfl⟩, rfl⟩ := hk
        simp only [Option.isSome_none] at hok
        subst hok
        clear he
        go_wp2_with fail
        go_meet
        exact ⟨rfl, bW, bK, bX, bC, ux⟩
      | some e =>
        simp only [toldC, Prod.mk.injEq, KnownV.mk.injEq] at hk
        obtain ⟨⟨rfl, rfl, rfl, rfl, rfl⟩, rfl⟩ := hk
        simp only [Option.isSome_some] at hok
        subst hok
        have he2 : e = ⟨en, ex, ew⟩ := he
        subst he2
        clear he
        go_wp2_with fail
        go_meet
        exact ⟨rfl, bW.five_far hne.2.1 _ _ _ _ _, bK.five_far hne.2.2 _ _ _ _ _, bX.five_far hne.1 _ _ _ _ _, bC.five_set _ _ _ _ _, five_touch ux (.inr hnC) _ _ _ _ _⟩
    case rest =>
      obtain ⟨rfl, bW, bK, bX, bC, ux⟩ := hcut
      clear bE HE1 HV2 HK HA2 HF2 HG HFi
      have w0 := bW.cell 0
      have w1' := bW.cell 1
      have w2' := bW.cell 2
      have w3' := bW.cell 3
      have w4' := bW.cell 4
      have a0 := bK.cell 0
      have a1 := bK.cell 1
      have a2 := bK.cell 2
      have a3 := bK.cell 3
      have a4 := bK.cell 4
      have b0 := bX.cell 0
      have b1 := bX.cell 1
      have b2 := bX.cell 2
      have b3 := bX.cell 3
      have b4 := bX.cell 4
      have d0 := bC.cell 0
      have d1 := bC.cell 1
      have d2 := bC.cell 2
      have d3 := bC.cell 3
      have d4 := bC.cell 4
      have heq1 := fun w => known_eql ⟨k0, k1, k2, k3, k4⟩ ⟨k0, k1, k2, k3, k4⟩ w
      have heq2 := fun w => known_eql ⟨x0, x1, x2, x3, x4⟩ ⟨x0, x1, x2, x3, x4⟩ w
      simp only [KnownV.v, beq_self_eq_true, Bool.and_self] at heq1 heq2
      have hgd := known_guard
      go_wp2_with fail
      go_ret
      exact ⟨rfl, tw.trans ux (by simp)⟩
end Go.Proofs.YtgdmiodcfdcihaaGreatDoor
