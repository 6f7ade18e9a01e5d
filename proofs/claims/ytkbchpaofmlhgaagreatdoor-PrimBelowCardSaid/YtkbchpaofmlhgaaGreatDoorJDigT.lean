import Derived.Test.YtkbchpaofmlhgaaGreatDoorJHoldA
import Derived.Test.YtkbchpaofmlhgaaGreatDoorJPairT
/- prim's digits, at any pair: one digit, or all; too many of them; a base that is none. Printed by digt.py. -/
namespace Go.Proofs.YtkbchpaofmlhgaaGreatDoor
open Go.RowKit

theorem rowB_take {w : World} {base : Nat} {e : TypeId} {a : Option Addr} {cap n m : Nat} {L : List Int} (h : w.ownsRow base e 1 (.slice a n cap) n (bytesV L)) (hm : m ≤ n) :
    w.ownsRow base e 1 (.slice a m cap) m (bytesV (L.take m)) := by
  obtain ⟨h1, h2⟩ := h
  have hl : L.length = n := by simpa [bytesV] using h1
  rcases h2 with ⟨h0, hn⟩ | ⟨g', cap', cur, hv, hg, hh, hn', hcap, hsz, htake⟩
  · injection h0 with e1 e2 e3
    subst e1 e3 hn
    obtain rfl : m = 0 := by omega
    exact ⟨by simp [bytesV], .inl ⟨rfl, rfl⟩⟩
  · cases hv
    refine ⟨by simp only [bytesV, List.length_map, List.length_take]; omega, .inr ⟨g', cap, cur, rfl, hg, hh, by omega, hcap, hsz, ?_⟩⟩
    rw [bytesV, List.map_take, ← bytesV, ← htake, List.take_take]
    congr 1
    omega
theorem rowB_cap {w : World} {base : Nat} {e : TypeId} {a : Option Addr} {cap n : Nat} {xs : List Value} (h : w.ownsRow base e 1 (.slice a n cap) n xs) : n ≤ cap := by
  rcases h.2 with ⟨h0, hn⟩ | ⟨g', cap', cur, hv, hg, hh, hn', hcap, _, _⟩
  · omega
  · cases hv; exact hn'
/-- bytes that were made are let go again -/
theorem cut_made {W wr : World} {s : Nat} {F K : List Nat} {S : PS} {acc : List Int} (h : Kept W s F K wr { S with made := S.made ++ acc }) :
    ∃ a n cap, wr.cell? ⟨s, 3, none⟩ = some (.slice a n cap) ∧ wr.frozen? ⟨s, 3, none⟩ = false ∧ S.made.length ≤ cap ∧ s ∉ K ∧ Done W s F S S (wr.setCell ⟨s, 3, none⟩ (.slice a S.made.length cap)) := by
  obtain ⟨F', ⟨FS, ov, mv, hp, rfl⟩, h2, h3, h4⟩ := h
  have hr := hp.made
  obtain ⟨a, cap, rfl⟩ := own_slice hr.1
  have hle : S.made.length ≤ (S.made ++ acc).length := by rw [List.length_append]; omega
  have hcap := rowB_cap hr.1
  refine ⟨a, _, cap, hp.blk.cell 3, hp.blk.frozen 3, Nat.le_trans hle hcap, fun hs => (h4 s hs).1 (by simp [foot]), ?_⟩
  have tS := (Touch.refl (s :: rowOf (.slice a (S.made ++ acc).length cap)) wr).setCell (p := ⟨s, 3, none⟩) (by simp) (.slice a S.made.length cap)
  have hrow : BRow (wr.setCell ⟨s, 3, none⟩ (.slice a S.made.length cap)) (.slice a S.made.length cap) S.made := by
    refine ⟨?_, fun x hx => hr.2 x (List.mem_append_left _ hx)⟩
    have h0 := rowB_take (m := S.made.length) hr.1 hle
    rw [List.take_left' rfl] at h0
    refine row_touch h0 ((Touch.refl [s] wr).setCell (p := ⟨s, 3, none⟩) (by simp) (.slice a S.made.length cap)) (fun x hx hm => ?_)
    rw [List.mem_singleton.1 hm] at hx
    have hx' : s ∈ rowOf (.slice a (S.made ++ acc).length cap) := by cases a <;> exact hx
    exact (row_ty hr.1 s hx').ne hp.blk.ty (by decide) rfl
  have hd := done_making (made' := S.made) hp (hp.blk.set_ 3 _) hrow tS (fun x hx => .inl (by cases a <;> exact hx))
  obtain ⟨F2, k1, k2, k3, k4⟩ := hd
  exact ⟨F2, k1, ⟨rfl, rfl, rfl, rfl, rfl, rfl⟩, h2.trans k3 (fun g hg => h3 g hg), Sub.trans h3 k4 h2.size⟩
/-- all digits are being made, and there will be too many -/
structure GoP (W : World) (s g1 g2 p : Nat) (F : List Nat) (S : PS) (B n k : Nat) (wr : World) (m : Nat) (acc : List Int) : Prop where
  kept : Kept W s F [p, g1, g2] wr { S with made := S.made ++ acc }
  pair : Blk wr p 38 #[.int .i64 (pl m), .int .i64 (ph m)]
  b1 : Blk wr g1 24 #[.pointer (some ⟨s, 0, none⟩)]
  b2 : Blk wr g2 4 #[.bool true]
  small : m < 340282366920938463463374607431768211456
  num : m = n / B ^ acc.length
  few : acc.length ≤ k
  text : digL B n = acc ++ digL B m
theorem dig_byte (B m : Nat) : 0 ≤ (((digC (m % B)).toNat : Nat) : Int) ∧ (((digC (m % B)).toNat : Nat) : Int) ≤ 255 := by have := (digC (m % B)).toNat_lt; omega
theorem digL_pos (B m : Nat) (hB0 : 2 ≤ B) : 1 ≤ (digL B m).length := by
  rcases Nat.lt_or_ge m B with h | h
  · rw [digL_last B m h]; exact Nat.le_refl _
  · rw [digL_more B m hB0 h]; simp
set_option maxRecDepth 100000 in
set_option maxHeartbeats 6400000 in
theorem digits_bad (W : World) (s g1 g2 ad c : Nat) (all : Bool) (x0 y0 : Int) (F : List Nat) (S : PS) (hS : StateAt W s F S) (hok : S.ok) (hB : ¬ (2 ≤ S.base ∧ S.base ≤ 36)) 
    (hg1 : g1 ∉ F) (hg2 : g2 ∉ F) (b1 : Blk W g1 24 #[.pointer (some ⟨s, 0, none⟩)]) (b2 : Blk W g2 4 #[.bool all]) (h0 : W.cell? ⟨ad, 0, none⟩ = some (.int .i64 (x0))) (h1 : W.cell? ⟨ad, 1, none⟩ = some (.int .i64 (y0))) :
    Calls Tryz.prog 233 #[.slice (some ⟨ad, 0, none⟩) 2 c, .pointer (some ⟨g1, 0, none⟩), .pointer (some ⟨g2, 0, none⟩)] W (ActDone W s F S (([x0, y0], -40), S)) := by
  have hBa := Base_bad hS hok.2.2.1 hB
  have hk0 : Kept W s F [g1, g2] W S := ⟨F, hS, Touch.refl _ _, Sub.refl _ _, fun x hx => by
    simp only [List.mem_cons, List.not_mem_nil, or_false] at hx
    rcases hx with rfl | rfl
    · exact ⟨hg1, b1.lt⟩
    · exact ⟨hg2, b2.lt⟩⟩
  have d0 := b1.cell 0
  have s0 : ∃ mv, W.cell? ⟨s, 3, none⟩ = some mv ∧ ∃ a cap, mv = .slice a S.made.length cap := by
    obtain ⟨FS, ov, mv, hp, _⟩ := hS
    exact ⟨mv, hp.blk.cell 3, own_slice hp.made.1⟩
  obtain ⟨mv, s3, ma, mc, rfl⟩ := s0
  obtain ⟨ml, hml⟩ : ∃ ml, S.made.length = ml := ⟨_, rfl⟩
  rw [hml] at s3
  obtain ⟨q, hq⟩ : ∃ q, x0 = q := ⟨_, rfl⟩
  obtain ⟨qh, hqh⟩ : ∃ q, y0 = q := ⟨_, rfl⟩
  rw [hq] at h0
  rw [hqh] at h1
  have HQ := Lib.hid (And.intro hq hqh)
  have HH := Lib.hid (And.intro hk0 (And.intro b1 (And.intro b2 hml)))
  clear hq hqh hk0 hS hg1 hg2 b1 b2 hok hB hml
  go_enter Tryz.func233, Tryz.ntmps233
  go_wp2_with fail
  refine hBa.mono ?_
  rintro _ w1 ⟨rfl, t1⟩
  clear hBa d0
  have d1 := (HH.out.2.1.touch t1.drew (by simp)).cell 0
  have s1 := cell_quiet t1.drew s3
  have hA := fun w (t : Touch [] W w) => a_any ad 2 c q qh w (Nat.le_refl _) (cell_quiet t h0) (cell_quiet t h1)
  have HT := Lib.hid t1
  clear t1
  go_upto_region 2 with fail
  go_cut [8, 9] from 17 to 23 (fun pv nv wx => ∃ p, pv = .pointer (some ⟨p, 0, none⟩) ∧ nv = .int .i64 (ml : Int) ∧ Blk wx p 38 #[.int .i64 q, .int .i64 qh] ∧ W.heap.size ≤ p ∧ Touch [] W wx)
  case first =>
    have HG1 : Hid (g1 < w1.heap.size) := (HH.out.2.1.touch HT.out (by simp)).lt
    have HG2 : Hid (s < w1.heap.size) := World.block_lt_of_cell? _ _ s1
    have e1 := fun o => cell_quiet (((Touch.refl [] w1).alloc o).drew) ((HH.out.2.1.touch HT.out (by simp)).cell 0)
    have f1 := fun o => cell_quiet (((Touch.refl [] w1).alloc o).drew) (cell_quiet HT.out s3)
    go_region_with (go_at_call 108; refine (hA _ (by first | exact HT.out.drew | exact HT.out.drew.alloc _)).mono ?_; rintro _ w2 ⟨rfl, t2⟩; have T2 := Touch.trans (by first | exact HT.out.drew | exact HT.out.drew.alloc _) t2 (by simp); have d2 := (HH.out.2.1.touch T2 (by simp)).cell 0; have s2 := cell_quiet T2 s3; have e2 := fun o => cell_quiet ((Touch.refl [] w2).alloc o) d2; have f2 := fun o => cell_quiet ((Touch.refl [] w2).alloc o) s2; try (have bP := ((Blk.new w1 38 #[.int .i64 0, .int .i64 0]).drew).touch t2 (by simp)); try (have p0 := bP.cell 0); try (have p1 := bP.cell 1); try (have z0 := bP.frozen 0); try (have z1 := bP.frozen 1); try (have d3 := fun i u j v => cell_keep (((Touch.refl [w1.heap.size] w2).setCell (p := ⟨w1.heap.size, i, none⟩) (by simp) u).setCell (p := ⟨w1.heap.size, j, none⟩) (by simp) v) d2 (fun hm => absurd (List.mem_singleton.1 hm) (Nat.ne_of_lt HG1.out))); try (have s3' := fun i u j v => cell_keep (((Touch.refl [w1.heap.size] w2).setCell (p := ⟨w1.heap.size, i, none⟩) (by simp) u).setCell (p := ⟨w1.heap.size, j, none⟩) (by simp) v) s2 (fun hm => absurd (List.mem_singleton.1 hm) (Nat.ne_of_lt HG2.out))))
    all_goals (go_wp2_with fail; go_meet; first | exact ⟨_, rfl, rfl, Blk.new w2 _ _, T2.size, T2.alloc _⟩ | exact ⟨_, rfl, rfl, bP.two_set _ _, HT.out.size, (T2.setCell (.inr HT.out.size) _).setCell (.inr HT.out.size) _⟩)
  case rest =>
    obtain ⟨p, rfl, rfl, bP, hWp, tc⟩ := hcut
    have hk := HH.out.1.more tc hWp bP.lt
    have bb1 := HH.out.2.1.touch tc (by simp)
    have bb2 := HH.out.2.2.1.touch tc (by simp)
    have HG : Hid (g1 ≠ p ∧ g2 ≠ p) := ⟨fun e => by have := HH.out.2.1.lt; omega, fun e => by have := HH.out.2.2.1.lt; omega⟩
    clear hA s3 h0 h1 d1 s1 tc
    have hk : Kept W s F [p, g1, g2] wc { S with made := S.made ++ [] } := by rwa [show ({ S with made := S.made ++ [] } : PS) = S from by rw [List.append_nil]]
    have HB := Lib.hid (And.intro bP (And.intro bb1 hk))
    clear bP bb1 bb2 hk hWp
    go_wp2_with fail
    go_loopw [7, 10] (fun ev mv wr => ev = .int .i64 (-40) ∧ mv = .bool false ∧ wc = wr) (fun _ _ _ => 0)
    case atStart => exact ⟨rfl, rfl, rfl⟩
    case round =>
      obtain ⟨rfl, rfl, rfl⟩ := hrel
      obtain ⟨bP, bb1, hk⟩ := HB.out
      obtain ⟨ca, cn, cc, x3, z3, hcc, hsK, hD⟩ := cut_made hk
      have ml_eq := HH.out.2.2.2
      rw [ml_eq] at hcc hD
      have hcc' : (ml : Int) ≤ cc := by omega
      have hc0 : (0 : Int) ≤ ml := by omega
      have d1 : wc.cell? ⟨g1, 0, none⟩ = some (.pointer (some ⟨s, 0, none⟩)) := bb1.cell 0
      have hpS : s ≠ p ∧ s ≠ g1 := ⟨fun e => hsK (by rw [e]; simp), fun e => hsK (by rw [e]; simp)⟩
      have d2 : wc.drew.cell? ⟨g1, 0, none⟩ = some (.pointer (some ⟨s, 0, none⟩)) := (bb1.drew).cell 0
      have x3' := cell_quiet ((Touch.refl [] wc).drew) x3
      have z3' : wc.drew.frozen? ⟨s, 3, none⟩ = false := z3
      have P3 := (bP.far (p := ⟨s, 3, none⟩) (fun e => hpS.1 e.symm) (.slice ca ml cc)).drew
      have p0 := P3.cell 0
      have p1 := P3.cell 1
      have HD : Hid (Done W s F S S (wc.setCell ⟨s, 3, none⟩ (.slice ca ml cc))) := hD
      clear x3 z3 P3 hD hsK hcc hpS ml_eq
      clear bP bb1 hk HB
      go_upto_region 10 with fail
      go_region
      all_goals go_wp2_with fail
      all_goals go_ret2
      all_goals obtain ⟨rfl, rfl⟩ := HQ.out
      all_goals exact ⟨_, rfl, (CellsAt.blk (cs := [x0, y0]) (Blk.new_at (n := wc.heap.size) (wc.setCell ⟨s, 3, none⟩ (.slice ca ml cc)) (by simp) 36 (cells [x0, y0]).toArray) 2).quiet ((Touch.refl [] _).drew), (HD.out.alloc _).on ((Touch.refl [] _).drew)⟩
set_option maxRecDepth 100000 in
set_option maxHeartbeats 6400000 in
theorem digits_good (W : World) (s g1 g2 ad c : Nat) (all : Bool) (n B : Nat) (F : List Nat) (S : PS) (hS : StateAt W s F S) (hok : S.ok) (hB : S.base = B) (hB0 : 2 ≤ B) (hB1 : B ≤ 36) (hn : n < 340282366920938463463374607431768211456) (R : (List Int × Int) × PS) (hR : (all = false ∧ S.made.length < 200 ∧ R = (([pl (n / B), ph (n / B)], 0), { S with made := S.made ++ [(((digC (n % B)).toNat : Nat) : Int)] })) ∨ (all = false ∧ ¬ S.made.length < 200 ∧ R = (([pl (n / B), ph (n / B)], -17), S)) ∨ (all = true ∧ 200 < S.made.length + (digL B n).length ∧ ∃ k, S.made.length + k = 200 ∧ R = (([pl (n / B ^ (k + 1)), ph (n / B ^ (k + 1))], -17), S))) 
    (hg1 : g1 ∉ F) (hg2 : g2 ∉ F) (b1 : Blk W g1 24 #[.pointer (some ⟨s, 0, none⟩)]) (b2 : Blk W g2 4 #[.bool all]) (h0 : W.cell? ⟨ad, 0, none⟩ = some (.int .i64 (pl n))) (h1 : W.cell? ⟨ad, 1, none⟩ = some (.int .i64 (ph n))) :
    Calls Tryz.prog 233 #[.slice (some ⟨ad, 0, none⟩) 2 c, .pointer (some ⟨g1, 0, none⟩), .pointer (some ⟨g2, 0, none⟩)] W (ActDone W s F S R) := by
  have hBa := Base_ok hS hok.2.2.1 (by rw [hB]; omega)
  rw [hB] at hBa
  have hk0 : Kept W s F [g1, g2] W S := ⟨F, hS, Touch.refl _ _, Sub.refl _ _, fun x hx => by
    simp only [List.mem_cons, List.not_mem_nil, or_false] at hx
    rcases hx with rfl | rfl
    · exact ⟨hg1, b1.lt⟩
    · exact ⟨hg2, b2.lt⟩⟩
  have d0 := b1.cell 0
  have s0 : ∃ mv, W.cell? ⟨s, 3, none⟩ = some mv ∧ ∃ a cap, mv = .slice a S.made.length cap := by
    obtain ⟨FS, ov, mv, hp, _⟩ := hS
    exact ⟨mv, hp.blk.cell 3, own_slice hp.made.1⟩
  obtain ⟨mv, s3, ma, mc, rfl⟩ := s0
  obtain ⟨ml, hml⟩ : ∃ ml, S.made.length = ml := ⟨_, rfl⟩
  rw [hml] at s3
  rw [hml] at hR
  have hst := fun m (hm : m < 340282366920938463463374607431768211456) W => stepP m B hm hB0 hB1 W
  obtain ⟨q, hq⟩ : ∃ q, pl n = q := ⟨_, rfl⟩
  obtain ⟨qh, hqh⟩ : ∃ q, ph n = q := ⟨_, rfl⟩
  rw [hq] at h0
  rw [hqh] at h1
  have HQ := Lib.hid (And.intro hq hqh)
  have HH := Lib.hid (And.intro hk0 (And.intro b1 (And.intro b2 hml)))
  have HR := Lib.hid hR
  clear hq hqh hk0 hS hg1 hg2 b1 b2 hok hB hml hR
  go_enter Tryz.func233, Tryz.ntmps233
  go_wp2_with fail
  refine hBa.mono ?_
  rintro _ w1 ⟨rfl, t1⟩
  clear hBa d0
  have d1 := (HH.out.2.1.touch t1.drew (by simp)).cell 0
  have s1 := cell_quiet t1.drew s3
  have hA := fun w (t : Touch [] W w) => a_any ad 2 c q qh w (Nat.le_refl _) (cell_quiet t h0) (cell_quiet t h1)
  have HT := Lib.hid t1
  clear t1
  go_upto_region 2 with fail
  go_cut [8, 9] from 17 to 23 (fun pv nv wx => ∃ p, pv = .pointer (some ⟨p, 0, none⟩) ∧ nv = .int .i64 (ml : Int) ∧ Blk wx p 38 #[.int .i64 q, .int .i64 qh] ∧ W.heap.size ≤ p ∧ Touch [] W wx)
  case first =>
    have HG1 : Hid (g1 < w1.heap.size) := (HH.out.2.1.touch HT.out (by simp)).lt
    have HG2 : Hid (s < w1.heap.size) := World.block_lt_of_cell? _ _ s1
    have e1 := fun o => cell_quiet (((Touch.refl [] w1).alloc o).drew) ((HH.out.2.1.touch HT.out (by simp)).cell 0)
    have f1 := fun o => cell_quiet (((Touch.refl [] w1).alloc o).drew) (cell_quiet HT.out s3)
    go_region_with (go_at_call 108; refine (hA _ (by first | exact HT.out.drew | exact HT.out.drew.alloc _)).mono ?_; rintro _ w2 ⟨rfl, t2⟩; have T2 := Touch.trans (by first | exact HT.out.drew | exact HT.out.drew.alloc _) t2 (by simp); have d2 := (HH.out.2.1.touch T2 (by simp)).cell 0; have s2 := cell_quiet T2 s3; have e2 := fun o => cell_quiet ((Touch.refl [] w2).alloc o) d2; have f2 := fun o => cell_quiet ((Touch.refl [] w2).alloc o) s2; try (have bP := ((Blk.new w1 38 #[.int .i64 0, .int .i64 0]).drew).touch t2 (by simp)); try (have p0 := bP.cell 0); try (have p1 := bP.cell 1); try (have z0 := bP.frozen 0); try (have z1 := bP.frozen 1); try (have d3 := fun i u j v => cell_keep (((Touch.refl [w1.heap.size] w2).setCell (p := ⟨w1.heap.size, i, none⟩) (by simp) u).setCell (p := ⟨w1.heap.size, j, none⟩) (by simp) v) d2 (fun hm => absurd (List.mem_singleton.1 hm) (Nat.ne_of_lt HG1.out))); try (have s3' := fun i u j v => cell_keep (((Touch.refl [w1.heap.size] w2).setCell (p := ⟨w1.heap.size, i, none⟩) (by simp) u).setCell (p := ⟨w1.heap.size, j, none⟩) (by simp) v) s2 (fun hm => absurd (List.mem_singleton.1 hm) (Nat.ne_of_lt HG2.out))))
    all_goals (go_wp2_with fail; go_meet; first | exact ⟨_, rfl, rfl, Blk.new w2 _ _, T2.size, T2.alloc _⟩ | exact ⟨_, rfl, rfl, bP.two_set _ _, HT.out.size, (T2.setCell (.inr HT.out.size) _).setCell (.inr HT.out.size) _⟩)
  case rest =>
    obtain ⟨p, rfl, rfl, bP, hWp, tc⟩ := hcut
    have hk := HH.out.1.more tc hWp bP.lt
    have bb1 := HH.out.2.1.touch tc (by simp)
    have bb2 := HH.out.2.2.1.touch tc (by simp)
    have HG : Hid (g1 ≠ p ∧ g2 ≠ p) := ⟨fun e => by have := HH.out.2.1.lt; omega, fun e => by have := HH.out.2.2.1.lt; omega⟩
    clear hA s3 h0 h1 d1 s1 tc
    have HW := Lib.hid hWp
    rcases HR.out with ⟨rfl, hroom, hR⟩ | ⟨rfl, hroom, hR⟩ | ⟨rfl, hlen, k, hk200, hR⟩
    · have HR2 := Lib.hid (And.intro hroom hR)
      have hk : Kept W s F [p, g1, g2] wc { S with made := S.made ++ [] } := by rwa [show ({ S with made := S.made ++ [] } : PS) = S from by rw [List.append_nil]]
      have HB := Lib.hid (And.intro bP (And.intro bb1 (And.intro bb2 hk)))
      clear bP bb1 bb2 hk hWp hroom hR HR
      go_wp2_with fail
      go_loopw [7, 10] (fun ev mv wr => (ev = .int .i64 0 ∧ mv = .bool true ∧ wc = wr) ∨ (ev = .int .i64 (0) ∧ mv = .bool false ∧ Kept W s F [p, g1, g2] wr { S with made := S.made ++ [(((digC (n % B)).toNat : Nat) : Int)] } ∧ Blk wr p 38 #[.int .i64 (pl (n / B)), .int .i64 (ph (n / B))] ∧ Blk wr g1 24 #[.pointer (some ⟨s, 0, none⟩)])) (fun _ mv _ => match mv with | .bool true => 1 | _ => 0)
      case atStart => exact .inl ⟨rfl, rfl, rfl⟩
      case round =>
        rcases hrel with ⟨rfl, rfl, rfl⟩ | ⟨rfl, rfl, hkE, bE, bg⟩
        · obtain ⟨rfl, rfl⟩ := HQ.out
          have hs := hst n hn
          obtain ⟨c8, hc8⟩ : ∃ c8, digC (n % B) = c8 := ⟨_, rfl⟩
          obtain ⟨m2, hm2⟩ : ∃ m2, n / B = m2 := ⟨_, rfl⟩
          rw [hc8, hm2] at hs
          have hm2lt : m2 < 340282366920938463463374607431768211456 := by rw [← hm2]; exact Nat.lt_of_le_of_lt (Nat.div_le_self _ _) hn
          have HC := Lib.hid (And.intro hc8 hm2)
          have p0 := HB.out.1.cell 0
          have p1 := HB.out.1.cell 1
          clear hc8 hm2
          go_wp2_with fail
          refine (hs _).mono ?_
          rintro _ w3 ⟨rfl, t3⟩
          have bP := HB.out.1.touch t3 (by simp)
          have HT3 := Lib.hid t3
          clear t3 hs p0 p1
          have p0 := bP.cell 0
          have p1 := bP.cell 1
          have z0 := bP.frozen 0
          have z1 := bP.frozen 1
          go_upto_region 8 with fail
          have bP2 := bP.two_set (.int .i64 (pl m2)) (.int .i64 (ph m2))
          have tP := ((Touch.refl [p] w3).setCell (p := ⟨p, 0, none⟩) (by simp) (.int .i64 (pl m2))).setCell (p := ⟨p, 1, none⟩) (by simp) (.int .i64 (ph m2))
          have hk1 := (HB.out.2.2.2.quiet HT3.out).own (by simp) HW.out tP
          have bb1 := (HB.out.2.1.touch HT3.out (by simp)).touch tP (fun hm => HG.out.1 (List.mem_singleton.1 hm))
          have bb2 := (HB.out.2.2.1.touch HT3.out (by simp)).touch tP (fun hm => HG.out.2 (List.mem_singleton.1 hm))
          clear p0 p1 z0 z1 bP tP
          generalize (w3.setCell ⟨p, 0, none⟩ (.int .i64 (pl m2))).setCell ⟨p, 1, none⟩ (.int .i64 (ph m2)) = w4 at *
          have d0 : w4.cell? ⟨g1, 0, none⟩ = some (.pointer (some ⟨s, 0, none⟩)) := bb1.cell 0
          have hcl : 0 ≤ ((c8.toNat : Nat) : Int) ∧ ((c8.toNat : Nat) : Int) ≤ 255 := by have := c8.toNat_lt; omega
          have hH := hk1.step (fun F' hS => hold_ok hS (by show (S.made ++ []).length < 200; rw [List.append_nil, HH.out.2.2.2]; exact HR2.out.1) _ hcl)
          have HB2 := Lib.hid (And.intro bP2 (And.intro bb1 bb2))
          clear bP2 bb1 bb2 hk1 hcl
          go_wp2_with fail
          refine hH.mono ?_
          rintro _ w5 ⟨rfl, hk3, on3⟩
          have bP3 := on3.blk (by simp) HB2.out.1
          have bg3 := on3.blk (by simp) HB2.out.2.1
          have bb3 := on3.blk (by simp) HB2.out.2.2
          have d2 : w5.cell? ⟨g2, 0, none⟩ = some (.bool false) := bb3.cell 0
          have p0 := bP3.cell 0
          have p1 := bP3.cell 1
          have hk4 : Kept W s F [p, g1, g2] w5 { S with made := S.made ++ [(((digC (n % B)).toNat : Nat) : Int)] } := by
            have h := hk3
            rw [← HC.out.1] at h
            have e : S.made ++ [] ++ [(((digC (n % B)).toNat : Nat) : Int)] = S.made ++ [(((digC (n % B)).toNat : Nat) : Int)] := by rw [List.append_nil]
            rw [← e]
            exact h
          have HF : Hid (Kept W s F [p, g1, g2] w5 { S with made := S.made ++ [(((digC (n % B)).toNat : Nat) : Int)] } ∧ Blk w5 p 38 #[.int .i64 (pl (n / B)), .int .i64 (ph (n / B))] ∧ Blk w5 g1 24 #[.pointer (some ⟨s, 0, none⟩)]) := ⟨hk4, by rw [HC.out.2]; exact bP3, bg3⟩
          clear bP3 bg3 bb3 hk4 hk3 on3 hH d0
          go_wp2_with fail
          exact ⟨.inr ⟨rfl, rfl, HF.out⟩, by decide⟩
        · clear HB
          have p0 := bE.cell 0
          have p1 := bE.cell 1
          have HD : Hid (Done W s F S { S with made := S.made ++ [(((digC (n % B)).toNat : Nat) : Int)] } wr) := hkE.done ⟨rfl, rfl, rfl, rfl, rfl, rfl⟩
          clear hkE bE bg
          go_wp2_with fail
          go_ret2
          rw [HR2.out.2]
          exact ⟨_, rfl, CellsAt.blk (cs := [pl (n / B), ph (n / B)]) (Blk.new _ _ _) 2, HD.out.alloc _⟩
    · have HR2 := Lib.hid (And.intro hroom hR)
      have hk : Kept W s F [p, g1, g2] wc { S with made := S.made ++ [] } := by rwa [show ({ S with made := S.made ++ [] } : PS) = S from by rw [List.append_nil]]
      have HB := Lib.hid (And.intro bP (And.intro bb1 (And.intro bb2 hk)))
      clear bP bb1 bb2 hk hWp hroom hR HR
      go_wp2_with fail
      go_loopw [7, 10] (fun ev mv wr => (ev = .int .i64 0 ∧ mv = .bool true ∧ wc = wr) ∨ (ev = .int .i64 (-17) ∧ mv = .bool false ∧ Kept W s F [p, g1, g2] wr { S with made := S.made ++ [] } ∧ Blk wr p 38 #[.int .i64 (pl (n / B)), .int .i64 (ph (n / B))] ∧ Blk wr g1 24 #[.pointer (some ⟨s, 0, none⟩)])) (fun _ mv _ => match mv with | .bool true => 1 | _ => 0)
      case atStart => exact .inl ⟨rfl, rfl, rfl⟩
      case round =>
        rcases hrel with ⟨rfl, rfl, rfl⟩ | ⟨rfl, rfl, hkE, bE, bg⟩
        · obtain ⟨rfl, rfl⟩ := HQ.out
          have hs := hst n hn
          obtain ⟨c8, hc8⟩ : ∃ c8, digC (n % B) = c8 := ⟨_, rfl⟩
          obtain ⟨m2, hm2⟩ : ∃ m2, n / B = m2 := ⟨_, rfl⟩
          rw [hc8, hm2] at hs
          have hm2lt : m2 < 340282366920938463463374607431768211456 := by rw [← hm2]; exact Nat.lt_of_le_of_lt (Nat.div_le_self _ _) hn
          have HC := Lib.hid (And.intro hc8 hm2)
          have p0 := HB.out.1.cell 0
          have p1 := HB.out.1.cell 1
          clear hc8 hm2
          go_wp2_with fail
          refine (hs _).mono ?_
          rintro _ w3 ⟨rfl, t3⟩
          have bP := HB.out.1.touch t3 (by simp)
          have HT3 := Lib.hid t3
          clear t3 hs p0 p1
          have p0 := bP.cell 0
          have p1 := bP.cell 1
          have z0 := bP.frozen 0
          have z1 := bP.frozen 1
          go_upto_region 8 with fail
          have bP2 := bP.two_set (.int .i64 (pl m2)) (.int .i64 (ph m2))
          have tP := ((Touch.refl [p] w3).setCell (p := ⟨p, 0, none⟩) (by simp) (.int .i64 (pl m2))).setCell (p := ⟨p, 1, none⟩) (by simp) (.int .i64 (ph m2))
          have hk1 := (HB.out.2.2.2.quiet HT3.out).own (by simp) HW.out tP
          have bb1 := (HB.out.2.1.touch HT3.out (by simp)).touch tP (fun hm => HG.out.1 (List.mem_singleton.1 hm))
          have bb2 := (HB.out.2.2.1.touch HT3.out (by simp)).touch tP (fun hm => HG.out.2 (List.mem_singleton.1 hm))
          clear p0 p1 z0 z1 bP tP
          generalize (w3.setCell ⟨p, 0, none⟩ (.int .i64 (pl m2))).setCell ⟨p, 1, none⟩ (.int .i64 (ph m2)) = w4 at *
          have d0 : w4.cell? ⟨g1, 0, none⟩ = some (.pointer (some ⟨s, 0, none⟩)) := bb1.cell 0
          have hcl : 0 ≤ ((c8.toNat : Nat) : Int) ∧ ((c8.toNat : Nat) : Int) ≤ 255 := by have := c8.toNat_lt; omega
          obtain ⟨F', hSt, _⟩ := id hk1
          have hH := hold_full hSt (by show ¬ (S.made ++ []).length < 200; rw [List.append_nil, HH.out.2.2.2]; exact HR2.out.1) ((c8.toNat : Nat) : Int)
          have d2 : w4.cell? ⟨g2, 0, none⟩ = some (.bool false) := bb2.cell 0
          have p0 := bP2.cell 0
          have p1 := bP2.cell 1
          have HF : Hid (Kept W s F [p, g1, g2] w4 { S with made := S.made ++ [] } ∧ Blk w4 p 38 #[.int .i64 (pl (n / B)), .int .i64 (ph (n / B))] ∧ Blk w4 g1 24 #[.pointer (some ⟨s, 0, none⟩)]) := ⟨hk1, by rw [HC.out.2]; exact bP2, bb1⟩
          clear bP2 bb1 bb2 hk1 hcl hSt
          go_wp2_with fail
          refine hH.mono ?_
          rintro _ _ ⟨rfl, rfl⟩
          clear hH
          go_wp2_with fail
          exact ⟨.inr ⟨rfl, rfl, HF.out⟩, by decide⟩
        · clear HB
          obtain ⟨ca, cn, cc, x3, z3, hcc, hsK, hD⟩ := cut_made hkE
          have ml_eq := HH.out.2.2.2
          rw [ml_eq] at hcc hD
          have hcc' : (ml : Int) ≤ cc := by omega
          have hc0 : (0 : Int) ≤ ml := by omega
          have d1 : wr.cell? ⟨g1, 0, none⟩ = some (.pointer (some ⟨s, 0, none⟩)) := bg.cell 0
          have hpS : s ≠ p ∧ s ≠ g1 := ⟨fun e => hsK (by rw [e]; simp), fun e => hsK (by rw [e]; simp)⟩
          have d2 : wr.drew.cell? ⟨g1, 0, none⟩ = some (.pointer (some ⟨s, 0, none⟩)) := (bg.drew).cell 0
          have x3' := cell_quiet ((Touch.refl [] wr).drew) x3
          have z3' : wr.drew.frozen? ⟨s, 3, none⟩ = false := z3
          have P3 := (bE.far (p := ⟨s, 3, none⟩) (fun e => hpS.1 e.symm) (.slice ca ml cc)).drew
          have p0 := P3.cell 0
          have p1 := P3.cell 1
          have HD : Hid (Done W s F S S (wr.setCell ⟨s, 3, none⟩ (.slice ca ml cc))) := hD
          clear x3 z3 P3 hD hsK hcc hpS ml_eq
          clear hkE bE bg
          go_upto_region 10 with fail
          go_region
          all_goals go_wp2_with fail
          all_goals go_ret2
          all_goals rw [HR2.out.2]
          all_goals exact ⟨_, rfl, (CellsAt.blk (cs := [pl (n / B), ph (n / B)]) (Blk.new_at (n := wr.heap.size) (wr.setCell ⟨s, 3, none⟩ (.slice ca ml cc)) (by simp) 36 (cells [pl (n / B), ph (n / B)]).toArray) 2).quiet ((Touch.refl [] _).drew), (HD.out.alloc _).on ((Touch.refl [] _).drew)⟩
    · have HR2 := Lib.hid (And.intro hlen (And.intro hk200 hR))
      have hk : Kept W s F [p, g1, g2] wc { S with made := S.made ++ [] } := by rwa [show ({ S with made := S.made ++ [] } : PS) = S from by rw [List.append_nil]]
      have HG0 : Hid (GoP W s g1 g2 p F S B n k wc n []) := ⟨hk, by rw [HQ.out.1, HQ.out.2]; exact bP, bb1, bb2, hn, by rw [List.length_nil, Nat.pow_zero, Nat.div_one], by simp, by simp⟩
      clear bP bb1 bb2 hk hWp hlen hk200 hR HR
      go_wp2_with fail
      go_loopw [7, 10] (fun ev mv wr => (∃ m acc, ev = .int .i64 0 ∧ mv = .bool true ∧ GoP W s g1 g2 p F S B n k wr m acc) ∨ (ev = .int .i64 (-17) ∧ mv = .bool false ∧ (∃ acc, Kept W s F [p, g1, g2] wr { S with made := S.made ++ acc }) ∧ Blk wr p 38 #[.int .i64 (pl (n / B ^ (k + 1))), .int .i64 (ph (n / B ^ (k + 1)))] ∧ Blk wr g1 24 #[.pointer (some ⟨s, 0, none⟩)])) (fun _ mv wr => match mv with | .bool true => numAtP wr p + 1 | _ => 0)
      case atStart => exact .inl ⟨n, [], rfl, rfl, HG0.out⟩
      case round =>
        clear HG0
        rcases hrel with ⟨m, acc, rfl, rfl, hG⟩ | ⟨rfl, rfl, hkE, bE, bg⟩
        · have HB := Lib.hid (And.intro hG.pair (And.intro hG.b1 (And.intro hG.b2 hG.kept)))
          have hnum : Hid (numAtP wr p = m) := numAtP_pair hG.pair hG.small
          have hsm := hG.small
          have HX := Lib.hid hG
          clear hG
          have hs := hst m hsm
          obtain ⟨c8, hc8⟩ : ∃ c8, digC (m % B) = c8 := ⟨_, rfl⟩
          obtain ⟨m2, hm2⟩ : ∃ m2, m / B = m2 := ⟨_, rfl⟩
          rw [hc8, hm2] at hs
          have hm2lt : m2 < 340282366920938463463374607431768211456 := by rw [← hm2]; exact Nat.lt_of_le_of_lt (Nat.div_le_self _ _) hsm
          have HC := Lib.hid (And.intro hc8 hm2)
          have p0 := HB.out.1.cell 0
          have p1 := HB.out.1.cell 1
          clear hc8 hm2
          go_wp2_with fail
          refine (hs _).mono ?_
          rintro _ w3 ⟨rfl, t3⟩
          have bP := HB.out.1.touch t3 (by simp)
          have HT3 := Lib.hid t3
          clear t3 hs p0 p1
          have p0 := bP.cell 0
          have p1 := bP.cell 1
          have z0 := bP.frozen 0
          have z1 := bP.frozen 1
          go_upto_region 8 with fail
          have bP2 := bP.two_set (.int .i64 (pl m2)) (.int .i64 (ph m2))
          have tP := ((Touch.refl [p] w3).setCell (p := ⟨p, 0, none⟩) (by simp) (.int .i64 (pl m2))).setCell (p := ⟨p, 1, none⟩) (by simp) (.int .i64 (ph m2))
          have hk1 := (HB.out.2.2.2.quiet HT3.out).own (by simp) HW.out tP
          have bb1 := (HB.out.2.1.touch HT3.out (by simp)).touch tP (fun hm => HG.out.1 (List.mem_singleton.1 hm))
          have bb2 := (HB.out.2.2.1.touch HT3.out (by simp)).touch tP (fun hm => HG.out.2 (List.mem_singleton.1 hm))
          clear p0 p1 z0 z1 bP tP
          generalize (w3.setCell ⟨p, 0, none⟩ (.int .i64 (pl m2))).setCell ⟨p, 1, none⟩ (.int .i64 (ph m2)) = w4 at *
          have d0 : w4.cell? ⟨g1, 0, none⟩ = some (.pointer (some ⟨s, 0, none⟩)) := bb1.cell 0
          have hcl : 0 ≤ ((c8.toNat : Nat) : Int) ∧ ((c8.toNat : Nat) : Int) ≤ 255 := by have := c8.toNat_lt; omega
          have heq := fun W => pair_neq (pl m2) (ph m2) 0 0 W
          rw [pair_nil m2 hm2lt] at heq
          have hgd := pair_guard
          have hml2 := HH.out.2.2.2
          have hacc := HX.out.few
          have htx := HX.out.text
          have hlen := HR2.out.1
          have hk2 := HR2.out.2.1
          have hlenm : (digL B n).length = acc.length + (digL B m).length := by rw [htx, List.length_append]
          by_cases hroom : acc.length < k
          · have hBm : B ≤ m := by
              rcases Nat.lt_or_ge m B with h | h
              · rw [digL_last B m h, List.length_singleton] at hlenm
                omega
              · exact h
            have hz : ¬ m2 = 0 := by
              rw [← HC.out.2]
              intro h
              have := (Nat.div_eq_zero_iff_lt (show 0 < B by omega)).1 h
              omega
            have hm2m : Hid (m2 < m) := by
              show m2 < m
              rw [← HC.out.2]
              exact Nat.div_lt_self (by omega) (by omega)
            rw [decide_eq_false hz] at heq
            have hH := hk1.step (fun F' hS => hold_ok hS (by show (S.made ++ acc).length < 200; rw [List.length_append, hml2]; omega) _ hcl)
            have hnew : (digL B n = (acc ++ [((c8.toNat : Nat) : Int)]) ++ digL B m2) ∧ m2 = n / B ^ (acc ++ [((c8.toNat : Nat) : Int)]).length ∧ (acc ++ [((c8.toNat : Nat) : Int)]).length ≤ k := by
              refine ⟨?_, ?_, by rw [List.length_append, List.length_singleton]; omega⟩
              · rw [htx, digL_more B m hB0 hBm, HC.out.1, HC.out.2]
                simp
              · rw [List.length_append, List.length_singleton, Nat.pow_succ, ← Nat.div_div_eq_div_mul, ← HX.out.num, HC.out.2]
            have HB2 := Lib.hid (And.intro bP2 (And.intro bb1 (And.intro bb2 hnew)))
            clear bP2 bb1 bb2 hk1 hcl hnew hz hBm hroom hlenm hk2 hlen htx hacc hml2
            go_wp2_with fail
            refine hH.mono ?_
            rintro _ w5 ⟨rfl, hk3, on3⟩
            have bP3 := on3.blk (by simp) HB2.out.1
            have bg3 := on3.blk (by simp) HB2.out.2.1
            have bb3 := on3.blk (by simp) HB2.out.2.2.1
            have d2 : w5.cell? ⟨g2, 0, none⟩ = some (.bool true) := bb3.cell 0
            have p0 := bP3.cell 0
            have p1 := bP3.cell 1
            have hk4 : Kept W s F [p, g1, g2] w5 { S with made := S.made ++ (acc ++ [((c8.toNat : Nat) : Int)]) } := by
              have h := hk3
              have e : S.made ++ acc ++ [((c8.toNat : Nat) : Int)] = S.made ++ (acc ++ [((c8.toNat : Nat) : Int)]) := List.append_assoc _ _ _
              rw [← e]
              exact h
            have HF : Hid (GoP W s g1 g2 p F S B n k w5 m2 (acc ++ [((c8.toNat : Nat) : Int)]) ∧ numAtP w5 p = m2) := ⟨⟨hk4, bP3, bg3, bb3, hm2lt, HB2.out.2.2.2.2.1, HB2.out.2.2.2.2.2, HB2.out.2.2.2.1⟩, numAtP_pair bP3 hm2lt⟩
            clear bP3 bg3 bb3 hk4 hk3 on3 hH d0
            go_wp2_with fail
            refine ⟨.inl ⟨m2, _, rfl, rfl, HF.out.1⟩, ?_⟩
            have h1 := hnum.out
            have h2 := HF.out.2
            have h3 := hm2m.out
            simp only [h1, h2]
            omega
          · have hfull : acc.length = k := by omega
            have hnew : m2 = n / B ^ (k + 1) := by rw [← hfull, Nat.pow_succ, ← Nat.div_div_eq_div_mul, ← HX.out.num, HC.out.2]
            obtain ⟨F', hSt, _⟩ := id hk1
            have hH := hold_full hSt (by show ¬ (S.made ++ acc).length < 200; rw [List.length_append, hml2]; omega) ((c8.toNat : Nat) : Int)
            have d2 : w4.cell? ⟨g2, 0, none⟩ = some (.bool true) := bb2.cell 0
            have p0 := bP2.cell 0
            have p1 := bP2.cell 1
            have HF : Hid ((∃ acc, Kept W s F [p, g1, g2] w4 { S with made := S.made ++ acc }) ∧ Blk w4 p 38 #[.int .i64 (pl (n / B ^ (k + 1))), .int .i64 (ph (n / B ^ (k + 1)))] ∧ Blk w4 g1 24 #[.pointer (some ⟨s, 0, none⟩)]) := ⟨⟨acc, hk1⟩, by rw [← hnew]; exact bP2, bb1⟩
            clear bP2 bb1 bb2 hk1 hcl hSt hnew hfull hroom hlenm hk2 hlen htx hacc hml2
            go_wp2_with fail
            refine hH.mono ?_
            rintro _ _ ⟨rfl, rfl⟩
            clear hH
            go_wp2_with fail
            refine ⟨.inr ⟨rfl, rfl, HF.out⟩, ?_⟩
            have h1 := hnum.out
            simp only [h1]
            omega
        · obtain ⟨acc, hkE⟩ := hkE
          obtain ⟨ca, cn, cc, x3, z3, hcc, hsK, hD⟩ := cut_made hkE
          have ml_eq := HH.out.2.2.2
          rw [ml_eq] at hcc hD
          have hcc' : (ml : Int) ≤ cc := by omega
          have hc0 : (0 : Int) ≤ ml := by omega
          have d1 : wr.cell? ⟨g1, 0, none⟩ = some (.pointer (some ⟨s, 0, none⟩)) := bg.cell 0
          have hpS : s ≠ p ∧ s ≠ g1 := ⟨fun e => hsK (by rw [e]; simp), fun e => hsK (by rw [e]; simp)⟩
          have d2 : wr.drew.cell? ⟨g1, 0, none⟩ = some (.pointer (some ⟨s, 0, none⟩)) := (bg.drew).cell 0
          have x3' := cell_quiet ((Touch.refl [] wr).drew) x3
          have z3' : wr.drew.frozen? ⟨s, 3, none⟩ = false := z3
          have P3 := (bE.far (p := ⟨s, 3, none⟩) (fun e => hpS.1 e.symm) (.slice ca ml cc)).drew
          have p0 := P3.cell 0
          have p1 := P3.cell 1
          have HD : Hid (Done W s F S S (wr.setCell ⟨s, 3, none⟩ (.slice ca ml cc))) := hD
          clear x3 z3 P3 hD hsK hcc hpS ml_eq
          clear hkE bE bg
          go_upto_region 10 with fail
          go_region
          all_goals go_wp2_with fail
          all_goals go_ret2
          all_goals rw [HR2.out.2.2]
          all_goals exact ⟨_, rfl, (CellsAt.blk (cs := [pl (n / B ^ (k + 1)), ph (n / B ^ (k + 1))]) (Blk.new_at (n := wr.heap.size) (wr.setCell ⟨s, 3, none⟩ (.slice ca ml cc)) (by simp) 36 (cells [pl (n / B ^ (k + 1)), ph (n / B ^ (k + 1))]).toArray) 2).quiet ((Touch.refl [] _).drew), (HD.out.alloc _).on ((Touch.refl [] _).drew)⟩
end Go.Proofs.YtkbchpaofmlhgaaGreatDoor
