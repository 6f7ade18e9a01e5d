/- What is told: the teller's Out and Say; the state's; its base. -/
import Derived.Test.YtkbchpaofmlhgaaGreatDoorPDo
import Derived.Lib.AppendStr
import Derived.Deep.RegionLaw
namespace Go.Proofs.YtkbchpaofmlhgaaGreatDoor
open Go.RowKit

/-- a text's bytes -/
def strL (s : ByteArray) : List Int := s.data.toList.map fun b => (b.toNat : Int)
theorem strL_len (s : ByteArray) : (strL s).length = s.size := by
  unfold strL
  rw [List.length_map]
  exact Array.length_toList
theorem strL_bytes (s : ByteArray) : Bytes (strL s) := by
  intro x hx
  obtain ⟨b, _, rfl⟩ := List.mem_map.1 hx
  have := b.toNat_lt
  omega
theorem strL_cells (s : ByteArray) : bytesV (strL s) = Lib.strCells s := by
  unfold bytesV strL Lib.strCells
  rw [List.map_map]
  rfl
theorem bytesV_append (a b : List Int) : bytesV (a ++ b) = bytesV a ++ bytesV b := List.map_append
theorem Bytes.append {a b : List Int} (h : Bytes a) (k : Bytes b) : Bytes (a ++ b) := fun x hx => by
  rcases List.mem_append.1 hx with h1 | h1
  · exact h x h1
  · exact k x h1
theorem strL_take (s : ByteArray) (k : Nat) : strL (s.extract 0 k) = (strL s).take k := by
  unfold strL
  rw [← List.map_take]
  congr 1
  rw [ByteArray.data_extract, Array.toList_extract]
  simp
/-- one text more is told -/
def sayL (out : List Int) (s : ByteArray) : List Int := out ++ (strL s).take (4000 - out.length)
theorem sayL_len {out : List Int} (h : out.length ≤ 4000) (s : ByteArray) : (sayL out s).length ≤ 4000 := by
  unfold sayL
  rw [List.length_append, List.length_take]
  omega
theorem info_byte : (Tryz.prog.info? 5).map (fun i => (i.zero, i.size, i.bytes)) = some (some (.int .u8 0), 1, 1) := by kernel_rfl
theorem info_byte' : ∃ i0, Tryz.prog.info? 5 = some i0 ∧ i0.zero = some (.int .u8 0) ∧ i0.size = 1 ∧ i0.bytes = 1 := by
  have h := info_byte
  cases hi : Tryz.prog.info? 5 with
  | none => rw [hi] at h; cases h
  | some i =>
    rw [hi] at h
    simp only [Option.map_some, Option.some.injEq, Prod.mk.injEq] at h
    exact ⟨i, rfl, h.1, h.2.1, h.2.2⟩

section
variable {P : Program} {w : World}
theorem step_append_str {ops : Array Oper} {o : Oper} {a : Act} {K : Act → World → Prop} {Q : Exit → Act → World → Prop} {E : Prop} (hgd : o.guard = none) (sl x : Operand) (t u : TypeId)
    (ho : o.op = .call { callee := .builtin .append, args := #[sl, x], argTypes := #[t, u] })
    (e : TypeId) (i : TypeInfo) (ht : P.underlying t = some (.slice e)) (hu : P.underlying u = some .string) (hi : P.info? e = some i) (hz : i.zero = some (.int .u8 0))
    (hsize : i.size = 1) (hby : i.bytes = 1)
    (v : Value) (n : Nat) (xs : List Value) (hs : a.eval sl = v) (hown : w.ownsRow 0 e 1 v n xs) (s : ByteArray) (hx : a.eval x = .string s)
    (h63 : n + s.size ≤ 140737488355328)
    (h : ∀ b c w', w'.ownsRow 0 e 1 (.slice b (n + s.size) c) (n + s.size) (xs ++ Lib.strCells s) → w.grownBy w' v.ownBlock → (∀ g ∈ rowOf (.slice b (n + s.size) c), g ∈ rowOf v ∨ w.heap.size ≤ g) → K (a.put o.dst (.slice b (n + s.size) c)) w') :
    if Region.wanted o (yielded ops a.tmps) = true then Oper.wp P o a w K Q else E := by
  have hw : Region.wanted o (yielded ops a.tmps) = true := by simp [Region.wanted, hgd]
  rw [if_pos hw]
  obtain ⟨v', w', hr, h2, h3, h4⟩ := Lib.run_append_own_string (P := P) (w := w) 0 t u o.type e i ht hu hi hz hsize hby v n xs hown s (by unfold maxLen; omega) h63 (Nat.zero_le _)
  obtain ⟨b, c, rfl⟩ := own_slice h2
  unfold Oper.wp execOp
  simp only [ho, resolve, invoke, builtin, Sem.run_bind, Sem.run_pure, Result.andThen_ok, List.map_toArray, List.map_cons, List.map_nil, hs, hx, hr]
  refine h b c w' h2 h3 ?_
  rcases hown.2 with ⟨rfl, rfl⟩ | ⟨g, cap, cur, rfl, hbg, hg, hnc, hcm, hcs, htake⟩
  · obtain ⟨v', w'', hr', k2, _⟩ := Lib.run_append_own_string (P := P) (w := w) w.heap.size t u o.type e i ht hu hi hz hsize hby (.slice none 0 0) 0 xs ⟨hown.1, .inl ⟨rfl, rfl⟩⟩ s (by unfold maxLen; omega) h63 (Nat.le_refl _)
    rw [hr] at hr'
    injection hr' with e1 e2
    subst e1 e2
    exact fun x hx => .inr (own_from k2 x hx)
  · have hxl : xs.length = n := by simpa using hown.1
    by_cases hroom : n + s.size ≤ cap
    · have hcz : cur.size = cap := by simpa using hcs
      have hr' := Lib.run_append_room_string (P := P) w t u o.type e i ht hu hi hsize g n cap cur hg s hroom (by omega)
      rw [hr] at hr'
      injection hr' with e1 e2
      injection e1 with e1 _ _
      subst e1
      intro x hx
      exact .inl (by simpa [rowOf] using hx)
    · have holds : ∀ j u, xs[j]? = some u → w.cell? ((⟨g, 0, none⟩ : Addr).add j) = some u := hown.cells (g := g) rfl
      have hr' := Lib.run_append_grow_string (P := P) w t u o.type e i (.int .u8 0) ht hu hi hz ⟨g, 0, none⟩ n cap xs (by rw [hsize]; simpa using hxl) holds s (by omega) (by omega) (by rw [hby]; exact growslice_fits (by omega) (by omega))
      rw [hr] at hr'
      injection hr' with e1 e2
      injection e1 with e1 _ _
      subst e1
      intro x hx
      simp [rowOf] at hx
      exact .inr (by omega)
end

theorem say_end {w w1 : World} {t k : Nat} {v ba : Value} {out : List Int} {s : ByteArray} (hb : Blk w t 81 #[v]) (hr : BRow w v out) (hn : t ∉ rowOf v) (hk : min s.size (4000 - out.length) = k)
    (hown : w1.ownsRow 0 5 1 ba (out.length + k) (bytesV out ++ Lib.strCells (s.extract 0 k))) (hgr : w.drew.grownBy w1 v.ownBlock) (hat : ∀ g ∈ rowOf ba, g ∈ rowOf v ∨ w.heap.size ≤ g) :
    Blk (w1.setCell ⟨t, 0, none⟩ ba) t 81 #[ba] ∧ BRow (w1.setCell ⟨t, 0, none⟩ ba) ba (sayL out s) ∧ Touch (t :: rowOf v) w (w1.setCell ⟨t, 0, none⟩ ba) ∧ (∀ x ∈ rowOf ba, x ∈ rowOf v ∨ w.heap.size ≤ x) := by
  have hbl := hb.lt
  have hnt : t ∉ rowOf ba := fun hm => by
    rcases hat t hm with h | h
    · exact hn h
    · omega
  have hb1 := (hb.drew).grown hgr (fun e => hn (rowOf_mem.2 e.symm))
  have h1 : Touch (t :: rowOf v) w w1 := ((Touch.refl _ w).drew).grown hgr fun k hk => .inl (by simp [rowOf_mem, hk])
  have hs : sayL out s = out ++ strL (s.extract 0 k) := by
    unfold sayL
    rw [strL_take, ← hk]
    congr 1
    rw [List.take_eq_take_iff, strL_len]
    omega
  have hks : (s.extract 0 k).size = k := by simp; omega
  refine ⟨hb1.set_ 0 _, ⟨?_, ?_⟩, h1.setCell (by simp) _, hat⟩
  · rw [hs, List.length_append, strL_len, hks, bytesV_append, strL_cells]
    exact row_touch hown (F := [t]) ((Touch.refl _ _).setCell (by simp) _) (fun g hg hm => hnt (by rw [List.mem_singleton.1 hm] at hg; exact hg))
  · rw [hs]
    exact hr.2.append (strL_bytes _)
set_option maxHeartbeats 1000000 in
theorem TSay_any (w : World) (t : Nat) (v : Value) (out : List Int) (hb : Blk w t 81 #[v]) (hr : BRow w v out) (hn : t ∉ rowOf v) (hl : out.length ≤ 4000) (s : ByteArray) :
    Calls Tryz.prog 65 #[.pointer (some ⟨t, 0, none⟩), .string s] w fun e w' => ∃ v', e = .returned (.tuple #[]) ∧ Blk w' t 81 #[v'] ∧ BRow w' v' (sayL out s) ∧ Touch (t :: rowOf v) w w' ∧ (∀ x ∈ rowOf v', x ∈ rowOf v ∨ w.heap.size ≤ x) := by
  obtain ⟨i0, hi, hz, h1, h8⟩ := info_byte'
  obtain ⟨a, c, rfl⟩ := own_slice hr.1
  have c0 := hb.cell 0
  have f0 := hb.frozen 0
  have e1 : IntKind.i64.wrap (4000 - (out.length : Int)) = (4000 - out.length : Nat) := by rw [IntKind.wrap_i64]; omega
  have hmin : min (s.size : Int) ((4000 - out.length : Nat) : Int) = (min s.size (4000 - out.length) : Nat) := by omega
  have hle : min s.size (4000 - out.length) ≤ s.size := Nat.min_le_left _ _
  obtain ⟨k, hk⟩ : ∃ k, min s.size (4000 - out.length) = k := ⟨_, rfl⟩
  rw [hk] at hmin hle
  go_enter Tryz.func65, Tryz.ntmps65
  go_wp2_with fail
  have HV : Hid (some t ≠ (Value.slice a out.length c).ownBlock) := fun e => hn (rowOf_mem.2 e.symm)
  have hkk : (s.extract 0 k).size = k := by simp; omega
  have HR := Lib.hid hr.1
  have HK := Lib.hid hkk
  go_region_law (refine step_append_str rfl (.tmp 10) (.tmp 21) 66 9 rfl 5 i0 Tryz.underlying66 Tryz.underlying9 hi hz h1 h8 (.slice a out.length c) out.length (bytesV out) (by simp [Act.eval, Act.put]; try rfl) HR.out.drew (s.extract 0 k) (by simp [Act.eval, Act.put]; try rfl) (by rw [HK.out]; omega) ?_; intro ba ca w1 hown hgr hat; have d0 := ((hb.drew).grown hgr HV.out).cell 0; have g0 := ((hb.drew).grown hgr HV.out).frozen 0; have HG := Lib.hid (And.intro hown (And.intro hgr hat)); clear hown hgr hat)
  all_goals go_wp2_with fail
  all_goals go_end0
  all_goals exact ⟨_, rfl, say_end hb hr hn hk (by have h := HG.out.1; rw [HK.out] at h; exact h) HG.out.2.1 (by have h := HG.out.2.2; rw [HK.out] at h; exact h)⟩
end Go.Proofs.YtkbchpaofmlhgaaGreatDoor
