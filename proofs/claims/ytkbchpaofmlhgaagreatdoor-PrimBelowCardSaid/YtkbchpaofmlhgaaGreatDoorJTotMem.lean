import Derived.Test.YtkbchpaofmlhgaaGreatDoorJOpsA
import Derived.Laws.IdiomCopy
/- The memory's functions at any place: where it goes wrong, too. -/
namespace Go.Proofs.YtkbchpaofmlhgaaGreatDoor
open Go.RowKit
section
variable {w w' : World} {m g n here : Nat} {bs : List Int}

/-- a cell's place -/
def okC (n : Nat) (p : Int) : Prop := 0 ≤ p ∧ p + 8 ≤ n ∧ p % 8 = 0
instance (n : Nat) (p : Int) : Decidable (okC n p) := by unfold okC; infer_instance
def getE (n : Nat) (p : Int) : Int := if okC n p then 0 else if 0 ≤ p ∧ p + 8 ≤ n then -23 else -9
def getV (bs : List Int) (n : Nat) (p : Int) : Int := if okC n p then getF bs p.toNat else 0
theorem Get_tot (h : MemAt w m g n bs here) (p : Int) : Calls Tryz.prog 47 #[.pointer (some ⟨m, 0, none⟩), .int .i64 p] w fun e w' => e = .returned (.tuple #[.int .i64 (getV bs n p), .int .i64 (getE n p)]) ∧ Touch [] w w' := by
  by_cases hp : okC n p
  · obtain ⟨q, rfl⟩ : ∃ q : Nat, p = q := ⟨p.toNat, by unfold okC at hp; omega⟩
    have e1 : getV bs n (q : Int) = getF bs q := by unfold getV; rw [if_pos hp]; rfl
    have e2 : getE n (q : Int) = 0 := by unfold getE; rw [if_pos hp]
    rw [e1, e2]
    unfold okC at hp
    exact Get_ok h q (by omega) (by omega)
  · have e1 : getV bs n p = 0 := by unfold getV; rw [if_neg hp]
    have e2 : getE n p = if 0 ≤ p ∧ p + 8 ≤ n then -23 else -9 := by unfold getE; rw [if_neg hp]
    rw [e1, e2]
    exact Get_bad h p hp
def putT (bs : List Int) (n : Nat) (p x : Int) : List Int := if okC n p then putF bs p.toNat x 8 else bs
set_option maxRecDepth 100000 in
set_option maxHeartbeats 1000000 in
theorem MPut_bad (h : MemAt w m g n bs here) (p x : Int) (hp : ¬ (0 ≤ p ∧ p + 8 ≤ n ∧ p % 8 = 0)) : Calls Tryz.prog 69 #[.pointer (some ⟨m, 0, none⟩), .int .i64 p, .int .i64 x] w fun e w' => e = .returned (.int .i64 (if 0 ≤ p ∧ p + 8 ≤ n then -23 else -9)) ∧ Touch [] w w' := by
  have hC := cell_bad h p hp
  clear h hp
  obtain ⟨c, hc⟩ : ∃ c : Int, (if 0 ≤ p ∧ p + 8 ≤ (n : Int) then (-23 : Int) else -9) = c := ⟨_, rfl⟩
  rw [hc] at hC ⊢
  clear hc
  go_enter Tryz.func69, Tryz.ntmps69
  go_wp2_with fail
  refine hC.mono ?_
  rintro _ w1 ⟨⟨_, rfl, rfl⟩, t1⟩
  clear hC
  go_wp2_with fail
  go_loopw [18] (fun i wr => i = .int .i64 0 ∧ Touch [] w wr) (fun i _ => 8 - (intOf i).toNat)
  case atStart => exact ⟨rfl, t1⟩
  case round =>
    obtain ⟨rfl, t2⟩ := hrel
    clear t1
    go_wp2_with fail
    go_ret
    exact ⟨rfl, t2⟩
theorem Put_tot (h : MemAt w m g n bs here) (p x : Int) : Calls Tryz.prog 69 #[.pointer (some ⟨m, 0, none⟩), .int .i64 p, .int .i64 x] w fun e w' => e = .returned (.int .i64 (getE n p)) ∧ MemAt w' m g n (putT bs n p x) here ∧ Touch [m, g] w w' := by
  by_cases hp : okC n p
  · obtain ⟨q, rfl⟩ : ∃ q : Nat, p = q := ⟨p.toNat, by unfold okC at hp; omega⟩
    have e1 : putT bs n (q : Int) x = putF bs q x 8 := by unfold putT; rw [if_pos hp]; rfl
    have e2 : getE n (q : Int) = 0 := by unfold getE; rw [if_pos hp]
    rw [e1, e2]
    unfold okC at hp
    refine (MPut_ok h q x (by omega) (by omega)).mono ?_
    rintro _ w' ⟨rfl, hm, t⟩
    exact ⟨rfl, hm, t.mono (fun a ha => .inl (by simp only [List.mem_singleton] at ha; subst ha; simp))⟩
  · have e1 : putT bs n p x = bs := by unfold putT; rw [if_neg hp]
    have e2 : getE n p = if 0 ≤ p ∧ p + 8 ≤ n then -23 else -9 := by unfold getE; rw [if_neg hp]
    rw [e1, e2]
    refine (MPut_bad h p x hp).mono ?_
    rintro _ w' ⟨rfl, t⟩
    exact ⟨rfl, h.touch t (by simp) (by simp), t.mono (by simp)⟩
/-- bytes in a row -/
def okP (n : Nat) (p k : Int) : Prop := 0 ≤ p ∧ 0 ≤ k ∧ p + k ≤ n
instance (n : Nat) (p k : Int) : Decidable (okP n p k) := by unfold okP; infer_instance
def pieE (n : Nat) (p k : Int) : Int := if okP n p k then 0 else -9
def gbV (bs : List Int) (n : Nat) (p : Int) : Int := if okP n p 1 then bs.getD p.toNat 0 else 0
theorem gbV_byte (h : MemAt w m g n bs here) (p : Int) : 0 ≤ gbV bs n p ∧ gbV bs n p ≤ 255 := by
  unfold gbV
  split
  · exact h.byte.getD _
  · omega
theorem GetByte_bad (h : MemAt w m g n bs here) (p : Int) (hp : ¬ okP n p 1) : Calls Tryz.prog 141 #[.pointer (some ⟨m, 0, none⟩), .int .i64 p] w fun e w' => e = .returned (.tuple #[.int .u8 0, .int .i64 (-9)]) ∧ Touch [] w w' := by
  have hP := piece_bad h p 1 (by unfold okP at hp; omega)
  clear h hp
  go_enter Tryz.func141, Tryz.ntmps141
  go_wp2_with fail
  refine hP.mono ?_
  rintro _ w1 ⟨rfl, t1⟩
  clear hP
  go_wp2_with fail
  go_ret2
  exact ⟨rfl, t1⟩
theorem GetByte_tot (h : MemAt w m g n bs here) (p : Int) : Calls Tryz.prog 141 #[.pointer (some ⟨m, 0, none⟩), .int .i64 p] w fun e w' => e = .returned (.tuple #[.int .u8 (gbV bs n p), .int .i64 (pieE n p 1)]) ∧ Touch [] w w' := by
  unfold gbV pieE
  by_cases hp : okP n p 1
  · obtain ⟨q, rfl⟩ : ∃ q : Nat, p = q := ⟨p.toNat, by unfold okP at hp; omega⟩
    rw [if_pos hp, if_pos hp]
    exact MGetByte_ok h q (by unfold okP at hp; omega)
  · rw [if_neg hp, if_neg hp]
    exact GetByte_bad h p hp
def filT (bs : List Int) (n : Nat) (p k c : Int) : List Int := if okP n p k then filL bs p.toNat c k.toNat else bs
set_option maxHeartbeats 1000000 in
theorem MFill_bad (h : MemAt w m g n bs here) (p k c : Int) (hp : ¬ okP n p k) : Calls Tryz.prog 150 #[.pointer (some ⟨m, 0, none⟩), .int .i64 p, .int .i64 k, .int .u8 c] w fun e w' => e = .returned (.int .i64 (-9)) ∧ Touch [] w w' := by
  have hP := piece_bad h p k (by unfold okP at hp; omega)
  clear h hp
  go_enter Tryz.func150, Tryz.ntmps150
  go_wp2_with fail
  refine hP.mono ?_
  rintro _ w1 ⟨rfl, t1⟩
  clear hP
  go_wp2_with fail
  go_loopw [21] (fun i wr => i = .int .i64 0 ∧ Touch [] w wr) (fun i _ => 8 - (intOf i).toNat)
  case atStart => exact ⟨rfl, t1⟩
  case round =>
    obtain ⟨rfl, t2⟩ := hrel
    clear t1
    go_wp2_with fail
    go_ret
    exact ⟨rfl, t2⟩
theorem Fill_tot (h : MemAt w m g n bs here) (p k c : Int) (hc : 0 ≤ c ∧ c ≤ 255) : Calls Tryz.prog 150 #[.pointer (some ⟨m, 0, none⟩), .int .i64 p, .int .i64 k, .int .u8 c] w fun e w' => e = .returned (.int .i64 (pieE n p k)) ∧ MemAt w' m g n (filT bs n p k c) here ∧ Touch [m, g] w w' := by
  unfold filT pieE
  by_cases hp : okP n p k
  · obtain ⟨q, rfl⟩ : ∃ q : Nat, p = q := ⟨p.toNat, by unfold okP at hp; omega⟩
    obtain ⟨j, rfl⟩ : ∃ q : Nat, k = q := ⟨k.toNat, by unfold okP at hp; omega⟩
    rw [if_pos hp, if_pos hp]
    refine (MFill_ok h q j c hc (by unfold okP at hp; omega)).mono ?_
    rintro _ w' ⟨rfl, hm, t⟩
    exact ⟨rfl, hm, t.mono (fun a ha => .inl (by simp only [List.mem_singleton] at ha; subst ha; simp))⟩
  · rw [if_neg hp, if_neg hp]
    refine (MFill_bad h p k c hp).mono ?_
    rintro _ w' ⟨rfl, t⟩
    exact ⟨rfl, h.touch t (by simp) (by simp), t.mono (by simp)⟩
theorem PutByte_tot (h : MemAt w m g n bs here) (p c : Int) (hc : 0 ≤ c ∧ c ≤ 255) : Calls Tryz.prog 145 #[.pointer (some ⟨m, 0, none⟩), .int .i64 p, .int .u8 c] w fun e w' => e = .returned (.int .i64 (pieE n p 1)) ∧ MemAt w' m g n (filT bs n p 1 c) here ∧ Touch [m, g] w w' := by
  have hF := Fill_tot h p 1 c hc
  clear h
  go_enter Tryz.func145, Tryz.ntmps145
  go_wp2_with fail
  refine hF.mono ?_
  rintro _ w1 ⟨rfl, hm, t1⟩
  clear hF
  go_wp2_with fail
  go_ret
  exact ⟨rfl, hm, t1⟩
def textV (bs : List Int) (n : Nat) (p k : Int) : ByteArray := if okP n p k then strOfNums (cutL bs p.toNat k.toNat) else .empty
theorem Text_tot (h : MemAt w m g n bs here) (p k : Int) : Calls Tryz.prog 32 #[.pointer (some ⟨m, 0, none⟩), .int .i64 p, .int .i64 k] w fun e w' => e = .returned (.tuple #[.string (textV bs n p k), .int .i64 (pieE n p k)]) ∧ Touch [] w w' := by
  unfold textV pieE
  by_cases hp : okP n p k
  · obtain ⟨q, rfl⟩ : ∃ q : Nat, p = q := ⟨p.toNat, by unfold okP at hp; omega⟩
    obtain ⟨j, rfl⟩ : ∃ q : Nat, k = q := ⟨k.toNat, by unfold okP at hp; omega⟩
    rw [if_pos hp, if_pos hp]
    exact MText_ok h q j (by unfold okP at hp; omega)
  · rw [if_neg hp, if_neg hp]
    exact MText_bad h p k (by unfold okP at hp; omega)
theorem bytes_oneC (L : List Int) : ∀ u ∈ bytesV L, u.oneCell' = true := by
  intro u hu
  obtain ⟨x, _, rfl⟩ := List.mem_map.1 hu
  rfl
theorem copy_own (h : MemAt w m g n bs here) (p q k : Nat) (hp : p + k ≤ n) (hq : q + k ≤ n) (a b : Addr) (ha : 0 < k → a = ⟨g, p, none⟩) (hb : 0 < k → b = ⟨g, q, none⟩) :
    ∃ v w', (Builtin.copy_ #[66, 66] 3 #[.slice (some b) k k, .slice (some a) k k]).run Tryz.prog w = .ok v w' ∧ MemAt w' m g n (wrtL bs q (cutL bs p k)) here ∧ Touch [g] w w' := by
  obtain ⟨i0, hi, _, hz1, _⟩ := info_byte'
  have hlen := cutL_len (bs := bs) (p := p) (k := k) (by rw [h.len]; exact hp)
  rcases Nat.eq_zero_or_pos k with rfl | h0
  · refine ⟨_, _, run_copy_none (P := Tryz.prog) w _ _ _ 5 (some b) (some a) 0 0 0 0 Tryz.underlying66 (by rw [hi]; simp [hz1]) (by simp), ?_, Touch.refl _ _⟩
    have e : wrtL bs q (cutL bs p 0) = bs := by simp [wrtL, cutL]
    rw [e]
    exact h
  · rw [ha h0, hb h0]
    have hsz : (bytesV bs).toArray.size = n := by simp [bytesV, h.len]
    have hl2 : (bytesV (cutL bs p k)).length = k := by unfold bytesV; rw [List.length_map, hlen]
    refine ⟨_, _, run_copy_row (P := Tryz.prog) w _ _ _ 5 g q k k ⟨g, p, none⟩ k k _ 5 (bytesV (cutL bs p k)) Tryz.underlying66 (by rw [hi]; simp [hz1]) h.row (by rw [hl2]; exact (Nat.min_self k).symm) ?_ (by rw [hl2, hsz]; exact hq) ?_, ⟨?_, ?_, ?_, wrtL_bytes h.byte (cutL_bytes h.byte p k) q, h.small, h.low⟩, ⟨rfl, rfl, rfl, by simp, fun k hk hn => setRow_other w g k _ (by simpa using hn)⟩⟩
    · intro j v hj
      have hjk : j < k := by have := (List.getElem?_eq_some_iff.1 hj).1; omega
      have hc := h.cell (i := p + j) (by omega)
      have e : (⟨g, p, none⟩ : Addr).add j = ⟨g, p + j, none⟩ := by unfold Addr.add; split <;> simp_all
      rw [e, hc]
      unfold bytesV at hj
      rw [List.getElem?_map] at hj
      rw [← cutL_get (bs := bs) (p := p) hjk, ← hj]
      rw [List.getElem?_eq_getElem (by omega)]
      simp [List.getD, List.getElem?_eq_getElem (show j < (cutL bs p k).length by omega)]
    · exact bytes_oneC _
    · show _ = _
      rw [setRow_other w g m _ h.ne]
      exact h.blk
    · have h1 := setRow_heap w g _ (((bytesV bs).toArray.toList.take q ++ bytesV (cutL bs p k) ++ (bytesV bs).toArray.toList.drop (q + (bytesV (cutL bs p k)).length)).toArray) _ _ h.row
      have e : ((bytesV bs).toArray.toList.take q ++ bytesV (cutL bs p k) ++ (bytesV bs).toArray.toList.drop (q + (bytesV (cutL bs p k)).length)).toArray = (bytesV (wrtL bs q (cutL bs p k))).toArray := by
        unfold wrtL
        rw [bytesV_append, bytesV_append, hl2, hlen]
        unfold bytesV
        rw [List.map_take, List.map_drop]
      unfold Blk
      rw [← e]
      exact h1
    · rw [wrtL_len (by rw [hlen, h.len]; exact hq), h.len]
def movT (bs : List Int) (n : Nat) (p q k : Int) : List Int := if okP n p k ∧ okP n q k then wrtL bs q.toNat (cutL bs p.toNat k.toNat) else bs
def movE (n : Nat) (p q k : Int) : Int := if okP n p k ∧ okP n q k then 0 else -9
set_option maxHeartbeats 1000000 in
theorem Move_tot (h : MemAt w m g n bs here) (p q k : Int) : Calls Tryz.prog 152 #[.pointer (some ⟨m, 0, none⟩), .int .i64 p, .int .i64 q, .int .i64 k] w fun e w' => e = .returned (.int .i64 (movE n p q k)) ∧ MemAt w' m g n (movT bs n p q k) here ∧ Touch [m, g] w w' := by
  by_cases hp : okP n p k
  · by_cases hq : okP n q k
    · have e1 : movE n p q k = 0 := by unfold movE; rw [if_pos ⟨hp, hq⟩]
      have e2 : movT bs n p q k = wrtL bs q.toNat (cutL bs p.toNat k.toNat) := by unfold movT; rw [if_pos ⟨hp, hq⟩]
      rw [e1, e2]
      unfold okP at hp hq
      obtain ⟨p, rfl⟩ : ∃ x : Nat, p = x := ⟨p.toNat, by omega⟩
      obtain ⟨q, rfl⟩ : ∃ x : Nat, q = x := ⟨q.toNat, by omega⟩
      obtain ⟨k, rfl⟩ : ∃ x : Nat, k = x := ⟨k.toNat, by omega⟩
      have hp : p + k ≤ n := by omega
      have hq : q + k ≤ n := by omega
      show Calls _ _ _ _ fun e w' => e = .returned (.int .i64 0) ∧ MemAt w' m g n (wrtL bs q (cutL bs p k)) here ∧ Touch [m, g] w w'
      have hP := piece_ok h p k hp
      have hQ := fun w (h : MemAt w m g n bs here) => piece_ok h q k hq
      have H := Lib.hid (And.intro h (And.intro hp hq))
      clear h e1 e2
      go_enter Tryz.func152, Tryz.ntmps152
      go_wp2_with fail
      refine hP.mono ?_
      rintro _ w1 ⟨a, rfl, ha, t1⟩
      have hQ := hQ _ (H.out.1.touch t1 (by simp) (by simp))
      have H1 := Lib.hid (And.intro ha t1)
      clear hP ha t1
      go_wp2_with fail
      refine hQ.mono ?_
      rintro _ w2 ⟨b, rfl, hb, t2⟩
      obtain ⟨v, w3, hr, hm, t3⟩ := copy_own ((H.out.1.touch H1.out.2 (by simp) (by simp)).touch t2 (by simp) (by simp)) p q k H.out.2.1 H.out.2.2 a b H1.out.1 hb
      have HF := Lib.hid (And.intro hm (((H1.out.2.mono (G := [m, g]) (by simp)).trans t2 (by simp)).trans t3 (fun x hx => .inl (by simp only [List.mem_singleton] at hx; subst hx; simp))))
      clear hQ hb t2 hm t3
      go_wp2_with (at_builtin; refine Lib.wpList_copy_run _ rfl _ _ 66 66 rfl _ _ rfl rfl hr ?_)
      go_ret
      exact ⟨rfl, HF.out⟩
    · have e1 : movE n p q k = -9 := by unfold movE; rw [if_neg (fun x => hq x.2)]
      have e2 : movT bs n p q k = bs := by unfold movT; rw [if_neg (fun x => hq x.2)]
      rw [e1, e2]
      have hq : q < 0 ∨ n < q ∨ k < 0 ∨ n - q < k := by unfold okP at hq; omega
      unfold okP at hp
      obtain ⟨p, rfl⟩ : ∃ x : Nat, p = x := ⟨p.toNat, by omega⟩
      obtain ⟨k, rfl⟩ : ∃ x : Nat, k = x := ⟨k.toNat, by omega⟩
      have hP := piece_ok h p k (by omega)
      have hQ := fun w (h : MemAt w m g n bs here) => piece_bad h q k hq
      obtain ⟨i0, hi, _, hz1, _⟩ := info_byte'
      have hr := fun (w : World) a => run_copy_none (P := Tryz.prog) w 66 66 3 5 none a 0 0 k k Tryz.underlying66 (by rw [hi]; simp [hz1]) (Nat.min_zero k)
      have H := Lib.hid h
      clear h e1 e2 hp hq hi hz1
      go_enter Tryz.func152, Tryz.ntmps152
      go_wp2_with fail
      refine hP.mono ?_
      rintro _ w1 ⟨a, rfl, _, t1⟩
      have hQ := hQ _ (H.out.touch t1 (by simp) (by simp))
      have H1 := Lib.hid t1
      clear hP t1
      go_wp2_with fail
      refine hQ.mono ?_
      rintro _ w2 ⟨rfl, t2⟩
      have hr := hr w2 (some a)
      have HF := Lib.hid (H1.out.trans t2 (by simp))
      clear hQ t2
      go_wp2_with (at_builtin; refine Lib.wpList_copy_run _ rfl _ _ 66 66 rfl _ _ rfl rfl hr ?_)
      go_ret
      exact ⟨rfl, H.out.touch HF.out (by simp) (by simp), HF.out.mono (by simp)⟩
  · have e1 : movE n p q k = -9 := by unfold movE; rw [if_neg (fun x => hp x.1)]
    have e2 : movT bs n p q k = bs := by unfold movT; rw [if_neg (fun x => hp x.1)]
    rw [e1, e2]
    have hP := piece_bad h p k (by unfold okP at hp; omega)
    have H := Lib.hid h
    clear h e1 e2 hp
    go_enter Tryz.func152, Tryz.ntmps152
    go_wp2_with fail
    refine hP.mono ?_
    rintro _ w1 ⟨rfl, t1⟩
    clear hP
    go_wp2_with fail
    go_ret
    exact ⟨rfl, H.out.touch t1 (by simp) (by simp), t1.mono (by simp)⟩
/-- what is given out -/
def okA (n here : Nat) (k : Int) : Prop := k ≤ n - 512 - here ∧ -(here : Int) ≤ k
instance (n here : Nat) (k : Int) : Decidable (okA n here k) := by unfold okA; infer_instance
def allE (n here : Nat) (k : Int) : Int := if okA n here k then 0 else -8
def allH (n here : Nat) (k : Int) : Nat := if okA n here k then (here + k).toNat else here
theorem Allot_tot (h : MemAt w m g n bs here) (h3 : 512 ≤ n) (k : Int) : Calls Tryz.prog 68 #[.pointer (some ⟨m, 0, none⟩), .int .i64 k] w fun e w' => e = .returned (.int .i64 (allE n here k)) ∧ MemAt w' m g n bs (allH n here k) ∧ Touch [m, g] w w' := by
  unfold allE allH
  by_cases hk : okA n here k
  · rw [if_pos hk, if_pos hk]
    unfold okA at hk
    refine (Allot_ok h k hk.1 hk.2 (here + k).toNat (by omega) h3).mono ?_
    rintro _ w' ⟨rfl, hm, t⟩
    exact ⟨rfl, hm, t.mono (fun a ha => .inl (by simp only [List.mem_singleton] at ha; subst ha; simp))⟩
  · rw [if_neg hk, if_neg hk]
    unfold okA at hk
    refine (Allot_bad h k (by omega) h3).mono ?_
    rintro _ w' ⟨rfl, t⟩
    exact ⟨rfl, h.touch t (by simp) (by simp), t.mono (by simp)⟩
def alignK (here : Nat) : Int := bits .and .i64 (wrap64 (-(here : Int))) 7
theorem Align_tot (h : MemAt w m g n bs here) (h3 : 512 ≤ n) : Calls Tryz.prog 159 #[.pointer (some ⟨m, 0, none⟩)] w fun e w' => e = .returned (.int .i64 (allE n here (alignK here))) ∧ MemAt w' m g n bs (allH n here (alignK here)) ∧ Touch [m, g] w w' := by
  have hH := Here_any h
  have hA := Allot_tot h h3 (alignK here)
  clear h
  unfold alignK at hA ⊢
  go_enter Tryz.func159, Tryz.ntmps159
  go_wp2_with fail
  refine hH.mono ?_
  rintro _ _ ⟨rfl, rfl⟩
  clear hH
  go_wp2_with fail
  refine hA.mono ?_
  rintro _ w1 ⟨rfl, hm, t1⟩
  have HF := Lib.hid (And.intro hm t1)
  clear hA hm t1
  go_wp2_with fail
  go_ret
  exact ⟨rfl, HF.out⟩
def comE (n here : Nat) : Int := if here % 8 = 0 then allE n here 8 else -23
def comB (bs : List Int) (n here : Nat) (x : Int) : List Int := if here % 8 = 0 ∧ okA n here 8 then putF bs here x 8 else bs
def comH (n here : Nat) : Nat := if here % 8 = 0 then allH n here 8 else here
theorem Comma_tot (h : MemAt w m g n bs here) (h3 : 512 ≤ n) (x : Int) : Calls Tryz.prog 40 #[.pointer (some ⟨m, 0, none⟩), .int .i64 x] w fun e w' => e = .returned (.int .i64 (comE n here)) ∧ MemAt w' m g n (comB bs n here x) (comH n here) ∧ Touch [m, g] w w' := by
  by_cases h8 : here % 8 = 0
  · by_cases hk : okA n here 8
    · have e1 : comE n here = 0 := by unfold comE allE; rw [if_pos h8, if_pos hk]
      have e2 : comB bs n here x = putF bs here x 8 := by unfold comB; rw [if_pos ⟨h8, hk⟩]
      have e3 : comH n here = here + 8 := by unfold comH allH; rw [if_pos h8, if_pos hk]; omega
      rw [e1, e2, e3]
      exact Comma_ok h x h8 (by unfold okA at hk; omega)
    · have e1 : comE n here = -8 := by unfold comE allE; rw [if_pos h8, if_neg hk]
      have e2 : comB bs n here x = bs := by unfold comB; rw [if_neg (fun z => hk z.2)]
      have e3 : comH n here = here := by unfold comH allH; rw [if_pos h8, if_neg hk]
      rw [e1, e2, e3]
      have hH := Here_any h
      have hA := Allot_bad h 8 (by unfold okA at hk; omega) h3
      have g1 : (here : Int) % 8 = 0 := by omega
      have H := Lib.hid h
      clear h e1 e2 e3 hk
      go_enter Tryz.func40, Tryz.ntmps40
      go_wp2_with fail
      refine hH.mono ?_
      rintro _ _ ⟨rfl, rfl⟩
      clear hH
      go_wp2_with fail
      refine hA.mono ?_
      rintro _ w1 ⟨rfl, t1⟩
      clear hA
      go_wp2_with fail
      go_ret
      exact ⟨rfl, H.out.touch t1 (by simp) (by simp), t1.mono (by simp)⟩
  · have e1 : comE n here = -23 := by unfold comE; rw [if_neg h8]
    have e2 : comB bs n here x = bs := by unfold comB; rw [if_neg (fun z => h8 z.1)]
    have e3 : comH n here = here := by unfold comH; rw [if_neg h8]
    rw [e1, e2, e3]
    have hH := Here_any h
    have g1 : ¬ (here : Int) % 8 = 0 := by omega
    have g2 : ((here : Int) % 8 != 0) = true := by simpa using g1
    have H := Lib.hid h
    clear h e1 e2 e3 h8
    go_enter Tryz.func40, Tryz.ntmps40
    go_wp2_with fail
    refine hH.mono ?_
    rintro _ _ ⟨rfl, rfl⟩
    clear hH
    go_wp2_with fail
    go_ret
    exact ⟨rfl, H.out, Touch.refl _ _⟩
def ccoE (n here : Nat) : Int := allE n here 1
def ccoB (bs : List Int) (n here : Nat) (c : Int) : List Int := if okA n here 1 then filT bs n here 1 c else bs
theorem CComma_tot (h : MemAt w m g n bs here) (h3 : 512 ≤ n) (c : Int) (hc : 0 ≤ c ∧ c ≤ 255) : Calls Tryz.prog 157 #[.pointer (some ⟨m, 0, none⟩), .int .u8 c] w fun e w' => e = .returned (.int .i64 (ccoE n here)) ∧ MemAt w' m g n (ccoB bs n here c) (allH n here 1) ∧ Touch [m, g] w w' := by
  by_cases hk : okA n here 1
  · have e1 : ccoE n here = 0 := by unfold ccoE allE; rw [if_pos hk]
    have e2 : ccoB bs n here c = filT bs n here 1 c := by unfold ccoB; rw [if_pos hk]
    have e3 : allH n here 1 = here + 1 := by unfold allH; rw [if_pos hk]; omega
    have hE : pieE n here 1 = 0 := by unfold pieE; rw [if_pos]; unfold okP; unfold okA at hk; omega
    rw [e1, e2, e3]
    have hH := Here_any h
    have hA := Allot_ok h 1 (by unfold okA at hk; omega) (by omega) (here + 1) (by omega) h3
    have hP := fun w (h : MemAt w m g n bs (here + 1)) => PutByte_tot h here c hc
    rw [hE] at hP
    clear h e1 e2 e3 hk hE
    go_enter Tryz.func157, Tryz.ntmps157
    go_wp2_with fail
    refine hH.mono ?_
    rintro _ _ ⟨rfl, rfl⟩
    clear hH
    go_wp2_with fail
    refine hA.mono ?_
    rintro _ w1 ⟨rfl, hm, t1⟩
    have hP := hP _ hm
    have T1 := Lib.hid t1
    clear hA hm t1
    go_wp2_with fail
    refine hP.mono ?_
    rintro _ w2 ⟨rfl, hm, t2⟩
    have HF := Lib.hid (And.intro hm ((T1.out.mono (G := [m, g]) (fun a ha => .inl (by simp only [List.mem_singleton] at ha; subst ha; simp))).trans t2 (fun a ha => .inl ha)))
    clear hP hm t2
    go_wp2_with fail
    go_ret
    exact ⟨rfl, HF.out⟩
  · have e1 : ccoE n here = -8 := by unfold ccoE allE; rw [if_neg hk]
    have e2 : ccoB bs n here c = bs := by unfold ccoB; rw [if_neg hk]
    have e3 : allH n here 1 = here := by unfold allH; rw [if_neg hk]
    rw [e1, e2, e3]
    have hH := Here_any h
    have hA := Allot_bad h 1 (by unfold okA at hk; omega) h3
    have H := Lib.hid h
    clear h e1 e2 e3 hk
    go_enter Tryz.func157, Tryz.ntmps157
    go_wp2_with fail
    refine hH.mono ?_
    rintro _ _ ⟨rfl, rfl⟩
    clear hH
    go_wp2_with fail
    refine hA.mono ?_
    rintro _ w1 ⟨rfl, t1⟩
    clear hA
    go_wp2_with fail
    go_ret
    exact ⟨rfl, H.out.touch t1 (by simp) (by simp), t1.mono (by simp)⟩
end
end Go.Proofs.YtkbchpaofmlhgaaGreatDoor
