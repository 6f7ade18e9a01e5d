/- Acts one after the other. -/
import Derived.Test.YtnhhflnanogpjaaGreatDoorAct2
import Derived.LoopTactic
namespace Go.Proofs.YtnhhflnanogpjaaGreatDoor
open Go.RowKit

variable {α β : Type} {Pa : α → Prop} {enc : β → Value → World → Prop} {lo hi d nl : Nat} {w w' w1 : World} {b : Nat} {F : List Nat} {r s : Run} {v : Value} {m : Mn α}

/-- a slice of acts -/
structure ActList (lo hi : Nat) (w : World) (d nl : Nat) (g n c : Nat) (dens : List Den) : Prop where
  len : dens.length = n
  at_ : ∀ k, k < n → ∃ v, w.cell? ⟨g, k, none⟩ = some v ∧ ActSem lo hi w d nl v (dens.getD k (.pure false))
  ge : lo ≤ g
  lt : g < hi
  keeps : ∀ x ∈ dens, Keep d x (fun _ => True)
  cap : n ≤ c

theorem ActList.get {g n c : Nat} {dens : List Den} (h : ActList lo hi w d nl g n c dens) (hr : RunIn lo hi w w' b F d nl r) (k : Nat) (hk : k < n) :
    ∃ f cap, w'.cell? ⟨g, k, none⟩ = some (.func (.func f) #[] cap) ∧ Enters Tryz.prog f ∧ ∀ w'' b F r, RunIn lo hi w w'' b F d nl r → Calls Tryz.prog f (#[.pointer (some ⟨b, 0, none⟩)] ++ cap) w'' (Ends boolV w'' b F (dens.getD k (.pure false) r)) := by
  obtain ⟨v, hc, f, cap, rfl, hE, hf⟩ := h.at_ k hk
  exact ⟨f, cap, (World.cell?_of_block (hr.kept g h.ge h.lt)).trans hc, hE, hf⟩

theorem seqD_drop (l : List Den) (k : Nat) (hk : k < l.length) : seqD (l.drop k) = (l.getD k (.pure false)).bind fun x => if x then .pure true else seqD (l.drop (k + 1)) := by
  rw [List.drop_eq_getElem_cons hk, List.getD, List.getElem?_eq_getElem hk]
  rfl

set_option maxHeartbeats 2000000 in
theorem seq_act {dens : List Den} {B g n c : Nat} (hl : ActList lo hi w d nl g n c dens) (hn : n ≤ 100000) (hB : Blk w B 75 #[.slice (some ⟨g, 0, none⟩) n c]) (h1 : lo ≤ B) (h2 : B < hi) :
    ActSem lo hi w d nl (.func (.func 66) #[] #[.pointer (some ⟨B, 0, none⟩)]) (seqD dens) := by
  refine ⟨66, _, rfl, enters_of Tryz.func66 (by kernel_rfl) rfl, fun w' b F r hr => ?_⟩
  have c0 := box_cell hr hB h1 h2
  obtain ⟨q, hq⟩ : ∃ q, seqD dens r = q := ⟨_, rfl⟩
  rw [hq]
  have H0 : ∃ s F', RunIn lo hi w w' b F' d nl s ∧ Touch F w' w' ∧ Sub w' F F' ∧ seqD (dens.drop 0) s = q := ⟨r, F, hr, Touch.refl _ _, Sub.refl _ _, hq⟩
  have HL := Lib.hid hl
  have HQ := Lib.hid hq
  have Hr := Lib.hid hr
  have hcap := hl.cap
  clear hl hq hr hB
  go_enter Tryz.func66, Tryz.ntmps66
  go_wp2_with fail
  go_loopw [8] (fun i wr => ∃ k : Nat, k ≤ n ∧ i = .int .i64 k ∧ ∃ s F', RunIn lo hi w wr b F' d nl s ∧ Touch F w' wr ∧ Sub w' F F' ∧ seqD (dens.drop k) s = q) (fun i _ => n - (intOf i).toNat)
  case atStart => exact ⟨0, by omega, rfl, H0⟩
  case round =>
    obtain ⟨k, hk, rfl, s, F', hr1, t1, s1, hq1⟩ := hrel
    have T := Lib.hid (And.intro t1 s1)
    have Q1 := Lib.hid hq1
    have R1 := Lib.hid hr1
    clear H0 c0 t1 s1 hq1 hr1
    by_cases hlt : k < n
    · obtain ⟨f, cap, hc, hE, hf⟩ := HL.out.get R1.out k hlt
      have hent : ∀ (args : Array Value) (w : World), (callFunc f args).run Tryz.prog w = .ok (.enter f args) w := hE
      have hcall := hf wr b F' s R1.out
      have ek : IntKind.i64.wrap ((k : Int) + 1) = (k + 1 : Nat) := by rw [IntKind.wrap_i64]; omega
      clear hf hE
      obtain ⟨⟨o2, s2⟩, en⟩ : ∃ q, dens.getD k (.pure false) s = q := ⟨_, rfl⟩
      rw [en] at hcall
      have En := Lib.hid en
      clear en
      go_wp2_with fail
      refine hcall.mono ?_
      intro e2 w2 hend
      cases o2 with
      | ok z =>
        obtain ⟨_, rfl, hz, hl2⟩ := hend
        cases hz
        obtain ⟨F2, hr2, t2, s2', _, _⟩ := R1.out.on (HL.out.keeps _ (by rw [List.getD, List.getElem?_eq_getElem (by rw [HL.out.len]; exact hlt)]; exact List.getElem_mem _)) En.out hl2
        have hT2 := T.out.1.trans t2 T.out.2
        have hS2 := Sub.trans T.out.2 s2' T.out.1.size
        have hq2 := Q1.out
        rw [seqD_drop _ _ (by rw [HL.out.len]; exact hlt), bind_ok En.out] at hq2
        have K := Lib.hid (And.intro hr2 (And.intro hT2 (And.intro hS2 hq2)))
        clear hr2 t2 s2' hl2 hT2 hS2 hq2 hcall hc
        cases z
        · go_wp2
          go_roundw
          case rel => exact ⟨k + 1, by omega, by simp, _, _, K.out.1, K.out.2.1, K.out.2.2.1, K.out.2.2.2⟩
          case measure => simp only [intOf]; omega
        · go_wp2
          go_ret
          rw [← (show Mn.pure true s2 = q from K.out.2.2.2)]
          exact ⟨_, rfl, rfl, F2, K.out.1.run, K.out.2.1, K.out.2.2.1⟩
      | bad z o =>
        obtain ⟨rfl, hl2⟩ := hend
        have hq2 := Q1.out
        rw [seqD_drop _ _ (by rw [HL.out.len]; exact hlt), bind_bad En.out] at hq2
        have K := Lib.hid (And.intro (RunLost.trans T.out.1 T.out.2 hl2) hq2)
        clear hl2 hq2 hcall hc
        unfold stopped stopV
        go_wp2
        rw [← K.out.2]
        exact ⟨rfl, rfl, K.out.1⟩
    · go_wp2
      go_ret
      have hk0 : k = n := by omega
      have hq2 := Q1.out
      rw [List.drop_eq_nil_of_le (by rw [HL.out.len]; omega)] at hq2
      rw [← hq2]
      exact ⟨_, rfl, rfl, F', R1.out.run, T.out.1, T.out.2⟩
end Go.Proofs.YtnhhflnanogpjaaGreatDoor
