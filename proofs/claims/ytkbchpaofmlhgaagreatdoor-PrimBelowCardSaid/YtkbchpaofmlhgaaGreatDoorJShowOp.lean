import Derived.Test.YtkbchpaofmlhgaaGreatDoorJSaysT3
import Derived.Test.YtkbchpaofmlhgaaGreatDoorJHoldA
/- prim's .s: all of the stack is told. -/
namespace Go.Proofs.YtkbchpaofmlhgaaGreatDoor
open Go.RowKit

theorem row_onK {w w' : World} {base n : Nat} {e : TypeId} {v : Value} {xs : List Value} (h : w.ownsRow base e 1 v n xs) (o : On (rowOf v) w w') : w'.ownsRow base e 1 v n xs := by
  refine ⟨h.1, ?_⟩
  rcases h.2 with h | ⟨g, cap, cur, rfl, h2, h3, h4⟩
  · exact .inl h
  · exact .inr ⟨g, cap, cur, rfl, h2, (o g (by simp [rowOf])).trans h3, h4⟩
theorem Touch.onK {w w' : World} (t : Touch [] w w') {K : List Nat} (h : ∀ x ∈ K, x < w.heap.size) : On K w w' := fun x hx => t.block x (h x hx) (by simp)
theorem itoa_small (n : Nat) (h : n ≤ 128) : (⟨(Lib.itoa (n : Int)).toArray⟩ : ByteArray).size ≤ 21 := Rl.itoa_size n (by omega) (by omega)
set_option maxRecDepth 100000 in
set_option maxHeartbeats 3200000 in
theorem show_semT (w0 : World) (hT : Tabs w0) : OpSemT w0 99 0 (fun _ S => S.st.length ≤ 128 ∧ ∀ x ∈ S.st, Cell64 x) showF := by
  intro W B s F S t f first cap l lv ht hok hS hF hfd
  obtain ⟨b, C, hC, hb, hA, hB⟩ := found_says hfd rfl rfl
  obtain ⟨g, _, hg, rfl, rfl, rfl, rfl⟩ := act_open (hA : ActAt C 0 220 154 (.func (.func 179) #[.pointer (some ⟨s, 0, none⟩)] #[]) _ W) (Nat.zero_le _)
  refine ⟨rfl, enters_of Tryz.func220 (by kernel_rfl) rfl, fun hl hpre hc => ActDone.post (tells_clo hg (enters_of Tryz.func179 (by kernel_rfl) rfl) ?_)⟩
  obtain ⟨hlen, hcell⟩ := hpre
  show Calls Tryz.prog 179 #[.pointer (some ⟨s, 0, none⟩), lv] W fun e w' => e = .returned (.int .i64 (if 2 ≤ S.base ∧ S.base ≤ 36 then 0 else -40)) ∧ Done W s F S { S with out := if 2 ≤ S.base ∧ S.base ≤ 36 then showL S.baseN (sayL S.out (hdrT S.st.length)) S.st else S.out } w'
  by_cases hbase : 2 ≤ S.base ∧ S.base ≤ 36
  · rw [if_pos hbase, if_pos hbase]
    have hBa := Base_ok hS hok.2.2.1 hbase
    have hTW := hT.touch ht
    obtain ⟨BB, hBB⟩ : ∃ z, S.base = z := ⟨_, rfl⟩
    have HS := Lib.hid (And.intro hS (And.intro hok (And.intro hbase (And.intro hTW (And.intro hlen hcell)))))
    rw [hBB] at hBa
    clear hS hB hA hg hfd hc hF hl hb hC hbase hTW ht hT hok hlen hcell
    go_enter Tryz.func179, Tryz.ntmps179
    go_wp2_with fail
    refine hBa.mono ?_
    rintro _ w1 ⟨rfl, t1⟩
    have hS1 := HS.out.1.quiet t1
    have s1 : w1.cell? ⟨s, 1, none⟩ = some (.pointer (some ⟨S.k, 0, none⟩)) := by
      obtain ⟨FS, ov, mv, hp, _⟩ := hS1
      exact hp.blk.cell 1
    have hAl := PAll hS1 HS.out.2.2.2.2.1
    have H1 := Lib.hid t1
    clear hBa t1 hS1
    go_wp2_with fail
    refine hAl.mono ?_
    rintro _ w2 ⟨v, rfl, hv, t2⟩
    obtain ⟨ra, rc, rfl⟩ := own_slice hv
    have hTI := HS.out.2.2.2.1.touch (H1.out.trans t2 (by simp))
    obtain ⟨n, hn⟩ : ∃ n, S.st.length = n := ⟨_, rfl⟩
    have hn128 : n ≤ 128 := by rw [← hn]; exact HS.out.2.2.2.2.1
    rw [hn] at hv ⊢
    have hI : Calls Tryz.prog 225 #[.int .i64 (n : Int)] w2 fun e w' => e = .returned (.string ⟨(Lib.itoa (n : Int)).toArray⟩) ∧ Touch [] w2 w' :=
      (Tryz.strconv_Itoa (n : Int) (by omega) (by omega) w2 hTI.pow).mono fun e w' ⟨he, k, os, hw⟩ => ⟨he, by rw [hw]; exact Rl.touch_grow w2 k os⟩
    have hisz := itoa_small n hn128
    have hhdr : hdrT n = ⟨#[60]⟩ ++ ⟨(Lib.itoa (n : Int)).toArray⟩ ++ ⟨#[62]⟩ ++ ⟨#[32]⟩ := rfl
    obtain ⟨IT, hIT⟩ : ∃ z : ByteArray, ⟨(Lib.itoa (n : Int)).toArray⟩ = z := ⟨_, rfl⟩
    rw [hIT] at hI hisz hhdr
    have H2 := Lib.hid (And.intro hv (And.intro (H1.out.trans t2 (by simp)) (And.intro t2 (And.intro hn (And.intro hhdr hn128)))))
    clear hAl s1 t2 hv hTI hIT hn hhdr hn128
    have hnn : ¬ ((n : Int) < 0) := by omega
    go_wp2_with fail
    refine hI.mono ?_
    rintro _ w3 ⟨rfl, t3⟩
    have hSay := PSay_any (HS.out.1.quiet (H2.out.2.1.trans t3 (by simp))) HS.out.2.1.1 (⟨#[60]⟩ ++ IT ++ ⟨#[62]⟩ ++ ⟨#[32]⟩)
    have H3 := Lib.hid t3
    clear hI t3
    go_wp2_with fail
    refine hSay.mono ?_
    rintro _ w4 ⟨F4, rfl, k1, k2, k3⟩
    have hK0 : ∀ x ∈ rowOf (.slice ra n rc), x ∉ F4 ∧ x < w4.heap.size := fun x hx => by
      have h1 := own_from H2.out.1 x hx
      have h2 := row_lt H2.out.1 hx
      have h3 := H3.out.size
      have h4 := k2.size
      have h5 := H1.out.size
      refine ⟨fun hm => ?_, by omega⟩
      rcases k3 x hm with h | h
      · have := HS.out.1.lt x h
        omega
      · omega
    have hk4 : Kept W s F (rowOf (.slice ra n rc)) w4 { S with out := showL S.baseN (sayL S.out (hdrT n)) (S.st.take 0) } := by
      rw [List.take_zero]
      show Kept W s F _ w4 { S with out := sayL S.out (hdrT n) }
      rw [H2.out.2.2.2.2.1]
      exact ⟨F4, k1, ((H2.out.2.1.trans H3.out (by simp)).mono (by simp)).trans k2 (fun g hg => .inl hg), k3.lower (by have := H2.out.2.1.size; have := H3.out.size; omega), hK0⟩
    have hr4 : w4.ownsRow w1.heap.size 36 1 (.slice ra n rc) n (cells S.st) := row_touch (row_touch H2.out.1 H3.out (by simp)) k2 (fun x hx hm => by
      have h1 := own_from H2.out.1 x hx
      have h2 := HS.out.1.lt x hm
      have h5 := H1.out.size
      omega)
    have H4 := Lib.hid (And.intro hk4 hr4)
    clear hSay k1 k2 k3 hK0 hk4 hr4
    go_wp2_with fail
    go_loopw [33] (fun iv wr => ∃ i : Nat, iv = .int .i64 (i : Int) ∧ i ≤ n ∧ Kept W s F (rowOf (.slice ra n rc)) wr { S with out := showL S.baseN (sayL S.out (hdrT n)) (S.st.take i) } ∧ wr.ownsRow w1.heap.size 36 1 (.slice ra n rc) n (cells S.st)) (fun iv _ => n - (intOf iv).toNat)
    case atStart => exact ⟨0, rfl, Nat.zero_le _, H4.out⟩
    case round =>
      clear H4
      obtain ⟨i, rfl, hi, hk, hr⟩ := hrel
      have hn := H2.out.2.2.2.1
      by_cases hin : i < n
      · have hg : CellsG wr (.slice ra n rc) S.st := row_cellsG (base := w1.heap.size) (by rw [hn]; exact hr)
        obtain ⟨gg, cc, egg, hcell⟩ := hg.get (by omega)
        have hci := hcell i (by omega)
        injection egg with eg1 eg2 eg3
        clear eg2 eg3
        subst eg1
        obtain ⟨x, hx⟩ : ∃ x, S.st.getD i 0 = x := ⟨_, rfl⟩
        rw [hx] at hci
        have hx64 : Cell64 x := by
          rw [← hx]
          refine HS.out.2.2.2.2.2 _ ?_
          rw [List.getD, List.getElem?_eq_getElem (by omega)]
          exact List.getElem_mem (by omega)
        have hO := fun w => Of_any x w
        have hU : PS.ok { S with out := showL S.baseN (sayL S.out (hdrT n)) (S.st.take i) } := ⟨showL_le _ _ _ (sayL_len HS.out.2.1.1 _), HS.out.2.1.2⟩
        have e : numbF (ofP x) { S with out := showL S.baseN (sayL S.out (hdrT n)) (S.st.take i) } = (0, { S with out := showL S.baseN (sayL S.out (hdrT n)) (S.st.take (i + 1)) }) := by
          have h1 : numbF (ofP x) { S with out := showL S.baseN (sayL S.out (hdrT n)) (S.st.take i) } = (0, { S with out := sayL (showL S.baseN (sayL S.out (hdrT n)) (S.st.take i)) (sgnT S.baseN (numP (ofP x))) }) := if_pos HS.out.2.2.1
          rw [h1, showL_take _ _ _ _ (by omega), hx]
        have hN := fun w (h : Kept W s F (rowOf (.slice (some ⟨gg, 0, none⟩) n rc)) w { S with out := showL S.baseN (sayL S.out (hdrT n)) (S.st.take i) }) => h.step (fun F' hS => number_tot hS hU (ofP x) (ofP_cell x hx64).1 (ofP_cell x hx64).2)
        rw [e] at hN
        obtain ⟨⟨lo, hi2⟩, hp⟩ : ∃ p, ofP x = p := ⟨_, rfl⟩
        rw [hp] at hO hN
        unfold pairW at hO hN
        have hw : IntKind.i64.wrap ((i : Int) + 1) = ((i + 1 : Nat) : Int) := by rw [IntKind.wrap_i64]; have := H2.out.2.2.2.2.2; omega
        have hin' : (i : Int) < n := by omega
        have h0i : (0 : Int) ≤ i := by omega
        have HR := Lib.hid (And.intro hk (And.intro hr hin))
        clear hk hr hg hcell hx hx64 hU e hp hin hi hn
        go_wp2_with fail
        refine (hO _).mono ?_
        rintro _ w5 ⟨rfl, t5⟩
        have hk5 := HR.out.1.quiet t5
        have hr5 := row_touch HR.out.2.1 t5 (by simp)
        have hN := hN w5 hk5
        have H5 := Lib.hid hr5
        clear hO t5 hk5 hr5
        go_wp2_with fail
        refine hN.mono ?_
        rintro _ w6 ⟨rfl, hk6, on6⟩
        have H6 := Lib.hid (And.intro hk6 (row_onK H5.out on6))
        clear hN hk6 on6
        go_wp2_with fail
        refine ⟨⟨i + 1, rfl, by have := HR.out.2.2; omega, H6.out⟩, ?_⟩
        have := HR.out.2.2
        simp only [intOf]
        omega
      · obtain rfl : i = n := by omega
        have HD : Hid (Done W s F S { S with out := showL S.baseN (sayL S.out (hdrT i)) S.st } wr) := by
          have h := hk.done (S := S) ⟨rfl, rfl, rfl, rfl, rfl, rfl⟩
          rwa [List.take_of_length_le (by omega)] at h
        clear hk hr hn hi hin
        go_wp2_with fail
        go_ret
        exact ⟨rfl, by rw [H2.out.2.2.2.1]; exact HD.out⟩
  · rw [if_neg hbase, if_neg hbase]
    have hBa := Base_bad hS hok.2.2.1 hbase
    have HS := Lib.hid hS
    clear hS hB hA hg hfd hc hF hl hb hC hbase ht hT hok hlen hcell
    go_enter Tryz.func179, Tryz.ntmps179
    go_wp2_with fail
    refine hBa.mono ?_
    rintro _ w1 ⟨rfl, t1⟩
    have HD := Lib.hid (Done.self HS.out t1)
    clear hBa t1
    go_wp2_with fail
    go_ret
    exact ⟨rfl, HD.out⟩
end Go.Proofs.YtkbchpaofmlhgaaGreatDoor
