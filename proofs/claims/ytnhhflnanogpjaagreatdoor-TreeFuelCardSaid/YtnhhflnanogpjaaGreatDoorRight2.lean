/- Which nodes are a tree, in plain words: node by node. -/
import Derived.Test.YtnhhflnanogpjaaGreatDoorRight1
import Derived.Test.YtnhhflnanogpjaaGreatDoorBackK
import Derived.Test.YtnhhflnanogpjaaGreatDoorMade2
namespace Go.Proofs.YtnhhflnanogpjaaGreatDoor
open Go.RowKit

structure Within where
  first : Int
  deep : Int
  leaves : Bool
def Within.none : Within := ⟨0, 0, false⟩
def Within.v (p : Within) : List Value := [.int .i64 p.first, .int .i64 p.deep, .bool p.leaves]

def stepK (parts : List Within) (kind : Int) (p : Within) (k : Int) : Option Within :=
  if k < 0 ∨ k ≠ p.first - 1 then .none
  else some ⟨(parts.getD k.toNat Within.none).first, max p.deep (parts.getD k.toNat Within.none).deep, p.leaves || ((parts.getD k.toNat Within.none).leaves && decide (kind ≠ 5))⟩
def kidsF (parts : List Within) (kind : Int) : Within → List Int → Option Within
  | p, [] => some p
  | p, k :: ks => match stepK parts kind p k with
    | some q => kidsF parts kind q ks
    | .none => .none
theorem kidsF_snoc (parts : List Within) (kind : Int) : ∀ (ks : List Int) (p : Within) (k : Int), kidsF parts kind p (ks ++ [k]) = (kidsF parts kind p ks).bind fun q => stepK parts kind q k
  | [], p, k => by
    show kidsF parts kind p [k] = stepK parts kind p k
    simp only [kidsF]
    cases stepK parts kind p k <;> rfl
  | x :: ks, p, k => by
    simp only [List.cons_append, kidsF]
    cases stepK parts kind p x with
    | none => rfl
    | some q => exact kidsF_snoc parts kind ks q k

def badNode (v : NodeV) (locals : Int) : Prop :=
  manyK v.kind < -2 ∨ (0 ≤ manyK v.kind ∧ (v.kids.length : Int) ≠ manyK v.kind) ∨ (manyK v.kind = -2 ∧ v.kids.length = 0) ∨ numberK v.kind v.n locals = false
instance (v : NodeV) (locals : Int) : Decidable (badNode v locals) := by unfold badNode; exact inferInstance
def nodeW (parts : List Within) (v : NodeV) (at_ : Nat) (locals : Int) : Option Within :=
  if badNode v locals then .none
  else (kidsF parts v.kind ⟨at_, 0, decide (v.kind = 9)⟩ v.kids.reverse).map fun p => ⟨p.first, p.deep + 1, p.leaves⟩
def partsF (l : List NodeV) (locals : Int) : Nat → Option (List Within)
  | 0 => some []
  | k + 1 => match partsF l locals k with
    | .none => .none
    | some ps => (nodeW ps (l.getD k NodeV.none) k locals).map fun p => ps ++ [p]
def rightB (l : List NodeV) (locals : Int) : Bool :=
  if locals < 0 ∨ 16 < locals ∨ l.length < 1 ∨ 100 < l.length then false
  else match partsF l locals l.length with
    | .none => false
    | some ps => decide ((ps.getD (l.length - 1) Within.none).first = 0) && decide ((ps.getD (l.length - 1) Within.none).deep ≤ 12) && !(ps.getD (l.length - 1) Within.none).leaves

/-- parts as they may be -/
structure PartsOk (ps : List Within) : Prop where
  first : ∀ i, i < ps.length → 0 ≤ (ps.getD i Within.none).first ∧ (ps.getD i Within.none).first ≤ i
  deep : ∀ i, i < ps.length → 0 ≤ (ps.getD i Within.none).deep ∧ (ps.getD i Within.none).deep ≤ i + 1
structure POk (at_ : Nat) (p : Within) : Prop where
  f0 : 0 ≤ p.first
  f1 : p.first ≤ at_
  d0 : 0 ≤ p.deep
  d1 : p.deep ≤ at_

theorem stepK_ok {ps : List Within} {kind : Int} {p q : Within} {k : Int} (hps : PartsOk ps) (hp : POk ps.length p) (h : stepK ps kind p k = some q) : POk ps.length q ∧ 0 ≤ k ∧ k < ps.length ∧ k = p.first - 1 := by
  unfold stepK at h
  split at h
  · cases h
  · rename_i hk
    have hk1 : 0 ≤ k := by omega
    have hk2 : k = p.first - 1 := by omega
    have hkl : k.toNat < ps.length := by have := hp.f1; omega
    have h1 := hps.first k.toNat hkl
    have h2 := hps.deep k.toNat hkl
    have h3 := hp.f1
    have h4 := hp.d0
    have h5 := hp.d1
    cases h
    refine ⟨⟨h1.1, ?_, ?_, ?_⟩, hk1, by omega, hk2⟩
    · show _ ≤ _
      simp only; omega
    · show 0 ≤ max _ _
      omega
    · show max _ _ ≤ _
      omega
theorem kidsF_ok {ps : List Within} {kind : Int} (hps : PartsOk ps) : ∀ (ks : List Int) (p q : Within), POk ps.length p → kidsF ps kind p ks = some q → POk ps.length q ∧ ∀ k ∈ ks, 0 ≤ k ∧ k < ps.length
  | [], p, q, hp, h => by
    simp only [kidsF] at h
    cases h
    exact ⟨hp, by simp⟩
  | k :: ks, p, q, hp, h => by
    simp only [kidsF] at h
    cases e : stepK ps kind p k with
    | none => rw [e] at h; cases h
    | some p' =>
      rw [e] at h
      obtain ⟨h1, h2, h3, _⟩ := stepK_ok hps hp e
      obtain ⟨k1, k2⟩ := kidsF_ok hps ks p' q h1 h
      refine ⟨k1, fun x hx => ?_⟩
      rcases List.mem_cons.1 hx with rfl | hx
      · exact ⟨h2, h3⟩
      · exact k2 x hx
theorem nodeW_ok {ps : List Within} {v : NodeV} {locals : Int} {p : Within} (hps : PartsOk ps) (h : nodeW ps v ps.length locals = some p) : 0 ≤ p.first ∧ p.first ≤ ps.length ∧ 0 ≤ p.deep ∧ p.deep ≤ ps.length + 1 ∧ ¬ badNode v locals ∧ ∀ k ∈ v.kids, 0 ≤ k ∧ k < ps.length := by
  unfold nodeW at h
  split at h
  · cases h
  · rename_i hb
    cases e : kidsF ps v.kind ⟨ps.length, 0, decide (v.kind = 9)⟩ v.kids.reverse with
    | none => rw [e] at h; cases h
    | some q =>
      rw [e] at h
      cases h
      obtain ⟨h1, h2⟩ := kidsF_ok hps _ _ _ ⟨by simp only; omega, Int.le_refl _, Int.le_refl _, by simp only; omega⟩ e
      have := h1.f0; have := h1.f1; have := h1.d0; have := h1.d1
      exact ⟨by simp only; omega, by simp only; omega, by simp only; omega, by simp only; omega, hb, fun k hk => h2 k (List.mem_reverse.2 hk)⟩
theorem partsF_ok (l : List NodeV) (locals : Int) : ∀ (k : Nat) (ps : List Within), partsF l locals k = some ps → ps.length = k ∧ PartsOk ps ∧ ∀ i, i < k → ¬ badNode (l.getD i NodeV.none) locals ∧ ∀ x ∈ (l.getD i NodeV.none).kids, 0 ≤ x ∧ x < i
  | 0, ps, h => by
    simp only [partsF] at h
    cases h
    exact ⟨rfl, ⟨fun i hi => by simp at hi, fun i hi => by simp at hi⟩, fun i hi => by omega⟩
  | k + 1, ps, h => by
    simp only [partsF] at h
    cases e : partsF l locals k with
    | none => rw [e] at h; cases h
    | some qs =>
      rw [e] at h
      obtain ⟨hl, hok, hn⟩ := partsF_ok l locals k qs e
      cases e2 : nodeW qs (l.getD k NodeV.none) k locals with
      | none => simp only [e2] at h; cases h
      | some p =>
        simp only [e2] at h
        cases h
        rw [← hl] at e2
        obtain ⟨h1, h2, h3, h4, h5, h6⟩ := nodeW_ok hok e2
        refine ⟨by simp [hl], ⟨fun i hi => ?_, fun i hi => ?_⟩, fun i hi => ?_⟩
        · by_cases hij : i < qs.length
          · rw [List.getD, List.getElem?_append_left hij]; exact hok.first i hij
          · have hik : i = qs.length := by simp at hi; omega
            subst hik
            rw [List.getD, List.getElem?_append_right (Nat.le_refl _)]
            simp
            omega
        · by_cases hij : i < qs.length
          · rw [List.getD, List.getElem?_append_left hij]; exact hok.deep i hij
          · have hik : i = qs.length := by simp at hi; omega
            subst hik
            rw [List.getD, List.getElem?_append_right (Nat.le_refl _)]
            simp
            omega
        · by_cases hij : i < k
          · exact hn i hij
          · have hik : i = k := by omega
            subst hik
            rw [hl] at h5 h6
            exact ⟨h5, fun x hx => by have := h6 x hx; omega⟩

theorem fine_of {v : NodeV} {locals : Nat} {at_ : Nat} (h : ¬ badNode v locals) (hk : ∀ x ∈ v.kids, 0 ≤ x ∧ x < at_) (hs : v.kids.length ≤ 1000) : NodeFine locals at_ v := by
  obtain ⟨kind, n, kids⟩ := v
  unfold badNode at h
  simp only at h hk hs
  have h13 : 1 ≤ kind ∧ kind ≤ 13 := by
    have hm : ¬ manyK kind < -2 := fun e => h (.inl e)
    unfold manyK at hm
    repeat' split at hm
    all_goals omega
  have hm2 : 0 ≤ manyK kind → (kids.length : Int) = manyK kind := fun e => Classical.byContradiction fun e' => h (.inr (.inl ⟨e, e'⟩))
  have hm3 : manyK kind = -2 → kids.length ≠ 0 := fun e e' => h (.inr (.inr (.inl ⟨e, e'⟩)))
  have hn : numberK kind n locals = true := by
    cases e : numberK kind n locals with
    | true => rfl
    | false => exact absurd (.inr (.inr (.inr e))) h
  refine ⟨h13.1, h13.2, ?_, ?_, ?_, ?_, ?_, hk, hs⟩
  · rintro (e | e)
    all_goals (simp only at e; subst e; have := hm2 (by decide); simp only [show manyK 4 = 2 from rfl, show manyK 7 = 2 from rfl] at this; show kids.length = 2; omega)
  · rintro (e | e)
    all_goals (simp only at e; subst e; have := hm2 (by decide); simp only [show manyK 5 = 1 from rfl, show manyK 6 = 1 from rfl] at this; show kids.length = 1; omega)
  · intro e
    simp only at e; subst e
    have := hm3 rfl
    show 1 ≤ kids.length
    omega
  · intro e
    simp only at e; subst e
    rw [show numberK 2 n locals = (decide (1 ≤ n) && decide (n ≤ 42)) from rfl] at hn
    simp at hn
    exact hn
  · rintro (e | e)
    all_goals (simp only at e; subst e)
    · rw [show numberK 12 n locals = (decide (0 ≤ n) && decide (n < (locals : Int))) from rfl] at hn
      simp at hn
      exact hn
    · rw [show numberK 13 n locals = (decide (0 ≤ n) && decide (n < (locals : Int))) from rfl] at hn
      simp at hn
      exact hn
end Go.Proofs.YtnhhflnanogpjaaGreatDoor
