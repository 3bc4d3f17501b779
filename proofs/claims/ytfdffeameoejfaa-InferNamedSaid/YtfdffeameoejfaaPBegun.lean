/- The plain law of InferBegun: suspicions begun. -/
import Derived.Test.YtfdffeameoejfaaPSets
import Derived.Test.YtfdffeameoejfaaPSpread
import Derived.Test.YtfdffeameoejfaaInfer2
namespace Go.Proofs.Ytfdffeameoejfaa
open Go
set_option linter.unusedSimpArgs false
set_option linter.unusedVariables false

/-- The nodes js, whose mistakes are suspicions now. -/
def bgN (js : List Nat) (x : N3) : N3 := if x.of.toNat ∈ js ∧ x.kind = 1 then ⟨x.of, x.tag, 2⟩ else x
def bg (X : List N3) (js : List Nat) : List N3 := X.map (bgN js)
theorem bg_nil (X : List N3) : bg X [] = X := by
  unfold bg
  conv => rhs; rw [← List.map_id X]
  apply List.map_congr_left; intro x _; simp [bgN]
theorem bg_len (X : List N3) (js : List Nat) : (bg X js).length = X.length := by simp [bg]
theorem bgN_of (js : List Nat) (x : N3) : (bgN js x).of = x.of ∧ (bgN js x).tag = x.tag := by unfold bgN; split <;> exact ⟨rfl, rfl⟩
theorem bg_good {X : List N3} (hX : Good X) (js : List Nat) : Good (bg X js) := by
  refine ⟨by rw [bg_len]; exact hX.1, fun i x hx => ?_⟩
  unfold bg at hx
  rw [List.getElem?_map] at hx
  cases h : X[i]? with
  | none => rw [h] at hx; cases hx
  | some y =>
    rw [h] at hx; cases hx
    have g := hX.2 i y h
    refine ⟨by rw [(bgN_of js y).1]; exact g.1, by rw [(bgN_of js y).2]; exact g.2.1, ?_⟩
    unfold bgN; split
    · rfl
    · exact g.2.2
theorem bg_get {X : List N3} {js : List Nat} {i : Nat} {x : N3} (h : X[i]? = some x) : (bg X js)[i]? = some (bgN js x) := by unfold bg; rw [List.getElem?_map, h]; rfl

/-- One that is doubted: its notice is a mistake, and is one of the book's. -/
theorem doubt_at {X : List N3} (hX : Good X) {j : Nat} (h : doubtB X j = true) : ∃ x, X[j]? = some x ∧ x.of = (j : Int) ∧ x.kind = 1 ∧ isTagB x.tag = true ∧ atN X (j : Int) = x ∧ j < X.length := by
  unfold doubtB atE atN at h
  rw [Bool.and_eq_true, decide_eq_true_eq, decide_eq_true_eq] at h
  have hj : j < X.length := by
    by_cases hc : (0 : Int) ≤ (j : Int) ∧ (j : Int) < (X.length : Int)
    · omega
    · rw [if_neg hc] at h; exact absurd h.1 (by decide)
  have hx := List.getElem?_eq_getElem hj
  have e : atN X (j : Int) = X[j] := by unfold atN; rw [if_pos (by omega), Int.toNat_natCast, hx]; rfl
  have hk := h.2
  rw [if_pos (by omega), Int.toNat_natCast, hx] at hk
  have g := hX.2 j _ hx
  exact ⟨X[j], hx, g.1, hk, g.2.1, e, hj⟩

/-- One doubt, taken. -/
theorem begun_step {X : List N3} (hX : Good X) (hn : 1 ≤ X.length) {js : List Nat} {j : Nat} (hd : doubtB X j = true) (hj : j ∉ js) :
    ∃ x, atN X (j : Int) = x ∧ x.of = (j : Int) ∧ atE (bg X js) (j : Int) = 0 ∧ (atN (bg X js) (j : Int)) = x ∧ x.kind = 1 ∧ takes (bg X js) ⟨x.of, x.tag, 2⟩ = true ∧ takeE (bg X js) ⟨x.of, x.tag, 2⟩ = 0 ∧ take1 (bg X js) ⟨x.of, x.tag, 2⟩ = bg X (js ++ [j]) := by
  obtain ⟨x, hx, ho, hk, ht, ha, hl⟩ := doubt_at hX hd
  have hb : bgN js x = x := by unfold bgN; rw [if_neg (fun h => hj (by rw [ho, Int.toNat_natCast] at h; exact h.1))]
  have hbx := bg_get (js := js) hx
  rw [hb] at hbx
  have h100 := hX.1
  have hv : validB ((bg X js).length : Int) ⟨x.of, x.tag, 2⟩ = true := by
    rw [bg_len]; simp only [validB, Bool.and_eq_true, decide_eq_true_eq]
    exact ⟨⟨⟨⟨⟨by omega, by omega⟩, by omega⟩, by omega⟩, ht⟩, rfl⟩
  have hbe : beats ⟨x.of, x.tag, 2⟩ x = true := by
    have := isTagB_t ht
    simp [beats, rank, ht, hk]; omega
  have htk : takes (bg X js) ⟨x.of, x.tag, 2⟩ = true := by
    unfold takes; rw [hv]
    simp only [ho, Int.toNat_natCast, hbx, Option.getD_some, Bool.true_and]
    rw [← ho]; exact hbe
  refine ⟨x, ha, ho, by unfold atE; rw [if_pos (by rw [bg_len]; omega)], by unfold atN; rw [if_pos (by rw [bg_len]; omega), Int.toNat_natCast, hbx]; rfl, hk, htk, by unfold takeE; rw [hv]; rfl, ?_⟩
  unfold take1
  rw [if_pos htk]
  apply List.ext_getElem?
  intro i
  rw [ho, Int.toNat_natCast]
  by_cases hi : i = j
  · subst hi
    rw [List.getElem?_set_self (by rw [bg_len]; exact hl), bg_get hx]
    unfold bgN
    rw [if_pos ⟨by rw [ho, Int.toNat_natCast]; simp, hk⟩, ho]
  · rw [List.getElem?_set_ne (by omega)]
    cases hxi : X[i]? with
    | none => unfold bg; rw [List.getElem?_map, List.getElem?_map, hxi]; rfl
    | some y =>
      rw [bg_get hxi, bg_get hxi]
      have gy := hX.2 i y hxi
      unfold bgN
      have e : (y.of.toNat ∈ js ++ [j]) = (y.of.toNat ∈ js) := by
        apply propext; rw [List.mem_append]; simp; intro h; omega
      simp only [e]

def kd2 (X : List N3) (k : Nat) : Bool := decide ((X[k]?.getD default).kind = 2)
theorem kd2_of {X : List N3} {k : Nat} {x : N3} (h : X[k]? = some x) : kd2 X k = decide (x.kind = 2) := by unfold kd2; rw [h]; rfl
theorem susp_take {X : List N3} (hX : Good X) : ∀ i, i ≤ X.length → (suspS (X.take i)).wf ∧ ∀ k, k < 128 → (suspS (X.take i)).bit k = (decide (k < i) && kd2 X k) := by
  intro i
  induction i with
  | zero => intro _; exact ⟨wf_zero, fun k _ => by rw [show suspS (X.take 0) = S4.mk 0 0 0 0 from rfl, bit_zero]; rfl⟩
  | succ i ih =>
    intro hi
    obtain ⟨h1, h2⟩ := ih (by omega)
    have hx := List.getElem?_eq_getElem (show i < X.length by omega)
    have g := hX.2 i _ hx
    have h100 := hX.1
    rw [take_snoc hx, suspS_snoc]
    split
    · rename_i hk
      have hto : (X[i]).of.toNat = i := by rw [g.1]; rfl
      rw [hto]
      refine ⟨wf_with _ _, fun k hk2 => ?_⟩
      rw [bit_with _ (by omega) hk2, h2 k hk2]
      by_cases e : k = i
      · subst e; rw [kd2_of hx, decide_eq_true hk]; simp
      · by_cases hlt : k < i
        · rw [decide_eq_true hlt, decide_eq_true (show k < i + 1 by omega), decide_eq_true (show k < 100 by omega), decide_eq_false e]; simp
        · rw [decide_eq_false hlt, decide_eq_false (show ¬ k < i + 1 by omega), decide_eq_false e]; simp
    · rename_i hk
      refine ⟨h1, fun k hk2 => ?_⟩
      rw [h2 k hk2]
      by_cases e : k = i
      · subst e; rw [kd2_of hx, decide_eq_false hk]; simp
      · by_cases hlt : k < i
        · rw [decide_eq_true hlt, decide_eq_true (show k < i + 1 by omega)]
        · rw [decide_eq_false hlt, decide_eq_false (show ¬ k < i + 1 by omega)]
theorem susp_bit {X : List N3} (hX : Good X) : (suspS X).wf ∧ ∀ k, k < 128 → (suspS X).bit k = (decide (k < X.length) && kd2 X k) := by
  have := susp_take hX X.length (Nat.le_refl _)
  rw [List.take_length] at this; exact this

/-- The ids that are doubted. -/
def djs (X : List N3) (m : S4) : List Nat := (idsS m).filter (doubtB X)
theorem djs_nodup (X : List N3) (m : S4) : (djs X m).Nodup := by
  unfold djs idsS
  exact (List.nodup_range.filter _).filter _
theorem djs_mem {X : List N3} {m : S4} {k : Nat} : k ∈ djs X m ↔ (k < 100 ∧ m.has k = true) ∧ doubtB X k = true := by
  unfold djs idsS; rw [List.mem_filter, List.mem_filter, List.mem_range]
theorem doubts_at {X : List N3} {m : S4} {k : Nat} {z : N3} (h : (doubtsL X (idsS m))[k]? = some z) : ∃ j, (djs X m)[k]? = some j ∧ z = ⟨(atN X (j : Int)).of, (atN X (j : Int)).tag, 2⟩ := by
  unfold doubtsL at h
  rw [List.getElem?_map] at h
  cases hj : ((idsS m).filter (doubtB X))[k]? with
  | none => rw [hj] at h; cases h
  | some j => rw [hj] at h; cases h; exact ⟨j, hj, rfl⟩
theorem doubts_len (X : List N3) (m : S4) : (doubtsL X (idsS m)).length = (djs X m).length := by unfold doubtsL djs; rw [List.length_map]

/-- One round. -/
theorem begun_round {X : List N3} (hX : Good X) (hn : 1 ≤ X.length) {m : S4} {k : Nat} {z : N3} (h : (doubtsL X (idsS m))[k]? = some z) :
    ∃ x, atE (bg X ((djs X m).take k)) z.of = 0 ∧ atN (bg X ((djs X m).take k)) z.of = x ∧ x.kind = 1 ∧ x.tag = z.tag ∧ z.kind = 2 ∧ takes (bg X ((djs X m).take k)) z = true ∧ takeE (bg X ((djs X m).take k)) z = 0 ∧
      take1 (bg X ((djs X m).take k)) z = bg X ((djs X m).take (k + 1)) := by
  obtain ⟨j, hj, rfl⟩ := doubts_at h
  have hd := (djs_mem.1 (List.mem_of_getElem? hj)).2
  have hkl := (List.getElem?_eq_some_iff.1 hj).1
  have hnot : j ∉ (djs X m).take k := by
    intro hm
    obtain ⟨i, hi⟩ := List.getElem?_of_mem hm
    have hik : i < k := by have := (List.getElem?_eq_some_iff.1 hi).1; simp at this; omega
    rw [List.getElem?_take_of_lt hik] at hi
    have := (List.getElem?_inj (by have := (List.getElem?_eq_some_iff.1 hi).1; exact this) (djs_nodup X m)).1 (hi.trans hj.symm)
    omega
  obtain ⟨x, ha, ho, h1, h2, h3, h4, h5, h6⟩ := begun_step hX hn hd hnot
  rw [ha]
  refine ⟨x, by simp only [ho]; exact h1, by simp only [ho]; exact h2, h3, rfl, rfl, h4, h5, ?_⟩
  rw [h6, take_snoc hj]

/-- InferBegun's law. -/
theorem begun_law {X : List N3} (hX : Good X) {m : S4} (hm : m.wf) :
    suspS (bg X (djs X m)) = unionS (suspS X) (meetS m (upToS (X.length : Int))) ∧ doubtsL (bg X (djs X m)) (idsS m) = [] := by
  have hb := bg_good hX (djs X m)
  have s1 := susp_bit hX
  have s2 := susp_bit hb
  have h100 := hX.1
  have kinds : ∀ (k : Nat) (x : N3), X[k]? = some x → x.kind = 1 ∨ x.kind = 2 := fun k x hx => isKindB_t (hX.2 k x hx).2.2
  have inj : ∀ (k : Nat) (x : N3), X[k]? = some x → (k ∈ djs X m ↔ m.bit k = true ∧ x.kind = 1) := by
    intro k x hx
    have hk : k < X.length := (List.getElem?_eq_some_iff.1 hx).1
    rw [djs_mem, has_bit hm]
    have e1 : atE X (k : Int) = 0 := by unfold atE; rw [if_pos (by omega)]
    have e2 : atN X (k : Int) = x := by unfold atN; rw [if_pos (by omega), Int.toNat_natCast, hx]; rfl
    unfold doubtB
    rw [e1, e2]
    simp
    intro _ _; omega
  constructor
  · refine bit_ext s2.1 (wf_clean _) fun k hk => ?_
    rw [s2.2 k hk, bit_union _ _ hk, bit_meet _ _ hk, s1.2 k hk, bit_upTo hk, bg_len]
    by_cases hl : k < X.length
    · have hx := List.getElem?_eq_getElem hl
      rw [decide_eq_true hl, kd2_of (bg_get (js := djs X m) hx), kd2_of hx, decide_eq_true (show (k : Int) < (X.length : Int) by omega), decide_eq_true (show k < 100 by omega)]
      have hto : (X[k]).of.toNat = k := by rw [(hX.2 k _ hx).1]; rfl
      unfold bgN
      rw [hto]
      by_cases hj : k ∈ djs X m ∧ (X[k]).kind = 1
      · rw [if_pos hj]
        have := ((inj k _ hx).1 hj.1).1
        rw [this]; simp
      · rw [if_neg hj]
        rcases kinds k _ hx with h1 | h1
        · have : ¬ m.bit k = true := fun h2 => hj ⟨(inj k _ hx).2 ⟨h2, h1⟩, h1⟩
          rw [Bool.eq_false_iff.2 this, h1]; simp
        · rw [h1]; simp
    · rw [decide_eq_false hl, decide_eq_false (show ¬ (k : Int) < (X.length : Int) by omega)]; simp
  · unfold doubtsL
    rw [List.map_eq_nil_iff, List.filter_eq_nil_iff]
    intro k hk hdk
    obtain ⟨y, hy, ho, hkk, _⟩ := doubt_at hb hdk
    cases hx : X[k]? with
    | none => unfold bg at hy; rw [List.getElem?_map, hx] at hy; cases hy
    | some x =>
      rw [bg_get hx] at hy
      cases hy
      have hto : x.of.toNat = k := by rw [(hX.2 k _ hx).1]; rfl
      unfold bgN at hkk
      rw [hto] at hkk
      by_cases hj : k ∈ djs X m ∧ x.kind = 1
      · rw [if_pos hj] at hkk; simp at hkk
      · rw [if_neg hj] at hkk
        have hmk : m.has k = true := (List.mem_filter.1 hk).2
        rw [has_bit hm] at hmk
        exact hj ⟨(inj k x hx).2 ⟨hmk, hkk⟩, hkk⟩
end Go.Proofs.Ytfdffeameoejfaa
