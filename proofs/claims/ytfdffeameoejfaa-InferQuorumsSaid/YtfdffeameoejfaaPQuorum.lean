/- The plain law of InferQuorums. -/
import Derived.Test.YtfdffeameoejfaaPSets
import Derived.Test.YtfdffeameoejfaaInfer
namespace Go.Proofs.Ytfdffeameoejfaa
open Go
set_option linter.unusedSimpArgs false
set_option linter.unusedVariables false

def cb (q : Nat → Bool) (n : Nat) : Nat := ((List.range n).filter q).length
theorem cb_succ (q : Nat → Bool) (n : Nat) : cb q (n + 1) = cb q n + if q n then 1 else 0 := by
  unfold cb; rw [List.range_succ, List.filter_append, List.length_append]
  by_cases h : q n = true <;> simp [h]
theorem cb_le (q : Nat → Bool) (n : Nat) : cb q n ≤ n := by
  induction n with
  | zero => simp [cb]
  | succ n ih => rw [cb_succ]; split <;> omega
theorem cb_congr {p q : Nat → Bool} {n : Nat} (h : ∀ i, i < n → p i = q i) : cb p n = cb q n := by
  induction n with
  | zero => rfl
  | succ n ih => rw [cb_succ, cb_succ, ih (fun i hi => h i (by omega)), h n (by omega)]
theorem cb_and (a b : Nat → Bool) (n : Nat) : cb a n + cb b n ≤ n + cb (fun i => a i && b i) n := by
  induction n with
  | zero => simp [cb]
  | succ n ih => simp only [cb_succ]; cases a n <;> cases b n <;> simp <;> omega
theorem cb_pos {a : Nat → Bool} {n : Nat} (h : 0 < cb a n) : ∃ i, i < n ∧ a i = true := by
  induction n with
  | zero => simp [cb] at h
  | succ n ih =>
    rw [cb_succ] at h
    by_cases hn : a n = true
    · exact ⟨n, by omega, hn⟩
    · rw [if_neg hn] at h
      obtain ⟨i, hi, ha⟩ := ih (by omega)
      exact ⟨i, by omega, ha⟩
theorem cb_all {a : Nat → Bool} {n : Nat} (h : ∀ i, i < n → a i = true) : cb a n = n := by
  induction n with
  | zero => rfl
  | succ n ih => rw [cb_succ, ih (fun i hi => h i (by omega)), if_pos (h n (by omega))]
theorem cb_add {a b : Nat → Bool} {n j : Nat} (hj : j < n) (ha : a j = false) (hb : ∀ i, i < n → b i = (a i || decide (i = j))) : cb b n = cb a n + 1 := by
  induction n with
  | zero => omega
  | succ n ih =>
    rw [cb_succ, cb_succ]
    by_cases h : j = n
    · subst h
      have e : cb b j = cb a j := cb_congr fun i hi => by rw [hb i (by omega), decide_eq_false (by omega), Bool.or_false]
      rw [e, hb j (by omega), ha]; simp
    · rw [ih (by omega) (fun i hi => hb i (by omega)), hb n (by omega), decide_eq_false (show ¬ n = j by omega), Bool.or_false]; omega

theorem cntH_cb {l : List S4} {i : Int} : cntH l i = cb (fun j => hasB (l[j]?.getD default) i) l.length := by
  unfold cntH cb
  have e : l = (List.range l.length).map (fun j => l[j]?.getD default) := by
    apply List.ext_getElem?
    intro j
    by_cases h : j < l.length
    · rw [List.getElem?_map, List.getElem?_range h, List.getElem?_eq_getElem h]
      simp only [Option.map_some]
      rw [List.getElem?_eq_getElem h]; rfl
    · rw [List.getElem?_eq_none (by omega), List.getElem?_eq_none (by simp; omega)]
  conv => lhs; rw [e]
  rw [List.filter_map, List.length_map]; rfl

theorem fold_keep (l : List S4) {k : Nat} (hk : k < 100) : ∀ a : S4, a.bit k = true → (l.foldl unionS a).bit k = true := by
  induction l with
  | nil => intro a h; exact h
  | cons x l ih => intro a h; exact ih _ (by rw [bit_union _ _ (by omega), h, decide_eq_true hk]; rfl)
theorem fold_mem {l : List S4} {k : Nat} (hk : k < 100) {s : S4} (hs : s ∈ l) (hb : s.bit k = true) : ∀ a : S4, (l.foldl unionS a).bit k = true := by
  induction l with
  | nil => cases hs
  | cons x l ih =>
    intro a
    rcases List.mem_cons.1 hs with rfl | h
    · exact fold_keep l hk _ (by rw [bit_union _ _ (by omega), hb, decide_eq_true hk]; simp)
    · exact ih h _

theorem coverF_bit (f : Int) (l : List S4) {k : Nat} (hk : k ≤ 100) : (coverF f l k).wf ∧ ∀ j, j < 128 → (coverF f l k).bit j = (decide (j < k) && decide (f < (cntH l (j : Int) : Int))) := by
  induction k with
  | zero => exact ⟨wf_zero, fun j _ => by rw [show coverF f l 0 = S4.mk 0 0 0 0 from rfl, bit_zero]; rfl⟩
  | succ k ih =>
    obtain ⟨h1, h2⟩ := ih (by omega)
    rw [coverF_succ]
    split
    · rename_i hf
      refine ⟨wf_with _ _, fun j hj => ?_⟩
      rw [bit_with _ (by omega) hj, h2 j hj]
      by_cases e : j = k
      · subst e; simp [hf]
      · by_cases hlt : j < k
        · simp [hlt, e, show j < 100 by omega, show j < k + 1 by omega]
        · simp [hlt, e, show ¬ j < k + 1 by omega]
    · rename_i hf
      refine ⟨h1, fun j hj => ?_⟩
      rw [h2 j hj]
      by_cases e : j = k
      · subst e; simp [hf]
      · by_cases hlt : j < k
        · simp [hlt, show j < k + 1 by omega]
        · simp [hlt, show ¬ j < k + 1 by omega]

/-- A round's replies. -/
structure QInv (n : Nat) (need : Int) (heard : List S4) (rep : S4) (hs : List S4) : Prop where
  wf : rep.wf
  lo : ∀ k, k < 128 → rep.bit k = true → k < n
  len : hs.length = cb (fun i => rep.bit i) n
  le : (hs.length : Int) ≤ need
  mem : ∀ i, i < n → rep.bit i = true → (heard[i]?.getD default) ∈ hs

theorem allW_at {n : Int} {l : List S4} (h : allW n l = true) {i : Nat} {s : S4} (hi : l[i]? = some s) : withinB s n = true := by
  unfold allW at h; rw [List.all_eq_true] at h; exact h s (List.mem_of_getElem? hi)

/-- The first reply. -/
theorem q_first {n : Nat} {need : Int} {heard : List S4} {self : Nat} {s : S4} (hn : n ≤ 100) (hself : self < n) (h1 : 1 ≤ need) (hs : heard[self]? = some s) : QInv n need heard (withS (S4.mk 0 0 0 0) self) ([] ++ [s]) := by
  have hb : ∀ k, k < 128 → (withS (S4.mk 0 0 0 0) self).bit k = decide (k = self) := fun k hk => by rw [bit_with _ (by omega) hk, bit_zero]; rfl
  refine ⟨wf_with _ _, fun k hk h => ?_, ?_, by simp; omega, fun i hi h => ?_⟩
  · rw [hb k hk] at h; have := of_decide_eq_true h; omega
  · have := cb_add (a := fun _ => false) (b := fun i => (withS (S4.mk 0 0 0 0) self).bit i) hself rfl (fun i hi => by rw [hb i (by omega)]; rfl)
    rw [this]
    have e : cb (fun _ => false) n = 0 := by unfold cb; simp
    rw [e]; rfl
  · rw [hb i (by omega)] at h
    have := of_decide_eq_true h
    subst this
    rw [hs]; simp

/-- One reply more. -/
theorem q_step {n : Nat} {need : Int} {heard : List S4} {rep : S4} {hs : List S4} (hn : n ≤ 100) (h1 : 1 ≤ need) (ha : allW (n : Int) heard = true) {i : Nat} (hi : i < n) {s : S4} (hsi : heard[i]? = some s) (q : QInv n need heard rep hs) {k : Bool}
    (hk : ctd (n : Int) need 1 rep hs.length (i : Int) 1 s = k) :
    QInv n need heard (if k then withS rep (i : Int).toNat else rep) (if k then hs ++ [s] else hs) ∧
    ((if k then withS rep (i : Int).toNat else rep).bit i = true ∨ (((if k then hs ++ [s] else hs).length : Nat) : Int) = need) ∧
    (∀ j, j < n → rep.bit j = true ∨ (hs.length : Int) = need → (if k then withS rep (i : Int).toNat else rep).bit j = true ∨ (((if k then hs ++ [s] else hs).length : Nat) : Int) = need) := by
  have hw := allW_at ha hsi
  have hhas : hasB rep (i : Int) = rep.bit i := by
    unfold hasB isIdB
    rw [Int.toNat_natCast, has_bit q.wf]
    simp; omega
  have hc : ctd (n : Int) need 1 rep hs.length (i : Int) 1 s = (!rep.bit i && !readyB need hs.length) := by
    unfold ctd
    rw [hw, hhas, decide_eq_false (show ¬ (i : Int) < 0 by omega), decide_eq_false (show ¬ (n : Int) ≤ i by omega)]
    simp
  rw [hc] at hk
  cases k with
  | true =>
    rw [Bool.and_eq_true, Bool.not_eq_true', Bool.not_eq_true'] at hk
    obtain ⟨hb, hr⟩ := hk
    have hlt : (hs.length : Int) < need := by
      have h2 := q.le
      have h3 : ¬ (hs.length : Int) = need := by
        intro e
        simp only [readyB, Bool.and_eq_false_iff, decide_eq_false_iff_not] at hr
        omega
      omega
    simp only [if_true, Int.toNat_natCast]
    have hbit : ∀ j, j < 128 → (withS rep i).bit j = ((rep.bit j && decide (j < 100)) || decide (j = i)) := fun j hj => bit_with _ (by omega) hj
    refine ⟨⟨wf_with _ _, fun j hj h => ?_, ?_, by rw [List.length_append]; simp; omega, fun j hj h => ?_⟩, .inl (by rw [hbit i (by omega)]; simp), fun j hj h => ?_⟩
    · rw [hbit j hj] at h
      by_cases e : j = i
      · omega
      · simp [e] at h; exact q.lo j hj h.1
    · rw [List.length_append, q.len]
      exact (cb_add hi hb (fun j hj => by rw [hbit j (by omega), decide_eq_true (show j < 100 by omega), Bool.and_true])).symm
    · rw [hbit j (by omega)] at h
      by_cases e : j = i
      · subst e; rw [hsi]; simp
      · simp [e] at h
        exact List.mem_append_left _ (q.mem j hj h.1)
    · left
      rcases h with h | h
      · rw [hbit j (by omega), h, decide_eq_true (show j < 100 by omega)]; rfl
      · omega
  | false =>
    simp only [Bool.false_eq_true, if_false]
    refine ⟨q, ?_, fun j hj h => h⟩
    rw [Bool.and_eq_false_iff, Bool.not_eq_false', Bool.not_eq_false'] at hk
    rcases hk with h | h
    · exact .inl h
    · right
      simp only [readyB, Bool.and_eq_true, decide_eq_true_eq] at h
      exact h.2

/-- InferQuorums's law. -/
theorem quorum_law {n : Nat} {f : Int} {heard : List S4} {rep : S4} {hs : List S4} (hn1 : 1 ≤ n) (hn : n ≤ 100) (hf0 : 0 ≤ f) (hf : f < n) (hl : heard.length = n) (ha : allW (n : Int) heard = true) (q : QInv n ((n : Int) - f) heard rep hs)
    (hd : ∀ j, j < n → rep.bit j = true ∨ (hs.length : Int) = (n : Int) - f) :
    readyB ((n : Int) - f) hs.length = true ∧ cleanS (meetS (lessS (upToS (n : Int)) (unionS rep (unionL hs))) (coverS (n : Int) f heard)) = S4.mk 0 0 0 0 ∧ lessS (coverS (n : Int) f heard) (unionS rep (unionL hs)) = S4.mk 0 0 0 0 := by
  have hready : (hs.length : Int) = (n : Int) - f := by
    by_cases h : (hs.length : Int) = (n : Int) - f
    · exact h
    · have hall : cb (fun i => rep.bit i) n = n := cb_all fun i hi => (hd i hi).resolve_right h
      have h2 := q.len
      have h3 := q.le
      omega
  have hc : coverS (n : Int) f heard = coverF f heard n := by unfold coverS; rw [ha]; simp
  have hcb := coverF_bit f heard hn
  have hwf : ∀ i : Nat, (heard[i]?.getD (default : S4)).wf := by
    intro i
    cases h : heard[i]? with
    | none => exact wf_zero
    | some s => exact (within_iff (allW_at ha h)).1
  have key : ∀ k, k < 128 → (coverF f heard n).bit k = true → (unionS rep (unionL hs)).bit k = true := by
    intro k hk hb
    rw [hcb.2 k hk, Bool.and_eq_true, decide_eq_true_eq, decide_eq_true_eq] at hb
    have hcnt := cntH_cb (l := heard) (i := (k : Int))
    rw [hl] at hcnt
    have hand := cb_and (fun j => hasB (heard[j]?.getD default) (k : Int)) (fun i => rep.bit i) n
    rw [← hcnt, ← q.len] at hand
    have hpos : 0 < cb (fun i => hasB (heard[i]?.getD default) (k : Int) && rep.bit i) n := by omega
    obtain ⟨i, hi, hab⟩ := cb_pos hpos
    rw [Bool.and_eq_true] at hab
    have hm := q.mem i hi hab.2
    have hbi : (heard[i]?.getD default).bit k = true := by
      have h1 := hab.1
      unfold hasB at h1
      rw [Bool.and_eq_true, Int.toNat_natCast, has_bit (hwf i)] at h1
      exact h1.2
    have hu := fold_mem (by omega : k < 100) hm hbi (S4.mk 0 0 0 0)
    rw [bit_union _ _ hk, show (unionL hs) = hs.foldl unionS (S4.mk 0 0 0 0) from rfl, hu, decide_eq_true (by omega : k < 100)]
    simp
  have hz : ∀ k, k < 128 → (S4.mk 0 0 0 0).bit k = false := fun k _ => bit_zero k
  refine ⟨by simp [readyB, hready]; omega, ?_, ?_⟩
  · refine bit_ext (wf_clean _) wf_zero fun k hk => ?_
    rw [hz k hk, bit_clean _ hk, bit_meet _ _ hk, bit_less _ _ hk, hc]
    by_cases h : (coverF f heard n).bit k = true
    · rw [key k hk h]; simp
    · rw [Bool.eq_false_iff.2 h]; simp
  · refine bit_ext (wf_clean _) wf_zero fun k hk => ?_
    rw [hz k hk, bit_less _ _ hk, hc]
    by_cases h : (coverF f heard n).bit k = true
    · rw [key k hk h]; simp
    · rw [Bool.eq_false_iff.2 h]; simp
/-! in whole numbers -/
theorem q_firstI {n need self : Int} {heard : List S4} {s : S4} (hn : n ≤ 100) (h0 : 0 ≤ self) (hself : self < n) (h1 : 1 ≤ need) (hs : heard[self.toNat]? = some s) : QInv n.toNat need heard (withS (S4.mk 0 0 0 0) (Int.toNat self)) (([] : List S4) ++ [s]) :=
  q_first (by omega) (by omega) h1 hs
theorem q_stepI {n need i : Int} {heard : List S4} {rep : S4} {hs : List S4} {s : S4} (hn : n ≤ 100) (h1 : 1 ≤ need) (ha : allW n heard = true) (h0 : 0 ≤ i) (hi : i < n) (hsi : heard[i.toNat]? = some s) (q : QInv n.toNat need heard rep hs) :
    QInv n.toNat need heard (if ctd n need 1 rep hs.length i 1 s then withS rep (Int.toNat i) else rep) (if ctd n need 1 rep hs.length i 1 s then hs ++ [s] else hs) ∧
    ∀ j, j < n.toNat → (rep.bit j = true ∨ (hs.length : Int) = need) ∨ j = i.toNat →
      (if ctd n need 1 rep hs.length i 1 s then withS rep (Int.toNat i) else rep).bit j = true ∨ (((if ctd n need 1 rep hs.length i 1 s then hs ++ [s] else hs).length : Nat) : Int) = need := by
  obtain ⟨n', rfl⟩ := Int.eq_ofNat_of_zero_le (by omega : 0 ≤ n)
  obtain ⟨i', rfl⟩ := Int.eq_ofNat_of_zero_le h0
  rw [Int.toNat_natCast] at q ⊢
  rw [Int.toNat_natCast] at hsi
  have := q_step (by omega) h1 ha (by omega : i' < n') hsi q rfl
  refine ⟨this.1, fun j hj h => ?_⟩
  rcases h with h | h
  · exact this.2.2 j hj h
  · rw [Int.toNat_natCast] at h; subst h; exact this.2.1
theorem quorum_lawI {n f : Int} {heard : List S4} {rep : S4} {hs : List S4} (hn1 : 1 ≤ n) (hn : n ≤ 100) (hf0 : 0 ≤ f) (hf : f < n) (hl : (heard.length : Int) = n) (ha : allW n heard = true) (q : QInv n.toNat (n - f) heard rep hs)
    (hd : ∀ j, j < n.toNat → rep.bit j = true ∨ (hs.length : Int) = n - f) :
    readyB (n - f) hs.length = true ∧ cleanS (meetS (lessS (upToS n) (unionS rep (unionL hs))) (coverS n f heard)) = S4.mk 0 0 0 0 ∧ lessS (coverS n f heard) (unionS rep (unionL hs)) = S4.mk 0 0 0 0 := by
  obtain ⟨n', rfl⟩ := Int.eq_ofNat_of_zero_le (by omega : 0 ≤ n)
  rw [Int.toNat_natCast] at q hd
  exact quorum_law (by omega) (by omega) hf0 hf (by omega) ha q hd
end Go.Proofs.Ytfdffeameoejfaa
