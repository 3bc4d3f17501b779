/- The plain law of books: what a merge comes to. -/
import Derived.Test.YtfdffeameoejfaaBooks
namespace Go.Proofs.Ytfdffeameoejfaa
set_option linter.unusedVariables false
open Go
set_option linter.unusedSimpArgs false

theorem okN_valid {n : Int} {x : N3} (h : validB n x = true) : okN x := (validB_t h).2
theorem isKindB_t {k : Int} (h : isKindB k = true) : k = 1 ∨ k = 2 := by simpa [isKindB] using h
theorem rank_ok {x : N3} (h : okN x) : rank x = 2 * x.tag + (x.kind - 1) ∧ 0 ≤ x.tag := by
  obtain ⟨h1, h2⟩ := h
  have := isTagB_t h1
  rcases isKindB_t h2 with h3 | h3 <;> simp [rank, h1, h3, this]
theorem rank_inj {x y : N3} (hx : okN x) (hy : okN y) (ho : x.of = y.of) (hr : rank x = rank y) : x = y := by
  have h1 := rank_ok hx
  have h2 := rank_ok hy
  have k1 := isKindB_t hx.2
  have k2 := isKindB_t hy.2
  obtain ⟨xo, xt, xk⟩ := x
  obtain ⟨yo, yt, yk⟩ := y
  simp only at *
  have : xt = yt := by omega
  have : xk = yk := by omega
  subst_vars; rfl
theorem beats_iff {x y : N3} (hy : okN y) : beats x y = true ↔ x.of = y.of ∧ rank y < rank x := by
  have h := rank_ok hy
  have k := isKindB_t hy.2
  simp only [beats, Bool.and_eq_true, decide_eq_true_eq]
  constructor
  · rintro ⟨a, b, c⟩; exact ⟨a, c⟩
  · rintro ⟨a, c⟩; exact ⟨a, by omega, c⟩

theorem maxN_of (c x : N3) : (maxN c x).of = c.of := by
  unfold maxN
  split
  · rename_i h; simp only [beats, Bool.and_eq_true, decide_eq_true_eq] at h; exact h.1
  · rfl
theorem maxN_ok {c x : N3} (hc : okN c) (hx : okN x) : okN (maxN c x) := by unfold maxN; split <;> assumption
theorem maxs_spec (l : List N3) : ∀ (c : N3), okN c → (∀ x ∈ l, okN x) → (maxs c l = c ∨ maxs c l ∈ l) ∧ (maxs c l).of = c.of ∧ rank c ≤ rank (maxs c l) ∧ ∀ x ∈ l, x.of = c.of → rank x ≤ rank (maxs c l) := by
  induction l with
  | nil => intro c _ _; exact ⟨.inl rfl, rfl, Int.le_refl _, by simp⟩
  | cons y l ih =>
    intro c hc hl
    have hy := hl y (by simp)
    have ih' := ih (maxN c y) (maxN_ok hc hy) (fun x hx => hl x (by simp [hx]))
    have e : maxs c (y :: l) = maxs (maxN c y) l := rfl
    rw [e]
    rw [maxN_of] at ih'
    obtain ⟨h1, h2, h3, h4⟩ := ih'
    have hm : rank c ≤ rank (maxN c y) ∧ (y.of = c.of → rank y ≤ rank (maxN c y)) := by
      unfold maxN
      by_cases hb : beats y c = true
      · rw [if_pos hb]; have := (beats_iff hc).1 hb; exact ⟨by omega, fun _ => Int.le_refl _⟩
      · rw [if_neg hb]; exact ⟨Int.le_refl _, fun ho => Int.not_lt.1 fun hlt => hb ((beats_iff hc).2 ⟨ho, hlt⟩)⟩
    refine ⟨?_, h2, by omega, fun x hx ho => ?_⟩
    · rcases h1 with h1 | h1
      · rw [h1]; unfold maxN; split
        · right; simp
        · left; rfl
      · right; simp [h1]
    · rcases List.mem_cons.1 hx with rfl | hx
      · have := hm.2 ho; omega
      · exact h4 x hx ho
/-- It does not matter in which order, nor how often. -/
theorem maxs_eq {c : N3} {l m : List N3} (hc : okN c) (hl : ∀ x ∈ l, okN x) (hm : ∀ x ∈ m, okN x) (h1 : ∀ x ∈ l, x ∈ m) (h2 : ∀ x ∈ m, x ∈ l) : maxs c l = maxs c m := by
  have a := maxs_spec l c hc hl
  have b := maxs_spec m c hc hm
  have oka : okN (maxs c l) := by rcases a.1 with h | h; rw [h]; exact hc; exact hl _ h
  have okb : okN (maxs c m) := by rcases b.1 with h | h; rw [h]; exact hc; exact hm _ h
  refine rank_inj oka okb (a.2.1.trans b.2.1.symm) ?_
  have h3 : rank (maxs c l) ≤ rank (maxs c m) := by
    rcases a.1 with h | h
    · rw [h]; exact b.2.2.1
    · exact b.2.2.2 _ (h1 _ h) a.2.1
  have h4 : rank (maxs c m) ≤ rank (maxs c l) := by
    rcases b.1 with h | h
    · rw [h]; exact a.2.2.1
    · exact a.2.2.2 _ (h2 _ h) b.2.1
  omega

theorem good_new {n : Nat} {self tag : Int} (hn : n ≤ 100) (h0 : 0 ≤ self) (h1 : self < n) (ht : isTagB tag = true) : Good (newL n self tag) := by
  refine ⟨by rw [newL_len]; exact hn, fun i x hx => ?_⟩
  unfold newL at hx
  rw [List.getElem?_set] at hx
  split at hx
  · rename_i h
    have hl : self.toNat < (freshL n).length := by simp [freshL]; omega
    rw [if_pos (by omega)] at hx
    cases hx
    exact ⟨by simp only; omega, ht, rfl⟩
  · unfold freshL at hx
    rw [List.getElem?_map] at hx
    by_cases hi : i < n
    · rw [List.getElem?_range hi] at hx; cases hx; exact ⟨rfl, rfl, rfl⟩
    · rw [List.getElem?_eq_none (by simp; omega)] at hx; cases hx

theorem take1_map {xs : List N3} (hg : Good xs) {x : N3} (hv : validB xs.length x = true) : take1 xs x = xs.map (fun c => maxN c x) := by
  have hvt := (validB_t hv).1
  apply List.ext_getElem?
  intro i
  rw [List.getElem?_map]
  by_cases hi : i < xs.length
  · have hxi := List.getElem?_eq_getElem hi
    have hgi := hg.2 i _ hxi
    unfold take1 takes
    rw [hv, Bool.true_and]
    by_cases hof : x.of.toNat = i
    · rw [hof, hxi]
      simp only [Option.getD_some, Option.map_some]
      unfold maxN
      by_cases hb : beats x xs[i] = true
      · rw [if_pos hb, if_pos hb, List.getElem?_set]; simp [hi]
      · rw [if_neg hb, if_neg hb]; exact hxi
    · have hne : beats x xs[i] = false := by
        have : ¬ x.of = (xs[i]).of := by rw [hgi.1]; omega
        simp [beats, this]
      rw [hxi]
      simp only [Option.map_some]
      unfold maxN
      rw [hne]
      split
      · rw [List.getElem?_set_ne hof]; exact hxi
      · exact hxi
  · rw [List.getElem?_eq_none (by rw [take1_len]; omega), List.getElem?_eq_none (by omega)]; rfl

theorem good_map {xs : List N3} (hg : Good xs) {l : List N3} (hl : ∀ x ∈ l, okN x) : Good (xs.map (fun c => maxs c l)) := by
  refine ⟨by rw [List.length_map]; exact hg.1, fun i x hx => ?_⟩
  rw [List.getElem?_map] at hx
  cases hxi : xs[i]? with
  | none => rw [hxi] at hx; cases hx
  | some c =>
    rw [hxi] at hx; cases hx
    have := hg.2 i c hxi
    have hs := maxs_spec l c this.2 hl
    refine ⟨by rw [hs.2.1]; exact this.1, ?_⟩
    show okN (maxs c l)
    rcases hs.1 with h | h
    · rw [h]; exact this.2
    · exact hl _ h

theorem mfold_map {l : List N3} : ∀ {xs : List N3} {s : S4}, Good xs → (∀ x ∈ l, validB xs.length x = true) → (l.foldl mstep (xs, s)).1 = xs.map (fun c => maxs c l) := by
  induction l with
  | nil => intro xs s _ _; simp [maxs]
  | cons y l ih =>
    intro xs s hg hv
    have hy := hv y (by simp)
    simp only [List.foldl_cons, mstep]
    have e := take1_map hg hy
    have hg' : Good (take1 xs y) := by
      rw [e]
      have := good_map hg (l := [y]) (fun x hx => by simp at hx; subst hx; exact okN_valid hy)
      exact this
    rw [ih hg' (fun x hx => by rw [take1_len]; exact hv x (by simp [hx])), e, List.map_map]
    rfl

theorem mergeR_map {xs l : List N3} (hg : Good xs) (ha : allV xs.length l = true) : mergeR xs l = xs.map (fun c => maxs c l) := by
  unfold mergeR mfold
  rw [if_pos ha]
  exact mfold_map hg (fun x hx => by unfold allV at ha; rw [List.all_eq_true] at ha; exact ha x hx)
theorem allV_ok {n : Nat} {l : List N3} (ha : allV n l = true) : ∀ x ∈ l, okN x := fun x hx => by
  unfold allV at ha; rw [List.all_eq_true] at ha; exact okN_valid (ha x hx)
theorem mergeR_good {xs l : List N3} (hg : Good xs) : Good (mergeR xs l) := by
  by_cases ha : allV xs.length l = true
  · rw [mergeR_map hg ha]; exact good_map hg (allV_ok ha)
  · unfold mergeR; rw [if_neg ha]; exact hg
theorem absR_map {self : Int} {xs l : List N3} (hg : Good xs) (ha : allV xs.length l = true) : absR self xs l = xs.map (fun c => maxs c (others self l)) := by
  unfold absR; rw [if_pos ha]; exact mergeR_map hg (allV_others ha)
theorem absR_bad {self : Int} {xs l : List N3} (ha : allV xs.length l = false) : absR self xs l = xs := by unfold absR; rw [ha]; rfl
theorem absR_good {self : Int} {xs l : List N3} (hg : Good xs) : Good (absR self xs l) := by
  by_cases ha : allV xs.length l = true
  · rw [absR_map hg ha]; exact good_map hg (allV_ok (allV_others ha))
  · rw [absR_bad (by simpa using ha)]; exact hg
theorem mergeR_nil (xs : List N3) : mergeR xs [] = xs := by simp [mergeR, mfold, allV]

/-- What has been absorbed: all that is right. -/
def took (n : Nat) (self : Int) (l : List N3) : List N3 := if allV n l then others self l else []
theorem took_ok {n : Nat} {self : Int} {l : List N3} : ∀ x ∈ took n self l, okN x := by
  unfold took; split
  · rename_i h; exact allV_ok (allV_others h)
  · simp
theorem absR_took {self : Int} {xs l : List N3} (hg : Good xs) : absR self xs l = xs.map (fun c => maxs c (took xs.length self l)) := by
  unfold took
  by_cases ha : allV xs.length l = true
  · rw [if_pos ha]; exact absR_map hg ha
  · rw [if_neg ha, absR_bad (by simpa using ha)]; simp [maxs]
theorem maxs_append (c : N3) (l m : List N3) : maxs c (l ++ m) = maxs (maxs c l) m := by simp [maxs]
theorem absR_absR {self : Int} {xs l m : List N3} (hg : Good xs) : absR self (absR self xs l) m = xs.map (fun c => maxs c (took xs.length self l ++ took xs.length self m)) := by
  rw [absR_took (absR_good hg), absR_len, absR_took hg, List.map_map]
  simp only [Function.comp_def, maxs_append]

/-- SpreadOrder's law. -/
theorem order_law {self : Int} {xs l m : List N3} (hg : Good xs) :
    absR self (absR self xs l) m = absR self (absR self xs m) l ∧ absR self (absR self xs l) m = absR self (absR self (absR self (absR self xs l) m) l) m := by
  have hlo := fun (x : N3) => took_ok (n := xs.length) (self := self) (l := l) x
  have hmo := fun (x : N3) => took_ok (n := xs.length) (self := self) (l := m) x
  constructor
  · rw [absR_absR hg, absR_absR hg]
    apply List.map_congr_left
    intro c hc
    obtain ⟨i, hi⟩ := List.getElem?_of_mem hc
    refine maxs_eq (hg.2 i c hi).2 ?_ ?_ ?_ ?_ <;> · intro x hx; simp only [List.mem_append] at *; first | (rcases hx with h | h; exact hlo x h; exact hmo x h) | (rcases hx with h | h; exact hmo x h; exact hlo x h) | exact hx.symm
  · have hg2 : Good (absR self (absR self xs l) m) := absR_good (absR_good hg)
    rw [absR_absR hg2, absR_len, absR_len, absR_absR hg, List.map_map]
    apply List.map_congr_left
    intro c hc
    obtain ⟨i, hi⟩ := List.getElem?_of_mem hc
    simp only [Function.comp_def, ← maxs_append]
    refine maxs_eq (hg.2 i c hi).2 ?_ ?_ ?_ ?_ <;> · intro x hx; simp only [List.mem_append] at *; first | (rcases hx with h | h; exact hlo x h; exact hmo x h) | (rcases hx with (h | h) | (h | h); exact hlo x h; exact hmo x h; exact hlo x h; exact hmo x h) | exact .inl hx | (rcases hx with h | h <;> exact h)

/-- SpreadOwn's law. -/
theorem own_law {self : Int} {xs l : List N3} (hg : Good xs) {was now : N3} (h0 : 0 ≤ self) (hw : xs[self.toNat]? = some was) (hn : (absR self xs l)[self.toNat]? = some now) :
    (now = was ∨ now.kind = 2) ∧ (absE xs l = 0 → ∀ x ∈ l, x.of = self → x.kind = 2 → beats x now = false) ∧ (absE xs l = 0 ∨ now = was) := by
  have hwo := hg.2 _ _ hw
  have hself : was.of = self := by rw [hwo.1]; omega
  rw [absR_took hg, List.getElem?_map, hw] at hn
  cases hn
  have hs := maxs_spec (took xs.length self l) was hwo.2 took_ok
  by_cases ha : allV xs.length l = true
  · have ht : took xs.length self l = others self l := by unfold took; rw [if_pos ha]
    rw [ht] at hs ⊢
    refine ⟨?_, fun _ x hx hxo hxk => ?_, .inl (by unfold absE; rw [if_pos ha])⟩
    · rcases hs.1 with h | h
      · exact .inl h
      · right
        have hk : keepB self (maxs was (others self l)) = true := (List.mem_filter.1 h).2
        have hok := allV_ok (allV_others ha) _ h
        have hof : (maxs was (others self l)).of = self := hs.2.1.trans hself
        simp [keepB, hof] at hk
        rcases isKindB_t hok.2 with h1 | h1
        · exact absurd h1 hk
        · exact h1
    · have hmem : x ∈ others self l := List.mem_filter.2 ⟨hx, by simp [keepB, hxk]⟩
      have hr := hs.2.2.2 x hmem (hxo.trans hself.symm)
      have hnok : okN (maxs was (others self l)) := by
        rcases hs.1 with h | h
        · rw [h]; exact hwo.2
        · exact allV_ok (allV_others ha) _ h
      rw [Bool.eq_false_iff]
      intro hb
      have := (beats_iff hnok).1 hb
      omega
  · have ht : took xs.length self l = [] := by unfold took; rw [if_neg ha]
    rw [ht]
    refine ⟨.inl rfl, fun he => ?_, .inr rfl⟩
    unfold absE at he; rw [if_neg ha] at he; cases he

theorem alive_e : absE (newL (3 : Int).toNat 0 0) [N3.mk 2 1 1] = 0 := by kernel_rfl
theorem alive_s : absS 0 (newL (3 : Int).toNat 0 0) [N3.mk 2 1 1] = S4.mk 4 0 0 0 := by kernel_rfl
theorem alive_n : newsOf (absR 0 (newL (3 : Int).toNat 0 0) [N3.mk 2 1 1]) = [N3.mk 2 1 1] := by kernel_rfl
theorem alive_b : (newL (3 : Int).toNat 0 0).length = 3 := by kernel_rfl
end Go.Proofs.Ytfdffeameoejfaa
