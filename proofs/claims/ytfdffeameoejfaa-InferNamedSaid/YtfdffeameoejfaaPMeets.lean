/- The plain law of SpreadMeets. -/
import Derived.Test.YtfdffeameoejfaaPSpread
namespace Go.Proofs.Ytfdffeameoejfaa
open Go
set_option linter.unusedSimpArgs false
set_option linter.unusedVariables false

theorem maxs_char {c r : N3} {l : List N3} (hc : okN c) (hl : ∀ x ∈ l, okN x) (h1 : r = c ∨ r ∈ l) (h2 : r.of = c.of) (h3 : rank c ≤ rank r) (h4 : ∀ x ∈ l, x.of = c.of → rank x ≤ rank r) : maxs c l = r := by
  have s := maxs_spec l c hc hl
  have okr : okN r := by rcases h1 with h | h; rw [h]; exact hc; exact hl _ h
  have oks : okN (maxs c l) := by rcases s.1 with h | h; rw [h]; exact hc; exact hl _ h
  refine rank_inj oks okr (s.2.1.trans h2.symm) ?_
  have a : rank (maxs c l) ≤ rank r := by
    rcases s.1 with h | h
    · rw [h]; exact h3
    · exact h4 _ h s.2.1
  have b : rank r ≤ rank (maxs c l) := by
    rcases h1 with h | h
    · rw [h]; exact s.2.2.1
    · exact s.2.2.2 _ h h2
  omega

/-- SpreadMeets's law, at one place: x is mine, y the other's. -/
theorem meets_at {self : Int} {X Y : List N3} {n : Nat} (hX : Good X) (hY : Good Y) (hxn : X.length = n) (hyn : Y.length = n) {i : Nat} {x y : N3} (hx : X[i]? = some x) (hy : Y[i]? = some y) :
    maxs x (others self (aboveL Y X)) = (if beats y x = true ∧ keepB self y = true then y else x) := by
  have gx := hX.2 i x hx
  have gy := hY.2 i y hy
  have hup : ∀ z ∈ others self (aboveL Y X), okN z ∧ ∃ j : Nat, Y[j]? = some z ∧ z.of = (j : Int) ∧ keepB self z = true ∧ beats z (X[z.of.toNat]?.getD default) = true := by
    intro z hz
    obtain ⟨h1, h2⟩ := List.mem_filter.1 hz
    obtain ⟨h3, h4⟩ := List.mem_filter.1 h1
    obtain ⟨j, hj⟩ := List.getElem?_of_mem h3
    have gz := hY.2 j z hj
    exact ⟨gz.2, j, hj, gz.1, h2, h4⟩
  have hsame : ∀ z ∈ others self (aboveL Y X), z.of = x.of → z = y ∧ keepB self y = true ∧ beats y x = true := by
    intro z hz ho
    obtain ⟨_, j, hj, hjo, hk, hb⟩ := hup z hz
    have : j = i := by rw [gx.1] at ho; omega
    subst this
    rw [hy] at hj; cases hj
    rw [gy.1] at hb
    simp only [Int.toNat_natCast, hx, Option.getD_some] at hb
    exact ⟨rfl, hk, hb⟩
  by_cases h : beats y x = true ∧ keepB self y = true
  · rw [if_pos h]
    have hb := (beats_iff gx.2).1 h.1
    refine maxs_char gx.2 (fun z hz => (hup z hz).1) (.inr ?_) hb.1 (by omega) (fun z hz ho => ?_)
    · refine List.mem_filter.2 ⟨List.mem_filter.2 ⟨List.mem_of_getElem? hy, ?_⟩, h.2⟩
      rw [gy.1]; simp only [Int.toNat_natCast, hx, Option.getD_some]; exact h.1
    · rw [(hsame z hz ho).1]; exact Int.le_refl _
  · rw [if_neg h]
    refine maxs_char gx.2 (fun z hz => (hup z hz).1) (.inl rfl) rfl (Int.le_refl _) (fun z hz ho => ?_)
    exact absurd ⟨(hsame z hz ho).2.2, (hsame z hz ho).2.1⟩ h

theorem allV_above {X Y : List N3} {n : Nat} (hY : Good Y) (hyn : Y.length = n) (h1 : 1 ≤ n) : allV n (aboveL Y X) = true := by
  unfold allV
  rw [List.all_eq_true]
  intro z hz
  obtain ⟨j, hj⟩ := List.getElem?_of_mem (List.mem_filter.1 hz).1
  have g := hY.2 j z hj
  have hl : j < Y.length := (List.getElem?_eq_some_iff.1 hj).1
  have h100 := hY.1
  simp only [validB, Bool.and_eq_true, decide_eq_true_eq]
  exact ⟨⟨⟨⟨⟨by omega, by omega⟩, by omega⟩, by omega⟩, g.2.1⟩, g.2.2⟩

/-- What is there behind the absorbing, at one place. -/
theorem meets_get {self : Int} {X Y : List N3} {n : Nat} (hX : Good X) (hY : Good Y) (hxn : X.length = n) (hyn : Y.length = n) (h1 : 1 ≤ n) {i : Nat} {x y : N3} (hx : X[i]? = some x) (hy : Y[i]? = some y) :
    (absR self X (aboveL Y X))[i]? = some (if beats y x = true ∧ keepB self y = true then y else x) := by
  rw [absR_map hX (by rw [hxn]; exact allV_above hY hyn h1), List.getElem?_map, hx]
  simp only [Option.map_some]
  rw [meets_at hX hY hxn hyn hx hy]

/-- The greatest of both, at one place. -/
theorem top_get {p1 b1 p2 b2 : Nat} {X Y : List N3} {n : Nat} (hX : Good X) (hY : Good Y) (hxn : X.length = n) (hyn : Y.length = n) {i : Nat} {x y : N3} (hx : X[i]? = some x) (hy : Y[i]? = some y) :
    (levelL [Bok.mk p1 b1 X, Bok.mk p2 b2 Y])[i]? = some (if beats y x = true then y else x) := by
  have gx := hX.2 i x hx
  have hbx : beats x x = false := by simp [beats]
  simp only [levelL, List.getElem?_cons_zero, Option.getD_some, List.getElem?_map, hx, Option.map_some, levelE, List.map_cons, List.map_nil, Bok.at, gx.1, Int.toNat_natCast, hy]
  simp only [maxs, List.foldl_cons, List.foldl_nil, maxN, hbx]
  rfl

/-- SpreadMeets's law. -/
theorem meets_law {self : Int} {p1 b1 p2 b2 : Nat} {X Y : List N3} {n : Nat} (hX : Good X) (hY : Good Y) (hxn : X.length = n) (hyn : Y.length = n) (h1 : 1 ≤ n) {i : Nat} {x y a t : N3} (hx : X[i]? = some x) (hy : Y[i]? = some y)
    (ha : (absR self X (aboveL Y X))[i]? = some a) (ht : (levelL [Bok.mk p1 b1 X, Bok.mk p2 b2 Y])[i]? = some t) : a = t ∨ ((i : Int) = self ∧ a = x ∧ t.kind = 1) := by
  rw [meets_get hX hY hxn hyn h1 hx hy] at ha
  rw [top_get hX hY hxn hyn hx hy] at ht
  cases ha; cases ht
  have gy := hY.2 i y hy
  by_cases hb : beats y x = true
  · by_cases hk : keepB self y = true
    · left; rw [if_pos ⟨hb, hk⟩, if_pos hb]
    · right
      rw [if_neg (fun h => hk h.2), if_pos hb]
      simp [keepB] at hk
      exact ⟨by rw [← gy.1]; exact hk.1, rfl, hk.2⟩
  · left; rw [if_neg (fun h => hb h.1), if_neg hb]

theorem filter_one {p : N3 → Bool} {j0 : Nat} : ∀ (Y : List N3) (k : Nat), (∀ (j : Nat) (z : N3), Y[j]? = some z → p z = true → j + k = j0) → Y.filter p = [] ∨ ∃ z, z ∈ Y ∧ p z = true ∧ Y.filter p = [z]
  | [], _, _ => .inl rfl
  | y :: ys, k, h => by
    by_cases hp : p y = true
    · right
      have h0 := h 0 y rfl hp
      refine ⟨y, by simp, hp, ?_⟩
      rw [List.filter_cons, if_pos hp]
      congr 1
      rw [List.filter_eq_nil_iff]
      intro z hz hpz
      obtain ⟨j, hj⟩ := List.getElem?_of_mem hz
      have := h (j + 1) z (by simpa using hj) hpz
      omega
    · rw [List.filter_cons, if_neg hp]
      rcases filter_one (j0 := j0) ys (k + 1) (fun j z hj hz => by have := h (j + 1) z (by simpa using hj) hz; omega) with h1 | ⟨z, h1, h2, h3⟩
      · exact .inl h1
      · exact .inr ⟨z, by simp [h1], h2, h3⟩

/-- What is above it then. -/
theorem rest_law {self : Int} {X Y : List N3} {n : Nat} (hX : Good X) (hY : Good Y) (hxn : X.length = n) (hyn : Y.length = n) (h1 : 1 ≤ n) (h0 : 0 ≤ self) :
    aboveL Y (absR self X (aboveL Y X)) = [] ∨ ∃ z, aboveL Y (absR self X (aboveL Y X)) = [z] ∧ z.of = self ∧ z.kind = 1 := by
  have key : ∀ (j : Nat) (z : N3), Y[j]? = some z → beats z ((absR self X (aboveL Y X))[z.of.toNat]?.getD default) = true → z.of = self ∧ z.kind = 1 := by
    intro j z hz hb
    have gz := hY.2 j z hz
    have hj : j < X.length := by rw [hxn, ← hyn]; exact (List.getElem?_eq_some_iff.1 hz).1
    have hx := List.getElem?_eq_getElem hj
    rw [gz.1, Int.toNat_natCast, meets_get hX hY hxn hyn h1 hx hz, Option.getD_some] at hb
    by_cases h : beats z X[j] = true ∧ keepB self z = true
    · rw [if_pos h] at hb; simp [beats] at hb
    · rw [if_neg h] at hb
      have hk : ¬ keepB self z = true := fun hk => h ⟨hb, hk⟩
      simp [keepB] at hk
      exact hk
  rcases filter_one (p := fun z => beats z ((absR self X (aboveL Y X))[z.of.toNat]?.getD default)) (j0 := self.toNat) Y 0 (fun j z hz hb => by
    have h2 := key j z hz hb
    have gz := hY.2 j z hz
    rw [gz.1] at h2; omega) with h | ⟨z, hz, hb, h⟩
  · exact .inl h
  · obtain ⟨j, hj⟩ := List.getElem?_of_mem hz
    exact .inr ⟨z, h, key j z hj hb⟩
end Go.Proofs.Ytfdffeameoejfaa
