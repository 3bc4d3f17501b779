/- The plain law of SpreadGossip: books that absorb one another's news, round about, come to one. -/
import Derived.Test.YtfdffeameoejfaaPMeets
namespace Go.Proofs.Ytfdffeameoejfaa
open Go
set_option linter.unusedSimpArgs false
set_option linter.unusedVariables false

def rk (X : List N3) (j : Nat) : Int := rank (X[j]?.getD default)
theorem rk_of {X : List N3} {j : Nat} {x : N3} (h : X[j]? = some x) : rk X j = rank x := by unfold rk; rw [h]; rfl

/-- A book of n nodes that says nothing of the nodes below k. -/
def GB (n k : Nat) (X : List N3) : Prop := Good X ∧ X.length = n ∧ ∀ (j : Nat), j < k → X[j]? = some (fresh (j : Int))

theorem rank_fresh (i : Int) : rank (fresh i) = 0 := by simp [rank, fresh, isTagB]
theorem okN_fresh (i : Int) : okN (fresh i) := ⟨rfl, rfl⟩

theorem allV_news {Y : List N3} {n : Nat} (hY : Good Y) (hyn : Y.length = n) (h1 : 1 ≤ n) : allV n (newsOf Y) = true := by
  unfold allV
  rw [List.all_eq_true]
  intro z hz
  obtain ⟨j, hj⟩ := List.getElem?_of_mem (List.mem_filter.1 hz).1
  have g := hY.2 j z hj
  have hl : j < Y.length := (List.getElem?_eq_some_iff.1 hj).1
  have h100 := hY.1
  simp only [validB, Bool.and_eq_true, decide_eq_true_eq]
  exact ⟨⟨⟨⟨⟨by omega, by omega⟩, by omega⟩, by omega⟩, g.2.1⟩, g.2.2⟩

theorem rank_nonneg {x : N3} (h : okN x) : 0 ≤ rank x := by
  have h1 := rank_ok h
  have := isKindB_t h.2
  omega

/-- What one place becomes. -/
theorem gossip_get {self n k : Nat} {X Y : List N3} (hX : GB n k X) (hY : GB n k Y) (hs : self < k) (h1 : 1 ≤ n) {i : Nat} {x y : N3} (hx : X[i]? = some x) (hy : Y[i]? = some y) :
    (absR (self : Int) X (newsOf Y))[i]? = some (maxN x y) := by
  have gx := hX.1.2 i x hx
  have gy := hY.1.2 i y hy
  rw [absR_map hX.1 (by rw [hX.2.1]; exact allV_news hY.1 hY.2.1 h1), List.getElem?_map, hx]
  simp only [Option.map_some]
  congr 1
  have hup : ∀ z ∈ others (self : Int) (newsOf Y), okN z ∧ ∃ j : Nat, Y[j]? = some z ∧ z.of = (j : Int) := by
    intro z hz
    obtain ⟨h2, h3⟩ := List.mem_filter.1 (List.mem_filter.1 hz).1
    obtain ⟨j, hj⟩ := List.getElem?_of_mem h2
    have gz := hY.1.2 j z hj
    exact ⟨gz.2, j, hj, gz.1⟩
  have hsame : ∀ z ∈ others (self : Int) (newsOf Y), z.of = x.of → z = y := by
    intro z hz ho
    obtain ⟨_, j, hj, hjo⟩ := hup z hz
    have : j = i := by rw [gx.1] at ho; omega
    subst this
    rw [hy] at hj; cases hj; rfl
  unfold maxN
  by_cases hb : beats y x = true
  · rw [if_pos hb]
    have hb' := (beats_iff gx.2).1 hb
    have hrx := rank_nonneg gx.2
    have hnf : ¬ y = fresh y.of := by
      intro e
      have := rank_fresh y.of
      rw [← e] at this; omega
    have hik : k ≤ i := by
      rcases Nat.lt_or_ge i k with h | h
      · have := hY.2.2 i h
        rw [hy] at this
        exact absurd (by rw [Option.some.inj this]; rfl) hnf
      · exact h
    refine maxs_char gx.2 (fun z hz => (hup z hz).1) (.inr ?_) hb'.1 (by omega) (fun z hz ho => ?_)
    · refine List.mem_filter.2 ⟨List.mem_filter.2 ⟨List.mem_of_getElem? hy, by simp [hnf]⟩, ?_⟩
      simp only [keepB, Bool.or_eq_true, Bool.not_eq_true', decide_eq_false_iff_not]
      left; omega
    · rw [hsame z hz ho]; exact Int.le_refl _
  · rw [if_neg hb]
    refine maxs_char gx.2 (fun z hz => (hup z hz).1) (.inl rfl) rfl (Int.le_refl _) (fun z hz ho => ?_)
    have e := hsame z hz ho
    subst e
    exact Int.not_lt.1 fun hlt => hb ((beats_iff gx.2).2 ⟨ho, hlt⟩)

theorem rank_maxN {x y : N3} (hx : okN x) (h : x.of = y.of) : rank x ≤ rank (maxN x y) ∧ rank y ≤ rank (maxN x y) ∧ (maxN x y = x ∨ maxN x y = y) := by
  unfold maxN
  by_cases hb : beats y x = true
  · rw [if_pos hb]; have := (beats_iff hx).1 hb; exact ⟨by omega, Int.le_refl _, .inr rfl⟩
  · rw [if_neg hb]; exact ⟨Int.le_refl _, Int.not_lt.1 fun hlt => hb ((beats_iff hx).2 ⟨h.symm, hlt⟩), .inl rfl⟩

theorem gb_get {n k : Nat} {X : List N3} (hX : GB n k X) {i : Nat} (hi : i < n) : ∃ x, X[i]? = some x ∧ x.of = (i : Int) ∧ okN x := by
  have h : X[i]? = some (X[i]'(by rw [hX.2.1]; exact hi)) := List.getElem?_eq_getElem _
  have := hX.1.2 _ _ h
  exact ⟨_, h, this.1, this.2⟩

theorem gossip_gb {self n k : Nat} {X Y : List N3} (hX : GB n k X) (hY : GB n k Y) (hs : self < k) (h1 : 1 ≤ n) (hkn : k ≤ n) : GB n k (absR (self : Int) X (newsOf Y)) := by
  refine ⟨absR_good hX.1, by rw [absR_len]; exact hX.2.1, fun j hj => ?_⟩
  rw [gossip_get hX hY hs h1 (hX.2.2 j hj) (hY.2.2 j hj)]
  simp [maxN, beats]

/-- Of which what is told. -/
def GInv (n k : Nat) (S0 S : List (List N3)) (t : Nat) : Prop :=
  S.length = k ∧ (∀ (i : Nat) (X : List N3), S[i]? = some X → GB n k X) ∧
  (∀ (i : Nat) (X X0 : List N3), S[i]? = some X → S0[i]? = some X0 → ∀ j, j < n → rk X0 j ≤ rk X j) ∧
  (∀ (i : Nat) (X : List N3), S[i]? = some X → ∀ j, j < n → ∃ (i' : Nat) (X' : List N3), S0[i']? = some X' ∧ X[j]? = X'[j]?) ∧
  ∀ t', t' ≤ t → ∀ s, s ≤ t' → ∀ (X X0 : List N3), S[t' % k]? = some X → S0[s % k]? = some X0 → ∀ j, j < n → rk X0 j ≤ rk X j

theorem ginv_zero {n k : Nat} {S0 : List (List N3)} (hl : S0.length = k) (h : ∀ (i : Nat) (X : List N3), S0[i]? = some X → GB n k X) : GInv n k S0 S0 0 := by
  refine ⟨hl, h, ?_, ?_, ?_⟩
  · intro i X X0 h1 h2 j _; rw [h1] at h2; cases h2; exact Int.le_refl _
  · intro i X h1 j _; exact ⟨i, X, h1, rfl⟩
  · intro t' ht s hs X X0 h1 h2 j _
    obtain rfl : t' = 0 := by omega
    obtain rfl : s = 0 := by omega
    rw [h1] at h2; cases h2; exact Int.le_refl _

theorem ginv_step {n k t i j : Nat} {S0 S : List (List N3)} {X Y : List N3} (h : GInv n k S0 S t) (hk : 0 < k) (h1 : 1 ≤ n) (hkn : k ≤ n) (hi : i = t % k) (hj : j = (i + 1) % k) (hY : S[i]? = some Y) (hX : S[j]? = some X) :
    GInv n k S0 (S.set j (absR (j : Int) X (newsOf Y))) (t + 1) := by
  obtain ⟨a, b, c, d, e⟩ := h
  have hjk : j < k := by rw [hj]; exact Nat.mod_lt _ hk
  have hjt : j = (t + 1) % k := by rw [hj, hi, Nat.mod_add_mod]
  have gX := b _ _ hX
  have gY := b _ _ hY
  have up : ∀ q, q < n → rk X q ≤ rk (absR (j : Int) X (newsOf Y)) q ∧ rk Y q ≤ rk (absR (j : Int) X (newsOf Y)) q ∧ ((absR (j : Int) X (newsOf Y))[q]? = X[q]? ∨ (absR (j : Int) X (newsOf Y))[q]? = Y[q]?) := by
    intro q hq
    obtain ⟨x, hx, ox, kx⟩ := gb_get gX hq
    obtain ⟨y, hy, oy, ky⟩ := gb_get gY hq
    have hg := gossip_get gX gY hjk h1 hx hy
    have hm := rank_maxN (y := y) kx (by rw [ox, oy])
    rw [rk_of hx, rk_of hy, rk_of hg, hg, hx, hy]
    exact ⟨hm.1, hm.2.1, by rcases hm.2.2 with h | h <;> rw [h] <;> simp⟩
  have hset : ∀ (q : Nat) (Z : List N3), (S.set j (absR (j : Int) X (newsOf Y)))[q]? = some Z → (q = j ∧ Z = absR (j : Int) X (newsOf Y)) ∨ (q ≠ j ∧ S[q]? = some Z) := by
    intro q Z hZ
    by_cases hq : q = j
    · subst hq
      rw [List.getElem?_set_self (by omega)] at hZ
      exact .inl ⟨rfl, (Option.some.inj hZ).symm⟩
    · rw [List.getElem?_set_ne (by omega)] at hZ
      exact .inr ⟨hq, hZ⟩
  refine ⟨by rw [List.length_set]; exact a, ?_, ?_, ?_, ?_⟩
  · intro q Z hZ
    rcases hset q Z hZ with ⟨_, rfl⟩ | ⟨_, h⟩
    · exact gossip_gb gX gY hjk h1 hkn
    · exact b _ _ h
  · intro q Z Z0 hZ hZ0 p hp
    rcases hset q Z hZ with ⟨rfl, rfl⟩ | ⟨_, h⟩
    · exact Int.le_trans (c _ _ _ hX hZ0 p hp) (up p hp).1
    · exact c _ _ _ h hZ0 p hp
  · intro q Z hZ p hp
    rcases hset q Z hZ with ⟨rfl, rfl⟩ | ⟨_, h⟩
    · rcases (up p hp).2.2 with h2 | h2 <;> rw [h2]
      · exact d _ _ hX p hp
      · exact d _ _ hY p hp
    · exact d _ _ h p hp
  · intro t' ht s hs Z Z0 hZ hZ0 p hp
    by_cases hlast : t' = t + 1
    · subst hlast
      rcases hset _ Z hZ with ⟨_, rfl⟩ | ⟨hn, _⟩
      · by_cases hst : s = t + 1
        · subst hst
          rw [← hjt] at hZ0
          exact Int.le_trans (c _ _ _ hX hZ0 p hp) (up p hp).1
        · refine Int.le_trans (e t (Nat.le_refl _) s (by omega) Y Z0 (by rw [← hi]; exact hY) hZ0 p hp) (up p hp).2.1
      · exact absurd hjt.symm hn
    · rcases hset _ Z hZ with ⟨hq, rfl⟩ | ⟨_, h⟩
      · exact Int.le_trans (e t' (by omega) s hs X Z0 (by rw [hq]; exact hX) hZ0 p hp) (up p hp).1
      · exact e t' (by omega) s hs Z Z0 h hZ0 p hp

theorem two_le {k : Nat} (h : 0 < k) : 2 * k ≤ k * k + 2 := by
  rcases Nat.lt_or_ge k 2 with h1 | h1
  · omega
  · have := Nat.mul_le_mul_right k h1; omega

/-- SpreadGossip's law. -/
theorem gossip_law {n k t : Nat} {qs : List Bok} {S : List (List N3)} (h0 : ∀ (i : Nat) (X : List N3), (qs.map Bok.xs)[i]? = some X → GB n k X) (hq : qs.length = k) (h : GInv n k (qs.map Bok.xs) S t) (ht : 2 * k ≤ t + 2) (hk : 0 < k) {i : Nat} {X : List N3} (hX : S[i]? = some X) :
    X = levelL qs := by
  obtain ⟨a, b, c, d, e⟩ := h
  have gX := b _ _ hX
  have hik : i < k := by rw [← a]; exact (List.getElem?_eq_some_iff.1 hX).1
  have hq0 : qs[0]? = some (qs[0]'(by omega)) := List.getElem?_eq_getElem _
  obtain ⟨q0, hq0'⟩ : ∃ q0, qs[0]? = some q0 := ⟨_, hq0⟩
  have g0 := h0 0 q0.xs (by rw [List.getElem?_map, hq0']; rfl)
  have hat : ∀ q ∈ qs, ∀ j, j < n → q.xs[j]? = some (q.at j) ∧ (q.at j).of = (j : Int) ∧ okN (q.at j) := by
    intro q hq j hj
    obtain ⟨z, hz⟩ := List.getElem?_of_mem hq
    have g := h0 z q.xs (by rw [List.getElem?_map, hz]; rfl)
    obtain ⟨x, hx, ox, kx⟩ := gb_get g hj
    have : q.at j = x := by unfold Bok.at; rw [hx]; rfl
    rw [this]; exact ⟨hx, ox, kx⟩
  apply List.ext_getElem?
  intro j
  by_cases hj : j < n
  · obtain ⟨x, hx, ox, kx⟩ := gb_get gX hj
    obtain ⟨x0, hx0, ox0, kx0⟩ := gb_get g0 hj
    have htop : (levelL qs)[j]? = some (maxs x0 (qs.map (fun q => q.at j))) := by
      unfold levelL
      rw [hq0', Option.getD_some, List.getElem?_map, hx0]
      simp only [Option.map_some, levelE, ox0, Int.toNat_natCast]
    rw [hx, htop]
    congr 1
    have hl : ∀ z ∈ qs.map (fun q => q.at j), okN z := by
      intro z hz
      obtain ⟨q, hq, rfl⟩ := List.mem_map.1 hz
      exact (hat q hq j hj).2.2
    have hs := maxs_spec (qs.map (fun q => q.at j)) x0 kx0 hl
    have hmem : ∃ s : Nat, ∃ q, qs[s]? = some q ∧ maxs x0 (qs.map (fun q => q.at j)) = q.at j := by
      rcases hs.1 with h | h
      · exact ⟨0, q0, hq0', by rw [h]; unfold Bok.at; rw [hx0]; rfl⟩
      · obtain ⟨q, hq, hqe⟩ := List.mem_map.1 h
        obtain ⟨s, hs⟩ := List.getElem?_of_mem hq
        exact ⟨s, q, hs, hqe.symm⟩
    obtain ⟨s, q, hsq, htq⟩ := hmem
    have hqm : q ∈ qs := List.mem_of_getElem? hsq
    have hsk : s < k := by rw [← hq]; exact (List.getElem?_eq_some_iff.1 hsq).1
    refine rank_inj kx (by rw [htq]; exact (hat q hqm j hj).2.2) (by rw [htq, ox, (hat q hqm j hj).2.1]) ?_
    have up : rank x ≤ rank (maxs x0 (qs.map (fun q => q.at j))) := by
      obtain ⟨i', X', hX', hxx⟩ := d _ _ hX j hj
      rw [List.getElem?_map] at hX'
      cases hqi : qs[i']? with
      | none => rw [hqi] at hX'; cases hX'
      | some q' =>
        rw [hqi] at hX'; cases hX'
        have hm' : q' ∈ qs := List.mem_of_getElem? hqi
        have h2 := hat q' hm' j hj
        rw [hx] at hxx
        have : x = q'.at j := by rw [h2.1] at hxx; exact Option.some.inj hxx
        rw [this]
        exact hs.2.2.2 _ (List.mem_map.2 ⟨q', hm', rfl⟩) (by rw [h2.2.1, ox0])
    have lo : rank (maxs x0 (qs.map (fun q => q.at j))) ≤ rank x := by
      obtain ⟨t', ht1, ht2, ht3⟩ : ∃ t', t' % k = i ∧ k ≤ t' + 1 ∧ t' ≤ t := by
        by_cases hl : i + 1 = k
        · exact ⟨i, Nat.mod_eq_of_lt hik, by omega, by omega⟩
        · exact ⟨k + i, by rw [Nat.add_mod_left]; exact Nat.mod_eq_of_lt hik, by omega, by omega⟩
      have := e t' ht3 s (by omega) X q.xs (by rw [ht1]; exact hX) (by rw [Nat.mod_eq_of_lt hsk, List.getElem?_map, hsq]; rfl) j hj
      rw [rk_of hx, rk_of (hat q hqm j hj).1] at this
      rw [htq]; exact this
    omega
  · rw [List.getElem?_eq_none (by rw [gX.2.1]; omega)]
    symm
    refine List.getElem?_eq_none ?_
    unfold levelL
    rw [hq0', List.length_map]
    simp only [Option.getD_some]
    rw [g0.2.1]; omega

/-- A book's beginning. -/
def gfold (k : Nat) (xs l : List N3) : List N3 := l.foldl (fun s x => if (k : Int) ≤ x.of then take1 s x else s) xs
theorem gfold_snoc (k : Nat) (xs l : List N3) (x : N3) : gfold k xs (l ++ [x]) = if (k : Int) ≤ x.of then take1 (gfold k xs l) x else gfold k xs l := by simp [gfold]
theorem take1_good {X : List N3} {x : N3} (hX : Good X) : Good (take1 X x) := by
  by_cases hv : validB X.length x = true
  · rw [take1_map hX hv]
    have := good_map hX (l := [x]) (fun z hz => by simp at hz; subst hz; exact okN_valid hv)
    exact this
  · unfold take1 takes
    rw [Bool.eq_false_iff.2 hv]; exact hX
theorem take1_gb {n k : Nat} {X : List N3} {x : N3} (hX : GB n k X) (hx : (k : Int) ≤ x.of) : GB n k (take1 X x) := by
  refine ⟨take1_good hX.1, by rw [take1_len]; exact hX.2.1, fun j hj => ?_⟩
  unfold take1
  split
  · rw [List.getElem?_set_ne (by omega)]; exact hX.2.2 j hj
  · exact hX.2.2 j hj
theorem gfold_gb {n k : Nat} {X : List N3} (l : List N3) (hX : GB n k X) : GB n k (gfold k X l) := by
  unfold gfold
  induction l generalizing X with
  | nil => exact hX
  | cons y l ih =>
    simp only [List.foldl_cons]
    split
    · rename_i h; exact ih (take1_gb hX h)
    · exact ih hX
theorem new_gb {n k i : Nat} (hn : n ≤ 100) (hi : i < n) (hkn : k ≤ n) : GB n k (newL n (i : Int) 0) := by
  refine ⟨good_new hn (by omega) (by omega) (by decide), newL_len _ _ _, fun j hj => ?_⟩
  unfold newL
  have hl : (freshL n).length = n := by simp [freshL]
  by_cases h : i = j
  · subst h
    rw [Int.toNat_natCast, List.getElem?_set_self (by omega)]; rfl
  · rw [Int.toNat_natCast, List.getElem?_set_ne (by omega)]
    unfold freshL
    rw [List.getElem?_map, List.getElem?_range (by omega)]; rfl
end Go.Proofs.Ytfdffeameoejfaa
