/- The plain law of InferNamed: with the ids gone round by one place doubts go round. -/
import Derived.Test.YtfdffeameoejfaaPBegun
namespace Go.Proofs.Ytfdffeameoejfaa
open Go
set_option linter.unusedSimpArgs false
set_option linter.unusedVariables false

/-- The id behind. -/
def rot (n : Nat) (i : Nat) : Nat := (i + 1) % n
theorem rot_lt {n i : Nat} (h : 0 < n) : rot n i < n := Nat.mod_lt _ h
theorem rot_inj {n i j : Nat} (hi : i < n) (hj : j < n) (h : rot n i = rot n j) : i = j := by
  unfold rot at h
  by_cases h1 : i + 1 = n
  · by_cases h2 : j + 1 = n
    · omega
    · rw [h1, Nat.mod_self, Nat.mod_eq_of_lt (by omega)] at h; omega
  · by_cases h2 : j + 1 = n
    · rw [h2, Nat.mod_self, Nat.mod_eq_of_lt (by omega)] at h; omega
    · rw [Nat.mod_eq_of_lt (by omega), Nat.mod_eq_of_lt (by omega)] at h; omega
theorem rot_sur {n j : Nat} (hj : j < n) : ∃ i, i < n ∧ rot n i = j := by
  unfold rot
  by_cases h : j = 0
  · exact ⟨n - 1, by omega, by rw [show n - 1 + 1 = n by omega, Nat.mod_self]; omega⟩
  · exact ⟨j - 1, by omega, by rw [show j - 1 + 1 = j by omega, Nat.mod_eq_of_lt hj]⟩
/-- A notice, gone round. -/
def rotN (n : Nat) (x : N3) : N3 := ⟨(rot n x.of.toNat : Nat), x.tag, x.kind⟩

/-- One book is the other one gone round. -/
def RotB (n : Nat) (X Y : List N3) : Prop := X.length = n ∧ Y.length = n ∧ ∀ i x, X[i]? = some x → Y[rot n i]? = some (rotN n x)

theorem rank_rotN (n : Nat) (x : N3) : rank (rotN n x) = rank x := rfl
theorem valid_rotN {n : Nat} {x : N3} (h0 : 0 ≤ x.of) (h1 : x.of < n) : validB (n : Int) (rotN n x) = validB (n : Int) x := by
  have hr := rot_lt (n := n) (i := x.of.toNat) (by omega)
  have e : (validB (n : Int) (rotN n x) = true) ↔ (validB (n : Int) x = true) := by
    simp only [validB, rotN, Bool.and_eq_true, decide_eq_true_eq]
    constructor
    · rintro ⟨⟨⟨⟨⟨a, b⟩, c⟩, d⟩, e⟩, f⟩; exact ⟨⟨⟨⟨⟨a, b⟩, h0⟩, h1⟩, e⟩, f⟩
    · rintro ⟨⟨⟨⟨⟨a, b⟩, c⟩, d⟩, e⟩, f⟩; exact ⟨⟨⟨⟨⟨a, b⟩, decide_eq_true (Int.natCast_nonneg _)⟩, decide_eq_true (Int.ofNat_lt.2 hr)⟩, e⟩, f⟩
  rw [Bool.eq_iff_iff]; exact e

theorem rot_take {n : Nat} {X Y : List N3} (hX : Good X) (h : RotB n X Y) {x : N3} (h0 : 0 ≤ x.of) (h1 : x.of < n) : RotB n (take1 X x) (take1 Y (rotN n x)) := by
  obtain ⟨hx, hy, hr⟩ := h
  have hi : x.of.toNat < n := by omega
  have hxi := List.getElem?_eq_getElem (l := X) (i := x.of.toNat) (by omega)
  have hyi := hr _ _ hxi
  have gx := hX.2 _ _ hxi
  have hto : (rotN n x).of.toNat = rot n x.of.toNat := by simp [rotN]
  have htk : takes Y (rotN n x) = takes X x := by
    unfold takes
    rw [hy, hx, valid_rotN h0 h1, hto, hyi, hxi]
    simp only [Option.getD_some]
    congr 1
    unfold beats
    rw [rank_rotN, rank_rotN]
    congr 1
    rw [decide_eq_true (show x.of = (X[x.of.toNat]).of by rw [gx.1]; omega), decide_eq_true]
    unfold rotN
    simp only
    rw [gx.1, Int.toNat_natCast]
  refine ⟨by rw [take1_len]; exact hx, by rw [take1_len]; exact hy, fun i y hiy => ?_⟩
  have hil : i < n := by have := (List.getElem?_eq_some_iff.1 hiy).1; rw [take1_len, hx] at this; exact this
  unfold take1 at hiy ⊢
  rw [htk]
  by_cases ht : takes X x = true
  · rw [if_pos ht] at hiy ⊢
    rw [hto]
    by_cases e : x.of.toNat = i
    · rw [e, List.getElem?_set_self (by omega)] at hiy
      cases hiy
      rw [← e, List.getElem?_set_self (by rw [hy]; exact rot_lt (by omega))]
    · rw [List.getElem?_set_ne e] at hiy
      rw [List.getElem?_set_ne (fun h2 => e (rot_inj hi hil h2))]
      exact hr i y hiy
  · rw [if_neg ht] at hiy ⊢
    exact hr i y hiy

theorem rot_new {n : Nat} (hn : 1 ≤ n) (hn2 : n ≤ 100) : RotB n (newL n 0 0) (newL n ((1 % n : Nat) : Int) 0) := by
  refine ⟨newL_len _ _ _, newL_len _ _ _, fun i x hx => ?_⟩
  have hil : i < n := by have := (List.getElem?_eq_some_iff.1 hx).1; rw [newL_len] at this; exact this
  have fr : ∀ (s : Nat) (j : Nat), j < n → s < n → (newL n (s : Int) 0)[j]? = some (fresh (j : Int)) := by
    intro s j hj hs
    unfold newL
    have hl : (freshL n).length = n := by simp [freshL]
    by_cases h : s = j
    · subst h; rw [Int.toNat_natCast, List.getElem?_set_self (by omega)]; rfl
    · rw [Int.toNat_natCast, List.getElem?_set_ne h]; unfold freshL; rw [List.getElem?_map, List.getElem?_range hj]; rfl
  have h1 := fr 0 i hil (by omega)
  rw [show ((0 : Nat) : Int) = 0 from rfl, hx] at h1
  cases h1
  rw [fr (1 % n) (rot n i) (rot_lt (by omega)) (Nat.mod_lt _ (by omega))]
  rfl

/-- The set gone round. -/
def rotS (n : Nat) (ids : List Nat) : S4 := ids.foldl (fun s i => if i < n then withS s (rot n i) else s) (S4.mk 0 0 0 0)
theorem rotS_snoc (n : Nat) (ids : List Nat) (i : Nat) : rotS n (ids ++ [i]) = if i < n then withS (rotS n ids) (rot n i) else rotS n ids := by simp [rotS]
theorem rotS_bit {n : Nat} (hn : 1 ≤ n) (hn2 : n ≤ 100) (ids : List Nat) : (rotS n ids).wf ∧ ∀ k, k < 128 → ((rotS n ids).bit k = true ↔ ∃ i ∈ ids, i < n ∧ rot n i = k) := by
  have key : ∀ (m : Nat), m ≤ ids.length → (rotS n (ids.take m)).wf ∧ ∀ k, k < 128 → ((rotS n (ids.take m)).bit k = true ↔ ∃ i ∈ ids.take m, i < n ∧ rot n i = k) := by
    intro m
    induction m with
    | zero => intro _; exact ⟨wf_zero, fun k _ => by rw [show rotS n (ids.take 0) = S4.mk 0 0 0 0 from rfl, bit_zero]; simp⟩
    | succ m ih =>
      intro hm
      obtain ⟨h1, h2⟩ := ih (by omega)
      have hx := List.getElem?_eq_getElem (show m < ids.length by omega)
      rw [take_snoc hx, rotS_snoc]
      split
      · rename_i hlt
        refine ⟨wf_with _ _, fun k hk => ?_⟩
        have hr := rot_lt (n := n) (i := ids[m]) (by omega)
        rw [bit_with _ (by omega) hk, Bool.or_eq_true, Bool.and_eq_true, h2 k hk, decide_eq_true_eq, decide_eq_true_eq]
        constructor
        · rintro (⟨⟨i, hi, a, b⟩, _⟩ | h)
          · exact ⟨i, List.mem_append_left _ hi, a, b⟩
          · exact ⟨ids[m], List.mem_append_right _ (List.mem_singleton.2 rfl), hlt, h.symm⟩
        · rintro ⟨i, hi, a, b⟩
          rcases List.mem_append.1 hi with h | h
          · left; refine ⟨⟨i, h, a, b⟩, ?_⟩; have := rot_lt (n := n) (i := i) (by omega); omega
          · rw [List.mem_singleton] at h; subst h; exact .inr b.symm
      · rename_i hlt
        refine ⟨h1, fun k hk => ?_⟩
        rw [h2 k hk]
        constructor
        · rintro ⟨i, hi, a, b⟩; exact ⟨i, List.mem_append_left _ hi, a, b⟩
        · rintro ⟨i, hi, a, b⟩
          rcases List.mem_append.1 hi with h | h
          · exact ⟨i, h, a, b⟩
          · rw [List.mem_singleton] at h; subst h; exact absurd a hlt
  have := key ids.length (Nat.le_refl _)
  rw [List.take_length] at this; exact this

theorem rot_mem {n : Nat} {X Y : List N3} (hn : 1 ≤ n) (hX : Good X) (hY : Good Y) (h : RotB n X Y) {m : S4} (hm : m.wf) (k : Nat) :
    k ∈ djs Y (rotS n (idsS m)) ↔ ∃ i ∈ djs X m, i < n ∧ rot n i = k := by
  obtain ⟨hx, hy, hr⟩ := h
  have h100 := hX.1
  have hs := rotS_bit hn (by omega) (idsS m)
  have dY : ∀ k, doubtB Y k = true ↔ ∃ y, Y[k]? = some y ∧ y.kind = 1 := by
    intro k
    constructor
    · intro hd; obtain ⟨y, h1, _, h2, _⟩ := doubt_at hY hd; exact ⟨y, h1, h2⟩
    · rintro ⟨y, h1, h2⟩
      have hk : k < Y.length := (List.getElem?_eq_some_iff.1 h1).1
      unfold doubtB atE atN
      rw [if_pos (by omega), if_pos (by omega), Int.toNat_natCast, h1]
      simp [h2]
  have dX : ∀ k, doubtB X k = true ↔ ∃ y, X[k]? = some y ∧ y.kind = 1 := by
    intro k
    constructor
    · intro hd; obtain ⟨y, h1, _, h2, _⟩ := doubt_at hX hd; exact ⟨y, h1, h2⟩
    · rintro ⟨y, h1, h2⟩
      have hk : k < X.length := (List.getElem?_eq_some_iff.1 h1).1
      unfold doubtB atE atN
      rw [if_pos (by omega), if_pos (by omega), Int.toNat_natCast, h1]
      simp [h2]
  rw [djs_mem, dY]
  constructor
  · rintro ⟨⟨hk, hb⟩, y, hyk, hkind⟩
    rw [has_bit hs.1, hs.2 k (by omega)] at hb
    obtain ⟨i, hi, hin, hik⟩ := hb
    refine ⟨i, ?_, hin, hik⟩
    have hxi := List.getElem?_eq_getElem (l := X) (i := i) (by omega)
    have := hr _ _ hxi
    rw [hik, hyk] at this
    rw [Option.some.inj this] at hkind
    unfold idsS at hi
    rw [List.mem_filter, List.mem_range] at hi
    exact djs_mem.2 ⟨hi, (dX i).2 ⟨_, hxi, hkind⟩⟩
  · rintro ⟨i, hi, hin, rfl⟩
    obtain ⟨⟨h1, h2⟩, h3⟩ := djs_mem.1 hi
    obtain ⟨x, hxi, hkind⟩ := (dX i).1 h3
    have hrl := rot_lt (n := n) (i := i) (by omega)
    refine ⟨⟨by omega, ?_⟩, rotN n x, hr _ _ hxi, hkind⟩
    rw [has_bit hs.1, hs.2 _ (by omega)]
    exact ⟨i, by unfold idsS; rw [List.mem_filter, List.mem_range]; exact ⟨h1, h2⟩, hin, rfl⟩

theorem djs_lt {X : List N3} {m : S4} (hX : Good X) {i : Nat} (h : i ∈ djs X m) : i < X.length := by
  obtain ⟨_, _, _, _, _, _, hl⟩ := doubt_at hX (djs_mem.1 h).2
  exact hl

/-- InferNamed's law. -/
theorem named_law {n : Nat} {X Y : List N3} (hn : 1 ≤ n) (hX : Good X) (hY : Good Y) (h : RotB n X Y) {m : S4} (hm : m.wf) :
    (doubtsL X (idsS m)).length = (doubtsL Y (idsS (rotS n (idsS m)))).length ∧ ∀ z ∈ doubtsL X (idsS m), rotN n z ∈ doubtsL Y (idsS (rotS n (idsS m))) ∧ 0 ≤ z.of ∧ z.of < n := by
  have hmem := rot_mem hn hX hY h hm
  have hlen := h.1
  constructor
  · rw [doubts_len, doubts_len]
    have hp : ((djs X m).map (rot n)).Perm (djs Y (rotS n (idsS m))) := by
      refine (List.perm_ext_iff_of_nodup ?_ (djs_nodup _ _)).2 fun k => ?_
      · unfold List.Nodup
        rw [List.pairwise_map]
        exact (djs_nodup X m).imp_of_mem fun {a b} ha hb hne e => hne (rot_inj (by have := djs_lt hX ha; omega) (by have := djs_lt hX hb; omega) e)
      · rw [hmem, List.mem_map]
        constructor
        · rintro ⟨i, hi, rfl⟩; exact ⟨i, hi, by have := djs_lt hX hi; omega, rfl⟩
        · rintro ⟨i, hi, _, rfl⟩; exact ⟨i, hi, rfl⟩
    have := hp.length_eq
    rw [List.length_map] at this; exact this
  · intro z hz
    obtain ⟨k, hk⟩ := List.getElem?_of_mem hz
    obtain ⟨j, hj, rfl⟩ := doubts_at hk
    have hjm : j ∈ djs X m := List.mem_of_getElem? hj
    obtain ⟨x, hxj, ho, hkind, _, ha, hl⟩ := doubt_at hX (djs_mem.1 hjm).2
    have hyj := h.2.2 _ _ hxj
    have hin : rot n j ∈ djs Y (rotS n (idsS m)) := (hmem _).2 ⟨j, hjm, by omega, rfl⟩
    obtain ⟨y, hy2, ho2, _, _, ha2, _⟩ := doubt_at hY (djs_mem.1 hin).2
    rw [hyj] at hy2
    cases hy2
    rw [ha]
    refine ⟨?_, by rw [ho]; omega, by rw [ho]; omega⟩
    unfold doubtsL
    refine List.mem_map.2 ⟨rot n j, hin, ?_⟩
    rw [ha2]
    simp [rotN, ho]
end Go.Proofs.Ytfdffeameoejfaa
