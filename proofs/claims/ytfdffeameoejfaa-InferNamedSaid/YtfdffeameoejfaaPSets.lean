/- The plain law of sets: their bits. -/
import Derived.Test.YtfdffeameoejfaaSets
namespace Go.Proofs.Ytfdffeameoejfaa
open Go
set_option linter.unusedSimpArgs false
set_option linter.unusedVariables false

/-- A word as bits. -/
def wd (x : Int) : BitVec 32 := BitVec.ofInt 32 x
def S4.bit (s : S4) (k : Nat) : Bool := (wd (s.get (k / 32))).getLsbD (k % 32)
def wfW (x : Int) : Prop := 0 ≤ x ∧ x < 4294967296
def S4.wf (s : S4) : Prop := wfW s.a ∧ wfW s.b ∧ wfW s.c ∧ wfW s.d

theorem wr_bv (b : BitVec 32) : IntKind.u32.wrap (b.toNat : Int) = (b.toNat : Int) := by
  rw [wr32]; have := b.isLt; omega
theorem bv_wf (b : BitVec 32) : wfW (b.toNat : Int) := by have := b.isLt; unfold wfW; omega
theorem wd_toNat (b : BitVec 32) : wd (b.toNat : Int) = b := by
  unfold wd; rw [BitVec.ofInt_natCast, BitVec.ofNat_toNat]; simp
theorem bAnd_eq (m n : Int) : bAnd .u32 m n = ((wd m &&& wd n).toNat : Int) := wr_bv _
theorem bOr_eq (m n : Int) : bOr .u32 m n = ((wd m ||| wd n).toNat : Int) := wr_bv _
theorem bAndNot_eq (m n : Int) : bAndNot .u32 m n = ((wd m &&& ~~~ (wd n)).toNat : Int) := wr_bv _
theorem wd_ext {x y : Int} (hx : wfW x) (hy : wfW y) (h : wd x = wd y) : x = y := by
  unfold wd at h
  obtain ⟨a, rfl⟩ := Int.eq_ofNat_of_zero_le hx.1
  obtain ⟨b, rfl⟩ := Int.eq_ofNat_of_zero_le hy.1
  have hx2 := hx.2
  have hy2 := hy.2
  have h2 := congrArg BitVec.toNat h
  rw [BitVec.ofInt_natCast, BitVec.ofInt_natCast, BitVec.toNat_ofNat, BitVec.toNat_ofNat] at h2
  omega
theorem get_wf {s : S4} (h : s.wf) (i : Nat) : wfW (s.get i) := by
  match i with
  | 0 => exact h.1
  | 1 => exact h.2.1
  | 2 => exact h.2.2.1
  | n + 3 => exact h.2.2.2
theorem s4_ext {s t : S4} (h : ∀ i, i < 4 → s.get i = t.get i) : s = t := by
  have h0 := h 0 (by decide)
  have h1 := h 1 (by decide)
  have h2 := h 2 (by decide)
  have h3 := h 3 (by decide)
  obtain ⟨a, b, c, d⟩ := s
  obtain ⟨a', b', c', d'⟩ := t
  simp only [S4.get] at h0 h1 h2 h3
  subst h0; subst h1; subst h2; subst h3; rfl
/-- Two sets with the same bits. -/
theorem bit_ext {s t : S4} (hs : s.wf) (ht : t.wf) (h : ∀ k, k < 128 → s.bit k = t.bit k) : s = t := by
  refine s4_ext fun i hi => wd_ext (get_wf hs i) (get_wf ht i) ?_
  apply BitVec.eq_of_getLsbD_eq
  intro j hj
  have := h (i * 32 + j) (by omega)
  unfold S4.bit at this
  rw [show (i * 32 + j) / 32 = i by omega, show (i * 32 + j) % 32 = j by omega] at this
  exact this

theorem get_map2 (φ : Int → Int → Int) (a b : S4) (i : Nat) : (map2 φ a b).get i = φ (a.get i) (b.get i) := by
  match i with
  | 0 => rfl
  | 1 => rfl
  | 2 => rfl
  | n + 3 => rfl
theorem bit_and (a b : S4) (k : Nat) : (map2 (bAnd .u32) a b).bit k = (a.bit k && b.bit k) := by
  unfold S4.bit; rw [get_map2, bAnd_eq, wd_toNat, BitVec.getLsbD_and]
theorem bit_or (a b : S4) (k : Nat) : (map2 (bOr .u32) a b).bit k = (a.bit k || b.bit k) := by
  unfold S4.bit; rw [get_map2, bOr_eq, wd_toNat, BitVec.getLsbD_or]
theorem bit_andNot (a b : S4) (k : Nat) : (map2 (bAndNot .u32) a b).bit k = (a.bit k && !b.bit k) := by
  unfold S4.bit; rw [get_map2, bAndNot_eq, wd_toNat, BitVec.getLsbD_and, BitVec.getLsbD_not]
  have : k % 32 < 32 := Nat.mod_lt _ (by decide)
  simp [this]
theorem wf_map2 {φ : Int → Int → Int} (h : ∀ x y, wfW (φ x y)) (a b : S4) : (map2 φ a b).wf := ⟨h _ _, h _ _, h _ _, h _ _⟩
theorem wf_and (a b : S4) : (map2 (bAnd .u32) a b).wf := wf_map2 (fun x y => by rw [bAnd_eq]; exact bv_wf _) a b

theorem lowm_bit : ∀ e : Fin 33, ∀ j : Fin 32, (wd (lowm (e.val : Int))).getLsbD j.val = decide (j.val < e.val) := by decide +kernel
theorem lowm_b {e : Int} {j : Nat} (h0 : 0 ≤ e) (h1 : e ≤ 32) (hj : j < 32) : (wd (lowm e)).getLsbD j = decide ((j : Int) < e) := by
  obtain ⟨n, rfl⟩ := Int.eq_ofNat_of_zero_le h0
  have := lowm_bit ⟨n, by omega⟩ ⟨j, hj⟩
  simp only at this
  rw [this]
  by_cases h : j < n
  · rw [decide_eq_true h, decide_eq_true (by omega)]
  · rw [decide_eq_false h, decide_eq_false (by omega)]
theorem imn_eq (m n : Int) : imn m n = min m n := by unfold imn; split <;> omega
theorem imx_eq (m n : Int) : imx m n = max m n := by unfold imx; split <;> omega
theorem bit_upTo {n : Int} {k : Nat} (hk : k < 128) : (upToS n).bit k = decide ((k : Int) < n) := by
  have hj : k % 32 < 32 := Nat.mod_lt _ (by decide)
  have hi : k / 32 = 0 ∨ k / 32 = 1 ∨ k / 32 = 2 ∨ k / 32 = 3 := by omega
  unfold S4.bit
  have key : ∀ m : Int, (wd (lowm (imn (imx (n - m) 0) 32))).getLsbD (k % 32) = decide (((k % 32 : Nat) : Int) < n - m) := by
    intro m
    rw [lowm_b (some_b _).1 (some_b _).2 hj, imn_eq, imx_eq]
    by_cases h : ((k % 32 : Nat) : Int) < n - m
    · rw [decide_eq_true h, decide_eq_true (by omega)]
    · rw [decide_eq_false h, decide_eq_false (by omega)]
  rcases hi with h | h | h | h <;> rw [h] <;> simp only [upToS, S4.get] <;> rw [key] <;> congr 1 <;> apply propext <;> omega
theorem bit_clean (s : S4) {k : Nat} (hk : k < 128) : (cleanS s).bit k = (s.bit k && decide (k < 100)) := by
  unfold cleanS; rw [bit_and, bit_upTo hk]; congr 1
  by_cases h : k < 100
  · rw [decide_eq_true h, decide_eq_true (by omega)]
  · rw [decide_eq_false h, decide_eq_false (by omega)]
theorem wf_clean (s : S4) : (cleanS s).wf := wf_and _ _
theorem bit_union (a b : S4) {k : Nat} (hk : k < 128) : (unionS a b).bit k = ((a.bit k || b.bit k) && decide (k < 100)) := by
  unfold unionS; rw [bit_clean _ hk, bit_or]
theorem bit_meet (a b : S4) {k : Nat} (hk : k < 128) : (meetS a b).bit k = ((a.bit k && b.bit k) && decide (k < 100)) := by
  unfold meetS; rw [bit_clean _ hk, bit_and]
theorem bit_less (a b : S4) {k : Nat} (hk : k < 128) : (lessS a b).bit k = ((a.bit k && !b.bit k) && decide (k < 100)) := by
  unfold lessS; rw [bit_clean _ hk, bit_andNot]
theorem within_iff {s : S4} {n : Int} (h : withinB s n = true) : s.wf ∧ ∀ k, k < 128 → s.bit k = true → (k : Int) < n ∧ k < 100 := by
  have e := of_decide_eq_true h
  refine ⟨by rw [← e]; exact wf_and _ _, fun k hk hb => ?_⟩
  rw [← e, bit_and, bit_upTo hk, Bool.and_eq_true, decide_eq_true_eq, imn_eq, imx_eq] at hb
  omega
theorem within_of {s : S4} {n : Int} (hs : s.wf) (h : ∀ k, k < 128 → s.bit k = true → (k : Int) < n ∧ k < 100) : withinB s n = true := by
  refine decide_eq_true (bit_ext (wf_and _ _) hs fun k hk => ?_)
  rw [bit_and, bit_upTo hk, imn_eq, imx_eq]
  by_cases hb : s.bit k = true
  · have := h k hk hb
    rw [hb, decide_eq_true (by omega)]; rfl
  · rw [Bool.eq_false_iff.2 hb]; rfl

theorem get_upd (s : S4) {i j : Nat} (hi : i < 4) (hj : j < 4) (v : Int) : (s.upd i v).get j = if j = i then v else s.get j := by
  match i, j, hi, hj with
  | 0, 0, _, _ => rfl
  | 0, 1, _, _ => rfl
  | 0, 2, _, _ => rfl
  | 0, 3, _, _ => rfl
  | 1, 0, _, _ => rfl
  | 1, 1, _, _ => rfl
  | 1, 2, _, _ => rfl
  | 1, 3, _, _ => rfl
  | 2, 0, _, _ => rfl
  | 2, 1, _, _ => rfl
  | 2, 2, _, _ => rfl
  | 2, 3, _, _ => rfl
  | 3, 0, _, _ => rfl
  | 3, 1, _, _ => rfl
  | 3, 2, _, _ => rfl
  | 3, 3, _, _ => rfl
theorem one_bit : ∀ k : Fin 32, ∀ j : Fin 32, (wd (IntKind.u32.wrap (1 * 2 ^ k.val))).getLsbD j.val = decide (j.val = k.val) := by decide +kernel
theorem bit_with (s : S4) {k j : Nat} (hk : k < 100) (hj : j < 128) : (withS s k).bit j = ((s.bit j && decide (j < 100)) || decide (j = k)) := by
  unfold withS
  have hc := bit_clean s hj
  unfold S4.bit at hc ⊢
  rw [get_upd _ (by omega) (by omega)]
  have ho := one_bit ⟨k % 32, Nat.mod_lt _ (by decide)⟩ ⟨j % 32, Nat.mod_lt _ (by decide)⟩
  simp only at ho
  by_cases h : j / 32 = k / 32
  · rw [if_pos h, bOr_eq, wd_toNat, BitVec.getLsbD_or, ho, ← h, hc]
    congr 1
    by_cases e : j % 32 = k % 32
    · rw [decide_eq_true e, decide_eq_true (by omega)]
    · rw [decide_eq_false e, decide_eq_false (by omega)]
  · rw [if_neg h, hc, decide_eq_false (show ¬ j = k by omega), Bool.or_false]
theorem wf_upd {s : S4} (hs : s.wf) {i : Nat} {v : Int} (hv : wfW v) : (s.upd i v).wf := by
  match i with
  | 0 => exact ⟨hv, hs.2.1, hs.2.2.1, hs.2.2.2⟩
  | 1 => exact ⟨hs.1, hv, hs.2.2.1, hs.2.2.2⟩
  | 2 => exact ⟨hs.1, hs.2.1, hv, hs.2.2.2⟩
  | n + 3 => exact ⟨hs.1, hs.2.1, hs.2.2.1, hv⟩
theorem wf_with (s : S4) (k : Nat) : (withS s k).wf := wf_upd (wf_clean s) (by rw [bOr_eq]; exact bv_wf _)

theorem fdiv_bit {x : Int} (hx : wfW x) {j : Nat} (hj : j < 32) : decide (bAnd .u32 (x.fdiv (2 ^ j)) 1 = 1) = (wd x).getLsbD j := by
  obtain ⟨n, rfl⟩ := Int.eq_ofNat_of_zero_le hx.1
  have e : (n : Int).fdiv (2 ^ j) = ((n / 2 ^ j : Nat) : Int) := by
    rw [Int.fdiv_eq_ediv_of_nonneg _ (by exact Int.le_of_lt (Int.pow_pos (by decide)))]
    simp
  rw [e, bAnd_eq]
  have h1 : (wd ((n / 2 ^ j : Nat) : Int) &&& wd 1).toNat = (n / 2 ^ j) % 2 := by
    unfold wd
    rw [BitVec.ofInt_natCast, BitVec.toNat_and, BitVec.toNat_ofNat]
    rw [show (BitVec.ofInt 32 1).toNat = 1 from rfl, Nat.and_one_is_mod]
    omega
  rw [h1]
  have h2 : (wd (n : Int)).getLsbD j = n.testBit j := by
    unfold wd
    rw [BitVec.ofInt_natCast, BitVec.getLsbD_ofNat]
    simp [hj]
  rw [h2, Nat.testBit_eq_decide_div_mod_eq]
  by_cases h : n / 2 ^ j % 2 = 1
  · rw [decide_eq_true h, decide_eq_true (by omega)]
  · rw [decide_eq_false h, decide_eq_false (by omega)]
theorem has_bit {s : S4} (hs : s.wf) (k : Nat) : s.has k = s.bit k := by
  unfold S4.has S4.bit
  exact fdiv_bit (get_wf hs _) (Nat.mod_lt _ (by decide))
theorem wf_zero : (S4.mk 0 0 0 0).wf := by simp [S4.wf, wfW]
theorem bit_zero (k : Nat) : (S4.mk 0 0 0 0).bit k = false := by
  unfold S4.bit
  have : ∀ i, (S4.mk 0 0 0 0).get i = 0 := by
    intro i
    match i with
    | 0 => rfl
    | 1 => rfl
    | 2 => rfl
    | n + 3 => rfl
  rw [this]; simp [wd]
end Go.Proofs.Ytfdffeameoejfaa
