/- A region that draws: the first n operations in whatever order; of the rest, what the edges leave open, one by one. -/
import Derived.Test.YtfdffeameoejfaaDraw
namespace Go.Proofs.Ytfdffeameoejfaa
set_option linter.unusedSimpArgs false
set_option linter.unusedVariables false
open Go Go.RowKit

/-- The first n have been carried out. -/
def firstN (s n : Nat) : Array Bool := ((List.range s).map (fun j => decide (j < n))).toArray
def drawR (ops : Array Oper) (n : Nat) : Bool :=
  Region.noSelect ops && decide (n ≤ ops.size) &&
  (List.range ops.size).all (fun i => ((ops[i]?).map (fun o => o.after.all fun e => !Region.binds .any e || decide (e.on < i))).getD false) &&
  (List.range n).all (fun i => (List.range n).all fun j => decide (j = i) ||
    (match ops[i]?, dstOf ops j with
     | some oi, some d => if (oi.looksAt ops).contains d || dstOf ops i == some d then (if j < i then bf ops i j else bf ops j i) else true
     | _, _ => true)) &&
  (List.range ops.size).all (fun i => decide (i < n) || (List.range n).all fun j => bf ops i j)

section
variable {r : Option Nat} {P : Program} {ops : Array Oper} {Q : Exit → Act → World → Prop} {C : World → Prop} {T : World → World → Prop}

theorem drawR_spec {n : Nat} (h : drawR ops n = true) : Region.noSelect ops = true ∧ n ≤ ops.size ∧
    (∀ i o, ops[i]? = some o → ∀ e ∈ o.after, Region.binds .any e = true → e.on < i) ∧
    (∀ i j oi d, i < n → j < n → j ≠ i → ops[i]? = some oi → dstOf ops j = some d → (d ∈ oi.looksAt ops ∨ dstOf ops i = some d) → if j < i then bf ops i j = true else bf ops j i = true) ∧
    (∀ i j, n ≤ i → i < ops.size → j < n → bf ops i j = true) := by
  unfold drawR at h
  simp only [Bool.and_eq_true, List.all_eq_true, List.mem_range, decide_eq_true_eq, Bool.or_eq_true] at h
  obtain ⟨⟨⟨⟨h1, h2⟩, h3⟩, h4⟩, h5⟩ := h
  refine ⟨h1, h2, fun i o ho e he hb => ?_, fun i j oi d hi hj hne ho hd hor => ?_, fun i j hn hi hj => ?_⟩
  · have hlt : i < ops.size := (Array.getElem?_eq_some_iff.1 ho).1
    have := h3 i hlt
    rw [ho] at this
    simp only [Option.map_some, Option.getD_some, Array.all_eq_true_iff_forall_mem, Bool.or_eq_true, Bool.not_eq_true', decide_eq_true_eq] at this
    rcases this e he with h' | h'
    · rw [hb] at h'; cases h'
    · exact h'
  · rcases h4 i hi j hj with h' | h'
    · exact absurd h' hne
    · rw [ho, hd] at h'
      simp only at h'
      have hc : (oi.looksAt ops).contains d = true ∨ (dstOf ops i == some d) = true := by
        simp only [List.contains_iff_mem, beq_iff_eq]; exact hor
      rw [if_pos hc] at h'
      by_cases hji : j < i
      · rw [if_pos hji] at h' ⊢; exact h'
      · rw [if_neg hji] at h' ⊢; exact h'
  · rcases h5 i hi with h' | h'
    · omega
    · exact h' j hj

theorem draw_anyR {sps : List Sp} {a0 : Act} (hT : ∀ W W', T W W' → W.heap.size ≤ W'.heap.size) (hd : drawR ops sps.length = true)
    (hob : ∀ vals iv k o, k < sps.length → ops[k]? = some o → Obl P ops C T sps a0 vals iv k o)
    (hfin : ∀ vals iv W, C W → (∀ j, envOf sps vals iv sps.length j W) → Apt (ivsOf sps iv sps.length) → wpAnyIn (FW r) 0 P .any ops Q (ops.size - sps.length) (firstN ops.size sps.length) (putsL ops (fun _ => true) (effv sps vals) a0 sps.length) W) :
    ∀ (m : Nat) (listed : Array Bool) (a : Act) (W : World) (vals : Nat → Value) (iv : Nat → Nat × Nat), Inv P ops C sps a0 listed a W vals iv → left (fun j => listed.getD j false) sps.length = m →
      wpAnyIn (FW r) 0 P .any ops Q (m + (ops.size - sps.length)) listed a W := by
  obtain ⟨hsel, hnn, hedge, hconf, htail⟩ := drawR_spec hd
  intro m
  induction m with
  | zero =>
    intro listed a W vals iv inv hm
    have hall := left_zero _ hm
    have hls : ∀ j, listed.getD j false = decide (j < sps.length) := by
      intro j
      by_cases hj : j < sps.length
      · simp [hj, hall j hj]
      · simp [hj]
        have := inv.tail j (by omega)
        simpa using this
    rw [Nat.zero_add]
    have hl : listed = firstN ops.size sps.length := by
      apply Array.ext_getElem?
      intro j
      have h1 := hls j
      unfold firstN
      by_cases hj : j < ops.size
      · rw [Array.getD_eq_getD_getElem?, Array.getElem?_eq_getElem (by rw [inv.size]; exact hj)] at h1
        rw [Array.getElem?_eq_getElem (by rw [inv.size]; exact hj)]
        simp [hj] at h1 ⊢
        exact h1
      · rw [Array.getElem?_eq_none (by rw [inv.size]; omega), Array.getElem?_eq_none (by simp; omega)]
    have hfr : a = putsL ops (fun _ => true) (effv sps vals) a0 sps.length := by
      rw [inv.frame]
      exact putsL_ext _ (fun j hj => hall j hj) (fun _ _ _ => rfl)
    rw [hfr, hl]
    exact hfin vals iv W inv.world (envOf_apply _ (fun j hj S hS => (inv.facts j S (hall j hj) hS).1)) (apt_ivs _ fun i j S S' hij hj h1 h2 => inv.apart i j S S' (by omega) (hall i (by omega)) (hall j hj) h1 h2)
  | succ m ih =>
    intro listed a W vals iv inv hm
    -- an operation of the head is ready
    have hunl : ∃ i, i < sps.length ∧ listed.getD i false = false ∧ ∀ j, j < i → listed.getD j false = true := by
      have : ∃ i, i < sps.length ∧ listed.getD i false = false := by
        apply Classical.byContradiction
        intro hno
        have : ∀ k, k ≤ sps.length → left (fun j => listed.getD j false) k = 0 := by
          intro k
          induction k with
          | zero => intro _; rfl
          | succ k ihk =>
            intro hk
            simp only [left]
            rw [ihk (by omega)]
            by_cases hf : listed.getD k false = true
            · simp only [hf, if_true]
            · exact absurd ⟨k, by omega, by simpa using hf⟩ hno
        have := this sps.length (Nat.le_refl _)
        omega
      obtain ⟨i, ⟨hi, hu⟩, hmin⟩ := least_of this
      exact ⟨i, hi, hu, fun j hj => by
        cases hf : listed.getD j false with
        | true => rfl
        | false => have := hmin j ⟨by omega, hf⟩; omega⟩
    have hne : Region.ready .any ops listed ≠ [] := by
      obtain ⟨i, hi, hu, hlow⟩ := hunl
      have hlt : i < ops.size := by omega
      intro h0
      have : i ∈ Region.ready .any ops listed := mem_ready.2 ⟨by rw [getD_iff inv.size hlt]; exact hu, ops[i], Array.getElem?_eq_getElem hlt, fun e he hb => hlow _ (hedge i _ (Array.getElem?_eq_getElem hlt) e he hb)⟩
      rw [h0] at this
      cases this
    rw [show m + 1 + (ops.size - sps.length) = (m + (ops.size - sps.length)) + 1 by omega]
    refine ⟨fun h0 => absurd h0 hne, fun i hi => ?_⟩
    obtain ⟨h0, o, ho, hall⟩ := mem_ready.1 hi
    have hlt : i < ops.size := (Array.getElem?_eq_some_iff.1 ho).1
    have hui : listed.getD i false = false := by rw [← getD_iff inv.size hlt]; exact h0
    have hready : ∀ j, bf ops i j = true → listed.getD j false = true := fun j hb =>
      anc_listed inv.closed (anc_of_bf hb) (fun o' ho' e he hbe => by rw [ho] at ho'; cases ho'; exact hall e he hbe)
    have hnot : ∀ j, bf ops j i = true → listed.getD j false = false := fun j hb => by
      cases hf : listed.getD j false with
      | false => rfl
      | true =>
        have := anc_listed inv.closed (anc_of_bf hb) (fun o' ho' e he hbe => inv.closed j o' ho' hf e he hbe)
        rw [hui] at this; cases this
    have hin : i < sps.length := by
      rcases Nat.lt_or_ge i sps.length with h | h
      · exact h
      · obtain ⟨i', hi', hu', _⟩ := hunl
        have := hready i' (htail i i' h hlt hi')
        rw [hu'] at this; cases this
    have hO := hob vals iv i o hin ho
    have hsl : ∀ cs b, o.op ≠ .select cs b := fun cs b => Region.noSelect_spec hsel i o cs b ho
    -- the frame at hand and the text's agree on what the operation looks at
    have hag : Ag (o.looksAt ops) a (putsL ops (fun _ => true) (effv sps vals) a0 i) := by
      rw [inv.frame]
      refine (putsL_cut (i := i) sps.length (by omega) ?_).trans (putsL_ag i ?_)
      · intro j hij hj hf d hdj hdl
        by_cases hji : j = i
        · subst hji; rw [hui] at hf; cases hf
        · have := hconf i j o d hin hj hji ho hdj (.inl hdl)
          rw [if_neg (by omega)] at this
          rw [hnot j this] at hf; cases hf
      · intro j hj d hdj hdl
        have := hconf i j o d hin (by omega) (by omega) ho hdj (.inl hdl)
        rw [if_pos hj] at this
        exact hready j this
    have hw := hag.wanted
    have hex := hag.exec hsl
    have henv : ∀ j, bf ops i j = true → envOf sps vals iv i j W := fun j hb => envOf_dep _ (fun S _ hS => (inv.facts j S (hready j hb) hS).1)
    -- how the walk goes on
    have go : ∀ (v : Value) (W' : World) (vals' : Nat → Value) (iv' : Nat → Nat × Nat), (∀ j, j ≠ i → vals' j = vals j) → (∀ j, j ≠ i → iv' j = iv j) → effv sps vals' i = v → C W' → W.heap.size ≤ W'.heap.size →
        (∀ j S, listed.getD j false = true → sps[j]? = some (.s S) → S (vals j) (iv j).1 (iv j).2 W') → (∀ S, sps[i]? = some (.s S) → S (vals' i) (iv' i).1 (iv' i).2 W' ∧ (iv' i).1 = W.heap.size ∧ (iv' i).2 ≤ W'.heap.size) →
        wpAnyIn (FW r) 0 P .any ops Q (m + (ops.size - sps.length)) (listed.setIfInBounds i true) (a.put o.dst v) W' := by
      intro v W' vals' iv' hv' hiv' hev hC' hsz hfacts hSi
      have hset : ∀ j, (listed.setIfInBounds i true).getD j false = if j = i then true else listed.getD j false := by
        intro j
        by_cases hij : i = j
        · subst hij
          have : i < listed.size := by rw [inv.size]; exact hlt
          simp [this]
        · rw [getD_set_ne false hij, if_neg (Ne.symm hij)]
      refine ih _ _ _ vals' iv' ⟨by simp [inv.size], ?_, hC', ?_, ?_, ?_, ?_⟩ ?_
      · intro j oj hj hf e he hb
        simp only [hset] at hf ⊢
        by_cases hji : j = i
        · subst hji; rw [ho] at hj; cases hj
          have := hall e he hb
          by_cases hei : e.on = j
          · simp [hei]
          · simp [hei]; simpa using this
        · rw [if_neg hji] at hf
          have := inv.closed j oj hj hf e he hb
          by_cases hei : e.on = i
          · simp [hei]
          · simp [hei]; simpa using this
      · rw [inv.frame]
        have hdst : o.dst = dstOf ops i := by simp [dstOf, ho]
        rw [hdst, putsL_insert (f := fun j => listed.getD j false) hui sps.length hin (fun j hij hj hf d hdj hdi => by
          have := hconf i j o d hin hj (by omega) ho hdj (.inr hdi)
          rw [if_neg (by omega)] at this
          rw [hnot j this] at hf; cases hf)]
        refine putsL_ext _ (fun j _ => (hset j).symm) (fun j hj hf => ?_)
        by_cases hji : j = i
        · subst hji; simp only [if_true]; exact hev.symm
        · simp only [hji, if_false]
          simp only [effv, hv' j hji]
      · intro j S hf hS
        rw [hset] at hf
        by_cases hji : j = i
        · subst hji; exact ⟨(hSi S hS).1, (hSi S hS).2.2⟩
        · rw [if_neg hji] at hf
          rw [hv' j hji, hiv' j hji]
          exact ⟨hfacts j S hf hS, Nat.le_trans (inv.facts j S hf hS).2 hsz⟩
      · intro j k S S' hjk hfj hfk hSj hSk
        rw [hset] at hfj hfk
        by_cases hji : j = i
        · subst hji
          have hki : k ≠ j := Ne.symm hjk
          rw [if_neg hki] at hfk
          rw [hiv' k hki]
          right
          rw [(hSi S hSj).2.1]
          exact (inv.facts k S' hfk hSk).2
        · rw [if_neg hji] at hfj
          rw [hiv' j hji]
          by_cases hki : k = i
          · subst hki
            left
            rw [(hSi S' hSk).2.1]
            exact (inv.facts j S hfj hSj).2
          · rw [if_neg hki] at hfk
            rw [hiv' k hki]
            exact inv.apart j k S S' hjk hfj hfk hSj hSk
      · intro j hj
        rw [hset, if_neg (by omega)]
        exact inv.tail j hj
      · have h1 := left_set (f := fun j => listed.getD j false) hui sps.length hin
        have h2 : left (fun j => (listed.setIfInBounds i true).getD j false) sps.length = left (fun j => if j = i then true else listed.getD j false) sps.length := by
          congr 1; funext j; exact hset j
        omega
    cases hsp : sps[i]? with
    | none => exact absurd (List.getElem?_eq_none_iff.1 hsp) (by omega)
    | some sp =>
      cases sp with
      | n =>
        have hwf := hO.n hsp
        unfold wpOpIn
        simp only [ho]
        rw [if_neg (by rw [hw, hwf]; simp)]
        exact ⟨fun _ _ => trivial, go undef W vals iv (fun _ _ => rfl) (fun _ _ => rfl) (by simp [effv, hsp, Sp.eff]) inv.world (Nat.le_refl _) (fun j S hf hS => (inv.facts j S hf hS).1) (fun S hS => (by rw [hsp] at hS; cases hS))⟩
      | c v =>
        obtain ⟨hwt, hy⟩ := hO.c v hsp
        refine wpOpIn_yi (S := fun u W' => u = v ∧ T W W') (C := C) (T := T) ho (by rw [hw]; exact hwt) hex ?_ (fun u W' hu hC' hT' => ?_)
        · have := hy W inv.world henv
          generalize (execOp (putsL ops (fun _ => true) (effv sps vals) a0 i).eval o).run P W = res at this
          cases res with
          | ok x W' =>
            cases x <;> simp only [yi] at this ⊢ <;> first
              | exact ⟨⟨this.1, this.2.2⟩, this.2⟩
              | exact this.mono fun e w'' he => (by cases e <;> first | exact ⟨⟨he.1, he.2.2⟩, he.2⟩ | exact he.elim)
          | halt x W' => simp only [yi] at this
        · obtain ⟨rfl, _⟩ := hu
          exact go u W' vals iv (fun _ _ => rfl) (fun _ _ => rfl) (by simp [effv, hsp, Sp.eff]) hC' (hT _ _ hT') (fun j S hf hS => by
            have hjn : j < sps.length := by
              rcases Nat.lt_or_ge j sps.length with h | h
              · exact h
              · rw [inv.tail j h] at hf; cases hf
            have hoj : ops[j]? = some ops[j] := Array.getElem?_eq_getElem (by omega)
            exact ((hob vals iv j _ hjn hoj).s S hS).2.1 _ _ _ _ _ (inv.facts j S hf hS).1 hT') (fun S hS => (by rw [hsp] at hS; cases hS))
      | s S =>
        obtain ⟨hwt, hst, hy⟩ := hO.s S hsp
        refine wpOpIn_yi (S := fun v W' => S v W.heap.size W'.heap.size W') (C := C) (T := T) ho (by rw [hw]; exact hwt) hex (hy W inv.world henv) (fun u W' hu hC' hT' => ?_)
        refine go u W' (fun j => if j = i then u else vals j) (fun j => if j = i then (W.heap.size, W'.heap.size) else iv j) (fun j hj => by simp [hj]) (fun j hj => by simp [hj]) (by simp [effv, hsp, Sp.eff]) hC' (hT _ _ hT') (fun j S' hf hS' => ?_) (fun S' hS' => (by rw [hsp] at hS'; cases hS'; simpa using hu))
        have hjn : j < sps.length := by
          rcases Nat.lt_or_ge j sps.length with h | h
          · exact h
          · rw [inv.tail j h] at hf; cases hf
        have hoj : ops[j]? = some ops[j] := Array.getElem?_eq_getElem (by omega)
        exact ((hob vals iv j _ hjn hoj).s S' hS').2.1 _ _ _ _ _ (inv.facts j S' hf hS').1 hT'

theorem c_drawR {id : Nat} {os : List Oper} (sps : List Sp) {a0 : Act} {W0 : World} (hT : ∀ W W', T W W' → W.heap.size ≤ W'.heap.size) (hm : P.follows .mixedOrders = true) (hd : drawR os.toArray sps.length = true) (hC : C { W0 with drawn := W0.drawn + 1 })
    (h : OB P os.toArray C T (fun a W => wpAnyIn (FW r) 0 P .any os.toArray Q (os.toArray.size - sps.length) (firstN os.toArray.size sps.length) a W) sps 0 os a0 (fun _ _ => True) []) : (Code.region id os.toArray true).wpIn (FW r) 0 P Q a0 W0 := by
  obtain ⟨_, hnn, _, _, _⟩ := drawR_spec hd
  have hall : ∀ vals iv, _ := fun vals iv => ob_extract (P := P) (ops := os.toArray) (C := C) (T := T) (sps := sps) (a0 := a0) vals iv sps 0 os (fun j => by simp) (by simp) (fun j hj => by simp) h
  refine wpIn_region_any hm ?_
  have hz : ∀ j, (Array.replicate os.toArray.size false).getD j false = false := by
    intro j
    rw [Array.getD_eq_getD_getElem?, Array.getElem?_replicate]
    split <;> rfl
  have hleft : ∀ k, left (fun j => (Array.replicate os.toArray.size false).getD j false) k = k := by
    intro k
    induction k with
    | zero => rfl
    | succ k ih => simp only [left]; rw [ih]; simp only [hz]; rfl
  have hp : ∀ k, putsL os.toArray (fun j => (Array.replicate os.toArray.size false).getD j false) (effv sps (fun _ => undef)) a0 k = a0 := by
    intro k
    induction k with
    | zero => rfl
    | succ k ih => simp only [hz] at ih ⊢; simp only [putsL]; rw [ih]; rfl
  have := draw_anyR (r := r) (Q := Q) hT hd (fun vals iv k o hk ho => (hall vals iv).1 k o (Nat.zero_le _) hk ho) (fun vals iv W hC hE hA => by have := (hall vals iv).2 W hC hE hA; simpa using this)
    sps.length (Array.replicate os.toArray.size false) a0 { W0 with drawn := W0.drawn + 1 } (fun _ => undef) (fun _ => (0, 0))
    ⟨by simp, fun i o hi hf => (by simp only [hz] at hf; cases hf), hC, (hp _).symm, fun j S hf => (by rw [hz] at hf; cases hf), fun i j S S' _ hf => (by rw [hz] at hf; cases hf), fun j _ => hz j⟩ (hleft _)
  rwa [show sps.length + (os.toArray.size - sps.length) = os.toArray.size by omega] at this

/-- What is left, one by one. -/
theorem any_go {k : Nat} {listed : Array Bool} {L : List Nat} {a : Act} {w : World} (hL : Region.ready .any ops listed = L) (hne : L ≠ [])
    (h : ∀ i ∈ L, ∃ o, ops[i]? = some o ∧ WL r P ops (Exit.then (fun a w => wpAnyIn (FW r) 0 P .any ops Q k (listed.setIfInBounds i true) a w) Q) [o] a w) : wpAnyIn (FW r) 0 P .any ops Q (k + 1) listed a w := by
  refine ⟨fun h0 => absurd (hL.symm.trans h0) hne, fun i hi => ?_⟩
  obtain ⟨o, ho, hw⟩ := h i (hL ▸ hi)
  unfold wpOpIn
  rw [ho]
  have h' : wpListIn (FW r) 0 P ops (Exit.then (fun a w => wpAnyIn (FW r) 0 P .any ops Q k (listed.setIfInBounds i true) a w) Q) [o] a w := hw
  simp only [wpListIn] at h'
  exact h'
theorem any_end {listed : Array Bool} {a : Act} {w : World} (hL : Region.ready .any ops listed = []) (k : Q .normal a w) : wpAnyIn (FW r) 0 P .any ops Q 0 listed a w := ⟨hL, k⟩
end
end Go.Proofs.Ytfdffeameoejfaa
