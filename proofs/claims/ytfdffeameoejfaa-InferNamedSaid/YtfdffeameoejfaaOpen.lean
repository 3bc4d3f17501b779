/- How arguments are opened: a type's cells as data of Lean's own. -/
import Derived.Test.YtfdffeameoejfaaLaw
import Derived.Test.YtfdffeameoejfaaLists
namespace Go.Proofs.Ytfdffeameoejfaa
set_option linter.unusedSimpArgs false
open Go Go.ChangeShapes Go.WideShapes Go.ChangeAt Go.RowKit Go.Deep
set_option linter.unusedVariables false

section
variable {H : Type} {enc : TypeId × Value → H} {P : Program} {W : World}

/-- Cells of type t that are read are cells of a datum. -/
def Opens {H : Type} (enc : TypeId × Value → H) (P : Program) (W : World) (t : TypeId) {α : Type} (cf : α → List Value) (ok : α → Prop) : Prop :=
  ∀ (fuel : Nat) (cs : List Value) (x : DataW H × List MemPlace), DataW.trod enc P W 0 (fun _ => true) true fuel t cs = some x → ∃ a, cs = cf a ∧ ok a


theorem opens_i64 {t : TypeId} (ht : P.underlying t = some (.int .i64)) : Opens enc P W t (fun n : Int => [i64 n]) wfI := by
  intro fuel cs x h
  obtain ⟨n, rfl, _, hw⟩ := DataW.trod_int ht h
  exact ⟨n, rfl, wf64 hw⟩
theorem opens_u8 {t : TypeId} (ht : P.underlying t = some (.int .u8)) : Opens enc P W t (fun n : Int => [u8 n]) wfB := by
  intro fuel cs x h
  obtain ⟨n, rfl, _, hw⟩ := DataW.trod_int ht h
  exact ⟨n, rfl, wfu8 hw⟩
theorem opens_set {t e : TypeId} (ht : P.underlying t = some (.array 4 e)) (he : P.underlying e = some (.int .u32)) (hc : P.cellsOf e = 1) (hC : P.cellsOf t = 4) : Opens enc P W t S4.cells S4.wfu := by
  intro fuel cs x h
  obtain ⟨xs, m, rfl, _, hl, _, hi⟩ := DataW.trod_array ht h
  rw [hC] at hl
  match cs, hl with
  | [a, b, c, d], _ =>
    rw [hc] at hi
    have g : ∀ i, i < 4 → ∃ v y, ([a, b, c, d].drop i).take 1 = [v] ∧ DataW.trod enc P W 0 (fun _ => true) true m e [v] = some y := by
      intro i hi4
      have h1 := hi i hi4
      rw [Nat.mul_one] at h1
      have hx : ∃ y, xs[i]? = some y := ⟨_, List.getElem?_eq_getElem (by omega)⟩
      obtain ⟨y, hy⟩ := hx
      rw [hy] at h1
      match i, hi4 with
      | 0, _ => exact ⟨a, y, rfl, h1⟩
      | 1, _ => exact ⟨b, y, rfl, h1⟩
      | 2, _ => exact ⟨c, y, rfl, h1⟩
      | 3, _ => exact ⟨d, y, rfl, h1⟩
    obtain ⟨v0, y0, e0, t0⟩ := g 0 (by decide)
    obtain ⟨v1, y1, e1, t1⟩ := g 1 (by decide)
    obtain ⟨v2, y2, e2, t2⟩ := g 2 (by decide)
    obtain ⟨v3, y3, e3, t3⟩ := g 3 (by decide)
    obtain ⟨n0, r0, _, w0⟩ := DataW.trod_int he t0
    obtain ⟨n1, r1, _, w1⟩ := DataW.trod_int he t1
    obtain ⟨n2, r2, _, w2⟩ := DataW.trod_int he t2
    obtain ⟨n3, r3, _, w3⟩ := DataW.trod_int he t3
    simp at e0 e1 e2 e3 r0 r1 r2 r3
    subst e0; subst e1; subst e2; subst e3; subst r0; subst r1; subst r2; subst r3
    exact ⟨⟨n0, n1, n2, n3⟩, rfl, wfu32 w0, wfu32 w1, wfu32 w2, wfu32 w3⟩

theorem opens_N3 {t : TypeId} {fs : Array Field} (hE : P.underlying t = some (.struct fs)) (hone : oneCellFields P fs = true) (hC : P.cellsOf t = fs.size) (h3 : fs.size = 3)
    (hI : ∀ (j : Nat) (f : Field), fs[j]? = some f → P.underlying f.type = some (.int .i64)) : Opens enc P W t N3.cells N3.wf := by
  intro fuel cs x h
  obtain ⟨xs, m, rfl, _, hl, hxl, hi⟩ := DataW.trod_struct hE h
  rw [hC, h3] at hl
  match cs, hl with
  | [a, b, c], _ =>
    have g : ∀ i, i < 3 → ∃ v y tt, ([a, b, c].drop i).take 1 = [v] ∧ P.underlying tt = some (.int .i64) ∧ DataW.trod enc P W 0 (fun _ => true) true m tt [v] = some y := by
      intro i hi3
      obtain ⟨f, hf⟩ : ∃ f, fs[i]? = some f := ⟨_, Array.getElem?_eq_getElem (by omega)⟩
      have h1 := hi i f hf
      obtain ⟨ho, hk⟩ := hone_of hone i f hf
      rw [ho, hk] at h1
      obtain ⟨y, hy⟩ : ∃ y, xs[i]? = some y := ⟨_, List.getElem?_eq_getElem (by omega)⟩
      rw [hy] at h1
      match i, hi3 with
      | 0, _ => exact ⟨a, y, _, rfl, hI _ _ hf, h1⟩
      | 1, _ => exact ⟨b, y, _, rfl, hI _ _ hf, h1⟩
      | 2, _ => exact ⟨c, y, _, rfl, hI _ _ hf, h1⟩
    obtain ⟨v0, y0, s0, e0, u0, t0⟩ := g 0 (by decide)
    obtain ⟨v1, y1, s1, e1, u1, t1⟩ := g 1 (by decide)
    obtain ⟨v2, y2, s2, e2, u2, t2⟩ := g 2 (by decide)
    obtain ⟨n0, r0, _, w0⟩ := DataW.trod_int u0 t0
    obtain ⟨n1, r1, _, w1⟩ := DataW.trod_int u1 t1
    obtain ⟨n2, r2, _, w2⟩ := DataW.trod_int u2 t2
    simp at e0 e1 e2 r0 r1 r2
    subst e0; subst e1; subst e2; subst r0; subst r1; subst r2
    exact ⟨⟨n0, n1, n2⟩, rfl, wf64 w0, wf64 w1, wf64 w2⟩

def SLs.lies {α : Type} (cf : α → List Value) (s : Nat) (W : World) (ok : α → Prop) (q : SLs α) : Prop := Ls cf s W q.g q.A q.xs ∧ (∀ x ∈ q.xs, ok x) ∧ q.xs.length ≤ maxLen

theorem opens_slice {α : Type} {cf : α → List Value} {ok : α → Prop} {s : Nat} {t e : TypeId} (hT : P.underlying t = some (.slice e)) (hC : P.cellsOf e = s) (h0 : 0 < s) (hs : ∀ a, (cf a).length = s) (he : Opens enc P W e cf ok) :
    Opens enc P W t (SLs.cells (α := α)) (SLs.lies cf s W ok) := by
  intro fuel cs x h
  rcases open_slice hT h with ⟨rfl, _⟩ | ⟨a, len, cap, m, n, D, Pl, rfl, _, hl, hm, hmm, _, hi⟩
  · exact ⟨⟨none, 0, 0, []⟩, rfl, Ls.nil, by simp, by simp [maxLen]⟩
  · simp only [if_true] at hmm
    subst hmm
    rw [hC] at hi
    have key : ∀ i, i < len → ∃ x : α, ok x ∧ ∀ j u, (cf x)[j]? = some u → W.cell? (a.add (i * s + j)) = some u := by
      intro i hil
      obtain ⟨cs', hc, ht⟩ := hi i (by omega)
      obtain ⟨y, rfl, hy⟩ := he _ _ _ ht
      obtain ⟨_, hcl, hat⟩ := World.cells?_some hc
      refine ⟨y, hy, fun j u hj => ?_⟩
      have hjl : j < s := by rw [← hs y]; exact (List.getElem?_eq_some_iff.1 hj).1
      have := hat j hjl
      rw [← Go.Deep.add_add, this]; exact hj
    by_cases hz : len = 0
    · subst hz
      exact ⟨⟨some a, _, 0, []⟩, rfl, fun hn => (by simp at hn), by simp, by simp [maxLen]⟩
    · have hn : Nonempty α := ⟨Classical.choose (key 0 (by omega))⟩
      have hch : ∃ F : Nat → α, ∀ i, i < len → ok (F i) ∧ ∀ j u, (cf (F i))[j]? = some u → W.cell? (a.add (i * s + j)) = some u := by
        refine ⟨fun i => if h : i < len then Classical.choose (key i h) else Classical.choice hn, fun i h => ?_⟩
        simp only [dif_pos h]
        exact Classical.choose_spec (key i h)
      obtain ⟨F, hF⟩ := hch
      obtain ⟨b, o, sp⟩ := a
      have hlen : ((List.range len).map F).length = len := by simp
      have hat : ∀ i (x : α), ((List.range len).map F)[i]? = some x → i < len ∧ x = F i := by
        intro i x hx'
        rw [List.getElem?_map] at hx'
        by_cases h : i < len
        · rw [List.getElem?_range h] at hx'; simp at hx'; exact ⟨h, hx'.symm⟩
        · rw [List.getElem?_eq_none (by simp; omega)] at hx'; cases hx'
      have hsp : sp = none := by
        have h00 : ∃ u, (cf (F 0))[0]? = some u := ⟨_, List.getElem?_eq_getElem (by rw [hs]; exact h0)⟩
        obtain ⟨u, hu⟩ := h00
        have := (hF 0 (by omega)).2 0 _ hu
        cases sp with
        | none => rfl
        | some s => exfalso; simp [Addr.add, World.cell?] at this; split at this <;> cases this
      subst hsp
      refine ⟨⟨some ⟨b, o, none⟩, m, b, (List.range len).map F⟩, by simp only [SLs.cells, hlen], fun _ => ?_, ?_, by rw [hlen]; omega⟩
      · refine ⟨o, rfl, fun i x hx' j u hj => ?_⟩
        obtain ⟨h1, rfl⟩ := hat i x hx'
        have := (hF i h1).2 j u hj
        rw [addr_add] at this
        rw [Nat.add_assoc]; exact this
      · intro x hx'
        obtain ⟨i, hi', rfl⟩ := List.mem_map.1 hx'
        exact (hF i (List.mem_range.1 hi')).1

/-- An argument that is a list. -/
theorem open_list {α : Type} {cf : α → List Value} {ok : α → Prop} {s : Nat} {t e : TypeId} (hT : P.underlying t = some (.slice e)) (hC : P.cellsOf e = s) (h0 : 0 < s) (hs : ∀ a, (cf a).length = s) (he : Opens enc P W e cf ok)
    {v : Value} {d : DataW H} {p : List MemPlace} {b0 : Nat} (hv : Value.okWide P W .any b0 t v) (h : DataW.Trod enc P W 0 (fun _ => true) true t v d p) :
    ∃ q : SLs α, v = .slice q.A q.xs.length q.c ∧ Ls cf s W q.g q.A q.xs ∧ (∀ x ∈ q.xs, ok x) ∧ q.xs.length ≤ maxLen := by
  obtain ⟨A, len, cap, rfl⟩ := okWide_slice hT hv
  obtain ⟨fuel, hf⟩ := h
  obtain ⟨q, hq, h1, h2, h3⟩ := opens_slice hT hC h0 hs he _ _ _ hf
  have : (Value.slice A len cap) = .slice q.A q.xs.length q.c := by simpa [Value.cells] using hq
  exact ⟨q, this, h1, h2, h3⟩
theorem open_set {t e : TypeId} (ht : P.underlying t = some (.array 4 e)) (he : P.underlying e = some (.int .u32)) (hc : P.cellsOf e = 1) (hC : P.cellsOf t = 4)
    {v : Value} {d : DataW H} {p : List MemPlace} (h : DataW.Trod enc P W 0 (fun _ => true) true t v d p) : ∃ s : S4, v = S4.val s ∧ s.wfu := by
  obtain ⟨fuel, hf⟩ := h
  obtain ⟨s, hq, hs⟩ := opens_set ht he hc hC _ _ _ hf
  refine ⟨s, ?_, hs⟩
  cases v with
  | agg xs => simp only [Value.cells] at hq; unfold S4.val; rw [← hq, Array.toArray_toList]
  | _ => simp [Value.cells] at hq
end
end Go.Proofs.Ytfdffeameoejfaa
