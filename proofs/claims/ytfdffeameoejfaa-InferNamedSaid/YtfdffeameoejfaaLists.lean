/- Lists of lists, lists of books that turn. -/
import Derived.Test.YtfdffeameoejfaaBooks
namespace Go.Proofs.Ytfdffeameoejfaa
set_option linter.unusedVariables false
open Go Go.RowKit
set_option linter.unusedSimpArgs false

@[reducible] def B1.cells (x : Int) : List Value := [u8 x]
@[reducible] def I1.cells (x : Int) : List Value := [i64 x]
@[reducible] def P1.cells (x : Nat) : List Value := [ptr x 0]

def wfI (n : Int) : Prop := -9223372036854775808 ≤ n ∧ n ≤ 9223372036854775807
def wfU (n : Int) : Prop := 0 ≤ n ∧ n ≤ 4294967295
def wfB (n : Int) : Prop := 0 ≤ n ∧ n ≤ 255
def S4.wfu (s : S4) : Prop := wfU s.a ∧ wfU s.b ∧ wfU s.c ∧ wfU s.d

/-- A list that lies in memory. -/
structure SLs (α : Type) where
  A : Option Addr
  c : Nat
  g : Nat
  xs : List α
@[reducible] def SLs.cells {α : Type} (q : SLs α) : List Value := [.slice q.A q.xs.length q.c]
instance {α : Type} : Inhabited (SLs α) := ⟨⟨none, 0, 0, []⟩⟩

section
variable {α : Type} {cf : α → List Value} {s : Nat} {w w' : World} {A : Option Addr} {g N : Nat} {xs : List α}
theorem Ls.elAt (h : Ls cf s w g A xs) {k : Nat} {x : α} (hx : xs[k]? = some x) : ∃ o, A = some ⟨g, o, Option.none⟩ ∧ El w g (o + k * s) (cf x) := by
  have hk : k < xs.length := (List.getElem?_eq_some_iff.1 hx).1
  obtain ⟨y, o, hy, hA, he⟩ := h.el hk
  rw [hx] at hy; cases hy
  exact ⟨o, hA, he⟩

/-- All of some lists. -/
def Lls (cf : α → List Value) (s : Nat) (w : World) (qs : List (SLs α)) : Prop := ∀ q ∈ qs, Ls cf s w q.g q.A q.xs
variable {qs : List (SLs α)}
theorem Lls.ext0 (h : Lls cf s w qs) (x : Ext [] w w') : Lls cf s w' qs := fun q hq => (h q hq).ext0 x
theorem Lls.ext1 {c : Nat} (h : Lls cf s w qs) (x : Ext [c] w w') (hc : ∀ q ∈ qs, q.g ≠ c ∨ q.xs.length = 0) : Lls cf s w' qs := fun q hq => (h q hq).ext1 x (hc q hq)
theorem Lls.ext {L : List Nat} (h : Lls cf s w qs) (x : Ext L w w') (hc : ∀ q ∈ qs, q.g ∉ L ∨ q.xs.length = 0) : Lls cf s w' qs := fun q hq => (h q hq).ext x (fun hm => (hc q hq).resolve_left (fun hn => hn hm))
theorem Lls.its {M : Nat} (h : Lls cf s w qs) (x : Its M w w') : Lls cf s w' qs := fun q hq => (h q hq).its x
theorem Lls.lt (hs : ∀ x, cf x ≠ []) (h : Lls cf s w qs) : ∀ q ∈ qs, q.g < w.heap.size ∨ q.xs.length = 0 := fun q hq => (h q hq).lt hs

/-- A block of another type is none of a list's own. -/
theorem Ow.neBlk {e e' : TypeId} {v : Value} {cs : List Value} {b : Nat} (h : Ow N e cf s w v xs) (hb : Blk w b e' cs) (hne : e ≠ e') : b ∉ obl v := by
  intro hm
  rcases h.2 with ⟨rfl, _⟩ | ⟨g, cap, cur, rfl, _, hg, _⟩
  · simp [obl] at hm
  · simp only [obl, List.mem_singleton] at hm
    subst hm
    unfold Blk at hb
    rw [hg] at hb
    simp at hb
    exact hne hb.2
theorem Blk.neT {e e' : TypeId} {cs cs' : List Value} {b b' : Nat} (h : Blk w b e cs) (h' : Blk w b' e' cs') (hne : e ≠ e') : b ≠ b' := by
  rintro rfl
  unfold Blk at h h'
  rw [h] at h'
  simp at h'
  exact hne h'.2
end

/-- A new list among operations whose order is drawn. -/
def SLf {α : Type} (cf : α → List Value) (s N : Nat) (ys : List α) (v : Value) (lo hi : Nat) (W : World) : Prop := ∃ A c g, v = .slice A ys.length c ∧ Ls cf s W g A ys ∧ ((N ≤ g ∧ lo ≤ g ∧ g < hi) ∨ ys.length = 0)
theorem SLf.ext0 {α : Type} {cf : α → List Value} {s N lo hi : Nat} {ys : List α} {v : Value} {W W' : World} (h : SLf cf s N ys v lo hi W) (x : Ext [] W W') : SLf cf s N ys v lo hi W' := by
  obtain ⟨A, c, g, h1, h2, h3⟩ := h; exact ⟨A, c, g, h1, h2.ext0 x, h3⟩
theorem slf_of {P : Program} {f : FuncId} {args : Array Value} {α : Type} {cf : α → List Value} {s N : Nat} {ys : List α} {W : World} (hs : ∀ x, cf x ≠ []) (hN : N ≤ W.heap.size)
    (h : Calls P f args W (Ret (fun v w' => ∃ A' c' g', v = .slice A' ys.length c' ∧ Ls cf s w' g' A' ys ∧ (W.heap.size ≤ g' ∨ ys.length = 0) ∧ Ext [] W w'))) :
    Calls P f args W (Ret fun v W' => SLf cf s N ys v W.heap.size W'.heap.size W' ∧ Ext [] W W') := by
  refine h.mono fun e W' he => ?_
  cases e with
  | returned v =>
    obtain ⟨A, c, g, rfl, hl, hg, hx⟩ := he
    refine ⟨⟨A, c, g, rfl, hl, ?_⟩, hx⟩
    rcases hg with h1 | h1
    · rcases hl.lt hs with h2 | h2
      · exact .inl ⟨by omega, h1, h2⟩
      · exact .inr h2
    · exact .inr h1
  | panicked ch => exact he.elim
  | outgrown => exact he.elim

section
variable {w w' : World} {qs : List Bok}
theorem Ow.neBks {α : Type} {cf : α → List Value} {s N : Nat} {xs : List α} {e : TypeId} {v : Value} (h : Ow N e cf s w v xs) (hB : Bks w qs) (h1 : e ≠ 123) (h2 : e ≠ 28) : ∀ q ∈ qs, q.p ∉ obl v ∧ q.b ∉ obl v := by
  intro q hq
  obtain ⟨c, r, hp, hb⟩ := hB q hq
  exact ⟨h.neBlk hp h1, h.neBlk hb h2⟩
theorem Blk.neBks {e : TypeId} {cs : List Value} {g : Nat} (h : Blk w g e cs) (hB : Bks w qs) (h1 : e ≠ 123) (h2 : e ≠ 28) : ∀ q ∈ qs, g ≠ q.p ∧ g ≠ q.b := by
  intro q hq
  obtain ⟨c, r, hp, hb⟩ := hB q hq
  exact ⟨h.neT hp h1, h.neT hb h2⟩
theorem Bks.snoc {p b : Nat} {xs : List N3} (h : Bks w qs) (hB : Bk w p b xs) : Bks w (qs ++ [Bok.mk p b xs]) := by
  intro q hq
  rcases List.mem_append.1 hq with h1 | h1
  · exact h q h1
  · simp at h1; subst h1; exact hB
theorem nodup_snoc {l : List Nat} {x : Nat} (h : l.Nodup) (hx : x ∉ l) : (l ++ [x]).Nodup := by
  rw [List.nodup_append]
  exact ⟨h, by simp, fun a ha b hb => by simp at hb; subst hb; rintro rfl; exact hx ha⟩
theorem Bks.ofNil : Bks w [] := by intro q hq; cases hq

/-- A book among others with another list. -/
def setB (qs : List Bok) (j : Nat) (X : List N3) : List Bok := match qs[j]? with
  | some q => qs.set j ⟨q.p, q.b, X⟩
  | none => qs
variable {j : Nat} {q : Bok} {X : List N3}
theorem setB_eq (hj : qs[j]? = some q) : setB qs j X = qs.set j ⟨q.p, q.b, X⟩ := by unfold setB; rw [hj]
theorem setB_b (hj : qs[j]? = some q) : (setB qs j X).map Bok.b = qs.map Bok.b := by
  rw [setB_eq hj, List.map_set]
  apply List.ext_getElem?
  intro i
  rw [List.getElem?_set]
  split
  · rename_i h; subst h
    split
    · rw [List.getElem?_map, hj]; rfl
    · rename_i h2; simp at h2; rw [List.getElem?_eq_none (by simp; omega)]
  · rfl
theorem setB_xs (hj : qs[j]? = some q) : (setB qs j X).map Bok.xs = (qs.map Bok.xs).set j X := by rw [setB_eq hj, List.map_set]
theorem setB_cells (hj : qs[j]? = some q) : (setB qs j X).flatMap Bok.cells = qs.flatMap Bok.cells := by
  rw [setB_eq hj]
  have key : ∀ (l : List Bok) (i : Nat), l[i]? = some q → (l.set i ⟨q.p, q.b, X⟩).flatMap Bok.cells = l.flatMap Bok.cells := by
    intro l
    induction l with
    | nil => intro i h; simp at h
    | cons y l ih =>
      intro i h
      cases i with
      | zero => simp at h; subst h; rfl
      | succ i => simp only [List.set, List.flatMap_cons]; rw [ih i (by simpa using h)]
  exact key _ _ hj
theorem setB_len (hj : qs[j]? = some q) : (setB qs j X).length = qs.length := by rw [setB_eq hj, List.length_set]
theorem Bks_set (h : Bks w qs) (hx : Ext [q.b] w w') (hj : qs[j]? = some q) (hB : Bk w' q.p q.b X) (hnd : (qs.map Bok.b).Nodup) : Bks w' (setB qs j X) := by
  rw [setB_eq hj]
  intro r hr
  obtain ⟨i, hi⟩ := List.getElem?_of_mem hr
  rw [List.getElem?_set] at hi
  split at hi
  · split at hi
    · cases hi; exact hB
    · cases hi
  · rename_i hne
    have hrm : r ∈ qs := List.mem_of_getElem? hi
    refine (h r hrm).ext1 hx ⟨?_, ?_⟩
    · obtain ⟨c, r1, hp, hb⟩ := h r hrm
      obtain ⟨c2, r2, hp2, hb2⟩ := h q (List.mem_of_getElem? hj)
      exact hp.neT hb2 (by decide)
    · intro e
      have h1 : (qs.map Bok.b)[i]? = some r.b := by rw [List.getElem?_map, hi]; rfl
      have h2 : (qs.map Bok.b)[j]? = some q.b := by rw [List.getElem?_map, hj]; rfl
      have hil : i < (qs.map Bok.b).length := (List.getElem?_eq_some_iff.1 h1).1
      exact hne (((List.getElem?_inj hil hnd).1 (by rw [h1, h2, e])).symm)
end
end Go.Proofs.Ytfdffeameoejfaa
