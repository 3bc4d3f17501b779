/- Lists in memory, lists of the function's own that grow, and the laws for making and appending them. -/
import Derived.Test.YtfdffeameoejfaaSets
import Derived.Laws.MakeOwn
import Derived.Maps.AppendAt
import Derived.Laws.Cover3
import Derived.Laws.Pointers
namespace Go.Proofs.Ytfdffeameoejfaa
set_option linter.unusedVariables false
open Go Go.RowKit
set_option linter.unusedSimpArgs false

/-- A list in memory, in block g. -/
def Ls {α : Type} (cf : α → List Value) (s : Nat) (w : World) (g : Nat) (A : Option Addr) (xs : List α) : Prop :=
  xs ≠ [] → ∃ o, A = some ⟨g, o, none⟩ ∧ ∀ (i : Nat) (x : α), xs[i]? = some x → El w g (o + i * s) (cf x)

section
variable {α : Type} {cf : α → List Value} {s g : Nat} {w w' : World} {A : Option Addr} {xs : List α}
theorem El.ext {b o : Nat} {cs : List Value} {L : List Nat} (h : El w b o cs) (x : Ext L w w') (hc : b ∉ L) : El w' b o cs := fun j v hv => cell_keep (h j v hv) x hc
theorem Ls.ext {L : List Nat} (h : Ls cf s w g A xs) (x : Ext L w w') (hL : g ∈ L → xs.length = 0) : Ls cf s w' g A xs := fun hn => by
  obtain ⟨o, hA, hc⟩ := h hn
  exact ⟨o, hA, fun i y hy => (hc i y hy).ext x (fun hg => hn (List.eq_nil_of_length_eq_zero (hL hg)))⟩
theorem Ls.ext0 (h : Ls cf s w g A xs) (x : Ext [] w w') : Ls cf s w' g A xs := h.ext x (by simp)
theorem Ls.ext1 {c : Nat} (h : Ls cf s w g A xs) (x : Ext [c] w w') (hc : g ≠ c ∨ xs.length = 0) : Ls cf s w' g A xs := h.ext x (fun hg => by simp at hg; omega)
theorem Ls.its {M : Nat} (h : Ls cf s w g A xs) (x : Its M w w') : Ls cf s w' g A xs := fun hn => by
  obtain ⟨o, hA, hc⟩ := h hn
  exact ⟨o, hA, fun i y hy => (hc i y hy).its x⟩
theorem El.rnd {b o : Nat} {S L : List Nat} {cs : List Value} (h : El w b o cs) (x : Rnd S L w w') (hL : b ∉ L) (hS : b ∉ S) : El w' b o cs := fun j v hv => by
  have := h j v hv
  have hlt : b < w.heap.size := by
    rcases Nat.lt_or_ge b w.heap.size with h1 | h1
    · exact h1
    · unfold World.cell? at this; rw [Array.getElem?_eq_none h1] at this; cases this
  unfold World.cell? at this ⊢
  rw [x.low b hlt hL hS]
  exact this
theorem Ls.rnd {S L : List Nat} (h : Ls cf s w g A xs) (x : Rnd S L w w') (hL : (g ∉ L ∧ g ∉ S) ∨ xs.length = 0) : Ls cf s w' g A xs := fun hn => by
  have h0 : xs.length ≠ 0 := fun e => hn (List.eq_nil_of_length_eq_zero e)
  obtain ⟨o, hA, hc⟩ := h hn
  exact ⟨o, hA, fun i y hy => (hc i y hy).rnd x (hL.resolve_right h0).1 (hL.resolve_right h0).2⟩
theorem Ls.nil : Ls cf s w g A [] := fun h => absurd rfl h
theorem Ls.el (h : Ls cf s w g A xs) {k : Nat} (hk : k < xs.length) : ∃ x o, xs[k]? = some x ∧ A = some ⟨g, o, none⟩ ∧ El w g (o + k * s) (cf x) := by
  obtain ⟨o, hA, hc⟩ := h (by intro e; subst e; simp at hk)
  exact ⟨xs[k], o, List.getElem?_eq_getElem hk, hA, hc _ _ (List.getElem?_eq_getElem hk)⟩
theorem El.lt {b o : Nat} {cs : List Value} (h : El w b o cs) (h0 : cs ≠ []) : b < w.heap.size := by
  cases cs with
  | nil => exact absurd rfl h0
  | cons c cs =>
    have := h 0 c rfl
    rcases Nat.lt_or_ge b w.heap.size with h1 | h1
    · exact h1
    · unfold World.cell? at this; rw [Array.getElem?_eq_none h1] at this; cases this
theorem Ls.lt (h : Ls cf s w g A xs) (hc : ∀ x, cf x ≠ []) : g < w.heap.size ∨ xs.length = 0 := by
  cases xs with
  | nil => right; rfl
  | cons x xs =>
    left
    obtain ⟨y, o, _, _, he⟩ := h.el (k := 0) (by simp)
    exact he.lt (hc y)
theorem Ls.ne_loop (h : Ls cf s w g A xs) (hc : ∀ x, cf x ≠ []) {l : Nat} {lp : Loop} (hl : w.heap[l]? = some (.loop lp)) : g ≠ l ∨ xs.length = 0 := by
  cases xs with
  | nil => right; rfl
  | cons x xs =>
    left
    obtain ⟨y, o, _, _, he⟩ := h.el (k := 0) (by simp)
    rintro rfl
    cases hy : cf y with
    | nil => exact hc y hy
    | cons c cs =>
      have := he 0 c (by rw [hy]; rfl)
      simp [World.cell?, hl] at this
theorem Blk.ne_loop {e : TypeId} {cs : List Value} (h : Blk w g e cs) {l : Nat} {lp : Loop} (hl : w.heap[l]? = some (.loop lp)) : g ≠ l := by
  rintro rfl
  unfold Blk at h; rw [h] at hl; cases hl
theorem Ls.of_sl {N n : Nat} (h : Sl cf s N w A n xs) : ∃ g, Ls cf s w g A xs ∧ (g < N ∨ xs.length = 0) := by
  cases xs with
  | nil => exact ⟨0, Ls.nil, by simp⟩
  | cons x xs =>
    obtain ⟨b, o, hA, hb, hc⟩ := h.2 (by rw [← h.1]; simp)
    exact ⟨b, fun _ => ⟨o, hA, fun i y hy => fun j v hv => hc i y hy j v hv⟩, .inl hb⟩

/-- The cells of a list, one behind the other. -/
theorem flat_get (hs : ∀ x, (cf x).length = s) : ∀ (xs : List α) (i : Nat) (x : α), xs[i]? = some x → ∀ j v, (cf x)[j]? = some v → (xs.flatMap cf)[i * s + j]? = some v
  | [], i, x, h, j, v, hv => by simp at h
  | y :: xs, 0, x, h, j, v, hv => by
    simp at h; subst h
    have hj : j < (cf y).length := (List.getElem?_eq_some_iff.1 hv).1
    simp only [List.flatMap_cons, Nat.zero_mul, Nat.zero_add]
    rw [List.getElem?_append_left hj]; exact hv
  | y :: xs, i + 1, x, h, j, v, hv => by
    simp at h
    have ih := flat_get hs xs i x h j v hv
    simp only [List.flatMap_cons]
    rw [List.getElem?_append_right (by rw [hs, Nat.add_mul]; omega), hs, show (i + 1) * s + j - s = i * s + j by rw [Nat.add_mul]; omega]
    exact ih
theorem flat_len (hs : ∀ x, (cf x).length = s) : ∀ (xs : List α), (xs.flatMap cf).length = xs.length * s
  | [] => by simp
  | y :: xs => by simp only [List.flatMap_cons, List.length_append, hs, flat_len hs xs, List.length_cons, Nat.add_mul]; omega
theorem splice_left (vs : List Value) : ∀ (a b : List Value) (o : Nat), splice (a ++ b) (a.length + o) vs = a ++ splice b o vs
  | [], b, o => by simp
  | c :: a, b, o => by
    cases vs with
    | nil => simp [splice_nil]
    | cons v vs =>
      have ih := splice_left (v :: vs) a b o
      simp only [List.cons_append, List.length_cons]
      rw [show a.length + 1 + o = (a.length + o) + 1 by omega]
      simp only [splice]
      rw [ih]
theorem splice_whole : ∀ (vs a b : List Value), a.length = vs.length → splice (a ++ b) 0 vs = vs ++ b
  | [], a, b, h => by simp at h; subst h; simp [splice_nil]
  | v :: vs, [], b, h => by simp at h
  | v :: vs, c :: a, b, h => by
    simp only [List.cons_append, splice]
    rw [splice_whole vs a b (by simpa using h)]
theorem flat_set (hs : ∀ x, (cf x).length = s) : ∀ (xs : List α) (rest : List Value) (i : Nat) (x : α), i < xs.length → splice (xs.flatMap cf ++ rest) (i * s) (cf x) = (xs.set i x).flatMap cf ++ rest
  | [], rest, i, x, h => by simp at h
  | y :: xs, rest, 0, x, h => by
    simp only [List.flatMap_cons, Nat.zero_mul, List.set, List.append_assoc]
    exact splice_whole _ _ _ (by rw [hs, hs])
  | y :: xs, rest, i + 1, x, h => by
    simp only [List.flatMap_cons, List.set, List.append_assoc]
    rw [show (i + 1) * s = (cf y).length + i * s by rw [hs, Nat.add_mul]; omega, splice_left]
    rw [flat_set hs xs rest i x (by simpa using h)]

/-- A block that holds a list, perhaps room behind it. -/
theorem Ls.of_blk (hs : ∀ x, (cf x).length = s) {e : TypeId} {rest : List Value} (h : Blk w g e (xs.flatMap cf ++ rest)) : Ls cf s w g (some ⟨g, 0, none⟩) xs := fun _ =>
  ⟨0, rfl, fun i x hx j v hv => by
    rw [h.cell, Nat.zero_add]
    have := flat_get hs xs i x hx j v hv
    rw [List.getElem?_append_left (List.getElem?_eq_some_iff.1 this).1]; exact this⟩
end

/-! ### Lists of the function's own -/
def obl : Value → List Nat
  | .slice (some a) _ _ => [a.block]
  | _ => []

/-- A list that the function has made, its block at or above N. -/
def Ow {α : Type} (N : Nat) (e : TypeId) (cf : α → List Value) (s : Nat) (w : World) (v : Value) (xs : List α) : Prop := w.ownsRow N e s v xs.length (xs.flatMap cf)

section
variable {α : Type} {cf : α → List Value} {s N : Nat} {e : TypeId} {w w' : World} {v : Value} {xs : List α}
theorem Ow.lt (h : Ow N e cf s w v xs) : ∀ c ∈ obl v, N ≤ c ∧ c < w.heap.size := by
  rcases h.2 with ⟨rfl, _⟩ | ⟨g, cap, cur, rfl, hb, hg, _⟩
  · simp [obl]
  · simp only [obl, List.mem_singleton]
    rintro c rfl
    exact ⟨hb, lt_of_some hg⟩
theorem Ow.ext {L : List Nat} (h : Ow N e cf s w v xs) (x : Ext L w w') (hL : ∀ c ∈ obl v, c ∉ L) : Ow N e cf s w' v xs := by
  refine ⟨h.1, ?_⟩
  rcases h.2 with hn | ⟨g, cap, cur, rfl, hb, hg, rest⟩
  · exact .inl hn
  · exact .inr ⟨g, cap, cur, rfl, hb, (x.blk g (lt_of_some hg) (hL g (by simp [obl]))).trans hg, rest⟩
theorem Ow.ext0 (h : Ow N e cf s w v xs) (x : Ext [] w w') : Ow N e cf s w' v xs := h.ext x (by simp)
theorem Ow.its {M : Nat} (h : Ow N e cf s w v xs) (x : Its M w w') : Ow N e cf s w' v xs := by
  refine ⟨h.1, ?_⟩
  rcases h.2 with hn | ⟨g, cap, cur, rfl, hb, hg, rest⟩
  · exact .inl hn
  · exact .inr ⟨g, cap, cur, rfl, hb, x.cells _ _ hg rfl, rest⟩
theorem Ow.nil : Ow N e cf s w (.slice none 0 0) ([] : List α) := World.ownsRow_nil w N e s
theorem Ow.mono {M : Nat} (h : Ow N e cf s w v xs) (hM : M ≤ N) : Ow M e cf s w v xs := by
  refine ⟨h.1, ?_⟩
  rcases h.2 with hn | ⟨g, cap, cur, rfl, hb, rest⟩
  · exact .inl hn
  · exact .inr ⟨g, cap, cur, rfl, by omega, rest⟩
/-- As a list to be read. -/
theorem Ow.ls (hs : ∀ x, (cf x).length = s) (h : Ow N e cf s w v xs) : ∃ A c g, v = .slice A xs.length c ∧ Ls cf s w g A xs ∧ (N ≤ g ∨ xs.length = 0) := by
  rcases h.2 with ⟨rfl, h0⟩ | ⟨g, cap, cur, rfl, hb, hg, _, _, _, ht⟩
  · have := List.eq_nil_of_length_eq_zero h0
    subst this
    exact ⟨none, 0, 0, rfl, Ls.nil, .inr rfl⟩
  · have hb' : Blk w g e (xs.flatMap cf ++ cur.toList.drop (xs.length * s)) := by
      unfold Blk; rw [← ht, List.take_append_drop]; exact hg
    exact ⟨_, cap, g, rfl, Ls.of_blk hs hb', .inl hb⟩
/-- As a block. -/
theorem Ow.blk (h : Ow N e cf s w v xs) (h0 : xs ≠ []) : ∃ g c rest, v = .slice (some ⟨g, 0, none⟩) xs.length c ∧ N ≤ g ∧ Blk w g e (xs.flatMap cf ++ rest) := by
  rcases h.2 with ⟨rfl, h1⟩ | ⟨g, cap, cur, rfl, hb, hg, _, _, _, ht⟩
  · exact absurd (List.eq_nil_of_length_eq_zero h1) h0
  · refine ⟨g, cap, cur.toList.drop (xs.length * s), rfl, hb, ?_⟩
    unfold Blk; rw [← ht, List.take_append_drop]; exact hg
end

/-- A type of lists, and of its elements. -/
def ElT (P : Program) (T e : TypeId) (z : Value) (s B : Nat) : Prop := P.underlying T = some (.slice e) ∧ ∃ i, P.info? e = some i ∧ i.zero = some z ∧ i.size = s ∧ i.bytes = B ∧ z.cells.size = s ∧ 0 < s
theorem elt_of {P : Program} {T e : TypeId} {z : Value} {s B : Nat} (h : P.underlying T = some (.slice e)) (hi : (P.info? e).map (fun i => (i.zero, i.size, i.bytes)) = some (some z, s, B)) (hc : z.cells.size = s) (h0 : 0 < s) : ElT P T e z s B := by
  refine ⟨h, ?_⟩
  cases hx : P.info? e with
  | none => rw [hx] at hi; cases hi
  | some i => rw [hx] at hi; simp at hi; exact ⟨i, rfl, hi.1, hi.2.1, hi.2.2, hc, h0⟩

section
variable {r : Option Nat} {P : Program} {ops : Array Oper} {Q : Exit → Act → World → Prop} {M : Nat} {l : Nat → Value} {ds : List Deferred} {w : World} {rest : List Oper}
variable {d : Option Tmp} {t T e : TypeId} {p : String} {af : Array Edge} {v z : Value} {s B : Nat} {x y : Operand} {g : Option (Nat × Bool)}

theorem rn_nilS {A : Option Addr} {n c : Nat} (h : P.underlying T = some (.slice e)) (hx : ev M l x = .slice A n c) {T' : TypeId} :
    Rn P M l w d (.binOp .eql T x (.const (.slice none 0 0)) T') t p af g (.bool A.isNone) := by
  have h1 := run_equalIn_slice_nil (P := P) (w := w) 9999 T e A n c h
  have hg : (eqGuard .eql T x (.const (.slice none 0 0)) (.slice A n c) (.slice none 0 0)).run P w = .ok () w := by simp [eqGuard]
  have he : ∀ u, ev M l (.const u) = u := fun _ => rfl
  simp only [Rn, execOp, he, hx, Sem.run_bind, hg, Result.andThen_ok, binOp, Op.equal, Op.maxDepth]
  rw [h1]; rfl
theorem rn_nilPt {A : Option Addr} (h0 : P.underlying T = some (.pointer e)) (hx : ev M l x = .pointer A) {T' : TypeId} :
    Rn P M l w d (.binOp .eql T x (.const (.pointer none)) T') t p af g (.bool A.isNone) := by
  have h : P.underlying T = some (.pointer (P.pointee T)) := by simp [Program.pointee, h0]
  have h1 := run_equalIn_pointer_nil (P := P) (w := w) 9999 T A h
  have hg : (eqGuard .eql T x (.const (.pointer none)) (.pointer A) (.pointer none)).run P w = .ok () w := by simp [eqGuard]
  have he : ∀ u, ev M l (.const u) = u := fun _ => rfl
  simp only [Rn, execOp, he, hx, Sem.run_bind, hg, Result.andThen_ok, binOp, Op.equal, Op.maxDepth]
  rw [h1]; rfl

theorem ow_push (w : World) (o : Obj) : Ext [] w (w.alloc o) := Ext.of_below ((Below.refl _ w).alloc (Nat.le_refl _) o)

theorem s_make {n : Nat} {cs : List Value} (h : ElT P T e z s B) (hx : ev M l x = i64 n) (hy : ev M l y = i64 n) (hb : B * n ≤ 140737488355328) (hn : n ≤ 140737488355328) (hc : (madeCells z.cells (n * s)).toList = cs)
    (k : ∀ b w', Blk w' b e cs → w.heap.size ≤ b → Ext [] w w' → WL r P ops Q rest (Fr M (ptd l d (.slice (some ⟨b, 0, none⟩) n n)) ds) w') : WL r P ops Q (⟨d, .makeSlice T x y, t, p, af, none⟩ :: rest) (Fr M l ds) w := by
  obtain ⟨hT, i, hi, hz, hs, hB, _, _⟩ := h
  subst hs; subst hB; subst hc
  have hb' : (i.bytes : Int) * (n : Int) ≤ 281474976710656 := by
    have h : ((i.bytes * n : Nat) : Int) ≤ 281474976710656 := by omega
    rwa [Int.natCast_mul] at h
  have hr := run_make (P := P) w T e i z hT hi hz .i64 .i64 n n (by omega) (Int.le_refl _) hb' (by omega)
  simp only [Int.toNat_natCast] at hr
  have hr' : (execOp (ev M l) ⟨d, .makeSlice T x y, t, p, af, none⟩).run P w = .ok (.value (.slice (some ⟨w.heap.size, 0, none⟩) n n)) (w.alloc (.cells (madeCells z.cells (n * i.size)) e)) := by
    simp [execOp, hx, hy, hr]
  have hbk : Blk (w.alloc (.cells (madeCells z.cells (n * i.size)) e)) w.heap.size e (madeCells z.cells (n * i.size)).toList := by
    unfold Blk
    rw [Array.toArray_toList]
    exact heap_alloc_new w _
  exact st rfl (not_defer hr') (by rw [Fr_eval']; exact hr') (by rw [Fr_put]; exact k _ _ hbk (Nat.le_refl _) (ow_push w _))

theorem bs_run {n : Nat} {parts : Array (Nat × Operand)} {vs : Array (Nat × Value)} {cs : List Value} (h : ElT P T e z s B) (hx : (parts.map fun q => (q.1, ev M l q.2)) = vs) (hn : n * s ≤ 1000)
    (hc : Instr.fill (fun i => some (i * s, s)) (madeCells (if n * s = 0 then #[] else z.cells) (n * s)) vs.toList = some cs.toArray) (w : World) :
    (execOp (ev M l) ⟨d, .buildSlice T n parts, t, p, af, none⟩).run P w = .ok (.value (.slice (some ⟨w.heap.size, 0, none⟩) n n)) (w.alloc (.cells cs.toArray e)) := by
  obtain ⟨hT, i, hi, hz, hs, hB, _, _⟩ := h
  subst hs
  have hbig : ¬ (16777216 < n * i.size) := by omega
  by_cases h0 : n * i.size = 0
  · rw [if_pos h0] at hc
    simp only [madeCells] at hc
    simp [execOp, hx, Instr.buildSlice, run_underlying hT, sizeOf, typeInfo, hi, hbig, h0, newRow] at hc ⊢
    rw [hc]; simp
  · rw [if_neg h0] at hc
    simp only [madeCells] at hc
    simp [execOp, hx, Instr.buildSlice, run_underlying hT, sizeOf, typeInfo, hi, hbig, h0, newRow, zeroValue, hz] at hc ⊢
    rw [hc]; simp
theorem s_bs {n : Nat} {parts : Array (Nat × Operand)} {vs : Array (Nat × Value)} {cs : List Value} (h : ElT P T e z s B) (hx : (parts.map fun q => (q.1, ev M l q.2)) = vs) (hn : n * s ≤ 1000)
    (hc : Instr.fill (fun i => some (i * s, s)) (madeCells (if n * s = 0 then #[] else z.cells) (n * s)) vs.toList = some cs.toArray)
    (k : ∀ b w', Blk w' b e cs → w.heap.size ≤ b → Ext [] w w' → WL r P ops Q rest (Fr M (ptd l d (.slice (some ⟨b, 0, none⟩) n n)) ds) w') : WL r P ops Q (⟨d, .buildSlice T n parts, t, p, af, none⟩ :: rest) (Fr M l ds) w := by
  have hr' := bs_run (d := d) (t := t) (p := p) (af := af) h hx hn hc w
  exact st rfl (not_defer hr') (by rw [Fr_eval']; exact hr') (by rw [Fr_put]; exact k _ _ (heap_alloc_new w _) (Nat.le_refl _) (ow_push w _))

/-- A new list among operations whose order is drawn. -/
def SBs (N : Nat) (e : TypeId) (n : Nat) (cs : List Value) (v : Value) (lo hi : Nat) (W : World) : Prop := ∃ b, v = .slice (some ⟨b, 0, none⟩) n n ∧ Blk W b e cs ∧ N ≤ b ∧ lo ≤ b ∧ b < hi
theorem q_bsS {K : Act → World → Prop} {sps : List Sp} {i : Nat} {env : Nat → World → Prop} {ivs : List (Nat × Nat)} {n : Nat} {parts : Array (Nat × Operand)} {vs : Array (Nat × Value)} {cs : List Value} (h : ElT P T e z s B) (hx : (parts.map fun q => (q.1, ev M l q.2)) = vs) (hn : n * s ≤ 1000)
    (hc : Instr.fill (fun i => some (i * s, s)) (madeCells (if n * s = 0 then #[] else z.cells) (n * s)) vs.toList = some cs.toArray)
    (k : ∀ v lo hi, OX P ops K w sps (i + 1) rest (Fr M (ptd l d v) ds) (upd env i (SBs w.heap.size e n cs v lo hi)) (ivs ++ [(lo, hi)])) :
    OX P ops K w (.s (SBs w.heap.size e n cs) :: sps) i (⟨d, .buildSlice T n parts, t, p, af, none⟩ :: rest) (Fr M l ds) env ivs := by
  refine ⟨by simp [Region.wanted], fun v lo hi W W' ⟨b, hv, hb, hN⟩ hx => ⟨b, hv, hb.ext0 hx, hN⟩, fun W hC he => ?_, fun v lo hi => by rw [Fr_put]; exact k v lo hi⟩
  have hr' := bs_run (d := d) (t := t) (p := p) (af := af) h hx hn hc W
  rw [Fr_eval', hr']
  exact ⟨⟨_, rfl, heap_alloc_new W _, hC.size, Nat.le_refl _, by rw [World.size_alloc]; omega⟩, hC.step0 (ow_push W _), ow_push W _⟩

theorem oneC_of {v : Value} (h : oneC v = true) : v.oneCell' = true := by cases v <;> simp_all [oneC, Value.oneCell']

/-- append(s, t...), s the function's own. -/
theorem s_app {α : Type} {cf : α → List Value} {N c gg : Nat} {A : Option Addr} {xs ys : List α} (h : ElT P T e z s B) (hs : ∀ x, (cf x).length = s) (h1 : ∀ x, (cf x).all oneC = true) (hO : Ow N e cf s w v xs) (hN : N ≤ w.heap.size)
    (hx : ev M l x = v) (hy : ev M l y = .slice A ys.length c) (hl : Ls cf s w gg A ys) (hb : (xs.length + ys.length) * B ≤ 140737488355328) (hm : xs.length + ys.length ≤ 140737488355328)
    (k : ∀ v' w', Ow N e cf s w' v' (xs ++ ys) → Ext (obl v) w w' → (∀ c ∈ obl v', c ∈ obl v ∨ w.heap.size ≤ c) → WL r P ops Q rest (Fr M (ptd l d v') ds) w') :
    WL r P ops Q (⟨d, .call { callee := .builtin .append, args := #[x, y], argTypes := #[T, T] }, t, p, af, none⟩ :: rest) (Fr M l ds) w := by
  have key : ∃ v' w', (Builtin.append_ #[T, T] t #[v, .slice A ys.length c]).run P w = .ok v' w' ∧ Ow N e cf s w' v' (xs ++ ys) ∧ Ext (obl v) w w' ∧ (∀ c ∈ obl v', c ∈ obl v ∨ w.heap.size ≤ c) := by
    obtain ⟨hT, i, hi, hz, hsz, hB, hzc, h0⟩ := h
    by_cases hA : ∃ o, A = some ⟨gg, o, none⟩ ∧ ∀ (i : Nat) (x : α), ys[i]? = some x → El w gg (o + i * s) (cf x)
    · obtain ⟨o, rfl, hel⟩ := hA
      obtain ⟨v', w', hr, hown, hgr, _, hob⟩ := run_append_own_at (P := P) w N T t e i z s B hT hi hz hsz hB hzc h0 v xs.length (xs.flatMap cf) hO ⟨gg, o, none⟩ ys.length c (ys.flatMap cf) (flat_len hs ys) (fun j u hj => by
          rw [addr_add]
          have hlen : j < ys.length * s := by rw [← flat_len hs ys]; exact (List.getElem?_eq_some_iff.1 hj).1
          have hq : j / s < ys.length := Nat.div_lt_of_lt_mul (by rw [Nat.mul_comm]; exact hlen)
          have hmod : j % s < s := Nat.mod_lt _ h0
          have hx' := List.getElem?_eq_getElem hq
          have hjm : j % s < (cf ys[j / s]).length := by rw [hs]; exact hmod
          have hv := List.getElem?_eq_getElem hjm
          have hf := flat_get hs ys (j / s) _ hx' (j % s) _ hv
          rw [show j / s * s + j % s = j by rw [Nat.mul_comm]; exact Nat.div_add_mod j s] at hf
          have hcell := hel (j / s) _ hx' (j % s) _ hv
          rw [show o + j / s * s + j % s = o + j by have := Nat.div_add_mod j s; rw [Nat.mul_comm] at this; omega] at hcell
          rw [hf] at hj; cases hj; exact hcell)
        (fun u hu => by
          obtain ⟨x, _, hux⟩ := List.mem_flatMap.1 hu
          exact oneC_of (List.all_eq_true.1 (h1 x) u hux)) (by simp only [maxLen]; omega) hb hN
      have hobl : ∀ u : Value, ∀ c ∈ obl u, u.ownBlock = some c := by
        intro u c hc
        cases u with
        | slice a n k => cases a <;> simp_all [obl, Value.ownBlock]
        | _ => simp [obl] at hc
      have hobl' : ∀ u : Value, ∀ c, u.ownBlock = some c → c ∈ obl u := by
        intro u c hc
        cases u with
        | slice a n k => cases a <;> simp_all [obl, Value.ownBlock]
        | _ => simp [Value.ownBlock] at hc
      refine ⟨v', w', hr, ?_, ?_, fun c hc => ?_⟩
      · unfold Ow; rw [List.length_append, List.flatMap_append]; exact hown
      · refine ⟨hgr.os, hgr.tape, hgr.output, hgr.size, fun k hk hn => hgr.block k hk ?_⟩
        rcases hO.2 with ⟨rfl, _⟩ | ⟨g', cap, cur, rfl, _⟩
        · simp [Value.ownBlock]
        · simp [Value.ownBlock, obl] at hn ⊢; exact hn
      · have h2 := hobl v' c hc
        rcases hob with h1 | h1
        · exact .inl (hobl' v c (h1 ▸ h2))
        · rw [h1] at h2; cases h2; exact .inr (Nat.le_refl _)
    · have hys : ys = [] := Classical.byContradiction fun hne => hA (hl hne)
      subst hys
      refine ⟨v, w, ?_, by rw [List.append_nil]; exact hO, (Ext.refl w).more (by simp), fun c hc => .inl hc⟩
      rcases hO.2 with ⟨rfl, hz0⟩ | ⟨g', cap, cur, rfl, hb', hg', hcap, _⟩
      · cases A <;> simp [Builtin.append_, run_underlying hT, sizeOf, typeInfo, hi, Builtin.lenOf, Builtin.firstCells, loadCells, loadCellsFrom]
      · cases A <;> simp [Builtin.append_, run_underlying hT, sizeOf, typeInfo, hi, Builtin.lenOf, Builtin.firstCells, loadCells, loadCellsFrom, hcap, storeCells]
  obtain ⟨v', w', hr, ho, hxt, hob⟩ := key
  have hr' : (execOp (ev M l) ⟨d, .call { callee := .builtin .append, args := #[x, y], argTypes := #[T, T] }, t, p, af, none⟩).run P w = .ok (.value v') w' := by
    simp [execOp, resolve, hx, hy, invoke, builtin, hr]
  exact st rfl (not_defer hr') (by rw [Fr_eval']; exact hr') (by rw [Fr_put]; exact k _ _ ho hxt hob)
end
end Go.Proofs.Ytfdffeameoejfaa
