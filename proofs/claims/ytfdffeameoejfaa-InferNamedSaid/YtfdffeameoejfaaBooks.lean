/- Books: what lies in memory, and what its functions answer, as plain functions on lists. -/
import Derived.Test.YtfdffeameoejfaaElts
import Derived.Test.YtfdffeameoejfaaIdset
namespace Go.Proofs.Ytfdffeameoejfaa
set_option linter.unusedVariables false
open Go Go.RowKit
set_option linter.unusedSimpArgs false

/-- A book at p whose list is xs, in block b. -/
def Bk (w : World) (p b : Nat) (xs : List N3) : Prop :=
  ∃ c rest, Blk w p 123 [.slice (some ⟨b, 0, none⟩) xs.length c] ∧ Blk w b 28 (xs.flatMap N3.cells ++ rest)

section
variable {w w' : World} {p b : Nat} {xs : List N3}
theorem Bk.ltp (h : Bk w p b xs) : p < w.heap.size := by obtain ⟨_, _, h, _⟩ := h; exact h.lt
theorem Bk.ltb (h : Bk w p b xs) : b < w.heap.size := by obtain ⟨_, _, _, h⟩ := h; exact h.lt
theorem Bk.ext {L : List Nat} (h : Bk w p b xs) (x : Ext L w w') (hp : p ∉ L) (hb : b ∉ L) : Bk w' p b xs := by
  obtain ⟨c, r, h1, h2⟩ := h; exact ⟨c, r, h1.ext x hp, h2.ext x hb⟩
theorem Bk.ext0 (h : Bk w p b xs) (x : Ext [] w w') : Bk w' p b xs := h.ext x (by simp) (by simp)
theorem Bk.ext1 {c : Nat} (h : Bk w p b xs) (x : Ext [c] w w') (hc : p ≠ c ∧ b ≠ c) : Bk w' p b xs := h.ext x (by simp; exact hc.1) (by simp; exact hc.2)
theorem Bk.its {N : Nat} (h : Bk w p b xs) (x : Its N w w') : Bk w' p b xs := by
  obtain ⟨c, r, h1, h2⟩ := h; exact ⟨c, r, h1.its x, h2.its x⟩
theorem Bk.ls (h : Bk w p b xs) : Ls N3.cells 3 w b (some ⟨b, 0, none⟩) xs := by
  obtain ⟨c, r, h1, h2⟩ := h; exact Ls.of_blk (fun _ => rfl) h2
theorem Bk.ne (h : Bk w p b xs) : p ≠ b := by
  obtain ⟨c, r, h1, h2⟩ := h
  intro e; subst e
  unfold Blk at h1 h2
  rw [h1] at h2
  simp at h2
end

/-- A new book among operations whose order is drawn. -/
def SBk (N : Nat) (xs : List N3) (v : Value) (lo hi : Nat) (W : World) : Prop := ∃ p b, v = ptr p 0 ∧ Bk W p b xs ∧ (N ≤ p ∧ N ≤ b) ∧ (lo ≤ p ∧ lo ≤ b) ∧ p < hi ∧ b < hi
theorem SBk.ext0 {N lo hi : Nat} {xs : List N3} {v : Value} {W W' : World} (h : SBk N xs v lo hi W) (x : Ext [] W W') : SBk N xs v lo hi W' := by
  obtain ⟨p, b, h1, h2, h3⟩ := h; exact ⟨p, b, h1, h2.ext0 x, h3⟩

def takes (xs : List N3) (x : N3) : Bool := validB xs.length x && beats x (xs[x.of.toNat]?.getD default)
def take1 (xs : List N3) (x : N3) : List N3 := if takes xs x then xs.set x.of.toNat x else xs
def takeE (xs : List N3) (x : N3) : Int := if validB xs.length x then 0 else 50
theorem take1_len (xs : List N3) (x : N3) : (take1 xs x).length = xs.length := by unfold take1; split <;> simp

/-- One notice of a merge. -/
def mstep (s : List N3 × S4) (x : N3) : List N3 × S4 := (take1 s.1 x, if takes s.1 x then withS s.2 x.of.toNat else s.2)
def mfold (xs : List N3) (l : List N3) : List N3 × S4 := l.foldl mstep (xs, S4.zero)
def allV (n : Nat) (l : List N3) : Bool := l.all (validB n)
def mergeR (xs l : List N3) : List N3 := if allV xs.length l then (mfold xs l).1 else xs
def mergeS (xs l : List N3) : S4 := if allV xs.length l then (mfold xs l).2 else S4.zero
def mergeE (xs l : List N3) : Int := if allV xs.length l then 0 else 50
def keepB (self : Int) (x : N3) : Bool := !decide (x.of = self) || !decide (x.kind = 1)
/-- What a node does not take from others: its own mistakes. -/
def others (self : Int) (l : List N3) : List N3 := l.filter (keepB self)
def absR (self : Int) (xs l : List N3) : List N3 := if allV xs.length l then mergeR xs (others self l) else xs
def absS (self : Int) (xs l : List N3) : S4 := if allV xs.length l then mergeS xs (others self l) else S4.zero
def absE (xs l : List N3) : Int := if allV xs.length l then 0 else 50
def freshL (n : Nat) : List N3 := (List.range n).map (fun (i : Nat) => fresh (i : Int))
def newL (n : Nat) (self tag : Int) : List N3 := (freshL n).set self.toNat ⟨self, tag, 1⟩
def newsOf (xs : List N3) : List N3 := xs.filter (fun x => !decide (x = fresh x.of))

/-- The greater of what is there and what comes. -/
def maxN (c x : N3) : N3 := if beats x c then x else c
def maxs (c : N3) (l : List N3) : N3 := l.foldl maxN c
theorem maxs_snoc (c : N3) (l : List N3) (x : N3) : maxs c (l ++ [x]) = maxN (maxs c l) x := by simp [maxs]
def aboveL (xs ys : List N3) : List N3 := xs.filter (fun x => beats x (ys[x.of.toNat]?.getD default))
/-- A notice that may stand in a book. -/
def okN (x : N3) : Prop := isTagB x.tag = true ∧ isKindB x.kind = true
/-- A book as it should be: each notice at its node's place. -/
def Good (xs : List N3) : Prop := xs.length ≤ 100 ∧ ∀ (i : Nat) (x : N3), xs[i]? = some x → x.of = (i : Int) ∧ okN x

/-- A book, with where it lies. -/
structure Bok where
  p : Nat
  b : Nat
  xs : List N3
  deriving Inhabited
@[reducible] def Bok.cells (q : Bok) : List Value := [ptr q.p 0]
def Bok.at (q : Bok) (j : Nat) : N3 := q.xs[j]?.getD default
def Bks (w : World) (qs : List Bok) : Prop := ∀ q ∈ qs, Bk w q.p q.b q.xs
def levelE (qs : List Bok) (x : N3) : N3 := maxs x (qs.map (fun q => q.at x.of.toNat))
def levelL (qs : List Bok) : List N3 := (qs[0]?.getD default).xs.map (levelE qs)
theorem Bks.ext0 {w w' : World} {qs : List Bok} (h : Bks w qs) (x : Ext [] w w') : Bks w' qs := fun q hq => (h q hq).ext0 x
theorem Bks.ext1 {w w' : World} {qs : List Bok} {c : Nat} (h : Bks w qs) (x : Ext [c] w w') (hc : ∀ q ∈ qs, q.p ≠ c ∧ q.b ≠ c) : Bks w' qs := fun q hq => (h q hq).ext1 x (hc q hq)
theorem Bks.ext {w w' : World} {qs : List Bok} {L : List Nat} (h : Bks w qs) (x : Ext L w w') (hc : ∀ q ∈ qs, q.p ∉ L ∧ q.b ∉ L) : Bks w' qs := fun q hq => (h q hq).ext x (hc q hq).1 (hc q hq).2
theorem Bks.its {N : Nat} {w w' : World} {qs : List Bok} (h : Bks w qs) (x : Its N w w') : Bks w' qs := fun q hq => (h q hq).its x
theorem Bk.rnd {S L : List Nat} {w w' : World} {p b : Nat} {xs : List N3} (h : Bk w p b xs) (x : Rnd S L w w') (hp : p ∉ L ∧ p ∉ S) (hb : b ∉ L ∧ b ∉ S) : Bk w' p b xs := by
  obtain ⟨c, r, h1, h2⟩ := h; exact ⟨c, r, h1.rnd x hp.1 hp.2, h2.rnd x hb.1 hb.2⟩
theorem Bks.rnd {S L : List Nat} {w w' : World} {qs : List Bok} (h : Bks w qs) (x : Rnd S L w w') (hc : ∀ q ∈ qs, (q.p ∉ L ∧ q.p ∉ S) ∧ (q.b ∉ L ∧ q.b ∉ S)) : Bks w' qs := fun q hq => (h q hq).rnd x (hc q hq).1 (hc q hq).2
theorem Bks.lt {w : World} {qs : List Bok} (h : Bks w qs) : ∀ q ∈ qs, q.p < w.heap.size ∧ q.b < w.heap.size := fun q hq => ⟨(h q hq).ltp, (h q hq).ltb⟩
theorem Bk.ne_loop {w : World} {p b : Nat} {xs : List N3} (h : Bk w p b xs) {l : Nat} {lp : Loop} (hl : w.heap[l]? = some (.loop lp)) : p ≠ l ∧ b ≠ l := by
  obtain ⟨c, r, h1, h2⟩ := h; exact ⟨h1.ne_loop hl, h2.ne_loop hl⟩

theorem mfold_len (l : List N3) : ∀ (s : List N3 × S4), (l.foldl mstep s).1.length = s.1.length := by
  induction l with
  | nil => intro s; rfl
  | cons x l ih => intro s; simp only [List.foldl_cons]; rw [ih]; exact take1_len _ _
theorem mergeR_len (xs l : List N3) : (mergeR xs l).length = xs.length := by unfold mergeR; split; exact mfold_len l _; rfl
theorem absR_len (self : Int) (xs l : List N3) : (absR self xs l).length = xs.length := by unfold absR; split; exact mergeR_len _ _; rfl
theorem newL_len (n : Nat) (self tag : Int) : (newL n self tag).length = n := by simp [newL, freshL]
theorem mfold_snoc (xs l : List N3) (x : N3) : mfold xs (l ++ [x]) = mstep (mfold xs l) x := by simp [mfold]

theorem take_snoc {α : Type} {xs : List α} {k : Nat} {x : α} (h : xs[k]? = some x) : xs.take (k + 1) = xs.take k ++ [x] := by
  rw [List.take_add_one, h]; rfl
theorem allV_snoc {n : Nat} {l : List N3} {x : N3} : allV n (l ++ [x]) = (allV n l && validB n x) := by simp [allV]
theorem allV_of {n : Nat} {l : List N3} {k : Nat} {x : N3} (h : l[k]? = some x) (hv : validB n x = false) : allV n l = false := by
  unfold allV
  rw [Bool.eq_false_iff]
  intro ha
  rw [List.all_eq_true] at ha
  have := ha x (List.mem_of_getElem? h)
  rw [hv] at this; cases this
theorem allV_at {n : Nat} {l : List N3} {k : Nat} {x : N3} (h : l[k]? = some x) (ha : allV n l = true) : validB n x = true := by
  unfold allV at ha
  rw [List.all_eq_true] at ha
  exact ha x (List.mem_of_getElem? h)
theorem getD_of {xs : List N3} {k : Nat} {x : N3} (h : xs[k]? = some x) : xs[k]?.getD default = x := by rw [h]; rfl

/-- What an iterator over a list yields. -/
def argN (xs : List N3) (k : Nat) : Value := N3.val (xs[k]?.getD default)
theorem argN_eq {xs : List N3} {k : Nat} {x : N3} (h : xs[k]? = some x) : argN xs k = N3.val x := by unfold argN; rw [h]; rfl
theorem flat3 (xs : List N3) : (xs.flatMap N3.cells).length = xs.length * 3 := flat_len (cf := N3.cells) (s := 3) (fun _ => rfl) xs
theorem set3 (xs : List N3) (rest : List Value) (i : Nat) (x : N3) (h : i < xs.length) : splice (xs.flatMap N3.cells ++ rest) (i * 3) (N3.cells x) = (xs.set i x).flatMap N3.cells ++ rest := flat_set (cf := N3.cells) (s := 3) (fun _ => rfl) xs rest i x h
theorem filt_snoc {p : N3 → Bool} {l : List N3} {x : N3} : (l ++ [x]).filter p = if p x then l.filter p ++ [x] else l.filter p := by
  by_cases h : p x = true <;> simp [List.filter_append, h]
theorem Ow.one {α : Type} {N : Nat} {e : TypeId} {cf : α → List Value} {s : Nat} {w : World} {v : Value} {xs : List α} (h : Ow N e cf s w v xs) : [v].all oneC = true := by
  rcases h.2 with ⟨rfl, _⟩ | ⟨g, cap, cur, rfl, hb, hg, _⟩ <;> rfl
theorem Ow.cell1 {α : Type} {N : Nat} {e : TypeId} {cf : α → List Value} {s : Nat} {w : World} {v : Value} {xs : List α} (h : Ow N e cf s w v xs) : v.cells = [v].toArray := by
  rcases h.2 with ⟨rfl, _⟩ | ⟨g, cap, cur, rfl, hb, hg, _⟩ <;> rfl
theorem filt_le (p : N3 → Bool) (xs : List N3) (k : Nat) : ((xs.take k).filter p).length ≤ k := Nat.le_trans (List.length_filter_le _ _) (by simp; omega)
theorem Ow.cellsAt {α : Type} {N : Nat} {e : TypeId} {cf : α → List Value} {s : Nat} {w : World} {v : Value} {xs : List α} (h : Ow N e cf s w v xs) : ∀ c ∈ obl v, ∃ cs e z, w.heap[c]? = some (Obj.cells cs e z) := by
  rcases h.2 with ⟨rfl, _⟩ | ⟨g, cap, cur, rfl, hb, hg, _⟩
  · simp [obl]
  · simp only [obl, List.mem_singleton]
    rintro c rfl
    exact ⟨_, _, _, hg⟩
theorem Blk.cellsAt {w : World} {b : Nat} {e : TypeId} {cs : List Value} (h : Blk w b e cs) : ∃ cs e z, w.heap[b]? = some (Obj.cells cs e z) := ⟨_, _, _, h⟩

theorem others_le (self : Int) (l : List N3) : (others self l).length ≤ l.length := List.length_filter_le _ _
theorem others_snoc {self : Int} {l : List N3} {x : N3} : others self (l ++ [x]) = if keepB self x then others self l ++ [x] else others self l := filt_snoc
theorem others_at {self : Int} {l : List N3} {k : Nat} {x : N3} (h : l[k]? = some x) (hx : keepB self x = true) : (others self l)[(others self (l.take k)).length]? = some x := by
  have e : l = l.take k ++ (x :: l.drop (k + 1)) := by
    have := List.take_append_drop k l
    rw [List.drop_eq_getElem_cons (List.getElem?_eq_some_iff.1 h).1] at this
    rw [(List.getElem?_eq_some_iff.1 h).2] at this
    exact this.symm
  have : others self l = others self (l.take k) ++ (x :: others self (l.drop (k + 1))) := by
    conv => lhs; rw [e]
    unfold others
    rw [List.filter_append, List.filter_cons, if_pos hx]
  rw [this, List.getElem?_append_right (Nat.le_refl _), Nat.sub_self]; rfl
theorem allV_others {n : Nat} {self : Int} {l : List N3} (h : allV n l = true) : allV n (others self l) = true := by
  unfold allV at h ⊢
  rw [List.all_eq_true] at h ⊢
  exact fun x hx => h x (List.mem_filter.1 hx).1
theorem mergeE_others {self : Int} {xs l : List N3} (h : allV xs.length l = true) : mergeE xs (others self l) = 0 := by rw [mergeE, allV_others h]; rfl
/-! making a list -/
def zerosN (n : Nat) : List N3 := List.replicate n N3.zero
theorem made_flat {cf : N3 → List Value} (z : Array Value) (hz : z.toList = cf N3.zero) (s : Nat) (hs : ∀ x, (cf x).length = s) (h0 : 0 < s) (n : Nat) : (madeCells z (n * s)).toList = (zerosN n).flatMap cf := by
  have hzs : z.size = s := by rw [← Array.length_toList, hz, hs]
  apply List.ext_getElem?
  intro i
  by_cases hi : i < n * s
  · have hq : i / s < n := Nat.div_lt_of_lt_mul (by rw [Nat.mul_comm]; exact hi)
    have hm : i % s < s := Nat.mod_lt _ h0
    have hx : (zerosN n)[i / s]? = some N3.zero := by simp [zerosN, List.getElem?_replicate, hq]
    have hv : (cf N3.zero)[i % s]? = some ((cf N3.zero)[i % s]'(by rw [hs]; exact hm)) := List.getElem?_eq_getElem _
    have hf := flat_get hs (zerosN n) (i / s) _ hx (i % s) _ hv
    rw [show i / s * s + i % s = i by rw [Nat.mul_comm]; exact Nat.div_add_mod i s] at hf
    rw [hf]
    simp only [madeCells, Array.getElem?_toList, Array.getElem?_map, Array.getElem?_range, hi, if_true, Option.map_some]
    congr 1
    rw [hzs, getElem!_pos z (i % s) (by rw [hzs]; exact hm)]
    simp only [← hz, Array.getElem_toList]
  · rw [List.getElem?_eq_none (by simp [madeCells]; omega), List.getElem?_eq_none (by rw [flat_len hs]; simp [zerosN]; omega)]
theorem madeN (n : Nat) : (madeCells (Value.agg #[i64 0, i64 0, i64 0]).cells (n * 3)).toList = (zerosN n).flatMap N3.cells ++ [] := by
  rw [List.append_nil]; exact made_flat _ rfl 3 (fun _ => rfl) (by decide) n
def fillL (n k : Nat) : List N3 := (List.range n).map (fun (i : Nat) => if i < k then fresh (i : Int) else N3.zero)
theorem fillL_len (n k : Nat) : (fillL n k).length = n := by simp [fillL]
theorem fillL_zero (n : Nat) : zerosN n = fillL n 0 := by
  apply List.ext_getElem?; intro i
  by_cases h : i < n <;> simp [zerosN, fillL, List.getElem?_replicate, List.getElem?_range, h]
theorem fillL_all (n : Nat) : fillL n n = freshL n := by
  apply List.ext_getElem?; intro i
  by_cases h : i < n <;> simp [freshL, fillL, List.getElem?_range, h]
theorem fillL_set (n k : Nat) : (fillL n k).set k (fresh (k : Int)) = fillL n (k + 1) := by
  apply List.ext_getElem?; intro i
  by_cases h : i < n
  · rw [List.getElem?_set]
    by_cases e : k = i
    · subst e; simp [fillL, List.getElem?_range, h]
    · have : (i < k + 1) = (i < k) := by apply propext; omega
      simp [fillL, List.getElem?_range, h, e, this]
  · rw [List.getElem?_eq_none (by simp [fillL]; omega), List.getElem?_eq_none (by simp [fillL]; omega)]
theorem Ls.none {α : Type} {cf : α → List Value} {s g : Nat} {w : World} {xs : List α} (h : Ls cf s w g none xs) : xs = [] :=
  Classical.byContradiction fun hn => by obtain ⟨o, hA, _⟩ := h hn; cases hA
theorem ow_empty {α : Type} {cf : α → List Value} {s N b : Nat} {e : TypeId} {w : World} (h : Blk w b e []) (hN : N ≤ b) : Ow N e cf s w (.slice (some ⟨b, 0, none⟩) 0 0) ([] : List α) := by
  unfold Blk at h
  exact ⟨by simp, .inr ⟨b, 0, #[], rfl, hN, h, Nat.le_refl _, by simp [maxLen], by simp, by simp⟩⟩
end Go.Proofs.Ytfdffeameoejfaa
