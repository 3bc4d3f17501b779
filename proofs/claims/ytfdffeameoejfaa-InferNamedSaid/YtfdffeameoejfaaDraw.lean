/- A region that draws its order: one walk in the order of the text serves every order, where each operation yields what is said of it in every world of a class. -/
import Derived.Test.YtfdffeameoejfaaCode
namespace Go.Proofs.Ytfdffeameoejfaa
set_option linter.unusedSimpArgs false
set_option linter.unusedVariables false
open Go Go.RowKit

/-! ### Which operation waits for which -/
inductive Anc (ops : Array Oper) : Nat → Nat → Prop
  | edge {i : Nat} {o : Oper} {e : Edge} (ho : ops[i]? = some o) (he : e ∈ o.after) (hb : Region.binds .any e = true) : Anc ops i e.on
  | step {i j : Nat} {o : Oper} {e : Edge} (ho : ops[i]? = some o) (he : e ∈ o.after) (hb : Region.binds .any e = true) (h : Anc ops e.on j) : Anc ops i j

def bf (ops : Array Oper) (i j : Nat) : Bool := ((Region.before ops).getD i 0).testBit j

theorem before_inner (ops : Array Oper) (acc : Array Nat) (i : Nat) (o : Oper) (ho : ops[i]? = some o) (hacc : ∀ k j, (acc.getD k 0).testBit j = true → Anc ops k j) :
    ∀ (l : List Edge) (s : Nat), (∀ e ∈ l, e ∈ o.after) → (∀ j, s.testBit j = true → Anc ops i j) →
      ∀ j, (l.foldl (fun s e => if Region.binds .any e then s ||| 2 ^ e.on ||| acc.getD e.on 0 else s) s).testBit j = true → Anc ops i j
  | [], s, _, hs, j, h => hs j h
  | e :: l, s, hl, hs, j, h => by
    refine before_inner ops acc i o ho hacc l _ (fun x hx => hl x (by simp [hx])) ?_ j h
    intro j hj
    dsimp only at hj
    by_cases hb : Region.binds .any e = true
    · rw [if_pos hb] at hj
      rw [Nat.testBit_or, Nat.testBit_or] at hj
      simp only [Bool.or_eq_true] at hj
      rcases hj with (hj | hj) | hj
      · exact hs j hj
      · rw [Nat.testBit_two_pow] at hj
        have : e.on = j := by simpa using hj
        subst this
        exact .edge ho (hl e (by simp)) hb
      · exact .step ho (hl e (by simp)) hb (hacc _ _ hj)
    · rw [if_neg hb] at hj
      exact hs j hj

theorem before_outer (ops : Array Oper) : ∀ (l : List Oper) (acc : Array Nat), (∀ j o, l[j]? = some o → ops[acc.size + j]? = some o) → (∀ k j, (acc.getD k 0).testBit j = true → Anc ops k j) →
    ∀ k j, ((l.foldl (fun acc o => acc.push (o.after.foldl (fun s e => if Region.binds .any e then s ||| 2 ^ e.on ||| acc.getD e.on 0 else s) 0)) acc).getD k 0).testBit j = true → Anc ops k j
  | [], acc, _, hacc, k, j, h => hacc k j h
  | o :: l, acc, hl, hacc, k, j, h => by
    refine before_outer ops l _ ?_ ?_ k j h
    · intro j' o' hj
      have := hl (j' + 1) o' (by simpa using hj)
      rw [Array.size_push]
      rw [show acc.size + 1 + j' = acc.size + (j' + 1) by omega]
      exact this
    · intro k j hk
      by_cases hks : k = acc.size
      · subst hks
        have h0 : ops[acc.size]? = some o := by have := hl 0 o rfl; rwa [Nat.add_zero] at this
        simp only [Array.getD_eq_getD_getElem?, Array.getElem?_push_size, Option.getD_some] at hk
        rw [← Array.foldl_toList] at hk
        exact before_inner ops acc acc.size o h0 (by simpa using hacc) o.after.toList 0 (fun e he => by simpa using he) (fun j hj => by simp at hj) j (by simpa using hk)
      · have : (acc.push (o.after.foldl (fun s e => if Region.binds .any e then s ||| 2 ^ e.on ||| acc.getD e.on 0 else s) 0))[k]? = acc[k]? := by
          rw [Array.getElem?_push, if_neg hks]
        rw [Array.getD_eq_getD_getElem?, this, ← Array.getD_eq_getD_getElem?] at hk
        exact hacc k j hk

theorem anc_of_bf {ops : Array Oper} {i j : Nat} (h : bf ops i j = true) : Anc ops i j := by
  unfold bf Region.before at h
  rw [← Array.foldl_toList] at h
  refine before_outer ops ops.toList #[] (fun j o hj => by simpa using hj) (fun k j hk => by simp at hk) i j h

/-- What has come up holds all that it waits for. -/
def Closed (ops : Array Oper) (f : Nat → Bool) : Prop := ∀ i o, ops[i]? = some o → f i = true → ∀ e ∈ o.after, Region.binds .any e = true → f e.on = true

theorem anc_listed {ops : Array Oper} {f : Nat → Bool} (hc : Closed ops f) {i j : Nat} (h : Anc ops i j) : (∀ o, ops[i]? = some o → ∀ e ∈ o.after, Region.binds .any e = true → f e.on = true) → f j = true := by
  induction h with
  | edge ho he hb => intro hr; exact hr _ ho _ he hb
  | step ho he hb h ih => intro hr; exact ih (fun o' ho' => hc _ _ ho' (hr _ ho _ he hb))

/-! ### Frames behind a part of the operations -/
def dstOf (ops : Array Oper) (k : Nat) : Option Tmp := (ops[k]?).bind (·.dst)

def putsL (ops : Array Oper) (f : Nat → Bool) (vals : Nat → Value) (a0 : Act) : Nat → Act
  | 0 => a0
  | k + 1 => if f k then (putsL ops f vals a0 k).put (dstOf ops k) (vals k) else putsL ops f vals a0 k

section
variable {ops : Array Oper} {f g : Nat → Bool} {vals vals' : Nat → Value} {a0 : Act}

theorem putsL_ext : ∀ (k : Nat), (∀ j, j < k → f j = g j) → (∀ j, j < k → f j = true → vals j = vals' j) → putsL ops f vals a0 k = putsL ops g vals' a0 k
  | 0, _, _ => rfl
  | k + 1, h, h' => by
    simp only [putsL]
    rw [putsL_ext k (fun j hj => h j (by omega)) (fun j hj => h' j (by omega)), h k (by omega)]
    by_cases hg : g k = true
    · rw [if_pos hg, if_pos hg, h' k (by omega) (by rw [h k (by omega)]; exact hg)]
    · rw [if_neg hg, if_neg hg]

/-- One more has come up: its value goes in at its place in the text. -/
theorem putsL_insert {i : Nat} {v : Value} (hi : f i = false) : ∀ (k : Nat), i < k → (∀ j, i < j → j < k → f j = true → ∀ d, dstOf ops j = some d → dstOf ops i ≠ some d) →
    (putsL ops f vals a0 k).put (dstOf ops i) v = putsL ops (fun j => if j = i then true else f j) (fun j => if j = i then v else vals j) a0 k
  | 0, h, _ => by omega
  | k + 1, h, hd => by
    simp only [putsL]
    by_cases hki : k = i
    · subst hki
      simp only [hi, Bool.false_eq_true, if_false, if_true]
      rw [putsL_ext k (g := fun j => if j = k then true else f j) (vals' := fun j => if j = k then v else vals j) (fun j hj => by simp [show j ≠ k by omega]) (fun j hj _ => by simp [show j ≠ k by omega])]
    · have ih := putsL_insert (v := v) hi k (by omega) (fun j h1 h2 => hd j h1 (by omega))
      simp only [hki, if_false]
      by_cases hf : f k = true
      · rw [if_pos hf, if_pos hf, ← ih]
        exact Act.put_comm _ _ _ (fun d h1 h2 => hd k (by omega) (by omega) hf d h1 h2)
      · rw [if_neg hf, if_neg hf]
        exact ih

def Ag (L : List Tmp) (a a' : Act) : Prop := a.tmps.size = a'.tmps.size ∧ ∀ t ∈ L, a.tmps[t]? = a'.tmps[t]?

theorem Ag.put {L : List Tmp} {a a' : Act} (h : Ag L a a') (d : Option Tmp) (v : Value) : Ag L (a.put d v) (a'.put d v) := by
  cases d with
  | none => exact h
  | some d =>
    refine ⟨by simp [Act.put, h.1], fun t ht => ?_⟩
    simp only [Act.put, Array.getElem?_setIfInBounds, h.1, h.2 t ht]

theorem Ag.putL {L : List Tmp} {a a' : Act} (h : Ag L a a') (d : Option Tmp) (v : Value) (hd : ∀ t, d = some t → t ∉ L) : Ag L (a.put d v) a' := by
  cases d with
  | none => exact h
  | some d =>
    refine ⟨by simp [Act.put, h.1], fun t ht => ?_⟩
    have : d ≠ t := fun e => hd d rfl (e ▸ ht)
    simp only [Act.put, Array.getElem?_setIfInBounds_ne this, h.2 t ht]

theorem Ag.symm {L : List Tmp} {a a' : Act} (h : Ag L a a') : Ag L a' a := ⟨h.1.symm, fun t ht => (h.2 t ht).symm⟩

theorem putsL_ag {L : List Tmp} : ∀ (k : Nat), (∀ j, j < k → ∀ d, dstOf ops j = some d → d ∈ L → f j = g j) → Ag L (putsL ops f vals a0 k) (putsL ops g vals a0 k)
  | 0, _ => ⟨rfl, fun _ _ => rfl⟩
  | k + 1, h => by
    have ih := putsL_ag k (fun j hj => h j (by omega))
    simp only [putsL]
    by_cases hin : ∃ d, dstOf ops k = some d ∧ d ∈ L
    · obtain ⟨d, hd, hdl⟩ := hin
      rw [h k (by omega) d hd hdl]
      by_cases hg : g k = true
      · rw [if_pos hg, if_pos hg]; exact ih.put _ _
      · rw [if_neg hg, if_neg hg]; exact ih
    · have hno : ∀ t, dstOf ops k = some t → t ∉ L := fun t ht hl => hin ⟨t, ht, hl⟩
      by_cases hf : f k = true <;> by_cases hg : g k = true
      · rw [if_pos hf, if_pos hg]; exact ih.put _ _
      · rw [if_pos hf, if_neg hg]; exact ih.putL _ _ hno
      · rw [if_neg hf, if_pos hg]; exact (ih.symm.putL _ _ hno).symm
      · rw [if_neg hf, if_neg hg]; exact ih

/-- Operations behind i turn nothing that i looks at: the frame ends there. -/
theorem putsL_cut {i : Nat} {L : List Tmp} : ∀ (k : Nat), i ≤ k → (∀ j, i ≤ j → j < k → f j = true → ∀ d, dstOf ops j = some d → d ∉ L) → Ag L (putsL ops f vals a0 k) (putsL ops f vals a0 i)
  | 0, h, _ => by
    have : i = 0 := by omega
    subst this
    exact ⟨rfl, fun _ _ => rfl⟩
  | k + 1, h, hd => by
    by_cases hik : i = k + 1
    · subst hik; exact ⟨rfl, fun _ _ => rfl⟩
    · have ih := putsL_cut k (by omega) (fun j h1 h2 => hd j h1 (by omega))
      simp only [putsL]
      by_cases hf : f k = true
      · rw [if_pos hf]; exact ih.putL _ _ (fun t ht => hd k (by omega) (by omega) hf t ht)
      · rw [if_neg hf]; exact ih

theorem Ag.trans {L : List Tmp} {a b c : Act} (h : Ag L a b) (k : Ag L b c) : Ag L a c := ⟨h.1.trans k.1, fun t ht => (h.2 t ht).trans (k.2 t ht)⟩

theorem Ag.exec {o : Oper} {a a' : Act} (hs : ∀ cs b, o.op ≠ .select cs b) (h : Ag (o.looksAt ops) a a') : execOp a.eval o = execOp a'.eval o :=
  execOp_congr o hs fun x hx => by
    cases x with
    | tmp t =>
      have := h.2 t (List.mem_append_left _ (List.mem_filterMap.2 ⟨.tmp t, by simpa using hx, rfl⟩))
      simp only [Act.eval, Array.getD_eq_getD_getElem?, this]
    | _ => rfl

theorem Ag.wanted {o : Oper} {a a' : Act} (h : Ag (o.looksAt ops) a a') : Region.wanted o (yielded ops a.tmps) = Region.wanted o (yielded ops a'.tmps) := by
  unfold Region.wanted
  cases hg : o.guard with
  | none => rfl
  | some gw =>
    obtain ⟨j, want⟩ := gw
    have hy : yielded ops a.tmps j = yielded ops a'.tmps j := by
      unfold yielded
      cases ht : (ops[j]?).bind (·.dst) with
      | none => rfl
      | some t =>
        have := h.2 t (by simp [Oper.looksAt, hg, ht])
        simp only [Option.bind_some, this]
    simp only [hy]
end

/-! ### What is said of an operation -/
inductive Sp where
  | n
  | c (v : Value)
  | s (S : Value → Nat → Nat → World → Prop)

def Sp.eff : Sp → Value → Value
  | .n, _ => undef
  | .c v, _ => v
  | .s _, v => v

def yi (P : Program) (C : World → Prop) (T : World → World → Prop) (S : Value → World → Prop) (W : World) : Result Next → Prop
  | .ok (.value v) W' => S v W' ∧ C W' ∧ T W W'
  | .ok .skip W' => S undef W' ∧ C W' ∧ T W W'
  | .ok (.enter f args) W' => Calls P f args W' (Ret fun v W'' => S v W'' ∧ C W'' ∧ T W W'')
  | _ => False

def upd (env : Nat → World → Prop) (i : Nat) (φ : World → Prop) : Nat → World → Prop := fun j => if j = i then φ else env j

/-- What different operations have made lies apart. -/
def Apt (l : List (Nat × Nat)) : Prop := l.Pairwise fun a b => a.2 ≤ b.1 ∨ b.2 ≤ a.1

/-- The walk in the order of the text. -/
def OB (P : Program) (ops : Array Oper) (C : World → Prop) (T : World → World → Prop) (K : Act → World → Prop) : List Sp → Nat → List Oper → Act → (Nat → World → Prop) → List (Nat × Nat) → Prop
  | [], _, _, a, env, ivs => ∀ W, C W → (∀ j, env j W) → Apt ivs → K a W
  | _ :: _, _, [], _, _, _ => False
  | .n :: sps, i, o :: rest, a, env, ivs => Region.wanted o (yielded ops a.tmps) = false ∧ OB P ops C T K sps (i + 1) rest (a.put o.dst undef) env ivs
  | .c v :: sps, i, o :: rest, a, env, ivs => Region.wanted o (yielded ops a.tmps) = true ∧
      (∀ W, C W → (∀ j, bf ops i j = true → env j W) → yi P C T (fun u _ => u = v) W ((execOp a.eval o).run P W)) ∧ OB P ops C T K sps (i + 1) rest (a.put o.dst v) env ivs
  | .s S :: sps, i, o :: rest, a, env, ivs => Region.wanted o (yielded ops a.tmps) = true ∧ (∀ v lo hi W W', S v lo hi W → T W W' → S v lo hi W') ∧
      (∀ W, C W → (∀ j, bf ops i j = true → env j W) → yi P C T (fun v W' => S v W.heap.size W'.heap.size W') W ((execOp a.eval o).run P W)) ∧ ∀ v lo hi, OB P ops C T K sps (i + 1) rest (a.put o.dst v) (upd env i (S v lo hi)) (ivs ++ [(lo, hi)])

/-- The facts on the values that stand for themselves. -/
def envOf (sps : List Sp) (vals : Nat → Value) (iv : Nat → Nat × Nat) : Nat → Nat → World → Prop
  | 0 => fun _ _ => True
  | k + 1 => match sps[k]? with
    | some (.s S) => upd (envOf sps vals iv k) k (S (vals k) (iv k).1 (iv k).2)
    | _ => envOf sps vals iv k

/-- The spans of what the first k operations have made. -/
def ivsOf (sps : List Sp) (iv : Nat → Nat × Nat) : Nat → List (Nat × Nat)
  | 0 => []
  | k + 1 => match sps[k]? with
    | some (.s _) => ivsOf sps iv k ++ [iv k]
    | _ => ivsOf sps iv k

def effv (sps : List Sp) (vals : Nat → Value) (j : Nat) : Value := ((sps[j]?).getD .n).eff (vals j)

structure Obl (P : Program) (ops : Array Oper) (C : World → Prop) (T : World → World → Prop) (sps : List Sp) (a0 : Act) (vals : Nat → Value) (iv : Nat → Nat × Nat) (k : Nat) (o : Oper) : Prop where
  n : sps[k]? = some .n → Region.wanted o (yielded ops (putsL ops (fun _ => true) (effv sps vals) a0 k).tmps) = false
  c : ∀ v, sps[k]? = some (.c v) → Region.wanted o (yielded ops (putsL ops (fun _ => true) (effv sps vals) a0 k).tmps) = true ∧
    ∀ W, C W → (∀ j, bf ops k j = true → envOf sps vals iv k j W) → yi P C T (fun u _ => u = v) W ((execOp (putsL ops (fun _ => true) (effv sps vals) a0 k).eval o).run P W)
  s : ∀ S, sps[k]? = some (.s S) → Region.wanted o (yielded ops (putsL ops (fun _ => true) (effv sps vals) a0 k).tmps) = true ∧ (∀ v lo hi W W', S v lo hi W → T W W' → S v lo hi W') ∧
    ∀ W, C W → (∀ j, bf ops k j = true → envOf sps vals iv k j W) → yi P C T (fun v W' => S v W.heap.size W'.heap.size W') W ((execOp (putsL ops (fun _ => true) (effv sps vals) a0 k).eval o).run P W)

theorem ob_extract {P : Program} {ops : Array Oper} {C : World → Prop} {T : World → World → Prop} {K : Act → World → Prop} {sps : List Sp} {a0 : Act} (vals : Nat → Value) (iv : Nat → Nat × Nat) :
    ∀ (l : List Sp) (i : Nat) (os : List Oper), (∀ j, l[j]? = sps[i + j]?) → i + l.length = sps.length → (∀ j, j < l.length → os[j]? = ops[i + j]?) →
      OB P ops C T K l i os (putsL ops (fun _ => true) (effv sps vals) a0 i) (envOf sps vals iv i) (ivsOf sps iv i) →
      (∀ k o, i ≤ k → k < sps.length → ops[k]? = some o → Obl P ops C T sps a0 vals iv k o) ∧ (∀ W, C W → (∀ j, envOf sps vals iv sps.length j W) → Apt (ivsOf sps iv sps.length) → K (putsL ops (fun _ => true) (effv sps vals) a0 sps.length) W)
  | [], i, os, _, hlen, _, h => by
    simp only [List.length_nil, Nat.add_zero] at hlen
    subst hlen
    exact ⟨fun k o h1 h2 => by omega, h⟩
  | sp :: l, i, [], _, _, _, h => by cases sp <;> exact h.elim
  | sp :: l, i, o :: os, hl, hlen, ho, h => by
    have hsp : sps[i]? = some sp := by have := (hl 0).symm; simpa using this
    have hoi : ops[i]? = some o := by have := (ho 0 (by simp)).symm; simpa using this
    have hl' : ∀ j, l[j]? = sps[i + 1 + j]? := fun j => by have := hl (j + 1); rw [show i + (j + 1) = i + 1 + j by omega] at this; simpa using this
    have hlen' : i + 1 + l.length = sps.length := by simp only [List.length_cons] at hlen; omega
    have ho' : ∀ j, j < l.length → os[j]? = ops[i + 1 + j]? := fun j hj => by have := ho (j + 1) (by simp; omega); rw [show i + (j + 1) = i + 1 + j by omega] at this; simpa using this
    have hput : ∀ v, effv sps vals i = v → putsL ops (fun _ => true) (effv sps vals) a0 (i + 1) = (putsL ops (fun _ => true) (effv sps vals) a0 i).put o.dst v := fun v hv => by
      simp only [putsL, if_true, hv, dstOf, hoi, Option.bind_some]
    have fin : Obl P ops C T sps a0 vals iv i o → OB P ops C T K l (i + 1) os (putsL ops (fun _ => true) (effv sps vals) a0 (i + 1)) (envOf sps vals iv (i + 1)) (ivsOf sps iv (i + 1)) →
        (∀ k o, i ≤ k → k < sps.length → ops[k]? = some o → Obl P ops C T sps a0 vals iv k o) ∧ (∀ W, C W → (∀ j, envOf sps vals iv sps.length j W) → Apt (ivsOf sps iv sps.length) → K (putsL ops (fun _ => true) (effv sps vals) a0 sps.length) W) := fun h1 h2 => by
      obtain ⟨ih1, ih2⟩ := ob_extract vals iv l (i + 1) os hl' hlen' ho' h2
      refine ⟨fun k o' hk hlt hok => ?_, ih2⟩
      by_cases hki : k = i
      · subst hki; rw [hoi] at hok; cases hok; exact h1
      · exact ih1 k o' (by omega) hlt hok
    cases sp with
    | n =>
      obtain ⟨hw, hr⟩ := h
      refine fin ⟨fun _ => hw, fun v hv => (by rw [hsp] at hv; cases hv), fun S hS => (by rw [hsp] at hS; cases hS)⟩ ?_
      rw [hput undef (by simp [effv, hsp, Sp.eff]), envOf, ivsOf, hsp]
      exact hr
    | c v =>
      obtain ⟨hw, hy, hr⟩ := h
      refine fin ⟨fun hv => (by rw [hsp] at hv; cases hv), fun v' hv => (by rw [hsp] at hv; cases hv; exact ⟨hw, hy⟩), fun S hS => (by rw [hsp] at hS; cases hS)⟩ ?_
      rw [hput v (by simp [effv, hsp, Sp.eff]), envOf, ivsOf, hsp]
      exact hr
    | s S =>
      obtain ⟨hw, hst, hy, hr⟩ := h
      refine fin ⟨fun hv => (by rw [hsp] at hv; cases hv), fun v' hv => (by rw [hsp] at hv; cases hv), fun S' hS => (by rw [hsp] at hS; cases hS; exact ⟨hw, hst, hy⟩)⟩ ?_
      rw [hput (vals i) (by simp [effv, hsp, Sp.eff]), envOf, ivsOf, hsp]
      exact hr (vals i) (iv i).1 (iv i).2

theorem envOf_apply {sps : List Sp} {vals : Nat → Value} {iv : Nat → Nat × Nat} {W : World} : ∀ (k : Nat), (∀ j, j < k → ∀ S, sps[j]? = some (.s S) → S (vals j) (iv j).1 (iv j).2 W) → ∀ j, envOf sps vals iv k j W
  | 0, _, _ => trivial
  | k + 1, h, j => by
    have ih := envOf_apply k (fun j hj => h j (by omega)) j
    rw [envOf]
    cases hs : sps[k]? with
    | none => exact ih
    | some sp =>
      cases sp with
      | n => exact ih
      | c v => exact ih
      | s S =>
        show (if j = k then S (vals k) (iv k).1 (iv k).2 else envOf sps vals iv k j) W
        by_cases hjk : j = k
        · rw [if_pos hjk]; exact h k (by omega) S hs
        · rw [if_neg hjk]; exact ih

theorem ivsOf_mem {sps : List Sp} {iv : Nat → Nat × Nat} : ∀ (k : Nat) (x : Nat × Nat), x ∈ ivsOf sps iv k → ∃ j S, j < k ∧ sps[j]? = some (.s S) ∧ x = iv j
  | 0, x, h => by simp [ivsOf] at h
  | k + 1, x, h => by
    rw [ivsOf] at h
    cases hs : sps[k]? with
    | none => rw [hs] at h; obtain ⟨j, S, h1, h2, h3⟩ := ivsOf_mem k x h; exact ⟨j, S, by omega, h2, h3⟩
    | some sp =>
      rw [hs] at h
      cases sp with
      | n => obtain ⟨j, S, h1, h2, h3⟩ := ivsOf_mem k x h; exact ⟨j, S, by omega, h2, h3⟩
      | c v => obtain ⟨j, S, h1, h2, h3⟩ := ivsOf_mem k x h; exact ⟨j, S, by omega, h2, h3⟩
      | s S =>
        rcases List.mem_append.1 h with h | h
        · obtain ⟨j, S, h1, h2, h3⟩ := ivsOf_mem k x h; exact ⟨j, S, by omega, h2, h3⟩
        · simp at h; exact ⟨k, S, by omega, hs, h⟩
theorem apt_ivs {sps : List Sp} {iv : Nat → Nat × Nat} : ∀ (k : Nat), (∀ i j S S', i < j → j < k → sps[i]? = some (.s S) → sps[j]? = some (.s S') → (iv i).2 ≤ (iv j).1 ∨ (iv j).2 ≤ (iv i).1) → Apt (ivsOf sps iv k)
  | 0, _ => List.Pairwise.nil
  | k + 1, h => by
    have ih := apt_ivs (sps := sps) (iv := iv) k (fun i j S S' h1 h2 => h i j S S' h1 (by omega))
    rw [ivsOf]
    cases hs : sps[k]? with
    | none => exact ih
    | some sp =>
      cases sp with
      | n => exact ih
      | c v => exact ih
      | s S =>
        refine List.pairwise_append.2 ⟨ih, List.pairwise_singleton _ _, fun a ha b hb => ?_⟩
        obtain ⟨j, S', h1, h2, rfl⟩ := ivsOf_mem k a ha
        simp at hb; subst hb
        exact h j k S' S h1 (by omega) h2 hs
theorem envOf_dep {sps : List Sp} {vals : Nat → Value} {iv : Nat → Nat × Nat} {W : World} {j : Nat} : ∀ (k : Nat), (∀ S, j < k → sps[j]? = some (.s S) → S (vals j) (iv j).1 (iv j).2 W) → envOf sps vals iv k j W
  | 0, _ => trivial
  | k + 1, h => by
    have ih := envOf_dep k (fun S hj => h S (by omega))
    rw [envOf]
    cases hs : sps[k]? with
    | none => exact ih
    | some sp =>
      cases sp with
      | n => exact ih
      | c v => exact ih
      | s S =>
        show (if j = k then S (vals k) (iv k).1 (iv k).2 else envOf sps vals iv k j) W
        by_cases hjk : j = k
        · rw [if_pos hjk]; subst hjk; exact h S (by omega) hs
        · rw [if_neg hjk]; exact ih

/-! ### The theorem -/
/-- The check on a region: n operations at the front, in whatever order; behind them the rest, in order. -/
def drawB (ops : Array Oper) (n : Nat) : Bool :=
  Region.noSelect ops && decide (n ≤ ops.size) &&
  (List.range ops.size).all (fun i => ((ops[i]?).map (fun o => o.after.all fun e => !Region.binds .any e || decide (e.on < i))).getD false) &&
  (List.range n).all (fun i => (List.range n).all fun j => decide (j = i) ||
    (match ops[i]?, dstOf ops j with
     | some oi, some d => if (oi.looksAt ops).contains d || dstOf ops i == some d then (if j < i then bf ops i j else bf ops j i) else true
     | _, _ => true)) &&
  (List.range ops.size).all (fun i => decide (i < n) || (List.range i).all fun j => bf ops i j)

section
variable {r : Option Nat} {P : Program} {ops : Array Oper} {Q : Exit → Act → World → Prop} {C : World → Prop} {T : World → World → Prop}

theorem drawB_spec {n : Nat} (h : drawB ops n = true) : Region.noSelect ops = true ∧ n ≤ ops.size ∧
    (∀ i o, ops[i]? = some o → ∀ e ∈ o.after, Region.binds .any e = true → e.on < i) ∧
    (∀ i j oi d, i < n → j < n → j ≠ i → ops[i]? = some oi → dstOf ops j = some d → (d ∈ oi.looksAt ops ∨ dstOf ops i = some d) → if j < i then bf ops i j = true else bf ops j i = true) ∧
    (∀ i j, n ≤ i → i < ops.size → j < i → bf ops i j = true) := by
  unfold drawB at h
  simp only [Bool.and_eq_true, List.all_eq_true, List.mem_range, decide_eq_true_eq, Bool.or_eq_true] at h
  obtain ⟨⟨⟨⟨h1, h2⟩, h3⟩, h4⟩, h5⟩ := h
  refine ⟨h1, h2, fun i o ho e he hb => ?_, fun i j oi d hi hj hne ho hd hor => ?_, fun i j hn hi hj => ?_⟩
  · have hlt : i < ops.size := (Array.getElem?_eq_some_iff.1 ho).1
    have := h3 i hlt
    rw [ho] at this
    simp only [Option.map_some, Option.getD_some, Array.all_eq_true_iff_forall_mem, Bool.or_eq_true, Bool.not_eq_true', decide_eq_true_eq] at this
    rcases this e he with h' | h'
    · rw [hb] at h'; cases h'
    · exact h'
  · rcases h4 i hi j hj with h' | h'
    · exact absurd h' hne
    · rw [ho, hd] at h'
      simp only at h'
      have hc : (oi.looksAt ops).contains d = true ∨ (dstOf ops i == some d) = true := by
        simp only [List.contains_iff_mem, beq_iff_eq]; exact hor
      rw [if_pos hc] at h'
      by_cases hji : j < i
      · rw [if_pos hji] at h' ⊢; exact h'
      · rw [if_neg hji] at h' ⊢; exact h'
  · rcases h5 i hi with h' | h'
    · omega
    · exact h' j hj

def left (f : Nat → Bool) : Nat → Nat
  | 0 => 0
  | k + 1 => left f k + if f k then 0 else 1

theorem left_set {f : Nat → Bool} {i : Nat} (hi : f i = false) : ∀ (k : Nat), i < k → left (fun j => if j = i then true else f j) k + 1 = left f k
  | 0, h => by omega
  | k + 1, h => by
    simp only [left]
    by_cases hki : k = i
    · subst hki
      have : ∀ m, m ≤ k → left (fun j => if j = k then true else f j) m = left f m := by
        intro m
        induction m with
        | zero => intro _; rfl
        | succ m ih => intro hm; simp only [left]; rw [ih (by omega)]; simp [show ¬ m = k by omega]
      rw [this k (Nat.le_refl _)]
      simp [hi]
    · have ih := left_set hi k (by omega)
      simp only [hki, if_false]
      omega

theorem left_zero {f : Nat → Bool} : ∀ (k : Nat), left f k = 0 → ∀ j, j < k → f j = true
  | 0, _, j, h => by omega
  | k + 1, h, j, hj => by
    simp only [left] at h
    by_cases hjk : j = k
    · subst hjk
      cases hf : f j with
      | true => rfl
      | false => rw [hf] at h; simp at h
    · exact left_zero k (by omega) j (by omega)

theorem wpOpIn_yi {a a' : Act} {i : Nat} {o : Oper} {W : World} {S : Value → World → Prop} {K : Act → World → Prop} (ho : ops[i]? = some o) (hw : Region.wanted o (yielded ops a.tmps) = true) (he : execOp a.eval o = execOp a'.eval o)
    (hy : yi P C T S W ((execOp a'.eval o).run P W)) (k : ∀ v W', S v W' → C W' → T W W' → K (a.put o.dst v) W') : wpOpIn (FW r) 0 P ops Q i K a W := by
  unfold wpOpIn
  simp only [ho, hw, if_true]
  refine ⟨fun _ _ => trivial, ?_⟩
  have hnd : ∀ c, o.op ≠ .defer c := by
    intro c hc
    simp only [execOp, hc, Sem.run_bind] at hy
    cases h : (resolve a'.eval c o.type).run P W <;> rw [h] at hy <;> simp [yi] at hy
  rw [Oper.semAt_eq _ _ _ hnd, he]
  generalize (execOp a'.eval o).run P W = res at hy
  cases res with
  | ok x W' =>
    cases x <;> simp only [yi] at hy <;> simp only [Oper.uponIn]
    case value v => exact k v W' hy.1 hy.2.1 hy.2.2
    case skip => exact k undef W' hy.1 hy.2.1 hy.2.2
    case enter f args =>
      refine ⟨fun h => (by cases h), (calls_fw.2 hy).mono fun e W'' he => ?_⟩
      cases e with
      | returned v => exact k v W'' he.1 he.2.1 he.2.2
      | panicked chain => exact he.elim
      | outgrown => exact he.elim
  | halt x W' => simp only [yi] at hy

/-- The state of a walk in some order. -/
structure Inv (P : Program) (ops : Array Oper) (C : World → Prop) (sps : List Sp) (a0 : Act) (listed : Array Bool) (a : Act) (W : World) (vals : Nat → Value) (iv : Nat → Nat × Nat) : Prop where
  size : listed.size = ops.size
  closed : Closed ops (fun j => listed.getD j false)
  world : C W
  frame : a = putsL ops (fun j => listed.getD j false) (effv sps vals) a0 sps.length
  facts : ∀ j S, listed.getD j false = true → sps[j]? = some (.s S) → S (vals j) (iv j).1 (iv j).2 W ∧ (iv j).2 ≤ W.heap.size
  apart : ∀ i j S S', i ≠ j → listed.getD i false = true → listed.getD j false = true → sps[i]? = some (.s S) → sps[j]? = some (.s S') → (iv i).2 ≤ (iv j).1 ∨ (iv j).2 ≤ (iv i).1
  tail : ∀ j, sps.length ≤ j → listed.getD j false = false

theorem getD_iff {listed : Array Bool} {n j : Nat} (hs : listed.size = n) (hj : j < n) : listed.getD j true = listed.getD j false := by
  simp [Array.getElem?_eq_getElem (show j < listed.size by omega)]

theorem seq_tail {n : Nat} (hd : drawB ops n = true) : ∀ (l : List Oper) (k : Nat) (listed : Array Bool) (a : Act) (W : World), (∀ j, l[j]? = ops[k + j]?) → n ≤ k → k + l.length = ops.size → listed.size = ops.size →
    (∀ j, listed.getD j false = decide (j < k)) → WL r P ops Q l a W → wpAnyIn (FW r) 0 P .any ops Q l.length listed a W
  | [], k, listed, a, W, hl, hn, hlen, hs, hls, h => by
    simp only [List.length_nil, Nat.add_zero] at hlen
    refine ⟨?_, h⟩
    rw [List.eq_nil_iff_forall_not_mem]
    intro j hj
    obtain ⟨h0, o, ho, _⟩ := mem_ready.1 hj
    have hlt : j < ops.size := (Array.getElem?_eq_some_iff.1 ho).1
    rw [getD_iff hs hlt, hls j] at h0
    simp at h0
    omega
  | o :: l, k, listed, a, W, hl, hn, hlen, hs, hls, h => by
    obtain ⟨hsel, hnn, hedge, _, htail⟩ := drawB_spec hd
    simp only [List.length_cons] at hlen
    have hok : ops[k]? = some o := by have := (hl 0).symm; simpa using this
    have hready : ∀ j, j ∈ Region.ready .any ops listed ↔ j = k := by
      intro j
      rw [mem_ready]
      constructor
      · rintro ⟨h0, o', ho', hall⟩
        have hlt : j < ops.size := (Array.getElem?_eq_some_iff.1 ho').1
        rw [getD_iff hs hlt, hls j] at h0
        have hge : k ≤ j := by simpa using h0
        rcases Nat.lt_or_ge k j with hkj | hkj
        · exfalso
          have hb := htail j k (by omega) hlt hkj
          have hcl : Closed ops (fun j => listed.getD j false) := by
            intro i oi hi hf e he hbe
            simp only [hls] at hf ⊢
            have := hedge i oi hi e he hbe
            have hik : i < k := by simpa using hf
            simp; omega
          have := anc_listed hcl (anc_of_bf hb) (fun o'' ho'' e he hbe => by
            rw [ho'] at ho''; cases ho''
            exact hall e he hbe)
          simp only [hls] at this
          simp at this
        · omega
      · rintro rfl
        refine ⟨by rw [getD_iff hs (by omega), hls]; simp, o, hok, fun e he hb => by rw [hls]; have := hedge j o hok e he hb; simpa using this⟩
    refine ⟨fun h0 => (by have := (hready k).2 rfl; rw [h0] at this; cases this), fun i hi => ?_⟩
    obtain rfl := (hready i).1 hi
    have hstep : wpOpIn (FW r) 0 P ops Q i (WL r P ops Q l) a W := by
      unfold wpOpIn
      rw [hok]
      have h' : wpListIn (FW r) 0 P ops Q (o :: l) a W := h
      simp only [wpListIn] at h'
      exact h'
    refine wpOpIn_mono (fun a' w' h' => ?_) hstep
    refine seq_tail hd l (i + 1) _ a' w' (fun j => by have := hl (j + 1); rw [show i + (j + 1) = i + 1 + j by omega] at this; simpa using this) (by omega) (by omega) (by simp [hs]) ?_ h'
    intro j
    by_cases hij : i = j
    · subst hij
      have : i < listed.size := by omega
      simp [this]
    · rw [getD_set_ne false hij, hls j]
      by_cases hji : j < i
      · simp [hji]; omega
      · simp [hji]; omega

/-- Head in whatever order, tail in order. -/
theorem draw_any {sps : List Sp} {a0 : Act} (hT : ∀ W W', T W W' → W.heap.size ≤ W'.heap.size) (hd : drawB ops sps.length = true)
    (hob : ∀ vals iv k o, k < sps.length → ops[k]? = some o → Obl P ops C T sps a0 vals iv k o)
    (hfin : ∀ vals iv W, C W → (∀ j, envOf sps vals iv sps.length j W) → Apt (ivsOf sps iv sps.length) → WL r P ops Q (ops.toList.drop sps.length) (putsL ops (fun _ => true) (effv sps vals) a0 sps.length) W) :
    ∀ (m : Nat) (listed : Array Bool) (a : Act) (W : World) (vals : Nat → Value) (iv : Nat → Nat × Nat), Inv P ops C sps a0 listed a W vals iv → left (fun j => listed.getD j false) sps.length = m →
      wpAnyIn (FW r) 0 P .any ops Q (m + (ops.size - sps.length)) listed a W := by
  obtain ⟨hsel, hnn, hedge, hconf, htail⟩ := drawB_spec hd
  intro m
  induction m with
  | zero =>
    intro listed a W vals iv inv hm
    have hall := left_zero _ hm
    have hls : ∀ j, listed.getD j false = decide (j < sps.length) := by
      intro j
      by_cases hj : j < sps.length
      · simp [hj, hall j hj]
      · simp [hj]
        have := inv.tail j (by omega)
        simpa using this
    have hdl : (ops.toList.drop sps.length).length = ops.size - sps.length := by simp
    rw [Nat.zero_add, ← hdl]
    refine seq_tail hd (ops.toList.drop sps.length) sps.length listed a W (fun j => by simp [List.getElem?_drop]) (Nat.le_refl _) (by rw [hdl]; omega) inv.size hls ?_
    have hfr : a = putsL ops (fun _ => true) (effv sps vals) a0 sps.length := by
      rw [inv.frame]
      exact putsL_ext _ (fun j hj => hall j hj) (fun _ _ _ => rfl)
    rw [hfr]
    exact hfin vals iv W inv.world (envOf_apply _ (fun j hj S hS => (inv.facts j S (hall j hj) hS).1)) (apt_ivs _ fun i j S S' hij hj h1 h2 => inv.apart i j S S' (by omega) (hall i (by omega)) (hall j hj) h1 h2)
  | succ m ih =>
    intro listed a W vals iv inv hm
    -- an operation of the head is ready
    have hunl : ∃ i, i < sps.length ∧ listed.getD i false = false ∧ ∀ j, j < i → listed.getD j false = true := by
      have : ∃ i, i < sps.length ∧ listed.getD i false = false := by
        apply Classical.byContradiction
        intro hno
        have : ∀ k, k ≤ sps.length → left (fun j => listed.getD j false) k = 0 := by
          intro k
          induction k with
          | zero => intro _; rfl
          | succ k ihk =>
            intro hk
            simp only [left]
            rw [ihk (by omega)]
            by_cases hf : listed.getD k false = true
            · simp only [hf, if_true]
            · exact absurd ⟨k, by omega, by simpa using hf⟩ hno
        have := this sps.length (Nat.le_refl _)
        omega
      obtain ⟨i, ⟨hi, hu⟩, hmin⟩ := least_of this
      exact ⟨i, hi, hu, fun j hj => by
        cases hf : listed.getD j false with
        | true => rfl
        | false => have := hmin j ⟨by omega, hf⟩; omega⟩
    have hne : Region.ready .any ops listed ≠ [] := by
      obtain ⟨i, hi, hu, hlow⟩ := hunl
      have hlt : i < ops.size := by omega
      intro h0
      have : i ∈ Region.ready .any ops listed := mem_ready.2 ⟨by rw [getD_iff inv.size hlt]; exact hu, ops[i], Array.getElem?_eq_getElem hlt, fun e he hb => hlow _ (hedge i _ (Array.getElem?_eq_getElem hlt) e he hb)⟩
      rw [h0] at this
      cases this
    rw [show m + 1 + (ops.size - sps.length) = (m + (ops.size - sps.length)) + 1 by omega]
    refine ⟨fun h0 => absurd h0 hne, fun i hi => ?_⟩
    obtain ⟨h0, o, ho, hall⟩ := mem_ready.1 hi
    have hlt : i < ops.size := (Array.getElem?_eq_some_iff.1 ho).1
    have hui : listed.getD i false = false := by rw [← getD_iff inv.size hlt]; exact h0
    have hready : ∀ j, bf ops i j = true → listed.getD j false = true := fun j hb =>
      anc_listed inv.closed (anc_of_bf hb) (fun o' ho' e he hbe => by rw [ho] at ho'; cases ho'; exact hall e he hbe)
    have hnot : ∀ j, bf ops j i = true → listed.getD j false = false := fun j hb => by
      cases hf : listed.getD j false with
      | false => rfl
      | true =>
        have := anc_listed inv.closed (anc_of_bf hb) (fun o' ho' e he hbe => inv.closed j o' ho' hf e he hbe)
        rw [hui] at this; cases this
    have hin : i < sps.length := by
      rcases Nat.lt_or_ge i sps.length with h | h
      · exact h
      · obtain ⟨i', hi', hu', _⟩ := hunl
        have := hready i' (htail i i' h hlt (by omega))
        rw [hu'] at this; cases this
    have hO := hob vals iv i o hin ho
    have hsl : ∀ cs b, o.op ≠ .select cs b := fun cs b => Region.noSelect_spec hsel i o cs b ho
    -- the frame at hand and the text's agree on what the operation looks at
    have hag : Ag (o.looksAt ops) a (putsL ops (fun _ => true) (effv sps vals) a0 i) := by
      rw [inv.frame]
      refine (putsL_cut (i := i) sps.length (by omega) ?_).trans (putsL_ag i ?_)
      · intro j hij hj hf d hdj hdl
        by_cases hji : j = i
        · subst hji; rw [hui] at hf; cases hf
        · have := hconf i j o d hin hj hji ho hdj (.inl hdl)
          rw [if_neg (by omega)] at this
          rw [hnot j this] at hf; cases hf
      · intro j hj d hdj hdl
        have := hconf i j o d hin (by omega) (by omega) ho hdj (.inl hdl)
        rw [if_pos hj] at this
        exact hready j this
    have hw := hag.wanted
    have hex := hag.exec hsl
    have henv : ∀ j, bf ops i j = true → envOf sps vals iv i j W := fun j hb => envOf_dep _ (fun S _ hS => (inv.facts j S (hready j hb) hS).1)
    -- how the walk goes on
    have go : ∀ (v : Value) (W' : World) (vals' : Nat → Value) (iv' : Nat → Nat × Nat), (∀ j, j ≠ i → vals' j = vals j) → (∀ j, j ≠ i → iv' j = iv j) → effv sps vals' i = v → C W' → W.heap.size ≤ W'.heap.size →
        (∀ j S, listed.getD j false = true → sps[j]? = some (.s S) → S (vals j) (iv j).1 (iv j).2 W') → (∀ S, sps[i]? = some (.s S) → S (vals' i) (iv' i).1 (iv' i).2 W' ∧ (iv' i).1 = W.heap.size ∧ (iv' i).2 ≤ W'.heap.size) →
        wpAnyIn (FW r) 0 P .any ops Q (m + (ops.size - sps.length)) (listed.setIfInBounds i true) (a.put o.dst v) W' := by
      intro v W' vals' iv' hv' hiv' hev hC' hsz hfacts hSi
      have hset : ∀ j, (listed.setIfInBounds i true).getD j false = if j = i then true else listed.getD j false := by
        intro j
        by_cases hij : i = j
        · subst hij
          have : i < listed.size := by rw [inv.size]; exact hlt
          simp [this]
        · rw [getD_set_ne false hij, if_neg (Ne.symm hij)]
      refine ih _ _ _ vals' iv' ⟨by simp [inv.size], ?_, hC', ?_, ?_, ?_, ?_⟩ ?_
      · intro j oj hj hf e he hb
        simp only [hset] at hf ⊢
        by_cases hji : j = i
        · subst hji; rw [ho] at hj; cases hj
          have := hall e he hb
          by_cases hei : e.on = j
          · simp [hei]
          · simp [hei]; simpa using this
        · rw [if_neg hji] at hf
          have := inv.closed j oj hj hf e he hb
          by_cases hei : e.on = i
          · simp [hei]
          · simp [hei]; simpa using this
      · rw [inv.frame]
        have hdst : o.dst = dstOf ops i := by simp [dstOf, ho]
        rw [hdst, putsL_insert (f := fun j => listed.getD j false) hui sps.length hin (fun j hij hj hf d hdj hdi => by
          have := hconf i j o d hin hj (by omega) ho hdj (.inr hdi)
          rw [if_neg (by omega)] at this
          rw [hnot j this] at hf; cases hf)]
        refine putsL_ext _ (fun j _ => (hset j).symm) (fun j hj hf => ?_)
        by_cases hji : j = i
        · subst hji; simp only [if_true]; exact hev.symm
        · simp only [hji, if_false]
          simp only [effv, hv' j hji]
      · intro j S hf hS
        rw [hset] at hf
        by_cases hji : j = i
        · subst hji; exact ⟨(hSi S hS).1, (hSi S hS).2.2⟩
        · rw [if_neg hji] at hf
          rw [hv' j hji, hiv' j hji]
          exact ⟨hfacts j S hf hS, Nat.le_trans (inv.facts j S hf hS).2 hsz⟩
      · intro j k S S' hjk hfj hfk hSj hSk
        rw [hset] at hfj hfk
        by_cases hji : j = i
        · subst hji
          have hki : k ≠ j := Ne.symm hjk
          rw [if_neg hki] at hfk
          rw [hiv' k hki]
          right
          rw [(hSi S hSj).2.1]
          exact (inv.facts k S' hfk hSk).2
        · rw [if_neg hji] at hfj
          rw [hiv' j hji]
          by_cases hki : k = i
          · subst hki
            left
            rw [(hSi S' hSk).2.1]
            exact (inv.facts j S hfj hSj).2
          · rw [if_neg hki] at hfk
            rw [hiv' k hki]
            exact inv.apart j k S S' hjk hfj hfk hSj hSk
      · intro j hj
        rw [hset, if_neg (by omega)]
        exact inv.tail j hj
      · have h1 := left_set (f := fun j => listed.getD j false) hui sps.length hin
        have h2 : left (fun j => (listed.setIfInBounds i true).getD j false) sps.length = left (fun j => if j = i then true else listed.getD j false) sps.length := by
          congr 1; funext j; exact hset j
        omega
    cases hsp : sps[i]? with
    | none => exact absurd (List.getElem?_eq_none_iff.1 hsp) (by omega)
    | some sp =>
      cases sp with
      | n =>
        have hwf := hO.n hsp
        unfold wpOpIn
        simp only [ho]
        rw [if_neg (by rw [hw, hwf]; simp)]
        exact ⟨fun _ _ => trivial, go undef W vals iv (fun _ _ => rfl) (fun _ _ => rfl) (by simp [effv, hsp, Sp.eff]) inv.world (Nat.le_refl _) (fun j S hf hS => (inv.facts j S hf hS).1) (fun S hS => (by rw [hsp] at hS; cases hS))⟩
      | c v =>
        obtain ⟨hwt, hy⟩ := hO.c v hsp
        refine wpOpIn_yi (S := fun u W' => u = v ∧ T W W') (C := C) (T := T) ho (by rw [hw]; exact hwt) hex ?_ (fun u W' hu hC' hT' => ?_)
        · have := hy W inv.world henv
          generalize (execOp (putsL ops (fun _ => true) (effv sps vals) a0 i).eval o).run P W = res at this
          cases res with
          | ok x W' =>
            cases x <;> simp only [yi] at this ⊢ <;> first
              | exact ⟨⟨this.1, this.2.2⟩, this.2⟩
              | exact this.mono fun e w'' he => (by cases e <;> first | exact ⟨⟨he.1, he.2.2⟩, he.2⟩ | exact he.elim)
          | halt x W' => simp only [yi] at this
        · obtain ⟨rfl, _⟩ := hu
          exact go u W' vals iv (fun _ _ => rfl) (fun _ _ => rfl) (by simp [effv, hsp, Sp.eff]) hC' (hT _ _ hT') (fun j S hf hS => by
            have hjn : j < sps.length := by
              rcases Nat.lt_or_ge j sps.length with h | h
              · exact h
              · rw [inv.tail j h] at hf; cases hf
            have hoj : ops[j]? = some ops[j] := Array.getElem?_eq_getElem (by omega)
            exact ((hob vals iv j _ hjn hoj).s S hS).2.1 _ _ _ _ _ (inv.facts j S hf hS).1 hT') (fun S hS => (by rw [hsp] at hS; cases hS))
      | s S =>
        obtain ⟨hwt, hst, hy⟩ := hO.s S hsp
        refine wpOpIn_yi (S := fun v W' => S v W.heap.size W'.heap.size W') (C := C) (T := T) ho (by rw [hw]; exact hwt) hex (hy W inv.world henv) (fun u W' hu hC' hT' => ?_)
        refine go u W' (fun j => if j = i then u else vals j) (fun j => if j = i then (W.heap.size, W'.heap.size) else iv j) (fun j hj => by simp [hj]) (fun j hj => by simp [hj]) (by simp [effv, hsp, Sp.eff]) hC' (hT _ _ hT') (fun j S' hf hS' => ?_) (fun S' hS' => (by rw [hsp] at hS'; cases hS'; simpa using hu))
        have hjn : j < sps.length := by
          rcases Nat.lt_or_ge j sps.length with h | h
          · exact h
          · rw [inv.tail j h] at hf; cases hf
        have hoj : ops[j]? = some ops[j] := Array.getElem?_eq_getElem (by omega)
        exact ((hob vals iv j _ hjn hoj).s S' hS').2.1 _ _ _ _ _ (inv.facts j S' hf hS').1 hT'

/-- A region that draws: the walk in the order of the text; behind it the tail. -/
theorem c_draw {id : Nat} {os : List Oper} (sps : List Sp) {a0 : Act} {W0 : World} (hT : ∀ W W', T W W' → W.heap.size ≤ W'.heap.size) (hm : P.follows .mixedOrders = true) (hd : drawB os.toArray sps.length = true) (hC : C { W0 with drawn := W0.drawn + 1 })
    (h : OB P os.toArray C T (fun a W => WL r P os.toArray Q (os.drop sps.length) a W) sps 0 os a0 (fun _ _ => True) []) : (Code.region id os.toArray true).wpIn (FW r) 0 P Q a0 W0 := by
  obtain ⟨_, hnn, _, _, _⟩ := drawB_spec hd
  have hall : ∀ vals iv, _ := fun vals iv => ob_extract (P := P) (ops := os.toArray) (C := C) (T := T) (sps := sps) (a0 := a0) vals iv sps 0 os (fun j => by simp) (by simp) (fun j hj => by simp) h
  refine wpIn_region_any hm ?_
  have hz : ∀ j, (Array.replicate os.toArray.size false).getD j false = false := by
    intro j
    rw [Array.getD_eq_getD_getElem?, Array.getElem?_replicate]
    split <;> rfl
  have hleft : ∀ k, left (fun j => (Array.replicate os.toArray.size false).getD j false) k = k := by
    intro k
    induction k with
    | zero => rfl
    | succ k ih => simp only [left]; rw [ih]; simp only [hz]; rfl
  have hp : ∀ k, putsL os.toArray (fun j => (Array.replicate os.toArray.size false).getD j false) (effv sps (fun _ => undef)) a0 k = a0 := by
    intro k
    induction k with
    | zero => rfl
    | succ k ih => simp only [hz] at ih ⊢; simp only [putsL]; rw [ih]; rfl
  have := draw_any (r := r) (Q := Q) hT hd (fun vals iv k o hk ho => (hall vals iv).1 k o (Nat.zero_le _) hk ho) (fun vals iv W hC hE hA => by have := (hall vals iv).2 W hC hE hA; simpa using this)
    sps.length (Array.replicate os.toArray.size false) a0 { W0 with drawn := W0.drawn + 1 } (fun _ => undef) (fun _ => (0, 0))
    ⟨by simp, fun i o hi hf => (by simp only [hz] at hf; cases hf), hC, (hp _).symm, fun j S hf => (by rw [hz] at hf; cases hf), fun i j S S' _ hf => (by rw [hz] at hf; cases hf), fun j _ => hz j⟩ (hleft _)
  rwa [show sps.length + (os.toArray.size - sps.length) = os.toArray.size by omega] at this
end
end Go.Proofs.Ytfdffeameoejfaa
