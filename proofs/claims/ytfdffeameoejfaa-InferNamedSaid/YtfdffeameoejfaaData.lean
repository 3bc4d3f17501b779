/- The data of the program as Lean's own: notices, sets, lists in memory; further step laws that speak of them. -/
import Derived.Test.YtfdffeameoejfaaFacts
namespace Go.Proofs.Ytfdffeameoejfaa
set_option linter.unusedSimpArgs false
set_option linter.unusedVariables false
open Go Go.RowKit

/-- A notice. -/
structure N3 where
  of : Int
  tag : Int
  kind : Int
  deriving DecidableEq, Inhabited
/-- A set: four words. -/
structure S4 where
  a : Int
  b : Int
  c : Int
  d : Int
  deriving DecidableEq, Inhabited

@[reducible] def N3.cells (x : N3) : List Value := [i64 x.of, i64 x.tag, i64 x.kind]
@[reducible] def N3.val (x : N3) : Value := .agg (N3.cells x).toArray
@[reducible] def S4.cells (s : S4) : List Value := [u32 s.a, u32 s.b, u32 s.c, u32 s.d]
@[reducible] def S4.val (s : S4) : Value := .agg (S4.cells s).toArray
def S4.zero : S4 := ⟨0, 0, 0, 0⟩
def N3.zero : N3 := ⟨0, 0, 0⟩

/-- A call that answers v and turns nothing that was there. -/
def Pu (v : Value) (w : World) : Value → World → Prop := fun u w' => u = v ∧ Ext [] w w'

/-- A list in memory, below block N: s cells an element. -/
def Sl {α : Type} (cf : α → List Value) (s N : Nat) (w : World) (A : Option Addr) (n : Nat) (xs : List α) : Prop :=
  xs.length = n ∧ (0 < n → ∃ b o, A = some ⟨b, o, none⟩ ∧ b < N ∧ ∀ i x, xs[i]? = some x → ∀ j v, (cf x)[j]? = some v → w.cell? ⟨b, o + i * s + j, none⟩ = some v)

section
variable {α : Type} {cf : α → List Value} {s N : Nat} {w w' : World} {A : Option Addr} {n : Nat} {xs : List α}

theorem cell_keep {L : List Nat} {a : Addr} {v : Value} (h : w.cell? a = some v) (x : Ext L w w') (hb : a.block ∉ L) : w'.cell? a = some v := by
  have hlt : a.block < w.heap.size := by
    rcases Nat.lt_or_ge a.block w.heap.size with h1 | h1
    · exact h1
    · unfold World.cell? at h; rw [Array.getElem?_eq_none h1] at h; cases h
  unfold World.cell? at h ⊢
  rw [x.blk _ hlt hb]; exact h

theorem cell_its {N : Nat} {a : Addr} {v : Value} (h : w.cell? a = some v) (x : Its N w w') : w'.cell? a = some v := by
  unfold World.cell? at h ⊢
  cases ho : w.heap[a.block]? with
  | none => rw [ho] at h; cases h
  | some o =>
    rw [ho] at h
    cases o with
    | cells c e z => rw [x.cells _ _ ho rfl]; exact h
    | _ => cases h

theorem Sl.ext {L : List Nat} (h : Sl cf s N w A n xs) (x : Ext L w w') (hL : ∀ c ∈ L, N ≤ c) : Sl cf s N w' A n xs :=
  ⟨h.1, fun hn => by
    obtain ⟨b, o, hA, hb, hc⟩ := h.2 hn
    exact ⟨b, o, hA, hb, fun i y hy j v hv => cell_keep (hc i y hy j v hv) x (fun hx => by have := hL _ hx; simp at this; omega)⟩⟩
theorem Sl.ext0 (h : Sl cf s N w A n xs) (x : Ext [] w w') : Sl cf s N w' A n xs := h.ext x (by simp)
theorem Sl.ext1 {c : Nat} (h : Sl cf s N w A n xs) (x : Ext [c] w w') (hc : N ≤ c) : Sl cf s N w' A n xs := h.ext x (by simpa using hc)
theorem Sl.its {M : Nat} (h : Sl cf s N w A n xs) (x : Its M w w') : Sl cf s N w' A n xs :=
  ⟨h.1, fun hn => by
    obtain ⟨b, o, hA, hb, hc⟩ := h.2 hn
    exact ⟨b, o, hA, hb, fun i y hy j v hv => cell_its (hc i y hy j v hv) x⟩⟩
theorem Sl.mono {M : Nat} (h : Sl cf s N w A n xs) (hM : N ≤ M) : Sl cf s M w A n xs :=
  ⟨h.1, fun hn => by
    obtain ⟨b, o, hA, hb, hc⟩ := h.2 hn
    exact ⟨b, o, hA, by omega, hc⟩⟩
theorem Sl.nil : Sl cf s N w A 0 [] := ⟨rfl, fun h => by omega⟩
/-- The element k: where it lies. -/
theorem Sl.at (h : Sl cf s N w A n xs) {k : Nat} (hk : k < n) : ∃ b o x, A = some ⟨b, o, none⟩ ∧ b < N ∧ xs[k]? = some x ∧ ∀ j v, (cf x)[j]? = some v → w.cell? ⟨b, o + k * s + j, none⟩ = some v := by
  obtain ⟨b, o, hA, hb, hc⟩ := h.2 (by omega)
  have hl : k < xs.length := by rw [h.1]; exact hk
  exact ⟨b, o, xs[k], hA, hb, List.getElem?_eq_getElem hl, fun j v hv => hc k _ (List.getElem?_eq_getElem hl) j v hv⟩

/-- A block that is known whole, seen as a list. -/
theorem Sl.of_blk {b : Nat} {e : TypeId} {cs : List Value} (h : Blk w b e cs) (hb : b < N) (hx : ∀ i x, xs[i]? = some x → ∀ j v, (cf x)[j]? = some v → cs[i * s + j]? = some v) (hl : xs.length = n) : Sl cf s N w (some ⟨b, 0, none⟩) n xs :=
  ⟨hl, fun _ => ⟨b, 0, rfl, hb, fun i x hi j v hj => by rw [Nat.zero_add, h.cell]; exact hx i x hi j v hj⟩⟩
end

section
variable {r : Option Nat} {P : Program} {ops : Array Oper} {Q : Exit → Act → World → Prop} {K : Act → World → Prop} {M : Nat} {l : Nat → Value} {ds : List Deferred} {w : World} {rest : List Oper}
variable {d : Option Tmp} {t T : TypeId} {p : String} {af : Array Edge} {op : Op} {v : Value} {g : Option (Nat × Bool)}

theorem rn_pT {c x y : Operand} {b : Bool} (hc : ev M l c = .bool b) (hb : b = true) (hx : ev M l x = v) : Rn P M l w d (.pick c x y) t p af g v := rn_pickT (by rw [hc, hb]) hx
theorem rn_pF {c x y : Operand} {b : Bool} (hc : ev M l c = .bool b) (hb : b = false) (hx : ev M l y = v) : Rn P M l w d (.pick c x y) t p af g v := rn_pickF (by rw [hc, hb]) hx
theorem c_T {c : Operand} {x y : Code} {b : Bool} (hc : ev M l c = .bool b) (hb : b = true) (h : x.wpIn (FW r) 0 P Q (Fr M l ds) w) : (Code.cond c x y).wpIn (FW r) 0 P Q (Fr M l ds) w := c_ifT (by rw [hc, hb]) h
theorem c_F {c : Operand} {x y : Code} {b : Bool} (hc : ev M l c = .bool b) (hb : b = false) (h : y.wpIn (FW r) 0 P Q (Fr M l ds) w) : (Code.cond c x y).wpIn (FW r) 0 P Q (Fr M l ds) w := c_ifF (by rw [hc, hb]) h
theorem not_t {b : Bool} (h : (!b) = true) : b = false := by simpa using h
theorem not_f {b : Bool} (h : (!b) = false) : b = true := by simpa using h

theorem yl {tt sl : Nat} {e : Bool} (hd : (ops[tt]?).bind (·.dst) = some sl) (hs : ev M l (.tmp sl) = .bool e) : yielded ops (Fr M l ds).tmps tt = some e := by
  simp only [ev, blt_eq] at hs
  by_cases h : sl < M
  · simp only [h, decide_true, cond_true] at hs
    simp [yielded, hd, Fr_get, h, hs]
  · simp only [h, decide_false, cond_false] at hs
    cases hs

theorem g_yes {tt sl : Nat} {b e : Bool} {dst : Option Tmp} {ty : TypeId} (hg : g = some (tt, b)) (hd : (ops[tt]?).bind (·.dst) = some sl) (hs : ev M l (.tmp sl) = .bool e) (he : e = b)
    (k : WL r P ops Q (⟨dst, op, ty, p, af, none⟩ :: rest) (Fr M l ds) w) : WL r P ops Q (⟨dst, op, ty, p, af, g⟩ :: rest) (Fr M l ds) w :=
  st_yes hg (by subst he; exact yl hd hs) k
theorem g_not {tt sl : Nat} {b e : Bool} {dst : Option Tmp} {ty : TypeId} (hg : g = some (tt, b)) (hd : (ops[tt]?).bind (·.dst) = some sl) (hs : ev M l (.tmp sl) = .bool e) (he : e = !b)
    (k : WL r P ops Q rest (Fr M (ptd l dst undef) ds) w) : WL r P ops Q (⟨dst, op, ty, p, af, g⟩ :: rest) (Fr M l ds) w :=
  st_not hg (by subst he; exact yl hd hs) (by rw [Fr_put]; exact k)

theorem yl_un {tt sl : Nat} (hd : (ops[tt]?).bind (·.dst) = some sl) (hs : ev M l (.tmp sl) = undef) : yielded ops (Fr M l ds).tmps tt = none := by
  simp only [ev, blt_eq] at hs
  by_cases h : sl < M
  · simp only [h, decide_true, cond_true] at hs
    simp [yielded, hd, Fr_get, h, hs, undef]
  · simp [yielded, hd, Fr_get, h]
theorem g_un {tt sl : Nat} {b : Bool} {dst : Option Tmp} {ty : TypeId} (hg : g = some (tt, b)) (hd : (ops[tt]?).bind (·.dst) = some sl) (hs : ev M l (.tmp sl) = undef)
    (k : WL r P ops Q rest (Fr M (ptd l dst undef) ds) w) : WL r P ops Q (⟨dst, op, ty, p, af, g⟩ :: rest) (Fr M l ds) w := by
  have hw : Region.wanted ⟨dst, op, ty, p, af, g⟩ (yielded ops (Fr M l ds).tmps) = false := by simp [Region.wanted, hg, yl_un hd hs]
  show wpListIn _ _ _ _ _ _ _ _
  unfold wpListIn
  simp only [hw]
  exact ⟨fun _ _ => trivial, by rw [Fr_put]; exact k⟩

theorem s_callP {f : FuncId} {xo : List Operand} {at_ : Array TypeId} {vs : List Value} (hF : Ent P f) (ha : xo.map (ev M l) = vs) (hc : Calls P f vs.toArray w (Ret (Pu v w)))
    (k : ∀ w', Ext [] w w' → WL r P ops Q rest (Fr M (ptd l d v) ds) w') :
    WL r P ops Q (⟨d, .call { callee := .value (.func f), args := xo.toArray, argTypes := at_ }, t, p, af, none⟩ :: rest) (Fr M l ds) w :=
  s_call hF ha hc (fun _ w' ⟨he, hx⟩ => by subst he; exact k w' hx)
theorem s_callvP {f : FuncId} {fo : Operand} {xo : List Operand} {at_ : Array TypeId} {vs ws : List Value} (hF : Ent P f) (hf : ev M l fo = .func (.func f) #[] ws.toArray) (ha : xo.map (ev M l) = vs)
    (hc : Calls P f (vs ++ ws).toArray w (Ret (Pu v w))) (k : ∀ w', Ext [] w w' → WL r P ops Q rest (Fr M (ptd l d v) ds) w') :
    WL r P ops Q (⟨d, .call { callee := .value fo, args := xo.toArray, argTypes := at_ }, t, p, af, none⟩ :: rest) (Fr M l ds) w :=
  s_callv hF hf ha hc (fun _ w' ⟨he, hx⟩ => by subst he; exact k w' hx)

/-! a region that draws -/
abbrev OX (P : Program) (ops : Array Oper) (K : Act → World → Prop) (w : World) (sps : List Sp) (i : Nat) (l : List Oper) (a : Act) (env : Nat → World → Prop) (ivs : List (Nat × Nat)) : Prop := OB P ops (fun W => Ext [] w W) (Ext []) K sps i l a env ivs

variable {sps : List Sp} {i : Nat} {env : Nat → World → Prop} {ivs : List (Nat × Nat)}

theorem q_v (hr : ∀ W, Ext [] w W → Rn P M l W d op t p af none v) (k : OX P ops K w sps (i + 1) rest (Fr M (ptd l d v) ds) env ivs) : OX P ops K w (.c v :: sps) i (⟨d, op, t, p, af, none⟩ :: rest) (Fr M l ds) env ivs :=
  ⟨by simp [Region.wanted], fun W hC _ => by rw [Fr_eval', hr W hC]; exact ⟨rfl, hC, Ext.refl W⟩, by rw [Fr_put]; exact k⟩

theorem q_call {f : FuncId} {xo : List Operand} {at_ : Array TypeId} {vs : List Value} (hF : Ent P f) (ha : xo.map (ev M l) = vs) (hc : ∀ W, Ext [] w W → Calls P f vs.toArray W (Ret (Pu v W)))
    (k : OX P ops K w sps (i + 1) rest (Fr M (ptd l d v) ds) env ivs) :
    OX P ops K w (.c v :: sps) i (⟨d, .call { callee := .value (.func f), args := xo.toArray, argTypes := at_ }, t, p, af, none⟩ :: rest) (Fr M l ds) env ivs := by
  refine ⟨by simp [Region.wanted], fun W hC _ => ?_, by rw [Fr_put]; exact k⟩
  have hr : (execOp (ev M l) ⟨d, .call { callee := .value (.func f), args := xo.toArray, argTypes := at_ }, t, p, af, none⟩).run P W = .ok (.enter f vs.toArray) W := by
    subst ha; simp [execOp, resolve, ev, Deferred.ofValue, invoke, hF _ W]
  rw [Fr_eval', hr]
  refine (hc W hC).mono fun e w' he => ?_
  cases e with
  | returned u => exact ⟨he.1, hC.step0 he.2, he.2⟩
  | panicked ch => exact he.elim
  | outgrown => exact he.elim

theorem q_callv {f : FuncId} {fo : Operand} {xo : List Operand} {at_ : Array TypeId} {vs ws : List Value} (hF : Ent P f) (hf : ev M l fo = .func (.func f) #[] ws.toArray) (ha : xo.map (ev M l) = vs)
    (hc : ∀ W, Ext [] w W → Calls P f (vs ++ ws).toArray W (Ret (Pu v W))) (k : OX P ops K w sps (i + 1) rest (Fr M (ptd l d v) ds) env ivs) :
    OX P ops K w (.c v :: sps) i (⟨d, .call { callee := .value fo, args := xo.toArray, argTypes := at_ }, t, p, af, none⟩ :: rest) (Fr M l ds) env ivs := by
  refine ⟨by simp [Region.wanted], fun W hC _ => ?_, by rw [Fr_put]; exact k⟩
  have hr : (execOp (ev M l) ⟨d, .call { callee := .value fo, args := xo.toArray, argTypes := at_ }, t, p, af, none⟩).run P W = .ok (.enter f (vs ++ ws).toArray) W := by
    subst ha
    have h := hF (((xo.map (ev M l)) ++ ws).toArray) W
    simp [execOp, resolve, hf, Deferred.ofValue, invoke] at h ⊢
    exact h
  rw [Fr_eval', hr]
  refine (hc W hC).mono fun e w' he => ?_
  cases e with
  | returned u => exact ⟨he.1, hC.step0 he.2, he.2⟩
  | panicked ch => exact he.elim
  | outgrown => exact he.elim

/-- A call whose answer is new memory, or else not known beforehand. -/
theorem q_callS {f : FuncId} {xo : List Operand} {at_ : Array TypeId} {vs : List Value} (S : Value → Nat → Nat → World → Prop) (hS : ∀ v lo hi W W', S v lo hi W → Ext [] W W' → S v lo hi W') (hF : Ent P f) (ha : xo.map (ev M l) = vs)
    (hc : ∀ W, Ext [] w W → (∀ j, bf ops i j = true → env j W) → Calls P f vs.toArray W (Ret fun v W' => S v W.heap.size W'.heap.size W' ∧ Ext [] W W'))
    (k : ∀ v lo hi, OX P ops K w sps (i + 1) rest (Fr M (ptd l d v) ds) (upd env i (S v lo hi)) (ivs ++ [(lo, hi)])) :
    OX P ops K w (.s S :: sps) i (⟨d, .call { callee := .value (.func f), args := xo.toArray, argTypes := at_ }, t, p, af, none⟩ :: rest) (Fr M l ds) env ivs := by
  refine ⟨by simp [Region.wanted], hS, fun W hC he => ?_, fun v lo hi => by rw [Fr_put]; exact k v lo hi⟩
  have hr : (execOp (ev M l) ⟨d, .call { callee := .value (.func f), args := xo.toArray, argTypes := at_ }, t, p, af, none⟩).run P W = .ok (.enter f vs.toArray) W := by
    subst ha; simp [execOp, resolve, ev, Deferred.ofValue, invoke, hF _ W]
  rw [Fr_eval', hr]
  refine (hc W hC he).mono fun e w' he => ?_
  cases e with
  | returned u => exact ⟨he.1, hC.step0 he.2, he.2⟩
  | panicked ch => exact he.elim
  | outgrown => exact he.elim

theorem ob_yes {tt sl : Nat} {b e : Bool} {dst : Option Tmp} {ty : TypeId} (hg : g = some (tt, b)) (hd : (ops[tt]?).bind (·.dst) = some sl) (hs : ev M l (.tmp sl) = .bool e) (he : e = b) {u : Value}
    (k : OX P ops K w (.c u :: sps) i (⟨dst, op, ty, p, af, none⟩ :: rest) (Fr M l ds) env ivs) : OX P ops K w (.c u :: sps) i (⟨dst, op, ty, p, af, g⟩ :: rest) (Fr M l ds) env ivs :=
  ⟨by subst he; simp [Region.wanted, hg, yl hd hs], k.2.1, k.2.2⟩
theorem ob_not {tt sl : Nat} {b e : Bool} {dst : Option Tmp} {ty : TypeId} (hg : g = some (tt, b)) (hd : (ops[tt]?).bind (·.dst) = some sl) (hs : ev M l (.tmp sl) = .bool e) (he : e = !b)
    (k : OX P ops K w sps (i + 1) rest (Fr M (ptd l dst undef) ds) env ivs) : OX P ops K w (.n :: sps) i (⟨dst, op, ty, p, af, g⟩ :: rest) (Fr M l ds) env ivs :=
  ⟨by subst he; simp [Region.wanted, hg, yl hd hs], by rw [Fr_put]; exact k⟩
theorem ob_un {tt sl : Nat} {b : Bool} {dst : Option Tmp} {ty : TypeId} (hg : g = some (tt, b)) (hd : (ops[tt]?).bind (·.dst) = some sl) (hs : ev M l (.tmp sl) = undef)
    (k : OX P ops K w sps (i + 1) rest (Fr M (ptd l dst undef) ds) env ivs) : OX P ops K w (.n :: sps) i (⟨dst, op, ty, p, af, g⟩ :: rest) (Fr M l ds) env ivs :=
  ⟨by simp [Region.wanted, hg, yl_un hd hs], by rw [Fr_put]; exact k⟩
theorem ob_end (k : ∀ W, Ext [] w W → (∀ j, env j W) → Apt ivs → K (Fr M l ds) W) (h : rest = rest := rfl) : OX P ops K w [] i rest (Fr M l ds) env ivs := k

theorem c_dr {id n : Nat} {os : List Oper} (sps : List Sp) (hl : sps.length = n) {W0 : World} (hm : P.follows .mixedOrders = true) (hd : drawB os.toArray n = true)
    (h : OX P os.toArray (fun a W => WL r P os.toArray Q (os.drop n) a W) W0 sps 0 os (Fr M l ds) (fun _ _ => True) []) : (Code.region id os.toArray true).wpIn (FW r) 0 P Q (Fr M l ds) W0 := by
  subst hl
  exact c_draw (C := fun W => Ext [] W0 W) (T := Ext []) sps (fun _ _ h => h.size) hm hd (Ext.drew W0) h
theorem t_norm {a : Act} (k : K a w) : Exit.then K Q .normal a w := k

/-- What an element in memory holds. -/
def El (w : World) (b o : Nat) (cs : List Value) : Prop := ∀ j v, cs[j]? = some v → w.cell? ⟨b, o + j, none⟩ = some v
end
section
variable {w w' : World} {b o : Nat} {cs : List Value}
theorem El.ext0 (h : El w b o cs) (x : Ext [] w w') : El w' b o cs := fun j v hv => cell_keep (h j v hv) x (by simp)
theorem El.ext1 {c : Nat} (h : El w b o cs) (x : Ext [c] w w') (hc : b ≠ c) : El w' b o cs := fun j v hv => cell_keep (h j v hv) x (by simpa using hc)
theorem El.its {M : Nat} (h : El w b o cs) (x : Its M w w') : El w' b o cs := fun j v hv => cell_its (h j v hv) x
end
section
variable {α : Type} {cf : α → List Value} {s N : Nat} {w : World} {A : Option Addr} {n : Nat} {xs : List α}
theorem Sl.el (h : Sl cf s N w A n xs) {k : Nat} (hk : k < n) : ∃ b o x, A = some ⟨b, o, none⟩ ∧ b < N ∧ xs[k]? = some x ∧ El w b (o + k * s) (cf x) := h.at hk
end
section
variable {P : Program} {M : Nat} {l : Nat → Value} {w : World} {d : Option Tmp} {t T : TypeId} {p : String} {af : Array Edge} {g : Option (Nat × Bool)} {x y : Operand}
theorem rn_ie {A : Option Addr} {b o n cp s o' : Nat} {j : Int} {kk : IntKind} (h : IxS P T s) (hx : ev M l x = .slice A n cp) (hA : A = some ⟨b, o, none⟩) (hy : ev M l y = .int kk j) (h0 : 0 ≤ j) (h1 : j < n) (ho : o + j.toNat * s = o') :
    Rn P M l w d (.indexAddr T x y) t p af g (ptr b o') := by
  subst hA; exact rn_iaS h hx hy h0 h1 ho
end
end Go.Proofs.Ytfdffeameoejfaa
