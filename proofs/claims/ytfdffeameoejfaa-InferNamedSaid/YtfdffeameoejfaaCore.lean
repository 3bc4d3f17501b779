/- Words and step laws of this claim's own walk: frames as lists, blocks of memory, one law an operation. -/
import Derived.RangeFuncLeaves
import Derived.OrdersIn
import Derived.TacticsIn
import Derived.Below
namespace Go.Proofs.Ytfdffeameoejfaa
set_option linter.unusedSimpArgs false
set_option linter.unusedVariables false
open Go Go.RowKit

/-- The wide fence, in a round or not. -/
abbrev FW (r : Option Nat) : Fence := { fn := fun _ => True, depth := none, alive := false, round := r }

theorem calls_fw {P : Program} {f : FuncId} {args : Array Value} {w : World} {R : Ending → World → Prop} {r : Option Nat} :
    CallsIn (FW r) 0 P f args w R ↔ Calls P f args w R := callsIn_wide (n := 0)

/-! ### Frames -/
def lk : List Value → Nat → Value
  | [], _ => undef
  | v :: _, 0 => v
  | _ :: l, n + 1 => lk l n

def up (f : Nat → Value) (d : Nat) (v : Value) : Nat → Value := fun t => bif Nat.beq t d then v else f t

def ptd (f : Nat → Value) : Option Tmp → Value → Nat → Value
  | none, _ => f
  | some t, v => up f t v

/-- A frame of M slots. -/
def Fr (M : Nat) (l : Nat → Value) (ds : List Deferred) : Act := { tmps := ((List.range M).map l).toArray, defers := ds }

def ev (M : Nat) (l : Nat → Value) : Operand → Value
  | .tmp t => bif Nat.blt t M then l t else undef
  | .const v => v
  | .global g => .pointer (some ⟨g, 0, none⟩)
  | .func f => .func (.func f) #[] #[]

theorem blt_eq (t M : Nat) : Nat.blt t M = decide (t < M) := by
  rw [Bool.eq_iff_iff]; simp [Nat.blt_eq]

theorem Fr_get (M : Nat) (l : Nat → Value) (ds : List Deferred) (t : Nat) : (Fr M l ds).tmps[t]? = if t < M then some (l t) else none := by
  simp only [Fr, List.getElem?_toArray, List.getElem?_map]
  by_cases h : t < M
  · rw [if_pos h, List.getElem?_range h]; rfl
  · rw [if_neg h, List.getElem?_eq_none (by simp; omega)]; rfl

theorem Fr_eval (M : Nat) (l : Nat → Value) (ds : List Deferred) (x : Operand) : (Fr M l ds).eval x = ev M l x := by
  cases x with
  | tmp t =>
    simp only [Act.eval, Array.getD_eq_getD_getElem?, Fr_get, ev, blt_eq]
    by_cases h : t < M <;> simp [h]
  | const v => rfl
  | global g => rfl
  | func f => rfl

theorem Fr_eval' (M : Nat) (l : Nat → Value) (ds : List Deferred) : (Fr M l ds).eval = ev M l := funext (Fr_eval M l ds)

theorem up_eq (f : Nat → Value) (d t : Nat) (v : Value) : up f d v t = if t = d then v else f t := by
  unfold up
  by_cases h : t = d
  · subst h; simp
  · have : Nat.beq t d = false := by cases hb : Nat.beq t d with
      | false => rfl
      | true => exact absurd (Nat.eq_of_beq_eq_true hb) h
    simp [this, h]

theorem Fr_put (M : Nat) (l : Nat → Value) (ds : List Deferred) (d : Option Tmp) (v : Value) : (Fr M l ds).put d v = Fr M (ptd l d v) ds := by
  cases d with
  | none => rfl
  | some d =>
    have : ((Fr M l ds).tmps.setIfInBounds d v) = (Fr M (up l d v) ds).tmps := by
      apply Array.ext_getElem?
      intro t
      rw [Array.getElem?_setIfInBounds, Fr_get, Fr_get]
      have hs : (Fr M l ds).tmps.size = M := by simp [Fr]
      rw [hs, up_eq]
      by_cases h : d = t
      · subst h; simp
      · have h' : ¬ t = d := fun e => h e.symm
        simp [h, h']
    simp only [Act.put, ptd]
    rw [this]
    rfl

/-! ### Memory -/
/-- Nothing of what was there has turned, but for the blocks L. -/
structure Ext (L : List Nat) (w w' : World) : Prop where
  os : w'.os = w.os
  tape : w'.tape = w.tape
  output : w'.output = w.output
  size : w.heap.size ≤ w'.heap.size
  blk : ∀ k, k < w.heap.size → k ∉ L → w'.heap[k]? = w.heap[k]?

theorem Ext.refl (w : World) : Ext [] w w := ⟨rfl, rfl, rfl, Nat.le_refl _, fun _ _ _ => rfl⟩

theorem Ext.below {w w' : World} (h : Ext [] w w') : Below w.heap.size w w' :=
  ⟨h.os, h.tape, h.output, h.size, fun k hk => h.blk k hk (by simp)⟩

theorem Ext.of_below {w w' : World} (h : Below w.heap.size w w') : Ext [] w w' :=
  ⟨h.os, h.tape, h.output, h.size, fun k hk _ => h.block k hk⟩

/-- One step more: what it turned is among L, or was not there at the beginning. -/
theorem Ext.step {L L' : List Nat} {w0 w w' : World} (h : Ext L w0 w) (h' : Ext L' w w') (hL : ∀ x ∈ L', x ∈ L ∨ w0.heap.size ≤ x) : Ext L w0 w' :=
  ⟨h'.os.trans h.os, h'.tape.trans h.tape, h'.output.trans h.output, Nat.le_trans h.size h'.size, fun k hk hn => by
    rw [h'.blk k (Nat.lt_of_lt_of_le hk h.size) (fun hx => by rcases hL k hx with h1 | h1; exact hn h1; omega)]
    exact h.blk k hk hn⟩

theorem Ext.step0 {L : List Nat} {w0 w w' : World} (h : Ext L w0 w) (h' : Ext [] w w') : Ext L w0 w' := h.step h' (by simp)

theorem Ext.step1 {L : List Nat} {w0 w w' : World} {b : Nat} (h : Ext L w0 w) (h' : Ext [b] w w') (hb : b ∈ L ∨ w0.heap.size ≤ b) : Ext L w0 w' :=
  h.step h' (by simp; exact hb)

theorem Ext.more {L L' : List Nat} {w w' : World} (h : Ext L w w') (hL : ∀ x ∈ L, x ∈ L') : Ext L' w w' :=
  ⟨h.os, h.tape, h.output, h.size, fun k hk hn => h.blk k hk (fun hx => hn (hL k hx))⟩

theorem Ext.drew (w : World) : Ext [] w { w with drawn := w.drawn + 1 } := ⟨rfl, rfl, rfl, Nat.le_refl _, fun _ _ _ => rfl⟩

/-- Block b is just these cells, none frozen. -/
def Blk (w : World) (b : Nat) (e : TypeId) (cs : List Value) : Prop := w.heap[b]? = some (.cells cs.toArray e (0, 0))

section
variable {w w' : World} {b : Nat} {e : TypeId} {cs : List Value}

theorem Blk.lt (h : Blk w b e cs) : b < w.heap.size := by
  rcases Nat.lt_or_ge b w.heap.size with h1 | h1
  · exact h1
  · unfold Blk at h; rw [Array.getElem?_eq_none h1] at h; cases h

theorem Blk.ext {L : List Nat} (h : Blk w b e cs) (x : Ext L w w') (hb : b ∉ L) : Blk w' b e cs := (x.blk b h.lt hb).trans h

theorem Blk.ext0 (h : Blk w b e cs) (x : Ext [] w w') : Blk w' b e cs := h.ext x (by simp)

theorem Blk.ext1 {c : Nat} (h : Blk w b e cs) (x : Ext [c] w w') (hb : b ≠ c) : Blk w' b e cs := h.ext x (by simpa using hb)

theorem Blk.cell (h : Blk w b e cs) (i : Nat) : w.cell? ⟨b, i, none⟩ = cs[i]? := by
  unfold Blk at h; simp [World.cell?, h]

theorem Blk.free (h : Blk w b e cs) (i : Nat) (s : Option Nat) : w.frozen? ⟨b, i, s⟩ = false := by
  unfold Blk at h; simp [World.frozen?, h]

theorem Blk.new (w : World) (e : TypeId) (cs : List Value) : Blk { w with heap := w.heap.push (.cells cs.toArray e) } w.heap.size e cs := by
  unfold Blk; simp

theorem ext_push (w : World) (o : Obj) : Ext [] w { w with heap := w.heap.push o } :=
  ⟨rfl, rfl, rfl, by simp, fun k hk _ => by show (w.heap.push o)[k]? = _; rw [Array.getElem?_push, if_neg (by omega)]⟩

theorem ext_setCell (w : World) (a : Addr) (v : Value) : Ext [a.block] w (w.setCell a v) :=
  ⟨rfl, rfl, rfl, by simp [World.setCell], fun k _ hn => Below.heap_setCell w a v k (by simpa using hn)⟩

theorem Blk.set (h : Blk w b e cs) (i : Nat) (v : Value) : Blk (w.setCell ⟨b, i, none⟩ v) b e (cs.set i v) := by
  unfold Blk at h ⊢
  simp [World.setCell, Array.getElem?_modify, h]
end

/-! ### Lists of operations -/
section
variable {r : Option Nat} {P : Program} {ops : Array Oper} {Q : Exit → Act → World → Prop} {a : Act} {w : World} {rest : List Oper} {o : Oper}

abbrev WL (r : Option Nat) (P : Program) (ops : Array Oper) (Q : Exit → Act → World → Prop) (l : List Oper) (a : Act) (w : World) : Prop := wpListIn (FW r) 0 P ops Q l a w

theorem st {v : Value} {w' : World} (hg : o.guard = none) (hd : ∀ c, o.op ≠ .defer c) (hr : (execOp a.eval o).run P w = .ok (.value v) w')
    (k : WL r P ops Q rest (a.put o.dst v) w') : WL r P ops Q (o :: rest) a w :=
  wpListIn_plain hg fun K hK => ⟨fun _ _ => trivial, by rw [Oper.semAt_eq _ _ _ hd, hr]; exact hK _ _ k⟩

theorem st_skip {w' : World} (hg : o.guard = none) (hd : ∀ c, o.op ≠ .defer c) (hr : (execOp a.eval o).run P w = .ok .skip w')
    (k : WL r P ops Q rest (a.put o.dst undef) w') : WL r P ops Q (o :: rest) a w :=
  wpListIn_plain hg fun K hK => ⟨fun _ _ => trivial, by rw [Oper.semAt_eq _ _ _ hd, hr]; exact hK _ _ k⟩

theorem st_panic {v : Value} {w' : World} (hg : o.guard = none) (hd : ∀ c, o.op ≠ .defer c) (hr : (execOp a.eval o).run P w = .halt (.panic v) w')
    (k : Q (.panic [{ v, recovered := false }]) a w') : WL r P ops Q (o :: rest) a w :=
  wpListIn_plain hg fun K hK => ⟨fun _ _ => trivial, by rw [Oper.semAt_eq _ _ _ hd, hr]; exact k⟩

theorem st_enter {f : FuncId} {args : Array Value} {w' : World} (hg : o.guard = none) (hd : ∀ c, o.op ≠ .defer c)
    (hr : (execOp a.eval o).run P w = .ok (.enter f args) w') {R : Ending → World → Prop} (hc : Calls P f args w' R)
    (k : ∀ e w'', R e w'' → match e with
      | .returned v => WL r P ops Q rest (a.put o.dst v) w''
      | .panicked chain => Q (.panic chain) a w''
      | .outgrown => LetsOut Q) : WL r P ops Q (o :: rest) a w :=
  wpListIn_plain hg fun K hK => ⟨fun _ _ => trivial, by
    rw [Oper.semAt_eq _ _ _ hd, hr]
    refine ⟨fun h => (by cases h), (calls_fw.2 hc).mono fun e w'' he => ?_⟩
    have := k e w'' he
    cases e with
    | returned v => exact hK _ _ this
    | panicked chain => exact this
    | outgrown => exact this⟩

/-- An operation that is not carried out. -/
theorem st_not {t : Nat} {b : Bool} (hg : o.guard = some (t, b)) (hy : yielded ops a.tmps t = some (!b)) (k : WL r P ops Q rest (a.put o.dst undef) w) :
    WL r P ops Q (o :: rest) a w := by
  have hw : Region.wanted o (yielded ops a.tmps) = false := by simp [Region.wanted, hg, hy]
  show wpListIn _ _ _ _ _ _ _ _
  unfold wpListIn
  simp only [hw]
  exact ⟨fun _ _ => trivial, k⟩

/-- One that is, behind its guard. -/
theorem st_yes {t : Nat} {b : Bool} {g : Option (Nat × Bool)} {dst : Option Tmp} {op : Op} {ty : TypeId} {p : String} {af : Array Edge} (hg : g = some (t, b)) (hy : yielded ops a.tmps t = some b)
    (k : WL r P ops Q (⟨dst, op, ty, p, af, none⟩ :: rest) a w) : WL r P ops Q (⟨dst, op, ty, p, af, g⟩ :: rest) a w := by
  have hw : Region.wanted ⟨dst, op, ty, p, af, g⟩ (yielded ops a.tmps) = true := by simp [Region.wanted, hg, hy]
  have hw' : Region.wanted ⟨dst, op, ty, p, af, none⟩ (yielded ops a.tmps) = true := by simp [Region.wanted]
  show wpListIn _ _ _ _ _ _ _ _
  have k' : wpListIn (FW r) 0 P ops Q (⟨dst, op, ty, p, af, none⟩ :: rest) a w := k
  unfold wpListIn at k' ⊢
  rw [if_pos hw'] at k'
  rw [if_pos hw]
  exact k'

theorem w_nil (k : Q .normal a w) : WL r P ops Q [] a w := k
end
end Go.Proofs.Ytfdffeameoejfaa
