/- One law for each kind of operation, over frames as lists. -/
import Derived.Test.YtfdffeameoejfaaCore
import Derived.Laws.Sem
namespace Go.Proofs.Ytfdffeameoejfaa
set_option linter.unusedSimpArgs false
set_option linter.unusedVariables false
open Go Go.RowKit

abbrev ptr (b o : Nat) : Value := .pointer (some ⟨b, o, none⟩)
abbrev i64 (n : Int) : Value := .int .i64 n
abbrev u32 (n : Int) : Value := .int .u32 n
abbrev u8 (n : Int) : Value := .int .u8 n

theorem wr64 {n : Int} (h1 : -9223372036854775808 ≤ n) (h2 : n ≤ 9223372036854775807) : IntKind.i64.wrap n = n := by
  unfold IntKind.wrap IntKind.signed IntKind.bits
  simp only [Bool.true_and, decide_eq_true_eq]
  split <;> omega

theorem wr8 (n : Int) : IntKind.u8.wrap n = n % 256 := by
  simp [IntKind.wrap, IntKind.signed, IntKind.bits]

theorem wr32 (n : Int) : IntKind.u32.wrap n = n % 4294967296 := by
  simp [IntKind.wrap, IntKind.signed, IntKind.bits]

section
variable {r : Option Nat} {P : Program} {ops : Array Oper} {Q : Exit → Act → World → Prop} {M : Nat} {l : Nat → Value} {ds : List Deferred} {w : World} {rest : List Oper}
variable {d : Option Tmp} {t T : TypeId} {p : String} {af : Array Edge} {op : Op} {v : Value}

theorem not_defer {ρ : Operand → Value} {o : Oper} {w' : World} (hr : (execOp ρ o).run P w = .ok (.value v) w') : ∀ c, o.op ≠ .defer c := by
  intro c hc
  simp only [execOp, hc, Sem.run_bind] at hr
  cases h : (resolve ρ c o.type).run P w <;> rw [h] at hr <;> simp at hr

/-- An operation that yields a value and leaves the world. -/
abbrev Rn (P : Program) (M : Nat) (l : Nat → Value) (w : World) (d : Option Tmp) (op : Op) (t : TypeId) (p : String) (af : Array Edge) (g : Option (Nat × Bool)) (v : Value) : Prop :=
  (execOp (ev M l) ⟨d, op, t, p, af, g⟩).run P w = .ok (.value v) w

theorem s1 (hr : Rn P M l w d op t p af none v) (k : WL r P ops Q rest (Fr M (ptd l d v) ds) w) : WL r P ops Q (⟨d, op, t, p, af, none⟩ :: rest) (Fr M l ds) w :=
  st rfl (not_defer hr) (by rw [Fr_eval']; exact hr) (by rw [Fr_put]; exact k)

variable {g : Option (Nat × Bool)}

theorem rn_mv {x : Operand} (hx : ev M l x = v) : Rn P M l w d (.move x) t p af g v := by simp [Rn, execOp, hx]
theorem rn_as {x : Operand} (hx : ev M l x = v) : Rn P M l w d (.assign x) t p af g v := by simp [Rn, execOp, hx]
theorem rn_pickT {c x y : Operand} (hc : ev M l c = .bool true) (hx : ev M l x = v) : Rn P M l w d (.pick c x y) t p af g v := by simp [Rn, execOp, hc, hx, asBool]
theorem rn_pickF {c x y : Operand} (hc : ev M l c = .bool false) (hx : ev M l y = v) : Rn P M l w d (.pick c x y) t p af g v := by simp [Rn, execOp, hc, hx, asBool]
theorem rn_ex {x : Operand} {i : Nat} {vs : List Value} (hx : ev M l x = .tuple vs.toArray) (hv : vs[i]? = some v) : Rn P M l w d (.extract x i) t p af g v := by
  simp [Rn, execOp, hx, Instr.extract, hv]
theorem rn_not {x : Operand} {b : Bool} (hx : ev M l x = .bool b) : Rn P M l w d (.unOp .not T x) t p af g (.bool (!b)) := by
  simp [Rn, execOp, hx, Op.unary]
theorem rn_nil {x : Operand} {a : Addr} (hx : ev M l x = .pointer (some a)) : Rn P M l w d (.nilCheck x) t p af g (.pointer (some a)) := by
  simp [Rn, execOp, hx]
theorem rn_nilF {x : Operand} {f : FuncId} {fs cs : Array Value} (hx : ev M l x = .func (.func f) fs cs) : Rn P M l w d (.nilCheck x) t p af g (.func (.func f) fs cs) := by
  simp [Rn, execOp, hx]
theorem rn_nilI {x : Operand} {u : TypeId} {y : Value} (hx : ev M l x = .iface u y) : Rn P M l w d (.nilCheck x) t p af g (.iface u y) := by
  simp [Rn, execOp, hx]
theorem rn_nilY {x : Operand} {f : Nat} {fs cs : Array Value} (hx : ev M l x = .func (.yield f) fs cs) : Rn P M l w d (.nilCheck x) t p af g (.func (.yield f) fs cs) := by
  simp [Rn, execOp, hx]
theorem rn_mf {fn : Fn} {cs : List Operand} {vs : List Value} (hx : cs.map (ev M l) = vs) : Rn P M l w d (.makeFunc fn #[] cs.toArray) t p af g (.func fn #[] vs.toArray) := by
  subst hx; simp [Rn, execOp, Instr.makeFunc]

/-! integers -/
variable {x y : Operand} {k k' : IntKind} {m n c : Int} {T' : TypeId}
theorem rn_add (hx : ev M l x = .int k m) (hy : ev M l y = .int k n) (hc : k.wrap (m + n) = c) : Rn P M l w d (.binOp .add T x y T') t p af g (.int k c) := by
  simp [Rn, execOp, hx, hy, eqGuard, binOp, Op.intArith, hc]
theorem rn_sub (hx : ev M l x = .int k m) (hy : ev M l y = .int k n) (hc : k.wrap (m - n) = c) : Rn P M l w d (.binOp .sub T x y T') t p af g (.int k c) := by
  simp [Rn, execOp, hx, hy, eqGuard, binOp, Op.intArith, hc]
theorem rn_mul (hx : ev M l x = .int k m) (hy : ev M l y = .int k n) (hc : k.wrap (m * n) = c) : Rn P M l w d (.binOp .mul T x y T') t p af g (.int k c) := by
  simp [Rn, execOp, hx, hy, eqGuard, binOp, Op.intArith, hc]
theorem rn_quo (hx : ev M l x = .int k m) (hy : ev M l y = .int k n) (h0 : n ≠ 0) (hc : k.wrap (m.tdiv n) = c) : Rn P M l w d (.binOp .quo T x y T') t p af g (.int k c) := by
  simp [Rn, execOp, hx, hy, eqGuard, binOp, Op.intDiv, h0, hc]
theorem rn_rem (hx : ev M l x = .int k m) (hy : ev M l y = .int k n) (h0 : n ≠ 0) (hc : m.tmod n = c) : Rn P M l w d (.binOp .rem T x y T') t p af g (.int k c) := by
  simp [Rn, execOp, hx, hy, eqGuard, binOp, Op.intDiv, h0, hc]
theorem rn_lss (hx : ev M l x = .int k m) (hy : ev M l y = .int k n) : Rn P M l w d (.binOp .lss T x y T') t p af g (.bool (decide (m < n))) := by
  simp [Rn, execOp, hx, hy, eqGuard, binOp, Op.intCmp]
theorem rn_leq (hx : ev M l x = .int k m) (hy : ev M l y = .int k n) : Rn P M l w d (.binOp .leq T x y T') t p af g (.bool (decide (m ≤ n))) := by
  simp [Rn, execOp, hx, hy, eqGuard, binOp, Op.intCmp]
theorem rn_gtr (hx : ev M l x = .int k m) (hy : ev M l y = .int k n) : Rn P M l w d (.binOp .gtr T x y T') t p af g (.bool (decide (n < m))) := by
  simp [Rn, execOp, hx, hy, eqGuard, binOp, Op.intCmp]
theorem rn_geq (hx : ev M l x = .int k m) (hy : ev M l y = .int k n) : Rn P M l w d (.binOp .geq T x y T') t p af g (.bool (decide (n ≤ m))) := by
  simp [Rn, execOp, hx, hy, eqGuard, binOp, Op.intCmp]
theorem rn_eql (hx : ev M l x = .int k m) (hy : ev M l y = .int k n) : Rn P M l w d (.binOp .eql T x y T') t p af g (.bool (decide (m = n))) := by
  have : (m == n) = decide (m = n) := by by_cases h : m = n <;> simp [h]
  simp [Rn, execOp, hx, hy, eqGuard, binOp, Op.intCmp, this]
theorem rn_neq (hx : ev M l x = .int k m) (hy : ev M l y = .int k n) : Rn P M l w d (.binOp .neq T x y T') t p af g (.bool (decide (m ≠ n))) := by
  have : (m != n) = decide (m ≠ n) := by by_cases h : m = n <;> simp [h]
  simp [Rn, execOp, hx, hy, eqGuard, binOp, Op.intCmp, this]
theorem rn_shl {n : Nat} (hx : ev M l x = .int k m) (hy : ev M l y = .int k' (n : Int)) (hn : n ≤ k.bits) (hc : k.wrap (m * 2 ^ n) = c) : Rn P M l w d (.binOp .shl T x y T') t p af g (.int k c) := by
  have h0 : ¬ ((n : Int) < 0) := by omega
  simp [Rn, execOp, hx, hy, eqGuard, binOp, Op.shift, Nat.min_eq_left hn, hc, h0]
theorem rn_shr {n : Nat} (hx : ev M l x = .int k m) (hy : ev M l y = .int k' (n : Int)) (hn : n ≤ k.bits) (hc : m.fdiv (2 ^ n) = c) : Rn P M l w d (.binOp .shr T x y T') t p af g (.int k c) := by
  have h0 : ¬ ((n : Int) < 0) := by omega
  simp [Rn, execOp, hx, hy, eqGuard, binOp, Op.shift, Nat.min_eq_left hn, hc, h0]

theorem rn_shlI (hx : ev M l x = .int k m) (hy : ev M l y = .int k' n) (h0 : 0 ≤ n) (hn : n.toNat ≤ k.bits) (hc : k.wrap (m * 2 ^ n.toNat) = c) : Rn P M l w d (.binOp .shl T x y T') t p af g (.int k c) := by
  have h1 : ¬ (n < 0) := by omega
  simp [Rn, execOp, hx, hy, eqGuard, binOp, Op.shift, Nat.min_eq_left hn, hc, h1]
theorem rn_shrI (hx : ev M l x = .int k m) (hy : ev M l y = .int k' n) (h0 : 0 ≤ n) (hn : n.toNat ≤ k.bits) (hc : m.fdiv (2 ^ n.toNat) = c) : Rn P M l w d (.binOp .shr T x y T') t p af g (.int k c) := by
  have h1 : ¬ (n < 0) := by omega
  simp [Rn, execOp, hx, hy, eqGuard, binOp, Op.shift, Nat.min_eq_left hn, hc, h1]
def imx (m n : Int) : Int := if m < n then n else m
def imn (m n : Int) : Int := if n < m then n else m
theorem rn_max {ts : Array TypeId} (hx : ev M l x = .int k m) (hy : ev M l y = .int k n) : Rn P M l w d (.call { callee := .builtin .max, args := #[x, y], argTypes := ts }) t p af g (.int k (imx m n)) := by
  simp [Rn, execOp, resolve, invoke, builtin, Builtin.max_, Builtin.max2, hx, hy, imx]
theorem rn_min {ts : Array TypeId} (hx : ev M l x = .int k m) (hy : ev M l y = .int k n) : Rn P M l w d (.call { callee := .builtin .min, args := #[x, y], argTypes := ts }) t p af g (.int k (imn m n)) := by
  simp [Rn, execOp, resolve, invoke, builtin, Builtin.min_, Builtin.min2, hx, hy, imn]
def bAnd (k : IntKind) (m n : Int) : Int := k.wrap ((BitVec.ofInt k.bits m &&& BitVec.ofInt k.bits n).toNat)
def bOr (k : IntKind) (m n : Int) : Int := k.wrap ((BitVec.ofInt k.bits m ||| BitVec.ofInt k.bits n).toNat)
def bXor (k : IntKind) (m n : Int) : Int := k.wrap ((BitVec.ofInt k.bits m ^^^ BitVec.ofInt k.bits n).toNat)
def bAndNot (k : IntKind) (m n : Int) : Int := k.wrap ((BitVec.ofInt k.bits m &&& ~~~ BitVec.ofInt k.bits n).toNat)
theorem rn_and (hx : ev M l x = .int k m) (hy : ev M l y = .int k n) (hc : bAnd k m n = c) : Rn P M l w d (.binOp .and T x y T') t p af g (.int k c) := by
  subst hc; simp [Rn, execOp, hx, hy, eqGuard, binOp, Op.intBits, bAnd]
theorem rn_or (hx : ev M l x = .int k m) (hy : ev M l y = .int k n) (hc : bOr k m n = c) : Rn P M l w d (.binOp .or T x y T') t p af g (.int k c) := by
  subst hc; simp [Rn, execOp, hx, hy, eqGuard, binOp, Op.intBits, bOr]
theorem rn_xor (hx : ev M l x = .int k m) (hy : ev M l y = .int k n) (hc : bXor k m n = c) : Rn P M l w d (.binOp .xor T x y T') t p af g (.int k c) := by
  subst hc; simp [Rn, execOp, hx, hy, eqGuard, binOp, Op.intBits, bXor]
theorem rn_andNot (hx : ev M l x = .int k m) (hy : ev M l y = .int k n) (hc : bAndNot k m n = c) : Rn P M l w d (.binOp .andNot T x y T') t p af g (.int k c) := by
  subst hc; simp [Rn, execOp, hx, hy, eqGuard, binOp, Op.intBits, bAndNot]

/-! types -/
def UInt (P : Program) (T : TypeId) (k : IntKind) : Prop := P.underlying T = some (.int k)
def One (P : Program) (T : TypeId) : Prop := (∀ w, (isAgg T).run P w = .ok false w) ∧ ∀ w, (sizeOf T).run P w = .ok 1 w
def AggN (P : Program) (T : TypeId) (n : Nat) : Prop := (∀ w, (isAgg T).run P w = .ok true w) ∧ ∀ w, (sizeOf T).run P w = .ok n w
def Zero (P : Program) (T : TypeId) (z : Value) : Prop := ∀ w, (zeroValue T).run P w = .ok z w
def FA (P : Program) (S : TypeId) (i off : Nat) : Prop := ∀ (b o : Nat) w, (Instr.fieldAt S (ptr b o) i).run P w = .ok (ptr b (o + off)) w
def IxA (P : Program) (T : TypeId) (n s : Nat) : Prop := ∃ e, (∀ w, (underlying T).run P w = .ok (.array n e) w) ∧ ∀ w, (sizeOf e).run P w = .ok s w
def IxS (P : Program) (T : TypeId) (s : Nat) : Prop := ∃ e, (∀ w, (underlying T).run P w = .ok (.slice e) w) ∧ ∀ w, (sizeOf e).run P w = .ok s w

theorem underlying_run {T : TypeId} {D : TypeDesc} (h : P.underlying T = some D) (w : World) : (underlying T).run P w = .ok D w := by
  show (Sem.bind _ _).run P w = _
  simp [Sem.run_bind', program, Sem.run, h, Result.andThen]
theorem info_run {T : TypeId} {i : TypeInfo} (h : P.info? T = some i) (w : World) : (typeInfo T).run P w = .ok i w := by
  show (Sem.bind _ _).run P w = _
  simp [Sem.run_bind', program, Sem.run, h, Result.andThen]
theorem size_run {T : TypeId} {n : Nat} (h : (P.info? T).map (·.size) = some n) (w : World) : (sizeOf T).run P w = .ok n w := by
  cases hi : P.info? T with
  | none => rw [hi] at h; cases h
  | some i => rw [hi] at h; cases h; simp [sizeOf, info_run hi]
theorem zero_run {T : TypeId} {z : Value} (h : (P.info? T).bind (·.zero) = some z) : Zero P T z := by
  intro w
  cases hi : P.info? T with
  | none => rw [hi] at h; cases h
  | some i => rw [hi] at h; simp only [Option.bind_some] at h; simp [zeroValue, info_run hi, h]

def plainD : TypeDesc → Bool
  | .struct _ | .array _ _ => false
  | _ => true
theorem one_of {D : TypeDesc} (h : P.underlying T = some D) (hd : plainD D = true) (hs : (P.info? T).map (·.size) = some 1) : One P T :=
  ⟨fun w => by cases D <;> simp_all [isAgg, underlying_run h, plainD], size_run hs⟩
theorem agg_of {D : TypeDesc} {n : Nat} (h : P.underlying T = some D) (hd : plainD D = false) (hs : (P.info? T).map (·.size) = some n) : AggN P T n :=
  ⟨fun w => by cases D <;> simp_all [isAgg, underlying_run h, plainD], size_run hs⟩
theorem fa_of {fs : Array Field} {i : Nat} {f : Field} {n : Nat} (h : P.underlying T = some (.struct fs)) (hf : fs[i]? = some f) (hs : (P.info? f.type).map (·.size) = some (n + 1)) : FA P T i f.offset := by
  intro b o w
  simp only [Instr.fieldAt, Sem.run_bind, underlying_run h, Result.andThen_ok, hf, Instr.sureAddr, Sem.run_pure, fieldPlace, size_run hs]
  by_cases h0 : f.offset = 0 <;> simp [Addr.add, h0]
theorem ixA_of {n s : Nat} {e : TypeId} (h : P.underlying T = some (.array n e)) (hs : (P.info? e).map (·.size) = some s) : IxA P T n s := ⟨e, underlying_run h, size_run hs⟩
theorem ixS_of {s : Nat} {e : TypeId} (h : P.underlying T = some (.slice e)) (hs : (P.info? e).map (·.size) = some s) : IxS P T s := ⟨e, underlying_run h, size_run hs⟩

/-! addresses, loads -/
theorem addr_add (b o n : Nat) : (⟨b, o, none⟩ : Addr).add n = ⟨b, o + n, none⟩ := by
  unfold Addr.add; split <;> simp [*]

variable {b o : Nat} {e : TypeId} {cs : List Value}
theorem rn_fa {i off o' : Nat} (h : FA P T i off) (hx : ev M l x = ptr b o) (ho : o + off = o') : Rn P M l w d (.fieldAddr T x i) t p af g (ptr b o') := by
  subst ho; simp only [Rn, execOp, hx, Sem.run_bind, h b o w, Result.andThen_ok, Sem.run_pure]

theorem rn_iaA {n s o' : Nat} {j : Int} {kk : IntKind} (h : IxA P T n s) (hx : ev M l x = ptr b o) (hy : ev M l y = .int kk j) (h0 : 0 ≤ j) (h1 : j < n) (ho : o + j.toNat * s = o') :
    Rn P M l w d (.indexAddr T x y) t p af g (ptr b o') := by
  obtain ⟨e, he, hs⟩ := h
  subst ho
  simp [Rn, execOp, hx, hy, Instr.indexAt, asIntOf, he, hs, Instr.sureAddr, h0, h1, addr_add]

theorem rn_iaS {n cp s o' : Nat} {j : Int} {kk : IntKind} (h : IxS P T s) (hx : ev M l x = .slice (some ⟨b, o, none⟩) n cp) (hy : ev M l y = .int kk j) (h0 : 0 ≤ j) (h1 : j < n) (ho : o + j.toNat * s = o') :
    Rn P M l w d (.indexAddr T x y) t p af g (ptr b o') := by
  obtain ⟨e, he, hs⟩ := h
  subst ho
  simp [Rn, execOp, hx, hy, Instr.indexAt, asIntOf, he, hs, h0, h1, addr_add]

theorem load_run {v : Value} {a : Addr} (h : w.cell? a = some v) : (load a).run P w = .ok v w := by
  simp [load, Sem.run, h]

theorem ld1_run (h : One P T) (hc : w.cell? ⟨b, o, none⟩ = some v) : (loadVar T ⟨b, o, none⟩).run P w = .ok v w := by
  simp [loadVar, h.1, hc]

theorem ldFrom_run (b o : Nat) (w : World) : ∀ (vs : List Value) (i : Nat) (acc : Array Value), (∀ j u, vs[j]? = some u → w.cell? ⟨b, o + (i + j), none⟩ = some u) →
    (loadCellsFrom ⟨b, o, none⟩ i vs.length acc).run P w = .ok (acc ++ vs.toArray) w
  | [], i, acc, _ => by simp [loadCellsFrom]
  | u :: vs, i, acc, h => by
    have h0 := h 0 u rfl
    rw [Nat.add_zero] at h0
    simp only [List.length_cons, loadCellsFrom, Sem.run_bind, addr_add, load_run h0, Result.andThen_ok]
    rw [ldFrom_run b o w vs (i + 1) (acc.push u) (fun j u' hj => by have := h (j + 1) u' (by simpa using hj); rw [show i + 1 + j = i + (j + 1) by omega]; exact this)]
    simp

theorem ldN_run {n : Nat} {vs : List Value} (h : AggN P T n) (hl : vs.length = n) (hc : ∀ j u, vs[j]? = some u → w.cell? ⟨b, o + j, none⟩ = some u) : (loadVar T ⟨b, o, none⟩).run P w = .ok (.agg vs.toArray) w := by
  subst hl
  have := ldFrom_run (P := P) b o w vs 0 #[] (fun j u hj => by rw [Nat.zero_add]; exact hc j u hj)
  simp [loadVar, h.1, h.2, loadCells, this]

theorem rn_ld1 (h : One P T) (hx : ev M l x = ptr b o) (hc : w.cell? ⟨b, o, none⟩ = some v) : Rn P M l w d (.load T x) t p af g v := by
  simp only [Rn, execOp, hx, Instr.loadAt, Sem.run_bind, Instr.sureAddr, Sem.run_pure, Result.andThen_ok, ld1_run h hc]
theorem rn_ldN {n : Nat} {vs : List Value} (h : AggN P T n) (hx : ev M l x = ptr b o) (hl : vs.length = n) (hc : ∀ j u, vs[j]? = some u → w.cell? ⟨b, o + j, none⟩ = some u) : Rn P M l w d (.load T x) t p af g (.agg vs.toArray) := by
  simp only [Rn, execOp, hx, Instr.loadAt, Sem.run_bind, Instr.sureAddr, Sem.run_pure, Result.andThen_ok, ldN_run h hl hc]

/-- Out of a block that is known whole. -/
theorem rn_lb1 (h : One P T) (hx : ev M l x = ptr b o) (hb : Blk w b e cs) (hv : cs[o]? = some v) : Rn P M l w d (.load T x) t p af g v :=
  rn_ld1 h hx ((hb.cell o).trans hv)
theorem rn_lbN {n : Nat} {vs : List Value} (h : AggN P T n) (hx : ev M l x = ptr b o) (hb : Blk w b e cs) (hv : (cs.drop o).take n = vs) (hl : vs.length = n) : Rn P M l w d (.load T x) t p af g (.agg vs.toArray) :=
  rn_ldN h hx hl (fun j u hj => by
    rw [hb.cell]
    subst hv
    have hjn : j < n := by
      have := (List.getElem?_eq_some_iff.1 hj).1
      omega
    rw [List.getElem?_take_of_lt hjn, List.getElem?_drop] at hj
    exact hj)

theorem part_run1 {u : TypeId} {vs : List Value} {i : Nat} {v : Value} (h : One P u) (hv : vs[i]? = some v) : (part u vs.toArray i).run P w = .ok v w := by
  simp [part, h.1 w, hv]
/-- An element of an array that is a value. -/
theorem rn_ixA {n i : Nat} {u : TypeId} {vs : List Value} {kk : IntKind} (hT : ∀ w, (underlying T).run P w = .ok (.array n u) w) (h1 : One P u) (hx : ev M l x = .agg vs.toArray) (hy : ev M l y = .int kk i) (hi : i < n) (hv : vs[i]? = some v) :
    Rn P M l w d (.index T x y) t p af g v := by
  have h0 : (0 : Int) ≤ (i : Int) ∧ (i : Int) < (n : Int) := by omega
  simp [Rn, execOp, hx, hy, Instr.index, asIntOf, hT, h0, h1.2 w, part_run1 h1 hv, hi]

/-! new blocks, stores -/
theorem newVar_run (v : Value) (w : World) : (newVar T v).run P w = .ok ⟨w.heap.size, 0, none⟩ { w with heap := w.heap.push (.cells v.cells T) } := by
  simp [newVar, newRow, newObj, Sem.run]

theorem s_alloc {z : Value} (hz : Zero P T z) (hc : z.cells = cs.toArray)
    (k : ∀ b w', Blk w' b T cs → w.heap.size ≤ b → Ext [] w w' → WL r P ops Q rest (Fr M (ptd l d (ptr b 0)) ds) w') : WL r P ops Q (⟨d, .alloc T, t, p, af, none⟩ :: rest) (Fr M l ds) w := by
  have hr : (execOp (ev M l) ⟨d, .alloc T, t, p, af, none⟩).run P w = .ok (.value (ptr w.heap.size 0)) { w with heap := w.heap.push (.cells cs.toArray T) } := by
    simp [execOp, Instr.alloc, hz w, newVar_run, hc]
  exact st rfl (not_defer hr) (by rw [Fr_eval']; exact hr) (by rw [Fr_put]; exact k _ _ (Blk.new w T cs) (Nat.le_refl _) (ext_push w _))

theorem s_box (hx : ev M l x = v) (hc : v.cells = cs.toArray)
    (k : ∀ b w', Blk w' b T cs → w.heap.size ≤ b → Ext [] w w' → WL r P ops Q rest (Fr M (ptd l d (ptr b 0)) ds) w') : WL r P ops Q (⟨d, .box T x, t, p, af, none⟩ :: rest) (Fr M l ds) w := by
  have hr : (execOp (ev M l) ⟨d, .box T x, t, p, af, none⟩).run P w = .ok (.value (ptr w.heap.size 0)) { w with heap := w.heap.push (.cells cs.toArray T) } := by
    simp [execOp, Instr.box, newVar_run, hc, hx]
  exact st rfl (not_defer hr) (by rw [Fr_eval']; exact hr) (by rw [Fr_put]; exact k _ _ (Blk.new w T cs) (Nat.le_refl _) (ext_push w _))

def oneC : Value → Bool
  | .agg _ | .tuple _ => false
  | _ => true

/-- Cells from place o on become vs. -/
def splice : List Value → Nat → List Value → List Value
  | cs, _, [] => cs
  | [], _, _ => []
  | c :: cs, o + 1, vs => c :: splice cs o vs
  | _ :: cs, 0, v :: vs => v :: splice cs 0 vs

theorem splice_nil (cs : List Value) (o : Nat) : splice cs o [] = cs := by cases cs <;> cases o <;> rfl

theorem splice_set (u : Value) (vs : List Value) : ∀ (cs : List Value) (o : Nat), splice cs o (u :: vs) = splice (cs.set o u) (o + 1) vs
  | [], o => by cases o <;> cases vs <;> simp [splice]
  | c :: cs, 0 => by
    cases vs with
    | nil => simp [splice, splice_nil]
    | cons v vs => simp only [splice, List.set]
  | c :: cs, o + 1 => by
    have ih := splice_set u vs cs o
    cases vs with
    | nil => simp only [splice, List.set]; rw [ih, splice_nil]
    | cons v vs => simp only [splice, List.set]; rw [ih]

theorem store_run {b i : Nat} (hb : Blk w b e cs) (hi : i < cs.length) (h1 : oneC v = true) : (store ⟨b, i, none⟩ v).run P w = .ok () (w.setCell ⟨b, i, none⟩ v) := by
  have hc := hb.cell i
  rw [List.getElem?_eq_getElem hi] at hc
  have hf := hb.free i none
  cases v <;> simp_all [store, Sem.run, oneC]

theorem stores_run (b : Nat) (e : TypeId) (o : Nat) : ∀ (vs : List Value) (cs : List Value) (i : Nat) (w : World), Blk w b e cs → o + i + vs.length ≤ cs.length → (∀ v ∈ vs, oneC v = true) →
    ∃ w', (storeCells ⟨b, o, none⟩ vs i).run P w = .ok () w' ∧ Blk w' b e (splice cs (o + i) vs) ∧ Ext [b] w w'
  | [], cs, i, w, hb, _, _ => ⟨w, rfl, by rw [splice_nil]; exact hb, (Ext.refl w).more (by simp)⟩
  | v :: vs, cs, i, w, hb, hl, h1 => by
    simp only [List.length_cons] at hl
    obtain ⟨w', hr, hb', hx⟩ := stores_run b e o vs (cs.set (o + i) v) (i + 1) _ (hb.set (o + i) v) (by simp; omega) (fun u hu => h1 u (by simp [hu]))
    refine ⟨w', ?_, ?_, ?_⟩
    · simp only [storeCells, Sem.run_bind, addr_add]
      rw [store_run hb (by omega) (h1 v (by simp))]
      simp only [Result.andThen_ok]
      exact hr
    · rw [splice_set]; exact hb'
    · exact Ext.step (ext_setCell w ⟨b, o + i, none⟩ v) hx (by simp)

theorem s_st {n : Nat} {vs cs' : List Value} (hn : ∀ w, (sizeOf T).run P w = .ok n w) (hx : ev M l x = ptr b o) (hy : ev M l y = v) (hc : v.cells = vs.toArray) (hl : vs.length = n)
    (hb : Blk w b e cs) (hle : o + n ≤ cs.length) (h1 : vs.all oneC = true) (hs : splice cs o vs = cs')
    (k : ∀ w', Blk w' b e cs' → Ext [b] w w' → WL r P ops Q rest (Fr M (ptd l d undef) ds) w') : WL r P ops Q (⟨d, .store T x y, t, p, af, none⟩ :: rest) (Fr M l ds) w := by
  obtain ⟨w', hr, hb', hxt⟩ := stores_run (P := P) b e o vs cs 0 w hb (by omega) (fun u hu => List.all_eq_true.1 h1 u hu)
  rw [Nat.add_zero, hs] at hb'
  have hr' : (execOp (ev M l) ⟨d, .store T x y, t, p, af, none⟩).run P w = .ok .skip w' := by
    simp [execOp, Instr.storeAt, hx, hy, Instr.sureAddr, storeVar, hn, hc, hl, hr]
  exact st_skip rfl (fun c => by simp) (by rw [Fr_eval']; exact hr') (by rw [Fr_put]; exact k _ hb' hxt)

/-! calls -/
def Ent (P : Program) (f : FuncId) : Prop := ∀ args w, (callFunc f args).run P w = .ok (.enter f args) w
theorem ent_of {f : FuncId} {fn : Func} (hf : P.funcs[f]? = some fn) (hn : (fn.name == "runtime.NumGoroutine") = false) (hb : fn.body.isNone = false) : Ent P f := by
  intro args w
  show (Sem.bind _ _).run P w = _
  have hn' : ¬ fn.name = "runtime.NumGoroutine" := by intro h; rw [h] at hn; simp at hn
  have hb' : ¬ fn.body = none := by intro h; rw [h] at hb; simp at hb
  simp [Sem.run_bind', program, Sem.run, hf, hn', hb', Result.andThen]

def Ret (R : Value → World → Prop) : Ending → World → Prop
  | .returned v, w => R v w
  | _, _ => False

theorem s_call {f : FuncId} {as : List Operand} {at_ : Array TypeId} {vs : List Value} {R : Value → World → Prop} (hF : Ent P f) (ha : as.map (ev M l) = vs) (hc : Calls P f vs.toArray w (Ret R))
    (k : ∀ v w', R v w' → WL r P ops Q rest (Fr M (ptd l d v) ds) w') :
    WL r P ops Q (⟨d, .call { callee := .value (.func f), args := as.toArray, argTypes := at_ }, t, p, af, none⟩ :: rest) (Fr M l ds) w := by
  have hr : (execOp (ev M l) ⟨d, .call { callee := .value (.func f), args := as.toArray, argTypes := at_ }, t, p, af, none⟩).run P w = .ok (.enter f vs.toArray) w := by
    subst ha
    simp [execOp, resolve, ev, Deferred.ofValue, invoke, hF _ w]
  refine st_enter rfl (fun c => by simp) (by rw [Fr_eval']; exact hr) hc (fun e w' he => ?_)
  cases e with
  | returned v => simp only; rw [Fr_put]; exact k v w' he
  | panicked chain => exact he.elim
  | outgrown => exact he.elim

theorem s_callv {f : FuncId} {fo : Operand} {as : List Operand} {at_ : Array TypeId} {vs ws : List Value} {R : Value → World → Prop} (hF : Ent P f) (hf : ev M l fo = .func (.func f) #[] ws.toArray) (ha : as.map (ev M l) = vs)
    (hc : Calls P f (vs ++ ws).toArray w (Ret R)) (k : ∀ v w', R v w' → WL r P ops Q rest (Fr M (ptd l d v) ds) w') :
    WL r P ops Q (⟨d, .call { callee := .value fo, args := as.toArray, argTypes := at_ }, t, p, af, none⟩ :: rest) (Fr M l ds) w := by
  have hr : (execOp (ev M l) ⟨d, .call { callee := .value fo, args := as.toArray, argTypes := at_ }, t, p, af, none⟩).run P w = .ok (.enter f (vs ++ ws).toArray) w := by
    subst ha
    have h := hF (((as.map (ev M l)) ++ ws).toArray) w
    simp [execOp, resolve, hf, Deferred.ofValue, invoke] at h ⊢
    exact h
  refine st_enter rfl (fun c => by simp) (by rw [Fr_eval']; exact hr) hc (fun e w' he => ?_)
  cases e with
  | returned v => simp only; rw [Fr_put]; exact k v w' he
  | panicked chain => exact he.elim
  | outgrown => exact he.elim

theorem rn_len {x : Operand} {A : Option Addr} {n cp : Nat} {s : Nat} (h : IxS P T s) (hx : ev M l x = .slice A n cp) :
    Rn P M l w d (.call { callee := .builtin .len, args := #[x], argTypes := #[T] }) t p af g (i64 n) := by
  obtain ⟨e, he, _⟩ := h
  simp [Rn, execOp, resolve, invoke, builtin, Builtin.len_, hx, he, goInt]

end
end Go.Proofs.Ytfdffeameoejfaa
