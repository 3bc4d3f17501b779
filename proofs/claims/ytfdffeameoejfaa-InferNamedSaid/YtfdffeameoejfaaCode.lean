/- Laws on code: sequence, branch, block, loop; entering a function and leaving it. -/
import Derived.Test.YtfdffeameoejfaaOps
import Derived.LoopNIn
namespace Go.Proofs.Ytfdffeameoejfaa
set_option linter.unusedSimpArgs false
set_option linter.unusedVariables false
open Go Go.RowKit

section
variable {r : Option Nat} {P : Program} {ops : Array Oper} {Q : Exit → Act → World → Prop} {K : Act → World → Prop} {a : Act} {M : Nat} {l : Nat → Value} {ds : List Deferred} {w : World}

theorem c_seq {x y : Code} (h : x.wpIn (FW r) 0 P (Exit.then (y.wpIn (FW r) 0 P Q) Q) a w) : (Code.seq x y).wpIn (FW r) 0 P Q a w := wpIn_seq h
theorem c_rs {id : Nat} {os : List Oper} {y : Code} (h : WL r P os.toArray (Exit.then (y.wpIn (FW r) 0 P Q) Q) os a w) : (Code.seq (Code.region id os.toArray false) y).wpIn (FW r) 0 P Q a w :=
  wpIn_seq (wpIn_region_lit h)
theorem c_r {id : Nat} {os : List Oper} (h : WL r P os.toArray Q os a w) : (Code.region id os.toArray false).wpIn (FW r) 0 P Q a w := wpIn_region_lit h
/-- The end of a region that something follows. -/
theorem w_end (k : K a w) : WL r P ops (Exit.then K Q) [] a w := k
theorem c_ifT {c : Operand} {x y : Code} (hc : ev M l c = .bool true) (h : x.wpIn (FW r) 0 P Q (Fr M l ds) w) : (Code.cond c x y).wpIn (FW r) 0 P Q (Fr M l ds) w :=
  wpIn_cond_true (by rw [Fr_eval]; exact hc) h
theorem c_ifF {c : Operand} {x y : Code} (hc : ev M l c = .bool false) (h : y.wpIn (FW r) 0 P Q (Fr M l ds) w) : (Code.cond c x y).wpIn (FW r) 0 P Q (Fr M l ds) w :=
  wpIn_cond_false (by rw [Fr_eval]; exact hc) h
theorem c_if {c : Operand} {x y : Code} {b : Bool} (hc : ev M l c = .bool b) (h1 : b = true → x.wpIn (FW r) 0 P Q (Fr M l ds) w) (h2 : b = false → y.wpIn (FW r) 0 P Q (Fr M l ds) w) :
    (Code.cond c x y).wpIn (FW r) 0 P Q (Fr M l ds) w := wpIn_cond_split (by rw [Fr_eval]; exact hc) h1 h2
theorem c_skip (k : K a w) : Code.skip.wpIn (FW r) 0 P (Exit.then K Q) a w := wpIn_skip k
theorem c_skip' (k : Q .normal a w) : Code.skip.wpIn (FW r) 0 P Q a w := wpIn_skip k
theorem c_ret (k : Q .ret a w) : Code.ret.wpIn (FW r) 0 P Q a w := wpIn_ret k
theorem c_exit {id : Nat} (k : Q (.exit id) a w) : (Code.exit id).wpIn (FW r) 0 P Q a w := wpIn_exit k
theorem c_block {id : Nat} {c : Code} (h : c.wpIn (FW r) 0 P (Exit.inBlock id Q) a w) : (Code.block id c).wpIn (FW r) 0 P Q a w := wpIn_block h
theorem t_ret (k : Q .ret a w) : Exit.then K Q .ret a w := k
theorem t_exit {id : Nat} (k : Q (.exit id) a w) : Exit.then K Q (.exit id) a w := k
theorem b_norm {id : Nat} (k : Q .normal a w) : Exit.inBlock id Q .normal a w := k
theorem b_ret {id : Nat} (k : Q .ret a w) : Exit.inBlock id Q .ret a w := k
theorem b_here {id : Nat} (k : Q .normal a w) : Exit.inBlock id Q (.exit id) a w := by simpa [Exit.inBlock] using k
theorem b_far {id id' : Nat} (h : id' ≠ id) (k : Q (.exit id') a w) : Exit.inBlock id Q (.exit id') a w := by simpa [Exit.inBlock, h] using k

theorem least_of {p : Nat → Prop} (h : ∃ n, p n) : ∃ n, p n ∧ ∀ m, p m → n ≤ m := by
  obtain ⟨n, hn⟩ := h
  induction n using Nat.strongRecOn with
  | _ n ih =>
    by_cases h' : ∃ m, m < n ∧ p m
    · obtain ⟨m, hm, hp⟩ := h'; exact ih m hm hp
    · exact ⟨n, hn, fun m hm => Nat.le_of_not_lt fun hlt => h' ⟨m, hlt, hm⟩⟩

open Classical in
/-- A loop whose relation carries a number that falls. -/
theorem c_loop {c : Code} (I : Nat → Act → World → Prop) (d0 : Nat) (h0 : I d0 a w)
    (round : ∀ d a w, I d a w → c.wpIn (FW r) 0 P (Exit.then (fun a' w' => ∃ d', d' < d ∧ I d' a' w') Q) a w) : (Code.loop c).wpIn (FW r) 0 P Q a w := by
  let μ : Act → World → Nat := fun a w => if h : ∃ d, I d a w then Classical.choose (least_of h) else 0
  refine wpIn_loop (fun a w => ∃ d, I d a w) μ ⟨d0, h0⟩ ?_
  intro a w hI
  have hm := Classical.choose_spec (least_of hI)
  refine wpIn_mono (round _ a w hm.1) ?_
  intro e a' w' he
  cases e with
  | normal =>
    obtain ⟨d', hlt, hI'⟩ := he
    refine ⟨⟨d', hI'⟩, ?_⟩
    have h1 : μ a w = Classical.choose (least_of hI) := dif_pos hI
    have hx : ∃ d, I d a' w' := ⟨d', hI'⟩
    have h2 : μ a' w' = Classical.choose (least_of hx) := dif_pos hx
    rw [h1, h2]
    exact Nat.lt_of_le_of_lt ((Classical.choose_spec (least_of hx)).2 d' hI') hlt
  | exit id => exact he
  | goto t => exact he
  | ret => exact he
  | panic ch => exact he
  | outgrown => exact he

/-- A loop of so many rounds, walked round by round. -/
theorem c_rounds {c : Code} (m : Nat) (h : Code.roundsIn (FW r) 0 P c Q m a w) : (Code.loop c).wpIn (FW r) 0 P Q a w := wpIn_loop_rounds m h
theorem r_round {c : Code} {m : Nat} (h : c.wpIn (FW r) 0 P (Exit.then (Code.roundsIn (FW r) 0 P c Q m) Q) a w) : Code.roundsIn (FW r) 0 P c Q (m + 1) a w := h

/-- Another post behind the same code. -/
theorem c_mono {c : Code} {Q' : Exit → Act → World → Prop} (h : c.wpIn (FW r) 0 P Q a w) (hq : ∀ e a w, Q e a w → Q' e a w) : c.wpIn (FW r) 0 P Q' a w := wpIn_mono h hq

/-- A cut behind a piece of code. -/
theorem c_cut {x y : Code} (J : Act → World → Prop) (h : x.wpIn (FW r) 0 P (Exit.then J Q) a w) (k : ∀ a w, J a w → y.wpIn (FW r) 0 P Q a w) : (Code.seq x y).wpIn (FW r) 0 P Q a w :=
  c_seq (wpIn_mono h fun e a w he => by cases e <;> first | exact k _ _ he | exact he)

/-! ### Functions -/
theorem lk_ge : ∀ (l : List Value) (t : Nat), l.length ≤ t → lk l t = undef
  | [], t, _ => by simp [lk]
  | a :: l, 0, h => by simp at h
  | a :: l, t + 1, h => by simp only [lk]; exact lk_ge l t (by simp at h; omega)
theorem lk_get : ∀ (l : List Value) (t : Nat) (h : t < l.length), lk l t = l[t]
  | a :: l, 0, h => by simp [lk]
  | a :: l, t + 1, h => by simp only [lk]; rw [lk_get l t (by simp at h; omega)]; simp

theorem Fr_enter (vs : List Value) (n : Nat) (h : vs.length ≤ n) : ({ tmps := vs.toArray ++ Array.replicate (n - vs.toArray.size) undef, defers := [] } : Act) = Fr n (lk vs) [] := by
  have : vs.toArray ++ Array.replicate (n - vs.toArray.size) undef = (Fr n (lk vs) []).tmps := by
    apply Array.ext_getElem?
    intro t
    rw [Fr_get]
    by_cases h1 : t < vs.length
    · rw [if_pos (by omega), lk_get vs t h1, Array.getElem?_append_left (by simpa using h1)]
      simp [h1]
    · rw [Array.getElem?_append_right (by simp; omega), Array.getElem?_replicate]
      by_cases h2 : t < n
      · rw [if_pos h2, lk_ge vs t (by omega)]
        rw [if_pos (by simp; omega)]
      · rw [if_neg h2, if_neg (by simp; omega)]
  rw [this]
  rfl

theorem enter {f : FuncId} {fn : Func} {c : Code} {vs : List Value} {R : Ending → World → Prop} (hf : P.funcs[f]? = some fn) (hb : fn.body = some c) {n : Nat} (hn : fn.ntmps = n) (hl : Nat.ble vs.length n = true)
    (h : c.wpIn (FW none) 0 P (bodyPost P fn R) (Fr n (lk vs) []) w) : Calls P f vs.toArray w R := by
  refine calls_fw.1 (callsIn_of_wp (F := FW none) hf hb trivial ?_)
  rw [hn, Fr_enter vs n (Nat.le_of_ble_eq_true hl)]
  exact h

theorem enterM {f : FuncId} {fn : Func} {c : Code} {vs : List Value} {R : Ending → World → Prop} (hf : P.funcs[f]? = some fn) (hb : fn.body = some c) {n : Nat} (hn : fn.ntmps = n) (hl : Nat.ble vs.length n = true)
    (h : c.wpIn (FW none) 0 P (bodyPostM (FW none) 0 P fn R) (Fr n (lk vs) []) w) : Calls P f vs.toArray w R := by
  refine calls_fw.1 (callsIn_of_wp_marks (F := FW none) hf hb trivial ?_)
  rw [hn, Fr_enter vs n (Nat.le_of_ble_eq_true hl)]
  exact h

def rvSem (tmps : Array Value) : ResultVar → Sem Value
  | .tmp t => pure (tmps.getD t undef)
  | .cell a t => do loadVar t (← asAddr (tmps.getD a undef))

def Rv (P : Program) (M : Nat) (l : Nat → Value) (w : World) (x : ResultVar) (v : Value) : Prop := (rvSem (Fr M l []).tmps x).run P w = .ok v w

theorem Fr_tmp (M : Nat) (l : Nat → Value) (t : Nat) : (Fr M l []).tmps.getD t undef = ev M l (.tmp t) := Fr_eval M l [] (.tmp t)

theorem rv_tmp {t : Tmp} {v : Value} (h : ev M l (.tmp t) = v) : Rv P M l w (.tmp t) v := by
  show Sem.run P (pure ((Fr M l []).tmps.getD t undef)) w = _
  rw [Fr_tmp, h]; rfl
theorem rv_c1 {t : Tmp} {T e : TypeId} {b o : Nat} {cs : List Value} {v : Value} (h1 : One P T) (h : ev M l (.tmp t) = ptr b o) (hb : Blk w b e cs) (hv : cs[o]? = some v) : Rv P M l w (.cell t T) v := by
  show Sem.run P (asAddr ((Fr M l []).tmps.getD t undef) >>= fun a => loadVar T a) w = _
  rw [Fr_tmp, h]
  simp only [Sem.run_bind, asAddr, Sem.run_pure, Result.andThen_ok]
  exact ld1_run h1 ((hb.cell o).trans hv)
theorem rv_cN {t : Tmp} {T e : TypeId} {b o n : Nat} {cs vs : List Value} (h1 : AggN P T n) (h : ev M l (.tmp t) = ptr b o) (hb : Blk w b e cs) (hv : (cs.drop o).take n = vs) (hl : vs.length = n) : Rv P M l w (.cell t T) (.agg vs.toArray) := by
  show Sem.run P (asAddr ((Fr M l []).tmps.getD t undef) >>= fun a => loadVar T a) w = _
  rw [Fr_tmp, h]
  simp only [Sem.run_bind, asAddr, Sem.run_pure, Result.andThen_ok]
  refine ldN_run h1 hl (fun j u hj => ?_)
  rw [hb.cell]
  subst hv
  have hjn : j < n := by
    have := (List.getElem?_eq_some_iff.1 hj).1
    omega
  rw [List.getElem?_take_of_lt hjn, List.getElem?_drop] at hj
  exact hj

theorem results_eq (fn : Func) (tmps : Array Value) : results fn tmps = (do
    let vs ← fn.results.mapM (rvSem tmps)
    pure (if h : vs.size = 1 then vs[0] else .tuple vs)) := by
  unfold results
  congr 1

theorem rs0 {fn : Func} (hr : fn.results = #[]) : (results fn (Fr M l []).tmps).run P w = .ok (.tuple #[]) w := by
  simp [results, hr]
theorem rs1 {fn : Func} {x : ResultVar} {v : Value} (hr : fn.results = #[x]) (h : Rv P M l w x v) : (results fn (Fr M l []).tmps).run P w = .ok v w := by
  unfold Rv at h
  simp [results_eq, hr, h]
theorem rs2 {fn : Func} {x y : ResultVar} {u v : Value} (hr : fn.results = #[x, y]) (h : Rv P M l w x u) (h' : Rv P M l w y v) : (results fn (Fr M l []).tmps).run P w = .ok (.tuple #[u, v]) w := by
  unfold Rv at h h'
  simp [results_eq, hr, h, h']
theorem rs3 {fn : Func} {x y z : ResultVar} {u v t : Value} (hr : fn.results = #[x, y, z]) (h : Rv P M l w x u) (h' : Rv P M l w y v) (h'' : Rv P M l w z t) : (results fn (Fr M l []).tmps).run P w = .ok (.tuple #[u, v, t]) w := by
  unfold Rv at h h' h''
  simp [results_eq, hr, h, h', h'']

theorem bp_ret {fn : Func} {R : Value → World → Prop} {v : Value} (hr : (results fn (Fr M l []).tmps).run P w = .ok v w) (hR : R v w) : bodyPost P fn (Ret R) .ret (Fr M l []) w := ⟨rfl, v, hr, hR⟩
theorem bp_end {fn : Func} {R : Value → World → Prop} {v : Value} (hr : (results fn (Fr M l []).tmps).run P w = .ok v w) (hR : R v w) : bodyPost P fn (Ret R) .normal (Fr M l []) w := ⟨rfl, v, hr, hR⟩

theorem orAnd {a b z : Prop} (h : a ∨ z) (h' : b ∨ z) : (a ∧ b) ∨ z := h.elim (fun x => h'.imp_left (fun y => ⟨x, y⟩)) Or.inr
/-- The frame under another spelling. -/
theorem Fr_congr {l' : Nat → Value} (h : (List.range M).map l = (List.range M).map l') : Fr M l ds = Fr M l' ds := by unfold Fr; rw [h]
theorem fr_eq {l' : Nat → Value} {c : Code} (h : (List.range M).map l = (List.range M).map l') (k : c.wpIn (FW r) 0 P Q (Fr M l' ds) w) : c.wpIn (FW r) 0 P Q (Fr M l ds) w := by rw [Fr_congr h]; exact k
end
end Go.Proofs.Ytfdffeameoejfaa
