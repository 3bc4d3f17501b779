/- Operations whose order is drawn, an append onto a list of the function's own among them. -/
import Derived.Test.YtfdffeameoejfaaLists
import Derived.Test.YtfdffeameoejfaaDrawr
namespace Go.Proofs.Ytfdffeameoejfaa
set_option linter.unusedVariables false
open Go Go.RowKit
set_option linter.unusedSimpArgs false

section
variable {r : Option Nat} {P : Program} {ops : Array Oper} {Q : Exit → Act → World → Prop} {M : Nat} {l : Nat → Value} {ds : List Deferred} {w : World} {rest : List Oper}
variable {d : Option Tmp} {t T e : TypeId} {p : String} {af : Array Edge} {v z : Value} {s B : Nat} {x y : Operand} {g : Option (Nat × Bool)}
variable {α : Type} {cf : α → List Value} {N c gg : Nat} {A : Option Addr} {xs ys : List α}

theorem app_key (h : ElT P T e z s B) (hs : ∀ x, (cf x).length = s) (h1 : ∀ x, (cf x).all oneC = true) (hO : Ow N e cf s w v xs) (hN : N ≤ w.heap.size)
    (hl : Ls cf s w gg A ys) (hb : (xs.length + ys.length) * B ≤ 140737488355328) (hm : xs.length + ys.length ≤ 140737488355328) :
    ∃ v' w', (Builtin.append_ #[T, T] t #[v, .slice A ys.length c]).run P w = .ok v' w' ∧ Ow N e cf s w' v' (xs ++ ys) ∧ Ext (obl v) w w' ∧ (∀ c ∈ obl v', c ∈ obl v ∨ w.heap.size ≤ c) := by
  obtain ⟨hT, i, hi, hz, hsz, hB, hzc, h0⟩ := h
  by_cases hA : ∃ o, A = some ⟨gg, o, none⟩ ∧ ∀ (i : Nat) (x : α), ys[i]? = some x → El w gg (o + i * s) (cf x)
  · obtain ⟨o, rfl, hel⟩ := hA
    obtain ⟨v', w', hr, hown, hgr, _, hob⟩ := run_append_own_at (P := P) w N T t e i z s B hT hi hz hsz hB hzc h0 v xs.length (xs.flatMap cf) hO ⟨gg, o, none⟩ ys.length c (ys.flatMap cf) (flat_len hs ys) (fun j u hj => by
        rw [addr_add]
        have hlen : j < ys.length * s := by rw [← flat_len hs ys]; exact (List.getElem?_eq_some_iff.1 hj).1
        have hq : j / s < ys.length := Nat.div_lt_of_lt_mul (by rw [Nat.mul_comm]; exact hlen)
        have hmod : j % s < s := Nat.mod_lt _ h0
        have hx' := List.getElem?_eq_getElem hq
        have hjm : j % s < (cf ys[j / s]).length := by rw [hs]; exact hmod
        have hv := List.getElem?_eq_getElem hjm
        have hf := flat_get hs ys (j / s) _ hx' (j % s) _ hv
        rw [show j / s * s + j % s = j by rw [Nat.mul_comm]; exact Nat.div_add_mod j s] at hf
        have hcell := hel (j / s) _ hx' (j % s) _ hv
        rw [show o + j / s * s + j % s = o + j by have := Nat.div_add_mod j s; rw [Nat.mul_comm] at this; omega] at hcell
        rw [hf] at hj; cases hj; exact hcell)
      (fun u hu => by
        obtain ⟨x, _, hux⟩ := List.mem_flatMap.1 hu
        exact oneC_of (List.all_eq_true.1 (h1 x) u hux)) (by simp only [maxLen]; omega) hb hN
    have hobl : ∀ u : Value, ∀ c ∈ obl u, u.ownBlock = some c := by
      intro u c hc
      cases u with
      | slice a n k => cases a <;> simp_all [obl, Value.ownBlock]
      | _ => simp [obl] at hc
    have hobl' : ∀ u : Value, ∀ c, u.ownBlock = some c → c ∈ obl u := by
      intro u c hc
      cases u with
      | slice a n k => cases a <;> simp_all [obl, Value.ownBlock]
      | _ => simp [Value.ownBlock] at hc
    refine ⟨v', w', hr, ?_, ?_, fun c hc => ?_⟩
    · unfold Ow; rw [List.length_append, List.flatMap_append]; exact hown
    · refine ⟨hgr.os, hgr.tape, hgr.output, hgr.size, fun k hk hn => hgr.block k hk ?_⟩
      rcases hO.2 with ⟨rfl, _⟩ | ⟨g', cap, cur, rfl, _⟩
      · simp [Value.ownBlock]
      · simp [Value.ownBlock, obl] at hn ⊢; exact hn
    · have h2 := hobl v' c hc
      rcases hob with h1 | h1
      · exact .inl (hobl' v c (h1 ▸ h2))
      · rw [h1] at h2; cases h2; exact .inr (Nat.le_refl _)
  · have hys : ys = [] := Classical.byContradiction fun hne => hA (hl hne)
    subst hys
    refine ⟨v, w, ?_, by rw [List.append_nil]; exact hO, (Ext.refl w).more (by simp), fun c hc => .inl hc⟩
    rcases hO.2 with ⟨rfl, hz0⟩ | ⟨g', cap, cur, rfl, hb', hg', hcap, _⟩
    · cases A <;> simp [Builtin.append_, run_underlying hT, sizeOf, typeInfo, hi, Builtin.lenOf, Builtin.firstCells, loadCells, loadCellsFrom]
    · cases A <;> simp [Builtin.append_, run_underlying hT, sizeOf, typeInfo, hi, Builtin.lenOf, Builtin.firstCells, loadCells, loadCellsFrom, hcap, storeCells]

/-- The same, with what becomes of other views of the row. -/
theorem app_run (h : ElT P T e z s B) (hs : ∀ x, (cf x).length = s) (h1 : ∀ x, (cf x).all oneC = true) (hO : Ow N e cf s w v xs) (hN : N ≤ w.heap.size)
    (hl : Ls cf s w gg A ys) (hy : ys ≠ []) (hb : (xs.length + ys.length) * B ≤ 140737488355328) (hm : xs.length + ys.length ≤ 140737488355328) :
    ∃ v' w', (Builtin.append_ #[T, T] t #[v, .slice A ys.length c]).run P w = .ok v' w' ∧ Ow N e cf s w' v' (xs ++ ys) ∧ Ext (obl v) w w' ∧ (∀ c ∈ obl v', c ∈ obl v ∨ w.heap.size ≤ c) ∧
      Ow N e cf s w' v xs ∧ ∀ u, Ow N e cf s w u (xs ++ ys) → Ow N e cf s w' u (xs ++ ys) := by
  obtain ⟨v', w', hr, ho, hxt, hob⟩ := app_key (t := t) (c := c) h hs h1 hO hN hl hb hm
  refine ⟨v', w', hr, ho, hxt, hob, ?_⟩
  obtain ⟨hT, i, hi, hz, hsz, hB, hzc, h0⟩ := h
  have hyp : 0 < ys.length := List.length_pos_iff.2 hy
  obtain ⟨o, rfl, hel⟩ := hl (by simpa using hy)
  have hnews : ∀ j u, (ys.flatMap cf)[j]? = some u → w.cell? ((⟨gg, o, none⟩ : Addr).add j) = some u := fun j u hj => by
    rw [addr_add]
    have hlen : j < ys.length * s := by rw [← flat_len hs ys]; exact (List.getElem?_eq_some_iff.1 hj).1
    have hq : j / s < ys.length := Nat.div_lt_of_lt_mul (by rw [Nat.mul_comm]; exact hlen)
    have hmod : j % s < s := Nat.mod_lt _ h0
    have hx' := List.getElem?_eq_getElem hq
    have hjm : j % s < (cf ys[j / s]).length := by rw [hs]; exact hmod
    have hv := List.getElem?_eq_getElem hjm
    have hf := flat_get hs ys (j / s) _ hx' (j % s) _ hv
    rw [show j / s * s + j % s = j by rw [Nat.mul_comm]; exact Nat.div_add_mod j s] at hf
    have hcell := hel (j / s) _ hx' (j % s) _ hv
    rw [show o + j / s * s + j % s = o + j by have := Nat.div_add_mod j s; rw [Nat.mul_comm] at this; omega] at hcell
    rw [hf] at hj; cases hj; exact hcell
  have h1' : ∀ u ∈ ys.flatMap cf, u.oneCell' = true := fun u hu => by
    obtain ⟨x, _, hux⟩ := List.mem_flatMap.1 hu
    exact oneC_of (List.all_eq_true.1 (h1 x) u hux)
  subst hsz; subst hB
  rcases hO.2 with ⟨rfl, hn0⟩ | ⟨g, cap, cur, rfl, hbg, hg, hnc, hcm, hcs, htake⟩
  · have hx0 : Ext [] w w' := hxt
    exact ⟨hO.ext0 hx0, fun u hu => hu.ext0 hx0⟩
  · by_cases hroom : xs.length + ys.length ≤ cap
    · have hfit : xs.length * i.size + (ys.flatMap cf).length ≤ cur.size := by rw [flat_len hs, hcs, ← Nat.add_mul]; exact Nat.mul_le_mul_right _ hroom
      have hr2 := run_append_room (P := P) w T t e i hT hi g xs.length cap cur hg ⟨gg, o, none⟩ ys.length c (ys.flatMap cf) (flat_len hs ys) hnews h1' hroom hfit
      rw [hr2] at hr
      cases hr
      obtain ⟨R, hR⟩ : ∃ R : List Value, R = cur.toList.take (xs.length * i.size) ++ ys.flatMap cf ++ cur.toList.drop (xs.length * i.size + (ys.flatMap cf).length) := ⟨_, rfl⟩
      have hgn := setRow_heap w g cur R.toArray e (0, 0) hg
      have hct : cur.toList.length = cur.size := Array.length_toList
      have hcl : xs.length * i.size ≤ cur.toList.length := by omega
      have htl : (cur.toList.take (xs.length * i.size)).length = xs.length * i.size := by rw [List.length_take]; omega
      have hsn : R.length = cur.size := by
        rw [hR, List.length_append, List.length_append, htl, List.length_drop, hct]; omega
      have hp1 : R.take (xs.length * i.size) = xs.flatMap cf := by
        rw [hR, List.append_assoc, List.take_left' htl]; exact htake
      have hp2 : R.take ((xs ++ ys).length * i.size) = (xs ++ ys).flatMap cf := by
        have e2 : (cur.toList.take (xs.length * i.size) ++ ys.flatMap cf).length = (xs ++ ys).length * i.size := by rw [List.length_append, htl, flat_len hs, List.length_append, Nat.add_mul]
        rw [hR, List.take_left' e2, htake, List.flatMap_append]
      rw [← hR]
      refine ⟨⟨hO.1, .inr ⟨g, cap, _, rfl, hbg, hgn, hnc, hcm, by rw [List.size_toArray, hsn, hcs], hp1⟩⟩, fun u hu => ⟨hu.1, ?_⟩⟩
      rcases hu.2 with ⟨rfl, hz0⟩ | ⟨g', cap', cur', rfl, hb', hg', hnc', hcm', hcs', ht'⟩
      · rw [List.length_append] at hz0; omega
      · by_cases hgg : g' = g
        · subst hgg
          rw [hg] at hg'; cases hg'
          exact .inr ⟨g', cap', _, rfl, hb', hgn, hnc', hcm', by rw [List.size_toArray, hsn]; exact hcs', hp2⟩
        · exact .inr ⟨g', cap', cur', rfl, hb', (setRow_other w g g' _ hgg).trans hg', hnc', hcm', hcs', ht'⟩
    · have holds : ∀ j u, (xs.flatMap cf)[j]? = some u → w.cell? ((⟨g, 0, none⟩ : Addr).add j) = some u := World.ownsRow.cells hO (g := g) rfl
      have hr2 := run_append_grow (P := P) w T t e i z hT hi hz ⟨g, 0, none⟩ xs.length cap (xs.flatMap cf) (flat_len hs xs) holds ⟨gg, o, none⟩ ys.length c (ys.flatMap cf) (flat_len hs ys) hnews (by omega) (by omega) (growslice_fits (by omega) hb)
      rw [hr2] at hr
      cases hr
      have hx0 : Ext [] w (w.drew.alloc (.cells ((xs.flatMap cf).toArray ++ (ys.flatMap cf).toArray ++ Builtin.zeroCells z.cells (grownCap w (xs.length + ys.length) cap e - (xs.length + ys.length))) e)) :=
        ⟨rfl, rfl, rfl, by simp, fun k hk _ => heap_alloc_old w.drew _ hk⟩
      exact ⟨hO.ext0 hx0, fun u hu => hu.ext0 hx0⟩

/-! ### The region -/
/-- What the world may have become: the list's own row has turned, what the list holds has not. -/
def OwC (N : Nat) (e : TypeId) (cf : α → List Value) (s : Nat) (w : World) (v : Value) (xs ys : List α) (W : World) : Prop := Ext (obl v) w W ∧ Ow N e cf s W v xs
def OwT (N : Nat) (e : TypeId) (cf : α → List Value) (s : Nat) (v : Value) (xs ys : List α) (W W' : World) : Prop := Ext (obl v) W W' ∧ ∀ u, Ow N e cf s W u (xs ++ ys) → Ow N e cf s W' u (xs ++ ys)
theorem OwT.of0 {W W' : World} (h : Ext [] W W') : OwT N e cf s v xs ys W W' := ⟨h.more (by simp), fun u hu => hu.ext0 h⟩
abbrev OO (N : Nat) (e : TypeId) (cf : α → List Value) (s : Nat) (v : Value) (xs ys : List α) (P : Program) (ops : Array Oper) (K : Act → World → Prop) (w : World) (sps : List Sp) (i : Nat) (l : List Oper) (a : Act) (env : Nat → World → Prop) (ivs : List (Nat × Nat)) : Prop :=
  OB P ops (OwC N e cf s w v xs ys) (OwT N e cf s v xs ys) K sps i l a env ivs

variable {K : Act → World → Prop} {sps : List Sp} {i : Nat} {env : Nat → World → Prop} {ivs : List (Nat × Nat)} {op : Op} {u : Value}
theorem o_v (hr : ∀ W, Ext (obl v) w W → Rn P M l W d op t p af none u) (k : OO N e cf s v xs ys P ops K w sps (i + 1) rest (Fr M (ptd l d u) ds) env ivs) : OO N e cf s v xs ys P ops K w (.c u :: sps) i (⟨d, op, t, p, af, none⟩ :: rest) (Fr M l ds) env ivs :=
  ⟨by simp [Region.wanted], fun W hC _ => by rw [Fr_eval', hr W hC.1]; exact ⟨rfl, hC, OwT.of0 (Ext.refl W)⟩, by rw [Fr_put]; exact k⟩
theorem o_bsS {e' : TypeId} {n : Nat} {parts : Array (Nat × Operand)} {vs : Array (Nat × Value)} {cs : List Value} {s' : Nat} (h : ElT P T e' z s' B) (hv : ∀ c ∈ obl v, c < w.heap.size) (hx : (parts.map fun q => (q.1, ev M l q.2)) = vs) (hn : n * s' ≤ 1000)
    (hc : Instr.fill (fun i => some (i * s', s')) (madeCells (if n * s' = 0 then #[] else z.cells) (n * s')) vs.toList = some cs.toArray)
    (k : ∀ u lo hi, OO N e cf s v xs ys P ops K w sps (i + 1) rest (Fr M (ptd l d u) ds) (upd env i (SBs w.heap.size e' n cs u lo hi)) (ivs ++ [(lo, hi)])) :
    OO N e cf s v xs ys P ops K w (.s (SBs w.heap.size e' n cs) :: sps) i (⟨d, .buildSlice T n parts, t, p, af, none⟩ :: rest) (Fr M l ds) env ivs := by
  refine ⟨by simp [Region.wanted], fun u lo hi W W' ⟨b, hv', hb, hN⟩ hx => ⟨b, hv', hb.ext hx.1 (fun hm => by have := hv b hm; omega), hN⟩, fun W hC he => ?_, fun u lo hi => by rw [Fr_put]; exact k u lo hi⟩
  have hr' := bs_run (d := d) (t := t) (p := p) (af := af) h hx hn hc W
  rw [Fr_eval', hr']
  have hx0 := ow_push W (.cells cs.toArray e')
  refine ⟨⟨_, rfl, heap_alloc_new W _, hC.1.size, Nat.le_refl _, by rw [World.size_alloc]; omega⟩, ⟨hC.1.step0 hx0, hC.2.ext0 hx0⟩, OwT.of0 hx0⟩
theorem o_app {uy : Value} (h : ElT P T e z s B) (hs : ∀ x, (cf x).length = s) (h1 : ∀ x, (cf x).all oneC = true) (hN : N ≤ w.heap.size) (hv : ∀ c ∈ obl v, c < w.heap.size)
    (hx : ev M l x = v) (hy : ev M l y = uy) (hl : ∀ W, Ext (obl v) w W → (∀ j, bf ops i j = true → env j W) → ∃ A gg c, uy = .slice A ys.length c ∧ Ls cf s W gg A ys) (hne : ys ≠ []) (hb : (xs.length + ys.length) * B ≤ 140737488355328) (hm : xs.length + ys.length ≤ 140737488355328)
    (k : ∀ u lo hi, OO N e cf s v xs ys P ops K w sps (i + 1) rest (Fr M (ptd l d u) ds) (upd env i (fun W => Ow N e cf s W u (xs ++ ys) ∧ ∀ c ∈ obl u, c ∈ obl v ∨ w.heap.size ≤ c)) (ivs ++ [(lo, hi)])) :
    OO N e cf s v xs ys P ops K w (.s (fun u _ _ W => Ow N e cf s W u (xs ++ ys) ∧ ∀ c ∈ obl u, c ∈ obl v ∨ w.heap.size ≤ c) :: sps) i (⟨d, .call { callee := .builtin .append, args := #[x, y], argTypes := #[T, T] }, t, p, af, none⟩ :: rest) (Fr M l ds) env ivs := by
  refine ⟨by simp [Region.wanted], fun u lo hi W W' hS hT => ⟨hT.2 u hS.1, hS.2⟩, fun W hC he => ?_, fun u lo hi => by rw [Fr_put]; exact k u lo hi⟩
  obtain ⟨A, gg, c, rfl, hls⟩ := hl W hC.1 he
  obtain ⟨v', w', hr, ho, hxt, hob, ho2, hk2⟩ := app_run (t := t) (c := c) h hs h1 hC.2 (Nat.le_trans hN hC.1.size) hls hne hb hm
  have hr' : (execOp (ev M l) ⟨d, .call { callee := .builtin .append, args := #[x, y], argTypes := #[T, T] }, t, p, af, none⟩).run P W = .ok (.value v') w' := by
    simp [execOp, resolve, hx, hy, invoke, builtin, hr]
  rw [Fr_eval', hr']
  exact ⟨⟨ho, fun c hc => (hob c hc).imp_right (fun q => Nat.le_trans hC.1.size q)⟩, ⟨hC.1.step hxt (fun c hc => .inl hc), ho2⟩, hxt, hk2⟩
theorem o_end (k : ∀ W, Ext (obl v) w W → (∀ j, env j W) → K (Fr M l ds) W) : OO N e cf s v xs ys P ops K w [] i rest (Fr M l ds) env ivs := fun W hC he _ => k W hC.1 he
theorem c_drO {id n : Nat} {os : List Oper} (sps : List Sp) (hl : sps.length = n) {W0 : World} (hm : P.follows .mixedOrders = true) (hd : drawB os.toArray n = true) (hO : Ow N e cf s W0 v xs)
    (h : OO N e cf s v xs ys P os.toArray (fun a W => WL r P os.toArray Q (os.drop n) a W) W0 sps 0 os (Fr M l ds) (fun _ _ => True) []) : (Code.region id os.toArray true).wpIn (FW r) 0 P Q (Fr M l ds) W0 := by
  subst hl
  exact c_draw (C := OwC N e cf s W0 v xs ys) (T := OwT N e cf s v xs ys) sps (fun _ _ h => h.1.size) hm hd ⟨(Ext.drew W0).more (by simp), hO.ext0 (Ext.drew W0)⟩ h
theorem c_drR {id n : Nat} {os : List Oper} (sps : List Sp) (hl : sps.length = n) {W0 : World} (hm : P.follows .mixedOrders = true) (hd : drawR os.toArray n = true)
    (h : OX P os.toArray (fun a W => wpAnyIn (FW r) 0 P .any os.toArray Q (os.toArray.size - n) (firstN os.toArray.size n) a W) W0 sps 0 os (Fr M l ds) (fun _ _ => True) []) : (Code.region id os.toArray true).wpIn (FW r) 0 P Q (Fr M l ds) W0 := by
  subst hl
  exact c_drawR (C := fun W => Ext [] W0 W) (T := Ext []) sps (fun _ _ h => h.size) hm hd (Ext.drew W0) h
end
end Go.Proofs.Ytfdffeameoejfaa
