/- From a walk that answers true and turns nothing that was there to a statement's contract; how arguments are opened. -/
import Derived.Test.YtfdffeameoejfaaRows
import Derived.Test.YtfdffeameoejfaaElts
import Derived.ProofKit
import Derived.OpenShut
import Derived.JoinedCond
import Derived.Carry
import Derived.Deep.Slices
import Derived.Deep.Fields
import Derived.ChangeSame
namespace Go.Proofs.Ytfdffeameoejfaa
set_option linter.unusedSimpArgs false
open Go Go.ChangeShapes Go.WideShapes Go.ChangeAt Go.RowKit Go.Deep
set_option linter.unusedVariables false

theorem own_knob : ownKnob Try.prog.godebug = none := by kernel_rfl
theorem laid_out : laidOutB Try.prog = true := by kernel_rfl

section
variable {H : Type} {enc : TypeId × Value → H} {P : Program}
theorem trodAll_stays (hl : laidOutB P = true) {W W' : World} (hx : Below W.heap.size W W') : ∀ (ts : List TypeId) (vs : List Value) (ds : List (DataW H)) (ps : List MemPlace), (∀ t ∈ ts, P.readableRec t = true ∧ t < P.types.size) →
    DataW.TrodAll enc P W 0 (fun _ => true) true ts vs ds ps → (∀ p ∈ ps, p.block < W.heap.size) → ∀ sp : Nat → Bool, (∀ p ∈ ps, sp p.block = true) → DataW.TrodAll enc P W' 0 sp true ts vs ds ps
  | [], vs, ds, ps, _, h, _, _, _ => by
    obtain ⟨rfl, rfl, rfl⟩ := trodAll_nil h
    exact trodAll_mk0
  | t :: ts, vs, ds, ps, ht, h, hlt, sp, hsp => by
    obtain ⟨v, vs', d, ds', p, q, rfl, rfl, rfl, h0, h1⟩ := trodAll_cons h
    have h0' := WideElems.Trod_stays (sp' := sp) hl (ht t (by simp)).1 (ht t (by simp)).2 h0 (fun x hxp => hx.same (hlt x (by simp [hxp]))) (fun x hxp => hsp x (by simp [hxp]))
    exact trodAll_cons_mk h0' (trodAll_stays hl hx ts vs' ds' q (fun t ht' => ht t (by simp [ht'])) h1 (fun p hp => hlt p (by simp [hp])) sp (fun p hp => hsp p (by simp [hp])))

/-- A LAW's CONTRACT out of its walk. -/
theorem contract_of {f : FuncId} {fn : Func} {s : ChangeSpec} {W : World} {args : Array Value} {ds gs : List (DataW H)} {before : List MemPlace} {tb : TypeId} (hl : laidOutB P = true) (hv : s.vars = []) (hts : ∀ t ∈ fn.params.toList, P.readableRec t = true ∧ t < P.types.size)
    (hb : P.underlying tb = some .bool) (hr : fn.resultTypes = #[tb]) (hW : DataW.Whole enc P fn.params.toList s.vars false W args.toList ds gs before) (hs : s.fn H (ds ++ gs) = { results := [.lit (.bool true)], args := ds })
    (walk : Calls P f args W (Ret fun v w' => v = .bool true ∧ Ext [] W w')) :
    Calls P f args W fun e W' => ∃ v, e = .returned v ∧ s.post enc P fn false true false false W args v W' := by
  refine walk.mono fun e W' he => ?_
  cases e with
  | returned v =>
    obtain ⟨rfl, hx⟩ := he
    refine ⟨_, rfl, ?_⟩
    have hbl := hx.below
    have hlt := hW.lt
    have hW0 := hW
    obtain ⟨p, q, hA, hV, hbe, hfz, hnd⟩ := hW
    rw [hv] at hV
    obtain ⟨rfl, rfl⟩ := trodVars_none hV
    rw [List.append_nil] at hbe
    subst hbe
    have hold : ∀ p ∈ before, (fun b => decide (b < W.heap.size)) p.block = true := fun p hp => by simpa using hlt p hp
    have hargs : ∀ sp : Nat → Bool, (∀ p ∈ before, sp p.block = true) → DataW.TrodAll enc P W' 0 sp true fn.params.toList args.toList (s.fn H (ds ++ [])).args before := by
      rw [hs]; exact trodAll_stays hl hbl _ _ _ _ hts hA hlt
    have hres : ∀ (b : Nat) (sp : Nat → Bool) (hd : Bool), DataW.TrodAll enc P W' b sp hd fn.resultTypes.toList ((Value.bool true).resultList fn.resultTypes.size) (s.fn H (ds ++ [])).results [] := by
      rw [hs, hr]; exact fun _ _ _ => trodAll_cons_mk (shut_bool hb _) trodAll_mk0
    have hvars : ∀ sp : Nat → Bool, DataW.TrodVars enc P W' sp s.vars (s.fn H (ds ++ [])).vars [] := by
      rw [hs, hv]; exact fun _ => rfl
    have hok : ∀ (j : Nat) (t : TypeId) (r : Value), fn.resultTypes[j]? = some t → ((Value.bool true).resultList fn.resultTypes.size)[j]? = some r → Value.okWide P W' .any 0 t r := ok_one hr rfl (okWide_bool_mk hb _)
    refine ⟨ds, [], before, [], before, [], hW0, hres _ _ _, hargs _ hold, hvars _, World.keptBut_mono (fun p hp => ⟨hp, Or.inr (Or.inl hp)⟩) (hbl.frame _), fun _ => ?_⟩
    refine ⟨hok, _, _, ([] ++ before) ++ [], ⟨[] ++ before, [], trodAll_append (hargs _ (fun _ _ => rfl)) (hres _ _ _), hvars _, rfl, ?_, ?_⟩, ?_⟩
    · intro b off hp
      have hp' : MemPlace.cell b off ∈ before := by simpa using hp
      have h1 := hfz b off hp'
      have h2 := hbl.block b (hlt _ hp')
      simp only [World.frozen?, h2] at h1 ⊢
      exact h1
    · intro ha
      simpa using hnd ha
    · intro p hp _
      simpa using hp
  | panicked ch => exact he.elim
  | outgrown => exact he.elim

/-- The numbers of an int. -/
theorem wf64 {n : Int} (h : (Lit.int .i64 n).wf = true) : -9223372036854775808 ≤ n ∧ n ≤ 9223372036854775807 := by
  simpa [Lit.wf, IntKind.min, IntKind.max, IntKind.signed, IntKind.bits] using h
theorem wfu32 {n : Int} (h : (Lit.int .u32 n).wf = true) : 0 ≤ n ∧ n ≤ 4294967295 := by
  simpa [Lit.wf, IntKind.min, IntKind.max, IntKind.signed, IntKind.bits] using h
theorem wfu8 {n : Int} (h : (Lit.int .u8 n).wf = true) : 0 ≤ n ∧ n ≤ 255 := by
  simpa [Lit.wf, IntKind.min, IntKind.max, IntKind.signed, IntKind.bits] using h
end

section
variable {H : Type} {enc : TypeId × Value → H} {P : Program} {w : World} {base : Nat} {spare : Nat → Bool} {held : Bool}
theorem open_slice_fields {t e : TypeId} {fs : Array Field} {fuel : Nat} {cs : List Value} {x : DataW H × List MemPlace} (ht : P.underlying t = some (.slice e)) (he : P.underlying e = some (.struct fs))
    (hone : oneCellFields P fs = true) (hC : P.cellsOf e = fs.size) (h : DataW.trod enc P w base spare held fuel t cs = some x) :
    (cs = [.slice none 0 0] ∧ x = (.nil, [])) ∨
    ∃ (a : Addr) (len cap m : Nat) (D : Nat → DataW H) (Pl : Nat → List MemPlace), cs = [.slice (some a) len cap] ∧ base ≤ a.block ∧ len ≤ cap ∧ cap ≤ maxLen ∧ m = (if spare a.block then cap else len) ∧
      x = (.slice ((List.range len).map D) ((List.range (m - len)).map fun j => D (len + j)), MemPlace.row a (m * fs.size) ++ (List.range m).flatMap Pl) ∧
      ∀ i, i < m → ∃ (ys : List (DataW H × List MemPlace)) (n : Nat), D i = .agg (ys.map (·.1)) ∧ Pl i = ys.flatMap (·.2) ∧ ys.length = fs.size ∧
        ∀ (j : Nat) (f : Field), fs[j]? = some f → ∃ (v : Value) (y : DataW H × List MemPlace), w.cell? (a.add (i * fs.size + j)) = some v ∧ ys[j]? = some y ∧ DataW.trod enc P w base spare held n f.type [v] = some y := by
  rcases open_slice ht h with h0 | ⟨a, len, cap, m, n, D, Pl, hcs, hb, hl, hm, hmm, hx, hi⟩
  · exact .inl h0
  · refine .inr ⟨a, len, cap, m, D, Pl, hcs, hb, hl, hm, hmm, by rw [hC] at hx; exact hx, fun i him => ?_⟩
    obtain ⟨cs', hc, ht'⟩ := hi i him
    rw [hC] at hc
    obtain ⟨ys, n', hn', hy, hlen, hyl, hf⟩ := DataW.trod_struct he ht'
    obtain ⟨_, hcl, hat⟩ := World.cells?_some hc
    simp only [Prod.mk.injEq] at hy
    refine ⟨ys, n', hy.1, hy.2, hyl, fun j f hj => ?_⟩
    obtain ⟨ho, hk⟩ := hone_of hone j f hj
    have hjl : j < fs.size := (Array.getElem?_eq_some_iff.1 hj).1
    have hcell := hat j hjl
    have hv : cs'[j]? = some (cs'[j]'(by omega)) := List.getElem?_eq_getElem (by omega)
    have h1 := hf j f hj
    rw [ho, hk] at h1
    have hone' : (cs'.drop j).take 1 = [cs'[j]'(by omega)] := by
      rw [List.drop_eq_getElem_cons (by omega)]
      rfl
    rw [hone'] at h1
    have hys : ys[j]? = some (ys[j]'(by omega)) := List.getElem?_eq_getElem (by omega)
    refine ⟨_, _, ?_, hys, h1.trans hys⟩
    rw [← Go.Deep.add_add, hcell, hv]
end

section
variable {H : Type} {enc : TypeId × Value → H} {W : World}
def N3.wf (x : N3) : Prop := (-9223372036854775808 ≤ x.of ∧ x.of ≤ 9223372036854775807) ∧ (-9223372036854775808 ≤ x.tag ∧ x.tag ≤ 9223372036854775807) ∧ (-9223372036854775808 ≤ x.kind ∧ x.kind ≤ 9223372036854775807)
/-- What the reading of a list says of its length. -/
def LenOf (d : DataW H) (n : Nat) : Prop := (d = .nil ∧ n = 0) ∨ ∃ es sp, d = .slice es sp ∧ es.length = n

/-- An argument that is a list of notices. -/
theorem open_notices {P : Program} {t e : TypeId} {fs : Array Field} (hT : P.underlying t = some (.slice e)) (hE : P.underlying e = some (.struct fs)) (hone : oneCellFields P fs = true) (hC : P.cellsOf e = fs.size) (h3 : fs.size = 3)
    (hI : ∀ (j : Nat) (f : Field), fs[j]? = some f → P.underlying f.type = some (.int .i64)) {v : Value} {d : DataW H} {p : List MemPlace} {b0 : Nat} (hv : Value.okWide P W .any b0 t v) (h : DataW.Trod enc P W 0 (fun _ => true) true t v d p) :
    ∃ (A : Option Addr) (c g : Nat) (xs : List N3), v = .slice A xs.length c ∧ Ls N3.cells 3 W g A xs ∧ (∀ x ∈ xs, x.wf) ∧ xs.length ≤ maxLen ∧ LenOf d xs.length := by
  obtain ⟨A, len, cap, rfl⟩ := okWide_slice hT hv
  obtain ⟨fuel, hf⟩ := h
  have hof := open_slice_fields hT hE hone hC hf
  rw [h3] at hof
  rcases hof with ⟨hcs, hx⟩ | ⟨a, len', cap', m, D, Pl, hcs, hb, hl, hm, hmm, hx, hi⟩
  · simp [Value.cells] at hcs
    obtain ⟨rfl, rfl, rfl⟩ := hcs
    simp only [Prod.mk.injEq] at hx
    exact ⟨none, 0, 0, [], rfl, Ls.nil, by simp, by simp [maxLen], .inl ⟨hx.1, rfl⟩⟩
  · simp [Value.cells] at hcs
    obtain ⟨rfl, rfl, rfl⟩ := hcs
    simp only [Prod.mk.injEq] at hx
    simp only [if_true] at hmm
    subst hmm
    have key : ∀ i, i < len → ∃ x : N3, x.wf ∧ ∀ j u, (N3.cells x)[j]? = some u → W.cell? (a.add (i * 3 + j)) = some u := by
      intro i him
      obtain ⟨ys, n, _, _, hyl, hfld⟩ := hi i (by omega)
      have hg : ∀ j, j < 3 → ∃ f, fs[j]? = some f := fun j hj => ⟨_, Array.getElem?_eq_getElem (by omega)⟩
      obtain ⟨f0, hf0⟩ := hg 0 (by omega)
      obtain ⟨f1, hf1⟩ := hg 1 (by omega)
      obtain ⟨f2, hf2⟩ := hg 2 (by omega)
      obtain ⟨v0, y0, c0, e0, t0⟩ := hfld 0 _ hf0
      obtain ⟨v1, y1, c1, e1, t1⟩ := hfld 1 _ hf1
      obtain ⟨v2, y2, c2, e2, t2⟩ := hfld 2 _ hf2
      obtain ⟨n0, r0, _, w0⟩ := DataW.trod_int (hI _ _ hf0) t0
      obtain ⟨n1, r1, _, w1⟩ := DataW.trod_int (hI _ _ hf1) t1
      obtain ⟨n2, r2, _, w2⟩ := DataW.trod_int (hI _ _ hf2) t2
      simp at r0 r1 r2
      subst r0; subst r1; subst r2
      refine ⟨⟨n0, n1, n2⟩, ⟨wf64 w0, wf64 w1, wf64 w2⟩, fun j u hj => ?_⟩
      match j, hj with
      | 0, hj => cases hj; exact c0
      | 1, hj => cases hj; exact c1
      | 2, hj => cases hj; exact c2
    have hch : ∃ F : Nat → N3, ∀ i, i < len → (F i).wf ∧ ∀ j u, (N3.cells (F i))[j]? = some u → W.cell? (a.add (i * 3 + j)) = some u := by
      refine ⟨fun i => if h : i < len then Classical.choose (key i h) else default, fun i h => ?_⟩
      simp only [dif_pos h]
      exact Classical.choose_spec (key i h)
    obtain ⟨F, hF⟩ := hch
    obtain ⟨b, o, sp⟩ := a
    have hlen : ((List.range len).map F).length = len := by simp
    have hat : ∀ i (x : N3), ((List.range len).map F)[i]? = some x → i < len ∧ x = F i := by
      intro i x hx'
      rw [List.getElem?_map] at hx'
      by_cases h : i < len
      · rw [List.getElem?_range h] at hx'; simp at hx'; exact ⟨h, hx'.symm⟩
      · rw [List.getElem?_eq_none (by simp; omega)] at hx'; cases hx'
    have hsp : len ≠ 0 → sp = none := by
      intro h0
      have := (hF 0 (by omega)).2 0 _ rfl
      cases sp with
      | none => rfl
      | some s => exfalso; simp [Addr.add, World.cell?] at this; split at this <;> cases this
    refine ⟨some ⟨b, o, sp⟩, _, b, (List.range len).map F, by rw [hlen], fun hn => ?_, ?_, by rw [hlen]; omega, .inr ⟨_, _, hx.1, by simp⟩⟩
    · have h0 : len ≠ 0 := by rintro rfl; simp at hn
      rw [hsp h0]
      refine ⟨o, rfl, fun i x hx' j u hj => ?_⟩
      obtain ⟨h1, rfl⟩ := hat i x hx'
      have := (hF i h1).2 j u hj
      rw [hsp h0, addr_add] at this
      rw [Nat.add_assoc]; exact this
    · intro x hx'
      obtain ⟨i, hi', rfl⟩ := List.mem_map.1 hx'
      exact (hF i (List.mem_range.1 hi')).1
end
end Go.Proofs.Ytfdffeameoejfaa
