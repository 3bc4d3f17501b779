/- A range over a function whose body never leaves it: what an iterator promises, what a body owes, the law of the statement. -/
import Derived.Test.YtfdffeameoejfaaDraw
import Derived.RangeFuncOwn
namespace Go.Proofs.Ytfdffeameoejfaa
set_option linter.unusedSimpArgs false
set_option linter.unusedVariables false
open Go Go.RowKit

/-- An iterator's own step: no cell turns, nothing below N turns. -/
structure Its (N : Nat) (w w' : World) : Prop where
  os : w'.os = w.os
  tape : w'.tape = w.tape
  output : w'.output = w.output
  size : w.heap.size ≤ w'.heap.size
  cells : ∀ (k : Nat) (o : Obj), w.heap[k]? = some o → o.isCells = true → w'.heap[k]? = some o
  low : ∀ k, k < N → w'.heap[k]? = w.heap[k]?

/-- What a round turns: of what was there, the blocks L and S alone; of what is no cells, the blocks L alone. -/
structure Rnd (S L : List Nat) (w w' : World) : Prop where
  os : w'.os = w.os
  tape : w'.tape = w.tape
  output : w'.output = w.output
  size : w.heap.size ≤ w'.heap.size
  low : ∀ k, k < w.heap.size → k ∉ L → k ∉ S → w'.heap[k]? = w.heap[k]?
  nc : ∀ (k : Nat) (o : Obj), k ∉ L → w.heap[k]? = some o → o.isCells = false → w'.heap[k]? = some o

section
variable {N : Nat} {S L : List Nat} {w w' w'' : World}

theorem lt_of_some {k : Nat} {o : Obj} (h : w.heap[k]? = some o) : k < w.heap.size := (Array.getElem?_eq_some_iff.1 h).1

theorem Its.trans (h : Its N w w') (h' : Its N w' w'') : Its N w w'' :=
  ⟨h'.os.trans h.os, h'.tape.trans h.tape, h'.output.trans h.output, Nat.le_trans h.size h'.size, fun k o hk ho => h'.cells k o (h.cells k o hk ho) ho, fun k hk => (h'.low k hk).trans (h.low k hk)⟩

theorem Its.mono {N' : Nat} (h : Its N' w w') (hN : N ≤ N') : Its N w w' := ⟨h.os, h.tape, h.output, h.size, h.cells, fun k hk => h.low k (by omega)⟩

theorem Its.of_ext (h : Ext [] w w') (hN : N ≤ w.heap.size) : Its N w w' :=
  ⟨h.os, h.tape, h.output, h.size, fun k o hk _ => (h.blk k (lt_of_some hk) (by simp)).trans hk, fun k hk => h.blk k (by omega) (by simp)⟩

theorem its_put {l : Nat} {o : Obj} (o' : Obj) (h : w.heap[l]? = some o) (ho : o.isCells = false) (hN : N ≤ l) : Its N w (w.putObj l o') :=
  ⟨rfl, rfl, rfl, by simp, fun k o'' hk hc => by
    by_cases e : k = l
    · subst e; rw [h] at hk; cases hk; rw [ho] at hc; cases hc
    · exact (World.putObj_heap_other e).trans hk, fun k hk => World.putObj_heap_other (by omega)⟩

theorem Blk.its {b : Nat} {e : TypeId} {cs : List Value} (h : Blk w b e cs) (x : Its N w w') : Blk w' b e cs := x.cells b _ h rfl

theorem Ext.its {w0 : World} (h : Ext L w0 w) (x : Its N w w') (hN : w0.heap.size ≤ N) : Ext L w0 w' :=
  ⟨x.os.trans h.os, x.tape.trans h.tape, x.output.trans h.output, Nat.le_trans h.size x.size, fun k hk hn => (x.low k (by omega)).trans (h.blk k hk hn)⟩

theorem Rnd.refl (S L : List Nat) (w : World) : Rnd S L w w := ⟨rfl, rfl, rfl, Nat.le_refl _, fun _ _ _ _ => rfl, fun _ _ _ h _ => h⟩
theorem Rnd.trans (h : Rnd S L w w') (h' : Rnd S L w' w'') : Rnd S L w w'' :=
  ⟨h'.os.trans h.os, h'.tape.trans h.tape, h'.output.trans h.output, Nat.le_trans h.size h'.size, fun k hk hn hs => (h'.low k (Nat.lt_of_lt_of_le hk h.size) hn hs).trans (h.low k hk hn hs), fun k o hn hk ho => h'.nc k o hn (h.nc k o hn hk ho) ho⟩
theorem Rnd.more {L' : List Nat} (h : Rnd S L w w') (hL : ∀ x ∈ L, x ∈ L') : Rnd S L' w w' :=
  ⟨h.os, h.tape, h.output, h.size, fun k hk hn hs => h.low k hk (fun hx => hn (hL k hx)) hs, fun k o hn hk ho => h.nc k o (fun hx => hn (hL k hx)) hk ho⟩
/-- Stores into blocks of cells, new blocks. -/
theorem Rnd.of_ext {M : List Nat} (h : Ext M w w') (hM : ∀ x ∈ M, ((∃ cs e z, w.heap[x]? = some (.cells cs e z)) ∨ w.heap.size ≤ x) ∧ (x ∈ L ∨ x ∈ S ∨ w.heap.size ≤ x)) : Rnd S L w w' :=
  ⟨h.os, h.tape, h.output, h.size, fun k hk hn hs => h.blk k hk (fun hx => by rcases (hM k hx).2 with h1 | h1 | h1; exact hn h1; exact hs h1; omega),
   fun k o _ hk ho => (h.blk k (lt_of_some hk) (fun hx => by
     have := lt_of_some hk
     rcases (hM k hx).1 with ⟨cs, e, z, h1⟩ | h1
     · rw [hk] at h1; cases h1; cases ho
     · omega)).trans hk⟩

theorem Blk.rnd {b : Nat} {e : TypeId} {cs : List Value} (h : Blk w b e cs) (x : Rnd S L w w') (hb : b ∉ L) (hs : b ∉ S) : Blk w' b e cs := (x.low b h.lt hb hs).trans h
end

/-- What is asked at the end of a round's body: it has come to its end. -/
def Rp (R : World → Prop) : Exit → Act → World → Prop
  | .normal, _, B => R B
  | _, _, _ => False

/-- AN ITERATOR: called with a yield it calls it n times, in order, with these values. -/
def Iter (P : Program) (g : FuncId) (lb : List Value) (n : Nat) (arg : Nat → Value) (W : World) (L : List Nat) : Prop :=
  ∀ (l : Nat) (J : Nat → List Nat → World → Prop), (∃ lp, W.heap[l]? = some (.loop lp)) →
    (∀ k S A B, J k S A → Its W.heap.size A B → J k S B) →
    (∀ k S A, k < n → J k S A → W.heap.size ≤ A.heap.size → (∀ c ∈ S, W.heap.size ≤ c) → YieldAt (FW none) 0 P l #[arg k] A fun e B => e = .returned (.bool true) ∧ ∃ S', J (k + 1) S' B ∧ Rnd S (l :: L) A B ∧ ∀ c ∈ S', c ∈ S ∨ A.heap.size ≤ c) →
    J 0 [] W → Calls P g (Value.func (.yield l) #[] #[] :: lb).toArray W (Ret fun _ B => ∃ S, J n S B)

section
variable {P : Program} {Q : Exit → Act → World → Prop}

theorem c_range {g : Operand} {pr : Tmp} {assign body : Code} {M : Nat} {l : Nat → Value} {ds : List Deferred} {w : World} {gf : FuncId} {lb : List Value} {n : Nat} {arg : Nat → Value} {L : List Nat}
    (hg : ev M l g = .func (.func gf) #[] lb.toArray) (hE : Ent P gf) (hit : ∀ W, Ext [] w W → Iter P gf lb n arg W L) (hL : ∀ x ∈ L, x < w.heap.size)
    (J : Nat → List Nat → World → Prop) (h0 : J 0 [] w) (hJ : ∀ k S A B, J k S A → Its w.heap.size A B → J k S B)
    (hbody : ∀ lp k S A, k < n → J k S A → w.heap.size ≤ A.heap.size → (∀ c ∈ S, w.heap.size ≤ c) →
      assign.wpIn (FW (some lp)) 0 P (Exit.then (fun a1 A1 => Ext [] A A1 ∧ ∀ A2, Its w.heap.size A1 A2 →
        body.wpIn (FW (some lp)) 0 P (Rp fun B => ∃ S', J (k + 1) S' B ∧ Rnd S L A2 B ∧ ∀ c ∈ S', c ∈ S ∨ A2.heap.size ≤ c) a1 A2) (fun _ _ _ => False)) (Fr M (up l pr (arg k)) []) A)
    (hk : ∀ D W S, J n S W → w.heap.size ≤ D → W.heap[D]? = some (.deferred (some [])) → (∀ c ∈ S, w.heap.size ≤ c) → Q .normal (Fr M l ({ target := .collected D, args := #[] } :: ds)) W) :
    (Code.rangeFunc g #[pr] assign body).wpIn (FW none) 0 P Q (Fr M l ds) w := by
  refine wpIn_rangeFunc ?_
  intro fn _
  obtain ⟨rec, hrec⟩ : ∃ rec : LoopState → Option Code → Loop, rec = fun st pe => { state := st, pending := pe, fn, tmps := (Fr M l ds).tmps, params := #[pr], assign, body, defers := w.heap.size } := ⟨_, rfl⟩
  obtain ⟨W1, hW1⟩ : ∃ W1, (w.alloc (.deferred (some []))).alloc (.loop (rec .ready none)) = W1 := ⟨_, rfl⟩
  have hx1 : Ext [] w W1 := by
    rw [← hW1]
    exact Ext.of_below (((Below.refl _ w).alloc (Nat.le_refl _) _).alloc (by simp) _)
  have hL1 : W1.heap[w.heap.size + 1]? = some (.loop (rec .ready none)) := by
    rw [← hW1]; have := World.alloc_heap_new (w.alloc (.deferred (some []))) (.loop (rec .ready none)); rwa [World.size_alloc] at this
  have hK1 : W1.heap[w.heap.size]? = some (.deferred (some [])) := by
    rw [← hW1]; exact (Below.heap_alloc _ _ _ (by simp)).trans (World.alloc_heap_new w _)
  have hs1 : W1.heap.size = w.heap.size + 2 := by rw [← hW1]; simp
  refine ⟨w.heap.size + 1, [{ target := .collected w.heap.size, args := #[] }], W1, { target := .fn (.func gf) lb.toArray, args := #[.func (.yield (w.heap.size + 1)) #[] #[]] }, W1, gf,
    (Value.func (.yield (w.heap.size + 1)) #[] #[] :: lb).toArray, W1, ?_, ?_, fun _ _ => trivial, ?_, fun h => (by cases h), ?_⟩
  · rw [← hW1, hrec]; exact run_enterLoop_outer _ _ _ _ _
  · have hc : ∀ v, ev M l (.const v) = v := fun _ => rfl
    simp [resolve, Fr_eval', hg, hc, Deferred.ofValue]
  · have := hE (Value.func (.yield (w.heap.size + 1)) #[] #[] :: lb).toArray W1
    simp only [invoke]
    rw [show (#[Value.func (.yield (w.heap.size + 1)) #[] #[]] : Array Value) ++ lb.toArray = (Value.func (.yield (w.heap.size + 1)) #[] #[] :: lb).toArray by simp]
    exact this
  · refine calls_fw.2 ?_
    refine (hit W1 hx1 (w.heap.size + 1)
      (fun k S W => J k S W ∧ w.heap.size + 2 ≤ W.heap.size ∧ W.heap[w.heap.size + 1]? = some (.loop (rec .ready none)) ∧ W.heap[w.heap.size]? = some (.deferred (some [])) ∧ ∀ c ∈ S, w.heap.size + 2 ≤ c)
      ⟨_, hL1⟩ ?_ ?_ ⟨hJ 0 [] w W1 h0 (Its.of_ext hx1 (Nat.le_refl _)), by omega, hL1, hK1, by simp⟩).mono ?_
    · rintro k S A B ⟨hj, hs, hl, hd, hS⟩ hI
      exact ⟨hJ k S A B hj (hI.mono hx1.size), by have := hI.size; omega, (hI.low _ (by omega)).trans hl, (hI.low _ (by omega)).trans hd, hS⟩
    · rintro k S A hkn ⟨hj, hs, hl, hd, hS⟩ _ _
      have hy := run_yield (P := P) (args := #[arg k]) hl (by rw [hrec]; rfl)
      have htm : ((((rec .ready none).params.zip #[arg k]).foldl (fun tmps (t, a) => tmps.setIfInBounds t a) (rec .ready none).tmps)) = (Fr M (up l pr (arg k)) []).tmps := by
        rw [hrec]
        have := congrArg Act.tmps (Fr_put M l ds (some pr) (arg k))
        rw [show (Fr M (up l pr (arg k)) []).tmps = (Fr M (ptd l (some pr) (arg k)) ds).tmps from rfl, ← this]
        simp [Act.put]
      rw [htm] at hy
      refine ⟨fn, _, assign, body, by rw [hrec] at hy; exact hy, roundIn_of_wpIn (F := FW none) trivial ?_⟩
      refine wpIn_mono (hbody (w.heap.size + 1) k S A hkn hj (by omega) (fun c hc => by have := hS c hc; omega)) ?_
      intro e a1 A1 he
      cases e with
      | normal =>
        obtain ⟨hx, hb⟩ := he
        have hl1 : A1.heap[w.heap.size + 1]? = some (.loop (rec .ready none)) := (hx.blk _ (lt_of_some hl) (by simp)).trans hl
        have hd1 : A1.heap[w.heap.size]? = some (.deferred (some [])) := (hx.blk _ (lt_of_some hd) (by simp)).trans hd
        refine ⟨_, run_beginRound hl1 (by rw [hrec]), ?_⟩
        refine wpIn_mono (hb _ (its_put _ hl1 rfl (by omega))) ?_
        intro e' a2 B hB
        cases e' with
        | normal =>
          obtain ⟨S', hj', hr, hS'⟩ := hB
          have hnot : w.heap.size + 1 ∉ L := fun h => by have := hL _ h; omega
          have hnot' : w.heap.size ∉ L := fun h => by have := hL _ h; omega
          have hl2 : (A1.putObj (w.heap.size + 1) (.loop { rec .ready none with state := .busy })).heap[w.heap.size + 1]? = some (.loop { rec .ready none with state := .busy }) := World.putObj_heap_same (lt_of_some hl1)
          have hl3 := hr.nc _ _ hnot hl2 rfl
          have hd3 := hr.nc _ _ hnot' ((World.putObj_heap_other (by omega)).trans hd1) rfl
          have hend := run_endRound (P := P) none hl3
          have hsA : A.heap.size ≤ (A1.putObj (w.heap.size + 1) (.loop { rec .ready none with state := .busy })).heap.size := by simp; exact hx.size
          refine ⟨_, _, hend, rfl, S', ⟨hJ _ _ _ _ hj' (its_put _ hl3 rfl (by omega)), ?_, ?_, ?_, ?_⟩, ?_, ?_⟩
          · simp; have := lt_of_some hl3; omega
          · rw [World.putObj_heap_same (lt_of_some hl3)]; rw [hrec]; rfl
          · exact (World.putObj_heap_other (by omega)).trans hd3
          · intro c hc
            rcases hS' c hc with h1 | h1
            · exact hS c h1
            · have := hx.size; simp at h1; omega
          · have r1 : Rnd S ((w.heap.size + 1) :: L) A A1 := Rnd.of_ext hx (by simp)
            have r2 : Rnd S ((w.heap.size + 1) :: L) A1 (A1.putObj (w.heap.size + 1) (.loop { rec .ready none with state := .busy })) :=
              ⟨rfl, rfl, rfl, by simp, fun j hj hn _ => World.putObj_heap_other (by intro e; subst e; exact hn (by simp)), fun j o hn hk _ => (World.putObj_heap_other (by intro e; subst e; exact hn (by simp))).trans hk⟩
            refine ((r1.trans r2).trans (hr.more (by simp_all))).trans ?_
            exact ⟨rfl, rfl, rfl, by simp, fun j hj hn _ => World.putObj_heap_other (by intro e; subst e; exact hn (by simp)), fun j o hn hk _ => (World.putObj_heap_other (by intro e; subst e; exact hn (by simp))).trans hk⟩
          · intro c hc
            rcases hS' c hc with h1 | h1
            · exact .inl h1
            · right; have := hx.size; simp at h1; omega
        | exit id => exact hB.elim
        | goto t => exact hB.elim
        | ret => exact hB.elim
        | panic ch => exact hB.elim
        | outgrown => exact hB.elim
      | exit id => exact he.elim
      | goto t => exact he.elim
      | ret => exact he.elim
      | panic ch => exact he.elim
      | outgrown => exact he.elim
    · intro e B he
      cases e with
      | returned v =>
        obtain ⟨S, hj, hs, hl, hd, hS⟩ := he
        have hend := run_endLoop (P := P) hl (by rw [hrec]; simp)
        have hpn : (rec .ready none).pending = none := by rw [hrec]
        rw [hpn] at hend
        exact ⟨none, _, hend, hk w.heap.size _ S (hJ _ _ _ _ hj (its_put _ hl rfl (by omega))) (Nat.le_refl _) ((World.putObj_heap_other (by omega)).trans hd) (fun c hc => by have := hS c hc; omega)⟩
      | panicked ch => exact he.elim
      | outgrown => exact he.elim

/-- A function with such a statement leaves: the mark is taken off. -/
theorem bpm_ret {fn : Func} {R : Value → World → Prop} {M : Nat} {l : Nat → Value} {D : Nat} {w : World} (hD : w.heap[D]? = some (.deferred (some [])))
    (h : ∀ w', Its D w w' → ∃ v, (results fn (Fr M l []).tmps).run P w' = .ok v w' ∧ R v w') : bodyPostM (FW none) 0 P fn (Ret R) .ret (Fr M l [{ target := .collected D, args := #[] }]) w :=
  ⟨by simp, .inl ⟨D, _, rfl, run_takeDeferred hD, h _ (its_put _ hD rfl (Nat.le_refl _))⟩⟩
theorem bpm_end {fn : Func} {R : Value → World → Prop} {M : Nat} {l : Nat → Value} {D : Nat} {w : World} (hD : w.heap[D]? = some (.deferred (some [])))
    (h : ∀ w', Its D w w' → ∃ v, (results fn (Fr M l []).tmps).run P w' = .ok v w' ∧ R v w') : bodyPostM (FW none) 0 P fn (Ret R) .normal (Fr M l [{ target := .collected D, args := #[] }]) w :=
  ⟨by simp, .inl ⟨D, _, rfl, run_takeDeferred hD, h _ (its_put _ hD rfl (Nat.le_refl _))⟩⟩
theorem bpm_ret0 {fn : Func} {R : Value → World → Prop} {M : Nat} {l : Nat → Value} {v : Value} {w : World} (hr : (results fn (Fr M l []).tmps).run P w = .ok v w) (hR : R v w) : bodyPostM (FW none) 0 P fn (Ret R) .ret (Fr M l []) w := ⟨v, hr, hR⟩

/-- The block for deferred calls, kept. -/
def Dfr (w : World) (D : Nat) : Prop := w.heap[D]? = some (.deferred (some []))
theorem Dfr.ext0 {w w' : World} {D : Nat} (h : Dfr w D) (x : Ext [] w w') : Dfr w' D := (x.blk D (lt_of_some h) (by simp)).trans h
theorem Dfr.ext1 {w w' : World} {D b : Nat} {e : TypeId} {cs : List Value} (h : Dfr w D) (hb : Blk w b e cs) (x : Ext [b] w w') : Dfr w' D := (x.blk D (lt_of_some h) (by
  intro hx
  have : D = b := by simpa using hx
  subst this
  unfold Dfr at h; unfold Blk at hb
  rw [h] at hb; cases hb)).trans h

/-- A call of yield in an iterator's walk. -/
theorem s_yield {ops : Array Oper} {Q' : Exit → Act → World → Prop} {rr : Option Nat} {M : Nat} {l : Nat → Value} {ds : List Deferred} {w : World} {rest : List Oper} {d : Option Tmp} {t : TypeId} {p : String} {af : Array Edge} {fo x : Operand} {at_ : Array TypeId} {lp : Nat} {v : Value} {R : World → Prop}
    (hf : ev M l fo = .func (.yield lp) #[] #[]) (hx : ev M l x = v) (hy : YieldAt (FW none) 0 P lp #[v] w fun e B => e = .returned (.bool true) ∧ R B)
    (k : ∀ w', R w' → WL rr P ops Q' rest (Fr M (ptd l d (.bool true)) ds) w') :
    WL rr P ops Q' (⟨d, .call { callee := .value fo, args := #[x], argTypes := at_ }, t, p, af, none⟩ :: rest) (Fr M l ds) w := by
  obtain ⟨fn, tmps, assign, body, hrun, hround⟩ := hy
  have hr : (execOp (ev M l) ⟨d, .call { callee := .value fo, args := #[x], argTypes := at_ }, t, p, af, none⟩).run P w = .ok (.round lp fn tmps assign body) w := by
    simp [execOp, resolve, hf, hx, Deferred.ofValue, invoke, hrun]
  refine wpListIn_plain rfl fun K hK => ⟨fun _ _ => trivial, ?_⟩
  rw [Oper.semAt_eq _ _ _ (fun c => by simp), Fr_eval', hr]
  refine ⟨fun h => (by cases h), ?_⟩
  have hround' : RoundIn (FW rr) 0 P lp fn tmps assign body w fun e B => e = .returned (.bool true) ∧ R B := hround
  refine hround'.mono ?_
  rintro e B ⟨rfl, hB⟩
  refine hK _ _ ?_
  rw [Fr_put]
  exact k B hB
end
end Go.Proofs.Ytfdffeameoejfaa
