/- spread: printed walks. -/
import Derived.Test.YtfdffeameoejfaaTagbook
namespace Go.Proofs.Ytfdffeameoejfaa
open Go Go.RowKit
set_option linter.unusedVariables false
set_option linter.unusedSimpArgs false

theorem keep_c {qs : Nat} {self : Int} {w0 : World} (hs : Blk w0 qs 3 [i64 self]) (x : N3) :
    Calls Try.prog 73 [(N3.val x), (ptr qs 0)].toArray w0 (Ret (Pu (.bool (keepB self x)) w0)) := by
  have hE : Ext [] w0 w0 := (Ext.refl w0).more (by simp)
  have hlq := hs.lt
  refine enter (vs := [(N3.val x), (ptr qs 0)]) Try.func73 rfl Try.ntmps73 rfl ?_
  refine c_rs ?_
  refine s_box (v := (N3.val x)) (cs := (N3.cells x)) rfl rfl (fun b1 w2 hb1 gb1 x3 => ?_)
  have nb1_hE : w0.heap.size ≤ b1 := Nat.le_trans hE.size gb1
  clear gb1
  replace hE := hE.step0 x3
  replace hs := hs.ext0 x3
  clear x3
  refine s1 (v := (.bool false)) (rn_as rfl) ?_
  refine w_end ?_
  refine c_rs ?_
  refine s1 (v := (ptr b1 0)) (rn_fa fa28_0 rfl rfl) ?_
  refine s1 (v := (i64 x.of)) (rn_lb1 o3 rfl hb1 rfl) ?_
  refine s1 (v := (i64 self)) (rn_lb1 o3 rfl hs rfl) ?_
  refine s1 (v := (.bool (decide (x.of ≠ self)))) (rn_neq (m := x.of) (n := self) rfl rfl) ?_
  refine s1 (v := (.bool (decide (x.of ≠ self)))) (rn_mv rfl) ?_
  rcases Bool.eq_false_or_eq_true (decide (x.of ≠ self)) with h4 | h4
  ·
    have p5 := of_decide_eq_true h4
    refine g_not rfl rfl rfl h4 ?_
    refine g_not rfl rfl rfl h4 ?_
    refine g_not rfl rfl rfl h4 ?_
    refine s1 (v := (.bool true)) (rn_pT (b := (decide (x.of ≠ self))) rfl h4 rfl) ?_
    refine s1 (v := (.bool true)) (rn_as rfl) ?_
    refine w_end ?_
    refine c_ret ?_
    refine bp_ret (rs1 rfl (rv_tmp (v := (.bool true)) rfl)) ?_
    exact ⟨by simp [keepB, *], hE⟩
  ·
    have p6 := of_decide_eq_false h4
    refine g_yes rfl rfl rfl h4 ?_
    refine s1 (v := (ptr b1 2)) (rn_fa fa28_2 rfl rfl) ?_
    refine g_yes rfl rfl rfl h4 ?_
    refine s1 (v := (i64 x.kind)) (rn_lb1 o3 rfl hb1 rfl) ?_
    refine g_yes rfl rfl rfl h4 ?_
    refine s1 (v := (.bool (decide (x.kind ≠ 1)))) (rn_neq (m := x.kind) (n := 1) rfl rfl) ?_
    refine s1 (v := (.bool (decide (x.kind ≠ 1)))) (rn_pF (b := (decide (x.of ≠ self))) rfl h4 rfl) ?_
    refine s1 (v := (.bool (decide (x.kind ≠ 1)))) (rn_as rfl) ?_
    refine w_end ?_
    refine c_ret ?_
    refine bp_ret (rs1 rfl (rv_tmp (v := (.bool (decide (x.kind ≠ 1)))) rfl)) ?_
    exact ⟨by simp [keepB, *], hE⟩

theorem Values_c (A : Option Addr) (n c : Nat) {w0 : World} :
    Calls Try.prog 72 [(.slice A n c)].toArray w0 (Ret (fun v w' => ∃ q, v = .func (.func 122) #[] #[ptr q 0] ∧ Blk w' q 22 [.slice A n c] ∧ w0.heap.size ≤ q ∧ Ext [] w0 w')) := by
  have hE : Ext [] w0 w0 := (Ext.refl w0).more (by simp)
  refine enter (vs := [(.slice A n c)]) Try.func72 rfl Try.ntmps72 rfl ?_
  refine c_rs ?_
  refine s_box (v := (.slice A n c)) (cs := [(.slice A n c)]) rfl rfl (fun b1 w2 hb1 gb1 x3 => ?_)
  have nb1_hE : w0.heap.size ≤ b1 := Nat.le_trans hE.size gb1
  clear gb1
  replace hE := hE.step0 x3
  clear x3
  refine s1 (v := .nilFunc) (rn_as rfl) ?_
  refine w_end ?_
  refine c_rs ?_
  refine s1 (v := (.func (.func 122) #[] #[(ptr b1 0)])) (rn_mf (vs := [(ptr b1 0)]) rfl) ?_
  refine s1 (v := (.func (.func 122) #[] #[(ptr b1 0)])) (rn_as rfl) ?_
  refine w_end ?_
  refine c_ret ?_
  refine bp_ret (rs1 rfl (rv_tmp (v := (.func (.func 122) #[] #[(ptr b1 0)])) rfl)) ?_
  exact ⟨b1, rfl, hb1, by omega, hE⟩

theorem passed_c (f : FuncId) (fs : List Value) (k : FuncId) (ks : List Value) {w0 : World} :
    Calls Try.prog 71 [(.func (.func f) #[] fs.toArray), (.func (.func k) #[] ks.toArray)].toArray w0 (Ret (fun v w' => ∃ q1 q2, v = .func (.func 121) #[] #[ptr q1 0, ptr q2 0] ∧ Blk w' q1 126 [.func (.func f) #[] fs.toArray] ∧ Blk w' q2 129 [.func (.func k) #[] ks.toArray] ∧ w0.heap.size ≤ q1 ∧ w0.heap.size ≤ q2 ∧ Ext [] w0 w')) := by
  have hE : Ext [] w0 w0 := (Ext.refl w0).more (by simp)
  refine enter (vs := [(.func (.func f) #[] fs.toArray), (.func (.func k) #[] ks.toArray)]) Try.func71 rfl Try.ntmps71 rfl ?_
  refine c_rs ?_
  refine s_box (v := (.func (.func f) #[] fs.toArray)) (cs := [(.func (.func f) #[] fs.toArray)]) rfl rfl (fun b1 w2 hb1 gb1 x3 => ?_)
  have nb1_hE : w0.heap.size ≤ b1 := Nat.le_trans hE.size gb1
  clear gb1
  replace hE := hE.step0 x3
  clear x3
  refine s_box (v := (.func (.func k) #[] ks.toArray)) (cs := [(.func (.func k) #[] ks.toArray)]) rfl rfl (fun b4 w5 hb4 gb4 x6 => ?_)
  have nb4_hE : w0.heap.size ≤ b4 := Nat.le_trans hE.size gb4
  have ob4 : b1 < b4 := Nat.lt_of_lt_of_le hb1.lt gb4
  clear gb4
  replace hE := hE.step0 x6
  replace hb1 := hb1.ext0 x6
  clear x6
  refine s1 (v := .nilFunc) (rn_as rfl) ?_
  refine w_end ?_
  refine c_rs ?_
  refine s1 (v := (.func (.func 121) #[] #[(ptr b1 0), (ptr b4 0)])) (rn_mf (vs := [(ptr b1 0), (ptr b4 0)]) rfl) ?_
  refine s1 (v := (.func (.func 121) #[] #[(ptr b1 0), (ptr b4 0)])) (rn_as rfl) ?_
  refine w_end ?_
  refine c_ret ?_
  refine bp_ret (rs1 rfl (rv_tmp (v := (.func (.func 121) #[] #[(ptr b1 0), (ptr b4 0)])) rfl)) ?_
  exact ⟨b1, b4, rfl, hb1, hb4, by omega, by omega, hE⟩

theorem passed1_it {q1 q2 q0 qs gl c : Nat} {A : Option Addr} {l : List N3} {self : Int} {W : World} {L : List Nat} (h1 : Blk W q1 126 [.func (.func 122) #[] #[ptr q0 0]]) (h2 : Blk W q2 129 [.func (.func 73) #[] #[ptr qs 0]]) (h0 : Blk W q0 22 [.slice A l.length c]) (hs : Blk W qs 3 [i64 self]) (hl : Ls N3.cells 3 W gl A l) (hll : l.length ≤ 1000000)
    (hLW : ∀ c ∈ L, c < W.heap.size) (l1 : q1 ∉ L) (l2 : q2 ∉ L) (l0 : q0 ∉ L) (ls : qs ∉ L) (lg : gl ∉ L ∨ l.length = 0) :
    Iter Try.prog 121 [ptr q1 0, ptr q2 0] (others self l).length (argN (others self l)) W L := by
  intro lo J hlp hJ hy hj0
  have hE : Ext [] W W := (Ext.refl W).more (by simp)
  obtain ⟨lq, hlq⟩ := hlp
  have hloW : lo < W.heap.size := lt_of_some hlq
  have ne1 := h1.ne_loop hlq
  have ne2 := h2.ne_loop hlq
  have ne0 := h0.ne_loop hlq
  have nes := hs.ne_loop hlq
  have neg := hl.ne_loop (by simp) hlq
  have hw1 := h1.lt
  have hw2 := h2.lt
  have hw0 := h0.lt
  have hws := hs.lt
  have hwg := hl.lt (by simp)
  refine enterM (vs := [(.func (.yield lo) #[] #[]), (ptr q1 0), (ptr q2 0)]) Try.func121 rfl Try.ntmps121 rfl ?_
  refine c_rs ?_
  refine s_box (v := (.func (.yield lo) #[] #[])) (cs := [(.func (.yield lo) #[] #[])]) rfl rfl (fun b1 w2 hb1 gb1 x3 => ?_)
  have nb1_hE : W.heap.size ≤ b1 := Nat.le_trans hE.size gb1
  clear gb1
  replace hE := hE.step0 x3
  replace h1 := h1.ext0 x3
  replace h2 := h2.ext0 x3
  replace h0 := h0.ext0 x3
  replace hs := hs.ext0 x3
  replace hl := hl.ext0 x3
  clear x3
  refine w_end ?_
  refine c_rs ?_
  refine s1 (v := (.func (.func 122) #[] #[(ptr q0 0)])) (rn_lb1 o126 rfl h1 rfl) ?_
  refine w_end ?_
  refine c_block ?_
  have hj := hJ _ _ _ _ hj0 (Its.of_ext hE (Nat.le_refl _))
  have hsW := hE.size
  have hbW := hb1.lt
  have hbL : b1 ∉ L := fun h_ => by have := hLW _ h_; omega
  refine c_range (gf := 122) (n := l.length) (arg := (argN l)) (L := (lo :: L)) (lb := [(ptr q0 0)]) rfl e122 (fun W hC => Values1_it (q := q0) (gl := gl) (h0.ext0 hC) (hl.ext0 hC) hll (by simp only [List.mem_cons, not_or]; exact ⟨ne0, l0⟩) (by rcases neg with h_ | h_; rcases lg with h2_ | h2_; left; simp only [List.mem_cons, not_or]; exact ⟨h_, h2_⟩; right; exact h2_; right; exact h_)) (by intro c hc; rcases List.mem_cons.1 hc with rfl | hc; omega; have := hLW _ hc; omega) (fun k4 S W => Blk W q1 126 [(.func (.func 122) #[] #[(ptr q0 0)])] ∧ Blk W q2 129 [(.func (.func 73) #[] #[(ptr qs 0)])] ∧ Blk W q0 22 [(.slice A l.length c)] ∧ Blk W qs 3 [(i64 self)] ∧ Blk W b1 129 [(.func (.yield lo) #[] #[])] ∧ Ls N3.cells 3 W gl A l ∧ J (others self (l.take k4)).length S W) ⟨h1, h2, h0, hs, hb1, hl, hj⟩ (fun k4 S A B ⟨h1, h2, h0, hs, hb1, hl, hj⟩ hI => ⟨h1.its hI, h2.its hI, h0.its hI, hs.its hI, hb1.its hI, hl.its hI, hJ _ _ _ _ hj (hI.mono (by omega))⟩) ?_ ?_
  · skip
    clear h1
    clear h2
    clear h0
    clear hs
    clear hb1
    clear hl
    clear hj
    rintro lp k4 S w6 hk7 ⟨h1, h2, h0, hs, hb1, hl, hj⟩ hA8 hSN9
    obtain ⟨x10, hx11⟩ : ∃ x, (l)[k4]? = some x := ⟨_, List.getElem?_eq_getElem hk7⟩
    rw [argN_eq hx11]
    have hEA12 := Ext.refl w6
    refine c_r ?_
    refine s_alloc (cs := [(i64 0), (i64 0), (i64 0)]) z28 rfl (fun b13 w14 hb13 gb13 x15 => ?_)
    have nb13_hEA12 : w6.heap.size ≤ b13 := Nat.le_trans hEA12.size gb13
    have ob13 : b1 < b13 := Nat.lt_of_lt_of_le hb1.lt gb13
    clear gb13
    replace hEA12 := hEA12.step0 x15
    replace h1 := h1.ext0 x15
    replace h2 := h2.ext0 x15
    replace h0 := h0.ext0 x15
    replace hs := hs.ext0 x15
    replace hb1 := hb1.ext0 x15
    replace hl := hl.ext0 x15
    clear x15
    refine s_st (v := (N3.val x10)) (vs := (N3.cells x10)) (cs' := (N3.cells x10)) g28.2 rfl rfl rfl rfl hb13 (by simp) rfl rfl (fun w16 h_ x17 => ?_)
    replace hEA12 := hEA12.step1 x17 (by first | (left; simp; done) | (right; omega))
    replace h1 := h1.ext1 x17 (by omega)
    replace h2 := h2.ext1 x17 (by omega)
    replace h0 := h0.ext1 x17 (by omega)
    replace hs := hs.ext1 x17 (by omega)
    replace hb1 := hb1.ext1 x17 (by omega)
    replace hl := hl.ext1 x17 (by omega)
    clear x17
    replace hb13 := h_; clear h_
    refine w_nil ?_
    refine t_norm ⟨hEA12, fun w18 hI19 => ?_⟩
    have hszw18 := hEA12.size
    have hsyw18 := hI19.size
    replace hj := hJ _ _ _ _ (hJ _ _ _ _ hj (Its.of_ext hEA12 (by omega))) (hI19.mono (by omega))
    replace h1 := h1.its hI19
    replace h2 := h2.its hI19
    replace h0 := h0.its hI19
    replace hs := hs.its hI19
    replace hb1 := hb1.its hI19
    replace hb13 := hb13.its hI19
    replace hl := hl.its hI19
    have hR20 : Ext ([]) w18 w18 := (Ext.refl w18).more (by simp)
    have hQ21 : ∀ c ∈ ([] : List Nat), ((∃ cs e z, w18.heap[c]? = some (Obj.cells cs e z)) ∨ w18.heap.size ≤ c) ∧ (c ∈ ((lo :: L) : List Nat) ∨ c ∈ (S : List Nat) ∨ w18.heap.size ≤ c) := by
      intro c hc
      simp at hc
    refine c_block ?_
    refine c_rs ?_
    refine s1 (v := (.func (.func 73) #[] #[(ptr qs 0)])) (rn_lb1 o129 rfl h2 rfl) ?_
    refine s1 (v := (N3.val x10)) (rn_lbN (vs := (N3.cells x10)) g28 rfl hb13 rfl rfl) ?_
    refine s_callvP e73 (v := (.bool (keepB self x10))) (vs := [(N3.val x10)]) (ws := [(ptr qs 0)]) rfl rfl (keep_c hs x10) (fun w22 x23 => ?_)
    replace hR20 := hR20.step0 x23
    replace h1 := h1.ext0 x23
    replace h2 := h2.ext0 x23
    replace h0 := h0.ext0 x23
    replace hs := hs.ext0 x23
    replace hb1 := hb1.ext0 x23
    replace hb13 := hb13.ext0 x23
    replace hl := hl.ext0 x23
    clear x23
    refine s1 (v := (.bool (keepB self x10))) (rn_mv rfl) ?_
    rcases Bool.eq_false_or_eq_true (keepB self x10) with h24 | h24
    ·
      refine g_yes rfl rfl rfl h24 ?_
      refine s1 (v := (.func (.yield lo) #[] #[])) (rn_lb1 o129 rfl hb1 rfl) ?_
      refine g_yes rfl rfl rfl h24 ?_
      refine s1 (v := (N3.val x10)) (rn_lbN (vs := (N3.cells x10)) g28 rfl hb13 rfl rfl) ?_
      refine g_yes rfl rfl rfl h24 ?_
      have hkk := others_at (self := self) hx11 h24
      replace hj := hJ _ _ _ _ hj (Its.of_ext hR20 (by omega))
      have hsR := hR20.size
      have hky : (others self (l.take k4)).length < (others self l).length := (List.getElem?_eq_some_iff.1 hkk).1
      refine s_yield rfl rfl (by rw [← argN_eq hkk]; exact hy _ _ _ hky hj (by omega) (fun c hc => by have := hSN9 c hc; omega)) (fun w25 h_ => ?_)
      obtain ⟨S27, hj2, hR26, hS2⟩ := h_
      replace hj : J (others self (l.take (k4 + 1))).length S27 w25 := by rw [take_snoc hx11, others_snoc, if_pos h24, List.length_append]; exact hj2
      replace h1 := h1.rnd hR26 (by simp only [List.mem_cons, not_or]; exact ⟨ne1, l1⟩) (fun h_ => by have := hSN9 _ h_; omega)
      replace h2 := h2.rnd hR26 (by simp only [List.mem_cons, not_or]; exact ⟨ne2, l2⟩) (fun h_ => by have := hSN9 _ h_; omega)
      replace h0 := h0.rnd hR26 (by simp only [List.mem_cons, not_or]; exact ⟨ne0, l0⟩) (fun h_ => by have := hSN9 _ h_; omega)
      replace hs := hs.rnd hR26 (by simp only [List.mem_cons, not_or]; exact ⟨nes, ls⟩) (fun h_ => by have := hSN9 _ h_; omega)
      replace hl := hl.rnd hR26 (by rcases neg with h_ | h_; rcases lg with h2_ | h2_; rcases hwg with h3_ | h3_; left; exact ⟨by simp only [List.mem_cons, not_or]; exact ⟨h_, h2_⟩, fun h4_ => by have := hSN9 _ h4_; omega⟩; right; exact h3_; right; exact h2_; right; exact h_)
      replace hb1 := hb1.rnd hR26 (by simp only [List.mem_cons, not_or]; exact ⟨by omega, hbL⟩) (fun h_ => by have := hSN9 _ h_; omega)
      clear hb13
      refine g_yes rfl rfl rfl h24 ?_
      refine s1 (v := (.bool false)) (rn_not (b := true) rfl) ?_
      refine s1 (v := (.bool false)) (rn_pT (b := (keepB self x10)) rfl h24 rfl) ?_
      refine w_end ?_
      refine c_F (b := false) rfl rfl ?_
      refine c_skip' ?_
      refine b_norm ?_
      exact ⟨S27, ⟨h1, h2, h0, hs, hb1, hl, hj⟩, (Rnd.of_ext (S := S) (L := lo :: L) hR20 hQ21).trans hR26, fun c hc => (hS2 c hc).imp_right (fun q => Nat.le_trans hsR q)⟩
    ·
      refine g_not rfl rfl rfl h24 ?_
      refine g_not rfl rfl rfl h24 ?_
      refine g_not rfl rfl rfl h24 ?_
      refine g_not rfl rfl rfl h24 ?_
      refine s1 (v := (.bool false)) (rn_pF (b := (keepB self x10)) rfl h24 rfl) ?_
      refine w_end ?_
      refine c_F (b := false) rfl rfl ?_
      refine c_skip' ?_
      refine b_norm ?_
      replace hj := hJ _ _ _ _ hj (Its.of_ext hR20 (by omega))
      rw [show (others self (l.take k4)).length = (others self (l.take (k4 + 1))).length from by rw [take_snoc hx11, others_snoc, if_neg (by rw [h24]; decide)]] at hj
      exact ⟨S, ⟨h1, h2, h0, hs, hb1, hl, hj⟩, Rnd.of_ext hR20 hQ21, fun c hc => .inl hc⟩
  · skip
    clear h1
    clear h2
    clear h0
    clear hs
    clear hb1
    clear hl
    clear hj
    rintro D29 w28 S ⟨h1, h2, h0, hs, hb1, hl, hj⟩ hD30 hK31 hSN32
    change Dfr w28 D29 at hK31
    refine b_norm ?_
    refine bpm_end hK31 (fun w33 hI34 => ?_)
    replace h1 := h1.its hI34
    replace h2 := h2.its hI34
    replace h0 := h0.its hI34
    replace hs := hs.its hI34
    replace hb1 := hb1.its hI34
    replace hl := hl.its hI34
    refine ⟨_, rs0 rfl, ?_⟩
    exact ⟨_, by simpa only [List.take_length] using hJ _ _ _ _ hj (hI34.mono (by omega))⟩

theorem AppendSeq_c {gi : FuncId} {lb : List Value} {ys : List N3} {w0 : World} (hgi : Ent Try.prog gi) (hit : ∀ W L, Ext [] w0 W → (∀ c ∈ L, w0.heap.size ≤ c) → (∀ c ∈ L, c < W.heap.size) → Iter Try.prog gi lb ys.length (argN ys) W L) (hn : ys.length ≤ 1000000) :
    Calls Try.prog 123 [(.slice none 0 0), (.func (.func gi) #[] lb.toArray)].toArray w0 (Ret (fun v w' => ∃ A' c' g', v = .slice A' ys.length c' ∧ Ls N3.cells 3 w' g' A' ys ∧ (w0.heap.size ≤ g' ∨ ys.length = 0) ∧ Ext [] w0 w')) := by
  have hE : Ext [] w0 w0 := (Ext.refl w0).more (by simp)
  refine enterM (vs := [(.slice none 0 0), (.func (.func gi) #[] lb.toArray)]) Try.func123 rfl Try.ntmps123 rfl ?_
  refine c_rs ?_
  refine s_box (v := (.slice none 0 0)) (cs := [(.slice none 0 0)]) rfl rfl (fun b1 w2 hb1 gb1 x3 => ?_)
  have nb1_hE : w0.heap.size ≤ b1 := Nat.le_trans hE.size gb1
  clear gb1
  replace hE := hE.step0 x3
  clear x3
  refine s1 (v := (.slice none 0 0)) (rn_as rfl) ?_
  refine w_end ?_
  refine c_seq ?_
  refine c_rs ?_
  refine s1 (v := (.func (.func gi) #[] lb.toArray)) (rn_mv rfl) ?_
  refine w_end ?_
  refine c_block ?_
  have hO : Ow w2.heap.size 28 N3.cells 3 w2 (.slice none 0 0) [] := Ow.nil
  have hNw6 := hE.size
  have hbl := hb1.lt
  refine c_range (gf := gi) (n := ys.length) (arg := (argN ys)) (L := [b1]) (lb := lb) rfl hgi (fun W hC => hit W [b1] (hE.step0 hC) (by simp; omega) (by have := hC.size; simp; omega)) (by simp; try omega) (fun k4 S W => ∃ (v5 : Value) , S = obl v5 ∧ Ext [] w0 W ∧ Blk W b1 22 [v5] ∧ Ow w2.heap.size 28 N3.cells 3 W v5 (ys.take k4)) ⟨(.slice none 0 0), rfl, hE, hb1, hO⟩ (fun k4 S A B ⟨v5, hSe, hE, hb1, hO⟩ hI => ⟨v5, hSe, hE.its hI (by omega), hb1.its hI, hO.its hI⟩) ?_ ?_
  · skip
    clear hE
    clear hb1
    clear hO
    rintro lp k4 S w7 hk8 ⟨v5, rfl, hE, hb1, hO⟩ hA9 hSN10
    have hbdk4 : (ys.take k4).length ≤ k4 := by simp; omega
    obtain ⟨x11, hx12⟩ : ∃ x, (ys)[k4]? = some x := ⟨_, List.getElem?_eq_getElem hk8⟩
    rw [argN_eq hx12]
    have hEA13 := Ext.refl w7
    refine c_r ?_
    refine s_alloc (cs := [(i64 0), (i64 0), (i64 0)]) z28 rfl (fun b14 w15 hb14 gb14 x16 => ?_)
    have nb14_hE : w0.heap.size ≤ b14 := Nat.le_trans hE.size gb14
    have nb14_hEA13 : w7.heap.size ≤ b14 := Nat.le_trans hEA13.size gb14
    have ob14 : b1 < b14 := Nat.lt_of_lt_of_le hb1.lt gb14
    have obb14_hO : ∀ c ∈ obl v5, c < b14 := fun c hc => Nat.lt_of_lt_of_le (hO.lt c hc).2 gb14
    clear gb14
    replace hE := hE.step0 x16
    replace hEA13 := hEA13.step0 x16
    replace hb1 := hb1.ext0 x16
    replace hO := hO.ext0 x16
    clear x16
    refine s_st (v := (N3.val x11)) (vs := (N3.cells x11)) (cs' := (N3.cells x11)) g28.2 rfl rfl rfl rfl hb14 (by simp) rfl rfl (fun w17 h_ x18 => ?_)
    replace hE := hE.step1 x18 (by first | (left; simp; done) | (right; omega))
    replace hEA13 := hEA13.step1 x18 (by first | (left; simp; done) | (right; omega))
    replace hb1 := hb1.ext1 x18 (by omega)
    replace hO := hO.ext x18 (fun c hc => by have h_ := hO.lt c hc; have := obb14_hO c hc; simp; omega)
    clear x18
    replace hb14 := h_; clear h_
    refine w_nil ?_
    refine t_norm ⟨hEA13, fun w19 hI20 => ?_⟩
    have hszw19 := hEA13.size
    have hsyw19 := hI20.size
    replace hE := hE.its hI20 (by omega)
    replace hb1 := hb1.its hI20
    replace hb14 := hb14.its hI20
    replace hO := hO.its hI20
    have hR21 : Ext ([b1] ++ obl v5) w19 w19 := (Ext.refl w19).more (by simp)
    have hQ22 : ∀ c ∈ ([b1] ++ obl v5 : List Nat), ((∃ cs e z, w19.heap[c]? = some (Obj.cells cs e z)) ∨ w19.heap.size ≤ c) ∧ (c ∈ ([b1] : List Nat) ∨ c ∈ (obl v5 : List Nat) ∨ w19.heap.size ≤ c) := by
      intro c hc
      rcases List.mem_append.1 hc with hc | hc
      · simp at hc; subst hc; exact ⟨.inl hb1.cellsAt, .inl (by simp)⟩
      · exact ⟨.inl (hO.cellsAt c hc), .inr (.inl hc)⟩
    refine c_block ?_
    refine c_r ?_
    refine s1 (v := v5) (rn_lb1 o22 rfl hb1 rfl) ?_
    refine s1 (v := (N3.val x11)) (rn_lbN (vs := (N3.cells x11)) g28 rfl hb14 rfl rfl) ?_
    refine s_bs et22 (vs := #[(0, (N3.val x11))]) (cs := [(i64 x11.of), (i64 x11.tag), (i64 x11.kind)]) (by kernel_rfl) (by decide) (by kernel_rfl) (fun b23 w24 hb23 gb23 x25 => ?_)
    have nb23_hE : w0.heap.size ≤ b23 := Nat.le_trans hE.size gb23
    have nb23_hR21 : w19.heap.size ≤ b23 := Nat.le_trans hR21.size gb23
    have ob23 : b14 < b23 := Nat.lt_of_lt_of_le hb14.lt gb23
    have obb23_hO : ∀ c ∈ obl v5, c < b23 := fun c hc => Nat.lt_of_lt_of_le (hO.lt c hc).2 gb23
    clear gb23
    replace hE := hE.step0 x25
    replace hR21 := hR21.step0 x25
    replace hb1 := hb1.ext0 x25
    replace hb14 := hb14.ext0 x25
    replace hO := hO.ext0 x25
    clear x25
    have hl26 : Ls N3.cells 3 w24 b23 (some ⟨b23, 0, none⟩) [x11] := Ls.of_blk (rest := []) (fun _ => rfl) hb23
    refine s_app (ys := [x11]) et22 (fun _ => rfl) (fun _ => rfl) hO (by have h_ := hR21.size; omega) rfl rfl hl26 (by simp only [List.length_cons, List.length_nil]; omega) (by simp only [List.length_cons, List.length_nil]; omega) (fun v27 w28 hO30 x29 hVv27 => ?_)
    have hVsv27 := hR21.size
    clear hb14
    clear hb23
    clear hl26
    replace hE := hE.step x29 (fun c hc => by first | (left; simp [hc]; done) | (right; have h_ := hO.lt c hc; have := obb14_hO c hc; have := obb23_hO c hc; omega))
    replace hR21 := hR21.step x29 (fun c hc => by first | (left; simp [hc]; done) | (right; have h_ := hO.lt c hc; have := obb14_hO c hc; have := obb23_hO c hc; omega))
    replace hb1 := hb1.ext x29 (fun hc => by have h_ := hO.lt _ hc; have := obb14_hO _ hc; have := obb23_hO _ hc; omega)
    clear x29
    replace hO := hO30; clear hO30
    refine s_st (v := v27) (vs := [v27]) (cs' := [v27]) o22.2 rfl rfl hO.cell1 rfl hb1 (by simp) hO.one rfl (fun w31 h_ x32 => ?_)
    replace hE := hE.step1 x32 (by first | (left; simp; done) | (right; omega))
    replace hR21 := hR21.step1 x32 (by first | (left; simp; done) | (right; omega))
    replace hO := hO.ext x32 (fun c hc => by have h_ := hO.lt c hc; simp; omega)
    clear x32
    replace hb1 := h_; clear h_
    refine w_nil ?_
    refine b_norm ?_
    rw [← take_snoc hx12] at hO
    exact ⟨obl v27, ⟨v27, rfl, hE, hb1, hO⟩, Rnd.of_ext hR21 hQ22, (fun c hc => (hVv27 c hc).imp_right (fun q => Nat.le_trans hVsv27 q))⟩
  · skip
    clear hE
    clear hb1
    clear hO
    rintro D34 w33 S ⟨v38, rfl, hE, hb1, hO⟩ hD35 hK36 hSN37
    change Dfr w33 D34 at hK36
    refine b_norm ?_
    refine t_norm ?_
    refine c_rs ?_
    refine s1 (v := v38) (rn_lb1 o22 rfl hb1 rfl) ?_
    refine s1 (v := v38) (rn_as rfl) ?_
    refine w_end ?_
    refine c_ret ?_
    refine bpm_ret hK36 (fun w39 hI40 => ?_)
    replace hE := hE.its hI40 (by omega)
    replace hb1 := hb1.its hI40
    replace hO := hO.its hI40
    refine ⟨_, rs1 rfl (rv_tmp (v := v38) rfl), ?_⟩
    simp only [List.take_length] at hO
    obtain ⟨A', c', g', rfl, h1, h2⟩ := Ow.ls (cf := N3.cells) (s := 3) (fun _ => rfl) hO
    exact ⟨A', c', g', rfl, h1, by omega, hE⟩

theorem Collect_c {gi : FuncId} {lb : List Value} {ys : List N3} {w0 : World} (hgi : Ent Try.prog gi) (hit : ∀ W L, Ext [] w0 W → (∀ c ∈ L, w0.heap.size ≤ c) → (∀ c ∈ L, c < W.heap.size) → Iter Try.prog gi lb ys.length (argN ys) W L) (hn : ys.length ≤ 1000000) :
    Calls Try.prog 74 [(.func (.func gi) #[] lb.toArray)].toArray w0 (Ret (fun v w' => ∃ A' c' g', v = .slice A' ys.length c' ∧ Ls N3.cells 3 w' g' A' ys ∧ (w0.heap.size ≤ g' ∨ ys.length = 0) ∧ Ext [] w0 w')) := by
  have hE : Ext [] w0 w0 := (Ext.refl w0).more (by simp)
  refine enter (vs := [(.func (.func gi) #[] lb.toArray)]) Try.func74 rfl Try.ntmps74 rfl ?_
  refine c_rs ?_
  refine s1 (v := (.slice none 0 0)) (rn_as rfl) ?_
  refine w_end ?_
  refine c_rs ?_
  refine s1 (v := (.func (.func gi) #[] lb.toArray)) (rn_mv rfl) ?_
  refine s_call e123 (vs := [(.slice none 0 0), (.func (.func gi) #[] lb.toArray)]) rfl (AppendSeq_c hgi hit hn) ?_
  rintro _ w5 ⟨A1, c2, g3, rfl, hl4, gg3, x6⟩
  have dg3 := gg3.imp_left (fun q => Nat.le_trans hE.size q)
  clear gg3
  replace hE := hE.step0 x6
  clear x6
  refine s1 (v := (.slice A1 ys.length c2)) (rn_as rfl) ?_
  refine w_end ?_
  refine c_ret ?_
  refine bp_ret (rs1 rfl (rv_tmp (v := (.slice A1 ys.length c2)) rfl)) ?_
  exact ⟨_, _, g3, rfl, hl4, by omega, hE⟩

theorem Absorb_c {p b : Nat} {xs : List N3} {w0 : World} (hB : Bk w0 p b xs) (self : Int) {A : Option Addr} {gl c : Nat} {l : List N3} (hl : Ls N3.cells 3 w0 gl A l) (hn : xs.length ≤ 100) (hll : l.length ≤ 1000000) (hgb : gl ≠ b ∨ l.length = 0) :
    Calls Try.prog 23 [(ptr p 0), (i64 self), (.slice A l.length c)].toArray w0 (Ret (fun v w' => v = .tuple #[S4.val (absS self xs l), i64 (absE xs l)] ∧ Bk w' p b (absR self xs l) ∧ Ext [b] w0 w')) := by
  have hE : Ext [b] w0 w0 := (Ext.refl w0).more (by simp)
  have hltp := hB.ltp
  have hlbp := hB.ltb
  have hgl := hl.lt (by simp)
  refine enter (vs := [(ptr p 0), (i64 self), (.slice A l.length c)]) Try.func23 rfl Try.ntmps23 rfl ?_
  refine c_rs ?_
  refine s_box (v := (i64 self)) (cs := [(i64 self)]) rfl rfl (fun b1 w2 hb1 gb1 x3 => ?_)
  have nb1_hE : w0.heap.size ≤ b1 := Nat.le_trans hE.size gb1
  clear gb1
  replace hE := hE.step0 x3
  replace hB := hB.ext0 x3
  replace hl := hl.ext0 x3
  clear x3
  refine s_alloc (cs := [(u32 0), (u32 0), (u32 0), (u32 0)]) z34 rfl (fun b4 w5 hb4 gb4 x6 => ?_)
  have nb4_hE : w0.heap.size ≤ b4 := Nat.le_trans hE.size gb4
  have ob4 : b1 < b4 := Nat.lt_of_lt_of_le hb1.lt gb4
  clear gb4
  replace hE := hE.step0 x6
  replace hb1 := hb1.ext0 x6
  replace hB := hB.ext0 x6
  replace hl := hl.ext0 x6
  clear x6
  refine s1 (v := (i64 0)) (rn_as rfl) ?_
  refine w_end ?_
  refine c_seq ?_
  refine c_rs ?_
  refine s1 (v := (.slice A l.length c)) (rn_mv rfl) ?_
  refine s1 (v := (i64 (l.length : Int))) (rn_len is22 rfl) ?_
  refine s1 (v := (i64 0)) (rn_mv rfl) ?_
  refine w_end ?_
  refine c_block ?_
  refine c_loop (fun d a w => ∃ (k7 : Nat) (z_k7 : Nat → Value) , a = Fr 34 (lk [(ptr p 0), (i64 self), (.slice A l.length c), undef, (ptr b1 0), undef, (ptr b4 0), (z_k7 7), undef, (z_k7 9), undef, (.slice A l.length c), (i64 (l.length : Int)), (i64 (k7 : Int)), (z_k7 14), (z_k7 15), (z_k7 16), (z_k7 17), (z_k7 18), (z_k7 19), (z_k7 20), (z_k7 21), (z_k7 22), (z_k7 23), undef, undef, undef, undef, undef, undef, undef, undef, undef, undef]) [] ∧ d = l.length - k7 ∧ k7 ≤ l.length ∧ Ext [b] w0 w ∧ Blk w b1 3 [(i64 self)] ∧ Blk w b4 34 [(u32 0), (u32 0), (u32 0), (u32 0)] ∧ Bk w p b xs ∧ Ls N3.cells 3 w gl A l ∧ allV xs.length (l.take k7) = true) (l.length - 0) ?_ ?_
  · exact ⟨0, (lk [(ptr p 0), (i64 self), (.slice A l.length c), undef, (ptr b1 0), undef, (ptr b4 0), (i64 0), undef, undef, undef, (.slice A l.length c), (i64 (l.length : Int)), (i64 0), undef, undef, undef, undef, undef, undef, undef, undef, undef, undef, undef, undef, undef, undef, undef, undef, undef, undef, undef, undef]), Fr_congr (by kernel_rfl), rfl, Nat.zero_le _, hE, hb1, hb4, hB, hl, rfl⟩
  clear hE
  clear hb1
  clear hb4
  clear hB
  clear hl
  rintro d a w8 ⟨k7, z_k7, rfl, rfl, hlek7, hE, hb1, hb4, hB, hl, hall⟩
  refine c_rs ?_
  refine s1 (v := (.bool (decide ((k7 : Int) < (l.length : Int))))) (rn_lss (m := (k7 : Int)) (n := (l.length : Int)) rfl rfl) ?_
  refine w_end ?_
  refine c_seq ?_
  refine c_if (b := (decide ((k7 : Int) < (l.length : Int)))) rfl (fun h9 => ?_) (fun h9 => ?_)
  ·
    have p10 := of_decide_eq_true h9
    refine c_skip' ?_
    refine t_norm ?_
    refine c_seq ?_
    refine c_block ?_
    refine c_rs ?_
    obtain ⟨x11, o12, hx13, hA14, el15⟩ := hl.el (k := k7) (by omega)
    refine s1 (v := (ptr gl (o12 + k7 * 3))) (rn_ie is22 rfl hA14 rfl (by omega) (by omega) rfl) ?_
    refine s1 (v := (N3.val x11)) (rn_ldN (vs := (N3.cells x11)) g28 rfl rfl el15) ?_
    refine s_alloc (cs := [(i64 0), (i64 0), (i64 0)]) z28 rfl (fun b16 w17 hb16 gb16 x18 => ?_)
    have nb16_hE : w0.heap.size ≤ b16 := Nat.le_trans hE.size gb16
    have ob16 : b4 < b16 := Nat.lt_of_lt_of_le hb4.lt gb16
    clear gb16
    replace hE := hE.step0 x18
    replace hb1 := hb1.ext0 x18
    replace hb4 := hb4.ext0 x18
    replace el15 := el15.ext0 x18
    replace hB := hB.ext0 x18
    replace hl := hl.ext0 x18
    clear x18
    refine s_st (v := (N3.val x11)) (vs := (N3.cells x11)) (cs' := (N3.cells x11)) g28.2 rfl rfl rfl rfl hb16 (by simp) rfl rfl (fun w19 h_ x20 => ?_)
    replace hE := hE.step1 x20 (by first | (left; simp; done) | (right; omega))
    replace hb1 := hb1.ext1 x20 (by omega)
    replace hb4 := hb4.ext1 x20 (by omega)
    replace el15 := el15.ext1 x20 (by omega)
    replace hB := hB.ext1 x20 (by omega)
    replace hl := hl.ext1 x20 (by omega)
    clear x20
    replace hb16 := h_; clear h_
    refine w_end ?_
    refine c_seq ?_
    refine c_dr (n := 5) [.c (ptr p 0), .c (i64 (xs.length : Int)), .c (N3.val x11), .c (.bool (validB (xs.length : Int) x11)), .c (.bool (!(validB (xs.length : Int) x11)))] rfl mixed (by kernel_rfl) ?_
    refine q_v (v := (ptr p 0)) (fun W hC => rn_mv rfl) ?_
    refine q_call e69 (v := (i64 (xs.length : Int))) (vs := [(ptr p 0)]) rfl (fun W hC => Size_c (hB.ext0 hC)) ?_
    refine q_v (v := (N3.val x11)) (fun W hC => rn_lbN (vs := (N3.cells x11)) g28 rfl (hb16.ext0 hC) rfl rfl) ?_
    refine q_call e70 (v := (.bool (validB (xs.length : Int) x11))) (vs := [(i64 (xs.length : Int)), (N3.val x11)]) rfl (fun W hC => Valid_c (xs.length : Int) x11 _) ?_
    refine q_v (v := (.bool (!(validB (xs.length : Int) x11)))) (fun W hC => rn_not (b := (validB (xs.length : Int) x11)) rfl) ?_
    refine ob_end (fun w21 x22 he23 hap24 => ?_)
    replace hE := hE.step0 x22
    replace hb1 := hb1.ext0 x22
    replace hb4 := hb4.ext0 x22
    replace hb16 := hb16.ext0 x22
    replace el15 := el15.ext0 x22
    replace hB := hB.ext0 x22
    replace hl := hl.ext0 x22
    clear x22
    refine w_end ?_
    refine c_if (b := (!(validB (xs.length : Int) x11))) rfl (fun h25 => ?_) (fun h25 => ?_)
    ·
      have h26 := not_t h25
      refine c_rs ?_
      refine s1 (v := (S4.val (S4.mk 0 0 0 0))) (bd34_ ) ?_
      refine s_st (v := (S4.val (S4.mk 0 0 0 0))) (vs := (S4.cells (S4.mk 0 0 0 0))) (cs' := (S4.cells (S4.mk 0 0 0 0))) g34.2 rfl rfl rfl rfl hb4 (by simp) rfl rfl (fun w27 h_ x28 => ?_)
      replace hE := hE.step1 x28 (by first | (left; simp; done) | (right; omega))
      replace hb1 := hb1.ext1 x28 (by omega)
      replace hb16 := hb16.ext1 x28 (by omega)
      replace el15 := el15.ext1 x28 (by omega)
      replace hB := hB.ext1 x28 (by omega)
      replace hl := hl.ext1 x28 (by omega)
      clear x28
      replace hb4 := h_; clear h_
      refine s1 (v := (i64 50)) (rn_as rfl) ?_
      refine w_end ?_
      refine c_ret ?_
      refine b_ret ?_
      refine t_ret ?_
      refine t_ret ?_
      refine b_ret ?_
      refine t_ret ?_
      refine bp_ret (rs2 rfl (rv_cN (vs := (S4.cells (S4.mk 0 0 0 0))) g34 rfl hb4 rfl rfl) (rv_tmp (v := (i64 50)) rfl)) ?_
      have ea := allV_of hx13 h26
      exact ⟨by simp only [absS, absE, ea] <;> rfl, by rw [absR, ea]; exact hB, hE⟩
    ·
      have h29 := not_f h25
      have p30 := validB_t h29
      refine c_skip' ?_
      refine b_norm ?_
      refine t_norm ?_
      refine c_r ?_
      refine s1 (v := (i64 ((k7 : Int) + 1))) (rn_add (m := (k7 : Int)) (n := 1) rfl rfl (wr64 (by omega) (by omega))) ?_
      refine s1 (v := (i64 ((k7 : Int) + 1))) (rn_mv rfl) ?_
      refine w_nil ?_
      refine t_norm ?_
      exact ⟨l.length - (k7 + 1), by omega, k7 + 1, (lk [(ptr p 0), (i64 self), (.slice A l.length c), undef, (ptr b1 0), undef, (ptr b4 0), (z_k7 7), undef, (ptr b16 0), undef, (.slice A l.length c), (i64 (l.length : Int)), (i64 ((k7 : Int) + 1)), (.bool (decide ((k7 : Int) < (l.length : Int)))), (ptr gl (o12 + k7 * 3)), (N3.val x11), (ptr p 0), (i64 (xs.length : Int)), (N3.val x11), (.bool (validB (xs.length : Int) x11)), (.bool (!(validB (xs.length : Int) x11))), (z_k7 22), (i64 ((k7 : Int) + 1)), undef, undef, undef, undef, undef, undef, undef, undef, undef, undef]), Fr_congr (by kernel_rfl), rfl, by omega, hE, hb1, hb4, hB, hl, (by rw [take_snoc hx13, allV_snoc, hall, h29]; rfl)⟩
  ·
    have p31 := of_decide_eq_false h9
    refine c_exit ?_
    refine t_exit ?_
    refine t_exit ?_
    refine b_here ?_
    refine t_norm ?_
    refine c_rs ?_
    obtain rfl : k7 = l.length := by omega
    rw [List.take_length] at hall
    refine s1 (v := (.slice A l.length c)) (rn_mv rfl) ?_
    refine s_call e72 (vs := [(.slice A l.length c)]) rfl (Values_c A l.length c) ?_
    rintro _ w33 ⟨b32, rfl, hb32, gb32, x34⟩
    have nb32_hE : w0.heap.size ≤ b32 := Nat.le_trans hE.size gb32
    have ob32 : b4 < b32 := Nat.lt_of_lt_of_le hb4.lt gb32
    clear gb32
    replace hE := hE.step0 x34
    replace hb1 := hb1.ext0 x34
    replace hb4 := hb4.ext0 x34
    replace hB := hB.ext0 x34
    replace hl := hl.ext0 x34
    clear x34
    refine s1 (v := (.func (.func 73) #[] #[(ptr b1 0)])) (rn_mf (vs := [(ptr b1 0)]) rfl) ?_
    refine s_call e71 (vs := [(.func (.func 122) #[] #[(ptr b32 0)]), (.func (.func 73) #[] #[(ptr b1 0)])]) rfl (passed_c 122 [(ptr b32 0)] 73 [(ptr b1 0)]) ?_
    rintro _ w37 ⟨b35, b36, rfl, hb35, hb36, gb35, gb36, x38⟩
    have nb35_hE : w0.heap.size ≤ b35 := Nat.le_trans hE.size gb35
    have ob35 : b32 < b35 := Nat.lt_of_lt_of_le hb32.lt gb35
    clear gb35
    have nb36_hE : w0.heap.size ≤ b36 := Nat.le_trans hE.size gb36
    have ob36 : b32 < b36 := Nat.lt_of_lt_of_le hb32.lt gb36
    clear gb36
    replace hE := hE.step0 x38
    replace hb1 := hb1.ext0 x38
    replace hb4 := hb4.ext0 x38
    replace hb32 := hb32.ext0 x38
    replace hB := hB.ext0 x38
    replace hl := hl.ext0 x38
    clear x38
    refine s1 (v := (.func (.func 121) #[] #[(ptr b35 0), (ptr b36 0)])) (rn_as rfl) ?_
    refine w_end ?_
    refine c_rs ?_
    refine s1 (v := (ptr p 0)) (rn_mv rfl) ?_
    refine s1 (v := (.func (.func 121) #[] #[(ptr b35 0), (ptr b36 0)])) (rn_mv rfl) ?_
    have hlt_hb35 := hb35.lt
    have hlt_hb36 := hb36.lt
    have hlt_hb32 := hb32.lt
    have hlt_hb1 := hb1.lt
    have hlt_hl := hl.lt (by simp)
    have hle_hl := others_le self l
    refine s_call e74 (vs := [(.func (.func 121) #[] #[(ptr b35 0), (ptr b36 0)])]) rfl (Collect_c (ys := (others self l)) e121 (fun W L hC hL hLW => passed1_it (hb35.ext0 hC) (hb36.ext0 hC) (hb32.ext0 hC) (hb1.ext0 hC) (hl.ext0 hC) (by omega) hLW (fun h_ => by have := hL _ h_; omega) (fun h_ => by have := hL _ h_; omega) (fun h_ => by have := hL _ h_; omega) (fun h_ => by have := hL _ h_; omega) (by by_cases h_ : gl ∈ L; right; have := hL _ h_; omega; left; exact h_)) (by omega)) ?_
    rintro _ w43 ⟨A39, c40, g41, rfl, hl42, gg41, x44⟩
    have dg41 := gg41.imp_left (fun q => And.intro (Nat.le_trans hE.size q) (And.intro (Nat.lt_of_lt_of_le hb1.lt q) (And.intro (Nat.lt_of_lt_of_le hb4.lt q) (And.intro (Nat.lt_of_lt_of_le hb32.lt q) (And.intro (Nat.lt_of_lt_of_le hb35.lt q) (Nat.lt_of_lt_of_le hb36.lt q))))))
    clear gg41
    replace hE := hE.step0 x44
    replace hb1 := hb1.ext0 x44
    replace hb4 := hb4.ext0 x44
    replace hb32 := hb32.ext0 x44
    replace hb35 := hb35.ext0 x44
    replace hb36 := hb36.ext0 x44
    replace hB := hB.ext0 x44
    replace hl := hl.ext0 x44
    clear x44
    have := hl42.lt (by simp)
    refine s_call e65 (vs := [(ptr p 0), (.slice A39 ((others self l).length) c40)]) rfl (Merge_c (l := (others self l)) (gl := g41) (c := c40) hB hl42 (by first | omega | (simp only [absR_len, mergeR_len, newL_len]; omega)) (by first | omega | simp) (by first | omega | simp) (by first | omega | simp)) ?_
    rintro _ w45 ⟨rfl, hB46, x47⟩
    replace hE := hE.step1 x47 (by first | (left; simp; done) | (right; omega))
    replace hb1 := hb1.ext1 x47 (by omega)
    replace hb4 := hb4.ext1 x47 (by omega)
    replace hb32 := hb32.ext1 x47 (by omega)
    replace hb35 := hb35.ext1 x47 (by omega)
    replace hb36 := hb36.ext1 x47 (by omega)
    replace hl := hl.ext1 x47 (by omega)
    replace hl42 := hl42.ext1 x47 (by omega)
    clear x47
    replace hB := hB46; clear hB46
    refine s1 (v := (S4.val (mergeS xs (others self l)))) (rn_ex (vs := [(S4.val (mergeS xs (others self l))), (i64 (mergeE xs (others self l)))]) rfl rfl) ?_
    refine s1 (v := (i64 (mergeE xs (others self l)))) (rn_ex (vs := [(S4.val (mergeS xs (others self l))), (i64 (mergeE xs (others self l)))]) rfl rfl) ?_
    refine s_st (v := (S4.val (mergeS xs (others self l)))) (vs := (S4.cells (mergeS xs (others self l)))) (cs' := (S4.cells (mergeS xs (others self l)))) g34.2 rfl rfl rfl rfl hb4 (by simp) rfl rfl (fun w48 h_ x49 => ?_)
    replace hE := hE.step1 x49 (by first | (left; simp; done) | (right; omega))
    replace hb1 := hb1.ext1 x49 (by omega)
    replace hb32 := hb32.ext1 x49 (by omega)
    replace hb35 := hb35.ext1 x49 (by omega)
    replace hb36 := hb36.ext1 x49 (by omega)
    replace hB := hB.ext1 x49 (by omega)
    replace hl := hl.ext1 x49 (by omega)
    replace hl42 := hl42.ext1 x49 (by omega)
    clear x49
    replace hb4 := h_; clear h_
    refine s1 (v := (i64 (mergeE xs (others self l)))) (rn_as rfl) ?_
    refine w_end ?_
    refine c_ret ?_
    refine bp_ret (rs2 rfl (rv_cN (vs := (S4.cells (mergeS xs (others self l)))) g34 rfl hb4 rfl rfl) (rv_tmp (v := (i64 (mergeE xs (others self l)))) rfl)) ?_
    exact ⟨by simp only [absS, absE, hall, if_true, mergeE_others hall] <;> rfl, by rw [absR, hall, if_pos rfl]; exact hB, hE⟩

theorem Above_c {p b q d : Nat} {xs ys : List N3} {w0 : World} (hB : Bk w0 p b xs) (hD : Bk w0 q d ys) (hn : xs.length ≤ 100) (hlen : xs.length = ys.length) (hg : Good xs) :
    Calls Try.prog 52 [(ptr p 0), (ptr q 0)].toArray w0 (Ret (fun v w' => ∃ A' c' g', v = .tuple #[.slice A' (aboveL xs ys).length c', i64 0] ∧ Ls N3.cells 3 w' g' A' (aboveL xs ys) ∧ (w0.heap.size ≤ g' ∨ (aboveL xs ys).length = 0) ∧ Ext [] w0 w')) := by
  have hE : Ext [] w0 w0 := (Ext.refl w0).more (by simp)
  have hltp := hB.ltp
  have hlbp := hB.ltb
  have hltq := hD.ltp
  have hlbq := hD.ltb
  refine enterM (vs := [(ptr p 0), (ptr q 0)]) Try.func52 rfl Try.ntmps52 rfl ?_
  refine c_rs ?_
  refine s_box (v := (ptr q 0)) (cs := [(ptr q 0)]) rfl rfl (fun b1 w2 hb1 gb1 x3 => ?_)
  have nb1_hE : w0.heap.size ≤ b1 := Nat.le_trans hE.size gb1
  clear gb1
  replace hE := hE.step0 x3
  replace hB := hB.ext0 x3
  replace hD := hD.ext0 x3
  clear x3
  refine s1 (v := (.slice none 0 0)) (rn_as rfl) ?_
  refine s1 (v := (i64 0)) (rn_as rfl) ?_
  refine w_end ?_
  refine c_seq ?_
  refine c_seq ?_
  refine c_dr (n := 5) [.c (ptr p 0), .c (i64 (xs.length : Int)), .c (ptr q 0), .c (i64 (ys.length : Int)), .c (.bool (decide ((xs.length : Int) ≠ (ys.length : Int))))] rfl mixed (by kernel_rfl) ?_
  refine q_v (v := (ptr p 0)) (fun W hC => rn_mv rfl) ?_
  refine q_call e69 (v := (i64 (xs.length : Int))) (vs := [(ptr p 0)]) rfl (fun W hC => Size_c (hB.ext0 hC)) ?_
  refine q_v (v := (ptr q 0)) (fun W hC => rn_lb1 o25 rfl (hb1.ext0 hC) rfl) ?_
  refine q_call e69 (v := (i64 (ys.length : Int))) (vs := [(ptr q 0)]) rfl (fun W hC => Size_c (hD.ext0 hC)) ?_
  refine q_v (v := (.bool (decide ((xs.length : Int) ≠ (ys.length : Int))))) (fun W hC => rn_neq (m := (xs.length : Int)) (n := (ys.length : Int)) rfl rfl) ?_
  refine ob_end (fun w4 x5 he6 hap7 => ?_)
  replace hE := hE.step0 x5
  replace hb1 := hb1.ext0 x5
  replace hB := hB.ext0 x5
  replace hD := hD.ext0 x5
  clear x5
  refine w_end ?_
  refine c_F (b := (decide ((xs.length : Int) ≠ (ys.length : Int)))) rfl (decide_eq_false (by omega)) ?_
  refine c_skip' ?_
  refine t_norm ?_
  refine c_rs ?_
  refine s_alloc (cs := [(.slice none 0 0)]) z22 rfl (fun b8 w9 hb8 gb8 x10 => ?_)
  have nb8_hE : w0.heap.size ≤ b8 := Nat.le_trans hE.size gb8
  have ob8 : b1 < b8 := Nat.lt_of_lt_of_le hb1.lt gb8
  clear gb8
  replace hE := hE.step0 x10
  replace hb1 := hb1.ext0 x10
  replace hB := hB.ext0 x10
  replace hD := hD.ext0 x10
  clear x10
  refine w_end ?_
  refine c_seq ?_
  refine c_rs ?_
  refine s1 (v := (ptr p 0)) (rn_mv rfl) ?_
  refine s_call e104 (vs := [(ptr p 0)]) rfl (All_c hB (by first | omega | (simp only [absR_len, mergeR_len, newL_len]; omega))) ?_
  rintro _ w16 ⟨b15, A11, c12, g13, rfl, hb15, hl14, gb15, gg13, x17⟩
  have nb15_hE : w0.heap.size ≤ b15 := Nat.le_trans hE.size gb15
  have ob15 : b8 < b15 := Nat.lt_of_lt_of_le hb8.lt gb15
  clear gb15
  have dg13 := gg13.imp_left (fun q => And.intro (Nat.le_trans hE.size q) (And.intro (Nat.lt_of_lt_of_le hb1.lt q) (Nat.lt_of_lt_of_le hb8.lt q)))
  clear gg13
  replace hE := hE.step0 x17
  replace hb1 := hb1.ext0 x17
  replace hb8 := hb8.ext0 x17
  replace hB := hB.ext0 x17
  replace hD := hD.ext0 x17
  clear x17
  refine w_end ?_
  refine c_block ?_
  have hO : Ow w16.heap.size 28 N3.cells 3 w16 (.slice none 0 0) [] := Ow.nil
  have hNw20 := hE.size
  have hq1_b15 := hb15.lt
  have hq2_b15 := hl14.lt (by simp)
  refine c_range (gf := 140) (n := xs.length) (arg := (argN xs)) (L := [b8]) (lb := [(ptr b15 0)]) rfl e140 (fun W hC => All1_it (hb15.ext0 hC) (hl14.ext0 hC) (by omega) (by simp only [List.mem_cons, List.not_mem_nil, or_false]; omega) (by simp only [List.mem_cons, List.not_mem_nil, or_false]; omega)) (by simp; try omega) (fun k18 S W => ∃ (v19 : Value) , S = obl v19 ∧ Ext [] w0 W ∧ Blk W b1 25 [(ptr q 0)] ∧ Blk W b8 22 [v19] ∧ Blk W b15 22 [(.slice A11 xs.length c12)] ∧ Bk W p b xs ∧ Bk W q d ys ∧ Ls N3.cells 3 W g13 A11 xs ∧ Ow w16.heap.size 28 N3.cells 3 W v19 (aboveL (xs.take k18) ys)) ⟨(.slice none 0 0), rfl, hE, hb1, hb8, hb15, hB, hD, hl14, hO⟩ (fun k18 S A B ⟨v19, hSe, hE, hb1, hb8, hb15, hB, hD, hl14, hO⟩ hI => ⟨v19, hSe, hE.its hI (by omega), hb1.its hI, hb8.its hI, hb15.its hI, hB.its hI, hD.its hI, hl14.its hI, hO.its hI⟩) ?_ ?_
  · skip
    clear hE
    clear hb1
    clear hb8
    clear hb15
    clear hB
    clear hD
    clear hl14
    clear hO
    rintro lp k18 S w21 hk22 ⟨v19, rfl, hE, hb1, hb8, hb15, hB, hD, hl14, hO⟩ hA23 hSN24
    have hbdk18 := filt_le (fun x => beats x (ys[x.of.toNat]?.getD default)) xs k18; change (aboveL (xs.take k18) ys).length ≤ _ at hbdk18
    obtain ⟨x25, hx26⟩ : ∃ x, (xs)[k18]? = some x := ⟨_, List.getElem?_eq_getElem hk22⟩
    rw [argN_eq hx26]
    have hgkk18 := (hg.2 _ _ hx26).1
    have hEA27 := Ext.refl w21
    refine c_r ?_
    refine s_alloc (cs := [(i64 0), (i64 0), (i64 0)]) z28 rfl (fun b28 w29 hb28 gb28 x30 => ?_)
    have nb28_hE : w0.heap.size ≤ b28 := Nat.le_trans hE.size gb28
    have nb28_hEA27 : w21.heap.size ≤ b28 := Nat.le_trans hEA27.size gb28
    have ob28 : b15 < b28 := Nat.lt_of_lt_of_le hb15.lt gb28
    replace dg13 := orAnd dg13 ((hl14.lt (by simp)).imp_left (fun q => Nat.lt_of_lt_of_le q gb28))
    have obb28_hO : ∀ c ∈ obl v19, c < b28 := fun c hc => Nat.lt_of_lt_of_le (hO.lt c hc).2 gb28
    clear gb28
    replace hE := hE.step0 x30
    replace hEA27 := hEA27.step0 x30
    replace hb1 := hb1.ext0 x30
    replace hb8 := hb8.ext0 x30
    replace hb15 := hb15.ext0 x30
    replace hB := hB.ext0 x30
    replace hD := hD.ext0 x30
    replace hl14 := hl14.ext0 x30
    replace hO := hO.ext0 x30
    clear x30
    refine s_st (v := (N3.val x25)) (vs := (N3.cells x25)) (cs' := (N3.cells x25)) g28.2 rfl rfl rfl rfl hb28 (by simp) rfl rfl (fun w31 h_ x32 => ?_)
    replace hE := hE.step1 x32 (by first | (left; simp; done) | (right; omega))
    replace hEA27 := hEA27.step1 x32 (by first | (left; simp; done) | (right; omega))
    replace hb1 := hb1.ext1 x32 (by omega)
    replace hb8 := hb8.ext1 x32 (by omega)
    replace hb15 := hb15.ext1 x32 (by omega)
    replace hB := hB.ext1 x32 (by omega)
    replace hD := hD.ext1 x32 (by omega)
    replace hl14 := hl14.ext1 x32 (by omega)
    replace hO := hO.ext x32 (fun c hc => by have h_ := hO.lt c hc; have := obb28_hO c hc; simp; omega)
    clear x32
    replace hb28 := h_; clear h_
    refine w_nil ?_
    refine t_norm ⟨hEA27, fun w33 hI34 => ?_⟩
    have hszw33 := hEA27.size
    have hsyw33 := hI34.size
    replace hE := hE.its hI34 (by omega)
    replace hb1 := hb1.its hI34
    replace hb8 := hb8.its hI34
    replace hb15 := hb15.its hI34
    replace hb28 := hb28.its hI34
    replace hB := hB.its hI34
    replace hD := hD.its hI34
    replace hl14 := hl14.its hI34
    replace hO := hO.its hI34
    have hR35 : Ext ([b8] ++ obl v19) w33 w33 := (Ext.refl w33).more (by simp)
    have hQ36 : ∀ c ∈ ([b8] ++ obl v19 : List Nat), ((∃ cs e z, w33.heap[c]? = some (Obj.cells cs e z)) ∨ w33.heap.size ≤ c) ∧ (c ∈ ([b8] : List Nat) ∨ c ∈ (obl v19 : List Nat) ∨ w33.heap.size ≤ c) := by
      intro c hc
      rcases List.mem_append.1 hc with hc | hc
      · simp at hc; subst hc; exact ⟨.inl hb8.cellsAt, .inl (by simp)⟩
      · exact ⟨.inl (hO.cellsAt c hc), .inr (.inl hc)⟩
    refine c_block ?_
    refine c_rs ?_
    refine s1 (v := (ptr q 0)) (rn_lb1 o25 rfl hb1 rfl) ?_
    refine s1 (v := (ptr b28 0)) (rn_fa fa28_0 rfl rfl) ?_
    refine s1 (v := (i64 x25.of)) (rn_lb1 o3 rfl hb28 rfl) ?_
    refine s_callP e22 (v := (.tuple #[(N3.val (ys[(x25.of).toNat]?.getD default)), (i64 0)])) (vs := [(ptr q 0), (i64 x25.of)]) rfl (At_c hD x25.of (by first | omega | (simp only [absR_len, mergeR_len, newL_len]; omega)) (by first | omega | (simp only [absR_len, mergeR_len, newL_len]; omega))) (fun w37 x38 => ?_)
    replace hE := hE.step0 x38
    replace hR35 := hR35.step0 x38
    replace hb1 := hb1.ext0 x38
    replace hb8 := hb8.ext0 x38
    replace hb15 := hb15.ext0 x38
    replace hb28 := hb28.ext0 x38
    replace hB := hB.ext0 x38
    replace hD := hD.ext0 x38
    replace hl14 := hl14.ext0 x38
    replace hO := hO.ext0 x38
    clear x38
    refine s1 (v := (.tuple #[(N3.val (ys[(x25.of).toNat]?.getD default)), (i64 0)])) (rn_mv rfl) ?_
    refine s1 (v := (N3.val (ys[(x25.of).toNat]?.getD default))) (rn_ex (vs := [(N3.val (ys[(x25.of).toNat]?.getD default)), (i64 0)]) rfl rfl) ?_
    refine s1 (v := (i64 0)) (rn_ex (vs := [(N3.val (ys[(x25.of).toNat]?.getD default)), (i64 0)]) rfl rfl) ?_
    refine s_alloc (cs := [(i64 0), (i64 0), (i64 0)]) z28 rfl (fun b39 w40 hb39 gb39 x41 => ?_)
    have nb39_hE : w0.heap.size ≤ b39 := Nat.le_trans hE.size gb39
    have nb39_hR35 : w33.heap.size ≤ b39 := Nat.le_trans hR35.size gb39
    have ob39 : b28 < b39 := Nat.lt_of_lt_of_le hb28.lt gb39
    replace dg13 := orAnd dg13 ((hl14.lt (by simp)).imp_left (fun q => Nat.lt_of_lt_of_le q gb39))
    have obb39_hO : ∀ c ∈ obl v19, c < b39 := fun c hc => Nat.lt_of_lt_of_le (hO.lt c hc).2 gb39
    clear gb39
    replace hE := hE.step0 x41
    replace hR35 := hR35.step0 x41
    replace hb1 := hb1.ext0 x41
    replace hb8 := hb8.ext0 x41
    replace hb15 := hb15.ext0 x41
    replace hb28 := hb28.ext0 x41
    replace hB := hB.ext0 x41
    replace hD := hD.ext0 x41
    replace hl14 := hl14.ext0 x41
    replace hO := hO.ext0 x41
    clear x41
    refine s_st (v := (N3.val (ys[(x25.of).toNat]?.getD default))) (vs := (N3.cells (ys[(x25.of).toNat]?.getD default))) (cs' := (N3.cells (ys[(x25.of).toNat]?.getD default))) g28.2 rfl rfl rfl rfl hb39 (by simp) rfl rfl (fun w42 h_ x43 => ?_)
    replace hE := hE.step1 x43 (by first | (left; simp; done) | (right; omega))
    replace hR35 := hR35.step1 x43 (by first | (left; simp; done) | (right; omega))
    replace hb1 := hb1.ext1 x43 (by omega)
    replace hb8 := hb8.ext1 x43 (by omega)
    replace hb15 := hb15.ext1 x43 (by omega)
    replace hb28 := hb28.ext1 x43 (by omega)
    replace hB := hB.ext1 x43 (by omega)
    replace hD := hD.ext1 x43 (by omega)
    replace hl14 := hl14.ext1 x43 (by omega)
    replace hO := hO.ext x43 (fun c hc => by have h_ := hO.lt c hc; have := obb28_hO c hc; have := obb39_hO c hc; simp; omega)
    clear x43
    replace hb39 := h_; clear h_
    refine s1 (v := (i64 0)) (rn_as rfl) ?_
    refine w_end ?_
    refine c_rs ?_
    refine s1 (v := (N3.val x25)) (rn_lbN (vs := (N3.cells x25)) g28 rfl hb28 rfl rfl) ?_
    refine s1 (v := (N3.val (ys[(x25.of).toNat]?.getD default))) (rn_lbN (vs := (N3.cells (ys[(x25.of).toNat]?.getD default))) g28 rfl hb39 rfl rfl) ?_
    refine s_callP e24 (v := (.bool (beats x25 (ys[(x25.of).toNat]?.getD default)))) (vs := [(N3.val x25), (N3.val (ys[(x25.of).toNat]?.getD default))]) rfl (Beats_c x25 (ys[(x25.of).toNat]?.getD default) _) (fun w44 x45 => ?_)
    replace hE := hE.step0 x45
    replace hR35 := hR35.step0 x45
    replace hb1 := hb1.ext0 x45
    replace hb8 := hb8.ext0 x45
    replace hb15 := hb15.ext0 x45
    replace hb28 := hb28.ext0 x45
    replace hb39 := hb39.ext0 x45
    replace hB := hB.ext0 x45
    replace hD := hD.ext0 x45
    replace hl14 := hl14.ext0 x45
    replace hO := hO.ext0 x45
    clear x45
    refine w_end ?_
    refine c_if (b := (beats x25 (ys[(x25.of).toNat]?.getD default))) rfl (fun h46 => ?_) (fun h46 => ?_)
    ·
      refine c_r ?_
      refine s1 (v := v19) (rn_lb1 o22 rfl hb8 rfl) ?_
      refine s1 (v := (N3.val x25)) (rn_lbN (vs := (N3.cells x25)) g28 rfl hb28 rfl rfl) ?_
      refine s_bs et22 (vs := #[(0, (N3.val x25))]) (cs := [(i64 x25.of), (i64 x25.tag), (i64 x25.kind)]) (by kernel_rfl) (by decide) (by kernel_rfl) (fun b47 w48 hb47 gb47 x49 => ?_)
      have nb47_hE : w0.heap.size ≤ b47 := Nat.le_trans hE.size gb47
      have nb47_hR35 : w33.heap.size ≤ b47 := Nat.le_trans hR35.size gb47
      have ob47 : b39 < b47 := Nat.lt_of_lt_of_le hb39.lt gb47
      replace dg13 := orAnd dg13 ((hl14.lt (by simp)).imp_left (fun q => Nat.lt_of_lt_of_le q gb47))
      have obb47_hO : ∀ c ∈ obl v19, c < b47 := fun c hc => Nat.lt_of_lt_of_le (hO.lt c hc).2 gb47
      clear gb47
      replace hE := hE.step0 x49
      replace hR35 := hR35.step0 x49
      replace hb1 := hb1.ext0 x49
      replace hb8 := hb8.ext0 x49
      replace hb15 := hb15.ext0 x49
      replace hb28 := hb28.ext0 x49
      replace hb39 := hb39.ext0 x49
      replace hB := hB.ext0 x49
      replace hD := hD.ext0 x49
      replace hl14 := hl14.ext0 x49
      replace hO := hO.ext0 x49
      clear x49
      have hl50 : Ls N3.cells 3 w48 b47 (some ⟨b47, 0, none⟩) [x25] := Ls.of_blk (rest := []) (fun _ => rfl) hb47
      refine s_app (ys := [x25]) et22 (fun _ => rfl) (fun _ => rfl) hO (by have h_ := hR35.size; omega) rfl rfl hl50 (by simp only [List.length_cons, List.length_nil]; omega) (by simp only [List.length_cons, List.length_nil]; omega) (fun v51 w52 hO54 x53 hVv51 => ?_)
      have hVsv51 := hR35.size
      clear hb28
      clear hb39
      clear hb47
      clear hl50
      replace hE := hE.step x53 (fun c hc => by first | (left; simp [hc]; done) | (right; have h_ := hO.lt c hc; have := obb28_hO c hc; have := obb39_hO c hc; have := obb47_hO c hc; omega))
      replace hR35 := hR35.step x53 (fun c hc => by first | (left; simp [hc]; done) | (right; have h_ := hO.lt c hc; have := obb28_hO c hc; have := obb39_hO c hc; have := obb47_hO c hc; omega))
      replace hb1 := hb1.ext x53 (fun hc => by have h_ := hO.lt _ hc; have := obb28_hO _ hc; have := obb39_hO _ hc; have := obb47_hO _ hc; omega)
      replace hb8 := hb8.ext x53 (fun hc => by have h_ := hO.lt _ hc; have := obb28_hO _ hc; have := obb39_hO _ hc; have := obb47_hO _ hc; omega)
      replace hb15 := hb15.ext x53 (fun hc => by have h_ := hO.lt _ hc; have := obb28_hO _ hc; have := obb39_hO _ hc; have := obb47_hO _ hc; omega)
      replace hB := hB.ext x53 (fun hc => by have h_ := hO.lt _ hc; have := obb28_hO _ hc; have := obb39_hO _ hc; have := obb47_hO _ hc; omega) (fun hc => by have h_ := hO.lt _ hc; have := obb28_hO _ hc; have := obb39_hO _ hc; have := obb47_hO _ hc; omega)
      replace hD := hD.ext x53 (fun hc => by have h_ := hO.lt _ hc; have := obb28_hO _ hc; have := obb39_hO _ hc; have := obb47_hO _ hc; omega) (fun hc => by have h_ := hO.lt _ hc; have := obb28_hO _ hc; have := obb39_hO _ hc; have := obb47_hO _ hc; omega)
      replace hl14 := hl14.ext x53 (fun hc => by have h_ := hO.lt _ hc; have := obb28_hO _ hc; have := obb39_hO _ hc; have := obb47_hO _ hc; omega)
      clear x53
      replace hO := hO54; clear hO54
      refine s_st (v := v51) (vs := [v51]) (cs' := [v51]) o22.2 rfl rfl hO.cell1 rfl hb8 (by simp) hO.one rfl (fun w55 h_ x56 => ?_)
      replace hE := hE.step1 x56 (by first | (left; simp; done) | (right; omega))
      replace hR35 := hR35.step1 x56 (by first | (left; simp; done) | (right; omega))
      replace hb1 := hb1.ext1 x56 (by omega)
      replace hb15 := hb15.ext1 x56 (by omega)
      replace hB := hB.ext1 x56 (by omega)
      replace hD := hD.ext1 x56 (by omega)
      replace hl14 := hl14.ext1 x56 (by omega)
      replace hO := hO.ext x56 (fun c hc => by have h_ := hO.lt c hc; simp; omega)
      clear x56
      replace hb8 := h_; clear h_
      refine w_nil ?_
      refine b_norm ?_
      have en : aboveL (xs.take (k18 + 1)) ys = aboveL (xs.take k18) ys ++ [x25] := by unfold aboveL; rw [take_snoc hx26, filt_snoc, if_pos h46]
      rw [← en] at hO
      exact ⟨obl v51, ⟨v51, rfl, hE, hb1, hb8, hb15, hB, hD, hl14, hO⟩, Rnd.of_ext hR35 hQ36, (fun c hc => (hVv51 c hc).imp_right (fun q => Nat.le_trans hVsv51 q))⟩
    ·
      refine c_skip' ?_
      refine b_norm ?_
      have en : aboveL (xs.take (k18 + 1)) ys = aboveL (xs.take k18) ys := by unfold aboveL; rw [take_snoc hx26, filt_snoc, if_neg (by rw [h46]; decide)]
      rw [← en] at hO
      exact ⟨obl v19, ⟨v19, rfl, hE, hb1, hb8, hb15, hB, hD, hl14, hO⟩, Rnd.of_ext hR35 hQ36, fun c hc => .inl hc⟩
  · skip
    clear hE
    clear hb1
    clear hb8
    clear hb15
    clear hB
    clear hD
    clear hl14
    clear hO
    rintro D58 w57 S ⟨v62, rfl, hE, hb1, hb8, hb15, hB, hD, hl14, hO⟩ hD59 hK60 hSN61
    change Dfr w57 D58 at hK60
    refine b_norm ?_
    refine t_norm ?_
    refine c_rs ?_
    refine s1 (v := v62) (rn_lb1 o22 rfl hb8 rfl) ?_
    refine s1 (v := v62) (rn_as rfl) ?_
    refine s1 (v := (i64 0)) (rn_as rfl) ?_
    refine w_end ?_
    refine c_ret ?_
    refine bpm_ret hK60 (fun w63 hI64 => ?_)
    replace hE := hE.its hI64 (by omega)
    replace hb1 := hb1.its hI64
    replace hb8 := hb8.its hI64
    replace hb15 := hb15.its hI64
    replace hB := hB.its hI64
    replace hD := hD.its hI64
    replace hl14 := hl14.its hI64
    replace hO := hO.its hI64
    refine ⟨_, rs2 rfl (rv_tmp (v := v62) rfl) (rv_tmp (v := (i64 0)) rfl), ?_⟩
    simp only [List.take_length] at hO
    obtain ⟨A', c', g', rfl, h1, h2⟩ := Ow.ls (cf := N3.cells) (s := 3) (fun _ => rfl) hO
    exact ⟨A', c', g', rfl, h1, by omega, hE⟩

theorem best_c {gi : FuncId} {lb : List Value} {ys : List N3} {w0 : World} (hgi : Ent Try.prog gi) (hit : ∀ W L, Ext [] w0 W → (∀ c ∈ L, w0.heap.size ≤ c) → (∀ c ∈ L, c < W.heap.size) → Iter Try.prog gi lb ys.length (argN ys) W L) (hn : ys.length ≤ 1000000) (x : N3) :
    Calls Try.prog 106 [(.func (.func gi) #[] lb.toArray), (N3.val x), (.func (.func 24) #[] #[])].toArray w0 (Ret (Pu (N3.val (maxs x ys)) w0)) := by
  have hE : Ext [] w0 w0 := (Ext.refl w0).more (by simp)
  refine enterM (vs := [(.func (.func gi) #[] lb.toArray), (N3.val x), (.func (.func 24) #[] #[])]) Try.func106 rfl Try.ntmps106 rfl ?_
  refine c_rs ?_
  refine s_box (v := (N3.val x)) (cs := (N3.cells x)) rfl rfl (fun b1 w2 hb1 gb1 x3 => ?_)
  have nb1_hE : w0.heap.size ≤ b1 := Nat.le_trans hE.size gb1
  clear gb1
  replace hE := hE.step0 x3
  clear x3
  refine s_box (v := (.func (.func 24) #[] #[])) (cs := [(.func (.func 24) #[] #[])]) rfl rfl (fun b4 w5 hb4 gb4 x6 => ?_)
  have nb4_hE : w0.heap.size ≤ b4 := Nat.le_trans hE.size gb4
  have ob4 : b1 < b4 := Nat.lt_of_lt_of_le hb1.lt gb4
  clear gb4
  replace hE := hE.step0 x6
  replace hb1 := hb1.ext0 x6
  clear x6
  refine s_alloc (cs := [(i64 0), (i64 0), (i64 0)]) z28 rfl (fun b7 w8 hb7 gb7 x9 => ?_)
  have nb7_hE : w0.heap.size ≤ b7 := Nat.le_trans hE.size gb7
  have ob7 : b4 < b7 := Nat.lt_of_lt_of_le hb4.lt gb7
  clear gb7
  replace hE := hE.step0 x9
  replace hb1 := hb1.ext0 x9
  replace hb4 := hb4.ext0 x9
  clear x9
  refine w_end ?_
  refine c_seq ?_
  refine c_rs ?_
  refine s1 (v := (.func (.func gi) #[] lb.toArray)) (rn_mv rfl) ?_
  refine w_end ?_
  refine c_block ?_
  have hNw11 := hE.size
  have hbl := hb1.lt
  refine c_range (gf := gi) (n := ys.length) (arg := (argN ys)) (L := [b1]) (lb := lb) rfl hgi (fun W hC => hit W [b1] (hE.step0 hC) (by simp; omega) (by have := hC.size; simp; omega)) (by simp; try omega) (fun k10 S W => S = [] ∧ Ext [] w0 W ∧ Blk W b1 28 (N3.cells (maxs x (ys.take k10))) ∧ Blk W b4 37 [(.func (.func 24) #[] #[])] ∧ Blk W b7 28 [(i64 0), (i64 0), (i64 0)]) ⟨rfl, hE, hb1, hb4, hb7⟩ (fun k10 S A B ⟨hSe, hE, hb1, hb4, hb7⟩ hI => ⟨hSe, hE.its hI (by omega), hb1.its hI, hb4.its hI, hb7.its hI⟩) ?_ ?_
  · skip
    clear hE
    clear hb1
    clear hb4
    clear hb7
    rintro lp k10 S w12 hk13 ⟨rfl, hE, hb1, hb4, hb7⟩ hA14 hSN15
    obtain ⟨x16, hx17⟩ : ∃ x, (ys)[k10]? = some x := ⟨_, List.getElem?_eq_getElem hk13⟩
    rw [argN_eq hx17]
    have hEA18 := Ext.refl w12
    refine c_r ?_
    refine s_alloc (cs := [(i64 0), (i64 0), (i64 0)]) z28 rfl (fun b19 w20 hb19 gb19 x21 => ?_)
    have nb19_hE : w0.heap.size ≤ b19 := Nat.le_trans hE.size gb19
    have nb19_hEA18 : w12.heap.size ≤ b19 := Nat.le_trans hEA18.size gb19
    have ob19 : b7 < b19 := Nat.lt_of_lt_of_le hb7.lt gb19
    clear gb19
    replace hE := hE.step0 x21
    replace hEA18 := hEA18.step0 x21
    replace hb1 := hb1.ext0 x21
    replace hb4 := hb4.ext0 x21
    replace hb7 := hb7.ext0 x21
    clear x21
    refine s_st (v := (N3.val x16)) (vs := (N3.cells x16)) (cs' := (N3.cells x16)) g28.2 rfl rfl rfl rfl hb19 (by simp) rfl rfl (fun w22 h_ x23 => ?_)
    replace hE := hE.step1 x23 (by first | (left; simp; done) | (right; omega))
    replace hEA18 := hEA18.step1 x23 (by first | (left; simp; done) | (right; omega))
    replace hb1 := hb1.ext1 x23 (by omega)
    replace hb4 := hb4.ext1 x23 (by omega)
    replace hb7 := hb7.ext1 x23 (by omega)
    clear x23
    replace hb19 := h_; clear h_
    refine w_nil ?_
    refine t_norm ⟨hEA18, fun w24 hI25 => ?_⟩
    have hszw24 := hEA18.size
    have hsyw24 := hI25.size
    replace hE := hE.its hI25 (by omega)
    replace hb1 := hb1.its hI25
    replace hb4 := hb4.its hI25
    replace hb7 := hb7.its hI25
    replace hb19 := hb19.its hI25
    have hR26 : Ext ([b1]) w24 w24 := (Ext.refl w24).more (by simp)
    have hQ27 : ∀ c ∈ ([b1] : List Nat), ((∃ cs e z, w24.heap[c]? = some (Obj.cells cs e z)) ∨ w24.heap.size ≤ c) ∧ (c ∈ ([b1] : List Nat) ∨ c ∈ ([] : List Nat) ∨ w24.heap.size ≤ c) := by
      intro c hc
      simp at hc; subst hc; exact ⟨.inl hb1.cellsAt, .inl (by simp)⟩
    refine c_block ?_
    refine c_rs ?_
    refine s1 (v := (.func (.func 24) #[] #[])) (rn_lb1 o37 rfl hb4 rfl) ?_
    refine s1 (v := (N3.val x16)) (rn_lbN (vs := (N3.cells x16)) g28 rfl hb19 rfl rfl) ?_
    refine s1 (v := (N3.val (maxs x (ys.take k10)))) (rn_lbN (vs := (N3.cells (maxs x (ys.take k10)))) g28 rfl hb1 rfl rfl) ?_
    refine s_callvP e24 (v := (.bool (beats x16 (maxs x (ys.take k10))))) (vs := [(N3.val x16), (N3.val (maxs x (ys.take k10)))]) (ws := []) rfl rfl (Beats_c x16 (maxs x (ys.take k10)) _) (fun w28 x29 => ?_)
    replace hE := hE.step0 x29
    replace hR26 := hR26.step0 x29
    replace hb1 := hb1.ext0 x29
    replace hb4 := hb4.ext0 x29
    replace hb7 := hb7.ext0 x29
    replace hb19 := hb19.ext0 x29
    clear x29
    refine w_end ?_
    refine c_if (b := (beats x16 (maxs x (ys.take k10)))) rfl (fun h30 => ?_) (fun h30 => ?_)
    ·
      refine c_r ?_
      refine s1 (v := (N3.val x16)) (rn_lbN (vs := (N3.cells x16)) g28 rfl hb19 rfl rfl) ?_
      refine s_st (v := (N3.val x16)) (vs := (N3.cells x16)) (cs' := (N3.cells x16)) g28.2 rfl rfl rfl rfl hb1 (by simp) rfl rfl (fun w31 h_ x32 => ?_)
      replace hE := hE.step1 x32 (by first | (left; simp; done) | (right; omega))
      replace hR26 := hR26.step1 x32 (by first | (left; simp; done) | (right; omega))
      replace hb4 := hb4.ext1 x32 (by omega)
      replace hb7 := hb7.ext1 x32 (by omega)
      replace hb19 := hb19.ext1 x32 (by omega)
      clear x32
      replace hb1 := h_; clear h_
      refine w_nil ?_
      refine b_norm ?_
      have en : maxs x (ys.take (k10 + 1)) = x16 := by rw [take_snoc hx17, maxs_snoc, maxN, if_pos h30]
      rw [← en] at hb1
      exact ⟨[], ⟨rfl, hE, hb1, hb4, hb7⟩, Rnd.of_ext hR26 hQ27, fun c hc => .inl hc⟩
    ·
      refine c_skip' ?_
      refine b_norm ?_
      have en : maxs x (ys.take (k10 + 1)) = maxs x (ys.take k10) := by rw [take_snoc hx17, maxs_snoc, maxN, if_neg (by rw [h30]; decide)]
      rw [← en] at hb1
      exact ⟨[], ⟨rfl, hE, hb1, hb4, hb7⟩, Rnd.of_ext hR26 hQ27, fun c hc => .inl hc⟩
  · skip
    clear hE
    clear hb1
    clear hb4
    clear hb7
    rintro D34 w33 S ⟨rfl, hE, hb1, hb4, hb7⟩ hD35 hK36 hSN37
    change Dfr w33 D34 at hK36
    refine b_norm ?_
    refine t_norm ?_
    refine c_rs ?_
    refine s1 (v := (N3.val (maxs x (ys.take ys.length)))) (rn_lbN (vs := (N3.cells (maxs x (ys.take ys.length)))) g28 rfl hb1 rfl rfl) ?_
    refine s_st (v := (N3.val (maxs x (ys.take ys.length)))) (vs := (N3.cells (maxs x (ys.take ys.length)))) (cs' := (N3.cells (maxs x (ys.take ys.length)))) g28.2 rfl rfl rfl rfl hb7 (by simp) rfl rfl (fun w38 h_ x39 => ?_)
    replace hE := hE.step1 x39 (by first | (left; simp; done) | (right; omega))
    replace hb1 := hb1.ext1 x39 (by omega)
    replace hb4 := hb4.ext1 x39 (by omega)
    replace hK36 := hK36.ext1 hb7 x39
    clear x39
    replace hb7 := h_; clear h_
    refine w_end ?_
    refine c_ret ?_
    refine bpm_ret hK36 (fun w40 hI41 => ?_)
    replace hE := hE.its hI41 (by omega)
    replace hb1 := hb1.its hI41
    replace hb4 := hb4.its hI41
    replace hb7 := hb7.its hI41
    refine ⟨_, rs1 rfl (rv_cN (vs := (N3.cells (maxs x (ys.take ys.length)))) g28 rfl hb7 rfl rfl), ?_⟩
    exact ⟨by rw [List.take_length], hE⟩

theorem Level1_it {q1 q7 gq c : Nat} {A : Option Addr} {qs : List Bok} {x : N3} {W : World} {L : List Nat} (h1 : Blk W q1 93 [.slice A qs.length c]) (h7 : Blk W q7 28 (N3.cells x)) (hq : Ls Bok.cells 1 W gq A qs) (hBs : Bks W qs) (hqs : qs.length ≤ 1000) (hx0 : 0 ≤ x.of) (hxl : ∀ q ∈ qs, x.of < q.xs.length)
    (l1 : q1 ∉ L) (l7 : q7 ∉ L) (lg : gq ∉ L ∨ qs.length = 0) (lb : ∀ q ∈ qs, q.p ∉ L ∧ q.b ∉ L) :
    Iter Try.prog 105 [ptr q1 0, ptr q7 0] (qs.map (fun q => q.at x.of.toNat)).length (argN (qs.map (fun q => q.at x.of.toNat))) W L := by
  intro l J hlp hJ hy h0
  rw [List.length_map] at hy ⊢
  have hE : Ext [] W W := (Ext.refl W).more (by simp)
  obtain ⟨lq, hlq⟩ := hlp
  have ne1 := h1.ne_loop hlq
  have ne7 := h7.ne_loop hlq
  have neg := hq.ne_loop (by simp) hlq
  have neb : ∀ q ∈ qs, q.p ≠ l ∧ q.b ≠ l := fun q hq_ => (hBs q hq_).ne_loop hlq
  have hw1 := h1.lt
  have hw7 := h7.lt
  have hgW := hq.lt (by simp)
  have hltb := hBs.lt
  refine enter (vs := [(.func (.yield l) #[] #[]), (ptr q1 0), (ptr q7 0)]) Try.func105 rfl Try.ntmps105 rfl ?_
  refine c_rs ?_
  refine s1 (v := (.slice A qs.length c)) (rn_lb1 o93 rfl h1 rfl) ?_
  refine s1 (v := (i64 (qs.length : Int))) (rn_len is93 rfl) ?_
  refine s1 (v := (i64 0)) (rn_mv rfl) ?_
  refine w_end ?_
  refine c_block ?_
  have hsW : W.heap.size ≤ W.heap.size := Nat.le_refl _
  have hj := h0
  have hS : ∀ c ∈ ([] : List Nat), W.heap.size ≤ c := by simp
  refine c_loop (fun d a w => ∃ (k1 : Nat) (S2 : List Nat) (z_k1 : Nat → Value) , a = Fr 26 (lk [(.func (.yield l) #[] #[]), (ptr q1 0), (ptr q7 0), undef, undef, (z_k1 5), (z_k1 6), (z_k1 7), (.slice A qs.length c), (i64 (qs.length : Int)), (i64 (k1 : Int)), (z_k1 11), (z_k1 12), (z_k1 13), (z_k1 14), (z_k1 15), (z_k1 16), (z_k1 17), (z_k1 18), (z_k1 19), (z_k1 20), (z_k1 21), (z_k1 22), (z_k1 23), (z_k1 24), (z_k1 25)]) [] ∧ d = qs.length - k1 ∧ k1 ≤ qs.length ∧ Blk w q1 93 [(.slice A qs.length c)] ∧ Blk w q7 28 (N3.cells x) ∧ Ls Bok.cells 1 w gq A qs ∧ Bks w qs ∧ J k1 S2 w ∧ W.heap.size ≤ w.heap.size ∧ ∀ c ∈ S2, W.heap.size ≤ c) (qs.length - 0) ?_ ?_
  · exact ⟨0, [], (lk [(.func (.yield l) #[] #[]), (ptr q1 0), (ptr q7 0), undef, undef, undef, undef, undef, (.slice A qs.length c), (i64 (qs.length : Int)), (i64 0), undef, undef, undef, undef, undef, undef, undef, undef, undef, undef, undef, undef, undef, undef, undef]), Fr_congr (by kernel_rfl), rfl, Nat.zero_le _, h1, h7, hq, hBs, hj, hsW, hS⟩
  clear h1
  clear h7
  clear hq
  clear hBs
  clear hj
  clear hsW
  clear hS
  rintro d a w3 ⟨k1, S2, z_k1, rfl, rfl, hlek1, h1, h7, hq, hBs, hj, hsW, hS⟩
  have hEAk1 := Ext.refl w3
  have hswk1 : W.heap.size ≤ w3.heap.size := hsW
  have hSk1 := hS
  refine c_rs ?_
  refine s1 (v := (.bool (decide ((k1 : Int) < (qs.length : Int))))) (rn_lss (m := (k1 : Int)) (n := (qs.length : Int)) rfl rfl) ?_
  refine w_end ?_
  refine c_seq ?_
  refine c_if (b := (decide ((k1 : Int) < (qs.length : Int)))) rfl (fun h4 => ?_) (fun h4 => ?_)
  ·
    have p5 := of_decide_eq_true h4
    refine c_skip' ?_
    refine t_norm ?_
    refine c_seq ?_
    refine c_block ?_
    refine c_rs ?_
    obtain ⟨x6, o7, hx8, hA9, el10⟩ := hq.el (k := k1) (by omega)
    refine s1 (v := (ptr gq (o7 + k1 * 1))) (rn_ie is93 rfl hA9 rfl (by omega) (by omega) rfl) ?_
    refine s1 (v := (ptr x6.p 0)) (rn_ld1 o25 rfl (el10 0 _ rfl)) ?_
    refine s1 (v := (ptr x6.p 0)) (rn_as rfl) ?_
    refine w_end ?_
    refine c_rs ?_
    have hxXx6 := hxl x6 (List.mem_of_getElem? hx8)
    have hbXx6 := hltb x6 (List.mem_of_getElem? hx8)
    refine s1 (v := (ptr x6.p 0)) (rn_mv rfl) ?_
    refine s1 (v := (ptr q7 0)) (rn_fa fa28_0 rfl rfl) ?_
    refine s1 (v := (i64 x.of)) (rn_lb1 o3 rfl h7 rfl) ?_
    refine s_callP e22 (v := (.tuple #[(N3.val (x6.xs[(x.of).toNat]?.getD default)), (i64 0)])) (vs := [(ptr x6.p 0), (i64 x.of)]) rfl (At_c (hBs x6 (List.mem_of_getElem? hx8)) x.of (by first | omega | (simp only [absR_len, mergeR_len, newL_len]; omega)) (by first | omega | (simp only [absR_len, mergeR_len, newL_len]; omega))) (fun w11 x12 => ?_)
    replace hEAk1 := hEAk1.step0 x12
    replace h1 := h1.ext0 x12
    replace h7 := h7.ext0 x12
    replace el10 := el10.ext0 x12
    replace hq := hq.ext0 x12
    replace hBs := hBs.ext0 x12
    clear x12
    refine s1 (v := (.tuple #[(N3.val (x6.xs[(x.of).toNat]?.getD default)), (i64 0)])) (rn_mv rfl) ?_
    refine s1 (v := (N3.val (x6.xs[(x.of).toNat]?.getD default))) (rn_ex (vs := [(N3.val (x6.xs[(x.of).toNat]?.getD default)), (i64 0)]) rfl rfl) ?_
    refine s1 (v := (i64 0)) (rn_ex (vs := [(N3.val (x6.xs[(x.of).toNat]?.getD default)), (i64 0)]) rfl rfl) ?_
    refine s_alloc (cs := [(i64 0), (i64 0), (i64 0)]) z28 rfl (fun b13 w14 hb13 gb13 x15 => ?_)
    have nb13_hEAk1 : w3.heap.size ≤ b13 := Nat.le_trans hEAk1.size gb13
    clear gb13
    replace hEAk1 := hEAk1.step0 x15
    replace h1 := h1.ext0 x15
    replace h7 := h7.ext0 x15
    replace el10 := el10.ext0 x15
    replace hq := hq.ext0 x15
    replace hBs := hBs.ext0 x15
    clear x15
    refine s_st (v := (N3.val (x6.xs[(x.of).toNat]?.getD default))) (vs := (N3.cells (x6.xs[(x.of).toNat]?.getD default))) (cs' := (N3.cells (x6.xs[(x.of).toNat]?.getD default))) g28.2 rfl rfl rfl rfl hb13 (by simp) rfl rfl (fun w16 h_ x17 => ?_)
    replace hEAk1 := hEAk1.step1 x17 (by first | (left; simp; done) | (right; omega))
    replace h1 := h1.ext1 x17 (by omega)
    replace h7 := h7.ext1 x17 (by omega)
    replace el10 := el10.ext1 x17 (by omega)
    replace hq := hq.ext1 x17 (by omega)
    replace hBs := hBs.ext1 x17 (fun q hq => by have h_ := hltb q hq; omega)
    clear x17
    replace hb13 := h_; clear h_
    refine s1 (v := (i64 0)) (rn_as rfl) ?_
    refine w_end ?_
    refine c_rs ?_
    refine s1 (v := (.func (.yield l) #[] #[])) (rn_mv rfl) ?_
    refine s1 (v := (N3.val (x6.xs[(x.of).toNat]?.getD default))) (rn_lbN (vs := (N3.cells (x6.xs[(x.of).toNat]?.getD default))) g28 rfl hb13 rfl rfl) ?_
    have hj20 := hJ _ _ _ _ hj (Its.of_ext hEAk1 hswk1)
    have hk_k1 : k1 < qs.length := by omega
    have hsz_k1 := hEAk1.size
    have hyk_k1 : (qs.map (fun q => q.at x.of.toNat))[k1]? = some (x6.at x.of.toNat) := by rw [List.getElem?_map, hx8]; rfl
    refine s_yield rfl rfl (by show YieldAt _ _ _ _ #[N3.val (x6.at x.of.toNat)] _ _; rw [← argN_eq hyk_k1]; exact hy k1 S2 _ hk_k1 hj20 (by omega) hSk1) (fun w18 h_ => ?_)
    obtain ⟨S21, hj2k1, hR19, hS2k1⟩ := h_
    have h1 := h1.rnd hR19 (by simp only [List.mem_cons, not_or]; exact ⟨ne1, l1⟩) (fun h_ => by have := hSk1 _ h_; omega)
    have h7 := h7.rnd hR19 (by simp only [List.mem_cons, not_or]; exact ⟨ne7, l7⟩) (fun h_ => by have := hSk1 _ h_; omega)
    have hq := hq.rnd hR19 (by rcases neg with h_ | h_; rcases lg with h2_ | h2_; rcases hgW with h3_ | h3_; left; exact ⟨by simp only [List.mem_cons, not_or]; exact ⟨h_, h2_⟩, fun h4_ => by have := hSk1 _ h4_; omega⟩; right; exact h3_; right; exact h2_; right; exact h_)
    have hBs := hBs.rnd hR19 (fun q hq_ => by have h1_ := hltb q hq_; have h2_ := lb q hq_; have h3_ := neb q hq_; refine ⟨⟨?_, ?_⟩, ⟨?_, ?_⟩⟩; simp only [List.mem_cons, not_or]; exact ⟨h3_.1, h2_.1⟩; intro h_; have := hSk1 _ h_; omega; simp only [List.mem_cons, not_or]; exact ⟨h3_.2, h2_.2⟩; intro h_; have := hSk1 _ h_; omega)
    have hsW : W.heap.size ≤ w18.heap.size := by have h2_ := hR19.size; omega
    have hj := hj2k1
    have hS : ∀ c ∈ S21, W.heap.size ≤ c := fun c hc => by rcases hS2k1 c hc with h_ | h_; exact hSk1 c h_; omega
    refine s1 (v := (.bool false)) (rn_not (b := true) rfl) ?_
    refine w_end ?_
    refine c_F (b := false) rfl rfl ?_
    refine c_skip' ?_
    refine b_norm ?_
    refine t_norm ?_
    refine c_r ?_
    refine s1 (v := (i64 ((k1 : Int) + 1))) (rn_add (m := (k1 : Int)) (n := 1) rfl rfl (wr64 (by omega) (by omega))) ?_
    refine s1 (v := (i64 ((k1 : Int) + 1))) (rn_mv rfl) ?_
    refine w_nil ?_
    refine t_norm ?_
    exact ⟨qs.length - (k1 + 1), by omega, k1 + 1, S21, (lk [(.func (.yield l) #[] #[]), (ptr q1 0), (ptr q7 0), undef, undef, (ptr x6.p 0), (ptr b13 0), (i64 0), (.slice A qs.length c), (i64 (qs.length : Int)), (i64 ((k1 : Int) + 1)), (.bool (decide ((k1 : Int) < (qs.length : Int)))), (ptr gq (o7 + k1 * 1)), (ptr x6.p 0), (.tuple #[(N3.val (x6.xs[(x.of).toNat]?.getD default)), (i64 0)]), (ptr x6.p 0), (ptr q7 0), (i64 x.of), (.tuple #[(N3.val (x6.xs[(x.of).toNat]?.getD default)), (i64 0)]), (N3.val (x6.xs[(x.of).toNat]?.getD default)), (i64 0), (.func (.yield l) #[] #[]), (N3.val (x6.xs[(x.of).toNat]?.getD default)), (.bool true), (.bool false), (i64 ((k1 : Int) + 1))]), Fr_congr (by kernel_rfl), rfl, by omega, h1, h7, hq, hBs, hj, hsW, hS⟩
  ·
    have p22 := of_decide_eq_false h4
    refine c_exit ?_
    refine t_exit ?_
    refine t_exit ?_
    refine b_here ?_
    refine bp_end (rs0 rfl) ?_
    obtain rfl : k1 = qs.length := by omega
    exact ⟨_, hj⟩

theorem Level_c {A : Option Addr} {gq c : Nat} {qs : List Bok} {w0 : World} (hq : Ls Bok.cells 1 w0 gq A qs) (hBs : Bks w0 qs) (hne : 0 < qs.length) (hqs : qs.length ≤ 1000) (hg : ∀ q ∈ qs, Good q.xs) (hlen : ∀ q ∈ qs, ∀ r ∈ qs, q.xs.length = r.xs.length) :
    Calls Try.prog 48 [(.slice A qs.length c)].toArray w0 (Ret (fun v w' => ∃ A' c' g', v = .tuple #[.slice A' (levelL qs).length c', i64 0] ∧ Ls N3.cells 3 w' g' A' (levelL qs) ∧ (w0.heap.size ≤ g' ∨ (levelL qs).length = 0) ∧ Ext [] w0 w')) := by
  have hE : Ext [] w0 w0 := (Ext.refl w0).more (by simp)
  have hgq := hq.lt (by simp)
  have hltb := hBs.lt
  refine enterM (vs := [(.slice A qs.length c)]) Try.func48 rfl Try.ntmps48 rfl ?_
  refine c_rs ?_
  refine s_box (v := (.slice A qs.length c)) (cs := [(.slice A qs.length c)]) rfl rfl (fun b1 w2 hb1 gb1 x3 => ?_)
  have nb1_hE : w0.heap.size ≤ b1 := Nat.le_trans hE.size gb1
  clear gb1
  replace hE := hE.step0 x3
  replace hq := hq.ext0 x3
  replace hBs := hBs.ext0 x3
  clear x3
  refine s1 (v := (.slice none 0 0)) (rn_as rfl) ?_
  refine s1 (v := (i64 0)) (rn_as rfl) ?_
  refine w_end ?_
  refine c_seq ?_
  refine c_rs ?_
  refine s1 (v := (.slice A qs.length c)) (rn_lb1 o93 rfl hb1 rfl) ?_
  refine s1 (v := (i64 (qs.length : Int))) (rn_len is93 rfl) ?_
  refine s1 (v := (.bool (decide ((qs.length : Int) = 0)))) (rn_eql (m := (qs.length : Int)) (n := 0) rfl rfl) ?_
  refine w_end ?_
  refine c_F (b := (decide ((qs.length : Int) = 0))) rfl (decide_eq_false (by omega)) ?_
  refine c_skip' ?_
  refine t_norm ?_
  refine c_seq ?_
  refine c_rs ?_
  refine s1 (v := (.slice A qs.length c)) (rn_lb1 o93 rfl hb1 rfl) ?_
  refine s1 (v := (i64 (qs.length : Int))) (rn_len is93 rfl) ?_
  refine s1 (v := (i64 0)) (rn_mv rfl) ?_
  refine w_end ?_
  refine c_block ?_
  refine c_loop (fun d a w => ∃ (k4 : Nat) (z_k4 : Nat → Value) , a = Fr 39 (lk [(.slice A qs.length c), (ptr b1 0), (z_k4 2), (z_k4 3), undef, (z_k4 5), undef, undef, undef, (.slice A qs.length c), (i64 (qs.length : Int)), (.bool (decide ((qs.length : Int) = 0))), (.slice A qs.length c), (i64 (qs.length : Int)), (i64 (k4 : Int)), (z_k4 15), (z_k4 16), (z_k4 17), (z_k4 18), (z_k4 19), (z_k4 20), (z_k4 21), (z_k4 22), (z_k4 23), (z_k4 24), (z_k4 25), undef, undef, undef, undef, undef, undef, undef, undef, undef, undef, undef, undef, undef]) [] ∧ d = qs.length - k4 ∧ k4 ≤ qs.length ∧ Ext [] w0 w ∧ Blk w b1 93 [(.slice A qs.length c)] ∧ Ls Bok.cells 1 w gq A qs ∧ Bks w qs) (qs.length - 0) ?_ ?_
  · exact ⟨0, (lk [(.slice A qs.length c), (ptr b1 0), (.slice none 0 0), (i64 0), undef, undef, undef, undef, undef, (.slice A qs.length c), (i64 (qs.length : Int)), (.bool (decide ((qs.length : Int) = 0))), (.slice A qs.length c), (i64 (qs.length : Int)), (i64 0), undef, undef, undef, undef, undef, undef, undef, undef, undef, undef, undef, undef, undef, undef, undef, undef, undef, undef, undef, undef, undef, undef, undef, undef]), Fr_congr (by kernel_rfl), rfl, Nat.zero_le _, hE, hb1, hq, hBs⟩
  clear hE
  clear hb1
  clear hq
  clear hBs
  rintro d a w5 ⟨k4, z_k4, rfl, rfl, hlek4, hE, hb1, hq, hBs⟩
  refine c_rs ?_
  refine s1 (v := (.bool (decide ((k4 : Int) < (qs.length : Int))))) (rn_lss (m := (k4 : Int)) (n := (qs.length : Int)) rfl rfl) ?_
  refine w_end ?_
  refine c_seq ?_
  refine c_if (b := (decide ((k4 : Int) < (qs.length : Int)))) rfl (fun h6 => ?_) (fun h6 => ?_)
  ·
    have p7 := of_decide_eq_true h6
    refine c_skip' ?_
    refine t_norm ?_
    refine c_seq ?_
    refine c_block ?_
    refine c_rs ?_
    obtain ⟨x8, o9, hx10, hA11, el12⟩ := hq.el (k := k4) (by omega)
    refine s1 (v := (ptr gq (o9 + k4 * 1))) (rn_ie is93 rfl hA11 rfl (by omega) (by omega) rfl) ?_
    refine s1 (v := (ptr x8.p 0)) (rn_ld1 o25 rfl (el12 0 _ rfl)) ?_
    refine s1 (v := (ptr x8.p 0)) (rn_as rfl) ?_
    refine w_end ?_
    obtain ⟨x13, o14, hx15, hA16, el17⟩ := hq.el (k := 0) (by omega)
    refine c_seq ?_
    refine c_dr (n := 7) [.c (ptr x8.p 0), .c (i64 (x8.xs.length : Int)), .c (.slice A qs.length c), .c (ptr gq (o14 + 0 * 1)), .c (ptr x13.p 0), .c (i64 (x13.xs.length : Int)), .c (.bool (decide ((x8.xs.length : Int) ≠ (x13.xs.length : Int))))] rfl mixed (by kernel_rfl) ?_
    refine q_v (v := (ptr x8.p 0)) (fun W hC => rn_mv rfl) ?_
    refine q_call e69 (v := (i64 (x8.xs.length : Int))) (vs := [(ptr x8.p 0)]) rfl (fun W hC => Size_c ((hBs.ext0 hC) x8 (List.mem_of_getElem? hx10))) ?_
    refine q_v (v := (.slice A qs.length c)) (fun W hC => rn_lb1 o93 rfl (hb1.ext0 hC) rfl) ?_
    refine q_v (v := (ptr gq (o14 + 0 * 1))) (fun W hC => rn_ie is93 rfl hA16 rfl (by omega) (by omega) rfl) ?_
    refine q_v (v := (ptr x13.p 0)) (fun W hC => rn_ld1 o25 rfl ((el17.ext0 hC) 0 _ rfl)) ?_
    refine q_call e69 (v := (i64 (x13.xs.length : Int))) (vs := [(ptr x13.p 0)]) rfl (fun W hC => Size_c ((hBs.ext0 hC) x13 (List.mem_of_getElem? hx15))) ?_
    refine q_v (v := (.bool (decide ((x8.xs.length : Int) ≠ (x13.xs.length : Int))))) (fun W hC => rn_neq (m := (x8.xs.length : Int)) (n := (x13.xs.length : Int)) rfl rfl) ?_
    refine ob_end (fun w18 x19 he20 hap21 => ?_)
    replace hE := hE.step0 x19
    replace hb1 := hb1.ext0 x19
    replace el12 := el12.ext0 x19
    replace el17 := el17.ext0 x19
    replace hq := hq.ext0 x19
    replace hBs := hBs.ext0 x19
    clear x19
    refine w_end ?_
    refine c_F (b := (decide ((x8.xs.length : Int) ≠ (x13.xs.length : Int)))) rfl (decide_eq_false (by have h1_ := hlen x8 (List.mem_of_getElem? hx10) x13 (List.mem_of_getElem? hx15); omega)) ?_
    refine c_skip' ?_
    refine b_norm ?_
    refine t_norm ?_
    refine c_r ?_
    refine s1 (v := (i64 ((k4 : Int) + 1))) (rn_add (m := (k4 : Int)) (n := 1) rfl rfl (wr64 (by omega) (by omega))) ?_
    refine s1 (v := (i64 ((k4 : Int) + 1))) (rn_mv rfl) ?_
    refine w_nil ?_
    refine t_norm ?_
    exact ⟨qs.length - (k4 + 1), by omega, k4 + 1, (lk [(.slice A qs.length c), (ptr b1 0), (z_k4 2), (z_k4 3), undef, (ptr x8.p 0), undef, undef, undef, (.slice A qs.length c), (i64 (qs.length : Int)), (.bool (decide ((qs.length : Int) = 0))), (.slice A qs.length c), (i64 (qs.length : Int)), (i64 ((k4 : Int) + 1)), (.bool (decide ((k4 : Int) < (qs.length : Int)))), (ptr gq (o9 + k4 * 1)), (ptr x8.p 0), (ptr x8.p 0), (i64 (x8.xs.length : Int)), (.slice A qs.length c), (ptr gq (o14 + 0 * 1)), (ptr x13.p 0), (i64 (x13.xs.length : Int)), (.bool (decide ((x8.xs.length : Int) ≠ (x13.xs.length : Int)))), (i64 ((k4 : Int) + 1)), undef, undef, undef, undef, undef, undef, undef, undef, undef, undef, undef, undef, undef]), Fr_congr (by kernel_rfl), rfl, by omega, hE, hb1, hq, hBs⟩
  ·
    have p22 := of_decide_eq_false h6
    refine c_exit ?_
    refine t_exit ?_
    refine t_exit ?_
    refine b_here ?_
    refine t_norm ?_
    refine c_rs ?_
    refine s_alloc (cs := [(.slice none 0 0)]) z22 rfl (fun b23 w24 hb23 gb23 x25 => ?_)
    have nb23_hE : w0.heap.size ≤ b23 := Nat.le_trans hE.size gb23
    have ob23 : b1 < b23 := Nat.lt_of_lt_of_le hb1.lt gb23
    clear gb23
    replace hE := hE.step0 x25
    replace hb1 := hb1.ext0 x25
    replace hq := hq.ext0 x25
    replace hBs := hBs.ext0 x25
    clear x25
    refine w_end ?_
    refine c_seq ?_
    refine c_rs ?_
    refine s1 (v := (.slice A qs.length c)) (rn_lb1 o93 rfl hb1 rfl) ?_
    obtain ⟨x26, o27, hx28, hA29, el30⟩ := hq.el (k := 0) (by omega)
    refine s1 (v := (ptr gq (o27 + 0 * 1))) (rn_ie is93 rfl hA29 rfl (by omega) (by omega) rfl) ?_
    have hmem0 : x26 ∈ qs := List.mem_of_getElem? hx28
    have h100_ := (hg x26 hmem0).1
    have hX0_ : qs[0]? = some x26 := hx28
    refine s1 (v := (ptr x26.p 0)) (rn_ld1 o25 rfl (el30 0 _ rfl)) ?_
    refine s_call e104 (vs := [(ptr x26.p 0)]) rfl (All_c (hBs x26 (List.mem_of_getElem? hx28)) (by first | omega | (simp only [absR_len, mergeR_len, newL_len]; omega))) ?_
    rintro _ w36 ⟨b35, A31, c32, g33, rfl, hb35, hl34, gb35, gg33, x37⟩
    have nb35_hE : w0.heap.size ≤ b35 := Nat.le_trans hE.size gb35
    have ob35 : b23 < b35 := Nat.lt_of_lt_of_le hb23.lt gb35
    clear gb35
    have dg33 := gg33.imp_left (fun q => And.intro (Nat.le_trans hE.size q) (And.intro (Nat.lt_of_lt_of_le hb1.lt q) (Nat.lt_of_lt_of_le hb23.lt q)))
    clear gg33
    replace hE := hE.step0 x37
    replace hb1 := hb1.ext0 x37
    replace hb23 := hb23.ext0 x37
    replace el30 := el30.ext0 x37
    replace hq := hq.ext0 x37
    replace hBs := hBs.ext0 x37
    clear x37
    refine w_end ?_
    refine c_block ?_
    have hO : Ow w36.heap.size 28 N3.cells 3 w36 (.slice none 0 0) [] := Ow.nil
    have hNw40 := hE.size
    have hq1_b35 := hb35.lt
    have hq2_b35 := hl34.lt (by simp)
    refine c_range (gf := 140) (n := x26.xs.length) (arg := (argN x26.xs)) (L := [b23]) (lb := [(ptr b35 0)]) rfl e140 (fun W hC => All1_it (hb35.ext0 hC) (hl34.ext0 hC) (by omega) (by simp only [List.mem_cons, List.not_mem_nil, or_false]; omega) (by simp only [List.mem_cons, List.not_mem_nil, or_false]; omega)) (by simp; try omega) (fun k38 S W => ∃ (v39 : Value) , S = obl v39 ∧ Ext [] w0 W ∧ Blk W b1 93 [(.slice A qs.length c)] ∧ Blk W b23 22 [v39] ∧ Blk W b35 22 [(.slice A31 x26.xs.length c32)] ∧ Ls Bok.cells 1 W gq A qs ∧ Bks W qs ∧ Ls N3.cells 3 W g33 A31 x26.xs ∧ Ow w36.heap.size 28 N3.cells 3 W v39 ((x26.xs.take k38).map (levelE qs))) ⟨(.slice none 0 0), rfl, hE, hb1, hb23, hb35, hq, hBs, hl34, hO⟩ (fun k38 S A B ⟨v39, hSe, hE, hb1, hb23, hb35, hq, hBs, hl34, hO⟩ hI => ⟨v39, hSe, hE.its hI (by omega), hb1.its hI, hb23.its hI, hb35.its hI, hq.its hI, hBs.its hI, hl34.its hI, hO.its hI⟩) ?_ ?_
    · skip
      clear hE
      clear hb1
      clear hb23
      clear hb35
      clear hq
      clear hBs
      clear hl34
      clear hO
      rintro lp k38 S w41 hk42 ⟨v39, rfl, hE, hb1, hb23, hb35, hq, hBs, hl34, hO⟩ hA43 hSN44
      obtain ⟨x45, hx46⟩ : ∃ x, (x26.xs)[k38]? = some x := ⟨_, List.getElem?_eq_getElem hk42⟩
      rw [argN_eq hx46]
      have hgkk38 := ((hg x26 hmem0).2 _ _ hx46).1
      have hx0_ : 0 ≤ x45.of := by omega
      have hxl_ : ∀ q ∈ qs, x45.of < q.xs.length := fun q hq_ => by have h1_ := hlen q hq_ x26 hmem0; omega
      have hbdk38 : ((x26.xs.take k38).map (levelE qs)).length ≤ k38 := by simp; omega
      have hEA47 := Ext.refl w41
      refine c_r ?_
      refine s_alloc (cs := [(i64 0), (i64 0), (i64 0)]) z28 rfl (fun b48 w49 hb48 gb48 x50 => ?_)
      have nb48_hE : w0.heap.size ≤ b48 := Nat.le_trans hE.size gb48
      have nb48_hEA47 : w41.heap.size ≤ b48 := Nat.le_trans hEA47.size gb48
      have ob48 : b35 < b48 := Nat.lt_of_lt_of_le hb35.lt gb48
      replace dg33 := orAnd dg33 ((hl34.lt (by simp)).imp_left (fun q => Nat.lt_of_lt_of_le q gb48))
      have obb48_hO : ∀ c ∈ obl v39, c < b48 := fun c hc => Nat.lt_of_lt_of_le (hO.lt c hc).2 gb48
      clear gb48
      replace hE := hE.step0 x50
      replace hEA47 := hEA47.step0 x50
      replace hb1 := hb1.ext0 x50
      replace hb23 := hb23.ext0 x50
      replace hb35 := hb35.ext0 x50
      replace hq := hq.ext0 x50
      replace hBs := hBs.ext0 x50
      replace hl34 := hl34.ext0 x50
      replace hO := hO.ext0 x50
      clear x50
      refine s_st (v := (N3.val x45)) (vs := (N3.cells x45)) (cs' := (N3.cells x45)) g28.2 rfl rfl rfl rfl hb48 (by simp) rfl rfl (fun w51 h_ x52 => ?_)
      replace hE := hE.step1 x52 (by first | (left; simp; done) | (right; omega))
      replace hEA47 := hEA47.step1 x52 (by first | (left; simp; done) | (right; omega))
      replace hb1 := hb1.ext1 x52 (by omega)
      replace hb23 := hb23.ext1 x52 (by omega)
      replace hb35 := hb35.ext1 x52 (by omega)
      replace hq := hq.ext1 x52 (by omega)
      replace hBs := hBs.ext1 x52 (fun q hq => by have h_ := hltb q hq; omega)
      replace hl34 := hl34.ext1 x52 (by omega)
      replace hO := hO.ext x52 (fun c hc => by have h_ := hO.lt c hc; have := obb48_hO c hc; simp; omega)
      clear x52
      replace hb48 := h_; clear h_
      refine w_nil ?_
      refine t_norm ⟨hEA47, fun w53 hI54 => ?_⟩
      have hszw53 := hEA47.size
      have hsyw53 := hI54.size
      replace hE := hE.its hI54 (by omega)
      replace hb1 := hb1.its hI54
      replace hb23 := hb23.its hI54
      replace hb35 := hb35.its hI54
      replace hb48 := hb48.its hI54
      replace hq := hq.its hI54
      replace hBs := hBs.its hI54
      replace hl34 := hl34.its hI54
      replace hO := hO.its hI54
      have hR55 : Ext ([b23] ++ obl v39) w53 w53 := (Ext.refl w53).more (by simp)
      have hQ56 : ∀ c ∈ ([b23] ++ obl v39 : List Nat), ((∃ cs e z, w53.heap[c]? = some (Obj.cells cs e z)) ∨ w53.heap.size ≤ c) ∧ (c ∈ ([b23] : List Nat) ∨ c ∈ (obl v39 : List Nat) ∨ w53.heap.size ≤ c) := by
        intro c hc
        rcases List.mem_append.1 hc with hc | hc
        · simp at hc; subst hc; exact ⟨.inl hb23.cellsAt, .inl (by simp)⟩
        · exact ⟨.inl (hO.cellsAt c hc), .inr (.inl hc)⟩
      refine c_block ?_
      refine c_rs ?_
      refine s1 (v := (.func (.func 105) #[] #[(ptr b1 0), (ptr b48 0)])) (rn_mf (vs := [(ptr b1 0), (ptr b48 0)]) rfl) ?_
      refine s1 (v := (.func (.func 105) #[] #[(ptr b1 0), (ptr b48 0)])) (rn_as rfl) ?_
      refine w_end ?_
      have hlt1_b1 := hb1.lt
      have hlt7_b48 := hb48.lt
      have hltg_b48 := hq.lt (by simp)
      have hltb_b48 := hBs.lt
      refine c_dr (n := 5) [.c v39, .c (.func (.func 105) #[] #[(ptr b1 0), (ptr b48 0)]), .c (N3.val x45), .c (N3.val (levelE qs x45)), .s (SBs w53.heap.size 28 1 [(i64 ((levelE qs x45).of)), (i64 ((levelE qs x45).tag)), (i64 ((levelE qs x45).kind))])] rfl mixed (by kernel_rfl) ?_
      refine q_v (v := v39) (fun W hC => rn_lb1 o22 rfl (hb23.ext0 hC) rfl) ?_
      refine q_v (v := (.func (.func 105) #[] #[(ptr b1 0), (ptr b48 0)])) (fun W hC => rn_mv rfl) ?_
      refine q_v (v := (N3.val x45)) (fun W hC => rn_lbN (vs := (N3.cells x45)) g28 rfl (hb48.ext0 hC) rfl rfl) ?_
      refine q_call e106 (v := (N3.val (levelE qs x45))) (vs := [(.func (.func 105) #[] #[(ptr b1 0), (ptr b48 0)]), (N3.val x45), (.func (.func 24) #[] #[])]) rfl (fun W hC => best_c (ys := qs.map (fun q => q.at x45.of.toNat)) e105 (fun W2 L hC2 hL hLW => Level1_it ((hb1.ext0 hC).ext0 hC2) ((hb48.ext0 hC).ext0 hC2) ((hq.ext0 hC).ext0 hC2) ((hBs.ext0 hC).ext0 hC2) hqs hx0_ hxl_ (fun h_ => by have h1_ := hL _ h_; have h2_ := hC.size; omega) (fun h_ => by have h1_ := hL _ h_; have h2_ := hC.size; omega) (by by_cases h_ : gq ∈ L; right; have h1_ := hL _ h_; have h2_ := hC.size; omega; left; exact h_) (fun q hq => by have h3_ := hltb_b48 q hq; exact ⟨(fun h_ => by have h1_ := hL _ h_; have h2_ := hC.size; omega), (fun h_ => by have h1_ := hL _ h_; have h2_ := hC.size; omega)⟩)) (by rw [List.length_map]; omega) x45) ?_
      refine q_bsS et22 (vs := #[(0, (N3.val (levelE qs x45)))]) (cs := [(i64 ((levelE qs x45).of)), (i64 ((levelE qs x45).tag)), (i64 ((levelE qs x45).kind))]) (by kernel_rfl) (by decide) (by kernel_rfl) (fun v58 lov58 hiv58 => ?_)
      refine ob_end (fun w59 x60 he61 hap62 => ?_)
      obtain ⟨b63, rfl, hb63, gb63, ib63⟩ := he61 4
      have nb63_hE : w0.heap.size ≤ b63 := Nat.le_trans hE.size gb63
      have nb63_hR55 : w53.heap.size ≤ b63 := Nat.le_trans hR55.size gb63
      have ob63 : b48 < b63 := Nat.lt_of_lt_of_le hb48.lt gb63
      replace dg33 := orAnd dg33 ((hl34.lt (by simp)).imp_left (fun q => Nat.lt_of_lt_of_le q gb63))
      have obb63_hO : ∀ c ∈ obl v39, c < b63 := fun c hc => Nat.lt_of_lt_of_le (hO.lt c hc).2 gb63
      clear gb63
      replace hE := hE.step0 x60
      replace hR55 := hR55.step0 x60
      replace hb1 := hb1.ext0 x60
      replace hb23 := hb23.ext0 x60
      replace hb35 := hb35.ext0 x60
      replace hb48 := hb48.ext0 x60
      replace hq := hq.ext0 x60
      replace hBs := hBs.ext0 x60
      replace hl34 := hl34.ext0 x60
      replace hO := hO.ext0 x60
      clear x60
      have hl64 : Ls N3.cells 3 w59 b63 (some ⟨b63, 0, none⟩) [(levelE qs x45)] := Ls.of_blk (rest := []) (fun _ => rfl) hb63
      refine s_app (ys := [(levelE qs x45)]) et22 (fun _ => rfl) (fun _ => rfl) hO (by have h_ := hR55.size; omega) rfl rfl hl64 (by simp only [List.length_cons, List.length_nil]; omega) (by simp only [List.length_cons, List.length_nil]; omega) (fun v65 w66 hO68 x67 hVv65 => ?_)
      have hVsv65 := hR55.size
      clear hb48
      clear hb63
      clear hl64
      replace hE := hE.step x67 (fun c hc => by first | (left; simp [hc]; done) | (right; have h_ := hO.lt c hc; have := obb48_hO c hc; have := obb63_hO c hc; omega))
      replace hR55 := hR55.step x67 (fun c hc => by first | (left; simp [hc]; done) | (right; have h_ := hO.lt c hc; have := obb48_hO c hc; have := obb63_hO c hc; omega))
      replace hb1 := hb1.ext x67 (fun hc => by have h_ := hO.lt _ hc; have := obb48_hO _ hc; have := obb63_hO _ hc; omega)
      replace hb23 := hb23.ext x67 (fun hc => by have h_ := hO.lt _ hc; have := obb48_hO _ hc; have := obb63_hO _ hc; omega)
      replace hb35 := hb35.ext x67 (fun hc => by have h_ := hO.lt _ hc; have := obb48_hO _ hc; have := obb63_hO _ hc; omega)
      replace hq := hq.ext x67 (fun hc => by have h_ := hO.lt _ hc; have := obb48_hO _ hc; have := obb63_hO _ hc; omega)
      replace hBs := hBs.ext x67 (fun q hq => by have h1_ := hltb q hq; exact ⟨fun hc => by have h_ := hO.lt _ hc; omega, fun hc => by have h_ := hO.lt _ hc; omega⟩)
      replace hl34 := hl34.ext x67 (fun hc => by have h_ := hO.lt _ hc; have := obb48_hO _ hc; have := obb63_hO _ hc; omega)
      clear x67
      replace hO := hO68; clear hO68
      refine s_st (v := v65) (vs := [v65]) (cs' := [v65]) o22.2 rfl rfl hO.cell1 rfl hb23 (by simp) hO.one rfl (fun w69 h_ x70 => ?_)
      replace hE := hE.step1 x70 (by first | (left; simp; done) | (right; omega))
      replace hR55 := hR55.step1 x70 (by first | (left; simp; done) | (right; omega))
      replace hb1 := hb1.ext1 x70 (by omega)
      replace hb35 := hb35.ext1 x70 (by omega)
      replace hq := hq.ext1 x70 (by omega)
      replace hBs := hBs.ext1 x70 (fun q hq => by have h_ := hltb q hq; omega)
      replace hl34 := hl34.ext1 x70 (by omega)
      replace hO := hO.ext x70 (fun c hc => by have h_ := hO.lt c hc; simp; omega)
      clear x70
      replace hb23 := h_; clear h_
      refine w_nil ?_
      refine b_norm ?_
      have en : (x26.xs.take (k38 + 1)).map (levelE qs) = (x26.xs.take k38).map (levelE qs) ++ [levelE qs x45] := by rw [take_snoc hx46, List.map_append]; rfl
      rw [← en] at hO
      exact ⟨obl v65, ⟨v65, rfl, hE, hb1, hb23, hb35, hq, hBs, hl34, hO⟩, Rnd.of_ext hR55 hQ56, (fun c hc => (hVv65 c hc).imp_right (fun q => Nat.le_trans hVsv65 q))⟩
    · skip
      clear hE
      clear hb1
      clear hb23
      clear hb35
      clear hq
      clear hBs
      clear hl34
      clear hO
      rintro D72 w71 S ⟨v76, rfl, hE, hb1, hb23, hb35, hq, hBs, hl34, hO⟩ hD73 hK74 hSN75
      change Dfr w71 D72 at hK74
      refine b_norm ?_
      refine t_norm ?_
      refine c_rs ?_
      refine s1 (v := v76) (rn_lb1 o22 rfl hb23 rfl) ?_
      refine s1 (v := v76) (rn_as rfl) ?_
      refine s1 (v := (i64 0)) (rn_as rfl) ?_
      refine w_end ?_
      refine c_ret ?_
      refine bpm_ret hK74 (fun w77 hI78 => ?_)
      replace hE := hE.its hI78 (by omega)
      replace hb1 := hb1.its hI78
      replace hb23 := hb23.its hI78
      replace hb35 := hb35.its hI78
      replace hq := hq.its hI78
      replace hBs := hBs.its hI78
      replace hl34 := hl34.its hI78
      replace hO := hO.its hI78
      refine ⟨_, rs2 rfl (rv_tmp (v := v76) rfl) (rv_tmp (v := (i64 0)) rfl), ?_⟩
      simp only [List.take_length] at hO
      have hlv : levelL qs = x26.xs.map (levelE qs) := by unfold levelL; rw [hX0_]; rfl
      rw [← hlv] at hO
      obtain ⟨A', c', g', rfl, h1, h2⟩ := Ow.ls (cf := N3.cells) (s := 3) (fun _ => rfl) hO
      exact ⟨A', c', g', rfl, h1, by omega, hE⟩

end Go.Proofs.Ytfdffeameoejfaa
