/- spread: printed walks. -/
import Derived.Test.YtfdffeameoejfaaTagbook
namespace Go.Proofs.Ytfdffeameoejfaa
open Go Go.RowKit
set_option linter.unusedVariables false
set_option linter.unusedSimpArgs false

theorem keep_c {qs : Nat} {self : Int} {w0 : World} (hs : Blk w0 qs 3 [i64 self]) (x : N3) :
    Calls Try.prog 73 [(N3.val x), (ptr qs 0)].toArray w0 (Ret (Pu (.bool (keepB self x)) w0)) := by
  have hE : Ext [] w0 w0 := (Ext.refl w0).more (by simp)
  have hlq := hs.lt
  refine enter (vs := [(N3.val x), (ptr qs 0)]) Try.func73 rfl Try.ntmps73 rfl ?_
  refine c_rs ?_
  refine s_box (v := (N3.val x)) (cs := (N3.cells x)) rfl rfl (fun b1 w2 hb1 gb1 x3 => ?_)
  have nb1_hE : w0.heap.size ≤ b1 := Nat.le_trans hE.size gb1
  clear gb1
  replace hE := hE.step0 x3
  replace hs := hs.ext0 x3
  clear x3
  refine s1 (v := (.bool false)) (rn_as rfl) ?_
  refine w_end ?_
  refine c_rs ?_
  refine s1 (v := (ptr b1 0)) (rn_fa fa28_0 rfl rfl) ?_
  refine s1 (v := (i64 x.of)) (rn_lb1 o3 rfl hb1 rfl) ?_
  refine s1 (v := (i64 self)) (rn_lb1 o3 rfl hs rfl) ?_
  refine s1 (v := (.bool (decide (x.of ≠ self)))) (rn_neq (m := x.of) (n := self) rfl rfl) ?_
  refine s1 (v := (.bool (decide (x.of ≠ self)))) (rn_mv rfl) ?_
  rcases Bool.eq_false_or_eq_true (decide (x.of ≠ self)) with h4 | h4
  ·
    have p5 := of_decide_eq_true h4
    refine g_not rfl rfl rfl h4 ?_
    refine g_not rfl rfl rfl h4 ?_
    refine g_not rfl rfl rfl h4 ?_
    refine s1 (v := (.bool true)) (rn_pT (b := (decide (x.of ≠ self))) rfl h4 rfl) ?_
    refine s1 (v := (.bool true)) (rn_as rfl) ?_
    refine w_end ?_
    refine c_ret ?_
    refine bp_ret (rs1 rfl (rv_tmp (v := (.bool true)) rfl)) ?_
    exact ⟨by simp [keepB, *], hE⟩
  ·
    have p6 := of_decide_eq_false h4
    refine g_yes rfl rfl rfl h4 ?_
    refine s1 (v := (ptr b1 2)) (rn_fa fa28_2 rfl rfl) ?_
    refine g_yes rfl rfl rfl h4 ?_
    refine s1 (v := (i64 x.kind)) (rn_lb1 o3 rfl hb1 rfl) ?_
    refine g_yes rfl rfl rfl h4 ?_
    refine s1 (v := (.bool (decide (x.kind ≠ 1)))) (rn_neq (m := x.kind) (n := 1) rfl rfl) ?_
    refine s1 (v := (.bool (decide (x.kind ≠ 1)))) (rn_pF (b := (decide (x.of ≠ self))) rfl h4 rfl) ?_
    refine s1 (v := (.bool (decide (x.kind ≠ 1)))) (rn_as rfl) ?_
    refine w_end ?_
    refine c_ret ?_
    refine bp_ret (rs1 rfl (rv_tmp (v := (.bool (decide (x.kind ≠ 1)))) rfl)) ?_
    exact ⟨by simp [keepB, *], hE⟩

theorem Values_c (A : Option Addr) (n c : Nat) {w0 : World} :
    Calls Try.prog 72 [(.slice A n c)].toArray w0 (Ret (fun v w' => ∃ q, v = .func (.func 122) #[] #[ptr q 0] ∧ Blk w' q 22 [.slice A n c] ∧ w0.heap.size ≤ q ∧ Ext [] w0 w')) := by
  have hE : Ext [] w0 w0 := (Ext.refl w0).more (by simp)
  refine enter (vs := [(.slice A n c)]) Try.func72 rfl Try.ntmps72 rfl ?_
  refine c_rs ?_
  refine s_box (v := (.slice A n c)) (cs := [(.slice A n c)]) rfl rfl (fun b1 w2 hb1 gb1 x3 => ?_)
  have nb1_hE : w0.heap.size ≤ b1 := Nat.le_trans hE.size gb1
  clear gb1
  replace hE := hE.step0 x3
  clear x3
  refine s1 (v := .nilFunc) (rn_as rfl) ?_
  refine w_end ?_
  refine c_rs ?_
  refine s1 (v := (.func (.func 122) #[] #[(ptr b1 0)])) (rn_mf (vs := [(ptr b1 0)]) rfl) ?_
  refine s1 (v := (.func (.func 122) #[] #[(ptr b1 0)])) (rn_as rfl) ?_
  refine w_end ?_
  refine c_ret ?_
  refine bp_ret (rs1 rfl (rv_tmp (v := (.func (.func 122) #[] #[(ptr b1 0)])) rfl)) ?_
  exact ⟨b1, rfl, hb1, by omega, hE⟩

theorem passed_c (f : FuncId) (fs : List Value) (k : FuncId) (ks : List Value) {w0 : World} :
    Calls Try.prog 71 [(.func (.func f) #[] fs.toArray), (.func (.func k) #[] ks.toArray)].toArray w0 (Ret (fun v w' => ∃ q1 q2, v = .func (.func 121) #[] #[ptr q1 0, ptr q2 0] ∧ Blk w' q1 126 [.func (.func f) #[] fs.toArray] ∧ Blk w' q2 129 [.func (.func k) #[] ks.toArray] ∧ w0.heap.size ≤ q1 ∧ w0.heap.size ≤ q2 ∧ Ext [] w0 w')) := by
  have hE : Ext [] w0 w0 := (Ext.refl w0).more (by simp)
  refine enter (vs := [(.func (.func f) #[] fs.toArray), (.func (.func k) #[] ks.toArray)]) Try.func71 rfl Try.ntmps71 rfl ?_
  refine c_rs ?_
  refine s_box (v := (.func (.func f) #[] fs.toArray)) (cs := [(.func (.func f) #[] fs.toArray)]) rfl rfl (fun b1 w2 hb1 gb1 x3 => ?_)
  have nb1_hE : w0.heap.size ≤ b1 := Nat.le_trans hE.size gb1
  clear gb1
  replace hE := hE.step0 x3
  clear x3
  refine s_box (v := (.func (.func k) #[] ks.toArray)) (cs := [(.func (.func k) #[] ks.toArray)]) rfl rfl (fun b4 w5 hb4 gb4 x6 => ?_)
  have nb4_hE : w0.heap.size ≤ b4 := Nat.le_trans hE.size gb4
  have ob4 : b1 < b4 := Nat.lt_of_lt_of_le hb1.lt gb4
  clear gb4
  replace hE := hE.step0 x6
  replace hb1 := hb1.ext0 x6
  clear x6
  refine s1 (v := .nilFunc) (rn_as rfl) ?_
  refine w_end ?_
  refine c_rs ?_
  refine s1 (v := (.func (.func 121) #[] #[(ptr b1 0), (ptr b4 0)])) (rn_mf (vs := [(ptr b1 0), (ptr b4 0)]) rfl) ?_
  refine s1 (v := (.func (.func 121) #[] #[(ptr b1 0), (ptr b4 0)])) (rn_as rfl) ?_
  refine w_end ?_
  refine c_ret ?_
  refine bp_ret (rs1 rfl (rv_tmp (v := (.func (.func 121) #[] #[(ptr b1 0), (ptr b4 0)])) rfl)) ?_
  exact ⟨b1, b4, rfl, hb1, hb4, by omega, by omega, hE⟩

theorem passed1_it {q1 q2 q0 qs gl c : Nat} {A : Option Addr} {l : List N3} {self : Int} {W : World} {L : List Nat} (h1 : Blk W q1 126 [.func (.func 122) #[] #[ptr q0 0]]) (h2 : Blk W q2 129 [.func (.func 73) #[] #[ptr qs 0]]) (h0 : Blk W q0 22 [.slice A l.length c]) (hs : Blk W qs 3 [i64 self]) (hl : Ls N3.cells 3 W gl A l) (hll : l.length ≤ 1000000)
    (hLW : ∀ c ∈ L, c < W.heap.size) (l1 : q1 ∉ L) (l2 : q2 ∉ L) (l0 : q0 ∉ L) (ls : qs ∉ L) (lg : gl ∉ L ∨ l.length = 0) :
    Iter Try.prog 121 [ptr q1 0, ptr q2 0] (others self l).length (argN (others self l)) W L := by
  intro lo J hlp hJ hy hj0
  have hE : Ext [] W W := (Ext.refl W).more (by simp)
  obtain ⟨lq, hlq⟩ := hlp
  have hloW : lo < W.heap.size := lt_of_some hlq
  have ne1 := h1.ne_loop hlq
  have ne2 := h2.ne_loop hlq
  have ne0 := h0.ne_loop hlq
  have nes := hs.ne_loop hlq
  have neg := hl.ne_loop (by simp) hlq
  have hw1 := h1.lt
  have hw2 := h2.lt
  have hw0 := h0.lt
  have hws := hs.lt
  have hwg := hl.lt (by simp)
  refine enterM (vs := [(.func (.yield lo) #[] #[]), (ptr q1 0), (ptr q2 0)]) Try.func121 rfl Try.ntmps121 rfl ?_
  refine c_rs ?_
  refine s_box (v := (.func (.yield lo) #[] #[])) (cs := [(.func (.yield lo) #[] #[])]) rfl rfl (fun b1 w2 hb1 gb1 x3 => ?_)
  have nb1_hE : W.heap.size ≤ b1 := Nat.le_trans hE.size gb1
  clear gb1
  replace hE := hE.step0 x3
  replace h1 := h1.ext0 x3
  replace h2 := h2.ext0 x3
  replace h0 := h0.ext0 x3
  replace hs := hs.ext0 x3
  replace hl := hl.ext0 x3
  clear x3
  refine w_end ?_
  refine c_rs ?_
  refine s1 (v := (.func (.func 122) #[] #[(ptr q0 0)])) (rn_lb1 o126 rfl h1 rfl) ?_
  refine w_end ?_
  refine c_block ?_
  have hj := hJ _ _ _ _ hj0 (Its.of_ext hE (Nat.le_refl _))
  have hsW := hE.size
  have hbW := hb1.lt
  have hbL : b1 ∉ L := fun h_ => by have := hLW _ h_; omega
  refine c_range (gf := 122) (n := l.length) (arg := (argN l)) (L := (lo :: L)) (lb := [(ptr q0 0)]) rfl e122 (fun W hC => Values1_it (q := q0) (gl := gl) (h0.ext0 hC) (hl.ext0 hC) hll (by simp only [List.mem_cons, not_or]; exact ⟨ne0, l0⟩) (by rcases neg with h_ | h_; rcases lg with h2_ | h2_; left; simp only [List.mem_cons, not_or]; exact ⟨h_, h2_⟩; right; exact h2_; right; exact h_)) (by intro c hc; rcases List.mem_cons.1 hc with rfl | hc; omega; have := hLW _ hc; omega) (fun k4 S W => Blk W q1 126 [(.func (.func 122) #[] #[(ptr q0 0)])] ∧ Blk W q2 129 [(.func (.func 73) #[] #[(ptr qs 0)])] ∧ Blk W q0 22 [(.slice A l.length c)] ∧ Blk W qs 3 [(i64 self)] ∧ Blk W b1 129 [(.func (.yield lo) #[] #[])] ∧ Ls N3.cells 3 W gl A l ∧ J (others self (l.take k4)).length S W) ⟨h1, h2, h0, hs, hb1, hl, hj⟩ (fun k4 S A B ⟨h1, h2, h0, hs, hb1, hl, hj⟩ hI => ⟨h1.its hI, h2.its hI, h0.its hI, hs.its hI, hb1.its hI, hl.its hI, hJ _ _ _ _ hj (hI.mono (by omega))⟩) ?_ ?_
  · skip
    clear h1
    clear h2
    clear h0
    clear hs
    clear hb1
    clear hl
    clear hj
    rintro lp k4 S w6 hk7 ⟨h1, h2, h0, hs, hb1, hl, hj⟩ hA8 hSN9
    obtain ⟨x10, hx11⟩ : ∃ x, (l)[k4]? = some x := ⟨_, List.getElem?_eq_getElem hk7⟩
    rw [argN_eq hx11]
    have hEA12 := Ext.refl w6
    refine c_r ?_
    refine s_alloc (cs := [(i64 0), (i64 0), (i64 0)]) z28 rfl (fun b13 w14 hb13 gb13 x15 => ?_)
    have nb13_hEA12 : w6.heap.size ≤ b13 := Nat.le_trans hEA12.size gb13
    have ob13 : b1 < b13 := Nat.lt_of_lt_of_le hb1.lt gb13
    clear gb13
    replace hEA12 := hEA12.step0 x15
    replace h1 := h1.ext0 x15
    replace h2 := h2.ext0 x15
    replace h0 := h0.ext0 x15
    replace hs := hs.ext0 x15
    replace hb1 := hb1.ext0 x15
    replace hl := hl.ext0 x15
    clear x15
    refine s_st (v := (N3.val x10)) (vs := (N3.cells x10)) (cs' := (N3.cells x10)) g28.2 rfl rfl rfl rfl hb13 (by simp) rfl rfl (fun w16 h_ x17 => ?_)
    replace hEA12 := hEA12.step1 x17 (by first | (left; simp; done) | (right; omega))
    replace h1 := h1.ext1 x17 (by omega)
    replace h2 := h2.ext1 x17 (by omega)
    replace h0 := h0.ext1 x17 (by omega)
    replace hs := hs.ext1 x17 (by omega)
    replace hb1 := hb1.ext1 x17 (by omega)
    replace hl := hl.ext1 x17 (by omega)
    clear x17
    replace hb13 := h_; clear h_
    refine w_nil ?_
    refine t_norm ⟨hEA12, fun w18 hI19 => ?_⟩
    have hszw18 := hEA12.size
    have hsyw18 := hI19.size
    replace hj := hJ _ _ _ _ (hJ _ _ _ _ hj (Its.of_ext hEA12 (by omega))) (hI19.mono (by omega))
    replace h1 := h1.its hI19
    replace h2 := h2.its hI19
    replace h0 := h0.its hI19
    replace hs := hs.its hI19
    replace hb1 := hb1.its hI19
    replace hb13 := hb13.its hI19
    replace hl := hl.its hI19
    have hR20 : Ext ([]) w18 w18 := (Ext.refl w18).more (by simp)
    have hQ21 : ∀ c ∈ ([] : List Nat), ((∃ cs e z, w18.heap[c]? = some (Obj.cells cs e z)) ∨ w18.heap.size ≤ c) ∧ (c ∈ ((lo :: L) : List Nat) ∨ c ∈ (S : List Nat) ∨ w18.heap.size ≤ c) := by
      intro c hc
      simp at hc
    refine c_block ?_
    refine c_rs ?_
    refine s1 (v := (.func (.func 73) #[] #[(ptr qs 0)])) (rn_lb1 o129 rfl h2 rfl) ?_
    refine s1 (v := (N3.val x10)) (rn_lbN (vs := (N3.cells x10)) g28 rfl hb13 rfl rfl) ?_
    refine s_callvP e73 (v := (.bool (keepB self x10))) (vs := [(N3.val x10)]) (ws := [(ptr qs 0)]) rfl rfl (keep_c hs x10) (fun w22 x23 => ?_)
    replace hR20 := hR20.step0 x23
    replace h1 := h1.ext0 x23
    replace h2 := h2.ext0 x23
    replace h0 := h0.ext0 x23
    replace hs := hs.ext0 x23
    replace hb1 := hb1.ext0 x23
    replace hb13 := hb13.ext0 x23
    replace hl := hl.ext0 x23
    clear x23
    refine s1 (v := (.bool (keepB self x10))) (rn_mv rfl) ?_
    rcases Bool.eq_false_or_eq_true (keepB self x10) with h24 | h24
    ·
      refine g_yes rfl rfl rfl h24 ?_
      refine s1 (v := (.func (.yield lo) #[] #[])) (rn_lb1 o129 rfl hb1 rfl) ?_
      refine g_yes rfl rfl rfl h24 ?_
      refine s1 (v := (N3.val x10)) (rn_lbN (vs := (N3.cells x10)) g28 rfl hb13 rfl rfl) ?_
      refine g_yes rfl rfl rfl h24 ?_
      have hkk := others_at (self := self) hx11 h24
      replace hj := hJ _ _ _ _ hj (Its.of_ext hR20 (by omega))
      have hsR := hR20.size
      have hky : (others self (l.take k4)).length < (others self l).length := (List.getElem?_eq_some_iff.1 hkk).1
      refine s_yield rfl rfl (by rw [← argN_eq hkk]; exact hy _ _ _ hky hj (by omega) (fun c hc => by have := hSN9 c hc; omega)) (fun w25 h_ => ?_)
      obtain ⟨S27, hj2, hR26, hS2⟩ := h_
      replace hj : J (others self (l.take (k4 + 1))).length S27 w25 := by rw [take_snoc hx11, others_snoc, if_pos h24, List.length_append]; exact hj2
      replace h1 := h1.rnd hR26 (by simp only [List.mem_cons, not_or]; exact ⟨ne1, l1⟩) (fun h_ => by have := hSN9 _ h_; omega)
      replace h2 := h2.rnd hR26 (by simp only [List.mem_cons, not_or]; exact ⟨ne2, l2⟩) (fun h_ => by have := hSN9 _ h_; omega)
      replace h0 := h0.rnd hR26 (by simp only [List.mem_cons, not_or]; exact ⟨ne0, l0⟩) (fun h_ => by have := hSN9 _ h_; omega)
      replace hs := hs.rnd hR26 (by simp only [List.mem_cons, not_or]; exact ⟨nes, ls⟩) (fun h_ => by have := hSN9 _ h_; omega)
      replace hl := hl.rnd hR26 (by rcases neg with h_ | h_; rcases lg with h2_ | h2_; rcases hwg with h3_ | h3_; left; exact ⟨by simp only [List.mem_cons, not_or]; exact ⟨h_, h2_⟩, fun h4_ => by have := hSN9 _ h4_; omega⟩; right; exact h3_; right; exact h2_; right; exact h_)
      replace hb1 := hb1.rnd hR26 (by simp only [List.mem_cons, not_or]; exact ⟨by omega, hbL⟩) (fun h_ => by have := hSN9 _ h_; omega)
      clear hb13
      refine g_yes rfl rfl rfl h24 ?_
      refine s1 (v := (.bool false)) (rn_not (b := true) rfl) ?_
      refine s1 (v := (.bool false)) (rn_pT (b := (keepB self x10)) rfl h24 rfl) ?_
      refine w_end ?_
      refine c_F (b := false) rfl rfl ?_
      refine c_skip' ?_
      refine b_norm ?_
      exact ⟨S27, ⟨h1, h2, h0, hs, hb1, hl, hj⟩, (Rnd.of_ext (S := S) (L := lo :: L) hR20 hQ21).trans hR26, fun c hc => (hS2 c hc).imp_right (fun q => Nat.le_trans hsR q)⟩
    ·
      refine g_not rfl rfl rfl h24 ?_
      refine g_not rfl rfl rfl h24 ?_
      refine g_not rfl rfl rfl h24 ?_
      refine g_not rfl rfl rfl h24 ?_
      refine s1 (v := (.bool false)) (rn_pF (b := (keepB self x10)) rfl h24 rfl) ?_
      refine w_end ?_
      refine c_F (b := false) rfl rfl ?_
      refine c_skip' ?_
      refine b_norm ?_
      replace hj := hJ _ _ _ _ hj (Its.of_ext hR20 (by omega))
      rw [show (others self (l.take k4)).length = (others self (l.take (k4 + 1))).length from by rw [take_snoc hx11, others_snoc, if_neg (by rw [h24]; decide)]] at hj
      exact ⟨S, ⟨h1, h2, h0, hs, hb1, hl, hj⟩, Rnd.of_ext hR20 hQ21, fun c hc => .inl hc⟩
  · skip
    clear h1
    clear h2
    clear h0
    clear hs
    clear hb1
    clear hl
    clear hj
    rintro D29 w28 S ⟨h1, h2, h0, hs, hb1, hl, hj⟩ hD30 hK31 hSN32
    change Dfr w28 D29 at hK31
    refine b_norm ?_
    refine bpm_end hK31 (fun w33 hI34 => ?_)
    replace h1 := h1.its hI34
    replace h2 := h2.its hI34
    replace h0 := h0.its hI34
    replace hs := hs.its hI34
    replace hb1 := hb1.its hI34
    replace hl := hl.its hI34
    refine ⟨_, rs0 rfl, ?_⟩
    exact ⟨_, by simpa only [List.take_length] using hJ _ _ _ _ hj (hI34.mono (by omega))⟩

theorem AppendSeq_c {gi : FuncId} {lb : List Value} {ys : List N3} {w0 : World} (hgi : Ent Try.prog gi) (hit : ∀ W L, Ext [] w0 W → (∀ c ∈ L, w0.heap.size ≤ c) → (∀ c ∈ L, c < W.heap.size) → Iter Try.prog gi lb ys.length (argN ys) W L) (hn : ys.length ≤ 1000000) :
    Calls Try.prog 123 [(.slice none 0 0), (.func (.func gi) #[] lb.toArray)].toArray w0 (Ret (fun v w' => ∃ A' c' g', v = .slice A' ys.length c' ∧ Ls N3.cells 3 w' g' A' ys ∧ (w0.heap.size ≤ g' ∨ ys.length = 0) ∧ Ext [] w0 w')) := by
  have hE : Ext [] w0 w0 := (Ext.refl w0).more (by simp)
  refine enterM (vs := [(.slice none 0 0), (.func (.func gi) #[] lb.toArray)]) Try.func123 rfl Try.ntmps123 rfl ?_
  refine c_rs ?_
  refine s_box (v := (.slice none 0 0)) (cs := [(.slice none 0 0)]) rfl rfl (fun b1 w2 hb1 gb1 x3 => ?_)
  have nb1_hE : w0.heap.size ≤ b1 := Nat.le_trans hE.size gb1
  clear gb1
  replace hE := hE.step0 x3
  clear x3
  refine s1 (v := (.slice none 0 0)) (rn_as rfl) ?_
  refine w_end ?_
  refine c_seq ?_
  refine c_rs ?_
  refine s1 (v := (.func (.func gi) #[] lb.toArray)) (rn_mv rfl) ?_
  refine w_end ?_
  refine c_block ?_
  have hO : Ow w2.heap.size 28 N3.cells 3 w2 (.slice none 0 0) [] := Ow.nil
  have hNw6 := hE.size
  have hbl := hb1.lt
  refine c_range (gf := gi) (n := ys.length) (arg := (argN ys)) (L := [b1]) (lb := lb) rfl hgi (fun W hC => hit W [b1] (hE.step0 hC) (by simp; omega) (by have := hC.size; simp; omega)) (by simp; try omega) (fun k4 S W => ∃ (v5 : Value) , S = obl v5 ∧ Ext [] w0 W ∧ Blk W b1 22 [v5] ∧ Ow w2.heap.size 28 N3.cells 3 W v5 (ys.take k4)) ⟨(.slice none 0 0), rfl, hE, hb1, hO⟩ (fun k4 S A B ⟨v5, hSe, hE, hb1, hO⟩ hI => ⟨v5, hSe, hE.its hI (by omega), hb1.its hI, hO.its hI⟩) ?_ ?_
  · skip
    clear hE
    clear hb1
    clear hO
    rintro lp k4 S w7 hk8 ⟨v5, rfl, hE, hb1, hO⟩ hA9 hSN10
    have hbdk4 : (ys.take k4).length ≤ k4 := by simp; omega
    obtain ⟨x11, hx12⟩ : ∃ x, (ys)[k4]? = some x := ⟨_, List.getElem?_eq_getElem hk8⟩
    rw [argN_eq hx12]
    have hEA13 := Ext.refl w7
    refine c_r ?_
    refine s_alloc (cs := [(i64 0), (i64 0), (i64 0)]) z28 rfl (fun b14 w15 hb14 gb14 x16 => ?_)
    have nb14_hE : w0.heap.size ≤ b14 := Nat.le_trans hE.size gb14
    have nb14_hEA13 : w7.heap.size ≤ b14 := Nat.le_trans hEA13.size gb14
    have ob14 : b1 < b14 := Nat.lt_of_lt_of_le hb1.lt gb14
    have obb14_hO : ∀ c ∈ obl v5, c < b14 := fun c hc => Nat.lt_of_lt_of_le (hO.lt c hc).2 gb14
    clear gb14
    replace hE := hE.step0 x16
    replace hEA13 := hEA13.step0 x16
    replace hb1 := hb1.ext0 x16
    replace hO := hO.ext0 x16
    clear x16
    refine s_st (v := (N3.val x11)) (vs := (N3.cells x11)) (cs' := (N3.cells x11)) g28.2 rfl rfl rfl rfl hb14 (by simp) rfl rfl (fun w17 h_ x18 => ?_)
    replace hE := hE.step1 x18 (by first | (left; simp; done) | (right; omega))
    replace hEA13 := hEA13.step1 x18 (by first | (left; simp; done) | (right; omega))
    replace hb1 := hb1.ext1 x18 (by omega)
    replace hO := hO.ext x18 (fun c hc => by have h_ := hO.lt c hc; have := obb14_hO c hc; simp; omega)
    clear x18
    replace hb14 := h_; clear h_
    refine w_nil ?_
    refine t_norm ⟨hEA13, fun w19 hI20 => ?_⟩
    have hszw19 := hEA13.size
    have hsyw19 := hI20.size
    replace hE := hE.its hI20 (by omega)
    replace hb1 := hb1.its hI20
    replace hb14 := hb14.its hI20
    replace hO := hO.its hI20
    have hR21 : Ext ([b1] ++ obl v5) w19 w19 := (Ext.refl w19).more (by simp)
    have hQ22 : ∀ c ∈ ([b1] ++ obl v5 : List Nat), ((∃ cs e z, w19.heap[c]? = some (Obj.cells cs e z)) ∨ w19.heap.size ≤ c) ∧ (c ∈ ([b1] : List Nat) ∨ c ∈ (obl v5 : List Nat) ∨ w19.heap.size ≤ c) := by
      intro c hc
      rcases List.mem_append.1 hc with hc | hc
      · simp at hc; subst hc; exact ⟨.inl hb1.cellsAt, .inl (by simp)⟩
      · exact ⟨.inl (hO.cellsAt c hc), .inr (.inl hc)⟩
    refine c_block ?_
    refine c_r ?_
    refine s1 (v := v5) (rn_lb1 o22 rfl hb1 rfl) ?_
    refine s1 (v := (N3.val x11)) (rn_lbN (vs := (N3.cells x11)) g28 rfl hb14 rfl rfl) ?_
    refine s_bs et22 (vs := #[(0, (N3.val x11))]) (cs := [(i64 x11.of), (i64 x11.tag), (i64 x11.kind)]) (by kernel_rfl) (by decide) (by kernel_rfl) (fun b23 w24 hb23 gb23 x25 => ?_)
    have nb23_hE : w0.heap.size ≤ b23 := Nat.le_trans hE.size gb23
    have nb23_hR21 : w19.heap.size ≤ b23 := Nat.le_trans hR21.size gb23
    have ob23 : b14 < b23 := Nat.lt_of_lt_of_le hb14.lt gb23
    have obb23_hO : ∀ c ∈ obl v5, c < b23 := fun c hc => Nat.lt_of_lt_of_le (hO.lt c hc).2 gb23
    clear gb23
    replace hE := hE.step0 x25
    replace hR21 := hR21.step0 x25
    replace hb1 := hb1.ext0 x25
    replace hb14 := hb14.ext0 x25
    replace hO := hO.ext0 x25
    clear x25
    have hl26 : Ls N3.cells 3 w24 b23 (some ⟨b23, 0, none⟩) [x11] := Ls.of_blk (rest := []) (fun _ => rfl) hb23
    refine s_app (ys := [x11]) et22 (fun _ => rfl) (fun _ => rfl) hO (by have h_ := hR21.size; omega) rfl rfl hl26 (by simp only [List.length_cons, List.length_nil]; omega) (by simp only [List.length_cons, List.length_nil]; omega) (fun v27 w28 hO30 x29 hVv27 => ?_)
    have hVsv27 := hR21.size
    clear hb14
    clear hb23
    clear hl26
    replace hE := hE.step x29 (fun c hc => by first | (left; simp [hc]; done) | (right; have h_ := hO.lt c hc; have := obb14_hO c hc; have := obb23_hO c hc; omega))
    replace hR21 := hR21.step x29 (fun c hc => by first | (left; simp [hc]; done) | (right; have h_ := hO.lt c hc; have := obb14_hO c hc; have := obb23_hO c hc; omega))
    replace hb1 := hb1.ext x29 (fun hc => by have h_ := hO.lt _ hc; have := obb14_hO _ hc; have := obb23_hO _ hc; omega)
    clear x29
    replace hO := hO30; clear hO30
    refine s_st (v := v27) (vs := [v27]) (cs' := [v27]) o22.2 rfl rfl hO.cell1 rfl hb1 (by simp) hO.one rfl (fun w31 h_ x32 => ?_)
    replace hE := hE.step1 x32 (by first | (left; simp; done) | (right; omega))
    replace hR21 := hR21.step1 x32 (by first | (left; simp; done) | (right; omega))
    replace hO := hO.ext x32 (fun c hc => by have h_ := hO.lt c hc; simp; omega)
    clear x32
    replace hb1 := h_; clear h_
    refine w_nil ?_
    refine b_norm ?_
    rw [← take_snoc hx12] at hO
    exact ⟨obl v27, ⟨v27, rfl, hE, hb1, hO⟩, Rnd.of_ext hR21 hQ22, (fun c hc => (hVv27 c hc).imp_right (fun q => Nat.le_trans hVsv27 q))⟩
  · skip
    clear hE
    clear hb1
    clear hO
    rintro D34 w33 S ⟨v38, rfl, hE, hb1, hO⟩ hD35 hK36 hSN37
    change Dfr w33 D34 at hK36
    refine b_norm ?_
    refine t_norm ?_
    refine c_rs ?_
    refine s1 (v := v38) (rn_lb1 o22 rfl hb1 rfl) ?_
    refine s1 (v := v38) (rn_as rfl) ?_
    refine w_end ?_
    refine c_ret ?_
    refine bpm_ret hK36 (fun w39 hI40 => ?_)
    replace hE := hE.its hI40 (by omega)
    replace hb1 := hb1.its hI40
    replace hO := hO.its hI40
    refine ⟨_, rs1 rfl (rv_tmp (v := v38) rfl), ?_⟩
    simp only [List.take_length] at hO
    obtain ⟨A', c', g', rfl, h1, h2⟩ := Ow.ls (cf := N3.cells) (s := 3) (fun _ => rfl) hO
    exact ⟨A', c', g', rfl, h1, by omega, hE⟩

theorem Collect_c {gi : FuncId} {lb : List Value} {ys : List N3} {w0 : World} (hgi : Ent Try.prog gi) (hit : ∀ W L, Ext [] w0 W → (∀ c ∈ L, w0.heap.size ≤ c) → (∀ c ∈ L, c < W.heap.size) → Iter Try.prog gi lb ys.length (argN ys) W L) (hn : ys.length ≤ 1000000) :
    Calls Try.prog 74 [(.func (.func gi) #[] lb.toArray)].toArray w0 (Ret (fun v w' => ∃ A' c' g', v = .slice A' ys.length c' ∧ Ls N3.cells 3 w' g' A' ys ∧ (w0.heap.size ≤ g' ∨ ys.length = 0) ∧ Ext [] w0 w')) := by
  have hE : Ext [] w0 w0 := (Ext.refl w0).more (by simp)
  refine enter (vs := [(.func (.func gi) #[] lb.toArray)]) Try.func74 rfl Try.ntmps74 rfl ?_
  refine c_rs ?_
  refine s1 (v := (.slice none 0 0)) (rn_as rfl) ?_
  refine w_end ?_
  refine c_rs ?_
  refine s1 (v := (.func (.func gi) #[] lb.toArray)) (rn_mv rfl) ?_
  refine s_call e123 (vs := [(.slice none 0 0), (.func (.func gi) #[] lb.toArray)]) rfl (AppendSeq_c hgi hit hn) ?_
  rintro _ w5 ⟨A1, c2, g3, rfl, hl4, gg3, x6⟩
  have ng3_hE : w0.heap.size ≤ g3 ∨ (ys).length = 0 := gg3.imp_left (fun q => Nat.le_trans hE.size q)
  clear gg3
  replace hE := hE.step0 x6
  clear x6
  refine s1 (v := (.slice A1 ys.length c2)) (rn_as rfl) ?_
  refine w_end ?_
  refine c_ret ?_
  refine bp_ret (rs1 rfl (rv_tmp (v := (.slice A1 ys.length c2)) rfl)) ?_
  exact ⟨_, _, g3, rfl, hl4, by omega, hE⟩

theorem Absorb_c {p b : Nat} {xs : List N3} {w0 : World} (hB : Bk w0 p b xs) (self : Int) {A : Option Addr} {gl c : Nat} {l : List N3} (hl : Ls N3.cells 3 w0 gl A l) (hn : xs.length ≤ 100) (hll : l.length ≤ 1000000) (hgb : gl ≠ b ∨ l.length = 0) :
    Calls Try.prog 23 [(ptr p 0), (i64 self), (.slice A l.length c)].toArray w0 (Ret (fun v w' => v = .tuple #[S4.val (absS self xs l), i64 (absE xs l)] ∧ Bk w' p b (absR self xs l) ∧ Ext [b] w0 w')) := by
  have hE : Ext [b] w0 w0 := (Ext.refl w0).more (by simp)
  have hltp := hB.ltp
  have hlbp := hB.ltb
  have hgl := hl.lt (by simp)
  refine enter (vs := [(ptr p 0), (i64 self), (.slice A l.length c)]) Try.func23 rfl Try.ntmps23 rfl ?_
  refine c_rs ?_
  refine s_box (v := (i64 self)) (cs := [(i64 self)]) rfl rfl (fun b1 w2 hb1 gb1 x3 => ?_)
  have nb1_hE : w0.heap.size ≤ b1 := Nat.le_trans hE.size gb1
  clear gb1
  replace hE := hE.step0 x3
  replace hB := hB.ext0 x3
  replace hl := hl.ext0 x3
  clear x3
  refine s_alloc (cs := [(u32 0), (u32 0), (u32 0), (u32 0)]) z34 rfl (fun b4 w5 hb4 gb4 x6 => ?_)
  have nb4_hE : w0.heap.size ≤ b4 := Nat.le_trans hE.size gb4
  have ob4 : b1 < b4 := Nat.lt_of_lt_of_le hb1.lt gb4
  clear gb4
  replace hE := hE.step0 x6
  replace hb1 := hb1.ext0 x6
  replace hB := hB.ext0 x6
  replace hl := hl.ext0 x6
  clear x6
  refine s1 (v := (i64 0)) (rn_as rfl) ?_
  refine w_end ?_
  refine c_seq ?_
  refine c_rs ?_
  refine s1 (v := (.slice A l.length c)) (rn_mv rfl) ?_
  refine s1 (v := (i64 (l.length : Int))) (rn_len is22 rfl) ?_
  refine s1 (v := (i64 0)) (rn_mv rfl) ?_
  refine w_end ?_
  refine c_block ?_
  refine c_loop (fun d a w => ∃ (k7 : Nat) (z7_k7 z9_k7 z14_k7 z15_k7 z16_k7 z17_k7 z18_k7 z19_k7 z20_k7 z21_k7 z22_k7 z23_k7 : Value) , a = Fr 34 (lk [(ptr p 0), (i64 self), (.slice A l.length c), undef, (ptr b1 0), undef, (ptr b4 0), z7_k7, undef, z9_k7, undef, (.slice A l.length c), (i64 (l.length : Int)), (i64 (k7 : Int)), z14_k7, z15_k7, z16_k7, z17_k7, z18_k7, z19_k7, z20_k7, z21_k7, z22_k7, z23_k7, undef, undef, undef, undef, undef, undef, undef, undef, undef, undef]) [] ∧ d = l.length - k7 ∧ k7 ≤ l.length ∧ Ext [b] w0 w ∧ Blk w b1 3 [(i64 self)] ∧ Blk w b4 34 [(u32 0), (u32 0), (u32 0), (u32 0)] ∧ Bk w p b xs ∧ Ls N3.cells 3 w gl A l ∧ allV xs.length (l.take k7) = true) (l.length - 0) ⟨0, (i64 0), undef, undef, undef, undef, undef, undef, undef, undef, undef, undef, undef, Fr_congr (by kernel_rfl), rfl, Nat.zero_le _, hE, hb1, hb4, hB, hl, rfl⟩ ?_
  clear hE
  clear hb1
  clear hb4
  clear hB
  clear hl
  rintro d a w8 ⟨k7, z7_k7, z9_k7, z14_k7, z15_k7, z16_k7, z17_k7, z18_k7, z19_k7, z20_k7, z21_k7, z22_k7, z23_k7, rfl, rfl, hlek7, hE, hb1, hb4, hB, hl, hall⟩
  refine c_rs ?_
  refine s1 (v := (.bool (decide ((k7 : Int) < (l.length : Int))))) (rn_lss (m := (k7 : Int)) (n := (l.length : Int)) rfl rfl) ?_
  refine w_end ?_
  refine c_seq ?_
  refine c_if (b := (decide ((k7 : Int) < (l.length : Int)))) rfl (fun h9 => ?_) (fun h9 => ?_)
  ·
    have p10 := of_decide_eq_true h9
    refine c_skip' ?_
    refine t_norm ?_
    refine c_seq ?_
    refine c_block ?_
    refine c_rs ?_
    obtain ⟨x11, o12, hx13, hA14, el15⟩ := hl.el (k := k7) (by omega)
    refine s1 (v := (ptr gl (o12 + k7 * 3))) (rn_ie is22 rfl hA14 rfl (by omega) (by omega) rfl) ?_
    refine s1 (v := (N3.val x11)) (rn_ldN (vs := (N3.cells x11)) g28 rfl rfl el15) ?_
    refine s_alloc (cs := [(i64 0), (i64 0), (i64 0)]) z28 rfl (fun b16 w17 hb16 gb16 x18 => ?_)
    have nb16_hE : w0.heap.size ≤ b16 := Nat.le_trans hE.size gb16
    have ob16 : b4 < b16 := Nat.lt_of_lt_of_le hb4.lt gb16
    clear gb16
    replace hE := hE.step0 x18
    replace hb1 := hb1.ext0 x18
    replace hb4 := hb4.ext0 x18
    replace el15 := el15.ext0 x18
    replace hB := hB.ext0 x18
    replace hl := hl.ext0 x18
    clear x18
    refine s_st (v := (N3.val x11)) (vs := (N3.cells x11)) (cs' := (N3.cells x11)) g28.2 rfl rfl rfl rfl hb16 (by simp) rfl rfl (fun w19 h_ x20 => ?_)
    replace hE := hE.step1 x20 (by first | (left; simp; done) | (right; omega))
    replace hb1 := hb1.ext1 x20 (by omega)
    replace hb4 := hb4.ext1 x20 (by omega)
    replace el15 := el15.ext1 x20 (by omega)
    replace hB := hB.ext1 x20 (by omega)
    replace hl := hl.ext1 x20 (by omega)
    clear x20
    replace hb16 := h_; clear h_
    refine w_end ?_
    refine c_seq ?_
    refine c_dr (n := 5) [.c (ptr p 0), .c (i64 (xs.length : Int)), .c (N3.val x11), .c (.bool (validB (xs.length : Int) x11)), .c (.bool (!(validB (xs.length : Int) x11)))] rfl mixed (by kernel_rfl) ?_
    refine q_v (v := (ptr p 0)) (fun W hC => rn_mv rfl) ?_
    refine q_call e69 (v := (i64 (xs.length : Int))) (vs := [(ptr p 0)]) rfl (fun W hC => Size_c (hB.ext0 hC)) ?_
    refine q_v (v := (N3.val x11)) (fun W hC => rn_lbN (vs := (N3.cells x11)) g28 rfl (hb16.ext0 hC) rfl rfl) ?_
    refine q_call e70 (v := (.bool (validB (xs.length : Int) x11))) (vs := [(i64 (xs.length : Int)), (N3.val x11)]) rfl (fun W hC => Valid_c (xs.length : Int) x11 _) ?_
    refine q_v (v := (.bool (!(validB (xs.length : Int) x11)))) (fun W hC => rn_not (b := (validB (xs.length : Int) x11)) rfl) ?_
    refine ob_end (fun w21 x22 _ => ?_)
    replace hE := hE.step0 x22
    replace hb1 := hb1.ext0 x22
    replace hb4 := hb4.ext0 x22
    replace hb16 := hb16.ext0 x22
    replace el15 := el15.ext0 x22
    replace hB := hB.ext0 x22
    replace hl := hl.ext0 x22
    clear x22
    refine w_end ?_
    refine c_if (b := (!(validB (xs.length : Int) x11))) rfl (fun h23 => ?_) (fun h23 => ?_)
    ·
      have h24 := not_t h23
      refine c_rs ?_
      refine s1 (v := (S4.val (S4.mk 0 0 0 0))) (bd34_ ) ?_
      refine s_st (v := (S4.val (S4.mk 0 0 0 0))) (vs := (S4.cells (S4.mk 0 0 0 0))) (cs' := (S4.cells (S4.mk 0 0 0 0))) g34.2 rfl rfl rfl rfl hb4 (by simp) rfl rfl (fun w25 h_ x26 => ?_)
      replace hE := hE.step1 x26 (by first | (left; simp; done) | (right; omega))
      replace hb1 := hb1.ext1 x26 (by omega)
      replace hb16 := hb16.ext1 x26 (by omega)
      replace el15 := el15.ext1 x26 (by omega)
      replace hB := hB.ext1 x26 (by omega)
      replace hl := hl.ext1 x26 (by omega)
      clear x26
      replace hb4 := h_; clear h_
      refine s1 (v := (i64 50)) (rn_as rfl) ?_
      refine w_end ?_
      refine c_ret ?_
      refine b_ret ?_
      refine t_ret ?_
      refine t_ret ?_
      refine b_ret ?_
      refine t_ret ?_
      refine bp_ret (rs2 rfl (rv_cN (vs := (S4.cells (S4.mk 0 0 0 0))) g34 rfl hb4 rfl rfl) (rv_tmp (v := (i64 50)) rfl)) ?_
      have ea := allV_of hx13 h24
      exact ⟨by simp only [absS, absE, ea] <;> rfl, by rw [absR, ea]; exact hB, hE⟩
    ·
      have h27 := not_f h23
      have p28 := validB_t h27
      refine c_skip' ?_
      refine b_norm ?_
      refine t_norm ?_
      refine c_r ?_
      refine s1 (v := (i64 ((k7 : Int) + 1))) (rn_add (m := (k7 : Int)) (n := 1) rfl rfl (wr64 (by omega) (by omega))) ?_
      refine s1 (v := (i64 ((k7 : Int) + 1))) (rn_mv rfl) ?_
      refine w_nil ?_
      refine t_norm ?_
      exact ⟨l.length - (k7 + 1), by omega, k7 + 1, z7_k7, (ptr b16 0), (.bool (decide ((k7 : Int) < (l.length : Int)))), (ptr gl (o12 + k7 * 3)), (N3.val x11), (ptr p 0), (i64 (xs.length : Int)), (N3.val x11), (.bool (validB (xs.length : Int) x11)), (.bool (!(validB (xs.length : Int) x11))), z22_k7, (i64 ((k7 : Int) + 1)), Fr_congr (by kernel_rfl), rfl, by omega, hE, hb1, hb4, hB, hl, (by rw [take_snoc hx13, allV_snoc, hall, h27]; rfl)⟩
  ·
    have p29 := of_decide_eq_false h9
    refine c_exit ?_
    refine t_exit ?_
    refine t_exit ?_
    refine b_here ?_
    refine t_norm ?_
    refine c_rs ?_
    obtain rfl : k7 = l.length := by omega
    rw [List.take_length] at hall
    refine s1 (v := (.slice A l.length c)) (rn_mv rfl) ?_
    refine s_call e72 (vs := [(.slice A l.length c)]) rfl (Values_c A l.length c) ?_
    rintro _ w31 ⟨b30, rfl, hb30, gb30, x32⟩
    have nb30_hE : w0.heap.size ≤ b30 := Nat.le_trans hE.size gb30
    have ob30 : b4 < b30 := Nat.lt_of_lt_of_le hb4.lt gb30
    clear gb30
    replace hE := hE.step0 x32
    replace hb1 := hb1.ext0 x32
    replace hb4 := hb4.ext0 x32
    replace hB := hB.ext0 x32
    replace hl := hl.ext0 x32
    clear x32
    refine s1 (v := (.func (.func 73) #[] #[(ptr b1 0)])) (rn_mf (vs := [(ptr b1 0)]) rfl) ?_
    refine s_call e71 (vs := [(.func (.func 122) #[] #[(ptr b30 0)]), (.func (.func 73) #[] #[(ptr b1 0)])]) rfl (passed_c 122 [(ptr b30 0)] 73 [(ptr b1 0)]) ?_
    rintro _ w35 ⟨b33, b34, rfl, hb33, hb34, gb33, gb34, x36⟩
    have nb33_hE : w0.heap.size ≤ b33 := Nat.le_trans hE.size gb33
    have ob33 : b30 < b33 := Nat.lt_of_lt_of_le hb30.lt gb33
    clear gb33
    have nb34_hE : w0.heap.size ≤ b34 := Nat.le_trans hE.size gb34
    have ob34 : b30 < b34 := Nat.lt_of_lt_of_le hb30.lt gb34
    clear gb34
    replace hE := hE.step0 x36
    replace hb1 := hb1.ext0 x36
    replace hb4 := hb4.ext0 x36
    replace hb30 := hb30.ext0 x36
    replace hB := hB.ext0 x36
    replace hl := hl.ext0 x36
    clear x36
    refine s1 (v := (.func (.func 121) #[] #[(ptr b33 0), (ptr b34 0)])) (rn_as rfl) ?_
    refine w_end ?_
    refine c_rs ?_
    refine s1 (v := (ptr p 0)) (rn_mv rfl) ?_
    refine s1 (v := (.func (.func 121) #[] #[(ptr b33 0), (ptr b34 0)])) (rn_mv rfl) ?_
    have hlt_hb33 := hb33.lt
    have hlt_hb34 := hb34.lt
    have hlt_hb30 := hb30.lt
    have hlt_hb1 := hb1.lt
    have hlt_hl := hl.lt (by simp)
    have hle_hl := others_le self l
    refine s_call e74 (vs := [(.func (.func 121) #[] #[(ptr b33 0), (ptr b34 0)])]) rfl (Collect_c (ys := (others self l)) e121 (fun W L hC hL hLW => passed1_it (hb33.ext0 hC) (hb34.ext0 hC) (hb30.ext0 hC) (hb1.ext0 hC) (hl.ext0 hC) (by omega) hLW (fun h_ => by have := hL _ h_; omega) (fun h_ => by have := hL _ h_; omega) (fun h_ => by have := hL _ h_; omega) (fun h_ => by have := hL _ h_; omega) (by by_cases h_ : gl ∈ L; right; have := hL _ h_; omega; left; exact h_)) (by omega)) ?_
    rintro _ w41 ⟨A37, c38, g39, rfl, hl40, gg39, x42⟩
    have ng39_hE : w0.heap.size ≤ g39 ∨ ((others self l)).length = 0 := gg39.imp_left (fun q => Nat.le_trans hE.size q)
    have og39_b1 : b1 < g39 ∨ ((others self l)).length = 0 := gg39.imp_left (fun q => Nat.lt_of_lt_of_le hb1.lt q)
    have og39_b4 : b4 < g39 ∨ ((others self l)).length = 0 := gg39.imp_left (fun q => Nat.lt_of_lt_of_le hb4.lt q)
    have og39_b30 : b30 < g39 ∨ ((others self l)).length = 0 := gg39.imp_left (fun q => Nat.lt_of_lt_of_le hb30.lt q)
    have og39_b33 : b33 < g39 ∨ ((others self l)).length = 0 := gg39.imp_left (fun q => Nat.lt_of_lt_of_le hb33.lt q)
    have og39_b34 : b34 < g39 ∨ ((others self l)).length = 0 := gg39.imp_left (fun q => Nat.lt_of_lt_of_le hb34.lt q)
    clear gg39
    replace hE := hE.step0 x42
    replace hb1 := hb1.ext0 x42
    replace hb4 := hb4.ext0 x42
    replace hb30 := hb30.ext0 x42
    replace hb33 := hb33.ext0 x42
    replace hb34 := hb34.ext0 x42
    replace hB := hB.ext0 x42
    replace hl := hl.ext0 x42
    clear x42
    have := hl40.lt (by simp)
    refine s_call e65 (vs := [(ptr p 0), (.slice A37 ((others self l).length) c38)]) rfl (Merge_c (l := (others self l)) (gl := g39) (c := c38) hB hl40 (by first | omega | (simp only [absR_len, mergeR_len, newL_len]; omega)) (by first | omega | simp) (by first | omega | simp) (by first | omega | simp)) ?_
    rintro _ w43 ⟨rfl, hB44, x45⟩
    replace hE := hE.step1 x45 (by first | (left; simp; done) | (right; omega))
    replace hb1 := hb1.ext1 x45 (by omega)
    replace hb4 := hb4.ext1 x45 (by omega)
    replace hb30 := hb30.ext1 x45 (by omega)
    replace hb33 := hb33.ext1 x45 (by omega)
    replace hb34 := hb34.ext1 x45 (by omega)
    replace hl := hl.ext1 x45 (by omega)
    replace hl40 := hl40.ext1 x45 (by omega)
    clear x45
    replace hB := hB44; clear hB44
    refine s1 (v := (S4.val (mergeS xs (others self l)))) (rn_ex (vs := [(S4.val (mergeS xs (others self l))), (i64 (mergeE xs (others self l)))]) rfl rfl) ?_
    refine s1 (v := (i64 (mergeE xs (others self l)))) (rn_ex (vs := [(S4.val (mergeS xs (others self l))), (i64 (mergeE xs (others self l)))]) rfl rfl) ?_
    refine s_st (v := (S4.val (mergeS xs (others self l)))) (vs := (S4.cells (mergeS xs (others self l)))) (cs' := (S4.cells (mergeS xs (others self l)))) g34.2 rfl rfl rfl rfl hb4 (by simp) rfl rfl (fun w46 h_ x47 => ?_)
    replace hE := hE.step1 x47 (by first | (left; simp; done) | (right; omega))
    replace hb1 := hb1.ext1 x47 (by omega)
    replace hb30 := hb30.ext1 x47 (by omega)
    replace hb33 := hb33.ext1 x47 (by omega)
    replace hb34 := hb34.ext1 x47 (by omega)
    replace hB := hB.ext1 x47 (by omega)
    replace hl := hl.ext1 x47 (by omega)
    replace hl40 := hl40.ext1 x47 (by omega)
    clear x47
    replace hb4 := h_; clear h_
    refine s1 (v := (i64 (mergeE xs (others self l)))) (rn_as rfl) ?_
    refine w_end ?_
    refine c_ret ?_
    refine bp_ret (rs2 rfl (rv_cN (vs := (S4.cells (mergeS xs (others self l)))) g34 rfl hb4 rfl rfl) (rv_tmp (v := (i64 (mergeE xs (others self l)))) rfl)) ?_
    exact ⟨by simp only [absS, absE, hall, if_true, mergeE_others hall] <;> rfl, by rw [absR, hall, if_pos rfl]; exact hB, hE⟩

end Go.Proofs.Ytfdffeameoejfaa
