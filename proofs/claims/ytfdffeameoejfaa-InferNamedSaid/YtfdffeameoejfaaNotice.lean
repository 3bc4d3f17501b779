/- notice: printed walks. -/
import Derived.Test.YtfdffeameoejfaaEqs
namespace Go.Proofs.Ytfdffeameoejfaa
open Go Go.RowKit
set_option linter.unusedVariables false
set_option linter.unusedSimpArgs false

theorem bd28_0_2 {M : Nat} {l : Nat → Value} {w : World} {d : Option Tmp} {t : TypeId} {p : String} {af : Array Edge} {g : Option (Nat × Bool)} {x0 x1 : Operand} {a0 : Int} {a1 : Int} (h0 : ev M l x0 = (.int .i64 a0)) (h1 : ev M l x1 = (.int .i64 a1)) :
    Rn Try.prog M l w d (.build 28 #[(0, x0), (2, x1)]) t p af g (.agg #[(.int .i64 a0), (i64 0), (.int .i64 a1)]) := by
  have hb : (Instr.build 28 #[(0, (.int .i64 a0)), (2, (.int .i64 a1))]).run Try.prog w = .ok (.agg #[(.int .i64 a0), (i64 0), (.int .i64 a1)]) w := by kernel_rfl
  simp [Rn, execOp, h0, h1, hb]

theorem isTag_c (t : Int) (w0 : World) :
    Calls Try.prog 119 [(i64 t)].toArray w0 (Ret (Pu (.bool (isTagB t)) w0)) := by
  have hE : Ext [] w0 w0 := (Ext.refl w0).more (by simp)
  refine enter (vs := [(i64 t)]) Try.func119 rfl Try.ntmps119 rfl ?_
  refine c_rs ?_
  refine s1 (v := (.bool false)) (rn_as rfl) ?_
  refine w_end ?_
  refine c_rs ?_
  refine s1 (v := (i64 t)) (rn_mv rfl) ?_
  refine s1 (v := (.bool (decide (0 ≤ t)))) (rn_geq (m := t) (n := 0) rfl rfl) ?_
  refine s1 (v := (.bool (decide (0 ≤ t)))) (rn_mv rfl) ?_
  rcases Bool.eq_false_or_eq_true (decide (0 ≤ t)) with h1 | h1
  ·
    have p2 := of_decide_eq_true h1
    refine g_yes rfl rfl rfl h1 ?_
    refine s1 (v := (i64 t)) (rn_mv rfl) ?_
    refine g_yes rfl rfl rfl h1 ?_
    refine s1 (v := (.bool (decide (t ≤ 1048576)))) (rn_leq (m := t) (n := 1048576) rfl rfl) ?_
    refine s1 (v := (.bool (decide (t ≤ 1048576)))) (rn_pT (b := (decide (0 ≤ t))) rfl h1 rfl) ?_
    refine s1 (v := (.bool (decide (t ≤ 1048576)))) (rn_as rfl) ?_
    refine w_end ?_
    refine c_ret ?_
    refine bp_ret (rs1 rfl (rv_tmp (v := (.bool (decide (t ≤ 1048576)))) rfl)) ?_
    exact ⟨by simp [isTagB, *], hE⟩
  ·
    have p3 := of_decide_eq_false h1
    refine g_not rfl rfl rfl h1 ?_
    refine g_not rfl rfl rfl h1 ?_
    refine s1 (v := (.bool false)) (rn_pF (b := (decide (0 ≤ t))) rfl h1 rfl) ?_
    refine s1 (v := (.bool false)) (rn_as rfl) ?_
    refine w_end ?_
    refine c_ret ?_
    refine bp_ret (rs1 rfl (rv_tmp (v := (.bool false)) rfl)) ?_
    exact ⟨by simp [isTagB, *], hE⟩

theorem isKind_c (t : Int) (w0 : World) :
    Calls Try.prog 120 [(i64 t)].toArray w0 (Ret (Pu (.bool (isKindB t)) w0)) := by
  have hE : Ext [] w0 w0 := (Ext.refl w0).more (by simp)
  refine enter (vs := [(i64 t)]) Try.func120 rfl Try.ntmps120 rfl ?_
  refine c_rs ?_
  refine s1 (v := (.bool false)) (rn_as rfl) ?_
  refine w_end ?_
  refine c_rs ?_
  refine s1 (v := (i64 t)) (rn_mv rfl) ?_
  refine s1 (v := (.bool (decide (t = 1)))) (rn_eql (m := t) (n := 1) rfl rfl) ?_
  refine s1 (v := (.bool (decide (t = 1)))) (rn_mv rfl) ?_
  rcases Bool.eq_false_or_eq_true (decide (t = 1)) with h1 | h1
  ·
    have p2 := of_decide_eq_true h1
    refine g_not rfl rfl rfl h1 ?_
    refine g_not rfl rfl rfl h1 ?_
    refine s1 (v := (.bool true)) (rn_pT (b := (decide (t = 1))) rfl h1 rfl) ?_
    refine s1 (v := (.bool true)) (rn_as rfl) ?_
    refine w_end ?_
    refine c_ret ?_
    refine bp_ret (rs1 rfl (rv_tmp (v := (.bool true)) rfl)) ?_
    exact ⟨by simp [isKindB, *], hE⟩
  ·
    have p3 := of_decide_eq_false h1
    refine g_yes rfl rfl rfl h1 ?_
    refine s1 (v := (i64 t)) (rn_mv rfl) ?_
    refine g_yes rfl rfl rfl h1 ?_
    refine s1 (v := (.bool (decide (t = 2)))) (rn_eql (m := t) (n := 2) rfl rfl) ?_
    refine s1 (v := (.bool (decide (t = 2)))) (rn_pF (b := (decide (t = 1))) rfl h1 rfl) ?_
    refine s1 (v := (.bool (decide (t = 2)))) (rn_as rfl) ?_
    refine w_end ?_
    refine c_ret ?_
    refine bp_ret (rs1 rfl (rv_tmp (v := (.bool (decide (t = 2)))) rfl)) ?_
    exact ⟨by simp [isKindB, *], hE⟩

theorem Valid_c (n : Int) (x : N3) (w0 : World) :
    Calls Try.prog 70 [(i64 n), (N3.val x)].toArray w0 (Ret (Pu (.bool (validB n x)) w0)) := by
  have hE : Ext [] w0 w0 := (Ext.refl w0).more (by simp)
  refine enter (vs := [(i64 n), (N3.val x)]) Try.func70 rfl Try.ntmps70 rfl ?_
  refine c_rs ?_
  refine s_box (v := (N3.val x)) (cs := (N3.cells x)) rfl rfl (fun b1 w2 hb1 gb1 x3 => ?_)
  have nb1_hE : w0.heap.size ≤ b1 := Nat.le_trans hE.size gb1
  clear gb1
  replace hE := hE.step0 x3
  clear x3
  refine s1 (v := (.bool false)) (rn_as rfl) ?_
  refine w_end ?_
  refine c_rs ?_
  refine s1 (v := (i64 n)) (rn_mv rfl) ?_
  refine s1 (v := (.bool (decide (1 ≤ n)))) (rn_geq (m := n) (n := 1) rfl rfl) ?_
  refine s1 (v := (.bool (decide (1 ≤ n)))) (rn_mv rfl) ?_
  rcases Bool.eq_false_or_eq_true (decide (1 ≤ n)) with h4 | h4
  ·
    have p5 := of_decide_eq_true h4
    refine g_yes rfl rfl rfl h4 ?_
    refine s1 (v := (i64 n)) (rn_mv rfl) ?_
    refine g_yes rfl rfl rfl h4 ?_
    refine s1 (v := (.bool (decide (n ≤ 100)))) (rn_leq (m := n) (n := 100) rfl rfl) ?_
    refine s1 (v := (.bool (decide (n ≤ 100)))) (rn_pT (b := (decide (1 ≤ n))) rfl h4 rfl) ?_
    refine s1 (v := (.bool (decide (n ≤ 100)))) (rn_mv rfl) ?_
    rcases Bool.eq_false_or_eq_true (decide (n ≤ 100)) with h6 | h6
    ·
      have p7 := of_decide_eq_true h6
      refine g_yes rfl rfl rfl h6 ?_
      refine s1 (v := (ptr b1 0)) (rn_fa fa28_0 rfl rfl) ?_
      refine g_yes rfl rfl rfl h6 ?_
      refine s1 (v := (i64 x.of)) (rn_lb1 o3 rfl hb1 rfl) ?_
      refine g_yes rfl rfl rfl h6 ?_
      refine s1 (v := (.bool (decide (0 ≤ x.of)))) (rn_geq (m := x.of) (n := 0) rfl rfl) ?_
      refine s1 (v := (.bool (decide (0 ≤ x.of)))) (rn_pT (b := (decide (n ≤ 100))) rfl h6 rfl) ?_
      refine s1 (v := (.bool (decide (0 ≤ x.of)))) (rn_mv rfl) ?_
      rcases Bool.eq_false_or_eq_true (decide (0 ≤ x.of)) with h8 | h8
      ·
        have p9 := of_decide_eq_true h8
        refine g_yes rfl rfl rfl h8 ?_
        refine s1 (v := (ptr b1 0)) (rn_fa fa28_0 rfl rfl) ?_
        refine g_yes rfl rfl rfl h8 ?_
        refine s1 (v := (i64 x.of)) (rn_lb1 o3 rfl hb1 rfl) ?_
        refine g_yes rfl rfl rfl h8 ?_
        refine s1 (v := (i64 n)) (rn_mv rfl) ?_
        refine g_yes rfl rfl rfl h8 ?_
        refine s1 (v := (.bool (decide (x.of < n)))) (rn_lss (m := x.of) (n := n) rfl rfl) ?_
        refine s1 (v := (.bool (decide (x.of < n)))) (rn_pT (b := (decide (0 ≤ x.of))) rfl h8 rfl) ?_
        refine s1 (v := (.bool (decide (x.of < n)))) (rn_mv rfl) ?_
        rcases Bool.eq_false_or_eq_true (decide (x.of < n)) with h10 | h10
        ·
          have p11 := of_decide_eq_true h10
          refine g_yes rfl rfl rfl h10 ?_
          refine s1 (v := (ptr b1 1)) (rn_fa fa28_1 rfl rfl) ?_
          refine g_yes rfl rfl rfl h10 ?_
          refine s1 (v := (i64 x.tag)) (rn_lb1 o3 rfl hb1 rfl) ?_
          refine g_yes rfl rfl rfl h10 ?_
          refine s_callP e119 (v := (.bool (isTagB x.tag))) (vs := [(i64 x.tag)]) rfl (isTag_c x.tag _) (fun w12 x13 => ?_)
          replace hE := hE.step0 x13
          replace hb1 := hb1.ext0 x13
          clear x13
          refine s1 (v := (.bool (isTagB x.tag))) (rn_pT (b := (decide (x.of < n))) rfl h10 rfl) ?_
          refine s1 (v := (.bool (isTagB x.tag))) (rn_mv rfl) ?_
          rcases Bool.eq_false_or_eq_true (isTagB x.tag) with h14 | h14
          ·
            have p15 := isTagB_t h14
            refine g_yes rfl rfl rfl h14 ?_
            refine s1 (v := (ptr b1 2)) (rn_fa fa28_2 rfl rfl) ?_
            refine g_yes rfl rfl rfl h14 ?_
            refine s1 (v := (i64 x.kind)) (rn_lb1 o3 rfl hb1 rfl) ?_
            refine g_yes rfl rfl rfl h14 ?_
            refine s_callP e120 (v := (.bool (isKindB x.kind))) (vs := [(i64 x.kind)]) rfl (isKind_c x.kind _) (fun w16 x17 => ?_)
            replace hE := hE.step0 x17
            replace hb1 := hb1.ext0 x17
            clear x17
            refine s1 (v := (.bool (isKindB x.kind))) (rn_pT (b := (isTagB x.tag)) rfl h14 rfl) ?_
            refine s1 (v := (.bool (isKindB x.kind))) (rn_as rfl) ?_
            refine w_end ?_
            refine c_ret ?_
            refine bp_ret (rs1 rfl (rv_tmp (v := (.bool (isKindB x.kind))) rfl)) ?_
            exact ⟨by simp [validB, *], hE⟩
          ·
            refine g_not rfl rfl rfl h14 ?_
            refine g_not rfl rfl rfl h14 ?_
            refine g_not rfl rfl rfl h14 ?_
            refine s1 (v := (.bool false)) (rn_pF (b := (isTagB x.tag)) rfl h14 rfl) ?_
            refine s1 (v := (.bool false)) (rn_as rfl) ?_
            refine w_end ?_
            refine c_ret ?_
            refine bp_ret (rs1 rfl (rv_tmp (v := (.bool false)) rfl)) ?_
            exact ⟨by simp [validB, *], hE⟩
        ·
          have p18 := of_decide_eq_false h10
          refine g_not rfl rfl rfl h10 ?_
          refine g_not rfl rfl rfl h10 ?_
          refine g_not rfl rfl rfl h10 ?_
          refine s1 (v := (.bool false)) (rn_pF (b := (decide (x.of < n))) rfl h10 rfl) ?_
          refine s1 (v := (.bool false)) (rn_mv rfl) ?_
          refine g_not rfl rfl rfl rfl ?_
          refine g_not rfl rfl rfl rfl ?_
          refine g_not rfl rfl rfl rfl ?_
          refine s1 (v := (.bool false)) (rn_pF (b := false) rfl rfl rfl) ?_
          refine s1 (v := (.bool false)) (rn_as rfl) ?_
          refine w_end ?_
          refine c_ret ?_
          refine bp_ret (rs1 rfl (rv_tmp (v := (.bool false)) rfl)) ?_
          exact ⟨by simp [validB, *], hE⟩
      ·
        have p19 := of_decide_eq_false h8
        refine g_not rfl rfl rfl h8 ?_
        refine g_not rfl rfl rfl h8 ?_
        refine g_not rfl rfl rfl h8 ?_
        refine g_not rfl rfl rfl h8 ?_
        refine s1 (v := (.bool false)) (rn_pF (b := (decide (0 ≤ x.of))) rfl h8 rfl) ?_
        refine s1 (v := (.bool false)) (rn_mv rfl) ?_
        refine g_not rfl rfl rfl rfl ?_
        refine g_not rfl rfl rfl rfl ?_
        refine g_not rfl rfl rfl rfl ?_
        refine s1 (v := (.bool false)) (rn_pF (b := false) rfl rfl rfl) ?_
        refine s1 (v := (.bool false)) (rn_mv rfl) ?_
        refine g_not rfl rfl rfl rfl ?_
        refine g_not rfl rfl rfl rfl ?_
        refine g_not rfl rfl rfl rfl ?_
        refine s1 (v := (.bool false)) (rn_pF (b := false) rfl rfl rfl) ?_
        refine s1 (v := (.bool false)) (rn_as rfl) ?_
        refine w_end ?_
        refine c_ret ?_
        refine bp_ret (rs1 rfl (rv_tmp (v := (.bool false)) rfl)) ?_
        exact ⟨by simp [validB, *], hE⟩
    ·
      have p20 := of_decide_eq_false h6
      refine g_not rfl rfl rfl h6 ?_
      refine g_not rfl rfl rfl h6 ?_
      refine g_not rfl rfl rfl h6 ?_
      refine s1 (v := (.bool false)) (rn_pF (b := (decide (n ≤ 100))) rfl h6 rfl) ?_
      refine s1 (v := (.bool false)) (rn_mv rfl) ?_
      refine g_not rfl rfl rfl rfl ?_
      refine g_not rfl rfl rfl rfl ?_
      refine g_not rfl rfl rfl rfl ?_
      refine g_not rfl rfl rfl rfl ?_
      refine s1 (v := (.bool false)) (rn_pF (b := false) rfl rfl rfl) ?_
      refine s1 (v := (.bool false)) (rn_mv rfl) ?_
      refine g_not rfl rfl rfl rfl ?_
      refine g_not rfl rfl rfl rfl ?_
      refine g_not rfl rfl rfl rfl ?_
      refine s1 (v := (.bool false)) (rn_pF (b := false) rfl rfl rfl) ?_
      refine s1 (v := (.bool false)) (rn_mv rfl) ?_
      refine g_not rfl rfl rfl rfl ?_
      refine g_not rfl rfl rfl rfl ?_
      refine g_not rfl rfl rfl rfl ?_
      refine s1 (v := (.bool false)) (rn_pF (b := false) rfl rfl rfl) ?_
      refine s1 (v := (.bool false)) (rn_as rfl) ?_
      refine w_end ?_
      refine c_ret ?_
      refine bp_ret (rs1 rfl (rv_tmp (v := (.bool false)) rfl)) ?_
      exact ⟨by simp [validB, *], hE⟩
  ·
    have p21 := of_decide_eq_false h4
    refine g_not rfl rfl rfl h4 ?_
    refine g_not rfl rfl rfl h4 ?_
    refine s1 (v := (.bool false)) (rn_pF (b := (decide (1 ≤ n))) rfl h4 rfl) ?_
    refine s1 (v := (.bool false)) (rn_mv rfl) ?_
    refine g_not rfl rfl rfl rfl ?_
    refine g_not rfl rfl rfl rfl ?_
    refine g_not rfl rfl rfl rfl ?_
    refine s1 (v := (.bool false)) (rn_pF (b := false) rfl rfl rfl) ?_
    refine s1 (v := (.bool false)) (rn_mv rfl) ?_
    refine g_not rfl rfl rfl rfl ?_
    refine g_not rfl rfl rfl rfl ?_
    refine g_not rfl rfl rfl rfl ?_
    refine g_not rfl rfl rfl rfl ?_
    refine s1 (v := (.bool false)) (rn_pF (b := false) rfl rfl rfl) ?_
    refine s1 (v := (.bool false)) (rn_mv rfl) ?_
    refine g_not rfl rfl rfl rfl ?_
    refine g_not rfl rfl rfl rfl ?_
    refine g_not rfl rfl rfl rfl ?_
    refine s1 (v := (.bool false)) (rn_pF (b := false) rfl rfl rfl) ?_
    refine s1 (v := (.bool false)) (rn_mv rfl) ?_
    refine g_not rfl rfl rfl rfl ?_
    refine g_not rfl rfl rfl rfl ?_
    refine g_not rfl rfl rfl rfl ?_
    refine s1 (v := (.bool false)) (rn_pF (b := false) rfl rfl rfl) ?_
    refine s1 (v := (.bool false)) (rn_as rfl) ?_
    refine w_end ?_
    refine c_ret ?_
    refine bp_ret (rs1 rfl (rv_tmp (v := (.bool false)) rfl)) ?_
    exact ⟨by simp [validB, *], hE⟩

theorem Rank_c (x : N3) (w0 : World) :
    Calls Try.prog 75 [(N3.val x)].toArray w0 (Ret (Pu (i64 (rank x)) w0)) := by
  have hE : Ext [] w0 w0 := (Ext.refl w0).more (by simp)
  refine enter (vs := [(N3.val x)]) Try.func75 rfl Try.ntmps75 rfl ?_
  refine c_rs ?_
  refine s_box (v := (N3.val x)) (cs := (N3.cells x)) rfl rfl (fun b1 w2 hb1 gb1 x3 => ?_)
  have nb1_hE : w0.heap.size ≤ b1 := Nat.le_trans hE.size gb1
  clear gb1
  replace hE := hE.step0 x3
  clear x3
  refine s1 (v := (i64 0)) (rn_as rfl) ?_
  refine w_end ?_
  refine c_seq ?_
  refine c_rs ?_
  refine s1 (v := (ptr b1 1)) (rn_fa fa28_1 rfl rfl) ?_
  refine s1 (v := (i64 x.tag)) (rn_lb1 o3 rfl hb1 rfl) ?_
  refine s_callP e119 (v := (.bool (isTagB x.tag))) (vs := [(i64 x.tag)]) rfl (isTag_c x.tag _) (fun w4 x5 => ?_)
  replace hE := hE.step0 x5
  replace hb1 := hb1.ext0 x5
  clear x5
  refine s1 (v := (.bool (!(isTagB x.tag)))) (rn_not (b := (isTagB x.tag)) rfl) ?_
  refine w_end ?_
  refine c_if (b := (!(isTagB x.tag))) rfl (fun h6 => ?_) (fun h6 => ?_)
  ·
    have h7 := not_t h6
    refine c_rs ?_
    refine s1 (v := (i64 (-1))) (rn_as rfl) ?_
    refine w_end ?_
    refine c_ret ?_
    refine t_ret ?_
    refine bp_ret (rs1 rfl (rv_tmp (v := (i64 (-1))) rfl)) ?_
    exact ⟨by simp [rank, *], hE⟩
  ·
    have h8 := not_f h6
    have p9 := isTagB_t h8
    refine c_skip' ?_
    refine t_norm ?_
    refine c_seq ?_
    refine c_rs ?_
    refine s1 (v := (ptr b1 2)) (rn_fa fa28_2 rfl rfl) ?_
    refine s1 (v := (i64 x.kind)) (rn_lb1 o3 rfl hb1 rfl) ?_
    refine w_end ?_
    refine c_block ?_
    refine c_rs ?_
    refine s1 (v := (.bool (decide (x.kind = 1)))) (rn_eql (m := x.kind) (n := 1) rfl rfl) ?_
    refine s1 (v := (.bool (decide (x.kind = 1)))) (rn_as rfl) ?_
    refine w_end ?_
    refine c_if (b := (decide (x.kind = 1))) rfl (fun h10 => ?_) (fun h10 => ?_)
    ·
      have p11 := of_decide_eq_true h10
      refine c_rs ?_
      refine s1 (v := (ptr b1 1)) (rn_fa fa28_1 rfl rfl) ?_
      refine s1 (v := (i64 x.tag)) (rn_lb1 o3 rfl hb1 rfl) ?_
      refine s1 (v := (i64 (2 * x.tag))) (rn_mul (m := 2) (n := x.tag) rfl rfl (wr64 (by omega) (by omega))) ?_
      refine s1 (v := (i64 (2 * x.tag))) (rn_as rfl) ?_
      refine w_end ?_
      refine c_ret ?_
      refine b_ret ?_
      refine t_ret ?_
      refine bp_ret (rs1 rfl (rv_tmp (v := (i64 (2 * x.tag))) rfl)) ?_
      exact ⟨by simp [rank, *], hE⟩
    ·
      have p12 := of_decide_eq_false h10
      refine c_rs ?_
      refine s1 (v := (.bool (decide (x.kind = 2)))) (rn_eql (m := x.kind) (n := 2) rfl rfl) ?_
      refine s1 (v := (.bool (decide (x.kind = 2)))) (rn_as rfl) ?_
      refine w_end ?_
      refine c_if (b := (decide (x.kind = 2))) rfl (fun h13 => ?_) (fun h13 => ?_)
      ·
        have p14 := of_decide_eq_true h13
        refine c_rs ?_
        refine s1 (v := (ptr b1 1)) (rn_fa fa28_1 rfl rfl) ?_
        refine s1 (v := (i64 x.tag)) (rn_lb1 o3 rfl hb1 rfl) ?_
        refine s1 (v := (i64 (2 * x.tag))) (rn_mul (m := 2) (n := x.tag) rfl rfl (wr64 (by omega) (by omega))) ?_
        refine s1 (v := (i64 (2 * x.tag + 1))) (rn_add (m := 2 * x.tag) (n := 1) rfl rfl (wr64 (by omega) (by omega))) ?_
        refine s1 (v := (i64 (2 * x.tag + 1))) (rn_as rfl) ?_
        refine w_end ?_
        refine c_ret ?_
        refine b_ret ?_
        refine t_ret ?_
        refine bp_ret (rs1 rfl (rv_tmp (v := (i64 (2 * x.tag + 1))) rfl)) ?_
        exact ⟨by simp [rank, *], hE⟩
      ·
        have p15 := of_decide_eq_false h13
        refine c_skip' ?_
        refine b_norm ?_
        refine t_norm ?_
        refine c_rs ?_
        refine s1 (v := (i64 (-1))) (rn_as rfl) ?_
        refine w_end ?_
        refine c_ret ?_
        refine bp_ret (rs1 rfl (rv_tmp (v := (i64 (-1))) rfl)) ?_
        exact ⟨by simp [rank, *], hE⟩

theorem Beats_c (a b : N3) (w0 : World) :
    Calls Try.prog 24 [(N3.val a), (N3.val b)].toArray w0 (Ret (Pu (.bool (beats a b)) w0)) := by
  have hE : Ext [] w0 w0 := (Ext.refl w0).more (by simp)
  refine enter (vs := [(N3.val a), (N3.val b)]) Try.func24 rfl Try.ntmps24 rfl ?_
  refine c_rs ?_
  refine s_box (v := (N3.val a)) (cs := (N3.cells a)) rfl rfl (fun b1 w2 hb1 gb1 x3 => ?_)
  have nb1_hE : w0.heap.size ≤ b1 := Nat.le_trans hE.size gb1
  clear gb1
  replace hE := hE.step0 x3
  clear x3
  refine s_box (v := (N3.val b)) (cs := (N3.cells b)) rfl rfl (fun b4 w5 hb4 gb4 x6 => ?_)
  have nb4_hE : w0.heap.size ≤ b4 := Nat.le_trans hE.size gb4
  have ob4 : b1 < b4 := Nat.lt_of_lt_of_le hb1.lt gb4
  clear gb4
  replace hE := hE.step0 x6
  replace hb1 := hb1.ext0 x6
  clear x6
  refine s1 (v := (.bool false)) (rn_as rfl) ?_
  refine w_end ?_
  rcases Bool.eq_false_or_eq_true (decide (a.of = b.of)) with h7 | h7
  ·
    have p8 := of_decide_eq_true h7
    rcases Bool.eq_false_or_eq_true (decide (0 ≤ rank b)) with h9 | h9
    ·
      have p10 := of_decide_eq_true h9
      refine c_seq ?_
      refine c_dr (n := 18) [.c (ptr b1 0), .c (i64 a.of), .c (ptr b4 0), .c (i64 b.of), .c (.bool (decide (a.of = b.of))), .c (.bool (decide (a.of = b.of))), .c (N3.val b), .c (i64 (rank b)), .c (.bool (decide (0 ≤ rank b))), .c (.bool (decide (0 ≤ rank b))), .c (.bool (decide (0 ≤ rank b))), .c (N3.val a), .c (i64 (rank a)), .c (N3.val b), .c (i64 (rank b)), .c (.bool (decide (rank b < rank a))), .c (.bool (decide (rank b < rank a))), .c (.bool (decide (rank b < rank a)))] rfl mixed (by kernel_rfl) ?_
      refine q_v (v := (ptr b1 0)) (fun W hC => rn_fa fa28_0 rfl rfl) ?_
      refine q_v (v := (i64 a.of)) (fun W hC => rn_lb1 o3 rfl (hb1.ext0 hC) rfl) ?_
      refine q_v (v := (ptr b4 0)) (fun W hC => rn_fa fa28_0 rfl rfl) ?_
      refine q_v (v := (i64 b.of)) (fun W hC => rn_lb1 o3 rfl (hb4.ext0 hC) rfl) ?_
      refine q_v (v := (.bool (decide (a.of = b.of)))) (fun W hC => rn_eql (m := a.of) (n := b.of) rfl rfl) ?_
      refine q_v (v := (.bool (decide (a.of = b.of)))) (fun W hC => rn_mv rfl) ?_
      refine ob_yes rfl rfl rfl h7 ?_
      refine q_v (v := (N3.val b)) (fun W hC => rn_lbN (vs := (N3.cells b)) g28 rfl (hb4.ext0 hC) rfl rfl) ?_
      refine ob_yes rfl rfl rfl h7 ?_
      refine q_call e75 (v := (i64 (rank b))) (vs := [(N3.val b)]) rfl (fun W hC => Rank_c b _) ?_
      refine ob_yes rfl rfl rfl h7 ?_
      refine q_v (v := (.bool (decide (0 ≤ rank b)))) (fun W hC => rn_geq (m := rank b) (n := 0) rfl rfl) ?_
      refine q_v (v := (.bool (decide (0 ≤ rank b)))) (fun W hC => rn_pT (b := (decide (a.of = b.of))) rfl h7 rfl) ?_
      refine q_v (v := (.bool (decide (0 ≤ rank b)))) (fun W hC => rn_mv rfl) ?_
      refine ob_yes rfl rfl rfl h9 ?_
      refine q_v (v := (N3.val a)) (fun W hC => rn_lbN (vs := (N3.cells a)) g28 rfl (hb1.ext0 hC) rfl rfl) ?_
      refine ob_yes rfl rfl rfl h9 ?_
      refine q_call e75 (v := (i64 (rank a))) (vs := [(N3.val a)]) rfl (fun W hC => Rank_c a _) ?_
      refine ob_yes rfl rfl rfl h9 ?_
      refine q_v (v := (N3.val b)) (fun W hC => rn_lbN (vs := (N3.cells b)) g28 rfl (hb4.ext0 hC) rfl rfl) ?_
      refine ob_yes rfl rfl rfl h9 ?_
      refine q_call e75 (v := (i64 (rank b))) (vs := [(N3.val b)]) rfl (fun W hC => Rank_c b _) ?_
      refine ob_yes rfl rfl rfl h9 ?_
      refine q_v (v := (.bool (decide (rank b < rank a)))) (fun W hC => rn_gtr (m := rank a) (n := rank b) rfl rfl) ?_
      refine q_v (v := (.bool (decide (rank b < rank a)))) (fun W hC => rn_pT (b := (decide (0 ≤ rank b))) rfl h9 rfl) ?_
      refine q_v (v := (.bool (decide (rank b < rank a)))) (fun W hC => rn_as rfl) ?_
      refine ob_end (fun w11 x12 he13 hap14 => ?_)
      replace hE := hE.step0 x12
      replace hb1 := hb1.ext0 x12
      replace hb4 := hb4.ext0 x12
      clear x12
      refine w_end ?_
      refine c_ret ?_
      refine bp_ret (rs1 rfl (rv_tmp (v := (.bool (decide (rank b < rank a)))) rfl)) ?_
      exact ⟨by simp [beats, *], hE⟩
    ·
      have p15 := of_decide_eq_false h9
      refine c_seq ?_
      refine c_dr (n := 18) [.c (ptr b1 0), .c (i64 a.of), .c (ptr b4 0), .c (i64 b.of), .c (.bool (decide (a.of = b.of))), .c (.bool (decide (a.of = b.of))), .c (N3.val b), .c (i64 (rank b)), .c (.bool (decide (0 ≤ rank b))), .c (.bool (decide (0 ≤ rank b))), .c (.bool (decide (0 ≤ rank b))), .n, .n, .n, .n, .n, .c (.bool false), .c (.bool false)] rfl mixed (by kernel_rfl) ?_
      refine q_v (v := (ptr b1 0)) (fun W hC => rn_fa fa28_0 rfl rfl) ?_
      refine q_v (v := (i64 a.of)) (fun W hC => rn_lb1 o3 rfl (hb1.ext0 hC) rfl) ?_
      refine q_v (v := (ptr b4 0)) (fun W hC => rn_fa fa28_0 rfl rfl) ?_
      refine q_v (v := (i64 b.of)) (fun W hC => rn_lb1 o3 rfl (hb4.ext0 hC) rfl) ?_
      refine q_v (v := (.bool (decide (a.of = b.of)))) (fun W hC => rn_eql (m := a.of) (n := b.of) rfl rfl) ?_
      refine q_v (v := (.bool (decide (a.of = b.of)))) (fun W hC => rn_mv rfl) ?_
      refine ob_yes rfl rfl rfl h7 ?_
      refine q_v (v := (N3.val b)) (fun W hC => rn_lbN (vs := (N3.cells b)) g28 rfl (hb4.ext0 hC) rfl rfl) ?_
      refine ob_yes rfl rfl rfl h7 ?_
      refine q_call e75 (v := (i64 (rank b))) (vs := [(N3.val b)]) rfl (fun W hC => Rank_c b _) ?_
      refine ob_yes rfl rfl rfl h7 ?_
      refine q_v (v := (.bool (decide (0 ≤ rank b)))) (fun W hC => rn_geq (m := rank b) (n := 0) rfl rfl) ?_
      refine q_v (v := (.bool (decide (0 ≤ rank b)))) (fun W hC => rn_pT (b := (decide (a.of = b.of))) rfl h7 rfl) ?_
      refine q_v (v := (.bool (decide (0 ≤ rank b)))) (fun W hC => rn_mv rfl) ?_
      refine ob_not rfl rfl rfl h9 ?_
      refine ob_not rfl rfl rfl h9 ?_
      refine ob_not rfl rfl rfl h9 ?_
      refine ob_not rfl rfl rfl h9 ?_
      refine ob_not rfl rfl rfl h9 ?_
      refine q_v (v := (.bool false)) (fun W hC => rn_pF (b := (decide (0 ≤ rank b))) rfl h9 rfl) ?_
      refine q_v (v := (.bool false)) (fun W hC => rn_as rfl) ?_
      refine ob_end (fun w16 x17 he18 hap19 => ?_)
      replace hE := hE.step0 x17
      replace hb1 := hb1.ext0 x17
      replace hb4 := hb4.ext0 x17
      clear x17
      refine w_end ?_
      refine c_ret ?_
      refine bp_ret (rs1 rfl (rv_tmp (v := (.bool false)) rfl)) ?_
      exact ⟨by simp [beats, *], hE⟩
  ·
    have p20 := of_decide_eq_false h7
    refine c_seq ?_
    refine c_dr (n := 18) [.c (ptr b1 0), .c (i64 a.of), .c (ptr b4 0), .c (i64 b.of), .c (.bool (decide (a.of = b.of))), .c (.bool (decide (a.of = b.of))), .n, .n, .n, .c (.bool false), .c (.bool false), .n, .n, .n, .n, .n, .c (.bool false), .c (.bool false)] rfl mixed (by kernel_rfl) ?_
    refine q_v (v := (ptr b1 0)) (fun W hC => rn_fa fa28_0 rfl rfl) ?_
    refine q_v (v := (i64 a.of)) (fun W hC => rn_lb1 o3 rfl (hb1.ext0 hC) rfl) ?_
    refine q_v (v := (ptr b4 0)) (fun W hC => rn_fa fa28_0 rfl rfl) ?_
    refine q_v (v := (i64 b.of)) (fun W hC => rn_lb1 o3 rfl (hb4.ext0 hC) rfl) ?_
    refine q_v (v := (.bool (decide (a.of = b.of)))) (fun W hC => rn_eql (m := a.of) (n := b.of) rfl rfl) ?_
    refine q_v (v := (.bool (decide (a.of = b.of)))) (fun W hC => rn_mv rfl) ?_
    refine ob_not rfl rfl rfl h7 ?_
    refine ob_not rfl rfl rfl h7 ?_
    refine ob_not rfl rfl rfl h7 ?_
    refine q_v (v := (.bool false)) (fun W hC => rn_pF (b := (decide (a.of = b.of))) rfl h7 rfl) ?_
    refine q_v (v := (.bool false)) (fun W hC => rn_mv rfl) ?_
    refine ob_not rfl rfl rfl rfl ?_
    refine ob_not rfl rfl rfl rfl ?_
    refine ob_not rfl rfl rfl rfl ?_
    refine ob_not rfl rfl rfl rfl ?_
    refine ob_not rfl rfl rfl rfl ?_
    refine q_v (v := (.bool false)) (fun W hC => rn_pF (b := false) rfl rfl rfl) ?_
    refine q_v (v := (.bool false)) (fun W hC => rn_as rfl) ?_
    refine ob_end (fun w21 x22 he23 hap24 => ?_)
    replace hE := hE.step0 x22
    replace hb1 := hb1.ext0 x22
    replace hb4 := hb4.ext0 x22
    clear x22
    refine w_end ?_
    refine c_ret ?_
    refine bp_ret (rs1 rfl (rv_tmp (v := (.bool false)) rfl)) ?_
    exact ⟨by simp [beats, *], hE⟩

theorem Fresh_c (n : Int) (w0 : World) :
    Calls Try.prog 109 [(i64 n)].toArray w0 (Ret (Pu (N3.val (fresh n)) w0)) := by
  have hE : Ext [] w0 w0 := (Ext.refl w0).more (by simp)
  refine enter (vs := [(i64 n)]) Try.func109 rfl Try.ntmps109 rfl ?_
  refine c_rs ?_
  refine s_alloc (cs := [(i64 0), (i64 0), (i64 0)]) z28 rfl (fun b1 w2 hb1 gb1 x3 => ?_)
  have nb1_hE : w0.heap.size ≤ b1 := Nat.le_trans hE.size gb1
  clear gb1
  replace hE := hE.step0 x3
  clear x3
  refine w_end ?_
  refine c_rs ?_
  refine s1 (v := (i64 n)) (rn_mv rfl) ?_
  refine s1 (v := (N3.val (N3.mk n 0 1))) (bd28_0_2 rfl rfl ) ?_
  refine s_st (v := (N3.val (N3.mk n 0 1))) (vs := (N3.cells (N3.mk n 0 1))) (cs' := (N3.cells (N3.mk n 0 1))) g28.2 rfl rfl rfl rfl hb1 (by simp) rfl rfl (fun w4 h_ x5 => ?_)
  replace hE := hE.step1 x5 (by first | (left; simp; done) | (right; omega))
  clear x5
  replace hb1 := h_; clear h_
  refine w_end ?_
  refine c_ret ?_
  refine bp_ret (rs1 rfl (rv_cN (vs := (N3.cells (N3.mk n 0 1))) g28 rfl hb1 rfl rfl)) ?_
  exact ⟨rfl, hE⟩

end Go.Proofs.Ytfdffeameoejfaa
