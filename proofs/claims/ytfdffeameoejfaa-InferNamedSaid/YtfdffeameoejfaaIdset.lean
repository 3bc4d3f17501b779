/- idset: printed walks. -/
import Derived.Test.YtfdffeameoejfaaSets
namespace Go.Proofs.Ytfdffeameoejfaa
open Go Go.RowKit
set_option linter.unusedVariables false
set_option linter.unusedSimpArgs false

theorem bd34_ {M : Nat} {l : Nat → Value} {w : World} {d : Option Tmp} {t : TypeId} {p : String} {af : Array Edge} {g : Option (Nat × Bool)}   :
    Rn Try.prog M l w d (.build 34 #[]) t p af g (.agg #[(u32 0), (u32 0), (u32 0), (u32 0)]) := by
  have hb : (Instr.build 34 #[]).run Try.prog w = .ok (.agg #[(u32 0), (u32 0), (u32 0), (u32 0)]) w := by kernel_rfl
  simp [Rn, execOp, hb]

theorem isId_c (t : Int) (w0 : World) :
    Calls Try.prog 111 [(i64 t)].toArray w0 (Ret (Pu (.bool (isIdB t)) w0)) := by
  have hE : Ext [] w0 w0 := (Ext.refl w0).more (by simp)
  refine enter (vs := [(i64 t)]) Try.func111 rfl Try.ntmps111 rfl ?_
  refine c_rs ?_
  refine s1 (v := (.bool false)) (rn_as rfl) ?_
  refine w_end ?_
  refine c_rs ?_
  refine s1 (v := (i64 t)) (rn_mv rfl) ?_
  refine s1 (v := (.bool (decide (0 ≤ t)))) (rn_geq (m := t) (n := 0) rfl rfl) ?_
  refine s1 (v := (.bool (decide (0 ≤ t)))) (rn_mv rfl) ?_
  rcases Bool.eq_false_or_eq_true (decide (0 ≤ t)) with h1 | h1
  ·
    have p2 := of_decide_eq_true h1
    refine g_yes rfl rfl rfl h1 ?_
    refine s1 (v := (i64 t)) (rn_mv rfl) ?_
    refine g_yes rfl rfl rfl h1 ?_
    refine s1 (v := (.bool (decide (t < 100)))) (rn_lss (m := t) (n := 100) rfl rfl) ?_
    refine s1 (v := (.bool (decide (t < 100)))) (rn_pT (b := (decide (0 ≤ t))) rfl h1 rfl) ?_
    refine s1 (v := (.bool (decide (t < 100)))) (rn_as rfl) ?_
    refine w_end ?_
    refine c_ret ?_
    refine bp_ret (rs1 rfl (rv_tmp (v := (.bool (decide (t < 100)))) rfl)) ?_
    exact ⟨by simp [isIdB, *], hE⟩
  ·
    have p3 := of_decide_eq_false h1
    refine g_not rfl rfl rfl h1 ?_
    refine g_not rfl rfl rfl h1 ?_
    refine s1 (v := (.bool false)) (rn_pF (b := (decide (0 ≤ t))) rfl h1 rfl) ?_
    refine s1 (v := (.bool false)) (rn_as rfl) ?_
    refine w_end ?_
    refine c_ret ?_
    refine bp_ret (rs1 rfl (rv_tmp (v := (.bool false)) rfl)) ?_
    exact ⟨by simp [isIdB, *], hE⟩

theorem cl128_c (x y : Int) (w0 : World) :
    Calls Try.prog 128 [(u32 x), (u32 y)].toArray w0 (Ret (Pu (u32 (bAnd .u32 x y)) w0)) := by
  have hE : Ext [] w0 w0 := (Ext.refl w0).more (by simp)
  refine enter (vs := [(u32 x), (u32 y)]) Try.func128 rfl Try.ntmps128 rfl ?_
  refine c_rs ?_
  refine s1 (v := (u32 0)) (rn_as rfl) ?_
  refine w_end ?_
  refine c_rs ?_
  refine s1 (v := (u32 x)) (rn_mv rfl) ?_
  refine s1 (v := (u32 y)) (rn_mv rfl) ?_
  refine s1 (v := (u32 (bAnd .u32 x y))) (rn_and (m := x) (n := y) rfl rfl rfl) ?_
  refine s1 (v := (u32 (bAnd .u32 x y))) (rn_as rfl) ?_
  refine w_end ?_
  refine c_ret ?_
  refine bp_ret (rs1 rfl (rv_tmp (v := (u32 (bAnd .u32 x y))) rfl)) ?_
  exact ⟨rfl, hE⟩

theorem cl94_c (x y : Int) (w0 : World) :
    Calls Try.prog 94 [(u32 x), (u32 y)].toArray w0 (Ret (Pu (u32 (bAnd .u32 x y)) w0)) := by
  have hE : Ext [] w0 w0 := (Ext.refl w0).more (by simp)
  refine enter (vs := [(u32 x), (u32 y)]) Try.func94 rfl Try.ntmps94 rfl ?_
  refine c_rs ?_
  refine s1 (v := (u32 0)) (rn_as rfl) ?_
  refine w_end ?_
  refine c_rs ?_
  refine s1 (v := (u32 x)) (rn_mv rfl) ?_
  refine s1 (v := (u32 y)) (rn_mv rfl) ?_
  refine s1 (v := (u32 (bAnd .u32 x y))) (rn_and (m := x) (n := y) rfl rfl rfl) ?_
  refine s1 (v := (u32 (bAnd .u32 x y))) (rn_as rfl) ?_
  refine w_end ?_
  refine c_ret ?_
  refine bp_ret (rs1 rfl (rv_tmp (v := (u32 (bAnd .u32 x y))) rfl)) ?_
  exact ⟨rfl, hE⟩

theorem cl125_c (x y : Int) (w0 : World) :
    Calls Try.prog 125 [(u32 x), (u32 y)].toArray w0 (Ret (Pu (u32 (bAnd .u32 x y)) w0)) := by
  have hE : Ext [] w0 w0 := (Ext.refl w0).more (by simp)
  refine enter (vs := [(u32 x), (u32 y)]) Try.func125 rfl Try.ntmps125 rfl ?_
  refine c_rs ?_
  refine s1 (v := (u32 0)) (rn_as rfl) ?_
  refine w_end ?_
  refine c_rs ?_
  refine s1 (v := (u32 x)) (rn_mv rfl) ?_
  refine s1 (v := (u32 y)) (rn_mv rfl) ?_
  refine s1 (v := (u32 (bAnd .u32 x y))) (rn_and (m := x) (n := y) rfl rfl rfl) ?_
  refine s1 (v := (u32 (bAnd .u32 x y))) (rn_as rfl) ?_
  refine w_end ?_
  refine c_ret ?_
  refine bp_ret (rs1 rfl (rv_tmp (v := (u32 (bAnd .u32 x y))) rfl)) ?_
  exact ⟨rfl, hE⟩

theorem cl118_c (x y : Int) (w0 : World) :
    Calls Try.prog 118 [(u32 x), (u32 y)].toArray w0 (Ret (Pu (u32 (bOr .u32 x y)) w0)) := by
  have hE : Ext [] w0 w0 := (Ext.refl w0).more (by simp)
  refine enter (vs := [(u32 x), (u32 y)]) Try.func118 rfl Try.ntmps118 rfl ?_
  refine c_rs ?_
  refine s1 (v := (u32 0)) (rn_as rfl) ?_
  refine w_end ?_
  refine c_rs ?_
  refine s1 (v := (u32 x)) (rn_mv rfl) ?_
  refine s1 (v := (u32 y)) (rn_mv rfl) ?_
  refine s1 (v := (u32 (bOr .u32 x y))) (rn_or (m := x) (n := y) rfl rfl rfl) ?_
  refine s1 (v := (u32 (bOr .u32 x y))) (rn_as rfl) ?_
  refine w_end ?_
  refine c_ret ?_
  refine bp_ret (rs1 rfl (rv_tmp (v := (u32 (bOr .u32 x y))) rfl)) ?_
  exact ⟨rfl, hE⟩

theorem cl126_c (x y : Int) (w0 : World) :
    Calls Try.prog 126 [(u32 x), (u32 y)].toArray w0 (Ret (Pu (u32 (bAndNot .u32 x y)) w0)) := by
  have hE : Ext [] w0 w0 := (Ext.refl w0).more (by simp)
  refine enter (vs := [(u32 x), (u32 y)]) Try.func126 rfl Try.ntmps126 rfl ?_
  refine c_rs ?_
  refine s1 (v := (u32 0)) (rn_as rfl) ?_
  refine w_end ?_
  refine c_rs ?_
  refine s1 (v := (u32 x)) (rn_mv rfl) ?_
  refine s1 (v := (u32 y)) (rn_mv rfl) ?_
  refine s1 (v := (u32 (bAndNot .u32 x y))) (rn_andNot (m := x) (n := y) rfl rfl rfl) ?_
  refine s1 (v := (u32 (bAndNot .u32 x y))) (rn_as rfl) ?_
  refine w_end ?_
  refine c_ret ?_
  refine bp_ret (rs1 rfl (rv_tmp (v := (u32 (bAndNot .u32 x y))) rfl)) ?_
  exact ⟨rfl, hE⟩

theorem each_c (a b : S4) (g : FuncId) (φ : Int → Int → Int) (hg : Ent Try.prog g) (hφ : ∀ (x y : Int) (w0 : World), Calls Try.prog g [(u32 x), (u32 y)].toArray w0 (Ret (Pu (u32 (φ x y)) w0))) (w0 : World) :
    Calls Try.prog 93 [(S4.val a), (S4.val b), (.func (.func g) #[] #[])].toArray w0 (Ret (Pu (S4.val (map2 φ a b)) w0)) := by
  have hE : Ext [] w0 w0 := (Ext.refl w0).more (by simp)
  refine enter (vs := [(S4.val a), (S4.val b), (.func (.func g) #[] #[])]) Try.func93 rfl Try.ntmps93 rfl ?_
  refine c_rs ?_
  refine s_box (v := (S4.val a)) (cs := (S4.cells a)) rfl rfl (fun b1 w2 hb1 gb1 x3 => ?_)
  have nb1_hE : w0.heap.size ≤ b1 := Nat.le_trans hE.size gb1
  clear gb1
  replace hE := hE.step0 x3
  clear x3
  refine s_box (v := (S4.val b)) (cs := (S4.cells b)) rfl rfl (fun b4 w5 hb4 gb4 x6 => ?_)
  have nb4_hE : w0.heap.size ≤ b4 := Nat.le_trans hE.size gb4
  have ob4 : b1 < b4 := Nat.lt_of_lt_of_le hb1.lt gb4
  clear gb4
  replace hE := hE.step0 x6
  replace hb1 := hb1.ext0 x6
  clear x6
  refine s_alloc (cs := [(u32 0), (u32 0), (u32 0), (u32 0)]) z34 rfl (fun b7 w8 hb7 gb7 x9 => ?_)
  have nb7_hE : w0.heap.size ≤ b7 := Nat.le_trans hE.size gb7
  have ob7 : b4 < b7 := Nat.lt_of_lt_of_le hb4.lt gb7
  clear gb7
  replace hE := hE.step0 x9
  replace hb1 := hb1.ext0 x9
  replace hb4 := hb4.ext0 x9
  clear x9
  refine w_end ?_
  refine c_seq ?_
  refine c_rs ?_
  refine s1 (v := (i64 0)) (rn_mv rfl) ?_
  refine w_end ?_
  refine c_block ?_
  refine c_rounds 5 ?_
  refine r_round ?_
  refine c_rs ?_
  refine s1 (v := (.bool true)) (rn_lss (m := 0) (n := 4) rfl rfl) ?_
  refine w_end ?_
  refine c_seq ?_
  refine c_T (b := true) rfl rfl ?_
  refine c_skip' ?_
  refine t_norm ?_
  refine c_seq ?_
  refine c_block ?_
  refine c_rs ?_
  refine s1 (v := (i64 0)) (rn_mv rfl) ?_
  refine s1 (v := (i64 0)) (rn_as rfl) ?_
  refine w_end ?_
  refine c_dr (n := 10) [.c (i64 0), .c (.func (.func g) #[] #[]), .c (i64 0), .c (ptr b1 0), .c (u32 a.a), .c (i64 0), .c (ptr b4 0), .c (u32 b.a), .c (u32 (φ a.a b.a)), .c (ptr b1 0)] rfl mixed (by kernel_rfl) ?_
  refine q_v (v := (i64 0)) (fun W hC => rn_mv rfl) ?_
  refine q_v (v := (.func (.func g) #[] #[])) (fun W hC => rn_mv rfl) ?_
  refine q_v (v := (i64 0)) (fun W hC => rn_mv rfl) ?_
  refine q_v (v := (ptr b1 0)) (fun W hC => rn_iaA ia34 rfl (j := 0) rfl (by decide) (by decide) rfl) ?_
  refine q_v (v := (u32 a.a)) (fun W hC => rn_lb1 o32 rfl (hb1.ext0 hC) rfl) ?_
  refine q_v (v := (i64 0)) (fun W hC => rn_mv rfl) ?_
  refine q_v (v := (ptr b4 0)) (fun W hC => rn_iaA ia34 rfl (j := 0) rfl (by decide) (by decide) rfl) ?_
  refine q_v (v := (u32 b.a)) (fun W hC => rn_lb1 o32 rfl (hb4.ext0 hC) rfl) ?_
  refine q_callv hg (v := (u32 (φ a.a b.a))) (vs := [(u32 a.a), (u32 b.a)]) (ws := []) rfl rfl (fun W hC => hφ a.a b.a _) ?_
  refine q_v (v := (ptr b1 0)) (fun W hC => rn_iaA ia34 rfl (j := 0) rfl (by decide) (by decide) rfl) ?_
  refine ob_end (fun w10 x11 he12 hap13 => ?_)
  replace hE := hE.step0 x11
  replace hb1 := hb1.ext0 x11
  replace hb4 := hb4.ext0 x11
  replace hb7 := hb7.ext0 x11
  clear x11
  refine s_st (v := (u32 (φ a.a b.a))) (vs := [(u32 (φ a.a b.a))]) (cs' := (S4.cells (S4.mk (φ a.a b.a) a.b a.c a.d))) o32.2 rfl rfl rfl rfl hb1 (by simp) rfl rfl (fun w14 h_ x15 => ?_)
  replace hE := hE.step1 x15 (by first | (left; simp; done) | (right; omega))
  replace hb4 := hb4.ext1 x15 (by omega)
  replace hb7 := hb7.ext1 x15 (by omega)
  clear x15
  replace hb1 := h_; clear h_
  refine w_nil ?_
  refine b_norm ?_
  refine t_norm ?_
  refine c_r ?_
  refine s1 (v := (i64 1)) (rn_add (m := 0) (n := 1) rfl rfl (by decide)) ?_
  refine s1 (v := (i64 1)) (rn_mv rfl) ?_
  refine w_nil ?_
  refine t_norm ?_
  refine r_round ?_
  refine c_rs ?_
  refine s1 (v := (.bool true)) (rn_lss (m := 1) (n := 4) rfl rfl) ?_
  refine w_end ?_
  refine c_seq ?_
  refine c_T (b := true) rfl rfl ?_
  refine c_skip' ?_
  refine t_norm ?_
  refine c_seq ?_
  refine c_block ?_
  refine c_rs ?_
  refine s1 (v := (i64 1)) (rn_mv rfl) ?_
  refine s1 (v := (i64 1)) (rn_as rfl) ?_
  refine w_end ?_
  refine c_dr (n := 10) [.c (i64 1), .c (.func (.func g) #[] #[]), .c (i64 1), .c (ptr b1 1), .c (u32 a.b), .c (i64 1), .c (ptr b4 1), .c (u32 b.b), .c (u32 (φ a.b b.b)), .c (ptr b1 1)] rfl mixed (by kernel_rfl) ?_
  refine q_v (v := (i64 1)) (fun W hC => rn_mv rfl) ?_
  refine q_v (v := (.func (.func g) #[] #[])) (fun W hC => rn_mv rfl) ?_
  refine q_v (v := (i64 1)) (fun W hC => rn_mv rfl) ?_
  refine q_v (v := (ptr b1 1)) (fun W hC => rn_iaA ia34 rfl (j := 1) rfl (by decide) (by decide) rfl) ?_
  refine q_v (v := (u32 a.b)) (fun W hC => rn_lb1 o32 rfl (hb1.ext0 hC) rfl) ?_
  refine q_v (v := (i64 1)) (fun W hC => rn_mv rfl) ?_
  refine q_v (v := (ptr b4 1)) (fun W hC => rn_iaA ia34 rfl (j := 1) rfl (by decide) (by decide) rfl) ?_
  refine q_v (v := (u32 b.b)) (fun W hC => rn_lb1 o32 rfl (hb4.ext0 hC) rfl) ?_
  refine q_callv hg (v := (u32 (φ a.b b.b))) (vs := [(u32 a.b), (u32 b.b)]) (ws := []) rfl rfl (fun W hC => hφ a.b b.b _) ?_
  refine q_v (v := (ptr b1 1)) (fun W hC => rn_iaA ia34 rfl (j := 1) rfl (by decide) (by decide) rfl) ?_
  refine ob_end (fun w16 x17 he18 hap19 => ?_)
  replace hE := hE.step0 x17
  replace hb1 := hb1.ext0 x17
  replace hb4 := hb4.ext0 x17
  replace hb7 := hb7.ext0 x17
  clear x17
  refine s_st (v := (u32 (φ a.b b.b))) (vs := [(u32 (φ a.b b.b))]) (cs' := (S4.cells (S4.mk (φ a.a b.a) (φ a.b b.b) a.c a.d))) o32.2 rfl rfl rfl rfl hb1 (by simp) rfl rfl (fun w20 h_ x21 => ?_)
  replace hE := hE.step1 x21 (by first | (left; simp; done) | (right; omega))
  replace hb4 := hb4.ext1 x21 (by omega)
  replace hb7 := hb7.ext1 x21 (by omega)
  clear x21
  replace hb1 := h_; clear h_
  refine w_nil ?_
  refine b_norm ?_
  refine t_norm ?_
  refine c_r ?_
  refine s1 (v := (i64 2)) (rn_add (m := 1) (n := 1) rfl rfl (by decide)) ?_
  refine s1 (v := (i64 2)) (rn_mv rfl) ?_
  refine w_nil ?_
  refine t_norm ?_
  refine r_round ?_
  refine c_rs ?_
  refine s1 (v := (.bool true)) (rn_lss (m := 2) (n := 4) rfl rfl) ?_
  refine w_end ?_
  refine c_seq ?_
  refine c_T (b := true) rfl rfl ?_
  refine c_skip' ?_
  refine t_norm ?_
  refine c_seq ?_
  refine c_block ?_
  refine c_rs ?_
  refine s1 (v := (i64 2)) (rn_mv rfl) ?_
  refine s1 (v := (i64 2)) (rn_as rfl) ?_
  refine w_end ?_
  refine c_dr (n := 10) [.c (i64 2), .c (.func (.func g) #[] #[]), .c (i64 2), .c (ptr b1 2), .c (u32 a.c), .c (i64 2), .c (ptr b4 2), .c (u32 b.c), .c (u32 (φ a.c b.c)), .c (ptr b1 2)] rfl mixed (by kernel_rfl) ?_
  refine q_v (v := (i64 2)) (fun W hC => rn_mv rfl) ?_
  refine q_v (v := (.func (.func g) #[] #[])) (fun W hC => rn_mv rfl) ?_
  refine q_v (v := (i64 2)) (fun W hC => rn_mv rfl) ?_
  refine q_v (v := (ptr b1 2)) (fun W hC => rn_iaA ia34 rfl (j := 2) rfl (by decide) (by decide) rfl) ?_
  refine q_v (v := (u32 a.c)) (fun W hC => rn_lb1 o32 rfl (hb1.ext0 hC) rfl) ?_
  refine q_v (v := (i64 2)) (fun W hC => rn_mv rfl) ?_
  refine q_v (v := (ptr b4 2)) (fun W hC => rn_iaA ia34 rfl (j := 2) rfl (by decide) (by decide) rfl) ?_
  refine q_v (v := (u32 b.c)) (fun W hC => rn_lb1 o32 rfl (hb4.ext0 hC) rfl) ?_
  refine q_callv hg (v := (u32 (φ a.c b.c))) (vs := [(u32 a.c), (u32 b.c)]) (ws := []) rfl rfl (fun W hC => hφ a.c b.c _) ?_
  refine q_v (v := (ptr b1 2)) (fun W hC => rn_iaA ia34 rfl (j := 2) rfl (by decide) (by decide) rfl) ?_
  refine ob_end (fun w22 x23 he24 hap25 => ?_)
  replace hE := hE.step0 x23
  replace hb1 := hb1.ext0 x23
  replace hb4 := hb4.ext0 x23
  replace hb7 := hb7.ext0 x23
  clear x23
  refine s_st (v := (u32 (φ a.c b.c))) (vs := [(u32 (φ a.c b.c))]) (cs' := (S4.cells (S4.mk (φ a.a b.a) (φ a.b b.b) (φ a.c b.c) a.d))) o32.2 rfl rfl rfl rfl hb1 (by simp) rfl rfl (fun w26 h_ x27 => ?_)
  replace hE := hE.step1 x27 (by first | (left; simp; done) | (right; omega))
  replace hb4 := hb4.ext1 x27 (by omega)
  replace hb7 := hb7.ext1 x27 (by omega)
  clear x27
  replace hb1 := h_; clear h_
  refine w_nil ?_
  refine b_norm ?_
  refine t_norm ?_
  refine c_r ?_
  refine s1 (v := (i64 3)) (rn_add (m := 2) (n := 1) rfl rfl (by decide)) ?_
  refine s1 (v := (i64 3)) (rn_mv rfl) ?_
  refine w_nil ?_
  refine t_norm ?_
  refine r_round ?_
  refine c_rs ?_
  refine s1 (v := (.bool true)) (rn_lss (m := 3) (n := 4) rfl rfl) ?_
  refine w_end ?_
  refine c_seq ?_
  refine c_T (b := true) rfl rfl ?_
  refine c_skip' ?_
  refine t_norm ?_
  refine c_seq ?_
  refine c_block ?_
  refine c_rs ?_
  refine s1 (v := (i64 3)) (rn_mv rfl) ?_
  refine s1 (v := (i64 3)) (rn_as rfl) ?_
  refine w_end ?_
  refine c_dr (n := 10) [.c (i64 3), .c (.func (.func g) #[] #[]), .c (i64 3), .c (ptr b1 3), .c (u32 a.d), .c (i64 3), .c (ptr b4 3), .c (u32 b.d), .c (u32 (φ a.d b.d)), .c (ptr b1 3)] rfl mixed (by kernel_rfl) ?_
  refine q_v (v := (i64 3)) (fun W hC => rn_mv rfl) ?_
  refine q_v (v := (.func (.func g) #[] #[])) (fun W hC => rn_mv rfl) ?_
  refine q_v (v := (i64 3)) (fun W hC => rn_mv rfl) ?_
  refine q_v (v := (ptr b1 3)) (fun W hC => rn_iaA ia34 rfl (j := 3) rfl (by decide) (by decide) rfl) ?_
  refine q_v (v := (u32 a.d)) (fun W hC => rn_lb1 o32 rfl (hb1.ext0 hC) rfl) ?_
  refine q_v (v := (i64 3)) (fun W hC => rn_mv rfl) ?_
  refine q_v (v := (ptr b4 3)) (fun W hC => rn_iaA ia34 rfl (j := 3) rfl (by decide) (by decide) rfl) ?_
  refine q_v (v := (u32 b.d)) (fun W hC => rn_lb1 o32 rfl (hb4.ext0 hC) rfl) ?_
  refine q_callv hg (v := (u32 (φ a.d b.d))) (vs := [(u32 a.d), (u32 b.d)]) (ws := []) rfl rfl (fun W hC => hφ a.d b.d _) ?_
  refine q_v (v := (ptr b1 3)) (fun W hC => rn_iaA ia34 rfl (j := 3) rfl (by decide) (by decide) rfl) ?_
  refine ob_end (fun w28 x29 he30 hap31 => ?_)
  replace hE := hE.step0 x29
  replace hb1 := hb1.ext0 x29
  replace hb4 := hb4.ext0 x29
  replace hb7 := hb7.ext0 x29
  clear x29
  refine s_st (v := (u32 (φ a.d b.d))) (vs := [(u32 (φ a.d b.d))]) (cs' := (S4.cells (S4.mk (φ a.a b.a) (φ a.b b.b) (φ a.c b.c) (φ a.d b.d)))) o32.2 rfl rfl rfl rfl hb1 (by simp) rfl rfl (fun w32 h_ x33 => ?_)
  replace hE := hE.step1 x33 (by first | (left; simp; done) | (right; omega))
  replace hb4 := hb4.ext1 x33 (by omega)
  replace hb7 := hb7.ext1 x33 (by omega)
  clear x33
  replace hb1 := h_; clear h_
  refine w_nil ?_
  refine b_norm ?_
  refine t_norm ?_
  refine fr_eq (l' := (lk [(S4.val a), (S4.val b), (.func (.func g) #[] #[]), (ptr b1 0), (ptr b4 0), undef, (ptr b7 0), (i64 3), (i64 3), (.bool true), (i64 3), (i64 3), (.func (.func g) #[] #[]), (i64 3), (ptr b1 3), (u32 a.d), (i64 3), (ptr b4 3), (u32 b.d), (u32 (φ a.d b.d)), (ptr b1 3), (i64 3), undef])) (by kernel_rfl) ?_
  refine c_r ?_
  refine s1 (v := (i64 4)) (rn_add (m := 3) (n := 1) rfl rfl (by decide)) ?_
  refine s1 (v := (i64 4)) (rn_mv rfl) ?_
  refine w_nil ?_
  refine t_norm ?_
  refine r_round ?_
  refine c_rs ?_
  refine s1 (v := (.bool false)) (rn_lss (m := 4) (n := 4) rfl rfl) ?_
  refine w_end ?_
  refine c_seq ?_
  refine c_F (b := false) rfl rfl ?_
  refine c_exit ?_
  refine t_exit ?_
  refine t_exit ?_
  refine b_here ?_
  refine t_norm ?_
  refine c_rs ?_
  refine s1 (v := (S4.val (S4.mk (φ a.a b.a) (φ a.b b.b) (φ a.c b.c) (φ a.d b.d)))) (rn_lbN (vs := (S4.cells (S4.mk (φ a.a b.a) (φ a.b b.b) (φ a.c b.c) (φ a.d b.d)))) g34 rfl hb1 rfl rfl) ?_
  refine s_st (v := (S4.val (S4.mk (φ a.a b.a) (φ a.b b.b) (φ a.c b.c) (φ a.d b.d)))) (vs := (S4.cells (S4.mk (φ a.a b.a) (φ a.b b.b) (φ a.c b.c) (φ a.d b.d)))) (cs' := (S4.cells (S4.mk (φ a.a b.a) (φ a.b b.b) (φ a.c b.c) (φ a.d b.d)))) g34.2 rfl rfl rfl rfl hb7 (by simp) rfl rfl (fun w34 h_ x35 => ?_)
  replace hE := hE.step1 x35 (by first | (left; simp; done) | (right; omega))
  replace hb1 := hb1.ext1 x35 (by omega)
  replace hb4 := hb4.ext1 x35 (by omega)
  clear x35
  replace hb7 := h_; clear h_
  refine w_end ?_
  refine c_ret ?_
  refine bp_ret (rs1 rfl (rv_cN (vs := (S4.cells (S4.mk (φ a.a b.a) (φ a.b b.b) (φ a.c b.c) (φ a.d b.d)))) g34 rfl hb7 rfl rfl)) ?_
  exact ⟨rfl, hE⟩

theorem upTo_c (n : Int) (hn : 0 ≤ n ∧ n ≤ 100) (w0 : World) :
    Calls Try.prog 117 [(i64 n)].toArray w0 (Ret (Pu (S4.val (upToS n)) w0)) := by
  have hE : Ext [] w0 w0 := (Ext.refl w0).more (by simp)
  refine enter (vs := [(i64 n)]) Try.func117 rfl Try.ntmps117 rfl ?_
  refine c_rs ?_
  refine s_alloc (cs := [(u32 0), (u32 0), (u32 0), (u32 0)]) z34 rfl (fun b1 w2 hb1 gb1 x3 => ?_)
  have nb1_hE : w0.heap.size ≤ b1 := Nat.le_trans hE.size gb1
  clear gb1
  replace hE := hE.step0 x3
  clear x3
  refine w_end ?_
  refine c_rs ?_
  refine s_alloc (cs := [(u32 0), (u32 0), (u32 0), (u32 0)]) z34 rfl (fun b4 w5 hb4 gb4 x6 => ?_)
  have nb4_hE : w0.heap.size ≤ b4 := Nat.le_trans hE.size gb4
  have ob4 : b1 < b4 := Nat.lt_of_lt_of_le hb1.lt gb4
  clear gb4
  replace hE := hE.step0 x6
  replace hb1 := hb1.ext0 x6
  clear x6
  refine w_end ?_
  refine c_seq ?_
  refine c_rs ?_
  refine s1 (v := (i64 0)) (rn_mv rfl) ?_
  refine w_end ?_
  refine c_block ?_
  refine c_rounds 5 ?_
  refine r_round ?_
  refine c_rs ?_
  refine s1 (v := (.bool true)) (rn_lss (m := 0) (n := 4) rfl rfl) ?_
  refine w_end ?_
  refine c_seq ?_
  refine c_T (b := true) rfl rfl ?_
  refine c_skip' ?_
  refine t_norm ?_
  refine c_seq ?_
  refine c_block ?_
  refine c_rs ?_
  refine s1 (v := (i64 0)) (rn_mv rfl) ?_
  refine s1 (v := (i64 0)) (rn_as rfl) ?_
  refine w_end ?_
  refine c_rs ?_
  refine s1 (v := (i64 n)) (rn_mv rfl) ?_
  refine s1 (v := (i64 0)) (rn_mv rfl) ?_
  refine s1 (v := (i64 0)) (rn_mul (m := 0) (n := 32) rfl rfl (by decide)) ?_
  refine s1 (v := (i64 (n - 0))) (rn_sub (m := n) (n := 0) rfl rfl (wr64 (by omega) (by omega))) ?_
  refine s1 (v := (i64 (imx (n - 0) 0))) (rn_max (m := n - 0) (n := 0) rfl rfl) ?_
  refine s1 (v := (i64 (imn (imx (n - 0) 0) 32))) (rn_min (m := imx (n - 0) 0) (n := 32) rfl rfl) ?_
  refine s1 (v := (i64 (imn (imx (n - 0) 0) 32))) (rn_as rfl) ?_
  refine w_end ?_
  refine c_r ?_
  refine s1 (v := (i64 0)) (rn_mv rfl) ?_
  refine s1 (v := (i64 (imn (imx (n - 0) 0) 32))) (rn_mv rfl) ?_
  refine s1 (v := (u32 (IntKind.u32.wrap (1 * 2 ^ (imn (imx (n - 0) 0) 32).toNat)))) (rn_shlI (m := 1) (n := imn (imx (n - 0) 0) 32) rfl rfl (by first | omega | exact (some_b _).1) (by first | omega | (have := some_b; simp only [IntKind.bits]; have h__ := this (n - 0); omega)) rfl) ?_
  refine s1 (v := (u32 (IntKind.u32.wrap (IntKind.u32.wrap (1 * 2 ^ (imn (imx (n - 0) 0) 32).toNat) - 1)))) (rn_sub (m := IntKind.u32.wrap (1 * 2 ^ (imn (imx (n - 0) 0) 32).toNat)) (n := 1) rfl rfl rfl) ?_
  refine s1 (v := (ptr b4 0)) (rn_iaA ia34 rfl (j := 0) rfl (by decide) (by decide) rfl) ?_
  refine s_st (v := (u32 (IntKind.u32.wrap (IntKind.u32.wrap (1 * 2 ^ (imn (imx (n - 0) 0) 32).toNat) - 1)))) (vs := [(u32 (IntKind.u32.wrap (IntKind.u32.wrap (1 * 2 ^ (imn (imx (n - 0) 0) 32).toNat) - 1)))]) (cs' := [(u32 (IntKind.u32.wrap (IntKind.u32.wrap (1 * 2 ^ (imn (imx (n - 0) 0) 32).toNat) - 1))), (u32 0), (u32 0), (u32 0)]) o32.2 rfl rfl rfl rfl hb4 (by simp) rfl rfl (fun w7 h_ x8 => ?_)
  replace hE := hE.step1 x8 (by first | (left; simp; done) | (right; omega))
  replace hb1 := hb1.ext1 x8 (by omega)
  clear x8
  replace hb4 := h_; clear h_
  refine w_nil ?_
  refine b_norm ?_
  refine t_norm ?_
  refine c_r ?_
  refine s1 (v := (i64 1)) (rn_add (m := 0) (n := 1) rfl rfl (by decide)) ?_
  refine s1 (v := (i64 1)) (rn_mv rfl) ?_
  refine w_nil ?_
  refine t_norm ?_
  refine r_round ?_
  refine c_rs ?_
  refine s1 (v := (.bool true)) (rn_lss (m := 1) (n := 4) rfl rfl) ?_
  refine w_end ?_
  refine c_seq ?_
  refine c_T (b := true) rfl rfl ?_
  refine c_skip' ?_
  refine t_norm ?_
  refine c_seq ?_
  refine c_block ?_
  refine c_rs ?_
  refine s1 (v := (i64 1)) (rn_mv rfl) ?_
  refine s1 (v := (i64 1)) (rn_as rfl) ?_
  refine w_end ?_
  refine c_rs ?_
  refine s1 (v := (i64 n)) (rn_mv rfl) ?_
  refine s1 (v := (i64 1)) (rn_mv rfl) ?_
  refine s1 (v := (i64 32)) (rn_mul (m := 1) (n := 32) rfl rfl (by decide)) ?_
  refine s1 (v := (i64 (n - 32))) (rn_sub (m := n) (n := 32) rfl rfl (wr64 (by omega) (by omega))) ?_
  refine s1 (v := (i64 (imx (n - 32) 0))) (rn_max (m := n - 32) (n := 0) rfl rfl) ?_
  refine s1 (v := (i64 (imn (imx (n - 32) 0) 32))) (rn_min (m := imx (n - 32) 0) (n := 32) rfl rfl) ?_
  refine s1 (v := (i64 (imn (imx (n - 32) 0) 32))) (rn_as rfl) ?_
  refine w_end ?_
  refine c_r ?_
  refine s1 (v := (i64 1)) (rn_mv rfl) ?_
  refine s1 (v := (i64 (imn (imx (n - 32) 0) 32))) (rn_mv rfl) ?_
  refine s1 (v := (u32 (IntKind.u32.wrap (1 * 2 ^ (imn (imx (n - 32) 0) 32).toNat)))) (rn_shlI (m := 1) (n := imn (imx (n - 32) 0) 32) rfl rfl (by first | omega | exact (some_b _).1) (by first | omega | (have := some_b; simp only [IntKind.bits]; have h__ := this (n - 32); omega)) rfl) ?_
  refine s1 (v := (u32 (IntKind.u32.wrap (IntKind.u32.wrap (1 * 2 ^ (imn (imx (n - 32) 0) 32).toNat) - 1)))) (rn_sub (m := IntKind.u32.wrap (1 * 2 ^ (imn (imx (n - 32) 0) 32).toNat)) (n := 1) rfl rfl rfl) ?_
  refine s1 (v := (ptr b4 1)) (rn_iaA ia34 rfl (j := 1) rfl (by decide) (by decide) rfl) ?_
  refine s_st (v := (u32 (IntKind.u32.wrap (IntKind.u32.wrap (1 * 2 ^ (imn (imx (n - 32) 0) 32).toNat) - 1)))) (vs := [(u32 (IntKind.u32.wrap (IntKind.u32.wrap (1 * 2 ^ (imn (imx (n - 32) 0) 32).toNat) - 1)))]) (cs' := [(u32 (IntKind.u32.wrap (IntKind.u32.wrap (1 * 2 ^ (imn (imx (n - 0) 0) 32).toNat) - 1))), (u32 (IntKind.u32.wrap (IntKind.u32.wrap (1 * 2 ^ (imn (imx (n - 32) 0) 32).toNat) - 1))), (u32 0), (u32 0)]) o32.2 rfl rfl rfl rfl hb4 (by simp) rfl rfl (fun w9 h_ x10 => ?_)
  replace hE := hE.step1 x10 (by first | (left; simp; done) | (right; omega))
  replace hb1 := hb1.ext1 x10 (by omega)
  clear x10
  replace hb4 := h_; clear h_
  refine w_nil ?_
  refine b_norm ?_
  refine t_norm ?_
  refine c_r ?_
  refine s1 (v := (i64 2)) (rn_add (m := 1) (n := 1) rfl rfl (by decide)) ?_
  refine s1 (v := (i64 2)) (rn_mv rfl) ?_
  refine w_nil ?_
  refine t_norm ?_
  refine r_round ?_
  refine c_rs ?_
  refine s1 (v := (.bool true)) (rn_lss (m := 2) (n := 4) rfl rfl) ?_
  refine w_end ?_
  refine c_seq ?_
  refine c_T (b := true) rfl rfl ?_
  refine c_skip' ?_
  refine t_norm ?_
  refine c_seq ?_
  refine c_block ?_
  refine c_rs ?_
  refine s1 (v := (i64 2)) (rn_mv rfl) ?_
  refine s1 (v := (i64 2)) (rn_as rfl) ?_
  refine w_end ?_
  refine c_rs ?_
  refine s1 (v := (i64 n)) (rn_mv rfl) ?_
  refine s1 (v := (i64 2)) (rn_mv rfl) ?_
  refine s1 (v := (i64 64)) (rn_mul (m := 2) (n := 32) rfl rfl (by decide)) ?_
  refine s1 (v := (i64 (n - 64))) (rn_sub (m := n) (n := 64) rfl rfl (wr64 (by omega) (by omega))) ?_
  refine s1 (v := (i64 (imx (n - 64) 0))) (rn_max (m := n - 64) (n := 0) rfl rfl) ?_
  refine s1 (v := (i64 (imn (imx (n - 64) 0) 32))) (rn_min (m := imx (n - 64) 0) (n := 32) rfl rfl) ?_
  refine s1 (v := (i64 (imn (imx (n - 64) 0) 32))) (rn_as rfl) ?_
  refine w_end ?_
  refine c_r ?_
  refine s1 (v := (i64 2)) (rn_mv rfl) ?_
  refine s1 (v := (i64 (imn (imx (n - 64) 0) 32))) (rn_mv rfl) ?_
  refine s1 (v := (u32 (IntKind.u32.wrap (1 * 2 ^ (imn (imx (n - 64) 0) 32).toNat)))) (rn_shlI (m := 1) (n := imn (imx (n - 64) 0) 32) rfl rfl (by first | omega | exact (some_b _).1) (by first | omega | (have := some_b; simp only [IntKind.bits]; have h__ := this (n - 64); omega)) rfl) ?_
  refine s1 (v := (u32 (IntKind.u32.wrap (IntKind.u32.wrap (1 * 2 ^ (imn (imx (n - 64) 0) 32).toNat) - 1)))) (rn_sub (m := IntKind.u32.wrap (1 * 2 ^ (imn (imx (n - 64) 0) 32).toNat)) (n := 1) rfl rfl rfl) ?_
  refine s1 (v := (ptr b4 2)) (rn_iaA ia34 rfl (j := 2) rfl (by decide) (by decide) rfl) ?_
  refine s_st (v := (u32 (IntKind.u32.wrap (IntKind.u32.wrap (1 * 2 ^ (imn (imx (n - 64) 0) 32).toNat) - 1)))) (vs := [(u32 (IntKind.u32.wrap (IntKind.u32.wrap (1 * 2 ^ (imn (imx (n - 64) 0) 32).toNat) - 1)))]) (cs' := [(u32 (IntKind.u32.wrap (IntKind.u32.wrap (1 * 2 ^ (imn (imx (n - 0) 0) 32).toNat) - 1))), (u32 (IntKind.u32.wrap (IntKind.u32.wrap (1 * 2 ^ (imn (imx (n - 32) 0) 32).toNat) - 1))), (u32 (IntKind.u32.wrap (IntKind.u32.wrap (1 * 2 ^ (imn (imx (n - 64) 0) 32).toNat) - 1))), (u32 0)]) o32.2 rfl rfl rfl rfl hb4 (by simp) rfl rfl (fun w11 h_ x12 => ?_)
  replace hE := hE.step1 x12 (by first | (left; simp; done) | (right; omega))
  replace hb1 := hb1.ext1 x12 (by omega)
  clear x12
  replace hb4 := h_; clear h_
  refine w_nil ?_
  refine b_norm ?_
  refine t_norm ?_
  refine c_r ?_
  refine s1 (v := (i64 3)) (rn_add (m := 2) (n := 1) rfl rfl (by decide)) ?_
  refine s1 (v := (i64 3)) (rn_mv rfl) ?_
  refine w_nil ?_
  refine t_norm ?_
  refine r_round ?_
  refine c_rs ?_
  refine s1 (v := (.bool true)) (rn_lss (m := 3) (n := 4) rfl rfl) ?_
  refine w_end ?_
  refine c_seq ?_
  refine c_T (b := true) rfl rfl ?_
  refine c_skip' ?_
  refine t_norm ?_
  refine c_seq ?_
  refine c_block ?_
  refine c_rs ?_
  refine s1 (v := (i64 3)) (rn_mv rfl) ?_
  refine s1 (v := (i64 3)) (rn_as rfl) ?_
  refine w_end ?_
  refine c_rs ?_
  refine s1 (v := (i64 n)) (rn_mv rfl) ?_
  refine s1 (v := (i64 3)) (rn_mv rfl) ?_
  refine s1 (v := (i64 96)) (rn_mul (m := 3) (n := 32) rfl rfl (by decide)) ?_
  refine s1 (v := (i64 (n - 96))) (rn_sub (m := n) (n := 96) rfl rfl (wr64 (by omega) (by omega))) ?_
  refine s1 (v := (i64 (imx (n - 96) 0))) (rn_max (m := n - 96) (n := 0) rfl rfl) ?_
  refine s1 (v := (i64 (imn (imx (n - 96) 0) 32))) (rn_min (m := imx (n - 96) 0) (n := 32) rfl rfl) ?_
  refine s1 (v := (i64 (imn (imx (n - 96) 0) 32))) (rn_as rfl) ?_
  refine w_end ?_
  refine fr_eq (l' := (lk [(i64 n), undef, (ptr b1 0), (ptr b4 0), (i64 3), (i64 (imn (imx (n - 96) 0) 32)), (i64 3), (.bool true), (i64 3), (i64 n), (i64 3), (i64 96), (i64 (n - 96)), (i64 (imx (n - 96) 0)), (i64 (imn (imx (n - 96) 0) 32)), (i64 2), (i64 (imn (imx (n - 64) 0) 32)), (u32 (IntKind.u32.wrap (1 * 2 ^ (imn (imx (n - 64) 0) 32).toNat))), (u32 (IntKind.u32.wrap (IntKind.u32.wrap (1 * 2 ^ (imn (imx (n - 64) 0) 32).toNat) - 1))), (ptr b4 2), (i64 3), undef])) (by kernel_rfl) ?_
  refine c_r ?_
  refine s1 (v := (i64 3)) (rn_mv rfl) ?_
  refine s1 (v := (i64 (imn (imx (n - 96) 0) 32))) (rn_mv rfl) ?_
  refine s1 (v := (u32 (IntKind.u32.wrap (1 * 2 ^ (imn (imx (n - 96) 0) 32).toNat)))) (rn_shlI (m := 1) (n := imn (imx (n - 96) 0) 32) rfl rfl (by first | omega | exact (some_b _).1) (by first | omega | (have := some_b; simp only [IntKind.bits]; have h__ := this (n - 96); omega)) rfl) ?_
  refine s1 (v := (u32 (IntKind.u32.wrap (IntKind.u32.wrap (1 * 2 ^ (imn (imx (n - 96) 0) 32).toNat) - 1)))) (rn_sub (m := IntKind.u32.wrap (1 * 2 ^ (imn (imx (n - 96) 0) 32).toNat)) (n := 1) rfl rfl rfl) ?_
  refine s1 (v := (ptr b4 3)) (rn_iaA ia34 rfl (j := 3) rfl (by decide) (by decide) rfl) ?_
  refine s_st (v := (u32 (IntKind.u32.wrap (IntKind.u32.wrap (1 * 2 ^ (imn (imx (n - 96) 0) 32).toNat) - 1)))) (vs := [(u32 (IntKind.u32.wrap (IntKind.u32.wrap (1 * 2 ^ (imn (imx (n - 96) 0) 32).toNat) - 1)))]) (cs' := [(u32 (IntKind.u32.wrap (IntKind.u32.wrap (1 * 2 ^ (imn (imx (n - 0) 0) 32).toNat) - 1))), (u32 (IntKind.u32.wrap (IntKind.u32.wrap (1 * 2 ^ (imn (imx (n - 32) 0) 32).toNat) - 1))), (u32 (IntKind.u32.wrap (IntKind.u32.wrap (1 * 2 ^ (imn (imx (n - 64) 0) 32).toNat) - 1))), (u32 (IntKind.u32.wrap (IntKind.u32.wrap (1 * 2 ^ (imn (imx (n - 96) 0) 32).toNat) - 1)))]) o32.2 rfl rfl rfl rfl hb4 (by simp) rfl rfl (fun w13 h_ x14 => ?_)
  replace hE := hE.step1 x14 (by first | (left; simp; done) | (right; omega))
  replace hb1 := hb1.ext1 x14 (by omega)
  clear x14
  replace hb4 := h_; clear h_
  refine w_nil ?_
  refine b_norm ?_
  refine t_norm ?_
  refine c_r ?_
  refine s1 (v := (i64 4)) (rn_add (m := 3) (n := 1) rfl rfl (by decide)) ?_
  refine s1 (v := (i64 4)) (rn_mv rfl) ?_
  refine w_nil ?_
  refine t_norm ?_
  refine r_round ?_
  refine c_rs ?_
  refine s1 (v := (.bool false)) (rn_lss (m := 4) (n := 4) rfl rfl) ?_
  refine w_end ?_
  refine c_seq ?_
  refine c_F (b := false) rfl rfl ?_
  refine c_exit ?_
  refine t_exit ?_
  refine t_exit ?_
  refine b_here ?_
  refine t_norm ?_
  refine c_rs ?_
  refine s1 (v := (S4.val (S4.mk (IntKind.u32.wrap (IntKind.u32.wrap (1 * 2 ^ (imn (imx (n - 0) 0) 32).toNat) - 1)) (IntKind.u32.wrap (IntKind.u32.wrap (1 * 2 ^ (imn (imx (n - 32) 0) 32).toNat) - 1)) (IntKind.u32.wrap (IntKind.u32.wrap (1 * 2 ^ (imn (imx (n - 64) 0) 32).toNat) - 1)) (IntKind.u32.wrap (IntKind.u32.wrap (1 * 2 ^ (imn (imx (n - 96) 0) 32).toNat) - 1))))) (rn_lbN (vs := (S4.cells (S4.mk (IntKind.u32.wrap (IntKind.u32.wrap (1 * 2 ^ (imn (imx (n - 0) 0) 32).toNat) - 1)) (IntKind.u32.wrap (IntKind.u32.wrap (1 * 2 ^ (imn (imx (n - 32) 0) 32).toNat) - 1)) (IntKind.u32.wrap (IntKind.u32.wrap (1 * 2 ^ (imn (imx (n - 64) 0) 32).toNat) - 1)) (IntKind.u32.wrap (IntKind.u32.wrap (1 * 2 ^ (imn (imx (n - 96) 0) 32).toNat) - 1))))) g34 rfl hb4 rfl rfl) ?_
  refine s_st (v := (S4.val (S4.mk (IntKind.u32.wrap (IntKind.u32.wrap (1 * 2 ^ (imn (imx (n - 0) 0) 32).toNat) - 1)) (IntKind.u32.wrap (IntKind.u32.wrap (1 * 2 ^ (imn (imx (n - 32) 0) 32).toNat) - 1)) (IntKind.u32.wrap (IntKind.u32.wrap (1 * 2 ^ (imn (imx (n - 64) 0) 32).toNat) - 1)) (IntKind.u32.wrap (IntKind.u32.wrap (1 * 2 ^ (imn (imx (n - 96) 0) 32).toNat) - 1))))) (vs := (S4.cells (S4.mk (IntKind.u32.wrap (IntKind.u32.wrap (1 * 2 ^ (imn (imx (n - 0) 0) 32).toNat) - 1)) (IntKind.u32.wrap (IntKind.u32.wrap (1 * 2 ^ (imn (imx (n - 32) 0) 32).toNat) - 1)) (IntKind.u32.wrap (IntKind.u32.wrap (1 * 2 ^ (imn (imx (n - 64) 0) 32).toNat) - 1)) (IntKind.u32.wrap (IntKind.u32.wrap (1 * 2 ^ (imn (imx (n - 96) 0) 32).toNat) - 1))))) (cs' := (S4.cells (S4.mk (IntKind.u32.wrap (IntKind.u32.wrap (1 * 2 ^ (imn (imx (n - 0) 0) 32).toNat) - 1)) (IntKind.u32.wrap (IntKind.u32.wrap (1 * 2 ^ (imn (imx (n - 32) 0) 32).toNat) - 1)) (IntKind.u32.wrap (IntKind.u32.wrap (1 * 2 ^ (imn (imx (n - 64) 0) 32).toNat) - 1)) (IntKind.u32.wrap (IntKind.u32.wrap (1 * 2 ^ (imn (imx (n - 96) 0) 32).toNat) - 1))))) g34.2 rfl rfl rfl rfl hb1 (by simp) rfl rfl (fun w15 h_ x16 => ?_)
  replace hE := hE.step1 x16 (by first | (left; simp; done) | (right; omega))
  replace hb4 := hb4.ext1 x16 (by omega)
  clear x16
  replace hb1 := h_; clear h_
  refine w_end ?_
  refine c_ret ?_
  refine bp_ret (rs1 rfl (rv_cN (vs := (S4.cells (S4.mk (IntKind.u32.wrap (IntKind.u32.wrap (1 * 2 ^ (imn (imx (n - 0) 0) 32).toNat) - 1)) (IntKind.u32.wrap (IntKind.u32.wrap (1 * 2 ^ (imn (imx (n - 32) 0) 32).toNat) - 1)) (IntKind.u32.wrap (IntKind.u32.wrap (1 * 2 ^ (imn (imx (n - 64) 0) 32).toNat) - 1)) (IntKind.u32.wrap (IntKind.u32.wrap (1 * 2 ^ (imn (imx (n - 96) 0) 32).toNat) - 1))))) g34 rfl hb1 rfl rfl)) ?_
  exact ⟨rfl, hE⟩

theorem Clean_c (s : S4) (w0 : World) :
    Calls Try.prog 91 [(S4.val s)].toArray w0 (Ret (Pu (S4.val (cleanS s)) w0)) := by
  have hE : Ext [] w0 w0 := (Ext.refl w0).more (by simp)
  refine enter (vs := [(S4.val s)]) Try.func91 rfl Try.ntmps91 rfl ?_
  refine c_rs ?_
  refine s_box (v := (S4.val s)) (cs := (S4.cells s)) rfl rfl (fun b1 w2 hb1 gb1 x3 => ?_)
  have nb1_hE : w0.heap.size ≤ b1 := Nat.le_trans hE.size gb1
  clear gb1
  replace hE := hE.step0 x3
  clear x3
  refine s_alloc (cs := [(u32 0), (u32 0), (u32 0), (u32 0)]) z34 rfl (fun b4 w5 hb4 gb4 x6 => ?_)
  have nb4_hE : w0.heap.size ≤ b4 := Nat.le_trans hE.size gb4
  have ob4 : b1 < b4 := Nat.lt_of_lt_of_le hb1.lt gb4
  clear gb4
  replace hE := hE.step0 x6
  replace hb1 := hb1.ext0 x6
  clear x6
  refine w_end ?_
  refine c_seq ?_
  refine c_dr (n := 3) [.c (S4.val s), .c (S4.val (upToS 100)), .c (S4.val (map2 (bAnd .u32) s (upToS 100)))] rfl mixed (by kernel_rfl) ?_
  refine q_v (v := (S4.val s)) (fun W hC => rn_lbN (vs := (S4.cells s)) g34 rfl (hb1.ext0 hC) rfl rfl) ?_
  refine q_call e117 (v := (S4.val (upToS 100))) (vs := [(i64 100)]) rfl (fun W hC => upTo_c 100 (by decide) _) ?_
  refine q_call e93 (v := (S4.val (map2 (bAnd .u32) s (upToS 100)))) (vs := [(S4.val s), (S4.val (upToS 100)), (.func (.func 128) #[] #[])]) rfl (fun W hC => each_c s (upToS 100) 128 (bAnd .u32) e128 cl128_c _) ?_
  refine ob_end (fun w7 x8 he9 hap10 => ?_)
  replace hE := hE.step0 x8
  replace hb1 := hb1.ext0 x8
  replace hb4 := hb4.ext0 x8
  clear x8
  refine s_st (v := (S4.val (map2 (bAnd .u32) s (upToS 100)))) (vs := (S4.cells (map2 (bAnd .u32) s (upToS 100)))) (cs' := (S4.cells (map2 (bAnd .u32) s (upToS 100)))) g34.2 rfl rfl rfl rfl hb4 (by simp) rfl rfl (fun w11 h_ x12 => ?_)
  replace hE := hE.step1 x12 (by first | (left; simp; done) | (right; omega))
  replace hb1 := hb1.ext1 x12 (by omega)
  clear x12
  replace hb4 := h_; clear h_
  refine w_end ?_
  refine c_ret ?_
  refine bp_ret (rs1 rfl (rv_cN (vs := (S4.cells (map2 (bAnd .u32) s (upToS 100)))) g34 rfl hb4 rfl rfl)) ?_
  exact ⟨rfl, hE⟩

theorem Within_c (s : S4) (n : Int) (w0 : World) :
    Calls Try.prog 78 [(S4.val s), (i64 n)].toArray w0 (Ret (Pu (.bool (withinB s n)) w0)) := by
  have hE : Ext [] w0 w0 := (Ext.refl w0).more (by simp)
  refine enter (vs := [(S4.val s), (i64 n)]) Try.func78 rfl Try.ntmps78 rfl ?_
  refine c_rs ?_
  refine s_box (v := (S4.val s)) (cs := (S4.cells s)) rfl rfl (fun b1 w2 hb1 gb1 x3 => ?_)
  have nb1_hE : w0.heap.size ≤ b1 := Nat.le_trans hE.size gb1
  clear gb1
  replace hE := hE.step0 x3
  clear x3
  refine s1 (v := (.bool false)) (rn_as rfl) ?_
  refine w_end ?_
  refine c_seq ?_
  refine c_dr (n := 9) [.c (S4.val s), .c (i64 n), .c (i64 (imx n 0)), .c (i64 (imn (imx n 0) 100)), .c (S4.val (upToS (imn (imx n 0) 100))), .c (S4.val (map2 (bAnd .u32) s (upToS (imn (imx n 0) 100)))), .c (S4.val s), .c (.bool (decide ((map2 (bAnd .u32) s (upToS (imn (imx n 0) 100))) = s))), .c (.bool (decide ((map2 (bAnd .u32) s (upToS (imn (imx n 0) 100))) = s)))] rfl mixed (by kernel_rfl) ?_
  refine q_v (v := (S4.val s)) (fun W hC => rn_lbN (vs := (S4.cells s)) g34 rfl (hb1.ext0 hC) rfl rfl) ?_
  refine q_v (v := (i64 n)) (fun W hC => rn_mv rfl) ?_
  refine q_v (v := (i64 (imx n 0))) (fun W hC => rn_max (m := n) (n := 0) rfl rfl) ?_
  refine q_v (v := (i64 (imn (imx n 0) 100))) (fun W hC => rn_min (m := imx n 0) (n := 100) rfl rfl) ?_
  refine q_call e117 (v := (S4.val (upToS (imn (imx n 0) 100)))) (vs := [(i64 (imn (imx n 0) 100))]) rfl (fun W hC => upTo_c (imn (imx n 0) 100) (by first | omega | exact hund_b _) _) ?_
  refine q_call e93 (v := (S4.val (map2 (bAnd .u32) s (upToS (imn (imx n 0) 100))))) (vs := [(S4.val s), (S4.val (upToS (imn (imx n 0) 100))), (.func (.func 125) #[] #[])]) rfl (fun W hC => each_c s (upToS (imn (imx n 0) 100)) 125 (bAnd .u32) e125 cl125_c _) ?_
  refine q_v (v := (S4.val s)) (fun W hC => rn_lbN (vs := (S4.cells s)) g34 rfl (hb1.ext0 hC) rfl rfl) ?_
  refine q_v (v := (.bool (decide ((map2 (bAnd .u32) s (upToS (imn (imx n 0) 100))) = s)))) (fun W hC => eq34 (a := (map2 (bAnd .u32) s (upToS (imn (imx n 0) 100)))) (b := s) rfl rfl) ?_
  refine q_v (v := (.bool (decide ((map2 (bAnd .u32) s (upToS (imn (imx n 0) 100))) = s)))) (fun W hC => rn_as rfl) ?_
  refine ob_end (fun w4 x5 he6 hap7 => ?_)
  replace hE := hE.step0 x5
  replace hb1 := hb1.ext0 x5
  clear x5
  refine w_end ?_
  refine c_ret ?_
  refine bp_ret (rs1 rfl (rv_tmp (v := (.bool (decide ((map2 (bAnd .u32) s (upToS (imn (imx n 0) 100))) = s)))) rfl)) ?_
  exact ⟨rfl, hE⟩

theorem Union_c (a b : S4) (w0 : World) :
    Calls Try.prog 68 [(S4.val a), (S4.val b)].toArray w0 (Ret (Pu (S4.val (unionS a b)) w0)) := by
  have hE : Ext [] w0 w0 := (Ext.refl w0).more (by simp)
  refine enter (vs := [(S4.val a), (S4.val b)]) Try.func68 rfl Try.ntmps68 rfl ?_
  refine c_rs ?_
  refine s_box (v := (S4.val a)) (cs := (S4.cells a)) rfl rfl (fun b1 w2 hb1 gb1 x3 => ?_)
  have nb1_hE : w0.heap.size ≤ b1 := Nat.le_trans hE.size gb1
  clear gb1
  replace hE := hE.step0 x3
  clear x3
  refine s_box (v := (S4.val b)) (cs := (S4.cells b)) rfl rfl (fun b4 w5 hb4 gb4 x6 => ?_)
  have nb4_hE : w0.heap.size ≤ b4 := Nat.le_trans hE.size gb4
  have ob4 : b1 < b4 := Nat.lt_of_lt_of_le hb1.lt gb4
  clear gb4
  replace hE := hE.step0 x6
  replace hb1 := hb1.ext0 x6
  clear x6
  refine s_alloc (cs := [(u32 0), (u32 0), (u32 0), (u32 0)]) z34 rfl (fun b7 w8 hb7 gb7 x9 => ?_)
  have nb7_hE : w0.heap.size ≤ b7 := Nat.le_trans hE.size gb7
  have ob7 : b4 < b7 := Nat.lt_of_lt_of_le hb4.lt gb7
  clear gb7
  replace hE := hE.step0 x9
  replace hb1 := hb1.ext0 x9
  replace hb4 := hb4.ext0 x9
  clear x9
  refine w_end ?_
  refine c_rs ?_
  refine s1 (v := (S4.val a)) (rn_lbN (vs := (S4.cells a)) g34 rfl hb1 rfl rfl) ?_
  refine s1 (v := (S4.val b)) (rn_lbN (vs := (S4.cells b)) g34 rfl hb4 rfl rfl) ?_
  refine s_callP e93 (v := (S4.val (map2 (bOr .u32) a b))) (vs := [(S4.val a), (S4.val b), (.func (.func 118) #[] #[])]) rfl (each_c a b 118 (bOr .u32) e118 cl118_c _) (fun w10 x11 => ?_)
  replace hE := hE.step0 x11
  replace hb1 := hb1.ext0 x11
  replace hb4 := hb4.ext0 x11
  replace hb7 := hb7.ext0 x11
  clear x11
  refine s_callP e91 (v := (S4.val (cleanS (map2 (bOr .u32) a b)))) (vs := [(S4.val (map2 (bOr .u32) a b))]) rfl (Clean_c (map2 (bOr .u32) a b) _) (fun w12 x13 => ?_)
  replace hE := hE.step0 x13
  replace hb1 := hb1.ext0 x13
  replace hb4 := hb4.ext0 x13
  replace hb7 := hb7.ext0 x13
  clear x13
  refine s_st (v := (S4.val (cleanS (map2 (bOr .u32) a b)))) (vs := (S4.cells (cleanS (map2 (bOr .u32) a b)))) (cs' := (S4.cells (cleanS (map2 (bOr .u32) a b)))) g34.2 rfl rfl rfl rfl hb7 (by simp) rfl rfl (fun w14 h_ x15 => ?_)
  replace hE := hE.step1 x15 (by first | (left; simp; done) | (right; omega))
  replace hb1 := hb1.ext1 x15 (by omega)
  replace hb4 := hb4.ext1 x15 (by omega)
  clear x15
  replace hb7 := h_; clear h_
  refine w_end ?_
  refine c_ret ?_
  refine bp_ret (rs1 rfl (rv_cN (vs := (S4.cells (cleanS (map2 (bOr .u32) a b)))) g34 rfl hb7 rfl rfl)) ?_
  exact ⟨rfl, hE⟩

theorem Meet_c (a b : S4) (w0 : World) :
    Calls Try.prog 32 [(S4.val a), (S4.val b)].toArray w0 (Ret (Pu (S4.val (meetS a b)) w0)) := by
  have hE : Ext [] w0 w0 := (Ext.refl w0).more (by simp)
  refine enter (vs := [(S4.val a), (S4.val b)]) Try.func32 rfl Try.ntmps32 rfl ?_
  refine c_rs ?_
  refine s_box (v := (S4.val a)) (cs := (S4.cells a)) rfl rfl (fun b1 w2 hb1 gb1 x3 => ?_)
  have nb1_hE : w0.heap.size ≤ b1 := Nat.le_trans hE.size gb1
  clear gb1
  replace hE := hE.step0 x3
  clear x3
  refine s_box (v := (S4.val b)) (cs := (S4.cells b)) rfl rfl (fun b4 w5 hb4 gb4 x6 => ?_)
  have nb4_hE : w0.heap.size ≤ b4 := Nat.le_trans hE.size gb4
  have ob4 : b1 < b4 := Nat.lt_of_lt_of_le hb1.lt gb4
  clear gb4
  replace hE := hE.step0 x6
  replace hb1 := hb1.ext0 x6
  clear x6
  refine s_alloc (cs := [(u32 0), (u32 0), (u32 0), (u32 0)]) z34 rfl (fun b7 w8 hb7 gb7 x9 => ?_)
  have nb7_hE : w0.heap.size ≤ b7 := Nat.le_trans hE.size gb7
  have ob7 : b4 < b7 := Nat.lt_of_lt_of_le hb4.lt gb7
  clear gb7
  replace hE := hE.step0 x9
  replace hb1 := hb1.ext0 x9
  replace hb4 := hb4.ext0 x9
  clear x9
  refine w_end ?_
  refine c_rs ?_
  refine s1 (v := (S4.val a)) (rn_lbN (vs := (S4.cells a)) g34 rfl hb1 rfl rfl) ?_
  refine s1 (v := (S4.val b)) (rn_lbN (vs := (S4.cells b)) g34 rfl hb4 rfl rfl) ?_
  refine s_callP e93 (v := (S4.val (map2 (bAnd .u32) a b))) (vs := [(S4.val a), (S4.val b), (.func (.func 94) #[] #[])]) rfl (each_c a b 94 (bAnd .u32) e94 cl94_c _) (fun w10 x11 => ?_)
  replace hE := hE.step0 x11
  replace hb1 := hb1.ext0 x11
  replace hb4 := hb4.ext0 x11
  replace hb7 := hb7.ext0 x11
  clear x11
  refine s_callP e91 (v := (S4.val (cleanS (map2 (bAnd .u32) a b)))) (vs := [(S4.val (map2 (bAnd .u32) a b))]) rfl (Clean_c (map2 (bAnd .u32) a b) _) (fun w12 x13 => ?_)
  replace hE := hE.step0 x13
  replace hb1 := hb1.ext0 x13
  replace hb4 := hb4.ext0 x13
  replace hb7 := hb7.ext0 x13
  clear x13
  refine s_st (v := (S4.val (cleanS (map2 (bAnd .u32) a b)))) (vs := (S4.cells (cleanS (map2 (bAnd .u32) a b)))) (cs' := (S4.cells (cleanS (map2 (bAnd .u32) a b)))) g34.2 rfl rfl rfl rfl hb7 (by simp) rfl rfl (fun w14 h_ x15 => ?_)
  replace hE := hE.step1 x15 (by first | (left; simp; done) | (right; omega))
  replace hb1 := hb1.ext1 x15 (by omega)
  replace hb4 := hb4.ext1 x15 (by omega)
  clear x15
  replace hb7 := h_; clear h_
  refine w_end ?_
  refine c_ret ?_
  refine bp_ret (rs1 rfl (rv_cN (vs := (S4.cells (cleanS (map2 (bAnd .u32) a b)))) g34 rfl hb7 rfl rfl)) ?_
  exact ⟨rfl, hE⟩

theorem Less_c (a b : S4) (w0 : World) :
    Calls Try.prog 88 [(S4.val a), (S4.val b)].toArray w0 (Ret (Pu (S4.val (lessS a b)) w0)) := by
  have hE : Ext [] w0 w0 := (Ext.refl w0).more (by simp)
  refine enter (vs := [(S4.val a), (S4.val b)]) Try.func88 rfl Try.ntmps88 rfl ?_
  refine c_rs ?_
  refine s_box (v := (S4.val a)) (cs := (S4.cells a)) rfl rfl (fun b1 w2 hb1 gb1 x3 => ?_)
  have nb1_hE : w0.heap.size ≤ b1 := Nat.le_trans hE.size gb1
  clear gb1
  replace hE := hE.step0 x3
  clear x3
  refine s_box (v := (S4.val b)) (cs := (S4.cells b)) rfl rfl (fun b4 w5 hb4 gb4 x6 => ?_)
  have nb4_hE : w0.heap.size ≤ b4 := Nat.le_trans hE.size gb4
  have ob4 : b1 < b4 := Nat.lt_of_lt_of_le hb1.lt gb4
  clear gb4
  replace hE := hE.step0 x6
  replace hb1 := hb1.ext0 x6
  clear x6
  refine s_alloc (cs := [(u32 0), (u32 0), (u32 0), (u32 0)]) z34 rfl (fun b7 w8 hb7 gb7 x9 => ?_)
  have nb7_hE : w0.heap.size ≤ b7 := Nat.le_trans hE.size gb7
  have ob7 : b4 < b7 := Nat.lt_of_lt_of_le hb4.lt gb7
  clear gb7
  replace hE := hE.step0 x9
  replace hb1 := hb1.ext0 x9
  replace hb4 := hb4.ext0 x9
  clear x9
  refine w_end ?_
  refine c_rs ?_
  refine s1 (v := (S4.val a)) (rn_lbN (vs := (S4.cells a)) g34 rfl hb1 rfl rfl) ?_
  refine s1 (v := (S4.val b)) (rn_lbN (vs := (S4.cells b)) g34 rfl hb4 rfl rfl) ?_
  refine s_callP e93 (v := (S4.val (map2 (bAndNot .u32) a b))) (vs := [(S4.val a), (S4.val b), (.func (.func 126) #[] #[])]) rfl (each_c a b 126 (bAndNot .u32) e126 cl126_c _) (fun w10 x11 => ?_)
  replace hE := hE.step0 x11
  replace hb1 := hb1.ext0 x11
  replace hb4 := hb4.ext0 x11
  replace hb7 := hb7.ext0 x11
  clear x11
  refine s_callP e91 (v := (S4.val (cleanS (map2 (bAndNot .u32) a b)))) (vs := [(S4.val (map2 (bAndNot .u32) a b))]) rfl (Clean_c (map2 (bAndNot .u32) a b) _) (fun w12 x13 => ?_)
  replace hE := hE.step0 x13
  replace hb1 := hb1.ext0 x13
  replace hb4 := hb4.ext0 x13
  replace hb7 := hb7.ext0 x13
  clear x13
  refine s_st (v := (S4.val (cleanS (map2 (bAndNot .u32) a b)))) (vs := (S4.cells (cleanS (map2 (bAndNot .u32) a b)))) (cs' := (S4.cells (cleanS (map2 (bAndNot .u32) a b)))) g34.2 rfl rfl rfl rfl hb7 (by simp) rfl rfl (fun w14 h_ x15 => ?_)
  replace hE := hE.step1 x15 (by first | (left; simp; done) | (right; omega))
  replace hb1 := hb1.ext1 x15 (by omega)
  replace hb4 := hb4.ext1 x15 (by omega)
  clear x15
  replace hb7 := h_; clear h_
  refine w_end ?_
  refine c_ret ?_
  refine bp_ret (rs1 rfl (rv_cN (vs := (S4.cells (cleanS (map2 (bAndNot .u32) a b)))) g34 rfl hb7 rfl rfl)) ?_
  exact ⟨rfl, hE⟩

theorem Subset_c (a b : S4) (w0 : World) :
    Calls Try.prog 33 [(S4.val a), (S4.val b)].toArray w0 (Ret (Pu (.bool (decide (lessS a b = S4.mk 0 0 0 0))) w0)) := by
  have hE : Ext [] w0 w0 := (Ext.refl w0).more (by simp)
  refine enter (vs := [(S4.val a), (S4.val b)]) Try.func33 rfl Try.ntmps33 rfl ?_
  refine c_rs ?_
  refine s_box (v := (S4.val a)) (cs := (S4.cells a)) rfl rfl (fun b1 w2 hb1 gb1 x3 => ?_)
  have nb1_hE : w0.heap.size ≤ b1 := Nat.le_trans hE.size gb1
  clear gb1
  replace hE := hE.step0 x3
  clear x3
  refine s_box (v := (S4.val b)) (cs := (S4.cells b)) rfl rfl (fun b4 w5 hb4 gb4 x6 => ?_)
  have nb4_hE : w0.heap.size ≤ b4 := Nat.le_trans hE.size gb4
  have ob4 : b1 < b4 := Nat.lt_of_lt_of_le hb1.lt gb4
  clear gb4
  replace hE := hE.step0 x6
  replace hb1 := hb1.ext0 x6
  clear x6
  refine s1 (v := (.bool false)) (rn_as rfl) ?_
  refine w_end ?_
  refine c_rs ?_
  refine s1 (v := (S4.val a)) (rn_lbN (vs := (S4.cells a)) g34 rfl hb1 rfl rfl) ?_
  refine s1 (v := (S4.val b)) (rn_lbN (vs := (S4.cells b)) g34 rfl hb4 rfl rfl) ?_
  refine s_callP e88 (v := (S4.val (lessS a b))) (vs := [(S4.val a), (S4.val b)]) rfl (Less_c a b _) (fun w7 x8 => ?_)
  replace hE := hE.step0 x8
  replace hb1 := hb1.ext0 x8
  replace hb4 := hb4.ext0 x8
  clear x8
  refine s1 (v := (S4.val (S4.mk 0 0 0 0))) (bd34_ ) ?_
  refine s1 (v := (.bool (decide ((lessS a b) = (S4.mk 0 0 0 0))))) (eq34 (a := (lessS a b)) (b := (S4.mk 0 0 0 0)) rfl rfl) ?_
  refine s1 (v := (.bool (decide ((lessS a b) = (S4.mk 0 0 0 0))))) (rn_as rfl) ?_
  refine w_end ?_
  refine c_ret ?_
  refine bp_ret (rs1 rfl (rv_tmp (v := (.bool (decide ((lessS a b) = (S4.mk 0 0 0 0))))) rfl)) ?_
  exact ⟨rfl, hE⟩

theorem HasN_c (s : S4) (k : Nat) (hk : k < 100) (hi : isIdB (k : Int) = true) (w0 : World) :
    Calls Try.prog 80 [(S4.val s), (i64 (k : Int))].toArray w0 (Ret (Pu (.bool (hasB s (k : Int))) w0)) := by
  have hE : Ext [] w0 w0 := (Ext.refl w0).more (by simp)
  refine enter (vs := [(S4.val s), (i64 (k : Int))]) Try.func80 rfl Try.ntmps80 rfl ?_
  refine c_rs ?_
  refine s_box (v := (S4.val s)) (cs := (S4.cells s)) rfl rfl (fun b1 w2 hb1 gb1 x3 => ?_)
  have nb1_hE : w0.heap.size ≤ b1 := Nat.le_trans hE.size gb1
  clear gb1
  replace hE := hE.step0 x3
  clear x3
  refine s1 (v := (.bool false)) (rn_as rfl) ?_
  refine w_end ?_
  refine c_rs ?_
  refine s1 (v := (i64 (k : Int))) (rn_mv rfl) ?_
  refine s_callP e111 (v := (.bool (isIdB (k : Int)))) (vs := [(i64 (k : Int))]) rfl (isId_c (k : Int) _) (fun w4 x5 => ?_)
  replace hE := hE.step0 x5
  replace hb1 := hb1.ext0 x5
  clear x5
  refine s1 (v := (.bool (isIdB (k : Int)))) (rn_mv rfl) ?_
  refine g_yes rfl rfl rfl hi ?_
  refine s1 (v := (i64 (k : Int))) (rn_mv rfl) ?_
  refine g_yes rfl rfl rfl hi ?_
  refine s1 (v := (i64 ((k / 32 : Nat) : Int))) (rn_quo (m := (k : Int)) (n := 32) rfl rfl (by decide) (k_div k (by omega))) ?_
  refine g_yes rfl rfl rfl hi ?_
  refine s1 (v := (ptr b1 (k / 32))) (rn_iaA ia34 rfl (j := ((k / 32 : Nat) : Int)) rfl (by omega) (by omega) (by simp; omega)) ?_
  refine g_yes rfl rfl rfl hi ?_
  refine s1 (v := (u32 (S4.get s (k / 32)))) (rn_lb1 o32 rfl hb1 (S4.get_cell _ (by omega))) ?_
  refine g_yes rfl rfl rfl hi ?_
  refine s1 (v := (i64 (k : Int))) (rn_mv rfl) ?_
  refine g_yes rfl rfl rfl hi ?_
  refine s1 (v := (i64 ((k % 32 : Nat) : Int))) (rn_rem (m := (k : Int)) (n := 32) rfl rfl (by decide) (k_mod k)) ?_
  refine g_yes rfl rfl rfl hi ?_
  refine s1 (v := (u32 ((s.get (k / 32)).fdiv (2 ^ (k % 32))))) (rn_shr (m := S4.get s (k / 32)) (n := k % 32) rfl rfl (by simp [IntKind.bits]; omega) rfl) ?_
  refine g_yes rfl rfl rfl hi ?_
  refine s1 (v := (u32 (bAnd .u32 ((s.get (k / 32)).fdiv (2 ^ (k % 32))) 1))) (rn_and (m := (s.get (k / 32)).fdiv (2 ^ (k % 32))) (n := 1) rfl rfl rfl) ?_
  refine g_yes rfl rfl rfl hi ?_
  refine s1 (v := (.bool (decide (bAnd .u32 ((s.get (k / 32)).fdiv (2 ^ (k % 32))) 1 = 1)))) (rn_eql (m := bAnd .u32 ((s.get (k / 32)).fdiv (2 ^ (k % 32))) 1) (n := 1) rfl rfl) ?_
  refine s1 (v := (.bool (decide (bAnd .u32 ((s.get (k / 32)).fdiv (2 ^ (k % 32))) 1 = 1)))) (rn_pT (b := (isIdB (k : Int))) rfl hi rfl) ?_
  refine s1 (v := (.bool (decide (bAnd .u32 ((s.get (k / 32)).fdiv (2 ^ (k % 32))) 1 = 1)))) (rn_as rfl) ?_
  refine w_end ?_
  refine c_ret ?_
  refine bp_ret (rs1 rfl (rv_tmp (v := (.bool (decide (bAnd .u32 ((s.get (k / 32)).fdiv (2 ^ (k % 32))) 1 = 1)))) rfl)) ?_
  exact ⟨by simp [hasB, hi, S4.has], hE⟩

theorem HasO_c (s : S4) (i : Int) (hi : isIdB i = false) (w0 : World) :
    Calls Try.prog 80 [(S4.val s), (i64 i)].toArray w0 (Ret (Pu (.bool (hasB s i)) w0)) := by
  have hE : Ext [] w0 w0 := (Ext.refl w0).more (by simp)
  refine enter (vs := [(S4.val s), (i64 i)]) Try.func80 rfl Try.ntmps80 rfl ?_
  refine c_rs ?_
  refine s_box (v := (S4.val s)) (cs := (S4.cells s)) rfl rfl (fun b1 w2 hb1 gb1 x3 => ?_)
  have nb1_hE : w0.heap.size ≤ b1 := Nat.le_trans hE.size gb1
  clear gb1
  replace hE := hE.step0 x3
  clear x3
  refine s1 (v := (.bool false)) (rn_as rfl) ?_
  refine w_end ?_
  refine c_rs ?_
  refine s1 (v := (i64 i)) (rn_mv rfl) ?_
  refine s_callP e111 (v := (.bool (isIdB i))) (vs := [(i64 i)]) rfl (isId_c i _) (fun w4 x5 => ?_)
  replace hE := hE.step0 x5
  replace hb1 := hb1.ext0 x5
  clear x5
  refine s1 (v := (.bool (isIdB i))) (rn_mv rfl) ?_
  refine g_not rfl rfl rfl hi ?_
  refine g_not rfl rfl rfl hi ?_
  refine g_not rfl rfl rfl hi ?_
  refine g_not rfl rfl rfl hi ?_
  refine g_not rfl rfl rfl hi ?_
  refine g_not rfl rfl rfl hi ?_
  refine g_not rfl rfl rfl hi ?_
  refine g_not rfl rfl rfl hi ?_
  refine g_not rfl rfl rfl hi ?_
  refine s1 (v := (.bool false)) (rn_pF (b := (isIdB i)) rfl hi rfl) ?_
  refine s1 (v := (.bool false)) (rn_as rfl) ?_
  refine w_end ?_
  refine c_ret ?_
  refine bp_ret (rs1 rfl (rv_tmp (v := (.bool false)) rfl)) ?_
  exact ⟨by simp [hasB, hi], hE⟩

theorem Has_c (s : S4) (i : Int) (w0 : World) : Calls Try.prog 80 [(S4.val s), (i64 i)].toArray w0 (Ret (Pu (.bool (hasB s i)) w0)) := by
  by_cases hi : isIdB i = true
  · have h := isIdB_t hi
    obtain ⟨k, rfl⟩ := Int.eq_ofNat_of_zero_le h.1
    exact HasN_c s k (by omega) hi w0
  · exact HasO_c s i (by simpa using hi) w0

theorem WithN_c (s : S4) (k : Nat) (hk : k < 100) (hi : isIdB (k : Int) = true) (w0 : World) :
    Calls Try.prog 55 [(S4.val s), (i64 (k : Int))].toArray w0 (Ret (Pu (.tuple #[S4.val (withS s k), i64 0]) w0)) := by
  have hE : Ext [] w0 w0 := (Ext.refl w0).more (by simp)
  refine enter (vs := [(S4.val s), (i64 (k : Int))]) Try.func55 rfl Try.ntmps55 rfl ?_
  refine c_rs ?_
  refine s_box (v := (S4.val s)) (cs := (S4.cells s)) rfl rfl (fun b1 w2 hb1 gb1 x3 => ?_)
  have nb1_hE : w0.heap.size ≤ b1 := Nat.le_trans hE.size gb1
  clear gb1
  replace hE := hE.step0 x3
  clear x3
  refine s_alloc (cs := [(u32 0), (u32 0), (u32 0), (u32 0)]) z34 rfl (fun b4 w5 hb4 gb4 x6 => ?_)
  have nb4_hE : w0.heap.size ≤ b4 := Nat.le_trans hE.size gb4
  have ob4 : b1 < b4 := Nat.lt_of_lt_of_le hb1.lt gb4
  clear gb4
  replace hE := hE.step0 x6
  replace hb1 := hb1.ext0 x6
  clear x6
  refine s1 (v := (i64 0)) (rn_as rfl) ?_
  refine w_end ?_
  refine c_seq ?_
  refine c_rs ?_
  refine s1 (v := (i64 (k : Int))) (rn_mv rfl) ?_
  refine s_callP e111 (v := (.bool (isIdB (k : Int)))) (vs := [(i64 (k : Int))]) rfl (isId_c (k : Int) _) (fun w7 x8 => ?_)
  replace hE := hE.step0 x8
  replace hb1 := hb1.ext0 x8
  replace hb4 := hb4.ext0 x8
  clear x8
  refine s1 (v := (.bool (!(isIdB (k : Int))))) (rn_not (b := (isIdB (k : Int))) rfl) ?_
  refine w_end ?_
  refine c_F (b := (!(isIdB (k : Int)))) rfl (by rw [hi]; rfl) ?_
  refine c_skip' ?_
  refine t_norm ?_
  refine c_rs ?_
  refine s1 (v := (S4.val s)) (rn_lbN (vs := (S4.cells s)) g34 rfl hb1 rfl rfl) ?_
  refine s_callP e91 (v := (S4.val (cleanS s))) (vs := [(S4.val s)]) rfl (Clean_c s _) (fun w9 x10 => ?_)
  replace hE := hE.step0 x10
  replace hb1 := hb1.ext0 x10
  replace hb4 := hb4.ext0 x10
  clear x10
  refine s_st (v := (S4.val (cleanS s))) (vs := (S4.cells (cleanS s))) (cs' := (S4.cells (cleanS s))) g34.2 rfl rfl rfl rfl hb1 (by simp) rfl rfl (fun w11 h_ x12 => ?_)
  replace hE := hE.step1 x12 (by first | (left; simp; done) | (right; omega))
  replace hb4 := hb4.ext1 x12 (by omega)
  clear x12
  replace hb1 := h_; clear h_
  refine w_end ?_
  refine c_seq ?_
  refine c_dr (n := 9) [.c (i64 (k : Int)), .c (i64 ((k / 32 : Nat) : Int)), .c (ptr b1 (k / 32)), .c (u32 (S4.get (cleanS s) (k / 32))), .c (i64 (k : Int)), .c (i64 ((k % 32 : Nat) : Int)), .c (u32 (IntKind.u32.wrap (1 * 2 ^ (k % 32)))), .c (u32 (bOr .u32 (S4.get (cleanS s) (k / 32)) (IntKind.u32.wrap (1 * 2 ^ (k % 32))))), .c (ptr b1 (k / 32))] rfl mixed (by kernel_rfl) ?_
  refine q_v (v := (i64 (k : Int))) (fun W hC => rn_mv rfl) ?_
  refine q_v (v := (i64 ((k / 32 : Nat) : Int))) (fun W hC => rn_quo (m := (k : Int)) (n := 32) rfl rfl (by decide) (k_div k (by omega))) ?_
  refine q_v (v := (ptr b1 (k / 32))) (fun W hC => rn_iaA ia34 rfl (j := ((k / 32 : Nat) : Int)) rfl (by omega) (by omega) (by simp; omega)) ?_
  refine q_v (v := (u32 (S4.get (cleanS s) (k / 32)))) (fun W hC => rn_lb1 o32 rfl (hb1.ext0 hC) (S4.get_cell _ (by omega))) ?_
  refine q_v (v := (i64 (k : Int))) (fun W hC => rn_mv rfl) ?_
  refine q_v (v := (i64 ((k % 32 : Nat) : Int))) (fun W hC => rn_rem (m := (k : Int)) (n := 32) rfl rfl (by decide) (k_mod k)) ?_
  refine q_v (v := (u32 (IntKind.u32.wrap (1 * 2 ^ (k % 32))))) (fun W hC => rn_shl (m := 1) (n := k % 32) rfl rfl (by simp [IntKind.bits]; omega) rfl) ?_
  refine q_v (v := (u32 (bOr .u32 (S4.get (cleanS s) (k / 32)) (IntKind.u32.wrap (1 * 2 ^ (k % 32)))))) (fun W hC => rn_or (m := S4.get (cleanS s) (k / 32)) (n := IntKind.u32.wrap (1 * 2 ^ (k % 32))) rfl rfl rfl) ?_
  refine q_v (v := (ptr b1 (k / 32))) (fun W hC => rn_iaA ia34 rfl (j := ((k / 32 : Nat) : Int)) rfl (by omega) (by omega) (by simp; omega)) ?_
  refine ob_end (fun w13 x14 he15 hap16 => ?_)
  replace hE := hE.step0 x14
  replace hb1 := hb1.ext0 x14
  replace hb4 := hb4.ext0 x14
  clear x14
  refine s_st (v := (u32 (bOr .u32 (S4.get (cleanS s) (k / 32)) (IntKind.u32.wrap (1 * 2 ^ (k % 32)))))) (vs := [(u32 (bOr .u32 (S4.get (cleanS s) (k / 32)) (IntKind.u32.wrap (1 * 2 ^ (k % 32)))))]) (cs' := (S4.cells (S4.upd (cleanS s) (k / 32) (bOr .u32 (S4.get (cleanS s) (k / 32)) (IntKind.u32.wrap (1 * 2 ^ (k % 32))))))) o32.2 rfl rfl rfl rfl hb1 (by simp; omega) rfl (S4.upd_cell _ (by omega) _) (fun w17 h_ x18 => ?_)
  replace hE := hE.step1 x18 (by first | (left; simp; done) | (right; omega))
  replace hb4 := hb4.ext1 x18 (by omega)
  clear x18
  replace hb1 := h_; clear h_
  refine w_end ?_
  refine c_rs ?_
  refine s1 (v := (S4.val (S4.upd (cleanS s) (k / 32) (bOr .u32 (S4.get (cleanS s) (k / 32)) (IntKind.u32.wrap (1 * 2 ^ (k % 32))))))) (rn_lbN (vs := (S4.cells (S4.upd (cleanS s) (k / 32) (bOr .u32 (S4.get (cleanS s) (k / 32)) (IntKind.u32.wrap (1 * 2 ^ (k % 32))))))) g34 rfl hb1 rfl rfl) ?_
  refine s_st (v := (S4.val (S4.upd (cleanS s) (k / 32) (bOr .u32 (S4.get (cleanS s) (k / 32)) (IntKind.u32.wrap (1 * 2 ^ (k % 32))))))) (vs := (S4.cells (S4.upd (cleanS s) (k / 32) (bOr .u32 (S4.get (cleanS s) (k / 32)) (IntKind.u32.wrap (1 * 2 ^ (k % 32))))))) (cs' := (S4.cells (S4.upd (cleanS s) (k / 32) (bOr .u32 (S4.get (cleanS s) (k / 32)) (IntKind.u32.wrap (1 * 2 ^ (k % 32))))))) g34.2 rfl rfl rfl rfl hb4 (by simp) rfl rfl (fun w19 h_ x20 => ?_)
  replace hE := hE.step1 x20 (by first | (left; simp; done) | (right; omega))
  replace hb1 := hb1.ext1 x20 (by omega)
  clear x20
  replace hb4 := h_; clear h_
  refine s1 (v := (i64 0)) (rn_as rfl) ?_
  refine w_end ?_
  refine c_ret ?_
  refine bp_ret (rs2 rfl (rv_cN (vs := (S4.cells (S4.upd (cleanS s) (k / 32) (bOr .u32 (S4.get (cleanS s) (k / 32)) (IntKind.u32.wrap (1 * 2 ^ (k % 32))))))) g34 rfl hb4 rfl rfl) (rv_tmp (v := (i64 0)) rfl)) ?_
  exact ⟨rfl, hE⟩

theorem With_c (s : S4) (i : Int) (h0 : 0 ≤ i) (h1 : i < 100) (w0 : World) : Calls Try.prog 55 [(S4.val s), (i64 i)].toArray w0 (Ret (Pu (.tuple #[S4.val (withS s (Int.toNat i)), i64 0]) w0)) := by
  obtain ⟨k, rfl⟩ := Int.eq_ofNat_of_zero_le h0
  exact WithN_c s k (by omega) (by simp [isIdB]; omega) w0

theorem Full_c (n : Int) (h0 : 0 ≤ n) (h1 : n ≤ 100) (w0 : World) :
    Calls Try.prog 67 [(i64 n)].toArray w0 (Ret (Pu (.tuple #[S4.val (upToS n), i64 0]) w0)) := by
  have hE : Ext [] w0 w0 := (Ext.refl w0).more (by simp)
  refine enter (vs := [(i64 n)]) Try.func67 rfl Try.ntmps67 rfl ?_
  refine c_rs ?_
  refine s_alloc (cs := [(u32 0), (u32 0), (u32 0), (u32 0)]) z34 rfl (fun b1 w2 hb1 gb1 x3 => ?_)
  have nb1_hE : w0.heap.size ≤ b1 := Nat.le_trans hE.size gb1
  clear gb1
  replace hE := hE.step0 x3
  clear x3
  refine s1 (v := (i64 0)) (rn_as rfl) ?_
  refine w_end ?_
  refine c_seq ?_
  refine c_rs ?_
  refine s1 (v := (i64 n)) (rn_mv rfl) ?_
  refine s1 (v := (.bool (decide (n < 0)))) (rn_lss (m := n) (n := 0) rfl rfl) ?_
  refine s1 (v := (.bool (decide (n < 0)))) (rn_mv rfl) ?_
  refine g_yes rfl rfl rfl (decide_eq_false (by omega)) ?_
  refine s1 (v := (i64 n)) (rn_mv rfl) ?_
  refine g_yes rfl rfl rfl (decide_eq_false (by omega)) ?_
  refine s1 (v := (.bool (decide (100 < n)))) (rn_gtr (m := n) (n := 100) rfl rfl) ?_
  refine s1 (v := (.bool (decide (100 < n)))) (rn_pF (b := (decide (n < 0))) rfl (decide_eq_false (by omega)) rfl) ?_
  refine w_end ?_
  refine c_F (b := (decide (100 < n))) rfl (decide_eq_false (by omega)) ?_
  refine c_skip' ?_
  refine t_norm ?_
  refine c_rs ?_
  refine s1 (v := (i64 n)) (rn_mv rfl) ?_
  refine s_callP e117 (v := (S4.val (upToS n))) (vs := [(i64 n)]) rfl (upTo_c n (by first | omega | exact hund_b _) _) (fun w4 x5 => ?_)
  replace hE := hE.step0 x5
  replace hb1 := hb1.ext0 x5
  clear x5
  refine s_st (v := (S4.val (upToS n))) (vs := (S4.cells (upToS n))) (cs' := (S4.cells (upToS n))) g34.2 rfl rfl rfl rfl hb1 (by simp) rfl rfl (fun w6 h_ x7 => ?_)
  replace hE := hE.step1 x7 (by first | (left; simp; done) | (right; omega))
  clear x7
  replace hb1 := h_; clear h_
  refine s1 (v := (i64 0)) (rn_as rfl) ?_
  refine w_end ?_
  refine c_ret ?_
  refine bp_ret (rs2 rfl (rv_cN (vs := (S4.cells (upToS n))) g34 rfl hb1 rfl rfl) (rv_tmp (v := (i64 0)) rfl)) ?_
  exact ⟨rfl, hE⟩

end Go.Proofs.Ytfdffeameoejfaa
