/- tally: printed walks. -/
import Derived.Test.YtfdffeameoejfaaTagbook
import Derived.Test.YtfdffeameoejfaaDrawo
namespace Go.Proofs.Ytfdffeameoejfaa
open Go Go.RowKit
set_option linter.unusedVariables false
set_option linter.unusedSimpArgs false

theorem bd138_0_1_2 {M : Nat} {l : Nat → Value} {w : World} {d : Option Tmp} {t : TypeId} {p : String} {af : Array Edge} {g : Option (Nat × Bool)} {x0 x1 x2 : Operand} {a0 : Int} {a1 : Int} {a2 : Int} (h0 : ev M l x0 = (.int .i64 a0)) (h1 : ev M l x1 = (.int .i64 a1)) (h2 : ev M l x2 = (.int .i64 a2)) :
    Rn Try.prog M l w d (.build 138 #[(0, x0), (1, x1), (2, x2)]) t p af g (.agg #[(.int .i64 a0), (.int .i64 a1), (.int .i64 a2), (u32 0), (u32 0), (u32 0), (u32 0), (.slice none 0 0)]) := by
  have hb : (Instr.build 138 #[(0, (.int .i64 a0)), (1, (.int .i64 a1)), (2, (.int .i64 a2))]).run Try.prog w = .ok (.agg #[(.int .i64 a0), (.int .i64 a1), (.int .i64 a2), (u32 0), (u32 0), (u32 0), (u32 0), (.slice none 0 0)]) w := by kernel_rfl
  simp [Rn, execOp, h0, h1, h2, hb]

theorem bd140_0_1 {M : Nat} {l : Nat → Value} {w : World} {d : Option Tmp} {t : TypeId} {p : String} {af : Array Edge} {g : Option (Nat × Bool)} {x0 x1 : Operand} {a0 : Int} {a1f : Fn} {a1a a1c : Array Value} (h0 : ev M l x0 = (.int .i64 a0)) (h1 : ev M l x1 = (.func a1f a1a a1c)) :
    Rn Try.prog M l w d (.build 140 #[(0, x0), (1, x1)]) t p af g (.agg #[(.int .i64 a0), (.func a1f a1a a1c)]) := by
  have hb : (Instr.build 140 #[(0, (.int .i64 a0)), (1, (.func a1f a1a a1c))]).run Try.prog w = .ok (.agg #[(.int .i64 a0), (.func a1f a1a a1c)]) w := by kernel_rfl
  simp [Rn, execOp, h0, h1, hb]

/-- Whether there are enough. -/
def readyB (need : Int) (have_ : Nat) : Bool := decide (0 < need) && decide ((have_ : Int) = need)
/-- Whether a reply is counted. -/
def ctd (n need round : Int) (rep : S4) (k : Nat) (fr rd : Int) (s : S4) : Bool := !(decide (fr < 0) || decide (n ≤ fr)) && withinB s n && decide (rd = round) && !(hasB rep fr) && !(readyB need k)
theorem Ow.slc {α : Type} {N : Nat} {e : TypeId} {cf : α → List Value} {s : Nat} {w : World} {v : Value} {xs : List α} (h : Ow N e cf s w v xs) : ∃ A c, v = .slice A xs.length c := by
  rcases h.2 with ⟨rfl, h0⟩ | ⟨g, cap, cur, rfl, _⟩
  · exact ⟨none, 0, by rw [h0]⟩
  · exact ⟨_, _, rfl⟩

theorem Need_c {p : Nat} {n need round : Int} {rep : S4} {v : Value} {w0 : World} (hp : Blk w0 p 138 [(i64 n), (i64 need), (i64 round), (u32 rep.a), (u32 rep.b), (u32 rep.c), (u32 rep.d), v]) :
    Calls Try.prog 89 [(ptr p 0)].toArray w0 (Ret (Pu (i64 need) w0)) := by
  have hE : Ext [] w0 w0 := (Ext.refl w0).more (by simp)
  have hpw := hp.lt
  refine enter (vs := [(ptr p 0)]) Try.func89 rfl Try.ntmps89 rfl ?_
  refine c_rs ?_
  refine s1 (v := (i64 0)) (rn_as rfl) ?_
  refine w_end ?_
  refine c_seq ?_
  refine c_rs ?_
  refine s1 (v := (ptr p 0)) (rn_mv rfl) ?_
  refine s1 (v := (.bool false)) (rn_nilPt (A := some ⟨p, 0, none⟩) Try.underlying42 rfl) ?_
  refine w_end ?_
  refine c_F (b := false) rfl rfl ?_
  refine c_skip' ?_
  refine t_norm ?_
  refine c_rs ?_
  refine s1 (v := (ptr p 0)) (rn_mv rfl) ?_
  refine s1 (v := (ptr p 0)) (rn_nil rfl) ?_
  refine s1 (v := (ptr p 1)) (rn_fa fa138_1 rfl rfl) ?_
  refine s1 (v := (i64 need)) (rn_lb1 o3 rfl hp rfl) ?_
  refine s1 (v := (i64 need)) (rn_as rfl) ?_
  refine w_end ?_
  refine c_ret ?_
  refine bp_ret (rs1 rfl (rv_tmp (v := (i64 need)) rfl)) ?_
  exact ⟨rfl, hE⟩

theorem listT_c {p : Nat} {n need round : Int} {rep : S4} {v : Value} {w0 : World} (hp : Blk w0 p 138 [(i64 n), (i64 need), (i64 round), (u32 rep.a), (u32 rep.b), (u32 rep.c), (u32 rep.d), v]) :
    Calls Try.prog 127 [(ptr p 0)].toArray w0 (Ret (Pu (v) w0)) := by
  have hE : Ext [] w0 w0 := (Ext.refl w0).more (by simp)
  have hpw := hp.lt
  refine enter (vs := [(ptr p 0)]) Try.func127 rfl Try.ntmps127 rfl ?_
  refine c_rs ?_
  refine s1 (v := (.slice none 0 0)) (rn_as rfl) ?_
  refine w_end ?_
  refine c_seq ?_
  refine c_rs ?_
  refine s1 (v := (ptr p 0)) (rn_mv rfl) ?_
  refine s1 (v := (.bool false)) (rn_nilPt (A := some ⟨p, 0, none⟩) Try.underlying42 rfl) ?_
  refine w_end ?_
  refine c_F (b := false) rfl rfl ?_
  refine c_skip' ?_
  refine t_norm ?_
  refine c_rs ?_
  refine s1 (v := (ptr p 0)) (rn_mv rfl) ?_
  refine s1 (v := (ptr p 0)) (rn_nil rfl) ?_
  refine s1 (v := (ptr p 7)) (rn_fa fa138_4 rfl rfl) ?_
  refine s1 (v := v) (rn_lb1 o39 rfl hp rfl) ?_
  refine s1 (v := v) (rn_as rfl) ?_
  refine w_end ?_
  refine c_ret ?_
  refine bp_ret (rs1 rfl (rv_tmp (v := v) rfl)) ?_
  exact ⟨rfl, hE⟩

theorem Have_c {p : Nat} {n need round : Int} {rep : S4} {v : Value} {w0 : World} (hp : Blk w0 p 138 [(i64 n), (i64 need), (i64 round), (u32 rep.a), (u32 rep.b), (u32 rep.c), (u32 rep.d), v]) {hs : List S4} {N : Nat} (hO : Ow N 34 S4.cells 4 w0 v hs) :
    Calls Try.prog 90 [(ptr p 0)].toArray w0 (Ret (Pu (i64 (hs.length : Int)) w0)) := by
  have hE : Ext [] w0 w0 := (Ext.refl w0).more (by simp)
  obtain ⟨Av, cv, rfl⟩ := hO.slc
  refine enter (vs := [(ptr p 0)]) Try.func90 rfl Try.ntmps90 rfl ?_
  refine c_rs ?_
  refine s1 (v := (i64 0)) (rn_as rfl) ?_
  refine w_end ?_
  refine c_rs ?_
  refine s1 (v := (ptr p 0)) (rn_mv rfl) ?_
  refine s_callP e127 (v := (.slice Av hs.length cv)) (vs := [(ptr p 0)]) rfl (listT_c hp) (fun w1 x2 => ?_)
  replace hE := hE.step0 x2
  replace hp := hp.ext0 x2
  replace hO := hO.ext0 x2
  clear x2
  refine s1 (v := (i64 (hs.length : Int))) (rn_len is39 rfl) ?_
  refine s1 (v := (i64 (hs.length : Int))) (rn_as rfl) ?_
  refine w_end ?_
  refine c_ret ?_
  refine bp_ret (rs1 rfl (rv_tmp (v := (i64 (hs.length : Int))) rfl)) ?_
  exact ⟨rfl, hE⟩

theorem Ready_c {p : Nat} {n need round : Int} {rep : S4} {v : Value} {w0 : World} (hp : Blk w0 p 138 [(i64 n), (i64 need), (i64 round), (u32 rep.a), (u32 rep.b), (u32 rep.c), (u32 rep.d), v]) {hs : List S4} {N : Nat} (hO : Ow N 34 S4.cells 4 w0 v hs) :
    Calls Try.prog 30 [(ptr p 0)].toArray w0 (Ret (Pu (.bool (readyB need hs.length)) w0)) := by
  have hE : Ext [] w0 w0 := (Ext.refl w0).more (by simp)
  have hpw := hp.lt
  refine enter (vs := [(ptr p 0)]) Try.func30 rfl Try.ntmps30 rfl ?_
  refine c_rs ?_
  refine s1 (v := (.bool false)) (rn_as rfl) ?_
  refine w_end ?_
  refine c_rs ?_
  refine s1 (v := (ptr p 0)) (rn_mv rfl) ?_
  refine s_callP e89 (v := (i64 need)) (vs := [(ptr p 0)]) rfl (Need_c hp) (fun w1 x2 => ?_)
  replace hE := hE.step0 x2
  replace hp := hp.ext0 x2
  replace hO := hO.ext0 x2
  clear x2
  refine s1 (v := (.bool (decide (0 < need)))) (rn_gtr (m := need) (n := 0) rfl rfl) ?_
  refine s1 (v := (.bool (decide (0 < need)))) (rn_mv rfl) ?_
  rcases Bool.eq_false_or_eq_true (decide (0 < need)) with h3 | h3
  ·
    have p4 := of_decide_eq_true h3
    refine g_yes rfl rfl rfl h3 ?_
    refine s1 (v := (ptr p 0)) (rn_mv rfl) ?_
    refine g_yes rfl rfl rfl h3 ?_
    refine s_callP e90 (v := (i64 (hs.length : Int))) (vs := [(ptr p 0)]) rfl (Have_c hp hO) (fun w5 x6 => ?_)
    replace hE := hE.step0 x6
    replace hp := hp.ext0 x6
    replace hO := hO.ext0 x6
    clear x6
    refine g_yes rfl rfl rfl h3 ?_
    refine s1 (v := (ptr p 0)) (rn_mv rfl) ?_
    refine g_yes rfl rfl rfl h3 ?_
    refine s_callP e89 (v := (i64 need)) (vs := [(ptr p 0)]) rfl (Need_c hp) (fun w7 x8 => ?_)
    replace hE := hE.step0 x8
    replace hp := hp.ext0 x8
    replace hO := hO.ext0 x8
    clear x8
    refine g_yes rfl rfl rfl h3 ?_
    refine s1 (v := (.bool (decide ((hs.length : Int) = need)))) (rn_eql (m := (hs.length : Int)) (n := need) rfl rfl) ?_
    refine s1 (v := (.bool (decide ((hs.length : Int) = need)))) (rn_pT (b := (decide (0 < need))) rfl h3 rfl) ?_
    refine s1 (v := (.bool (decide ((hs.length : Int) = need)))) (rn_as rfl) ?_
    refine w_end ?_
    refine c_ret ?_
    refine bp_ret (rs1 rfl (rv_tmp (v := (.bool (decide ((hs.length : Int) = need)))) rfl)) ?_
    exact ⟨by simp [readyB, *], hE⟩
  ·
    have p9 := of_decide_eq_false h3
    refine g_not rfl rfl rfl h3 ?_
    refine g_not rfl rfl rfl h3 ?_
    refine g_not rfl rfl rfl h3 ?_
    refine g_not rfl rfl rfl h3 ?_
    refine g_not rfl rfl rfl h3 ?_
    refine s1 (v := (.bool false)) (rn_pF (b := (decide (0 < need))) rfl h3 rfl) ?_
    refine s1 (v := (.bool false)) (rn_as rfl) ?_
    refine w_end ?_
    refine c_ret ?_
    refine bp_ret (rs1 rfl (rv_tmp (v := (.bool false)) rfl)) ?_
    exact ⟨by simp [readyB, *], hE⟩

theorem Repliers_c {p : Nat} {n need round : Int} {rep : S4} {v : Value} {w0 : World} (hp : Blk w0 p 138 [(i64 n), (i64 need), (i64 round), (u32 rep.a), (u32 rep.b), (u32 rep.c), (u32 rep.d), v]) :
    Calls Try.prog 95 [(ptr p 0)].toArray w0 (Ret (Pu (S4.val rep) w0)) := by
  have hE : Ext [] w0 w0 := (Ext.refl w0).more (by simp)
  have hpw := hp.lt
  refine enter (vs := [(ptr p 0)]) Try.func95 rfl Try.ntmps95 rfl ?_
  refine c_rs ?_
  refine s_alloc (cs := [(u32 0), (u32 0), (u32 0), (u32 0)]) z34 rfl (fun b1 w2 hb1 gb1 x3 => ?_)
  have nb1_hE : w0.heap.size ≤ b1 := Nat.le_trans hE.size gb1
  clear gb1
  replace hE := hE.step0 x3
  replace hp := hp.ext0 x3
  clear x3
  refine w_end ?_
  refine c_seq ?_
  refine c_rs ?_
  refine s1 (v := (ptr p 0)) (rn_mv rfl) ?_
  refine s1 (v := (.bool false)) (rn_nilPt (A := some ⟨p, 0, none⟩) Try.underlying42 rfl) ?_
  refine s1 (v := (.bool false)) (rn_mv rfl) ?_
  refine g_yes rfl rfl rfl rfl ?_
  refine s1 (v := (ptr p 0)) (rn_mv rfl) ?_
  refine g_yes rfl rfl rfl rfl ?_
  refine s1 (v := (ptr p 0)) (rn_nil rfl) ?_
  refine g_yes rfl rfl rfl rfl ?_
  refine s1 (v := (ptr p 3)) (rn_fa fa138_3 rfl rfl) ?_
  refine g_yes rfl rfl rfl rfl ?_
  refine s1 (v := (S4.val rep)) (rn_lbN (vs := (S4.cells rep)) g34 rfl hp rfl rfl) ?_
  refine g_yes rfl rfl rfl rfl ?_
  refine s1 (v := (S4.val (S4.mk 0 0 0 0))) (bd34_ ) ?_
  refine g_yes rfl rfl rfl rfl ?_
  refine s1 (v := (.bool (decide (rep = (S4.mk 0 0 0 0))))) (eq34 (a := rep) (b := (S4.mk 0 0 0 0)) rfl rfl) ?_
  refine s1 (v := (.bool (decide (rep = (S4.mk 0 0 0 0))))) (rn_pF (b := false) rfl rfl rfl) ?_
  refine w_end ?_
  refine c_if (b := (decide (rep = (S4.mk 0 0 0 0)))) rfl (fun h4 => ?_) (fun h4 => ?_)
  ·
    have p5 := of_decide_eq_true h4
    refine c_rs ?_
    refine s1 (v := (S4.val (S4.mk 0 0 0 0))) (bd34_ ) ?_
    refine s_st (v := (S4.val (S4.mk 0 0 0 0))) (vs := (S4.cells (S4.mk 0 0 0 0))) (cs' := (S4.cells (S4.mk 0 0 0 0))) g34.2 rfl rfl rfl rfl hb1 (by simp) rfl rfl (fun w6 h_ x7 => ?_)
    replace hE := hE.step1 x7 (by first | (left; simp; done) | (right; omega))
    replace hp := hp.ext1 x7 (by omega)
    clear x7
    replace hb1 := h_; clear h_
    refine w_end ?_
    refine c_ret ?_
    refine t_ret ?_
    refine bp_ret (rs1 rfl (rv_cN (vs := (S4.cells (S4.mk 0 0 0 0))) g34 rfl hb1 rfl rfl)) ?_
    exact ⟨by rw [of_decide_eq_true h4], hE⟩
  ·
    have p8 := of_decide_eq_false h4
    refine c_skip' ?_
    refine t_norm ?_
    refine c_rs ?_
    refine s1 (v := (ptr p 0)) (rn_mv rfl) ?_
    refine s1 (v := (ptr p 0)) (rn_nil rfl) ?_
    refine s1 (v := (ptr p 3)) (rn_fa fa138_3 rfl rfl) ?_
    refine s1 (v := (S4.val rep)) (rn_lbN (vs := (S4.cells rep)) g34 rfl hp rfl rfl) ?_
    refine s_st (v := (S4.val rep)) (vs := (S4.cells rep)) (cs' := (S4.cells rep)) g34.2 rfl rfl rfl rfl hb1 (by simp) rfl rfl (fun w9 h_ x10 => ?_)
    replace hE := hE.step1 x10 (by first | (left; simp; done) | (right; omega))
    replace hp := hp.ext1 x10 (by omega)
    clear x10
    replace hb1 := h_; clear h_
    refine w_end ?_
    refine c_ret ?_
    refine bp_ret (rs1 rfl (rv_cN (vs := (S4.cells rep)) g34 rfl hb1 rfl rfl)) ?_
    exact ⟨rfl, hE⟩

theorem Heards_c {p : Nat} {n need round : Int} {rep : S4} {v : Value} {w0 : World} (hp : Blk w0 p 138 [(i64 n), (i64 need), (i64 round), (u32 rep.a), (u32 rep.b), (u32 rep.c), (u32 rep.d), v]) {hs : List S4} {N : Nat} (hO : Ow N 34 S4.cells 4 w0 v hs) (hn : hs.length ≤ 1000000) :
    Calls Try.prog 96 [(ptr p 0)].toArray w0 (Ret (fun u w' => ∃ A' c' g', u = .slice A' hs.length c' ∧ Ls S4.cells 4 w' g' A' hs ∧ (w0.heap.size ≤ g' ∨ hs.length = 0) ∧ Ext [] w0 w')) := by
  have hE : Ext [] w0 w0 := (Ext.refl w0).more (by simp)
  have hpw := hp.lt
  obtain ⟨Av, cv, gv, rfl, hls, hgv⟩ := Ow.ls (cf := S4.cells) (s := 4) (fun _ => rfl) hO
  have hgl := hls.lt (by simp)
  refine enter (vs := [(ptr p 0)]) Try.func96 rfl Try.ntmps96 rfl ?_
  refine c_rs ?_
  refine s1 (v := (.slice none 0 0)) (rn_as rfl) ?_
  refine w_end ?_
  refine c_rs ?_
  refine s1 (v := (ptr p 0)) (rn_mv rfl) ?_
  refine s_callP e127 (v := (.slice Av hs.length cv)) (vs := [(ptr p 0)]) rfl (listT_c hp) (fun w1 x2 => ?_)
  replace hE := hE.step0 x2
  replace hp := hp.ext0 x2
  replace hls := hls.ext0 x2
  clear x2
  refine s_call e129 (vs := [(.slice Av hs.length cv)]) rfl (CloneS_c (c := cv) hls (by omega)) ?_
  rintro _ w7 ⟨A3, c4, g5, rfl, hl6, gg5, x8⟩
  have dg5 := gg5.imp_left (fun q => And.intro (Nat.le_trans hE.size q) (Nat.lt_of_lt_of_le hp.lt q))
  clear gg5
  replace hE := hE.step0 x8
  replace hp := hp.ext0 x8
  replace hls := hls.ext0 x8
  clear x8
  refine s1 (v := (.slice A3 hs.length c4)) (rn_as rfl) ?_
  refine w_end ?_
  refine c_ret ?_
  refine bp_ret (rs1 rfl (rv_tmp (v := (.slice A3 hs.length c4)) rfl)) ?_
  exact ⟨_, _, g5, rfl, hl6, by omega, hE⟩

theorem Take1_c {p : Nat} {n need round : Int} {rep : S4} {v : Value} {w0 : World} {q5 q4 : Nat} {fr : Int} (h5 : Blk w0 q5 3 [i64 fr]) (h4 : Blk w0 q4 42 [ptr p 0]) (hp : Blk w0 p 138 [(i64 n), (i64 need), (i64 round), (u32 rep.a), (u32 rep.b), (u32 rep.c), (u32 rep.d), v]) :
    Calls Try.prog 83 [(ptr q5 0), (ptr q4 0)].toArray w0 (Ret (Pu (.bool (decide (fr < 0) || decide (n ≤ fr))) w0)) := by
  have hE : Ext [] w0 w0 := (Ext.refl w0).more (by simp)
  have hpw := hp.lt
  refine enter (vs := [(ptr q5 0), (ptr q4 0)]) Try.func83 rfl Try.ntmps83 rfl ?_
  refine c_rs ?_
  refine s1 (v := (.bool false)) (rn_as rfl) ?_
  refine w_end ?_
  rcases Bool.eq_false_or_eq_true (decide (fr < 0)) with h1 | h1
  ·
    have p2 := of_decide_eq_true h1
    refine c_seq ?_
    refine c_dr (n := 11) [.c (i64 fr), .c (.bool (decide (fr < 0))), .c (.bool (decide (fr < 0))), .n, .n, .n, .n, .n, .n, .c (.bool true), .c (.bool true)] rfl mixed (by kernel_rfl) ?_
    refine q_v (v := (i64 fr)) (fun W hC => rn_lb1 o3 rfl (h5.ext0 hC) rfl) ?_
    refine q_v (v := (.bool (decide (fr < 0)))) (fun W hC => rn_lss (m := fr) (n := 0) rfl rfl) ?_
    refine q_v (v := (.bool (decide (fr < 0)))) (fun W hC => rn_mv rfl) ?_
    refine ob_not rfl rfl rfl h1 ?_
    refine ob_not rfl rfl rfl h1 ?_
    refine ob_not rfl rfl rfl h1 ?_
    refine ob_not rfl rfl rfl h1 ?_
    refine ob_not rfl rfl rfl h1 ?_
    refine ob_not rfl rfl rfl h1 ?_
    refine q_v (v := (.bool true)) (fun W hC => rn_pT (b := (decide (fr < 0))) rfl h1 rfl) ?_
    refine q_v (v := (.bool true)) (fun W hC => rn_as rfl) ?_
    refine ob_end (fun w3 x4 he5 hap6 => ?_)
    replace hE := hE.step0 x4
    replace h5 := h5.ext0 x4
    replace h4 := h4.ext0 x4
    replace hp := hp.ext0 x4
    clear x4
    refine w_end ?_
    refine c_ret ?_
    refine bp_ret (rs1 rfl (rv_tmp (v := (.bool true)) rfl)) ?_
    exact ⟨by simp [*], hE⟩
  ·
    have p7 := of_decide_eq_false h1
    refine c_seq ?_
    refine c_dr (n := 11) [.c (i64 fr), .c (.bool (decide (fr < 0))), .c (.bool (decide (fr < 0))), .c (i64 fr), .c (ptr p 0), .c (ptr p 0), .c (ptr p 0), .c (i64 n), .c (.bool (decide (n ≤ fr))), .c (.bool (decide (n ≤ fr))), .c (.bool (decide (n ≤ fr)))] rfl mixed (by kernel_rfl) ?_
    refine q_v (v := (i64 fr)) (fun W hC => rn_lb1 o3 rfl (h5.ext0 hC) rfl) ?_
    refine q_v (v := (.bool (decide (fr < 0)))) (fun W hC => rn_lss (m := fr) (n := 0) rfl rfl) ?_
    refine q_v (v := (.bool (decide (fr < 0)))) (fun W hC => rn_mv rfl) ?_
    refine ob_yes rfl rfl rfl h1 ?_
    refine q_v (v := (i64 fr)) (fun W hC => rn_lb1 o3 rfl (h5.ext0 hC) rfl) ?_
    refine ob_yes rfl rfl rfl h1 ?_
    refine q_v (v := (ptr p 0)) (fun W hC => rn_lb1 o42 rfl (h4.ext0 hC) rfl) ?_
    refine ob_yes rfl rfl rfl h1 ?_
    refine q_v (v := (ptr p 0)) (fun W hC => rn_nil rfl) ?_
    refine ob_yes rfl rfl rfl h1 ?_
    refine q_v (v := (ptr p 0)) (fun W hC => rn_fa fa138_0 rfl rfl) ?_
    refine ob_yes rfl rfl rfl h1 ?_
    refine q_v (v := (i64 n)) (fun W hC => rn_lb1 o3 rfl (hp.ext0 hC) rfl) ?_
    refine ob_yes rfl rfl rfl h1 ?_
    refine q_v (v := (.bool (decide (n ≤ fr)))) (fun W hC => rn_geq (m := fr) (n := n) rfl rfl) ?_
    refine q_v (v := (.bool (decide (n ≤ fr)))) (fun W hC => rn_pF (b := (decide (fr < 0))) rfl h1 rfl) ?_
    refine q_v (v := (.bool (decide (n ≤ fr)))) (fun W hC => rn_as rfl) ?_
    refine ob_end (fun w8 x9 he10 hap11 => ?_)
    replace hE := hE.step0 x9
    replace h5 := h5.ext0 x9
    replace h4 := h4.ext0 x9
    replace hp := hp.ext0 x9
    clear x9
    refine w_end ?_
    refine c_ret ?_
    refine bp_ret (rs1 rfl (rv_tmp (v := (.bool (decide (n ≤ fr)))) rfl)) ?_
    exact ⟨by simp [*], hE⟩

theorem Take2_c {p : Nat} {n need round : Int} {rep : S4} {v : Value} {w0 : World} {q7 q4 : Nat} {s : S4} (h7 : Blk w0 q7 34 (S4.cells s)) (h4 : Blk w0 q4 42 [ptr p 0]) (hp : Blk w0 p 138 [(i64 n), (i64 need), (i64 round), (u32 rep.a), (u32 rep.b), (u32 rep.c), (u32 rep.d), v]) :
    Calls Try.prog 84 [(ptr q7 0), (ptr q4 0)].toArray w0 (Ret (Pu (.bool (!(withinB s n))) w0)) := by
  have hE : Ext [] w0 w0 := (Ext.refl w0).more (by simp)
  have hpw := hp.lt
  refine enter (vs := [(ptr q7 0), (ptr q4 0)]) Try.func84 rfl Try.ntmps84 rfl ?_
  refine c_rs ?_
  refine s1 (v := (.bool false)) (rn_as rfl) ?_
  refine w_end ?_
  refine c_seq ?_
  refine c_dr (n := 8) [.c (S4.val s), .c (ptr p 0), .c (ptr p 0), .c (ptr p 0), .c (i64 n), .c (.bool (withinB s n)), .c (.bool (!(withinB s n))), .c (.bool (!(withinB s n)))] rfl mixed (by kernel_rfl) ?_
  refine q_v (v := (S4.val s)) (fun W hC => rn_lbN (vs := (S4.cells s)) g34 rfl (h7.ext0 hC) rfl rfl) ?_
  refine q_v (v := (ptr p 0)) (fun W hC => rn_lb1 o42 rfl (h4.ext0 hC) rfl) ?_
  refine q_v (v := (ptr p 0)) (fun W hC => rn_nil rfl) ?_
  refine q_v (v := (ptr p 0)) (fun W hC => rn_fa fa138_0 rfl rfl) ?_
  refine q_v (v := (i64 n)) (fun W hC => rn_lb1 o3 rfl (hp.ext0 hC) rfl) ?_
  refine q_call e78 (v := (.bool (withinB s n))) (vs := [(S4.val s), (i64 n)]) rfl (fun W hC => Within_c s n _) ?_
  refine q_v (v := (.bool (!(withinB s n)))) (fun W hC => rn_not (b := (withinB s n)) rfl) ?_
  refine q_v (v := (.bool (!(withinB s n)))) (fun W hC => rn_as rfl) ?_
  refine ob_end (fun w1 x2 he3 hap4 => ?_)
  replace hE := hE.step0 x2
  replace h7 := h7.ext0 x2
  replace h4 := h4.ext0 x2
  replace hp := hp.ext0 x2
  clear x2
  refine w_end ?_
  refine c_ret ?_
  refine bp_ret (rs1 rfl (rv_tmp (v := (.bool (!(withinB s n)))) rfl)) ?_
  exact ⟨rfl, hE⟩

theorem Take3_c {p : Nat} {n need round : Int} {rep : S4} {v : Value} {w0 : World} {q6 q4 : Nat} {rd : Int} (h6 : Blk w0 q6 3 [i64 rd]) (h4 : Blk w0 q4 42 [ptr p 0]) (hp : Blk w0 p 138 [(i64 n), (i64 need), (i64 round), (u32 rep.a), (u32 rep.b), (u32 rep.c), (u32 rep.d), v]) :
    Calls Try.prog 85 [(ptr q6 0), (ptr q4 0)].toArray w0 (Ret (Pu (.bool (decide (rd ≠ round))) w0)) := by
  have hE : Ext [] w0 w0 := (Ext.refl w0).more (by simp)
  have hpw := hp.lt
  refine enter (vs := [(ptr q6 0), (ptr q4 0)]) Try.func85 rfl Try.ntmps85 rfl ?_
  refine c_rs ?_
  refine s1 (v := (.bool false)) (rn_as rfl) ?_
  refine w_end ?_
  refine c_seq ?_
  refine c_dr (n := 7) [.c (i64 rd), .c (ptr p 0), .c (ptr p 0), .c (ptr p 2), .c (i64 round), .c (.bool (decide (rd ≠ round))), .c (.bool (decide (rd ≠ round)))] rfl mixed (by kernel_rfl) ?_
  refine q_v (v := (i64 rd)) (fun W hC => rn_lb1 o3 rfl (h6.ext0 hC) rfl) ?_
  refine q_v (v := (ptr p 0)) (fun W hC => rn_lb1 o42 rfl (h4.ext0 hC) rfl) ?_
  refine q_v (v := (ptr p 0)) (fun W hC => rn_nil rfl) ?_
  refine q_v (v := (ptr p 2)) (fun W hC => rn_fa fa138_2 rfl rfl) ?_
  refine q_v (v := (i64 round)) (fun W hC => rn_lb1 o3 rfl (hp.ext0 hC) rfl) ?_
  refine q_v (v := (.bool (decide (rd ≠ round)))) (fun W hC => rn_neq (m := rd) (n := round) rfl rfl) ?_
  refine q_v (v := (.bool (decide (rd ≠ round)))) (fun W hC => rn_as rfl) ?_
  refine ob_end (fun w1 x2 he3 hap4 => ?_)
  replace hE := hE.step0 x2
  replace h6 := h6.ext0 x2
  replace h4 := h4.ext0 x2
  replace hp := hp.ext0 x2
  clear x2
  refine w_end ?_
  refine c_ret ?_
  refine bp_ret (rs1 rfl (rv_tmp (v := (.bool (decide (rd ≠ round)))) rfl)) ?_
  exact ⟨rfl, hE⟩

theorem Take4_c {p : Nat} {n need round : Int} {rep : S4} {v : Value} {w0 : World} {q4 q5 : Nat} {fr : Int} (h4 : Blk w0 q4 42 [ptr p 0]) (h5 : Blk w0 q5 3 [i64 fr]) (hp : Blk w0 p 138 [(i64 n), (i64 need), (i64 round), (u32 rep.a), (u32 rep.b), (u32 rep.c), (u32 rep.d), v]) :
    Calls Try.prog 86 [(ptr q4 0), (ptr q5 0)].toArray w0 (Ret (Pu (.bool (hasB rep fr)) w0)) := by
  have hE : Ext [] w0 w0 := (Ext.refl w0).more (by simp)
  have hpw := hp.lt
  refine enter (vs := [(ptr q4 0), (ptr q5 0)]) Try.func86 rfl Try.ntmps86 rfl ?_
  refine c_rs ?_
  refine s1 (v := (.bool false)) (rn_as rfl) ?_
  refine w_end ?_
  refine c_seq ?_
  refine c_dr (n := 7) [.c (ptr p 0), .c (ptr p 0), .c (ptr p 3), .c (S4.val rep), .c (i64 fr), .c (.bool (hasB rep fr)), .c (.bool (hasB rep fr))] rfl mixed (by kernel_rfl) ?_
  refine q_v (v := (ptr p 0)) (fun W hC => rn_lb1 o42 rfl (h4.ext0 hC) rfl) ?_
  refine q_v (v := (ptr p 0)) (fun W hC => rn_nil rfl) ?_
  refine q_v (v := (ptr p 3)) (fun W hC => rn_fa fa138_3 rfl rfl) ?_
  refine q_v (v := (S4.val rep)) (fun W hC => rn_lbN (vs := (S4.cells rep)) g34 rfl (hp.ext0 hC) rfl rfl) ?_
  refine q_v (v := (i64 fr)) (fun W hC => rn_lb1 o3 rfl (h5.ext0 hC) rfl) ?_
  refine q_call e80 (v := (.bool (hasB rep fr))) (vs := [(S4.val rep), (i64 fr)]) rfl (fun W hC => Has_c rep fr _) ?_
  refine q_v (v := (.bool (hasB rep fr))) (fun W hC => rn_as rfl) ?_
  refine ob_end (fun w1 x2 he3 hap4 => ?_)
  replace hE := hE.step0 x2
  replace h5 := h5.ext0 x2
  replace h4 := h4.ext0 x2
  replace hp := hp.ext0 x2
  clear x2
  refine w_end ?_
  refine c_ret ?_
  refine bp_ret (rs1 rfl (rv_tmp (v := (.bool (hasB rep fr))) rfl)) ?_
  exact ⟨rfl, hE⟩

theorem Take5_c {p : Nat} {n need round : Int} {rep : S4} {v : Value} {w0 : World} {q4 : Nat} (h4 : Blk w0 q4 42 [ptr p 0]) (hp : Blk w0 p 138 [(i64 n), (i64 need), (i64 round), (u32 rep.a), (u32 rep.b), (u32 rep.c), (u32 rep.d), v]) {hs : List S4} {N : Nat} (hO : Ow N 34 S4.cells 4 w0 v hs) :
    Calls Try.prog 87 [(ptr q4 0)].toArray w0 (Ret (Pu (.bool (readyB need hs.length)) w0)) := by
  have hE : Ext [] w0 w0 := (Ext.refl w0).more (by simp)
  refine enter (vs := [(ptr q4 0)]) Try.func87 rfl Try.ntmps87 rfl ?_
  refine c_rs ?_
  refine s1 (v := (.bool false)) (rn_as rfl) ?_
  refine w_end ?_
  refine c_rs ?_
  refine s1 (v := (ptr p 0)) (rn_lb1 o42 rfl h4 rfl) ?_
  refine s_callP e30 (v := (.bool (readyB need hs.length))) (vs := [(ptr p 0)]) rfl (Ready_c hp hO) (fun w1 x2 => ?_)
  replace hE := hE.step0 x2
  replace h4 := h4.ext0 x2
  replace hp := hp.ext0 x2
  replace hO := hO.ext0 x2
  clear x2
  refine s1 (v := (.bool (readyB need hs.length))) (rn_as rfl) ?_
  refine w_end ?_
  refine c_ret ?_
  refine bp_ret (rs1 rfl (rv_tmp (v := (.bool (readyB need hs.length))) rfl)) ?_
  exact ⟨rfl, hE⟩

theorem add_c {p : Nat} {n need round : Int} {rep : S4} {v : Value} {w0 : World} (hp : Blk w0 p 138 [(i64 n), (i64 need), (i64 round), (u32 rep.a), (u32 rep.b), (u32 rep.c), (u32 rep.d), v]) {hs : List S4} {N : Nat} (hO : Ow N 34 S4.cells 4 w0 v hs) (hN : N ≤ w0.heap.size) (hlen : hs.length ≤ 100000) (fr : Int) (h0 : 0 ≤ fr) (h1 : fr < 100) (s : S4) (hpv : p < w0.heap.size) :
    Calls Try.prog 82 [(ptr p 0), (i64 fr), (S4.val s)].toArray w0 (Ret (fun u w' => ∃ v', u = .tuple #[] ∧ Blk w' p 138 [(i64 n), (i64 need), (i64 round), (u32 ((withS rep (fr).toNat).a)), (u32 ((withS rep (fr).toNat).b)), (u32 ((withS rep (fr).toNat).c)), (u32 ((withS rep (fr).toNat).d)), v'] ∧ Ow N 34 S4.cells 4 w' v' (hs ++ [s]) ∧ Ext (p :: obl v) w0 w' ∧ ∀ c ∈ obl v', c ∈ obl v ∨ w0.heap.size ≤ c)) := by
  have hE : Ext (p :: obl v) w0 w0 := (Ext.refl w0).more (by simp)
  have hvl := hO.lt
  refine enter (vs := [(ptr p 0), (i64 fr), (S4.val s)]) Try.func82 rfl Try.ntmps82 rfl ?_
  refine c_rs ?_
  refine s_box (v := (S4.val s)) (cs := (S4.cells s)) rfl rfl (fun b1 w2 hb1 gb1 x3 => ?_)
  have nb1_hE : w0.heap.size ≤ b1 := Nat.le_trans hE.size gb1
  have obb1_hO : ∀ c ∈ obl v, c < b1 := fun c hc => Nat.lt_of_lt_of_le (hO.lt c hc).2 gb1
  clear gb1
  replace hE := hE.step0 x3
  replace hp := hp.ext0 x3
  replace hO := hO.ext0 x3
  clear x3
  refine w_end ?_
  refine c_rs ?_
  refine s1 (v := (ptr p 0)) (rn_mv rfl) ?_
  refine s1 (v := (ptr p 0)) (rn_mv rfl) ?_
  refine s1 (v := (ptr p 0)) (rn_nil rfl) ?_
  refine s1 (v := (ptr p 3)) (rn_fa fa138_3 rfl rfl) ?_
  refine s1 (v := (S4.val rep)) (rn_lbN (vs := (S4.cells rep)) g34 rfl hp rfl rfl) ?_
  refine s1 (v := (i64 fr)) (rn_mv rfl) ?_
  refine s_callP e55 (v := (.tuple #[(S4.val (withS rep (Int.toNat fr))), (i64 0)])) (vs := [(S4.val rep), (i64 fr)]) rfl (With_c rep fr (by omega) (by omega) _) (fun w4 x5 => ?_)
  replace hE := hE.step0 x5
  replace hp := hp.ext0 x5
  replace hb1 := hb1.ext0 x5
  replace hO := hO.ext0 x5
  clear x5
  refine s1 (v := (.tuple #[(S4.val (withS rep (Int.toNat fr))), (i64 0)])) (rn_mv rfl) ?_
  refine s1 (v := (S4.val (withS rep (Int.toNat fr)))) (rn_ex (vs := [(S4.val (withS rep (Int.toNat fr))), (i64 0)]) rfl rfl) ?_
  refine s1 (v := (i64 0)) (rn_ex (vs := [(S4.val (withS rep (Int.toNat fr))), (i64 0)]) rfl rfl) ?_
  refine s1 (v := (ptr p 0)) (rn_nil rfl) ?_
  refine s1 (v := (ptr p 3)) (rn_fa fa138_3 rfl rfl) ?_
  refine s_st (v := (S4.val (withS rep (Int.toNat fr)))) (vs := (S4.cells (withS rep (Int.toNat fr)))) (cs' := [(i64 n), (i64 need), (i64 round), (u32 ((withS rep (Int.toNat fr)).a)), (u32 ((withS rep (Int.toNat fr)).b)), (u32 ((withS rep (Int.toNat fr)).c)), (u32 ((withS rep (Int.toNat fr)).d)), v]) g34.2 rfl rfl rfl rfl hp (by simp) rfl rfl (fun w6 h_ x7 => ?_)
  replace hE := hE.step1 x7 (by first | (left; simp; done) | (right; omega))
  replace hb1 := hb1.ext1 x7 (by omega)
  replace hO := hO.ext x7 (fun c hc hm => by simp at hm; subst hm; exact hO.neBlk hp (by decide) hc)
  clear x7
  replace hp := h_; clear h_
  refine w_end ?_
  have hsow6 := hE.size
  refine c_drO (n := 8) (ys := [s]) [.c (ptr p 0), .c (ptr p 0), .c (ptr p 0), .c (ptr p 7), .c v, .c (S4.val s), .s (SBs w6.heap.size 34 1 [(u32 s.a), (u32 s.b), (u32 s.c), (u32 s.d)]), .s (fun u _ _ W => Ow N 34 S4.cells 4 W u (hs ++ [s]) ∧ ∀ c ∈ obl u, c ∈ obl v ∨ w6.heap.size ≤ c)] rfl mixed (by kernel_rfl) hO ?_
  refine o_v (u := (ptr p 0)) (fun W hC => rn_mv rfl) ?_
  refine o_v (u := (ptr p 0)) (fun W hC => rn_mv rfl) ?_
  refine o_v (u := (ptr p 0)) (fun W hC => rn_nil rfl) ?_
  refine o_v (u := (ptr p 7)) (fun W hC => rn_fa fa138_4 rfl rfl) ?_
  refine o_v (u := v) (fun W hC => rn_lb1 o39 rfl (hp.ext hC (hO.neBlk hp (by decide))) rfl) ?_
  refine o_v (u := (S4.val s)) (fun W hC => rn_lbN (vs := (S4.cells s)) g34 rfl (hb1.ext hC (fun h_ => by have h1_ := hO.lt _ h_; have := obb1_hO _ h_; first | omega | (exfalso; omega))) rfl rfl) ?_
  refine o_bsS et39 (fun c hc => (hO.lt c hc).2) (vs := #[(0, (S4.val s))]) (cs := [(u32 s.a), (u32 s.b), (u32 s.c), (u32 s.d)]) (by kernel_rfl) (by decide) (by kernel_rfl) (fun v10 lov10 hiv10 => ?_)
  refine o_app (ys := [s]) et39 (fun _ => rfl) (fun _ => rfl) (by omega) (fun c hc => (hO.lt c hc).2) rfl rfl (fun W hC he => by obtain ⟨b_, e_, hb_, _⟩ := he 6 (by kernel_rfl); exact ⟨_, _, _, e_, Ls.of_blk (cf := S4.cells) (xs := [s]) (rest := []) (fun _ => rfl) hb_⟩) (by simp) (by simp only [List.length_cons, List.length_nil]; omega) (by simp only [List.length_cons, List.length_nil]; omega) (fun v11 lov11 hiv11 => ?_)
  refine o_end (fun w12 x13 he14 => ?_)
  obtain ⟨hO15, hVv11⟩ := he14 7
  have hVsv11 := hE.size
  replace hE := hE.step x13 (fun c hc => by first | (left; simp [hc]; done) | (right; have h_ := hO.lt c hc; have := obb1_hO c hc; omega))
  replace hp := hp.ext x13 (hO.neBlk hp (by decide))
  replace hb1 := hb1.ext x13 (fun hc => by have h_ := hO.lt _ hc; have := obb1_hO _ hc; first | omega | (exfalso; omega))
  clear x13
  replace hO := hO15; clear hO15
  refine s1 (v := (ptr p 0)) (rn_nil rfl) ?_
  refine s1 (v := (ptr p 7)) (rn_fa fa138_4 rfl rfl) ?_
  refine s_st (v := v11) (vs := [v11]) (cs' := [(i64 n), (i64 need), (i64 round), (u32 ((withS rep (Int.toNat fr)).a)), (u32 ((withS rep (Int.toNat fr)).b)), (u32 ((withS rep (Int.toNat fr)).c)), (u32 ((withS rep (Int.toNat fr)).d)), v11]) o39.2 rfl rfl hO.cell1 rfl hp (by simp) hO.one rfl (fun w16 h_ x17 => ?_)
  replace hE := hE.step1 x17 (by first | (left; simp; done) | (right; omega))
  replace hb1 := hb1.ext1 x17 (by omega)
  replace hO := hO.ext x17 (fun c hc hm => by simp at hm; subst hm; exact hO.neBlk hp (by decide) hc)
  clear x17
  replace hp := h_; clear h_
  refine w_nil ?_
  refine bp_end (rs0 rfl) ?_
  exact ⟨v11, rfl, hp, hO, hE, fun c hc => (hVv11 c hc).imp_right (fun q => by omega)⟩

theorem NewT_c (n f self round : Int) (own : S4) {w0 : World} (h1 : 1 ≤ n) (h2 : n ≤ 100) (h3 : 0 ≤ f) (h4 : f < n) (h5 : 0 ≤ self) (h6 : self < n) (h7 : 1 ≤ round) (h8 : round ≤ 1099511627775) (h9 : withinB own n = true) :
    Calls Try.prog 27 [(i64 n), (i64 f), (i64 self), (i64 round), (S4.val own)].toArray w0 (Ret (fun u w' => ∃ p v', u = .tuple #[ptr p 0, i64 0] ∧ Blk w' p 138 [(i64 n), (i64 (n - f)), (i64 round), (u32 ((withS (S4.mk 0 0 0 0) (self).toNat).a)), (u32 ((withS (S4.mk 0 0 0 0) (self).toNat).b)), (u32 ((withS (S4.mk 0 0 0 0) (self).toNat).c)), (u32 ((withS (S4.mk 0 0 0 0) (self).toNat).d)), v'] ∧ Ow w0.heap.size 34 S4.cells 4 w' v' ([] ++ [own]) ∧ w0.heap.size ≤ p ∧ (∀ c ∈ obl v', w0.heap.size ≤ c) ∧ Ext [] w0 w')) := by
  have hE : Ext [] w0 w0 := (Ext.refl w0).more (by simp)
  refine enter (vs := [(i64 n), (i64 f), (i64 self), (i64 round), (S4.val own)]) Try.func27 rfl Try.ntmps27 rfl ?_
  refine c_rs ?_
  refine s_box (v := (S4.val own)) (cs := (S4.cells own)) rfl rfl (fun b1 w2 hb1 gb1 x3 => ?_)
  have nb1_hE : w0.heap.size ≤ b1 := Nat.le_trans hE.size gb1
  clear gb1
  replace hE := hE.step0 x3
  clear x3
  refine s1 (v := (.pointer none)) (rn_as rfl) ?_
  refine s1 (v := (i64 0)) (rn_as rfl) ?_
  refine w_end ?_
  refine c_seq ?_
  refine c_block ?_
  refine c_rs ?_
  refine s1 (v := (i64 n)) (rn_mv rfl) ?_
  refine s1 (v := (.bool (decide (n < 1)))) (rn_lss (m := n) (n := 1) rfl rfl) ?_
  refine s1 (v := (.bool (decide (n < 1)))) (rn_mv rfl) ?_
  refine g_yes rfl rfl rfl (decide_eq_false (by omega)) ?_
  refine s1 (v := (i64 n)) (rn_mv rfl) ?_
  refine g_yes rfl rfl rfl (decide_eq_false (by omega)) ?_
  refine s1 (v := (.bool (decide (100 < n)))) (rn_gtr (m := n) (n := 100) rfl rfl) ?_
  refine s1 (v := (.bool (decide (100 < n)))) (rn_pF (b := (decide (n < 1))) rfl (decide_eq_false (by omega)) rfl) ?_
  refine s1 (v := (.bool (decide (100 < n)))) (rn_mv rfl) ?_
  refine g_yes rfl rfl rfl (decide_eq_false (by omega)) ?_
  refine s1 (v := (i64 f)) (rn_mv rfl) ?_
  refine g_yes rfl rfl rfl (decide_eq_false (by omega)) ?_
  refine s1 (v := (.bool (decide (f < 0)))) (rn_lss (m := f) (n := 0) rfl rfl) ?_
  refine s1 (v := (.bool (decide (f < 0)))) (rn_pF (b := (decide (100 < n))) rfl (decide_eq_false (by omega)) rfl) ?_
  refine s1 (v := (.bool (decide (f < 0)))) (rn_mv rfl) ?_
  refine g_yes rfl rfl rfl (decide_eq_false (by omega)) ?_
  refine s1 (v := (i64 f)) (rn_mv rfl) ?_
  refine g_yes rfl rfl rfl (decide_eq_false (by omega)) ?_
  refine s1 (v := (i64 n)) (rn_mv rfl) ?_
  refine g_yes rfl rfl rfl (decide_eq_false (by omega)) ?_
  refine s1 (v := (.bool (decide (n ≤ f)))) (rn_geq (m := f) (n := n) rfl rfl) ?_
  refine s1 (v := (.bool (decide (n ≤ f)))) (rn_pF (b := (decide (f < 0))) rfl (decide_eq_false (by omega)) rfl) ?_
  refine s1 (v := (.bool (decide (n ≤ f)))) (rn_as rfl) ?_
  refine w_end ?_
  refine c_F (b := (decide (n ≤ f))) rfl (decide_eq_false (by omega)) ?_
  refine c_rs ?_
  refine s1 (v := (i64 self)) (rn_mv rfl) ?_
  refine s1 (v := (.bool (decide (self < 0)))) (rn_lss (m := self) (n := 0) rfl rfl) ?_
  refine s1 (v := (.bool (decide (self < 0)))) (rn_mv rfl) ?_
  refine g_yes rfl rfl rfl (decide_eq_false (by omega)) ?_
  refine s1 (v := (i64 self)) (rn_mv rfl) ?_
  refine g_yes rfl rfl rfl (decide_eq_false (by omega)) ?_
  refine s1 (v := (i64 n)) (rn_mv rfl) ?_
  refine g_yes rfl rfl rfl (decide_eq_false (by omega)) ?_
  refine s1 (v := (.bool (decide (n ≤ self)))) (rn_geq (m := self) (n := n) rfl rfl) ?_
  refine s1 (v := (.bool (decide (n ≤ self)))) (rn_pF (b := (decide (self < 0))) rfl (decide_eq_false (by omega)) rfl) ?_
  refine s1 (v := (.bool (decide (n ≤ self)))) (rn_as rfl) ?_
  refine w_end ?_
  refine c_F (b := (decide (n ≤ self))) rfl (decide_eq_false (by omega)) ?_
  refine c_rs ?_
  refine s1 (v := (i64 round)) (rn_mv rfl) ?_
  refine s1 (v := (.bool (decide (round < 1)))) (rn_lss (m := round) (n := 1) rfl rfl) ?_
  refine s1 (v := (.bool (decide (round < 1)))) (rn_mv rfl) ?_
  refine g_yes rfl rfl rfl (decide_eq_false (by omega)) ?_
  refine s1 (v := (i64 round)) (rn_mv rfl) ?_
  refine g_yes rfl rfl rfl (decide_eq_false (by omega)) ?_
  refine s1 (v := (.bool (decide (1099511627775 < round)))) (rn_gtr (m := round) (n := 1099511627775) rfl rfl) ?_
  refine s1 (v := (.bool (decide (1099511627775 < round)))) (rn_pF (b := (decide (round < 1))) rfl (decide_eq_false (by omega)) rfl) ?_
  refine s1 (v := (.bool (decide (1099511627775 < round)))) (rn_as rfl) ?_
  refine w_end ?_
  refine c_F (b := (decide (1099511627775 < round))) rfl (decide_eq_false (by omega)) ?_
  refine c_rs ?_
  refine s1 (v := (S4.val own)) (rn_lbN (vs := (S4.cells own)) g34 rfl hb1 rfl rfl) ?_
  refine s1 (v := (i64 n)) (rn_mv rfl) ?_
  refine s_callP e78 (v := (.bool (withinB own n))) (vs := [(S4.val own), (i64 n)]) rfl (Within_c own n _) (fun w4 x5 => ?_)
  replace hE := hE.step0 x5
  replace hb1 := hb1.ext0 x5
  clear x5
  refine s1 (v := (.bool (!(withinB own n)))) (rn_not (b := (withinB own n)) rfl) ?_
  refine s1 (v := (.bool (!(withinB own n)))) (rn_as rfl) ?_
  refine w_end ?_
  refine c_F (b := (!(withinB own n))) rfl (by rw [h9]; rfl) ?_
  refine c_skip' ?_
  refine b_norm ?_
  refine t_norm ?_
  refine c_rs ?_
  refine s1 (v := (i64 n)) (rn_mv rfl) ?_
  refine s1 (v := (i64 n)) (rn_mv rfl) ?_
  refine s1 (v := (i64 f)) (rn_mv rfl) ?_
  refine s1 (v := (i64 (n - f))) (rn_sub (m := n) (n := f) rfl rfl (wr64 (by omega) (by omega))) ?_
  refine s1 (v := (i64 round)) (rn_mv rfl) ?_
  refine s1 (v := (.agg #[(i64 n), (i64 (n - f)), (i64 round), (u32 0), (u32 0), (u32 0), (u32 0), (.slice none 0 0)])) (bd138_0_1_2 rfl rfl rfl ) ?_
  refine s_box (v := (.agg #[(i64 n), (i64 (n - f)), (i64 round), (u32 0), (u32 0), (u32 0), (u32 0), (.slice none 0 0)])) (cs := [(i64 n), (i64 (n - f)), (i64 round), (u32 0), (u32 0), (u32 0), (u32 0), (.slice none 0 0)]) rfl rfl (fun b6 w7 hb6 gb6 x8 => ?_)
  have nb6_hE : w0.heap.size ≤ b6 := Nat.le_trans hE.size gb6
  have ob6 : b1 < b6 := Nat.lt_of_lt_of_le hb1.lt gb6
  clear gb6
  replace hE := hE.step0 x8
  replace hb1 := hb1.ext0 x8
  clear x8
  refine s1 (v := (ptr b6 0)) (rn_as rfl) ?_
  refine w_end ?_
  refine c_rs ?_
  refine s1 (v := (ptr b6 0)) (rn_mv rfl) ?_
  refine s1 (v := (i64 self)) (rn_mv rfl) ?_
  refine s1 (v := (S4.val own)) (rn_lbN (vs := (S4.cells own)) g34 rfl hb1 rfl rfl) ?_
  have hO : Ow w0.heap.size 34 S4.cells 4 w7 (.slice none 0 0) [] := Ow.nil
  have hsn := hE.size
  have hpbb6 := hb6.lt
  refine s_call e82 (vs := [(ptr b6 0), (i64 self), (S4.val own)]) rfl (add_c (rep := (S4.mk 0 0 0 0)) hb6 hO (by omega) (by first | omega | simp) self (by omega) (by omega) own (by omega)) ?_
  rintro _ w10 ⟨v9, rfl, hb11, hO12, x13, hVv9⟩
  replace hE := hE.step x13 (fun c hc => by rcases List.mem_cons.1 hc with h_ | h_ <;> first | (left; simp [h_]; done) | (right; omega) | (right; have h1_ := hO.lt _ h_; omega))
  replace hb1 := hb1.ext x13 (fun hc => by (rcases List.mem_cons.1 hc with h_ | h_ <;> first | omega | (exfalso; omega) | (simp [obl] at h_; done) | (have h1_ := hO.lt _ h_; (first | omega | (exfalso; omega)))))
  replace hb6 := hb11; clear hb11
  replace hO := hO12; clear hO12
  clear x13
  refine w_end ?_
  refine c_rs ?_
  refine s1 (v := (ptr b6 0)) (rn_mv rfl) ?_
  refine s1 (v := (ptr b6 0)) (rn_as rfl) ?_
  refine s1 (v := (i64 0)) (rn_as rfl) ?_
  refine w_end ?_
  refine c_ret ?_
  refine bp_ret (rs2 rfl (rv_tmp (v := (ptr b6 0)) rfl) (rv_tmp (v := (i64 0)) rfl)) ?_
  exact ⟨b6, v9, rfl, hb6, hO, by omega, fun c hc => (hO.lt c hc).1, hE⟩

theorem TakeT_c {p : Nat} {n need round : Int} {rep : S4} {v : Value} {w0 : World} (hp : Blk w0 p 138 [(i64 n), (i64 need), (i64 round), (u32 rep.a), (u32 rep.b), (u32 rep.c), (u32 rep.d), v]) {hs : List S4} {N : Nat} (hO : Ow N 34 S4.cells 4 w0 v hs) (hN : N ≤ w0.heap.size) (fr rd : Int) (s : S4) (hn : n ≤ 100) (hlen : hs.length ≤ 100000) :
    Calls Try.prog 28 [(ptr p 0), (i64 fr), (i64 rd), (S4.val s)].toArray w0 (Ret (fun u w' => ∃ v' r e, u = .tuple #[i64 r, i64 e] ∧ Blk w' p 138 [(i64 n), (i64 need), (i64 round), (u32 ((if ctd n need round rep hs.length fr rd s then withS rep (fr).toNat else rep).a)), (u32 ((if ctd n need round rep hs.length fr rd s then withS rep (fr).toNat else rep).b)), (u32 ((if ctd n need round rep hs.length fr rd s then withS rep (fr).toNat else rep).c)), (u32 ((if ctd n need round rep hs.length fr rd s then withS rep (fr).toNat else rep).d)), v'] ∧ Ow N 34 S4.cells 4 w' v' (if ctd n need round rep hs.length fr rd s then hs ++ [s] else hs) ∧ Ext (p :: obl v) w0 w' ∧ ∀ c ∈ obl v', c ∈ obl v ∨ w0.heap.size ≤ c)) := by
  have hE : Ext (p :: obl v) w0 w0 := (Ext.refl w0).more (by simp)
  have hvl := hO.lt
  have hpw := hp.lt
  refine enter (vs := [(ptr p 0), (i64 fr), (i64 rd), (S4.val s)]) Try.func28 rfl Try.ntmps28 rfl ?_
  refine c_rs ?_
  refine s_box (v := (ptr p 0)) (cs := [(ptr p 0)]) rfl rfl (fun b1 w2 hb1 gb1 x3 => ?_)
  have nb1_hE : w0.heap.size ≤ b1 := Nat.le_trans hE.size gb1
  have obb1_hO : ∀ c ∈ obl v, c < b1 := fun c hc => Nat.lt_of_lt_of_le (hO.lt c hc).2 gb1
  clear gb1
  replace hE := hE.step0 x3
  replace hp := hp.ext0 x3
  replace hO := hO.ext0 x3
  clear x3
  refine s_box (v := (i64 fr)) (cs := [(i64 fr)]) rfl rfl (fun b4 w5 hb4 gb4 x6 => ?_)
  have nb4_hE : w0.heap.size ≤ b4 := Nat.le_trans hE.size gb4
  have ob4 : b1 < b4 := Nat.lt_of_lt_of_le hb1.lt gb4
  have obb4_hO : ∀ c ∈ obl v, c < b4 := fun c hc => Nat.lt_of_lt_of_le (hO.lt c hc).2 gb4
  clear gb4
  replace hE := hE.step0 x6
  replace hp := hp.ext0 x6
  replace hb1 := hb1.ext0 x6
  replace hO := hO.ext0 x6
  clear x6
  refine s_box (v := (i64 rd)) (cs := [(i64 rd)]) rfl rfl (fun b7 w8 hb7 gb7 x9 => ?_)
  have nb7_hE : w0.heap.size ≤ b7 := Nat.le_trans hE.size gb7
  have ob7 : b4 < b7 := Nat.lt_of_lt_of_le hb4.lt gb7
  have obb7_hO : ∀ c ∈ obl v, c < b7 := fun c hc => Nat.lt_of_lt_of_le (hO.lt c hc).2 gb7
  clear gb7
  replace hE := hE.step0 x9
  replace hp := hp.ext0 x9
  replace hb1 := hb1.ext0 x9
  replace hb4 := hb4.ext0 x9
  replace hO := hO.ext0 x9
  clear x9
  refine s_box (v := (S4.val s)) (cs := (S4.cells s)) rfl rfl (fun b10 w11 hb10 gb10 x12 => ?_)
  have nb10_hE : w0.heap.size ≤ b10 := Nat.le_trans hE.size gb10
  have ob10 : b7 < b10 := Nat.lt_of_lt_of_le hb7.lt gb10
  have obb10_hO : ∀ c ∈ obl v, c < b10 := fun c hc => Nat.lt_of_lt_of_le (hO.lt c hc).2 gb10
  clear gb10
  replace hE := hE.step0 x12
  replace hp := hp.ext0 x12
  replace hb1 := hb1.ext0 x12
  replace hb4 := hb4.ext0 x12
  replace hb7 := hb7.ext0 x12
  replace hO := hO.ext0 x12
  clear x12
  refine s1 (v := (i64 0)) (rn_as rfl) ?_
  refine s1 (v := (i64 0)) (rn_as rfl) ?_
  refine w_end ?_
  refine c_seq ?_
  refine c_rs ?_
  refine s1 (v := (ptr p 0)) (rn_lb1 o42 rfl hb1 rfl) ?_
  refine s1 (v := (.bool false)) (rn_nilPt (A := some ⟨p, 0, none⟩) Try.underlying42 rfl) ?_
  refine w_end ?_
  refine c_F (b := false) rfl rfl ?_
  refine c_skip' ?_
  refine t_norm ?_
  refine c_rs ?_
  refine s1 (v := (.func (.func 83) #[] #[(ptr b4 0), (ptr b1 0)])) (rn_mf (vs := [(ptr b4 0), (ptr b1 0)]) rfl) ?_
  refine s1 (v := (.agg #[(i64 5), (.func (.func 83) #[] #[(ptr b4 0), (ptr b1 0)])])) (bd140_0_1 rfl rfl ) ?_
  refine s1 (v := (.func (.func 84) #[] #[(ptr b10 0), (ptr b1 0)])) (rn_mf (vs := [(ptr b10 0), (ptr b1 0)]) rfl) ?_
  refine s1 (v := (.agg #[(i64 0), (.func (.func 84) #[] #[(ptr b10 0), (ptr b1 0)])])) (bd140_0_1 rfl rfl ) ?_
  refine s1 (v := (.func (.func 85) #[] #[(ptr b7 0), (ptr b1 0)])) (rn_mf (vs := [(ptr b7 0), (ptr b1 0)]) rfl) ?_
  refine s1 (v := (.agg #[(i64 2), (.func (.func 85) #[] #[(ptr b7 0), (ptr b1 0)])])) (bd140_0_1 rfl rfl ) ?_
  refine s1 (v := (.func (.func 86) #[] #[(ptr b1 0), (ptr b4 0)])) (rn_mf (vs := [(ptr b1 0), (ptr b4 0)]) rfl) ?_
  refine s1 (v := (.agg #[(i64 3), (.func (.func 86) #[] #[(ptr b1 0), (ptr b4 0)])])) (bd140_0_1 rfl rfl ) ?_
  refine s1 (v := (.func (.func 87) #[] #[(ptr b1 0)])) (rn_mf (vs := [(ptr b1 0)]) rfl) ?_
  refine s1 (v := (.agg #[(i64 4), (.func (.func 87) #[] #[(ptr b1 0)])])) (bd140_0_1 rfl rfl ) ?_
  refine s_bs et141 (vs := #[(0, (.agg #[(i64 5), (.func (.func 83) #[] #[(ptr b4 0), (ptr b1 0)])])), (1, (.agg #[(i64 0), (.func (.func 84) #[] #[(ptr b10 0), (ptr b1 0)])])), (2, (.agg #[(i64 2), (.func (.func 85) #[] #[(ptr b7 0), (ptr b1 0)])])), (3, (.agg #[(i64 3), (.func (.func 86) #[] #[(ptr b1 0), (ptr b4 0)])])), (4, (.agg #[(i64 4), (.func (.func 87) #[] #[(ptr b1 0)])]))]) (cs := [(i64 5), (.func (.func 83) #[] #[(ptr b4 0), (ptr b1 0)]), (i64 0), (.func (.func 84) #[] #[(ptr b10 0), (ptr b1 0)]), (i64 2), (.func (.func 85) #[] #[(ptr b7 0), (ptr b1 0)]), (i64 3), (.func (.func 86) #[] #[(ptr b1 0), (ptr b4 0)]), (i64 4), (.func (.func 87) #[] #[(ptr b1 0)])]) (by kernel_rfl) (by decide) (by kernel_rfl) (fun b13 w14 hb13 gb13 x15 => ?_)
  have nb13_hE : w0.heap.size ≤ b13 := Nat.le_trans hE.size gb13
  have ob13 : b10 < b13 := Nat.lt_of_lt_of_le hb10.lt gb13
  have obb13_hO : ∀ c ∈ obl v, c < b13 := fun c hc => Nat.lt_of_lt_of_le (hO.lt c hc).2 gb13
  clear gb13
  replace hE := hE.step0 x15
  replace hp := hp.ext0 x15
  replace hb1 := hb1.ext0 x15
  replace hb4 := hb4.ext0 x15
  replace hb7 := hb7.ext0 x15
  replace hb10 := hb10.ext0 x15
  replace hO := hO.ext0 x15
  clear x15
  refine s1 (v := (.slice (some ⟨b13, 0, none⟩) 5 5)) (rn_as rfl) ?_
  refine w_end ?_
  refine c_seq ?_
  refine c_rs ?_
  refine s1 (v := (.slice (some ⟨b13, 0, none⟩) 5 5)) (rn_mv rfl) ?_
  refine s1 (v := (i64 5)) (rn_len is141 rfl) ?_
  refine s1 (v := (i64 0)) (rn_mv rfl) ?_
  refine w_end ?_
  refine c_block ?_
  refine c_rounds 6 ?_
  refine r_round ?_
  refine c_rs ?_
  refine s1 (v := (.bool true)) (rn_lss (m := 0) (n := 5) rfl rfl) ?_
  refine w_end ?_
  refine c_seq ?_
  refine c_T (b := true) rfl rfl ?_
  refine c_skip' ?_
  refine t_norm ?_
  refine c_seq ?_
  refine c_block ?_
  refine c_rs ?_
  refine s1 (v := (ptr b13 0)) (rn_ie is141 rfl rfl rfl (by omega) (by omega) rfl) ?_
  refine s1 (v := (.agg #[(i64 5), (.func (.func 83) #[] #[(ptr b4 0), (ptr b1 0)])])) (rn_lbN (vs := [(i64 5), (.func (.func 83) #[] #[(ptr b4 0), (ptr b1 0)])]) g140 rfl hb13 rfl rfl) ?_
  refine s_alloc (cs := [(i64 0), .nilFunc]) z140 rfl (fun b16 w17 hb16 gb16 x18 => ?_)
  have nb16_hE : w0.heap.size ≤ b16 := Nat.le_trans hE.size gb16
  have ob16 : b13 < b16 := Nat.lt_of_lt_of_le hb13.lt gb16
  have obb16_hO : ∀ c ∈ obl v, c < b16 := fun c hc => Nat.lt_of_lt_of_le (hO.lt c hc).2 gb16
  clear gb16
  replace hE := hE.step0 x18
  replace hp := hp.ext0 x18
  replace hb1 := hb1.ext0 x18
  replace hb4 := hb4.ext0 x18
  replace hb7 := hb7.ext0 x18
  replace hb10 := hb10.ext0 x18
  replace hb13 := hb13.ext0 x18
  replace hO := hO.ext0 x18
  clear x18
  refine s_st (v := (.agg #[(i64 5), (.func (.func 83) #[] #[(ptr b4 0), (ptr b1 0)])])) (vs := [(i64 5), (.func (.func 83) #[] #[(ptr b4 0), (ptr b1 0)])]) (cs' := [(i64 5), (.func (.func 83) #[] #[(ptr b4 0), (ptr b1 0)])]) g140.2 rfl rfl rfl rfl hb16 (by simp) rfl rfl (fun w19 h_ x20 => ?_)
  replace hE := hE.step1 x20 (by first | (left; simp; done) | (right; omega))
  replace hp := hp.ext1 x20 (by omega)
  replace hb1 := hb1.ext1 x20 (by omega)
  replace hb4 := hb4.ext1 x20 (by omega)
  replace hb7 := hb7.ext1 x20 (by omega)
  replace hb10 := hb10.ext1 x20 (by omega)
  replace hb13 := hb13.ext1 x20 (by omega)
  replace hO := hO.ext x20 (fun c hc hm => by simp at hm; subst hm; exact hO.neBlk hb16 (by decide) hc)
  clear x20
  replace hb16 := h_; clear h_
  refine w_end ?_
  refine c_block ?_
  refine c_rs ?_
  refine s1 (v := (ptr b16 1)) (rn_fa fa140_1 rfl rfl) ?_
  refine s1 (v := (.func (.func 83) #[] #[(ptr b4 0), (ptr b1 0)])) (rn_lb1 o24 rfl hb16 rfl) ?_
  refine s_callvP e83 (v := (.bool (decide (fr < 0) || decide (n ≤ fr)))) (vs := []) (ws := [(ptr b4 0), (ptr b1 0)]) rfl rfl (Take1_c hb4 hb1 hp) (fun w21 x22 => ?_)
  replace hE := hE.step0 x22
  replace hp := hp.ext0 x22
  replace hb1 := hb1.ext0 x22
  replace hb4 := hb4.ext0 x22
  replace hb7 := hb7.ext0 x22
  replace hb10 := hb10.ext0 x22
  replace hb13 := hb13.ext0 x22
  replace hb16 := hb16.ext0 x22
  replace hO := hO.ext0 x22
  clear x22
  refine s1 (v := (.bool (!(decide (fr < 0) || decide (n ≤ fr))))) (rn_not (b := (decide (fr < 0) || decide (n ≤ fr))) rfl) ?_
  refine s1 (v := (.bool (!(decide (fr < 0) || decide (n ≤ fr))))) (rn_as rfl) ?_
  refine w_end ?_
  refine c_if (b := (!(decide (fr < 0) || decide (n ≤ fr)))) rfl (fun h23 => ?_) (fun h23 => ?_)
  ·
    have h24 := not_t h23
    refine c_skip' ?_
    refine b_norm ?_
    refine b_norm ?_
    refine t_norm ?_
    refine c_r ?_
    refine s1 (v := (i64 1)) (rn_add (m := 0) (n := 1) rfl rfl (by decide)) ?_
    refine s1 (v := (i64 1)) (rn_mv rfl) ?_
    refine w_nil ?_
    refine t_norm ?_
    refine r_round ?_
    refine c_rs ?_
    refine s1 (v := (.bool true)) (rn_lss (m := 1) (n := 5) rfl rfl) ?_
    refine w_end ?_
    refine c_seq ?_
    refine c_T (b := true) rfl rfl ?_
    refine c_skip' ?_
    refine t_norm ?_
    refine c_seq ?_
    refine c_block ?_
    refine c_rs ?_
    refine s1 (v := (ptr b13 2)) (rn_ie is141 rfl rfl rfl (by omega) (by omega) rfl) ?_
    refine s1 (v := (.agg #[(i64 0), (.func (.func 84) #[] #[(ptr b10 0), (ptr b1 0)])])) (rn_lbN (vs := [(i64 0), (.func (.func 84) #[] #[(ptr b10 0), (ptr b1 0)])]) g140 rfl hb13 rfl rfl) ?_
    refine s_alloc (cs := [(i64 0), .nilFunc]) z140 rfl (fun b25 w26 hb25 gb25 x27 => ?_)
    have nb25_hE : w0.heap.size ≤ b25 := Nat.le_trans hE.size gb25
    have ob25 : b16 < b25 := Nat.lt_of_lt_of_le hb16.lt gb25
    have obb25_hO : ∀ c ∈ obl v, c < b25 := fun c hc => Nat.lt_of_lt_of_le (hO.lt c hc).2 gb25
    clear gb25
    replace hE := hE.step0 x27
    replace hp := hp.ext0 x27
    replace hb1 := hb1.ext0 x27
    replace hb4 := hb4.ext0 x27
    replace hb7 := hb7.ext0 x27
    replace hb10 := hb10.ext0 x27
    replace hb13 := hb13.ext0 x27
    replace hb16 := hb16.ext0 x27
    replace hO := hO.ext0 x27
    clear x27
    refine s_st (v := (.agg #[(i64 0), (.func (.func 84) #[] #[(ptr b10 0), (ptr b1 0)])])) (vs := [(i64 0), (.func (.func 84) #[] #[(ptr b10 0), (ptr b1 0)])]) (cs' := [(i64 0), (.func (.func 84) #[] #[(ptr b10 0), (ptr b1 0)])]) g140.2 rfl rfl rfl rfl hb25 (by simp) rfl rfl (fun w28 h_ x29 => ?_)
    replace hE := hE.step1 x29 (by first | (left; simp; done) | (right; omega))
    replace hp := hp.ext1 x29 (by omega)
    replace hb1 := hb1.ext1 x29 (by omega)
    replace hb4 := hb4.ext1 x29 (by omega)
    replace hb7 := hb7.ext1 x29 (by omega)
    replace hb10 := hb10.ext1 x29 (by omega)
    replace hb13 := hb13.ext1 x29 (by omega)
    replace hb16 := hb16.ext1 x29 (by omega)
    replace hO := hO.ext x29 (fun c hc hm => by simp at hm; subst hm; exact hO.neBlk hb25 (by decide) hc)
    clear x29
    replace hb25 := h_; clear h_
    refine w_end ?_
    refine c_block ?_
    refine c_rs ?_
    refine s1 (v := (ptr b25 1)) (rn_fa fa140_1 rfl rfl) ?_
    refine s1 (v := (.func (.func 84) #[] #[(ptr b10 0), (ptr b1 0)])) (rn_lb1 o24 rfl hb25 rfl) ?_
    refine s_callvP e84 (v := (.bool (!(withinB s n)))) (vs := []) (ws := [(ptr b10 0), (ptr b1 0)]) rfl rfl (Take2_c hb10 hb1 hp) (fun w30 x31 => ?_)
    replace hE := hE.step0 x31
    replace hp := hp.ext0 x31
    replace hb1 := hb1.ext0 x31
    replace hb4 := hb4.ext0 x31
    replace hb7 := hb7.ext0 x31
    replace hb10 := hb10.ext0 x31
    replace hb13 := hb13.ext0 x31
    replace hb16 := hb16.ext0 x31
    replace hb25 := hb25.ext0 x31
    replace hO := hO.ext0 x31
    clear x31
    refine s1 (v := (.bool (!(!(withinB s n))))) (rn_not (b := (!(withinB s n))) rfl) ?_
    refine s1 (v := (.bool (!(!(withinB s n))))) (rn_as rfl) ?_
    refine w_end ?_
    refine c_if (b := (!(!(withinB s n)))) rfl (fun h32 => ?_) (fun h32 => ?_)
    ·
      have h33 := not_t h32
      have h34 := not_f h33
      refine c_skip' ?_
      refine b_norm ?_
      refine b_norm ?_
      refine t_norm ?_
      refine c_r ?_
      refine s1 (v := (i64 2)) (rn_add (m := 1) (n := 1) rfl rfl (by decide)) ?_
      refine s1 (v := (i64 2)) (rn_mv rfl) ?_
      refine w_nil ?_
      refine t_norm ?_
      refine r_round ?_
      refine c_rs ?_
      refine s1 (v := (.bool true)) (rn_lss (m := 2) (n := 5) rfl rfl) ?_
      refine w_end ?_
      refine c_seq ?_
      refine c_T (b := true) rfl rfl ?_
      refine c_skip' ?_
      refine t_norm ?_
      refine c_seq ?_
      refine c_block ?_
      refine c_rs ?_
      refine s1 (v := (ptr b13 4)) (rn_ie is141 rfl rfl rfl (by omega) (by omega) rfl) ?_
      refine s1 (v := (.agg #[(i64 2), (.func (.func 85) #[] #[(ptr b7 0), (ptr b1 0)])])) (rn_lbN (vs := [(i64 2), (.func (.func 85) #[] #[(ptr b7 0), (ptr b1 0)])]) g140 rfl hb13 rfl rfl) ?_
      refine s_alloc (cs := [(i64 0), .nilFunc]) z140 rfl (fun b35 w36 hb35 gb35 x37 => ?_)
      have nb35_hE : w0.heap.size ≤ b35 := Nat.le_trans hE.size gb35
      have ob35 : b25 < b35 := Nat.lt_of_lt_of_le hb25.lt gb35
      have obb35_hO : ∀ c ∈ obl v, c < b35 := fun c hc => Nat.lt_of_lt_of_le (hO.lt c hc).2 gb35
      clear gb35
      replace hE := hE.step0 x37
      replace hp := hp.ext0 x37
      replace hb1 := hb1.ext0 x37
      replace hb4 := hb4.ext0 x37
      replace hb7 := hb7.ext0 x37
      replace hb10 := hb10.ext0 x37
      replace hb13 := hb13.ext0 x37
      replace hb16 := hb16.ext0 x37
      replace hb25 := hb25.ext0 x37
      replace hO := hO.ext0 x37
      clear x37
      refine s_st (v := (.agg #[(i64 2), (.func (.func 85) #[] #[(ptr b7 0), (ptr b1 0)])])) (vs := [(i64 2), (.func (.func 85) #[] #[(ptr b7 0), (ptr b1 0)])]) (cs' := [(i64 2), (.func (.func 85) #[] #[(ptr b7 0), (ptr b1 0)])]) g140.2 rfl rfl rfl rfl hb35 (by simp) rfl rfl (fun w38 h_ x39 => ?_)
      replace hE := hE.step1 x39 (by first | (left; simp; done) | (right; omega))
      replace hp := hp.ext1 x39 (by omega)
      replace hb1 := hb1.ext1 x39 (by omega)
      replace hb4 := hb4.ext1 x39 (by omega)
      replace hb7 := hb7.ext1 x39 (by omega)
      replace hb10 := hb10.ext1 x39 (by omega)
      replace hb13 := hb13.ext1 x39 (by omega)
      replace hb16 := hb16.ext1 x39 (by omega)
      replace hb25 := hb25.ext1 x39 (by omega)
      replace hO := hO.ext x39 (fun c hc hm => by simp at hm; subst hm; exact hO.neBlk hb35 (by decide) hc)
      clear x39
      replace hb35 := h_; clear h_
      refine w_end ?_
      refine c_block ?_
      refine c_rs ?_
      refine s1 (v := (ptr b35 1)) (rn_fa fa140_1 rfl rfl) ?_
      refine s1 (v := (.func (.func 85) #[] #[(ptr b7 0), (ptr b1 0)])) (rn_lb1 o24 rfl hb35 rfl) ?_
      refine s_callvP e85 (v := (.bool (decide (rd ≠ round)))) (vs := []) (ws := [(ptr b7 0), (ptr b1 0)]) rfl rfl (Take3_c hb7 hb1 hp) (fun w40 x41 => ?_)
      replace hE := hE.step0 x41
      replace hp := hp.ext0 x41
      replace hb1 := hb1.ext0 x41
      replace hb4 := hb4.ext0 x41
      replace hb7 := hb7.ext0 x41
      replace hb10 := hb10.ext0 x41
      replace hb13 := hb13.ext0 x41
      replace hb16 := hb16.ext0 x41
      replace hb25 := hb25.ext0 x41
      replace hb35 := hb35.ext0 x41
      replace hO := hO.ext0 x41
      clear x41
      refine s1 (v := (.bool (!(decide (rd ≠ round))))) (rn_not (b := (decide (rd ≠ round))) rfl) ?_
      refine s1 (v := (.bool (!(decide (rd ≠ round))))) (rn_as rfl) ?_
      refine w_end ?_
      refine c_if (b := (!(decide (rd ≠ round)))) rfl (fun h42 => ?_) (fun h42 => ?_)
      ·
        have h43 := not_t h42
        have p44 := of_decide_eq_false h43
        refine c_skip' ?_
        refine b_norm ?_
        refine b_norm ?_
        refine t_norm ?_
        refine c_r ?_
        refine s1 (v := (i64 3)) (rn_add (m := 2) (n := 1) rfl rfl (by decide)) ?_
        refine s1 (v := (i64 3)) (rn_mv rfl) ?_
        refine w_nil ?_
        refine t_norm ?_
        refine r_round ?_
        refine c_rs ?_
        refine s1 (v := (.bool true)) (rn_lss (m := 3) (n := 5) rfl rfl) ?_
        refine w_end ?_
        refine c_seq ?_
        refine c_T (b := true) rfl rfl ?_
        refine c_skip' ?_
        refine t_norm ?_
        refine c_seq ?_
        refine c_block ?_
        refine c_rs ?_
        refine s1 (v := (ptr b13 6)) (rn_ie is141 rfl rfl rfl (by omega) (by omega) rfl) ?_
        refine s1 (v := (.agg #[(i64 3), (.func (.func 86) #[] #[(ptr b1 0), (ptr b4 0)])])) (rn_lbN (vs := [(i64 3), (.func (.func 86) #[] #[(ptr b1 0), (ptr b4 0)])]) g140 rfl hb13 rfl rfl) ?_
        refine s_alloc (cs := [(i64 0), .nilFunc]) z140 rfl (fun b45 w46 hb45 gb45 x47 => ?_)
        have nb45_hE : w0.heap.size ≤ b45 := Nat.le_trans hE.size gb45
        have ob45 : b35 < b45 := Nat.lt_of_lt_of_le hb35.lt gb45
        have obb45_hO : ∀ c ∈ obl v, c < b45 := fun c hc => Nat.lt_of_lt_of_le (hO.lt c hc).2 gb45
        clear gb45
        replace hE := hE.step0 x47
        replace hp := hp.ext0 x47
        replace hb1 := hb1.ext0 x47
        replace hb4 := hb4.ext0 x47
        replace hb7 := hb7.ext0 x47
        replace hb10 := hb10.ext0 x47
        replace hb13 := hb13.ext0 x47
        replace hb16 := hb16.ext0 x47
        replace hb25 := hb25.ext0 x47
        replace hb35 := hb35.ext0 x47
        replace hO := hO.ext0 x47
        clear x47
        refine s_st (v := (.agg #[(i64 3), (.func (.func 86) #[] #[(ptr b1 0), (ptr b4 0)])])) (vs := [(i64 3), (.func (.func 86) #[] #[(ptr b1 0), (ptr b4 0)])]) (cs' := [(i64 3), (.func (.func 86) #[] #[(ptr b1 0), (ptr b4 0)])]) g140.2 rfl rfl rfl rfl hb45 (by simp) rfl rfl (fun w48 h_ x49 => ?_)
        replace hE := hE.step1 x49 (by first | (left; simp; done) | (right; omega))
        replace hp := hp.ext1 x49 (by omega)
        replace hb1 := hb1.ext1 x49 (by omega)
        replace hb4 := hb4.ext1 x49 (by omega)
        replace hb7 := hb7.ext1 x49 (by omega)
        replace hb10 := hb10.ext1 x49 (by omega)
        replace hb13 := hb13.ext1 x49 (by omega)
        replace hb16 := hb16.ext1 x49 (by omega)
        replace hb25 := hb25.ext1 x49 (by omega)
        replace hb35 := hb35.ext1 x49 (by omega)
        replace hO := hO.ext x49 (fun c hc hm => by simp at hm; subst hm; exact hO.neBlk hb45 (by decide) hc)
        clear x49
        replace hb45 := h_; clear h_
        refine w_end ?_
        refine fr_eq (l' := (lk [(ptr p 0), (i64 fr), (i64 rd), (S4.val s), (ptr b1 0), (ptr b4 0), (ptr b7 0), (ptr b10 0), (i64 0), (i64 0), (.slice (some ⟨b13, 0, none⟩) 5 5), undef, (ptr b45 0), (ptr p 0), (.bool false), (.func (.func 83) #[] #[(ptr b4 0), (ptr b1 0)]), (.agg #[(i64 5), (.func (.func 83) #[] #[(ptr b4 0), (ptr b1 0)])]), (.func (.func 84) #[] #[(ptr b10 0), (ptr b1 0)]), (.agg #[(i64 0), (.func (.func 84) #[] #[(ptr b10 0), (ptr b1 0)])]), (.func (.func 85) #[] #[(ptr b7 0), (ptr b1 0)]), (.agg #[(i64 2), (.func (.func 85) #[] #[(ptr b7 0), (ptr b1 0)])]), (.func (.func 86) #[] #[(ptr b1 0), (ptr b4 0)]), (.agg #[(i64 3), (.func (.func 86) #[] #[(ptr b1 0), (ptr b4 0)])]), (.func (.func 87) #[] #[(ptr b1 0)]), (.agg #[(i64 4), (.func (.func 87) #[] #[(ptr b1 0)])]), (.slice (some ⟨b13, 0, none⟩) 5 5), (.slice (some ⟨b13, 0, none⟩) 5 5), (i64 5), (i64 3), (.bool true), (ptr b13 6), (.agg #[(i64 3), (.func (.func 86) #[] #[(ptr b1 0), (ptr b4 0)])]), undef, undef, (.bool (!(decide (rd ≠ round)))), (ptr b35 1), (.func (.func 85) #[] #[(ptr b7 0), (ptr b1 0)]), (.bool (decide (rd ≠ round))), (.bool (!(decide (rd ≠ round)))), undef, undef, undef, undef, (i64 3), undef, undef, undef, undef])) (by kernel_rfl) ?_
        refine c_block ?_
        refine c_rs ?_
        refine s1 (v := (ptr b45 1)) (rn_fa fa140_1 rfl rfl) ?_
        refine s1 (v := (.func (.func 86) #[] #[(ptr b1 0), (ptr b4 0)])) (rn_lb1 o24 rfl hb45 rfl) ?_
        refine s_callvP e86 (v := (.bool (hasB rep fr))) (vs := []) (ws := [(ptr b1 0), (ptr b4 0)]) rfl rfl (Take4_c hb1 hb4 hp) (fun w50 x51 => ?_)
        replace hE := hE.step0 x51
        replace hp := hp.ext0 x51
        replace hb1 := hb1.ext0 x51
        replace hb4 := hb4.ext0 x51
        replace hb7 := hb7.ext0 x51
        replace hb10 := hb10.ext0 x51
        replace hb13 := hb13.ext0 x51
        replace hb16 := hb16.ext0 x51
        replace hb25 := hb25.ext0 x51
        replace hb35 := hb35.ext0 x51
        replace hb45 := hb45.ext0 x51
        replace hO := hO.ext0 x51
        clear x51
        refine s1 (v := (.bool (!(hasB rep fr)))) (rn_not (b := (hasB rep fr)) rfl) ?_
        refine s1 (v := (.bool (!(hasB rep fr)))) (rn_as rfl) ?_
        refine w_end ?_
        refine c_if (b := (!(hasB rep fr))) rfl (fun h52 => ?_) (fun h52 => ?_)
        ·
          have h53 := not_t h52
          refine c_skip' ?_
          refine b_norm ?_
          refine b_norm ?_
          refine t_norm ?_
          refine c_r ?_
          refine s1 (v := (i64 4)) (rn_add (m := 3) (n := 1) rfl rfl (by decide)) ?_
          refine s1 (v := (i64 4)) (rn_mv rfl) ?_
          refine w_nil ?_
          refine t_norm ?_
          refine r_round ?_
          refine c_rs ?_
          refine s1 (v := (.bool true)) (rn_lss (m := 4) (n := 5) rfl rfl) ?_
          refine w_end ?_
          refine c_seq ?_
          refine c_T (b := true) rfl rfl ?_
          refine c_skip' ?_
          refine t_norm ?_
          refine c_seq ?_
          refine c_block ?_
          refine c_rs ?_
          refine s1 (v := (ptr b13 8)) (rn_ie is141 rfl rfl rfl (by omega) (by omega) rfl) ?_
          refine s1 (v := (.agg #[(i64 4), (.func (.func 87) #[] #[(ptr b1 0)])])) (rn_lbN (vs := [(i64 4), (.func (.func 87) #[] #[(ptr b1 0)])]) g140 rfl hb13 rfl rfl) ?_
          refine s_alloc (cs := [(i64 0), .nilFunc]) z140 rfl (fun b54 w55 hb54 gb54 x56 => ?_)
          have nb54_hE : w0.heap.size ≤ b54 := Nat.le_trans hE.size gb54
          have ob54 : b45 < b54 := Nat.lt_of_lt_of_le hb45.lt gb54
          have obb54_hO : ∀ c ∈ obl v, c < b54 := fun c hc => Nat.lt_of_lt_of_le (hO.lt c hc).2 gb54
          clear gb54
          replace hE := hE.step0 x56
          replace hp := hp.ext0 x56
          replace hb1 := hb1.ext0 x56
          replace hb4 := hb4.ext0 x56
          replace hb7 := hb7.ext0 x56
          replace hb10 := hb10.ext0 x56
          replace hb13 := hb13.ext0 x56
          replace hb16 := hb16.ext0 x56
          replace hb25 := hb25.ext0 x56
          replace hb35 := hb35.ext0 x56
          replace hb45 := hb45.ext0 x56
          replace hO := hO.ext0 x56
          clear x56
          refine s_st (v := (.agg #[(i64 4), (.func (.func 87) #[] #[(ptr b1 0)])])) (vs := [(i64 4), (.func (.func 87) #[] #[(ptr b1 0)])]) (cs' := [(i64 4), (.func (.func 87) #[] #[(ptr b1 0)])]) g140.2 rfl rfl rfl rfl hb54 (by simp) rfl rfl (fun w57 h_ x58 => ?_)
          replace hE := hE.step1 x58 (by first | (left; simp; done) | (right; omega))
          replace hp := hp.ext1 x58 (by omega)
          replace hb1 := hb1.ext1 x58 (by omega)
          replace hb4 := hb4.ext1 x58 (by omega)
          replace hb7 := hb7.ext1 x58 (by omega)
          replace hb10 := hb10.ext1 x58 (by omega)
          replace hb13 := hb13.ext1 x58 (by omega)
          replace hb16 := hb16.ext1 x58 (by omega)
          replace hb25 := hb25.ext1 x58 (by omega)
          replace hb35 := hb35.ext1 x58 (by omega)
          replace hb45 := hb45.ext1 x58 (by omega)
          replace hO := hO.ext x58 (fun c hc hm => by simp at hm; subst hm; exact hO.neBlk hb54 (by decide) hc)
          clear x58
          replace hb54 := h_; clear h_
          refine w_end ?_
          refine c_block ?_
          refine c_rs ?_
          refine s1 (v := (ptr b54 1)) (rn_fa fa140_1 rfl rfl) ?_
          refine s1 (v := (.func (.func 87) #[] #[(ptr b1 0)])) (rn_lb1 o24 rfl hb54 rfl) ?_
          refine s_callvP e87 (v := (.bool (readyB need hs.length))) (vs := []) (ws := [(ptr b1 0)]) rfl rfl (Take5_c hb1 hp hO) (fun w59 x60 => ?_)
          replace hE := hE.step0 x60
          replace hp := hp.ext0 x60
          replace hb1 := hb1.ext0 x60
          replace hb4 := hb4.ext0 x60
          replace hb7 := hb7.ext0 x60
          replace hb10 := hb10.ext0 x60
          replace hb13 := hb13.ext0 x60
          replace hb16 := hb16.ext0 x60
          replace hb25 := hb25.ext0 x60
          replace hb35 := hb35.ext0 x60
          replace hb45 := hb45.ext0 x60
          replace hb54 := hb54.ext0 x60
          replace hO := hO.ext0 x60
          clear x60
          refine s1 (v := (.bool (!(readyB need hs.length)))) (rn_not (b := (readyB need hs.length)) rfl) ?_
          refine s1 (v := (.bool (!(readyB need hs.length)))) (rn_as rfl) ?_
          refine w_end ?_
          refine c_if (b := (!(readyB need hs.length))) rfl (fun h61 => ?_) (fun h61 => ?_)
          ·
            have h62 := not_t h61
            refine c_skip' ?_
            refine b_norm ?_
            refine b_norm ?_
            refine t_norm ?_
            refine c_r ?_
            refine s1 (v := (i64 5)) (rn_add (m := 4) (n := 1) rfl rfl (by decide)) ?_
            refine s1 (v := (i64 5)) (rn_mv rfl) ?_
            refine w_nil ?_
            refine t_norm ?_
            refine r_round ?_
            refine c_rs ?_
            refine s1 (v := (.bool false)) (rn_lss (m := 5) (n := 5) rfl rfl) ?_
            refine w_end ?_
            refine c_seq ?_
            refine c_F (b := false) rfl rfl ?_
            refine c_exit ?_
            refine t_exit ?_
            refine t_exit ?_
            refine b_here ?_
            refine t_norm ?_
            refine c_rs ?_
            have hfb : 0 ≤ fr ∧ fr < n := by have h_ := h24; simp at h_; omega
            have hsz := hE.size
            refine s1 (v := (ptr p 0)) (rn_lb1 o42 rfl hb1 rfl) ?_
            refine s1 (v := (i64 fr)) (rn_lb1 o3 rfl hb4 rfl) ?_
            refine s1 (v := (S4.val s)) (rn_lbN (vs := (S4.cells s)) g34 rfl hb10 rfl rfl) ?_
            have hpbp := hp.lt
            refine s_call e82 (vs := [(ptr p 0), (i64 fr), (S4.val s)]) rfl (add_c (rep := rep) hp hO (by omega) (by first | omega | simp) fr (by omega) (by omega) s (by omega)) ?_
            rintro _ w64 ⟨v63, rfl, hb65, hO66, x67, hVv63⟩
            replace hE := hE.step x67 (fun c hc => by rcases List.mem_cons.1 hc with h_ | h_ <;> first | (left; simp [h_]; done) | (right; omega) | (right; have h1_ := hO.lt _ h_; omega))
            replace hb1 := hb1.ext x67 (fun hc => by (rcases List.mem_cons.1 hc with h_ | h_ <;> first | omega | (exfalso; omega) | (simp [obl] at h_; done) | (have h1_ := hO.lt _ h_; have := obb1_hO _ h_; have := obb4_hO _ h_; have := obb7_hO _ h_; have := obb10_hO _ h_; have := obb13_hO _ h_; have := obb16_hO _ h_; have := obb25_hO _ h_; have := obb35_hO _ h_; have := obb45_hO _ h_; have := obb54_hO _ h_; (first | omega | (exfalso; omega)))))
            replace hb4 := hb4.ext x67 (fun hc => by (rcases List.mem_cons.1 hc with h_ | h_ <;> first | omega | (exfalso; omega) | (simp [obl] at h_; done) | (have h1_ := hO.lt _ h_; have := obb1_hO _ h_; have := obb4_hO _ h_; have := obb7_hO _ h_; have := obb10_hO _ h_; have := obb13_hO _ h_; have := obb16_hO _ h_; have := obb25_hO _ h_; have := obb35_hO _ h_; have := obb45_hO _ h_; have := obb54_hO _ h_; (first | omega | (exfalso; omega)))))
            replace hb7 := hb7.ext x67 (fun hc => by (rcases List.mem_cons.1 hc with h_ | h_ <;> first | omega | (exfalso; omega) | (simp [obl] at h_; done) | (have h1_ := hO.lt _ h_; have := obb1_hO _ h_; have := obb4_hO _ h_; have := obb7_hO _ h_; have := obb10_hO _ h_; have := obb13_hO _ h_; have := obb16_hO _ h_; have := obb25_hO _ h_; have := obb35_hO _ h_; have := obb45_hO _ h_; have := obb54_hO _ h_; (first | omega | (exfalso; omega)))))
            replace hb10 := hb10.ext x67 (fun hc => by (rcases List.mem_cons.1 hc with h_ | h_ <;> first | omega | (exfalso; omega) | (simp [obl] at h_; done) | (have h1_ := hO.lt _ h_; have := obb1_hO _ h_; have := obb4_hO _ h_; have := obb7_hO _ h_; have := obb10_hO _ h_; have := obb13_hO _ h_; have := obb16_hO _ h_; have := obb25_hO _ h_; have := obb35_hO _ h_; have := obb45_hO _ h_; have := obb54_hO _ h_; (first | omega | (exfalso; omega)))))
            replace hb13 := hb13.ext x67 (fun hc => by (rcases List.mem_cons.1 hc with h_ | h_ <;> first | omega | (exfalso; omega) | (simp [obl] at h_; done) | (have h1_ := hO.lt _ h_; have := obb1_hO _ h_; have := obb4_hO _ h_; have := obb7_hO _ h_; have := obb10_hO _ h_; have := obb13_hO _ h_; have := obb16_hO _ h_; have := obb25_hO _ h_; have := obb35_hO _ h_; have := obb45_hO _ h_; have := obb54_hO _ h_; (first | omega | (exfalso; omega)))))
            replace hb16 := hb16.ext x67 (fun hc => by (rcases List.mem_cons.1 hc with h_ | h_ <;> first | omega | (exfalso; omega) | (simp [obl] at h_; done) | (have h1_ := hO.lt _ h_; have := obb1_hO _ h_; have := obb4_hO _ h_; have := obb7_hO _ h_; have := obb10_hO _ h_; have := obb13_hO _ h_; have := obb16_hO _ h_; have := obb25_hO _ h_; have := obb35_hO _ h_; have := obb45_hO _ h_; have := obb54_hO _ h_; (first | omega | (exfalso; omega)))))
            replace hb25 := hb25.ext x67 (fun hc => by (rcases List.mem_cons.1 hc with h_ | h_ <;> first | omega | (exfalso; omega) | (simp [obl] at h_; done) | (have h1_ := hO.lt _ h_; have := obb1_hO _ h_; have := obb4_hO _ h_; have := obb7_hO _ h_; have := obb10_hO _ h_; have := obb13_hO _ h_; have := obb16_hO _ h_; have := obb25_hO _ h_; have := obb35_hO _ h_; have := obb45_hO _ h_; have := obb54_hO _ h_; (first | omega | (exfalso; omega)))))
            replace hb35 := hb35.ext x67 (fun hc => by (rcases List.mem_cons.1 hc with h_ | h_ <;> first | omega | (exfalso; omega) | (simp [obl] at h_; done) | (have h1_ := hO.lt _ h_; have := obb1_hO _ h_; have := obb4_hO _ h_; have := obb7_hO _ h_; have := obb10_hO _ h_; have := obb13_hO _ h_; have := obb16_hO _ h_; have := obb25_hO _ h_; have := obb35_hO _ h_; have := obb45_hO _ h_; have := obb54_hO _ h_; (first | omega | (exfalso; omega)))))
            replace hb45 := hb45.ext x67 (fun hc => by (rcases List.mem_cons.1 hc with h_ | h_ <;> first | omega | (exfalso; omega) | (simp [obl] at h_; done) | (have h1_ := hO.lt _ h_; have := obb1_hO _ h_; have := obb4_hO _ h_; have := obb7_hO _ h_; have := obb10_hO _ h_; have := obb13_hO _ h_; have := obb16_hO _ h_; have := obb25_hO _ h_; have := obb35_hO _ h_; have := obb45_hO _ h_; have := obb54_hO _ h_; (first | omega | (exfalso; omega)))))
            replace hb54 := hb54.ext x67 (fun hc => by (rcases List.mem_cons.1 hc with h_ | h_ <;> first | omega | (exfalso; omega) | (simp [obl] at h_; done) | (have h1_ := hO.lt _ h_; have := obb1_hO _ h_; have := obb4_hO _ h_; have := obb7_hO _ h_; have := obb10_hO _ h_; have := obb13_hO _ h_; have := obb16_hO _ h_; have := obb25_hO _ h_; have := obb35_hO _ h_; have := obb45_hO _ h_; have := obb54_hO _ h_; (first | omega | (exfalso; omega)))))
            replace hp := hb65; clear hb65
            replace hO := hO66; clear hO66
            clear x67
            refine w_end ?_
            refine c_rs ?_
            refine s1 (v := (i64 1)) (rn_as rfl) ?_
            refine s1 (v := (i64 0)) (rn_as rfl) ?_
            refine w_end ?_
            refine c_ret ?_
            refine bp_ret (rs2 rfl (rv_tmp (v := (i64 1)) rfl) (rv_tmp (v := (i64 0)) rfl)) ?_
            have hrr := of_decide_eq_false h43
            have hk : ctd n need round rep hs.length fr rd s = true := by have hrr2 := Classical.not_not.1 hrr; simp [ctd, h24, h34, hrr, h53, h62, hrr2]
            rw [hk]
            exact ⟨v63, _, _, rfl, hp, hO, hE, fun c hc => (hVv63 c hc).imp_right (fun q => by omega)⟩
          ·
            have h68 := not_f h61
            refine c_rs ?_
            refine s1 (v := (ptr b54 0)) (rn_fa fa140_0 rfl rfl) ?_
            refine s1 (v := (i64 4)) (rn_lb1 o3 rfl hb54 rfl) ?_
            refine s1 (v := (.bool false)) (rn_eql (m := 4) (n := 0) rfl rfl) ?_
            refine s1 (v := (.bool false)) (rn_as rfl) ?_
            refine w_end ?_
            refine c_F (b := false) rfl rfl ?_
            refine c_rs ?_
            refine s1 (v := (ptr b54 0)) (rn_fa fa140_0 rfl rfl) ?_
            refine s1 (v := (i64 4)) (rn_lb1 o3 rfl hb54 rfl) ?_
            refine s1 (v := (i64 4)) (rn_as rfl) ?_
            refine s1 (v := (i64 0)) (rn_as rfl) ?_
            refine w_end ?_
            refine c_ret ?_
            refine b_ret ?_
            refine b_ret ?_
            refine t_ret ?_
            refine t_ret ?_
            refine b_ret ?_
            refine t_ret ?_
            refine bp_ret (rs2 rfl (rv_tmp (v := (i64 4)) rfl) (rv_tmp (v := (i64 0)) rfl)) ?_
            have hrr := of_decide_eq_false h43
            have hk : ctd n need round rep hs.length fr rd s = false := by simp [ctd, h24, h34, hrr, h53, h68]
            rw [hk]
            exact ⟨v, _, _, rfl, hp, hO, hE, fun c hc => .inl hc⟩
        ·
          have h69 := not_f h52
          refine c_rs ?_
          refine s1 (v := (ptr b45 0)) (rn_fa fa140_0 rfl rfl) ?_
          refine s1 (v := (i64 3)) (rn_lb1 o3 rfl hb45 rfl) ?_
          refine s1 (v := (.bool false)) (rn_eql (m := 3) (n := 0) rfl rfl) ?_
          refine s1 (v := (.bool false)) (rn_as rfl) ?_
          refine w_end ?_
          refine c_F (b := false) rfl rfl ?_
          refine c_rs ?_
          refine s1 (v := (ptr b45 0)) (rn_fa fa140_0 rfl rfl) ?_
          refine s1 (v := (i64 3)) (rn_lb1 o3 rfl hb45 rfl) ?_
          refine s1 (v := (i64 3)) (rn_as rfl) ?_
          refine s1 (v := (i64 0)) (rn_as rfl) ?_
          refine w_end ?_
          refine c_ret ?_
          refine b_ret ?_
          refine b_ret ?_
          refine t_ret ?_
          refine t_ret ?_
          refine b_ret ?_
          refine t_ret ?_
          refine bp_ret (rs2 rfl (rv_tmp (v := (i64 3)) rfl) (rv_tmp (v := (i64 0)) rfl)) ?_
          have hrr := of_decide_eq_false h43
          have hk : ctd n need round rep hs.length fr rd s = false := by simp [ctd, h24, h34, hrr, h69]
          rw [hk]
          exact ⟨v, _, _, rfl, hp, hO, hE, fun c hc => .inl hc⟩
      ·
        have h70 := not_f h42
        have p71 := of_decide_eq_true h70
        refine c_rs ?_
        refine s1 (v := (ptr b35 0)) (rn_fa fa140_0 rfl rfl) ?_
        refine s1 (v := (i64 2)) (rn_lb1 o3 rfl hb35 rfl) ?_
        refine s1 (v := (.bool false)) (rn_eql (m := 2) (n := 0) rfl rfl) ?_
        refine s1 (v := (.bool false)) (rn_as rfl) ?_
        refine w_end ?_
        refine fr_eq (l' := (lk [(ptr p 0), (i64 fr), (i64 rd), (S4.val s), (ptr b1 0), (ptr b4 0), (ptr b7 0), (ptr b10 0), (i64 0), (i64 0), (.slice (some ⟨b13, 0, none⟩) 5 5), undef, (ptr b35 0), (ptr p 0), (.bool false), (.func (.func 83) #[] #[(ptr b4 0), (ptr b1 0)]), (.agg #[(i64 5), (.func (.func 83) #[] #[(ptr b4 0), (ptr b1 0)])]), (.func (.func 84) #[] #[(ptr b10 0), (ptr b1 0)]), (.agg #[(i64 0), (.func (.func 84) #[] #[(ptr b10 0), (ptr b1 0)])]), (.func (.func 85) #[] #[(ptr b7 0), (ptr b1 0)]), (.agg #[(i64 2), (.func (.func 85) #[] #[(ptr b7 0), (ptr b1 0)])]), (.func (.func 86) #[] #[(ptr b1 0), (ptr b4 0)]), (.agg #[(i64 3), (.func (.func 86) #[] #[(ptr b1 0), (ptr b4 0)])]), (.func (.func 87) #[] #[(ptr b1 0)]), (.agg #[(i64 4), (.func (.func 87) #[] #[(ptr b1 0)])]), (.slice (some ⟨b13, 0, none⟩) 5 5), (.slice (some ⟨b13, 0, none⟩) 5 5), (i64 5), (i64 2), (.bool true), (ptr b13 4), (.agg #[(i64 2), (.func (.func 85) #[] #[(ptr b7 0), (ptr b1 0)])]), undef, undef, (.bool (!(decide (rd ≠ round)))), (ptr b35 1), (.func (.func 85) #[] #[(ptr b7 0), (ptr b1 0)]), (.bool (decide (rd ≠ round))), (.bool (!(decide (rd ≠ round)))), (.bool false), (ptr b35 0), (i64 2), (.bool false), (i64 2), undef, undef, undef, undef])) (by kernel_rfl) ?_
        refine c_F (b := false) rfl rfl ?_
        refine c_rs ?_
        refine s1 (v := (ptr b35 0)) (rn_fa fa140_0 rfl rfl) ?_
        refine s1 (v := (i64 2)) (rn_lb1 o3 rfl hb35 rfl) ?_
        refine s1 (v := (i64 2)) (rn_as rfl) ?_
        refine s1 (v := (i64 0)) (rn_as rfl) ?_
        refine w_end ?_
        refine c_ret ?_
        refine b_ret ?_
        refine b_ret ?_
        refine t_ret ?_
        refine t_ret ?_
        refine b_ret ?_
        refine t_ret ?_
        refine bp_ret (rs2 rfl (rv_tmp (v := (i64 2)) rfl) (rv_tmp (v := (i64 0)) rfl)) ?_
        have hrr := of_decide_eq_true h70
        have hk : ctd n need round rep hs.length fr rd s = false := by simp [ctd, h24, h34, hrr]
        rw [hk]
        exact ⟨v, _, _, rfl, hp, hO, hE, fun c hc => .inl hc⟩
    ·
      have h72 := not_f h32
      have h73 := not_t h72
      refine c_rs ?_
      refine s1 (v := (ptr b25 0)) (rn_fa fa140_0 rfl rfl) ?_
      refine s1 (v := (i64 0)) (rn_lb1 o3 rfl hb25 rfl) ?_
      refine s1 (v := (.bool true)) (rn_eql (m := 0) (n := 0) rfl rfl) ?_
      refine s1 (v := (.bool true)) (rn_as rfl) ?_
      refine w_end ?_
      refine c_T (b := true) rfl rfl ?_
      refine c_rs ?_
      refine s1 (v := (i64 0)) (rn_as rfl) ?_
      refine s1 (v := (i64 74)) (rn_as rfl) ?_
      refine w_end ?_
      refine c_ret ?_
      refine b_ret ?_
      refine b_ret ?_
      refine t_ret ?_
      refine t_ret ?_
      refine b_ret ?_
      refine t_ret ?_
      refine bp_ret (rs2 rfl (rv_tmp (v := (i64 0)) rfl) (rv_tmp (v := (i64 74)) rfl)) ?_
      have hk : ctd n need round rep hs.length fr rd s = false := by simp [ctd, h24, h73]
      rw [hk]
      exact ⟨v, _, _, rfl, hp, hO, hE, fun c hc => .inl hc⟩
  ·
    have h74 := not_f h23
    refine c_rs ?_
    refine s1 (v := (ptr b16 0)) (rn_fa fa140_0 rfl rfl) ?_
    refine s1 (v := (i64 5)) (rn_lb1 o3 rfl hb16 rfl) ?_
    refine s1 (v := (.bool false)) (rn_eql (m := 5) (n := 0) rfl rfl) ?_
    refine s1 (v := (.bool false)) (rn_as rfl) ?_
    refine w_end ?_
    refine c_F (b := false) rfl rfl ?_
    refine c_rs ?_
    refine s1 (v := (ptr b16 0)) (rn_fa fa140_0 rfl rfl) ?_
    refine s1 (v := (i64 5)) (rn_lb1 o3 rfl hb16 rfl) ?_
    refine s1 (v := (i64 5)) (rn_as rfl) ?_
    refine s1 (v := (i64 0)) (rn_as rfl) ?_
    refine w_end ?_
    refine c_ret ?_
    refine b_ret ?_
    refine b_ret ?_
    refine t_ret ?_
    refine t_ret ?_
    refine b_ret ?_
    refine t_ret ?_
    refine bp_ret (rs2 rfl (rv_tmp (v := (i64 5)) rfl) (rv_tmp (v := (i64 0)) rfl)) ?_
    have hk : ctd n need round rep hs.length fr rd s = false := by simp [ctd, h74]
    rw [hk]
    exact ⟨v, _, _, rfl, hp, hO, hE, fun c hc => .inl hc⟩

end Go.Proofs.Ytfdffeameoejfaa
