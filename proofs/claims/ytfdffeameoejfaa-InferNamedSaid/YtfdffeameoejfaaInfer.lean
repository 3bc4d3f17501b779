/- infer: printed walks. -/
import Derived.Test.YtfdffeameoejfaaTally
import Derived.Test.YtfdffeameoejfaaOps2
namespace Go.Proofs.Ytfdffeameoejfaa
open Go Go.RowKit
set_option linter.unusedVariables false
set_option linter.unusedSimpArgs false

def nodesB (n : Int) : Bool := decide (1 ≤ n) && decide (n ≤ 100)
def unionL (l : List S4) : S4 := l.foldl unionS (S4.mk 0 0 0 0)
def cntH (l : List S4) (i : Int) : Nat := (l.filter (fun s => hasB s i)).length
def allW (n : Int) (l : List S4) : Bool := l.all (fun s => withinB s n)
def coverF (f : Int) (l : List S4) (k : Nat) : S4 := (List.range k).foldl (fun s (i : Nat) => if f < (cntH l (i : Int) : Int) then withS s i else s) (S4.mk 0 0 0 0)
def coverS (n f : Int) (l : List S4) : S4 := if allW n l then coverF f l n.toNat else S4.mk 0 0 0 0
def coverE (n : Int) (l : List S4) : Int := if allW n l then 0 else 74
theorem cntH_snoc (l : List S4) (i : Int) (s : S4) : cntH (l ++ [s]) i = if hasB s i then cntH l i + 1 else cntH l i := by unfold cntH; rw [List.filter_append, List.length_append]; by_cases h : hasB s i = true <;> simp [h]
theorem cntH_le (l : List S4) (i : Int) : cntH l i ≤ l.length := List.length_filter_le _ _
theorem allW_snoc (n : Int) (l : List S4) (s : S4) : allW n (l ++ [s]) = (allW n l && withinB s n) := by simp [allW]
theorem allW_of {n : Int} {l : List S4} {k : Nat} {s : S4} (h : l[k]? = some s) (hs : withinB s n = false) : allW n l = false := by
  unfold allW; rw [Bool.eq_false_iff]; intro ha; rw [List.all_eq_true] at ha
  have := ha s (List.mem_of_getElem? h); rw [hs] at this; cases this
theorem coverF_succ (f : Int) (l : List S4) (k : Nat) : coverF f l (k + 1) = if f < (cntH l (k : Int) : Int) then withS (coverF f l k) k else coverF f l k := by unfold coverF; rw [List.range_succ, List.foldl_append]; rfl

theorem ones0_c {w0 : World} :
    Calls Try.prog 92 [(u32 0)].toArray w0 (Ret (Pu (i64 0) w0)) := by
  have hE : Ext [] w0 w0 := (Ext.refl w0).more (by simp)
  refine enter (vs := [(u32 0)]) Try.func92 rfl Try.ntmps92 rfl ?_
  refine c_rs ?_
  refine s1 (v := (i64 0)) (rn_as rfl) ?_
  refine w_end ?_
  refine c_seq ?_
  refine c_dr (n := 19) [.c (u32 0), .c (u32 0), .c (u8 0), .c (u32 0), .c (u32 0), .c (u32 0), .c (u8 0), .c (u8 0), .c (u32 0), .c (u32 0), .c (u32 0), .c (u8 0), .c (u8 0), .c (u32 0), .c (u32 0), .c (u8 0), .c (u8 0), .c (i64 0), .c (i64 0)] rfl mixed (by kernel_rfl) ?_
  refine q_v (v := (u32 0)) (fun W hC => rn_mv rfl) ?_
  refine q_v (v := (u32 0)) (fun W hC => rn_shrI (m := 0) (n := 24) rfl rfl (by first | omega | exact (some_b _).1) (by first | omega | (have := some_b; simp only [IntKind.bits]; have h__ := this (0); omega)) (by decide)) ?_
  refine q_v (v := (u8 0)) (fun W hC => rn_ixStr (b := 0) (i := 0) Try.underlying9 rfl rfl (by kernel_rfl)) ?_
  refine q_v (v := (u32 0)) (fun W hC => rn_mv rfl) ?_
  refine q_v (v := (u32 0)) (fun W hC => rn_shrI (m := 0) (n := 16) rfl rfl (by first | omega | exact (some_b _).1) (by first | omega | (have := some_b; simp only [IntKind.bits]; have h__ := this (0); omega)) (by decide)) ?_
  refine q_v (v := (u32 0)) (fun W hC => rn_and (m := 0) (n := 255) rfl rfl (by decide)) ?_
  refine q_v (v := (u8 0)) (fun W hC => rn_ixStr (b := 0) (i := 0) Try.underlying9 rfl rfl (by kernel_rfl)) ?_
  refine q_v (v := (u8 0)) (fun W hC => rn_add (m := 0) (n := 0) rfl rfl (by decide)) ?_
  refine q_v (v := (u32 0)) (fun W hC => rn_mv rfl) ?_
  refine q_v (v := (u32 0)) (fun W hC => rn_shrI (m := 0) (n := 8) rfl rfl (by first | omega | exact (some_b _).1) (by first | omega | (have := some_b; simp only [IntKind.bits]; have h__ := this (0); omega)) (by decide)) ?_
  refine q_v (v := (u32 0)) (fun W hC => rn_and (m := 0) (n := 255) rfl rfl (by decide)) ?_
  refine q_v (v := (u8 0)) (fun W hC => rn_ixStr (b := 0) (i := 0) Try.underlying9 rfl rfl (by kernel_rfl)) ?_
  refine q_v (v := (u8 0)) (fun W hC => rn_add (m := 0) (n := 0) rfl rfl (by decide)) ?_
  refine q_v (v := (u32 0)) (fun W hC => rn_mv rfl) ?_
  refine q_v (v := (u32 0)) (fun W hC => rn_and (m := 0) (n := 255) rfl rfl (by decide)) ?_
  refine q_v (v := (u8 0)) (fun W hC => rn_ixStr (b := 0) (i := 0) Try.underlying9 rfl rfl (by kernel_rfl)) ?_
  refine q_v (v := (u8 0)) (fun W hC => rn_add (m := 0) (n := 0) rfl rfl (by decide)) ?_
  refine q_v (v := (i64 0)) (fun W hC => rn_cv Try.underlying5 Try.underlying3 (n := 0) rfl (by decide)) ?_
  refine q_v (v := (i64 0)) (fun W hC => rn_as rfl) ?_
  refine ob_end (fun w1 x2 he3 hap4 => ?_)
  replace hE := hE.step0 x2
  clear x2
  refine w_end ?_
  refine c_ret ?_
  refine bp_ret (rs1 rfl (rv_tmp (v := (i64 0)) rfl)) ?_
  exact ⟨rfl, hE⟩

theorem Count0_c (s : S4) (h : cleanS s = S4.mk 0 0 0 0) {w0 : World} :
    Calls Try.prog 31 [(S4.val s)].toArray w0 (Ret (Pu (i64 0) w0)) := by
  have hE : Ext [] w0 w0 := (Ext.refl w0).more (by simp)
  refine enter (vs := [(S4.val s)]) Try.func31 rfl Try.ntmps31 rfl ?_
  refine c_rs ?_
  refine s_box (v := (S4.val s)) (cs := (S4.cells s)) rfl rfl (fun b1 w2 hb1 gb1 x3 => ?_)
  have nb1_hE : w0.heap.size ≤ b1 := Nat.le_trans hE.size gb1
  clear gb1
  replace hE := hE.step0 x3
  clear x3
  refine s1 (v := (i64 0)) (rn_as rfl) ?_
  refine w_end ?_
  refine c_rs ?_
  refine s1 (v := (i64 0)) (rn_as rfl) ?_
  refine w_end ?_
  refine c_seq ?_
  refine c_rs ?_
  refine s1 (v := (S4.val s)) (rn_lbN (vs := (S4.cells s)) g34 rfl hb1 rfl rfl) ?_
  refine s_callP e91 (v := (S4.val (cleanS s))) (vs := [(S4.val s)]) rfl (Clean_c s _) (fun w4 x5 => ?_)
  replace hE := hE.step0 x5
  replace hb1 := hb1.ext0 x5
  clear x5
  rw [h]
  refine s1 (v := (i64 0)) (rn_mv rfl) ?_
  refine w_end ?_
  refine c_block ?_
  refine c_rounds 5 ?_
  refine r_round ?_
  refine c_rs ?_
  refine s1 (v := (.bool true)) (rn_lss (m := 0) (n := 4) rfl rfl) ?_
  refine w_end ?_
  refine c_seq ?_
  refine c_T (b := true) rfl rfl ?_
  refine c_skip' ?_
  refine t_norm ?_
  refine c_seq ?_
  refine c_block ?_
  refine c_rs ?_
  refine s1 (v := (u32 0)) (rn_ixA (vs := [(u32 0), (u32 0), (u32 0), (u32 0)]) (i := 0) (fun w => run_underlying Try.underlying34 w) o32 rfl rfl (by decide) rfl) ?_
  refine s1 (v := (u32 0)) (rn_as rfl) ?_
  refine w_end ?_
  refine c_r ?_
  refine s1 (v := (i64 0)) (rn_mv rfl) ?_
  refine s1 (v := (u32 0)) (rn_mv rfl) ?_
  refine s_callP e92 (v := (i64 0)) (vs := [(u32 0)]) rfl (ones0_c) (fun w6 x7 => ?_)
  replace hE := hE.step0 x7
  replace hb1 := hb1.ext0 x7
  clear x7
  refine s1 (v := (i64 0)) (rn_add (m := 0) (n := 0) rfl rfl (by decide)) ?_
  refine s1 (v := (i64 0)) (rn_as rfl) ?_
  refine w_nil ?_
  refine b_norm ?_
  refine t_norm ?_
  refine c_r ?_
  refine s1 (v := (i64 1)) (rn_add (m := 0) (n := 1) rfl rfl (by decide)) ?_
  refine s1 (v := (i64 1)) (rn_mv rfl) ?_
  refine w_nil ?_
  refine t_norm ?_
  refine r_round ?_
  refine c_rs ?_
  refine s1 (v := (.bool true)) (rn_lss (m := 1) (n := 4) rfl rfl) ?_
  refine w_end ?_
  refine c_seq ?_
  refine c_T (b := true) rfl rfl ?_
  refine c_skip' ?_
  refine t_norm ?_
  refine c_seq ?_
  refine c_block ?_
  refine c_rs ?_
  refine s1 (v := (u32 0)) (rn_ixA (vs := [(u32 0), (u32 0), (u32 0), (u32 0)]) (i := 1) (fun w => run_underlying Try.underlying34 w) o32 rfl rfl (by decide) rfl) ?_
  refine s1 (v := (u32 0)) (rn_as rfl) ?_
  refine w_end ?_
  refine c_r ?_
  refine s1 (v := (i64 0)) (rn_mv rfl) ?_
  refine s1 (v := (u32 0)) (rn_mv rfl) ?_
  refine s_callP e92 (v := (i64 0)) (vs := [(u32 0)]) rfl (ones0_c) (fun w8 x9 => ?_)
  replace hE := hE.step0 x9
  replace hb1 := hb1.ext0 x9
  clear x9
  refine s1 (v := (i64 0)) (rn_add (m := 0) (n := 0) rfl rfl (by decide)) ?_
  refine s1 (v := (i64 0)) (rn_as rfl) ?_
  refine w_nil ?_
  refine b_norm ?_
  refine t_norm ?_
  refine c_r ?_
  refine s1 (v := (i64 2)) (rn_add (m := 1) (n := 1) rfl rfl (by decide)) ?_
  refine s1 (v := (i64 2)) (rn_mv rfl) ?_
  refine w_nil ?_
  refine t_norm ?_
  refine r_round ?_
  refine c_rs ?_
  refine s1 (v := (.bool true)) (rn_lss (m := 2) (n := 4) rfl rfl) ?_
  refine w_end ?_
  refine c_seq ?_
  refine c_T (b := true) rfl rfl ?_
  refine c_skip' ?_
  refine t_norm ?_
  refine c_seq ?_
  refine c_block ?_
  refine c_rs ?_
  refine s1 (v := (u32 0)) (rn_ixA (vs := [(u32 0), (u32 0), (u32 0), (u32 0)]) (i := 2) (fun w => run_underlying Try.underlying34 w) o32 rfl rfl (by decide) rfl) ?_
  refine s1 (v := (u32 0)) (rn_as rfl) ?_
  refine w_end ?_
  refine c_r ?_
  refine s1 (v := (i64 0)) (rn_mv rfl) ?_
  refine s1 (v := (u32 0)) (rn_mv rfl) ?_
  refine s_callP e92 (v := (i64 0)) (vs := [(u32 0)]) rfl (ones0_c) (fun w10 x11 => ?_)
  replace hE := hE.step0 x11
  replace hb1 := hb1.ext0 x11
  clear x11
  refine s1 (v := (i64 0)) (rn_add (m := 0) (n := 0) rfl rfl (by decide)) ?_
  refine s1 (v := (i64 0)) (rn_as rfl) ?_
  refine w_nil ?_
  refine b_norm ?_
  refine t_norm ?_
  refine c_r ?_
  refine s1 (v := (i64 3)) (rn_add (m := 2) (n := 1) rfl rfl (by decide)) ?_
  refine s1 (v := (i64 3)) (rn_mv rfl) ?_
  refine w_nil ?_
  refine t_norm ?_
  refine r_round ?_
  refine c_rs ?_
  refine s1 (v := (.bool true)) (rn_lss (m := 3) (n := 4) rfl rfl) ?_
  refine w_end ?_
  refine c_seq ?_
  refine c_T (b := true) rfl rfl ?_
  refine c_skip' ?_
  refine t_norm ?_
  refine c_seq ?_
  refine c_block ?_
  refine c_rs ?_
  refine s1 (v := (u32 0)) (rn_ixA (vs := [(u32 0), (u32 0), (u32 0), (u32 0)]) (i := 3) (fun w => run_underlying Try.underlying34 w) o32 rfl rfl (by decide) rfl) ?_
  refine s1 (v := (u32 0)) (rn_as rfl) ?_
  refine w_end ?_
  refine c_r ?_
  refine s1 (v := (i64 0)) (rn_mv rfl) ?_
  refine s1 (v := (u32 0)) (rn_mv rfl) ?_
  refine s_callP e92 (v := (i64 0)) (vs := [(u32 0)]) rfl (ones0_c) (fun w12 x13 => ?_)
  replace hE := hE.step0 x13
  replace hb1 := hb1.ext0 x13
  clear x13
  refine s1 (v := (i64 0)) (rn_add (m := 0) (n := 0) rfl rfl (by decide)) ?_
  refine s1 (v := (i64 0)) (rn_as rfl) ?_
  refine w_nil ?_
  refine b_norm ?_
  refine t_norm ?_
  refine c_r ?_
  refine s1 (v := (i64 4)) (rn_add (m := 3) (n := 1) rfl rfl (by decide)) ?_
  refine s1 (v := (i64 4)) (rn_mv rfl) ?_
  refine w_nil ?_
  refine t_norm ?_
  refine r_round ?_
  refine c_rs ?_
  refine s1 (v := (.bool false)) (rn_lss (m := 4) (n := 4) rfl rfl) ?_
  refine w_end ?_
  refine c_seq ?_
  refine c_F (b := false) rfl rfl ?_
  refine c_exit ?_
  refine t_exit ?_
  refine t_exit ?_
  refine b_here ?_
  refine t_norm ?_
  refine c_rs ?_
  refine s1 (v := (i64 0)) (rn_mv rfl) ?_
  refine s1 (v := (i64 0)) (rn_as rfl) ?_
  refine w_end ?_
  refine c_ret ?_
  refine bp_ret (rs1 rfl (rv_tmp (v := (i64 0)) rfl)) ?_
  exact ⟨rfl, hE⟩

theorem isNodes_c (n : Int) {w0 : World} :
    Calls Try.prog 77 [(i64 n)].toArray w0 (Ret (Pu (.bool (nodesB n)) w0)) := by
  have hE : Ext [] w0 w0 := (Ext.refl w0).more (by simp)
  refine enter (vs := [(i64 n)]) Try.func77 rfl Try.ntmps77 rfl ?_
  refine c_rs ?_
  refine s1 (v := (.bool false)) (rn_as rfl) ?_
  refine w_end ?_
  refine c_rs ?_
  refine s1 (v := (i64 n)) (rn_mv rfl) ?_
  refine s1 (v := (.bool (decide (1 ≤ n)))) (rn_geq (m := n) (n := 1) rfl rfl) ?_
  refine s1 (v := (.bool (decide (1 ≤ n)))) (rn_mv rfl) ?_
  rcases Bool.eq_false_or_eq_true (decide (1 ≤ n)) with h1 | h1
  ·
    have p2 := of_decide_eq_true h1
    refine g_yes rfl rfl rfl h1 ?_
    refine s1 (v := (i64 n)) (rn_mv rfl) ?_
    refine g_yes rfl rfl rfl h1 ?_
    refine s1 (v := (.bool (decide (n ≤ 100)))) (rn_leq (m := n) (n := 100) rfl rfl) ?_
    refine s1 (v := (.bool (decide (n ≤ 100)))) (rn_pT (b := (decide (1 ≤ n))) rfl h1 rfl) ?_
    refine s1 (v := (.bool (decide (n ≤ 100)))) (rn_as rfl) ?_
    refine w_end ?_
    refine c_ret ?_
    refine bp_ret (rs1 rfl (rv_tmp (v := (.bool (decide (n ≤ 100)))) rfl)) ?_
    exact ⟨by simp [nodesB, *], hE⟩
  ·
    have p3 := of_decide_eq_false h1
    refine g_not rfl rfl rfl h1 ?_
    refine g_not rfl rfl rfl h1 ?_
    refine s1 (v := (.bool false)) (rn_pF (b := (decide (1 ≤ n))) rfl h1 rfl) ?_
    refine s1 (v := (.bool false)) (rn_as rfl) ?_
    refine w_end ?_
    refine c_ret ?_
    refine bp_ret (rs1 rfl (rv_tmp (v := (.bool false)) rfl)) ?_
    exact ⟨by simp [nodesB, *], hE⟩

theorem foldU_c {A : Option Addr} {gl c : Nat} {l : List S4} {w0 : World} (hl : Ls S4.cells 4 w0 gl A l) (hn : l.length ≤ 1000000) (out : S4) :
    Calls Try.prog 124 [(.slice A l.length c), (S4.val out), (.func (.func 68) #[] #[])].toArray w0 (Ret (Pu (S4.val (l.foldl unionS out)) w0)) := by
  have hE : Ext [] w0 w0 := (Ext.refl w0).more (by simp)
  have hgl := hl.lt (by simp)
  refine enter (vs := [(.slice A l.length c), (S4.val out), (.func (.func 68) #[] #[])]) Try.func124 rfl Try.ntmps124 rfl ?_
  refine c_rs ?_
  refine s_box (v := (S4.val out)) (cs := (S4.cells out)) rfl rfl (fun b1 w2 hb1 gb1 x3 => ?_)
  have nb1_hE : w0.heap.size ≤ b1 := Nat.le_trans hE.size gb1
  clear gb1
  replace hE := hE.step0 x3
  replace hl := hl.ext0 x3
  clear x3
  refine s_alloc (cs := [(u32 0), (u32 0), (u32 0), (u32 0)]) z34 rfl (fun b4 w5 hb4 gb4 x6 => ?_)
  have nb4_hE : w0.heap.size ≤ b4 := Nat.le_trans hE.size gb4
  have ob4 : b1 < b4 := Nat.lt_of_lt_of_le hb1.lt gb4
  clear gb4
  replace hE := hE.step0 x6
  replace hb1 := hb1.ext0 x6
  replace hl := hl.ext0 x6
  clear x6
  refine w_end ?_
  refine c_seq ?_
  refine c_rs ?_
  refine s1 (v := (.slice A l.length c)) (rn_mv rfl) ?_
  refine s1 (v := (i64 (l.length : Int))) (rn_len is39 rfl) ?_
  refine s1 (v := (i64 0)) (rn_mv rfl) ?_
  refine w_end ?_
  refine c_block ?_
  refine c_loop (fun d a w => ∃ (k7 : Nat) (z_k7 : Nat → Value) , a = Fr 21 (lk [(.slice A l.length c), (S4.val out), (.func (.func 68) #[] #[]), undef, (ptr b1 0), undef, (ptr b4 0), undef, (z_k7 8), (.slice A l.length c), (i64 (l.length : Int)), (i64 (k7 : Int)), (z_k7 12), (z_k7 13), (z_k7 14), (z_k7 15), (z_k7 16), (z_k7 17), (z_k7 18), (z_k7 19), undef]) [] ∧ d = l.length - k7 ∧ k7 ≤ l.length ∧ Ext [] w0 w ∧ Blk w b1 34 (S4.cells ((l.take k7).foldl unionS out)) ∧ Blk w b4 34 [(u32 0), (u32 0), (u32 0), (u32 0)] ∧ Ls S4.cells 4 w gl A l) (l.length - 0) ?_ ?_
  · exact ⟨0, (lk [(.slice A l.length c), (S4.val out), (.func (.func 68) #[] #[]), undef, (ptr b1 0), undef, (ptr b4 0), undef, undef, (.slice A l.length c), (i64 (l.length : Int)), (i64 0), undef, undef, undef, undef, undef, undef, undef, undef, undef]), Fr_congr (by kernel_rfl), rfl, Nat.zero_le _, hE, hb1, hb4, hl⟩
  clear hE
  clear hb1
  clear hb4
  clear hl
  rintro d a w8 ⟨k7, z_k7, rfl, rfl, hlek7, hE, hb1, hb4, hl⟩
  refine c_rs ?_
  refine s1 (v := (.bool (decide ((k7 : Int) < (l.length : Int))))) (rn_lss (m := (k7 : Int)) (n := (l.length : Int)) rfl rfl) ?_
  refine w_end ?_
  refine c_seq ?_
  refine c_if (b := (decide ((k7 : Int) < (l.length : Int)))) rfl (fun h9 => ?_) (fun h9 => ?_)
  ·
    have p10 := of_decide_eq_true h9
    refine c_skip' ?_
    refine t_norm ?_
    refine c_seq ?_
    refine c_block ?_
    refine c_rs ?_
    obtain ⟨x14, o11, hx15, hA12, el13⟩ := hl.el (k := k7) (by omega)
    refine s1 (v := (ptr gl (o11 + k7 * 4))) (rn_ie is39 rfl hA12 rfl (by omega) (by omega) rfl) ?_
    refine s1 (v := (S4.val x14)) (rn_ldN (vs := (S4.cells x14)) g34 rfl rfl el13) ?_
    refine s_alloc (cs := [(u32 0), (u32 0), (u32 0), (u32 0)]) z34 rfl (fun b16 w17 hb16 gb16 x18 => ?_)
    have nb16_hE : w0.heap.size ≤ b16 := Nat.le_trans hE.size gb16
    have ob16 : b4 < b16 := Nat.lt_of_lt_of_le hb4.lt gb16
    clear gb16
    replace hE := hE.step0 x18
    replace hb1 := hb1.ext0 x18
    replace hb4 := hb4.ext0 x18
    replace el13 := el13.ext0 x18
    replace hl := hl.ext0 x18
    clear x18
    refine s_st (v := (S4.val x14)) (vs := (S4.cells x14)) (cs' := (S4.cells x14)) g34.2 rfl rfl rfl rfl hb16 (by simp) rfl rfl (fun w19 h_ x20 => ?_)
    replace hE := hE.step1 x20 (by first | (left; simp; done) | (right; omega))
    replace hb1 := hb1.ext1 x20 (by omega)
    replace hb4 := hb4.ext1 x20 (by omega)
    replace el13 := el13.ext1 x20 (by omega)
    replace hl := hl.ext1 x20 (by omega)
    clear x20
    replace hb16 := h_; clear h_
    refine w_end ?_
    refine c_r ?_
    refine s1 (v := (.func (.func 68) #[] #[])) (rn_mv rfl) ?_
    refine s1 (v := (S4.val ((l.take k7).foldl unionS out))) (rn_lbN (vs := (S4.cells ((l.take k7).foldl unionS out))) g34 rfl hb1 rfl rfl) ?_
    refine s1 (v := (S4.val x14)) (rn_lbN (vs := (S4.cells x14)) g34 rfl hb16 rfl rfl) ?_
    refine s_callvP e68 (v := (S4.val (unionS ((l.take k7).foldl unionS out) x14))) (vs := [(S4.val ((l.take k7).foldl unionS out)), (S4.val x14)]) (ws := []) rfl rfl (Union_c ((l.take k7).foldl unionS out) x14 _) (fun w21 x22 => ?_)
    replace hE := hE.step0 x22
    replace hb1 := hb1.ext0 x22
    replace hb4 := hb4.ext0 x22
    replace hb16 := hb16.ext0 x22
    replace el13 := el13.ext0 x22
    replace hl := hl.ext0 x22
    clear x22
    refine s_st (v := (S4.val (unionS ((l.take k7).foldl unionS out) x14))) (vs := (S4.cells (unionS ((l.take k7).foldl unionS out) x14))) (cs' := (S4.cells (unionS ((l.take k7).foldl unionS out) x14))) g34.2 rfl rfl rfl rfl hb1 (by simp) rfl rfl (fun w23 h_ x24 => ?_)
    replace hE := hE.step1 x24 (by first | (left; simp; done) | (right; omega))
    replace hb4 := hb4.ext1 x24 (by omega)
    replace hb16 := hb16.ext1 x24 (by omega)
    replace el13 := el13.ext1 x24 (by omega)
    replace hl := hl.ext1 x24 (by omega)
    clear x24
    replace hb1 := h_; clear h_
    refine w_nil ?_
    refine b_norm ?_
    refine t_norm ?_
    refine c_r ?_
    refine s1 (v := (i64 ((k7 : Int) + 1))) (rn_add (m := (k7 : Int)) (n := 1) rfl rfl (wr64 (by omega) (by omega))) ?_
    refine s1 (v := (i64 ((k7 : Int) + 1))) (rn_mv rfl) ?_
    refine w_nil ?_
    refine t_norm ?_
    replace hb1 : Blk w23 b1 34 (S4.cells ((l.take (k7 + 1)).foldl unionS out)) := by rw [take_snoc hx15, List.foldl_append]; exact hb1
    exact ⟨l.length - (k7 + 1), by omega, k7 + 1, (lk [(.slice A l.length c), (S4.val out), (.func (.func 68) #[] #[]), undef, (ptr b1 0), undef, (ptr b4 0), undef, (ptr b16 0), (.slice A l.length c), (i64 (l.length : Int)), (i64 ((k7 : Int) + 1)), (.bool (decide ((k7 : Int) < (l.length : Int)))), (ptr gl (o11 + k7 * 4)), (S4.val x14), (.func (.func 68) #[] #[]), (S4.val ((l.take k7).foldl unionS out)), (S4.val x14), (S4.val (unionS ((l.take k7).foldl unionS out) x14)), (i64 ((k7 : Int) + 1)), undef]), Fr_congr (by kernel_rfl), rfl, by omega, hE, hb1, hb4, hl⟩
  ·
    have p25 := of_decide_eq_false h9
    refine c_exit ?_
    refine t_exit ?_
    refine t_exit ?_
    refine b_here ?_
    refine t_norm ?_
    refine c_rs ?_
    refine s1 (v := (S4.val ((l.take k7).foldl unionS out))) (rn_lbN (vs := (S4.cells ((l.take k7).foldl unionS out))) g34 rfl hb1 rfl rfl) ?_
    refine s_st (v := (S4.val ((l.take k7).foldl unionS out))) (vs := (S4.cells ((l.take k7).foldl unionS out))) (cs' := (S4.cells ((l.take k7).foldl unionS out))) g34.2 rfl rfl rfl rfl hb4 (by simp) rfl rfl (fun w26 h_ x27 => ?_)
    replace hE := hE.step1 x27 (by first | (left; simp; done) | (right; omega))
    replace hb1 := hb1.ext1 x27 (by omega)
    replace hl := hl.ext1 x27 (by omega)
    clear x27
    replace hb4 := h_; clear h_
    refine w_end ?_
    refine c_ret ?_
    refine bp_ret (rs1 rfl (rv_cN (vs := (S4.cells ((l.take k7).foldl unionS out))) g34 rfl hb4 rfl rfl)) ?_
    exact ⟨by rw [show k7 = l.length by omega, List.take_length], hE⟩

theorem UnionI_c {A : Option Addr} {gl c : Nat} {l : List S4} {w0 : World} (hl : Ls S4.cells 4 w0 gl A l) (hn : l.length ≤ 1000000) :
    Calls Try.prog 76 [(.slice A l.length c)].toArray w0 (Ret (Pu (S4.val (unionL l)) w0)) := by
  have hE : Ext [] w0 w0 := (Ext.refl w0).more (by simp)
  have hgl := hl.lt (by simp)
  refine enter (vs := [(.slice A l.length c)]) Try.func76 rfl Try.ntmps76 rfl ?_
  refine c_rs ?_
  refine s_alloc (cs := [(u32 0), (u32 0), (u32 0), (u32 0)]) z34 rfl (fun b1 w2 hb1 gb1 x3 => ?_)
  have nb1_hE : w0.heap.size ≤ b1 := Nat.le_trans hE.size gb1
  clear gb1
  replace hE := hE.step0 x3
  replace hl := hl.ext0 x3
  clear x3
  refine w_end ?_
  refine c_rs ?_
  refine s1 (v := (.slice A l.length c)) (rn_mv rfl) ?_
  refine s1 (v := (S4.val (S4.mk 0 0 0 0))) (bd34_ ) ?_
  refine s_callP e124 (v := (S4.val (l.foldl unionS (S4.mk 0 0 0 0)))) (vs := [(.slice A l.length c), (S4.val (S4.mk 0 0 0 0)), (.func (.func 68) #[] #[])]) rfl (foldU_c (c := c) hl (by omega) (S4.mk 0 0 0 0)) (fun w4 x5 => ?_)
  replace hE := hE.step0 x5
  replace hb1 := hb1.ext0 x5
  replace hl := hl.ext0 x5
  clear x5
  refine s_st (v := (S4.val (l.foldl unionS (S4.mk 0 0 0 0)))) (vs := (S4.cells (l.foldl unionS (S4.mk 0 0 0 0)))) (cs' := (S4.cells (l.foldl unionS (S4.mk 0 0 0 0)))) g34.2 rfl rfl rfl rfl hb1 (by simp) rfl rfl (fun w6 h_ x7 => ?_)
  replace hE := hE.step1 x7 (by first | (left; simp; done) | (right; omega))
  replace hl := hl.ext1 x7 (by omega)
  clear x7
  replace hb1 := h_; clear h_
  refine w_end ?_
  refine c_ret ?_
  refine bp_ret (rs1 rfl (rv_cN (vs := (S4.cells (l.foldl unionS (S4.mk 0 0 0 0)))) g34 rfl hb1 rfl rfl)) ?_
  exact ⟨rfl, hE⟩

theorem Cover1_c {q : Nat} {id : Int} {w0 : World} (hq : Blk w0 q 3 [i64 id]) (m : Int) (s : S4) (hm : 0 ≤ m ∧ m ≤ 1000000) :
    Calls Try.prog 79 [(i64 m), (S4.val s), (ptr q 0)].toArray w0 (Ret (Pu (i64 (if hasB s id then m + 1 else m)) w0)) := by
  have hE : Ext [] w0 w0 := (Ext.refl w0).more (by simp)
  have hql := hq.lt
  refine enter (vs := [(i64 m), (S4.val s), (ptr q 0)]) Try.func79 rfl Try.ntmps79 rfl ?_
  refine c_rs ?_
  refine s_box (v := (S4.val s)) (cs := (S4.cells s)) rfl rfl (fun b1 w2 hb1 gb1 x3 => ?_)
  have nb1_hE : w0.heap.size ≤ b1 := Nat.le_trans hE.size gb1
  clear gb1
  replace hE := hE.step0 x3
  replace hq := hq.ext0 x3
  clear x3
  refine s1 (v := (i64 0)) (rn_as rfl) ?_
  refine w_end ?_
  refine c_seq ?_
  refine c_rs ?_
  refine s1 (v := (S4.val s)) (rn_lbN (vs := (S4.cells s)) g34 rfl hb1 rfl rfl) ?_
  refine s1 (v := (i64 id)) (rn_lb1 o3 rfl hq rfl) ?_
  refine s_callP e80 (v := (.bool (hasB s id))) (vs := [(S4.val s), (i64 id)]) rfl (Has_c s id _) (fun w4 x5 => ?_)
  replace hE := hE.step0 x5
  replace hq := hq.ext0 x5
  replace hb1 := hb1.ext0 x5
  clear x5
  refine w_end ?_
  refine c_if (b := (hasB s id)) rfl (fun h6 => ?_) (fun h6 => ?_)
  ·
    refine c_r ?_
    refine s1 (v := (i64 m)) (rn_mv rfl) ?_
    refine s1 (v := (i64 (m + 1))) (rn_add (m := m) (n := 1) rfl rfl (wr64 (by omega) (by omega))) ?_
    refine s1 (v := (i64 (m + 1))) (rn_as rfl) ?_
    refine w_nil ?_
    refine t_norm ?_
    refine c_rs ?_
    refine s1 (v := (i64 (m + 1))) (rn_mv rfl) ?_
    refine s1 (v := (i64 (m + 1))) (rn_as rfl) ?_
    refine w_end ?_
    refine c_ret ?_
    refine bp_ret (rs1 rfl (rv_tmp (v := (i64 (m + 1))) rfl)) ?_
    exact ⟨by rw [h6]; rfl, hE⟩
  ·
    refine c_skip' ?_
    refine t_norm ?_
    refine c_rs ?_
    refine s1 (v := (i64 m)) (rn_mv rfl) ?_
    refine s1 (v := (i64 m)) (rn_as rfl) ?_
    refine w_end ?_
    refine c_ret ?_
    refine bp_ret (rs1 rfl (rv_tmp (v := (i64 m)) rfl)) ?_
    exact ⟨by rw [h6]; rfl, hE⟩

theorem foldC_c {A : Option Addr} {gl c : Nat} {l : List S4} {w0 : World} (hl : Ls S4.cells 4 w0 gl A l) (hn : l.length ≤ 1000000) {q : Nat} {id : Int} (hq : Blk w0 q 3 [i64 id]) :
    Calls Try.prog 81 [(.slice A l.length c), (i64 0), (.func (.func 79) #[] #[(ptr q 0)])].toArray w0 (Ret (Pu (i64 (cntH l id : Int)) w0)) := by
  have hE : Ext [] w0 w0 := (Ext.refl w0).more (by simp)
  have hgl := hl.lt (by simp)
  have hql := hq.lt
  refine enter (vs := [(.slice A l.length c), (i64 0), (.func (.func 79) #[] #[(ptr q 0)])]) Try.func81 rfl Try.ntmps81 rfl ?_
  refine c_rs ?_
  refine s1 (v := (i64 0)) (rn_as rfl) ?_
  refine w_end ?_
  refine c_seq ?_
  refine c_rs ?_
  refine s1 (v := (.slice A l.length c)) (rn_mv rfl) ?_
  refine s1 (v := (i64 (l.length : Int))) (rn_len is39 rfl) ?_
  refine s1 (v := (i64 0)) (rn_mv rfl) ?_
  refine w_end ?_
  refine c_block ?_
  refine c_loop (fun d a w => ∃ (k1 : Nat) (z_k1 : Nat → Value) , a = Fr 21 (lk [(.slice A l.length c), (i64 (cntH (l.take k1) id : Int)), (.func (.func 79) #[] #[(ptr q 0)]), undef, undef, undef, (i64 0), undef, (z_k1 8), (.slice A l.length c), (i64 (l.length : Int)), (i64 (k1 : Int)), (z_k1 12), (z_k1 13), (z_k1 14), (z_k1 15), (z_k1 16), (z_k1 17), (z_k1 18), (z_k1 19), undef]) [] ∧ d = l.length - k1 ∧ k1 ≤ l.length ∧ Ext [] w0 w ∧ Blk w q 3 [(i64 id)] ∧ Ls S4.cells 4 w gl A l) (l.length - 0) ?_ ?_
  · exact ⟨0, (lk [(.slice A l.length c), (i64 0), (.func (.func 79) #[] #[(ptr q 0)]), undef, undef, undef, (i64 0), undef, undef, (.slice A l.length c), (i64 (l.length : Int)), (i64 0), undef, undef, undef, undef, undef, undef, undef, undef, undef]), Fr_congr (by kernel_rfl), rfl, Nat.zero_le _, hE, hq, hl⟩
  clear hE
  clear hq
  clear hl
  rintro d a w2 ⟨k1, z_k1, rfl, rfl, hlek1, hE, hq, hl⟩
  have hcl := cntH_le (l.take k1) id; have hcl2 : (l.take k1).length ≤ k1 := by simp; omega
  refine c_rs ?_
  refine s1 (v := (.bool (decide ((k1 : Int) < (l.length : Int))))) (rn_lss (m := (k1 : Int)) (n := (l.length : Int)) rfl rfl) ?_
  refine w_end ?_
  refine c_seq ?_
  refine c_if (b := (decide ((k1 : Int) < (l.length : Int)))) rfl (fun h3 => ?_) (fun h3 => ?_)
  ·
    have p4 := of_decide_eq_true h3
    refine c_skip' ?_
    refine t_norm ?_
    refine c_seq ?_
    refine c_block ?_
    refine c_rs ?_
    obtain ⟨x8, o5, hx9, hA6, el7⟩ := hl.el (k := k1) (by omega)
    refine s1 (v := (ptr gl (o5 + k1 * 4))) (rn_ie is39 rfl hA6 rfl (by omega) (by omega) rfl) ?_
    refine s1 (v := (S4.val x8)) (rn_ldN (vs := (S4.cells x8)) g34 rfl rfl el7) ?_
    refine s_alloc (cs := [(u32 0), (u32 0), (u32 0), (u32 0)]) z34 rfl (fun b10 w11 hb10 gb10 x12 => ?_)
    have nb10_hE : w0.heap.size ≤ b10 := Nat.le_trans hE.size gb10
    clear gb10
    replace hE := hE.step0 x12
    replace hq := hq.ext0 x12
    replace el7 := el7.ext0 x12
    replace hl := hl.ext0 x12
    clear x12
    refine s_st (v := (S4.val x8)) (vs := (S4.cells x8)) (cs' := (S4.cells x8)) g34.2 rfl rfl rfl rfl hb10 (by simp) rfl rfl (fun w13 h_ x14 => ?_)
    replace hE := hE.step1 x14 (by first | (left; simp; done) | (right; omega))
    replace hq := hq.ext1 x14 (by omega)
    replace el7 := el7.ext1 x14 (by omega)
    replace hl := hl.ext1 x14 (by omega)
    clear x14
    replace hb10 := h_; clear h_
    refine w_end ?_
    refine c_r ?_
    refine s1 (v := (.func (.func 79) #[] #[(ptr q 0)])) (rn_mv rfl) ?_
    refine s1 (v := (i64 (cntH (l.take k1) id : Int))) (rn_mv rfl) ?_
    refine s1 (v := (S4.val x8)) (rn_lbN (vs := (S4.cells x8)) g34 rfl hb10 rfl rfl) ?_
    refine s_callvP e79 (v := (i64 (if hasB x8 id then (cntH (l.take k1) id : Int) + 1 else (cntH (l.take k1) id : Int)))) (vs := [(i64 (cntH (l.take k1) id : Int)), (S4.val x8)]) (ws := [(ptr q 0)]) rfl rfl (Cover1_c hq (cntH (l.take k1) id : Int) x8 (by omega)) (fun w15 x16 => ?_)
    replace hE := hE.step0 x16
    replace hq := hq.ext0 x16
    replace hb10 := hb10.ext0 x16
    replace el7 := el7.ext0 x16
    replace hl := hl.ext0 x16
    clear x16
    refine s1 (v := (i64 (if hasB x8 id then (cntH (l.take k1) id : Int) + 1 else (cntH (l.take k1) id : Int)))) (rn_as rfl) ?_
    refine w_nil ?_
    refine b_norm ?_
    refine t_norm ?_
    refine c_r ?_
    refine s1 (v := (i64 ((k1 : Int) + 1))) (rn_add (m := (k1 : Int)) (n := 1) rfl rfl (wr64 (by omega) (by omega))) ?_
    refine s1 (v := (i64 ((k1 : Int) + 1))) (rn_mv rfl) ?_
    refine w_nil ?_
    refine t_norm ?_
    have et : (if hasB x8 id = true then (cntH (l.take k1) id : Int) + 1 else (cntH (l.take k1) id : Int)) = (cntH (l.take (k1 + 1)) id : Int) := by rw [take_snoc hx9, cntH_snoc]; split <;> simp
    rw [et]
    exact ⟨l.length - (k1 + 1), by omega, k1 + 1, (lk [(.slice A l.length c), (i64 (cntH (l.take (k1 + 1)) id : Int)), (.func (.func 79) #[] #[(ptr q 0)]), undef, undef, undef, (i64 0), undef, (ptr b10 0), (.slice A l.length c), (i64 (l.length : Int)), (i64 ((k1 : Int) + 1)), (.bool (decide ((k1 : Int) < (l.length : Int)))), (ptr gl (o5 + k1 * 4)), (S4.val x8), (.func (.func 79) #[] #[(ptr q 0)]), (i64 (cntH (l.take k1) id : Int)), (S4.val x8), (i64 (cntH (l.take (k1 + 1)) id : Int)), (i64 ((k1 : Int) + 1)), undef]), Fr_congr (by kernel_rfl), rfl, by omega, hE, hq, hl⟩
  ·
    have p17 := of_decide_eq_false h3
    refine c_exit ?_
    refine t_exit ?_
    refine t_exit ?_
    refine b_here ?_
    refine t_norm ?_
    refine c_rs ?_
    refine s1 (v := (i64 (cntH (l.take k1) id : Int))) (rn_mv rfl) ?_
    refine s1 (v := (i64 (cntH (l.take k1) id : Int))) (rn_as rfl) ?_
    refine w_end ?_
    refine c_ret ?_
    refine bp_ret (rs1 rfl (rv_tmp (v := (i64 (cntH (l.take k1) id : Int))) rfl)) ?_
    exact ⟨by rw [show k1 = l.length by omega, List.take_length], hE⟩

theorem Known_c {p : Nat} {n need round : Int} {rep : S4} {v : Value} {w0 : World} (hp : Blk w0 p 138 [(i64 n), (i64 need), (i64 round), (u32 rep.a), (u32 rep.b), (u32 rep.c), (u32 rep.d), v]) {hs : List S4} {N : Nat} (hO : Ow N 34 S4.cells 4 w0 v hs) (hn : hs.length ≤ 1000000) :
    Calls Try.prog 34 [(ptr p 0)].toArray w0 (Ret (Pu (S4.val (unionS rep (unionL hs))) w0)) := by
  have hE : Ext [] w0 w0 := (Ext.refl w0).more (by simp)
  have hpw := hp.lt
  have hvl := hO.lt
  refine enter (vs := [(ptr p 0)]) Try.func34 rfl Try.ntmps34 rfl ?_
  refine c_rs ?_
  refine s_alloc (cs := [(u32 0), (u32 0), (u32 0), (u32 0)]) z34 rfl (fun b1 w2 hb1 gb1 x3 => ?_)
  have nb1_hE : w0.heap.size ≤ b1 := Nat.le_trans hE.size gb1
  have obb1_hO : ∀ c ∈ obl v, c < b1 := fun c hc => Nat.lt_of_lt_of_le (hO.lt c hc).2 gb1
  clear gb1
  replace hE := hE.step0 x3
  replace hp := hp.ext0 x3
  replace hO := hO.ext0 x3
  clear x3
  refine w_end ?_
  refine c_rs ?_
  refine s1 (v := (ptr p 0)) (rn_mv rfl) ?_
  refine s_callP e95 (v := (S4.val rep)) (vs := [(ptr p 0)]) rfl (Repliers_c hp) (fun w4 x5 => ?_)
  replace hE := hE.step0 x5
  replace hp := hp.ext0 x5
  replace hb1 := hb1.ext0 x5
  replace hO := hO.ext0 x5
  clear x5
  refine s1 (v := (ptr p 0)) (rn_mv rfl) ?_
  refine s_call e96 (vs := [(ptr p 0)]) rfl (Heards_c hp hO (by omega)) ?_
  rintro _ w10 ⟨A6, c7, g8, rfl, hl9, gg8, x11⟩
  have dg8 := gg8.imp_left (fun q => And.intro (Nat.le_trans hE.size q) (And.intro (Nat.lt_of_lt_of_le hp.lt q) (Nat.lt_of_lt_of_le hb1.lt q)))
  clear gg8
  replace hE := hE.step0 x11
  replace hp := hp.ext0 x11
  replace hb1 := hb1.ext0 x11
  replace hO := hO.ext0 x11
  clear x11
  refine s_callP e76 (v := (S4.val (unionL hs))) (vs := [(.slice A6 ((hs).length) c7)]) rfl (UnionI_c (c := c7) hl9 (by omega)) (fun w12 x13 => ?_)
  replace hE := hE.step0 x13
  replace hp := hp.ext0 x13
  replace hb1 := hb1.ext0 x13
  replace hO := hO.ext0 x13
  replace hl9 := hl9.ext0 x13
  clear x13
  refine s_callP e68 (v := (S4.val (unionS rep (unionL hs)))) (vs := [(S4.val rep), (S4.val (unionL hs))]) rfl (Union_c rep (unionL hs) _) (fun w14 x15 => ?_)
  replace hE := hE.step0 x15
  replace hp := hp.ext0 x15
  replace hb1 := hb1.ext0 x15
  replace hO := hO.ext0 x15
  replace hl9 := hl9.ext0 x15
  clear x15
  refine s_st (v := (S4.val (unionS rep (unionL hs)))) (vs := (S4.cells (unionS rep (unionL hs)))) (cs' := (S4.cells (unionS rep (unionL hs)))) g34.2 rfl rfl rfl rfl hb1 (by simp) rfl rfl (fun w16 h_ x17 => ?_)
  replace hE := hE.step1 x17 (by first | (left; simp; done) | (right; omega))
  replace hp := hp.ext1 x17 (by omega)
  replace hO := hO.ext x17 (fun c hc => by have h_ := hO.lt c hc; have := obb1_hO c hc; simp; omega)
  replace hl9 := hl9.ext1 x17 (by omega)
  clear x17
  replace hb1 := h_; clear h_
  refine w_end ?_
  refine c_ret ?_
  refine bp_ret (rs1 rfl (rv_cN (vs := (S4.cells (unionS rep (unionL hs)))) g34 rfl hb1 rfl rfl)) ?_
  exact ⟨rfl, hE⟩

theorem Missing_c (m : Int) (h1 : 1 ≤ m) (h2 : m ≤ 100) {p : Nat} {n need round : Int} {rep : S4} {v : Value} {w0 : World} (hp : Blk w0 p 138 [(i64 n), (i64 need), (i64 round), (u32 rep.a), (u32 rep.b), (u32 rep.c), (u32 rep.d), v]) {hs : List S4} {N : Nat} (hO : Ow N 34 S4.cells 4 w0 v hs) (hn : hs.length ≤ 1000000) (hr : readyB need hs.length = true) :
    Calls Try.prog 29 [(i64 m), (ptr p 0)].toArray w0 (Ret (Pu (.tuple #[S4.val (lessS (upToS m) (unionS rep (unionL hs))), i64 0]) w0)) := by
  have hE : Ext [] w0 w0 := (Ext.refl w0).more (by simp)
  have hpw := hp.lt
  have hvl := hO.lt
  have hnb : nodesB m = true := by simp [nodesB]; omega
  refine enter (vs := [(i64 m), (ptr p 0)]) Try.func29 rfl Try.ntmps29 rfl ?_
  refine c_rs ?_
  refine s_alloc (cs := [(u32 0), (u32 0), (u32 0), (u32 0)]) z34 rfl (fun b1 w2 hb1 gb1 x3 => ?_)
  have nb1_hE : w0.heap.size ≤ b1 := Nat.le_trans hE.size gb1
  have obb1_hO : ∀ c ∈ obl v, c < b1 := fun c hc => Nat.lt_of_lt_of_le (hO.lt c hc).2 gb1
  clear gb1
  replace hE := hE.step0 x3
  replace hp := hp.ext0 x3
  replace hO := hO.ext0 x3
  clear x3
  refine s1 (v := (i64 0)) (rn_as rfl) ?_
  refine w_end ?_
  refine c_seq ?_
  refine c_block ?_
  refine c_rs ?_
  refine s1 (v := (i64 m)) (rn_mv rfl) ?_
  refine s_callP e77 (v := (.bool (nodesB m))) (vs := [(i64 m)]) rfl (isNodes_c m) (fun w4 x5 => ?_)
  replace hE := hE.step0 x5
  replace hp := hp.ext0 x5
  replace hb1 := hb1.ext0 x5
  replace hO := hO.ext0 x5
  clear x5
  refine s1 (v := (.bool (!(nodesB m)))) (rn_not (b := (nodesB m)) rfl) ?_
  refine s1 (v := (.bool (!(nodesB m)))) (rn_as rfl) ?_
  refine w_end ?_
  refine c_F (b := (!(nodesB m))) rfl (by rw [hnb]; rfl) ?_
  refine c_rs ?_
  refine s1 (v := (ptr p 0)) (rn_mv rfl) ?_
  refine s_callP e30 (v := (.bool (readyB need hs.length))) (vs := [(ptr p 0)]) rfl (Ready_c hp hO) (fun w6 x7 => ?_)
  replace hE := hE.step0 x7
  replace hp := hp.ext0 x7
  replace hb1 := hb1.ext0 x7
  replace hO := hO.ext0 x7
  clear x7
  refine s1 (v := (.bool (!(readyB need hs.length)))) (rn_not (b := (readyB need hs.length)) rfl) ?_
  refine s1 (v := (.bool (!(readyB need hs.length)))) (rn_as rfl) ?_
  refine w_end ?_
  refine c_F (b := (!(readyB need hs.length))) rfl (by rw [hr]; rfl) ?_
  refine c_skip' ?_
  refine b_norm ?_
  refine t_norm ?_
  refine c_rs ?_
  refine s1 (v := (i64 m)) (rn_mv rfl) ?_
  refine s_callP e67 (v := (.tuple #[(S4.val (upToS m)), (i64 0)])) (vs := [(i64 m)]) rfl (Full_c m (by omega) (by omega) _) (fun w8 x9 => ?_)
  replace hE := hE.step0 x9
  replace hp := hp.ext0 x9
  replace hb1 := hb1.ext0 x9
  replace hO := hO.ext0 x9
  clear x9
  refine s1 (v := (.tuple #[(S4.val (upToS m)), (i64 0)])) (rn_mv rfl) ?_
  refine s1 (v := (S4.val (upToS m))) (rn_ex (vs := [(S4.val (upToS m)), (i64 0)]) rfl rfl) ?_
  refine s1 (v := (i64 0)) (rn_ex (vs := [(S4.val (upToS m)), (i64 0)]) rfl rfl) ?_
  refine s_alloc (cs := [(u32 0), (u32 0), (u32 0), (u32 0)]) z34 rfl (fun b10 w11 hb10 gb10 x12 => ?_)
  have nb10_hE : w0.heap.size ≤ b10 := Nat.le_trans hE.size gb10
  have ob10 : b1 < b10 := Nat.lt_of_lt_of_le hb1.lt gb10
  have obb10_hO : ∀ c ∈ obl v, c < b10 := fun c hc => Nat.lt_of_lt_of_le (hO.lt c hc).2 gb10
  clear gb10
  replace hE := hE.step0 x12
  replace hp := hp.ext0 x12
  replace hb1 := hb1.ext0 x12
  replace hO := hO.ext0 x12
  clear x12
  refine s_st (v := (S4.val (upToS m))) (vs := (S4.cells (upToS m))) (cs' := (S4.cells (upToS m))) g34.2 rfl rfl rfl rfl hb10 (by simp) rfl rfl (fun w13 h_ x14 => ?_)
  replace hE := hE.step1 x14 (by first | (left; simp; done) | (right; omega))
  replace hp := hp.ext1 x14 (by omega)
  replace hb1 := hb1.ext1 x14 (by omega)
  replace hO := hO.ext x14 (fun c hc => by have h_ := hO.lt c hc; have := obb1_hO c hc; have := obb10_hO c hc; simp; omega)
  clear x14
  replace hb10 := h_; clear h_
  refine s1 (v := (i64 0)) (rn_as rfl) ?_
  refine w_end ?_
  refine c_seq ?_
  refine c_dr (n := 4) [.c (S4.val (upToS m)), .c (ptr p 0), .c (S4.val (unionS rep (unionL hs))), .c (S4.val (lessS (upToS m) (unionS rep (unionL hs))))] rfl mixed (by kernel_rfl) ?_
  refine q_v (v := (S4.val (upToS m))) (fun W hC => rn_lbN (vs := (S4.cells (upToS m))) g34 rfl (hb10.ext0 hC) rfl rfl) ?_
  refine q_v (v := (ptr p 0)) (fun W hC => rn_mv rfl) ?_
  refine q_call e34 (v := (S4.val (unionS rep (unionL hs)))) (vs := [(ptr p 0)]) rfl (fun W hC => Known_c (hp.ext0 hC) (hO.ext0 hC) (by omega)) ?_
  refine q_call e88 (v := (S4.val (lessS (upToS m) (unionS rep (unionL hs))))) (vs := [(S4.val (upToS m)), (S4.val (unionS rep (unionL hs)))]) rfl (fun W hC => Less_c (upToS m) (unionS rep (unionL hs)) _) ?_
  refine ob_end (fun w15 x16 he17 hap18 => ?_)
  replace hE := hE.step0 x16
  replace hp := hp.ext0 x16
  replace hb1 := hb1.ext0 x16
  replace hb10 := hb10.ext0 x16
  replace hO := hO.ext0 x16
  clear x16
  refine s_st (v := (S4.val (lessS (upToS m) (unionS rep (unionL hs))))) (vs := (S4.cells (lessS (upToS m) (unionS rep (unionL hs))))) (cs' := (S4.cells (lessS (upToS m) (unionS rep (unionL hs))))) g34.2 rfl rfl rfl rfl hb1 (by simp) rfl rfl (fun w19 h_ x20 => ?_)
  replace hE := hE.step1 x20 (by first | (left; simp; done) | (right; omega))
  replace hp := hp.ext1 x20 (by omega)
  replace hb10 := hb10.ext1 x20 (by omega)
  replace hO := hO.ext x20 (fun c hc => by have h_ := hO.lt c hc; have := obb1_hO c hc; have := obb10_hO c hc; simp; omega)
  clear x20
  replace hb1 := h_; clear h_
  refine s1 (v := (i64 0)) (rn_as rfl) ?_
  refine w_end ?_
  refine c_ret ?_
  refine bp_ret (rs2 rfl (rv_cN (vs := (S4.cells (lessS (upToS m) (unionS rep (unionL hs))))) g34 rfl hb1 rfl rfl) (rv_tmp (v := (i64 0)) rfl)) ?_
  exact ⟨rfl, hE⟩

theorem Cover_c (n f : Int) {A : Option Addr} {gl c : Nat} {l : List S4} {w0 : World} (hl : Ls S4.cells 4 w0 gl A l) (h1 : 1 ≤ n) (h2 : n ≤ 100) (h3 : 0 ≤ f) (h4 : f < n) (hn : l.length ≤ 1000000) :
    Calls Try.prog 26 [(i64 n), (i64 f), (.slice A l.length c)].toArray w0 (Ret (Pu (.tuple #[S4.val (coverS n f l), i64 (coverE n l)]) w0)) := by
  have hE : Ext [] w0 w0 := (Ext.refl w0).more (by simp)
  have hgl := hl.lt (by simp)
  have hnb : nodesB n = true := by simp [nodesB]; omega
  refine enter (vs := [(i64 n), (i64 f), (.slice A l.length c)]) Try.func26 rfl Try.ntmps26 rfl ?_
  refine c_rs ?_
  refine s_alloc (cs := [(u32 0), (u32 0), (u32 0), (u32 0)]) z34 rfl (fun b1 w2 hb1 gb1 x3 => ?_)
  have nb1_hE : w0.heap.size ≤ b1 := Nat.le_trans hE.size gb1
  clear gb1
  replace hE := hE.step0 x3
  replace hl := hl.ext0 x3
  clear x3
  refine s1 (v := (i64 0)) (rn_as rfl) ?_
  refine w_end ?_
  refine c_seq ?_
  refine c_rs ?_
  refine s1 (v := (i64 n)) (rn_mv rfl) ?_
  refine s_callP e77 (v := (.bool (nodesB n))) (vs := [(i64 n)]) rfl (isNodes_c n) (fun w4 x5 => ?_)
  replace hE := hE.step0 x5
  replace hb1 := hb1.ext0 x5
  replace hl := hl.ext0 x5
  clear x5
  refine s1 (v := (.bool (!(nodesB n)))) (rn_not (b := (nodesB n)) rfl) ?_
  refine s1 (v := (.bool (!(nodesB n)))) (rn_mv rfl) ?_
  refine g_yes rfl rfl rfl (by rw [hnb]; rfl) ?_
  refine s1 (v := (i64 f)) (rn_mv rfl) ?_
  refine g_yes rfl rfl rfl (by rw [hnb]; rfl) ?_
  refine s1 (v := (.bool (decide (f < 0)))) (rn_lss (m := f) (n := 0) rfl rfl) ?_
  refine s1 (v := (.bool (decide (f < 0)))) (rn_pF (b := (!(nodesB n))) rfl (by rw [hnb]; rfl) rfl) ?_
  refine s1 (v := (.bool (decide (f < 0)))) (rn_mv rfl) ?_
  refine g_yes rfl rfl rfl (decide_eq_false (by omega)) ?_
  refine s1 (v := (i64 f)) (rn_mv rfl) ?_
  refine g_yes rfl rfl rfl (decide_eq_false (by omega)) ?_
  refine s1 (v := (i64 n)) (rn_mv rfl) ?_
  refine g_yes rfl rfl rfl (decide_eq_false (by omega)) ?_
  refine s1 (v := (.bool (decide (n ≤ f)))) (rn_geq (m := f) (n := n) rfl rfl) ?_
  refine s1 (v := (.bool (decide (n ≤ f)))) (rn_pF (b := (decide (f < 0))) rfl (decide_eq_false (by omega)) rfl) ?_
  refine w_end ?_
  refine c_F (b := (decide (n ≤ f))) rfl (decide_eq_false (by omega)) ?_
  refine c_skip' ?_
  refine t_norm ?_
  refine c_rs ?_
  refine s_alloc (cs := [(u32 0), (u32 0), (u32 0), (u32 0)]) z34 rfl (fun b6 w7 hb6 gb6 x8 => ?_)
  have nb6_hE : w0.heap.size ≤ b6 := Nat.le_trans hE.size gb6
  have ob6 : b1 < b6 := Nat.lt_of_lt_of_le hb1.lt gb6
  clear gb6
  replace hE := hE.step0 x8
  replace hb1 := hb1.ext0 x8
  replace hl := hl.ext0 x8
  clear x8
  refine w_end ?_
  refine c_seq ?_
  refine c_rs ?_
  refine s1 (v := (.slice A l.length c)) (rn_mv rfl) ?_
  refine s1 (v := (i64 (l.length : Int))) (rn_len is39 rfl) ?_
  refine s1 (v := (i64 0)) (rn_mv rfl) ?_
  refine w_end ?_
  refine c_block ?_
  refine c_loop (fun d a w => ∃ (k9 : Nat) (z_k9 : Nat → Value) , a = Fr 56 (lk [(i64 n), (i64 f), (.slice A l.length c), undef, undef, undef, (ptr b1 0), (z_k9 7), (ptr b6 0), undef, (z_k9 10), undef, undef, (i64 n), (.bool (nodesB n)), (.bool (!(nodesB n))), (.bool (!(nodesB n))), (i64 f), (.bool (decide (f < 0))), (.bool (decide (f < 0))), (.bool (decide (f < 0))), (i64 f), (i64 n), (.bool (decide (n ≤ f))), (.bool (decide (n ≤ f))), undef, (.slice A l.length c), (i64 (l.length : Int)), (i64 (k9 : Int)), (z_k9 29), (z_k9 30), (z_k9 31), (z_k9 32), (z_k9 33), (z_k9 34), (z_k9 35), (z_k9 36), (z_k9 37), undef, undef, undef, undef, undef, undef, undef, undef, undef, undef, undef, undef, undef, undef, undef, undef, undef, undef]) [] ∧ d = l.length - k9 ∧ k9 ≤ l.length ∧ Ext [] w0 w ∧ Blk w b1 34 [(u32 0), (u32 0), (u32 0), (u32 0)] ∧ Blk w b6 34 [(u32 0), (u32 0), (u32 0), (u32 0)] ∧ Ls S4.cells 4 w gl A l ∧ (allW n (l.take k9) = true)) (l.length - 0) ?_ ?_
  · exact ⟨0, (lk [(i64 n), (i64 f), (.slice A l.length c), undef, undef, undef, (ptr b1 0), (i64 0), (ptr b6 0), undef, undef, undef, undef, (i64 n), (.bool (nodesB n)), (.bool (!(nodesB n))), (.bool (!(nodesB n))), (i64 f), (.bool (decide (f < 0))), (.bool (decide (f < 0))), (.bool (decide (f < 0))), (i64 f), (i64 n), (.bool (decide (n ≤ f))), (.bool (decide (n ≤ f))), undef, (.slice A l.length c), (i64 (l.length : Int)), (i64 0), undef, undef, undef, undef, undef, undef, undef, undef, undef, undef, undef, undef, undef, undef, undef, undef, undef, undef, undef, undef, undef, undef, undef, undef, undef, undef, undef]), Fr_congr (by kernel_rfl), rfl, Nat.zero_le _, hE, hb1, hb6, hl, rfl⟩
  clear hE
  clear hb1
  clear hb6
  clear hl
  rintro d a w10 ⟨k9, z_k9, rfl, rfl, hlek9, hE, hb1, hb6, hl, hall⟩
  refine c_rs ?_
  refine s1 (v := (.bool (decide ((k9 : Int) < (l.length : Int))))) (rn_lss (m := (k9 : Int)) (n := (l.length : Int)) rfl rfl) ?_
  refine w_end ?_
  refine c_seq ?_
  refine c_if (b := (decide ((k9 : Int) < (l.length : Int)))) rfl (fun h11 => ?_) (fun h11 => ?_)
  ·
    have p12 := of_decide_eq_true h11
    refine c_skip' ?_
    refine t_norm ?_
    refine c_seq ?_
    refine c_block ?_
    refine c_rs ?_
    obtain ⟨x16, o13, hx17, hA14, el15⟩ := hl.el (k := k9) (by omega)
    refine s1 (v := (ptr gl (o13 + k9 * 4))) (rn_ie is39 rfl hA14 rfl (by omega) (by omega) rfl) ?_
    refine s1 (v := (S4.val x16)) (rn_ldN (vs := (S4.cells x16)) g34 rfl rfl el15) ?_
    refine s_alloc (cs := [(u32 0), (u32 0), (u32 0), (u32 0)]) z34 rfl (fun b18 w19 hb18 gb18 x20 => ?_)
    have nb18_hE : w0.heap.size ≤ b18 := Nat.le_trans hE.size gb18
    have ob18 : b6 < b18 := Nat.lt_of_lt_of_le hb6.lt gb18
    clear gb18
    replace hE := hE.step0 x20
    replace hb1 := hb1.ext0 x20
    replace hb6 := hb6.ext0 x20
    replace el15 := el15.ext0 x20
    replace hl := hl.ext0 x20
    clear x20
    refine s_st (v := (S4.val x16)) (vs := (S4.cells x16)) (cs' := (S4.cells x16)) g34.2 rfl rfl rfl rfl hb18 (by simp) rfl rfl (fun w21 h_ x22 => ?_)
    replace hE := hE.step1 x22 (by first | (left; simp; done) | (right; omega))
    replace hb1 := hb1.ext1 x22 (by omega)
    replace hb6 := hb6.ext1 x22 (by omega)
    replace el15 := el15.ext1 x22 (by omega)
    replace hl := hl.ext1 x22 (by omega)
    clear x22
    replace hb18 := h_; clear h_
    refine w_end ?_
    refine c_rs ?_
    refine s1 (v := (S4.val x16)) (rn_lbN (vs := (S4.cells x16)) g34 rfl hb18 rfl rfl) ?_
    refine s1 (v := (i64 n)) (rn_mv rfl) ?_
    refine s_callP e78 (v := (.bool (withinB x16 n))) (vs := [(S4.val x16), (i64 n)]) rfl (Within_c x16 n _) (fun w23 x24 => ?_)
    replace hE := hE.step0 x24
    replace hb1 := hb1.ext0 x24
    replace hb6 := hb6.ext0 x24
    replace hb18 := hb18.ext0 x24
    replace el15 := el15.ext0 x24
    replace hl := hl.ext0 x24
    clear x24
    refine s1 (v := (.bool (!(withinB x16 n)))) (rn_not (b := (withinB x16 n)) rfl) ?_
    refine w_end ?_
    refine c_if (b := (!(withinB x16 n))) rfl (fun h25 => ?_) (fun h25 => ?_)
    ·
      have h26 := not_t h25
      refine c_rs ?_
      refine s1 (v := (S4.val (S4.mk 0 0 0 0))) (bd34_ ) ?_
      refine s_st (v := (S4.val (S4.mk 0 0 0 0))) (vs := (S4.cells (S4.mk 0 0 0 0))) (cs' := (S4.cells (S4.mk 0 0 0 0))) g34.2 rfl rfl rfl rfl hb1 (by simp) rfl rfl (fun w27 h_ x28 => ?_)
      replace hE := hE.step1 x28 (by first | (left; simp; done) | (right; omega))
      replace hb6 := hb6.ext1 x28 (by omega)
      replace hb18 := hb18.ext1 x28 (by omega)
      replace el15 := el15.ext1 x28 (by omega)
      replace hl := hl.ext1 x28 (by omega)
      clear x28
      replace hb1 := h_; clear h_
      refine s1 (v := (i64 74)) (rn_as rfl) ?_
      refine w_end ?_
      refine c_ret ?_
      refine b_ret ?_
      refine t_ret ?_
      refine t_ret ?_
      refine b_ret ?_
      refine t_ret ?_
      refine bp_ret (rs2 rfl (rv_cN (vs := (S4.cells (S4.mk 0 0 0 0))) g34 rfl hb1 rfl rfl) (rv_tmp (v := (i64 74)) rfl)) ?_
      have ea := allW_of hx17 h26
      exact ⟨by simp only [coverS, coverE, ea] <;> rfl, hE⟩
    ·
      have h29 := not_f h25
      refine c_skip' ?_
      refine b_norm ?_
      refine t_norm ?_
      refine c_r ?_
      refine s1 (v := (i64 ((k9 : Int) + 1))) (rn_add (m := (k9 : Int)) (n := 1) rfl rfl (wr64 (by omega) (by omega))) ?_
      refine s1 (v := (i64 ((k9 : Int) + 1))) (rn_mv rfl) ?_
      refine w_nil ?_
      refine t_norm ?_
      exact ⟨l.length - (k9 + 1), by omega, k9 + 1, (lk [(i64 n), (i64 f), (.slice A l.length c), undef, undef, undef, (ptr b1 0), (z_k9 7), (ptr b6 0), undef, (ptr b18 0), undef, undef, (i64 n), (.bool (nodesB n)), (.bool (!(nodesB n))), (.bool (!(nodesB n))), (i64 f), (.bool (decide (f < 0))), (.bool (decide (f < 0))), (.bool (decide (f < 0))), (i64 f), (i64 n), (.bool (decide (n ≤ f))), (.bool (decide (n ≤ f))), undef, (.slice A l.length c), (i64 (l.length : Int)), (i64 ((k9 : Int) + 1)), (.bool (decide ((k9 : Int) < (l.length : Int)))), (ptr gl (o13 + k9 * 4)), (S4.val x16), (S4.val x16), (i64 n), (.bool (withinB x16 n)), (.bool (!(withinB x16 n))), (z_k9 36), (i64 ((k9 : Int) + 1)), undef, undef, undef, undef, undef, undef, undef, undef, undef, undef, undef, undef, undef, undef, undef, undef, undef, undef]), Fr_congr (by kernel_rfl), rfl, by omega, hE, hb1, hb6, hl, (by rw [take_snoc hx17, allW_snoc, hall, h29]; rfl)⟩
  ·
    have p30 := of_decide_eq_false h11
    refine c_exit ?_
    refine t_exit ?_
    refine t_exit ?_
    refine b_here ?_
    refine t_norm ?_
    refine c_seq ?_
    refine c_rs ?_
    refine s1 (v := (i64 n)) (rn_mv rfl) ?_
    refine s1 (v := (i64 0)) (rn_mv rfl) ?_
    refine w_end ?_
    refine c_block ?_
    rw [show k9 = l.length by omega, List.take_length] at hall
    have hz : S4.mk 0 0 0 0 = coverF f l 0 := rfl
    refine c_loop (fun d a w => ∃ (k31 : Nat) (z_k31 : Nat → Value) , a = Fr 56 (lk [(i64 n), (i64 f), (.slice A l.length c), undef, undef, undef, (ptr b1 0), (z_k9 7), (ptr b6 0), undef, (z_k9 10), (z_k31 11), (z_k31 12), (i64 n), (.bool (nodesB n)), (.bool (!(nodesB n))), (.bool (!(nodesB n))), (i64 f), (.bool (decide (f < 0))), (.bool (decide (f < 0))), (.bool (decide (f < 0))), (i64 f), (i64 n), (.bool (decide (n ≤ f))), (.bool (decide (n ≤ f))), undef, (.slice A l.length c), (i64 (l.length : Int)), (i64 (k9 : Int)), (.bool (decide ((k9 : Int) < (l.length : Int)))), (z_k9 30), (z_k9 31), (z_k9 32), (z_k9 33), (z_k9 34), (z_k9 35), (z_k9 36), (z_k9 37), (i64 n), (i64 (k31 : Int)), (z_k31 40), (z_k31 41), (z_k31 42), (z_k31 43), (z_k31 44), (z_k31 45), (z_k31 46), (z_k31 47), (z_k31 48), (z_k31 49), (z_k31 50), (z_k31 51), (z_k31 52), (z_k31 53), (z_k31 54), undef]) [] ∧ d = n.toNat - k31 ∧ k31 ≤ n.toNat ∧ Ext [] w0 w ∧ Blk w b1 34 [(u32 0), (u32 0), (u32 0), (u32 0)] ∧ Blk w b6 34 (S4.cells (coverF f l k31)) ∧ Ls S4.cells 4 w gl A l) (n.toNat - 0) ?_ ?_
    · exact ⟨0, (lk [(i64 n), (i64 f), (.slice A l.length c), undef, undef, undef, (ptr b1 0), (z_k9 7), (ptr b6 0), undef, (z_k9 10), undef, undef, (i64 n), (.bool (nodesB n)), (.bool (!(nodesB n))), (.bool (!(nodesB n))), (i64 f), (.bool (decide (f < 0))), (.bool (decide (f < 0))), (.bool (decide (f < 0))), (i64 f), (i64 n), (.bool (decide (n ≤ f))), (.bool (decide (n ≤ f))), undef, (.slice A l.length c), (i64 (l.length : Int)), (i64 (k9 : Int)), (.bool (decide ((k9 : Int) < (l.length : Int)))), (z_k9 30), (z_k9 31), (z_k9 32), (z_k9 33), (z_k9 34), (z_k9 35), (z_k9 36), (z_k9 37), (i64 n), (i64 0), undef, undef, undef, undef, undef, undef, undef, undef, undef, undef, undef, undef, undef, undef, undef, undef]), Fr_congr (by kernel_rfl), rfl, Nat.zero_le _, hE, hb1, hb6, hl⟩
    clear hE
    clear hb1
    clear hb6
    clear hl
    rintro d a w32 ⟨k31, z_k31, rfl, rfl, hlek31, hE, hb1, hb6, hl⟩
    have hcl := cntH_le l (k31 : Int)
    refine c_rs ?_
    refine s1 (v := (.bool (decide ((k31 : Int) < n)))) (rn_lss (m := (k31 : Int)) (n := n) rfl rfl) ?_
    refine w_end ?_
    refine c_seq ?_
    refine c_if (b := (decide ((k31 : Int) < n))) rfl (fun h33 => ?_) (fun h33 => ?_)
    ·
      have p34 := of_decide_eq_true h33
      refine c_skip' ?_
      refine t_norm ?_
      refine c_seq ?_
      refine c_block ?_
      refine c_rs ?_
      refine s1 (v := (i64 (k31 : Int))) (rn_mv rfl) ?_
      refine s_alloc (cs := [(i64 0)]) z3 rfl (fun b35 w36 hb35 gb35 x37 => ?_)
      have nb35_hE : w0.heap.size ≤ b35 := Nat.le_trans hE.size gb35
      have ob35 : b6 < b35 := Nat.lt_of_lt_of_le hb6.lt gb35
      clear gb35
      replace hE := hE.step0 x37
      replace hb1 := hb1.ext0 x37
      replace hb6 := hb6.ext0 x37
      replace hl := hl.ext0 x37
      clear x37
      refine s_st (v := (i64 (k31 : Int))) (vs := [(i64 (k31 : Int))]) (cs' := [(i64 (k31 : Int))]) o3.2 rfl rfl rfl rfl hb35 (by simp) rfl rfl (fun w38 h_ x39 => ?_)
      replace hE := hE.step1 x39 (by first | (left; simp; done) | (right; omega))
      replace hb1 := hb1.ext1 x39 (by omega)
      replace hb6 := hb6.ext1 x39 (by omega)
      replace hl := hl.ext1 x39 (by omega)
      clear x39
      replace hb35 := h_; clear h_
      refine w_end ?_
      refine c_rs ?_
      refine s1 (v := (.func (.func 79) #[] #[(ptr b35 0)])) (rn_mf (vs := [(ptr b35 0)]) rfl) ?_
      refine s1 (v := (.func (.func 79) #[] #[(ptr b35 0)])) (rn_as rfl) ?_
      refine w_end ?_
      refine c_rs ?_
      refine s1 (v := (.slice A l.length c)) (rn_mv rfl) ?_
      refine s1 (v := (.func (.func 79) #[] #[(ptr b35 0)])) (rn_mv rfl) ?_
      refine s_callP e81 (v := (i64 (cntH l (k31 : Int) : Int))) (vs := [(.slice A l.length c), (i64 0), (.func (.func 79) #[] #[(ptr b35 0)])]) rfl (foldC_c (c := c) hl (by omega) hb35) (fun w40 x41 => ?_)
      replace hE := hE.step0 x41
      replace hb1 := hb1.ext0 x41
      replace hb6 := hb6.ext0 x41
      replace hb35 := hb35.ext0 x41
      replace hl := hl.ext0 x41
      clear x41
      refine s1 (v := (i64 f)) (rn_mv rfl) ?_
      refine s1 (v := (.bool (decide (f < (cntH l (k31 : Int) : Int))))) (rn_gtr (m := (cntH l (k31 : Int) : Int)) (n := f) rfl rfl) ?_
      refine w_end ?_
      refine c_if (b := (decide (f < (cntH l (k31 : Int) : Int)))) rfl (fun h42 => ?_) (fun h42 => ?_)
      ·
        have p43 := of_decide_eq_true h42
        refine c_r ?_
        refine s1 (v := (S4.val (coverF f l k31))) (rn_lbN (vs := (S4.cells (coverF f l k31))) g34 rfl hb6 rfl rfl) ?_
        refine s1 (v := (i64 (k31 : Int))) (rn_lb1 o3 rfl hb35 rfl) ?_
        refine s_callP e55 (v := (.tuple #[(S4.val (withS (coverF f l k31) (Int.toNat (k31 : Int)))), (i64 0)])) (vs := [(S4.val (coverF f l k31)), (i64 (k31 : Int))]) rfl (With_c (coverF f l k31) (k31 : Int) (by omega) (by omega) _) (fun w44 x45 => ?_)
        replace hE := hE.step0 x45
        replace hb1 := hb1.ext0 x45
        replace hb6 := hb6.ext0 x45
        replace hb35 := hb35.ext0 x45
        replace hl := hl.ext0 x45
        clear x45
        refine s1 (v := (.tuple #[(S4.val (withS (coverF f l k31) (Int.toNat (k31 : Int)))), (i64 0)])) (rn_mv rfl) ?_
        refine s1 (v := (S4.val (withS (coverF f l k31) (Int.toNat (k31 : Int))))) (rn_ex (vs := [(S4.val (withS (coverF f l k31) (Int.toNat (k31 : Int)))), (i64 0)]) rfl rfl) ?_
        refine s1 (v := (i64 0)) (rn_ex (vs := [(S4.val (withS (coverF f l k31) (Int.toNat (k31 : Int)))), (i64 0)]) rfl rfl) ?_
        refine s_st (v := (S4.val (withS (coverF f l k31) (Int.toNat (k31 : Int))))) (vs := (S4.cells (withS (coverF f l k31) (Int.toNat (k31 : Int))))) (cs' := (S4.cells (withS (coverF f l k31) (Int.toNat (k31 : Int))))) g34.2 rfl rfl rfl rfl hb6 (by simp) rfl rfl (fun w46 h_ x47 => ?_)
        replace hE := hE.step1 x47 (by first | (left; simp; done) | (right; omega))
        replace hb1 := hb1.ext1 x47 (by omega)
        replace hb35 := hb35.ext1 x47 (by omega)
        replace hl := hl.ext1 x47 (by omega)
        clear x47
        replace hb6 := h_; clear h_
        refine w_nil ?_
        refine b_norm ?_
        refine t_norm ?_
        refine c_r ?_
        refine s1 (v := (i64 ((k31 : Int) + 1))) (rn_add (m := (k31 : Int)) (n := 1) rfl rfl (wr64 (by omega) (by omega))) ?_
        refine s1 (v := (i64 ((k31 : Int) + 1))) (rn_mv rfl) ?_
        refine w_nil ?_
        refine t_norm ?_
        replace hb6 : Blk w46 b6 34 (S4.cells (coverF f l (k31 + 1))) := by rw [coverF_succ, if_pos (of_decide_eq_true h42)]; exact hb6
        exact ⟨n.toNat - (k31 + 1), by omega, k31 + 1, (lk [(i64 n), (i64 f), (.slice A l.length c), undef, undef, undef, (ptr b1 0), (z_k9 7), (ptr b6 0), undef, (z_k9 10), (ptr b35 0), (.func (.func 79) #[] #[(ptr b35 0)]), (i64 n), (.bool (nodesB n)), (.bool (!(nodesB n))), (.bool (!(nodesB n))), (i64 f), (.bool (decide (f < 0))), (.bool (decide (f < 0))), (.bool (decide (f < 0))), (i64 f), (i64 n), (.bool (decide (n ≤ f))), (.bool (decide (n ≤ f))), undef, (.slice A l.length c), (i64 (l.length : Int)), (i64 (k9 : Int)), (.bool (decide ((k9 : Int) < (l.length : Int)))), (z_k9 30), (z_k9 31), (z_k9 32), (z_k9 33), (z_k9 34), (z_k9 35), (z_k9 36), (z_k9 37), (i64 n), (i64 ((k31 : Int) + 1)), (.bool (decide ((k31 : Int) < n))), (i64 (k31 : Int)), (.func (.func 79) #[] #[(ptr b35 0)]), (.slice A l.length c), (.func (.func 79) #[] #[(ptr b35 0)]), (i64 (cntH l (k31 : Int) : Int)), (i64 f), (.bool (decide (f < (cntH l (k31 : Int) : Int)))), (.tuple #[(S4.val (withS (coverF f l k31) (Int.toNat (k31 : Int)))), (i64 0)]), (S4.val (coverF f l k31)), (i64 (k31 : Int)), (.tuple #[(S4.val (withS (coverF f l k31) (Int.toNat (k31 : Int)))), (i64 0)]), (S4.val (withS (coverF f l k31) (Int.toNat (k31 : Int)))), (i64 0), (i64 ((k31 : Int) + 1)), undef]), Fr_congr (by kernel_rfl), rfl, by omega, hE, hb1, hb6, hl⟩
      ·
        have p48 := of_decide_eq_false h42
        refine c_skip' ?_
        refine b_norm ?_
        refine t_norm ?_
        refine c_r ?_
        refine s1 (v := (i64 ((k31 : Int) + 1))) (rn_add (m := (k31 : Int)) (n := 1) rfl rfl (wr64 (by omega) (by omega))) ?_
        refine s1 (v := (i64 ((k31 : Int) + 1))) (rn_mv rfl) ?_
        refine w_nil ?_
        refine t_norm ?_
        replace hb6 : Blk w40 b6 34 (S4.cells (coverF f l (k31 + 1))) := by rw [coverF_succ, if_neg (of_decide_eq_false h42)]; exact hb6
        exact ⟨n.toNat - (k31 + 1), by omega, k31 + 1, (lk [(i64 n), (i64 f), (.slice A l.length c), undef, undef, undef, (ptr b1 0), (z_k9 7), (ptr b6 0), undef, (z_k9 10), (ptr b35 0), (.func (.func 79) #[] #[(ptr b35 0)]), (i64 n), (.bool (nodesB n)), (.bool (!(nodesB n))), (.bool (!(nodesB n))), (i64 f), (.bool (decide (f < 0))), (.bool (decide (f < 0))), (.bool (decide (f < 0))), (i64 f), (i64 n), (.bool (decide (n ≤ f))), (.bool (decide (n ≤ f))), undef, (.slice A l.length c), (i64 (l.length : Int)), (i64 (k9 : Int)), (.bool (decide ((k9 : Int) < (l.length : Int)))), (z_k9 30), (z_k9 31), (z_k9 32), (z_k9 33), (z_k9 34), (z_k9 35), (z_k9 36), (z_k9 37), (i64 n), (i64 ((k31 : Int) + 1)), (.bool (decide ((k31 : Int) < n))), (i64 (k31 : Int)), (.func (.func 79) #[] #[(ptr b35 0)]), (.slice A l.length c), (.func (.func 79) #[] #[(ptr b35 0)]), (i64 (cntH l (k31 : Int) : Int)), (i64 f), (.bool (decide (f < (cntH l (k31 : Int) : Int)))), (z_k31 48), (z_k31 49), (z_k31 50), (z_k31 51), (z_k31 52), (z_k31 53), (i64 ((k31 : Int) + 1)), undef]), Fr_congr (by kernel_rfl), rfl, by omega, hE, hb1, hb6, hl⟩
    ·
      have p49 := of_decide_eq_false h33
      refine c_exit ?_
      refine t_exit ?_
      refine t_exit ?_
      refine b_here ?_
      refine t_norm ?_
      refine c_rs ?_
      refine s1 (v := (S4.val (coverF f l k31))) (rn_lbN (vs := (S4.cells (coverF f l k31))) g34 rfl hb6 rfl rfl) ?_
      refine s_st (v := (S4.val (coverF f l k31))) (vs := (S4.cells (coverF f l k31))) (cs' := (S4.cells (coverF f l k31))) g34.2 rfl rfl rfl rfl hb1 (by simp) rfl rfl (fun w50 h_ x51 => ?_)
      replace hE := hE.step1 x51 (by first | (left; simp; done) | (right; omega))
      replace hb6 := hb6.ext1 x51 (by omega)
      replace hl := hl.ext1 x51 (by omega)
      clear x51
      replace hb1 := h_; clear h_
      refine s1 (v := (i64 0)) (rn_as rfl) ?_
      refine w_end ?_
      refine c_ret ?_
      refine bp_ret (rs2 rfl (rv_cN (vs := (S4.cells (coverF f l k31))) g34 rfl hb1 rfl rfl) (rv_tmp (v := (i64 0)) rfl)) ?_
      exact ⟨by rw [show k31 = n.toNat by omega]; simp only [coverS, coverE, hall, if_true], hE⟩

end Go.Proofs.Ytfdffeameoejfaa
