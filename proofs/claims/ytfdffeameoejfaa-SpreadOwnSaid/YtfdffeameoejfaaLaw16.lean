/- law16: printed walks. -/
import Derived.Test.YtfdffeameoejfaaSpread
import Derived.Test.YtfdffeameoejfaaPSpread
namespace Go.Proofs.Ytfdffeameoejfaa
open Go Go.RowKit
set_option linter.unusedVariables false
set_option linter.unusedSimpArgs false

theorem bd34_0 {M : Nat} {l : Nat → Value} {w : World} {d : Option Tmp} {t : TypeId} {p : String} {af : Array Edge} {g : Option (Nat × Bool)} {x0 : Operand} {a0 : Int} (h0 : ev M l x0 = (.int .u32 a0)) :
    Rn Try.prog M l w d (.build 34 #[(0, x0)]) t p af g (.agg #[(.int .u32 a0), (u32 0), (u32 0), (u32 0)]) := by
  have hb : (Instr.build 34 #[(0, (.int .u32 a0))]).run Try.prog w = .ok (.agg #[(.int .u32 a0), (u32 0), (u32 0), (u32 0)]) w := by kernel_rfl
  simp [Rn, execOp, h0, hb]

theorem light_c (A : Option Addr) (n c : Nat) {w0 : World} :
    Calls Try.prog 19 [(.slice A n c)].toArray w0 (Ret (Pu (.bool (decide ((n : Int) ≤ 300))) w0)) := by
  have hE : Ext [] w0 w0 := (Ext.refl w0).more (by simp)
  refine enter (vs := [(.slice A n c)]) Try.func19 rfl Try.ntmps19 rfl ?_
  refine c_rs ?_
  refine s1 (v := (.bool false)) (rn_as rfl) ?_
  refine w_end ?_
  refine c_rs ?_
  refine s1 (v := (.slice A n c)) (rn_mv rfl) ?_
  refine s1 (v := (i64 (n : Int))) (rn_len is22 rfl) ?_
  refine s1 (v := (.bool (decide ((n : Int) ≤ 300)))) (rn_leq (m := (n : Int)) (n := 300) rfl rfl) ?_
  refine s1 (v := (.bool (decide ((n : Int) ≤ 300)))) (rn_as rfl) ?_
  refine w_end ?_
  refine c_ret ?_
  refine bp_ret (rs1 rfl (rv_tmp (v := (.bool (decide ((n : Int) ≤ 300)))) rfl)) ?_
  exact ⟨rfl, hE⟩

theorem alive_c {w0 : World} :
    Calls Try.prog 20 [].toArray w0 (Ret (Pu (.bool true) w0)) := by
  have hE : Ext [] w0 w0 := (Ext.refl w0).more (by simp)
  refine enter (vs := []) Try.func20 rfl Try.ntmps20 rfl ?_
  refine c_rs ?_
  refine s1 (v := (.bool false)) (rn_as rfl) ?_
  refine w_end ?_
  refine c_rs ?_
  refine s_call e53 (vs := [(i64 3), (i64 0), (i64 0)]) rfl (New_i 3 0 0 (by omega) (by omega) (by omega) (by omega) (by decide)) ?_
  rintro _ w3 ⟨p1, bb2, rfl, hB4, gp1, gbb2, x5⟩
  have np1_hE : w0.heap.size ≤ p1 := Nat.le_trans hE.size gp1
  clear gp1
  have nbb2_hE : w0.heap.size ≤ bb2 := Nat.le_trans hE.size gbb2
  clear gbb2
  replace hE := hE.step0 x5
  clear x5
  refine s1 (v := (.tuple #[(ptr p1 0), (i64 0)])) (rn_mv rfl) ?_
  refine s1 (v := (ptr p1 0)) (rn_ex (vs := [(ptr p1 0), (i64 0)]) rfl rfl) ?_
  refine s1 (v := (i64 0)) (rn_ex (vs := [(ptr p1 0), (i64 0)]) rfl rfl) ?_
  refine s1 (v := (ptr p1 0)) (rn_as rfl) ?_
  refine s1 (v := (i64 0)) (rn_as rfl) ?_
  refine w_end ?_
  refine c_rs ?_
  obtain ⟨nb, hnb⟩ : ∃ nb, nb = newL (3 : Int).toNat 0 0 := ⟨_, rfl⟩
  rw [← hnb] at hB4
  have hk0 : nb.length = 3 := by rw [hnb]; exact alive_b
  have hk1 : newsOf (absR 0 nb [N3.mk 2 1 1]) = [N3.mk 2 1 1] := by rw [hnb]; exact alive_n
  have hk3 : absE nb [N3.mk 2 1 1] = 0 := by rw [hnb]; exact alive_e
  have hk4 : absS 0 nb [N3.mk 2 1 1] = S4.mk 4 0 0 0 := by rw [hnb]; exact alive_s
  refine s1 (v := (ptr p1 0)) (rn_mv rfl) ?_
  refine s1 (v := (N3.val (N3.mk 2 1 1))) (bd28_0_1_2 rfl rfl rfl ) ?_
  refine s_bs et22 (vs := #[(0, (N3.val (N3.mk 2 1 1)))]) (cs := [(i64 ((N3.mk 2 1 1).of)), (i64 ((N3.mk 2 1 1).tag)), (i64 ((N3.mk 2 1 1).kind))]) (by kernel_rfl) (by decide) (by kernel_rfl) (fun b6 w7 hb6 gb6 x8 => ?_)
  have nb6_hE : w0.heap.size ≤ b6 := Nat.le_trans hE.size gb6
  have ob6_hB4 : p1 < b6 ∧ bb2 < b6 := ⟨Nat.lt_of_lt_of_le hB4.ltp gb6, Nat.lt_of_lt_of_le hB4.ltb gb6⟩
  clear gb6
  replace hE := hE.step0 x8
  replace hB4 := hB4.ext0 x8
  clear x8
  have hl9 : Ls N3.cells 3 w7 b6 (some ⟨b6, 0, none⟩) [(N3.mk 2 1 1)] := Ls.of_blk (rest := []) (fun _ => rfl) hb6
  refine s_call e23 (vs := [(ptr p1 0), (i64 0), (.slice (some ⟨b6, 0, none⟩) 1 1)]) rfl (Absorb_c (l := [(N3.mk 2 1 1)]) (gl := b6) (c := 1) hB4 0 hl9 (by first | omega | (simp only [absR_len, mergeR_len, newL_len]; omega)) (by first | omega | simp) (by first | omega | simp)) ?_
  rintro _ w10 ⟨rfl, hB11, x12⟩
  replace hE := hE.step1 x12 (by first | (left; simp; done) | (right; omega))
  replace hb6 := hb6.ext1 x12 (by omega)
  replace hl9 := hl9.ext1 x12 (by omega)
  clear x12
  replace hB4 := hB11; clear hB11
  refine s1 (v := (.tuple #[(S4.val (absS 0 nb ([(N3.mk 2 1 1)]))), (i64 (absE nb ([(N3.mk 2 1 1)])))])) (rn_mv rfl) ?_
  refine s1 (v := (S4.val (absS 0 nb ([(N3.mk 2 1 1)])))) (rn_ex (vs := [(S4.val (absS 0 nb ([(N3.mk 2 1 1)]))), (i64 (absE nb ([(N3.mk 2 1 1)])))]) rfl rfl) ?_
  refine s1 (v := (i64 (absE nb ([(N3.mk 2 1 1)])))) (rn_ex (vs := [(S4.val (absS 0 nb ([(N3.mk 2 1 1)]))), (i64 (absE nb ([(N3.mk 2 1 1)])))]) rfl rfl) ?_
  refine s_alloc (cs := [(u32 0), (u32 0), (u32 0), (u32 0)]) z34 rfl (fun b13 w14 hb13 gb13 x15 => ?_)
  have nb13_hE : w0.heap.size ≤ b13 := Nat.le_trans hE.size gb13
  have ob13 : b6 < b13 := Nat.lt_of_lt_of_le hb6.lt gb13
  have ob13_hB4 : p1 < b13 ∧ bb2 < b13 := ⟨Nat.lt_of_lt_of_le hB4.ltp gb13, Nat.lt_of_lt_of_le hB4.ltb gb13⟩
  have ob13_hl9 : b6 < b13 ∨ ([(N3.mk 2 1 1)]).length = 0 := (hl9.lt (by simp)).imp_left (fun q => Nat.lt_of_lt_of_le q gb13)
  clear gb13
  replace hE := hE.step0 x15
  replace hb6 := hb6.ext0 x15
  replace hB4 := hB4.ext0 x15
  replace hl9 := hl9.ext0 x15
  clear x15
  refine s_st (v := (S4.val (absS 0 nb ([(N3.mk 2 1 1)])))) (vs := (S4.cells (absS 0 nb ([(N3.mk 2 1 1)])))) (cs' := (S4.cells (absS 0 nb ([(N3.mk 2 1 1)])))) g34.2 rfl rfl rfl rfl hb13 (by simp) rfl rfl (fun w16 h_ x17 => ?_)
  replace hE := hE.step1 x17 (by first | (left; simp; done) | (right; omega))
  replace hb6 := hb6.ext1 x17 (by omega)
  replace hB4 := hB4.ext1 x17 (by omega)
  replace hl9 := hl9.ext1 x17 (by omega)
  clear x17
  replace hb13 := h_; clear h_
  refine s1 (v := (i64 (absE nb ([(N3.mk 2 1 1)])))) (rn_as rfl) ?_
  refine w_end ?_
  refine c_rs ?_
  refine s1 (v := (ptr p1 0)) (rn_mv rfl) ?_
  refine s_call e49 (vs := [(ptr p1 0)]) rfl (Ride_c hB4 (by first | omega | (simp only [absR_len, mergeR_len, newL_len]; omega))) ?_
  rintro _ w22 ⟨A18, c19, g20, rfl, hl21, gg20, x23⟩
  have ng20_hE : w0.heap.size ≤ g20 ∨ ((newsOf (absR 0 nb ([(N3.mk 2 1 1)])))).length = 0 := gg20.imp_left (fun q => Nat.le_trans hE.size q)
  have og20_b6 : b6 < g20 ∨ ((newsOf (absR 0 nb ([(N3.mk 2 1 1)])))).length = 0 := gg20.imp_left (fun q => Nat.lt_of_lt_of_le hb6.lt q)
  have og20_b13 : b13 < g20 ∨ ((newsOf (absR 0 nb ([(N3.mk 2 1 1)])))).length = 0 := gg20.imp_left (fun q => Nat.lt_of_lt_of_le hb13.lt q)
  have og20_hB4 : p1 < g20 ∧ bb2 < g20 ∨ ((newsOf (absR 0 nb ([(N3.mk 2 1 1)])))).length = 0 := gg20.imp_left (fun q => ⟨Nat.lt_of_lt_of_le hB4.ltp q, Nat.lt_of_lt_of_le hB4.ltb q⟩)
  clear gg20
  replace hE := hE.step0 x23
  replace hb6 := hb6.ext0 x23
  replace hb13 := hb13.ext0 x23
  replace hB4 := hB4.ext0 x23
  replace hl9 := hl9.ext0 x23
  clear x23
  refine s1 (v := (.slice A18 (((newsOf (absR 0 nb ([(N3.mk 2 1 1)])))).length) c19)) (rn_as rfl) ?_
  refine w_end ?_
  refine c_rs ?_
  have hk5 : (newsOf (absR 0 nb [N3.mk 2 1 1])).length = 1 := by rw [hk1]; rfl
  refine s1 (v := (i64 (absE nb ([(N3.mk 2 1 1)])))) (rn_mv rfl) ?_
  refine s1 (v := (.bool (decide (absE nb ([(N3.mk 2 1 1)]) = 0)))) (rn_eql (m := absE nb ([(N3.mk 2 1 1)])) (n := 0) rfl rfl) ?_
  refine s1 (v := (.bool (decide (absE nb ([(N3.mk 2 1 1)]) = 0)))) (rn_mv rfl) ?_
  refine g_yes rfl rfl rfl (decide_eq_true hk3) ?_
  refine s1 (v := (S4.val (absS 0 nb ([(N3.mk 2 1 1)])))) (rn_lbN (vs := (S4.cells (absS 0 nb ([(N3.mk 2 1 1)])))) g34 rfl hb13 rfl rfl) ?_
  refine g_yes rfl rfl rfl (decide_eq_true hk3) ?_
  refine s1 (v := (S4.val (S4.mk 4 0 0 0))) (bd34_0 rfl ) ?_
  refine g_yes rfl rfl rfl (decide_eq_true hk3) ?_
  refine s1 (v := (.bool (decide ((absS 0 nb ([(N3.mk 2 1 1)])) = (S4.mk 4 0 0 0))))) (eq34 (a := (absS 0 nb ([(N3.mk 2 1 1)]))) (b := (S4.mk 4 0 0 0)) rfl rfl) ?_
  refine s1 (v := (.bool (decide ((absS 0 nb ([(N3.mk 2 1 1)])) = (S4.mk 4 0 0 0))))) (rn_pT (b := (decide (absE nb ([(N3.mk 2 1 1)]) = 0))) rfl (decide_eq_true hk3) rfl) ?_
  refine s1 (v := (.bool (decide ((absS 0 nb ([(N3.mk 2 1 1)])) = (S4.mk 4 0 0 0))))) (rn_mv rfl) ?_
  refine g_yes rfl rfl rfl (decide_eq_true hk4) ?_
  refine s1 (v := (.slice A18 (((newsOf (absR 0 nb ([(N3.mk 2 1 1)])))).length) c19)) (rn_mv rfl) ?_
  refine g_yes rfl rfl rfl (decide_eq_true hk4) ?_
  refine s1 (v := (i64 (((newsOf (absR 0 nb ([(N3.mk 2 1 1)])))).length : Int))) (rn_len is22 rfl) ?_
  refine g_yes rfl rfl rfl (decide_eq_true hk4) ?_
  refine s1 (v := (.bool (decide ((((newsOf (absR 0 nb ([(N3.mk 2 1 1)])))).length : Int) = 1)))) (rn_eql (m := (((newsOf (absR 0 nb ([(N3.mk 2 1 1)])))).length : Int)) (n := 1) rfl rfl) ?_
  refine s1 (v := (.bool (decide ((((newsOf (absR 0 nb ([(N3.mk 2 1 1)])))).length : Int) = 1)))) (rn_pT (b := (decide ((absS 0 nb ([(N3.mk 2 1 1)])) = (S4.mk 4 0 0 0)))) rfl (decide_eq_true hk4) rfl) ?_
  refine s1 (v := (.bool (decide ((((newsOf (absR 0 nb ([(N3.mk 2 1 1)])))).length : Int) = 1)))) (rn_mv rfl) ?_
  refine g_yes rfl rfl rfl (by rw [hk5]; rfl) ?_
  refine s1 (v := (.slice A18 (((newsOf (absR 0 nb ([(N3.mk 2 1 1)])))).length) c19)) (rn_mv rfl) ?_
  refine g_yes rfl rfl rfl (by rw [hk5]; rfl) ?_
  obtain ⟨x24, o25, hx26, hA27, el28⟩ := hl21.el (k := 0) (by omega)
  refine s1 (v := (ptr g20 (o25 + 0 * 3))) (rn_ie is22 rfl hA27 rfl (by omega) (by omega) rfl) ?_
  refine g_yes rfl rfl rfl (by rw [hk5]; rfl) ?_
  have hk2 : x24 = N3.mk 2 1 1 := by rw [hk1] at hx26; exact (Option.some.inj hx26).symm
  refine s1 (v := (ptr g20 (o25 + 0 * 3))) (rn_fa fa28_0 rfl rfl) ?_
  refine g_yes rfl rfl rfl (by rw [hk5]; rfl) ?_
  refine s1 (v := (i64 x24.of)) (rn_ld1 o3 rfl (el28 0 _ rfl)) ?_
  refine g_yes rfl rfl rfl (by rw [hk5]; rfl) ?_
  refine s1 (v := (.bool (decide (x24.of = 2)))) (rn_eql (m := x24.of) (n := 2) rfl rfl) ?_
  refine s1 (v := (.bool (decide (x24.of = 2)))) (rn_pT (b := (decide ((((newsOf (absR 0 nb ([(N3.mk 2 1 1)])))).length : Int) = 1))) rfl (by rw [hk5]; rfl) rfl) ?_
  refine s1 (v := (.bool (decide (x24.of = 2)))) (rn_as rfl) ?_
  refine w_end ?_
  refine c_ret ?_
  refine bp_ret (rs1 rfl (rv_tmp (v := (.bool (decide (x24.of = 2)))) rfl)) ?_
  exact ⟨by rw [hk2]; rfl, hE⟩

theorem made_c {A : Option Addr} {gl c : Nat} {l : List N3} {w0 : World} (n self : Int) (hl : Ls N3.cells 3 w0 gl A l) (h1 : 1 ≤ n) (h2 : n ≤ 100) (h3 : 0 ≤ self) (h4 : self < n) (hgl : gl < w0.heap.size ∨ l.length = 0) (hll : l.length ≤ 1000000) :
    Calls Try.prog 21 [(i64 n), (i64 self), (.slice A l.length c)].toArray w0 (Ret (fun v w' => ∃ p b, v = ptr p 0 ∧ Bk w' p b (mergeR (newL (n).toNat self 0) l) ∧ w0.heap.size ≤ p ∧ w0.heap.size ≤ b ∧ Ext [] w0 w')) := by
  have hE : Ext [] w0 w0 := (Ext.refl w0).more (by simp)
  refine enter (vs := [(i64 n), (i64 self), (.slice A l.length c)]) Try.func21 rfl Try.ntmps21 rfl ?_
  refine c_rs ?_
  refine s1 (v := (.pointer none)) (rn_as rfl) ?_
  refine w_end ?_
  refine c_rs ?_
  refine s1 (v := (i64 n)) (rn_mv rfl) ?_
  refine s1 (v := (i64 self)) (rn_mv rfl) ?_
  refine s_call e53 (vs := [(i64 n), (i64 self), (i64 0)]) rfl (New_i n self 0 (by omega) (by omega) (by omega) (by omega) (by decide)) ?_
  rintro _ w3 ⟨p1, bb2, rfl, hB4, gp1, gbb2, x5⟩
  have np1_hE : w0.heap.size ≤ p1 := Nat.le_trans hE.size gp1
  clear gp1
  have nbb2_hE : w0.heap.size ≤ bb2 := Nat.le_trans hE.size gbb2
  clear gbb2
  replace hE := hE.step0 x5
  replace hl := hl.ext0 x5
  clear x5
  refine s1 (v := (.tuple #[(ptr p1 0), (i64 0)])) (rn_mv rfl) ?_
  refine s1 (v := (ptr p1 0)) (rn_ex (vs := [(ptr p1 0), (i64 0)]) rfl rfl) ?_
  refine s1 (v := (i64 0)) (rn_ex (vs := [(ptr p1 0), (i64 0)]) rfl rfl) ?_
  refine s1 (v := (ptr p1 0)) (rn_as rfl) ?_
  refine s1 (v := (i64 0)) (rn_as rfl) ?_
  refine w_end ?_
  refine c_rs ?_
  refine s1 (v := (ptr p1 0)) (rn_mv rfl) ?_
  refine s1 (v := (.slice A l.length c)) (rn_mv rfl) ?_
  have := hl.lt (by simp)
  refine s_call e65 (vs := [(ptr p1 0), (.slice A l.length c)]) rfl (Merge_c (l := l) (gl := gl) (c := c) hB4 hl (by first | omega | (simp only [absR_len, mergeR_len, newL_len]; omega)) (by first | omega | simp) (by first | omega | simp) (by first | omega | simp)) ?_
  rintro _ w6 ⟨rfl, hB7, x8⟩
  replace hE := hE.step1 x8 (by first | (left; simp; done) | (right; omega))
  replace hl := hl.ext1 x8 (by omega)
  clear x8
  replace hB4 := hB7; clear hB7
  refine w_end ?_
  refine c_rs ?_
  refine s1 (v := (ptr p1 0)) (rn_mv rfl) ?_
  refine s1 (v := (ptr p1 0)) (rn_as rfl) ?_
  refine w_end ?_
  refine c_ret ?_
  refine bp_ret (rs1 rfl (rv_tmp (v := (ptr p1 0)) rfl)) ?_
  exact ⟨p1, bb2, rfl, hB4, by omega, by omega, hE⟩

theorem SpreadOwn_w {A : Option Addr} {gl c : Nat} {l : List N3} {w0 : World} (n self : Int) (hl : Ls N3.cells 3 w0 gl A l) (hml : l.length ≤ 9223372036854775807) :
    Calls Try.prog 3 [(i64 n), (i64 self), (.slice A l.length c)].toArray w0 (Ret (fun v w' => v = .bool true ∧ Ext [] w0 w')) := by
  have hE : Ext [] w0 w0 := (Ext.refl w0).more (by simp)
  have hgl := hl.lt (by simp)
  refine enter (vs := [(i64 n), (i64 self), (.slice A l.length c)]) Try.func3 rfl Try.ntmps3 rfl ?_
  refine c_rs ?_
  refine s1 (v := (.bool false)) (rn_as rfl) ?_
  refine w_end ?_
  refine c_seq ?_
  refine c_rs ?_
  refine s1 (v := (i64 n)) (rn_mv rfl) ?_
  refine s1 (v := (.bool (decide (n < 1)))) (rn_lss (m := n) (n := 1) rfl rfl) ?_
  refine s1 (v := (.bool (decide (n < 1)))) (rn_mv rfl) ?_
  rcases Bool.eq_false_or_eq_true (decide (n < 1)) with h1 | h1
  ·
    have p2 := of_decide_eq_true h1
    refine g_not rfl rfl rfl h1 ?_
    refine g_not rfl rfl rfl h1 ?_
    refine s1 (v := (.bool true)) (rn_pT (b := (decide (n < 1))) rfl h1 rfl) ?_
    refine s1 (v := (.bool true)) (rn_mv rfl) ?_
    refine g_not rfl rfl rfl rfl ?_
    refine g_not rfl rfl rfl rfl ?_
    refine s1 (v := (.bool true)) (rn_pT (b := true) rfl rfl rfl) ?_
    refine s1 (v := (.bool true)) (rn_mv rfl) ?_
    refine g_not rfl rfl rfl rfl ?_
    refine g_not rfl rfl rfl rfl ?_
    refine g_not rfl rfl rfl rfl ?_
    refine s1 (v := (.bool true)) (rn_pT (b := true) rfl rfl rfl) ?_
    refine s1 (v := (.bool true)) (rn_mv rfl) ?_
    refine g_not rfl rfl rfl rfl ?_
    refine g_not rfl rfl rfl rfl ?_
    refine g_not rfl rfl rfl rfl ?_
    refine s1 (v := (.bool true)) (rn_pT (b := true) rfl rfl rfl) ?_
    refine w_end ?_
    refine c_T (b := true) rfl rfl ?_
    refine c_rs ?_
    refine s_callP e20 (v := (.bool true)) (vs := []) rfl (alive_c) (fun w3 x4 => ?_)
    replace hE := hE.step0 x4
    replace hl := hl.ext0 x4
    clear x4
    refine s1 (v := (.bool true)) (rn_as rfl) ?_
    refine w_end ?_
    refine c_ret ?_
    refine t_ret ?_
    refine bp_ret (rs1 rfl (rv_tmp (v := (.bool true)) rfl)) ?_
    exact ⟨rfl, hE⟩
  ·
    have p5 := of_decide_eq_false h1
    refine g_yes rfl rfl rfl h1 ?_
    refine s1 (v := (i64 n)) (rn_mv rfl) ?_
    refine g_yes rfl rfl rfl h1 ?_
    refine s1 (v := (.bool (decide (100 < n)))) (rn_gtr (m := n) (n := 100) rfl rfl) ?_
    refine s1 (v := (.bool (decide (100 < n)))) (rn_pF (b := (decide (n < 1))) rfl h1 rfl) ?_
    refine s1 (v := (.bool (decide (100 < n)))) (rn_mv rfl) ?_
    rcases Bool.eq_false_or_eq_true (decide (100 < n)) with h6 | h6
    ·
      have p7 := of_decide_eq_true h6
      refine g_not rfl rfl rfl h6 ?_
      refine g_not rfl rfl rfl h6 ?_
      refine s1 (v := (.bool true)) (rn_pT (b := (decide (100 < n))) rfl h6 rfl) ?_
      refine s1 (v := (.bool true)) (rn_mv rfl) ?_
      refine g_not rfl rfl rfl rfl ?_
      refine g_not rfl rfl rfl rfl ?_
      refine g_not rfl rfl rfl rfl ?_
      refine s1 (v := (.bool true)) (rn_pT (b := true) rfl rfl rfl) ?_
      refine s1 (v := (.bool true)) (rn_mv rfl) ?_
      refine g_not rfl rfl rfl rfl ?_
      refine g_not rfl rfl rfl rfl ?_
      refine g_not rfl rfl rfl rfl ?_
      refine s1 (v := (.bool true)) (rn_pT (b := true) rfl rfl rfl) ?_
      refine w_end ?_
      refine c_T (b := true) rfl rfl ?_
      refine c_rs ?_
      refine s_callP e20 (v := (.bool true)) (vs := []) rfl (alive_c) (fun w8 x9 => ?_)
      replace hE := hE.step0 x9
      replace hl := hl.ext0 x9
      clear x9
      refine s1 (v := (.bool true)) (rn_as rfl) ?_
      refine w_end ?_
      refine c_ret ?_
      refine t_ret ?_
      refine bp_ret (rs1 rfl (rv_tmp (v := (.bool true)) rfl)) ?_
      exact ⟨rfl, hE⟩
    ·
      have p10 := of_decide_eq_false h6
      refine g_yes rfl rfl rfl h6 ?_
      refine s1 (v := (i64 self)) (rn_mv rfl) ?_
      refine g_yes rfl rfl rfl h6 ?_
      refine s1 (v := (.bool (decide (self < 0)))) (rn_lss (m := self) (n := 0) rfl rfl) ?_
      refine s1 (v := (.bool (decide (self < 0)))) (rn_pF (b := (decide (100 < n))) rfl h6 rfl) ?_
      refine s1 (v := (.bool (decide (self < 0)))) (rn_mv rfl) ?_
      rcases Bool.eq_false_or_eq_true (decide (self < 0)) with h11 | h11
      ·
        have p12 := of_decide_eq_true h11
        refine g_not rfl rfl rfl h11 ?_
        refine g_not rfl rfl rfl h11 ?_
        refine g_not rfl rfl rfl h11 ?_
        refine s1 (v := (.bool true)) (rn_pT (b := (decide (self < 0))) rfl h11 rfl) ?_
        refine s1 (v := (.bool true)) (rn_mv rfl) ?_
        refine g_not rfl rfl rfl rfl ?_
        refine g_not rfl rfl rfl rfl ?_
        refine g_not rfl rfl rfl rfl ?_
        refine s1 (v := (.bool true)) (rn_pT (b := true) rfl rfl rfl) ?_
        refine w_end ?_
        refine c_T (b := true) rfl rfl ?_
        refine c_rs ?_
        refine s_callP e20 (v := (.bool true)) (vs := []) rfl (alive_c) (fun w13 x14 => ?_)
        replace hE := hE.step0 x14
        replace hl := hl.ext0 x14
        clear x14
        refine s1 (v := (.bool true)) (rn_as rfl) ?_
        refine w_end ?_
        refine c_ret ?_
        refine t_ret ?_
        refine bp_ret (rs1 rfl (rv_tmp (v := (.bool true)) rfl)) ?_
        exact ⟨rfl, hE⟩
      ·
        have p15 := of_decide_eq_false h11
        refine g_yes rfl rfl rfl h11 ?_
        refine s1 (v := (i64 self)) (rn_mv rfl) ?_
        refine g_yes rfl rfl rfl h11 ?_
        refine s1 (v := (i64 n)) (rn_mv rfl) ?_
        refine g_yes rfl rfl rfl h11 ?_
        refine s1 (v := (.bool (decide (n ≤ self)))) (rn_geq (m := self) (n := n) rfl rfl) ?_
        refine s1 (v := (.bool (decide (n ≤ self)))) (rn_pF (b := (decide (self < 0))) rfl h11 rfl) ?_
        refine s1 (v := (.bool (decide (n ≤ self)))) (rn_mv rfl) ?_
        rcases Bool.eq_false_or_eq_true (decide (n ≤ self)) with h16 | h16
        ·
          have p17 := of_decide_eq_true h16
          refine g_not rfl rfl rfl h16 ?_
          refine g_not rfl rfl rfl h16 ?_
          refine g_not rfl rfl rfl h16 ?_
          refine s1 (v := (.bool true)) (rn_pT (b := (decide (n ≤ self))) rfl h16 rfl) ?_
          refine w_end ?_
          refine c_T (b := true) rfl rfl ?_
          refine c_rs ?_
          refine s_callP e20 (v := (.bool true)) (vs := []) rfl (alive_c) (fun w18 x19 => ?_)
          replace hE := hE.step0 x19
          replace hl := hl.ext0 x19
          clear x19
          refine s1 (v := (.bool true)) (rn_as rfl) ?_
          refine w_end ?_
          refine c_ret ?_
          refine t_ret ?_
          refine bp_ret (rs1 rfl (rv_tmp (v := (.bool true)) rfl)) ?_
          exact ⟨rfl, hE⟩
        ·
          have p20 := of_decide_eq_false h16
          refine g_yes rfl rfl rfl h16 ?_
          refine s1 (v := (.slice A l.length c)) (rn_mv rfl) ?_
          refine g_yes rfl rfl rfl h16 ?_
          refine s_callP e19 (v := (.bool (decide ((l.length : Int) ≤ 300)))) (vs := [(.slice A l.length c)]) rfl (light_c A l.length c) (fun w21 x22 => ?_)
          replace hE := hE.step0 x22
          replace hl := hl.ext0 x22
          clear x22
          refine g_yes rfl rfl rfl h16 ?_
          refine s1 (v := (.bool (!(decide ((l.length : Int) ≤ 300))))) (rn_not (b := (decide ((l.length : Int) ≤ 300))) rfl) ?_
          refine s1 (v := (.bool (!(decide ((l.length : Int) ≤ 300))))) (rn_pF (b := (decide (n ≤ self))) rfl h16 rfl) ?_
          refine w_end ?_
          refine c_if (b := (!(decide ((l.length : Int) ≤ 300)))) rfl (fun h23 => ?_) (fun h23 => ?_)
          ·
            have h24 := not_t h23
            have p25 := of_decide_eq_false h24
            refine c_rs ?_
            refine s_callP e20 (v := (.bool true)) (vs := []) rfl (alive_c) (fun w26 x27 => ?_)
            replace hE := hE.step0 x27
            replace hl := hl.ext0 x27
            clear x27
            refine s1 (v := (.bool true)) (rn_as rfl) ?_
            refine w_end ?_
            refine c_ret ?_
            refine t_ret ?_
            refine bp_ret (rs1 rfl (rv_tmp (v := (.bool true)) rfl)) ?_
            exact ⟨rfl, hE⟩
          ·
            have h28 := not_f h23
            have p29 := of_decide_eq_true h28
            refine c_skip' ?_
            refine t_norm ?_
            refine c_rs ?_
            refine s1 (v := (i64 n)) (rn_mv rfl) ?_
            refine s1 (v := (i64 self)) (rn_mv rfl) ?_
            refine s_call e21 (vs := [(i64 n), (i64 self), (.slice none 0 0)]) rfl (made_c (l := ([] : List N3)) (A := none) (gl := 0) (c := 0) n self Ls.nil (by omega) (by omega) (by omega) (by omega) (by first | omega | simp) (by first | omega | simp)) ?_
            rintro _ w32 ⟨p30, bb31, rfl, hB33, gp30, gbb31, x34⟩
            have np30_hE : w0.heap.size ≤ p30 := Nat.le_trans hE.size gp30
            clear gp30
            have nbb31_hE : w0.heap.size ≤ bb31 := Nat.le_trans hE.size gbb31
            clear gbb31
            replace hE := hE.step0 x34
            replace hl := hl.ext0 x34
            clear x34
            rw [mergeR_nil] at hB33
            refine s1 (v := (ptr p30 0)) (rn_as rfl) ?_
            refine w_end ?_
            refine c_rs ?_
            refine s1 (v := (ptr p30 0)) (rn_mv rfl) ?_
            refine s1 (v := (i64 self)) (rn_mv rfl) ?_
            refine s_callP e22 (v := (.tuple #[(N3.val ((newL (n).toNat self 0)[(self).toNat]?.getD default)), (i64 0)])) (vs := [(ptr p30 0), (i64 self)]) rfl (At_c hB33 self (by first | omega | (simp only [absR_len, mergeR_len, newL_len]; omega)) (by first | omega | (simp only [absR_len, mergeR_len, newL_len]; omega))) (fun w35 x36 => ?_)
            replace hE := hE.step0 x36
            replace hl := hl.ext0 x36
            replace hB33 := hB33.ext0 x36
            clear x36
            refine s1 (v := (.tuple #[(N3.val ((newL (n).toNat self 0)[(self).toNat]?.getD default)), (i64 0)])) (rn_mv rfl) ?_
            refine s1 (v := (N3.val ((newL (n).toNat self 0)[(self).toNat]?.getD default))) (rn_ex (vs := [(N3.val ((newL (n).toNat self 0)[(self).toNat]?.getD default)), (i64 0)]) rfl rfl) ?_
            refine s1 (v := (i64 0)) (rn_ex (vs := [(N3.val ((newL (n).toNat self 0)[(self).toNat]?.getD default)), (i64 0)]) rfl rfl) ?_
            refine s_alloc (cs := [(i64 0), (i64 0), (i64 0)]) z28 rfl (fun b37 w38 hb37 gb37 x39 => ?_)
            have nb37_hE : w0.heap.size ≤ b37 := Nat.le_trans hE.size gb37
            have ob37_hB33 : p30 < b37 ∧ bb31 < b37 := ⟨Nat.lt_of_lt_of_le hB33.ltp gb37, Nat.lt_of_lt_of_le hB33.ltb gb37⟩
            clear gb37
            replace hE := hE.step0 x39
            replace hl := hl.ext0 x39
            replace hB33 := hB33.ext0 x39
            clear x39
            refine s_st (v := (N3.val ((newL (n).toNat self 0)[(self).toNat]?.getD default))) (vs := (N3.cells ((newL (n).toNat self 0)[(self).toNat]?.getD default))) (cs' := (N3.cells ((newL (n).toNat self 0)[(self).toNat]?.getD default))) g28.2 rfl rfl rfl rfl hb37 (by simp) rfl rfl (fun w40 h_ x41 => ?_)
            replace hE := hE.step1 x41 (by first | (left; simp; done) | (right; omega))
            replace hl := hl.ext1 x41 (by omega)
            replace hB33 := hB33.ext1 x41 (by omega)
            clear x41
            replace hb37 := h_; clear h_
            refine s1 (v := (i64 0)) (rn_as rfl) ?_
            refine w_end ?_
            refine c_rs ?_
            refine s1 (v := (ptr p30 0)) (rn_mv rfl) ?_
            refine s1 (v := (i64 self)) (rn_mv rfl) ?_
            refine s1 (v := (.slice A l.length c)) (rn_mv rfl) ?_
            refine s_call e23 (vs := [(ptr p30 0), (i64 self), (.slice A l.length c)]) rfl (Absorb_c (l := l) (gl := gl) (c := c) hB33 self hl (by first | omega | (simp only [absR_len, mergeR_len, newL_len]; omega)) (by first | omega | simp) (by first | omega | simp)) ?_
            rintro _ w42 ⟨rfl, hB43, x44⟩
            replace hE := hE.step1 x44 (by first | (left; simp; done) | (right; omega))
            replace hb37 := hb37.ext1 x44 (by omega)
            replace hl := hl.ext1 x44 (by omega)
            clear x44
            replace hB33 := hB43; clear hB43
            refine s1 (v := (.tuple #[(S4.val (absS self (newL (n).toNat self 0) l)), (i64 (absE (newL (n).toNat self 0) l))])) (rn_mv rfl) ?_
            refine s1 (v := (S4.val (absS self (newL (n).toNat self 0) l))) (rn_ex (vs := [(S4.val (absS self (newL (n).toNat self 0) l)), (i64 (absE (newL (n).toNat self 0) l))]) rfl rfl) ?_
            refine s1 (v := (i64 (absE (newL (n).toNat self 0) l))) (rn_ex (vs := [(S4.val (absS self (newL (n).toNat self 0) l)), (i64 (absE (newL (n).toNat self 0) l))]) rfl rfl) ?_
            refine s_alloc (cs := [(u32 0), (u32 0), (u32 0), (u32 0)]) z34 rfl (fun b45 w46 hb45 gb45 x47 => ?_)
            have nb45_hE : w0.heap.size ≤ b45 := Nat.le_trans hE.size gb45
            have ob45 : b37 < b45 := Nat.lt_of_lt_of_le hb37.lt gb45
            have ob45_hB33 : p30 < b45 ∧ bb31 < b45 := ⟨Nat.lt_of_lt_of_le hB33.ltp gb45, Nat.lt_of_lt_of_le hB33.ltb gb45⟩
            clear gb45
            replace hE := hE.step0 x47
            replace hb37 := hb37.ext0 x47
            replace hl := hl.ext0 x47
            replace hB33 := hB33.ext0 x47
            clear x47
            refine s_st (v := (S4.val (absS self (newL (n).toNat self 0) l))) (vs := (S4.cells (absS self (newL (n).toNat self 0) l))) (cs' := (S4.cells (absS self (newL (n).toNat self 0) l))) g34.2 rfl rfl rfl rfl hb45 (by simp) rfl rfl (fun w48 h_ x49 => ?_)
            replace hE := hE.step1 x49 (by first | (left; simp; done) | (right; omega))
            replace hb37 := hb37.ext1 x49 (by omega)
            replace hl := hl.ext1 x49 (by omega)
            replace hB33 := hB33.ext1 x49 (by omega)
            clear x49
            replace hb45 := h_; clear h_
            refine s1 (v := (i64 (absE (newL (n).toNat self 0) l))) (rn_as rfl) ?_
            refine w_end ?_
            refine c_rs ?_
            refine s1 (v := (ptr p30 0)) (rn_mv rfl) ?_
            refine s1 (v := (i64 self)) (rn_mv rfl) ?_
            refine s_callP e22 (v := (.tuple #[(N3.val ((absR self (newL (n).toNat self 0) l)[(self).toNat]?.getD default)), (i64 0)])) (vs := [(ptr p30 0), (i64 self)]) rfl (At_c hB33 self (by first | omega | (simp only [absR_len, mergeR_len, newL_len]; omega)) (by first | omega | (simp only [absR_len, mergeR_len, newL_len]; omega))) (fun w50 x51 => ?_)
            replace hE := hE.step0 x51
            replace hb37 := hb37.ext0 x51
            replace hb45 := hb45.ext0 x51
            replace hl := hl.ext0 x51
            replace hB33 := hB33.ext0 x51
            clear x51
            refine s1 (v := (.tuple #[(N3.val ((absR self (newL (n).toNat self 0) l)[(self).toNat]?.getD default)), (i64 0)])) (rn_mv rfl) ?_
            refine s1 (v := (N3.val ((absR self (newL (n).toNat self 0) l)[(self).toNat]?.getD default))) (rn_ex (vs := [(N3.val ((absR self (newL (n).toNat self 0) l)[(self).toNat]?.getD default)), (i64 0)]) rfl rfl) ?_
            refine s1 (v := (i64 0)) (rn_ex (vs := [(N3.val ((absR self (newL (n).toNat self 0) l)[(self).toNat]?.getD default)), (i64 0)]) rfl rfl) ?_
            refine s_alloc (cs := [(i64 0), (i64 0), (i64 0)]) z28 rfl (fun b52 w53 hb52 gb52 x54 => ?_)
            have nb52_hE : w0.heap.size ≤ b52 := Nat.le_trans hE.size gb52
            have ob52 : b45 < b52 := Nat.lt_of_lt_of_le hb45.lt gb52
            have ob52_hB33 : p30 < b52 ∧ bb31 < b52 := ⟨Nat.lt_of_lt_of_le hB33.ltp gb52, Nat.lt_of_lt_of_le hB33.ltb gb52⟩
            clear gb52
            replace hE := hE.step0 x54
            replace hb37 := hb37.ext0 x54
            replace hb45 := hb45.ext0 x54
            replace hl := hl.ext0 x54
            replace hB33 := hB33.ext0 x54
            clear x54
            refine s_st (v := (N3.val ((absR self (newL (n).toNat self 0) l)[(self).toNat]?.getD default))) (vs := (N3.cells ((absR self (newL (n).toNat self 0) l)[(self).toNat]?.getD default))) (cs' := (N3.cells ((absR self (newL (n).toNat self 0) l)[(self).toNat]?.getD default))) g28.2 rfl rfl rfl rfl hb52 (by simp) rfl rfl (fun w55 h_ x56 => ?_)
            replace hE := hE.step1 x56 (by first | (left; simp; done) | (right; omega))
            replace hb37 := hb37.ext1 x56 (by omega)
            replace hb45 := hb45.ext1 x56 (by omega)
            replace hl := hl.ext1 x56 (by omega)
            replace hB33 := hB33.ext1 x56 (by omega)
            clear x56
            replace hb52 := h_; clear h_
            refine s1 (v := (i64 0)) (rn_as rfl) ?_
            refine w_end ?_
            refine c_seq ?_
            refine c_rs ?_
            refine s1 (v := (i64 0)) (rn_mv rfl) ?_
            refine s1 (v := (.bool false)) (rn_neq (m := 0) (n := 0) rfl rfl) ?_
            refine s1 (v := (.bool false)) (rn_mv rfl) ?_
            refine g_yes rfl rfl rfl rfl ?_
            refine s1 (v := (N3.val ((absR self (newL (n).toNat self 0) l)[(self).toNat]?.getD default))) (rn_lbN (vs := (N3.cells ((absR self (newL (n).toNat self 0) l)[(self).toNat]?.getD default))) g28 rfl hb52 rfl rfl) ?_
            refine g_yes rfl rfl rfl rfl ?_
            refine s1 (v := (N3.val ((newL (n).toNat self 0)[(self).toNat]?.getD default))) (rn_lbN (vs := (N3.cells ((newL (n).toNat self 0)[(self).toNat]?.getD default))) g28 rfl hb37 rfl rfl) ?_
            refine g_yes rfl rfl rfl rfl ?_
            refine s1 (v := (.bool (!(decide (((absR self (newL (n).toNat self 0) l)[(self).toNat]?.getD default) = ((newL (n).toNat self 0)[(self).toNat]?.getD default)))))) (ne28 (a := ((absR self (newL (n).toNat self 0) l)[(self).toNat]?.getD default)) (b := ((newL (n).toNat self 0)[(self).toNat]?.getD default)) rfl rfl) ?_
            refine g_yes rfl rfl rfl rfl ?_
            refine s1 (v := (.bool (!(decide (((absR self (newL (n).toNat self 0) l)[(self).toNat]?.getD default) = ((newL (n).toNat self 0)[(self).toNat]?.getD default)))))) (rn_mv rfl) ?_
            rcases Bool.eq_false_or_eq_true (!(decide (((absR self (newL (n).toNat self 0) l)[(self).toNat]?.getD default) = ((newL (n).toNat self 0)[(self).toNat]?.getD default)))) with h57 | h57
            ·
              have h58 := not_t h57
              have p59 := of_decide_eq_false h58
              refine g_yes rfl rfl rfl h57 ?_
              refine s1 (v := (ptr b52 2)) (rn_fa fa28_2 rfl rfl) ?_
              refine g_yes rfl rfl rfl h57 ?_
              refine s1 (v := (i64 (((absR self (newL (n).toNat self 0) l)[(self).toNat]?.getD default).kind))) (rn_lb1 o3 rfl hb52 rfl) ?_
              refine g_yes rfl rfl rfl h57 ?_
              refine s1 (v := (.bool (decide (((absR self (newL (n).toNat self 0) l)[(self).toNat]?.getD default).kind ≠ 2)))) (rn_neq (m := ((absR self (newL (n).toNat self 0) l)[(self).toNat]?.getD default).kind) (n := 2) rfl rfl) ?_
              refine g_yes rfl rfl rfl rfl ?_
              refine s1 (v := (.bool (decide (((absR self (newL (n).toNat self 0) l)[(self).toNat]?.getD default).kind ≠ 2)))) (rn_pT (b := (!(decide (((absR self (newL (n).toNat self 0) l)[(self).toNat]?.getD default) = ((newL (n).toNat self 0)[(self).toNat]?.getD default))))) rfl h57 rfl) ?_
              refine s1 (v := (.bool (decide (((absR self (newL (n).toNat self 0) l)[(self).toNat]?.getD default).kind ≠ 2)))) (rn_pF (b := false) rfl rfl rfl) ?_
              refine w_end ?_
              refine c_if (b := (decide (((absR self (newL (n).toNat self 0) l)[(self).toNat]?.getD default).kind ≠ 2))) rfl (fun h60 => ?_) (fun h60 => ?_)
              ·
                have p61 := of_decide_eq_true h60
                refine c_rs ?_
                refine s1 (v := (.bool false)) (rn_as rfl) ?_
                refine w_end ?_
                refine c_ret ?_
                refine t_ret ?_
                refine bp_ret (rs1 rfl (rv_tmp (v := (.bool false)) rfl)) ?_
                have hln : (newL n.toNat self 0).length = n.toNat := newL_len _ _ _
                have hg : Good (newL n.toNat self 0) := good_new (by omega) (by omega) (by omega) (by decide)
                have hwas : (newL n.toNat self 0)[self.toNat]? = some ((newL n.toNat self 0)[self.toNat]?.getD default) := by rw [List.getElem?_eq_getElem (by omega)]; rfl
                have hnow : (absR self (newL n.toNat self 0) l)[self.toNat]? = some ((absR self (newL n.toNat self 0) l)[self.toNat]?.getD default) := by rw [List.getElem?_eq_getElem (by rw [absR_len]; omega)]; rfl
                have ho := own_law hg (by omega) hwas hnow
                exfalso
                rcases ho.1 with h_ | h_
                · rw [h_] at h57; simp at h57
                · rw [h_] at h60; simp at h60
              ·
                have p62 := of_decide_eq_false h60
                refine c_skip' ?_
                refine t_norm ?_
                refine c_seq ?_
                refine c_rs ?_
                refine s1 (v := (i64 0)) (rn_as rfl) ?_
                refine w_end ?_
                refine c_block ?_
                refine c_loop (fun d a w => ∃ (k63 : Nat) (z6_k63 z70_k63 z71_k63 z72_k63 z73_k63 z74_k63 z75_k63 z76_k63 z77_k63 z78_k63 z79_k63 z80_k63 z81_k63 z82_k63 z83_k63 z84_k63 z85_k63 z86_k63 z87_k63 z88_k63 z89_k63 z90_k63 z91_k63 z92_k63 z93_k63 z94_k63 z95_k63 z96_k63 z97_k63 z98_k63 z99_k63 z100_k63 z101_k63 z102_k63 : Value) , a = Fr 113 (lk [(i64 n), (i64 self), (.slice A l.length c), undef, undef, undef, z6_k63, (ptr p30 0), (ptr b37 0), (i64 0), (ptr b45 0), (i64 (absE (newL (n).toNat self 0) l)), (ptr b52 0), (i64 0), (i64 (k63 : Int)), (i64 n), (.bool (decide (n < 1))), (.bool (decide (n < 1))), (i64 n), (.bool (decide (100 < n))), (.bool (decide (100 < n))), (.bool (decide (100 < n))), (i64 self), (.bool (decide (self < 0))), (.bool (decide (self < 0))), (.bool (decide (self < 0))), (i64 self), (i64 n), (.bool (decide (n ≤ self))), (.bool (decide (n ≤ self))), (.bool (decide (n ≤ self))), (.slice A l.length c), (.bool (decide ((l.length : Int) ≤ 300))), (.bool (!(decide ((l.length : Int) ≤ 300)))), (.bool (!(decide ((l.length : Int) ≤ 300)))), undef, (i64 n), (i64 self), (ptr p30 0), (.tuple #[(N3.val ((newL (n).toNat self 0)[(self).toNat]?.getD default)), (i64 0)]), (ptr p30 0), (i64 self), (.tuple #[(N3.val ((newL (n).toNat self 0)[(self).toNat]?.getD default)), (i64 0)]), (N3.val ((newL (n).toNat self 0)[(self).toNat]?.getD default)), (i64 0), (.tuple #[(S4.val (absS self (newL (n).toNat self 0) l)), (i64 (absE (newL (n).toNat self 0) l))]), (ptr p30 0), (i64 self), (.slice A l.length c), (.tuple #[(S4.val (absS self (newL (n).toNat self 0) l)), (i64 (absE (newL (n).toNat self 0) l))]), (S4.val (absS self (newL (n).toNat self 0) l)), (i64 (absE (newL (n).toNat self 0) l)), (.tuple #[(N3.val ((absR self (newL (n).toNat self 0) l)[(self).toNat]?.getD default)), (i64 0)]), (ptr p30 0), (i64 self), (.tuple #[(N3.val ((absR self (newL (n).toNat self 0) l)[(self).toNat]?.getD default)), (i64 0)]), (N3.val ((absR self (newL (n).toNat self 0) l)[(self).toNat]?.getD default)), (i64 0), (i64 0), (.bool false), (.bool false), (N3.val ((absR self (newL (n).toNat self 0) l)[(self).toNat]?.getD default)), (N3.val ((newL (n).toNat self 0)[(self).toNat]?.getD default)), (.bool (!(decide (((absR self (newL (n).toNat self 0) l)[(self).toNat]?.getD default) = ((newL (n).toNat self 0)[(self).toNat]?.getD default))))), (.bool (!(decide (((absR self (newL (n).toNat self 0) l)[(self).toNat]?.getD default) = ((newL (n).toNat self 0)[(self).toNat]?.getD default))))), (ptr b52 2), (i64 (((absR self (newL (n).toNat self 0) l)[(self).toNat]?.getD default).kind)), (.bool (decide (((absR self (newL (n).toNat self 0) l)[(self).toNat]?.getD default).kind ≠ 2))), (.bool (decide (((absR self (newL (n).toNat self 0) l)[(self).toNat]?.getD default).kind ≠ 2))), (.bool (decide (((absR self (newL (n).toNat self 0) l)[(self).toNat]?.getD default).kind ≠ 2))), z70_k63, z71_k63, z72_k63, z73_k63, z74_k63, z75_k63, z76_k63, z77_k63, z78_k63, z79_k63, z80_k63, z81_k63, z82_k63, z83_k63, z84_k63, z85_k63, z86_k63, z87_k63, z88_k63, z89_k63, z90_k63, z91_k63, z92_k63, z93_k63, z94_k63, z95_k63, z96_k63, z97_k63, z98_k63, z99_k63, z100_k63, z101_k63, z102_k63, undef, undef, undef, undef, undef, undef, undef, undef, undef, undef]) [] ∧ d = l.length - k63 ∧ k63 ≤ l.length ∧ Ext [] w0 w ∧ Blk w b37 28 (N3.cells ((newL (n).toNat self 0)[(self).toNat]?.getD default)) ∧ Blk w b45 34 (S4.cells (absS self (newL (n).toNat self 0) l)) ∧ Blk w b52 28 (N3.cells ((absR self (newL (n).toNat self 0) l)[(self).toNat]?.getD default)) ∧ Ls N3.cells 3 w gl A l ∧ Bk w p30 bb31 (absR self (newL (n).toNat self 0) l)) (l.length - 0) ⟨0, (.bool false), undef, undef, undef, undef, undef, undef, undef, undef, undef, undef, undef, undef, undef, undef, undef, undef, undef, undef, undef, undef, undef, undef, undef, undef, undef, undef, undef, undef, undef, undef, undef, undef, undef, Fr_congr (by kernel_rfl), rfl, Nat.zero_le _, hE, hb37, hb45, hb52, hl, hB33⟩ ?_
                clear hE
                clear hb37
                clear hb45
                clear hb52
                clear hl
                clear hB33
                rintro d a w64 ⟨k63, z6_k63, z70_k63, z71_k63, z72_k63, z73_k63, z74_k63, z75_k63, z76_k63, z77_k63, z78_k63, z79_k63, z80_k63, z81_k63, z82_k63, z83_k63, z84_k63, z85_k63, z86_k63, z87_k63, z88_k63, z89_k63, z90_k63, z91_k63, z92_k63, z93_k63, z94_k63, z95_k63, z96_k63, z97_k63, z98_k63, z99_k63, z100_k63, z101_k63, z102_k63, rfl, rfl, hlek63, hE, hb37, hb45, hb52, hl, hB33⟩
                refine c_seq ?_
                refine c_rs ?_
                refine s1 (v := (i64 (k63 : Int))) (rn_mv rfl) ?_
                refine s1 (v := (.slice A l.length c)) (rn_mv rfl) ?_
                refine s1 (v := (i64 (l.length : Int))) (rn_len is22 rfl) ?_
                refine s1 (v := (.bool (decide ((k63 : Int) < (l.length : Int))))) (rn_lss (m := (k63 : Int)) (n := (l.length : Int)) rfl rfl) ?_
                refine w_end ?_
                refine c_if (b := (decide ((k63 : Int) < (l.length : Int)))) rfl (fun h65 => ?_) (fun h65 => ?_)
                ·
                  have p66 := of_decide_eq_true h65
                  refine c_skip' ?_
                  refine t_norm ?_
                  refine c_seq ?_
                  refine c_block ?_
                  rcases Bool.eq_false_or_eq_true (decide (absE (newL (n).toNat self 0) l = 0)) with h67 | h67
                  ·
                    have p68 := of_decide_eq_true h67
                    obtain ⟨x69, o70, hx71, hA72, el73⟩ := hl.el (k := k63) (by omega)
                    rcases Bool.eq_false_or_eq_true (decide (x69.of = self)) with h74 | h74
                    ·
                      have p75 := of_decide_eq_true h74
                      rcases Bool.eq_false_or_eq_true (decide (x69.kind = 2)) with h76 | h76
                      ·
                        have p77 := of_decide_eq_true h76
                        refine c_seq ?_
                        refine c_dr (n := 27) [.c (i64 (absE (newL (n).toNat self 0) l)), .c (.bool (decide (absE (newL (n).toNat self 0) l = 0))), .c (.bool (decide (absE (newL (n).toNat self 0) l = 0))), .c (.slice A l.length c), .c (i64 (k63 : Int)), .c (ptr gl (o70 + k63 * 3)), .c (ptr gl (o70 + k63 * 3)), .c (i64 x69.of), .c (i64 self), .c (.bool (decide (x69.of = self))), .c (.bool (decide (x69.of = self))), .c (.bool (decide (x69.of = self))), .c (.slice A l.length c), .c (i64 (k63 : Int)), .c (ptr gl (o70 + k63 * 3)), .c (ptr gl ((o70 + k63 * 3) + 2)), .c (i64 x69.kind), .c (.bool (decide (x69.kind = 2))), .c (.bool (decide (x69.kind = 2))), .c (.bool (decide (x69.kind = 2))), .c (.slice A l.length c), .c (i64 (k63 : Int)), .c (ptr gl (o70 + k63 * 3)), .c (N3.val x69), .c (N3.val ((absR self (newL (n).toNat self 0) l)[(self).toNat]?.getD default)), .c (.bool (beats x69 ((absR self (newL (n).toNat self 0) l)[(self).toNat]?.getD default))), .c (.bool (beats x69 ((absR self (newL (n).toNat self 0) l)[(self).toNat]?.getD default)))] rfl mixed (by kernel_rfl) ?_
                        refine q_v (v := (i64 (absE (newL (n).toNat self 0) l))) (fun W hC => rn_mv rfl) ?_
                        refine q_v (v := (.bool (decide (absE (newL (n).toNat self 0) l = 0)))) (fun W hC => rn_eql (m := absE (newL (n).toNat self 0) l) (n := 0) rfl rfl) ?_
                        refine q_v (v := (.bool (decide (absE (newL (n).toNat self 0) l = 0)))) (fun W hC => rn_mv rfl) ?_
                        refine ob_yes rfl rfl rfl h67 ?_
                        refine q_v (v := (.slice A l.length c)) (fun W hC => rn_mv rfl) ?_
                        refine ob_yes rfl rfl rfl h67 ?_
                        refine q_v (v := (i64 (k63 : Int))) (fun W hC => rn_mv rfl) ?_
                        refine ob_yes rfl rfl rfl h67 ?_
                        refine q_v (v := (ptr gl (o70 + k63 * 3))) (fun W hC => rn_ie is22 rfl hA72 rfl (by omega) (by omega) rfl) ?_
                        refine ob_yes rfl rfl rfl h67 ?_
                        refine q_v (v := (ptr gl (o70 + k63 * 3))) (fun W hC => rn_fa fa28_0 rfl rfl) ?_
                        refine ob_yes rfl rfl rfl h67 ?_
                        refine q_v (v := (i64 x69.of)) (fun W hC => rn_ld1 o3 rfl ((el73.ext0 hC) 0 _ rfl)) ?_
                        refine ob_yes rfl rfl rfl h67 ?_
                        refine q_v (v := (i64 self)) (fun W hC => rn_mv rfl) ?_
                        refine ob_yes rfl rfl rfl h67 ?_
                        refine q_v (v := (.bool (decide (x69.of = self)))) (fun W hC => rn_eql (m := x69.of) (n := self) rfl rfl) ?_
                        refine q_v (v := (.bool (decide (x69.of = self)))) (fun W hC => rn_pT (b := (decide (absE (newL (n).toNat self 0) l = 0))) rfl h67 rfl) ?_
                        refine q_v (v := (.bool (decide (x69.of = self)))) (fun W hC => rn_mv rfl) ?_
                        refine ob_yes rfl rfl rfl h74 ?_
                        refine q_v (v := (.slice A l.length c)) (fun W hC => rn_mv rfl) ?_
                        refine ob_yes rfl rfl rfl h74 ?_
                        refine q_v (v := (i64 (k63 : Int))) (fun W hC => rn_mv rfl) ?_
                        refine ob_yes rfl rfl rfl h74 ?_
                        refine q_v (v := (ptr gl (o70 + k63 * 3))) (fun W hC => rn_ie is22 rfl hA72 rfl (by omega) (by omega) rfl) ?_
                        refine ob_yes rfl rfl rfl h74 ?_
                        refine q_v (v := (ptr gl ((o70 + k63 * 3) + 2))) (fun W hC => rn_fa fa28_2 rfl rfl) ?_
                        refine ob_yes rfl rfl rfl h74 ?_
                        refine q_v (v := (i64 x69.kind)) (fun W hC => rn_ld1 o3 rfl ((el73.ext0 hC) 2 _ rfl)) ?_
                        refine ob_yes rfl rfl rfl h74 ?_
                        refine q_v (v := (.bool (decide (x69.kind = 2)))) (fun W hC => rn_eql (m := x69.kind) (n := 2) rfl rfl) ?_
                        refine q_v (v := (.bool (decide (x69.kind = 2)))) (fun W hC => rn_pT (b := (decide (x69.of = self))) rfl h74 rfl) ?_
                        refine q_v (v := (.bool (decide (x69.kind = 2)))) (fun W hC => rn_mv rfl) ?_
                        refine ob_yes rfl rfl rfl h76 ?_
                        refine q_v (v := (.slice A l.length c)) (fun W hC => rn_mv rfl) ?_
                        refine ob_yes rfl rfl rfl h76 ?_
                        refine q_v (v := (i64 (k63 : Int))) (fun W hC => rn_mv rfl) ?_
                        refine ob_yes rfl rfl rfl h76 ?_
                        refine q_v (v := (ptr gl (o70 + k63 * 3))) (fun W hC => rn_ie is22 rfl hA72 rfl (by omega) (by omega) rfl) ?_
                        refine ob_yes rfl rfl rfl h76 ?_
                        refine q_v (v := (N3.val x69)) (fun W hC => rn_ldN (vs := (N3.cells x69)) g28 rfl rfl (el73.ext0 hC)) ?_
                        refine ob_yes rfl rfl rfl h76 ?_
                        refine q_v (v := (N3.val ((absR self (newL (n).toNat self 0) l)[(self).toNat]?.getD default))) (fun W hC => rn_lbN (vs := (N3.cells ((absR self (newL (n).toNat self 0) l)[(self).toNat]?.getD default))) g28 rfl (hb52.ext0 hC) rfl rfl) ?_
                        refine ob_yes rfl rfl rfl h76 ?_
                        refine q_call e24 (v := (.bool (beats x69 ((absR self (newL (n).toNat self 0) l)[(self).toNat]?.getD default)))) (vs := [(N3.val x69), (N3.val ((absR self (newL (n).toNat self 0) l)[(self).toNat]?.getD default))]) rfl (fun W hC => Beats_c x69 ((absR self (newL (n).toNat self 0) l)[(self).toNat]?.getD default) _) ?_
                        refine q_v (v := (.bool (beats x69 ((absR self (newL (n).toNat self 0) l)[(self).toNat]?.getD default)))) (fun W hC => rn_pT (b := (decide (x69.kind = 2))) rfl h76 rfl) ?_
                        refine ob_end (fun w78 x79 _ => ?_)
                        replace hE := hE.step0 x79
                        replace hb37 := hb37.ext0 x79
                        replace hb45 := hb45.ext0 x79
                        replace hb52 := hb52.ext0 x79
                        replace el73 := el73.ext0 x79
                        replace hl := hl.ext0 x79
                        replace hB33 := hB33.ext0 x79
                        clear x79
                        refine w_end ?_
                        refine c_if (b := (beats x69 ((absR self (newL (n).toNat self 0) l)[(self).toNat]?.getD default))) rfl (fun h80 => ?_) (fun h80 => ?_)
                        ·
                          refine c_rs ?_
                          refine s1 (v := (.bool false)) (rn_as rfl) ?_
                          refine w_end ?_
                          refine c_ret ?_
                          refine b_ret ?_
                          refine t_ret ?_
                          refine t_ret ?_
                          refine b_ret ?_
                          refine t_ret ?_
                          refine bp_ret (rs1 rfl (rv_tmp (v := (.bool false)) rfl)) ?_
                          have hln : (newL n.toNat self 0).length = n.toNat := newL_len _ _ _
                          have hg : Good (newL n.toNat self 0) := good_new (by omega) (by omega) (by omega) (by decide)
                          have hwas : (newL n.toNat self 0)[self.toNat]? = some ((newL n.toNat self 0)[self.toNat]?.getD default) := by rw [List.getElem?_eq_getElem (by omega)]; rfl
                          have hnow : (absR self (newL n.toNat self 0) l)[self.toNat]? = some ((absR self (newL n.toNat self 0) l)[self.toNat]?.getD default) := by rw [List.getElem?_eq_getElem (by rw [absR_len]; omega)]; rfl
                          have ho := own_law hg (by omega) hwas hnow
                          exfalso
                          have h_ := ho.2.1 (of_decide_eq_true h67) x69 (List.mem_of_getElem? hx71) (of_decide_eq_true h74) (of_decide_eq_true h76)
                          rw [h_] at h80; cases h80
                        ·
                          refine c_skip' ?_
                          refine b_norm ?_
                          refine t_norm ?_
                          refine c_r ?_
                          refine s1 (v := (i64 (k63 : Int))) (rn_mv rfl) ?_
                          refine s1 (v := (i64 ((k63 : Int) + 1))) (rn_add (m := (k63 : Int)) (n := 1) rfl rfl (wr64 (by omega) (by omega))) ?_
                          refine s1 (v := (i64 ((k63 : Int) + 1))) (rn_as rfl) ?_
                          refine w_nil ?_
                          refine t_norm ?_
                          exact ⟨l.length - (k63 + 1), by omega, k63 + 1, z6_k63, (i64 (k63 : Int)), (.slice A l.length c), (i64 (l.length : Int)), (.bool (decide ((k63 : Int) < (l.length : Int)))), (i64 (k63 : Int)), (i64 ((k63 : Int) + 1)), (i64 (absE (newL (n).toNat self 0) l)), (.bool (decide (absE (newL (n).toNat self 0) l = 0))), (.bool (decide (absE (newL (n).toNat self 0) l = 0))), (.slice A l.length c), (i64 (k63 : Int)), (ptr gl (o70 + k63 * 3)), (ptr gl (o70 + k63 * 3)), (i64 x69.of), (i64 self), (.bool (decide (x69.of = self))), (.bool (decide (x69.of = self))), (.bool (decide (x69.of = self))), (.slice A l.length c), (i64 (k63 : Int)), (ptr gl (o70 + k63 * 3)), (ptr gl ((o70 + k63 * 3) + 2)), (i64 x69.kind), (.bool (decide (x69.kind = 2))), (.bool (decide (x69.kind = 2))), (.bool (decide (x69.kind = 2))), (.slice A l.length c), (i64 (k63 : Int)), (ptr gl (o70 + k63 * 3)), (N3.val x69), (N3.val ((absR self (newL (n).toNat self 0) l)[(self).toNat]?.getD default)), (.bool (beats x69 ((absR self (newL (n).toNat self 0) l)[(self).toNat]?.getD default))), (.bool (beats x69 ((absR self (newL (n).toNat self 0) l)[(self).toNat]?.getD default))), Fr_congr (by kernel_rfl), rfl, by omega, hE, hb37, hb45, hb52, hl, hB33⟩
                      ·
                        have p81 := of_decide_eq_false h76
                        refine c_seq ?_
                        refine c_dr (n := 27) [.c (i64 (absE (newL (n).toNat self 0) l)), .c (.bool (decide (absE (newL (n).toNat self 0) l = 0))), .c (.bool (decide (absE (newL (n).toNat self 0) l = 0))), .c (.slice A l.length c), .c (i64 (k63 : Int)), .c (ptr gl (o70 + k63 * 3)), .c (ptr gl (o70 + k63 * 3)), .c (i64 x69.of), .c (i64 self), .c (.bool (decide (x69.of = self))), .c (.bool (decide (x69.of = self))), .c (.bool (decide (x69.of = self))), .c (.slice A l.length c), .c (i64 (k63 : Int)), .c (ptr gl (o70 + k63 * 3)), .c (ptr gl ((o70 + k63 * 3) + 2)), .c (i64 x69.kind), .c (.bool (decide (x69.kind = 2))), .c (.bool (decide (x69.kind = 2))), .c (.bool (decide (x69.kind = 2))), .n, .n, .n, .n, .n, .n, .c (.bool false)] rfl mixed (by kernel_rfl) ?_
                        refine q_v (v := (i64 (absE (newL (n).toNat self 0) l))) (fun W hC => rn_mv rfl) ?_
                        refine q_v (v := (.bool (decide (absE (newL (n).toNat self 0) l = 0)))) (fun W hC => rn_eql (m := absE (newL (n).toNat self 0) l) (n := 0) rfl rfl) ?_
                        refine q_v (v := (.bool (decide (absE (newL (n).toNat self 0) l = 0)))) (fun W hC => rn_mv rfl) ?_
                        refine ob_yes rfl rfl rfl h67 ?_
                        refine q_v (v := (.slice A l.length c)) (fun W hC => rn_mv rfl) ?_
                        refine ob_yes rfl rfl rfl h67 ?_
                        refine q_v (v := (i64 (k63 : Int))) (fun W hC => rn_mv rfl) ?_
                        refine ob_yes rfl rfl rfl h67 ?_
                        refine q_v (v := (ptr gl (o70 + k63 * 3))) (fun W hC => rn_ie is22 rfl hA72 rfl (by omega) (by omega) rfl) ?_
                        refine ob_yes rfl rfl rfl h67 ?_
                        refine q_v (v := (ptr gl (o70 + k63 * 3))) (fun W hC => rn_fa fa28_0 rfl rfl) ?_
                        refine ob_yes rfl rfl rfl h67 ?_
                        refine q_v (v := (i64 x69.of)) (fun W hC => rn_ld1 o3 rfl ((el73.ext0 hC) 0 _ rfl)) ?_
                        refine ob_yes rfl rfl rfl h67 ?_
                        refine q_v (v := (i64 self)) (fun W hC => rn_mv rfl) ?_
                        refine ob_yes rfl rfl rfl h67 ?_
                        refine q_v (v := (.bool (decide (x69.of = self)))) (fun W hC => rn_eql (m := x69.of) (n := self) rfl rfl) ?_
                        refine q_v (v := (.bool (decide (x69.of = self)))) (fun W hC => rn_pT (b := (decide (absE (newL (n).toNat self 0) l = 0))) rfl h67 rfl) ?_
                        refine q_v (v := (.bool (decide (x69.of = self)))) (fun W hC => rn_mv rfl) ?_
                        refine ob_yes rfl rfl rfl h74 ?_
                        refine q_v (v := (.slice A l.length c)) (fun W hC => rn_mv rfl) ?_
                        refine ob_yes rfl rfl rfl h74 ?_
                        refine q_v (v := (i64 (k63 : Int))) (fun W hC => rn_mv rfl) ?_
                        refine ob_yes rfl rfl rfl h74 ?_
                        refine q_v (v := (ptr gl (o70 + k63 * 3))) (fun W hC => rn_ie is22 rfl hA72 rfl (by omega) (by omega) rfl) ?_
                        refine ob_yes rfl rfl rfl h74 ?_
                        refine q_v (v := (ptr gl ((o70 + k63 * 3) + 2))) (fun W hC => rn_fa fa28_2 rfl rfl) ?_
                        refine ob_yes rfl rfl rfl h74 ?_
                        refine q_v (v := (i64 x69.kind)) (fun W hC => rn_ld1 o3 rfl ((el73.ext0 hC) 2 _ rfl)) ?_
                        refine ob_yes rfl rfl rfl h74 ?_
                        refine q_v (v := (.bool (decide (x69.kind = 2)))) (fun W hC => rn_eql (m := x69.kind) (n := 2) rfl rfl) ?_
                        refine q_v (v := (.bool (decide (x69.kind = 2)))) (fun W hC => rn_pT (b := (decide (x69.of = self))) rfl h74 rfl) ?_
                        refine q_v (v := (.bool (decide (x69.kind = 2)))) (fun W hC => rn_mv rfl) ?_
                        refine ob_not rfl rfl rfl h76 ?_
                        refine ob_not rfl rfl rfl h76 ?_
                        refine ob_not rfl rfl rfl h76 ?_
                        refine ob_not rfl rfl rfl h76 ?_
                        refine ob_not rfl rfl rfl h76 ?_
                        refine ob_not rfl rfl rfl h76 ?_
                        refine q_v (v := (.bool false)) (fun W hC => rn_pF (b := (decide (x69.kind = 2))) rfl h76 rfl) ?_
                        refine ob_end (fun w82 x83 _ => ?_)
                        replace hE := hE.step0 x83
                        replace hb37 := hb37.ext0 x83
                        replace hb45 := hb45.ext0 x83
                        replace hb52 := hb52.ext0 x83
                        replace el73 := el73.ext0 x83
                        replace hl := hl.ext0 x83
                        replace hB33 := hB33.ext0 x83
                        clear x83
                        refine w_end ?_
                        refine c_F (b := false) rfl rfl ?_
                        refine c_skip' ?_
                        refine b_norm ?_
                        refine t_norm ?_
                        refine c_r ?_
                        refine s1 (v := (i64 (k63 : Int))) (rn_mv rfl) ?_
                        refine s1 (v := (i64 ((k63 : Int) + 1))) (rn_add (m := (k63 : Int)) (n := 1) rfl rfl (wr64 (by omega) (by omega))) ?_
                        refine s1 (v := (i64 ((k63 : Int) + 1))) (rn_as rfl) ?_
                        refine w_nil ?_
                        refine t_norm ?_
                        exact ⟨l.length - (k63 + 1), by omega, k63 + 1, z6_k63, (i64 (k63 : Int)), (.slice A l.length c), (i64 (l.length : Int)), (.bool (decide ((k63 : Int) < (l.length : Int)))), (i64 (k63 : Int)), (i64 ((k63 : Int) + 1)), (i64 (absE (newL (n).toNat self 0) l)), (.bool (decide (absE (newL (n).toNat self 0) l = 0))), (.bool (decide (absE (newL (n).toNat self 0) l = 0))), (.slice A l.length c), (i64 (k63 : Int)), (ptr gl (o70 + k63 * 3)), (ptr gl (o70 + k63 * 3)), (i64 x69.of), (i64 self), (.bool (decide (x69.of = self))), (.bool (decide (x69.of = self))), (.bool (decide (x69.of = self))), (.slice A l.length c), (i64 (k63 : Int)), (ptr gl (o70 + k63 * 3)), (ptr gl ((o70 + k63 * 3) + 2)), (i64 x69.kind), (.bool (decide (x69.kind = 2))), (.bool (decide (x69.kind = 2))), (.bool (decide (x69.kind = 2))), undef, undef, undef, undef, undef, undef, (.bool false), Fr_congr (by kernel_rfl), rfl, by omega, hE, hb37, hb45, hb52, hl, hB33⟩
                    ·
                      have p84 := of_decide_eq_false h74
                      refine c_seq ?_
                      refine c_dr (n := 27) [.c (i64 (absE (newL (n).toNat self 0) l)), .c (.bool (decide (absE (newL (n).toNat self 0) l = 0))), .c (.bool (decide (absE (newL (n).toNat self 0) l = 0))), .c (.slice A l.length c), .c (i64 (k63 : Int)), .c (ptr gl (o70 + k63 * 3)), .c (ptr gl (o70 + k63 * 3)), .c (i64 x69.of), .c (i64 self), .c (.bool (decide (x69.of = self))), .c (.bool (decide (x69.of = self))), .c (.bool (decide (x69.of = self))), .n, .n, .n, .n, .n, .n, .c (.bool false), .c (.bool false), .n, .n, .n, .n, .n, .n, .c (.bool false)] rfl mixed (by kernel_rfl) ?_
                      refine q_v (v := (i64 (absE (newL (n).toNat self 0) l))) (fun W hC => rn_mv rfl) ?_
                      refine q_v (v := (.bool (decide (absE (newL (n).toNat self 0) l = 0)))) (fun W hC => rn_eql (m := absE (newL (n).toNat self 0) l) (n := 0) rfl rfl) ?_
                      refine q_v (v := (.bool (decide (absE (newL (n).toNat self 0) l = 0)))) (fun W hC => rn_mv rfl) ?_
                      refine ob_yes rfl rfl rfl h67 ?_
                      refine q_v (v := (.slice A l.length c)) (fun W hC => rn_mv rfl) ?_
                      refine ob_yes rfl rfl rfl h67 ?_
                      refine q_v (v := (i64 (k63 : Int))) (fun W hC => rn_mv rfl) ?_
                      refine ob_yes rfl rfl rfl h67 ?_
                      refine q_v (v := (ptr gl (o70 + k63 * 3))) (fun W hC => rn_ie is22 rfl hA72 rfl (by omega) (by omega) rfl) ?_
                      refine ob_yes rfl rfl rfl h67 ?_
                      refine q_v (v := (ptr gl (o70 + k63 * 3))) (fun W hC => rn_fa fa28_0 rfl rfl) ?_
                      refine ob_yes rfl rfl rfl h67 ?_
                      refine q_v (v := (i64 x69.of)) (fun W hC => rn_ld1 o3 rfl ((el73.ext0 hC) 0 _ rfl)) ?_
                      refine ob_yes rfl rfl rfl h67 ?_
                      refine q_v (v := (i64 self)) (fun W hC => rn_mv rfl) ?_
                      refine ob_yes rfl rfl rfl h67 ?_
                      refine q_v (v := (.bool (decide (x69.of = self)))) (fun W hC => rn_eql (m := x69.of) (n := self) rfl rfl) ?_
                      refine q_v (v := (.bool (decide (x69.of = self)))) (fun W hC => rn_pT (b := (decide (absE (newL (n).toNat self 0) l = 0))) rfl h67 rfl) ?_
                      refine q_v (v := (.bool (decide (x69.of = self)))) (fun W hC => rn_mv rfl) ?_
                      refine ob_not rfl rfl rfl h74 ?_
                      refine ob_not rfl rfl rfl h74 ?_
                      refine ob_not rfl rfl rfl h74 ?_
                      refine ob_not rfl rfl rfl h74 ?_
                      refine ob_not rfl rfl rfl h74 ?_
                      refine ob_not rfl rfl rfl h74 ?_
                      refine q_v (v := (.bool false)) (fun W hC => rn_pF (b := (decide (x69.of = self))) rfl h74 rfl) ?_
                      refine q_v (v := (.bool false)) (fun W hC => rn_mv rfl) ?_
                      refine ob_not rfl rfl rfl rfl ?_
                      refine ob_not rfl rfl rfl rfl ?_
                      refine ob_not rfl rfl rfl rfl ?_
                      refine ob_not rfl rfl rfl rfl ?_
                      refine ob_not rfl rfl rfl rfl ?_
                      refine ob_not rfl rfl rfl rfl ?_
                      refine q_v (v := (.bool false)) (fun W hC => rn_pF (b := false) rfl rfl rfl) ?_
                      refine ob_end (fun w85 x86 _ => ?_)
                      replace hE := hE.step0 x86
                      replace hb37 := hb37.ext0 x86
                      replace hb45 := hb45.ext0 x86
                      replace hb52 := hb52.ext0 x86
                      replace el73 := el73.ext0 x86
                      replace hl := hl.ext0 x86
                      replace hB33 := hB33.ext0 x86
                      clear x86
                      refine w_end ?_
                      refine c_F (b := false) rfl rfl ?_
                      refine c_skip' ?_
                      refine b_norm ?_
                      refine t_norm ?_
                      refine c_r ?_
                      refine s1 (v := (i64 (k63 : Int))) (rn_mv rfl) ?_
                      refine s1 (v := (i64 ((k63 : Int) + 1))) (rn_add (m := (k63 : Int)) (n := 1) rfl rfl (wr64 (by omega) (by omega))) ?_
                      refine s1 (v := (i64 ((k63 : Int) + 1))) (rn_as rfl) ?_
                      refine w_nil ?_
                      refine t_norm ?_
                      exact ⟨l.length - (k63 + 1), by omega, k63 + 1, z6_k63, (i64 (k63 : Int)), (.slice A l.length c), (i64 (l.length : Int)), (.bool (decide ((k63 : Int) < (l.length : Int)))), (i64 (k63 : Int)), (i64 ((k63 : Int) + 1)), (i64 (absE (newL (n).toNat self 0) l)), (.bool (decide (absE (newL (n).toNat self 0) l = 0))), (.bool (decide (absE (newL (n).toNat self 0) l = 0))), (.slice A l.length c), (i64 (k63 : Int)), (ptr gl (o70 + k63 * 3)), (ptr gl (o70 + k63 * 3)), (i64 x69.of), (i64 self), (.bool (decide (x69.of = self))), (.bool (decide (x69.of = self))), (.bool (decide (x69.of = self))), undef, undef, undef, undef, undef, undef, (.bool false), (.bool false), undef, undef, undef, undef, undef, undef, (.bool false), Fr_congr (by kernel_rfl), rfl, by omega, hE, hb37, hb45, hb52, hl, hB33⟩
                  ·
                    have p87 := of_decide_eq_false h67
                    refine c_seq ?_
                    refine c_dr (n := 27) [.c (i64 (absE (newL (n).toNat self 0) l)), .c (.bool (decide (absE (newL (n).toNat self 0) l = 0))), .c (.bool (decide (absE (newL (n).toNat self 0) l = 0))), .n, .n, .n, .n, .n, .n, .n, .c (.bool false), .c (.bool false), .n, .n, .n, .n, .n, .n, .c (.bool false), .c (.bool false), .n, .n, .n, .n, .n, .n, .c (.bool false)] rfl mixed (by kernel_rfl) ?_
                    refine q_v (v := (i64 (absE (newL (n).toNat self 0) l))) (fun W hC => rn_mv rfl) ?_
                    refine q_v (v := (.bool (decide (absE (newL (n).toNat self 0) l = 0)))) (fun W hC => rn_eql (m := absE (newL (n).toNat self 0) l) (n := 0) rfl rfl) ?_
                    refine q_v (v := (.bool (decide (absE (newL (n).toNat self 0) l = 0)))) (fun W hC => rn_mv rfl) ?_
                    refine ob_not rfl rfl rfl h67 ?_
                    refine ob_not rfl rfl rfl h67 ?_
                    refine ob_not rfl rfl rfl h67 ?_
                    refine ob_not rfl rfl rfl h67 ?_
                    refine ob_not rfl rfl rfl h67 ?_
                    refine ob_not rfl rfl rfl h67 ?_
                    refine ob_not rfl rfl rfl h67 ?_
                    refine q_v (v := (.bool false)) (fun W hC => rn_pF (b := (decide (absE (newL (n).toNat self 0) l = 0))) rfl h67 rfl) ?_
                    refine q_v (v := (.bool false)) (fun W hC => rn_mv rfl) ?_
                    refine ob_not rfl rfl rfl rfl ?_
                    refine ob_not rfl rfl rfl rfl ?_
                    refine ob_not rfl rfl rfl rfl ?_
                    refine ob_not rfl rfl rfl rfl ?_
                    refine ob_not rfl rfl rfl rfl ?_
                    refine ob_not rfl rfl rfl rfl ?_
                    refine q_v (v := (.bool false)) (fun W hC => rn_pF (b := false) rfl rfl rfl) ?_
                    refine q_v (v := (.bool false)) (fun W hC => rn_mv rfl) ?_
                    refine ob_not rfl rfl rfl rfl ?_
                    refine ob_not rfl rfl rfl rfl ?_
                    refine ob_not rfl rfl rfl rfl ?_
                    refine ob_not rfl rfl rfl rfl ?_
                    refine ob_not rfl rfl rfl rfl ?_
                    refine ob_not rfl rfl rfl rfl ?_
                    refine q_v (v := (.bool false)) (fun W hC => rn_pF (b := false) rfl rfl rfl) ?_
                    refine ob_end (fun w88 x89 _ => ?_)
                    replace hE := hE.step0 x89
                    replace hb37 := hb37.ext0 x89
                    replace hb45 := hb45.ext0 x89
                    replace hb52 := hb52.ext0 x89
                    replace hl := hl.ext0 x89
                    replace hB33 := hB33.ext0 x89
                    clear x89
                    refine w_end ?_
                    refine c_F (b := false) rfl rfl ?_
                    refine c_skip' ?_
                    refine b_norm ?_
                    refine t_norm ?_
                    refine c_r ?_
                    refine s1 (v := (i64 (k63 : Int))) (rn_mv rfl) ?_
                    refine s1 (v := (i64 ((k63 : Int) + 1))) (rn_add (m := (k63 : Int)) (n := 1) rfl rfl (wr64 (by omega) (by omega))) ?_
                    refine s1 (v := (i64 ((k63 : Int) + 1))) (rn_as rfl) ?_
                    refine w_nil ?_
                    refine t_norm ?_
                    exact ⟨l.length - (k63 + 1), by omega, k63 + 1, z6_k63, (i64 (k63 : Int)), (.slice A l.length c), (i64 (l.length : Int)), (.bool (decide ((k63 : Int) < (l.length : Int)))), (i64 (k63 : Int)), (i64 ((k63 : Int) + 1)), (i64 (absE (newL (n).toNat self 0) l)), (.bool (decide (absE (newL (n).toNat self 0) l = 0))), (.bool (decide (absE (newL (n).toNat self 0) l = 0))), undef, undef, undef, undef, undef, undef, undef, (.bool false), (.bool false), undef, undef, undef, undef, undef, undef, (.bool false), (.bool false), undef, undef, undef, undef, undef, undef, (.bool false), Fr_congr (by kernel_rfl), rfl, by omega, hE, hb37, hb45, hb52, hl, hB33⟩
                ·
                  have p90 := of_decide_eq_false h65
                  refine c_exit ?_
                  refine t_exit ?_
                  refine t_exit ?_
                  refine b_here ?_
                  refine t_norm ?_
                  refine c_rs ?_
                  refine s_callP e20 (v := (.bool true)) (vs := []) rfl (alive_c) (fun w91 x92 => ?_)
                  replace hE := hE.step0 x92
                  replace hb37 := hb37.ext0 x92
                  replace hb45 := hb45.ext0 x92
                  replace hb52 := hb52.ext0 x92
                  replace hl := hl.ext0 x92
                  replace hB33 := hB33.ext0 x92
                  clear x92
                  refine s1 (v := (.bool true)) (rn_mv rfl) ?_
                  refine g_yes rfl rfl rfl rfl ?_
                  refine s1 (v := (i64 (absE (newL (n).toNat self 0) l))) (rn_mv rfl) ?_
                  refine g_yes rfl rfl rfl rfl ?_
                  refine s1 (v := (.bool (decide (absE (newL (n).toNat self 0) l = 0)))) (rn_eql (m := absE (newL (n).toNat self 0) l) (n := 0) rfl rfl) ?_
                  refine g_yes rfl rfl rfl rfl ?_
                  refine s1 (v := (.bool (decide (absE (newL (n).toNat self 0) l = 0)))) (rn_mv rfl) ?_
                  rcases Bool.eq_false_or_eq_true (decide (absE (newL (n).toNat self 0) l = 0)) with h93 | h93
                  ·
                    have p94 := of_decide_eq_true h93
                    refine g_not rfl rfl rfl h93 ?_
                    refine g_not rfl rfl rfl h93 ?_
                    refine g_not rfl rfl rfl h93 ?_
                    refine g_yes rfl rfl rfl rfl ?_
                    refine s1 (v := (.bool true)) (rn_pT (b := (decide (absE (newL (n).toNat self 0) l = 0))) rfl h93 rfl) ?_
                    refine s1 (v := (.bool true)) (rn_pT (b := true) rfl rfl rfl) ?_
                    refine s1 (v := (.bool true)) (rn_as rfl) ?_
                    refine w_end ?_
                    refine c_ret ?_
                    refine bp_ret (rs1 rfl (rv_tmp (v := (.bool true)) rfl)) ?_
                    have hln : (newL n.toNat self 0).length = n.toNat := newL_len _ _ _
                    have hg : Good (newL n.toNat self 0) := good_new (by omega) (by omega) (by omega) (by decide)
                    have hwas : (newL n.toNat self 0)[self.toNat]? = some ((newL n.toNat self 0)[self.toNat]?.getD default) := by rw [List.getElem?_eq_getElem (by omega)]; rfl
                    have hnow : (absR self (newL n.toNat self 0) l)[self.toNat]? = some ((absR self (newL n.toNat self 0) l)[self.toNat]?.getD default) := by rw [List.getElem?_eq_getElem (by rw [absR_len]; omega)]; rfl
                    have ho := own_law hg (by omega) hwas hnow
                    exact ⟨rfl, hE⟩
                  ·
                    have p95 := of_decide_eq_false h93
                    refine g_yes rfl rfl rfl h93 ?_
                    refine s1 (v := (N3.val ((absR self (newL (n).toNat self 0) l)[(self).toNat]?.getD default))) (rn_lbN (vs := (N3.cells ((absR self (newL (n).toNat self 0) l)[(self).toNat]?.getD default))) g28 rfl hb52 rfl rfl) ?_
                    refine g_yes rfl rfl rfl h93 ?_
                    refine s1 (v := (N3.val ((newL (n).toNat self 0)[(self).toNat]?.getD default))) (rn_lbN (vs := (N3.cells ((newL (n).toNat self 0)[(self).toNat]?.getD default))) g28 rfl hb37 rfl rfl) ?_
                    refine g_yes rfl rfl rfl h93 ?_
                    refine s1 (v := (.bool (decide (((absR self (newL (n).toNat self 0) l)[(self).toNat]?.getD default) = ((newL (n).toNat self 0)[(self).toNat]?.getD default))))) (eq28 (a := ((absR self (newL (n).toNat self 0) l)[(self).toNat]?.getD default)) (b := ((newL (n).toNat self 0)[(self).toNat]?.getD default)) rfl rfl) ?_
                    refine g_yes rfl rfl rfl rfl ?_
                    refine s1 (v := (.bool (decide (((absR self (newL (n).toNat self 0) l)[(self).toNat]?.getD default) = ((newL (n).toNat self 0)[(self).toNat]?.getD default))))) (rn_pF (b := (decide (absE (newL (n).toNat self 0) l = 0))) rfl h93 rfl) ?_
                    refine s1 (v := (.bool (decide (((absR self (newL (n).toNat self 0) l)[(self).toNat]?.getD default) = ((newL (n).toNat self 0)[(self).toNat]?.getD default))))) (rn_pT (b := true) rfl rfl rfl) ?_
                    refine s1 (v := (.bool (decide (((absR self (newL (n).toNat self 0) l)[(self).toNat]?.getD default) = ((newL (n).toNat self 0)[(self).toNat]?.getD default))))) (rn_as rfl) ?_
                    refine w_end ?_
                    refine c_ret ?_
                    refine bp_ret (rs1 rfl (rv_tmp (v := (.bool (decide (((absR self (newL (n).toNat self 0) l)[(self).toNat]?.getD default) = ((newL (n).toNat self 0)[(self).toNat]?.getD default))))) rfl)) ?_
                    have hln : (newL n.toNat self 0).length = n.toNat := newL_len _ _ _
                    have hg : Good (newL n.toNat self 0) := good_new (by omega) (by omega) (by omega) (by decide)
                    have hwas : (newL n.toNat self 0)[self.toNat]? = some ((newL n.toNat self 0)[self.toNat]?.getD default) := by rw [List.getElem?_eq_getElem (by omega)]; rfl
                    have hnow : (absR self (newL n.toNat self 0) l)[self.toNat]? = some ((absR self (newL n.toNat self 0) l)[self.toNat]?.getD default) := by rw [List.getElem?_eq_getElem (by rw [absR_len]; omega)]; rfl
                    have ho := own_law hg (by omega) hwas hnow
                    have h_ := ho.2.2.resolve_left (of_decide_eq_false h93)
                    exact ⟨by rw [h_]; simp, hE⟩
            ·
              have h96 := not_f h57
              have p97 := of_decide_eq_true h96
              refine g_not rfl rfl rfl h57 ?_
              refine g_not rfl rfl rfl h57 ?_
              refine g_not rfl rfl rfl h57 ?_
              refine g_yes rfl rfl rfl rfl ?_
              refine s1 (v := (.bool false)) (rn_pF (b := (!(decide (((absR self (newL (n).toNat self 0) l)[(self).toNat]?.getD default) = ((newL (n).toNat self 0)[(self).toNat]?.getD default))))) rfl h57 rfl) ?_
              refine s1 (v := (.bool false)) (rn_pF (b := false) rfl rfl rfl) ?_
              refine w_end ?_
              refine c_F (b := false) rfl rfl ?_
              refine c_skip' ?_
              refine t_norm ?_
              refine c_seq ?_
              refine c_rs ?_
              refine s1 (v := (i64 0)) (rn_as rfl) ?_
              refine w_end ?_
              refine c_block ?_
              refine c_loop (fun d a w => ∃ (k98 : Nat) (z6_k98 z70_k98 z71_k98 z72_k98 z73_k98 z74_k98 z75_k98 z76_k98 z77_k98 z78_k98 z79_k98 z80_k98 z81_k98 z82_k98 z83_k98 z84_k98 z85_k98 z86_k98 z87_k98 z88_k98 z89_k98 z90_k98 z91_k98 z92_k98 z93_k98 z94_k98 z95_k98 z96_k98 z97_k98 z98_k98 z99_k98 z100_k98 z101_k98 z102_k98 : Value) , a = Fr 113 (lk [(i64 n), (i64 self), (.slice A l.length c), undef, undef, undef, z6_k98, (ptr p30 0), (ptr b37 0), (i64 0), (ptr b45 0), (i64 (absE (newL (n).toNat self 0) l)), (ptr b52 0), (i64 0), (i64 (k98 : Int)), (i64 n), (.bool (decide (n < 1))), (.bool (decide (n < 1))), (i64 n), (.bool (decide (100 < n))), (.bool (decide (100 < n))), (.bool (decide (100 < n))), (i64 self), (.bool (decide (self < 0))), (.bool (decide (self < 0))), (.bool (decide (self < 0))), (i64 self), (i64 n), (.bool (decide (n ≤ self))), (.bool (decide (n ≤ self))), (.bool (decide (n ≤ self))), (.slice A l.length c), (.bool (decide ((l.length : Int) ≤ 300))), (.bool (!(decide ((l.length : Int) ≤ 300)))), (.bool (!(decide ((l.length : Int) ≤ 300)))), undef, (i64 n), (i64 self), (ptr p30 0), (.tuple #[(N3.val ((newL (n).toNat self 0)[(self).toNat]?.getD default)), (i64 0)]), (ptr p30 0), (i64 self), (.tuple #[(N3.val ((newL (n).toNat self 0)[(self).toNat]?.getD default)), (i64 0)]), (N3.val ((newL (n).toNat self 0)[(self).toNat]?.getD default)), (i64 0), (.tuple #[(S4.val (absS self (newL (n).toNat self 0) l)), (i64 (absE (newL (n).toNat self 0) l))]), (ptr p30 0), (i64 self), (.slice A l.length c), (.tuple #[(S4.val (absS self (newL (n).toNat self 0) l)), (i64 (absE (newL (n).toNat self 0) l))]), (S4.val (absS self (newL (n).toNat self 0) l)), (i64 (absE (newL (n).toNat self 0) l)), (.tuple #[(N3.val ((absR self (newL (n).toNat self 0) l)[(self).toNat]?.getD default)), (i64 0)]), (ptr p30 0), (i64 self), (.tuple #[(N3.val ((absR self (newL (n).toNat self 0) l)[(self).toNat]?.getD default)), (i64 0)]), (N3.val ((absR self (newL (n).toNat self 0) l)[(self).toNat]?.getD default)), (i64 0), (i64 0), (.bool false), (.bool false), (N3.val ((absR self (newL (n).toNat self 0) l)[(self).toNat]?.getD default)), (N3.val ((newL (n).toNat self 0)[(self).toNat]?.getD default)), (.bool (!(decide (((absR self (newL (n).toNat self 0) l)[(self).toNat]?.getD default) = ((newL (n).toNat self 0)[(self).toNat]?.getD default))))), (.bool (!(decide (((absR self (newL (n).toNat self 0) l)[(self).toNat]?.getD default) = ((newL (n).toNat self 0)[(self).toNat]?.getD default))))), undef, undef, undef, (.bool false), (.bool false), z70_k98, z71_k98, z72_k98, z73_k98, z74_k98, z75_k98, z76_k98, z77_k98, z78_k98, z79_k98, z80_k98, z81_k98, z82_k98, z83_k98, z84_k98, z85_k98, z86_k98, z87_k98, z88_k98, z89_k98, z90_k98, z91_k98, z92_k98, z93_k98, z94_k98, z95_k98, z96_k98, z97_k98, z98_k98, z99_k98, z100_k98, z101_k98, z102_k98, undef, undef, undef, undef, undef, undef, undef, undef, undef, undef]) [] ∧ d = l.length - k98 ∧ k98 ≤ l.length ∧ Ext [] w0 w ∧ Blk w b37 28 (N3.cells ((newL (n).toNat self 0)[(self).toNat]?.getD default)) ∧ Blk w b45 34 (S4.cells (absS self (newL (n).toNat self 0) l)) ∧ Blk w b52 28 (N3.cells ((absR self (newL (n).toNat self 0) l)[(self).toNat]?.getD default)) ∧ Ls N3.cells 3 w gl A l ∧ Bk w p30 bb31 (absR self (newL (n).toNat self 0) l)) (l.length - 0) ⟨0, (.bool false), undef, undef, undef, undef, undef, undef, undef, undef, undef, undef, undef, undef, undef, undef, undef, undef, undef, undef, undef, undef, undef, undef, undef, undef, undef, undef, undef, undef, undef, undef, undef, undef, undef, Fr_congr (by kernel_rfl), rfl, Nat.zero_le _, hE, hb37, hb45, hb52, hl, hB33⟩ ?_
              clear hE
              clear hb37
              clear hb45
              clear hb52
              clear hl
              clear hB33
              rintro d a w99 ⟨k98, z6_k98, z70_k98, z71_k98, z72_k98, z73_k98, z74_k98, z75_k98, z76_k98, z77_k98, z78_k98, z79_k98, z80_k98, z81_k98, z82_k98, z83_k98, z84_k98, z85_k98, z86_k98, z87_k98, z88_k98, z89_k98, z90_k98, z91_k98, z92_k98, z93_k98, z94_k98, z95_k98, z96_k98, z97_k98, z98_k98, z99_k98, z100_k98, z101_k98, z102_k98, rfl, rfl, hlek98, hE, hb37, hb45, hb52, hl, hB33⟩
              refine c_seq ?_
              refine c_rs ?_
              refine s1 (v := (i64 (k98 : Int))) (rn_mv rfl) ?_
              refine s1 (v := (.slice A l.length c)) (rn_mv rfl) ?_
              refine s1 (v := (i64 (l.length : Int))) (rn_len is22 rfl) ?_
              refine s1 (v := (.bool (decide ((k98 : Int) < (l.length : Int))))) (rn_lss (m := (k98 : Int)) (n := (l.length : Int)) rfl rfl) ?_
              refine w_end ?_
              refine c_if (b := (decide ((k98 : Int) < (l.length : Int)))) rfl (fun h100 => ?_) (fun h100 => ?_)
              ·
                have p101 := of_decide_eq_true h100
                refine c_skip' ?_
                refine t_norm ?_
                refine c_seq ?_
                refine c_block ?_
                rcases Bool.eq_false_or_eq_true (decide (absE (newL (n).toNat self 0) l = 0)) with h102 | h102
                ·
                  have p103 := of_decide_eq_true h102
                  obtain ⟨x104, o105, hx106, hA107, el108⟩ := hl.el (k := k98) (by omega)
                  rcases Bool.eq_false_or_eq_true (decide (x104.of = self)) with h109 | h109
                  ·
                    have p110 := of_decide_eq_true h109
                    rcases Bool.eq_false_or_eq_true (decide (x104.kind = 2)) with h111 | h111
                    ·
                      have p112 := of_decide_eq_true h111
                      refine c_seq ?_
                      refine c_dr (n := 27) [.c (i64 (absE (newL (n).toNat self 0) l)), .c (.bool (decide (absE (newL (n).toNat self 0) l = 0))), .c (.bool (decide (absE (newL (n).toNat self 0) l = 0))), .c (.slice A l.length c), .c (i64 (k98 : Int)), .c (ptr gl (o105 + k98 * 3)), .c (ptr gl (o105 + k98 * 3)), .c (i64 x104.of), .c (i64 self), .c (.bool (decide (x104.of = self))), .c (.bool (decide (x104.of = self))), .c (.bool (decide (x104.of = self))), .c (.slice A l.length c), .c (i64 (k98 : Int)), .c (ptr gl (o105 + k98 * 3)), .c (ptr gl ((o105 + k98 * 3) + 2)), .c (i64 x104.kind), .c (.bool (decide (x104.kind = 2))), .c (.bool (decide (x104.kind = 2))), .c (.bool (decide (x104.kind = 2))), .c (.slice A l.length c), .c (i64 (k98 : Int)), .c (ptr gl (o105 + k98 * 3)), .c (N3.val x104), .c (N3.val ((absR self (newL (n).toNat self 0) l)[(self).toNat]?.getD default)), .c (.bool (beats x104 ((absR self (newL (n).toNat self 0) l)[(self).toNat]?.getD default))), .c (.bool (beats x104 ((absR self (newL (n).toNat self 0) l)[(self).toNat]?.getD default)))] rfl mixed (by kernel_rfl) ?_
                      refine q_v (v := (i64 (absE (newL (n).toNat self 0) l))) (fun W hC => rn_mv rfl) ?_
                      refine q_v (v := (.bool (decide (absE (newL (n).toNat self 0) l = 0)))) (fun W hC => rn_eql (m := absE (newL (n).toNat self 0) l) (n := 0) rfl rfl) ?_
                      refine q_v (v := (.bool (decide (absE (newL (n).toNat self 0) l = 0)))) (fun W hC => rn_mv rfl) ?_
                      refine ob_yes rfl rfl rfl h102 ?_
                      refine q_v (v := (.slice A l.length c)) (fun W hC => rn_mv rfl) ?_
                      refine ob_yes rfl rfl rfl h102 ?_
                      refine q_v (v := (i64 (k98 : Int))) (fun W hC => rn_mv rfl) ?_
                      refine ob_yes rfl rfl rfl h102 ?_
                      refine q_v (v := (ptr gl (o105 + k98 * 3))) (fun W hC => rn_ie is22 rfl hA107 rfl (by omega) (by omega) rfl) ?_
                      refine ob_yes rfl rfl rfl h102 ?_
                      refine q_v (v := (ptr gl (o105 + k98 * 3))) (fun W hC => rn_fa fa28_0 rfl rfl) ?_
                      refine ob_yes rfl rfl rfl h102 ?_
                      refine q_v (v := (i64 x104.of)) (fun W hC => rn_ld1 o3 rfl ((el108.ext0 hC) 0 _ rfl)) ?_
                      refine ob_yes rfl rfl rfl h102 ?_
                      refine q_v (v := (i64 self)) (fun W hC => rn_mv rfl) ?_
                      refine ob_yes rfl rfl rfl h102 ?_
                      refine q_v (v := (.bool (decide (x104.of = self)))) (fun W hC => rn_eql (m := x104.of) (n := self) rfl rfl) ?_
                      refine q_v (v := (.bool (decide (x104.of = self)))) (fun W hC => rn_pT (b := (decide (absE (newL (n).toNat self 0) l = 0))) rfl h102 rfl) ?_
                      refine q_v (v := (.bool (decide (x104.of = self)))) (fun W hC => rn_mv rfl) ?_
                      refine ob_yes rfl rfl rfl h109 ?_
                      refine q_v (v := (.slice A l.length c)) (fun W hC => rn_mv rfl) ?_
                      refine ob_yes rfl rfl rfl h109 ?_
                      refine q_v (v := (i64 (k98 : Int))) (fun W hC => rn_mv rfl) ?_
                      refine ob_yes rfl rfl rfl h109 ?_
                      refine q_v (v := (ptr gl (o105 + k98 * 3))) (fun W hC => rn_ie is22 rfl hA107 rfl (by omega) (by omega) rfl) ?_
                      refine ob_yes rfl rfl rfl h109 ?_
                      refine q_v (v := (ptr gl ((o105 + k98 * 3) + 2))) (fun W hC => rn_fa fa28_2 rfl rfl) ?_
                      refine ob_yes rfl rfl rfl h109 ?_
                      refine q_v (v := (i64 x104.kind)) (fun W hC => rn_ld1 o3 rfl ((el108.ext0 hC) 2 _ rfl)) ?_
                      refine ob_yes rfl rfl rfl h109 ?_
                      refine q_v (v := (.bool (decide (x104.kind = 2)))) (fun W hC => rn_eql (m := x104.kind) (n := 2) rfl rfl) ?_
                      refine q_v (v := (.bool (decide (x104.kind = 2)))) (fun W hC => rn_pT (b := (decide (x104.of = self))) rfl h109 rfl) ?_
                      refine q_v (v := (.bool (decide (x104.kind = 2)))) (fun W hC => rn_mv rfl) ?_
                      refine ob_yes rfl rfl rfl h111 ?_
                      refine q_v (v := (.slice A l.length c)) (fun W hC => rn_mv rfl) ?_
                      refine ob_yes rfl rfl rfl h111 ?_
                      refine q_v (v := (i64 (k98 : Int))) (fun W hC => rn_mv rfl) ?_
                      refine ob_yes rfl rfl rfl h111 ?_
                      refine q_v (v := (ptr gl (o105 + k98 * 3))) (fun W hC => rn_ie is22 rfl hA107 rfl (by omega) (by omega) rfl) ?_
                      refine ob_yes rfl rfl rfl h111 ?_
                      refine q_v (v := (N3.val x104)) (fun W hC => rn_ldN (vs := (N3.cells x104)) g28 rfl rfl (el108.ext0 hC)) ?_
                      refine ob_yes rfl rfl rfl h111 ?_
                      refine q_v (v := (N3.val ((absR self (newL (n).toNat self 0) l)[(self).toNat]?.getD default))) (fun W hC => rn_lbN (vs := (N3.cells ((absR self (newL (n).toNat self 0) l)[(self).toNat]?.getD default))) g28 rfl (hb52.ext0 hC) rfl rfl) ?_
                      refine ob_yes rfl rfl rfl h111 ?_
                      refine q_call e24 (v := (.bool (beats x104 ((absR self (newL (n).toNat self 0) l)[(self).toNat]?.getD default)))) (vs := [(N3.val x104), (N3.val ((absR self (newL (n).toNat self 0) l)[(self).toNat]?.getD default))]) rfl (fun W hC => Beats_c x104 ((absR self (newL (n).toNat self 0) l)[(self).toNat]?.getD default) _) ?_
                      refine q_v (v := (.bool (beats x104 ((absR self (newL (n).toNat self 0) l)[(self).toNat]?.getD default)))) (fun W hC => rn_pT (b := (decide (x104.kind = 2))) rfl h111 rfl) ?_
                      refine ob_end (fun w113 x114 _ => ?_)
                      replace hE := hE.step0 x114
                      replace hb37 := hb37.ext0 x114
                      replace hb45 := hb45.ext0 x114
                      replace hb52 := hb52.ext0 x114
                      replace el108 := el108.ext0 x114
                      replace hl := hl.ext0 x114
                      replace hB33 := hB33.ext0 x114
                      clear x114
                      refine w_end ?_
                      refine c_if (b := (beats x104 ((absR self (newL (n).toNat self 0) l)[(self).toNat]?.getD default))) rfl (fun h115 => ?_) (fun h115 => ?_)
                      ·
                        refine c_rs ?_
                        refine s1 (v := (.bool false)) (rn_as rfl) ?_
                        refine w_end ?_
                        refine c_ret ?_
                        refine b_ret ?_
                        refine t_ret ?_
                        refine t_ret ?_
                        refine b_ret ?_
                        refine t_ret ?_
                        refine bp_ret (rs1 rfl (rv_tmp (v := (.bool false)) rfl)) ?_
                        have hln : (newL n.toNat self 0).length = n.toNat := newL_len _ _ _
                        have hg : Good (newL n.toNat self 0) := good_new (by omega) (by omega) (by omega) (by decide)
                        have hwas : (newL n.toNat self 0)[self.toNat]? = some ((newL n.toNat self 0)[self.toNat]?.getD default) := by rw [List.getElem?_eq_getElem (by omega)]; rfl
                        have hnow : (absR self (newL n.toNat self 0) l)[self.toNat]? = some ((absR self (newL n.toNat self 0) l)[self.toNat]?.getD default) := by rw [List.getElem?_eq_getElem (by rw [absR_len]; omega)]; rfl
                        have ho := own_law hg (by omega) hwas hnow
                        exfalso
                        have h_ := ho.2.1 (of_decide_eq_true h102) x104 (List.mem_of_getElem? hx106) (of_decide_eq_true h109) (of_decide_eq_true h111)
                        rw [h_] at h115; cases h115
                      ·
                        refine c_skip' ?_
                        refine b_norm ?_
                        refine t_norm ?_
                        refine c_r ?_
                        refine s1 (v := (i64 (k98 : Int))) (rn_mv rfl) ?_
                        refine s1 (v := (i64 ((k98 : Int) + 1))) (rn_add (m := (k98 : Int)) (n := 1) rfl rfl (wr64 (by omega) (by omega))) ?_
                        refine s1 (v := (i64 ((k98 : Int) + 1))) (rn_as rfl) ?_
                        refine w_nil ?_
                        refine t_norm ?_
                        exact ⟨l.length - (k98 + 1), by omega, k98 + 1, z6_k98, (i64 (k98 : Int)), (.slice A l.length c), (i64 (l.length : Int)), (.bool (decide ((k98 : Int) < (l.length : Int)))), (i64 (k98 : Int)), (i64 ((k98 : Int) + 1)), (i64 (absE (newL (n).toNat self 0) l)), (.bool (decide (absE (newL (n).toNat self 0) l = 0))), (.bool (decide (absE (newL (n).toNat self 0) l = 0))), (.slice A l.length c), (i64 (k98 : Int)), (ptr gl (o105 + k98 * 3)), (ptr gl (o105 + k98 * 3)), (i64 x104.of), (i64 self), (.bool (decide (x104.of = self))), (.bool (decide (x104.of = self))), (.bool (decide (x104.of = self))), (.slice A l.length c), (i64 (k98 : Int)), (ptr gl (o105 + k98 * 3)), (ptr gl ((o105 + k98 * 3) + 2)), (i64 x104.kind), (.bool (decide (x104.kind = 2))), (.bool (decide (x104.kind = 2))), (.bool (decide (x104.kind = 2))), (.slice A l.length c), (i64 (k98 : Int)), (ptr gl (o105 + k98 * 3)), (N3.val x104), (N3.val ((absR self (newL (n).toNat self 0) l)[(self).toNat]?.getD default)), (.bool (beats x104 ((absR self (newL (n).toNat self 0) l)[(self).toNat]?.getD default))), (.bool (beats x104 ((absR self (newL (n).toNat self 0) l)[(self).toNat]?.getD default))), Fr_congr (by kernel_rfl), rfl, by omega, hE, hb37, hb45, hb52, hl, hB33⟩
                    ·
                      have p116 := of_decide_eq_false h111
                      refine c_seq ?_
                      refine c_dr (n := 27) [.c (i64 (absE (newL (n).toNat self 0) l)), .c (.bool (decide (absE (newL (n).toNat self 0) l = 0))), .c (.bool (decide (absE (newL (n).toNat self 0) l = 0))), .c (.slice A l.length c), .c (i64 (k98 : Int)), .c (ptr gl (o105 + k98 * 3)), .c (ptr gl (o105 + k98 * 3)), .c (i64 x104.of), .c (i64 self), .c (.bool (decide (x104.of = self))), .c (.bool (decide (x104.of = self))), .c (.bool (decide (x104.of = self))), .c (.slice A l.length c), .c (i64 (k98 : Int)), .c (ptr gl (o105 + k98 * 3)), .c (ptr gl ((o105 + k98 * 3) + 2)), .c (i64 x104.kind), .c (.bool (decide (x104.kind = 2))), .c (.bool (decide (x104.kind = 2))), .c (.bool (decide (x104.kind = 2))), .n, .n, .n, .n, .n, .n, .c (.bool false)] rfl mixed (by kernel_rfl) ?_
                      refine q_v (v := (i64 (absE (newL (n).toNat self 0) l))) (fun W hC => rn_mv rfl) ?_
                      refine q_v (v := (.bool (decide (absE (newL (n).toNat self 0) l = 0)))) (fun W hC => rn_eql (m := absE (newL (n).toNat self 0) l) (n := 0) rfl rfl) ?_
                      refine q_v (v := (.bool (decide (absE (newL (n).toNat self 0) l = 0)))) (fun W hC => rn_mv rfl) ?_
                      refine ob_yes rfl rfl rfl h102 ?_
                      refine q_v (v := (.slice A l.length c)) (fun W hC => rn_mv rfl) ?_
                      refine ob_yes rfl rfl rfl h102 ?_
                      refine q_v (v := (i64 (k98 : Int))) (fun W hC => rn_mv rfl) ?_
                      refine ob_yes rfl rfl rfl h102 ?_
                      refine q_v (v := (ptr gl (o105 + k98 * 3))) (fun W hC => rn_ie is22 rfl hA107 rfl (by omega) (by omega) rfl) ?_
                      refine ob_yes rfl rfl rfl h102 ?_
                      refine q_v (v := (ptr gl (o105 + k98 * 3))) (fun W hC => rn_fa fa28_0 rfl rfl) ?_
                      refine ob_yes rfl rfl rfl h102 ?_
                      refine q_v (v := (i64 x104.of)) (fun W hC => rn_ld1 o3 rfl ((el108.ext0 hC) 0 _ rfl)) ?_
                      refine ob_yes rfl rfl rfl h102 ?_
                      refine q_v (v := (i64 self)) (fun W hC => rn_mv rfl) ?_
                      refine ob_yes rfl rfl rfl h102 ?_
                      refine q_v (v := (.bool (decide (x104.of = self)))) (fun W hC => rn_eql (m := x104.of) (n := self) rfl rfl) ?_
                      refine q_v (v := (.bool (decide (x104.of = self)))) (fun W hC => rn_pT (b := (decide (absE (newL (n).toNat self 0) l = 0))) rfl h102 rfl) ?_
                      refine q_v (v := (.bool (decide (x104.of = self)))) (fun W hC => rn_mv rfl) ?_
                      refine ob_yes rfl rfl rfl h109 ?_
                      refine q_v (v := (.slice A l.length c)) (fun W hC => rn_mv rfl) ?_
                      refine ob_yes rfl rfl rfl h109 ?_
                      refine q_v (v := (i64 (k98 : Int))) (fun W hC => rn_mv rfl) ?_
                      refine ob_yes rfl rfl rfl h109 ?_
                      refine q_v (v := (ptr gl (o105 + k98 * 3))) (fun W hC => rn_ie is22 rfl hA107 rfl (by omega) (by omega) rfl) ?_
                      refine ob_yes rfl rfl rfl h109 ?_
                      refine q_v (v := (ptr gl ((o105 + k98 * 3) + 2))) (fun W hC => rn_fa fa28_2 rfl rfl) ?_
                      refine ob_yes rfl rfl rfl h109 ?_
                      refine q_v (v := (i64 x104.kind)) (fun W hC => rn_ld1 o3 rfl ((el108.ext0 hC) 2 _ rfl)) ?_
                      refine ob_yes rfl rfl rfl h109 ?_
                      refine q_v (v := (.bool (decide (x104.kind = 2)))) (fun W hC => rn_eql (m := x104.kind) (n := 2) rfl rfl) ?_
                      refine q_v (v := (.bool (decide (x104.kind = 2)))) (fun W hC => rn_pT (b := (decide (x104.of = self))) rfl h109 rfl) ?_
                      refine q_v (v := (.bool (decide (x104.kind = 2)))) (fun W hC => rn_mv rfl) ?_
                      refine ob_not rfl rfl rfl h111 ?_
                      refine ob_not rfl rfl rfl h111 ?_
                      refine ob_not rfl rfl rfl h111 ?_
                      refine ob_not rfl rfl rfl h111 ?_
                      refine ob_not rfl rfl rfl h111 ?_
                      refine ob_not rfl rfl rfl h111 ?_
                      refine q_v (v := (.bool false)) (fun W hC => rn_pF (b := (decide (x104.kind = 2))) rfl h111 rfl) ?_
                      refine ob_end (fun w117 x118 _ => ?_)
                      replace hE := hE.step0 x118
                      replace hb37 := hb37.ext0 x118
                      replace hb45 := hb45.ext0 x118
                      replace hb52 := hb52.ext0 x118
                      replace el108 := el108.ext0 x118
                      replace hl := hl.ext0 x118
                      replace hB33 := hB33.ext0 x118
                      clear x118
                      refine w_end ?_
                      refine c_F (b := false) rfl rfl ?_
                      refine c_skip' ?_
                      refine b_norm ?_
                      refine t_norm ?_
                      refine c_r ?_
                      refine s1 (v := (i64 (k98 : Int))) (rn_mv rfl) ?_
                      refine s1 (v := (i64 ((k98 : Int) + 1))) (rn_add (m := (k98 : Int)) (n := 1) rfl rfl (wr64 (by omega) (by omega))) ?_
                      refine s1 (v := (i64 ((k98 : Int) + 1))) (rn_as rfl) ?_
                      refine w_nil ?_
                      refine t_norm ?_
                      exact ⟨l.length - (k98 + 1), by omega, k98 + 1, z6_k98, (i64 (k98 : Int)), (.slice A l.length c), (i64 (l.length : Int)), (.bool (decide ((k98 : Int) < (l.length : Int)))), (i64 (k98 : Int)), (i64 ((k98 : Int) + 1)), (i64 (absE (newL (n).toNat self 0) l)), (.bool (decide (absE (newL (n).toNat self 0) l = 0))), (.bool (decide (absE (newL (n).toNat self 0) l = 0))), (.slice A l.length c), (i64 (k98 : Int)), (ptr gl (o105 + k98 * 3)), (ptr gl (o105 + k98 * 3)), (i64 x104.of), (i64 self), (.bool (decide (x104.of = self))), (.bool (decide (x104.of = self))), (.bool (decide (x104.of = self))), (.slice A l.length c), (i64 (k98 : Int)), (ptr gl (o105 + k98 * 3)), (ptr gl ((o105 + k98 * 3) + 2)), (i64 x104.kind), (.bool (decide (x104.kind = 2))), (.bool (decide (x104.kind = 2))), (.bool (decide (x104.kind = 2))), undef, undef, undef, undef, undef, undef, (.bool false), Fr_congr (by kernel_rfl), rfl, by omega, hE, hb37, hb45, hb52, hl, hB33⟩
                  ·
                    have p119 := of_decide_eq_false h109
                    refine c_seq ?_
                    refine c_dr (n := 27) [.c (i64 (absE (newL (n).toNat self 0) l)), .c (.bool (decide (absE (newL (n).toNat self 0) l = 0))), .c (.bool (decide (absE (newL (n).toNat self 0) l = 0))), .c (.slice A l.length c), .c (i64 (k98 : Int)), .c (ptr gl (o105 + k98 * 3)), .c (ptr gl (o105 + k98 * 3)), .c (i64 x104.of), .c (i64 self), .c (.bool (decide (x104.of = self))), .c (.bool (decide (x104.of = self))), .c (.bool (decide (x104.of = self))), .n, .n, .n, .n, .n, .n, .c (.bool false), .c (.bool false), .n, .n, .n, .n, .n, .n, .c (.bool false)] rfl mixed (by kernel_rfl) ?_
                    refine q_v (v := (i64 (absE (newL (n).toNat self 0) l))) (fun W hC => rn_mv rfl) ?_
                    refine q_v (v := (.bool (decide (absE (newL (n).toNat self 0) l = 0)))) (fun W hC => rn_eql (m := absE (newL (n).toNat self 0) l) (n := 0) rfl rfl) ?_
                    refine q_v (v := (.bool (decide (absE (newL (n).toNat self 0) l = 0)))) (fun W hC => rn_mv rfl) ?_
                    refine ob_yes rfl rfl rfl h102 ?_
                    refine q_v (v := (.slice A l.length c)) (fun W hC => rn_mv rfl) ?_
                    refine ob_yes rfl rfl rfl h102 ?_
                    refine q_v (v := (i64 (k98 : Int))) (fun W hC => rn_mv rfl) ?_
                    refine ob_yes rfl rfl rfl h102 ?_
                    refine q_v (v := (ptr gl (o105 + k98 * 3))) (fun W hC => rn_ie is22 rfl hA107 rfl (by omega) (by omega) rfl) ?_
                    refine ob_yes rfl rfl rfl h102 ?_
                    refine q_v (v := (ptr gl (o105 + k98 * 3))) (fun W hC => rn_fa fa28_0 rfl rfl) ?_
                    refine ob_yes rfl rfl rfl h102 ?_
                    refine q_v (v := (i64 x104.of)) (fun W hC => rn_ld1 o3 rfl ((el108.ext0 hC) 0 _ rfl)) ?_
                    refine ob_yes rfl rfl rfl h102 ?_
                    refine q_v (v := (i64 self)) (fun W hC => rn_mv rfl) ?_
                    refine ob_yes rfl rfl rfl h102 ?_
                    refine q_v (v := (.bool (decide (x104.of = self)))) (fun W hC => rn_eql (m := x104.of) (n := self) rfl rfl) ?_
                    refine q_v (v := (.bool (decide (x104.of = self)))) (fun W hC => rn_pT (b := (decide (absE (newL (n).toNat self 0) l = 0))) rfl h102 rfl) ?_
                    refine q_v (v := (.bool (decide (x104.of = self)))) (fun W hC => rn_mv rfl) ?_
                    refine ob_not rfl rfl rfl h109 ?_
                    refine ob_not rfl rfl rfl h109 ?_
                    refine ob_not rfl rfl rfl h109 ?_
                    refine ob_not rfl rfl rfl h109 ?_
                    refine ob_not rfl rfl rfl h109 ?_
                    refine ob_not rfl rfl rfl h109 ?_
                    refine q_v (v := (.bool false)) (fun W hC => rn_pF (b := (decide (x104.of = self))) rfl h109 rfl) ?_
                    refine q_v (v := (.bool false)) (fun W hC => rn_mv rfl) ?_
                    refine ob_not rfl rfl rfl rfl ?_
                    refine ob_not rfl rfl rfl rfl ?_
                    refine ob_not rfl rfl rfl rfl ?_
                    refine ob_not rfl rfl rfl rfl ?_
                    refine ob_not rfl rfl rfl rfl ?_
                    refine ob_not rfl rfl rfl rfl ?_
                    refine q_v (v := (.bool false)) (fun W hC => rn_pF (b := false) rfl rfl rfl) ?_
                    refine ob_end (fun w120 x121 _ => ?_)
                    replace hE := hE.step0 x121
                    replace hb37 := hb37.ext0 x121
                    replace hb45 := hb45.ext0 x121
                    replace hb52 := hb52.ext0 x121
                    replace el108 := el108.ext0 x121
                    replace hl := hl.ext0 x121
                    replace hB33 := hB33.ext0 x121
                    clear x121
                    refine w_end ?_
                    refine c_F (b := false) rfl rfl ?_
                    refine c_skip' ?_
                    refine b_norm ?_
                    refine t_norm ?_
                    refine c_r ?_
                    refine s1 (v := (i64 (k98 : Int))) (rn_mv rfl) ?_
                    refine s1 (v := (i64 ((k98 : Int) + 1))) (rn_add (m := (k98 : Int)) (n := 1) rfl rfl (wr64 (by omega) (by omega))) ?_
                    refine s1 (v := (i64 ((k98 : Int) + 1))) (rn_as rfl) ?_
                    refine w_nil ?_
                    refine t_norm ?_
                    exact ⟨l.length - (k98 + 1), by omega, k98 + 1, z6_k98, (i64 (k98 : Int)), (.slice A l.length c), (i64 (l.length : Int)), (.bool (decide ((k98 : Int) < (l.length : Int)))), (i64 (k98 : Int)), (i64 ((k98 : Int) + 1)), (i64 (absE (newL (n).toNat self 0) l)), (.bool (decide (absE (newL (n).toNat self 0) l = 0))), (.bool (decide (absE (newL (n).toNat self 0) l = 0))), (.slice A l.length c), (i64 (k98 : Int)), (ptr gl (o105 + k98 * 3)), (ptr gl (o105 + k98 * 3)), (i64 x104.of), (i64 self), (.bool (decide (x104.of = self))), (.bool (decide (x104.of = self))), (.bool (decide (x104.of = self))), undef, undef, undef, undef, undef, undef, (.bool false), (.bool false), undef, undef, undef, undef, undef, undef, (.bool false), Fr_congr (by kernel_rfl), rfl, by omega, hE, hb37, hb45, hb52, hl, hB33⟩
                ·
                  have p122 := of_decide_eq_false h102
                  refine c_seq ?_
                  refine c_dr (n := 27) [.c (i64 (absE (newL (n).toNat self 0) l)), .c (.bool (decide (absE (newL (n).toNat self 0) l = 0))), .c (.bool (decide (absE (newL (n).toNat self 0) l = 0))), .n, .n, .n, .n, .n, .n, .n, .c (.bool false), .c (.bool false), .n, .n, .n, .n, .n, .n, .c (.bool false), .c (.bool false), .n, .n, .n, .n, .n, .n, .c (.bool false)] rfl mixed (by kernel_rfl) ?_
                  refine q_v (v := (i64 (absE (newL (n).toNat self 0) l))) (fun W hC => rn_mv rfl) ?_
                  refine q_v (v := (.bool (decide (absE (newL (n).toNat self 0) l = 0)))) (fun W hC => rn_eql (m := absE (newL (n).toNat self 0) l) (n := 0) rfl rfl) ?_
                  refine q_v (v := (.bool (decide (absE (newL (n).toNat self 0) l = 0)))) (fun W hC => rn_mv rfl) ?_
                  refine ob_not rfl rfl rfl h102 ?_
                  refine ob_not rfl rfl rfl h102 ?_
                  refine ob_not rfl rfl rfl h102 ?_
                  refine ob_not rfl rfl rfl h102 ?_
                  refine ob_not rfl rfl rfl h102 ?_
                  refine ob_not rfl rfl rfl h102 ?_
                  refine ob_not rfl rfl rfl h102 ?_
                  refine q_v (v := (.bool false)) (fun W hC => rn_pF (b := (decide (absE (newL (n).toNat self 0) l = 0))) rfl h102 rfl) ?_
                  refine q_v (v := (.bool false)) (fun W hC => rn_mv rfl) ?_
                  refine ob_not rfl rfl rfl rfl ?_
                  refine ob_not rfl rfl rfl rfl ?_
                  refine ob_not rfl rfl rfl rfl ?_
                  refine ob_not rfl rfl rfl rfl ?_
                  refine ob_not rfl rfl rfl rfl ?_
                  refine ob_not rfl rfl rfl rfl ?_
                  refine q_v (v := (.bool false)) (fun W hC => rn_pF (b := false) rfl rfl rfl) ?_
                  refine q_v (v := (.bool false)) (fun W hC => rn_mv rfl) ?_
                  refine ob_not rfl rfl rfl rfl ?_
                  refine ob_not rfl rfl rfl rfl ?_
                  refine ob_not rfl rfl rfl rfl ?_
                  refine ob_not rfl rfl rfl rfl ?_
                  refine ob_not rfl rfl rfl rfl ?_
                  refine ob_not rfl rfl rfl rfl ?_
                  refine q_v (v := (.bool false)) (fun W hC => rn_pF (b := false) rfl rfl rfl) ?_
                  refine ob_end (fun w123 x124 _ => ?_)
                  replace hE := hE.step0 x124
                  replace hb37 := hb37.ext0 x124
                  replace hb45 := hb45.ext0 x124
                  replace hb52 := hb52.ext0 x124
                  replace hl := hl.ext0 x124
                  replace hB33 := hB33.ext0 x124
                  clear x124
                  refine w_end ?_
                  refine c_F (b := false) rfl rfl ?_
                  refine c_skip' ?_
                  refine b_norm ?_
                  refine t_norm ?_
                  refine c_r ?_
                  refine s1 (v := (i64 (k98 : Int))) (rn_mv rfl) ?_
                  refine s1 (v := (i64 ((k98 : Int) + 1))) (rn_add (m := (k98 : Int)) (n := 1) rfl rfl (wr64 (by omega) (by omega))) ?_
                  refine s1 (v := (i64 ((k98 : Int) + 1))) (rn_as rfl) ?_
                  refine w_nil ?_
                  refine t_norm ?_
                  exact ⟨l.length - (k98 + 1), by omega, k98 + 1, z6_k98, (i64 (k98 : Int)), (.slice A l.length c), (i64 (l.length : Int)), (.bool (decide ((k98 : Int) < (l.length : Int)))), (i64 (k98 : Int)), (i64 ((k98 : Int) + 1)), (i64 (absE (newL (n).toNat self 0) l)), (.bool (decide (absE (newL (n).toNat self 0) l = 0))), (.bool (decide (absE (newL (n).toNat self 0) l = 0))), undef, undef, undef, undef, undef, undef, undef, (.bool false), (.bool false), undef, undef, undef, undef, undef, undef, (.bool false), (.bool false), undef, undef, undef, undef, undef, undef, (.bool false), Fr_congr (by kernel_rfl), rfl, by omega, hE, hb37, hb45, hb52, hl, hB33⟩
              ·
                have p125 := of_decide_eq_false h100
                refine c_exit ?_
                refine t_exit ?_
                refine t_exit ?_
                refine b_here ?_
                refine t_norm ?_
                refine c_rs ?_
                refine s_callP e20 (v := (.bool true)) (vs := []) rfl (alive_c) (fun w126 x127 => ?_)
                replace hE := hE.step0 x127
                replace hb37 := hb37.ext0 x127
                replace hb45 := hb45.ext0 x127
                replace hb52 := hb52.ext0 x127
                replace hl := hl.ext0 x127
                replace hB33 := hB33.ext0 x127
                clear x127
                refine s1 (v := (.bool true)) (rn_mv rfl) ?_
                refine g_yes rfl rfl rfl rfl ?_
                refine s1 (v := (i64 (absE (newL (n).toNat self 0) l))) (rn_mv rfl) ?_
                refine g_yes rfl rfl rfl rfl ?_
                refine s1 (v := (.bool (decide (absE (newL (n).toNat self 0) l = 0)))) (rn_eql (m := absE (newL (n).toNat self 0) l) (n := 0) rfl rfl) ?_
                refine g_yes rfl rfl rfl rfl ?_
                refine s1 (v := (.bool (decide (absE (newL (n).toNat self 0) l = 0)))) (rn_mv rfl) ?_
                rcases Bool.eq_false_or_eq_true (decide (absE (newL (n).toNat self 0) l = 0)) with h128 | h128
                ·
                  have p129 := of_decide_eq_true h128
                  refine g_not rfl rfl rfl h128 ?_
                  refine g_not rfl rfl rfl h128 ?_
                  refine g_not rfl rfl rfl h128 ?_
                  refine g_yes rfl rfl rfl rfl ?_
                  refine s1 (v := (.bool true)) (rn_pT (b := (decide (absE (newL (n).toNat self 0) l = 0))) rfl h128 rfl) ?_
                  refine s1 (v := (.bool true)) (rn_pT (b := true) rfl rfl rfl) ?_
                  refine s1 (v := (.bool true)) (rn_as rfl) ?_
                  refine w_end ?_
                  refine c_ret ?_
                  refine bp_ret (rs1 rfl (rv_tmp (v := (.bool true)) rfl)) ?_
                  have hln : (newL n.toNat self 0).length = n.toNat := newL_len _ _ _
                  have hg : Good (newL n.toNat self 0) := good_new (by omega) (by omega) (by omega) (by decide)
                  have hwas : (newL n.toNat self 0)[self.toNat]? = some ((newL n.toNat self 0)[self.toNat]?.getD default) := by rw [List.getElem?_eq_getElem (by omega)]; rfl
                  have hnow : (absR self (newL n.toNat self 0) l)[self.toNat]? = some ((absR self (newL n.toNat self 0) l)[self.toNat]?.getD default) := by rw [List.getElem?_eq_getElem (by rw [absR_len]; omega)]; rfl
                  have ho := own_law hg (by omega) hwas hnow
                  exact ⟨rfl, hE⟩
                ·
                  have p130 := of_decide_eq_false h128
                  refine g_yes rfl rfl rfl h128 ?_
                  refine s1 (v := (N3.val ((absR self (newL (n).toNat self 0) l)[(self).toNat]?.getD default))) (rn_lbN (vs := (N3.cells ((absR self (newL (n).toNat self 0) l)[(self).toNat]?.getD default))) g28 rfl hb52 rfl rfl) ?_
                  refine g_yes rfl rfl rfl h128 ?_
                  refine s1 (v := (N3.val ((newL (n).toNat self 0)[(self).toNat]?.getD default))) (rn_lbN (vs := (N3.cells ((newL (n).toNat self 0)[(self).toNat]?.getD default))) g28 rfl hb37 rfl rfl) ?_
                  refine g_yes rfl rfl rfl h128 ?_
                  refine s1 (v := (.bool (decide (((absR self (newL (n).toNat self 0) l)[(self).toNat]?.getD default) = ((newL (n).toNat self 0)[(self).toNat]?.getD default))))) (eq28 (a := ((absR self (newL (n).toNat self 0) l)[(self).toNat]?.getD default)) (b := ((newL (n).toNat self 0)[(self).toNat]?.getD default)) rfl rfl) ?_
                  refine g_yes rfl rfl rfl rfl ?_
                  refine s1 (v := (.bool (decide (((absR self (newL (n).toNat self 0) l)[(self).toNat]?.getD default) = ((newL (n).toNat self 0)[(self).toNat]?.getD default))))) (rn_pF (b := (decide (absE (newL (n).toNat self 0) l = 0))) rfl h128 rfl) ?_
                  refine s1 (v := (.bool (decide (((absR self (newL (n).toNat self 0) l)[(self).toNat]?.getD default) = ((newL (n).toNat self 0)[(self).toNat]?.getD default))))) (rn_pT (b := true) rfl rfl rfl) ?_
                  refine s1 (v := (.bool (decide (((absR self (newL (n).toNat self 0) l)[(self).toNat]?.getD default) = ((newL (n).toNat self 0)[(self).toNat]?.getD default))))) (rn_as rfl) ?_
                  refine w_end ?_
                  refine c_ret ?_
                  refine bp_ret (rs1 rfl (rv_tmp (v := (.bool (decide (((absR self (newL (n).toNat self 0) l)[(self).toNat]?.getD default) = ((newL (n).toNat self 0)[(self).toNat]?.getD default))))) rfl)) ?_
                  have hln : (newL n.toNat self 0).length = n.toNat := newL_len _ _ _
                  have hg : Good (newL n.toNat self 0) := good_new (by omega) (by omega) (by omega) (by decide)
                  have hwas : (newL n.toNat self 0)[self.toNat]? = some ((newL n.toNat self 0)[self.toNat]?.getD default) := by rw [List.getElem?_eq_getElem (by omega)]; rfl
                  have hnow : (absR self (newL n.toNat self 0) l)[self.toNat]? = some ((absR self (newL n.toNat self 0) l)[self.toNat]?.getD default) := by rw [List.getElem?_eq_getElem (by rw [absR_len]; omega)]; rfl
                  have ho := own_law hg (by omega) hwas hnow
                  have h_ := ho.2.2.resolve_left (of_decide_eq_false h128)
                  exact ⟨by rw [h_]; simp, hE⟩

end Go.Proofs.Ytfdffeameoejfaa
