/- law16: printed walks. -/
import Derived.Test.YtfdffeameoejfaaSpread
import Derived.Test.YtfdffeameoejfaaPSpread
namespace Go.Proofs.Ytfdffeameoejfaa
open Go Go.RowKit
set_option linter.unusedVariables false
set_option linter.unusedSimpArgs false

theorem bd34_0 {M : Nat} {l : Nat → Value} {w : World} {d : Option Tmp} {t : TypeId} {p : String} {af : Array Edge} {g : Option (Nat × Bool)} {x0 : Operand} {a0 : Int} (h0 : ev M l x0 = (.int .u32 a0)) :
    Rn Try.prog M l w d (.build 34 #[(0, x0)]) t p af g (.agg #[(.int .u32 a0), (u32 0), (u32 0), (u32 0)]) := by
  have hb : (Instr.build 34 #[(0, (.int .u32 a0))]).run Try.prog w = .ok (.agg #[(.int .u32 a0), (u32 0), (u32 0), (u32 0)]) w := by kernel_rfl
  simp [Rn, execOp, h0, hb]

theorem light_c (A : Option Addr) (n c : Nat) {w0 : World} :
    Calls Try.prog 19 [(.slice A n c)].toArray w0 (Ret (Pu (.bool (decide ((n : Int) ≤ 300))) w0)) := by
  have hE : Ext [] w0 w0 := (Ext.refl w0).more (by simp)
  refine enter (vs := [(.slice A n c)]) Try.func19 rfl Try.ntmps19 rfl ?_
  refine c_rs ?_
  refine s1 (v := (.bool false)) (rn_as rfl) ?_
  refine w_end ?_
  refine c_rs ?_
  refine s1 (v := (.slice A n c)) (rn_mv rfl) ?_
  refine s1 (v := (i64 (n : Int))) (rn_len is22 rfl) ?_
  refine s1 (v := (.bool (decide ((n : Int) ≤ 300)))) (rn_leq (m := (n : Int)) (n := 300) rfl rfl) ?_
  refine s1 (v := (.bool (decide ((n : Int) ≤ 300)))) (rn_as rfl) ?_
  refine w_end ?_
  refine c_ret ?_
  refine bp_ret (rs1 rfl (rv_tmp (v := (.bool (decide ((n : Int) ≤ 300)))) rfl)) ?_
  exact ⟨rfl, hE⟩

theorem alive_c {w0 : World} :
    Calls Try.prog 20 [].toArray w0 (Ret (Pu (.bool true) w0)) := by
  have hE : Ext [] w0 w0 := (Ext.refl w0).more (by simp)
  refine enter (vs := []) Try.func20 rfl Try.ntmps20 rfl ?_
  refine c_rs ?_
  refine s1 (v := (.bool false)) (rn_as rfl) ?_
  refine w_end ?_
  refine c_rs ?_
  refine s_call e53 (vs := [(i64 3), (i64 0), (i64 0)]) rfl (New_i 3 0 0 (by omega) (by omega) (by omega) (by omega) (by decide)) ?_
  rintro _ w3 ⟨p1, bb2, rfl, hB4, gp1, gbb2, x5⟩
  have np1_hE : w0.heap.size ≤ p1 := Nat.le_trans hE.size gp1
  clear gp1
  have nbb2_hE : w0.heap.size ≤ bb2 := Nat.le_trans hE.size gbb2
  clear gbb2
  replace hE := hE.step0 x5
  clear x5
  refine s1 (v := (.tuple #[(ptr p1 0), (i64 0)])) (rn_mv rfl) ?_
  refine s1 (v := (ptr p1 0)) (rn_ex (vs := [(ptr p1 0), (i64 0)]) rfl rfl) ?_
  refine s1 (v := (i64 0)) (rn_ex (vs := [(ptr p1 0), (i64 0)]) rfl rfl) ?_
  refine s1 (v := (ptr p1 0)) (rn_as rfl) ?_
  refine s1 (v := (i64 0)) (rn_as rfl) ?_
  refine w_end ?_
  refine c_rs ?_
  obtain ⟨nb, hnb⟩ : ∃ nb, nb = newL (3 : Int).toNat 0 0 := ⟨_, rfl⟩
  rw [← hnb] at hB4
  have hk0 : nb.length = 3 := by rw [hnb]; exact alive_b
  have hk1 : newsOf (absR 0 nb [N3.mk 2 1 1]) = [N3.mk 2 1 1] := by rw [hnb]; exact alive_n
  have hk3 : absE nb [N3.mk 2 1 1] = 0 := by rw [hnb]; exact alive_e
  have hk4 : absS 0 nb [N3.mk 2 1 1] = S4.mk 4 0 0 0 := by rw [hnb]; exact alive_s
  refine s1 (v := (ptr p1 0)) (rn_mv rfl) ?_
  refine s1 (v := (N3.val (N3.mk 2 1 1))) (bd28_0_1_2 rfl rfl rfl ) ?_
  refine s_bs et22 (vs := #[(0, (N3.val (N3.mk 2 1 1)))]) (cs := [(i64 ((N3.mk 2 1 1).of)), (i64 ((N3.mk 2 1 1).tag)), (i64 ((N3.mk 2 1 1).kind))]) (by kernel_rfl) (by decide) (by kernel_rfl) (fun b6 w7 hb6 gb6 x8 => ?_)
  have nb6_hE : w0.heap.size ≤ b6 := Nat.le_trans hE.size gb6
  have ob6_hB4 : p1 < b6 ∧ bb2 < b6 := ⟨Nat.lt_of_lt_of_le hB4.ltp gb6, Nat.lt_of_lt_of_le hB4.ltb gb6⟩
  clear gb6
  replace hE := hE.step0 x8
  replace hB4 := hB4.ext0 x8
  clear x8
  have hl9 : Ls N3.cells 3 w7 b6 (some ⟨b6, 0, none⟩) [(N3.mk 2 1 1)] := Ls.of_blk (rest := []) (fun _ => rfl) hb6
  refine s_call e23 (vs := [(ptr p1 0), (i64 0), (.slice (some ⟨b6, 0, none⟩) 1 1)]) rfl (Absorb_c (l := [(N3.mk 2 1 1)]) (gl := b6) (c := 1) hB4 0 hl9 (by first | omega | (simp only [absR_len, mergeR_len, newL_len]; omega)) (by first | omega | simp) (by first | omega | simp)) ?_
  rintro _ w10 ⟨rfl, hB11, x12⟩
  replace hE := hE.step1 x12 (by first | (left; simp; done) | (right; omega))
  replace hb6 := hb6.ext1 x12 (by omega)
  replace hl9 := hl9.ext1 x12 (by omega)
  clear x12
  replace hB4 := hB11; clear hB11
  refine s1 (v := (.tuple #[(S4.val (absS 0 nb ([(N3.mk 2 1 1)]))), (i64 (absE nb ([(N3.mk 2 1 1)])))])) (rn_mv rfl) ?_
  refine s1 (v := (S4.val (absS 0 nb ([(N3.mk 2 1 1)])))) (rn_ex (vs := [(S4.val (absS 0 nb ([(N3.mk 2 1 1)]))), (i64 (absE nb ([(N3.mk 2 1 1)])))]) rfl rfl) ?_
  refine s1 (v := (i64 (absE nb ([(N3.mk 2 1 1)])))) (rn_ex (vs := [(S4.val (absS 0 nb ([(N3.mk 2 1 1)]))), (i64 (absE nb ([(N3.mk 2 1 1)])))]) rfl rfl) ?_
  refine s_alloc (cs := [(u32 0), (u32 0), (u32 0), (u32 0)]) z34 rfl (fun b13 w14 hb13 gb13 x15 => ?_)
  have nb13_hE : w0.heap.size ≤ b13 := Nat.le_trans hE.size gb13
  have ob13 : b6 < b13 := Nat.lt_of_lt_of_le hb6.lt gb13
  have ob13_hB4 : p1 < b13 ∧ bb2 < b13 := ⟨Nat.lt_of_lt_of_le hB4.ltp gb13, Nat.lt_of_lt_of_le hB4.ltb gb13⟩
  clear gb13
  replace hE := hE.step0 x15
  replace hb6 := hb6.ext0 x15
  replace hB4 := hB4.ext0 x15
  replace hl9 := hl9.ext0 x15
  clear x15
  refine s_st (v := (S4.val (absS 0 nb ([(N3.mk 2 1 1)])))) (vs := (S4.cells (absS 0 nb ([(N3.mk 2 1 1)])))) (cs' := (S4.cells (absS 0 nb ([(N3.mk 2 1 1)])))) g34.2 rfl rfl rfl rfl hb13 (by simp) rfl rfl (fun w16 h_ x17 => ?_)
  replace hE := hE.step1 x17 (by first | (left; simp; done) | (right; omega))
  replace hb6 := hb6.ext1 x17 (by omega)
  replace hB4 := hB4.ext1 x17 (by omega)
  replace hl9 := hl9.ext1 x17 (by omega)
  clear x17
  replace hb13 := h_; clear h_
  refine s1 (v := (i64 (absE nb ([(N3.mk 2 1 1)])))) (rn_as rfl) ?_
  refine w_end ?_
  refine c_rs ?_
  refine s1 (v := (ptr p1 0)) (rn_mv rfl) ?_
  refine s_call e49 (vs := [(ptr p1 0)]) rfl (Ride_c hB4 (by first | omega | (simp only [absR_len, mergeR_len, newL_len]; omega))) ?_
  rintro _ w22 ⟨A18, c19, g20, rfl, hl21, gg20, x23⟩
  have dg20 := gg20.imp_left (fun q => And.intro (Nat.le_trans hE.size q) (And.intro (Nat.lt_of_lt_of_le hb6.lt q) (And.intro (Nat.lt_of_lt_of_le hb13.lt q) (And.intro (Nat.lt_of_lt_of_le hB4.ltp q) (Nat.lt_of_lt_of_le hB4.ltb q)))))
  clear gg20
  replace hE := hE.step0 x23
  replace hb6 := hb6.ext0 x23
  replace hb13 := hb13.ext0 x23
  replace hB4 := hB4.ext0 x23
  replace hl9 := hl9.ext0 x23
  clear x23
  refine s1 (v := (.slice A18 (((newsOf (absR 0 nb ([(N3.mk 2 1 1)])))).length) c19)) (rn_as rfl) ?_
  refine w_end ?_
  refine c_rs ?_
  have hk5 : (newsOf (absR 0 nb [N3.mk 2 1 1])).length = 1 := by rw [hk1]; rfl
  refine s1 (v := (i64 (absE nb ([(N3.mk 2 1 1)])))) (rn_mv rfl) ?_
  refine s1 (v := (.bool (decide (absE nb ([(N3.mk 2 1 1)]) = 0)))) (rn_eql (m := absE nb ([(N3.mk 2 1 1)])) (n := 0) rfl rfl) ?_
  refine s1 (v := (.bool (decide (absE nb ([(N3.mk 2 1 1)]) = 0)))) (rn_mv rfl) ?_
  refine g_yes rfl rfl rfl (decide_eq_true hk3) ?_
  refine s1 (v := (S4.val (absS 0 nb ([(N3.mk 2 1 1)])))) (rn_lbN (vs := (S4.cells (absS 0 nb ([(N3.mk 2 1 1)])))) g34 rfl hb13 rfl rfl) ?_
  refine g_yes rfl rfl rfl (decide_eq_true hk3) ?_
  refine s1 (v := (S4.val (S4.mk 4 0 0 0))) (bd34_0 rfl ) ?_
  refine g_yes rfl rfl rfl (decide_eq_true hk3) ?_
  refine s1 (v := (.bool (decide ((absS 0 nb ([(N3.mk 2 1 1)])) = (S4.mk 4 0 0 0))))) (eq34 (a := (absS 0 nb ([(N3.mk 2 1 1)]))) (b := (S4.mk 4 0 0 0)) rfl rfl) ?_
  refine s1 (v := (.bool (decide ((absS 0 nb ([(N3.mk 2 1 1)])) = (S4.mk 4 0 0 0))))) (rn_pT (b := (decide (absE nb ([(N3.mk 2 1 1)]) = 0))) rfl (decide_eq_true hk3) rfl) ?_
  refine s1 (v := (.bool (decide ((absS 0 nb ([(N3.mk 2 1 1)])) = (S4.mk 4 0 0 0))))) (rn_mv rfl) ?_
  refine g_yes rfl rfl rfl (decide_eq_true hk4) ?_
  refine s1 (v := (.slice A18 (((newsOf (absR 0 nb ([(N3.mk 2 1 1)])))).length) c19)) (rn_mv rfl) ?_
  refine g_yes rfl rfl rfl (decide_eq_true hk4) ?_
  refine s1 (v := (i64 (((newsOf (absR 0 nb ([(N3.mk 2 1 1)])))).length : Int))) (rn_len is22 rfl) ?_
  refine g_yes rfl rfl rfl (decide_eq_true hk4) ?_
  refine s1 (v := (.bool (decide ((((newsOf (absR 0 nb ([(N3.mk 2 1 1)])))).length : Int) = 1)))) (rn_eql (m := (((newsOf (absR 0 nb ([(N3.mk 2 1 1)])))).length : Int)) (n := 1) rfl rfl) ?_
  refine s1 (v := (.bool (decide ((((newsOf (absR 0 nb ([(N3.mk 2 1 1)])))).length : Int) = 1)))) (rn_pT (b := (decide ((absS 0 nb ([(N3.mk 2 1 1)])) = (S4.mk 4 0 0 0)))) rfl (decide_eq_true hk4) rfl) ?_
  refine s1 (v := (.bool (decide ((((newsOf (absR 0 nb ([(N3.mk 2 1 1)])))).length : Int) = 1)))) (rn_mv rfl) ?_
  refine g_yes rfl rfl rfl (by rw [hk5]; rfl) ?_
  refine s1 (v := (.slice A18 (((newsOf (absR 0 nb ([(N3.mk 2 1 1)])))).length) c19)) (rn_mv rfl) ?_
  refine g_yes rfl rfl rfl (by rw [hk5]; rfl) ?_
  obtain ⟨x24, o25, hx26, hA27, el28⟩ := hl21.el (k := 0) (by omega)
  refine s1 (v := (ptr g20 (o25 + 0 * 3))) (rn_ie is22 rfl hA27 rfl (by omega) (by omega) rfl) ?_
  refine g_yes rfl rfl rfl (by rw [hk5]; rfl) ?_
  have hk2 : x24 = N3.mk 2 1 1 := by rw [hk1] at hx26; exact (Option.some.inj hx26).symm
  refine s1 (v := (ptr g20 (o25 + 0 * 3))) (rn_fa fa28_0 rfl rfl) ?_
  refine g_yes rfl rfl rfl (by rw [hk5]; rfl) ?_
  refine s1 (v := (i64 x24.of)) (rn_ld1 o3 rfl (el28 0 _ rfl)) ?_
  refine g_yes rfl rfl rfl (by rw [hk5]; rfl) ?_
  refine s1 (v := (.bool (decide (x24.of = 2)))) (rn_eql (m := x24.of) (n := 2) rfl rfl) ?_
  refine s1 (v := (.bool (decide (x24.of = 2)))) (rn_pT (b := (decide ((((newsOf (absR 0 nb ([(N3.mk 2 1 1)])))).length : Int) = 1))) rfl (by rw [hk5]; rfl) rfl) ?_
  refine s1 (v := (.bool (decide (x24.of = 2)))) (rn_as rfl) ?_
  refine w_end ?_
  refine c_ret ?_
  refine bp_ret (rs1 rfl (rv_tmp (v := (.bool (decide (x24.of = 2)))) rfl)) ?_
  exact ⟨by rw [hk2]; rfl, hE⟩

theorem made_c {A : Option Addr} {gl c : Nat} {l : List N3} {w0 : World} (n self : Int) (hl : Ls N3.cells 3 w0 gl A l) (h1 : 1 ≤ n) (h2 : n ≤ 100) (h3 : 0 ≤ self) (h4 : self < n) (hgl : gl < w0.heap.size ∨ l.length = 0) (hll : l.length ≤ 1000000) :
    Calls Try.prog 21 [(i64 n), (i64 self), (.slice A l.length c)].toArray w0 (Ret (fun v w' => ∃ p b, v = ptr p 0 ∧ Bk w' p b (mergeR (newL (n).toNat self 0) l) ∧ w0.heap.size ≤ p ∧ w0.heap.size ≤ b ∧ Ext [] w0 w')) := by
  have hE : Ext [] w0 w0 := (Ext.refl w0).more (by simp)
  refine enter (vs := [(i64 n), (i64 self), (.slice A l.length c)]) Try.func21 rfl Try.ntmps21 rfl ?_
  refine c_rs ?_
  refine s1 (v := (.pointer none)) (rn_as rfl) ?_
  refine w_end ?_
  refine c_rs ?_
  refine s1 (v := (i64 n)) (rn_mv rfl) ?_
  refine s1 (v := (i64 self)) (rn_mv rfl) ?_
  refine s_call e53 (vs := [(i64 n), (i64 self), (i64 0)]) rfl (New_i n self 0 (by omega) (by omega) (by omega) (by omega) (by decide)) ?_
  rintro _ w3 ⟨p1, bb2, rfl, hB4, gp1, gbb2, x5⟩
  have np1_hE : w0.heap.size ≤ p1 := Nat.le_trans hE.size gp1
  clear gp1
  have nbb2_hE : w0.heap.size ≤ bb2 := Nat.le_trans hE.size gbb2
  clear gbb2
  replace hE := hE.step0 x5
  replace hl := hl.ext0 x5
  clear x5
  refine s1 (v := (.tuple #[(ptr p1 0), (i64 0)])) (rn_mv rfl) ?_
  refine s1 (v := (ptr p1 0)) (rn_ex (vs := [(ptr p1 0), (i64 0)]) rfl rfl) ?_
  refine s1 (v := (i64 0)) (rn_ex (vs := [(ptr p1 0), (i64 0)]) rfl rfl) ?_
  refine s1 (v := (ptr p1 0)) (rn_as rfl) ?_
  refine s1 (v := (i64 0)) (rn_as rfl) ?_
  refine w_end ?_
  refine c_rs ?_
  refine s1 (v := (ptr p1 0)) (rn_mv rfl) ?_
  refine s1 (v := (.slice A l.length c)) (rn_mv rfl) ?_
  have := hl.lt (by simp)
  refine s_call e65 (vs := [(ptr p1 0), (.slice A l.length c)]) rfl (Merge_c (l := l) (gl := gl) (c := c) hB4 hl (by first | omega | (simp only [absR_len, mergeR_len, newL_len]; omega)) (by first | omega | simp) (by first | omega | simp) (by first | omega | simp)) ?_
  rintro _ w6 ⟨rfl, hB7, x8⟩
  replace hE := hE.step1 x8 (by first | (left; simp; done) | (right; omega))
  replace hl := hl.ext1 x8 (by omega)
  clear x8
  replace hB4 := hB7; clear hB7
  refine w_end ?_
  refine c_rs ?_
  refine s1 (v := (ptr p1 0)) (rn_mv rfl) ?_
  refine s1 (v := (ptr p1 0)) (rn_as rfl) ?_
  refine w_end ?_
  refine c_ret ?_
  refine bp_ret (rs1 rfl (rv_tmp (v := (ptr p1 0)) rfl)) ?_
  exact ⟨p1, bb2, rfl, hB4, by omega, by omega, hE⟩

theorem made_S {N : Nat} {args : Array Value} {xs : List N3} {W : World} (hN : N ≤ W.heap.size) (h : Calls Try.prog 21 args W (Ret (fun v w' => ∃ p b, v = ptr p 0 ∧ Bk w' p b xs ∧ W.heap.size ≤ p ∧ W.heap.size ≤ b ∧ Ext [] W w'))) :
    Calls Try.prog 21 args W (Ret fun v W' => SBk N xs v W.heap.size W'.heap.size W' ∧ Ext [] W W') := by
  refine h.mono fun e W' he => ?_
  cases e with
  | returned v => obtain ⟨p, b, rfl, hB, h1, h2, hx⟩ := he; exact ⟨⟨p, b, rfl, hB, ⟨by omega, by omega⟩, ⟨h1, h2⟩, hB.ltp, hB.ltb⟩, hx⟩
  | panicked ch => exact he.elim
  | outgrown => exact he.elim

end Go.Proofs.Ytfdffeameoejfaa
